/- Texts of this proof, one after the other: VO, VS, VI, VJ, VK, VT, VA, T. -/
import Derived.Test.YteibkofekpejgaaGreatDoorZ4
set_option linter.unusedVariables false
set_option linter.unusedSimpArgs false
namespace Go.Proofs.YteibkofekpejgaaGreatDoor
open Go.RowKit
section
variable {E:Env} {J:bV} {k:List Ct} {S S1 S2:St} {c0 c:Cx} {ρ:Ro} {F:Fm}
def wW:Option Blk→V
 | some (.pown n g z l)=> .sl z n g l
 | _=> .un
def sB (off:Nat):Option Blk→V
 | some (.pvar n g d)=>if off=0 then .pp n g d else .un
 | _=> .un
mutual
def jW (H:List (Nat×Blk)):V→V
 | .own i=>wW (ab H i)
 | .ptr i o=>sB o (ab H i)
 | .optr _ _ _ _=> .un
 | .osub _ _ _ _=> .un
 | .agg l=> .agg (fY H l)
 | .tup l=> .tup (fY H l)
 | .fn f l=> .fn f (fY H l)
 | v=>v
def fY (H:List (Nat×Blk)):List V→List V
 | []=> []
 | d::l=>jW H d::fY H l
end
mutual
theorem sC (h:Sim E c0 c ρ S F): ∀{d:V} {v:Value},rd ρ c d v→rd ro0 c (jW S.H d) v
 | .int _ _,_,hr=>hr
 | .bool _,_,hr=>hr
 | .ifc _,_,hr=>hr
 | .str _,_,hr=>hr
 | .agg l,v,hr=>by
  simp only [rd,jW] at hr⊢
  obtain ⟨cs,e,hr⟩:=hr
  exact ⟨cs,e,Ce h hr⟩
 | .sl z n g l,v,hr=>hr
 | .pp n g d,v,hr=>hr
 | .own i,v,hr=>by
  simp only [rd] at hr
  simp only [jW]
  cases hb:ab S.H i with
  | none=>trivial
  | some b=>
   cases b with
   | pown n g z l=>
    obtain ⟨v',h1,h2⟩:=h.heap _ _ hb
    rw [hr.1] at h1;cases h1
    exact h2
   | _=>trivial
 | .ptr i o,v,hr=>by
  simp only [rd] at hr
  simp only [jW]
  obtain ⟨b0,hb0,he⟩:=hr
  cases hb:ab S.H i with
  | none=>trivial
  | some b=>
   cases b with
   | pvar n g d=>
    obtain ⟨b',h1,h2⟩:=h.heap _ _ hb
    rw [hb0] at h1;cases h1
    simp only [sB]
    split
    ·rename_i e;subst e;subst he
     exact gw.2 h2
    ·trivial
   | _=>trivial
 | .optr _ _ _ _,_,_=>trivial
 | .osub _ _ _ _,_,_=>trivial
 | .tup l,v,hr=>by
  simp only [rd,jW] at hr⊢
  obtain ⟨cs,e,hr⟩:=hr
  exact ⟨cs,e,sD h hr⟩
 | .fn f l,v,hr=>by
  simp only [rd,jW] at hr⊢
  obtain ⟨cs,e,hr⟩:=hr
  exact ⟨cs,e,sD h hr⟩
 | .opq p,v,hr=>hr
 | .un,_,_=>trivial
theorem Ce (h:Sim E c0 c ρ S F): ∀{l:List V} {cs:List Value},rdC ρ c l cs→rdC ro0 c (fY S.H l) cs
 | [],_,hr=>hr
 | d::l,cs,hr=>by
  simp only [rdC,fY] at hr⊢
  obtain ⟨u,c2,e,h1,h2,h3⟩:=hr
  exact ⟨u,c2,e,h1,sC h h2,Ce h h3⟩
theorem sD (h:Sim E c0 c ρ S F): ∀{l:List V} {cs:List Value},rdT ρ c l cs→rdT ro0 c (fY S.H l) cs
 | [],_,hr=>hr
 | d::l,cs,hr=>by
  simp only [rdT,fY] at hr⊢
  obtain ⟨u,c2,e,h2,h3⟩:=hr
  exact ⟨u,c2,e,sC h h2,sD h h3⟩
end
theorem Cf {vs ws:List V} (hm:mtL (fY S.H vs) ws):oE E S vs S ws:=
 fun _ c ρ _ _ h hr=>⟨c,ρ,rfl,Cx.pub.refl _,h,hP hm (sD h.1 hr)⟩
def ff (E:Env) (S S1:St):Prop:= ∀c0 c ρ F,aT E c0 c ρ S F→ ∃c1,c1.w=c.w∧c.pub c1∧aT E c0 c1 ρ S1 F
theorem ff.weak (h:ff E S S1):b_ E S S1:=by
 intro c0 c ρ F hs
 obtain ⟨c1,e,_,h1⟩:=h c0 c ρ F hs
 exact ⟨c1,ρ,e,h1⟩
theorem ff.trans (h:ff E S S1) (h':ff E S1 S2):ff E S S2:=by
 intro c0 c ρ F hs
 obtain ⟨c1,e,p1,h1⟩:=h c0 c ρ F hs
 obtain ⟨c2,e2,p2,h2⟩:=h' c0 c1 ρ F h1
 exact ⟨c2,e2.trans e,p1.trans p2,h2⟩
def ic (E:Env) (S S1:St):Prop:= ∀c0 c ρ F,aT E c0 c ρ S F→ ∃c1 ρ1,c1.w=c.w∧c.pub c1∧gx ρ ρ1∧aT E c0 c1 ρ1 S1 F
theorem ic.weak (h:ic E S S1):b_ E S S1:=by
 intro c0 c ρ F hs
 obtain ⟨c1,ρ1,e,_,_,h1⟩:=h c0 c ρ F hs
 exact ⟨c1,ρ1,e,h1⟩
theorem ff.toQ (h:ff E S S1):ic E S S1:=by
 intro c0 c ρ F hs
 obtain ⟨c1,e,p,h1⟩:=h c0 c ρ F hs
 exact ⟨c1,ρ,e,p,fun _ _ h=>h,h1⟩
theorem ic.trans (h:ic E S S1) (h':ic E S1 S2):ic E S S2:=by
 intro c0 c ρ F hs
 obtain ⟨c1,ρ1,e,p1,r1,h1⟩:=h c0 c ρ F hs
 obtain ⟨c2,ρ2,e2,p2,r2,h2⟩:=h' c0 c1 ρ1 F h1
 exact ⟨c2,ρ2,e2.trans e,p1.trans p2,fun i v hi=>r2 i v (r1 i v hi),h2⟩
theorem JL {vs ws:List V} (h:ff E S S1) (hg:oE E S1 vs S2 ws):oE E S vs S2 ws:=by
 intro c0 c ρ F us hs hr
 obtain ⟨c1,e,p1,h1⟩:=h c0 c ρ F hs
 obtain ⟨c2,ρ2,e2,p2,h2,h3⟩:=hg c0 c1 ρ F us h1 (eW p1 hr)
 exact ⟨c2,ρ2,e2.trans e,p1.trans p2,h2,h3⟩
theorem lv {f:FuncId} {caps vs:List V} {d:Option Nat} {ws:List V} {r:V} {H:List Blk} (hc:aV E f ws r H) (hw:ff E S S1) (hm:mtL (fY S1.H (vs++caps)) ws) (h:wfV r→aG E J k .normal (S1.after d r H)):eP E J (some (.fn f caps)) (some vs) S d k:=
 .inl ⟨ws,r,H,hc,.inl ⟨S1,JL hw (Cf hm),h⟩⟩
theorem JM {f:FuncId} {caps vs:List V} {d:Option Nat} {ws:List V} {r:V} {H:List Blk} (hc:aV E f ws r H) (hm:mtL (fY S.H (vs++caps)) ws) (h:wfV r→aG E J k .normal (S.after d r H)):eP E J (some (.fn f caps)) (some vs) S d k:=
 .inl ⟨ws,r,H,hc,.inl ⟨S,Cf hm,h⟩⟩
theorem ie (i:Nat) {T n:Nat} {g:Bool} {z:Option Bool} {l:List V} (h:ab S.H i=some (.own T n g z l)):ff E S ⟨S.F,cK S.H i (.pown n g z l),S.nx⟩:=by
 intro c0 c ρ F hs
 obtain ⟨v,hv,hown,hge,hone,a,cap,es,hz⟩:=hs.1.heap _ _ h
 obtain ⟨c1,ρ1,e,h1⟩:=ls i h c0 c ρ F hs
 have hpd:=c.pub_dropv v
 have hbo:ak ρ i=blk v:=by unfold ak;rw [hv,es]
 have hsep: ∀j b,i≠j→ab S.H j=some b→aQ b=true→ ∀x,ak ρ j=some x→blk v≠some x:=by
  intro j b hij hb hp x hx hx'
  exact hs.1.sep i j _ b x hij h hb rfl hp (hbo▸hx') hx
 refine ⟨c.dropv v,rfl,hpd,⟨hs.1.since.dropv hge,hs.1.gl.mono hpd,fun t x ht=>bl hpd (hs.1.slot t x ht),?_,?_⟩,hs.2⟩
 ·intro j b hb
  simp only [cC] at hb
  split at hb
  ·rename_i e;subst e;cases hb
   refine ⟨v,hv,?_⟩
   obtain ⟨a',cap',e1,h1,h2⟩:=fp.1 hown.val
   rw [es] at e1;cases e1
   exact dn.2 ⟨a,cap,es,h1,hz,h2⟩
  ·rename_i hij
   have hb0:=hs.1.heap _ _ hb
   have hsp:=hsep j b hij hb
   cases b with
   | var n' g' d=>
    obtain ⟨b',h1,h2,h3⟩:=hb0
    exact ⟨b',h1,h2,Cx.dropv_var h3 (hsp rfl b' (by simp [ak,h1]))⟩
   | own E' n' g' z' l'=>
    obtain ⟨v',h1,h2,h3,h4,a',cap',e',h5⟩:=hb0
    exact ⟨v',h1,Cx.dropv_own h2 (fun x hx=>hsp rfl x (by unfold ak;rw [h1,e'];rw [e'] at hx;exact hx)),h3,h4,a',cap',e',h5⟩
   | ownI E' n' g' z' l'=>
    obtain ⟨v',h1,h2,h3,h4,a',cap',e',h5⟩:=hb0
    exact ⟨v',h1,Cx.dropv_own h2 (fun x hx=>hsp rfl x (by unfold ak;rw [h1,e'];rw [e'] at hx;exact hx)),h3,h4,a',cap',e',h5⟩
   | pvar n' g' d=>
    obtain ⟨b',h1,h2⟩:=hb0
    exact ⟨b',h1,(jw _).mono h2 hpd⟩
   | pown n' g' z' l'=>
    obtain ⟨v',h1,h2⟩:=hb0
    exact ⟨v',h1,bl hpd h2⟩
   | lent k' n' g' d=>
    obtain ⟨h1,h2,h3⟩:=hb0
    exact ⟨h1,h2,Cx.dropv_var h3 (hsp rfl k' (by simp [ak,h1]))⟩
   | kset g' k' n' l'=>
    obtain ⟨r,h1,h2,h3⟩:=hb0
    exact ⟨r,h1,h2,Cx.dropv_set h3 (hsp rfl r (by simp [ak,h1,blk]))⟩
 ·intro a b ba bb x hab ha hb hpa hpb hx
  simp only [cC] at ha hb
  split at ha
  ·cases ha;cases hpa
  ·split at hb
   ·cases hb;cases hpb
   ·exact hs.1.sep a b ba bb x hab ha hb hpa hpb hx
def dw:List Nat→Nat→Nat→Option Nat
 | [],_,_=>none
 | j::l,i,k=>if j=i then some k else dw l i (k+1)
def sE (H:List (Nat×Blk)) (i:Nat):Option Nat→V
 | some k=> .own k
 | none=>jP (ab H i)
mutual
def fg (H:List (Nat×Blk)) (ids:List Nat):V→V
 | .own i=>sE H i (dw ids i 0)
 | .ptr i o=>match dw ids i 0 with
  | some k=> .ptr k o
  | none=> .un
 | .optr _ _ _ _=> .un
 | .osub _ _ _ _=> .un
 | .agg l=> .agg (jb H ids l)
 | .tup l=> .tup (jb H ids l)
 | .fn f l=> .fn f (jb H ids l)
 | v=>v
def jb (H:List (Nat×Blk)) (ids:List Nat):List V→List V
 | []=> []
 | d::l=>fg H ids d::jb H ids l
end
theorem lw: ∀{l:List Nat} {i k q:Nat},dw l i k=some q→k≤q∧l[q - k]? =some i
 | [],_,_,_,h=>by simp [dw] at h
 | j::l,i,k,q,h=>by
  simp only [dw] at h
  split at h
  ·rename_i e;subst e;cases h;simp
  ·obtain ⟨h1,h2⟩:=lw h
   refine ⟨by omega,?_⟩
   rw [show q - k=(q - (k+1))+1 by omega,List.getElem?_cons_succ]
   exact h2
theorem wX: ∀{l:List Nat} {i k:Nat},dw l i k=none→i∉l
 | [],_,_,_=>by simp
 | j::l,i,k,h=>by
  simp only [dw] at h
  split at h
  ·cases h
  ·rename_i e
   simp only [List.mem_cons,not_or]
   exact ⟨fun e'=>e e'.symm,wX h⟩
def bR (ρ:Ro) (ids:List Nat):Ro:=fun k=>match ids[k]? with
 | some i=>ρ i
 | none=>none
def Cx.give (c0 c:Cx) (ρ:Ro) (ids:List Nat) (h0:c0.w.heap.size≤c.w.heap.size) (h: ∀i∈ids,∀k,ak ρ i=some k→k<c.w.heap.size):Cx:=
 {X:=c0.X++ids.filterMap (ak ρ),w:=c.w,ok:=fun k hk=>(by
  rcases List.mem_append.1 hk with hk|hk
  ·exact Nat.lt_of_lt_of_le (c0.ok k hk) h0
  ·obtain ⟨i,hi,hb⟩:=List.mem_filterMap.1 hk
   exact h i hi k hb)}
def jX (H:List (Nat×Blk)):List Nat→List Blk→Prop
 | [],[]=>True
 | i::ids,b::bs=>ab H i=some b∧(match b with| .own _ _ _ _ _=>True|_=>False)∧jX H ids bs
 | _,_=>False
theorem Cg {H:List (Nat×Blk)}: ∀{ids:List Nat} {bs:List Blk},jX H ids bs→ids.length=bs.length∧(∀(k:Nat) (b:Blk),bs[k]? =some b→ ∃i,ids[k]? =some i∧ab H i=some b∧ ∃T n g z l,b= .own T n g z l)∧ ∀i∈ids,∃b,ab H i=some b∧ ∃T n g z l,b= .own T n g z l
 | [],[],_=>⟨rfl,by simp,by simp⟩
 | i::ids,b::bs,h=>by
  simp only [jX] at h
  obtain ⟨h1,h2,h3⟩:=h
  obtain ⟨g1,g2,g3⟩:=Cg h3
  have hb: ∃T n g z l,b= .own T n g z l:=by
   cases b<;>first|exact ⟨_,_,_,_,_,rfl⟩|exact h2.elim
  refine ⟨by simp [g1],?_,?_⟩
  ·intro k b' hk
   cases k with
   | zero=>simp at hk;subst hk;exact ⟨i,by simp,h1,hb⟩
   | succ k=>obtain ⟨j,e,g⟩:=g2 k b' (by simpa using hk);exact ⟨j,by simpa using e,g⟩
  ·intro j hj
   rcases List.mem_cons.1 hj with rfl|hj
   ·exact ⟨b,h1,hb⟩
   ·exact g3 j hj
 | [],_::_,h=>by simp [jX] at h
 | _::_,[],h=>by simp [jX] at h
theorem JN {c1:Cx} (hw:c1.w=c.w) (hpb:c.pub c1) (h:Sim E c0 c ρ S F) {i:Nat} {b:Blk} {v:Value} (hb:ab S.H i=some b) (hv:ρ i=some v) (hn:aQ b=true→ ∀k,ak ρ i=some k→k∉c1.X):rd ro0 c1 (jP (some b)) v:=by
 have hblk:=h.heap i b hb
 cases b with
 | own T n g z l=>
  obtain ⟨v',h1,h2,h3,h4,a,cap,e,hz⟩:=hblk
  rw [hv] at h1;cases h1
  simp only [jP]
  refine dn.2 ⟨a,cap,e,⟨h2.1,?_⟩,hz,?_⟩
  ·rcases h2.2 with ⟨a',_,rfl⟩|⟨g',cp,cur,e2,_,_,k3,_⟩
   ·simp
   ·rw [e] at e2;cases e2;exact k3
  ·rcases h2.2 with ⟨a',_,rfl⟩|⟨g',cp,cur,e2,k1,k2,k3,k4,k5,k6⟩
   ·exact .inl rfl
   ·rw [e] at e2;cases e2
    refine .inr ⟨g',0,_,rfl,by rw [hw];exact c.ok g' k1,hn rfl g' (by unfold ak;rw [hv,e];rfl),?_,c_ hpb k6⟩
    intro j u hj
    rw [List.getElem?_take] at hj
    split at hj
    ·simp only [Nat.zero_add]
     show c1.w.cell? _=_
     rw [hw]
     simp only [World.cell?,k2]
     simpa using hj
    ·cases hj
 | pown n g z l=>
  obtain ⟨v',h1,h2⟩:=hblk
  rw [hv] at h1;cases h1
  exact bl hpb h2
 | _=>trivial
mutual
theorem pd {c1:Cx} {ids:List Nat} (hw:c1.w=c.w) (hpb:c.pub c1) (h:Sim E c0 c ρ S F) (hn: ∀i b,i∉ids→ab S.H i=some b→aQ b=true→ ∀k,ak ρ i=some k→k∉c1.X): ∀{d:V} {v:Value},rd ρ c d v→rd (bR ρ ids) c1 (fg S.H ids d) v
 | .int _ _,_,hr=>hr
 | .bool _,_,hr=>hr
 | .ifc _,_,hr=>hr
 | .str _,_,hr=>hr
 | .agg l,v,hr=>by
  simp only [rd,fg] at hr⊢
  obtain ⟨cs,e,hr⟩:=hr
  exact ⟨cs,e,Ch hw hpb h hn hr⟩
 | .sl z n g l,v,hr=>bl hpb (show rd ro0 c (.sl z n g l) v from hr)
 | .pp n g d,v,hr=>bl hpb (show rd ro0 c (.pp n g d) v from hr)
 | .own i,v,hr=>by
  simp only [rd] at hr
  simp only [fg]
  cases hp:dw ids i 0 with
  | some q=>
   obtain ⟨_,h2⟩:=lw hp
   simp only [sE,rd]
   exact ⟨by simp only [bR];rw [show q - 0=q from rfl] at h2;rw [h2];exact hr.1,hr.2⟩
  | none=>
   simp only [sE]
   cases hb:ab S.H i with
   | none=>trivial
   | some b=>exact rd0 (JN hw hpb h hb hr.1 (fun hp'=>hn i b (wX hp) hb hp'))
 | .ptr i o,v,hr=>by
  simp only [rd] at hr
  simp only [fg]
  cases hp:dw ids i 0 with
  | some q=>
   obtain ⟨_,h2⟩:=lw hp
   obtain ⟨b,h3,h4⟩:=hr
   simp only [rd]
   exact ⟨b,by simp only [bR];rw [show q - 0=q from rfl] at h2;rw [h2];exact h3,h4⟩
  | none=>trivial
 | .optr _ _ _ _,_,_=>trivial
 | .osub _ _ _ _,_,_=>trivial
 | .tup l,v,hr=>by
  simp only [rd,fg] at hr⊢
  obtain ⟨cs,e,hr⟩:=hr
  exact ⟨cs,e,wY hw hpb h hn hr⟩
 | .fn f l,v,hr=>by
  simp only [rd,fg] at hr⊢
  obtain ⟨cs,e,hr⟩:=hr
  exact ⟨cs,e,wY hw hpb h hn hr⟩
 | .opq p,v,hr=>bl hpb (show rd ro0 c (.opq p) v from hr)
 | .un,_,_=>trivial
theorem Ch {c1:Cx} {ids:List Nat} (hw:c1.w=c.w) (hpb:c.pub c1) (h:Sim E c0 c ρ S F) (hn: ∀i b,i∉ids→ab S.H i=some b→aQ b=true→ ∀k,ak ρ i=some k→k∉c1.X): ∀{l:List V} {cs:List Value},rdC ρ c l cs→rdC (bR ρ ids) c1 (jb S.H ids l) cs
 | [],_,hr=>hr
 | d::l,cs,hr=>by
  simp only [rdC,jb] at hr⊢
  obtain ⟨u,c2,e,h1,h2,h3⟩:=hr
  exact ⟨u,c2,e,h1,pd hw hpb h hn h2,Ch hw hpb h hn h3⟩
theorem wY {c1:Cx} {ids:List Nat} (hw:c1.w=c.w) (hpb:c.pub c1) (h:Sim E c0 c ρ S F) (hn: ∀i b,i∉ids→ab S.H i=some b→aQ b=true→ ∀k,ak ρ i=some k→k∉c1.X): ∀{l:List V} {cs:List Value},rdT ρ c l cs→rdT (bR ρ ids) c1 (jb S.H ids l) cs
 | [],_,hr=>hr
 | d::l,cs,hr=>by
  simp only [rdT,jb] at hr⊢
  obtain ⟨u,c2,e,h2,h3⟩:=hr
  exact ⟨u,c2,e,pd hw hpb h hn h2,wY hw hpb h hn h3⟩
end
theorem pe: ∀{l:List Nat} {i q q':Nat},l.Nodup→l[q]? =some i→l[q']? =some i→q=q'
 | [],_,_,_,_,h,_=>by simp at h
 | a::l,i,0,0,_,_,_=>rfl
 | a::l,i,0,q'+1,hd,h,h'=>by
  simp at h h';subst h
  exact absurd (List.mem_of_getElem? h') (List.nodup_cons.1 hd).1
 | a::l,i,q+1,0,hd,h,h'=>by
  simp at h h';subst h'
  exact absurd (List.mem_of_getElem? h) (List.nodup_cons.1 hd).1
 | a::l,i,q+1,q'+1,hd,h,h'=>by
  simp only [List.getElem?_cons_succ] at h h'
  rw [pe (List.nodup_cons.1 hd).2 h h']
theorem JO {v r:V} (ids:List Nat) {bs:List Blk} (ho:jX S.H ids bs) (hd:ids.Nodup) (hm:mt (fg S.H ids v) r):oQ E S v r bs:=by
 intro c0 c ρ F u hY h hr
 obtain ⟨hlen,hget,hall⟩:=Cg ho
 have hlt: ∀i∈ids,∀k,ak ρ i=some k→k<c.w.heap.size:=by
  intro i hi k hk
  obtain ⟨b,hb,T,n,g,z,l,rfl⟩:=hall i hi
  exact eN rfl (h.1.heap _ _ hb) k hk
 have hge: ∀i∈ids,∀k,ak ρ i=some k→c0.w.heap.size≤k:=by
  intro i hi k hk
  obtain ⟨b,hb,T,n,g,z,l,rfl⟩:=hall i hi
  exact Cx.mine_of hY (gY h.1 hb rfl k hk)
 have hX: ∀i∈ids,∀k,ak ρ i=some k→k∈c.X:=by
  intro i hi k hk
  obtain ⟨b,hb,T,n,g,z,l,rfl⟩:=hall i hi
  obtain ⟨v,h1,h2,_,_,a,cap,e,_⟩:=h.1.heap _ _ hb
  refine h2.isX k ?_
  unfold ak at hk
  rw [h1,e] at hk
  rw [e];exact hk
 have hpub:c.pub (Cx.give c0 c ρ ids h.1.since.size hlt):=by
  refine ⟨Nat.le_refl _,fun k hk hx=>⟨fun h'=> ?_,fun _ h _=>h⟩⟩
  rcases List.mem_append.1 h' with h'|h'
  ·exact hx (h.1.since.X k h' (by rw [hY];simp))
  ·obtain ⟨i,hi,hb⟩:=List.mem_filterMap.1 h'
   exact hx (hX i hi k hb)
 have hle:c0.le (Cx.give c0 c ρ ids h.1.since.size hlt):=by
  refine Cx.leY.le ⟨h.1.since.below,fun k hk _=>⟨fun h'=> ?_,fun h'=>List.mem_append.2 (.inl h')⟩⟩ hY
  rcases List.mem_append.1 h' with h'|h'
  ·exact h'
  ·obtain ⟨i,hi,hb⟩:=List.mem_filterMap.1 h'
   have:=hge i hi k hb
   omega
 refine ⟨Cx.give c0 c ρ ids h.1.since.size hlt,bR ρ ids,rfl,hle,dM hm (pd (c:=c) (c1:=Cx.give c0 c ρ ids h.1.since.size hlt) (ids:=ids) rfl hpub h.1 ?_ hr),?_,?_,?_⟩
 ·intro i b hi hb hp k hk hmem
  rcases List.mem_append.1 hmem with h'|h'
  ·have h1:=Cx.mine_of hY (gY h.1 hb hp k hk)
   have h2:=c0.ok k h'
   omega
  ·obtain ⟨j,hj,hb'⟩:=List.mem_filterMap.1 h'
   obtain ⟨bj,hbj,T,n,g,z,l,rfl⟩:=hall j hj
   exact h.1.sep i j b _ k (fun e=>hi (e▸hj)) hb hbj hp rfl hk hb'
 ·intro q b hq
  obtain ⟨i,hi,hb,T,n,g,z,l,rfl⟩:=hget q b hq
  refine ⟨.inl ⟨T,n,g,z,l,rfl⟩,?_⟩
  obtain ⟨v,h1,h2,h3,h4,a,cap,e,h5⟩:=h.1.heap _ _ hb
  have hmem:i∈ids:=List.mem_of_getElem? hi
  refine ⟨v,by simp only [bR,hi];exact h1,⟨h2.1,?_⟩,h3,h4,a,cap,e,h5⟩
  rcases h2.2 with h'|⟨g',cp,cur,e2,k1,k2,k3,k4,k5,k6⟩
  ·exact .inl h'
  ·refine .inr ⟨g',cp,cur,e2,List.mem_append.2 (.inr (List.mem_filterMap.2 ⟨i,hmem,?_⟩)),k2,k3,k4,k5,c_ hpub k6⟩
   unfold ak;rw [h1,e2];rfl
 ·intro q hq
  simp only [bR]
  rw [List.getElem?_eq_none (by omega)]
 ·intro q q' bq bq' k hne hq hq' hk hk'
  obtain ⟨i,hi,hb,T,n,g,z,l,rfl⟩:=hget q bq hq
  obtain ⟨i',hi',hb',T',n',g',z',l',rfl⟩:=hget q' bq' hq'
  have hii:i≠i':=by
   rintro rfl
   exact hne (pe hd hi hi')
  have e1:ak (bR ρ ids) q=ak ρ i:=by simp only [ak,bR,hi]
  have e2:ak (bR ρ ids) q'=ak ρ i':=by simp only [ak,bR,hi']
  rw [e1] at hk
  rw [e2] at hk'
  exact h.1.sep i i' _ _ k hii hb hb' rfl rfl hk hk'
def zN:Blk→Blk
 | .own T n g _ l=> .own T n g none l
 | b=>b
theorem JP {c0 c:Cx} {ρ:Ro} {i:Nat} {b:Blk} (h:blkOk c0 c ρ i b):blkOk c0 c ρ i (zN b):=by
 cases b with
 | own T n g z l=>
  obtain ⟨v,g1,g2,g3,g4,a,cap,e,g5⟩:=h
  exact ⟨v,g1,g2,g3,g4,a,cap,e,mm g5⟩
 | _=>exact h
theorem JQ {c':Cx} {H:List Blk} (h:HOk c c' ρ H):HOk c c' ρ (H.map zN):=by
 obtain ⟨h1,h2,h3⟩:=h
 have key: ∀(i:Nat) (b:Blk),(H.map zN)[i]? =some b→ ∃b0,H[i]? =some b0∧b=zN b0:=by
  intro i b hb
  rw [List.getElem?_map] at hb
  cases hi:H[i]? with
  | none=>rw [hi] at hb;cases hb
  | some b0=>
   rw [hi] at hb
   cases hb
   exact ⟨b0,rfl,rfl⟩
 refine ⟨fun i b hb=> ?_,fun i hi=>h2 i (by simpa using hi),fun i j bi bj k hij hi hj=> ?_⟩
 ·obtain ⟨b0,hi,rfl⟩:=key i b hb
  obtain ⟨hg,hk⟩:=h1 i _ hi
  refine ⟨?_,JP hk⟩
  rcases hg with ⟨T,n,g,z,l,rfl⟩|⟨g,k,n,l,rfl⟩
  ·exact .inl ⟨T,n,g,none,l,rfl⟩
  ·exact .inr ⟨g,k,n,l,rfl⟩
 ·obtain ⟨b0,hi',rfl⟩:=key i bi hi
  obtain ⟨b1,hj',rfl⟩:=key j bj hj
  exact h3 i j _ _ k hij hi' hj'
theorem sF {vs:List V} {r:V} (ids:List Nat) {bs:List Blk} (ho:jX S.H ids bs) (hd:ids.Nodup) (hm:mt (fg S.H ids (fd vs)) r):jU E S r (bs.map zN) (some vs):=by
 intro c0 c ρ F u hY hs hr
 obtain ⟨c1,ρ1,e,hle,h1,h2⟩:=JO ids ho hd hm c0 c ρ F u hY hs hr
 exact ⟨c1,ρ1,e,hle,h1,JQ h2⟩
theorem lx {vs:List V} {T n:Nat} {g:Bool} {z:Option Bool} {l:List V} (i:Nat) (h:ab S.H i=some (.own T n g z l)) (hm:mt (fg S.H [i] (fd vs)) (.own 0)):jU E S (.own 0) [.own T n g none l] (some vs):=
 sF [i] (bs:=[.own T n g z l]) ⟨h,trivial,trivial⟩ (by simp) hm
theorem JR {v:V} {g:Bool} {kd:IntKind} {n:Nat} {l:List (List Int)} (i:Nat) (hb:ab S.H i=some (.kset g kd n l)) (hv:v= .own i):oQ E S v (.own 0) [.kset g kd n l]:=by
 intro c0 c ρ F u hY h hr
 subst hv
 have hbk:=h.1.heap _ _ hb
 obtain ⟨r,h1,h2,h3⟩:=hbk
 have hro:ak ρ i=some r:=by simp only [ak,h1,blk]
 have hlt: ∀j∈ [i],∀k,ak ρ j=some k→k<c.w.heap.size:=by
  intro j hj k hk
  simp only [List.mem_singleton] at hj
  subst hj
  exact eN rfl (h.1.heap _ _ hb) k hk
 have hge:c0.w.heap.size≤r:=Cx.mine_of hY h2
 have hrX:r∈c.X:=h3.1
 have hpub:c.pub (Cx.give c0 c ρ [i] h.1.since.size hlt):=by
  refine ⟨Nat.le_refl _,fun k hk hx=>⟨fun h'=> ?_,fun _ h _=>h⟩⟩
  rcases List.mem_append.1 h' with h'|h'
  ·exact hx (h.1.since.X k h' (by rw [hY];simp))
  ·simp only [List.filterMap_cons,hro,List.filterMap_nil,List.mem_singleton] at h'
   exact hx (h'▸hrX)
 have hle:c0.le (Cx.give c0 c ρ [i] h.1.since.size hlt):=by
  refine Cx.leY.le ⟨h.1.since.below,fun k hk _=>⟨fun h'=> ?_,fun h'=>List.mem_append.2 (.inl h')⟩⟩ hY
  rcases List.mem_append.1 h' with h'|h'
  ·exact h'
  ·simp only [List.filterMap_cons,hro,List.filterMap_nil,List.mem_singleton] at h'
   omega
 have hri:bR ρ [i] 0=some (.map (some r)):=by simpa [bR] using h1
 refine ⟨Cx.give c0 c ρ [i] h.1.since.size hlt,bR ρ [i],rfl,hle,?_,?_,?_,?_⟩
 ·simp only [rd] at hr⊢
  exact ⟨hri.trans (h1.symm.trans hr.1),hr.2⟩
 ·intro q b hq
  match q,hq with
  | 0,hq=>
   simp at hq
   subst hq
   refine ⟨.inr ⟨g,kd,n,l,rfl⟩,r,hri,.inl hge,?_,h3.2⟩
   exact List.mem_append.2 (.inr (by simp [hro]))
 ·intro q hq
  simp only [List.length_cons,List.length_nil] at hq
  simp only [bR]
  rw [List.getElem?_eq_none (by simp;omega)]
 ·intro q q' bq bq' k hne hq hq'
  match q,q',hq,hq' with
  | 0,0,_,_=>exact absurd rfl hne
theorem JS {g:Bool} {kd:IntKind} {n:Nat} {l:List (List Int)} (i:Nat) (hb:ab S.H i=some (.kset g kd n l)):jU E S (.own 0) [.kset g kd n l] (some [.own i]):=JR i hb rfl
theorem ly {T n:Nat} {g:Bool} (hone:g=false→n=1):jU E S (.own 0) [.own T n g none []] (some [.sl (some true) n g []]):=by
 intro c0 c ρ F u hY h hr
 have e:u= .slice none 0 0:=by
  simp only [fd,rd,zOk] at hr
  obtain ⟨a,cap,e,_,⟨rfl,rfl⟩,_⟩:=hr
  exact e
 subst e
 refine ⟨c0.base c h.1.since.size,fun i=>if i=0 then some (.slice none 0 0) else none,rfl,Cx.leY.le ⟨h.1.since.below,fun k hk hy=>by rw [oD];exact ⟨fun h=>h.1,fun h=>⟨h,hy⟩⟩⟩ hY,⟨rfl,rfl⟩,?_,?_,?_⟩
 ·intro i b hb
  cases i with
  | zero=>
   simp at hb;subst hb
   exact ⟨.inl ⟨_,_,_,_,_,rfl⟩,.slice none 0 0,rfl,Own.nil,fun k hk=>by simp [blk] at hk,hone,none,0,rfl,fun _=>rfl⟩
  | succ i=>simp at hb
 ·intro i hi
  have:i≠0:=by simp at hi;omega
  simp [this]
 ·intro i j bi bj k hij hi hj
  cases i with
  | zero=>cases j with
   | zero=>exact absurd rfl hij
   | succ j=>simp at hj
  | succ i=>simp at hi
theorem lz {f:FuncId} {pre post:List V} {n:Nat} {g:Bool} {l:List V} {r:V} {H:List Blk} (h1:l=[]→aV E f (pre++ .sl (some true) n g []::post) r H) (h2:aV E f (pre++ .sl (some false) n g l::post) r H) (z:Option Bool):aV E f (pre++ .sl z n g l::post) r H:=by
 refine ⟨h2.1,fun c us hY hg hus=> ?_⟩
 have key: ∀{pre:List V} {us:List Value},rdT ro0 c (pre++ .sl z n g l::post) us→(l=[]∧rdT ro0 c (pre++ .sl (some true) n g []::post) us)∨rdT ro0 c (pre++ .sl (some false) n g l::post) us:=by
  intro pre
  induction pre with
  | nil=>
   intro us h
   simp only [List.nil_append,rdT] at h⊢
   obtain ⟨u,c2,rfl,hu,h3⟩:=h
   obtain ⟨a,cap,e,hl,hz,hs⟩:=dn.1 hu
   cases a with
   | some a=>exact .inr ⟨u,c2,rfl,dn.2 ⟨_,cap,e,hl,by simp [zOk],hs⟩,h3⟩
   | none=>
    rcases hs with rfl|⟨b,o,cs,e',_⟩
    ·have hc:=mm hz rfl
     subst hc
     exact .inl ⟨rfl,u,c2,rfl,dn.2 ⟨none,0,e,⟨Nat.zero_le _,Nat.zero_le _⟩,⟨rfl,rfl⟩,.inl rfl⟩,h3⟩
    ·cases e'
  | cons d pre ih=>
   intro us h
   simp only [List.cons_append,rdT] at h⊢
   obtain ⟨u,c2,rfl,hu,h3⟩:=h
   rcases ih h3 with ⟨e,h4⟩|h4
   ·exact .inl ⟨e,u,c2,rfl,hu,h4⟩
   ·exact .inr ⟨u,c2,rfl,hu,h4⟩
 rcases key hus with ⟨e,h⟩|h
 ·exact (h1 e).2 c us hY hg h
 ·exact h2.2 c us hY hg h
end
attribute [go_sem] jW fY wW sB jX fg jb dw sE
theorem aV.pub {E:Env} {f:FuncId} {ws:List V} {T n:Nat} {g:Bool} {z:Option Bool} {l:List V} (h:aV E f ws (.own 0) [.own T n g z l]):aV E f ws (.sl z n g l) []:=by
 refine ⟨h.1,fun c us hY hg hus=>(h.2 c us hY hg hus).mono ?_⟩
 rintro e w' ⟨v,c',ρ,rfl,rfl,hle,hrd,hH⟩
 obtain ⟨v',hv,hown,hge,hone,a,cap,es,hz⟩:=(hH.1 0 _ rfl).2
 have e:v=v':=by
  simp only [rd] at hrd
  rw [hv] at hrd
  exact (Option.some.inj hrd.1).symm
 subst e
 refine ⟨v,c'.dropv v,ro0,rfl,rfl,At hle (fun g hg=>Cx.mine_of hY (hge g hg)),?_,fun i b hb=>by simp at hb,fun _ _=>rfl,fun i j bi bj k _ hb=>by simp at hb⟩
 obtain ⟨a',cap',e1,h1,h2⟩:=fp.1 hown.val
 rw [es] at e1;cases e1
 exact dn.2 ⟨a,cap,es,h1,hz,h2⟩
theorem Ci {ρ ρ':Ro} {c:Cx} (hro:gx ρ ρ') {k:Nat} (hat:ρ' k=some (.slice none 0 0)): ∀{l:List V} {cs:List Value} {o n:Nat} {g:Bool},rdC ρ c l cs→l[o]? =some (.sl (some true) n g [])→rdC ρ' c (l.set o (.own k)) cs
 | [],cs,o,n,g,h,ho=>by simp at ho
 | d::l,cs,0,n,g,h,ho=>by
  simp only [List.getElem?_cons_zero,Option.some.injEq] at ho
  subst ho
  simp only [rdC] at h
  obtain ⟨u,c2,rfl,h1,h2,h3⟩:=h
  simp only [List.set_cons_zero,rdC]
  have e:u= .slice none 0 0:=by
   simp only [rd,zOk] at h2
   obtain ⟨a,cap,e,_,⟨rfl,rfl⟩,_⟩:=h2
   exact e
  subst e
  exact ⟨_,c2,rfl,h1,by simp only [rd];exact ⟨hat,rfl⟩,uV hro h3⟩
 | d::l,cs,o+1,n,g,h,ho=>by
  simp only [List.getElem?_cons_succ] at ho
  simp only [rdC] at h
  obtain ⟨u,c2,rfl,h1,h2,h3⟩:=h
  simp only [List.set_cons_succ,rdC]
  exact ⟨u,c2,rfl,h1,db hro h2,Ci hro hat h3 ho⟩
theorem Cj {E:Env} {S:St} (j o T:Nat) {n' n:Nat} {g:Bool} {l:List V} (h:ab S.H j=some (.var n' true (.agg l))) (ho:l[o]? =some (.sl (some true) n g [])) (hg:g=false→n=1):
  ic E S ⟨S.F,(S.nx,.own T n g (some true) [])::cK S.H j (.var n' true (.agg (l.set o (.own S.nx)))),S.nx+1⟩:=by
 intro c0 c ρ F hs
 have hf:ρ S.nx=none:=hs.2 _ (Nat.le_refl _)
 have hro:gx ρ (fun i=>if i=S.nx then some (.slice none 0 0) else ρ i):=mA hf fun i hi=>by simp [hi]
 have hat:(fun i=>if i=S.nx then some (Value.slice none 0 0) else ρ i) S.nx=some (.slice none 0 0):=by simp
 have hoth: ∀i,i≠S.nx→(fun i=>if i=S.nx then some (Value.slice none 0 0) else ρ i) i=ρ i:=fun i hi=>by simp [hi]
 generalize (fun i=>if i=S.nx then some (Value.slice none 0 0) else ρ i)=ρ' at hro hat hoth
 obtain ⟨b0,g1,g2,g3⟩:=hs.1.heap _ _ h
 have hjn:j≠S.nx:=fun e=>by rw [e,hf] at g1;cases g1
 refine ⟨c,ρ',rfl,Cx.pub.refl _,hro,⟨hs.1.since,hs.1.gl,fun t v ht=>db hro (hs.1.slot t v ht),?_,?_⟩,?_⟩
 ·intro i b hb
  simp only [ab] at hb
  split at hb
  ·rename_i e';subst e';cases hb
   exact ⟨_,hat,Own.nil,fun k hk=>by simp [blk] at hk,hg,none,0,rfl,rfl,rfl⟩
  ·rename_i hin
   rw [cC] at hb
   split at hb
   ·rename_i e';subst e';cases hb
    obtain ⟨hX,T',cs,hh,hsh,hrd⟩:=g3
    refine ⟨b0,by rw [hoth _ hjn];exact g1,g2,hX,T',cs,hh,hsh,?_⟩
    simp only [mkV,rd] at hrd⊢
    obtain ⟨cs',e1,e2⟩:=hrd
    exact ⟨cs',e1,Ci hro hat e2 ho⟩
   ·exact lc hro (hs.1.heap i b hb)
 ·intro a b ba bb k hab hba hbb hpa hpb hk hk'
  have hn:ak ρ' S.nx=none:=by simp [ak,hat,blk]
  have hi:a≠S.nx:=fun e'=>by rw [e',hn] at hk;cases hk
  have hj:b≠S.nx:=fun e'=>by rw [e',hn] at hk';cases hk'
  simp only [ab,Ne.symm hi,Ne.symm hj,if_false,cC] at hba hbb
  rw [cM (hoth a hi)] at hk
  rw [cM (hoth b hj)] at hk'
  have back: ∀{x:Nat} {bx:Blk},(if j=x then some (Blk.var n' true (.agg (l.set o (.own S.nx)))) else ab S.H x)=some bx→aQ bx=true→ ∃b',ab S.H x=some b'∧aQ b'=true:=by
   intro x bx hx hp
   split at hx
   ·rename_i e;subst e;exact ⟨_,h,rfl⟩
   ·exact ⟨bx,hx,hp⟩
  obtain ⟨ba',h1,h2⟩:=back hba hpa
  obtain ⟨bb',h3,h4⟩:=back hbb hpb
  exact hs.1.sep a b ba' bb' k hab h1 h3 h2 h4 hk hk'
 ·intro i hi
  have:i≠S.nx:=fun e=>by subst e;simp only at hi;omega
  rw [hoth i this]
  exact hs.2 i (by simp only at hi;omega)
theorem mY {E:Env} {S:St} (j o T:Nat) {n' n:Nat} {g:Bool} {l:List V} (h:ab S.H j=some (.var n' true (.agg l))) (ho:l[o]? =some (.sl (some true) n g [])) (hg:g=false→n=1):
  b_ E S ⟨S.F,(S.nx,.own T n g (some true) [])::cK S.H j (.var n' true (.agg (l.set o (.own S.nx)))),S.nx+1⟩:=(Cj j o T h ho hg).weak
theorem JT {E:Env} {S:St} (j T:Nat) {n:Nat} {g:Bool} (h:ab S.H j=some (.var 1 false (.sl (some true) n g []))) (hg:g=false→n=1):
  ic E S ⟨S.F,(S.nx,.own T n g (some true) [])::cK S.H j (.var 1 false (.own S.nx)),S.nx+1⟩:=by
 intro c0 c ρ F hs
 have hf:ρ S.nx=none:=hs.2 _ (Nat.le_refl _)
 have hro:gx ρ (fun i=>if i=S.nx then some (.slice none 0 0) else ρ i):=mA hf fun i hi=>by simp [hi]
 have hat:(fun i=>if i=S.nx then some (Value.slice none 0 0) else ρ i) S.nx=some (.slice none 0 0):=by simp
 have hoth: ∀i,i≠S.nx→(fun i=>if i=S.nx then some (Value.slice none 0 0) else ρ i) i=ρ i:=fun i hi=>by simp [hi]
 generalize (fun i=>if i=S.nx then some (Value.slice none 0 0) else ρ i)=ρ' at hro hat hoth
 obtain ⟨b0,g1,g2,g3⟩:=hs.1.heap _ _ h
 have hjn:j≠S.nx:=fun e=>by rw [e,hf] at g1;cases g1
 refine ⟨c,ρ',rfl,Cx.pub.refl _,hro,⟨hs.1.since,hs.1.gl,fun t v ht=>db hro (hs.1.slot t v ht),?_,?_⟩,?_⟩
 ·intro i b hb
  simp only [ab] at hb
  split at hb
  ·rename_i e';subst e';cases hb
   exact ⟨_,hat,Own.nil,fun k hk=>by simp [blk] at hk,hg,none,0,rfl,rfl,rfl⟩
  ·rename_i hin
   rw [cC] at hb
   split at hb
   ·rename_i e';subst e';cases hb
    obtain ⟨hX,T',cs,hh,hsh,hrd⟩:=g3
    refine ⟨b0,by rw [hoth _ hjn];exact g1,g2,hX,T',cs,hh,hsh,?_⟩
    have e:mkV false cs.toList= .slice none 0 0:=by
     simp only [rd,zOk] at hrd
     obtain ⟨a,cap,e,_,⟨rfl,rfl⟩,_⟩:=hrd
     exact e
    rw [e]
    exact ⟨hat,rfl⟩
   ·exact lc hro (hs.1.heap i b hb)
 ·intro a b ba bb k hab hba hbb hpa hpb hk hk'
  have hn:ak ρ' S.nx=none:=by simp [ak,hat,blk]
  have hi:a≠S.nx:=fun e'=>by rw [e',hn] at hk;cases hk
  have hj:b≠S.nx:=fun e'=>by rw [e',hn] at hk';cases hk'
  simp only [ab,Ne.symm hi,Ne.symm hj,if_false,cC] at hba hbb
  rw [cM (hoth a hi)] at hk
  rw [cM (hoth b hj)] at hk'
  have back: ∀{x:Nat} {bx:Blk},(if j=x then some (Blk.var 1 false (.own S.nx)) else ab S.H x)=some bx→aQ bx=true→ ∃b',ab S.H x=some b'∧aQ b'=true:=by
   intro x bx hx hp
   split at hx
   ·rename_i e;subst e;exact ⟨_,h,rfl⟩
   ·exact ⟨bx,hx,hp⟩
  obtain ⟨ba',h1,h2⟩:=back hba hpa
  obtain ⟨bb',h3,h4⟩:=back hbb hpb
  exact hs.1.sep a b ba' bb' k hab h1 h3 h2 h4 hk hk'
 ·intro i hi
  have:i≠S.nx:=fun e=>by subst e;simp only at hi;omega
  rw [hoth i this]
  exact hs.2 i (by simp only at hi;omega)
theorem JU {E:Env} {S:St} (j T:Nat) {n:Nat} {g:Bool} (h:ab S.H j=some (.var 1 false (.sl (some true) n g []))) (hg:g=false→n=1):
  b_ E S ⟨S.F,(S.nx,.own T n g (some true) [])::cK S.H j (.var 1 false (.own S.nx)),S.nx+1⟩:=(JT j T h hg).weak
end Go.Proofs.YteibkofekpejgaaGreatDoor
namespace Go.Proofs.YteibkofekpejgaaGreatDoor
open Go.RowKit
@[go_sem] theorem Pf {α:Type} {a:α} {l m:List α}:List.append (a::l) m=a::List.append l m:=Eq.trans rfl rfl
@[go_sem] theorem Pg {α:Type} {m:List α}:List.append [] m=m:=Eq.trans rfl rfl
attribute [go_sem] Int.cast_ofNat_Int
@[go_sem] theorem Pi {l:List UInt8}:(l.toArray.size≤LEN)=(l.length≤1073741824):=by rw [List.size_toArray];rfl
theorem spQ {P Q:Prop} (h:Q) (e:P=Q:=by (simp only [go_sem,ct,cu,List.length_replicate,ca,Int.toNat_natCast,↓reduceIte,Nat.reduceEqDiff,Nat.reduceAdd,Int.reduceAdd,Nat.reduceMul,Nat.reduceLeDiff,Nat.reduceLT,Int.reduceLE,Int.reduceLT,Int.reduceNeg,Int.reduceToNat];rfl)):P:=e▸h
theorem ap {A P Q:Prop} (a:A) (h:Q) (e:A→P=Q:=by (intro hA;simp only [go_sem,ct,cu,List.length_replicate,ca,Int.toNat_natCast,↓reduceIte,Nat.reduceEqDiff,Nat.reduceAdd,Int.reduceAdd,Nat.reduceMul,Nat.reduceLeDiff,Nat.reduceLT,Int.reduceLE,Int.reduceLT,Int.reduceNeg,Int.reduceToNat,hA];rfl)):P:=e a▸h
theorem clQ {P:Prop} (h:P:=by (simp only [go_sem,ct,cu,List.length_replicate,ca,Int.toNat_natCast,↓reduceIte,Nat.reduceEqDiff,Nat.reduceAdd,Int.reduceAdd,Nat.reduceMul,Nat.reduceLeDiff,Nat.reduceLT,Int.reduceLE,Int.reduceLT,Int.reduceNeg,Int.reduceToNat,i7,ja,Int.reduceSub,or_self,or_true,true_or]<;>fail)):P:=h
theorem ao {A P:Prop} (a:A) (h:A→P:=by (intro hA;simp only [go_sem,ct,cu,List.length_replicate,ca,Int.toNat_natCast,↓reduceIte,Nat.reduceEqDiff,Nat.reduceAdd,Int.reduceAdd,Nat.reduceMul,Nat.reduceLeDiff,Nat.reduceLT,Int.reduceLE,Int.reduceLT,Int.reduceNeg,Int.reduceToNat,i7,ja,Int.reduceSub,or_self,or_true,true_or,hA]<;>fail)):P:=h a
theorem lfQ {P:Prop} (h:P:=by (simp only [go_sem,ct,cu,List.length_replicate,ca,Int.toNat_natCast,↓reduceIte,Nat.reduceEqDiff,Nat.reduceAdd,Int.reduceAdd,Nat.reduceMul,Nat.reduceLeDiff,Nat.reduceLT,Int.reduceLE,Int.reduceLT,Int.reduceNeg,Int.reduceToNat,i7,ja,Int.reduceSub,or_self,or_true,true_or]<;>fail)):P:=h
theorem cm {A P:Prop} (a:A) (h:A→P:=by (intro hA;simp only [go_sem,ct,cu,List.length_replicate,ca,Int.toNat_natCast,↓reduceIte,Nat.reduceEqDiff,Nat.reduceAdd,Int.reduceAdd,Nat.reduceMul,Nat.reduceLeDiff,Nat.reduceLT,Int.reduceLE,Int.reduceLT,Int.reduceNeg,Int.reduceToNat,i7,ja,Int.reduceSub,or_self,or_true,true_or,hA]<;>fail)):P:=h a
theorem sbQ {P:Prop} (h:P:=by (simp only [go_sem,ct,cu,List.length_replicate,ca,Int.toNat_natCast,↓reduceIte,Nat.reduceEqDiff,Nat.reduceAdd,Int.reduceAdd,Nat.reduceMul,Nat.reduceLeDiff,Nat.reduceLT,Int.reduceLE,Int.reduceLT,Int.reduceNeg,Int.reduceToNat,mX,pc,sA,dN,dO,mtO,mtB,mt,mtL,ln,lm,ltV,ltL,ltB,eq_self,or_true,true_or,or_self,and_self]<;>fail)):P:=h
theorem Cl {A P:Prop} (a:A) (h:A→P:=by (intro hA;simp only [go_sem,ct,cu,List.length_replicate,ca,Int.toNat_natCast,↓reduceIte,Nat.reduceEqDiff,Nat.reduceAdd,Int.reduceAdd,Nat.reduceMul,Nat.reduceLeDiff,Nat.reduceLT,Int.reduceLE,Int.reduceLT,Int.reduceNeg,Int.reduceToNat,mX,pc,sA,dN,dO,mtO,mtB,mt,mtL,ln,lm,ltV,ltL,ltB,eq_self,or_true,true_or,or_self,and_self,hA]<;>fail)):P:=h a
theorem alQ {P:Prop} (h:P:=by first|(simp only [go_sem,ct,cu,List.length_replicate,ca,Int.toNat_natCast,↓reduceIte,Nat.reduceEqDiff,Nat.reduceAdd,Int.reduceAdd,Nat.reduceMul,Nat.reduceLeDiff,Nat.reduceLT,Int.reduceLE,Int.reduceLT,Int.reduceNeg,Int.reduceToNat,List.all_nil,List.all_cons];done)|rfl):P:=h
theorem nzQ {P Q:Prop} (h:P) (e:P=Q:=by first|(simp only [decide_eq_true_eq,decide_eq_false_iff_not,Bool.and_eq_true,Bool.or_eq_true,Bool.not_eq_true',Bool.not_eq_false',beq_iff_eq,bne_iff_ne,beq_eq_false_iff_ne,bne_eq_false_iff_eq,ne_eq,Int.not_lt,Int.not_le,gt_iff_lt,ge_iff_le,List.length_map,wfL,wfV,and_true,true_and,fV,wP,wQ,wR,wS,o7,mV,List.length_append,List.length_cons,List.length_nil,List.length_replicate,ca,o8,o9,o_,dh,mW,wT];rfl)|rfl):Q:=e▸h
theorem omQ {P:Prop} (h:P:=by (clear hM;(try simp only [List.length_map,List.length_set,o7,mV,List.length_append,List.length_cons,List.length_nil,List.length_replicate,ca,o8,o9,o_,dh,mW,decide_eq_true_eq])<;>omega)):P:=h
theorem an {P:Prop} (h:P:=by ((try simp only [List.length_map,List.length_set,o7,mV,List.length_append,List.length_cons,List.length_nil,List.length_replicate,ca,o8,o9,o_,dh,mW,decide_eq_true_eq])<;>omega)):P:=h
theorem pfQ {P:Prop} (h:P:=by (clear hM;first|omega|(simp only [decide_eq_true_eq,decide_eq_false_iff_not,Bool.and_eq_true,Bool.or_eq_true,Bool.not_eq_true',Bool.not_eq_false',beq_iff_eq,bne_iff_ne,beq_eq_false_iff_ne,bne_eq_false_iff_eq,ne_eq,Int.not_lt,Int.not_le,gt_iff_lt,ge_iff_le,List.length_map,wfL,wfV,and_true,true_and,fV,wP,wQ,wR,wS,o7,mV,List.length_append,List.length_cons,List.length_nil,List.length_replicate,ca,o8,o9,o_,dh,mW,wT] at*;omega))):P:=h
theorem spR {P Q:Prop} (h:P) (e:P=Q:=by first|(simp only [go_sem,ct,cu,List.length_replicate,ca,Int.toNat_natCast,↓reduceIte,Nat.reduceEqDiff,Nat.reduceAdd,Int.reduceAdd,Nat.reduceMul,Nat.reduceLeDiff,Nat.reduceLT,Int.reduceLE,Int.reduceLT,Int.reduceNeg,Int.reduceToNat];rfl)|rfl):Q:=e▸h
end Go.Proofs.YteibkofekpejgaaGreatDoor
namespace Go.Proofs.YteibkofekpejgaaGreatDoor
open Go.RowKit
section
variable {E:Env} {J:bV} {k:List Ct} {S S1:St} {c0 c:Cx} {ρ:Ro} {F:Fm}
mutual
def ren (s:Nat→Nat):V→V
 | .own i=> .own (s i)
 | .ptr i o=> .ptr (s i) o
 | .optr i m k o=> .optr (s i) m k o
 | .osub i m k o=> .osub (s i) m k o
 | .agg l=> .agg (jc s l)
 | .tup l=> .tup (jc s l)
 | .fn f l=> .fn f (jc s l)
 | v=>v
def jc (s:Nat→Nat):List V→List V
 | []=> []
 | d::l=>ren s d::jc s l
end
mutual
theorem sG {ρ':Ro} {s:Nat→Nat} (k: ∀i v,ρ i=some v→ρ' (s i)=some v): ∀{d:V} {v:Value},rd ρ c d v→rd ρ' c (ren s d) v
 | .int _ _,_,h=>h
 | .bool _,_,h=>h
 | .ifc _,_,h=>h
 | .str _,_,h=>h
 | .agg l,v,h=>by
  simp only [rd,ren] at h⊢
  obtain ⟨cs,e,h⟩:=h
  exact ⟨cs,e,Cm k h⟩
 | .sl z n g l,v,h=>h
 | .pp n g d,v,h=>h
 | .own _,_,h=>⟨k _ _ h.1,h.2⟩
 | .ptr _ _,_,h=>by
  simp only [rd,ren] at h⊢
  obtain ⟨b,h1,h2⟩:=h
  exact ⟨b,k _ _ h1,h2⟩
 | .optr _ _ _ _,_,h=>by
  simp only [rd,ren] at h⊢
  obtain ⟨u,h1,h2⟩:=h
  exact ⟨u,k _ _ h1,h2⟩
 | .osub _ _ _ _,_,h=>by
  simp only [rd,ren] at h⊢
  obtain ⟨u,h1,h2⟩:=h
  exact ⟨u,k _ _ h1,h2⟩
 | .tup l,v,h=>by
  simp only [rd,ren] at h⊢
  obtain ⟨cs,e,h⟩:=h
  exact ⟨cs,e,wZ k h⟩
 | .fn f l,v,h=>by
  simp only [rd,ren] at h⊢
  obtain ⟨cs,e,h⟩:=h
  exact ⟨cs,e,wZ k h⟩
 | .opq p,v,h=>h
 | .un,_,_=>trivial
theorem Cm {ρ':Ro} {s:Nat→Nat} (k: ∀i v,ρ i=some v→ρ' (s i)=some v): ∀{l:List V} {cs:List Value},rdC ρ c l cs→rdC ρ' c (jc s l) cs
 | [],_,h=>h
 | d::l,cs,h=>by
  simp only [rdC,jc] at h⊢
  obtain ⟨u,c2,e,h1,h2,h3⟩:=h
  exact ⟨u,c2,e,h1,sG k h2,Cm k h3⟩
theorem wZ {ρ':Ro} {s:Nat→Nat} (k: ∀i v,ρ i=some v→ρ' (s i)=some v): ∀{l:List V} {cs:List Value},rdT ρ c l cs→rdT ρ' c (jc s l) cs
 | [],_,h=>h
 | d::l,cs,h=>by
  simp only [rdT,jc] at h⊢
  obtain ⟨u,c2,e,h2,h3⟩:=h
  exact ⟨u,c2,e,sG k h2,wZ k h3⟩
end
def ig (s:Nat→Nat):Blk→Blk
 | .var n g d=> .var n g (ren s d)
 | b=>b
def fh (s:Nat→Nat):List Blk→List Blk
 | []=> []
 | b::l=>ig s b::fh s l
theorem w3 {s:Nat→Nat}: ∀{l:List Blk} {j:Nat},(fh s l)[j]? =(l[j]?).map (ig s)
 | [],j=>by simp [fh]
 | b::l,0=>by simp [fh]
 | b::l,j+1=>by simp [fh,w3 (l:=l)]
mutual
def prV (p:Nat→Bool):V→V
 | .own i=>bif p i then .un else .own i
 | .ptr i o=>bif p i then .un else .ptr i o
 | .optr i n k o=>bif p i then .un else .optr i n k o
 | .osub i n k o=>bif p i then .un else .osub i n k o
 | .agg l=> .agg (prL p l)
 | .tup l=> .tup (prL p l)
 | .fn f l=> .fn f (prL p l)
 | v=>v
def prL (p:Nat→Bool):List V→List V
 | []=> []
 | d::l=>prV p d::prL p l
end
mutual
theorem mZ {ρ':Ro} {p:Nat→Bool} (k: ∀i v,p i=false→ρ i=some v→ρ' i=some v): ∀{d:V} {v:Value},rd ρ c d v→rd ρ' c (prV p d) v
 | .int _ _,_,h=>h
 | .bool _,_,h=>h
 | .ifc _,_,h=>h
 | .str _,_,h=>h
 | .agg l,v,h=>by
  simp only [rd,prV] at h⊢
  obtain ⟨cs,e,h⟩:=h
  exact ⟨cs,e,Cn k h⟩
 | .sl z n g l,v,h=>h
 | .pp n g d,v,h=>h
 | .own i,v,h=>by
  simp only [prV]
  cases hp:p i with
  | true=>trivial
  | false=>exact ⟨k _ _ hp h.1,h.2⟩
 | .ptr i o,v,h=>by
  simp only [prV]
  cases hp:p i with
  | true=>trivial
  | false=>
   simp only [cond_false,rd] at h⊢
   obtain ⟨b,h1,h2⟩:=h
   exact ⟨b,k _ _ hp h1,h2⟩
 | .optr i n j o,v,h=>by
  simp only [prV]
  cases hp:p i with
  | true=>trivial
  | false=>
   simp only [cond_false,rd] at h⊢
   obtain ⟨u,h1,h2⟩:=h
   exact ⟨u,k _ _ hp h1,h2⟩
 | .osub i n j o,v,h=>by
  simp only [prV]
  cases hp:p i with
  | true=>trivial
  | false=>
   simp only [cond_false,rd] at h⊢
   obtain ⟨u,h1,h2⟩:=h
   exact ⟨u,k _ _ hp h1,h2⟩
 | .tup l,v,h=>by
  simp only [rd,prV] at h⊢
  obtain ⟨cs,e,h⟩:=h
  exact ⟨cs,e,w4 k h⟩
 | .fn f l,v,h=>by
  simp only [rd,prV] at h⊢
  obtain ⟨cs,e,h⟩:=h
  exact ⟨cs,e,w4 k h⟩
 | .opq p,v,h=>h
 | .un,_,_=>trivial
theorem Cn {ρ':Ro} {p:Nat→Bool} (k: ∀i v,p i=false→ρ i=some v→ρ' i=some v): ∀{l:List V} {cs:List Value},rdC ρ c l cs→rdC ρ' c (prL p l) cs
 | [],_,h=>h
 | d::l,cs,h=>by
  simp only [rdC,prL] at h⊢
  obtain ⟨u,c2,e,h1,h2,h3⟩:=h
  exact ⟨u,c2,e,h1,mZ k h2,Cn k h3⟩
theorem w4 {ρ':Ro} {p:Nat→Bool} (k: ∀i v,p i=false→ρ i=some v→ρ' i=some v): ∀{l:List V} {cs:List Value},rdT ρ c l cs→rdT ρ' c (prL p l) cs
 | [],_,h=>h
 | d::l,cs,h=>by
  simp only [rdT,prL] at h⊢
  obtain ⟨u,c2,e,h2,h3⟩:=h
  exact ⟨u,c2,e,mZ k h2,w4 k h3⟩
end
theorem Co {p:Nat→Bool}: ∀{l:List V},prL p l=l.map (prV p)
 | []=>rfl
 | d::l=>by simp only [prL,List.map_cons,Co]
def prB (p:Nat→Bool):Blk→Blk
 | .var n g d=> .var n g (prV p d)
 | .lent k n g d=> .lent k n g (prV p d)
 | .ownI E n g z l=> .ownI E n g z (prL p l)
 | b=>b
def prF (p:Nat→Bool):List (Nat×V)→List (Nat×V)
 | []=> []
 | (t,v)::l=>(t,prV p v)::prF p l
def prH (p:Nat→Bool):List (Nat×Blk)→List (Nat×Blk)
 | []=> []
 | (t,b)::l=>(t,prB p b)::prH p l
theorem Cp {p:Nat→Bool}: ∀{l:List (Nat×V)} {t:Nat},ab (prF p l) t=(ab l t).map (prV p)
 | [],_=>rfl
 | (k,v)::l,t=>by
  simp only [prF,ab]
  split
  ·rfl
  ·exact Cp
theorem Cq {p:Nat→Bool}: ∀{l:List (Nat×Blk)} {t:Nat},ab (prH p l) t=(ab l t).map (prB p)
 | [],_=>rfl
 | (k,v)::l,t=>by
  simp only [prH,ab]
  split
  ·rfl
  ·exact Cq
theorem JV {p:Nat→Bool} {b:Blk}:aQ (prB p b)=aQ b:=by cases b<;>rfl
theorem Cr {i:Nat} {b:Blk} (h:blkOk c0 c ρ i b): ∃v,ρ i=some v:=by
 cases b with
 | var n g d=>obtain ⟨b,h1,_⟩:=h;exact ⟨_,h1⟩
 | own E n g z l=>obtain ⟨v,h1,_⟩:=h;exact ⟨_,h1⟩
 | ownI E n g z l=>obtain ⟨v,h1,_⟩:=h;exact ⟨_,h1⟩
 | pvar n g d=>obtain ⟨b,h1,_⟩:=h;exact ⟨_,h1⟩
 | kset g k n l=>obtain ⟨r,h1,_⟩:=h;exact ⟨_,h1⟩
 | pown n g z l=>obtain ⟨v,h1,_⟩:=h;exact ⟨_,h1⟩
 | lent k n g d=>exact ⟨_,h.1⟩
def fy (k:Nat):Blk→Blk
 | .var n g d=> .lent k n g d
 | b=>b
def bY (ks:Nat→Nat):Nat→List Blk→List Blk
 | _,[]=> []
 | i,b::l=>fy (ks i) b::bY ks (i+1) l
theorem m0 {ks:Nat→Nat}: ∀{l:List Blk} {i j:Nat},(bY ks i l)[j]? =(l[j]?).map (fy (ks (i+j)))
 | [],i,j=>by simp [bY]
 | b::l,i,0=>by simp [bY]
 | b::l,i,j+1=>by simp [bY,m0 (l:=l),Nat.add_comm,Nat.add_left_comm,Nat.add_assoc]
theorem sH {ks:Nat→Nat}: ∀{l:List Blk} {i:Nat},(bY ks i l).length=l.length
 | [],i=>rfl
 | b::l,i=>by simp [bY,sH (l:=l)]
def pf (c0 c:Cx) (ρ:Ro) (H:List Blk):Prop:=
 (∀i b,H[i]? =some b→blkOk c0 c ρ i b)∧(∀i,H.length≤i→ρ i=none)∧
  ∀i j bi bj k,i≠j→H[i]? =some bi→H[j]? =some bj→ak ρ i=some k→ak ρ j≠some k
def ii:List Blk→List Blk→Bool
 | [],[]=>true
 | .var _ _ _::l,.var _ _ _::m=>ii l m
 | .own _ _ _ _ _::l,.own _ _ _ _ _::m=>ii l m
 | _,_=>false
def lA:List Blk→Bool
 | []=>true
 | .own _ _ _ _ _::l=>lA l
 | _=>false
def jd:Blk→Prop
 | .var _ _ _=>True
 | _=>False
def eB:Blk→Prop
 | .own _ _ _ _ _=>True
 | _=>False
theorem w5: ∀{l m:List Blk},ii l m=true→l.length=m.length∧ ∀(j:Nat) (b b':Blk),l[j]? =some b→m[j]? =some b'→(jd b∧jd b')∨(eB b∧eB b')
 | [],[],_=>⟨rfl,by simp⟩
 | a::l,a'::m,h=>by
  have key:ii l m=true∧((jd a∧jd a')∨(eB a∧eB a')):=by
   cases a<;>cases a'<;>simp only [ii] at h<;>first
    | exact ⟨h,.inl ⟨trivial,trivial⟩⟩
    | exact ⟨h,.inr ⟨trivial,trivial⟩⟩
    | cases h
  obtain ⟨h1,h2⟩:=w5 key.1
  refine ⟨by simp [h1],fun j b b' hb hb'=> ?_⟩
  cases j with
  | zero=>simp at hb hb';subst hb hb';exact key.2
  | succ j=>exact h2 j b b' (by simpa using hb) (by simpa using hb')
 | [],_::_,h=>by simp [ii] at h
 | a::_,[],h=>by cases a<;>simp [ii] at h
theorem w6: ∀{l:List Blk},lA l=true→ ∀(j:Nat) (b:Blk),l[j]? =some b→eB b
 | [],_,j,b,hb=>by simp at hb
 | a::l,h,j,b,hb=>by
  have key:lA l=true∧eB a:=by
   cases a<;>simp only [lA] at h<;>first
    | exact ⟨h,trivial⟩
    | cases h
  cases j with
  | zero=>simp at hb;subst hb;exact key.2
  | succ j=>exact w6 key.1 j b (by simpa using hb)
def JW (E:Env) (c:Cx) (r:V) (H:List Blk):Ending→World→Prop:=fun e w'=> ∃v c' ρ,e= .returned v∧c'.w=w'∧c.leY c'∧rd ρ c' r v∧pf c c' ρ H
def eC (E:Env) (f:FuncId) (ws:List V) (Hin:List Blk) (r:V) (Hout Hnew:List Blk):Prop:=
 (∀aas w,(callFunc f aas).run E.P w= .ok (.enter f aas) w)∧(ii Hin Hout&&lA Hnew)=true∧
  ∀(c:Cx) (us:List Value) (ρ0:Ro) (ks:Nat→Nat),Gl E c→pf c c ρ0 (bY ks 0 Hin)→rdT ρ0 c ws us→Calls E.P f us.toArray c.w (JW E c r (bY ks 0 Hout++Hnew))
mutual
def inV (H:List (Nat×Blk)) (ids:List Nat):V→V
 | .own i=>match dw ids i 0 with
  | some j=> .own j
  | none=>wW (ab H i)
 | .ptr i o=>match dw ids i 0 with
  | some j=> .ptr j o
  | none=>sB o (ab H i)
 | .optr _ _ _ _=> .un
 | .osub _ _ _ _=> .un
 | .agg l=> .agg (fA H ids l)
 | .tup l=> .tup (fA H ids l)
 | .fn f l=> .fn f (fA H ids l)
 | v=>v
def fA (H:List (Nat×Blk)) (ids:List Nat):List V→List V
 | []=> []
 | d::l=>inV H ids d::fA H ids l
end
theorem sI {i:Nat} {v:Value} (h:ro0 i=some v):False:=by cases h
mutual
theorem sJ {ids:List Nat} (h:Sim E c0 c ρ S F): ∀{d:V} {v:Value},rd ρ c d v→rd (bR ρ ids) c (inV S.H ids d) v
 | .int _ _,_,hr=>hr
 | .bool _,_,hr=>hr
 | .ifc _,_,hr=>hr
 | .str _,_,hr=>hr
 | .agg l,v,hr=>by
  simp only [rd,inV] at hr⊢
  obtain ⟨cs,e,hr⟩:=hr
  exact ⟨cs,e,Cs h hr⟩
 | .sl z n g l,v,hr=>hr
 | .pp n g d,v,hr=>hr
 | .own i,v,hr=>by
  simp only [inV]
  cases hp:dw ids i 0 with
  | some j=>
   simp only [rd] at hr⊢
   obtain ⟨_,h2⟩:=lw hp
   exact ⟨by simp only [bR];rw [show j - 0=j from rfl] at h2;rw [h2];exact hr.1,hr.2⟩
  | none=>exact db (fun i v hi=>(sI hi).elim) (sC (d:= .own i) h hr)
 | .ptr i o,v,hr=>by
  simp only [inV]
  cases hp:dw ids i 0 with
  | some j=>
   simp only [rd] at hr⊢
   obtain ⟨b,h1,h3⟩:=hr
   obtain ⟨_,h2⟩:=lw hp
   exact ⟨b,by simp only [bR];rw [show j - 0=j from rfl] at h2;rw [h2];exact h1,h3⟩
  | none=>exact db (fun i v hi=>(sI hi).elim) (sC (d:= .ptr i o) h hr)
 | .optr _ _ _ _,_,_=>trivial
 | .osub _ _ _ _,_,_=>trivial
 | .tup l,v,hr=>by
  simp only [rd,inV] at hr⊢
  obtain ⟨cs,e,hr⟩:=hr
  exact ⟨cs,e,m4 h hr⟩
 | .fn f l,v,hr=>by
  simp only [rd,inV] at hr⊢
  obtain ⟨cs,e,hr⟩:=hr
  exact ⟨cs,e,m4 h hr⟩
 | .opq p,v,hr=>hr
 | .un,_,_=>trivial
theorem Cs {ids:List Nat} (h:Sim E c0 c ρ S F): ∀{l:List V} {cs:List Value},rdC ρ c l cs→rdC (bR ρ ids) c (fA S.H ids l) cs
 | [],_,hr=>hr
 | d::l,cs,hr=>by
  simp only [rdC,fA] at hr⊢
  obtain ⟨u,c2,e,h1,h2,h3⟩:=hr
  exact ⟨u,c2,e,h1,sJ h h2,Cs h h3⟩
theorem m4 {ids:List Nat} (h:Sim E c0 c ρ S F): ∀{l:List V} {cs:List Value},rdT ρ c l cs→rdT (bR ρ ids) c (fA S.H ids l) cs
 | [],_,hr=>hr
 | d::l,cs,hr=>by
  simp only [rdT,fA] at hr⊢
  obtain ⟨u,c2,e,h2,h3⟩:=hr
  exact ⟨u,c2,e,sJ h h2,m4 h h3⟩
end
theorem Cu {T n:Nat} {g:Bool} {l l':List V} {v:Value} (h:Own c T v (rV ro0 n g) l) (hm:mtL l l'):Own c T v (rV ro0 n g) l':=by
 have e:=jO hm
 refine ⟨by rw [←e];exact h.1,?_⟩
 rcases h.2 with ⟨a,h1,h2⟩|⟨g',cp,cur,h1,h2,h3,h4,h5,h6,h7⟩
 ·subst h2
  cases l' with
  | nil=>exact .inl ⟨a,h1,rfl⟩
  | cons x l'=>simp [mtL] at hm
 ·exact .inr ⟨g',cp,cur,by rw [←e];exact h1,h2,h3,by rw [←e];exact h4,h5,h6,by rw [←e];exact eh.1 (rS hm (eh.2 h7))⟩
def inO (H:List (Nat×Blk)) (ids:List Nat):Option Blk→Blk→Prop
 | some (.own T n g z l),.own T' n' g' z' l'=>T=T'∧n=n'∧g=g'∧mtZ z z'∧mtL l l'
 | some (.var n g d),.var n' g' d'=>n=n'∧g=g'∧mt (inV H ids d) d'
 | some (.lent _ n g d),.var n' g' d'=>n=n'∧g=g'∧mt (inV H ids d) d'
 | _,_=>False
def fB (H:List (Nat×Blk)) (ids:List Nat):List Nat→List Blk→Prop
 | [],[]=>True
 | i::l,b::m=>inO H ids (ab H i) b∧fB H ids l m
 | _,_=>False
theorem pg {H:List (Nat×Blk)} {ids:List Nat}: ∀{l:List Nat} {m:List Blk},fB H ids l m→l.length=m.length∧ ∀(j i:Nat) (b:Blk),l[j]? =some i→m[j]? =some b→inO H ids (ab H i) b
 | [],[],_=>⟨rfl,by simp⟩
 | i::l,b::m,h=>by
  simp only [fB] at h
  obtain ⟨h1,h2⟩:=pg h.2
  refine ⟨by simp [h1],fun j i' b' hi hb=> ?_⟩
  cases j with
  | zero=>simp at hi hb;subst hi hb;exact h.1
  | succ j=>exact h2 j i' b' (by simpa using hi) (by simpa using hb)
 | [],_::_,h=>by simp [fB] at h
 | _::_,[],h=>by simp [fB] at h
def eD (H:List (Nat×Blk)):List Nat→List Nat
 | []=> []
 | i::l=>ownI1 (ab H i) i (eD H l)
where ownI1:Option Blk→Nat→List Nat→List Nat
 | some (.own _ _ _ _ _),i,l=>i::l
 | _,_,l=>l
theorem Cv {H:List (Nat×Blk)} {i:Nat} {T n:Nat} {g:Bool} {z:Option Bool} {m:List V} (hb:ab H i=some (.own T n g z m)): ∀{l:List Nat},i∈l→i∈eD H l
 | j::l,h=>by
  simp only [eD]
  rcases List.mem_cons.1 h with rfl|h
  ·rw [hb];simp [eD.ownI1]
  ·have:=Cv hb h
   unfold eD.ownI1
   split
   ·exact List.mem_cons_of_mem _ this
   ·exact this
def sg (ids:List Nat) (nx j:Nat):Nat:=match ids[j]? with
 | some i=>i
 | none=>nx+(j - ids.length)
def je:Option Blk→Blk→Blk
 | some (.lent k _ _ _),.var n g d=> .lent k n g d
 | _,b=>b
def gI (H0:List (Nat×Blk)):List (Nat×Blk)→List Nat→List Blk→List (Nat×Blk)
 | h,i::l,b::m=>gI H0 (cK h i (je (ab H0 i) b)) l m
 | h,_,_=>h
theorem w7 {H0:List (Nat×Blk)} {i:Nat}: ∀{l:List Nat} {m:List Blk} {h:List (Nat×Blk)},i∉l→ab (gI H0 h l m) i=ab h i
 | [],[],_,_=>rfl
 | [],_::_,_,_=>rfl
 | _::_,[],_,_=>rfl
 | j::l,b::m,h,hi=>by
  simp only [List.mem_cons,not_or] at hi
  simp only [gI]
  rw [w7 hi.2,cC,if_neg (Ne.symm hi.1)]
theorem Cw {H0:List (Nat×Blk)} {i:Nat} {b:Blk}: ∀{l:List Nat} {m:List Blk} {h:List (Nat×Blk)} {j:Nat},l.Nodup→l[j]? =some i→m[j]? =some b→ab (gI H0 h l m) i=some (je (ab H0 i) b)
 | [],_,_,j,_,hi,_=>by simp at hi
 | _::_,[],_,j,_,_,hb=>by simp at hb
 | x::l,y::m,h,0,hd,hi,hb=>by
  simp at hi hb
  subst hi hb
  simp only [gI]
  rw [w7 (List.nodup_cons.1 hd).1,cC,if_pos rfl]
 | x::l,y::m,h,j+1,hd,hi,hb=>by
  simp only [gI]
  exact Cw (List.nodup_cons.1 hd).2 (by simpa using hi) (by simpa using hb)
def St.afterI (S:St) (ids:List Nat) (Hout Hnew:List Blk) (d:Option Nat) (r:V):St:=
 St.put ⟨prF (bk (eD S.H ids)) S.F,gz S.nx 0 (fh (sg ids S.nx) Hnew)++gI S.H (prH (bk (eD S.H ids)) S.H) ids (fh (sg ids S.nx) Hout),S.nx+Hnew.length⟩ d (ren (sg ids S.nx) r)
def ro2 (ids:List Nat) (nx:Nat) (ρ ρr:Ro):Ro:=fun i=>match dw ids i 0 with
 | some j=>ρr j
 | none=>if i<nx then ρ i else ρr (ids.length+(i - nx))
theorem JX {ids:List Nat} {i j:Nat} (hd:ids.Nodup) (h:ids[j]? =some i):dw ids i 0=some j:=by
 cases hp:dw ids i 0 with
 | none=>exact absurd (List.mem_of_getElem? h) (wX hp)
 | some q=>
  obtain ⟨_,h2⟩:=lw hp
  rw [pe hd h h2]
  rfl
theorem Cy {ids:List Nat} {i:Nat} (h:i∉ids):dw ids i 0=none:=by
 cases hp:dw ids i 0 with
 | none=>rfl
 | some q=>
  obtain ⟨_,h2⟩:=lw hp
  exact absurd (List.mem_of_getElem? h2) h
theorem sK {ids:List Nat} {nx i j:Nat} {ρr:Ro} (hd:ids.Nodup) (h:ids[j]? =some i):ro2 ids nx ρ ρr i=ρr j:=by
 simp only [ro2,JX hd h]
theorem m5 {ids:List Nat} {nx i:Nat} {ρr:Ro} (h:i∉ids) (hi:i<nx):ro2 ids nx ρ ρr i=ρ i:=by
 simp only [ro2,Cy h,if_pos hi]
theorem Cz {ids:List Nat} {nx i:Nat} {ρr:Ro} (h: ∀j∈ids,j<nx) (hi:nx≤i):ro2 ids nx ρ ρr i=ρr (ids.length+(i - nx)):=by
 have:i∉ids:=fun e=>by have:=h i e;omega
 simp only [ro2,Cy this,if_neg (Nat.not_lt.2 hi)]
theorem JY {ids:List Nat} {nx:Nat} {ρr:Ro} (hd:ids.Nodup) (h: ∀j∈ids,j<nx) (j:Nat):ro2 ids nx ρ ρr (sg ids nx j)=ρr j:=by
 unfold sg
 cases hj:ids[j]? with
 | some i=>exact sK hd hj
 | none=>
  have hle:=List.getElem?_eq_none_iff.1 hj
  rw [Cz h (Nat.le_add_right _ _)]
  congr 1;omega
theorem Var.leY {α:Type} {c c':Cx} {b:Nat} {r:Rep α} {d:α} (h:c.leY c') (hp:c.pub c') (hb:b∉c.Y) (hv:Var c b r d):Var c' b r d:=by
 obtain ⟨h1,T,cs,h2,h3⟩:=hv
 have hlt:=c.ok b h1
 exact ⟨(h.old b hlt hb).2 h1,T,cs,(h.below.block b hlt hb).trans h2,r.mono h3 hp⟩
theorem Own.leY {α:Type} {c c':Cx} {E:TypeId} {v:Value} {r:Rep α} {l:List α} (ho:Own c E v r l) (h:c.leY c') (hp:c.pub c') (hb: ∀i,blk v=some i→i∉c.Y):Own c' E v r l:=by
 refine ⟨ho.1,?_⟩
 rcases ho.2 with h'|⟨g',cap,cur,rfl,h1,h2,h3,h4,h5,h6⟩
 ·exact .inl h'
 ·have hlt:=c.ok g' h1
  exact .inr ⟨g',cap,cur,rfl,(h.old g' hlt (hb g' rfl)).2 h1,(h.below.block g' hlt (hb g' rfl)).trans h2,h3,h4,h5,c_ hp h6⟩
theorem eL.leY {c c':Cx} {r:Nat} {g:Bool} {k:IntKind} {n:Nat} {l:List (List Int)} (h:c.leY c') (hb:r∉c.Y) (hv:eL c r g k n l):eL c' r g k n l:=by
 obtain ⟨h1,h2,es,clock,h3,h4⟩:=hv
 have hlt:=c.ok r h1
 exact ⟨(h.old r hlt hb).2 h1,h2,es,clock,(h.below.block r hlt hb).trans h3,h4⟩
theorem JZ {Y:List Nat} {c':Cx} (h:(c.lend Y).leY c') (hp:c.pub c') {i:Nat} {b:Blk} (hne:aQ b=true→ ∀x,ak ρ i=some x→x∉Y) (hb:blkOk c0 c ρ i b):blkOk c0 c' ρ i b:=by
 have hp':(c.lend Y).pub c':=⟨hp.size,fun k hk hx=>hp.keep k hk hx⟩
 cases b with
 | var n g d=>
  obtain ⟨b,h1,h2,h3⟩:=hb
  exact ⟨b,h1,h2,Var.leY h hp' (hne rfl b (by simp [ak,h1])) ((c.chg_lend Y).var (by simp) h3)⟩
 | own E n g z l=>
  obtain ⟨v,h1,h2,h3,h4,a,cap,e,h5⟩:=hb
  exact ⟨v,h1,(h2.chg (c.chg_lend Y) (by simp)).leY h hp' (fun x hx=>hne rfl x (by rw [dZ h1 e];exact hx)),h3,h4,a,cap,e,h5⟩
 | ownI E n g z l=>
  obtain ⟨v,h1,h2,h3,h4,a,cap,e,h5⟩:=hb
  exact ⟨v,h1,(h2.chg (c.chg_lend Y) (by simp)).leY h hp' (fun x hx=>hne rfl x (by rw [dZ h1 e];exact hx)),h3,h4,a,cap,e,h5⟩
 | kset g k' n l=>
  obtain ⟨r,h1,h2,h3⟩:=hb
  exact ⟨r,h1,h2,eL.leY h (hne rfl r (by simp [ak,h1,blk])) (h3.chg (c.chg_lend Y) (by simp))⟩
 | pvar n g d=>
  obtain ⟨b,h1,h2⟩:=hb
  exact ⟨b,h1,(jw _).mono h2 hp⟩
 | pown n g z l=>
  obtain ⟨v,h1,h2⟩:=hb
  exact ⟨v,h1,bl hp h2⟩
 | lent k' n g d=>
  obtain ⟨h1,h2,h3⟩:=hb
  exact ⟨h1,h2,Var.leY h hp' (hne rfl k' (by simp [ak,h1])) ((c.chg_lend Y).var (by simp) h3)⟩
theorem J0 {ρ':Ro} {p:Nat→Bool} {i:Nat} {b:Blk} (k: ∀i v,p i=false→ρ i=some v→ρ' i=some v) (hi: ∀v,ρ i=some v→ρ' i=some v) (h:blkOk c0 c ρ i b):blkOk c0 c ρ' i (prB p b):=by
 cases b with
 | var n g d=>
  obtain ⟨b,h1,h2,h3,T,cs,h4,h5,h6⟩:=h
  exact ⟨b,hi _ h1,h2,h3,T,cs,h4,h5,mZ k h6⟩
 | own E n g z l=>
  obtain ⟨v,h1,h2⟩:=h
  exact ⟨v,hi _ h1,h2⟩
 | ownI E n g z l=>
  obtain ⟨v,h1,h2,h3,h4,h5⟩:=h
  simp only [prB,blkOk,Co]
  exact ⟨v,hi _ h1,Own.rep (f:=prV p) (r:=rV ρ n g) (s:=rV ρ' n g) (fun {cs d} (h1:gT n g cs∧rd ρ c d (mkV g cs))=>⟨h1.1,mZ k h1.2⟩) rfl h2,h3,h4,by simpa using h5⟩
 | kset g k' n l=>
  obtain ⟨r,h1,h2⟩:=h
  exact ⟨r,hi _ h1,h2⟩
 | pvar n g d=>
  obtain ⟨b,h1,h2⟩:=h
  exact ⟨b,hi _ h1,h2⟩
 | pown n g z l=>
  obtain ⟨v,h1,h2⟩:=h
  exact ⟨v,hi _ h1,h2⟩
 | lent k' n g d=>
  obtain ⟨h1,h2,h3,T,cs,h4,h5,h6⟩:=h
  exact ⟨hi _ h1,h2,h3,T,cs,h4,h5,mZ k h6⟩
def cT (ρ:Ro) (ids:List Nat):List Nat:=ids.filterMap (ak ρ)
def dx (ρ:Ro) (ids:List Nat) (j:Nat):Nat:=match ids[j]? with
 | some i=>(ak ρ i).getD 0
 | none=>0
theorem sL {H:List (Nat×Blk)} {ids:List Nat} {o:Option Blk} {b:Blk} (h:inO H ids o b): ∃a,o=some a∧aQ a=true∧(jd b∨eB b):=by
 unfold inO at h
 split at h
 ·exact ⟨_,rfl,rfl,.inr trivial⟩
 ·exact ⟨_,rfl,rfl,.inl trivial⟩
 ·exact ⟨_,rfl,rfl,.inl trivial⟩
 ·exact h.elim
theorem w8 (h:Sim E c0 c ρ S F) {ids:List Nat} {Hin:List Blk} (hd:ids.Nodup) (hi:fB S.H ids ids Hin):
  pf (c.lend (cT ρ ids)) (c.lend (cT ρ ids)) (bR ρ ids) (bY (dx ρ ids) 0 Hin):=by
 obtain ⟨hlen,hget⟩:=pg hi
 have hro: ∀{j i:Nat},ids[j]? =some i→bR ρ ids j=ρ i:=fun {j i} hj=>by simp only [bR,hj]
 refine ⟨?_,?_,?_⟩
 ·intro j b hb
  rw [m0,Nat.zero_add] at hb
  cases hj:Hin[j]? with
  | none=>rw [hj] at hb;cases hb
  | some b0=>
   rw [hj] at hb
   simp only [Option.map_some,Option.some.injEq] at hb
   subst hb
   have hjl:j<ids.length:=by rw [hlen];exact (List.getElem?_eq_some_iff.1 hj).1
   obtain ⟨i,hji⟩: ∃i,ids[j]? =some i:=⟨_,List.getElem?_eq_getElem hjl⟩
   have hin:=hget j i b0 hji hj
   have hmem:i∈ids:=List.mem_of_getElem? hji
   have hY: ∀k,ak ρ i=some k→k∈cT ρ ids:=fun k hk=>List.mem_filterMap.2 ⟨i,hmem,hk⟩
   cases hS:ab S.H i with
   | none=>rw [hS] at hin;unfold inO at hin;exact hin.elim
   | some a=>
    have hblk:=h.heap i a hS
    rw [hS] at hin
    have hmy: ∀k,ak ρ i=some k→(c.lend (cT ρ ids)).mine k:=fun k hk=> .inr (hY k hk)
    unfold inO at hin
    split at hin
    ·rename_i T n g z l T' n' g' z' l' e
     cases e
     obtain ⟨rfl,rfl,rfl,hz,hml⟩:=hin
     obtain ⟨v,h1,h2,h3,h4,a,cap,es,h5⟩:=hblk
     exact ⟨v,(hro hji).trans h1,Cu (h2.chg (c.chg_lend _) (by simp)) hml,fun k hk=>hmy k (by rw [dZ h1 es];exact hk),h4,a,cap,by rw [←jO hml];exact es,lk hz h5⟩
    ·rename_i n g d n' g' d' e
     cases e
     obtain ⟨rfl,rfl,hm⟩:=hin
     obtain ⟨b,h1,h2,h3⟩:=hblk
     have hb:ak ρ i=some b:=by simp [ak,h1]
     have hk:dx ρ ids j=b:=by simp [dx,hji,hb]
     simp only [fy,hk]
     obtain ⟨q1,T0,cs0,q2,q3,q4⟩:=h3
     exact ⟨(hro hji).trans h1,hmy b hb,q1,T0,cs0,q2,q3,bl (c.pub_lend _) (dM hm (sJ h q4))⟩
    ·rename_i k0 n g d n' g' d' e
     cases e
     obtain ⟨rfl,rfl,hm⟩:=hin
     obtain ⟨h1,h2,h3⟩:=hblk
     have hb:ak ρ i=some k0:=by simp [ak,h1]
     have hk:dx ρ ids j=k0:=by simp [dx,hji,hb]
     simp only [fy,hk]
     obtain ⟨q1,T0,cs0,q2,q3,q4⟩:=h3
     exact ⟨(hro hji).trans h1,hmy k0 hb,q1,T0,cs0,q2,q3,bl (c.pub_lend _) (dM hm (sJ h q4))⟩
    ·exact hin.elim
 ·intro j hj
  rw [sH] at hj
  simp only [bR]
  rw [List.getElem?_eq_none (by omega)]
 ·intro j j' b b' k hne hj hj' hk hk'
  rw [m0] at hj hj'
  have get: ∀{q:Nat} {x:Blk},(Hin[q]?).map (fy (dx ρ ids (0+q)))=some x→ ∃i a,ids[q]? =some i∧ab S.H i=some a∧aQ a=true:=by
   intro q x hq
   cases hj:Hin[q]? with
   | none=>rw [hj] at hq;cases hq
   | some b0=>
    have hjl:q<ids.length:=by rw [hlen];exact (List.getElem?_eq_some_iff.1 hj).1
    have hji:ids[q]? =some ids[q]:=List.getElem?_eq_getElem hjl
    obtain ⟨a,h1,h2,_⟩:=sL (hget q _ b0 hji hj)
    exact ⟨_,a,hji,h1,h2⟩
  obtain ⟨i,a,g1,g2,g3⟩:=get hj
  obtain ⟨i',a',g1',g2',g3'⟩:=get hj'
  have hii:i≠i':=by
   rintro rfl
   exact hne (pe hd g1 g1')
  have e1:ak (bR ρ ids) j=ak ρ i:=blkOf_eq' (hro g1)
  have e2:ak (bR ρ ids) j'=ak ρ i':=blkOf_eq' (hro g1')
  rw [e1] at hk
  rw [e2] at hk'
  exact h.sep i i' a a' k hii g2 g2' g3 g3' hk hk'
where blkOf_eq' {ρ ρ':Ro} {i j:Nat} (h:ρ' j=ρ i):ak ρ' j=ak ρ i:=by unfold ak;rw [h]
end
end Go.Proofs.YteibkofekpejgaaGreatDoor
namespace Go.Proofs.YteibkofekpejgaaGreatDoor
open Go.RowKit
section
variable {E:Env} {J:bV} {k:List Ct} {S S1:St} {c0 c:Cx} {ρ:Ro} {F:Fm}
theorem lB (h:Sim E c0 c ρ S F) {ids:List Nat} {Hin:List Blk} (hi:fB S.H ids ids Hin) {x:Nat} (hx:x∈cT ρ ids): ∃i a,i∈ids∧ab S.H i=some a∧aQ a=true∧ak ρ i=some x:=by
 obtain ⟨hlen,hget⟩:=pg hi
 obtain ⟨i,hm,hb⟩:=List.mem_filterMap.1 hx
 obtain ⟨j,hj,e⟩:=List.getElem_of_mem hm
 have hjH:j<Hin.length:=by omega
 obtain ⟨a,h1,h2,_⟩:=sL (hget j i Hin[j] (by rw [List.getElem?_eq_getElem hj,e]) (List.getElem?_eq_getElem hjH))
 exact ⟨i,a,hm,h1,h2,hb⟩
theorem CA (h:aT E c0 c ρ S F) {ids:List Nat} {Hin Hout Hnew:List Blk} (hd:ids.Nodup) (hi:fB S.H ids ids Hin) (hk:ii Hin Hout=true) (hn:lA Hnew=true) {c':Cx} {ρr:Ro} {r:V} {v:Value}
  (hle:(c.lend (cT ρ ids)).leY c') (hr:rd ρr c' r v) (hH:pf (c.lend (cT ρ ids)) c' ρr (bY (dx ρ ids) 0 Hout++Hnew)) (d:Option Nat):
  aT E c0 c' (ro2 ids S.nx ρ ρr) (S.afterI ids Hout Hnew d r) (bI F d v):=by
 obtain ⟨hlen,hget⟩:=pg hi
 obtain ⟨hkl,hkk⟩:=w5 hk
 have hlO:(bY (dx ρ ids) 0 Hout).length=ids.length:=by rw [sH];omega
 have hlt: ∀i∈ids,i<S.nx:=by
  intro i hm
  obtain ⟨j,hj,e⟩:=List.getElem_of_mem hm
  obtain ⟨a,h1,_⟩:=sL (hget j i Hin[j] (by rw [List.getElem?_eq_getElem hj,e]) (List.getElem?_eq_getElem (by omega)))
  obtain ⟨x,hx⟩:=Cr (h.1.heap i a h1)
  rcases Nat.lt_or_ge i S.nx with h2|h2
  ·exact h2
  ·rw [h.2 i h2] at hx;cases hx
 have hYX: ∀x,x∈cT ρ ids→c0.mine x:=by
  intro x hx
  obtain ⟨i,a,_,h2,h3,h4⟩:=lB h.1 hi hx
  exact gY h.1 h2 h3 x h4
 have hYlt: ∀x,x∈cT ρ ids→x<c.w.heap.size:=by
  intro x hx
  obtain ⟨i,a,_,h2,h3,h4⟩:=lB h.1 hi hx
  exact eN h3 (h.1.heap i a h2) x h4
 have hYp: ∀x,x∈cT ρ ids→x∈c.X:=by
  intro x hx
  obtain ⟨i,a,_,h2,h3,h4⟩:=lB h.1 hi hx
  have hb:=h.1.heap i a h2
  cases a with
  | var n g d=>obtain ⟨b,g1,_,g3⟩:=hb;simp only [ak,g1,Option.some.injEq] at h4;subst h4;exact g3.1
  | lent b n g d=>obtain ⟨g1,_,g3⟩:=hb;simp only [ak,g1,Option.some.injEq] at h4;subst h4;exact g3.1
  | own T n g z l=>obtain ⟨u,g1,g2,_,_,a,cap,e,_⟩:=hb;rw [dZ g1 e] at h4;exact g2.isX x h4
  | ownI T n g z l=>obtain ⟨u,g1,g2,_,_,a,cap,e,_⟩:=hb;rw [dZ g1 e] at h4;exact g2.isX x h4
  | kset g k' n l=>obtain ⟨r,g1,_,g3⟩:=hb;simp only [ak,g1,blk,Option.some.injEq] at h4;subst h4;exact g3.1
  | pvar n g d=>cases h3
  | pown n g z l=>cases h3
 have hpub:c.pub c':=⟨hle.below.size,fun x hx hnX=>⟨fun h'=>hnX ((hle.old x hx (fun hy=>hnX (hYp x hy))).1 h'),fun o ho _=>(hle.below.block x hx (fun hy=>hnX (hYp x hy))).trans ho⟩⟩
 have hsince:cw c0 c':=by
  refine ⟨⟨hle.below.os.trans h.1.since.below.os,hle.below.tape.trans h.1.since.below.tape,hle.below.output.trans h.1.since.below.output,Nat.le_trans h.1.since.size hle.below.size,?_⟩,?_,fun x hx hnX h'=>(h.1.since.Xn x hx hnX) (by
   by_cases hY:x∈cT ρ ids
   ·exact hYp x hY
   ·exact (hle.old x (Nat.lt_of_lt_of_le hx h.1.since.size) hY).1 h')⟩
  ·intro x hx hy
   refine (hle.below.block x (Nat.lt_of_lt_of_le hx h.1.since.size) (fun hY=> ?_)).trans (h.1.since.below.block x hx hy)
   rcases hYX x hY with h1|h1
   ·omega
   ·exact hy h1
  ·intro x hx hy
   have hxX:=h.1.since.X x hx hy
   refine (hle.old x (c.ok x hxX) (fun hY=> ?_)).2 hxX
   rcases hYX x hY with h1|h1
   ·have:=c0.ok x hx;omega
   ·exact hy h1
 have hmine: ∀x,(c.lend (cT ρ ids)).mine x→c0.mine x:=by
  rintro x (h1|h1)
  ·exact .inl (Nat.le_trans h.1.since.size h1)
  ·exact hYX x h1
 -- names
 have hsg: ∀j x,ρr j=some x→ro2 ids S.nx ρ ρr (sg ids S.nx j)=some x:=fun j x hx=>(JY hd hlt j).trans hx
 have hnew: ∀i,S.nx≤i→ro2 ids S.nx ρ ρr i=ρr (ids.length+(i - S.nx)):=fun i hi=>Cz hlt hi
 have hold: ∀i b,ab S.H i=some b→i<S.nx:=by
  intro i b hb
  obtain ⟨x,hx⟩:=Cr (h.1.heap i b hb)
  rcases Nat.lt_or_ge i S.nx with h2|h2
  ·exact h2
  ·rw [h.2 i h2] at hx;cases hx
 -- what the call gives back under a lent name
 have hback: ∀j i,ids[j]? =some i→ ∃b a,Hout[j]? =some b∧ab S.H i=some a∧((jd b∧ ∀x,ρ i=some x→ρr j=some x)∨(eB b∧ ∃T n g z l,a= .own T n g z l))∧blkOk c0 c' (ro2 ids S.nx ρ ρr) i (je (ab S.H i) (ig (sg ids S.nx) b)):=by
  intro j i hj
  have hjl:=(List.getElem?_eq_some_iff.1 hj).1
  have hHi:Hin[j]? =some Hin[j]:=List.getElem?_eq_getElem (by omega)
  have hHo:Hout[j]? =some Hout[j]:=List.getElem?_eq_getElem (by omega)
  have hin:=hget j i _ hj hHi
  have hkj:=hkk j _ _ hHi hHo
  generalize Hin[j]=bi at hin hkj hHi
  generalize Hout[j]=bo at hkj hHo
  have hblk:blkOk (c.lend (cT ρ ids)) c' ρr j (fy (dx ρ ids j) bo):=by
   refine hH.1 j _ ?_
   rw [List.getElem?_append_left (by omega),m0,Nat.zero_add,hHo];rfl
  have hro:ro2 ids S.nx ρ ρr i=ρr j:=sK hd hj
  cases hS:ab S.H i with
  | none=>rw [hS] at hin;unfold inO at hin;exact hin.elim
  | some a=>
   have hold:=h.1.heap i a hS
   rw [hS] at hin
   have var: ∀{n g d} {b:Nat},bo= .var n g d→dx ρ ids j=b→ρ i=some (.pointer (some ⟨b,0,none⟩))→ak ρ i=some b→c0.mine b∧ρr j=some (.pointer (some ⟨b,0,none⟩))∧Var c' b (rV (ro2 ids S.nx ρ ρr) n g) (ren (sg ids S.nx) d):=by
    intro n g d b e hb hp hbo
    subst e
    simp only [fy,hb] at hblk
    obtain ⟨g1,g2,g3,T,cs,g4,g5,g6⟩:=hblk
    exact ⟨hmine b g2,g1,g3,T,cs,g4,g5,sG hsg g6⟩
   unfold inO at hin
   split at hin
   ·rename_i T n g z l T' n' g' z' l' e
    cases e
    rcases hkj with ⟨h1,_⟩|⟨_,h1⟩
    ·exact h1.elim
    ·refine ⟨bo,_,hHo,rfl,.inr ⟨h1,_,_,_,_,_,rfl⟩,?_⟩
     cases bo<;>simp only [eB] at h1
     simp only [fy] at hblk
     obtain ⟨x,g1,g2,g3,g4,g5⟩:=hblk
     simp only [ig,je]
     exact ⟨x,hro.trans g1,g2,fun k hk=>hmine k (g3 k hk),g4,g5⟩
   ·rename_i n g d n' g' d' e
    cases e
    rcases hkj with ⟨_,h1⟩|⟨h1,_⟩
    ·obtain ⟨b,g1,_⟩:=hold
     have hbo:ak ρ i=some b:=by simp [ak,g1]
     cases bo<;>simp only [jd] at h1
     obtain ⟨k1,k2,k3⟩:=var rfl (by simp [dx,hj,hbo]) g1 hbo
     refine ⟨_,_,hHo,rfl,.inl ⟨trivial,fun x hx=> ?_⟩,?_⟩
     ·rw [g1] at hx;cases hx;exact k2
     ·simp only [ig,je]
      exact ⟨b,hro.trans k2,k1,k3⟩
    ·exact h1.elim
   ·rename_i k0 n g d n' g' d' e
    cases e
    rcases hkj with ⟨_,h1⟩|⟨h1,_⟩
    ·obtain ⟨g1,_⟩:=hold
     have hbo:ak ρ i=some k0:=by simp [ak,g1]
     cases bo<;>simp only [jd] at h1
     obtain ⟨k1,k2,k3⟩:=var rfl (by simp [dx,hj,hbo]) g1 hbo
     refine ⟨_,_,hHo,rfl,.inl ⟨trivial,fun x hx=> ?_⟩,?_⟩
     ·rw [g1] at hx;cases hx;exact k2
     ·simp only [ig,je]
      exact ⟨hro.trans k2,k1,k3⟩
    ·exact h1.elim
   ·exact hin.elim
 have hpr: ∀i x,bk (eD S.H ids) i=false→ρ i=some x→ro2 ids S.nx ρ ρr i=some x:=by
  intro i x hp hx
  have hilt:i<S.nx:=by
   rcases Nat.lt_or_ge i S.nx with h2|h2
   ·exact h2
   ·rw [h.2 i h2] at hx;cases hx
  by_cases hm:i∈ids
  ·obtain ⟨j,hj,e⟩:=List.getElem_of_mem hm
   have hj':ids[j]? =some i:=by rw [List.getElem?_eq_getElem hj,e]
   obtain ⟨b,a,_,h2,h3,_⟩:=hback j i hj'
   rcases h3 with ⟨_,h3⟩|⟨_,T,n,g,z,l,rfl⟩
   ·rw [sK hd hj'];exact h3 x hx
   ·have:=fb.2 (Cv h2 hm)
    rw [hp] at this;cases this
  ·rw [m5 hm hilt];exact hx
 -- the blocks behind the call
 have hcase: ∀i b,ab (gz S.nx 0 (fh (sg ids S.nx) Hnew)++gI S.H (prH (bk (eD S.H ids)) S.H) ids (fh (sg ids S.nx) Hout)) i=some b→
   (∃(q:Nat) (b0:Blk),i=S.nx+q∧Hnew[q]? =some b0∧b=ig (sg ids S.nx) b0)∨(∃(j:Nat) (b0:Blk),ids[j]? =some i∧Hout[j]? =some b0∧b=je (ab S.H i) (ig (sg ids S.nx) b0))∨(i∉ids∧ ∃b0,ab S.H i=some b0∧b=prB (bk (eD S.H ids)) b0):=by
  intro i b hb
  have rest:ab (gI S.H (prH (bk (eD S.H ids)) S.H) ids (fh (sg ids S.nx) Hout)) i=some b→(∃(j:Nat) (b0:Blk),ids[j]? =some i∧Hout[j]? =some b0∧b=je (ab S.H i) (ig (sg ids S.nx) b0))∨(i∉ids∧ ∃b0,ab S.H i=some b0∧b=prB (bk (eD S.H ids)) b0):=by
   intro hb
   by_cases hm:i∈ids
   ·obtain ⟨j,hj,e⟩:=List.getElem_of_mem hm
    have hj':ids[j]? =some i:=by rw [List.getElem?_eq_getElem hj,e]
    obtain ⟨b0,_,h1,_⟩:=hback j i hj'
    have:=Cw (H0:=S.H) (h:=prH (bk (eD S.H ids)) S.H) (m:=fh (sg ids S.nx) Hout) hd hj' (by rw [w3,h1];rfl)
    rw [this] at hb
    cases hb
    exact .inl ⟨j,b0,hj',h1,rfl⟩
   ·rw [w7 hm,Cq] at hb
    cases hS:ab S.H i with
    | none=>rw [hS] at hb;cases hb
    | some b0=>rw [hS] at hb;cases hb;exact .inr ⟨hm,b0,rfl,rfl⟩
  simp only [mH,rF,Nat.add_zero] at hb
  by_cases h1:S.nx≤i
  ·rw [if_pos h1,w3] at hb
   cases hq:Hnew[i - S.nx]? with
   | some x=>rw [hq] at hb;simp only [Option.map_some,Option.some.injEq] at hb;exact .inl ⟨i - S.nx,x,by omega,hq,hb.symm⟩
   | none=>rw [hq] at hb;exact .inr (rest hb)
  ·rw [if_neg h1] at hb;exact .inr (rest hb)
 have hnewOk: ∀q b,Hnew[q]? =some b→(∃T n g z l,b= .own T n g z l)∧blkOk (c.lend (cT ρ ids)) c' ρr (ids.length+q) b:=by
  intro q b hq
  have h1:=w6 hn q b hq
  refine ⟨?_,hH.1 (ids.length+q) b ?_⟩
  ·cases b<;>simp only [eB] at h1
   exact ⟨_,_,_,_,_,rfl⟩
  ·rw [List.getElem?_append_right (by omega),hlO,Nat.add_sub_cancel_left];exact hq
 have hput: ∀(S':St),aT E c0 c' (ro2 ids S.nx ρ ρr) S' F→aT E c0 c' (ro2 ids S.nx ρ ρr) (S'.put d (ren (sg ids S.nx) r)) (bI F d v):=
  fun S' hS=>iQ hS (sG hsg hr)
 refine hput _ ⟨⟨hsince,h.1.gl.mono hpub,?_,?_,?_⟩,?_⟩
 ·intro t x ht
  simp only [Cp,Option.map_eq_some_iff] at ht
  obtain ⟨x0,hx0,rfl⟩:=ht
  exact mZ hpr (bl hpub (h.1.slot t x0 hx0))
 ·intro i b hb
  rcases hcase i b hb with ⟨q,b0,rfl,hq,rfl⟩|⟨j,b0,hj,hb0,rfl⟩|⟨hm,b0,hS,rfl⟩
  ·obtain ⟨⟨T,n,g,z,l,rfl⟩,x,g1,g2,g3,g4⟩:=hnewOk q _ hq
   refine ⟨x,?_,g2,fun k hk=>hmine k (g3 k hk),g4⟩
   rw [hnew _ (Nat.le_add_right _ _),Nat.add_sub_cancel_left];exact g1
  ·obtain ⟨b1,a,h1,_,_,h4⟩:=hback j i hj
   rw [hb0] at h1;cases h1
   exact h4
  ·refine J0 hpr (fun x hx=> ?_) (JZ hle hpub (fun hp x hx hY=> ?_) (h.1.heap i b0 hS))
   ·rw [m5 hm (hold i b0 hS)];exact hx
   ·obtain ⟨i',a,h1,h2,h3,h4⟩:=lB h.1 hi hY
    exact h.1.sep i i' b0 a x (fun e=>hm (e▸h1)) hS h2 hp h3 hx h4
 ·-- apart
  have hname: ∀i b,ab (gz S.nx 0 (fh (sg ids S.nx) Hnew)++gI S.H (prH (bk (eD S.H ids)) S.H) ids (fh (sg ids S.nx) Hout)) i=some b→aQ b=true→
    (∃(q:Nat) (bq:Blk),(bY (dx ρ ids) 0 Hout++Hnew)[q]? =some bq∧ro2 ids S.nx ρ ρr i=ρr q∧i=sg ids S.nx q∧ ∀x,ak ρr q=some x→(c.lend (cT ρ ids)).mine x)∨(i∉ids∧i<S.nx∧ ∃b0,ab S.H i=some b0∧aQ b0=true):=by
   intro i b hb hp
   have hm9: ∀q bq,(bY (dx ρ ids) 0 Hout++Hnew)[q]? =some bq→aQ bq=true→ ∀x,ak ρr q=some x→(c.lend (cT ρ ids)).mine x:=by
    intro q bq hq hpq x hx
    have hb:=hH.1 q bq hq
    cases bq with
    | var n g d=>obtain ⟨b,g1,g2,_⟩:=hb;simp only [ak,g1,Option.some.injEq] at hx;subst hx;exact g2
    | lent b n g d=>obtain ⟨g1,g2,_⟩:=hb;simp only [ak,g1,Option.some.injEq] at hx;subst hx;exact g2
    | own T n g z l=>obtain ⟨u,g1,g2,g3,_,a,cap,e,_⟩:=hb;rw [dZ g1 e] at hx;exact g3 x hx
    | ownI T n g z l=>obtain ⟨u,g1,g2,g3,_,a,cap,e,_⟩:=hb;rw [dZ g1 e] at hx;exact g3 x hx
    | kset g k' n l=>obtain ⟨r,g1,g2,_⟩:=hb;simp only [ak,g1,blk,Option.some.injEq] at hx;subst hx;exact g2
    | pvar n g d=>cases hpq
    | pown n g z l=>cases hpq
   rcases hcase i b hb with ⟨q,b0,rfl,hq,rfl⟩|⟨j,b0,hj,hb0,rfl⟩|⟨hm,b0,hS,rfl⟩
   ·obtain ⟨⟨T,n,g,z,l,rfl⟩,_⟩:=hnewOk q b0 hq
    have hq':(bY (dx ρ ids) 0 Hout++Hnew)[ids.length+q]? =some (.own T n g z l):=by
     rw [List.getElem?_append_right (by omega),hlO,Nat.add_sub_cancel_left];exact hq
    refine .inl ⟨ids.length+q,_,hq',?_,?_,hm9 _ _ hq' rfl⟩
    ·rw [hnew _ (Nat.le_add_right _ _),Nat.add_sub_cancel_left]
    ·simp only [sg,List.getElem?_eq_none (Nat.le_add_right _ _),Nat.add_sub_cancel_left]
   ·have hjl:=(List.getElem?_eq_some_iff.1 hj).1
    have hq':(bY (dx ρ ids) 0 Hout++Hnew)[j]? =some (fy (dx ρ ids j) b0):=by
     rw [List.getElem?_append_left (by omega),m0,Nat.zero_add,hb0];rfl
    refine .inl ⟨j,_,hq',sK hd hj,by simp only [sg,hj],hm9 _ _ hq' ?_⟩
    obtain ⟨b1,a,h1,_,h3,_⟩:=hback j i hj
    rw [hb0] at h1;cases h1
    rcases h3 with ⟨h3,_⟩|⟨h3,_⟩<;>cases b0<;>simp only [jd,eB] at h3<;>rfl
   ·exact .inr ⟨hm,hold i b0 hS,b0,hS,by rw [JV] at hp;exact hp⟩
  intro i j bi bj x hij hbi hbj hpi hpj hx hx'
  rcases hname i bi hbi hpi with ⟨q,bq,hq,e,ei,hmq⟩|⟨hm,hl,b0,hS,hp0⟩<;>rcases hname j bj hbj hpj with ⟨q',bq',hq',e',ej,hmq'⟩|⟨hm',hl',b0',hS',hp0'⟩
  ·rw [blkOf_eq2 e] at hx
   rw [blkOf_eq2 e'] at hx'
   exact hH.2.2 q q' bq bq' x (fun eq=>hij (by rw [ei,ej,eq])) hq hq' hx hx'
  ·rw [blkOf_eq2 e] at hx
   rw [cM (m5 hm' hl')] at hx'
   have hlt':=eN hp0' (h.1.heap j b0' hS') x hx'
   rcases hmq x hx with h1|h1
   ·have h1:c.w.heap.size≤x:=h1
    omega
   ·obtain ⟨i',a,h1,h2,h3,h4⟩:=lB h.1 hi h1
    exact h.1.sep i' j a b0' x (fun e=>hm' (e▸h1)) h2 hS' h3 hp0' h4 hx'
  ·rw [blkOf_eq2 e'] at hx'
   rw [cM (m5 hm hl)] at hx
   have hlt':=eN hp0 (h.1.heap i b0 hS) x hx
   rcases hmq' x hx' with h1|h1
   ·have h1:c.w.heap.size≤x:=h1
    omega
   ·obtain ⟨i',a,h1,h2,h3,h4⟩:=lB h.1 hi h1
    exact h.1.sep i' i a b0 x (fun e=>hm (e▸h1)) h2 hS h3 hp0 h4 hx
  ·rw [cM (m5 hm hl)] at hx
   rw [cM (m5 hm' hl')] at hx'
   exact h.1.sep i j b0 b0' x hij hS hS' hp0 hp0' hx hx'
 ·intro i hi'
  simp only at hi'
  rw [hnew i (by omega)]
  exact hH.2.1 _ (by rw [List.length_append,hlO];omega)
where blkOf_eq2 {ρ ρ':Ro} {i j:Nat} (h:ρ' i=ρ j):ak ρ' i=ak ρ j:=by unfold ak;rw [h]
theorem jY {f:FuncId} {caps vs:List V} {d:Option Nat} {ws:List V} {r:V} {Hin Hout Hnew:List Blk} (ids:List Nat) (hc:eC E f ws Hin r Hout Hnew) (hd:ids.Nodup) (hi:fB S.H ids ids Hin) (hm:mtL (fA S.H ids (vs++caps)) ws)
  (h:wfV r→aG E J k .normal (S.afterI ids Hout Hnew d r)):eP E J (some (.fn f caps)) (some vs) S d k:=by
 refine .inr ⟨hc.1,_,r,?_,h⟩
 intro c0 c ρ F us hs hus
 have hk:=hc.2.1
 simp only [Bool.and_eq_true] at hk
 have hrd:=hP hm (m4 (ids:=ids) hs.1 hus)
 refine (show Calls E.P f us.toArray c.w _ from hc.2.2 (c.lend (cT ρ ids)) us (bR ρ ids) (dx ρ ids) (hs.1.gl.mono (c.pub_lend _)) (w8 hs.1 hd hi) (eW (c.pub_lend _) hrd)).mono ?_
 rintro e w' ⟨v,c',ρr,rfl,rfl,hle,hr,hH⟩
 exact ⟨v,c',_,rfl,rfl,CA hs hd hi hk.1 hk.2 hle hr hH d,iM hr⟩
theorem CB {f:FuncId} {caps vs:List V} {d:Option Nat} {ws:List V} {r:V} {Hin Hout Hnew:List Blk} (ids:List Nat) (hc:eC E f ws Hin r Hout Hnew) (hw:ic E S S1) (hd:ids.Nodup) (hi:fB S1.H ids ids Hin) (hm:mtL (fA S1.H ids (vs++caps)) ws)
  (h:wfV r→aG E J k .normal (S1.afterI ids Hout Hnew d r)):eP E J (some (.fn f caps)) (some vs) S d k:=by
 refine .inr ⟨hc.1,_,r,?_,h⟩
 intro c0 c0' ρ0 F us hs0 hus0
 obtain ⟨c,ρ,ew,hpb,hro,hs⟩:=hw c0 c0' ρ0 F hs0
 have hus:=mq hro (eW hpb hus0)
 have hk:=hc.2.1
 simp only [Bool.and_eq_true] at hk
 have hrd:=hP hm (m4 (ids:=ids) hs.1 hus)
 rw [←ew]
 refine (show Calls E.P f us.toArray c.w _ from hc.2.2 (c.lend (cT ρ ids)) us (bR ρ ids) (dx ρ ids) (hs.1.gl.mono (c.pub_lend _)) (w8 hs.1 hd hi) (eW (c.pub_lend _) hrd)).mono ?_
 rintro e w' ⟨v,c',ρr,rfl,rfl,hle,hr,hH⟩
 exact ⟨v,c',_,rfl,rfl,CA hs hd hi hk.1 hk.2 hle hr hH d,iM hr⟩
theorem CC {f:FuncId} {caps vs:List V} {d:Option Nat} {ws:List V} {r:V} {Hin Hout Hnew:List Blk} (ids:List Nat) (hc:eC E f ws Hin r Hout Hnew) (hw:ff E S S1) (hd:ids.Nodup) (hi:fB S1.H ids ids Hin) (hm:mtL (fA S1.H ids (vs++caps)) ws)
  (h:wfV r→aG E J k .normal (S1.afterI ids Hout Hnew d r)):eP E J (some (.fn f caps)) (some vs) S d k:=CB ids hc hw.toQ hd hi hm h
theorem CD {c c':Cx} {n:Nat} {g:Bool}: ∀{l:List V} {cs:List Value},fO l→aZ (rV ro0 n g) c cs l→aZ (rV ro0 n g) c' cs l
 | [],_,_,h=>h
 | a::l,cs,hf,h=>by
  simp only [fO,aZ] at hf h⊢
  obtain ⟨c1,c2,e,⟨h1,h2⟩,h3⟩:=h
  exact ⟨c1,c2,e,⟨h1,oF hf.1 h2⟩,CD hf.2 h3⟩
theorem CE {α:Type} {f:α→V} (h: ∀x,dl (f x)): ∀{l:List α},fO (l.map f)
 | []=>trivial
 | a::l=>⟨h a,CE h⟩
section
variable {D:Dr} {m i:Nat} {ll:List Oper} {R:List (Nat×a8)}
theorem J1 {f:FuncId} {caps vs ws:List V} {d:Option Nat} {T n:Nat} {g:Bool} {z z':Option Bool} {l l':List V} (id:Nat) (hc:eC E f ws [.own T n g z l] (.own 0) [.own T n g z' l'] []) (hm:(bB D.ub i id&& !decide (id=S.nx))=true) (hi:fB S.H [id] [id] [.own T n g z l]) (ha:mtL (fA S.H [id] (vs++caps)) ws) (hfl:fO l')
  (h:cc E D m (i+1) ll ((i,⟨d,.own S.nx,some (S.nx,.own T n g z' l')⟩)::R)):gE E D m i ll R d S (some (.fn f caps)) (some vs):=by
 obtain ⟨hlen,hget⟩:=pg hi
 obtain ⟨b0,hb0,hp0,_⟩:=sL (hget 0 id _ rfl rfl)
 refine .inr (.inr ⟨hc.1,id,T,n,g,z',l',hm,⟨b0,hb0,hp0⟩,fun c0 c ρ F us hs hus=> ?_,h⟩)
 have hrd:=hP ha (m4 (ids:=[id]) hs hus)
 refine (show Calls E.P f us.toArray c.w _ from hc.2.2 (c.lend (cT ρ [id])) us (bR ρ [id]) (dx ρ [id]) (hs.gl.mono (c.pub_lend _)) (w8 hs (by simp) hi) (eW (c.pub_lend _) hrd)).mono ?_
 rintro e w' ⟨v,c',ρr,rfl,rfl,hle,hr,hH⟩
 obtain ⟨v',e1,hown,hge,hone,a,cap,es,hz⟩:=hH.1 0 _ rfl
 simp only [rd] at hr
 have ev:v'=v:=by rw [hr.1] at e1;exact (Option.some.inj e1).symm
 subst ev
 have hY: ∀k,k∈cT ρ [id]↔ak ρ id=some k:=by
  intro k
  simp only [cT,List.mem_filterMap,List.mem_singleton]
  exact ⟨fun ⟨i,hi,hb⟩=>hi▸hb,fun hb=>⟨id,rfl,hb⟩⟩
 have hYlt: ∀k,k∈cT ρ [id]→k<c.w.heap.size:=fun k hk=>eN hp0 (hs.heap id b0 hb0) k ((hY k).1 hk)
 have hYX: ∀k,k∈cT ρ [id]→k∈c.X:=by
  intro k hk
  obtain ⟨i',a,h1,h2,h3,h4⟩:=lB hs hi hk
  have hb:=hs.heap i' a h2
  cases a with
  | var n g d=>obtain ⟨b,g1,_,g3⟩:=hb;simp only [ak,g1,Option.some.injEq] at h4;subst h4;exact g3.1
  | lent b n g d=>obtain ⟨g1,_,g3⟩:=hb;simp only [ak,g1,Option.some.injEq] at h4;subst h4;exact g3.1
  | own T n g z l=>obtain ⟨u,g1,g2,_,_,a,cap,e,_⟩:=hb;rw [dZ g1 e] at h4;exact g2.isX k h4
  | ownI T n g z l=>obtain ⟨u,g1,g2,_,_,a,cap,e,_⟩:=hb;rw [dZ g1 e] at h4;exact g2.isX k h4
  | kset g k' n l=>obtain ⟨r,g1,_,g3⟩:=hb;simp only [ak,g1,blk,Option.some.injEq] at h4;subst h4;exact g3.1
  | pvar n g d=>cases h3
  | pown n g z l=>cases h3
 refine ⟨v',{X:=cT ρ [id]++c'.X,w:=c'.w,ok:=fun k hk=> ?_},rfl,rfl,⟨hle.below.os,hle.below.tape,hle.below.output,hle.below.size,fun k hk hne=>hle.below.block k hk (fun hy=>hne ((hY k).1 hy)),fun k hk=> ?_,fun k hk=>hYX k ((hY k).2 hk)⟩,⟨hown.1,?_⟩,fun k hk=> ?_,hone,a,cap,es,hz⟩
 ·rcases List.mem_append.1 hk with hk|hk
  ·exact Nat.lt_of_lt_of_le (hYlt k hk) hle.below.size
  ·exact c'.ok k hk
 ·simp only [List.mem_append]
  by_cases hy:k∈cT ρ [id]
  ·exact ⟨fun _=>hYX k hy,fun _=> .inl hy⟩
  ·exact ⟨fun h'=>(hle.old k hk hy).1 (h'.resolve_left hy),fun h'=> .inr ((hle.old k hk hy).2 h')⟩
 ·rcases hown.2 with h'|⟨g',cp,cur,e,k1,k2,k3,k4,k5,k6⟩
  ·exact .inl h'
  ·exact .inr ⟨g',cp,cur,e,List.mem_append.2 (.inr k1),k2,k3,k4,k5,CD hfl k6⟩
 ·rcases hge k hk with h'|h'
  ·exact .inr h'
  ·exact .inl ((hY k).1 h')
end
def sM (E:Env) (S:St) (ks:Nat→Nat) (v r:V) (Hout Hnew:List Blk):Prop:=
 ∀c0 c ρ F u,aT E c0 c ρ S F→rd ρ c v u→ ∃c1 ρ1,c1.w=c.w∧c0.leY c1∧rd ρ1 c1 r u∧pf c0 c1 ρ1 (bY ks 0 Hout++Hnew)
def ph (E:Env) (rs:List ResultVar) (ks:Nat→Nat) (r:V) (Hout Hnew:List Blk):Exit→St→Prop
 | .ret,S=>match fR E.tb S rs with
  | some vs=>sM E S ks (fd vs) r Hout Hnew
  | none=>False
 | .normal,S=>match fR E.tb S rs with
  | some vs=>sM E S ks (fd vs) r Hout Hnew
  | none=>False
 | _,_=>False
def w9 (E:Env) (S:St) (ks:Nat→Nat) (r:V) (Hout Hnew:List Blk):Option (List V)→Prop
 | some vs=>sM E S ks (fd vs) r Hout Hnew
 | none=>False
theorem J2 {rs:List ResultVar} {ks:Nat→Nat} {r:V} {Hout Hnew:List Blk}:ph E rs ks r Hout Hnew .ret S=w9 E S ks r Hout Hnew (fR E.tb S rs):=Eq.trans rfl rfl
theorem J3 {rs:List ResultVar} {ks:Nat→Nat} {r:V} {Hout Hnew:List Blk}:ph E rs ks r Hout Hnew .normal S=w9 E S ks r Hout Hnew (fR E.tb S rs):=Eq.trans rfl rfl
def lC (H:List (Nat×Blk)) (ids:List Nat):Option Blk→Blk→Prop
 | some (.own T n g z l),.own T' n' g' z' l'=>T=T'∧n=n'∧g=g'∧mtZ z z'∧mtL l l'
 | some (.lent k n g d),.lent k' n' g' d'=>k=k'∧n=n'∧g=g'∧mt (fg H ids d) d'
 | _,_=>False
def jZ (H:List (Nat×Blk)) (ids:List Nat):List Nat→List Blk→Prop
 | [],[]=>True
 | i::l,b::m=>lC H ids (ab H i) b∧jZ H ids l m
 | _,_=>False
theorem CG {H:List (Nat×Blk)} {ids:List Nat}: ∀{l:List Nat} {m:List Blk},jZ H ids l m→l.length=m.length∧ ∀(j i:Nat) (b:Blk),l[j]? =some i→m[j]? =some b→lC H ids (ab H i) b
 | [],[],_=>⟨rfl,by simp⟩
 | i::l,b::m,h=>by
  simp only [jZ] at h
  obtain ⟨h1,h2⟩:=CG h.2
  refine ⟨by simp [h1],fun j i' b' hi hb=> ?_⟩
  cases j with
  | zero=>simp at hi hb;subst hi hb;exact h.1
  | succ j=>exact h2 j i' b' (by simpa using hi) (by simpa using hb)
 | [],_::_,h=>by simp [jZ] at h
 | _::_,[],h=>by simp [jZ] at h
theorem J4 {H:List (Nat×Blk)} {ids:List Nat} {o:Option Blk} {b:Blk} (h:lC H ids o b): ∃a,o=some a∧aQ a=true:=by
 unfold lC at h
 split at h
 ·exact ⟨_,rfl,rfl⟩
 ·exact ⟨_,rfl,rfl⟩
 ·exact h.elim
def Cx.giveI (c0 c:Cx) (L:List Nat) (h0:c0.w.heap.size≤c.w.heap.size) (h: ∀k∈L,k<c.w.heap.size):Cx:=
 {X:=c0.X.filter (fun k=>k∉c0.Y)++L,w:=c.w,ok:=fun k hk=>(by
  rcases List.mem_append.1 hk with hk|hk
  ·exact Nat.lt_of_lt_of_le (c0.ok k (List.mem_filter.1 hk).1) h0
  ·exact h k hk)}
theorem J5 {c0 c:Cx} {L:List Nat} {h0:c0.w.heap.size≤c.w.heap.size} {h: ∀k∈L,k<c.w.heap.size} {x:Nat}:x∈(Cx.giveI c0 c L h0 h).X↔(x∈c0.X∧x∉c0.Y)∨x∈L:=by
 simp [Cx.giveI]
theorem J6 {ks:Nat→Nat} {v r:V} {Hout Hnew:List Blk} (ids:List Nat) (ho:jZ S.H ids ids (bY ks 0 Hout++Hnew)) (hd:ids.Nodup) (hm:mt (fg S.H ids v) r):sM E S ks v r Hout Hnew:=by
 intro c0 c ρ F u h hr
 obtain ⟨hlen,hget⟩:=CG ho
 have hpriv: ∀i∈ids,∃a,ab S.H i=some a∧aQ a=true:=by
  intro i hi
  obtain ⟨j,hj,e⟩:=List.getElem_of_mem hi
  exact J4 (hget j i (bY ks 0 Hout++Hnew)[j] (by rw [List.getElem?_eq_getElem hj,e]) (List.getElem?_eq_getElem (by omega)))
 have hL: ∀x∈ids.filterMap (ak ρ),x<c.w.heap.size∧c0.mine x∧x∈c.X∧ ∃i∈ids,ak ρ i=some x:=by
  intro x hx
  obtain ⟨i,hi,hb⟩:=List.mem_filterMap.1 hx
  obtain ⟨a,h1,h2⟩:=hpriv i hi
  refine ⟨eN h2 (h.1.heap i a h1) x hb,gY h.1 h1 h2 x hb,?_,i,hi,hb⟩
  have hbk:=h.1.heap i a h1
  cases a with
  | var n g d=>obtain ⟨b,g1,_,g3⟩:=hbk;simp only [ak,g1,Option.some.injEq] at hb;subst hb;exact g3.1
  | lent b n g d=>obtain ⟨g1,_,g3⟩:=hbk;simp only [ak,g1,Option.some.injEq] at hb;subst hb;exact g3.1
  | own T n g z l=>obtain ⟨u,g1,g2,_,_,a,cap,e,_⟩:=hbk;rw [dZ g1 e] at hb;exact g2.isX x hb
  | ownI T n g z l=>obtain ⟨u,g1,g2,_,_,a,cap,e,_⟩:=hbk;rw [dZ g1 e] at hb;exact g2.isX x hb
  | kset g k' n l=>obtain ⟨r,g1,_,g3⟩:=hbk;simp only [ak,g1,blk,Option.some.injEq] at hb;subst hb;exact g3.1
  | pvar n g d=>cases h2
  | pown n g z l=>cases h2
 generalize hc1:Cx.giveI c0 c (ids.filterMap (ak ρ)) h.1.since.size (fun k hk=>(hL k hk).1)=c1
 have hw:c1.w=c.w:=by subst hc1;rfl
 have hX: ∀x,x∈c1.X↔(x∈c0.X∧x∉c0.Y)∨x∈ids.filterMap (ak ρ):=by subst hc1;intro x;exact J5
 have hpub:c.pub c1:=by
  refine ⟨by rw [hw];exact Nat.le_refl _,fun k hk hx=>⟨fun h'=> ?_,by rw [hw];exact fun _ h _=>h⟩⟩
  rcases (hX k).1 h' with h'|h'
  ·exact hx (h.1.since.X k h'.1 h'.2)
  ·exact hx (hL k h').2.2.1
 have hle:c0.leY c1:=by
  refine ⟨by rw [hw];exact h.1.since.below,fun k hk hy=>⟨fun h'=> ?_,fun h'=>(hX k).2 (.inl ⟨h',hy⟩)⟩⟩
  rcases (hX k).1 h' with h'|h'
  ·exact h'.1
  ·rcases (hL k h').2.1 with h1|h1
   ·omega
   ·exact absurd h1 hy
 have hn: ∀i b,i∉ids→ab S.H i=some b→aQ b=true→ ∀k,ak ρ i=some k→k∉c1.X:=by
  intro i b hi hb hp k hk hmem
  rcases (hX k).1 hmem with h'|h'
  ·rcases gY h.1 hb hp k hk with h1|h1
   ·have:=c0.ok k h'.1;omega
   ·exact h'.2 h1
  ·obtain ⟨_,_,_,j,hj,hb'⟩:=hL k h'
   obtain ⟨a,h1,h2⟩:=hpriv j hj
   exact h.1.sep i j b a k (fun e=>hi (e▸hj)) hb h1 hp h2 hk hb'
 refine ⟨c1,bR ρ ids,hw,hle,dM hm (pd hw hpub h.1 hn hr),?_,?_,?_⟩
 ·intro q b hq
  have hql:q<ids.length:=by rw [hlen];exact (List.getElem?_eq_some_iff.1 hq).1
  obtain ⟨i,hi⟩: ∃i,ids[q]? =some i:=⟨_,List.getElem?_eq_getElem hql⟩
  have ho':=hget q i b hi hq
  have hmem:i∈ids:=List.mem_of_getElem? hi
  have hro:bR ρ ids q=ρ i:=by simp only [bR,hi]
  have hmemX: ∀x,ak ρ i=some x→x∈c1.X:=fun x hx=>(hX x).2 (.inr (List.mem_filterMap.2 ⟨i,hmem,hx⟩))
  cases hS:ab S.H i with
  | none=>rw [hS] at ho';unfold lC at ho';exact ho'.elim
  | some a=>
   have hbk:=h.1.heap i a hS
   rw [hS] at ho'
   unfold lC at ho'
   split at ho'
   ·rename_i T n g z l T' n' g' z' l' e
    cases e
    obtain ⟨rfl,rfl,rfl,hz,hml⟩:=ho'
    obtain ⟨x,h1,h2,h3,h4,a,cap,e,h5⟩:=hbk
    refine ⟨x,hro.trans h1,Cu ⟨h2.1,?_⟩ hml,h3,h4,a,cap,by rw [←jO hml];exact e,lk hz h5⟩
    rcases h2.2 with h'|⟨g',cp,cur,e2,k1,k2,k3,k4,k5,k6⟩
    ·exact .inl h'
    ·exact .inr ⟨g',cp,cur,e2,hmemX g' (by rw [dZ h1 e,e2];rfl),by rw [hw];exact k2,k3,k4,k5,c_ hpub k6⟩
   ·rename_i k n g d k' n' g' d' e
    cases e
    obtain ⟨rfl,rfl,rfl,hm⟩:=ho'
    obtain ⟨h1,h2,h3,T,cs,h4,h5,h6⟩:=hbk
    exact ⟨hro.trans h1,h2,hmemX k (by simp [ak,h1]),T,cs,by rw [hw];exact h4,h5,dM hm (pd hw hpub h.1 hn h6)⟩
   ·exact ho'.elim
 ·intro q hq
  simp only [bR]
  rw [List.getElem?_eq_none (by omega)]
 ·intro q q' bq bq' x hne hq hq' hk hk'
  have get: ∀{q:Nat} {b:Blk},(bY ks 0 Hout++Hnew)[q]? =some b→ ∃i a,ids[q]? =some i∧ab S.H i=some a∧aQ a=true:=by
   intro q b hq
   have hql:q<ids.length:=by rw [hlen];exact (List.getElem?_eq_some_iff.1 hq).1
   have hi:ids[q]? =some ids[q]:=List.getElem?_eq_getElem hql
   obtain ⟨a,h1,h2⟩:=hpriv ids[q] (List.getElem_mem hql)
   exact ⟨_,a,hi,h1,h2⟩
  obtain ⟨i,a,g1,g2,g3⟩:=get hq
  obtain ⟨i',a',g1',g2',g3'⟩:=get hq'
  have hii:i≠i':=by
   rintro rfl
   exact hne (pe hd g1 g1')
  rw [blkOf_eq3 (show bR ρ ids q=ρ i by simp only [bR,g1])] at hk
  rw [blkOf_eq3 (show bR ρ ids q'=ρ i' by simp only [bR,g1'])] at hk'
  exact h.1.sep i i' a a' x hii g2 g2' g3 g3' hk hk'
where blkOf_eq3 {ρ ρ':Ro} {i j:Nat} (h:ρ' i=ρ j):ak ρ' i=ak ρ j:=by unfold ak;rw [h]
theorem jf {ks:Nat→Nat} {vs:List V} {r:V} {Hout Hnew:List Blk} (ids:List Nat) (ho:jZ S.H ids ids (bY ks 0 Hout++Hnew)) (hd:ids.Nodup) (hm:mt (fg S.H ids (fd vs)) r):w9 E S ks r Hout Hnew (some vs):=J6 ids ho hd hm
def lD:Nat→List Blk→List (Nat×Blk)
 | _,[]=> []
 | i,b::l=>(i,b)::lD (i+1) l
theorem xa: ∀{l:List Blk} {i t:Nat},ab (lD i l) t=if i≤t then l[t - i]? else none
 | [],i,t=>by simp [lD,ab]
 | v::l,i,t=>by
  simp only [lD,ab,xa]
  by_cases h:i=t
  ·subst h;simp
  ·rw [if_neg h]
   by_cases h1:i≤t
   ·rw [if_pos h1,if_pos (by omega)]
    have:t - i=(t - (i+1))+1:=by omega
    rw [this,List.getElem?_cons_succ]
   ·rw [if_neg h1,if_neg (by omega)]
def wfB:Blk→Prop
 | .var _ _ d=>wfV d
 | .own _ _ _ _ l=>l.length≤LEN∧wfL l
 | _=>True
def pi:List Blk→Prop
 | []=>True
 | b::l=>wfB b∧pi l
theorem CH: ∀{l:List Blk},(∀(j:Nat) (b:Blk),l[j]? =some b→wfB b)→pi l
 | [],_=>trivial
 | b::l,h=>⟨h 0 b rfl,CH fun j b' hb=>h (j+1) b' (by simpa using hb)⟩
theorem pj (hE:a7 E) (hmo:E.P.follows .mixedOrders=true) {f:FuncId} {fn:Func} {code:Code} {ws:List V} {r:V} {Hin Hout Hnew:List Blk} {n:Nat} (J:bV) (hf:E.P.funcs[f]? =some fn) (hb:fn.body=some code) (hnt:fn.ntmps=n)
  (hsl:(dq n code&&decide (ws.length≤n)&& !(fn.name== "runtime.NumGoroutine"))=true) (hkn:(ii Hin Hout&&lA Hnew)=true)
  (h: ∀ks:Nat→Nat,wfL ws→pi Hin→wpA E J code (ph E fn.results.toList ks r Hout Hnew) ⟨hO 0 ws,lD 0 (bY ks 0 Hin),Hin.length⟩):eC E f ws Hin r Hout Hnew:=by
 simp only [Bool.and_eq_true,Bool.not_eq_true',decide_eq_true_eq] at hsl
 refine ⟨fun aas w=> ?_,hkn,fun c us ρ0 ks hg hin hus=> ?_⟩
 ·have hn: ¬fn.name= "runtime.NumGoroutine" :=by simpa using hsl.2
  simp [callFunc,hf,hb,hn]
 have hlen:us.length=ws.length:=by
  have: ∀{l:List V} {cs:List Value},rdT ρ0 c l cs→cs.length=l.length:=by
   intro l
   induction l with
   | nil=>intro cs hc;simp only [rdT] at hc;subst hc;rfl
   | cons d l ih=>
    intro cs hc
    simp only [rdT] at hc
    obtain ⟨u,c2,rfl,_,h3⟩:=hc
    simp [ih h3]
  exact this hus
 have hwfB:pi Hin:=by
  refine CH fun j b hb=> ?_
  have h1:=hin.1 j (fy (ks j) b) (by rw [m0,Nat.zero_add,hb];rfl)
  cases b with
  | var n g d=>
   obtain ⟨_,_,_,T,cs,_,_,h6⟩:=h1
   exact iM h6
  | own T n g z l=>
   obtain ⟨v,_,h2,_⟩:=h1
   refine ⟨h2.1,?_⟩
   rcases h2.2 with ⟨_,_,rfl⟩|⟨g',cp,cur,e2,k1,k2,k3,k4,k5,k6⟩
   ·trivial
   ·exact qL (eh.2 k6)
  | _=>trivial
 have hall:=h ks (mp hus) hwfB
 refine (callsIn_wide (n:=1)).1 (callsIn_of_wp_marks hf hb trivial ?_ rfl)
 have hfr:Fr (mo:=kH) n (fun t=>(us.toArray++Array.replicate (n - us.toArray.size) undef).getD t undef) {tmps:=us.toArray++Array.replicate (fn.ntmps - us.toArray.size) undef,defers:=[]}:=by
  refine Fr.of ?_ rfl fun t=>by rw [hnt]
  simp [hnt];omega
 have hS:aT E c c ρ0 ⟨hO 0 ws,lD 0 (bY ks 0 Hin),Hin.length⟩ (fun t=>(us.toArray++Array.replicate (n - us.toArray.size) undef).getD t undef):=by
  refine ⟨⟨cw.refl c,hg,?_,?_,?_⟩,fun i hi=>hin.2.1 i (by rw [sH];exact hi)⟩
  ·intro t v ht
   rw [wE] at ht
   simp only [Nat.zero_le,if_true,Nat.sub_zero] at ht
   obtain ⟨u,hu,hr⟩:=vP hus ht
   have hlt:t<us.length:=(List.getElem?_eq_some_iff.1 hu).1
   have:(us.toArray++Array.replicate (n - us.toArray.size) undef).getD t undef=u:=by
    have he:us[t]=u:=by simpa [List.getElem?_eq_getElem hlt] using hu
    simp [Array.getD_eq_getD_getElem?,Array.getElem?_append,hlt,he]
   rw [this];exact hr
  ·intro i b hb
   rw [xa] at hb
   simp only [Nat.zero_le,if_true,Nat.sub_zero] at hb
   exact hin.1 i b hb
  ·intro i j bi bj x hij hbi hbj _ _ hx
   rw [xa] at hbi hbj
   simp only [Nat.zero_le,if_true,Nat.sub_zero] at hbi hbj
   exact hin.2.2 i j bi bj x hij hbi hbj hx
 refine wC hE hmo code none _ c _ _ hsl.1.1 (.inl ⟨rfl,rfl⟩) ?_ c ρ0 _ _ _ [] hS hfr trivial hall
 rintro e a w ⟨c',ρ',S',F',ds,rfl,hS,hf',hd,hk⟩
 cases e with
 | ret=>
  simp only [ph] at hk
  split at hk
  ·rename_i vs hvs
   show LeavesInM _ _ _ _ _ _ a.defers .returning c'.w
   rw [hf'.df]
   refine oP hS hd fun c2 hS2=> ?_
   obtain ⟨u,hu,hr⟩:=wD hE hS2.1 hf' rfl hvs
   obtain ⟨c1,ρ1,e1,hle,hr1,hH⟩:=hk c c2 ρ' F' u hS2 hr
   exact ⟨u,hu,u,c1,ρ1,rfl,e1,hle,hr1,hH⟩
  ·exact hk.elim
 | normal=>
  simp only [ph] at hk
  split at hk
  ·rename_i vs hvs
   show LeavesInM _ _ _ _ _ _ a.defers .returning c'.w
   rw [hf'.df]
   refine oP hS hd fun c2 hS2=> ?_
   obtain ⟨u,hu,hr⟩:=wD hE hS2.1 hf' rfl hvs
   obtain ⟨c1,ρ1,e1,hle,hr1,hH⟩:=hk c c2 ρ' F' u hS2 hr
   exact ⟨u,hu,u,c1,ρ1,rfl,e1,hle,hr1,hH⟩
  ·exact hk.elim
 | _=>exact hk.elim
end
end Go.Proofs.YteibkofekpejgaaGreatDoor
namespace Go.Proofs.YteibkofekpejgaaGreatDoor
open Go.RowKit
attribute [go_sem] St.afterI prF prV prL prH prB eD eD.ownI1 sg gI je fh ig ren jc bY fy lD fB inO jZ lC inV fA J2 J3 gz cond_true cond_false Nat.sub_self List.getElem?_nil Nat.reduceSub
theorem CI {c:Cx} {ρ:Ro} {n:Nat} {g:Bool} {post:List V} (h0:ρ 0=some (.slice none 0 0)): ∀{pre:List V} {us:List Value},rdT ro0 c (pre++ .sl (some true) n g []::post) us→rdT ρ c (pre++ .own 0::post) us
 | [],us,h=>by
  simp only [List.nil_append,rdT] at h⊢
  obtain ⟨u,c2,e,h1,h2⟩:=h
  have e2:u= .slice none 0 0:=by
   simp only [rd,zOk] at h1
   obtain ⟨a,cap,e,_,⟨rfl,rfl⟩,_⟩:=h1
   exact e
  subst e2
  refine ⟨_,c2,e,?_,?_⟩
  ·simp only [rd];exact ⟨h0,rfl⟩
  ·exact mq (fun i v hi=>(sI hi).elim) h2
 | d::pre,us,h=>by
  simp only [List.cons_append,rdT] at h⊢
  obtain ⟨u,c2,e,h1,h2⟩:=h
  exact ⟨u,c2,e,db (fun i v hi=>(sI hi).elim) h1,CI h0 h2⟩
theorem J7 {E:Env} {f:FuncId} {pre post:List V} {T n:Nat} {g:Bool} {r:V} {Hout Hnew:List Blk} (h:eC E f (pre++ .own 0::post) [.own T n g (some true) []] r Hout Hnew) (hone:g=false→n=1):aV E f (pre++ .sl (some true) n g []::post) r (Hout++Hnew):=by
 refine ⟨h.1,fun c us hY hg hus=> ?_⟩
 have hk:=h.2.1
 simp only [Bool.and_eq_true] at hk
 obtain ⟨hkl,hkk⟩:=w5 hk.1
 have hall: ∀(q:Nat) (b:Blk),Hout[q]? =some b→eB b:=by
  intro q b hb
  have hq:q<1:=by have:=(List.getElem?_eq_some_iff.1 hb).1;simp at hkl;omega
  have e:q=0:=by omega
  subst e
  rcases hkk 0 _ b rfl hb with ⟨h1,_⟩|⟨_,h1⟩
  ·exact h1.elim
  ·exact h1
 have hlent: ∀{l:List Blk} {i:Nat},(∀(q:Nat) (b:Blk),l[q]? =some b→eB b)→bY (fun _=>0) i l=l:=by
  intro l
  induction l with
  | nil=>intro i _;rfl
  | cons b l ih=>
   intro i hb
   have h1:=hb 0 b rfl
   simp only [bY]
   rw [ih fun q b hq=>hb (q+1) b (by simpa using hq)]
   cases b<;>simp only [eB] at h1<;>rfl
 refine (h.2.2 c us (fun i=>if i=0 then some (.slice none 0 0) else none) (fun _=>0) hg ?_ (CI (by simp) hus)).mono ?_
 ·refine ⟨fun i b hb=> ?_,fun i hi=> ?_,fun i j bi bj k hij hi hj=> ?_⟩
  ·cases i with
   | zero=>
    simp [bY,fy] at hb;subst hb
    exact ⟨.slice none 0 0,by simp,Own.nil,fun k hk=>by simp [blk] at hk,hone,none,0,rfl,rfl,rfl⟩
   | succ i=>simp [bY] at hb
  ·have:i≠0:=by simp [bY] at hi;omega
   simp [this]
  ·cases i with
   | zero=>cases j with
    | zero=>exact absurd rfl hij
    | succ j=>simp [bY] at hj
   | succ i=>simp [bY] at hi
 ·rintro e w' ⟨v,c',ρ,rfl,rfl,hle,hr,hH⟩
  rw [hlent hall] at hH
  refine ⟨v,c',ρ,rfl,rfl,hle.le hY,hr,fun i b hb=>⟨?_,hH.1 i b hb⟩,hH.2.1,hH.2.2⟩
  have hb':eB b:=by
   rcases Nat.lt_or_ge i Hout.length with h1|h1
   ·rw [List.getElem?_append_left h1] at hb;exact hall i b hb
   ·rw [List.getElem?_append_right h1] at hb;exact w6 hk.2 _ b hb
  cases b<;>simp only [eB] at hb'
  exact .inl ⟨_,_,_,_,_,rfl⟩
end Go.Proofs.YteibkofekpejgaaGreatDoor
namespace Go.Proofs.YteibkofekpejgaaGreatDoor
open Go.RowKit
section
variable {E:Env}
def xb (E:Env) (f:FuncId) (T n:Nat) (g:Bool) (z:Option Bool) (l l':List V):Prop:=
 (∀aas w,(callFunc f aas).run E.P w= .ok (.enter f aas) w)∧ ∀(c:Cx) (v:Value),Gl E c→Own c T v (rV ro0 n g) l→(g=false→n=1)→(∃a cap,v= .slice a l.length cap∧zOk z a cap)→
  Calls E.P f #[v] c.w fun e w'=> ∃u c',e= .returned u∧rd ro0 c' (.tup []) u∧c'.w=w'∧c.chg (blk v) c'∧Own c' T v (rV ro0 n g) l'∧ ∃a cap,v= .slice a l'.length cap∧zOk none a cap
def atK (T n:Nat) (g:Bool) (l':List V):Exit→St→Prop
 | .ret,S=>ab S.F bU=some (.own 0)∧ ∃z,ab S.H 0=some (.own T n g z l')
 | .normal,S=>ab S.F bU=some (.own 0)∧ ∃z,ab S.H 0=some (.own T n g z l')
 | _,_=>False
theorem CJ {T n:Nat} {g:Bool} {z:Option Bool} {l' l2:List V} {e:Exit} {S:St} (he:e= .ret∨e= .normal) (h1:ab S.F bU=some (.own 0)) (h2:ab S.H 0=some (.own T n g z l2)) (h3:l2=l'):atK T n g l' e S:=by
 subst h3
 rcases he with rfl|rfl<;>exact ⟨h1,z,h2⟩
theorem J8 (hE:a7 E) (hmo:E.P.follows .mixedOrders=true) {f:FuncId} {fn:Func} {code:Code} {T n0:Nat} {g:Bool} {z:Option Bool} {l l':List V} {n:Nat} (J:bV) (hf:E.P.funcs[f]? =some fn) (hb:fn.body=some code) (hnt:fn.ntmps=n)
  (hsl:(dq n code&&fc code&&decide (1≤n∧n≤bU)&&fn.results.isEmpty&& !(fn.name== "runtime.NumGoroutine"))=true)
  (h:l.length≤LEN→wfL l→wpA E J code (atK T n0 g l') ⟨[(0,.own 0),(bU,.own 0)],[(0,.own T n0 g z l)],1⟩):xb E f T n0 g z l l':=by
 simp only [Bool.and_eq_true,Bool.not_eq_true',decide_eq_true_eq] at hsl
 obtain ⟨⟨⟨⟨hs1,hs2⟩,hs3,hs4⟩,hs5⟩,hs6⟩:=hsl
 refine ⟨fun aas w=> ?_,fun c v hg ho h1 hz=> ?_⟩
 ·have hn: ¬fn.name= "runtime.NumGoroutine" :=by simpa using hs6
  simp [callFunc,hf,hb,hn]
 have hwf:wfL l:=by
  rcases ho.2 with ⟨_,_,rfl⟩|⟨g',cp,cur,e2,k1,k2,k3,k4,k5,k6⟩
  ·trivial
  ·exact qL (eh.2 k6)
 have hall:=h ho.1 hwf
 refine (callsIn_wide (n:=1)).1 (callsIn_of_wp_marks hf hb trivial ?_ rfl)
 -- the start
 let ys:List Nat:=(blk v).toList
 have hys: ∀k,blk v=some k↔k∈ys:=fun k=>by cases hv:blk v<;>simp [ys,hv,eq_comm]
 let c0:=c.lend ys
 let ρ0:Ro:=fun i=>if i=0 then some v else none
 have hv1:v.oneCell'=true:=by obtain ⟨a,cap,rfl,_⟩:=hz;rfl
 let hi:Nat→Value:=fun t=>if t=bU then v else undef
 let F0:Fm:=fun t=>if t<n then (#[v]++Array.replicate (n - 1) undef).getD t undef else hi t
 have hsz:(#[v]++Array.replicate (fn.ntmps - #[v].size) undef).size=n:=by simp [hnt];omega
 have hF0:F0 0=v:=by
  show (if 0<n then _ else _)=v
  rw [if_pos (by omega)]
  simp [Array.getD_eq_getD_getElem?,Array.getElem?_append]
 have hbk:blkOk c0 c0 ρ0 0 (.own T n0 g z l):=⟨v,rfl,ho.chg (c.chg_lend ys) (by simp),fun k hk=> .inr ((hys k).1 hk),h1,hz⟩
 have hS:aT E c0 c0 ρ0 ⟨[(0,.own 0),(bU,.own 0)],[(0,.own T n0 g z l)],1⟩ F0:=by
  refine ⟨⟨cw.refl _,hg.mono (c.pub_lend ys),fun t d ht=> ?_,fun i b hb=> ?_,fun i j bi bj k hij hi hj=> ?_⟩,fun i hi=> ?_⟩
  ·simp only [ab] at ht
   split at ht
   ·rename_i e;subst e;cases ht
    rw [hF0];exact ⟨rfl,hv1⟩
   ·split at ht
    ·rename_i e2 e;subst e;cases ht
     have:F0 bU=v:=by
      show (if bU<n then _ else if bU=bU then v else undef)=v
      rw [if_neg (by omega),if_pos rfl]
     rw [this];exact ⟨rfl,hv1⟩
    ·cases ht
  ·simp only [ab] at hb
   split at hb
   ·rename_i e;subst e;cases hb;exact hbk
   ·cases hb
  ·simp only [ab] at hi hj
   split at hi
   ·split at hj
    ·omega
    ·cases hj
   ·cases hi
  ·show (if i=0 then some v else none)=none
   have hi':1≤i:=hi
   rw [if_neg (by omega)]
 have hfr:Fr (mo:=⟨[],none,hi⟩) n F0 {tmps:= #[v]++Array.replicate (fn.ntmps - #[v].size) undef,defers:=[]}:=by
  refine @Fr.mk ⟨[],none,hi⟩ n F0 _ hsz rfl (fun t ht=> ?_) (fun t ht=> ?_)
  ·show _=(if t<n then _ else _)
   rw [if_pos ht];simp only [hnt];rfl
  ·show (if t<n then _ else hi t)=hi t
   rw [if_neg (by omega)]
 refine wC hE hmo code none hi c0 _ _ hs1 (.inr hs2) ?_ c0 ρ0 _ F0 _ [] hS hfr trivial hall
 rintro e a w ⟨c',ρ',S',F',ds,rfl,hS',hf',hd,hk⟩
 have key:ab S'.F bU=some (.own 0)→(∃z,ab S'.H 0=some (.own T n0 g z l'))→LeavesInM Fence.wide 1 E.P fn a.tmps (fun e w'=> ∃u c',e= .returned u∧rd ro0 c' (.tup []) u∧c'.w=w'∧c.chg (blk v) c'∧Own c' T v (rV ro0 n0 g) l'∧ ∃a cap,v= .slice a l'.length cap∧zOk none a cap) a.defers .returning c'.w:=by
  rintro hF ⟨z',hH⟩
  rw [hf'.df]
  refine oP hS' hd fun c2 hS2=> ?_
  have h3:=hS2.1.slot _ _ hF
  have h4:F' bU=v:=by rw [hf'.hg bU hs4];show (if bU=bU then v else undef)=v;rw [if_pos rfl]
  rw [h4] at h3
  obtain ⟨h5,_⟩:=(show _∧_ from h3)
  obtain ⟨v2,g1,g2,g3,g4,g5⟩:=hS2.1.heap 0 _ hH
  rw [h5] at g1;cases g1
  refine ⟨.tuple #[],?_,_,c2,rfl,⟨[],rfl,rfl⟩,rfl,?_,g2,by obtain ⟨a,cap,e,hz'⟩:=g5;exact ⟨a,cap,e,mm hz'⟩⟩
  ·have he:fn.results= #[]:=by simpa using hs5
   simp [results,he]
  ·have hs:=hS2.1.since
   refine ⟨hs.below.os,hs.below.tape,hs.below.output,hs.size,fun k hk hne=>hs.below.block k hk fun hy=>hne ((hys k).2 hy),fun k hk=>⟨fun h'=> ?_,fun h'=> ?_⟩,fun k hk=>ho.isX k hk⟩
   ·by_cases hX:k∈c.X
    ·exact hX
    ·exact absurd h' (hs.Xn k hk hX)
   ·by_cases hy:k∈ys
    ·exact g2.isX k ((hys k).2 hy)
    ·exact hs.X k h' hy
 cases e with
 | ret=>exact key hk.1 hk.2
 | normal=>exact key hk.1 hk.2
 | _=>exact hk.elim
theorem J9 {J:bV} {k:List Ct} {S:St} {f:FuncId} {d:Option Nat} {id T n:Nat} {g:Bool} {z:Option Bool} {l l':List V} (hc:xb E f T n g z l l') (hH:ab S.H id=some (.own T n g z l)) (h:aG E J k .normal (St.put {S with H:=cK S.H id (.own T n g none l')} d (.tup []))):eP E J (some (.fn f [])) (some [.own id]) S d k:=by
 refine .inr ⟨hc.1,_,.tup [],?_,fun _=>h⟩
 intro c0 c ρ F us hs hus
 simp only [List.append_nil,rdT] at hus
 obtain ⟨u,us',rfl,h1,rfl⟩:=hus
 obtain ⟨v,g1,g2,g3,g4,g5⟩:=hs.1.heap _ _ hH
 obtain ⟨h2,_⟩:=(show _∧_ from h1)
 rw [g1] at h2;cases h2
 refine (hc.2 c _ hs.1.gl g2 g4 g5).mono ?_
 rintro e w' ⟨x,c',rfl,hr,rfl,hch,ho,a,cap,e1,hz⟩
 have hbk:=dZ g1 e1
 have:=Bm hs (e:= .upd id (.own T n g none l')) (c':=c') (ρ':=ρ) ⟨_,hH,rfl,rfl⟩ ⟨by rw [hbk];exact hch,rfl,⟨_,g1,ho,g3,g4,a,cap,e1,hz⟩⟩
 exact ⟨x,c',ρ,rfl,rfl,iQ this (db (fun i v h=>by cases h) hr),trivial⟩
end
end Go.Proofs.YteibkofekpejgaaGreatDoor
namespace Go.Proofs.YteibkofekpejgaaGreatDoor
open Go.RowKit
class CM (E:outParam Env) {α:Type} (m:α) (f:outParam FuncId) (ws:outParam (List V)) (R:outParam (α→V)) (Hs:outParam (α→List Blk)):Prop where
  ok:aV E f ws (R m) (Hs m)
class DRD (id:Nat) (n m:outParam Nat) (wr:outParam (List Nat)) (wl:outParam (List (Nat×Nat))) (need:outParam (List (List Nat))) (ub:outParam (List (Nat×Nat))):Prop where
  ok:True
class CF {α:Type} (m:α) (P:outParam (α→Prop)):Prop where
  ok:P m
theorem cfU {α:Type} {x m:α} {P:α→Prop} (hx:x=m) [h:CF m P]:P x:=by subst hx;exact h.ok
theorem mpQ {a b:Prop} (h:a) (f:a→b:=by assumption):b:=f h
section
variable {E:Env} {J:bV} {k:List Ct} {S:St} {α:Type} {f:FuncId} {ws:List V} {R:α→V} {Hs:α→List Blk}
theorem cmQ {m:α} (h: ∀r,m=r→aV E f ws (R r) (Hs r)):CM E m f ws R Hs:=⟨h m rfl⟩
theorem cmU {x m:α} (hx:x=m) [h:CM E m f ws R Hs]:aV E f ws (R x) (Hs x):=by subst hx;exact h.ok
theorem cmH {x m:α} (hx:x=m) (h:CM E m f ws R Hs):aV E f ws (R x) (Hs x):=by subst hx;exact h.ok
theorem lE {β:Type} {c:Bool} {a b r:β} (hM:(if c=true then a else b)=r) (h:c=true):a=r:=by rw [if_pos h] at hM;exact hM
theorem lF {β:Type} {c:Bool} {a b r:β} (hM:(if c=true then a else b)=r) (h:c=false):b=r:=by rw [if_neg (by rw [h];decide)] at hM;exact hM
theorem jg {r:Res} {d:Option Nat} (h:jT E J r S d k):jT E J r S d k:=h
theorem CK {v:Option V} {vs:Option (List V)} {d:Option Nat} (h:eP E J v vs S d k):eP E J v vs S d k:=h
theorem J_ {r:V} {H:List Blk} {o:Option (List V)} (h:jU E S r H o):jU E S r H o:=h
theorem lpP {K:St→Prop} (h:aG E J (.lp K::k) .normal S):aG E J (.lp K::k) .normal S:=h
theorem jh {id:Nat} {ops:Array Oper} (h:aG E J (.code (.region id ops true)::k) .normal S):aG E J (.code (.region id ops true)::k) .normal S:=h
theorem ji {id:Nat} {ops:Array Oper} {n m:Nat} {wr:List Nat} {wl:List (Nat×Nat)} {need:List (List Nat)} {ub:List (Nat×Nat)} [DRD id n m wr wl need ub] (hB:(wlB ops m wl&&iH n m ops wr need&&((List.range m).all fun i=>(need.getD i []).all fun j=>decide (j<i)))=true) (hU:ubB m need ub S.nx=true)
    (h:cc E ⟨J,S,wr,wl,need,ub,k⟩ m 0 ops.toList []):aG E J (.code (.region id ops true)::k) .normal S:=iW n m wr wl need ub hB hU h
section
variable {D:Dr} {m i:Nat} {l:List Oper} {L:List (Nat×a8)} {d:Option Nat}
theorem jj {nid:Nat} {r:Res} (h:cD E D m i l L d nid r):cD E D m i l L d nid r:=h
theorem CL {v:Option V} {vs:Option (List V)} (h:gE E D m i l L d S v vs):gE E D m i l L d S v vs:=h
end
theorem CN {ρ:Ro} {c:Cx} {x y:V} (hx: ∀u,rd ρ c x u→rd ρ c y u): ∀{l:List V} {q:Nat} {cs:List Value},rdC ρ c l cs→l[q]? =some x→rdC ρ c (l.set q y) cs
  | [],_,_,h,_=>h
  | a::l,0,cs,h,e=>by
    obtain ⟨u,c2,rfl,h1,h2,h3⟩:=h
    simp only [List.getElem?_cons_zero,Option.some.injEq] at e
    subst e
    exact ⟨u,c2,rfl,h1,hx u h2,h3⟩
  | a::l,q+1,cs,h,e=>by
    obtain ⟨u,c2,rfl,h1,h2,h3⟩:=h
    exact ⟨u,c2,rfl,h1,h2,CN hx h3 (by simpa using e)⟩
theorem CO (k o i:Nat) {n' n:Nat} {g:Bool} {z:Option Bool} {l m:List V} (h:ab S.H k=some (.var n' true (.agg l))) (h2:ab S.H i=some (.pown n g z m)) (ho:l[o]? =some (.own i)):
    b_ E S ⟨S.F,cK S.H k (.var n' true (.agg (l.set o (.sl z n g m)))),S.nx⟩:=by
  intro c0 c ρ F hs
  obtain ⟨v,h4,h5⟩:=hs.1.heap _ _ h2
  have hx: ∀u,rd ρ c (.own i) u→rd ρ c (.sl z n g m) u:=fun u hu=>by
    simp only [rd] at hu
    rw [hu.1] at h4;cases h4
    simpa only [rd] using h5
  obtain ⟨b0,g1,g2,g3⟩:=hs.1.heap _ _ h
  refine ⟨c,ρ,rfl,⟨hs.1.since,hs.1.gl,hs.1.slot,fun a b hb=> ?_,?_⟩,hs.2⟩
  · rw [cC] at hb
    split at hb
    · rename_i e';subst e';cases hb
      obtain ⟨hX,T',cs,hh,hsh,hrd⟩:=g3
      refine ⟨b0,g1,g2,hX,T',cs,hh,hsh,?_⟩
      simp only [mkV,rd] at hrd⊢
      obtain ⟨cs',e1,e2⟩:=hrd
      exact ⟨cs',e1,CN hx e2 ho⟩
    · exact hs.1.heap a b hb
  · intro a b ba bb q hab hba hbb hpa hpb hk hk'
    have back: ∀{x:Nat} {bx:Blk},ab (cK S.H k (.var n' true (.agg (l.set o (.sl z n g m))))) x=some bx→aQ bx=true→ ∃b',ab S.H x=some b'∧aQ b'=true:=by
      intro x bx hx hp
      rw [cC] at hx
      split at hx
      · rename_i e;subst e;exact ⟨_,h,rfl⟩
      · exact ⟨bx,hx,hp⟩
    obtain ⟨ba',h1,h2'⟩:=back hba hpa
    obtain ⟨bb',h3,h4'⟩:=back hbb hpb
    exact hs.1.sep a b ba' bb' q hab h1 h3 h2' h4' hk hk'
theorem Ka (k i:Nat) {n:Nat} {g:Bool} {z:Option Bool} {m:List V} (h:ab S.H k=some (.var 1 false (.own i))) (h2:ab S.H i=some (.pown n g z m)):
    b_ E S ⟨S.F,cK S.H k (.var 1 false (.sl z n g m)),S.nx⟩:=by
  intro c0 c ρ F hs
  obtain ⟨v,h4,h5⟩:=hs.1.heap _ _ h2
  have hx: ∀u,rd ρ c (.own i) u→rd ρ c (.sl z n g m) u:=fun u hu=>by
    simp only [rd] at hu
    rw [hu.1] at h4;cases h4
    simpa only [rd] using h5
  obtain ⟨b0,g1,g2,g3⟩:=hs.1.heap _ _ h
  refine ⟨c,ρ,rfl,⟨hs.1.since,hs.1.gl,hs.1.slot,fun a b hb=> ?_,?_⟩,hs.2⟩
  · rw [cC] at hb
    split at hb
    · rename_i e';subst e';cases hb
      obtain ⟨hX,T',cs,hh,hsh,hrd⟩:=g3
      refine ⟨b0,g1,g2,hX,T',cs,hh,hsh,?_⟩
      exact hx _ hrd
    · exact hs.1.heap a b hb
  · intro a b ba bb q hab hba hbb hpa hpb hk hk'
    have back: ∀{x:Nat} {bx:Blk},ab (cK S.H k (.var 1 false (.sl z n g m))) x=some bx→aQ bx=true→ ∃b',ab S.H x=some b'∧aQ b'=true:=by
      intro x bx hx hp
      rw [cC] at hx
      split at hx
      · rename_i e;subst e;exact ⟨_,h,rfl⟩
      · exact ⟨bx,hx,hp⟩
    obtain ⟨ba',h1,h2'⟩:=back hba hpa
    obtain ⟨bb',h3,h4'⟩:=back hbb hpb
    exact hs.1.sep a b ba' bb' q hab h1 h3 h2' h4' hk hk'
theorem m6:True:=trivial
theorem dQ {β:Type} [Inhabited β] {l:List β} {g:β→V} {i:Nat} (h:i<l.length) (d:V):elt (l.map g) i d=g (gt l (i:Int)):=cE (i:=(i:Int)) h d
end
theorem omA {P:Prop} (h:P:=by
  first
    | exact omQ
    | (clear hM;first
      | (have h9:=hA0 (by first|assumption|omega);exact an)
      | (have h9:=hA0 (by first|assumption|omega) (by first|assumption|omega);exact an)
      | (have h9:=hA0 (by first|assumption|omega) (by first|assumption|omega) (by first|assumption|omega);exact an)
      | (have h9:=hA0 (by first|assumption|omega) (by first|assumption|omega) (by first|assumption|omega) (by first|assumption|omega);exact an)
      | (have h9:=hA1 (by first|assumption|omega);exact an)
      | (have h9:=hA1 (by first|assumption|omega) (by first|assumption|omega);exact an)
      | (have h9:=hA1 (by first|assumption|omega) (by first|assumption|omega) (by first|assumption|omega);exact an))):P:=h
theorem omR {P:Prop} (h:P:=by
  first
    | exact an
    | (first
      | (have h9:=hA0 (by first|assumption|omega);exact an)
      | (have h9:=hA0 (by first|assumption|omega) (by first|assumption|omega);exact an)
      | (have h9:=hA0 (by first|assumption|omega) (by first|assumption|omega) (by first|assumption|omega);exact an)
      | (have h9:=hA0 (by first|assumption|omega) (by first|assumption|omega) (by first|assumption|omega) (by first|assumption|omega);exact an)
      | (have h9:=hA1 (by first|assumption|omega);exact an)
      | (have h9:=hA1 (by first|assumption|omega) (by first|assumption|omega);exact an)
      | (have h9:=hA1 (by first|assumption|omega) (by first|assumption|omega) (by first|assumption|omega);exact an))):P:=h
theorem auQ {P:Prop} (h:P:=by
  repeat' (first
    | ((first|(with_reducible refine bQ ?_ ?_)|(with_reducible refine rY ?_ ?_)|(with_reducible refine fT ?_ ?_)|(with_reducible refine rZ ?_ ?_)|(with_reducible refine r6 ?_ ?_))<;>(intro h0;(first|replace hM:=lE hM h0|replace hM:=lF hM h0);replace hF:=And.intro h0 hF;replace h0:=nzQ h0;(try have h1:=mpQ h0);(first|refine ap hF ?_|skip)))
    | (with_reducible refine jg ?_
       refine bw ?h9 ?_
       case h9=>exact omA
       first
         | (rw [cE ?h9];case h9=>exact omA)
         | (rw [dQ ?h9];case h9=>exact omA)
         | skip
       refine ap hF ?_)
    | (with_reducible refine jj ?_
       first
         | (refine eR ?h9 ?_;case h9=>exact omA)
         | (refine iX ?h9 (ao hF) ?_;case h9=>exact omA)
         | (refine iY ?h9 (ao hF) ?_;case h9=>exact omA)
         | (refine i5 ?h9 (ao hF) ?_;case h9=>exact omA)
         | (refine iZ ?h9 (ao hF) ?_;case h9=>exact omA)
         | (refine i4 ?h9 (ao hF) ?_;case h9=>exact omA)
       first
         | (rw [cE ?h9];case h9=>exact omA)
         | (rw [dQ ?h9];case h9=>exact omA)
         | skip
       refine ap hF ?_)
    | (with_reducible refine CK ?_
       replace hM:=ar hM;obtain ⟨x0,hx0,hM⟩:=hM
       first
         | refine aN (cmU hx0) (ao hF) (ao hF) (fun hw0=> ?_)
         | refine fx (cmU hx0) (ao hF) (ao hF) (fun hw0=> ?_)
       replace hw0:=nzQ hw0
       try have hq0:=nzQ (cfU hx0)
       refine ap hF ?_)
    | (with_reducible refine CL ?_
       replace hM:=ar hM;obtain ⟨x0,hx0,hM⟩:=hM
       first
         | refine bA (cmU hx0) (ao hF) (ao hF) ?_
         | refine bA (aV.pub (cmU hx0)) (ao hF) (ao hF) ?_
         | refine BZ (cmU hx0) (ao hF) (ao hF) ?_
       try have hq0:=nzQ (cfU hx0)
       refine ap hF ?_)
    | (with_reducible refine jh ?_
       refine ji (by kernel_rfl) (by exact alQ) ?_
       refine ap hF ?_)
    | (with_reducible refine J_ ?_
       subst hM
       exact bX (cm hF))
    | (with_reducible refine lpP ?_
       refine aE ?_ _ ?h1 ?h2 ?h3 ⟨_,rfl,?h4,?h5,aD hM ?h6⟩
       case h6=>assumption
       case h1=>omega
       case h2=>first|exact sbQ|exact Cl (And.intro @i7 (And.intro @ja hF))
       case h3=>first|exact sbQ|exact Cl (And.intro @i7 (And.intro @ja hF))
       case h4=>first|trivial|exact omA|(repeat' (first|exact omA|apply And.intro))
       case h5=>exact omA))):P:=h
structure Hid (p:Prop):Prop where
  out:p
theorem slQ {P Q:Prop} (k:Q) (h:Hid Q→P:=by
  intro k hF hM
  (first|refine ap hF ?_|skip)
  repeat (first
      | (with_reducible refine jg ?_
         refine bw ?h9 ?_
         case h9=>exact omA
         first
           | (rw [cE ?h9];case h9=>exact omA)
           | (rw [dQ ?h9];case h9=>exact omA)
           | skip
         refine ap hF ?_)
      | (with_reducible refine jj ?_
         first
           | (refine eR ?h9 ?_;case h9=>exact omA)
           | (refine iX ?h9 (ao hF) ?_;case h9=>exact omA)
           | (refine iY ?h9 (ao hF) ?_;case h9=>exact omA)
           | (refine i5 ?h9 (ao hF) ?_;case h9=>exact omA)
           | (refine iZ ?h9 (ao hF) ?_;case h9=>exact omA)
           | (refine i4 ?h9 (ao hF) ?_;case h9=>exact omA)
         first
           | (rw [cE ?h9];case h9=>exact omA)
           | (rw [dQ ?h9];case h9=>exact omA)
           | skip
         refine ap hF ?_)
      | (with_reducible refine jh ?_
         refine ji (by kernel_rfl) (by exact alQ) ?_
         refine ap hF ?_))
  revert hM;revert hF
  exact k.out):P:=h ⟨k⟩
theorem slA {A P Q:Prop} (a:A) (k:Q) (h:A→Hid Q→P:=by
  intro hA k hF hM
  replace hF:=And.intro hA hF
  (first|refine ap hF ?_|skip)
  repeat (first
      | (with_reducible refine jg ?_
         refine bw ?h9 ?_
         case h9=>exact omA
         first
           | (rw [cE ?h9];case h9=>exact omA)
           | (rw [dQ ?h9];case h9=>exact omA)
           | skip
         refine ap hF ?_)
      | (with_reducible refine jj ?_
         first
           | (refine eR ?h9 ?_;case h9=>exact omA)
           | (refine iX ?h9 (ao hF) ?_;case h9=>exact omA)
           | (refine iY ?h9 (ao hF) ?_;case h9=>exact omA)
           | (refine i5 ?h9 (ao hF) ?_;case h9=>exact omA)
           | (refine iZ ?h9 (ao hF) ?_;case h9=>exact omA)
           | (refine i4 ?h9 (ao hF) ?_;case h9=>exact omA)
         first
           | (rw [cE ?h9];case h9=>exact omA)
           | (rw [dQ ?h9];case h9=>exact omA)
           | skip
         refine ap hF ?_)
      | (with_reducible refine jh ?_
         refine ji (by kernel_rfl) (by exact alQ) ?_
         refine ap hF ?_))
  revert hM;revert hF
  exact k.out):P:=h a ⟨k⟩
theorem ax {P:Prop} {α:Type} {H W V Q:α→Prop} (k: ∀x,H x→W x→V x→Q x) (h:Hid (∀x,H x→W x→V x→Q x)→P:=by
  intro k hF hM
  replace hM:=ar hM;obtain ⟨x0,hx0,hM⟩:=hM
  first
    | (with_reducible refine CK ?_
       first
         | refine aN (cmU hx0) (ao hF) (ao hF) (fun hw0=> ?_)
         | refine fx (cmU hx0) (ao hF) (ao hF) (fun hw0=> ?_)
       replace hw0:=nzQ hw0
       try have hq0:=nzQ (cfU hx0)
       (first|refine ap hF ?_|skip)
       repeat (first
           | (with_reducible refine jg ?_
              refine bw ?h9 ?_
              case h9=>exact omA
              first
                | (rw [cE ?h9];case h9=>exact omA)
                | (rw [dQ ?h9];case h9=>exact omA)
                | skip
              refine ap hF ?_)
           | (with_reducible refine jj ?_
              first
                | (refine eR ?h9 ?_;case h9=>exact omA)
                | (refine iX ?h9 (ao hF) ?_;case h9=>exact omA)
                | (refine iY ?h9 (ao hF) ?_;case h9=>exact omA)
                | (refine i5 ?h9 (ao hF) ?_;case h9=>exact omA)
                | (refine iZ ?h9 (ao hF) ?_;case h9=>exact omA)
                | (refine i4 ?h9 (ao hF) ?_;case h9=>exact omA)
              first
                | (rw [cE ?h9];case h9=>exact omA)
                | (rw [dQ ?h9];case h9=>exact omA)
                | skip
              refine ap hF ?_)
           | (with_reducible refine jh ?_
              refine ji (by kernel_rfl) (by exact alQ) ?_
              refine ap hF ?_))
       revert hM;revert hF
       first|exact k.out x0 hx0 hw0 hq0|exact k.out x0 hx0 hw0 trivial)
    | (with_reducible refine CL ?_
       first
         | refine bA (cmU hx0) (ao hF) (ao hF) ?_
         | refine bA (aV.pub (cmU hx0)) (ao hF) (ao hF) ?_
         | refine BZ (cmU hx0) (ao hF) (ao hF) ?_
       try have hq0:=nzQ (cfU hx0)
       (first|refine ap hF ?_|skip)
       repeat (first
           | (with_reducible refine jg ?_
              refine bw ?h9 ?_
              case h9=>exact omA
              first
                | (rw [cE ?h9];case h9=>exact omA)
                | (rw [dQ ?h9];case h9=>exact omA)
                | skip
              refine ap hF ?_)
           | (with_reducible refine jj ?_
              first
                | (refine eR ?h9 ?_;case h9=>exact omA)
                | (refine iX ?h9 (ao hF) ?_;case h9=>exact omA)
                | (refine iY ?h9 (ao hF) ?_;case h9=>exact omA)
                | (refine i5 ?h9 (ao hF) ?_;case h9=>exact omA)
                | (refine iZ ?h9 (ao hF) ?_;case h9=>exact omA)
                | (refine i4 ?h9 (ao hF) ?_;case h9=>exact omA)
              first
                | (rw [cE ?h9];case h9=>exact omA)
                | (rw [dQ ?h9];case h9=>exact omA)
                | skip
              refine ap hF ?_)
           | (with_reducible refine jh ?_
              refine ji (by kernel_rfl) (by exact alQ) ?_
              refine ap hF ?_))
       revert hM;revert hF
       first|exact k.out x0 hx0 trivial hq0|exact k.out x0 hx0 trivial trivial)):P:=h ⟨k⟩
theorem cdQ {P H1 N1 R1 Q1 H2 N2 R2 Q2:Prop} (k1:H1→N1→R1→Q1) (k2:H2→N2→R2→Q2) (h:Hid (H1→N1→R1→Q1)→Hid (H2→N2→R2→Q2)→P:=by
  intro k1 k2 hF hM
  (first|(with_reducible refine bQ ?_ ?_)|(with_reducible refine rY ?_ ?_)|(with_reducible refine fT ?_ ?_)|(with_reducible refine rZ ?_ ?_)|(with_reducible refine r6 ?_ ?_))
  · intro h0
    (first|replace hM:=lE hM h0|replace hM:=lF hM h0)
    replace hF:=And.intro h0 hF
    have hn:=nzQ h0
    try have h1:=mpQ hn
    (first|refine ap hF ?_|skip)
    repeat (first
        | (with_reducible refine jg ?_
           refine bw ?h9 ?_
           case h9=>exact omA
           first
             | (rw [cE ?h9];case h9=>exact omA)
             | (rw [dQ ?h9];case h9=>exact omA)
             | skip
           refine ap hF ?_)
        | (with_reducible refine jj ?_
           first
             | (refine eR ?h9 ?_;case h9=>exact omA)
             | (refine iX ?h9 (ao hF) ?_;case h9=>exact omA)
             | (refine iY ?h9 (ao hF) ?_;case h9=>exact omA)
             | (refine i5 ?h9 (ao hF) ?_;case h9=>exact omA)
             | (refine iZ ?h9 (ao hF) ?_;case h9=>exact omA)
             | (refine i4 ?h9 (ao hF) ?_;case h9=>exact omA)
           first
             | (rw [cE ?h9];case h9=>exact omA)
             | (rw [dQ ?h9];case h9=>exact omA)
             | skip
           refine ap hF ?_)
        | (with_reducible refine jh ?_
           refine ji (by kernel_rfl) (by exact alQ) ?_
           refine ap hF ?_))
    revert hM;revert hF
    first|exact k1.out h0 hn h1|exact k1.out h0 hn trivial
  · intro h0
    (first|replace hM:=lE hM h0|replace hM:=lF hM h0)
    replace hF:=And.intro h0 hF
    have hn:=nzQ h0
    try have h1:=mpQ hn
    (first|refine ap hF ?_|skip)
    repeat (first
        | (with_reducible refine jg ?_
           refine bw ?h9 ?_
           case h9=>exact omA
           first
             | (rw [cE ?h9];case h9=>exact omA)
             | (rw [dQ ?h9];case h9=>exact omA)
             | skip
           refine ap hF ?_)
        | (with_reducible refine jj ?_
           first
             | (refine eR ?h9 ?_;case h9=>exact omA)
             | (refine iX ?h9 (ao hF) ?_;case h9=>exact omA)
             | (refine iY ?h9 (ao hF) ?_;case h9=>exact omA)
             | (refine i5 ?h9 (ao hF) ?_;case h9=>exact omA)
             | (refine iZ ?h9 (ao hF) ?_;case h9=>exact omA)
             | (refine i4 ?h9 (ao hF) ?_;case h9=>exact omA)
           first
             | (rw [cE ?h9];case h9=>exact omA)
             | (rw [dQ ?h9];case h9=>exact omA)
             | skip
           refine ap hF ?_)
        | (with_reducible refine jh ?_
           refine ji (by kernel_rfl) (by exact alQ) ?_
           refine ap hF ?_))
    revert hM;revert hF
    first|exact k2.out h0 hn h1|exact k2.out h0 hn trivial):P:=h ⟨k1⟩ ⟨k2⟩
theorem az {P H2 N2 R2 Q2:Prop} (k2:H2→N2→R2→Q2) (h:Hid (H2→N2→R2→Q2)→P:=by
  intro k2 hF hM
  (first|(with_reducible refine bQ ?_ ?_)|(with_reducible refine rY ?_ ?_)|(with_reducible refine fT ?_ ?_)|(with_reducible refine rZ ?_ ?_)|(with_reducible refine r6 ?_ ?_))
  · clear k2
    intro h0
    (first|replace hM:=lE hM h0|replace hM:=lF hM h0)
    replace hF:=And.intro h0 hF
    replace h0:=nzQ h0
    (try have h1:=mpQ h0)
    (first|refine ap hF ?_|skip)
    exact auQ
  · intro h0
    (first|replace hM:=lE hM h0|replace hM:=lF hM h0)
    replace hF:=And.intro h0 hF
    have hn:=nzQ h0
    try have h1:=mpQ hn
    (first|refine ap hF ?_|skip)
    repeat (first
        | (with_reducible refine jg ?_
           refine bw ?h9 ?_
           case h9=>exact omA
           first
             | (rw [cE ?h9];case h9=>exact omA)
             | (rw [dQ ?h9];case h9=>exact omA)
             | skip
           refine ap hF ?_)
        | (with_reducible refine jj ?_
           first
             | (refine eR ?h9 ?_;case h9=>exact omA)
             | (refine iX ?h9 (ao hF) ?_;case h9=>exact omA)
             | (refine iY ?h9 (ao hF) ?_;case h9=>exact omA)
             | (refine i5 ?h9 (ao hF) ?_;case h9=>exact omA)
             | (refine iZ ?h9 (ao hF) ?_;case h9=>exact omA)
             | (refine i4 ?h9 (ao hF) ?_;case h9=>exact omA)
           first
             | (rw [cE ?h9];case h9=>exact omA)
             | (rw [dQ ?h9];case h9=>exact omA)
             | skip
           refine ap hF ?_)
        | (with_reducible refine jh ?_
           refine ji (by kernel_rfl) (by exact alQ) ?_
           refine ap hF ?_))
    revert hM;revert hF
    first|exact k2.out h0 hn h1|exact k2.out h0 hn trivial):P:=h ⟨k2⟩
theorem av {P H1 N1 R1 Q1:Prop} (k1:H1→N1→R1→Q1) (h:Hid (H1→N1→R1→Q1)→P:=by
  intro k1 hF hM
  (first|(with_reducible refine bQ ?_ ?_)|(with_reducible refine rY ?_ ?_)|(with_reducible refine fT ?_ ?_)|(with_reducible refine rZ ?_ ?_)|(with_reducible refine r6 ?_ ?_))
  · intro h0
    (first|replace hM:=lE hM h0|replace hM:=lF hM h0)
    replace hF:=And.intro h0 hF
    have hn:=nzQ h0
    try have h1:=mpQ hn
    (first|refine ap hF ?_|skip)
    repeat (first
        | (with_reducible refine jg ?_
           refine bw ?h9 ?_
           case h9=>exact omA
           first
             | (rw [cE ?h9];case h9=>exact omA)
             | (rw [dQ ?h9];case h9=>exact omA)
             | skip
           refine ap hF ?_)
        | (with_reducible refine jj ?_
           first
             | (refine eR ?h9 ?_;case h9=>exact omA)
             | (refine iX ?h9 (ao hF) ?_;case h9=>exact omA)
             | (refine iY ?h9 (ao hF) ?_;case h9=>exact omA)
             | (refine i5 ?h9 (ao hF) ?_;case h9=>exact omA)
             | (refine iZ ?h9 (ao hF) ?_;case h9=>exact omA)
             | (refine i4 ?h9 (ao hF) ?_;case h9=>exact omA)
           first
             | (rw [cE ?h9];case h9=>exact omA)
             | (rw [dQ ?h9];case h9=>exact omA)
             | skip
           refine ap hF ?_)
        | (with_reducible refine jh ?_
           refine ji (by kernel_rfl) (by exact alQ) ?_
           refine ap hF ?_))
    revert hM;revert hF
    first|exact k1.out h0 hn h1|exact k1.out h0 hn trivial
  · clear k1
    intro h0
    (first|replace hM:=lE hM h0|replace hM:=lF hM h0)
    replace hF:=And.intro h0 hF
    replace h0:=nzQ h0
    (try have h1:=mpQ h0)
    (first|refine ap hF ?_|skip)
    exact auQ):P:=h ⟨k1⟩
theorem auP {P:Prop} (h:P:=by (first|refine ap hF ?_|skip);exact auQ):P:=h
theorem auR {P:Prop} (h:P:=by intro hF hM;(first|refine ap hF ?_|skip);exact auQ):P:=h
theorem lsQ {P:Prop} (h:P:=by (simp only [go_sem,ct,cu,List.length_replicate,ca,Int.toNat_natCast,↓reduceIte,Nat.reduceEqDiff,Nat.reduceAdd,Int.reduceAdd,Nat.reduceMul,Nat.reduceLeDiff,Nat.reduceLT,Int.reduceLE,Int.reduceLT,Int.reduceNeg,Int.reduceToNat,mt,mtL,ln,lm,mtZ,and_self,eq_self,or_true,true_or,mX,i7,ja,Int.reduceSub,or_self]<;>fail)):P:=h
theorem cO {A P:Prop} (a:A) (h:A→P:=by (intro hA;simp only [go_sem,ct,cu,List.length_replicate,ca,Int.toNat_natCast,↓reduceIte,Nat.reduceEqDiff,Nat.reduceAdd,Int.reduceAdd,Nat.reduceMul,Nat.reduceLeDiff,Nat.reduceLT,Int.reduceLE,Int.reduceLT,Int.reduceNeg,Int.reduceToNat,mt,mtL,ln,lm,mtZ,and_self,eq_self,or_true,true_or,mX,i7,ja,Int.reduceSub,or_self,hA]<;>fail)):P:=h a
theorem sbG {P:Prop} (h:P:=by (simp only [go_sem,ct,cu,List.length_replicate,ca,Int.toNat_natCast,↓reduceIte,Nat.reduceEqDiff,Nat.reduceAdd,Int.reduceAdd,Nat.reduceMul,Nat.reduceLeDiff,Nat.reduceLT,Int.reduceLE,Int.reduceLT,Int.reduceNeg,Int.reduceToNat,List.isEmpty_nil,mX,pc,sA,dN,dO,mtO,mtB,mt,mtL,ln,lm,ltV,ltL,ltB,eq_self,or_true,true_or,or_self,and_self,i7,ja,Int.reduceSub]<;>fail)):P:=h
theorem nzB {P Q:Prop} (h:P) (e:P=Q:=by first|(simp only [pi,wfB,decide_eq_true_eq,decide_eq_false_iff_not,Bool.and_eq_true,Bool.or_eq_true,Bool.not_eq_true',Bool.not_eq_false',beq_iff_eq,bne_iff_ne,beq_eq_false_iff_ne,bne_eq_false_iff_eq,ne_eq,Int.not_lt,Int.not_le,gt_iff_lt,ge_iff_le,List.length_map,wfL,wfV,and_true,true_and,fV,wP,wQ,wR,wS,o7,mV,List.length_append,List.length_cons,List.length_nil,List.length_replicate,ca,o8,o9,o_,dh,mW,wT,Cb];rfl)|rfl):Q:=e▸h
end Go.Proofs.YteibkofekpejgaaGreatDoor
namespace Go.Proofs.YteibkofekpejgaaGreatDoor
open Go.RowKit
structure bZ where
 Kind:Int
 A:Int
 B:Int
def sN:bZ:={Kind:=(0:Int),A:=(0:Int),B:=(0:Int)}
instance:Inhabited bZ:=⟨sN⟩
@[go_sem] theorem Pj:sN.Kind=(0:Int):=Eq.trans rfl rfl
@[go_sem] theorem Pk:sN.A=(0:Int):=Eq.trans rfl rfl
@[go_sem] theorem Pm:sN.B=(0:Int):=Eq.trans rfl rfl
structure dC where
 Rules:(List bZ)
def sO:dC:={Rules:=[]}
instance:Inhabited dC:=⟨sO⟩
@[go_sem] theorem Pn:sO.Rules=[]:=Eq.trans rfl rfl
structure aL where
 Payee:(List Int)
 Amount:Int
 Time:Int
 Number:Int
def eE:aL:={Payee:=[0,0,0,0,0,0,0,0,0,0,0,0,0,0,0,0,0,0,0,0,0,0,0,0,0,0,0,0,0,0,0,0],Amount:=(0:Int),Time:=(0:Int),Number:=(0:Int)}
instance:Inhabited aL:=⟨eE⟩
@[go_sem] theorem Po:eE.Payee=[0,0,0,0,0,0,0,0,0,0,0,0,0,0,0,0,0,0,0,0,0,0,0,0,0,0,0,0,0,0,0,0]:=Eq.trans rfl rfl
@[go_sem] theorem Pp:eE.Amount=(0:Int):=Eq.trans rfl rfl
@[go_sem] theorem Pq:eE.Time=(0:Int):=Eq.trans rfl rfl
@[go_sem] theorem Pr:eE.Number=(0:Int):=Eq.trans rfl rfl
structure ij where
 Z:Int
 A:Int
 B:Int
 R:Int
def lG:ij:={Z:=(0:Int),A:=(0:Int),B:=(0:Int),R:=(0:Int)}
instance:Inhabited ij:=⟨lG⟩
@[go_sem] theorem Ps:lG.Z=(0:Int):=Eq.trans rfl rfl
@[go_sem] theorem Pt:lG.A=(0:Int):=Eq.trans rfl rfl
@[go_sem] theorem Pu:lG.B=(0:Int):=Eq.trans rfl rfl
@[go_sem] theorem Pv:lG.R=(0:Int):=Eq.trans rfl rfl
structure bv where
 Bank:Int
 Epoch:Int
 Denom:Int
 Depth:Int
 A:Int
 Root:(List Int)
 Sign:ij
def il:bv:={Bank:=(0:Int),Epoch:=(0:Int),Denom:=(0:Int),Depth:=(0:Int),A:=(0:Int),Root:=[0,0,0,0,0,0,0,0,0,0,0,0,0,0,0,0,0,0,0,0,0,0,0,0,0,0,0,0,0,0,0,0],Sign:=lG}
instance:Inhabited bv:=⟨il⟩
@[go_sem] theorem Pw:il.Bank=(0:Int):=Eq.trans rfl rfl
@[go_sem] theorem Py:il.Epoch=(0:Int):=Eq.trans rfl rfl
@[go_sem] theorem Pz:il.Denom=(0:Int):=Eq.trans rfl rfl
@[go_sem] theorem PA:il.Depth=(0:Int):=Eq.trans rfl rfl
@[go_sem] theorem PC:il.A=(0:Int):=Eq.trans rfl rfl
@[go_sem] theorem PD:il.Root=[0,0,0,0,0,0,0,0,0,0,0,0,0,0,0,0,0,0,0,0,0,0,0,0,0,0,0,0,0,0,0,0]:=Eq.trans rfl rfl
@[go_sem] theorem PE:il.Sign=lG:=Eq.trans rfl rfl
structure fC where
 Level:Int
 Index:Int
def pk:fC:={Level:=(0:Int),Index:=(0:Int)}
instance:Inhabited fC:=⟨pk⟩
@[go_sem] theorem PF:pk.Level=(0:Int):=Eq.trans rfl rfl
@[go_sem] theorem PG:pk.Index=(0:Int):=Eq.trans rfl rfl
structure eF where
 Payee:(List Int)
 Time:Int
 Number:Int
def lH:eF:={Payee:=[0,0,0,0,0,0,0,0,0,0,0,0,0,0,0,0,0,0,0,0,0,0,0,0,0,0,0,0,0,0,0,0],Time:=(0:Int),Number:=(0:Int)}
instance:Inhabited eF:=⟨lH⟩
@[go_sem] theorem PH:lH.Payee=[0,0,0,0,0,0,0,0,0,0,0,0,0,0,0,0,0,0,0,0,0,0,0,0,0,0,0,0,0,0,0,0]:=Eq.trans rfl rfl
@[go_sem] theorem PI:lH.Time=(0:Int):=Eq.trans rfl rfl
@[go_sem] theorem PJ:lH.Number=(0:Int):=Eq.trans rfl rfl
structure dR where
 B:Int
 R1:Int
 R2:Int
def sP:dR:={B:=(0:Int),R1:=(0:Int),R2:=(0:Int)}
instance:Inhabited dR:=⟨sP⟩
@[go_sem] theorem PK:sP.B=(0:Int):=Eq.trans rfl rfl
@[go_sem] theorem PL:sP.R1=(0:Int):=Eq.trans rfl rfl
@[go_sem] theorem PM:sP.R2=(0:Int):=Eq.trans rfl rfl
structure eG where
 Index:Int
 L:(List (List Int))
def pm:eG:={Index:=(0:Int),L:=[]}
instance:Inhabited eG:=⟨pm⟩
@[go_sem] theorem PN:pm.Index=(0:Int):=Eq.trans rfl rfl
@[go_sem] theorem PO:pm.L=[]:=Eq.trans rfl rfl
structure au where
 Coin:bv
 Node:fC
 Context:eF
 Leaves:(List dR)
 Path:eG
def im:au:={Coin:=il,Node:=pk,Context:=lH,Leaves:=[],Path:=pm}
instance:Inhabited au:=⟨im⟩
@[go_sem] theorem PP:im.Coin=il:=Eq.trans rfl rfl
@[go_sem] theorem PQ:im.Node=pk:=Eq.trans rfl rfl
@[go_sem] theorem PR:im.Context=lH:=Eq.trans rfl rfl
@[go_sem] theorem PS:im.Leaves=[]:=Eq.trans rfl rfl
@[go_sem] theorem PT:im.Path=pm:=Eq.trans rfl rfl
structure bh where
 First:au
 L:(List au)
def xc:bh:={First:=im,L:=[]}
instance:Inhabited bh:=⟨xc⟩
@[go_sem] theorem PU:xc.First=im:=Eq.trans rfl rfl
@[go_sem] theorem PV:xc.L=[]:=Eq.trans rfl rfl
structure dS where
 A:(List Int)
 C:Int
 Z:(List Int)
def m7:dS:={A:=[],C:=(0:Int),Z:=[]}
instance:Inhabited dS:=⟨m7⟩
@[go_sem] theorem PW:m7.A=[]:=Eq.trans rfl rfl
@[go_sem] theorem PX:m7.C=(0:Int):=Eq.trans rfl rfl
@[go_sem] theorem PY:m7.Z=[]:=Eq.trans rfl rfl
structure b9 where
 E1:Int
 E2:Int
 Proof:dS
def sQ:b9:={E1:=(0:Int),E2:=(0:Int),Proof:=m7}
instance:Inhabited b9:=⟨sQ⟩
@[go_sem] theorem PZ:sQ.E1=(0:Int):=Eq.trans rfl rfl
@[go_sem] theorem P0:sQ.E2=(0:Int):=Eq.trans rfl rfl
@[go_sem] theorem P1:sQ.Proof=m7:=Eq.trans rfl rfl
structure aA where
 Number:Int
 Spends:(List au)
 Chains:(List bh)
 Escrow:(List b9)
def io:aA:={Number:=(0:Int),Spends:=[],Chains:=[],Escrow:=[]}
instance:Inhabited aA:=⟨io⟩
@[go_sem] theorem P2:io.Number=(0:Int):=Eq.trans rfl rfl
@[go_sem] theorem P3:io.Spends=[]:=Eq.trans rfl rfl
@[go_sem] theorem P4:io.Chains=[]:=Eq.trans rfl rfl
@[go_sem] theorem P5:io.Escrow=[]:=Eq.trans rfl rfl
structure aw where
 Name:(List Int)
 Policy:dC
 Open:(List aL)
 Next:Int
 Queue:(List aA)
 Paid:(List aL)
 Total:Int
 Blocked:(List Int)
 Now:Int
def bK:aw:={Name:=[0,0,0,0,0,0,0,0,0,0,0,0,0,0,0,0,0,0,0,0,0,0,0,0,0,0,0,0,0,0,0,0],Policy:=sO,Open:=[],Next:=(0:Int),Queue:=[],Paid:=[],Total:=(0:Int),Blocked:=[],Now:=(0:Int)}
instance:Inhabited aw:=⟨bK⟩
@[go_sem] theorem P6:bK.Name=[0,0,0,0,0,0,0,0,0,0,0,0,0,0,0,0,0,0,0,0,0,0,0,0,0,0,0,0,0,0,0,0]:=Eq.trans rfl rfl
@[go_sem] theorem P7:bK.Policy=sO:=Eq.trans rfl rfl
@[go_sem] theorem P8:bK.Open=[]:=Eq.trans rfl rfl
@[go_sem] theorem P9:bK.Next=(0:Int):=Eq.trans rfl rfl
@[go_sem] theorem P_:bK.Queue=[]:=Eq.trans rfl rfl
@[go_sem] theorem Qa:bK.Paid=[]:=Eq.trans rfl rfl
@[go_sem] theorem Qb:bK.Total=(0:Int):=Eq.trans rfl rfl
@[go_sem] theorem Qc:bK.Blocked=[]:=Eq.trans rfl rfl
@[go_sem] theorem Qd:bK.Now=(0:Int):=Eq.trans rfl rfl
structure fi where
 Value:Int
 Depth:Int
def lI:fi:={Value:=(0:Int),Depth:=(0:Int)}
instance:Inhabited fi:=⟨lI⟩
@[go_sem] theorem Qe:lI.Value=(0:Int):=Eq.trans rfl rfl
@[go_sem] theorem Qf:lI.Depth=(0:Int):=Eq.trans rfl rfl
structure aP where
 P:Int
 Q:Int
 G:Int
def m8:aP:={P:=(0:Int),Q:=(0:Int),G:=(0:Int)}
instance:Inhabited aP:=⟨m8⟩
@[go_sem] theorem Qg:m8.P=(0:Int):=Eq.trans rfl rfl
@[go_sem] theorem Qh:m8.Q=(0:Int):=Eq.trans rfl rfl
@[go_sem] theorem Qi:m8.G=(0:Int):=Eq.trans rfl rfl
structure aX where
 Group:aP
 G1:Int
 G2:Int
 H:Int
def lJ:aX:={Group:=m8,G1:=(0:Int),G2:=(0:Int),H:=(0:Int)}
instance:Inhabited aX:=⟨lJ⟩
@[go_sem] theorem Qj:lJ.Group=m8:=Eq.trans rfl rfl
@[go_sem] theorem Qk:lJ.G1=(0:Int):=Eq.trans rfl rfl
@[go_sem] theorem Ql:lJ.G2=(0:Int):=Eq.trans rfl rfl
@[go_sem] theorem Qm:lJ.H=(0:Int):=Eq.trans rfl rfl
structure ip where
 H:Int
 H1:Int
 H2:Int
def m9:ip:={H:=(0:Int),H1:=(0:Int),H2:=(0:Int)}
instance:Inhabited ip:=⟨m9⟩
@[go_sem] theorem Qn:m9.H=(0:Int):=Eq.trans rfl rfl
@[go_sem] theorem Qo:m9.H1=(0:Int):=Eq.trans rfl rfl
@[go_sem] theorem Qp:m9.H2=(0:Int):=Eq.trans rfl rfl
structure bg where
 Bank:Int
 Epoch:Int
 Denom:Int
 Value:Int
 Depth:Int
 Key:ip
 From:Int
 Until:Int
 Final:Int
def fZ:bg:={Bank:=(0:Int),Epoch:=(0:Int),Denom:=(0:Int),Value:=(0:Int),Depth:=(0:Int),Key:=m9,From:=(0:Int),Until:=(0:Int),Final:=(0:Int)}
instance:Inhabited bg:=⟨fZ⟩
@[go_sem] theorem Qq:fZ.Bank=(0:Int):=Eq.trans rfl rfl
@[go_sem] theorem Qr:fZ.Epoch=(0:Int):=Eq.trans rfl rfl
@[go_sem] theorem Qt:fZ.Denom=(0:Int):=Eq.trans rfl rfl
@[go_sem] theorem Qu:fZ.Value=(0:Int):=Eq.trans rfl rfl
@[go_sem] theorem Qv:fZ.Depth=(0:Int):=Eq.trans rfl rfl
@[go_sem] theorem Qw:fZ.Key=m9:=Eq.trans rfl rfl
@[go_sem] theorem Qx:fZ.From=(0:Int):=Eq.trans rfl rfl
@[go_sem] theorem Qy:fZ.Until=(0:Int):=Eq.trans rfl rfl
@[go_sem] theorem Qz:fZ.Final=(0:Int):=Eq.trans rfl rfl
structure ci where
 b:aX
 l:(List bg)
 y:Int
 v:aL
 p:aA
def m_:ci:={b:=lJ,l:=[],y:=(0:Int),v:=eE,p:=io}
instance:Inhabited ci:=⟨m_⟩
@[go_sem] theorem QA:m_.b=lJ:=Eq.trans rfl rfl
@[go_sem] theorem QB:m_.l=[]:=Eq.trans rfl rfl
@[go_sem] theorem QD:m_.y=(0:Int):=Eq.trans rfl rfl
@[go_sem] theorem QE:m_.v=eE:=Eq.trans rfl rfl
@[go_sem] theorem QF:m_.p=io:=Eq.trans rfl rfl
structure am where
 Kind:Int
 N:Int
 B:(List Int)
 L:(List am)
def pn:am:={Kind:=(0:Int),N:=(0:Int),B:=[],L:=[]}
instance:Inhabited am:=⟨pn⟩
@[go_sem] theorem QG:pn.Kind=(0:Int):=Eq.trans rfl rfl
@[go_sem] theorem QH:pn.N=(0:Int):=Eq.trans rfl rfl
@[go_sem] theorem QI:pn.B=[]:=Eq.trans rfl rfl
@[go_sem] theorem QJ:pn.L=[]:=Eq.trans rfl rfl
structure ee where
 l:(List am)
def lK:ee:={l:=[]}
instance:Inhabited ee:=⟨lK⟩
@[go_sem] theorem QK:lK.l=[]:=Eq.trans rfl rfl
structure bD where
 A:Int
 B:Int
 Spend:au
 Leaf:Int
def po:bD:={A:=(0:Int),B:=(0:Int),Spend:=im,Leaf:=(0:Int)}
instance:Inhabited bD:=⟨po⟩
@[go_sem] theorem QL:po.A=(0:Int):=Eq.trans rfl rfl
@[go_sem] theorem QM:po.B=(0:Int):=Eq.trans rfl rfl
@[go_sem] theorem QN:po.Spend=im:=Eq.trans rfl rfl
@[go_sem] theorem QO:po.Leaf=(0:Int):=Eq.trans rfl rfl
structure cF where
 Y:(List Int)
 Bases:(List (List Int))
def j4:cF:={Y:=[],Bases:=[]}
instance:Inhabited cF:=⟨j4⟩
@[go_sem] theorem QP:j4.Y=[]:=Eq.trans rfl rfl
@[go_sem] theorem QQ:j4.Bases=[]:=Eq.trans rfl rfl
structure ce where
 State:(List Int)
 Count:Int
def ef:ce:={State:=[0,0,0,0,0,0,0,0,0,0,0,0,0,0,0,0,0,0,0,0,0,0,0,0,0,0,0,0,0,0,0,0],Count:=(0:Int)}
instance:Inhabited ce:=⟨ef⟩
@[go_sem] theorem QR:ef.State=[0,0,0,0,0,0,0,0,0,0,0,0,0,0,0,0,0,0,0,0,0,0,0,0,0,0,0,0,0,0,0,0]:=Eq.trans rfl rfl
@[go_sem] theorem QS:ef.Count=(0:Int):=Eq.trans rfl rfl
def cn (x:bZ):V:= .agg [.int .i64 x.Kind,.int .i64 x.A,.int .i64 x.B]
attribute [go_sem] cn
def aF (l:(List Int)):V:= .agg (.int .u8 (gt l 0):: .int .u8 (gt l 1):: .int .u8 (gt l 2):: .int .u8 (gt l 3):: .int .u8 (gt l 4):: .int .u8 (gt l 5):: .int .u8 (gt l 6):: .int .u8 (gt l 7):: .int .u8 (gt l 8):: .int .u8 (gt l 9):: .int .u8 (gt l 10):: .int .u8 (gt l 11):: .int .u8 (gt l 12):: .int .u8 (gt l 13):: .int .u8 (gt l 14):: .int .u8 (gt l 15):: .int .u8 (gt l 16):: .int .u8 (gt l 17):: .int .u8 (gt l 18):: .int .u8 (gt l 19):: .int .u8 (gt l 20):: .int .u8 (gt l 21):: .int .u8 (gt l 22):: .int .u8 (gt l 23):: .int .u8 (gt l 24):: .int .u8 (gt l 25):: .int .u8 (gt l 26):: .int .u8 (gt l 27):: .int .u8 (gt l 28):: .int .u8 (gt l 29):: .int .u8 (gt l 30):: .int .u8 (gt l 31)::[])
attribute [go_sem] aF
def aY (x:aL):V:= .agg (.int .u8 (gt x.Payee 0):: .int .u8 (gt x.Payee 1):: .int .u8 (gt x.Payee 2):: .int .u8 (gt x.Payee 3):: .int .u8 (gt x.Payee 4):: .int .u8 (gt x.Payee 5):: .int .u8 (gt x.Payee 6):: .int .u8 (gt x.Payee 7):: .int .u8 (gt x.Payee 8):: .int .u8 (gt x.Payee 9):: .int .u8 (gt x.Payee 10):: .int .u8 (gt x.Payee 11):: .int .u8 (gt x.Payee 12):: .int .u8 (gt x.Payee 13):: .int .u8 (gt x.Payee 14):: .int .u8 (gt x.Payee 15):: .int .u8 (gt x.Payee 16):: .int .u8 (gt x.Payee 17):: .int .u8 (gt x.Payee 18):: .int .u8 (gt x.Payee 19):: .int .u8 (gt x.Payee 20):: .int .u8 (gt x.Payee 21):: .int .u8 (gt x.Payee 22):: .int .u8 (gt x.Payee 23):: .int .u8 (gt x.Payee 24):: .int .u8 (gt x.Payee 25):: .int .u8 (gt x.Payee 26):: .int .u8 (gt x.Payee 27):: .int .u8 (gt x.Payee 28):: .int .u8 (gt x.Payee 29):: .int .u8 (gt x.Payee 30):: .int .u8 (gt x.Payee 31):: .int .i64 x.Amount:: .int .i64 x.Time:: .int .i64 x.Number::[])
attribute [go_sem] aY
def dD (x:dR):V:= .agg [.int .i64 x.B,.int .i64 x.R1,.int .i64 x.R2]
attribute [go_sem] dD
def aM (x:au):V:= .agg (.int .i64 x.Coin.Bank:: .int .i64 x.Coin.Epoch:: .int .i64 x.Coin.Denom:: .int .i64 x.Coin.Depth:: .int .i64 x.Coin.A:: .int .u8 (gt x.Coin.Root 0):: .int .u8 (gt x.Coin.Root 1):: .int .u8 (gt x.Coin.Root 2):: .int .u8 (gt x.Coin.Root 3):: .int .u8 (gt x.Coin.Root 4):: .int .u8 (gt x.Coin.Root 5):: .int .u8 (gt x.Coin.Root 6):: .int .u8 (gt x.Coin.Root 7):: .int .u8 (gt x.Coin.Root 8):: .int .u8 (gt x.Coin.Root 9):: .int .u8 (gt x.Coin.Root 10):: .int .u8 (gt x.Coin.Root 11):: .int .u8 (gt x.Coin.Root 12):: .int .u8 (gt x.Coin.Root 13):: .int .u8 (gt x.Coin.Root 14):: .int .u8 (gt x.Coin.Root 15):: .int .u8 (gt x.Coin.Root 16):: .int .u8 (gt x.Coin.Root 17):: .int .u8 (gt x.Coin.Root 18):: .int .u8 (gt x.Coin.Root 19):: .int .u8 (gt x.Coin.Root 20):: .int .u8 (gt x.Coin.Root 21):: .int .u8 (gt x.Coin.Root 22):: .int .u8 (gt x.Coin.Root 23):: .int .u8 (gt x.Coin.Root 24):: .int .u8 (gt x.Coin.Root 25):: .int .u8 (gt x.Coin.Root 26):: .int .u8 (gt x.Coin.Root 27):: .int .u8 (gt x.Coin.Root 28):: .int .u8 (gt x.Coin.Root 29):: .int .u8 (gt x.Coin.Root 30):: .int .u8 (gt x.Coin.Root 31):: .int .i64 x.Coin.Sign.Z:: .int .i64 x.Coin.Sign.A:: .int .i64 x.Coin.Sign.B:: .int .i64 x.Coin.Sign.R:: .int .i64 x.Node.Level:: .int .i64 x.Node.Index:: .int .u8 (gt x.Context.Payee 0):: .int .u8 (gt x.Context.Payee 1):: .int .u8 (gt x.Context.Payee 2):: .int .u8 (gt x.Context.Payee 3):: .int .u8 (gt x.Context.Payee 4):: .int .u8 (gt x.Context.Payee 5):: .int .u8 (gt x.Context.Payee 6):: .int .u8 (gt x.Context.Payee 7):: .int .u8 (gt x.Context.Payee 8):: .int .u8 (gt x.Context.Payee 9):: .int .u8 (gt x.Context.Payee 10):: .int .u8 (gt x.Context.Payee 11):: .int .u8 (gt x.Context.Payee 12):: .int .u8 (gt x.Context.Payee 13):: .int .u8 (gt x.Context.Payee 14):: .int .u8 (gt x.Context.Payee 15):: .int .u8 (gt x.Context.Payee 16):: .int .u8 (gt x.Context.Payee 17):: .int .u8 (gt x.Context.Payee 18):: .int .u8 (gt x.Context.Payee 19):: .int .u8 (gt x.Context.Payee 20):: .int .u8 (gt x.Context.Payee 21):: .int .u8 (gt x.Context.Payee 22):: .int .u8 (gt x.Context.Payee 23):: .int .u8 (gt x.Context.Payee 24):: .int .u8 (gt x.Context.Payee 25):: .int .u8 (gt x.Context.Payee 26):: .int .u8 (gt x.Context.Payee 27):: .int .u8 (gt x.Context.Payee 28):: .int .u8 (gt x.Context.Payee 29):: .int .u8 (gt x.Context.Payee 30):: .int .u8 (gt x.Context.Payee 31):: .int .i64 x.Context.Time:: .int .i64 x.Context.Number:: .sl none 3 true (x.Leaves.map dD):: .int .i64 x.Path.Index:: .sl none 32 true (x.Path.L.map aF)::[])
attribute [go_sem] aM
def bf (x:bh):V:= .agg (.int .i64 x.First.Coin.Bank:: .int .i64 x.First.Coin.Epoch:: .int .i64 x.First.Coin.Denom:: .int .i64 x.First.Coin.Depth:: .int .i64 x.First.Coin.A:: .int .u8 (gt x.First.Coin.Root 0):: .int .u8 (gt x.First.Coin.Root 1):: .int .u8 (gt x.First.Coin.Root 2):: .int .u8 (gt x.First.Coin.Root 3):: .int .u8 (gt x.First.Coin.Root 4):: .int .u8 (gt x.First.Coin.Root 5):: .int .u8 (gt x.First.Coin.Root 6):: .int .u8 (gt x.First.Coin.Root 7):: .int .u8 (gt x.First.Coin.Root 8):: .int .u8 (gt x.First.Coin.Root 9):: .int .u8 (gt x.First.Coin.Root 10):: .int .u8 (gt x.First.Coin.Root 11):: .int .u8 (gt x.First.Coin.Root 12):: .int .u8 (gt x.First.Coin.Root 13):: .int .u8 (gt x.First.Coin.Root 14):: .int .u8 (gt x.First.Coin.Root 15):: .int .u8 (gt x.First.Coin.Root 16):: .int .u8 (gt x.First.Coin.Root 17):: .int .u8 (gt x.First.Coin.Root 18):: .int .u8 (gt x.First.Coin.Root 19):: .int .u8 (gt x.First.Coin.Root 20):: .int .u8 (gt x.First.Coin.Root 21):: .int .u8 (gt x.First.Coin.Root 22):: .int .u8 (gt x.First.Coin.Root 23):: .int .u8 (gt x.First.Coin.Root 24):: .int .u8 (gt x.First.Coin.Root 25):: .int .u8 (gt x.First.Coin.Root 26):: .int .u8 (gt x.First.Coin.Root 27):: .int .u8 (gt x.First.Coin.Root 28):: .int .u8 (gt x.First.Coin.Root 29):: .int .u8 (gt x.First.Coin.Root 30):: .int .u8 (gt x.First.Coin.Root 31):: .int .i64 x.First.Coin.Sign.Z:: .int .i64 x.First.Coin.Sign.A:: .int .i64 x.First.Coin.Sign.B:: .int .i64 x.First.Coin.Sign.R:: .int .i64 x.First.Node.Level:: .int .i64 x.First.Node.Index:: .int .u8 (gt x.First.Context.Payee 0):: .int .u8 (gt x.First.Context.Payee 1):: .int .u8 (gt x.First.Context.Payee 2):: .int .u8 (gt x.First.Context.Payee 3):: .int .u8 (gt x.First.Context.Payee 4):: .int .u8 (gt x.First.Context.Payee 5):: .int .u8 (gt x.First.Context.Payee 6):: .int .u8 (gt x.First.Context.Payee 7):: .int .u8 (gt x.First.Context.Payee 8):: .int .u8 (gt x.First.Context.Payee 9):: .int .u8 (gt x.First.Context.Payee 10):: .int .u8 (gt x.First.Context.Payee 11):: .int .u8 (gt x.First.Context.Payee 12):: .int .u8 (gt x.First.Context.Payee 13):: .int .u8 (gt x.First.Context.Payee 14):: .int .u8 (gt x.First.Context.Payee 15):: .int .u8 (gt x.First.Context.Payee 16):: .int .u8 (gt x.First.Context.Payee 17):: .int .u8 (gt x.First.Context.Payee 18):: .int .u8 (gt x.First.Context.Payee 19):: .int .u8 (gt x.First.Context.Payee 20):: .int .u8 (gt x.First.Context.Payee 21):: .int .u8 (gt x.First.Context.Payee 22):: .int .u8 (gt x.First.Context.Payee 23):: .int .u8 (gt x.First.Context.Payee 24):: .int .u8 (gt x.First.Context.Payee 25):: .int .u8 (gt x.First.Context.Payee 26):: .int .u8 (gt x.First.Context.Payee 27):: .int .u8 (gt x.First.Context.Payee 28):: .int .u8 (gt x.First.Context.Payee 29):: .int .u8 (gt x.First.Context.Payee 30):: .int .u8 (gt x.First.Context.Payee 31):: .int .i64 x.First.Context.Time:: .int .i64 x.First.Context.Number:: .sl none 3 true (x.First.Leaves.map dD):: .int .i64 x.First.Path.Index:: .sl none 32 true (x.First.Path.L.map aF):: .sl none 80 true (x.L.map aM)::[])
attribute [go_sem] bf
def bz (x:b9):V:= .agg [.int .i64 x.E1,.int .i64 x.E2,.sl none 1 false (x.Proof.A.map (V.int .i64)),.int .i64 x.Proof.C,.sl none 1 false (x.Proof.Z.map (V.int .i64))]
attribute [go_sem] bz
def br (x:aA):V:= .agg [.int .i64 x.Number,.sl none 80 true (x.Spends.map aM),.sl none 81 true (x.Chains.map bf),.sl none 5 true (x.Escrow.map bz)]
attribute [go_sem] br
def bW (x:aw):V:= .agg (.int .u8 (gt x.Name 0):: .int .u8 (gt x.Name 1):: .int .u8 (gt x.Name 2):: .int .u8 (gt x.Name 3):: .int .u8 (gt x.Name 4):: .int .u8 (gt x.Name 5):: .int .u8 (gt x.Name 6):: .int .u8 (gt x.Name 7):: .int .u8 (gt x.Name 8):: .int .u8 (gt x.Name 9):: .int .u8 (gt x.Name 10):: .int .u8 (gt x.Name 11):: .int .u8 (gt x.Name 12):: .int .u8 (gt x.Name 13):: .int .u8 (gt x.Name 14):: .int .u8 (gt x.Name 15):: .int .u8 (gt x.Name 16):: .int .u8 (gt x.Name 17):: .int .u8 (gt x.Name 18):: .int .u8 (gt x.Name 19):: .int .u8 (gt x.Name 20):: .int .u8 (gt x.Name 21):: .int .u8 (gt x.Name 22):: .int .u8 (gt x.Name 23):: .int .u8 (gt x.Name 24):: .int .u8 (gt x.Name 25):: .int .u8 (gt x.Name 26):: .int .u8 (gt x.Name 27):: .int .u8 (gt x.Name 28):: .int .u8 (gt x.Name 29):: .int .u8 (gt x.Name 30):: .int .u8 (gt x.Name 31):: .sl none 3 true (x.Policy.Rules.map cn):: .sl none 35 true (x.Open.map aY):: .int .i64 x.Next:: .sl none 4 true (x.Queue.map br):: .sl none 35 true (x.Paid.map aY):: .int .i64 x.Total:: .sl none 1 false (x.Blocked.map (V.int .i64)):: .int .i64 x.Now::[])
attribute [go_sem] bW
def lL (x:eF):V:= .agg (.int .u8 (gt x.Payee 0):: .int .u8 (gt x.Payee 1):: .int .u8 (gt x.Payee 2):: .int .u8 (gt x.Payee 3):: .int .u8 (gt x.Payee 4):: .int .u8 (gt x.Payee 5):: .int .u8 (gt x.Payee 6):: .int .u8 (gt x.Payee 7):: .int .u8 (gt x.Payee 8):: .int .u8 (gt x.Payee 9):: .int .u8 (gt x.Payee 10):: .int .u8 (gt x.Payee 11):: .int .u8 (gt x.Payee 12):: .int .u8 (gt x.Payee 13):: .int .u8 (gt x.Payee 14):: .int .u8 (gt x.Payee 15):: .int .u8 (gt x.Payee 16):: .int .u8 (gt x.Payee 17):: .int .u8 (gt x.Payee 18):: .int .u8 (gt x.Payee 19):: .int .u8 (gt x.Payee 20):: .int .u8 (gt x.Payee 21):: .int .u8 (gt x.Payee 22):: .int .u8 (gt x.Payee 23):: .int .u8 (gt x.Payee 24):: .int .u8 (gt x.Payee 25):: .int .u8 (gt x.Payee 26):: .int .u8 (gt x.Payee 27):: .int .u8 (gt x.Payee 28):: .int .u8 (gt x.Payee 29):: .int .u8 (gt x.Payee 30):: .int .u8 (gt x.Payee 31):: .int .i64 x.Time:: .int .i64 x.Number::[])
attribute [go_sem] lL
def eH (a b:(List Int)):Bool:=((gt a 0)==(gt b 0)&&((gt a 1)==(gt b 1)&&((gt a 2)==(gt b 2)&&((gt a 3)==(gt b 3)&&((gt a 4)==(gt b 4)&&((gt a 5)==(gt b 5)&&((gt a 6)==(gt b 6)&&((gt a 7)==(gt b 7)&&((gt a 8)==(gt b 8)&&((gt a 9)==(gt b 9)&&((gt a 10)==(gt b 10)&&((gt a 11)==(gt b 11)&&((gt a 12)==(gt b 12)&&((gt a 13)==(gt b 13)&&((gt a 14)==(gt b 14)&&((gt a 15)==(gt b 15)&&((gt a 16)==(gt b 16)&&((gt a 17)==(gt b 17)&&((gt a 18)==(gt b 18)&&((gt a 19)==(gt b 19)&&((gt a 20)==(gt b 20)&&((gt a 21)==(gt b 21)&&((gt a 22)==(gt b 22)&&((gt a 23)==(gt b 23)&&((gt a 24)==(gt b 24)&&((gt a 25)==(gt b 25)&&((gt a 26)==(gt b 26)&&((gt a 27)==(gt b 27)&&((gt a 28)==(gt b 28)&&((gt a 29)==(gt b 29)&&((gt a 30)==(gt b 30)&&(gt a 31)==(gt b 31))))))))))))))))))))))))))))))))
attribute [go_sem] eH
def xd:V:= .agg (.int .u8 0:: .int .u8 0:: .int .u8 0:: .int .u8 0:: .int .u8 0:: .int .u8 0:: .int .u8 0:: .int .u8 0:: .int .u8 0:: .int .u8 0:: .int .u8 0:: .int .u8 0:: .int .u8 0:: .int .u8 0:: .int .u8 0:: .int .u8 0:: .int .u8 0:: .int .u8 0:: .int .u8 0:: .int .u8 0:: .int .u8 0:: .int .u8 0:: .int .u8 0:: .int .u8 0:: .int .u8 0:: .int .u8 0:: .int .u8 0:: .int .u8 0:: .int .u8 0:: .int .u8 0:: .int .u8 0:: .int .u8 0:: .sl (some true) 3 true []:: .sl (some true) 35 true []:: .int .i64 0:: .sl (some true) 4 true []:: .sl (some true) 35 true []:: .int .i64 0:: .sl (some true) 1 false []:: .int .i64 0::[])
attribute [go_sem] xd
def j5 (a b:aL):Bool:=((gt a.Payee 0)==(gt b.Payee 0)&&((gt a.Payee 1)==(gt b.Payee 1)&&((gt a.Payee 2)==(gt b.Payee 2)&&((gt a.Payee 3)==(gt b.Payee 3)&&((gt a.Payee 4)==(gt b.Payee 4)&&((gt a.Payee 5)==(gt b.Payee 5)&&((gt a.Payee 6)==(gt b.Payee 6)&&((gt a.Payee 7)==(gt b.Payee 7)&&((gt a.Payee 8)==(gt b.Payee 8)&&((gt a.Payee 9)==(gt b.Payee 9)&&((gt a.Payee 10)==(gt b.Payee 10)&&((gt a.Payee 11)==(gt b.Payee 11)&&((gt a.Payee 12)==(gt b.Payee 12)&&((gt a.Payee 13)==(gt b.Payee 13)&&((gt a.Payee 14)==(gt b.Payee 14)&&((gt a.Payee 15)==(gt b.Payee 15)&&((gt a.Payee 16)==(gt b.Payee 16)&&((gt a.Payee 17)==(gt b.Payee 17)&&((gt a.Payee 18)==(gt b.Payee 18)&&((gt a.Payee 19)==(gt b.Payee 19)&&((gt a.Payee 20)==(gt b.Payee 20)&&((gt a.Payee 21)==(gt b.Payee 21)&&((gt a.Payee 22)==(gt b.Payee 22)&&((gt a.Payee 23)==(gt b.Payee 23)&&((gt a.Payee 24)==(gt b.Payee 24)&&((gt a.Payee 25)==(gt b.Payee 25)&&((gt a.Payee 26)==(gt b.Payee 26)&&((gt a.Payee 27)==(gt b.Payee 27)&&((gt a.Payee 28)==(gt b.Payee 28)&&((gt a.Payee 29)==(gt b.Payee 29)&&((gt a.Payee 30)==(gt b.Payee 30)&&((gt a.Payee 31)==(gt b.Payee 31)&&(a.Amount==b.Amount&&(a.Time==b.Time&&a.Number==b.Number))))))))))))))))))))))))))))))))))
attribute [go_sem] j5
def xe (x:ij):V:= .agg [.int .i64 x.Z,.int .i64 x.A,.int .i64 x.B,.int .i64 x.R]
attribute [go_sem] xe
def dT (x:bv):V:= .agg (.int .i64 x.Bank:: .int .i64 x.Epoch:: .int .i64 x.Denom:: .int .i64 x.Depth:: .int .i64 x.A:: .int .u8 (gt x.Root 0):: .int .u8 (gt x.Root 1):: .int .u8 (gt x.Root 2):: .int .u8 (gt x.Root 3):: .int .u8 (gt x.Root 4):: .int .u8 (gt x.Root 5):: .int .u8 (gt x.Root 6):: .int .u8 (gt x.Root 7):: .int .u8 (gt x.Root 8):: .int .u8 (gt x.Root 9):: .int .u8 (gt x.Root 10):: .int .u8 (gt x.Root 11):: .int .u8 (gt x.Root 12):: .int .u8 (gt x.Root 13):: .int .u8 (gt x.Root 14):: .int .u8 (gt x.Root 15):: .int .u8 (gt x.Root 16):: .int .u8 (gt x.Root 17):: .int .u8 (gt x.Root 18):: .int .u8 (gt x.Root 19):: .int .u8 (gt x.Root 20):: .int .u8 (gt x.Root 21):: .int .u8 (gt x.Root 22):: .int .u8 (gt x.Root 23):: .int .u8 (gt x.Root 24):: .int .u8 (gt x.Root 25):: .int .u8 (gt x.Root 26):: .int .u8 (gt x.Root 27):: .int .u8 (gt x.Root 28):: .int .u8 (gt x.Root 29):: .int .u8 (gt x.Root 30):: .int .u8 (gt x.Root 31):: .int .i64 x.Sign.Z:: .int .i64 x.Sign.A:: .int .i64 x.Sign.B:: .int .i64 x.Sign.R::[])
attribute [go_sem] dT
def xf (x:fC):V:= .agg [.int .i64 x.Level,.int .i64 x.Index]
attribute [go_sem] xf
def xg (x:eG):V:= .agg [.int .i64 x.Index,.sl none 32 true (x.L.map aF)]
attribute [go_sem] xg
def xh (x:dS):V:= .agg [.sl none 1 false (x.A.map (V.int .i64)),.int .i64 x.C,.sl none 1 false (x.Z.map (V.int .i64))]
attribute [go_sem] xh
def xi (x:dC):V:= .agg [.sl none 3 true (x.Rules.map cn)]
attribute [go_sem] xi
def pr (a b:fi):Bool:=(a.Value==b.Value&&a.Depth==b.Depth)
attribute [go_sem] pr
def sR (x:fi):V:= .agg [.int .i64 x.Value,.int .i64 x.Depth]
attribute [go_sem] sR
def bS (x:aX):V:= .agg [.int .i64 x.Group.P,.int .i64 x.Group.Q,.int .i64 x.Group.G,.int .i64 x.G1,.int .i64 x.G2,.int .i64 x.H]
attribute [go_sem] bS
def cP (x:bg):V:= .agg [.int .i64 x.Bank,.int .i64 x.Epoch,.int .i64 x.Denom,.int .i64 x.Value,.int .i64 x.Depth,.int .i64 x.Key.H,.int .i64 x.Key.H1,.int .i64 x.Key.H2,.int .i64 x.From,.int .i64 x.Until,.int .i64 x.Final]
attribute [go_sem] cP
def bE (x:ci):V:= .agg (.int .i64 x.b.Group.P:: .int .i64 x.b.Group.Q:: .int .i64 x.b.Group.G:: .int .i64 x.b.G1:: .int .i64 x.b.G2:: .int .i64 x.b.H:: .sl none 11 true (x.l.map cP):: .int .i64 x.y:: .int .u8 (gt x.v.Payee 0):: .int .u8 (gt x.v.Payee 1):: .int .u8 (gt x.v.Payee 2):: .int .u8 (gt x.v.Payee 3):: .int .u8 (gt x.v.Payee 4):: .int .u8 (gt x.v.Payee 5):: .int .u8 (gt x.v.Payee 6):: .int .u8 (gt x.v.Payee 7):: .int .u8 (gt x.v.Payee 8):: .int .u8 (gt x.v.Payee 9):: .int .u8 (gt x.v.Payee 10):: .int .u8 (gt x.v.Payee 11):: .int .u8 (gt x.v.Payee 12):: .int .u8 (gt x.v.Payee 13):: .int .u8 (gt x.v.Payee 14):: .int .u8 (gt x.v.Payee 15):: .int .u8 (gt x.v.Payee 16):: .int .u8 (gt x.v.Payee 17):: .int .u8 (gt x.v.Payee 18):: .int .u8 (gt x.v.Payee 19):: .int .u8 (gt x.v.Payee 20):: .int .u8 (gt x.v.Payee 21):: .int .u8 (gt x.v.Payee 22):: .int .u8 (gt x.v.Payee 23):: .int .u8 (gt x.v.Payee 24):: .int .u8 (gt x.v.Payee 25):: .int .u8 (gt x.v.Payee 26):: .int .u8 (gt x.v.Payee 27):: .int .u8 (gt x.v.Payee 28):: .int .u8 (gt x.v.Payee 29):: .int .u8 (gt x.v.Payee 30):: .int .u8 (gt x.v.Payee 31):: .int .i64 x.v.Amount:: .int .i64 x.v.Time:: .int .i64 x.v.Number:: .int .i64 x.p.Number:: .sl none 80 true (x.p.Spends.map aM):: .sl none 81 true (x.p.Chains.map bf):: .sl none 5 true (x.p.Escrow.map bz)::[])
attribute [go_sem] bE
def bu (x:am):V:= .agg [.int .i64 x.Kind,.int .i64 x.N,.sl none 1 false (x.B.map (V.int .u8)),.sl none 4 true (x.L.map bu)]
termination_by SizeOf.sizeOf x
decreasing_by
 rename_i y h
 have:=List.sizeOf_lt_of_mem h
 cases x
 simp at*
 omega
attribute [go_sem] bu
def sS:V:= .agg (.int .u32 0:: .int .u32 0:: .int .u32 0:: .int .u32 0:: .int .u32 0:: .int .u32 0:: .int .u32 0:: .int .u32 0:: .int .u32 0:: .int .u32 0:: .int .u32 0:: .int .u32 0:: .int .u32 0:: .int .u32 0:: .int .u32 0:: .int .u32 0:: .int .u32 0:: .int .u32 0:: .int .u32 0:: .int .u32 0:: .int .u32 0:: .int .u32 0:: .int .u32 0:: .int .u32 0:: .int .u32 0:: .int .u32 0:: .int .u32 0:: .int .u32 0:: .int .u32 0:: .int .u32 0:: .int .u32 0:: .int .u32 0:: .int .u32 0:: .int .u32 0:: .int .u32 0:: .int .u32 0:: .int .u32 0:: .int .u32 0:: .int .u32 0:: .int .u32 0:: .int .u32 0:: .int .u32 0:: .int .u32 0:: .int .u32 0:: .int .u32 0:: .int .u32 0:: .int .u32 0:: .int .u32 0:: .int .u32 0:: .int .u32 0:: .int .u32 0:: .int .u32 0:: .int .u32 0:: .int .u32 0:: .int .u32 0:: .int .u32 0:: .int .u32 0:: .int .u32 0:: .int .u32 0:: .int .u32 0:: .int .u32 0:: .int .u32 0:: .int .u32 0:: .int .u32 0::[])
attribute [go_sem] sS
def na (l:(List Int)):V:= .agg (.int .u32 (gt l 0):: .int .u32 (gt l 1):: .int .u32 (gt l 2):: .int .u32 (gt l 3):: .int .u32 (gt l 4):: .int .u32 (gt l 5):: .int .u32 (gt l 6):: .int .u32 (gt l 7):: .int .u32 (gt l 8):: .int .u32 (gt l 9):: .int .u32 (gt l 10):: .int .u32 (gt l 11):: .int .u32 (gt l 12):: .int .u32 (gt l 13):: .int .u32 (gt l 14):: .int .u32 (gt l 15):: .int .u32 (gt l 16):: .int .u32 (gt l 17):: .int .u32 (gt l 18):: .int .u32 (gt l 19):: .int .u32 (gt l 20):: .int .u32 (gt l 21):: .int .u32 (gt l 22):: .int .u32 (gt l 23):: .int .u32 (gt l 24):: .int .u32 (gt l 25):: .int .u32 (gt l 26):: .int .u32 (gt l 27):: .int .u32 (gt l 28):: .int .u32 (gt l 29):: .int .u32 (gt l 30):: .int .u32 (gt l 31):: .int .u32 (gt l 32):: .int .u32 (gt l 33):: .int .u32 (gt l 34):: .int .u32 (gt l 35):: .int .u32 (gt l 36):: .int .u32 (gt l 37):: .int .u32 (gt l 38):: .int .u32 (gt l 39):: .int .u32 (gt l 40):: .int .u32 (gt l 41):: .int .u32 (gt l 42):: .int .u32 (gt l 43):: .int .u32 (gt l 44):: .int .u32 (gt l 45):: .int .u32 (gt l 46):: .int .u32 (gt l 47):: .int .u32 (gt l 48):: .int .u32 (gt l 49):: .int .u32 (gt l 50):: .int .u32 (gt l 51):: .int .u32 (gt l 52):: .int .u32 (gt l 53):: .int .u32 (gt l 54):: .int .u32 (gt l 55):: .int .u32 (gt l 56):: .int .u32 (gt l 57):: .int .u32 (gt l 58):: .int .u32 (gt l 59):: .int .u32 (gt l 60):: .int .u32 (gt l 61):: .int .u32 (gt l 62):: .int .u32 (gt l 63)::[])
attribute [go_sem] na
def j6 (l:(List Int)):V:= .agg [.int .u32 (gt l 0),.int .u32 (gt l 1),.int .u32 (gt l 2),.int .u32 (gt l 3),.int .u32 (gt l 4),.int .u32 (gt l 5),.int .u32 (gt l 6),.int .u32 (gt l 7)]
attribute [go_sem] j6
def xj:V:= .agg [.int .u32 0,.int .u32 0,.int .u32 0,.int .u32 0,.int .u32 0,.int .u32 0,.int .u32 0,.int .u32 0]
attribute [go_sem] xj
def f0:V:= .agg (.int .u8 0:: .int .u8 0:: .int .u8 0:: .int .u8 0:: .int .u8 0:: .int .u8 0:: .int .u8 0:: .int .u8 0:: .int .u8 0:: .int .u8 0:: .int .u8 0:: .int .u8 0:: .int .u8 0:: .int .u8 0:: .int .u8 0:: .int .u8 0:: .int .u8 0:: .int .u8 0:: .int .u8 0:: .int .u8 0:: .int .u8 0:: .int .u8 0:: .int .u8 0:: .int .u8 0:: .int .u8 0:: .int .u8 0:: .int .u8 0:: .int .u8 0:: .int .u8 0:: .int .u8 0:: .int .u8 0:: .int .u8 0::[])
attribute [go_sem] f0
def jk (a b:eF):Bool:=((gt a.Payee 0)==(gt b.Payee 0)&&((gt a.Payee 1)==(gt b.Payee 1)&&((gt a.Payee 2)==(gt b.Payee 2)&&((gt a.Payee 3)==(gt b.Payee 3)&&((gt a.Payee 4)==(gt b.Payee 4)&&((gt a.Payee 5)==(gt b.Payee 5)&&((gt a.Payee 6)==(gt b.Payee 6)&&((gt a.Payee 7)==(gt b.Payee 7)&&((gt a.Payee 8)==(gt b.Payee 8)&&((gt a.Payee 9)==(gt b.Payee 9)&&((gt a.Payee 10)==(gt b.Payee 10)&&((gt a.Payee 11)==(gt b.Payee 11)&&((gt a.Payee 12)==(gt b.Payee 12)&&((gt a.Payee 13)==(gt b.Payee 13)&&((gt a.Payee 14)==(gt b.Payee 14)&&((gt a.Payee 15)==(gt b.Payee 15)&&((gt a.Payee 16)==(gt b.Payee 16)&&((gt a.Payee 17)==(gt b.Payee 17)&&((gt a.Payee 18)==(gt b.Payee 18)&&((gt a.Payee 19)==(gt b.Payee 19)&&((gt a.Payee 20)==(gt b.Payee 20)&&((gt a.Payee 21)==(gt b.Payee 21)&&((gt a.Payee 22)==(gt b.Payee 22)&&((gt a.Payee 23)==(gt b.Payee 23)&&((gt a.Payee 24)==(gt b.Payee 24)&&((gt a.Payee 25)==(gt b.Payee 25)&&((gt a.Payee 26)==(gt b.Payee 26)&&((gt a.Payee 27)==(gt b.Payee 27)&&((gt a.Payee 28)==(gt b.Payee 28)&&((gt a.Payee 29)==(gt b.Payee 29)&&((gt a.Payee 30)==(gt b.Payee 30)&&((gt a.Payee 31)==(gt b.Payee 31)&&(a.Time==b.Time&&a.Number==b.Number)))))))))))))))))))))))))))))))))
attribute [go_sem] jk
def fD (x:bD):V:= .agg (.int .i64 x.A:: .int .i64 x.B:: .int .i64 x.Spend.Coin.Bank:: .int .i64 x.Spend.Coin.Epoch:: .int .i64 x.Spend.Coin.Denom:: .int .i64 x.Spend.Coin.Depth:: .int .i64 x.Spend.Coin.A:: .int .u8 (gt x.Spend.Coin.Root 0):: .int .u8 (gt x.Spend.Coin.Root 1):: .int .u8 (gt x.Spend.Coin.Root 2):: .int .u8 (gt x.Spend.Coin.Root 3):: .int .u8 (gt x.Spend.Coin.Root 4):: .int .u8 (gt x.Spend.Coin.Root 5):: .int .u8 (gt x.Spend.Coin.Root 6):: .int .u8 (gt x.Spend.Coin.Root 7):: .int .u8 (gt x.Spend.Coin.Root 8):: .int .u8 (gt x.Spend.Coin.Root 9):: .int .u8 (gt x.Spend.Coin.Root 10):: .int .u8 (gt x.Spend.Coin.Root 11):: .int .u8 (gt x.Spend.Coin.Root 12):: .int .u8 (gt x.Spend.Coin.Root 13):: .int .u8 (gt x.Spend.Coin.Root 14):: .int .u8 (gt x.Spend.Coin.Root 15):: .int .u8 (gt x.Spend.Coin.Root 16):: .int .u8 (gt x.Spend.Coin.Root 17):: .int .u8 (gt x.Spend.Coin.Root 18):: .int .u8 (gt x.Spend.Coin.Root 19):: .int .u8 (gt x.Spend.Coin.Root 20):: .int .u8 (gt x.Spend.Coin.Root 21):: .int .u8 (gt x.Spend.Coin.Root 22):: .int .u8 (gt x.Spend.Coin.Root 23):: .int .u8 (gt x.Spend.Coin.Root 24):: .int .u8 (gt x.Spend.Coin.Root 25):: .int .u8 (gt x.Spend.Coin.Root 26):: .int .u8 (gt x.Spend.Coin.Root 27):: .int .u8 (gt x.Spend.Coin.Root 28):: .int .u8 (gt x.Spend.Coin.Root 29):: .int .u8 (gt x.Spend.Coin.Root 30):: .int .u8 (gt x.Spend.Coin.Root 31):: .int .i64 x.Spend.Coin.Sign.Z:: .int .i64 x.Spend.Coin.Sign.A:: .int .i64 x.Spend.Coin.Sign.B:: .int .i64 x.Spend.Coin.Sign.R:: .int .i64 x.Spend.Node.Level:: .int .i64 x.Spend.Node.Index:: .int .u8 (gt x.Spend.Context.Payee 0):: .int .u8 (gt x.Spend.Context.Payee 1):: .int .u8 (gt x.Spend.Context.Payee 2):: .int .u8 (gt x.Spend.Context.Payee 3):: .int .u8 (gt x.Spend.Context.Payee 4):: .int .u8 (gt x.Spend.Context.Payee 5):: .int .u8 (gt x.Spend.Context.Payee 6):: .int .u8 (gt x.Spend.Context.Payee 7):: .int .u8 (gt x.Spend.Context.Payee 8):: .int .u8 (gt x.Spend.Context.Payee 9):: .int .u8 (gt x.Spend.Context.Payee 10):: .int .u8 (gt x.Spend.Context.Payee 11):: .int .u8 (gt x.Spend.Context.Payee 12):: .int .u8 (gt x.Spend.Context.Payee 13):: .int .u8 (gt x.Spend.Context.Payee 14):: .int .u8 (gt x.Spend.Context.Payee 15):: .int .u8 (gt x.Spend.Context.Payee 16):: .int .u8 (gt x.Spend.Context.Payee 17):: .int .u8 (gt x.Spend.Context.Payee 18):: .int .u8 (gt x.Spend.Context.Payee 19):: .int .u8 (gt x.Spend.Context.Payee 20):: .int .u8 (gt x.Spend.Context.Payee 21):: .int .u8 (gt x.Spend.Context.Payee 22):: .int .u8 (gt x.Spend.Context.Payee 23):: .int .u8 (gt x.Spend.Context.Payee 24):: .int .u8 (gt x.Spend.Context.Payee 25):: .int .u8 (gt x.Spend.Context.Payee 26):: .int .u8 (gt x.Spend.Context.Payee 27):: .int .u8 (gt x.Spend.Context.Payee 28):: .int .u8 (gt x.Spend.Context.Payee 29):: .int .u8 (gt x.Spend.Context.Payee 30):: .int .u8 (gt x.Spend.Context.Payee 31):: .int .i64 x.Spend.Context.Time:: .int .i64 x.Spend.Context.Number:: .sl none 3 true (x.Spend.Leaves.map dD):: .int .i64 x.Spend.Path.Index:: .sl none 32 true (x.Spend.Path.L.map aF):: .int .i64 x.Leaf::[])
attribute [go_sem] fD
def ga (x:ce):V:= .agg (.int .u8 (gt x.State 0):: .int .u8 (gt x.State 1):: .int .u8 (gt x.State 2):: .int .u8 (gt x.State 3):: .int .u8 (gt x.State 4):: .int .u8 (gt x.State 5):: .int .u8 (gt x.State 6):: .int .u8 (gt x.State 7):: .int .u8 (gt x.State 8):: .int .u8 (gt x.State 9):: .int .u8 (gt x.State 10):: .int .u8 (gt x.State 11):: .int .u8 (gt x.State 12):: .int .u8 (gt x.State 13):: .int .u8 (gt x.State 14):: .int .u8 (gt x.State 15):: .int .u8 (gt x.State 16):: .int .u8 (gt x.State 17):: .int .u8 (gt x.State 18):: .int .u8 (gt x.State 19):: .int .u8 (gt x.State 20):: .int .u8 (gt x.State 21):: .int .u8 (gt x.State 22):: .int .u8 (gt x.State 23):: .int .u8 (gt x.State 24):: .int .u8 (gt x.State 25):: .int .u8 (gt x.State 26):: .int .u8 (gt x.State 27):: .int .u8 (gt x.State 28):: .int .u8 (gt x.State 29):: .int .u8 (gt x.State 30):: .int .u8 (gt x.State 31):: .int .i64 x.Count::[])
attribute [go_sem] ga
def nb (a b:bv):Bool:=(a.Bank==b.Bank&&(a.Epoch==b.Epoch&&(a.Denom==b.Denom&&(a.Depth==b.Depth&&(a.A==b.A&&((gt a.Root 0)==(gt b.Root 0)&&((gt a.Root 1)==(gt b.Root 1)&&((gt a.Root 2)==(gt b.Root 2)&&((gt a.Root 3)==(gt b.Root 3)&&((gt a.Root 4)==(gt b.Root 4)&&((gt a.Root 5)==(gt b.Root 5)&&((gt a.Root 6)==(gt b.Root 6)&&((gt a.Root 7)==(gt b.Root 7)&&((gt a.Root 8)==(gt b.Root 8)&&((gt a.Root 9)==(gt b.Root 9)&&((gt a.Root 10)==(gt b.Root 10)&&((gt a.Root 11)==(gt b.Root 11)&&((gt a.Root 12)==(gt b.Root 12)&&((gt a.Root 13)==(gt b.Root 13)&&((gt a.Root 14)==(gt b.Root 14)&&((gt a.Root 15)==(gt b.Root 15)&&((gt a.Root 16)==(gt b.Root 16)&&((gt a.Root 17)==(gt b.Root 17)&&((gt a.Root 18)==(gt b.Root 18)&&((gt a.Root 19)==(gt b.Root 19)&&((gt a.Root 20)==(gt b.Root 20)&&((gt a.Root 21)==(gt b.Root 21)&&((gt a.Root 22)==(gt b.Root 22)&&((gt a.Root 23)==(gt b.Root 23)&&((gt a.Root 24)==(gt b.Root 24)&&((gt a.Root 25)==(gt b.Root 25)&&((gt a.Root 26)==(gt b.Root 26)&&((gt a.Root 27)==(gt b.Root 27)&&((gt a.Root 28)==(gt b.Root 28)&&((gt a.Root 29)==(gt b.Root 29)&&((gt a.Root 30)==(gt b.Root 30)&&((gt a.Root 31)==(gt b.Root 31)&&(a.Sign.Z==b.Sign.Z&&(a.Sign.A==b.Sign.A&&(a.Sign.B==b.Sign.B&&a.Sign.R==b.Sign.R))))))))))))))))))))))))))))))))))))))))
attribute [go_sem] nb
def nc (a b:fC):Bool:=(a.Level==b.Level&&a.Index==b.Index)
attribute [go_sem] nc
def lM (a b:dR):Bool:=(a.B==b.B&&(a.R1==b.R1&&a.R2==b.R2))
attribute [go_sem] lM
def lN (a b:bZ):Bool:=(a.Kind==b.Kind&&(a.A==b.A&&a.B==b.B))
attribute [go_sem] lN
def CP:V:= .agg (.int .u8 0:: .int .u8 0:: .int .u8 0:: .int .u8 0:: .int .u8 0:: .int .u8 0:: .int .u8 0:: .int .u8 0:: .int .u8 0:: .int .u8 0:: .int .u8 0:: .int .u8 0:: .int .u8 0:: .int .u8 0:: .int .u8 0:: .int .u8 0:: .int .u8 0:: .int .u8 0:: .int .u8 0:: .int .u8 0:: .int .u8 0:: .int .u8 0:: .int .u8 0:: .int .u8 0:: .int .u8 0:: .int .u8 0:: .int .u8 0:: .int .u8 0:: .int .u8 0:: .int .u8 0:: .int .u8 0:: .int .u8 0:: .int .i64 0:: .int .i64 0:: .int .i64 0::[])
attribute [go_sem] CP
def xk (x:aP):V:= .agg [.int .i64 x.P,.int .i64 x.Q,.int .i64 x.G]
attribute [go_sem] xk
def xl (x:ip):V:= .agg [.int .i64 x.H,.int .i64 x.H1,.int .i64 x.H2]
attribute [go_sem] xl
end Go.Proofs.YteibkofekpejgaaGreatDoor
