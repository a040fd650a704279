/- Texts of this proof, one after the other: V9, VD, VR, VW, VX, VY. -/
import Derived.Test.YtiknkaadhomeiaaGreatDoorZ2
import Derived.RangeFuncNested
import Derived.RangeFuncLeaves
import Derived.RangeFuncFrom
set_option linter.unusedVariables false
set_option linter.unusedSimpArgs false
namespace Go.Proofs.YtiknkaadhomeiaaGreatDoor
open Go.RowKit
def bf (E:Env) (c0 c:Cx) (ρ:Ro) (S:St) (F:Fm):Prop:=Sim E c0 c ρ S F∧vm ρ S.nx
def HOk (c c':Cx) (ρ:Ro) (H:List Blk):Prop:=
 (∀i b,H[i]? =some b→(∃T n g z l,b= .own T n g z l)∧blkOk c c' ρ i b)∧(∀i,H.length≤i→ρ i=none)∧
  ∀i j bi bj k,i≠j→H[i]? =some bi→H[j]? =some bj→am ρ i=some k→am ρ j≠some k
def vG (E:Env) (c:Cx) (r:V) (H:List Blk):Ending→World→Prop:=fun e w'=> ∃v c' ρ,e= .returned v∧c'.w=w'∧c.le c'∧rd ρ c' r v∧HOk c c' ρ H
def a8 (E:Env) (f:FuncId) (ws:List V) (r:V) (H:List Blk):Prop:=
 (∀aas w,(callFunc f aas).run E.P w= .ok (.enter f aas) w)∧ ∀(c:Cx) (us:List Value),c.Y=[]→Gl E c→rdT ro0 c ws us→Calls E.P f us.toArray c.w (vG E c r H)
def zR (E:Env) (p:Cx→Value→Prop) (ws:List V) (r:V):Prop:=
 ∀(c:Cx) (u:Value) (us:List Value),c.Y=[]→Gl E c→p c u→rdT ro0 c ws us→ ∃f fs cap,u= .func (.func f) (List.toArray fs) (List.toArray cap)∧(∀aas w,(callFunc f aas).run E.P w= .ok (.enter f aas) w)∧Calls E.P f (fs++us++cap).toArray c.w (vG E c r [])
mutual
def shift (n:Nat):V→V
 | .own i=> .own (n+i)
 | .ptr i o=> .ptr (n+i) o
 | .optr i m k o=> .optr (n+i) m k o
 | .osub i m k o=> .osub (n+i) m k o
 | .agg l=> .agg (jF n l)
 | .tup l=> .tup (jF n l)
 | .fn f l=> .fn f (jF n l)
 | v=>v
def jF (n:Nat):List V→List V
 | []=> []
 | d::l=>shift n d::jF n l
end
def g8 (n:Nat):Nat→List Blk→List (Nat×Blk)
 | _,[]=> []
 | i,b::l=>(n+i,b)::g8 n (i+1) l
def St.after (S:St) (d:Option Nat) (r:V) (H:List Blk):St:=St.put {S with H:=g8 S.nx 0 H++S.H,nx:=S.nx+H.length} d (shift S.nx r)
mutual
def dA:V→Prop
 | .int _ _=>True
 | .bool _=>True
 | .str _=>True
 | .agg l=>gx l
 | .tup l=>gx l
 | _=>False
def gx:List V→Prop
 | []=>True
 | d::l=>dA d∧gx l
end
def Cx.base (c0 c:Cx) (h:c0.w.heap.size≤c.w.heap.size):Cx:={X:=c0.X.filter (fun k=>k∉c0.Y),w:=c.w,ok:=fun k hk=>Nat.lt_of_lt_of_le (c0.ok k (List.mem_filter.1 hk).1) h}
theorem pf {c0 c:Cx} {h:c0.w.heap.size≤c.w.heap.size} {k:Nat}:k∈(c0.base c h).X↔k∈c0.X∧k∉c0.Y:=by simp [Cx.base]
def pg (E:Env) (S:St) (vs:List V) (S1:St) (ws:List V):Prop:=
 ∀c0 c ρ F us,bf E c0 c ρ S F→rdT ρ c vs us→ ∃c1 ρ1,c1.w=c.w∧c.pub c1∧bf E c0 c1 ρ1 S1 F∧rdT ro0 c1 ws us
def rD (E:Env) (S:St) (vs:List V) (ws:List V):Prop:=
 ∀c0 c ρ F us (h:Sim E c0 c ρ S F),rdT ρ c vs us→rdT ro0 (c0.base c h.since.size) ws us
def vH (E:Env) (C:List V→V→List Blk→Prop) (vs:List V) (S:St) (d:Option Nat) (K:St→Prop):Prop:=
 ∃ws r H,C ws r H∧((∃S1,pg E S vs S1 ws∧(wfV r→K (S1.after d r H)))∨(dA r∧H=[]∧rD E S vs ws∧(wfV r→K (S.put d r))))
def evs (E:Env) (S:St):List Operand→List TypeId→Option (List V)
 | [],_=>some []
 | x::l,Ts=>match S.evT E (Ts.headD 0) x,evs E S l Ts.tail with
  | some v,some vs=>some (v::vs)
  | _,_=>none
def Gm (E:Env) (f:FuncId) (vs:List V) (S:St) (d:Option Nat) (K:St→Prop):Prop:=
 (∀aas w,(callFunc f aas).run E.P w= .ok (.enter f aas) w)∧ ∃S' r,(∀c0 c ρ F us,bf E c0 c ρ S F→rdT ρ c vs us→Calls E.P f us.toArray c.w fun e w'=> ∃v c' ρ',e= .returned v∧c'.w=w'∧bf E c0 c' ρ' S' (cn F d v)∧wfV r)∧(wfV r→K S')
def vI (E:Env) (S:St) (d:Option Nat) (K:St→Prop):Option V→Option (List V)→Prop
 | some (.fn f caps),some vs=>vH E (a8 E f) (vs++caps) S d K∨Gm E f (vs++caps) S d K
 | some (.opq p),some vs=>vH E (fun ws r H=>zR E p ws r∧H=[]) vs S d K
 | _,_=>False
def i4:Op→Option (Operand×List Operand×List TypeId)
 | .call c=>match c.callee with
  | .value x=>some (x,c.args.toList,c.argTypes.toList)
  | _=>none
 | _=>none
def rE (S:St) (nid:Nat) (d:Option Nat) (K:St→Prop):Res→Prop
 | some (c,v,e)=>c∧(c→K ((S.eff nid e).put d v))
 | none=>False
def vJ (E:Env) (S:St) (o:Oper) (K:St→Prop):Prop:=
 match i4 o.op with
 | some (x,l,Ts)=>vI E S o.dst K (S.ev E.gv x) (evs E S l Ts)
 | none=>rE S S.nx o.dst K (opF E S S.nx o.type o.op)
def gy (b w:Bool) (A B:Prop):Prop:=(b=w→A)∧(b=(!w)→B)
def eP (v:Option V) (want:Bool) (A B:Prop):Prop:=match v with
 | some (.bool b)=>gy b want A B
 | some (.tup [])=>B
 | _=>False
def vK (S:St) (ds:List (Nat×Nat)) (o:Oper) (A B:Prop):Prop:=
 match o.guard with
 | none=>A
 | some (j,want)=>match al ds j with
  | some t=>eP (al S.F t) want A B
  | none=>False
def kG (i:Nat) (d:Option Nat) (ds:List (Nat×Nat)):List (Nat×Nat):=
 match d with
 | some t=>(i,t)::ds
 | none=>ds
def i5 (E:Env):Nat→List (Nat×Nat)→List Oper→(St→Prop)→St→Prop
 | _,_,[],K,S=>K S
 | i,ds,o::l,K,S=>vK S ds o (vJ E S o (i5 E (i+1) (kG i o.dst ds) l K)) (i5 E (i+1) (kG i o.dst ds) l K (S.put o.dst (.tup [])))
section
variable {E:Env} {c0 c:Cx} {ρ:Ro} {S:St} {F:Fm} {nid:Nat}
theorem Gn {e:Eff} {ρ':Ro} (hf:vm ρ S.nx) (h: ∀i,S.nx≠i→ρ i=none→ρ' i=none) (hr:e= .none∨(∃id b,e= .upd id b)∨(∃id b,e= .app id b)∨(∃id b,e= .giv id b)∨(∃id b,e= .mrk id b)→ρ' S.nx=none):vm ρ' (S.eff S.nx e).nx:=by
 intro i hi
 cases e with
 | new b=>simp only [St.eff] at hi;exact h i (by omega) (hf i (by omega))
 | none=>
  simp only [St.eff] at hi
  by_cases e:S.nx=i
  ·subst e;exact hr (.inl rfl)
  ·exact h i e (hf i hi)
 | upd id b=>
  simp only [St.eff] at hi
  by_cases e:S.nx=i
  ·subst e;exact hr (.inr (.inl ⟨_,_,rfl⟩))
  ·exact h i e (hf i hi)
 | app id b=>
  simp only [St.eff] at hi
  by_cases e:S.nx=i
  ·subst e;exact hr (.inr (.inr (.inl ⟨_,_,rfl⟩)))
  ·exact h i e (hf i hi)
 | giv id b=>
  simp only [St.eff] at hi
  by_cases e:S.nx=i
  ·subst e;exact hr (.inr (.inr (.inr (.inl ⟨_,_,rfl⟩))))
  ·exact h i e (hf i hi)
 | mrk id b=>
  simp only [St.eff] at hi
  by_cases e:S.nx=i
  ·subst e;exact hr (.inr (.inr (.inr (.inr ⟨_,_,rfl⟩))))
  ·exact h i e (hf i hi)
theorem Gp (h:bf E c0 c ρ S F) {e:Eff} {c':Cx} {ρ':Ro} (hp:vo S e) (hr:vn c0 c ρ S.nx c' ρ' e):bf E c0 c' ρ' (S.eff S.nx e) F:=by
 obtain ⟨h1,h2,h3⟩:=Ft h.1 (h.2 _ (Nat.le_refl _)) hp hr
 refine ⟨h1,Gn h.2 h3 ?_⟩
 rintro (rfl|⟨id,b,rfl⟩|⟨id,b,rfl⟩|⟨id,b,rfl⟩|⟨id,b,rfl⟩)
 ·rw [hr.2];exact h.2 _ (Nat.le_refl _)
 ·rw [hr.2.1];exact h.2 _ (Nat.le_refl _)
 rotate_left
 ·rw [hr.1];exact h.2 _ (Nat.le_refl _)
 ·rw [hr.1];exact h.2 _ (Nat.le_refl _)
 ·obtain ⟨b0,hb0,hp0,_⟩:=hp
  have hid:S.nx≠id:=by
   rintro rfl
   have h5:=h.1.heap _ _ hb0
   have h6:=h.2 _ (Nat.le_refl S.nx)
   cases b0 with
   | var n g d=>obtain ⟨b,h5,_⟩:=h5;rw [h6] at h5;cases h5
   | own E n g z l=>obtain ⟨b,h5,_⟩:=h5;rw [h6] at h5;cases h5
   | ownI E n g z l=>obtain ⟨b,h5,_⟩:=h5;rw [h6] at h5;cases h5
   | pvar n g d=>cases hp0
   | pown n g z l=>cases hp0
   | lent k' n g d=>obtain ⟨h5,_⟩:=h5;rw [h6] at h5;cases h5
   | kset g k' n l=>obtain ⟨b,h5,_⟩:=h5;rw [h6] at h5;cases h5
  rw [hr.2.1 _ hid];exact h.2 _ (Nat.le_refl _)
theorem ph (h:bf E c0 c ρ S F) {d:Option Nat} {v:V} {u:Value} (hv:rd ρ c v u):bf E c0 c ρ (S.put d v) (cn F d u):=by
 refine ⟨Fu h.1 hv,?_⟩
 cases d<;>exact h.2
mutual
theorem vL {ρ':Ro} {n:Nat} (k: ∀i v,ρ i=some v→ρ' (n+i)=some v): ∀{d:V} {v:Value},rd ρ c d v→rd ρ' c (shift n d) v
 | .int _ _,_,h=>h
 | .bool _,_,h=>h
 | .ifc _,_,h=>h
 | .str _,_,h=>h
 | .agg l,v,h=>by
  simp only [rd,shift] at h⊢
  obtain ⟨cs,e,h⟩:=h
  exact ⟨cs,e,zS k h⟩
 | .sl z n g l,v,h=>h
 | .pp n g d,v,h=>h
 | .own _,_,h=>⟨k _ _ h.1,h.2⟩
 | .ptr _ _,_,h=>by
  simp only [rd,shift] at h⊢
  obtain ⟨b,h1,h2⟩:=h
  exact ⟨b,k _ _ h1,h2⟩
 | .optr _ _ _ _,_,h=>by
  simp only [rd,shift] at h⊢
  obtain ⟨u,h1,h2⟩:=h
  exact ⟨u,k _ _ h1,h2⟩
 | .osub _ _ _ _,_,h=>by
  simp only [rd,shift] at h⊢
  obtain ⟨u,h1,h2⟩:=h
  exact ⟨u,k _ _ h1,h2⟩
 | .tup l,v,h=>by
  simp only [rd,shift] at h⊢
  obtain ⟨cs,e,h⟩:=h
  exact ⟨cs,e,vM k h⟩
 | .fn f l,v,h=>by
  simp only [rd,shift] at h⊢
  obtain ⟨cs,e,h⟩:=h
  exact ⟨cs,e,vM k h⟩
 | .opq p,v,h=>h
 | .un,_,_=>trivial
theorem zS {ρ':Ro} {n:Nat} (k: ∀i v,ρ i=some v→ρ' (n+i)=some v): ∀{l:List V} {cs:List Value},rdC ρ c l cs→rdC ρ' c (jF n l) cs
 | [],_,h=>h
 | d::l,cs,h=>by
  simp only [rdC,jF] at h⊢
  obtain ⟨u,c2,e,h1,h2,h3⟩:=h
  exact ⟨u,c2,e,h1,vL k h2,zS k h3⟩
theorem vM {ρ':Ro} {n:Nat} (k: ∀i v,ρ i=some v→ρ' (n+i)=some v): ∀{l:List V} {cs:List Value},rdT ρ c l cs→rdT ρ' c (jF n l) cs
 | [],_,h=>h
 | d::l,cs,h=>by
  simp only [rdT,jF] at h⊢
  obtain ⟨u,c2,e,h2,h3⟩:=h
  exact ⟨u,c2,e,vL k h2,vM k h3⟩
end
mutual
theorem pi {ρ':Ro} {c':Cx}: ∀{d:V} {v:Value},dA d→rd ρ c d v→rd ρ' c' d v
 | .int _ _,_,_,h=>h
 | .bool _,_,_,h=>h
 | .str _,_,_,h=>h
 | .agg l,v,hp,h=>by
  simp only [rd,dA] at h hp⊢
  obtain ⟨cs,e,h⟩:=h
  exact ⟨cs,e,zT hp h⟩
 | .tup l,v,hp,h=>by
  simp only [rd,dA] at h hp⊢
  obtain ⟨cs,e,h⟩:=h
  exact ⟨cs,e,zU hp h⟩
 | .sl _ _ _ _,_,hp,_=>by simp only [dA] at hp
 | .pp _ _ _,_,hp,_=>by simp only [dA] at hp
 | .own _,_,hp,_=>by simp only [dA] at hp
 | .ptr _ _,_,hp,_=>by simp only [dA] at hp
 | .optr _ _ _ _,_,hp,_=>by simp only [dA] at hp
 | .osub _ _ _ _,_,hp,_=>by simp only [dA] at hp
 | .fn _ _,_,hp,_=>by simp only [dA] at hp
 | .ifc _,_,hp,_=>by simp only [dA] at hp
 | .opq _,_,hp,_=>by simp only [dA] at hp
 | .un,_,hp,_=>by simp only [dA] at hp
theorem zT {ρ':Ro} {c':Cx}: ∀{l:List V} {cs:List Value},gx l→rdC ρ c l cs→rdC ρ' c' l cs
 | [],_,_,h=>h
 | d::l,cs,hp,h=>by
  simp only [rdC,gx] at h hp⊢
  obtain ⟨u,c2,e,h1,h2,h3⟩:=h
  exact ⟨u,c2,e,h1,pi hp.1 h2,zT hp.2 h3⟩
theorem zU {ρ':Ro} {c':Cx}: ∀{l:List V} {cs:List Value},gx l→rdT ρ c l cs→rdT ρ' c' l cs
 | [],_,_,h=>h
 | d::l,cs,hp,h=>by
  simp only [rdT,gx] at h hp⊢
  obtain ⟨u,c2,e,h2,h3⟩:=h
  exact ⟨u,c2,e,pi hp.1 h2,zU hp.2 h3⟩
end
theorem rF {n:Nat}: ∀{H:List Blk} {k i:Nat},al (g8 n k H) i=if n+k≤i then H[i - (n+k)]? else none
 | [],k,i=>by simp [g8,al]
 | b::H,k,i=>by
  simp only [g8,al,rF]
  by_cases h:n+k=i
  ·subst h;simp
  ·rw [if_neg h]
   by_cases h1:n+k≤i
   ·rw [if_pos h1,if_pos (by omega)]
    have:i - (n+k)=(i - (n+(k+1)))+1:=by omega
    rw [this,List.getElem?_cons_succ]
   ·rw [if_neg h1,if_neg (by omega)]
theorem np {α:Type}: ∀{l m:List (Nat×α)} {i:Nat},al (l++m) i=(match al l i with|some x=>some x|none=>al m i)
 | [],m,i=>rfl
 | (k,x)::l,m,i=>by
  simp only [List.cons_append,al]
  split
  ·rfl
  ·exact np
def gz (n:Nat) (ρ ρ':Ro):Ro:=fun i=>if i<n then ρ i else ρ' (i - n)
theorem Gq (h:bf E c0 c ρ S F) {c':Cx} (hle:c.le c') {r:V} {v:Value} {ρr:Ro} {H:List Blk} (hr:rd ρr c' r v) (hH:HOk c.noY c' ρr H) (d:Option Nat):bf E c0 c' (gz S.nx ρ ρr) (S.after d r H) (cn F d v):=by
 have hro:iX ρ (gz S.nx ρ ρr):=by
  intro i x hi
  have:i<S.nx:=by
   rcases Nat.lt_or_ge i S.nx with h1|h1
   ·exact h1
   ·rw [h.2 i h1] at hi;cases hi
  simp [gz,this,hi]
 have hj: ∀i,gz S.nx ρ ρr (S.nx+i)=ρr i:=fun i=>by
  have: ¬S.nx+i<S.nx:=by omega
  simp only [gz,if_neg this,Nat.add_sub_cancel_left]
 have hlt: ∀i,i<S.nx→gz S.nx ρ ρr i=ρ i:=fun i hi=>by simp [gz,hi]
 obtain ⟨hH1,hH2,hH3⟩:=hH
 have hold: ∀i b,al S.H i=some b→aW b=true→i<S.nx:=by
  intro i b hb hp
  rcases Nat.lt_or_ge i S.nx with h1|h1
  ·exact h1
  ·exfalso
   have h5:=h.1.heap _ _ hb
   have h6:=h.2 i h1
   cases b with
   | var n g d=>obtain ⟨b,h5,_⟩:=h5;rw [h6] at h5;cases h5
   | own E n g z l=>obtain ⟨b,h5,_⟩:=h5;rw [h6] at h5;cases h5
   | ownI E n g z l=>obtain ⟨b,h5,_⟩:=h5;rw [h6] at h5;cases h5
   | pvar n g d=>cases hp
   | pown n g z l=>cases hp
   | lent k' n g d=>obtain ⟨h5,_⟩:=h5;rw [h6] at h5;cases h5
   | kset g k' n l=>obtain ⟨b,h5,_⟩:=h5;rw [h6] at h5;cases h5
 have hnew: ∀j b,H[j]? =some b→blkOk c0 c' (gz S.nx ρ ρr) (S.nx+j) b∧ ∀k,am (gz S.nx ρ ρr) (S.nx+j)=some k→c.w.heap.size≤k:=by
  intro j b hb
  obtain ⟨⟨T,n,g,z,l,rfl⟩,v',h1,h2,h3,h4,h5⟩:=hH1 j b hb
  refine ⟨⟨v',(hj j).trans h1,h2,fun k hk=> .inl (Nat.le_trans h.1.since.size (Cx.noY_mine (h3 k hk))),h4,h5⟩,?_⟩
  intro k hk
  obtain ⟨a,cap,rfl,_⟩:=h5
  unfold am at hk
  rw [hj j,h1] at hk
  exact Cx.noY_mine (h3 k hk)
 have hput: ∀(S':St),bf E c0 c' (gz S.nx ρ ρr) S' F→bf E c0 c' (gz S.nx ρ ρr) (S'.put d (shift S.nx r)) (cn F d v):=
  fun S' hS=>ph hS (vL (fun i x hi=>(hj i).trans hi) hr)
 refine hput _ ⟨⟨h.1.since.le hle,h.1.gl.mono hle.pub,fun t x ht=>dw hro (bA hle.pub (h.1.slot t x ht)),?_,?_⟩,?_⟩
 ·intro i b hb
  simp only [np,rF,Nat.add_zero] at hb
  by_cases h1:S.nx≤i
  ·rw [if_pos h1] at hb
   cases hq:H[i - S.nx]? with
   | some x=>
    rw [hq] at hb;cases hb
    have:=(hnew _ _ hq).1
    rwa [Nat.add_sub_cancel' h1] at this
   | none=>
    rw [hq] at hb
    exact nj hro (iY hle.chg (fun _ _ _ hx=>by cases hx) (h.1.heap i b hb))
  ·rw [if_neg h1] at hb
   exact nj hro (iY hle.chg (fun _ _ _ hx=>by cases hx) (h.1.heap i b hb))
 ·have key: ∀i b,al (g8 S.nx 0 H++S.H) i=some b→aW b=true→(∃j,i=S.nx+j∧H[j]? =some b)∨(i<S.nx∧al S.H i=some b):=by
   intro i b hb hp
   simp only [np,rF,Nat.add_zero] at hb
   by_cases h1:S.nx≤i
   ·rw [if_pos h1] at hb
    cases hq:H[i - S.nx]? with
    | some x=>rw [hq] at hb;cases hb;exact .inl ⟨i - S.nx,by omega,hq⟩
    | none=>rw [hq] at hb;have:=hold i b hb hp;omega
   ·rw [if_neg h1] at hb;exact .inr ⟨by omega,hb⟩
  intro i j bi bj k hij hbi hbj hpi hpj hk hk'
  rcases key i bi hbi hpi with ⟨i',rfl,hi'⟩|⟨hi',hbi'⟩<;>rcases key j bj hbj hpj with ⟨j',rfl,hj'⟩|⟨hj',hbj'⟩
  ·rw [cW (ρ:=fun x=>ρr (x - S.nx)) (by simp [hj])] at hk hk'
   refine hH3 i' j' bi bj k (by omega) hi' hj' ?_ ?_
   ·simpa [am] using hk
   ·simpa [am] using hk'
  ·have h1:=(hnew _ _ hi').2 k hk
   rw [cW (hlt j hj')] at hk'
   have:=fC hpj (h.1.heap j bj hbj') k hk'
   omega
  ·have h1:=(hnew _ _ hj').2 k hk'
   rw [cW (hlt i hi')] at hk
   have:=fC hpi (h.1.heap i bi hbi') k hk
   omega
  ·rw [cW (hlt i hi')] at hk
   rw [cW (hlt j hj')] at hk'
   exact h.1.sep i j bi bj k hij hbi' hbj' hpi hpj hk hk'
 ·intro i hi
  simp only at hi
  have: ¬i<S.nx:=by omega
  simp only [gz,this,if_false]
  exact hH2 _ (by omega)
theorem vN: ∀{l m:List V} {cs ds:List Value},rdT ρ c l cs→rdT ρ c m ds→rdT ρ c (l++m) (cs++ds)
 | [],m,cs,ds,h,h'=>by simp only [rdT] at h;subst h;simpa using h'
 | d::l,m,cs,ds,h,h'=>by
  simp only [rdT] at h
  obtain ⟨u,c2,e,h2,h3⟩:=h
  rw [e]
  simp only [List.cons_append,rdT]
  exact ⟨u,_,rfl,h2,vN h3 h'⟩
theorem rG (h:Sim E c0 c ρ S F): ∀{l:List Operand} {Ts:List TypeId} {vs:List V},evs E S l Ts=some vs→rdT ρ c vs (l.map (ev F))
 | [],_,_,he=>by simp only [evs,Option.some.injEq] at he;subst he;rfl
 | x::l,Ts,vs,he=>by
  simp only [evs] at he
  split at he
  ·rename_i v vs' h1 h2
   cases he
   simp only [List.map_cons,rdT]
   exact ⟨_,_,rfl,fq h h1,rG h h2⟩
  ·cases he
theorem HOk.nil {c':Cx}:HOk c c' ro0 []:=⟨by simp,fun _ _=>rfl,by simp⟩
theorem g9 (h:Sim E c0 c ρ S F):c.pub (c0.base c h.since.size):=⟨Nat.le_refl _,fun k hk hx=>⟨fun h'=>hx (h.since.X k (pf.1 h').1 (pf.1 h').2),fun _ h _=>h⟩⟩
theorem zV {C:List V→V→List Blk→Prop} {f:FuncId} {aas:List Value} {us:List Value} {vs:List V} {d:Option Nat} {K:St→Prop} (h:bf E c0 c ρ S F)
  (hC: ∀ws r H,C ws r H→ ∀c2:Cx,c2.Y=[]→c2.w=c.w→c.pub c2→Gl E c2→rdT ro0 c2 ws us→Calls E.P f aas.toArray c2.w (vG E c2 r H)) (hus:rdT ρ c vs us) (hk:vH E C vs S d K):
  Calls E.P f aas.toArray c.w fun e w'=> ∃v,e= .returned v∧ ∃c' ρ' S',c'.w=w'∧bf E c0 c' ρ' S' (cn F d v)∧K S':=by
 obtain ⟨ws,r,H,hc,hk⟩:=hk
 rcases hk with ⟨S1,hg,hk⟩|⟨hfl,rfl,hl,hk⟩
 ·obtain ⟨c1,ρ1,hw,hpb,hS,hrd⟩:=hg c0 c ρ F us h hus
  have:=hC ws r H hc c1.noY rfl hw (hpb.trans (Cx.pub_noY c1)) (hS.1.gl.mono (Cx.pub_noY c1)) (fo (Cx.pub_noY c1) hrd)
  rw [show c1.noY.w=c.w from hw] at this
  refine this.mono ?_
  rintro e w' ⟨v,c',ρr,rfl,rfl,hle,hr,hH⟩
  exact ⟨v,rfl,c',_,_,rfl,Gq hS ⟨hle.below,hle.old⟩ hr hH d,hk (jB hr)⟩
 ·have hrd:=hl c0 c ρ F us h.1 hus
  have hpb:=g9 h.1
  have:=hC ws r [] hc (c0.base c h.1.since.size) rfl rfl hpb (h.1.gl.mono hpb) hrd
  refine (show Calls E.P f aas.toArray c.w _ from this).mono ?_
  rintro e w' ⟨v,c',ρr,rfl,rfl,hle,hr,hH⟩
  have hb:Below c.w.heap.size c.w c'.w:=hle.below
  have hle':c.le (c.at c'.w hb.size):=Cx.le_at hb
  refine ⟨v,rfl,c.at c'.w hb.size,ρ,S.put d r,rfl,?_,hk (jB hr)⟩
  have hS:bf E c0 (c.at c'.w hb.size) ρ S F:=by
   refine ⟨⟨h.1.since.le hle',h.1.gl.mono hle'.pub,fun t x ht=>bA hle'.pub (h.1.slot t x ht),?_,h.1.sep⟩,h.2⟩
   intro i b hb'
   exact iY hle'.chg (fun _ _ _ hx=>by cases hx) (h.1.heap i b hb')
  exact ph hS (pi hfl hr)
theorem nq {P:Program} {o:Oper} {cl:Call} {x:Operand} {f:FuncId} {cap:List Value} {w:World} (ho:o.op= .call cl) (hx:cl.callee= .value x) (hv:ev F x= .func (.func f) #[] cap.toArray)
  (hc: ∀aas w,(callFunc f aas).run P w= .ok (.enter f aas) w):run P F o w= .ok (.enter f (cl.args.toList.map (ev F)++cap).toArray) w:=by
 obtain ⟨callee,args,ats⟩:=cl
 obtain ⟨args⟩:=args
 simp only at hx
 subst hx
 simp only [run,execOp,ho,resolve,hv,Deferred.ofValue,invoke,Sem.run_bind,Sem.run_pure,Result.andThen_ok,List.map_toArray,hc]
 congr 2
 simp
theorem Gr {P:Program} {o:Oper} {cl:Call} {x:Operand} {f:FuncId} {fs cap:List Value} {w:World} (ho:o.op= .call cl) (hx:cl.callee= .value x) (hv:ev F x= .func (.func f) fs.toArray cap.toArray)
  (hc: ∀aas w,(callFunc f aas).run P w= .ok (.enter f aas) w):run P F o w= .ok (.enter f (fs++cl.args.toList.map (ev F)++cap).toArray) w:=by
 obtain ⟨callee,args,ats⟩:=cl
 obtain ⟨args⟩:=args
 simp only at hx
 subst hx
 simp only [run,execOp,ho,resolve,hv,Deferred.ofValue,invoke,Sem.run_bind,Sem.run_pure,Result.andThen_ok,List.map_toArray,hc]
 congr 2
 simp
def Gs (E:Env) (c0:Cx) (F:Fm) (d:Option Nat) (K:St→Prop) (v:Value) (w':World):Prop:= ∃c' ρ' S',c'.w=w'∧bf E c0 c' ρ' S' (cn F d v)∧K S'
theorem Gt (hE:bh E) (h:bf E c0 c ρ S F) {o:Oper} {K:St→Prop} (hk:vJ E S o K):aB E.P (Gs E c0 F o.dst K) (run E.P F o c.w):=by
 unfold vJ at hk
 split at hk
 ·rename_i x l Ts hi
  have hop: ∃cl,o.op= .call cl∧cl.callee= .value x∧cl.args.toList=l:=by
   unfold i4 at hi
   split at hi
   ·rename_i cl ho
    split at hi
    ·rename_i y hy
     simp only [Option.some.injEq,Prod.mk.injEq] at hi
     obtain ⟨rfl,h2,_⟩:=hi
     exact ⟨cl,ho,hy,h2⟩
    ·cases hi
   ·cases hi
  obtain ⟨cl,ho,hcl,rfl⟩:=hop
  unfold vI at hk
  split at hk
  ·rename_i f caps vs hx hvs
   have hf:=aP h.1 hx
   simp only [rd] at hf
   obtain ⟨cap,hf,hcap⟩:=hf
   have hus:=vN (rG h.1 hvs) hcap
   rcases hk with hk|⟨hent,S',r,hcalls,hk'⟩
   case inr=>
    rw [nq (F:=F) (w:=c.w) ho hcl hf hent]
    refine (hcalls c0 c ρ F _ h hus).mono ?_
    rintro e w' ⟨v,c',ρ',rfl,rfl,hS,hwf⟩
    exact ⟨v,rfl,c',ρ',S',rfl,hS,hk' hwf⟩
   obtain ⟨ws,r,H,hc,hk'⟩:=hk
   have hrun:=nq (F:=F) (w:=c.w) ho hcl hf hc.1
   rw [hrun]
   refine (zV (C:=a8 E f) h (fun ws r H hC c2 hY hw _ hg hr=>hC.2 c2 _ hY hg hr) hus ⟨ws,r,H,hc,hk'⟩).mono ?_
   rintro e w' ⟨v,rfl,h1⟩
   exact ⟨v,rfl,h1⟩
  ·rename_i p vs hx hvs
   have hf:=aP h.1 hx
   simp only [rd] at hf
   have hus:=rG h.1 hvs
   obtain ⟨hp,_,hgrow⟩:=hf
   obtain ⟨ws,r,H,⟨hfn,hH⟩,hk'⟩:=hk
   have hshape: ∃f fs cap,ev F x= .func (.func f) (List.toArray fs) (List.toArray cap)∧ ∀aas w,(callFunc f aas).run E.P w= .ok (.enter f aas) w:=by
    rcases hk' with ⟨S1,hg,_⟩|⟨_,_,hl,_⟩
    ·obtain ⟨c1,ρ1,hw,hpb,hS,hrd⟩:=hg c0 c ρ F _ h hus
     obtain ⟨f,fs,cap,e1,e2,_⟩:=hfn c1.noY _ _ rfl (hS.1.gl.mono (Cx.pub_noY c1)) (hgrow _ _ _ hp (hpb.trans (Cx.pub_noY c1))) (fo (Cx.pub_noY c1) hrd)
     exact ⟨f,fs,cap,e1,e2⟩
    ·have hrd:=hl c0 c ρ F _ h.1 hus
     have hpb:=g9 h.1
     obtain ⟨f,fs,cap,e1,e2,_⟩:=hfn _ _ _ rfl (h.1.gl.mono hpb) (hgrow _ _ _ hp hpb) hrd
     exact ⟨f,fs,cap,e1,e2⟩
   obtain ⟨f,fs,cap,e1,e2⟩:=hshape
   have hrun:=Gr (F:=F) (w:=c.w) ho hcl e1 e2
   rw [hrun]
   refine (zV (C:=fun ws r H=>zR E p ws r∧H=[]) h (fun ws r H hC c2 hY hw hpb hg hr=> ?_) hus ⟨ws,r,H,⟨hfn,hH⟩,hk'⟩).mono ?_
   ·obtain ⟨hfn,rfl⟩:=hC
    obtain ⟨f',fs',cap',e3,_,hcalls⟩:=hfn c2 _ _ hY hg (hgrow _ _ _ hp hpb) hr
    rw [e1] at e3
    simp only [Value.func.injEq,Fn.func.injEq] at e3
    obtain ⟨rfl,e4,e6⟩:=e3
    have e5:cap=cap':=by simpa using e6
    have e7:fs=fs':=by simpa using e4
    subst e5 e7
    exact hcalls
   ·rintro e w' ⟨v,rfl,h1⟩
    exact ⟨v,rfl,h1⟩
  ·exact hk.elim
 ·unfold rE at hk
  split at hk
  ·rename_i cnd v e hr
   obtain ⟨hc,hk⟩:=hk
   refine (vF hE h.1 (h.2 _ (Nat.le_refl _)) hr hc).mono ?_
   rintro u w' ⟨c',ρ',rfl,hp,hrel,hrd⟩
   exact ⟨c',ρ',_,rfl,ph (Gp h hp hrel) hrd,hk hc⟩
  ·exact hk.elim
def pj (ops:Array Oper) (i:Nat) (ds:List (Nat×Nat)):Prop:= ∀j t,al ds j=some t→j<i∧(ops[j]?).bind (·.dst)=some t
theorem Gu {ops:Array Oper} {i:Nat} {ds:List (Nat×Nat)} {o:Oper} (h:pj ops i ds) (ho:ops[i]? =some o):pj ops (i+1) (kG i o.dst ds):=by
 intro j t hj
 cases hd:o.dst with
 | none=>
  rw [hd] at hj
  have:=h j t hj
  exact ⟨by omega,this.2⟩
 | some d=>
  rw [hd] at hj
  simp only [kG,al] at hj
  split at hj
  ·rename_i e;subst e;cases hj
   exact ⟨by omega,by rw [ho];exact hd⟩
  ·have:=h j t hj
   exact ⟨by omega,this.2⟩
theorem Gv (h:bf E c0 c ρ S F) {ops:Array Oper} {i:Nat} {ds:List (Nat×Nat)} {o:Oper} {A B:Prop} (hds:pj ops i ds) (hk:vK S ds o A B):(eM ops F o=true∧A)∨(eM ops F o=false∧B):=by
 unfold vK at hk
 unfold eM
 cases hg:o.guard with
 | none=>rw [hg] at hk;exact .inl ⟨rfl,hk⟩
 | some p=>
  obtain ⟨j,want⟩:=p
  rw [hg] at hk
  simp only at hk
  cases hj:al ds j with
  | none=>rw [hj] at hk;exact hk.elim
  | some t=>
   rw [hj] at hk
   simp only at hk
   unfold eP at hk
   split at hk
   ·rename_i b hb
    have hv:=h.1.slot _ _ hb
    simp only [rd] at hv
    simp only [(hds j t hj).2,hv]
    by_cases e:b=want
    ·exact .inl ⟨by simp [e],hk.1 e⟩
    ·exact .inr ⟨by simp [e],hk.2 (by cases b<;>cases want<;>simp_all)⟩
   ·rename_i hb
    have hv:=h.1.slot _ _ hb
    simp only [rd] at hv
    obtain ⟨cs,hv,_⟩:=hv
    simp only [(hds j t hj).2,hv]
    exact .inr ⟨by simp,hk⟩
   ·exact hk.elim
def vO [mo:Mo] (E:Env) (c0:Cx) (n:Nat) (K:St→Prop) (Q:Act→World→Prop):Prop:= ∀c ρ S F a,bf E c0 c ρ S F→Fr n F a→K S→Q a c.w
theorem vP [mo:Mo] (hE:bh E) {n:Nat} {ops:Array Oper} (hs:gn n ops=true) {K:St→Prop} {Q:Exit→Act→World→Prop} (hQ:vO E c0 n K (Q .normal)):
  ∀(l pre:List Oper) (ds:List (Nat×Nat)),ops.toList=pre++l→pj ops pre.length ds→ ∀c ρ S F a,bf E c0 c ρ S F→Fr n F a→i5 E pre.length ds l K S→
   dR E.P ops Q (List.range' pre.length l.length) a c.w
 | [],pre,ds,hl,hds,c,ρ,S,F,a,h,hf,hk=>by
  simp only [List.length_nil,List.range'_zero,dR,wpOpsIn]
  exact hQ c ρ S F a h hf hk
 | o::l,pre,ds,hl,hds,c,ρ,S,F,a,h,hf,hk=>by
  have ho:ops[pre.length]? =some o:=by
   rw [←Array.getElem?_toList,hl,List.getElem?_append_right (Nat.le_refl _)]
   simp
  have ih:=vP hE hs hQ l (pre++[o]) (kG pre.length o.dst ds) (by rw [hl];simp) (by simpa using Gu hds ho)
  simp only [List.length_append,List.length_cons,List.length_nil] at ih
  simp only [i5] at hk
  rw [List.length_cons,List.range'_succ]
  refine yt hs hf ho ?_
  rcases Gv h hds hk with ⟨hg,hk⟩|⟨hg,hk⟩
  ·rw [if_pos hg]
   refine (Gt hE h hk).mono ?_
   rintro v w' ⟨c',ρ',S',rfl,hS,hk⟩ a' hf'
   exact ih c' ρ' S' _ a' hS hf' hk
  ·rw [if_neg (by simp [hg])]
   intro a' hf'
   exact ih c ρ _ _ a' (ph h (show rd ρ c (.tup []) undef from ⟨[],rfl,rfl⟩)) hf' hk
end
end Go.Proofs.YtiknkaadhomeiaaGreatDoor
namespace Go.Proofs.YtiknkaadhomeiaaGreatDoor
open Go.RowKit
structure aY where
  d:Option Nat
  v:V
  b:Option (Nat×Blk)
def bp:List Nat→Nat→Bool
  | [],_=>false
  | k::l,i=>if k=i then true else bp l i
def eD (ns:Nat→Bool):List (Nat×aY)→List (Nat×V)
  | []=> []
  | (j,r)::R=>match ns j,r.d with
    | true,some t=>(t,r.v)::eD ns R
    | _,_=>eD ns R
def c7 (ns:Nat→Bool):List (Nat×aY)→List (Nat×Blk)
  | []=> []
  | (j,r)::R=>match ns j,r.b with
    | true,some b=>b::c7 ns R
    | _,_=>c7 ns R
def jG (ub:List (Nat×Nat)) (need:List (List Nat)) (i:Nat) (id:Nat):Bool:=match ub with
  | []=>false
  | (w,k)::l=>(decide (k=id)&&(!decide (w=i)&&(!bp (need.getD i []) w&& !bp (need.getD w []) i)))||jG l need i id
def jH (wl:List (Nat×Nat)) (need:List (List Nat)) (i t:Nat):Bool:=match wl with
  | []=>false
  | (w,k)::l=>(decide (k=t)&&bp (need.getD w []) i)||jH l need i t
def wrF (wl:List (Nat×Nat)) (need:List (List Nat)) (i:Nat):List Nat→List Nat
  | []=> []
  | t::l=>match jH wl need i t with
    | true=>wrF wl need i l
    | false=>t::wrF wl need i l
def wlB (ops:Array Oper) (m:Nat) (wl:List (Nat×Nat)):Bool:=wl.all fun p=>decide (p.1<m)&&decide (du ops p.1=some p.2)
def ee (ban:Nat→Bool):List (Nat×Blk)→List (Nat×Blk)
  | []=> []
  | (k,b)::H=>match ban k with
    | true=>ee ban H
    | false=>(k,b)::ee ban H
def bF:List (Nat×Nat)→Nat→Nat→Bool
  | [],_,_=>false
  | (w,k)::l,i,id=>(decide (w=i)&&decide (k=id))||bF l i id
def kH:Nat→Bool:=fun _=>false
def fD (ub:List (Nat×Nat)) (j:Nat) (b:Option (Nat×Blk)) (k:Nat):Bool:=match b with
  | some (k',_)=>bF ub j k&& !decide (k'=k)
  | none=>false
def eE (ub:List (Nat×Nat)) (ns:Nat→Bool):List (Nat×aY)→Nat→Bool
  | [],_=>false
  | (j,r)::R,k=>(ns j&&fD ub j r.b k)||eE ub ns R k
def cf (ub:List (Nat×Nat)) (need:List (List Nat)) (i:Nat) (R:List (Nat×aY)):Nat→Bool:=match ub with
  | []=>kH
  | p::l=>fun k=>jG (p::l) need i k||eE (p::l) (bp (need.getD i [])) R k
def fE (ub:List (Nat×Nat)) (R:List (Nat×aY)):Nat→Bool:=match ub with
  | []=>kH
  | p::l=>eE (p::l) (fun _=>true) R
def rH (_:Nat) (need:List (List Nat)) (n w k:Nat):Bool:=decide (n≤k)&&(decide (k - n=w)||(decide (k - n<w)&&bp (need.getD w []) (k - n)))
def ubB (m:Nat) (need:List (List Nat)):List (Nat×Nat)→Nat→Bool
  | [],_=>true
  | (w,k)::l,n=>(decide (k<n)||rH m need n w k)&&(l.all (fun p=> !decide (p.2=k))&&ubB m need l n)
def mi (wr:List Nat):List (Nat×V)→List (Nat×V)
  | []=> []
  | (t,v)::F=>if bp wr t=true then mi wr F else (t,v)::mi wr F
def cu (S0:St) (wr:List Nat) (ns:Nat→Bool) (ban:Nat→Bool) (R:List (Nat×aY)) (i:Nat):St:=⟨eD ns R++mi wr S0.F,ee ban (c7 ns R++S0.H),S0.nx+i⟩
def kI:Nat→Bool:=fun _=>true
def dsR:List (Nat×aY)→List (Nat×Nat)
  | []=> []
  | (j,r)::R=>match r.d with
    | some t=>(j,t)::dsR R
    | none=>dsR R
def Gw (E:Env) (S:St) (C:List V→V→Prop) (vs:List V) (K:V→Prop):Prop:=
  ∃ws r,C ws r∧((∀c ρ us,rdT ρ c vs us→rdT ro0 c ws us)∨(dA r∧rD E S vs ws))∧K r
def Gx (C:List V→Blk→Prop) (vs:List V) (K:Blk→Prop):Prop:=
  ∃ws T n g z l,C ws (.own T n g z l)∧(∀c ρ us,rdT ρ c vs us→rdT ro0 c ws us)∧K (.own T n g z l)
def zW (E:Env) (S:St) (ub:List (Nat×Nat)) (i:Nat) (f:FuncId) (vs:List V) (K:V→Nat→Blk→Prop):Prop:=
  (∀aas w,(callFunc f aas).run E.P w= .ok (.enter f aas) w)∧ ∃r id b,bF ub i id=true∧aW b=true∧(∃b0,al S.H id=some b0∧aW b0=true)∧
    (∀c0 c ρ F us,Sim E c0 c ρ S F→rdT ρ c vs us→Calls E.P f us.toArray c.w fun e w'=> ∃u c',e= .returned u∧c'.w=w'∧c.chg (am ρ id) c'∧blkOk c0 c' ρ id b∧rd ρ c' r u)∧K r id b
def inPlace (c c':Cx) (ρ:Ro) (id:Nat) (T n:Nat) (g:Bool) (z:Option Bool) (l:List V) (u:Value):Prop:=
  c.chg (am ρ id) c'∧Own c' T u (rV ro0 n g) l∧(∀k,blk u=some k→am ρ id=some k∨c.w.heap.size≤k)∧(g=false→n=1)∧ ∃a cap,u= .slice a l.length cap∧zOk z a cap
def zX (E:Env) (S:St) (ub:List (Nat×Nat)) (i:Nat) (f:FuncId) (vs:List V) (K:Blk→Prop):Prop:=
  (∀aas w,(callFunc f aas).run E.P w= .ok (.enter f aas) w)∧ ∃id T n g z l,(bF ub i id&& !decide (id=S.nx))=true∧(∃b0,al S.H id=some b0∧aW b0=true)∧
    (∀c0 c ρ F us,Sim E c0 c ρ S F→rdT ρ c vs us→Calls E.P f us.toArray c.w fun e w'=> ∃u c',e= .returned u∧c'.w=w'∧inPlace c c' ρ id T n g z l u)∧K (.own T n g z l)
def vQ (E:Env) (S:St) (ub:List (Nat×Nat)) (i:Nat) (d:Option Nat) (K:aY→Prop):Option V→Option (List V)→Prop
  | some (.fn f caps),some vs=>(Gw E S (fun ws r=>a8 E f ws r []) (vs++caps) (fun r=>K ⟨d,r,none⟩)∨Gx (fun ws b=>a8 E f ws (.own 0) [b]) (vs++caps) fun b=>K ⟨d,.own S.nx,some (S.nx,b)⟩)∨zW E S ub i f (vs++caps) (fun r id b=>K ⟨d,r,some (id,b)⟩)∨zX E S ub i f (vs++caps) (fun b=>K ⟨d,.own S.nx,some (S.nx,b)⟩)
  | _,_=>False
def pk (c:Prop) (nid:Nat) (K:V→Prop):V→Blk→Prop
  | .own k,.own _ n g z l=>decide (k=nid)=true∧c∧(c→K (.sl z n g l))
  | .own k,.pown n g z l=>decide (k=nid)=true∧c∧(c→K (.sl z n g l))
  | _,_=>False
def fX (ub:List (Nat×Nat)) (i nid:Nat) (d:Option Nat) (K:aY→Prop):Res→Prop
  | some (c,v,.none)=>c∧(c→K ⟨d,v,none⟩)
  | some (c,v,.new b)=>match bF ub i nid with
    | true=>pk c nid (fun v'=>K ⟨d,v',none⟩) v b
    | false=>match aW b with
      | true=>c∧(c→K ⟨d,v,some (nid,b)⟩)
      | false=>False
  | some (c,v,.upd id b)=>match bF ub i id&&aW b with
    | true=>c∧(c→K ⟨d,v,some (id,b)⟩)
    | false=>False
  | some (c,.own id',.app id (.own T n g z l))=>match decide (id'=id)&&(bF ub i id&& !decide (id=nid)) with
    | true=>c∧(c→K ⟨d,.own nid,some (nid,.own T n g z l)⟩)
    | false=>False
  | _=>False
def pm (E:Env) (S:St) (ub:List (Nat×Nat)) (i:Nat) (o:Oper) (K:aY→Prop):Prop:=
  match i4 o.op with
  | some (x,l,Ts)=>vQ E S ub i o.dst K (S.ev E.gv x) (evs E S l Ts)
  | none=>fX ub i S.nx o.dst K (opH E S S.nx o.type o.op)
def gb:V→Option (Option Bool)
  | .bool b=>some (some b)
  | .tup []=>some none
  | _=>none
def pn (ns:Nat→Bool) (R:List (Nat×aY)) (o:Oper) (A B:Prop):Prop:=
  match o.guard with
  | none=>A
  | some (j,want)=>match ns j,al R j with
    | true,some r=>match r.d with
      | some _=>eP (some r.v) want A B
      | none=>False
    | _,_=>False
def g_ (E:Env) (S0:St) (wr:List Nat) (wl:List (Nat×Nat)) (need:List (List Nat)) (ub:List (Nat×Nat)) (K:St→Prop):Nat→Nat→List Oper→List (Nat×aY)→Prop
  | 0,i,l,R=>i5 E i (dsR R) l K (cu S0 wr kI (fE ub R) R i)
  | _+1,_,[],_=>False
  | m+1,i,o::l,R=>pn (bp (need.getD i [])) R o (pm E (cu S0 (wrF wl need i wr) (bp (need.getD i [])) (cf ub need i R) R i) ub i o fun r=>g_ E S0 wr wl need ub K m (i+1) l ((i,r)::R)) (g_ E S0 wr wl need ub K m (i+1) l ((i,⟨o.dst,.tup [],none⟩)::R))
section
variable {E:Env} {c0 c:Cx} {ρ:Ro} {S S0:St} {F:Fm} {nid:Nat} {wr:List Nat} {wl:List (Nat×Nat)} {need:List (List Nat)} {ub:List (Nat×Nat)} {ops:Array Oper} {m:Nat}
theorem fF {l:List Nat} {i:Nat}:bp l i=true↔i∈l:=by
  induction l with
  | nil=>simp [bp]
  | cons k l ih=>
    simp only [bp,List.mem_cons]
    split
    · rename_i h;simp [h]
    · rename_i h;rw [ih];constructor
      · exact .inr
      · rintro (h'|h')
        · exact absurd h'.symm h
        · exact h'
theorem Gy {ns:Nat→Bool} {R:List (Nat×aY)} {t:Nat} {v:V} (h:(t,v)∈eD ns R): ∃j r,(j,r)∈R∧ns j=true∧r.d=some t∧r.v=v:=by
  induction R with
  | nil=>simp [eD] at h
  | cons p R ih=>
    obtain ⟨j,r⟩:=p
    simp only [eD] at h
    split at h
    · rename_i h1 h2
      rcases List.mem_cons.1 h with e|h
      · cases e;exact ⟨j,r,by simp,h1,h2,rfl⟩
      · obtain ⟨j',r',h3,h4⟩:=ih h;exact ⟨j',r',by simp [h3],h4⟩
    · obtain ⟨j',r',h3,h4⟩:=ih h;exact ⟨j',r',by simp [h3],h4⟩
theorem rI {ns:Nat→Bool} {R:List (Nat×aY)} {i:Nat} {b:Blk} (h:(i,b)∈c7 ns R): ∃j r,(j,r)∈R∧ns j=true∧r.b=some (i,b):=by
  induction R with
  | nil=>simp [c7] at h
  | cons p R ih=>
    obtain ⟨j,r⟩:=p
    simp only [c7] at h
    split at h
    · rename_i h1 h2
      rcases List.mem_cons.1 h with e|h
      · subst e;exact ⟨j,r,by simp,h1,h2⟩
      · obtain ⟨j',r',h3,h4⟩:=ih h;exact ⟨j',r',by simp [h3],h4⟩
    · obtain ⟨j',r',h3,h4⟩:=ih h;exact ⟨j',r',by simp [h3],h4⟩
theorem Gz {ns:Nat→Bool} {R:List (Nat×aY)} {i:Nat} (h:al (c7 ns R) i=none): ∀j r b,(j,r)∈R→ns j=true→r.b≠some (i,b):=by
  induction R with
  | nil=>intro j r b hm;simp at hm
  | cons p R ih=>
    obtain ⟨j0,r0⟩:=p
    intro j r b hm hn hb
    simp only [c7] at h
    split at h
    · rename_i b0 h1 h2
      obtain ⟨k0,b0⟩:=b0
      simp only [al] at h
      split at h
      · cases h
      · rename_i hne
        rcases List.mem_cons.1 hm with e|hm
        · cases e;rw [h2] at hb;cases hb;exact hne rfl
        · exact ih h j r b hm hn hb
    · rename_i hno
      rcases List.mem_cons.1 hm with e|hm
      · cases e;exact hno _ hn hb
      · exact ih h j r b hm hn hb
theorem po {ban:Nat→Bool} {H:List (Nat×Blk)} {i:Nat} {b:Blk} (h:al (ee ban H) i=some b):ban i=false∧al H i=some b:=by
  induction H with
  | nil=>simp [ee,al] at h
  | cons p H ih=>
    obtain ⟨k,x⟩:=p
    simp only [ee] at h
    split at h
    · rename_i hk
      obtain ⟨h1,h2⟩:=ih h
      refine ⟨h1,?_⟩
      simp only [al]
      rw [if_neg (fun e=>by subst e;rw [hk] at h1;cases h1)]
      exact h2
    · rename_i hk
      simp only [al] at h⊢
      split at h
      · rename_i e;subst e;exact ⟨hk,by rw [if_pos rfl];exact h⟩
      · rename_i e;rw [if_neg e];exact ih h
theorem rJ: ∀{ub:List (Nat×Nat)} {i id w:Nat},jG ub need i id=false→bF ub w id=true→w=i∨w∈need.getD i []∨i∈need.getD w []
  | [],_,_,_,_,h=>by simp [bF] at h
  | (w0,k)::l,i,id,w,h,hm=>by
    simp only [jG,Bool.or_eq_false_iff,Bool.and_eq_false_iff,Bool.not_eq_false',decide_eq_true_eq,decide_eq_false_iff_not] at h
    simp only [bF,Bool.or_eq_true,Bool.and_eq_true,decide_eq_true_eq] at hm
    rcases hm with ⟨rfl,rfl⟩|hm
    · rcases h.1 with h1|h1|h1|h1
      · exact absurd rfl h1
      · exact .inl h1
      · exact .inr (.inl (fF.1 h1))
      · exact .inr (.inr (fF.1 h1))
    · exact rJ h.2 hm
theorem vR {ns:Nat→Bool} {k:Nat}: ∀{R:List (Nat×aY)},eE ub ns R k=false→ ∀j r,(j,r)∈R→ns j=true→fD ub j r.b k=false
  | [],_,j,r,hm,_=>by cases hm
  | (j0,r0)::R,h,j,r,hm,hn=>by
    simp only [eE,Bool.or_eq_false_iff,Bool.and_eq_false_iff] at h
    rcases List.mem_cons.1 hm with e|hm
    · cases e
      rcases h.1 with h1|h1
      · rw [hn] at h1;cases h1
      · exact h1
    · exact vR h.2 j r hm hn
theorem GA {j k:Nat} {b:Option (Nat×Blk)}:fD [] j b k=false:=by
  unfold fD;split<;>simp [bF]
theorem vS {ns:Nat→Bool} {k:Nat}: ∀{R:List (Nat×aY)},eE [] ns R k=false
  | []=>rfl
  | (j,r)::R=>by simp [eE,GA,vS (R:=R)]
theorem vT {i k:Nat} {R:List (Nat×aY)} (h:cf ub need i R k=false):jG ub need i k=false∧eE ub (bp (need.getD i [])) R k=false:=by
  cases ub with
  | nil=>exact ⟨rfl,vS⟩
  | cons p l=>simpa [cf,Bool.or_eq_false_iff] using h
theorem GB {k:Nat} {R:List (Nat×aY)} (h:fE ub R k=false):eE ub (fun _=>true) R k=false:=by
  cases ub with
  | nil=>exact vS
  | cons p l=>exact h
theorem GC {j k:Nat} {b:Option (Nat×Blk)} (h:fD ub j b k=true):bF ub j k=true:=by
  unfold fD at h
  split at h
  · simp only [Bool.and_eq_true] at h;exact h.1
  · cases h
theorem vU: ∀{ub:List (Nat×Nat)} {n w id:Nat},ubB m need ub n=true→bF ub w id=true→id<n∨rH m need n w id=true
  | [],_,_,_,_,h=>by simp [bF] at h
  | (w0,k)::l,n,w,id,h,hm=>by
    simp only [ubB,Bool.and_eq_true,Bool.or_eq_true,decide_eq_true_eq] at h
    simp only [bF,Bool.or_eq_true,Bool.and_eq_true,decide_eq_true_eq] at hm
    rcases hm with ⟨rfl,rfl⟩|hm
    · exact h.1
    · exact vU h.2.2 hm
theorem zY {n w k:Nat} (h:rH m need n w k=true):n≤k∧(k - n=w∨(k - n<w∧k - n∈need.getD w [])):=by
  simp only [rH,Bool.and_eq_true,Bool.or_eq_true,decide_eq_true_eq] at h
  refine ⟨h.1,?_⟩
  rcases h.2 with h2|h2
  · exact .inl h2
  · exact .inr ⟨h2.1,fF.1 h2.2⟩
theorem vV: ∀{ub:List (Nat×Nat)} {w id:Nat},bF ub w id=true→(w,id)∈ub
  | [],_,_,h=>by simp [bF] at h
  | (w0,k)::l,w,id,hm=>by
    simp only [bF,Bool.or_eq_true,Bool.and_eq_true,decide_eq_true_eq] at hm
    rcases hm with ⟨rfl,rfl⟩|hm
    · simp
    · exact List.mem_cons_of_mem _ (vV hm)
theorem zZ: ∀{ub:List (Nat×Nat)} {n w w' id:Nat},ubB m need ub n=true→bF ub w id=true→bF ub w' id=true→w=w'
  | [],_,_,_,_,_,h,_=>by simp [bF] at h
  | (w0,k)::l,n,w,w',id,h,hm,hm'=>by
    simp only [ubB,Bool.and_eq_true,decide_eq_true_eq,List.all_eq_true,Bool.not_eq_true',decide_eq_false_iff_not] at h
    simp only [bF,Bool.or_eq_true,Bool.and_eq_true,decide_eq_true_eq] at hm hm'
    rcases hm with ⟨rfl,rfl⟩|hm<;>rcases hm' with ⟨rfl,e⟩|hm'
    · rfl
    · exact absurd rfl (h.2.1 _ (vV hm'))
    · subst e;exact absurd rfl (h.2.1 _ (vV hm))
    · exact zZ h.2.2 hm hm'
theorem GD {F:List (Nat×V)} {t:Nat} {v:V} (h:al (mi wr F) t=some v):t∉wr∧al F t=some v:=by
  induction F with
  | nil=>simp [mi,al] at h
  | cons p F ih=>
    obtain ⟨k,x⟩:=p
    simp only [mi] at h
    split at h
    · rename_i hk
      obtain ⟨h1,h2⟩:=ih h
      refine ⟨h1,?_⟩
      simp only [al]
      rw [if_neg (show¬k=t from fun e=>h1 (e▸fF.1 hk))]
      exact h2
    · rename_i hk
      simp only [al] at h⊢
      split at h
      · rename_i e;subst e
        exact ⟨fun hm=>hk (fF.2 hm),by rw [if_pos rfl];exact h⟩
      · rename_i e
        rw [if_neg e]
        exact ih h
def NK (ub:List (Nat×Nat)) (R:List (Nat×aY)) (L:Nat→Prop) (i:Nat):Prop:= ∀j r,(j,r)∈R→L j→fD ub j r.b i=false
def PB (S0:St) (ub:List (Nat×Nat)) (R:List (Nat×aY)) (L:Nat→Prop) (i:Nat):Prop:=NK ub R L i∧((∃b,al S0.H i=some b∧aW b=true)∨ ∃l r b,(l,r)∈R∧L l∧r.b=some (i,b))
structure hP (E:Env) (c0:Cx) (S0:St) (ub:List (Nat×Nat)) (m:Nat) (R:List (Nat×aY)) (L:Nat→Prop) (F:Fm) (c:Cx) (ρ:Ro):Prop where
  since:cB c0 c
  gl:Gl E c
  slot: ∀j r,(j,r)∈R→L j→ ∀t,r.d=some t→rd ρ c r.v (F t)
  old: ∀t v,al S0.F t=some v→(∀j r,(j,r)∈R→L j→r.d≠some t)→rd ρ c v (F t)
  heap: ∀j r k b,(j,r)∈R→L j→r.b=some (k,b)→(∀w r' b',(w,r')∈R→L w→r'.b=some (k,b')→w≤j)→NK ub R L k→blkOk c0 c ρ k b
  heap0: ∀i b,al S0.H i=some b→(∀j r b',(j,r)∈R→L j→r.b≠some (i,b'))→NK ub R L i→blkOk c0 c ρ i b
  sep: ∀i j k,i≠j→PB S0 ub R L i→PB S0 ub R L j→am ρ i=some k→am ρ j≠some k
  fresh: ∀i,S0.nx≤i→(∀j,j<m→L j→i≠S0.nx+j)→ρ i=none
theorem z6 {R:List (Nat×aY)} {L:Nat→Prop} {a:Nat} (h: ∃j r b,(j,r)∈R∧L j∧r.b=some (a,b)):
    ∃j r b,(j,r)∈R∧L j∧r.b=some (a,b)∧ ∀w r' b',(w,r')∈R→L w→r'.b=some (a,b')→w≤j:=by
  induction R with
  | nil=>obtain ⟨_,_,_,h,_⟩:=h;cases h
  | cons p R ih=>
    by_cases hR: ∃j r b,(j,r)∈R∧L j∧r.b=some (a,b)
    · obtain ⟨j,r,b,h1,h2,h3,h4⟩:=ih hR
      by_cases hp:L p.1∧(∃b',p.2.b=some (a,b'))∧j<p.1
      · obtain ⟨g1,⟨b',g2⟩,g3⟩:=hp
        refine ⟨p.1,p.2,b',by simp,g1,g2,fun w r' b'' hw hl hb=> ?_⟩
        rcases List.mem_cons.1 hw with e|hw
        · exact Nat.le_of_eq (congrArg Prod.fst e)
        · have:=h4 w r' b'' hw hl hb;omega
      · refine ⟨j,r,b,by simp [h1],h2,h3,fun w r' b'' hw hl hb=> ?_⟩
        rcases List.mem_cons.1 hw with e|hw
        · subst e
          exact Nat.le_of_not_lt fun hlt=>hp ⟨hl,⟨b'',hb⟩,hlt⟩
        · exact h4 w r' b'' hw hl hb
    · obtain ⟨j,r,b,h1,h2,h3⟩:=h
      rcases List.mem_cons.1 h1 with e|h1
      · refine ⟨j,r,b,by simp [e],h2,h3,fun w r' b' hw hl hb=> ?_⟩
        rcases List.mem_cons.1 hw with e'|hw
        · rw [←e] at e';cases e';exact Nat.le_refl _
        · exact absurd ⟨w,r',b',hw,hl,hb⟩ hR
      · exact absurd ⟨j,r,b,h1,h2,h3⟩ hR
theorem GE {α:Type} {l m:List (Nat×α)} {i:Nat} {x:α} (h:al (l++m) i=some x):al l i=some x∨(al l i=none∧al m i=some x):=by
  rw [np] at h
  cases hl:al l i with
  | some y=>rw [hl] at h;exact .inl h
  | none=>rw [hl] at h;exact .inr ⟨rfl,h⟩
theorem GF {ns:Nat→Bool} {R:List (Nat×aY)} {i:Nat} {b:Blk} (ho:R.Pairwise fun p q=>q.1<p.1) (h:al (c7 ns R) i=some b):
    ∃j r,(j,r)∈R∧ns j=true∧r.b=some (i,b)∧ ∀w r' b',(w,r')∈R→ns w=true→r'.b=some (i,b')→w≤j:=by
  induction R with
  | nil=>simp [c7,al] at h
  | cons p R ih=>
    obtain ⟨j0,r0⟩:=p
    obtain ⟨ho1,ho2⟩:=List.pairwise_cons.1 ho
    simp only [c7] at h
    split at h
    · rename_i b0 h1 h2
      obtain ⟨k0,b0⟩:=b0
      simp only [al] at h
      split at h
      · rename_i e
        subst e;cases h
        refine ⟨j0,r0,by simp,h1,h2,fun w r' b' hw _ _=> ?_⟩
        rcases List.mem_cons.1 hw with e|hw
        · cases e;exact Nat.le_refl _
        · exact Nat.le_of_lt (ho1 _ hw)
      · rename_i hne
        obtain ⟨j,r,g1,g2,g3,g4⟩:=ih ho2 h
        refine ⟨j,r,by simp [g1],g2,g3,fun w r' b' hw hn hb=> ?_⟩
        rcases List.mem_cons.1 hw with e|hw
        · cases e;rw [h2] at hb;cases hb;exact absurd rfl hne
        · exact g4 w r' b' hw hn hb
    · rename_i hno
      obtain ⟨j,r,g1,g2,g3,g4⟩:=ih ho2 h
      refine ⟨j,r,by simp [g1],g2,g3,fun w r' b' hw hn hb=> ?_⟩
      rcases List.mem_cons.1 hw with e|hw
      · cases e;exact absurd hb (hno _ hn)
      · exact g4 w r' b' hw hn hb
theorem pq {α:Type} {l m:List (Nat×α)} {i:Nat} {x:α} (h:al (l++m) i=some x):(i,x)∈l∨(al l i=none∧al m i=some x):=by
  rw [np] at h
  cases hl:al l i with
  | some y=>rw [hl] at h;cases h;exact .inl (me hl)
  | none=>rw [hl] at h;exact .inr ⟨rfl,h⟩
structure ROk (S0:St) (ub:List (Nat×Nat)) (ops:Array Oper) (i:Nat) (R:List (Nat×aY)):Prop where
  dst: ∀j r,(j,r)∈R→j<i∧r.d=du ops j
  uniq: ∀j r r',(j,r)∈R→(j,r')∈R→r=r'
  priv: ∀j r k b,(j,r)∈R→r.b=some (k,b)→aW b=true
  place: ∀j r k b,(j,r)∈R→r.b=some (k,b)→k=S0.nx+j∨bF ub j k=true
  ord:R.Pairwise fun p q=>q.1<p.1
theorem ROk.two {i:Nat} {R:List (Nat×aY)} (h:ROk S0 ub ops i R) (hU:ubB m need ub S0.nx=true) {j j' k:Nat} {r r':aY} {b b':Blk} (h1:(j,r)∈R) (h2:(j',r')∈R) (e1:r.b=some (k,b)) (e2:r'.b=some (k,b')):
    j=j'∨(k=S0.nx+j∧j<j'∧j∈need.getD j' [])∨(k=S0.nx+j'∧j'<j∧j'∈need.getD j []):=by
  rcases h.place j r k b h1 e1 with g1|g1<;>rcases h.place j' r' k b' h2 e2 with g2|g2
  · exact .inl (by omega)
  · rcases vU hU g2 with g|g
    · omega
    · obtain ⟨_,g3⟩:=zY g
      have ek:k - S0.nx=j:=by omega
      rw [ek] at g3
      rcases g3 with g3|g3
      · exact .inl g3
      · exact .inr (.inl ⟨g1,g3⟩)
  · rcases vU hU g1 with g|g
    · omega
    · obtain ⟨_,g3⟩:=zY g
      have ek:k - S0.nx=j':=by omega
      rw [ek] at g3
      rcases g3 with g3|g3
      · exact .inl g3.symm
      · exact .inr (.inr ⟨g2,g3⟩)
  · exact .inl (zZ hU g1 g2)
theorem hP.lt {R:List (Nat×aY)} {L:Nat→Prop} (h:hP E c0 S0 ub m R L F c ρ) (hp: ∀j r k b,(j,r)∈R→r.b=some (k,b)→aW b=true) {a k:Nat} (ha:PB S0 ub R L a) (hk:am ρ a=some k):k<c.w.heap.size:=by
  by_cases hu: ∃j r b,(j,r)∈R∧L j∧r.b=some (a,b)
  · obtain ⟨j,r,b,h1,h2,h3,h4⟩:=z6 hu
    exact fC (hp j r a b h1 h3) (h.heap j r a b h1 h2 h3 h4 ha.1) k hk
  · obtain ⟨hnk,ha⟩:=ha
    rcases ha with ⟨b,h1,h2⟩|⟨l,r,b,h1,h2,h3⟩
    · exact fC h2 (h.heap0 a b h1 (fun j r b' g1 g2 g3=>hu ⟨j,r,b',g1,g2,g3⟩) hnk) k hk
    · exact absurd ⟨l,r,b,h1,h2,h3⟩ hu
theorem hP.ge {R:List (Nat×aY)} {L:Nat→Prop} (h:hP E c0 S0 ub m R L F c ρ) (hp: ∀j r k b,(j,r)∈R→r.b=some (k,b)→aW b=true) {a k:Nat} (ha:PB S0 ub R L a) (hk:am ρ a=some k):c0.mine k:=by
  have key: ∀b,aW b=true→blkOk c0 c ρ a b→c0.mine k:=by
    intro b hb h1
    cases b with
    | var n g d=>
      obtain ⟨b,h1,h2,h3⟩:=h1
      simp only [am,h1,Option.some.injEq] at hk
      subst hk;exact h2
    | own E n g z l=>
      obtain ⟨v,h1,h2,h3,_,a,cap,e,_⟩:=h1
      refine h3 k ?_
      unfold am at hk
      rw [h1] at hk
      subst e
      exact hk
    | ownI E n g z l=>
      obtain ⟨v,h1,h2,h3,_,a,cap,e,_⟩:=h1
      refine h3 k ?_
      unfold am at hk
      rw [h1] at hk
      subst e
      exact hk
    | pvar n g d=>cases hb
    | pown n g z l=>cases hb
    | lent k' n g d=>
      obtain ⟨h1,h2,h3⟩:=h1
      simp only [am,h1,Option.some.injEq] at hk
      subst hk;exact h2
    | kset g k' n l=>
      obtain ⟨r,h1,h2,h3⟩:=h1
      simp only [am,h1,blk,Option.some.injEq] at hk
      subst hk;exact h2
  by_cases hu: ∃j r b,(j,r)∈R∧L j∧r.b=some (a,b)
  · obtain ⟨j,r,b,h1,h2,h3,h4⟩:=z6 hu
    exact key b (hp j r a b h1 h3) (h.heap j r a b h1 h2 h3 h4 ha.1)
  · obtain ⟨hnk,ha⟩:=ha
    rcases ha with ⟨b,h1,h2⟩|⟨l,r,b,h1,h2,h3⟩
    · exact key b h2 (h.heap0 a b h1 (fun j r b' g1 g2 g3=>hu ⟨j,r,b',g1,g2,g3⟩) hnk)
    · exact absurd ⟨l,r,b,h1,h2,h3⟩ hu
theorem hP.sim {R:List (Nat×aY)} {L:Nat→Prop} (h:hP E c0 S0 ub m R L F c ρ) {ns ban:Nat→Bool} {wr:List Nat} (hwo: ∀t,t∉wr→ ∀j r,(j,r)∈R→L j→r.d≠some t) (hns: ∀j,ns j=true→L j) (hH0: ∀i b,al S0.H i=some b→i<S0.nx) (hban: ∀k,k<S0.nx→ban k=false→ ∀j r b,(j,r)∈R→L j→r.b=some (k,b)→ns j=true) (hkill: ∀k,ban k=false→NK ub R L k) (i:Nat) (ho:R.Pairwise fun p q=>q.1<p.1) (hlast: ∀j r k b,ban k=false→(j,r)∈R→ns j=true→r.b=some (k,b)→ ∀w r' b',(w,r')∈R→L w→r'.b=some (k,b')→j<w→ns w=true):
    Sim E c0 c ρ (cu S0 wr ns ban R i) F:=by
  have hH: ∀k b,al (ee ban (c7 ns R++S0.H)) k=some b→blkOk c0 c ρ k b∧(aW b=true→PB S0 ub R L k):=by
    intro k b hb0
    obtain ⟨h1,hb⟩:=po hb0
    rcases GE hb with hm|⟨hn,h2⟩
    · obtain ⟨j,r,h3,h2,h4,h5⟩:=GF ho hm
      refine ⟨h.heap j r k b h3 (hns j h2) h4 (fun w r' b' hw hl hb'=> ?_) (hkill k h1),fun _=>⟨hkill k h1,.inr ⟨j,r,b,h3,hns j h2,h4⟩⟩⟩
      rcases Nat.lt_or_ge j w with hlt|hge
      · exact h5 w r' b' hw (hlast j r k b h1 h3 h2 h4 w r' b' hw hl hb' hlt) hb'
      · exact hge
    · exact ⟨h.heap0 k b h2 (fun j r b' g1 g2 g3=>Gz hn j r b' g1 (hban k (hH0 k b h2) h1 j r b' g1 g2 g3) g3) (hkill k h1),fun hp=>⟨hkill k h1,.inl ⟨b,h2,hp⟩⟩⟩
  refine ⟨h.since,h.gl,?_,fun k b hb=>(hH k b hb).1,?_⟩
  · intro t v ht
    rcases pq ht with hm|⟨_,hm⟩
    · obtain ⟨j,r,h1,h2,h3,rfl⟩:=Gy hm
      exact h.slot j r h1 (hns j h2) t h3
    · obtain ⟨h1,h2⟩:=GD hm
      exact h.old t v h2 (hwo t h1)
  · intro a b ba bb k hab ha hb hpa hpb hk
    exact h.sep a b k hab ((hH a ba ha).2 hpa) ((hH b bb hb).2 hpb) hk
def nr (E:Env) (S:St) (ub:List (Nat×Nat)) (i:Nat) (o:Oper) (r:aY):Prop:=
  r.d=o.dst∧match i4 o.op with
  | some (x,l,Ts)=> ∃f caps vs ws,S.ev E.gv x=some (.fn f caps)∧evs E S l Ts=some vs∧((r.b=none∧a8 E f ws r.v []∧((∀c ρ us,rdT ρ c (vs++caps) us→rdT ro0 c ws us)∨(dA r.v∧rD E S (vs++caps) ws)))∨
      (∃T n g z l,r.v= .own S.nx∧r.b=some (S.nx,.own T n g z l)∧a8 E f ws (.own 0) [.own T n g z l]∧ ∀c ρ us,rdT ρ c (vs++caps) us→rdT ro0 c ws us)∨
      zW E S ub i f (vs++caps) (fun v id b=>r.v=v∧r.b=some (id,b))∨zX E S ub i f (vs++caps) (fun b=>r.v= .own S.nx∧r.b=some (S.nx,b)))
  | none=> ∃cnd v e,opH E S S.nx o.type o.op=some (cnd,v,e)∧cnd∧((r.v=v∧((e= .none∧r.b=none)∨(∃b,e= .new b∧r.b=some (S.nx,b)∧aW b=true)∨ ∃id b,e= .upd id b∧r.b=some (id,b)∧aW b=true))∨
      (∃T n g z l,v= .own S.nx∧(e= .new (.own T n g z l)∨e= .new (.pown n g z l))∧r.v= .sl z n g l∧r.b=none)∨
      ∃id T n g z l,v= .own id∧e= .app id (.own T n g z l)∧r.v= .own S.nx∧r.b=some (S.nx,.own T n g z l)∧(bF ub i id&& !decide (id=S.nx))=true)
def rK (E:Env) (S0:St) (wr:List Nat) (wl:List (Nat×Nat)) (need:List (List Nat)) (ub:List (Nat×Nat)) (ops:Array Oper) (R:List (Nat×aY)) (i:Nat):Prop:=
  ∀o,ops[i]? =some o→ ∃r,(i,r)∈R∧r.d=o.dst∧
    ((o.guard=none∧nr E (cu S0 (wrF wl need i wr) (bp (need.getD i [])) (cf ub need i R) R i) ub i o r)∨
     ∃j want b rj,o.guard=some (j,want)∧j∈need.getD i []∧(j,rj)∈R∧rj.d≠none∧gb rj.v=some b∧((b=some want∧nr E (cu S0 (wrF wl need i wr) (bp (need.getD i [])) (cf ub need i R) R i) ub i o r)∨(b≠some want∧r.v= .tup []∧r.b=none)))
def GG (c0 c:Cx) (S0:St) (ub:List (Nat×Nat)) (R:List (Nat×aY)) (L:Nat→Prop) (i:Nat) (b:Option (Nat×Blk)) (c':Cx) (ρ ρ':Ro) (o:Option Nat):Prop:=
  (b=none∧o=none∧ρ'=ρ)∨(∃x,b=some (S0.nx+i,x)∧o=none∧blkOk c0 c' ρ' (S0.nx+i) x∧ ∀k,am ρ' (S0.nx+i)=some k→c.w.heap.size≤k)∨
    (∃id x,b=some (id,x)∧True∧o=am ρ id∧ρ'=ρ∧blkOk c0 c' ρ id x∧PB S0 ub R L id)∨
    ∃id x,b=some (S0.nx+i,x)∧bF ub i id=true∧id≠S0.nx+i∧o=am ρ id∧blkOk c0 c' ρ' (S0.nx+i) x∧(∀k,am ρ' (S0.nx+i)=some k→am ρ id=some k∨c.w.heap.size≤k)∧PB S0 ub R L id
theorem hP.next {R:List (Nat×aY)} {L:Nat→Prop} (h:hP E c0 S0 ub m R L F c ρ) (hU:ubB m need ub S0.nx=true) (hR:ROk S0 ub ops m R) {i:Nat} (him:i<m) {r:aY} (hr:(i,r)∈R)
    (hdist: ∀j r' t,(j,r')∈R→j≠i→r'.d=some t→r.d≠some t) (hnL: ¬L i) (hnw: ∀j r' k b b',(j,r')∈R→L j→r'.b=some (k,b')→r.b=some (k,b)→j<i) {c':Cx} {ρ':Ro} {o:Option Nat} (hch:c.chg o c') (hro: ∀k,k≠S0.nx+i→ρ' k=ρ k) (hn:ρ (S0.nx+i)=none)
    (hdid:GG c0 c S0 ub R L i r.b c' ρ ρ' o) {u:Value} (hv:rd ρ' c' r.v u):
    hP E c0 S0 ub m R (fun j=>j=i∨L j) (cn F r.d u) c' ρ':=by
  have hrl:=pb hn hro
  have hpriv:=hR.priv
  have hupd: ∀t,r.d≠some t→cn F r.d u t=F t:=by
    intro t ht
    cases hd:r.d with
    | none=>rfl
    | some d=>exact oH _ _ (by rintro rfl;exact ht hd)
  -- what the operation may have turned is a block of the call's own
  have hoge: ∀k,o=some k→c0.mine k:=by
    intro k hk
    rcases hdid with ⟨_,e,_⟩|⟨x,_,e,_⟩|⟨id,x,_,_,e,_,_,hpb⟩|⟨id,x,_,_,_,e,_,_,hpb⟩
    · rw [e] at hk;cases hk
    · rw [e] at hk;cases hk
    · rw [e] at hk;exact h.ge hpriv hpb hk
    · rw [e] at hk;exact h.ge hpriv hpb hk
  -- another block stays aas it was
  have stay: ∀k b,(aW b=true→PB S0 ub R L k)→(∀x,r.b≠some (k,x))→(∀y,bF ub i k=true→k≠S0.nx+i→r.b≠some (S0.nx+i,y))→blkOk c0 c ρ k b→blkOk c0 c' ρ' k b:=by
    intro k b hpb hne hkl hb
    refine nj hrl (iY hch (fun hp x hx=> ?_) hb)
    rcases hdid with ⟨_,e,_⟩|⟨y,_,e,_⟩|⟨id,y,e1,_,e2,_,_,hpi⟩|⟨id,y,e1,e3,e4,e2,_,_,hpi⟩
    rotate_right
    · rw [e2]
      intro hx'
      have hki:id≠k:=by rintro rfl;exact hkl y e3 e4 e1
      exact h.sep id k x hki hpi (hpb hp) hx' hx
    · rw [e];exact fun e=>by cases e
    · rw [e];exact fun e=>by cases e
    · rw [e2]
      intro hx'
      have hki:id≠k:=by rintro rfl;exact hne y e1
      exact h.sep id k x hki hpi (hpb hp) hx' hx
  refine ⟨h.since.chg hch hoge,h.gl.mono hch.pub,?_,?_,?_,?_,?_,?_⟩
  · intro j r' hj hL t ht
    by_cases e:j=i
    · subst e
      have:=hR.uniq j r' r hj hr
      subst this
      rw [ht]
      simpa [cn,ue] using hv
    · rw [hupd t (hdist j r' t hj e ht)]
      exact dw hrl (bA hch.pub (h.slot j r' hj (hL.resolve_left e) t ht))
  · intro t v ht hno
    rw [hupd t (fun e=>hno i r hr (.inl rfl) e)]
    exact dw hrl (bA hch.pub (h.old t v ht fun j r' g1 g2=>hno j r' g1 (.inr g2)))
  · intro j r' k b hj hL hb' hla hnk
    by_cases e:j=i
    · subst e
      have:=hR.uniq j r' r hj hr
      subst this
      rcases hdid with ⟨e,_⟩|⟨y,e,_,h2,_⟩|⟨id,y,e,_,_,e2,h2,_⟩|⟨id,y,e,_,_,_,h2,_⟩
      · rw [e] at hb';cases hb'
      · rw [e] at hb';cases hb';exact h2
      · rw [e] at hb';cases hb';rw [e2];exact h2
      · rw [e] at hb';cases hb';exact h2
    · have hLj:=hL.resolve_left e
      have hnk':NK ub R L k:=fun j r' g1 g2=>hnk j r' g1 (.inr g2)
      exact stay k b (fun _=>⟨hnk',.inr ⟨j,r',b,hj,hLj,hb'⟩⟩) (fun x hx=>by
        have h1:=hla i r x hr (.inl rfl) hx
        have h2:=hnw j r' k x b hj hLj hb' hx
        omega) (fun y hy hkx he=>by
        have:=hnk i r hr (.inl rfl)
        rw [he] at this
        simp only [fD,hy,Bool.true_and,Bool.not_eq_false',decide_eq_true_eq] at this
        omega) (h.heap j r' k b hj hLj hb' (fun w r2 b2 hw hl=>hla w r2 b2 hw (.inr hl)) hnk')
  · intro k b hb' hno hnk
    have hne: ∀x,r.b≠some (k,x):=fun x=>hno i r x hr (.inl rfl)
    exact stay k b (fun hp=>⟨fun j r' g1 g2=>hnk j r' g1 (.inr g2),.inl ⟨b,hb',hp⟩⟩) hne (fun y hy hkx he=>by
      have:=hnk i r hr (.inl rfl)
      rw [he] at this
      simp only [fD,hy,Bool.true_and,Bool.not_eq_false',decide_eq_true_eq] at this
      omega) (h.heap0 k b hb' (fun j r' b' g1 g2=>hno j r' b' g1 (.inr g2)) fun j r' g1 g2=>hnk j r' g1 (.inr g2))
  · -- blocks lie apart
    have old: ∀a k,a≠S0.nx+i→PB S0 ub R (fun j=>j=i∨L j) a→am ρ' a=some k→PB S0 ub R L a∧am ρ a=some k∧k<c.w.heap.size:=by
      intro a k ha hc hk
      rw [cW (hro a ha)] at hk
      have hpa:PB S0 ub R L a:=by
        obtain ⟨hnk,hc⟩:=hc
        have hnk':NK ub R L a:=fun j r' g1 g2=>hnk j r' g1 (.inr g2)
        rcases hc with ⟨b,h1,h2⟩|⟨l,r',b,h1,h2,h3⟩
        · exact ⟨hnk',.inl ⟨b,h1,h2⟩⟩
        · by_cases e:l=i
          · subst e
            have:=hR.uniq l r' r h1 hr
            subst this
            rcases hdid with ⟨e,_⟩|⟨y,e,_⟩|⟨id,y,e,_,_,_,_,hpb⟩|⟨id,y,e,_⟩
            · rw [e] at h3;cases h3
            · rw [e] at h3;cases h3;exact absurd rfl ha
            · rw [e] at h3;cases h3;exact hpb
            · rw [e] at h3;cases h3;exact absurd rfl ha
          · exact ⟨hnk',.inr ⟨l,r',b,h1,h2.resolve_left e,h3⟩⟩
      exact ⟨hpa,hk,h.lt hpriv hpa hk⟩
    have new: ∀k,am ρ' (S0.nx+i)=some k→c.w.heap.size≤k∨ ∃id,am ρ id=some k∧PB S0 ub R L id∧ ¬PB S0 ub R (fun j=>j=i∨L j) id:=by
      intro k hk
      rcases hdid with ⟨_,_,e⟩|⟨y,_,_,_,h2⟩|⟨id,y,_,_,_,e,_⟩|⟨id,y,e1,e2,e3,_,_,h2,hpb⟩
      · rw [e] at hk;unfold am at hk;rw [hn] at hk;cases hk
      · exact .inl (h2 k hk)
      · rw [e] at hk;unfold am at hk;rw [hn] at hk;cases hk
      · rcases h2 k hk with h2|h2
        · refine .inr ⟨id,h2,hpb,?_⟩
          rintro ⟨g3,_⟩
          have:=g3 i r hr (.inl rfl)
          rw [e1] at this
          simp only [fD,e2,Bool.true_and,Bool.not_eq_false',decide_eq_true_eq] at this
          omega
        · exact .inl h2
    intro a b k hab ha hb' hk hk'
    by_cases e1:a=S0.nx+i
    · have e2:b≠S0.nx+i:=by omega
      obtain ⟨h4,h5,h3⟩:=old b k e2 hb' hk'
      rw [e1] at hk
      rcases new k hk with h6|⟨id,h6,h7,h8⟩
      · omega
      · exact h.sep id b k (fun e=>h8 (e▸hb')) h7 h4 h6 h5
    · obtain ⟨h1,h2,h3⟩:=old a k e1 ha hk
      by_cases e2:b=S0.nx+i
      · rw [e2] at hk'
        rcases new k hk' with h6|⟨id,h6,h7,h8⟩
        · omega
        · exact h.sep id a k (fun e=>h8 (e▸ha)) h7 h1 h6 h2
      · obtain ⟨h4,h5,_⟩:=old b k e2 hb' hk'
        exact h.sep a b k hab h1 h4 h2 h5
  · intro k hk hne
    have h1:k≠S0.nx+i:=hne i him (.inl rfl)
    rw [hro k h1]
    exact h.fresh k hk (fun j hm hj=>hne j hm (.inr hj))
theorem vW {wl:List (Nat×Nat)} {need:List (List Nat)} {i t:Nat}: ∀{wr:List Nat},t∈wr→t∉wrF wl need i wr→ ∃w,(w,t)∈wl∧i∈need.getD w []
  | [],h,_=>by cases h
  | x::l,h,hn=>by
    simp only [wrF] at hn
    have key:jH wl need i t=true→ ∃w,(w,t)∈wl∧i∈need.getD w []:=by
      clear hn h
      induction wl with
      | nil=>intro h;cases h
      | cons q wl ih=>
        obtain ⟨w,k⟩:=q
        intro h
        simp only [jH,Bool.or_eq_true,Bool.and_eq_true,decide_eq_true_eq] at h
        rcases h with ⟨rfl,h2⟩|h
        · exact ⟨w,by simp,fF.1 h2⟩
        · obtain ⟨w',h1,h2⟩:=ih h;exact ⟨w',by simp [h1],h2⟩
    split at hn
    · rename_i hl
      rcases List.mem_cons.1 h with rfl|h
      · exact key hl
      · exact vW h hn
    · simp only [List.mem_cons,not_or] at hn
      rcases List.mem_cons.1 h with rfl|h
      · exact absurd rfl hn.1
      · exact vW h hn.2
theorem GH {m:Nat} {wl:List (Nat×Nat)} (h:wlB ops m wl=true) {w t:Nat} (hm:(w,t)∈wl):w<m∧du ops w=some t:=by
  have:=List.all_eq_true.1 h (w,t) hm
  simpa using this
theorem GI (hE:bh E) (hwl:wlB ops m wl=true) (hW:lQ ops m wr=true) (hU:ubB m need ub S0.nx=true) {R:List (Nat×aY)} (hR:ROk S0 ub ops m R) (hH0: ∀i b,al S0.H i=some b→i<S0.nx)
    (hT: ∀i,i<m→rK E S0 wr wl need ub ops R i):yZ E.P ops need m (fun L F w=> ∃c ρ,c.w=w∧hP E c0 S0 ub m R L F c ρ):=by
  rintro L F w i o ⟨c,ρ,rfl,hI⟩ him ho hneedL hafter hnL K hK
  obtain ⟨r,hr,hd,hj⟩:=hT i him o ho
  have hfr:ρ (S0.nx+i)=none:=hI.fresh _ (by omega) (fun j _ hj=>by
    intro e
    have:i=j:=by omega
    subst this;exact hnL hj)
  have hdist: ∀j r' t,(j,r')∈R→j≠i→r'.d=some t→r.d≠some t:=by
    intro j r' t h1 h2 h3 h4
    obtain ⟨h5,h6⟩:=hR.dst j r' h1
    obtain ⟨h7,h8⟩:=hR.dst i r hr
    exact ug hW h7 h5 (Ne.symm h2) (h8▸h4) (h6▸h3)
  have hwo: ∀t,t∉wrF wl need i wr→ ∀j r',(j,r')∈R→L j→r'.d≠some t:=by
    intro t ht j r' hj hL hd'
    obtain ⟨h5,h6⟩:=hR.dst j r' hj
    obtain ⟨w,h7,h8⟩:=vW (oJ hW h5 (h6▸hd')).1 ht
    obtain ⟨h9,h10⟩:=GH hwl h7
    have hjw:j=w:=Classical.byContradiction fun hne=>ug hW h5 h9 hne (h6▸hd') h10
    subst hjw
    exact absurd hL (hafter j h5 h8)
  have hns: ∀j,bp (need.getD i []) j=true→L j:=fun j hj=>hneedL j (fF.1 hj)
  have hban: ∀k,k<S0.nx→cf ub need i R k=false→ ∀j r b,(j,r)∈R→L j→r.b=some (k,b)→bp (need.getD i []) j=true:=by
    intro k hkn hk0 j r' b hj hL hb
    have hk:=(vT hk0).1
    obtain ⟨hjm,_⟩:=hR.dst j r' hj
    have hji:j≠i:=by rintro rfl;exact hnL hL
    rcases hR.place j r' k b hj hb with e|hm
    · omega
    · rcases rJ hk hm with e|e|e
      · exact absurd e hji
      · exact fF.2 e
      · exact absurd hL (hafter j hjm e)
  have hlast: ∀j r k b,cf ub need i R k=false→(j,r)∈R→bp (need.getD i []) j=true→r.b=some (k,b)→ ∀w r' b',(w,r')∈R→L w→r'.b=some (k,b')→j<w→bp (need.getD i []) w=true:=by
    intro j r1 k b hbn hj hn hb w r' b' hw hl hb' hlt
    rcases hR.place w r' k b' hw hb' with e|hm
    · rcases hR.two hU hj hw hb hb' with e|⟨e1,e2⟩|⟨e1,e2⟩
      · omega
      · omega
      · omega
    · rcases rJ (vT hbn).1 hm with e|e|e
      · subst e;exact absurd hl hnL
      · exact fF.2 e
      · exact absurd hl (hafter w (hR.dst w r' hw).1 e)
  have hnw: ∀j r' k b b',(j,r')∈R→L j→r'.b=some (k,b')→r.b=some (k,b)→j<i:=by
    intro j r' k b b' hj hl hb' hb
    rcases hR.two hU hj hr hb' hb with e|⟨e1,e2⟩|⟨e1,e2⟩
    · subst e;exact absurd hl hnL
    · exact e2.1
    · exact absurd hl (hafter j (hR.dst j r' hj).1 e2.2)
  have hkill: ∀k,cf ub need i R k=false→NK ub R L k:=by
    intro k hk0 j r' hj hL
    obtain ⟨hk,hkf⟩:=vT hk0
    cases hb:fD ub j r'.b k with
    | false=>rfl
    | true=>
      obtain ⟨hjm,_⟩:=hR.dst j r' hj
      have hji:j≠i:=by rintro rfl;exact hnL hL
      rcases rJ hk (GC hb) with e|e|e
      · exact absurd e hji
      · have:=vR hkf j r' hj (fF.2 e)
        rw [hb] at this;cases this
      · exact absurd hL (hafter j hjm e)
  have hsim:=hI.sim hwo hns hH0 hban hkill i hR.ord hlast
  have exec:nr E (cu S0 (wrF wl need i wr) (bp (need.getD i [])) (cf ub need i R) R i) ub i o r→aB E.P (fun v w'=>K (cn F o.dst v) w') (run E.P F o c.w):=by
    rintro ⟨_,hju⟩
    split at hju
    · rename_i x l Ts hi
      obtain ⟨f,caps,vs,ws,hx,hvs,hres⟩:=hju
      have hop: ∃cl,o.op= .call cl∧cl.callee= .value x∧cl.args.toList=l:=by
        unfold i4 at hi
        split at hi
        · rename_i cl ho'
          split at hi
          · rename_i y hy
            simp only [Option.some.injEq,Prod.mk.injEq] at hi
            obtain ⟨rfl,h2,_⟩:=hi
            exact ⟨cl,ho',hy,h2⟩
          · cases hi
        · cases hi
      obtain ⟨cl,ho',hcl,rfl⟩:=hop
      have hf:=aP hsim hx
      simp only [rd] at hf
      obtain ⟨cap,hf,hcap⟩:=hf
      have hus:=vN (rG hsim hvs) hcap
      rcases hres with ⟨hb,hc,hlook⟩|⟨T,n,g,z,ll,hrv,hb,hc,hgive⟩|⟨hent,rv,id,b,hmem,hpb,⟨b0,hb0,hp0⟩,hcalls,hrv,hrb⟩|⟨hent,id,T,n,g,z,ll,hmem,⟨b0,hb0,hp0⟩,hcalls,hrv,hrb⟩
      case inr.inr.inl=>
        rw [nq (F:=F) (w:=c.w) ho' hcl hf hent]
        refine (hcalls c0 c ρ F _ hsim hus).mono ?_
        rintro e w' ⟨u,c',rfl,rfl,hch,hbk,hrd⟩
        refine ⟨u,rfl,hK _ _ ⟨c',ρ,rfl,?_⟩⟩
        rw [←hd]
        have hpb':PB S0 ub R L id:=by
          obtain ⟨hbn,hb9⟩:=po hb0
          rcases pq hb9 with hm|⟨_,hm⟩
          · obtain ⟨j,r',g1,g2,g3⟩:=rI hm
            exact ⟨hkill id hbn,.inr ⟨j,r',b0,g1,hns j g2,g3⟩⟩
          · exact ⟨hkill id hbn,.inl ⟨b0,hm,hp0⟩⟩
        exact hI.next hU hR him hr hdist hnL hnw hch (fun _ _=>rfl) hfr (.inr (.inr (.inl ⟨id,b,hrb,trivial,rfl,rfl,hbk,hpb'⟩))) (by rw [hrv];exact hrd)
      case inr.inr.inr=>
        simp only [Bool.and_eq_true,decide_eq_true_eq] at hmem
        have hidn:id≠S0.nx+i:=by have:=hmem.2;simpa [cu] using this
        rw [nq (F:=F) (w:=c.w) ho' hcl hf hent]
        refine (hcalls c0 c ρ F _ hsim hus).mono ?_
        rintro e w' ⟨u,c',rfl,rfl,hch,hown,hbl,hone,a,cap,es,hz⟩
        have hat:dj ρ (S0.nx+i) u (S0.nx+i)=some u:=dz
        have hbo:am (dj ρ (S0.nx+i) u) (S0.nx+i)=blk u:=by simp only [am,hat];rw [es]
        have hpb':PB S0 ub R L id:=by
          obtain ⟨hbn,hb9⟩:=po hb0
          rcases pq hb9 with hm|⟨_,hm⟩
          · obtain ⟨j,r',g1,g2,g3⟩:=rI hm
            exact ⟨hkill id hbn,.inr ⟨j,r',b0,g1,hns j g2,g3⟩⟩
          · exact ⟨hkill id hbn,.inl ⟨b0,hm,hp0⟩⟩
        refine ⟨u,rfl,hK _ _ ⟨c',dj ρ (S0.nx+i) u,rfl,?_⟩⟩
        rw [←hd]
        refine hI.next hU hR him hr hdist hnL hnw hch (fun k hk=>i3 hk) hfr (.inr (.inr (.inr ⟨id,_,hrb,hmem.1,hidn,rfl,⟨u,hat,hown,fun k hk=> ?_,hone,a,cap,es,hz⟩,fun k hk=>hbl k (hbo▸hk),hpb'⟩))) ?_
        · rcases hbl k hk with h1|h1
          · exact hI.ge hR.priv hpb' h1
          · exact .inl (Nat.le_trans hI.since.size h1)
        · rw [hrv]
          simp only [rd]
          exact ⟨hat,by rw [es];rfl⟩
      case inr.inl=>
        rw [nq (F:=F) (w:=c.w) ho' hcl hf hc.1]
        refine (show Calls E.P f _ c.w _ from hc.2 c.noY _ rfl (hI.gl.mono (Cx.pub_noY c)) (fo (Cx.pub_noY c) (hgive c ρ _ hus))).mono ?_
        rintro e w' ⟨v,c',ρr,rfl,rfl,hle',hrd,hH⟩
        have hle:c.le c':=⟨hle'.below,hle'.old⟩
        obtain ⟨v',hv,hown,hge,hone,a,cap,es,hz⟩:=(hH.1 0 _ rfl).2
        simp only [rd] at hrd
        have e:v'=v:=by have:=hrd.1;rw [hv] at this;exact Option.some.inj this
        subst e
        have hat:dj ρ (S0.nx+i) v' (S0.nx+i)=some v':=dz
        refine ⟨v',rfl,hK _ _ ⟨c',dj ρ (S0.nx+i) v',rfl,?_⟩⟩
        rw [←hd]
        refine hI.next hU hR him hr hdist hnL hnw hle.chg (fun k hk=>i3 hk) hfr (.inr (.inl ⟨_,hb,rfl,⟨v',hat,hown,fun k hk=> .inl (Nat.le_trans hI.since.size (Cx.noY_mine (hge k hk))),hone,a,cap,es,hz⟩,fun k hk=> ?_⟩)) ?_
        · simp only [am,hat] at hk
          rw [es] at hk
          exact Cx.noY_mine (hge k (by rw [es];exact hk))
        · rw [hrv]
          simp only [rd]
          exact ⟨hat,hrd.2⟩
      rw [nq (F:=F) (w:=c.w) ho' hcl hf hc.1]
      rcases hlook with hgive|⟨hfl,hlk⟩
      · refine (show Calls E.P f _ c.w _ from hc.2 c.noY _ rfl (hI.gl.mono (Cx.pub_noY c)) (fo (Cx.pub_noY c) (hgive c ρ _ hus))).mono ?_
        rintro e w' ⟨v,c',ρr,rfl,rfl,hle',hrd,hH⟩
        have hle:c.le c':=⟨hle'.below,hle'.old⟩
        refine ⟨v,rfl,hK _ _ ⟨c',ρ,rfl,?_⟩⟩
        rw [←hd]
        refine hI.next hU hR him hr hdist hnL hnw hle.chg (fun _ _=>rfl) hfr (.inl ⟨hb,rfl,rfl⟩) ?_
        refine dw (fun k v hk=> ?_) hrd
        exact absurd (hH.2.1 k (Nat.zero_le _)) (by rw [hk];simp)
      · have hrd:=hlk c0 c ρ F _ hsim hus
        have hpb:=g9 hsim
        refine (show Calls E.P f _ c.w _ from hc.2 (c0.base c hsim.since.size) _ rfl (hI.gl.mono hpb) hrd).mono ?_
        rintro e w' ⟨v,c',ρr,rfl,rfl,hle,hrd,hH⟩
        have hbl:Below c.w.heap.size c.w c'.w:=hle.below
        refine ⟨v,rfl,hK _ _ ⟨c.at c'.w hbl.size,ρ,rfl,?_⟩⟩
        rw [←hd]
        exact hI.next hU hR him hr hdist hnL hnw (Cx.le_at hbl).chg (fun _ _=>rfl) hfr (.inl ⟨hb,rfl,rfl⟩) (pi hfl hrd)
    · obtain ⟨cnd,vv,e,hop,hc,he⟩:=hju
      refine (Gk hE hsim hfr hop hc).mono ?_
      rintro u w' ⟨c',ρ',rfl,hpre,hrel,hrd⟩
      rcases he with ⟨hrv,⟨rfl,hb⟩|⟨b,rfl,hb,hp⟩|⟨id,b,rfl,hb,hp⟩⟩|⟨T,n,g,z,ll,rfl,rfl|rfl,hrv,hrb⟩|⟨id,T,n,g,z,ll,rfl,rfl,hrv,hrb,hmem⟩
      rotate_right
      · simp only [Bool.and_eq_true,decide_eq_true_eq] at hmem
        have hidn:id≠S0.nx+i:=by have:=hmem.2;simpa [cu] using this
        obtain ⟨h1,h2,h3,h4⟩:=hrel
        obtain ⟨b1,hb1,hp1,_⟩:=hpre
        have hpb':PB S0 ub R L id:=by
          obtain ⟨hbn,hb9⟩:=po hb1
          rcases pq hb9 with hm|⟨_,hm⟩
          · obtain ⟨j,r',g1,g2,g3⟩:=rI hm
            exact ⟨hkill id hbn,.inr ⟨j,r',b1,g1,hns j g2,g3⟩⟩
          · exact ⟨hkill id hbn,.inl ⟨b1,hm,hp1⟩⟩
        obtain ⟨u',e1,hown,hge,hone,a,cap,es,hz⟩:=h3
        simp only [rd] at hrd
        have eu:u'=u:=by rw [hrd.1] at e1;exact (Option.some.inj e1).symm
        subst eu
        have hat:dj ρ (S0.nx+i) u' (S0.nx+i)=some u':=dz
        have hbo:am (dj ρ (S0.nx+i) u') (S0.nx+i)=blk u':=by simp only [am,hat];rw [es]
        have hbi:am ρ' id=blk u':=by unfold am;rw [e1,es]
        refine hK _ _ ⟨c',dj ρ (S0.nx+i) u',rfl,?_⟩
        rw [←hd]
        refine hI.next hU hR him hr hdist hnL hnw h1 (fun k hk=>i3 hk) hfr (.inr (.inr (.inr ⟨id,_,hrb,hmem.1,hidn,rfl,⟨u',hat,hown,hge,hone,a,cap,es,hz⟩,fun k hk=>h4 k (by rw [hbi,←hbo];exact hk),hpb'⟩))) ?_
        rw [hrv]
        simp only [rd]
        exact ⟨hat,hrd.2⟩
      rotate_right
      · obtain ⟨h1,h2,h3,h4⟩:=hrel
        obtain ⟨u',e1,hown⟩:=h3
        simp only [rd] at hrd
        have eu:u'=u:=Option.some.inj (e1.symm.trans hrd.1)
        subst eu
        refine hK _ _ ⟨c',ρ,rfl,?_⟩
        rw [←hd]
        refine hI.next hU hR him hr hdist hnL hnw h1.chg (fun _ _=>rfl) hfr (.inl ⟨hrb,rfl,rfl⟩) ?_
        rw [hrv]
        simp only [rd] at hown⊢
        exact hown
      rotate_right
      · obtain ⟨h1,h2,h3,h4⟩:=hrel
        obtain ⟨u',e1,hown,hge,hone,a,cap,es,hz⟩:=h3
        simp only [rd] at hrd
        have eu:u'=u:=Option.some.inj (e1.symm.trans hrd.1)
        subst eu
        have hbo:am ρ' (S0.nx+i)=blk u':=by
          unfold am
          rw [show ρ' (S0.nx+i)=some u' from e1,es]
        have hle2:c.le (c'.dropv u'):=y3 h1 (fun g hg=>h4 g (by rw [←hbo] at hg;exact hg))
        refine hK _ _ ⟨c'.dropv u',ρ,rfl,?_⟩
        rw [←hd]
        refine hI.next hU hR him hr hdist hnL hnw hle2.chg (fun _ _=>rfl) hfr (.inl ⟨hrb,rfl,rfl⟩) ?_
        rw [hrv]
        obtain ⟨a',cap',e5,g1,g2⟩:=fT.1 hown.val
        rw [es] at e5;cases e5
        exact dv.2 ⟨a,cap,es,g1,hz,g2⟩
      all_goals (refine hK _ _ ⟨c',ρ',rfl,?_⟩;rw [←hd])
      all_goals (rw [←hrv] at hrd)
      · obtain ⟨rfl,rfl⟩:=hrel
        exact hI.next hU hR him hr hdist hnL hnw (Cx.le.refl _).chg (fun _ _=>rfl) hfr (.inl ⟨hb,rfl,rfl⟩) hrd
      · obtain ⟨h1,h2,h3,h4⟩:=hrel
        exact hI.next hU hR him hr hdist hnL hnw h1.chg h2 hfr (.inr (.inl ⟨b,hb,rfl,h3,h4⟩)) hrd
      · obtain ⟨h1,rfl,h3⟩:=hrel
        obtain ⟨b1,hb1,hp1,_⟩:=hpre
        have hpb:PB S0 ub R L id:=by
          obtain ⟨hbn,hb9⟩:=po hb1
          rcases pq hb9 with hm|⟨_,hm⟩
          · obtain ⟨j,r',g1,g2,g3⟩:=rI hm
            exact ⟨hkill id hbn,.inr ⟨j,r',b1,g1,hns j g2,g3⟩⟩
          · exact ⟨hkill id hbn,.inl ⟨b1,hm,hp1⟩⟩
        rcases hR.place i r id b hr hb with e|hm
        · -- a block that is not there yet
          exfalso
          have h5:=hsim.heap _ _ hb1
          have h6:ρ' id=none:=by rw [e];exact hfr
          cases b1<;>first|(obtain ⟨_,h5,_⟩:=h5;rw [h6] at h5;cases h5)|(obtain ⟨h5,_⟩:=h5;rw [h6] at h5;cases h5)
        · exact hI.next hU hR him hr hdist hnL hnw h1 (fun _ _=>rfl) hfr (.inr (.inr (.inl ⟨id,b,hb,trivial,rfl,rfl,h3,hpb⟩))) hrd
  rcases hj with ⟨hg,hju⟩|⟨j,want,b,rj,hg,hjn,hrj,hdj,hvj,hj⟩
  · have:eM ops F o=true:=by simp [eM,hg]
    rw [if_pos this]
    exact exec hju
  · have hgb:eM ops F o=(b==some want):=by
      obtain ⟨h5,h6⟩:=hR.dst j rj hrj
      cases hdd:rj.d with
      | none=>exact absurd hdd hdj
      | some t=>
        have hv:=hI.slot j rj hrj (hneedL j hjn) t hdd
        rw [hdd] at h6
        simp only [eM,hg]
        rw [show (ops[j]?).bind (·.dst)=some t from h6.symm]
        unfold gb at hvj
        split at hvj
        · rename_i hb;rw [hb] at hv;cases hvj;simp only [rd] at hv;simp [hv]
        · rename_i hb;rw [hb] at hv;cases hvj;simp only [rd] at hv;obtain ⟨cs,hv,_⟩:=hv;simp [hv]
        · cases hvj
    rcases hj with ⟨hbw,hju⟩|⟨hbw,hvu,hbn⟩
    · rw [if_pos (by rw [hgb,hbw];simp)]
      exact exec hju
    · rw [if_neg (by rw [hgb];simp [hbw])]
      refine hK _ _ ⟨c,ρ,rfl,?_⟩
      rw [←hd]
      exact hI.next hU hR him hr hdist hnL hnw (Cx.le.refl _).chg (fun _ _=>rfl) hfr (u:=undef) (.inl ⟨hbn,rfl,rfl⟩) (by rw [hvu];exact ⟨[],rfl,rfl⟩)
theorem z7 {ns:Nat→Bool} {R:List (Nat×aY)}: ∀{X:List (Nat×aY)},(∀p∈X,ns p.1=false)→eD ns (X++R)=eD ns R
  | [],_=>rfl
  | (j,r)::X,h=>by
    have hj:ns j=false:=h (j,r) (by simp)
    simp only [List.cons_append,eD,hj]
    exact z7 (fun p hp=>h p (by simp [hp]))
theorem z8 {ns:Nat→Bool} {R:List (Nat×aY)}: ∀{X:List (Nat×aY)},(∀p∈X,ns p.1=false)→c7 ns (X++R)=c7 ns R
  | [],_=>rfl
  | (j,r)::X,h=>by
    have hj:ns j=false:=h (j,r) (by simp)
    simp only [List.cons_append,c7,hj]
    exact z8 (fun p hp=>h p (by simp [hp]))
theorem z_ {ns:Nat→Bool} {k:Nat}: ∀{X R:List (Nat×aY)},(∀p∈X,ns p.1=false)→eE ub ns (X++R) k=eE ub ns R k
  | [],_,_=>rfl
  | (j,r)::X,R,h=>by
    have hj:ns j=false:=h (j,r) (by simp)
    simp only [List.cons_append,eE,hj,Bool.false_and,Bool.false_or]
    exact z_ fun p hp=>h p (by simp [hp])
theorem GJ {i:Nat} {X R:List (Nat×aY)} (h: ∀p∈X,bp (need.getD i []) p.1=false):cf ub need i (X++R)=cf ub need i R:=by
  cases ub with
  | nil=>rfl
  | cons p l=>funext k;simp only [cf,z_ h]
theorem ROk.cons {i:Nat} {R:List (Nat×aY)} (h:ROk S0 ub ops i R) {r:aY} (hd:r.d=du ops i) (hp: ∀k b,r.b=some (k,b)→aW b=true) (hq: ∀k b,r.b=some (k,b)→k=S0.nx+i∨bF ub i k=true):ROk S0 ub ops (i+1) ((i,r)::R):=by
  refine ⟨?_,?_,?_,?_,List.pairwise_cons.2 ⟨fun p hp=>(h.dst p.1 p.2 hp).1,h.ord⟩⟩
  · intro j r' hj
    rcases List.mem_cons.1 hj with e|hj
    · cases e;exact ⟨by omega,hd⟩
    · have:=h.dst j r' hj;exact ⟨by omega,this.2⟩
  · intro j r1 r2 h1 h2
    rcases List.mem_cons.1 h1 with e1|h1<;>rcases List.mem_cons.1 h2 with e2|h2
    · cases e1;cases e2;rfl
    · cases e1;have:=(h.dst _ _ h2).1;omega
    · cases e2;have:=(h.dst _ _ h1).1;omega
    · exact h.uniq j r1 r2 h1 h2
  · intro j r' k b hj hb
    rcases List.mem_cons.1 hj with e|hj
    · cases e;exact hp k b hb
    · exact h.priv j r' k b hj hb
  · intro j r' k b hj hb
    rcases List.mem_cons.1 hj with e|hj
    · cases e;exact hq k b hb
    · exact h.place j r' k b hj hb
def vX (S:St) (ub:List (Nat×Nat)) (i:Nat) (r:aY):Prop:= ∀k b,r.b=some (k,b)→aW b=true∧(k=S.nx∨bF ub i k=true)
theorem Aa {S:St} {i:Nat} {o:Oper} {K:aY→Prop} (h:pm E S ub i o K): ∃r,nr E S ub i o r∧K r∧vX S ub i r:=by
  unfold pm at h
  split at h
  · rename_i x l Ts hi
    unfold vQ at h
    split at h
    · rename_i f caps vs hx hvs
      rcases h with (⟨ws,r,hc,hl,hk⟩|⟨ws,T,n,g,z,ll,hc,hl,hk⟩)|⟨hent,r,id,b,hm,hp,hb0,hcalls,hk⟩|⟨hent,id,T,n,g,z,ll,hm,hb0,hcalls,hk⟩
      · refine ⟨⟨o.dst,r,none⟩,⟨rfl,?_⟩,hk,fun k b hb=>by cases hb⟩
        rw [hi]
        exact ⟨f,caps,vs,ws,hx,hvs,.inl ⟨rfl,hc,hl⟩⟩
      · refine ⟨⟨o.dst,.own S.nx,some (S.nx,.own T n g z ll)⟩,⟨rfl,?_⟩,hk,fun k b hb=>by cases hb;exact ⟨rfl,.inl rfl⟩⟩
        rw [hi]
        exact ⟨f,caps,vs,ws,hx,hvs,.inr (.inl ⟨T,n,g,z,ll,rfl,rfl,hc,hl⟩)⟩
      · refine ⟨⟨o.dst,r,some (id,b)⟩,⟨rfl,?_⟩,hk,fun k b' hb=>by cases hb;exact ⟨hp,.inr hm⟩⟩
        rw [hi]
        exact ⟨f,caps,vs,[],hx,hvs,.inr (.inr (.inl ⟨hent,r,id,b,hm,hp,hb0,hcalls,rfl,rfl⟩))⟩
      · refine ⟨⟨o.dst,.own S.nx,some (S.nx,.own T n g z ll)⟩,⟨rfl,?_⟩,hk,fun k b hb=>by cases hb;exact ⟨rfl,.inl rfl⟩⟩
        rw [hi]
        exact ⟨f,caps,vs,[],hx,hvs,.inr (.inr (.inr ⟨hent,id,T,n,g,z,ll,hm,hb0,hcalls,rfl,rfl⟩))⟩
    · exact h.elim
  · rename_i hi
    unfold fX at h
    split at h
    · rename_i cnd v hop
      refine ⟨⟨o.dst,v,none⟩,⟨rfl,?_⟩,h.2 h.1,fun k b hb=>by cases hb⟩
      rw [hi]
      exact ⟨cnd,v,.none,hop,h.1,.inl ⟨rfl,.inl ⟨rfl,rfl⟩⟩⟩
    · rename_i cnd v b hop
      split at h
      · unfold pk at h
        split at h
        · rename_i k T n g z l
          obtain ⟨hk,hc,hK⟩:=h
          simp only [decide_eq_true_eq] at hk
          subst hk
          refine ⟨⟨o.dst,.sl z n g l,none⟩,⟨rfl,?_⟩,hK hc,fun k b' hb=>by cases hb⟩
          rw [hi]
          exact ⟨cnd,_,_,hop,hc,.inr (.inl ⟨T,n,g,z,l,rfl,.inl rfl,rfl,rfl⟩)⟩
        · rename_i k n g z l
          obtain ⟨hk,hc,hK⟩:=h
          simp only [decide_eq_true_eq] at hk
          subst hk
          refine ⟨⟨o.dst,.sl z n g l,none⟩,⟨rfl,?_⟩,hK hc,fun k b' hb=>by cases hb⟩
          rw [hi]
          exact ⟨cnd,_,_,hop,hc,.inr (.inl ⟨0,n,g,z,l,rfl,.inr rfl,rfl,rfl⟩)⟩
        · exact h.elim
      split at h
      · rename_i hp
        refine ⟨⟨o.dst,v,some (S.nx,b)⟩,⟨rfl,?_⟩,h.2 h.1,fun k b' hb=>by cases hb;exact ⟨hp,.inl rfl⟩⟩
        rw [hi]
        exact ⟨cnd,v,.new b,hop,h.1,.inl ⟨rfl,.inr (.inl ⟨b,rfl,rfl,hp⟩)⟩⟩
      · exact h.elim
    · rename_i cnd v id b hop
      split at h
      · rename_i hp
        simp only [Bool.and_eq_true] at hp
        refine ⟨⟨o.dst,v,some (id,b)⟩,⟨rfl,?_⟩,h.2 h.1,fun k b' hb=>by cases hb;exact ⟨hp.2,.inr hp.1⟩⟩
        rw [hi]
        exact ⟨cnd,v,.upd id b,hop,h.1,.inl ⟨rfl,.inr (.inr ⟨id,b,rfl,rfl,hp.2⟩)⟩⟩
      · exact h.elim
    · rename_i cnd id' id T n g z ll hop
      split at h
      · rename_i hp
        simp only [Bool.and_eq_true,decide_eq_true_eq] at hp
        obtain ⟨rfl,hp⟩:=hp
        refine ⟨⟨o.dst,.own S.nx,some (S.nx,.own T n g z ll)⟩,⟨rfl,?_⟩,h.2 h.1,fun k b' hb=>by cases hb;exact ⟨rfl,.inl rfl⟩⟩
        rw [hi]
        exact ⟨cnd,_,_,hop,h.1,.inr (.inr ⟨id',T,n,g,z,ll,rfl,rfl,rfl,rfl,by simp only [Bool.and_eq_true];exact hp⟩)⟩
      · exact h.elim
    · exact h.elim
theorem GK {ns:Nat→Bool} {R:List (Nat×aY)} {o:Oper} {A B:Prop} (h:pn ns R o A B):
    (o.guard=none∧A)∨ ∃j want b rj,o.guard=some (j,want)∧ns j=true∧(j,rj)∈R∧rj.d≠none∧gb rj.v=some b∧((b=some want∧A)∨(b≠some want∧B)):=by
  unfold pn at h
  split at h
  · rename_i hg;exact .inl ⟨hg,h⟩
  · rename_i j want hg
    split at h
    · rename_i r hns hr
      split at h
      · rename_i t hd
        unfold eP at h
        split at h
        · rename_i b hb
          simp only [Option.some.injEq] at hb
          refine .inr ⟨j,want,some b,r,hg,hns,me hr,by simp [hd],by rw [hb];rfl,?_⟩
          by_cases e:b=want
          · exact .inl ⟨by rw [e],h.1 e⟩
          · exact .inr ⟨by simp [e],h.2 (by cases b<;>cases want<;>simp_all)⟩
        · rename_i hb
          simp only [Option.some.injEq] at hb
          exact .inr ⟨j,want,none,r,hg,hns,me hr,by simp [hd],by rw [hb];rfl,.inr ⟨by simp,h⟩⟩
        · exact h.elim
      · exact h.elim
    · exact h.elim
theorem Ab {K:St→Prop} (hneed: ∀i,i<m→ ∀j∈need.getD i [],j<i):
    ∀(k i:Nat) (l pre:List Oper) (R:List (Nat×aY)),ops.toList=pre++l→pre.length=i→i+k=m→ROk S0 ub ops i R→g_ E S0 wr wl need ub K k i l R→
      ∃X l',ROk S0 ub ops m (X++R)∧(∀p∈X,i≤p.1)∧(∀j,i≤j→j<m→rK E S0 wr wl need ub ops (X++R) j)∧(∃pre',ops.toList=pre'++l'∧pre'.length=m)∧i5 E m (dsR (X++R)) l' K (cu S0 wr kI (fE ub (X++R)) (X++R) m)
  | 0,i,l,pre,R,hl,hp,hm,hR,hk=>by
    obtain rfl:i=m:=by omega
    exact ⟨[],l,hR,by simp,fun j h1 h2=>by omega,⟨pre,hl,hp⟩,hk⟩
  | k+1,i,[],pre,R,hl,hp,hm,hR,hk=>hk.elim
  | k+1,i,o::l,pre,R,hl,hp,hm,hR,hk=>by
    have ho:ops[i]? =some o:=by
      rw [←Array.getElem?_toList,hl,←hp,List.getElem?_append_right (Nat.le_refl _)]
      simp
    have hdo:o.dst=du ops i:=by simp [du,ho]
    -- what is left, behind the entry of this operation
    have rest: ∀r:aY,r.d=o.dst→vX (cu S0 (wrF wl need i wr) (bp (need.getD i [])) (cf ub need i R) R i) ub i r→g_ E S0 wr wl need ub K k (i+1) l ((i,r)::R)→
        ∃X l',ROk S0 ub ops m (X++(i,r)::R)∧(∀p∈X,i+1≤p.1)∧(∀j,i+1≤j→j<m→rK E S0 wr wl need ub ops (X++(i,r)::R) j)∧(∃pre',ops.toList=pre'++l'∧pre'.length=m)∧i5 E m (dsR (X++(i,r)::R)) l' K (cu S0 wr kI (fE ub (X++(i,r)::R)) (X++(i,r)::R) m):=
      fun r hd hb hk=>Ab hneed k (i+1) l (pre++[o]) _ (by rw [hl];simp) (by simp [hp]) (by omega) (hR.cons (hd.trans hdo) (fun k b h=>(hb k b h).1) (fun k b h=>(hb k b h).2)) hk
    have gB: ∀(r:aY) (X:List (Nat×aY)),(∀p∈X,i+1≤p.1)→cu S0 (wrF wl need i wr) (bp (need.getD i [])) (cf ub need i (X++(i,r)::R)) (X++(i,r)::R) i=cu S0 (wrF wl need i wr) (bp (need.getD i [])) (cf ub need i R) R i:=by
      intro r X hX
      have hsk: ∀p∈X++[(i,r)],bp (need.getD i []) p.1=false:=by
        intro p hp'
        have hge:i≤p.1:=by
          rcases List.mem_append.1 hp' with h|h
          · have:=hX p h;omega
          · simp at h;subst h;exact Nat.le_refl _
        cases hb:bp (need.getD i []) p.1 with
        | false=>rfl
        | true=>
          have:=hneed i (by omega) p.1 (fF.1 hb)
          omega
      have e:X++(i,r)::R=(X++[(i,r)])++R:=by simp
      unfold cu
      rw [e,z7 hsk,z8 hsk,GJ hsk]
    have fin: ∀(r:aY),r.d=o.dst→vX (cu S0 (wrF wl need i wr) (bp (need.getD i [])) (cf ub need i R) R i) ub i r→g_ E S0 wr wl need ub K k (i+1) l ((i,r)::R)→
        ((o.guard=none∧nr E (cu S0 (wrF wl need i wr) (bp (need.getD i [])) (cf ub need i R) R i) ub i o r)∨ ∃j want b rj,o.guard=some (j,want)∧j∈need.getD i []∧(j,rj)∈R∧rj.d≠none∧gb rj.v=some b∧((b=some want∧nr E (cu S0 (wrF wl need i wr) (bp (need.getD i [])) (cf ub need i R) R i) ub i o r)∨(b≠some want∧r.v= .tup []∧r.b=none)))→
        ∃X l',ROk S0 ub ops m (X++R)∧(∀p∈X,i≤p.1)∧(∀j,i≤j→j<m→rK E S0 wr wl need ub ops (X++R) j)∧(∃pre',ops.toList=pre'++l'∧pre'.length=m)∧i5 E m (dsR (X++R)) l' K (cu S0 wr kI (fE ub (X++R)) (X++R) m):=by
      intro r hd hb hk hj
      obtain ⟨X,l',h1,h2,h3,h4,h5⟩:=rest r hd hb hk
      have e:X++(i,r)::R=(X++[(i,r)])++R:=by simp
      refine ⟨X++[(i,r)],l',by rw [←e];exact h1,?_,?_,h4,by rw [←e];exact h5⟩
      · intro p hp'
        rcases List.mem_append.1 hp' with h|h
        · have:=h2 p h;omega
        · simp at h;subst h;exact Nat.le_refl _
      · intro j hj1 hj2
        rw [←e]
        rcases Nat.lt_or_ge i j with h|h
        · exact h3 j h hj2
        · obtain rfl:j=i:=by omega
          intro o' ho'
          rw [ho] at ho';cases ho'
          refine ⟨r,by simp,hd,?_⟩
          rw [gB r X h2]
          rcases hj with hj|⟨j',want,b,rj,g1,g2,g3,g4⟩
          · exact .inl hj
          · exact .inr ⟨j',want,b,rj,g1,g2,by simp [g3],g4⟩
    simp only [g_] at hk
    rcases GK hk with ⟨hg,hk⟩|⟨j,want,b,rj,hg,hns,hrj,hdj,hvj,⟨hb,hk⟩|⟨hb,hk⟩⟩
    · obtain ⟨r,hj,hk,hp'⟩:=Aa hk
      exact fin r hj.1 hp' hk (.inl ⟨hg,hj⟩)
    · obtain ⟨r,hj,hk,hp'⟩:=Aa hk
      exact fin r hj.1 hp' hk (.inr ⟨j,want,b,rj,hg,fF.1 hns,hrj,hdj,hvj,.inl ⟨hb,hj⟩⟩)
    · exact fin ⟨o.dst,.tup [],none⟩ rfl (fun k b hb=>by cases hb) hk (.inr ⟨j,want,b,rj,hg,fF.1 hns,hrj,hdj,hvj,.inr ⟨hb,rfl,rfl⟩⟩)
theorem vY: ∀{R:List (Nat×aY)} {j t:Nat},al (dsR R) j=some t→ ∃r,(j,r)∈R∧r.d=some t
  | [],j,t,h=>by simp [dsR,al] at h
  | (k,r)::R,j,t,h=>by
    simp only [dsR] at h
    split at h
    · rename_i t' ht
      simp only [al] at h
      split at h
      · rename_i e;subst e;cases h;exact ⟨r,by simp,ht⟩
      · obtain ⟨r',h1,h2⟩:=vY h;exact ⟨r',by simp [h1],h2⟩
    · obtain ⟨r',h1,h2⟩:=vY h;exact ⟨r',by simp [h1],h2⟩
theorem GL [mo:Mo] (hwl:wlB ops m wl=true) (hE:bh E) (hmo:E.P.follows .mixedOrders=true) {n n':Nat} (hsl:gn n ops=true) (hB:jx n' m ops wr need=true) (hU:ubB m need ub S0.nx=true) (hneed: ∀i,i<m→ ∀j∈need.getD i [],j<i) {K:St→Prop} {Q:Exit→Act→World→Prop} (hQ:vO E c0 n K (Q .normal))
    {id:Nat} {a:Act} (h:bf E c0 c ρ S0 F) (hf:Fr n F a) (hk:g_ E S0 wr wl need ub K m 0 ops.toList []):wq E.P (Code.region id ops true) Q a c.w:=by
  simp only [jx,Bool.and_eq_true,decide_eq_true_eq] at hB
  obtain ⟨⟨⟨⟨⟨_,hE'⟩,hN⟩,hW⟩,hTB⟩,hm⟩:=hB
  obtain ⟨R,l',hR,_,hT,⟨pre',hl',hp'⟩,hk'⟩:=Ab hneed m 0 ops.toList [] [] rfl rfl (by omega) ⟨by simp,by simp,by simp,by simp,.nil⟩ hk
  rw [List.append_nil] at hR hT hk'
  have hH0: ∀i b,al S0.H i=some b→i<S0.nx:=by
    intro i b hb
    rcases Nat.lt_or_ge i S0.nx with h1|h1
    · exact h1
    · exfalso
      have h5:=h.1.heap _ _ hb
      have h6:=h.2 i h1
      cases b<;>first|(obtain ⟨_,h5,_⟩:=h5;rw [h6] at h5;cases h5)|(obtain ⟨h5,_⟩:=h5;rw [h6] at h5;cases h5)
  refine wpIn_region_any hmo ?_
  have hdr:Below c.w.heap.size c.w c.w.drew:=(Below.refl _ _).drew
  have hle:c.le (c.at c.w.drew hdr.size):=Cx.le_at hdr
  have hnone: ∀i,¬bP (Array.replicate ops.size false) i:=fun i hi=>by
    simp only [bP,Array.getD_eq_getD_getElem?,Array.getElem?_replicate] at hi
    split at hi<;>simp at hi
  refine Fa (Inv:=fun L F w=> ∃c ρ,c.w=w∧hP E c0 S0 ub m R L F c ρ) hsl hE' hN hTB hm ?_ (GI hE hwl hW hU hR hH0 (fun i hi=>hT i (Nat.zero_le _) hi)) ?_ ops.size _ (by simp) ?_ ?_ ?_ F _ ⟨c.at c.w.drew hdr.size,ρ,rfl,?_⟩ a hf
  · rintro L L' F w hL ⟨c,ρ,hc,hI⟩
    have hpb: ∀i,PB S0 ub R L' i→PB S0 ub R L i:=fun i h1=>⟨fun j r e1 e2=>h1.1 j r e1 ((hL j (hR.dst j r e1).1).1 e2),h1.2.imp (fun x=>x) fun ⟨l,r,b,g1,g2,g3⟩=>⟨l,r,b,g1,(hL l (hR.dst l r g1).1).2 g2,g3⟩⟩
    refine ⟨c,ρ,hc,hI.since,hI.gl,?_,fun t v ht hno=>hI.old t v ht fun j r g1 g2=>hno j r g1 ((hL j (hR.dst j r g1).1).1 g2),?_,?_,?_,?_⟩
    · intro j r hj hl;exact hI.slot j r hj ((hL j (hR.dst j r hj).1).2 hl)
    · intro j r k b hj hl hb hla hnk;exact hI.heap j r k b hj ((hL j (hR.dst j r hj).1).2 hl) hb (fun w r' b' hw hl'=>hla w r' b' hw ((hL w (hR.dst w r' hw).1).1 hl')) fun j r e1 e2=>hnk j r e1 ((hL j (hR.dst j r e1).1).1 e2)
    · intro i b hb hno hnk;exact hI.heap0 i b hb (fun j r b' g1 g2=>hno j r b' g1 ((hL j (hR.dst j r g1).1).1 g2)) fun j r e1 e2=>hnk j r e1 ((hL j (hR.dst j r e1).1).1 e2)
    · intro i j k hij h1 h2
      exact hI.sep i j k hij (hpb i h1) (hpb j h2)
    · intro i hi hne
      exact hI.fresh i hi fun j hj hl=>hne j hj ((hL j hj).1 hl)
  · rintro F w ⟨c,ρ,rfl,hI⟩ a hf
    have hS:bf E c0 c ρ (cu S0 wr kI (fE ub R) R m) F:=by
      refine ⟨hI.sim (wr:=wr) (fun t ht j r g1 _ g3=>ht (oJ hW (hR.dst j r g1).1 ((hR.dst j r g1).2▸g3)).1) (fun _ _=>trivial) hH0 (fun _ _ _ _ _ _ _ _ _=>rfl) (fun k hk j r h1 _=>vR (GB hk) j r h1 rfl) m hR.ord (fun _ _ _ _ _ _ _ _ _ _ _ _ _ _ _=>rfl),fun i hi=>hI.fresh i ?_ ?_⟩
      · simp only [cu] at hi;omega
      · intro j hj _;simp only [cu] at hi;omega
    have hds:pj ops m (dsR R):=by
      intro j t hj
      obtain ⟨r,h1,h2⟩:=vY hj
      obtain ⟨h3,h4⟩:=hR.dst j r h1
      exact ⟨h3,by rw [←h2,h4];rfl⟩
    have:=vP hE hsl hQ l' pre' (dsR R) hl' (by rw [hp'];exact hds) c ρ _ F a hS hf (by rw [hp'];exact hk')
    rw [hp'] at this
    have hlen:l'.length=ops.size - m:=by
      have h6:ops.size=pre'.length+l'.length:=by
        have:=congrArg List.length hl'
        simpa using this
      omega
    rw [hlen] at this
    exact this
  · have: ∀i,(Array.replicate ops.size false).getD i false=false:=fun i=>by
      simp only [Array.getD_eq_getD_getElem?,Array.getElem?_replicate];split<;>rfl
    simp [gY,this]
  · intro i o hi;exact absurd hi (hnone i)
  · intro i hi;exact absurd hi (hnone i)
  · refine ⟨h.1.since.le hle,h.1.gl.mono hle.pub,?_,?_,?_,?_,?_,?_⟩
    · intro j r _ hl;exact absurd hl (hnone j)
    · intro t v ht _;exact bA hle.pub (h.1.slot t v ht)
    · intro j r k b _ hl;exact absurd hl (hnone j)
    · intro i b hb _ _;exact iY hle.chg (fun _ _ _ hx=>by cases hx) (h.1.heap i b hb)
    · rintro i j k hij ⟨_,⟨bi,h1,h2⟩|⟨l,r,b,_,hl,_⟩⟩ ⟨_,⟨bj,h3,h4⟩|⟨l',r',b',_,hl',_⟩⟩
      · exact h.1.sep i j bi bj k hij h1 h3 h2 h4
      · exact absurd hl' (hnone _)
      · exact absurd hl (hnone _)
      · exact absurd hl (hnone _)
    · intro i hi _;exact h.2 i hi
end
end Go.Proofs.YtiknkaadhomeiaaGreatDoor
namespace Go.Proofs.YtiknkaadhomeiaaGreatDoor
open Go.RowKit
def Cx.lend (c:Cx) (Y:List Nat):Cx:={X:=c.X,w:=c.w,ok:=c.ok,Y:=Y}
theorem Cx.chg_lend (c:Cx) (Y:List Nat):c.chg none (c.lend Y):=⟨rfl,rfl,rfl,Nat.le_refl _,fun _ _ _=>rfl,fun _ _=>Iff.rfl,fun k hk=>by cases hk⟩
theorem Cx.pub_lend (c:Cx) (Y:List Nat):c.pub (c.lend Y):=(c.chg_lend Y).pub
section
variable {E:Env} {c0 c c1 c2:Cx} {ρ ρ':Ro} {S S':St} {F F':Fm}
theorem eQ {i:Nat} {v:Value} {n:Nat} {a:Option Addr} {cap:Nat} (h1:ρ i=some v) (e:v= .slice a n cap):am ρ i=blk v:=by
 unfold am;rw [h1,e]
def dU (ρ:Ro) (H:List (Nat×Blk)):List Nat:=H.filterMap fun p=>match al H p.1 with
 | some b=>if aW b then am ρ p.1 else none
 | none=>none
theorem rL {H:List (Nat×Blk)} {k:Nat}:k∈dU ρ H↔ ∃i b,al H i=some b∧aW b=true∧am ρ i=some k:=by
 constructor
 ·intro h
  obtain ⟨p,hp,he⟩:=List.mem_filterMap.1 h
  split at he
  ·rename_i b hb
   split at he
   ·rename_i hp';exact ⟨p.1,b,hb,hp',he⟩
   ·cases he
  ·cases he
 ·rintro ⟨i,b,h1,h2,h3⟩
  exact List.mem_filterMap.2 ⟨(i,b),me h1,by simp only [h1,h2,if_true];exact h3⟩
theorem Ac {i:Nat} {b:Blk} (h:blkOk c0 c ρ i b) (hm:aW b=true→ ∀k,am ρ i=some k→c1.mine k):blkOk c1 c ρ i b:=by
 cases b with
 | var n g d=>
  obtain ⟨b,h1,h2,h3⟩:=h
  exact ⟨b,h1,hm rfl b (by simp [am,h1]),h3⟩
 | own E n g z l=>
  obtain ⟨v,h1,h2,h3,h4,a,cap,e,h5⟩:=h
  exact ⟨v,h1,h2,fun k hk=>hm rfl k (by rw [eQ h1 e];exact hk),h4,a,cap,e,h5⟩
 | ownI E n g z l=>
  obtain ⟨v,h1,h2,h3,h4,a,cap,e,h5⟩:=h
  exact ⟨v,h1,h2,fun k hk=>hm rfl k (by rw [eQ h1 e];exact hk),h4,a,cap,e,h5⟩
 | pvar n g d=>exact h
 | pown n g z l=>exact h
 | lent k n g d=>
  obtain ⟨h1,h2,h3⟩:=h
  exact ⟨h1,hm rfl k (by simp [am,h1]),h3⟩
 | kset g k n l=>
  obtain ⟨r,h1,h2,h3⟩:=h
  exact ⟨r,h1,hm rfl r (by simp [am,h1,blk]),h3⟩
theorem rM {i:Nat} {b:Blk} (hp:aW b=true) (h:blkOk c0 c ρ i b) {k:Nat} (hk:am ρ i=some k):k∈c.X∧ ∃o,c.w.heap[k]? =some o∧(o.isCells=true∨((∃g k' n l,b= .kset g k' n l)∧ ∃es cl,o= .map es cl)):=by
 cases b with
 | var n g d=>
  obtain ⟨b,h1,h2,h3,T,cs,h4,_⟩:=h
  simp only [am,h1,Option.some.injEq] at hk
  subst hk;exact ⟨h3,_,h4,.inl rfl⟩
 | own E n g z l=>
  obtain ⟨v,h1,h2,h3,h4,a,cap,e,h5⟩:=h
  rw [eQ h1 e] at hk
  refine ⟨h2.isX k hk,?_⟩
  rcases h2.2 with ⟨a,rfl,_⟩|⟨g',cap,cur,rfl,g1,g2,_⟩
  ·cases a<;>simp [blk] at hk
  ·simp only [blk,Option.some.injEq] at hk;subst hk;exact ⟨_,g2,.inl rfl⟩
 | ownI E n g z l=>
  obtain ⟨v,h1,h2,h3,h4,a,cap,e,h5⟩:=h
  rw [eQ h1 e] at hk
  refine ⟨h2.isX k hk,?_⟩
  rcases h2.2 with ⟨a,rfl,_⟩|⟨g',cap,cur,rfl,g1,g2,_⟩
  ·cases a<;>simp [blk] at hk
  ·simp only [blk,Option.some.injEq] at hk;subst hk;exact ⟨_,g2,.inl rfl⟩
 | pvar n g d=>cases hp
 | pown n g z l=>cases hp
 | lent k' n g d=>
  obtain ⟨h1,h2,h3,T,cs,h4,_⟩:=h
  simp only [am,h1,Option.some.injEq] at hk
  subst hk;exact ⟨h3,_,h4,.inl rfl⟩
 | kset g k' n l=>
  obtain ⟨r,h1,h2,h3,h4,es,cl,h5,_⟩:=h
  simp only [am,h1,blk,Option.some.injEq] at hk
  subst hk;exact ⟨h3,_,h5,.inr ⟨⟨g,k',n,l,rfl⟩,es,cl,rfl⟩⟩
theorem GM (h:bf E c0 c ρ S F) {k:Nat} (hk:k∈dU ρ S.H):k∈c.X:=by
 obtain ⟨i,b,h1,h2,h3⟩:=rL.1 hk
 exact (rM h2 (h.1.heap i b h1) h3).1
theorem vZ (h:bf E c0 c ρ S F) {k:Nat} (hk:k∈dU ρ S.H):c0.mine k:=by
 obtain ⟨i,b,h1,h2,h3⟩:=rL.1 hk
 exact iZ h.1 h1 h2 k h3
theorem Ad (h:bf E c0 c ρ S F):bf E (c.lend (dU ρ S.H)) (c.lend (dU ρ S.H)) ρ S F:=by
 refine ⟨⟨cB.refl _,h.1.gl.mono (c.pub_lend _),fun t v ht=>bA (c.pub_lend _) (h.1.slot t v ht),fun i b hb=> ?_,h.1.sep⟩,h.2⟩
 exact Ac (iY (c.chg_lend _) (fun _ _ _ e=>by cases e) (h.1.heap i b hb)) fun hp k hk=> .inr (rL.2 ⟨i,b,hb,hp,hk⟩)
theorem rN (h:bf E c0 c ρ S F) (hs:cB (c.lend (dU ρ S.H)) c2) (h2:bf E (c.lend (dU ρ S.H)) c2 ρ' S' F'):bf E c0 c2 ρ' S' F':=by
 have hm: ∀k,(c.lend (dU ρ S.H)).mine k→c0.mine k:=by
  rintro k (hk|hk)
  ·exact .inl (Nat.le_trans h.1.since.size hk)
  ·exact vZ h hk
 refine ⟨⟨⟨⟨hs.below.os.trans h.1.since.below.os,hs.below.tape.trans h.1.since.below.tape,hs.below.output.trans h.1.since.below.output,Nat.le_trans h.1.since.size hs.size,fun k hk hy=> ?_⟩,fun k hk hy=> ?_,fun k hk hx=> ?_⟩,h2.1.gl,h2.1.slot,fun i b hb=> ?_,h2.1.sep⟩,h2.2⟩
 ·refine (hs.below.block k (Nat.lt_of_lt_of_le hk h.1.since.size) fun hY=> ?_).trans (h.1.since.below.block k hk hy)
  rcases vZ h hY with h1|h1
  ·omega
  ·exact hy h1
 ·refine hs.X k (h.1.since.X k hk hy) fun hY=> ?_
  rcases vZ h hY with h1|h1
  ·have:=c0.ok k hk;omega
  ·exact hy h1
 ·exact hs.Xn k (Nat.lt_of_lt_of_le hk h.1.since.size) (h.1.since.Xn k hk hx)
 ·exact Ac (h2.1.heap i b hb) fun hp k hk=>hm k (iZ h2.1 hb hp k hk)
theorem Ae (h:bf E c0 c ρ S F) (hs:cB (c.lend (dU ρ S.H)) c2):c.pub c2:=
 ⟨hs.size,fun k hk hx=>⟨hs.Xn k hk hx,fun o ho _=>(hs.below.block k hk fun hY=>hx (GM h hY)).trans ho⟩⟩
theorem Af (h:bf E c0 c ρ S F) (hs:cB (c.lend (dU ρ S.H)) c2) {k:Nat} {o:Obj} (ho:c.w.heap[k]? =some o) (hc:o.isCells=false) (hn:(∀es cl,o≠ .map es cl)∨ ∀i b,al S.H i=some b→ ∀g k n l,b≠ .kset g k n l):c2.w.heap[k]? =some o:=by
 refine (hs.below.block k (Array.getElem?_eq_some_iff.1 ho).1 fun hY=> ?_).trans ho
 obtain ⟨i,b,h1,h2,h3⟩:=rL.1 hY
 obtain ⟨_,o',h4,h5⟩:=rM h2 (h.1.heap i b h1) h3
 rw [show c.w.heap[k]? =_ from ho] at h4
 cases h4
 rcases h5 with h5|⟨⟨g,k',n,l,e⟩,es,cl,e2⟩
 ·rw [hc] at h5;cases h5
 ·rcases hn with hn|hn
  ·exact hn es cl e2
  ·exact hn i b h1 g k' n l e
theorem Ag (h:bf E c0 c ρ S F) {W':World} {row:Option Nat} (hg:c.w.grownBy W' row) (hr: ∀r,row=some r→c0.w.heap.size≤r∧ ∃o:Obj,c.w.heap[r]? =some o∧o.isCells=false)
  (hn: ∀r,row=some r→ ∀i b,al S.H i=some b→aW b=true→am ρ i≠some r): ∃c',c'.w=W'∧c.pub c'∧bf E c0 c' ρ S F:=by
 have keep: ∀k (o:Obj),c.w.heap[k]? =some o→o.isCells=true→W'.heap[k]? =some o:=fun k o ho hc=>by
  refine (hg.block k (Array.getElem?_eq_some_iff.1 ho).1 fun e=> ?_).trans ho
  obtain ⟨_,o',h1,h2⟩:=hr k e.symm
  rw [ho] at h1;cases h1;rw [hc] at h2;cases h2
 have hok: ∀k,k∈c.X→k<W'.heap.size:=fun k hk=>Nat.lt_of_lt_of_le (c.ok k hk) hg.size
 let c':Cx:=⟨c.X,W',hok,c.Y⟩
 have hp:c.pub c':=⟨hg.size,fun k hk hx=>⟨hx,fun o ho hc=>keep k o ho hc⟩⟩
 refine ⟨c',rfl,hp,⟨⟨⟨hg.os.trans h.1.since.below.os,hg.tape.trans h.1.since.below.tape,hg.output.trans h.1.since.below.output,Nat.le_trans h.1.since.size hg.size,fun k hk hy=> ?_⟩,h.1.since.X,h.1.since.Xn⟩,h.1.gl.mono hp,fun t v ht=>bA hp (h.1.slot t v ht),fun i b hb=> ?_,h.1.sep⟩,h.2⟩
 ·refine (hg.block k (Nat.lt_of_lt_of_le hk h.1.since.size) fun e=> ?_).trans (h.1.since.below.block k hk hy)
  have:=(hr k e.symm).1;omega
 ·have h1:=h.1.heap i b hb
  cases b with
  | var n g d=>
   obtain ⟨b,h1,h2,h3,T,cs,h4,h5,h6⟩:=h1
   exact ⟨b,h1,h2,h3,T,cs,keep _ _ h4 rfl,h5,bA hp h6⟩
  | own E n g z l=>
   obtain ⟨v,h1,h2,h3⟩:=h1
   refine ⟨v,h1,⟨h2.1,?_⟩,h3⟩
   rcases h2.2 with h'|⟨g',cap,cur,rfl,g1,g2,g3,g4,g5,g6⟩
   ·exact .inl h'
   ·exact .inr ⟨g',cap,cur,rfl,g1,keep _ _ g2 rfl,g3,g4,g5,dh hp g6⟩
  | ownI E n g z l=>
   obtain ⟨v,h1,h2,h3⟩:=h1
   refine ⟨v,h1,⟨h2.1,?_⟩,h3⟩
   rcases h2.2 with h'|⟨g',cap,cur,rfl,g1,g2,g3,g4,g5,g6⟩
   ·exact .inl h'
   ·exact .inr ⟨g',cap,cur,rfl,g1,keep _ _ g2 rfl,g3,g4,g5,dh hp g6⟩
  | pvar n g d=>
   obtain ⟨b,h1,h2⟩:=h1
   exact ⟨b,h1,(kp _).mono h2 hp⟩
  | pown n g z l=>
   obtain ⟨v,h1,h2⟩:=h1
   exact ⟨v,h1,bA hp h2⟩
  | lent k n g d=>
   obtain ⟨h1,h2,h3,T,cs,h4,h5,h6⟩:=h1
   exact ⟨h1,h2,h3,T,cs,keep _ _ h4 rfl,h5,bA hp h6⟩
  | kset g k n l=>
   obtain ⟨r,h1,h2,h3,h4,es,cl,h5,h6⟩:=h1
   refine ⟨r,h1,h2,h3,h4,es,cl,?_,h6⟩
   refine (hg.block r (Array.getElem?_eq_some_iff.1 h5).1 fun e=> ?_).trans h5
   exact hn r e.symm i _ hb rfl (by simp [am,h1,blk])
def eF (B:Nat):List Deferred→World→Prop
 | [],_=>True
 | d::ds,w=>(∃k,d={target:= .collected k,args:= #[]}∧B≤k∧w.heap[k]? =some (.deferred (some []))∧ ∀e∈ds,e≠d)∧eF B ds w
theorem eF.keep {B:Nat}: ∀{ds:List Deferred} {w w':World},eF B ds w→(∀k,{target:= .collected k,args:= #[]}∈ds→w.heap[k]? =some (.deferred (some []))→w'.heap[k]? =some (.deferred (some [])))→eF B ds w'
 | [],_,_,_,_=>trivial
 | d::ds,w,w',h,k=>by
  obtain ⟨⟨i,h1,h2,h3,h4⟩,h5⟩:=h
  exact ⟨⟨i,h1,h2,k i (by rw [h1];simp) h3,h4⟩,h5.keep fun j hj=>k j (List.mem_cons_of_mem _ hj)⟩
theorem eF.since {B:Nat} {ds:List Deferred} (hd:eF B ds c.w) (h:bf E c0 c ρ S F) (hs:cB (c.lend (dU ρ S.H)) c2):eF B ds c2.w:=
 hd.keep fun _ _ ho=>Af h hs ho rfl (.inl fun _ _ e=>by cases e)
theorem eF.mem {B:Nat}: ∀{ds:List Deferred} {w:World},eF B ds w→ ∀{k:Nat},{target:= .collected k,args:= #[]}∈ds→w.heap[k]? =some (.deferred (some []))
 | [],_,_,_,h=>by cases h
 | d::ds,w,hd,k,h=>by
  obtain ⟨⟨i,h1,h2,h3,h4⟩,h5⟩:=hd
  rcases List.mem_cons.1 h with h|h
  ·rw [h1] at h;cases h;exact h3
  ·exact h5.mem h
theorem rO {Fe:Fence} {m:Nat} {fn:Func} {tmps:Array Value} {R:Ending→World→Prop}: ∀{ds:List Deferred} {c:Cx},bf E c0 c ρ S F→eF c0.w.heap.size ds c.w→(∀c',bf E c0 c' ρ S F→ ∃v,(results fn tmps).run E.P c'.w= .ok v c'.w∧R (.returned v) c'.w)→LeavesInM Fe m E.P fn tmps R ds .returning c.w
 | [],c,h,_,k=>k c h
 | d::ds,c,h,hd,k=>by
  obtain ⟨⟨i,h1,h2,h3,h4⟩,h5⟩:=hd
  refine ⟨by simp,.inl ⟨i,_,by rw [h1],run_takeDeferred h3,?_⟩⟩
  have hg:=grownBy_putObj' c.w i (.deferred none)
  obtain ⟨c',e,_,h'⟩:=Ag h hg (fun r e=>by cases e;exact ⟨h2,_,h3,rfl⟩) (fun r e j b hb hp hr=>by
   cases e
   obtain ⟨_,o,g1,g2⟩:=rM hp (h.1.heap j b hb) hr
   rw [h3] at g1;cases g1
   rcases g2 with g2|⟨_,es,cl,g2⟩
   ·cases g2
   ·cases g2)
  rw [←e]
  refine rO h' ?_ k
  rw [e]
  refine h5.keep fun j hj ho=>(World.putObj_heap_other fun e=> ?_).trans ho
  exact h4 _ hj (by rw [h1,e])
end
def fY (c:Cx) (W W':World):Prop:=W.heap.size≤W'.heap.size∧ ∀k,k<c.w.heap.size→k∉c.X→ ∀o:Obj,W.heap[k]? =some o→o.isCells=true→W'.heap[k]? =some o
def pr (E:Env) (gf:FuncId) (caps:List V) (xs:List (List V)):Prop:=
 (∀aas w,(callFunc gf aas).run E.P w= .ok (.enter gf aas) w)∧
 ∀(c:Cx) (us:List Value),Gl E c→rdT ro0 c caps us→ ∃encs:Nat→List Value,(∀i l,xs[i]? =some l→rdT ro0 c l (encs i))∧
  SeqStopsK Fence.wide 2 E.P gf us.toArray (fun i:Fin xs.length=>(encs i.val).toArray) (fY c) (fun l=>l.map (·.val)=List.range xs.length) (fun l=>l.map (·.val)=List.range l.length∧l≠[]) xs.length c.w
theorem GN {Fe:Fence} (hF:Fe.depth=none) {m m':Nat} {P:Program} {x:Code} {Q:Exit→Act→World→Prop} {a:Act} {w:World} (h:x.wpIn Fe m P Q a w):x.wpIn Fe m' P Q a w:=
 fun b k cs h1 h2 _=>h b k cs h1 h2 fun d hd=>by rw [hF] at hd;cases hd
def dk:Nat:=100000
def upF (F:List (Nat×V)):List (Nat×V):=F.map fun p=>(dk+p.1,p.2)
def dnF (F:List (Nat×V)):List (Nat×V):=F.filterMap fun p=>if dk≤p.1 then some (p.1 - dk,p.2) else none
def dnS (S:St):St:={S with F:=dnF S.F}
theorem Ah: ∀{F:List (Nat×V)} {t:Nat},al (dnF F) t=al F (dk+t)
 | [],_=>rfl
 | (i,v)::l,t=>by
  have ih:=Ah (F:=l) (t:=t)
  by_cases h:dk≤i
  ·simp only [dnF,List.filterMap_cons,h,if_true,al] at ih⊢
   by_cases e:i=dk+t
   ·rw [if_pos e,if_pos (by omega)]
   ·rw [if_neg e,if_neg (by omega)];exact ih
  ·simp only [dnF,List.filterMap_cons,h,if_false,al] at ih⊢
   rw [if_neg (by omega)];exact ih
theorem Ai: ∀{F:List (Nat×V)} {t:Nat} {v:V},al (upF F) t=some v→dk≤t∧al F (t - dk)=some v
 | [],_,_,h=>by simp [upF,al] at h
 | (i,x)::l,t,v,h=>by
  simp only [upF,List.map_cons,al] at h⊢
  split at h
  ·rename_i e
   cases h
   exact ⟨by omega,by rw [if_pos (by omega)]⟩
  ·rename_i e
   obtain ⟨h1,h2⟩:=Ai (F:=l) h
   exact ⟨h1,by rw [if_neg (by omega)];exact h2⟩
theorem Aj: ∀{A B:List (Nat×V)} {t:Nat},al (A++B) t=match al A t with|some v=>some v|none=>al B t
 | [],B,t=>rfl
 | (i,v)::l,B,t=>by
  simp only [List.cons_append,al]
  split
  ·rfl
  ·exact Aj
theorem v_ {ρ:Ro} {c:Cx}: ∀{l:List V} {cs:List Value},rdT ρ c l cs→cs.length=l.length
 | [],cs,h=>by simp only [rdT] at h;subst h;rfl
 | d::l,cs,h=>by
  simp only [rdT] at h
  obtain ⟨u,c2,rfl,_,h3⟩:=h
  simp [v_ h3]
def dI (l:List (Nat×Value)) (A:Array Value):Array Value:=l.foldl (fun t p=>t.setIfInBounds p.1 p.2) A
theorem Ak: ∀{l:List (Nat×Value)} {A:Array Value},(dI l A).size=A.size
 | [],_=>rfl
 | p::l,A=>by simp only [dI,List.foldl_cons];exact (Ak (l:=l)).trans (by simp)
theorem wa: ∀{l:List (Nat×Value)} {A:Array Value} {t:Nat},t∉l.map (·.1)→(dI l A).getD t undef=A.getD t undef
 | [],_,_,_=>rfl
 | p::l,A,t,h=>by
  simp only [List.map_cons,List.mem_cons,not_or] at h
  simp only [dI,List.foldl_cons]
  refine (wa (l:=l) h.2).trans ?_
  simp [Array.getD_eq_getD_getElem?,Ne.symm h.1]
theorem Al {c:Cx} {ρ:Ro}: ∀{ps:List Nat} {l:List V} {us:List Value} {A:Array Value} {t:Nat} {v:V},rdT ρ c l us→ps.Nodup→l.length=ps.length→(∀p∈ps,p<A.size)→al (ps.zip l) t=some v→t∈ps∧rd ρ c v ((dI (ps.zip us) A).getD t undef)
 | [],_,_,_,_,_,_,_,_,_,h=>by simp [al] at h
 | p::ps,[],_,_,_,_,_,_,hl,_,_=>by simp at hl
 | p::ps,d::l,us,A,t,v,hr,hn,hl,hA,h=>by
  simp only [rdT] at hr
  obtain ⟨u,us',rfl,h1,h2⟩:=hr
  simp only [List.zip_cons_cons,al] at h
  simp only [List.nodup_cons] at hn
  split at h
  ·rename_i e
   cases h;subst e
   refine ⟨by simp,?_⟩
   simp only [List.zip_cons_cons,dI,List.foldl_cons]
   have:=wa (l:=ps.zip us') (A:=A.setIfInBounds p u) (t:=p) (fun hm=>hn.1 (by
    obtain ⟨q,hq,e⟩:=List.mem_map.1 hm
    have:=(List.of_mem_zip hq).1
    rw [e] at this;exact this))
   simp only [dI] at this
   rw [this]
   have hp:=hA p (by simp)
   simpa [Array.getD_eq_getD_getElem?,hp] using h1
  ·obtain ⟨g1,g2⟩:=Al (A:=A.setIfInBounds p u) h2 hn.2 (by simpa using hl) (fun q hq=>by simpa using hA q (List.mem_cons_of_mem _ hq)) h
   exact ⟨List.mem_cons_of_mem _ g1,g2⟩
def asg:Code→Option (Nat×Nat)
 | .region _ ops false=>match ops.toList with
  | [o]=>match o.dst,o.op,o.guard with
   | some d,.assign (.tmp p),none=>some (d,p)
   | _,_,_=>none
  | _=>none
 | _=>none
theorem GO {Fe:Fence} {m:Nat} {P:Program} {x:Code} {d p:Nat} (h:asg x=some (d,p)) {K:Act→World→Prop} {Q:Exit→Act→World→Prop} {a:Act} {w:World} (hF: ∀f,Fe.fn f) (hk:K (a.put (some d) (a.tmps.getD p undef)) w):x.wpIn Fe m P (Exit.then K Q) a w:=by
 unfold asg at h
 split at h
 ·rename_i id ops
  split at h
  ·rename_i o ho
   split at h
   ·rename_i d' p' hd hop hg
    cases h
    have ho':ops= #[o]:=by rw [←Array.toArray_toList (xs:=ops),ho]
    subst ho'
    refine wpIn_region ?_
    have hw:Region.wanted o (yielded #[o] a.tmps)=true:=by simp [Region.wanted,hg]
    simp only [List.size_toArray,List.length_cons,List.length_nil,show List.range (0+1)=[0] from rfl,wpOpsIn,List.getElem?_toArray,List.getElem?_cons_zero,hw,if_true]
    refine ⟨fun f _=>hF f,?_⟩
    rw [Oper.semAt_eq _ _ _ fun c hc=>by rw [hop] at hc;cases hc]
    simp only [execOp,hop,Sem.run_pure,Oper.uponIn,hd]
    exact hk
   ·cases h
  ·cases h
 ·cases h
def kJ (H:List (Nat×Blk)):Bool:=H.all fun p=>match p.2 with| .kset _ _ _ _=>false|_=>true
theorem Am {H:List (Nat×Blk)} (h:kJ H=true) {i:Nat} {b:Blk} (hb:al H i=some b): ∀g k n l,b≠ .kset g k n l:=by
 rintro g k n l rfl
 have:=List.all_eq_true.1 h _ (me hb)
 simp at this
def rP (F:List (Nat×V)):Bool:=F.all fun p=>decide (p.1<dk)
theorem GP {F:List (Nat×V)} (h:rP F=true) {t:Nat} {v:V} (ht:al F t=some v):t<dk:=by
 have:=List.all_eq_true.1 h _ (me ht)
 simpa using this
def rQ (d p:Nat) (ps:List Nat) (l:List V) (S:St):St:=
 {S with F:=(match al (ps.zip l) p with|some v=> [(d,v)]|none=> [])++ps.zip l++S.F++upF S.F}
end Go.Proofs.YtiknkaadhomeiaaGreatDoor
namespace Go.Proofs.YtiknkaadhomeiaaGreatDoor
open Go.RowKit
def co (E:Env) (S S1:St):Prop:= ∀c0 c ρ F,bf E c0 c ρ S F→ ∃c1 ρ1,c1.w=c.w∧bf E c0 c1 ρ1 S1 F
abbrev cC:=List Nat
def i6:Code→Option Nat
 | .region id _ _=>some id
 | .seq a b=>match i6 a with
  | some i=>some i
  | none=>i6 b
 | .cond _ a b=>match i6 a with
  | some i=>some i
  | none=>i6 b
 | .block _ a=>i6 a
 | .loop a=>i6 a
 | _=>none
def mj (J:cC) (b:Code):Bool:=match i6 b with
 | some i=>bp J i
 | none=>false
def nt (E:Env) (M:St→Prop) (S:St):Prop:= ∃S1,co E S S1∧M S1
def GQ (E:Env) (ops:Array Oper):Bool→(St→Prop)→St→Prop
 | false,K,S=>i5 E 0 [] ops.toList K S
 | true,K,S=> ∃n m wr wl need ub,(wlB ops m wl&&jx n m ops wr need&&((List.range m).all fun i=>(need.getD i []).all fun j=>decide (j<i)))=true∧ubB m need ub S.nx=true∧g_ E S wr wl need ub K m 0 ops.toList []
def nu (Q:Exit→St→Prop) (K:St→Prop):Exit→St→Prop
 | .normal,S=>K S
 | e,S=>Q e S
def wb (Q:Exit→St→Prop) (id:Nat):Exit→St→Prop
 | .exit j,S=>if j=id then Q .normal S else Q (.exit j) S
 | e,S=>Q e S
def pt (v:Option V) (A B:Prop):Prop:=match v with
 | some (.bool b)=>gy b true A B
 | _=>False
def rfK (E:Env) (ok:Prop) (Q:Exit→St→Prop) (N:St→Prop):Exit→St→Prop
 | .normal,S=> ∃S3,co E (dnS S) S3∧N S3
 | .ret,S=>kJ S.H=true∧(ok→Q .ret (dnS S))
 | .exit id,S=>kJ S.H=true∧(ok→Q (.exit id) (dnS S))
 | _,_=>False
def wpA (E:Env) (J:cC):Code→(Exit→St→Prop)→St→Prop
 | .skip,Q,S=>Q .normal S
 | .region id ops d,Q,S=>GQ E ops d (Q .normal) S
 | .seq a b,Q,S=>match mj J b with
  | false=>wpA E J a (nu Q (wpA E J b Q)) S
  | true=>wpA E J a (nu Q (nt E (wpA E J b Q))) S
 | .cond x a b,Q,S=>pt (S.ev E.gv x) (wpA E J a Q S) (wpA E J b Q S)
 | .block id a,Q,S=>wpA E J a (wb Q id) S
 | .loop a,Q,S=> ∃(I:Nat→St→Prop) (k0:Nat),(∃S1,co E S S1∧I k0 S1)∧ ∀k S',I k S'→wpA E J a (nu Q fun S2=> ∃k',k'<k∧ ∃S3,co E S2 S3∧I k' S3) S'
 | .ret,Q,S=>Q .ret S
 | .exit id,Q,S=>Q (.exit id) S
 | .scope a,Q,S=>False
 | .rangeFunc g ps as1 a,Q,S=> ∃(gf:FuncId) (caps:List V) (xs:List (List V)) (d p:Nat) (I:List Nat→St→Prop) (S1:St),co E S S1∧I [] S1∧S1.ev E.gv g=some (.fn gf caps)∧dG caps∧(asg as1=some (d,p)∧ps.toList.Nodup∧p∈ps.toList)∧pr E gf caps xs∧(∀l∈xs,l.length=ps.size)∧
   (∀pre S',I pre S'→(kJ S'.H&&rP S'.F)=true)∧
   (∀(pre:List Nat) i l S',I pre S'→xs[i]? =some l→pre.length<xs.length→wpA E J a (rfK E (pre++[i]=List.range (pre.length+1)) Q (I (pre++[i]))) (rQ d p ps.toList l S'))∧
   (∀S',I (List.range xs.length) S'→Q .normal S')
 | _,_,_=>False
def hZ:Code→Bool
 | .rangeFunc _ _ _ _=>false
 | .seq a b=>hZ a&&hZ b
 | .cond _ a b=>hZ a&&hZ b
 | .block _ a=>hZ a
 | .loop a=>hZ a
 | _=>true
def fr (n:Nat):Code→Bool
 | .region _ ops _=>gn n ops
 | .seq a b=>fr n a&&fr n b
 | .cond x a b=>inB n x&&(fr n a&&fr n b)
 | .block _ a=>fr n a
 | .loop a=>fr n a
 | .rangeFunc g ps as1 a=>(inB n g&&ps.toList.all (fun p=>decide (p<n))&&(match asg as1 with|some (d,_)=>decide (d<n)|none=>false)&&decide (n≤dk))&&(hZ a&&fr n a)
 | _=>true
section
variable {E:Env} {c0 c:Cx} {ρ:Ro} {S:St} {F:Fm}
def GR (r:Option Nat) (hi:Nat→Value) (E:Env) (c0:Cx) (n:Nat) (Q:Exit→St→Prop) (e:Exit) (a:Act) (w:World):Prop:= ∃c ρ S F ds,c.w=w∧bf E c0 c ρ S F∧Fr (mo:=⟨ds,r,hi⟩) n F a∧eF c0.w.heap.size ds w∧Q e S
theorem GS {r:Option Nat} {n d p:Nat} {ps:Array Tmp} {a:Act} {cx:Cx} {l:List V} {us:List Value} {hi:Nat→Value} (hx:bf E c0 cx ρ S F) (hf:a.tmps.size=n) (hsl: ∀t,t<n→a.tmps.getD t undef=F t) (hn:n≤dk) (hus:rdT ro0 cx l us) (hps: ∀q∈ps.toList,q<n) (hd:d<n) (hnd:ps.toList.Nodup) (hp:p∈ps.toList) (hl:l.length=ps.size) (hlo:rP S.F=true) (hFu: ∀t,n≤t→t<dk→F t=undef)
  (ehi:hi=fun t=>if dk≤t then F (t - dk) else undef):
  ∃Fb,bf E c0 cx ρ (rQ d p ps.toList l S) Fb∧Fr (mo:=⟨[],r,hi⟩) n Fb ((⟨dI (ps.toList.zip us) a.tmps,[]⟩:Act).put (some d) ((dI (ps.toList.zip us) a.tmps).getD p undef)):=by
 subst ehi
 have hsz:(dI (ps.toList.zip us) a.tmps).size=n:=Ak.trans hf
 have hlt: ∀q∈ps.toList,q<a.tmps.size:=fun q hq=>by rw [hf];exact hps q hq
 have hru:rdT ρ cx l us:=na (fun i v h=>by cases h) hus
 have hl':l.length=ps.toList.length:=by simpa using hl
 refine ⟨fun t=>if t<n then ((dI (ps.toList.zip us) a.tmps).setIfInBounds d ((dI (ps.toList.zip us) a.tmps).getD p undef)).getD t undef else (if dk≤t then F (t - dk) else undef),⟨⟨hx.1.since,hx.1.gl,?_,hx.1.heap,hx.1.sep⟩,hx.2⟩, @Fr.mk ⟨[],r,_⟩ n _ _ (by simp [Act.put,hsz]) rfl (fun t ht=>by simp only [if_pos ht];rfl) (fun t ht=>by simp only [if_neg (Nat.not_lt.2 ht)])⟩
 intro t v ht
 have zipR: ∀{t:Nat} {v:V},al (ps.toList.zip l) t=some v→t∈ps.toList∧rd ρ cx v ((dI (ps.toList.zip us) a.tmps).getD t undef):=fun h=>Al hru hnd hl' hlt h
 have getD_set: ∀{q:Nat},q≠d→((dI (ps.toList.zip us) a.tmps).setIfInBounds d ((dI (ps.toList.zip us) a.tmps).getD p undef)).getD q undef=(dI (ps.toList.zip us) a.tmps).getD q undef:=fun h=>by
  simp [Array.getD_eq_getD_getElem?,Ne.symm h]
 have zipS: ∀{ks:List Nat} {l:List V} {q:Nat},l.length=ks.length→q∈ks→ ∃v,al (ks.zip l) q=some v:=by
  intro ks
  induction ks with
  | nil=>intro l q _ h;cases h
  | cons k ks ih=>
   intro l q h1 h2
   cases l with
   | nil=>simp at h1
   | cons x l=>
    simp only [List.zip_cons_cons,al]
    split
    ·exact ⟨_,rfl⟩
    ·rename_i e
     rcases List.mem_cons.1 h2 with h|h
     ·exact absurd h.symm e
     ·exact ih (by simpa using h1) h
 obtain ⟨vp,hvp⟩:=zipS hl' hp
 simp only [rQ,hvp,Aj] at ht
 simp only [al] at ht
 by_cases e:d=t
 ·subst e
  simp only [if_true] at ht
  cases ht
  rw [if_pos hd]
  have:=(zipR hvp).2
  simpa [Array.getD_eq_getD_getElem?,hsz,hd] using this
 ·simp only [e,if_false] at ht
  cases hz:al (ps.toList.zip l) t with
  | some x=>
   simp only [hz] at ht
   cases ht
   obtain ⟨h1,h2⟩:=zipR hz
   rw [if_pos (hps t h1),getD_set (Ne.symm e)]
   exact h2
  | none=>
   simp only [hz] at ht
   cases hS:al S.F t with
   | some x=>
    simp only [hS] at ht
    cases ht
    by_cases h1:t<n
    ·rw [if_pos h1,getD_set (Ne.symm e),wa,hsl t h1]
     ·exact hx.1.slot t v hS
     ·intro hm
      obtain ⟨q,hq,e2⟩:=List.mem_map.1 hm
      have h3:=(List.of_mem_zip hq).1
      rw [e2] at h3
      obtain ⟨y,hy⟩:=zipS hl' h3
      rw [hz] at hy;cases hy
    ·have h2:=GP hlo hS
     rw [if_neg h1,if_neg (by omega),←hFu t (by omega) h2]
     exact hx.1.slot t v hS
   | none=>
    simp only [hS] at ht
    obtain ⟨h1,h2⟩:=Ai ht
    rw [if_neg (by omega),if_pos h1]
    exact hx.1.slot _ v h2
theorem An (hE:bh E) (hmo:E.P.follows .mixedOrders=true) {n:Nat} {J:cC}: ∀(code:Code) (r:Option Nat) (hi:Nat→Value) (c0:Cx) (Q:Exit→St→Prop) (QC:Exit→Act→World→Prop),fr n code=true→((r=none∧hi=fun _=>undef)∨hZ code=true)→(∀e a w,GR r hi E c0 n Q e a w→QC e a w)→
  ∀c ρ S F a ds,bf E c0 c ρ S F→Fr (mo:=⟨ds,r,hi⟩) n F a→eF c0.w.heap.size ds c.w→wpA E J code Q S→code.wpIn {Fence.wide with round:=r} 1 E.P QC a c.w:=by
 intro code
 induction code with
 | skip=>
  intro r hi c0 Q QC hs hr hQ c ρ S F a ds h hf hd hk
  exact wpIn_skip (hQ _ _ _ ⟨c,ρ,S,F,ds,rfl,h,hf,hd,hk⟩)
 | region id ops d=>
  intro r hi c0 Q QC hs hr hQ c ρ S F a ds h hf hd hk
  have hT:vO (mo:=⟨ds,r,hi⟩) E (c.lend (dU ρ S.H)) n (Q .normal) (QC .normal):=fun c2 ρ2 S2 F2 a2 h2 hf2 hk2=>hQ _ _ _ ⟨c2,ρ2,S2,F2,ds,rfl,rN h h2.1.since h2,hf2,hd.since h h2.1.since,hk2⟩
  have hb:=Ad h
  cases d with
  | false=>
   refine wpIn_region ?_
   have:=vP (mo:=⟨ds,r,hi⟩) (c0:=c.lend (dU ρ S.H)) hE hs hT ops.toList [] [] rfl (fun j t hj=>by simp [al] at hj) (c.lend (dU ρ S.H)) ρ S F a hb hf hk
   rw [List.range_eq_range']
   rw [show ([]:List Oper).length=0 from rfl,show ops.toList.length=ops.size by simp] at this
   exact this
  | true=>
   obtain ⟨n',m,wr,wl,need,ub,hB,hU,hk⟩:=hk
   simp only [Bool.and_eq_true,List.all_eq_true,List.mem_range,decide_eq_true_eq] at hB
   exact GL (mo:=⟨ds,r,hi⟩) (c0:=c.lend (dU ρ S.H)) (c:=c.lend (dU ρ S.H)) hB.1.1 hE hmo hs hB.1.2 hU hB.2 hT hb hf hk
 | seq x y ihx ihy=>
  intro r hi c0 Q QC hs hr hQ c ρ S F a ds h hf hd hk
  simp only [fr,Bool.and_eq_true] at hs
  simp only [hZ,Bool.and_eq_true] at hr
  simp only [wpA] at hk
  split at hk
  ·refine wpIn_seq (ihx r hi c0 _ _ hs.1 (hr.imp id (·.1)) ?_ c ρ S F a ds h hf hd hk)
   clear hk
   rintro e a w ⟨c,ρ,S,F,ds,rfl,h,hf,hd,hk⟩
   cases e with
   | normal=>exact ihy r hi c0 Q QC hs.2 (hr.imp id (·.2)) hQ c ρ S F a ds h hf hd hk
   | _=>exact hQ _ _ _ ⟨c,ρ,S,F,ds,rfl,h,hf,hd,hk⟩
  ·refine wpIn_seq (ihx r hi c0 _ _ hs.1 (hr.imp id (·.1)) ?_ c ρ S F a ds h hf hd hk)
   clear hk
   rintro e a w ⟨c,ρ,S,F,ds,rfl,h,hf,hd,hk⟩
   cases e with
   | normal=>
    obtain ⟨S1,hw,hM⟩:=hk
    obtain ⟨c1,ρ1,e1,h1⟩:=hw c0 c ρ F h
    have:=ihy r hi c0 Q QC hs.2 (hr.imp id (·.2)) hQ c1 ρ1 S1 F a ds h1 hf (by rw [e1];exact hd) hM
    rwa [e1] at this
   | _=>exact hQ _ _ _ ⟨c,ρ,S,F,ds,rfl,h,hf,hd,hk⟩
 | cond x a b iha ihb=>
  intro r hi c0 Q QC hs hr hQ c ρ S F act ds h hf hd hk
  simp only [fr,Bool.and_eq_true] at hs
  simp only [hZ,Bool.and_eq_true] at hr
  simp only [wpA] at hk
  unfold pt at hk
  split at hk
  ·rename_i t ht
   have hv:=aP h.1 ht
   simp only [rd] at hv
   exact wpIn_cond_split (by rw [hf.eval (mo:=⟨ds,r,hi⟩) hs.1];exact hv) (fun e=>iha r hi c0 Q QC hs.2.1 (hr.imp id (·.1)) hQ c ρ S F act ds h hf hd (hk.1 e)) (fun e=>ihb r hi c0 Q QC hs.2.2 (hr.imp id (·.2)) hQ c ρ S F act ds h hf hd (hk.2 e))
  ·exact hk.elim
 | block id x ih=>
  intro r hi c0 Q QC hs hr hQ c ρ S F a ds h hf hd hk
  refine wpIn_block (ih r hi c0 _ _ hs hr ?_ c ρ S F a ds h hf hd hk)
  clear hk
  rintro e a w ⟨c,ρ,S,F,ds,rfl,h,hf,hd,hk⟩
  cases e with
  | exit j=>
   simp only [wb] at hk
   simp only [Exit.inBlock]
   split at hk
   ·rename_i e;subst e
    rw [if_pos rfl]
    exact hQ _ _ _ ⟨c,ρ,S,F,ds,rfl,h,hf,hd,hk⟩
   ·rename_i e
    rw [if_neg (by simpa using e)]
    exact hQ _ _ _ ⟨c,ρ,S,F,ds,rfl,h,hf,hd,hk⟩
  | _=>exact hQ _ _ _ ⟨c,ρ,S,F,ds,rfl,h,hf,hd,hk⟩
 | loop x ih=>
  intro r hi c0 Q QC hs hr hQ c ρ S F a ds h hf hd hk
  simp only [wpA] at hk
  obtain ⟨I,k0,⟨S1,hw,hI⟩,hround⟩:=hk
  obtain ⟨c1,ρ1,e1,h1⟩:=hw c0 c ρ F h
  refine uo (mo:=⟨[],r,hi⟩) (fun k a w=> ∃c ρ S F ds,c.w=w∧bf E c0 c ρ S F∧Fr (mo:=⟨ds,r,hi⟩) n F a∧eF c0.w.heap.size ds w∧I k S) k0 ⟨c1,ρ1,S1,F,ds,e1,h1,hf,hd,hI⟩ ?_
  rintro k a w ⟨c,ρ,S,F,ds,rfl,h,hf,hd,hI⟩
  refine ih r hi c0 _ _ hs hr ?_ c ρ S F a ds h hf hd (hround k S hI)
  rintro e a w ⟨c,ρ,S,F,ds,rfl,h,hf,hd,hk⟩
  cases e with
  | normal=>
   obtain ⟨k',hlt,S3,hw,hI⟩:=hk
   obtain ⟨c1,ρ1,e1,h1⟩:=hw c0 c ρ F h
   exact ⟨k',hlt,c1,ρ1,S3,F,ds,e1,h1,hf,hd,hI⟩
  | _=>exact hQ _ _ _ ⟨c,ρ,S,F,ds,rfl,h,hf,hd,hk⟩
 | ret=>
  intro r hi c0 Q QC hs hr hQ c ρ S F a ds h hf hd hk
  exact wpIn_ret (hQ _ _ _ ⟨c,ρ,S,F,ds,rfl,h,hf,hd,hk⟩)
 | exit id=>
  intro r hi c0 Q QC hs hr hQ c ρ S F a ds h hf hd hk
  exact wpIn_exit (hQ _ _ _ ⟨c,ρ,S,F,ds,rfl,h,hf,hd,hk⟩)
 | rangeFunc g ps as1 body _ ih=>
  intro r hi c0 Q QC hs hr hQ c ρ S F a ds h hf hd hk
  obtain ⟨rfl,rfl⟩:r=none∧hi=fun _=>undef:=by
   rcases hr with hr|hr
   ·exact hr
   ·simp [hZ] at hr
  obtain ⟨gf,caps,xs,d,p,I,S1,hw,hI0,he,hpc,⟨ha,hnd,hpp⟩,hit,hxl,hnok,hround,hend⟩:=hk
  simp only [fr,ha,Bool.and_eq_true,decide_eq_true_eq,List.all_eq_true] at hs
  obtain ⟨⟨⟨⟨hgB,hpB⟩,hdB⟩,hnB⟩,hnr,hsb⟩:=hs
  obtain ⟨c1,ρ1,e1,h1⟩:=hw c0 c ρ F h
  rw [←e1] at hd⊢
  have hv:=aP h1.1 he
  simp only [rd] at hv
  obtain ⟨us,hfn,hus⟩:=hv
  obtain ⟨encs,hen,hseq⟩:=hit.2 c1 us h1.1.gl (mg hpc hus)
  have hFu: ∀t,n≤t→t<dk→F t=undef:=fun t ht _=>hf.hg t ht
  have hdlt: ∀k,{target:= .collected k,args:= #[]}∈ds→k<c1.w.heap.size:=fun k hk=>(Array.getElem?_eq_some_iff.1 (hd.mem hk)).1
  have hlen: ∀i:Fin xs.length,(encs i.val).length=ps.size:=fun i=>by
   have h2:xs[i.val]? =some xs[i.val]:=List.getElem?_eq_getElem i.isLt
   exact (v_ (hen _ _ h2)).trans (hxl _ (List.getElem_mem _))
  have hgrow: ∀{cx:Cx} {ρx:Ro} {Sx:St} {B:World} {row:Option Nat},bf E c0 cx ρx Sx F→kJ Sx.H=true→eF c0.w.heap.size ds cx.w→cx.w.grownBy B row→(∀k,row=some k→c1.w.heap.size≤k∧ ∃o:Obj,cx.w.heap[k]? =some o∧o.isCells=false)→
    ∃c',c'.w=B∧cx.pub c'∧bf E c0 c' ρx Sx F∧eF c0.w.heap.size ds B:=by
   intro cx ρx Sx B row hx hn hdx hg hr
   obtain ⟨c',e,hp,h'⟩:=Ag hx hg (fun k hk=>⟨Nat.le_trans h1.1.since.size (hr k hk).1,(hr k hk).2⟩) (fun k hk i b hb hpv hbl=>by
    obtain ⟨_,o,g1,g2⟩:=(hr k hk)
    obtain ⟨_,o',g3,g4⟩:=rM hpv (hx.1.heap i b hb) hbl
    rw [g1] at g3;cases g3
    rcases g4 with g4|⟨⟨g,k',m,l,e⟩,_⟩
    ·rw [g2] at g4;cases g4
    ·exact Am hn hb g k' m l e)
   refine ⟨c',e,hp,h',hdx.keep fun k hk ho=> ?_⟩
   refine (hg.block k (Array.getElem?_eq_some_iff.1 ho).1 fun e2=> ?_).trans ho
   have:=(hr k e2.symm).1
   have:=hdlt k hk
   omega
  refine GN (m:=3) rfl (wpIn_rangeFunc_ownG (α:=Fin xs.length) rfl (by omega) (gf:=gf) (lb:=us.toArray) (by rw [hf.eval (mo:=⟨ds,none,fun _=>undef⟩) hgB];exact hfn) trivial hit.1 (Kp:=fY c1) hseq
   (fun {A B C} hA hB=>⟨Nat.le_trans hA.1 hB.1,fun k hk hx o ho hc=>hB.2 k hk hx o (hA.2 k hk hx o ho hc) hc⟩)
   (fun W l o o' hl ho hc _=>⟨by simp,fun k hk hx o2 ho2 hc2=>(World.putObj_heap_other (by omega)).trans ho2⟩) (Below.refl _ _) (fun i=>by simpa using hlen i)
   (fun pre W=> ∃cx ρx Sx,cx.w=W∧bf E c0 cx ρx Sx F∧c1.pub cx∧eF c0.w.heap.size ds W∧I (pre.map (·.val)) Sx)
   (fun cd pre W=> ∃cx ρx Sx,cx.w=W∧bf E c0 cx ρx Sx F∧eF c0.w.heap.size ds W∧kJ Sx.H=true∧((cd= .ret∧(pre.map (·.val)=List.range pre.length→Q .ret Sx))∨ ∃id,cd= .exit id∧(pre.map (·.val)=List.range pre.length→Q (.exit id) Sx)))
   ?_ ?_ ⟨c1,ρ1,S1,rfl,h1,Cx.pub.refl _,hd,hI0⟩
   (fun i=>(⟨dI (ps.toList.zip (encs i.val)) a.tmps,[]⟩:Act).put (some d) ((dI (ps.toList.zip (encs i.val)) a.tmps).getD p undef)) ?_ ?_ ?_ ?_)
  ·rintro pre A B row ⟨cx,ρx,Sx,rfl,hx,hp,hdx,hi⟩ hg hr
   obtain ⟨c',e,hp',h',hd'⟩:=hgrow hx (by have:=hnok _ _ hi;simp only [Bool.and_eq_true] at this;exact this.1) hdx hg hr
   exact ⟨c',ρx,Sx,e,h',hp.trans hp',hd',hi⟩
  ·rintro cd pre A B row ⟨cx,ρx,Sx,rfl,hx,hdx,hn,hi⟩ hg hr
   obtain ⟨c',e,_,h',hd'⟩:=hgrow hx hn hdx hg hr
   exact ⟨c',ρx,Sx,e,h',hd',hn,hi⟩
  ·intro l i W K hK
   refine GO ha (fun _=>trivial) ?_
   have e:(ps.zip (encs i.val).toArray).foldl (fun t (p,v)=>t.setIfInBounds p v) a.tmps=dI (ps.toList.zip (encs i.val)) a.tmps:=by
    rw [←Array.foldl_toList];simp [dI]
   simp only [e]
   exact hK
  ·rintro l pre i W ⟨cx,ρx,Sx,rfl,hx,hp,hdx,hi⟩ hlt
   have hn:=hnok _ _ hi
   simp only [Bool.and_eq_true] at hn
   have hl:xs[i.val]? =some xs[i.val]:=List.getElem?_eq_getElem i.isLt
   have hb:=Ad hx
   obtain ⟨Fb,hbS,hbF⟩:=GS (r:=some l) (a:=a) hb hf.sz (fun t ht=>hf.sl t ht) hnB (fo (hp.trans (cx.pub_lend _)) (hen _ _ hl)) hpB hdB hnd hpp (hxl _ (List.getElem_mem _)) hn.2 hFu rfl
   refine ih (some l) _ (cx.lend (dU ρx Sx.H)) (rfK E (pre.map (·.val)++[i.val]=List.range ((pre.map (·.val)).length+1)) Q (I (pre.map (·.val)++[i.val]))) _ hsb (.inr hnr) ?_ (cx.lend (dU ρx Sx.H)) ρx _ Fb _ [] hbS hbF trivial (hround _ _ _ _ hi hl (by simpa using hlt))
   rintro e a2 w2 ⟨c2,ρ2,S2,F2,ds2,rfl,h2,hf2,_,hk2⟩
   have hs2:=h2.1.since
   have hKF:KeepsFrom c1.w.heap.size cx.w c2.w:=⟨hs2.size,fun k o _ ho hc=>Af hx hs2 ho hc (.inr fun i b hb=>Am hn.1 hb)⟩
   have hKP:fY c1 cx.w c2.w:=⟨hs2.size,fun k hk hX o ho hc=>((Ae hx hs2).keep k (Nat.lt_of_lt_of_le hk hp.size) (hp.keep k hk hX).1).2 o ho hc⟩
   have hdn:bf E (cx.lend (dU ρx Sx.H)) c2 ρ2 (dnS S2) F:=by
    refine ⟨⟨h2.1.since,h2.1.gl,fun t v ht=> ?_,h2.1.heap,h2.1.sep⟩,h2.2⟩
    simp only [dnS,Ah] at ht
    have h3:=h2.1.slot _ v ht
    rw [hf2.hg (dk+t) (by omega)] at h3
    simpa using h3
   have hd2:=hdx.since hx hs2
   cases e with
   | normal=>
    obtain ⟨S3,hw3,hN⟩:=hk2
    obtain ⟨c3,ρ3,e3,h3⟩:=hw3 _ c2 ρ2 F hdn
    exact ⟨hKF,hKP,c3,ρ3,S3,e3,rN hx h3.1.since h3,hp.trans (Ae hx h3.1.since),hd2,by simpa using hN⟩
   | ret=>exact ⟨hKF,c2,ρ2,_,rfl,rN hx hdn.1.since hdn,hd2,hk2.1,.inl ⟨rfl,fun h=>hk2.2 (by simpa using h)⟩⟩
   | exit id=>exact ⟨hKF,c2,ρ2,_,rfl,rN hx hdn.1.since hdn,hd2,hk2.1,.inr ⟨id,rfl,fun h=>hk2.2 (by simpa using h)⟩⟩
   | _=>exact hk2.elim
  ·rintro D xs' W hD hS ⟨cx,ρx,Sx,rfl,hx,_,hdx,hi⟩ hK
   rw [hS] at hi
   refine hQ _ _ _ ⟨cx,ρx,Sx,F,{target:= .collected D,args:= #[]}::ds,rfl,hx, @Fr.mk ⟨_,none,_⟩ n F _ hf.sz (by simp [hf.df]) hf.sl hf.hg,⟨⟨D,rfl,Nat.le_trans h1.1.since.size hD,hK,?_⟩,hdx⟩,hend _ hi⟩
   rintro e he rfl
   have:=hdlt D he
   omega
  ·rintro D cd pre W hD hSp ⟨cx,ρx,Sx,rfl,hx,hdx,_,hi⟩ hK
   have hfin: ∀e,Q e Sx→QC e {a with defers:={target:= .collected D,args:= #[]}::a.defers} cx.w:=fun e hq=>by
    refine hQ _ _ _ ⟨cx,ρx,Sx,F,{target:= .collected D,args:= #[]}::ds,rfl,hx, @Fr.mk ⟨_,none,_⟩ n F _ hf.sz (by simp [hf.df]) hf.sl hf.hg,⟨⟨D,rfl,Nat.le_trans h1.1.since.size hD,hK,?_⟩,hdx⟩,hq⟩
    rintro e he rfl
    have:=hdlt D he
    omega
   rcases hi with ⟨rfl,hq⟩|⟨id,rfl,hq⟩
   ·exact wpIn_ret (hfin _ (hq hSp.1))
   ·exact wpIn_exit (hfin _ (hq hSp.1))
 | _=>
  intro r hi c0 Q QC hs hr hQ c ρ S F a ds h hf hd hk
  exact hk.elim
def rR (tb:TypeId→TI) (S:St):ResultVar→Option V
 | .tmp t=>al S.F t
 | .cell t T=>match al S.F t with
  | some (.ptr id 0)=>match al S.H id with
   | some (.var n g d)=>if (tb T).ok=true∧(tb T).n=n∧(tb T).g=g then some d else none
   | some (.pvar n g d)=>if (tb T).ok=true∧(tb T).n=n∧(tb T).g=g then some d else none
   | _=>none
  | _=>none
def gA (tb:TypeId→TI) (S:St):List ResultVar→Option (List V)
 | []=>some []
 | x::l=>match rR tb S x,gA tb S l with
  | some v,some vs=>some (v::vs)
  | _,_=>none
def fG:List V→V
 | [v]=>v
 | vs=> .tup vs
def rS (E:Env) (S:St) (v:V) (r:V) (H:List Blk):Prop:=
 ∀c0 c ρ F u,c0.Y=[]→bf E c0 c ρ S F→rd ρ c v u→ ∃c1 ρ1,c1.w=c.w∧c0.le c1∧rd ρ1 c1 r u∧HOk c0 c1 ρ1 H
def pu (E:Env) (rs:List ResultVar) (r:V) (H:List Blk):Exit→St→Prop
 | .ret,S=>match gA E.tb S rs with
  | some vs=>rS E S (fG vs) r H
  | none=>False
 | _,_=>False
theorem GT (hE:bh E) (h:Sim E c0 c ρ S F) {x:ResultVar} {v:V} (hx:rR E.tb S x=some v): ∃u,uy E.P F c.w x u∧rd ρ c v u:=by
 cases x with
 | tmp t=>exact ⟨F t,rfl,h.slot t v hx⟩
 | cell t T=>
  simp only [rR] at hx
  split at hx
  ·rename_i id ht
   have hp:=h.slot _ _ ht
   simp only [rd] at hp
   obtain ⟨b,hb,he⟩:=hp
   split at hx
   ·rename_i n g d hH
    obtain ⟨⟨h1,rfl,rfl⟩,hx2⟩:=aV hx
    cases hx2
    obtain ⟨b',e1,e2,hv⟩:=h.heap _ _ hH
    rw [hb] at e1;cases e1
    obtain ⟨u,hu,hu'⟩:=E8 ((hE.t T h1).ty ρ) hv he
    exact ⟨u,hu,fV hu'⟩
   ·rename_i n g d hH
    obtain ⟨⟨h1,rfl,rfl⟩,hx2⟩:=aV hx
    cases hx2
    obtain ⟨b',e1,hv⟩:=h.heap _ _ hH
    rw [hb] at e1;cases e1
    obtain ⟨b2,o2,cs,e3,_,_,hc,hi⟩:=hv
    cases e3
    have hrun:=oN (P:=E.P) ((hE.t T h1).ty ro0) hi hc
    exact ⟨_,⟨_,he,hrun⟩,nl ⟨cs,hi,rfl⟩⟩
   ·cases hx
  ·cases hx
theorem Ao {mo:Mo} (hE:bh E) {n:Nat} {a:Act} (h:Sim E c0 c ρ S F) (hf: @Fr mo n F a) (h0:mo.hi=fun _=>undef): ∀{l:List ResultVar} {vs:List V},gA E.tb S l=some vs→ ∃us:List Value,us.length=l.length∧(l.mapM (lT a.tmps)).run E.P c.w= .ok us c.w∧rdT ρ c vs us
 | [],vs,hx=>by
  simp only [gA,Option.some.injEq] at hx
  subst hx
  exact ⟨[],rfl,by simp,rfl⟩
 | x::l,vs,hx=>by
  simp only [gA] at hx
  split at hx
  ·rename_i v vs' h1 h2
   cases hx
   obtain ⟨u,hu,hr⟩:=GT hE h h1
   obtain ⟨us,hl,hrun,hrs⟩:=Ao hE h hf h0 h2
   refine ⟨u::us,by simp [hl],?_,?_⟩
   ·simp only [List.mapM_cons,Sem.run_bind,E_ hf h0 hu,Result.andThen_ok,hrun,Sem.run_pure]
   ·simp only [rdT];exact ⟨u,us,rfl,hr,hrs⟩
  ·cases hx
theorem wc {mo:Mo} (hE:bh E) {n:Nat} {a:Act} {fn:Func} (h:Sim E c0 c ρ S F) (hf: @Fr mo n F a) (h0:mo.hi=fun _=>undef) {vs:List V} (hx:gA E.tb S fn.results.toList=some vs): ∃u,(results fn a.tmps).run E.P c.w= .ok u c.w∧rd ρ c (fG vs) u:=by
 obtain ⟨us,hl,hrun,hrs⟩:=Ao hE h hf h0 hx
 have hrun':(fn.results.mapM (lT a.tmps)).run E.P c.w= .ok us.toArray c.w:=by
  rw [Array.mapM_eq_mapM_toList]
  simp only [map_eq_pure_bind,Sem.run_bind,hrun,Result.andThen_ok,Sem.run_pure]
 refine ⟨if h:us.toArray.size=1 then us.toArray[0] else .tuple us.toArray,?_,?_⟩
 ·rw [E9]
  simp only [Sem.run_bind,hrun',Result.andThen_ok,Sem.run_pure]
 ·match vs,us,hrs with
  | [],us,hrs=>
   simp only [rdT] at hrs
   subst hrs
   simp only [fG,rd]
   exact ⟨[],rfl,rfl⟩
  | [v],us,hrs=>
   simp only [rdT] at hrs
   obtain ⟨u,c2,rfl,h1,rfl⟩:=hrs
   exact h1
  | v::v'::vs,us,hrs=>
   have hrs':=hrs
   simp only [rdT] at hrs'
   obtain ⟨u,c2,rfl,h1,u',c3,rfl,h2,h3⟩:=hrs'
   simp only [fG,rd]
   refine ⟨u::u'::c3,?_,hrs⟩
   simp
def ia:Nat→List V→List (Nat×V)
 | _,[]=> []
 | i,v::l=>(i,v)::ia (i+1) l
theorem wd: ∀{l:List V} {i t:Nat},al (ia i l) t=if i≤t then l[t - i]? else none
 | [],i,t=>by simp [ia,al]
 | v::l,i,t=>by
  simp only [ia,al,wd]
  by_cases h:i=t
  ·subst h;simp
  ·rw [if_neg h]
   by_cases h1:i≤t
   ·rw [if_pos h1,if_pos (by omega)]
    have:t - i=(t - (i+1))+1:=by omega
    rw [this,List.getElem?_cons_succ]
   ·rw [if_neg h1,if_neg (by omega)]
theorem ef (hE:bh E) (hmo:E.P.follows .mixedOrders=true) {f:FuncId} {fn:Func} {code:Code} {ws:List V} {r:V} {H:List Blk} {n:Nat} (J:cC) (hf:E.P.funcs[f]? =some fn) (hb:fn.body=some code) (hnt:fn.ntmps=n)
  (hsl:(fr n code&&decide (ws.length≤n)&& !(fn.name== "runtime.NumGoroutine"))=true)
  (h:wfL ws→wpA E J code (pu E fn.results.toList r H) ⟨ia 0 ws,[],0⟩):a8 E f ws r H:=by
 simp only [Bool.and_eq_true,Bool.not_eq_true',decide_eq_true_eq] at hsl
 refine ⟨fun aas w=> ?_,fun c us hY hg hus=> ?_⟩
 ·have hn: ¬fn.name= "runtime.NumGoroutine" :=by simpa using hsl.2
  simp [callFunc,hf,hb,hn]
 have hlen:us.length=ws.length:=v_ hus
 have hall:=h (lV hus)
 refine (callsIn_wide (n:=1)).1 (callsIn_of_wp_marks hf hb trivial ?_ rfl)
 have hfr:Fr (mo:=iO) n (fun t=>(us.toArray++Array.replicate (n - us.toArray.size) undef).getD t undef) {tmps:=us.toArray++Array.replicate (fn.ntmps - us.toArray.size) undef,defers:=[]}:=by
  refine Fr.of ?_ rfl fun t=>by rw [hnt]
  simp [hnt];omega
 have hS:bf E c c ro0 ⟨ia 0 ws,[],0⟩ (fun t=>(us.toArray++Array.replicate (n - us.toArray.size) undef).getD t undef):=by
  refine ⟨⟨cB.refl c,hg,?_,fun i b hb=>by simp [al] at hb,fun i j bi bj k hij hb=>by simp [al] at hb⟩,fun i _=>rfl⟩
  intro t v ht
  rw [wd] at ht
  simp only [Nat.zero_le,if_true,Nat.sub_zero] at ht
  obtain ⟨u,hu,hr⟩:=vu hus ht
  have hlt:t<us.length:=(List.getElem?_eq_some_iff.1 hu).1
  have:(us.toArray++Array.replicate (n - us.toArray.size) undef).getD t undef=u:=by
   have he:us[t]=u:=by simpa [List.getElem?_eq_getElem hlt] using hu
   simp [Array.getD_eq_getD_getElem?,Array.getElem?_append,hlt,he]
  rw [this];exact hr
 refine An hE hmo code none _ c _ _ hsl.1.1 (.inl ⟨rfl,rfl⟩) ?_ c ro0 _ _ _ [] hS hfr trivial hall
 rintro e a w ⟨c',ρ',S',F',ds,rfl,hS,hf',hd,hk⟩
 cases e with
 | ret=>
  simp only [pu] at hk
  split at hk
  ·rename_i vs hvs
   show LeavesInM _ _ _ _ _ _ a.defers .returning c'.w
   rw [hf'.df]
   refine rO hS hd fun c2 hS2=> ?_
   obtain ⟨u,hu,hr⟩:=wc hE hS2.1 hf' rfl hvs
   obtain ⟨c1,ρ1,e1,hle,hr1,hH⟩:=hk c c2 ρ' F' u hY hS2 hr
   exact ⟨u,hu,u,c1,ρ1,rfl,e1,hle,hr1,hH⟩
  ·exact hk.elim
 | _=>exact hk.elim
end
end Go.Proofs.YtiknkaadhomeiaaGreatDoor
namespace Go.Proofs.YtiknkaadhomeiaaGreatDoor
open Go.RowKit
def mtZ:Option Bool→Option Bool→Prop
 | _,none=>True
 | some a,some b=>a=b
 | none,some _=>False
def leV (a b:V):Prop:= ∀ρ c v,rd ρ c a v→rd ρ c b v
mutual
def mt:V→V→Prop
 | .int k n,.int k' n'=>k=k'∧n=n'
 | .bool a,.bool b=>a=b
 | .ifc a,.ifc b=>a=b
 | .str a,.str b=>a=b
 | .agg l,.agg m=>mtL l m
 | .sl z n g l,.sl z' n' g' m=>mtZ z z'∧((l=[]∧m=[])∨(n=n'∧g=g'∧mtL l m))
 | .pp n g d,.pp n' g' d'=>n=n'∧g=g'∧mt d d'
 | .own i,.own j=>i=j
 | .ptr i o,.ptr j p=>i=j∧o=p
 | .optr i m k o,.optr i' m' k' o'=>i=i'∧m=m'∧k=k'∧o=o'
 | .osub i m k o,.osub i' m' k' o'=>i=i'∧m=m'∧k=k'∧o=o'
 | .tup l,.tup m=>mtL l m
 | .fn f l,.fn f' m=>f=f'∧mtL l m
 | a,.opq p=>leV a (.opq p)
 | _,.un=>True
 | _,_=>False
def mtL:List V→List V→Prop
 | [],[]=>True
 | a::l,b::m=>mt a b∧mtL l m
 | _,_=>False
end
theorem nv {z z':Option Bool} {a:Option Addr} {cap:Nat} (h:mtZ z z') (k:zOk z a cap):zOk z' a cap:=by
 cases z' with
 | none=>exact m9 k
 | some b=>
  cases z with
  | none=>exact h.elim
  | some b'=>
   have e:b'=b:=h
   subst e;exact k
theorem ml: ∀{l m:List V},mtL l m→l.length=m.length
 | [],[],_=>rfl
 | a::l,b::m,h=>by simp only [mtL] at h;simp [ml h.2]
 | [],_::_,h=>by simp [mtL] at h
 | _::_,[],h=>by simp [mtL] at h
mutual
theorem eR {ρ:Ro} {c:Cx}: ∀{a b:V} {v:Value},mt a b→rd ρ c a v→rd ρ c b v
 | .int k n,b,v,h,hr=>by
  cases b<;>simp only [mt] at h<;>try exact h.elim
  ·obtain ⟨rfl,rfl⟩:=h;exact hr
  ·exact h _ _ _ hr
  ·trivial
 | .bool a,b,v,h,hr=>by
  cases b<;>simp only [mt] at h<;>try exact h.elim
  ·subst h;exact hr
  ·exact h _ _ _ hr
  ·trivial
 | .ifc a,b,v,h,hr=>by
  cases b<;>simp only [mt] at h<;>try exact h.elim
  ·subst h;exact hr
  ·exact h _ _ _ hr
  ·trivial
 | .str a,b,v,h,hr=>by
  cases b<;>simp only [mt] at h<;>try exact h.elim
  ·subst h;exact hr
  ·exact h _ _ _ hr
  ·trivial
 | .agg l,b,v,h,hr=>by
  cases b<;>simp only [mt] at h<;>try exact h.elim
  ·simp only [rd] at hr⊢
   obtain ⟨cs,e,hr⟩:=hr
   exact ⟨cs,e,Ap h hr⟩
  ·exact h _ _ _ hr
  ·trivial
 | .sl z n g l,b,v,h,hr=>by
  cases b<;>simp only [mt] at h<;>try exact h.elim
  ·rename_i z' n' g' m
   obtain ⟨hz,h⟩:=h
   simp only [rd] at hr⊢
   obtain ⟨a,cap,e,hl,hz',hr⟩:=hr
   rcases h with ⟨rfl,rfl⟩|⟨rfl,rfl,hm⟩
   ·exact ⟨a,cap,e,hl,nv hz hz',.inl rfl⟩
   ·have hlen:=ml hm
    rw [hlen] at hl e
    refine ⟨a,cap,e,hl,nv hz hz',?_⟩
    rcases hr with h|⟨b,o,cs,e,h1,h2,h3,h4⟩
    ·subst h
     exact .inl (List.eq_nil_of_length_eq_zero hlen.symm)
    ·exact .inr ⟨b,o,cs,e,h1,h2,h3,rT hm h4⟩
  ·exact h _ _ _ hr
  ·trivial
 | .pp n g d,b,v,h,hr=>by
  cases b<;>simp only [mt] at h<;>try exact h.elim
  ·obtain ⟨rfl,rfl,hm⟩:=h
   simp only [rd] at hr⊢
   obtain ⟨b,o,cs,e,h1,h2,h3,h4,h5⟩:=hr
   exact ⟨b,o,cs,e,h1,h2,h3,h4,eR hm h5⟩
  ·exact h _ _ _ hr
  ·trivial
 | .own i,b,v,h,hr=>by
  cases b<;>simp only [mt] at h<;>try exact h.elim
  ·subst h;exact hr
  ·exact h _ _ _ hr
  ·trivial
 | .ptr i o,b,v,h,hr=>by
  cases b<;>simp only [mt] at h<;>try exact h.elim
  ·obtain ⟨rfl,rfl⟩:=h;exact hr
  ·exact h _ _ _ hr
  ·trivial
 | .optr i m k o,b,v,h,hr=>by
  cases b<;>simp only [mt] at h<;>try exact h.elim
  ·obtain ⟨rfl,rfl,rfl,rfl⟩:=h;exact hr
  ·exact h _ _ _ hr
  ·trivial
 | .osub i m k o,b,v,h,hr=>by
  cases b<;>simp only [mt] at h<;>try exact h.elim
  ·obtain ⟨rfl,rfl,rfl,rfl⟩:=h;exact hr
  ·exact h _ _ _ hr
  ·trivial
 | .tup l,b,v,h,hr=>by
  cases b<;>simp only [mt] at h<;>try exact h.elim
  ·simp only [rd] at hr⊢
   obtain ⟨cs,e,hr⟩:=hr
   exact ⟨cs,e,ib h hr⟩
  ·exact h _ _ _ hr
  ·trivial
 | .fn f l,b,v,h,hr=>by
  cases b<;>simp only [mt] at h<;>try exact h.elim
  ·obtain ⟨rfl,h⟩:=h
   simp only [rd] at hr⊢
   obtain ⟨cs,e,hr⟩:=hr
   exact ⟨cs,e,ib h hr⟩
  ·exact h _ _ _ hr
  ·trivial
 | .opq p,b,v,h,hr=>by
  cases b<;>simp only [mt] at h<;>try exact h.elim
  ·exact h _ _ _ hr
  ·trivial
 | .un,b,v,h,hr=>by
  cases b<;>simp only [mt] at h<;>try exact h.elim
  ·exact h _ _ _ hr
  ·trivial
theorem Ap {ρ:Ro} {c:Cx}: ∀{l m:List V} {cs:List Value},mtL l m→rdC ρ c l cs→rdC ρ c m cs
 | [],[],_,_,h=>h
 | a::l,b::m,cs,hm,h=>by
  simp only [rdC,mtL] at h hm⊢
  obtain ⟨u,c2,e,h1,h2,h3⟩:=h
  exact ⟨u,c2,e,h1,eR hm.1 h2,Ap hm.2 h3⟩
 | [],_::_,_,hm,_=>by simp [mtL] at hm
 | _::_,[],_,hm,_=>by simp [mtL] at hm
theorem ib {ρ:Ro} {c:Cx}: ∀{l m:List V} {cs:List Value},mtL l m→rdT ρ c l cs→rdT ρ c m cs
 | [],[],_,_,h=>h
 | a::l,b::m,cs,hm,h=>by
  simp only [rdT,mtL] at h hm⊢
  obtain ⟨u,c2,e,h2,h3⟩:=h
  exact ⟨u,c2,e,eR hm.1 h2,ib hm.2 h3⟩
 | [],_::_,_,hm,_=>by simp [mtL] at hm
 | _::_,[],_,hm,_=>by simp [mtL] at hm
theorem rT {c:Cx} {n:Nat} {g:Bool}: ∀{l m:List V} {cs:List Value},mtL l m→rdE c n g l cs→rdE c n g m cs
 | [],[],_,_,h=>h
 | a::l,b::m,cs,hm,h=>by
  simp only [rdE,mtL] at h hm⊢
  obtain ⟨c1,c2,e,⟨h1,h2⟩,h3⟩:=h
  exact ⟨c1,c2,e,⟨h1,eR hm.1 h2⟩,rT hm.2 h3⟩
 | [],_::_,_,hm,_=>by simp [mtL] at hm
 | _::_,[],_,hm,_=>by simp [mtL] at hm
end
mutual
theorem we: ∀(a:V),mt a a
 | .int _ _=>⟨rfl,rfl⟩
 | .bool _=>rfl
 | .ifc _=>rfl
 | .str _=>rfl
 | .agg l=>by simp only [mt];exact mn l
 | .sl z n g l=>by
  simp only [mt]
  exact ⟨by rcases z with _|_<;>simp [mtZ],.inr ⟨trivial,trivial,mn l⟩⟩
 | .pp n g d=>by simp only [mt];exact ⟨trivial,trivial,we d⟩
 | .own _=>rfl
 | .ptr _ _=>⟨rfl,rfl⟩
 | .optr _ _ _ _=>⟨rfl,rfl,rfl,rfl⟩
 | .osub _ _ _ _=>⟨rfl,rfl,rfl,rfl⟩
 | .tup l=>by simp only [mt];exact mn l
 | .fn f l=>by simp only [mt];exact ⟨trivial,mn l⟩
 | .opq p=>by simp only [mt];exact fun _ _ _ h=>h
 | .un=>trivial
theorem mn: ∀(l:List V),mtL l l
 | []=>trivial
 | a::l=>by simp only [mtL];exact ⟨we a,mn l⟩
end
theorem nw {a:V}:mt a a=True:=eq_true (we a)
theorem ny {l:List V}:mtL l l=True:=eq_true (mn l)
theorem GU {a b a' b':List V} (h1:mtL a a') (h2:mtL b b'):mtL (a++b) (a'++b'):=by
 induction a generalizing a' with
 | nil=>cases a' with
  | nil=>exact h2
  | cons x l=>simp [mtL] at h1
 | cons y a ih=>cases a' with
  | nil=>simp [mtL] at h1
  | cons x l=>
   simp only [mtL] at h1
   simp only [List.cons_append,mtL]
   exact ⟨h1.1,ih h1.2⟩
theorem GV {a b b':List V} (h:mtL (a++b) (a++b')):mtL b b':=by
 induction a with
 | nil=>exact h
 | cons x a ih=>simp only [List.cons_append,mtL] at h;exact ih h.2
theorem GW {a b b':List V}:mtL (a++b) (a++b')=mtL b b':=propext ⟨GV,fun h=>GU (mn a) h⟩
mutual
def ltV (n:Nat):V→Prop
 | .own i=>i<n
 | .ptr i _=>i<n
 | .optr i _ _ _=>i<n
 | .osub i _ _ _=>i<n
 | .agg l=>ltL n l
 | .tup l=>ltL n l
 | .fn _ l=>ltL n l
 | _=>True
def ltL (n:Nat):List V→Prop
 | []=>True
 | d::l=>ltV n d∧ltL n l
end
def mtO (v:V):Option V→Prop
 | some u=>mt u v
 | none=>False
def eT (F:List (Nat×V)) (n:Nat):List (Nat×V)→Prop
 | []=>True
 | (t,v)::l=>mtO v (al F t)∧ltV n v∧eT F n l
def mtB (b:Blk):Option Blk→Prop
 | some a=>match a,b with
  | .var n g d,.var n' g' d'=>n=n'∧g=g'∧mt d d'
  | .own E n g z l,.own E' n' g' z' m=>E=E'∧n=n'∧g=g'∧mtZ z z'∧mtL l m
  | .ownI E n g z l,.ownI E' n' g' z' m=>E=E'∧n=n'∧g=g'∧mtZ z z'∧mtL l m
  | .pvar n g d,.pvar n' g' d'=>n=n'∧g=g'∧mt d d'
  | .pown n g z l,.pown n' g' z' m=>n=n'∧g=g'∧mtZ z z'∧mtL l m
  | .lent k n g d,.lent k' n' g' d'=>k=k'∧n=n'∧g=g'∧mt d d'
  | .kset g k n l,.kset g' k' n' l'=>g=g'∧k=k'∧n=n'∧l=l'
  | _,_=>False
 | none=>False
def ltB (n:Nat):Blk→Prop
 | .var _ _ d=>ltV n d
 | .lent _ _ _ d=>ltV n d
 | .ownI _ _ _ _ l=>ltL n l
 | _=>True
def eU (H:List (Nat×Blk)) (n:Nat):List (Nat×Blk)→Prop
 | []=>True
 | (i,b)::l=>mtB b (al H i)∧i<n∧ltB n b∧eU H n l
section
variable {E:Env} {c0 c:Cx} {ρ:Ro} {S S1:St} {F:Fm}
def jI (n:Nat) (ρ:Ro):Ro:=fun i=>if i<n then ρ i else none
theorem fZ {n i:Nat} (h:i<n):jI n ρ i=ρ i:=by simp [jI,h]
mutual
theorem nz {n:Nat}: ∀{d:V} {v:Value},ltV n d→rd ρ c d v→rd (jI n ρ) c d v
 | .int _ _,_,_,h=>h
 | .bool _,_,_,h=>h
 | .ifc _,_,_,h=>h
 | .str _,_,_,h=>h
 | .agg l,v,hp,h=>by
  simp only [rd,ltV] at h hp⊢
  obtain ⟨cs,e,h⟩:=h
  exact ⟨cs,e,Aq hp h⟩
 | .sl z n g l,v,_,h=>h
 | .pp n g d,v,_,h=>h
 | .own i,_,hp,h=>by
  simp only [ltV] at hp
  exact ⟨(fZ hp).trans h.1,h.2⟩
 | .ptr i o,_,hp,h=>by
  simp only [ltV,rd] at hp h⊢
  obtain ⟨b,h1,h2⟩:=h
  exact ⟨b,(fZ hp).trans h1,h2⟩
 | .optr i m k o,_,hp,h=>by
  simp only [ltV,rd] at hp h⊢
  obtain ⟨b,h1,h2⟩:=h
  exact ⟨b,(fZ hp).trans h1,h2⟩
 | .osub i m k o,_,hp,h=>by
  simp only [ltV,rd] at hp h⊢
  obtain ⟨b,h1,h2⟩:=h
  exact ⟨b,(fZ hp).trans h1,h2⟩
 | .tup l,v,hp,h=>by
  simp only [rd,ltV] at h hp⊢
  obtain ⟨cs,e,h⟩:=h
  exact ⟨cs,e,wg hp h⟩
 | .fn f l,v,hp,h=>by
  simp only [rd,ltV] at h hp⊢
  obtain ⟨cs,e,h⟩:=h
  exact ⟨cs,e,wg hp h⟩
 | .opq p,v,_,h=>h
 | .un,_,_,_=>trivial
theorem Aq {n:Nat}: ∀{l:List V} {cs:List Value},ltL n l→rdC ρ c l cs→rdC (jI n ρ) c l cs
 | [],_,_,h=>h
 | d::l,cs,hp,h=>by
  simp only [rdC,ltL] at h hp⊢
  obtain ⟨u,c2,e,h1,h2,h3⟩:=h
  exact ⟨u,c2,e,h1,nz hp.1 h2,Aq hp.2 h3⟩
theorem wg {n:Nat}: ∀{l:List V} {cs:List Value},ltL n l→rdT ρ c l cs→rdT (jI n ρ) c l cs
 | [],_,_,h=>h
 | d::l,cs,hp,h=>by
  simp only [rdT,ltL] at h hp⊢
  obtain ⟨u,c2,e,h2,h3⟩:=h
  exact ⟨u,c2,e,nz hp.1 h2,wg hp.2 h3⟩
end
theorem Ar {G:List (Nat×V)} {n:Nat}: ∀{l:List (Nat×V)},eT G n l→ ∀{t:Nat} {v:V},al l t=some v→ ∃u,al G t=some u∧mt u v∧ltV n v
 | [],_,t,v,h=>by simp [al] at h
 | (k,x)::l,hs,t,v,h=>by
  simp only [eT] at hs
  simp only [al] at h
  split at h
  ·rename_i e;subst e;cases h
   obtain ⟨h1,h2,_⟩:=hs
   unfold mtO at h1
   split at h1
   ·rename_i u hu;exact ⟨u,hu,h1,h2⟩
   ·exact h1.elim
  ·exact Ar hs.2.2 h
theorem rU {G:List (Nat×Blk)} {n:Nat}: ∀{l:List (Nat×Blk)},eU G n l→ ∀{i:Nat} {b:Blk},al l i=some b→ ∃a,al G i=some a∧mtB b (some a)∧i<n∧ltB n b
 | [],_,t,v,h=>by simp [al] at h
 | (k,x)::l,hs,t,v,h=>by
  simp only [eU] at hs
  simp only [al] at h
  split at h
  ·rename_i e;subst e;cases h
   obtain ⟨h1,h2,h3,_⟩:=hs
   cases hu:al G k with
   | none=>rw [hu] at h1;exact h1.elim
   | some a=>rw [hu] at h1;exact ⟨a,rfl,h1,h2,h3⟩
  ·exact rU hs.2.2.2 h
theorem As {n k:Nat} {g:Bool}: ∀{l m:List V} {cs:List Value},mtL l m→ltL k m→bd (rV ρ n g) c cs l→bd (rV (jI k ρ) n g) c cs m
 | [],[],cs,_,_,h=>h
 | a::l,b::m,cs,hm,hl,h=>by
  simp only [mtL,ltL,bd] at hm hl h⊢
  obtain ⟨c1,c2,e,⟨h1,h2⟩,h3⟩:=h
  exact ⟨c1,c2,e,⟨h1,nz hl.1 (eR hm.1 h2)⟩,As hm.2 hl.2 h3⟩
 | [],_::_,_,hm,_,_=>by simp [mtL] at hm
 | _::_,[],_,hm,_,_=>by simp [mtL] at hm
theorem GX {n:Nat} {g:Bool} {l m:List V} {cs:List Value} (h:mtL l m) (ha:bd (rV ro0 n g) c cs l):bd (rV ro0 n g) c cs m:=eN.1 (rT h (eN.2 ha))
theorem wh {n i:Nat} {a b:Blk} (h:mtB b (some a)) (hi:i<n) (hl:ltB n b) (hb:blkOk c0 c ρ i a):blkOk c0 c (jI n ρ) i b∧aW b=aW a:=by
 cases a<;>cases b<;>simp only [mtB] at h<;>try exact h.elim
 ·obtain ⟨rfl,rfl,hm⟩:=h
  obtain ⟨b,h1,h2,h3,T,cs,h4,h5,h6⟩:=hb
  exact ⟨⟨b,(fZ hi).trans h1,h2,h3,T,cs,h4,h5,nz hl (eR hm h6)⟩,rfl⟩
 ·obtain ⟨rfl,rfl,rfl,hz,hm⟩:=h
  obtain ⟨v,h1,h2,h3,h4,a,cap,e,h5⟩:=hb
  have hlen:=ml hm
  refine ⟨⟨v,(fZ hi).trans h1,⟨hlen▸h2.1,?_⟩,h3,h4,a,cap,hlen▸e,nv hz h5⟩,rfl⟩
  rcases h2.2 with ⟨a',e9,rfl⟩|⟨g',cp,cur,e,k1,k2,k3,k4,k5,k6⟩
  ·exact .inl ⟨a',e9,List.eq_nil_of_length_eq_zero hlen.symm⟩
  ·rw [hlen] at e k3 k6
   exact .inr ⟨g',cp,cur,e,k1,k2,k3,k4,k5,GX hm k6⟩
 ·obtain ⟨rfl,rfl,rfl,hz,hm⟩:=h
  obtain ⟨v,h1,h2,h3,h4,a,cap,e,h5⟩:=hb
  have hlen:=ml hm
  simp only [ltB] at hl
  refine ⟨⟨v,(fZ hi).trans h1,⟨hlen▸h2.1,?_⟩,h3,h4,a,cap,hlen▸e,nv hz h5⟩,rfl⟩
  rcases h2.2 with ⟨a',e9,rfl⟩|⟨g',cp,cur,e,k1,k2,k3,k4,k5,k6⟩
  ·exact .inl ⟨a',e9,List.eq_nil_of_length_eq_zero hlen.symm⟩
  ·rw [hlen] at e k3 k6
   exact .inr ⟨g',cp,cur,e,k1,k2,k3,k4,k5,As hm hl k6⟩
 ·obtain ⟨rfl,rfl,hm⟩:=h
  obtain ⟨b,h1,b',o,cs,e,h2,h3,h4,h5,h6⟩:=hb
  exact ⟨⟨b,(fZ hi).trans h1,b',o,cs,e,h2,h3,h4,h5,eR hm h6⟩,rfl⟩
 ·obtain ⟨rfl,rfl,hz,hm⟩:=h
  obtain ⟨v,h1,h2⟩:=hb
  refine ⟨⟨v,(fZ hi).trans h1,eR ?_ h2⟩,rfl⟩
  simp only [mt]
  exact ⟨hz,.inr ⟨trivial,trivial,hm⟩⟩
 ·obtain ⟨rfl,rfl,rfl,hm⟩:=h
  obtain ⟨h1,h2,h3,T,cs,h4,h5,h6⟩:=hb
  exact ⟨⟨(fZ hi).trans h1,h2,h3,T,cs,h4,h5,nz hl (eR hm h6)⟩,rfl⟩
 ·obtain ⟨rfl,rfl,rfl,rfl⟩:=h
  obtain ⟨r,h1,h2⟩:=hb
  exact ⟨⟨r,(fZ hi).trans h1,h2⟩,rfl⟩
theorem kK (h1:eT S.F S1.nx S1.F) (h2:eU S.H S1.nx S1.H):co E S S1:=by
 intro c0 c ρ F h
 refine ⟨c,jI S1.nx ρ,rfl,⟨h.1.since,h.1.gl,?_,?_,?_⟩,fun i hi=>by simp [jI,Nat.not_lt.2 hi]⟩
 ·intro t v ht
  obtain ⟨u,hu,hm,hl⟩:=Ar h1 ht
  exact nz hl (eR hm (h.1.slot t u hu))
 ·intro i b hb
  obtain ⟨a,ha,hm,hi,hl⟩:=rU h2 hb
  exact (wh hm hi hl (h.1.heap i a ha)).1
 ·intro i j bi bj k hij hbi hbj hpi hpj hk hk'
  obtain ⟨ai,hai,hmi,hi,hli⟩:=rU h2 hbi
  obtain ⟨aj,haj,hmj,hj,hlj⟩:=rU h2 hbj
  have e1:=(wh hmi hi hli (h.1.heap i ai hai)).2
  have e2:=(wh hmj hj hlj (h.1.heap j aj haj)).2
  rw [cW (fZ hi)] at hk
  rw [cW (fZ hj)] at hk'
  exact h.1.sep i j ai aj k hij hai haj (e1▸hpi) (e2▸hpj) hk hk'
def kL:Option Blk→V
 | some (.own _ n g z l)=> .sl z n g l
 | some (.pown n g z l)=> .sl z n g l
 | _=> .un
mutual
def jJ (H:List (Nat×Blk)):V→V
 | .own i=>kL (al H i)
 | .ptr _ _=> .un
 | .optr _ _ _ _=> .un
 | .osub _ _ _ _=> .un
 | .agg l=> .agg (i7 H l)
 | .tup l=> .tup (i7 H l)
 | .fn f l=> .fn f (i7 H l)
 | v=>v
def i7 (H:List (Nat×Blk)):List V→List V
 | []=> []
 | d::l=>jJ H d::i7 H l
end
def nA (H:List (Nat×Blk)) (off:Nat):Option Blk→V
 | some (.var n g d)=>if off=0 then .pp n g (jJ H d) else .un
 | some (.lent _ n g d)=>if off=0 then .pp n g (jJ H d) else .un
 | some (.pvar n g d)=>if off=0 then .pp n g d else .un
 | _=> .un
mutual
def gB (H:List (Nat×Blk)):V→V
 | .own i=>kL (al H i)
 | .ptr i o=>nA H o (al H i)
 | .optr _ _ _ _=> .un
 | .osub _ _ _ _=> .un
 | .agg l=> .agg (i7 H l)
 | .tup l=> .tup (jK H l)
 | .fn f l=> .fn f (jK H l)
 | v=>v
def jK (H:List (Nat×Blk)):List V→List V
 | []=> []
 | d::l=>gB H d::jK H l
end
theorem wi (h:Sim E c0 c ρ S F) {k:Nat} (hk:c0.mine k):k∉(c0.base c h.since.size).X:=fun hm=>by
 obtain ⟨h1,h2⟩:=pf.1 hm
 rcases hk with hk|hk
 ·have:=c0.ok k h1;omega
 ·exact h2 hk
theorem At (h:Sim E c0 c ρ S F) {i:Nat} {b:Blk} {v:Value} (hb:al S.H i=some b) (hv:ρ i=some v):rd ro0 (c0.base c h.since.size) (kL (some b)) v:=by
 have hblk:=h.heap i b hb
 have hpb:=g9 h
 cases b with
 | own T n g z l=>
  obtain ⟨v',h1,h2,h3,h4,a,cap,e,hz⟩:=hblk
  rw [hv] at h1;cases h1
  simp only [kL]
  refine dv.2 ⟨a,cap,e,⟨h2.1,?_⟩,hz,?_⟩
  ·rcases h2.2 with ⟨a',_,rfl⟩|⟨g',cp,cur,e2,_,_,k3,_⟩
   ·simp
   ·rw [e] at e2;cases e2;exact k3
  ·rcases h2.2 with ⟨a',_,rfl⟩|⟨g',cp,cur,e2,k1,k2,k3,k4,k5,k6⟩
   ·exact .inl rfl
   ·rw [e] at e2;cases e2
    refine .inr ⟨g',0,_,rfl,c.ok g' k1,wi h (h3 g' (by rw [e];rfl)),?_,dh hpb k6⟩
    intro j u hj
    rw [List.getElem?_take] at hj
    split at hj
    ·simp only [Nat.zero_add]
     show (c0.base c h.since.size).w.cell? _=_
     simp only [Cx.base,World.cell?,k2]
     simpa using hj
    ·cases hj
 | pown n g z l=>
  obtain ⟨v',h1,h2⟩:=hblk
  rw [hv] at h1;cases h1
  exact bA hpb h2
 | _=>trivial
mutual
theorem rW (h:Sim E c0 c ρ S F): ∀{d:V} {v:Value},rd ρ c d v→rd ro0 (c0.base c h.since.size) (jJ S.H d) v
 | .int _ _,_,hr=>hr
 | .bool _,_,hr=>hr
 | .ifc _,_,hr=>hr
 | .str _,_,hr=>hr
 | .agg l,v,hr=>by
  simp only [rd,jJ] at hr⊢
  obtain ⟨cs,e,hr⟩:=hr
  exact ⟨cs,e,wj h hr⟩
 | .sl z n g l,v,hr=>bA (g9 h) (show rd ro0 c (.sl z n g l) v from hr)
 | .pp n g d,v,hr=>bA (g9 h) (show rd ro0 c (.pp n g d) v from hr)
 | .own i,v,hr=>by
  simp only [rd] at hr
  simp only [jJ]
  cases hb:al S.H i with
  | none=>trivial
  | some b=>exact At h hb hr.1
 | .ptr _ _,_,_=>trivial
 | .optr _ _ _ _,_,_=>trivial
 | .osub _ _ _ _,_,_=>trivial
 | .tup l,v,hr=>by
  simp only [rd,jJ] at hr⊢
  obtain ⟨cs,e,hr⟩:=hr
  exact ⟨cs,e,wk h hr⟩
 | .fn f l,v,hr=>by
  simp only [rd,jJ] at hr⊢
  obtain ⟨cs,e,hr⟩:=hr
  exact ⟨cs,e,wk h hr⟩
 | .opq p,v,hr=>bA (g9 h) (show rd ro0 c (.opq p) v from hr)
 | .un,_,_=>trivial
theorem wj (h:Sim E c0 c ρ S F): ∀{l:List V} {cs:List Value},rdC ρ c l cs→rdC ro0 (c0.base c h.since.size) (i7 S.H l) cs
 | [],_,hr=>hr
 | d::l,cs,hr=>by
  simp only [rdC,i7] at hr⊢
  obtain ⟨u,c2,e,h1,h2,h3⟩:=hr
  exact ⟨u,c2,e,h1,rW h h2,wj h h3⟩
theorem wk (h:Sim E c0 c ρ S F): ∀{l:List V} {cs:List Value},rdT ρ c l cs→rdT ro0 (c0.base c h.since.size) (i7 S.H l) cs
 | [],_,hr=>hr
 | d::l,cs,hr=>by
  simp only [rdT,i7] at hr⊢
  obtain ⟨u,c2,e,h2,h3⟩:=hr
  exact ⟨u,c2,e,rW h h2,wk h h3⟩
end
theorem GY (h:Sim E c0 c ρ S F) {i off:Nat} {b:Blk} {v:Value} (hb:al S.H i=some b) (hv:rd ρ c (.ptr i off) v):rd ro0 (c0.base c h.since.size) (nA S.H off (some b)) v:=by
 have hblk:=h.heap i b hb
 have hpb:=g9 h
 simp only [rd] at hv
 obtain ⟨b0,hv,rfl⟩:=hv
 cases b with
 | var n g d=>
  obtain ⟨b',h1,h2,h3,T,cs,h4,h5,h6⟩:=hblk
  rw [hv] at h1;cases h1
  simp only [nA]
  split
  ·rename_i e;subst e
   simp only [rd]
   refine ⟨b0,0,cs.toList,rfl,c.ok b0 h3,wi h h2,?_,h5,rW h h6⟩
   intro j u hj
   show c.w.cell? _=_
   simp only [Nat.zero_add,World.cell?,h4]
   simpa using hj
  ·trivial
 | pvar n g d=>
  obtain ⟨b',h1,h2⟩:=hblk
  rw [hv] at h1;cases h1
  simp only [nA]
  split
  ·rename_i e;subst e
   exact bA hpb (g7.2 h2)
  ·trivial
 | lent k' n g d=>
  obtain ⟨h1,h2,h3,T,cs,h4,h5,h6⟩:=hblk
  rw [hv] at h1;cases h1
  simp only [nA]
  split
  ·rename_i e;subst e
   simp only [rd]
   refine ⟨b0,0,cs.toList,rfl,c.ok b0 h3,wi h h2,?_,h5,rW h h6⟩
   intro j u hj
   show c.w.cell? _=_
   simp only [Nat.zero_add,World.cell?,h4]
   simpa using hj
  ·trivial
 | _=>trivial
mutual
theorem Au (h:Sim E c0 c ρ S F): ∀{d:V} {v:Value},rd ρ c d v→rd ro0 (c0.base c h.since.size) (gB S.H d) v
 | .int _ _,_,hr=>hr
 | .bool _,_,hr=>hr
 | .ifc _,_,hr=>hr
 | .str _,_,hr=>hr
 | .agg l,v,hr=>by
  simp only [rd,gB] at hr⊢
  obtain ⟨cs,e,hr⟩:=hr
  exact ⟨cs,e,wj h hr⟩
 | .sl z n g l,v,hr=>bA (g9 h) (show rd ro0 c (.sl z n g l) v from hr)
 | .pp n g d,v,hr=>bA (g9 h) (show rd ro0 c (.pp n g d) v from hr)
 | .own i,v,hr=>by
  simp only [rd] at hr
  simp only [gB]
  cases hb:al S.H i with
  | none=>trivial
  | some b=>exact At h hb hr.1
 | .ptr i o,v,hr=>by
  simp only [gB]
  cases hb:al S.H i with
  | none=>trivial
  | some b=>exact GY h hb hr
 | .optr _ _ _ _,_,_=>trivial
 | .osub _ _ _ _,_,_=>trivial
 | .tup l,v,hr=>by
  simp only [rd,gB] at hr⊢
  obtain ⟨cs,e,hr⟩:=hr
  exact ⟨cs,e,rX h hr⟩
 | .fn f l,v,hr=>by
  simp only [rd,gB] at hr⊢
  obtain ⟨cs,e,hr⟩:=hr
  exact ⟨cs,e,rX h hr⟩
 | .opq p,v,hr=>bA (g9 h) (show rd ro0 c (.opq p) v from hr)
 | .un,_,_=>trivial
theorem rX (h:Sim E c0 c ρ S F): ∀{l:List V} {cs:List Value},rdT ρ c l cs→rdT ro0 (c0.base c h.since.size) (jK S.H l) cs
 | [],_,hr=>hr
 | d::l,cs,hr=>by
  simp only [rdT,jK] at hr⊢
  obtain ⟨u,c2,e,h2,h3⟩:=hr
  exact ⟨u,c2,e,Au h h2,rX h h3⟩
end
theorem GZ {vs ws:List V} (hp:dG vs) (hm:mtL vs ws):pg E S vs S ws:=
 fun _ c ρ _ _ h hr=>⟨c,ρ,rfl,Cx.pub.refl _,h,ib hm (mg hp hr)⟩
theorem Av {vs ws:List V} (hm:mtL (jK S.H vs) ws):rD E S vs ws:=
 fun _ _ _ _ _ h hr=>ib hm (rX h hr)
theorem Aw {vs ws:List V} (hp:dG vs) (hm:mtL vs ws): ∀(c:Cx) (ρ:Ro) (us:List Value),rdT ρ c vs us→rdT ro0 c ws us:=
 fun _ _ _ hr=>ib hm (mg hp hr)
theorem G0 {v r:V} (hm:mt (gB S.H v) r):rS E S v r []:=by
 intro c0 c ρ F u hY h hr
 refine ⟨c0.base c h.1.since.size,ro0,rfl,?_,eR hm (Au h.1 hr),HOk.nil⟩
 refine (Cx.leY.le ⟨h.1.since.below,fun k hk hy=> ?_⟩ hY)
 rw [pf]
 exact ⟨fun h=>h.1,fun h=>⟨h,hy⟩⟩
end
end Go.Proofs.YtiknkaadhomeiaaGreatDoor
namespace Go.Proofs.YtiknkaadhomeiaaGreatDoor
open Go.RowKit
inductive Ct where
 | code (c:Code)
 | ops (i:Nat) (ds:List (Nat×Nat)) (l:List Oper)
 | blk (id:Nat)
 | lp (K:St→Prop)
 | fin (Q:Exit→St→Prop)
def aE (E:Env) (J:cC):List Ct→Exit→St→Prop
 | [],_,_=>False
 | .code c::k,.normal,S=>wpA E J c (aE E J k) S
 | .code _::k,e,S=>aE E J k e S
 | .ops i ds l::k,.normal,S=>i5 E i ds l (aE E J k .normal) S
 | .ops _ _ _::k,e,S=>aE E J k e S
 | .blk id::k,e,S=>wb (aE E J k) id e S
 | .lp K::k,e,S=>nu (aE E J k) K e S
 | .fin Q::_,e,S=>Q e S
section
variable {E:Env} {J:cC} {k:List Ct} {S:St}
theorem cO {c:Code} {Q:Exit→St→Prop} (h:aE E J [.code c,.fin Q] .normal S):wpA E J c Q S:=h
def mp (E:Env) (J:cC) (M:Bool) (a b:Code) (k:List Ct) (S:St):Prop:=match M with
 | false=>aE E J (.code a:: .code b::k) .normal S
 | true=>aE E J (.code a:: .lp (nt E (aE E J (.code b::k) .normal))::k) .normal S
theorem G3 {b:Code}:nu (aE E J k) (wpA E J b (aE E J k))=aE E J (.code b::k):=by funext e S';cases e<;>rfl
theorem G4 {K:St→Prop}:nu (aE E J k) K=aE E J (.lp K::k):=by funext e S';cases e<;>rfl
theorem G5 {a b:Code}:aE E J (.code (.seq a b)::k) .normal S=mp E J (mj J b) a b k S:=by
 simp only [aE,wpA,mp]
 cases mj J b with
 | false=>simp only [G3]
 | true=>rw [G4]
theorem G6 {a b:Code}:mp E J false a b k S=aE E J (.code a:: .code b::k) .normal S:=Eq.trans rfl rfl
theorem nB {a b:Code} (M:St→Prop) (h2: ∀S1,M S1→aE E J (.code b::k) .normal S1)
  (h1:(∀S1,M S1→aE E J (.code b::k) .normal S1)→aE E J (.code a:: .lp (nt E (aE E J (.code b::k) .normal))::k) .normal S):mp E J true a b k S:=h1 h2
theorem eV {M:St→Prop} (S1:St) (hF:eT S.F S1.nx S1.F) (hH:eU S.H S1.nx S1.H) (hM:M S1):aE E J (.lp (nt E M)::k) .normal S:=⟨S1,kK hF hH,hM⟩
theorem G7 {M M':Bool} {a b:Code} (h:M=M'):mp E J M a b k S=mp E J M' a b k S:=by rw [h]
theorem G8:aE E J (.code .skip::k) .normal S=aE E J k .normal S:=Eq.trans rfl rfl
theorem G9:aE E J (.code .ret::k) .normal S=aE E J k .ret S:=Eq.trans rfl rfl
theorem G_ {id:Nat}:aE E J (.code (.exit id)::k) .normal S=aE E J k (.exit id) S:=Eq.trans rfl rfl
theorem Ha {c:Code}:aE E J (.code c::k) .ret S=aE E J k .ret S:=Eq.trans rfl rfl
theorem Hb {c:Code} {i:Nat}:aE E J (.code c::k) (.exit i) S=aE E J k (.exit i) S:=Eq.trans rfl rfl
theorem Hc {i:Nat}:aE E J (.blk i::k) .ret S=aE E J k .ret S:=Eq.trans rfl rfl
theorem Hd {i:Nat}:aE E J (.blk i::k) .normal S=aE E J k .normal S:=Eq.trans rfl rfl
theorem He {i j:Nat}:aE E J (.blk i::k) (.exit j) S=if j=i then aE E J k .normal S else aE E J k (.exit j) S:=Eq.trans rfl rfl
theorem Hf {K:St→Prop}:aE E J (.lp K::k) .ret S=aE E J k .ret S:=Eq.trans rfl rfl
theorem Hg {K:St→Prop} {i:Nat}:aE E J (.lp K::k) (.exit i) S=aE E J k (.exit i) S:=Eq.trans rfl rfl
theorem wm {Q:Exit→St→Prop} {e:Exit}:aE E J (.fin Q::k) e S=Q e S:=by cases e<;>rfl
theorem Hh {id:Nat} {a:Code}:aE E J (.code (.block id a)::k) .normal S=aE E J (.code a:: .blk id::k) .normal S:=Eq.trans rfl rfl
theorem Hi {id:Nat} {ops:Array Oper}:aE E J (.code (.region id ops false)::k) .normal S=aE E J (.ops 0 [] ops.toList::k) .normal S:=Eq.trans rfl rfl
noncomputable def noJ:cC:=[]
def wn (J:cC):Option Nat→Bool
 | some i=>bp J i
 | none=>false
theorem Hj {p:Nat} {L:cC} {b:Code}:mj (p::L) b=wn (p::L) (i6 b):=by
 unfold mj wn;cases i6 b<;>rfl
theorem Hk {b:Code}:mj noJ b=false:=by unfold mj;split<;>rfl
def kM (E:Env) (J:cC) (v:Option V) (a b:Code) (k:List Ct) (S:St):Prop:=pt v (aE E J (.code a::k) .normal S) (aE E J (.code b::k) .normal S)
theorem Hl {x:Operand} {a b:Code}:aE E J (.code (.cond x a b)::k) .normal S=kM E J (S.ev E.gv x) a b k S:=Eq.trans rfl rfl
theorem Hm {a b:Code}:kM E J (some (.bool true)) a b k S=aE E J (.code a::k) .normal S:=by simp [kM,pt,gy]
theorem Hn {a b:Code}:kM E J (some (.bool false)) a b k S=aE E J (.code b::k) .normal S:=by simp [kM,pt,gy]
theorem bR {c:Bool} {a b:Code} (h1:c=true→aE E J (.code a::k) .normal S) (h2:c=false→aE E J (.code b::k) .normal S):kM E J (some (.bool c)) a b k S:=⟨h1,h2⟩
def kN (E:Env) (J:cC) (r:Res) (S:St) (d:Option Nat) (k:List Ct):Prop:=rE S S.nx d (aE E J k .normal) r
theorem Ho {v:V} {e:Eff} {d:Option Nat}:kN E J (some (True,v,e)) S d k=aE E J k .normal ((S.eff S.nx e).put d v):=by simp [kN,rE]
theorem bM {c:Prop} {v:V} {e:Eff} {d:Option Nat} (h1:c) (h2:aE E J k .normal ((S.eff S.nx e).put d v)):kN E J (some (c,v,e)) S d k:=⟨h1,fun _=>h2⟩
def gC (E:Env) (J:cC) (v:Option V) (vs:Option (List V)) (S:St) (d:Option Nat) (k:List Ct):Prop:=vI E S d (aE E J k .normal) v vs
def opC (E:Env) (J:cC) (op:Op) (T:TypeId) (S:St) (d:Option Nat) (k:List Ct):Prop:=
 match i4 op with
 | some (x,l,Ts)=>gC E J (S.ev E.gv x) (evs E S l Ts) S d k
 | none=>kN E J (opF E S S.nx T op) S d k
def ft (E:Env) (J:cC) (v:Option V) (op:Op) (T:TypeId) (want:Bool) (S:St) (d:Option Nat) (k:List Ct):Prop:=
 eP v want (opC E J op T S d k) (aE E J k .normal (S.put d (.tup [])))
def rY (E:Env) (J:cC) (t:Option Nat) (op:Op) (T:TypeId) (want:Bool) (S:St) (d:Option Nat) (k:List Ct):Prop:=
 match t with
 | some t=>ft E J (al S.F t) op T want S d k
 | none=>False
theorem Hp {i:Nat} {ds:List (Nat×Nat)}:aE E J (.ops i ds []::k) .normal S=aE E J k .normal S:=Eq.trans rfl rfl
theorem Hq {i:Nat} {ds:List (Nat×Nat)} {l:List Oper} {d:Option Nat} {op:Op} {T:TypeId} {pos:String} {af:Array Edge}:aE E J (.ops i ds ({dst:=d,op:=op,type:=T,pos:=pos,after:=af,guard:=none}::l)::k) .normal S=opC E J op T S d (.ops (i+1) (kG i d ds) l::k):=Eq.trans rfl rfl
theorem Hr {i:Nat} {ds:List (Nat×Nat)} {l:List Oper} {d:Option Nat} {op:Op} {T:TypeId} {pos:String} {af:Array Edge} {j:Nat} {want:Bool}:aE E J (.ops i ds ({dst:=d,op:=op,type:=T,pos:=pos,after:=af,guard:=some (j,want)}::l)::k) .normal S=rY E J (al ds j) op T want S d (.ops (i+1) (kG i d ds) l::k):=Eq.trans rfl rfl
theorem Ht {op:Op} {T:TypeId} {d:Option Nat}:ft E J (some (.bool true)) op T true S d k=opC E J op T S d k:=by simp [ft,eP,gy]
theorem Hu {op:Op} {T:TypeId} {d:Option Nat}:ft E J (some (.bool false)) op T false S d k=opC E J op T S d k:=by simp [ft,eP,gy]
theorem Hv {op:Op} {T:TypeId} {d:Option Nat}:ft E J (some (.bool true)) op T false S d k=aE E J k .normal (S.put d (.tup [])):=by simp [ft,eP,gy]
theorem Hw {op:Op} {T:TypeId} {d:Option Nat}:ft E J (some (.bool false)) op T true S d k=aE E J k .normal (S.put d (.tup [])):=by simp [ft,eP,gy]
theorem Hx {op:Op} {T:TypeId} {d:Option Nat} {w:Bool}:ft E J (some (.tup [])) op T w S d k=aE E J k .normal (S.put d (.tup [])):=by simp [ft,eP]
theorem mq {op:Op} {T:TypeId} {d:Option Nat} {b:Bool} (h1:b=true→opC E J op T S d k) (h2:b=false→aE E J k .normal (S.put d (.tup []))):ft E J (some (.bool b)) op T true S d k:=⟨h1,h2⟩
theorem fH {op:Op} {T:TypeId} {d:Option Nat} {b:Bool} (h1:b=false→opC E J op T S d k) (h2:b=true→aE E J k .normal (S.put d (.tup []))):ft E J (some (.bool b)) op T false S d k:=⟨h1,h2⟩
theorem bl {f:FuncId} {caps vs:List V} {d:Option Nat} {ws:List V} {r:V} {H:List Blk} (hc:a8 E f ws r H) (hp:dG (vs++caps)) (hm:mtL (vs++caps) ws) (h:wfV r→aE E J k .normal (S.after d r H)):gC E J (some (.fn f caps)) (some vs) S d k:=
 .inl ⟨ws,r,H,hc,.inl ⟨S,GZ hp hm,h⟩⟩
theorem nC {f:FuncId} {caps vs:List V} {d:Option Nat} {ws:List V} {r:V} (hc:a8 E f ws r []) (hf:dA r) (hm:mtL (jK S.H (vs++caps)) ws) (h:wfV r→aE E J k .normal (S.put d r)):gC E J (some (.fn f caps)) (some vs) S d k:=
 .inl ⟨ws,r,[],hc,.inr ⟨hf,rfl,Av hm,h⟩⟩
theorem bm {a:Code} (I:Nat→St→Prop) (k0:Nat) (S1:St) (hF:eT S.F S1.nx S1.F) (hH:eU S.H S1.nx S1.H) (h0:I k0 S1)
  (h: ∀n S',I n S'→aE E J (.code a:: .lp (fun S2=> ∃n',n'<n∧ ∃S3,co E S2 S3∧I n' S3)::k) .normal S'):aE E J (.code (.loop a)::k) .normal S:=
 ⟨I,k0,⟨S1,kK hF hH,h0⟩,h⟩
theorem aO {I:Nat→St→Prop} {n:Nat} (n':Nat) (S3:St) (hlt:n'<n) (hF:eT S.F S3.nx S3.F) (hH:eU S.H S3.nx S3.H) (hI:I n' S3):aE E J (.lp (fun S2=> ∃n',n'<n∧ ∃S3,co E S2 S3∧I n' S3)::k) .normal S:=
 ⟨n',hlt,S3,kK hF hH,hI⟩
def mr (E:Env) (S:St) (r:V) (H:List Blk):Option (List V)→Prop
 | some vs=>rS E S (fG vs) r H
 | none=>False
theorem Hy {rs:List ResultVar} {r:V} {H:List Blk}:pu E rs r H .ret S=mr E S r H (gA E.tb S rs):=Eq.trans rfl rfl
theorem cI {vs:List V} {r:V} (hm:mt (gB S.H (fG vs)) r):mr E S r [] (some vs):=G0 hm
structure Dr where
 J:cC
 S0:St
 wr:List Nat
 wl:List (Nat×Nat)
 need:List (List Nat)
 ub:List (Nat×Nat)
 k:List Ct
def bV (E:Env) (D:Dr) (m i:Nat) (l:List Oper) (R:List (Nat×aY)):Prop:=g_ E D.S0 D.wr D.wl D.need D.ub (aE E D.J D.k .normal) m i l R
theorem jL {id:Nat} {ops:Array Oper} (n m:Nat) (wr:List Nat) (wl:List (Nat×Nat)) (need:List (List Nat)) (ub:List (Nat×Nat)) (hB:(wlB ops m wl&&jx n m ops wr need&&((List.range m).all fun i=>(need.getD i []).all fun j=>decide (j<i)))=true) (hU:ubB m need ub S.nx=true)
  (h:bV E ⟨J,S,wr,wl,need,ub,k⟩ m 0 ops.toList []):aE E J (.code (.region id ops true)::k) .normal S:=by
 exact ⟨n,m,wr,wl,need,ub,hB,hU,h⟩
section
variable {D:Dr} {m i:Nat} {l:List Oper} {R:List (Nat×aY)} {d:Option Nat} {op:Op} {T:TypeId}
theorem Hz:bV E D 0 i l R=aE E D.J (.ops i (dsR R) l::D.k) .normal (cu D.S0 D.wr kI (fE D.ub R) R i):=Eq.trans rfl rfl
def cD (E:Env) (D:Dr) (m i:Nat) (l:List Oper) (R:List (Nat×aY)) (d:Option Nat) (nid:Nat) (r:Res):Prop:=fX D.ub i nid d (fun r=>bV E D m (i+1) l ((i,r)::R)) r
def gD (E:Env) (D:Dr) (m i:Nat) (l:List Oper) (R:List (Nat×aY)) (d:Option Nat) (S:St) (v:Option V) (vs:Option (List V)):Prop:=vQ E S D.ub i d (fun r=>bV E D m (i+1) l ((i,r)::R)) v vs
def ic (E:Env) (D:Dr) (m i:Nat) (l:List Oper) (R:List (Nat×aY)) (d:Option Nat) (op:Op) (T:TypeId) (S:St):Prop:=
 match i4 op with
 | some (x,xs,Ts)=>gD E D m i l R d S (S.ev E.gv x) (evs E S xs Ts)
 | none=>cD E D m i l R d S.nx (opH E S S.nx T op)
def eW (E:Env) (D:Dr) (m i:Nat) (l:List Oper) (R:List (Nat×aY)) (d:Option Nat) (op:Op) (T:TypeId) (want:Bool):Bool→Option aY→Prop
 | true,some ⟨some _,v,_⟩=>eP (some v) want (ic E D m i l R d op T (cu D.S0 (wrF D.wl D.need i D.wr) (bp (D.need.getD i [])) (cf D.ub D.need i R) R i)) (bV E D m (i+1) l ((i,⟨d,.tup [],none⟩)::R))
 | _,_=>False
theorem HA {pos:String} {af:Array Edge}:bV E D (m+1) i ({dst:=d,op:=op,type:=T,pos:=pos,after:=af,guard:=none}::l) R=ic E D m i l R d op T (cu D.S0 (wrF D.wl D.need i D.wr) (bp (D.need.getD i [])) (cf D.ub D.need i R) R i):=by
 simp only [bV,g_,pn,pm,ic,gD,cD]
 all_goals cases i4 op<;>rfl
theorem HB {pos:String} {af:Array Edge} {j:Nat} {want:Bool}:bV E D (m+1) i ({dst:=d,op:=op,type:=T,pos:=pos,after:=af,guard:=some (j,want)}::l) R=eW E D m i l R d op T want (bp (D.need.getD i []) j) (al R j):=by
 simp only [bV,g_,pn]
 cases bp (D.need.getD i []) j<;>cases al R j with
 | none=>rfl
 | some r=>
  obtain ⟨t,v,b⟩:=r
  cases t<;>first|rfl|(simp only [eW,pm,ic,gD,cD,bV];cases i4 op<;>rfl)
theorem HD {t:Nat} {b:Option (Nat×Blk)}:eW E D m i l R d op T true true (some ⟨some t,.bool true,b⟩)=ic E D m i l R d op T (cu D.S0 (wrF D.wl D.need i D.wr) (bp (D.need.getD i [])) (cf D.ub D.need i R) R i):=by simp [eW,eP,gy]
theorem HE {t:Nat} {b:Option (Nat×Blk)}:eW E D m i l R d op T false true (some ⟨some t,.bool false,b⟩)=ic E D m i l R d op T (cu D.S0 (wrF D.wl D.need i D.wr) (bp (D.need.getD i [])) (cf D.ub D.need i R) R i):=by simp [eW,eP,gy]
theorem HF {t:Nat} {b:Option (Nat×Blk)}:eW E D m i l R d op T true true (some ⟨some t,.bool false,b⟩)=bV E D m (i+1) l ((i,⟨d,.tup [],none⟩)::R):=by simp [eW,eP,gy]
theorem HG {t:Nat} {b:Option (Nat×Blk)}:eW E D m i l R d op T false true (some ⟨some t,.bool true,b⟩)=bV E D m (i+1) l ((i,⟨d,.tup [],none⟩)::R):=by simp [eW,eP,gy]
theorem HH {t:Nat} {w:Bool} {b:Option (Nat×Blk)}:eW E D m i l R d op T w true (some ⟨some t,.tup [],b⟩)=bV E D m (i+1) l ((i,⟨d,.tup [],none⟩)::R):=by simp [eW,eP]
theorem rZ {t:Nat} {b:Option (Nat×Blk)} {x:Bool} (h1:x=true→ic E D m i l R d op T (cu D.S0 (wrF D.wl D.need i D.wr) (bp (D.need.getD i [])) (cf D.ub D.need i R) R i)) (h2:x=false→bV E D m (i+1) l ((i,⟨d,.tup [],none⟩)::R)):eW E D m i l R d op T true true (some ⟨some t,.bool x,b⟩):=⟨h1,h2⟩
theorem r6 {t:Nat} {b:Option (Nat×Blk)} {x:Bool} (h1:x=false→ic E D m i l R d op T (cu D.S0 (wrF D.wl D.need i D.wr) (bp (D.need.getD i [])) (cf D.ub D.need i R) R i)) (h2:x=true→bV E D m (i+1) l ((i,⟨d,.tup [],none⟩)::R)):eW E D m i l R d op T false true (some ⟨some t,.bool x,b⟩):=⟨h1,h2⟩
section
variable {nid:Nat}
theorem HI {v:V}:cD E D m i l R d nid (some (True,v,.none))=bV E D m (i+1) l ((i,⟨d,v,none⟩)::R):=by simp [cD,fX]
theorem HJ {v x:V} {n:Nat} {g:Bool}:cD E D m i l R d nid (some (True,v,.new (.var n g x)))=(match bF D.ub i nid with|true=>False|false=>bV E D m (i+1) l ((i,⟨d,v,some (nid,.var n g x)⟩)::R)):=by
 simp only [cD,fX];cases bF D.ub i nid<;>simp [pk,aW]
theorem HK {k:Nat} {U:TypeId} {n:Nat} {g:Bool} {z:Option Bool} {ll:List V}:cD E D m i l R d nid (some (True,.own k,.new (.own U n g z ll)))=(match bF D.ub i nid with|true=>(match decide (k=nid) with|true=>bV E D m (i+1) l ((i,⟨d,.sl z n g ll,none⟩)::R)|false=>False)|false=>bV E D m (i+1) l ((i,⟨d,.own k,some (nid,.own U n g z ll)⟩)::R)):=by
 simp only [cD,fX];cases bF D.ub i nid
 ·simp [aW]
 ·by_cases hk:k=nid<;>simp [pk,hk]
theorem HL {k:Nat} {n:Nat} {g:Bool} {z:Option Bool} {ll:List V}:cD E D m i l R d nid (some (True,.own k,.new (.pown n g z ll)))=(match bF D.ub i nid&&decide (k=nid) with|true=>bV E D m (i+1) l ((i,⟨d,.sl z n g ll,none⟩)::R)|false=>False):=by
 simp only [cD,fX];cases bF D.ub i nid
 ·simp [aW]
 ·by_cases hk:k=nid<;>simp [pk,hk]
theorem HM {v:V} {id:Nat} {b:Blk}:cD E D m i l R d nid (some (True,v,.upd id b))=(match bF D.ub i id&&aW b with|true=>bV E D m (i+1) l ((i,⟨d,v,some (id,b)⟩)::R)|false=>False):=by
 simp only [cD,fX];cases bF D.ub i id&&aW b<;>simp
theorem c8 {c:Prop} {v:V} (h1:c) (h2:bV E D m (i+1) l ((i,⟨d,v,none⟩)::R)):cD E D m i l R d nid (some (c,v,.none)):=⟨h1,fun _=>h2⟩
theorem ie {c:Prop} {v:V} {U:TypeId} {n:Nat} {g:Bool} {z:Option Bool} {ll:List V} (h1:c) (hm:bF D.ub i nid=false) (h2:bV E D m (i+1) l ((i,⟨d,v,some (nid,.own U n g z ll)⟩)::R)):cD E D m i l R d nid (some (c,v,.new (.own U n g z ll))):=by
 simp only [cD,fX,hm];exact ⟨h1,fun _=>h2⟩
theorem ig {c:Prop} {k:Nat} {U:TypeId} {n:Nat} {g:Bool} {z:Option Bool} {ll:List V} (h1:c) (hm:(bF D.ub i nid&&decide (k=nid))=true) (h2:bV E D m (i+1) l ((i,⟨d,.sl z n g ll,none⟩)::R)):cD E D m i l R d nid (some (c,.own k,.new (.own U n g z ll))):=by
 simp only [Bool.and_eq_true] at hm
 simp only [cD,fX,hm.1];exact ⟨hm.2,h1,fun _=>h2⟩
theorem ii {c:Prop} {v x:V} {n:Nat} {g:Bool} (h1:c) (hm:bF D.ub i nid=false) (h2:bV E D m (i+1) l ((i,⟨d,v,some (nid,.var n g x)⟩)::R)):cD E D m i l R d nid (some (c,v,.new (.var n g x))):=by
 simp only [cD,fX,hm];exact ⟨h1,fun _=>h2⟩
theorem ij {c:Prop} {v:V} {id:Nat} {b:Blk} (h1:c) (hm:(bF D.ub i id&&aW b)=true) (h2:bV E D m (i+1) l ((i,⟨d,v,some (id,b)⟩)::R)):cD E D m i l R d nid (some (c,v,.upd id b)):=by
 simp only [cD,fX,hm];exact ⟨h1,fun _=>h2⟩
end
theorem c_ {f:FuncId} {caps vs ws:List V} {r:V} (hc:a8 E f ws r []) (hp:dG (vs++caps)) (hm:mtL (vs++caps) ws) (h:bV E D m (i+1) l ((i,⟨d,r,none⟩)::R)):gD E D m i l R d S (some (.fn f caps)) (some vs):=
 .inl (.inl ⟨ws,r,hc,.inl (Aw hp hm),h⟩)
theorem wo {f:FuncId} {caps vs ws:List V} {r:V} (hc:a8 E f ws r []) (hf:dA r) (hm:mtL (jK S.H (vs++caps)) ws) (h:bV E D m (i+1) l ((i,⟨d,r,none⟩)::R)):gD E D m i l R d S (some (.fn f caps)) (some vs):=
 .inl (.inl ⟨ws,r,hc,.inr ⟨hf,Av hm⟩,h⟩)
theorem HN {f:FuncId} {caps vs ws:List V} {U:TypeId} {n:Nat} {g:Bool} {z:Option Bool} {ll:List V} (hc:a8 E f ws (.own 0) [.own U n g z ll]) (hp:dG (vs++caps)) (hm:mtL (vs++caps) ws) (h:bV E D m (i+1) l ((i,⟨d,.own S.nx,some (S.nx,.own U n g z ll)⟩)::R)):gD E D m i l R d S (some (.fn f caps)) (some vs):=
 .inl (.inr ⟨ws,U,n,g,z,ll,hc,Aw hp hm,h⟩)
theorem il {c:Prop} {id nid:Nat} {U:TypeId} {n:Nat} {g:Bool} {z:Option Bool} {ll:List V} (h1:c) (hm:(bF D.ub i id&& !decide (id=nid))=true) (h2:bV E D m (i+1) l ((i,⟨d,.own nid,some (nid,.own U n g z ll)⟩)::R)):cD E D m i l R d nid (some (c,.own id,.app id (.own U n g z ll))):=by
 simp only [cD,fX,decide_true,Bool.true_and,hm]
 exact ⟨h1,fun _=>h2⟩
theorem HP {need:List (List Nat)} {i:Nat}:cf [] need i R=kH:=Eq.trans rfl rfl
theorem HQ:fE [] R=kH:=Eq.trans rfl rfl
theorem HT {p:Nat×Nat} {ub:List (Nat×Nat)} {need:List (List Nat)} {i k:Nat}:cf (p::ub) need i R k=(jG (p::ub) need i k||eE (p::ub) (bp (need.getD i [])) R k):=Eq.trans rfl rfl
theorem HU {p:Nat×Nat} {ub:List (Nat×Nat)} {k:Nat}:fE (p::ub) R k=eE (p::ub) kI R k:=Eq.trans rfl rfl
theorem HV {ub:List (Nat×Nat)} {ns:Nat→Bool} {j k:Nat} {t:Option Nat} {v:V} {b:Option (Nat×Blk)}:eE ub ns ((j,⟨t,v,b⟩)::R) k=((ns j&&fD ub j b k)||eE ub ns R k):=Eq.trans rfl rfl
theorem HW {ub:List (Nat×Nat)} {ns:Nat→Bool} {k:Nat}:eE ub ns [] k=false:=Eq.trans rfl rfl
theorem HX {ub:List (Nat×Nat)} {j k:Nat}:fD ub j none k=false:=Eq.trans rfl rfl
theorem HY {ub:List (Nat×Nat)} {j k k':Nat} {b:Blk}:fD ub j (some (k',b)) k=(bF ub j k&& !decide (k'=k)):=Eq.trans rfl rfl
theorem HZ {ub:List (Nat×Nat)} {p:Nat×Nat} {need:List (List Nat)} {i k:Nat} {b:Blk} {H:List (Nat×Blk)}:ee (cf (p::ub) need i R) ((k,b)::H)=if cf (p::ub) need i R k=true then ee (cf (p::ub) need i R) H else (k,b)::ee (cf (p::ub) need i R) H:=by
 simp only [ee];cases cf (p::ub) need i R k<;>rfl
theorem H3 {ub:List (Nat×Nat)} {p:Nat×Nat} {k:Nat} {b:Blk} {H:List (Nat×Blk)}:ee (fE (p::ub) R) ((k,b)::H)=if fE (p::ub) R k=true then ee (fE (p::ub) R) H else (k,b)::ee (fE (p::ub) R) H:=by
 simp only [ee];cases fE (p::ub) R k<;>rfl
theorem H4 {ns:Nat→Bool} {j t:Nat} {v:V} {b:Option (Nat×Blk)}:eD ns ((j,⟨some t,v,b⟩)::R)=if ns j=true then (t,v)::eD ns R else eD ns R:=by
 simp only [eD];cases ns j<;>rfl
theorem H5 {ns:Nat→Bool} {j:Nat} {v:V} {b:Option (Nat×Blk)}:eD ns ((j,⟨none,v,b⟩)::R)=eD ns R:=by
 simp only [eD];cases ns j<;>rfl
theorem H6 {ns:Nat→Bool} {j:Nat} {t:Option Nat} {v:V} {b:Nat×Blk}:c7 ns ((j,⟨t,v,some b⟩)::R)=if ns j=true then b::c7 ns R else c7 ns R:=by
 simp only [c7];cases ns j<;>rfl
theorem H7 {ns:Nat→Bool} {j:Nat} {t:Option Nat} {v:V}:c7 ns ((j,⟨t,v,none⟩)::R)=c7 ns R:=by
 simp only [c7];cases ns j<;>rfl
theorem H8 {ns:Nat→Bool}:eD ns []=[]:=Eq.trans rfl rfl
theorem H_ {ns:Nat→Bool}:c7 ns []=[]:=Eq.trans rfl rfl
theorem Ax {need:List (List Nat)} {i:Nat}: ∀{l:List Nat},wrF [] need i l=l
 | []=>rfl
 | t::l=>congrArg (t:: ·) (Ax (l:=l))
theorem Ia {w k i:Nat} {wl:List (Nat×Nat)} {need:List (List Nat)}:wrF ((w,k)::wl) need i []=[]:=Eq.trans rfl rfl
theorem Ib {w k i t:Nat} {wl:List (Nat×Nat)} {need:List (List Nat)} {l:List Nat}:wrF ((w,k)::wl) need i (t::l)=if jH ((w,k)::wl) need i t=true then wrF ((w,k)::wl) need i l else t::wrF ((w,k)::wl) need i l:=by
 rw [wrF];cases jH ((w,k)::wl) need i t<;>rfl
theorem Ic {w k i t:Nat} {wl:List (Nat×Nat)} {need:List (List Nat)}:jH ((w,k)::wl) need i t=((decide (k=t)&&bp (need.getD w []) i)||jH wl need i t):=Eq.trans rfl rfl
theorem Id {i t:Nat} {need:List (List Nat)}:jH [] need i t=false:=Eq.trans rfl rfl
theorem Ie {need:List (List Nat)} {i:Nat}:jG [] need i=kH:=by funext k;rfl
theorem Ay: ∀{H:List (Nat×Blk)},ee kH H=H
 | []=>rfl
 | (k,b)::H=>by simp only [ee,kH,Ay]
theorem Ig {ban:Nat→Bool}:ee ban []=[]:=Eq.trans rfl rfl
theorem Ih {w k i id:Nat} {ub:List (Nat×Nat)} {need:List (List Nat)}:jG ((w,k)::ub) need i id=((decide (k=id)&&(!decide (w=i)&&(!bp (need.getD i []) w&& !bp (need.getD w []) i)))||jG ub need i id):=Eq.trans rfl rfl
theorem Ii {id:Nat}:kH id=false:=Eq.trans rfl rfl
theorem Ij {j t:Nat} {v:V} {b:Option (Nat×Blk)}:dsR ((j,⟨some t,v,b⟩)::R)=(j,t)::dsR R:=Eq.trans rfl rfl
theorem Ik {j:Nat} {v:V} {b:Option (Nat×Blk)}:dsR ((j,⟨none,v,b⟩)::R)=dsR R:=Eq.trans rfl rfl
theorem Il:dsR []=[]:=Eq.trans rfl rfl
theorem Im {R':List (Nat×aY)} (h:R=R'):bV E D m i l R=bV E D m i l R':=by rw [h]
theorem Io {nid nid':Nat} {r r':Res} (h0:nid=nid') (h:r=r'):cD E D m i l R d nid r=cD E D m i l R d nid' r':=by rw [h,h0]
theorem Ip {v v':Option V} {vs vs':Option (List V)} (h1:v=v') (h2:vs=vs'):gD E D m i l R d S v vs=gD E D m i l R d S v' vs':=by rw [h1,h2]
theorem Iq {S S':St} (h:S=S'):ic E D m i l R d op T S=ic E D m i l R d op T S':=by rw [h]
theorem Ir {w b b':Bool} {r r':Option aY} (h1:b=b') (h2:r=r'):eW E D m i l R d op T w b r=eW E D m i l R d op T w b' r':=by rw [h1,h2]
end
theorem Is {e:Exit} {S S':St} (h:S=S'):aE E J k e S=aE E J k e S':=by rw [h]
theorem It {r r':Res} {d:Option Nat} (h:r=r'):kN E J r S d k=kN E J r' S d k:=by rw [h]
theorem Iu {v v':Option V} {a b:Code} (h:v=v'):kM E J v a b k S=kM E J v' a b k S:=by rw [h]
theorem Iv {v v':Option V} {vs vs':Option (List V)} {d:Option Nat} (h1:v=v') (h2:vs=vs'):gC E J v vs S d k=gC E J v' vs' S d k:=by rw [h1,h2]
theorem Iw {v v':Option V} {op:Op} {T:TypeId} {w:Bool} {d:Option Nat} (h:v=v'):ft E J v op T w S d k=ft E J v' op T w S d k:=by rw [h]
theorem Ix {t t':Option Nat} {op:Op} {T:TypeId} {w:Bool} {d:Option Nat} (h:t=t'):rY E J t op T w S d k=rY E J t' op T w S d k:=by rw [h]
end
attribute [congr] Is It Iu Iv Iw Ix G7 Im Io Ip Iq Ir
theorem Iy:(false==true)=false:=Eq.trans rfl rfl
theorem Iz:(true==false)=false:=Eq.trans rfl rfl
theorem IA:(true==true)=true:=Eq.trans rfl rfl
theorem IB:(false==false)=true:=Eq.trans rfl rfl
theorem IC {α:Type} {f:α→V} {l:List α} {i j:Nat}:lY (l.map f) i j=(lY l i j).map f:=by simp [lY,List.map_take,List.map_drop]
theorem Az {α:Type} {f:α→V} {l m:List α} {i k:Nat}:spl (l.map f) i k (m.map f)=(spl l i k m).map f:=by simp [spl,List.map_take,List.map_drop]
theorem ID {α:Type} {f:α→V} {l:List α} {i j:Int}:ri (l.map f) i j=(sl l i j).map f:=by simp [ri,sl,List.map_take,List.map_drop]
theorem IE {z:Option Bool}:mtZ z z=True:=by cases z<;>simp [mtZ]
theorem IF {z:Option Bool}:mtZ z none=True:=by cases z<;>simp [mtZ]
theorem IG {a b:Bool}:mtZ (some a) (some b)=(a=b):=by simp [mtZ]
theorem AA {H:List (Nat×Blk)} {k:IntKind}: ∀{l:List Int},lX H (l.map (V.int k))=l.map (V.int k)
 | []=>rfl
 | a::l=>by simp only [List.map_cons,lX,pvw,AA (l:=l)]
attribute [go_sem] pvw lX pvO AA
attribute [go_sem] rn rp vg rq vh nh o9 o_ l3 zF
theorem IH (x:Int):([x].length=1)=True:=by simp
attribute [go_sem] IH
attribute [go_sem] Hz HA HB ic HH HD HE HF HG HI HJ HK HL H4 H5 H6 H7 H8 H_ Ij Ik Il cu mi bp kI Ax Ia Ib Ic Id Ie Ay Ig HP HQ HT HU HV HW HX HY HZ H3 Ih Ii HM bF aW ubB
 G5 G8 G9 G_ Ha Hb Hc Hd He Hf Hg wm Hh Hi G6 Hk Hj wn i6 Hl Hm Hn Hp Hq Hr rY Hx Ht Hu Hv Hw opC i4 Ho
 opH vj rr vi vk opF rm evL evL.consO vf kE ze St.ev St.evT qQ uK qP uI nb qR al fp qS uL uM ky qT uN uP qU uQ qV uR qW uS qX qY uT qZ uU eqC oY oX kz uV unF o7 uX uY uZ q5 q6 nf uJ zrB zrC Value.oneCell' q7 q8 q9 q_ u3 ra rb nc lW rc kC re rf rh gu u6 jC u_ nd isC loB hiB bound kD rk rOk rIf rB
 St.eff St.put St.after shift jF g8 eO gw l6 ni l7 part kw kx kG evs eC dY dG dA gx Hy gA rR fG
 gB jK jJ i7 kL nA mt mtL nw ny GW IE IF IG eT eU mtO mtB ltV ltL ltB
 Iy Iz IA IB ID
 ia rg u5 Bool.or_true Bool.true_or Bool.or_false Bool.false_or Nat.sub_zero IC Az ng vd ve o8 zf u4 u7 va vc lZ vb rl uO Option.map_some Option.map_none Bool.and_true Bool.true_and Bool.false_and Bool.and_false Bool.not_true Bool.not_false decide_true decide_false true_and and_true false_and and_false true_implies false_implies implies_true and_self not_true_eq_false not_false_eq_true
 List.getElem?_cons_zero List.getElem?_cons_succ List.getD_cons_zero List.getD_cons_succ List.take_succ_cons List.take_zero List.take_nil List.drop_succ_cons List.drop_zero List.drop_nil List.cons_append List.nil_append List.append_nil List.length_cons List.length_nil List.set_cons_zero List.set_cons_succ List.replicate_zero List.replicate_succ List.map_cons List.map_nil List.map_append List.length_map List.map_set List.map_replicate List.tail_cons List.tail_nil List.headD_cons List.headD_nil
 Nat.add_zero Nat.zero_add ne_eq Prod.mk.injEq reduceCtorEq
theorem aC {α β:Type} {a:α} {f:α→β} {R:β} (h:ab a f=R): ∃x,x=a∧f x=R:=⟨a,rfl,h⟩
theorem nD (a:Int):0≤ae .u64 a:=(qK .u64 a).1
end Go.Proofs.YtiknkaadhomeiaaGreatDoor
