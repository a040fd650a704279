/- Texts of this proof, one after the other: V9, VD, VR, VW, VX. -/
import Derived.Test.YtgealhhkngbkbaaGreatDoorZ2
import Derived.RangeFuncNested
import Derived.RangeFuncLeaves
import Derived.RangeFuncFrom
set_option linter.unusedVariables false
set_option linter.unusedSimpArgs false
namespace Go.Proofs.YtgealhhkngbkbaaGreatDoor
open Go.RowKit
def bl (E:Env) (c0 c:Cx) (ρ:Ro) (S:St) (F:Fm):Prop:=Sim E c0 c ρ S F∧uT ρ S.nx
def Gy (b:Blk):Prop:=(∃T n g z l,b= .own T n g z l)∨ ∃g k n l,b= .kset g k n l
def HOk (c c':Cx) (ρ:Ro) (H:List Blk):Prop:=
 (∀i b,H[i]? =some b→Gy b∧blkOk c c' ρ i b)∧(∀i,H.length≤i→ρ i=none)∧
  ∀i j bi bj k,i≠j→H[i]? =some bi→H[j]? =some bj→an ρ i=some k→an ρ j≠some k
def vf (E:Env) (c:Cx) (r:V) (H:List Blk):Ending→World→Prop:=fun e w'=> ∃v c' ρ,e= .returned v∧c'.w=w'∧c.le c'∧rd ρ c' r v∧HOk c c' ρ H
def aE (E:Env) (f:FuncId) (ws:List V) (r:V) (H:List Blk):Prop:=
 (∀aas w,(callFunc f aas).run E.P w= .ok (.enter f aas) w)∧ ∀(c:Cx) (us:List Value),c.Y=[]→Gl E c→rdT ro0 c ws us→Calls E.P f us.toArray c.w (vf E c r H)
def ze (E:Env) (p:Cx→Value→Prop) (ws:List V) (r:V):Prop:=
 ∀(c:Cx) (u:Value) (us:List Value),c.Y=[]→Gl E c→p c u→rdT ro0 c ws us→ ∃f fs cap,u= .func (.func f) (List.toArray fs) (List.toArray cap)∧(∀aas w,(callFunc f aas).run E.P w= .ok (.enter f aas) w)∧Calls E.P f (fs++us++cap).toArray c.w (vf E c r [])
mutual
def shift (n:Nat):V→V
 | .own i=> .own (n+i)
 | .ptr i o=> .ptr (n+i) o
 | .optr i m k o=> .optr (n+i) m k o
 | .osub i m k o=> .osub (n+i) m k o
 | .agg l=> .agg (i7 n l)
 | .tup l=> .tup (i7 n l)
 | .fn f l=> .fn f (i7 n l)
 | v=>v
def i7 (n:Nat):List V→List V
 | []=> []
 | d::l=>shift n d::i7 n l
end
def gM (n:Nat):Nat→List Blk→List (Nat×Blk)
 | _,[]=> []
 | i,b::l=>(n+i,b)::gM n (i+1) l
def St.after (S:St) (d:Option Nat) (r:V) (H:List Blk):St:=St.put {S with H:=gM S.nx 0 H++S.H,nx:=S.nx+H.length} d (shift S.nx r)
mutual
def dp:V→Prop
 | .int _ _=>True
 | .bool _=>True
 | .str _=>True
 | .agg l=>gc l
 | .tup l=>gc l
 | _=>False
def gc:List V→Prop
 | []=>True
 | d::l=>dp d∧gc l
end
def Cx.base (c0 c:Cx) (h:c0.w.heap.size≤c.w.heap.size):Cx:={X:=c0.X.filter (fun k=>k∉c0.Y),w:=c.w,ok:=fun k hk=>Nat.lt_of_lt_of_le (c0.ok k (List.mem_filter.1 hk).1) h}
theorem oH {c0 c:Cx} {h:c0.w.heap.size≤c.w.heap.size} {k:Nat}:k∈(c0.base c h).X↔k∈c0.X∧k∉c0.Y:=by simp [Cx.base]
def oI (E:Env) (S:St) (vs:List V) (S1:St) (ws:List V):Prop:=
 ∀c0 c ρ F us,bl E c0 c ρ S F→rdT ρ c vs us→ ∃c1 ρ1,c1.w=c.w∧c.pub c1∧bl E c0 c1 ρ1 S1 F∧rdT ro0 c1 ws us
def rt (E:Env) (S:St) (vs:List V) (ws:List V):Prop:=
 ∀c0 c ρ F us (h:Sim E c0 c ρ S F),rdT ρ c vs us→rdT ro0 (c0.base c h.since.size) ws us
def vg (E:Env) (C:List V→V→List Blk→Prop) (vs:List V) (S:St) (d:Option Nat) (K:St→Prop):Prop:=
 ∃ws r H,C ws r H∧((∃S1,oI E S vs S1 ws∧(wfV r→K (S1.after d r H)))∨(dp r∧H=[]∧rt E S vs ws∧(wfV r→K (S.put d r))))
def evs (E:Env) (S:St):List Operand→List TypeId→Option (List V)
 | [],_=>some []
 | x::l,Ts=>match S.evT E (Ts.headD 0) x,evs E S l Ts.tail with
  | some v,some vs=>some (v::vs)
  | _,_=>none
def Gz (E:Env) (f:FuncId) (vs:List V) (S:St) (d:Option Nat) (K:St→Prop):Prop:=
 (∀aas w,(callFunc f aas).run E.P w= .ok (.enter f aas) w)∧ ∃S' r,(∀c0 c ρ F us,bl E c0 c ρ S F→rdT ρ c vs us→Calls E.P f us.toArray c.w fun e w'=> ∃v c' ρ',e= .returned v∧c'.w=w'∧bl E c0 c' ρ' S' (ci F d v)∧wfV r)∧(wfV r→K S')
def vh (E:Env) (S:St) (d:Option Nat) (K:St→Prop):Option V→Option (List V)→Prop
 | some (.fn f caps),some vs=>vg E (aE E f) (vs++caps) S d K∨Gz E f (vs++caps) S d K
 | some (.opq p),some vs=>vg E (fun ws r H=>ze E p ws r∧H=[]) vs S d K
 | _,_=>False
def gN:Op→Option (Operand×List Operand×List TypeId)
 | .call c=>match c.callee with
  | .value x=>some (x,c.args.toList,c.argTypes.toList)
  | _=>none
 | _=>none
def oJ (S:St) (nid:Nat) (d:Option Nat) (K:St→Prop):Res→Prop
 | some (c,v,e)=>c∧(c→K ((S.eff nid e).put d v))
 | none=>False
def oK (E:Env) (S:St) (o:Oper) (K:St→Prop):Prop:=
 match gN o.op with
 | some (x,l,Ts)=>vh E S o.dst K (S.ev E.gv x) (evs E S l Ts)
 | none=>oJ S S.nx o.dst K (opF E S S.nx o.type o.op)
def gd (b w:Bool) (A B:Prop):Prop:=(b=w→A)∧(b=(!w)→B)
def eE (v:Option V) (want:Bool) (A B:Prop):Prop:=match v with
 | some (.bool b)=>gd b want A B
 | some (.tup [])=>B
 | _=>False
def oL (S:St) (ds:List (Nat×Nat)) (o:Oper) (A B:Prop):Prop:=
 match o.guard with
 | none=>A
 | some (j,want)=>match ak ds j with
  | some t=>eE (ak S.F t) want A B
  | none=>False
def gO (i:Nat) (d:Option Nat) (ds:List (Nat×Nat)):List (Nat×Nat):=
 match d with
 | some t=>(i,t)::ds
 | none=>ds
def gg (E:Env):Nat→List (Nat×Nat)→List Oper→(St→Prop)→St→Prop
 | _,_,[],K,S=>K S
 | i,ds,o::l,K,S=>oL S ds o (oK E S o (gg E (i+1) (gO i o.dst ds) l K)) (gg E (i+1) (gO i o.dst ds) l K (S.put o.dst (.tup [])))
section
variable {E:Env} {c0 c:Cx} {ρ:Ro} {S:St} {F:Fm} {nid:Nat}
theorem GA {e:Eff} {ρ':Ro} (hf:uT ρ S.nx) (h: ∀i,S.nx≠i→ρ i=none→ρ' i=none) (hr:e= .none∨(∃id b,e= .upd id b)∨(∃id b,e= .app id b)∨(∃id b,e= .giv id b)∨(∃id b,e= .mrk id b)→ρ' S.nx=none):uT ρ' (S.eff S.nx e).nx:=by
 intro i hi
 cases e with
 | new b=>simp only [St.eff] at hi;exact h i (by omega) (hf i (by omega))
 | none=>
  simp only [St.eff] at hi
  by_cases e:S.nx=i
  ·subst e;exact hr (.inl rfl)
  ·exact h i e (hf i hi)
 | upd id b=>
  simp only [St.eff] at hi
  by_cases e:S.nx=i
  ·subst e;exact hr (.inr (.inl ⟨_,_,rfl⟩))
  ·exact h i e (hf i hi)
 | app id b=>
  simp only [St.eff] at hi
  by_cases e:S.nx=i
  ·subst e;exact hr (.inr (.inr (.inl ⟨_,_,rfl⟩)))
  ·exact h i e (hf i hi)
 | giv id b=>
  simp only [St.eff] at hi
  by_cases e:S.nx=i
  ·subst e;exact hr (.inr (.inr (.inr (.inl ⟨_,_,rfl⟩))))
  ·exact h i e (hf i hi)
 | mrk id b=>
  simp only [St.eff] at hi
  by_cases e:S.nx=i
  ·subst e;exact hr (.inr (.inr (.inr (.inr ⟨_,_,rfl⟩))))
  ·exact h i e (hf i hi)
theorem GB (h:bl E c0 c ρ S F) {e:Eff} {c':Cx} {ρ':Ro} (hp:uV S e) (hr:uU c0 c ρ S.nx c' ρ' e):bl E c0 c' ρ' (S.eff S.nx e) F:=by
 obtain ⟨h1,h2,h3⟩:=FG h.1 (h.2 _ (Nat.le_refl _)) hp hr
 refine ⟨h1,GA h.2 h3 ?_⟩
 rintro (rfl|⟨id,b,rfl⟩|⟨id,b,rfl⟩|⟨id,b,rfl⟩|⟨id,b,rfl⟩)
 ·rw [hr.2];exact h.2 _ (Nat.le_refl _)
 ·rw [hr.2.1];exact h.2 _ (Nat.le_refl _)
 rotate_left
 ·rw [hr.1];exact h.2 _ (Nat.le_refl _)
 ·rw [hr.1];exact h.2 _ (Nat.le_refl _)
 ·obtain ⟨b0,hb0,hp0,_⟩:=hp
  have hid:S.nx≠id:=by
   rintro rfl
   have h5:=h.1.heap _ _ hb0
   have h6:=h.2 _ (Nat.le_refl S.nx)
   cases b0 with
   | var n g d=>obtain ⟨b,h5,_⟩:=h5;rw [h6] at h5;cases h5
   | own E n g z l=>obtain ⟨b,h5,_⟩:=h5;rw [h6] at h5;cases h5
   | ownI E n g z l=>obtain ⟨b,h5,_⟩:=h5;rw [h6] at h5;cases h5
   | pvar n g d=>cases hp0
   | pown n g z l=>cases hp0
   | lent k' n g d=>obtain ⟨h5,_⟩:=h5;rw [h6] at h5;cases h5
   | kset g k' n l=>obtain ⟨b,h5,_⟩:=h5;rw [h6] at h5;cases h5
  rw [hr.2.1 _ hid];exact h.2 _ (Nat.le_refl _)
theorem mR (h:bl E c0 c ρ S F) {d:Option Nat} {v:V} {u:Value} (hv:rd ρ c v u):bl E c0 c ρ (S.put d v) (ci F d u):=by
 refine ⟨FH h.1 hv,?_⟩
 cases d<;>exact h.2
mutual
theorem vi {ρ':Ro} {n:Nat} (k: ∀i v,ρ i=some v→ρ' (n+i)=some v): ∀{d:V} {v:Value},rd ρ c d v→rd ρ' c (shift n d) v
 | .int _ _,_,h=>h
 | .bool _,_,h=>h
 | .ifc _,_,h=>h
 | .str _,_,h=>h
 | .agg l,v,h=>by
  simp only [rd,shift] at h⊢
  obtain ⟨cs,e,h⟩:=h
  exact ⟨cs,e,zf k h⟩
 | .sl z n g l,v,h=>h
 | .pp n g d,v,h=>h
 | .own _,_,h=>⟨k _ _ h.1,h.2⟩
 | .ptr _ _,_,h=>by
  simp only [rd,shift] at h⊢
  obtain ⟨b,h1,h2⟩:=h
  exact ⟨b,k _ _ h1,h2⟩
 | .optr _ _ _ _,_,h=>by
  simp only [rd,shift] at h⊢
  obtain ⟨u,h1,h2⟩:=h
  exact ⟨u,k _ _ h1,h2⟩
 | .osub _ _ _ _,_,h=>by
  simp only [rd,shift] at h⊢
  obtain ⟨u,h1,h2⟩:=h
  exact ⟨u,k _ _ h1,h2⟩
 | .tup l,v,h=>by
  simp only [rd,shift] at h⊢
  obtain ⟨cs,e,h⟩:=h
  exact ⟨cs,e,vj k h⟩
 | .fn f l,v,h=>by
  simp only [rd,shift] at h⊢
  obtain ⟨cs,e,h⟩:=h
  exact ⟨cs,e,vj k h⟩
 | .opq p,v,h=>h
 | .un,_,_=>trivial
theorem zf {ρ':Ro} {n:Nat} (k: ∀i v,ρ i=some v→ρ' (n+i)=some v): ∀{l:List V} {cs:List Value},rdC ρ c l cs→rdC ρ' c (i7 n l) cs
 | [],_,h=>h
 | d::l,cs,h=>by
  simp only [rdC,i7] at h⊢
  obtain ⟨u,c2,e,h1,h2,h3⟩:=h
  exact ⟨u,c2,e,h1,vi k h2,zf k h3⟩
theorem vj {ρ':Ro} {n:Nat} (k: ∀i v,ρ i=some v→ρ' (n+i)=some v): ∀{l:List V} {cs:List Value},rdT ρ c l cs→rdT ρ' c (i7 n l) cs
 | [],_,h=>h
 | d::l,cs,h=>by
  simp only [rdT,i7] at h⊢
  obtain ⟨u,c2,e,h2,h3⟩:=h
  exact ⟨u,c2,e,vi k h2,vj k h3⟩
end
mutual
theorem oM {ρ':Ro} {c':Cx}: ∀{d:V} {v:Value},dp d→rd ρ c d v→rd ρ' c' d v
 | .int _ _,_,_,h=>h
 | .bool _,_,_,h=>h
 | .str _,_,_,h=>h
 | .agg l,v,hp,h=>by
  simp only [rd,dp] at h hp⊢
  obtain ⟨cs,e,h⟩:=h
  exact ⟨cs,e,zg hp h⟩
 | .tup l,v,hp,h=>by
  simp only [rd,dp] at h hp⊢
  obtain ⟨cs,e,h⟩:=h
  exact ⟨cs,e,zh hp h⟩
 | .sl _ _ _ _,_,hp,_=>by simp only [dp] at hp
 | .pp _ _ _,_,hp,_=>by simp only [dp] at hp
 | .own _,_,hp,_=>by simp only [dp] at hp
 | .ptr _ _,_,hp,_=>by simp only [dp] at hp
 | .optr _ _ _ _,_,hp,_=>by simp only [dp] at hp
 | .osub _ _ _ _,_,hp,_=>by simp only [dp] at hp
 | .fn _ _,_,hp,_=>by simp only [dp] at hp
 | .ifc _,_,hp,_=>by simp only [dp] at hp
 | .opq _,_,hp,_=>by simp only [dp] at hp
 | .un,_,hp,_=>by simp only [dp] at hp
theorem zg {ρ':Ro} {c':Cx}: ∀{l:List V} {cs:List Value},gc l→rdC ρ c l cs→rdC ρ' c' l cs
 | [],_,_,h=>h
 | d::l,cs,hp,h=>by
  simp only [rdC,gc] at h hp⊢
  obtain ⟨u,c2,e,h1,h2,h3⟩:=h
  exact ⟨u,c2,e,h1,oM hp.1 h2,zg hp.2 h3⟩
theorem zh {ρ':Ro} {c':Cx}: ∀{l:List V} {cs:List Value},gc l→rdT ρ c l cs→rdT ρ' c' l cs
 | [],_,_,h=>h
 | d::l,cs,hp,h=>by
  simp only [rdT,gc] at h hp⊢
  obtain ⟨u,c2,e,h2,h3⟩:=h
  exact ⟨u,c2,e,oM hp.1 h2,zh hp.2 h3⟩
end
theorem ru {n:Nat}: ∀{H:List Blk} {k i:Nat},ak (gM n k H) i=if n+k≤i then H[i - (n+k)]? else none
 | [],k,i=>by simp [gM,ak]
 | b::H,k,i=>by
  simp only [gM,ak,ru]
  by_cases h:n+k=i
  ·subst h;simp
  ·rw [if_neg h]
   by_cases h1:n+k≤i
   ·rw [if_pos h1,if_pos (by omega)]
    have:i - (n+k)=(i - (n+(k+1)))+1:=by omega
    rw [this,List.getElem?_cons_succ]
   ·rw [if_neg h1,if_neg (by omega)]
theorem mS {α:Type}: ∀{l m:List (Nat×α)} {i:Nat},ak (l++m) i=(match ak l i with|some x=>some x|none=>ak m i)
 | [],m,i=>rfl
 | (k,x)::l,m,i=>by
  simp only [List.cons_append,ak]
  split
  ·rfl
  ·exact mS
def gh (n:Nat) (ρ ρ':Ro):Ro:=fun i=>if i<n then ρ i else ρ' (i - n)
theorem GC (h:bl E c0 c ρ S F) {c':Cx} (hle:c.le c') {r:V} {v:Value} {ρr:Ro} {H:List Blk} (hr:rd ρr c' r v) (hH:HOk c.noY c' ρr H) (d:Option Nat):bl E c0 c' (gh S.nx ρ ρr) (S.after d r H) (ci F d v):=by
 have hro:ii ρ (gh S.nx ρ ρr):=by
  intro i x hi
  have:i<S.nx:=by
   rcases Nat.lt_or_ge i S.nx with h1|h1
   ·exact h1
   ·rw [h.2 i h1] at hi;cases hi
  simp [gh,this,hi]
 have hj: ∀i,gh S.nx ρ ρr (S.nx+i)=ρr i:=fun i=>by
  have: ¬S.nx+i<S.nx:=by omega
  simp only [gh,if_neg this,Nat.add_sub_cancel_left]
 have hlt: ∀i,i<S.nx→gh S.nx ρ ρr i=ρ i:=fun i hi=>by simp [gh,hi]
 obtain ⟨hH1,hH2,hH3⟩:=hH
 have hold: ∀i b,ak S.H i=some b→aZ b=true→i<S.nx:=by
  intro i b hb hp
  rcases Nat.lt_or_ge i S.nx with h1|h1
  ·exact h1
  ·exfalso
   have h5:=h.1.heap _ _ hb
   have h6:=h.2 i h1
   cases b with
   | var n g d=>obtain ⟨b,h5,_⟩:=h5;rw [h6] at h5;cases h5
   | own E n g z l=>obtain ⟨b,h5,_⟩:=h5;rw [h6] at h5;cases h5
   | ownI E n g z l=>obtain ⟨b,h5,_⟩:=h5;rw [h6] at h5;cases h5
   | pvar n g d=>cases hp
   | pown n g z l=>cases hp
   | lent k' n g d=>obtain ⟨h5,_⟩:=h5;rw [h6] at h5;cases h5
   | kset g k' n l=>obtain ⟨b,h5,_⟩:=h5;rw [h6] at h5;cases h5
 have hnew: ∀j b,H[j]? =some b→blkOk c0 c' (gh S.nx ρ ρr) (S.nx+j) b∧ ∀k,an (gh S.nx ρ ρr) (S.nx+j)=some k→c.w.heap.size≤k:=by
  intro j b hb
  obtain ⟨⟨T,n,g,z,l,rfl⟩|⟨g,q,n,l,rfl⟩,hb9⟩:=hH1 j b hb
  ·obtain ⟨v',h1,h2,h3,h4,h5⟩:=hb9
   refine ⟨⟨v',(hj j).trans h1,h2,fun k hk=> .inl (Nat.le_trans h.1.since.size (Cx.noY_mine (h3 k hk))),h4,h5⟩,?_⟩
   intro k hk
   obtain ⟨a,cap,rfl,_⟩:=h5
   unfold an at hk
   rw [hj j,h1] at hk
   exact Cx.noY_mine (h3 k hk)
  ·obtain ⟨r,h1,h2,h3⟩:=hb9
   refine ⟨⟨r,(hj j).trans h1,.inl (Nat.le_trans h.1.since.size (Cx.noY_mine h2)),h3⟩,?_⟩
   intro k hk
   simp only [an,hj j,h1,blk,Option.some.injEq] at hk
   subst hk
   exact Cx.noY_mine h2
 have hput: ∀(S':St),bl E c0 c' (gh S.nx ρ ρr) S' F→bl E c0 c' (gh S.nx ρ ρr) (S'.put d (shift S.nx r)) (ci F d v):=
  fun S' hS=>mR hS (vi (fun i x hi=>(hj i).trans hi) hr)
 refine hput _ ⟨⟨h.1.since.le hle,h.1.gl.mono hle.pub,fun t x ht=>dl hro (bE hle.pub (h.1.slot t x ht)),?_,?_⟩,?_⟩
 ·intro i b hb
  simp only [mS,ru,Nat.add_zero] at hb
  by_cases h1:S.nx≤i
  ·rw [if_pos h1] at hb
   cases hq:H[i - S.nx]? with
   | some x=>
    rw [hq] at hb;cases hb
    have:=(hnew _ _ hq).1
    rwa [Nat.add_sub_cancel' h1] at this
   | none=>
    rw [hq] at hb
    exact mM hro (ij hle.chg (fun _ _ _ hx=>by cases hx) (h.1.heap i b hb))
  ·rw [if_neg h1] at hb
   exact mM hro (ij hle.chg (fun _ _ _ hx=>by cases hx) (h.1.heap i b hb))
 ·have key: ∀i b,ak (gM S.nx 0 H++S.H) i=some b→aZ b=true→(∃j,i=S.nx+j∧H[j]? =some b)∨(i<S.nx∧ak S.H i=some b):=by
   intro i b hb hp
   simp only [mS,ru,Nat.add_zero] at hb
   by_cases h1:S.nx≤i
   ·rw [if_pos h1] at hb
    cases hq:H[i - S.nx]? with
    | some x=>rw [hq] at hb;cases hb;exact .inl ⟨i - S.nx,by omega,hq⟩
    | none=>rw [hq] at hb;have:=hold i b hb hp;omega
   ·rw [if_neg h1] at hb;exact .inr ⟨by omega,hb⟩
  intro i j bi bj k hij hbi hbj hpi hpj hk hk'
  rcases key i bi hbi hpi with ⟨i',rfl,hi'⟩|⟨hi',hbi'⟩<;>rcases key j bj hbj hpj with ⟨j',rfl,hj'⟩|⟨hj',hbj'⟩
  ·rw [cP (ρ:=fun x=>ρr (x - S.nx)) (by simp [hj])] at hk hk'
   refine hH3 i' j' bi bj k (by omega) hi' hj' ?_ ?_
   ·simpa [an] using hk
   ·simpa [an] using hk'
  ·have h1:=(hnew _ _ hi').2 k hk
   rw [cP (hlt j hj')] at hk'
   have:=fk hpj (h.1.heap j bj hbj') k hk'
   omega
  ·have h1:=(hnew _ _ hj').2 k hk'
   rw [cP (hlt i hi')] at hk
   have:=fk hpi (h.1.heap i bi hbi') k hk
   omega
  ·rw [cP (hlt i hi')] at hk
   rw [cP (hlt j hj')] at hk'
   exact h.1.sep i j bi bj k hij hbi' hbj' hpi hpj hk hk'
 ·intro i hi
  simp only at hi
  have: ¬i<S.nx:=by omega
  simp only [gh,this,if_false]
  exact hH2 _ (by omega)
theorem vk: ∀{l m:List V} {cs ds:List Value},rdT ρ c l cs→rdT ρ c m ds→rdT ρ c (l++m) (cs++ds)
 | [],m,cs,ds,h,h'=>by simp only [rdT] at h;subst h;simpa using h'
 | d::l,m,cs,ds,h,h'=>by
  simp only [rdT] at h
  obtain ⟨u,c2,e,h2,h3⟩:=h
  rw [e]
  simp only [List.cons_append,rdT]
  exact ⟨u,_,rfl,h2,vk h3 h'⟩
theorem rx (h:Sim E c0 c ρ S F): ∀{l:List Operand} {Ts:List TypeId} {vs:List V},evs E S l Ts=some vs→rdT ρ c vs (l.map (ev F))
 | [],_,_,he=>by simp only [evs,Option.some.injEq] at he;subst he;rfl
 | x::l,Ts,vs,he=>by
  simp only [evs] at he
  split at he
  ·rename_i v vs' h1 h2
   cases he
   simp only [List.map_cons,rdT]
   exact ⟨_,_,rfl,eU h h1,rx h h2⟩
  ·cases he
theorem HOk.nil {c':Cx}:HOk c c' ro0 []:=⟨by simp,fun _ _=>rfl,by simp⟩
theorem gP (h:Sim E c0 c ρ S F):c.pub (c0.base c h.since.size):=⟨Nat.le_refl _,fun k hk hx=>⟨fun h'=>hx (h.since.X k (oH.1 h').1 (oH.1 h').2),fun _ h _=>h⟩⟩
theorem zi {C:List V→V→List Blk→Prop} {f:FuncId} {aas:List Value} {us:List Value} {vs:List V} {d:Option Nat} {K:St→Prop} (h:bl E c0 c ρ S F)
  (hC: ∀ws r H,C ws r H→ ∀c2:Cx,c2.Y=[]→c2.w=c.w→c.pub c2→Gl E c2→rdT ro0 c2 ws us→Calls E.P f aas.toArray c2.w (vf E c2 r H)) (hus:rdT ρ c vs us) (hk:vg E C vs S d K):
  Calls E.P f aas.toArray c.w fun e w'=> ∃v,e= .returned v∧ ∃c' ρ' S',c'.w=w'∧bl E c0 c' ρ' S' (ci F d v)∧K S':=by
 obtain ⟨ws,r,H,hc,hk⟩:=hk
 rcases hk with ⟨S1,hg,hk⟩|⟨hfl,rfl,hl,hk⟩
 ·obtain ⟨c1,ρ1,hw,hpb,hS,hrd⟩:=hg c0 c ρ F us h hus
  have:=hC ws r H hc c1.noY rfl hw (hpb.trans (Cx.pub_noY c1)) (hS.1.gl.mono (Cx.pub_noY c1)) (fH (Cx.pub_noY c1) hrd)
  rw [show c1.noY.w=c.w from hw] at this
  refine this.mono ?_
  rintro e w' ⟨v,c',ρr,rfl,rfl,hle,hr,hH⟩
  exact ⟨v,rfl,c',_,_,rfl,GC hS ⟨hle.below,hle.old⟩ hr hH d,hk (jT hr)⟩
 ·have hrd:=hl c0 c ρ F us h.1 hus
  have hpb:=gP h.1
  have:=hC ws r [] hc (c0.base c h.1.since.size) rfl rfl hpb (h.1.gl.mono hpb) hrd
  refine (show Calls E.P f aas.toArray c.w _ from this).mono ?_
  rintro e w' ⟨v,c',ρr,rfl,rfl,hle,hr,hH⟩
  have hb:Below c.w.heap.size c.w c'.w:=hle.below
  have hle':c.le (c.at c'.w hb.size):=Cx.le_at hb
  refine ⟨v,rfl,c.at c'.w hb.size,ρ,S.put d r,rfl,?_,hk (jT hr)⟩
  have hS:bl E c0 (c.at c'.w hb.size) ρ S F:=by
   refine ⟨⟨h.1.since.le hle',h.1.gl.mono hle'.pub,fun t x ht=>bE hle'.pub (h.1.slot t x ht),?_,h.1.sep⟩,h.2⟩
   intro i b hb'
   exact ij hle'.chg (fun _ _ _ hx=>by cases hx) (h.1.heap i b hb')
  exact mR hS (oM hfl hr)
theorem mT {P:Program} {o:Oper} {cl:Call} {x:Operand} {f:FuncId} {cap:List Value} {w:World} (ho:o.op= .call cl) (hx:cl.callee= .value x) (hv:ev F x= .func (.func f) #[] cap.toArray)
  (hc: ∀aas w,(callFunc f aas).run P w= .ok (.enter f aas) w):run P F o w= .ok (.enter f (cl.args.toList.map (ev F)++cap).toArray) w:=by
 obtain ⟨callee,args,ats⟩:=cl
 obtain ⟨args⟩:=args
 simp only at hx
 subst hx
 simp only [run,execOp,ho,resolve,hv,Deferred.ofValue,invoke,Sem.run_bind,Sem.run_pure,Result.andThen_ok,List.map_toArray,hc]
 congr 2
 simp
theorem GD {P:Program} {o:Oper} {cl:Call} {x:Operand} {f:FuncId} {fs cap:List Value} {w:World} (ho:o.op= .call cl) (hx:cl.callee= .value x) (hv:ev F x= .func (.func f) fs.toArray cap.toArray)
  (hc: ∀aas w,(callFunc f aas).run P w= .ok (.enter f aas) w):run P F o w= .ok (.enter f (fs++cl.args.toList.map (ev F)++cap).toArray) w:=by
 obtain ⟨callee,args,ats⟩:=cl
 obtain ⟨args⟩:=args
 simp only at hx
 subst hx
 simp only [run,execOp,ho,resolve,hv,Deferred.ofValue,invoke,Sem.run_bind,Sem.run_pure,Result.andThen_ok,List.map_toArray,hc]
 congr 2
 simp
def GE (E:Env) (c0:Cx) (F:Fm) (d:Option Nat) (K:St→Prop) (v:Value) (w':World):Prop:= ∃c' ρ' S',c'.w=w'∧bl E c0 c' ρ' S' (ci F d v)∧K S'
theorem zj (hE:bn E) (h:bl E c0 c ρ S F) {o:Oper} {K:St→Prop} (hk:oK E S o K):aF E.P (GE E c0 F o.dst K) (run E.P F o c.w):=by
 unfold oK at hk
 split at hk
 ·rename_i x l Ts hi
  have hop: ∃cl,o.op= .call cl∧cl.callee= .value x∧cl.args.toList=l:=by
   unfold gN at hi
   split at hi
   ·rename_i cl ho
    split at hi
    ·rename_i y hy
     simp only [Option.some.injEq,Prod.mk.injEq] at hi
     obtain ⟨rfl,h2,_⟩:=hi
     exact ⟨cl,ho,hy,h2⟩
    ·cases hi
   ·cases hi
  obtain ⟨cl,ho,hcl,rfl⟩:=hop
  unfold vh at hk
  split at hk
  ·rename_i f caps vs hx hvs
   have hf:=aR h.1 hx
   simp only [rd] at hf
   obtain ⟨cap,hf,hcap⟩:=hf
   have hus:=vk (rx h.1 hvs) hcap
   rcases hk with hk|⟨hent,S',r,hcalls,hk'⟩
   case inr=>
    rw [mT (F:=F) (w:=c.w) ho hcl hf hent]
    refine (hcalls c0 c ρ F _ h hus).mono ?_
    rintro e w' ⟨v,c',ρ',rfl,rfl,hS,hwf⟩
    exact ⟨v,rfl,c',ρ',S',rfl,hS,hk' hwf⟩
   obtain ⟨ws,r,H,hc,hk'⟩:=hk
   have hrun:=mT (F:=F) (w:=c.w) ho hcl hf hc.1
   rw [hrun]
   refine (zi (C:=aE E f) h (fun ws r H hC c2 hY hw _ hg hr=>hC.2 c2 _ hY hg hr) hus ⟨ws,r,H,hc,hk'⟩).mono ?_
   rintro e w' ⟨v,rfl,h1⟩
   exact ⟨v,rfl,h1⟩
  ·rename_i p vs hx hvs
   have hf:=aR h.1 hx
   simp only [rd] at hf
   have hus:=rx h.1 hvs
   obtain ⟨hp,_,hgrow⟩:=hf
   obtain ⟨ws,r,H,⟨hfn,hH⟩,hk'⟩:=hk
   have hshape: ∃f fs cap,ev F x= .func (.func f) (List.toArray fs) (List.toArray cap)∧ ∀aas w,(callFunc f aas).run E.P w= .ok (.enter f aas) w:=by
    rcases hk' with ⟨S1,hg,_⟩|⟨_,_,hl,_⟩
    ·obtain ⟨c1,ρ1,hw,hpb,hS,hrd⟩:=hg c0 c ρ F _ h hus
     obtain ⟨f,fs,cap,e1,e2,_⟩:=hfn c1.noY _ _ rfl (hS.1.gl.mono (Cx.pub_noY c1)) (hgrow _ _ _ hp (hpb.trans (Cx.pub_noY c1))) (fH (Cx.pub_noY c1) hrd)
     exact ⟨f,fs,cap,e1,e2⟩
    ·have hrd:=hl c0 c ρ F _ h.1 hus
     have hpb:=gP h.1
     obtain ⟨f,fs,cap,e1,e2,_⟩:=hfn _ _ _ rfl (h.1.gl.mono hpb) (hgrow _ _ _ hp hpb) hrd
     exact ⟨f,fs,cap,e1,e2⟩
   obtain ⟨f,fs,cap,e1,e2⟩:=hshape
   have hrun:=GD (F:=F) (w:=c.w) ho hcl e1 e2
   rw [hrun]
   refine (zi (C:=fun ws r H=>ze E p ws r∧H=[]) h (fun ws r H hC c2 hY hw hpb hg hr=> ?_) hus ⟨ws,r,H,⟨hfn,hH⟩,hk'⟩).mono ?_
   ·obtain ⟨hfn,rfl⟩:=hC
    obtain ⟨f',fs',cap',e3,_,hcalls⟩:=hfn c2 _ _ hY hg (hgrow _ _ _ hp hpb) hr
    rw [e1] at e3
    simp only [Value.func.injEq,Fn.func.injEq] at e3
    obtain ⟨rfl,e4,e6⟩:=e3
    have e5:cap=cap':=by simpa using e6
    have e7:fs=fs':=by simpa using e4
    subst e5 e7
    exact hcalls
   ·rintro e w' ⟨v,rfl,h1⟩
    exact ⟨v,rfl,h1⟩
  ·exact hk.elim
 ·unfold oJ at hk
  split at hk
  ·rename_i cnd v e hr
   obtain ⟨hc,hk⟩:=hk
   refine (ve hE h.1 (h.2 _ (Nat.le_refl _)) hr hc).mono ?_
   rintro u w' ⟨c',ρ',rfl,hp,hrel,hrd⟩
   exact ⟨c',ρ',_,rfl,mR (GB h hp hrel) hrd,hk hc⟩
  ·exact hk.elim
def mU (ops:Array Oper) (i:Nat) (ds:List (Nat×Nat)):Prop:= ∀j t,ak ds j=some t→j<i∧(ops[j]?).bind (·.dst)=some t
theorem zk {ops:Array Oper} {i:Nat} {ds:List (Nat×Nat)} {o:Oper} (h:mU ops i ds) (ho:ops[i]? =some o):mU ops (i+1) (gO i o.dst ds):=by
 intro j t hj
 cases hd:o.dst with
 | none=>
  rw [hd] at hj
  have:=h j t hj
  exact ⟨by omega,this.2⟩
 | some d=>
  rw [hd] at hj
  simp only [gO,ak] at hj
  split at hj
  ·rename_i e;subst e;cases hj
   exact ⟨by omega,by rw [ho];exact hd⟩
  ·have:=h j t hj
   exact ⟨by omega,this.2⟩
theorem zl (h:bl E c0 c ρ S F) {ops:Array Oper} {i:Nat} {ds:List (Nat×Nat)} {o:Oper} {A B:Prop} (hds:mU ops i ds) (hk:oL S ds o A B):(fi ops F o=true∧A)∨(fi ops F o=false∧B):=by
 unfold oL at hk
 unfold fi
 cases hg:o.guard with
 | none=>rw [hg] at hk;exact .inl ⟨rfl,hk⟩
 | some p=>
  obtain ⟨j,want⟩:=p
  rw [hg] at hk
  simp only at hk
  cases hj:ak ds j with
  | none=>rw [hj] at hk;exact hk.elim
  | some t=>
   rw [hj] at hk
   simp only at hk
   unfold eE at hk
   split at hk
   ·rename_i b hb
    have hv:=h.1.slot _ _ hb
    simp only [rd] at hv
    simp only [(hds j t hj).2,hv]
    by_cases e:b=want
    ·exact .inl ⟨by simp [e],hk.1 e⟩
    ·exact .inr ⟨by simp [e],hk.2 (by cases b<;>cases want<;>simp_all)⟩
   ·rename_i hb
    have hv:=h.1.slot _ _ hb
    simp only [rd] at hv
    obtain ⟨cs,hv,_⟩:=hv
    simp only [(hds j t hj).2,hv]
    exact .inr ⟨by simp,hk⟩
   ·exact hk.elim
def oN [mo:Mo] (E:Env) (c0:Cx) (n:Nat) (K:St→Prop) (Q:Act→World→Prop):Prop:= ∀c ρ S F a,bl E c0 c ρ S F→Fr n F a→K S→Q a c.w
theorem rz [mo:Mo] (hE:bn E) {n:Nat} {ops:Array Oper} (hs:fF n ops=true) {K:St→Prop} {Q:Exit→Act→World→Prop} (hQ:oN E c0 n K (Q .normal)):
  ∀(l pre:List Oper) (ds:List (Nat×Nat)),ops.toList=pre++l→mU ops pre.length ds→ ∀c ρ S F a,bl E c0 c ρ S F→Fr n F a→gg E pre.length ds l K S→
   dw E.P ops Q (List.range' pre.length l.length) a c.w
 | [],pre,ds,hl,hds,c,ρ,S,F,a,h,hf,hk=>by
  simp only [List.length_nil,List.range'_zero,dw,wpOpsIn]
  exact hQ c ρ S F a h hf hk
 | o::l,pre,ds,hl,hds,c,ρ,S,F,a,h,hf,hk=>by
  have ho:ops[pre.length]? =some o:=by
   rw [←Array.getElem?_toList,hl,List.getElem?_append_right (Nat.le_refl _)]
   simp
  have ih:=rz hE hs hQ l (pre++[o]) (gO pre.length o.dst ds) (by rw [hl];simp) (by simpa using zk hds ho)
  simp only [List.length_append,List.length_cons,List.length_nil] at ih
  simp only [gg] at hk
  rw [List.length_cons,List.range'_succ]
  refine tK hs hf ho ?_
  rcases zl h hds hk with ⟨hg,hk⟩|⟨hg,hk⟩
  ·rw [if_pos hg]
   refine (zj hE h hk).mono ?_
   rintro v w' ⟨c',ρ',S',rfl,hS,hk⟩ a' hf'
   exact ih c' ρ' S' _ a' hS hf' hk
  ·rw [if_neg (by simp [hg])]
   intro a' hf'
   exact ih c ρ _ _ a' (mR h (show rd ρ c (.tup []) undef from ⟨[],rfl,rfl⟩)) hf' hk
end
end Go.Proofs.YtgealhhkngbkbaaGreatDoor
namespace Go.Proofs.YtgealhhkngbkbaaGreatDoor
open Go.RowKit
structure bk where
  d:Option Nat
  v:V
  b:Option (Nat×Blk)
def bz:List Nat→Nat→Bool
  | [],_=>false
  | k::l,i=>if k=i then true else bz l i
def ep (ns:Nat→Bool):List (Nat×bk)→List (Nat×V)
  | []=> []
  | (j,r)::R=>match ns j,r.d with
    | true,some t=>(t,r.v)::ep ns R
    | _,_=>ep ns R
def cV (ns:Nat→Bool):List (Nat×bk)→List (Nat×Blk)
  | []=> []
  | (j,r)::R=>match ns j,r.b with
    | true,some b=>b::cV ns R
    | _,_=>cV ns R
def ja (ub:List (Nat×Nat)) (need:List (List Nat)) (i:Nat) (id:Nat):Bool:=match ub with
  | []=>false
  | (w,k)::l=>(decide (k=id)&&(!decide (w=i)&&(!bz (need.getD i []) w&& !bz (need.getD w []) i)))||ja l need i id
def jb (wl:List (Nat×Nat)) (need:List (List Nat)) (i t:Nat):Bool:=match wl with
  | []=>false
  | (w,k)::l=>(decide (k=t)&&bz (need.getD w []) i)||jb l need i t
def wrF (wl:List (Nat×Nat)) (need:List (List Nat)) (i:Nat):List Nat→List Nat
  | []=> []
  | t::l=>match jb wl need i t with
    | true=>wrF wl need i l
    | false=>t::wrF wl need i l
def wlB (ops:Array Oper) (m:Nat) (wl:List (Nat×Nat)):Bool:=wl.all fun p=>decide (p.1<m)&&decide (dF ops p.1=some p.2)
def dW (ban:Nat→Bool):List (Nat×Blk)→List (Nat×Blk)
  | []=> []
  | (k,b)::H=>match ban k with
    | true=>dW ban H
    | false=>(k,b)::dW ban H
def bI:List (Nat×Nat)→Nat→Nat→Bool
  | [],_,_=>false
  | (w,k)::l,i,id=>(decide (w=i)&&decide (k=id))||bI l i id
def j7:Nat→Bool:=fun _=>false
def fm (ub:List (Nat×Nat)) (j:Nat) (b:Option (Nat×Blk)) (k:Nat):Bool:=match b with
  | some (k',_)=>bI ub j k&& !decide (k'=k)
  | none=>false
def et (ub:List (Nat×Nat)) (ns:Nat→Bool):List (Nat×bk)→Nat→Bool
  | [],_=>false
  | (j,r)::R,k=>(ns j&&fm ub j r.b k)||et ub ns R k
def ce (ub:List (Nat×Nat)) (need:List (List Nat)) (i:Nat) (R:List (Nat×bk)):Nat→Bool:=match ub with
  | []=>j7
  | p::l=>fun k=>ja (p::l) need i k||et (p::l) (bz (need.getD i [])) R k
def fo (ub:List (Nat×Nat)) (R:List (Nat×bk)):Nat→Bool:=match ub with
  | []=>j7
  | p::l=>et (p::l) (fun _=>true) R
def rA (_:Nat) (need:List (List Nat)) (n w k:Nat):Bool:=decide (n≤k)&&(decide (k - n=w)||(decide (k - n<w)&&bz (need.getD w []) (k - n)))
def ubB (m:Nat) (need:List (List Nat)):List (Nat×Nat)→Nat→Bool
  | [],_=>true
  | (w,k)::l,n=>(decide (k<n)||rA m need n w k)&&(l.all (fun p=> !decide (p.2=k))&&ubB m need l n)
def lx (wr:List Nat):List (Nat×V)→List (Nat×V)
  | []=> []
  | (t,v)::F=>if bz wr t=true then lx wr F else (t,v)::lx wr F
def co (S0:St) (wr:List Nat) (ns:Nat→Bool) (ban:Nat→Bool) (R:List (Nat×bk)) (i:Nat):St:=⟨ep ns R++lx wr S0.F,dW ban (cV ns R++S0.H),S0.nx+i⟩
def j_:Nat→Bool:=fun _=>true
def dsR:List (Nat×bk)→List (Nat×Nat)
  | []=> []
  | (j,r)::R=>match r.d with
    | some t=>(j,t)::dsR R
    | none=>dsR R
def GF (E:Env) (S:St) (C:List V→V→Prop) (vs:List V) (K:V→Prop):Prop:=
  ∃ws r,C ws r∧((∀c ρ us,rdT ρ c vs us→rdT ro0 c ws us)∨(dp r∧rt E S vs ws))∧K r
def GG (C:List V→Blk→Prop) (vs:List V) (K:Blk→Prop):Prop:=
  ∃ws T n g z l,C ws (.own T n g z l)∧(∀c ρ us,rdT ρ c vs us→rdT ro0 c ws us)∧K (.own T n g z l)
def zm (E:Env) (S:St) (ub:List (Nat×Nat)) (i:Nat) (f:FuncId) (vs:List V) (K:V→Nat→Blk→Prop):Prop:=
  (∀aas w,(callFunc f aas).run E.P w= .ok (.enter f aas) w)∧ ∃r id b,bI ub i id=true∧aZ b=true∧(∃b0,ak S.H id=some b0∧aZ b0=true)∧
    (∀c0 c ρ F us,Sim E c0 c ρ S F→rdT ρ c vs us→Calls E.P f us.toArray c.w fun e w'=> ∃u c',e= .returned u∧c'.w=w'∧c.chg (an ρ id) c'∧blkOk c0 c' ρ id b∧rd ρ c' r u)∧K r id b
def inPlace (c c':Cx) (ρ:Ro) (id:Nat) (T n:Nat) (g:Bool) (z:Option Bool) (l:List V) (u:Value):Prop:=
  c.chg (an ρ id) c'∧Own c' T u (rV ro0 n g) l∧(∀k,blk u=some k→an ρ id=some k∨c.w.heap.size≤k)∧(g=false→n=1)∧ ∃a cap,u= .slice a l.length cap∧zOk z a cap
def zn (E:Env) (S:St) (ub:List (Nat×Nat)) (i:Nat) (f:FuncId) (vs:List V) (K:Blk→Prop):Prop:=
  (∀aas w,(callFunc f aas).run E.P w= .ok (.enter f aas) w)∧ ∃id T n g z l,(bI ub i id&& !decide (id=S.nx))=true∧(∃b0,ak S.H id=some b0∧aZ b0=true)∧
    (∀c0 c ρ F us,Sim E c0 c ρ S F→rdT ρ c vs us→Calls E.P f us.toArray c.w fun e w'=> ∃u c',e= .returned u∧c'.w=w'∧inPlace c c' ρ id T n g z l u)∧K (.own T n g z l)
def vl (E:Env) (S:St) (ub:List (Nat×Nat)) (i:Nat) (d:Option Nat) (K:bk→Prop):Option V→Option (List V)→Prop
  | some (.fn f caps),some vs=>(GF E S (fun ws r=>aE E f ws r []) (vs++caps) (fun r=>K ⟨d,r,none⟩)∨GG (fun ws b=>aE E f ws (.own 0) [b]) (vs++caps) fun b=>K ⟨d,.own S.nx,some (S.nx,b)⟩)∨zm E S ub i f (vs++caps) (fun r id b=>K ⟨d,r,some (id,b)⟩)∨zn E S ub i f (vs++caps) (fun b=>K ⟨d,.own S.nx,some (S.nx,b)⟩)
  | _,_=>False
def oO (c:Prop) (nid:Nat) (K:V→Prop):V→Blk→Prop
  | .own k,.own _ n g z l=>decide (k=nid)=true∧c∧(c→K (.sl z n g l))
  | .own k,.pown n g z l=>decide (k=nid)=true∧c∧(c→K (.sl z n g l))
  | _,_=>False
def fL (ub:List (Nat×Nat)) (i nid:Nat) (d:Option Nat) (K:bk→Prop):Res→Prop
  | some (c,v,.none)=>c∧(c→K ⟨d,v,none⟩)
  | some (c,v,.new b)=>match bI ub i nid with
    | true=>oO c nid (fun v'=>K ⟨d,v',none⟩) v b
    | false=>match aZ b with
      | true=>c∧(c→K ⟨d,v,some (nid,b)⟩)
      | false=>False
  | some (c,v,.upd id b)=>match bI ub i id&&aZ b with
    | true=>c∧(c→K ⟨d,v,some (id,b)⟩)
    | false=>False
  | some (c,.own id',.app id (.own T n g z l))=>match decide (id'=id)&&(bI ub i id&& !decide (id=nid)) with
    | true=>c∧(c→K ⟨d,.own nid,some (nid,.own T n g z l)⟩)
    | false=>False
  | _=>False
def oP (E:Env) (S:St) (ub:List (Nat×Nat)) (i:Nat) (o:Oper) (K:bk→Prop):Prop:=
  match gN o.op with
  | some (x,l,Ts)=>vl E S ub i o.dst K (S.ev E.gv x) (evs E S l Ts)
  | none=>fL ub i S.nx o.dst K (opH E S S.nx o.type o.op)
def gb:V→Option (Option Bool)
  | .bool b=>some (some b)
  | .tup []=>some none
  | _=>none
def oQ (ns:Nat→Bool) (R:List (Nat×bk)) (o:Oper) (A B:Prop):Prop:=
  match o.guard with
  | none=>A
  | some (j,want)=>match ns j,ak R j with
    | true,some r=>match r.d with
      | some _=>eE (some r.v) want A B
      | none=>False
    | _,_=>False
def gQ (E:Env) (S0:St) (wr:List Nat) (wl:List (Nat×Nat)) (need:List (List Nat)) (ub:List (Nat×Nat)) (K:St→Prop):Nat→Nat→List Oper→List (Nat×bk)→Prop
  | 0,i,l,R=>gg E i (dsR R) l K (co S0 wr j_ (fo ub R) R i)
  | _+1,_,[],_=>False
  | m+1,i,o::l,R=>oQ (bz (need.getD i [])) R o (oP E (co S0 (wrF wl need i wr) (bz (need.getD i [])) (ce ub need i R) R i) ub i o fun r=>gQ E S0 wr wl need ub K m (i+1) l ((i,r)::R)) (gQ E S0 wr wl need ub K m (i+1) l ((i,⟨o.dst,.tup [],none⟩)::R))
section
variable {E:Env} {c0 c:Cx} {ρ:Ro} {S S0:St} {F:Fm} {nid:Nat} {wr:List Nat} {wl:List (Nat×Nat)} {need:List (List Nat)} {ub:List (Nat×Nat)} {ops:Array Oper} {m:Nat}
theorem fp {l:List Nat} {i:Nat}:bz l i=true↔i∈l:=by
  induction l with
  | nil=>simp [bz]
  | cons k l ih=>
    simp only [bz,List.mem_cons]
    split
    · rename_i h;simp [h]
    · rename_i h;rw [ih];constructor
      · exact .inr
      · rintro (h'|h')
        · exact absurd h'.symm h
        · exact h'
theorem GH {ns:Nat→Bool} {R:List (Nat×bk)} {t:Nat} {v:V} (h:(t,v)∈ep ns R): ∃j r,(j,r)∈R∧ns j=true∧r.d=some t∧r.v=v:=by
  induction R with
  | nil=>simp [ep] at h
  | cons p R ih=>
    obtain ⟨j,r⟩:=p
    simp only [ep] at h
    split at h
    · rename_i h1 h2
      rcases List.mem_cons.1 h with e|h
      · cases e;exact ⟨j,r,by simp,h1,h2,rfl⟩
      · obtain ⟨j',r',h3,h4⟩:=ih h;exact ⟨j',r',by simp [h3],h4⟩
    · obtain ⟨j',r',h3,h4⟩:=ih h;exact ⟨j',r',by simp [h3],h4⟩
theorem rC {ns:Nat→Bool} {R:List (Nat×bk)} {i:Nat} {b:Blk} (h:(i,b)∈cV ns R): ∃j r,(j,r)∈R∧ns j=true∧r.b=some (i,b):=by
  induction R with
  | nil=>simp [cV] at h
  | cons p R ih=>
    obtain ⟨j,r⟩:=p
    simp only [cV] at h
    split at h
    · rename_i h1 h2
      rcases List.mem_cons.1 h with e|h
      · subst e;exact ⟨j,r,by simp,h1,h2⟩
      · obtain ⟨j',r',h3,h4⟩:=ih h;exact ⟨j',r',by simp [h3],h4⟩
    · obtain ⟨j',r',h3,h4⟩:=ih h;exact ⟨j',r',by simp [h3],h4⟩
theorem GI {ns:Nat→Bool} {R:List (Nat×bk)} {i:Nat} (h:ak (cV ns R) i=none): ∀j r b,(j,r)∈R→ns j=true→r.b≠some (i,b):=by
  induction R with
  | nil=>intro j r b hm;simp at hm
  | cons p R ih=>
    obtain ⟨j0,r0⟩:=p
    intro j r b hm hn hb
    simp only [cV] at h
    split at h
    · rename_i b0 h1 h2
      obtain ⟨k0,b0⟩:=b0
      simp only [ak] at h
      split at h
      · cases h
      · rename_i hne
        rcases List.mem_cons.1 hm with e|hm
        · cases e;rw [h2] at hb;cases hb;exact hne rfl
        · exact ih h j r b hm hn hb
    · rename_i hno
      rcases List.mem_cons.1 hm with e|hm
      · cases e;exact hno _ hn hb
      · exact ih h j r b hm hn hb
theorem oR {ban:Nat→Bool} {H:List (Nat×Blk)} {i:Nat} {b:Blk} (h:ak (dW ban H) i=some b):ban i=false∧ak H i=some b:=by
  induction H with
  | nil=>simp [dW,ak] at h
  | cons p H ih=>
    obtain ⟨k,x⟩:=p
    simp only [dW] at h
    split at h
    · rename_i hk
      obtain ⟨h1,h2⟩:=ih h
      refine ⟨h1,?_⟩
      simp only [ak]
      rw [if_neg (fun e=>by subst e;rw [hk] at h1;cases h1)]
      exact h2
    · rename_i hk
      simp only [ak] at h⊢
      split at h
      · rename_i e;subst e;exact ⟨hk,by rw [if_pos rfl];exact h⟩
      · rename_i e;rw [if_neg e];exact ih h
theorem rD: ∀{ub:List (Nat×Nat)} {i id w:Nat},ja ub need i id=false→bI ub w id=true→w=i∨w∈need.getD i []∨i∈need.getD w []
  | [],_,_,_,_,h=>by simp [bI] at h
  | (w0,k)::l,i,id,w,h,hm=>by
    simp only [ja,Bool.or_eq_false_iff,Bool.and_eq_false_iff,Bool.not_eq_false',decide_eq_true_eq,decide_eq_false_iff_not] at h
    simp only [bI,Bool.or_eq_true,Bool.and_eq_true,decide_eq_true_eq] at hm
    rcases hm with ⟨rfl,rfl⟩|hm
    · rcases h.1 with h1|h1|h1|h1
      · exact absurd rfl h1
      · exact .inl h1
      · exact .inr (.inl (fp.1 h1))
      · exact .inr (.inr (fp.1 h1))
    · exact rD h.2 hm
theorem vm {ns:Nat→Bool} {k:Nat}: ∀{R:List (Nat×bk)},et ub ns R k=false→ ∀j r,(j,r)∈R→ns j=true→fm ub j r.b k=false
  | [],_,j,r,hm,_=>by cases hm
  | (j0,r0)::R,h,j,r,hm,hn=>by
    simp only [et,Bool.or_eq_false_iff,Bool.and_eq_false_iff] at h
    rcases List.mem_cons.1 hm with e|hm
    · cases e
      rcases h.1 with h1|h1
      · rw [hn] at h1;cases h1
      · exact h1
    · exact vm h.2 j r hm hn
theorem GJ {j k:Nat} {b:Option (Nat×Blk)}:fm [] j b k=false:=by
  unfold fm;split<;>simp [bI]
theorem vn {ns:Nat→Bool} {k:Nat}: ∀{R:List (Nat×bk)},et [] ns R k=false
  | []=>rfl
  | (j,r)::R=>by simp [et,GJ,vn (R:=R)]
theorem vo {i k:Nat} {R:List (Nat×bk)} (h:ce ub need i R k=false):ja ub need i k=false∧et ub (bz (need.getD i [])) R k=false:=by
  cases ub with
  | nil=>exact ⟨rfl,vn⟩
  | cons p l=>simpa [ce,Bool.or_eq_false_iff] using h
theorem GK {k:Nat} {R:List (Nat×bk)} (h:fo ub R k=false):et ub (fun _=>true) R k=false:=by
  cases ub with
  | nil=>exact vn
  | cons p l=>exact h
theorem GL {j k:Nat} {b:Option (Nat×Blk)} (h:fm ub j b k=true):bI ub j k=true:=by
  unfold fm at h
  split at h
  · simp only [Bool.and_eq_true] at h;exact h.1
  · cases h
theorem vq: ∀{ub:List (Nat×Nat)} {n w id:Nat},ubB m need ub n=true→bI ub w id=true→id<n∨rA m need n w id=true
  | [],_,_,_,_,h=>by simp [bI] at h
  | (w0,k)::l,n,w,id,h,hm=>by
    simp only [ubB,Bool.and_eq_true,Bool.or_eq_true,decide_eq_true_eq] at h
    simp only [bI,Bool.or_eq_true,Bool.and_eq_true,decide_eq_true_eq] at hm
    rcases hm with ⟨rfl,rfl⟩|hm
    · exact h.1
    · exact vq h.2.2 hm
theorem zo {n w k:Nat} (h:rA m need n w k=true):n≤k∧(k - n=w∨(k - n<w∧k - n∈need.getD w [])):=by
  simp only [rA,Bool.and_eq_true,Bool.or_eq_true,decide_eq_true_eq] at h
  refine ⟨h.1,?_⟩
  rcases h.2 with h2|h2
  · exact .inl h2
  · exact .inr ⟨h2.1,fp.1 h2.2⟩
theorem vr: ∀{ub:List (Nat×Nat)} {w id:Nat},bI ub w id=true→(w,id)∈ub
  | [],_,_,h=>by simp [bI] at h
  | (w0,k)::l,w,id,hm=>by
    simp only [bI,Bool.or_eq_true,Bool.and_eq_true,decide_eq_true_eq] at hm
    rcases hm with ⟨rfl,rfl⟩|hm
    · simp
    · exact List.mem_cons_of_mem _ (vr hm)
theorem zp: ∀{ub:List (Nat×Nat)} {n w w' id:Nat},ubB m need ub n=true→bI ub w id=true→bI ub w' id=true→w=w'
  | [],_,_,_,_,_,h,_=>by simp [bI] at h
  | (w0,k)::l,n,w,w',id,h,hm,hm'=>by
    simp only [ubB,Bool.and_eq_true,decide_eq_true_eq,List.all_eq_true,Bool.not_eq_true',decide_eq_false_iff_not] at h
    simp only [bI,Bool.or_eq_true,Bool.and_eq_true,decide_eq_true_eq] at hm hm'
    rcases hm with ⟨rfl,rfl⟩|hm<;>rcases hm' with ⟨rfl,e⟩|hm'
    · rfl
    · exact absurd rfl (h.2.1 _ (vr hm'))
    · subst e;exact absurd rfl (h.2.1 _ (vr hm))
    · exact zp h.2.2 hm hm'
theorem GM {F:List (Nat×V)} {t:Nat} {v:V} (h:ak (lx wr F) t=some v):t∉wr∧ak F t=some v:=by
  induction F with
  | nil=>simp [lx,ak] at h
  | cons p F ih=>
    obtain ⟨k,x⟩:=p
    simp only [lx] at h
    split at h
    · rename_i hk
      obtain ⟨h1,h2⟩:=ih h
      refine ⟨h1,?_⟩
      simp only [ak]
      rw [if_neg (show¬k=t from fun e=>h1 (e▸fp.1 hk))]
      exact h2
    · rename_i hk
      simp only [ak] at h⊢
      split at h
      · rename_i e;subst e
        exact ⟨fun hm=>hk (fp.2 hm),by rw [if_pos rfl];exact h⟩
      · rename_i e
        rw [if_neg e]
        exact ih h
def NK (ub:List (Nat×Nat)) (R:List (Nat×bk)) (L:Nat→Prop) (i:Nat):Prop:= ∀j r,(j,r)∈R→L j→fm ub j r.b i=false
def PB (S0:St) (ub:List (Nat×Nat)) (R:List (Nat×bk)) (L:Nat→Prop) (i:Nat):Prop:=NK ub R L i∧((∃b,ak S0.H i=some b∧aZ b=true)∨ ∃l r b,(l,r)∈R∧L l∧r.b=some (i,b))
structure gR (E:Env) (c0:Cx) (S0:St) (ub:List (Nat×Nat)) (m:Nat) (R:List (Nat×bk)) (L:Nat→Prop) (F:Fm) (c:Cx) (ρ:Ro):Prop where
  since:cn c0 c
  gl:Gl E c
  slot: ∀j r,(j,r)∈R→L j→ ∀t,r.d=some t→rd ρ c r.v (F t)
  old: ∀t v,ak S0.F t=some v→(∀j r,(j,r)∈R→L j→r.d≠some t)→rd ρ c v (F t)
  heap: ∀j r k b,(j,r)∈R→L j→r.b=some (k,b)→(∀w r' b',(w,r')∈R→L w→r'.b=some (k,b')→w≤j)→NK ub R L k→blkOk c0 c ρ k b
  heap0: ∀i b,ak S0.H i=some b→(∀j r b',(j,r)∈R→L j→r.b≠some (i,b'))→NK ub R L i→blkOk c0 c ρ i b
  sep: ∀i j k,i≠j→PB S0 ub R L i→PB S0 ub R L j→an ρ i=some k→an ρ j≠some k
  fresh: ∀i,S0.nx≤i→(∀j,j<m→L j→i≠S0.nx+j)→ρ i=none
theorem zq {R:List (Nat×bk)} {L:Nat→Prop} {a:Nat} (h: ∃j r b,(j,r)∈R∧L j∧r.b=some (a,b)):
    ∃j r b,(j,r)∈R∧L j∧r.b=some (a,b)∧ ∀w r' b',(w,r')∈R→L w→r'.b=some (a,b')→w≤j:=by
  induction R with
  | nil=>obtain ⟨_,_,_,h,_⟩:=h;cases h
  | cons p R ih=>
    by_cases hR: ∃j r b,(j,r)∈R∧L j∧r.b=some (a,b)
    · obtain ⟨j,r,b,h1,h2,h3,h4⟩:=ih hR
      by_cases hp:L p.1∧(∃b',p.2.b=some (a,b'))∧j<p.1
      · obtain ⟨g1,⟨b',g2⟩,g3⟩:=hp
        refine ⟨p.1,p.2,b',by simp,g1,g2,fun w r' b'' hw hl hb=> ?_⟩
        rcases List.mem_cons.1 hw with e|hw
        · exact Nat.le_of_eq (congrArg Prod.fst e)
        · have:=h4 w r' b'' hw hl hb;omega
      · refine ⟨j,r,b,by simp [h1],h2,h3,fun w r' b'' hw hl hb=> ?_⟩
        rcases List.mem_cons.1 hw with e|hw
        · subst e
          exact Nat.le_of_not_lt fun hlt=>hp ⟨hl,⟨b'',hb⟩,hlt⟩
        · exact h4 w r' b'' hw hl hb
    · obtain ⟨j,r,b,h1,h2,h3⟩:=h
      rcases List.mem_cons.1 h1 with e|h1
      · refine ⟨j,r,b,by simp [e],h2,h3,fun w r' b' hw hl hb=> ?_⟩
        rcases List.mem_cons.1 hw with e'|hw
        · rw [←e] at e';cases e';exact Nat.le_refl _
        · exact absurd ⟨w,r',b',hw,hl,hb⟩ hR
      · exact absurd ⟨j,r,b,h1,h2,h3⟩ hR
theorem GN {α:Type} {l m:List (Nat×α)} {i:Nat} {x:α} (h:ak (l++m) i=some x):ak l i=some x∨(ak l i=none∧ak m i=some x):=by
  rw [mS] at h
  cases hl:ak l i with
  | some y=>rw [hl] at h;exact .inl h
  | none=>rw [hl] at h;exact .inr ⟨rfl,h⟩
theorem GO {ns:Nat→Bool} {R:List (Nat×bk)} {i:Nat} {b:Blk} (ho:R.Pairwise fun p q=>q.1<p.1) (h:ak (cV ns R) i=some b):
    ∃j r,(j,r)∈R∧ns j=true∧r.b=some (i,b)∧ ∀w r' b',(w,r')∈R→ns w=true→r'.b=some (i,b')→w≤j:=by
  induction R with
  | nil=>simp [cV,ak] at h
  | cons p R ih=>
    obtain ⟨j0,r0⟩:=p
    obtain ⟨ho1,ho2⟩:=List.pairwise_cons.1 ho
    simp only [cV] at h
    split at h
    · rename_i b0 h1 h2
      obtain ⟨k0,b0⟩:=b0
      simp only [ak] at h
      split at h
      · rename_i e
        subst e;cases h
        refine ⟨j0,r0,by simp,h1,h2,fun w r' b' hw _ _=> ?_⟩
        rcases List.mem_cons.1 hw with e|hw
        · cases e;exact Nat.le_refl _
        · exact Nat.le_of_lt (ho1 _ hw)
      · rename_i hne
        obtain ⟨j,r,g1,g2,g3,g4⟩:=ih ho2 h
        refine ⟨j,r,by simp [g1],g2,g3,fun w r' b' hw hn hb=> ?_⟩
        rcases List.mem_cons.1 hw with e|hw
        · cases e;rw [h2] at hb;cases hb;exact absurd rfl hne
        · exact g4 w r' b' hw hn hb
    · rename_i hno
      obtain ⟨j,r,g1,g2,g3,g4⟩:=ih ho2 h
      refine ⟨j,r,by simp [g1],g2,g3,fun w r' b' hw hn hb=> ?_⟩
      rcases List.mem_cons.1 hw with e|hw
      · cases e;exact absurd hb (hno _ hn)
      · exact g4 w r' b' hw hn hb
theorem oS {α:Type} {l m:List (Nat×α)} {i:Nat} {x:α} (h:ak (l++m) i=some x):(i,x)∈l∨(ak l i=none∧ak m i=some x):=by
  rw [mS] at h
  cases hl:ak l i with
  | some y=>rw [hl] at h;cases h;exact .inl (ls hl)
  | none=>rw [hl] at h;exact .inr ⟨rfl,h⟩
structure ROk (S0:St) (ub:List (Nat×Nat)) (ops:Array Oper) (i:Nat) (R:List (Nat×bk)):Prop where
  dst: ∀j r,(j,r)∈R→j<i∧r.d=dF ops j
  uniq: ∀j r r',(j,r)∈R→(j,r')∈R→r=r'
  priv: ∀j r k b,(j,r)∈R→r.b=some (k,b)→aZ b=true
  place: ∀j r k b,(j,r)∈R→r.b=some (k,b)→k=S0.nx+j∨bI ub j k=true
  ord:R.Pairwise fun p q=>q.1<p.1
theorem ROk.two {i:Nat} {R:List (Nat×bk)} (h:ROk S0 ub ops i R) (hU:ubB m need ub S0.nx=true) {j j' k:Nat} {r r':bk} {b b':Blk} (h1:(j,r)∈R) (h2:(j',r')∈R) (e1:r.b=some (k,b)) (e2:r'.b=some (k,b')):
    j=j'∨(k=S0.nx+j∧j<j'∧j∈need.getD j' [])∨(k=S0.nx+j'∧j'<j∧j'∈need.getD j []):=by
  rcases h.place j r k b h1 e1 with g1|g1<;>rcases h.place j' r' k b' h2 e2 with g2|g2
  · exact .inl (by omega)
  · rcases vq hU g2 with g|g
    · omega
    · obtain ⟨_,g3⟩:=zo g
      have ek:k - S0.nx=j:=by omega
      rw [ek] at g3
      rcases g3 with g3|g3
      · exact .inl g3
      · exact .inr (.inl ⟨g1,g3⟩)
  · rcases vq hU g1 with g|g
    · omega
    · obtain ⟨_,g3⟩:=zo g
      have ek:k - S0.nx=j':=by omega
      rw [ek] at g3
      rcases g3 with g3|g3
      · exact .inl g3.symm
      · exact .inr (.inr ⟨g2,g3⟩)
  · exact .inl (zp hU g1 g2)
theorem gR.lt {R:List (Nat×bk)} {L:Nat→Prop} (h:gR E c0 S0 ub m R L F c ρ) (hp: ∀j r k b,(j,r)∈R→r.b=some (k,b)→aZ b=true) {a k:Nat} (ha:PB S0 ub R L a) (hk:an ρ a=some k):k<c.w.heap.size:=by
  by_cases hu: ∃j r b,(j,r)∈R∧L j∧r.b=some (a,b)
  · obtain ⟨j,r,b,h1,h2,h3,h4⟩:=zq hu
    exact fk (hp j r a b h1 h3) (h.heap j r a b h1 h2 h3 h4 ha.1) k hk
  · obtain ⟨hnk,ha⟩:=ha
    rcases ha with ⟨b,h1,h2⟩|⟨l,r,b,h1,h2,h3⟩
    · exact fk h2 (h.heap0 a b h1 (fun j r b' g1 g2 g3=>hu ⟨j,r,b',g1,g2,g3⟩) hnk) k hk
    · exact absurd ⟨l,r,b,h1,h2,h3⟩ hu
theorem gR.ge {R:List (Nat×bk)} {L:Nat→Prop} (h:gR E c0 S0 ub m R L F c ρ) (hp: ∀j r k b,(j,r)∈R→r.b=some (k,b)→aZ b=true) {a k:Nat} (ha:PB S0 ub R L a) (hk:an ρ a=some k):c0.mine k:=by
  have key: ∀b,aZ b=true→blkOk c0 c ρ a b→c0.mine k:=by
    intro b hb h1
    cases b with
    | var n g d=>
      obtain ⟨b,h1,h2,h3⟩:=h1
      simp only [an,h1,Option.some.injEq] at hk
      subst hk;exact h2
    | own E n g z l=>
      obtain ⟨v,h1,h2,h3,_,a,cap,e,_⟩:=h1
      refine h3 k ?_
      unfold an at hk
      rw [h1] at hk
      subst e
      exact hk
    | ownI E n g z l=>
      obtain ⟨v,h1,h2,h3,_,a,cap,e,_⟩:=h1
      refine h3 k ?_
      unfold an at hk
      rw [h1] at hk
      subst e
      exact hk
    | pvar n g d=>cases hb
    | pown n g z l=>cases hb
    | lent k' n g d=>
      obtain ⟨h1,h2,h3⟩:=h1
      simp only [an,h1,Option.some.injEq] at hk
      subst hk;exact h2
    | kset g k' n l=>
      obtain ⟨r,h1,h2,h3⟩:=h1
      simp only [an,h1,blk,Option.some.injEq] at hk
      subst hk;exact h2
  by_cases hu: ∃j r b,(j,r)∈R∧L j∧r.b=some (a,b)
  · obtain ⟨j,r,b,h1,h2,h3,h4⟩:=zq hu
    exact key b (hp j r a b h1 h3) (h.heap j r a b h1 h2 h3 h4 ha.1)
  · obtain ⟨hnk,ha⟩:=ha
    rcases ha with ⟨b,h1,h2⟩|⟨l,r,b,h1,h2,h3⟩
    · exact key b h2 (h.heap0 a b h1 (fun j r b' g1 g2 g3=>hu ⟨j,r,b',g1,g2,g3⟩) hnk)
    · exact absurd ⟨l,r,b,h1,h2,h3⟩ hu
theorem gR.sim {R:List (Nat×bk)} {L:Nat→Prop} (h:gR E c0 S0 ub m R L F c ρ) {ns ban:Nat→Bool} {wr:List Nat} (hwo: ∀t,t∉wr→ ∀j r,(j,r)∈R→L j→r.d≠some t) (hns: ∀j,ns j=true→L j) (hH0: ∀i b,ak S0.H i=some b→i<S0.nx) (hban: ∀k,k<S0.nx→ban k=false→ ∀j r b,(j,r)∈R→L j→r.b=some (k,b)→ns j=true) (hkill: ∀k,ban k=false→NK ub R L k) (i:Nat) (ho:R.Pairwise fun p q=>q.1<p.1) (hlast: ∀j r k b,ban k=false→(j,r)∈R→ns j=true→r.b=some (k,b)→ ∀w r' b',(w,r')∈R→L w→r'.b=some (k,b')→j<w→ns w=true):
    Sim E c0 c ρ (co S0 wr ns ban R i) F:=by
  have hH: ∀k b,ak (dW ban (cV ns R++S0.H)) k=some b→blkOk c0 c ρ k b∧(aZ b=true→PB S0 ub R L k):=by
    intro k b hb0
    obtain ⟨h1,hb⟩:=oR hb0
    rcases GN hb with hm|⟨hn,h2⟩
    · obtain ⟨j,r,h3,h2,h4,h5⟩:=GO ho hm
      refine ⟨h.heap j r k b h3 (hns j h2) h4 (fun w r' b' hw hl hb'=> ?_) (hkill k h1),fun _=>⟨hkill k h1,.inr ⟨j,r,b,h3,hns j h2,h4⟩⟩⟩
      rcases Nat.lt_or_ge j w with hlt|hge
      · exact h5 w r' b' hw (hlast j r k b h1 h3 h2 h4 w r' b' hw hl hb' hlt) hb'
      · exact hge
    · exact ⟨h.heap0 k b h2 (fun j r b' g1 g2 g3=>GI hn j r b' g1 (hban k (hH0 k b h2) h1 j r b' g1 g2 g3) g3) (hkill k h1),fun hp=>⟨hkill k h1,.inl ⟨b,h2,hp⟩⟩⟩
  refine ⟨h.since,h.gl,?_,fun k b hb=>(hH k b hb).1,?_⟩
  · intro t v ht
    rcases oS ht with hm|⟨_,hm⟩
    · obtain ⟨j,r,h1,h2,h3,rfl⟩:=GH hm
      exact h.slot j r h1 (hns j h2) t h3
    · obtain ⟨h1,h2⟩:=GM hm
      exact h.old t v h2 (hwo t h1)
  · intro a b ba bb k hab ha hb hpa hpb hk
    exact h.sep a b k hab ((hH a ba ha).2 hpa) ((hH b bb hb).2 hpb) hk
def mV (E:Env) (S:St) (ub:List (Nat×Nat)) (i:Nat) (o:Oper) (r:bk):Prop:=
  r.d=o.dst∧match gN o.op with
  | some (x,l,Ts)=> ∃f caps vs ws,S.ev E.gv x=some (.fn f caps)∧evs E S l Ts=some vs∧((r.b=none∧aE E f ws r.v []∧((∀c ρ us,rdT ρ c (vs++caps) us→rdT ro0 c ws us)∨(dp r.v∧rt E S (vs++caps) ws)))∨
      (∃T n g z l,r.v= .own S.nx∧r.b=some (S.nx,.own T n g z l)∧aE E f ws (.own 0) [.own T n g z l]∧ ∀c ρ us,rdT ρ c (vs++caps) us→rdT ro0 c ws us)∨
      zm E S ub i f (vs++caps) (fun v id b=>r.v=v∧r.b=some (id,b))∨zn E S ub i f (vs++caps) (fun b=>r.v= .own S.nx∧r.b=some (S.nx,b)))
  | none=> ∃cnd v e,opH E S S.nx o.type o.op=some (cnd,v,e)∧cnd∧((r.v=v∧((e= .none∧r.b=none)∨(∃b,e= .new b∧r.b=some (S.nx,b)∧aZ b=true)∨ ∃id b,e= .upd id b∧r.b=some (id,b)∧aZ b=true))∨
      (∃T n g z l,v= .own S.nx∧(e= .new (.own T n g z l)∨e= .new (.pown n g z l))∧r.v= .sl z n g l∧r.b=none)∨
      ∃id T n g z l,v= .own id∧e= .app id (.own T n g z l)∧r.v= .own S.nx∧r.b=some (S.nx,.own T n g z l)∧(bI ub i id&& !decide (id=S.nx))=true)
def rE (E:Env) (S0:St) (wr:List Nat) (wl:List (Nat×Nat)) (need:List (List Nat)) (ub:List (Nat×Nat)) (ops:Array Oper) (R:List (Nat×bk)) (i:Nat):Prop:=
  ∀o,ops[i]? =some o→ ∃r,(i,r)∈R∧r.d=o.dst∧
    ((o.guard=none∧mV E (co S0 (wrF wl need i wr) (bz (need.getD i [])) (ce ub need i R) R i) ub i o r)∨
     ∃j want b rj,o.guard=some (j,want)∧j∈need.getD i []∧(j,rj)∈R∧rj.d≠none∧gb rj.v=some b∧((b=some want∧mV E (co S0 (wrF wl need i wr) (bz (need.getD i [])) (ce ub need i R) R i) ub i o r)∨(b≠some want∧r.v= .tup []∧r.b=none)))
def GP (c0 c:Cx) (S0:St) (ub:List (Nat×Nat)) (R:List (Nat×bk)) (L:Nat→Prop) (i:Nat) (b:Option (Nat×Blk)) (c':Cx) (ρ ρ':Ro) (o:Option Nat):Prop:=
  (b=none∧o=none∧ρ'=ρ)∨(∃x,b=some (S0.nx+i,x)∧o=none∧blkOk c0 c' ρ' (S0.nx+i) x∧ ∀k,an ρ' (S0.nx+i)=some k→c.w.heap.size≤k)∨
    (∃id x,b=some (id,x)∧True∧o=an ρ id∧ρ'=ρ∧blkOk c0 c' ρ id x∧PB S0 ub R L id)∨
    ∃id x,b=some (S0.nx+i,x)∧bI ub i id=true∧id≠S0.nx+i∧o=an ρ id∧blkOk c0 c' ρ' (S0.nx+i) x∧(∀k,an ρ' (S0.nx+i)=some k→an ρ id=some k∨c.w.heap.size≤k)∧PB S0 ub R L id
theorem gR.next {R:List (Nat×bk)} {L:Nat→Prop} (h:gR E c0 S0 ub m R L F c ρ) (hU:ubB m need ub S0.nx=true) (hR:ROk S0 ub ops m R) {i:Nat} (him:i<m) {r:bk} (hr:(i,r)∈R)
    (hdist: ∀j r' t,(j,r')∈R→j≠i→r'.d=some t→r.d≠some t) (hnL: ¬L i) (hnw: ∀j r' k b b',(j,r')∈R→L j→r'.b=some (k,b')→r.b=some (k,b)→j<i) {c':Cx} {ρ':Ro} {o:Option Nat} (hch:c.chg o c') (hro: ∀k,k≠S0.nx+i→ρ' k=ρ k) (hn:ρ (S0.nx+i)=none)
    (hdid:GP c0 c S0 ub R L i r.b c' ρ ρ' o) {u:Value} (hv:rd ρ' c' r.v u):
    gR E c0 S0 ub m R (fun j=>j=i∨L j) (ci F r.d u) c' ρ':=by
  have hrl:=oE hn hro
  have hpriv:=hR.priv
  have hupd: ∀t,r.d≠some t→ci F r.d u t=F t:=by
    intro t ht
    cases hd:r.d with
    | none=>rfl
    | some d=>exact nZ _ _ (by rintro rfl;exact ht hd)
  -- what the operation may have turned is a block of the call's own
  have hoge: ∀k,o=some k→c0.mine k:=by
    intro k hk
    rcases hdid with ⟨_,e,_⟩|⟨x,_,e,_⟩|⟨id,x,_,_,e,_,_,hpb⟩|⟨id,x,_,_,_,e,_,_,hpb⟩
    · rw [e] at hk;cases hk
    · rw [e] at hk;cases hk
    · rw [e] at hk;exact h.ge hpriv hpb hk
    · rw [e] at hk;exact h.ge hpriv hpb hk
  -- another block stays aas it was
  have stay: ∀k b,(aZ b=true→PB S0 ub R L k)→(∀x,r.b≠some (k,x))→(∀y,bI ub i k=true→k≠S0.nx+i→r.b≠some (S0.nx+i,y))→blkOk c0 c ρ k b→blkOk c0 c' ρ' k b:=by
    intro k b hpb hne hkl hb
    refine mM hrl (ij hch (fun hp x hx=> ?_) hb)
    rcases hdid with ⟨_,e,_⟩|⟨y,_,e,_⟩|⟨id,y,e1,_,e2,_,_,hpi⟩|⟨id,y,e1,e3,e4,e2,_,_,hpi⟩
    rotate_right
    · rw [e2]
      intro hx'
      have hki:id≠k:=by rintro rfl;exact hkl y e3 e4 e1
      exact h.sep id k x hki hpi (hpb hp) hx' hx
    · rw [e];exact fun e=>by cases e
    · rw [e];exact fun e=>by cases e
    · rw [e2]
      intro hx'
      have hki:id≠k:=by rintro rfl;exact hne y e1
      exact h.sep id k x hki hpi (hpb hp) hx' hx
  refine ⟨h.since.chg hch hoge,h.gl.mono hch.pub,?_,?_,?_,?_,?_,?_⟩
  · intro j r' hj hL t ht
    by_cases e:j=i
    · subst e
      have:=hR.uniq j r' r hj hr
      subst this
      rw [ht]
      simpa [ci,tI] using hv
    · rw [hupd t (hdist j r' t hj e ht)]
      exact dl hrl (bE hch.pub (h.slot j r' hj (hL.resolve_left e) t ht))
  · intro t v ht hno
    rw [hupd t (fun e=>hno i r hr (.inl rfl) e)]
    exact dl hrl (bE hch.pub (h.old t v ht fun j r' g1 g2=>hno j r' g1 (.inr g2)))
  · intro j r' k b hj hL hb' hla hnk
    by_cases e:j=i
    · subst e
      have:=hR.uniq j r' r hj hr
      subst this
      rcases hdid with ⟨e,_⟩|⟨y,e,_,h2,_⟩|⟨id,y,e,_,_,e2,h2,_⟩|⟨id,y,e,_,_,_,h2,_⟩
      · rw [e] at hb';cases hb'
      · rw [e] at hb';cases hb';exact h2
      · rw [e] at hb';cases hb';rw [e2];exact h2
      · rw [e] at hb';cases hb';exact h2
    · have hLj:=hL.resolve_left e
      have hnk':NK ub R L k:=fun j r' g1 g2=>hnk j r' g1 (.inr g2)
      exact stay k b (fun _=>⟨hnk',.inr ⟨j,r',b,hj,hLj,hb'⟩⟩) (fun x hx=>by
        have h1:=hla i r x hr (.inl rfl) hx
        have h2:=hnw j r' k x b hj hLj hb' hx
        omega) (fun y hy hkx he=>by
        have:=hnk i r hr (.inl rfl)
        rw [he] at this
        simp only [fm,hy,Bool.true_and,Bool.not_eq_false',decide_eq_true_eq] at this
        omega) (h.heap j r' k b hj hLj hb' (fun w r2 b2 hw hl=>hla w r2 b2 hw (.inr hl)) hnk')
  · intro k b hb' hno hnk
    have hne: ∀x,r.b≠some (k,x):=fun x=>hno i r x hr (.inl rfl)
    exact stay k b (fun hp=>⟨fun j r' g1 g2=>hnk j r' g1 (.inr g2),.inl ⟨b,hb',hp⟩⟩) hne (fun y hy hkx he=>by
      have:=hnk i r hr (.inl rfl)
      rw [he] at this
      simp only [fm,hy,Bool.true_and,Bool.not_eq_false',decide_eq_true_eq] at this
      omega) (h.heap0 k b hb' (fun j r' b' g1 g2=>hno j r' b' g1 (.inr g2)) fun j r' g1 g2=>hnk j r' g1 (.inr g2))
  · -- blocks lie apart
    have old: ∀a k,a≠S0.nx+i→PB S0 ub R (fun j=>j=i∨L j) a→an ρ' a=some k→PB S0 ub R L a∧an ρ a=some k∧k<c.w.heap.size:=by
      intro a k ha hc hk
      rw [cP (hro a ha)] at hk
      have hpa:PB S0 ub R L a:=by
        obtain ⟨hnk,hc⟩:=hc
        have hnk':NK ub R L a:=fun j r' g1 g2=>hnk j r' g1 (.inr g2)
        rcases hc with ⟨b,h1,h2⟩|⟨l,r',b,h1,h2,h3⟩
        · exact ⟨hnk',.inl ⟨b,h1,h2⟩⟩
        · by_cases e:l=i
          · subst e
            have:=hR.uniq l r' r h1 hr
            subst this
            rcases hdid with ⟨e,_⟩|⟨y,e,_⟩|⟨id,y,e,_,_,_,_,hpb⟩|⟨id,y,e,_⟩
            · rw [e] at h3;cases h3
            · rw [e] at h3;cases h3;exact absurd rfl ha
            · rw [e] at h3;cases h3;exact hpb
            · rw [e] at h3;cases h3;exact absurd rfl ha
          · exact ⟨hnk',.inr ⟨l,r',b,h1,h2.resolve_left e,h3⟩⟩
      exact ⟨hpa,hk,h.lt hpriv hpa hk⟩
    have new: ∀k,an ρ' (S0.nx+i)=some k→c.w.heap.size≤k∨ ∃id,an ρ id=some k∧PB S0 ub R L id∧ ¬PB S0 ub R (fun j=>j=i∨L j) id:=by
      intro k hk
      rcases hdid with ⟨_,_,e⟩|⟨y,_,_,_,h2⟩|⟨id,y,_,_,_,e,_⟩|⟨id,y,e1,e2,e3,_,_,h2,hpb⟩
      · rw [e] at hk;unfold an at hk;rw [hn] at hk;cases hk
      · exact .inl (h2 k hk)
      · rw [e] at hk;unfold an at hk;rw [hn] at hk;cases hk
      · rcases h2 k hk with h2|h2
        · refine .inr ⟨id,h2,hpb,?_⟩
          rintro ⟨g3,_⟩
          have:=g3 i r hr (.inl rfl)
          rw [e1] at this
          simp only [fm,e2,Bool.true_and,Bool.not_eq_false',decide_eq_true_eq] at this
          omega
        · exact .inl h2
    intro a b k hab ha hb' hk hk'
    by_cases e1:a=S0.nx+i
    · have e2:b≠S0.nx+i:=by omega
      obtain ⟨h4,h5,h3⟩:=old b k e2 hb' hk'
      rw [e1] at hk
      rcases new k hk with h6|⟨id,h6,h7,h8⟩
      · omega
      · exact h.sep id b k (fun e=>h8 (e▸hb')) h7 h4 h6 h5
    · obtain ⟨h1,h2,h3⟩:=old a k e1 ha hk
      by_cases e2:b=S0.nx+i
      · rw [e2] at hk'
        rcases new k hk' with h6|⟨id,h6,h7,h8⟩
        · omega
        · exact h.sep id a k (fun e=>h8 (e▸ha)) h7 h1 h6 h2
      · obtain ⟨h4,h5,_⟩:=old b k e2 hb' hk'
        exact h.sep a b k hab h1 h4 h2 h5
  · intro k hk hne
    have h1:k≠S0.nx+i:=hne i him (.inl rfl)
    rw [hro k h1]
    exact h.fresh k hk (fun j hm hj=>hne j hm (.inr hj))
theorem vt {wl:List (Nat×Nat)} {need:List (List Nat)} {i t:Nat}: ∀{wr:List Nat},t∈wr→t∉wrF wl need i wr→ ∃w,(w,t)∈wl∧i∈need.getD w []
  | [],h,_=>by cases h
  | x::l,h,hn=>by
    simp only [wrF] at hn
    have key:jb wl need i t=true→ ∃w,(w,t)∈wl∧i∈need.getD w []:=by
      clear hn h
      induction wl with
      | nil=>intro h;cases h
      | cons q wl ih=>
        obtain ⟨w,k⟩:=q
        intro h
        simp only [jb,Bool.or_eq_true,Bool.and_eq_true,decide_eq_true_eq] at h
        rcases h with ⟨rfl,h2⟩|h
        · exact ⟨w,by simp,fp.1 h2⟩
        · obtain ⟨w',h1,h2⟩:=ih h;exact ⟨w',by simp [h1],h2⟩
    split at hn
    · rename_i hl
      rcases List.mem_cons.1 h with rfl|h
      · exact key hl
      · exact vt h hn
    · simp only [List.mem_cons,not_or] at hn
      rcases List.mem_cons.1 h with rfl|h
      · exact absurd rfl hn.1
      · exact vt h hn.2
theorem GQ {m:Nat} {wl:List (Nat×Nat)} (h:wlB ops m wl=true) {w t:Nat} (hm:(w,t)∈wl):w<m∧dF ops w=some t:=by
  have:=List.all_eq_true.1 h (w,t) hm
  simpa using this
theorem GR (hE:bn E) (hwl:wlB ops m wl=true) (hW:k8 ops m wr=true) (hU:ubB m need ub S0.nx=true) {R:List (Nat×bk)} (hR:ROk S0 ub ops m R) (hH0: ∀i b,ak S0.H i=some b→i<S0.nx)
    (hT: ∀i,i<m→rE E S0 wr wl need ub ops R i):yr E.P ops need m (fun L F w=> ∃c ρ,c.w=w∧gR E c0 S0 ub m R L F c ρ):=by
  rintro L F w i o ⟨c,ρ,rfl,hI⟩ him ho hneedL hafter hnL K hK
  obtain ⟨r,hr,hd,hj⟩:=hT i him o ho
  have hfr:ρ (S0.nx+i)=none:=hI.fresh _ (by omega) (fun j _ hj=>by
    intro e
    have:i=j:=by omega
    subst this;exact hnL hj)
  have hdist: ∀j r' t,(j,r')∈R→j≠i→r'.d=some t→r.d≠some t:=by
    intro j r' t h1 h2 h3 h4
    obtain ⟨h5,h6⟩:=hR.dst j r' h1
    obtain ⟨h7,h8⟩:=hR.dst i r hr
    exact tL hW h7 h5 (Ne.symm h2) (h8▸h4) (h6▸h3)
  have hwo: ∀t,t∉wrF wl need i wr→ ∀j r',(j,r')∈R→L j→r'.d≠some t:=by
    intro t ht j r' hj hL hd'
    obtain ⟨h5,h6⟩:=hR.dst j r' hj
    obtain ⟨w,h7,h8⟩:=vt (oa hW h5 (h6▸hd')).1 ht
    obtain ⟨h9,h10⟩:=GQ hwl h7
    have hjw:j=w:=Classical.byContradiction fun hne=>tL hW h5 h9 hne (h6▸hd') h10
    subst hjw
    exact absurd hL (hafter j h5 h8)
  have hns: ∀j,bz (need.getD i []) j=true→L j:=fun j hj=>hneedL j (fp.1 hj)
  have hban: ∀k,k<S0.nx→ce ub need i R k=false→ ∀j r b,(j,r)∈R→L j→r.b=some (k,b)→bz (need.getD i []) j=true:=by
    intro k hkn hk0 j r' b hj hL hb
    have hk:=(vo hk0).1
    obtain ⟨hjm,_⟩:=hR.dst j r' hj
    have hji:j≠i:=by rintro rfl;exact hnL hL
    rcases hR.place j r' k b hj hb with e|hm
    · omega
    · rcases rD hk hm with e|e|e
      · exact absurd e hji
      · exact fp.2 e
      · exact absurd hL (hafter j hjm e)
  have hlast: ∀j r k b,ce ub need i R k=false→(j,r)∈R→bz (need.getD i []) j=true→r.b=some (k,b)→ ∀w r' b',(w,r')∈R→L w→r'.b=some (k,b')→j<w→bz (need.getD i []) w=true:=by
    intro j r1 k b hbn hj hn hb w r' b' hw hl hb' hlt
    rcases hR.place w r' k b' hw hb' with e|hm
    · rcases hR.two hU hj hw hb hb' with e|⟨e1,e2⟩|⟨e1,e2⟩
      · omega
      · omega
      · omega
    · rcases rD (vo hbn).1 hm with e|e|e
      · subst e;exact absurd hl hnL
      · exact fp.2 e
      · exact absurd hl (hafter w (hR.dst w r' hw).1 e)
  have hnw: ∀j r' k b b',(j,r')∈R→L j→r'.b=some (k,b')→r.b=some (k,b)→j<i:=by
    intro j r' k b b' hj hl hb' hb
    rcases hR.two hU hj hr hb' hb with e|⟨e1,e2⟩|⟨e1,e2⟩
    · subst e;exact absurd hl hnL
    · exact e2.1
    · exact absurd hl (hafter j (hR.dst j r' hj).1 e2.2)
  have hkill: ∀k,ce ub need i R k=false→NK ub R L k:=by
    intro k hk0 j r' hj hL
    obtain ⟨hk,hkf⟩:=vo hk0
    cases hb:fm ub j r'.b k with
    | false=>rfl
    | true=>
      obtain ⟨hjm,_⟩:=hR.dst j r' hj
      have hji:j≠i:=by rintro rfl;exact hnL hL
      rcases rD hk (GL hb) with e|e|e
      · exact absurd e hji
      · have:=vm hkf j r' hj (fp.2 e)
        rw [hb] at this;cases this
      · exact absurd hL (hafter j hjm e)
  have hsim:=hI.sim hwo hns hH0 hban hkill i hR.ord hlast
  have exec:mV E (co S0 (wrF wl need i wr) (bz (need.getD i [])) (ce ub need i R) R i) ub i o r→aF E.P (fun v w'=>K (ci F o.dst v) w') (run E.P F o c.w):=by
    rintro ⟨_,hju⟩
    split at hju
    · rename_i x l Ts hi
      obtain ⟨f,caps,vs,ws,hx,hvs,hres⟩:=hju
      have hop: ∃cl,o.op= .call cl∧cl.callee= .value x∧cl.args.toList=l:=by
        unfold gN at hi
        split at hi
        · rename_i cl ho'
          split at hi
          · rename_i y hy
            simp only [Option.some.injEq,Prod.mk.injEq] at hi
            obtain ⟨rfl,h2,_⟩:=hi
            exact ⟨cl,ho',hy,h2⟩
          · cases hi
        · cases hi
      obtain ⟨cl,ho',hcl,rfl⟩:=hop
      have hf:=aR hsim hx
      simp only [rd] at hf
      obtain ⟨cap,hf,hcap⟩:=hf
      have hus:=vk (rx hsim hvs) hcap
      rcases hres with ⟨hb,hc,hlook⟩|⟨T,n,g,z,ll,hrv,hb,hc,hgive⟩|⟨hent,rv,id,b,hmem,hpb,⟨b0,hb0,hp0⟩,hcalls,hrv,hrb⟩|⟨hent,id,T,n,g,z,ll,hmem,⟨b0,hb0,hp0⟩,hcalls,hrv,hrb⟩
      case inr.inr.inl=>
        rw [mT (F:=F) (w:=c.w) ho' hcl hf hent]
        refine (hcalls c0 c ρ F _ hsim hus).mono ?_
        rintro e w' ⟨u,c',rfl,rfl,hch,hbk,hrd⟩
        refine ⟨u,rfl,hK _ _ ⟨c',ρ,rfl,?_⟩⟩
        rw [←hd]
        have hpb':PB S0 ub R L id:=by
          obtain ⟨hbn,hb9⟩:=oR hb0
          rcases oS hb9 with hm|⟨_,hm⟩
          · obtain ⟨j,r',g1,g2,g3⟩:=rC hm
            exact ⟨hkill id hbn,.inr ⟨j,r',b0,g1,hns j g2,g3⟩⟩
          · exact ⟨hkill id hbn,.inl ⟨b0,hm,hp0⟩⟩
        exact hI.next hU hR him hr hdist hnL hnw hch (fun _ _=>rfl) hfr (.inr (.inr (.inl ⟨id,b,hrb,trivial,rfl,rfl,hbk,hpb'⟩))) (by rw [hrv];exact hrd)
      case inr.inr.inr=>
        simp only [Bool.and_eq_true,decide_eq_true_eq] at hmem
        have hidn:id≠S0.nx+i:=by have:=hmem.2;simpa [co] using this
        rw [mT (F:=F) (w:=c.w) ho' hcl hf hent]
        refine (hcalls c0 c ρ F _ hsim hus).mono ?_
        rintro e w' ⟨u,c',rfl,rfl,hch,hown,hbl,hone,a,cap,es,hz⟩
        have hat:da ρ (S0.nx+i) u (S0.nx+i)=some u:=dn
        have hbo:an (da ρ (S0.nx+i) u) (S0.nx+i)=blk u:=by simp only [an,hat];rw [es]
        have hpb':PB S0 ub R L id:=by
          obtain ⟨hbn,hb9⟩:=oR hb0
          rcases oS hb9 with hm|⟨_,hm⟩
          · obtain ⟨j,r',g1,g2,g3⟩:=rC hm
            exact ⟨hkill id hbn,.inr ⟨j,r',b0,g1,hns j g2,g3⟩⟩
          · exact ⟨hkill id hbn,.inl ⟨b0,hm,hp0⟩⟩
        refine ⟨u,rfl,hK _ _ ⟨c',da ρ (S0.nx+i) u,rfl,?_⟩⟩
        rw [←hd]
        refine hI.next hU hR him hr hdist hnL hnw hch (fun k hk=>im hk) hfr (.inr (.inr (.inr ⟨id,_,hrb,hmem.1,hidn,rfl,⟨u,hat,hown,fun k hk=> ?_,hone,a,cap,es,hz⟩,fun k hk=>hbl k (hbo▸hk),hpb'⟩))) ?_
        · rcases hbl k hk with h1|h1
          · exact hI.ge hR.priv hpb' h1
          · exact .inl (Nat.le_trans hI.since.size h1)
        · rw [hrv]
          simp only [rd]
          exact ⟨hat,by rw [es];rfl⟩
      case inr.inl=>
        rw [mT (F:=F) (w:=c.w) ho' hcl hf hc.1]
        refine (show Calls E.P f _ c.w _ from hc.2 c.noY _ rfl (hI.gl.mono (Cx.pub_noY c)) (fH (Cx.pub_noY c) (hgive c ρ _ hus))).mono ?_
        rintro e w' ⟨v,c',ρr,rfl,rfl,hle',hrd,hH⟩
        have hle:c.le c':=⟨hle'.below,hle'.old⟩
        obtain ⟨v',hv,hown,hge,hone,a,cap,es,hz⟩:=(hH.1 0 _ rfl).2
        simp only [rd] at hrd
        have e:v'=v:=by have:=hrd.1;rw [hv] at this;exact Option.some.inj this
        subst e
        have hat:da ρ (S0.nx+i) v' (S0.nx+i)=some v':=dn
        refine ⟨v',rfl,hK _ _ ⟨c',da ρ (S0.nx+i) v',rfl,?_⟩⟩
        rw [←hd]
        refine hI.next hU hR him hr hdist hnL hnw hle.chg (fun k hk=>im hk) hfr (.inr (.inl ⟨_,hb,rfl,⟨v',hat,hown,fun k hk=> .inl (Nat.le_trans hI.since.size (Cx.noY_mine (hge k hk))),hone,a,cap,es,hz⟩,fun k hk=> ?_⟩)) ?_
        · simp only [an,hat] at hk
          rw [es] at hk
          exact Cx.noY_mine (hge k (by rw [es];exact hk))
        · rw [hrv]
          simp only [rd]
          exact ⟨hat,hrd.2⟩
      rw [mT (F:=F) (w:=c.w) ho' hcl hf hc.1]
      rcases hlook with hgive|⟨hfl,hlk⟩
      · refine (show Calls E.P f _ c.w _ from hc.2 c.noY _ rfl (hI.gl.mono (Cx.pub_noY c)) (fH (Cx.pub_noY c) (hgive c ρ _ hus))).mono ?_
        rintro e w' ⟨v,c',ρr,rfl,rfl,hle',hrd,hH⟩
        have hle:c.le c':=⟨hle'.below,hle'.old⟩
        refine ⟨v,rfl,hK _ _ ⟨c',ρ,rfl,?_⟩⟩
        rw [←hd]
        refine hI.next hU hR him hr hdist hnL hnw hle.chg (fun _ _=>rfl) hfr (.inl ⟨hb,rfl,rfl⟩) ?_
        refine dl (fun k v hk=> ?_) hrd
        exact absurd (hH.2.1 k (Nat.zero_le _)) (by rw [hk];simp)
      · have hrd:=hlk c0 c ρ F _ hsim hus
        have hpb:=gP hsim
        refine (show Calls E.P f _ c.w _ from hc.2 (c0.base c hsim.since.size) _ rfl (hI.gl.mono hpb) hrd).mono ?_
        rintro e w' ⟨v,c',ρr,rfl,rfl,hle,hrd,hH⟩
        have hbl:Below c.w.heap.size c.w c'.w:=hle.below
        refine ⟨v,rfl,hK _ _ ⟨c.at c'.w hbl.size,ρ,rfl,?_⟩⟩
        rw [←hd]
        exact hI.next hU hR him hr hdist hnL hnw (Cx.le_at hbl).chg (fun _ _=>rfl) hfr (.inl ⟨hb,rfl,rfl⟩) (oM hfl hrd)
    · obtain ⟨cnd,vv,e,hop,hc,he⟩:=hju
      refine (Gx hE hsim hfr hop hc).mono ?_
      rintro u w' ⟨c',ρ',rfl,hpre,hrel,hrd⟩
      rcases he with ⟨hrv,⟨rfl,hb⟩|⟨b,rfl,hb,hp⟩|⟨id,b,rfl,hb,hp⟩⟩|⟨T,n,g,z,ll,rfl,rfl|rfl,hrv,hrb⟩|⟨id,T,n,g,z,ll,rfl,rfl,hrv,hrb,hmem⟩
      rotate_right
      · simp only [Bool.and_eq_true,decide_eq_true_eq] at hmem
        have hidn:id≠S0.nx+i:=by have:=hmem.2;simpa [co] using this
        obtain ⟨h1,h2,h3,h4⟩:=hrel
        obtain ⟨b1,hb1,hp1,_⟩:=hpre
        have hpb':PB S0 ub R L id:=by
          obtain ⟨hbn,hb9⟩:=oR hb1
          rcases oS hb9 with hm|⟨_,hm⟩
          · obtain ⟨j,r',g1,g2,g3⟩:=rC hm
            exact ⟨hkill id hbn,.inr ⟨j,r',b1,g1,hns j g2,g3⟩⟩
          · exact ⟨hkill id hbn,.inl ⟨b1,hm,hp1⟩⟩
        obtain ⟨u',e1,hown,hge,hone,a,cap,es,hz⟩:=h3
        simp only [rd] at hrd
        have eu:u'=u:=by rw [hrd.1] at e1;exact (Option.some.inj e1).symm
        subst eu
        have hat:da ρ (S0.nx+i) u' (S0.nx+i)=some u':=dn
        have hbo:an (da ρ (S0.nx+i) u') (S0.nx+i)=blk u':=by simp only [an,hat];rw [es]
        have hbi:an ρ' id=blk u':=by unfold an;rw [e1,es]
        refine hK _ _ ⟨c',da ρ (S0.nx+i) u',rfl,?_⟩
        rw [←hd]
        refine hI.next hU hR him hr hdist hnL hnw h1 (fun k hk=>im hk) hfr (.inr (.inr (.inr ⟨id,_,hrb,hmem.1,hidn,rfl,⟨u',hat,hown,hge,hone,a,cap,es,hz⟩,fun k hk=>h4 k (by rw [hbi,←hbo];exact hk),hpb'⟩))) ?_
        rw [hrv]
        simp only [rd]
        exact ⟨hat,hrd.2⟩
      rotate_right
      · obtain ⟨h1,h2,h3,h4⟩:=hrel
        obtain ⟨u',e1,hown⟩:=h3
        simp only [rd] at hrd
        have eu:u'=u:=Option.some.inj (e1.symm.trans hrd.1)
        subst eu
        refine hK _ _ ⟨c',ρ,rfl,?_⟩
        rw [←hd]
        refine hI.next hU hR him hr hdist hnL hnw h1.chg (fun _ _=>rfl) hfr (.inl ⟨hrb,rfl,rfl⟩) ?_
        rw [hrv]
        simp only [rd] at hown⊢
        exact hown
      rotate_right
      · obtain ⟨h1,h2,h3,h4⟩:=hrel
        obtain ⟨u',e1,hown,hge,hone,a,cap,es,hz⟩:=h3
        simp only [rd] at hrd
        have eu:u'=u:=Option.some.inj (e1.symm.trans hrd.1)
        subst eu
        have hbo:an ρ' (S0.nx+i)=blk u':=by
          unfold an
          rw [show ρ' (S0.nx+i)=some u' from e1,es]
        have hle2:c.le (c'.dropv u'):=yt h1 (fun g hg=>h4 g (by rw [←hbo] at hg;exact hg))
        refine hK _ _ ⟨c'.dropv u',ρ,rfl,?_⟩
        rw [←hd]
        refine hI.next hU hR him hr hdist hnL hnw hle2.chg (fun _ _=>rfl) hfr (.inl ⟨hrb,rfl,rfl⟩) ?_
        rw [hrv]
        obtain ⟨a',cap',e5,g1,g2⟩:=fG.1 hown.val
        rw [es] at e5;cases e5
        exact dk.2 ⟨a,cap,es,g1,hz,g2⟩
      all_goals (refine hK _ _ ⟨c',ρ',rfl,?_⟩;rw [←hd])
      all_goals (rw [←hrv] at hrd)
      · obtain ⟨rfl,rfl⟩:=hrel
        exact hI.next hU hR him hr hdist hnL hnw (Cx.le.refl _).chg (fun _ _=>rfl) hfr (.inl ⟨hb,rfl,rfl⟩) hrd
      · obtain ⟨h1,h2,h3,h4⟩:=hrel
        exact hI.next hU hR him hr hdist hnL hnw h1.chg h2 hfr (.inr (.inl ⟨b,hb,rfl,h3,h4⟩)) hrd
      · obtain ⟨h1,rfl,h3⟩:=hrel
        obtain ⟨b1,hb1,hp1,_⟩:=hpre
        have hpb:PB S0 ub R L id:=by
          obtain ⟨hbn,hb9⟩:=oR hb1
          rcases oS hb9 with hm|⟨_,hm⟩
          · obtain ⟨j,r',g1,g2,g3⟩:=rC hm
            exact ⟨hkill id hbn,.inr ⟨j,r',b1,g1,hns j g2,g3⟩⟩
          · exact ⟨hkill id hbn,.inl ⟨b1,hm,hp1⟩⟩
        rcases hR.place i r id b hr hb with e|hm
        · -- a block that is not there yet
          exfalso
          have h5:=hsim.heap _ _ hb1
          have h6:ρ' id=none:=by rw [e];exact hfr
          cases b1<;>first|(obtain ⟨_,h5,_⟩:=h5;rw [h6] at h5;cases h5)|(obtain ⟨h5,_⟩:=h5;rw [h6] at h5;cases h5)
        · exact hI.next hU hR him hr hdist hnL hnw h1 (fun _ _=>rfl) hfr (.inr (.inr (.inl ⟨id,b,hb,trivial,rfl,rfl,h3,hpb⟩))) hrd
  rcases hj with ⟨hg,hju⟩|⟨j,want,b,rj,hg,hjn,hrj,hdj,hvj,hj⟩
  · have:fi ops F o=true:=by simp [fi,hg]
    rw [if_pos this]
    exact exec hju
  · have hgb:fi ops F o=(b==some want):=by
      obtain ⟨h5,h6⟩:=hR.dst j rj hrj
      cases hdd:rj.d with
      | none=>exact absurd hdd hdj
      | some t=>
        have hv:=hI.slot j rj hrj (hneedL j hjn) t hdd
        rw [hdd] at h6
        simp only [fi,hg]
        rw [show (ops[j]?).bind (·.dst)=some t from h6.symm]
        unfold gb at hvj
        split at hvj
        · rename_i hb;rw [hb] at hv;cases hvj;simp only [rd] at hv;simp [hv]
        · rename_i hb;rw [hb] at hv;cases hvj;simp only [rd] at hv;obtain ⟨cs,hv,_⟩:=hv;simp [hv]
        · cases hvj
    rcases hj with ⟨hbw,hju⟩|⟨hbw,hvu,hbn⟩
    · rw [if_pos (by rw [hgb,hbw];simp)]
      exact exec hju
    · rw [if_neg (by rw [hgb];simp [hbw])]
      refine hK _ _ ⟨c,ρ,rfl,?_⟩
      rw [←hd]
      exact hI.next hU hR him hr hdist hnL hnw (Cx.le.refl _).chg (fun _ _=>rfl) hfr (u:=undef) (.inl ⟨hbn,rfl,rfl⟩) (by rw [hvu];exact ⟨[],rfl,rfl⟩)
theorem zr {ns:Nat→Bool} {R:List (Nat×bk)}: ∀{X:List (Nat×bk)},(∀p∈X,ns p.1=false)→ep ns (X++R)=ep ns R
  | [],_=>rfl
  | (j,r)::X,h=>by
    have hj:ns j=false:=h (j,r) (by simp)
    simp only [List.cons_append,ep,hj]
    exact zr (fun p hp=>h p (by simp [hp]))
theorem zt {ns:Nat→Bool} {R:List (Nat×bk)}: ∀{X:List (Nat×bk)},(∀p∈X,ns p.1=false)→cV ns (X++R)=cV ns R
  | [],_=>rfl
  | (j,r)::X,h=>by
    have hj:ns j=false:=h (j,r) (by simp)
    simp only [List.cons_append,cV,hj]
    exact zt (fun p hp=>h p (by simp [hp]))
theorem zu {ns:Nat→Bool} {k:Nat}: ∀{X R:List (Nat×bk)},(∀p∈X,ns p.1=false)→et ub ns (X++R) k=et ub ns R k
  | [],_,_=>rfl
  | (j,r)::X,R,h=>by
    have hj:ns j=false:=h (j,r) (by simp)
    simp only [List.cons_append,et,hj,Bool.false_and,Bool.false_or]
    exact zu fun p hp=>h p (by simp [hp])
theorem GS {i:Nat} {X R:List (Nat×bk)} (h: ∀p∈X,bz (need.getD i []) p.1=false):ce ub need i (X++R)=ce ub need i R:=by
  cases ub with
  | nil=>rfl
  | cons p l=>funext k;simp only [ce,zu h]
theorem ROk.cons {i:Nat} {R:List (Nat×bk)} (h:ROk S0 ub ops i R) {r:bk} (hd:r.d=dF ops i) (hp: ∀k b,r.b=some (k,b)→aZ b=true) (hq: ∀k b,r.b=some (k,b)→k=S0.nx+i∨bI ub i k=true):ROk S0 ub ops (i+1) ((i,r)::R):=by
  refine ⟨?_,?_,?_,?_,List.pairwise_cons.2 ⟨fun p hp=>(h.dst p.1 p.2 hp).1,h.ord⟩⟩
  · intro j r' hj
    rcases List.mem_cons.1 hj with e|hj
    · cases e;exact ⟨by omega,hd⟩
    · have:=h.dst j r' hj;exact ⟨by omega,this.2⟩
  · intro j r1 r2 h1 h2
    rcases List.mem_cons.1 h1 with e1|h1<;>rcases List.mem_cons.1 h2 with e2|h2
    · cases e1;cases e2;rfl
    · cases e1;have:=(h.dst _ _ h2).1;omega
    · cases e2;have:=(h.dst _ _ h1).1;omega
    · exact h.uniq j r1 r2 h1 h2
  · intro j r' k b hj hb
    rcases List.mem_cons.1 hj with e|hj
    · cases e;exact hp k b hb
    · exact h.priv j r' k b hj hb
  · intro j r' k b hj hb
    rcases List.mem_cons.1 hj with e|hj
    · cases e;exact hq k b hb
    · exact h.place j r' k b hj hb
def vu (S:St) (ub:List (Nat×Nat)) (i:Nat) (r:bk):Prop:= ∀k b,r.b=some (k,b)→aZ b=true∧(k=S.nx∨bI ub i k=true)
theorem zw {S:St} {i:Nat} {o:Oper} {K:bk→Prop} (h:oP E S ub i o K): ∃r,mV E S ub i o r∧K r∧vu S ub i r:=by
  unfold oP at h
  split at h
  · rename_i x l Ts hi
    unfold vl at h
    split at h
    · rename_i f caps vs hx hvs
      rcases h with (⟨ws,r,hc,hl,hk⟩|⟨ws,T,n,g,z,ll,hc,hl,hk⟩)|⟨hent,r,id,b,hm,hp,hb0,hcalls,hk⟩|⟨hent,id,T,n,g,z,ll,hm,hb0,hcalls,hk⟩
      · refine ⟨⟨o.dst,r,none⟩,⟨rfl,?_⟩,hk,fun k b hb=>by cases hb⟩
        rw [hi]
        exact ⟨f,caps,vs,ws,hx,hvs,.inl ⟨rfl,hc,hl⟩⟩
      · refine ⟨⟨o.dst,.own S.nx,some (S.nx,.own T n g z ll)⟩,⟨rfl,?_⟩,hk,fun k b hb=>by cases hb;exact ⟨rfl,.inl rfl⟩⟩
        rw [hi]
        exact ⟨f,caps,vs,ws,hx,hvs,.inr (.inl ⟨T,n,g,z,ll,rfl,rfl,hc,hl⟩)⟩
      · refine ⟨⟨o.dst,r,some (id,b)⟩,⟨rfl,?_⟩,hk,fun k b' hb=>by cases hb;exact ⟨hp,.inr hm⟩⟩
        rw [hi]
        exact ⟨f,caps,vs,[],hx,hvs,.inr (.inr (.inl ⟨hent,r,id,b,hm,hp,hb0,hcalls,rfl,rfl⟩))⟩
      · refine ⟨⟨o.dst,.own S.nx,some (S.nx,.own T n g z ll)⟩,⟨rfl,?_⟩,hk,fun k b hb=>by cases hb;exact ⟨rfl,.inl rfl⟩⟩
        rw [hi]
        exact ⟨f,caps,vs,[],hx,hvs,.inr (.inr (.inr ⟨hent,id,T,n,g,z,ll,hm,hb0,hcalls,rfl,rfl⟩))⟩
    · exact h.elim
  · rename_i hi
    unfold fL at h
    split at h
    · rename_i cnd v hop
      refine ⟨⟨o.dst,v,none⟩,⟨rfl,?_⟩,h.2 h.1,fun k b hb=>by cases hb⟩
      rw [hi]
      exact ⟨cnd,v,.none,hop,h.1,.inl ⟨rfl,.inl ⟨rfl,rfl⟩⟩⟩
    · rename_i cnd v b hop
      split at h
      · unfold oO at h
        split at h
        · rename_i k T n g z l
          obtain ⟨hk,hc,hK⟩:=h
          simp only [decide_eq_true_eq] at hk
          subst hk
          refine ⟨⟨o.dst,.sl z n g l,none⟩,⟨rfl,?_⟩,hK hc,fun k b' hb=>by cases hb⟩
          rw [hi]
          exact ⟨cnd,_,_,hop,hc,.inr (.inl ⟨T,n,g,z,l,rfl,.inl rfl,rfl,rfl⟩)⟩
        · rename_i k n g z l
          obtain ⟨hk,hc,hK⟩:=h
          simp only [decide_eq_true_eq] at hk
          subst hk
          refine ⟨⟨o.dst,.sl z n g l,none⟩,⟨rfl,?_⟩,hK hc,fun k b' hb=>by cases hb⟩
          rw [hi]
          exact ⟨cnd,_,_,hop,hc,.inr (.inl ⟨0,n,g,z,l,rfl,.inr rfl,rfl,rfl⟩)⟩
        · exact h.elim
      split at h
      · rename_i hp
        refine ⟨⟨o.dst,v,some (S.nx,b)⟩,⟨rfl,?_⟩,h.2 h.1,fun k b' hb=>by cases hb;exact ⟨hp,.inl rfl⟩⟩
        rw [hi]
        exact ⟨cnd,v,.new b,hop,h.1,.inl ⟨rfl,.inr (.inl ⟨b,rfl,rfl,hp⟩)⟩⟩
      · exact h.elim
    · rename_i cnd v id b hop
      split at h
      · rename_i hp
        simp only [Bool.and_eq_true] at hp
        refine ⟨⟨o.dst,v,some (id,b)⟩,⟨rfl,?_⟩,h.2 h.1,fun k b' hb=>by cases hb;exact ⟨hp.2,.inr hp.1⟩⟩
        rw [hi]
        exact ⟨cnd,v,.upd id b,hop,h.1,.inl ⟨rfl,.inr (.inr ⟨id,b,rfl,rfl,hp.2⟩)⟩⟩
      · exact h.elim
    · rename_i cnd id' id T n g z ll hop
      split at h
      · rename_i hp
        simp only [Bool.and_eq_true,decide_eq_true_eq] at hp
        obtain ⟨rfl,hp⟩:=hp
        refine ⟨⟨o.dst,.own S.nx,some (S.nx,.own T n g z ll)⟩,⟨rfl,?_⟩,h.2 h.1,fun k b' hb=>by cases hb;exact ⟨rfl,.inl rfl⟩⟩
        rw [hi]
        exact ⟨cnd,_,_,hop,h.1,.inr (.inr ⟨id',T,n,g,z,ll,rfl,rfl,rfl,rfl,by simp only [Bool.and_eq_true];exact hp⟩)⟩
      · exact h.elim
    · exact h.elim
theorem GT {ns:Nat→Bool} {R:List (Nat×bk)} {o:Oper} {A B:Prop} (h:oQ ns R o A B):
    (o.guard=none∧A)∨ ∃j want b rj,o.guard=some (j,want)∧ns j=true∧(j,rj)∈R∧rj.d≠none∧gb rj.v=some b∧((b=some want∧A)∨(b≠some want∧B)):=by
  unfold oQ at h
  split at h
  · rename_i hg;exact .inl ⟨hg,h⟩
  · rename_i j want hg
    split at h
    · rename_i r hns hr
      split at h
      · rename_i t hd
        unfold eE at h
        split at h
        · rename_i b hb
          simp only [Option.some.injEq] at hb
          refine .inr ⟨j,want,some b,r,hg,hns,ls hr,by simp [hd],by rw [hb];rfl,?_⟩
          by_cases e:b=want
          · exact .inl ⟨by rw [e],h.1 e⟩
          · exact .inr ⟨by simp [e],h.2 (by cases b<;>cases want<;>simp_all)⟩
        · rename_i hb
          simp only [Option.some.injEq] at hb
          exact .inr ⟨j,want,none,r,hg,hns,ls hr,by simp [hd],by rw [hb];rfl,.inr ⟨by simp,h⟩⟩
        · exact h.elim
      · exact h.elim
    · exact h.elim
theorem zx {K:St→Prop} (hneed: ∀i,i<m→ ∀j∈need.getD i [],j<i):
    ∀(k i:Nat) (l pre:List Oper) (R:List (Nat×bk)),ops.toList=pre++l→pre.length=i→i+k=m→ROk S0 ub ops i R→gQ E S0 wr wl need ub K k i l R→
      ∃X l',ROk S0 ub ops m (X++R)∧(∀p∈X,i≤p.1)∧(∀j,i≤j→j<m→rE E S0 wr wl need ub ops (X++R) j)∧(∃pre',ops.toList=pre'++l'∧pre'.length=m)∧gg E m (dsR (X++R)) l' K (co S0 wr j_ (fo ub (X++R)) (X++R) m)
  | 0,i,l,pre,R,hl,hp,hm,hR,hk=>by
    obtain rfl:i=m:=by omega
    exact ⟨[],l,hR,by simp,fun j h1 h2=>by omega,⟨pre,hl,hp⟩,hk⟩
  | k+1,i,[],pre,R,hl,hp,hm,hR,hk=>hk.elim
  | k+1,i,o::l,pre,R,hl,hp,hm,hR,hk=>by
    have ho:ops[i]? =some o:=by
      rw [←Array.getElem?_toList,hl,←hp,List.getElem?_append_right (Nat.le_refl _)]
      simp
    have hdo:o.dst=dF ops i:=by simp [dF,ho]
    -- what is left, behind the entry of this operation
    have rest: ∀r:bk,r.d=o.dst→vu (co S0 (wrF wl need i wr) (bz (need.getD i [])) (ce ub need i R) R i) ub i r→gQ E S0 wr wl need ub K k (i+1) l ((i,r)::R)→
        ∃X l',ROk S0 ub ops m (X++(i,r)::R)∧(∀p∈X,i+1≤p.1)∧(∀j,i+1≤j→j<m→rE E S0 wr wl need ub ops (X++(i,r)::R) j)∧(∃pre',ops.toList=pre'++l'∧pre'.length=m)∧gg E m (dsR (X++(i,r)::R)) l' K (co S0 wr j_ (fo ub (X++(i,r)::R)) (X++(i,r)::R) m):=
      fun r hd hb hk=>zx hneed k (i+1) l (pre++[o]) _ (by rw [hl];simp) (by simp [hp]) (by omega) (hR.cons (hd.trans hdo) (fun k b h=>(hb k b h).1) (fun k b h=>(hb k b h).2)) hk
    have gk: ∀(r:bk) (X:List (Nat×bk)),(∀p∈X,i+1≤p.1)→co S0 (wrF wl need i wr) (bz (need.getD i [])) (ce ub need i (X++(i,r)::R)) (X++(i,r)::R) i=co S0 (wrF wl need i wr) (bz (need.getD i [])) (ce ub need i R) R i:=by
      intro r X hX
      have hsk: ∀p∈X++[(i,r)],bz (need.getD i []) p.1=false:=by
        intro p hp'
        have hge:i≤p.1:=by
          rcases List.mem_append.1 hp' with h|h
          · have:=hX p h;omega
          · simp at h;subst h;exact Nat.le_refl _
        cases hb:bz (need.getD i []) p.1 with
        | false=>rfl
        | true=>
          have:=hneed i (by omega) p.1 (fp.1 hb)
          omega
      have e:X++(i,r)::R=(X++[(i,r)])++R:=by simp
      unfold co
      rw [e,zr hsk,zt hsk,GS hsk]
    have fin: ∀(r:bk),r.d=o.dst→vu (co S0 (wrF wl need i wr) (bz (need.getD i [])) (ce ub need i R) R i) ub i r→gQ E S0 wr wl need ub K k (i+1) l ((i,r)::R)→
        ((o.guard=none∧mV E (co S0 (wrF wl need i wr) (bz (need.getD i [])) (ce ub need i R) R i) ub i o r)∨ ∃j want b rj,o.guard=some (j,want)∧j∈need.getD i []∧(j,rj)∈R∧rj.d≠none∧gb rj.v=some b∧((b=some want∧mV E (co S0 (wrF wl need i wr) (bz (need.getD i [])) (ce ub need i R) R i) ub i o r)∨(b≠some want∧r.v= .tup []∧r.b=none)))→
        ∃X l',ROk S0 ub ops m (X++R)∧(∀p∈X,i≤p.1)∧(∀j,i≤j→j<m→rE E S0 wr wl need ub ops (X++R) j)∧(∃pre',ops.toList=pre'++l'∧pre'.length=m)∧gg E m (dsR (X++R)) l' K (co S0 wr j_ (fo ub (X++R)) (X++R) m):=by
      intro r hd hb hk hj
      obtain ⟨X,l',h1,h2,h3,h4,h5⟩:=rest r hd hb hk
      have e:X++(i,r)::R=(X++[(i,r)])++R:=by simp
      refine ⟨X++[(i,r)],l',by rw [←e];exact h1,?_,?_,h4,by rw [←e];exact h5⟩
      · intro p hp'
        rcases List.mem_append.1 hp' with h|h
        · have:=h2 p h;omega
        · simp at h;subst h;exact Nat.le_refl _
      · intro j hj1 hj2
        rw [←e]
        rcases Nat.lt_or_ge i j with h|h
        · exact h3 j h hj2
        · obtain rfl:j=i:=by omega
          intro o' ho'
          rw [ho] at ho';cases ho'
          refine ⟨r,by simp,hd,?_⟩
          rw [gk r X h2]
          rcases hj with hj|⟨j',want,b,rj,g1,g2,g3,g4⟩
          · exact .inl hj
          · exact .inr ⟨j',want,b,rj,g1,g2,by simp [g3],g4⟩
    simp only [gQ] at hk
    rcases GT hk with ⟨hg,hk⟩|⟨j,want,b,rj,hg,hns,hrj,hdj,hvj,⟨hb,hk⟩|⟨hb,hk⟩⟩
    · obtain ⟨r,hj,hk,hp'⟩:=zw hk
      exact fin r hj.1 hp' hk (.inl ⟨hg,hj⟩)
    · obtain ⟨r,hj,hk,hp'⟩:=zw hk
      exact fin r hj.1 hp' hk (.inr ⟨j,want,b,rj,hg,fp.1 hns,hrj,hdj,hvj,.inl ⟨hb,hj⟩⟩)
    · exact fin ⟨o.dst,.tup [],none⟩ rfl (fun k b hb=>by cases hb) hk (.inr ⟨j,want,b,rj,hg,fp.1 hns,hrj,hdj,hvj,.inr ⟨hb,rfl,rfl⟩⟩)
theorem vw: ∀{R:List (Nat×bk)} {j t:Nat},ak (dsR R) j=some t→ ∃r,(j,r)∈R∧r.d=some t
  | [],j,t,h=>by simp [dsR,ak] at h
  | (k,r)::R,j,t,h=>by
    simp only [dsR] at h
    split at h
    · rename_i t' ht
      simp only [ak] at h
      split at h
      · rename_i e;subst e;cases h;exact ⟨r,by simp,ht⟩
      · obtain ⟨r',h1,h2⟩:=vw h;exact ⟨r',by simp [h1],h2⟩
    · obtain ⟨r',h1,h2⟩:=vw h;exact ⟨r',by simp [h1],h2⟩
theorem GU [mo:Mo] (hwl:wlB ops m wl=true) (hE:bn E) (hmo:E.P.follows .mixedOrders=true) {n n':Nat} (hsl:fF n ops=true) (hB:jN n' m ops wr need=true) (hU:ubB m need ub S0.nx=true) (hneed: ∀i,i<m→ ∀j∈need.getD i [],j<i) {K:St→Prop} {Q:Exit→Act→World→Prop} (hQ:oN E c0 n K (Q .normal))
    {id:Nat} {a:Act} (h:bl E c0 c ρ S0 F) (hf:Fr n F a) (hk:gQ E S0 wr wl need ub K m 0 ops.toList []):wq E.P (Code.region id ops true) Q a c.w:=by
  simp only [jN,Bool.and_eq_true,decide_eq_true_eq] at hB
  obtain ⟨⟨⟨⟨⟨_,hE'⟩,hN⟩,hW⟩,hTB⟩,hm⟩:=hB
  obtain ⟨R,l',hR,_,hT,⟨pre',hl',hp'⟩,hk'⟩:=zx hneed m 0 ops.toList [] [] rfl rfl (by omega) ⟨by simp,by simp,by simp,by simp,.nil⟩ hk
  rw [List.append_nil] at hR hT hk'
  have hH0: ∀i b,ak S0.H i=some b→i<S0.nx:=by
    intro i b hb
    rcases Nat.lt_or_ge i S0.nx with h1|h1
    · exact h1
    · exfalso
      have h5:=h.1.heap _ _ hb
      have h6:=h.2 i h1
      cases b<;>first|(obtain ⟨_,h5,_⟩:=h5;rw [h6] at h5;cases h5)|(obtain ⟨h5,_⟩:=h5;rw [h6] at h5;cases h5)
  refine wpIn_region_any hmo ?_
  have hdr:Below c.w.heap.size c.w c.w.drew:=(Below.refl _ _).drew
  have hle:c.le (c.at c.w.drew hdr.size):=Cx.le_at hdr
  have hnone: ∀i,¬bQ (Array.replicate ops.size false) i:=fun i hi=>by
    simp only [bQ,Array.getD_eq_getD_getElem?,Array.getElem?_replicate] at hi
    split at hi<;>simp at hi
  refine Fp (Inv:=fun L F w=> ∃c ρ,c.w=w∧gR E c0 S0 ub m R L F c ρ) hsl hE' hN hTB hm ?_ (GR hE hwl hW hU hR hH0 (fun i hi=>hT i (Nat.zero_le _) hi)) ?_ ops.size _ (by simp) ?_ ?_ ?_ F _ ⟨c.at c.w.drew hdr.size,ρ,rfl,?_⟩ a hf
  · rintro L L' F w hL ⟨c,ρ,hc,hI⟩
    have hpb: ∀i,PB S0 ub R L' i→PB S0 ub R L i:=fun i h1=>⟨fun j r e1 e2=>h1.1 j r e1 ((hL j (hR.dst j r e1).1).1 e2),h1.2.imp (fun x=>x) fun ⟨l,r,b,g1,g2,g3⟩=>⟨l,r,b,g1,(hL l (hR.dst l r g1).1).2 g2,g3⟩⟩
    refine ⟨c,ρ,hc,hI.since,hI.gl,?_,fun t v ht hno=>hI.old t v ht fun j r g1 g2=>hno j r g1 ((hL j (hR.dst j r g1).1).1 g2),?_,?_,?_,?_⟩
    · intro j r hj hl;exact hI.slot j r hj ((hL j (hR.dst j r hj).1).2 hl)
    · intro j r k b hj hl hb hla hnk;exact hI.heap j r k b hj ((hL j (hR.dst j r hj).1).2 hl) hb (fun w r' b' hw hl'=>hla w r' b' hw ((hL w (hR.dst w r' hw).1).1 hl')) fun j r e1 e2=>hnk j r e1 ((hL j (hR.dst j r e1).1).1 e2)
    · intro i b hb hno hnk;exact hI.heap0 i b hb (fun j r b' g1 g2=>hno j r b' g1 ((hL j (hR.dst j r g1).1).1 g2)) fun j r e1 e2=>hnk j r e1 ((hL j (hR.dst j r e1).1).1 e2)
    · intro i j k hij h1 h2
      exact hI.sep i j k hij (hpb i h1) (hpb j h2)
    · intro i hi hne
      exact hI.fresh i hi fun j hj hl=>hne j hj ((hL j hj).1 hl)
  · rintro F w ⟨c,ρ,rfl,hI⟩ a hf
    have hS:bl E c0 c ρ (co S0 wr j_ (fo ub R) R m) F:=by
      refine ⟨hI.sim (wr:=wr) (fun t ht j r g1 _ g3=>ht (oa hW (hR.dst j r g1).1 ((hR.dst j r g1).2▸g3)).1) (fun _ _=>trivial) hH0 (fun _ _ _ _ _ _ _ _ _=>rfl) (fun k hk j r h1 _=>vm (GK hk) j r h1 rfl) m hR.ord (fun _ _ _ _ _ _ _ _ _ _ _ _ _ _ _=>rfl),fun i hi=>hI.fresh i ?_ ?_⟩
      · simp only [co] at hi;omega
      · intro j hj _;simp only [co] at hi;omega
    have hds:mU ops m (dsR R):=by
      intro j t hj
      obtain ⟨r,h1,h2⟩:=vw hj
      obtain ⟨h3,h4⟩:=hR.dst j r h1
      exact ⟨h3,by rw [←h2,h4];rfl⟩
    have:=rz hE hsl hQ l' pre' (dsR R) hl' (by rw [hp'];exact hds) c ρ _ F a hS hf (by rw [hp'];exact hk')
    rw [hp'] at this
    have hlen:l'.length=ops.size - m:=by
      have h6:ops.size=pre'.length+l'.length:=by
        have:=congrArg List.length hl'
        simpa using this
      omega
    rw [hlen] at this
    exact this
  · have: ∀i,(Array.replicate ops.size false).getD i false=false:=fun i=>by
      simp only [Array.getD_eq_getD_getElem?,Array.getElem?_replicate];split<;>rfl
    simp [gI,this]
  · intro i o hi;exact absurd hi (hnone i)
  · intro i hi;exact absurd hi (hnone i)
  · refine ⟨h.1.since.le hle,h.1.gl.mono hle.pub,?_,?_,?_,?_,?_,?_⟩
    · intro j r _ hl;exact absurd hl (hnone j)
    · intro t v ht _;exact bE hle.pub (h.1.slot t v ht)
    · intro j r k b _ hl;exact absurd hl (hnone j)
    · intro i b hb _ _;exact ij hle.chg (fun _ _ _ hx=>by cases hx) (h.1.heap i b hb)
    · rintro i j k hij ⟨_,⟨bi,h1,h2⟩|⟨l,r,b,_,hl,_⟩⟩ ⟨_,⟨bj,h3,h4⟩|⟨l',r',b',_,hl',_⟩⟩
      · exact h.1.sep i j bi bj k hij h1 h3 h2 h4
      · exact absurd hl' (hnone _)
      · exact absurd hl (hnone _)
      · exact absurd hl (hnone _)
    · intro i hi _;exact h.2 i hi
end
end Go.Proofs.YtgealhhkngbkbaaGreatDoor
namespace Go.Proofs.YtgealhhkngbkbaaGreatDoor
open Go.RowKit
def Cx.lend (c:Cx) (Y:List Nat):Cx:={X:=c.X,w:=c.w,ok:=c.ok,Y:=Y}
theorem Cx.chg_lend (c:Cx) (Y:List Nat):c.chg none (c.lend Y):=⟨rfl,rfl,rfl,Nat.le_refl _,fun _ _ _=>rfl,fun _ _=>Iff.rfl,fun k hk=>by cases hk⟩
theorem Cx.pub_lend (c:Cx) (Y:List Nat):c.pub (c.lend Y):=(c.chg_lend Y).pub
section
variable {E:Env} {c0 c c1 c2:Cx} {ρ ρ':Ro} {S S':St} {F F':Fm}
theorem eF {i:Nat} {v:Value} {n:Nat} {a:Option Addr} {cap:Nat} (h1:ρ i=some v) (e:v= .slice a n cap):an ρ i=blk v:=by
 unfold an;rw [h1,e]
def db (ρ:Ro) (H:List (Nat×Blk)):List Nat:=H.filterMap fun p=>match ak H p.1 with
 | some b=>if aZ b then an ρ p.1 else none
 | none=>none
theorem rF {H:List (Nat×Blk)} {k:Nat}:k∈db ρ H↔ ∃i b,ak H i=some b∧aZ b=true∧an ρ i=some k:=by
 constructor
 ·intro h
  obtain ⟨p,hp,he⟩:=List.mem_filterMap.1 h
  split at he
  ·rename_i b hb
   split at he
   ·rename_i hp';exact ⟨p.1,b,hb,hp',he⟩
   ·cases he
  ·cases he
 ·rintro ⟨i,b,h1,h2,h3⟩
  exact List.mem_filterMap.2 ⟨(i,b),ls h1,by simp only [h1,h2,if_true];exact h3⟩
theorem zy {i:Nat} {b:Blk} (h:blkOk c0 c ρ i b) (hm:aZ b=true→ ∀k,an ρ i=some k→c1.mine k):blkOk c1 c ρ i b:=by
 cases b with
 | var n g d=>
  obtain ⟨b,h1,h2,h3⟩:=h
  exact ⟨b,h1,hm rfl b (by simp [an,h1]),h3⟩
 | own E n g z l=>
  obtain ⟨v,h1,h2,h3,h4,a,cap,e,h5⟩:=h
  exact ⟨v,h1,h2,fun k hk=>hm rfl k (by rw [eF h1 e];exact hk),h4,a,cap,e,h5⟩
 | ownI E n g z l=>
  obtain ⟨v,h1,h2,h3,h4,a,cap,e,h5⟩:=h
  exact ⟨v,h1,h2,fun k hk=>hm rfl k (by rw [eF h1 e];exact hk),h4,a,cap,e,h5⟩
 | pvar n g d=>exact h
 | pown n g z l=>exact h
 | lent k n g d=>
  obtain ⟨h1,h2,h3⟩:=h
  exact ⟨h1,hm rfl k (by simp [an,h1]),h3⟩
 | kset g k n l=>
  obtain ⟨r,h1,h2,h3⟩:=h
  exact ⟨r,h1,hm rfl r (by simp [an,h1,blk]),h3⟩
theorem rG {i:Nat} {b:Blk} (hp:aZ b=true) (h:blkOk c0 c ρ i b) {k:Nat} (hk:an ρ i=some k):k∈c.X∧ ∃o,c.w.heap[k]? =some o∧(o.isCells=true∨((∃g k' n l,b= .kset g k' n l)∧ ∃es cl,o= .map es cl)):=by
 cases b with
 | var n g d=>
  obtain ⟨b,h1,h2,h3,T,cs,h4,_⟩:=h
  simp only [an,h1,Option.some.injEq] at hk
  subst hk;exact ⟨h3,_,h4,.inl rfl⟩
 | own E n g z l=>
  obtain ⟨v,h1,h2,h3,h4,a,cap,e,h5⟩:=h
  rw [eF h1 e] at hk
  refine ⟨h2.isX k hk,?_⟩
  rcases h2.2 with ⟨a,rfl,_⟩|⟨g',cap,cur,rfl,g1,g2,_⟩
  ·cases a<;>simp [blk] at hk
  ·simp only [blk,Option.some.injEq] at hk;subst hk;exact ⟨_,g2,.inl rfl⟩
 | ownI E n g z l=>
  obtain ⟨v,h1,h2,h3,h4,a,cap,e,h5⟩:=h
  rw [eF h1 e] at hk
  refine ⟨h2.isX k hk,?_⟩
  rcases h2.2 with ⟨a,rfl,_⟩|⟨g',cap,cur,rfl,g1,g2,_⟩
  ·cases a<;>simp [blk] at hk
  ·simp only [blk,Option.some.injEq] at hk;subst hk;exact ⟨_,g2,.inl rfl⟩
 | pvar n g d=>cases hp
 | pown n g z l=>cases hp
 | lent k' n g d=>
  obtain ⟨h1,h2,h3,T,cs,h4,_⟩:=h
  simp only [an,h1,Option.some.injEq] at hk
  subst hk;exact ⟨h3,_,h4,.inl rfl⟩
 | kset g k' n l=>
  obtain ⟨r,h1,h2,h3,h4,es,cl,h5,_⟩:=h
  simp only [an,h1,blk,Option.some.injEq] at hk
  subst hk;exact ⟨h3,_,h5,.inr ⟨⟨g,k',n,l,rfl⟩,es,cl,rfl⟩⟩
theorem GV (h:bl E c0 c ρ S F) {k:Nat} (hk:k∈db ρ S.H):k∈c.X:=by
 obtain ⟨i,b,h1,h2,h3⟩:=rF.1 hk
 exact (rG h2 (h.1.heap i b h1) h3).1
theorem vx (h:bl E c0 c ρ S F) {k:Nat} (hk:k∈db ρ S.H):c0.mine k:=by
 obtain ⟨i,b,h1,h2,h3⟩:=rF.1 hk
 exact il h.1 h1 h2 k h3
theorem vy (h:bl E c0 c ρ S F):bl E (c.lend (db ρ S.H)) (c.lend (db ρ S.H)) ρ S F:=by
 refine ⟨⟨cn.refl _,h.1.gl.mono (c.pub_lend _),fun t v ht=>bE (c.pub_lend _) (h.1.slot t v ht),fun i b hb=> ?_,h.1.sep⟩,h.2⟩
 exact zy (ij (c.chg_lend _) (fun _ _ _ e=>by cases e) (h.1.heap i b hb)) fun hp k hk=> .inr (rF.2 ⟨i,b,hb,hp,hk⟩)
theorem oT (h:bl E c0 c ρ S F) (hs:cn (c.lend (db ρ S.H)) c2) (h2:bl E (c.lend (db ρ S.H)) c2 ρ' S' F'):bl E c0 c2 ρ' S' F':=by
 have hm: ∀k,(c.lend (db ρ S.H)).mine k→c0.mine k:=by
  rintro k (hk|hk)
  ·exact .inl (Nat.le_trans h.1.since.size hk)
  ·exact vx h hk
 refine ⟨⟨⟨⟨hs.below.os.trans h.1.since.below.os,hs.below.tape.trans h.1.since.below.tape,hs.below.output.trans h.1.since.below.output,Nat.le_trans h.1.since.size hs.size,fun k hk hy=> ?_⟩,fun k hk hy=> ?_,fun k hk hx=> ?_⟩,h2.1.gl,h2.1.slot,fun i b hb=> ?_,h2.1.sep⟩,h2.2⟩
 ·refine (hs.below.block k (Nat.lt_of_lt_of_le hk h.1.since.size) fun hY=> ?_).trans (h.1.since.below.block k hk hy)
  rcases vx h hY with h1|h1
  ·omega
  ·exact hy h1
 ·refine hs.X k (h.1.since.X k hk hy) fun hY=> ?_
  rcases vx h hY with h1|h1
  ·have:=c0.ok k hk;omega
  ·exact hy h1
 ·exact hs.Xn k (Nat.lt_of_lt_of_le hk h.1.since.size) (h.1.since.Xn k hk hx)
 ·exact zy (h2.1.heap i b hb) fun hp k hk=>hm k (il h2.1 hb hp k hk)
theorem zz (h:bl E c0 c ρ S F) (hs:cn (c.lend (db ρ S.H)) c2):c.pub c2:=
 ⟨hs.size,fun k hk hx=>⟨hs.Xn k hk hx,fun o ho _=>(hs.below.block k hk fun hY=>hx (GV h hY)).trans ho⟩⟩
theorem zA (h:bl E c0 c ρ S F) (hs:cn (c.lend (db ρ S.H)) c2) {k:Nat} {o:Obj} (ho:c.w.heap[k]? =some o) (hc:o.isCells=false) (hn:(∀es cl,o≠ .map es cl)∨ ∀i b,ak S.H i=some b→ ∀g k n l,b≠ .kset g k n l):c2.w.heap[k]? =some o:=by
 refine (hs.below.block k (Array.getElem?_eq_some_iff.1 ho).1 fun hY=> ?_).trans ho
 obtain ⟨i,b,h1,h2,h3⟩:=rF.1 hY
 obtain ⟨_,o',h4,h5⟩:=rG h2 (h.1.heap i b h1) h3
 rw [show c.w.heap[k]? =_ from ho] at h4
 cases h4
 rcases h5 with h5|⟨⟨g,k',n,l,e⟩,es,cl,e2⟩
 ·rw [hc] at h5;cases h5
 ·rcases hn with hn|hn
  ·exact hn es cl e2
  ·exact hn i b h1 g k' n l e
theorem zB (h:bl E c0 c ρ S F) {W':World} {row:Option Nat} (hg:c.w.grownBy W' row) (hr: ∀r,row=some r→c0.w.heap.size≤r∧ ∃o:Obj,c.w.heap[r]? =some o∧o.isCells=false)
  (hn: ∀r,row=some r→ ∀i b,ak S.H i=some b→aZ b=true→an ρ i≠some r): ∃c',c'.w=W'∧c.pub c'∧bl E c0 c' ρ S F:=by
 have keep: ∀k (o:Obj),c.w.heap[k]? =some o→o.isCells=true→W'.heap[k]? =some o:=fun k o ho hc=>by
  refine (hg.block k (Array.getElem?_eq_some_iff.1 ho).1 fun e=> ?_).trans ho
  obtain ⟨_,o',h1,h2⟩:=hr k e.symm
  rw [ho] at h1;cases h1;rw [hc] at h2;cases h2
 have hok: ∀k,k∈c.X→k<W'.heap.size:=fun k hk=>Nat.lt_of_lt_of_le (c.ok k hk) hg.size
 let c':Cx:=⟨c.X,W',hok,c.Y⟩
 have hp:c.pub c':=⟨hg.size,fun k hk hx=>⟨hx,fun o ho hc=>keep k o ho hc⟩⟩
 refine ⟨c',rfl,hp,⟨⟨⟨hg.os.trans h.1.since.below.os,hg.tape.trans h.1.since.below.tape,hg.output.trans h.1.since.below.output,Nat.le_trans h.1.since.size hg.size,fun k hk hy=> ?_⟩,h.1.since.X,h.1.since.Xn⟩,h.1.gl.mono hp,fun t v ht=>bE hp (h.1.slot t v ht),fun i b hb=> ?_,h.1.sep⟩,h.2⟩
 ·refine (hg.block k (Nat.lt_of_lt_of_le hk h.1.since.size) fun e=> ?_).trans (h.1.since.below.block k hk hy)
  have:=(hr k e.symm).1;omega
 ·have h1:=h.1.heap i b hb
  cases b with
  | var n g d=>
   obtain ⟨b,h1,h2,h3,T,cs,h4,h5,h6⟩:=h1
   exact ⟨b,h1,h2,h3,T,cs,keep _ _ h4 rfl,h5,bE hp h6⟩
  | own E n g z l=>
   obtain ⟨v,h1,h2,h3⟩:=h1
   refine ⟨v,h1,⟨h2.1,?_⟩,h3⟩
   rcases h2.2 with h'|⟨g',cap,cur,rfl,g1,g2,g3,g4,g5,g6⟩
   ·exact .inl h'
   ·exact .inr ⟨g',cap,cur,rfl,g1,keep _ _ g2 rfl,g3,g4,g5,c7 hp g6⟩
  | ownI E n g z l=>
   obtain ⟨v,h1,h2,h3⟩:=h1
   refine ⟨v,h1,⟨h2.1,?_⟩,h3⟩
   rcases h2.2 with h'|⟨g',cap,cur,rfl,g1,g2,g3,g4,g5,g6⟩
   ·exact .inl h'
   ·exact .inr ⟨g',cap,cur,rfl,g1,keep _ _ g2 rfl,g3,g4,g5,c7 hp g6⟩
  | pvar n g d=>
   obtain ⟨b,h1,h2⟩:=h1
   exact ⟨b,h1,(jO _).mono h2 hp⟩
  | pown n g z l=>
   obtain ⟨v,h1,h2⟩:=h1
   exact ⟨v,h1,bE hp h2⟩
  | lent k n g d=>
   obtain ⟨h1,h2,h3,T,cs,h4,h5,h6⟩:=h1
   exact ⟨h1,h2,h3,T,cs,keep _ _ h4 rfl,h5,bE hp h6⟩
  | kset g k n l=>
   obtain ⟨r,h1,h2,h3,h4,es,cl,h5,h6⟩:=h1
   refine ⟨r,h1,h2,h3,h4,es,cl,?_,h6⟩
   refine (hg.block r (Array.getElem?_eq_some_iff.1 h5).1 fun e=> ?_).trans h5
   exact hn r e.symm i _ hb rfl (by simp [an,h1,blk])
def dX (B:Nat):List Deferred→World→Prop
 | [],_=>True
 | d::ds,w=>(∃k,d={target:= .collected k,args:= #[]}∧B≤k∧w.heap[k]? =some (.deferred (some []))∧ ∀e∈ds,e≠d)∧dX B ds w
theorem dX.keep {B:Nat}: ∀{ds:List Deferred} {w w':World},dX B ds w→(∀k,{target:= .collected k,args:= #[]}∈ds→w.heap[k]? =some (.deferred (some []))→w'.heap[k]? =some (.deferred (some [])))→dX B ds w'
 | [],_,_,_,_=>trivial
 | d::ds,w,w',h,k=>by
  obtain ⟨⟨i,h1,h2,h3,h4⟩,h5⟩:=h
  exact ⟨⟨i,h1,h2,k i (by rw [h1];simp) h3,h4⟩,h5.keep fun j hj=>k j (List.mem_cons_of_mem _ hj)⟩
theorem dX.since {B:Nat} {ds:List Deferred} (hd:dX B ds c.w) (h:bl E c0 c ρ S F) (hs:cn (c.lend (db ρ S.H)) c2):dX B ds c2.w:=
 hd.keep fun _ _ ho=>zA h hs ho rfl (.inl fun _ _ e=>by cases e)
theorem dX.mem {B:Nat}: ∀{ds:List Deferred} {w:World},dX B ds w→ ∀{k:Nat},{target:= .collected k,args:= #[]}∈ds→w.heap[k]? =some (.deferred (some []))
 | [],_,_,_,h=>by cases h
 | d::ds,w,hd,k,h=>by
  obtain ⟨⟨i,h1,h2,h3,h4⟩,h5⟩:=hd
  rcases List.mem_cons.1 h with h|h
  ·rw [h1] at h;cases h;exact h3
  ·exact h5.mem h
theorem oU {Fe:Fence} {m:Nat} {fn:Func} {tmps:Array Value} {R:Ending→World→Prop}: ∀{ds:List Deferred} {c:Cx},bl E c0 c ρ S F→dX c0.w.heap.size ds c.w→(∀c',bl E c0 c' ρ S F→ ∃v,(results fn tmps).run E.P c'.w= .ok v c'.w∧R (.returned v) c'.w)→LeavesInM Fe m E.P fn tmps R ds .returning c.w
 | [],c,h,_,k=>k c h
 | d::ds,c,h,hd,k=>by
  obtain ⟨⟨i,h1,h2,h3,h4⟩,h5⟩:=hd
  refine ⟨by simp,.inl ⟨i,_,by rw [h1],run_takeDeferred h3,?_⟩⟩
  have hg:=grownBy_putObj' c.w i (.deferred none)
  obtain ⟨c',e,_,h'⟩:=zB h hg (fun r e=>by cases e;exact ⟨h2,_,h3,rfl⟩) (fun r e j b hb hp hr=>by
   cases e
   obtain ⟨_,o,g1,g2⟩:=rG hp (h.1.heap j b hb) hr
   rw [h3] at g1;cases g1
   rcases g2 with g2|⟨_,es,cl,g2⟩
   ·cases g2
   ·cases g2)
  rw [←e]
  refine oU h' ?_ k
  rw [e]
  refine h5.keep fun j hj ho=>(World.putObj_heap_other fun e=> ?_).trans ho
  exact h4 _ hj (by rw [h1,e])
end
def vz (c:Cx) (W W':World):Prop:=W.heap.size≤W'.heap.size∧ ∀k,k<c.w.heap.size→k∉c.X→ ∀o:Obj,W.heap[k]? =some o→o.isCells=true→W'.heap[k]? =some o
def GW (E:Env) (gf:FuncId) (caps:List V) (xs:List (List V)):Prop:=
 (∀aas w,(callFunc gf aas).run E.P w= .ok (.enter gf aas) w)∧
 ∀(c:Cx) (us:List Value),Gl E c→rdT ro0 c caps us→ ∃encs:Nat→List Value,(∀i l,xs[i]? =some l→rdT ro0 c l (encs i))∧
  SeqStopsK Fence.wide 2 E.P gf us.toArray (fun i:Fin xs.length=>(encs i.val).toArray) (vz c) (fun l=>l.map (·.val)=List.range xs.length) (fun l=>l.map (·.val)=List.range l.length∧l≠[]) xs.length c.w
theorem GX {Fe:Fence} (hF:Fe.depth=none) {m m':Nat} {P:Program} {x:Code} {Q:Exit→Act→World→Prop} {a:Act} {w:World} (h:x.wpIn Fe m P Q a w):x.wpIn Fe m' P Q a w:=
 fun b k cs h1 h2 _=>h b k cs h1 h2 fun d hd=>by rw [hF] at hd;cases hd
def dK:Nat:=100000
def upF (F:List (Nat×V)):List (Nat×V):=F.map fun p=>(dK+p.1,p.2)
def dnF (F:List (Nat×V)):List (Nat×V):=F.filterMap fun p=>if dK≤p.1 then some (p.1 - dK,p.2) else none
def dnS (S:St):St:={S with F:=dnF S.F}
theorem zC: ∀{F:List (Nat×V)} {t:Nat},ak (dnF F) t=ak F (dK+t)
 | [],_=>rfl
 | (i,v)::l,t=>by
  have ih:=zC (F:=l) (t:=t)
  by_cases h:dK≤i
  ·simp only [dnF,List.filterMap_cons,h,if_true,ak] at ih⊢
   by_cases e:i=dK+t
   ·rw [if_pos e,if_pos (by omega)]
   ·rw [if_neg e,if_neg (by omega)];exact ih
  ·simp only [dnF,List.filterMap_cons,h,if_false,ak] at ih⊢
   rw [if_neg (by omega)];exact ih
theorem zD: ∀{F:List (Nat×V)} {t:Nat} {v:V},ak (upF F) t=some v→dK≤t∧ak F (t - dK)=some v
 | [],_,_,h=>by simp [upF,ak] at h
 | (i,x)::l,t,v,h=>by
  simp only [upF,List.map_cons,ak] at h⊢
  split at h
  ·rename_i e
   cases h
   exact ⟨by omega,by rw [if_pos (by omega)]⟩
  ·rename_i e
   obtain ⟨h1,h2⟩:=zD (F:=l) h
   exact ⟨h1,by rw [if_neg (by omega)];exact h2⟩
theorem zE: ∀{A B:List (Nat×V)} {t:Nat},ak (A++B) t=match ak A t with|some v=>some v|none=>ak B t
 | [],B,t=>rfl
 | (i,v)::l,B,t=>by
  simp only [List.cons_append,ak]
  split
  ·rfl
  ·exact zE
theorem rH {ρ:Ro} {c:Cx}: ∀{l:List V} {cs:List Value},rdT ρ c l cs→cs.length=l.length
 | [],cs,h=>by simp only [rdT] at h;subst h;rfl
 | d::l,cs,h=>by
  simp only [rdT] at h
  obtain ⟨u,c2,rfl,_,h3⟩:=h
  simp [rH h3]
def dz (l:List (Nat×Value)) (A:Array Value):Array Value:=l.foldl (fun t p=>t.setIfInBounds p.1 p.2) A
theorem zG: ∀{l:List (Nat×Value)} {A:Array Value},(dz l A).size=A.size
 | [],_=>rfl
 | p::l,A=>by simp only [dz,List.foldl_cons];exact (zG (l:=l)).trans (by simp)
theorem vA: ∀{l:List (Nat×Value)} {A:Array Value} {t:Nat},t∉l.map (·.1)→(dz l A).getD t undef=A.getD t undef
 | [],_,_,_=>rfl
 | p::l,A,t,h=>by
  simp only [List.map_cons,List.mem_cons,not_or] at h
  simp only [dz,List.foldl_cons]
  refine (vA (l:=l) h.2).trans ?_
  simp [Array.getD_eq_getD_getElem?,Ne.symm h.1]
theorem zH {c:Cx} {ρ:Ro}: ∀{ps:List Nat} {l:List V} {us:List Value} {A:Array Value} {t:Nat} {v:V},rdT ρ c l us→ps.Nodup→l.length=ps.length→(∀p∈ps,p<A.size)→ak (ps.zip l) t=some v→t∈ps∧rd ρ c v ((dz (ps.zip us) A).getD t undef)
 | [],_,_,_,_,_,_,_,_,_,h=>by simp [ak] at h
 | p::ps,[],_,_,_,_,_,_,hl,_,_=>by simp at hl
 | p::ps,d::l,us,A,t,v,hr,hn,hl,hA,h=>by
  simp only [rdT] at hr
  obtain ⟨u,us',rfl,h1,h2⟩:=hr
  simp only [List.zip_cons_cons,ak] at h
  simp only [List.nodup_cons] at hn
  split at h
  ·rename_i e
   cases h;subst e
   refine ⟨by simp,?_⟩
   simp only [List.zip_cons_cons,dz,List.foldl_cons]
   have:=vA (l:=ps.zip us') (A:=A.setIfInBounds p u) (t:=p) (fun hm=>hn.1 (by
    obtain ⟨q,hq,e⟩:=List.mem_map.1 hm
    have:=(List.of_mem_zip hq).1
    rw [e] at this;exact this))
   simp only [dz] at this
   rw [this]
   have hp:=hA p (by simp)
   simpa [Array.getD_eq_getD_getElem?,hp] using h1
  ·obtain ⟨g1,g2⟩:=zH (A:=A.setIfInBounds p u) h2 hn.2 (by simpa using hl) (fun q hq=>by simpa using hA q (List.mem_cons_of_mem _ hq)) h
   exact ⟨List.mem_cons_of_mem _ g1,g2⟩
def asg:Code→Option (Nat×Nat)
 | .region _ ops false=>match ops.toList with
  | [o]=>match o.dst,o.op,o.guard with
   | some d,.assign (.tmp p),none=>some (d,p)
   | _,_,_=>none
  | _=>none
 | _=>none
theorem GY {Fe:Fence} {m:Nat} {P:Program} {x:Code} {d p:Nat} (h:asg x=some (d,p)) {K:Act→World→Prop} {Q:Exit→Act→World→Prop} {a:Act} {w:World} (hF: ∀f,Fe.fn f) (hk:K (a.put (some d) (a.tmps.getD p undef)) w):x.wpIn Fe m P (Exit.then K Q) a w:=by
 unfold asg at h
 split at h
 ·rename_i id ops
  split at h
  ·rename_i o ho
   split at h
   ·rename_i d' p' hd hop hg
    cases h
    have ho':ops= #[o]:=by rw [←Array.toArray_toList (xs:=ops),ho]
    subst ho'
    refine wpIn_region ?_
    have hw:Region.wanted o (yielded #[o] a.tmps)=true:=by simp [Region.wanted,hg]
    simp only [List.size_toArray,List.length_cons,List.length_nil,show List.range (0+1)=[0] from rfl,wpOpsIn,List.getElem?_toArray,List.getElem?_cons_zero,hw,if_true]
    refine ⟨fun f _=>hF f,?_⟩
    rw [Oper.semAt_eq _ _ _ fun c hc=>by rw [hop] at hc;cases hc]
    simp only [execOp,hop,Sem.run_pure,Oper.uponIn,hd]
    exact hk
   ·cases h
  ·cases h
 ·cases h
def mW (H:List (Nat×Blk)):Bool:=H.all fun p=>match p.2 with| .kset _ _ _ _=>false|_=>true
theorem zI {H:List (Nat×Blk)} (h:mW H=true) {i:Nat} {b:Blk} (hb:ak H i=some b): ∀g k n l,b≠ .kset g k n l:=by
 rintro g k n l rfl
 have:=List.all_eq_true.1 h _ (ls hb)
 simp at this
def vB (F:List (Nat×V)):Bool:=F.all fun p=>decide (p.1<dK)
theorem GZ {F:List (Nat×V)} (h:vB F=true) {t:Nat} {v:V} (ht:ak F t=some v):t<dK:=by
 have:=List.all_eq_true.1 h _ (ls ht)
 simpa using this
def vC (d p:Nat) (ps:List Nat) (l:List V) (S:St):St:=
 {S with F:=(match ak (ps.zip l) p with|some v=> [(d,v)]|none=> [])++ps.zip l++S.F++upF S.F}
end Go.Proofs.YtgealhhkngbkbaaGreatDoor
namespace Go.Proofs.YtgealhhkngbkbaaGreatDoor
open Go.RowKit
def cw (E:Env) (S S1:St):Prop:= ∀c0 c ρ F,bl E c0 c ρ S F→ ∃c1 ρ1,c1.w=c.w∧bl E c0 c1 ρ1 S1 F
abbrev cq:=List Nat
def io:Code→Option Nat
 | .region id _ _=>some id
 | .seq a b=>match io a with
  | some i=>some i
  | none=>io b
 | .cond _ a b=>match io a with
  | some i=>some i
  | none=>io b
 | .block _ a=>io a
 | .loop a=>io a
 | _=>none
def ly (J:cq) (b:Code):Bool:=match io b with
 | some i=>bz J i
 | none=>false
def mX (E:Env) (M:St→Prop) (S:St):Prop:= ∃S1,cw E S S1∧M S1
def G0 (E:Env) (ops:Array Oper):Bool→(St→Prop)→St→Prop
 | false,K,S=>gg E 0 [] ops.toList K S
 | true,K,S=> ∃n m wr wl need ub,(wlB ops m wl&&jN n m ops wr need&&((List.range m).all fun i=>(need.getD i []).all fun j=>decide (j<i)))=true∧ubB m need ub S.nx=true∧gQ E S wr wl need ub K m 0 ops.toList []
def mY (Q:Exit→St→Prop) (K:St→Prop):Exit→St→Prop
 | .normal,S=>K S
 | e,S=>Q e S
def vD (Q:Exit→St→Prop) (id:Nat):Exit→St→Prop
 | .exit j,S=>if j=id then Q .normal S else Q (.exit j) S
 | e,S=>Q e S
def oV (v:Option V) (A B:Prop):Prop:=match v with
 | some (.bool b)=>gd b true A B
 | _=>False
def rfK (E:Env) (ok:Prop) (Q:Exit→St→Prop) (N:St→Prop):Exit→St→Prop
 | .normal,S=> ∃S3,cw E (dnS S) S3∧N S3
 | .ret,S=>mW S.H=true∧(ok→Q .ret (dnS S))
 | .exit id,S=>mW S.H=true∧(ok→Q (.exit id) (dnS S))
 | _,_=>False
def wpA (E:Env) (J:cq):Code→(Exit→St→Prop)→St→Prop
 | .skip,Q,S=>Q .normal S
 | .region id ops d,Q,S=>G0 E ops d (Q .normal) S
 | .seq a b,Q,S=>match ly J b with
  | false=>wpA E J a (mY Q (wpA E J b Q)) S
  | true=>wpA E J a (mY Q (mX E (wpA E J b Q))) S
 | .cond x a b,Q,S=>oV (S.ev E.gv x) (wpA E J a Q S) (wpA E J b Q S)
 | .block id a,Q,S=>wpA E J a (vD Q id) S
 | .loop a,Q,S=> ∃(I:Nat→St→Prop) (k0:Nat),(∃S1,cw E S S1∧I k0 S1)∧ ∀k S',I k S'→wpA E J a (mY Q fun S2=> ∃k',k'<k∧ ∃S3,cw E S2 S3∧I k' S3) S'
 | .ret,Q,S=>Q .ret S
 | .exit id,Q,S=>Q (.exit id) S
 | .scope a,Q,S=>False
 | .rangeFunc g ps as1 a,Q,S=> ∃(gf:FuncId) (caps:List V) (xs:List (List V)) (d p:Nat) (I:List Nat→St→Prop) (S1:St),cw E S S1∧I [] S1∧S1.ev E.gv g=some (.fn gf caps)∧dI caps∧(asg as1=some (d,p)∧ps.toList.Nodup∧p∈ps.toList)∧GW E gf caps xs∧(∀l∈xs,l.length=ps.size)∧
   (∀pre S',I pre S'→(mW S'.H&&vB S'.F)=true)∧
   (∀(pre:List Nat) i l S',I pre S'→xs[i]? =some l→pre.length<xs.length→wpA E J a (rfK E (pre++[i]=List.range (pre.length+1)) Q (I (pre++[i]))) (vC d p ps.toList l S'))∧
   (∀S',I (List.range xs.length) S'→Q .normal S')
 | _,_,_=>False
def gS:Code→Bool
 | .rangeFunc _ _ _ _=>false
 | .seq a b=>gS a&&gS b
 | .cond _ a b=>gS a&&gS b
 | .block _ a=>gS a
 | .loop a=>gS a
 | _=>true
def ew (n:Nat):Code→Bool
 | .region _ ops _=>fF n ops
 | .seq a b=>ew n a&&ew n b
 | .cond x a b=>inB n x&&(ew n a&&ew n b)
 | .block _ a=>ew n a
 | .loop a=>ew n a
 | .rangeFunc g ps as1 a=>(inB n g&&ps.toList.all (fun p=>decide (p<n))&&(match asg as1 with|some (d,_)=>decide (d<n)|none=>false)&&decide (n≤dK))&&(gS a&&ew n a)
 | _=>true
section
variable {E:Env} {c0 c:Cx} {ρ:Ro} {S:St} {F:Fm}
def zJ (r:Option Nat) (hi:Nat→Value) (E:Env) (c0:Cx) (n:Nat) (Q:Exit→St→Prop) (e:Exit) (a:Act) (w:World):Prop:= ∃c ρ S F ds,c.w=w∧bl E c0 c ρ S F∧Fr (mo:=⟨ds,r,hi⟩) n F a∧dX c0.w.heap.size ds w∧Q e S
theorem G2 {r:Option Nat} {n d p:Nat} {ps:Array Tmp} {a:Act} {cx:Cx} {l:List V} {us:List Value} {hi:Nat→Value} (hx:bl E c0 cx ρ S F) (hf:a.tmps.size=n) (hsl: ∀t,t<n→a.tmps.getD t undef=F t) (hn:n≤dK) (hus:rdT ro0 cx l us) (hps: ∀q∈ps.toList,q<n) (hd:d<n) (hnd:ps.toList.Nodup) (hp:p∈ps.toList) (hl:l.length=ps.size) (hlo:vB S.F=true) (hFu: ∀t,n≤t→t<dK→F t=undef)
  (ehi:hi=fun t=>if dK≤t then F (t - dK) else undef):
  ∃Fb,bl E c0 cx ρ (vC d p ps.toList l S) Fb∧Fr (mo:=⟨[],r,hi⟩) n Fb ((⟨dz (ps.toList.zip us) a.tmps,[]⟩:Act).put (some d) ((dz (ps.toList.zip us) a.tmps).getD p undef)):=by
 subst ehi
 have hsz:(dz (ps.toList.zip us) a.tmps).size=n:=zG.trans hf
 have hlt: ∀q∈ps.toList,q<a.tmps.size:=fun q hq=>by rw [hf];exact hps q hq
 have hru:rdT ρ cx l us:=ov (fun i v h=>by cases h) hus
 have hl':l.length=ps.toList.length:=by simpa using hl
 refine ⟨fun t=>if t<n then ((dz (ps.toList.zip us) a.tmps).setIfInBounds d ((dz (ps.toList.zip us) a.tmps).getD p undef)).getD t undef else (if dK≤t then F (t - dK) else undef),⟨⟨hx.1.since,hx.1.gl,?_,hx.1.heap,hx.1.sep⟩,hx.2⟩, @Fr.mk ⟨[],r,_⟩ n _ _ (by simp [Act.put,hsz]) rfl (fun t ht=>by simp only [if_pos ht];rfl) (fun t ht=>by simp only [if_neg (Nat.not_lt.2 ht)])⟩
 intro t v ht
 have zipR: ∀{t:Nat} {v:V},ak (ps.toList.zip l) t=some v→t∈ps.toList∧rd ρ cx v ((dz (ps.toList.zip us) a.tmps).getD t undef):=fun h=>zH hru hnd hl' hlt h
 have getD_set: ∀{q:Nat},q≠d→((dz (ps.toList.zip us) a.tmps).setIfInBounds d ((dz (ps.toList.zip us) a.tmps).getD p undef)).getD q undef=(dz (ps.toList.zip us) a.tmps).getD q undef:=fun h=>by
  simp [Array.getD_eq_getD_getElem?,Ne.symm h]
 have zipS: ∀{ks:List Nat} {l:List V} {q:Nat},l.length=ks.length→q∈ks→ ∃v,ak (ks.zip l) q=some v:=by
  intro ks
  induction ks with
  | nil=>intro l q _ h;cases h
  | cons k ks ih=>
   intro l q h1 h2
   cases l with
   | nil=>simp at h1
   | cons x l=>
    simp only [List.zip_cons_cons,ak]
    split
    ·exact ⟨_,rfl⟩
    ·rename_i e
     rcases List.mem_cons.1 h2 with h|h
     ·exact absurd h.symm e
     ·exact ih (by simpa using h1) h
 obtain ⟨vp,hvp⟩:=zipS hl' hp
 simp only [vC,hvp,zE] at ht
 simp only [ak] at ht
 by_cases e:d=t
 ·subst e
  simp only [if_true] at ht
  cases ht
  rw [if_pos hd]
  have:=(zipR hvp).2
  simpa [Array.getD_eq_getD_getElem?,hsz,hd] using this
 ·simp only [e,if_false] at ht
  cases hz:ak (ps.toList.zip l) t with
  | some x=>
   simp only [hz] at ht
   cases ht
   obtain ⟨h1,h2⟩:=zipR hz
   rw [if_pos (hps t h1),getD_set (Ne.symm e)]
   exact h2
  | none=>
   simp only [hz] at ht
   cases hS:ak S.F t with
   | some x=>
    simp only [hS] at ht
    cases ht
    by_cases h1:t<n
    ·rw [if_pos h1,getD_set (Ne.symm e),vA,hsl t h1]
     ·exact hx.1.slot t v hS
     ·intro hm
      obtain ⟨q,hq,e2⟩:=List.mem_map.1 hm
      have h3:=(List.of_mem_zip hq).1
      rw [e2] at h3
      obtain ⟨y,hy⟩:=zipS hl' h3
      rw [hz] at hy;cases hy
    ·have h2:=GZ hlo hS
     rw [if_neg h1,if_neg (by omega),←hFu t (by omega) h2]
     exact hx.1.slot t v hS
   | none=>
    simp only [hS] at ht
    obtain ⟨h1,h2⟩:=zD ht
    rw [if_neg (by omega),if_pos h1]
    exact hx.1.slot _ v h2
theorem rI (hE:bn E) (hmo:E.P.follows .mixedOrders=true) {n:Nat} {J:cq}: ∀(code:Code) (r:Option Nat) (hi:Nat→Value) (c0:Cx) (Q:Exit→St→Prop) (QC:Exit→Act→World→Prop),ew n code=true→((r=none∧hi=fun _=>undef)∨gS code=true)→(∀e a w,zJ r hi E c0 n Q e a w→QC e a w)→
  ∀c ρ S F a ds,bl E c0 c ρ S F→Fr (mo:=⟨ds,r,hi⟩) n F a→dX c0.w.heap.size ds c.w→wpA E J code Q S→code.wpIn {Fence.wide with round:=r} 1 E.P QC a c.w:=by
 intro code
 induction code with
 | skip=>
  intro r hi c0 Q QC hs hr hQ c ρ S F a ds h hf hd hk
  exact wpIn_skip (hQ _ _ _ ⟨c,ρ,S,F,ds,rfl,h,hf,hd,hk⟩)
 | region id ops d=>
  intro r hi c0 Q QC hs hr hQ c ρ S F a ds h hf hd hk
  have hT:oN (mo:=⟨ds,r,hi⟩) E (c.lend (db ρ S.H)) n (Q .normal) (QC .normal):=fun c2 ρ2 S2 F2 a2 h2 hf2 hk2=>hQ _ _ _ ⟨c2,ρ2,S2,F2,ds,rfl,oT h h2.1.since h2,hf2,hd.since h h2.1.since,hk2⟩
  have hb:=vy h
  cases d with
  | false=>
   refine wpIn_region ?_
   have:=rz (mo:=⟨ds,r,hi⟩) (c0:=c.lend (db ρ S.H)) hE hs hT ops.toList [] [] rfl (fun j t hj=>by simp [ak] at hj) (c.lend (db ρ S.H)) ρ S F a hb hf hk
   rw [List.range_eq_range']
   rw [show ([]:List Oper).length=0 from rfl,show ops.toList.length=ops.size by simp] at this
   exact this
  | true=>
   obtain ⟨n',m,wr,wl,need,ub,hB,hU,hk⟩:=hk
   simp only [Bool.and_eq_true,List.all_eq_true,List.mem_range,decide_eq_true_eq] at hB
   exact GU (mo:=⟨ds,r,hi⟩) (c0:=c.lend (db ρ S.H)) (c:=c.lend (db ρ S.H)) hB.1.1 hE hmo hs hB.1.2 hU hB.2 hT hb hf hk
 | seq x y ihx ihy=>
  intro r hi c0 Q QC hs hr hQ c ρ S F a ds h hf hd hk
  simp only [ew,Bool.and_eq_true] at hs
  simp only [gS,Bool.and_eq_true] at hr
  simp only [wpA] at hk
  split at hk
  ·refine wpIn_seq (ihx r hi c0 _ _ hs.1 (hr.imp id (·.1)) ?_ c ρ S F a ds h hf hd hk)
   clear hk
   rintro e a w ⟨c,ρ,S,F,ds,rfl,h,hf,hd,hk⟩
   cases e with
   | normal=>exact ihy r hi c0 Q QC hs.2 (hr.imp id (·.2)) hQ c ρ S F a ds h hf hd hk
   | _=>exact hQ _ _ _ ⟨c,ρ,S,F,ds,rfl,h,hf,hd,hk⟩
  ·refine wpIn_seq (ihx r hi c0 _ _ hs.1 (hr.imp id (·.1)) ?_ c ρ S F a ds h hf hd hk)
   clear hk
   rintro e a w ⟨c,ρ,S,F,ds,rfl,h,hf,hd,hk⟩
   cases e with
   | normal=>
    obtain ⟨S1,hw,hM⟩:=hk
    obtain ⟨c1,ρ1,e1,h1⟩:=hw c0 c ρ F h
    have:=ihy r hi c0 Q QC hs.2 (hr.imp id (·.2)) hQ c1 ρ1 S1 F a ds h1 hf (by rw [e1];exact hd) hM
    rwa [e1] at this
   | _=>exact hQ _ _ _ ⟨c,ρ,S,F,ds,rfl,h,hf,hd,hk⟩
 | cond x a b iha ihb=>
  intro r hi c0 Q QC hs hr hQ c ρ S F act ds h hf hd hk
  simp only [ew,Bool.and_eq_true] at hs
  simp only [gS,Bool.and_eq_true] at hr
  simp only [wpA] at hk
  unfold oV at hk
  split at hk
  ·rename_i t ht
   have hv:=aR h.1 ht
   simp only [rd] at hv
   exact wpIn_cond_split (by rw [hf.eval (mo:=⟨ds,r,hi⟩) hs.1];exact hv) (fun e=>iha r hi c0 Q QC hs.2.1 (hr.imp id (·.1)) hQ c ρ S F act ds h hf hd (hk.1 e)) (fun e=>ihb r hi c0 Q QC hs.2.2 (hr.imp id (·.2)) hQ c ρ S F act ds h hf hd (hk.2 e))
  ·exact hk.elim
 | block id x ih=>
  intro r hi c0 Q QC hs hr hQ c ρ S F a ds h hf hd hk
  refine wpIn_block (ih r hi c0 _ _ hs hr ?_ c ρ S F a ds h hf hd hk)
  clear hk
  rintro e a w ⟨c,ρ,S,F,ds,rfl,h,hf,hd,hk⟩
  cases e with
  | exit j=>
   simp only [vD] at hk
   simp only [Exit.inBlock]
   split at hk
   ·rename_i e;subst e
    rw [if_pos rfl]
    exact hQ _ _ _ ⟨c,ρ,S,F,ds,rfl,h,hf,hd,hk⟩
   ·rename_i e
    rw [if_neg (by simpa using e)]
    exact hQ _ _ _ ⟨c,ρ,S,F,ds,rfl,h,hf,hd,hk⟩
  | _=>exact hQ _ _ _ ⟨c,ρ,S,F,ds,rfl,h,hf,hd,hk⟩
 | loop x ih=>
  intro r hi c0 Q QC hs hr hQ c ρ S F a ds h hf hd hk
  simp only [wpA] at hk
  obtain ⟨I,k0,⟨S1,hw,hI⟩,hround⟩:=hk
  obtain ⟨c1,ρ1,e1,h1⟩:=hw c0 c ρ F h
  refine E_ (mo:=⟨[],r,hi⟩) (fun k a w=> ∃c ρ S F ds,c.w=w∧bl E c0 c ρ S F∧Fr (mo:=⟨ds,r,hi⟩) n F a∧dX c0.w.heap.size ds w∧I k S) k0 ⟨c1,ρ1,S1,F,ds,e1,h1,hf,hd,hI⟩ ?_
  rintro k a w ⟨c,ρ,S,F,ds,rfl,h,hf,hd,hI⟩
  refine ih r hi c0 _ _ hs hr ?_ c ρ S F a ds h hf hd (hround k S hI)
  rintro e a w ⟨c,ρ,S,F,ds,rfl,h,hf,hd,hk⟩
  cases e with
  | normal=>
   obtain ⟨k',hlt,S3,hw,hI⟩:=hk
   obtain ⟨c1,ρ1,e1,h1⟩:=hw c0 c ρ F h
   exact ⟨k',hlt,c1,ρ1,S3,F,ds,e1,h1,hf,hd,hI⟩
  | _=>exact hQ _ _ _ ⟨c,ρ,S,F,ds,rfl,h,hf,hd,hk⟩
 | ret=>
  intro r hi c0 Q QC hs hr hQ c ρ S F a ds h hf hd hk
  exact wpIn_ret (hQ _ _ _ ⟨c,ρ,S,F,ds,rfl,h,hf,hd,hk⟩)
 | exit id=>
  intro r hi c0 Q QC hs hr hQ c ρ S F a ds h hf hd hk
  exact wpIn_exit (hQ _ _ _ ⟨c,ρ,S,F,ds,rfl,h,hf,hd,hk⟩)
 | rangeFunc g ps as1 body _ ih=>
  intro r hi c0 Q QC hs hr hQ c ρ S F a ds h hf hd hk
  obtain ⟨rfl,rfl⟩:r=none∧hi=fun _=>undef:=by
   rcases hr with hr|hr
   ·exact hr
   ·simp [gS] at hr
  obtain ⟨gf,caps,xs,d,p,I,S1,hw,hI0,he,hpc,⟨ha,hnd,hpp⟩,hit,hxl,hnok,hround,hend⟩:=hk
  simp only [ew,ha,Bool.and_eq_true,decide_eq_true_eq,List.all_eq_true] at hs
  obtain ⟨⟨⟨⟨hgB,hpB⟩,hdB⟩,hnB⟩,hnr,hsb⟩:=hs
  obtain ⟨c1,ρ1,e1,h1⟩:=hw c0 c ρ F h
  rw [←e1] at hd⊢
  have hv:=aR h1.1 he
  simp only [rd] at hv
  obtain ⟨us,hfn,hus⟩:=hv
  obtain ⟨encs,hen,hseq⟩:=hit.2 c1 us h1.1.gl (lv hpc hus)
  have hFu: ∀t,n≤t→t<dK→F t=undef:=fun t ht _=>hf.hg t ht
  have hdlt: ∀k,{target:= .collected k,args:= #[]}∈ds→k<c1.w.heap.size:=fun k hk=>(Array.getElem?_eq_some_iff.1 (hd.mem hk)).1
  have hlen: ∀i:Fin xs.length,(encs i.val).length=ps.size:=fun i=>by
   have h2:xs[i.val]? =some xs[i.val]:=List.getElem?_eq_getElem i.isLt
   exact (rH (hen _ _ h2)).trans (hxl _ (List.getElem_mem _))
  have hgrow: ∀{cx:Cx} {ρx:Ro} {Sx:St} {B:World} {row:Option Nat},bl E c0 cx ρx Sx F→mW Sx.H=true→dX c0.w.heap.size ds cx.w→cx.w.grownBy B row→(∀k,row=some k→c1.w.heap.size≤k∧ ∃o:Obj,cx.w.heap[k]? =some o∧o.isCells=false)→
    ∃c',c'.w=B∧cx.pub c'∧bl E c0 c' ρx Sx F∧dX c0.w.heap.size ds B:=by
   intro cx ρx Sx B row hx hn hdx hg hr
   obtain ⟨c',e,hp,h'⟩:=zB hx hg (fun k hk=>⟨Nat.le_trans h1.1.since.size (hr k hk).1,(hr k hk).2⟩) (fun k hk i b hb hpv hbl=>by
    obtain ⟨_,o,g1,g2⟩:=(hr k hk)
    obtain ⟨_,o',g3,g4⟩:=rG hpv (hx.1.heap i b hb) hbl
    rw [g1] at g3;cases g3
    rcases g4 with g4|⟨⟨g,k',m,l,e⟩,_⟩
    ·rw [g2] at g4;cases g4
    ·exact zI hn hb g k' m l e)
   refine ⟨c',e,hp,h',hdx.keep fun k hk ho=> ?_⟩
   refine (hg.block k (Array.getElem?_eq_some_iff.1 ho).1 fun e2=> ?_).trans ho
   have:=(hr k e2.symm).1
   have:=hdlt k hk
   omega
  refine GX (m:=3) rfl (wpIn_rangeFunc_ownG (α:=Fin xs.length) rfl (by omega) (gf:=gf) (lb:=us.toArray) (by rw [hf.eval (mo:=⟨ds,none,fun _=>undef⟩) hgB];exact hfn) trivial hit.1 (Kp:=vz c1) hseq
   (fun {A B C} hA hB=>⟨Nat.le_trans hA.1 hB.1,fun k hk hx o ho hc=>hB.2 k hk hx o (hA.2 k hk hx o ho hc) hc⟩)
   (fun W l o o' hl ho hc _=>⟨by simp,fun k hk hx o2 ho2 hc2=>(World.putObj_heap_other (by omega)).trans ho2⟩) (Below.refl _ _) (fun i=>by simpa using hlen i)
   (fun pre W=> ∃cx ρx Sx,cx.w=W∧bl E c0 cx ρx Sx F∧c1.pub cx∧dX c0.w.heap.size ds W∧I (pre.map (·.val)) Sx)
   (fun cd pre W=> ∃cx ρx Sx,cx.w=W∧bl E c0 cx ρx Sx F∧dX c0.w.heap.size ds W∧mW Sx.H=true∧((cd= .ret∧(pre.map (·.val)=List.range pre.length→Q .ret Sx))∨ ∃id,cd= .exit id∧(pre.map (·.val)=List.range pre.length→Q (.exit id) Sx)))
   ?_ ?_ ⟨c1,ρ1,S1,rfl,h1,Cx.pub.refl _,hd,hI0⟩
   (fun i=>(⟨dz (ps.toList.zip (encs i.val)) a.tmps,[]⟩:Act).put (some d) ((dz (ps.toList.zip (encs i.val)) a.tmps).getD p undef)) ?_ ?_ ?_ ?_)
  ·rintro pre A B row ⟨cx,ρx,Sx,rfl,hx,hp,hdx,hi⟩ hg hr
   obtain ⟨c',e,hp',h',hd'⟩:=hgrow hx (by have:=hnok _ _ hi;simp only [Bool.and_eq_true] at this;exact this.1) hdx hg hr
   exact ⟨c',ρx,Sx,e,h',hp.trans hp',hd',hi⟩
  ·rintro cd pre A B row ⟨cx,ρx,Sx,rfl,hx,hdx,hn,hi⟩ hg hr
   obtain ⟨c',e,_,h',hd'⟩:=hgrow hx hn hdx hg hr
   exact ⟨c',ρx,Sx,e,h',hd',hn,hi⟩
  ·intro l i W K hK
   refine GY ha (fun _=>trivial) ?_
   have e:(ps.zip (encs i.val).toArray).foldl (fun t (p,v)=>t.setIfInBounds p v) a.tmps=dz (ps.toList.zip (encs i.val)) a.tmps:=by
    rw [←Array.foldl_toList];simp [dz]
   simp only [e]
   exact hK
  ·rintro l pre i W ⟨cx,ρx,Sx,rfl,hx,hp,hdx,hi⟩ hlt
   have hn:=hnok _ _ hi
   simp only [Bool.and_eq_true] at hn
   have hl:xs[i.val]? =some xs[i.val]:=List.getElem?_eq_getElem i.isLt
   have hb:=vy hx
   obtain ⟨Fb,hbS,hbF⟩:=G2 (r:=some l) (a:=a) hb hf.sz (fun t ht=>hf.sl t ht) hnB (fH (hp.trans (cx.pub_lend _)) (hen _ _ hl)) hpB hdB hnd hpp (hxl _ (List.getElem_mem _)) hn.2 hFu rfl
   refine ih (some l) _ (cx.lend (db ρx Sx.H)) (rfK E (pre.map (·.val)++[i.val]=List.range ((pre.map (·.val)).length+1)) Q (I (pre.map (·.val)++[i.val]))) _ hsb (.inr hnr) ?_ (cx.lend (db ρx Sx.H)) ρx _ Fb _ [] hbS hbF trivial (hround _ _ _ _ hi hl (by simpa using hlt))
   rintro e a2 w2 ⟨c2,ρ2,S2,F2,ds2,rfl,h2,hf2,_,hk2⟩
   have hs2:=h2.1.since
   have hKF:KeepsFrom c1.w.heap.size cx.w c2.w:=⟨hs2.size,fun k o _ ho hc=>zA hx hs2 ho hc (.inr fun i b hb=>zI hn.1 hb)⟩
   have hKP:vz c1 cx.w c2.w:=⟨hs2.size,fun k hk hX o ho hc=>((zz hx hs2).keep k (Nat.lt_of_lt_of_le hk hp.size) (hp.keep k hk hX).1).2 o ho hc⟩
   have hdn:bl E (cx.lend (db ρx Sx.H)) c2 ρ2 (dnS S2) F:=by
    refine ⟨⟨h2.1.since,h2.1.gl,fun t v ht=> ?_,h2.1.heap,h2.1.sep⟩,h2.2⟩
    simp only [dnS,zC] at ht
    have h3:=h2.1.slot _ v ht
    rw [hf2.hg (dK+t) (by omega)] at h3
    simpa using h3
   have hd2:=hdx.since hx hs2
   cases e with
   | normal=>
    obtain ⟨S3,hw3,hN⟩:=hk2
    obtain ⟨c3,ρ3,e3,h3⟩:=hw3 _ c2 ρ2 F hdn
    exact ⟨hKF,hKP,c3,ρ3,S3,e3,oT hx h3.1.since h3,hp.trans (zz hx h3.1.since),hd2,by simpa using hN⟩
   | ret=>exact ⟨hKF,c2,ρ2,_,rfl,oT hx hdn.1.since hdn,hd2,hk2.1,.inl ⟨rfl,fun h=>hk2.2 (by simpa using h)⟩⟩
   | exit id=>exact ⟨hKF,c2,ρ2,_,rfl,oT hx hdn.1.since hdn,hd2,hk2.1,.inr ⟨id,rfl,fun h=>hk2.2 (by simpa using h)⟩⟩
   | _=>exact hk2.elim
  ·rintro D xs' W hD hS ⟨cx,ρx,Sx,rfl,hx,_,hdx,hi⟩ hK
   rw [hS] at hi
   refine hQ _ _ _ ⟨cx,ρx,Sx,F,{target:= .collected D,args:= #[]}::ds,rfl,hx, @Fr.mk ⟨_,none,_⟩ n F _ hf.sz (by simp [hf.df]) hf.sl hf.hg,⟨⟨D,rfl,Nat.le_trans h1.1.since.size hD,hK,?_⟩,hdx⟩,hend _ hi⟩
   rintro e he rfl
   have:=hdlt D he
   omega
  ·rintro D cd pre W hD hSp ⟨cx,ρx,Sx,rfl,hx,hdx,_,hi⟩ hK
   have hfin: ∀e,Q e Sx→QC e {a with defers:={target:= .collected D,args:= #[]}::a.defers} cx.w:=fun e hq=>by
    refine hQ _ _ _ ⟨cx,ρx,Sx,F,{target:= .collected D,args:= #[]}::ds,rfl,hx, @Fr.mk ⟨_,none,_⟩ n F _ hf.sz (by simp [hf.df]) hf.sl hf.hg,⟨⟨D,rfl,Nat.le_trans h1.1.since.size hD,hK,?_⟩,hdx⟩,hq⟩
    rintro e he rfl
    have:=hdlt D he
    omega
   rcases hi with ⟨rfl,hq⟩|⟨id,rfl,hq⟩
   ·exact wpIn_ret (hfin _ (hq hSp.1))
   ·exact wpIn_exit (hfin _ (hq hSp.1))
 | _=>
  intro r hi c0 Q QC hs hr hQ c ρ S F a ds h hf hd hk
  exact hk.elim
def rJ (tb:TypeId→TI) (S:St):ResultVar→Option V
 | .tmp t=>ak S.F t
 | .cell t T=>match ak S.F t with
  | some (.ptr id 0)=>match ak S.H id with
   | some (.var n g d)=>if (tb T).ok=true∧(tb T).n=n∧(tb T).g=g then some d else none
   | some (.pvar n g d)=>if (tb T).ok=true∧(tb T).n=n∧(tb T).g=g then some d else none
   | _=>none
  | _=>none
def gi (tb:TypeId→TI) (S:St):List ResultVar→Option (List V)
 | []=>some []
 | x::l=>match rJ tb S x,gi tb S l with
  | some v,some vs=>some (v::vs)
  | _,_=>none
def fq:List V→V
 | [v]=>v
 | vs=> .tup vs
def rK (E:Env) (S:St) (v:V) (r:V) (H:List Blk):Prop:=
 ∀c0 c ρ F u,c0.Y=[]→bl E c0 c ρ S F→rd ρ c v u→ ∃c1 ρ1,c1.w=c.w∧c0.le c1∧rd ρ1 c1 r u∧HOk c0 c1 ρ1 H
def mZ (E:Env) (rs:List ResultVar) (r:V) (H:List Blk):Exit→St→Prop
 | .ret,S=>match gi E.tb S rs with
  | some vs=>rK E S (fq vs) r H
  | none=>False
 | _,_=>False
theorem G3 (hE:bn E) (h:Sim E c0 c ρ S F) {x:ResultVar} {v:V} (hx:rJ E.tb S x=some v): ∃u,tZ E.P F c.w x u∧rd ρ c v u:=by
 cases x with
 | tmp t=>exact ⟨F t,rfl,h.slot t v hx⟩
 | cell t T=>
  simp only [rJ] at hx
  split at hx
  ·rename_i id ht
   have hp:=h.slot _ _ ht
   simp only [rd] at hp
   obtain ⟨b,hb,he⟩:=hp
   split at hx
   ·rename_i n g d hH
    obtain ⟨⟨h1,rfl,rfl⟩,hx2⟩:=aX hx
    cases hx2
    obtain ⟨b',e1,e2,hv⟩:=h.heap _ _ hH
    rw [hb] at e1;cases e1
    obtain ⟨u,hu,hu'⟩:=Fk ((hE.t T h1).ty ρ) hv he
    exact ⟨u,hu,fK hu'⟩
   ·rename_i n g d hH
    obtain ⟨⟨h1,rfl,rfl⟩,hx2⟩:=aX hx
    cases hx2
    obtain ⟨b',e1,hv⟩:=h.heap _ _ hH
    rw [hb] at e1;cases e1
    obtain ⟨b2,o2,cs,e3,_,_,hc,hi⟩:=hv
    cases e3
    have hrun:=og (P:=E.P) ((hE.t T h1).ty ro0) hi hc
    exact ⟨_,⟨_,he,hrun⟩,mO ⟨cs,hi,rfl⟩⟩
   ·cases hx
  ·cases hx
theorem zK {mo:Mo} (hE:bn E) {n:Nat} {a:Act} (h:Sim E c0 c ρ S F) (hf: @Fr mo n F a) (h0:mo.hi=fun _=>undef): ∀{l:List ResultVar} {vs:List V},gi E.tb S l=some vs→ ∃us:List Value,us.length=l.length∧(l.mapM (lc a.tmps)).run E.P c.w= .ok us c.w∧rdT ρ c vs us
 | [],vs,hx=>by
  simp only [gi,Option.some.injEq] at hx
  subst hx
  exact ⟨[],rfl,by simp,rfl⟩
 | x::l,vs,hx=>by
  simp only [gi] at hx
  split at hx
  ·rename_i v vs' h1 h2
   cases hx
   obtain ⟨u,hu,hr⟩:=G3 hE h h1
   obtain ⟨us,hl,hrun,hrs⟩:=zK hE h hf h0 h2
   refine ⟨u::us,by simp [hl],?_,?_⟩
   ·simp only [List.mapM_cons,Sem.run_bind,Fo hf h0 hu,Result.andThen_ok,hrun,Sem.run_pure]
   ·simp only [rdT];exact ⟨u,us,rfl,hr,hrs⟩
  ·cases hx
theorem rL {mo:Mo} (hE:bn E) {n:Nat} {a:Act} {fn:Func} (h:Sim E c0 c ρ S F) (hf: @Fr mo n F a) (h0:mo.hi=fun _=>undef) {vs:List V} (hx:gi E.tb S fn.results.toList=some vs): ∃u,(results fn a.tmps).run E.P c.w= .ok u c.w∧rd ρ c (fq vs) u:=by
 obtain ⟨us,hl,hrun,hrs⟩:=zK hE h hf h0 hx
 have hrun':(fn.results.mapM (lc a.tmps)).run E.P c.w= .ok us.toArray c.w:=by
  rw [Array.mapM_eq_mapM_toList]
  simp only [map_eq_pure_bind,Sem.run_bind,hrun,Result.andThen_ok,Sem.run_pure]
 refine ⟨if h:us.toArray.size=1 then us.toArray[0] else .tuple us.toArray,?_,?_⟩
 ·rw [Fl]
  simp only [Sem.run_bind,hrun',Result.andThen_ok,Sem.run_pure]
 ·match vs,us,hrs with
  | [],us,hrs=>
   simp only [rdT] at hrs
   subst hrs
   simp only [fq,rd]
   exact ⟨[],rfl,rfl⟩
  | [v],us,hrs=>
   simp only [rdT] at hrs
   obtain ⟨u,c2,rfl,h1,rfl⟩:=hrs
   exact h1
  | v::v'::vs,us,hrs=>
   have hrs':=hrs
   simp only [rdT] at hrs'
   obtain ⟨u,c2,rfl,h1,u',c3,rfl,h2,h3⟩:=hrs'
   simp only [fq,rd]
   refine ⟨u::u'::c3,?_,hrs⟩
   simp
def gj:Nat→List V→List (Nat×V)
 | _,[]=> []
 | i,v::l=>(i,v)::gj (i+1) l
theorem rM: ∀{l:List V} {i t:Nat},ak (gj i l) t=if i≤t then l[t - i]? else none
 | [],i,t=>by simp [gj,ak]
 | v::l,i,t=>by
  simp only [gj,ak,rM]
  by_cases h:i=t
  ·subst h;simp
  ·rw [if_neg h]
   by_cases h1:i≤t
   ·rw [if_pos h1,if_pos (by omega)]
    have:t - i=(t - (i+1))+1:=by omega
    rw [this,List.getElem?_cons_succ]
   ·rw [if_neg h1,if_neg (by omega)]
theorem bU (hE:bn E) (hmo:E.P.follows .mixedOrders=true) {f:FuncId} {fn:Func} {code:Code} {ws:List V} {r:V} {H:List Blk} {n:Nat} (J:cq) (hf:E.P.funcs[f]? =some fn) (hb:fn.body=some code) (hnt:fn.ntmps=n)
  (hsl:(ew n code&&decide (ws.length≤n)&& !(fn.name== "runtime.NumGoroutine"))=true)
  (h:wfL ws→wpA E J code (mZ E fn.results.toList r H) ⟨gj 0 ws,[],0⟩):aE E f ws r H:=by
 simp only [Bool.and_eq_true,Bool.not_eq_true',decide_eq_true_eq] at hsl
 refine ⟨fun aas w=> ?_,fun c us hY hg hus=> ?_⟩
 ·have hn: ¬fn.name= "runtime.NumGoroutine" :=by simpa using hsl.2
  simp [callFunc,hf,hb,hn]
 have hlen:us.length=ws.length:=rH hus
 have hall:=h (jU hus)
 refine (callsIn_wide (n:=1)).1 (callsIn_of_wp_marks hf hb trivial ?_ rfl)
 have hfr:Fr (mo:=tG) n (fun t=>(us.toArray++Array.replicate (n - us.toArray.size) undef).getD t undef) {tmps:=us.toArray++Array.replicate (fn.ntmps - us.toArray.size) undef,defers:=[]}:=by
  refine Fr.of ?_ rfl fun t=>by rw [hnt]
  simp [hnt];omega
 have hS:bl E c c ro0 ⟨gj 0 ws,[],0⟩ (fun t=>(us.toArray++Array.replicate (n - us.toArray.size) undef).getD t undef):=by
  refine ⟨⟨cn.refl c,hg,?_,fun i b hb=>by simp [ak] at hb,fun i j bi bj k hij hb=>by simp [ak] at hb⟩,fun i _=>rfl⟩
  intro t v ht
  rw [rM] at ht
  simp only [Nat.zero_le,if_true,Nat.sub_zero] at ht
  obtain ⟨u,hu,hr⟩:=rm hus ht
  have hlt:t<us.length:=(List.getElem?_eq_some_iff.1 hu).1
  have:(us.toArray++Array.replicate (n - us.toArray.size) undef).getD t undef=u:=by
   have he:us[t]=u:=by simpa [List.getElem?_eq_getElem hlt] using hu
   simp [Array.getD_eq_getD_getElem?,Array.getElem?_append,hlt,he]
  rw [this];exact hr
 refine rI hE hmo code none _ c _ _ hsl.1.1 (.inl ⟨rfl,rfl⟩) ?_ c ro0 _ _ _ [] hS hfr trivial hall
 rintro e a w ⟨c',ρ',S',F',ds,rfl,hS,hf',hd,hk⟩
 cases e with
 | ret=>
  simp only [mZ] at hk
  split at hk
  ·rename_i vs hvs
   show LeavesInM _ _ _ _ _ _ a.defers .returning c'.w
   rw [hf'.df]
   refine oU hS hd fun c2 hS2=> ?_
   obtain ⟨u,hu,hr⟩:=rL hE hS2.1 hf' rfl hvs
   obtain ⟨c1,ρ1,e1,hle,hr1,hH⟩:=hk c c2 ρ' F' u hY hS2 hr
   exact ⟨u,hu,u,c1,ρ1,rfl,e1,hle,hr1,hH⟩
  ·exact hk.elim
 | _=>exact hk.elim
end
end Go.Proofs.YtgealhhkngbkbaaGreatDoor
namespace Go.Proofs.YtgealhhkngbkbaaGreatDoor
open Go.RowKit
def mtZ:Option Bool→Option Bool→Prop
 | _,none=>True
 | some a,some b=>a=b
 | none,some _=>False
def leV (a b:V):Prop:= ∀ρ c v,rd ρ c a v→rd ρ c b v
mutual
def mt:V→V→Prop
 | .int k n,.int k' n'=>k=k'∧n=n'
 | .bool a,.bool b=>a=b
 | .ifc a,.ifc b=>a=b
 | .str a,.str b=>a=b
 | .agg l,.agg m=>mtL l m
 | .sl z n g l,.sl z' n' g' m=>mtZ z z'∧((l=[]∧m=[])∨(n=n'∧g=g'∧mtL l m))
 | .pp n g d,.pp n' g' d'=>n=n'∧g=g'∧mt d d'
 | .own i,.own j=>i=j
 | .ptr i o,.ptr j p=>i=j∧o=p
 | .optr i m k o,.optr i' m' k' o'=>i=i'∧m=m'∧k=k'∧o=o'
 | .osub i m k o,.osub i' m' k' o'=>i=i'∧m=m'∧k=k'∧o=o'
 | .tup l,.tup m=>mtL l m
 | .fn f l,.fn f' m=>f=f'∧mtL l m
 | a,.opq p=>leV a (.opq p)
 | _,.un=>True
 | _,_=>False
def mtL:List V→List V→Prop
 | [],[]=>True
 | a::l,b::m=>mt a b∧mtL l m
 | _,_=>False
end
theorem lz {z z':Option Bool} {a:Option Addr} {cap:Nat} (h:mtZ z z') (k:zOk z a cap):zOk z' a cap:=by
 cases z' with
 | none=>exact qD k
 | some b=>
  cases z with
  | none=>exact h.elim
  | some b'=>
   have e:b'=b:=h
   subst e;exact k
theorem ka: ∀{l m:List V},mtL l m→l.length=m.length
 | [],[],_=>rfl
 | a::l,b::m,h=>by simp only [mtL] at h;simp [ka h.2]
 | [],_::_,h=>by simp [mtL] at h
 | _::_,[],h=>by simp [mtL] at h
mutual
theorem eG {ρ:Ro} {c:Cx}: ∀{a b:V} {v:Value},mt a b→rd ρ c a v→rd ρ c b v
 | .int k n,b,v,h,hr=>by
  cases b<;>simp only [mt] at h<;>try exact h.elim
  ·obtain ⟨rfl,rfl⟩:=h;exact hr
  ·exact h _ _ _ hr
  ·trivial
 | .bool a,b,v,h,hr=>by
  cases b<;>simp only [mt] at h<;>try exact h.elim
  ·subst h;exact hr
  ·exact h _ _ _ hr
  ·trivial
 | .ifc a,b,v,h,hr=>by
  cases b<;>simp only [mt] at h<;>try exact h.elim
  ·subst h;exact hr
  ·exact h _ _ _ hr
  ·trivial
 | .str a,b,v,h,hr=>by
  cases b<;>simp only [mt] at h<;>try exact h.elim
  ·subst h;exact hr
  ·exact h _ _ _ hr
  ·trivial
 | .agg l,b,v,h,hr=>by
  cases b<;>simp only [mt] at h<;>try exact h.elim
  ·simp only [rd] at hr⊢
   obtain ⟨cs,e,hr⟩:=hr
   exact ⟨cs,e,zL h hr⟩
  ·exact h _ _ _ hr
  ·trivial
 | .sl z n g l,b,v,h,hr=>by
  cases b<;>simp only [mt] at h<;>try exact h.elim
  ·rename_i z' n' g' m
   obtain ⟨hz,h⟩:=h
   simp only [rd] at hr⊢
   obtain ⟨a,cap,e,hl,hz',hr⟩:=hr
   rcases h with ⟨rfl,rfl⟩|⟨rfl,rfl,hm⟩
   ·exact ⟨a,cap,e,hl,lz hz hz',.inl rfl⟩
   ·have hlen:=ka hm
    rw [hlen] at hl e
    refine ⟨a,cap,e,hl,lz hz hz',?_⟩
    rcases hr with h|⟨b,o,cs,e,h1,h2,h3,h4⟩
    ·subst h
     exact .inl (List.eq_nil_of_length_eq_zero hlen.symm)
    ·exact .inr ⟨b,o,cs,e,h1,h2,h3,rN hm h4⟩
  ·exact h _ _ _ hr
  ·trivial
 | .pp n g d,b,v,h,hr=>by
  cases b<;>simp only [mt] at h<;>try exact h.elim
  ·obtain ⟨rfl,rfl,hm⟩:=h
   simp only [rd] at hr⊢
   obtain ⟨b,o,cs,e,h1,h2,h3,h4,h5⟩:=hr
   exact ⟨b,o,cs,e,h1,h2,h3,h4,eG hm h5⟩
  ·exact h _ _ _ hr
  ·trivial
 | .own i,b,v,h,hr=>by
  cases b<;>simp only [mt] at h<;>try exact h.elim
  ·subst h;exact hr
  ·exact h _ _ _ hr
  ·trivial
 | .ptr i o,b,v,h,hr=>by
  cases b<;>simp only [mt] at h<;>try exact h.elim
  ·obtain ⟨rfl,rfl⟩:=h;exact hr
  ·exact h _ _ _ hr
  ·trivial
 | .optr i m k o,b,v,h,hr=>by
  cases b<;>simp only [mt] at h<;>try exact h.elim
  ·obtain ⟨rfl,rfl,rfl,rfl⟩:=h;exact hr
  ·exact h _ _ _ hr
  ·trivial
 | .osub i m k o,b,v,h,hr=>by
  cases b<;>simp only [mt] at h<;>try exact h.elim
  ·obtain ⟨rfl,rfl,rfl,rfl⟩:=h;exact hr
  ·exact h _ _ _ hr
  ·trivial
 | .tup l,b,v,h,hr=>by
  cases b<;>simp only [mt] at h<;>try exact h.elim
  ·simp only [rd] at hr⊢
   obtain ⟨cs,e,hr⟩:=hr
   exact ⟨cs,e,ip h hr⟩
  ·exact h _ _ _ hr
  ·trivial
 | .fn f l,b,v,h,hr=>by
  cases b<;>simp only [mt] at h<;>try exact h.elim
  ·obtain ⟨rfl,h⟩:=h
   simp only [rd] at hr⊢
   obtain ⟨cs,e,hr⟩:=hr
   exact ⟨cs,e,ip h hr⟩
  ·exact h _ _ _ hr
  ·trivial
 | .opq p,b,v,h,hr=>by
  cases b<;>simp only [mt] at h<;>try exact h.elim
  ·exact h _ _ _ hr
  ·trivial
 | .un,b,v,h,hr=>by
  cases b<;>simp only [mt] at h<;>try exact h.elim
  ·exact h _ _ _ hr
  ·trivial
theorem zL {ρ:Ro} {c:Cx}: ∀{l m:List V} {cs:List Value},mtL l m→rdC ρ c l cs→rdC ρ c m cs
 | [],[],_,_,h=>h
 | a::l,b::m,cs,hm,h=>by
  simp only [rdC,mtL] at h hm⊢
  obtain ⟨u,c2,e,h1,h2,h3⟩:=h
  exact ⟨u,c2,e,h1,eG hm.1 h2,zL hm.2 h3⟩
 | [],_::_,_,hm,_=>by simp [mtL] at hm
 | _::_,[],_,hm,_=>by simp [mtL] at hm
theorem ip {ρ:Ro} {c:Cx}: ∀{l m:List V} {cs:List Value},mtL l m→rdT ρ c l cs→rdT ρ c m cs
 | [],[],_,_,h=>h
 | a::l,b::m,cs,hm,h=>by
  simp only [rdT,mtL] at h hm⊢
  obtain ⟨u,c2,e,h2,h3⟩:=h
  exact ⟨u,c2,e,eG hm.1 h2,ip hm.2 h3⟩
 | [],_::_,_,hm,_=>by simp [mtL] at hm
 | _::_,[],_,hm,_=>by simp [mtL] at hm
theorem rN {c:Cx} {n:Nat} {g:Bool}: ∀{l m:List V} {cs:List Value},mtL l m→rdE c n g l cs→rdE c n g m cs
 | [],[],_,_,h=>h
 | a::l,b::m,cs,hm,h=>by
  simp only [rdE,mtL] at h hm⊢
  obtain ⟨c1,c2,e,⟨h1,h2⟩,h3⟩:=h
  exact ⟨c1,c2,e,⟨h1,eG hm.1 h2⟩,rN hm.2 h3⟩
 | [],_::_,_,hm,_=>by simp [mtL] at hm
 | _::_,[],_,hm,_=>by simp [mtL] at hm
end
mutual
theorem vE: ∀(a:V),mt a a
 | .int _ _=>⟨rfl,rfl⟩
 | .bool _=>rfl
 | .ifc _=>rfl
 | .str _=>rfl
 | .agg l=>by simp only [mt];exact lA l
 | .sl z n g l=>by
  simp only [mt]
  exact ⟨by rcases z with _|_<;>simp [mtZ],.inr ⟨trivial,trivial,lA l⟩⟩
 | .pp n g d=>by simp only [mt];exact ⟨trivial,trivial,vE d⟩
 | .own _=>rfl
 | .ptr _ _=>⟨rfl,rfl⟩
 | .optr _ _ _ _=>⟨rfl,rfl,rfl,rfl⟩
 | .osub _ _ _ _=>⟨rfl,rfl,rfl,rfl⟩
 | .tup l=>by simp only [mt];exact lA l
 | .fn f l=>by simp only [mt];exact ⟨trivial,lA l⟩
 | .opq p=>by simp only [mt];exact fun _ _ _ h=>h
 | .un=>trivial
theorem lA: ∀(l:List V),mtL l l
 | []=>trivial
 | a::l=>by simp only [mtL];exact ⟨vE a,lA l⟩
end
theorem lB {a:V}:mt a a=True:=eq_true (vE a)
theorem lC {l:List V}:mtL l l=True:=eq_true (lA l)
theorem G4 {a b a' b':List V} (h1:mtL a a') (h2:mtL b b'):mtL (a++b) (a'++b'):=by
 induction a generalizing a' with
 | nil=>cases a' with
  | nil=>exact h2
  | cons x l=>simp [mtL] at h1
 | cons y a ih=>cases a' with
  | nil=>simp [mtL] at h1
  | cons x l=>
   simp only [mtL] at h1
   simp only [List.cons_append,mtL]
   exact ⟨h1.1,ih h1.2⟩
theorem G5 {a b b':List V} (h:mtL (a++b) (a++b')):mtL b b':=by
 induction a with
 | nil=>exact h
 | cons x a ih=>simp only [List.cons_append,mtL] at h;exact ih h.2
theorem G6 {a b b':List V}:mtL (a++b) (a++b')=mtL b b':=propext ⟨G5,fun h=>G4 (lA a) h⟩
mutual
def ltV (n:Nat):V→Prop
 | .own i=>i<n
 | .ptr i _=>i<n
 | .optr i _ _ _=>i<n
 | .osub i _ _ _=>i<n
 | .agg l=>ltL n l
 | .tup l=>ltL n l
 | .fn _ l=>ltL n l
 | _=>True
def ltL (n:Nat):List V→Prop
 | []=>True
 | d::l=>ltV n d∧ltL n l
end
def mtO (v:V):Option V→Prop
 | some u=>mt u v
 | none=>False
def fr (F:List (Nat×V)) (n:Nat):List (Nat×V)→Prop
 | []=>True
 | (t,v)::l=>mtO v (ak F t)∧ltV n v∧fr F n l
def mtB (b:Blk):Option Blk→Prop
 | some a=>match a,b with
  | .var n g d,.var n' g' d'=>n=n'∧g=g'∧mt d d'
  | .own E n g z l,.own E' n' g' z' m=>E=E'∧n=n'∧g=g'∧mtZ z z'∧mtL l m
  | .ownI E n g z l,.ownI E' n' g' z' m=>E=E'∧n=n'∧g=g'∧mtZ z z'∧mtL l m
  | .pvar n g d,.pvar n' g' d'=>n=n'∧g=g'∧mt d d'
  | .pown n g z l,.pown n' g' z' m=>n=n'∧g=g'∧mtZ z z'∧mtL l m
  | .lent k n g d,.lent k' n' g' d'=>k=k'∧n=n'∧g=g'∧mt d d'
  | .kset g k n l,.kset g' k' n' l'=>g=g'∧k=k'∧n=n'∧l=l'
  | _,_=>False
 | none=>False
def ltB (n:Nat):Blk→Prop
 | .var _ _ d=>ltV n d
 | .lent _ _ _ d=>ltV n d
 | .ownI _ _ _ _ l=>ltL n l
 | _=>True
def ft (H:List (Nat×Blk)) (n:Nat):List (Nat×Blk)→Prop
 | []=>True
 | (i,b)::l=>mtB b (ak H i)∧i<n∧ltB n b∧ft H n l
section
variable {E:Env} {c0 c:Cx} {ρ:Ro} {S S1:St} {F:Fm}
def jc (n:Nat) (ρ:Ro):Ro:=fun i=>if i<n then ρ i else none
theorem fM {n i:Nat} (h:i<n):jc n ρ i=ρ i:=by simp [jc,h]
mutual
theorem m0 {n:Nat}: ∀{d:V} {v:Value},ltV n d→rd ρ c d v→rd (jc n ρ) c d v
 | .int _ _,_,_,h=>h
 | .bool _,_,_,h=>h
 | .ifc _,_,_,h=>h
 | .str _,_,_,h=>h
 | .agg l,v,hp,h=>by
  simp only [rd,ltV] at h hp⊢
  obtain ⟨cs,e,h⟩:=h
  exact ⟨cs,e,zM hp h⟩
 | .sl z n g l,v,_,h=>h
 | .pp n g d,v,_,h=>h
 | .own i,_,hp,h=>by
  simp only [ltV] at hp
  exact ⟨(fM hp).trans h.1,h.2⟩
 | .ptr i o,_,hp,h=>by
  simp only [ltV,rd] at hp h⊢
  obtain ⟨b,h1,h2⟩:=h
  exact ⟨b,(fM hp).trans h1,h2⟩
 | .optr i m k o,_,hp,h=>by
  simp only [ltV,rd] at hp h⊢
  obtain ⟨b,h1,h2⟩:=h
  exact ⟨b,(fM hp).trans h1,h2⟩
 | .osub i m k o,_,hp,h=>by
  simp only [ltV,rd] at hp h⊢
  obtain ⟨b,h1,h2⟩:=h
  exact ⟨b,(fM hp).trans h1,h2⟩
 | .tup l,v,hp,h=>by
  simp only [rd,ltV] at h hp⊢
  obtain ⟨cs,e,h⟩:=h
  exact ⟨cs,e,vF hp h⟩
 | .fn f l,v,hp,h=>by
  simp only [rd,ltV] at h hp⊢
  obtain ⟨cs,e,h⟩:=h
  exact ⟨cs,e,vF hp h⟩
 | .opq p,v,_,h=>h
 | .un,_,_,_=>trivial
theorem zM {n:Nat}: ∀{l:List V} {cs:List Value},ltL n l→rdC ρ c l cs→rdC (jc n ρ) c l cs
 | [],_,_,h=>h
 | d::l,cs,hp,h=>by
  simp only [rdC,ltL] at h hp⊢
  obtain ⟨u,c2,e,h1,h2,h3⟩:=h
  exact ⟨u,c2,e,h1,m0 hp.1 h2,zM hp.2 h3⟩
theorem vF {n:Nat}: ∀{l:List V} {cs:List Value},ltL n l→rdT ρ c l cs→rdT (jc n ρ) c l cs
 | [],_,_,h=>h
 | d::l,cs,hp,h=>by
  simp only [rdT,ltL] at h hp⊢
  obtain ⟨u,c2,e,h2,h3⟩:=h
  exact ⟨u,c2,e,m0 hp.1 h2,vF hp.2 h3⟩
end
theorem zO {G:List (Nat×V)} {n:Nat}: ∀{l:List (Nat×V)},fr G n l→ ∀{t:Nat} {v:V},ak l t=some v→ ∃u,ak G t=some u∧mt u v∧ltV n v
 | [],_,t,v,h=>by simp [ak] at h
 | (k,x)::l,hs,t,v,h=>by
  simp only [fr] at hs
  simp only [ak] at h
  split at h
  ·rename_i e;subst e;cases h
   obtain ⟨h1,h2,_⟩:=hs
   unfold mtO at h1
   split at h1
   ·rename_i u hu;exact ⟨u,hu,h1,h2⟩
   ·exact h1.elim
  ·exact zO hs.2.2 h
theorem rO {G:List (Nat×Blk)} {n:Nat}: ∀{l:List (Nat×Blk)},ft G n l→ ∀{i:Nat} {b:Blk},ak l i=some b→ ∃a,ak G i=some a∧mtB b (some a)∧i<n∧ltB n b
 | [],_,t,v,h=>by simp [ak] at h
 | (k,x)::l,hs,t,v,h=>by
  simp only [ft] at hs
  simp only [ak] at h
  split at h
  ·rename_i e;subst e;cases h
   obtain ⟨h1,h2,h3,_⟩:=hs
   cases hu:ak G k with
   | none=>rw [hu] at h1;exact h1.elim
   | some a=>rw [hu] at h1;exact ⟨a,rfl,h1,h2,h3⟩
  ·exact rO hs.2.2.2 h
theorem zP {n k:Nat} {g:Bool}: ∀{l m:List V} {cs:List Value},mtL l m→ltL k m→bp (rV ρ n g) c cs l→bp (rV (jc k ρ) n g) c cs m
 | [],[],cs,_,_,h=>h
 | a::l,b::m,cs,hm,hl,h=>by
  simp only [mtL,ltL,bp] at hm hl h⊢
  obtain ⟨c1,c2,e,⟨h1,h2⟩,h3⟩:=h
  exact ⟨c1,c2,e,⟨h1,m0 hl.1 (eG hm.1 h2)⟩,zP hm.2 hl.2 h3⟩
 | [],_::_,_,hm,_,_=>by simp [mtL] at hm
 | _::_,[],_,hm,_,_=>by simp [mtL] at hm
theorem zQ {n:Nat} {g:Bool} {l m:List V} {cs:List Value} (h:mtL l m) (ha:bp (rV ro0 n g) c cs l):bp (rV ro0 n g) c cs m:=fI.1 (rN h (fI.2 ha))
theorem vG {n i:Nat} {a b:Blk} (h:mtB b (some a)) (hi:i<n) (hl:ltB n b) (hb:blkOk c0 c ρ i a):blkOk c0 c (jc n ρ) i b∧aZ b=aZ a:=by
 cases a<;>cases b<;>simp only [mtB] at h<;>try exact h.elim
 ·obtain ⟨rfl,rfl,hm⟩:=h
  obtain ⟨b,h1,h2,h3,T,cs,h4,h5,h6⟩:=hb
  exact ⟨⟨b,(fM hi).trans h1,h2,h3,T,cs,h4,h5,m0 hl (eG hm h6)⟩,rfl⟩
 ·obtain ⟨rfl,rfl,rfl,hz,hm⟩:=h
  obtain ⟨v,h1,h2,h3,h4,a,cap,e,h5⟩:=hb
  have hlen:=ka hm
  refine ⟨⟨v,(fM hi).trans h1,⟨hlen▸h2.1,?_⟩,h3,h4,a,cap,hlen▸e,lz hz h5⟩,rfl⟩
  rcases h2.2 with ⟨a',e9,rfl⟩|⟨g',cp,cur,e,k1,k2,k3,k4,k5,k6⟩
  ·exact .inl ⟨a',e9,List.eq_nil_of_length_eq_zero hlen.symm⟩
  ·rw [hlen] at e k3 k6
   exact .inr ⟨g',cp,cur,e,k1,k2,k3,k4,k5,zQ hm k6⟩
 ·obtain ⟨rfl,rfl,rfl,hz,hm⟩:=h
  obtain ⟨v,h1,h2,h3,h4,a,cap,e,h5⟩:=hb
  have hlen:=ka hm
  simp only [ltB] at hl
  refine ⟨⟨v,(fM hi).trans h1,⟨hlen▸h2.1,?_⟩,h3,h4,a,cap,hlen▸e,lz hz h5⟩,rfl⟩
  rcases h2.2 with ⟨a',e9,rfl⟩|⟨g',cp,cur,e,k1,k2,k3,k4,k5,k6⟩
  ·exact .inl ⟨a',e9,List.eq_nil_of_length_eq_zero hlen.symm⟩
  ·rw [hlen] at e k3 k6
   exact .inr ⟨g',cp,cur,e,k1,k2,k3,k4,k5,zP hm hl k6⟩
 ·obtain ⟨rfl,rfl,hm⟩:=h
  obtain ⟨b,h1,b',o,cs,e,h2,h3,h4,h5,h6⟩:=hb
  exact ⟨⟨b,(fM hi).trans h1,b',o,cs,e,h2,h3,h4,h5,eG hm h6⟩,rfl⟩
 ·obtain ⟨rfl,rfl,hz,hm⟩:=h
  obtain ⟨v,h1,h2⟩:=hb
  refine ⟨⟨v,(fM hi).trans h1,eG ?_ h2⟩,rfl⟩
  simp only [mt]
  exact ⟨hz,.inr ⟨trivial,trivial,hm⟩⟩
 ·obtain ⟨rfl,rfl,rfl,hm⟩:=h
  obtain ⟨h1,h2,h3,T,cs,h4,h5,h6⟩:=hb
  exact ⟨⟨(fM hi).trans h1,h2,h3,T,cs,h4,h5,m0 hl (eG hm h6)⟩,rfl⟩
 ·obtain ⟨rfl,rfl,rfl,rfl⟩:=h
  obtain ⟨r,h1,h2⟩:=hb
  exact ⟨⟨r,(fM hi).trans h1,h2⟩,rfl⟩
theorem m4 (h1:fr S.F S1.nx S1.F) (h2:ft S.H S1.nx S1.H):cw E S S1:=by
 intro c0 c ρ F h
 refine ⟨c,jc S1.nx ρ,rfl,⟨h.1.since,h.1.gl,?_,?_,?_⟩,fun i hi=>by simp [jc,Nat.not_lt.2 hi]⟩
 ·intro t v ht
  obtain ⟨u,hu,hm,hl⟩:=zO h1 ht
  exact m0 hl (eG hm (h.1.slot t u hu))
 ·intro i b hb
  obtain ⟨a,ha,hm,hi,hl⟩:=rO h2 hb
  exact (vG hm hi hl (h.1.heap i a ha)).1
 ·intro i j bi bj k hij hbi hbj hpi hpj hk hk'
  obtain ⟨ai,hai,hmi,hi,hli⟩:=rO h2 hbi
  obtain ⟨aj,haj,hmj,hj,hlj⟩:=rO h2 hbj
  have e1:=(vG hmi hi hli (h.1.heap i ai hai)).2
  have e2:=(vG hmj hj hlj (h.1.heap j aj haj)).2
  rw [cP (fM hi)] at hk
  rw [cP (fM hj)] at hk'
  exact h.1.sep i j ai aj k hij hai haj (e1▸hpi) (e2▸hpj) hk hk'
def kb:Option Blk→V
 | some (.own _ n g z l)=> .sl z n g l
 | some (.pown n g z l)=> .sl z n g l
 | _=> .un
mutual
def jd (H:List (Nat×Blk)):V→V
 | .own i=>kb (ak H i)
 | .ptr _ _=> .un
 | .optr _ _ _ _=> .un
 | .osub _ _ _ _=> .un
 | .agg l=> .agg (iq H l)
 | .tup l=> .tup (iq H l)
 | .fn f l=> .fn f (iq H l)
 | v=>v
def iq (H:List (Nat×Blk)):List V→List V
 | []=> []
 | d::l=>jd H d::iq H l
end
def m5 (H:List (Nat×Blk)) (off:Nat):Option Blk→V
 | some (.var n g d)=>if off=0 then .pp n g (jd H d) else .un
 | some (.lent _ n g d)=>if off=0 then .pp n g (jd H d) else .un
 | some (.pvar n g d)=>if off=0 then .pp n g d else .un
 | _=> .un
mutual
def gk (H:List (Nat×Blk)):V→V
 | .own i=>kb (ak H i)
 | .ptr i o=>m5 H o (ak H i)
 | .optr _ _ _ _=> .un
 | .osub _ _ _ _=> .un
 | .agg l=> .agg (iq H l)
 | .tup l=> .tup (je H l)
 | .fn f l=> .fn f (je H l)
 | v=>v
def je (H:List (Nat×Blk)):List V→List V
 | []=> []
 | d::l=>gk H d::je H l
end
theorem vH (h:Sim E c0 c ρ S F) {k:Nat} (hk:c0.mine k):k∉(c0.base c h.since.size).X:=fun hm=>by
 obtain ⟨h1,h2⟩:=oH.1 hm
 rcases hk with hk|hk
 ·have:=c0.ok k h1;omega
 ·exact h2 hk
theorem zR (h:Sim E c0 c ρ S F) {i:Nat} {b:Blk} {v:Value} (hb:ak S.H i=some b) (hv:ρ i=some v):rd ro0 (c0.base c h.since.size) (kb (some b)) v:=by
 have hblk:=h.heap i b hb
 have hpb:=gP h
 cases b with
 | own T n g z l=>
  obtain ⟨v',h1,h2,h3,h4,a,cap,e,hz⟩:=hblk
  rw [hv] at h1;cases h1
  simp only [kb]
  refine dk.2 ⟨a,cap,e,⟨h2.1,?_⟩,hz,?_⟩
  ·rcases h2.2 with ⟨a',_,rfl⟩|⟨g',cp,cur,e2,_,_,k3,_⟩
   ·simp
   ·rw [e] at e2;cases e2;exact k3
  ·rcases h2.2 with ⟨a',_,rfl⟩|⟨g',cp,cur,e2,k1,k2,k3,k4,k5,k6⟩
   ·exact .inl rfl
   ·rw [e] at e2;cases e2
    refine .inr ⟨g',0,_,rfl,c.ok g' k1,vH h (h3 g' (by rw [e];rfl)),?_,c7 hpb k6⟩
    intro j u hj
    rw [List.getElem?_take] at hj
    split at hj
    ·simp only [Nat.zero_add]
     show (c0.base c h.since.size).w.cell? _=_
     simp only [Cx.base,World.cell?,k2]
     simpa using hj
    ·cases hj
 | pown n g z l=>
  obtain ⟨v',h1,h2⟩:=hblk
  rw [hv] at h1;cases h1
  exact bE hpb h2
 | _=>trivial
mutual
theorem rP (h:Sim E c0 c ρ S F): ∀{d:V} {v:Value},rd ρ c d v→rd ro0 (c0.base c h.since.size) (jd S.H d) v
 | .int _ _,_,hr=>hr
 | .bool _,_,hr=>hr
 | .ifc _,_,hr=>hr
 | .str _,_,hr=>hr
 | .agg l,v,hr=>by
  simp only [rd,jd] at hr⊢
  obtain ⟨cs,e,hr⟩:=hr
  exact ⟨cs,e,vI h hr⟩
 | .sl z n g l,v,hr=>bE (gP h) (show rd ro0 c (.sl z n g l) v from hr)
 | .pp n g d,v,hr=>bE (gP h) (show rd ro0 c (.pp n g d) v from hr)
 | .own i,v,hr=>by
  simp only [rd] at hr
  simp only [jd]
  cases hb:ak S.H i with
  | none=>trivial
  | some b=>exact zR h hb hr.1
 | .ptr _ _,_,_=>trivial
 | .optr _ _ _ _,_,_=>trivial
 | .osub _ _ _ _,_,_=>trivial
 | .tup l,v,hr=>by
  simp only [rd,jd] at hr⊢
  obtain ⟨cs,e,hr⟩:=hr
  exact ⟨cs,e,vJ h hr⟩
 | .fn f l,v,hr=>by
  simp only [rd,jd] at hr⊢
  obtain ⟨cs,e,hr⟩:=hr
  exact ⟨cs,e,vJ h hr⟩
 | .opq p,v,hr=>bE (gP h) (show rd ro0 c (.opq p) v from hr)
 | .un,_,_=>trivial
theorem vI (h:Sim E c0 c ρ S F): ∀{l:List V} {cs:List Value},rdC ρ c l cs→rdC ro0 (c0.base c h.since.size) (iq S.H l) cs
 | [],_,hr=>hr
 | d::l,cs,hr=>by
  simp only [rdC,iq] at hr⊢
  obtain ⟨u,c2,e,h1,h2,h3⟩:=hr
  exact ⟨u,c2,e,h1,rP h h2,vI h h3⟩
theorem vJ (h:Sim E c0 c ρ S F): ∀{l:List V} {cs:List Value},rdT ρ c l cs→rdT ro0 (c0.base c h.since.size) (iq S.H l) cs
 | [],_,hr=>hr
 | d::l,cs,hr=>by
  simp only [rdT,iq] at hr⊢
  obtain ⟨u,c2,e,h2,h3⟩:=hr
  exact ⟨u,c2,e,rP h h2,vJ h h3⟩
end
theorem G7 (h:Sim E c0 c ρ S F) {i off:Nat} {b:Blk} {v:Value} (hb:ak S.H i=some b) (hv:rd ρ c (.ptr i off) v):rd ro0 (c0.base c h.since.size) (m5 S.H off (some b)) v:=by
 have hblk:=h.heap i b hb
 have hpb:=gP h
 simp only [rd] at hv
 obtain ⟨b0,hv,rfl⟩:=hv
 cases b with
 | var n g d=>
  obtain ⟨b',h1,h2,h3,T,cs,h4,h5,h6⟩:=hblk
  rw [hv] at h1;cases h1
  simp only [m5]
  split
  ·rename_i e;subst e
   simp only [rd]
   refine ⟨b0,0,cs.toList,rfl,c.ok b0 h3,vH h h2,?_,h5,rP h h6⟩
   intro j u hj
   show c.w.cell? _=_
   simp only [Nat.zero_add,World.cell?,h4]
   simpa using hj
  ·trivial
 | pvar n g d=>
  obtain ⟨b',h1,h2⟩:=hblk
  rw [hv] at h1;cases h1
  simp only [m5]
  split
  ·rename_i e;subst e
   exact bE hpb (gK.2 h2)
  ·trivial
 | lent k' n g d=>
  obtain ⟨h1,h2,h3,T,cs,h4,h5,h6⟩:=hblk
  rw [hv] at h1;cases h1
  simp only [m5]
  split
  ·rename_i e;subst e
   simp only [rd]
   refine ⟨b0,0,cs.toList,rfl,c.ok b0 h3,vH h h2,?_,h5,rP h h6⟩
   intro j u hj
   show c.w.cell? _=_
   simp only [Nat.zero_add,World.cell?,h4]
   simpa using hj
  ·trivial
 | _=>trivial
mutual
theorem zS (h:Sim E c0 c ρ S F): ∀{d:V} {v:Value},rd ρ c d v→rd ro0 (c0.base c h.since.size) (gk S.H d) v
 | .int _ _,_,hr=>hr
 | .bool _,_,hr=>hr
 | .ifc _,_,hr=>hr
 | .str _,_,hr=>hr
 | .agg l,v,hr=>by
  simp only [rd,gk] at hr⊢
  obtain ⟨cs,e,hr⟩:=hr
  exact ⟨cs,e,vI h hr⟩
 | .sl z n g l,v,hr=>bE (gP h) (show rd ro0 c (.sl z n g l) v from hr)
 | .pp n g d,v,hr=>bE (gP h) (show rd ro0 c (.pp n g d) v from hr)
 | .own i,v,hr=>by
  simp only [rd] at hr
  simp only [gk]
  cases hb:ak S.H i with
  | none=>trivial
  | some b=>exact zR h hb hr.1
 | .ptr i o,v,hr=>by
  simp only [gk]
  cases hb:ak S.H i with
  | none=>trivial
  | some b=>exact G7 h hb hr
 | .optr _ _ _ _,_,_=>trivial
 | .osub _ _ _ _,_,_=>trivial
 | .tup l,v,hr=>by
  simp only [rd,gk] at hr⊢
  obtain ⟨cs,e,hr⟩:=hr
  exact ⟨cs,e,rQ h hr⟩
 | .fn f l,v,hr=>by
  simp only [rd,gk] at hr⊢
  obtain ⟨cs,e,hr⟩:=hr
  exact ⟨cs,e,rQ h hr⟩
 | .opq p,v,hr=>bE (gP h) (show rd ro0 c (.opq p) v from hr)
 | .un,_,_=>trivial
theorem rQ (h:Sim E c0 c ρ S F): ∀{l:List V} {cs:List Value},rdT ρ c l cs→rdT ro0 (c0.base c h.since.size) (je S.H l) cs
 | [],_,hr=>hr
 | d::l,cs,hr=>by
  simp only [rdT,je] at hr⊢
  obtain ⟨u,c2,e,h2,h3⟩:=hr
  exact ⟨u,c2,e,zS h h2,rQ h h3⟩
end
theorem G8 {vs ws:List V} (hp:dI vs) (hm:mtL vs ws):oI E S vs S ws:=
 fun _ c ρ _ _ h hr=>⟨c,ρ,rfl,Cx.pub.refl _,h,ip hm (lv hp hr)⟩
theorem zT {vs ws:List V} (hm:mtL (je S.H vs) ws):rt E S vs ws:=
 fun _ _ _ _ _ h hr=>ip hm (rQ h hr)
theorem zU {vs ws:List V} (hp:dI vs) (hm:mtL vs ws): ∀(c:Cx) (ρ:Ro) (us:List Value),rdT ρ c vs us→rdT ro0 c ws us:=
 fun _ _ _ hr=>ip hm (lv hp hr)
theorem G9 {v r:V} (hm:mt (gk S.H v) r):rK E S v r []:=by
 intro c0 c ρ F u hY h hr
 refine ⟨c0.base c h.1.since.size,ro0,rfl,?_,eG hm (zS h.1 hr),HOk.nil⟩
 refine (Cx.leY.le ⟨h.1.since.below,fun k hk hy=> ?_⟩ hY)
 rw [oH]
 exact ⟨fun h=>h.1,fun h=>⟨h,hy⟩⟩
end
end Go.Proofs.YtgealhhkngbkbaaGreatDoor
