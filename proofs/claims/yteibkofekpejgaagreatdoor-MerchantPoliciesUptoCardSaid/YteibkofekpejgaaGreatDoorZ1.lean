/- Texts of this proof, one after the other: B1, B2, B3, B4, B5, B6, B7, B8, B9, B10, B11, B12, V1. -/
import Derived.Orders
import Derived.Below
import Derived.WalkKit
import Derived.OrdersIn
import Derived.ControlIn
import Derived.RangeFuncRecord
import Derived.RangeFuncWrites
import Derived.Laws.CopyRow
set_option linter.unusedVariables false
set_option linter.unusedSimpArgs false
namespace Go.Proofs.YteibkofekpejgaaGreatDoor
open Go.RowKit
abbrev Fm:=Nat→Value
def ev (F:Fm):Operand→Value
 | .tmp t=>F t
 | .const v=>v
 | .global g=> .pointer (some ⟨g,0,none⟩)
 | .func f=> .func (.func f) #[] #[]
class Mo where
 D:List Deferred
 r:Option Nat
 
 hi:Nat→Value
abbrev kO:Mo:=⟨[],none,fun _=>undef⟩
abbrev Mo.fe (mo:Mo):Fence:={Fence.wide with round:=mo.r}
theorem E8 [mo:Mo] {n:Nat} {P:Program} {f:FuncId} {args:Array Value} {w:World} {R:Ending→World→Prop} (h:Calls P f args w R):CallsIn mo.fe n P f args w R:=
 (callsIn_wide.2 h:CallsIn Fence.wide n P f args w R)
abbrev wq [mo:Mo] (P:Program) (c:Code) (Q:Exit→Act→World→Prop) (a:Act) (w:World):Prop:=c.wpIn mo.fe 1 P Q a w
abbrev cO [mo:Mo] (P:Program) (ops:Array Oper) (Q:Exit→Act→World→Prop):List Nat→Act→World→Prop:=wpOpsIn mo.fe 1 P ops Q
abbrev oy [mo:Mo] (P:Program) (md:Region.Mode) (ops:Array Oper) (Q:Exit→Act→World→Prop):Nat→Array Bool→Act→World→Prop:=wpAnyIn mo.fe 1 P md ops Q
abbrev uU [mo:Mo] (P:Program) (ops:Array Oper) (Q:Exit→Act→World→Prop) (i:Nat) (K:Act→World→Prop):Act→World→Prop:=wpOpIn mo.fe 1 P ops Q i K
theorem zW [mo:Mo] {P:Program} {ops:Array Oper} {Q:Exit→Act→World→Prop} (i:Nat) (rest:List Nat) (a:Act) (w:World):cO P ops Q (i::rest) a w=uU P ops Q i (cO P ops Q rest) a w:=wpOpsIn_cons i rest a w
theorem uV {P:Program} {c:Code} {Q:Exit→Act→World→Prop} {a:Act} {w:World}:wq (mo:=kO) P c Q a w↔c.wp P Q a w:=wpIn_wide
structure Fr [mo:Mo] (n:Nat) (F:Fm) (a:Act):Prop where
 size:a.tmps.size=n
 defers:a.defers=mo.D
 slot: ∀t,t<n→a.tmps.getD t undef=F t
 high: ∀t,n≤t→F t=mo.hi t
theorem Fr.of {D:List Deferred} {r:Option Nat} {n:Nat} {F:Fm} {a:Act} (h1:a.tmps.size=n) (h2:a.defers=D) (h3: ∀t,a.tmps.getD t undef=F t):Fr (mo:=⟨D,r,fun _=>undef⟩) n F a:=
 @Fr.mk ⟨D,r,fun _=>undef⟩ n F a h1 h2 (fun t _=>h3 t) (fun t ht=>by rw [←h3 t,Array.getD_eq_getD_getElem?,Array.getElem?_eq_none (by omega)];rfl)
theorem Fr.sz {mo:Mo} {n:Nat} {F:Fm} {a:Act} (h: @Fr mo n F a):a.tmps.size=n:= @Fr.size mo _ _ _ h
theorem Fr.df {mo:Mo} {n:Nat} {F:Fm} {a:Act} (h: @Fr mo n F a):a.defers=mo.D:= @Fr.defers mo _ _ _ h
theorem Fr.sl {mo:Mo} {n:Nat} {F:Fm} {a:Act} (h: @Fr mo n F a): ∀t,t<n→a.tmps.getD t undef=F t:= @Fr.slot mo _ _ _ h
theorem Fr.hg {mo:Mo} {n:Nat} {F:Fm} {a:Act} (h: @Fr mo n F a): ∀t,n≤t→F t=mo.hi t:= @Fr.high mo _ _ _ h
theorem Fr.full {mo:Mo} {n:Nat} {F:Fm} {a:Act} (h: @Fr mo n F a) (h0:mo.hi=fun _=>undef) (t:Nat):a.tmps.getD t undef=F t:=by
 by_cases ht:t<n
 ·exact h.sl t ht
 ·rw [h.hg t (by omega),h0,Array.getD_eq_getD_getElem?,Array.getElem?_eq_none (by rw [h.sz];omega)];rfl
def inB (n:Nat):Operand→Bool
 | .tmp t=>decide (t<n)
 | _=>true
theorem Fr.eval {mo:Mo} {n:Nat} {F:Fm} {a:Act} (h: @Fr mo n F a) {x:Operand} (hx:inB n x=true):a.eval x=ev F x:=by
 cases x with
 | tmp t=>exact h.sl t (by simpa [inB] using hx)
 | const v=>rfl
 | global g=>rfl
 | func f=>rfl
def upd (F:Fm) (d:Nat) (v:Value):Fm:=fun t=>if t=d then v else F t
theorem uW (F:Fm) (d:Nat) (v:Value):upd F d v d=v:=by simp [upd]
theorem oz (F:Fm) {d t:Nat} (v:Value) (h:t≠d):upd F d v t=F t:=by simp [upd,h]
def bK (F:Fm):Option Nat→Value→Fm
 | some d,v=>upd F d v
 | none,_=>F
theorem Fr.put [mo:Mo] {n:Nat} {F:Fm} {a:Act} (h:Fr n F a) (d:Option Nat) (v:Value) (hd: ∀t,d=some t→t<n):Fr n (bK F d v) (a.put d v):=by
 cases d with
 | none=>exact ⟨h.size,h.defers,h.slot,h.high⟩
 | some d=>
  have hlt:d<n:=hd d rfl
  refine ⟨by simpa [Act.put] using h.size,h.defers,fun t ht=> ?_,fun t ht=> ?_⟩
  ·have hs:=h.slot t ht
   have hn:=h.size
   simp only [Act.put,bK,upd]
   by_cases e:t=d
   ·subst e
    simp [Array.getD_eq_getD_getElem?,hn,hlt]
   ·rw [if_neg e,←hs]
    simp [Array.getD_eq_getD_getElem?,Ne.symm e]
  ·rw [show bK F (some d) v t=F t from oz F v (by omega)];exact h.high t ht
structure Cx where
 X:List Nat
 w:World
 ok: ∀k,k∈X→k<w.heap.size
 
 Y:List Nat:=[]
def Cx.mine (c0:Cx) (k:Nat):Prop:=c0.w.heap.size≤k∨k∈c0.Y
structure gT (Y:List Nat) (B:Nat) (w w':World):Prop where
 os:w'.os=w.os
 tape:w'.tape=w.tape
 output:w'.output=w.output
 size:w.heap.size≤w'.heap.size
 block: ∀k,k<B→k∉Y→w'.heap[k]? =w.heap[k]?
theorem gT.refl (Y:List Nat) (B:Nat) (w:World):gT Y B w w:=⟨rfl,rfl,rfl,Nat.le_refl _,fun _ _ _=>rfl⟩
theorem gT.step {Y:List Nat} {B B':Nat} {a b c:World} (h:gT Y B a b) (k:Below B' b c) (hB:B≤B'):gT Y B a c:=
 ⟨k.os.trans h.os,k.tape.trans h.tape,k.output.trans h.output,Nat.le_trans h.size k.size,fun i hi hy=>(k.block i (Nat.lt_of_lt_of_le hi hB)).trans (h.block i hi hy)⟩
theorem gT.below {B:Nat} {w w':World} (h:gT [] B w w'):Below B w w':=⟨h.os,h.tape,h.output,h.size,fun k hk=>h.block k hk (by simp)⟩
structure Cx.le (c c':Cx):Prop where
 below:Below c.w.heap.size c.w c'.w
 old: ∀k,k<c.w.heap.size→(k∈c'.X↔k∈c.X)
theorem Cx.le.refl (c:Cx):c.le c:=⟨Below.refl _ _,fun _ _=>Iff.rfl⟩
theorem Cx.le.trans {a b c:Cx} (h:a.le b) (k:b.le c):a.le c:=
 ⟨h.below.trans (k.below.mono h.below.size),fun i hi=>(k.old i (Nat.lt_of_lt_of_le hi h.below.size)).trans (h.old i hi)⟩
theorem Cx.le.size {c c':Cx} (h:c.le c'):c.w.heap.size≤c'.w.heap.size:=h.below.size
structure Cx.leY (c c':Cx):Prop where
 below:gT c.Y c.w.heap.size c.w c'.w
 old: ∀k,k<c.w.heap.size→k∉c.Y→(k∈c'.X↔k∈c.X)
def Cx.noY (c:Cx):Cx:=⟨c.X,c.w,c.ok,[]⟩
theorem Cx.noY_mine {c:Cx} {k:Nat} (h:c.noY.mine k):c.w.heap.size≤k:=by
 rcases h with h|h
 ·exact h
 ·exact absurd h (by simp [Cx.noY])
theorem Cx.mine_of {c:Cx} {k:Nat} (hY:c.Y=[]) (h:c.mine k):c.w.heap.size≤k:=by
 rcases h with h|h
 ·exact h
 ·rw [hY] at h;cases h
theorem Cx.leY.le {c c':Cx} (h:c.leY c') (hY:c.Y=[]):c.le c':=by
 obtain ⟨h1,h2⟩:=h
 rw [hY] at h1 h2
 exact ⟨h1.below,fun k hk=>h2 k hk (by simp)⟩
structure Cx.pub (c c':Cx):Prop where
 size:c.w.heap.size≤c'.w.heap.size
 keep: ∀k,k<c.w.heap.size→k∉c.X→k∉c'.X∧ ∀o,c.w.heap[k]? =some o→o.isCells=true→c'.w.heap[k]? =some o
theorem Cx.pub.refl (c:Cx):c.pub c:=⟨Nat.le_refl _,fun _ _ h=>⟨h,fun _ h _=>h⟩⟩
theorem Cx.pub_noY (c:Cx):c.pub c.noY:=⟨Nat.le_refl _,fun _ _ h=>⟨h,fun _ h _=>h⟩⟩
theorem Cx.pub.trans {a b c:Cx} (h:a.pub b) (k:b.pub c):a.pub c:=
 ⟨Nat.le_trans h.size k.size,fun i hi hx=>by
  obtain ⟨h1,h2⟩:=h.keep i hi hx
  obtain ⟨h3,h4⟩:=k.keep i (Nat.lt_of_lt_of_le hi h.size) h1
  exact ⟨h3,fun o ho hc=>h4 o (h2 o ho hc) hc⟩⟩
theorem Cx.le.pub {c c':Cx} (h:c.le c'):c.pub c':=
 ⟨h.size,fun k hk hx=>⟨fun h'=>hx ((h.old k hk).1 h'),fun o ho _=>(h.below.block k hk).trans ho⟩⟩
def Cx.at (c:Cx) (w':World) (h:c.w.heap.size≤w'.heap.size):Cx:={X:=c.X,w:=w',ok:=fun k hk=>Nat.lt_of_lt_of_le (c.ok k hk) h}
theorem Cx.le_at {c:Cx} {w':World} (h:Below c.w.heap.size c.w w'):c.le (c.at w' h.size):=⟨h,fun _ _=>Iff.rfl⟩
def Cx.new (c:Cx) (o:Obj):Cx:={X:=c.w.heap.size::c.X,w:=c.w.alloc o,ok:=fun k hk=>(by
 rcases List.mem_cons.1 hk with rfl|h
 ·simp
 ·have:=c.ok k h;simp;omega)}
theorem Cx.le_new (c:Cx) (o:Obj):c.le (c.new o):=
 ⟨(Below.refl _ _).alloc (Nat.le_refl _) _,fun k hk=>by simp [Cx.new,Nat.ne_of_lt hk]⟩
def aE (P:Program) (K:Value→World→Prop):Result Next→Prop
 | .ok (.value v) w'=>K v w'
 | .ok .skip w'=>K undef w'
 | .ok (.enter f args) w'=>Calls P f args w' fun e w''=> ∃v,e= .returned v∧K v w''
 | _=>False
theorem aE.mono {P:Program} {K K':Value→World→Prop} (h: ∀v w,K v w→K' v w) {r:Result Next} (hr:aE P K r):aE P K' r:=by
 cases r with
 | halt x w=>exact hr
 | ok n w=>
  cases n<;>first
   | exact h _ _ hr
   | exact Calls.mono hr (fun e w'' ⟨v,he,hk⟩=>⟨v,he,h _ _ hk⟩)
   | exact hr
abbrev run (P:Program) (F:Fm) (o:Oper) (w:World):Result Next:=(execOp (ev F) o).run P w
def dF (ops:Array Oper) (F:Fm) (o:Oper):Bool:=
 match o.guard with
 | none=>true
 | some (j,want)=>match (ops[j]?).bind (·.dst) with
  | some d=>(match F d with| .bool b=>b==want|_=>false)
  | none=>false
theorem E9 [mo:Mo] {n:Nat} {ops:Array Oper} {F:Fm} {a:Act} (hf:Fr n F a) (o:Oper) (hg: ∀j b,o.guard=some (j,b)→ ∀d,(ops[j]?).bind (·.dst)=some d→d<n):
  Region.wanted o (yielded ops a.tmps)=dF ops F o:=by
 unfold Region.wanted dF
 cases hgd:o.guard with
 | none=>rfl
 | some p=>
  obtain ⟨j,want⟩:=p
  simp only
  unfold yielded
  cases hd:(ops[j]?).bind (·.dst) with
  | none=>simp
  | some d=>
   have hlt:=hg j want hgd d hd
   have hs:=hf.slot d hlt
   have hz:d<a.tmps.size:=by rw [hf.size];exact hlt
   have:a.tmps[d]? =some (F d):=by
    rw [←hs,Array.getD_eq_getD_getElem?,Array.getElem?_eq_getElem hz];rfl
   simp only [Option.bind_some,this]
   cases F d<;>simp
def mA (n:Nat) (o:Oper):Bool:=(match o.op with| .select _ _=>false|x=>x.operands.all (inB n))
def fv (n:Nat) (ops:Array Oper):Bool:=
 ops.all fun o=>(match o.dst with|some d=>decide (d<n)|none=>true)&&mA n o
theorem zX {n:Nat} {ops:Array Oper} (h:fv n ops=true) {i:Nat} {o:Oper} (ho:ops[i]? =some o): ∀d,o.dst=some d→d<n:=by
 intro d hd
 obtain ⟨hi,rfl⟩:=Array.getElem?_eq_some_iff.1 ho
 have:=(Array.all_eq_true.1 h) i hi
 simp [hd] at this
 exact this.1
theorem E_ {n:Nat} {ops:Array Oper} (h:fv n ops=true) {i:Nat} {o:Oper} (ho:ops[i]? =some o):mA n o=true:=by
 obtain ⟨hi,rfl⟩:=Array.getElem?_eq_some_iff.1 ho
 have:=(Array.all_eq_true.1 h) i hi
 simp only [Bool.and_eq_true] at this
 exact this.2
theorem Fr.exec [mo:Mo] {n:Nat} {F:Fm} {a:Act} (h:Fr n F a) {o:Oper} (ho:mA n o=true):execOp a.eval o=execOp (ev F) o:=by
 refine execOp_congr o (fun cs b e=> ?_) fun x hx=>h.eval ?_
 ·simp [mA,e] at ho
 ·have:o.op.operands.all (inB n)=true:=by
   unfold mA at ho
   split at ho
   ·cases ho
   ·exact ho
  obtain ⟨i,hi,rfl⟩:=Array.mem_iff_getElem.1 hx
  exact (Array.all_eq_true.1 this) i hi
theorem Fa {n:Nat} {ops:Array Oper} (h:fv n ops=true) (o:Oper): ∀j b,o.guard=some (j,b)→ ∀d,(ops[j]?).bind (·.dst)=some d→d<n:=by
 intro j b _ d hd
 cases ho:ops[j]? with
 | none=>simp [ho] at hd
 | some o'=>simp [ho] at hd;exact zX h ho d hd
theorem Fc [mo:Mo] {P:Program} {o:Oper} {a:Act} {w:World} {K:Act→World→Prop} {Q:Exit→Act→World→Prop} {n:Nat} {F:Fm} (hf:Fr n F a) (ho:mA n o=true)
  (h:aE P (fun v w'=>K (a.put o.dst v) w') (run P F o w)):o.wpIn mo.fe 1 P a w K Q:=by
 refine ⟨fun f _=>trivial,?_⟩
 by_cases hd: ∃c,o.op= .defer c
 ·exfalso
  obtain ⟨c,hc⟩:=hd
  simp only [run,execOp,hc,Sem.run_bind] at h
  cases hr:(resolve (ev F) c o.type).run P w with
  | ok x w'=>rw [hr] at h;exact h
  | halt x w'=>rw [hr] at h;exact h
 rw [Oper.semAt_eq _ _ _ fun c hc=>hd ⟨c,hc⟩,hf.exec ho]
 unfold run at h
 generalize (execOp (ev F) o).run P w=r at*
 cases r with
 | halt x w=>exact h.elim
 | ok x w=>
  cases x<;>first
   | exact h
   | exact ⟨fun _=>Nat.le_refl 1,E8 (Calls.mono h (fun e w'' ⟨v,he,hk⟩=>by subst he;exact hk))⟩
   | exact h.elim
theorem uX [mo:Mo] {P:Program} {n:Nat} {ops:Array Oper} {Q:Exit→Act→World→Prop} {K:Act→World→Prop} {i:Nat} {a:Act} {w:World} {F:Fm} {o:Oper} (hs:fv n ops=true) (hf:Fr n F a) (ho:ops[i]? =some o)
  (h:if dF ops F o then aE P (fun v w'=> ∀a',Fr n (bK F o.dst v) a'→K a' w') (run P F o w) else (∀a',Fr n (bK F o.dst undef) a'→K a' w)):
  uU P ops Q i K a w:=by
 have hlt:=zX hs ho
 have hw:=E9 (ops:=ops) hf o (Fa hs o)
 simp only [uU,wpOpIn,ho,hw]
 split
 ·rename_i hg
  rw [if_pos hg] at h
  exact (Fc hf (E_ hs ho) (aE.mono (fun v w' hk=>hk _ (hf.put _ _ hlt)) h))
 ·rename_i hg
  rw [if_neg hg] at h
  exact ⟨fun f _=>trivial,h _ (hf.put _ _ hlt)⟩
theorem iL [mo:Mo] {P:Program} {n:Nat} {ops:Array Oper} {Q:Exit→Act→World→Prop} {i:Nat} {rest:List Nat} {a:Act} {w:World} {F:Fm} {o:Oper} (hs:fv n ops=true) (hf:Fr n F a) (ho:ops[i]? =some o)
  (h:if dF ops F o then aE P (fun v w'=> ∀a',Fr n (bK F o.dst v) a'→cO P ops Q rest a' w') (run P F o w) else (∀a',Fr n (bK F o.dst undef) a'→cO P ops Q rest a' w)):
  cO P ops Q (i::rest) a w:=by
 rw [zW]
 exact uX hs hf ho h
end Go.Proofs.YteibkofekpejgaaGreatDoor
namespace Go.Proofs.YteibkofekpejgaaGreatDoor
open Go.RowKit
structure Ph where
 p:Value→Cx→Prop
 mono: ∀{v c c'},p v c→c.le c'→p v c'
def Ph.any:Ph:=⟨fun _ _=>True,fun _ _=>trivial⟩
def Ph.eq (v0:Value):Ph:=⟨fun v _=>v=v0,fun h _=>h⟩
def dk (ops:Array Oper) (i:Nat):Option Nat:=(ops[i]?).bind (·.dst)
def gU (ops:Array Oper):Bool:=
 (List.range ops.size).all fun i=>match ops[i]? with
  | some o=>o.after.all fun e=> !Region.binds .any e||decide (e.on<i)
  | none=>true
def iM (ops:Array Oper) (need:List (List Nat)):Bool:=
 (List.range ops.size).all fun i=>match ops[i]? with
  | some o=>(need.getD i []).all fun j=>o.after.any fun e=>Region.binds .any e&&(e.on==j||(need.getD e.on []).contains j)
  | none=>true
def kP (ops:Array Oper) (m:Nat) (wr:List Nat):Bool:=
 (List.range m).all fun i=>match dk ops i with
  | some d=>wr.contains d&&(List.range i).all fun j=>dk ops j !=some d
  | none=>true
def oA (ops:Array Oper) (m:Nat) (need:List (List Nat)):Bool:=
 (List.range ops.size).all fun i=>decide (i<m)||(List.range i).all fun j=>(need.getD i []).contains j
def iN (n m:Nat) (ops:Array Oper) (wr:List Nat) (need:List (List Nat)):Bool:=
 fv n ops&&gU ops&&iM ops need&&kP ops m wr&&oA ops m need&&decide (m≤ops.size)
section
variable {ops:Array Oper} {need:List (List Nat)}
theorem mB (h:gU ops=true) {i:Nat} {o:Oper} (ho:ops[i]? =some o): ∀e∈o.after,Region.binds .any e=true→e.on<i:=by
 intro e he hb
 have hi:i<ops.size:=(Array.getElem?_eq_some_iff.1 ho).1
 have h1:=List.all_eq_true.1 h i (List.mem_range.2 hi)
 simp only [ho] at h1
 obtain ⟨k,hk,rfl⟩:=Array.mem_iff_getElem.1 he
 have:=(Array.all_eq_true.1 h1) k hk
 simpa [hb] using this
theorem Fd (h:iM ops need=true) {i:Nat} {o:Oper} (ho:ops[i]? =some o): ∀j∈need.getD i [],∃e∈o.after,Region.binds .any e=true∧(e.on=j∨j∈need.getD e.on []):=by
 intro j hj
 have hi:i<ops.size:=(Array.getElem?_eq_some_iff.1 ho).1
 have h1:=List.all_eq_true.1 h i (List.mem_range.2 hi)
 simp only [ho] at h1
 have h2:=List.all_eq_true.1 h1 j hj
 obtain ⟨k,hk,h3⟩:=Array.any_eq_true.1 h2
 simp only [Bool.and_eq_true,Bool.or_eq_true,beq_iff_eq,List.contains_iff_mem] at h3
 exact ⟨o.after[k],Array.getElem_mem hk,h3.1,h3.2⟩
theorem oB {m:Nat} {wr:List Nat} (h:kP ops m wr=true) {i:Nat} (hi:i<m) {d:Nat} (hd:dk ops i=some d):d∈wr∧ ∀j<i,dk ops j≠some d:=by
 have h1:=List.all_eq_true.1 h i (List.mem_range.2 hi)
 simp only [hd,Bool.and_eq_true,List.contains_iff_mem] at h1
 exact ⟨h1.1,fun j hj=>by simpa using List.all_eq_true.1 h1.2 j (List.mem_range.2 hj)⟩
theorem uY {m:Nat} {wr:List Nat} (h:kP ops m wr=true) {i j:Nat} (hi:i<m) (hj:j<m) (hne:i≠j) {d:Nat} (hd:dk ops i=some d):dk ops j≠some d:=by
 rcases Nat.lt_or_ge j i with h1|h1
 ·exact (oB h hi hd).2 j h1
 ·intro hj'
  exact (oB h hj hj').2 i (by omega) hd
theorem uZ {m:Nat} (h:oA ops m need=true) {i:Nat} (hi:i<ops.size) (hm:m≤i): ∀j<i,j∈need.getD i []:=by
 intro j hj
 have h1:=List.all_eq_true.1 h i (List.mem_range.2 hi)
 simp only [Bool.or_eq_true,decide_eq_true_eq] at h1
 rcases h1 with h1|h1
 ·omega
 ·simpa using List.all_eq_true.1 h1 j (List.mem_range.2 hj)
def qX (ops:Array Oper) (L:Nat→Prop):Prop:= ∀i o,L i→ops[i]? =some o→ ∀e∈o.after,Region.binds .any e=true→L e.on
theorem oC (hE:gU ops=true) (hN:iM ops need=true) {L:Nat→Prop} (hL:qX ops L):
  ∀i o,ops[i]? =some o→(∀e∈o.after,Region.binds .any e=true→L e.on)→ ∀j∈need.getD i [],L j:=by
 intro i
 induction i using Nat.strongRecOn with
 | _ i ih=>
  intro o ho ha j hj
  obtain ⟨e,he,hb,h⟩:=Fd hN ho j hj
  rcases h with rfl|h
  ·exact ha e he hb
  ·have hlt:=mB hE ho e he hb
   have hle:=ha e he hb
   cases hoe:ops[e.on]? with
   | none=>
    have hi:i<ops.size:=(Array.getElem?_eq_some_iff.1 ho).1
    have:=Array.getElem?_eq_none_iff.1 hoe
    omega
   | some oe=>exact ih e.on hlt oe hoe (fun e' he' hb'=>hL e.on oe hle hoe e' he' hb') j h
theorem zY (hE:gU ops=true) (hN:iM ops need=true) {i:Nat} {o:Oper} (ho:ops[i]? =some o): ∀j∈need.getD i [],j<i:=by
 refine oC (L:=fun j=>j<i) hE hN (fun k o' hk ho' e he hb=> ?_) i o ho (fun e he hb=>mB hE ho e he hb)
 have:=mB hE ho' e he hb
 omega
end
section
variable {P:Program} {ops:Array Oper} {Q:Exit→Act→World→Prop} {n m:Nat} {wr:List Nat} {need:List (List Nat)} {F0:Fm} {c0:Cx} {Φ:Nat→Ph}
def kQ (P:Program) (ops:Array Oper) (need:List (List Nat)) (wr:List Nat) (F0:Fm) (c0:Cx) (Φ:Nat→Ph) (i:Nat):Prop:=
 ∀o,ops[i]? =some o→ ∀F c,c0.le c→(∀j,j∈need.getD i []→ ∀d,dk ops j=some d→(Φ j).p (F d) c)→(∀t,t∉wr→F t=F0 t)→
  ∀K:Value→World→Prop,(∀v c',c.le c'→(Φ i).p v c'→K v c'.w)→if dF ops F o then aE P K (run P F o c.w) else K undef c.w
def kR (ops:Array Oper) (m:Nat) (wr:List Nat) (F0:Fm) (c0:Cx) (Φ:Nat→Ph) (L:Nat→Prop) (F:Fm) (c:Cx):Prop:=
 c0.le c∧(∀i,i<m→L i→ ∀d,dk ops i=some d→(Φ i).p (F d) c)∧(∀t,t∉wr→F t=F0 t)
theorem zZ (hW:kP ops m wr=true) (hE:gU ops=true) (hN:iM ops need=true) {L:Nat→Prop} {F:Fm} {c:Cx} (hI:kR ops m wr F0 c0 Φ L F c)
  {i:Nat} (hi:i<m) {o:Oper} (ho:ops[i]? =some o) (hL: ∀j∈need.getD i [],L j) (H:kQ P ops need wr F0 c0 Φ i)
  {K:Fm→World→Prop} (hK: ∀F' c',kR ops m wr F0 c0 Φ (fun j=>j=i∨L j) F' c'→K F' c'.w):
  if dF ops F o then aE P (fun v w'=>K (bK F o.dst v) w') (run P F o c.w) else K (bK F o.dst undef) c.w:=by
 refine H o ho F c hI.1 (fun j hj d hd=>hI.2.1 j (by have:=zY hE hN ho j hj;omega) (hL j hj) d hd) hI.2.2 (fun v w'=>K (bK F o.dst v) w') ?_
 intro v c' hle hv
 refine hK _ _ ⟨hI.1.trans hle,?_,?_⟩
 ·intro j hj hLj d hd
  by_cases hij:j=i
  ·subst hij
   have:o.dst=some d:=by simpa [dk,ho] using hd
   rw [this]
   simpa [bK,uW] using hv
  ·have hold:(Φ j).p (F d) c:=hI.2.1 j hj (hLj.resolve_left hij) d hd
   have hne:o.dst≠some d:=by
    have:=uY hW hj hi hij hd
    simpa [dk,ho] using this
   have:bK F o.dst v d=F d:=by
    cases hod:o.dst with
    | none=>rfl
    | some e=>exact oz _ _ (by rintro rfl;exact hne hod)
   rw [this]
   exact (Φ j).mono hold hle
 ·intro t ht
  have:bK F o.dst v t=F t:=by
   cases hod:o.dst with
   | none=>rfl
   | some e=>
    have:=(oB hW hi (d:=e) (by simp [dk,ho,hod])).1
    exact oz _ _ (by rintro rfl;exact ht this)
  rw [this]
  exact hI.2.2 t ht
theorem Ff [mo:Mo] (hs:fv n ops=true) (hE:gU ops=true) (hN:iM ops need=true) (hW:kP ops m wr=true) (hm:m≤ops.size)
  (H: ∀i,i<m→kQ P ops need wr F0 c0 Φ i)
  (hT: ∀F c,kR ops m wr F0 c0 Φ (fun _=>True) F c→ ∀a,Fr n F a→cO P ops Q (List.range' m (ops.size - m)) a c.w):
  ∀k r,k+r=m→ ∀F c,kR ops m wr F0 c0 Φ (fun j=>j<k) F c→ ∀a,Fr n F a→cO P ops Q (List.range' k (r+(ops.size - m))) a c.w:=by
 intro k r
 induction r generalizing k with
 | zero=>
  intro hk F c hI a hf
  obtain rfl:k=m:=by omega
  simpa using hT F c ⟨hI.1,fun i hi _ d hd=>hI.2.1 i hi hi d hd,hI.2.2⟩ a hf
 | succ r ih=>
  intro hk F c hI a hf
  have hkm:k<m:=by omega
  have hlt:k<ops.size:=by omega
  have ho:ops[k]? =some ops[k]:=Array.getElem?_eq_getElem hlt
  rw [show r+1+(ops.size - m)=(r+(ops.size - m))+1 by omega,List.range'_succ]
  refine iL hs hf ho ?_
  have hL: ∀j∈need.getD k [],j<k:=zY hE hN ho
  refine zZ hW hE hN hI hkm ho hL (H k hkm) (K:=fun F' w'=> ∀a',Fr n F' a'→cO P ops Q (List.range' (k+1) (r+(ops.size - m))) a' w') ?_
  intro F' c' hI' a' hf'
  exact ih (k+1) (by omega) F' c' ⟨hI'.1,fun i hi hik d hd=>hI'.2.1 i hi (by omega) d hd,hI'.2.2⟩ a' hf'
def bT (listed:Array Bool) (i:Nat):Prop:=listed.getD i false=true
theorem gw {listed:Array Bool} {N i:Nat} (hz:listed.size=N) (hi:i<N) (j:Nat):bT (listed.setIfInBounds i true) j↔(j=i∨bT listed j):=by
 unfold bT
 simp only [Array.getD_eq_getD_getElem?,Array.getElem?_setIfInBounds]
 by_cases h:i=j
 ·subst h;simp [hz,hi]
 ·simp [h,Ne.symm h]
theorem oD {listed:Array Bool} (hz:listed.size=ops.size) (i:Nat):i∈Region.ready .any ops listed↔i<ops.size∧ ¬bT listed i∧ ∃o,ops[i]? =some o∧ ∀e∈o.after,Region.binds .any e=true→bT listed e.on:=by
 unfold Region.ready bT
 simp only [List.mem_filter,List.mem_range,Bool.and_eq_true,Bool.not_eq_true']
 constructor
 ·rintro ⟨hi,h1,h2⟩
  have ho:ops[i]? =some ops[i]:=Array.getElem?_eq_getElem hi
  rw [ho] at h2
  simp only [Option.map_some,Option.getD_some] at h2
  refine ⟨hi,?_,ops[i],ho,fun e he hb=> ?_⟩
  ·have:i<listed.size:=by omega
   simp [Array.getD_eq_getD_getElem?,Array.getElem?_eq_getElem this] at h1⊢
   exact h1
  ·obtain ⟨k,hk,rfl⟩:=Array.mem_iff_getElem.1 he
   have:=(Array.all_eq_true.1 h2) k hk
   simpa [hb] using this
 ·rintro ⟨hi,h1,o,ho,h2⟩
  have hl:i<listed.size:=by omega
  refine ⟨hi,?_,?_⟩
  ·simp [Array.getD_eq_getD_getElem?,Array.getElem?_eq_getElem hl] at h1⊢
   exact h1
  ·rw [ho]
   simp only [Option.map_some,Option.getD_some]
   refine Array.all_eq_true.2 fun k hk=> ?_
   have:=h2 o.after[k] (Array.getElem_mem hk)
   cases hb:Region.binds .any o.after[k]
   ·simp
   ·simpa using this hb
theorem u5 {listed:Array Bool} (hE:gU ops=true) (hz:listed.size=ops.size) (h:Region.ready .any ops listed=[]): ∀i,i<ops.size→bT listed i:=by
 intro i
 induction i using Nat.strongRecOn with
 | _ i ih=>
  intro hi
  by_cases hl:bT listed i
  ·exact hl
  ·exfalso
   have ho:ops[i]? =some ops[i]:=Array.getElem?_eq_getElem hi
   have:i∈Region.ready .any ops listed:=(oD hz i).2 ⟨hi,hl,_,ho,fun e he hb=>ih e.on (mB hE ho e he hb) (by have:=mB hE ho e he hb;omega)⟩
   rw [h] at this
   simp at this
def leftOf (listed:Array Bool) (N:Nat):Nat:=(List.range N).countP fun i=> !listed.getD i false
theorem z6 (p q:Nat→Bool) (i:Nat): ∀l:List Nat,l.Nodup→i∈l→p i=true→q i=false→(∀j,j≠i→q j=p j)→l.countP p=l.countP q+1
 | [],_,h,_,_,_=>by simp at h
 | a::l,hn,hm,hp,hq,he=>by
  obtain ⟨ha,hl⟩:=List.nodup_cons.1 hn
  by_cases h:a=i
  ·subst h
   have:l.countP p=l.countP q:=List.countP_congr fun j hj=>by
    have:j≠a:=fun e=>ha (e▸hj)
    simp [he j this]
   simp [hp,hq,this]
  ·have hm':i∈l:=by
    rcases List.mem_cons.1 hm with h'|h'
    ·exact absurd h'.symm h
    ·exact h'
   have:=z6 p q i l hl hm' hp hq he
   simp only [List.countP_cons,he a h,this]
   omega
theorem z7 {listed:Array Bool} {N i:Nat} (hz:listed.size=N) (hi:i<N) (hl: ¬bT listed i):leftOf listed N=leftOf (listed.setIfInBounds i true) N+1:=by
 refine z6 _ _ i _ List.nodup_range (List.mem_range.2 hi) ?_ ?_ ?_
 ·simpa [bT] using hl
 ·have:=(gw hz hi i).2 (.inl rfl)
  simp only [bT] at this
  simp [this]
 ·intro j hj
  have:=gw hz hi j
  simp only [bT,hj,false_or] at this
  cases h1:listed.getD j false<;>cases h2:(listed.setIfInBounds i true).getD j false<;>simp_all
theorem z8 {listed:Array Bool} {N:Nat} (h:leftOf listed N=0): ∀i,i<N→bT listed i:=by
 intro i hi
 have:=List.countP_eq_zero.1 h i (List.mem_range.2 hi)
 simpa [bT] using this
theorem u6 {listed:Array Bool} (hz:listed.size=ops.size) (h: ∀i,i<ops.size→bT listed i):Region.ready .any ops listed=[]:=by
 apply List.eq_nil_iff_forall_not_mem.2
 intro i hi
 obtain ⟨h1,h2,_⟩:=(oD hz i).1 hi
 exact h2 (h i h1)
theorem Aa [mo:Mo] (hE:gU ops=true) (hN:iM ops need=true) (hT:oA ops m need=true) (hm:m≤ops.size):
  ∀r k,m≤k→k+r=ops.size→ ∀(listed:Array Bool) (a:Act) (w:World),listed.size=ops.size→(∀j,j<ops.size→(bT listed j↔j<k))→
   cO P ops Q (List.range' k r) a w→oy P .any ops Q r listed a w:=by
 intro r
 induction r with
 | zero=>
  intro k hmk hk listed a w hz hl h
  exact ⟨u6 hz fun i hi=>(hl i hi).2 (by omega),h⟩
 | succ r ih=>
  intro k hmk hk listed a w hz hl h
  have hk':k<ops.size:=by omega
  have hclosed:qX ops (bT listed):=fun i o hi ho e he hb=>by
   have h1:i<ops.size:=(Array.getElem?_eq_some_iff.1 ho).1
   have h2:=(hl i h1).1 hi
   have h3:=mB hE ho e he hb
   exact (hl _ (by omega)).2 (by omega)
  refine ⟨fun h0=> ?_,fun i hi=> ?_⟩
  ·exact absurd ((hl k hk').1 (u5 hE hz h0 k hk')) (by omega)
  ·obtain ⟨h1,h2,o,ho,h3⟩:=(oD hz i).1 hi
   have hik:i=k:=by
    have hge:k≤i:=Nat.le_of_not_lt fun hlt=>h2 ((hl i h1).2 hlt)
    rcases Nat.lt_or_ge k i with hlt|hle
    ·have:=oC hE hN hclosed i o ho h3 k (uZ hT h1 (by omega) k hlt)
     exact absurd ((hl k hk').1 this) (by omega)
    ·omega
   subst hik
   rw [List.range'_succ,zW] at h
   refine wpOpIn_mono (fun a' w' h'=> ?_) h
   refine ih (i+1) (by omega) (by omega) _ a' w' (by simpa using hz) (fun j hj=> ?_) h'
   rw [gw hz h1 j,hl j hj]
   omega
theorem Fg [mo:Mo] (hs:fv n ops=true) (hE:gU ops=true) (hN:iM ops need=true) (hW:kP ops m wr=true) (hTB:oA ops m need=true) (hm:m≤ops.size)
  (H: ∀i,i<m→kQ P ops need wr F0 c0 Φ i)
  (hT: ∀F c,kR ops m wr F0 c0 Φ (fun _=>True) F c→ ∀a,Fr n F a→cO P ops Q (List.range' m (ops.size - m)) a c.w):
  ∀fuel (listed:Array Bool),listed.size=ops.size→leftOf listed ops.size=fuel→qX ops (bT listed)→(∀j,bT listed j→j<m)→
   ∀F c,kR ops m wr F0 c0 Φ (bT listed) F c→ ∀a,Fr n F a→oy P .any ops Q fuel listed a c.w:=by
 intro fuel
 induction fuel with
 | zero=>
  intro listed hz hleft _ hlm F c hI a hf
  have hall:=z8 hleft
  have hmN:m=ops.size:=by
   rcases Nat.lt_or_ge m ops.size with h|h
   ·have:=hlm m (hall m h);omega
   ·omega
  refine ⟨u6 hz hall,?_⟩
  have:=hT F c ⟨hI.1,fun i hi _ d hd=>hI.2.1 i hi (hall i (by omega)) d hd,hI.2.2⟩ a hf
  simpa [hmN,cO,wpOpsIn] using this
 | succ fuel ih=>
  intro listed hz hleft hcl hlm F c hI a hf
  refine ⟨fun h0=> ?_,fun i hi=> ?_⟩
  ·exfalso
   have hall:=u5 hE hz h0
   have:leftOf listed ops.size=0:=List.countP_eq_zero.2 fun i hi=>by
    have:=hall i (List.mem_range.1 hi)
    simpa [bT] using this
   omega
  ·obtain ⟨h1,h2,o,ho,h3⟩:=(oD hz i).1 hi
   have hneed:=oC hE hN hcl i o ho h3
   by_cases him:i<m
   ·refine uX hs hf ho ?_
    refine zZ hW hE hN hI him ho hneed (H i him) (K:=fun F' w'=> ∀a',Fr n F' a'→oy P .any ops Q fuel (listed.setIfInBounds i true) a' w') ?_
    intro F' c' hI' a' hf'
    refine ih _ (by simpa using hz) (by have:=z7 hz h1 h2;omega) ?_ ?_ F' c' ⟨hI'.1,fun j hj hlj d hd=>hI'.2.1 j hj ((gw hz h1 j).1 hlj) d hd,hI'.2.2⟩ a' hf'
    ·intro j oj hj hoj e he hb
     rw [gw hz h1]
     rcases (gw hz h1 j).1 hj with rfl|hj
     ·rw [ho] at hoj;cases hoj;exact .inr (h3 e he hb)
     ·exact .inr (hcl j oj hj hoj e he hb)
    ·intro j hj
     rcases (gw hz h1 j).1 hj with rfl|hj
     ·exact him
     ·exact hlm j hj
   · -- the first operation behind the head
    have hall: ∀j,j<i→bT listed j:=fun j hj=>hneed j (uZ hTB h1 (by omega) j hj)
    have him':i=m:=by
     rcases Nat.lt_or_ge m i with h|h
     ·have:=hlm m (hall m h);omega
     ·omega
    have hfull:=hT F c ⟨hI.1,fun j hj _ d hd=>hI.2.1 j hj (hall j (by omega)) d hd,hI.2.2⟩ a hf
    have hleftm:fuel+1=ops.size - m:=by
     rw [←hleft]
     have hp: ∀j,j<ops.size→((!listed.getD j false)=true↔m≤j):=fun j hj=>by
      have a1:bT listed j↔j<m:=⟨hlm j,fun h=>hall j (by omega)⟩
      simp only [bT] at a1
      cases hb:listed.getD j false<;>simp [hb] at a1⊢ <;>omega
     have:leftOf listed ops.size=(List.range ops.size).countP (fun j=>decide (m≤j)):=List.countP_congr fun j hj=>by
      rw [hp j (List.mem_range.1 hj)];simp
     rw [this]
     have hsplit:List.range ops.size=List.range m++List.range' m (ops.size - m):=by
      have h:= @List.range'_append_1 0 m (ops.size - m)
      rw [Nat.zero_add,show m+(ops.size - m)=ops.size by omega] at h
      rw [List.range_eq_range',List.range_eq_range',h]
     rw [hsplit,List.countP_append]
     have z1:(List.range m).countP (fun j=>decide (m≤j))=0:=List.countP_eq_zero.2 fun j hj=>by
      have:=List.mem_range.1 hj;simp;omega
     have z2:(List.range' m (ops.size - m)).countP (fun j=>decide (m≤j))=(List.range' m (ops.size - m)).length:=List.countP_eq_length.2 fun j hj=>by
      have:=List.mem_range'_1.1 hj;simp;omega
     rw [z1,z2]
     simp
    have hany:=Aa (P:=P) (Q:=Q) hE hN hTB hm (ops.size - m) m (Nat.le_refl _) (by omega) listed a c.w hz (fun j hj=>⟨hlm j,fun h=>hall j (by omega)⟩) hfull
    rw [←hleftm] at hany
    exact hany.2 i hi
theorem Fh [mo:Mo] (hB:iN n m ops wr need=true) (hmo:P.follows .mixedOrders=true) {id:Nat} {draw:Bool} {a:Act} (hf:Fr n F0 a)
  (H: ∀i,i<m→kQ P ops need wr F0 c0 Φ i)
  (hT: ∀F c,c0.le c→(∀i,i<m→ ∀d,dk ops i=some d→(Φ i).p (F d) c)→(∀t,t∉wr→F t=F0 t)→ ∀a,Fr n F a→cO P ops Q (List.range' m (ops.size - m)) a c.w):
  wq P (Code.region id ops draw) Q a c0.w:=by
 simp only [iN,Bool.and_eq_true,decide_eq_true_eq] at hB
 obtain ⟨⟨⟨⟨⟨hs,hE⟩,hN⟩,hW⟩,hTB⟩,hm⟩:=hB
 have hT': ∀F c,kR ops m wr F0 c0 Φ (fun _=>True) F c→ ∀a,Fr n F a→cO P ops Q (List.range' m (ops.size - m)) a c.w:=
  fun F c hI a hf=>hT F c hI.1 (fun i hi d hd=>hI.2.1 i hi trivial d hd) hI.2.2 a hf
 cases draw with
 | false=>
  refine wpIn_region ?_
  have:=Ff (Q:=Q) hs hE hN hW hm H hT' 0 m (by omega) F0 c0 ⟨Cx.le.refl _,fun i _ h=>absurd h (by omega),fun _ _=>rfl⟩ a hf
  rw [show m+(ops.size - m)=ops.size by omega] at this
  rw [List.range_eq_range']
  exact this
 | true=>
  refine wpIn_region_any hmo ?_
  have hd:c0.le (c0.at c0.w.drew (Nat.le_refl _)):=⟨(Below.refl _ _).drew,fun _ _=>Iff.rfl⟩
  refine Fg (Q:=Q) hs hE hN hW hTB hm H hT' ops.size _ (by simp) ?_ ?_ ?_ F0 (c0.at c0.w.drew (Nat.le_refl _)) ⟨hd,?_,fun _ _=>rfl⟩ a hf
  ·have: ∀i,(Array.replicate ops.size false).getD i false=false:=fun i=>by
    simp only [Array.getD_eq_getD_getElem?,Array.getElem?_replicate];split<;>rfl
   simp [leftOf,this]
  ·intro i o hi
   exfalso
   simp only [bT,Array.getD_eq_getD_getElem?,Array.getElem?_replicate] at hi
   split at hi<;>simp at hi
  ·intro i hi
   exfalso
   simp only [bT,Array.getD_eq_getD_getElem?,Array.getElem?_replicate] at hi
   split at hi<;>simp at hi
  ·intro i _ hi
   exfalso
   simp only [bT,Array.getD_eq_getD_getElem?,Array.getElem?_replicate] at hi
   split at hi<;>simp at hi
end
end Go.Proofs.YteibkofekpejgaaGreatDoor
namespace Go.Proofs.YteibkofekpejgaaGreatDoor
open Go.RowKit
def mkV (agg:Bool) (cs:List Value):Value:=if agg then .agg cs.toArray else cs.headD undef
structure Rep (α:Type) where
 n:Nat
 agg:Bool
 is:Cx→List Value→α→Prop
 len: ∀{c cs d},is c cs d→cs.length=n
 mono: ∀{c c' cs d},is c cs d→c.pub c'→is c' cs d
 one:agg=false→n=1
 cell: ∀{c cs d},is c cs d→ ∀u∈cs,u.oneCell'=true
def Rep.val {α:Type} (r:Rep α) (c:Cx) (v:Value) (d:α):Prop:= ∃cs,r.is c cs d∧v=mkV r.agg cs
theorem Rep.val.mono {α:Type} {r:Rep α} {c c':Cx} {v:Value} {d:α} (h:r.val c v d) (k:c.pub c'):r.val c' v d:=
 let ⟨cs,h1,h2⟩:=h
 ⟨cs,r.mono h1 k,h2⟩
theorem Fi {α:Type} (r:Rep α) {c:Cx} {cs:List Value} {d:α} (h:r.is c cs d):(mkV r.agg cs).cells.toList=cs:=by
 unfold mkV
 cases ha:r.agg with
 | true=>simp [Value.cells]
 | false=>
  have hl:=r.len h
  rw [r.one ha] at hl
  match cs,hl with
  | [u],_=>
   have:=r.cell h u (by simp)
   cases u<;>first|rfl|simp [Value.oneCell'] at this
theorem Rep.val.cells {α:Type} {r:Rep α} {c:Cx} {v:Value} {d:α} (h:r.val c v d):r.is c v.cells.toList d:=by
 obtain ⟨cs,h1,rfl⟩:=h
 rw [Fi r h1]
 exact h1
def Ph.rep {α:Type} (r:Rep α) (d:α):Ph:=⟨fun v c=>r.val c v d,fun h k=>h.mono k.pub⟩
structure RV (α:Type) where
 p:Cx→Value→α→Prop
 mono: ∀{c c' v d},p c v d→c.pub c'→p c' v d
def Rep.rv {α:Type} (r:Rep α):RV α:=⟨r.val,fun h k=>h.mono k⟩
def Ph.rv {α:Type} (r:RV α) (d:α):Ph:=⟨fun v c=>r.p c v d,fun h k=>r.mono h k.pub⟩
def Rng (k:IntKind) (d:Int):Prop:=k.min≤d∧d≤k.max
def LEN:Nat:=1073741824
theorem fK (k:IntKind) (n:Int):Rng k (k.wrap n):=by
 cases k<;>simp [Rng,IntKind.wrap,IntKind.min,IntKind.max,IntKind.bits,IntKind.signed]<;>omega
def Ab {α β:Type} (r:Rep α) (s:Rep β):Rep (α×β) where
 n:=r.n+s.n
 agg:=true
 is c cs d:= ∃c1 c2,cs=c1++c2∧r.is c c1 d.1∧s.is c c2 d.2
 len h:=by obtain ⟨c1,c2,rfl,h1,h2⟩:=h;rw [List.length_append,r.len h1,s.len h2]
 mono h k:=by obtain ⟨c1,c2,e,h1,h2⟩:=h;exact ⟨c1,c2,e,r.mono h1 k,s.mono h2 k⟩
 one h:=by cases h
 cell h:=by
  obtain ⟨c1,c2,rfl,h1,h2⟩:=h
  intro u hu
  rcases List.mem_append.1 hu with h|h
  ·exact r.cell h1 u h
  ·exact s.cell h2 u h
def a7 {α:Type} (r:Rep α) (c:Cx):List Value→List α→Prop
 | cs,[]=>cs=[]
 | cs,d::l=> ∃c1 c2,cs=c1++c2∧r.is c c1 d∧a7 r c c2 l
theorem iO {α:Type} {r:Rep α} {c:Cx}: ∀{cs:List Value} {l:List α},a7 r c cs l→cs.length=l.length*r.n
 | _,[],h=>by rw [h];simp
 | _,d::l,⟨c1,c2,e,h1,h2⟩=>by rw [e,List.length_append,r.len h1,iO h2,List.length_cons,Nat.add_mul];omega
theorem cR {α:Type} {r:Rep α} {c c':Cx} (k:c.pub c'): ∀{cs:List Value} {l:List α},a7 r c cs l→a7 r c' cs l
 | _,[],h=>h
 | _,_::_,⟨c1,c2,e,h1,h2⟩=>⟨c1,c2,e,r.mono h1 k,cR k h2⟩
theorem oE {α:Type} {r:Rep α} {c:Cx}: ∀{cs:List Value} {l:List α},a7 r c cs l→ ∀u∈cs,u.oneCell'=true
 | _,[],h=>by rw [h];simp
 | _,_::_,⟨c1,c2,e,h1,h2⟩=>by
  subst e
  intro u hu
  rcases List.mem_append.1 hu with h|h
  ·exact r.cell h1 u h
  ·exact oE h2 u h
theorem kS {α:Type} {r:Rep α} {c:Cx}: ∀{cs ds:List Value} {l m:List α},a7 r c cs l→a7 r c ds m→a7 r c (cs++ds) (l++m)
 | _,_,[],_,h,h'=>by rw [h];simpa using h'
 | _,_,_::_,_,⟨c1,c2,e,h1,h2⟩,h'=>⟨c1,c2++_,by rw [e,List.append_assoc],h1,kS h2 h'⟩
theorem qY {α:Type} {r:Rep α} {c:Cx}: ∀{cs:List Value} {l:List α},a7 r c cs l→ ∀(i:Nat) (h:i<l.length),r.is c ((cs.drop (i*r.n)).take r.n) l[i]
 | _,d::l,⟨c1,c2,e,h1,h2⟩,0,_=>by
  subst e
  have:=r.len h1
  simp [←this]
  exact h1
 | _,d::l,⟨c1,c2,e,h1,h2⟩,i+1,h=>by
  subst e
  have hl:=r.len h1
  have:=qY h2 i (by simpa using h)
  rw [Nat.add_mul,Nat.one_mul,Nat.add_comm,←List.drop_drop,←hl,List.drop_left,hl]
  simpa using this
theorem u_ {α:Type} {r:Rep α} {c:Cx} {cx:List Value} {x:α} (hx:r.is c cx x): ∀{cs:List Value} {l:List α},a7 r c cs l→ ∀(i:Nat),i<l.length→a7 r c (cs.take (i*r.n)++cx++cs.drop (i*r.n+r.n)) (l.set i x)
 | _,d::l,⟨c1,c2,e,h1,h2⟩,0,_=>by
  subst e
  have:=r.len h1
  simp [←this]
  exact ⟨cx,c2,rfl,hx,h2⟩
 | _,d::l,⟨c1,c2,e,h1,h2⟩,i+1,h=>by
  subst e
  have hl:=r.len h1
  have:=u_ hx h2 i (by simpa using h)
  simp only [List.set_cons_succ]
  refine ⟨c1,_,?_,h1,this⟩
  rw [show (i+1)*r.n=c1.length+i*r.n by rw [hl,Nat.add_mul];omega,List.take_append,List.take_of_length_le (Nat.le_add_right _ _),Nat.add_sub_cancel_left,Nat.add_assoc,List.drop_append,List.drop_eq_nil_of_le (Nat.le_add_right _ _),Nat.add_sub_cancel_left]
  simp
def mC {α:Type} (r:Rep α) (m:Nat):Rep (List α) where
 n:=m*r.n
 agg:=true
 is c cs l:=l.length=m∧a7 r c cs l
 len h:=by rw [iO h.2,h.1]
 mono h k:=⟨h.1,cR k h.2⟩
 one h:=by cases h
 cell h:=oE h.2
def cY (w:World) (b o:Nat) (cs:List Value):Prop:= ∀j u,cs[j]? =some u→w.cell? ⟨b,o+j,none⟩=some u
theorem cY.mono {w w':World} {b o:Nat} {cs:List Value} (h:cY w b o cs) (hb:w'.heap[b]? =w.heap[b]?):cY w' b o cs:=
 fun j u hj=>(World.cell?_of_block (a:=⟨b,o+j,none⟩) hb).trans (h j u hj)
theorem cY.keep {w w':World} {b o:Nat} {cs:List Value} (h:cY w b o cs) (hb: ∀x,w.heap[b]? =some x→x.isCells=true→w'.heap[b]? =some x):cY w' b o cs:=by
 intro j u hj
 have h1:=h j u hj
 unfold World.cell? at h1⊢
 cases hx:w.heap[b]? with
 | none=>simp only [hx] at h1;cases h1
 | some x=>
  simp only [hx] at h1
  cases x with
  | cells cs T g=>rw [show w'.heap[(⟨b,o+j,none⟩:Addr).block]? =_ from hb _ hx rfl];exact h1
  | _=>cases h1
theorem cY.part {w:World} {b o:Nat} {cs:List Value} (h:cY w b o cs) (k n:Nat):cY w b (o+k) ((cs.drop k).take n):=by
 intro j u hj
 have hlt:j<n:=by
  rcases Nat.lt_or_ge j n with h|h
  ·exact h
  ·rw [List.getElem?_take,if_neg (by omega)] at hj;cases hj
 rw [List.getElem?_take_of_lt hlt,List.getElem?_drop] at hj
 rw [Nat.add_assoc]
 exact h _ u hj
def fL {α:Type} (r:Rep α) (c:Cx) (v:Value) (d:α):Prop:=
 ∃b o cs,v= .pointer (some ⟨b,o,none⟩)∧b<c.w.heap.size∧b∉c.X∧cY c.w b o cs∧r.is c cs d
def jA {α:Type} (r:Rep α):RV α:=
 ⟨fL r,fun ⟨b,o,cs,e,h1,h2,h3,h4⟩ k=>⟨b,o,cs,e,Nat.lt_of_lt_of_le h1 k.size,(k.keep b h1 h2).1,h3.keep (k.keep b h1 h2).2,r.mono h4 k⟩⟩
def kT {α:Type} (r:Rep α) (c:Cx) (a:Option Addr) (l:List α):Prop:=
 l=[]∨ ∃b o cs,a=some ⟨b,o,none⟩∧b<c.w.heap.size∧b∉c.X∧cY c.w b o cs∧a7 r c cs l
def gV {α:Type} (r:Rep α):Rep (List α) where
 n:=1
 agg:=false
 is c cs l:= ∃a cap,cs=[.slice a l.length cap]∧(l.length≤LEN∧l.length≤cap)∧kT r c a l
 len h:=by obtain ⟨a,cap,rfl,_⟩:=h;rfl
 mono h k:=by
  obtain ⟨a,cap,e,hl,h⟩:=h
  refine ⟨a,cap,e,hl,?_⟩
  rcases h with h|⟨b,o,cs,e,h1,h2,h3,h4⟩
  ·exact .inl h
  ·exact .inr ⟨b,o,cs,e,Nat.lt_of_lt_of_le h1 k.size,(k.keep b h1 h2).1,h3.keep (k.keep b h1 h2).2,cR k h4⟩
 one _:=rfl
 cell h:=by obtain ⟨a,cap,rfl,_⟩:=h;simp [Value.oneCell']
theorem fw {α:Type} {r:Rep α} {c:Cx} {v:Value} {l:List α}:(gV r).val c v l↔ ∃a cap,v= .slice a l.length cap∧(l.length≤LEN∧l.length≤cap)∧kT r c a l:=by
 constructor
 ·rintro ⟨cs,⟨a,cap,rfl,h⟩,rfl⟩;exact ⟨a,cap,rfl,h⟩
 ·rintro ⟨a,cap,rfl,h⟩;exact ⟨_,⟨a,cap,rfl,h⟩,rfl⟩
structure Sub {α β:Type} (r:Rep α) (off:Nat) (s:Rep β) (get:α→β) (set:α→β→α):Prop where
 bound:off+s.n≤r.n
 get_is: ∀{c cs d},r.is c cs d→s.is c ((cs.drop off).take s.n) (get d)
 set_is: ∀{c cs d cx x},r.is c cs d→s.is c cx x→r.is c (cs.take off++cx++cs.drop (off+s.n)) (set d x)
theorem Sub.self {α:Type} (r:Rep α):Sub r 0 r id (fun _ x=>x) where
 bound:=by simp
 get_is h:=by simpa [←r.len h] using h
 set_is h h':=by
  have:=r.len h
  simpa [←this] using h'
theorem Sub.fst {α β γ:Type} {r:Rep α} {s:Rep β} {t:Rep γ} {off:Nat} {get:α→γ} {set:α→γ→α} (h:Sub r off t get set):Sub (Ab r s) off t (fun d=>get d.1) (fun d x=>(set d.1 x,d.2)) where
 bound:=by have:=h.bound;simp [Ab];omega
 get_is:=by
  rintro c cs d ⟨c1,c2,rfl,h1,h2⟩
  have hl:=r.len h1
  have hb:=h.bound
  have:=h.get_is h1
  rw [List.drop_append,List.take_append,List.length_drop]
  have:off - c1.length=0:=by omega
  rw [this,show t.n - (c1.length - off)=0 by omega]
  simpa using h.get_is h1
 set_is:=by
  rintro c cs d cx x ⟨c1,c2,rfl,h1,h2⟩ hx
  have hl:=r.len h1
  have hb:=h.bound
  refine ⟨_,c2,?_,h.set_is h1 hx,h2⟩
  rw [List.take_append,List.drop_append,show off - c1.length=0 by omega,show off+t.n - c1.length=0 by omega]
  simp
theorem Sub.elem {α:Type} [Inhabited α] {r:Rep α} {m:Nat} (i:Nat) (hi:i<m):Sub (mC r m) (i*r.n) r (fun l=>l.getD i default) (fun l x=>l.set i x) where
 bound:=by
  have:(i+1)*r.n≤m*r.n:=Nat.mul_le_mul_right _ hi
  rw [Nat.add_mul,Nat.one_mul] at this
  exact this
 get_is:=by
  rintro c cs l ⟨hl,h⟩
  have:=qY h i (by omega)
  simpa [List.getD,List.getElem?_eq_getElem (show i<l.length by omega)] using this
 set_is:=by
  rintro c cs l cx x ⟨hl,h⟩ hx
  exact ⟨by simpa using hl,u_ hx h i (by omega)⟩
def Var {α:Type} (c:Cx) (b:Nat) (r:Rep α) (d:α):Prop:=
 b∈c.X∧ ∃T cs,c.w.heap[b]? =some (.cells cs T (0,0))∧r.is c cs.toList d
theorem Var.le {α:Type} {c c':Cx} {b:Nat} {r:Rep α} {d:α} (h:Var c b r d) (k:c.le c'):Var c' b r d:=by
 obtain ⟨hb,T,cs,hh,hi⟩:=h
 have hlt:=c.ok b hb
 exact ⟨(k.old b hlt).2 hb,T,cs,(k.below.block b hlt).trans hh,r.mono hi k.pub⟩
theorem Var.lt {α:Type} {c:Cx} {b:Nat} {r:Rep α} {d:α} (h:Var c b r d):b<c.w.heap.size:=c.ok b h.1
structure Cx.mut (b:Nat) (c c':Cx):Prop where
 X:c'.X=c.X
 os:c'.w.os=c.w.os
 tape:c'.w.tape=c.w.tape
 output:c'.w.output=c.w.output
 size:c'.w.heap.size=c.w.heap.size
 keep: ∀k,k≠b→c'.w.heap[k]? =c.w.heap[k]?
theorem Cx.mut.pub {b:Nat} {c c':Cx} (h:c.mut b c') (hb:b∈c.X):c.pub c':=
 ⟨Nat.le_of_eq h.size.symm,fun k _ hx=>⟨by rw [h.X];exact hx,fun o ho _=>(h.keep k (fun e=>hx (e▸hb))).trans ho⟩⟩
theorem Cx.mut.var {α:Type} {b b':Nat} {c c':Cx} {r:Rep α} {d:α} (h:c.mut b c') (hb:b∈c.X) (hne:b'≠b) (hv:Var c b' r d):Var c' b' r d:=by
 obtain ⟨h1,T,cs,h2,h3⟩:=hv
 exact ⟨by rw [h.X];exact h1,T,cs,(h.keep b' hne).trans h2,r.mono h3 (h.pub hb)⟩
def Fj {α:Type} (c0:Cx) (r:RV α) (d:α):Ending→World→Prop:=
 fun e w'=> ∃v,e= .returned v∧ ∃hb:Below c0.w.heap.size c0.w w',r.p (c0.at w' hb.size) v d
end Go.Proofs.YteibkofekpejgaaGreatDoor
namespace Go.Proofs.YteibkofekpejgaaGreatDoor
open Go.RowKit
section
variable {P:Program} {K:Value→World→Prop} {F:Fm} {o:Oper} {c:Cx} {w:World}
theorem yv {v:Value} {w':World} (hr:run P F o w= .ok (.value v) w') (h:K v w'):aE P K (run P F o w):=by rw [hr];exact h
theorem ys {w':World} (hr:run P F o w= .ok .skip w') (h:K undef w'):aE P K (run P F o w):=by rw [hr];exact h
theorem Ac {x:Operand} (ho:o.op= .move x) (h:K (ev F x) w):aE P K (run P F o w):=
 yv (v:=ev F x) (w':=w) (by simp [run,execOp,ho]) h
theorem Ad {x:Operand} (ho:o.op= .assign x) (h:K (ev F x) w):aE P K (run P F o w):=
 yv (v:=ev F x) (w':=w) (by simp [run,execOp,ho]) h
theorem Ae {x y z:Operand} {b:Bool} (ho:o.op= .pick x y z) (hx:ev F x= .bool b) (h:K (if b then ev F y else ev F z) w):aE P K (run P F o w):=
 yv (v:=if b then ev F y else ev F z) (w':=w) (by simp [run,execOp,ho,hx,asBool]) h
structure dG {α:Type} (P:Program) (T:TypeId) (r:Rep α):Prop where
 agg: ∀w,(isAgg T).run P w= .ok r.agg w
 size: ∀w,(sizeOf T).run P w= .ok r.n w
theorem oF {α:Type} {r:Rep α} {T:TypeId} (hT:dG P T r) {b off:Nat} {cs:List Value} {d:α} (hi:r.is c cs d) (hc:cY w b off cs):
  (loadVar T ⟨b,off,none⟩).run P w= .ok (mkV r.agg cs) w:=by
 have hl:=r.len hi
 have hadd: ∀j,(⟨b,off,none⟩:Addr).add j=⟨b,off+j,none⟩:=by
  intro j;unfold Addr.add;split<;>simp_all
 have hcs: ∀j v,cs[j]? =some v→w.cell? ((⟨b,off,none⟩:Addr).add j)=some v:=fun j v hj=>by rw [hadd];exact hc j v hj
 cases ha:r.agg with
 | true=>
  have:=run_loadCells_list (P:=P) w ⟨b,off,none⟩ cs hcs
  rw [hl] at this
  simp [loadVar,hT.agg,ha,hT.size,this,mkV]
 | false=>
  rw [r.one ha] at hl
  match cs,hl with
  | [u],_=>
   have h0:=hcs 0 u rfl
   simp [Addr.add] at h0
   simp [loadVar,hT.agg,ha,h0,mkV]
theorem va {α:Type} {r:Rep α} {T:TypeId} {x:Operand} {d:α} (ho:o.op= .load T x) (hT:dG P T r) (hx:fL r c (ev F x) d) (h: ∀v,r.val c v d→K v c.w):aE P K (run P F o c.w):=by
 obtain ⟨b,off,cs,e,h1,h2,h3,h4⟩:=hx
 refine yv (v:=mkV r.agg cs) (w':=c.w) ?_ (h _ ⟨cs,h4,rfl⟩)
 simp [run,execOp,ho,Instr.loadAt,e,Instr.sureAddr,oF hT h4 h3]
theorem Af {α β:Type} {r:Rep α} {s:Rep β} {b off:Nat} {get:α→β} {set:α→β→α} {d:α} (hv:Var c b r d) (hs:Sub r off s get set): ∃cs,cY c.w b off cs∧s.is c cs (get d):=by
 obtain ⟨hb,U,cs,hh,hi⟩:=hv
 refine ⟨_,fun j u hj=> ?_,hs.get_is hi⟩
 have h0:cY c.w b 0 cs.toList:=by
  intro j u hj
  have:cs[j]? =some u:=by simpa using hj
  simp [World.cell?,hh,this]
 have:=h0.part off s.n j u hj
 simpa using this
theorem qZ {α β:Type} {r:Rep α} {s:Rep β} {T:TypeId} {x:Operand} {b off:Nat} {get:α→β} {set:α→β→α} {d:α} (ho:o.op= .load T x) (hT:dG P T s) (hv:Var c b r d) (hs:Sub r off s get set)
  (hx:ev F x= .pointer (some ⟨b,off,none⟩)) (h: ∀v,s.val c v (get d)→K v c.w):aE P K (run P F o c.w):=by
 obtain ⟨cs,hcs,hi⟩:=Af hv hs
 refine yv (v:=mkV s.agg cs) (w':=c.w) ?_ (h _ ⟨_,hi,rfl⟩)
 simp [run,execOp,ho,Instr.loadAt,hx,Instr.sureAddr,oF hT hi hcs]
theorem Fk {α β:Type} {r:Rep α} {s:Rep β} {b off:Nat} {get:α→β} {set:α→β→α} {d:α} {x:β} {cx:List Value} (hv:Var c b r d) (hs:Sub r off s get set) (hx:s.is c cx x):
  ∃c',c.mut b c'∧Var c' b r (set d x)∧ ∀T,(∀w,(sizeOf T).run P w= .ok s.n w)→ ∀v:Value,v.cells.toList=cx→(storeVar T ⟨b,off,none⟩ v).run P c.w= .ok () c'.w:=by
 obtain ⟨hb,U,cs,hh,hi⟩:=hv
 have hl:=r.len hi
 have hlx:=s.len hx
 have hbd:=hs.bound
 have hnew:=hs.set_is hi hx
 refine ⟨⟨c.X,c.w.setRow b (cs.toList.take off++cx++cs.toList.drop (off+cx.length)).toArray,fun k hk=>(by simpa using c.ok k hk),[]⟩,⟨rfl,rfl,rfl,rfl,by simp,fun k hk=>setRow_other _ _ _ _ hk⟩,?_,?_⟩
 ·refine ⟨hb,U,_,setRow_heap c.w b cs _ U _ hh,?_⟩
  have hmut:c.pub ⟨c.X,c.w.setRow b (cs.toList.take off++cx++cs.toList.drop (off+cx.length)).toArray,fun k hk=>(by simpa using c.ok k hk),[]⟩:=
   ⟨by simp,fun k _ hk=>⟨hk,fun o ho _=>Eq.trans (setRow_other _ _ _ _ (show k≠b from fun e=>hk (e▸hb))) ho⟩⟩
  have:=r.mono hnew hmut
  rw [←hlx] at this
  simpa using this
 ·intro T hT v hvc
  have hsz:v.cells.size=s.n:=by rw [←hlx,←hvc];simp
  have hst:=run_storeCells_at P b off U cx 0 cs c.w hh (by simp at hl;omega) (s.cell hx)
  simp only [Nat.add_zero] at hst
  simp [storeVar,hT,hsz,hvc,hst]
theorem q5 {α β:Type} {r:Rep α} {s:Rep β} {T:TypeId} {x y:Operand} {b off:Nat} {get:α→β} {set:α→β→α} {d:α} {e:β} (ho:o.op= .store T x y) (hT:dG P T s) (hv:Var c b r d) (hs:Sub r off s get set)
  (hx:ev F x= .pointer (some ⟨b,off,none⟩)) (hy:s.val c (ev F y) e) (h: ∀c',c.mut b c'→Var c' b r (set d e)→K undef c'.w):aE P K (run P F o c.w):=by
 obtain ⟨c',h1,h2,h3⟩:=Fk (P:=P) hv hs hy.cells
 refine ys (w':=c'.w) ?_ (h c' h1 h2)
 simp [run,execOp,ho,Instr.storeAt,hx,Instr.sureAddr,h3 T hT.size _ rfl]
def oG (P:Program) (S:TypeId) (k off:Nat):Prop:= ∀w a,(Instr.fieldAt S (.pointer (some a)) k).run P w= .ok (.pointer (some (a.add off))) w
theorem Fl {S:TypeId} {k off:Nat} {fs:Array Field} {f:Field} {n:Nat} (hu:P.underlying S=some (.struct fs)) (hf:fs[k]? =some f) (ho:f.offset=off) (hn: ∀w,(sizeOf f.type).run P w= .ok (n+1) w):oG P S k off:=by
 intro w a
 have hru:(underlying S).run P w= .ok (.struct fs) w:=by simp [underlying,hu]
 simp [Instr.fieldAt,hru,hf,Instr.sureAddr,fieldPlace,hn,ho]
theorem Fo {α β:Type} {r:Rep α} {s:Rep β} {S:TypeId} {x:Operand} {k off:Nat} {get:α→β} {set:α→β→α} {d:α} (ho:o.op= .fieldAddr S x k) (hf:oG P S k off) (hs:Sub r off s get set)
  (hx:fL r c (ev F x) d) (h: ∀v,fL s c v (get d)→K v c.w):aE P K (run P F o c.w):=by
 obtain ⟨b,o1,cs,e,h1,h2,h3,h4⟩:=hx
 have hadd:(⟨b,o1,none⟩:Addr).add off=⟨b,o1+off,none⟩:=by unfold Addr.add;split<;>simp_all
 refine yv (v:= .pointer (some ⟨b,o1+off,none⟩)) (w':=c.w) ?_ (h _ ⟨b,o1+off,_,rfl,h1,h2,h3.part off s.n,hs.get_is h4⟩)
 simp [run,execOp,ho,e,hf c.w,hadd]
theorem Fp {S:TypeId} {x:Operand} {k off b o1:Nat} (ho:o.op= .fieldAddr S x k) (hf:oG P S k off) (hx:ev F x= .pointer (some ⟨b,o1,none⟩))
  (h:K (.pointer (some ⟨b,o1+off,none⟩)) w):aE P K (run P F o w):=by
 have hadd:(⟨b,o1,none⟩:Addr).add off=⟨b,o1+off,none⟩:=by unfold Addr.add;split<;>simp_all
 refine yv (v:= .pointer (some ⟨b,o1+off,none⟩)) (w':=w) ?_ h
 simp [run,execOp,ho,hx,hf w,hadd]
theorem Fq {α:Type} {r:Rep α} {b o1:Nat} {cs:List Value} {l:List α} (h:cY w b o1 cs) (ha:a7 r c cs l) (i:Nat) (hi:i<l.length):
  cY w b (o1+i*r.n) ((cs.drop (i*r.n)).take r.n)∧r.is c ((cs.drop (i*r.n)).take r.n) l[i]:=⟨h.part _ _,qY ha i hi⟩
theorem Ag {α:Type} [Inhabited α] {r:Rep α} {T E:TypeId} {x y:Operand} {l:List α} {i:Int} {k:IntKind} (ho:o.op= .indexAddr T x y) (hT:P.underlying T=some (.slice E)) (hE:dG P E r)
  (hx:(gV r).val c (ev F x) l) (hy:ev F y= .int k i) (hi:0≤i∧i<l.length) (h: ∀v,fL r c v (l.getD i.toNat default)→K v c.w):aE P K (run P F o c.w):=by
 obtain ⟨a,cap,e,_,hs⟩:=fw.1 hx
 have hin:i.toNat<l.length:=by omega
 rcases hs with rfl|⟨b,o1,cs,rfl,h1,h2,h3,h4⟩
 ·simp at hin
 ·have hru:(underlying T).run P c.w= .ok (.slice E) c.w:=by simp [underlying,hT]
  obtain ⟨h5,h6⟩:=Fq h3 h4 i.toNat hin
  have hadd:(⟨b,o1,none⟩:Addr).add (i.toNat*r.n)=⟨b,o1+i.toNat*r.n,none⟩:=by unfold Addr.add;split<;>simp_all
  have hg:l.getD i.toNat default=l[i.toNat]:=by simp [List.getD,List.getElem?_eq_getElem hin]
  refine yv (v:= .pointer (some ⟨b,o1+i.toNat*r.n,none⟩)) (w':=c.w) ?_ (h _ ⟨b,_,_,rfl,h1,h2,h5,hg▸h6⟩)
  simp [run,execOp,ho,Instr.indexAt,e,hy,asIntOf,hru,hi.1,hi.2,hE.size,hadd]
theorem Fs {T E:TypeId} {x y:Operand} {i:Int} {k:IntKind} {b o1 n m:Nat} (ho:o.op= .indexAddr T x y) (hT:P.underlying T=some (.array m E)) (hE: ∀w,(sizeOf E).run P w= .ok n w)
  (hx:ev F x= .pointer (some ⟨b,o1,none⟩)) (hy:ev F y= .int k i) (hi:0≤i∧i<m) (h:K (.pointer (some ⟨b,o1+i.toNat*n,none⟩)) w):aE P K (run P F o w):=by
 have hru:(underlying T).run P w= .ok (.array m E) w:=by simp [underlying,hT]
 have hadd:(⟨b,o1,none⟩:Addr).add (i.toNat*n)=⟨b,o1+i.toNat*n,none⟩:=by unfold Addr.add;split<;>simp_all
 refine yv (v:= .pointer (some ⟨b,o1+i.toNat*n,none⟩)) (w':=w) ?_ h
 simp [run,execOp,ho,Instr.indexAt,hx,hy,asIntOf,hru,Instr.sureAddr,hi.1,hi.2,hE,hadd]
theorem vc {x:Operand} {a:Addr} (ho:o.op= .nilCheck x) (hx:ev F x= .pointer (some a)) (h:K (.pointer (some a)) w):aE P K (run P F o w):=
 yv (v:= .pointer (some a)) (w':=w) (by simp [run,execOp,ho,hx]) h
theorem Ft {α:Type} {r:Rep α} {T:TypeId} {x:Operand} {d:α} (ho:o.op= .box T x) (hx:r.val c (ev F x) d)
  (h: ∀b c',c.le c'→c.w.heap.size=b→b<c'.w.heap.size→Var c' b r d→K (.pointer (some ⟨b,0,none⟩)) c'.w):aE P K (run P F o c.w):=by
 have hle:=Cx.le_new c (.cells (ev F x).cells T)
 refine yv (v:= .pointer (some ⟨c.w.heap.size,0,none⟩)) (w':=(c.new (.cells (ev F x).cells T)).w) ?_ (h _ _ hle rfl (by simp [Cx.new]) ⟨by simp [Cx.new],T,_,heap_alloc_new _ _,r.mono hx.cells hle.pub⟩)
 simp [run,execOp,ho,Instr.box,newVar,newRow,Cx.new]
theorem Fu {α:Type} {r:Rep α} {T:TypeId} {d:α} {z:Value} (ho:o.op= .alloc T) (hz: ∀w,(zeroValue T).run P w= .ok z w) (hx:r.val c z d)
  (h: ∀b c',c.le c'→c.w.heap.size=b→b<c'.w.heap.size→Var c' b r d→K (.pointer (some ⟨b,0,none⟩)) c'.w):aE P K (run P F o c.w):=by
 have hle:=Cx.le_new c (.cells z.cells T)
 refine yv (v:= .pointer (some ⟨c.w.heap.size,0,none⟩)) (w':=(c.new (.cells z.cells T)).w) ?_ (h _ _ hle rfl (by simp [Cx.new]) ⟨by simp [Cx.new],T,_,heap_alloc_new _ _,r.mono hx.cells hle.pub⟩)
 simp [run,execOp,ho,Instr.alloc,newVar,newRow,Cx.new,hz]
theorem Fv {T U:TypeId} {x y:Operand} {k:IntKind} {a b:Int} (ho:o.op= .binOp .add T x y U) (hx:ev F x= .int k a) (hy:ev F y= .int k b) (h:K (.int k (k.wrap (a+b))) w):aE P K (run P F o w):=
 yv (v:= .int k (k.wrap (a+b))) (w':=w) (by simp [run,execOp,ho,hx,hy,eqGuard,binOp,Op.intArith]) h
theorem Fw {T U:TypeId} {x y:Operand} {k:IntKind} {a b:Int} (ho:o.op= .binOp .sub T x y U) (hx:ev F x= .int k a) (hy:ev F y= .int k b) (h:K (.int k (k.wrap (a - b))) w):aE P K (run P F o w):=
 yv (v:= .int k (k.wrap (a - b))) (w':=w) (by simp [run,execOp,ho,hx,hy,eqGuard,binOp,Op.intArith]) h
theorem Fx {T U:TypeId} {x y:Operand} {k:IntKind} {a b:Int} (ho:o.op= .binOp .mul T x y U) (hx:ev F x= .int k a) (hy:ev F y= .int k b) (h:K (.int k (k.wrap (a*b))) w):aE P K (run P F o w):=
 yv (v:= .int k (k.wrap (a*b))) (w':=w) (by simp [run,execOp,ho,hx,hy,eqGuard,binOp,Op.intArith]) h
theorem Fy {T U:TypeId} {x y:Operand} {k:IntKind} {a b:Int} (ho:o.op= .binOp .quo T x y U) (hx:ev F x= .int k a) (hy:ev F y= .int k b) (hb:b≠0) (h:K (.int k (k.wrap (a.tdiv b))) w):aE P K (run P F o w):=
 yv (v:= .int k (k.wrap (a.tdiv b))) (w':=w) (by simp [run,execOp,ho,hx,hy,eqGuard,binOp,Op.intDiv,hb]) h
theorem Fz {T U:TypeId} {x y:Operand} {k:IntKind} {a b:Int} (ho:o.op= .binOp .rem T x y U) (hx:ev F x= .int k a) (hy:ev F y= .int k b) (hb:b≠0) (h:K (.int k (a.tmod b)) w):aE P K (run P F o w):=
 yv (v:= .int k (a.tmod b)) (w':=w) (by simp [run,execOp,ho,hx,hy,eqGuard,binOp,Op.intDiv,hb]) h
theorem FA {T U:TypeId} {x y:Operand} {k:IntKind} {a b:Int} (ho:o.op= .binOp .lss T x y U) (hx:ev F x= .int k a) (hy:ev F y= .int k b) (h:K (.bool (decide (a<b))) w):aE P K (run P F o w):=
 yv (v:= .bool (decide (a<b))) (w':=w) (by simp [run,execOp,ho,hx,hy,eqGuard,binOp,Op.intCmp]) h
theorem FB {T U:TypeId} {x y:Operand} {k:IntKind} {a b:Int} (ho:o.op= .binOp .leq T x y U) (hx:ev F x= .int k a) (hy:ev F y= .int k b) (h:K (.bool (decide (a≤b))) w):aE P K (run P F o w):=
 yv (v:= .bool (decide (a≤b))) (w':=w) (by simp [run,execOp,ho,hx,hy,eqGuard,binOp,Op.intCmp]) h
theorem FC {T U:TypeId} {x y:Operand} {k:IntKind} {a b:Int} (ho:o.op= .binOp .gtr T x y U) (hx:ev F x= .int k a) (hy:ev F y= .int k b) (h:K (.bool (decide (a>b))) w):aE P K (run P F o w):=
 yv (v:= .bool (decide (a>b))) (w':=w) (by simp [run,execOp,ho,hx,hy,eqGuard,binOp,Op.intCmp]) h
theorem FD {T U:TypeId} {x y:Operand} {k:IntKind} {a b:Int} (ho:o.op= .binOp .geq T x y U) (hx:ev F x= .int k a) (hy:ev F y= .int k b) (h:K (.bool (decide (a≥b))) w):aE P K (run P F o w):=
 yv (v:= .bool (decide (a≥b))) (w':=w) (by simp [run,execOp,ho,hx,hy,eqGuard,binOp,Op.intCmp]) h
theorem FE {T U:TypeId} {x y:Operand} {k:IntKind} {a b:Int} (ho:o.op= .binOp .eql T x y U) (hx:ev F x= .int k a) (hy:ev F y= .int k b) (h:K (.bool (a==b)) w):aE P K (run P F o w):=
 yv (v:= .bool (a==b)) (w':=w) (by simp [run,execOp,ho,hx,hy,eqGuard,binOp,Op.intCmp]) h
theorem FF {T U:TypeId} {x y:Operand} {k:IntKind} {a b:Int} (ho:o.op= .binOp .neq T x y U) (hx:ev F x= .int k a) (hy:ev F y= .int k b) (h:K (.bool (a !=b)) w):aE P K (run P F o w):=
 yv (v:= .bool (a !=b)) (w':=w) (by simp [run,execOp,ho,hx,hy,eqGuard,binOp,Op.intCmp]) h
def ay (k:IntKind) (a b:Int):Int:=k.wrap (a*2^(min b.toNat k.bits))
def ar (k:IntKind) (a b:Int):Int:=a.fdiv (2^(min b.toNat k.bits))
theorem Ah {T U:TypeId} {x y:Operand} {k l:IntKind} {a b:Int} (ho:o.op= .binOp .shl T x y U) (hx:ev F x= .int k a) (hy:ev F y= .int l b) (hb:0≤b) (h:K (.int k (ay k a b)) w):aE P K (run P F o w):=
 yv (v:= .int k (ay k a b)) (w':=w) (by simp [run,execOp,ho,hx,hy,eqGuard,binOp,Op.shift,show¬b<0 by omega,ay]) h
theorem Ai {T U:TypeId} {x y:Operand} {k l:IntKind} {a b:Int} (ho:o.op= .binOp .shr T x y U) (hx:ev F x= .int k a) (hy:ev F y= .int l b) (hb:0≤b) (h:K (.int k (ar k a b)) w):aE P K (run P F o w):=
 yv (v:= .int k (ar k a b)) (w':=w) (by simp [run,execOp,ho,hx,hy,eqGuard,binOp,Op.shift,show¬b<0 by omega,ar]) h
def bD (k:IntKind) (a b:Int):Int:=k.wrap (BitVec.ofInt k.bits a&&&BitVec.ofInt k.bits b).toNat
def orI (k:IntKind) (a b:Int):Int:=k.wrap (BitVec.ofInt k.bits a|||BitVec.ofInt k.bits b).toNat
def cv (k:IntKind) (a b:Int):Int:=k.wrap (BitVec.ofInt k.bits a^^^BitVec.ofInt k.bits b).toNat
def oH (k:IntKind) (a b:Int):Int:=k.wrap (BitVec.ofInt k.bits a&&& ~~~BitVec.ofInt k.bits b).toNat
theorem FG {T U:TypeId} {x y:Operand} {k:IntKind} {a b:Int} (ho:o.op= .binOp .and T x y U) (hx:ev F x= .int k a) (hy:ev F y= .int k b) (h:K (.int k (bD k a b)) w):aE P K (run P F o w):=
 yv (v:= .int k (bD k a b)) (w':=w) (by simp [run,execOp,ho,hx,hy,eqGuard,binOp,Op.intBits,bD]) h
theorem FH {T U:TypeId} {x y:Operand} {k:IntKind} {a b:Int} (ho:o.op= .binOp .or T x y U) (hx:ev F x= .int k a) (hy:ev F y= .int k b) (h:K (.int k (orI k a b)) w):aE P K (run P F o w):=
 yv (v:= .int k (orI k a b)) (w':=w) (by simp [run,execOp,ho,hx,hy,eqGuard,binOp,Op.intBits,orI]) h
theorem FI {T U:TypeId} {x y:Operand} {k:IntKind} {a b:Int} (ho:o.op= .binOp .xor T x y U) (hx:ev F x= .int k a) (hy:ev F y= .int k b) (h:K (.int k (cv k a b)) w):aE P K (run P F o w):=
 yv (v:= .int k (cv k a b)) (w':=w) (by simp [run,execOp,ho,hx,hy,eqGuard,binOp,Op.intBits,cv]) h
theorem FJ {T U:TypeId} {x y:Operand} {k:IntKind} {a b:Int} (ho:o.op= .binOp .andNot T x y U) (hx:ev F x= .int k a) (hy:ev F y= .int k b) (h:K (.int k (oH k a b)) w):aE P K (run P F o w):=
 yv (v:= .int k (oH k a b)) (w':=w) (by simp [run,execOp,ho,hx,hy,eqGuard,binOp,Op.intBits,oH]) h
theorem Aj (n:Nat) {T:TypeId} {a b:Bool} (hT:P.underlying T=some .bool):(Op.equalIn (n+1) T (.bool a) (.bool b)).run P w= .ok (a==b) w:=by
 simp [Op.equalIn,underlying,hT]
theorem FK {T:TypeId} {a b:Bool} (hT:P.underlying T=some .bool):(binOp .eql T (.bool a) (.bool b)).run P w= .ok (.bool (a==b)) w:=by
 have:=Aj (w:=w) (a:=a) (b:=b) 9999 hT
 simp only [binOp]
 simp [Op.equal,Op.maxDepth,this]
theorem FL {T:TypeId} {a b:Bool} (hT:P.underlying T=some .bool):(binOp .neq T (.bool a) (.bool b)).run P w= .ok (.bool (a !=b)) w:=by
 have:=Aj (w:=w) (a:=a) (b:=b) 9999 hT
 simp only [binOp]
 simp [Op.equal,Op.maxDepth,this,bne]
theorem Ak (op:BinOp) {T:TypeId} {x y:Operand} {a b:Bool}:(eqGuard op T x y (.bool a) (.bool b)).run P w= .ok () w:=by
 cases op<;>simp [eqGuard]
theorem FM {T U:TypeId} {x y:Operand} {a b:Bool} (ho:o.op= .binOp .eql T x y U) (hT:P.underlying T=some .bool) (hx:ev F x= .bool a) (hy:ev F y= .bool b) (h:K (.bool (a==b)) w):aE P K (run P F o w):=
 yv (v:= .bool (a==b)) (w':=w) (by simp [run,execOp,ho,hx,hy,Ak,FK hT]) h
theorem FN {T U:TypeId} {x y:Operand} {a b:Bool} (ho:o.op= .binOp .neq T x y U) (hT:P.underlying T=some .bool) (hx:ev F x= .bool a) (hy:ev F y= .bool b) (h:K (.bool (a !=b)) w):aE P K (run P F o w):=
 yv (v:= .bool (a !=b)) (w':=w) (by simp [run,execOp,ho,hx,hy,Ak,FL hT]) h
theorem FO {T:TypeId} {x:Operand} {b:Bool} (ho:o.op= .unOp .not T x) (hx:ev F x= .bool b) (h:K (.bool (!b)) w):aE P K (run P F o w):=
 yv (v:= .bool (!b)) (w':=w) (by simp [run,execOp,ho,hx,Op.unary]) h
theorem FP {T:TypeId} {x:Operand} {k:IntKind} {a:Int} (ho:o.op= .unOp .neg T x) (hx:ev F x= .int k a) (h:K (.int k (k.wrap (0 - a))) w):aE P K (run P F o w):=
 yv (v:= .int k (k.wrap (0 - a))) (w':=w) (by simp [run,execOp,ho,hx,Op.unary,Op.intArith]) h
def kU (k:IntKind) (a:Int):Int:=cv k (if k.signed then -1 else k.max) a
theorem FR {T:TypeId} {x:Operand} {k:IntKind} {a:Int} (ho:o.op= .unOp .xor T x) (hx:ev F x= .int k a) (h:K (.int k (kU k a)) w):aE P K (run P F o w):=
 yv (v:= .int k (kU k a)) (w':=w) (by simp [run,execOp,ho,hx,Op.unary,Op.intBits,kU,cv]) h
theorem UJ {S T:TypeId} {x:Operand} {k l:IntKind} {a:Int} (ho:o.op= .convert S T x) (hS:P.underlying S=some (.int k)) (hT:P.underlying T=some (.int l)) (hx:ev F x= .int k a) (h:K (.int l (l.wrap a)) w):aE P K (run P F o w):=
 yv (v:= .int l (l.wrap a)) (w':=w) (by simp [run,execOp,ho,hx,convert,underlying,hS,hT,Conv.intToInt]) h
theorem Al {α:Type} {r:Rep α} {T E:TypeId} {ats:Array TypeId} {x:Operand} {l:List α} (ho:o.op= .call {callee:= .builtin .len,args:= #[x],argTypes:= #[T]}) (hT:P.underlying T=some (.slice E))
  (hx:(gV r).val c (ev F x) l) (h:K (.int .i64 l.length) c.w):aE P K (run P F o c.w):=by
 obtain ⟨a,cap,e,_⟩:=fw.1 hx
 refine yv (v:= .int .i64 l.length) (w':=c.w) ?_ h
 simp [run,execOp,ho,resolve,invoke,builtin,Builtin.len_,underlying,hT,e,goInt]
theorem FT {T:TypeId} {x:Operand} {l:List UInt8} (ho:o.op= .call {callee:= .builtin .len,args:= #[x],argTypes:= #[T]}) (hT:P.underlying T=some .string)
  (hx:ev F x= .string ⟨l.toArray⟩) (h:K (.int .i64 l.length) w):aE P K (run P F o w):=by
 refine yv (v:= .int .i64 l.length) (w':=w) ?_ h
 have hz:(ByteArray.mk l.toArray).size=l.length:=rfl
 simp [run,execOp,ho,resolve,invoke,builtin,Builtin.len_,underlying,hT,hx,goInt,hz]
theorem q6 {x:Operand} {k:Nat} {vs:Array Value} {v:Value} (ho:o.op= .extract x k) (hx:ev F x= .tuple vs) (hv:vs[k]? =some v) (h:K v w):aE P K (run P F o w):=
 yv (v:=v) (w':=w) (by simp [run,execOp,ho,hx,Instr.extract,hv]) h
end
section
variable {P:Program} {ops:Array Oper} {wr:List Nat} {need:List (List Nat)} {F0:Fm} {c0:Cx} {Φ:Nat→Ph} {i:Nat}
structure FU (ops:Array Oper) (need:List (List Nat)) (wr:List Nat) (F0:Fm) (c0:Cx) (Φ:Nat→Ph) (i:Nat) (F:Fm) (c:Cx):Prop where
 le:c0.le c
 of: ∀j,j∈need.getD i []→ ∀d,dk ops j=some d→(Φ j).p (F d) c
 old: ∀t,t∉wr→F t=F0 t
structure FV (ops:Array Oper) (m:Nat) (wr:List Nat) (F0:Fm) (c0:Cx) (Φ:Nat→Ph) (F:Fm) (c:Cx):Prop where
 le:c0.le c
 of: ∀j,j<m→ ∀d,dk ops j=some d→(Φ j).p (F d) c
 old: ∀t,t∉wr→F t=F0 t
theorem ob {o:Oper} (ho:ops[i]? =some o) (hg:o.guard=none)
  (h: ∀F c,FU ops need wr F0 c0 Φ i F c→ ∀K:Value→World→Prop,(∀v c',c.le c'→(Φ i).p v c'→K v c'.w)→aE P K (run P F o c.w)):kQ P ops need wr F0 c0 Φ i:=by
 intro o' ho' F c h1 h2 h3 K hK
 rw [ho] at ho';cases ho'
 have:dF ops F o=true:=by simp [dF,hg]
 rw [if_pos this]
 exact h F c ⟨h1,h2,h3⟩ K hK
def Ph.gb (A:Prop) (g:Bool):Ph:=⟨fun v _=>(A→v= .bool g)∧(¬A→v=undef),fun h _=>h⟩
end
def oI (p:Nat→Prop):Nat→Nat→Prop
 | _,0=>True
 | k,n+1=>p k∧oI p (k+1) n
theorem oI.get {p:Nat→Prop}: ∀{n k:Nat},oI p k n→ ∀i,k≤i→i<k+n→p i
 | 0,_,_,i,h1,h2=>by omega
 | n+1,k,⟨h,h'⟩,i,h1,h2=>by
  by_cases e:i=k
  ·subst e;exact h
  ·exact h'.get i (by omega) (by omega)
theorem region [mo:Mo] {P:Program} {ops:Array Oper} {Q:Exit→Act→World→Prop} {n:Nat} {F0:Fm} {c0:Cx} (m:Nat) (wr:List Nat) (need:List (List Nat)) (Φ:Nat→Ph)
  (hB:iN n m ops wr need=true) (hmo:P.follows .mixedOrders=true) {id:Nat} {draw:Bool} {a:Act} (hf:Fr n F0 a)
  (H:oI (kQ P ops need wr F0 c0 Φ) 0 m)
  (hT: ∀F c,c0.le c→(∀i,i<m→ ∀d,dk ops i=some d→(Φ i).p (F d) c)→(∀t,t∉wr→F t=F0 t)→ ∀a,Fr n F a→cO P ops Q (List.range' m (ops.size - m)) a c.w):
  wq P (Code.region id ops draw) Q a c0.w:=
 Fh hB hmo hf (fun i hi=>H.get i (Nat.zero_le _) (by omega)) hT
end Go.Proofs.YteibkofekpejgaaGreatDoor
namespace Go.Proofs.YteibkofekpejgaaGreatDoor
open Go.RowKit
def al (k:IntKind) (a b:Int):Int:=k.wrap (a+b)
def aA (k:IntKind) (a b:Int):Int:=k.wrap (a - b)
def aS (k:IntKind) (a b:Int):Int:=k.wrap (a*b)
def cm (k:IntKind) (a b:Int):Int:=k.wrap (a.tdiv b)
def cw (_:IntKind) (a b:Int):Int:=a.tmod b
def jB (k:IntKind) (a:Int):Int:=k.wrap (0 - a)
def ah (k:IntKind) (a:Int):Int:=k.wrap a
def gt {α:Type} [Inhabited α] (l:List α) (i:Int):α:=l.getD i.toNat default
theorem q7 {α:Type} [Inhabited α] (l:List α) (i:Nat):gt l (i:Int)=l.getD i default:=rfl
theorem FW (k:IntKind) (a b:Int):Rng k (al k a b):=fK _ _
theorem oJ (k:IntKind) (a b:Int):Rng k (aA k a b):=fK _ _
theorem FX (k:IntKind) (a b:Int):Rng k (aS k a b):=fK _ _
theorem FY (k:IntKind) (a b:Int):Rng k (cm k a b):=fK _ _
theorem FZ (k:IntKind) (a:Int):Rng k (jB k a):=fK _ _
theorem Am (k:IntKind) (a:Int):Rng k (ah k a):=fK _ _
theorem q8 (k:IntKind) (a b:Int):Rng k (ay k a b):=fK _ _
theorem An (k:IntKind) (a b:Int):Rng k (bD k a b):=fK _ _
theorem Ao (k:IntKind) (a b:Int):Rng k (orI k a b):=fK _ _
theorem F3 (k:IntKind) (a b:Int):Rng k (cv k a b):=fK _ _
theorem F4 (k:IntKind) (a b:Int):Rng k (oH k a b):=fK _ _
theorem F5 (k:IntKind) (a:Int):Rng k (kU k a):=fK _ _
theorem jC {n:Nat} (h:n≤LEN):Rng .i64 (n:Int):=by
 unfold LEN at h
 simp only [Rng,IntKind.min,IntKind.max,IntKind.bits,IntKind.signed,if_true]
 omega
theorem F7 (a b:Int):(a.tmod b).natAbs≤a.natAbs:=by
 rw [Int.natAbs_tmod];exact Nat.mod_le _ _
theorem F8 {k:IntKind} {a:Int} (b:Int) (h:Rng k a):Rng k (cw k a b):=by
 have h1:=F7 a b
 have h2:0≤a→0≤a.tmod b:=fun h=>Int.tmod_nonneg b h
 have h3:a≤0→a.tmod b≤0:=fun h=>by
  have:=Int.tmod_nonneg b (show 0≤ -a by omega)
  rw [Int.neg_tmod] at this
  omega
 unfold Rng at*
 unfold cw
 have hm:k.min≤0:=by cases k<;>decide
 have hx:0≤k.max:=by cases k<;>decide
 rcases Int.le_total 0 a with h4|h4
 ·have:=h2 h4;omega
 ·have:=h3 h4;omega
theorem Ap {k:IntKind} {a:Int} (b:Int) (h:Rng k a):Rng k (ar k a b):=by
 unfold ar
 have hp:(1:Int)≤2^(min b.toNat k.bits):=by
  have:(1:Nat)≤2^(min b.toNat k.bits):=Nat.one_le_two_pow
  exact_mod_cast this
 have hm:k.min≤0:=by cases k<;>decide
 have hx:0≤k.max:=by cases k<;>decide
 unfold Rng at*
 generalize (2:Int)^(min b.toNat k.bits)=p at*
 rw [Int.fdiv_eq_ediv_of_nonneg _ (by omega)]
 constructor
 ·refine (Int.le_ediv_iff_mul_le (by omega)).2 ?_
  have:k.min*p≤k.min*1:=Int.mul_le_mul_of_nonpos_left hm hp
  omega
 ·rcases Int.le_total 0 a with h4|h4
  ·have:=Int.ediv_le_self p h4;omega
  ·have:a/p≤0:=by
    have h5:a/p≤0/p:=Int.ediv_le_ediv (by omega) h4
    simpa using h5
   omega
def aa {α β:Type} (a:α) (f:α→β):β:=f a
theorem bX {b:Bool} (h:b=false): ¬(b=true):=by simp [h]
structure cy (c0 c:Cx):Prop where
 below:gT c0.Y c0.w.heap.size c0.w c.w
 X: ∀k,k∈c0.X→k∉c0.Y→k∈c.X
 Xn: ∀k,k<c0.w.heap.size→k∉c0.X→k∉c.X
theorem cy.refl (c:Cx):cy c c:=⟨gT.refl _ _ _,fun _ h _=>h,fun _ _ h=>h⟩
theorem cy.le {c0 c c':Cx} (h:cy c0 c) (k:c.le c'):cy c0 c':=
 ⟨h.below.step k.below h.below.size,fun i hi hy=>(k.old i (c.ok i (h.X i hi hy))).2 (h.X i hi hy),fun i hi hx h'=>h.Xn i hi hx ((k.old i (Nat.lt_of_lt_of_le hi h.below.size)).1 h')⟩
theorem cy.size {c0 c:Cx} (h:cy c0 c):c0.w.heap.size≤c.w.heap.size:=h.below.size
section
variable {P:Program}
theorem F9 [mo:Mo] {ops:Array Oper} {Q:Exit→Act→World→Prop} {n:Nat} {F0:Fm} {c0:Cx} (m:Nat) (wr:List Nat) (need:List (List Nat)) (rest:List Nat) (Φ:Nat→Ph)
  (hB:iN n m ops wr need=true) (hR:List.range' m (ops.size - m)=rest) (hmo:P.follows .mixedOrders=true) {id:Nat} {draw:Bool} {a:Act} (hf:Fr n F0 a)
  (H:oI (kQ P ops need wr F0 c0 Φ) 0 m)
  (hT: ∀F c,FV ops m wr F0 c0 Φ F c→ ∀a,Fr n F a→cO P ops Q rest a c.w):
  wq P (Code.region id ops draw) Q a c0.w:=by
 subst hR
 exact region m wr need Φ hB hmo hf H fun F c h1 h2 h3 a ha=>hT F c ⟨h1,h2,h3⟩ a ha
theorem vd [mo:Mo] {c:Code} {Q:Exit→Act→World→Prop} {a:Act} {w:World} (I:Nat→Act→World→Prop) (k0:Nat) (h0:I k0 a w)
  (round: ∀k a w,I k a w→wq P c (Exit.then (fun a' w'=> ∃k',k'<k∧I k' a' w') Q) a w):wq P (Code.loop c) Q a w:=by
 intro b ks cs hro hb hr
 have key: ∀n a w,I n a w→ ∃e a' w',Q e a' w'∧ArrivesIn (Machine.fenced P mo.fe) P (lone (b.atR a (.code c:: .inLoop c::ks)) cs w) b ks cs e a' w':=by
  intro n
  induction n using Nat.strongRecOn with
  | _ n ih=>
   intro a w hI
   obtain ⟨e,a₁,w₁,hq,harr⟩:=round n a w hI b (.inLoop c::ks) cs hro hb hr
   cases e with
   | normal=>
    obtain ⟨k',hlt,hI₁⟩:=hq
    obtain ⟨e₂,a₂,w₂,hq₂,harr₂⟩:=ih k' hlt a₁ w₁ hI₁
    exact ⟨e₂,a₂,w₂,hq₂,.of_steps (StepsIn.trans harr (.one (fenced_calm hb hr rfl) stepR_inLoop)) harr₂⟩
   | exit id=>exact ⟨_,a₁,w₁,hq,.pass (x:= .inLoop c) rfl (fun _ _=> .inl (by simp)) harr⟩
   | goto l=>exact ⟨_,a₁,w₁,hq,.pass (x:= .inLoop c) rfl (fun _ _=> .inl (by simp)) harr⟩
   | ret=>exact ⟨_,a₁,w₁,hq,.pass (x:= .inLoop c) rfl (fun _ _=> .inl (by simp)) harr⟩
   | panic ch=>exact ⟨_,a₁,w₁,hq,.pass (x:= .inLoop c) rfl (fun _ _=> .inl (by simp)) harr⟩
   | outgrown=>exact ⟨_,a₁,w₁,hq,.pass (x:= .inLoop c) rfl (fun _ _=> .inl (by simp)) harr⟩
 obtain ⟨e,a',w',hq,harr⟩:=key k0 a w h0
 exact ⟨e,a',w',hq,.of_steps (.one (fenced_calm hb hr rfl) stepR_loop) harr⟩
def Ph.newVar {α:Type} (c0:Cx) (r:Rep α) (d:α):Ph:=
 ⟨fun v c=> ∃b,v= .pointer (some ⟨b,0,none⟩)∧c0.w.heap.size≤b∧Var c b r d,fun ⟨b,h1,h2,h3⟩ k=>⟨b,h1,h2,h3.le k⟩⟩
def q9 {α β:Type} (P:Program) (c:Cx) (v:Value) (r:Rep α) (s:RV β) (p:α→β):Prop:=
 ∃f cap,v= .func (.func f) #[] (List.toArray cap)∧(∀aas w,(callFunc f aas).run P w= .ok (.enter f aas) w)∧ ∀c' x u,c.le c'→r.val c' u x→Calls P f (u::cap).toArray c'.w (Fj c' s (p x))
theorem q9.le {α β:Type} {c c':Cx} {v v':Value} {r:Rep α} {s:RV β} {p:α→β} (h:q9 P c v r s p) (e:v'=v) (k:c.le c'):q9 P c' v' r s p:=by
 subst e
 obtain ⟨f,cap,h1,h2,h3⟩:=h
 exact ⟨f,cap,h1,h2,fun c'' x u hle hx=>h3 c'' x u (k.trans hle) hx⟩
def Ph.fn {α β:Type} (P:Program) (r:Rep α) (s:RV β) (p:α→β):Ph:=⟨fun v c=>q9 P c v r s p,fun h k=>h.le rfl k⟩
theorem Aq {α:Type} {r:Rep α} {c:Cx} {v:Value} {l:List α} (h:(gV r).val c v l):l.length≤LEN:=by
 obtain ⟨_,_,_,h1,_⟩:=fw.1 h;exact h1.1
instance (k:IntKind) (d:Int):Decidable (Rng k d):=inferInstanceAs (Decidable (_∧_))
def sl {α:Type} (l:List α) (i j:Int):List α:=(l.drop i.toNat).take (j.toNat - i.toNat)
def st {α:Type} (l:List α) (i:Int) (x:α):List α:=l.set i.toNat x
theorem ve {α:Type} {r:Rep α} {c:Cx} {cz:List Value} {z:α} (n:Nat) (h:r.is c cz z):a7 r c (List.replicate n cz).flatten (List.replicate n z):=by
 induction n with
 | zero=>simp [a7]
 | succ n ih=>exact ⟨cz,_,by simp [List.replicate_succ],h,ih⟩
section
variable {K:Value→World→Prop} {F:Fm} {o:Oper} {c:Cx} {w:World}
end
end
end Go.Proofs.YteibkofekpejgaaGreatDoor
namespace Go.Proofs.YteibkofekpejgaaGreatDoor
open Go.RowKit
theorem F_ (xs:List Value): ∀(cs:Array Value) (off k:Nat),off+k+xs.length≤cs.size→
  ((xs.zipIdx k).foldl (fun cs (p:Value×Nat)=>cs.setIfInBounds (off+p.2) p.1) cs).toList=cs.toList.take (off+k)++xs++cs.toList.drop (off+k+xs.length):=by
 induction xs with
 | nil=>intro cs off k h;simp
 | cons x xs ih=>
  intro cs off k h
  simp only [List.zipIdx_cons,List.foldl_cons]
  rw [ih _ off (k+1) (by simp at h⊢;omega)]
  simp only [Array.toList_setIfInBounds,List.length_cons]
  have hlt:off+k<cs.toList.length:=by simp at h⊢;omega
  have e1:(cs.toList.set (off+k) x).take (off+(k+1))=cs.toList.take (off+k)++[x]:=by
   rw [show off+(k+1)=(off+k)+1 by omega,List.take_succ_eq_append_getElem (by simpa using hlt)]
   congr 1
   ·rw [List.take_set]
    exact List.set_eq_of_length_le (by simp;omega)
   ·simp
  have e2:(cs.toList.set (off+k) x).drop (off+(k+1)+xs.length)=cs.toList.drop (off+k+(xs.length+1)):=by
   rw [List.drop_set_of_lt (by omega)]
   congr 1;omega
  rw [e1,e2]
  simp
def gW {α:Type} (place:Nat→Option (Nat×Nat)) (r:Rep α) (c:Cx) (l:List (Nat×Value)) (d d':α):Prop:=
 ∀cs:Array Value,r.is c cs.toList d→ ∃cs',Instr.fill place cs l=some cs'∧r.is c cs'.toList d'
theorem vf {α:Type} {place:Nat→Option (Nat×Nat)} {r:Rep α} {c:Cx} {d:α}:gW place r c [] d d:=fun cs h=>⟨cs,rfl,h⟩
theorem vg {α β:Type} {place:Nat→Option (Nat×Nat)} {r:Rep α} {s:Rep β} {c:Cx} {i off:Nat} {get:α→β} {set:α→β→α} {v:Value} {x:β} {l:List (Nat×Value)} {d d':α}
  (hs:Sub r off s get set) (hp:place i=some (off,s.n)) (hv:s.val c v x) (h:gW place r c l (set d x) d'):gW place r c ((i,v)::l) d d':=by
 intro cs hc
 have hx:=hv.cells
 have hl:=s.len hx
 have hr:=r.len hc
 have hb:=hs.bound
 have hvs:v.cells.size=s.n:=by rw [←hl];simp
 have hcs:cs.size=r.n:=by rw [←hr];simp
 have hfold:(v.cells.zipIdx.foldl (fun cs (p:Value×Nat)=>cs.setIfInBounds (off+p.2) p.1) cs).toList=cs.toList.take off++v.cells.toList++cs.toList.drop (off+s.n):=by
  have:=F_ v.cells.toList cs off 0 (by simp;omega)
  simp only [Nat.add_zero] at this
  rw [hl] at this
  rw [←this,←Array.foldl_toList]
  simp
 obtain ⟨cs',h1,h2⟩:=h _ (hfold▸hs.set_is hc hx)
 refine ⟨cs',?_,h2⟩
 unfold Instr.fill
 simp only [hp]
 rw [if_neg (by simp [hvs];omega)]
 exact h1
section
variable {P:Program} {K:Value→World→Prop} {F:Fm} {o:Oper} {c:Cx} {w:World}
def Ar (P:Program) (T:TypeId) (pl:Array (Nat×Nat)):Prop:=
 ∃fs,P.underlying T=some (.struct fs)∧ ∀w,(fs.mapM fun f=>do pure (f.offset,←sizeOf f.type):Sem (Array (Nat×Nat))).run P w= .ok pl w
theorem Ga {α:Type} {r:Rep α} {T:TypeId} {parts:List (Nat×Operand)} {pl:Array (Nat×Nat)} {d d':α} {z:Value} (ho:o.op= .build T parts.toArray) (hb:Ar P T pl) (hz: ∀w,(zeroValue T).run P w= .ok z w) (hzd:r.val c z d) (ha:r.agg=true)
  (hf:gW (pl[·]?) r c (parts.map fun p=>(p.1,ev F p.2)) d d') (h: ∀v,r.val c v d'→K v c.w):aE P K (run P F o c.w):=by
 obtain ⟨fs,hu,hm⟩:=hb
 obtain ⟨cs',h1,h2⟩:=hf z.cells hzd.cells
 refine yv (v:= .agg cs') (w':=c.w) ?_ (h _ ⟨cs'.toList,h2,by simp [mkV,ha]⟩)
 have hru:(underlying T).run P c.w= .ok (.struct fs) c.w:=by simp [underlying,hu]
 have e:(parts.toArray.map fun (p:Nat×Operand)=>(p.1,ev F p.2)).toList=parts.map fun p=>(p.1,ev F p.2):=by simp
 have hm':=hm c.w
 simp only [run,execOp,ho,Instr.build,Sem.run_bind,hz,Result.andThen_ok,hru,hm',e,h1,Sem.run_pure]
theorem Gb {α:Type} {r:Rep α} {T el:TypeId} {m n:Nat} {parts:List (Nat×Operand)} {d d':α} {z:Value} (ho:o.op= .build T parts.toArray) (hu:P.underlying T=some (.array m el)) (hs: ∀w,(sizeOf el).run P w= .ok n w) (hz: ∀w,(zeroValue T).run P w= .ok z w) (hzd:r.val c z d) (ha:r.agg=true)
  (hf:gW (fun i=>some (i*n,n)) r c (parts.map fun p=>(p.1,ev F p.2)) d d') (h: ∀v,r.val c v d'→K v c.w):aE P K (run P F o c.w):=by
 obtain ⟨cs',h1,h2⟩:=hf z.cells hzd.cells
 refine yv (v:= .agg cs') (w':=c.w) ?_ (h _ ⟨cs'.toList,h2,by simp [mkV,ha]⟩)
 have hru:(underlying T).run P c.w= .ok (.array m el) c.w:=by simp [underlying,hu]
 have e:(parts.toArray.map fun (p:Nat×Operand)=>(p.1,ev F p.2)).toList=parts.map fun p=>(p.1,ev F p.2):=by simp
 have hm':=hs c.w
 simp only [run,execOp,ho,Instr.build,Sem.run_bind,hz,Result.andThen_ok,hru,hm',e,h1,Sem.run_pure]
theorem vk (l:List UInt8):(ByteArray.mk l.toArray).toList=l:=by rw [ByteArray.toList_eq]
theorem As {α β:Type} {r:Rep α} {s:Rep β} {T:TypeId} {off:Nat} {get:α→β} {set:α→β→α} {cs:Array Value} {d:α} (hT:dG P T s) (hs:Sub r off s get set) (h:r.is c cs.toList d):
  ∃v,(part T cs off).run P w= .ok v w∧s.val c v (get d):=by
 have hi:=hs.get_is h
 have hl:=s.len hi
 have hr:=r.len h
 have hb:=hs.bound
 have hcs:cs.size=r.n:=by rw [←hr];simp
 cases ha:s.agg with
 | true=>
  refine ⟨_,?_,⟨_,hi,rfl⟩⟩
  have:(cs.extract off (off+s.n)).toList=(cs.toList.drop off).take s.n:=by
   rw [Array.toList_extract,List.extract_eq_take_drop]
   congr 1;omega
  have e:cs.extract off (off+s.n)=((cs.toList.drop off).take s.n).toArray:=by rw [←this]
  simp only [part,hT.agg,ha,Sem.run_bind,Result.andThen_ok,if_true,hT.size,Sem.run_pure,mkV,e]
 | false=>
  have h1:=s.one ha
  refine ⟨_,?_,⟨_,hi,rfl⟩⟩
  have hlt:off<cs.size:=by omega
  simp only [part,hT.agg,ha,Sem.run_bind,Result.andThen_ok,Bool.false_eq_true,if_false,Array.getElem?_eq_getElem hlt,Sem.run_pure,mkV,h1]
  congr 1
  simp [List.take_one,List.head?_drop,hlt]
end
end Go.Proofs.YteibkofekpejgaaGreatDoor
namespace Go.Proofs.YteibkofekpejgaaGreatDoor
open Go.RowKit
structure Cx.chg (g:Option Nat) (c c':Cx):Prop where
  os:c'.w.os=c.w.os
  tape:c'.w.tape=c.w.tape
  output:c'.w.output=c.w.output
  size:c.w.heap.size≤c'.w.heap.size
  keep: ∀k,k<c.w.heap.size→g≠some k→c'.w.heap[k]? =c.w.heap[k]?
  old: ∀k,k<c.w.heap.size→(k∈c'.X↔k∈c.X)
  priv: ∀k,g=some k→k∈c.X
theorem Cx.mut.chg {b:Nat} {c c':Cx} (h:c.mut b c') (hb:b∈c.X):c.chg (some b) c':=
  ⟨h.os,h.tape,h.output,Nat.le_of_eq h.size.symm,fun k _ hk=>h.keep k (fun e=>hk (e▸rfl)),fun k _=>by rw [h.X],fun k hk=>by cases hk;exact hb⟩
theorem Cx.chg.pub {g:Option Nat} {c c':Cx} (h:c.chg g c'):c.pub c':=
  ⟨h.size,fun k hk hx=>⟨fun h'=>hx ((h.old k hk).1 h'),fun o ho _=>(h.keep k hk (fun e=>hx (h.priv k e))).trans ho⟩⟩
theorem Cx.chg.var {α:Type} {g:Option Nat} {b:Nat} {c c':Cx} {r:Rep α} {d:α} (h:c.chg g c') (hne:g≠some b) (hv:Var c b r d):Var c' b r d:=by
  obtain ⟨h1,T,cs,h2,h3⟩:=hv
  have hlt:=c.ok b h1
  exact ⟨(h.old b hlt).2 h1,T,cs,(h.keep b hlt hne).trans h2,r.mono h3 h.pub⟩
theorem cy.chg {c0 c c':Cx} {g:Option Nat} (h:cy c0 c) (k:c.chg g c') (hb: ∀i,g=some i→c0.mine i):cy c0 c':=
  ⟨⟨k.os.trans h.below.os,k.tape.trans h.below.tape,k.output.trans h.below.output,Nat.le_trans h.below.size k.size,fun i hi hy=>(k.keep i (Nat.lt_of_lt_of_le hi h.below.size) (fun e=>by
      rcases hb i e with h1|h1
      · omega
      · exact hy h1)).trans (h.below.block i hi hy)⟩,
   fun i hi hy=>(k.old i (c.ok i (h.X i hi hy))).2 (h.X i hi hy),fun i hi hx h'=>h.Xn i hi hx ((k.old i (Nat.lt_of_lt_of_le hi h.below.size)).1 h')⟩
def blk:Value→Option Nat
  | .slice (some a) _ (_+1)=>some a.block
  | .map (some r)=>some r
  | _=>none
def Own {α:Type} (c:Cx) (E:TypeId) (v:Value) (r:Rep α) (l:List α):Prop:=
  l.length≤LEN∧((∃a,v= .slice a 0 0∧l=[])∨
    ∃g cap cur,v= .slice (some ⟨g,0,none⟩) l.length (cap+1)∧g∈c.X∧c.w.heap[g]? =some (.cells cur E (0,0))∧l.length≤cap+1∧cap+1≤maxLen∧cur.size=(cap+1)*r.n∧a7 r c (cur.toList.take (l.length*r.n)) l)
theorem Own.len {α:Type} {c:Cx} {E:TypeId} {v:Value} {r:Rep α} {l:List α} (h:Own c E v r l):l.length≤LEN:=h.1
theorem Own.nil {α:Type} {c:Cx} {E:TypeId} {r:Rep α}:Own c E (.slice none 0 0) r ([]:List α):=⟨Nat.zero_le _,.inl ⟨none,rfl,rfl⟩⟩
theorem Own.isX {α:Type} {c:Cx} {E:TypeId} {v:Value} {r:Rep α} {l:List α} (h:Own c E v r l): ∀g,blk v=some g→g∈c.X:=by
  intro g hg
  rcases h.2 with ⟨a,rfl,_⟩|⟨g',cap,cur,rfl,h1,_⟩
  · cases a<;>simp [blk] at hg
  · simp [blk] at hg;subst hg;exact h1
theorem Own.lt {α:Type} {c:Cx} {E:TypeId} {v:Value} {r:Rep α} {l:List α} (h:Own c E v r l): ∀g,blk v=some g→g<c.w.heap.size:=fun g hg=>c.ok g (h.isX g hg)
theorem Own.chg {α:Type} {g:Option Nat} {c c':Cx} {E:TypeId} {v:Value} {r:Rep α} {l:List α} (h:Own c E v r l) (k:c.chg g c') (hne: ∀i,blk v=some i→g≠some i):Own c' E v r l:=by
  refine ⟨h.1,?_⟩
  rcases h.2 with h'|⟨g',cap,cur,rfl,h1,h2,h3,h4,h5,h6⟩
  · exact .inl h'
  · have hlt:=c.ok g' h1
    exact .inr ⟨g',cap,cur,rfl,(k.old g' hlt).2 h1,(k.keep g' hlt (hne g' rfl)).trans h2,h3,h4,h5,cR k.pub h6⟩
theorem Cx.le.chg {c c':Cx} (h:c.le c'):c.chg none c':=⟨h.below.os,h.below.tape,h.below.output,h.size,fun k hk _=>h.below.block k hk,h.old,fun k hk=>by cases hk⟩
theorem Own.le {α:Type} {c c':Cx} {E:TypeId} {v:Value} {r:Rep α} {l:List α} (h:Own c E v r l) (k:c.le c'):Own c' E v r l:=h.chg k.chg (fun _ _=>by simp)
def Ph.own {α:Type} (c0:Cx) (E:TypeId) (r:Rep α) (l:List α):Ph:=
  ⟨fun v c=>Own c E v r l∧ ∀g,blk v=some g→c0.w.heap.size≤g,fun h k=>⟨h.1.le k,h.2⟩⟩
def Cx.dropv (c:Cx) (v:Value):Cx:={X:=c.X.filter (fun k=>blk v≠some k),w:=c.w,ok:=fun k hk=>c.ok k (List.mem_filter.1 hk).1}
theorem Cx.pub_dropv (c:Cx) (v:Value):c.pub (c.dropv v):=⟨Nat.le_refl _,fun k _ hk=>⟨fun h=>hk (List.mem_filter.1 h).1,fun _ h _=>h⟩⟩
theorem Own.val {α:Type} {c:Cx} {E:TypeId} {v:Value} {r:Rep α} {l:List α} (h:Own c E v r l):(gV r).val (c.dropv v) v l:=by
  obtain ⟨hl,h⟩:=h
  refine fw.2 ?_
  rcases h with ⟨a,rfl,rfl⟩|⟨g,cap,cur,rfl,h1,h2,h3,h4,h5,h6⟩
  · exact ⟨a,0,rfl,⟨hl,Nat.le_refl _⟩,.inl rfl⟩
  · refine ⟨some ⟨g,0,none⟩,cap+1,rfl,⟨hl,h3⟩,.inr ⟨g,0,_,rfl,c.ok g h1,?_,?_,cR (c.pub_dropv _) h6⟩⟩
    · intro hk
      have:=(List.mem_filter.1 hk).2
      simp [blk] at this
    · intro j u hj
      rw [List.getElem?_take] at hj
      split at hj
      · simp only [Nat.zero_add]
        show (c.dropv _).w.cell? _=_
        simp only [Cx.dropv,World.cell?,h2]
        simpa using hj
      · cases hj
theorem Cx.dropv_var {α:Type} {c:Cx} {b:Nat} {v:Value} {r:Rep α} {d:α} (h:Var c b r d) (hne:blk v≠some b):Var (c.dropv v) b r d:=by
  obtain ⟨h1,T,cs,h2,h3⟩:=h
  exact ⟨List.mem_filter.2 ⟨h1,by simpa using hne⟩,T,cs,h2,r.mono h3 (c.pub_dropv v)⟩
theorem Cx.dropv_own {α:Type} {c:Cx} {E:TypeId} {v u:Value} {r:Rep α} {l:List α} (h:Own c E u r l) (hne: ∀g,blk u=some g→blk v≠some g):Own (c.dropv v) E u r l:=by
  refine ⟨h.1,?_⟩
  rcases h.2 with h'|⟨g',cap,cur,rfl,h1,h2,h3,h4,h5,h6⟩
  · exact .inl h'
  · exact .inr ⟨g',cap,cur,rfl,List.mem_filter.2 ⟨h1,by simpa using hne g' rfl⟩,h2,h3,h4,h5,cR (c.pub_dropv v) h6⟩
theorem cy.dropv {c0 c:Cx} {v:Value} (h:cy c0 c) (hg: ∀g,blk v=some g→c0.mine g):cy c0 (c.dropv v):=
  ⟨h.below,fun k hk hy=>List.mem_filter.2 ⟨h.X k hk hy,by
    have:=c0.ok k hk
    simp only [decide_eq_true_eq,ne_eq]
    intro e
    rcases hg k e with h1|h1
    · omega
    · exact hy h1⟩,fun i hi hx h'=>h.Xn i hi hx (List.mem_filter.1 h').1⟩
def Src {α:Type} (c:Cx) (v:Value) (r:Rep α) (l:List α):Prop:=
  ∃a cap,v= .slice a l.length cap∧(l=[]∨ ∃b o cs,a=some ⟨b,o,none⟩∧cY c.w b o cs∧a7 r c cs l)
theorem At {α:Type} {c:Cx} {v:Value} {r:Rep α} {l:List α} (h:(gV r).val c v l):Src c v r l:=by
  obtain ⟨a,cap,rfl,_,h⟩:=fw.1 h
  rcases h with h|⟨b,o,cs,e,_,_,h3,h4⟩
  · exact ⟨a,cap,rfl,.inl h⟩
  · exact ⟨a,cap,rfl,.inr ⟨b,o,cs,e,h3,h4⟩⟩
theorem Au {α:Type} {c:Cx} {E:TypeId} {v:Value} {r:Rep α} {l:List α} (h:Own c E v r l):Src c v r l:=by
  rcases h.2 with ⟨a,rfl,rfl⟩|⟨g,cap,cur,rfl,h1,h2,h3,h4,h5,h6⟩
  · exact ⟨a,0,rfl,.inl rfl⟩
  · refine ⟨_,_,rfl,.inr ⟨g,0,_,rfl,?_,h6⟩⟩
    intro j u hj
    rw [List.getElem?_take] at hj
    split at hj
    · simp only [Nat.zero_add,World.cell?,h2]
      simpa using hj
    · cases hj
structure mD {α:Type} (P:Program) (T E:TypeId) (r:Rep α) (bytes:Nat) (z:α):Prop where
  under:P.underlying T=some (.slice E)
  info: ∃i zv,P.info? E=some i∧i.zero=some zv∧i.size=r.n∧i.bytes=bytes∧ ∀c:Cx,r.val c zv z
  pos:0<r.n
section
variable {P:Program} {K:Value→World→Prop} {F:Fm} {o:Oper} {c:Cx}
theorem q_ {α:Type} (c:Cx) (E:TypeId) (r:Rep α) (l:List α) (xs:List Value) (extra:Array Value) (G:Nat) (h0:0<G) (hG:l.length≤G) (hM:G≤maxLen) (hlen:l.length≤LEN) (hx:a7 r c xs l) (he:extra.size=(G - l.length)*r.n) (w0:World)
    (hw0:w0.heap=c.w.heap∧w0.os=c.w.os∧w0.tape=c.w.tape∧w0.output=c.w.output):
    ∃c':Cx,c'.w=w0.alloc (.cells (xs.toArray++extra) E)∧c.le c'∧Own c' E (.slice (some ⟨c.w.heap.size,0,none⟩) l.length G) r l∧c.w.heap.size<c'.w.heap.size:=by
  obtain ⟨e1,e2,e3,e4⟩:=hw0
  obtain ⟨cp,rfl⟩: ∃cp,G=cp+1:=⟨G - 1,by omega⟩
  have hxl:=iO hx
  have hle:Below c.w.heap.size c.w (w0.alloc (.cells (xs.toArray++extra) E)):=
    ⟨e2,e3,e4,by simp [e1],fun k hk=>by rw [Below.heap_alloc w0 _ k (by rw [e1];exact hk),e1]⟩
  have hnew:=heap_alloc_new w0 (.cells (xs.toArray++extra) E)
  rw [e1] at hnew
  refine ⟨⟨c.w.heap.size::c.X,w0.alloc (.cells (xs.toArray++extra) E),fun k hk=> ?_,[]⟩,rfl,⟨hle,fun k hk=> ?_⟩,?_,?_⟩
  · rcases List.mem_cons.1 hk with rfl|h
    · simp [e1]
    · have:=c.ok k h;simp [e1];omega
  · simp [Nat.ne_of_lt hk]
  · refine ⟨hlen,.inr ⟨c.w.heap.size,cp,_,rfl,by simp,hnew,hG,hM,?_,?_⟩⟩
    · simp only [Array.size_append,List.size_toArray,he,hxl,←Nat.add_mul]
      congr 1;omega
    · have htake:(xs.toArray++extra).toList.take (l.length*r.n)=xs:=by
        simp only [Array.toList_append]
        rw [←hxl,List.take_left]
      rw [htake]
      exact cR ⟨hle.size,fun k hk hx=>⟨by simp [Nat.ne_of_lt hk,hx],fun o ho _=>(hle.block k hk).trans ho⟩⟩ hx
  · simp [e1]
theorem mE {g n cap:Nat} {i:Nat} (h:blk (.slice (some ⟨g,0,none⟩) n cap)=some i):i=g:=by
  cases cap<;>simp [blk] at h
  exact h.symm
theorem Gc {α:Type} {T E U:TypeId} {r:Rep α} {bytes:Nat} {z:α} {v u:Value} {l m:List α} (hE:mD P T E r bytes z) (ho:Own c E v r l) (hs:Src c u r m) (hlen:l.length+m.length≤LEN) (hby:(l.length+m.length)*bytes≤140737488355328):
    ∃v' c',(Builtin.append_ #[T,T] U #[v,u]).run P c.w= .ok v' c'.w∧c.chg (blk v) c'∧Own c' E v' r (l++m)∧ ∀g,blk v'=some g→blk v=some g∨c.w.heap.size≤g:=by
  obtain ⟨i,zv,hi,hz,hsz,hb,hzr⟩:=hE.info
  have hpos:=hE.pos
  have hmax:l.length+m.length≤9223372036854775807:=by unfold LEN at hlen;omega
  have hzs:zv.cells.size=r.n:=by
    have:=r.len (hzr c).cells
    simpa using this
  obtain ⟨a2,cap2,rfl,hsrc⟩:=hs
  have hmax':((l.length+m.length:Nat):Int)≤9223372036854775807:=by omega
  -- nothing to append
  by_cases hm:m=[]
  · subst hm
    have hself:c.chg (blk v) c:=⟨rfl,rfl,rfl,Nat.le_refl _,fun _ _ _=>rfl,fun _ _=>Iff.rfl,ho.isX⟩
    refine ⟨v,c,?_,hself,by simpa using ho,fun g hg=> .inl hg⟩
    have hfirst: ∀w:World,(Builtin.firstCells i.size 0 (.slice a2 0 cap2)).run P w= .ok #[] w:=fun w=>by
      cases a2<;>simp [Builtin.firstCells,loadCells,loadCellsFrom]
    rcases ho.2 with ⟨a,rfl,rfl⟩|⟨g,cap,cur,rfl,h1,h2,h3,h4,h5,h6⟩
    · cases a<;>simp [Builtin.append_,run_underlying hE.under,sizeOf,typeInfo,hi,Builtin.lenOf,hfirst,storeCells]
    · simp [Builtin.append_,run_underlying hE.under,sizeOf,typeInfo,hi,Builtin.lenOf,hfirst,storeCells,h3]
  · obtain ⟨b2,o2,cs2,rfl,hc2,har2⟩:=hsrc.resolve_left hm
    have hmp:0<m.length:=List.length_pos_iff.2 hm
    have hl2:=iO har2
    have hnews: ∀j x,cs2[j]? =some x→c.w.cell? ((⟨b2,o2,none⟩:Addr).add j)=some x:=fun j x hj=>by
      have hadd:(⟨b2,o2,none⟩:Addr).add j=⟨b2,o2+j,none⟩:=by unfold Addr.add;split<;>simp_all
      rw [hadd];exact hc2 j x hj
    -- a new array
    have grown: ∀(old:Nat) (xs:List Value),old<l.length+m.length→a7 r c xs l→
        ∃c':Cx,c'.w=c.w.drew.alloc (.cells (xs.toArray++cs2.toArray++Builtin.zeroCells zv.cells (grownCap c.w (l.length+m.length) old E - (l.length+m.length))) E)∧c.le c'∧
          Own c' E (.slice (some ⟨c.w.heap.size,0,none⟩) (l.length+m.length) (grownCap c.w (l.length+m.length) old E)) r (l++m):=by
      intro old xs hold hxs
      have hge:=grownCap_ge c.w (l.length+m.length) old E
      have hcm:grownCap c.w (l.length+m.length) old E≤maxLen:=grownCap_le_maxLen c.w _ old E (by unfold maxLen;omega)
      obtain ⟨c',h1,h2,h3,_⟩:=q_ c E r (l++m) (xs++cs2) (Builtin.zeroCells zv.cells (grownCap c.w (l.length+m.length) old E - (l.length+m.length))) (grownCap c.w (l.length+m.length) old E) (by omega) (by simpa using hge) hcm (by simpa using hlen)
        (kS hxs har2) (by rw [size_zeroCells,hzs];simp) c.w.drew ⟨rfl,rfl,rfl,rfl⟩
      refine ⟨c',by rw [h1];simp,h2,by simpa using h3⟩
    rcases ho.2 with ⟨a,rfl,rfl⟩|⟨g,cap,cur,rfl,h1,h2,h3,h4,h5,h6⟩
    · -- no capacity
      have hz0:a7 r c [] ([]:List α):=rfl
      obtain ⟨c',hw,hle,hown⟩:=grown 0 [] (by simp;omega) hz0
      simp only [List.length_nil,Nat.zero_add] at hw hown hmax' hby
      have hch:c.chg (blk (.slice a 0 0)) c':=by
        have:blk (.slice a 0 0)=none:=by cases a<;>rfl
        rw [this];exact hle.chg
      refine ⟨_,c',?_,hch,hown,fun g hg=> .inr (Nat.le_of_eq (mE hg).symm)⟩
      rw [hw]
      cases a with
      | none=>
        have:=run_append_nil (P:=P) c.w T U E i zv hE.under hi hz ⟨b2,o2,none⟩ m.length cap2 cs2 (by rw [hl2,hsz]) hnews hmp hmax' (by rw [hb];omega)
        simpa using this
      | some ad=>
        have:=run_append_grow (P:=P) c.w T U E i zv hE.under hi hz ad 0 0 [] (by simp) (by simp) ⟨b2,o2,none⟩ m.length cap2 cs2 (by rw [hl2,hsz]) hnews (by omega) (by simpa using hmax') (growslice_fits (by omega) (by rw [hb];simpa using hby))
        simpa using this
    · by_cases hroom:l.length+m.length≤cap+1
      · -- there is room
        have hfit:l.length*i.size+cs2.length≤cur.size:=by rw [hl2,h5,hsz,←Nat.add_mul];exact Nat.mul_le_mul_right _ hroom
        have hr:=run_append_room (P:=P) c.w T U E i hE.under hi g l.length (cap+1) cur h2 ⟨b2,o2,none⟩ m.length cap2 cs2 (by rw [hl2,hsz]) hnews (oE har2) hroom hfit
        rw [hsz] at hr
        have hcok: ∀k,k∈c.X→k<(c.w.setRow g (cur.toList.take (l.length*r.n)++cs2++cur.toList.drop (l.length*r.n+cs2.length)).toArray).heap.size:=fun k hk=>by simpa using c.ok k hk
        have hch:c.chg (some g) ⟨c.X,_,hcok,[]⟩:=⟨rfl,rfl,rfl,by simp,fun k _ hk=>setRow_other _ _ _ _ (fun e=>hk (e▸rfl)),fun _ _=>Iff.rfl,fun k hk=>by cases hk;exact h1⟩
        refine ⟨_,⟨c.X,_,hcok,[]⟩,hr,hch,⟨by simpa using hlen,.inr ⟨g,cap,_,by simp,h1,setRow_heap c.w g cur _ E _ h2,by simpa using hroom,h4,?_,?_⟩⟩,fun g' hg'=> .inl (by rw [mE hg'];rfl)⟩
        · simp only [List.size_toArray,List.length_append,List.length_take,List.length_drop,Array.length_toList]
          rw [h5,hl2] at*
          have:(l.length+m.length)*r.n≤(cap+1)*r.n:=Nat.mul_le_mul_right _ hroom
          rw [Nat.add_mul] at this
          omega
        · have hxl:=iO h6
          have htake:(cur.toList.take (l.length*r.n)++cs2++cur.toList.drop (l.length*r.n+cs2.length)).toArray.toList.take ((l++m).length*r.n)=cur.toList.take (l.length*r.n)++cs2:=by
            simp only [List.length_append,Nat.add_mul]
            rw [List.take_append_of_le_length (by rw [List.length_append,hxl,hl2];omega)]
            exact List.take_of_length_le (by rw [List.length_append,hxl,hl2];omega)
          rw [htake]
          exact kS (cR hch.pub h6) (cR hch.pub har2)
      · -- it grows
        have hxl:=iO h6
        obtain ⟨c',hw,hle,hown⟩:=grown (cap+1) _ (by omega) h6
        have holds: ∀j x,(cur.toList.take (l.length*r.n))[j]? =some x→c.w.cell? ((⟨g,0,none⟩:Addr).add j)=some x:=fun j x hj=>by
          have hadd:(⟨g,0,none⟩:Addr).add j=⟨g,j,none⟩:=by unfold Addr.add;split<;>simp_all
          rw [hadd]
          rw [List.getElem?_take] at hj
          split at hj
          · simp only [World.cell?,h2];simpa using hj
          · cases hj
        have hr:=run_append_grow (P:=P) c.w T U E i zv hE.under hi hz ⟨g,0,none⟩ l.length (cap+1) _ (by rw [hxl,hsz]) holds ⟨b2,o2,none⟩ m.length cap2 cs2 (by rw [hl2,hsz]) hnews (by omega) hmax' (growslice_fits (by omega) (by rw [hb];exact hby))
        refine ⟨_,c',by rw [hw];exact hr,?_,hown,fun g' hg'=> .inr (Nat.le_of_eq (mE hg').symm)⟩
        have hc:=hle.chg
        exact ⟨hc.os,hc.tape,hc.output,hc.size,fun k hk _=>hc.keep k hk (by simp),hc.old,fun k hk=>ho.isX k hk⟩
theorem Av {α:Type} {T E:TypeId} {r:Rep α} {bytes:Nat} {z:α} {x y:Operand} {l m:List α} (hop:o.op= .call {callee:= .builtin .append,args:= #[x,y],argTypes:= #[T,T]}) (hE:mD P T E r bytes z) (ho:Own c E (ev F x) r l) (hs:Src c (ev F y) r m)
    (hlen:l.length+m.length≤LEN) (hby:(l.length+m.length)*bytes≤140737488355328)
    (h: ∀v' c',c.chg (blk (ev F x)) c'→Own c' E v' r (l++m)→(∀g,blk v'=some g→blk (ev F x)=some g∨c.w.heap.size≤g)→K v' c'.w):aE P K (run P F o c.w):=by
  obtain ⟨v',c',hr,h1,h2,h3⟩:=Gc (U:=o.type) hE ho hs hlen hby
  refine yv (v:=v') (w':=c'.w) ?_ (h v' c' h1 h2 h3)
  simp only [run,execOp,hop,resolve,invoke,builtin,Sem.run_bind,Sem.run_pure,Result.andThen_ok,List.map_toArray,List.map_cons,List.map_nil,hr]
theorem vl (z:Array Value) (k:Nat):(madeCells z (k*z.size)).toList=(List.replicate k z.toList).flatten:=by
  unfold madeCells
  simp only [Array.toList_map,Array.toList_range]
  induction k with
  | zero=>simp
  | succ k ih=>
    rw [Nat.add_mul,Nat.one_mul,List.range_add,List.map_append,ih,List.replicate_succ',List.flatten_append,List.map_map]
    congr 1
    simp only [List.flatten_cons,List.flatten_nil,List.append_nil]
    apply List.ext_getElem
    · simp
    · intro j h1 h2
      have hj:j<z.size:=by simpa using h2
      simp [Nat.add_comm (k*z.size) j,Nat.mod_eq_of_lt hj,hj]
theorem Gd {α:Type} {T E:TypeId} {r:Rep α} {bytes:Nat} {z:α} {x y:Operand} {k1 k2:IntKind} {n cap:Int} (hop:o.op= .makeSlice T x y) (hE:mD P T E r bytes z) (hx:ev F x= .int k1 n) (hy:ev F y= .int k2 cap) (h0:0≤n) (hc:n≤cap)
    (hlen:cap≤LEN) (hby:(bytes:Int)*cap≤281474976710656)
    (h: ∀v' c',c.le c'→Own c' E v' r (List.replicate n.toNat z)→(∀g,blk v'=some g→c.w.heap.size≤g)→K v' c'.w):aE P K (run P F o c.w):=by
  obtain ⟨i,zv,hi,hz,hsz,hb,hzr⟩:=hE.info
  have hpos:=hE.pos
  have hzs:zv.cells.size=r.n:=by
    have:=r.len (hzr c).cells
    simpa using this
  have hl:cap≤1073741824:=by unfold LEN at hlen;omega
  have hr:=run_make (P:=P) c.w T E i zv hE.under hi hz k1 k2 n cap h0 hc (by rw [hb];exact hby) (by omega)
  have hstep:run P F o c.w= .ok (.value (.slice (some ⟨c.w.heap.size,0,none⟩) n.toNat cap.toNat)) (c.w.alloc (.cells (madeCells zv.cells (cap.toNat*i.size)) E)):=by
    simp [run,execOp,hop,hx,hy,hr]
  have hcells: ∀k,a7 r c (List.replicate k zv.cells.toList).flatten (List.replicate k z):=fun k=>ve k (hzr c).cells
  have hmade:madeCells zv.cells (cap.toNat*i.size)=((List.replicate n.toNat zv.cells.toList).flatten).toArray++((List.replicate (cap.toNat - n.toNat) zv.cells.toList).flatten).toArray:=by
    apply Array.ext'
    rw [hsz,←hzs,vl]
    simp only [Array.toList_append,List.toList_toArray,←List.flatten_append,List.replicate_append_replicate]
    rw [show n.toNat+(cap.toNat - n.toNat)=cap.toNat by omega]
  by_cases hcap:cap.toNat=0
  · have hn:n.toNat=0:=by omega
    have hbl:Below c.w.heap.size c.w (c.w.alloc (.cells (madeCells zv.cells (cap.toNat*i.size)) E)):=(Below.refl _ _).alloc (Nat.le_refl _) _
    have e0:List.replicate n.toNat z=[]:=by rw [hn];rfl
    have e1:Value.slice (some ⟨c.w.heap.size,0,none⟩) n.toNat cap.toNat= .slice (some ⟨c.w.heap.size,0,none⟩) 0 0:=by rw [hn,hcap]
    rw [e0] at h
    refine yv hstep ?_
    rw [e1]
    exact h _ (c.at _ hbl.size) (Cx.le_at hbl) ⟨Nat.zero_le _,.inl ⟨_,rfl,rfl⟩⟩ (fun g hg=>by simp [blk] at hg)
  · obtain ⟨c',hw,hle,hown,_⟩:=q_ c E r (List.replicate n.toNat z) _ ((List.replicate (cap.toNat - n.toNat) zv.cells.toList).flatten).toArray cap.toNat (by omega) (by simp;omega) (by unfold maxLen;omega) (by simp;unfold LEN;omega) (hcells _) (by
      have:=iO (hcells (cap.toNat - n.toNat))
      simpa using this) c.w ⟨rfl,rfl,rfl,rfl⟩
    refine yv hstep ?_
    rw [hmade,←hw]
    exact h _ c' hle (by simpa using hown) (fun g hg=>Nat.le_of_eq (mE hg).symm)
end
end Go.Proofs.YteibkofekpejgaaGreatDoor
namespace Go.Proofs.YteibkofekpejgaaGreatDoor
open Go.RowKit
section
variable {P:Program} {K:Value→World→Prop} {F:Fm} {o:Oper} {c:Cx} {w:World}
def jD (v:Value) (n i off:Nat) (p:Value):Prop:= ∃g len cap,v= .slice (some ⟨g,0,none⟩) len (cap+1)∧p= .pointer (some ⟨g,i*n+off,none⟩)
theorem Ge {S:TypeId} {x:Operand} {k off n i o1:Nat} {v:Value} (ho:o.op= .fieldAddr S x k) (hf:oG P S k off) (hx:jD v n i o1 (ev F x)) (h: ∀u,jD v n i (o1+off) u→K u w):aE P K (run P F o w):=by
 obtain ⟨g,len,cap,e1,e2⟩:=hx
 have hadd:(⟨g,i*n+o1,none⟩:Addr).add off=⟨g,i*n+(o1+off),none⟩:=by unfold Addr.add;split<;>simp_all [Nat.add_assoc]
 refine yv (v:= .pointer (some ⟨g,i*n+(o1+off),none⟩)) (w':=w) ?_ (h _ ⟨g,len,cap,e1,rfl⟩)
 simp [run,execOp,ho,e2,hf w,hadd]
theorem Aw {α:Type} {r:Rep α} {cur:Array Value} {l:List α} {i:Nat} (h:a7 r c (cur.toList.take (l.length*r.n)) l) (hi:i<l.length):r.is c ((cur.toList.drop (i*r.n)).take r.n) l[i]:=by
 have:=qY h i hi
 rw [List.drop_take,List.take_take] at this
 have h1:(i+1)*r.n≤l.length*r.n:=Nat.mul_le_mul_right _ hi
 rw [Nat.add_mul,Nat.one_mul] at h1
 rwa [show min r.n (l.length*r.n - i*r.n)=r.n by omega] at this
theorem ra {α β:Type} [Inhabited α] {r:Rep α} {s:Rep β} {T E:TypeId} {x:Operand} {v:Value} {l:List α} {i off:Nat} {get:α→β} {set:α→β→α} (ho:o.op= .load T x) (hT:dG P T s) (hv:Own c E v r l) (hs:Sub r off s get set) (hi:i<l.length)
  (hx:jD v r.n i off (ev F x)) (h: ∀u,s.val c u (get (l.getD i default))→K u c.w):aE P K (run P F o c.w):=by
 obtain ⟨g,len,cap,e1,e2⟩:=hx
 subst e1
 rcases hv.2 with ⟨a,e,rfl⟩|⟨g',cap',cur,e,h1,h2,h3,h4,h5,h6⟩
 ·simp at hi
 ·cases e
  have hel:=Aw h6 hi
  have hg:l.getD i default=l[i]:=by simp [List.getD,List.getElem?_eq_getElem hi]
  have hpart:=hs.get_is hel
  have hcells:cY c.w g (i*r.n+off) ((((cur.toList.drop (i*r.n)).take r.n).drop off).take s.n):=by
   have h0:cY c.w g 0 cur.toList:=by
    intro j u hj
    have:cur[j]? =some u:=by simpa using hj
    simp [World.cell?,h2,this]
   have:=(h0.part (i*r.n) r.n).part off s.n
   simpa using this
  rw [hg] at h
  refine yv (v:=mkV s.agg _) (w':=c.w) ?_ (h _ ⟨_,hpart,rfl⟩)
  simp [run,execOp,ho,Instr.loadAt,e2,Instr.sureAddr,oF hT hpart hcells]
theorem vm {α β:Type} [Inhabited α] {r:Rep α} {s:Rep β} {T E:TypeId} {x y:Operand} {v:Value} {l:List α} {i off:Nat} {get:α→β} {set:α→β→α} {d:β} (ho:o.op= .store T x y) (hT:dG P T s) (hv:Own c E v r l) (hs:Sub r off s get set) (hi:i<l.length)
  (hx:jD v r.n i off (ev F x)) (hy:s.val c (ev F y) d) (h: ∀c',c.chg (blk v) c'→Own c' E v r (l.set i (set (l.getD i default) d))→K undef c'.w):aE P K (run P F o c.w):=by
 obtain ⟨g,len,cap,e1,e2⟩:=hx
 subst e1
 rcases hv.2 with ⟨a,e,rfl⟩|⟨g',cap',cur,e,h1,h2,h3,h4,h5,h6⟩
 ·simp at hi
 ·cases e
  have hel:=Aw h6 hi
  have hg:l.getD i default=l[i]:=by simp [List.getD,List.getElem?_eq_getElem hi]
  have hyc:=hy.cells
  have hyl:=s.len hyc
  have hbd:=hs.bound
  have hin:(i+1)*r.n≤l.length*r.n:=Nat.mul_le_mul_right _ hi
  rw [Nat.add_mul,Nat.one_mul] at hin
  have hcap:l.length*r.n≤(cap+1)*r.n:=Nat.mul_le_mul_right _ h3
  have hfit:i*r.n+off+(ev F y).cells.toList.length≤cur.size:=by omega
  have hst:=run_storeCells_at P g (i*r.n+off) E (ev F y).cells.toList 0 cur c.w h2 (by simpa using hfit) (s.cell hyc)
  simp only [Nat.add_zero] at hst
  have hnew:=hs.set_is hel hyc
  have hset:=u_ hnew h6 i hi
  let cur':=(cur.toList.take (i*r.n+off)++(ev F y).cells.toList++cur.toList.drop (i*r.n+off+(ev F y).cells.toList.length)).toArray
  have hcok: ∀k,k∈c.X→k<(c.w.setRow g cur').heap.size:=fun k hk=>by simpa using c.ok k hk
  have hch:c.chg (some g) ⟨c.X,c.w.setRow g cur',hcok,[]⟩:=⟨rfl,rfl,rfl,by simp,fun k _ hk=>setRow_other _ _ _ _ (fun e=>hk (e▸rfl)),fun _ _=>Iff.rfl,fun k hk=>by cases hk;exact h1⟩
  refine ys (w':=c.w.setRow g cur') ?_ (h ⟨c.X,_,hcok,[]⟩ hch ⟨by simpa using hv.1,.inr ⟨g,cap,cur',by simp,h1,setRow_heap c.w g cur _ E _ h2,by simpa using h3,h4,?_,?_⟩⟩)
  ·have hsz:(ev F y).cells.size=s.n:=by rw [←hyl];simp
   simp only [run,execOp,ho,Instr.storeAt,e2,Instr.sureAddr,Sem.run_bind,Sem.run_pure,Result.andThen_ok,storeVar,hT.size,hsz,ne_eq,not_true_eq_false,if_false,hst,cur']
  ·simp only [cur',List.size_toArray,List.length_append,List.length_take,List.length_drop,Array.length_toList]
   have hsz:(ev F y).cells.size=s.n:=by rw [←hyl];simp
   have hf2:=hfit
   simp only [Array.length_toList] at hf2
   rw [h5] at hf2⊢
   omega
  ·rw [hg]
   refine cR hch.pub (cast (congrArg (fun q=>a7 r c q _) ?_) hset)
   simp only [cur',List.length_set]
   generalize hL:l.length*r.n=L at*
   generalize hI:i*r.n=I at*
   generalize hY:(ev F y).cells.toList=ys at*
   rw [hyl]
   have hc1:cur.toList.length=(cap+1)*r.n:=by simpa using h5
   -- both sides, piece by piece
   have e1:(cur.toList.take L).take I=cur.toList.take I:=by rw [List.take_take,show min I L=I by omega]
   have e2:(cur.toList.drop I).take r.n=(cur.toList.drop I).take r.n:=rfl
   have e3:(cur.toList.take L).drop (I+r.n)=(cur.toList.drop (I+r.n)).take (L - (I+r.n)):=by rw [List.drop_take]
   have e4:((cur.toList.drop I).take r.n).take off=(cur.toList.drop I).take off:=by rw [List.take_take,show min off r.n=off by omega]
   have e5:((cur.toList.drop I).take r.n).drop (off+s.n)=(cur.toList.drop (I+off+s.n)).take (r.n - (off+s.n)):=by rw [List.drop_take,List.drop_drop,Nat.add_assoc]
   rw [e1,e3,e4,e5]
   have e6:cur.toList.take (I+off)=cur.toList.take I++(cur.toList.drop I).take off:=by rw [List.take_add]
   rw [e6]
   have e7:cur.toList.drop (I+off+s.n)=(cur.toList.drop (I+off+s.n)).take (r.n - (off+s.n))++cur.toList.drop (I+r.n):=by
    conv=>lhs;rw [←List.take_append_drop (r.n - (off+s.n)) (cur.toList.drop (I+off+s.n))]
    rw [List.drop_drop,show I+off+s.n+(r.n - (off+s.n))=I+r.n by omega]
   have hlt:(cur.toList.take I++(cur.toList.drop I).take off++ys++(cur.toList.drop (I+off+s.n)).take (r.n - (off+s.n))).length=I+r.n:=by
    simp only [List.length_append,List.length_take,List.length_drop,hc1,hyl]
    omega
   rw [List.toList_toArray]
   conv=>rhs;rw [e7,←List.append_assoc,List.take_append,hlt,List.take_of_length_le (by rw [hlt];omega)]
   simp [List.append_assoc]
theorem jD.congr {v:Value} {n i off:Nat} {p q:Value} (h:jD v n i off p) (e:q=p):jD v n i off q:=by subst e;exact h
theorem Gf {α:Type} {T E:TypeId} {r:Rep α} {bytes n:Nat} {z:α} {parts:List (Nat×Operand)} {d:List α} (ho:o.op= .buildSlice T n parts.toArray) (hE:mD P T E r bytes z) (hn:n*r.n≤16777216)
  (hf:gW (fun i=>some (i*r.n,r.n)) (mC r n) c (parts.map fun p=>(p.1,ev F p.2)) (List.replicate n z) d) (hd:d.length=n)
  (h: ∀v c',c.le c'→Own c' E v r d→(∀g,blk v=some g→c.w.heap.size≤g)→K v c'.w):aE P K (run P F o c.w):=by
 obtain ⟨i,zv,hi,hz,hsz,hb,hzr⟩:=hE.info
 have hpos:=hE.pos
 have hzs:zv.cells.size=r.n:=by
  have:=r.len (hzr c).cells
  simpa using this
 have hru:(underlying T).run P c.w= .ok (.slice E) c.w:=by simp [underlying,hE.under]
 have hzero:(Array.range (n*i.size)).map (fun j=>zv.cells[j% zv.cells.size]!)=madeCells zv.cells (n*i.size):=rfl
 have hz0:(mC r n).is c (madeCells zv.cells (n*i.size)).toList (List.replicate n z):=by
  rw [hsz,←hzs,vl]
  exact ⟨by simp,ve n (hzr c).cells⟩
 obtain ⟨cs',h1,h2⟩:=hf _ hz0
 have hstep:run P F o c.w= .ok (.value (.slice (some ⟨c.w.heap.size,0,none⟩) n n)) (c.w.alloc (.cells cs' E)):=by
  have e:(parts.toArray.map fun (p:Nat×Operand)=>(p.1,ev F p.2)).toList=parts.map fun p=>(p.1,ev F p.2):=by simp
  have hnot: ¬(16777216<n*r.n):=by omega
  by_cases hn0:n=0
  ·subst hn0
   have h1':Instr.fill (fun i=>some (i*r.n,r.n)) #[] (parts.map fun p=>(p.1,ev F p.2))=some cs':=by simpa [madeCells,Array.range_zero'] using h1
   simp [run,execOp,ho,Instr.buildSlice,hru,sizeOf,typeInfo,hi,hsz,Array.range_zero',h1',newRow]
  ·have hne:n*r.n≠0:=Nat.mul_ne_zero hn0 (by omega)
   rw [hsz] at h1
   simp [run,execOp,ho,Instr.buildSlice,hru,sizeOf,typeInfo,hi,zeroValue,hz,hsz,hnot,hne]
   have hn0': ¬r.n=0:=by omega
   rw [show (Array.map (fun x=>zv.cells[x% zv.cells.size]!) (Array.range (n*r.n)))=madeCells zv.cells (n*r.n) from rfl,h1]
   simp [newRow]
 by_cases hn0:n=0
 ·subst hn0
  have hbl:Below c.w.heap.size c.w (c.w.alloc (.cells cs' E)):=(Below.refl _ _).alloc (Nat.le_refl _) _
  refine yv hstep ?_
  exact h _ (c.at _ hbl.size) (Cx.le_at hbl) ⟨by omega,.inl ⟨_,rfl,List.eq_nil_of_length_eq_zero hd⟩⟩ (fun g hg=>by simp [blk] at hg)
 ·have hl:n≤16777216:=Nat.le_trans (Nat.le_mul_of_pos_right n hpos) hn
  obtain ⟨c',hw,hle,hown,_⟩:=q_ c E r d cs'.toList #[] n (by omega) (by omega) (by unfold maxLen;omega) (by unfold LEN;omega) h2.2 (by simp [hd]) c.w ⟨rfl,rfl,rfl,rfl⟩
  refine yv hstep ?_
  have e:c'.w=c.w.alloc (.cells cs' E):=by rw [hw];simp
  rw [←e]
  rw [hd] at hown
  exact h _ c' hle hown (fun g hg=>Nat.le_of_eq (mE hg).symm)
theorem Ax {α:Type} {r:Rep α} {a:Option Addr} {l:List α} {lo hi m:Nat} (h:kT r c a l) (h1:lo≤hi) (h2:hi≤l.length) (hm:hi≤m):kT r c (if m=lo then a else a.map (·.add (lo*r.n))) ((l.drop lo).take (hi - lo)):=by
 rcases h with rfl|⟨b,o,cs,rfl,k1,k2,k3,k4⟩
 ·exact .inl (by simp)
 ·by_cases he:lo=hi
  ·subst he;exact .inl (by simp)
  ·rw [if_neg (by omega)]
   have hadd:(⟨b,o,none⟩:Addr).add (lo*r.n)=⟨b,o+lo*r.n,none⟩:=by unfold Addr.add;split<;>simp_all
   refine .inr ⟨b,o+lo*r.n,(cs.drop (lo*r.n)).take ((hi - lo)*r.n),by simp [hadd],k1,k2,k3.part _ _,?_⟩
   have key: ∀(cs:List Value) (l:List α) (lo n:Nat),a7 r c cs l→lo+n≤l.length→a7 r c ((cs.drop (lo*r.n)).take (n*r.n)) ((l.drop lo).take n):=by
    intro cs l lo n
    induction lo generalizing cs l with
    | zero=>
     induction n generalizing cs l with
     | zero=>intro _ _;simp [a7]
     | succ n ih=>
      intro ha hl
      match l,ha with
      | d::l,⟨c1,c2,e,i1,i2⟩=>
       have hl1:=r.len i1
       have:=ih c2 l i2 (by simp at hl;omega)
       simp only [Nat.zero_mul,List.drop_zero,List.take_succ_cons] at this⊢
       refine ⟨c1,c2.take (n*r.n),?_,i1,this⟩
       subst e
       rw [Nat.add_mul,Nat.one_mul,List.take_append,hl1,List.take_of_length_le (by omega),show n*r.n+r.n - r.n=n*r.n by omega]
      | [],_=>simp at hl
    | succ lo ih=>
     intro ha hl
     match l,ha with
     | d::l,⟨c1,c2,e,i1,i2⟩=>
      have hl1:=r.len i1
      have:=ih c2 l i2 (by simp at hl;omega)
      subst e
      rw [show (lo+1)*r.n=c1.length+lo*r.n by rw [hl1,Nat.add_mul];omega,←List.drop_drop,List.drop_left]
      simpa using this
     | [],_=>simp at hl
   exact key cs l lo (hi - lo) k4 (by omega)
theorem mF {x:Value} {k:IntKind} {i:Int} {y:Nat} {code:BoundsCode} (hx:x= .int k i) (h:0≤i∧i≤y):(Instr.sliceBound x y code).run P w= .ok i.toNat w:=by
 subst hx
 simp [Instr.sliceBound,asIntOf,h.1,h.2]
theorem Ay {α:Type} {r:Rep α} {T E:TypeId} {x:Operand} {lo hi:Option Operand} {l:List α} {i j:Int} (ho:o.op= .slice T x lo hi none) (hT:P.underlying T=some (.slice E)) (hE:dG P E r)
  (hx:(gV r).val c (ev F x) l) (hlo:(lo=none∧i=0)∨ ∃y k,lo=some y∧ev F y= .int k i) (hhi:(hi=none∧j=l.length)∨ ∃y k,hi=some y∧ev F y= .int k j) (h0:0≤i∧i≤j∧j≤l.length)
  (h: ∀v,(gV r).val c v ((l.drop i.toNat).take (j.toNat - i.toNat))→(∃a cap,ev F x= .slice a l.length cap∧v= .slice (if cap=i.toNat then a else a.map (·.add (i.toNat*r.n))) (j.toNat - i.toNat) (cap - i.toNat))→K v c.w):aE P K (run P F o c.w):=by
 obtain ⟨a,cap,e,hl,hs⟩:=fw.1 hx
 have hru:(underlying T).run P c.w= .ok (.slice E) c.w:=by simp [underlying,hT]
 have hb1: ∀y k code,ev F y= .int k j→(Instr.sliceBound (ev F y) cap code).run P c.w= .ok j.toNat c.w:=fun y k code hy=>mF hy ⟨by omega,by have:=hl.2;omega⟩
 have hb2: ∀y k code,ev F y= .int k i→(Instr.sliceBound (ev F y) j.toNat code).run P c.w= .ok i.toNat c.w:=fun y k code hy=>mF hy ⟨by omega,by omega⟩
 have hp:=Ax (m:=cap) hs (show i.toNat≤j.toNat by omega) (show j.toNat≤l.length by omega) (by have:=hl.2;omega)
 have hn:((l.drop i.toNat).take (j.toNat - i.toNat)).length=j.toNat - i.toNat:=by simp;omega
 refine yv (v:= .slice (if cap=i.toNat then a else a.map (·.add (i.toNat*r.n))) (j.toNat - i.toNat) (cap - i.toNat)) (w':=c.w) ?_ (h _ (fw.2 ⟨_,cap - i.toNat,by rw [hn],⟨by rw [hn];have:=hl.1;omega,by rw [hn];have:=hl.2;omega⟩,hp⟩) ⟨a,cap,e,rfl⟩)
 have hnot: ∀T',P.underlying T=some T'→T'= .slice E:=fun T' h'=>by rw [hT] at h';exact (Option.some.inj h').symm
 rcases hlo with ⟨rfl,rfl⟩|⟨y1,k1,rfl,hy1⟩<;>rcases hhi with ⟨rfl,rfl⟩|⟨y2,k2,rfl,hy2⟩
 ·simp [run,execOp,ho,Instr.sliceAt,hru,e,Instr.slice,Instr.sliceBounds,hE.size]
 ·simp [run,execOp,ho,Instr.sliceAt,hru,e,Instr.slice,Instr.sliceBounds,hE.size,hb1 y2 k2 _ hy2]
 ·have hb3: ∀code,(Instr.sliceBound (ev F y1) l.length code).run P c.w= .ok i.toNat c.w:=fun code=>mF hy1 ⟨by omega,by omega⟩
  simp [run,execOp,ho,Instr.sliceAt,hru,e,Instr.slice,Instr.sliceBounds,hE.size,hb3]
 ·simp [run,execOp,ho,Instr.sliceAt,hru,e,Instr.slice,Instr.sliceBounds,hE.size,hb1 y2 k2 _ hy2,hb2 y1 k1 _ hy1]
end
end Go.Proofs.YteibkofekpejgaaGreatDoor
namespace Go.Proofs.YteibkofekpejgaaGreatDoor
open Go.RowKit
section
variable {P:Program} {K:Value→World→Prop} {F:Fm} {o:Oper} {c:Cx} {w:World}
def vn (P:Program) (F:Fm) (w:World):ResultVar→Value→Prop
 | .tmp t,v=>F t=v
 | .cell t T,v=> ∃a,F t= .pointer (some a)∧(loadVar T a).run P w= .ok v w
theorem Gg {α:Type} {r:Rep α} {t T b:Nat} {d:α} (hT:dG P T r) (hv:Var c b r d) (hx:F t= .pointer (some ⟨b,0,none⟩)): ∃v,vn P F c.w (.cell t T) v∧r.val c v d:=by
 obtain ⟨cs,h1,h2⟩:=Af hv (Sub.self r)
 exact ⟨_,⟨_,hx,oF hT h2 h1⟩,⟨_,h2,rfl⟩⟩
section
variable {fn:Func} {n:Nat} {a:Act} {r1 r2 r3 r4:ResultVar} {v1 v2 v3 v4:Value}
def kV (tmps:Array Value):ResultVar→Sem Value
 | .tmp t=>pure (tmps.getD t undef)
 | .cell a t=>do loadVar t (←asAddr (tmps.getD a undef))
theorem Gh (fn:Func) (tmps:Array Value):results fn tmps=(do
  let vs←fn.results.mapM (kV tmps)
  pure (if h:vs.size=1 then vs[0] else .tuple vs)):=by
 have e:kV tmps=(fun
  | .tmp t=>pure (tmps.getD t undef)
  | .cell a t=>do loadVar t (←asAddr (tmps.getD a undef))):=by funext r;cases r<;>rfl
 rw [e];rfl
theorem Gi {mo:Mo} (hf: @Fr mo n F a) (h0:mo.hi=fun _=>undef) {r:ResultVar} {v:Value} (h:vn P F w r v):(kV a.tmps r).run P w= .ok v w:=by
 cases r with
 | tmp t=>simp only [kV,Sem.run_pure];rw [hf.full h0];exact congrArg (Result.ok · w) h
 | cell t T=>
  obtain ⟨ad,h1,h2⟩:=h
  simp only [kV,hf.full h0,h1,asAddr,Sem.run_bind,Sem.run_pure,Result.andThen_ok]
  exact h2
end
end
end Go.Proofs.YteibkofekpejgaaGreatDoor
namespace Go.Proofs.YteibkofekpejgaaGreatDoor
open Go.RowKit
section
variable {P:Program} {ops:Array Oper} {Q:Exit→Act→World→Prop} {n m:Nat} {wr:List Nat} {need:List (List Nat)} {Inv:(Nat→Prop)→Fm→World→Prop}
def Az (P:Program) (ops:Array Oper) (need:List (List Nat)) (m:Nat) (Inv:(Nat→Prop)→Fm→World→Prop):Prop:=
  ∀L F w i o,Inv L F w→i<m→ops[i]? =some o→(∀j∈need.getD i [],L j)→(∀j,j<m→i∈need.getD j []→ ¬L j)→ ¬L i→
    ∀K:Fm→World→Prop,(∀F' w',Inv (fun j=>j=i∨L j) F' w'→K F' w')→if dF ops F o then aE P (fun v w'=>K (bK F o.dst v) w') (run P F o w) else K (bK F o.dst undef) w
theorem Gj [mo:Mo] (hs:fv n ops=true) (hE:gU ops=true) (hN:iM ops need=true) (hTB:oA ops m need=true) (hm:m≤ops.size)
    (hC: ∀L L' F w,(∀i,i<m→(L i↔L' i))→Inv L F w→Inv L' F w) (H:Az P ops need m Inv)
    (hT: ∀F w,Inv (fun _=>True) F w→ ∀a,Fr n F a→cO P ops Q (List.range' m (ops.size - m)) a w):
    ∀fuel (listed:Array Bool),listed.size=ops.size→leftOf listed ops.size=fuel→qX ops (bT listed)→(∀j,bT listed j→j<m)→
      ∀F w,Inv (bT listed) F w→ ∀a,Fr n F a→oy P .any ops Q fuel listed a w:=by
  intro fuel
  induction fuel with
  | zero=>
    intro listed hz hleft _ hlm F c hI a hf
    have hall:=z8 hleft
    have hmN:m=ops.size:=by
      rcases Nat.lt_or_ge m ops.size with h|h
      · have:=hlm m (hall m h);omega
      · omega
    refine ⟨u6 hz hall,?_⟩
    have:=hT F c (hC _ _ F c (fun i hi=>⟨fun _=>trivial,fun _=>hall i (by omega)⟩) hI) a hf
    simpa [hmN,cO,wpOpsIn] using this
  | succ fuel ih=>
    intro listed hz hleft hcl hlm F c hI a hf
    refine ⟨fun h0=> ?_,fun i hi=> ?_⟩
    · exfalso
      have hall:=u5 hE hz h0
      have:leftOf listed ops.size=0:=List.countP_eq_zero.2 fun i hi=>by
        have:=hall i (List.mem_range.1 hi)
        simpa [bT] using this
      omega
    · obtain ⟨h1,h2,o,ho,h3⟩:=(oD hz i).1 hi
      have hneed:=oC hE hN hcl i o ho h3
      by_cases him:i<m
      · refine uX hs hf ho ?_
        have hnot: ∀j,j<m→i∈need.getD j []→ ¬bT listed j:=by
          intro j hj hij hl
          have hjo:ops[j]? =some ops[j]:=Array.getElem?_eq_getElem (by omega)
          exact h2 (oC hE hN hcl j _ hjo (fun e he hb=>hcl j _ hl hjo e he hb) i hij)
        refine H _ F c i o hI him ho hneed hnot h2 (fun F' w'=> ∀a',Fr n F' a'→oy P .any ops Q fuel (listed.setIfInBounds i true) a' w') ?_
        intro F' c' hI' a' hf'
        refine ih _ (by simpa using hz) (by have:=z7 hz h1 h2;omega) ?_ ?_ F' c' (hC _ _ F' c' (fun j _=>(gw hz h1 j).symm) hI') a' hf'
        · intro j oj hj hoj e he hb
          rw [gw hz h1]
          rcases (gw hz h1 j).1 hj with rfl|hj
          · rw [ho] at hoj;cases hoj;exact .inr (h3 e he hb)
          · exact .inr (hcl j oj hj hoj e he hb)
        · intro j hj
          rcases (gw hz h1 j).1 hj with rfl|hj
          · exact him
          · exact hlm j hj
      · have hall: ∀j,j<i→bT listed j:=fun j hj=>hneed j (uZ hTB h1 (by omega) j hj)
        have him':i=m:=by
          rcases Nat.lt_or_ge m i with h|h
          · have:=hlm m (hall m h);omega
          · omega
        have hfull:=hT F c (hC _ _ F c (fun j hj=>⟨fun _=>trivial,fun _=>hall j (by omega)⟩) hI) a hf
        have hleftm:fuel+1=ops.size - m:=by
          rw [←hleft]
          have hp: ∀j,j<ops.size→((!listed.getD j false)=true↔m≤j):=fun j hj=>by
            have a1:bT listed j↔j<m:=⟨hlm j,fun h=>hall j (by omega)⟩
            simp only [bT] at a1
            cases hb:listed.getD j false<;>simp [hb] at a1⊢ <;>omega
          have:leftOf listed ops.size=(List.range ops.size).countP (fun j=>decide (m≤j)):=List.countP_congr fun j hj=>by
            rw [hp j (List.mem_range.1 hj)];simp
          rw [this]
          have hsplit:List.range ops.size=List.range m++List.range' m (ops.size - m):=by
            have h:= @List.range'_append_1 0 m (ops.size - m)
            rw [Nat.zero_add,show m+(ops.size - m)=ops.size by omega] at h
            rw [List.range_eq_range',List.range_eq_range',h]
          rw [hsplit,List.countP_append]
          have z1:(List.range m).countP (fun j=>decide (m≤j))=0:=List.countP_eq_zero.2 fun j hj=>by
            have:=List.mem_range.1 hj;simp;omega
          have z2:(List.range' m (ops.size - m)).countP (fun j=>decide (m≤j))=(List.range' m (ops.size - m)).length:=List.countP_eq_length.2 fun j hj=>by
            have:=List.mem_range'_1.1 hj;simp;omega
          rw [z1,z2]
          simp
        have hany:=Aa (P:=P) (Q:=Q) hE hN hTB hm (ops.size - m) m (Nat.le_refl _) (by omega) listed a c hz (fun j hj=>⟨hlm j,fun h=>hall j (by omega)⟩) hfull
        rw [←hleftm] at hany
        exact hany.2 i hi
end
structure Cx.chgs (G:List Nat) (c c':Cx):Prop where
  os:c'.w.os=c.w.os
  tape:c'.w.tape=c.w.tape
  output:c'.w.output=c.w.output
  size:c.w.heap.size≤c'.w.heap.size
  keep: ∀k,k<c.w.heap.size→k∉G→c'.w.heap[k]? =c.w.heap[k]?
  old: ∀k,k<c.w.heap.size→(k∈c'.X↔k∈c.X)
theorem Cx.chgs.refl {G:List Nat} (c:Cx):c.chgs G c:=⟨rfl,rfl,rfl,Nat.le_refl _,fun _ _ _=>rfl,fun _ _=>Iff.rfl⟩
theorem Cx.chgs.chg {G:List Nat} {g:Option Nat} {a b c:Cx} (h:a.chgs G b) (k:b.chg g c) (hg: ∀i,g=some i→i∈G):a.chgs G c:=
  ⟨k.os.trans h.os,k.tape.trans h.tape,k.output.trans h.output,Nat.le_trans h.size k.size,fun i hi hn=>(k.keep i (Nat.lt_of_lt_of_le hi h.size) (fun e=>hn (hg i e))).trans (h.keep i hi hn),fun i hi=>(k.old i (Nat.lt_of_lt_of_le hi h.size)).trans (h.old i hi)⟩
theorem Cx.chgs.pub {G:List Nat} {c c':Cx} (h:c.chgs G c') (hG: ∀k,k∈G→k∈c.X):c.pub c':=⟨h.size,fun k hk hx=>⟨fun h'=>hx ((h.old k hk).1 h'),fun o ho _=>(h.keep k hk (fun e=>hx (hG k e))).trans ho⟩⟩
theorem Cx.chgs.var {α:Type} {G:List Nat} {b:Nat} {c c':Cx} {r:Rep α} {d:α} (h:c.chgs G c') (hG: ∀k,k∈G→k∈c.X) (hv:Var c b r d) (hn:b∉G):Var c' b r d:=by
  obtain ⟨h1,T,cs,h2,h3⟩:=hv
  have hlt:=c.ok b h1
  exact ⟨(h.old b hlt).2 h1,T,cs,(h.keep b hlt hn).trans h2,r.mono h3 (h.pub hG)⟩
theorem Own.chgs {α:Type} {G:List Nat} {c c':Cx} {E:TypeId} {v:Value} {r:Rep α} {l:List α} (h:Own c E v r l) (k:c.chgs G c') (hG: ∀k,k∈G→k∈c.X) (hne: ∀i,blk v=some i→i∉G):Own c' E v r l:=by
  refine ⟨h.1,?_⟩
  rcases h.2 with h'|⟨g',cap,cur,rfl,h1,h2,h3,h4,h5,h6⟩
  · exact .inl h'
  · have hlt:=c.ok g' h1
    exact .inr ⟨g',cap,cur,rfl,(k.old g' hlt).2 h1,(k.keep g' hlt (hne g' rfl)).trans h2,h3,h4,h5,cR (k.pub hG) h6⟩
theorem cy.chgs {c0 c c':Cx} {G:List Nat} (h:cy c0 c) (k:c.chgs G c') (hb: ∀i,i∈G→c0.mine i):cy c0 c':=
  ⟨⟨k.os.trans h.below.os,k.tape.trans h.below.tape,k.output.trans h.below.output,Nat.le_trans h.below.size k.size,fun i hi hy=>(k.keep i (Nat.lt_of_lt_of_le hi h.below.size) (fun e=>by
      rcases hb i e with h1|h1
      · omega
      · exact hy h1)).trans (h.below.block i hi hy)⟩,
   fun i hi hy=>(k.old i (c.ok i (h.X i hi hy))).2 (h.X i hi hy),fun i hi hx h'=>h.Xn i hi hx ((k.old i (Nat.lt_of_lt_of_le hi h.below.size)).1 h')⟩
structure Px where
  p:Value→Cx→Prop
  ok:Nat→Prop
  mono: ∀{v c g c'},p v c→c.chg g c'→(∀k,g=some k→ok k)→p v c'
def Px.any:Px:=⟨fun _ _=>True,fun _=>True,fun _ _ _=>trivial⟩
def Px.eq (v0:Value):Px:=⟨fun v _=>v=v0,fun _=>True,fun h _ _=>h⟩
def Px.rep {α:Type} (r:Rep α) (d:α):Px:=⟨fun v c=>r.val c v d,fun _=>True,fun h k _=>h.mono k.pub⟩
def Px.rv {α:Type} (r:RV α) (d:α):Px:=⟨fun v c=>r.p c v d,fun _=>True,fun h k _=>r.mono h k.pub⟩
def Px.gb (A:Prop) (g:Bool):Px:=⟨fun v _=>(A→v= .bool g)∧(¬A→v=undef),fun _=>True,fun h _ _=>h⟩
def Px.newVar {α:Type} (c0:Cx) (r:Rep α) (d:α):Px:=
  ⟨fun v c=> ∃b,v= .pointer (some ⟨b,0,none⟩)∧c0.w.heap.size≤b∧Var c b r d,fun k=>k<c0.w.heap.size,
   fun ⟨b,h1,h2,h3⟩ k ho=>⟨b,h1,h2,k.var (fun e=>Nat.not_le_of_lt (ho _ e) h2) h3⟩⟩
def Px.own {α:Type} (c0:Cx) (E:TypeId) (r:Rep α) (l:List α):Px:=
  ⟨fun v c=>Own c E v r l∧ ∀g,blk v=some g→c0.w.heap.size≤g,fun k=>k<c0.w.heap.size,
   fun h k ho=>⟨h.1.chg k (fun i hi e=>Nat.not_le_of_lt (ho _ e) (h.2 i hi)),h.2⟩⟩
def Px.var {α:Type} (b:Nat) (r:Rep α) (d:α):Px:=⟨fun _ c=>Var c b r d,fun k=>k≠b,fun h k ho=>k.var (fun e=>ho _ e rfl) h⟩
section
variable {P:Program} {ops:Array Oper} {wr:List Nat} {need:List (List Nat)} {F0:Fm} {c0:Cx} {G:List Nat} {gs:List (Option Nat)} {bo:List (Value→Option Nat)} {Φ:Nat→Px} {m:Nat}
end
theorem AA {c c':Cx} {v:Value} (h:c.le c') (hg: ∀g,blk v=some g→c.w.heap.size≤g):c.le (c'.dropv v):=
  ⟨h.below,fun k hk=>by
    rw [←h.old k hk]
    simp only [Cx.dropv,List.mem_filter,decide_eq_true_eq,ne_eq]
    exact ⟨fun h=>h.1,fun h=>⟨h,fun e=>Nat.not_le_of_lt hk (hg k e)⟩⟩⟩
theorem all_nil {p:Nat→Prop}: ∀k,k∈([]:List Nat)→p k:=by simp
theorem all_cons {p:Nat→Prop} {b:Nat} {G:List Nat} (h:p b) (k: ∀k,k∈G→p k): ∀k,k∈b::G→p k:=by
  intro i hi
  rcases List.mem_cons.1 hi with rfl|hi
  · exact h
  · exact k i hi
theorem Gk {P:Program} {K:Value→World→Prop} {F:Fm} {o:Oper} {w:World} {f:FuncId} {l:List Operand} {vs:List Value} (ho:o.op= .makeFunc (.func f) #[] l.toArray) (hv:l.map (ev F)=vs) (h:K (.func (.func f) #[] vs.toArray) w):aE P K (run P F o w):=
  yv (v:= .func (.func f) #[] vs.toArray) (w':=w) (by simp [run,execOp,ho,Instr.makeFunc,hv]) h
def eN (a b:Int):Int:=if b<a then b else a
def dT (a b:Int):Int:=if a<b then b else a
theorem AB {k:IntKind} {a b:Int} (h1:Rng k a) (h2:Rng k b):Rng k (eN a b):=by unfold eN;split<;>assumption
theorem AC {k:IntKind} {a b:Int} (h1:Rng k a) (h2:Rng k b):Rng k (dT a b):=by unfold dT;split<;>assumption
section
variable {P:Program} {K:Value→World→Prop} {F:Fm} {o:Oper} {c:Cx} {w:World}
theorem AD {x y:Operand} {k:IntKind} {a b:Int} {ats:Array TypeId} (ho:o.op= .call {callee:= .builtin .min,args:= #[x,y],argTypes:=ats}) (hx:ev F x= .int k a) (hy:ev F y= .int k b) (h:K (.int k (eN a b)) w):aE P K (run P F o w):=
  yv (v:= .int k (eN a b)) (w':=w) (by simp [run,execOp,ho,resolve,invoke,builtin,Builtin.min_,Builtin.min2,hx,hy,eN]) h
theorem Gm {x y:Operand} {k:IntKind} {a b:Int} {ats:Array TypeId} (ho:o.op= .call {callee:= .builtin .max,args:= #[x,y],argTypes:=ats}) (hx:ev F x= .int k a) (hy:ev F y= .int k b) (h:K (.int k (dT a b)) w):aE P K (run P F o w):=
  yv (v:= .int k (dT a b)) (w':=w) (by simp [run,execOp,ho,resolve,invoke,builtin,Builtin.max_,Builtin.max2,hx,hy,dT]) h
end
end Go.Proofs.YteibkofekpejgaaGreatDoor
namespace Go.Proofs.YteibkofekpejgaaGreatDoor
open Go.RowKit
theorem oK {α:Type} {r:Rep α} {c:Cx}: ∀(i:Nat) {cs:List Value} {l:List α},a7 r c cs l→a7 r c (cs.take (i*r.n)) (l.take i)
 | 0,cs,l,h=>by simp [a7]
 | i+1,cs,[],h=>by simp only [a7] at h;subst h;simp [a7]
 | i+1,cs,d::l,h=>by
  simp only [a7] at h
  obtain ⟨c1,c2,e,h1,h2⟩:=h
  have hl:=r.len h1
  subst e
  rw [Nat.add_mul,Nat.one_mul,←hl,Nat.add_comm,List.take_length_add_append]
  simp only [List.take_succ_cons,a7]
  refine ⟨c1,_,rfl,h1,?_⟩
  have:=oK i h2
  rwa [←hl] at this
theorem rc {α:Type} {r:Rep α} {c:Cx}: ∀(i:Nat) {cs:List Value} {l:List α},a7 r c cs l→a7 r c (cs.drop (i*r.n)) (l.drop i)
 | 0,cs,l,h=>by simpa using h
 | i+1,cs,[],h=>by simp only [a7] at h;subst h;simp [a7]
 | i+1,cs,d::l,h=>by
  simp only [a7] at h
  obtain ⟨c1,c2,e,h1,h2⟩:=h
  have hl:=r.len h1
  subst e
  rw [Nat.add_mul,Nat.one_mul,←hl,Nat.add_comm,List.drop_length_add_append,List.drop_succ_cons]
  have:=rc i h2
  rwa [←hl] at this
section
variable {P:Program} {K:Value→World→Prop} {F:Fm} {o:Oper} {c:Cx}
theorem AE {T E:TypeId} {n:Nat} {x:Operand} {lo hi:Option Operand} {a:Option Addr} {len cap:Nat} {i j:Int} (ho:o.op= .slice T x lo hi none) (hT:P.underlying T=some (.slice E)) (hE: ∀w,(sizeOf E).run P w= .ok n w)
  (hx:ev F x= .slice a len cap) (hlo:(lo=none∧i=0)∨ ∃y k,lo=some y∧ev F y= .int k i) (hhi:(hi=none∧j=len)∨ ∃y k,hi=some y∧ev F y= .int k j) (h0:0≤i∧i≤j∧j≤len) (hc:len≤cap)
  (h:K (.slice (if cap=i.toNat then a else a.map (·.add (i.toNat*n))) (j.toNat - i.toNat) (cap - i.toNat)) c.w):aE P K (run P F o c.w):=by
 have hru:(underlying T).run P c.w= .ok (.slice E) c.w:=by simp [underlying,hT]
 have hb1: ∀y k code,ev F y= .int k j→(Instr.sliceBound (ev F y) cap code).run P c.w= .ok j.toNat c.w:=fun y k code hy=>mF hy ⟨by omega,by omega⟩
 have hb2: ∀y k code,ev F y= .int k i→(Instr.sliceBound (ev F y) j.toNat code).run P c.w= .ok i.toNat c.w:=fun y k code hy=>mF hy ⟨by omega,by omega⟩
 refine yv (v:= .slice (if cap=i.toNat then a else a.map (·.add (i.toNat*n))) (j.toNat - i.toNat) (cap - i.toNat)) (w':=c.w) ?_ h
 rcases hlo with ⟨rfl,rfl⟩|⟨y1,k1,rfl,hy1⟩<;>rcases hhi with ⟨rfl,rfl⟩|⟨y2,k2,rfl,hy2⟩
 ·simp [run,execOp,ho,Instr.sliceAt,hru,hx,Instr.slice,Instr.sliceBounds,hE]
 ·simp [run,execOp,ho,Instr.sliceAt,hru,hx,Instr.slice,Instr.sliceBounds,hE,hb1 y2 k2 _ hy2]
 ·have hb3: ∀code,(Instr.sliceBound (ev F y1) len code).run P c.w= .ok i.toNat c.w:=fun code=>mF hy1 ⟨by omega,by omega⟩
  simp [run,execOp,ho,Instr.sliceAt,hru,hx,Instr.slice,Instr.sliceBounds,hE,hb3]
 ·simp [run,execOp,ho,Instr.sliceAt,hru,hx,Instr.slice,Instr.sliceBounds,hE,hb1 y2 k2 _ hy2,hb2 y1 k1 _ hy1]
theorem AF {α:Type} {T E E' U:TypeId} {r:Rep α} {d v u:Value} {l m:List α} {i j len cap:Nat} {a:Option Addr} (hT:P.underlying T=some (.slice E)) (hE: ∀w,(sizeOf E).run P w= .ok r.n w) (hn:0<r.n) (ho:Own c E' v r l) (hv:v= .slice a len cap) (hij:i≤j) (hj:j≤len)
  (hd:d= .slice (if cap=i then a else a.map (·.add (i*r.n))) (j - i) (cap - i)) (hs:Src c u r m):
  ∃c',(Builtin.copy_ #[T,T] U #[d,u]).run P c.w= .ok (.int .i64 ((min (j - i) m.length:Nat):Int)) c'.w∧c.chg (blk v) c'∧Own c' E' v r (l.take i++m.take (min (j - i) m.length)++l.drop (i+min (j - i) m.length)):=by
 have hru:(underlying T).run P c.w= .ok (.slice E) c.w:=by simp [underlying,hT]
 obtain ⟨a2,cap2,rfl,hsrc⟩:=hs
 have hself:c.chg (blk v) c:=⟨rfl,rfl,rfl,Nat.le_refl _,fun _ _ _=>rfl,fun _ _=>Iff.rfl,ho.isX⟩
 generalize hk:min (j - i) m.length=k
 have hmin:Nat.min m.length (j - i)=k:=by rw [←hk];exact Nat.min_comm _ _
 by_cases hk0:k=0
 ·subst hk0
  refine ⟨c,?_,hself,by simpa using ho⟩
  have hfirst: ∀w:World,(Builtin.firstCells r.n 0 (.slice a2 m.length cap2)).run P w= .ok #[] w:=fun w=>by
   cases a2<;>simp [Builtin.firstCells,loadCells,loadCellsFrom]
  subst hd
  generalize (if cap=i then a else a.map (·.add (i*r.n)))=q
  cases q<;>simp [Builtin.copy_,hru,Builtin.lenOf,hmin,hE,hfirst,storeCells,goInt]
 ·have hmp:m≠[]:=by rintro rfl;simp at hk;omega
  obtain ⟨b2,o2,cs2,rfl,hc2,har2⟩:=hsrc.resolve_left hmp
  rcases ho.2 with ⟨a',e1,rfl⟩|⟨g,cp,cur,e1,h1,h2,h3,h4,h5,h6⟩
  ·rw [hv] at e1;cases e1;omega
  ·rw [hv] at e1
   cases e1
   have hik:i+k≤l.length:=by omega
   have hadd:(⟨g,0,none⟩:Addr).add (i*r.n)=⟨g,i*r.n,none⟩:=by unfold Addr.add;split<;>simp_all
   have hne: ¬cp+1=i:=by omega
   rw [if_neg hne] at hd
   simp only [Option.map_some,hadd] at hd
   have hl2:=iO har2
   have hnl:(cs2.take (k*r.n)).length=k*r.n:=by
    rw [List.length_take,hl2]
    exact Nat.min_eq_left (Nat.mul_le_mul_right _ (by omega))
   have hnews: ∀q x,(cs2.take (k*r.n))[q]? =some x→c.w.cell? ((⟨b2,o2,none⟩:Addr).add q)=some x:=fun q x hq=>by
    have hadd:(⟨b2,o2,none⟩:Addr).add q=⟨b2,o2+q,none⟩:=by unfold Addr.add;split<;>simp_all
    rw [hadd]
    refine hc2 q x ?_
    rw [List.getElem?_take] at hq
    split at hq
    ·exact hq
    ·cases hq
   have hfc:=run_firstCells_some (P:=P) c.w r.n k ⟨b2,o2,none⟩ m.length cap2 _ hnl hnews
   have hmono:(i+k)*r.n≤(cp+1)*r.n:=Nat.mul_le_mul_right _ (by omega)
   have hfit:i*r.n+0+(cs2.take (k*r.n)).length≤cur.size:=by rw [hnl,h5,Nat.add_zero,←Nat.add_mul];exact hmono
   have hone: ∀x∈cs2.take (k*r.n),x.oneCell'=true:=fun x hx=>oE har2 x (List.mem_of_mem_take hx)
   have hst:=run_storeCells_at P g (i*r.n) E' (cs2.take (k*r.n)) 0 cur c.w h2 hfit hone
   simp only [Nat.add_zero] at hst
   have hcok: ∀q,q∈c.X→q<(c.w.setRow g (cur.toList.take (i*r.n)++cs2.take (k*r.n)++cur.toList.drop (i*r.n+(cs2.take (k*r.n)).length)).toArray).heap.size:=fun q hq=>by simpa using c.ok q hq
   have hch:c.chg (some g) ⟨c.X,_,hcok,[]⟩:=⟨rfl,rfl,rfl,by simp,fun q _ hq=>setRow_other _ _ _ _ (fun e=>hq (e▸rfl)),fun _ _=>Iff.rfl,fun q hq=>by cases hq;exact h1⟩
   subst hv
   refine ⟨⟨c.X,_,hcok,[]⟩,?_,hch,⟨?_,.inr ⟨g,cp,_,?_,h1,setRow_heap c.w g cur _ E' _ h2,?_,h4,?_,?_⟩⟩⟩
   ·subst hd
    simp only [Builtin.copy_]
    simp [hru,Builtin.lenOf,hmin,hE,hfc,hst,goInt]
   ·have:=ho.1;simp only [List.length_append,List.length_take,List.length_drop];omega
   ·congr 1;simp only [List.length_append,List.length_take,List.length_drop];omega
   ·simp only [List.length_append,List.length_take,List.length_drop];omega
   ·simp only [List.size_toArray,List.length_append,List.length_drop,hnl,Array.length_toList]
    rw [List.length_take,Array.length_toList,h5]
    have:(i+k)*r.n≤(cp+1)*r.n:=hmono
    rw [Nat.add_mul] at this
    rw [Nat.min_eq_left (by omega)]
    omega
   ·have hll:(l.take i++m.take k++l.drop (i+k)).length=l.length:=by simp only [List.length_append,List.length_take,List.length_drop];omega
    rw [hll]
    have hCl:(cur.toList.take (l.length*r.n)).length=l.length*r.n:=iO h6
    have hsplit:((cur.toList.take (i*r.n)++cs2.take (k*r.n)++cur.toList.drop (i*r.n+(cs2.take (k*r.n)).length)).toArray.toList).take (l.length*r.n)=
      (cur.toList.take (l.length*r.n)).take (i*r.n)++cs2.take (k*r.n)++(cur.toList.take (l.length*r.n)).drop ((i+k)*r.n):=by
     have q1:(i+k)*r.n≤l.length*r.n:=Nat.mul_le_mul_right _ hik
     have q2:l.length*r.n≤(cp+1)*r.n:=Nat.mul_le_mul_right _ h3
     rw [Nat.add_mul] at q1
     rw [Nat.add_mul i k,hnl,List.take_take,Nat.min_eq_left (by omega),List.drop_take]
     simp only [List.append_assoc]
     have q3:(cur.toList.take (i*r.n)).length=i*r.n:=by rw [List.length_take,Array.length_toList,h5];omega
     have e1:(cur.toList.take (i*r.n)).take (l.length*r.n)=cur.toList.take (i*r.n):=List.take_of_length_le (by rw [q3];omega)
     have e2:(cs2.take (k*r.n)).take (l.length*r.n - i*r.n)=cs2.take (k*r.n):=List.take_of_length_le (by rw [hnl];omega)
     rw [List.take_append,q3,e1,List.take_append,hnl,e2]
     congr 3
     omega
    rw [hsplit]
    refine kS (kS (cR hch.pub (oK i h6)) (cR hch.pub (oK k har2))) (cR hch.pub (rc (i+k) h6))
end
end Go.Proofs.YteibkofekpejgaaGreatDoor
namespace Go.Proofs.YteibkofekpejgaaGreatDoor
open Go.RowKit
def bf (g:Bool) (k:IntKind) (x:List Int):Value:=if g then .agg (x.map (Value.int k)).toArray else .int k (x.headD 0)
def eO (c:Cx) (r:Nat) (g:Bool) (k:IntKind) (n:Nat) (l:List (List Int)):Prop:=
 r∈c.X∧(∀x∈l,x.length=n∧ ∀a∈x,Rng k a)∧ ∃es clock,c.w.heap[r]? =some (.map es clock)∧es.toList.map (fun e=>(e.key,e.val))=(l.map fun x=>(bf g k x,Value.bool true))∧(es.toList.map (·.born)).Nodup∧ ∀e∈es.toList,e.born<clock
theorem eO.chg {c c':Cx} {o:Option Nat} {r:Nat} {g:Bool} {k:IntKind} {n:Nat} {l:List (List Int)} (h:eO c r g k n l) (hk:c.chg o c') (hne:o≠some r):eO c' r g k n l:=by
 obtain ⟨h1,h2,es,clock,h3,h4⟩:=h
 have hlt:=c.ok r h1
 exact ⟨(hk.old r hlt).2 h1,h2,es,clock,(hk.keep r hlt hne).trans h3,h4⟩
theorem Cx.dropv_set {c:Cx} {v:Value} {r:Nat} {g:Bool} {k:IntKind} {n:Nat} {l:List (List Int)} (h:eO c r g k n l) (hne:blk v≠some r):eO (c.dropv v) r g k n l:=by
 obtain ⟨h1,h2,es,clock,h3,h4⟩:=h
 exact ⟨List.mem_filter.2 ⟨h1,by simpa using hne⟩,h2,es,clock,h3,h4⟩
section
variable {P:Program} {K:Value→World→Prop} {F:Fm} {o:Oper} {c:Cx} {w:World}
theorem Gn {T:TypeId} {g:Bool} {k:IntKind} {n:Nat} (ho:o.op= .makeMap T none) (h: ∀r c',c.le c'→c.w.heap.size=r→eO c' r g k n []→K (.map (some r)) c'.w):aE P K (run P F o c.w):=by
 have hle:=Cx.le_new c (.map #[] 0)
 refine yv (v:= .map (some c.w.heap.size)) (w':=(c.new (.map #[] 0)).w) ?_ (h _ _ hle rfl ⟨by simp [Cx.new],by simp, #[],0,heap_alloc_new _ _,rfl,by simp,by simp⟩)
 simp [run,execOp,ho,Instr.makeMap,newObj,Cx.new,Sem.run]
structure kW (P:Program) (KT:TypeId) (g:Bool) (k:IntKind) (n:Nat):Prop where
 chk: ∀e x w,x.length=n→(Instr.checkKey e 10000 KT (bf g k x)).run P w= .ok () w
 find: ∀x es (l:List (List Int)) w,x.length=n→(∀y∈l,y.length=n)→es.map (fun e:MapEntry=>(e.key,e.val))=l.map (fun y=>(bf g k y,Value.bool true))→
  ∃r,(Instr.findKey KT (bf g k x) es).run P w= .ok r w∧((x∈l∧ ∃i,i<es.length∧r=some (i,.bool true)∧(es[i]?).map (·.key)=some (bf g k x))∨(x∉l∧r=none))
theorem Gp {KT:TypeId} {k:IntKind} (hu:P.underlying KT=some (.int k)):kW P KT false k 1:=by
 have hru: ∀w,(underlying KT).run P w= .ok (.int k) w:=fun w=>by simp [underlying,hu]
 refine ⟨fun e x w hx=> ?_,fun x es l w hx hl he=> ?_⟩
 ·have key: ∀m,(Instr.checkKey e (m+1) KT (bf false k x)).run P w= .ok () w:=fun m=>by simp [Instr.checkKey,bf,hru]
  exact key 9999
 ·have key: ∀(es:List MapEntry) (l:List (List Int)) (i:Nat),(∀y∈l,y.length=1)→es.map (fun e:MapEntry=>(e.key,e.val))=l.map (fun y=>(bf false k y,Value.bool true))→
    ∃r,Instr.findNow (.int k) (bf false k x) es i=some r∧((x∈l∧ ∃j,j<es.length∧r=some (i+j,.bool true)∧(es[j]?).map (·.key)=some (bf false k x))∨(x∉l∧r=none)):=by
   intro es
   induction es with
   | nil=>
    intro l i hl he
    cases l with
    | nil=>exact ⟨none,rfl,.inr ⟨by simp,rfl⟩⟩
    | cons y l=>simp at he
   | cons e es ih=>
    intro l i hl he
    cases l with
    | nil=>simp at he
    | cons y l=>
     simp only [List.map_cons,List.cons.injEq,Prod.mk.injEq] at he
     obtain ⟨⟨h1,h2⟩,h3⟩:=he
     obtain ⟨a,rfl⟩: ∃a,x=[a]:=by
      match x,hx with
      | [a],_=>exact ⟨a,rfl⟩
     obtain ⟨b,rfl⟩: ∃b,y=[b]:=by
      match y,hl y (by simp) with
      | [b],_=>exact ⟨b,rfl⟩
     have e1:e.key= .int k b:=h1
     by_cases hab:a=b
     ·subst hab
      refine ⟨some (i,.bool true),?_,.inl ⟨by simp,0,by simp,by simp,by simp [e1,bf]⟩⟩
      simp [Instr.findNow,Instr.sameNow,bf,e1,h2]
     ·obtain ⟨r,g1,g2⟩:=ih l (i+1) (fun y hy=>hl y (by simp [hy])) h3
      refine ⟨r,?_,?_⟩
      ·have hf:(a==b)=false:=by simp [hab]
       simp only [Instr.findNow,Instr.sameNow,bf,e1,Bool.false_eq_true,if_false,List.headD_cons,if_true,hf]
       simpa [bf] using g1
      ·rcases g2 with ⟨m,j,j1,j2,j3⟩|⟨m,j2⟩
       ·exact .inl ⟨by simp [m],j+1,by simp;omega,by rw [j2];congr 2;omega,by simpa using j3⟩
       ·exact .inr ⟨by simp [m,hab],j2⟩
  obtain ⟨r,g1,g2⟩:=key es l 0 hl he
  refine ⟨r,?_,by simpa using g2⟩
  simp [Instr.findKey,hru,g1]
theorem AG {KT:TypeId} {D:TypeDesc} {k:IntKind} {n:Nat} (hu:P.underlying KT=some D) (hch: ∀e x w,x.length=n→(Instr.checkKey e 10000 KT (bf true k x)).run P w= .ok () w)
  (heq: ∀(x y:List Int) w,x.length=n→y.length=n→(Op.equal KT (bf true k x) (bf true k y)).run P w= .ok (decide (x=y)) w):kW P KT true k n:=by
 have hru: ∀w,(underlying KT).run P w= .ok D w:=fun w=>by simp [underlying,hu]
 refine ⟨hch,fun x es l w hx hl hes=> ?_⟩
 have hask: ∀(es:List MapEntry) (l:List (List Int)) (i:Nat),(∀y∈l,y.length=n)→es.map (fun e:MapEntry=>(e.key,e.val))=l.map (fun y=>(bf true k y,Value.bool true))→
   ∃r,(Instr.findAsking KT (bf true k x) es i).run P w= .ok r w∧((x∈l∧ ∃j,j<es.length∧r=some (i+j,.bool true)∧(es[j]?).map (·.key)=some (bf true k x))∨(x∉l∧r=none)):=by
  intro es
  induction es with
  | nil=>
   intro l i hl he
   cases l with
   | nil=>exact ⟨none,by simp [Instr.findAsking],.inr ⟨by simp,rfl⟩⟩
   | cons y l=>simp at he
  | cons e es ih=>
   intro l i hl he
   cases l with
   | nil=>simp at he
   | cons y l=>
    simp only [List.map_cons,List.cons.injEq,Prod.mk.injEq] at he
    obtain ⟨⟨h1,h2⟩,h3⟩:=he
    have hq:=heq x y w hx (hl y (by simp))
    by_cases hxy:x=y
    ·subst hxy
     refine ⟨some (i,.bool true),?_,.inl ⟨by simp,0,by simp,by simp,by simp [h1]⟩⟩
     simp [Instr.findAsking,h1,h2,hq]
    ·obtain ⟨r,g1,g2⟩:=ih l (i+1) (fun z hz=>hl z (by simp [hz])) h3
     refine ⟨r,?_,?_⟩
     ·simp [Instr.findAsking,h1,hq,hxy,g1]
     ·rcases g2 with ⟨m,j,j1,j2,j3⟩|⟨m,j2⟩
      ·exact .inl ⟨by simp [m],j+1,by simp;omega,by rw [j2];congr 2;omega,by simpa using j3⟩
      ·exact .inr ⟨by simp [m,hxy],j2⟩
 cases es with
 | nil=>
  cases l with
  | nil=>exact ⟨none,by simp [Instr.findKey,hru,Instr.findNow],.inr ⟨by simp,rfl⟩⟩
  | cons y l=>simp at hes
 | cons e es=>
  obtain ⟨r,g1,g2⟩:=hask (e::es) l 0 hl hes
  refine ⟨r,?_,by simpa using g2⟩
  have hno:Instr.sameNow D (bf true k x) e.key=none:=by simp only [bf,if_true];cases D<;>rfl
  simp only [Instr.findKey,Sem.run_bind,hru,Result.andThen_ok,Instr.findNow,hno]
  exact g1
theorem re {EL:TypeId} {α:Type} {r:Rep α} (hT:dG P EL r) (ha:r.agg=false) {cs:List Value} {i:Nat} (hi:i<cs.length):(part EL cs.toArray i).run P w= .ok cs[i] w:=by
 simp only [part,hT.agg,ha,Sem.run_bind,Result.andThen_ok,Bool.false_eq_true,if_false,List.getElem?_toArray,List.getElem?_eq_getElem hi,Sem.run_pure]
theorem AH {EL:TypeId} {α:Type} {r:Rep α} (hT:dG P EL r) (ha:r.agg=false) (hn:r.n=1) {k:IntKind} {e:Bool} {d:Nat} (hc: ∀a w,(Instr.checkKey e d EL (.int k a)).run P w= .ok () w) {xs:List Int}: ∀(l j:Nat),j+l=xs.length→
  (forIn (List.range' j l) () fun i (_:Unit)=>do
   let s←sizeOf EL
   let p←part EL (xs.map (Value.int k)).toArray (i*s)
   Instr.checkKey e d EL p
   pure (ForInStep.yield ())).run P w= .ok () w
 | 0,j,_=>by simp
 | l+1,j,h=>by
  have hp:=re (P:=P) (w:=w) hT ha (cs:=xs.map (Value.int k)) (i:=j*1) (by simp;omega)
  have ih:=AH hT ha hn hc (xs:=xs) l (j+1) (by omega)
  simp only [List.range'_succ,List.forIn_cons,Sem.run_bind,hT.size,hn,hp,Result.andThen_ok,List.getElem_map,hc,Sem.run_pure]
  simpa only [Sem.run_bind,hT.size,hn] using ih
theorem AJ {EL:TypeId} {α:Type} {r:Rep α} (hT:dG P EL r) (ha:r.agg=false) {k:IntKind} {d:Nat} (hc: ∀a b w,(Op.equalIn d EL (.int k a) (.int k b)).run P w= .ok (a==b) w) {xs ys:List Int} (hl:xs.length=ys.length): ∀(l j:Nat),j+l=xs.length→
  (forIn (List.range' j l) ((none,()):Option Bool×Unit) fun i (_:Option Bool×Unit)=>do
      let a←part EL (xs.map (Value.int k)).toArray (i*1)
      let b←part EL (ys.map (Value.int k)).toArray (i*1)
      let t←Op.equalIn d EL a b
      if (!t)=true then pure (ForInStep.done ((some false,()):Option Bool×Unit)) else pure (ForInStep.yield (none,()))).run P w= .ok (if xs.drop j=ys.drop j then (none,()) else (some false,())) w
 | 0,j,h=>by
  rw [List.drop_eq_nil_of_le (by omega),List.drop_eq_nil_of_le (by omega)]
  simp
 | l+1,j,h=>by
  have hp:=re (P:=P) (w:=w) hT ha (cs:=xs.map (Value.int k)) (i:=j) (by simp;omega)
  have hq:=re (P:=P) (w:=w) hT ha (cs:=ys.map (Value.int k)) (i:=j) (by simp;omega)
  have ih:=AJ hT ha hc hl l (j+1) (by omega)
  have h1:j<xs.length:=by omega
  have h2:j<ys.length:=by omega
  rw [List.drop_eq_getElem_cons h1,List.drop_eq_getElem_cons h2]
  simp only [List.range'_succ,List.forIn_cons,Sem.run_bind,Nat.mul_one,hp,hq,Result.andThen_ok,List.getElem_map,hc,Sem.run_ite] at ih⊢
  by_cases hb:xs[j]=ys[j]
  ·simp only [hb,beq_self_eq_true,Bool.not_true,Bool.false_eq_true,if_false,Sem.run_pure,Result.andThen_ok,List.cons.injEq,true_and]
   exact ih
  ·have hf:(xs[j]==ys[j])=false:=by simp [hb]
   simp only [hf,Bool.not_false,if_true,Sem.run_pure,Result.andThen_ok,List.cons.injEq,hb,false_and,if_false]
theorem Gq {KT EL:TypeId} {k:IntKind} {n:Nat} {α:Type} {r:Rep α} (hu:P.underlying KT=some (.array n EL)) (he:P.underlying EL=some (.int k)) (hT:dG P EL r) (ha:r.agg=false) (hn:r.n=1):kW P KT true k n:=by
 have hru: ∀w,(underlying KT).run P w= .ok (.array n EL) w:=fun w=>by simp [underlying,hu]
 have heq: ∀(x y:List Int) w,x.length=n→y.length=n→(Op.equal KT (bf true k x) (bf true k y)).run P w= .ok (decide (x=y)) w:=by
  intro x y w hx hy
  have hre: ∀w,(underlying EL).run P w= .ok (.int k) w:=fun w=>by simp [underlying,he]
  have key: ∀d,(∀a b w,(Op.equalIn d EL (.int k a) (.int k b)).run P w= .ok (a==b) w)→(Op.equalIn (d+1) KT (bf true k x) (bf true k y)).run P w= .ok (decide (x=y)) w:=by
   intro d hc
   have hf:=AJ (P:=P) (w:=w) hT ha hc (xs:=x) (ys:=y) (hx.trans hy.symm) n 0 (by omega)
   simp only [bf,if_true,Op.equalIn,Sem.run_bind,hru,Result.andThen_ok,hT.size,hn,Std.Legacy.Range.forIn_eq_forIn_range',Std.Legacy.Range.size,Nat.sub_zero,Nat.add_one_sub_one,Nat.div_one]
   rw [hf]
   simp only [Result.andThen_ok,List.drop_zero]
   by_cases h:x=y<;>simp [h]
  have hd: ∀m a b w,(Op.equalIn (m+1) EL (.int k a) (.int k b)).run P w= .ok (a==b) w:=fun m a b w=>by simp [Op.equalIn,hre]
  exact key 9999 (hd 9998)
 refine AG hu (fun e x w hx=> ?_) heq
 ·have hre: ∀w,(underlying EL).run P w= .ok (.int k) w:=fun w=>by simp [underlying,he]
  have hd: ∀m a w,(Instr.checkKey e (m+1) EL (.int k a)).run P w= .ok () w:=fun m a w=>by simp [Instr.checkKey,hre]
  have key: ∀d,(∀a w,(Instr.checkKey e d EL (.int k a)).run P w= .ok () w)→(Instr.checkKey e (d+1) KT (bf true k x)).run P w= .ok () w:=by
   intro d hc
   have hf:=AH (P:=P) (w:=w) hT ha hn hc (xs:=x) n 0 (by omega)
   simp only [Instr.checkKey,bf,if_true,Sem.run_bind,hru,Result.andThen_ok,Std.Legacy.Range.forIn_eq_forIn_range',Std.Legacy.Range.size,Nat.sub_zero,Nat.add_one_sub_one,Nat.div_one]
   rw [show (PUnit.unit:PUnit)=() from rfl,hf];simp
  exact key 9999 (hd 9998)
def kX (P:Program) (k:IntKind) (j:Nat) (fs:List Field):Prop:= ∀i f,fs[i]? =some f→f.offset=j+i∧f.name≠ "_" ∧P.underlying f.type=some (.int k)∧ ∀(cs:List Value) (w:World) (h:j+i<cs.length),(part f.type cs.toArray (j+i)).run P w= .ok cs[j+i] w
theorem kX.tail {k:IntKind} {j:Nat} {f:Field} {fs:List Field} (h:kX P k j (f::fs)):kX P k (j+1) fs:=by
 intro i g hg
 obtain ⟨h1,h2,h3,h4⟩:=h (i+1) g (by simpa using hg)
 refine ⟨by omega,h2,h3,fun cs w hl=> ?_⟩
 have:=h4 cs w (by omega)
 simpa only [show j+(i+1)=j+1+i by omega] using this
theorem AK {k:IntKind} {e:Bool} {d:Nat} (hc: ∀T a w,P.underlying T=some (.int k)→(Instr.checkKey e d T (.int k a)).run P w= .ok () w) {xs:List Int}: ∀(fs:List Field) (j:Nat),kX P k j fs→j+fs.length≤xs.length→
  (forIn fs PUnit.unit fun (f:Field) (_:PUnit)=>if f.name≠ "_" then do
    let p←part f.type (xs.map (Value.int k)).toArray f.offset
    Instr.checkKey e d f.type p
    pure (ForInStep.yield PUnit.unit)
   else pure (ForInStep.yield PUnit.unit)).run P w= .ok PUnit.unit w
 | [],j,_,_=>by simp
 | f::fs,j,h,hl=>by
  simp only [List.length_cons] at hl
  obtain ⟨h1,h2,h3,h4⟩:=h 0 f rfl
  have hp:=h4 (xs.map (Value.int k)) w (by simp;omega)
  simp only [Nat.add_zero,List.getElem_map] at h1 hp
  have ih:=AK hc (xs:=xs) fs (j+1) h.tail (by omega)
  simp only [List.forIn_cons,Sem.run_bind,h2,ne_eq,not_false_eq_true,if_true,h1,hp,Result.andThen_ok,hc _ _ _ h3,Sem.run_pure]
  simpa only [ne_eq] using ih
theorem AL {k:IntKind} {d:Nat} (hc: ∀T a b w,P.underlying T=some (.int k)→(Op.equalIn d T (.int k a) (.int k b)).run P w= .ok (a==b) w) {xs ys:List Int} (hxy:xs.length=ys.length): ∀(fs:List Field) (j:Nat),kX P k j fs→j+fs.length=xs.length→
  (Op.eqFields d (xs.map (Value.int k)).toArray (ys.map (Value.int k)).toArray fs).run P w= .ok (decide (xs.drop j=ys.drop j)) w
 | [],j,_,hl=>by
  simp only [List.length_nil,Nat.add_zero] at hl
  rw [List.drop_eq_nil_of_le (by omega),List.drop_eq_nil_of_le (by omega)]
  simp [Op.eqFields]
 | f::fs,j,h,hl=>by
  simp only [List.length_cons] at hl
  obtain ⟨h1,h2,h3,h4⟩:=h 0 f rfl
  have hp:=h4 (xs.map (Value.int k)) w (by simp;omega)
  have hq:=h4 (ys.map (Value.int k)) w (by simp;omega)
  simp only [Nat.add_zero,List.getElem_map] at h1 hp hq
  have ih:=AL hc hxy fs (j+1) h.tail (by omega)
  have l1:j<xs.length:=by omega
  have l2:j<ys.length:=by omega
  rw [List.drop_eq_getElem_cons l1,List.drop_eq_getElem_cons l2]
  simp only [Op.eqFields,Sem.run_bind,h2,ne_eq,not_false_eq_true,if_true,h1,hp,hq,Result.andThen_ok,hc _ _ _ _ h3,Sem.run_ite]
  by_cases hb:xs[j]=ys[j]
  ·simp only [hb,beq_self_eq_true,Bool.not_true,Bool.false_eq_true,if_false,List.cons.injEq,true_and]
   exact ih
  ·have hf:(xs[j]==ys[j])=false:=by simp [hb]
   have hne: ¬(xs[j]::xs.drop (j+1)=ys[j]::ys.drop (j+1)):=fun e=>hb (List.cons.inj e).1
   simp only [hf,Bool.not_false,if_true,Sem.run_pure,decide_eq_false hne]
theorem Gr {KT:TypeId} {k:IntKind} {n:Nat} {fs:Array Field} (hu:P.underlying KT=some (.struct fs)) (hp:P.stoodInHeld KT=false) (hf:kX P k 0 fs.toList) (hn:fs.toList.length=n):kW P KT true k n:=by
 have hru: ∀w,(underlying KT).run P w= .ok (.struct fs) w:=fun w=>by simp [underlying,hu]
 have hfs:P.fieldsOf KT=fs:=by simp [Program.fieldsOf,hu]
 refine AG hu (fun e x w hx=> ?_) (fun x y w hx hy=> ?_)
 ·have hd: ∀m T a w,P.underlying T=some (.int k)→(Instr.checkKey e (m+1) T (.int k a)).run P w= .ok () w:=fun m T a w hT=>by simp [Instr.checkKey,underlying,hT]
  have key: ∀d,(∀T a w,P.underlying T=some (.int k)→(Instr.checkKey e d T (.int k a)).run P w= .ok () w)→(Instr.checkKey e (d+1) KT (bf true k x)).run P w= .ok () w:=by
   intro d hc
   have h9:=AK (P:=P) (w:=w) hc (xs:=x) fs.toList 0 hf (by omega)
   simp only [Instr.checkKey,bf,if_true,Sem.run_bind,hru,Result.andThen_ok,←Array.forIn_toList]
   rw [h9]
   simp
  exact key 9999 (hd 9998)
 ·have hd: ∀m T a b w,P.underlying T=some (.int k)→(Op.equalIn (m+1) T (.int k a) (.int k b)).run P w= .ok (a==b) w:=fun m T a b w hT=>by simp [Op.equalIn,underlying,hT]
  have key: ∀d,(∀T a b w,P.underlying T=some (.int k)→(Op.equalIn d T (.int k a) (.int k b)).run P w= .ok (a==b) w)→(Op.equalIn (d+1) KT (bf true k x) (bf true k y)).run P w= .ok (decide (x=y)) w:=by
   intro d hc
   have h9:=AL (P:=P) (w:=w) hc (xs:=x) (ys:=y) (by omega) fs.toList 0 hf (by omega)
   simp only [bf,if_true]
   rw [run_equalIn_struct w d KT _ _ (by rw [hfs];exact hu) hp,hfs,h9]
   simp
  exact key 9999 (hd 9998)
theorem Gs {T KT ET:TypeId} {x y:Operand} {g:Bool} {k:IntKind} {n r:Nat} {l:List (List Int)} {z:List Int} (ho:o.op= .lookup T x y false) (hT:P.underlying T=some (.map KT ET)) (hK:kW P KT g k n) (hE:P.underlying ET=some .bool)
  (hx:ev F x= .map (some r)) (hm:eO c r g k n l) (hy:ev F y=bf g k z) (hz:z.length=n) (hzero: ∀w,(zeroValue ET).run P w= .ok (.bool false) w) (h:K (.bool (l.contains z)) c.w):aE P K (run P F o c.w):=by
 obtain ⟨h1,h2,es,clock,h3,h4,_⟩:=hm
 have hru:(underlying T).run P c.w= .ok (.map KT ET) c.w:=by simp [underlying,hT]
 obtain ⟨q,q1,q2⟩:=hK.find z es.toList l c.w hz (fun y hy=>(h2 y hy).1) h4
 have hc:=fun e=>hK.chk e z c.w hz
 refine yv (v:= .bool (l.contains z)) (w':=c.w) ?_ h
 rcases q2 with ⟨m,i,_,e,_⟩|⟨m,e⟩
 ·subst e
  simp [run,execOp,ho,Instr.lookup,hru,hx,hy,getObj,Sem.run,h3,hc,q1,m]
 ·subst e
  simp [run,execOp,ho,Instr.lookup,hru,hx,hy,getObj,Sem.run,h3,hc,q1,m,hzero]
def gY (l:List (List Int)) (z:List Int):List (List Int):=if l.contains z then l else l++[z]
theorem Gt {g:Bool} {k:IntKind} {x:List Int} (n:Nat):Instr.sameBits (n+2) (bf g k x) (bf g k x)=true:=by
 cases g
 ·simp [bf,Instr.sameBits]
 ·simp only [bf,if_true,Instr.sameBits]
  simp only [beq_self_eq_true,Bool.true_and]
  induction x with
  | nil=>rfl
  | cons a x ih=>simp only [List.map_cons,List.zip_cons_cons,List.all_cons,Instr.sameBits,beq_self_eq_true,Bool.true_and];exact ih
theorem Gu {es:List MapEntry} {i:Nat} {f:MapEntry→MapEntry} (h: ∀e,es[i]? =some e→((f e).key,(f e).val)=(e.key,e.val)):(es.modify i f).map (fun e=>(e.key,e.val))=es.map (fun e=>(e.key,e.val)):=by
 induction es generalizing i with
 | nil=>simp
 | cons a es ih=>
  cases i with
  | zero=>simp [List.modify_cons,h a rfl]
  | succ i=>simp only [List.modify_succ_cons,List.map_cons];rw [ih (fun e he=>h e (by simpa using he))]
theorem AM {i:Nat} {k v:Value}: ∀{es:List MapEntry},(es.modify i fun e=>{e with key:=k,val:=v}).map (·.born)=es.map (·.born):=by
 induction i with
 | zero=>intro es;cases es<;>simp [List.modify_cons]
 | succ i ih=>
  intro es
  cases es with
  | nil=>simp
  | cons a es=>simp only [List.modify_succ_cons,List.map_cons];rw [ih]
theorem Gv {T KT ET:TypeId} {x y v:Operand} {g:Bool} {k:IntKind} {n r:Nat} {l:List (List Int)} {z:List Int} (ho:o.op= .mapUpdate T x y v) (hT:P.underlying T=some (.map KT ET)) (hK:kW P KT g k n)
  (hx:ev F x= .map (some r)) (hm:eO c r g k n l) (hy:ev F y=bf g k z) (hz:z.length=n) (hzr: ∀a∈z,Rng k a) (hv:ev F v= .bool true) (h: ∀c',c.mut r c'→eO c' r g k n (gY l z)→K undef c'.w):aE P K (run P F o c.w):=by
 obtain ⟨h1,h2,es,clock,h3,h4,hnd,hbl⟩:=hm
 have hru:(underlying T).run P c.w= .ok (.map KT ET) c.w:=by simp [underlying,hT]
 obtain ⟨q,q1,q2⟩:=hK.find z es.toList l c.w hz (fun y hy=>(h2 y hy).1) h4
 have hc:=fun e=>hK.chk e z c.w hz
 have hlt:=c.ok r h1
 have fin: ∀(es':Array MapEntry) (clock':Nat),es'.toList.map (fun e=>(e.key,e.val))=(gY l z).map (fun y=>(bf g k y,Value.bool true))→(es'.toList.map (·.born)).Nodup→(∀e∈es'.toList,e.born<clock')→
   ∃c',c.mut r c'∧c'.w={c.w with heap:=c.w.heap.setIfInBounds r (.map es' clock')}∧eO c' r g k n (gY l z):=by
  intro es' clock' he hn9 hb9
  refine ⟨⟨c.X,{c.w with heap:=c.w.heap.setIfInBounds r (.map es' clock')},fun j hj=>by simpa using c.ok j hj,[]⟩,⟨rfl,rfl,rfl,rfl,by simp,fun j hj=> ?_⟩,rfl,h1,?_,es',clock',?_,he,hn9,hb9⟩
  ·simp [Array.getElem?_setIfInBounds,Ne.symm hj]
  ·intro y hy'
   unfold gY at hy'
   split at hy'
   ·exact h2 y hy'
   ·rcases List.mem_append.1 hy' with h5|h5
    ·exact h2 y h5
    ·simp at h5;rw [h5];exact ⟨hz,hzr⟩
  ·simp [Array.getElem?_setIfInBounds,hlt]
 rcases q2 with ⟨m,i,hi,e,hki⟩|⟨m,e⟩
 ·subst e
  have hval: ∀e,es.toList[i]? =some e→e.key=bf g k z∧e.val= .bool true:=by
   intro e he
   rw [he] at hki
   refine ⟨by simpa using hki,?_⟩
   have h5:(es.toList.map fun e=>(e.key,e.val))[i]? =some (e.key,e.val):=by rw [List.getElem?_map,he];rfl
   rw [h4,List.getElem?_map] at h5
   cases h6:l[i]? with
   | none=>rw [h6] at h5;cases h5
   | some y=>rw [h6] at h5;simp at h5;exact h5.2.symm
  obtain ⟨c',g1,g2,g3⟩:=fin (es.modify i fun e=>{e with key:=bf g k z,val:= .bool true}) clock (by
   rw [Array.toList_modify,Gu (fun e he=>by obtain ⟨a1,a2⟩:=hval e he;simp [a1,a2]),h4]
   simp [gY,m]) (by rw [Array.toList_modify,AM];exact hnd) (fun e he=>by
    have h9:e.born∈(es.modify i fun e=>{e with key:=bf g k z,val:= .bool true}).toList.map (·.born):=List.mem_map.2 ⟨e,he,rfl⟩
    rw [Array.toList_modify,AM] at h9
    obtain ⟨e',he',e1⟩:=List.mem_map.1 h9
    rw [←e1];exact hbl e' he')
  refine ys (w':=c'.w) ?_ (h c' g1 g3)
  have hkey:((es[i]?).map (·.key)).getD (bf g k z)=bf g k z:=by
   have:es.toList[i]? =es[i]? :=by simp
   rw [←this]
   cases h6:es.toList[i]? with
   | none=>rfl
   | some e=>simp [(hval e h6).1]
  have hs:Instr.sameBits 10000 (bf g k z) (bf g k z)=true:=Gt 9998
  have hst: ∀w,(Instr.keyThatStays (((es[i]?).map (·.key)).getD (bf g k z)) (bf g k z)).run P w= .ok (bf g k z) w:=fun w=>by rw [hkey];simp [Instr.keyThatStays,hs]
  rw [g2]
  simp [run,execOp,ho,Instr.mapUpdate,hru,hx,hy,hv,getObj,setObj,Sem.run,h3,hc,q1,hst]
 ·subst e
  obtain ⟨c',g1,g2,g3⟩:=fin (es.push {key:=bf g k z,val:= .bool true,born:=clock}) (clock+1) (by
   simp [h4,gY,m]) (by
    rw [Array.toList_push,List.map_append,List.nodup_append]
    refine ⟨hnd,by simp,?_⟩
    intro x hx y hy
    obtain ⟨e,he,rfl⟩:=List.mem_map.1 hx
    simp at hy
    have:=hbl e he
    omega) (fun e he=>by
    rw [Array.toList_push] at he
    rcases List.mem_append.1 he with he|he
    ·have:=hbl e he;omega
    ·simp at he;subst he;exact Nat.lt_succ_self _)
  refine ys (w':=c'.w) ?_ (h c' g1 g3)
  rw [g2]
  simp [run,execOp,ho,Instr.mapUpdate,hru,hx,hy,hv,getObj,setObj,Sem.run,h3,hc,q1]
end
end Go.Proofs.YteibkofekpejgaaGreatDoor
namespace Go.Proofs.YteibkofekpejgaaGreatDoor
open Go.RowKit
inductive V where
 | int (k:IntKind) (n:Int)
 | bool (b:Bool)
 | ifc (b:Bool)
 | str (l:List UInt8)
 | agg (l:List V)
 | sl (z:Option Bool) (n:Nat) (g:Bool) (l:List V)
 | pp (n:Nat) (g:Bool) (d:V)
 | own (id:Nat)
 | ptr (id off:Nat)
 | optr (id n i off:Nat)
 | osub (id n i j:Nat)
 | tup (l:List V)
 | fn (f:FuncId) (cap:List V)
 | opq (p:Cx→Value→Prop)
 | un
instance:Inhabited V:=⟨.un⟩
abbrev Ro:=Nat→Option Value
def ro0:Ro:=fun _=>none
def zOk (z:Option Bool) (a:Option Addr) (cap:Nat):Prop:=
 match z with
 | some true=>a=none∧cap=0
 | some false=>a≠none
 | none=>a=none→cap=0
theorem kY {z:Option Bool} {a:Option Addr} {cap:Nat} (h:zOk z a cap):a=none→cap=0:=by
 rcases z with _|_|_
 ·exact h
 ·exact fun e=>absurd e h
 ·exact fun _=>h.2
def vo (u:Value) (n i j:Nat) (v:Value):Prop:=(∃a len cap,u= .slice a len cap∧i≤j∧j≤len∧v= .slice (if cap=i then a else a.map (·.add (i*n))) (j - i) (cap - i))∨
 ∃b,n=1∧i=0∧u= .pointer (some ⟨b,0,none⟩)∧v= .slice (some ⟨b,0,none⟩) j j
theorem vq {u v:Value} {n i j:Nat} (h:vo u n i j v) {a:Option Addr} {len cap:Nat} (e:u= .slice a len cap): ∃a len cap,u= .slice a len cap∧i≤j∧j≤len∧v= .slice (if cap=i then a else a.map (·.add (i*n))) (j - i) (cap - i):=by
 rcases h with h|⟨b,_,_,e',_⟩
 ·exact h
 ·rw [e] at e';cases e'
def AN (p:Cx→Value→Prop):Prop:= ∀c c' v,p c v→c.pub c'→p c' v
def gZ (n:Nat) (g:Bool) (cs:List Value):Prop:=cs.length=n∧(g=false→n=1)∧ ∀u∈cs,u.oneCell'=true
def iP (b:Bool) (v:Value):Prop:=if b=true then v= .nilIface else∃t p,v= .iface t p
mutual
def rd (ρ:Ro) (c:Cx):V→Value→Prop
 | .int k n,v=>v= .int k n∧Rng k n
 | .bool b,v=>v= .bool b
 | .ifc b,v=>iP b v
 | .str l,v=>v= .string ⟨l.toArray⟩∧l.length≤LEN
 | .agg l,v=> ∃cs:List Value,v= .agg cs.toArray∧rdC ρ c l cs
 | .sl z n g l,v=> ∃a cap,v= .slice a l.length cap∧(l.length≤LEN∧l.length≤cap)∧zOk z a cap∧
   (l=[]∨ ∃b o cs,a=some ⟨b,o,none⟩∧b<c.w.heap.size∧b∉c.X∧cY c.w b o cs∧rdE c n g l cs)
 | .pp n g d,v=> ∃b o cs,v= .pointer (some ⟨b,o,none⟩)∧b<c.w.heap.size∧b∉c.X∧cY c.w b o cs∧gZ n g cs∧rd ro0 c d (mkV g cs)
 | .own id,v=>ρ id=some v∧v.oneCell'=true
 | .ptr id off,v=> ∃b,ρ id=some (.pointer (some ⟨b,0,none⟩))∧v= .pointer (some ⟨b,off,none⟩)
 | .optr id n i off,v=> ∃u,ρ id=some u∧jD u n i off v
 | .osub id n i j,v=> ∃u,ρ id=some u∧vo u n i j v
 | .tup l,v=> ∃cs:List Value,v= .tuple cs.toArray∧rdT ρ c l cs
 | .fn f cap,v=> ∃cs:List Value,v= .func (.func f) #[] cs.toArray∧rdT ρ c cap cs
 | .opq p,v=>p c v∧v.oneCell'=true∧AN p
 | .un,_=>True
def rdC (ρ:Ro) (c:Cx):List V→List Value→Prop
 | [],cs=>cs=[]
 | d::l,cs=> ∃u c2,cs=u::c2∧u.oneCell'=true∧rd ρ c d u∧rdC ρ c l c2
def rdT (ρ:Ro) (c:Cx):List V→List Value→Prop
 | [],cs=>cs=[]
 | d::l,cs=> ∃u c2,cs=u::c2∧rd ρ c d u∧rdT ρ c l c2
def rdE (c:Cx) (n:Nat) (g:Bool):List V→List Value→Prop
 | [],cs=>cs=[]
 | d::l,cs=> ∃c1 c2,cs=c1++c2∧(gZ n g c1∧rd ro0 c d (mkV g c1))∧rdE c n g l c2
end
mutual
theorem bn {ρ:Ro} {c c':Cx} (k:c.pub c'): ∀{d:V} {v:Value},rd ρ c d v→rd ρ c' d v
 | .int _ _,_,h=>h
 | .bool _,_,h=>h
 | .ifc _,_,h=>h
 | .str _,_,h=>h
 | .agg l,v,h=>by
  simp only [rd] at h⊢
  obtain ⟨cs,e,h⟩:=h
  exact ⟨cs,e,vr k h⟩
 | .sl z n g l,v,h=>by
  simp only [rd] at h⊢
  obtain ⟨a,cap,e,hl,hz,h⟩:=h
  refine ⟨a,cap,e,hl,hz,?_⟩
  rcases h with h|⟨b,o,cs,e,h1,h2,h3,h4⟩
  ·exact .inl h
  ·exact .inr ⟨b,o,cs,e,Nat.lt_of_lt_of_le h1 k.size,(k.keep b h1 h2).1,h3.keep (k.keep b h1 h2).2,AO k h4⟩
 | .pp n g d,v,h=>by
  simp only [rd] at h⊢
  obtain ⟨b,o,cs,e,h1,h2,h3,h4,h5⟩:=h
  exact ⟨b,o,cs,e,Nat.lt_of_lt_of_le h1 k.size,(k.keep b h1 h2).1,h3.keep (k.keep b h1 h2).2,h4,bn k h5⟩
 | .own _,_,h=>h
 | .ptr _ _,_,h=>h
 | .optr _ _ _ _,_,h=>h
 | .osub _ _ _ _,_,h=>h
 | .tup l,v,h=>by
  simp only [rd] at h⊢
  obtain ⟨cs,e,h⟩:=h
  exact ⟨cs,e,eZ k h⟩
 | .fn f l,v,h=>by
  simp only [rd] at h⊢
  obtain ⟨cs,e,h⟩:=h
  exact ⟨cs,e,eZ k h⟩
 | .opq p,v,h=>by
  simp only [rd] at h⊢
  exact ⟨h.2.2 _ _ _ h.1 k,h.2⟩
 | .un,_,_=>trivial
theorem vr {ρ:Ro} {c c':Cx} (k:c.pub c'): ∀{l:List V} {cs:List Value},rdC ρ c l cs→rdC ρ c' l cs
 | [],_,h=>h
 | d::l,cs,h=>by
  simp only [rdC] at h⊢
  obtain ⟨u,c2,e,h1,h2,h3⟩:=h
  exact ⟨u,c2,e,h1,bn k h2,vr k h3⟩
theorem eZ {ρ:Ro} {c c':Cx} (k:c.pub c'): ∀{l:List V} {cs:List Value},rdT ρ c l cs→rdT ρ c' l cs
 | [],_,h=>h
 | d::l,cs,h=>by
  simp only [rdT] at h⊢
  obtain ⟨u,c2,e,h2,h3⟩:=h
  exact ⟨u,c2,e,bn k h2,eZ k h3⟩
theorem AO {c c':Cx} {n:Nat} {g:Bool} (k:c.pub c'): ∀{l:List V} {cs:List Value},rdE c n g l cs→rdE c' n g l cs
 | [],_,h=>h
 | d::l,cs,h=>by
  simp only [rdE] at h⊢
  obtain ⟨c1,c2,e,⟨h1,h2⟩,h3⟩:=h
  exact ⟨c1,c2,e,⟨h1,bn k h2⟩,AO k h3⟩
end
def rV (ρ:Ro) (n:Nat) (g:Bool):Rep V where
 n:=bif g then n else 1
 agg:=g
 is c cs d:=gZ n g cs∧rd ρ c d (mkV g cs)
 len h:=by
  obtain ⟨⟨h1,h2,_⟩,_⟩:=h
  cases g
  ·rw [h1,h2 rfl];rfl
  ·exact h1
 mono h k:=⟨h.1,bn k h.2⟩
 one h:=by rw [h];rfl
 cell h:=h.1.2.2
theorem cg {ρ:Ro} {n:Nat} {g:Bool} (h:g=false→n=1):(rV ρ n g).n=n:=by
 cases g
 ·rw [h rfl];rfl
 ·rfl
theorem er {c:Cx} {n:Nat} {g:Bool}: ∀{l:List V} {cs:List Value},rdE c n g l cs↔a7 (rV ro0 n g) c cs l
 | [],cs=>by simp [rdE,a7]
 | d::l,cs=>by
  simp only [rdE,a7]
  constructor
  ·rintro ⟨c1,c2,e,h1,h2⟩;exact ⟨c1,c2,e,h1,er.1 h2⟩
  ·rintro ⟨c1,c2,e,h1,h2⟩;exact ⟨c1,c2,e,h1,er.2 h2⟩
theorem dl {ρ:Ro} {c:Cx} {z:Option Bool} {n:Nat} {g:Bool} {l:List V} {v:Value}:
  rd ρ c (.sl z n g l) v↔ ∃a cap,v= .slice a l.length cap∧(l.length≤LEN∧l.length≤cap)∧zOk z a cap∧kT (rV ro0 n g) c a l:=by
 simp only [rd,kT,er]
theorem jE {ρ:Ro} {c:Cx} {z:Option Bool} {n:Nat} {g:Bool} {l:List V} {v:Value} (h:rd ρ c (.sl z n g l) v):(gV (rV ro0 n g)).val c v l:=by
 obtain ⟨a,cap,e,h1,h2,h3⟩:=dl.1 h
 exact fw.2 ⟨a,cap,e,h1,h3⟩
theorem gx {ρ:Ro} {c:Cx} {n:Nat} {g:Bool} {d:V} {v:Value}:rd ρ c (.pp n g d) v↔fL (rV ro0 n g) c v d:=by
 simp only [rd,fL,rV]
theorem g7 {ρ:Ro} {c:Cx}: ∀{l:List V} {cs:List Value},rdC ρ c l cs→cs.length=l.length
 | [],_,h=>by simp only [rdC] at h;rw [h];rfl
 | d::l,cs,h=>by
  simp only [rdC] at h
  obtain ⟨u,c2,e,_,_,h3⟩:=h
  rw [e,List.length_cons,List.length_cons,g7 h3]
theorem iQ {ρ:Ro} {c:Cx}: ∀(k:Nat) {l:List V} {cs:List Value},rdC ρ c l cs→rdC ρ c (l.drop k) (cs.drop k)
 | 0,_,_,h=>by simpa using h
 | k+1,[],cs,h=>by simp only [rdC] at h;subst h;simp [rdC]
 | k+1,d::l,cs,h=>by
  simp only [rdC] at h
  obtain ⟨u,c2,e,_,_,h3⟩:=h
  rw [e];exact iQ k h3
theorem iR {ρ:Ro} {c:Cx}: ∀(k:Nat) {l:List V} {cs:List Value},rdC ρ c l cs→rdC ρ c (l.take k) (cs.take k)
 | 0,_,_,h=>by simp [rdC]
 | k+1,[],cs,h=>by simp only [rdC] at h;subst h;simp [rdC]
 | k+1,d::l,cs,h=>by
  simp only [rdC] at h
  obtain ⟨u,c2,e,h1,h2,h3⟩:=h
  rw [e]
  simp only [List.take_succ_cons,rdC]
  exact ⟨u,_,rfl,h1,h2,iR k h3⟩
theorem oL {ρ:Ro} {c:Cx}: ∀{l m:List V} {cs ds:List Value},rdC ρ c l cs→rdC ρ c m ds→rdC ρ c (l++m) (cs++ds)
 | [],m,cs,ds,h,h'=>by simp only [rdC] at h;subst h;simpa using h'
 | d::l,m,cs,ds,h,h'=>by
  simp only [rdC] at h
  obtain ⟨u,c2,e,h1,h2,h3⟩:=h
  rw [e]
  simp only [List.cons_append,rdC]
  exact ⟨u,_,rfl,h1,h2,oL h3 h'⟩
theorem Gw {ρ:Ro} {c:Cx} {l:List V} {cs:List Value} (h:rdC ρ c l cs) (i:Nat) (hi:i<cs.length):rd ρ c (l.getD i .un) cs[i]:=by
 have h1:=iQ i h
 have hl:=g7 h
 have hil:i<l.length:=by omega
 rw [List.drop_eq_getElem_cons hil,List.drop_eq_getElem_cons hi] at h1
 simp only [rdC] at h1
 obtain ⟨u,c2,e,_,h2,_⟩:=h1
 simp only [List.cons.injEq] at e
 rw [e.1,List.getD_eq_getElem?_getD,List.getElem?_eq_getElem hil]
 exact h2
theorem mG {ρ:Ro} {c:Cx}: ∀{l:List V} {cs:List Value},rdC ρ c l cs→ ∀u∈cs,u.oneCell'=true
 | [],_,h=>by simp only [rdC] at h;subst h;simp
 | d::l,cs,h=>by
  simp only [rdC] at h
  obtain ⟨u,c2,e,h1,h2,h3⟩:=h
  subst e
  intro x hx
  rcases List.mem_cons.1 hx with rfl|hx
  ·exact h1
  ·exact mG h3 x hx
theorem AP {ρ:Ro} {c:Cx}: ∀{n:Nat} {cs:List Value},cs.length=n→(∀u∈cs,u.oneCell'=true)→rdC ρ c (List.replicate n .un) cs
 | 0,cs,h,_=>by simpa [rdC] using h
 | n+1,[],h,_=>by simp at h
 | n+1,u::cs,h,h'=>by
  simp only [List.replicate_succ,rdC]
  exact ⟨u,cs,rfl,h' u (by simp),trivial,AP (by simpa using h) (fun x hx=>h' x (by simp [hx]))⟩
theorem vt {ρ:Ro} {c:Cx} {d:V} {cs:List Value} (h:rd ρ c d (.agg cs.toArray)):d= .un∨ ∃l,d= .agg l∧rdC ρ c l cs:=by
 cases d with
 | agg l=>
  simp only [rd] at h
  obtain ⟨cs',e,h⟩:=h
  have:cs=cs':=by simpa using e
  subst this
  exact .inr ⟨l,rfl,h⟩
 | un=>exact .inl rfl
 | own id=>simp [rd,Value.oneCell'] at h
 | opq p=>simp [rd,Value.oneCell'] at h
 | ifc b=>cases b<;>simp [rd,iP] at h
 | optr id n i off=>
  simp only [rd] at h
  obtain ⟨u,_,g,len,cap,_,e⟩:=h
  cases e
 | osub id n i j=>
  simp only [rd] at h
  obtain ⟨u,_,⟨a,len,cap,_,_,_,e⟩|⟨b,_,_,_,e⟩⟩:=h<;>cases e
 | _=>simp [rd] at h
def part (d:V) (off n:Nat) (g:Bool):V:=
 match d with
 | .agg l=>if g then .agg ((l.drop off).take n) else l.getD off .un
 | _=> .un
def jF (n:Nat):Bool→V→List V
 | true,.agg l=>l
 | true,_=>List.replicate n .un
 | false,x=> [x]
def jG (d:V) (off n:Nat) (g:Bool) (x:V):V:=
 match d with
 | .agg l=> .agg (l.take off++jF n g x++l.drop (off+n))
 | _=> .un
theorem vu {ρ:Ro} {c:Cx} {n:Nat} {g:Bool} {x:V} {cx:List Value} (h:gZ n g cx) (hx:rd ρ c x (mkV g cx)):rdC ρ c (jF n g x) cx:=by
 obtain ⟨h1,h2,h3⟩:=h
 cases g with
 | true=>
  rcases vt (by simpa [mkV] using hx) with rfl|⟨l,rfl,hl⟩
  ·exact AP h1 h3
  ·exact hl
 | false=>
  have hn:=h2 rfl
  rw [hn] at h1
  match cx,h1 with
  | [u],_=>
   simp only [jF,rdC]
   exact ⟨u,[],rfl,h3 u (by simp),by simpa [mkV] using hx,rfl⟩
theorem fb {ρ:Ro} {n n' off:Nat} {g':Bool} (hb:off+n'≤n) (hn:g'=false→n'=1):Sub (rV ρ n true) off (rV ρ n' g') (fun d=>part d off n' g') (fun d x=>jG d off n' g' x) where
 bound:=by rw [cg hn];exact hb
 get_is:=by
  rintro c cs d ⟨⟨h1,h2,h3⟩,h4⟩
  rw [cg hn]
  have hlen:((cs.drop off).take n').length=n':=by simp;omega
  refine ⟨⟨hlen,hn,fun u hu=>h3 u (List.mem_of_mem_drop (List.mem_of_mem_take hu))⟩,?_⟩
  rcases vt (by simpa [mkV] using h4) with rfl|⟨l,rfl,hl⟩
  ·trivial
  ·cases g' with
   | true=>
    simp only [part,if_true,mkV,rd]
    exact ⟨_,rfl,iR n' (iQ off hl)⟩
   | false=>
    have hn1:=hn rfl
    subst hn1
    have hlt:off<cs.length:=by omega
    have e:(cs.drop off).take 1=[cs[off]]:=by
     rw [List.drop_eq_getElem_cons hlt];rfl
    simp only [part,Bool.false_eq_true,if_false,mkV,e,List.headD_cons]
    exact Gw hl off hlt
 set_is:=by
  rintro c cs d cx x ⟨⟨h1,h2,h3⟩,h4⟩ ⟨h5,h6⟩
  rw [cg hn]
  have hx:=h5.1
  refine ⟨⟨by simp;omega,h2,?_⟩,?_⟩
  ·intro u hu
   rcases List.mem_append.1 hu with hu|hu
   ·rcases List.mem_append.1 hu with hu|hu
    ·exact h3 u (List.mem_of_mem_take hu)
    ·exact h5.2.2 u hu
   ·exact h3 u (List.mem_of_mem_drop hu)
  ·rcases vt (by simpa [mkV] using h4) with rfl|⟨l,rfl,hl⟩
   ·trivial
   ·simp only [jG,mkV,if_true,rd]
    exact ⟨_,rfl,oL (oL (iR off hl) (vu h5 h6)) (iQ (off+n') hl)⟩
mutual
def wfV:V→Prop
 | .int k n=>Rng k n
 | .str l=>l.length≤LEN
 | .agg l=>wfL l
 | .sl _ _ _ l=>l.length≤LEN∧wfL l
 | .pp _ _ d=>wfV d
 | .tup l=>wfL l
 | .fn _ l=>wfL l
 | _=>True
def wfL:List V→Prop
 | []=>True
 | d::l=>wfV d∧wfL l
end
mutual
theorem iS {ρ:Ro} {c:Cx}: ∀{d:V} {v:Value},rd ρ c d v→wfV d
 | .int _ _,_,h=>h.2
 | .bool _,_,_=>trivial
 | .ifc _,_,_=>trivial
 | .str _,_,h=>h.2
 | .agg l,v,h=>by
  simp only [rd] at h
  obtain ⟨cs,e,h⟩:=h
  exact AQ h
 | .sl z n g l,v,h=>by
  simp only [rd] at h
  obtain ⟨a,cap,e,hl,hz,h⟩:=h
  refine ⟨hl.1,?_⟩
  rcases h with rfl|⟨b,o,cs,e,h1,h2,h3,h4⟩
  ·trivial
  ·exact rf h4
 | .pp n g d,v,h=>by
  simp only [rd] at h
  obtain ⟨b,o,cs,e,h1,h2,h3,h4,h5⟩:=h
  simp only [wfV]
  exact iS h5
 | .own _,_,_=>trivial
 | .ptr _ _,_,_=>trivial
 | .optr _ _ _ _,_,_=>trivial
 | .osub _ _ _ _,_,_=>trivial
 | .tup l,v,h=>by
  simp only [rd] at h
  obtain ⟨cs,e,h⟩:=h
  exact mH h
 | .fn f l,v,h=>by
  simp only [rd] at h
  obtain ⟨cs,e,h⟩:=h
  exact mH h
 | .opq p,v,h=>trivial
 | .un,_,_=>trivial
theorem AQ {ρ:Ro} {c:Cx}: ∀{l:List V} {cs:List Value},rdC ρ c l cs→wfL l
 | [],_,h=>trivial
 | d::l,cs,h=>by
  simp only [rdC] at h
  obtain ⟨u,c2,e,h1,h2,h3⟩:=h
  exact ⟨iS h2,AQ h3⟩
theorem mH {ρ:Ro} {c:Cx}: ∀{l:List V} {cs:List Value},rdT ρ c l cs→wfL l
 | [],_,h=>trivial
 | d::l,cs,h=>by
  simp only [rdT] at h
  obtain ⟨u,c2,e,h2,h3⟩:=h
  exact ⟨iS h2,mH h3⟩
theorem rf {c:Cx} {n:Nat} {g:Bool}: ∀{l:List V} {cs:List Value},rdE c n g l cs→wfL l
 | [],_,h=>trivial
 | d::l,cs,h=>by
  simp only [rdE] at h
  obtain ⟨c1,c2,e,⟨h1,h2⟩,h3⟩:=h
  exact ⟨iS h2,rf h3⟩
end
def gy (ρ ρ':Ro):Prop:= ∀i v,ρ i=some v→ρ' i=some v
mutual
theorem cZ {ρ ρ':Ro} {c:Cx} (k:gy ρ ρ'): ∀{d:V} {v:Value},rd ρ c d v→rd ρ' c d v
 | .int _ _,_,h=>h
 | .bool _,_,h=>h
 | .ifc _,_,h=>h
 | .str _,_,h=>h
 | .agg l,v,h=>by
  simp only [rd] at h⊢
  obtain ⟨cs,e,h⟩:=h
  exact ⟨cs,e,vw k h⟩
 | .sl z n g l,v,h=>h
 | .pp n g d,v,h=>h
 | .own _,_,h=>⟨k _ _ h.1,h.2⟩
 | .ptr _ _,_,h=>by
  simp only [rd] at h⊢
  obtain ⟨b,h1,h2⟩:=h
  exact ⟨b,k _ _ h1,h2⟩
 | .optr _ _ _ _,_,h=>by
  simp only [rd] at h⊢
  obtain ⟨u,h1,h2⟩:=h
  exact ⟨u,k _ _ h1,h2⟩
 | .osub _ _ _ _,_,h=>by
  simp only [rd] at h⊢
  obtain ⟨u,h1,h2⟩:=h
  exact ⟨u,k _ _ h1,h2⟩
 | .tup l,v,h=>by
  simp only [rd] at h⊢
  obtain ⟨cs,e,h⟩:=h
  exact ⟨cs,e,mI k h⟩
 | .fn f l,v,h=>by
  simp only [rd] at h⊢
  obtain ⟨cs,e,h⟩:=h
  exact ⟨cs,e,mI k h⟩
 | .opq p,v,h=>h
 | .un,_,_=>trivial
theorem vw {ρ ρ':Ro} {c:Cx} (k:gy ρ ρ'): ∀{l:List V} {cs:List Value},rdC ρ c l cs→rdC ρ' c l cs
 | [],_,h=>h
 | d::l,cs,h=>by
  simp only [rdC] at h⊢
  obtain ⟨u,c2,e,h1,h2,h3⟩:=h
  exact ⟨u,c2,e,h1,cZ k h2,vw k h3⟩
theorem mI {ρ ρ':Ro} {c:Cx} (k:gy ρ ρ'): ∀{l:List V} {cs:List Value},rdT ρ c l cs→rdT ρ' c l cs
 | [],_,h=>h
 | d::l,cs,h=>by
  simp only [rdT] at h⊢
  obtain ⟨u,c2,e,h2,h3⟩:=h
  exact ⟨u,c2,e,cZ k h2,mI k h3⟩
end
end Go.Proofs.YteibkofekpejgaaGreatDoor
