/- Texts of this proof, one after the other: VW, VX, VY, K, VZ, VP. -/
import Derived.Test.YteibkofekpejgaaGreatDoorZ3
import Derived.Test.YteibkofekpejgaaGreatDoorProg
import Derived.KernelRfl
import Derived.Lib.LaidTab
import Derived.Lib.ItoaNum
set_option linter.unusedVariables false
set_option linter.unusedSimpArgs false
namespace Go.Proofs.YteibkofekpejgaaGreatDoor
open Go.RowKit
def b_ (E:Env) (S S1:St):Prop:= ∀c0 c ρ F,aT E c0 c ρ S F→ ∃c1 ρ1,c1.w=c.w∧aT E c0 c1 ρ1 S1 F
abbrev bV:=List Nat
def g_:Code→Option Nat
 | .region id _ _=>some id
 | .seq a b=>match g_ a with
  | some i=>some i
  | none=>g_ b
 | .cond _ a b=>match g_ a with
  | some i=>some i
  | none=>g_ b
 | .block _ a=>g_ a
 | .loop a=>g_ a
 | _=>none
def jN (J:bV) (b:Code):Bool:=match g_ b with
 | some i=>bk J i
 | none=>false
def lj (E:Env) (M:St→Prop) (S:St):Prop:= ∃S1,b_ E S S1∧M S1
def HF (E:Env) (ops:Array Oper):Bool→(St→Prop)→St→Prop
 | false,K,S=>er E 0 [] ops.toList K S
 | true,K,S=> ∃n m wr wl need ub,(wlB ops m wl&&iH n m ops wr need&&((List.range m).all fun i=>(need.getD i []).all fun j=>decide (j<i)))=true∧ubB m need ub S.nx=true∧gB E S wr wl need ub K m 0 ops.toList []
def mL (Q:Exit→St→Prop) (K:St→Prop):Exit→St→Prop
 | .normal,S=>K S
 | e,S=>Q e S
def wB (Q:Exit→St→Prop) (id:Nat):Exit→St→Prop
 | .exit j,S=>if j=id then Q .normal S else Q (.exit j) S
 | e,S=>Q e S
def mM (v:Option V) (A B:Prop):Prop:=match v with
 | some (.bool b)=>fP b true A B
 | _=>False
def rfK (E:Env) (ok:Prop) (Q:Exit→St→Prop) (N:St→Prop):Exit→St→Prop
 | .normal,S=> ∃S3,b_ E (dnS S) S3∧N S3
 | .ret,S=>jM S.H=true∧(ok→Q .ret (dnS S))
 | .exit id,S=>jM S.H=true∧(ok→Q (.exit id) (dnS S))
 | _,_=>False
def fc:Code→Bool
 | .rangeFunc _ _ _ _=>false
 | .seq a b=>fc a&&fc b
 | .cond _ a b=>fc a&&fc b
 | .block _ a=>fc a
 | .loop a=>fc a
 | _=>true
def dq (n:Nat):Code→Bool
 | .region _ ops _=>fo n ops
 | .seq a b=>dq n a&&dq n b
 | .cond x a b=>inB n x&&(dq n a&&dq n b)
 | .block _ a=>dq n a
 | .loop a=>dq n a
 | .rangeFunc g ps as1 a=>(inB n g&&ps.toList.all (fun p=>decide (p<n))&&(match asg as1 with|some (d,_)=>decide (d<n)|none=>false)&&decide (n≤bU))&&(fc a&&dq n a)
 | _=>true
def BN (r:Option Nat) (hi:Nat→Value) (E:Env) (c0:Cx) (n:Nat) (Q:Exit→St→Prop) (e:Exit) (a:Act) (w:World):Prop:= ∃c ρ S F ds,c.w=w∧aT E c0 c ρ S F∧Fr (mo:=⟨ds,r,hi⟩) n F a∧de c0.w.heap.size ds w∧Q e S
def rP (E:Env) (code:Code) (Q:Exit→St→Prop) (S:St):Prop:= ∀(n:Nat) (r:Option Nat) (hi:Nat→Value) (c0:Cx) (QC:Exit→Act→World→Prop),dq n code=true→((r=none∧hi=fun _=>undef)∨fc code=true)→(∀e a w,BN r hi E c0 n Q e a w→QC e a w)→
 ∀c ρ F a ds,aT E c0 c ρ S F→Fr (mo:=⟨ds,r,hi⟩) n F a→de c0.w.heap.size ds c.w→code.wpIn {Fence.wide with round:=r} 1 E.P QC a c.w
def wpA (E:Env) (J:bV):Code→(Exit→St→Prop)→St→Prop
 | .skip,Q,S=>Q .normal S
 | .region id ops d,Q,S=>HF E ops d (Q .normal) S
 | .seq a b,Q,S=>match jN J b with
  | false=>wpA E J a (mL Q (wpA E J b Q)) S
  | true=>wpA E J a (mL Q (lj E (wpA E J b Q))) S∨rP E (.seq a b) Q S
 | .cond x a b,Q,S=>mM (S.ev E.gv x) (wpA E J a Q S) (wpA E J b Q S)
 | .block id a,Q,S=>wpA E J a (wB Q id) S
 | .loop a,Q,S=> ∃(I:Nat→St→Prop) (k0:Nat),(∃S1,b_ E S S1∧I k0 S1)∧ ∀k S',I k S'→wpA E J a (mL Q fun S2=> ∃k',k'<k∧ ∃S3,b_ E S2 S3∧I k' S3) S'
 | .ret,Q,S=>Q .ret S
 | .exit id,Q,S=>Q (.exit id) S
 | .scope a,Q,S=>False
 | .rangeFunc g ps as1 a,Q,S=> ∃(gf:FuncId) (caps:List V) (xs:List (List V)) (d p:Nat) (I:List Nat→St→Prop) (S1:St),b_ E S S1∧I [] S1∧S1.ev E.gv g=some (.fn gf caps)∧cW caps∧(asg as1=some (d,p)∧ps.toList.Nodup∧p∈ps.toList)∧wy E gf caps xs∧(∀l∈xs,l.length=ps.size)∧
   (∀pre S',I pre S'→(jM S'.H&&rN S'.F)=true)∧
   (∀(pre:List Nat) i l S',I pre S'→xs[i]? =some l→pre.length<xs.length→wpA E J a (rfK E (pre++[i]=List.range (pre.length+1)) Q (I (pre++[i]))) (rO d p ps.toList l S'))∧
   (∀S',I (List.range xs.length) S'→Q .normal S')
 | _,_,_=>False
section
variable {E:Env} {c0 c:Cx} {ρ:Ro} {S:St} {F:Fm}
theorem HG {r:Option Nat} {n d p:Nat} {ps:Array Tmp} {a:Act} {cx:Cx} {l:List V} {us:List Value} {hi:Nat→Value} (hx:aT E c0 cx ρ S F) (hf:a.tmps.size=n) (hsl: ∀t,t<n→a.tmps.getD t undef=F t) (hn:n≤bU) (hus:rdT ro0 cx l us) (hps: ∀q∈ps.toList,q<n) (hd:d<n) (hnd:ps.toList.Nodup) (hp:p∈ps.toList) (hl:l.length=ps.size) (hlo:rN S.F=true) (hFu: ∀t,n≤t→t<bU→F t=undef)
  (ehi:hi=fun t=>if bU≤t then F (t - bU) else undef):
  ∃Fb,aT E c0 cx ρ (rO d p ps.toList l S) Fb∧Fr (mo:=⟨[],r,hi⟩) n Fb ((⟨du (ps.toList.zip us) a.tmps,[]⟩:Act).put (some d) ((du (ps.toList.zip us) a.tmps).getD p undef)):=by
 subst ehi
 have hsz:(du (ps.toList.zip us) a.tmps).size=n:=BK.trans hf
 have hlt: ∀q∈ps.toList,q<a.tmps.size:=fun q hq=>by rw [hf];exact hps q hq
 have hru:rdT ρ cx l us:=mq (fun i v h=>by cases h) hus
 have hl':l.length=ps.toList.length:=by simpa using hl
 refine ⟨fun t=>if t<n then ((du (ps.toList.zip us) a.tmps).setIfInBounds d ((du (ps.toList.zip us) a.tmps).getD p undef)).getD t undef else (if bU≤t then F (t - bU) else undef),⟨⟨hx.1.since,hx.1.gl,?_,hx.1.heap,hx.1.sep⟩,hx.2⟩, @Fr.mk ⟨[],r,_⟩ n _ _ (by simp [Act.put,hsz]) rfl (fun t ht=>by simp only [if_pos ht];rfl) (fun t ht=>by simp only [if_neg (Nat.not_lt.2 ht)])⟩
 intro t v ht
 have zipR: ∀{t:Nat} {v:V},ab (ps.toList.zip l) t=some v→t∈ps.toList∧rd ρ cx v ((du (ps.toList.zip us) a.tmps).getD t undef):=fun h=>BL hru hnd hl' hlt h
 have getD_set: ∀{q:Nat},q≠d→((du (ps.toList.zip us) a.tmps).setIfInBounds d ((du (ps.toList.zip us) a.tmps).getD p undef)).getD q undef=(du (ps.toList.zip us) a.tmps).getD q undef:=fun h=>by
  simp [Array.getD_eq_getD_getElem?,Ne.symm h]
 have zipS: ∀{ks:List Nat} {l:List V} {q:Nat},l.length=ks.length→q∈ks→ ∃v,ab (ks.zip l) q=some v:=by
  intro ks
  induction ks with
  | nil=>intro l q _ h;cases h
  | cons k ks ih=>
   intro l q h1 h2
   cases l with
   | nil=>simp at h1
   | cons x l=>
    simp only [List.zip_cons_cons,ab]
    split
    ·exact ⟨_,rfl⟩
    ·rename_i e
     rcases List.mem_cons.1 h2 with h|h
     ·exact absurd h.symm e
     ·exact ih (by simpa using h1) h
 obtain ⟨vp,hvp⟩:=zipS hl' hp
 simp only [rO,hvp,BJ] at ht
 simp only [ab] at ht
 by_cases e:d=t
 ·subst e
  simp only [if_true] at ht
  cases ht
  rw [if_pos hd]
  have:=(zipR hvp).2
  simpa [Array.getD_eq_getD_getElem?,hsz,hd] using this
 ·simp only [e,if_false] at ht
  cases hz:ab (ps.toList.zip l) t with
  | some x=>
   simp only [hz] at ht
   cases ht
   obtain ⟨h1,h2⟩:=zipR hz
   rw [if_pos (hps t h1),getD_set (Ne.symm e)]
   exact h2
  | none=>
   simp only [hz] at ht
   cases hS:ab S.F t with
   | some x=>
    simp only [hS] at ht
    cases ht
    by_cases h1:t<n
    ·rw [if_pos h1,getD_set (Ne.symm e),wA,hsl t h1]
     ·exact hx.1.slot t v hS
     ·intro hm
      obtain ⟨q,hq,e2⟩:=List.mem_map.1 hm
      have h3:=(List.of_mem_zip hq).1
      rw [e2] at h3
      obtain ⟨y,hy⟩:=zipS hl' h3
      rw [hz] at hy;cases hy
    ·have h2:=HE hlo hS
     rw [if_neg h1,if_neg (by omega),←hFu t (by omega) h2]
     exact hx.1.slot t v hS
   | none=>
    simp only [hS] at ht
    obtain ⟨h1,h2⟩:=BI ht
    rw [if_neg (by omega),if_pos h1]
    exact hx.1.slot _ v h2
theorem wC (hE:a7 E) (hmo:E.P.follows .mixedOrders=true) {n:Nat} {J:bV}: ∀(code:Code) (r:Option Nat) (hi:Nat→Value) (c0:Cx) (Q:Exit→St→Prop) (QC:Exit→Act→World→Prop),dq n code=true→((r=none∧hi=fun _=>undef)∨fc code=true)→(∀e a w,BN r hi E c0 n Q e a w→QC e a w)→
  ∀c ρ S F a ds,aT E c0 c ρ S F→Fr (mo:=⟨ds,r,hi⟩) n F a→de c0.w.heap.size ds c.w→wpA E J code Q S→code.wpIn {Fence.wide with round:=r} 1 E.P QC a c.w:=by
 intro code
 induction code with
 | skip=>
  intro r hi c0 Q QC hs hr hQ c ρ S F a ds h hf hd hk
  exact wpIn_skip (hQ _ _ _ ⟨c,ρ,S,F,ds,rfl,h,hf,hd,hk⟩)
 | region id ops d=>
  intro r hi c0 Q QC hs hr hQ c ρ S F a ds h hf hd hk
  have hT:wi (mo:=⟨ds,r,hi⟩) E (c.lend (cH ρ S.H)) n (Q .normal) (QC .normal):=fun c2 ρ2 S2 F2 a2 h2 hf2 hk2=>hQ _ _ _ ⟨c2,ρ2,S2,F2,ds,rfl,jL h h2.1.since h2,hf2,hd.since h h2.1.since,hk2⟩
  have hb:=oO h
  cases d with
  | false=>
   refine wpIn_region ?_
   have:=oG (mo:=⟨ds,r,hi⟩) (c0:=c.lend (cH ρ S.H)) hE hs hT ops.toList [] [] rfl (fun j t hj=>by simp [ab] at hj) (c.lend (cH ρ S.H)) ρ S F a hb hf hk
   rw [List.range_eq_range']
   rw [show ([]:List Oper).length=0 from rfl,show ops.toList.length=ops.size by simp] at this
   exact this
  | true=>
   obtain ⟨n',m,wr,wl,need,ub,hB,hU,hk⟩:=hk
   simp only [Bool.and_eq_true,List.all_eq_true,List.mem_range,decide_eq_true_eq] at hB
   exact HA (mo:=⟨ds,r,hi⟩) (c0:=c.lend (cH ρ S.H)) (c:=c.lend (cH ρ S.H)) hB.1.1 hE hmo hs hB.1.2 hU hB.2 hT hb hf hk
 | seq x y ihx ihy=>
  intro r hi c0 Q QC hs hr hQ c ρ S F a ds h hf hd hk
  simp only [dq,Bool.and_eq_true] at hs
  simp only [fc,Bool.and_eq_true] at hr
  simp only [wpA] at hk
  split at hk
  ·refine wpIn_seq (ihx r hi c0 _ _ hs.1 (hr.imp id (·.1)) ?_ c ρ S F a ds h hf hd hk)
   clear hk
   rintro e a w ⟨c,ρ,S,F,ds,rfl,h,hf,hd,hk⟩
   cases e with
   | normal=>exact ihy r hi c0 Q QC hs.2 (hr.imp id (·.2)) hQ c ρ S F a ds h hf hd hk
   | _=>exact hQ _ _ _ ⟨c,ρ,S,F,ds,rfl,h,hf,hd,hk⟩
  ·rcases hk with hk|hk
   rotate_left
   ·exact hk n r hi c0 QC (by simp only [dq,Bool.and_eq_true];exact hs) (hr.imp id (fun h=>by simp only [fc,Bool.and_eq_true];exact h)) hQ c ρ F a ds h hf hd
   refine wpIn_seq (ihx r hi c0 _ _ hs.1 (hr.imp id (·.1)) ?_ c ρ S F a ds h hf hd hk)
   clear hk
   rintro e a w ⟨c,ρ,S,F,ds,rfl,h,hf,hd,hk⟩
   cases e with
   | normal=>
    obtain ⟨S1,hw,hM⟩:=hk
    obtain ⟨c1,ρ1,e1,h1⟩:=hw c0 c ρ F h
    have:=ihy r hi c0 Q QC hs.2 (hr.imp id (·.2)) hQ c1 ρ1 S1 F a ds h1 hf (by rw [e1];exact hd) hM
    rwa [e1] at this
   | _=>exact hQ _ _ _ ⟨c,ρ,S,F,ds,rfl,h,hf,hd,hk⟩
 | cond x a b iha ihb=>
  intro r hi c0 Q QC hs hr hQ c ρ S F act ds h hf hd hk
  simp only [dq,Bool.and_eq_true] at hs
  simp only [fc,Bool.and_eq_true] at hr
  simp only [wpA] at hk
  unfold mM at hk
  split at hk
  ·rename_i t ht
   have hv:=aO h.1 ht
   simp only [rd] at hv
   exact wpIn_cond_split (by rw [hf.eval (mo:=⟨ds,r,hi⟩) hs.1];exact hv) (fun e=>iha r hi c0 Q QC hs.2.1 (hr.imp id (·.1)) hQ c ρ S F act ds h hf hd (hk.1 e)) (fun e=>ihb r hi c0 Q QC hs.2.2 (hr.imp id (·.2)) hQ c ρ S F act ds h hf hd (hk.2 e))
  ·exact hk.elim
 | block id x ih=>
  intro r hi c0 Q QC hs hr hQ c ρ S F a ds h hf hd hk
  refine wpIn_block (ih r hi c0 _ _ hs hr ?_ c ρ S F a ds h hf hd hk)
  clear hk
  rintro e a w ⟨c,ρ,S,F,ds,rfl,h,hf,hd,hk⟩
  cases e with
  | exit j=>
   simp only [wB] at hk
   simp only [Exit.inBlock]
   split at hk
   ·rename_i e;subst e
    rw [if_pos rfl]
    exact hQ _ _ _ ⟨c,ρ,S,F,ds,rfl,h,hf,hd,hk⟩
   ·rename_i e
    rw [if_neg (by simpa using e)]
    exact hQ _ _ _ ⟨c,ρ,S,F,ds,rfl,h,hf,hd,hk⟩
  | _=>exact hQ _ _ _ ⟨c,ρ,S,F,ds,rfl,h,hf,hd,hk⟩
 | loop x ih=>
  intro r hi c0 Q QC hs hr hQ c ρ S F a ds h hf hd hk
  simp only [wpA] at hk
  obtain ⟨I,k0,⟨S1,hw,hI⟩,hround⟩:=hk
  obtain ⟨c1,ρ1,e1,h1⟩:=hw c0 c ρ F h
  refine uI (mo:=⟨[],r,hi⟩) (fun k a w=> ∃c ρ S F ds,c.w=w∧aT E c0 c ρ S F∧Fr (mo:=⟨ds,r,hi⟩) n F a∧de c0.w.heap.size ds w∧I k S) k0 ⟨c1,ρ1,S1,F,ds,e1,h1,hf,hd,hI⟩ ?_
  rintro k a w ⟨c,ρ,S,F,ds,rfl,h,hf,hd,hI⟩
  refine ih r hi c0 _ _ hs hr ?_ c ρ S F a ds h hf hd (hround k S hI)
  rintro e a w ⟨c,ρ,S,F,ds,rfl,h,hf,hd,hk⟩
  cases e with
  | normal=>
   obtain ⟨k',hlt,S3,hw,hI⟩:=hk
   obtain ⟨c1,ρ1,e1,h1⟩:=hw c0 c ρ F h
   exact ⟨k',hlt,c1,ρ1,S3,F,ds,e1,h1,hf,hd,hI⟩
  | _=>exact hQ _ _ _ ⟨c,ρ,S,F,ds,rfl,h,hf,hd,hk⟩
 | ret=>
  intro r hi c0 Q QC hs hr hQ c ρ S F a ds h hf hd hk
  exact wpIn_ret (hQ _ _ _ ⟨c,ρ,S,F,ds,rfl,h,hf,hd,hk⟩)
 | exit id=>
  intro r hi c0 Q QC hs hr hQ c ρ S F a ds h hf hd hk
  exact wpIn_exit (hQ _ _ _ ⟨c,ρ,S,F,ds,rfl,h,hf,hd,hk⟩)
 | rangeFunc g ps as1 body _ ih=>
  intro r hi c0 Q QC hs hr hQ c ρ S F a ds h hf hd hk
  obtain ⟨rfl,rfl⟩:r=none∧hi=fun _=>undef:=by
   rcases hr with hr|hr
   ·exact hr
   ·simp [fc] at hr
  obtain ⟨gf,caps,xs,d,p,I,S1,hw,hI0,he,hpc,⟨ha,hnd,hpp⟩,hit,hxl,hnok,hround,hend⟩:=hk
  simp only [dq,ha,Bool.and_eq_true,decide_eq_true_eq,List.all_eq_true] at hs
  obtain ⟨⟨⟨⟨hgB,hpB⟩,hdB⟩,hnB⟩,hnr,hsb⟩:=hs
  obtain ⟨c1,ρ1,e1,h1⟩:=hw c0 c ρ F h
  rw [←e1] at hd⊢
  have hv:=aO h1.1 he
  simp only [rd] at hv
  obtain ⟨us,hfn,hus⟩:=hv
  obtain ⟨encs,hen,hseq⟩:=hit.2 c1 us h1.1.gl (lf hpc hus)
  have hFu: ∀t,n≤t→t<bU→F t=undef:=fun t ht _=>hf.hg t ht
  have hdlt: ∀k,{target:= .collected k,args:= #[]}∈ds→k<c1.w.heap.size:=fun k hk=>(Array.getElem?_eq_some_iff.1 (hd.mem hk)).1
  have hlen: ∀i:Fin xs.length,(encs i.val).length=ps.size:=fun i=>by
   have h2:xs[i.val]? =some xs[i.val]:=List.getElem?_eq_getElem i.isLt
   exact (wz (hen _ _ h2)).trans (hxl _ (List.getElem_mem _))
  have hgrow: ∀{cx:Cx} {ρx:Ro} {Sx:St} {B:World} {row:Option Nat},aT E c0 cx ρx Sx F→jM Sx.H=true→de c0.w.heap.size ds cx.w→cx.w.grownBy B row→(∀k,row=some k→c1.w.heap.size≤k∧ ∃o:Obj,cx.w.heap[k]? =some o∧o.isCells=false)→
    ∃c',c'.w=B∧cx.pub c'∧aT E c0 c' ρx Sx F∧de c0.w.heap.size ds B:=by
   intro cx ρx Sx B row hx hn hdx hg hr
   obtain ⟨c',e,hp,h'⟩:=rM hx hg (fun k hk=>⟨Nat.le_trans h1.1.since.size (hr k hk).1,(hr k hk).2⟩) (fun k hk i b hb hpv hbl=>by
    obtain ⟨_,o,g1,g2⟩:=(hr k hk)
    obtain ⟨_,o',g3,g4⟩:=oN hpv (hx.1.heap i b hb) hbl
    rw [g1] at g3;cases g3
    rcases g4 with g4|⟨⟨g,k',m,l,e⟩,_⟩
    ·rw [g2] at g4;cases g4
    ·exact BM hn hb g k' m l e)
   refine ⟨c',e,hp,h',hdx.keep fun k hk ho=> ?_⟩
   refine (hg.block k (Array.getElem?_eq_some_iff.1 ho).1 fun e2=> ?_).trans ho
   have:=(hr k e2.symm).1
   have:=hdlt k hk
   omega
  refine HC (m:=3) rfl (wpIn_rangeFunc_ownG (α:=Fin xs.length) rfl (by omega) (gf:=gf) (lb:=us.toArray) (by rw [hf.eval (mo:=⟨ds,none,fun _=>undef⟩) hgB];exact hfn) trivial hit.1 (Kp:=gD c1) hseq
   (fun {A B C} hA hB=>⟨Nat.le_trans hA.1 hB.1,fun k hk hx o ho hc=>hB.2 k hk hx o (hA.2 k hk hx o ho hc) hc⟩)
   (fun W l o o' hl ho hc _=>⟨by simp,fun k hk hx o2 ho2 hc2=>(World.putObj_heap_other (by omega)).trans ho2⟩) (Below.refl _ _) (fun i=>by simpa using hlen i)
   (fun pre W=> ∃cx ρx Sx,cx.w=W∧aT E c0 cx ρx Sx F∧c1.pub cx∧de c0.w.heap.size ds W∧I (pre.map (·.val)) Sx)
   (fun cd pre W=> ∃cx ρx Sx,cx.w=W∧aT E c0 cx ρx Sx F∧de c0.w.heap.size ds W∧jM Sx.H=true∧((cd= .ret∧(pre.map (·.val)=List.range pre.length→Q .ret Sx))∨ ∃id,cd= .exit id∧(pre.map (·.val)=List.range pre.length→Q (.exit id) Sx)))
   ?_ ?_ ⟨c1,ρ1,S1,rfl,h1,Cx.pub.refl _,hd,hI0⟩
   (fun i=>(⟨du (ps.toList.zip (encs i.val)) a.tmps,[]⟩:Act).put (some d) ((du (ps.toList.zip (encs i.val)) a.tmps).getD p undef)) ?_ ?_ ?_ ?_)
  ·rintro pre A B row ⟨cx,ρx,Sx,rfl,hx,hp,hdx,hi⟩ hg hr
   obtain ⟨c',e,hp',h',hd'⟩:=hgrow hx (by have:=hnok _ _ hi;simp only [Bool.and_eq_true] at this;exact this.1) hdx hg hr
   exact ⟨c',ρx,Sx,e,h',hp.trans hp',hd',hi⟩
  ·rintro cd pre A B row ⟨cx,ρx,Sx,rfl,hx,hdx,hn,hi⟩ hg hr
   obtain ⟨c',e,_,h',hd'⟩:=hgrow hx hn hdx hg hr
   exact ⟨c',ρx,Sx,e,h',hd',hn,hi⟩
  ·intro l i W K hK
   refine HD ha (fun _=>trivial) ?_
   have e:(ps.zip (encs i.val).toArray).foldl (fun t (p,v)=>t.setIfInBounds p v) a.tmps=du (ps.toList.zip (encs i.val)) a.tmps:=by
    rw [←Array.foldl_toList];simp [du]
   simp only [e]
   exact hK
  ·rintro l pre i W ⟨cx,ρx,Sx,rfl,hx,hp,hdx,hi⟩ hlt
   have hn:=hnok _ _ hi
   simp only [Bool.and_eq_true] at hn
   have hl:xs[i.val]? =some xs[i.val]:=List.getElem?_eq_getElem i.isLt
   have hb:=oO hx
   obtain ⟨Fb,hbS,hbF⟩:=HG (r:=some l) (a:=a) hb hf.sz (fun t ht=>hf.sl t ht) hnB (eW (hp.trans (cx.pub_lend _)) (hen _ _ hl)) hpB hdB hnd hpp (hxl _ (List.getElem_mem _)) hn.2 hFu rfl
   refine ih (some l) _ (cx.lend (cH ρx Sx.H)) (rfK E (pre.map (·.val)++[i.val]=List.range ((pre.map (·.val)).length+1)) Q (I (pre.map (·.val)++[i.val]))) _ hsb (.inr hnr) ?_ (cx.lend (cH ρx Sx.H)) ρx _ Fb _ [] hbS hbF trivial (hround _ _ _ _ hi hl (by simpa using hlt))
   rintro e a2 w2 ⟨c2,ρ2,S2,F2,ds2,rfl,h2,hf2,_,hk2⟩
   have hs2:=h2.1.since
   have hKF:KeepsFrom c1.w.heap.size cx.w c2.w:=⟨hs2.size,fun k o _ ho hc=>wx hx hs2 ho hc (.inr fun i b hb=>BM hn.1 hb)⟩
   have hKP:gD c1 cx.w c2.w:=⟨hs2.size,fun k hk hX o ho hc=>((BG hx hs2).keep k (Nat.lt_of_lt_of_le hk hp.size) (hp.keep k hk hX).1).2 o ho hc⟩
   have hdn:aT E (cx.lend (cH ρx Sx.H)) c2 ρ2 (dnS S2) F:=by
    refine ⟨⟨h2.1.since,h2.1.gl,fun t v ht=> ?_,h2.1.heap,h2.1.sep⟩,h2.2⟩
    simp only [dnS,BH] at ht
    have h3:=h2.1.slot _ v ht
    rw [hf2.hg (bU+t) (by omega)] at h3
    simpa using h3
   have hd2:=hdx.since hx hs2
   cases e with
   | normal=>
    obtain ⟨S3,hw3,hN⟩:=hk2
    obtain ⟨c3,ρ3,e3,h3⟩:=hw3 _ c2 ρ2 F hdn
    exact ⟨hKF,hKP,c3,ρ3,S3,e3,jL hx h3.1.since h3,hp.trans (BG hx h3.1.since),hd2,by simpa using hN⟩
   | ret=>exact ⟨hKF,c2,ρ2,_,rfl,jL hx hdn.1.since hdn,hd2,hk2.1,.inl ⟨rfl,fun h=>hk2.2 (by simpa using h)⟩⟩
   | exit id=>exact ⟨hKF,c2,ρ2,_,rfl,jL hx hdn.1.since hdn,hd2,hk2.1,.inr ⟨id,rfl,fun h=>hk2.2 (by simpa using h)⟩⟩
   | _=>exact hk2.elim
  ·rintro D xs' W hD hS ⟨cx,ρx,Sx,rfl,hx,_,hdx,hi⟩ hK
   rw [hS] at hi
   refine hQ _ _ _ ⟨cx,ρx,Sx,F,{target:= .collected D,args:= #[]}::ds,rfl,hx, @Fr.mk ⟨_,none,_⟩ n F _ hf.sz (by simp [hf.df]) hf.sl hf.hg,⟨⟨D,rfl,Nat.le_trans h1.1.since.size hD,hK,?_⟩,hdx⟩,hend _ hi⟩
   rintro e he rfl
   have:=hdlt D he
   omega
  ·rintro D cd pre W hD hSp ⟨cx,ρx,Sx,rfl,hx,hdx,_,hi⟩ hK
   have hfin: ∀e,Q e Sx→QC e {a with defers:={target:= .collected D,args:= #[]}::a.defers} cx.w:=fun e hq=>by
    refine hQ _ _ _ ⟨cx,ρx,Sx,F,{target:= .collected D,args:= #[]}::ds,rfl,hx, @Fr.mk ⟨_,none,_⟩ n F _ hf.sz (by simp [hf.df]) hf.sl hf.hg,⟨⟨D,rfl,Nat.le_trans h1.1.since.size hD,hK,?_⟩,hdx⟩,hq⟩
    rintro e he rfl
    have:=hdlt D he
    omega
   rcases hi with ⟨rfl,hq⟩|⟨id,rfl,hq⟩
   ·exact wpIn_ret (hfin _ (hq hSp.1))
   ·exact wpIn_exit (hfin _ (hq hSp.1))
 | _=>
  intro r hi c0 Q QC hs hr hQ c ρ S F a ds h hf hd hk
  exact hk.elim
def rQ (tb:TypeId→TI) (S:St):ResultVar→Option V
 | .tmp t=>ab S.F t
 | .cell t T=>match ab S.F t with
  | some (.ptr id 0)=>match ab S.H id with
   | some (.var n g d)=>if (tb T).ok=true∧(tb T).n=n∧(tb T).g=g then some d else none
   | some (.pvar n g d)=>if (tb T).ok=true∧(tb T).n=n∧(tb T).g=g then some d else none
   | _=>none
  | _=>none
def fR (tb:TypeId→TI) (S:St):List ResultVar→Option (List V)
 | []=>some []
 | x::l=>match rQ tb S x,fR tb S l with
  | some v,some vs=>some (v::vs)
  | _,_=>none
def fd:List V→V
 | [v]=>v
 | vs=> .tup vs
def oQ (E:Env) (S:St) (v:V) (r:V) (H:List Blk):Prop:=
 ∀c0 c ρ F u,c0.Y=[]→aT E c0 c ρ S F→rd ρ c v u→ ∃c1 ρ1,c1.w=c.w∧c0.le c1∧rd ρ1 c1 r u∧HOk c0 c1 ρ1 H
def rR (E:Env) (rs:List ResultVar) (r:V) (H:List Blk):Exit→St→Prop
 | .ret,S=>match fR E.tb S rs with
  | some vs=>oQ E S (fd vs) r H
  | none=>False
 | _,_=>False
theorem HH (hE:a7 E) (h:Sim E c0 c ρ S F) {x:ResultVar} {v:V} (hx:rQ E.tb S x=some v): ∃u,uP E.P F c.w x u∧rd ρ c v u:=by
 cases x with
 | tmp t=>exact ⟨F t,rfl,h.slot t v hx⟩
 | cell t T=>
  simp only [rQ] at hx
  split at hx
  ·rename_i id ht
   have hp:=h.slot _ _ ht
   simp only [rd] at hp
   obtain ⟨b,hb,he⟩:=hp
   split at hx
   ·rename_i n g d hH
    obtain ⟨⟨h1,rfl,rfl⟩,hx2⟩:=aR hx
    cases hx2
    obtain ⟨b',e1,e2,hv⟩:=h.heap _ _ hH
    rw [hb] at e1;cases e1
    obtain ⟨u,hu,hu'⟩:=F7 ((hE.t T h1).ty ρ) hv he
    exact ⟨u,hu,ft hu'⟩
   ·rename_i n g d hH
    obtain ⟨⟨h1,rfl,rfl⟩,hx2⟩:=aR hx
    cases hx2
    obtain ⟨b',e1,hv⟩:=h.heap _ _ hH
    rw [hb] at e1;cases e1
    obtain ⟨b2,o2,cs,e3,_,_,hc,hi⟩:=hv
    cases e3
    have hrun:=og (P:=E.P) ((hE.t T h1).ty ro0) hi hc
    exact ⟨_,⟨_,he,hrun⟩,mD ⟨cs,hi,rfl⟩⟩
   ·cases hx
  ·cases hx
theorem BO {mo:Mo} (hE:a7 E) {n:Nat} {a:Act} (h:Sim E c0 c ρ S F) (hf: @Fr mo n F a) (h0:mo.hi=fun _=>undef): ∀{l:List ResultVar} {vs:List V},fR E.tb S l=some vs→ ∃us:List Value,us.length=l.length∧(l.mapM (kO a.tmps)).run E.P c.w= .ok us c.w∧rdT ρ c vs us
 | [],vs,hx=>by
  simp only [fR,Option.some.injEq] at hx
  subst hx
  exact ⟨[],rfl,by simp,rfl⟩
 | x::l,vs,hx=>by
  simp only [fR] at hx
  split at hx
  ·rename_i v vs' h1 h2
   cases hx
   obtain ⟨u,hu,hr⟩:=HH hE h h1
   obtain ⟨us,hl,hrun,hrs⟩:=BO hE h hf h0 h2
   refine ⟨u::us,by simp [hl],?_,?_⟩
   ·simp only [List.mapM_cons,Sem.run_bind,F9 hf h0 hu,Result.andThen_ok,hrun,Sem.run_pure]
   ·simp only [rdT];exact ⟨u,us,rfl,hr,hrs⟩
  ·cases hx
theorem wD {mo:Mo} (hE:a7 E) {n:Nat} {a:Act} {fn:Func} (h:Sim E c0 c ρ S F) (hf: @Fr mo n F a) (h0:mo.hi=fun _=>undef) {vs:List V} (hx:fR E.tb S fn.results.toList=some vs): ∃u,(results fn a.tmps).run E.P c.w= .ok u c.w∧rd ρ c (fd vs) u:=by
 obtain ⟨us,hl,hrun,hrs⟩:=BO hE h hf h0 hx
 have hrun':(fn.results.mapM (kO a.tmps)).run E.P c.w= .ok us.toArray c.w:=by
  rw [Array.mapM_eq_mapM_toList]
  simp only [map_eq_pure_bind,Sem.run_bind,hrun,Result.andThen_ok,Sem.run_pure]
 refine ⟨if h:us.toArray.size=1 then us.toArray[0] else .tuple us.toArray,?_,?_⟩
 ·rw [F8]
  simp only [Sem.run_bind,hrun',Result.andThen_ok,Sem.run_pure]
 ·match vs,us,hrs with
  | [],us,hrs=>
   simp only [rdT] at hrs
   subst hrs
   simp only [fd,rd]
   exact ⟨[],rfl,rfl⟩
  | [v],us,hrs=>
   simp only [rdT] at hrs
   obtain ⟨u,c2,rfl,h1,rfl⟩:=hrs
   exact h1
  | v::v'::vs,us,hrs=>
   have hrs':=hrs
   simp only [rdT] at hrs'
   obtain ⟨u,c2,rfl,h1,u',c3,rfl,h2,h3⟩:=hrs'
   simp only [fd,rd]
   refine ⟨u::u'::c3,?_,hrs⟩
   simp
def hO:Nat→List V→List (Nat×V)
 | _,[]=> []
 | i,v::l=>(i,v)::hO (i+1) l
theorem wE: ∀{l:List V} {i t:Nat},ab (hO i l) t=if i≤t then l[t - i]? else none
 | [],i,t=>by simp [hO,ab]
 | v::l,i,t=>by
  simp only [hO,ab,wE]
  by_cases h:i=t
  ·subst h;simp
  ·rw [if_neg h]
   by_cases h1:i≤t
   ·rw [if_pos h1,if_pos (by omega)]
    have:t - i=(t - (i+1))+1:=by omega
    rw [this,List.getElem?_cons_succ]
   ·rw [if_neg h1,if_neg (by omega)]
theorem cg (hE:a7 E) (hmo:E.P.follows .mixedOrders=true) {f:FuncId} {fn:Func} {code:Code} {ws:List V} {r:V} {H:List Blk} {n:Nat} (J:bV) (hf:E.P.funcs[f]? =some fn) (hb:fn.body=some code) (hnt:fn.ntmps=n)
  (hsl:(dq n code&&decide (ws.length≤n)&& !(fn.name== "runtime.NumGoroutine"))=true)
  (h:wfL ws→wpA E J code (rR E fn.results.toList r H) ⟨hO 0 ws,[],0⟩):aV E f ws r H:=by
 simp only [Bool.and_eq_true,Bool.not_eq_true',decide_eq_true_eq] at hsl
 refine ⟨fun aas w=> ?_,fun c us hY hg hus=> ?_⟩
 ·have hn: ¬fn.name= "runtime.NumGoroutine" :=by simpa using hsl.2
  simp [callFunc,hf,hb,hn]
 have hlen:us.length=ws.length:=wz hus
 have hall:=h (mp hus)
 refine (callsIn_wide (n:=1)).1 (callsIn_of_wp_marks hf hb trivial ?_ rfl)
 have hfr:Fr (mo:=kH) n (fun t=>(us.toArray++Array.replicate (n - us.toArray.size) undef).getD t undef) {tmps:=us.toArray++Array.replicate (fn.ntmps - us.toArray.size) undef,defers:=[]}:=by
  refine Fr.of ?_ rfl fun t=>by rw [hnt]
  simp [hnt];omega
 have hS:aT E c c ro0 ⟨hO 0 ws,[],0⟩ (fun t=>(us.toArray++Array.replicate (n - us.toArray.size) undef).getD t undef):=by
  refine ⟨⟨cw.refl c,hg,?_,fun i b hb=>by simp [ab] at hb,fun i j bi bj k hij hb=>by simp [ab] at hb⟩,fun i _=>rfl⟩
  intro t v ht
  rw [wE] at ht
  simp only [Nat.zero_le,if_true,Nat.sub_zero] at ht
  obtain ⟨u,hu,hr⟩:=vP hus ht
  have hlt:t<us.length:=(List.getElem?_eq_some_iff.1 hu).1
  have:(us.toArray++Array.replicate (n - us.toArray.size) undef).getD t undef=u:=by
   have he:us[t]=u:=by simpa [List.getElem?_eq_getElem hlt] using hu
   simp [Array.getD_eq_getD_getElem?,Array.getElem?_append,hlt,he]
  rw [this];exact hr
 refine wC hE hmo code none _ c _ _ hsl.1.1 (.inl ⟨rfl,rfl⟩) ?_ c ro0 _ _ _ [] hS hfr trivial hall
 rintro e a w ⟨c',ρ',S',F',ds,rfl,hS,hf',hd,hk⟩
 cases e with
 | ret=>
  simp only [rR] at hk
  split at hk
  ·rename_i vs hvs
   show LeavesInM _ _ _ _ _ _ a.defers .returning c'.w
   rw [hf'.df]
   refine oP hS hd fun c2 hS2=> ?_
   obtain ⟨u,hu,hr⟩:=wD hE hS2.1 hf' rfl hvs
   obtain ⟨c1,ρ1,e1,hle,hr1,hH⟩:=hk c c2 ρ' F' u hY hS2 hr
   exact ⟨u,hu,u,c1,ρ1,rfl,e1,hle,hr1,hH⟩
  ·exact hk.elim
 | _=>exact hk.elim
end
end Go.Proofs.YteibkofekpejgaaGreatDoor
namespace Go.Proofs.YteibkofekpejgaaGreatDoor
open Go.RowKit
def mtZ:Option Bool→Option Bool→Prop
 | _,none=>True
 | some a,some b=>a=b
 | none,some _=>False
def leV (a b:V):Prop:= ∀ρ c v,rd ρ c a v→rd ρ c b v
mutual
def mt:V→V→Prop
 | .int k n,.int k' n'=>k=k'∧n=n'
 | .bool a,.bool b=>a=b
 | .ifc a,.ifc b=>a=b
 | .str a,.str b=>a=b
 | .agg l,.agg m=>mtL l m
 | .sl z n g l,.sl z' n' g' m=>mtZ z z'∧((l=[]∧m=[])∨(n=n'∧g=g'∧mtL l m))
 | .pp n g d,.pp n' g' d'=>n=n'∧g=g'∧mt d d'
 | .own i,.own j=>i=j
 | .ptr i o,.ptr j p=>i=j∧o=p
 | .optr i m k o,.optr i' m' k' o'=>i=i'∧m=m'∧k=k'∧o=o'
 | .osub i m k o,.osub i' m' k' o'=>i=i'∧m=m'∧k=k'∧o=o'
 | .tup l,.tup m=>mtL l m
 | .fn f l,.fn f' m=>f=f'∧mtL l m
 | a,.opq p=>leV a (.opq p)
 | _,.un=>True
 | _,_=>False
def mtL:List V→List V→Prop
 | [],[]=>True
 | a::l,b::m=>mt a b∧mtL l m
 | _,_=>False
end
theorem lk {z z':Option Bool} {a:Option Addr} {cap:Nat} (h:mtZ z z') (k:zOk z a cap):zOk z' a cap:=by
 cases z' with
 | none=>exact mm k
 | some b=>
  cases z with
  | none=>exact h.elim
  | some b'=>
   have e:b'=b:=h
   subst e;exact k
theorem jO: ∀{l m:List V},mtL l m→l.length=m.length
 | [],[],_=>rfl
 | a::l,b::m,h=>by simp only [mtL] at h;simp [jO h.2]
 | [],_::_,h=>by simp [mtL] at h
 | _::_,[],h=>by simp [mtL] at h
mutual
theorem dM {ρ:Ro} {c:Cx}: ∀{a b:V} {v:Value},mt a b→rd ρ c a v→rd ρ c b v
 | .int k n,b,v,h,hr=>by
  cases b<;>simp only [mt] at h<;>try exact h.elim
  ·obtain ⟨rfl,rfl⟩:=h;exact hr
  ·exact h _ _ _ hr
  ·trivial
 | .bool a,b,v,h,hr=>by
  cases b<;>simp only [mt] at h<;>try exact h.elim
  ·subst h;exact hr
  ·exact h _ _ _ hr
  ·trivial
 | .ifc a,b,v,h,hr=>by
  cases b<;>simp only [mt] at h<;>try exact h.elim
  ·subst h;exact hr
  ·exact h _ _ _ hr
  ·trivial
 | .str a,b,v,h,hr=>by
  cases b<;>simp only [mt] at h<;>try exact h.elim
  ·subst h;exact hr
  ·exact h _ _ _ hr
  ·trivial
 | .agg l,b,v,h,hr=>by
  cases b<;>simp only [mt] at h<;>try exact h.elim
  ·simp only [rd] at hr⊢
   obtain ⟨cs,e,hr⟩:=hr
   exact ⟨cs,e,BP h hr⟩
  ·exact h _ _ _ hr
  ·trivial
 | .sl z n g l,b,v,h,hr=>by
  cases b<;>simp only [mt] at h<;>try exact h.elim
  ·rename_i z' n' g' m
   obtain ⟨hz,h⟩:=h
   simp only [rd] at hr⊢
   obtain ⟨a,cap,e,hl,hz',hr⟩:=hr
   rcases h with ⟨rfl,rfl⟩|⟨rfl,rfl,hm⟩
   ·exact ⟨a,cap,e,hl,lk hz hz',.inl rfl⟩
   ·have hlen:=jO hm
    rw [hlen] at hl e
    refine ⟨a,cap,e,hl,lk hz hz',?_⟩
    rcases hr with h|⟨b,o,cs,e,h1,h2,h3,h4⟩
    ·subst h
     exact .inl (List.eq_nil_of_length_eq_zero hlen.symm)
    ·exact .inr ⟨b,o,cs,e,h1,h2,h3,rS hm h4⟩
  ·exact h _ _ _ hr
  ·trivial
 | .pp n g d,b,v,h,hr=>by
  cases b<;>simp only [mt] at h<;>try exact h.elim
  ·obtain ⟨rfl,rfl,hm⟩:=h
   simp only [rd] at hr⊢
   obtain ⟨b,o,cs,e,h1,h2,h3,h4,h5⟩:=hr
   exact ⟨b,o,cs,e,h1,h2,h3,h4,dM hm h5⟩
  ·exact h _ _ _ hr
  ·trivial
 | .own i,b,v,h,hr=>by
  cases b<;>simp only [mt] at h<;>try exact h.elim
  ·subst h;exact hr
  ·exact h _ _ _ hr
  ·trivial
 | .ptr i o,b,v,h,hr=>by
  cases b<;>simp only [mt] at h<;>try exact h.elim
  ·obtain ⟨rfl,rfl⟩:=h;exact hr
  ·exact h _ _ _ hr
  ·trivial
 | .optr i m k o,b,v,h,hr=>by
  cases b<;>simp only [mt] at h<;>try exact h.elim
  ·obtain ⟨rfl,rfl,rfl,rfl⟩:=h;exact hr
  ·exact h _ _ _ hr
  ·trivial
 | .osub i m k o,b,v,h,hr=>by
  cases b<;>simp only [mt] at h<;>try exact h.elim
  ·obtain ⟨rfl,rfl,rfl,rfl⟩:=h;exact hr
  ·exact h _ _ _ hr
  ·trivial
 | .tup l,b,v,h,hr=>by
  cases b<;>simp only [mt] at h<;>try exact h.elim
  ·simp only [rd] at hr⊢
   obtain ⟨cs,e,hr⟩:=hr
   exact ⟨cs,e,hP h hr⟩
  ·exact h _ _ _ hr
  ·trivial
 | .fn f l,b,v,h,hr=>by
  cases b<;>simp only [mt] at h<;>try exact h.elim
  ·obtain ⟨rfl,h⟩:=h
   simp only [rd] at hr⊢
   obtain ⟨cs,e,hr⟩:=hr
   exact ⟨cs,e,hP h hr⟩
  ·exact h _ _ _ hr
  ·trivial
 | .opq p,b,v,h,hr=>by
  cases b<;>simp only [mt] at h<;>try exact h.elim
  ·exact h _ _ _ hr
  ·trivial
 | .un,b,v,h,hr=>by
  cases b<;>simp only [mt] at h<;>try exact h.elim
  ·exact h _ _ _ hr
  ·trivial
theorem BP {ρ:Ro} {c:Cx}: ∀{l m:List V} {cs:List Value},mtL l m→rdC ρ c l cs→rdC ρ c m cs
 | [],[],_,_,h=>h
 | a::l,b::m,cs,hm,h=>by
  simp only [rdC,mtL] at h hm⊢
  obtain ⟨u,c2,e,h1,h2,h3⟩:=h
  exact ⟨u,c2,e,h1,dM hm.1 h2,BP hm.2 h3⟩
 | [],_::_,_,hm,_=>by simp [mtL] at hm
 | _::_,[],_,hm,_=>by simp [mtL] at hm
theorem hP {ρ:Ro} {c:Cx}: ∀{l m:List V} {cs:List Value},mtL l m→rdT ρ c l cs→rdT ρ c m cs
 | [],[],_,_,h=>h
 | a::l,b::m,cs,hm,h=>by
  simp only [rdT,mtL] at h hm⊢
  obtain ⟨u,c2,e,h2,h3⟩:=h
  exact ⟨u,c2,e,dM hm.1 h2,hP hm.2 h3⟩
 | [],_::_,_,hm,_=>by simp [mtL] at hm
 | _::_,[],_,hm,_=>by simp [mtL] at hm
theorem rS {c:Cx} {n:Nat} {g:Bool}: ∀{l m:List V} {cs:List Value},mtL l m→rdE c n g l cs→rdE c n g m cs
 | [],[],_,_,h=>h
 | a::l,b::m,cs,hm,h=>by
  simp only [rdE,mtL] at h hm⊢
  obtain ⟨c1,c2,e,⟨h1,h2⟩,h3⟩:=h
  exact ⟨c1,c2,e,⟨h1,dM hm.1 h2⟩,rS hm.2 h3⟩
 | [],_::_,_,hm,_=>by simp [mtL] at hm
 | _::_,[],_,hm,_=>by simp [mtL] at hm
end
mutual
theorem wF: ∀(a:V),mt a a
 | .int _ _=>⟨rfl,rfl⟩
 | .bool _=>rfl
 | .ifc _=>rfl
 | .str _=>rfl
 | .agg l=>by simp only [mt];exact iT l
 | .sl z n g l=>by
  simp only [mt]
  exact ⟨by rcases z with _|_<;>simp [mtZ],.inr ⟨trivial,trivial,iT l⟩⟩
 | .pp n g d=>by simp only [mt];exact ⟨trivial,trivial,wF d⟩
 | .own _=>rfl
 | .ptr _ _=>⟨rfl,rfl⟩
 | .optr _ _ _ _=>⟨rfl,rfl,rfl,rfl⟩
 | .osub _ _ _ _=>⟨rfl,rfl,rfl,rfl⟩
 | .tup l=>by simp only [mt];exact iT l
 | .fn f l=>by simp only [mt];exact ⟨trivial,iT l⟩
 | .opq p=>by simp only [mt];exact fun _ _ _ h=>h
 | .un=>trivial
theorem iT: ∀(l:List V),mtL l l
 | []=>trivial
 | a::l=>by simp only [mtL];exact ⟨wF a,iT l⟩
end
theorem lm {a:V}:mt a a=True:=eq_true (wF a)
theorem ln {l:List V}:mtL l l=True:=eq_true (iT l)
theorem HI {a b a' b':List V} (h1:mtL a a') (h2:mtL b b'):mtL (a++b) (a'++b'):=by
 induction a generalizing a' with
 | nil=>cases a' with
  | nil=>exact h2
  | cons x l=>simp [mtL] at h1
 | cons y a ih=>cases a' with
  | nil=>simp [mtL] at h1
  | cons x l=>
   simp only [mtL] at h1
   simp only [List.cons_append,mtL]
   exact ⟨h1.1,ih h1.2⟩
theorem HJ {a b b':List V} (h:mtL (a++b) (a++b')):mtL b b':=by
 induction a with
 | nil=>exact h
 | cons x a ih=>simp only [List.cons_append,mtL] at h;exact ih h.2
theorem HK {a b b':List V}:mtL (a++b) (a++b')=mtL b b':=propext ⟨HJ,fun h=>HI (iT a) h⟩
mutual
def ltV (n:Nat):V→Prop
 | .own i=>i<n
 | .ptr i _=>i<n
 | .optr i _ _ _=>i<n
 | .osub i _ _ _=>i<n
 | .agg l=>ltL n l
 | .tup l=>ltL n l
 | .fn _ l=>ltL n l
 | _=>True
def ltL (n:Nat):List V→Prop
 | []=>True
 | d::l=>ltV n d∧ltL n l
end
def mtO (v:V):Option V→Prop
 | some u=>mt u v
 | none=>False
def dN (F:List (Nat×V)) (n:Nat):List (Nat×V)→Prop
 | []=>True
 | (t,v)::l=>mtO v (ab F t)∧ltV n v∧dN F n l
def mtB (b:Blk):Option Blk→Prop
 | some a=>match a,b with
  | .var n g d,.var n' g' d'=>n=n'∧g=g'∧mt d d'
  | .own E n g z l,.own E' n' g' z' m=>E=E'∧n=n'∧g=g'∧mtZ z z'∧mtL l m
  | .ownI E n g z l,.ownI E' n' g' z' m=>E=E'∧n=n'∧g=g'∧mtZ z z'∧mtL l m
  | .pvar n g d,.pvar n' g' d'=>n=n'∧g=g'∧mt d d'
  | .pown n g z l,.pown n' g' z' m=>n=n'∧g=g'∧mtZ z z'∧mtL l m
  | .lent k n g d,.lent k' n' g' d'=>k=k'∧n=n'∧g=g'∧mt d d'
  | .kset g k n l,.kset g' k' n' l'=>g=g'∧k=k'∧n=n'∧l=l'
  | _,_=>False
 | none=>False
def ltB (n:Nat):Blk→Prop
 | .var _ _ d=>ltV n d
 | .lent _ _ _ d=>ltV n d
 | .ownI _ _ _ _ l=>ltL n l
 | _=>True
def dO (H:List (Nat×Blk)) (n:Nat):List (Nat×Blk)→Prop
 | []=>True
 | (i,b)::l=>mtB b (ab H i)∧i<n∧ltB n b∧dO H n l
section
variable {E:Env} {c0 c:Cx} {ρ:Ro} {S S1:St} {F:Fm}
def iU (n:Nat) (ρ:Ro):Ro:=fun i=>if i<n then ρ i else none
theorem fv {n i:Nat} (h:i<n):iU n ρ i=ρ i:=by simp [iU,h]
mutual
theorem mN {n:Nat}: ∀{d:V} {v:Value},ltV n d→rd ρ c d v→rd (iU n ρ) c d v
 | .int _ _,_,_,h=>h
 | .bool _,_,_,h=>h
 | .ifc _,_,_,h=>h
 | .str _,_,_,h=>h
 | .agg l,v,hp,h=>by
  simp only [rd,ltV] at h hp⊢
  obtain ⟨cs,e,h⟩:=h
  exact ⟨cs,e,BQ hp h⟩
 | .sl z n g l,v,_,h=>h
 | .pp n g d,v,_,h=>h
 | .own i,_,hp,h=>by
  simp only [ltV] at hp
  exact ⟨(fv hp).trans h.1,h.2⟩
 | .ptr i o,_,hp,h=>by
  simp only [ltV,rd] at hp h⊢
  obtain ⟨b,h1,h2⟩:=h
  exact ⟨b,(fv hp).trans h1,h2⟩
 | .optr i m k o,_,hp,h=>by
  simp only [ltV,rd] at hp h⊢
  obtain ⟨b,h1,h2⟩:=h
  exact ⟨b,(fv hp).trans h1,h2⟩
 | .osub i m k o,_,hp,h=>by
  simp only [ltV,rd] at hp h⊢
  obtain ⟨b,h1,h2⟩:=h
  exact ⟨b,(fv hp).trans h1,h2⟩
 | .tup l,v,hp,h=>by
  simp only [rd,ltV] at h hp⊢
  obtain ⟨cs,e,h⟩:=h
  exact ⟨cs,e,wG hp h⟩
 | .fn f l,v,hp,h=>by
  simp only [rd,ltV] at h hp⊢
  obtain ⟨cs,e,h⟩:=h
  exact ⟨cs,e,wG hp h⟩
 | .opq p,v,_,h=>h
 | .un,_,_,_=>trivial
theorem BQ {n:Nat}: ∀{l:List V} {cs:List Value},ltL n l→rdC ρ c l cs→rdC (iU n ρ) c l cs
 | [],_,_,h=>h
 | d::l,cs,hp,h=>by
  simp only [rdC,ltL] at h hp⊢
  obtain ⟨u,c2,e,h1,h2,h3⟩:=h
  exact ⟨u,c2,e,h1,mN hp.1 h2,BQ hp.2 h3⟩
theorem wG {n:Nat}: ∀{l:List V} {cs:List Value},ltL n l→rdT ρ c l cs→rdT (iU n ρ) c l cs
 | [],_,_,h=>h
 | d::l,cs,hp,h=>by
  simp only [rdT,ltL] at h hp⊢
  obtain ⟨u,c2,e,h2,h3⟩:=h
  exact ⟨u,c2,e,mN hp.1 h2,wG hp.2 h3⟩
end
theorem BR {G:List (Nat×V)} {n:Nat}: ∀{l:List (Nat×V)},dN G n l→ ∀{t:Nat} {v:V},ab l t=some v→ ∃u,ab G t=some u∧mt u v∧ltV n v
 | [],_,t,v,h=>by simp [ab] at h
 | (k,x)::l,hs,t,v,h=>by
  simp only [dN] at hs
  simp only [ab] at h
  split at h
  ·rename_i e;subst e;cases h
   obtain ⟨h1,h2,_⟩:=hs
   unfold mtO at h1
   split at h1
   ·rename_i u hu;exact ⟨u,hu,h1,h2⟩
   ·exact h1.elim
  ·exact BR hs.2.2 h
theorem rT {G:List (Nat×Blk)} {n:Nat}: ∀{l:List (Nat×Blk)},dO G n l→ ∀{i:Nat} {b:Blk},ab l i=some b→ ∃a,ab G i=some a∧mtB b (some a)∧i<n∧ltB n b
 | [],_,t,v,h=>by simp [ab] at h
 | (k,x)::l,hs,t,v,h=>by
  simp only [dO] at hs
  simp only [ab] at h
  split at h
  ·rename_i e;subst e;cases h
   obtain ⟨h1,h2,h3,_⟩:=hs
   cases hu:ab G k with
   | none=>rw [hu] at h1;exact h1.elim
   | some a=>rw [hu] at h1;exact ⟨a,rfl,h1,h2,h3⟩
  ·exact rT hs.2.2.2 h
theorem BS {n k:Nat} {g:Bool}: ∀{l m:List V} {cs:List Value},mtL l m→ltL k m→aZ (rV ρ n g) c cs l→aZ (rV (iU k ρ) n g) c cs m
 | [],[],cs,_,_,h=>h
 | a::l,b::m,cs,hm,hl,h=>by
  simp only [mtL,ltL,aZ] at hm hl h⊢
  obtain ⟨c1,c2,e,⟨h1,h2⟩,h3⟩:=h
  exact ⟨c1,c2,e,⟨h1,mN hl.1 (dM hm.1 h2)⟩,BS hm.2 hl.2 h3⟩
 | [],_::_,_,hm,_,_=>by simp [mtL] at hm
 | _::_,[],_,hm,_,_=>by simp [mtL] at hm
theorem BT {n:Nat} {g:Bool} {l m:List V} {cs:List Value} (h:mtL l m) (ha:aZ (rV ro0 n g) c cs l):aZ (rV ro0 n g) c cs m:=eh.1 (rS h (eh.2 ha))
theorem wH {n i:Nat} {a b:Blk} (h:mtB b (some a)) (hi:i<n) (hl:ltB n b) (hb:blkOk c0 c ρ i a):blkOk c0 c (iU n ρ) i b∧aQ b=aQ a:=by
 cases a<;>cases b<;>simp only [mtB] at h<;>try exact h.elim
 ·obtain ⟨rfl,rfl,hm⟩:=h
  obtain ⟨b,h1,h2,h3,T,cs,h4,h5,h6⟩:=hb
  exact ⟨⟨b,(fv hi).trans h1,h2,h3,T,cs,h4,h5,mN hl (dM hm h6)⟩,rfl⟩
 ·obtain ⟨rfl,rfl,rfl,hz,hm⟩:=h
  obtain ⟨v,h1,h2,h3,h4,a,cap,e,h5⟩:=hb
  have hlen:=jO hm
  refine ⟨⟨v,(fv hi).trans h1,⟨hlen▸h2.1,?_⟩,h3,h4,a,cap,hlen▸e,lk hz h5⟩,rfl⟩
  rcases h2.2 with ⟨a',e9,rfl⟩|⟨g',cp,cur,e,k1,k2,k3,k4,k5,k6⟩
  ·exact .inl ⟨a',e9,List.eq_nil_of_length_eq_zero hlen.symm⟩
  ·rw [hlen] at e k3 k6
   exact .inr ⟨g',cp,cur,e,k1,k2,k3,k4,k5,BT hm k6⟩
 ·obtain ⟨rfl,rfl,rfl,hz,hm⟩:=h
  obtain ⟨v,h1,h2,h3,h4,a,cap,e,h5⟩:=hb
  have hlen:=jO hm
  simp only [ltB] at hl
  refine ⟨⟨v,(fv hi).trans h1,⟨hlen▸h2.1,?_⟩,h3,h4,a,cap,hlen▸e,lk hz h5⟩,rfl⟩
  rcases h2.2 with ⟨a',e9,rfl⟩|⟨g',cp,cur,e,k1,k2,k3,k4,k5,k6⟩
  ·exact .inl ⟨a',e9,List.eq_nil_of_length_eq_zero hlen.symm⟩
  ·rw [hlen] at e k3 k6
   exact .inr ⟨g',cp,cur,e,k1,k2,k3,k4,k5,BS hm hl k6⟩
 ·obtain ⟨rfl,rfl,hm⟩:=h
  obtain ⟨b,h1,b',o,cs,e,h2,h3,h4,h5,h6⟩:=hb
  exact ⟨⟨b,(fv hi).trans h1,b',o,cs,e,h2,h3,h4,h5,dM hm h6⟩,rfl⟩
 ·obtain ⟨rfl,rfl,hz,hm⟩:=h
  obtain ⟨v,h1,h2⟩:=hb
  refine ⟨⟨v,(fv hi).trans h1,dM ?_ h2⟩,rfl⟩
  simp only [mt]
  exact ⟨hz,.inr ⟨trivial,trivial,hm⟩⟩
 ·obtain ⟨rfl,rfl,rfl,hm⟩:=h
  obtain ⟨h1,h2,h3,T,cs,h4,h5,h6⟩:=hb
  exact ⟨⟨(fv hi).trans h1,h2,h3,T,cs,h4,h5,mN hl (dM hm h6)⟩,rfl⟩
 ·obtain ⟨rfl,rfl,rfl,rfl⟩:=h
  obtain ⟨r,h1,h2⟩:=hb
  exact ⟨⟨r,(fv hi).trans h1,h2⟩,rfl⟩
theorem fS (h1:dN S.F S1.nx S1.F) (h2:dO S.H S1.nx S1.H):b_ E S S1:=by
 intro c0 c ρ F h
 refine ⟨c,iU S1.nx ρ,rfl,⟨h.1.since,h.1.gl,?_,?_,?_⟩,fun i hi=>by simp [iU,Nat.not_lt.2 hi]⟩
 ·intro t v ht
  obtain ⟨u,hu,hm,hl⟩:=BR h1 ht
  exact mN hl (dM hm (h.1.slot t u hu))
 ·intro i b hb
  obtain ⟨a,ha,hm,hi,hl⟩:=rT h2 hb
  exact (wH hm hi hl (h.1.heap i a ha)).1
 ·intro i j bi bj k hij hbi hbj hpi hpj hk hk'
  obtain ⟨ai,hai,hmi,hi,hli⟩:=rT h2 hbi
  obtain ⟨aj,haj,hmj,hj,hlj⟩:=rT h2 hbj
  have e1:=(wH hmi hi hli (h.1.heap i ai hai)).2
  have e2:=(wH hmj hj hlj (h.1.heap j aj haj)).2
  rw [cM (fv hi)] at hk
  rw [cM (fv hj)] at hk'
  exact h.1.sep i j ai aj k hij hai haj (e1▸hpi) (e2▸hpj) hk hk'
def jP:Option Blk→V
 | some (.own _ n g z l)=> .sl z n g l
 | some (.pown n g z l)=> .sl z n g l
 | _=> .un
mutual
def hZ (H:List (Nat×Blk)):V→V
 | .own i=>jP (ab H i)
 | .ptr _ _=> .un
 | .optr _ _ _ _=> .un
 | .osub _ _ _ _=> .un
 | .agg l=> .agg (ia H l)
 | .tup l=> .tup (ia H l)
 | .fn f l=> .fn f (ia H l)
 | v=>v
def ia (H:List (Nat×Blk)):List V→List V
 | []=> []
 | d::l=>hZ H d::ia H l
end
def mO (H:List (Nat×Blk)) (off:Nat):Option Blk→V
 | some (.var n g d)=>if off=0 then .pp n g (hZ H d) else .un
 | some (.lent _ n g d)=>if off=0 then .pp n g (hZ H d) else .un
 | some (.pvar n g d)=>if off=0 then .pp n g d else .un
 | _=> .un
mutual
def fw (H:List (Nat×Blk)):V→V
 | .own i=>jP (ab H i)
 | .ptr i o=>mO H o (ab H i)
 | .optr _ _ _ _=> .un
 | .osub _ _ _ _=> .un
 | .agg l=> .agg (ia H l)
 | .tup l=> .tup (iV H l)
 | .fn f l=> .fn f (iV H l)
 | v=>v
def iV (H:List (Nat×Blk)):List V→List V
 | []=> []
 | d::l=>fw H d::iV H l
end
theorem rU (h:Sim E c0 c ρ S F) {k:Nat} (hk:c0.mine k):k∉(c0.base c h.since.size).X:=fun hm=>by
 obtain ⟨h1,h2⟩:=oD.1 hm
 rcases hk with hk|hk
 ·have:=c0.ok k h1;omega
 ·exact h2 hk
theorem BU (h:Sim E c0 c ρ S F) {i:Nat} {b:Blk} {v:Value} (hb:ab S.H i=some b) (hv:ρ i=some v):rd ro0 (c0.base c h.since.size) (jP (some b)) v:=by
 have hblk:=h.heap i b hb
 have hpb:=gA h
 cases b with
 | own T n g z l=>
  obtain ⟨v',h1,h2,h3,h4,a,cap,e,hz⟩:=hblk
  rw [hv] at h1;cases h1
  simp only [jP]
  refine dn.2 ⟨a,cap,e,⟨h2.1,?_⟩,hz,?_⟩
  ·rcases h2.2 with ⟨a',_,rfl⟩|⟨g',cp,cur,e2,_,_,k3,_⟩
   ·simp
   ·rw [e] at e2;cases e2;exact k3
  ·rcases h2.2 with ⟨a',_,rfl⟩|⟨g',cp,cur,e2,k1,k2,k3,k4,k5,k6⟩
   ·exact .inl rfl
   ·rw [e] at e2;cases e2
    refine .inr ⟨g',0,_,rfl,c.ok g' k1,rU h (h3 g' (by rw [e];rfl)),?_,c_ hpb k6⟩
    intro j u hj
    rw [List.getElem?_take] at hj
    split at hj
    ·simp only [Nat.zero_add]
     show (c0.base c h.since.size).w.cell? _=_
     simp only [Cx.base,World.cell?,k2]
     simpa using hj
    ·cases hj
 | pown n g z l=>
  obtain ⟨v',h1,h2⟩:=hblk
  rw [hv] at h1;cases h1
  exact bl hpb h2
 | _=>trivial
mutual
theorem oR (h:Sim E c0 c ρ S F): ∀{d:V} {v:Value},rd ρ c d v→rd ro0 (c0.base c h.since.size) (hZ S.H d) v
 | .int _ _,_,hr=>hr
 | .bool _,_,hr=>hr
 | .ifc _,_,hr=>hr
 | .str _,_,hr=>hr
 | .agg l,v,hr=>by
  simp only [rd,hZ] at hr⊢
  obtain ⟨cs,e,hr⟩:=hr
  exact ⟨cs,e,wI h hr⟩
 | .sl z n g l,v,hr=>bl (gA h) (show rd ro0 c (.sl z n g l) v from hr)
 | .pp n g d,v,hr=>bl (gA h) (show rd ro0 c (.pp n g d) v from hr)
 | .own i,v,hr=>by
  simp only [rd] at hr
  simp only [hZ]
  cases hb:ab S.H i with
  | none=>trivial
  | some b=>exact BU h hb hr.1
 | .ptr _ _,_,_=>trivial
 | .optr _ _ _ _,_,_=>trivial
 | .osub _ _ _ _,_,_=>trivial
 | .tup l,v,hr=>by
  simp only [rd,hZ] at hr⊢
  obtain ⟨cs,e,hr⟩:=hr
  exact ⟨cs,e,wJ h hr⟩
 | .fn f l,v,hr=>by
  simp only [rd,hZ] at hr⊢
  obtain ⟨cs,e,hr⟩:=hr
  exact ⟨cs,e,wJ h hr⟩
 | .opq p,v,hr=>bl (gA h) (show rd ro0 c (.opq p) v from hr)
 | .un,_,_=>trivial
theorem wI (h:Sim E c0 c ρ S F): ∀{l:List V} {cs:List Value},rdC ρ c l cs→rdC ro0 (c0.base c h.since.size) (ia S.H l) cs
 | [],_,hr=>hr
 | d::l,cs,hr=>by
  simp only [rdC,ia] at hr⊢
  obtain ⟨u,c2,e,h1,h2,h3⟩:=hr
  exact ⟨u,c2,e,h1,oR h h2,wI h h3⟩
theorem wJ (h:Sim E c0 c ρ S F): ∀{l:List V} {cs:List Value},rdT ρ c l cs→rdT ro0 (c0.base c h.since.size) (ia S.H l) cs
 | [],_,hr=>hr
 | d::l,cs,hr=>by
  simp only [rdT,ia] at hr⊢
  obtain ⟨u,c2,e,h2,h3⟩:=hr
  exact ⟨u,c2,e,oR h h2,wJ h h3⟩
end
theorem HL (h:Sim E c0 c ρ S F) {i off:Nat} {b:Blk} {v:Value} (hb:ab S.H i=some b) (hv:rd ρ c (.ptr i off) v):rd ro0 (c0.base c h.since.size) (mO S.H off (some b)) v:=by
 have hblk:=h.heap i b hb
 have hpb:=gA h
 simp only [rd] at hv
 obtain ⟨b0,hv,rfl⟩:=hv
 cases b with
 | var n g d=>
  obtain ⟨b',h1,h2,h3,T,cs,h4,h5,h6⟩:=hblk
  rw [hv] at h1;cases h1
  simp only [mO]
  split
  ·rename_i e;subst e
   simp only [rd]
   refine ⟨b0,0,cs.toList,rfl,c.ok b0 h3,rU h h2,?_,h5,oR h h6⟩
   intro j u hj
   show c.w.cell? _=_
   simp only [Nat.zero_add,World.cell?,h4]
   simpa using hj
  ·trivial
 | pvar n g d=>
  obtain ⟨b',h1,h2⟩:=hblk
  rw [hv] at h1;cases h1
  simp only [mO]
  split
  ·rename_i e;subst e
   exact bl hpb (gw.2 h2)
  ·trivial
 | lent k' n g d=>
  obtain ⟨h1,h2,h3,T,cs,h4,h5,h6⟩:=hblk
  rw [hv] at h1;cases h1
  simp only [mO]
  split
  ·rename_i e;subst e
   simp only [rd]
   refine ⟨b0,0,cs.toList,rfl,c.ok b0 h3,rU h h2,?_,h5,oR h h6⟩
   intro j u hj
   show c.w.cell? _=_
   simp only [Nat.zero_add,World.cell?,h4]
   simpa using hj
  ·trivial
 | _=>trivial
mutual
theorem wK (h:Sim E c0 c ρ S F): ∀{d:V} {v:Value},rd ρ c d v→rd ro0 (c0.base c h.since.size) (fw S.H d) v
 | .int _ _,_,hr=>hr
 | .bool _,_,hr=>hr
 | .ifc _,_,hr=>hr
 | .str _,_,hr=>hr
 | .agg l,v,hr=>by
  simp only [rd,fw] at hr⊢
  obtain ⟨cs,e,hr⟩:=hr
  exact ⟨cs,e,wI h hr⟩
 | .sl z n g l,v,hr=>bl (gA h) (show rd ro0 c (.sl z n g l) v from hr)
 | .pp n g d,v,hr=>bl (gA h) (show rd ro0 c (.pp n g d) v from hr)
 | .own i,v,hr=>by
  simp only [rd] at hr
  simp only [fw]
  cases hb:ab S.H i with
  | none=>trivial
  | some b=>exact BU h hb hr.1
 | .ptr i o,v,hr=>by
  simp only [fw]
  cases hb:ab S.H i with
  | none=>trivial
  | some b=>exact HL h hb hr
 | .optr _ _ _ _,_,_=>trivial
 | .osub _ _ _ _,_,_=>trivial
 | .tup l,v,hr=>by
  simp only [rd,fw] at hr⊢
  obtain ⟨cs,e,hr⟩:=hr
  exact ⟨cs,e,rW h hr⟩
 | .fn f l,v,hr=>by
  simp only [rd,fw] at hr⊢
  obtain ⟨cs,e,hr⟩:=hr
  exact ⟨cs,e,rW h hr⟩
 | .opq p,v,hr=>bl (gA h) (show rd ro0 c (.opq p) v from hr)
 | .un,_,_=>trivial
theorem rW (h:Sim E c0 c ρ S F): ∀{l:List V} {cs:List Value},rdT ρ c l cs→rdT ro0 (c0.base c h.since.size) (iV S.H l) cs
 | [],_,hr=>hr
 | d::l,cs,hr=>by
  simp only [rdT,iV] at hr⊢
  obtain ⟨u,c2,e,h2,h3⟩:=hr
  exact ⟨u,c2,e,wK h h2,rW h h3⟩
end
theorem BV {vs ws:List V} (hp:cW vs) (hm:mtL vs ws):oE E S vs S ws:=
 fun _ c ρ _ _ h hr=>⟨c,ρ,rfl,Cx.pub.refl _,h,hP hm (lf hp hr)⟩
theorem BW {vs ws:List V} (hm:mtL (iV S.H vs) ws):mG E S vs ws:=
 fun _ _ _ _ _ h hr=>hP hm (rW h hr)
theorem BX {vs ws:List V} (hp:cW vs) (hm:mtL vs ws): ∀(c:Cx) (ρ:Ro) (us:List Value),rdT ρ c vs us→rdT ro0 c ws us:=
 fun _ _ _ hr=>hP hm (lf hp hr)
theorem HN {v r:V} (hm:mt (fw S.H v) r):oQ E S v r []:=by
 intro c0 c ρ F u hY h hr
 refine ⟨c0.base c h.1.since.size,ro0,rfl,?_,dM hm (wK h.1 hr),HOk.nil⟩
 refine (Cx.leY.le ⟨h.1.since.below,fun k hk hy=> ?_⟩ hY)
 rw [oD]
 exact ⟨fun h=>h.1,fun h=>⟨h,hy⟩⟩
end
end Go.Proofs.YteibkofekpejgaaGreatDoor
namespace Go.Proofs.YteibkofekpejgaaGreatDoor
open Go.RowKit
inductive Ct where
 | code (c:Code)
 | ops (i:Nat) (ds:List (Nat×Nat)) (l:List Oper)
 | blk (id:Nat)
 | lp (K:St→Prop)
 | fin (Q:Exit→St→Prop)
def aG (E:Env) (J:bV):List Ct→Exit→St→Prop
 | [],_,_=>False
 | .code c::k,.normal,S=>wpA E J c (aG E J k) S
 | .code _::k,e,S=>aG E J k e S
 | .ops i ds l::k,.normal,S=>er E i ds l (aG E J k .normal) S
 | .ops _ _ _::k,e,S=>aG E J k e S
 | .blk id::k,e,S=>wB (aG E J k) id e S
 | .lp K::k,e,S=>mL (aG E J k) K e S
 | .fin Q::_,e,S=>Q e S
section
variable {E:Env} {J:bV} {k:List Ct} {S:St}
theorem bP {c:Code} {Q:Exit→St→Prop} (h:aG E J [.code c,.fin Q] .normal S):wpA E J c Q S:=h
def jQ (E:Env) (J:bV) (M:Bool) (a b:Code) (k:List Ct) (S:St):Prop:=match M with
 | false=>aG E J (.code a:: .code b::k) .normal S
 | true=>aG E J (.code a:: .lp (lj E (aG E J (.code b::k) .normal))::k) .normal S∨rP E (.seq a b) (aG E J k) S
theorem HO {b:Code}:mL (aG E J k) (wpA E J b (aG E J k))=aG E J (.code b::k):=by funext e S';cases e<;>rfl
theorem HQ {K:St→Prop}:mL (aG E J k) K=aG E J (.lp K::k):=by funext e S';cases e<;>rfl
theorem HR {a b:Code}:aG E J (.code (.seq a b)::k) .normal S=jQ E J (jN J b) a b k S:=by
 simp only [aG,wpA,jQ]
 cases jN J b with
 | false=>simp only [HO]
 | true=>rw [HQ]
theorem HU {a b:Code}:jQ E J false a b k S=aG E J (.code a:: .code b::k) .normal S:=Eq.trans rfl rfl
theorem wL {a b:Code} (M:St→Prop) (h2: ∀S1,M S1→aG E J (.code b::k) .normal S1)
  (h1:(∀S1,M S1→aG E J (.code b::k) .normal S1)→aG E J (.code a:: .lp (lj E (aG E J (.code b::k) .normal))::k) .normal S):jQ E J true a b k S:= .inl (h1 h2)
theorem HV {a b:Code} (h:rP E (.seq a b) (aG E J k) S):jQ E J true a b k S:= .inr h
theorem jR {M:St→Prop} (S1:St) (hF:dN S.F S1.nx S1.F) (hH:dO S.H S1.nx S1.H) (hM:M S1):aG E J (.lp (lj E M)::k) .normal S:=⟨S1,fS hF hH,hM⟩
theorem HW {M M':Bool} {a b:Code} (h:M=M'):jQ E J M a b k S=jQ E J M' a b k S:=by rw [h]
theorem HX:aG E J (.code .skip::k) .normal S=aG E J k .normal S:=Eq.trans rfl rfl
theorem HY:aG E J (.code .ret::k) .normal S=aG E J k .ret S:=Eq.trans rfl rfl
theorem H3 {id:Nat}:aG E J (.code (.exit id)::k) .normal S=aG E J k (.exit id) S:=Eq.trans rfl rfl
theorem H4 {c:Code}:aG E J (.code c::k) .ret S=aG E J k .ret S:=Eq.trans rfl rfl
theorem H5 {c:Code} {i:Nat}:aG E J (.code c::k) (.exit i) S=aG E J k (.exit i) S:=Eq.trans rfl rfl
theorem H6 {i:Nat}:aG E J (.blk i::k) .ret S=aG E J k .ret S:=Eq.trans rfl rfl
theorem H7 {i:Nat}:aG E J (.blk i::k) .normal S=aG E J k .normal S:=Eq.trans rfl rfl
theorem H8 {i j:Nat}:aG E J (.blk i::k) (.exit j) S=if j=i then aG E J k .normal S else aG E J k (.exit j) S:=Eq.trans rfl rfl
theorem H9 {K:St→Prop}:aG E J (.lp K::k) .ret S=aG E J k .ret S:=Eq.trans rfl rfl
theorem H_ {K:St→Prop} {i:Nat}:aG E J (.lp K::k) (.exit i) S=aG E J k (.exit i) S:=Eq.trans rfl rfl
theorem wM {Q:Exit→St→Prop} {e:Exit}:aG E J (.fin Q::k) e S=Q e S:=by cases e<;>rfl
theorem Ia {id:Nat} {a:Code}:aG E J (.code (.block id a)::k) .normal S=aG E J (.code a:: .blk id::k) .normal S:=Eq.trans rfl rfl
theorem Ib {id:Nat} {ops:Array Oper}:aG E J (.code (.region id ops false)::k) .normal S=aG E J (.ops 0 [] ops.toList::k) .normal S:=Eq.trans rfl rfl
noncomputable def noJ:bV:=[]
def wN (J:bV):Option Nat→Bool
 | some i=>bk J i
 | none=>false
theorem Ic {p:Nat} {L:bV} {b:Code}:jN (p::L) b=wN (p::L) (g_ b):=by
 unfold jN wN;cases g_ b<;>rfl
theorem Id {b:Code}:jN noJ b=false:=by unfold jN;split<;>rfl
def jS (E:Env) (J:bV) (v:Option V) (a b:Code) (k:List Ct) (S:St):Prop:=mM v (aG E J (.code a::k) .normal S) (aG E J (.code b::k) .normal S)
theorem Ie {x:Operand} {a b:Code}:aG E J (.code (.cond x a b)::k) .normal S=jS E J (S.ev E.gv x) a b k S:=Eq.trans rfl rfl
theorem Ig {a b:Code}:jS E J (some (.bool true)) a b k S=aG E J (.code a::k) .normal S:=by simp [jS,mM,fP]
theorem Ih {a b:Code}:jS E J (some (.bool false)) a b k S=aG E J (.code b::k) .normal S:=by simp [jS,mM,fP]
theorem bQ {c:Bool} {a b:Code} (h1:c=true→aG E J (.code a::k) .normal S) (h2:c=false→aG E J (.code b::k) .normal S):jS E J (some (.bool c)) a b k S:=⟨h1,h2⟩
def jT (E:Env) (J:bV) (r:Res) (S:St) (d:Option Nat) (k:List Ct):Prop:=rE S S.nx d (aG E J k .normal) r
theorem Ii {v:V} {e:Eff} {d:Option Nat}:jT E J (some (True,v,e)) S d k=aG E J k .normal ((S.eff S.nx e).put d v):=by simp [jT,rE]
theorem bw {c:Prop} {v:V} {e:Eff} {d:Option Nat} (h1:c) (h2:aG E J k .normal ((S.eff S.nx e).put d v)):jT E J (some (c,v,e)) S d k:=⟨h1,fun _=>h2⟩
def eP (E:Env) (J:bV) (v:Option V) (vs:Option (List V)) (S:St) (d:Option Nat) (k:List Ct):Prop:=wb E S d (aG E J k .normal) v vs
def opC (E:Env) (J:bV) (op:Op) (T:TypeId) (S:St) (d:Option Nat) (k:List Ct):Prop:=
 match g9 op with
 | some (x,l,Ts)=>eP E J (S.ev E.gv x) (evs E S l Ts) S d k
 | none=>jT E J (opF E S S.nx T op) S d k
def eQ (E:Env) (J:bV) (v:Option V) (op:Op) (T:TypeId) (want:Bool) (S:St) (d:Option Nat) (k:List Ct):Prop:=
 ep v want (opC E J op T S d k) (aG E J k .normal (S.put d (.tup [])))
def rX (E:Env) (J:bV) (t:Option Nat) (op:Op) (T:TypeId) (want:Bool) (S:St) (d:Option Nat) (k:List Ct):Prop:=
 match t with
 | some t=>eQ E J (ab S.F t) op T want S d k
 | none=>False
theorem Ij {i:Nat} {ds:List (Nat×Nat)}:aG E J (.ops i ds []::k) .normal S=aG E J k .normal S:=Eq.trans rfl rfl
theorem Ik {i:Nat} {ds:List (Nat×Nat)} {l:List Oper} {d:Option Nat} {op:Op} {T:TypeId} {pos:String} {af:Array Edge}:aG E J (.ops i ds ({dst:=d,op:=op,type:=T,pos:=pos,after:=af,guard:=none}::l)::k) .normal S=opC E J op T S d (.ops (i+1) (iP i d ds) l::k):=Eq.trans rfl rfl
theorem Il {i:Nat} {ds:List (Nat×Nat)} {l:List Oper} {d:Option Nat} {op:Op} {T:TypeId} {pos:String} {af:Array Edge} {j:Nat} {want:Bool}:aG E J (.ops i ds ({dst:=d,op:=op,type:=T,pos:=pos,after:=af,guard:=some (j,want)}::l)::k) .normal S=rX E J (ab ds j) op T want S d (.ops (i+1) (iP i d ds) l::k):=Eq.trans rfl rfl
theorem Im {op:Op} {T:TypeId} {d:Option Nat}:eQ E J (some (.bool true)) op T true S d k=opC E J op T S d k:=by simp [eQ,ep,fP]
theorem Io {op:Op} {T:TypeId} {d:Option Nat}:eQ E J (some (.bool false)) op T false S d k=opC E J op T S d k:=by simp [eQ,ep,fP]
theorem Ip {op:Op} {T:TypeId} {d:Option Nat}:eQ E J (some (.bool true)) op T false S d k=aG E J k .normal (S.put d (.tup [])):=by simp [eQ,ep,fP]
theorem Iq {op:Op} {T:TypeId} {d:Option Nat}:eQ E J (some (.bool false)) op T true S d k=aG E J k .normal (S.put d (.tup [])):=by simp [eQ,ep,fP]
theorem Ir {op:Op} {T:TypeId} {d:Option Nat} {w:Bool}:eQ E J (some (.tup [])) op T w S d k=aG E J k .normal (S.put d (.tup [])):=by simp [eQ,ep]
theorem rY {op:Op} {T:TypeId} {d:Option Nat} {b:Bool} (h1:b=true→opC E J op T S d k) (h2:b=false→aG E J k .normal (S.put d (.tup []))):eQ E J (some (.bool b)) op T true S d k:=⟨h1,h2⟩
theorem fT {op:Op} {T:TypeId} {d:Option Nat} {b:Bool} (h1:b=false→opC E J op T S d k) (h2:b=true→aG E J k .normal (S.put d (.tup []))):eQ E J (some (.bool b)) op T false S d k:=⟨h1,h2⟩
theorem aN {f:FuncId} {caps vs:List V} {d:Option Nat} {ws:List V} {r:V} {H:List Blk} (hc:aV E f ws r H) (hp:cW (vs++caps)) (hm:mtL (vs++caps) ws) (h:wfV r→aG E J k .normal (S.after d r H)):eP E J (some (.fn f caps)) (some vs) S d k:=
 .inl ⟨ws,r,H,hc,.inl ⟨S,BV hp hm,h⟩⟩
theorem fx {f:FuncId} {caps vs:List V} {d:Option Nat} {ws:List V} {r:V} (hc:aV E f ws r []) (hf:dl r) (hm:mtL (iV S.H (vs++caps)) ws) (h:wfV r→aG E J k .normal (S.put d r)):eP E J (some (.fn f caps)) (some vs) S d k:=
 .inl ⟨ws,r,[],hc,.inr ⟨hf,rfl,BW hm,h⟩⟩
theorem Is {p:Cx→Value→Prop} {vs:List V} {d:Option Nat} {ws:List V} {r:V} (hc:oC E p ws r) (hp:cW vs) (hm:mtL vs ws) (h:wfV r→aG E J k .normal (S.after d r [])):eP E J (some (.opq p)) (some vs) S d k:=
 ⟨ws,r,[],⟨hc,rfl⟩,.inl ⟨S,BV hp hm,h⟩⟩
theorem aK {a:Code} (I:Nat→St→Prop) (k0:Nat) (S1:St) (hF:dN S.F S1.nx S1.F) (hH:dO S.H S1.nx S1.H) (h0:I k0 S1)
  (h: ∀n S',I n S'→aG E J (.code a:: .lp (fun S2=> ∃n',n'<n∧ ∃S3,b_ E S2 S3∧I n' S3)::k) .normal S'):aG E J (.code (.loop a)::k) .normal S:=
 ⟨I,k0,⟨S1,fS hF hH,h0⟩,h⟩
theorem aE {I:Nat→St→Prop} {n:Nat} (n':Nat) (S3:St) (hlt:n'<n) (hF:dN S.F S3.nx S3.F) (hH:dO S.H S3.nx S3.H) (hI:I n' S3):aG E J (.lp (fun S2=> ∃n',n'<n∧ ∃S3,b_ E S2 S3∧I n' S3)::k) .normal S:=
 ⟨n',hlt,S3,fS hF hH,hI⟩
def jU (E:Env) (S:St) (r:V) (H:List Blk):Option (List V)→Prop
 | some vs=>oQ E S (fd vs) r H
 | none=>False
theorem It {rs:List ResultVar} {r:V} {H:List Blk}:rR E rs r H .ret S=jU E S r H (fR E.tb S rs):=Eq.trans rfl rfl
theorem bX {vs:List V} {r:V} (hm:mt (fw S.H (fd vs)) r):jU E S r [] (some vs):=HN hm
structure Dr where
 J:bV
 S0:St
 wr:List Nat
 wl:List (Nat×Nat)
 need:List (List Nat)
 ub:List (Nat×Nat)
 k:List Ct
def cc (E:Env) (D:Dr) (m i:Nat) (l:List Oper) (R:List (Nat×a8)):Prop:=gB E D.S0 D.wr D.wl D.need D.ub (aG E D.J D.k .normal) m i l R
theorem iW {id:Nat} {ops:Array Oper} (n m:Nat) (wr:List Nat) (wl:List (Nat×Nat)) (need:List (List Nat)) (ub:List (Nat×Nat)) (hB:(wlB ops m wl&&iH n m ops wr need&&((List.range m).all fun i=>(need.getD i []).all fun j=>decide (j<i)))=true) (hU:ubB m need ub S.nx=true)
  (h:cc E ⟨J,S,wr,wl,need,ub,k⟩ m 0 ops.toList []):aG E J (.code (.region id ops true)::k) .normal S:=by
 exact ⟨n,m,wr,wl,need,ub,hB,hU,h⟩
section
variable {D:Dr} {m i:Nat} {l:List Oper} {R:List (Nat×a8)} {d:Option Nat} {op:Op} {T:TypeId}
theorem Iu:cc E D 0 i l R=aG E D.J (.ops i (dsR R) l::D.k) .normal (cy D.S0 D.wr jK (eZ D.ub R) R i):=Eq.trans rfl rfl
def cD (E:Env) (D:Dr) (m i:Nat) (l:List Oper) (R:List (Nat×a8)) (d:Option Nat) (nid:Nat) (r:Res):Prop:=fu D.ub i nid d (fun r=>cc E D m (i+1) l ((i,r)::R)) r
def gE (E:Env) (D:Dr) (m i:Nat) (l:List Oper) (R:List (Nat×a8)) (d:Option Nat) (S:St) (v:Option V) (vs:Option (List V)):Prop:=wj E S D.ub i d (fun r=>cc E D m (i+1) l ((i,r)::R)) v vs
def gF (E:Env) (D:Dr) (m i:Nat) (l:List Oper) (R:List (Nat×a8)) (d:Option Nat) (op:Op) (T:TypeId) (S:St):Prop:=
 match g9 op with
 | some (x,xs,Ts)=>gE E D m i l R d S (S.ev E.gv x) (evs E S xs Ts)
 | none=>cD E D m i l R d S.nx (opH E S S.nx T op)
def et (E:Env) (D:Dr) (m i:Nat) (l:List Oper) (R:List (Nat×a8)) (d:Option Nat) (op:Op) (T:TypeId) (want:Bool):Bool→Option a8→Prop
 | true,some ⟨some _,v,_⟩=>ep (some v) want (gF E D m i l R d op T (cy D.S0 (wrF D.wl D.need i D.wr) (bk (D.need.getD i [])) (cj D.ub D.need i R) R i)) (cc E D m (i+1) l ((i,⟨d,.tup [],none⟩)::R))
 | _,_=>False
theorem Iv {pos:String} {af:Array Edge}:cc E D (m+1) i ({dst:=d,op:=op,type:=T,pos:=pos,after:=af,guard:=none}::l) R=gF E D m i l R d op T (cy D.S0 (wrF D.wl D.need i D.wr) (bk (D.need.getD i [])) (cj D.ub D.need i R) R i):=by
 simp only [cc,gB,oJ,oI,gF,gE,cD]
 all_goals cases g9 op<;>rfl
theorem Iw {pos:String} {af:Array Edge} {j:Nat} {want:Bool}:cc E D (m+1) i ({dst:=d,op:=op,type:=T,pos:=pos,after:=af,guard:=some (j,want)}::l) R=et E D m i l R d op T want (bk (D.need.getD i []) j) (ab R j):=by
 simp only [cc,gB,oJ]
 cases bk (D.need.getD i []) j<;>cases ab R j with
 | none=>rfl
 | some r=>
  obtain ⟨t,v,b⟩:=r
  cases t<;>first|rfl|(simp only [et,oI,gF,gE,cD,cc];cases g9 op<;>rfl)
theorem Ix {t:Nat} {b:Option (Nat×Blk)}:et E D m i l R d op T true true (some ⟨some t,.bool true,b⟩)=gF E D m i l R d op T (cy D.S0 (wrF D.wl D.need i D.wr) (bk (D.need.getD i [])) (cj D.ub D.need i R) R i):=by simp [et,ep,fP]
theorem Iy {t:Nat} {b:Option (Nat×Blk)}:et E D m i l R d op T false true (some ⟨some t,.bool false,b⟩)=gF E D m i l R d op T (cy D.S0 (wrF D.wl D.need i D.wr) (bk (D.need.getD i [])) (cj D.ub D.need i R) R i):=by simp [et,ep,fP]
theorem Iz {t:Nat} {b:Option (Nat×Blk)}:et E D m i l R d op T true true (some ⟨some t,.bool false,b⟩)=cc E D m (i+1) l ((i,⟨d,.tup [],none⟩)::R):=by simp [et,ep,fP]
theorem IA {t:Nat} {b:Option (Nat×Blk)}:et E D m i l R d op T false true (some ⟨some t,.bool true,b⟩)=cc E D m (i+1) l ((i,⟨d,.tup [],none⟩)::R):=by simp [et,ep,fP]
theorem IB {t:Nat} {w:Bool} {b:Option (Nat×Blk)}:et E D m i l R d op T w true (some ⟨some t,.tup [],b⟩)=cc E D m (i+1) l ((i,⟨d,.tup [],none⟩)::R):=by simp [et,ep]
theorem rZ {t:Nat} {b:Option (Nat×Blk)} {x:Bool} (h1:x=true→gF E D m i l R d op T (cy D.S0 (wrF D.wl D.need i D.wr) (bk (D.need.getD i [])) (cj D.ub D.need i R) R i)) (h2:x=false→cc E D m (i+1) l ((i,⟨d,.tup [],none⟩)::R)):et E D m i l R d op T true true (some ⟨some t,.bool x,b⟩):=⟨h1,h2⟩
theorem r6 {t:Nat} {b:Option (Nat×Blk)} {x:Bool} (h1:x=false→gF E D m i l R d op T (cy D.S0 (wrF D.wl D.need i D.wr) (bk (D.need.getD i [])) (cj D.ub D.need i R) R i)) (h2:x=true→cc E D m (i+1) l ((i,⟨d,.tup [],none⟩)::R)):et E D m i l R d op T false true (some ⟨some t,.bool x,b⟩):=⟨h1,h2⟩
section
variable {nid:Nat}
theorem IC {v:V}:cD E D m i l R d nid (some (True,v,.none))=cc E D m (i+1) l ((i,⟨d,v,none⟩)::R):=by simp [cD,fu]
theorem ID {v x:V} {n:Nat} {g:Bool}:cD E D m i l R d nid (some (True,v,.new (.var n g x)))=(match bB D.ub i nid with|true=>False|false=>cc E D m (i+1) l ((i,⟨d,v,some (nid,.var n g x)⟩)::R)):=by
 simp only [cD,fu];cases bB D.ub i nid<;>simp [oH,aQ]
theorem IE {k:Nat} {U:TypeId} {n:Nat} {g:Bool} {z:Option Bool} {ll:List V}:cD E D m i l R d nid (some (True,.own k,.new (.own U n g z ll)))=(match bB D.ub i nid with|true=>(match decide (k=nid) with|true=>cc E D m (i+1) l ((i,⟨d,.sl z n g ll,none⟩)::R)|false=>False)|false=>cc E D m (i+1) l ((i,⟨d,.own k,some (nid,.own U n g z ll)⟩)::R)):=by
 simp only [cD,fu];cases bB D.ub i nid
 ·simp [aQ]
 ·by_cases hk:k=nid<;>simp [oH,hk]
theorem IF {k:Nat} {n:Nat} {g:Bool} {z:Option Bool} {ll:List V}:cD E D m i l R d nid (some (True,.own k,.new (.pown n g z ll)))=(match bB D.ub i nid&&decide (k=nid) with|true=>cc E D m (i+1) l ((i,⟨d,.sl z n g ll,none⟩)::R)|false=>False):=by
 simp only [cD,fu];cases bB D.ub i nid
 ·simp [aQ]
 ·by_cases hk:k=nid<;>simp [oH,hk]
theorem IG {v:V} {id:Nat} {b:Blk}:cD E D m i l R d nid (some (True,v,.upd id b))=(match bB D.ub i id&&aQ b with|true=>cc E D m (i+1) l ((i,⟨d,v,some (id,b)⟩)::R)|false=>False):=by
 simp only [cD,fu];cases bB D.ub i id&&aQ b<;>simp
theorem eR {c:Prop} {v:V} (h1:c) (h2:cc E D m (i+1) l ((i,⟨d,v,none⟩)::R)):cD E D m i l R d nid (some (c,v,.none)):=⟨h1,fun _=>h2⟩
theorem iX {c:Prop} {v:V} {U:TypeId} {n:Nat} {g:Bool} {z:Option Bool} {ll:List V} (h1:c) (hm:bB D.ub i nid=false) (h2:cc E D m (i+1) l ((i,⟨d,v,some (nid,.own U n g z ll)⟩)::R)):cD E D m i l R d nid (some (c,v,.new (.own U n g z ll))):=by
 simp only [cD,fu,hm];exact ⟨h1,fun _=>h2⟩
theorem iY {c:Prop} {k:Nat} {U:TypeId} {n:Nat} {g:Bool} {z:Option Bool} {ll:List V} (h1:c) (hm:(bB D.ub i nid&&decide (k=nid))=true) (h2:cc E D m (i+1) l ((i,⟨d,.sl z n g ll,none⟩)::R)):cD E D m i l R d nid (some (c,.own k,.new (.own U n g z ll))):=by
 simp only [Bool.and_eq_true] at hm
 simp only [cD,fu,hm.1];exact ⟨hm.2,h1,fun _=>h2⟩
theorem iZ {c:Prop} {v x:V} {n:Nat} {g:Bool} (h1:c) (hm:bB D.ub i nid=false) (h2:cc E D m (i+1) l ((i,⟨d,v,some (nid,.var n g x)⟩)::R)):cD E D m i l R d nid (some (c,v,.new (.var n g x))):=by
 simp only [cD,fu,hm];exact ⟨h1,fun _=>h2⟩
theorem i4 {c:Prop} {v:V} {id:Nat} {b:Blk} (h1:c) (hm:(bB D.ub i id&&aQ b)=true) (h2:cc E D m (i+1) l ((i,⟨d,v,some (id,b)⟩)::R)):cD E D m i l R d nid (some (c,v,.upd id b)):=by
 simp only [cD,fu,hm];exact ⟨h1,fun _=>h2⟩
end
theorem bA {f:FuncId} {caps vs ws:List V} {r:V} (hc:aV E f ws r []) (hp:cW (vs++caps)) (hm:mtL (vs++caps) ws) (h:cc E D m (i+1) l ((i,⟨d,r,none⟩)::R)):gE E D m i l R d S (some (.fn f caps)) (some vs):=
 .inl (.inl ⟨ws,r,hc,.inl (BX hp hm),h⟩)
theorem BZ {f:FuncId} {caps vs ws:List V} {r:V} (hc:aV E f ws r []) (hf:dl r) (hm:mtL (iV S.H (vs++caps)) ws) (h:cc E D m (i+1) l ((i,⟨d,r,none⟩)::R)):gE E D m i l R d S (some (.fn f caps)) (some vs):=
 .inl (.inl ⟨ws,r,hc,.inr ⟨hf,BW hm⟩,h⟩)
theorem r7 {f:FuncId} {caps vs ws:List V} {U:TypeId} {n:Nat} {g:Bool} {z:Option Bool} {ll:List V} (hc:aV E f ws (.own 0) [.own U n g z ll]) (hp:cW (vs++caps)) (hm:mtL (vs++caps) ws) (h:cc E D m (i+1) l ((i,⟨d,.own S.nx,some (S.nx,.own U n g z ll)⟩)::R)):gE E D m i l R d S (some (.fn f caps)) (some vs):=
 .inl (.inr ⟨ws,U,n,g,z,ll,hc,BX hp hm,h⟩)
theorem i5 {c:Prop} {id nid:Nat} {U:TypeId} {n:Nat} {g:Bool} {z:Option Bool} {ll:List V} (h1:c) (hm:(bB D.ub i id&& !decide (id=nid))=true) (h2:cc E D m (i+1) l ((i,⟨d,.own nid,some (nid,.own U n g z ll)⟩)::R)):cD E D m i l R d nid (some (c,.own id,.app id (.own U n g z ll))):=by
 simp only [cD,fu,decide_true,Bool.true_and,hm]
 exact ⟨h1,fun _=>h2⟩
theorem IH {need:List (List Nat)} {i:Nat}:cj [] need i R=jJ:=Eq.trans rfl rfl
theorem II:eZ [] R=jJ:=Eq.trans rfl rfl
theorem IJ {p:Nat×Nat} {ub:List (Nat×Nat)} {need:List (List Nat)} {i k:Nat}:cj (p::ub) need i R k=(iR (p::ub) need i k||dY (p::ub) (bk (need.getD i [])) R k):=Eq.trans rfl rfl
theorem IK {p:Nat×Nat} {ub:List (Nat×Nat)} {k:Nat}:eZ (p::ub) R k=dY (p::ub) jK R k:=Eq.trans rfl rfl
theorem IL {ub:List (Nat×Nat)} {ns:Nat→Bool} {j k:Nat} {t:Option Nat} {v:V} {b:Option (Nat×Blk)}:dY ub ns ((j,⟨t,v,b⟩)::R) k=((ns j&&eY ub j b k)||dY ub ns R k):=Eq.trans rfl rfl
theorem IM {ub:List (Nat×Nat)} {ns:Nat→Bool} {k:Nat}:dY ub ns [] k=false:=Eq.trans rfl rfl
theorem IO {ub:List (Nat×Nat)} {j k:Nat}:eY ub j none k=false:=Eq.trans rfl rfl
theorem IP {ub:List (Nat×Nat)} {j k k':Nat} {b:Blk}:eY ub j (some (k',b)) k=(bB ub j k&& !decide (k'=k)):=Eq.trans rfl rfl
theorem IQ {ub:List (Nat×Nat)} {p:Nat×Nat} {need:List (List Nat)} {i k:Nat} {b:Blk} {H:List (Nat×Blk)}:dL (cj (p::ub) need i R) ((k,b)::H)=if cj (p::ub) need i R k=true then dL (cj (p::ub) need i R) H else (k,b)::dL (cj (p::ub) need i R) H:=by
 simp only [dL];cases cj (p::ub) need i R k<;>rfl
theorem IR {ub:List (Nat×Nat)} {p:Nat×Nat} {k:Nat} {b:Blk} {H:List (Nat×Blk)}:dL (eZ (p::ub) R) ((k,b)::H)=if eZ (p::ub) R k=true then dL (eZ (p::ub) R) H else (k,b)::dL (eZ (p::ub) R) H:=by
 simp only [dL];cases eZ (p::ub) R k<;>rfl
theorem IU {ns:Nat→Bool} {j t:Nat} {v:V} {b:Option (Nat×Blk)}:dX ns ((j,⟨some t,v,b⟩)::R)=if ns j=true then (t,v)::dX ns R else dX ns R:=by
 simp only [dX];cases ns j<;>rfl
theorem IV {ns:Nat→Bool} {j:Nat} {v:V} {b:Option (Nat×Blk)}:dX ns ((j,⟨none,v,b⟩)::R)=dX ns R:=by
 simp only [dX];cases ns j<;>rfl
theorem IW {ns:Nat→Bool} {j:Nat} {t:Option Nat} {v:V} {b:Nat×Blk}:dc ns ((j,⟨t,v,some b⟩)::R)=if ns j=true then b::dc ns R else dc ns R:=by
 simp only [dc];cases ns j<;>rfl
theorem IX {ns:Nat→Bool} {j:Nat} {t:Option Nat} {v:V}:dc ns ((j,⟨t,v,none⟩)::R)=dc ns R:=by
 simp only [dc];cases ns j<;>rfl
theorem IY {ns:Nat→Bool}:dX ns []=[]:=Eq.trans rfl rfl
theorem IZ {ns:Nat→Bool}:dc ns []=[]:=Eq.trans rfl rfl
theorem B0 {need:List (List Nat)} {i:Nat}: ∀{l:List Nat},wrF [] need i l=l
 | []=>rfl
 | t::l=>congrArg (t:: ·) (B0 (l:=l))
theorem I0 {w k i:Nat} {wl:List (Nat×Nat)} {need:List (List Nat)}:wrF ((w,k)::wl) need i []=[]:=Eq.trans rfl rfl
theorem I1 {w k i t:Nat} {wl:List (Nat×Nat)} {need:List (List Nat)} {l:List Nat}:wrF ((w,k)::wl) need i (t::l)=if iS ((w,k)::wl) need i t=true then wrF ((w,k)::wl) need i l else t::wrF ((w,k)::wl) need i l:=by
 rw [wrF];cases iS ((w,k)::wl) need i t<;>rfl
theorem I2 {w k i t:Nat} {wl:List (Nat×Nat)} {need:List (List Nat)}:iS ((w,k)::wl) need i t=((decide (k=t)&&bk (need.getD w []) i)||iS wl need i t):=Eq.trans rfl rfl
theorem I3 {i t:Nat} {need:List (List Nat)}:iS [] need i t=false:=Eq.trans rfl rfl
theorem I4 {need:List (List Nat)} {i:Nat}:iR [] need i=jJ:=by funext k;rfl
theorem B_: ∀{H:List (Nat×Blk)},dL jJ H=H
 | []=>rfl
 | (k,b)::H=>by simp only [dL,jJ,B_]
theorem I5 {ban:Nat→Bool}:dL ban []=[]:=Eq.trans rfl rfl
theorem I6 {w k i id:Nat} {ub:List (Nat×Nat)} {need:List (List Nat)}:iR ((w,k)::ub) need i id=((decide (k=id)&&(!decide (w=i)&&(!bk (need.getD i []) w&& !bk (need.getD w []) i)))||iR ub need i id):=Eq.trans rfl rfl
theorem I7 {id:Nat}:jJ id=false:=Eq.trans rfl rfl
theorem I8 {j t:Nat} {v:V} {b:Option (Nat×Blk)}:dsR ((j,⟨some t,v,b⟩)::R)=(j,t)::dsR R:=Eq.trans rfl rfl
theorem I9 {j:Nat} {v:V} {b:Option (Nat×Blk)}:dsR ((j,⟨none,v,b⟩)::R)=dsR R:=Eq.trans rfl rfl
theorem I_:dsR []=[]:=Eq.trans rfl rfl
theorem Ja {R':List (Nat×a8)} (h:R=R'):cc E D m i l R=cc E D m i l R':=by rw [h]
theorem Jb {nid nid':Nat} {r r':Res} (h0:nid=nid') (h:r=r'):cD E D m i l R d nid r=cD E D m i l R d nid' r':=by rw [h,h0]
theorem Jc {v v':Option V} {vs vs':Option (List V)} (h1:v=v') (h2:vs=vs'):gE E D m i l R d S v vs=gE E D m i l R d S v' vs':=by rw [h1,h2]
theorem Jd {S S':St} (h:S=S'):gF E D m i l R d op T S=gF E D m i l R d op T S':=by rw [h]
theorem Je {w b b':Bool} {r r':Option a8} (h1:b=b') (h2:r=r'):et E D m i l R d op T w b r=et E D m i l R d op T w b' r':=by rw [h1,h2]
end
theorem Jf {e:Exit} {S S':St} (h:S=S'):aG E J k e S=aG E J k e S':=by rw [h]
theorem Jg {r r':Res} {d:Option Nat} (h:r=r'):jT E J r S d k=jT E J r' S d k:=by rw [h]
theorem Jh {v v':Option V} {a b:Code} (h:v=v'):jS E J v a b k S=jS E J v' a b k S:=by rw [h]
theorem Ji {v v':Option V} {vs vs':Option (List V)} {d:Option Nat} (h1:v=v') (h2:vs=vs'):eP E J v vs S d k=eP E J v' vs' S d k:=by rw [h1,h2]
theorem Jj {v v':Option V} {op:Op} {T:TypeId} {w:Bool} {d:Option Nat} (h:v=v'):eQ E J v op T w S d k=eQ E J v' op T w S d k:=by rw [h]
theorem Jk {t t':Option Nat} {op:Op} {T:TypeId} {w:Bool} {d:Option Nat} (h:t=t'):rX E J t op T w S d k=rX E J t' op T w S d k:=by rw [h]
end
attribute [congr] Jf Jg Jh Ji Jj Jk HW Ja Jb Jc Jd Je
theorem Jl:(false==true)=false:=Eq.trans rfl rfl
theorem Jm:(true==false)=false:=Eq.trans rfl rfl
theorem Jn:(true==true)=true:=Eq.trans rfl rfl
theorem Jo:(false==false)=true:=Eq.trans rfl rfl
theorem Jp {α:Type} {f:α→V} {l:List α} {i j:Nat}:kT (l.map f) i j=(kT l i j).map f:=by simp [kT,List.map_take,List.map_drop]
theorem Jq {α:Type} {f:α→V} {l m:List α} {i k:Nat}:spl (l.map f) i k (m.map f)=(spl l i k m).map f:=by simp [spl,List.map_take,List.map_drop]
theorem Jr {α:Type} {f:α→V} {l:List α} {i j:Int}:ri (l.map f) i j=(sl l i j).map f:=by simp [ri,sl,List.map_take,List.map_drop]
theorem Js {z:Option Bool}:mtZ z z=True:=by cases z<;>simp [mtZ]
theorem Jt {z:Option Bool}:mtZ z none=True:=by cases z<;>simp [mtZ]
theorem Ju {a b:Bool}:mtZ (some a) (some b)=(a=b):=by simp [mtZ]
theorem Ca {H:List (Nat×Blk)} {k:IntKind}: ∀{l:List Int},kS H (l.map (V.int k))=l.map (V.int k)
 | []=>rfl
 | a::l=>by simp only [List.map_cons,kS,pvw,Ca (l:=l)]
attribute [go_sem] pvw kS pvO Ca
attribute [go_sem] rn rp vD rq vE my kV oz gy zF
theorem Jv (x:Int):([x].length=1)=True:=by simp
attribute [go_sem] Jv
attribute [go_sem] Iu Iv Iw gF IB Ix Iy Iz IA IC ID IE IF IU IV IW IX IY IZ I8 I9 I_ cy li bk jK B0 I0 I1 I2 I3 I4 B_ I5 IH II IJ IK IL IM IO IP IQ IR I6 I7 IG bB aQ ubB
 HR HX HY H3 H4 H5 H6 H7 H8 H9 H_ wM Ia Ib HU Id Ic wN g_ Ie Ig Ih Ij Ik Il rX Ir Im Io Ip Iq opC g9 Ii
 opH vG rr vF vH opF rm evL evL.consO vC jI AK St.ev St.evT qN uY qM uW mr qO ab cK qP uZ u6 jD qQ u_ vb qR vc qS vd qT ve qU qV vf qW vg eqC ou ot jE vh unF ov vl vm vn qY qZ mw uX zrB zrC Value.oneCell' q7 q8 q9 q_ vo ra rb mu kR rc jG re rf rh fM vt gV vw mv isC loB hiB bound jH rk rOk rIf rB
 St.eff St.put St.after shift iO gz eo fN kW mz kX part jB jC iP evs dV dJ cW dl fO It fR rQ fd
 fw iV hZ ia jP mO mt mtL lm ln HK Js Jt Ju dN dO mtO mtB ltV ltL ltB
 Jl Jm Jn Jo Jr
 hO rg vr Bool.or_true Bool.true_or Bool.or_false Bool.false_or Nat.sub_zero Jp Jq mx vA vB ox AL vq vu vx vz kU vy rl va Option.map_some Option.map_none Bool.and_true Bool.true_and Bool.false_and Bool.and_false Bool.not_true Bool.not_false decide_true decide_false true_and and_true false_and and_false true_implies false_implies implies_true and_self not_true_eq_false not_false_eq_true
 List.getElem?_cons_zero List.getElem?_cons_succ List.getD_cons_zero List.getD_cons_succ List.take_succ_cons List.take_zero List.take_nil List.drop_succ_cons List.drop_zero List.drop_nil List.cons_append List.nil_append List.append_nil List.length_cons List.length_nil List.set_cons_zero List.set_cons_succ List.replicate_zero List.replicate_succ List.map_cons List.map_nil List.map_append List.length_map List.map_set List.map_replicate List.tail_cons List.tail_nil List.headD_cons List.headD_nil
 Nat.add_zero Nat.zero_add ne_eq Prod.mk.injEq reduceCtorEq
theorem ar {α β:Type} {a:α} {f:α→β} {R:β} (h:aa a f=R): ∃x,x=a∧f x=R:=⟨a,rfl,h⟩
theorem mP (a:Int):0≤ah .u64 a:=(Af .u64 a).1
end Go.Proofs.YteibkofekpejgaaGreatDoor
namespace Go.Proofs.YteibkofekpejgaaGreatDoor
open Go.RowKit
def dg:List Int:=[2,3,5,7,11,13,17,19,23,29,31,37]
def jV:List Int:=[0,1,56,2,57,49,28,3,61,58,42,50,38,29,17,4,62,47,59,36,45,43,51,22,53,39,33,30,24,18,12,5,63,55,48,27,60,41,37,16,46,35,44,21,52,32,23,11,54,26,40,15,34,20,31,10,25,14,19,9,13,8,7,6]
def lq:List Int:=[1116352408,1899447441,3049323471,3921009573,961987163,1508970993,2453635748,2870763221,3624381080,310598401,607225278,1426881987,1925078388,2162078206,2614888103,3248222580,3835390401,4022224774,264347078,604807628,770255983,1249150122,1555081692,1996064986,2554220882,2821834349,2952996808,3210313671,3336571891,3584528711,113926993,338241895,666307205,773529912,1294757372,1396182291,1695183700,1986661051,2177026350,2456956037,2730485921,2820302411,3259730800,3345764771,3516065817,3600352804,4094571909,275423344,430227734,506948616,659060556,883997877,958139571,1322822218,1537002063,1747873779,1955562222,2024104815,2227730452,2361852424,2428436474,2756734187,3204031479,3329325298]
noncomputable def tbl:List (TypeId×TI):=[(1,{n:=1,g:=false,by':=8,ok:=true,z:= .un,k:=6}),
 (2,{n:=1,g:=false,by':=8,ok:=true,z:= .int .i64 0,k:=0,ik:= .i64}),
 (3,{n:=1,g:=false,by':=8,ok:=true,z:= .int .i64 0,k:=0,ik:= .i64}),
 (4,{n:=1,g:=false,by':=1,ok:=true,z:= .bool false,k:=1}),
 (5,{n:=1,g:=false,by':=1,ok:=true,z:= .int .u8 0,k:=0,ik:= .u8}),
 (9,{n:=1,g:=false,by':=16,ok:=true,z:= .str [],k:=2}),
 (12,{n:=1,g:=false,by':=8,ok:=true,z:= .int .u64 0,k:=0,ik:= .u64}),
 (15,{n:=1,g:=false,by':=8,ok:=true,z:= .un,k:=6}),
 (16,{n:=1,g:=false,by':=8,ok:=true,z:= .un,k:=6}),
 (17,{n:=1,g:=false,by':=8,ok:=true,z:= .un,k:=6}),
 (20,{n:=1,g:=false,by':=16,ok:=true,z:= .un,k:=8}),
 (21,{n:=1,g:=false,by':=4,ok:=true,z:= .int .i32 0,k:=0,ik:= .i32}),
 (23,{n:=3,g:=true,by':=24,ok:=true,z:= .agg [.int .i64 0,.int .i64 0,.int .i64 0],k:=5,fs:=[(0,3),(1,3),(2,3)],cmp:=true,ck:=[0,0,0]}),
 (25,{n:=6,g:=true,by':=48,ok:=true,z:= .agg [.int .i64 0,.int .i64 0,.int .i64 0,.int .i64 0,.int .i64 0,.int .i64 0],k:=5,fs:=[(0,23),(3,3),(4,3),(5,3)],cmp:=true,ck:=[0,0,0,0,0,0]}),
 (26,{n:=1,g:=false,by':=24,ok:=true,z:= .sl (some true) 11 true [],k:=3,el:=155}),
 (27,{n:=32,g:=true,by':=32,ok:=true,z:= .agg [.int .u8 0,.int .u8 0,.int .u8 0,.int .u8 0,.int .u8 0,.int .u8 0,.int .u8 0,.int .u8 0,.int .u8 0,.int .u8 0,.int .u8 0,.int .u8 0,.int .u8 0,.int .u8 0,.int .u8 0,.int .u8 0,.int .u8 0,.int .u8 0,.int .u8 0,.int .u8 0,.int .u8 0,.int .u8 0,.int .u8 0,.int .u8 0,.int .u8 0,.int .u8 0,.int .u8 0,.int .u8 0,.int .u8 0,.int .u8 0,.int .u8 0,.int .u8 0],k:=4,el:=5,len:=32,cmp:=true,ck:=[0,0,0,0,0,0,0,0,0,0,0,0,0,0,0,0,0,0,0,0,0,0,0,0,0,0,0,0,0,0,0,0]}),
 (28,{n:=32,g:=true,by':=32,ok:=true,z:= .agg [.int .u8 0,.int .u8 0,.int .u8 0,.int .u8 0,.int .u8 0,.int .u8 0,.int .u8 0,.int .u8 0,.int .u8 0,.int .u8 0,.int .u8 0,.int .u8 0,.int .u8 0,.int .u8 0,.int .u8 0,.int .u8 0,.int .u8 0,.int .u8 0,.int .u8 0,.int .u8 0,.int .u8 0,.int .u8 0,.int .u8 0,.int .u8 0,.int .u8 0,.int .u8 0,.int .u8 0,.int .u8 0,.int .u8 0,.int .u8 0,.int .u8 0,.int .u8 0],k:=4,el:=5,len:=32,cmp:=true,ck:=[0,0,0,0,0,0,0,0,0,0,0,0,0,0,0,0,0,0,0,0,0,0,0,0,0,0,0,0,0,0,0,0]}),
 (29,{n:=1,g:=false,by':=24,ok:=true,z:= .sl (some true) 3 true [],k:=3,el:=83}),
 (31,{n:=1,g:=true,by':=24,ok:=true,z:= .agg [.sl (some true) 3 true []],k:=5,fs:=[(0,29)]}),
 (32,{n:=1,g:=false,by':=24,ok:=true,z:= .sl (some true) 35 true [],k:=3,el:=50}),
 (33,{n:=1,g:=false,by':=24,ok:=true,z:= .sl (some true) 4 true [],k:=3,el:=41}),
 (34,{n:=1,g:=false,by':=24,ok:=true,z:= .sl (some true) 1 false [],k:=3,el:=3}),
 (36,{n:=40,g:=true,by':=176,ok:=true,z:= .agg [.int .u8 0,.int .u8 0,.int .u8 0,.int .u8 0,.int .u8 0,.int .u8 0,.int .u8 0,.int .u8 0,.int .u8 0,.int .u8 0,.int .u8 0,.int .u8 0,.int .u8 0,.int .u8 0,.int .u8 0,.int .u8 0,.int .u8 0,.int .u8 0,.int .u8 0,.int .u8 0,.int .u8 0,.int .u8 0,.int .u8 0,.int .u8 0,.int .u8 0,.int .u8 0,.int .u8 0,.int .u8 0,.int .u8 0,.int .u8 0,.int .u8 0,.int .u8 0,.sl (some true) 3 true [],.sl (some true) 35 true [],.int .i64 0,.sl (some true) 4 true [],.sl (some true) 35 true [],.int .i64 0,.sl (some true) 1 false [],.int .i64 0],k:=5,fs:=[(0,28),(32,31),(33,32),(34,3),(35,33),(36,32),(37,3),(38,34),(39,3)]}),
 (37,{n:=1,g:=false,by':=24,ok:=true,z:= .sl (some true) 80 true [],k:=3,el:=71}),
 (38,{n:=1,g:=false,by':=24,ok:=true,z:= .sl (some true) 81 true [],k:=3,el:=73}),
 (39,{n:=1,g:=false,by':=24,ok:=true,z:= .sl (some true) 5 true [],k:=3,el:=93}),
 (41,{n:=4,g:=true,by':=80,ok:=true,z:= .agg [.int .i64 0,.sl (some true) 80 true [],.sl (some true) 81 true [],.sl (some true) 5 true []],k:=5,fs:=[(0,3),(1,37),(2,38),(3,39)]}),
 (42,{n:=1,g:=false,by':=8,ok:=true,z:= .un,k:=6}),
 (43,{n:=1,g:=false,by':=8,ok:=true,z:= .un,k:=6}),
 (44,{n:=1,g:=false,by':=8,ok:=true,z:= .un,k:=6}),
 (45,{n:=1,g:=false,by':=8,ok:=true,z:= .int .i64 0,k:=0,ik:= .i64}),
 (47,{n:=1,g:=false,by':=8,ok:=true,z:= .un,k:=6}),
 (48,{n:=1,g:=false,by':=8,ok:=true,z:= .un,k:=6}),
 (50,{n:=35,g:=true,by':=56,ok:=true,z:= .agg [.int .u8 0,.int .u8 0,.int .u8 0,.int .u8 0,.int .u8 0,.int .u8 0,.int .u8 0,.int .u8 0,.int .u8 0,.int .u8 0,.int .u8 0,.int .u8 0,.int .u8 0,.int .u8 0,.int .u8 0,.int .u8 0,.int .u8 0,.int .u8 0,.int .u8 0,.int .u8 0,.int .u8 0,.int .u8 0,.int .u8 0,.int .u8 0,.int .u8 0,.int .u8 0,.int .u8 0,.int .u8 0,.int .u8 0,.int .u8 0,.int .u8 0,.int .u8 0,.int .i64 0,.int .i64 0,.int .i64 0],k:=5,fs:=[(0,28),(32,3),(33,3),(34,3)],cmp:=true,ck:=[0,0,0,0,0,0,0,0,0,0,0,0,0,0,0,0,0,0,0,0,0,0,0,0,0,0,0,0,0,0,0,0,0,0,0]}),
 (52,{n:=1,g:=false,by':=8,ok:=true,z:= .un,k:=6}),
 (53,{n:=1,g:=false,by':=8,ok:=true,z:= .un,k:=6}),
 (54,{n:=1,g:=false,by':=8,ok:=true,z:= .un,k:=6}),
 (55,{n:=1,g:=false,by':=8,ok:=true,z:= .un,k:=6}),
 (57,{n:=1,g:=false,by':=8,ok:=true,z:= .un,k:=6}),
 (59,{n:=4,g:=true,by':=32,ok:=true,z:= .agg [.int .i64 0,.int .i64 0,.int .i64 0,.int .i64 0],k:=5,fs:=[(0,3),(1,3),(2,3),(3,3)],cmp:=true,ck:=[0,0,0,0]}),
 (61,{n:=41,g:=true,by':=104,ok:=true,z:= .agg [.int .i64 0,.int .i64 0,.int .i64 0,.int .i64 0,.int .i64 0,.int .u8 0,.int .u8 0,.int .u8 0,.int .u8 0,.int .u8 0,.int .u8 0,.int .u8 0,.int .u8 0,.int .u8 0,.int .u8 0,.int .u8 0,.int .u8 0,.int .u8 0,.int .u8 0,.int .u8 0,.int .u8 0,.int .u8 0,.int .u8 0,.int .u8 0,.int .u8 0,.int .u8 0,.int .u8 0,.int .u8 0,.int .u8 0,.int .u8 0,.int .u8 0,.int .u8 0,.int .u8 0,.int .u8 0,.int .u8 0,.int .u8 0,.int .u8 0,.int .i64 0,.int .i64 0,.int .i64 0,.int .i64 0],k:=5,fs:=[(0,3),(1,3),(2,3),(3,3),(4,3),(5,28),(37,59)],cmp:=true,ck:=[0,0,0,0,0,0,0,0,0,0,0,0,0,0,0,0,0,0,0,0,0,0,0,0,0,0,0,0,0,0,0,0,0,0,0,0,0,0,0,0,0]}),
 (63,{n:=2,g:=true,by':=16,ok:=true,z:= .agg [.int .i64 0,.int .i64 0],k:=5,fs:=[(0,3),(1,3)],cmp:=true,ck:=[0,0]}),
 (65,{n:=34,g:=true,by':=48,ok:=true,z:= .agg [.int .u8 0,.int .u8 0,.int .u8 0,.int .u8 0,.int .u8 0,.int .u8 0,.int .u8 0,.int .u8 0,.int .u8 0,.int .u8 0,.int .u8 0,.int .u8 0,.int .u8 0,.int .u8 0,.int .u8 0,.int .u8 0,.int .u8 0,.int .u8 0,.int .u8 0,.int .u8 0,.int .u8 0,.int .u8 0,.int .u8 0,.int .u8 0,.int .u8 0,.int .u8 0,.int .u8 0,.int .u8 0,.int .u8 0,.int .u8 0,.int .u8 0,.int .u8 0,.int .i64 0,.int .i64 0],k:=5,fs:=[(0,28),(32,3),(33,3)],cmp:=true,ck:=[0,0,0,0,0,0,0,0,0,0,0,0,0,0,0,0,0,0,0,0,0,0,0,0,0,0,0,0,0,0,0,0,0,0]}),
 (66,{n:=1,g:=false,by':=24,ok:=true,z:= .sl (some true) 3 true [],k:=3,el:=150}),
 (67,{n:=1,g:=false,by':=24,ok:=true,z:= .sl (some true) 32 true [],k:=3,el:=28}),
 (69,{n:=2,g:=true,by':=32,ok:=true,z:= .agg [.int .i64 0,.sl (some true) 32 true []],k:=5,fs:=[(0,3),(1,67)]}),
 (71,{n:=80,g:=true,by':=224,ok:=true,z:= .agg [.int .i64 0,.int .i64 0,.int .i64 0,.int .i64 0,.int .i64 0,.int .u8 0,.int .u8 0,.int .u8 0,.int .u8 0,.int .u8 0,.int .u8 0,.int .u8 0,.int .u8 0,.int .u8 0,.int .u8 0,.int .u8 0,.int .u8 0,.int .u8 0,.int .u8 0,.int .u8 0,.int .u8 0,.int .u8 0,.int .u8 0,.int .u8 0,.int .u8 0,.int .u8 0,.int .u8 0,.int .u8 0,.int .u8 0,.int .u8 0,.int .u8 0,.int .u8 0,.int .u8 0,.int .u8 0,.int .u8 0,.int .u8 0,.int .u8 0,.int .i64 0,.int .i64 0,.int .i64 0,.int .i64 0,.int .i64 0,.int .i64 0,.int .u8 0,.int .u8 0,.int .u8 0,.int .u8 0,.int .u8 0,.int .u8 0,.int .u8 0,.int .u8 0,.int .u8 0,.int .u8 0,.int .u8 0,.int .u8 0,.int .u8 0,.int .u8 0,.int .u8 0,.int .u8 0,.int .u8 0,.int .u8 0,.int .u8 0,.int .u8 0,.int .u8 0,.int .u8 0,.int .u8 0,.int .u8 0,.int .u8 0,.int .u8 0,.int .u8 0,.int .u8 0,.int .u8 0,.int .u8 0,.int .u8 0,.int .u8 0,.int .i64 0,.int .i64 0,.sl (some true) 3 true [],.int .i64 0,.sl (some true) 32 true []],k:=5,fs:=[(0,61),(41,63),(43,65),(77,66),(78,69)]}),
 (73,{n:=81,g:=true,by':=248,ok:=true,z:= .agg [.int .i64 0,.int .i64 0,.int .i64 0,.int .i64 0,.int .i64 0,.int .u8 0,.int .u8 0,.int .u8 0,.int .u8 0,.int .u8 0,.int .u8 0,.int .u8 0,.int .u8 0,.int .u8 0,.int .u8 0,.int .u8 0,.int .u8 0,.int .u8 0,.int .u8 0,.int .u8 0,.int .u8 0,.int .u8 0,.int .u8 0,.int .u8 0,.int .u8 0,.int .u8 0,.int .u8 0,.int .u8 0,.int .u8 0,.int .u8 0,.int .u8 0,.int .u8 0,.int .u8 0,.int .u8 0,.int .u8 0,.int .u8 0,.int .u8 0,.int .i64 0,.int .i64 0,.int .i64 0,.int .i64 0,.int .i64 0,.int .i64 0,.int .u8 0,.int .u8 0,.int .u8 0,.int .u8 0,.int .u8 0,.int .u8 0,.int .u8 0,.int .u8 0,.int .u8 0,.int .u8 0,.int .u8 0,.int .u8 0,.int .u8 0,.int .u8 0,.int .u8 0,.int .u8 0,.int .u8 0,.int .u8 0,.int .u8 0,.int .u8 0,.int .u8 0,.int .u8 0,.int .u8 0,.int .u8 0,.int .u8 0,.int .u8 0,.int .u8 0,.int .u8 0,.int .u8 0,.int .u8 0,.int .u8 0,.int .u8 0,.int .i64 0,.int .i64 0,.sl (some true) 3 true [],.int .i64 0,.sl (some true) 32 true [],.sl (some true) 80 true []],k:=5,fs:=[(0,71),(80,37)]}),
 (75,{n:=1,g:=false,by':=8,ok:=true,z:= .un,k:=6}),
 (76,{n:=1,g:=false,by':=8,ok:=true,z:= .un,k:=6}),
 (77,{n:=1,g:=false,by':=8,ok:=true,z:= .un,k:=6}),
 (79,{n:=1,g:=false,by':=8,ok:=true,z:= .un,k:=6}),
 (80,{n:=1,g:=false,by':=8,ok:=true,z:= .un,k:=6}),
 (81,{n:=1,g:=false,by':=8,ok:=true,z:= .un,k:=6}),
 (83,{n:=3,g:=true,by':=24,ok:=true,z:= .agg [.int .i64 0,.int .i64 0,.int .i64 0],k:=5,fs:=[(0,3),(1,3),(2,3)],cmp:=true,ck:=[0,0,0]}),
 (85,{n:=1,g:=false,by':=8,ok:=true,z:= .un,k:=6}),
 (86,{n:=1,g:=false,by':=8,ok:=true,z:= .un,k:=6}),
 (87,{n:=1,g:=false,by':=8,ok:=true,z:= .un,k:=6}),
 (88,{n:=1,g:=false,by':=8,ok:=true,z:= .un,k:=6}),
 (89,{n:=1,g:=false,by':=8,ok:=true,z:= .un,k:=6}),
 (91,{n:=3,g:=true,by':=56,ok:=true,z:= .agg [.sl (some true) 1 false [],.int .i64 0,.sl (some true) 1 false []],k:=5,fs:=[(0,34),(1,3),(2,34)]}),
 (93,{n:=5,g:=true,by':=72,ok:=true,z:= .agg [.int .i64 0,.int .i64 0,.sl (some true) 1 false [],.int .i64 0,.sl (some true) 1 false []],k:=5,fs:=[(0,3),(1,3),(2,91)]}),
 (94,{n:=1,g:=false,by':=8,ok:=true,z:= .un,k:=6}),
 (95,{n:=1,g:=false,by':=8,ok:=true,z:= .un,k:=6}),
 (96,{n:=1,g:=false,by':=8,ok:=true,z:= .un,k:=6}),
 (97,{n:=1,g:=false,by':=8,ok:=true,z:= .un,k:=7,el:=100,len:=4}),
 (98,{n:=1,g:=false,by':=8,ok:=true,z:= .un,k:=6}),
 (100,{n:=2,g:=true,by':=16,ok:=true,z:= .agg [.int .i64 0,.int .i64 0],k:=5,fs:=[(0,3),(1,3)],cmp:=true,ck:=[0,0]}),
 (101,{n:=1,g:=false,by':=8,ok:=true,z:= .un,k:=6}),
 (102,{n:=1,g:=false,by':=8,ok:=true,z:= .un,k:=6}),
 (103,{n:=1,g:=false,by':=8,ok:=true,z:= .un,k:=6}),
 (104,{n:=1,g:=false,by':=8,ok:=true,z:= .un,k:=6}),
 (105,{n:=1,g:=false,by':=8,ok:=true,z:= .un,k:=6}),
 (106,{n:=1,g:=false,by':=8,ok:=true,z:= .un,k:=6}),
 (107,{n:=1,g:=false,by':=8,ok:=true,z:= .un,k:=6}),
 (108,{n:=1,g:=false,by':=8,ok:=true,z:= .un,k:=6}),
 (109,{n:=1,g:=false,by':=8,ok:=true,z:= .un,k:=6}),
 (110,{n:=1,g:=false,by':=8,ok:=true,z:= .un,k:=6}),
 (111,{n:=1,g:=false,by':=8,ok:=true,z:= .un,k:=6}),
 (112,{n:=1,g:=false,by':=8,ok:=true,z:= .un,k:=6}),
 (113,{n:=1,g:=false,by':=8,ok:=true,z:= .un,k:=6}),
 (114,{n:=1,g:=false,by':=24,ok:=true,z:= .sl (some true) 83 true [],k:=3,el:=117}),
 (115,{n:=1,g:=false,by':=8,ok:=true,z:= .un,k:=6}),
 (117,{n:=83,g:=true,by':=248,ok:=true,z:= .agg [.int .i64 0,.int .i64 0,.int .i64 0,.int .i64 0,.int .i64 0,.int .i64 0,.int .i64 0,.int .u8 0,.int .u8 0,.int .u8 0,.int .u8 0,.int .u8 0,.int .u8 0,.int .u8 0,.int .u8 0,.int .u8 0,.int .u8 0,.int .u8 0,.int .u8 0,.int .u8 0,.int .u8 0,.int .u8 0,.int .u8 0,.int .u8 0,.int .u8 0,.int .u8 0,.int .u8 0,.int .u8 0,.int .u8 0,.int .u8 0,.int .u8 0,.int .u8 0,.int .u8 0,.int .u8 0,.int .u8 0,.int .u8 0,.int .u8 0,.int .u8 0,.int .u8 0,.int .i64 0,.int .i64 0,.int .i64 0,.int .i64 0,.int .i64 0,.int .i64 0,.int .u8 0,.int .u8 0,.int .u8 0,.int .u8 0,.int .u8 0,.int .u8 0,.int .u8 0,.int .u8 0,.int .u8 0,.int .u8 0,.int .u8 0,.int .u8 0,.int .u8 0,.int .u8 0,.int .u8 0,.int .u8 0,.int .u8 0,.int .u8 0,.int .u8 0,.int .u8 0,.int .u8 0,.int .u8 0,.int .u8 0,.int .u8 0,.int .u8 0,.int .u8 0,.int .u8 0,.int .u8 0,.int .u8 0,.int .u8 0,.int .u8 0,.int .u8 0,.int .i64 0,.int .i64 0,.sl (some true) 3 true [],.int .i64 0,.sl (some true) 32 true [],.int .i64 0],k:=5,fs:=[(0,3),(1,3),(2,71),(82,3)]}),
 (118,{n:=1,g:=false,by':=8,ok:=true,z:= .un,k:=6}),
 (120,{n:=47,g:=true,by':=216,ok:=true,z:= .agg [.int .i64 0,.int .i64 0,.int .i64 0,.int .i64 0,.int .i64 0,.int .i64 0,.sl (some true) 11 true [],.int .i64 0,.int .u8 0,.int .u8 0,.int .u8 0,.int .u8 0,.int .u8 0,.int .u8 0,.int .u8 0,.int .u8 0,.int .u8 0,.int .u8 0,.int .u8 0,.int .u8 0,.int .u8 0,.int .u8 0,.int .u8 0,.int .u8 0,.int .u8 0,.int .u8 0,.int .u8 0,.int .u8 0,.int .u8 0,.int .u8 0,.int .u8 0,.int .u8 0,.int .u8 0,.int .u8 0,.int .u8 0,.int .u8 0,.int .u8 0,.int .u8 0,.int .u8 0,.int .u8 0,.int .i64 0,.int .i64 0,.int .i64 0,.int .i64 0,.sl (some true) 80 true [],.sl (some true) 81 true [],.sl (some true) 5 true []],k:=5,fs:=[(0,25),(6,26),(7,3),(8,50),(43,41)]}),
 (121,{n:=1,g:=false,by':=8,ok:=true,z:= .un,k:=6}),
 (122,{n:=1,g:=false,by':=8,ok:=true,z:= .un,k:=6}),
 (123,{n:=1,g:=false,by':=8,ok:=true,z:= .un,k:=6}),
 (124,{n:=1,g:=false,by':=24,ok:=true,z:= .sl (some true) 1 false [],k:=3,el:=121}),
 (125,{n:=1,g:=false,by':=8,ok:=true,z:= .un,k:=6}),
 (126,{n:=1,g:=false,by':=8,ok:=true,z:= .un,k:=6}),
 (127,{n:=1,g:=false,by':=8,ok:=true,z:= .un,k:=6}),
 (128,{n:=1,g:=false,by':=8,ok:=true,z:= .un,k:=6}),
 (129,{n:=1,g:=false,by':=8,ok:=true,z:= .un,k:=6}),
 (130,{n:=1,g:=false,by':=8,ok:=true,z:= .un,k:=6}),
 (132,{n:=1,g:=false,by':=8,ok:=true,z:= .un,k:=6}),
 (133,{n:=1,g:=false,by':=8,ok:=true,z:= .un,k:=6}),
 (134,{n:=1,g:=false,by':=8,ok:=true,z:= .un,k:=6}),
 (135,{n:=1,g:=false,by':=8,ok:=true,z:= .un,k:=6}),
 (136,{n:=1,g:=false,by':=8,ok:=true,z:= .un,k:=6}),
 (137,{n:=1,g:=false,by':=8,ok:=true,z:= .un,k:=6}),
 (138,{n:=1,g:=false,by':=8,ok:=true,z:= .un,k:=6}),
 (139,{n:=1,g:=false,by':=8,ok:=true,z:= .un,k:=6}),
 (140,{n:=1,g:=false,by':=8,ok:=true,z:= .un,k:=6}),
 (141,{n:=1,g:=false,by':=8,ok:=true,z:= .un,k:=6}),
 (142,{n:=1,g:=false,by':=8,ok:=true,z:= .un,k:=6}),
 (143,{n:=1,g:=false,by':=8,ok:=true,z:= .un,k:=6}),
 (144,{n:=1,g:=false,by':=8,ok:=true,z:= .un,k:=6}),
 (145,{n:=1,g:=false,by':=8,ok:=true,z:= .un,k:=6}),
 (147,{n:=1,g:=false,by':=8,ok:=true,z:= .un,k:=6}),
 (148,{n:=1,g:=false,by':=8,ok:=true,z:= .un,k:=6}),
 (150,{n:=3,g:=true,by':=24,ok:=true,z:= .agg [.int .i64 0,.int .i64 0,.int .i64 0],k:=5,fs:=[(0,3),(1,3),(2,3)],cmp:=true,ck:=[0,0,0]}),
 (151,{n:=1,g:=false,by':=8,ok:=true,z:= .un,k:=6}),
 (153,{n:=3,g:=true,by':=24,ok:=true,z:= .agg [.int .i64 0,.int .i64 0,.int .i64 0],k:=5,fs:=[(0,3),(1,3),(2,3)],cmp:=true,ck:=[0,0,0]}),
 (155,{n:=11,g:=true,by':=88,ok:=true,z:= .agg [.int .i64 0,.int .i64 0,.int .i64 0,.int .i64 0,.int .i64 0,.int .i64 0,.int .i64 0,.int .i64 0,.int .i64 0,.int .i64 0,.int .i64 0],k:=5,fs:=[(0,3),(1,3),(2,3),(3,3),(4,3),(5,153),(8,3),(9,3),(10,3)],cmp:=true,ck:=[0,0,0,0,0,0,0,0,0,0,0]}),
 (156,{n:=1,g:=false,by':=8,ok:=true,z:= .un,k:=6}),
 (157,{n:=1,g:=false,by':=8,ok:=true,z:= .un,k:=6}),
 (158,{n:=1,g:=false,by':=8,ok:=true,z:= .un,k:=6}),
 (159,{n:=1,g:=false,by':=24,ok:=true,z:= .sl (some true) 41 true [],k:=3,el:=61}),
 (160,{n:=1,g:=false,by':=8,ok:=true,z:= .un,k:=6}),
 (162,{n:=1,g:=false,by':=8,ok:=true,z:= .un,k:=6}),
 (163,{n:=1,g:=false,by':=8,ok:=true,z:= .un,k:=6}),
 (164,{n:=1,g:=false,by':=8,ok:=true,z:= .un,k:=6}),
 (165,{n:=1,g:=false,by':=8,ok:=true,z:= .un,k:=6}),
 (166,{n:=1,g:=false,by':=8,ok:=true,z:= .un,k:=6}),
 (167,{n:=1,g:=false,by':=8,ok:=true,z:= .un,k:=7,el:=168,len:=4}),
 (168,{n:=2,g:=true,by':=16,ok:=true,z:= .agg [.int .i64 0,.int .i64 0],k:=4,el:=3,len:=2,cmp:=true,ck:=[0,0]}),
 (170,{n:=1,g:=false,by':=8,ok:=true,z:= .un,k:=6}),
 (171,{n:=1,g:=false,by':=8,ok:=true,z:= .un,k:=6}),
 (172,{n:=1,g:=false,by':=8,ok:=true,z:= .un,k:=6}),
 (173,{n:=1,g:=false,by':=8,ok:=true,z:= .un,k:=6}),
 (174,{n:=1,g:=false,by':=8,ok:=true,z:= .int .u64 0,k:=0,ik:= .u64}),
 (175,{n:=1,g:=false,by':=8,ok:=true,z:= .un,k:=6}),
 (176,{n:=1,g:=false,by':=8,ok:=true,z:= .un,k:=6}),
 (177,{n:=1,g:=false,by':=8,ok:=true,z:= .un,k:=6}),
 (178,{n:=1,g:=false,by':=8,ok:=true,z:= .un,k:=6}),
 (179,{n:=1,g:=false,by':=8,ok:=true,z:= .un,k:=6}),
 (180,{n:=1,g:=false,by':=8,ok:=true,z:= .un,k:=6}),
 (181,{n:=1,g:=false,by':=8,ok:=true,z:= .un,k:=6}),
 (182,{n:=1,g:=false,by':=8,ok:=true,z:= .un,k:=6}),
 (184,{n:=2,g:=true,by':=16,ok:=true,z:= .agg [.int .i64 0,.int .i64 0],k:=5,fs:=[(0,3),(1,3)],cmp:=true,ck:=[0,0]}),
 (185,{n:=1,g:=false,by':=24,ok:=true,z:= .sl (some true) 2 true [],k:=3,el:=184}),
 (186,{n:=1,g:=false,by':=8,ok:=true,z:= .un,k:=6}),
 (187,{n:=1,g:=false,by':=8,ok:=true,z:= .un,k:=6}),
 (188,{n:=1,g:=false,by':=8,ok:=true,z:= .un,k:=6}),
 (189,{n:=1,g:=false,by':=8,ok:=true,z:= .un,k:=6}),
 (190,{n:=1,g:=false,by':=8,ok:=true,z:= .un,k:=6}),
 (191,{n:=1,g:=false,by':=8,ok:=true,z:= .un,k:=6}),
 (192,{n:=1,g:=false,by':=8,ok:=true,z:= .un,k:=6}),
 (193,{n:=1,g:=false,by':=8,ok:=true,z:= .un,k:=6}),
 (195,{n:=1,g:=false,by':=8,ok:=true,z:= .un,k:=6}),
 (197,{n:=1,g:=false,by':=8,ok:=true,z:= .un,k:=6}),
 (198,{n:=1,g:=false,by':=8,ok:=true,z:= .un,k:=6}),
 (199,{n:=1,g:=false,by':=8,ok:=true,z:= .un,k:=6}),
 (200,{n:=1,g:=false,by':=8,ok:=true,z:= .un,k:=6}),
 (201,{n:=1,g:=false,by':=8,ok:=true,z:= .un,k:=6}),
 (202,{n:=1,g:=false,by':=24,ok:=true,z:= .sl (some true) 1 false [],k:=3,el:=5}),
 (204,{n:=1,g:=false,by':=8,ok:=true,z:= .un,k:=6}),
 (205,{n:=1,g:=false,by':=8,ok:=true,z:= .un,k:=6}),
 (206,{n:=1,g:=false,by':=8,ok:=true,z:= .un,k:=6}),
 (207,{n:=1,g:=false,by':=24,ok:=true,z:= .sl (some true) 1 false [],k:=3,el:=34}),
 (209,{n:=2,g:=true,by':=48,ok:=true,z:= .agg [.sl (some true) 1 false [],.sl (some true) 1 false []],k:=5,fs:=[(0,34),(1,207)]}),
 (211,{n:=1,g:=false,by':=8,ok:=true,z:= .un,k:=6}),
 (212,{n:=1,g:=false,by':=8,ok:=true,z:= .un,k:=6}),
 (213,{n:=1,g:=false,by':=8,ok:=true,z:= .un,k:=6}),
 (214,{n:=1,g:=false,by':=8,ok:=true,z:= .un,k:=6}),
 (215,{n:=1,g:=false,by':=8,ok:=true,z:= .un,k:=6}),
 (216,{n:=1,g:=false,by':=8,ok:=true,z:= .un,k:=6}),
 (217,{n:=1,g:=false,by':=8,ok:=true,z:= .un,k:=6}),
 (218,{n:=1,g:=false,by':=8,ok:=true,z:= .un,k:=6}),
 (219,{n:=1,g:=false,by':=8,ok:=true,z:= .un,k:=6}),
 (220,{n:=1,g:=false,by':=24,ok:=true,z:= .sl (some true) 4 true [],k:=3,el:=222}),
 (222,{n:=4,g:=true,by':=64,ok:=true,z:= .agg [.int .i64 0,.int .i64 0,.sl (some true) 1 false [],.sl (some true) 4 true []],k:=5,fs:=[(0,3),(1,3),(2,202),(3,220)]}),
 (223,{n:=1,g:=false,by':=8,ok:=true,z:= .un,k:=6}),
 (224,{n:=1,g:=false,by':=8,ok:=true,z:= .un,k:=6}),
 (225,{n:=1,g:=false,by':=8,ok:=true,z:= .un,k:=6}),
 (226,{n:=1,g:=false,by':=8,ok:=true,z:= .un,k:=6}),
 (227,{n:=1,g:=false,by':=8,ok:=true,z:= .un,k:=6}),
 (228,{n:=1,g:=false,by':=8,ok:=true,z:= .un,k:=6}),
 (229,{n:=1,g:=false,by':=8,ok:=true,z:= .un,k:=6}),
 (230,{n:=1,g:=false,by':=8,ok:=true,z:= .un,k:=6}),
 (231,{n:=1,g:=false,by':=8,ok:=true,z:= .un,k:=6}),
 (232,{n:=1,g:=false,by':=8,ok:=true,z:= .un,k:=6}),
 (233,{n:=1,g:=false,by':=8,ok:=true,z:= .un,k:=6}),
 (234,{n:=1,g:=false,by':=8,ok:=true,z:= .un,k:=6}),
 (235,{n:=1,g:=false,by':=8,ok:=true,z:= .un,k:=6}),
 (236,{n:=1,g:=false,by':=8,ok:=true,z:= .un,k:=6}),
 (237,{n:=1,g:=false,by':=8,ok:=true,z:= .un,k:=6}),
 (238,{n:=1,g:=false,by':=8,ok:=true,z:= .un,k:=6}),
 (241,{n:=1,g:=false,by':=16,ok:=true,z:= .un,k:=8}),
 (242,{n:=1,g:=false,by':=16,ok:=true,z:= .un,k:=8}),
 (243,{n:=1,g:=false,by':=8,ok:=true,z:= .un,k:=6}),
 (244,{n:=1,g:=false,by':=8,ok:=true,z:= .un,k:=6}),
 (245,{n:=1,g:=false,by':=8,ok:=true,z:= .un,k:=6}),
 (246,{n:=1,g:=false,by':=8,ok:=true,z:= .un,k:=6}),
 (247,{n:=1,g:=false,by':=8,ok:=true,z:= .un,k:=6}),
 (248,{n:=1,g:=false,by':=8,ok:=true,z:= .un,k:=6}),
 (249,{n:=1,g:=false,by':=8,ok:=true,z:= .int .u64 0,k:=0,ik:= .u64}),
 (250,{n:=12,g:=true,by':=96,ok:=true,z:= .agg [.int .u64 0,.int .u64 0,.int .u64 0,.int .u64 0,.int .u64 0,.int .u64 0,.int .u64 0,.int .u64 0,.int .u64 0,.int .u64 0,.int .u64 0,.int .u64 0],k:=4,el:=249,len:=12,cmp:=true,ck:=[0,0,0,0,0,0,0,0,0,0,0,0]}),
 (251,{n:=1,g:=false,by':=8,ok:=true,z:= .un,k:=6}),
 (252,{n:=1,g:=false,by':=8,ok:=true,z:= .un,k:=6}),
 (253,{n:=1,g:=false,by':=8,ok:=true,z:= .un,k:=6}),
 (254,{n:=1,g:=false,by':=8,ok:=true,z:= .un,k:=6}),
 (255,{n:=1,g:=false,by':=8,ok:=true,z:= .un,k:=6}),
 (256,{n:=1,g:=false,by':=8,ok:=true,z:= .un,k:=6}),
 (257,{n:=1,g:=false,by':=8,ok:=true,z:= .un,k:=6}),
 (258,{n:=1,g:=false,by':=8,ok:=true,z:= .un,k:=6}),
 (259,{n:=1,g:=false,by':=8,ok:=true,z:= .un,k:=6}),
 (260,{n:=1,g:=false,by':=8,ok:=true,z:= .un,k:=6}),
 (261,{n:=1,g:=false,by':=8,ok:=true,z:= .un,k:=6}),
 (262,{n:=1,g:=false,by':=8,ok:=true,z:= .un,k:=6}),
 (263,{n:=1,g:=false,by':=8,ok:=true,z:= .un,k:=6}),
 (264,{n:=1,g:=false,by':=8,ok:=true,z:= .un,k:=6}),
 (265,{n:=1,g:=false,by':=24,ok:=true,z:= .sl (some true) 1 false [],k:=3,el:=67}),
 (272,{n:=1,g:=false,by':=4,ok:=true,z:= .int .u32 0,k:=0,ik:= .u32}),
 (273,{n:=8,g:=true,by':=32,ok:=true,z:= .agg [.int .u32 0,.int .u32 0,.int .u32 0,.int .u32 0,.int .u32 0,.int .u32 0,.int .u32 0,.int .u32 0],k:=4,el:=272,len:=8,cmp:=true,ck:=[0,0,0,0,0,0,0,0]}),
 (275,{n:=1,g:=false,by':=8,ok:=true,z:= .un,k:=6}),
 (281,{n:=33,g:=true,by':=40,ok:=true,z:= .agg [.int .u8 0,.int .u8 0,.int .u8 0,.int .u8 0,.int .u8 0,.int .u8 0,.int .u8 0,.int .u8 0,.int .u8 0,.int .u8 0,.int .u8 0,.int .u8 0,.int .u8 0,.int .u8 0,.int .u8 0,.int .u8 0,.int .u8 0,.int .u8 0,.int .u8 0,.int .u8 0,.int .u8 0,.int .u8 0,.int .u8 0,.int .u8 0,.int .u8 0,.int .u8 0,.int .u8 0,.int .u8 0,.int .u8 0,.int .u8 0,.int .u8 0,.int .u8 0,.int .i64 0],k:=5,fs:=[(0,28),(32,3)],cmp:=true,ck:=[0,0,0,0,0,0,0,0,0,0,0,0,0,0,0,0,0,0,0,0,0,0,0,0,0,0,0,0,0,0,0,0,0]}),
 (285,{n:=1,g:=false,by':=8,ok:=true,z:= .un,k:=6}),
 (288,{n:=64,g:=true,by':=64,ok:=true,z:= .agg [.int .u8 0,.int .u8 0,.int .u8 0,.int .u8 0,.int .u8 0,.int .u8 0,.int .u8 0,.int .u8 0,.int .u8 0,.int .u8 0,.int .u8 0,.int .u8 0,.int .u8 0,.int .u8 0,.int .u8 0,.int .u8 0,.int .u8 0,.int .u8 0,.int .u8 0,.int .u8 0,.int .u8 0,.int .u8 0,.int .u8 0,.int .u8 0,.int .u8 0,.int .u8 0,.int .u8 0,.int .u8 0,.int .u8 0,.int .u8 0,.int .u8 0,.int .u8 0,.int .u8 0,.int .u8 0,.int .u8 0,.int .u8 0,.int .u8 0,.int .u8 0,.int .u8 0,.int .u8 0,.int .u8 0,.int .u8 0,.int .u8 0,.int .u8 0,.int .u8 0,.int .u8 0,.int .u8 0,.int .u8 0,.int .u8 0,.int .u8 0,.int .u8 0,.int .u8 0,.int .u8 0,.int .u8 0,.int .u8 0,.int .u8 0,.int .u8 0,.int .u8 0,.int .u8 0,.int .u8 0,.int .u8 0,.int .u8 0,.int .u8 0,.int .u8 0],k:=4,el:=5,len:=64,cmp:=true,ck:=[0,0,0,0,0,0,0,0,0,0,0,0,0,0,0,0,0,0,0,0,0,0,0,0,0,0,0,0,0,0,0,0,0,0,0,0,0,0,0,0,0,0,0,0,0,0,0,0,0,0,0,0,0,0,0,0,0,0,0,0,0,0,0,0]}),
 (296,{n:=1,g:=false,by':=8,ok:=true,z:= .un,k:=6}),
 (298,{n:=1,g:=true,by':=24,ok:=true,z:= .agg [.sl (some true) 4 true []],k:=5,fs:=[(0,220)]}),
 (307,{n:=64,g:=true,by':=256,ok:=true,z:= .agg [.int .u32 0,.int .u32 0,.int .u32 0,.int .u32 0,.int .u32 0,.int .u32 0,.int .u32 0,.int .u32 0,.int .u32 0,.int .u32 0,.int .u32 0,.int .u32 0,.int .u32 0,.int .u32 0,.int .u32 0,.int .u32 0,.int .u32 0,.int .u32 0,.int .u32 0,.int .u32 0,.int .u32 0,.int .u32 0,.int .u32 0,.int .u32 0,.int .u32 0,.int .u32 0,.int .u32 0,.int .u32 0,.int .u32 0,.int .u32 0,.int .u32 0,.int .u32 0,.int .u32 0,.int .u32 0,.int .u32 0,.int .u32 0,.int .u32 0,.int .u32 0,.int .u32 0,.int .u32 0,.int .u32 0,.int .u32 0,.int .u32 0,.int .u32 0,.int .u32 0,.int .u32 0,.int .u32 0,.int .u32 0,.int .u32 0,.int .u32 0,.int .u32 0,.int .u32 0,.int .u32 0,.int .u32 0,.int .u32 0,.int .u32 0,.int .u32 0,.int .u32 0,.int .u32 0,.int .u32 0,.int .u32 0,.int .u32 0,.int .u32 0,.int .u32 0],k:=4,el:=272,len:=64,cmp:=true,ck:=[0,0,0,0,0,0,0,0,0,0,0,0,0,0,0,0,0,0,0,0,0,0,0,0,0,0,0,0,0,0,0,0,0,0,0,0,0,0,0,0,0,0,0,0,0,0,0,0,0,0,0,0,0,0,0,0,0,0,0,0,0,0,0,0]}),
 (310,{n:=1,g:=false,by':=8,ok:=true,z:= .un,k:=6}),
 (319,{n:=1,g:=false,by':=8,ok:=true,z:= .un,k:=6}),
 (323,{n:=1,g:=false,by':=24,ok:=true,z:= .sl (some true) 1 false [],k:=3,el:=202}),
 (328,{n:=1,g:=false,by':=8,ok:=true,z:= .un,k:=6}),
 (330,{n:=1,g:=false,by':=8,ok:=true,z:= .un,k:=6}),
 (340,{n:=1,g:=false,by':=8,ok:=true,z:= .un,k:=6})]
noncomputable def En:Env:={P:=Tryz.prog,tb:=kZ tbl,gv:=fun g=>if g=0 then some (.pp 12 true (.agg (dg.map (V.int .u64)))) else if g=1 then some (.pp 8 true (.agg [.int .u32 1779033703,.int .u32 3144134277,.int .u32 1013904242,.int .u32 2773480762,.int .u32 1359893119,.int .u32 2600822924,.int .u32 528734635,.int .u32 1541459225])) else if g=2 then some (.pp 64 true (.agg (jV.map (V.int .u8)))) else if g=3 then some (.pp 64 true (.agg (lq.map (V.int .u32)))) else none}
@[go_sem] theorem gv0:En.gv 0=some (.pp 12 true (.agg (dg.map (V.int .u64)))):=Eq.trans rfl rfl
@[go_sem] theorem gv1:En.gv 1=some (.pp 8 true (.agg [.int .u32 1779033703,.int .u32 3144134277,.int .u32 1013904242,.int .u32 2773480762,.int .u32 1359893119,.int .u32 2600822924,.int .u32 528734635,.int .u32 1541459225])):=Eq.trans rfl rfl
@[go_sem] theorem gv2:En.gv 2=some (.pp 64 true (.agg (jV.map (V.int .u8)))):=Eq.trans rfl rfl
@[go_sem] theorem gv3:En.gv 3=some (.pp 64 true (.agg (lq.map (V.int .u32)))):=Eq.trans rfl rfl
set_option maxRecDepth 100000
theorem Jw:AP Tryz.prog tbl=true:=by kernel_rfl
theorem aU:a7 En:=⟨fun _ h=>tOk (l:=tbl) Jw h⟩
theorem bJ:En.P.follows .mixedOrders=true:=by kernel_rfl
@[go_sem] theorem tb1:En.tb 1={n:=1,g:=false,by':=8,ok:=true,z:= .un,k:=6}:=rfl
@[go_sem] theorem tb2:En.tb 2={n:=1,g:=false,by':=8,ok:=true,z:= .int .i64 0,k:=0,ik:= .i64}:=rfl
@[go_sem] theorem tb3:En.tb 3={n:=1,g:=false,by':=8,ok:=true,z:= .int .i64 0,k:=0,ik:= .i64}:=rfl
@[go_sem] theorem tb4:En.tb 4={n:=1,g:=false,by':=1,ok:=true,z:= .bool false,k:=1}:=rfl
@[go_sem] theorem tb5:En.tb 5={n:=1,g:=false,by':=1,ok:=true,z:= .int .u8 0,k:=0,ik:= .u8}:=rfl
@[go_sem] theorem tb9:En.tb 9={n:=1,g:=false,by':=16,ok:=true,z:= .str [],k:=2}:=rfl
@[go_sem] theorem tb12:En.tb 12={n:=1,g:=false,by':=8,ok:=true,z:= .int .u64 0,k:=0,ik:= .u64}:=rfl
@[go_sem] theorem tb15:En.tb 15={n:=1,g:=false,by':=8,ok:=true,z:= .un,k:=6}:=rfl
@[go_sem] theorem tb16:En.tb 16={n:=1,g:=false,by':=8,ok:=true,z:= .un,k:=6}:=rfl
@[go_sem] theorem tb17:En.tb 17={n:=1,g:=false,by':=8,ok:=true,z:= .un,k:=6}:=rfl
@[go_sem] theorem tb20:En.tb 20={n:=1,g:=false,by':=16,ok:=true,z:= .un,k:=8}:=rfl
@[go_sem] theorem tb21:En.tb 21={n:=1,g:=false,by':=4,ok:=true,z:= .int .i32 0,k:=0,ik:= .i32}:=rfl
@[go_sem] theorem r8:En.tb 23={n:=3,g:=true,by':=24,ok:=true,z:= .agg [.int .i64 0,.int .i64 0,.int .i64 0],k:=5,fs:=[(0,3),(1,3),(2,3)],cmp:=true,ck:=[0,0,0]}:=rfl
@[go_sem] theorem mQ:En.tb 25={n:=6,g:=true,by':=48,ok:=true,z:= .agg [.int .i64 0,.int .i64 0,.int .i64 0,.int .i64 0,.int .i64 0,.int .i64 0],k:=5,fs:=[(0,23),(3,3),(4,3),(5,3)],cmp:=true,ck:=[0,0,0,0,0,0]}:=rfl
@[go_sem] theorem mR:En.tb 26={n:=1,g:=false,by':=24,ok:=true,z:= .sl (some true) 11 true [],k:=3,el:=155}:=rfl
@[go_sem] theorem tb27:En.tb 27={n:=32,g:=true,by':=32,ok:=true,z:= .agg [.int .u8 0,.int .u8 0,.int .u8 0,.int .u8 0,.int .u8 0,.int .u8 0,.int .u8 0,.int .u8 0,.int .u8 0,.int .u8 0,.int .u8 0,.int .u8 0,.int .u8 0,.int .u8 0,.int .u8 0,.int .u8 0,.int .u8 0,.int .u8 0,.int .u8 0,.int .u8 0,.int .u8 0,.int .u8 0,.int .u8 0,.int .u8 0,.int .u8 0,.int .u8 0,.int .u8 0,.int .u8 0,.int .u8 0,.int .u8 0,.int .u8 0,.int .u8 0],k:=4,el:=5,len:=32,cmp:=true,ck:=[0,0,0,0,0,0,0,0,0,0,0,0,0,0,0,0,0,0,0,0,0,0,0,0,0,0,0,0,0,0,0,0]}:=rfl
@[go_sem] theorem mS:En.tb 28={n:=32,g:=true,by':=32,ok:=true,z:= .agg [.int .u8 0,.int .u8 0,.int .u8 0,.int .u8 0,.int .u8 0,.int .u8 0,.int .u8 0,.int .u8 0,.int .u8 0,.int .u8 0,.int .u8 0,.int .u8 0,.int .u8 0,.int .u8 0,.int .u8 0,.int .u8 0,.int .u8 0,.int .u8 0,.int .u8 0,.int .u8 0,.int .u8 0,.int .u8 0,.int .u8 0,.int .u8 0,.int .u8 0,.int .u8 0,.int .u8 0,.int .u8 0,.int .u8 0,.int .u8 0,.int .u8 0,.int .u8 0],k:=4,el:=5,len:=32,cmp:=true,ck:=[0,0,0,0,0,0,0,0,0,0,0,0,0,0,0,0,0,0,0,0,0,0,0,0,0,0,0,0,0,0,0,0]}:=rfl
@[go_sem] theorem r9:En.tb 29={n:=1,g:=false,by':=24,ok:=true,z:= .sl (some true) 3 true [],k:=3,el:=83}:=rfl
@[go_sem] theorem sa:En.tb 31={n:=1,g:=true,by':=24,ok:=true,z:= .agg [.sl (some true) 3 true []],k:=5,fs:=[(0,29)]}:=rfl
@[go_sem] theorem sb:En.tb 32={n:=1,g:=false,by':=24,ok:=true,z:= .sl (some true) 35 true [],k:=3,el:=50}:=rfl
@[go_sem] theorem sc:En.tb 33={n:=1,g:=false,by':=24,ok:=true,z:= .sl (some true) 4 true [],k:=3,el:=41}:=rfl
@[go_sem] theorem sd:En.tb 34={n:=1,g:=false,by':=24,ok:=true,z:= .sl (some true) 1 false [],k:=3,el:=3}:=rfl
@[go_sem] theorem mT:En.tb 36={n:=40,g:=true,by':=176,ok:=true,z:= .agg [.int .u8 0,.int .u8 0,.int .u8 0,.int .u8 0,.int .u8 0,.int .u8 0,.int .u8 0,.int .u8 0,.int .u8 0,.int .u8 0,.int .u8 0,.int .u8 0,.int .u8 0,.int .u8 0,.int .u8 0,.int .u8 0,.int .u8 0,.int .u8 0,.int .u8 0,.int .u8 0,.int .u8 0,.int .u8 0,.int .u8 0,.int .u8 0,.int .u8 0,.int .u8 0,.int .u8 0,.int .u8 0,.int .u8 0,.int .u8 0,.int .u8 0,.int .u8 0,.sl (some true) 3 true [],.sl (some true) 35 true [],.int .i64 0,.sl (some true) 4 true [],.sl (some true) 35 true [],.int .i64 0,.sl (some true) 1 false [],.int .i64 0],k:=5,fs:=[(0,28),(32,31),(33,32),(34,3),(35,33),(36,32),(37,3),(38,34),(39,3)]}:=rfl
@[go_sem] theorem se:En.tb 37={n:=1,g:=false,by':=24,ok:=true,z:= .sl (some true) 80 true [],k:=3,el:=71}:=rfl
@[go_sem] theorem sf:En.tb 38={n:=1,g:=false,by':=24,ok:=true,z:= .sl (some true) 81 true [],k:=3,el:=73}:=rfl
@[go_sem] theorem sk:En.tb 39={n:=1,g:=false,by':=24,ok:=true,z:= .sl (some true) 5 true [],k:=3,el:=93}:=rfl
@[go_sem] theorem i6:En.tb 41={n:=4,g:=true,by':=80,ok:=true,z:= .agg [.int .i64 0,.sl (some true) 80 true [],.sl (some true) 81 true [],.sl (some true) 5 true []],k:=5,fs:=[(0,3),(1,37),(2,38),(3,39)]}:=rfl
@[go_sem] theorem tb42:En.tb 42={n:=1,g:=false,by':=8,ok:=true,z:= .un,k:=6}:=rfl
@[go_sem] theorem tb43:En.tb 43={n:=1,g:=false,by':=8,ok:=true,z:= .un,k:=6}:=rfl
@[go_sem] theorem tb44:En.tb 44={n:=1,g:=false,by':=8,ok:=true,z:= .un,k:=6}:=rfl
@[go_sem] theorem tb45:En.tb 45={n:=1,g:=false,by':=8,ok:=true,z:= .int .i64 0,k:=0,ik:= .i64}:=rfl
@[go_sem] theorem tb47:En.tb 47={n:=1,g:=false,by':=8,ok:=true,z:= .un,k:=6}:=rfl
@[go_sem] theorem tb48:En.tb 48={n:=1,g:=false,by':=8,ok:=true,z:= .un,k:=6}:=rfl
@[go_sem] theorem oS:En.tb 50={n:=35,g:=true,by':=56,ok:=true,z:= .agg [.int .u8 0,.int .u8 0,.int .u8 0,.int .u8 0,.int .u8 0,.int .u8 0,.int .u8 0,.int .u8 0,.int .u8 0,.int .u8 0,.int .u8 0,.int .u8 0,.int .u8 0,.int .u8 0,.int .u8 0,.int .u8 0,.int .u8 0,.int .u8 0,.int .u8 0,.int .u8 0,.int .u8 0,.int .u8 0,.int .u8 0,.int .u8 0,.int .u8 0,.int .u8 0,.int .u8 0,.int .u8 0,.int .u8 0,.int .u8 0,.int .u8 0,.int .u8 0,.int .i64 0,.int .i64 0,.int .i64 0],k:=5,fs:=[(0,28),(32,3),(33,3),(34,3)],cmp:=true,ck:=[0,0,0,0,0,0,0,0,0,0,0,0,0,0,0,0,0,0,0,0,0,0,0,0,0,0,0,0,0,0,0,0,0,0,0]}:=rfl
@[go_sem] theorem tb52:En.tb 52={n:=1,g:=false,by':=8,ok:=true,z:= .un,k:=6}:=rfl
@[go_sem] theorem tb53:En.tb 53={n:=1,g:=false,by':=8,ok:=true,z:= .un,k:=6}:=rfl
@[go_sem] theorem tb54:En.tb 54={n:=1,g:=false,by':=8,ok:=true,z:= .un,k:=6}:=rfl
@[go_sem] theorem tb55:En.tb 55={n:=1,g:=false,by':=8,ok:=true,z:= .un,k:=6}:=rfl
@[go_sem] theorem tb57:En.tb 57={n:=1,g:=false,by':=8,ok:=true,z:= .un,k:=6}:=rfl
@[go_sem] theorem sm:En.tb 59={n:=4,g:=true,by':=32,ok:=true,z:= .agg [.int .i64 0,.int .i64 0,.int .i64 0,.int .i64 0],k:=5,fs:=[(0,3),(1,3),(2,3),(3,3)],cmp:=true,ck:=[0,0,0,0]}:=rfl
@[go_sem] theorem sn:En.tb 61={n:=41,g:=true,by':=104,ok:=true,z:= .agg [.int .i64 0,.int .i64 0,.int .i64 0,.int .i64 0,.int .i64 0,.int .u8 0,.int .u8 0,.int .u8 0,.int .u8 0,.int .u8 0,.int .u8 0,.int .u8 0,.int .u8 0,.int .u8 0,.int .u8 0,.int .u8 0,.int .u8 0,.int .u8 0,.int .u8 0,.int .u8 0,.int .u8 0,.int .u8 0,.int .u8 0,.int .u8 0,.int .u8 0,.int .u8 0,.int .u8 0,.int .u8 0,.int .u8 0,.int .u8 0,.int .u8 0,.int .u8 0,.int .u8 0,.int .u8 0,.int .u8 0,.int .u8 0,.int .u8 0,.int .i64 0,.int .i64 0,.int .i64 0,.int .i64 0],k:=5,fs:=[(0,3),(1,3),(2,3),(3,3),(4,3),(5,28),(37,59)],cmp:=true,ck:=[0,0,0,0,0,0,0,0,0,0,0,0,0,0,0,0,0,0,0,0,0,0,0,0,0,0,0,0,0,0,0,0,0,0,0,0,0,0,0,0,0]}:=rfl
@[go_sem] theorem so:En.tb 63={n:=2,g:=true,by':=16,ok:=true,z:= .agg [.int .i64 0,.int .i64 0],k:=5,fs:=[(0,3),(1,3)],cmp:=true,ck:=[0,0]}:=rfl
@[go_sem] theorem sq:En.tb 65={n:=34,g:=true,by':=48,ok:=true,z:= .agg [.int .u8 0,.int .u8 0,.int .u8 0,.int .u8 0,.int .u8 0,.int .u8 0,.int .u8 0,.int .u8 0,.int .u8 0,.int .u8 0,.int .u8 0,.int .u8 0,.int .u8 0,.int .u8 0,.int .u8 0,.int .u8 0,.int .u8 0,.int .u8 0,.int .u8 0,.int .u8 0,.int .u8 0,.int .u8 0,.int .u8 0,.int .u8 0,.int .u8 0,.int .u8 0,.int .u8 0,.int .u8 0,.int .u8 0,.int .u8 0,.int .u8 0,.int .u8 0,.int .i64 0,.int .i64 0],k:=5,fs:=[(0,28),(32,3),(33,3)],cmp:=true,ck:=[0,0,0,0,0,0,0,0,0,0,0,0,0,0,0,0,0,0,0,0,0,0,0,0,0,0,0,0,0,0,0,0,0,0]}:=rfl
@[go_sem] theorem sr:En.tb 66={n:=1,g:=false,by':=24,ok:=true,z:= .sl (some true) 3 true [],k:=3,el:=150}:=rfl
@[go_sem] theorem ss:En.tb 67={n:=1,g:=false,by':=24,ok:=true,z:= .sl (some true) 32 true [],k:=3,el:=28}:=rfl
@[go_sem] theorem su:En.tb 69={n:=2,g:=true,by':=32,ok:=true,z:= .agg [.int .i64 0,.sl (some true) 32 true []],k:=5,fs:=[(0,3),(1,67)]}:=rfl
@[go_sem] theorem oU:En.tb 71={n:=80,g:=true,by':=224,ok:=true,z:= .agg [.int .i64 0,.int .i64 0,.int .i64 0,.int .i64 0,.int .i64 0,.int .u8 0,.int .u8 0,.int .u8 0,.int .u8 0,.int .u8 0,.int .u8 0,.int .u8 0,.int .u8 0,.int .u8 0,.int .u8 0,.int .u8 0,.int .u8 0,.int .u8 0,.int .u8 0,.int .u8 0,.int .u8 0,.int .u8 0,.int .u8 0,.int .u8 0,.int .u8 0,.int .u8 0,.int .u8 0,.int .u8 0,.int .u8 0,.int .u8 0,.int .u8 0,.int .u8 0,.int .u8 0,.int .u8 0,.int .u8 0,.int .u8 0,.int .u8 0,.int .i64 0,.int .i64 0,.int .i64 0,.int .i64 0,.int .i64 0,.int .i64 0,.int .u8 0,.int .u8 0,.int .u8 0,.int .u8 0,.int .u8 0,.int .u8 0,.int .u8 0,.int .u8 0,.int .u8 0,.int .u8 0,.int .u8 0,.int .u8 0,.int .u8 0,.int .u8 0,.int .u8 0,.int .u8 0,.int .u8 0,.int .u8 0,.int .u8 0,.int .u8 0,.int .u8 0,.int .u8 0,.int .u8 0,.int .u8 0,.int .u8 0,.int .u8 0,.int .u8 0,.int .u8 0,.int .u8 0,.int .u8 0,.int .u8 0,.int .u8 0,.int .i64 0,.int .i64 0,.sl (some true) 3 true [],.int .i64 0,.sl (some true) 32 true []],k:=5,fs:=[(0,61),(41,63),(43,65),(77,66),(78,69)]}:=rfl
@[go_sem] theorem oV:En.tb 73={n:=81,g:=true,by':=248,ok:=true,z:= .agg [.int .i64 0,.int .i64 0,.int .i64 0,.int .i64 0,.int .i64 0,.int .u8 0,.int .u8 0,.int .u8 0,.int .u8 0,.int .u8 0,.int .u8 0,.int .u8 0,.int .u8 0,.int .u8 0,.int .u8 0,.int .u8 0,.int .u8 0,.int .u8 0,.int .u8 0,.int .u8 0,.int .u8 0,.int .u8 0,.int .u8 0,.int .u8 0,.int .u8 0,.int .u8 0,.int .u8 0,.int .u8 0,.int .u8 0,.int .u8 0,.int .u8 0,.int .u8 0,.int .u8 0,.int .u8 0,.int .u8 0,.int .u8 0,.int .u8 0,.int .i64 0,.int .i64 0,.int .i64 0,.int .i64 0,.int .i64 0,.int .i64 0,.int .u8 0,.int .u8 0,.int .u8 0,.int .u8 0,.int .u8 0,.int .u8 0,.int .u8 0,.int .u8 0,.int .u8 0,.int .u8 0,.int .u8 0,.int .u8 0,.int .u8 0,.int .u8 0,.int .u8 0,.int .u8 0,.int .u8 0,.int .u8 0,.int .u8 0,.int .u8 0,.int .u8 0,.int .u8 0,.int .u8 0,.int .u8 0,.int .u8 0,.int .u8 0,.int .u8 0,.int .u8 0,.int .u8 0,.int .u8 0,.int .u8 0,.int .u8 0,.int .i64 0,.int .i64 0,.sl (some true) 3 true [],.int .i64 0,.sl (some true) 32 true [],.sl (some true) 80 true []],k:=5,fs:=[(0,71),(80,37)]}:=rfl
@[go_sem] theorem tb75:En.tb 75={n:=1,g:=false,by':=8,ok:=true,z:= .un,k:=6}:=rfl
@[go_sem] theorem tb76:En.tb 76={n:=1,g:=false,by':=8,ok:=true,z:= .un,k:=6}:=rfl
@[go_sem] theorem tb77:En.tb 77={n:=1,g:=false,by':=8,ok:=true,z:= .un,k:=6}:=rfl
@[go_sem] theorem tb79:En.tb 79={n:=1,g:=false,by':=8,ok:=true,z:= .un,k:=6}:=rfl
@[go_sem] theorem tb80:En.tb 80={n:=1,g:=false,by':=8,ok:=true,z:= .un,k:=6}:=rfl
@[go_sem] theorem tb81:En.tb 81={n:=1,g:=false,by':=8,ok:=true,z:= .un,k:=6}:=rfl
@[go_sem] theorem oW:En.tb 83={n:=3,g:=true,by':=24,ok:=true,z:= .agg [.int .i64 0,.int .i64 0,.int .i64 0],k:=5,fs:=[(0,3),(1,3),(2,3)],cmp:=true,ck:=[0,0,0]}:=rfl
@[go_sem] theorem tb85:En.tb 85={n:=1,g:=false,by':=8,ok:=true,z:= .un,k:=6}:=rfl
@[go_sem] theorem tb86:En.tb 86={n:=1,g:=false,by':=8,ok:=true,z:= .un,k:=6}:=rfl
@[go_sem] theorem tb87:En.tb 87={n:=1,g:=false,by':=8,ok:=true,z:= .un,k:=6}:=rfl
@[go_sem] theorem tb88:En.tb 88={n:=1,g:=false,by':=8,ok:=true,z:= .un,k:=6}:=rfl
@[go_sem] theorem tb89:En.tb 89={n:=1,g:=false,by':=8,ok:=true,z:= .un,k:=6}:=rfl
@[go_sem] theorem sv:En.tb 91={n:=3,g:=true,by':=56,ok:=true,z:= .agg [.sl (some true) 1 false [],.int .i64 0,.sl (some true) 1 false []],k:=5,fs:=[(0,34),(1,3),(2,34)]}:=rfl
@[go_sem] theorem oX:En.tb 93={n:=5,g:=true,by':=72,ok:=true,z:= .agg [.int .i64 0,.int .i64 0,.sl (some true) 1 false [],.int .i64 0,.sl (some true) 1 false []],k:=5,fs:=[(0,3),(1,3),(2,91)]}:=rfl
@[go_sem] theorem tb94:En.tb 94={n:=1,g:=false,by':=8,ok:=true,z:= .un,k:=6}:=rfl
@[go_sem] theorem tb95:En.tb 95={n:=1,g:=false,by':=8,ok:=true,z:= .un,k:=6}:=rfl
@[go_sem] theorem tb96:En.tb 96={n:=1,g:=false,by':=8,ok:=true,z:= .un,k:=6}:=rfl
@[go_sem] theorem tb97:En.tb 97={n:=1,g:=false,by':=8,ok:=true,z:= .un,k:=7,el:=100,len:=4}:=rfl
@[go_sem] theorem tb98:En.tb 98={n:=1,g:=false,by':=8,ok:=true,z:= .un,k:=6}:=rfl
@[go_sem] theorem tb100:En.tb 100={n:=2,g:=true,by':=16,ok:=true,z:= .agg [.int .i64 0,.int .i64 0],k:=5,fs:=[(0,3),(1,3)],cmp:=true,ck:=[0,0]}:=rfl
@[go_sem] theorem tb101:En.tb 101={n:=1,g:=false,by':=8,ok:=true,z:= .un,k:=6}:=rfl
@[go_sem] theorem tb102:En.tb 102={n:=1,g:=false,by':=8,ok:=true,z:= .un,k:=6}:=rfl
@[go_sem] theorem tb103:En.tb 103={n:=1,g:=false,by':=8,ok:=true,z:= .un,k:=6}:=rfl
@[go_sem] theorem tb104:En.tb 104={n:=1,g:=false,by':=8,ok:=true,z:= .un,k:=6}:=rfl
@[go_sem] theorem tb105:En.tb 105={n:=1,g:=false,by':=8,ok:=true,z:= .un,k:=6}:=rfl
@[go_sem] theorem tb106:En.tb 106={n:=1,g:=false,by':=8,ok:=true,z:= .un,k:=6}:=rfl
@[go_sem] theorem tb107:En.tb 107={n:=1,g:=false,by':=8,ok:=true,z:= .un,k:=6}:=rfl
@[go_sem] theorem tb108:En.tb 108={n:=1,g:=false,by':=8,ok:=true,z:= .un,k:=6}:=rfl
@[go_sem] theorem tb109:En.tb 109={n:=1,g:=false,by':=8,ok:=true,z:= .un,k:=6}:=rfl
@[go_sem] theorem tb110:En.tb 110={n:=1,g:=false,by':=8,ok:=true,z:= .un,k:=6}:=rfl
@[go_sem] theorem tb111:En.tb 111={n:=1,g:=false,by':=8,ok:=true,z:= .un,k:=6}:=rfl
@[go_sem] theorem tb112:En.tb 112={n:=1,g:=false,by':=8,ok:=true,z:= .un,k:=6}:=rfl
@[go_sem] theorem tb113:En.tb 113={n:=1,g:=false,by':=8,ok:=true,z:= .un,k:=6}:=rfl
@[go_sem] theorem tb114:En.tb 114={n:=1,g:=false,by':=24,ok:=true,z:= .sl (some true) 83 true [],k:=3,el:=117}:=rfl
@[go_sem] theorem tb115:En.tb 115={n:=1,g:=false,by':=8,ok:=true,z:= .un,k:=6}:=rfl
@[go_sem] theorem tb117:En.tb 117={n:=83,g:=true,by':=248,ok:=true,z:= .agg [.int .i64 0,.int .i64 0,.int .i64 0,.int .i64 0,.int .i64 0,.int .i64 0,.int .i64 0,.int .u8 0,.int .u8 0,.int .u8 0,.int .u8 0,.int .u8 0,.int .u8 0,.int .u8 0,.int .u8 0,.int .u8 0,.int .u8 0,.int .u8 0,.int .u8 0,.int .u8 0,.int .u8 0,.int .u8 0,.int .u8 0,.int .u8 0,.int .u8 0,.int .u8 0,.int .u8 0,.int .u8 0,.int .u8 0,.int .u8 0,.int .u8 0,.int .u8 0,.int .u8 0,.int .u8 0,.int .u8 0,.int .u8 0,.int .u8 0,.int .u8 0,.int .u8 0,.int .i64 0,.int .i64 0,.int .i64 0,.int .i64 0,.int .i64 0,.int .i64 0,.int .u8 0,.int .u8 0,.int .u8 0,.int .u8 0,.int .u8 0,.int .u8 0,.int .u8 0,.int .u8 0,.int .u8 0,.int .u8 0,.int .u8 0,.int .u8 0,.int .u8 0,.int .u8 0,.int .u8 0,.int .u8 0,.int .u8 0,.int .u8 0,.int .u8 0,.int .u8 0,.int .u8 0,.int .u8 0,.int .u8 0,.int .u8 0,.int .u8 0,.int .u8 0,.int .u8 0,.int .u8 0,.int .u8 0,.int .u8 0,.int .u8 0,.int .u8 0,.int .i64 0,.int .i64 0,.sl (some true) 3 true [],.int .i64 0,.sl (some true) 32 true [],.int .i64 0],k:=5,fs:=[(0,3),(1,3),(2,71),(82,3)]}:=rfl
@[go_sem] theorem tb118:En.tb 118={n:=1,g:=false,by':=8,ok:=true,z:= .un,k:=6}:=rfl
@[go_sem] theorem tb120:En.tb 120={n:=47,g:=true,by':=216,ok:=true,z:= .agg [.int .i64 0,.int .i64 0,.int .i64 0,.int .i64 0,.int .i64 0,.int .i64 0,.sl (some true) 11 true [],.int .i64 0,.int .u8 0,.int .u8 0,.int .u8 0,.int .u8 0,.int .u8 0,.int .u8 0,.int .u8 0,.int .u8 0,.int .u8 0,.int .u8 0,.int .u8 0,.int .u8 0,.int .u8 0,.int .u8 0,.int .u8 0,.int .u8 0,.int .u8 0,.int .u8 0,.int .u8 0,.int .u8 0,.int .u8 0,.int .u8 0,.int .u8 0,.int .u8 0,.int .u8 0,.int .u8 0,.int .u8 0,.int .u8 0,.int .u8 0,.int .u8 0,.int .u8 0,.int .u8 0,.int .i64 0,.int .i64 0,.int .i64 0,.int .i64 0,.sl (some true) 80 true [],.sl (some true) 81 true [],.sl (some true) 5 true []],k:=5,fs:=[(0,25),(6,26),(7,3),(8,50),(43,41)]}:=rfl
@[go_sem] theorem tb121:En.tb 121={n:=1,g:=false,by':=8,ok:=true,z:= .un,k:=6}:=rfl
@[go_sem] theorem tb122:En.tb 122={n:=1,g:=false,by':=8,ok:=true,z:= .un,k:=6}:=rfl
@[go_sem] theorem tb123:En.tb 123={n:=1,g:=false,by':=8,ok:=true,z:= .un,k:=6}:=rfl
@[go_sem] theorem tb124:En.tb 124={n:=1,g:=false,by':=24,ok:=true,z:= .sl (some true) 1 false [],k:=3,el:=121}:=rfl
@[go_sem] theorem tb125:En.tb 125={n:=1,g:=false,by':=8,ok:=true,z:= .un,k:=6}:=rfl
@[go_sem] theorem tb126:En.tb 126={n:=1,g:=false,by':=8,ok:=true,z:= .un,k:=6}:=rfl
@[go_sem] theorem tb127:En.tb 127={n:=1,g:=false,by':=8,ok:=true,z:= .un,k:=6}:=rfl
@[go_sem] theorem tb128:En.tb 128={n:=1,g:=false,by':=8,ok:=true,z:= .un,k:=6}:=rfl
@[go_sem] theorem tb129:En.tb 129={n:=1,g:=false,by':=8,ok:=true,z:= .un,k:=6}:=rfl
@[go_sem] theorem tb130:En.tb 130={n:=1,g:=false,by':=8,ok:=true,z:= .un,k:=6}:=rfl
@[go_sem] theorem tb132:En.tb 132={n:=1,g:=false,by':=8,ok:=true,z:= .un,k:=6}:=rfl
@[go_sem] theorem tb133:En.tb 133={n:=1,g:=false,by':=8,ok:=true,z:= .un,k:=6}:=rfl
@[go_sem] theorem tb134:En.tb 134={n:=1,g:=false,by':=8,ok:=true,z:= .un,k:=6}:=rfl
@[go_sem] theorem tb135:En.tb 135={n:=1,g:=false,by':=8,ok:=true,z:= .un,k:=6}:=rfl
@[go_sem] theorem tb136:En.tb 136={n:=1,g:=false,by':=8,ok:=true,z:= .un,k:=6}:=rfl
@[go_sem] theorem tb137:En.tb 137={n:=1,g:=false,by':=8,ok:=true,z:= .un,k:=6}:=rfl
@[go_sem] theorem tb138:En.tb 138={n:=1,g:=false,by':=8,ok:=true,z:= .un,k:=6}:=rfl
@[go_sem] theorem tb139:En.tb 139={n:=1,g:=false,by':=8,ok:=true,z:= .un,k:=6}:=rfl
@[go_sem] theorem tb140:En.tb 140={n:=1,g:=false,by':=8,ok:=true,z:= .un,k:=6}:=rfl
@[go_sem] theorem tb141:En.tb 141={n:=1,g:=false,by':=8,ok:=true,z:= .un,k:=6}:=rfl
@[go_sem] theorem tb142:En.tb 142={n:=1,g:=false,by':=8,ok:=true,z:= .un,k:=6}:=rfl
@[go_sem] theorem tb143:En.tb 143={n:=1,g:=false,by':=8,ok:=true,z:= .un,k:=6}:=rfl
@[go_sem] theorem tb144:En.tb 144={n:=1,g:=false,by':=8,ok:=true,z:= .un,k:=6}:=rfl
@[go_sem] theorem tb145:En.tb 145={n:=1,g:=false,by':=8,ok:=true,z:= .un,k:=6}:=rfl
@[go_sem] theorem tb147:En.tb 147={n:=1,g:=false,by':=8,ok:=true,z:= .un,k:=6}:=rfl
@[go_sem] theorem tb148:En.tb 148={n:=1,g:=false,by':=8,ok:=true,z:= .un,k:=6}:=rfl
@[go_sem] theorem oY:En.tb 150={n:=3,g:=true,by':=24,ok:=true,z:= .agg [.int .i64 0,.int .i64 0,.int .i64 0],k:=5,fs:=[(0,3),(1,3),(2,3)],cmp:=true,ck:=[0,0,0]}:=rfl
@[go_sem] theorem tb151:En.tb 151={n:=1,g:=false,by':=8,ok:=true,z:= .un,k:=6}:=rfl
@[go_sem] theorem sw:En.tb 153={n:=3,g:=true,by':=24,ok:=true,z:= .agg [.int .i64 0,.int .i64 0,.int .i64 0],k:=5,fs:=[(0,3),(1,3),(2,3)],cmp:=true,ck:=[0,0,0]}:=rfl
@[go_sem] theorem oZ:En.tb 155={n:=11,g:=true,by':=88,ok:=true,z:= .agg [.int .i64 0,.int .i64 0,.int .i64 0,.int .i64 0,.int .i64 0,.int .i64 0,.int .i64 0,.int .i64 0,.int .i64 0,.int .i64 0,.int .i64 0],k:=5,fs:=[(0,3),(1,3),(2,3),(3,3),(4,3),(5,153),(8,3),(9,3),(10,3)],cmp:=true,ck:=[0,0,0,0,0,0,0,0,0,0,0]}:=rfl
@[go_sem] theorem tb156:En.tb 156={n:=1,g:=false,by':=8,ok:=true,z:= .un,k:=6}:=rfl
@[go_sem] theorem tb157:En.tb 157={n:=1,g:=false,by':=8,ok:=true,z:= .un,k:=6}:=rfl
@[go_sem] theorem tb158:En.tb 158={n:=1,g:=false,by':=8,ok:=true,z:= .un,k:=6}:=rfl
@[go_sem] theorem tb159:En.tb 159={n:=1,g:=false,by':=24,ok:=true,z:= .sl (some true) 41 true [],k:=3,el:=61}:=rfl
@[go_sem] theorem tb160:En.tb 160={n:=1,g:=false,by':=8,ok:=true,z:= .un,k:=6}:=rfl
@[go_sem] theorem tb162:En.tb 162={n:=1,g:=false,by':=8,ok:=true,z:= .un,k:=6}:=rfl
@[go_sem] theorem tb163:En.tb 163={n:=1,g:=false,by':=8,ok:=true,z:= .un,k:=6}:=rfl
@[go_sem] theorem tb164:En.tb 164={n:=1,g:=false,by':=8,ok:=true,z:= .un,k:=6}:=rfl
@[go_sem] theorem tb165:En.tb 165={n:=1,g:=false,by':=8,ok:=true,z:= .un,k:=6}:=rfl
@[go_sem] theorem tb166:En.tb 166={n:=1,g:=false,by':=8,ok:=true,z:= .un,k:=6}:=rfl
@[go_sem] theorem tb167:En.tb 167={n:=1,g:=false,by':=8,ok:=true,z:= .un,k:=7,el:=168,len:=4}:=rfl
@[go_sem] theorem tb168:En.tb 168={n:=2,g:=true,by':=16,ok:=true,z:= .agg [.int .i64 0,.int .i64 0],k:=4,el:=3,len:=2,cmp:=true,ck:=[0,0]}:=rfl
@[go_sem] theorem tb170:En.tb 170={n:=1,g:=false,by':=8,ok:=true,z:= .un,k:=6}:=rfl
@[go_sem] theorem tb171:En.tb 171={n:=1,g:=false,by':=8,ok:=true,z:= .un,k:=6}:=rfl
@[go_sem] theorem tb172:En.tb 172={n:=1,g:=false,by':=8,ok:=true,z:= .un,k:=6}:=rfl
@[go_sem] theorem tb173:En.tb 173={n:=1,g:=false,by':=8,ok:=true,z:= .un,k:=6}:=rfl
@[go_sem] theorem tb174:En.tb 174={n:=1,g:=false,by':=8,ok:=true,z:= .int .u64 0,k:=0,ik:= .u64}:=rfl
@[go_sem] theorem tb175:En.tb 175={n:=1,g:=false,by':=8,ok:=true,z:= .un,k:=6}:=rfl
@[go_sem] theorem tb176:En.tb 176={n:=1,g:=false,by':=8,ok:=true,z:= .un,k:=6}:=rfl
@[go_sem] theorem tb177:En.tb 177={n:=1,g:=false,by':=8,ok:=true,z:= .un,k:=6}:=rfl
@[go_sem] theorem tb178:En.tb 178={n:=1,g:=false,by':=8,ok:=true,z:= .un,k:=6}:=rfl
@[go_sem] theorem tb179:En.tb 179={n:=1,g:=false,by':=8,ok:=true,z:= .un,k:=6}:=rfl
@[go_sem] theorem tb180:En.tb 180={n:=1,g:=false,by':=8,ok:=true,z:= .un,k:=6}:=rfl
@[go_sem] theorem tb181:En.tb 181={n:=1,g:=false,by':=8,ok:=true,z:= .un,k:=6}:=rfl
@[go_sem] theorem tb182:En.tb 182={n:=1,g:=false,by':=8,ok:=true,z:= .un,k:=6}:=rfl
@[go_sem] theorem tb184:En.tb 184={n:=2,g:=true,by':=16,ok:=true,z:= .agg [.int .i64 0,.int .i64 0],k:=5,fs:=[(0,3),(1,3)],cmp:=true,ck:=[0,0]}:=rfl
@[go_sem] theorem tb185:En.tb 185={n:=1,g:=false,by':=24,ok:=true,z:= .sl (some true) 2 true [],k:=3,el:=184}:=rfl
@[go_sem] theorem tb186:En.tb 186={n:=1,g:=false,by':=8,ok:=true,z:= .un,k:=6}:=rfl
@[go_sem] theorem tb187:En.tb 187={n:=1,g:=false,by':=8,ok:=true,z:= .un,k:=6}:=rfl
@[go_sem] theorem tb188:En.tb 188={n:=1,g:=false,by':=8,ok:=true,z:= .un,k:=6}:=rfl
@[go_sem] theorem tb189:En.tb 189={n:=1,g:=false,by':=8,ok:=true,z:= .un,k:=6}:=rfl
@[go_sem] theorem tb190:En.tb 190={n:=1,g:=false,by':=8,ok:=true,z:= .un,k:=6}:=rfl
@[go_sem] theorem tb191:En.tb 191={n:=1,g:=false,by':=8,ok:=true,z:= .un,k:=6}:=rfl
@[go_sem] theorem tb192:En.tb 192={n:=1,g:=false,by':=8,ok:=true,z:= .un,k:=6}:=rfl
@[go_sem] theorem tb193:En.tb 193={n:=1,g:=false,by':=8,ok:=true,z:= .un,k:=6}:=rfl
@[go_sem] theorem tb195:En.tb 195={n:=1,g:=false,by':=8,ok:=true,z:= .un,k:=6}:=rfl
@[go_sem] theorem tb197:En.tb 197={n:=1,g:=false,by':=8,ok:=true,z:= .un,k:=6}:=rfl
@[go_sem] theorem tb198:En.tb 198={n:=1,g:=false,by':=8,ok:=true,z:= .un,k:=6}:=rfl
@[go_sem] theorem tb199:En.tb 199={n:=1,g:=false,by':=8,ok:=true,z:= .un,k:=6}:=rfl
@[go_sem] theorem tb200:En.tb 200={n:=1,g:=false,by':=8,ok:=true,z:= .un,k:=6}:=rfl
@[go_sem] theorem tb201:En.tb 201={n:=1,g:=false,by':=8,ok:=true,z:= .un,k:=6}:=rfl
@[go_sem] theorem tb202:En.tb 202={n:=1,g:=false,by':=24,ok:=true,z:= .sl (some true) 1 false [],k:=3,el:=5}:=rfl
@[go_sem] theorem tb204:En.tb 204={n:=1,g:=false,by':=8,ok:=true,z:= .un,k:=6}:=rfl
@[go_sem] theorem tb205:En.tb 205={n:=1,g:=false,by':=8,ok:=true,z:= .un,k:=6}:=rfl
@[go_sem] theorem tb206:En.tb 206={n:=1,g:=false,by':=8,ok:=true,z:= .un,k:=6}:=rfl
@[go_sem] theorem tb207:En.tb 207={n:=1,g:=false,by':=24,ok:=true,z:= .sl (some true) 1 false [],k:=3,el:=34}:=rfl
@[go_sem] theorem tb209:En.tb 209={n:=2,g:=true,by':=48,ok:=true,z:= .agg [.sl (some true) 1 false [],.sl (some true) 1 false []],k:=5,fs:=[(0,34),(1,207)]}:=rfl
@[go_sem] theorem tb211:En.tb 211={n:=1,g:=false,by':=8,ok:=true,z:= .un,k:=6}:=rfl
@[go_sem] theorem tb212:En.tb 212={n:=1,g:=false,by':=8,ok:=true,z:= .un,k:=6}:=rfl
@[go_sem] theorem tb213:En.tb 213={n:=1,g:=false,by':=8,ok:=true,z:= .un,k:=6}:=rfl
@[go_sem] theorem tb214:En.tb 214={n:=1,g:=false,by':=8,ok:=true,z:= .un,k:=6}:=rfl
@[go_sem] theorem tb215:En.tb 215={n:=1,g:=false,by':=8,ok:=true,z:= .un,k:=6}:=rfl
@[go_sem] theorem tb216:En.tb 216={n:=1,g:=false,by':=8,ok:=true,z:= .un,k:=6}:=rfl
@[go_sem] theorem tb217:En.tb 217={n:=1,g:=false,by':=8,ok:=true,z:= .un,k:=6}:=rfl
@[go_sem] theorem tb218:En.tb 218={n:=1,g:=false,by':=8,ok:=true,z:= .un,k:=6}:=rfl
@[go_sem] theorem tb219:En.tb 219={n:=1,g:=false,by':=8,ok:=true,z:= .un,k:=6}:=rfl
@[go_sem] theorem tb220:En.tb 220={n:=1,g:=false,by':=24,ok:=true,z:= .sl (some true) 4 true [],k:=3,el:=222}:=rfl
@[go_sem] theorem tb222:En.tb 222={n:=4,g:=true,by':=64,ok:=true,z:= .agg [.int .i64 0,.int .i64 0,.sl (some true) 1 false [],.sl (some true) 4 true []],k:=5,fs:=[(0,3),(1,3),(2,202),(3,220)]}:=rfl
@[go_sem] theorem tb223:En.tb 223={n:=1,g:=false,by':=8,ok:=true,z:= .un,k:=6}:=rfl
@[go_sem] theorem tb224:En.tb 224={n:=1,g:=false,by':=8,ok:=true,z:= .un,k:=6}:=rfl
@[go_sem] theorem tb225:En.tb 225={n:=1,g:=false,by':=8,ok:=true,z:= .un,k:=6}:=rfl
@[go_sem] theorem tb226:En.tb 226={n:=1,g:=false,by':=8,ok:=true,z:= .un,k:=6}:=rfl
@[go_sem] theorem tb227:En.tb 227={n:=1,g:=false,by':=8,ok:=true,z:= .un,k:=6}:=rfl
@[go_sem] theorem tb228:En.tb 228={n:=1,g:=false,by':=8,ok:=true,z:= .un,k:=6}:=rfl
@[go_sem] theorem tb229:En.tb 229={n:=1,g:=false,by':=8,ok:=true,z:= .un,k:=6}:=rfl
@[go_sem] theorem tb230:En.tb 230={n:=1,g:=false,by':=8,ok:=true,z:= .un,k:=6}:=rfl
@[go_sem] theorem tb231:En.tb 231={n:=1,g:=false,by':=8,ok:=true,z:= .un,k:=6}:=rfl
@[go_sem] theorem tb232:En.tb 232={n:=1,g:=false,by':=8,ok:=true,z:= .un,k:=6}:=rfl
@[go_sem] theorem tb233:En.tb 233={n:=1,g:=false,by':=8,ok:=true,z:= .un,k:=6}:=rfl
@[go_sem] theorem tb234:En.tb 234={n:=1,g:=false,by':=8,ok:=true,z:= .un,k:=6}:=rfl
@[go_sem] theorem tb235:En.tb 235={n:=1,g:=false,by':=8,ok:=true,z:= .un,k:=6}:=rfl
@[go_sem] theorem tb236:En.tb 236={n:=1,g:=false,by':=8,ok:=true,z:= .un,k:=6}:=rfl
@[go_sem] theorem tb237:En.tb 237={n:=1,g:=false,by':=8,ok:=true,z:= .un,k:=6}:=rfl
@[go_sem] theorem tb238:En.tb 238={n:=1,g:=false,by':=8,ok:=true,z:= .un,k:=6}:=rfl
@[go_sem] theorem tb241:En.tb 241={n:=1,g:=false,by':=16,ok:=true,z:= .un,k:=8}:=rfl
@[go_sem] theorem tb242:En.tb 242={n:=1,g:=false,by':=16,ok:=true,z:= .un,k:=8}:=rfl
@[go_sem] theorem tb243:En.tb 243={n:=1,g:=false,by':=8,ok:=true,z:= .un,k:=6}:=rfl
@[go_sem] theorem tb244:En.tb 244={n:=1,g:=false,by':=8,ok:=true,z:= .un,k:=6}:=rfl
@[go_sem] theorem tb245:En.tb 245={n:=1,g:=false,by':=8,ok:=true,z:= .un,k:=6}:=rfl
@[go_sem] theorem tb246:En.tb 246={n:=1,g:=false,by':=8,ok:=true,z:= .un,k:=6}:=rfl
@[go_sem] theorem tb247:En.tb 247={n:=1,g:=false,by':=8,ok:=true,z:= .un,k:=6}:=rfl
@[go_sem] theorem tb248:En.tb 248={n:=1,g:=false,by':=8,ok:=true,z:= .un,k:=6}:=rfl
@[go_sem] theorem tb249:En.tb 249={n:=1,g:=false,by':=8,ok:=true,z:= .int .u64 0,k:=0,ik:= .u64}:=rfl
@[go_sem] theorem tb250:En.tb 250={n:=12,g:=true,by':=96,ok:=true,z:= .agg [.int .u64 0,.int .u64 0,.int .u64 0,.int .u64 0,.int .u64 0,.int .u64 0,.int .u64 0,.int .u64 0,.int .u64 0,.int .u64 0,.int .u64 0,.int .u64 0],k:=4,el:=249,len:=12,cmp:=true,ck:=[0,0,0,0,0,0,0,0,0,0,0,0]}:=rfl
@[go_sem] theorem tb251:En.tb 251={n:=1,g:=false,by':=8,ok:=true,z:= .un,k:=6}:=rfl
@[go_sem] theorem tb252:En.tb 252={n:=1,g:=false,by':=8,ok:=true,z:= .un,k:=6}:=rfl
@[go_sem] theorem tb253:En.tb 253={n:=1,g:=false,by':=8,ok:=true,z:= .un,k:=6}:=rfl
@[go_sem] theorem tb254:En.tb 254={n:=1,g:=false,by':=8,ok:=true,z:= .un,k:=6}:=rfl
@[go_sem] theorem tb255:En.tb 255={n:=1,g:=false,by':=8,ok:=true,z:= .un,k:=6}:=rfl
@[go_sem] theorem tb256:En.tb 256={n:=1,g:=false,by':=8,ok:=true,z:= .un,k:=6}:=rfl
@[go_sem] theorem tb257:En.tb 257={n:=1,g:=false,by':=8,ok:=true,z:= .un,k:=6}:=rfl
@[go_sem] theorem tb258:En.tb 258={n:=1,g:=false,by':=8,ok:=true,z:= .un,k:=6}:=rfl
@[go_sem] theorem tb259:En.tb 259={n:=1,g:=false,by':=8,ok:=true,z:= .un,k:=6}:=rfl
@[go_sem] theorem tb260:En.tb 260={n:=1,g:=false,by':=8,ok:=true,z:= .un,k:=6}:=rfl
@[go_sem] theorem tb261:En.tb 261={n:=1,g:=false,by':=8,ok:=true,z:= .un,k:=6}:=rfl
@[go_sem] theorem tb262:En.tb 262={n:=1,g:=false,by':=8,ok:=true,z:= .un,k:=6}:=rfl
@[go_sem] theorem tb263:En.tb 263={n:=1,g:=false,by':=8,ok:=true,z:= .un,k:=6}:=rfl
@[go_sem] theorem tb264:En.tb 264={n:=1,g:=false,by':=8,ok:=true,z:= .un,k:=6}:=rfl
@[go_sem] theorem tb265:En.tb 265={n:=1,g:=false,by':=24,ok:=true,z:= .sl (some true) 1 false [],k:=3,el:=67}:=rfl
@[go_sem] theorem tb272:En.tb 272={n:=1,g:=false,by':=4,ok:=true,z:= .int .u32 0,k:=0,ik:= .u32}:=rfl
@[go_sem] theorem tb273:En.tb 273={n:=8,g:=true,by':=32,ok:=true,z:= .agg [.int .u32 0,.int .u32 0,.int .u32 0,.int .u32 0,.int .u32 0,.int .u32 0,.int .u32 0,.int .u32 0],k:=4,el:=272,len:=8,cmp:=true,ck:=[0,0,0,0,0,0,0,0]}:=rfl
@[go_sem] theorem tb275:En.tb 275={n:=1,g:=false,by':=8,ok:=true,z:= .un,k:=6}:=rfl
@[go_sem] theorem tb281:En.tb 281={n:=33,g:=true,by':=40,ok:=true,z:= .agg [.int .u8 0,.int .u8 0,.int .u8 0,.int .u8 0,.int .u8 0,.int .u8 0,.int .u8 0,.int .u8 0,.int .u8 0,.int .u8 0,.int .u8 0,.int .u8 0,.int .u8 0,.int .u8 0,.int .u8 0,.int .u8 0,.int .u8 0,.int .u8 0,.int .u8 0,.int .u8 0,.int .u8 0,.int .u8 0,.int .u8 0,.int .u8 0,.int .u8 0,.int .u8 0,.int .u8 0,.int .u8 0,.int .u8 0,.int .u8 0,.int .u8 0,.int .u8 0,.int .i64 0],k:=5,fs:=[(0,28),(32,3)],cmp:=true,ck:=[0,0,0,0,0,0,0,0,0,0,0,0,0,0,0,0,0,0,0,0,0,0,0,0,0,0,0,0,0,0,0,0,0]}:=rfl
@[go_sem] theorem tb285:En.tb 285={n:=1,g:=false,by':=8,ok:=true,z:= .un,k:=6}:=rfl
@[go_sem] theorem tb288:En.tb 288={n:=64,g:=true,by':=64,ok:=true,z:= .agg [.int .u8 0,.int .u8 0,.int .u8 0,.int .u8 0,.int .u8 0,.int .u8 0,.int .u8 0,.int .u8 0,.int .u8 0,.int .u8 0,.int .u8 0,.int .u8 0,.int .u8 0,.int .u8 0,.int .u8 0,.int .u8 0,.int .u8 0,.int .u8 0,.int .u8 0,.int .u8 0,.int .u8 0,.int .u8 0,.int .u8 0,.int .u8 0,.int .u8 0,.int .u8 0,.int .u8 0,.int .u8 0,.int .u8 0,.int .u8 0,.int .u8 0,.int .u8 0,.int .u8 0,.int .u8 0,.int .u8 0,.int .u8 0,.int .u8 0,.int .u8 0,.int .u8 0,.int .u8 0,.int .u8 0,.int .u8 0,.int .u8 0,.int .u8 0,.int .u8 0,.int .u8 0,.int .u8 0,.int .u8 0,.int .u8 0,.int .u8 0,.int .u8 0,.int .u8 0,.int .u8 0,.int .u8 0,.int .u8 0,.int .u8 0,.int .u8 0,.int .u8 0,.int .u8 0,.int .u8 0,.int .u8 0,.int .u8 0,.int .u8 0,.int .u8 0],k:=4,el:=5,len:=64,cmp:=true,ck:=[0,0,0,0,0,0,0,0,0,0,0,0,0,0,0,0,0,0,0,0,0,0,0,0,0,0,0,0,0,0,0,0,0,0,0,0,0,0,0,0,0,0,0,0,0,0,0,0,0,0,0,0,0,0,0,0,0,0,0,0,0,0,0,0]}:=rfl
@[go_sem] theorem tb296:En.tb 296={n:=1,g:=false,by':=8,ok:=true,z:= .un,k:=6}:=rfl
@[go_sem] theorem tb298:En.tb 298={n:=1,g:=true,by':=24,ok:=true,z:= .agg [.sl (some true) 4 true []],k:=5,fs:=[(0,220)]}:=rfl
@[go_sem] theorem tb307:En.tb 307={n:=64,g:=true,by':=256,ok:=true,z:= .agg [.int .u32 0,.int .u32 0,.int .u32 0,.int .u32 0,.int .u32 0,.int .u32 0,.int .u32 0,.int .u32 0,.int .u32 0,.int .u32 0,.int .u32 0,.int .u32 0,.int .u32 0,.int .u32 0,.int .u32 0,.int .u32 0,.int .u32 0,.int .u32 0,.int .u32 0,.int .u32 0,.int .u32 0,.int .u32 0,.int .u32 0,.int .u32 0,.int .u32 0,.int .u32 0,.int .u32 0,.int .u32 0,.int .u32 0,.int .u32 0,.int .u32 0,.int .u32 0,.int .u32 0,.int .u32 0,.int .u32 0,.int .u32 0,.int .u32 0,.int .u32 0,.int .u32 0,.int .u32 0,.int .u32 0,.int .u32 0,.int .u32 0,.int .u32 0,.int .u32 0,.int .u32 0,.int .u32 0,.int .u32 0,.int .u32 0,.int .u32 0,.int .u32 0,.int .u32 0,.int .u32 0,.int .u32 0,.int .u32 0,.int .u32 0,.int .u32 0,.int .u32 0,.int .u32 0,.int .u32 0,.int .u32 0,.int .u32 0,.int .u32 0,.int .u32 0],k:=4,el:=272,len:=64,cmp:=true,ck:=[0,0,0,0,0,0,0,0,0,0,0,0,0,0,0,0,0,0,0,0,0,0,0,0,0,0,0,0,0,0,0,0,0,0,0,0,0,0,0,0,0,0,0,0,0,0,0,0,0,0,0,0,0,0,0,0,0,0,0,0,0,0,0,0]}:=rfl
@[go_sem] theorem tb310:En.tb 310={n:=1,g:=false,by':=8,ok:=true,z:= .un,k:=6}:=rfl
@[go_sem] theorem tb319:En.tb 319={n:=1,g:=false,by':=8,ok:=true,z:= .un,k:=6}:=rfl
@[go_sem] theorem tb323:En.tb 323={n:=1,g:=false,by':=24,ok:=true,z:= .sl (some true) 1 false [],k:=3,el:=202}:=rfl
@[go_sem] theorem tb328:En.tb 328={n:=1,g:=false,by':=8,ok:=true,z:= .un,k:=6}:=rfl
@[go_sem] theorem tb330:En.tb 330={n:=1,g:=false,by':=8,ok:=true,z:= .un,k:=6}:=rfl
@[go_sem] theorem tb340:En.tb 340={n:=1,g:=false,by':=8,ok:=true,z:= .un,k:=6}:=rfl
end Go.Proofs.YteibkofekpejgaaGreatDoor
namespace Go.Proofs.YteibkofekpejgaaGreatDoor
open Go.RowKit
section
variable {E:Env} {J:bV} {k:List Ct} {S S1 S2:St}
theorem b_.trans (h:b_ E S S1) (h':b_ E S1 S2):b_ E S S2:=by
 intro c0 c ρ F hs
 obtain ⟨c1,ρ1,e,h1⟩:=h c0 c ρ F hs
 obtain ⟨c2,ρ2,e2,h2⟩:=h' c0 c1 ρ1 F h1
 exact ⟨c2,ρ2,e2.trans e,h2⟩
theorem fU (t T:Nat) {n:Nat} {g:Bool} (h:ab S.F t=some (.sl (some true) n g [])) (hg:g=false→n=1):b_ E S ⟨(t,.own S.nx)::S.F,(S.nx,.own T n g (some true) [])::S.H,S.nx+1⟩:=by
 intro c0 c ρ F hs
 have hf:ρ S.nx=none:=hs.2 _ (Nat.le_refl _)
 have hrd:=hs.1.slot _ _ h
 have e:F t= .slice none 0 0:=by
  simp only [rd,zOk] at hrd
  obtain ⟨a,cap,e,_,⟨rfl,rfl⟩,_⟩:=hrd
  exact e
 have hro:gx ρ (fun i=>if i=S.nx then some (.slice none 0 0) else ρ i):=mA hf fun i hi=>by simp [hi]
 have hat:(fun i=>if i=S.nx then some (Value.slice none 0 0) else ρ i) S.nx=some (.slice none 0 0):=by simp
 have hoth: ∀i,i≠S.nx→(fun i=>if i=S.nx then some (Value.slice none 0 0) else ρ i) i=ρ i:=fun i hi=>by simp [hi]
 generalize (fun i=>if i=S.nx then some (Value.slice none 0 0) else ρ i)=ρ' at hro hat hoth
 refine ⟨c,ρ',rfl,⟨hs.1.since,hs.1.gl,?_,?_,?_⟩,?_⟩
 ·intro t' v ht
  simp only [ab] at ht
  split at ht
  ·rename_i e';subst e';cases ht
   simp only [rd]
   exact ⟨e▸hat,by rw [e];rfl⟩
  ·exact db hro (hs.1.slot t' v ht)
 ·intro i b hb
  simp only [ab] at hb
  split at hb
  ·rename_i e';subst e';cases hb
   refine ⟨_,hat,Own.nil,fun k hk=>by simp [blk] at hk,hg,none,0,rfl,rfl,rfl⟩
  ·exact lc hro (hs.1.heap i b hb)
 ·intro i j bi bj k hij hbi hbj hpi hpj hk hk'
  have hn:ak ρ' S.nx=none:=by simp [ak,hat,blk]
  have hi:i≠S.nx:=fun e'=>by rw [e',hn] at hk;cases hk
  have hj:j≠S.nx:=fun e'=>by rw [e',hn] at hk';cases hk'
  simp only [ab,Ne.symm hi,Ne.symm hj,if_false] at hbi hbj
  rw [cM (hoth i hi)] at hk
  rw [cM (hoth j hj)] at hk'
  exact hs.1.sep i j bi bj k hij hbi hbj hpi hpj hk hk'
 ·intro i hi
  have hi':S.nx+1≤i:=hi
  rw [hoth i (by omega)]
  exact hs.2 i (by omega)
theorem dP {a:Code} (I:Nat→St→Prop) (k0:Nat) (S1 S2:St) (hW:b_ E S S1) (hF:dN S1.F S2.nx S2.F) (hH:dO S1.H S2.nx S2.H) (h0:I k0 S2)
  (h: ∀n S',I n S'→aG E J (.code a:: .lp (fun S2=> ∃n',n'<n∧ ∃S3,b_ E S2 S3∧I n' S3)::k) .normal S'):aG E J (.code (.loop a)::k) .normal S:=
 ⟨I,k0,⟨S2,hW.trans (fS hF hH),h0⟩,h⟩
end
def ae {α R:Type}:Nat→((α→R)→α→R)→(α→R)→α→R
 | 0,_,d,a=>d a
 | n+1,f,d,a=>f (ae n f d) a
theorem aH {α R:Type} {n:Nat} {f:(α→R)→α→R} {d:α→R} {a:α} {r:R} (h:ae n f d a=r): ∃g e,g=f∧e=d∧ae n g e a=r:=⟨f,d,rfl,rfl,h⟩
theorem aI {α R:Type} {n:Nat} {f g:(α→R)→α→R} {d:α→R} {a:α} {r:R} (h:ae n f d a=r) (hn:0<n) (hf:f=g): ∃ag,ag=ae (n - 1) f d∧g ag a=r:=by
 subst hf
 cases n with
 | zero=>omega
 | succ m=>exact ⟨_,rfl,h⟩
theorem aD {α R:Type} {n:Nat} {f:(α→R)→α→R} {d ag:α→R} {a:α} {r:R} (h:ag a=r) (e:ag=ae n f d):ae n f d a=r:=e▸h
def ez {α β R:Type}:List β→((α→R)→β→α→R)→(α→R)→α→R
 | [],_,d,a=>d a
 | y::l,f,d,a=>f (ez l f d) y a
theorem Jy {α β R:Type} {ys:List β} {f:(α→R)→β→α→R} {d:α→R} {p:α} {n:Nat} {y:β} (h:ys[n]? =some y):ez (ys.drop n) f d p=f (ez (ys.drop (n+1)) f d) y p:=by
 obtain ⟨hn,rfl⟩:=List.getElem?_eq_some_iff.1 h
 rw [List.drop_eq_getElem_cons hn];rfl
theorem Jz {pre:List Nat} {i:Nat} (h:pre++[i]=List.range (pre.length+1)):pre=List.range pre.length∧i=pre.length:=by
 rw [List.range_succ] at h
 obtain ⟨h1,h2⟩:=List.append_inj' h rfl
 exact ⟨h1,by simpa using h2⟩
theorem JA {α β R:Type} {ys:List β} {f:(α→R)→β→α→R} {d:α→R} {a:α} {r:R} (h:ez ys f d a=r): ∃g e,g=f∧e=d∧ez ys g e a=r:=⟨f,d,rfl,rfl,h⟩
theorem JB {α β R:Type} {f g:(α→R)→β→α→R} {ag:α→R} {y:β} {a:α} {r:R} (h:f ag y a=r) (hf:f=g):g ag y a=r:=hf▸h
theorem JC {E:Env} {S S1:St} (hF:dN (dnF S.F) S1.nx S1.F) (hH:dO S.H S1.nx S1.H):b_ E (dnS S) S1:=fS (S:=dnS S) hF hH
theorem JD {E:Env} {J:bV} {k:List Ct} {e:Exit} {S S':St} (h:S=S') (hc:aG E J k e S'):aG E J k e S:=h▸hc
theorem JE {E:Env} {J:bV} {k:List Ct} {K:Exit→St→Prop} {e:Exit} {S:St} (h:K e S):aG E J (.fin K::k) e S:=by rw [wM];exact h
theorem JF {E:Env} {J:bV} {k:List Ct} {S:St} {α β R:Type} {g:Operand} {ps:Array Tmp} {as1 a:Code} {gf:FuncId} {caps:List V} {d p:Nat} (ys:List β) (enc:β→List V) (st:α→St) (fa:Nat→α→Prop) {f:(α→R)→β→α→R} {dd:α→R} {p0:α} {r:R}
  (hM:ez ys f dd p0=r) (hit:wy E gf caps (ys.map enc)) (hg:(st p0).ev E.gv g=some (.fn gf caps)) (hc:cW caps) (ha:asg as1=some (d,p)∧ps.toList.Nodup∧p∈ps.toList) (hl: ∀y,(enc y).length=ps.size)
  {S1:St} (hW:b_ E S S1) (hF:dN S1.F (st p0).nx (st p0).F) (hH:dO S1.H (st p0).nx (st p0).H) (h0:fa 0 p0) (hn: ∀n p,fa n p→(jM (st p).H&&rN (st p).F)=true)
  (hbody: ∀ag n y q r' (K:Exit→St→Prop),y∈ys→n<ys.length→fa n q→f ag y q=r'→(∀q' S,b_ E (dnS S) (st q')→fa (n+1) q'→ag q'=r'→K .normal S)→(∀S,jM S.H=true→(r'=r→aG E J k .ret (dnS S))→K .ret S)→
   aG E J [.code a,.fin K] .normal (rO d p ps.toList (enc y) (st q)))
  (hend: ∀q,fa ys.length q→dd q=r→aG E J k .normal (st q)):aG E J (.code (.rangeFunc g ps as1 a)::k) .normal S:=by
 refine ⟨gf,caps,ys.map enc,d,p,fun pre S'=> ∃q,S'=st q∧fa pre.length q∧(pre=List.range pre.length→ez (ys.drop pre.length) f dd q=r),st p0,hW.trans (fS hF hH),⟨p0,rfl,h0,fun _=>hM⟩,hg,hc,ha,hit,fun l hl'=> ?_,?_,?_,?_⟩
 ·obtain ⟨y,_,rfl⟩:=List.mem_map.1 hl';exact hl y
 ·rintro pre S' ⟨q,rfl,hq,_⟩;exact hn _ q hq
 ·rintro pre i l S' ⟨q,rfl,hq,hm⟩ hi hlt
  rw [List.getElem?_map,Option.map_eq_some_iff] at hi
  obtain ⟨y,hy,rfl⟩:=hi
  have hr:pre++[i]=List.range (pre.length+1)→f (ez (ys.drop (pre.length+1)) f dd) y q=r:=fun h=>by
   obtain ⟨h1,rfl⟩:=Jz h
   rw [←hm h1,Jy hy]
  refine hbody (ez (ys.drop (pre.length+1)) f dd) pre.length y q _ _ (List.mem_of_getElem? hy) (by simpa using hlt) hq rfl (fun q' S hw hf ha'=> ?_) (fun S h1 h2=> ?_)
  ·exact ⟨st q',hw,q',rfl,by simpa using hf,fun h=>by simp only [List.length_append,List.length_cons,List.length_nil,Nat.zero_add] at h⊢;exact ha'.trans (hr h)⟩
  ·exact ⟨h1,fun h=>h2 (hr h)⟩
 ·rintro S' ⟨q,rfl,hq,hm⟩
  refine hend q (by simpa using hq) ?_
  have:=hm (by simp)
  simpa [ez] using this
def mU {α R:Type} (j:α→R) (f:(α→R)→R):R:=f j
theorem wO {α R:Type} {j:α→R} {f:(α→R)→R} {r:R} (h:mU j f=r): ∃g,g=j∧f g=r:=⟨j,rfl,h⟩
theorem sx {α R:Type} {g j:α→R} {a:α} {r:R} (h:g a=r) (e:g=j):j a=r:=e▸h
theorem aJ {i:Int} (h0: -9223372036854775808≤i) (h:i+1≤9223372036854775807):al .i64 i 1=i+1:=by
 unfold al;rw [IntKind.wrap_i64];omega
theorem fV:LEN=1073741824:=rfl
theorem wP {d:Int}:Rng .i64 d=(-9223372036854775808≤d∧d≤9223372036854775807):=by simp [Rng,IntKind.min,IntKind.max,IntKind.bits,IntKind.signed]
theorem wQ {d:Int}:Rng .u64 d=(0≤d∧d≤18446744073709551615):=by simp [Rng,IntKind.min,IntKind.max,IntKind.bits,IntKind.signed]
theorem Cb {d:Int}:Rng .u8 d=(0≤d∧d≤255):=by simp [Rng,IntKind.min,IntKind.max,IntKind.bits,IntKind.signed]
theorem wR {d:Int}:Rng .u32 d=(0≤d∧d≤4294967295):=by simp [Rng,IntKind.min,IntKind.max,IntKind.bits,IntKind.signed]
theorem wS {d:Int}:Rng .i32 d=(-2147483648≤d∧d≤2147483647):=by simp [Rng,IntKind.min,IntKind.max,IntKind.bits,IntKind.signed]
theorem o7 {α:Type} {l:List α} {i j:Int}:(sl l i j).length=min (j.toNat - i.toNat) (l.length - i.toNat):=by simp [sl]
theorem mV {α:Type} {l:List α} {i:Int} {x:α}:(st l i x).length=l.length:=by simp [st]
theorem cE {α:Type} [Inhabited α] {l:List α} {f:α→V} {i:Int} (h:i.toNat<l.length) (d:V):elt (l.map f) i.toNat d=f (gt l i):=by
 simp [elt,gt,List.getD,h]
theorem lr {a b:Int} (h0: -9223372036854775808≤a+b) (h:a+b≤9223372036854775807):al .i64 a b=a+b:=by
 unfold al;rw [IntKind.wrap_i64];omega
theorem dv {a b:Int} (h0: -9223372036854775808≤a - b) (h:a - b≤9223372036854775807):aB .i64 a b=a - b:=by
 unfold aB;rw [IntKind.wrap_i64];omega
theorem i7 {α:Type} [Inhabited α] {a:α} {l:List α}:gt (a::l) 0=a:=rfl
theorem ja {α:Type} [Inhabited α] {a:α} {l:List α} {i:Int} (h:0<i):gt (a::l) i=gt l (i - 1):=by
 obtain ⟨n,rfl⟩: ∃n:Nat,i=((n+1:Nat):Int):=⟨(i - 1).toNat,by omega⟩
 simp [gt]
theorem wT {k:IntKind} {n:Nat} {b:Int}:cJ k ((n:Nat):Int) b=((n:Nat):Int)% b:=Int.tmod_eq_emod_of_nonneg (by omega)
@[go_sem] theorem JG: ∀{B:List Int},(B.map (V.int .u8)).map (fun d=>u8N (jF d))=B.map u8N
 | []=>rfl
 | x::B=>by rw [List.map_cons,List.map_cons,JG (B:=B)];rfl
def gG (a:List UInt8):List Int:=a.map fun b=>(b.toNat:Int)
theorem mW {a:List UInt8}:(gG a).length=a.length:=by simp [gG]
@[go_sem] theorem JH: ∀{a:List UInt8},a.map u8V=(gG a).map (V.int .u8)
 | []=>rfl
 | x::B=>by rw [List.map_cons,JH (a:=B)];rfl
def Cc {α:Type} [Inhabited α] (f:α→V) (l:List α):Nat→Int→List V
 | 0,_=> []
 | k+1,i=>f (gt l i)::Cc f l k (i+1)
def fW {α:Type} [Inhabited α] (l:List α):Nat→Int→List α
 | 0,_=> []
 | k+1,i=>gt l i::fW l k (i+1)
def bc {α:Type} [Inhabited α] (n:Nat) (l:List α):List α:=fW l n 0
theorem Cd {α:Type} [Inhabited α] {l:List α}: ∀{k:Nat} {i:Int},(fW l k i).length=k
 | 0,_=>rfl
 | k+1,i=>by simp [fW,Cd (k:=k)]
theorem dh {α:Type} [Inhabited α] {l:List α} {n:Nat}:(bc n l).length=n:=Cd
@[go_sem] theorem Pe {α β:Type} {l:List α} {f:α→β} {a b:β}:(l.map f++[a]).set l.length b=l.map f++[b]:=by
 rw [List.set_append_right _ _ (by simp)];simp
attribute [go_sem] Cc bc fW
end Go.Proofs.YteibkofekpejgaaGreatDoor
namespace Go.Proofs.YteibkofekpejgaaGreatDoor
open Go.RowKit
section
variable {E:Env} {J:bV} {k:List Ct} {S S1 S2:St} {c0 c:Cx} {ρ:Ro} {F:Fm}
theorem ls (i:Nat) {T n:Nat} {g:Bool} {z:Option Bool} {l:List V} (h:ab S.H i=some (.own T n g z l)):b_ E S ⟨S.F,cK S.H i (.pown n g z l),S.nx⟩:=by
 intro c0 c ρ F hs
 obtain ⟨v,hv,hown,hge,hone,a,cap,es,hz⟩:=hs.1.heap _ _ h
 have hpd:=c.pub_dropv v
 have hbo:ak ρ i=blk v:=by unfold ak;rw [hv,es]
 have hsep: ∀j b,i≠j→ab S.H j=some b→aQ b=true→ ∀x,ak ρ j=some x→blk v≠some x:=by
  intro j b hij hb hp x hx hx'
  exact hs.1.sep i j _ b x hij h hb rfl hp (hbo▸hx') hx
 refine ⟨c.dropv v,ρ,rfl,⟨hs.1.since.dropv hge,hs.1.gl.mono hpd,fun t x ht=>bl hpd (hs.1.slot t x ht),?_,?_⟩,hs.2⟩
 ·intro j b hb
  simp only [cC] at hb
  split at hb
  ·rename_i e;subst e;cases hb
   refine ⟨v,hv,?_⟩
   obtain ⟨a',cap',e1,h1,h2⟩:=fp.1 hown.val
   rw [es] at e1;cases e1
   exact dn.2 ⟨a,cap,es,h1,hz,h2⟩
  ·rename_i hij
   have hb0:=hs.1.heap _ _ hb
   have hsp:=hsep j b hij hb
   cases b with
   | var n' g' d=>
    obtain ⟨b',h1,h2,h3⟩:=hb0
    exact ⟨b',h1,h2,Cx.dropv_var h3 (hsp rfl b' (by simp [ak,h1]))⟩
   | own E' n' g' z' l'=>
    obtain ⟨v',h1,h2,h3,h4,a',cap',e',h5⟩:=hb0
    exact ⟨v',h1,Cx.dropv_own h2 (fun x hx=>hsp rfl x (by unfold ak;rw [h1,e'];rw [e'] at hx;exact hx)),h3,h4,a',cap',e',h5⟩
   | ownI E' n' g' z' l'=>
    obtain ⟨v',h1,h2,h3,h4,a',cap',e',h5⟩:=hb0
    exact ⟨v',h1,Cx.dropv_own h2 (fun x hx=>hsp rfl x (by unfold ak;rw [h1,e'];rw [e'] at hx;exact hx)),h3,h4,a',cap',e',h5⟩
   | pvar n' g' d=>
    obtain ⟨b',h1,h2⟩:=hb0
    exact ⟨b',h1,(jw _).mono h2 hpd⟩
   | pown n' g' z' l'=>
    obtain ⟨v',h1,h2⟩:=hb0
    exact ⟨v',h1,bl hpd h2⟩
   | lent k' n' g' d=>
    obtain ⟨h1,h2,h3⟩:=hb0
    exact ⟨h1,h2,Cx.dropv_var h3 (hsp rfl k' (by simp [ak,h1]))⟩
   | kset g' k' n' l'=>
    obtain ⟨r,h1,h2,h3⟩:=hb0
    exact ⟨r,h1,h2,Cx.dropv_set h3 (hsp rfl r (by simp [ak,h1,blk]))⟩
 ·intro a b ba bb x hab ha hb hpa hpb hx
  simp only [cC] at ha hb
  split at ha
  ·cases ha;cases hpa
  ·split at hb
   ·cases hb;cases hpb
   ·exact hs.1.sep a b ba bb x hab ha hb hpa hpb hx
theorem wU (t i:Nat) {n:Nat} {g:Bool} {z:Option Bool} {l:List V} (h:ab S.F t=some (.own i)) (h2:ab S.H i=some (.pown n g z l)):b_ E S ⟨(t,.sl z n g l)::S.F,S.H,S.nx⟩:=by
 intro c0 c ρ F hs
 refine ⟨c,ρ,rfl,⟨hs.1.since,hs.1.gl,fun t' v ht=> ?_,hs.1.heap,hs.1.sep⟩,hs.2⟩
 simp only [ab] at ht
 split at ht
 ·rename_i e;subst e;cases ht
  have h3:=hs.1.slot _ _ h
  obtain ⟨v,h4,h5⟩:=hs.1.heap _ _ h2
  simp only [rd] at h3
  rw [h3.1] at h4;cases h4
  simpa only [rd] using h5
 ·exact hs.1.slot _ _ ht
theorem ib (i:Nat) {n:Nat} {g:Bool} {d:V} (h:ab S.H i=some (.var n g d)) (hpu:dJ d):b_ E S ⟨S.F,cK S.H i (.pvar n g d),S.nx⟩:=by
 intro c0 c ρ F hs
 obtain ⟨b,hv,hge,hvar⟩:=hs.1.heap _ _ h
 have hbv:blk (.slice (some ⟨b,0,none⟩) 0 1)=some b:=rfl
 have hpd:=c.pub_dropv (.slice (some ⟨b,0,none⟩) 0 1)
 have hbo:ak ρ i=some b:=by unfold ak;rw [hv]
 have hsep: ∀j b',i≠j→ab S.H j=some b'→aQ b'=true→ ∀x,ak ρ j=some x→blk (.slice (some ⟨b,0,none⟩) 0 1)≠some x:=by
  intro j b' hij hb hp x hx hx'
  exact hs.1.sep i j _ b' x hij h hb rfl hp (hbo▸hx') hx
 refine ⟨c.dropv (.slice (some ⟨b,0,none⟩) 0 1),ρ,rfl,⟨hs.1.since.dropv (fun k hk=>by rw [hbv] at hk;cases hk;exact hge),hs.1.gl.mono hpd,fun t x ht=>bl hpd (hs.1.slot t x ht),?_,?_⟩,hs.2⟩
 ·intro j b' hb
  simp only [cC] at hb
  split at hb
  ·rename_i e;subst e;cases hb
   obtain ⟨h1,T,cs,h2,h3⟩:=hvar
   refine ⟨b,hv,b,0,cs.toList,rfl,c.ok b h1,?_,?_,?_⟩
   ·simp only [Cx.dropv,List.mem_filter,hbv];simp
   ·intro j u hj
    show (c.dropv _).w.cell? _=_
    simp only [Cx.dropv,World.cell?,h2]
    simpa using hj
   ·exact ⟨h3.1,bl hpd (mC hpu h3.2)⟩
  ·rename_i hij
   have hb0:=hs.1.heap _ _ hb
   have hsp:=hsep j b' hij hb
   cases b' with
   | var n' g' d=>
    obtain ⟨b',h1,h2,h3⟩:=hb0
    exact ⟨b',h1,h2,Cx.dropv_var h3 (hsp rfl b' (by simp [ak,h1]))⟩
   | own E' n' g' z' l'=>
    obtain ⟨v',h1,h2,h3,h4,a',cap',e',h5⟩:=hb0
    exact ⟨v',h1,Cx.dropv_own h2 (fun x hx=>hsp rfl x (by unfold ak;rw [h1,e'];rw [e'] at hx;exact hx)),h3,h4,a',cap',e',h5⟩
   | ownI E' n' g' z' l'=>
    obtain ⟨v',h1,h2,h3,h4,a',cap',e',h5⟩:=hb0
    exact ⟨v',h1,Cx.dropv_own h2 (fun x hx=>hsp rfl x (by unfold ak;rw [h1,e'];rw [e'] at hx;exact hx)),h3,h4,a',cap',e',h5⟩
   | pvar n' g' d=>
    obtain ⟨b',h1,h2⟩:=hb0
    exact ⟨b',h1,(jw _).mono h2 hpd⟩
   | pown n' g' z' l'=>
    obtain ⟨v',h1,h2⟩:=hb0
    exact ⟨v',h1,bl hpd h2⟩
   | lent k' n' g' d=>
    obtain ⟨h1,h2,h3⟩:=hb0
    exact ⟨h1,h2,Cx.dropv_var h3 (hsp rfl k' (by simp [ak,h1]))⟩
   | kset g' k' n' l'=>
    obtain ⟨r,h1,h2,h3⟩:=hb0
    exact ⟨r,h1,h2,Cx.dropv_set h3 (hsp rfl r (by simp [ak,h1,blk]))⟩
 ·intro a b1 ba bb x hab ha hb hpa hpb hx
  simp only [cC] at ha hb
  split at ha
  ·cases ha;cases hpa
  ·split at hb
   ·cases hb;cases hpb
   ·exact hs.1.sep a b1 ba bb x hab ha hb hpa hpb hx
def sy {α:Type} (f:α→V) (l:List α) (k:Int) (i:Nat):List V:=(l.map f).set k.toNat (.own i)
section
variable {α:Type} {f:α→V} {l:List α} {i:Nat} {q:Int}
theorem ct:(l.map f).set q.toNat (.own i)=sy f l q i:=rfl
theorem cu:(l.map f).set 0 (.own i)=sy f l 0 i:=rfl
theorem o8:(sy f l q i).length=l.length:=by simp [sy]
end
theorem mX {α:Type} {f:α→V} {l:List α} {i:Int} {x:α}:(st l i x).map f=(l.map f).set i.toNat (f x):=by simp [st,List.map_set]
theorem o9 {α:Type} {l m:List α} {i k:Nat}:(spl l i k m).length=min i l.length+min k m.length+(l.length - (i+k)):=by simp only [spl,List.length_append,List.length_take,List.length_drop]
theorem o_ {α:Type} {l:List α} {i j:Nat}:(kT l i j).length=min (j - i) (l.length - i):=by simp [kT]
theorem pb {a b:Int} (A B C:Int) (h1:0≤a) (h2:a≤A) (h3:0≤b) (h4:b≤B) (h5:A*B=C) (h6:C≤9223372036854775807):aS .i64 a b=a*b∧(0≤a*b∧a*b≤C):=by
 have e1:=Int.mul_nonneg h1 h3
 have e2:a*b≤A*B:=Int.mul_le_mul h2 h4 h3 (Int.le_trans h1 h2)
 rw [h5] at e2
 refine ⟨?_,e1,e2⟩
 unfold aS;rw [IntKind.wrap_i64];omega
theorem wV {a:Int} (h0: -9223372036854775808≤a) (h:a≤9223372036854775807):ah .i64 a=a:=by
 unfold ah;rw [IntKind.wrap_i64];omega
theorem lu {a:Int} (h0:0≤a) (h:a≤18446744073709551615):ah .u64 a=a:=by
 unfold ah;rw [IntKind.wrap_u64];omega
theorem fX {a b:Code} (h:aG E J (.code a:: .lp (lj E (aG E J (.code b::k) .normal))::k) .normal S):jQ E J true a b k S:= .inl h
theorem JI {b:Code} (S1:St) (hF:dN S.F S1.nx S1.F) (hH:dO S.H S1.nx S1.H) (h:aG E J (.code b::k) .normal S1):aG E J (.lp (lj E (aG E J (.code b::k) .normal))::k) .normal S:=⟨S1,fS hF hH,h⟩
theorem gH {b:Code} (S2 S1:St) (hW:b_ E S S2) (hF:dN S2.F S1.nx S1.F) (hH:dO S2.H S1.nx S1.H) (h:aG E J (.code b::k) .normal S1):aG E J (.lp (lj E (aG E J (.code b::k) .normal))::k) .normal S:=⟨S1,hW.trans (fS hF hH),h⟩
theorem JJ {I:Nat→St→Prop} {n:Nat} (n':Nat) (S2 S3:St) (hlt:n'<n) (hW:b_ E S S2) (hF:dN S2.F S3.nx S3.F) (hH:dO S2.H S3.nx S3.H) (hI:I n' S3):aG E J (.lp (fun S2=> ∃n',n'<n∧ ∃S3,b_ E S2 S3∧I n' S3)::k) .normal S:=
 ⟨n',hlt,S3,hW.trans (fS hF hH),hI⟩
theorem JK {n:Nat} {a b:V} (h:mt a b):mtL (List.replicate n a) (List.replicate n b):=by
 induction n with
 | zero=>trivial
 | succ n ih=>simp only [List.replicate_succ,mtL];exact ⟨h,ih⟩
def rep {α:Type} (n:Nat) (a:α):List α:=List.replicate n a
theorem ca {α:Type} {n:Nat} {a:α}:(rep n a).length=n:=by simp [rep]
theorem pc {n:Nat} {a b:V}:mtL (List.replicate n a) (List.replicate n b)=(n=0∨mt a b):=by
 refine propext ⟨fun h=> ?_,fun h=> ?_⟩
 ·cases n with
  | zero=>exact .inl rfl
  | succ n=>simp only [List.replicate_succ,mtL] at h;exact .inr h.1
 ·rcases h with rfl|h
  ·trivial
  ·exact JK h
theorem sA {α:Type} {n:Nat} {a:V} {f:α→V} {x:α}:mtL (List.replicate n a) ((rep n x).map f)=(n=0∨mt a (f x)):=by
 unfold rep;rw [List.map_replicate];exact pc
end
end Go.Proofs.YteibkofekpejgaaGreatDoor
