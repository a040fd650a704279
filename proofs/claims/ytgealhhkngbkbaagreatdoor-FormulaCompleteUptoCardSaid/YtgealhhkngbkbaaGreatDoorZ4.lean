/- Texts of this proof, one after the other: VW, VX, VY, K, VZ, VP, VO, VS. -/
import Derived.Test.YtgealhhkngbkbaaGreatDoorZ3
import Derived.Test.YtgealhhkngbkbaaGreatDoorProg
import Derived.KernelRfl
import Derived.Lib.LaidTab
import Derived.Lib.ItoaNum
set_option linter.unusedSimpArgs false
set_option linter.unusedVariables false
namespace Go.Proofs.YtgealhhkngbkbaaGreatDoor
open Go.RowKit
def cC (E:Env) (S S1:St):Prop:= ∀c0 c ρ F,bw E c0 c ρ S F→ ∃c1 ρ1,c1.w=c.w∧bw E c0 c1 ρ1 S1 F
abbrev cM:=List Nat
def iW:Code→Option Nat
 | .region id _ _=>some id
 | .seq a b=>match iW a with
  | some i=>some i
  | none=>iW b
 | .cond _ a b=>match iW a with
  | some i=>some i
  | none=>iW b
 | .block _ a=>iW a
 | .loop a=>iW a
 | _=>none
def l7 (J:cM) (b:Code):Bool:=match iW b with
 | some i=>bF J i
 | none=>false
def nq (E:Env) (M:St→Prop) (S:St):Prop:= ∃S1,cC E S S1∧M S1
def HH (E:Env) (ops:Array Oper):Bool→(St→Prop)→St→Prop
 | false,K,S=>ii E 0 [] ops.toList K S
 | true,K,S=> ∃n m wr wl need ub,(wlB ops m wl&&ky n m ops wr need&&((List.range m).all fun i=>(need.getD i []).all fun j=>decide (j<i)))=true∧ubB m need ub S.nx=true∧il E S wr wl need ub K m 0 ops.toList []
def nr (Q:Exit→St→Prop) (K:St→Prop):Exit→St→Prop
 | .normal,S=>K S
 | e,S=>Q e S
def wc (Q:Exit→St→Prop) (id:Nat):Exit→St→Prop
 | .exit j,S=>if j=id then Q .normal S else Q (.exit j) S
 | e,S=>Q e S
def pd (v:Option V) (A B:Prop):Prop:=match v with
 | some (.bool b)=>gE b true A B
 | _=>False
def rfK (E:Env) (ok:Prop) (Q:Exit→St→Prop) (N:St→Prop):Exit→St→Prop
 | .normal,S=> ∃S3,cC E (dnS S) S3∧N S3
 | .ret,S=>np S.H=true∧(ok→Q .ret (dnS S))
 | .exit id,S=>np S.H=true∧(ok→Q (.exit id) (dnS S))
 | _,_=>False
def ga:Code→Bool
 | .rangeFunc _ _ _ _=>false
 | .seq a b=>ga a&&ga b
 | .cond _ a b=>ga a&&ga b
 | .block _ a=>ga a
 | .loop a=>ga a
 | _=>true
def fa (n:Nat):Code→Bool
 | .region _ ops _=>gx n ops
 | .seq a b=>fa n a&&fa n b
 | .cond x a b=>inB n x&&(fa n a&&fa n b)
 | .block _ a=>fa n a
 | .loop a=>fa n a
 | .rangeFunc g ps as1 a=>(inB n g&&ps.toList.all (fun p=>decide (p<n))&&(match asg as1 with|some (d,_)=>decide (d<n)|none=>false)&&decide (n≤dY))&&(ga a&&fa n a)
 | _=>true
def AF (r:Option Nat) (hi:Nat→Value) (E:Env) (c0:Cx) (n:Nat) (Q:Exit→St→Prop) (e:Exit) (a:Act) (w:World):Prop:= ∃c ρ S F ds,c.w=w∧bw E c0 c ρ S F∧Fr (mo:=⟨ds,r,hi⟩) n F a∧eB c0.w.heap.size ds w∧Q e S
def AG (E:Env) (code:Code) (Q:Exit→St→Prop) (S:St):Prop:= ∀(n:Nat) (r:Option Nat) (hi:Nat→Value) (c0:Cx) (QC:Exit→Act→World→Prop),fa n code=true→((r=none∧hi=fun _=>undef)∨ga code=true)→(∀e a w,AF r hi E c0 n Q e a w→QC e a w)→
 ∀c ρ F a ds,bw E c0 c ρ S F→Fr (mo:=⟨ds,r,hi⟩) n F a→eB c0.w.heap.size ds c.w→code.wpIn {Fence.wide with round:=r} 1 E.P QC a c.w
def wpA (E:Env) (J:cM):Code→(Exit→St→Prop)→St→Prop
 | .skip,Q,S=>Q .normal S
 | .region id ops d,Q,S=>HH E ops d (Q .normal) S
 | .seq a b,Q,S=>match l7 J b with
  | false=>wpA E J a (nr Q (wpA E J b Q)) S
  | true=>wpA E J a (nr Q (nq E (wpA E J b Q))) S∨AG E (.seq a b) Q S
 | .cond x a b,Q,S=>pd (S.ev E.gv x) (wpA E J a Q S) (wpA E J b Q S)
 | .block id a,Q,S=>wpA E J a (wc Q id) S
 | .loop a,Q,S=> ∃(I:Nat→St→Prop) (k0:Nat),(∃S1,cC E S S1∧I k0 S1)∧ ∀k S',I k S'→wpA E J a (nr Q fun S2=> ∃k',k'<k∧ ∃S3,cC E S2 S3∧I k' S3) S'
 | .ret,Q,S=>Q .ret S
 | .exit id,Q,S=>Q (.exit id) S
 | .scope a,Q,S=>False
 | .rangeFunc g ps as1 a,Q,S=> ∃(gf:FuncId) (caps:List V) (xs:List (List V)) (d p:Nat) (I:List Nat→St→Prop) (S1:St),cC E S S1∧I [] S1∧S1.ev E.gv g=some (.fn gf caps)∧dU caps∧(asg as1=some (d,p)∧ps.toList.Nodup∧p∈ps.toList)∧Hz E gf caps xs∧(∀l∈xs,l.length=ps.size)∧
   (∀pre S',I pre S'→(np S'.H&&wa S'.F)=true)∧
   (∀(pre:List Nat) i l S',I pre S'→xs[i]? =some l→pre.length<xs.length→wpA E J a (rfK E (pre++[i]=List.range (pre.length+1)) Q (I (pre++[i]))) (wb d p ps.toList l S'))∧
   (∀S',I (List.range xs.length) S'→Q .normal S')
 | _,_,_=>False
section
variable {E:Env} {c0 c:Cx} {ρ:Ro} {S:St} {F:Fm}
theorem HI {r:Option Nat} {n d p:Nat} {ps:Array Tmp} {a:Act} {cx:Cx} {l:List V} {us:List Value} {hi:Nat→Value} (hx:bw E c0 cx ρ S F) (hf:a.tmps.size=n) (hsl: ∀t,t<n→a.tmps.getD t undef=F t) (hn:n≤dY) (hus:rdT ro0 cx l us) (hps: ∀q∈ps.toList,q<n) (hd:d<n) (hnd:ps.toList.Nodup) (hp:p∈ps.toList) (hl:l.length=ps.size) (hlo:wa S.F=true) (hFu: ∀t,n≤t→t<dY→F t=undef)
  (ehi:hi=fun t=>if dY≤t then F (t - dY) else undef):
  ∃Fb,bw E c0 cx ρ (wb d p ps.toList l S) Fb∧Fr (mo:=⟨[],r,hi⟩) n Fb ((⟨dL (ps.toList.zip us) a.tmps,[]⟩:Act).put (some d) ((dL (ps.toList.zip us) a.tmps).getD p undef)):=by
 subst ehi
 have hsz:(dL (ps.toList.zip us) a.tmps).size=n:=AC.trans hf
 have hlt: ∀q∈ps.toList,q<a.tmps.size:=fun q hq=>by rw [hf];exact hps q hq
 have hru:rdT ρ cx l us:=oR (fun i v h=>by cases h) hus
 have hl':l.length=ps.toList.length:=by simpa using hl
 refine ⟨fun t=>if t<n then ((dL (ps.toList.zip us) a.tmps).setIfInBounds d ((dL (ps.toList.zip us) a.tmps).getD p undef)).getD t undef else (if dY≤t then F (t - dY) else undef),⟨⟨hx.1.since,hx.1.gl,?_,hx.1.heap,hx.1.sep⟩,hx.2⟩, @Fr.mk ⟨[],r,_⟩ n _ _ (by simp [Act.put,hsz]) rfl (fun t ht=>by simp only [if_pos ht];rfl) (fun t ht=>by simp only [if_neg (Nat.not_lt.2 ht)])⟩
 intro t v ht
 have zipR: ∀{t:Nat} {v:V},ae (ps.toList.zip l) t=some v→t∈ps.toList∧rd ρ cx v ((dL (ps.toList.zip us) a.tmps).getD t undef):=fun h=>AD hru hnd hl' hlt h
 have getD_set: ∀{q:Nat},q≠d→((dL (ps.toList.zip us) a.tmps).setIfInBounds d ((dL (ps.toList.zip us) a.tmps).getD p undef)).getD q undef=(dL (ps.toList.zip us) a.tmps).getD q undef:=fun h=>by
  simp [Array.getD_eq_getD_getElem?,Ne.symm h]
 have zipS: ∀{ks:List Nat} {l:List V} {q:Nat},l.length=ks.length→q∈ks→ ∃v,ae (ks.zip l) q=some v:=by
  intro ks
  induction ks with
  | nil=>intro l q _ h;cases h
  | cons k ks ih=>
   intro l q h1 h2
   cases l with
   | nil=>simp at h1
   | cons x l=>
    simp only [List.zip_cons_cons,ae]
    split
    ·exact ⟨_,rfl⟩
    ·rename_i e
     rcases List.mem_cons.1 h2 with h|h
     ·exact absurd h.symm e
     ·exact ih (by simpa using h1) h
 obtain ⟨vp,hvp⟩:=zipS hl' hp
 simp only [wb,hvp,AB] at ht
 simp only [ae] at ht
 by_cases e:d=t
 ·subst e
  simp only [if_true] at ht
  cases ht
  rw [if_pos hd]
  have:=(zipR hvp).2
  simpa [Array.getD_eq_getD_getElem?,hsz,hd] using this
 ·simp only [e,if_false] at ht
  cases hz:ae (ps.toList.zip l) t with
  | some x=>
   simp only [hz] at ht
   cases ht
   obtain ⟨h1,h2⟩:=zipR hz
   rw [if_pos (hps t h1),getD_set (Ne.symm e)]
   exact h2
  | none=>
   simp only [hz] at ht
   cases hS:ae S.F t with
   | some x=>
    simp only [hS] at ht
    cases ht
    by_cases h1:t<n
    ·rw [if_pos h1,getD_set (Ne.symm e),v_,hsl t h1]
     ·exact hx.1.slot t v hS
     ·intro hm
      obtain ⟨q,hq,e2⟩:=List.mem_map.1 hm
      have h3:=(List.of_mem_zip hq).1
      rw [e2] at h3
      obtain ⟨y,hy⟩:=zipS hl' h3
      rw [hz] at hy;cases hy
    ·have h2:=HE hlo hS
     rw [if_neg h1,if_neg (by omega),←hFu t (by omega) h2]
     exact hx.1.slot t v hS
   | none=>
    simp only [hS] at ht
    obtain ⟨h1,h2⟩:=AA ht
    rw [if_neg (by omega),if_pos h1]
    exact hx.1.slot _ v h2
theorem AH (hE:bC E) (hmo:E.P.follows .mixedOrders=true) {n:Nat} {J:cM}: ∀(code:Code) (r:Option Nat) (hi:Nat→Value) (c0:Cx) (Q:Exit→St→Prop) (QC:Exit→Act→World→Prop),fa n code=true→((r=none∧hi=fun _=>undef)∨ga code=true)→(∀e a w,AF r hi E c0 n Q e a w→QC e a w)→
  ∀c ρ S F a ds,bw E c0 c ρ S F→Fr (mo:=⟨ds,r,hi⟩) n F a→eB c0.w.heap.size ds c.w→wpA E J code Q S→code.wpIn {Fence.wide with round:=r} 1 E.P QC a c.w:=by
 intro code
 induction code with
 | skip=>
  intro r hi c0 Q QC hs hr hQ c ρ S F a ds h hf hd hk
  exact wpIn_skip (hQ _ _ _ ⟨c,ρ,S,F,ds,rfl,h,hf,hd,hk⟩)
 | region id ops d=>
  intro r hi c0 Q QC hs hr hQ c ρ S F a ds h hf hd hk
  have hT:vQ (mo:=⟨ds,r,hi⟩) E (c.lend (dX ρ S.H)) n (Q .normal) (QC .normal):=fun c2 ρ2 S2 F2 a2 h2 hf2 hk2=>hQ _ _ _ ⟨c2,ρ2,S2,F2,ds,rfl,sa h h2.1.since h2,hf2,hd.since h h2.1.since,hk2⟩
  have hb:=Av h
  cases d with
  | false=>
   refine wpIn_region ?_
   have:=vR (mo:=⟨ds,r,hi⟩) (c0:=c.lend (dX ρ S.H)) hE hs hT ops.toList [] [] rfl (fun j t hj=>by simp [ae] at hj) (c.lend (dX ρ S.H)) ρ S F a hb hf hk
   rw [List.range_eq_range']
   rw [show ([]:List Oper).length=0 from rfl,show ops.toList.length=ops.size by simp] at this
   exact this
  | true=>
   obtain ⟨n',m,wr,wl,need,ub,hB,hU,hk⟩:=hk
   simp only [Bool.and_eq_true,List.all_eq_true,List.mem_range,decide_eq_true_eq] at hB
   exact Hx (mo:=⟨ds,r,hi⟩) (c0:=c.lend (dX ρ S.H)) (c:=c.lend (dX ρ S.H)) hB.1.1 hE hmo hs hB.1.2 hU hB.2 hT hb hf hk
 | seq x y ihx ihy=>
  intro r hi c0 Q QC hs hr hQ c ρ S F a ds h hf hd hk
  simp only [fa,Bool.and_eq_true] at hs
  simp only [ga,Bool.and_eq_true] at hr
  simp only [wpA] at hk
  split at hk
  ·refine wpIn_seq (ihx r hi c0 _ _ hs.1 (hr.imp id (·.1)) ?_ c ρ S F a ds h hf hd hk)
   clear hk
   rintro e a w ⟨c,ρ,S,F,ds,rfl,h,hf,hd,hk⟩
   cases e with
   | normal=>exact ihy r hi c0 Q QC hs.2 (hr.imp id (·.2)) hQ c ρ S F a ds h hf hd hk
   | _=>exact hQ _ _ _ ⟨c,ρ,S,F,ds,rfl,h,hf,hd,hk⟩
  ·rcases hk with hk|hk
   rotate_left
   ·exact hk n r hi c0 QC (by simp only [fa,Bool.and_eq_true];exact hs) (hr.imp id (fun h=>by simp only [ga,Bool.and_eq_true];exact h)) hQ c ρ F a ds h hf hd
   refine wpIn_seq (ihx r hi c0 _ _ hs.1 (hr.imp id (·.1)) ?_ c ρ S F a ds h hf hd hk)
   clear hk
   rintro e a w ⟨c,ρ,S,F,ds,rfl,h,hf,hd,hk⟩
   cases e with
   | normal=>
    obtain ⟨S1,hw,hM⟩:=hk
    obtain ⟨c1,ρ1,e1,h1⟩:=hw c0 c ρ F h
    have:=ihy r hi c0 Q QC hs.2 (hr.imp id (·.2)) hQ c1 ρ1 S1 F a ds h1 hf (by rw [e1];exact hd) hM
    rwa [e1] at this
   | _=>exact hQ _ _ _ ⟨c,ρ,S,F,ds,rfl,h,hf,hd,hk⟩
 | cond x a b iha ihb=>
  intro r hi c0 Q QC hs hr hQ c ρ S F act ds h hf hd hk
  simp only [fa,Bool.and_eq_true] at hs
  simp only [ga,Bool.and_eq_true] at hr
  simp only [wpA] at hk
  unfold pd at hk
  split at hk
  ·rename_i t ht
   have hv:=aR h.1 ht
   simp only [rd] at hv
   exact wpIn_cond_split (by rw [hf.eval (mo:=⟨ds,r,hi⟩) hs.1];exact hv) (fun e=>iha r hi c0 Q QC hs.2.1 (hr.imp id (·.1)) hQ c ρ S F act ds h hf hd (hk.1 e)) (fun e=>ihb r hi c0 Q QC hs.2.2 (hr.imp id (·.2)) hQ c ρ S F act ds h hf hd (hk.2 e))
  ·exact hk.elim
 | block id x ih=>
  intro r hi c0 Q QC hs hr hQ c ρ S F a ds h hf hd hk
  refine wpIn_block (ih r hi c0 _ _ hs hr ?_ c ρ S F a ds h hf hd hk)
  clear hk
  rintro e a w ⟨c,ρ,S,F,ds,rfl,h,hf,hd,hk⟩
  cases e with
  | exit j=>
   simp only [wc] at hk
   simp only [Exit.inBlock]
   split at hk
   ·rename_i e;subst e
    rw [if_pos rfl]
    exact hQ _ _ _ ⟨c,ρ,S,F,ds,rfl,h,hf,hd,hk⟩
   ·rename_i e
    rw [if_neg (by simpa using e)]
    exact hQ _ _ _ ⟨c,ρ,S,F,ds,rfl,h,hf,hd,hk⟩
  | _=>exact hQ _ _ _ ⟨c,ρ,S,F,ds,rfl,h,hf,hd,hk⟩
 | loop x ih=>
  intro r hi c0 Q QC hs hr hQ c ρ S F a ds h hf hd hk
  simp only [wpA] at hk
  obtain ⟨I,k0,⟨S1,hw,hI⟩,hround⟩:=hk
  obtain ⟨c1,ρ1,e1,h1⟩:=hw c0 c ρ F h
  refine FL (mo:=⟨[],r,hi⟩) (fun k a w=> ∃c ρ S F ds,c.w=w∧bw E c0 c ρ S F∧Fr (mo:=⟨ds,r,hi⟩) n F a∧eB c0.w.heap.size ds w∧I k S) k0 ⟨c1,ρ1,S1,F,ds,e1,h1,hf,hd,hI⟩ ?_
  rintro k a w ⟨c,ρ,S,F,ds,rfl,h,hf,hd,hI⟩
  refine ih r hi c0 _ _ hs hr ?_ c ρ S F a ds h hf hd (hround k S hI)
  rintro e a w ⟨c,ρ,S,F,ds,rfl,h,hf,hd,hk⟩
  cases e with
  | normal=>
   obtain ⟨k',hlt,S3,hw,hI⟩:=hk
   obtain ⟨c1,ρ1,e1,h1⟩:=hw c0 c ρ F h
   exact ⟨k',hlt,c1,ρ1,S3,F,ds,e1,h1,hf,hd,hI⟩
  | _=>exact hQ _ _ _ ⟨c,ρ,S,F,ds,rfl,h,hf,hd,hk⟩
 | ret=>
  intro r hi c0 Q QC hs hr hQ c ρ S F a ds h hf hd hk
  exact wpIn_ret (hQ _ _ _ ⟨c,ρ,S,F,ds,rfl,h,hf,hd,hk⟩)
 | exit id=>
  intro r hi c0 Q QC hs hr hQ c ρ S F a ds h hf hd hk
  exact wpIn_exit (hQ _ _ _ ⟨c,ρ,S,F,ds,rfl,h,hf,hd,hk⟩)
 | rangeFunc g ps as1 body _ ih=>
  intro r hi c0 Q QC hs hr hQ c ρ S F a ds h hf hd hk
  obtain ⟨rfl,rfl⟩:r=none∧hi=fun _=>undef:=by
   rcases hr with hr|hr
   ·exact hr
   ·simp [ga] at hr
  obtain ⟨gf,caps,xs,d,p,I,S1,hw,hI0,he,hpc,⟨ha,hnd,hpp⟩,hit,hxl,hnok,hround,hend⟩:=hk
  simp only [fa,ha,Bool.and_eq_true,decide_eq_true_eq,List.all_eq_true] at hs
  obtain ⟨⟨⟨⟨hgB,hpB⟩,hdB⟩,hnB⟩,hnr,hsb⟩:=hs
  obtain ⟨c1,ρ1,e1,h1⟩:=hw c0 c ρ F h
  rw [←e1] at hd⊢
  have hv:=aR h1.1 he
  simp only [rd] at hv
  obtain ⟨us,hfn,hus⟩:=hv
  obtain ⟨encs,hen,hseq⟩:=hit.2 c1 us h1.1.gl (l4 hpc hus)
  have hFu: ∀t,n≤t→t<dY→F t=undef:=fun t ht _=>hf.hg t ht
  have hdlt: ∀k,{target:= .collected k,args:= #[]}∈ds→k<c1.w.heap.size:=fun k hk=>(Array.getElem?_eq_some_iff.1 (hd.mem hk)).1
  have hlen: ∀i:Fin xs.length,(encs i.val).length=ps.size:=fun i=>by
   have h2:xs[i.val]? =some xs[i.val]:=List.getElem?_eq_getElem i.isLt
   exact (v8 (hen _ _ h2)).trans (hxl _ (List.getElem_mem _))
  have hgrow: ∀{cx:Cx} {ρx:Ro} {Sx:St} {B:World} {row:Option Nat},bw E c0 cx ρx Sx F→np Sx.H=true→eB c0.w.heap.size ds cx.w→cx.w.grownBy B row→(∀k,row=some k→c1.w.heap.size≤k∧ ∃o:Obj,cx.w.heap[k]? =some o∧o.isCells=false)→
    ∃c',c'.w=B∧cx.pub c'∧bw E c0 c' ρx Sx F∧eB c0.w.heap.size ds B:=by
   intro cx ρx Sx B row hx hn hdx hg hr
   obtain ⟨c',e,hp,h'⟩:=Ay hx hg (fun k hk=>⟨Nat.le_trans h1.1.since.size (hr k hk).1,(hr k hk).2⟩) (fun k hk i b hb hpv hbl=>by
    obtain ⟨_,o,g1,g2⟩:=(hr k hk)
    obtain ⟨_,o',g3,g4⟩:=r9 hpv (hx.1.heap i b hb) hbl
    rw [g1] at g3;cases g3
    rcases g4 with g4|⟨⟨g,k',m,l,e⟩,_⟩
    ·rw [g2] at g4;cases g4
    ·exact AE hn hb g k' m l e)
   refine ⟨c',e,hp,h',hdx.keep fun k hk ho=> ?_⟩
   refine (hg.block k (Array.getElem?_eq_some_iff.1 ho).1 fun e2=> ?_).trans ho
   have:=(hr k e2.symm).1
   have:=hdlt k hk
   omega
  refine HA (m:=3) rfl (wpIn_rangeFunc_ownG (α:=Fin xs.length) rfl (by omega) (gf:=gf) (lb:=us.toArray) (by rw [hf.eval (mo:=⟨ds,none,fun _=>undef⟩) hgB];exact hfn) trivial hit.1 (Kp:=v7 c1) hseq
   (fun {A B C} hA hB=>⟨Nat.le_trans hA.1 hB.1,fun k hk hx o ho hc=>hB.2 k hk hx o (hA.2 k hk hx o ho hc) hc⟩)
   (fun W l o o' hl ho hc _=>⟨by simp,fun k hk hx o2 ho2 hc2=>(World.putObj_heap_other (by omega)).trans ho2⟩) (Below.refl _ _) (fun i=>by simpa using hlen i)
   (fun pre W=> ∃cx ρx Sx,cx.w=W∧bw E c0 cx ρx Sx F∧c1.pub cx∧eB c0.w.heap.size ds W∧I (pre.map (·.val)) Sx)
   (fun cd pre W=> ∃cx ρx Sx,cx.w=W∧bw E c0 cx ρx Sx F∧eB c0.w.heap.size ds W∧np Sx.H=true∧((cd= .ret∧(pre.map (·.val)=List.range pre.length→Q .ret Sx))∨ ∃id,cd= .exit id∧(pre.map (·.val)=List.range pre.length→Q (.exit id) Sx)))
   ?_ ?_ ⟨c1,ρ1,S1,rfl,h1,Cx.pub.refl _,hd,hI0⟩
   (fun i=>(⟨dL (ps.toList.zip (encs i.val)) a.tmps,[]⟩:Act).put (some d) ((dL (ps.toList.zip (encs i.val)) a.tmps).getD p undef)) ?_ ?_ ?_ ?_)
  ·rintro pre A B row ⟨cx,ρx,Sx,rfl,hx,hp,hdx,hi⟩ hg hr
   obtain ⟨c',e,hp',h',hd'⟩:=hgrow hx (by have:=hnok _ _ hi;simp only [Bool.and_eq_true] at this;exact this.1) hdx hg hr
   exact ⟨c',ρx,Sx,e,h',hp.trans hp',hd',hi⟩
  ·rintro cd pre A B row ⟨cx,ρx,Sx,rfl,hx,hdx,hn,hi⟩ hg hr
   obtain ⟨c',e,_,h',hd'⟩:=hgrow hx hn hdx hg hr
   exact ⟨c',ρx,Sx,e,h',hd',hn,hi⟩
  ·intro l i W K hK
   refine HB ha (fun _=>trivial) ?_
   have e:(ps.zip (encs i.val).toArray).foldl (fun t (p,v)=>t.setIfInBounds p v) a.tmps=dL (ps.toList.zip (encs i.val)) a.tmps:=by
    rw [←Array.foldl_toList];simp [dL]
   simp only [e]
   exact hK
  ·rintro l pre i W ⟨cx,ρx,Sx,rfl,hx,hp,hdx,hi⟩ hlt
   have hn:=hnok _ _ hi
   simp only [Bool.and_eq_true] at hn
   have hl:xs[i.val]? =some xs[i.val]:=List.getElem?_eq_getElem i.isLt
   have hb:=Av hx
   obtain ⟨Fb,hbS,hbF⟩:=HI (r:=some l) (a:=a) hb hf.sz (fun t ht=>hf.sl t ht) hnB (fW (hp.trans (cx.pub_lend _)) (hen _ _ hl)) hpB hdB hnd hpp (hxl _ (List.getElem_mem _)) hn.2 hFu rfl
   refine ih (some l) _ (cx.lend (dX ρx Sx.H)) (rfK E (pre.map (·.val)++[i.val]=List.range ((pre.map (·.val)).length+1)) Q (I (pre.map (·.val)++[i.val]))) _ hsb (.inr hnr) ?_ (cx.lend (dX ρx Sx.H)) ρx _ Fb _ [] hbS hbF trivial (hround _ _ _ _ hi hl (by simpa using hlt))
   rintro e a2 w2 ⟨c2,ρ2,S2,F2,ds2,rfl,h2,hf2,_,hk2⟩
   have hs2:=h2.1.since
   have hKF:KeepsFrom c1.w.heap.size cx.w c2.w:=⟨hs2.size,fun k o _ ho hc=>Ax hx hs2 ho hc (.inr fun i b hb=>AE hn.1 hb)⟩
   have hKP:v7 c1 cx.w c2.w:=⟨hs2.size,fun k hk hX o ho hc=>((Aw hx hs2).keep k (Nat.lt_of_lt_of_le hk hp.size) (hp.keep k hk hX).1).2 o ho hc⟩
   have hdn:bw E (cx.lend (dX ρx Sx.H)) c2 ρ2 (dnS S2) F:=by
    refine ⟨⟨h2.1.since,h2.1.gl,fun t v ht=> ?_,h2.1.heap,h2.1.sep⟩,h2.2⟩
    simp only [dnS,Az] at ht
    have h3:=h2.1.slot _ v ht
    rw [hf2.hg (dY+t) (by omega)] at h3
    simpa using h3
   have hd2:=hdx.since hx hs2
   cases e with
   | normal=>
    obtain ⟨S3,hw3,hN⟩:=hk2
    obtain ⟨c3,ρ3,e3,h3⟩:=hw3 _ c2 ρ2 F hdn
    exact ⟨hKF,hKP,c3,ρ3,S3,e3,sa hx h3.1.since h3,hp.trans (Aw hx h3.1.since),hd2,by simpa using hN⟩
   | ret=>exact ⟨hKF,c2,ρ2,_,rfl,sa hx hdn.1.since hdn,hd2,hk2.1,.inl ⟨rfl,fun h=>hk2.2 (by simpa using h)⟩⟩
   | exit id=>exact ⟨hKF,c2,ρ2,_,rfl,sa hx hdn.1.since hdn,hd2,hk2.1,.inr ⟨id,rfl,fun h=>hk2.2 (by simpa using h)⟩⟩
   | _=>exact hk2.elim
  ·rintro D xs' W hD hS ⟨cx,ρx,Sx,rfl,hx,_,hdx,hi⟩ hK
   rw [hS] at hi
   refine hQ _ _ _ ⟨cx,ρx,Sx,F,{target:= .collected D,args:= #[]}::ds,rfl,hx, @Fr.mk ⟨_,none,_⟩ n F _ hf.sz (by simp [hf.df]) hf.sl hf.hg,⟨⟨D,rfl,Nat.le_trans h1.1.since.size hD,hK,?_⟩,hdx⟩,hend _ hi⟩
   rintro e he rfl
   have:=hdlt D he
   omega
  ·rintro D cd pre W hD hSp ⟨cx,ρx,Sx,rfl,hx,hdx,_,hi⟩ hK
   have hfin: ∀e,Q e Sx→QC e {a with defers:={target:= .collected D,args:= #[]}::a.defers} cx.w:=fun e hq=>by
    refine hQ _ _ _ ⟨cx,ρx,Sx,F,{target:= .collected D,args:= #[]}::ds,rfl,hx, @Fr.mk ⟨_,none,_⟩ n F _ hf.sz (by simp [hf.df]) hf.sl hf.hg,⟨⟨D,rfl,Nat.le_trans h1.1.since.size hD,hK,?_⟩,hdx⟩,hq⟩
    rintro e he rfl
    have:=hdlt D he
    omega
   rcases hi with ⟨rfl,hq⟩|⟨id,rfl,hq⟩
   ·exact wpIn_ret (hfin _ (hq hSp.1))
   ·exact wpIn_exit (hfin _ (hq hSp.1))
 | _=>
  intro r hi c0 Q QC hs hr hQ c ρ S F a ds h hf hd hk
  exact hk.elim
def sc (tb:TypeId→TI) (S:St):ResultVar→Option V
 | .tmp t=>ae S.F t
 | .cell t T=>match ae S.F t with
  | some (.ptr id 0)=>match ae S.H id with
   | some (.var n g d)=>if (tb T).ok=true∧(tb T).n=n∧(tb T).g=g then some d else none
   | some (.pvar n g d)=>if (tb T).ok=true∧(tb T).n=n∧(tb T).g=g then some d else none
   | _=>none
  | _=>none
def gG (tb:TypeId→TI) (S:St):List ResultVar→Option (List V)
 | []=>some []
 | x::l=>match sc tb S x,gG tb S l with
  | some v,some vs=>some (v::vs)
  | _,_=>none
def fL:List V→V
 | [v]=>v
 | vs=> .tup vs
def sd (E:Env) (S:St) (v:V) (r:V) (H:List Blk):Prop:=
 ∀c0 c ρ F u,c0.Y=[]→bw E c0 c ρ S F→rd ρ c v u→ ∃c1 ρ1,c1.w=c.w∧c0.le c1∧rd ρ1 c1 r u∧HOk c0 c1 ρ1 H
def se (E:Env) (rs:List ResultVar) (r:V) (H:List Blk):Exit→St→Prop
 | .ret,S=>match gG E.tb S rs with
  | some vs=>sd E S (fL vs) r H
  | none=>False
 | _,_=>False
theorem HJ (hE:bC E) (h:Sim E c0 c ρ S F) {x:ResultVar} {v:V} (hx:sc E.tb S x=some v): ∃u,ux E.P F c.w x u∧rd ρ c v u:=by
 cases x with
 | tmp t=>exact ⟨F t,rfl,h.slot t v hx⟩
 | cell t T=>
  simp only [sc] at hx
  split at hx
  ·rename_i id ht
   have hp:=h.slot _ _ ht
   simp only [rd] at hp
   obtain ⟨b,hb,he⟩:=hp
   split at hx
   ·rename_i n g d hH
    obtain ⟨⟨h1,rfl,rfl⟩,hx2⟩:=aZ hx
    cases hx2
    obtain ⟨b',e1,e2,hv⟩:=h.heap _ _ hH
    rw [hb] at e1;cases e1
    obtain ⟨u,hu,hu'⟩:=FV ((hE.t T h1).ty ρ) hv he
    exact ⟨u,hu,fZ hu'⟩
   ·rename_i n g d hH
    obtain ⟨⟨h1,rfl,rfl⟩,hx2⟩:=aZ hx
    cases hx2
    obtain ⟨b',e1,hv⟩:=h.heap _ _ hH
    rw [hb] at e1;cases e1
    obtain ⟨b2,o2,cs,e3,_,_,hc,hi⟩:=hv
    cases e3
    have hrun:=oL (P:=E.P) ((hE.t T h1).ty ro0) hi hc
    exact ⟨_,⟨_,he,hrun⟩,nh ⟨cs,hi,rfl⟩⟩
   ·cases hx
  ·cases hx
theorem AJ {mo:Mo} (hE:bC E) {n:Nat} {a:Act} (h:Sim E c0 c ρ S F) (hf: @Fr mo n F a) (h0:mo.hi=fun _=>undef): ∀{l:List ResultVar} {vs:List V},gG E.tb S l=some vs→ ∃us:List Value,us.length=l.length∧(l.mapM (lN a.tmps)).run E.P c.w= .ok us c.w∧rdT ρ c vs us
 | [],vs,hx=>by
  simp only [gG,Option.some.injEq] at hx
  subst hx
  exact ⟨[],rfl,by simp,rfl⟩
 | x::l,vs,hx=>by
  simp only [gG] at hx
  split at hx
  ·rename_i v vs' h1 h2
   cases hx
   obtain ⟨u,hu,hr⟩:=HJ hE h h1
   obtain ⟨us,hl,hrun,hrs⟩:=AJ hE h hf h0 h2
   refine ⟨u::us,by simp [hl],?_,?_⟩
   ·simp only [List.mapM_cons,Sem.run_bind,FX hf h0 hu,Result.andThen_ok,hrun,Sem.run_pure]
   ·simp only [rdT];exact ⟨u,us,rfl,hr,hrs⟩
  ·cases hx
theorem wd {mo:Mo} (hE:bC E) {n:Nat} {a:Act} {fn:Func} (h:Sim E c0 c ρ S F) (hf: @Fr mo n F a) (h0:mo.hi=fun _=>undef) {vs:List V} (hx:gG E.tb S fn.results.toList=some vs): ∃u,(results fn a.tmps).run E.P c.w= .ok u c.w∧rd ρ c (fL vs) u:=by
 obtain ⟨us,hl,hrun,hrs⟩:=AJ hE h hf h0 hx
 have hrun':(fn.results.mapM (lN a.tmps)).run E.P c.w= .ok us.toArray c.w:=by
  rw [Array.mapM_eq_mapM_toList]
  simp only [map_eq_pure_bind,Sem.run_bind,hrun,Result.andThen_ok,Sem.run_pure]
 refine ⟨if h:us.toArray.size=1 then us.toArray[0] else .tuple us.toArray,?_,?_⟩
 ·rw [FW]
  simp only [Sem.run_bind,hrun',Result.andThen_ok,Sem.run_pure]
 ·match vs,us,hrs with
  | [],us,hrs=>
   simp only [rdT] at hrs
   subst hrs
   simp only [fL,rd]
   exact ⟨[],rfl,rfl⟩
  | [v],us,hrs=>
   simp only [rdT] at hrs
   obtain ⟨u,c2,rfl,h1,rfl⟩:=hrs
   exact h1
  | v::v'::vs,us,hrs=>
   have hrs':=hrs
   simp only [rdT] at hrs'
   obtain ⟨u,c2,rfl,h1,u',c3,rfl,h2,h3⟩:=hrs'
   simp only [fL,rd]
   refine ⟨u::u'::c3,?_,hrs⟩
   simp
def iX:Nat→List V→List (Nat×V)
 | _,[]=> []
 | i,v::l=>(i,v)::iX (i+1) l
theorem we: ∀{l:List V} {i t:Nat},ae (iX i l) t=if i≤t then l[t - i]? else none
 | [],i,t=>by simp [iX,ae]
 | v::l,i,t=>by
  simp only [iX,ae,we]
  by_cases h:i=t
  ·subst h;simp
  ·rw [if_neg h]
   by_cases h1:i≤t
   ·rw [if_pos h1,if_pos (by omega)]
    have:t - i=(t - (i+1))+1:=by omega
    rw [this,List.getElem?_cons_succ]
   ·rw [if_neg h1,if_neg (by omega)]
theorem ci (hE:bC E) (hmo:E.P.follows .mixedOrders=true) {f:FuncId} {fn:Func} {code:Code} {ws:List V} {r:V} {H:List Blk} {n:Nat} (J:cM) (hf:E.P.funcs[f]? =some fn) (hb:fn.body=some code) (hnt:fn.ntmps=n)
  (hsl:(fa n code&&decide (ws.length≤n)&& !(fn.name== "runtime.NumGoroutine"))=true)
  (h:wfL ws→wpA E J code (se E fn.results.toList r H) ⟨iX 0 ws,[],0⟩):aI E f ws r H:=by
 simp only [Bool.and_eq_true,Bool.not_eq_true',decide_eq_true_eq] at hsl
 refine ⟨fun aas w=> ?_,fun c us hY hg hus=> ?_⟩
 ·have hn: ¬fn.name= "runtime.NumGoroutine" :=by simpa using hsl.2
  simp [callFunc,hf,hb,hn]
 have hlen:us.length=ws.length:=v8 hus
 have hall:=h (kG hus)
 refine (callsIn_wide (n:=1)).1 (callsIn_of_wp_marks hf hb trivial ?_ rfl)
 have hfr:Fr (mo:=yL) n (fun t=>(us.toArray++Array.replicate (n - us.toArray.size) undef).getD t undef) {tmps:=us.toArray++Array.replicate (fn.ntmps - us.toArray.size) undef,defers:=[]}:=by
  refine Fr.of ?_ rfl fun t=>by rw [hnt]
  simp [hnt];omega
 have hS:bw E c c ro0 ⟨iX 0 ws,[],0⟩ (fun t=>(us.toArray++Array.replicate (n - us.toArray.size) undef).getD t undef):=by
  refine ⟨⟨cB.refl c,hg,?_,fun i b hb=>by simp [ae] at hb,fun i j bi bj k hij hb=>by simp [ae] at hb⟩,fun i _=>rfl⟩
  intro t v ht
  rw [we] at ht
  simp only [Nat.zero_le,if_true,Nat.sub_zero] at ht
  obtain ⟨u,hu,hr⟩:=vz hus ht
  have hlt:t<us.length:=(List.getElem?_eq_some_iff.1 hu).1
  have:(us.toArray++Array.replicate (n - us.toArray.size) undef).getD t undef=u:=by
   have he:us[t]=u:=by simpa [List.getElem?_eq_getElem hlt] using hu
   simp [Array.getD_eq_getD_getElem?,Array.getElem?_append,hlt,he]
  rw [this];exact hr
 refine AH hE hmo code none _ c _ _ hsl.1.1 (.inl ⟨rfl,rfl⟩) ?_ c ro0 _ _ _ [] hS hfr trivial hall
 rintro e a w ⟨c',ρ',S',F',ds,rfl,hS,hf',hd,hk⟩
 cases e with
 | ret=>
  simp only [se] at hk
  split at hk
  ·rename_i vs hvs
   show LeavesInM _ _ _ _ _ _ a.defers .returning c'.w
   rw [hf'.df]
   refine sb hS hd fun c2 hS2=> ?_
   obtain ⟨u,hu,hr⟩:=wd hE hS2.1 hf' rfl hvs
   obtain ⟨c1,ρ1,e1,hle,hr1,hH⟩:=hk c c2 ρ' F' u hY hS2 hr
   exact ⟨u,hu,u,c1,ρ1,rfl,e1,hle,hr1,hH⟩
  ·exact hk.elim
 | _=>exact hk.elim
end
end Go.Proofs.YtgealhhkngbkbaaGreatDoor
namespace Go.Proofs.YtgealhhkngbkbaaGreatDoor
open Go.RowKit
def mtZ:Option Bool→Option Bool→Prop
 | _,none=>True
 | some a,some b=>a=b
 | none,some _=>False
def leV (a b:V):Prop:= ∀ρ c v,rd ρ c a v→rd ρ c b v
mutual
def mt:V→V→Prop
 | .int k n,.int k' n'=>k=k'∧n=n'
 | .bool a,.bool b=>a=b
 | .ifc a,.ifc b=>a=b
 | .str a,.str b=>a=b
 | .agg l,.agg m=>mtL l m
 | .sl z n g l,.sl z' n' g' m=>mtZ z z'∧((l=[]∧m=[])∨(n=n'∧g=g'∧mtL l m))
 | .pp n g d,.pp n' g' d'=>n=n'∧g=g'∧mt d d'
 | .own i,.own j=>i=j
 | .ptr i o,.ptr j p=>i=j∧o=p
 | .optr i m k o,.optr i' m' k' o'=>i=i'∧m=m'∧k=k'∧o=o'
 | .osub i m k o,.osub i' m' k' o'=>i=i'∧m=m'∧k=k'∧o=o'
 | .tup l,.tup m=>mtL l m
 | .fn f l,.fn f' m=>f=f'∧mtL l m
 | a,.opq p=>leV a (.opq p)
 | _,.un=>True
 | _,_=>False
def mtL:List V→List V→Prop
 | [],[]=>True
 | a::l,b::m=>mt a b∧mtL l m
 | _,_=>False
end
theorem kP {z z':Option Bool} {a:Option Addr} {cap:Nat} (h:mtZ z z') (k:zOk z a cap):zOk z' a cap:=by
 cases z' with
 | none=>exact qV k
 | some b=>
  cases z with
  | none=>exact h.elim
  | some b'=>
   have e:b'=b:=h
   subst e;exact k
theorem jP: ∀{l m:List V},mtL l m→l.length=m.length
 | [],[],_=>rfl
 | a::l,b::m,h=>by simp only [mtL] at h;simp [jP h.2]
 | [],_::_,h=>by simp [mtL] at h
 | _::_,[],h=>by simp [mtL] at h
mutual
theorem fb {ρ:Ro} {c:Cx}: ∀{a b:V} {v:Value},mt a b→rd ρ c a v→rd ρ c b v
 | .int k n,b,v,h,hr=>by
  cases b<;>simp only [mt] at h<;>try exact h.elim
  ·obtain ⟨rfl,rfl⟩:=h;exact hr
  ·exact h _ _ _ hr
  ·trivial
 | .bool a,b,v,h,hr=>by
  cases b<;>simp only [mt] at h<;>try exact h.elim
  ·subst h;exact hr
  ·exact h _ _ _ hr
  ·trivial
 | .ifc a,b,v,h,hr=>by
  cases b<;>simp only [mt] at h<;>try exact h.elim
  ·subst h;exact hr
  ·exact h _ _ _ hr
  ·trivial
 | .str a,b,v,h,hr=>by
  cases b<;>simp only [mt] at h<;>try exact h.elim
  ·subst h;exact hr
  ·exact h _ _ _ hr
  ·trivial
 | .agg l,b,v,h,hr=>by
  cases b<;>simp only [mt] at h<;>try exact h.elim
  ·simp only [rd] at hr⊢
   obtain ⟨cs,e,hr⟩:=hr
   exact ⟨cs,e,AK h hr⟩
  ·exact h _ _ _ hr
  ·trivial
 | .sl z n g l,b,v,h,hr=>by
  cases b<;>simp only [mt] at h<;>try exact h.elim
  ·rename_i z' n' g' m
   obtain ⟨hz,h⟩:=h
   simp only [rd] at hr⊢
   obtain ⟨a,cap,e,hl,hz',hr⟩:=hr
   rcases h with ⟨rfl,rfl⟩|⟨rfl,rfl,hm⟩
   ·exact ⟨a,cap,e,hl,kP hz hz',.inl rfl⟩
   ·have hlen:=jP hm
    rw [hlen] at hl e
    refine ⟨a,cap,e,hl,kP hz hz',?_⟩
    rcases hr with h|⟨b,o,cs,e,h1,h2,h3,h4⟩
    ·subst h
     exact .inl (List.eq_nil_of_length_eq_zero hlen.symm)
    ·exact .inr ⟨b,o,cs,e,h1,h2,h3,sf hm h4⟩
  ·exact h _ _ _ hr
  ·trivial
 | .pp n g d,b,v,h,hr=>by
  cases b<;>simp only [mt] at h<;>try exact h.elim
  ·obtain ⟨rfl,rfl,hm⟩:=h
   simp only [rd] at hr⊢
   obtain ⟨b,o,cs,e,h1,h2,h3,h4,h5⟩:=hr
   exact ⟨b,o,cs,e,h1,h2,h3,h4,fb hm h5⟩
  ·exact h _ _ _ hr
  ·trivial
 | .own i,b,v,h,hr=>by
  cases b<;>simp only [mt] at h<;>try exact h.elim
  ·subst h;exact hr
  ·exact h _ _ _ hr
  ·trivial
 | .ptr i o,b,v,h,hr=>by
  cases b<;>simp only [mt] at h<;>try exact h.elim
  ·obtain ⟨rfl,rfl⟩:=h;exact hr
  ·exact h _ _ _ hr
  ·trivial
 | .optr i m k o,b,v,h,hr=>by
  cases b<;>simp only [mt] at h<;>try exact h.elim
  ·obtain ⟨rfl,rfl,rfl,rfl⟩:=h;exact hr
  ·exact h _ _ _ hr
  ·trivial
 | .osub i m k o,b,v,h,hr=>by
  cases b<;>simp only [mt] at h<;>try exact h.elim
  ·obtain ⟨rfl,rfl,rfl,rfl⟩:=h;exact hr
  ·exact h _ _ _ hr
  ·trivial
 | .tup l,b,v,h,hr=>by
  cases b<;>simp only [mt] at h<;>try exact h.elim
  ·simp only [rd] at hr⊢
   obtain ⟨cs,e,hr⟩:=hr
   exact ⟨cs,e,iY h hr⟩
  ·exact h _ _ _ hr
  ·trivial
 | .fn f l,b,v,h,hr=>by
  cases b<;>simp only [mt] at h<;>try exact h.elim
  ·obtain ⟨rfl,h⟩:=h
   simp only [rd] at hr⊢
   obtain ⟨cs,e,hr⟩:=hr
   exact ⟨cs,e,iY h hr⟩
  ·exact h _ _ _ hr
  ·trivial
 | .opq p,b,v,h,hr=>by
  cases b<;>simp only [mt] at h<;>try exact h.elim
  ·exact h _ _ _ hr
  ·trivial
 | .un,b,v,h,hr=>by
  cases b<;>simp only [mt] at h<;>try exact h.elim
  ·exact h _ _ _ hr
  ·trivial
theorem AK {ρ:Ro} {c:Cx}: ∀{l m:List V} {cs:List Value},mtL l m→rdC ρ c l cs→rdC ρ c m cs
 | [],[],_,_,h=>h
 | a::l,b::m,cs,hm,h=>by
  simp only [rdC,mtL] at h hm⊢
  obtain ⟨u,c2,e,h1,h2,h3⟩:=h
  exact ⟨u,c2,e,h1,fb hm.1 h2,AK hm.2 h3⟩
 | [],_::_,_,hm,_=>by simp [mtL] at hm
 | _::_,[],_,hm,_=>by simp [mtL] at hm
theorem iY {ρ:Ro} {c:Cx}: ∀{l m:List V} {cs:List Value},mtL l m→rdT ρ c l cs→rdT ρ c m cs
 | [],[],_,_,h=>h
 | a::l,b::m,cs,hm,h=>by
  simp only [rdT,mtL] at h hm⊢
  obtain ⟨u,c2,e,h2,h3⟩:=h
  exact ⟨u,c2,e,fb hm.1 h2,iY hm.2 h3⟩
 | [],_::_,_,hm,_=>by simp [mtL] at hm
 | _::_,[],_,hm,_=>by simp [mtL] at hm
theorem sf {c:Cx} {n:Nat} {g:Bool}: ∀{l m:List V} {cs:List Value},mtL l m→rdE c n g l cs→rdE c n g m cs
 | [],[],_,_,h=>h
 | a::l,b::m,cs,hm,h=>by
  simp only [rdE,mtL] at h hm⊢
  obtain ⟨c1,c2,e,⟨h1,h2⟩,h3⟩:=h
  exact ⟨c1,c2,e,⟨h1,fb hm.1 h2⟩,sf hm.2 h3⟩
 | [],_::_,_,hm,_=>by simp [mtL] at hm
 | _::_,[],_,hm,_=>by simp [mtL] at hm
end
mutual
theorem wg: ∀(a:V),mt a a
 | .int _ _=>⟨rfl,rfl⟩
 | .bool _=>rfl
 | .ifc _=>rfl
 | .str _=>rfl
 | .agg l=>by simp only [mt];exact l8 l
 | .sl z n g l=>by
  simp only [mt]
  exact ⟨by rcases z with _|_<;>simp [mtZ],.inr ⟨trivial,trivial,l8 l⟩⟩
 | .pp n g d=>by simp only [mt];exact ⟨trivial,trivial,wg d⟩
 | .own _=>rfl
 | .ptr _ _=>⟨rfl,rfl⟩
 | .optr _ _ _ _=>⟨rfl,rfl,rfl,rfl⟩
 | .osub _ _ _ _=>⟨rfl,rfl,rfl,rfl⟩
 | .tup l=>by simp only [mt];exact l8 l
 | .fn f l=>by simp only [mt];exact ⟨trivial,l8 l⟩
 | .opq p=>by simp only [mt];exact fun _ _ _ h=>h
 | .un=>trivial
theorem l8: ∀(l:List V),mtL l l
 | []=>trivial
 | a::l=>by simp only [mtL];exact ⟨wg a,l8 l⟩
end
theorem nt {a:V}:mt a a=True:=eq_true (wg a)
theorem nu {l:List V}:mtL l l=True:=eq_true (l8 l)
theorem HM {a b a' b':List V} (h1:mtL a a') (h2:mtL b b'):mtL (a++b) (a'++b'):=by
 induction a generalizing a' with
 | nil=>cases a' with
  | nil=>exact h2
  | cons x l=>simp [mtL] at h1
 | cons y a ih=>cases a' with
  | nil=>simp [mtL] at h1
  | cons x l=>
   simp only [mtL] at h1
   simp only [List.cons_append,mtL]
   exact ⟨h1.1,ih h1.2⟩
theorem HN {a b b':List V} (h:mtL (a++b) (a++b')):mtL b b':=by
 induction a with
 | nil=>exact h
 | cons x a ih=>simp only [List.cons_append,mtL] at h;exact ih h.2
theorem HO {a b b':List V}:mtL (a++b) (a++b')=mtL b b':=propext ⟨HN,fun h=>HM (l8 a) h⟩
mutual
def ltV (n:Nat):V→Prop
 | .own i=>i<n
 | .ptr i _=>i<n
 | .optr i _ _ _=>i<n
 | .osub i _ _ _=>i<n
 | .agg l=>ltL n l
 | .tup l=>ltL n l
 | .fn _ l=>ltL n l
 | _=>True
def ltL (n:Nat):List V→Prop
 | []=>True
 | d::l=>ltV n d∧ltL n l
end
def mtO (v:V):Option V→Prop
 | some u=>mt u v
 | none=>False
def fM (F:List (Nat×V)) (n:Nat):List (Nat×V)→Prop
 | []=>True
 | (t,v)::l=>mtO v (ae F t)∧ltV n v∧fM F n l
def mtB (b:Blk):Option Blk→Prop
 | some a=>match a,b with
  | .var n g d,.var n' g' d'=>n=n'∧g=g'∧mt d d'
  | .own E n g z l,.own E' n' g' z' m=>E=E'∧n=n'∧g=g'∧mtZ z z'∧mtL l m
  | .ownI E n g z l,.ownI E' n' g' z' m=>E=E'∧n=n'∧g=g'∧mtZ z z'∧mtL l m
  | .pvar n g d,.pvar n' g' d'=>n=n'∧g=g'∧mt d d'
  | .pown n g z l,.pown n' g' z' m=>n=n'∧g=g'∧mtZ z z'∧mtL l m
  | .lent k n g d,.lent k' n' g' d'=>k=k'∧n=n'∧g=g'∧mt d d'
  | .kset g k n l,.kset g' k' n' l'=>g=g'∧k=k'∧n=n'∧l=l'
  | _,_=>False
 | none=>False
def ltB (n:Nat):Blk→Prop
 | .var _ _ d=>ltV n d
 | .lent _ _ _ d=>ltV n d
 | .ownI _ _ _ _ l=>ltL n l
 | _=>True
def fN (H:List (Nat×Blk)) (n:Nat):List (Nat×Blk)→Prop
 | []=>True
 | (i,b)::l=>mtB b (ae H i)∧i<n∧ltB n b∧fN H n l
section
variable {E:Env} {c0 c:Cx} {ρ:Ro} {S S1:St} {F:Fm}
def jQ (n:Nat) (ρ:Ro):Ro:=fun i=>if i<n then ρ i else none
theorem gc {n i:Nat} (h:i<n):jQ n ρ i=ρ i:=by simp [jQ,h]
mutual
theorem nv {n:Nat}: ∀{d:V} {v:Value},ltV n d→rd ρ c d v→rd (jQ n ρ) c d v
 | .int _ _,_,_,h=>h
 | .bool _,_,_,h=>h
 | .ifc _,_,_,h=>h
 | .str _,_,_,h=>h
 | .agg l,v,hp,h=>by
  simp only [rd,ltV] at h hp⊢
  obtain ⟨cs,e,h⟩:=h
  exact ⟨cs,e,AL hp h⟩
 | .sl z n g l,v,_,h=>h
 | .pp n g d,v,_,h=>h
 | .own i,_,hp,h=>by
  simp only [ltV] at hp
  exact ⟨(gc hp).trans h.1,h.2⟩
 | .ptr i o,_,hp,h=>by
  simp only [ltV,rd] at hp h⊢
  obtain ⟨b,h1,h2⟩:=h
  exact ⟨b,(gc hp).trans h1,h2⟩
 | .optr i m k o,_,hp,h=>by
  simp only [ltV,rd] at hp h⊢
  obtain ⟨b,h1,h2⟩:=h
  exact ⟨b,(gc hp).trans h1,h2⟩
 | .osub i m k o,_,hp,h=>by
  simp only [ltV,rd] at hp h⊢
  obtain ⟨b,h1,h2⟩:=h
  exact ⟨b,(gc hp).trans h1,h2⟩
 | .tup l,v,hp,h=>by
  simp only [rd,ltV] at h hp⊢
  obtain ⟨cs,e,h⟩:=h
  exact ⟨cs,e,wh hp h⟩
 | .fn f l,v,hp,h=>by
  simp only [rd,ltV] at h hp⊢
  obtain ⟨cs,e,h⟩:=h
  exact ⟨cs,e,wh hp h⟩
 | .opq p,v,_,h=>h
 | .un,_,_,_=>trivial
theorem AL {n:Nat}: ∀{l:List V} {cs:List Value},ltL n l→rdC ρ c l cs→rdC (jQ n ρ) c l cs
 | [],_,_,h=>h
 | d::l,cs,hp,h=>by
  simp only [rdC,ltL] at h hp⊢
  obtain ⟨u,c2,e,h1,h2,h3⟩:=h
  exact ⟨u,c2,e,h1,nv hp.1 h2,AL hp.2 h3⟩
theorem wh {n:Nat}: ∀{l:List V} {cs:List Value},ltL n l→rdT ρ c l cs→rdT (jQ n ρ) c l cs
 | [],_,_,h=>h
 | d::l,cs,hp,h=>by
  simp only [rdT,ltL] at h hp⊢
  obtain ⟨u,c2,e,h2,h3⟩:=h
  exact ⟨u,c2,e,nv hp.1 h2,wh hp.2 h3⟩
end
theorem AM {G:List (Nat×V)} {n:Nat}: ∀{l:List (Nat×V)},fM G n l→ ∀{t:Nat} {v:V},ae l t=some v→ ∃u,ae G t=some u∧mt u v∧ltV n v
 | [],_,t,v,h=>by simp [ae] at h
 | (k,x)::l,hs,t,v,h=>by
  simp only [fM] at hs
  simp only [ae] at h
  split at h
  ·rename_i e;subst e;cases h
   obtain ⟨h1,h2,_⟩:=hs
   unfold mtO at h1
   split at h1
   ·rename_i u hu;exact ⟨u,hu,h1,h2⟩
   ·exact h1.elim
  ·exact AM hs.2.2 h
theorem si {G:List (Nat×Blk)} {n:Nat}: ∀{l:List (Nat×Blk)},fN G n l→ ∀{i:Nat} {b:Blk},ae l i=some b→ ∃a,ae G i=some a∧mtB b (some a)∧i<n∧ltB n b
 | [],_,t,v,h=>by simp [ae] at h
 | (k,x)::l,hs,t,v,h=>by
  simp only [fN] at hs
  simp only [ae] at h
  split at h
  ·rename_i e;subst e;cases h
   obtain ⟨h1,h2,h3,_⟩:=hs
   cases hu:ae G k with
   | none=>rw [hu] at h1;exact h1.elim
   | some a=>rw [hu] at h1;exact ⟨a,rfl,h1,h2,h3⟩
  ·exact si hs.2.2.2 h
theorem AN {n k:Nat} {g:Bool}: ∀{l m:List V} {cs:List Value},mtL l m→ltL k m→bv (rV ρ n g) c cs l→bv (rV (jQ k ρ) n g) c cs m
 | [],[],cs,_,_,h=>h
 | a::l,b::m,cs,hm,hl,h=>by
  simp only [mtL,ltL,bv] at hm hl h⊢
  obtain ⟨c1,c2,e,⟨h1,h2⟩,h3⟩:=h
  exact ⟨c1,c2,e,⟨h1,nv hl.1 (fb hm.1 h2)⟩,AN hm.2 hl.2 h3⟩
 | [],_::_,_,hm,_,_=>by simp [mtL] at hm
 | _::_,[],_,hm,_,_=>by simp [mtL] at hm
theorem wi {n:Nat} {g:Bool} {l m:List V} {cs:List Value} (h:mtL l m) (ha:bv (rV ro0 n g) c cs l):bv (rV ro0 n g) c cs m:=fX.1 (sf h (fX.2 ha))
theorem wj {n i:Nat} {a b:Blk} (h:mtB b (some a)) (hi:i<n) (hl:ltB n b) (hb:blkOk c0 c ρ i a):blkOk c0 c (jQ n ρ) i b∧aY b=aY a:=by
 cases a<;>cases b<;>simp only [mtB] at h<;>try exact h.elim
 ·obtain ⟨rfl,rfl,hm⟩:=h
  obtain ⟨b,h1,h2,h3,T,cs,h4,h5,h6⟩:=hb
  exact ⟨⟨b,(gc hi).trans h1,h2,h3,T,cs,h4,h5,nv hl (fb hm h6)⟩,rfl⟩
 ·obtain ⟨rfl,rfl,rfl,hz,hm⟩:=h
  obtain ⟨v,h1,h2,h3,h4,a,cap,e,h5⟩:=hb
  have hlen:=jP hm
  refine ⟨⟨v,(gc hi).trans h1,⟨hlen▸h2.1,?_⟩,h3,h4,a,cap,hlen▸e,kP hz h5⟩,rfl⟩
  rcases h2.2 with ⟨a',e9,rfl⟩|⟨g',cp,cur,e,k1,k2,k3,k4,k5,k6⟩
  ·exact .inl ⟨a',e9,List.eq_nil_of_length_eq_zero hlen.symm⟩
  ·rw [hlen] at e k3 k6
   exact .inr ⟨g',cp,cur,e,k1,k2,k3,k4,k5,wi hm k6⟩
 ·obtain ⟨rfl,rfl,rfl,hz,hm⟩:=h
  obtain ⟨v,h1,h2,h3,h4,a,cap,e,h5⟩:=hb
  have hlen:=jP hm
  simp only [ltB] at hl
  refine ⟨⟨v,(gc hi).trans h1,⟨hlen▸h2.1,?_⟩,h3,h4,a,cap,hlen▸e,kP hz h5⟩,rfl⟩
  rcases h2.2 with ⟨a',e9,rfl⟩|⟨g',cp,cur,e,k1,k2,k3,k4,k5,k6⟩
  ·exact .inl ⟨a',e9,List.eq_nil_of_length_eq_zero hlen.symm⟩
  ·rw [hlen] at e k3 k6
   exact .inr ⟨g',cp,cur,e,k1,k2,k3,k4,k5,AN hm hl k6⟩
 ·obtain ⟨rfl,rfl,hm⟩:=h
  obtain ⟨b,h1,b',o,cs,e,h2,h3,h4,h5,h6⟩:=hb
  exact ⟨⟨b,(gc hi).trans h1,b',o,cs,e,h2,h3,h4,h5,fb hm h6⟩,rfl⟩
 ·obtain ⟨rfl,rfl,hz,hm⟩:=h
  obtain ⟨v,h1,h2⟩:=hb
  refine ⟨⟨v,(gc hi).trans h1,fb ?_ h2⟩,rfl⟩
  simp only [mt]
  exact ⟨hz,.inr ⟨trivial,trivial,hm⟩⟩
 ·obtain ⟨rfl,rfl,rfl,hm⟩:=h
  obtain ⟨h1,h2,h3,T,cs,h4,h5,h6⟩:=hb
  exact ⟨⟨(gc hi).trans h1,h2,h3,T,cs,h4,h5,nv hl (fb hm h6)⟩,rfl⟩
 ·obtain ⟨rfl,rfl,rfl,rfl⟩:=h
  obtain ⟨r,h1,h2⟩:=hb
  exact ⟨⟨r,(gc hi).trans h1,h2⟩,rfl⟩
theorem nw (h1:fM S.F S1.nx S1.F) (h2:fN S.H S1.nx S1.H):cC E S S1:=by
 intro c0 c ρ F h
 refine ⟨c,jQ S1.nx ρ,rfl,⟨h.1.since,h.1.gl,?_,?_,?_⟩,fun i hi=>by simp [jQ,Nat.not_lt.2 hi]⟩
 ·intro t v ht
  obtain ⟨u,hu,hm,hl⟩:=AM h1 ht
  exact nv hl (fb hm (h.1.slot t u hu))
 ·intro i b hb
  obtain ⟨a,ha,hm,hi,hl⟩:=si h2 hb
  exact (wj hm hi hl (h.1.heap i a ha)).1
 ·intro i j bi bj k hij hbi hbj hpi hpj hk hk'
  obtain ⟨ai,hai,hmi,hi,hli⟩:=si h2 hbi
  obtain ⟨aj,haj,hmj,hj,hlj⟩:=si h2 hbj
  have e1:=(wj hmi hi hli (h.1.heap i ai hai)).2
  have e2:=(wj hmj hj hlj (h.1.heap j aj haj)).2
  rw [cZ (gc hi)] at hk
  rw [cZ (gc hj)] at hk'
  exact h.1.sep i j ai aj k hij hai haj (e1▸hpi) (e2▸hpj) hk hk'
def iZ:Option Blk→V
 | some (.own _ n g z l)=> .sl z n g l
 | some (.pown n g z l)=> .sl z n g l
 | _=> .un
mutual
def jR (H:List (Nat×Blk)):V→V
 | .own i=>iZ (ae H i)
 | .ptr _ _=> .un
 | .optr _ _ _ _=> .un
 | .osub _ _ _ _=> .un
 | .agg l=> .agg (i6 H l)
 | .tup l=> .tup (i6 H l)
 | .fn f l=> .fn f (i6 H l)
 | v=>v
def i6 (H:List (Nat×Blk)):List V→List V
 | []=> []
 | d::l=>jR H d::i6 H l
end
def ny (H:List (Nat×Blk)) (off:Nat):Option Blk→V
 | some (.var n g d)=>if off=0 then .pp n g (jR H d) else .un
 | some (.lent _ n g d)=>if off=0 then .pp n g (jR H d) else .un
 | some (.pvar n g d)=>if off=0 then .pp n g d else .un
 | _=> .un
mutual
def gH (H:List (Nat×Blk)):V→V
 | .own i=>iZ (ae H i)
 | .ptr i o=>ny H o (ae H i)
 | .optr _ _ _ _=> .un
 | .osub _ _ _ _=> .un
 | .agg l=> .agg (i6 H l)
 | .tup l=> .tup (jS H l)
 | .fn f l=> .fn f (jS H l)
 | v=>v
def jS (H:List (Nat×Blk)):List V→List V
 | []=> []
 | d::l=>gH H d::jS H l
end
theorem wk (h:Sim E c0 c ρ S F) {k:Nat} (hk:c0.mine k):k∉(c0.base c h.since.size).X:=fun hm=>by
 obtain ⟨h1,h2⟩:=o3.1 hm
 rcases hk with hk|hk
 ·have:=c0.ok k h1;omega
 ·exact h2 hk
theorem AO (h:Sim E c0 c ρ S F) {i:Nat} {b:Blk} {v:Value} (hb:ae S.H i=some b) (hv:ρ i=some v):rd ro0 (c0.base c h.since.size) (iZ (some b)) v:=by
 have hblk:=h.heap i b hb
 have hpb:=ij h
 cases b with
 | own T n g z l=>
  obtain ⟨v',h1,h2,h3,h4,a,cap,e,hz⟩:=hblk
  rw [hv] at h1;cases h1
  simp only [iZ]
  refine dx.2 ⟨a,cap,e,⟨h2.1,?_⟩,hz,?_⟩
  ·rcases h2.2 with ⟨a',_,rfl⟩|⟨g',cp,cur,e2,_,_,k3,_⟩
   ·simp
   ·rw [e] at e2;cases e2;exact k3
  ·rcases h2.2 with ⟨a',_,rfl⟩|⟨g',cp,cur,e2,k1,k2,k3,k4,k5,k6⟩
   ·exact .inl rfl
   ·rw [e] at e2;cases e2
    refine .inr ⟨g',0,_,rfl,c.ok g' k1,wk h (h3 g' (by rw [e];rfl)),?_,dl hpb k6⟩
    intro j u hj
    rw [List.getElem?_take] at hj
    split at hj
    ·simp only [Nat.zero_add]
     show (c0.base c h.since.size).w.cell? _=_
     simp only [Cx.base,World.cell?,k2]
     simpa using hj
    ·cases hj
 | pown n g z l=>
  obtain ⟨v',h1,h2⟩:=hblk
  rw [hv] at h1;cases h1
  exact bI hpb h2
 | _=>trivial
mutual
theorem sj (h:Sim E c0 c ρ S F): ∀{d:V} {v:Value},rd ρ c d v→rd ro0 (c0.base c h.since.size) (jR S.H d) v
 | .int _ _,_,hr=>hr
 | .bool _,_,hr=>hr
 | .ifc _,_,hr=>hr
 | .str _,_,hr=>hr
 | .agg l,v,hr=>by
  simp only [rd,jR] at hr⊢
  obtain ⟨cs,e,hr⟩:=hr
  exact ⟨cs,e,wm h hr⟩
 | .sl z n g l,v,hr=>bI (ij h) (show rd ro0 c (.sl z n g l) v from hr)
 | .pp n g d,v,hr=>bI (ij h) (show rd ro0 c (.pp n g d) v from hr)
 | .own i,v,hr=>by
  simp only [rd] at hr
  simp only [jR]
  cases hb:ae S.H i with
  | none=>trivial
  | some b=>exact AO h hb hr.1
 | .ptr _ _,_,_=>trivial
 | .optr _ _ _ _,_,_=>trivial
 | .osub _ _ _ _,_,_=>trivial
 | .tup l,v,hr=>by
  simp only [rd,jR] at hr⊢
  obtain ⟨cs,e,hr⟩:=hr
  exact ⟨cs,e,wn h hr⟩
 | .fn f l,v,hr=>by
  simp only [rd,jR] at hr⊢
  obtain ⟨cs,e,hr⟩:=hr
  exact ⟨cs,e,wn h hr⟩
 | .opq p,v,hr=>bI (ij h) (show rd ro0 c (.opq p) v from hr)
 | .un,_,_=>trivial
theorem wm (h:Sim E c0 c ρ S F): ∀{l:List V} {cs:List Value},rdC ρ c l cs→rdC ro0 (c0.base c h.since.size) (i6 S.H l) cs
 | [],_,hr=>hr
 | d::l,cs,hr=>by
  simp only [rdC,i6] at hr⊢
  obtain ⟨u,c2,e,h1,h2,h3⟩:=hr
  exact ⟨u,c2,e,h1,sj h h2,wm h h3⟩
theorem wn (h:Sim E c0 c ρ S F): ∀{l:List V} {cs:List Value},rdT ρ c l cs→rdT ro0 (c0.base c h.since.size) (i6 S.H l) cs
 | [],_,hr=>hr
 | d::l,cs,hr=>by
  simp only [rdT,i6] at hr⊢
  obtain ⟨u,c2,e,h2,h3⟩:=hr
  exact ⟨u,c2,e,sj h h2,wn h h3⟩
end
theorem HP (h:Sim E c0 c ρ S F) {i off:Nat} {b:Blk} {v:Value} (hb:ae S.H i=some b) (hv:rd ρ c (.ptr i off) v):rd ro0 (c0.base c h.since.size) (ny S.H off (some b)) v:=by
 have hblk:=h.heap i b hb
 have hpb:=ij h
 simp only [rd] at hv
 obtain ⟨b0,hv,rfl⟩:=hv
 cases b with
 | var n g d=>
  obtain ⟨b',h1,h2,h3,T,cs,h4,h5,h6⟩:=hblk
  rw [hv] at h1;cases h1
  simp only [ny]
  split
  ·rename_i e;subst e
   simp only [rd]
   refine ⟨b0,0,cs.toList,rfl,c.ok b0 h3,wk h h2,?_,h5,sj h h6⟩
   intro j u hj
   show c.w.cell? _=_
   simp only [Nat.zero_add,World.cell?,h4]
   simpa using hj
  ·trivial
 | pvar n g d=>
  obtain ⟨b',h1,h2⟩:=hblk
  rw [hv] at h1;cases h1
  simp only [ny]
  split
  ·rename_i e;subst e
   exact bI hpb (gB.2 h2)
  ·trivial
 | lent k' n g d=>
  obtain ⟨h1,h2,h3,T,cs,h4,h5,h6⟩:=hblk
  rw [hv] at h1;cases h1
  simp only [ny]
  split
  ·rename_i e;subst e
   simp only [rd]
   refine ⟨b0,0,cs.toList,rfl,c.ok b0 h3,wk h h2,?_,h5,sj h h6⟩
   intro j u hj
   show c.w.cell? _=_
   simp only [Nat.zero_add,World.cell?,h4]
   simpa using hj
  ·trivial
 | _=>trivial
mutual
theorem AP (h:Sim E c0 c ρ S F): ∀{d:V} {v:Value},rd ρ c d v→rd ro0 (c0.base c h.since.size) (gH S.H d) v
 | .int _ _,_,hr=>hr
 | .bool _,_,hr=>hr
 | .ifc _,_,hr=>hr
 | .str _,_,hr=>hr
 | .agg l,v,hr=>by
  simp only [rd,gH] at hr⊢
  obtain ⟨cs,e,hr⟩:=hr
  exact ⟨cs,e,wm h hr⟩
 | .sl z n g l,v,hr=>bI (ij h) (show rd ro0 c (.sl z n g l) v from hr)
 | .pp n g d,v,hr=>bI (ij h) (show rd ro0 c (.pp n g d) v from hr)
 | .own i,v,hr=>by
  simp only [rd] at hr
  simp only [gH]
  cases hb:ae S.H i with
  | none=>trivial
  | some b=>exact AO h hb hr.1
 | .ptr i o,v,hr=>by
  simp only [gH]
  cases hb:ae S.H i with
  | none=>trivial
  | some b=>exact HP h hb hr
 | .optr _ _ _ _,_,_=>trivial
 | .osub _ _ _ _,_,_=>trivial
 | .tup l,v,hr=>by
  simp only [rd,gH] at hr⊢
  obtain ⟨cs,e,hr⟩:=hr
  exact ⟨cs,e,sk h hr⟩
 | .fn f l,v,hr=>by
  simp only [rd,gH] at hr⊢
  obtain ⟨cs,e,hr⟩:=hr
  exact ⟨cs,e,sk h hr⟩
 | .opq p,v,hr=>bI (ij h) (show rd ro0 c (.opq p) v from hr)
 | .un,_,_=>trivial
theorem sk (h:Sim E c0 c ρ S F): ∀{l:List V} {cs:List Value},rdT ρ c l cs→rdT ro0 (c0.base c h.since.size) (jS S.H l) cs
 | [],_,hr=>hr
 | d::l,cs,hr=>by
  simp only [rdT,jS] at hr⊢
  obtain ⟨u,c2,e,h2,h3⟩:=hr
  exact ⟨u,c2,e,AP h h2,sk h h3⟩
end
theorem HQ {vs ws:List V} (hp:dU vs) (hm:mtL vs ws):o4 E S vs S ws:=
 fun _ c ρ _ _ h hr=>⟨c,ρ,rfl,Cx.pub.refl _,h,iY hm (l4 hp hr)⟩
theorem AQ {vs ws:List V} (hm:mtL (jS S.H vs) ws):rQ E S vs ws:=
 fun _ _ _ _ _ h hr=>iY hm (sk h hr)
theorem AR {vs ws:List V} (hp:dU vs) (hm:mtL vs ws): ∀(c:Cx) (ρ:Ro) (us:List Value),rdT ρ c vs us→rdT ro0 c ws us:=
 fun _ _ _ hr=>iY hm (l4 hp hr)
theorem HR {v r:V} (hm:mt (gH S.H v) r):sd E S v r []:=by
 intro c0 c ρ F u hY h hr
 refine ⟨c0.base c h.1.since.size,ro0,rfl,?_,fb hm (AP h.1 hr),HOk.nil⟩
 refine (Cx.leY.le ⟨h.1.since.below,fun k hk hy=> ?_⟩ hY)
 rw [o3]
 exact ⟨fun h=>h.1,fun h=>⟨h,hy⟩⟩
end
end Go.Proofs.YtgealhhkngbkbaaGreatDoor
namespace Go.Proofs.YtgealhhkngbkbaaGreatDoor
open Go.RowKit
inductive Ct where
 | code (c:Code)
 | ops (i:Nat) (ds:List (Nat×Nat)) (l:List Oper)
 | blk (id:Nat)
 | lp (K:St→Prop)
 | fin (Q:Exit→St→Prop)
def aM (E:Env) (J:cM):List Ct→Exit→St→Prop
 | [],_,_=>False
 | .code c::k,.normal,S=>wpA E J c (aM E J k) S
 | .code _::k,e,S=>aM E J k e S
 | .ops i ds l::k,.normal,S=>ii E i ds l (aM E J k .normal) S
 | .ops _ _ _::k,e,S=>aM E J k e S
 | .blk id::k,e,S=>wc (aM E J k) id e S
 | .lp K::k,e,S=>nr (aM E J k) K e S
 | .fin Q::_,e,S=>Q e S
section
variable {E:Env} {J:cM} {k:List Ct} {S:St}
theorem bz {c:Code} {Q:Exit→St→Prop} (h:aM E J [.code c,.fin Q] .normal S):wpA E J c Q S:=h
def l9 (E:Env) (J:cM) (M:Bool) (a b:Code) (k:List Ct) (S:St):Prop:=match M with
 | false=>aM E J (.code a:: .code b::k) .normal S
 | true=>aM E J (.code a:: .lp (nq E (aM E J (.code b::k) .normal))::k) .normal S∨AG E (.seq a b) (aM E J k) S
theorem HU {b:Code}:nr (aM E J k) (wpA E J b (aM E J k))=aM E J (.code b::k):=by funext e S';cases e<;>rfl
theorem HV {K:St→Prop}:nr (aM E J k) K=aM E J (.lp K::k):=by funext e S';cases e<;>rfl
theorem HX {a b:Code}:aM E J (.code (.seq a b)::k) .normal S=l9 E J (l7 J b) a b k S:=by
 simp only [aM,wpA,l9]
 cases l7 J b with
 | false=>simp only [HU]
 | true=>rw [HV]
theorem HY {a b:Code}:l9 E J false a b k S=aM E J (.code a:: .code b::k) .normal S:=Eq.trans rfl rfl
theorem i7 {a b:Code} (M:St→Prop) (h2: ∀S1,M S1→aM E J (.code b::k) .normal S1)
  (h1:(∀S1,M S1→aM E J (.code b::k) .normal S1)→aM E J (.code a:: .lp (nq E (aM E J (.code b::k) .normal))::k) .normal S):l9 E J true a b k S:= .inl (h1 h2)
theorem cW {M:St→Prop} (S1:St) (hF:fM S.F S1.nx S1.F) (hH:fN S.H S1.nx S1.H) (hM:M S1):aM E J (.lp (nq E M)::k) .normal S:=⟨S1,nw hF hH,hM⟩
theorem HZ {M M':Bool} {a b:Code} (h:M=M'):l9 E J M a b k S=l9 E J M' a b k S:=by rw [h]
theorem H3:aM E J (.code .skip::k) .normal S=aM E J k .normal S:=Eq.trans rfl rfl
theorem H4:aM E J (.code .ret::k) .normal S=aM E J k .ret S:=Eq.trans rfl rfl
theorem H5 {id:Nat}:aM E J (.code (.exit id)::k) .normal S=aM E J k (.exit id) S:=Eq.trans rfl rfl
theorem H6 {c:Code}:aM E J (.code c::k) .ret S=aM E J k .ret S:=Eq.trans rfl rfl
theorem H7 {c:Code} {i:Nat}:aM E J (.code c::k) (.exit i) S=aM E J k (.exit i) S:=Eq.trans rfl rfl
theorem H8 {i:Nat}:aM E J (.blk i::k) .ret S=aM E J k .ret S:=Eq.trans rfl rfl
theorem H9 {i:Nat}:aM E J (.blk i::k) .normal S=aM E J k .normal S:=Eq.trans rfl rfl
theorem H_ {i j:Nat}:aM E J (.blk i::k) (.exit j) S=if j=i then aM E J k .normal S else aM E J k (.exit j) S:=Eq.trans rfl rfl
theorem Ia {K:St→Prop}:aM E J (.lp K::k) .ret S=aM E J k .ret S:=Eq.trans rfl rfl
theorem Ib {K:St→Prop} {i:Nat}:aM E J (.lp K::k) (.exit i) S=aM E J k (.exit i) S:=Eq.trans rfl rfl
theorem Ic {Q:Exit→St→Prop} {e:Exit}:aM E J (.fin Q::k) e S=Q e S:=by cases e<;>rfl
theorem Id {id:Nat} {a:Code}:aM E J (.code (.block id a)::k) .normal S=aM E J (.code a:: .blk id::k) .normal S:=Eq.trans rfl rfl
theorem Ie {id:Nat} {ops:Array Oper}:aM E J (.code (.region id ops false)::k) .normal S=aM E J (.ops 0 [] ops.toList::k) .normal S:=Eq.trans rfl rfl
noncomputable def noJ:cM:=[]
def wo (J:cM):Option Nat→Bool
 | some i=>bF J i
 | none=>false
theorem Ig {p:Nat} {L:cM} {b:Code}:l7 (p::L) b=wo (p::L) (iW b):=by
 unfold l7 wo;cases iW b<;>rfl
theorem Ih {b:Code}:l7 noJ b=false:=by unfold l7;split<;>rfl
def kQ (E:Env) (J:cM) (v:Option V) (a b:Code) (k:List Ct) (S:St):Prop:=pd v (aM E J (.code a::k) .normal S) (aM E J (.code b::k) .normal S)
theorem Ii {x:Operand} {a b:Code}:aM E J (.code (.cond x a b)::k) .normal S=kQ E J (S.ev E.gv x) a b k S:=Eq.trans rfl rfl
theorem Ij {a b:Code}:kQ E J (some (.bool true)) a b k S=aM E J (.code a::k) .normal S:=by simp [kQ,pd,gE]
theorem Ik {a b:Code}:kQ E J (some (.bool false)) a b k S=aM E J (.code b::k) .normal S:=by simp [kQ,pd,gE]
theorem cn {c:Bool} {a b:Code} (h1:c=true→aM E J (.code a::k) .normal S) (h2:c=false→aM E J (.code b::k) .normal S):kQ E J (some (.bool c)) a b k S:=⟨h1,h2⟩
def kR (E:Env) (J:cM) (r:Res) (S:St) (d:Option Nat) (k:List Ct):Prop:=rR S S.nx d (aM E J k .normal) r
theorem Il {v:V} {e:Eff} {d:Option Nat}:kR E J (some (True,v,e)) S d k=aM E J k .normal ((S.eff S.nx e).put d v):=by simp [kR,rR]
theorem bP {c:Prop} {v:V} {e:Eff} {d:Option Nat} (h1:c) (h2:aM E J k .normal ((S.eff S.nx e).put d v)):kR E J (some (c,v,e)) S d k:=⟨h1,fun _=>h2⟩
def ja (E:Env) (J:cM) (v:Option V) (vs:Option (List V)) (S:St) (d:Option Nat) (k:List Ct):Prop:=vM E S d (aM E J k .normal) v vs
def opC (E:Env) (J:cM) (op:Op) (T:TypeId) (S:St) (d:Option Nat) (k:List Ct):Prop:=
 match iU op with
 | some (x,l,Ts)=>ja E J (S.ev E.gv x) (evs E S l Ts) S d k
 | none=>kR E J (opF E S S.nx T op) S d k
def fv (E:Env) (J:cM) (v:Option V) (op:Op) (T:TypeId) (want:Bool) (S:St) (d:Option Nat) (k:List Ct):Prop:=
 eY v want (opC E J op T S d k) (aM E J k .normal (S.put d (.tup [])))
def sm (E:Env) (J:cM) (t:Option Nat) (op:Op) (T:TypeId) (want:Bool) (S:St) (d:Option Nat) (k:List Ct):Prop:=
 match t with
 | some t=>fv E J (ae S.F t) op T want S d k
 | none=>False
theorem Im {i:Nat} {ds:List (Nat×Nat)}:aM E J (.ops i ds []::k) .normal S=aM E J k .normal S:=Eq.trans rfl rfl
theorem Io {i:Nat} {ds:List (Nat×Nat)} {l:List Oper} {d:Option Nat} {op:Op} {T:TypeId} {pos:String} {af:Array Edge}:aM E J (.ops i ds ({dst:=d,op:=op,type:=T,pos:=pos,after:=af,guard:=none}::l)::k) .normal S=opC E J op T S d (.ops (i+1) (iV i d ds) l::k):=Eq.trans rfl rfl
theorem Ip {i:Nat} {ds:List (Nat×Nat)} {l:List Oper} {d:Option Nat} {op:Op} {T:TypeId} {pos:String} {af:Array Edge} {j:Nat} {want:Bool}:aM E J (.ops i ds ({dst:=d,op:=op,type:=T,pos:=pos,after:=af,guard:=some (j,want)}::l)::k) .normal S=sm E J (ae ds j) op T want S d (.ops (i+1) (iV i d ds) l::k):=Eq.trans rfl rfl
theorem Iq {op:Op} {T:TypeId} {d:Option Nat}:fv E J (some (.bool true)) op T true S d k=opC E J op T S d k:=by simp [fv,eY,gE]
theorem Ir {op:Op} {T:TypeId} {d:Option Nat}:fv E J (some (.bool false)) op T false S d k=opC E J op T S d k:=by simp [fv,eY,gE]
theorem Is {op:Op} {T:TypeId} {d:Option Nat}:fv E J (some (.bool true)) op T false S d k=aM E J k .normal (S.put d (.tup [])):=by simp [fv,eY,gE]
theorem It {op:Op} {T:TypeId} {d:Option Nat}:fv E J (some (.bool false)) op T true S d k=aM E J k .normal (S.put d (.tup [])):=by simp [fv,eY,gE]
theorem Iu {op:Op} {T:TypeId} {d:Option Nat} {w:Bool}:fv E J (some (.tup [])) op T w S d k=aM E J k .normal (S.put d (.tup [])):=by simp [fv,eY]
theorem jT {op:Op} {T:TypeId} {d:Option Nat} {b:Bool} (h1:b=true→opC E J op T S d k) (h2:b=false→aM E J k .normal (S.put d (.tup []))):fv E J (some (.bool b)) op T true S d k:=⟨h1,h2⟩
theorem kS {op:Op} {T:TypeId} {d:Option Nat} {b:Bool} (h1:b=false→opC E J op T S d k) (h2:b=true→aM E J k .normal (S.put d (.tup []))):fv E J (some (.bool b)) op T false S d k:=⟨h1,h2⟩
theorem aV {f:FuncId} {caps vs:List V} {d:Option Nat} {ws:List V} {r:V} {H:List Blk} (hc:aI E f ws r H) (hp:dU (vs++caps)) (hm:mtL (vs++caps) ws) (h:wfV r→aM E J k .normal (S.after d r H)):ja E J (some (.fn f caps)) (some vs) S d k:=
 .inl ⟨ws,r,H,hc,.inl ⟨S,HQ hp hm,h⟩⟩
theorem io {f:FuncId} {caps vs:List V} {d:Option Nat} {ws:List V} {r:V} (hc:aI E f ws r []) (hf:dC r) (hm:mtL (jS S.H (vs++caps)) ws) (h:wfV r→aM E J k .normal (S.put d r)):ja E J (some (.fn f caps)) (some vs) S d k:=
 .inl ⟨ws,r,[],hc,.inr ⟨hf,rfl,AQ hm,h⟩⟩
theorem bk {a:Code} (I:Nat→St→Prop) (k0:Nat) (S1:St) (hF:fM S.F S1.nx S1.F) (hH:fN S.H S1.nx S1.H) (h0:I k0 S1)
  (h: ∀n S',I n S'→aM E J (.code a:: .lp (fun S2=> ∃n',n'<n∧ ∃S3,cC E S2 S3∧I n' S3)::k) .normal S'):aM E J (.code (.loop a)::k) .normal S:=
 ⟨I,k0,⟨S1,nw hF hH,h0⟩,h⟩
theorem aP {I:Nat→St→Prop} {n:Nat} (n':Nat) (S3:St) (hlt:n'<n) (hF:fM S.F S3.nx S3.F) (hH:fN S.H S3.nx S3.H) (hI:I n' S3):aM E J (.lp (fun S2=> ∃n',n'<n∧ ∃S3,cC E S2 S3∧I n' S3)::k) .normal S:=
 ⟨n',hlt,S3,nw hF hH,hI⟩
def l_ (E:Env) (S:St) (r:V) (H:List Blk):Option (List V)→Prop
 | some vs=>sd E S (fL vs) r H
 | none=>False
theorem Iv {rs:List ResultVar} {r:V} {H:List Blk}:se E rs r H .ret S=l_ E S r H (gG E.tb S rs):=Eq.trans rfl rfl
theorem fc {vs:List V} {r:V} (hm:mt (gH S.H (fL vs)) r):l_ E S r [] (some vs):=HR hm
structure Dr where
 J:cM
 S0:St
 wr:List Nat
 wl:List (Nat×Nat)
 need:List (List Nat)
 ub:List (Nat×Nat)
 k:List Ct
def ca (E:Env) (D:Dr) (m i:Nat) (l:List Oper) (R:List (Nat×bu)):Prop:=il E D.S0 D.wr D.wl D.need D.ub (aM E D.J D.k .normal) m i l R
theorem wp {id:Nat} {ops:Array Oper} (n m:Nat) (wr:List Nat) (wl:List (Nat×Nat)) (need:List (List Nat)) (ub:List (Nat×Nat)) (hB:(wlB ops m wl&&ky n m ops wr need&&((List.range m).all fun i=>(need.getD i []).all fun j=>decide (j<i)))=true) (hU:ubB m need ub S.nx=true)
  (h:ca E ⟨J,S,wr,wl,need,ub,k⟩ m 0 ops.toList []):aM E J (.code (.region id ops true)::k) .normal S:=by
 exact ⟨n,m,wr,wl,need,ub,hB,hU,h⟩
section
variable {D:Dr} {m i:Nat} {l:List Oper} {R:List (Nat×bu)} {d:Option Nat} {op:Op} {T:TypeId}
theorem Iw:ca E D 0 i l R=aM E D.J (.ops i (dsR R) l::D.k) .normal (cA D.S0 D.wr kO (fK D.ub R) R i):=Eq.trans rfl rfl
def cD (E:Env) (D:Dr) (m i:Nat) (l:List Oper) (R:List (Nat×bu)) (d:Option Nat) (nid:Nat) (r:Res):Prop:=f0 D.ub i nid d (fun r=>ca E D m (i+1) l ((i,r)::R)) r
def gI (E:Env) (D:Dr) (m i:Nat) (l:List Oper) (R:List (Nat×bu)) (d:Option Nat) (S:St) (v:Option V) (vs:Option (List V)):Prop:=vS E S D.ub i d (fun r=>ca E D m (i+1) l ((i,r)::R)) v vs
def ip (E:Env) (D:Dr) (m i:Nat) (l:List Oper) (R:List (Nat×bu)) (d:Option Nat) (op:Op) (T:TypeId) (S:St):Prop:=
 match iU op with
 | some (x,xs,Ts)=>gI E D m i l R d S (S.ev E.gv x) (evs E S xs Ts)
 | none=>cD E D m i l R d S.nx (opH E S S.nx T op)
def fd (E:Env) (D:Dr) (m i:Nat) (l:List Oper) (R:List (Nat×bu)) (d:Option Nat) (op:Op) (T:TypeId) (want:Bool):Bool→Option bu→Prop
 | true,some ⟨some _,v,_⟩=>eY (some v) want (ip E D m i l R d op T (cA D.S0 (wrF D.wl D.need i D.wr) (bF (D.need.getD i [])) (cq D.ub D.need i R) R i)) (ca E D m (i+1) l ((i,⟨d,.tup [],none⟩)::R))
 | _,_=>False
theorem Ix {pos:String} {af:Array Edge}:ca E D (m+1) i ({dst:=d,op:=op,type:=T,pos:=pos,after:=af,guard:=none}::l) R=ip E D m i l R d op T (cA D.S0 (wrF D.wl D.need i D.wr) (bF (D.need.getD i [])) (cq D.ub D.need i R) R i):=by
 simp only [ca,il,o_,o9,ip,gI,cD]
 all_goals cases iU op<;>rfl
theorem Iy {pos:String} {af:Array Edge} {j:Nat} {want:Bool}:ca E D (m+1) i ({dst:=d,op:=op,type:=T,pos:=pos,after:=af,guard:=some (j,want)}::l) R=fd E D m i l R d op T want (bF (D.need.getD i []) j) (ae R j):=by
 simp only [ca,il,o_]
 cases bF (D.need.getD i []) j<;>cases ae R j with
 | none=>rfl
 | some r=>
  obtain ⟨t,v,b⟩:=r
  cases t<;>first|rfl|(simp only [fd,o9,ip,gI,cD,ca];cases iU op<;>rfl)
theorem Iz {t:Nat} {b:Option (Nat×Blk)}:fd E D m i l R d op T true true (some ⟨some t,.bool true,b⟩)=ip E D m i l R d op T (cA D.S0 (wrF D.wl D.need i D.wr) (bF (D.need.getD i [])) (cq D.ub D.need i R) R i):=by simp [fd,eY,gE]
theorem IA {t:Nat} {b:Option (Nat×Blk)}:fd E D m i l R d op T false true (some ⟨some t,.bool false,b⟩)=ip E D m i l R d op T (cA D.S0 (wrF D.wl D.need i D.wr) (bF (D.need.getD i [])) (cq D.ub D.need i R) R i):=by simp [fd,eY,gE]
theorem IB {t:Nat} {b:Option (Nat×Blk)}:fd E D m i l R d op T true true (some ⟨some t,.bool false,b⟩)=ca E D m (i+1) l ((i,⟨d,.tup [],none⟩)::R):=by simp [fd,eY,gE]
theorem IC {t:Nat} {b:Option (Nat×Blk)}:fd E D m i l R d op T false true (some ⟨some t,.bool true,b⟩)=ca E D m (i+1) l ((i,⟨d,.tup [],none⟩)::R):=by simp [fd,eY,gE]
theorem ID {t:Nat} {w:Bool} {b:Option (Nat×Blk)}:fd E D m i l R d op T w true (some ⟨some t,.tup [],b⟩)=ca E D m (i+1) l ((i,⟨d,.tup [],none⟩)::R):=by simp [fd,eY]
theorem sn {t:Nat} {b:Option (Nat×Blk)} {x:Bool} (h1:x=true→ip E D m i l R d op T (cA D.S0 (wrF D.wl D.need i D.wr) (bF (D.need.getD i [])) (cq D.ub D.need i R) R i)) (h2:x=false→ca E D m (i+1) l ((i,⟨d,.tup [],none⟩)::R)):fd E D m i l R d op T true true (some ⟨some t,.bool x,b⟩):=⟨h1,h2⟩
theorem so {t:Nat} {b:Option (Nat×Blk)} {x:Bool} (h1:x=false→ip E D m i l R d op T (cA D.S0 (wrF D.wl D.need i D.wr) (bF (D.need.getD i [])) (cq D.ub D.need i R) R i)) (h2:x=true→ca E D m (i+1) l ((i,⟨d,.tup [],none⟩)::R)):fd E D m i l R d op T false true (some ⟨some t,.bool x,b⟩):=⟨h1,h2⟩
section
variable {nid:Nat}
theorem IE {v:V}:cD E D m i l R d nid (some (True,v,.none))=ca E D m (i+1) l ((i,⟨d,v,none⟩)::R):=by simp [cD,f0]
theorem IF {k o:Nat} {x:V} {n:Nat} {g:Bool}:cD E D m i l R d nid (some (True,.ptr k o,.new (.var n g x)))=(match bO D.ub i nid with|true=>(match decide (k=nid)&&decide (o=0) with|true=>dA x∧ca E D m (i+1) l ((i,⟨d,.pp n g x,none⟩)::R)|false=>False)|false=>ca E D m (i+1) l ((i,⟨d,.ptr k o,some (nid,.var n g x)⟩)::R)):=by
 simp only [cD,f0];cases bO D.ub i nid
 ·simp [aY]
 ·by_cases hk:k=nid<;>by_cases ho:o=0<;>simp [o8,hk,ho]
theorem IG {k:Nat} {U:TypeId} {n:Nat} {g:Bool} {z:Option Bool} {ll:List V}:cD E D m i l R d nid (some (True,.own k,.new (.own U n g z ll)))=(match bO D.ub i nid with|true=>(match decide (k=nid) with|true=>ca E D m (i+1) l ((i,⟨d,.sl z n g ll,none⟩)::R)|false=>False)|false=>ca E D m (i+1) l ((i,⟨d,.own k,some (nid,.own U n g z ll)⟩)::R)):=by
 simp only [cD,f0];cases bO D.ub i nid
 ·simp [aY]
 ·by_cases hk:k=nid<;>simp [o8,hk]
theorem IH {k:Nat} {n:Nat} {g:Bool} {z:Option Bool} {ll:List V}:cD E D m i l R d nid (some (True,.own k,.new (.pown n g z ll)))=(match bO D.ub i nid&&decide (k=nid) with|true=>ca E D m (i+1) l ((i,⟨d,.sl z n g ll,none⟩)::R)|false=>False):=by
 simp only [cD,f0];cases bO D.ub i nid
 ·simp [aY]
 ·by_cases hk:k=nid<;>simp [o8,hk]
theorem II {v:V} {id:Nat} {b:Blk}:cD E D m i l R d nid (some (True,v,.upd id b))=(match bO D.ub i id&&aY b with|true=>ca E D m (i+1) l ((i,⟨d,v,some (id,b)⟩)::R)|false=>False):=by
 simp only [cD,f0];cases bO D.ub i id&&aY b<;>simp
theorem iq {c:Prop} {v:V} (h1:c) (h2:ca E D m (i+1) l ((i,⟨d,v,none⟩)::R)):cD E D m i l R d nid (some (c,v,.none)):=⟨h1,fun _=>h2⟩
theorem jU {c:Prop} {v:V} {U:TypeId} {n:Nat} {g:Bool} {z:Option Bool} {ll:List V} (h1:c) (hm:bO D.ub i nid=false) (h2:ca E D m (i+1) l ((i,⟨d,v,some (nid,.own U n g z ll)⟩)::R)):cD E D m i l R d nid (some (c,v,.new (.own U n g z ll))):=by
 simp only [cD,f0,hm];exact ⟨h1,fun _=>h2⟩
theorem jV {c:Prop} {k:Nat} {U:TypeId} {n:Nat} {g:Bool} {z:Option Bool} {ll:List V} (h1:c) (hm:(bO D.ub i nid&&decide (k=nid))=true) (h2:ca E D m (i+1) l ((i,⟨d,.sl z n g ll,none⟩)::R)):cD E D m i l R d nid (some (c,.own k,.new (.own U n g z ll))):=by
 simp only [Bool.and_eq_true] at hm
 simp only [cD,f0,hm.1];exact ⟨hm.2,h1,fun _=>h2⟩
theorem jW {c:Prop} {v x:V} {n:Nat} {g:Bool} (h1:c) (hm:bO D.ub i nid=false) (h2:ca E D m (i+1) l ((i,⟨d,v,some (nid,.var n g x)⟩)::R)):cD E D m i l R d nid (some (c,v,.new (.var n g x))):=by
 simp only [cD,f0,hm];exact ⟨h1,fun _=>h2⟩
theorem jX {c:Prop} {v:V} {id:Nat} {b:Blk} (h1:c) (hm:(bO D.ub i id&&aY b)=true) (h2:ca E D m (i+1) l ((i,⟨d,v,some (id,b)⟩)::R)):cD E D m i l R d nid (some (c,v,.upd id b)):=by
 simp only [cD,f0,hm];exact ⟨h1,fun _=>h2⟩
end
theorem cN {f:FuncId} {caps vs ws:List V} {r:V} (hc:aI E f ws r []) (hp:dU (vs++caps)) (hm:mtL (vs++caps) ws) (h:ca E D m (i+1) l ((i,⟨d,r,none⟩)::R)):gI E D m i l R d S (some (.fn f caps)) (some vs):=
 .inl (.inl ⟨ws,r,hc,.inl (AR hp hm),h⟩)
theorem AU {f:FuncId} {caps vs ws:List V} {r:V} (hc:aI E f ws r []) (hf:dC r) (hm:mtL (jS S.H (vs++caps)) ws) (h:ca E D m (i+1) l ((i,⟨d,r,none⟩)::R)):gI E D m i l R d S (some (.fn f caps)) (some vs):=
 .inl (.inl ⟨ws,r,hc,.inr ⟨hf,AQ hm⟩,h⟩)
theorem IJ {f:FuncId} {caps vs ws:List V} {U:TypeId} {n:Nat} {g:Bool} {z:Option Bool} {ll:List V} (hc:aI E f ws (.own 0) [.own U n g z ll]) (hp:dU (vs++caps)) (hm:mtL (vs++caps) ws) (h:ca E D m (i+1) l ((i,⟨d,.own S.nx,some (S.nx,.own U n g z ll)⟩)::R)):gI E D m i l R d S (some (.fn f caps)) (some vs):=
 .inl (.inr ⟨ws,U,n,g,z,ll,hc,AR hp hm,h⟩)
theorem jY {c:Prop} {id nid:Nat} {U:TypeId} {n:Nat} {g:Bool} {z:Option Bool} {ll:List V} (h1:c) (hm:(bO D.ub i id&& !decide (id=nid))=true) (h2:ca E D m (i+1) l ((i,⟨d,.own nid,some (nid,.own U n g z ll)⟩)::R)):cD E D m i l R d nid (some (c,.own id,.app id (.own U n g z ll))):=by
 simp only [cD,f0,decide_true,Bool.true_and,hm]
 exact ⟨h1,fun _=>h2⟩
theorem IK {need:List (List Nat)} {i:Nat}:cq [] need i R=kN:=Eq.trans rfl rfl
theorem IL:fK [] R=kN:=Eq.trans rfl rfl
theorem IM {p:Nat×Nat} {ub:List (Nat×Nat)} {need:List (List Nat)} {i k:Nat}:cq (p::ub) need i R k=(jN (p::ub) need i k||eM (p::ub) (bF (need.getD i [])) R k):=Eq.trans rfl rfl
theorem SC {p:Nat×Nat} {ub:List (Nat×Nat)} {k:Nat}:fK (p::ub) R k=eM (p::ub) kO R k:=Eq.trans rfl rfl
theorem IP {ub:List (Nat×Nat)} {ns:Nat→Bool} {j k:Nat} {t:Option Nat} {v:V} {b:Option (Nat×Blk)}:eM ub ns ((j,⟨t,v,b⟩)::R) k=((ns j&&fJ ub j b k)||eM ub ns R k):=Eq.trans rfl rfl
theorem IQ {ub:List (Nat×Nat)} {ns:Nat→Bool} {k:Nat}:eM ub ns [] k=false:=Eq.trans rfl rfl
theorem IR {ub:List (Nat×Nat)} {j k:Nat}:fJ ub j none k=false:=Eq.trans rfl rfl
theorem IU {ub:List (Nat×Nat)} {j k k':Nat} {b:Blk}:fJ ub j (some (k',b)) k=(bO ub j k&& !decide (k'=k)):=Eq.trans rfl rfl
theorem IV {ub:List (Nat×Nat)} {p:Nat×Nat} {need:List (List Nat)} {i k:Nat} {b:Blk} {H:List (Nat×Blk)}:ew (cq (p::ub) need i R) ((k,b)::H)=if cq (p::ub) need i R k=true then ew (cq (p::ub) need i R) H else (k,b)::ew (cq (p::ub) need i R) H:=by
 simp only [ew];cases cq (p::ub) need i R k<;>rfl
theorem IW {ub:List (Nat×Nat)} {p:Nat×Nat} {k:Nat} {b:Blk} {H:List (Nat×Blk)}:ew (fK (p::ub) R) ((k,b)::H)=if fK (p::ub) R k=true then ew (fK (p::ub) R) H else (k,b)::ew (fK (p::ub) R) H:=by
 simp only [ew];cases fK (p::ub) R k<;>rfl
theorem IX {ns:Nat→Bool} {j t:Nat} {v:V} {b:Option (Nat×Blk)}:eL ns ((j,⟨some t,v,b⟩)::R)=if ns j=true then (t,v)::eL ns R else eL ns R:=by
 simp only [eL];cases ns j<;>rfl
theorem IY {ns:Nat→Bool} {j:Nat} {v:V} {b:Option (Nat×Blk)}:eL ns ((j,⟨none,v,b⟩)::R)=eL ns R:=by
 simp only [eL];cases ns j<;>rfl
theorem IZ {ns:Nat→Bool} {j:Nat} {t:Option Nat} {v:V} {b:Nat×Blk}:de ns ((j,⟨t,v,some b⟩)::R)=if ns j=true then b::de ns R else de ns R:=by
 simp only [de];cases ns j<;>rfl
theorem I0 {ns:Nat→Bool} {j:Nat} {t:Option Nat} {v:V}:de ns ((j,⟨t,v,none⟩)::R)=de ns R:=by
 simp only [de];cases ns j<;>rfl
theorem I1 {ns:Nat→Bool}:eL ns []=[]:=Eq.trans rfl rfl
theorem I2 {ns:Nat→Bool}:de ns []=[]:=Eq.trans rfl rfl
theorem AV {need:List (List Nat)} {i:Nat}: ∀{l:List Nat},wrF [] need i l=l
 | []=>rfl
 | t::l=>congrArg (t:: ·) (AV (l:=l))
theorem I3 {w k i:Nat} {wl:List (Nat×Nat)} {need:List (List Nat)}:wrF ((w,k)::wl) need i []=[]:=Eq.trans rfl rfl
theorem I4 {w k i t:Nat} {wl:List (Nat×Nat)} {need:List (List Nat)} {l:List Nat}:wrF ((w,k)::wl) need i (t::l)=if jO ((w,k)::wl) need i t=true then wrF ((w,k)::wl) need i l else t::wrF ((w,k)::wl) need i l:=by
 rw [wrF];cases jO ((w,k)::wl) need i t<;>rfl
theorem I5 {w k i t:Nat} {wl:List (Nat×Nat)} {need:List (List Nat)}:jO ((w,k)::wl) need i t=((decide (k=t)&&bF (need.getD w []) i)||jO wl need i t):=Eq.trans rfl rfl
theorem I6 {i t:Nat} {need:List (List Nat)}:jO [] need i t=false:=Eq.trans rfl rfl
theorem I7 {need:List (List Nat)} {i:Nat}:jN [] need i=kN:=by funext k;rfl
theorem AW: ∀{H:List (Nat×Blk)},ew kN H=H
 | []=>rfl
 | (k,b)::H=>by simp only [ew,kN,AW]
theorem I8 {ban:Nat→Bool}:ew ban []=[]:=Eq.trans rfl rfl
theorem I9 {w k i id:Nat} {ub:List (Nat×Nat)} {need:List (List Nat)}:jN ((w,k)::ub) need i id=((decide (k=id)&&(!decide (w=i)&&(!bF (need.getD i []) w&& !bF (need.getD w []) i)))||jN ub need i id):=Eq.trans rfl rfl
theorem I_ {id:Nat}:kN id=false:=Eq.trans rfl rfl
theorem Ja {j t:Nat} {v:V} {b:Option (Nat×Blk)}:dsR ((j,⟨some t,v,b⟩)::R)=(j,t)::dsR R:=Eq.trans rfl rfl
theorem Jb {j:Nat} {v:V} {b:Option (Nat×Blk)}:dsR ((j,⟨none,v,b⟩)::R)=dsR R:=Eq.trans rfl rfl
theorem Jc:dsR []=[]:=Eq.trans rfl rfl
theorem Jd {R':List (Nat×bu)} (h:R=R'):ca E D m i l R=ca E D m i l R':=by rw [h]
theorem Je {nid nid':Nat} {r r':Res} (h0:nid=nid') (h:r=r'):cD E D m i l R d nid r=cD E D m i l R d nid' r':=by rw [h,h0]
theorem Jf {v v':Option V} {vs vs':Option (List V)} (h1:v=v') (h2:vs=vs'):gI E D m i l R d S v vs=gI E D m i l R d S v' vs':=by rw [h1,h2]
theorem Jg {S S':St} (h:S=S'):ip E D m i l R d op T S=ip E D m i l R d op T S':=by rw [h]
theorem Jh {w b b':Bool} {r r':Option bu} (h1:b=b') (h2:r=r'):fd E D m i l R d op T w b r=fd E D m i l R d op T w b' r':=by rw [h1,h2]
end
theorem Ji {e:Exit} {S S':St} (h:S=S'):aM E J k e S=aM E J k e S':=by rw [h]
theorem Jj {r r':Res} {d:Option Nat} (h:r=r'):kR E J r S d k=kR E J r' S d k:=by rw [h]
theorem Jk {v v':Option V} {a b:Code} (h:v=v'):kQ E J v a b k S=kQ E J v' a b k S:=by rw [h]
theorem Jl {v v':Option V} {vs vs':Option (List V)} {d:Option Nat} (h1:v=v') (h2:vs=vs'):ja E J v vs S d k=ja E J v' vs' S d k:=by rw [h1,h2]
theorem Jm {v v':Option V} {op:Op} {T:TypeId} {w:Bool} {d:Option Nat} (h:v=v'):fv E J v op T w S d k=fv E J v' op T w S d k:=by rw [h]
theorem Jn {t t':Option Nat} {op:Op} {T:TypeId} {w:Bool} {d:Option Nat} (h:t=t'):sm E J t op T w S d k=sm E J t' op T w S d k:=by rw [h]
end
attribute [congr] Ji Jj Jk Jl Jm Jn HZ Jd Je Jf Jg Jh
theorem Jo:(false==true)=false:=Eq.trans rfl rfl
theorem Jp:(true==false)=false:=Eq.trans rfl rfl
theorem Jq:(true==true)=true:=Eq.trans rfl rfl
theorem Jr:(false==false)=true:=Eq.trans rfl rfl
theorem Js {α:Type} {f:α→V} {l:List α} {i j:Nat}:lT (l.map f) i j=(lT l i j).map f:=by simp [lT,List.map_take,List.map_drop]
theorem Jt {α:Type} {f:α→V} {l m:List α} {i k:Nat}:spl (l.map f) i k (m.map f)=(spl l i k m).map f:=by simp [spl,List.map_take,List.map_drop]
theorem Ju {α:Type} {f:α→V} {l:List α} {i j:Int}:rx (l.map f) i j=(sl l i j).map f:=by simp [rx,sl,List.map_take,List.map_drop]
theorem Jv {z:Option Bool}:mtZ z z=True:=by cases z<;>simp [mtZ]
theorem Jw {z:Option Bool}:mtZ z none=True:=by cases z<;>simp [mtZ]
theorem Jx {a b:Bool}:mtZ (some a) (some b)=(a=b):=by simp [mtZ]
theorem AX {H:List (Nat×Blk)} {k:IntKind}: ∀{l:List Int},lS H (l.map (V.int k))=l.map (V.int k)
 | []=>rfl
 | a::l=>by simp only [List.map_cons,lS,pvw,AX (l:=l)]
attribute [go_sem] pvw lS pvO AX
attribute [go_sem] rD rE vi rF vj nd lV oX ic zF
theorem Jy (x:Int):([x].length=1)=True:=by simp
attribute [go_sem] Jy
attribute [go_sem] Iw Ix Iy ip ID Iz IA IB IC IE IF IG IH IX IY IZ I0 I1 I2 Ja Jb Jc cA l6 bF kO AV I3 I4 I5 I6 I7 AW I8 IK IL IM SC IP IQ IR IU IV IW I9 I_ II bO aY ubB
 HX H3 H4 H5 H6 H7 H8 H9 H_ Ia Ib Ic Id Ie HY Ih Ig wo iW Ii Ij Ik Im Io Ip sm Iu Iq Ir Is It opC iU Il
 opH vl rG vk vm opF rA evL evL.consO vh kL zx St.ev St.evT qX uJ qW uH m9 qY ae dc qZ uK uL kH q6 uM uO q7 uP q8 uQ q9 uR ra rb uS rc uT eqC oT oS kI uU unF oU uW uX uY rf rg nb uI zrB zrC Value.oneCell' rh ri rk rl uZ rm rn m_ lR rp kJ rq rr ru gC u_ jJ vb na isC loB hiB bound kK ry rOk rIf rB
 St.eff St.put St.after shift jM ig dV dJ lW nf kM part kD kE iV evs eK dA dU dC gD Iv gG sc fL
 gH jS jR i6 iZ ny mt mtL nt nu HO Jv Jw Jx fM fN mtO mtB ltV ltL ltB
 Jo Jp Jq Jr Ju
 iX rt u7 Bool.or_true Bool.true_or Bool.or_false Bool.false_or Nat.sub_zero Js Jt nc vf vg oW zy u6 va vc ve lU vd rz uN Option.map_some Option.map_none Bool.and_true Bool.true_and Bool.false_and Bool.and_false Bool.not_true Bool.not_false decide_true decide_false true_and and_true false_and and_false true_implies false_implies implies_true and_self not_true_eq_false not_false_eq_true
 List.getElem?_cons_zero List.getElem?_cons_succ List.getD_cons_zero List.getD_cons_succ List.take_succ_cons List.take_zero List.take_nil List.drop_succ_cons List.drop_zero List.drop_nil List.cons_append List.nil_append List.append_nil List.length_cons List.length_nil List.set_cons_zero List.set_cons_succ List.replicate_zero List.replicate_succ List.map_cons List.map_nil List.map_append List.length_map List.map_set List.map_replicate List.tail_cons List.tail_nil List.headD_cons List.headD_nil
 Nat.add_zero Nat.zero_add ne_eq Prod.mk.injEq reduceCtorEq
theorem au {α β:Type} {a:α} {f:α→β} {R:β} (h:ab a f=R): ∃x,x=a∧f x=R:=⟨a,rfl,h⟩
theorem nz (a:Int):0≤al .u64 a:=(y8 .u64 a).1
end Go.Proofs.YtgealhhkngbkbaaGreatDoor
namespace Go.Proofs.YtgealhhkngbkbaaGreatDoor
open Go.RowKit
def AY (P:Program) (g:Nat) (name:String) (k:IntKind) (zs:List Int) (c:Cx) (v:Value):Prop:=v= .pointer (some ⟨g,0,none⟩)∧g<c.w.heap.size∧g∉c.X∧P.globalNamed name=some g∧Lib.TabIs P c.w name k zs
def sq (P:Program) (g:Nat) (name:String) (c:Cx) (v:Value):Prop:=v= .pointer (some ⟨g,0,none⟩)∧g<c.w.heap.size∧g∉c.X∧P.globalNamed name=some g∧ ∃t p,c.w.var? P name=some #[.iface t p]
def AZ (_:Cx) (v:Value):Prop:= ∃m,v= .int .i64 m
def cF:List Int:=[2,3,5,7,11,13,17,19,23,29,31,37]
def jb:List Int:=[0,1,56,2,57,49,28,3,61,58,42,50,38,29,17,4,62,47,59,36,45,43,51,22,53,39,33,30,24,18,12,5,63,55,48,27,60,41,37,16,46,35,44,21,52,32,23,11,54,26,40,15,34,20,31,10,25,14,19,9,13,8,7,6]
def me:List Int:=[1116352408,1899447441,3049323471,3921009573,961987163,1508970993,2453635748,2870763221,3624381080,310598401,607225278,1426881987,1925078388,2162078206,2614888103,3248222580,3835390401,4022224774,264347078,604807628,770255983,1249150122,1555081692,1996064986,2554220882,2821834349,2952996808,3210313671,3336571891,3584528711,113926993,338241895,666307205,773529912,1294757372,1396182291,1695183700,1986661051,2177026350,2456956037,2730485921,2820302411,3259730800,3345764771,3516065817,3600352804,4094571909,275423344,430227734,506948616,659060556,883997877,958139571,1322822218,1537002063,1747873779,1955562222,2024104815,2227730452,2361852424,2428436474,2756734187,3204031479,3329325298]
noncomputable def tbl:List (TypeId×TI):=[(1,{n:=1,g:=false,by':=8,ok:=true,z:= .un,k:=6}),
 (2,{n:=1,g:=false,by':=8,ok:=true,z:= .int .i64 0,k:=0,ik:= .i64}),
 (3,{n:=1,g:=false,by':=8,ok:=true,z:= .int .i64 0,k:=0,ik:= .i64}),
 (4,{n:=1,g:=false,by':=1,ok:=true,z:= .bool false,k:=1}),
 (5,{n:=1,g:=false,by':=1,ok:=true,z:= .int .u8 0,k:=0,ik:= .u8}),
 (9,{n:=1,g:=false,by':=16,ok:=true,z:= .str [],k:=2}),
 (12,{n:=1,g:=false,by':=8,ok:=true,z:= .int .u64 0,k:=0,ik:= .u64}),
 (15,{n:=1,g:=false,by':=8,ok:=true,z:= .un,k:=6}),
 (16,{n:=1,g:=false,by':=8,ok:=true,z:= .un,k:=6}),
 (17,{n:=1,g:=false,by':=8,ok:=true,z:= .un,k:=6}),
 (20,{n:=1,g:=false,by':=16,ok:=true,z:= .un,k:=8}),
 (21,{n:=1,g:=false,by':=4,ok:=true,z:= .int .i32 0,k:=0,ik:= .i32}),
 (23,{n:=3,g:=true,by':=24,ok:=true,z:= .agg [.int .i64 0,.int .i64 0,.int .i64 0],k:=5,fs:=[(0,3),(1,3),(2,3)],cmp:=true,ck:=[0,0,0]}),
 (24,{n:=1,g:=false,by':=24,ok:=true,z:= .sl (some true) 1 false [],k:=3,el:=3}),
 (25,{n:=1,g:=false,by':=24,ok:=true,z:= .sl (some true) 1 false [],k:=3,el:=24}),
 (27,{n:=2,g:=true,by':=48,ok:=true,z:= .agg [.sl (some true) 1 false [],.sl (some true) 1 false []],k:=5,fs:=[(0,24),(1,25)]}),
 (28,{n:=1,g:=false,by':=24,ok:=true,z:= .sl (some true) 4 true [],k:=3,el:=30}),
 (30,{n:=4,g:=true,by':=80,ok:=true,z:= .agg [.int .i64 0,.sl (some true) 1 false [],.sl (some true) 1 false [],.sl (some true) 4 true []],k:=5,fs:=[(0,3),(1,27),(3,28)]}),
 (32,{n:=3,g:=true,by':=56,ok:=true,z:= .agg [.sl (some true) 1 false [],.int .i64 0,.sl (some true) 1 false []],k:=5,fs:=[(0,24),(1,3),(2,24)]}),
 (33,{n:=1,g:=false,by':=24,ok:=true,z:= .sl (some true) 5 true [],k:=3,el:=35}),
 (35,{n:=5,g:=true,by':=88,ok:=true,z:= .agg [.int .i64 0,.sl (some true) 1 false [],.int .i64 0,.sl (some true) 1 false [],.sl (some true) 5 true []],k:=5,fs:=[(0,3),(1,32),(4,33)]}),
 (36,{n:=1,g:=false,by':=8,ok:=true,z:= .un,k:=6}),
 (37,{n:=1,g:=false,by':=8,ok:=true,z:= .un,k:=6}),
 (38,{n:=1,g:=false,by':=8,ok:=true,z:= .un,k:=6}),
 (39,{n:=1,g:=false,by':=8,ok:=true,z:= .un,k:=6}),
 (40,{n:=1,g:=false,by':=4,ok:=true,z:= .int .u32 0,k:=0,ik:= .u32}),
 (41,{n:=32,g:=true,by':=32,ok:=true,z:= .agg [.int .u8 0,.int .u8 0,.int .u8 0,.int .u8 0,.int .u8 0,.int .u8 0,.int .u8 0,.int .u8 0,.int .u8 0,.int .u8 0,.int .u8 0,.int .u8 0,.int .u8 0,.int .u8 0,.int .u8 0,.int .u8 0,.int .u8 0,.int .u8 0,.int .u8 0,.int .u8 0,.int .u8 0,.int .u8 0,.int .u8 0,.int .u8 0,.int .u8 0,.int .u8 0,.int .u8 0,.int .u8 0,.int .u8 0,.int .u8 0,.int .u8 0,.int .u8 0],k:=4,el:=5,len:=32,cmp:=true,ck:=[0,0,0,0,0,0,0,0,0,0,0,0,0,0,0,0,0,0,0,0,0,0,0,0,0,0,0,0,0,0,0,0]}),
 (42,{n:=32,g:=true,by':=32,ok:=true,z:= .agg [.int .u8 0,.int .u8 0,.int .u8 0,.int .u8 0,.int .u8 0,.int .u8 0,.int .u8 0,.int .u8 0,.int .u8 0,.int .u8 0,.int .u8 0,.int .u8 0,.int .u8 0,.int .u8 0,.int .u8 0,.int .u8 0,.int .u8 0,.int .u8 0,.int .u8 0,.int .u8 0,.int .u8 0,.int .u8 0,.int .u8 0,.int .u8 0,.int .u8 0,.int .u8 0,.int .u8 0,.int .u8 0,.int .u8 0,.int .u8 0,.int .u8 0,.int .u8 0],k:=4,el:=5,len:=32,cmp:=true,ck:=[0,0,0,0,0,0,0,0,0,0,0,0,0,0,0,0,0,0,0,0,0,0,0,0,0,0,0,0,0,0,0,0]}),
 (44,{n:=33,g:=true,by':=40,ok:=true,z:= .agg [.int .u8 0,.int .u8 0,.int .u8 0,.int .u8 0,.int .u8 0,.int .u8 0,.int .u8 0,.int .u8 0,.int .u8 0,.int .u8 0,.int .u8 0,.int .u8 0,.int .u8 0,.int .u8 0,.int .u8 0,.int .u8 0,.int .u8 0,.int .u8 0,.int .u8 0,.int .u8 0,.int .u8 0,.int .u8 0,.int .u8 0,.int .u8 0,.int .u8 0,.int .u8 0,.int .u8 0,.int .u8 0,.int .u8 0,.int .u8 0,.int .u8 0,.int .u8 0,.int .i64 0],k:=5,fs:=[(0,42),(32,3)],cmp:=true,ck:=[0,0,0,0,0,0,0,0,0,0,0,0,0,0,0,0,0,0,0,0,0,0,0,0,0,0,0,0,0,0,0,0,0]}),
 (45,{n:=1,g:=false,by':=8,ok:=true,z:= .un,k:=6}),
 (46,{n:=1,g:=false,by':=8,ok:=true,z:= .int .i64 0,k:=0,ik:= .i64}),
 (48,{n:=1,g:=false,by':=8,ok:=true,z:= .un,k:=6}),
 (49,{n:=1,g:=false,by':=8,ok:=true,z:= .un,k:=6}),
 (50,{n:=1,g:=false,by':=8,ok:=true,z:= .un,k:=6}),
 (51,{n:=1,g:=false,by':=8,ok:=true,z:= .un,k:=6}),
 (52,{n:=1,g:=false,by':=8,ok:=true,z:= .un,k:=6}),
 (54,{n:=1,g:=false,by':=8,ok:=true,z:= .un,k:=6}),
 (55,{n:=1,g:=false,by':=8,ok:=true,z:= .un,k:=6}),
 (56,{n:=1,g:=false,by':=8,ok:=true,z:= .un,k:=6}),
 (57,{n:=1,g:=false,by':=8,ok:=true,z:= .un,k:=6}),
 (58,{n:=1,g:=false,by':=8,ok:=true,z:= .un,k:=6}),
 (59,{n:=1,g:=false,by':=8,ok:=true,z:= .un,k:=6}),
 (60,{n:=1,g:=false,by':=8,ok:=true,z:= .un,k:=6}),
 (62,{n:=1,g:=false,by':=8,ok:=true,z:= .un,k:=6}),
 (64,{n:=1,g:=false,by':=8,ok:=true,z:= .un,k:=6}),
 (65,{n:=1,g:=false,by':=8,ok:=true,z:= .un,k:=6}),
 (66,{n:=1,g:=false,by':=8,ok:=true,z:= .un,k:=6}),
 (67,{n:=1,g:=false,by':=8,ok:=true,z:= .un,k:=6}),
 (68,{n:=1,g:=false,by':=8,ok:=true,z:= .un,k:=6}),
 (69,{n:=1,g:=false,by':=8,ok:=true,z:= .un,k:=6}),
 (70,{n:=1,g:=false,by':=8,ok:=true,z:= .un,k:=6}),
 (72,{n:=37,g:=true,by':=72,ok:=true,z:= .agg [.int .i64 0,.int .i64 0,.int .i64 0,.int .u8 0,.int .u8 0,.int .u8 0,.int .u8 0,.int .u8 0,.int .u8 0,.int .u8 0,.int .u8 0,.int .u8 0,.int .u8 0,.int .u8 0,.int .u8 0,.int .u8 0,.int .u8 0,.int .u8 0,.int .u8 0,.int .u8 0,.int .u8 0,.int .u8 0,.int .u8 0,.int .u8 0,.int .u8 0,.int .u8 0,.int .u8 0,.int .u8 0,.int .u8 0,.int .u8 0,.int .u8 0,.int .u8 0,.int .u8 0,.int .u8 0,.int .u8 0,.int .i64 0,.int .i64 0],k:=5,fs:=[(0,23),(3,44),(36,46)],cmp:=true,ck:=[0,0,0,0,0,0,0,0,0,0,0,0,0,0,0,0,0,0,0,0,0,0,0,0,0,0,0,0,0,0,0,0,0,0,0,0,0]}),
 (73,{n:=1,g:=false,by':=8,ok:=true,z:= .un,k:=6}),
 (74,{n:=1,g:=false,by':=8,ok:=true,z:= .un,k:=6}),
 (75,{n:=1,g:=false,by':=8,ok:=true,z:= .un,k:=6}),
 (76,{n:=1,g:=false,by':=8,ok:=true,z:= .un,k:=6}),
 (78,{n:=33,g:=true,by':=40,ok:=true,z:= .agg [.int .u8 0,.int .u8 0,.int .u8 0,.int .u8 0,.int .u8 0,.int .u8 0,.int .u8 0,.int .u8 0,.int .u8 0,.int .u8 0,.int .u8 0,.int .u8 0,.int .u8 0,.int .u8 0,.int .u8 0,.int .u8 0,.int .u8 0,.int .u8 0,.int .u8 0,.int .u8 0,.int .u8 0,.int .u8 0,.int .u8 0,.int .u8 0,.int .u8 0,.int .u8 0,.int .u8 0,.int .u8 0,.int .u8 0,.int .u8 0,.int .u8 0,.int .u8 0,.int .i64 0],k:=5,fs:=[(0,42),(32,3)],cmp:=true,ck:=[0,0,0,0,0,0,0,0,0,0,0,0,0,0,0,0,0,0,0,0,0,0,0,0,0,0,0,0,0,0,0,0,0]}),
 (80,{n:=1,g:=false,by':=8,ok:=true,z:= .un,k:=6}),
 (81,{n:=1,g:=false,by':=8,ok:=true,z:= .un,k:=6}),
 (82,{n:=1,g:=false,by':=8,ok:=true,z:= .un,k:=6}),
 (83,{n:=1,g:=false,by':=8,ok:=true,z:= .un,k:=6}),
 (84,{n:=1,g:=false,by':=8,ok:=true,z:= .un,k:=6}),
 (85,{n:=1,g:=false,by':=8,ok:=true,z:= .un,k:=6}),
 (86,{n:=1,g:=false,by':=8,ok:=true,z:= .un,k:=6}),
 (88,{n:=2,g:=true,by':=24,ok:=true,z:= .agg [.str [],.bool false],k:=5,fs:=[(0,9),(1,4)],cmp:=true,ck:=[2,1]}),
 (89,{n:=1,g:=false,by':=8,ok:=true,z:= .un,k:=6}),
 (90,{n:=1,g:=false,by':=8,ok:=true,z:= .un,k:=6}),
 (91,{n:=1,g:=false,by':=8,ok:=true,z:= .un,k:=6}),
 (92,{n:=1,g:=false,by':=8,ok:=true,z:= .un,k:=6}),
 (93,{n:=1,g:=false,by':=8,ok:=true,z:= .un,k:=6}),
 (94,{n:=1,g:=false,by':=8,ok:=true,z:= .un,k:=6}),
 (95,{n:=1,g:=false,by':=8,ok:=true,z:= .un,k:=6}),
 (96,{n:=1,g:=false,by':=8,ok:=true,z:= .un,k:=6}),
 (97,{n:=1,g:=false,by':=8,ok:=true,z:= .un,k:=6}),
 (98,{n:=1,g:=false,by':=8,ok:=true,z:= .un,k:=6}),
 (99,{n:=1,g:=false,by':=24,ok:=true,z:= .sl (some true) 1 false [],k:=3,el:=5}),
 (100,{n:=1,g:=false,by':=24,ok:=true,z:= .sl (some true) 4 true [],k:=3,el:=102}),
 (102,{n:=4,g:=true,by':=64,ok:=true,z:= .agg [.int .i64 0,.int .i64 0,.sl (some true) 1 false [],.sl (some true) 4 true []],k:=5,fs:=[(0,3),(1,3),(2,99),(3,100)]}),
 (103,{n:=1,g:=false,by':=8,ok:=true,z:= .un,k:=6}),
 (104,{n:=1,g:=false,by':=8,ok:=true,z:= .un,k:=6}),
 (105,{n:=1,g:=false,by':=8,ok:=true,z:= .un,k:=6}),
 (107,{n:=1,g:=false,by':=8,ok:=true,z:= .un,k:=6}),
 (108,{n:=1,g:=false,by':=8,ok:=true,z:= .un,k:=6}),
 (109,{n:=1,g:=false,by':=8,ok:=true,z:= .un,k:=6}),
 (111,{n:=1,g:=false,by':=8,ok:=true,z:= .un,k:=6}),
 (112,{n:=1,g:=false,by':=8,ok:=true,z:= .un,k:=6}),
 (114,{n:=1,g:=false,by':=8,ok:=true,z:= .un,k:=6}),
 (115,{n:=1,g:=false,by':=8,ok:=true,z:= .un,k:=6}),
 (116,{n:=1,g:=false,by':=8,ok:=true,z:= .un,k:=6}),
 (117,{n:=1,g:=false,by':=8,ok:=true,z:= .un,k:=6}),
 (119,{n:=1,g:=false,by':=8,ok:=true,z:= .un,k:=6}),
 (120,{n:=1,g:=false,by':=8,ok:=true,z:= .un,k:=6}),
 (122,{n:=1,g:=false,by':=8,ok:=true,z:= .un,k:=6}),
 (123,{n:=1,g:=false,by':=8,ok:=true,z:= .un,k:=6}),
 (124,{n:=1,g:=false,by':=8,ok:=true,z:= .un,k:=6}),
 (125,{n:=1,g:=false,by':=24,ok:=true,z:= .sl (some true) 1 false [],k:=3,el:=82}),
 (127,{n:=13,g:=true,by':=232,ok:=true,z:= .agg [.int .i64 0,.sl (some true) 1 false [],.sl (some true) 1 false [],.sl (some true) 4 true [],.int .i64 0,.sl (some true) 1 false [],.int .i64 0,.sl (some true) 1 false [],.sl (some true) 5 true [],.sl (some true) 1 false [],.sl (some true) 1 false [],.int .i64 0,.bool false],k:=5,fs:=[(0,30),(4,35),(9,24),(10,125),(11,3),(12,4)]}),
 (129,{n:=1,g:=false,by':=8,ok:=true,z:= .un,k:=6}),
 (130,{n:=1,g:=false,by':=8,ok:=true,z:= .un,k:=6}),
 (131,{n:=1,g:=false,by':=8,ok:=true,z:= .un,k:=6}),
 (132,{n:=1,g:=false,by':=8,ok:=true,z:= .un,k:=6}),
 (133,{n:=1,g:=false,by':=8,ok:=true,z:= .un,k:=6}),
 (134,{n:=1,g:=false,by':=8,ok:=true,z:= .un,k:=6}),
 (135,{n:=1,g:=false,by':=8,ok:=true,z:= .un,k:=6}),
 (136,{n:=1,g:=false,by':=8,ok:=true,z:= .un,k:=6}),
 (137,{n:=1,g:=false,by':=8,ok:=true,z:= .un,k:=6}),
 (138,{n:=1,g:=false,by':=8,ok:=true,z:= .un,k:=6}),
 (139,{n:=1,g:=false,by':=8,ok:=true,z:= .un,k:=6}),
 (140,{n:=1,g:=false,by':=8,ok:=true,z:= .un,k:=6}),
 (141,{n:=1,g:=false,by':=8,ok:=true,z:= .un,k:=6}),
 (142,{n:=1,g:=false,by':=8,ok:=true,z:= .un,k:=6}),
 (143,{n:=1,g:=false,by':=8,ok:=true,z:= .un,k:=6}),
 (144,{n:=1,g:=false,by':=24,ok:=true,z:= .sl (some true) 1 false [],k:=3,el:=9}),
 (145,{n:=1,g:=false,by':=8,ok:=true,z:= .un,k:=6}),
 (146,{n:=1,g:=false,by':=8,ok:=true,z:= .un,k:=6}),
 (147,{n:=1,g:=false,by':=8,ok:=true,z:= .un,k:=6}),
 (148,{n:=1,g:=false,by':=8,ok:=true,z:= .un,k:=6}),
 (149,{n:=1,g:=false,by':=8,ok:=true,z:= .un,k:=6}),
 (150,{n:=1,g:=false,by':=8,ok:=true,z:= .un,k:=6}),
 (151,{n:=1,g:=false,by':=8,ok:=true,z:= .un,k:=6}),
 (152,{n:=1,g:=false,by':=8,ok:=true,z:= .un,k:=6}),
 (153,{n:=1,g:=false,by':=8,ok:=true,z:= .un,k:=6}),
 (154,{n:=1,g:=false,by':=8,ok:=true,z:= .un,k:=6}),
 (156,{n:=1,g:=false,by':=8,ok:=true,z:= .un,k:=6}),
 (157,{n:=1,g:=false,by':=8,ok:=true,z:= .un,k:=6}),
 (158,{n:=1,g:=false,by':=8,ok:=true,z:= .un,k:=6}),
 (160,{n:=1,g:=false,by':=8,ok:=true,z:= .un,k:=6}),
 (161,{n:=1,g:=false,by':=8,ok:=true,z:= .un,k:=6}),
 (162,{n:=1,g:=false,by':=8,ok:=true,z:= .un,k:=6}),
 (163,{n:=1,g:=false,by':=8,ok:=true,z:= .un,k:=6}),
 (164,{n:=1,g:=false,by':=8,ok:=true,z:= .un,k:=6}),
 (165,{n:=1,g:=false,by':=8,ok:=true,z:= .un,k:=6}),
 (166,{n:=1,g:=false,by':=8,ok:=true,z:= .un,k:=6}),
 (167,{n:=1,g:=false,by':=8,ok:=true,z:= .un,k:=6}),
 (169,{n:=1,g:=false,by':=8,ok:=true,z:= .un,k:=6}),
 (170,{n:=1,g:=false,by':=8,ok:=true,z:= .int .u64 0,k:=0,ik:= .u64}),
 (171,{n:=12,g:=true,by':=96,ok:=true,z:= .agg [.int .u64 0,.int .u64 0,.int .u64 0,.int .u64 0,.int .u64 0,.int .u64 0,.int .u64 0,.int .u64 0,.int .u64 0,.int .u64 0,.int .u64 0,.int .u64 0],k:=4,el:=170,len:=12,cmp:=true,ck:=[0,0,0,0,0,0,0,0,0,0,0,0]}),
 (172,{n:=1,g:=false,by':=8,ok:=true,z:= .un,k:=6}),
 (173,{n:=1,g:=false,by':=8,ok:=true,z:= .un,k:=6}),
 (174,{n:=1,g:=false,by':=8,ok:=true,z:= .un,k:=6}),
 (175,{n:=1,g:=false,by':=8,ok:=true,z:= .int .u64 0,k:=0,ik:= .u64}),
 (176,{n:=1,g:=false,by':=8,ok:=true,z:= .un,k:=6}),
 (179,{n:=1,g:=false,by':=8,ok:=true,z:= .un,k:=6}),
 (180,{n:=1,g:=false,by':=16,ok:=true,z:= .un,k:=8}),
 (181,{n:=1,g:=false,by':=16,ok:=true,z:= .un,k:=8}),
 (183,{n:=1,g:=false,by':=8,ok:=true,z:= .un,k:=6}),
 (184,{n:=1,g:=false,by':=8,ok:=true,z:= .un,k:=6}),
 (186,{n:=1,g:=false,by':=8,ok:=true,z:= .un,k:=6}),
 (187,{n:=1,g:=false,by':=8,ok:=true,z:= .un,k:=6}),
 (188,{n:=1,g:=false,by':=8,ok:=true,z:= .un,k:=6}),
 (189,{n:=1,g:=false,by':=8,ok:=true,z:= .un,k:=6}),
 (191,{n:=1,g:=false,by':=24,ok:=true,z:= .sl (some true) 1 false [],k:=3,el:=40}),
 (193,{n:=1,g:=true,by':=24,ok:=true,z:= .agg [.sl (some true) 1 false []],k:=5,fs:=[(0,191)]}),
 (194,{n:=1,g:=false,by':=8,ok:=true,z:= .un,k:=6}),
 (195,{n:=1,g:=false,by':=8,ok:=true,z:= .un,k:=6}),
 (196,{n:=1,g:=false,by':=8,ok:=true,z:= .un,k:=6}),
 (197,{n:=1,g:=false,by':=8,ok:=true,z:= .un,k:=6}),
 (198,{n:=1,g:=false,by':=8,ok:=true,z:= .un,k:=6}),
 (200,{n:=34,g:=true,by':=48,ok:=true,z:= .agg [.int .u8 0,.int .u8 0,.int .u8 0,.int .u8 0,.int .u8 0,.int .u8 0,.int .u8 0,.int .u8 0,.int .u8 0,.int .u8 0,.int .u8 0,.int .u8 0,.int .u8 0,.int .u8 0,.int .u8 0,.int .u8 0,.int .u8 0,.int .u8 0,.int .u8 0,.int .u8 0,.int .u8 0,.int .u8 0,.int .u8 0,.int .u8 0,.int .u8 0,.int .u8 0,.int .u8 0,.int .u8 0,.int .u8 0,.int .u8 0,.int .u8 0,.int .u8 0,.int .i64 0,.bool false],k:=5,fs:=[(0,44),(33,4)],cmp:=true,ck:=[0,0,0,0,0,0,0,0,0,0,0,0,0,0,0,0,0,0,0,0,0,0,0,0,0,0,0,0,0,0,0,0,0,1]}),
 (201,{n:=1,g:=false,by':=8,ok:=true,z:= .un,k:=6}),
 (203,{n:=1,g:=false,by':=8,ok:=true,z:= .un,k:=6}),
 (204,{n:=1,g:=false,by':=8,ok:=true,z:= .un,k:=6}),
 (205,{n:=1,g:=false,by':=8,ok:=true,z:= .un,k:=6}),
 (206,{n:=8,g:=true,by':=32,ok:=true,z:= .agg [.int .u32 0,.int .u32 0,.int .u32 0,.int .u32 0,.int .u32 0,.int .u32 0,.int .u32 0,.int .u32 0],k:=4,el:=40,len:=8,cmp:=true,ck:=[0,0,0,0,0,0,0,0]}),
 (207,{n:=1,g:=false,by':=8,ok:=true,z:= .un,k:=6}),
 (208,{n:=1,g:=false,by':=8,ok:=true,z:= .un,k:=6}),
 (209,{n:=64,g:=true,by':=64,ok:=true,z:= .agg [.int .u8 0,.int .u8 0,.int .u8 0,.int .u8 0,.int .u8 0,.int .u8 0,.int .u8 0,.int .u8 0,.int .u8 0,.int .u8 0,.int .u8 0,.int .u8 0,.int .u8 0,.int .u8 0,.int .u8 0,.int .u8 0,.int .u8 0,.int .u8 0,.int .u8 0,.int .u8 0,.int .u8 0,.int .u8 0,.int .u8 0,.int .u8 0,.int .u8 0,.int .u8 0,.int .u8 0,.int .u8 0,.int .u8 0,.int .u8 0,.int .u8 0,.int .u8 0,.int .u8 0,.int .u8 0,.int .u8 0,.int .u8 0,.int .u8 0,.int .u8 0,.int .u8 0,.int .u8 0,.int .u8 0,.int .u8 0,.int .u8 0,.int .u8 0,.int .u8 0,.int .u8 0,.int .u8 0,.int .u8 0,.int .u8 0,.int .u8 0,.int .u8 0,.int .u8 0,.int .u8 0,.int .u8 0,.int .u8 0,.int .u8 0,.int .u8 0,.int .u8 0,.int .u8 0,.int .u8 0,.int .u8 0,.int .u8 0,.int .u8 0,.int .u8 0],k:=4,el:=5,len:=64,cmp:=true,ck:=[0,0,0,0,0,0,0,0,0,0,0,0,0,0,0,0,0,0,0,0,0,0,0,0,0,0,0,0,0,0,0,0,0,0,0,0,0,0,0,0,0,0,0,0,0,0,0,0,0,0,0,0,0,0,0,0,0,0,0,0,0,0,0,0]}),
 (210,{n:=1,g:=false,by':=8,ok:=true,z:= .un,k:=6}),
 (212,{n:=1,g:=false,by':=8,ok:=true,z:= .un,k:=6}),
 (213,{n:=1,g:=false,by':=8,ok:=true,z:= .un,k:=6}),
 (214,{n:=1,g:=false,by':=8,ok:=true,z:= .un,k:=6}),
 (215,{n:=1,g:=false,by':=8,ok:=true,z:= .un,k:=6}),
 (216,{n:=1,g:=false,by':=8,ok:=true,z:= .un,k:=6}),
 (217,{n:=1,g:=false,by':=8,ok:=true,z:= .un,k:=6}),
 (218,{n:=1,g:=false,by':=8,ok:=true,z:= .un,k:=6}),
 (219,{n:=1,g:=false,by':=8,ok:=true,z:= .un,k:=6}),
 (220,{n:=1,g:=false,by':=8,ok:=true,z:= .un,k:=6}),
 (221,{n:=1,g:=false,by':=8,ok:=true,z:= .un,k:=6}),
 (222,{n:=1,g:=false,by':=8,ok:=true,z:= .un,k:=6}),
 (223,{n:=1,g:=false,by':=8,ok:=true,z:= .un,k:=6}),
 (224,{n:=1,g:=false,by':=8,ok:=true,z:= .un,k:=6}),
 (225,{n:=1,g:=false,by':=8,ok:=true,z:= .un,k:=6}),
 (226,{n:=64,g:=true,by':=256,ok:=true,z:= .agg [.int .u32 0,.int .u32 0,.int .u32 0,.int .u32 0,.int .u32 0,.int .u32 0,.int .u32 0,.int .u32 0,.int .u32 0,.int .u32 0,.int .u32 0,.int .u32 0,.int .u32 0,.int .u32 0,.int .u32 0,.int .u32 0,.int .u32 0,.int .u32 0,.int .u32 0,.int .u32 0,.int .u32 0,.int .u32 0,.int .u32 0,.int .u32 0,.int .u32 0,.int .u32 0,.int .u32 0,.int .u32 0,.int .u32 0,.int .u32 0,.int .u32 0,.int .u32 0,.int .u32 0,.int .u32 0,.int .u32 0,.int .u32 0,.int .u32 0,.int .u32 0,.int .u32 0,.int .u32 0,.int .u32 0,.int .u32 0,.int .u32 0,.int .u32 0,.int .u32 0,.int .u32 0,.int .u32 0,.int .u32 0,.int .u32 0,.int .u32 0,.int .u32 0,.int .u32 0,.int .u32 0,.int .u32 0,.int .u32 0,.int .u32 0,.int .u32 0,.int .u32 0,.int .u32 0,.int .u32 0,.int .u32 0,.int .u32 0,.int .u32 0,.int .u32 0],k:=4,el:=40,len:=64,cmp:=true,ck:=[0,0,0,0,0,0,0,0,0,0,0,0,0,0,0,0,0,0,0,0,0,0,0,0,0,0,0,0,0,0,0,0,0,0,0,0,0,0,0,0,0,0,0,0,0,0,0,0,0,0,0,0,0,0,0,0,0,0,0,0,0,0,0,0]}),
 (227,{n:=1,g:=false,by':=8,ok:=true,z:= .un,k:=6}),
 (228,{n:=1,g:=false,by':=8,ok:=true,z:= .un,k:=6}),
 (229,{n:=1,g:=false,by':=8,ok:=true,z:= .un,k:=6}),
 (230,{n:=1,g:=false,by':=8,ok:=true,z:= .un,k:=6}),
 (231,{n:=1,g:=false,by':=8,ok:=true,z:= .un,k:=6}),
 (232,{n:=1,g:=false,by':=8,ok:=true,z:= .un,k:=6}),
 (233,{n:=1,g:=false,by':=8,ok:=true,z:= .un,k:=6}),
 (234,{n:=1,g:=false,by':=8,ok:=true,z:= .un,k:=6}),
 (235,{n:=1,g:=false,by':=8,ok:=true,z:= .un,k:=6}),
 (238,{n:=1,g:=false,by':=8,ok:=true,z:= .un,k:=6}),
 (239,{n:=1,g:=false,by':=8,ok:=true,z:= .un,k:=6}),
 (240,{n:=1,g:=false,by':=8,ok:=true,z:= .un,k:=6}),
 (241,{n:=1,g:=false,by':=8,ok:=true,z:= .un,k:=6}),
 (242,{n:=24,g:=true,by':=24,ok:=true,z:= .agg [.int .u8 0,.int .u8 0,.int .u8 0,.int .u8 0,.int .u8 0,.int .u8 0,.int .u8 0,.int .u8 0,.int .u8 0,.int .u8 0,.int .u8 0,.int .u8 0,.int .u8 0,.int .u8 0,.int .u8 0,.int .u8 0,.int .u8 0,.int .u8 0,.int .u8 0,.int .u8 0,.int .u8 0,.int .u8 0,.int .u8 0,.int .u8 0],k:=4,el:=5,len:=24,cmp:=true,ck:=[0,0,0,0,0,0,0,0,0,0,0,0,0,0,0,0,0,0,0,0,0,0,0,0]}),
 (243,{n:=1,g:=false,by':=8,ok:=true,z:= .un,k:=6}),
 (255,{n:=20,g:=true,by':=160,ok:=true,z:= .agg [.int .u64 0,.int .u64 0,.int .u64 0,.int .u64 0,.int .u64 0,.int .u64 0,.int .u64 0,.int .u64 0,.int .u64 0,.int .u64 0,.int .u64 0,.int .u64 0,.int .u64 0,.int .u64 0,.int .u64 0,.int .u64 0,.int .u64 0,.int .u64 0,.int .u64 0,.int .u64 0],k:=4,el:=170,len:=20,cmp:=true,ck:=[0,0,0,0,0,0,0,0,0,0,0,0,0,0,0,0,0,0,0,0]}),
 (256,{n:=65,g:=true,by':=65,ok:=true,z:= .agg [.int .u8 0,.int .u8 0,.int .u8 0,.int .u8 0,.int .u8 0,.int .u8 0,.int .u8 0,.int .u8 0,.int .u8 0,.int .u8 0,.int .u8 0,.int .u8 0,.int .u8 0,.int .u8 0,.int .u8 0,.int .u8 0,.int .u8 0,.int .u8 0,.int .u8 0,.int .u8 0,.int .u8 0,.int .u8 0,.int .u8 0,.int .u8 0,.int .u8 0,.int .u8 0,.int .u8 0,.int .u8 0,.int .u8 0,.int .u8 0,.int .u8 0,.int .u8 0,.int .u8 0,.int .u8 0,.int .u8 0,.int .u8 0,.int .u8 0,.int .u8 0,.int .u8 0,.int .u8 0,.int .u8 0,.int .u8 0,.int .u8 0,.int .u8 0,.int .u8 0,.int .u8 0,.int .u8 0,.int .u8 0,.int .u8 0,.int .u8 0,.int .u8 0,.int .u8 0,.int .u8 0,.int .u8 0,.int .u8 0,.int .u8 0,.int .u8 0,.int .u8 0,.int .u8 0,.int .u8 0,.int .u8 0,.int .u8 0,.int .u8 0,.int .u8 0,.int .u8 0],k:=4,el:=5,len:=65,cmp:=true,ck:=[0,0,0,0,0,0,0,0,0,0,0,0,0,0,0,0,0,0,0,0,0,0,0,0,0,0,0,0,0,0,0,0,0,0,0,0,0,0,0,0,0,0,0,0,0,0,0,0,0,0,0,0,0,0,0,0,0,0,0,0,0,0,0,0,0]}),
 (260,{n:=1,g:=false,by':=8,ok:=true,z:= .un,k:=6}),
 (271,{n:=1,g:=false,by':=8,ok:=true,z:= .un,k:=6})]
noncomputable def En:Env:={P:=Tryz.prog,tb:=lY tbl,gv:=fun g=>if g=0 then some (.pp 12 true (.agg (cF.map (V.int .u64)))) else if g=1 then some (.pp 8 true (.agg [.int .u32 1779033703,.int .u32 3144134277,.int .u32 1013904242,.int .u32 2773480762,.int .u32 1359893119,.int .u32 2600822924,.int .u32 528734635,.int .u32 1541459225])) else if g=2 then some (.pp 64 true (.agg (jb.map (V.int .u8)))) else if g=3 then some (.pp 64 true (.agg (me.map (V.int .u32)))) else if g=6 then some (.pp 1 false (.opq AZ)) else if g=7 then some (.opq (sq Tryz.prog 7 "strconv.ErrSyntax")) else if g=8 then some (.opq (sq Tryz.prog 8 "strconv.ErrRange")) else if g=9 then some (.opq (AY Tryz.prog 9 "internal/strconv.uint64pow10" .u64 Lib.pow10Tab)) else none}
@[go_sem] theorem gv0:En.gv 0=some (.pp 12 true (.agg (cF.map (V.int .u64)))):=Eq.trans rfl rfl
@[go_sem] theorem gv1:En.gv 1=some (.pp 8 true (.agg [.int .u32 1779033703,.int .u32 3144134277,.int .u32 1013904242,.int .u32 2773480762,.int .u32 1359893119,.int .u32 2600822924,.int .u32 528734635,.int .u32 1541459225])):=Eq.trans rfl rfl
@[go_sem] theorem gv2:En.gv 2=some (.pp 64 true (.agg (jb.map (V.int .u8)))):=Eq.trans rfl rfl
@[go_sem] theorem gv3:En.gv 3=some (.pp 64 true (.agg (me.map (V.int .u32)))):=Eq.trans rfl rfl
set_option maxRecDepth 100000
theorem Jz:zC Tryz.prog tbl=true:=by kernel_rfl
theorem bc:bC En:=⟨fun _ h=>tOk (l:=tbl) Jz h⟩
theorem bA:En.P.follows .mixedOrders=true:=by kernel_rfl
@[go_sem] theorem tb1:En.tb 1={n:=1,g:=false,by':=8,ok:=true,z:= .un,k:=6}:=rfl
@[go_sem] theorem tb2:En.tb 2={n:=1,g:=false,by':=8,ok:=true,z:= .int .i64 0,k:=0,ik:= .i64}:=rfl
@[go_sem] theorem tb3:En.tb 3={n:=1,g:=false,by':=8,ok:=true,z:= .int .i64 0,k:=0,ik:= .i64}:=rfl
@[go_sem] theorem tb4:En.tb 4={n:=1,g:=false,by':=1,ok:=true,z:= .bool false,k:=1}:=rfl
@[go_sem] theorem tb5:En.tb 5={n:=1,g:=false,by':=1,ok:=true,z:= .int .u8 0,k:=0,ik:= .u8}:=rfl
@[go_sem] theorem tb9:En.tb 9={n:=1,g:=false,by':=16,ok:=true,z:= .str [],k:=2}:=rfl
@[go_sem] theorem tb12:En.tb 12={n:=1,g:=false,by':=8,ok:=true,z:= .int .u64 0,k:=0,ik:= .u64}:=rfl
@[go_sem] theorem tb15:En.tb 15={n:=1,g:=false,by':=8,ok:=true,z:= .un,k:=6}:=rfl
@[go_sem] theorem tb16:En.tb 16={n:=1,g:=false,by':=8,ok:=true,z:= .un,k:=6}:=rfl
@[go_sem] theorem tb17:En.tb 17={n:=1,g:=false,by':=8,ok:=true,z:= .un,k:=6}:=rfl
@[go_sem] theorem tb20:En.tb 20={n:=1,g:=false,by':=16,ok:=true,z:= .un,k:=8}:=rfl
@[go_sem] theorem tb21:En.tb 21={n:=1,g:=false,by':=4,ok:=true,z:= .int .i32 0,k:=0,ik:= .i32}:=rfl
@[go_sem] theorem nA:En.tb 23={n:=3,g:=true,by':=24,ok:=true,z:= .agg [.int .i64 0,.int .i64 0,.int .i64 0],k:=5,fs:=[(0,3),(1,3),(2,3)],cmp:=true,ck:=[0,0,0]}:=rfl
@[go_sem] theorem mf:En.tb 24={n:=1,g:=false,by':=24,ok:=true,z:= .sl (some true) 1 false [],k:=3,el:=3}:=rfl
@[go_sem] theorem sr:En.tb 25={n:=1,g:=false,by':=24,ok:=true,z:= .sl (some true) 1 false [],k:=3,el:=24}:=rfl
@[go_sem] theorem ss:En.tb 27={n:=2,g:=true,by':=48,ok:=true,z:= .agg [.sl (some true) 1 false [],.sl (some true) 1 false []],k:=5,fs:=[(0,24),(1,25)]}:=rfl
@[go_sem] theorem su:En.tb 28={n:=1,g:=false,by':=24,ok:=true,z:= .sl (some true) 4 true [],k:=3,el:=30}:=rfl
@[go_sem] theorem mg:En.tb 30={n:=4,g:=true,by':=80,ok:=true,z:= .agg [.int .i64 0,.sl (some true) 1 false [],.sl (some true) 1 false [],.sl (some true) 4 true []],k:=5,fs:=[(0,3),(1,27),(3,28)]}:=rfl
@[go_sem] theorem tb32:En.tb 32={n:=3,g:=true,by':=56,ok:=true,z:= .agg [.sl (some true) 1 false [],.int .i64 0,.sl (some true) 1 false []],k:=5,fs:=[(0,24),(1,3),(2,24)]}:=rfl
@[go_sem] theorem tb33:En.tb 33={n:=1,g:=false,by':=24,ok:=true,z:= .sl (some true) 5 true [],k:=3,el:=35}:=rfl
@[go_sem] theorem tb35:En.tb 35={n:=5,g:=true,by':=88,ok:=true,z:= .agg [.int .i64 0,.sl (some true) 1 false [],.int .i64 0,.sl (some true) 1 false [],.sl (some true) 5 true []],k:=5,fs:=[(0,3),(1,32),(4,33)]}:=rfl
@[go_sem] theorem tb36:En.tb 36={n:=1,g:=false,by':=8,ok:=true,z:= .un,k:=6}:=rfl
@[go_sem] theorem tb37:En.tb 37={n:=1,g:=false,by':=8,ok:=true,z:= .un,k:=6}:=rfl
@[go_sem] theorem tb38:En.tb 38={n:=1,g:=false,by':=8,ok:=true,z:= .un,k:=6}:=rfl
@[go_sem] theorem tb39:En.tb 39={n:=1,g:=false,by':=8,ok:=true,z:= .un,k:=6}:=rfl
@[go_sem] theorem pe:En.tb 40={n:=1,g:=false,by':=4,ok:=true,z:= .int .u32 0,k:=0,ik:= .u32}:=rfl
@[go_sem] theorem tb41:En.tb 41={n:=32,g:=true,by':=32,ok:=true,z:= .agg [.int .u8 0,.int .u8 0,.int .u8 0,.int .u8 0,.int .u8 0,.int .u8 0,.int .u8 0,.int .u8 0,.int .u8 0,.int .u8 0,.int .u8 0,.int .u8 0,.int .u8 0,.int .u8 0,.int .u8 0,.int .u8 0,.int .u8 0,.int .u8 0,.int .u8 0,.int .u8 0,.int .u8 0,.int .u8 0,.int .u8 0,.int .u8 0,.int .u8 0,.int .u8 0,.int .u8 0,.int .u8 0,.int .u8 0,.int .u8 0,.int .u8 0,.int .u8 0],k:=4,el:=5,len:=32,cmp:=true,ck:=[0,0,0,0,0,0,0,0,0,0,0,0,0,0,0,0,0,0,0,0,0,0,0,0,0,0,0,0,0,0,0,0]}:=rfl
@[go_sem] theorem pf:En.tb 42={n:=32,g:=true,by':=32,ok:=true,z:= .agg [.int .u8 0,.int .u8 0,.int .u8 0,.int .u8 0,.int .u8 0,.int .u8 0,.int .u8 0,.int .u8 0,.int .u8 0,.int .u8 0,.int .u8 0,.int .u8 0,.int .u8 0,.int .u8 0,.int .u8 0,.int .u8 0,.int .u8 0,.int .u8 0,.int .u8 0,.int .u8 0,.int .u8 0,.int .u8 0,.int .u8 0,.int .u8 0,.int .u8 0,.int .u8 0,.int .u8 0,.int .u8 0,.int .u8 0,.int .u8 0,.int .u8 0,.int .u8 0],k:=4,el:=5,len:=32,cmp:=true,ck:=[0,0,0,0,0,0,0,0,0,0,0,0,0,0,0,0,0,0,0,0,0,0,0,0,0,0,0,0,0,0,0,0]}:=rfl
@[go_sem] theorem nB:En.tb 44={n:=33,g:=true,by':=40,ok:=true,z:= .agg [.int .u8 0,.int .u8 0,.int .u8 0,.int .u8 0,.int .u8 0,.int .u8 0,.int .u8 0,.int .u8 0,.int .u8 0,.int .u8 0,.int .u8 0,.int .u8 0,.int .u8 0,.int .u8 0,.int .u8 0,.int .u8 0,.int .u8 0,.int .u8 0,.int .u8 0,.int .u8 0,.int .u8 0,.int .u8 0,.int .u8 0,.int .u8 0,.int .u8 0,.int .u8 0,.int .u8 0,.int .u8 0,.int .u8 0,.int .u8 0,.int .u8 0,.int .u8 0,.int .i64 0],k:=5,fs:=[(0,42),(32,3)],cmp:=true,ck:=[0,0,0,0,0,0,0,0,0,0,0,0,0,0,0,0,0,0,0,0,0,0,0,0,0,0,0,0,0,0,0,0,0]}:=rfl
@[go_sem] theorem tb45:En.tb 45={n:=1,g:=false,by':=8,ok:=true,z:= .un,k:=6}:=rfl
@[go_sem] theorem tb46:En.tb 46={n:=1,g:=false,by':=8,ok:=true,z:= .int .i64 0,k:=0,ik:= .i64}:=rfl
@[go_sem] theorem tb48:En.tb 48={n:=1,g:=false,by':=8,ok:=true,z:= .un,k:=6}:=rfl
@[go_sem] theorem tb49:En.tb 49={n:=1,g:=false,by':=8,ok:=true,z:= .un,k:=6}:=rfl
@[go_sem] theorem tb50:En.tb 50={n:=1,g:=false,by':=8,ok:=true,z:= .un,k:=6}:=rfl
@[go_sem] theorem tb51:En.tb 51={n:=1,g:=false,by':=8,ok:=true,z:= .un,k:=6}:=rfl
@[go_sem] theorem tb52:En.tb 52={n:=1,g:=false,by':=8,ok:=true,z:= .un,k:=6}:=rfl
@[go_sem] theorem tb54:En.tb 54={n:=1,g:=false,by':=8,ok:=true,z:= .un,k:=6}:=rfl
@[go_sem] theorem tb55:En.tb 55={n:=1,g:=false,by':=8,ok:=true,z:= .un,k:=6}:=rfl
@[go_sem] theorem tb56:En.tb 56={n:=1,g:=false,by':=8,ok:=true,z:= .un,k:=6}:=rfl
@[go_sem] theorem tb57:En.tb 57={n:=1,g:=false,by':=8,ok:=true,z:= .un,k:=6}:=rfl
@[go_sem] theorem tb58:En.tb 58={n:=1,g:=false,by':=8,ok:=true,z:= .un,k:=6}:=rfl
@[go_sem] theorem tb59:En.tb 59={n:=1,g:=false,by':=8,ok:=true,z:= .un,k:=6}:=rfl
@[go_sem] theorem tb60:En.tb 60={n:=1,g:=false,by':=8,ok:=true,z:= .un,k:=6}:=rfl
@[go_sem] theorem tb62:En.tb 62={n:=1,g:=false,by':=8,ok:=true,z:= .un,k:=6}:=rfl
@[go_sem] theorem tb64:En.tb 64={n:=1,g:=false,by':=8,ok:=true,z:= .un,k:=6}:=rfl
@[go_sem] theorem tb65:En.tb 65={n:=1,g:=false,by':=8,ok:=true,z:= .un,k:=6}:=rfl
@[go_sem] theorem tb66:En.tb 66={n:=1,g:=false,by':=8,ok:=true,z:= .un,k:=6}:=rfl
@[go_sem] theorem tb67:En.tb 67={n:=1,g:=false,by':=8,ok:=true,z:= .un,k:=6}:=rfl
@[go_sem] theorem tb68:En.tb 68={n:=1,g:=false,by':=8,ok:=true,z:= .un,k:=6}:=rfl
@[go_sem] theorem tb69:En.tb 69={n:=1,g:=false,by':=8,ok:=true,z:= .un,k:=6}:=rfl
@[go_sem] theorem tb70:En.tb 70={n:=1,g:=false,by':=8,ok:=true,z:= .un,k:=6}:=rfl
@[go_sem] theorem tb72:En.tb 72={n:=37,g:=true,by':=72,ok:=true,z:= .agg [.int .i64 0,.int .i64 0,.int .i64 0,.int .u8 0,.int .u8 0,.int .u8 0,.int .u8 0,.int .u8 0,.int .u8 0,.int .u8 0,.int .u8 0,.int .u8 0,.int .u8 0,.int .u8 0,.int .u8 0,.int .u8 0,.int .u8 0,.int .u8 0,.int .u8 0,.int .u8 0,.int .u8 0,.int .u8 0,.int .u8 0,.int .u8 0,.int .u8 0,.int .u8 0,.int .u8 0,.int .u8 0,.int .u8 0,.int .u8 0,.int .u8 0,.int .u8 0,.int .u8 0,.int .u8 0,.int .u8 0,.int .i64 0,.int .i64 0],k:=5,fs:=[(0,23),(3,44),(36,46)],cmp:=true,ck:=[0,0,0,0,0,0,0,0,0,0,0,0,0,0,0,0,0,0,0,0,0,0,0,0,0,0,0,0,0,0,0,0,0,0,0,0,0]}:=rfl
@[go_sem] theorem tb73:En.tb 73={n:=1,g:=false,by':=8,ok:=true,z:= .un,k:=6}:=rfl
@[go_sem] theorem tb74:En.tb 74={n:=1,g:=false,by':=8,ok:=true,z:= .un,k:=6}:=rfl
@[go_sem] theorem tb75:En.tb 75={n:=1,g:=false,by':=8,ok:=true,z:= .un,k:=6}:=rfl
@[go_sem] theorem tb76:En.tb 76={n:=1,g:=false,by':=8,ok:=true,z:= .un,k:=6}:=rfl
@[go_sem] theorem tb78:En.tb 78={n:=33,g:=true,by':=40,ok:=true,z:= .agg [.int .u8 0,.int .u8 0,.int .u8 0,.int .u8 0,.int .u8 0,.int .u8 0,.int .u8 0,.int .u8 0,.int .u8 0,.int .u8 0,.int .u8 0,.int .u8 0,.int .u8 0,.int .u8 0,.int .u8 0,.int .u8 0,.int .u8 0,.int .u8 0,.int .u8 0,.int .u8 0,.int .u8 0,.int .u8 0,.int .u8 0,.int .u8 0,.int .u8 0,.int .u8 0,.int .u8 0,.int .u8 0,.int .u8 0,.int .u8 0,.int .u8 0,.int .u8 0,.int .i64 0],k:=5,fs:=[(0,42),(32,3)],cmp:=true,ck:=[0,0,0,0,0,0,0,0,0,0,0,0,0,0,0,0,0,0,0,0,0,0,0,0,0,0,0,0,0,0,0,0,0]}:=rfl
@[go_sem] theorem tb80:En.tb 80={n:=1,g:=false,by':=8,ok:=true,z:= .un,k:=6}:=rfl
@[go_sem] theorem tb81:En.tb 81={n:=1,g:=false,by':=8,ok:=true,z:= .un,k:=6}:=rfl
@[go_sem] theorem tb82:En.tb 82={n:=1,g:=false,by':=8,ok:=true,z:= .un,k:=6}:=rfl
@[go_sem] theorem tb83:En.tb 83={n:=1,g:=false,by':=8,ok:=true,z:= .un,k:=6}:=rfl
@[go_sem] theorem tb84:En.tb 84={n:=1,g:=false,by':=8,ok:=true,z:= .un,k:=6}:=rfl
@[go_sem] theorem tb85:En.tb 85={n:=1,g:=false,by':=8,ok:=true,z:= .un,k:=6}:=rfl
@[go_sem] theorem tb86:En.tb 86={n:=1,g:=false,by':=8,ok:=true,z:= .un,k:=6}:=rfl
@[go_sem] theorem tb88:En.tb 88={n:=2,g:=true,by':=24,ok:=true,z:= .agg [.str [],.bool false],k:=5,fs:=[(0,9),(1,4)],cmp:=true,ck:=[2,1]}:=rfl
@[go_sem] theorem tb89:En.tb 89={n:=1,g:=false,by':=8,ok:=true,z:= .un,k:=6}:=rfl
@[go_sem] theorem tb90:En.tb 90={n:=1,g:=false,by':=8,ok:=true,z:= .un,k:=6}:=rfl
@[go_sem] theorem tb91:En.tb 91={n:=1,g:=false,by':=8,ok:=true,z:= .un,k:=6}:=rfl
@[go_sem] theorem tb92:En.tb 92={n:=1,g:=false,by':=8,ok:=true,z:= .un,k:=6}:=rfl
@[go_sem] theorem tb93:En.tb 93={n:=1,g:=false,by':=8,ok:=true,z:= .un,k:=6}:=rfl
@[go_sem] theorem tb94:En.tb 94={n:=1,g:=false,by':=8,ok:=true,z:= .un,k:=6}:=rfl
@[go_sem] theorem tb95:En.tb 95={n:=1,g:=false,by':=8,ok:=true,z:= .un,k:=6}:=rfl
@[go_sem] theorem tb96:En.tb 96={n:=1,g:=false,by':=8,ok:=true,z:= .un,k:=6}:=rfl
@[go_sem] theorem tb97:En.tb 97={n:=1,g:=false,by':=8,ok:=true,z:= .un,k:=6}:=rfl
@[go_sem] theorem tb98:En.tb 98={n:=1,g:=false,by':=8,ok:=true,z:= .un,k:=6}:=rfl
@[go_sem] theorem tb99:En.tb 99={n:=1,g:=false,by':=24,ok:=true,z:= .sl (some true) 1 false [],k:=3,el:=5}:=rfl
@[go_sem] theorem tb100:En.tb 100={n:=1,g:=false,by':=24,ok:=true,z:= .sl (some true) 4 true [],k:=3,el:=102}:=rfl
@[go_sem] theorem tb102:En.tb 102={n:=4,g:=true,by':=64,ok:=true,z:= .agg [.int .i64 0,.int .i64 0,.sl (some true) 1 false [],.sl (some true) 4 true []],k:=5,fs:=[(0,3),(1,3),(2,99),(3,100)]}:=rfl
@[go_sem] theorem tb103:En.tb 103={n:=1,g:=false,by':=8,ok:=true,z:= .un,k:=6}:=rfl
@[go_sem] theorem tb104:En.tb 104={n:=1,g:=false,by':=8,ok:=true,z:= .un,k:=6}:=rfl
@[go_sem] theorem tb105:En.tb 105={n:=1,g:=false,by':=8,ok:=true,z:= .un,k:=6}:=rfl
@[go_sem] theorem tb107:En.tb 107={n:=1,g:=false,by':=8,ok:=true,z:= .un,k:=6}:=rfl
@[go_sem] theorem tb108:En.tb 108={n:=1,g:=false,by':=8,ok:=true,z:= .un,k:=6}:=rfl
@[go_sem] theorem tb109:En.tb 109={n:=1,g:=false,by':=8,ok:=true,z:= .un,k:=6}:=rfl
@[go_sem] theorem tb111:En.tb 111={n:=1,g:=false,by':=8,ok:=true,z:= .un,k:=6}:=rfl
@[go_sem] theorem tb112:En.tb 112={n:=1,g:=false,by':=8,ok:=true,z:= .un,k:=6}:=rfl
@[go_sem] theorem tb114:En.tb 114={n:=1,g:=false,by':=8,ok:=true,z:= .un,k:=6}:=rfl
@[go_sem] theorem tb115:En.tb 115={n:=1,g:=false,by':=8,ok:=true,z:= .un,k:=6}:=rfl
@[go_sem] theorem tb116:En.tb 116={n:=1,g:=false,by':=8,ok:=true,z:= .un,k:=6}:=rfl
@[go_sem] theorem tb117:En.tb 117={n:=1,g:=false,by':=8,ok:=true,z:= .un,k:=6}:=rfl
@[go_sem] theorem tb119:En.tb 119={n:=1,g:=false,by':=8,ok:=true,z:= .un,k:=6}:=rfl
@[go_sem] theorem tb120:En.tb 120={n:=1,g:=false,by':=8,ok:=true,z:= .un,k:=6}:=rfl
@[go_sem] theorem tb122:En.tb 122={n:=1,g:=false,by':=8,ok:=true,z:= .un,k:=6}:=rfl
@[go_sem] theorem tb123:En.tb 123={n:=1,g:=false,by':=8,ok:=true,z:= .un,k:=6}:=rfl
@[go_sem] theorem tb124:En.tb 124={n:=1,g:=false,by':=8,ok:=true,z:= .un,k:=6}:=rfl
@[go_sem] theorem tb125:En.tb 125={n:=1,g:=false,by':=24,ok:=true,z:= .sl (some true) 1 false [],k:=3,el:=82}:=rfl
@[go_sem] theorem tb127:En.tb 127={n:=13,g:=true,by':=232,ok:=true,z:= .agg [.int .i64 0,.sl (some true) 1 false [],.sl (some true) 1 false [],.sl (some true) 4 true [],.int .i64 0,.sl (some true) 1 false [],.int .i64 0,.sl (some true) 1 false [],.sl (some true) 5 true [],.sl (some true) 1 false [],.sl (some true) 1 false [],.int .i64 0,.bool false],k:=5,fs:=[(0,30),(4,35),(9,24),(10,125),(11,3),(12,4)]}:=rfl
@[go_sem] theorem tb129:En.tb 129={n:=1,g:=false,by':=8,ok:=true,z:= .un,k:=6}:=rfl
@[go_sem] theorem tb130:En.tb 130={n:=1,g:=false,by':=8,ok:=true,z:= .un,k:=6}:=rfl
@[go_sem] theorem tb131:En.tb 131={n:=1,g:=false,by':=8,ok:=true,z:= .un,k:=6}:=rfl
@[go_sem] theorem tb132:En.tb 132={n:=1,g:=false,by':=8,ok:=true,z:= .un,k:=6}:=rfl
@[go_sem] theorem tb133:En.tb 133={n:=1,g:=false,by':=8,ok:=true,z:= .un,k:=6}:=rfl
@[go_sem] theorem tb134:En.tb 134={n:=1,g:=false,by':=8,ok:=true,z:= .un,k:=6}:=rfl
@[go_sem] theorem tb135:En.tb 135={n:=1,g:=false,by':=8,ok:=true,z:= .un,k:=6}:=rfl
@[go_sem] theorem tb136:En.tb 136={n:=1,g:=false,by':=8,ok:=true,z:= .un,k:=6}:=rfl
@[go_sem] theorem tb137:En.tb 137={n:=1,g:=false,by':=8,ok:=true,z:= .un,k:=6}:=rfl
@[go_sem] theorem tb138:En.tb 138={n:=1,g:=false,by':=8,ok:=true,z:= .un,k:=6}:=rfl
@[go_sem] theorem tb139:En.tb 139={n:=1,g:=false,by':=8,ok:=true,z:= .un,k:=6}:=rfl
@[go_sem] theorem tb140:En.tb 140={n:=1,g:=false,by':=8,ok:=true,z:= .un,k:=6}:=rfl
@[go_sem] theorem tb141:En.tb 141={n:=1,g:=false,by':=8,ok:=true,z:= .un,k:=6}:=rfl
@[go_sem] theorem tb142:En.tb 142={n:=1,g:=false,by':=8,ok:=true,z:= .un,k:=6}:=rfl
@[go_sem] theorem tb143:En.tb 143={n:=1,g:=false,by':=8,ok:=true,z:= .un,k:=6}:=rfl
@[go_sem] theorem tb144:En.tb 144={n:=1,g:=false,by':=24,ok:=true,z:= .sl (some true) 1 false [],k:=3,el:=9}:=rfl
@[go_sem] theorem tb145:En.tb 145={n:=1,g:=false,by':=8,ok:=true,z:= .un,k:=6}:=rfl
@[go_sem] theorem tb146:En.tb 146={n:=1,g:=false,by':=8,ok:=true,z:= .un,k:=6}:=rfl
@[go_sem] theorem tb147:En.tb 147={n:=1,g:=false,by':=8,ok:=true,z:= .un,k:=6}:=rfl
@[go_sem] theorem tb148:En.tb 148={n:=1,g:=false,by':=8,ok:=true,z:= .un,k:=6}:=rfl
@[go_sem] theorem tb149:En.tb 149={n:=1,g:=false,by':=8,ok:=true,z:= .un,k:=6}:=rfl
@[go_sem] theorem tb150:En.tb 150={n:=1,g:=false,by':=8,ok:=true,z:= .un,k:=6}:=rfl
@[go_sem] theorem tb151:En.tb 151={n:=1,g:=false,by':=8,ok:=true,z:= .un,k:=6}:=rfl
@[go_sem] theorem tb152:En.tb 152={n:=1,g:=false,by':=8,ok:=true,z:= .un,k:=6}:=rfl
@[go_sem] theorem tb153:En.tb 153={n:=1,g:=false,by':=8,ok:=true,z:= .un,k:=6}:=rfl
@[go_sem] theorem tb154:En.tb 154={n:=1,g:=false,by':=8,ok:=true,z:= .un,k:=6}:=rfl
@[go_sem] theorem tb156:En.tb 156={n:=1,g:=false,by':=8,ok:=true,z:= .un,k:=6}:=rfl
@[go_sem] theorem tb157:En.tb 157={n:=1,g:=false,by':=8,ok:=true,z:= .un,k:=6}:=rfl
@[go_sem] theorem tb158:En.tb 158={n:=1,g:=false,by':=8,ok:=true,z:= .un,k:=6}:=rfl
@[go_sem] theorem tb160:En.tb 160={n:=1,g:=false,by':=8,ok:=true,z:= .un,k:=6}:=rfl
@[go_sem] theorem tb161:En.tb 161={n:=1,g:=false,by':=8,ok:=true,z:= .un,k:=6}:=rfl
@[go_sem] theorem tb162:En.tb 162={n:=1,g:=false,by':=8,ok:=true,z:= .un,k:=6}:=rfl
@[go_sem] theorem tb163:En.tb 163={n:=1,g:=false,by':=8,ok:=true,z:= .un,k:=6}:=rfl
@[go_sem] theorem tb164:En.tb 164={n:=1,g:=false,by':=8,ok:=true,z:= .un,k:=6}:=rfl
@[go_sem] theorem tb165:En.tb 165={n:=1,g:=false,by':=8,ok:=true,z:= .un,k:=6}:=rfl
@[go_sem] theorem tb166:En.tb 166={n:=1,g:=false,by':=8,ok:=true,z:= .un,k:=6}:=rfl
@[go_sem] theorem tb167:En.tb 167={n:=1,g:=false,by':=8,ok:=true,z:= .un,k:=6}:=rfl
@[go_sem] theorem tb169:En.tb 169={n:=1,g:=false,by':=8,ok:=true,z:= .un,k:=6}:=rfl
@[go_sem] theorem tb170:En.tb 170={n:=1,g:=false,by':=8,ok:=true,z:= .int .u64 0,k:=0,ik:= .u64}:=rfl
@[go_sem] theorem tb171:En.tb 171={n:=12,g:=true,by':=96,ok:=true,z:= .agg [.int .u64 0,.int .u64 0,.int .u64 0,.int .u64 0,.int .u64 0,.int .u64 0,.int .u64 0,.int .u64 0,.int .u64 0,.int .u64 0,.int .u64 0,.int .u64 0],k:=4,el:=170,len:=12,cmp:=true,ck:=[0,0,0,0,0,0,0,0,0,0,0,0]}:=rfl
@[go_sem] theorem tb172:En.tb 172={n:=1,g:=false,by':=8,ok:=true,z:= .un,k:=6}:=rfl
@[go_sem] theorem tb173:En.tb 173={n:=1,g:=false,by':=8,ok:=true,z:= .un,k:=6}:=rfl
@[go_sem] theorem tb174:En.tb 174={n:=1,g:=false,by':=8,ok:=true,z:= .un,k:=6}:=rfl
@[go_sem] theorem tb175:En.tb 175={n:=1,g:=false,by':=8,ok:=true,z:= .int .u64 0,k:=0,ik:= .u64}:=rfl
@[go_sem] theorem tb176:En.tb 176={n:=1,g:=false,by':=8,ok:=true,z:= .un,k:=6}:=rfl
@[go_sem] theorem tb179:En.tb 179={n:=1,g:=false,by':=8,ok:=true,z:= .un,k:=6}:=rfl
@[go_sem] theorem tb180:En.tb 180={n:=1,g:=false,by':=16,ok:=true,z:= .un,k:=8}:=rfl
@[go_sem] theorem tb181:En.tb 181={n:=1,g:=false,by':=16,ok:=true,z:= .un,k:=8}:=rfl
@[go_sem] theorem tb183:En.tb 183={n:=1,g:=false,by':=8,ok:=true,z:= .un,k:=6}:=rfl
@[go_sem] theorem tb184:En.tb 184={n:=1,g:=false,by':=8,ok:=true,z:= .un,k:=6}:=rfl
@[go_sem] theorem tb186:En.tb 186={n:=1,g:=false,by':=8,ok:=true,z:= .un,k:=6}:=rfl
@[go_sem] theorem tb187:En.tb 187={n:=1,g:=false,by':=8,ok:=true,z:= .un,k:=6}:=rfl
@[go_sem] theorem tb188:En.tb 188={n:=1,g:=false,by':=8,ok:=true,z:= .un,k:=6}:=rfl
@[go_sem] theorem tb189:En.tb 189={n:=1,g:=false,by':=8,ok:=true,z:= .un,k:=6}:=rfl
@[go_sem] theorem tb191:En.tb 191={n:=1,g:=false,by':=24,ok:=true,z:= .sl (some true) 1 false [],k:=3,el:=40}:=rfl
@[go_sem] theorem tb193:En.tb 193={n:=1,g:=true,by':=24,ok:=true,z:= .agg [.sl (some true) 1 false []],k:=5,fs:=[(0,191)]}:=rfl
@[go_sem] theorem tb194:En.tb 194={n:=1,g:=false,by':=8,ok:=true,z:= .un,k:=6}:=rfl
@[go_sem] theorem tb195:En.tb 195={n:=1,g:=false,by':=8,ok:=true,z:= .un,k:=6}:=rfl
@[go_sem] theorem tb196:En.tb 196={n:=1,g:=false,by':=8,ok:=true,z:= .un,k:=6}:=rfl
@[go_sem] theorem tb197:En.tb 197={n:=1,g:=false,by':=8,ok:=true,z:= .un,k:=6}:=rfl
@[go_sem] theorem tb198:En.tb 198={n:=1,g:=false,by':=8,ok:=true,z:= .un,k:=6}:=rfl
@[go_sem] theorem tb200:En.tb 200={n:=34,g:=true,by':=48,ok:=true,z:= .agg [.int .u8 0,.int .u8 0,.int .u8 0,.int .u8 0,.int .u8 0,.int .u8 0,.int .u8 0,.int .u8 0,.int .u8 0,.int .u8 0,.int .u8 0,.int .u8 0,.int .u8 0,.int .u8 0,.int .u8 0,.int .u8 0,.int .u8 0,.int .u8 0,.int .u8 0,.int .u8 0,.int .u8 0,.int .u8 0,.int .u8 0,.int .u8 0,.int .u8 0,.int .u8 0,.int .u8 0,.int .u8 0,.int .u8 0,.int .u8 0,.int .u8 0,.int .u8 0,.int .i64 0,.bool false],k:=5,fs:=[(0,44),(33,4)],cmp:=true,ck:=[0,0,0,0,0,0,0,0,0,0,0,0,0,0,0,0,0,0,0,0,0,0,0,0,0,0,0,0,0,0,0,0,0,1]}:=rfl
@[go_sem] theorem tb201:En.tb 201={n:=1,g:=false,by':=8,ok:=true,z:= .un,k:=6}:=rfl
@[go_sem] theorem tb203:En.tb 203={n:=1,g:=false,by':=8,ok:=true,z:= .un,k:=6}:=rfl
@[go_sem] theorem tb204:En.tb 204={n:=1,g:=false,by':=8,ok:=true,z:= .un,k:=6}:=rfl
@[go_sem] theorem tb205:En.tb 205={n:=1,g:=false,by':=8,ok:=true,z:= .un,k:=6}:=rfl
@[go_sem] theorem tb206:En.tb 206={n:=8,g:=true,by':=32,ok:=true,z:= .agg [.int .u32 0,.int .u32 0,.int .u32 0,.int .u32 0,.int .u32 0,.int .u32 0,.int .u32 0,.int .u32 0],k:=4,el:=40,len:=8,cmp:=true,ck:=[0,0,0,0,0,0,0,0]}:=rfl
@[go_sem] theorem tb207:En.tb 207={n:=1,g:=false,by':=8,ok:=true,z:= .un,k:=6}:=rfl
@[go_sem] theorem tb208:En.tb 208={n:=1,g:=false,by':=8,ok:=true,z:= .un,k:=6}:=rfl
@[go_sem] theorem tb209:En.tb 209={n:=64,g:=true,by':=64,ok:=true,z:= .agg [.int .u8 0,.int .u8 0,.int .u8 0,.int .u8 0,.int .u8 0,.int .u8 0,.int .u8 0,.int .u8 0,.int .u8 0,.int .u8 0,.int .u8 0,.int .u8 0,.int .u8 0,.int .u8 0,.int .u8 0,.int .u8 0,.int .u8 0,.int .u8 0,.int .u8 0,.int .u8 0,.int .u8 0,.int .u8 0,.int .u8 0,.int .u8 0,.int .u8 0,.int .u8 0,.int .u8 0,.int .u8 0,.int .u8 0,.int .u8 0,.int .u8 0,.int .u8 0,.int .u8 0,.int .u8 0,.int .u8 0,.int .u8 0,.int .u8 0,.int .u8 0,.int .u8 0,.int .u8 0,.int .u8 0,.int .u8 0,.int .u8 0,.int .u8 0,.int .u8 0,.int .u8 0,.int .u8 0,.int .u8 0,.int .u8 0,.int .u8 0,.int .u8 0,.int .u8 0,.int .u8 0,.int .u8 0,.int .u8 0,.int .u8 0,.int .u8 0,.int .u8 0,.int .u8 0,.int .u8 0,.int .u8 0,.int .u8 0,.int .u8 0,.int .u8 0],k:=4,el:=5,len:=64,cmp:=true,ck:=[0,0,0,0,0,0,0,0,0,0,0,0,0,0,0,0,0,0,0,0,0,0,0,0,0,0,0,0,0,0,0,0,0,0,0,0,0,0,0,0,0,0,0,0,0,0,0,0,0,0,0,0,0,0,0,0,0,0,0,0,0,0,0,0]}:=rfl
@[go_sem] theorem tb210:En.tb 210={n:=1,g:=false,by':=8,ok:=true,z:= .un,k:=6}:=rfl
@[go_sem] theorem tb212:En.tb 212={n:=1,g:=false,by':=8,ok:=true,z:= .un,k:=6}:=rfl
@[go_sem] theorem tb213:En.tb 213={n:=1,g:=false,by':=8,ok:=true,z:= .un,k:=6}:=rfl
@[go_sem] theorem tb214:En.tb 214={n:=1,g:=false,by':=8,ok:=true,z:= .un,k:=6}:=rfl
@[go_sem] theorem tb215:En.tb 215={n:=1,g:=false,by':=8,ok:=true,z:= .un,k:=6}:=rfl
@[go_sem] theorem tb216:En.tb 216={n:=1,g:=false,by':=8,ok:=true,z:= .un,k:=6}:=rfl
@[go_sem] theorem tb217:En.tb 217={n:=1,g:=false,by':=8,ok:=true,z:= .un,k:=6}:=rfl
@[go_sem] theorem tb218:En.tb 218={n:=1,g:=false,by':=8,ok:=true,z:= .un,k:=6}:=rfl
@[go_sem] theorem tb219:En.tb 219={n:=1,g:=false,by':=8,ok:=true,z:= .un,k:=6}:=rfl
@[go_sem] theorem tb220:En.tb 220={n:=1,g:=false,by':=8,ok:=true,z:= .un,k:=6}:=rfl
@[go_sem] theorem tb221:En.tb 221={n:=1,g:=false,by':=8,ok:=true,z:= .un,k:=6}:=rfl
@[go_sem] theorem tb222:En.tb 222={n:=1,g:=false,by':=8,ok:=true,z:= .un,k:=6}:=rfl
@[go_sem] theorem tb223:En.tb 223={n:=1,g:=false,by':=8,ok:=true,z:= .un,k:=6}:=rfl
@[go_sem] theorem tb224:En.tb 224={n:=1,g:=false,by':=8,ok:=true,z:= .un,k:=6}:=rfl
@[go_sem] theorem tb225:En.tb 225={n:=1,g:=false,by':=8,ok:=true,z:= .un,k:=6}:=rfl
@[go_sem] theorem tb226:En.tb 226={n:=64,g:=true,by':=256,ok:=true,z:= .agg [.int .u32 0,.int .u32 0,.int .u32 0,.int .u32 0,.int .u32 0,.int .u32 0,.int .u32 0,.int .u32 0,.int .u32 0,.int .u32 0,.int .u32 0,.int .u32 0,.int .u32 0,.int .u32 0,.int .u32 0,.int .u32 0,.int .u32 0,.int .u32 0,.int .u32 0,.int .u32 0,.int .u32 0,.int .u32 0,.int .u32 0,.int .u32 0,.int .u32 0,.int .u32 0,.int .u32 0,.int .u32 0,.int .u32 0,.int .u32 0,.int .u32 0,.int .u32 0,.int .u32 0,.int .u32 0,.int .u32 0,.int .u32 0,.int .u32 0,.int .u32 0,.int .u32 0,.int .u32 0,.int .u32 0,.int .u32 0,.int .u32 0,.int .u32 0,.int .u32 0,.int .u32 0,.int .u32 0,.int .u32 0,.int .u32 0,.int .u32 0,.int .u32 0,.int .u32 0,.int .u32 0,.int .u32 0,.int .u32 0,.int .u32 0,.int .u32 0,.int .u32 0,.int .u32 0,.int .u32 0,.int .u32 0,.int .u32 0,.int .u32 0,.int .u32 0],k:=4,el:=40,len:=64,cmp:=true,ck:=[0,0,0,0,0,0,0,0,0,0,0,0,0,0,0,0,0,0,0,0,0,0,0,0,0,0,0,0,0,0,0,0,0,0,0,0,0,0,0,0,0,0,0,0,0,0,0,0,0,0,0,0,0,0,0,0,0,0,0,0,0,0,0,0]}:=rfl
@[go_sem] theorem tb227:En.tb 227={n:=1,g:=false,by':=8,ok:=true,z:= .un,k:=6}:=rfl
@[go_sem] theorem tb228:En.tb 228={n:=1,g:=false,by':=8,ok:=true,z:= .un,k:=6}:=rfl
@[go_sem] theorem tb229:En.tb 229={n:=1,g:=false,by':=8,ok:=true,z:= .un,k:=6}:=rfl
@[go_sem] theorem tb230:En.tb 230={n:=1,g:=false,by':=8,ok:=true,z:= .un,k:=6}:=rfl
@[go_sem] theorem tb231:En.tb 231={n:=1,g:=false,by':=8,ok:=true,z:= .un,k:=6}:=rfl
@[go_sem] theorem tb232:En.tb 232={n:=1,g:=false,by':=8,ok:=true,z:= .un,k:=6}:=rfl
@[go_sem] theorem tb233:En.tb 233={n:=1,g:=false,by':=8,ok:=true,z:= .un,k:=6}:=rfl
@[go_sem] theorem tb234:En.tb 234={n:=1,g:=false,by':=8,ok:=true,z:= .un,k:=6}:=rfl
@[go_sem] theorem tb235:En.tb 235={n:=1,g:=false,by':=8,ok:=true,z:= .un,k:=6}:=rfl
@[go_sem] theorem tb238:En.tb 238={n:=1,g:=false,by':=8,ok:=true,z:= .un,k:=6}:=rfl
@[go_sem] theorem tb239:En.tb 239={n:=1,g:=false,by':=8,ok:=true,z:= .un,k:=6}:=rfl
@[go_sem] theorem tb240:En.tb 240={n:=1,g:=false,by':=8,ok:=true,z:= .un,k:=6}:=rfl
@[go_sem] theorem tb241:En.tb 241={n:=1,g:=false,by':=8,ok:=true,z:= .un,k:=6}:=rfl
@[go_sem] theorem tb242:En.tb 242={n:=24,g:=true,by':=24,ok:=true,z:= .agg [.int .u8 0,.int .u8 0,.int .u8 0,.int .u8 0,.int .u8 0,.int .u8 0,.int .u8 0,.int .u8 0,.int .u8 0,.int .u8 0,.int .u8 0,.int .u8 0,.int .u8 0,.int .u8 0,.int .u8 0,.int .u8 0,.int .u8 0,.int .u8 0,.int .u8 0,.int .u8 0,.int .u8 0,.int .u8 0,.int .u8 0,.int .u8 0],k:=4,el:=5,len:=24,cmp:=true,ck:=[0,0,0,0,0,0,0,0,0,0,0,0,0,0,0,0,0,0,0,0,0,0,0,0]}:=rfl
@[go_sem] theorem tb243:En.tb 243={n:=1,g:=false,by':=8,ok:=true,z:= .un,k:=6}:=rfl
@[go_sem] theorem tb255:En.tb 255={n:=20,g:=true,by':=160,ok:=true,z:= .agg [.int .u64 0,.int .u64 0,.int .u64 0,.int .u64 0,.int .u64 0,.int .u64 0,.int .u64 0,.int .u64 0,.int .u64 0,.int .u64 0,.int .u64 0,.int .u64 0,.int .u64 0,.int .u64 0,.int .u64 0,.int .u64 0,.int .u64 0,.int .u64 0,.int .u64 0,.int .u64 0],k:=4,el:=170,len:=20,cmp:=true,ck:=[0,0,0,0,0,0,0,0,0,0,0,0,0,0,0,0,0,0,0,0]}:=rfl
@[go_sem] theorem tb256:En.tb 256={n:=65,g:=true,by':=65,ok:=true,z:= .agg [.int .u8 0,.int .u8 0,.int .u8 0,.int .u8 0,.int .u8 0,.int .u8 0,.int .u8 0,.int .u8 0,.int .u8 0,.int .u8 0,.int .u8 0,.int .u8 0,.int .u8 0,.int .u8 0,.int .u8 0,.int .u8 0,.int .u8 0,.int .u8 0,.int .u8 0,.int .u8 0,.int .u8 0,.int .u8 0,.int .u8 0,.int .u8 0,.int .u8 0,.int .u8 0,.int .u8 0,.int .u8 0,.int .u8 0,.int .u8 0,.int .u8 0,.int .u8 0,.int .u8 0,.int .u8 0,.int .u8 0,.int .u8 0,.int .u8 0,.int .u8 0,.int .u8 0,.int .u8 0,.int .u8 0,.int .u8 0,.int .u8 0,.int .u8 0,.int .u8 0,.int .u8 0,.int .u8 0,.int .u8 0,.int .u8 0,.int .u8 0,.int .u8 0,.int .u8 0,.int .u8 0,.int .u8 0,.int .u8 0,.int .u8 0,.int .u8 0,.int .u8 0,.int .u8 0,.int .u8 0,.int .u8 0,.int .u8 0,.int .u8 0,.int .u8 0,.int .u8 0],k:=4,el:=5,len:=65,cmp:=true,ck:=[0,0,0,0,0,0,0,0,0,0,0,0,0,0,0,0,0,0,0,0,0,0,0,0,0,0,0,0,0,0,0,0,0,0,0,0,0,0,0,0,0,0,0,0,0,0,0,0,0,0,0,0,0,0,0,0,0,0,0,0,0,0,0,0,0]}:=rfl
@[go_sem] theorem tb260:En.tb 260={n:=1,g:=false,by':=8,ok:=true,z:= .un,k:=6}:=rfl
@[go_sem] theorem tb271:En.tb 271={n:=1,g:=false,by':=8,ok:=true,z:= .un,k:=6}:=rfl
end Go.Proofs.YtgealhhkngbkbaaGreatDoor
namespace Go.Proofs.YtgealhhkngbkbaaGreatDoor
open Go.RowKit
section
variable {E:Env} {J:cM} {k:List Ct} {S S1 S2:St}
theorem cC.trans (h:cC E S S1) (h':cC E S1 S2):cC E S S2:=by
 intro c0 c ρ F hs
 obtain ⟨c1,ρ1,e,h1⟩:=h c0 c ρ F hs
 obtain ⟨c2,ρ2,e2,h2⟩:=h' c0 c1 ρ1 F h1
 exact ⟨c2,ρ2,e2.trans e,h2⟩
theorem jZ (t T:Nat) {n:Nat} {g:Bool} (h:ae S.F t=some (.sl (some true) n g [])) (hg:g=false→n=1):cC E S ⟨(t,.own S.nx)::S.F,(S.nx,.own T n g (some true) [])::S.H,S.nx+1⟩:=by
 intro c0 c ρ F hs
 have hf:ρ S.nx=none:=hs.2 _ (Nat.le_refl _)
 have hrd:=hs.1.slot _ _ h
 have e:F t= .slice none 0 0:=by
  simp only [rd,zOk] at hrd
  obtain ⟨a,cap,e,_,⟨rfl,rfl⟩,_⟩:=hrd
  exact e
 have hro:iP ρ (fun i=>if i=S.nx then some (.slice none 0 0) else ρ i):=oY hf fun i hi=>by simp [hi]
 have hat:(fun i=>if i=S.nx then some (Value.slice none 0 0) else ρ i) S.nx=some (.slice none 0 0):=by simp
 have hoth: ∀i,i≠S.nx→(fun i=>if i=S.nx then some (Value.slice none 0 0) else ρ i) i=ρ i:=fun i hi=>by simp [hi]
 generalize (fun i=>if i=S.nx then some (Value.slice none 0 0) else ρ i)=ρ' at hro hat hoth
 refine ⟨c,ρ',rfl,⟨hs.1.since,hs.1.gl,?_,?_,?_⟩,?_⟩
 ·intro t' v ht
  simp only [ae] at ht
  split at ht
  ·rename_i e';subst e';cases ht
   simp only [rd]
   exact ⟨e▸hat,by rw [e];rfl⟩
  ·exact dz hro (hs.1.slot t' v ht)
 ·intro i b hb
  simp only [ae] at hb
  split at hb
  ·rename_i e';subst e';cases hb
   refine ⟨_,hat,Own.nil,fun k hk=>by simp [blk] at hk,hg,none,0,rfl,rfl,rfl⟩
  ·exact ng hro (hs.1.heap i b hb)
 ·intro i j bi bj k hij hbi hbj hpi hpj hk hk'
  have hn:am ρ' S.nx=none:=by simp [am,hat,blk]
  have hi:i≠S.nx:=fun e'=>by rw [e',hn] at hk;cases hk
  have hj:j≠S.nx:=fun e'=>by rw [e',hn] at hk';cases hk'
  simp only [ae,Ne.symm hi,Ne.symm hj,if_false] at hbi hbj
  rw [cZ (hoth i hi)] at hk
  rw [cZ (hoth j hj)] at hk'
  exact hs.1.sep i j bi bj k hij hbi hbj hpi hpj hk hk'
 ·intro i hi
  have hi':S.nx+1≤i:=hi
  rw [hoth i (by omega)]
  exact hs.2 i (by omega)
theorem eN {a:Code} (I:Nat→St→Prop) (k0:Nat) (S1 S2:St) (hW:cC E S S1) (hF:fM S1.F S2.nx S2.F) (hH:fN S1.H S2.nx S2.H) (h0:I k0 S2)
  (h: ∀n S',I n S'→aM E J (.code a:: .lp (fun S2=> ∃n',n'<n∧ ∃S3,cC E S2 S3∧I n' S3)::k) .normal S'):aM E J (.code (.loop a)::k) .normal S:=
 ⟨I,k0,⟨S2,hW.trans (nw hF hH),h0⟩,h⟩
end
def ah {α R:Type}:Nat→((α→R)→α→R)→(α→R)→α→R
 | 0,_,d,a=>d a
 | n+1,f,d,a=>f (ah n f d) a
theorem aS {α R:Type} {n:Nat} {f:(α→R)→α→R} {d:α→R} {a:α} {r:R} (h:ah n f d a=r): ∃g e,g=f∧e=d∧ah n g e a=r:=⟨f,d,rfl,rfl,h⟩
theorem aT {α R:Type} {n:Nat} {f g:(α→R)→α→R} {d:α→R} {a:α} {r:R} (h:ah n f d a=r) (hn:0<n) (hf:f=g): ∃ag,ag=ah (n - 1) f d∧g ag a=r:=by
 subst hf
 cases n with
 | zero=>omega
 | succ m=>exact ⟨_,rfl,h⟩
theorem aN {α R:Type} {n:Nat} {f:(α→R)→α→R} {d ag:α→R} {a:α} {r:R} (h:ag a=r) (e:ag=ah n f d):ah n f d a=r:=e▸h
def dD {α R:Type} (j:α→R) (f:(α→R)→R):R:=f j
theorem jc {α R:Type} {j:α→R} {f:(α→R)→R} {r:R} (h:dD j f=r): ∃g,g=j∧f g=r:=⟨j,rfl,h⟩
theorem jd {α R:Type} {g j:α→R} {a:α} {r:R} (h:g a=r) (e:g=j):j a=r:=e▸h
theorem bl {i:Int} (h0: -9223372036854775808≤i) (h:i+1≤9223372036854775807):ao .i64 i 1=i+1:=by
 unfold ao;rw [IntKind.wrap_i64];omega
theorem mh:LEN=1073741824:=rfl
theorem pg {d:Int}:Rng .i64 d=(-9223372036854775808≤d∧d≤9223372036854775807):=by simp [Rng,IntKind.min,IntKind.max,IntKind.bits,IntKind.signed]
theorem wt {d:Int}:Rng .u64 d=(0≤d∧d≤18446744073709551615):=by simp [Rng,IntKind.min,IntKind.max,IntKind.bits,IntKind.signed]
theorem JA {d:Int}:Rng .u8 d=(0≤d∧d≤255):=by simp [Rng,IntKind.min,IntKind.max,IntKind.bits,IntKind.signed]
theorem wu {d:Int}:Rng .u32 d=(0≤d∧d≤4294967295):=by simp [Rng,IntKind.min,IntKind.max,IntKind.bits,IntKind.signed]
theorem wv {d:Int}:Rng .i32 d=(-2147483648≤d∧d≤2147483647):=by simp [Rng,IntKind.min,IntKind.max,IntKind.bits,IntKind.signed]
theorem ph {α:Type} {l:List α} {i j:Int}:(sl l i j).length=min (j.toNat - i.toNat) (l.length - i.toNat):=by simp [sl]
theorem nC {α:Type} {l:List α} {i:Int} {x:α}:(st l i x).length=l.length:=by simp [st]
theorem c6 {α:Type} [Inhabited α] {l:List α} {f:α→V} {i:Int} (h:i.toNat<l.length) (d:V):elt (l.map f) i.toNat d=f (gt l i):=by
 simp [elt,gt,List.getD,h]
theorem dM {a b:Int} (h0: -9223372036854775808≤a+b) (h:a+b≤9223372036854775807):ao .i64 a b=a+b:=by
 unfold ao;rw [IntKind.wrap_i64];omega
theorem ff {a b:Int} (h0: -9223372036854775808≤a - b) (h:a - b≤9223372036854775807):ap .i64 a b=a - b:=by
 unfold ap;rw [IntKind.wrap_i64];omega
theorem kT {α:Type} [Inhabited α] {a:α} {l:List α}:gt (a::l) 0=a:=rfl
theorem kU {α:Type} [Inhabited α] {a:α} {l:List α} {i:Int} (h:0<i):gt (a::l) i=gt l (i - 1):=by
 obtain ⟨n,rfl⟩: ∃n:Nat,i=((n+1:Nat):Int):=⟨(i - 1).toNat,by omega⟩
 simp [gt]
theorem ww {k:IntKind} {n:Nat} {b:Int}:aO k ((n:Nat):Int) b=((n:Nat):Int)% b:=Int.tmod_eq_emod_of_nonneg (by omega)
@[go_sem] theorem JB: ∀{B:List Int},(B.map (V.int .u8)).map (fun d=>u8N (jI d))=B.map u8N
 | []=>rfl
 | x::B=>by rw [List.map_cons,List.map_cons,JB (B:=B)];rfl
def cX (a:List UInt8):List Int:=a.map fun b=>(b.toNat:Int)
theorem je {a:List UInt8}:(cX a).length=a.length:=by simp [cX]
@[go_sem] theorem JC: ∀{a:List UInt8},a.map u8V=(cX a).map (V.int .u8)
 | []=>rfl
 | x::B=>by rw [List.map_cons,JC (a:=B)];rfl
def A0 {α:Type} [Inhabited α] (f:α→V) (l:List α):Nat→Int→List V
 | 0,_=> []
 | k+1,i=>f (gt l i)::A0 f l k (i+1)
def gJ {α:Type} [Inhabited α] (l:List α):Nat→Int→List α
 | 0,_=> []
 | k+1,i=>gt l i::gJ l k (i+1)
def bX {α:Type} [Inhabited α] (n:Nat) (l:List α):List α:=gJ l n 0
theorem A3 {α:Type} [Inhabited α] {l:List α}: ∀{k:Nat} {i:Int},(gJ l k i).length=k
 | 0,_=>rfl
 | k+1,i=>by simp [gJ,A3 (k:=k)]
theorem gK {α:Type} [Inhabited α] {l:List α} {n:Nat}:(bX n l).length=n:=A3
@[go_sem] theorem PS {α β:Type} {l:List α} {f:α→β} {a b:β}:(l.map f++[a]).set l.length b=l.map f++[b]:=by
 rw [List.set_append_right _ _ (by simp)];simp
attribute [go_sem] A0 bX gJ
end Go.Proofs.YtgealhhkngbkbaaGreatDoor
namespace Go.Proofs.YtgealhhkngbkbaaGreatDoor
open Go.RowKit
section
variable {E:Env} {J:cM} {k:List Ct} {S S1 S2:St} {c0 c:Cx} {ρ:Ro} {F:Fm}
theorem sv (i:Nat) {T n:Nat} {g:Bool} {z:Option Bool} {l:List V} (h:ae S.H i=some (.own T n g z l)):cC E S ⟨S.F,dc S.H i (.pown n g z l),S.nx⟩:=by
 intro c0 c ρ F hs
 obtain ⟨v,hv,hown,hge,hone,a,cap,es,hz⟩:=hs.1.heap _ _ h
 have hpd:=c.pub_dropv v
 have hbo:am ρ i=blk v:=by unfold am;rw [hv,es]
 have hsep: ∀j b,i≠j→ae S.H j=some b→aY b=true→ ∀x,am ρ j=some x→blk v≠some x:=by
  intro j b hij hb hp x hx hx'
  exact hs.1.sep i j _ b x hij h hb rfl hp (hbo▸hx') hx
 refine ⟨c.dropv v,ρ,rfl,⟨hs.1.since.dropv hge,hs.1.gl.mono hpd,fun t x ht=>bI hpd (hs.1.slot t x ht),?_,?_⟩,hs.2⟩
 ·intro j b hb
  simp only [cV] at hb
  split at hb
  ·rename_i e;subst e;cases hb
   refine ⟨v,hv,?_⟩
   obtain ⟨a',cap',e1,h1,h2⟩:=fV.1 hown.val
   rw [es] at e1;cases e1
   exact dx.2 ⟨a,cap,es,h1,hz,h2⟩
  ·rename_i hij
   have hb0:=hs.1.heap _ _ hb
   have hsp:=hsep j b hij hb
   cases b with
   | var n' g' d=>
    obtain ⟨b',h1,h2,h3⟩:=hb0
    exact ⟨b',h1,h2,Cx.dropv_var h3 (hsp rfl b' (by simp [am,h1]))⟩
   | own E' n' g' z' l'=>
    obtain ⟨v',h1,h2,h3,h4,a',cap',e',h5⟩:=hb0
    exact ⟨v',h1,Cx.dropv_own h2 (fun x hx=>hsp rfl x (by unfold am;rw [h1,e'];rw [e'] at hx;exact hx)),h3,h4,a',cap',e',h5⟩
   | ownI E' n' g' z' l'=>
    obtain ⟨v',h1,h2,h3,h4,a',cap',e',h5⟩:=hb0
    exact ⟨v',h1,Cx.dropv_own h2 (fun x hx=>hsp rfl x (by unfold am;rw [h1,e'];rw [e'] at hx;exact hx)),h3,h4,a',cap',e',h5⟩
   | pvar n' g' d=>
    obtain ⟨b',h1,h2⟩:=hb0
    exact ⟨b',h1,(kz _).mono h2 hpd⟩
   | pown n' g' z' l'=>
    obtain ⟨v',h1,h2⟩:=hb0
    exact ⟨v',h1,bI hpd h2⟩
   | lent k' n' g' d=>
    obtain ⟨h1,h2,h3⟩:=hb0
    exact ⟨h1,h2,Cx.dropv_var h3 (hsp rfl k' (by simp [am,h1]))⟩
   | kset g' k' n' l'=>
    obtain ⟨r,h1,h2,h3⟩:=hb0
    exact ⟨r,h1,h2,Cx.dropv_set h3 (hsp rfl r (by simp [am,h1,blk]))⟩
 ·intro a b ba bb x hab ha hb hpa hpb hx
  simp only [cV] at ha hb
  split at ha
  ·cases ha;cases hpa
  ·split at hb
   ·cases hb;cases hpb
   ·exact hs.1.sep a b ba bb x hab ha hb hpa hpb hx
theorem wx (t i:Nat) {n:Nat} {g:Bool} {z:Option Bool} {l:List V} (h:ae S.F t=some (.own i)) (h2:ae S.H i=some (.pown n g z l)):cC E S ⟨(t,.sl z n g l)::S.F,S.H,S.nx⟩:=by
 intro c0 c ρ F hs
 refine ⟨c,ρ,rfl,⟨hs.1.since,hs.1.gl,fun t' v ht=> ?_,hs.1.heap,hs.1.sep⟩,hs.2⟩
 simp only [ae] at ht
 split at ht
 ·rename_i e;subst e;cases ht
  have h3:=hs.1.slot _ _ h
  obtain ⟨v,h4,h5⟩:=hs.1.heap _ _ h2
  simp only [rd] at h3
  rw [h3.1] at h4;cases h4
  simpa only [rd] using h5
 ·exact hs.1.slot _ _ ht
theorem mi (i:Nat) {n:Nat} {g:Bool} {d:V} (h:ae S.H i=some (.var n g d)) (hpu:dA d):cC E S ⟨S.F,dc S.H i (.pvar n g d),S.nx⟩:=by
 intro c0 c ρ F hs
 obtain ⟨b,hv,hge,hvar⟩:=hs.1.heap _ _ h
 have hbv:blk (.slice (some ⟨b,0,none⟩) 0 1)=some b:=rfl
 have hpd:=c.pub_dropv (.slice (some ⟨b,0,none⟩) 0 1)
 have hbo:am ρ i=some b:=by unfold am;rw [hv]
 have hsep: ∀j b',i≠j→ae S.H j=some b'→aY b'=true→ ∀x,am ρ j=some x→blk (.slice (some ⟨b,0,none⟩) 0 1)≠some x:=by
  intro j b' hij hb hp x hx hx'
  exact hs.1.sep i j _ b' x hij h hb rfl hp (hbo▸hx') hx
 refine ⟨c.dropv (.slice (some ⟨b,0,none⟩) 0 1),ρ,rfl,⟨hs.1.since.dropv (fun k hk=>by rw [hbv] at hk;cases hk;exact hge),hs.1.gl.mono hpd,fun t x ht=>bI hpd (hs.1.slot t x ht),?_,?_⟩,hs.2⟩
 ·intro j b' hb
  simp only [cV] at hb
  split at hb
  ·rename_i e;subst e;cases hb
   obtain ⟨h1,T,cs,h2,h3⟩:=hvar
   refine ⟨b,hv,b,0,cs.toList,rfl,c.ok b h1,?_,?_,?_⟩
   ·simp only [Cx.dropv,List.mem_filter,hbv];simp
   ·intro j u hj
    show (c.dropv _).w.cell? _=_
    simp only [Cx.dropv,World.cell?,h2]
    simpa using hj
   ·exact ⟨h3.1,bI hpd (jK hpu h3.2)⟩
  ·rename_i hij
   have hb0:=hs.1.heap _ _ hb
   have hsp:=hsep j b' hij hb
   cases b' with
   | var n' g' d=>
    obtain ⟨b',h1,h2,h3⟩:=hb0
    exact ⟨b',h1,h2,Cx.dropv_var h3 (hsp rfl b' (by simp [am,h1]))⟩
   | own E' n' g' z' l'=>
    obtain ⟨v',h1,h2,h3,h4,a',cap',e',h5⟩:=hb0
    exact ⟨v',h1,Cx.dropv_own h2 (fun x hx=>hsp rfl x (by unfold am;rw [h1,e'];rw [e'] at hx;exact hx)),h3,h4,a',cap',e',h5⟩
   | ownI E' n' g' z' l'=>
    obtain ⟨v',h1,h2,h3,h4,a',cap',e',h5⟩:=hb0
    exact ⟨v',h1,Cx.dropv_own h2 (fun x hx=>hsp rfl x (by unfold am;rw [h1,e'];rw [e'] at hx;exact hx)),h3,h4,a',cap',e',h5⟩
   | pvar n' g' d=>
    obtain ⟨b',h1,h2⟩:=hb0
    exact ⟨b',h1,(kz _).mono h2 hpd⟩
   | pown n' g' z' l'=>
    obtain ⟨v',h1,h2⟩:=hb0
    exact ⟨v',h1,bI hpd h2⟩
   | lent k' n' g' d=>
    obtain ⟨h1,h2,h3⟩:=hb0
    exact ⟨h1,h2,Cx.dropv_var h3 (hsp rfl k' (by simp [am,h1]))⟩
   | kset g' k' n' l'=>
    obtain ⟨r,h1,h2,h3⟩:=hb0
    exact ⟨r,h1,h2,Cx.dropv_set h3 (hsp rfl r (by simp [am,h1,blk]))⟩
 ·intro a b1 ba bb x hab ha hb hpa hpb hx
  simp only [cV] at ha hb
  split at ha
  ·cases ha;cases hpa
  ·split at hb
   ·cases hb;cases hpb
   ·exact hs.1.sep a b1 ba bb x hab ha hb hpa hpb hx
theorem wy (W:Nat) {T n:Nat} {g:Bool} {z z':Option Bool} {l m:List V} (h:ae S.H W=some (.own T n g z l)) (hz:mtZ z z') (hm:mtL l m):cC E S ⟨S.F,dc S.H W (.own T n g z' m),S.nx⟩:=by
 intro c0 c ρ F hs
 have hlen:=jP hm
 refine ⟨c,ρ,rfl,⟨hs.1.since,hs.1.gl,hs.1.slot,?_,?_⟩,hs.2⟩
 ·intro j b hb
  simp only [cV] at hb
  split at hb
  ·rename_i e;subst e;cases hb
   obtain ⟨v,h1,h2,h3,h4,a,cap,e',h5⟩:=hs.1.heap _ _ h
   refine ⟨v,h1,⟨hlen▸h2.1,?_⟩,h3,h4,a,cap,hlen▸e',kP hz h5⟩
   rcases h2.2 with ⟨a',e9,rfl⟩|⟨g',cp,cur,e,k1,k2,k3,k4,k5,k6⟩
   ·exact .inl ⟨a',e9,List.eq_nil_of_length_eq_zero hlen.symm⟩
   ·rw [hlen] at e k3 k6
    exact .inr ⟨g',cp,cur,e,k1,k2,k3,k4,k5,wi hm k6⟩
  ·exact hs.1.heap _ _ hb
 ·intro a b ba bb x hab ha hb hpa hpb hx
  simp only [cV] at ha hb
  have key: ∀y by',(if W=y then some (Blk.own T n g z' m) else ae S.H y)=some by'→aY by'=true→ ∃by2,ae S.H y=some by2∧aY by2=true:=by
   intro y by' hy hp
   split at hy
   ·rename_i e;subst e;exact ⟨_,h,rfl⟩
   ·exact ⟨by',hy,hp⟩
  obtain ⟨ba',ha',hpa'⟩:=key a ba ha hpa
  obtain ⟨bb',hb',hpb'⟩:=key b bb hb hpb
  exact hs.1.sep a b ba' bb' x hab ha' hb' hpa' hpb' hx
def sw {α:Type} (f:α→V) (l:List α) (k:Int) (i:Nat):List V:=(l.map f).set k.toNat (.own i)
section
variable {α:Type} {f:α→V} {l:List α} {i:Nat} {q:Int}
theorem fg:(l.map f).set q.toNat (.own i)=sw f l q i:=rfl
theorem fh:(l.map f).set 0 (.own i)=sw f l 0 i:=rfl
theorem pi:(sw f l q i).length=l.length:=by simp [sw]
end
theorem pj {α:Type} {f:α→V} {l:List α} {i:Int} {x:α}:(st l i x).map f=(l.map f).set i.toNat (f x):=by simp [st,List.map_set]
theorem pk {α:Type} {l m:List α} {i k:Nat}:(spl l i k m).length=min i l.length+min k m.length+(l.length - (i+k)):=by simp only [spl,List.length_append,List.length_take,List.length_drop]
theorem pm {α:Type} {l:List α} {i j:Nat}:(lT l i j).length=min (j - i) (l.length - i):=by simp [lT]
theorem pn {a b:Int} (A B C:Int) (h1:0≤a) (h2:a≤A) (h3:0≤b) (h4:b≤B) (h5:A*B=C) (h6:C≤9223372036854775807):aX .i64 a b=a*b∧(0≤a*b∧a*b≤C):=by
 have e1:=Int.mul_nonneg h1 h3
 have e2:a*b≤A*B:=Int.mul_le_mul h2 h4 h3 (Int.le_trans h1 h2)
 rw [h5] at e2
 refine ⟨?_,e1,e2⟩
 unfold aX;rw [IntKind.wrap_i64];omega
theorem nD {a:Int} (h0: -9223372036854775808≤a) (h:a≤9223372036854775807):al .i64 a=a:=by
 unfold al;rw [IntKind.wrap_i64];omega
theorem kV {a:Int} (h0:0≤a) (h:a≤18446744073709551615):al .u64 a=a:=by
 unfold al;rw [IntKind.wrap_u64];omega
theorem kW {a b:Code} (h:aM E J (.code a:: .lp (nq E (aM E J (.code b::k) .normal))::k) .normal S):l9 E J true a b k S:= .inl h
theorem j4 {b:Code} (S2 S1:St) (hW:cC E S S2) (hF:fM S2.F S1.nx S1.F) (hH:fN S2.H S1.nx S1.H) (h:aM E J (.code b::k) .normal S1):aM E J (.lp (nq E (aM E J (.code b::k) .normal))::k) .normal S:=⟨S1,hW.trans (nw hF hH),h⟩
theorem wz {I:Nat→St→Prop} {n:Nat} (n':Nat) (S2 S3:St) (hlt:n'<n) (hW:cC E S S2) (hF:fM S2.F S3.nx S3.F) (hH:fN S2.H S3.nx S3.H) (hI:I n' S3):aM E J (.lp (fun S2=> ∃n',n'<n∧ ∃S3,cC E S2 S3∧I n' S3)::k) .normal S:=
 ⟨n',hlt,S3,hW.trans (nw hF hH),hI⟩
theorem JD {n:Nat} {a b:V} (h:mt a b):mtL (List.replicate n a) (List.replicate n b):=by
 induction n with
 | zero=>trivial
 | succ n ih=>simp only [List.replicate_succ,mtL];exact ⟨h,ih⟩
def rep {α:Type} (n:Nat) (a:α):List α:=List.replicate n a
theorem dE {α:Type} {n:Nat} {a:α}:(rep n a).length=n:=by simp [rep]
theorem sx {n:Nat} {a b:V}:mtL (List.replicate n a) (List.replicate n b)=(n=0∨mt a b):=by
 refine propext ⟨fun h=> ?_,fun h=> ?_⟩
 ·cases n with
  | zero=>exact .inl rfl
  | succ n=>simp only [List.replicate_succ,mtL] at h;exact .inr h.1
 ·rcases h with rfl|h
  ·trivial
  ·exact JD h
theorem wA {α:Type} {n:Nat} {a:V} {f:α→V} {x:α}:mtL (List.replicate n a) ((rep n x).map f)=(n=0∨mt a (f x)):=by
 unfold rep;rw [List.map_replicate];exact sx
end
end Go.Proofs.YtgealhhkngbkbaaGreatDoor
namespace Go.Proofs.YtgealhhkngbkbaaGreatDoor
open Go.RowKit
section
variable {E:Env} {J:cM} {k:List Ct} {S S1 S2:St} {c0 c:Cx} {ρ:Ro} {F:Fm}
def wB:Option Blk→V
 | some (.pown n g z l)=> .sl z n g l
 | _=> .un
def sy (off:Nat):Option Blk→V
 | some (.pvar n g d)=>if off=0 then .pp n g d else .un
 | _=> .un
mutual
def kX (H:List (Nat×Blk)):V→V
 | .own i=>wB (ae H i)
 | .ptr i o=>sy o (ae H i)
 | .optr _ _ _ _=> .un
 | .osub _ _ _ _=> .un
 | .agg l=> .agg (gL H l)
 | .tup l=> .tup (gL H l)
 | .fn f l=> .fn f (gL H l)
 | v=>v
def gL (H:List (Nat×Blk)):List V→List V
 | []=> []
 | d::l=>kX H d::gL H l
end
mutual
theorem sA (h:Sim E c0 c ρ S F): ∀{d:V} {v:Value},rd ρ c d v→rd ro0 c (kX S.H d) v
 | .int _ _,_,hr=>hr
 | .bool _,_,hr=>hr
 | .ifc _,_,hr=>hr
 | .str _,_,hr=>hr
 | .agg l,v,hr=>by
  simp only [rd,kX] at hr⊢
  obtain ⟨cs,e,hr⟩:=hr
  exact ⟨cs,e,A4 h hr⟩
 | .sl z n g l,v,hr=>hr
 | .pp n g d,v,hr=>hr
 | .own i,v,hr=>by
  simp only [rd] at hr
  simp only [kX]
  cases hb:ae S.H i with
  | none=>trivial
  | some b=>
   cases b with
   | pown n g z l=>
    obtain ⟨v',h1,h2⟩:=h.heap _ _ hb
    rw [hr.1] at h1;cases h1
    exact h2
   | _=>trivial
 | .ptr i o,v,hr=>by
  simp only [rd] at hr
  simp only [kX]
  obtain ⟨b0,hb0,he⟩:=hr
  cases hb:ae S.H i with
  | none=>trivial
  | some b=>
   cases b with
   | pvar n g d=>
    obtain ⟨b',h1,h2⟩:=h.heap _ _ hb
    rw [hb0] at h1;cases h1
    simp only [sy]
    split
    ·rename_i e;subst e;subst he
     exact gB.2 h2
    ·trivial
   | _=>trivial
 | .optr _ _ _ _,_,_=>trivial
 | .osub _ _ _ _,_,_=>trivial
 | .tup l,v,hr=>by
  simp only [rd,kX] at hr⊢
  obtain ⟨cs,e,hr⟩:=hr
  exact ⟨cs,e,sB h hr⟩
 | .fn f l,v,hr=>by
  simp only [rd,kX] at hr⊢
  obtain ⟨cs,e,hr⟩:=hr
  exact ⟨cs,e,sB h hr⟩
 | .opq p,v,hr=>hr
 | .un,_,_=>trivial
theorem A4 (h:Sim E c0 c ρ S F): ∀{l:List V} {cs:List Value},rdC ρ c l cs→rdC ro0 c (gL S.H l) cs
 | [],_,hr=>hr
 | d::l,cs,hr=>by
  simp only [rdC,gL] at hr⊢
  obtain ⟨u,c2,e,h1,h2,h3⟩:=hr
  exact ⟨u,c2,e,h1,sA h h2,A4 h h3⟩
theorem sB (h:Sim E c0 c ρ S F): ∀{l:List V} {cs:List Value},rdT ρ c l cs→rdT ro0 c (gL S.H l) cs
 | [],_,hr=>hr
 | d::l,cs,hr=>by
  simp only [rdT,gL] at hr⊢
  obtain ⟨u,c2,e,h2,h3⟩:=hr
  exact ⟨u,c2,e,sA h h2,sB h h3⟩
end
theorem A5 {vs ws:List V} (hm:mtL (gL S.H vs) ws):o4 E S vs S ws:=
 fun _ c ρ _ _ h hr=>⟨c,ρ,rfl,Cx.pub.refl _,h,iY hm (sB h.1 hr)⟩
def ir (E:Env) (S S1:St):Prop:= ∀c0 c ρ F,bw E c0 c ρ S F→ ∃c1,c1.w=c.w∧c.pub c1∧bw E c0 c1 ρ S1 F
theorem ir.weak (h:ir E S S1):cC E S S1:=by
 intro c0 c ρ F hs
 obtain ⟨c1,e,_,h1⟩:=h c0 c ρ F hs
 exact ⟨c1,ρ,e,h1⟩
theorem ir.trans (h:ir E S S1) (h':ir E S1 S2):ir E S S2:=by
 intro c0 c ρ F hs
 obtain ⟨c1,e,p1,h1⟩:=h c0 c ρ F hs
 obtain ⟨c2,e2,p2,h2⟩:=h' c0 c1 ρ F h1
 exact ⟨c2,e2.trans e,p1.trans p2,h2⟩
def mj (E:Env) (S S1:St):Prop:= ∀c0 c ρ F,bw E c0 c ρ S F→ ∃c1 ρ1,c1.w=c.w∧c.pub c1∧iP ρ ρ1∧bw E c0 c1 ρ1 S1 F
theorem mj.weak (h:mj E S S1):cC E S S1:=by
 intro c0 c ρ F hs
 obtain ⟨c1,ρ1,e,_,_,h1⟩:=h c0 c ρ F hs
 exact ⟨c1,ρ1,e,h1⟩
theorem mj.trans (h:mj E S S1) (h':mj E S1 S2):mj E S S2:=by
 intro c0 c ρ F hs
 obtain ⟨c1,ρ1,e,p1,r1,h1⟩:=h c0 c ρ F hs
 obtain ⟨c2,ρ2,e2,p2,r2,h2⟩:=h' c0 c1 ρ1 F h1
 exact ⟨c2,ρ2,e2.trans e,p1.trans p2,fun i v hi=>r2 i v (r1 i v hi),h2⟩
theorem JE {vs ws:List V} (h:ir E S S1) (hg:o4 E S1 vs S2 ws):o4 E S vs S2 ws:=by
 intro c0 c ρ F us hs hr
 obtain ⟨c1,e,p1,h1⟩:=h c0 c ρ F hs
 obtain ⟨c2,ρ2,e2,p2,h2,h3⟩:=hg c0 c1 ρ F us h1 (fW p1 hr)
 exact ⟨c2,ρ2,e2.trans e,p1.trans p2,h2,h3⟩
theorem A6 {f:FuncId} {caps vs:List V} {d:Option Nat} {ws:List V} {r:V} {H:List Blk} (hc:aI E f ws r H) (hw:ir E S S1) (hm:mtL (gL S1.H (vs++caps)) ws) (h:wfV r→aM E J k .normal (S1.after d r H)):ja E J (some (.fn f caps)) (some vs) S d k:=
 .inl ⟨ws,r,H,hc,.inl ⟨S1,JE hw (A5 hm),h⟩⟩
theorem JF {f:FuncId} {caps vs:List V} {d:Option Nat} {ws:List V} {r:V} {H:List Blk} (hc:aI E f ws r H) (hm:mtL (gL S.H (vs++caps)) ws) (h:wfV r→aM E J k .normal (S.after d r H)):ja E J (some (.fn f caps)) (some vs) S d k:=
 .inl ⟨ws,r,H,hc,.inl ⟨S,A5 hm,h⟩⟩
theorem A7 (i:Nat) {T n:Nat} {g:Bool} {z:Option Bool} {l:List V} (h:ae S.H i=some (.own T n g z l)):ir E S ⟨S.F,dc S.H i (.pown n g z l),S.nx⟩:=by
 intro c0 c ρ F hs
 obtain ⟨v,hv,hown,hge,hone,a,cap,es,hz⟩:=hs.1.heap _ _ h
 obtain ⟨c1,ρ1,e,h1⟩:=sv i h c0 c ρ F hs
 have hpd:=c.pub_dropv v
 have hbo:am ρ i=blk v:=by unfold am;rw [hv,es]
 have hsep: ∀j b,i≠j→ae S.H j=some b→aY b=true→ ∀x,am ρ j=some x→blk v≠some x:=by
  intro j b hij hb hp x hx hx'
  exact hs.1.sep i j _ b x hij h hb rfl hp (hbo▸hx') hx
 refine ⟨c.dropv v,rfl,hpd,⟨hs.1.since.dropv hge,hs.1.gl.mono hpd,fun t x ht=>bI hpd (hs.1.slot t x ht),?_,?_⟩,hs.2⟩
 ·intro j b hb
  simp only [cV] at hb
  split at hb
  ·rename_i e;subst e;cases hb
   refine ⟨v,hv,?_⟩
   obtain ⟨a',cap',e1,h1,h2⟩:=fV.1 hown.val
   rw [es] at e1;cases e1
   exact dx.2 ⟨a,cap,es,h1,hz,h2⟩
  ·rename_i hij
   have hb0:=hs.1.heap _ _ hb
   have hsp:=hsep j b hij hb
   cases b with
   | var n' g' d=>
    obtain ⟨b',h1,h2,h3⟩:=hb0
    exact ⟨b',h1,h2,Cx.dropv_var h3 (hsp rfl b' (by simp [am,h1]))⟩
   | own E' n' g' z' l'=>
    obtain ⟨v',h1,h2,h3,h4,a',cap',e',h5⟩:=hb0
    exact ⟨v',h1,Cx.dropv_own h2 (fun x hx=>hsp rfl x (by unfold am;rw [h1,e'];rw [e'] at hx;exact hx)),h3,h4,a',cap',e',h5⟩
   | ownI E' n' g' z' l'=>
    obtain ⟨v',h1,h2,h3,h4,a',cap',e',h5⟩:=hb0
    exact ⟨v',h1,Cx.dropv_own h2 (fun x hx=>hsp rfl x (by unfold am;rw [h1,e'];rw [e'] at hx;exact hx)),h3,h4,a',cap',e',h5⟩
   | pvar n' g' d=>
    obtain ⟨b',h1,h2⟩:=hb0
    exact ⟨b',h1,(kz _).mono h2 hpd⟩
   | pown n' g' z' l'=>
    obtain ⟨v',h1,h2⟩:=hb0
    exact ⟨v',h1,bI hpd h2⟩
   | lent k' n' g' d=>
    obtain ⟨h1,h2,h3⟩:=hb0
    exact ⟨h1,h2,Cx.dropv_var h3 (hsp rfl k' (by simp [am,h1]))⟩
   | kset g' k' n' l'=>
    obtain ⟨r,h1,h2,h3⟩:=hb0
    exact ⟨r,h1,h2,Cx.dropv_set h3 (hsp rfl r (by simp [am,h1,blk]))⟩
 ·intro a b ba bb x hab ha hb hpa hpb hx
  simp only [cV] at ha hb
  split at ha
  ·cases ha;cases hpa
  ·split at hb
   ·cases hb;cases hpb
   ·exact hs.1.sep a b ba bb x hab ha hb hpa hpb hx
def dp:List Nat→Nat→Nat→Option Nat
 | [],_,_=>none
 | j::l,i,k=>if j=i then some k else dp l i (k+1)
def sC (H:List (Nat×Blk)) (i:Nat):Option Nat→V
 | some k=> .own k
 | none=>iZ (ae H i)
mutual
def kY (H:List (Nat×Blk)) (ids:List Nat):V→V
 | .own i=>match dp ids i 0 with
  | some _=> .un
  | none=>iZ (ae H i)
 | .ptr _ _=> .un
 | .optr _ _ _ _=> .un
 | .osub _ _ _ _=> .un
 | .agg l=> .agg (j6 H ids l)
 | .tup l=> .tup (j6 H ids l)
 | .fn f l=> .fn f (j6 H ids l)
 | v=>v
def j6 (H:List (Nat×Blk)) (ids:List Nat):List V→List V
 | []=> []
 | d::l=>kY H ids d::j6 H ids l
end
def sD (H:List (Nat×Blk)) (ids:List Nat) (off:Nat):Option Blk→V
 | some (.var n g d)=>if off=0 then .pp n g (kY H ids d) else .un
 | _=> .un
mutual
def fO (H:List (Nat×Blk)) (ids:List Nat):V→V
 | .own i=>sC H i (dp ids i 0)
 | .ptr i o=>match dp ids i 0 with
  | some k=> .ptr k o
  | none=>sD H ids o (ae H i)
 | .optr _ _ _ _=> .un
 | .osub _ _ _ _=> .un
 | .agg l=> .agg (j7 H ids l)
 | .tup l=> .tup (j7 H ids l)
 | .fn f l=> .fn f (j7 H ids l)
 | v=>v
def j7 (H:List (Nat×Blk)) (ids:List Nat):List V→List V
 | []=> []
 | d::l=>fO H ids d::j7 H ids l
end
theorem ml: ∀{l:List Nat} {i k q:Nat},dp l i k=some q→k≤q∧l[q - k]? =some i
 | [],_,_,_,h=>by simp [dp] at h
 | j::l,i,k,q,h=>by
  simp only [dp] at h
  split at h
  ·rename_i e;subst e;cases h;simp
  ·obtain ⟨h1,h2⟩:=ml h
   refine ⟨by omega,?_⟩
   rw [show q - k=(q - (k+1))+1 by omega,List.getElem?_cons_succ]
   exact h2
theorem po: ∀{l:List Nat} {i k:Nat},dp l i k=none→i∉l
 | [],_,_,_=>by simp
 | j::l,i,k,h=>by
  simp only [dp] at h
  split at h
  ·cases h
  ·rename_i e
   simp only [List.mem_cons,not_or]
   exact ⟨fun e'=>e e'.symm,po h⟩
def cf (ρ:Ro) (ids:List Nat):Ro:=fun k=>match ids[k]? with
 | some i=>ρ i
 | none=>none
def Cx.give (c0 c:Cx) (ρ:Ro) (ids:List Nat) (h0:c0.w.heap.size≤c.w.heap.size) (h: ∀i∈ids,∀k,am ρ i=some k→k<c.w.heap.size):Cx:=
 {X:=c0.X++ids.filterMap (am ρ),w:=c.w,ok:=fun k hk=>(by
  rcases List.mem_append.1 hk with hk|hk
  ·exact Nat.lt_of_lt_of_le (c0.ok k hk) h0
  ·obtain ⟨i,hi,hb⟩:=List.mem_filterMap.1 hk
   exact h i hi k hb)}
def kZ (H:List (Nat×Blk)):List Nat→List Blk→Prop
 | [],[]=>True
 | i::ids,b::bs=>ae H i=some b∧(match b with| .own _ _ _ _ _=>True|_=>False)∧kZ H ids bs
 | _,_=>False
theorem A8 {H:List (Nat×Blk)}: ∀{ids:List Nat} {bs:List Blk},kZ H ids bs→ids.length=bs.length∧(∀(k:Nat) (b:Blk),bs[k]? =some b→ ∃i,ids[k]? =some i∧ae H i=some b∧ ∃T n g z l,b= .own T n g z l)∧ ∀i∈ids,∃b,ae H i=some b∧ ∃T n g z l,b= .own T n g z l
 | [],[],_=>⟨rfl,by simp,by simp⟩
 | i::ids,b::bs,h=>by
  simp only [kZ] at h
  obtain ⟨h1,h2,h3⟩:=h
  obtain ⟨g1,g2,g3⟩:=A8 h3
  have hb: ∃T n g z l,b= .own T n g z l:=by
   cases b<;>first|exact ⟨_,_,_,_,_,rfl⟩|exact h2.elim
  refine ⟨by simp [g1],?_,?_⟩
  ·intro k b' hk
   cases k with
   | zero=>simp at hk;subst hk;exact ⟨i,by simp,h1,hb⟩
   | succ k=>obtain ⟨j,e,g⟩:=g2 k b' (by simpa using hk);exact ⟨j,by simpa using e,g⟩
  ·intro j hj
   rcases List.mem_cons.1 hj with rfl|hj
   ·exact ⟨b,h1,hb⟩
   ·exact g3 j hj
 | [],_::_,h=>by simp [kZ] at h
 | _::_,[],h=>by simp [kZ] at h
theorem A9 {c1:Cx} (hw:c1.w=c.w) (hpb:c.pub c1) (h:Sim E c0 c ρ S F) {i:Nat} {b:Blk} {v:Value} (hb:ae S.H i=some b) (hv:ρ i=some v) (hn:aY b=true→ ∀k,am ρ i=some k→k∉c1.X):rd ro0 c1 (iZ (some b)) v:=by
 have hblk:=h.heap i b hb
 cases b with
 | own T n g z l=>
  obtain ⟨v',h1,h2,h3,h4,a,cap,e,hz⟩:=hblk
  rw [hv] at h1;cases h1
  simp only [iZ]
  refine dx.2 ⟨a,cap,e,⟨h2.1,?_⟩,hz,?_⟩
  ·rcases h2.2 with ⟨a',_,rfl⟩|⟨g',cp,cur,e2,_,_,k3,_⟩
   ·simp
   ·rw [e] at e2;cases e2;exact k3
  ·rcases h2.2 with ⟨a',_,rfl⟩|⟨g',cp,cur,e2,k1,k2,k3,k4,k5,k6⟩
   ·exact .inl rfl
   ·rw [e] at e2;cases e2
    refine .inr ⟨g',0,_,rfl,by rw [hw];exact c.ok g' k1,hn rfl g' (by unfold am;rw [hv,e];rfl),?_,dl hpb k6⟩
    intro j u hj
    rw [List.getElem?_take] at hj
    split at hj
    ·simp only [Nat.zero_add]
     show c1.w.cell? _=_
     rw [hw]
     simp only [World.cell?,k2]
     simpa using hj
    ·cases hj
 | pown n g z l=>
  obtain ⟨v',h1,h2⟩:=hblk
  rw [hv] at h1;cases h1
  exact bI hpb h2
 | _=>trivial
mutual
theorem wC {c1:Cx} {ids:List Nat} (hw:c1.w=c.w) (hpb:c.pub c1) (h:Sim E c0 c ρ S F) (hn: ∀i b,i∉ids→ae S.H i=some b→aY b=true→ ∀k,am ρ i=some k→k∉c1.X): ∀{d:V} {v:Value},rd ρ c d v→rd ro0 c1 (kY S.H ids d) v
 | .int _ _,_,hr=>hr
 | .bool _,_,hr=>hr
 | .ifc _,_,hr=>hr
 | .str _,_,hr=>hr
 | .agg l,v,hr=>by
  simp only [rd,kY] at hr⊢
  obtain ⟨cs,e,hr⟩:=hr
  exact ⟨cs,e,A_ hw hpb h hn hr⟩
 | .sl z n g l,v,hr=>bI hpb (show rd ro0 c (.sl z n g l) v from hr)
 | .pp n g d,v,hr=>bI hpb (show rd ro0 c (.pp n g d) v from hr)
 | .own i,v,hr=>by
  simp only [rd] at hr
  simp only [kY]
  cases hp:dp ids i 0 with
  | some q=>trivial
  | none=>
   show rd ro0 c1 (iZ (ae S.H i)) v
   cases hb:ae S.H i with
   | none=>trivial
   | some b=>exact A9 hw hpb h hb hr.1 (fun hp'=>hn i b (po hp) hb hp')
 | .ptr _ _,_,_=>trivial
 | .optr _ _ _ _,_,_=>trivial
 | .osub _ _ _ _,_,_=>trivial
 | .tup l,v,hr=>by
  simp only [rd,kY] at hr⊢
  obtain ⟨cs,e,hr⟩:=hr
  exact ⟨cs,e,wD hw hpb h hn hr⟩
 | .fn f l,v,hr=>by
  simp only [rd,kY] at hr⊢
  obtain ⟨cs,e,hr⟩:=hr
  exact ⟨cs,e,wD hw hpb h hn hr⟩
 | .opq p,v,hr=>bI hpb (show rd ro0 c (.opq p) v from hr)
 | .un,_,_=>trivial
theorem A_ {c1:Cx} {ids:List Nat} (hw:c1.w=c.w) (hpb:c.pub c1) (h:Sim E c0 c ρ S F) (hn: ∀i b,i∉ids→ae S.H i=some b→aY b=true→ ∀k,am ρ i=some k→k∉c1.X): ∀{l:List V} {cs:List Value},rdC ρ c l cs→rdC ro0 c1 (j6 S.H ids l) cs
 | [],_,hr=>hr
 | d::l,cs,hr=>by
  simp only [rdC,j6] at hr⊢
  obtain ⟨u,c2,e,h1,h2,h3⟩:=hr
  exact ⟨u,c2,e,h1,wC hw hpb h hn h2,A_ hw hpb h hn h3⟩
theorem wD {c1:Cx} {ids:List Nat} (hw:c1.w=c.w) (hpb:c.pub c1) (h:Sim E c0 c ρ S F) (hn: ∀i b,i∉ids→ae S.H i=some b→aY b=true→ ∀k,am ρ i=some k→k∉c1.X): ∀{l:List V} {cs:List Value},rdT ρ c l cs→rdT ro0 c1 (j6 S.H ids l) cs
 | [],_,hr=>hr
 | d::l,cs,hr=>by
  simp only [rdT,j6] at hr⊢
  obtain ⟨u,c2,e,h2,h3⟩:=hr
  exact ⟨u,c2,e,wC hw hpb h hn h2,wD hw hpb h hn h3⟩
end
theorem JG {c1:Cx} {ids:List Nat} (hw:c1.w=c.w) (hpb:c.pub c1) (h:Sim E c0 c ρ S F) (hn: ∀i b,i∉ids→ae S.H i=some b→aY b=true→ ∀k,am ρ i=some k→k∉c1.X) {i off:Nat} {b:Blk} {v:Value} (hi:i∉ids) (hb:ae S.H i=some b) (hv:rd ρ c (.ptr i off) v):rd ro0 c1 (sD S.H ids off (some b)) v:=by
 have hblk:=h.heap i b hb
 simp only [rd] at hv
 obtain ⟨b0,hv,rfl⟩:=hv
 cases b with
 | var n g d=>
  obtain ⟨b',h1,h2,h3,T,cs,h4,h5,h6⟩:=hblk
  rw [hv] at h1;cases h1
  simp only [sD]
  split
  ·rename_i e;subst e
   simp only [rd]
   refine ⟨b0,0,cs.toList,rfl,by rw [hw];exact c.ok b0 h3,hn i _ hi hb rfl b0 (by simp [am,hv]),?_,h5,wC hw hpb h hn h6⟩
   intro j u hj
   show c1.w.cell? _=_
   rw [hw]
   simp only [Nat.zero_add,World.cell?,h4]
   simpa using hj
  ·trivial
 | _=>trivial
mutual
theorem pq {c1:Cx} {ids:List Nat} (hw:c1.w=c.w) (hpb:c.pub c1) (h:Sim E c0 c ρ S F) (hn: ∀i b,i∉ids→ae S.H i=some b→aY b=true→ ∀k,am ρ i=some k→k∉c1.X): ∀{d:V} {v:Value},rd ρ c d v→rd (cf ρ ids) c1 (fO S.H ids d) v
 | .int _ _,_,hr=>hr
 | .bool _,_,hr=>hr
 | .ifc _,_,hr=>hr
 | .str _,_,hr=>hr
 | .agg l,v,hr=>by
  simp only [rd,fO] at hr⊢
  obtain ⟨cs,e,hr⟩:=hr
  exact ⟨cs,e,Ba hw hpb h hn hr⟩
 | .sl z n g l,v,hr=>bI hpb (show rd ro0 c (.sl z n g l) v from hr)
 | .pp n g d,v,hr=>bI hpb (show rd ro0 c (.pp n g d) v from hr)
 | .own i,v,hr=>by
  simp only [rd] at hr
  simp only [fO]
  cases hp:dp ids i 0 with
  | some q=>
   obtain ⟨_,h2⟩:=ml hp
   simp only [sC,rd]
   exact ⟨by simp only [cf];rw [show q - 0=q from rfl] at h2;rw [h2];exact hr.1,hr.2⟩
  | none=>
   simp only [sC]
   cases hb:ae S.H i with
   | none=>trivial
   | some b=>exact rd0 (A9 hw hpb h hb hr.1 (fun hp'=>hn i b (po hp) hb hp'))
 | .ptr i o,v,hr=>by
  simp only [rd] at hr
  simp only [fO]
  cases hp:dp ids i 0 with
  | some q=>
   obtain ⟨_,h2⟩:=ml hp
   obtain ⟨b,h3,h4⟩:=hr
   simp only [rd]
   exact ⟨b,by simp only [cf];rw [show q - 0=q from rfl] at h2;rw [h2];exact h3,h4⟩
  | none=>
   cases hb:ae S.H i with
   | none=>trivial
   | some b=>exact rd0 (JG hw hpb h hn (po hp) hb (by simp only [rd];exact hr))
 | .optr _ _ _ _,_,_=>trivial
 | .osub _ _ _ _,_,_=>trivial
 | .tup l,v,hr=>by
  simp only [rd,fO] at hr⊢
  obtain ⟨cs,e,hr⟩:=hr
  exact ⟨cs,e,wE hw hpb h hn hr⟩
 | .fn f l,v,hr=>by
  simp only [rd,fO] at hr⊢
  obtain ⟨cs,e,hr⟩:=hr
  exact ⟨cs,e,wE hw hpb h hn hr⟩
 | .opq p,v,hr=>bI hpb (show rd ro0 c (.opq p) v from hr)
 | .un,_,_=>trivial
theorem Ba {c1:Cx} {ids:List Nat} (hw:c1.w=c.w) (hpb:c.pub c1) (h:Sim E c0 c ρ S F) (hn: ∀i b,i∉ids→ae S.H i=some b→aY b=true→ ∀k,am ρ i=some k→k∉c1.X): ∀{l:List V} {cs:List Value},rdC ρ c l cs→rdC (cf ρ ids) c1 (j7 S.H ids l) cs
 | [],_,hr=>hr
 | d::l,cs,hr=>by
  simp only [rdC,j7] at hr⊢
  obtain ⟨u,c2,e,h1,h2,h3⟩:=hr
  exact ⟨u,c2,e,h1,pq hw hpb h hn h2,Ba hw hpb h hn h3⟩
theorem wE {c1:Cx} {ids:List Nat} (hw:c1.w=c.w) (hpb:c.pub c1) (h:Sim E c0 c ρ S F) (hn: ∀i b,i∉ids→ae S.H i=some b→aY b=true→ ∀k,am ρ i=some k→k∉c1.X): ∀{l:List V} {cs:List Value},rdT ρ c l cs→rdT (cf ρ ids) c1 (j7 S.H ids l) cs
 | [],_,hr=>hr
 | d::l,cs,hr=>by
  simp only [rdT,j7] at hr⊢
  obtain ⟨u,c2,e,h2,h3⟩:=hr
  exact ⟨u,c2,e,pq hw hpb h hn h2,wE hw hpb h hn h3⟩
end
theorem pr: ∀{l:List Nat} {i q q':Nat},l.Nodup→l[q]? =some i→l[q']? =some i→q=q'
 | [],_,_,_,_,h,_=>by simp at h
 | a::l,i,0,0,_,_,_=>rfl
 | a::l,i,0,q'+1,hd,h,h'=>by
  simp at h h';subst h
  exact absurd (List.mem_of_getElem? h') (List.nodup_cons.1 hd).1
 | a::l,i,q+1,0,hd,h,h'=>by
  simp at h h';subst h'
  exact absurd (List.mem_of_getElem? h) (List.nodup_cons.1 hd).1
 | a::l,i,q+1,q'+1,hd,h,h'=>by
  simp only [List.getElem?_cons_succ] at h h'
  rw [pr (List.nodup_cons.1 hd).2 h h']
theorem JH {v r:V} (ids:List Nat) {bs:List Blk} (ho:kZ S.H ids bs) (hd:ids.Nodup) (hm:mt (fO S.H ids v) r):sd E S v r bs:=by
 intro c0 c ρ F u hY h hr
 obtain ⟨hlen,hget,hall⟩:=A8 ho
 have hlt: ∀i∈ids,∀k,am ρ i=some k→k<c.w.heap.size:=by
  intro i hi k hk
  obtain ⟨b,hb,T,n,g,z,l,rfl⟩:=hall i hi
  exact fI rfl (h.1.heap _ _ hb) k hk
 have hge: ∀i∈ids,∀k,am ρ i=some k→c0.w.heap.size≤k:=by
  intro i hi k hk
  obtain ⟨b,hb,T,n,g,z,l,rfl⟩:=hall i hi
  exact Cx.mine_of hY (iR h.1 hb rfl k hk)
 have hX: ∀i∈ids,∀k,am ρ i=some k→k∈c.X:=by
  intro i hi k hk
  obtain ⟨b,hb,T,n,g,z,l,rfl⟩:=hall i hi
  obtain ⟨v,h1,h2,_,_,a,cap,e,_⟩:=h.1.heap _ _ hb
  refine h2.isX k ?_
  unfold am at hk
  rw [h1,e] at hk
  rw [e];exact hk
 have hpub:c.pub (Cx.give c0 c ρ ids h.1.since.size hlt):=by
  refine ⟨Nat.le_refl _,fun k hk hx=>⟨fun h'=> ?_,fun _ h _=>h⟩⟩
  rcases List.mem_append.1 h' with h'|h'
  ·exact hx (h.1.since.X k h' (by rw [hY];simp))
  ·obtain ⟨i,hi,hb⟩:=List.mem_filterMap.1 h'
   exact hx (hX i hi k hb)
 have hle:c0.le (Cx.give c0 c ρ ids h.1.since.size hlt):=by
  refine Cx.leY.le ⟨h.1.since.below,fun k hk _=>⟨fun h'=> ?_,fun h'=>List.mem_append.2 (.inl h')⟩⟩ hY
  rcases List.mem_append.1 h' with h'|h'
  ·exact h'
  ·obtain ⟨i,hi,hb⟩:=List.mem_filterMap.1 h'
   have:=hge i hi k hb
   omega
 refine ⟨Cx.give c0 c ρ ids h.1.since.size hlt,cf ρ ids,rfl,hle,fb hm (pq (c:=c) (c1:=Cx.give c0 c ρ ids h.1.since.size hlt) (ids:=ids) rfl hpub h.1 ?_ hr),?_,?_,?_⟩
 ·intro i b hi hb hp k hk hmem
  rcases List.mem_append.1 hmem with h'|h'
  ·have h1:=Cx.mine_of hY (iR h.1 hb hp k hk)
   have h2:=c0.ok k h'
   omega
  ·obtain ⟨j,hj,hb'⟩:=List.mem_filterMap.1 h'
   obtain ⟨bj,hbj,T,n,g,z,l,rfl⟩:=hall j hj
   exact h.1.sep i j b _ k (fun e=>hi (e▸hj)) hb hbj hp rfl hk hb'
 ·intro q b hq
  obtain ⟨i,hi,hb,T,n,g,z,l,rfl⟩:=hget q b hq
  refine ⟨.inl ⟨T,n,g,z,l,rfl⟩,?_⟩
  obtain ⟨v,h1,h2,h3,h4,a,cap,e,h5⟩:=h.1.heap _ _ hb
  have hmem:i∈ids:=List.mem_of_getElem? hi
  refine ⟨v,by simp only [cf,hi];exact h1,⟨h2.1,?_⟩,h3,h4,a,cap,e,h5⟩
  rcases h2.2 with h'|⟨g',cp,cur,e2,k1,k2,k3,k4,k5,k6⟩
  ·exact .inl h'
  ·refine .inr ⟨g',cp,cur,e2,List.mem_append.2 (.inr (List.mem_filterMap.2 ⟨i,hmem,?_⟩)),k2,k3,k4,k5,dl hpub k6⟩
   unfold am;rw [h1,e2];rfl
 ·intro q hq
  simp only [cf]
  rw [List.getElem?_eq_none (by omega)]
 ·intro q q' bq bq' k hne hq hq' hk hk'
  obtain ⟨i,hi,hb,T,n,g,z,l,rfl⟩:=hget q bq hq
  obtain ⟨i',hi',hb',T',n',g',z',l',rfl⟩:=hget q' bq' hq'
  have hii:i≠i':=by
   rintro rfl
   exact hne (pr hd hi hi')
  have e1:am (cf ρ ids) q=am ρ i:=by simp only [am,cf,hi]
  have e2:am (cf ρ ids) q'=am ρ i':=by simp only [am,cf,hi']
  rw [e1] at hk
  rw [e2] at hk'
  exact h.1.sep i i' _ _ k hii hb hb' rfl rfl hk hk'
def zN:Blk→Blk
 | .own T n g _ l=> .own T n g none l
 | b=>b
theorem JI {c0 c:Cx} {ρ:Ro} {i:Nat} {b:Blk} (h:blkOk c0 c ρ i b):blkOk c0 c ρ i (zN b):=by
 cases b with
 | own T n g z l=>
  obtain ⟨v,g1,g2,g3,g4,a,cap,e,g5⟩:=h
  exact ⟨v,g1,g2,g3,g4,a,cap,e,qV g5⟩
 | _=>exact h
theorem JJ {c':Cx} {H:List Blk} (h:HOk c c' ρ H):HOk c c' ρ (H.map zN):=by
 obtain ⟨h1,h2,h3⟩:=h
 have key: ∀(i:Nat) (b:Blk),(H.map zN)[i]? =some b→ ∃b0,H[i]? =some b0∧b=zN b0:=by
  intro i b hb
  rw [List.getElem?_map] at hb
  cases hi:H[i]? with
  | none=>rw [hi] at hb;cases hb
  | some b0=>
   rw [hi] at hb
   cases hb
   exact ⟨b0,rfl,rfl⟩
 refine ⟨fun i b hb=> ?_,fun i hi=>h2 i (by simpa using hi),fun i j bi bj k hij hi hj=> ?_⟩
 ·obtain ⟨b0,hi,rfl⟩:=key i b hb
  obtain ⟨hg,hk⟩:=h1 i _ hi
  refine ⟨?_,JI hk⟩
  rcases hg with ⟨T,n,g,z,l,rfl⟩|⟨g,k,n,l,rfl⟩
  ·exact .inl ⟨T,n,g,none,l,rfl⟩
  ·exact .inr ⟨g,k,n,l,rfl⟩
 ·obtain ⟨b0,hi',rfl⟩:=key i bi hi
  obtain ⟨b1,hj',rfl⟩:=key j bj hj
  exact h3 i j _ _ k hij hi' hj'
theorem wF {vs:List V} {r:V} (ids:List Nat) {bs:List Blk} (ho:kZ S.H ids bs) (hd:ids.Nodup) (hm:mt (fO S.H ids (fL vs)) r):l_ E S r (bs.map zN) (some vs):=by
 intro c0 c ρ F u hY hs hr
 obtain ⟨c1,ρ1,e,hle,h1,h2⟩:=JH ids ho hd hm c0 c ρ F u hY hs hr
 exact ⟨c1,ρ1,e,hle,h1,JJ h2⟩
theorem Bb {vs:List V} {T n:Nat} {g:Bool} {z:Option Bool} {l:List V} (i:Nat) (h:ae S.H i=some (.own T n g z l)) (hm:mt (fO S.H [i] (fL vs)) (.own 0)):l_ E S (.own 0) [.own T n g none l] (some vs):=
 wF [i] (bs:=[.own T n g z l]) ⟨h,trivial,trivial⟩ (by simp) hm
theorem Bc {T n:Nat} {g:Bool} (hone:g=false→n=1):l_ E S (.own 0) [.own T n g none []] (some [.sl (some true) n g []]):=by
 intro c0 c ρ F u hY h hr
 have e:u= .slice none 0 0:=by
  simp only [fL,rd,zOk] at hr
  obtain ⟨a,cap,e,_,⟨rfl,rfl⟩,_⟩:=hr
  exact e
 subst e
 refine ⟨c0.base c h.1.since.size,fun i=>if i=0 then some (.slice none 0 0) else none,rfl,Cx.leY.le ⟨h.1.since.below,fun k hk hy=>by rw [o3];exact ⟨fun h=>h.1,fun h=>⟨h,hy⟩⟩⟩ hY,⟨rfl,rfl⟩,?_,?_,?_⟩
 ·intro i b hb
  cases i with
  | zero=>
   simp at hb;subst hb
   exact ⟨.inl ⟨_,_,_,_,_,rfl⟩,.slice none 0 0,rfl,Own.nil,fun k hk=>by simp [blk] at hk,hone,none,0,rfl,fun _=>rfl⟩
  | succ i=>simp at hb
 ·intro i hi
  have:i≠0:=by simp at hi;omega
  simp [this]
 ·intro i j bi bj k hij hi hj
  cases i with
  | zero=>cases j with
   | zero=>exact absurd rfl hij
   | succ j=>simp at hj
  | succ i=>simp at hi
theorem Bd {f:FuncId} {pre post:List V} {n:Nat} {g:Bool} {l:List V} {r:V} {H:List Blk} (h1:l=[]→aI E f (pre++ .sl (some true) n g []::post) r H) (h2:aI E f (pre++ .sl (some false) n g l::post) r H) (z:Option Bool):aI E f (pre++ .sl z n g l::post) r H:=by
 refine ⟨h2.1,fun c us hY hg hus=> ?_⟩
 have key: ∀{pre:List V} {us:List Value},rdT ro0 c (pre++ .sl z n g l::post) us→(l=[]∧rdT ro0 c (pre++ .sl (some true) n g []::post) us)∨rdT ro0 c (pre++ .sl (some false) n g l::post) us:=by
  intro pre
  induction pre with
  | nil=>
   intro us h
   simp only [List.nil_append,rdT] at h⊢
   obtain ⟨u,c2,rfl,hu,h3⟩:=h
   obtain ⟨a,cap,e,hl,hz,hs⟩:=dx.1 hu
   cases a with
   | some a=>exact .inr ⟨u,c2,rfl,dx.2 ⟨_,cap,e,hl,by simp [zOk],hs⟩,h3⟩
   | none=>
    rcases hs with rfl|⟨b,o,cs,e',_⟩
    ·have hc:=qV hz rfl
     subst hc
     exact .inl ⟨rfl,u,c2,rfl,dx.2 ⟨none,0,e,⟨Nat.zero_le _,Nat.zero_le _⟩,⟨rfl,rfl⟩,.inl rfl⟩,h3⟩
    ·cases e'
  | cons d pre ih=>
   intro us h
   simp only [List.cons_append,rdT] at h⊢
   obtain ⟨u,c2,rfl,hu,h3⟩:=h
   rcases ih h3 with ⟨e,h4⟩|h4
   ·exact .inl ⟨e,u,c2,rfl,hu,h4⟩
   ·exact .inr ⟨u,c2,rfl,hu,h4⟩
 rcases key hus with ⟨e,h⟩|h
 ·exact (h1 e).2 c us hY hg h
 ·exact h2.2 c us hY hg h
end
attribute [go_sem] kX gL wB sy kZ kY j6 sD fO j7 dp sC
theorem aI.pub {E:Env} {f:FuncId} {ws:List V} {T n:Nat} {g:Bool} {z:Option Bool} {l:List V} (h:aI E f ws (.own 0) [.own T n g z l]):aI E f ws (.sl z n g l) []:=by
 refine ⟨h.1,fun c us hY hg hus=>(h.2 c us hY hg hus).mono ?_⟩
 rintro e w' ⟨v,c',ρ,rfl,rfl,hle,hrd,hH⟩
 obtain ⟨v',hv,hown,hge,hone,a,cap,es,hz⟩:=(hH.1 0 _ rfl).2
 have e:v=v':=by
  simp only [rd] at hrd
  rw [hv] at hrd
  exact (Option.some.inj hrd.1).symm
 subst e
 refine ⟨v,c'.dropv v,ro0,rfl,rfl,uy hle (fun g hg=>Cx.mine_of hY (hge g hg)),?_,fun i b hb=>by simp at hb,fun _ _=>rfl,fun i j bi bj k _ hb=>by simp at hb⟩
 obtain ⟨a',cap',e1,h1,h2⟩:=fV.1 hown.val
 rw [es] at e1;cases e1
 exact dx.2 ⟨a,cap,es,h1,hz,h2⟩
theorem Be {ρ ρ':Ro} {c:Cx} (hro:iP ρ ρ') {k:Nat} (hat:ρ' k=some (.slice none 0 0)): ∀{l:List V} {cs:List Value} {o n:Nat} {g:Bool},rdC ρ c l cs→l[o]? =some (.sl (some true) n g [])→rdC ρ' c (l.set o (.own k)) cs
 | [],cs,o,n,g,h,ho=>by simp at ho
 | d::l,cs,0,n,g,h,ho=>by
  simp only [List.getElem?_cons_zero,Option.some.injEq] at ho
  subst ho
  simp only [rdC] at h
  obtain ⟨u,c2,rfl,h1,h2,h3⟩:=h
  simp only [List.set_cons_zero,rdC]
  have e:u= .slice none 0 0:=by
   simp only [rd,zOk] at h2
   obtain ⟨a,cap,e,_,⟨rfl,rfl⟩,_⟩:=h2
   exact e
  subst e
  exact ⟨_,c2,rfl,h1,by simp only [rd];exact ⟨hat,rfl⟩,uG hro h3⟩
 | d::l,cs,o+1,n,g,h,ho=>by
  simp only [List.getElem?_cons_succ] at ho
  simp only [rdC] at h
  obtain ⟨u,c2,rfl,h1,h2,h3⟩:=h
  simp only [List.set_cons_succ,rdC]
  exact ⟨u,c2,rfl,h1,dz hro h2,Be hro hat h3 ho⟩
theorem JK {E:Env} {S:St} (j o T:Nat) {n' n:Nat} {g:Bool} {l:List V} (h:ae S.H j=some (.var n' true (.agg l))) (ho:l[o]? =some (.sl (some true) n g [])) (hg:g=false→n=1):
  mj E S ⟨S.F,(S.nx,.own T n g (some true) [])::dc S.H j (.var n' true (.agg (l.set o (.own S.nx)))),S.nx+1⟩:=by
 intro c0 c ρ F hs
 have hf:ρ S.nx=none:=hs.2 _ (Nat.le_refl _)
 have hro:iP ρ (fun i=>if i=S.nx then some (.slice none 0 0) else ρ i):=oY hf fun i hi=>by simp [hi]
 have hat:(fun i=>if i=S.nx then some (Value.slice none 0 0) else ρ i) S.nx=some (.slice none 0 0):=by simp
 have hoth: ∀i,i≠S.nx→(fun i=>if i=S.nx then some (Value.slice none 0 0) else ρ i) i=ρ i:=fun i hi=>by simp [hi]
 generalize (fun i=>if i=S.nx then some (Value.slice none 0 0) else ρ i)=ρ' at hro hat hoth
 obtain ⟨b0,g1,g2,g3⟩:=hs.1.heap _ _ h
 have hjn:j≠S.nx:=fun e=>by rw [e,hf] at g1;cases g1
 refine ⟨c,ρ',rfl,Cx.pub.refl _,hro,⟨hs.1.since,hs.1.gl,fun t v ht=>dz hro (hs.1.slot t v ht),?_,?_⟩,?_⟩
 ·intro i b hb
  simp only [ae] at hb
  split at hb
  ·rename_i e';subst e';cases hb
   exact ⟨_,hat,Own.nil,fun k hk=>by simp [blk] at hk,hg,none,0,rfl,rfl,rfl⟩
  ·rename_i hin
   rw [cV] at hb
   split at hb
   ·rename_i e';subst e';cases hb
    obtain ⟨hX,T',cs,hh,hsh,hrd⟩:=g3
    refine ⟨b0,by rw [hoth _ hjn];exact g1,g2,hX,T',cs,hh,hsh,?_⟩
    simp only [mkV,rd] at hrd⊢
    obtain ⟨cs',e1,e2⟩:=hrd
    exact ⟨cs',e1,Be hro hat e2 ho⟩
   ·exact ng hro (hs.1.heap i b hb)
 ·intro a b ba bb k hab hba hbb hpa hpb hk hk'
  have hn:am ρ' S.nx=none:=by simp [am,hat,blk]
  have hi:a≠S.nx:=fun e'=>by rw [e',hn] at hk;cases hk
  have hj:b≠S.nx:=fun e'=>by rw [e',hn] at hk';cases hk'
  simp only [ae,Ne.symm hi,Ne.symm hj,if_false,cV] at hba hbb
  rw [cZ (hoth a hi)] at hk
  rw [cZ (hoth b hj)] at hk'
  have back: ∀{x:Nat} {bx:Blk},(if j=x then some (Blk.var n' true (.agg (l.set o (.own S.nx)))) else ae S.H x)=some bx→aY bx=true→ ∃b',ae S.H x=some b'∧aY b'=true:=by
   intro x bx hx hp
   split at hx
   ·rename_i e;subst e;exact ⟨_,h,rfl⟩
   ·exact ⟨bx,hx,hp⟩
  obtain ⟨ba',h1,h2⟩:=back hba hpa
  obtain ⟨bb',h3,h4⟩:=back hbb hpb
  exact hs.1.sep a b ba' bb' k hab h1 h3 h2 h4 hk hk'
 ·intro i hi
  have:i≠S.nx:=fun e=>by subst e;simp only at hi;omega
  rw [hoth i this]
  exact hs.2 i (by simp only at hi;omega)
theorem j_ {E:Env} {S:St} (j o T:Nat) {n' n:Nat} {g:Bool} {l:List V} (h:ae S.H j=some (.var n' true (.agg l))) (ho:l[o]? =some (.sl (some true) n g [])) (hg:g=false→n=1):
  cC E S ⟨S.F,(S.nx,.own T n g (some true) [])::dc S.H j (.var n' true (.agg (l.set o (.own S.nx)))),S.nx+1⟩:=(JK j o T h ho hg).weak
end Go.Proofs.YtgealhhkngbkbaaGreatDoor
namespace Go.Proofs.YtgealhhkngbkbaaGreatDoor
open Go.RowKit
@[go_sem] theorem PT {α:Type} {a:α} {l m:List α}:List.append (a::l) m=a::List.append l m:=Eq.trans rfl rfl
@[go_sem] theorem PU {α:Type} {m:List α}:List.append [] m=m:=Eq.trans rfl rfl
attribute [go_sem] Int.cast_ofNat_Int
@[go_sem] theorem PV {l:List UInt8}:(l.toArray.size≤LEN)=(l.length≤1073741824):=by rw [List.size_toArray];rfl
theorem spQ {P Q:Prop} (h:Q) (e:P=Q:=by (simp only [go_sem,fg,fh,List.length_replicate,dE,Int.toNat_natCast,↓reduceIte,Nat.reduceEqDiff,Nat.reduceAdd,Int.reduceAdd,Nat.reduceMul,Nat.reduceLeDiff,Nat.reduceLT,Int.reduceLE,Int.reduceLT,Int.reduceNeg,Int.reduceToNat];rfl)):P:=e▸h
theorem aA {A P Q:Prop} (a:A) (h:Q) (e:A→P=Q:=by (intro hA;simp only [go_sem,fg,fh,List.length_replicate,dE,Int.toNat_natCast,↓reduceIte,Nat.reduceEqDiff,Nat.reduceAdd,Int.reduceAdd,Nat.reduceMul,Nat.reduceLeDiff,Nat.reduceLT,Int.reduceLE,Int.reduceLT,Int.reduceNeg,Int.reduceToNat,hA];rfl)):P:=e a▸h
theorem clQ {P:Prop} (h:P:=by (simp only [go_sem,fg,fh,List.length_replicate,dE,Int.toNat_natCast,↓reduceIte,Nat.reduceEqDiff,Nat.reduceAdd,Int.reduceAdd,Nat.reduceMul,Nat.reduceLeDiff,Nat.reduceLT,Int.reduceLE,Int.reduceLT,Int.reduceNeg,Int.reduceToNat,kT,kU,Int.reduceSub,or_self,or_true,true_or]<;>fail)):P:=h
theorem aD {A P:Prop} (a:A) (h:A→P:=by (intro hA;simp only [go_sem,fg,fh,List.length_replicate,dE,Int.toNat_natCast,↓reduceIte,Nat.reduceEqDiff,Nat.reduceAdd,Int.reduceAdd,Nat.reduceMul,Nat.reduceLeDiff,Nat.reduceLT,Int.reduceLE,Int.reduceLT,Int.reduceNeg,Int.reduceToNat,kT,kU,Int.reduceSub,or_self,or_true,true_or,hA]<;>fail)):P:=h a
theorem eC {A P:Prop} (a:A) (h:A→P:=by (intro hA;simp only [go_sem,fg,fh,List.length_replicate,dE,Int.toNat_natCast,↓reduceIte,Nat.reduceEqDiff,Nat.reduceAdd,Int.reduceAdd,Nat.reduceMul,Nat.reduceLeDiff,Nat.reduceLT,Int.reduceLE,Int.reduceLT,Int.reduceNeg,Int.reduceToNat,kT,kU,Int.reduceSub,or_self,or_true,true_or,hA]<;>fail)):P:=h a
theorem sbQ {P:Prop} (h:P:=by (simp only [go_sem,fg,fh,List.length_replicate,dE,Int.toNat_natCast,↓reduceIte,Nat.reduceEqDiff,Nat.reduceAdd,Int.reduceAdd,Nat.reduceMul,Nat.reduceLeDiff,Nat.reduceLT,Int.reduceLE,Int.reduceLT,Int.reduceNeg,Int.reduceToNat,pj,sx,wA,fM,fN,mtO,mtB,mt,mtL,nu,nt,ltV,ltL,ltB,eq_self,or_true,true_or,or_self,and_self]<;>fail)):P:=h
theorem k8 {A P:Prop} (a:A) (h:A→P:=by (intro hA;simp only [go_sem,fg,fh,List.length_replicate,dE,Int.toNat_natCast,↓reduceIte,Nat.reduceEqDiff,Nat.reduceAdd,Int.reduceAdd,Nat.reduceMul,Nat.reduceLeDiff,Nat.reduceLT,Int.reduceLE,Int.reduceLT,Int.reduceNeg,Int.reduceToNat,pj,sx,wA,fM,fN,mtO,mtB,mt,mtL,nu,nt,ltV,ltL,ltB,eq_self,or_true,true_or,or_self,and_self,hA]<;>fail)):P:=h a
theorem alQ {P:Prop} (h:P:=by first|(simp only [go_sem,fg,fh,List.length_replicate,dE,Int.toNat_natCast,↓reduceIte,Nat.reduceEqDiff,Nat.reduceAdd,Int.reduceAdd,Nat.reduceMul,Nat.reduceLeDiff,Nat.reduceLT,Int.reduceLE,Int.reduceLT,Int.reduceNeg,Int.reduceToNat,List.all_nil,List.all_cons];done)|rfl):P:=h
theorem nzQ {P Q:Prop} (h:P) (e:P=Q:=by first|(simp only [decide_eq_true_eq,decide_eq_false_iff_not,Bool.and_eq_true,Bool.or_eq_true,Bool.not_eq_true',Bool.not_eq_false',beq_iff_eq,bne_iff_ne,beq_eq_false_iff_ne,bne_eq_false_iff_eq,ne_eq,Int.not_lt,Int.not_le,gt_iff_lt,ge_iff_le,List.length_map,wfL,wfV,and_true,true_and,mh,pg,wt,wu,wv,ph,nC,List.length_append,List.length_cons,List.length_nil,List.length_replicate,dE,pi,pk,pm,gK,je,ww];rfl)|rfl):Q:=e▸h
theorem omQ {P:Prop} (h:P:=by (clear hM;(try simp only [List.length_map,List.length_set,ph,nC,List.length_append,List.length_cons,List.length_nil,List.length_replicate,dE,pi,pk,pm,gK,je,decide_eq_true_eq])<;>omega)):P:=h
theorem ax {P:Prop} (h:P:=by ((try simp only [List.length_map,List.length_set,ph,nC,List.length_append,List.length_cons,List.length_nil,List.length_replicate,dE,pi,pk,pm,gK,je,decide_eq_true_eq])<;>omega)):P:=h
theorem pfQ {P:Prop} (h:P:=by (clear hM;first|omega|(simp only [decide_eq_true_eq,decide_eq_false_iff_not,Bool.and_eq_true,Bool.or_eq_true,Bool.not_eq_true',Bool.not_eq_false',beq_iff_eq,bne_iff_ne,beq_eq_false_iff_ne,bne_eq_false_iff_eq,ne_eq,Int.not_lt,Int.not_le,gt_iff_lt,ge_iff_le,List.length_map,wfL,wfV,and_true,true_and,mh,pg,wt,wu,wv,ph,nC,List.length_append,List.length_cons,List.length_nil,List.length_replicate,dE,pi,pk,pm,gK,je,ww] at*;omega))):P:=h
theorem spR {P Q:Prop} (h:P) (e:P=Q:=by first|(simp only [go_sem,fg,fh,List.length_replicate,dE,Int.toNat_natCast,↓reduceIte,Nat.reduceEqDiff,Nat.reduceAdd,Int.reduceAdd,Nat.reduceMul,Nat.reduceLeDiff,Nat.reduceLT,Int.reduceLE,Int.reduceLT,Int.reduceNeg,Int.reduceToNat];rfl)|rfl):Q:=e▸h
end Go.Proofs.YtgealhhkngbkbaaGreatDoor
