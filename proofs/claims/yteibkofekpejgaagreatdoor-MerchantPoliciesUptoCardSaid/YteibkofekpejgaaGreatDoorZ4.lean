/- Texts of this proof, one after the other: VW, VX, VY, K, VZ, VP. -/
import Derived.Test.YteibkofekpejgaaGreatDoorZ3
import Derived.Test.YteibkofekpejgaaGreatDoorProg
import Derived.KernelRfl
import Derived.Lib.LaidTab
import Derived.Lib.ItoaNum
set_option linter.unusedVariables false
set_option linter.unusedSimpArgs false
namespace Go.Proofs.YteibkofekpejgaaGreatDoor
open Go.RowKit
def ca (E:Env) (S S1:St):Prop:= ∀c0 c ρ F,aT E c0 c ρ S F→ ∃c1 ρ1,c1.w=c.w∧aT E c0 c1 ρ1 S1 F
abbrev bV:=List Nat
def ib:Code→Option Nat
 | .region id _ _=>some id
 | .seq a b=>match ib a with
  | some i=>some i
  | none=>ib b
 | .cond _ a b=>match ib a with
  | some i=>some i
  | none=>ib b
 | .block _ a=>ib a
 | .loop a=>ib a
 | _=>none
def jR (J:bV) (b:Code):Bool:=match ib b with
 | some i=>bk J i
 | none=>false
def lw (E:Env) (M:St→Prop) (S:St):Prop:= ∃S1,ca E S S1∧M S1
def HR (E:Env) (ops:Array Oper):Bool→(St→Prop)→St→Prop
 | false,K,S=>eB E 0 [] ops.toList K S
 | true,K,S=> ∃n m wr wl need ub,(wlB ops m wl&&iN n m ops wr need&&((List.range m).all fun i=>(need.getD i []).all fun j=>decide (j<i)))=true∧ubB m need ub S.nx=true∧gC E S wr wl need ub K m 0 ops.toList []
def m4 (Q:Exit→St→Prop) (K:St→Prop):Exit→St→Prop
 | .normal,S=>K S
 | e,S=>Q e S
def w3 (Q:Exit→St→Prop) (id:Nat):Exit→St→Prop
 | .exit j,S=>if j=id then Q .normal S else Q (.exit j) S
 | e,S=>Q e S
def m5 (v:Option V) (A B:Prop):Prop:=match v with
 | some (.bool b)=>fP b true A B
 | _=>False
def rfK (E:Env) (ok:Prop) (Q:Exit→St→Prop) (N:St→Prop):Exit→St→Prop
 | .normal,S=> ∃S3,ca E (dnS S) S3∧N S3
 | .ret,S=>jQ S.H=true∧(ok→Q .ret (dnS S))
 | .exit id,S=>jQ S.H=true∧(ok→Q (.exit id) (dnS S))
 | _,_=>False
def fg:Code→Bool
 | .rangeFunc _ _ _ _=>false
 | .seq a b=>fg a&&fg b
 | .cond _ a b=>fg a&&fg b
 | .block _ a=>fg a
 | .loop a=>fg a
 | _=>true
def dn (n:Nat):Code→Bool
 | .region _ ops _=>fv n ops
 | .seq a b=>dn n a&&dn n b
 | .cond x a b=>inB n x&&(dn n a&&dn n b)
 | .block _ a=>dn n a
 | .loop a=>dn n a
 | .rangeFunc g ps as1 a=>(inB n g&&ps.toList.all (fun p=>decide (p<n))&&(match asg as1 with|some (d,_)=>decide (d<n)|none=>false)&&decide (n≤bU))&&(fg a&&dn n a)
 | _=>true
def BU (r:Option Nat) (hi:Nat→Value) (E:Env) (c0:Cx) (n:Nat) (Q:Exit→St→Prop) (e:Exit) (a:Act) (w:World):Prop:= ∃c ρ S F ds,c.w=w∧aT E c0 c ρ S F∧Fr (mo:=⟨ds,r,hi⟩) n F a∧da c0.w.heap.size ds w∧Q e S
def sr (E:Env) (code:Code) (Q:Exit→St→Prop) (S:St):Prop:= ∀(n:Nat) (r:Option Nat) (hi:Nat→Value) (c0:Cx) (QC:Exit→Act→World→Prop),dn n code=true→((r=none∧hi=fun _=>undef)∨fg code=true)→(∀e a w,BU r hi E c0 n Q e a w→QC e a w)→
 ∀c ρ F a ds,aT E c0 c ρ S F→Fr (mo:=⟨ds,r,hi⟩) n F a→da c0.w.heap.size ds c.w→code.wpIn {Fence.wide with round:=r} 1 E.P QC a c.w
def wpA (E:Env) (J:bV):Code→(Exit→St→Prop)→St→Prop
 | .skip,Q,S=>Q .normal S
 | .region id ops d,Q,S=>HR E ops d (Q .normal) S
 | .seq a b,Q,S=>match jR J b with
  | false=>wpA E J a (m4 Q (wpA E J b Q)) S
  | true=>wpA E J a (m4 Q (lw E (wpA E J b Q))) S∨sr E (.seq a b) Q S
 | .cond x a b,Q,S=>m5 (S.ev E.gv x) (wpA E J a Q S) (wpA E J b Q S)
 | .block id a,Q,S=>wpA E J a (w3 Q id) S
 | .loop a,Q,S=> ∃(I:Nat→St→Prop) (k0:Nat),(∃S1,ca E S S1∧I k0 S1)∧ ∀k S',I k S'→wpA E J a (m4 Q fun S2=> ∃k',k'<k∧ ∃S3,ca E S2 S3∧I k' S3) S'
 | .ret,Q,S=>Q .ret S
 | .exit id,Q,S=>Q (.exit id) S
 | .scope a,Q,S=>False
 | .rangeFunc g ps as1 a,Q,S=> ∃(gf:FuncId) (caps:List V) (xs:List (List V)) (d p:Nat) (I:List Nat→St→Prop) (S1:St),ca E S S1∧I [] S1∧S1.ev E.gv g=some (.fn gf caps)∧cU caps∧(asg as1=some (d,p)∧ps.toList.Nodup∧p∈ps.toList)∧wX E gf caps xs∧(∀l∈xs,l.length=ps.size)∧
   (∀pre S',I pre S'→(jQ S'.H&&so S'.F)=true)∧
   (∀(pre:List Nat) i l S',I pre S'→xs[i]? =some l→pre.length<xs.length→wpA E J a (rfK E (pre++[i]=List.range (pre.length+1)) Q (I (pre++[i]))) (sq d p ps.toList l S'))∧
   (∀S',I (List.range xs.length) S'→Q .normal S')
 | _,_,_=>False
section
variable {E:Env} {c0 c:Cx} {ρ:Ro} {S:St} {F:Fm}
theorem HU {r:Option Nat} {n d p:Nat} {ps:Array Tmp} {a:Act} {cx:Cx} {l:List V} {us:List Value} {hi:Nat→Value} (hx:aT E c0 cx ρ S F) (hf:a.tmps.size=n) (hsl: ∀t,t<n→a.tmps.getD t undef=F t) (hn:n≤bU) (hus:rdT ro0 cx l us) (hps: ∀q∈ps.toList,q<n) (hd:d<n) (hnd:ps.toList.Nodup) (hp:p∈ps.toList) (hl:l.length=ps.size) (hlo:so S.F=true) (hFu: ∀t,n≤t→t<bU→F t=undef)
  (ehi:hi=fun t=>if bU≤t then F (t - bU) else undef):
  ∃Fb,aT E c0 cx ρ (sq d p ps.toList l S) Fb∧Fr (mo:=⟨[],r,hi⟩) n Fb ((⟨dt (ps.toList.zip us) a.tmps,[]⟩:Act).put (some d) ((dt (ps.toList.zip us) a.tmps).getD p undef)):=by
 subst ehi
 have hsz:(dt (ps.toList.zip us) a.tmps).size=n:=BR.trans hf
 have hlt: ∀q∈ps.toList,q<a.tmps.size:=fun q hq=>by rw [hf];exact hps q hq
 have hru:rdT ρ cx l us:=mI (fun i v h=>by cases h) hus
 have hl':l.length=ps.toList.length:=by simpa using hl
 refine ⟨fun t=>if t<n then ((dt (ps.toList.zip us) a.tmps).setIfInBounds d ((dt (ps.toList.zip us) a.tmps).getD p undef)).getD t undef else (if bU≤t then F (t - bU) else undef),⟨⟨hx.1.since,hx.1.gl,?_,hx.1.heap,hx.1.sep⟩,hx.2⟩, @Fr.mk ⟨[],r,_⟩ n _ _ (by simp [Act.put,hsz]) rfl (fun t ht=>by simp only [if_pos ht];rfl) (fun t ht=>by simp only [if_neg (Nat.not_lt.2 ht)])⟩
 intro t v ht
 have zipR: ∀{t:Nat} {v:V},ab (ps.toList.zip l) t=some v→t∈ps.toList∧rd ρ cx v ((dt (ps.toList.zip us) a.tmps).getD t undef):=fun h=>BS hru hnd hl' hlt h
 have getD_set: ∀{q:Nat},q≠d→((dt (ps.toList.zip us) a.tmps).setIfInBounds d ((dt (ps.toList.zip us) a.tmps).getD p undef)).getD q undef=(dt (ps.toList.zip us) a.tmps).getD q undef:=fun h=>by
  simp [Array.getD_eq_getD_getElem?,Ne.symm h]
 have zipS: ∀{ks:List Nat} {l:List V} {q:Nat},l.length=ks.length→q∈ks→ ∃v,ab (ks.zip l) q=some v:=by
  intro ks
  induction ks with
  | nil=>intro l q _ h;cases h
  | cons k ks ih=>
   intro l q h1 h2
   cases l with
   | nil=>simp at h1
   | cons x l=>
    simp only [List.zip_cons_cons,ab]
    split
    ·exact ⟨_,rfl⟩
    ·rename_i e
     rcases List.mem_cons.1 h2 with h|h
     ·exact absurd h.symm e
     ·exact ih (by simpa using h1) h
 obtain ⟨vp,hvp⟩:=zipS hl' hp
 simp only [sq,hvp,BQ] at ht
 simp only [ab] at ht
 by_cases e:d=t
 ·subst e
  simp only [if_true] at ht
  cases ht
  rw [if_pos hd]
  have:=(zipR hvp).2
  simpa [Array.getD_eq_getD_getElem?,hsz,hd] using this
 ·simp only [e,if_false] at ht
  cases hz:ab (ps.toList.zip l) t with
  | some x=>
   simp only [hz] at ht
   cases ht
   obtain ⟨h1,h2⟩:=zipR hz
   rw [if_pos (hps t h1),getD_set (Ne.symm e)]
   exact h2
  | none=>
   simp only [hz] at ht
   cases hS:ab S.F t with
   | some x=>
    simp only [hS] at ht
    cases ht
    by_cases h1:t<n
    ·rw [if_pos h1,getD_set (Ne.symm e),wZ,hsl t h1]
     ·exact hx.1.slot t v hS
     ·intro hm
      obtain ⟨q,hq,e2⟩:=List.mem_map.1 hm
      have h3:=(List.of_mem_zip hq).1
      rw [e2] at h3
      obtain ⟨y,hy⟩:=zipS hl' h3
      rw [hz] at hy;cases hy
    ·have h2:=HQ hlo hS
     rw [if_neg h1,if_neg (by omega),←hFu t (by omega) h2]
     exact hx.1.slot t v hS
   | none=>
    simp only [hS] at ht
    obtain ⟨h1,h2⟩:=BP ht
    rw [if_neg (by omega),if_pos h1]
    exact hx.1.slot _ v h2
theorem w4 (hE:a8 E) (hmo:E.P.follows .mixedOrders=true) {n:Nat} {J:bV}: ∀(code:Code) (r:Option Nat) (hi:Nat→Value) (c0:Cx) (Q:Exit→St→Prop) (QC:Exit→Act→World→Prop),dn n code=true→((r=none∧hi=fun _=>undef)∨fg code=true)→(∀e a w,BU r hi E c0 n Q e a w→QC e a w)→
  ∀c ρ S F a ds,aT E c0 c ρ S F→Fr (mo:=⟨ds,r,hi⟩) n F a→da c0.w.heap.size ds c.w→wpA E J code Q S→code.wpIn {Fence.wide with round:=r} 1 E.P QC a c.w:=by
 intro code
 induction code with
 | skip=>
  intro r hi c0 Q QC hs hr hQ c ρ S F a ds h hf hd hk
  exact wpIn_skip (hQ _ _ _ ⟨c,ρ,S,F,ds,rfl,h,hf,hd,hk⟩)
 | region id ops d=>
  intro r hi c0 Q QC hs hr hQ c ρ S F a ds h hf hd hk
  have hT:wM (mo:=⟨ds,r,hi⟩) E (c.lend (cH ρ S.H)) n (Q .normal) (QC .normal):=fun c2 ρ2 S2 F2 a2 h2 hf2 hk2=>hQ _ _ _ ⟨c2,ρ2,S2,F2,ds,rfl,jP h h2.1.since h2,hf2,hd.since h h2.1.since,hk2⟩
  have hb:=pf h
  cases d with
  | false=>
   refine wpIn_region ?_
   have:=o7 (mo:=⟨ds,r,hi⟩) (c0:=c.lend (cH ρ S.H)) hE hs hT ops.toList [] [] rfl (fun j t hj=>by simp [ab] at hj) (c.lend (cH ρ S.H)) ρ S F a hb hf hk
   rw [List.range_eq_range']
   rw [show ([]:List Oper).length=0 from rfl,show ops.toList.length=ops.size by simp] at this
   exact this
  | true=>
   obtain ⟨n',m,wr,wl,need,ub,hB,hU,hk⟩:=hk
   simp only [Bool.and_eq_true,List.all_eq_true,List.mem_range,decide_eq_true_eq] at hB
   exact HK (mo:=⟨ds,r,hi⟩) (c0:=c.lend (cH ρ S.H)) (c:=c.lend (cH ρ S.H)) hB.1.1 hE hmo hs hB.1.2 hU hB.2 hT hb hf hk
 | seq x y ihx ihy=>
  intro r hi c0 Q QC hs hr hQ c ρ S F a ds h hf hd hk
  simp only [dn,Bool.and_eq_true] at hs
  simp only [fg,Bool.and_eq_true] at hr
  simp only [wpA] at hk
  split at hk
  ·refine wpIn_seq (ihx r hi c0 _ _ hs.1 (hr.imp id (·.1)) ?_ c ρ S F a ds h hf hd hk)
   clear hk
   rintro e a w ⟨c,ρ,S,F,ds,rfl,h,hf,hd,hk⟩
   cases e with
   | normal=>exact ihy r hi c0 Q QC hs.2 (hr.imp id (·.2)) hQ c ρ S F a ds h hf hd hk
   | _=>exact hQ _ _ _ ⟨c,ρ,S,F,ds,rfl,h,hf,hd,hk⟩
  ·rcases hk with hk|hk
   rotate_left
   ·exact hk n r hi c0 QC (by simp only [dn,Bool.and_eq_true];exact hs) (hr.imp id (fun h=>by simp only [fg,Bool.and_eq_true];exact h)) hQ c ρ F a ds h hf hd
   refine wpIn_seq (ihx r hi c0 _ _ hs.1 (hr.imp id (·.1)) ?_ c ρ S F a ds h hf hd hk)
   clear hk
   rintro e a w ⟨c,ρ,S,F,ds,rfl,h,hf,hd,hk⟩
   cases e with
   | normal=>
    obtain ⟨S1,hw,hM⟩:=hk
    obtain ⟨c1,ρ1,e1,h1⟩:=hw c0 c ρ F h
    have:=ihy r hi c0 Q QC hs.2 (hr.imp id (·.2)) hQ c1 ρ1 S1 F a ds h1 hf (by rw [e1];exact hd) hM
    rwa [e1] at this
   | _=>exact hQ _ _ _ ⟨c,ρ,S,F,ds,rfl,h,hf,hd,hk⟩
 | cond x a b iha ihb=>
  intro r hi c0 Q QC hs hr hQ c ρ S F act ds h hf hd hk
  simp only [dn,Bool.and_eq_true] at hs
  simp only [fg,Bool.and_eq_true] at hr
  simp only [wpA] at hk
  unfold m5 at hk
  split at hk
  ·rename_i t ht
   have hv:=aM h.1 ht
   simp only [rd] at hv
   exact wpIn_cond_split (by rw [hf.eval (mo:=⟨ds,r,hi⟩) hs.1];exact hv) (fun e=>iha r hi c0 Q QC hs.2.1 (hr.imp id (·.1)) hQ c ρ S F act ds h hf hd (hk.1 e)) (fun e=>ihb r hi c0 Q QC hs.2.2 (hr.imp id (·.2)) hQ c ρ S F act ds h hf hd (hk.2 e))
  ·exact hk.elim
 | block id x ih=>
  intro r hi c0 Q QC hs hr hQ c ρ S F a ds h hf hd hk
  refine wpIn_block (ih r hi c0 _ _ hs hr ?_ c ρ S F a ds h hf hd hk)
  clear hk
  rintro e a w ⟨c,ρ,S,F,ds,rfl,h,hf,hd,hk⟩
  cases e with
  | exit j=>
   simp only [w3] at hk
   simp only [Exit.inBlock]
   split at hk
   ·rename_i e;subst e
    rw [if_pos rfl]
    exact hQ _ _ _ ⟨c,ρ,S,F,ds,rfl,h,hf,hd,hk⟩
   ·rename_i e
    rw [if_neg (by simpa using e)]
    exact hQ _ _ _ ⟨c,ρ,S,F,ds,rfl,h,hf,hd,hk⟩
  | _=>exact hQ _ _ _ ⟨c,ρ,S,F,ds,rfl,h,hf,hd,hk⟩
 | loop x ih=>
  intro r hi c0 Q QC hs hr hQ c ρ S F a ds h hf hd hk
  simp only [wpA] at hk
  obtain ⟨I,k0,⟨S1,hw,hI⟩,hround⟩:=hk
  obtain ⟨c1,ρ1,e1,h1⟩:=hw c0 c ρ F h
  refine vd (mo:=⟨[],r,hi⟩) (fun k a w=> ∃c ρ S F ds,c.w=w∧aT E c0 c ρ S F∧Fr (mo:=⟨ds,r,hi⟩) n F a∧da c0.w.heap.size ds w∧I k S) k0 ⟨c1,ρ1,S1,F,ds,e1,h1,hf,hd,hI⟩ ?_
  rintro k a w ⟨c,ρ,S,F,ds,rfl,h,hf,hd,hI⟩
  refine ih r hi c0 _ _ hs hr ?_ c ρ S F a ds h hf hd (hround k S hI)
  rintro e a w ⟨c,ρ,S,F,ds,rfl,h,hf,hd,hk⟩
  cases e with
  | normal=>
   obtain ⟨k',hlt,S3,hw,hI⟩:=hk
   obtain ⟨c1,ρ1,e1,h1⟩:=hw c0 c ρ F h
   exact ⟨k',hlt,c1,ρ1,S3,F,ds,e1,h1,hf,hd,hI⟩
  | _=>exact hQ _ _ _ ⟨c,ρ,S,F,ds,rfl,h,hf,hd,hk⟩
 | ret=>
  intro r hi c0 Q QC hs hr hQ c ρ S F a ds h hf hd hk
  exact wpIn_ret (hQ _ _ _ ⟨c,ρ,S,F,ds,rfl,h,hf,hd,hk⟩)
 | exit id=>
  intro r hi c0 Q QC hs hr hQ c ρ S F a ds h hf hd hk
  exact wpIn_exit (hQ _ _ _ ⟨c,ρ,S,F,ds,rfl,h,hf,hd,hk⟩)
 | rangeFunc g ps as1 body _ ih=>
  intro r hi c0 Q QC hs hr hQ c ρ S F a ds h hf hd hk
  obtain ⟨rfl,rfl⟩:r=none∧hi=fun _=>undef:=by
   rcases hr with hr|hr
   ·exact hr
   ·simp [fg] at hr
  obtain ⟨gf,caps,xs,d,p,I,S1,hw,hI0,he,hpc,⟨ha,hnd,hpp⟩,hit,hxl,hnok,hround,hend⟩:=hk
  simp only [dn,ha,Bool.and_eq_true,decide_eq_true_eq,List.all_eq_true] at hs
  obtain ⟨⟨⟨⟨hgB,hpB⟩,hdB⟩,hnB⟩,hnr,hsb⟩:=hs
  obtain ⟨c1,ρ1,e1,h1⟩:=hw c0 c ρ F h
  rw [←e1] at hd⊢
  have hv:=aM h1.1 he
  simp only [rd] at hv
  obtain ⟨us,hfn,hus⟩:=hv
  obtain ⟨encs,hen,hseq⟩:=hit.2 c1 us h1.1.gl (lr hpc hus)
  have hFu: ∀t,n≤t→t<bU→F t=undef:=fun t ht _=>hf.hg t ht
  have hdlt: ∀k,{target:= .collected k,args:= #[]}∈ds→k<c1.w.heap.size:=fun k hk=>(Array.getElem?_eq_some_iff.1 (hd.mem hk)).1
  have hlen: ∀i:Fin xs.length,(encs i.val).length=ps.size:=fun i=>by
   have h2:xs[i.val]? =some xs[i.val]:=List.getElem?_eq_getElem i.isLt
   exact (wY (hen _ _ h2)).trans (hxl _ (List.getElem_mem _))
  have hgrow: ∀{cx:Cx} {ρx:Ro} {Sx:St} {B:World} {row:Option Nat},aT E c0 cx ρx Sx F→jQ Sx.H=true→da c0.w.heap.size ds cx.w→cx.w.grownBy B row→(∀k,row=some k→c1.w.heap.size≤k∧ ∃o:Obj,cx.w.heap[k]? =some o∧o.isCells=false)→
    ∃c',c'.w=B∧cx.pub c'∧aT E c0 c' ρx Sx F∧da c0.w.heap.size ds B:=by
   intro cx ρx Sx B row hx hn hdx hg hr
   obtain ⟨c',e,hp,h'⟩:=sn hx hg (fun k hk=>⟨Nat.le_trans h1.1.since.size (hr k hk).1,(hr k hk).2⟩) (fun k hk i b hb hpv hbl=>by
    obtain ⟨_,o,g1,g2⟩:=(hr k hk)
    obtain ⟨_,o',g3,g4⟩:=pe hpv (hx.1.heap i b hb) hbl
    rw [g1] at g3;cases g3
    rcases g4 with g4|⟨⟨g,k',m,l,e⟩,_⟩
    ·rw [g2] at g4;cases g4
    ·exact BT hn hb g k' m l e)
   refine ⟨c',e,hp,h',hdx.keep fun k hk ho=> ?_⟩
   refine (hg.block k (Array.getElem?_eq_some_iff.1 ho).1 fun e2=> ?_).trans ho
   have:=(hr k e2.symm).1
   have:=hdlt k hk
   omega
  refine HN (m:=3) rfl (wpIn_rangeFunc_ownG (α:=Fin xs.length) rfl (by omega) (gf:=gf) (lb:=us.toArray) (by rw [hf.eval (mo:=⟨ds,none,fun _=>undef⟩) hgB];exact hfn) trivial hit.1 (Kp:=gE c1) hseq
   (fun {A B C} hA hB=>⟨Nat.le_trans hA.1 hB.1,fun k hk hx o ho hc=>hB.2 k hk hx o (hA.2 k hk hx o ho hc) hc⟩)
   (fun W l o o' hl ho hc _=>⟨by simp,fun k hk hx o2 ho2 hc2=>(World.putObj_heap_other (by omega)).trans ho2⟩) (Below.refl _ _) (fun i=>by simpa using hlen i)
   (fun pre W=> ∃cx ρx Sx,cx.w=W∧aT E c0 cx ρx Sx F∧c1.pub cx∧da c0.w.heap.size ds W∧I (pre.map (·.val)) Sx)
   (fun cd pre W=> ∃cx ρx Sx,cx.w=W∧aT E c0 cx ρx Sx F∧da c0.w.heap.size ds W∧jQ Sx.H=true∧((cd= .ret∧(pre.map (·.val)=List.range pre.length→Q .ret Sx))∨ ∃id,cd= .exit id∧(pre.map (·.val)=List.range pre.length→Q (.exit id) Sx)))
   ?_ ?_ ⟨c1,ρ1,S1,rfl,h1,Cx.pub.refl _,hd,hI0⟩
   (fun i=>(⟨dt (ps.toList.zip (encs i.val)) a.tmps,[]⟩:Act).put (some d) ((dt (ps.toList.zip (encs i.val)) a.tmps).getD p undef)) ?_ ?_ ?_ ?_)
  ·rintro pre A B row ⟨cx,ρx,Sx,rfl,hx,hp,hdx,hi⟩ hg hr
   obtain ⟨c',e,hp',h',hd'⟩:=hgrow hx (by have:=hnok _ _ hi;simp only [Bool.and_eq_true] at this;exact this.1) hdx hg hr
   exact ⟨c',ρx,Sx,e,h',hp.trans hp',hd',hi⟩
  ·rintro cd pre A B row ⟨cx,ρx,Sx,rfl,hx,hdx,hn,hi⟩ hg hr
   obtain ⟨c',e,_,h',hd'⟩:=hgrow hx hn hdx hg hr
   exact ⟨c',ρx,Sx,e,h',hd',hn,hi⟩
  ·intro l i W K hK
   refine HO ha (fun _=>trivial) ?_
   have e:(ps.zip (encs i.val).toArray).foldl (fun t (p,v)=>t.setIfInBounds p v) a.tmps=dt (ps.toList.zip (encs i.val)) a.tmps:=by
    rw [←Array.foldl_toList];simp [dt]
   simp only [e]
   exact hK
  ·rintro l pre i W ⟨cx,ρx,Sx,rfl,hx,hp,hdx,hi⟩ hlt
   have hn:=hnok _ _ hi
   simp only [Bool.and_eq_true] at hn
   have hl:xs[i.val]? =some xs[i.val]:=List.getElem?_eq_getElem i.isLt
   have hb:=pf hx
   obtain ⟨Fb,hbS,hbF⟩:=HU (r:=some l) (a:=a) hb hf.sz (fun t ht=>hf.sl t ht) hnB (eZ (hp.trans (cx.pub_lend _)) (hen _ _ hl)) hpB hdB hnd hpp (hxl _ (List.getElem_mem _)) hn.2 hFu rfl
   refine ih (some l) _ (cx.lend (cH ρx Sx.H)) (rfK E (pre.map (·.val)++[i.val]=List.range ((pre.map (·.val)).length+1)) Q (I (pre.map (·.val)++[i.val]))) _ hsb (.inr hnr) ?_ (cx.lend (cH ρx Sx.H)) ρx _ Fb _ [] hbS hbF trivial (hround _ _ _ _ hi hl (by simpa using hlt))
   rintro e a2 w2 ⟨c2,ρ2,S2,F2,ds2,rfl,h2,hf2,_,hk2⟩
   have hs2:=h2.1.since
   have hKF:KeepsFrom c1.w.heap.size cx.w c2.w:=⟨hs2.size,fun k o _ ho hc=>wW hx hs2 ho hc (.inr fun i b hb=>BT hn.1 hb)⟩
   have hKP:gE c1 cx.w c2.w:=⟨hs2.size,fun k hk hX o ho hc=>((BN hx hs2).keep k (Nat.lt_of_lt_of_le hk hp.size) (hp.keep k hk hX).1).2 o ho hc⟩
   have hdn:aT E (cx.lend (cH ρx Sx.H)) c2 ρ2 (dnS S2) F:=by
    refine ⟨⟨h2.1.since,h2.1.gl,fun t v ht=> ?_,h2.1.heap,h2.1.sep⟩,h2.2⟩
    simp only [dnS,BO] at ht
    have h3:=h2.1.slot _ v ht
    rw [hf2.hg (bU+t) (by omega)] at h3
    simpa using h3
   have hd2:=hdx.since hx hs2
   cases e with
   | normal=>
    obtain ⟨S3,hw3,hN⟩:=hk2
    obtain ⟨c3,ρ3,e3,h3⟩:=hw3 _ c2 ρ2 F hdn
    exact ⟨hKF,hKP,c3,ρ3,S3,e3,jP hx h3.1.since h3,hp.trans (BN hx h3.1.since),hd2,by simpa using hN⟩
   | ret=>exact ⟨hKF,c2,ρ2,_,rfl,jP hx hdn.1.since hdn,hd2,hk2.1,.inl ⟨rfl,fun h=>hk2.2 (by simpa using h)⟩⟩
   | exit id=>exact ⟨hKF,c2,ρ2,_,rfl,jP hx hdn.1.since hdn,hd2,hk2.1,.inr ⟨id,rfl,fun h=>hk2.2 (by simpa using h)⟩⟩
   | _=>exact hk2.elim
  ·rintro D xs' W hD hS ⟨cx,ρx,Sx,rfl,hx,_,hdx,hi⟩ hK
   rw [hS] at hi
   refine hQ _ _ _ ⟨cx,ρx,Sx,F,{target:= .collected D,args:= #[]}::ds,rfl,hx, @Fr.mk ⟨_,none,_⟩ n F _ hf.sz (by simp [hf.df]) hf.sl hf.hg,⟨⟨D,rfl,Nat.le_trans h1.1.since.size hD,hK,?_⟩,hdx⟩,hend _ hi⟩
   rintro e he rfl
   have:=hdlt D he
   omega
  ·rintro D cd pre W hD hSp ⟨cx,ρx,Sx,rfl,hx,hdx,_,hi⟩ hK
   have hfin: ∀e,Q e Sx→QC e {a with defers:={target:= .collected D,args:= #[]}::a.defers} cx.w:=fun e hq=>by
    refine hQ _ _ _ ⟨cx,ρx,Sx,F,{target:= .collected D,args:= #[]}::ds,rfl,hx, @Fr.mk ⟨_,none,_⟩ n F _ hf.sz (by simp [hf.df]) hf.sl hf.hg,⟨⟨D,rfl,Nat.le_trans h1.1.since.size hD,hK,?_⟩,hdx⟩,hq⟩
    rintro e he rfl
    have:=hdlt D he
    omega
   rcases hi with ⟨rfl,hq⟩|⟨id,rfl,hq⟩
   ·exact wpIn_ret (hfin _ (hq hSp.1))
   ·exact wpIn_exit (hfin _ (hq hSp.1))
 | _=>
  intro r hi c0 Q QC hs hr hQ c ρ S F a ds h hf hd hk
  exact hk.elim
def ss (tb:TypeId→TI) (S:St):ResultVar→Option V
 | .tmp t=>ab S.F t
 | .cell t T=>match ab S.F t with
  | some (.ptr id 0)=>match ab S.H id with
   | some (.var n g d)=>if (tb T).ok=true∧(tb T).n=n∧(tb T).g=g then some d else none
   | some (.pvar n g d)=>if (tb T).ok=true∧(tb T).n=n∧(tb T).g=g then some d else none
   | _=>none
  | _=>none
def fR (tb:TypeId→TI) (S:St):List ResultVar→Option (List V)
 | []=>some []
 | x::l=>match ss tb S x,fR tb S l with
  | some v,some vs=>some (v::vs)
  | _,_=>none
def fh:List V→V
 | [v]=>v
 | vs=> .tup vs
def ph (E:Env) (S:St) (v:V) (r:V) (H:List Blk):Prop:=
 ∀c0 c ρ F u,c0.Y=[]→aT E c0 c ρ S F→rd ρ c v u→ ∃c1 ρ1,c1.w=c.w∧c0.le c1∧rd ρ1 c1 r u∧HOk c0 c1 ρ1 H
def su (E:Env) (rs:List ResultVar) (r:V) (H:List Blk):Exit→St→Prop
 | .ret,S=>match fR E.tb S rs with
  | some vs=>ph E S (fh vs) r H
  | none=>False
 | _,_=>False
theorem HV (hE:a8 E) (h:Sim E c0 c ρ S F) {x:ResultVar} {v:V} (hx:ss E.tb S x=some v): ∃u,vn E.P F c.w x u∧rd ρ c v u:=by
 cases x with
 | tmp t=>exact ⟨F t,rfl,h.slot t v hx⟩
 | cell t T=>
  simp only [ss] at hx
  split at hx
  ·rename_i id ht
   have hp:=h.slot _ _ ht
   simp only [rd] at hp
   obtain ⟨b,hb,he⟩:=hp
   split at hx
   ·rename_i n g d hH
    obtain ⟨⟨h1,rfl,rfl⟩,hx2⟩:=aR hx
    cases hx2
    obtain ⟨b',e1,e2,hv⟩:=h.heap _ _ hH
    rw [hb] at e1;cases e1
    obtain ⟨u,hu,hu'⟩:=Gg ((hE.t T h1).ty ρ) hv he
    exact ⟨u,hu,fy hu'⟩
   ·rename_i n g d hH
    obtain ⟨⟨h1,rfl,rfl⟩,hx2⟩:=aR hx
    cases hx2
    obtain ⟨b',e1,hv⟩:=h.heap _ _ hH
    rw [hb] at e1;cases e1
    obtain ⟨b2,o2,cs,e3,_,_,hc,hi⟩:=hv
    cases e3
    have hrun:=oF (P:=E.P) ((hE.t T h1).ty ro0) hi hc
    exact ⟨_,⟨_,he,hrun⟩,mT ⟨cs,hi,rfl⟩⟩
   ·cases hx
  ·cases hx
theorem BV {mo:Mo} (hE:a8 E) {n:Nat} {a:Act} (h:Sim E c0 c ρ S F) (hf: @Fr mo n F a) (h0:mo.hi=fun _=>undef): ∀{l:List ResultVar} {vs:List V},fR E.tb S l=some vs→ ∃us:List Value,us.length=l.length∧(l.mapM (kV a.tmps)).run E.P c.w= .ok us c.w∧rdT ρ c vs us
 | [],vs,hx=>by
  simp only [fR,Option.some.injEq] at hx
  subst hx
  exact ⟨[],rfl,by simp,rfl⟩
 | x::l,vs,hx=>by
  simp only [fR] at hx
  split at hx
  ·rename_i v vs' h1 h2
   cases hx
   obtain ⟨u,hu,hr⟩:=HV hE h h1
   obtain ⟨us,hl,hrun,hrs⟩:=BV hE h hf h0 h2
   refine ⟨u::us,by simp [hl],?_,?_⟩
   ·simp only [List.mapM_cons,Sem.run_bind,Gi hf h0 hu,Result.andThen_ok,hrun,Sem.run_pure]
   ·simp only [rdT];exact ⟨u,us,rfl,hr,hrs⟩
  ·cases hx
theorem w5 {mo:Mo} (hE:a8 E) {n:Nat} {a:Act} {fn:Func} (h:Sim E c0 c ρ S F) (hf: @Fr mo n F a) (h0:mo.hi=fun _=>undef) {vs:List V} (hx:fR E.tb S fn.results.toList=some vs): ∃u,(results fn a.tmps).run E.P c.w= .ok u c.w∧rd ρ c (fh vs) u:=by
 obtain ⟨us,hl,hrun,hrs⟩:=BV hE h hf h0 hx
 have hrun':(fn.results.mapM (kV a.tmps)).run E.P c.w= .ok us.toArray c.w:=by
  rw [Array.mapM_eq_mapM_toList]
  simp only [map_eq_pure_bind,Sem.run_bind,hrun,Result.andThen_ok,Sem.run_pure]
 refine ⟨if h:us.toArray.size=1 then us.toArray[0] else .tuple us.toArray,?_,?_⟩
 ·rw [Gh]
  simp only [Sem.run_bind,hrun',Result.andThen_ok,Sem.run_pure]
 ·match vs,us,hrs with
  | [],us,hrs=>
   simp only [rdT] at hrs
   subst hrs
   simp only [fh,rd]
   exact ⟨[],rfl,rfl⟩
  | [v],us,hrs=>
   simp only [rdT] at hrs
   obtain ⟨u,c2,rfl,h1,rfl⟩:=hrs
   exact h1
  | v::v'::vs,us,hrs=>
   have hrs':=hrs
   simp only [rdT] at hrs'
   obtain ⟨u,c2,rfl,h1,u',c3,rfl,h2,h3⟩:=hrs'
   simp only [fh,rd]
   refine ⟨u::u'::c3,?_,hrs⟩
   simp
def ic:Nat→List V→List (Nat×V)
 | _,[]=> []
 | i,v::l=>(i,v)::ic (i+1) l
theorem w6: ∀{l:List V} {i t:Nat},ab (ic i l) t=if i≤t then l[t - i]? else none
 | [],i,t=>by simp [ic,ab]
 | v::l,i,t=>by
  simp only [ic,ab,w6]
  by_cases h:i=t
  ·subst h;simp
  ·rw [if_neg h]
   by_cases h1:i≤t
   ·rw [if_pos h1,if_pos (by omega)]
    have:t - i=(t - (i+1))+1:=by omega
    rw [this,List.getElem?_cons_succ]
   ·rw [if_neg h1,if_neg (by omega)]
theorem ci (hE:a8 E) (hmo:E.P.follows .mixedOrders=true) {f:FuncId} {fn:Func} {code:Code} {ws:List V} {r:V} {H:List Blk} {n:Nat} (J:bV) (hf:E.P.funcs[f]? =some fn) (hb:fn.body=some code) (hnt:fn.ntmps=n)
  (hsl:(dn n code&&decide (ws.length≤n)&& !(fn.name== "runtime.NumGoroutine"))=true)
  (h:wfL ws→wpA E J code (su E fn.results.toList r H) ⟨ic 0 ws,[],0⟩):aW E f ws r H:=by
 simp only [Bool.and_eq_true,Bool.not_eq_true',decide_eq_true_eq] at hsl
 refine ⟨fun aas w=> ?_,fun c us hY hg hus=> ?_⟩
 ·have hn: ¬fn.name= "runtime.NumGoroutine" :=by simpa using hsl.2
  simp [callFunc,hf,hb,hn]
 have hlen:us.length=ws.length:=wY hus
 have hall:=h (mH hus)
 refine (callsIn_wide (n:=1)).1 (callsIn_of_wp_marks hf hb trivial ?_ rfl)
 have hfr:Fr (mo:=kO) n (fun t=>(us.toArray++Array.replicate (n - us.toArray.size) undef).getD t undef) {tmps:=us.toArray++Array.replicate (fn.ntmps - us.toArray.size) undef,defers:=[]}:=by
  refine Fr.of ?_ rfl fun t=>by rw [hnt]
  simp [hnt];omega
 have hS:aT E c c ro0 ⟨ic 0 ws,[],0⟩ (fun t=>(us.toArray++Array.replicate (n - us.toArray.size) undef).getD t undef):=by
  refine ⟨⟨cy.refl c,hg,?_,fun i b hb=>by simp [ab] at hb,fun i j bi bj k hij hb=>by simp [ab] at hb⟩,fun i _=>rfl⟩
  intro t v ht
  rw [w6] at ht
  simp only [Nat.zero_le,if_true,Nat.sub_zero] at ht
  obtain ⟨u,hu,hr⟩:=wt hus ht
  have hlt:t<us.length:=(List.getElem?_eq_some_iff.1 hu).1
  have:(us.toArray++Array.replicate (n - us.toArray.size) undef).getD t undef=u:=by
   have he:us[t]=u:=by simpa [List.getElem?_eq_getElem hlt] using hu
   simp [Array.getD_eq_getD_getElem?,Array.getElem?_append,hlt,he]
  rw [this];exact hr
 refine w4 hE hmo code none _ c _ _ hsl.1.1 (.inl ⟨rfl,rfl⟩) ?_ c ro0 _ _ _ [] hS hfr trivial hall
 rintro e a w ⟨c',ρ',S',F',ds,rfl,hS,hf',hd,hk⟩
 cases e with
 | ret=>
  simp only [su] at hk
  split at hk
  ·rename_i vs hvs
   show LeavesInM _ _ _ _ _ _ a.defers .returning c'.w
   rw [hf'.df]
   refine pg hS hd fun c2 hS2=> ?_
   obtain ⟨u,hu,hr⟩:=w5 hE hS2.1 hf' rfl hvs
   obtain ⟨c1,ρ1,e1,hle,hr1,hH⟩:=hk c c2 ρ' F' u hY hS2 hr
   exact ⟨u,hu,u,c1,ρ1,rfl,e1,hle,hr1,hH⟩
  ·exact hk.elim
 | _=>exact hk.elim
end
end Go.Proofs.YteibkofekpejgaaGreatDoor
namespace Go.Proofs.YteibkofekpejgaaGreatDoor
open Go.RowKit
def mtZ:Option Bool→Option Bool→Prop
 | _,none=>True
 | some a,some b=>a=b
 | none,some _=>False
def leV (a b:V):Prop:= ∀ρ c v,rd ρ c a v→rd ρ c b v
mutual
def mt:V→V→Prop
 | .int k n,.int k' n'=>k=k'∧n=n'
 | .bool a,.bool b=>a=b
 | .ifc a,.ifc b=>a=b
 | .str a,.str b=>a=b
 | .agg l,.agg m=>mtL l m
 | .sl z n g l,.sl z' n' g' m=>mtZ z z'∧((l=[]∧m=[])∨(n=n'∧g=g'∧mtL l m))
 | .pp n g d,.pp n' g' d'=>n=n'∧g=g'∧mt d d'
 | .own i,.own j=>i=j
 | .ptr i o,.ptr j p=>i=j∧o=p
 | .optr i m k o,.optr i' m' k' o'=>i=i'∧m=m'∧k=k'∧o=o'
 | .osub i m k o,.osub i' m' k' o'=>i=i'∧m=m'∧k=k'∧o=o'
 | .tup l,.tup m=>mtL l m
 | .fn f l,.fn f' m=>f=f'∧mtL l m
 | a,.opq p=>leV a (.opq p)
 | _,.un=>True
 | _,_=>False
def mtL:List V→List V→Prop
 | [],[]=>True
 | a::l,b::m=>mt a b∧mtL l m
 | _,_=>False
end
theorem lx {z z':Option Bool} {a:Option Addr} {cap:Nat} (h:mtZ z z') (k:zOk z a cap):zOk z' a cap:=by
 cases z' with
 | none=>exact kY k
 | some b=>
  cases z with
  | none=>exact h.elim
  | some b'=>
   have e:b'=b:=h
   subst e;exact k
theorem jS: ∀{l m:List V},mtL l m→l.length=m.length
 | [],[],_=>rfl
 | a::l,b::m,h=>by simp only [mtL] at h;simp [jS h.2]
 | [],_::_,h=>by simp [mtL] at h
 | _::_,[],h=>by simp [mtL] at h
mutual
theorem dK {ρ:Ro} {c:Cx}: ∀{a b:V} {v:Value},mt a b→rd ρ c a v→rd ρ c b v
 | .int k n,b,v,h,hr=>by
  cases b<;>simp only [mt] at h<;>try exact h.elim
  ·obtain ⟨rfl,rfl⟩:=h;exact hr
  ·exact h _ _ _ hr
  ·trivial
 | .bool a,b,v,h,hr=>by
  cases b<;>simp only [mt] at h<;>try exact h.elim
  ·subst h;exact hr
  ·exact h _ _ _ hr
  ·trivial
 | .ifc a,b,v,h,hr=>by
  cases b<;>simp only [mt] at h<;>try exact h.elim
  ·subst h;exact hr
  ·exact h _ _ _ hr
  ·trivial
 | .str a,b,v,h,hr=>by
  cases b<;>simp only [mt] at h<;>try exact h.elim
  ·subst h;exact hr
  ·exact h _ _ _ hr
  ·trivial
 | .agg l,b,v,h,hr=>by
  cases b<;>simp only [mt] at h<;>try exact h.elim
  ·simp only [rd] at hr⊢
   obtain ⟨cs,e,hr⟩:=hr
   exact ⟨cs,e,BW h hr⟩
  ·exact h _ _ _ hr
  ·trivial
 | .sl z n g l,b,v,h,hr=>by
  cases b<;>simp only [mt] at h<;>try exact h.elim
  ·rename_i z' n' g' m
   obtain ⟨hz,h⟩:=h
   simp only [rd] at hr⊢
   obtain ⟨a,cap,e,hl,hz',hr⟩:=hr
   rcases h with ⟨rfl,rfl⟩|⟨rfl,rfl,hm⟩
   ·exact ⟨a,cap,e,hl,lx hz hz',.inl rfl⟩
   ·have hlen:=jS hm
    rw [hlen] at hl e
    refine ⟨a,cap,e,hl,lx hz hz',?_⟩
    rcases hr with h|⟨b,o,cs,e,h1,h2,h3,h4⟩
    ·subst h
     exact .inl (List.eq_nil_of_length_eq_zero hlen.symm)
    ·exact .inr ⟨b,o,cs,e,h1,h2,h3,sv hm h4⟩
  ·exact h _ _ _ hr
  ·trivial
 | .pp n g d,b,v,h,hr=>by
  cases b<;>simp only [mt] at h<;>try exact h.elim
  ·obtain ⟨rfl,rfl,hm⟩:=h
   simp only [rd] at hr⊢
   obtain ⟨b,o,cs,e,h1,h2,h3,h4,h5⟩:=hr
   exact ⟨b,o,cs,e,h1,h2,h3,h4,dK hm h5⟩
  ·exact h _ _ _ hr
  ·trivial
 | .own i,b,v,h,hr=>by
  cases b<;>simp only [mt] at h<;>try exact h.elim
  ·subst h;exact hr
  ·exact h _ _ _ hr
  ·trivial
 | .ptr i o,b,v,h,hr=>by
  cases b<;>simp only [mt] at h<;>try exact h.elim
  ·obtain ⟨rfl,rfl⟩:=h;exact hr
  ·exact h _ _ _ hr
  ·trivial
 | .optr i m k o,b,v,h,hr=>by
  cases b<;>simp only [mt] at h<;>try exact h.elim
  ·obtain ⟨rfl,rfl,rfl,rfl⟩:=h;exact hr
  ·exact h _ _ _ hr
  ·trivial
 | .osub i m k o,b,v,h,hr=>by
  cases b<;>simp only [mt] at h<;>try exact h.elim
  ·obtain ⟨rfl,rfl,rfl,rfl⟩:=h;exact hr
  ·exact h _ _ _ hr
  ·trivial
 | .tup l,b,v,h,hr=>by
  cases b<;>simp only [mt] at h<;>try exact h.elim
  ·simp only [rd] at hr⊢
   obtain ⟨cs,e,hr⟩:=hr
   exact ⟨cs,e,ie h hr⟩
  ·exact h _ _ _ hr
  ·trivial
 | .fn f l,b,v,h,hr=>by
  cases b<;>simp only [mt] at h<;>try exact h.elim
  ·obtain ⟨rfl,h⟩:=h
   simp only [rd] at hr⊢
   obtain ⟨cs,e,hr⟩:=hr
   exact ⟨cs,e,ie h hr⟩
  ·exact h _ _ _ hr
  ·trivial
 | .opq p,b,v,h,hr=>by
  cases b<;>simp only [mt] at h<;>try exact h.elim
  ·exact h _ _ _ hr
  ·trivial
 | .un,b,v,h,hr=>by
  cases b<;>simp only [mt] at h<;>try exact h.elim
  ·exact h _ _ _ hr
  ·trivial
theorem BW {ρ:Ro} {c:Cx}: ∀{l m:List V} {cs:List Value},mtL l m→rdC ρ c l cs→rdC ρ c m cs
 | [],[],_,_,h=>h
 | a::l,b::m,cs,hm,h=>by
  simp only [rdC,mtL] at h hm⊢
  obtain ⟨u,c2,e,h1,h2,h3⟩:=h
  exact ⟨u,c2,e,h1,dK hm.1 h2,BW hm.2 h3⟩
 | [],_::_,_,hm,_=>by simp [mtL] at hm
 | _::_,[],_,hm,_=>by simp [mtL] at hm
theorem ie {ρ:Ro} {c:Cx}: ∀{l m:List V} {cs:List Value},mtL l m→rdT ρ c l cs→rdT ρ c m cs
 | [],[],_,_,h=>h
 | a::l,b::m,cs,hm,h=>by
  simp only [rdT,mtL] at h hm⊢
  obtain ⟨u,c2,e,h2,h3⟩:=h
  exact ⟨u,c2,e,dK hm.1 h2,ie hm.2 h3⟩
 | [],_::_,_,hm,_=>by simp [mtL] at hm
 | _::_,[],_,hm,_=>by simp [mtL] at hm
theorem sv {c:Cx} {n:Nat} {g:Bool}: ∀{l m:List V} {cs:List Value},mtL l m→rdE c n g l cs→rdE c n g m cs
 | [],[],_,_,h=>h
 | a::l,b::m,cs,hm,h=>by
  simp only [rdE,mtL] at h hm⊢
  obtain ⟨c1,c2,e,⟨h1,h2⟩,h3⟩:=h
  exact ⟨c1,c2,e,⟨h1,dK hm.1 h2⟩,sv hm.2 h3⟩
 | [],_::_,_,hm,_=>by simp [mtL] at hm
 | _::_,[],_,hm,_=>by simp [mtL] at hm
end
mutual
theorem w7: ∀(a:V),mt a a
 | .int _ _=>⟨rfl,rfl⟩
 | .bool _=>rfl
 | .ifc _=>rfl
 | .str _=>rfl
 | .agg l=>by simp only [mt];exact iZ l
 | .sl z n g l=>by
  simp only [mt]
  exact ⟨by rcases z with _|_<;>simp [mtZ],.inr ⟨trivial,trivial,iZ l⟩⟩
 | .pp n g d=>by simp only [mt];exact ⟨trivial,trivial,w7 d⟩
 | .own _=>rfl
 | .ptr _ _=>⟨rfl,rfl⟩
 | .optr _ _ _ _=>⟨rfl,rfl,rfl,rfl⟩
 | .osub _ _ _ _=>⟨rfl,rfl,rfl,rfl⟩
 | .tup l=>by simp only [mt];exact iZ l
 | .fn f l=>by simp only [mt];exact ⟨trivial,iZ l⟩
 | .opq p=>by simp only [mt];exact fun _ _ _ h=>h
 | .un=>trivial
theorem iZ: ∀(l:List V),mtL l l
 | []=>trivial
 | a::l=>by simp only [mtL];exact ⟨w7 a,iZ l⟩
end
theorem ly {a:V}:mt a a=True:=eq_true (w7 a)
theorem lz {l:List V}:mtL l l=True:=eq_true (iZ l)
theorem HW {a b a' b':List V} (h1:mtL a a') (h2:mtL b b'):mtL (a++b) (a'++b'):=by
 induction a generalizing a' with
 | nil=>cases a' with
  | nil=>exact h2
  | cons x l=>simp [mtL] at h1
 | cons y a ih=>cases a' with
  | nil=>simp [mtL] at h1
  | cons x l=>
   simp only [mtL] at h1
   simp only [List.cons_append,mtL]
   exact ⟨h1.1,ih h1.2⟩
theorem HX {a b b':List V} (h:mtL (a++b) (a++b')):mtL b b':=by
 induction a with
 | nil=>exact h
 | cons x a ih=>simp only [List.cons_append,mtL] at h;exact ih h.2
theorem HY {a b b':List V}:mtL (a++b) (a++b')=mtL b b':=propext ⟨HX,fun h=>HW (iZ a) h⟩
mutual
def ltV (n:Nat):V→Prop
 | .own i=>i<n
 | .ptr i _=>i<n
 | .optr i _ _ _=>i<n
 | .osub i _ _ _=>i<n
 | .agg l=>ltL n l
 | .tup l=>ltL n l
 | .fn _ l=>ltL n l
 | _=>True
def ltL (n:Nat):List V→Prop
 | []=>True
 | d::l=>ltV n d∧ltL n l
end
def mtO (v:V):Option V→Prop
 | some u=>mt u v
 | none=>False
def dL (F:List (Nat×V)) (n:Nat):List (Nat×V)→Prop
 | []=>True
 | (t,v)::l=>mtO v (ab F t)∧ltV n v∧dL F n l
def mtB (b:Blk):Option Blk→Prop
 | some a=>match a,b with
  | .var n g d,.var n' g' d'=>n=n'∧g=g'∧mt d d'
  | .own E n g z l,.own E' n' g' z' m=>E=E'∧n=n'∧g=g'∧mtZ z z'∧mtL l m
  | .ownI E n g z l,.ownI E' n' g' z' m=>E=E'∧n=n'∧g=g'∧mtZ z z'∧mtL l m
  | .pvar n g d,.pvar n' g' d'=>n=n'∧g=g'∧mt d d'
  | .pown n g z l,.pown n' g' z' m=>n=n'∧g=g'∧mtZ z z'∧mtL l m
  | .lent k n g d,.lent k' n' g' d'=>k=k'∧n=n'∧g=g'∧mt d d'
  | .kset g k n l,.kset g' k' n' l'=>g=g'∧k=k'∧n=n'∧l=l'
  | _,_=>False
 | none=>False
def ltB (n:Nat):Blk→Prop
 | .var _ _ d=>ltV n d
 | .lent _ _ _ d=>ltV n d
 | .ownI _ _ _ _ l=>ltL n l
 | _=>True
def dM (H:List (Nat×Blk)) (n:Nat):List (Nat×Blk)→Prop
 | []=>True
 | (i,b)::l=>mtB b (ab H i)∧i<n∧ltB n b∧dM H n l
section
variable {E:Env} {c0 c:Cx} {ρ:Ro} {S S1:St} {F:Fm}
def i4 (n:Nat) (ρ:Ro):Ro:=fun i=>if i<n then ρ i else none
theorem fB {n i:Nat} (h:i<n):i4 n ρ i=ρ i:=by simp [i4,h]
mutual
theorem m6 {n:Nat}: ∀{d:V} {v:Value},ltV n d→rd ρ c d v→rd (i4 n ρ) c d v
 | .int _ _,_,_,h=>h
 | .bool _,_,_,h=>h
 | .ifc _,_,_,h=>h
 | .str _,_,_,h=>h
 | .agg l,v,hp,h=>by
  simp only [rd,ltV] at h hp⊢
  obtain ⟨cs,e,h⟩:=h
  exact ⟨cs,e,BX hp h⟩
 | .sl z n g l,v,_,h=>h
 | .pp n g d,v,_,h=>h
 | .own i,_,hp,h=>by
  simp only [ltV] at hp
  exact ⟨(fB hp).trans h.1,h.2⟩
 | .ptr i o,_,hp,h=>by
  simp only [ltV,rd] at hp h⊢
  obtain ⟨b,h1,h2⟩:=h
  exact ⟨b,(fB hp).trans h1,h2⟩
 | .optr i m k o,_,hp,h=>by
  simp only [ltV,rd] at hp h⊢
  obtain ⟨b,h1,h2⟩:=h
  exact ⟨b,(fB hp).trans h1,h2⟩
 | .osub i m k o,_,hp,h=>by
  simp only [ltV,rd] at hp h⊢
  obtain ⟨b,h1,h2⟩:=h
  exact ⟨b,(fB hp).trans h1,h2⟩
 | .tup l,v,hp,h=>by
  simp only [rd,ltV] at h hp⊢
  obtain ⟨cs,e,h⟩:=h
  exact ⟨cs,e,w8 hp h⟩
 | .fn f l,v,hp,h=>by
  simp only [rd,ltV] at h hp⊢
  obtain ⟨cs,e,h⟩:=h
  exact ⟨cs,e,w8 hp h⟩
 | .opq p,v,_,h=>h
 | .un,_,_,_=>trivial
theorem BX {n:Nat}: ∀{l:List V} {cs:List Value},ltL n l→rdC ρ c l cs→rdC (i4 n ρ) c l cs
 | [],_,_,h=>h
 | d::l,cs,hp,h=>by
  simp only [rdC,ltL] at h hp⊢
  obtain ⟨u,c2,e,h1,h2,h3⟩:=h
  exact ⟨u,c2,e,h1,m6 hp.1 h2,BX hp.2 h3⟩
theorem w8 {n:Nat}: ∀{l:List V} {cs:List Value},ltL n l→rdT ρ c l cs→rdT (i4 n ρ) c l cs
 | [],_,_,h=>h
 | d::l,cs,hp,h=>by
  simp only [rdT,ltL] at h hp⊢
  obtain ⟨u,c2,e,h2,h3⟩:=h
  exact ⟨u,c2,e,m6 hp.1 h2,w8 hp.2 h3⟩
end
theorem BZ {G:List (Nat×V)} {n:Nat}: ∀{l:List (Nat×V)},dL G n l→ ∀{t:Nat} {v:V},ab l t=some v→ ∃u,ab G t=some u∧mt u v∧ltV n v
 | [],_,t,v,h=>by simp [ab] at h
 | (k,x)::l,hs,t,v,h=>by
  simp only [dL] at hs
  simp only [ab] at h
  split at h
  ·rename_i e;subst e;cases h
   obtain ⟨h1,h2,_⟩:=hs
   unfold mtO at h1
   split at h1
   ·rename_i u hu;exact ⟨u,hu,h1,h2⟩
   ·exact h1.elim
  ·exact BZ hs.2.2 h
theorem sw {G:List (Nat×Blk)} {n:Nat}: ∀{l:List (Nat×Blk)},dM G n l→ ∀{i:Nat} {b:Blk},ab l i=some b→ ∃a,ab G i=some a∧mtB b (some a)∧i<n∧ltB n b
 | [],_,t,v,h=>by simp [ab] at h
 | (k,x)::l,hs,t,v,h=>by
  simp only [dM] at hs
  simp only [ab] at h
  split at h
  ·rename_i e;subst e;cases h
   obtain ⟨h1,h2,h3,_⟩:=hs
   cases hu:ab G k with
   | none=>rw [hu] at h1;exact h1.elim
   | some a=>rw [hu] at h1;exact ⟨a,rfl,h1,h2,h3⟩
  ·exact sw hs.2.2.2 h
theorem B0 {n k:Nat} {g:Bool}: ∀{l m:List V} {cs:List Value},mtL l m→ltL k m→a7 (rV ρ n g) c cs l→a7 (rV (i4 k ρ) n g) c cs m
 | [],[],cs,_,_,h=>h
 | a::l,b::m,cs,hm,hl,h=>by
  simp only [mtL,ltL,a7] at hm hl h⊢
  obtain ⟨c1,c2,e,⟨h1,h2⟩,h3⟩:=h
  exact ⟨c1,c2,e,⟨h1,m6 hl.1 (dK hm.1 h2)⟩,B0 hm.2 hl.2 h3⟩
 | [],_::_,_,hm,_,_=>by simp [mtL] at hm
 | _::_,[],_,hm,_,_=>by simp [mtL] at hm
theorem B_ {n:Nat} {g:Bool} {l m:List V} {cs:List Value} (h:mtL l m) (ha:a7 (rV ro0 n g) c cs l):a7 (rV ro0 n g) c cs m:=er.1 (sv h (er.2 ha))
theorem w9 {n i:Nat} {a b:Blk} (h:mtB b (some a)) (hi:i<n) (hl:ltB n b) (hb:blkOk c0 c ρ i a):blkOk c0 c (i4 n ρ) i b∧aU b=aU a:=by
 cases a<;>cases b<;>simp only [mtB] at h<;>try exact h.elim
 ·obtain ⟨rfl,rfl,hm⟩:=h
  obtain ⟨b,h1,h2,h3,T,cs,h4,h5,h6⟩:=hb
  exact ⟨⟨b,(fB hi).trans h1,h2,h3,T,cs,h4,h5,m6 hl (dK hm h6)⟩,rfl⟩
 ·obtain ⟨rfl,rfl,rfl,hz,hm⟩:=h
  obtain ⟨v,h1,h2,h3,h4,a,cap,e,h5⟩:=hb
  have hlen:=jS hm
  refine ⟨⟨v,(fB hi).trans h1,⟨hlen▸h2.1,?_⟩,h3,h4,a,cap,hlen▸e,lx hz h5⟩,rfl⟩
  rcases h2.2 with ⟨a',e9,rfl⟩|⟨g',cp,cur,e,k1,k2,k3,k4,k5,k6⟩
  ·exact .inl ⟨a',e9,List.eq_nil_of_length_eq_zero hlen.symm⟩
  ·rw [hlen] at e k3 k6
   exact .inr ⟨g',cp,cur,e,k1,k2,k3,k4,k5,B_ hm k6⟩
 ·obtain ⟨rfl,rfl,rfl,hz,hm⟩:=h
  obtain ⟨v,h1,h2,h3,h4,a,cap,e,h5⟩:=hb
  have hlen:=jS hm
  simp only [ltB] at hl
  refine ⟨⟨v,(fB hi).trans h1,⟨hlen▸h2.1,?_⟩,h3,h4,a,cap,hlen▸e,lx hz h5⟩,rfl⟩
  rcases h2.2 with ⟨a',e9,rfl⟩|⟨g',cp,cur,e,k1,k2,k3,k4,k5,k6⟩
  ·exact .inl ⟨a',e9,List.eq_nil_of_length_eq_zero hlen.symm⟩
  ·rw [hlen] at e k3 k6
   exact .inr ⟨g',cp,cur,e,k1,k2,k3,k4,k5,B0 hm hl k6⟩
 ·obtain ⟨rfl,rfl,hm⟩:=h
  obtain ⟨b,h1,b',o,cs,e,h2,h3,h4,h5,h6⟩:=hb
  exact ⟨⟨b,(fB hi).trans h1,b',o,cs,e,h2,h3,h4,h5,dK hm h6⟩,rfl⟩
 ·obtain ⟨rfl,rfl,hz,hm⟩:=h
  obtain ⟨v,h1,h2⟩:=hb
  refine ⟨⟨v,(fB hi).trans h1,dK ?_ h2⟩,rfl⟩
  simp only [mt]
  exact ⟨hz,.inr ⟨trivial,trivial,hm⟩⟩
 ·obtain ⟨rfl,rfl,rfl,hm⟩:=h
  obtain ⟨h1,h2,h3,T,cs,h4,h5,h6⟩:=hb
  exact ⟨⟨(fB hi).trans h1,h2,h3,T,cs,h4,h5,m6 hl (dK hm h6)⟩,rfl⟩
 ·obtain ⟨rfl,rfl,rfl,rfl⟩:=h
  obtain ⟨r,h1,h2⟩:=hb
  exact ⟨⟨r,(fB hi).trans h1,h2⟩,rfl⟩
theorem fS (h1:dL S.F S1.nx S1.F) (h2:dM S.H S1.nx S1.H):ca E S S1:=by
 intro c0 c ρ F h
 refine ⟨c,i4 S1.nx ρ,rfl,⟨h.1.since,h.1.gl,?_,?_,?_⟩,fun i hi=>by simp [i4,Nat.not_lt.2 hi]⟩
 ·intro t v ht
  obtain ⟨u,hu,hm,hl⟩:=BZ h1 ht
  exact m6 hl (dK hm (h.1.slot t u hu))
 ·intro i b hb
  obtain ⟨a,ha,hm,hi,hl⟩:=sw h2 hb
  exact (w9 hm hi hl (h.1.heap i a ha)).1
 ·intro i j bi bj k hij hbi hbj hpi hpj hk hk'
  obtain ⟨ai,hai,hmi,hi,hli⟩:=sw h2 hbi
  obtain ⟨aj,haj,hmj,hj,hlj⟩:=sw h2 hbj
  have e1:=(w9 hmi hi hli (h.1.heap i ai hai)).2
  have e2:=(w9 hmj hj hlj (h.1.heap j aj haj)).2
  rw [cJ (fB hi)] at hk
  rw [cJ (fB hj)] at hk'
  exact h.1.sep i j ai aj k hij hai haj (e1▸hpi) (e2▸hpj) hk hk'
def jT:Option Blk→V
 | some (.own _ n g z l)=> .sl z n g l
 | some (.pown n g z l)=> .sl z n g l
 | _=> .un
mutual
def ig (H:List (Nat×Blk)):V→V
 | .own i=>jT (ab H i)
 | .ptr _ _=> .un
 | .optr _ _ _ _=> .un
 | .osub _ _ _ _=> .un
 | .agg l=> .agg (ii H l)
 | .tup l=> .tup (ii H l)
 | .fn f l=> .fn f (ii H l)
 | v=>v
def ii (H:List (Nat×Blk)):List V→List V
 | []=> []
 | d::l=>ig H d::ii H l
end
def m7 (H:List (Nat×Blk)) (off:Nat):Option Blk→V
 | some (.var n g d)=>if off=0 then .pp n g (ig H d) else .un
 | some (.lent _ n g d)=>if off=0 then .pp n g (ig H d) else .un
 | some (.pvar n g d)=>if off=0 then .pp n g d else .un
 | _=> .un
mutual
def fC (H:List (Nat×Blk)):V→V
 | .own i=>jT (ab H i)
 | .ptr i o=>m7 H o (ab H i)
 | .optr _ _ _ _=> .un
 | .osub _ _ _ _=> .un
 | .agg l=> .agg (ii H l)
 | .tup l=> .tup (i5 H l)
 | .fn f l=> .fn f (i5 H l)
 | v=>v
def i5 (H:List (Nat×Blk)):List V→List V
 | []=> []
 | d::l=>fC H d::i5 H l
end
theorem sx (h:Sim E c0 c ρ S F) {k:Nat} (hk:c0.mine k):k∉(c0.base c h.since.size).X:=fun hm=>by
 obtain ⟨h1,h2⟩:=oX.1 hm
 rcases hk with hk|hk
 ·have:=c0.ok k h1;omega
 ·exact h2 hk
theorem Ca (h:Sim E c0 c ρ S F) {i:Nat} {b:Blk} {v:Value} (hb:ab S.H i=some b) (hv:ρ i=some v):rd ro0 (c0.base c h.since.size) (jT (some b)) v:=by
 have hblk:=h.heap i b hb
 have hpb:=gB h
 cases b with
 | own T n g z l=>
  obtain ⟨v',h1,h2,h3,h4,a,cap,e,hz⟩:=hblk
  rw [hv] at h1;cases h1
  simp only [jT]
  refine dl.2 ⟨a,cap,e,⟨h2.1,?_⟩,hz,?_⟩
  ·rcases h2.2 with ⟨a',_,rfl⟩|⟨g',cp,cur,e2,_,_,k3,_⟩
   ·simp
   ·rw [e] at e2;cases e2;exact k3
  ·rcases h2.2 with ⟨a',_,rfl⟩|⟨g',cp,cur,e2,k1,k2,k3,k4,k5,k6⟩
   ·exact .inl rfl
   ·rw [e] at e2;cases e2
    refine .inr ⟨g',0,_,rfl,c.ok g' k1,sx h (h3 g' (by rw [e];rfl)),?_,cR hpb k6⟩
    intro j u hj
    rw [List.getElem?_take] at hj
    split at hj
    ·simp only [Nat.zero_add]
     show (c0.base c h.since.size).w.cell? _=_
     simp only [Cx.base,World.cell?,k2]
     simpa using hj
    ·cases hj
 | pown n g z l=>
  obtain ⟨v',h1,h2⟩:=hblk
  rw [hv] at h1;cases h1
  exact bn hpb h2
 | _=>trivial
mutual
theorem pi (h:Sim E c0 c ρ S F): ∀{d:V} {v:Value},rd ρ c d v→rd ro0 (c0.base c h.since.size) (ig S.H d) v
 | .int _ _,_,hr=>hr
 | .bool _,_,hr=>hr
 | .ifc _,_,hr=>hr
 | .str _,_,hr=>hr
 | .agg l,v,hr=>by
  simp only [rd,ig] at hr⊢
  obtain ⟨cs,e,hr⟩:=hr
  exact ⟨cs,e,xa h hr⟩
 | .sl z n g l,v,hr=>bn (gB h) (show rd ro0 c (.sl z n g l) v from hr)
 | .pp n g d,v,hr=>bn (gB h) (show rd ro0 c (.pp n g d) v from hr)
 | .own i,v,hr=>by
  simp only [rd] at hr
  simp only [ig]
  cases hb:ab S.H i with
  | none=>trivial
  | some b=>exact Ca h hb hr.1
 | .ptr _ _,_,_=>trivial
 | .optr _ _ _ _,_,_=>trivial
 | .osub _ _ _ _,_,_=>trivial
 | .tup l,v,hr=>by
  simp only [rd,ig] at hr⊢
  obtain ⟨cs,e,hr⟩:=hr
  exact ⟨cs,e,xb h hr⟩
 | .fn f l,v,hr=>by
  simp only [rd,ig] at hr⊢
  obtain ⟨cs,e,hr⟩:=hr
  exact ⟨cs,e,xb h hr⟩
 | .opq p,v,hr=>bn (gB h) (show rd ro0 c (.opq p) v from hr)
 | .un,_,_=>trivial
theorem xa (h:Sim E c0 c ρ S F): ∀{l:List V} {cs:List Value},rdC ρ c l cs→rdC ro0 (c0.base c h.since.size) (ii S.H l) cs
 | [],_,hr=>hr
 | d::l,cs,hr=>by
  simp only [rdC,ii] at hr⊢
  obtain ⟨u,c2,e,h1,h2,h3⟩:=hr
  exact ⟨u,c2,e,h1,pi h h2,xa h h3⟩
theorem xb (h:Sim E c0 c ρ S F): ∀{l:List V} {cs:List Value},rdT ρ c l cs→rdT ro0 (c0.base c h.since.size) (ii S.H l) cs
 | [],_,hr=>hr
 | d::l,cs,hr=>by
  simp only [rdT,ii] at hr⊢
  obtain ⟨u,c2,e,h2,h3⟩:=hr
  exact ⟨u,c2,e,pi h h2,xb h h3⟩
end
theorem H3 (h:Sim E c0 c ρ S F) {i off:Nat} {b:Blk} {v:Value} (hb:ab S.H i=some b) (hv:rd ρ c (.ptr i off) v):rd ro0 (c0.base c h.since.size) (m7 S.H off (some b)) v:=by
 have hblk:=h.heap i b hb
 have hpb:=gB h
 simp only [rd] at hv
 obtain ⟨b0,hv,rfl⟩:=hv
 cases b with
 | var n g d=>
  obtain ⟨b',h1,h2,h3,T,cs,h4,h5,h6⟩:=hblk
  rw [hv] at h1;cases h1
  simp only [m7]
  split
  ·rename_i e;subst e
   simp only [rd]
   refine ⟨b0,0,cs.toList,rfl,c.ok b0 h3,sx h h2,?_,h5,pi h h6⟩
   intro j u hj
   show c.w.cell? _=_
   simp only [Nat.zero_add,World.cell?,h4]
   simpa using hj
  ·trivial
 | pvar n g d=>
  obtain ⟨b',h1,h2⟩:=hblk
  rw [hv] at h1;cases h1
  simp only [m7]
  split
  ·rename_i e;subst e
   exact bn hpb (gx.2 h2)
  ·trivial
 | lent k' n g d=>
  obtain ⟨h1,h2,h3,T,cs,h4,h5,h6⟩:=hblk
  rw [hv] at h1;cases h1
  simp only [m7]
  split
  ·rename_i e;subst e
   simp only [rd]
   refine ⟨b0,0,cs.toList,rfl,c.ok b0 h3,sx h h2,?_,h5,pi h h6⟩
   intro j u hj
   show c.w.cell? _=_
   simp only [Nat.zero_add,World.cell?,h4]
   simpa using hj
  ·trivial
 | _=>trivial
mutual
theorem xc (h:Sim E c0 c ρ S F): ∀{d:V} {v:Value},rd ρ c d v→rd ro0 (c0.base c h.since.size) (fC S.H d) v
 | .int _ _,_,hr=>hr
 | .bool _,_,hr=>hr
 | .ifc _,_,hr=>hr
 | .str _,_,hr=>hr
 | .agg l,v,hr=>by
  simp only [rd,fC] at hr⊢
  obtain ⟨cs,e,hr⟩:=hr
  exact ⟨cs,e,xa h hr⟩
 | .sl z n g l,v,hr=>bn (gB h) (show rd ro0 c (.sl z n g l) v from hr)
 | .pp n g d,v,hr=>bn (gB h) (show rd ro0 c (.pp n g d) v from hr)
 | .own i,v,hr=>by
  simp only [rd] at hr
  simp only [fC]
  cases hb:ab S.H i with
  | none=>trivial
  | some b=>exact Ca h hb hr.1
 | .ptr i o,v,hr=>by
  simp only [fC]
  cases hb:ab S.H i with
  | none=>trivial
  | some b=>exact H3 h hb hr
 | .optr _ _ _ _,_,_=>trivial
 | .osub _ _ _ _,_,_=>trivial
 | .tup l,v,hr=>by
  simp only [rd,fC] at hr⊢
  obtain ⟨cs,e,hr⟩:=hr
  exact ⟨cs,e,sy h hr⟩
 | .fn f l,v,hr=>by
  simp only [rd,fC] at hr⊢
  obtain ⟨cs,e,hr⟩:=hr
  exact ⟨cs,e,sy h hr⟩
 | .opq p,v,hr=>bn (gB h) (show rd ro0 c (.opq p) v from hr)
 | .un,_,_=>trivial
theorem sy (h:Sim E c0 c ρ S F): ∀{l:List V} {cs:List Value},rdT ρ c l cs→rdT ro0 (c0.base c h.since.size) (i5 S.H l) cs
 | [],_,hr=>hr
 | d::l,cs,hr=>by
  simp only [rdT,i5] at hr⊢
  obtain ⟨u,c2,e,h2,h3⟩:=hr
  exact ⟨u,c2,e,xc h h2,sy h h3⟩
end
theorem Cb {vs ws:List V} (hp:cU vs) (hm:mtL vs ws):oY E S vs S ws:=
 fun _ c ρ _ _ h hr=>⟨c,ρ,rfl,Cx.pub.refl _,h,ie hm (lr hp hr)⟩
theorem Cc {vs ws:List V} (hm:mtL (i5 S.H vs) ws):mW E S vs ws:=
 fun _ _ _ _ _ h hr=>ie hm (sy h hr)
theorem Cd {vs ws:List V} (hp:cU vs) (hm:mtL vs ws): ∀(c:Cx) (ρ:Ro) (us:List Value),rdT ρ c vs us→rdT ro0 c ws us:=
 fun _ _ _ hr=>ie hm (lr hp hr)
theorem H4 {v r:V} (hm:mt (fC S.H v) r):ph E S v r []:=by
 intro c0 c ρ F u hY h hr
 refine ⟨c0.base c h.1.since.size,ro0,rfl,?_,dK hm (xc h.1 hr),HOk.nil⟩
 refine (Cx.leY.le ⟨h.1.since.below,fun k hk hy=> ?_⟩ hY)
 rw [oX]
 exact ⟨fun h=>h.1,fun h=>⟨h,hy⟩⟩
end
end Go.Proofs.YteibkofekpejgaaGreatDoor
namespace Go.Proofs.YteibkofekpejgaaGreatDoor
open Go.RowKit
inductive Ct where
 | code (c:Code)
 | ops (i:Nat) (ds:List (Nat×Nat)) (l:List Oper)
 | blk (id:Nat)
 | lp (K:St→Prop)
 | fin (Q:Exit→St→Prop)
def aI (E:Env) (J:bV):List Ct→Exit→St→Prop
 | [],_,_=>False
 | .code c::k,.normal,S=>wpA E J c (aI E J k) S
 | .code _::k,e,S=>aI E J k e S
 | .ops i ds l::k,.normal,S=>eB E i ds l (aI E J k .normal) S
 | .ops _ _ _::k,e,S=>aI E J k e S
 | .blk id::k,e,S=>w3 (aI E J k) id e S
 | .lp K::k,e,S=>m4 (aI E J k) K e S
 | .fin Q::_,e,S=>Q e S
section
variable {E:Env} {J:bV} {k:List Ct} {S:St}
theorem bR {c:Code} {Q:Exit→St→Prop} (h:aI E J [.code c,.fin Q] .normal S):wpA E J c Q S:=h
def jU (E:Env) (J:bV) (M:Bool) (a b:Code) (k:List Ct) (S:St):Prop:=match M with
 | false=>aI E J (.code a:: .code b::k) .normal S
 | true=>aI E J (.code a:: .lp (lw E (aI E J (.code b::k) .normal))::k) .normal S∨sr E (.seq a b) (aI E J k) S
theorem H5 {b:Code}:m4 (aI E J k) (wpA E J b (aI E J k))=aI E J (.code b::k):=by funext e S';cases e<;>rfl
theorem H6 {K:St→Prop}:m4 (aI E J k) K=aI E J (.lp K::k):=by funext e S';cases e<;>rfl
theorem H7 {a b:Code}:aI E J (.code (.seq a b)::k) .normal S=jU E J (jR J b) a b k S:=by
 simp only [aI,wpA,jU]
 cases jR J b with
 | false=>simp only [H5]
 | true=>rw [H6]
theorem H8 {a b:Code}:jU E J false a b k S=aI E J (.code a:: .code b::k) .normal S:=Eq.trans rfl rfl
theorem xd {a b:Code} (M:St→Prop) (h2: ∀S1,M S1→aI E J (.code b::k) .normal S1)
  (h1:(∀S1,M S1→aI E J (.code b::k) .normal S1)→aI E J (.code a:: .lp (lw E (aI E J (.code b::k) .normal))::k) .normal S):jU E J true a b k S:= .inl (h1 h2)
theorem H9 {a b:Code} (h:sr E (.seq a b) (aI E J k) S):jU E J true a b k S:= .inr h
theorem jV {M:St→Prop} (S1:St) (hF:dL S.F S1.nx S1.F) (hH:dM S.H S1.nx S1.H) (hM:M S1):aI E J (.lp (lw E M)::k) .normal S:=⟨S1,fS hF hH,hM⟩
theorem H_ {M M':Bool} {a b:Code} (h:M=M'):jU E J M a b k S=jU E J M' a b k S:=by rw [h]
theorem Ia:aI E J (.code .skip::k) .normal S=aI E J k .normal S:=Eq.trans rfl rfl
theorem Ib:aI E J (.code .ret::k) .normal S=aI E J k .ret S:=Eq.trans rfl rfl
theorem Ic {id:Nat}:aI E J (.code (.exit id)::k) .normal S=aI E J k (.exit id) S:=Eq.trans rfl rfl
theorem Id {c:Code}:aI E J (.code c::k) .ret S=aI E J k .ret S:=Eq.trans rfl rfl
theorem Ie {c:Code} {i:Nat}:aI E J (.code c::k) (.exit i) S=aI E J k (.exit i) S:=Eq.trans rfl rfl
theorem Ig {i:Nat}:aI E J (.blk i::k) .ret S=aI E J k .ret S:=Eq.trans rfl rfl
theorem Ih {i:Nat}:aI E J (.blk i::k) .normal S=aI E J k .normal S:=Eq.trans rfl rfl
theorem Ii {i j:Nat}:aI E J (.blk i::k) (.exit j) S=if j=i then aI E J k .normal S else aI E J k (.exit j) S:=Eq.trans rfl rfl
theorem Ij {K:St→Prop}:aI E J (.lp K::k) .ret S=aI E J k .ret S:=Eq.trans rfl rfl
theorem Ik {K:St→Prop} {i:Nat}:aI E J (.lp K::k) (.exit i) S=aI E J k (.exit i) S:=Eq.trans rfl rfl
theorem xe {Q:Exit→St→Prop} {e:Exit}:aI E J (.fin Q::k) e S=Q e S:=by cases e<;>rfl
theorem Il {id:Nat} {a:Code}:aI E J (.code (.block id a)::k) .normal S=aI E J (.code a:: .blk id::k) .normal S:=Eq.trans rfl rfl
theorem Im {id:Nat} {ops:Array Oper}:aI E J (.code (.region id ops false)::k) .normal S=aI E J (.ops 0 [] ops.toList::k) .normal S:=Eq.trans rfl rfl
noncomputable def noJ:bV:=[]
def xf (J:bV):Option Nat→Bool
 | some i=>bk J i
 | none=>false
theorem Io {p:Nat} {L:bV} {b:Code}:jR (p::L) b=xf (p::L) (ib b):=by
 unfold jR xf;cases ib b<;>rfl
theorem Ip {b:Code}:jR noJ b=false:=by unfold jR;split<;>rfl
def jW (E:Env) (J:bV) (v:Option V) (a b:Code) (k:List Ct) (S:St):Prop:=m5 v (aI E J (.code a::k) .normal S) (aI E J (.code b::k) .normal S)
theorem Iq {x:Operand} {a b:Code}:aI E J (.code (.cond x a b)::k) .normal S=jW E J (S.ev E.gv x) a b k S:=Eq.trans rfl rfl
theorem Ir {a b:Code}:jW E J (some (.bool true)) a b k S=aI E J (.code a::k) .normal S:=by simp [jW,m5,fP]
theorem Is {a b:Code}:jW E J (some (.bool false)) a b k S=aI E J (.code b::k) .normal S:=by simp [jW,m5,fP]
theorem bY {c:Bool} {a b:Code} (h1:c=true→aI E J (.code a::k) .normal S) (h2:c=false→aI E J (.code b::k) .normal S):jW E J (some (.bool c)) a b k S:=⟨h1,h2⟩
def jX (E:Env) (J:bV) (r:Res) (S:St) (d:Option Nat) (k:List Ct):Prop:=r9 S S.nx d (aI E J k .normal) r
theorem It {v:V} {e:Eff} {d:Option Nat}:jX E J (some (True,v,e)) S d k=aI E J k .normal ((S.eff S.nx e).put d v):=by simp [jX,r9]
theorem bA {c:Prop} {v:V} {e:Eff} {d:Option Nat} (h1:c) (h2:aI E J k .normal ((S.eff S.nx e).put d v)):jX E J (some (c,v,e)) S d k:=⟨h1,fun _=>h2⟩
def eR (E:Env) (J:bV) (v:Option V) (vs:Option (List V)) (S:St) (d:Option Nat) (k:List Ct):Prop:=wG E S d (aI E J k .normal) v vs
def opC (E:Env) (J:bV) (op:Op) (T:TypeId) (S:St) (d:Option Nat) (k:List Ct):Prop:=
 match ia op with
 | some (x,l,Ts)=>eR E J (S.ev E.gv x) (evs E S l Ts) S d k
 | none=>jX E J (opF E S S.nx T op) S d k
def eT (E:Env) (J:bV) (v:Option V) (op:Op) (T:TypeId) (want:Bool) (S:St) (d:Option Nat) (k:List Ct):Prop:=
 ez v want (opC E J op T S d k) (aI E J k .normal (S.put d (.tup [])))
def sA (E:Env) (J:bV) (t:Option Nat) (op:Op) (T:TypeId) (want:Bool) (S:St) (d:Option Nat) (k:List Ct):Prop:=
 match t with
 | some t=>eT E J (ab S.F t) op T want S d k
 | none=>False
theorem Iu {i:Nat} {ds:List (Nat×Nat)}:aI E J (.ops i ds []::k) .normal S=aI E J k .normal S:=Eq.trans rfl rfl
theorem Iv {i:Nat} {ds:List (Nat×Nat)} {l:List Oper} {d:Option Nat} {op:Op} {T:TypeId} {pos:String} {af:Array Edge}:aI E J (.ops i ds ({dst:=d,op:=op,type:=T,pos:=pos,after:=af,guard:=none}::l)::k) .normal S=opC E J op T S d (.ops (i+1) (iV i d ds) l::k):=Eq.trans rfl rfl
theorem Iw {i:Nat} {ds:List (Nat×Nat)} {l:List Oper} {d:Option Nat} {op:Op} {T:TypeId} {pos:String} {af:Array Edge} {j:Nat} {want:Bool}:aI E J (.ops i ds ({dst:=d,op:=op,type:=T,pos:=pos,after:=af,guard:=some (j,want)}::l)::k) .normal S=sA E J (ab ds j) op T want S d (.ops (i+1) (iV i d ds) l::k):=Eq.trans rfl rfl
theorem Ix {op:Op} {T:TypeId} {d:Option Nat}:eT E J (some (.bool true)) op T true S d k=opC E J op T S d k:=by simp [eT,ez,fP]
theorem Iy {op:Op} {T:TypeId} {d:Option Nat}:eT E J (some (.bool false)) op T false S d k=opC E J op T S d k:=by simp [eT,ez,fP]
theorem Iz {op:Op} {T:TypeId} {d:Option Nat}:eT E J (some (.bool true)) op T false S d k=aI E J k .normal (S.put d (.tup [])):=by simp [eT,ez,fP]
theorem IA {op:Op} {T:TypeId} {d:Option Nat}:eT E J (some (.bool false)) op T true S d k=aI E J k .normal (S.put d (.tup [])):=by simp [eT,ez,fP]
theorem IB {op:Op} {T:TypeId} {d:Option Nat} {w:Bool}:eT E J (some (.tup [])) op T w S d k=aI E J k .normal (S.put d (.tup [])):=by simp [eT,ez]
theorem sB {op:Op} {T:TypeId} {d:Option Nat} {b:Bool} (h1:b=true→opC E J op T S d k) (h2:b=false→aI E J k .normal (S.put d (.tup []))):eT E J (some (.bool b)) op T true S d k:=⟨h1,h2⟩
theorem fT {op:Op} {T:TypeId} {d:Option Nat} {b:Bool} (h1:b=false→opC E J op T S d k) (h2:b=true→aI E J k .normal (S.put d (.tup []))):eT E J (some (.bool b)) op T false S d k:=⟨h1,h2⟩
theorem aP {f:FuncId} {caps vs:List V} {d:Option Nat} {ws:List V} {r:V} {H:List Blk} (hc:aW E f ws r H) (hp:cU (vs++caps)) (hm:mtL (vs++caps) ws) (h:wfV r→aI E J k .normal (S.after d r H)):eR E J (some (.fn f caps)) (some vs) S d k:=
 .inl ⟨ws,r,H,hc,.inl ⟨S,Cb hp hm,h⟩⟩
theorem fD {f:FuncId} {caps vs:List V} {d:Option Nat} {ws:List V} {r:V} (hc:aW E f ws r []) (hf:dj r) (hm:mtL (i5 S.H (vs++caps)) ws) (h:wfV r→aI E J k .normal (S.put d r)):eR E J (some (.fn f caps)) (some vs) S d k:=
 .inl ⟨ws,r,[],hc,.inr ⟨hf,rfl,Cc hm,h⟩⟩
theorem IC {p:Cx→Value→Prop} {vs:List V} {d:Option Nat} {ws:List V} {r:V} (hc:oW E p ws r) (hp:cU vs) (hm:mtL vs ws) (h:wfV r→aI E J k .normal (S.after d r [])):eR E J (some (.opq p)) (some vs) S d k:=
 ⟨ws,r,[],⟨hc,rfl⟩,.inl ⟨S,Cb hp hm,h⟩⟩
theorem aL {a:Code} (I:Nat→St→Prop) (k0:Nat) (S1:St) (hF:dL S.F S1.nx S1.F) (hH:dM S.H S1.nx S1.H) (h0:I k0 S1)
  (h: ∀n S',I n S'→aI E J (.code a:: .lp (fun S2=> ∃n',n'<n∧ ∃S3,ca E S2 S3∧I n' S3)::k) .normal S'):aI E J (.code (.loop a)::k) .normal S:=
 ⟨I,k0,⟨S1,fS hF hH,h0⟩,h⟩
theorem aC {I:Nat→St→Prop} {n:Nat} (n':Nat) (S3:St) (hlt:n'<n) (hF:dL S.F S3.nx S3.F) (hH:dM S.H S3.nx S3.H) (hI:I n' S3):aI E J (.lp (fun S2=> ∃n',n'<n∧ ∃S3,ca E S2 S3∧I n' S3)::k) .normal S:=
 ⟨n',hlt,S3,fS hF hH,hI⟩
def jY (E:Env) (S:St) (r:V) (H:List Blk):Option (List V)→Prop
 | some vs=>ph E S (fh vs) r H
 | none=>False
theorem ID {rs:List ResultVar} {r:V} {H:List Blk}:su E rs r H .ret S=jY E S r H (fR E.tb S rs):=Eq.trans rfl rfl
theorem b9 {vs:List V} {r:V} (hm:mt (fC S.H (fh vs)) r):jY E S r [] (some vs):=H4 hm
structure Dr where
 J:bV
 S0:St
 wr:List Nat
 wl:List (Nat×Nat)
 need:List (List Nat)
 ub:List (Nat×Nat)
 k:List Ct
def ce (E:Env) (D:Dr) (m i:Nat) (l:List Oper) (R:List (Nat×bc)):Prop:=gC E D.S0 D.wr D.wl D.need D.ub (aI E D.J D.k .normal) m i l R
theorem jZ {id:Nat} {ops:Array Oper} (n m:Nat) (wr:List Nat) (wl:List (Nat×Nat)) (need:List (List Nat)) (ub:List (Nat×Nat)) (hB:(wlB ops m wl&&iN n m ops wr need&&((List.range m).all fun i=>(need.getD i []).all fun j=>decide (j<i)))=true) (hU:ubB m need ub S.nx=true)
  (h:ce E ⟨J,S,wr,wl,need,ub,k⟩ m 0 ops.toList []):aI E J (.code (.region id ops true)::k) .normal S:=by
 exact ⟨n,m,wr,wl,need,ub,hB,hU,h⟩
section
variable {D:Dr} {m i:Nat} {l:List Oper} {R:List (Nat×bc)} {d:Option Nat} {op:Op} {T:TypeId}
theorem IE:ce E D 0 i l R=aI E D.J (.ops i (dsR R) l::D.k) .normal (cA D.S0 D.wr jO (fd D.ub R) R i):=Eq.trans rfl rfl
def cB (E:Env) (D:Dr) (m i:Nat) (l:List Oper) (R:List (Nat×bc)) (d:Option Nat) (nid:Nat) (r:Res):Prop:=fA D.ub i nid d (fun r=>ce E D m (i+1) l ((i,r)::R)) r
def gF (E:Env) (D:Dr) (m i:Nat) (l:List Oper) (R:List (Nat×bc)) (d:Option Nat) (S:St) (v:Option V) (vs:Option (List V)):Prop:=wN E S D.ub i d (fun r=>ce E D m (i+1) l ((i,r)::R)) v vs
def gG (E:Env) (D:Dr) (m i:Nat) (l:List Oper) (R:List (Nat×bc)) (d:Option Nat) (op:Op) (T:TypeId) (S:St):Prop:=
 match ia op with
 | some (x,xs,Ts)=>gF E D m i l R d S (S.ev E.gv x) (evs E S xs Ts)
 | none=>cB E D m i l R d S.nx (opH E S S.nx T op)
def eC (E:Env) (D:Dr) (m i:Nat) (l:List Oper) (R:List (Nat×bc)) (d:Option Nat) (op:Op) (T:TypeId) (want:Bool):Bool→Option bc→Prop
 | true,some ⟨some _,v,_⟩=>ez (some v) want (gG E D m i l R d op T (cA D.S0 (wrF D.wl D.need i D.wr) (bk (D.need.getD i [])) (cn D.ub D.need i R) R i)) (ce E D m (i+1) l ((i,⟨d,.tup [],none⟩)::R))
 | _,_=>False
theorem IF {pos:String} {af:Array Edge}:ce E D (m+1) i ({dst:=d,op:=op,type:=T,pos:=pos,after:=af,guard:=none}::l) R=gG E D m i l R d op T (cA D.S0 (wrF D.wl D.need i D.wr) (bk (D.need.getD i [])) (cn D.ub D.need i R) R i):=by
 simp only [ce,gC,o_,o9,gG,gF,cB]
 all_goals cases ia op<;>rfl
theorem IG {pos:String} {af:Array Edge} {j:Nat} {want:Bool}:ce E D (m+1) i ({dst:=d,op:=op,type:=T,pos:=pos,after:=af,guard:=some (j,want)}::l) R=eC E D m i l R d op T want (bk (D.need.getD i []) j) (ab R j):=by
 simp only [ce,gC,o_]
 cases bk (D.need.getD i []) j<;>cases ab R j with
 | none=>rfl
 | some r=>
  obtain ⟨t,v,b⟩:=r
  cases t<;>first|rfl|(simp only [eC,o9,gG,gF,cB,ce];cases ia op<;>rfl)
theorem IH {t:Nat} {b:Option (Nat×Blk)}:eC E D m i l R d op T true true (some ⟨some t,.bool true,b⟩)=gG E D m i l R d op T (cA D.S0 (wrF D.wl D.need i D.wr) (bk (D.need.getD i [])) (cn D.ub D.need i R) R i):=by simp [eC,ez,fP]
theorem II {t:Nat} {b:Option (Nat×Blk)}:eC E D m i l R d op T false true (some ⟨some t,.bool false,b⟩)=gG E D m i l R d op T (cA D.S0 (wrF D.wl D.need i D.wr) (bk (D.need.getD i [])) (cn D.ub D.need i R) R i):=by simp [eC,ez,fP]
theorem IJ {t:Nat} {b:Option (Nat×Blk)}:eC E D m i l R d op T true true (some ⟨some t,.bool false,b⟩)=ce E D m (i+1) l ((i,⟨d,.tup [],none⟩)::R):=by simp [eC,ez,fP]
theorem IK {t:Nat} {b:Option (Nat×Blk)}:eC E D m i l R d op T false true (some ⟨some t,.bool true,b⟩)=ce E D m (i+1) l ((i,⟨d,.tup [],none⟩)::R):=by simp [eC,ez,fP]
theorem IL {t:Nat} {w:Bool} {b:Option (Nat×Blk)}:eC E D m i l R d op T w true (some ⟨some t,.tup [],b⟩)=ce E D m (i+1) l ((i,⟨d,.tup [],none⟩)::R):=by simp [eC,ez]
theorem sC {t:Nat} {b:Option (Nat×Blk)} {x:Bool} (h1:x=true→gG E D m i l R d op T (cA D.S0 (wrF D.wl D.need i D.wr) (bk (D.need.getD i [])) (cn D.ub D.need i R) R i)) (h2:x=false→ce E D m (i+1) l ((i,⟨d,.tup [],none⟩)::R)):eC E D m i l R d op T true true (some ⟨some t,.bool x,b⟩):=⟨h1,h2⟩
theorem sD {t:Nat} {b:Option (Nat×Blk)} {x:Bool} (h1:x=false→gG E D m i l R d op T (cA D.S0 (wrF D.wl D.need i D.wr) (bk (D.need.getD i [])) (cn D.ub D.need i R) R i)) (h2:x=true→ce E D m (i+1) l ((i,⟨d,.tup [],none⟩)::R)):eC E D m i l R d op T false true (some ⟨some t,.bool x,b⟩):=⟨h1,h2⟩
section
variable {nid:Nat}
theorem IM {v:V}:cB E D m i l R d nid (some (True,v,.none))=ce E D m (i+1) l ((i,⟨d,v,none⟩)::R):=by simp [cB,fA]
theorem UI {v x:V} {n:Nat} {g:Bool}:cB E D m i l R d nid (some (True,v,.new (.var n g x)))=(match bB D.ub i nid with|true=>False|false=>ce E D m (i+1) l ((i,⟨d,v,some (nid,.var n g x)⟩)::R)):=by
 simp only [cB,fA];cases bB D.ub i nid<;>simp [o8,aU]
theorem IP {k:Nat} {U:TypeId} {n:Nat} {g:Bool} {z:Option Bool} {ll:List V}:cB E D m i l R d nid (some (True,.own k,.new (.own U n g z ll)))=(match bB D.ub i nid with|true=>(match decide (k=nid) with|true=>ce E D m (i+1) l ((i,⟨d,.sl z n g ll,none⟩)::R)|false=>False)|false=>ce E D m (i+1) l ((i,⟨d,.own k,some (nid,.own U n g z ll)⟩)::R)):=by
 simp only [cB,fA];cases bB D.ub i nid
 ·simp [aU]
 ·by_cases hk:k=nid<;>simp [o8,hk]
theorem IQ {k:Nat} {n:Nat} {g:Bool} {z:Option Bool} {ll:List V}:cB E D m i l R d nid (some (True,.own k,.new (.pown n g z ll)))=(match bB D.ub i nid&&decide (k=nid) with|true=>ce E D m (i+1) l ((i,⟨d,.sl z n g ll,none⟩)::R)|false=>False):=by
 simp only [cB,fA];cases bB D.ub i nid
 ·simp [aU]
 ·by_cases hk:k=nid<;>simp [o8,hk]
theorem IR {v:V} {id:Nat} {b:Blk}:cB E D m i l R d nid (some (True,v,.upd id b))=(match bB D.ub i id&&aU b with|true=>ce E D m (i+1) l ((i,⟨d,v,some (id,b)⟩)::R)|false=>False):=by
 simp only [cB,fA];cases bB D.ub i id&&aU b<;>simp
theorem gH {c:Prop} {v:V} (h1:c) (h2:ce E D m (i+1) l ((i,⟨d,v,none⟩)::R)):cB E D m i l R d nid (some (c,v,.none)):=⟨h1,fun _=>h2⟩
theorem i6 {c:Prop} {v:V} {U:TypeId} {n:Nat} {g:Bool} {z:Option Bool} {ll:List V} (h1:c) (hm:bB D.ub i nid=false) (h2:ce E D m (i+1) l ((i,⟨d,v,some (nid,.own U n g z ll)⟩)::R)):cB E D m i l R d nid (some (c,v,.new (.own U n g z ll))):=by
 simp only [cB,fA,hm];exact ⟨h1,fun _=>h2⟩
theorem i7 {c:Prop} {k:Nat} {U:TypeId} {n:Nat} {g:Bool} {z:Option Bool} {ll:List V} (h1:c) (hm:(bB D.ub i nid&&decide (k=nid))=true) (h2:ce E D m (i+1) l ((i,⟨d,.sl z n g ll,none⟩)::R)):cB E D m i l R d nid (some (c,.own k,.new (.own U n g z ll))):=by
 simp only [Bool.and_eq_true] at hm
 simp only [cB,fA,hm.1];exact ⟨hm.2,h1,fun _=>h2⟩
theorem ja {c:Prop} {v x:V} {n:Nat} {g:Bool} (h1:c) (hm:bB D.ub i nid=false) (h2:ce E D m (i+1) l ((i,⟨d,v,some (nid,.var n g x)⟩)::R)):cB E D m i l R d nid (some (c,v,.new (.var n g x))):=by
 simp only [cB,fA,hm];exact ⟨h1,fun _=>h2⟩
theorem jb {c:Prop} {v:V} {id:Nat} {b:Blk} (h1:c) (hm:(bB D.ub i id&&aU b)=true) (h2:ce E D m (i+1) l ((i,⟨d,v,some (id,b)⟩)::R)):cB E D m i l R d nid (some (c,v,.upd id b)):=by
 simp only [cB,fA,hm];exact ⟨h1,fun _=>h2⟩
end
theorem bC {f:FuncId} {caps vs ws:List V} {r:V} (hc:aW E f ws r []) (hp:cU (vs++caps)) (hm:mtL (vs++caps) ws) (h:ce E D m (i+1) l ((i,⟨d,r,none⟩)::R)):gF E D m i l R d S (some (.fn f caps)) (some vs):=
 .inl (.inl ⟨ws,r,hc,.inl (Cd hp hm),h⟩)
theorem Ce {f:FuncId} {caps vs ws:List V} {r:V} (hc:aW E f ws r []) (hf:dj r) (hm:mtL (i5 S.H (vs++caps)) ws) (h:ce E D m (i+1) l ((i,⟨d,r,none⟩)::R)):gF E D m i l R d S (some (.fn f caps)) (some vs):=
 .inl (.inl ⟨ws,r,hc,.inr ⟨hf,Cc hm⟩,h⟩)
theorem sE {f:FuncId} {caps vs ws:List V} {U:TypeId} {n:Nat} {g:Bool} {z:Option Bool} {ll:List V} (hc:aW E f ws (.own 0) [.own U n g z ll]) (hp:cU (vs++caps)) (hm:mtL (vs++caps) ws) (h:ce E D m (i+1) l ((i,⟨d,.own S.nx,some (S.nx,.own U n g z ll)⟩)::R)):gF E D m i l R d S (some (.fn f caps)) (some vs):=
 .inl (.inr ⟨ws,U,n,g,z,ll,hc,Cd hp hm,h⟩)
theorem jc {c:Prop} {id nid:Nat} {U:TypeId} {n:Nat} {g:Bool} {z:Option Bool} {ll:List V} (h1:c) (hm:(bB D.ub i id&& !decide (id=nid))=true) (h2:ce E D m (i+1) l ((i,⟨d,.own nid,some (nid,.own U n g z ll)⟩)::R)):cB E D m i l R d nid (some (c,.own id,.app id (.own U n g z ll))):=by
 simp only [cB,fA,decide_true,Bool.true_and,hm]
 exact ⟨h1,fun _=>h2⟩
theorem IU {need:List (List Nat)} {i:Nat}:cn [] need i R=jN:=Eq.trans rfl rfl
theorem IV:fd [] R=jN:=Eq.trans rfl rfl
theorem IW {p:Nat×Nat} {ub:List (Nat×Nat)} {need:List (List Nat)} {i k:Nat}:cn (p::ub) need i R k=(iX (p::ub) need i k||dX (p::ub) (bk (need.getD i [])) R k):=Eq.trans rfl rfl
theorem IX {p:Nat×Nat} {ub:List (Nat×Nat)} {k:Nat}:fd (p::ub) R k=dX (p::ub) jO R k:=Eq.trans rfl rfl
theorem IY {ub:List (Nat×Nat)} {ns:Nat→Bool} {j k:Nat} {t:Option Nat} {v:V} {b:Option (Nat×Blk)}:dX ub ns ((j,⟨t,v,b⟩)::R) k=((ns j&&fc ub j b k)||dX ub ns R k):=Eq.trans rfl rfl
theorem IZ {ub:List (Nat×Nat)} {ns:Nat→Bool} {k:Nat}:dX ub ns [] k=false:=Eq.trans rfl rfl
theorem I0 {ub:List (Nat×Nat)} {j k:Nat}:fc ub j none k=false:=Eq.trans rfl rfl
theorem I1 {ub:List (Nat×Nat)} {j k k':Nat} {b:Blk}:fc ub j (some (k',b)) k=(bB ub j k&& !decide (k'=k)):=Eq.trans rfl rfl
theorem I2 {ub:List (Nat×Nat)} {p:Nat×Nat} {need:List (List Nat)} {i k:Nat} {b:Blk} {H:List (Nat×Blk)}:dJ (cn (p::ub) need i R) ((k,b)::H)=if cn (p::ub) need i R k=true then dJ (cn (p::ub) need i R) H else (k,b)::dJ (cn (p::ub) need i R) H:=by
 simp only [dJ];cases cn (p::ub) need i R k<;>rfl
theorem I3 {ub:List (Nat×Nat)} {p:Nat×Nat} {k:Nat} {b:Blk} {H:List (Nat×Blk)}:dJ (fd (p::ub) R) ((k,b)::H)=if fd (p::ub) R k=true then dJ (fd (p::ub) R) H else (k,b)::dJ (fd (p::ub) R) H:=by
 simp only [dJ];cases fd (p::ub) R k<;>rfl
theorem I4 {ns:Nat→Bool} {j t:Nat} {v:V} {b:Option (Nat×Blk)}:dW ns ((j,⟨some t,v,b⟩)::R)=if ns j=true then (t,v)::dW ns R else dW ns R:=by
 simp only [dW];cases ns j<;>rfl
theorem I5 {ns:Nat→Bool} {j:Nat} {v:V} {b:Option (Nat×Blk)}:dW ns ((j,⟨none,v,b⟩)::R)=dW ns R:=by
 simp only [dW];cases ns j<;>rfl
theorem I6 {ns:Nat→Bool} {j:Nat} {t:Option Nat} {v:V} {b:Nat×Blk}:c_ ns ((j,⟨t,v,some b⟩)::R)=if ns j=true then b::c_ ns R else c_ ns R:=by
 simp only [c_];cases ns j<;>rfl
theorem I7 {ns:Nat→Bool} {j:Nat} {t:Option Nat} {v:V}:c_ ns ((j,⟨t,v,none⟩)::R)=c_ ns R:=by
 simp only [c_];cases ns j<;>rfl
theorem I8 {ns:Nat→Bool}:dW ns []=[]:=Eq.trans rfl rfl
theorem I9 {ns:Nat→Bool}:c_ ns []=[]:=Eq.trans rfl rfl
theorem Cf {need:List (List Nat)} {i:Nat}: ∀{l:List Nat},wrF [] need i l=l
 | []=>rfl
 | t::l=>congrArg (t:: ·) (Cf (l:=l))
theorem I_ {w k i:Nat} {wl:List (Nat×Nat)} {need:List (List Nat)}:wrF ((w,k)::wl) need i []=[]:=Eq.trans rfl rfl
theorem Ja {w k i t:Nat} {wl:List (Nat×Nat)} {need:List (List Nat)} {l:List Nat}:wrF ((w,k)::wl) need i (t::l)=if iY ((w,k)::wl) need i t=true then wrF ((w,k)::wl) need i l else t::wrF ((w,k)::wl) need i l:=by
 rw [wrF];cases iY ((w,k)::wl) need i t<;>rfl
theorem Jb {w k i t:Nat} {wl:List (Nat×Nat)} {need:List (List Nat)}:iY ((w,k)::wl) need i t=((decide (k=t)&&bk (need.getD w []) i)||iY wl need i t):=Eq.trans rfl rfl
theorem Jc {i t:Nat} {need:List (List Nat)}:iY [] need i t=false:=Eq.trans rfl rfl
theorem Jd {need:List (List Nat)} {i:Nat}:iX [] need i=jN:=by funext k;rfl
theorem Cg: ∀{H:List (Nat×Blk)},dJ jN H=H
 | []=>rfl
 | (k,b)::H=>by simp only [dJ,jN,Cg]
theorem Je {ban:Nat→Bool}:dJ ban []=[]:=Eq.trans rfl rfl
theorem Jf {w k i id:Nat} {ub:List (Nat×Nat)} {need:List (List Nat)}:iX ((w,k)::ub) need i id=((decide (k=id)&&(!decide (w=i)&&(!bk (need.getD i []) w&& !bk (need.getD w []) i)))||iX ub need i id):=Eq.trans rfl rfl
theorem Jg {id:Nat}:jN id=false:=Eq.trans rfl rfl
theorem Jh {j t:Nat} {v:V} {b:Option (Nat×Blk)}:dsR ((j,⟨some t,v,b⟩)::R)=(j,t)::dsR R:=Eq.trans rfl rfl
theorem Ji {j:Nat} {v:V} {b:Option (Nat×Blk)}:dsR ((j,⟨none,v,b⟩)::R)=dsR R:=Eq.trans rfl rfl
theorem Jj:dsR []=[]:=Eq.trans rfl rfl
theorem Jk {R':List (Nat×bc)} (h:R=R'):ce E D m i l R=ce E D m i l R':=by rw [h]
theorem Jl {nid nid':Nat} {r r':Res} (h0:nid=nid') (h:r=r'):cB E D m i l R d nid r=cB E D m i l R d nid' r':=by rw [h,h0]
theorem Jm {v v':Option V} {vs vs':Option (List V)} (h1:v=v') (h2:vs=vs'):gF E D m i l R d S v vs=gF E D m i l R d S v' vs':=by rw [h1,h2]
theorem Jn {S S':St} (h:S=S'):gG E D m i l R d op T S=gG E D m i l R d op T S':=by rw [h]
theorem Jo {w b b':Bool} {r r':Option bc} (h1:b=b') (h2:r=r'):eC E D m i l R d op T w b r=eC E D m i l R d op T w b' r':=by rw [h1,h2]
end
theorem Jp {e:Exit} {S S':St} (h:S=S'):aI E J k e S=aI E J k e S':=by rw [h]
theorem Jq {r r':Res} {d:Option Nat} (h:r=r'):jX E J r S d k=jX E J r' S d k:=by rw [h]
theorem Jr {v v':Option V} {a b:Code} (h:v=v'):jW E J v a b k S=jW E J v' a b k S:=by rw [h]
theorem Js {v v':Option V} {vs vs':Option (List V)} {d:Option Nat} (h1:v=v') (h2:vs=vs'):eR E J v vs S d k=eR E J v' vs' S d k:=by rw [h1,h2]
theorem Jt {v v':Option V} {op:Op} {T:TypeId} {w:Bool} {d:Option Nat} (h:v=v'):eT E J v op T w S d k=eT E J v' op T w S d k:=by rw [h]
theorem Ju {t t':Option Nat} {op:Op} {T:TypeId} {w:Bool} {d:Option Nat} (h:t=t'):sA E J t op T w S d k=sA E J t' op T w S d k:=by rw [h]
end
attribute [congr] Jp Jq Jr Js Jt Ju H_ Jk Jl Jm Jn Jo
theorem Jv:(false==true)=false:=Eq.trans rfl rfl
theorem Jw:(true==false)=false:=Eq.trans rfl rfl
theorem Jy:(true==true)=true:=Eq.trans rfl rfl
theorem Jz:(false==false)=true:=Eq.trans rfl rfl
theorem JA {α:Type} {f:α→V} {l:List α} {i j:Nat}:ld (l.map f) i j=(ld l i j).map f:=by simp [ld,List.map_take,List.map_drop]
theorem JB {α:Type} {f:α→V} {l m:List α} {i k:Nat}:spl (l.map f) i k (m.map f)=(spl l i k m).map f:=by simp [spl,List.map_take,List.map_drop]
theorem JC {α:Type} {f:α→V} {l:List α} {i j:Int}:rM (l.map f) i j=(sl l i j).map f:=by simp [rM,sl,List.map_take,List.map_drop]
theorem JD {z:Option Bool}:mtZ z z=True:=by cases z<;>simp [mtZ]
theorem JE {z:Option Bool}:mtZ z none=True:=by cases z<;>simp [mtZ]
theorem JF {a b:Bool}:mtZ (some a) (some b)=(a=b):=by simp [mtZ]
theorem Ch {H:List (Nat×Blk)} {k:IntKind}: ∀{l:List Int},lc H (l.map (V.int k))=l.map (V.int k)
 | []=>rfl
 | a::l=>by simp only [List.map_cons,lc,pvw,Ch (l:=l)]
attribute [go_sem] pvw lc pvO Ch
attribute [go_sem] rQ rR wb rS wc mO lg oS gz zF
theorem JG (x:Int):([x].length=1)=True:=by simp
attribute [go_sem] JG
attribute [go_sem] IE IF IG gG IL IH II IJ IK IM UI IP IQ I4 I5 I6 I7 I8 I9 Jh Ji Jj cA lv bk jO Cf I_ Ja Jb Jc Jd Cg Je IU IV IW IX IY IZ I0 I1 I2 I3 Jf Jg IR bB aU ubB
 H7 Ia Ib Ic Id Ie Ig Ih Ii Ij Ik xe Il Im H8 Ip Io xf ib Iq Ir Is Iu Iv Iw sA IB Ix Iy Iz IA opC ia It
 opH we rT wd wg opF rP evL evL.consO wa jM AR St.ev St.evT rh vz rg vx mJ rk ab cT rl vA vB jH rm vC vE rn vF rp vG rq vH rr rt vI ru vJ eqC oN oM jI vK unF oO vM vN vO ry rz mM vy zrB zrC Value.oneCell' rA rC rD rE vP rF rG mK kZ rH jK rI rJ rL fM vS g8 vU mL isC loB hiB bound jL rN rOk rIf rB
 St.eff St.put St.after shift iU gA et fN lh mP li part jF jG iV evs dU dH cU dj fO ID fR ss fh
 fC i5 ig ii jT m7 mt mtL ly lz HY JD JE JF dL dM mtO mtB ltV ltL ltB
 Jv Jw Jy Jz JC
 ic rK vR Bool.or_true Bool.true_or Bool.or_false Bool.false_or Nat.sub_zero JA JB mN vZ v_ oQ AU vQ vT vV vY lf vW rO vD Option.map_some Option.map_none Bool.and_true Bool.true_and Bool.false_and Bool.and_false Bool.not_true Bool.not_false decide_true decide_false true_and and_true false_and and_false true_implies false_implies implies_true and_self not_true_eq_false not_false_eq_true
 List.getElem?_cons_zero List.getElem?_cons_succ List.getD_cons_zero List.getD_cons_succ List.take_succ_cons List.take_zero List.take_nil List.drop_succ_cons List.drop_zero List.drop_nil List.cons_append List.nil_append List.append_nil List.length_cons List.length_nil List.set_cons_zero List.set_cons_succ List.replicate_zero List.replicate_succ List.map_cons List.map_nil List.map_append List.length_map List.map_set List.map_replicate List.tail_cons List.tail_nil List.headD_cons List.headD_nil
 Nat.add_zero Nat.zero_add ne_eq Prod.mk.injEq reduceCtorEq
theorem aw {α β:Type} {a:α} {f:α→β} {R:β} (h:aa a f=R): ∃x,x=a∧f x=R:=⟨a,rfl,h⟩
theorem m8 (a:Int):0≤ah .u64 a:=(Am .u64 a).1
end Go.Proofs.YteibkofekpejgaaGreatDoor
namespace Go.Proofs.YteibkofekpejgaaGreatDoor
open Go.RowKit
def db:List Int:=[2,3,5,7,11,13,17,19,23,29,31,37]
def j5:List Int:=[0,1,56,2,57,49,28,3,61,58,42,50,38,29,17,4,62,47,59,36,45,43,51,22,53,39,33,30,24,18,12,5,63,55,48,27,60,41,37,16,46,35,44,21,52,32,23,11,54,26,40,15,34,20,31,10,25,14,19,9,13,8,7,6]
def lA:List Int:=[1116352408,1899447441,3049323471,3921009573,961987163,1508970993,2453635748,2870763221,3624381080,310598401,607225278,1426881987,1925078388,2162078206,2614888103,3248222580,3835390401,4022224774,264347078,604807628,770255983,1249150122,1555081692,1996064986,2554220882,2821834349,2952996808,3210313671,3336571891,3584528711,113926993,338241895,666307205,773529912,1294757372,1396182291,1695183700,1986661051,2177026350,2456956037,2730485921,2820302411,3259730800,3345764771,3516065817,3600352804,4094571909,275423344,430227734,506948616,659060556,883997877,958139571,1322822218,1537002063,1747873779,1955562222,2024104815,2227730452,2361852424,2428436474,2756734187,3204031479,3329325298]
noncomputable def tbl:List (TypeId×TI):=[(1,{n:=1,g:=false,by':=8,ok:=true,z:= .un,k:=6}),
 (2,{n:=1,g:=false,by':=8,ok:=true,z:= .int .i64 0,k:=0,ik:= .i64}),
 (3,{n:=1,g:=false,by':=8,ok:=true,z:= .int .i64 0,k:=0,ik:= .i64}),
 (4,{n:=1,g:=false,by':=1,ok:=true,z:= .bool false,k:=1}),
 (5,{n:=1,g:=false,by':=1,ok:=true,z:= .int .u8 0,k:=0,ik:= .u8}),
 (9,{n:=1,g:=false,by':=16,ok:=true,z:= .str [],k:=2}),
 (12,{n:=1,g:=false,by':=8,ok:=true,z:= .int .u64 0,k:=0,ik:= .u64}),
 (15,{n:=1,g:=false,by':=8,ok:=true,z:= .un,k:=6}),
 (16,{n:=1,g:=false,by':=8,ok:=true,z:= .un,k:=6}),
 (17,{n:=1,g:=false,by':=8,ok:=true,z:= .un,k:=6}),
 (20,{n:=1,g:=false,by':=16,ok:=true,z:= .un,k:=8}),
 (21,{n:=1,g:=false,by':=4,ok:=true,z:= .int .i32 0,k:=0,ik:= .i32}),
 (23,{n:=3,g:=true,by':=24,ok:=true,z:= .agg [.int .i64 0,.int .i64 0,.int .i64 0],k:=5,fs:=[(0,3),(1,3),(2,3)],cmp:=true,ck:=[0,0,0]}),
 (25,{n:=6,g:=true,by':=48,ok:=true,z:= .agg [.int .i64 0,.int .i64 0,.int .i64 0,.int .i64 0,.int .i64 0,.int .i64 0],k:=5,fs:=[(0,23),(3,3),(4,3),(5,3)],cmp:=true,ck:=[0,0,0,0,0,0]}),
 (26,{n:=1,g:=false,by':=24,ok:=true,z:= .sl (some true) 11 true [],k:=3,el:=155}),
 (27,{n:=32,g:=true,by':=32,ok:=true,z:= .agg [.int .u8 0,.int .u8 0,.int .u8 0,.int .u8 0,.int .u8 0,.int .u8 0,.int .u8 0,.int .u8 0,.int .u8 0,.int .u8 0,.int .u8 0,.int .u8 0,.int .u8 0,.int .u8 0,.int .u8 0,.int .u8 0,.int .u8 0,.int .u8 0,.int .u8 0,.int .u8 0,.int .u8 0,.int .u8 0,.int .u8 0,.int .u8 0,.int .u8 0,.int .u8 0,.int .u8 0,.int .u8 0,.int .u8 0,.int .u8 0,.int .u8 0,.int .u8 0],k:=4,el:=5,len:=32,cmp:=true,ck:=[0,0,0,0,0,0,0,0,0,0,0,0,0,0,0,0,0,0,0,0,0,0,0,0,0,0,0,0,0,0,0,0]}),
 (28,{n:=32,g:=true,by':=32,ok:=true,z:= .agg [.int .u8 0,.int .u8 0,.int .u8 0,.int .u8 0,.int .u8 0,.int .u8 0,.int .u8 0,.int .u8 0,.int .u8 0,.int .u8 0,.int .u8 0,.int .u8 0,.int .u8 0,.int .u8 0,.int .u8 0,.int .u8 0,.int .u8 0,.int .u8 0,.int .u8 0,.int .u8 0,.int .u8 0,.int .u8 0,.int .u8 0,.int .u8 0,.int .u8 0,.int .u8 0,.int .u8 0,.int .u8 0,.int .u8 0,.int .u8 0,.int .u8 0,.int .u8 0],k:=4,el:=5,len:=32,cmp:=true,ck:=[0,0,0,0,0,0,0,0,0,0,0,0,0,0,0,0,0,0,0,0,0,0,0,0,0,0,0,0,0,0,0,0]}),
 (29,{n:=1,g:=false,by':=24,ok:=true,z:= .sl (some true) 3 true [],k:=3,el:=83}),
 (31,{n:=1,g:=true,by':=24,ok:=true,z:= .agg [.sl (some true) 3 true []],k:=5,fs:=[(0,29)]}),
 (32,{n:=1,g:=false,by':=24,ok:=true,z:= .sl (some true) 35 true [],k:=3,el:=50}),
 (33,{n:=1,g:=false,by':=24,ok:=true,z:= .sl (some true) 4 true [],k:=3,el:=41}),
 (34,{n:=1,g:=false,by':=24,ok:=true,z:= .sl (some true) 1 false [],k:=3,el:=3}),
 (36,{n:=40,g:=true,by':=176,ok:=true,z:= .agg [.int .u8 0,.int .u8 0,.int .u8 0,.int .u8 0,.int .u8 0,.int .u8 0,.int .u8 0,.int .u8 0,.int .u8 0,.int .u8 0,.int .u8 0,.int .u8 0,.int .u8 0,.int .u8 0,.int .u8 0,.int .u8 0,.int .u8 0,.int .u8 0,.int .u8 0,.int .u8 0,.int .u8 0,.int .u8 0,.int .u8 0,.int .u8 0,.int .u8 0,.int .u8 0,.int .u8 0,.int .u8 0,.int .u8 0,.int .u8 0,.int .u8 0,.int .u8 0,.sl (some true) 3 true [],.sl (some true) 35 true [],.int .i64 0,.sl (some true) 4 true [],.sl (some true) 35 true [],.int .i64 0,.sl (some true) 1 false [],.int .i64 0],k:=5,fs:=[(0,28),(32,31),(33,32),(34,3),(35,33),(36,32),(37,3),(38,34),(39,3)]}),
 (37,{n:=1,g:=false,by':=24,ok:=true,z:= .sl (some true) 80 true [],k:=3,el:=71}),
 (38,{n:=1,g:=false,by':=24,ok:=true,z:= .sl (some true) 81 true [],k:=3,el:=73}),
 (39,{n:=1,g:=false,by':=24,ok:=true,z:= .sl (some true) 5 true [],k:=3,el:=93}),
 (41,{n:=4,g:=true,by':=80,ok:=true,z:= .agg [.int .i64 0,.sl (some true) 80 true [],.sl (some true) 81 true [],.sl (some true) 5 true []],k:=5,fs:=[(0,3),(1,37),(2,38),(3,39)]}),
 (42,{n:=1,g:=false,by':=8,ok:=true,z:= .un,k:=6}),
 (43,{n:=1,g:=false,by':=8,ok:=true,z:= .un,k:=6}),
 (44,{n:=1,g:=false,by':=8,ok:=true,z:= .un,k:=6}),
 (45,{n:=1,g:=false,by':=8,ok:=true,z:= .int .i64 0,k:=0,ik:= .i64}),
 (47,{n:=1,g:=false,by':=8,ok:=true,z:= .un,k:=6}),
 (48,{n:=1,g:=false,by':=8,ok:=true,z:= .un,k:=6}),
 (50,{n:=35,g:=true,by':=56,ok:=true,z:= .agg [.int .u8 0,.int .u8 0,.int .u8 0,.int .u8 0,.int .u8 0,.int .u8 0,.int .u8 0,.int .u8 0,.int .u8 0,.int .u8 0,.int .u8 0,.int .u8 0,.int .u8 0,.int .u8 0,.int .u8 0,.int .u8 0,.int .u8 0,.int .u8 0,.int .u8 0,.int .u8 0,.int .u8 0,.int .u8 0,.int .u8 0,.int .u8 0,.int .u8 0,.int .u8 0,.int .u8 0,.int .u8 0,.int .u8 0,.int .u8 0,.int .u8 0,.int .u8 0,.int .i64 0,.int .i64 0,.int .i64 0],k:=5,fs:=[(0,28),(32,3),(33,3),(34,3)],cmp:=true,ck:=[0,0,0,0,0,0,0,0,0,0,0,0,0,0,0,0,0,0,0,0,0,0,0,0,0,0,0,0,0,0,0,0,0,0,0]}),
 (52,{n:=1,g:=false,by':=8,ok:=true,z:= .un,k:=6}),
 (53,{n:=1,g:=false,by':=8,ok:=true,z:= .un,k:=6}),
 (54,{n:=1,g:=false,by':=8,ok:=true,z:= .un,k:=6}),
 (55,{n:=1,g:=false,by':=8,ok:=true,z:= .un,k:=6}),
 (57,{n:=1,g:=false,by':=8,ok:=true,z:= .un,k:=6}),
 (59,{n:=4,g:=true,by':=32,ok:=true,z:= .agg [.int .i64 0,.int .i64 0,.int .i64 0,.int .i64 0],k:=5,fs:=[(0,3),(1,3),(2,3),(3,3)],cmp:=true,ck:=[0,0,0,0]}),
 (61,{n:=41,g:=true,by':=104,ok:=true,z:= .agg [.int .i64 0,.int .i64 0,.int .i64 0,.int .i64 0,.int .i64 0,.int .u8 0,.int .u8 0,.int .u8 0,.int .u8 0,.int .u8 0,.int .u8 0,.int .u8 0,.int .u8 0,.int .u8 0,.int .u8 0,.int .u8 0,.int .u8 0,.int .u8 0,.int .u8 0,.int .u8 0,.int .u8 0,.int .u8 0,.int .u8 0,.int .u8 0,.int .u8 0,.int .u8 0,.int .u8 0,.int .u8 0,.int .u8 0,.int .u8 0,.int .u8 0,.int .u8 0,.int .u8 0,.int .u8 0,.int .u8 0,.int .u8 0,.int .u8 0,.int .i64 0,.int .i64 0,.int .i64 0,.int .i64 0],k:=5,fs:=[(0,3),(1,3),(2,3),(3,3),(4,3),(5,28),(37,59)],cmp:=true,ck:=[0,0,0,0,0,0,0,0,0,0,0,0,0,0,0,0,0,0,0,0,0,0,0,0,0,0,0,0,0,0,0,0,0,0,0,0,0,0,0,0,0]}),
 (63,{n:=2,g:=true,by':=16,ok:=true,z:= .agg [.int .i64 0,.int .i64 0],k:=5,fs:=[(0,3),(1,3)],cmp:=true,ck:=[0,0]}),
 (65,{n:=34,g:=true,by':=48,ok:=true,z:= .agg [.int .u8 0,.int .u8 0,.int .u8 0,.int .u8 0,.int .u8 0,.int .u8 0,.int .u8 0,.int .u8 0,.int .u8 0,.int .u8 0,.int .u8 0,.int .u8 0,.int .u8 0,.int .u8 0,.int .u8 0,.int .u8 0,.int .u8 0,.int .u8 0,.int .u8 0,.int .u8 0,.int .u8 0,.int .u8 0,.int .u8 0,.int .u8 0,.int .u8 0,.int .u8 0,.int .u8 0,.int .u8 0,.int .u8 0,.int .u8 0,.int .u8 0,.int .u8 0,.int .i64 0,.int .i64 0],k:=5,fs:=[(0,28),(32,3),(33,3)],cmp:=true,ck:=[0,0,0,0,0,0,0,0,0,0,0,0,0,0,0,0,0,0,0,0,0,0,0,0,0,0,0,0,0,0,0,0,0,0]}),
 (66,{n:=1,g:=false,by':=24,ok:=true,z:= .sl (some true) 3 true [],k:=3,el:=150}),
 (67,{n:=1,g:=false,by':=24,ok:=true,z:= .sl (some true) 32 true [],k:=3,el:=28}),
 (69,{n:=2,g:=true,by':=32,ok:=true,z:= .agg [.int .i64 0,.sl (some true) 32 true []],k:=5,fs:=[(0,3),(1,67)]}),
 (71,{n:=80,g:=true,by':=224,ok:=true,z:= .agg [.int .i64 0,.int .i64 0,.int .i64 0,.int .i64 0,.int .i64 0,.int .u8 0,.int .u8 0,.int .u8 0,.int .u8 0,.int .u8 0,.int .u8 0,.int .u8 0,.int .u8 0,.int .u8 0,.int .u8 0,.int .u8 0,.int .u8 0,.int .u8 0,.int .u8 0,.int .u8 0,.int .u8 0,.int .u8 0,.int .u8 0,.int .u8 0,.int .u8 0,.int .u8 0,.int .u8 0,.int .u8 0,.int .u8 0,.int .u8 0,.int .u8 0,.int .u8 0,.int .u8 0,.int .u8 0,.int .u8 0,.int .u8 0,.int .u8 0,.int .i64 0,.int .i64 0,.int .i64 0,.int .i64 0,.int .i64 0,.int .i64 0,.int .u8 0,.int .u8 0,.int .u8 0,.int .u8 0,.int .u8 0,.int .u8 0,.int .u8 0,.int .u8 0,.int .u8 0,.int .u8 0,.int .u8 0,.int .u8 0,.int .u8 0,.int .u8 0,.int .u8 0,.int .u8 0,.int .u8 0,.int .u8 0,.int .u8 0,.int .u8 0,.int .u8 0,.int .u8 0,.int .u8 0,.int .u8 0,.int .u8 0,.int .u8 0,.int .u8 0,.int .u8 0,.int .u8 0,.int .u8 0,.int .u8 0,.int .u8 0,.int .i64 0,.int .i64 0,.sl (some true) 3 true [],.int .i64 0,.sl (some true) 32 true []],k:=5,fs:=[(0,61),(41,63),(43,65),(77,66),(78,69)]}),
 (73,{n:=81,g:=true,by':=248,ok:=true,z:= .agg [.int .i64 0,.int .i64 0,.int .i64 0,.int .i64 0,.int .i64 0,.int .u8 0,.int .u8 0,.int .u8 0,.int .u8 0,.int .u8 0,.int .u8 0,.int .u8 0,.int .u8 0,.int .u8 0,.int .u8 0,.int .u8 0,.int .u8 0,.int .u8 0,.int .u8 0,.int .u8 0,.int .u8 0,.int .u8 0,.int .u8 0,.int .u8 0,.int .u8 0,.int .u8 0,.int .u8 0,.int .u8 0,.int .u8 0,.int .u8 0,.int .u8 0,.int .u8 0,.int .u8 0,.int .u8 0,.int .u8 0,.int .u8 0,.int .u8 0,.int .i64 0,.int .i64 0,.int .i64 0,.int .i64 0,.int .i64 0,.int .i64 0,.int .u8 0,.int .u8 0,.int .u8 0,.int .u8 0,.int .u8 0,.int .u8 0,.int .u8 0,.int .u8 0,.int .u8 0,.int .u8 0,.int .u8 0,.int .u8 0,.int .u8 0,.int .u8 0,.int .u8 0,.int .u8 0,.int .u8 0,.int .u8 0,.int .u8 0,.int .u8 0,.int .u8 0,.int .u8 0,.int .u8 0,.int .u8 0,.int .u8 0,.int .u8 0,.int .u8 0,.int .u8 0,.int .u8 0,.int .u8 0,.int .u8 0,.int .u8 0,.int .i64 0,.int .i64 0,.sl (some true) 3 true [],.int .i64 0,.sl (some true) 32 true [],.sl (some true) 80 true []],k:=5,fs:=[(0,71),(80,37)]}),
 (75,{n:=1,g:=false,by':=8,ok:=true,z:= .un,k:=6}),
 (76,{n:=1,g:=false,by':=8,ok:=true,z:= .un,k:=6}),
 (77,{n:=1,g:=false,by':=8,ok:=true,z:= .un,k:=6}),
 (79,{n:=1,g:=false,by':=8,ok:=true,z:= .un,k:=6}),
 (80,{n:=1,g:=false,by':=8,ok:=true,z:= .un,k:=6}),
 (81,{n:=1,g:=false,by':=8,ok:=true,z:= .un,k:=6}),
 (83,{n:=3,g:=true,by':=24,ok:=true,z:= .agg [.int .i64 0,.int .i64 0,.int .i64 0],k:=5,fs:=[(0,3),(1,3),(2,3)],cmp:=true,ck:=[0,0,0]}),
 (85,{n:=1,g:=false,by':=8,ok:=true,z:= .un,k:=6}),
 (86,{n:=1,g:=false,by':=8,ok:=true,z:= .un,k:=6}),
 (87,{n:=1,g:=false,by':=8,ok:=true,z:= .un,k:=6}),
 (88,{n:=1,g:=false,by':=8,ok:=true,z:= .un,k:=6}),
 (89,{n:=1,g:=false,by':=8,ok:=true,z:= .un,k:=6}),
 (91,{n:=3,g:=true,by':=56,ok:=true,z:= .agg [.sl (some true) 1 false [],.int .i64 0,.sl (some true) 1 false []],k:=5,fs:=[(0,34),(1,3),(2,34)]}),
 (93,{n:=5,g:=true,by':=72,ok:=true,z:= .agg [.int .i64 0,.int .i64 0,.sl (some true) 1 false [],.int .i64 0,.sl (some true) 1 false []],k:=5,fs:=[(0,3),(1,3),(2,91)]}),
 (94,{n:=1,g:=false,by':=8,ok:=true,z:= .un,k:=6}),
 (95,{n:=1,g:=false,by':=8,ok:=true,z:= .un,k:=6}),
 (96,{n:=1,g:=false,by':=8,ok:=true,z:= .un,k:=6}),
 (97,{n:=1,g:=false,by':=8,ok:=true,z:= .un,k:=7,el:=100,len:=4}),
 (98,{n:=1,g:=false,by':=8,ok:=true,z:= .un,k:=6}),
 (100,{n:=2,g:=true,by':=16,ok:=true,z:= .agg [.int .i64 0,.int .i64 0],k:=5,fs:=[(0,3),(1,3)],cmp:=true,ck:=[0,0]}),
 (101,{n:=1,g:=false,by':=8,ok:=true,z:= .un,k:=6}),
 (102,{n:=1,g:=false,by':=8,ok:=true,z:= .un,k:=6}),
 (103,{n:=1,g:=false,by':=8,ok:=true,z:= .un,k:=6}),
 (104,{n:=1,g:=false,by':=8,ok:=true,z:= .un,k:=6}),
 (105,{n:=1,g:=false,by':=8,ok:=true,z:= .un,k:=6}),
 (106,{n:=1,g:=false,by':=8,ok:=true,z:= .un,k:=6}),
 (107,{n:=1,g:=false,by':=8,ok:=true,z:= .un,k:=6}),
 (108,{n:=1,g:=false,by':=8,ok:=true,z:= .un,k:=6}),
 (109,{n:=1,g:=false,by':=8,ok:=true,z:= .un,k:=6}),
 (110,{n:=1,g:=false,by':=8,ok:=true,z:= .un,k:=6}),
 (111,{n:=1,g:=false,by':=8,ok:=true,z:= .un,k:=6}),
 (112,{n:=1,g:=false,by':=8,ok:=true,z:= .un,k:=6}),
 (113,{n:=1,g:=false,by':=8,ok:=true,z:= .un,k:=6}),
 (114,{n:=1,g:=false,by':=24,ok:=true,z:= .sl (some true) 83 true [],k:=3,el:=117}),
 (115,{n:=1,g:=false,by':=8,ok:=true,z:= .un,k:=6}),
 (117,{n:=83,g:=true,by':=248,ok:=true,z:= .agg [.int .i64 0,.int .i64 0,.int .i64 0,.int .i64 0,.int .i64 0,.int .i64 0,.int .i64 0,.int .u8 0,.int .u8 0,.int .u8 0,.int .u8 0,.int .u8 0,.int .u8 0,.int .u8 0,.int .u8 0,.int .u8 0,.int .u8 0,.int .u8 0,.int .u8 0,.int .u8 0,.int .u8 0,.int .u8 0,.int .u8 0,.int .u8 0,.int .u8 0,.int .u8 0,.int .u8 0,.int .u8 0,.int .u8 0,.int .u8 0,.int .u8 0,.int .u8 0,.int .u8 0,.int .u8 0,.int .u8 0,.int .u8 0,.int .u8 0,.int .u8 0,.int .u8 0,.int .i64 0,.int .i64 0,.int .i64 0,.int .i64 0,.int .i64 0,.int .i64 0,.int .u8 0,.int .u8 0,.int .u8 0,.int .u8 0,.int .u8 0,.int .u8 0,.int .u8 0,.int .u8 0,.int .u8 0,.int .u8 0,.int .u8 0,.int .u8 0,.int .u8 0,.int .u8 0,.int .u8 0,.int .u8 0,.int .u8 0,.int .u8 0,.int .u8 0,.int .u8 0,.int .u8 0,.int .u8 0,.int .u8 0,.int .u8 0,.int .u8 0,.int .u8 0,.int .u8 0,.int .u8 0,.int .u8 0,.int .u8 0,.int .u8 0,.int .u8 0,.int .i64 0,.int .i64 0,.sl (some true) 3 true [],.int .i64 0,.sl (some true) 32 true [],.int .i64 0],k:=5,fs:=[(0,3),(1,3),(2,71),(82,3)]}),
 (118,{n:=1,g:=false,by':=8,ok:=true,z:= .un,k:=6}),
 (120,{n:=47,g:=true,by':=216,ok:=true,z:= .agg [.int .i64 0,.int .i64 0,.int .i64 0,.int .i64 0,.int .i64 0,.int .i64 0,.sl (some true) 11 true [],.int .i64 0,.int .u8 0,.int .u8 0,.int .u8 0,.int .u8 0,.int .u8 0,.int .u8 0,.int .u8 0,.int .u8 0,.int .u8 0,.int .u8 0,.int .u8 0,.int .u8 0,.int .u8 0,.int .u8 0,.int .u8 0,.int .u8 0,.int .u8 0,.int .u8 0,.int .u8 0,.int .u8 0,.int .u8 0,.int .u8 0,.int .u8 0,.int .u8 0,.int .u8 0,.int .u8 0,.int .u8 0,.int .u8 0,.int .u8 0,.int .u8 0,.int .u8 0,.int .u8 0,.int .i64 0,.int .i64 0,.int .i64 0,.int .i64 0,.sl (some true) 80 true [],.sl (some true) 81 true [],.sl (some true) 5 true []],k:=5,fs:=[(0,25),(6,26),(7,3),(8,50),(43,41)]}),
 (121,{n:=1,g:=false,by':=8,ok:=true,z:= .un,k:=6}),
 (122,{n:=1,g:=false,by':=8,ok:=true,z:= .un,k:=6}),
 (123,{n:=1,g:=false,by':=8,ok:=true,z:= .un,k:=6}),
 (124,{n:=1,g:=false,by':=24,ok:=true,z:= .sl (some true) 1 false [],k:=3,el:=121}),
 (125,{n:=1,g:=false,by':=8,ok:=true,z:= .un,k:=6}),
 (126,{n:=1,g:=false,by':=8,ok:=true,z:= .un,k:=6}),
 (127,{n:=1,g:=false,by':=8,ok:=true,z:= .un,k:=6}),
 (128,{n:=1,g:=false,by':=8,ok:=true,z:= .un,k:=6}),
 (129,{n:=1,g:=false,by':=8,ok:=true,z:= .un,k:=6}),
 (130,{n:=1,g:=false,by':=8,ok:=true,z:= .un,k:=6}),
 (132,{n:=1,g:=false,by':=8,ok:=true,z:= .un,k:=6}),
 (133,{n:=1,g:=false,by':=8,ok:=true,z:= .un,k:=6}),
 (134,{n:=1,g:=false,by':=8,ok:=true,z:= .un,k:=6}),
 (135,{n:=1,g:=false,by':=8,ok:=true,z:= .un,k:=6}),
 (136,{n:=1,g:=false,by':=8,ok:=true,z:= .un,k:=6}),
 (137,{n:=1,g:=false,by':=8,ok:=true,z:= .un,k:=6}),
 (138,{n:=1,g:=false,by':=8,ok:=true,z:= .un,k:=6}),
 (139,{n:=1,g:=false,by':=8,ok:=true,z:= .un,k:=6}),
 (140,{n:=1,g:=false,by':=8,ok:=true,z:= .un,k:=6}),
 (141,{n:=1,g:=false,by':=8,ok:=true,z:= .un,k:=6}),
 (142,{n:=1,g:=false,by':=8,ok:=true,z:= .un,k:=6}),
 (143,{n:=1,g:=false,by':=8,ok:=true,z:= .un,k:=6}),
 (144,{n:=1,g:=false,by':=8,ok:=true,z:= .un,k:=6}),
 (145,{n:=1,g:=false,by':=8,ok:=true,z:= .un,k:=6}),
 (147,{n:=1,g:=false,by':=8,ok:=true,z:= .un,k:=6}),
 (148,{n:=1,g:=false,by':=8,ok:=true,z:= .un,k:=6}),
 (150,{n:=3,g:=true,by':=24,ok:=true,z:= .agg [.int .i64 0,.int .i64 0,.int .i64 0],k:=5,fs:=[(0,3),(1,3),(2,3)],cmp:=true,ck:=[0,0,0]}),
 (151,{n:=1,g:=false,by':=8,ok:=true,z:= .un,k:=6}),
 (153,{n:=3,g:=true,by':=24,ok:=true,z:= .agg [.int .i64 0,.int .i64 0,.int .i64 0],k:=5,fs:=[(0,3),(1,3),(2,3)],cmp:=true,ck:=[0,0,0]}),
 (155,{n:=11,g:=true,by':=88,ok:=true,z:= .agg [.int .i64 0,.int .i64 0,.int .i64 0,.int .i64 0,.int .i64 0,.int .i64 0,.int .i64 0,.int .i64 0,.int .i64 0,.int .i64 0,.int .i64 0],k:=5,fs:=[(0,3),(1,3),(2,3),(3,3),(4,3),(5,153),(8,3),(9,3),(10,3)],cmp:=true,ck:=[0,0,0,0,0,0,0,0,0,0,0]}),
 (156,{n:=1,g:=false,by':=8,ok:=true,z:= .un,k:=6}),
 (157,{n:=1,g:=false,by':=8,ok:=true,z:= .un,k:=6}),
 (158,{n:=1,g:=false,by':=8,ok:=true,z:= .un,k:=6}),
 (159,{n:=1,g:=false,by':=24,ok:=true,z:= .sl (some true) 41 true [],k:=3,el:=61}),
 (160,{n:=1,g:=false,by':=8,ok:=true,z:= .un,k:=6}),
 (162,{n:=1,g:=false,by':=8,ok:=true,z:= .un,k:=6}),
 (163,{n:=1,g:=false,by':=8,ok:=true,z:= .un,k:=6}),
 (164,{n:=1,g:=false,by':=8,ok:=true,z:= .un,k:=6}),
 (165,{n:=1,g:=false,by':=8,ok:=true,z:= .un,k:=6}),
 (166,{n:=1,g:=false,by':=8,ok:=true,z:= .un,k:=6}),
 (167,{n:=1,g:=false,by':=8,ok:=true,z:= .un,k:=7,el:=168,len:=4}),
 (168,{n:=2,g:=true,by':=16,ok:=true,z:= .agg [.int .i64 0,.int .i64 0],k:=4,el:=3,len:=2,cmp:=true,ck:=[0,0]}),
 (170,{n:=1,g:=false,by':=8,ok:=true,z:= .un,k:=6}),
 (171,{n:=1,g:=false,by':=8,ok:=true,z:= .un,k:=6}),
 (172,{n:=1,g:=false,by':=8,ok:=true,z:= .un,k:=6}),
 (173,{n:=1,g:=false,by':=8,ok:=true,z:= .un,k:=6}),
 (174,{n:=1,g:=false,by':=8,ok:=true,z:= .int .u64 0,k:=0,ik:= .u64}),
 (175,{n:=1,g:=false,by':=8,ok:=true,z:= .un,k:=6}),
 (176,{n:=1,g:=false,by':=8,ok:=true,z:= .un,k:=6}),
 (177,{n:=1,g:=false,by':=8,ok:=true,z:= .un,k:=6}),
 (178,{n:=1,g:=false,by':=8,ok:=true,z:= .un,k:=6}),
 (179,{n:=1,g:=false,by':=8,ok:=true,z:= .un,k:=6}),
 (180,{n:=1,g:=false,by':=8,ok:=true,z:= .un,k:=6}),
 (181,{n:=1,g:=false,by':=8,ok:=true,z:= .un,k:=6}),
 (182,{n:=1,g:=false,by':=8,ok:=true,z:= .un,k:=6}),
 (184,{n:=2,g:=true,by':=16,ok:=true,z:= .agg [.int .i64 0,.int .i64 0],k:=5,fs:=[(0,3),(1,3)],cmp:=true,ck:=[0,0]}),
 (185,{n:=1,g:=false,by':=24,ok:=true,z:= .sl (some true) 2 true [],k:=3,el:=184}),
 (186,{n:=1,g:=false,by':=8,ok:=true,z:= .un,k:=6}),
 (187,{n:=1,g:=false,by':=8,ok:=true,z:= .un,k:=6}),
 (188,{n:=1,g:=false,by':=8,ok:=true,z:= .un,k:=6}),
 (189,{n:=1,g:=false,by':=8,ok:=true,z:= .un,k:=6}),
 (190,{n:=1,g:=false,by':=8,ok:=true,z:= .un,k:=6}),
 (191,{n:=1,g:=false,by':=8,ok:=true,z:= .un,k:=6}),
 (192,{n:=1,g:=false,by':=8,ok:=true,z:= .un,k:=6}),
 (193,{n:=1,g:=false,by':=8,ok:=true,z:= .un,k:=6}),
 (195,{n:=1,g:=false,by':=8,ok:=true,z:= .un,k:=6}),
 (197,{n:=1,g:=false,by':=8,ok:=true,z:= .un,k:=6}),
 (198,{n:=1,g:=false,by':=8,ok:=true,z:= .un,k:=6}),
 (199,{n:=1,g:=false,by':=8,ok:=true,z:= .un,k:=6}),
 (200,{n:=1,g:=false,by':=8,ok:=true,z:= .un,k:=6}),
 (201,{n:=1,g:=false,by':=8,ok:=true,z:= .un,k:=6}),
 (202,{n:=1,g:=false,by':=24,ok:=true,z:= .sl (some true) 1 false [],k:=3,el:=5}),
 (204,{n:=1,g:=false,by':=8,ok:=true,z:= .un,k:=6}),
 (205,{n:=1,g:=false,by':=8,ok:=true,z:= .un,k:=6}),
 (206,{n:=1,g:=false,by':=8,ok:=true,z:= .un,k:=6}),
 (207,{n:=1,g:=false,by':=24,ok:=true,z:= .sl (some true) 1 false [],k:=3,el:=34}),
 (209,{n:=2,g:=true,by':=48,ok:=true,z:= .agg [.sl (some true) 1 false [],.sl (some true) 1 false []],k:=5,fs:=[(0,34),(1,207)]}),
 (211,{n:=1,g:=false,by':=8,ok:=true,z:= .un,k:=6}),
 (212,{n:=1,g:=false,by':=8,ok:=true,z:= .un,k:=6}),
 (213,{n:=1,g:=false,by':=8,ok:=true,z:= .un,k:=6}),
 (214,{n:=1,g:=false,by':=8,ok:=true,z:= .un,k:=6}),
 (215,{n:=1,g:=false,by':=8,ok:=true,z:= .un,k:=6}),
 (216,{n:=1,g:=false,by':=8,ok:=true,z:= .un,k:=6}),
 (217,{n:=1,g:=false,by':=8,ok:=true,z:= .un,k:=6}),
 (218,{n:=1,g:=false,by':=8,ok:=true,z:= .un,k:=6}),
 (219,{n:=1,g:=false,by':=8,ok:=true,z:= .un,k:=6}),
 (220,{n:=1,g:=false,by':=24,ok:=true,z:= .sl (some true) 4 true [],k:=3,el:=222}),
 (222,{n:=4,g:=true,by':=64,ok:=true,z:= .agg [.int .i64 0,.int .i64 0,.sl (some true) 1 false [],.sl (some true) 4 true []],k:=5,fs:=[(0,3),(1,3),(2,202),(3,220)]}),
 (223,{n:=1,g:=false,by':=8,ok:=true,z:= .un,k:=6}),
 (224,{n:=1,g:=false,by':=8,ok:=true,z:= .un,k:=6}),
 (225,{n:=1,g:=false,by':=8,ok:=true,z:= .un,k:=6}),
 (226,{n:=1,g:=false,by':=8,ok:=true,z:= .un,k:=6}),
 (227,{n:=1,g:=false,by':=8,ok:=true,z:= .un,k:=6}),
 (228,{n:=1,g:=false,by':=8,ok:=true,z:= .un,k:=6}),
 (229,{n:=1,g:=false,by':=8,ok:=true,z:= .un,k:=6}),
 (230,{n:=1,g:=false,by':=8,ok:=true,z:= .un,k:=6}),
 (231,{n:=1,g:=false,by':=8,ok:=true,z:= .un,k:=6}),
 (232,{n:=1,g:=false,by':=8,ok:=true,z:= .un,k:=6}),
 (233,{n:=1,g:=false,by':=8,ok:=true,z:= .un,k:=6}),
 (234,{n:=1,g:=false,by':=8,ok:=true,z:= .un,k:=6}),
 (235,{n:=1,g:=false,by':=8,ok:=true,z:= .un,k:=6}),
 (236,{n:=1,g:=false,by':=8,ok:=true,z:= .un,k:=6}),
 (237,{n:=1,g:=false,by':=8,ok:=true,z:= .un,k:=6}),
 (238,{n:=1,g:=false,by':=8,ok:=true,z:= .un,k:=6}),
 (241,{n:=1,g:=false,by':=16,ok:=true,z:= .un,k:=8}),
 (242,{n:=1,g:=false,by':=16,ok:=true,z:= .un,k:=8}),
 (243,{n:=1,g:=false,by':=8,ok:=true,z:= .un,k:=6}),
 (244,{n:=1,g:=false,by':=8,ok:=true,z:= .un,k:=6}),
 (245,{n:=1,g:=false,by':=8,ok:=true,z:= .un,k:=6}),
 (246,{n:=1,g:=false,by':=8,ok:=true,z:= .un,k:=6}),
 (247,{n:=1,g:=false,by':=8,ok:=true,z:= .un,k:=6}),
 (248,{n:=1,g:=false,by':=8,ok:=true,z:= .un,k:=6}),
 (249,{n:=1,g:=false,by':=8,ok:=true,z:= .int .u64 0,k:=0,ik:= .u64}),
 (250,{n:=12,g:=true,by':=96,ok:=true,z:= .agg [.int .u64 0,.int .u64 0,.int .u64 0,.int .u64 0,.int .u64 0,.int .u64 0,.int .u64 0,.int .u64 0,.int .u64 0,.int .u64 0,.int .u64 0,.int .u64 0],k:=4,el:=249,len:=12,cmp:=true,ck:=[0,0,0,0,0,0,0,0,0,0,0,0]}),
 (251,{n:=1,g:=false,by':=8,ok:=true,z:= .un,k:=6}),
 (252,{n:=1,g:=false,by':=8,ok:=true,z:= .un,k:=6}),
 (253,{n:=1,g:=false,by':=8,ok:=true,z:= .un,k:=6}),
 (254,{n:=1,g:=false,by':=8,ok:=true,z:= .un,k:=6}),
 (255,{n:=1,g:=false,by':=8,ok:=true,z:= .un,k:=6}),
 (256,{n:=1,g:=false,by':=8,ok:=true,z:= .un,k:=6}),
 (257,{n:=1,g:=false,by':=8,ok:=true,z:= .un,k:=6}),
 (258,{n:=1,g:=false,by':=8,ok:=true,z:= .un,k:=6}),
 (259,{n:=1,g:=false,by':=8,ok:=true,z:= .un,k:=6}),
 (260,{n:=1,g:=false,by':=8,ok:=true,z:= .un,k:=6}),
 (261,{n:=1,g:=false,by':=8,ok:=true,z:= .un,k:=6}),
 (262,{n:=1,g:=false,by':=8,ok:=true,z:= .un,k:=6}),
 (263,{n:=1,g:=false,by':=8,ok:=true,z:= .un,k:=6}),
 (264,{n:=1,g:=false,by':=8,ok:=true,z:= .un,k:=6}),
 (265,{n:=1,g:=false,by':=24,ok:=true,z:= .sl (some true) 1 false [],k:=3,el:=67}),
 (272,{n:=1,g:=false,by':=4,ok:=true,z:= .int .u32 0,k:=0,ik:= .u32}),
 (273,{n:=8,g:=true,by':=32,ok:=true,z:= .agg [.int .u32 0,.int .u32 0,.int .u32 0,.int .u32 0,.int .u32 0,.int .u32 0,.int .u32 0,.int .u32 0],k:=4,el:=272,len:=8,cmp:=true,ck:=[0,0,0,0,0,0,0,0]}),
 (275,{n:=1,g:=false,by':=8,ok:=true,z:= .un,k:=6}),
 (281,{n:=33,g:=true,by':=40,ok:=true,z:= .agg [.int .u8 0,.int .u8 0,.int .u8 0,.int .u8 0,.int .u8 0,.int .u8 0,.int .u8 0,.int .u8 0,.int .u8 0,.int .u8 0,.int .u8 0,.int .u8 0,.int .u8 0,.int .u8 0,.int .u8 0,.int .u8 0,.int .u8 0,.int .u8 0,.int .u8 0,.int .u8 0,.int .u8 0,.int .u8 0,.int .u8 0,.int .u8 0,.int .u8 0,.int .u8 0,.int .u8 0,.int .u8 0,.int .u8 0,.int .u8 0,.int .u8 0,.int .u8 0,.int .i64 0],k:=5,fs:=[(0,28),(32,3)],cmp:=true,ck:=[0,0,0,0,0,0,0,0,0,0,0,0,0,0,0,0,0,0,0,0,0,0,0,0,0,0,0,0,0,0,0,0,0]}),
 (285,{n:=1,g:=false,by':=8,ok:=true,z:= .un,k:=6}),
 (288,{n:=64,g:=true,by':=64,ok:=true,z:= .agg [.int .u8 0,.int .u8 0,.int .u8 0,.int .u8 0,.int .u8 0,.int .u8 0,.int .u8 0,.int .u8 0,.int .u8 0,.int .u8 0,.int .u8 0,.int .u8 0,.int .u8 0,.int .u8 0,.int .u8 0,.int .u8 0,.int .u8 0,.int .u8 0,.int .u8 0,.int .u8 0,.int .u8 0,.int .u8 0,.int .u8 0,.int .u8 0,.int .u8 0,.int .u8 0,.int .u8 0,.int .u8 0,.int .u8 0,.int .u8 0,.int .u8 0,.int .u8 0,.int .u8 0,.int .u8 0,.int .u8 0,.int .u8 0,.int .u8 0,.int .u8 0,.int .u8 0,.int .u8 0,.int .u8 0,.int .u8 0,.int .u8 0,.int .u8 0,.int .u8 0,.int .u8 0,.int .u8 0,.int .u8 0,.int .u8 0,.int .u8 0,.int .u8 0,.int .u8 0,.int .u8 0,.int .u8 0,.int .u8 0,.int .u8 0,.int .u8 0,.int .u8 0,.int .u8 0,.int .u8 0,.int .u8 0,.int .u8 0,.int .u8 0,.int .u8 0],k:=4,el:=5,len:=64,cmp:=true,ck:=[0,0,0,0,0,0,0,0,0,0,0,0,0,0,0,0,0,0,0,0,0,0,0,0,0,0,0,0,0,0,0,0,0,0,0,0,0,0,0,0,0,0,0,0,0,0,0,0,0,0,0,0,0,0,0,0,0,0,0,0,0,0,0,0]}),
 (296,{n:=1,g:=false,by':=8,ok:=true,z:= .un,k:=6}),
 (298,{n:=1,g:=true,by':=24,ok:=true,z:= .agg [.sl (some true) 4 true []],k:=5,fs:=[(0,220)]}),
 (307,{n:=64,g:=true,by':=256,ok:=true,z:= .agg [.int .u32 0,.int .u32 0,.int .u32 0,.int .u32 0,.int .u32 0,.int .u32 0,.int .u32 0,.int .u32 0,.int .u32 0,.int .u32 0,.int .u32 0,.int .u32 0,.int .u32 0,.int .u32 0,.int .u32 0,.int .u32 0,.int .u32 0,.int .u32 0,.int .u32 0,.int .u32 0,.int .u32 0,.int .u32 0,.int .u32 0,.int .u32 0,.int .u32 0,.int .u32 0,.int .u32 0,.int .u32 0,.int .u32 0,.int .u32 0,.int .u32 0,.int .u32 0,.int .u32 0,.int .u32 0,.int .u32 0,.int .u32 0,.int .u32 0,.int .u32 0,.int .u32 0,.int .u32 0,.int .u32 0,.int .u32 0,.int .u32 0,.int .u32 0,.int .u32 0,.int .u32 0,.int .u32 0,.int .u32 0,.int .u32 0,.int .u32 0,.int .u32 0,.int .u32 0,.int .u32 0,.int .u32 0,.int .u32 0,.int .u32 0,.int .u32 0,.int .u32 0,.int .u32 0,.int .u32 0,.int .u32 0,.int .u32 0,.int .u32 0,.int .u32 0],k:=4,el:=272,len:=64,cmp:=true,ck:=[0,0,0,0,0,0,0,0,0,0,0,0,0,0,0,0,0,0,0,0,0,0,0,0,0,0,0,0,0,0,0,0,0,0,0,0,0,0,0,0,0,0,0,0,0,0,0,0,0,0,0,0,0,0,0,0,0,0,0,0,0,0,0,0]}),
 (310,{n:=1,g:=false,by':=8,ok:=true,z:= .un,k:=6}),
 (319,{n:=1,g:=false,by':=8,ok:=true,z:= .un,k:=6}),
 (323,{n:=1,g:=false,by':=24,ok:=true,z:= .sl (some true) 1 false [],k:=3,el:=202}),
 (328,{n:=1,g:=false,by':=8,ok:=true,z:= .un,k:=6}),
 (330,{n:=1,g:=false,by':=8,ok:=true,z:= .un,k:=6}),
 (340,{n:=1,g:=false,by':=8,ok:=true,z:= .un,k:=6})]
noncomputable def En:Env:={P:=Tryz.prog,tb:=lk tbl,gv:=fun g=>if g=0 then some (.pp 12 true (.agg (db.map (V.int .u64)))) else if g=1 then some (.pp 8 true (.agg [.int .u32 1779033703,.int .u32 3144134277,.int .u32 1013904242,.int .u32 2773480762,.int .u32 1359893119,.int .u32 2600822924,.int .u32 528734635,.int .u32 1541459225])) else if g=2 then some (.pp 64 true (.agg (j5.map (V.int .u8)))) else if g=3 then some (.pp 64 true (.agg (lA.map (V.int .u32)))) else none}
@[go_sem] theorem gv0:En.gv 0=some (.pp 12 true (.agg (db.map (V.int .u64)))):=Eq.trans rfl rfl
@[go_sem] theorem gv1:En.gv 1=some (.pp 8 true (.agg [.int .u32 1779033703,.int .u32 3144134277,.int .u32 1013904242,.int .u32 2773480762,.int .u32 1359893119,.int .u32 2600822924,.int .u32 528734635,.int .u32 1541459225])):=Eq.trans rfl rfl
@[go_sem] theorem gv2:En.gv 2=some (.pp 64 true (.agg (j5.map (V.int .u8)))):=Eq.trans rfl rfl
@[go_sem] theorem gv3:En.gv 3=some (.pp 64 true (.agg (lA.map (V.int .u32)))):=Eq.trans rfl rfl
set_option maxRecDepth 100000
theorem JH:AY Tryz.prog tbl=true:=by kernel_rfl
theorem aV:a8 En:=⟨fun _ h=>tOk (l:=tbl) JH h⟩
theorem bP:En.P.follows .mixedOrders=true:=by kernel_rfl
@[go_sem] theorem tb1:En.tb 1={n:=1,g:=false,by':=8,ok:=true,z:= .un,k:=6}:=rfl
@[go_sem] theorem tb2:En.tb 2={n:=1,g:=false,by':=8,ok:=true,z:= .int .i64 0,k:=0,ik:= .i64}:=rfl
@[go_sem] theorem tb3:En.tb 3={n:=1,g:=false,by':=8,ok:=true,z:= .int .i64 0,k:=0,ik:= .i64}:=rfl
@[go_sem] theorem tb4:En.tb 4={n:=1,g:=false,by':=1,ok:=true,z:= .bool false,k:=1}:=rfl
@[go_sem] theorem tb5:En.tb 5={n:=1,g:=false,by':=1,ok:=true,z:= .int .u8 0,k:=0,ik:= .u8}:=rfl
@[go_sem] theorem tb9:En.tb 9={n:=1,g:=false,by':=16,ok:=true,z:= .str [],k:=2}:=rfl
@[go_sem] theorem tb12:En.tb 12={n:=1,g:=false,by':=8,ok:=true,z:= .int .u64 0,k:=0,ik:= .u64}:=rfl
@[go_sem] theorem tb15:En.tb 15={n:=1,g:=false,by':=8,ok:=true,z:= .un,k:=6}:=rfl
@[go_sem] theorem tb16:En.tb 16={n:=1,g:=false,by':=8,ok:=true,z:= .un,k:=6}:=rfl
@[go_sem] theorem tb17:En.tb 17={n:=1,g:=false,by':=8,ok:=true,z:= .un,k:=6}:=rfl
@[go_sem] theorem tb20:En.tb 20={n:=1,g:=false,by':=16,ok:=true,z:= .un,k:=8}:=rfl
@[go_sem] theorem tb21:En.tb 21={n:=1,g:=false,by':=4,ok:=true,z:= .int .i32 0,k:=0,ik:= .i32}:=rfl
@[go_sem] theorem sF:En.tb 23={n:=3,g:=true,by':=24,ok:=true,z:= .agg [.int .i64 0,.int .i64 0,.int .i64 0],k:=5,fs:=[(0,3),(1,3),(2,3)],cmp:=true,ck:=[0,0,0]}:=rfl
@[go_sem] theorem m9:En.tb 25={n:=6,g:=true,by':=48,ok:=true,z:= .agg [.int .i64 0,.int .i64 0,.int .i64 0,.int .i64 0,.int .i64 0,.int .i64 0],k:=5,fs:=[(0,23),(3,3),(4,3),(5,3)],cmp:=true,ck:=[0,0,0,0,0,0]}:=rfl
@[go_sem] theorem m_:En.tb 26={n:=1,g:=false,by':=24,ok:=true,z:= .sl (some true) 11 true [],k:=3,el:=155}:=rfl
@[go_sem] theorem tb27:En.tb 27={n:=32,g:=true,by':=32,ok:=true,z:= .agg [.int .u8 0,.int .u8 0,.int .u8 0,.int .u8 0,.int .u8 0,.int .u8 0,.int .u8 0,.int .u8 0,.int .u8 0,.int .u8 0,.int .u8 0,.int .u8 0,.int .u8 0,.int .u8 0,.int .u8 0,.int .u8 0,.int .u8 0,.int .u8 0,.int .u8 0,.int .u8 0,.int .u8 0,.int .u8 0,.int .u8 0,.int .u8 0,.int .u8 0,.int .u8 0,.int .u8 0,.int .u8 0,.int .u8 0,.int .u8 0,.int .u8 0,.int .u8 0],k:=4,el:=5,len:=32,cmp:=true,ck:=[0,0,0,0,0,0,0,0,0,0,0,0,0,0,0,0,0,0,0,0,0,0,0,0,0,0,0,0,0,0,0,0]}:=rfl
@[go_sem] theorem na:En.tb 28={n:=32,g:=true,by':=32,ok:=true,z:= .agg [.int .u8 0,.int .u8 0,.int .u8 0,.int .u8 0,.int .u8 0,.int .u8 0,.int .u8 0,.int .u8 0,.int .u8 0,.int .u8 0,.int .u8 0,.int .u8 0,.int .u8 0,.int .u8 0,.int .u8 0,.int .u8 0,.int .u8 0,.int .u8 0,.int .u8 0,.int .u8 0,.int .u8 0,.int .u8 0,.int .u8 0,.int .u8 0,.int .u8 0,.int .u8 0,.int .u8 0,.int .u8 0,.int .u8 0,.int .u8 0,.int .u8 0,.int .u8 0],k:=4,el:=5,len:=32,cmp:=true,ck:=[0,0,0,0,0,0,0,0,0,0,0,0,0,0,0,0,0,0,0,0,0,0,0,0,0,0,0,0,0,0,0,0]}:=rfl
@[go_sem] theorem sG:En.tb 29={n:=1,g:=false,by':=24,ok:=true,z:= .sl (some true) 3 true [],k:=3,el:=83}:=rfl
@[go_sem] theorem sH:En.tb 31={n:=1,g:=true,by':=24,ok:=true,z:= .agg [.sl (some true) 3 true []],k:=5,fs:=[(0,29)]}:=rfl
@[go_sem] theorem sI:En.tb 32={n:=1,g:=false,by':=24,ok:=true,z:= .sl (some true) 35 true [],k:=3,el:=50}:=rfl
@[go_sem] theorem sJ:En.tb 33={n:=1,g:=false,by':=24,ok:=true,z:= .sl (some true) 4 true [],k:=3,el:=41}:=rfl
@[go_sem] theorem sK:En.tb 34={n:=1,g:=false,by':=24,ok:=true,z:= .sl (some true) 1 false [],k:=3,el:=3}:=rfl
@[go_sem] theorem nb:En.tb 36={n:=40,g:=true,by':=176,ok:=true,z:= .agg [.int .u8 0,.int .u8 0,.int .u8 0,.int .u8 0,.int .u8 0,.int .u8 0,.int .u8 0,.int .u8 0,.int .u8 0,.int .u8 0,.int .u8 0,.int .u8 0,.int .u8 0,.int .u8 0,.int .u8 0,.int .u8 0,.int .u8 0,.int .u8 0,.int .u8 0,.int .u8 0,.int .u8 0,.int .u8 0,.int .u8 0,.int .u8 0,.int .u8 0,.int .u8 0,.int .u8 0,.int .u8 0,.int .u8 0,.int .u8 0,.int .u8 0,.int .u8 0,.sl (some true) 3 true [],.sl (some true) 35 true [],.int .i64 0,.sl (some true) 4 true [],.sl (some true) 35 true [],.int .i64 0,.sl (some true) 1 false [],.int .i64 0],k:=5,fs:=[(0,28),(32,31),(33,32),(34,3),(35,33),(36,32),(37,3),(38,34),(39,3)]}:=rfl
@[go_sem] theorem sL:En.tb 37={n:=1,g:=false,by':=24,ok:=true,z:= .sl (some true) 80 true [],k:=3,el:=71}:=rfl
@[go_sem] theorem sM:En.tb 38={n:=1,g:=false,by':=24,ok:=true,z:= .sl (some true) 81 true [],k:=3,el:=73}:=rfl
@[go_sem] theorem sN:En.tb 39={n:=1,g:=false,by':=24,ok:=true,z:= .sl (some true) 5 true [],k:=3,el:=93}:=rfl
@[go_sem] theorem lB:En.tb 41={n:=4,g:=true,by':=80,ok:=true,z:= .agg [.int .i64 0,.sl (some true) 80 true [],.sl (some true) 81 true [],.sl (some true) 5 true []],k:=5,fs:=[(0,3),(1,37),(2,38),(3,39)]}:=rfl
@[go_sem] theorem tb42:En.tb 42={n:=1,g:=false,by':=8,ok:=true,z:= .un,k:=6}:=rfl
@[go_sem] theorem tb43:En.tb 43={n:=1,g:=false,by':=8,ok:=true,z:= .un,k:=6}:=rfl
@[go_sem] theorem tb44:En.tb 44={n:=1,g:=false,by':=8,ok:=true,z:= .un,k:=6}:=rfl
@[go_sem] theorem tb45:En.tb 45={n:=1,g:=false,by':=8,ok:=true,z:= .int .i64 0,k:=0,ik:= .i64}:=rfl
@[go_sem] theorem tb47:En.tb 47={n:=1,g:=false,by':=8,ok:=true,z:= .un,k:=6}:=rfl
@[go_sem] theorem tb48:En.tb 48={n:=1,g:=false,by':=8,ok:=true,z:= .un,k:=6}:=rfl
@[go_sem] theorem pj:En.tb 50={n:=35,g:=true,by':=56,ok:=true,z:= .agg [.int .u8 0,.int .u8 0,.int .u8 0,.int .u8 0,.int .u8 0,.int .u8 0,.int .u8 0,.int .u8 0,.int .u8 0,.int .u8 0,.int .u8 0,.int .u8 0,.int .u8 0,.int .u8 0,.int .u8 0,.int .u8 0,.int .u8 0,.int .u8 0,.int .u8 0,.int .u8 0,.int .u8 0,.int .u8 0,.int .u8 0,.int .u8 0,.int .u8 0,.int .u8 0,.int .u8 0,.int .u8 0,.int .u8 0,.int .u8 0,.int .u8 0,.int .u8 0,.int .i64 0,.int .i64 0,.int .i64 0],k:=5,fs:=[(0,28),(32,3),(33,3),(34,3)],cmp:=true,ck:=[0,0,0,0,0,0,0,0,0,0,0,0,0,0,0,0,0,0,0,0,0,0,0,0,0,0,0,0,0,0,0,0,0,0,0]}:=rfl
@[go_sem] theorem tb52:En.tb 52={n:=1,g:=false,by':=8,ok:=true,z:= .un,k:=6}:=rfl
@[go_sem] theorem tb53:En.tb 53={n:=1,g:=false,by':=8,ok:=true,z:= .un,k:=6}:=rfl
@[go_sem] theorem tb54:En.tb 54={n:=1,g:=false,by':=8,ok:=true,z:= .un,k:=6}:=rfl
@[go_sem] theorem tb55:En.tb 55={n:=1,g:=false,by':=8,ok:=true,z:= .un,k:=6}:=rfl
@[go_sem] theorem tb57:En.tb 57={n:=1,g:=false,by':=8,ok:=true,z:= .un,k:=6}:=rfl
@[go_sem] theorem sO:En.tb 59={n:=4,g:=true,by':=32,ok:=true,z:= .agg [.int .i64 0,.int .i64 0,.int .i64 0,.int .i64 0],k:=5,fs:=[(0,3),(1,3),(2,3),(3,3)],cmp:=true,ck:=[0,0,0,0]}:=rfl
@[go_sem] theorem sP:En.tb 61={n:=41,g:=true,by':=104,ok:=true,z:= .agg [.int .i64 0,.int .i64 0,.int .i64 0,.int .i64 0,.int .i64 0,.int .u8 0,.int .u8 0,.int .u8 0,.int .u8 0,.int .u8 0,.int .u8 0,.int .u8 0,.int .u8 0,.int .u8 0,.int .u8 0,.int .u8 0,.int .u8 0,.int .u8 0,.int .u8 0,.int .u8 0,.int .u8 0,.int .u8 0,.int .u8 0,.int .u8 0,.int .u8 0,.int .u8 0,.int .u8 0,.int .u8 0,.int .u8 0,.int .u8 0,.int .u8 0,.int .u8 0,.int .u8 0,.int .u8 0,.int .u8 0,.int .u8 0,.int .u8 0,.int .i64 0,.int .i64 0,.int .i64 0,.int .i64 0],k:=5,fs:=[(0,3),(1,3),(2,3),(3,3),(4,3),(5,28),(37,59)],cmp:=true,ck:=[0,0,0,0,0,0,0,0,0,0,0,0,0,0,0,0,0,0,0,0,0,0,0,0,0,0,0,0,0,0,0,0,0,0,0,0,0,0,0,0,0]}:=rfl
@[go_sem] theorem sQ:En.tb 63={n:=2,g:=true,by':=16,ok:=true,z:= .agg [.int .i64 0,.int .i64 0],k:=5,fs:=[(0,3),(1,3)],cmp:=true,ck:=[0,0]}:=rfl
@[go_sem] theorem sR:En.tb 65={n:=34,g:=true,by':=48,ok:=true,z:= .agg [.int .u8 0,.int .u8 0,.int .u8 0,.int .u8 0,.int .u8 0,.int .u8 0,.int .u8 0,.int .u8 0,.int .u8 0,.int .u8 0,.int .u8 0,.int .u8 0,.int .u8 0,.int .u8 0,.int .u8 0,.int .u8 0,.int .u8 0,.int .u8 0,.int .u8 0,.int .u8 0,.int .u8 0,.int .u8 0,.int .u8 0,.int .u8 0,.int .u8 0,.int .u8 0,.int .u8 0,.int .u8 0,.int .u8 0,.int .u8 0,.int .u8 0,.int .u8 0,.int .i64 0,.int .i64 0],k:=5,fs:=[(0,28),(32,3),(33,3)],cmp:=true,ck:=[0,0,0,0,0,0,0,0,0,0,0,0,0,0,0,0,0,0,0,0,0,0,0,0,0,0,0,0,0,0,0,0,0,0]}:=rfl
@[go_sem] theorem sS:En.tb 66={n:=1,g:=false,by':=24,ok:=true,z:= .sl (some true) 3 true [],k:=3,el:=150}:=rfl
@[go_sem] theorem sT:En.tb 67={n:=1,g:=false,by':=24,ok:=true,z:= .sl (some true) 32 true [],k:=3,el:=28}:=rfl
@[go_sem] theorem sU:En.tb 69={n:=2,g:=true,by':=32,ok:=true,z:= .agg [.int .i64 0,.sl (some true) 32 true []],k:=5,fs:=[(0,3),(1,67)]}:=rfl
@[go_sem] theorem pk:En.tb 71={n:=80,g:=true,by':=224,ok:=true,z:= .agg [.int .i64 0,.int .i64 0,.int .i64 0,.int .i64 0,.int .i64 0,.int .u8 0,.int .u8 0,.int .u8 0,.int .u8 0,.int .u8 0,.int .u8 0,.int .u8 0,.int .u8 0,.int .u8 0,.int .u8 0,.int .u8 0,.int .u8 0,.int .u8 0,.int .u8 0,.int .u8 0,.int .u8 0,.int .u8 0,.int .u8 0,.int .u8 0,.int .u8 0,.int .u8 0,.int .u8 0,.int .u8 0,.int .u8 0,.int .u8 0,.int .u8 0,.int .u8 0,.int .u8 0,.int .u8 0,.int .u8 0,.int .u8 0,.int .u8 0,.int .i64 0,.int .i64 0,.int .i64 0,.int .i64 0,.int .i64 0,.int .i64 0,.int .u8 0,.int .u8 0,.int .u8 0,.int .u8 0,.int .u8 0,.int .u8 0,.int .u8 0,.int .u8 0,.int .u8 0,.int .u8 0,.int .u8 0,.int .u8 0,.int .u8 0,.int .u8 0,.int .u8 0,.int .u8 0,.int .u8 0,.int .u8 0,.int .u8 0,.int .u8 0,.int .u8 0,.int .u8 0,.int .u8 0,.int .u8 0,.int .u8 0,.int .u8 0,.int .u8 0,.int .u8 0,.int .u8 0,.int .u8 0,.int .u8 0,.int .u8 0,.int .i64 0,.int .i64 0,.sl (some true) 3 true [],.int .i64 0,.sl (some true) 32 true []],k:=5,fs:=[(0,61),(41,63),(43,65),(77,66),(78,69)]}:=rfl
@[go_sem] theorem pm:En.tb 73={n:=81,g:=true,by':=248,ok:=true,z:= .agg [.int .i64 0,.int .i64 0,.int .i64 0,.int .i64 0,.int .i64 0,.int .u8 0,.int .u8 0,.int .u8 0,.int .u8 0,.int .u8 0,.int .u8 0,.int .u8 0,.int .u8 0,.int .u8 0,.int .u8 0,.int .u8 0,.int .u8 0,.int .u8 0,.int .u8 0,.int .u8 0,.int .u8 0,.int .u8 0,.int .u8 0,.int .u8 0,.int .u8 0,.int .u8 0,.int .u8 0,.int .u8 0,.int .u8 0,.int .u8 0,.int .u8 0,.int .u8 0,.int .u8 0,.int .u8 0,.int .u8 0,.int .u8 0,.int .u8 0,.int .i64 0,.int .i64 0,.int .i64 0,.int .i64 0,.int .i64 0,.int .i64 0,.int .u8 0,.int .u8 0,.int .u8 0,.int .u8 0,.int .u8 0,.int .u8 0,.int .u8 0,.int .u8 0,.int .u8 0,.int .u8 0,.int .u8 0,.int .u8 0,.int .u8 0,.int .u8 0,.int .u8 0,.int .u8 0,.int .u8 0,.int .u8 0,.int .u8 0,.int .u8 0,.int .u8 0,.int .u8 0,.int .u8 0,.int .u8 0,.int .u8 0,.int .u8 0,.int .u8 0,.int .u8 0,.int .u8 0,.int .u8 0,.int .u8 0,.int .u8 0,.int .i64 0,.int .i64 0,.sl (some true) 3 true [],.int .i64 0,.sl (some true) 32 true [],.sl (some true) 80 true []],k:=5,fs:=[(0,71),(80,37)]}:=rfl
@[go_sem] theorem tb75:En.tb 75={n:=1,g:=false,by':=8,ok:=true,z:= .un,k:=6}:=rfl
@[go_sem] theorem tb76:En.tb 76={n:=1,g:=false,by':=8,ok:=true,z:= .un,k:=6}:=rfl
@[go_sem] theorem tb77:En.tb 77={n:=1,g:=false,by':=8,ok:=true,z:= .un,k:=6}:=rfl
@[go_sem] theorem tb79:En.tb 79={n:=1,g:=false,by':=8,ok:=true,z:= .un,k:=6}:=rfl
@[go_sem] theorem tb80:En.tb 80={n:=1,g:=false,by':=8,ok:=true,z:= .un,k:=6}:=rfl
@[go_sem] theorem tb81:En.tb 81={n:=1,g:=false,by':=8,ok:=true,z:= .un,k:=6}:=rfl
@[go_sem] theorem pn:En.tb 83={n:=3,g:=true,by':=24,ok:=true,z:= .agg [.int .i64 0,.int .i64 0,.int .i64 0],k:=5,fs:=[(0,3),(1,3),(2,3)],cmp:=true,ck:=[0,0,0]}:=rfl
@[go_sem] theorem tb85:En.tb 85={n:=1,g:=false,by':=8,ok:=true,z:= .un,k:=6}:=rfl
@[go_sem] theorem tb86:En.tb 86={n:=1,g:=false,by':=8,ok:=true,z:= .un,k:=6}:=rfl
@[go_sem] theorem tb87:En.tb 87={n:=1,g:=false,by':=8,ok:=true,z:= .un,k:=6}:=rfl
@[go_sem] theorem tb88:En.tb 88={n:=1,g:=false,by':=8,ok:=true,z:= .un,k:=6}:=rfl
@[go_sem] theorem tb89:En.tb 89={n:=1,g:=false,by':=8,ok:=true,z:= .un,k:=6}:=rfl
@[go_sem] theorem sV:En.tb 91={n:=3,g:=true,by':=56,ok:=true,z:= .agg [.sl (some true) 1 false [],.int .i64 0,.sl (some true) 1 false []],k:=5,fs:=[(0,34),(1,3),(2,34)]}:=rfl
@[go_sem] theorem po:En.tb 93={n:=5,g:=true,by':=72,ok:=true,z:= .agg [.int .i64 0,.int .i64 0,.sl (some true) 1 false [],.int .i64 0,.sl (some true) 1 false []],k:=5,fs:=[(0,3),(1,3),(2,91)]}:=rfl
@[go_sem] theorem tb94:En.tb 94={n:=1,g:=false,by':=8,ok:=true,z:= .un,k:=6}:=rfl
@[go_sem] theorem tb95:En.tb 95={n:=1,g:=false,by':=8,ok:=true,z:= .un,k:=6}:=rfl
@[go_sem] theorem tb96:En.tb 96={n:=1,g:=false,by':=8,ok:=true,z:= .un,k:=6}:=rfl
@[go_sem] theorem tb97:En.tb 97={n:=1,g:=false,by':=8,ok:=true,z:= .un,k:=7,el:=100,len:=4}:=rfl
@[go_sem] theorem tb98:En.tb 98={n:=1,g:=false,by':=8,ok:=true,z:= .un,k:=6}:=rfl
@[go_sem] theorem tb100:En.tb 100={n:=2,g:=true,by':=16,ok:=true,z:= .agg [.int .i64 0,.int .i64 0],k:=5,fs:=[(0,3),(1,3)],cmp:=true,ck:=[0,0]}:=rfl
@[go_sem] theorem tb101:En.tb 101={n:=1,g:=false,by':=8,ok:=true,z:= .un,k:=6}:=rfl
@[go_sem] theorem tb102:En.tb 102={n:=1,g:=false,by':=8,ok:=true,z:= .un,k:=6}:=rfl
@[go_sem] theorem tb103:En.tb 103={n:=1,g:=false,by':=8,ok:=true,z:= .un,k:=6}:=rfl
@[go_sem] theorem tb104:En.tb 104={n:=1,g:=false,by':=8,ok:=true,z:= .un,k:=6}:=rfl
@[go_sem] theorem tb105:En.tb 105={n:=1,g:=false,by':=8,ok:=true,z:= .un,k:=6}:=rfl
@[go_sem] theorem tb106:En.tb 106={n:=1,g:=false,by':=8,ok:=true,z:= .un,k:=6}:=rfl
@[go_sem] theorem tb107:En.tb 107={n:=1,g:=false,by':=8,ok:=true,z:= .un,k:=6}:=rfl
@[go_sem] theorem tb108:En.tb 108={n:=1,g:=false,by':=8,ok:=true,z:= .un,k:=6}:=rfl
@[go_sem] theorem tb109:En.tb 109={n:=1,g:=false,by':=8,ok:=true,z:= .un,k:=6}:=rfl
@[go_sem] theorem tb110:En.tb 110={n:=1,g:=false,by':=8,ok:=true,z:= .un,k:=6}:=rfl
@[go_sem] theorem tb111:En.tb 111={n:=1,g:=false,by':=8,ok:=true,z:= .un,k:=6}:=rfl
@[go_sem] theorem tb112:En.tb 112={n:=1,g:=false,by':=8,ok:=true,z:= .un,k:=6}:=rfl
@[go_sem] theorem tb113:En.tb 113={n:=1,g:=false,by':=8,ok:=true,z:= .un,k:=6}:=rfl
@[go_sem] theorem tb114:En.tb 114={n:=1,g:=false,by':=24,ok:=true,z:= .sl (some true) 83 true [],k:=3,el:=117}:=rfl
@[go_sem] theorem tb115:En.tb 115={n:=1,g:=false,by':=8,ok:=true,z:= .un,k:=6}:=rfl
@[go_sem] theorem tb117:En.tb 117={n:=83,g:=true,by':=248,ok:=true,z:= .agg [.int .i64 0,.int .i64 0,.int .i64 0,.int .i64 0,.int .i64 0,.int .i64 0,.int .i64 0,.int .u8 0,.int .u8 0,.int .u8 0,.int .u8 0,.int .u8 0,.int .u8 0,.int .u8 0,.int .u8 0,.int .u8 0,.int .u8 0,.int .u8 0,.int .u8 0,.int .u8 0,.int .u8 0,.int .u8 0,.int .u8 0,.int .u8 0,.int .u8 0,.int .u8 0,.int .u8 0,.int .u8 0,.int .u8 0,.int .u8 0,.int .u8 0,.int .u8 0,.int .u8 0,.int .u8 0,.int .u8 0,.int .u8 0,.int .u8 0,.int .u8 0,.int .u8 0,.int .i64 0,.int .i64 0,.int .i64 0,.int .i64 0,.int .i64 0,.int .i64 0,.int .u8 0,.int .u8 0,.int .u8 0,.int .u8 0,.int .u8 0,.int .u8 0,.int .u8 0,.int .u8 0,.int .u8 0,.int .u8 0,.int .u8 0,.int .u8 0,.int .u8 0,.int .u8 0,.int .u8 0,.int .u8 0,.int .u8 0,.int .u8 0,.int .u8 0,.int .u8 0,.int .u8 0,.int .u8 0,.int .u8 0,.int .u8 0,.int .u8 0,.int .u8 0,.int .u8 0,.int .u8 0,.int .u8 0,.int .u8 0,.int .u8 0,.int .u8 0,.int .i64 0,.int .i64 0,.sl (some true) 3 true [],.int .i64 0,.sl (some true) 32 true [],.int .i64 0],k:=5,fs:=[(0,3),(1,3),(2,71),(82,3)]}:=rfl
@[go_sem] theorem tb118:En.tb 118={n:=1,g:=false,by':=8,ok:=true,z:= .un,k:=6}:=rfl
@[go_sem] theorem tb120:En.tb 120={n:=47,g:=true,by':=216,ok:=true,z:= .agg [.int .i64 0,.int .i64 0,.int .i64 0,.int .i64 0,.int .i64 0,.int .i64 0,.sl (some true) 11 true [],.int .i64 0,.int .u8 0,.int .u8 0,.int .u8 0,.int .u8 0,.int .u8 0,.int .u8 0,.int .u8 0,.int .u8 0,.int .u8 0,.int .u8 0,.int .u8 0,.int .u8 0,.int .u8 0,.int .u8 0,.int .u8 0,.int .u8 0,.int .u8 0,.int .u8 0,.int .u8 0,.int .u8 0,.int .u8 0,.int .u8 0,.int .u8 0,.int .u8 0,.int .u8 0,.int .u8 0,.int .u8 0,.int .u8 0,.int .u8 0,.int .u8 0,.int .u8 0,.int .u8 0,.int .i64 0,.int .i64 0,.int .i64 0,.int .i64 0,.sl (some true) 80 true [],.sl (some true) 81 true [],.sl (some true) 5 true []],k:=5,fs:=[(0,25),(6,26),(7,3),(8,50),(43,41)]}:=rfl
@[go_sem] theorem tb121:En.tb 121={n:=1,g:=false,by':=8,ok:=true,z:= .un,k:=6}:=rfl
@[go_sem] theorem tb122:En.tb 122={n:=1,g:=false,by':=8,ok:=true,z:= .un,k:=6}:=rfl
@[go_sem] theorem tb123:En.tb 123={n:=1,g:=false,by':=8,ok:=true,z:= .un,k:=6}:=rfl
@[go_sem] theorem tb124:En.tb 124={n:=1,g:=false,by':=24,ok:=true,z:= .sl (some true) 1 false [],k:=3,el:=121}:=rfl
@[go_sem] theorem tb125:En.tb 125={n:=1,g:=false,by':=8,ok:=true,z:= .un,k:=6}:=rfl
@[go_sem] theorem tb126:En.tb 126={n:=1,g:=false,by':=8,ok:=true,z:= .un,k:=6}:=rfl
@[go_sem] theorem tb127:En.tb 127={n:=1,g:=false,by':=8,ok:=true,z:= .un,k:=6}:=rfl
@[go_sem] theorem tb128:En.tb 128={n:=1,g:=false,by':=8,ok:=true,z:= .un,k:=6}:=rfl
@[go_sem] theorem tb129:En.tb 129={n:=1,g:=false,by':=8,ok:=true,z:= .un,k:=6}:=rfl
@[go_sem] theorem tb130:En.tb 130={n:=1,g:=false,by':=8,ok:=true,z:= .un,k:=6}:=rfl
@[go_sem] theorem tb132:En.tb 132={n:=1,g:=false,by':=8,ok:=true,z:= .un,k:=6}:=rfl
@[go_sem] theorem tb133:En.tb 133={n:=1,g:=false,by':=8,ok:=true,z:= .un,k:=6}:=rfl
@[go_sem] theorem tb134:En.tb 134={n:=1,g:=false,by':=8,ok:=true,z:= .un,k:=6}:=rfl
@[go_sem] theorem tb135:En.tb 135={n:=1,g:=false,by':=8,ok:=true,z:= .un,k:=6}:=rfl
@[go_sem] theorem tb136:En.tb 136={n:=1,g:=false,by':=8,ok:=true,z:= .un,k:=6}:=rfl
@[go_sem] theorem tb137:En.tb 137={n:=1,g:=false,by':=8,ok:=true,z:= .un,k:=6}:=rfl
@[go_sem] theorem tb138:En.tb 138={n:=1,g:=false,by':=8,ok:=true,z:= .un,k:=6}:=rfl
@[go_sem] theorem tb139:En.tb 139={n:=1,g:=false,by':=8,ok:=true,z:= .un,k:=6}:=rfl
@[go_sem] theorem tb140:En.tb 140={n:=1,g:=false,by':=8,ok:=true,z:= .un,k:=6}:=rfl
@[go_sem] theorem tb141:En.tb 141={n:=1,g:=false,by':=8,ok:=true,z:= .un,k:=6}:=rfl
@[go_sem] theorem tb142:En.tb 142={n:=1,g:=false,by':=8,ok:=true,z:= .un,k:=6}:=rfl
@[go_sem] theorem tb143:En.tb 143={n:=1,g:=false,by':=8,ok:=true,z:= .un,k:=6}:=rfl
@[go_sem] theorem tb144:En.tb 144={n:=1,g:=false,by':=8,ok:=true,z:= .un,k:=6}:=rfl
@[go_sem] theorem tb145:En.tb 145={n:=1,g:=false,by':=8,ok:=true,z:= .un,k:=6}:=rfl
@[go_sem] theorem tb147:En.tb 147={n:=1,g:=false,by':=8,ok:=true,z:= .un,k:=6}:=rfl
@[go_sem] theorem tb148:En.tb 148={n:=1,g:=false,by':=8,ok:=true,z:= .un,k:=6}:=rfl
@[go_sem] theorem pr:En.tb 150={n:=3,g:=true,by':=24,ok:=true,z:= .agg [.int .i64 0,.int .i64 0,.int .i64 0],k:=5,fs:=[(0,3),(1,3),(2,3)],cmp:=true,ck:=[0,0,0]}:=rfl
@[go_sem] theorem tb151:En.tb 151={n:=1,g:=false,by':=8,ok:=true,z:= .un,k:=6}:=rfl
@[go_sem] theorem sW:En.tb 153={n:=3,g:=true,by':=24,ok:=true,z:= .agg [.int .i64 0,.int .i64 0,.int .i64 0],k:=5,fs:=[(0,3),(1,3),(2,3)],cmp:=true,ck:=[0,0,0]}:=rfl
@[go_sem] theorem pt:En.tb 155={n:=11,g:=true,by':=88,ok:=true,z:= .agg [.int .i64 0,.int .i64 0,.int .i64 0,.int .i64 0,.int .i64 0,.int .i64 0,.int .i64 0,.int .i64 0,.int .i64 0,.int .i64 0,.int .i64 0],k:=5,fs:=[(0,3),(1,3),(2,3),(3,3),(4,3),(5,153),(8,3),(9,3),(10,3)],cmp:=true,ck:=[0,0,0,0,0,0,0,0,0,0,0]}:=rfl
@[go_sem] theorem tb156:En.tb 156={n:=1,g:=false,by':=8,ok:=true,z:= .un,k:=6}:=rfl
@[go_sem] theorem tb157:En.tb 157={n:=1,g:=false,by':=8,ok:=true,z:= .un,k:=6}:=rfl
@[go_sem] theorem tb158:En.tb 158={n:=1,g:=false,by':=8,ok:=true,z:= .un,k:=6}:=rfl
@[go_sem] theorem tb159:En.tb 159={n:=1,g:=false,by':=24,ok:=true,z:= .sl (some true) 41 true [],k:=3,el:=61}:=rfl
@[go_sem] theorem tb160:En.tb 160={n:=1,g:=false,by':=8,ok:=true,z:= .un,k:=6}:=rfl
@[go_sem] theorem tb162:En.tb 162={n:=1,g:=false,by':=8,ok:=true,z:= .un,k:=6}:=rfl
@[go_sem] theorem tb163:En.tb 163={n:=1,g:=false,by':=8,ok:=true,z:= .un,k:=6}:=rfl
@[go_sem] theorem tb164:En.tb 164={n:=1,g:=false,by':=8,ok:=true,z:= .un,k:=6}:=rfl
@[go_sem] theorem tb165:En.tb 165={n:=1,g:=false,by':=8,ok:=true,z:= .un,k:=6}:=rfl
@[go_sem] theorem tb166:En.tb 166={n:=1,g:=false,by':=8,ok:=true,z:= .un,k:=6}:=rfl
@[go_sem] theorem tb167:En.tb 167={n:=1,g:=false,by':=8,ok:=true,z:= .un,k:=7,el:=168,len:=4}:=rfl
@[go_sem] theorem tb168:En.tb 168={n:=2,g:=true,by':=16,ok:=true,z:= .agg [.int .i64 0,.int .i64 0],k:=4,el:=3,len:=2,cmp:=true,ck:=[0,0]}:=rfl
@[go_sem] theorem tb170:En.tb 170={n:=1,g:=false,by':=8,ok:=true,z:= .un,k:=6}:=rfl
@[go_sem] theorem tb171:En.tb 171={n:=1,g:=false,by':=8,ok:=true,z:= .un,k:=6}:=rfl
@[go_sem] theorem tb172:En.tb 172={n:=1,g:=false,by':=8,ok:=true,z:= .un,k:=6}:=rfl
@[go_sem] theorem tb173:En.tb 173={n:=1,g:=false,by':=8,ok:=true,z:= .un,k:=6}:=rfl
@[go_sem] theorem tb174:En.tb 174={n:=1,g:=false,by':=8,ok:=true,z:= .int .u64 0,k:=0,ik:= .u64}:=rfl
@[go_sem] theorem tb175:En.tb 175={n:=1,g:=false,by':=8,ok:=true,z:= .un,k:=6}:=rfl
@[go_sem] theorem tb176:En.tb 176={n:=1,g:=false,by':=8,ok:=true,z:= .un,k:=6}:=rfl
@[go_sem] theorem tb177:En.tb 177={n:=1,g:=false,by':=8,ok:=true,z:= .un,k:=6}:=rfl
@[go_sem] theorem tb178:En.tb 178={n:=1,g:=false,by':=8,ok:=true,z:= .un,k:=6}:=rfl
@[go_sem] theorem tb179:En.tb 179={n:=1,g:=false,by':=8,ok:=true,z:= .un,k:=6}:=rfl
@[go_sem] theorem tb180:En.tb 180={n:=1,g:=false,by':=8,ok:=true,z:= .un,k:=6}:=rfl
@[go_sem] theorem tb181:En.tb 181={n:=1,g:=false,by':=8,ok:=true,z:= .un,k:=6}:=rfl
@[go_sem] theorem tb182:En.tb 182={n:=1,g:=false,by':=8,ok:=true,z:= .un,k:=6}:=rfl
@[go_sem] theorem tb184:En.tb 184={n:=2,g:=true,by':=16,ok:=true,z:= .agg [.int .i64 0,.int .i64 0],k:=5,fs:=[(0,3),(1,3)],cmp:=true,ck:=[0,0]}:=rfl
@[go_sem] theorem tb185:En.tb 185={n:=1,g:=false,by':=24,ok:=true,z:= .sl (some true) 2 true [],k:=3,el:=184}:=rfl
@[go_sem] theorem tb186:En.tb 186={n:=1,g:=false,by':=8,ok:=true,z:= .un,k:=6}:=rfl
@[go_sem] theorem tb187:En.tb 187={n:=1,g:=false,by':=8,ok:=true,z:= .un,k:=6}:=rfl
@[go_sem] theorem tb188:En.tb 188={n:=1,g:=false,by':=8,ok:=true,z:= .un,k:=6}:=rfl
@[go_sem] theorem tb189:En.tb 189={n:=1,g:=false,by':=8,ok:=true,z:= .un,k:=6}:=rfl
@[go_sem] theorem tb190:En.tb 190={n:=1,g:=false,by':=8,ok:=true,z:= .un,k:=6}:=rfl
@[go_sem] theorem tb191:En.tb 191={n:=1,g:=false,by':=8,ok:=true,z:= .un,k:=6}:=rfl
@[go_sem] theorem tb192:En.tb 192={n:=1,g:=false,by':=8,ok:=true,z:= .un,k:=6}:=rfl
@[go_sem] theorem tb193:En.tb 193={n:=1,g:=false,by':=8,ok:=true,z:= .un,k:=6}:=rfl
@[go_sem] theorem tb195:En.tb 195={n:=1,g:=false,by':=8,ok:=true,z:= .un,k:=6}:=rfl
@[go_sem] theorem tb197:En.tb 197={n:=1,g:=false,by':=8,ok:=true,z:= .un,k:=6}:=rfl
@[go_sem] theorem tb198:En.tb 198={n:=1,g:=false,by':=8,ok:=true,z:= .un,k:=6}:=rfl
@[go_sem] theorem tb199:En.tb 199={n:=1,g:=false,by':=8,ok:=true,z:= .un,k:=6}:=rfl
@[go_sem] theorem tb200:En.tb 200={n:=1,g:=false,by':=8,ok:=true,z:= .un,k:=6}:=rfl
@[go_sem] theorem tb201:En.tb 201={n:=1,g:=false,by':=8,ok:=true,z:= .un,k:=6}:=rfl
@[go_sem] theorem tb202:En.tb 202={n:=1,g:=false,by':=24,ok:=true,z:= .sl (some true) 1 false [],k:=3,el:=5}:=rfl
@[go_sem] theorem tb204:En.tb 204={n:=1,g:=false,by':=8,ok:=true,z:= .un,k:=6}:=rfl
@[go_sem] theorem tb205:En.tb 205={n:=1,g:=false,by':=8,ok:=true,z:= .un,k:=6}:=rfl
@[go_sem] theorem tb206:En.tb 206={n:=1,g:=false,by':=8,ok:=true,z:= .un,k:=6}:=rfl
@[go_sem] theorem tb207:En.tb 207={n:=1,g:=false,by':=24,ok:=true,z:= .sl (some true) 1 false [],k:=3,el:=34}:=rfl
@[go_sem] theorem tb209:En.tb 209={n:=2,g:=true,by':=48,ok:=true,z:= .agg [.sl (some true) 1 false [],.sl (some true) 1 false []],k:=5,fs:=[(0,34),(1,207)]}:=rfl
@[go_sem] theorem tb211:En.tb 211={n:=1,g:=false,by':=8,ok:=true,z:= .un,k:=6}:=rfl
@[go_sem] theorem tb212:En.tb 212={n:=1,g:=false,by':=8,ok:=true,z:= .un,k:=6}:=rfl
@[go_sem] theorem tb213:En.tb 213={n:=1,g:=false,by':=8,ok:=true,z:= .un,k:=6}:=rfl
@[go_sem] theorem tb214:En.tb 214={n:=1,g:=false,by':=8,ok:=true,z:= .un,k:=6}:=rfl
@[go_sem] theorem tb215:En.tb 215={n:=1,g:=false,by':=8,ok:=true,z:= .un,k:=6}:=rfl
@[go_sem] theorem tb216:En.tb 216={n:=1,g:=false,by':=8,ok:=true,z:= .un,k:=6}:=rfl
@[go_sem] theorem tb217:En.tb 217={n:=1,g:=false,by':=8,ok:=true,z:= .un,k:=6}:=rfl
@[go_sem] theorem tb218:En.tb 218={n:=1,g:=false,by':=8,ok:=true,z:= .un,k:=6}:=rfl
@[go_sem] theorem tb219:En.tb 219={n:=1,g:=false,by':=8,ok:=true,z:= .un,k:=6}:=rfl
@[go_sem] theorem tb220:En.tb 220={n:=1,g:=false,by':=24,ok:=true,z:= .sl (some true) 4 true [],k:=3,el:=222}:=rfl
@[go_sem] theorem tb222:En.tb 222={n:=4,g:=true,by':=64,ok:=true,z:= .agg [.int .i64 0,.int .i64 0,.sl (some true) 1 false [],.sl (some true) 4 true []],k:=5,fs:=[(0,3),(1,3),(2,202),(3,220)]}:=rfl
@[go_sem] theorem tb223:En.tb 223={n:=1,g:=false,by':=8,ok:=true,z:= .un,k:=6}:=rfl
@[go_sem] theorem tb224:En.tb 224={n:=1,g:=false,by':=8,ok:=true,z:= .un,k:=6}:=rfl
@[go_sem] theorem tb225:En.tb 225={n:=1,g:=false,by':=8,ok:=true,z:= .un,k:=6}:=rfl
@[go_sem] theorem tb226:En.tb 226={n:=1,g:=false,by':=8,ok:=true,z:= .un,k:=6}:=rfl
@[go_sem] theorem tb227:En.tb 227={n:=1,g:=false,by':=8,ok:=true,z:= .un,k:=6}:=rfl
@[go_sem] theorem tb228:En.tb 228={n:=1,g:=false,by':=8,ok:=true,z:= .un,k:=6}:=rfl
@[go_sem] theorem tb229:En.tb 229={n:=1,g:=false,by':=8,ok:=true,z:= .un,k:=6}:=rfl
@[go_sem] theorem tb230:En.tb 230={n:=1,g:=false,by':=8,ok:=true,z:= .un,k:=6}:=rfl
@[go_sem] theorem tb231:En.tb 231={n:=1,g:=false,by':=8,ok:=true,z:= .un,k:=6}:=rfl
@[go_sem] theorem tb232:En.tb 232={n:=1,g:=false,by':=8,ok:=true,z:= .un,k:=6}:=rfl
@[go_sem] theorem tb233:En.tb 233={n:=1,g:=false,by':=8,ok:=true,z:= .un,k:=6}:=rfl
@[go_sem] theorem tb234:En.tb 234={n:=1,g:=false,by':=8,ok:=true,z:= .un,k:=6}:=rfl
@[go_sem] theorem tb235:En.tb 235={n:=1,g:=false,by':=8,ok:=true,z:= .un,k:=6}:=rfl
@[go_sem] theorem tb236:En.tb 236={n:=1,g:=false,by':=8,ok:=true,z:= .un,k:=6}:=rfl
@[go_sem] theorem tb237:En.tb 237={n:=1,g:=false,by':=8,ok:=true,z:= .un,k:=6}:=rfl
@[go_sem] theorem tb238:En.tb 238={n:=1,g:=false,by':=8,ok:=true,z:= .un,k:=6}:=rfl
@[go_sem] theorem tb241:En.tb 241={n:=1,g:=false,by':=16,ok:=true,z:= .un,k:=8}:=rfl
@[go_sem] theorem tb242:En.tb 242={n:=1,g:=false,by':=16,ok:=true,z:= .un,k:=8}:=rfl
@[go_sem] theorem tb243:En.tb 243={n:=1,g:=false,by':=8,ok:=true,z:= .un,k:=6}:=rfl
@[go_sem] theorem tb244:En.tb 244={n:=1,g:=false,by':=8,ok:=true,z:= .un,k:=6}:=rfl
@[go_sem] theorem tb245:En.tb 245={n:=1,g:=false,by':=8,ok:=true,z:= .un,k:=6}:=rfl
@[go_sem] theorem tb246:En.tb 246={n:=1,g:=false,by':=8,ok:=true,z:= .un,k:=6}:=rfl
@[go_sem] theorem tb247:En.tb 247={n:=1,g:=false,by':=8,ok:=true,z:= .un,k:=6}:=rfl
@[go_sem] theorem tb248:En.tb 248={n:=1,g:=false,by':=8,ok:=true,z:= .un,k:=6}:=rfl
@[go_sem] theorem tb249:En.tb 249={n:=1,g:=false,by':=8,ok:=true,z:= .int .u64 0,k:=0,ik:= .u64}:=rfl
@[go_sem] theorem tb250:En.tb 250={n:=12,g:=true,by':=96,ok:=true,z:= .agg [.int .u64 0,.int .u64 0,.int .u64 0,.int .u64 0,.int .u64 0,.int .u64 0,.int .u64 0,.int .u64 0,.int .u64 0,.int .u64 0,.int .u64 0,.int .u64 0],k:=4,el:=249,len:=12,cmp:=true,ck:=[0,0,0,0,0,0,0,0,0,0,0,0]}:=rfl
@[go_sem] theorem tb251:En.tb 251={n:=1,g:=false,by':=8,ok:=true,z:= .un,k:=6}:=rfl
@[go_sem] theorem tb252:En.tb 252={n:=1,g:=false,by':=8,ok:=true,z:= .un,k:=6}:=rfl
@[go_sem] theorem tb253:En.tb 253={n:=1,g:=false,by':=8,ok:=true,z:= .un,k:=6}:=rfl
@[go_sem] theorem tb254:En.tb 254={n:=1,g:=false,by':=8,ok:=true,z:= .un,k:=6}:=rfl
@[go_sem] theorem tb255:En.tb 255={n:=1,g:=false,by':=8,ok:=true,z:= .un,k:=6}:=rfl
@[go_sem] theorem tb256:En.tb 256={n:=1,g:=false,by':=8,ok:=true,z:= .un,k:=6}:=rfl
@[go_sem] theorem tb257:En.tb 257={n:=1,g:=false,by':=8,ok:=true,z:= .un,k:=6}:=rfl
@[go_sem] theorem tb258:En.tb 258={n:=1,g:=false,by':=8,ok:=true,z:= .un,k:=6}:=rfl
@[go_sem] theorem tb259:En.tb 259={n:=1,g:=false,by':=8,ok:=true,z:= .un,k:=6}:=rfl
@[go_sem] theorem tb260:En.tb 260={n:=1,g:=false,by':=8,ok:=true,z:= .un,k:=6}:=rfl
@[go_sem] theorem tb261:En.tb 261={n:=1,g:=false,by':=8,ok:=true,z:= .un,k:=6}:=rfl
@[go_sem] theorem tb262:En.tb 262={n:=1,g:=false,by':=8,ok:=true,z:= .un,k:=6}:=rfl
@[go_sem] theorem tb263:En.tb 263={n:=1,g:=false,by':=8,ok:=true,z:= .un,k:=6}:=rfl
@[go_sem] theorem tb264:En.tb 264={n:=1,g:=false,by':=8,ok:=true,z:= .un,k:=6}:=rfl
@[go_sem] theorem tb265:En.tb 265={n:=1,g:=false,by':=24,ok:=true,z:= .sl (some true) 1 false [],k:=3,el:=67}:=rfl
@[go_sem] theorem tb272:En.tb 272={n:=1,g:=false,by':=4,ok:=true,z:= .int .u32 0,k:=0,ik:= .u32}:=rfl
@[go_sem] theorem tb273:En.tb 273={n:=8,g:=true,by':=32,ok:=true,z:= .agg [.int .u32 0,.int .u32 0,.int .u32 0,.int .u32 0,.int .u32 0,.int .u32 0,.int .u32 0,.int .u32 0],k:=4,el:=272,len:=8,cmp:=true,ck:=[0,0,0,0,0,0,0,0]}:=rfl
@[go_sem] theorem tb275:En.tb 275={n:=1,g:=false,by':=8,ok:=true,z:= .un,k:=6}:=rfl
@[go_sem] theorem tb281:En.tb 281={n:=33,g:=true,by':=40,ok:=true,z:= .agg [.int .u8 0,.int .u8 0,.int .u8 0,.int .u8 0,.int .u8 0,.int .u8 0,.int .u8 0,.int .u8 0,.int .u8 0,.int .u8 0,.int .u8 0,.int .u8 0,.int .u8 0,.int .u8 0,.int .u8 0,.int .u8 0,.int .u8 0,.int .u8 0,.int .u8 0,.int .u8 0,.int .u8 0,.int .u8 0,.int .u8 0,.int .u8 0,.int .u8 0,.int .u8 0,.int .u8 0,.int .u8 0,.int .u8 0,.int .u8 0,.int .u8 0,.int .u8 0,.int .i64 0],k:=5,fs:=[(0,28),(32,3)],cmp:=true,ck:=[0,0,0,0,0,0,0,0,0,0,0,0,0,0,0,0,0,0,0,0,0,0,0,0,0,0,0,0,0,0,0,0,0]}:=rfl
@[go_sem] theorem tb285:En.tb 285={n:=1,g:=false,by':=8,ok:=true,z:= .un,k:=6}:=rfl
@[go_sem] theorem tb288:En.tb 288={n:=64,g:=true,by':=64,ok:=true,z:= .agg [.int .u8 0,.int .u8 0,.int .u8 0,.int .u8 0,.int .u8 0,.int .u8 0,.int .u8 0,.int .u8 0,.int .u8 0,.int .u8 0,.int .u8 0,.int .u8 0,.int .u8 0,.int .u8 0,.int .u8 0,.int .u8 0,.int .u8 0,.int .u8 0,.int .u8 0,.int .u8 0,.int .u8 0,.int .u8 0,.int .u8 0,.int .u8 0,.int .u8 0,.int .u8 0,.int .u8 0,.int .u8 0,.int .u8 0,.int .u8 0,.int .u8 0,.int .u8 0,.int .u8 0,.int .u8 0,.int .u8 0,.int .u8 0,.int .u8 0,.int .u8 0,.int .u8 0,.int .u8 0,.int .u8 0,.int .u8 0,.int .u8 0,.int .u8 0,.int .u8 0,.int .u8 0,.int .u8 0,.int .u8 0,.int .u8 0,.int .u8 0,.int .u8 0,.int .u8 0,.int .u8 0,.int .u8 0,.int .u8 0,.int .u8 0,.int .u8 0,.int .u8 0,.int .u8 0,.int .u8 0,.int .u8 0,.int .u8 0,.int .u8 0,.int .u8 0],k:=4,el:=5,len:=64,cmp:=true,ck:=[0,0,0,0,0,0,0,0,0,0,0,0,0,0,0,0,0,0,0,0,0,0,0,0,0,0,0,0,0,0,0,0,0,0,0,0,0,0,0,0,0,0,0,0,0,0,0,0,0,0,0,0,0,0,0,0,0,0,0,0,0,0,0,0]}:=rfl
@[go_sem] theorem tb296:En.tb 296={n:=1,g:=false,by':=8,ok:=true,z:= .un,k:=6}:=rfl
@[go_sem] theorem tb298:En.tb 298={n:=1,g:=true,by':=24,ok:=true,z:= .agg [.sl (some true) 4 true []],k:=5,fs:=[(0,220)]}:=rfl
@[go_sem] theorem tb307:En.tb 307={n:=64,g:=true,by':=256,ok:=true,z:= .agg [.int .u32 0,.int .u32 0,.int .u32 0,.int .u32 0,.int .u32 0,.int .u32 0,.int .u32 0,.int .u32 0,.int .u32 0,.int .u32 0,.int .u32 0,.int .u32 0,.int .u32 0,.int .u32 0,.int .u32 0,.int .u32 0,.int .u32 0,.int .u32 0,.int .u32 0,.int .u32 0,.int .u32 0,.int .u32 0,.int .u32 0,.int .u32 0,.int .u32 0,.int .u32 0,.int .u32 0,.int .u32 0,.int .u32 0,.int .u32 0,.int .u32 0,.int .u32 0,.int .u32 0,.int .u32 0,.int .u32 0,.int .u32 0,.int .u32 0,.int .u32 0,.int .u32 0,.int .u32 0,.int .u32 0,.int .u32 0,.int .u32 0,.int .u32 0,.int .u32 0,.int .u32 0,.int .u32 0,.int .u32 0,.int .u32 0,.int .u32 0,.int .u32 0,.int .u32 0,.int .u32 0,.int .u32 0,.int .u32 0,.int .u32 0,.int .u32 0,.int .u32 0,.int .u32 0,.int .u32 0,.int .u32 0,.int .u32 0,.int .u32 0,.int .u32 0],k:=4,el:=272,len:=64,cmp:=true,ck:=[0,0,0,0,0,0,0,0,0,0,0,0,0,0,0,0,0,0,0,0,0,0,0,0,0,0,0,0,0,0,0,0,0,0,0,0,0,0,0,0,0,0,0,0,0,0,0,0,0,0,0,0,0,0,0,0,0,0,0,0,0,0,0,0]}:=rfl
@[go_sem] theorem tb310:En.tb 310={n:=1,g:=false,by':=8,ok:=true,z:= .un,k:=6}:=rfl
@[go_sem] theorem tb319:En.tb 319={n:=1,g:=false,by':=8,ok:=true,z:= .un,k:=6}:=rfl
@[go_sem] theorem tb323:En.tb 323={n:=1,g:=false,by':=24,ok:=true,z:= .sl (some true) 1 false [],k:=3,el:=202}:=rfl
@[go_sem] theorem tb328:En.tb 328={n:=1,g:=false,by':=8,ok:=true,z:= .un,k:=6}:=rfl
@[go_sem] theorem tb330:En.tb 330={n:=1,g:=false,by':=8,ok:=true,z:= .un,k:=6}:=rfl
@[go_sem] theorem tb340:En.tb 340={n:=1,g:=false,by':=8,ok:=true,z:= .un,k:=6}:=rfl
end Go.Proofs.YteibkofekpejgaaGreatDoor
namespace Go.Proofs.YteibkofekpejgaaGreatDoor
open Go.RowKit
section
variable {E:Env} {J:bV} {k:List Ct} {S S1 S2:St}
theorem ca.trans (h:ca E S S1) (h':ca E S1 S2):ca E S S2:=by
 intro c0 c ρ F hs
 obtain ⟨c1,ρ1,e,h1⟩:=h c0 c ρ F hs
 obtain ⟨c2,ρ2,e2,h2⟩:=h' c0 c1 ρ1 F h1
 exact ⟨c2,ρ2,e2.trans e,h2⟩
theorem gI (t T:Nat) {n:Nat} {g:Bool} (h:ab S.F t=some (.sl (some true) n g [])) (hg:g=false→n=1):ca E S ⟨(t,.own S.nx)::S.F,(S.nx,.own T n g (some true) [])::S.H,S.nx+1⟩:=by
 intro c0 c ρ F hs
 have hf:ρ S.nx=none:=hs.2 _ (Nat.le_refl _)
 have hrd:=hs.1.slot _ _ h
 have e:F t= .slice none 0 0:=by
  simp only [rd,zOk] at hrd
  obtain ⟨a,cap,e,_,⟨rfl,rfl⟩,_⟩:=hrd
  exact e
 have hro:gy ρ (fun i=>if i=S.nx then some (.slice none 0 0) else ρ i):=mQ hf fun i hi=>by simp [hi]
 have hat:(fun i=>if i=S.nx then some (Value.slice none 0 0) else ρ i) S.nx=some (.slice none 0 0):=by simp
 have hoth: ∀i,i≠S.nx→(fun i=>if i=S.nx then some (Value.slice none 0 0) else ρ i) i=ρ i:=fun i hi=>by simp [hi]
 generalize (fun i=>if i=S.nx then some (Value.slice none 0 0) else ρ i)=ρ' at hro hat hoth
 refine ⟨c,ρ',rfl,⟨hs.1.since,hs.1.gl,?_,?_,?_⟩,?_⟩
 ·intro t' v ht
  simp only [ab] at ht
  split at ht
  ·rename_i e';subst e';cases ht
   simp only [rd]
   exact ⟨e▸hat,by rw [e];rfl⟩
  ·exact cZ hro (hs.1.slot t' v ht)
 ·intro i b hb
  simp only [ab] at hb
  split at hb
  ·rename_i e';subst e';cases hb
   refine ⟨_,hat,Own.nil,fun k hk=>by simp [blk] at hk,hg,none,0,rfl,rfl,rfl⟩
  ·exact ln hro (hs.1.heap i b hb)
 ·intro i j bi bj k hij hbi hbj hpi hpj hk hk'
  have hn:ak ρ' S.nx=none:=by simp [ak,hat,blk]
  have hi:i≠S.nx:=fun e'=>by rw [e',hn] at hk;cases hk
  have hj:j≠S.nx:=fun e'=>by rw [e',hn] at hk';cases hk'
  simp only [ab,Ne.symm hi,Ne.symm hj,if_false] at hbi hbj
  rw [cJ (hoth i hi)] at hk
  rw [cJ (hoth j hj)] at hk'
  exact hs.1.sep i j bi bj k hij hbi hbj hpi hpj hk hk'
 ·intro i hi
  have hi':S.nx+1≤i:=hi
  rw [hoth i (by omega)]
  exact hs.2 i (by omega)
theorem dZ {a:Code} (I:Nat→St→Prop) (k0:Nat) (S1 S2:St) (hW:ca E S S1) (hF:dL S1.F S2.nx S2.F) (hH:dM S1.H S2.nx S2.H) (h0:I k0 S2)
  (h: ∀n S',I n S'→aI E J (.code a:: .lp (fun S2=> ∃n',n'<n∧ ∃S3,ca E S2 S3∧I n' S3)::k) .normal S'):aI E J (.code (.loop a)::k) .normal S:=
 ⟨I,k0,⟨S2,hW.trans (fS hF hH),h0⟩,h⟩
end
def ae {α R:Type}:Nat→((α→R)→α→R)→(α→R)→α→R
 | 0,_,d,a=>d a
 | n+1,f,d,a=>f (ae n f d) a
theorem aF {α R:Type} {n:Nat} {f:(α→R)→α→R} {d:α→R} {a:α} {r:R} (h:ae n f d a=r): ∃g e,g=f∧e=d∧ae n g e a=r:=⟨f,d,rfl,rfl,h⟩
theorem aG {α R:Type} {n:Nat} {f g:(α→R)→α→R} {d:α→R} {a:α} {r:R} (h:ae n f d a=r) (hn:0<n) (hf:f=g): ∃ag,ag=ae (n - 1) f d∧g ag a=r:=by
 subst hf
 cases n with
 | zero=>omega
 | succ m=>exact ⟨_,rfl,h⟩
theorem aB {α R:Type} {n:Nat} {f:(α→R)→α→R} {d ag:α→R} {a:α} {r:R} (h:ag a=r) (e:ag=ae n f d):ae n f d a=r:=e▸h
def eD {α β R:Type}:List β→((α→R)→β→α→R)→(α→R)→α→R
 | [],_,d,a=>d a
 | y::l,f,d,a=>f (eD l f d) y a
theorem JI {α β R:Type} {ys:List β} {f:(α→R)→β→α→R} {d:α→R} {p:α} {n:Nat} {y:β} (h:ys[n]? =some y):eD (ys.drop n) f d p=f (eD (ys.drop (n+1)) f d) y p:=by
 obtain ⟨hn,rfl⟩:=List.getElem?_eq_some_iff.1 h
 rw [List.drop_eq_getElem_cons hn];rfl
theorem JJ {pre:List Nat} {i:Nat} (h:pre++[i]=List.range (pre.length+1)):pre=List.range pre.length∧i=pre.length:=by
 rw [List.range_succ] at h
 obtain ⟨h1,h2⟩:=List.append_inj' h rfl
 exact ⟨h1,by simpa using h2⟩
theorem JK {α β R:Type} {ys:List β} {f:(α→R)→β→α→R} {d:α→R} {a:α} {r:R} (h:eD ys f d a=r): ∃g e,g=f∧e=d∧eD ys g e a=r:=⟨f,d,rfl,rfl,h⟩
theorem JL {α β R:Type} {f g:(α→R)→β→α→R} {ag:α→R} {y:β} {a:α} {r:R} (h:f ag y a=r) (hf:f=g):g ag y a=r:=hf▸h
theorem JM {E:Env} {S S1:St} (hF:dL (dnF S.F) S1.nx S1.F) (hH:dM S.H S1.nx S1.H):ca E (dnS S) S1:=fS (S:=dnS S) hF hH
theorem JN {E:Env} {J:bV} {k:List Ct} {e:Exit} {S S':St} (h:S=S') (hc:aI E J k e S'):aI E J k e S:=h▸hc
theorem JO {E:Env} {J:bV} {k:List Ct} {K:Exit→St→Prop} {e:Exit} {S:St} (h:K e S):aI E J (.fin K::k) e S:=by rw [xe];exact h
theorem JP {E:Env} {J:bV} {k:List Ct} {S:St} {α β R:Type} {g:Operand} {ps:Array Tmp} {as1 a:Code} {gf:FuncId} {caps:List V} {d p:Nat} (ys:List β) (enc:β→List V) (st:α→St) (fa:Nat→α→Prop) {f:(α→R)→β→α→R} {dd:α→R} {p0:α} {r:R}
  (hM:eD ys f dd p0=r) (hit:wX E gf caps (ys.map enc)) (hg:(st p0).ev E.gv g=some (.fn gf caps)) (hc:cU caps) (ha:asg as1=some (d,p)∧ps.toList.Nodup∧p∈ps.toList) (hl: ∀y,(enc y).length=ps.size)
  {S1:St} (hW:ca E S S1) (hF:dL S1.F (st p0).nx (st p0).F) (hH:dM S1.H (st p0).nx (st p0).H) (h0:fa 0 p0) (hn: ∀n p,fa n p→(jQ (st p).H&&so (st p).F)=true)
  (hbody: ∀ag n y q r' (K:Exit→St→Prop),y∈ys→n<ys.length→fa n q→f ag y q=r'→(∀q' S,ca E (dnS S) (st q')→fa (n+1) q'→ag q'=r'→K .normal S)→(∀S,jQ S.H=true→(r'=r→aI E J k .ret (dnS S))→K .ret S)→
   aI E J [.code a,.fin K] .normal (sq d p ps.toList (enc y) (st q)))
  (hend: ∀q,fa ys.length q→dd q=r→aI E J k .normal (st q)):aI E J (.code (.rangeFunc g ps as1 a)::k) .normal S:=by
 refine ⟨gf,caps,ys.map enc,d,p,fun pre S'=> ∃q,S'=st q∧fa pre.length q∧(pre=List.range pre.length→eD (ys.drop pre.length) f dd q=r),st p0,hW.trans (fS hF hH),⟨p0,rfl,h0,fun _=>hM⟩,hg,hc,ha,hit,fun l hl'=> ?_,?_,?_,?_⟩
 ·obtain ⟨y,_,rfl⟩:=List.mem_map.1 hl';exact hl y
 ·rintro pre S' ⟨q,rfl,hq,_⟩;exact hn _ q hq
 ·rintro pre i l S' ⟨q,rfl,hq,hm⟩ hi hlt
  rw [List.getElem?_map,Option.map_eq_some_iff] at hi
  obtain ⟨y,hy,rfl⟩:=hi
  have hr:pre++[i]=List.range (pre.length+1)→f (eD (ys.drop (pre.length+1)) f dd) y q=r:=fun h=>by
   obtain ⟨h1,rfl⟩:=JJ h
   rw [←hm h1,JI hy]
  refine hbody (eD (ys.drop (pre.length+1)) f dd) pre.length y q _ _ (List.mem_of_getElem? hy) (by simpa using hlt) hq rfl (fun q' S hw hf ha'=> ?_) (fun S h1 h2=> ?_)
  ·exact ⟨st q',hw,q',rfl,by simpa using hf,fun h=>by simp only [List.length_append,List.length_cons,List.length_nil,Nat.zero_add] at h⊢;exact ha'.trans (hr h)⟩
  ·exact ⟨h1,fun h=>h2 (hr h)⟩
 ·rintro S' ⟨q,rfl,hq,hm⟩
  refine hend q (by simpa using hq) ?_
  have:=hm (by simp)
  simpa [eD] using this
def nc {α R:Type} (j:α→R) (f:(α→R)→R):R:=f j
theorem xg {α R:Type} {j:α→R} {f:(α→R)→R} {r:R} (h:nc j f=r): ∃g,g=j∧f g=r:=⟨j,rfl,h⟩
theorem sX {α R:Type} {g j:α→R} {a:α} {r:R} (h:g a=r) (e:g=j):j a=r:=e▸h
theorem aJ {i:Int} (h0: -9223372036854775808≤i) (h:i+1≤9223372036854775807):al .i64 i 1=i+1:=by
 unfold al;rw [IntKind.wrap_i64];omega
theorem fU:LEN=1073741824:=rfl
theorem xh {d:Int}:Rng .i64 d=(-9223372036854775808≤d∧d≤9223372036854775807):=by simp [Rng,IntKind.min,IntKind.max,IntKind.bits,IntKind.signed]
theorem xi {d:Int}:Rng .u64 d=(0≤d∧d≤18446744073709551615):=by simp [Rng,IntKind.min,IntKind.max,IntKind.bits,IntKind.signed]
theorem Ci {d:Int}:Rng .u8 d=(0≤d∧d≤255):=by simp [Rng,IntKind.min,IntKind.max,IntKind.bits,IntKind.signed]
theorem xj {d:Int}:Rng .u32 d=(0≤d∧d≤4294967295):=by simp [Rng,IntKind.min,IntKind.max,IntKind.bits,IntKind.signed]
theorem xk {d:Int}:Rng .i32 d=(-2147483648≤d∧d≤2147483647):=by simp [Rng,IntKind.min,IntKind.max,IntKind.bits,IntKind.signed]
theorem pu {α:Type} {l:List α} {i j:Int}:(sl l i j).length=min (j.toNat - i.toNat) (l.length - i.toNat):=by simp [sl]
theorem nd {α:Type} {l:List α} {i:Int} {x:α}:(st l i x).length=l.length:=by simp [st]
theorem cM {α:Type} [Inhabited α] {l:List α} {f:α→V} {i:Int} (h:i.toNat<l.length) (d:V):elt (l.map f) i.toNat d=f (gt l i):=by
 simp [elt,gt,List.getD,h]
theorem jd {a b:Int} (h0: -9223372036854775808≤a+b) (h:a+b≤9223372036854775807):al .i64 a b=a+b:=by
 unfold al;rw [IntKind.wrap_i64];omega
theorem du {a b:Int} (h0: -9223372036854775808≤a - b) (h:a - b≤9223372036854775807):aA .i64 a b=a - b:=by
 unfold aA;rw [IntKind.wrap_i64];omega
theorem je {α:Type} [Inhabited α] {a:α} {l:List α}:gt (a::l) 0=a:=rfl
theorem jf {α:Type} [Inhabited α] {a:α} {l:List α} {i:Int} (h:0<i):gt (a::l) i=gt l (i - 1):=by
 obtain ⟨n,rfl⟩: ∃n:Nat,i=((n+1:Nat):Int):=⟨(i - 1).toNat,by omega⟩
 simp [gt]
theorem xl {k:IntKind} {n:Nat} {b:Int}:cw k ((n:Nat):Int) b=((n:Nat):Int)% b:=Int.tmod_eq_emod_of_nonneg (by omega)
@[go_sem] theorem JQ: ∀{B:List Int},(B.map (V.int .u8)).map (fun d=>u8N (jJ d))=B.map u8N
 | []=>rfl
 | x::B=>by rw [List.map_cons,List.map_cons,JQ (B:=B)];rfl
def gJ (a:List UInt8):List Int:=a.map fun b=>(b.toNat:Int)
theorem nf {a:List UInt8}:(gJ a).length=a.length:=by simp [gJ]
@[go_sem] theorem JR: ∀{a:List UInt8},a.map u8V=(gJ a).map (V.int .u8)
 | []=>rfl
 | x::B=>by rw [List.map_cons,JR (a:=B)];rfl
def Cj {α:Type} [Inhabited α] (f:α→V) (l:List α):Nat→Int→List V
 | 0,_=> []
 | k+1,i=>f (gt l i)::Cj f l k (i+1)
def fV {α:Type} [Inhabited α] (l:List α):Nat→Int→List α
 | 0,_=> []
 | k+1,i=>gt l i::fV l k (i+1)
def bd {α:Type} [Inhabited α] (n:Nat) (l:List α):List α:=fV l n 0
theorem Cl {α:Type} [Inhabited α] {l:List α}: ∀{k:Nat} {i:Int},(fV l k i).length=k
 | 0,_=>rfl
 | k+1,i=>by simp [fV,Cl (k:=k)]
theorem dc {α:Type} [Inhabited α] {l:List α} {n:Nat}:(bd n l).length=n:=Cl
@[go_sem] theorem PD {α β:Type} {l:List α} {f:α→β} {a b:β}:(l.map f++[a]).set l.length b=l.map f++[b]:=by
 rw [List.set_append_right _ _ (by simp)];simp
attribute [go_sem] Cj bd fV
end Go.Proofs.YteibkofekpejgaaGreatDoor
namespace Go.Proofs.YteibkofekpejgaaGreatDoor
open Go.RowKit
section
variable {E:Env} {J:bV} {k:List Ct} {S S1 S2:St} {c0 c:Cx} {ρ:Ro} {F:Fm}
theorem pw (i:Nat) {T n:Nat} {g:Bool} {z:Option Bool} {l:List V} (h:ab S.H i=some (.own T n g z l)):ca E S ⟨S.F,cT S.H i (.pown n g z l),S.nx⟩:=by
 intro c0 c ρ F hs
 obtain ⟨v,hv,hown,hge,hone,a,cap,es,hz⟩:=hs.1.heap _ _ h
 have hpd:=c.pub_dropv v
 have hbo:ak ρ i=blk v:=by unfold ak;rw [hv,es]
 have hsep: ∀j b,i≠j→ab S.H j=some b→aU b=true→ ∀x,ak ρ j=some x→blk v≠some x:=by
  intro j b hij hb hp x hx hx'
  exact hs.1.sep i j _ b x hij h hb rfl hp (hbo▸hx') hx
 refine ⟨c.dropv v,ρ,rfl,⟨hs.1.since.dropv hge,hs.1.gl.mono hpd,fun t x ht=>bn hpd (hs.1.slot t x ht),?_,?_⟩,hs.2⟩
 ·intro j b hb
  simp only [cK] at hb
  split at hb
  ·rename_i e;subst e;cases hb
   refine ⟨v,hv,?_⟩
   obtain ⟨a',cap',e1,h1,h2⟩:=fw.1 hown.val
   rw [es] at e1;cases e1
   exact dl.2 ⟨a,cap,es,h1,hz,h2⟩
  ·rename_i hij
   have hb0:=hs.1.heap _ _ hb
   have hsp:=hsep j b hij hb
   cases b with
   | var n' g' d=>
    obtain ⟨b',h1,h2,h3⟩:=hb0
    exact ⟨b',h1,h2,Cx.dropv_var h3 (hsp rfl b' (by simp [ak,h1]))⟩
   | own E' n' g' z' l'=>
    obtain ⟨v',h1,h2,h3,h4,a',cap',e',h5⟩:=hb0
    exact ⟨v',h1,Cx.dropv_own h2 (fun x hx=>hsp rfl x (by unfold ak;rw [h1,e'];rw [e'] at hx;exact hx)),h3,h4,a',cap',e',h5⟩
   | ownI E' n' g' z' l'=>
    obtain ⟨v',h1,h2,h3,h4,a',cap',e',h5⟩:=hb0
    exact ⟨v',h1,Cx.dropv_own h2 (fun x hx=>hsp rfl x (by unfold ak;rw [h1,e'];rw [e'] at hx;exact hx)),h3,h4,a',cap',e',h5⟩
   | pvar n' g' d=>
    obtain ⟨b',h1,h2⟩:=hb0
    exact ⟨b',h1,(jA _).mono h2 hpd⟩
   | pown n' g' z' l'=>
    obtain ⟨v',h1,h2⟩:=hb0
    exact ⟨v',h1,bn hpd h2⟩
   | lent k' n' g' d=>
    obtain ⟨h1,h2,h3⟩:=hb0
    exact ⟨h1,h2,Cx.dropv_var h3 (hsp rfl k' (by simp [ak,h1]))⟩
   | kset g' k' n' l'=>
    obtain ⟨r,h1,h2,h3⟩:=hb0
    exact ⟨r,h1,h2,Cx.dropv_set h3 (hsp rfl r (by simp [ak,h1,blk]))⟩
 ·intro a b ba bb x hab ha hb hpa hpb hx
  simp only [cK] at ha hb
  split at ha
  ·cases ha;cases hpa
  ·split at hb
   ·cases hb;cases hpb
   ·exact hs.1.sep a b ba bb x hab ha hb hpa hpb hx
theorem xm (t i:Nat) {n:Nat} {g:Bool} {z:Option Bool} {l:List V} (h:ab S.F t=some (.own i)) (h2:ab S.H i=some (.pown n g z l)):ca E S ⟨(t,.sl z n g l)::S.F,S.H,S.nx⟩:=by
 intro c0 c ρ F hs
 refine ⟨c,ρ,rfl,⟨hs.1.since,hs.1.gl,fun t' v ht=> ?_,hs.1.heap,hs.1.sep⟩,hs.2⟩
 simp only [ab] at ht
 split at ht
 ·rename_i e;subst e;cases ht
  have h3:=hs.1.slot _ _ h
  obtain ⟨v,h4,h5⟩:=hs.1.heap _ _ h2
  simp only [rd] at h3
  rw [h3.1] at h4;cases h4
  simpa only [rd] using h5
 ·exact hs.1.slot _ _ ht
theorem ij (i:Nat) {n:Nat} {g:Bool} {d:V} (h:ab S.H i=some (.var n g d)) (hpu:dH d):ca E S ⟨S.F,cT S.H i (.pvar n g d),S.nx⟩:=by
 intro c0 c ρ F hs
 obtain ⟨b,hv,hge,hvar⟩:=hs.1.heap _ _ h
 have hbv:blk (.slice (some ⟨b,0,none⟩) 0 1)=some b:=rfl
 have hpd:=c.pub_dropv (.slice (some ⟨b,0,none⟩) 0 1)
 have hbo:ak ρ i=some b:=by unfold ak;rw [hv]
 have hsep: ∀j b',i≠j→ab S.H j=some b'→aU b'=true→ ∀x,ak ρ j=some x→blk (.slice (some ⟨b,0,none⟩) 0 1)≠some x:=by
  intro j b' hij hb hp x hx hx'
  exact hs.1.sep i j _ b' x hij h hb rfl hp (hbo▸hx') hx
 refine ⟨c.dropv (.slice (some ⟨b,0,none⟩) 0 1),ρ,rfl,⟨hs.1.since.dropv (fun k hk=>by rw [hbv] at hk;cases hk;exact hge),hs.1.gl.mono hpd,fun t x ht=>bn hpd (hs.1.slot t x ht),?_,?_⟩,hs.2⟩
 ·intro j b' hb
  simp only [cK] at hb
  split at hb
  ·rename_i e;subst e;cases hb
   obtain ⟨h1,T,cs,h2,h3⟩:=hvar
   refine ⟨b,hv,b,0,cs.toList,rfl,c.ok b h1,?_,?_,?_⟩
   ·simp only [Cx.dropv,List.mem_filter,hbv];simp
   ·intro j u hj
    show (c.dropv _).w.cell? _=_
    simp only [Cx.dropv,World.cell?,h2]
    simpa using hj
   ·exact ⟨h3.1,bn hpd (mS hpu h3.2)⟩
  ·rename_i hij
   have hb0:=hs.1.heap _ _ hb
   have hsp:=hsep j b' hij hb
   cases b' with
   | var n' g' d=>
    obtain ⟨b',h1,h2,h3⟩:=hb0
    exact ⟨b',h1,h2,Cx.dropv_var h3 (hsp rfl b' (by simp [ak,h1]))⟩
   | own E' n' g' z' l'=>
    obtain ⟨v',h1,h2,h3,h4,a',cap',e',h5⟩:=hb0
    exact ⟨v',h1,Cx.dropv_own h2 (fun x hx=>hsp rfl x (by unfold ak;rw [h1,e'];rw [e'] at hx;exact hx)),h3,h4,a',cap',e',h5⟩
   | ownI E' n' g' z' l'=>
    obtain ⟨v',h1,h2,h3,h4,a',cap',e',h5⟩:=hb0
    exact ⟨v',h1,Cx.dropv_own h2 (fun x hx=>hsp rfl x (by unfold ak;rw [h1,e'];rw [e'] at hx;exact hx)),h3,h4,a',cap',e',h5⟩
   | pvar n' g' d=>
    obtain ⟨b',h1,h2⟩:=hb0
    exact ⟨b',h1,(jA _).mono h2 hpd⟩
   | pown n' g' z' l'=>
    obtain ⟨v',h1,h2⟩:=hb0
    exact ⟨v',h1,bn hpd h2⟩
   | lent k' n' g' d=>
    obtain ⟨h1,h2,h3⟩:=hb0
    exact ⟨h1,h2,Cx.dropv_var h3 (hsp rfl k' (by simp [ak,h1]))⟩
   | kset g' k' n' l'=>
    obtain ⟨r,h1,h2,h3⟩:=hb0
    exact ⟨r,h1,h2,Cx.dropv_set h3 (hsp rfl r (by simp [ak,h1,blk]))⟩
 ·intro a b1 ba bb x hab ha hb hpa hpb hx
  simp only [cK] at ha hb
  split at ha
  ·cases ha;cases hpa
  ·split at hb
   ·cases hb;cases hpb
   ·exact hs.1.sep a b1 ba bb x hab ha hb hpa hpb hx
def sY {α:Type} (f:α→V) (l:List α) (k:Int) (i:Nat):List V:=(l.map f).set k.toNat (.own i)
section
variable {α:Type} {f:α→V} {l:List α} {i:Nat} {q:Int}
theorem co:(l.map f).set q.toNat (.own i)=sY f l q i:=rfl
theorem cq:(l.map f).set 0 (.own i)=sY f l 0 i:=rfl
theorem px:(sY f l q i).length=l.length:=by simp [sY]
end
theorem ng {α:Type} {f:α→V} {l:List α} {i:Int} {x:α}:(st l i x).map f=(l.map f).set i.toNat (f x):=by simp [st,List.map_set]
theorem py {α:Type} {l m:List α} {i k:Nat}:(spl l i k m).length=min i l.length+min k m.length+(l.length - (i+k)):=by simp only [spl,List.length_append,List.length_take,List.length_drop]
theorem pz {α:Type} {l:List α} {i j:Nat}:(ld l i j).length=min (j - i) (l.length - i):=by simp [ld]
theorem pA {a b:Int} (A B C:Int) (h1:0≤a) (h2:a≤A) (h3:0≤b) (h4:b≤B) (h5:A*B=C) (h6:C≤9223372036854775807):aS .i64 a b=a*b∧(0≤a*b∧a*b≤C):=by
 have e1:=Int.mul_nonneg h1 h3
 have e2:a*b≤A*B:=Int.mul_le_mul h2 h4 h3 (Int.le_trans h1 h2)
 rw [h5] at e2
 refine ⟨?_,e1,e2⟩
 unfold aS;rw [IntKind.wrap_i64];omega
theorem xn {a:Int} (h0: -9223372036854775808≤a) (h:a≤9223372036854775807):ah .i64 a=a:=by
 unfold ah;rw [IntKind.wrap_i64];omega
theorem lC {a:Int} (h0:0≤a) (h:a≤18446744073709551615):ah .u64 a=a:=by
 unfold ah;rw [IntKind.wrap_u64];omega
theorem gK {a b:Code} (h:aI E J (.code a:: .lp (lw E (aI E J (.code b::k) .normal))::k) .normal S):jU E J true a b k S:= .inl h
theorem JS {b:Code} (S1:St) (hF:dL S.F S1.nx S1.F) (hH:dM S.H S1.nx S1.H) (h:aI E J (.code b::k) .normal S1):aI E J (.lp (lw E (aI E J (.code b::k) .normal))::k) .normal S:=⟨S1,fS hF hH,h⟩
theorem il {b:Code} (S2 S1:St) (hW:ca E S S2) (hF:dL S2.F S1.nx S1.F) (hH:dM S2.H S1.nx S1.H) (h:aI E J (.code b::k) .normal S1):aI E J (.lp (lw E (aI E J (.code b::k) .normal))::k) .normal S:=⟨S1,hW.trans (fS hF hH),h⟩
theorem JT {I:Nat→St→Prop} {n:Nat} (n':Nat) (S2 S3:St) (hlt:n'<n) (hW:ca E S S2) (hF:dL S2.F S3.nx S3.F) (hH:dM S2.H S3.nx S3.H) (hI:I n' S3):aI E J (.lp (fun S2=> ∃n',n'<n∧ ∃S3,ca E S2 S3∧I n' S3)::k) .normal S:=
 ⟨n',hlt,S3,hW.trans (fS hF hH),hI⟩
theorem JU {n:Nat} {a b:V} (h:mt a b):mtL (List.replicate n a) (List.replicate n b):=by
 induction n with
 | zero=>trivial
 | succ n ih=>simp only [List.replicate_succ,mtL];exact ⟨h,ih⟩
def rep {α:Type} (n:Nat) (a:α):List α:=List.replicate n a
theorem b_ {α:Type} {n:Nat} {a:α}:(rep n a).length=n:=by simp [rep]
theorem pB {n:Nat} {a b:V}:mtL (List.replicate n a) (List.replicate n b)=(n=0∨mt a b):=by
 refine propext ⟨fun h=> ?_,fun h=> ?_⟩
 ·cases n with
  | zero=>exact .inl rfl
  | succ n=>simp only [List.replicate_succ,mtL] at h;exact .inr h.1
 ·rcases h with rfl|h
  ·trivial
  ·exact JU h
theorem sZ {α:Type} {n:Nat} {a:V} {f:α→V} {x:α}:mtL (List.replicate n a) ((rep n x).map f)=(n=0∨mt a (f x)):=by
 unfold rep;rw [List.map_replicate];exact pB
end
end Go.Proofs.YteibkofekpejgaaGreatDoor
