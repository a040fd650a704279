/- Texts of this proof, one after the other: VM. -/
import Derived.Test.YteibkofekpejgaaGreatDoorZ5
import Derived.Laws.IdiomRangeMap
set_option linter.unusedVariables false
set_option linter.unusedSimpArgs false
namespace Go.Proofs.YteibkofekpejgaaGreatDoor
open Go.RowKit
section
variable {P:Program}
theorem Mh (w:World) (ty:TypeId) (b bm since c0 clock:Nat) (seen:Array Nat) (es:Array MapEntry) (hi:w.heap[b]? =some (.mapIter (some bm) since seen c0)) (hb:w.heap[bm]? =some (.map es clock)) (hold: ∀x∈es.toList,x.born<since) (hsc:since≤c0):
  ((Go.leftOf es seen).size=0∧(Instr.next (.pointer (some ⟨b,0,none⟩)) false ty).run P w= .ok (.tuple #[.bool false]) w)∨
  ∃e∈(Go.leftOf es seen).toList,∃w1:World,(w1=w∨w1=w.drew)∧(Instr.next (.pointer (some ⟨b,0,none⟩)) false ty).run P w= .ok (.tuple #[.bool true,e.key,e.val]) {w1 with heap:=w1.heap.setIfInBounds b (.mapIter (some bm) since (seen.push e.born) clock)}:=by
 simp only [Instr.next,getObj,Sem.run_bind,Sem.run,hi,hb,Result.andThen,next_test_false seen es since c0 hold hsc,Bool.false_eq_true,if_false]
 unfold Go.leftOf
 have hmem: ∀x∈(Array.filter (fun e=> !seen.contains e.born) es).toList,x.born<since:=fun x hx=>hold x (by simp at hx⊢;exact hx.1)
 generalize Array.filter (fun e=> !seen.contains e.born) es=L at hmem⊢
 have e1:L.filter (fun x=>decide (x.born<since))=L:=Array.filter_eq_self.2 (fun x hx=>by simpa using hmem x (by simpa using hx))
 have e2:L.filter (fun x=>decide (x.born≥since))= #[]:=by
  rw [Array.filter_eq_empty_iff]
  intro x hx
  have:=hmem x (by simpa using hx)
  simp
  omega
 simp only [e1,e2,Array.append_empty]
 by_cases h0:L.size=0
 ·left
  have:L= #[]:=Array.eq_empty_of_size_eq_zero h0
  subst this
  refine ⟨rfl,?_⟩
  simp [choose,Sem.run,Question.forced]
 ·right
  have hne:L.isEmpty=false:=by simp [Array.isEmpty,h0]
  simp only [hne,Bool.false_eq_true,if_false,Array.empty_append,Array.size_map]
  have hch: ∃(j:Nat) (w1:World),j<L.size∧(w1=w∨w1=w.drew)∧(choose (Question.mapNext L.size)).run P w= .ok j w1:=by
   by_cases hf:L.size≤1
   ·exact ⟨0,w,by omega,.inl rfl,by simp [choose,Sem.run,Question.forced,hf]⟩
   ·exact ⟨_,w.drew,Nat.mod_lt _ (by omega),.inr rfl,by
     simp only [choose,Sem.run,Question.forced,decide_eq_true_eq,hf,if_false,Question.cut]
     rfl⟩
  obtain ⟨j,w1,hj,hal,hrun⟩:=hch
  refine ⟨L[j],by simp,w1,hal,?_⟩
  have hh:w1.heap[b]? =some (.mapIter (some bm) since seen c0):=by rcases hal with rfl|rfl<;>exact hi
  have hset: ∀(o':Obj),(setObj b o').run P w1= .ok () {w1 with heap:=w1.heap.setIfInBounds b o'}:=fun o'=>by
   simp only [setObj,Sem.run,hh]
  simp only [hrun,Array.getElem?_map,Array.getElem?_eq_getElem hj,Option.map_some,Sem.run_bind,hset,Result.andThen]
  rfl
theorem Mi (w:World) (b bm since clock:Nat) (seen:Array Nat) (es:Array MapEntry) (e:MapEntry) (hi:w.heap[b]? =some (.mapIter (some bm) since (seen.push e.born) clock)) (hb:w.heap[bm]? =some (.map es clock)) (he:e∈es.toList) (hn:(es.toList.map (·.born)).Nodup):
  (Instr.entry (.pointer (some ⟨b,0,none⟩))).run P w= .ok (.tuple #[e.key,e.val]) w:=by
 have hf:es.find? (·.born==e.born)=some e:=by rw [←Array.find?_toList];exact find_born e es.toList hn he
 simp only [Instr.entry,getObj,Sem.run_bind,Sem.run,hi,hb,Result.andThen,Array.back?_push,bne_self_eq_false,Bool.false_eq_true,if_false,hf]
 rfl
end
section
variable {P:Program} {K:Value→World→Prop} {F:Fm} {o:Oper} {w:World}
theorem Mj {T KT ET:TypeId} {x:Operand} {m:Nat} {es:Array MapEntry} {clock:Nat} (ho:o.op= .range T x) (hT:P.underlying T=some (.map KT ET)) (hx:ev F x= .map (some m)) (hm:w.heap[m]? =some (.map es clock))
  (h:K (.pointer (some ⟨w.heap.size,0,none⟩)) (w.alloc (.mapIter (some m) clock #[] clock))):aE P K (run P F o w):=
 yv (v:= .pointer (some ⟨w.heap.size,0,none⟩)) (w':=w.alloc (.mapIter (some m) clock #[] clock)) (by
  have:=run_range_map (P:=P) w T KT ET m es clock hT hm
  simp [run,execOp,ho,hx,this]) h
theorem Mk {x:Operand} {b bm since c0 clock:Nat} {seen:Array Nat} {es:Array MapEntry} (ho:o.op= .next x false) (hx:ev F x= .pointer (some ⟨b,0,none⟩)) (hi:w.heap[b]? =some (.mapIter (some bm) since seen c0)) (hb:w.heap[bm]? =some (.map es clock)) (hold: ∀x∈es.toList,x.born<since) (hsc:since≤c0)
  (h0:(Go.leftOf es seen).size=0→K (.tuple #[.bool false]) w)
  (h1: ∀e∈(Go.leftOf es seen).toList,∀w1:World,(w1=w∨w1=w.drew)→K (.tuple #[.bool true,e.key,e.val]) {w1 with heap:=w1.heap.setIfInBounds b (.mapIter (some bm) since (seen.push e.born) clock)}):aE P K (run P F o w):=by
 rcases Mh (P:=P) w o.type b bm since c0 clock seen es hi hb hold hsc with ⟨hs,hr⟩|⟨e,he,w1,hw,hr⟩
 ·exact yv (v:= .tuple #[.bool false]) (w':=w) (by simp [run,execOp,ho,hx,hr]) (h0 hs)
 ·exact yv (v:= .tuple #[.bool true,e.key,e.val]) (w':={w1 with heap:=w1.heap.setIfInBounds b (.mapIter (some bm) since (seen.push e.born) clock)}) (by simp [run,execOp,ho,hx,hr]) (h1 e he w1 hw)
theorem Ml {x:Operand} {b bm since clock:Nat} {seen:Array Nat} {es:Array MapEntry} {e:MapEntry} (ho:o.op= .entry x) (hx:ev F x= .pointer (some ⟨b,0,none⟩)) (hi:w.heap[b]? =some (.mapIter (some bm) since (seen.push e.born) clock)) (hb:w.heap[bm]? =some (.map es clock)) (he:e∈es.toList) (hn:(es.toList.map (·.born)).Nodup)
  (h:K (.tuple #[e.key,e.val]) w):aE P K (run P F o w):=
 yv (v:= .tuple #[e.key,e.val]) (w':=w) (by
  have:=Mi (P:=P) w b bm since clock seen es e hi hb he hn
  simp [run,execOp,ho,hx,this]) h
end
section
variable {E:Env} {c0 c:Cx} {ρ:Ro} {S:St} {F:Fm}
theorem DX [mo:Mo] (hE:a8 E) {n:Nat} {ops:Array Oper} (hs:fv n ops=true) {K:St→Prop} {Q:Exit→Act→World→Prop} {l2:List Oper}:
  ∀(l pre:List Oper) (ds:List (Nat×Nat)),ops.toList=pre++(l++l2)→mZ ops pre.length ds→(∀c ρ S F a,aT E c0 c ρ S F→Fr n F a→K S→cO E.P ops Q (List.range' (pre.length+l.length) l2.length) a c.w)→
   ∀c ρ S F a,aT E c0 c ρ S F→Fr n F a→eB E pre.length ds l K S→cO E.P ops Q (List.range' pre.length (l.length+l2.length)) a c.w
 | [],pre,ds,hl,hds,hQ,c,ρ,S,F,a,h,hf,hk=>by
  have:=hQ c ρ S F a h hf hk
  simpa using this
 | o::l,pre,ds,hl,hds,hQ,c,ρ,S,F,a,h,hf,hk=>by
  have ho:ops[pre.length]? =some o:=by
   rw [←Array.getElem?_toList,hl,List.getElem?_append_right (Nat.le_refl _)]
   simp
  have ih:=DX hE hs (l2:=l2) l (pre++[o]) (iV pre.length o.dst ds) (by rw [hl];simp) (by simpa using BA hds ho) (by simpa [Nat.add_assoc,Nat.add_comm 1] using hQ)
  simp only [List.length_append,List.length_cons,List.length_nil] at ih
  simp only [eB] at hk
  rw [List.length_cons,show l.length+1+l2.length=(l.length+l2.length)+1 by omega,List.range'_succ]
  refine iL hs hf ho ?_
  rcases BB h hds hk with ⟨hg,hk⟩|⟨hg,hk⟩
  ·rw [if_pos hg]
   refine (Bz hE h hk).mono ?_
   rintro v w' ⟨c',ρ',S',rfl,hS,hk⟩ a' hf'
   exact ih c' ρ' S' _ a' hS hf' hk
  ·rw [if_neg (by simp [hg])]
   intro a' hf'
   exact ih c ρ _ _ a' (iW h (show rd ρ c (.tup []) undef from ⟨[],rfl,rfl⟩)) hf' hk
theorem qR (h:aT E c0 c ρ S F) {t:Nat} (ht:ab S.F t=none) (v:Value):aT E c0 c ρ S (bK F (some t) v):=by
 refine ⟨⟨h.1.since,h.1.gl,fun x u hx=> ?_,h.1.heap,h.1.sep⟩,h.2⟩
 have hne:x≠t:=by rintro rfl;rw [ht] at hx;cases hx
 have:=h.1.slot x u hx
 simpa [bK,upd,hne] using this
def ep {α:Type} (i:Nat):List (Nat×α)→List (Nat×α)
 | []=> []
 | (k,v)::l=>if k=i then ep i l else (k,v)::ep i l
theorem zw {α:Type} {i j:Nat}: ∀{l:List (Nat×α)},ab (ep i l) j=if j=i then none else ab l j
 | []=>by simp [ep,ab]
 | (k,v)::l=>by
  have ih:=zw (i:=i) (j:=j) (l:=l)
  simp only [ep]
  by_cases h:k=i
  ·subst h
   rw [if_pos rfl,ih]
   by_cases hj:j=k
   ·simp [hj]
   ·simp [ab,hj,Ne.symm hj]
  ·rw [if_neg h]
   simp only [ab]
   by_cases hk:k=j
   ·subst hk;simp [h]
   ·simp only [if_neg hk,ih]
theorem Mm (h:aT E c0 c ρ S F) (i:Nat):aT E c0 c ρ ⟨S.F,ep i S.H,S.nx⟩ F:=by
 have hg: ∀j b,ab (ep i S.H) j=some b→ab S.H j=some b:=fun j b hb=>by
  rw [zw] at hb
  split at hb
  ·cases hb
  ·exact hb
 exact ⟨⟨h.1.since,h.1.gl,h.1.slot,fun j b hb=>h.1.heap j b (hg j b hb),fun a b ba bb x hab ha hb=>h.1.sep a b ba bb x hab (hg a ba ha) (hg b bb hb)⟩,h.2⟩
def kJ (J:bV):Code→Bool
 | .skip=>true
 | .ret=>true
 | .exit _=>true
 | .region _ _ d=> !d
 | .seq a b=> !jR J b&&(kJ J a&&kJ J b)
 | .cond _ a b=>kJ J a&&kJ J b
 | _=>false
theorem Mn [mo:Mo] (hE:a8 E) {n:Nat} {J:bV}: ∀(code:Code) (Q:Exit→St→Prop) (QC:Exit→Act→World→Prop),kJ J code=true→dn n code=true→(∀e c ρ S F a,aT E c0 c ρ S F→Fr n F a→Q e S→QC e a c.w)→
  ∀c ρ S F a,aT E c0 c ρ S F→Fr n F a→wpA E J code Q S→code.wpIn mo.fe 1 E.P QC a c.w:=by
 intro code
 induction code with
 | skip=>
  intro Q QC hl hs hQ c ρ S F a h hf hk
  exact wpIn_skip (hQ _ c ρ S F a h hf hk)
 | ret=>
  intro Q QC hl hs hQ c ρ S F a h hf hk
  exact wpIn_ret (hQ _ c ρ S F a h hf hk)
 | exit id=>
  intro Q QC hl hs hQ c ρ S F a h hf hk
  exact wpIn_exit (hQ _ c ρ S F a h hf hk)
 | region id ops d=>
  intro Q QC hl hs hQ c ρ S F a h hf hk
  cases d with
  | true=>cases hl
  | false=>
   refine wpIn_region ?_
   have:=o7 (c0:=c0) hE hs (K:=Q .normal) (Q:=QC) (fun c ρ S F a h hf hk=>hQ _ c ρ S F a h hf hk) ops.toList [] [] rfl (fun j t hj=>by simp [ab] at hj) c ρ S F a h hf hk
   rw [List.range_eq_range']
   rw [show ([]:List Oper).length=0 from rfl,show ops.toList.length=ops.size by simp] at this
   exact this
 | seq x y ihx ihy=>
  intro Q QC hl hs hQ c ρ S F a h hf hk
  simp only [kJ,Bool.and_eq_true,Bool.not_eq_true'] at hl
  simp only [dn,Bool.and_eq_true] at hs
  simp only [wpA,hl.1] at hk
  refine wpIn_seq (ihx _ _ hl.2.1 hs.1 ?_ c ρ S F a h hf hk)
  intro e c ρ S F a h hf hk
  cases e with
  | normal=>exact ihy Q QC hl.2.2 hs.2 hQ c ρ S F a h hf hk
  | _=>exact hQ _ c ρ S F a h hf hk
 | cond x a b iha ihb=>
  intro Q QC hl hs hQ c ρ S F act h hf hk
  simp only [kJ,Bool.and_eq_true] at hl
  simp only [dn,Bool.and_eq_true] at hs
  simp only [wpA] at hk
  unfold m5 at hk
  split at hk
  ·rename_i t ht
   have hv:=aM h.1 ht
   simp only [rd] at hv
   exact wpIn_cond_split (by rw [hf.eval hs.1];exact hv) (fun e=>iha Q QC hl.1 hs.2.1 hQ c ρ S F act h hf (hk.1 e)) (fun e=>ihb Q QC hl.2 hs.2.2 hQ c ρ S F act h hf (hk.2 e))
  ·exact hk.elim
 | _=>intro Q QC hl;cases hl
def uF (k:IntKind) (x:List Int):V:= .agg (x.map (V.int k))
theorem DY {k:IntKind}: ∀{x:List Int},(∀a∈x,Rng k a)→rdC ρ c (x.map (V.int k)) (x.map (Value.int k))
 | [],_=>rfl
 | a::x,h=>⟨_,_,rfl,rfl,⟨rfl,h a (by simp)⟩,DY fun b hb=>h b (List.mem_cons_of_mem _ hb)⟩
theorem Mp {k:IntKind} {x:List Int} (h: ∀a∈x,Rng k a):rd ρ c (uF k x) (bf true k x):=⟨x.map (Value.int k),rfl,DY h⟩
def uG (E:Env) (Q:Exit→St→Prop) (b1:Nat) (S2:St) (ok:Prop):Exit→St→Prop
 | .normal,S'=>ok∧ca E S' S2
 | .exit j,S'=>j=b1∧ok∧ca E S' S2
 | .ret,S'=>Q .ret S'
 | _,_=>False
def itS (S1:St) (it id:Nat) (p:Cx→Value→Prop):St:=⟨(it,.opq p)::S1.F,ep id S1.H,S1.nx⟩
def Mq (E:Env) (J:bV) (Q:Exit→St→Prop) (tq it nx okT en kx b1 id:Nat) (kd:IntKind) (n9:Nat) (L:List (List Int)) (ok:List Int→Prop) (l13:List Oper) (body:Code) (S1:St):Prop:=
 ab S1.F tq=some (.own id)∧ab S1.H id=some (.kset true kd n9 L)∧(ab S1.F it=none∧ab ((it,V.un)::S1.F) nx=none∧ab ((it,V.un)::S1.F) okT=none∧ab ((it,V.un)::S1.F) en=none)∧
 (∀p,∀x∈L,x.length=n9→eB E 2 [(1,kx),(0,en)] l13 (wpA E J body (uG E Q b1 (itS S1 it id p) (ok x))) ((itS S1 it id p).put (some kx) (uF kd x)))∧
 ((∀x∈L,ok x)→Q .normal ⟨S1.F,ep id S1.H,S1.nx⟩)
theorem Mr (w:World) (o:Obj):(w.alloc o).heap.size=w.heap.size+1:=by show (w.heap.push o).size=_;simp
theorem ov {ops:Array Oper} {o:Oper} (h:o.guard=none):dF ops F o=true:=by unfold dF;rw [h]
theorem Ms (hE:a8 E) {J:bV} {i11 i12 i13 b0 b1:Nat} {ops11 ops12 ops13:Array Oper} {body:Code} {Q:Exit→St→Prop} (pre l13:List Oper) (o3 p0 p1 q0 q1:Oper) (T KT ET tq it nx okT en kx id:Nat) (kd:IntKind) (n9:Nat) (L:List (List Int)) (ok:List Int→Prop)
  (e11:ops11.toList=pre++[o3]) (h3:o3.op= .range T (.tmp tq)∧o3.dst=some it∧o3.guard=none) (hT:E.P.underlying T=some (.map KT ET))
  (e12:ops12.toList=[p0,p1]) (hp0:p0.op= .next (.tmp it) false∧p0.dst=some nx∧p0.guard=none) (hp1:p1.op= .extract (.tmp nx) 0∧p1.dst=some okT∧p1.guard=none)
  (e13:ops13.toList=q0::q1::l13) (hq0:q0.op= .entry (.tmp it)∧q0.dst=some en∧q0.guard=none) (hq1:q1.op= .extract (.tmp en) 0∧q1.dst=some kx∧q1.guard=none)
  (hlight:kJ J body=true) (hne:(nx≠it∧okT≠it)∧en≠it)
  (hpre:eB E 0 [] pre (Mq E J Q tq it nx okT en kx b1 id kd n9 L ok l13 body) S):
  sr E (.seq (.region i11 ops11 false) (.block b0 (.loop (.seq (.region i12 ops12 false) (.seq (.cond (.tmp okT) .skip (.exit b0)) (.block b1 (.seq (.region i13 ops13 false) body))))))) Q S:=by
 intro n r hi c0 QC hs hr hQ c ρ F a ds h hf hd
 simp only [dn,Bool.and_eq_true] at hs
 obtain ⟨hs11,hs12,⟨hsok,_⟩,hs13,hsb⟩:=hs
 refine wpIn_seq (wpIn_region ?_)
 have hsz:ops11.size=pre.length+1:=by rw [←Array.length_toList,e11];simp
 have hb:=pf h
 rw [List.range_eq_range',hsz]
 refine DX (mo:=⟨ds,r,hi⟩) (c0:=c.lend (cH ρ S.H)) hE hs11 (l2:=[o3]) pre [] [] (by simpa using e11) (fun j t hj=>by simp [ab] at hj) ?_ (c.lend (cH ρ S.H)) ρ S F a hb hf hpre
 clear hpre hf
 intro c1 ρ1 S1 F1 a1 h1 hf1 hk1
 obtain ⟨hq,hset,⟨hf0,hfn,hfo,hfe⟩,hround,hend⟩:=hk1
 have hd1:da c0.w.heap.size ds c1.w:=hd.since h h1.1.since
 replace h1:aT E c0 c1 ρ1 S1 F1:=jP h h1.1.since h1
 clear hb hd h
 obtain ⟨m,hm1,hm2,hmX,hmL,es,clock,hmh,hmk,hmn,hmb⟩:=h1.1.heap _ _ hset
 have hF1:F1 tq= .map (some m):=by
  have:=h1.1.slot _ _ hq
  simp only [rd] at this
  rw [hm1] at this
  exact (Option.some.inj this.1).symm
 have hmlt:=c1.ok m hmX
 have hom:ak ρ1 id=some m:=by simp only [ak,hm1,blk]
 simp only [List.length_nil,Nat.zero_add,List.length_cons,List.range'_one]
 refine iL (mo:=⟨ds,r,hi⟩) hs11 hf1 (o:=o3) ?_ ?_
 ·rw [←Array.getElem?_toList,e11];simp
 rw [if_pos (ov h3.2.2)]
 refine Mj h3.1 hT hF1 hmh ?_
 intro a2 hf2
 simp only [cO,wpOpsIn]
 show (Code.block _ _).wpIn _ _ _ _ _ _
 -- the base of all rounds
 have h2:aT E c0 c1 ρ1 ⟨S1.F,ep id S1.H,S1.nx⟩ F1:=Mm h1 id
 have hb2:=pf h2
 have hmY:m∉cH ρ1 (ep id S1.H):=by
  intro hY
  obtain ⟨i,bb,g1,g2,g3⟩:=pd.1 hY
  rw [zw] at g1
  split at g1
  ·cases g1
  ·rename_i hne
   exact h1.1.sep i id bb _ m hne g1 hset g2 rfl g3 hom
 generalize hcb:c1.lend (cH ρ1 (ep id S1.H))=cb at hb2
 have hcw:cb.w=c1.w:=by subst hcb;rfl
 have hcm: ¬cb.mine m:=by
  subst hcb
  rintro (h|h)
  ·have:c1.w.heap.size≤m:=h
   omega
  ·exact hmY h
 obtain ⟨p,hp⟩: ∃p:Cx→Value→Prop,p=fun _ v=>v= .pointer (some ⟨c1.w.heap.size,0,none⟩):=⟨_,rfl⟩
 have hgp:AN p:=by subst hp;exact fun _ _ _ h _=>h
 have hpv: ∀c',rd ro0 c' (.opq p) (.pointer (some ⟨c1.w.heap.size,0,none⟩)):=fun c'=>⟨by subst hp;rfl,rfl,hgp⟩
 have hpv': ∀(ρ':Ro) c',rd ρ' c' (.opq p) (.pointer (some ⟨c1.w.heap.size,0,none⟩)):=fun ρ' c'=>⟨by subst hp;rfl,rfl,hgp⟩
 obtain ⟨b,hbdef⟩: ∃b,b=c1.w.heap.size:=⟨_,rfl⟩
 have hgr:c1.w.grownBy (c1.w.alloc (.mapIter (some m) clock #[] clock)) none:=⟨rfl,rfl,rfl,by rw [Mr];exact Nat.le_succ _,fun k hk _=>heap_alloc_old c1.w _ hk⟩
 have hgr':cb.w.grownBy (c1.w.alloc (.mapIter (some m) clock #[] clock)) none:=hcw▸hgr
 obtain ⟨c3,hw3,_,h3'⟩:=sn hb2 hgr' (fun r e=>by cases e) (fun r e=>by cases e)
 have hfin: ∀{c':Cx} {ρ':Ro} {S':St} {F':Fm},aT E cb c' ρ' S' F'→aT E c0 c' ρ' S' F':=fun {c' ρ' S' F'} h'=>by
  subst hcb
  exact jP h2 h'.1.since h'
 refine wpIn_block (vd (mo:=⟨[],r,hi⟩) (fun k a w=> ∃c' ρ' F' seen,c'.w=w∧aT E cb c' ρ' (itS S1 it id p) F'∧Fr (mo:=⟨ds,r,hi⟩) n F' a∧da c0.w.heap.size ds w∧w.heap[b]? =some (.mapIter (some m) clock seen clock)∧w.heap[m]? =some (.map es clock)∧
   (∀e∈es.toList,seen.contains e.born=true→ ∀x∈L,e.key=bf true kd x→ok x)∧k=(Go.leftOf es seen).size) (Go.leftOf es #[]).size ⟨c3,ρ1,_, #[],hw3,iW (S:=⟨S1.F,ep id S1.H,S1.nx⟩) h3' (d:=some it) (hpv' ρ1 c3),by rw [h3.2.1] at hf2;exact hf2,?_,?_,?_,?_,rfl⟩ ?_)
 ·refine hd1.keep fun k _ ho=> ?_
  rw [heap_alloc_old c1.w _ (Array.getElem?_eq_some_iff.1 ho).1]
  exact ho
 ·rw [hbdef];exact heap_alloc_new c1.w _
 ·rw [heap_alloc_old c1.w _ hmlt];exact hmh
 ·intro e _ h;simp at h
 rintro k a w ⟨c',ρ',F',seen,rfl,h',hf',hd',hib,him,hok,rfl⟩
 have hit:F' it= .pointer (some ⟨b,0,none⟩):=by
  have:=h'.1.slot it (.opq p) (by simp [itS,ab])
  simp only [rd] at this
  have h9:=this.1
  rw [hp] at h9
  rw [hbdef];exact h9
 have hsz12:ops12.size=2:=by rw [←Array.length_toList,e12];rfl
 have hfree: ∀{t:Nat},ab ((it,V.un)::S1.F) t=none→ab (itS S1 it id p).F t=none:=fun {t} ht=>by
  simp only [ab,itS] at ht⊢
  split at ht
  ·cases ht
  ·rename_i hne;rw [if_neg hne];exact ht
 refine wpIn_seq (wpIn_region ?_)
 rw [List.range_eq_range',hsz12]
 show cO (mo:=⟨ds,r,hi⟩) _ _ _ [0,1] _ _
 refine iL (mo:=⟨ds,r,hi⟩) hs12 hf' (o:=p0) (by rw [←Array.getElem?_toList,e12];rfl) ?_
 rw [if_pos (ov hp0.2.2)]
 refine Mk hp0.1 hit hib him hmb (Nat.le_refl _) (fun h0=> ?_) (fun e he w1 hw1=> ?_)
 · -- nothing is left
  intro a1 hf1'
  rw [hp0.2.1] at hf1'
  refine iL (mo:=⟨ds,r,hi⟩) hs12 hf1' (o:=p1) (by rw [←Array.getElem?_toList,e12];rfl) ?_
  rw [if_pos (ov hp1.2.2)]
  refine q6 hp1.1 (vs:= #[.bool false]) (v:= .bool false) (by simp [ev,bK,upd]) rfl ?_
  intro a3 hf3
  rw [hp1.2.1] at hf3
  simp only [cO,wpOpsIn]
  show (Code.seq _ _).wpIn _ _ _ _ _ _
  refine wpIn_seq (wpIn_cond (t:=false) (by rw [hf3.eval hsok];simp [ev,bK,upd]) ?_)
  refine wpIn_exit ?_
  simp only [Exit.then,Exit.inBlock,if_true]
  have h4:aT E cb c' ρ' ⟨S1.F,ep id S1.H,S1.nx⟩ (bK (bK F' (some nx) (.tuple #[.bool false])) (some okT) (.bool false)):=by
   have h5:=qR (qR h' (hfree hfn) (.tuple #[.bool false])) (hfree hfo) (.bool false)
   refine ⟨⟨h5.1.since,h5.1.gl,fun t v ht=> ?_,h5.1.heap,h5.1.sep⟩,h5.2⟩
   by_cases hti:t=it
   ·subst hti
    rw [show ab S1.F t=none from hf0] at ht;cases ht
   ·exact h5.1.slot t v (by simp only [itS,ab,if_neg (Ne.symm hti)];exact ht)
  refine hQ .normal a3 _ ⟨c',ρ',_,_,ds,rfl,hfin h4,hf3,hd',hend fun x hx=> ?_⟩
  have hmem:(bf true kd x,Value.bool true)∈es.toList.map fun e=>(e.key,e.val):=by rw [hmk];exact List.mem_map.2 ⟨x,hx,rfl⟩
  obtain ⟨e,he,e1⟩:=List.mem_map.1 hmem
  refine hok e he ?_ x hx (Prod.mk.inj e1).1
  by_cases hse:seen.contains e.born=true
  ·exact hse
  ·exfalso
   have:e∈Go.leftOf es seen:=by
    unfold Go.leftOf
    exact Array.mem_filter.2 ⟨Array.mem_toList_iff.1 he,by simpa using hse⟩
   have h9:=Array.size_pos_of_mem this
   omega
 · -- one more
  intro a1 hf1'
  rw [hp0.2.1] at hf1'
  refine iL (mo:=⟨ds,r,hi⟩) hs12 hf1' (o:=p1) (by rw [←Array.getElem?_toList,e12];rfl) ?_
  rw [if_pos (ov hp1.2.2)]
  refine q6 hp1.1 (vs:= #[.bool true,e.key,e.val]) (v:= .bool true) (by simp [ev,bK,upd]) rfl ?_
  intro a3 hf3
  rw [hp1.2.1] at hf3
  simp only [cO,wpOpsIn]
  show (Code.seq _ _).wpIn _ _ _ _ _ _
  refine wpIn_seq (wpIn_cond (t:=true) (by rw [hf3.eval hsok];simp [ev,bK,upd]) (wpIn_skip ?_))
  simp only [Exit.then]
  refine wpIn_block (wpIn_seq (wpIn_region ?_))
  have hw1':w1.heap=c'.w.heap∧w1.os=c'.w.os∧w1.tape=c'.w.tape∧w1.output=c'.w.output:=by rcases hw1 with rfl|rfl<;>exact ⟨rfl,rfl,rfl,rfl⟩
  obtain ⟨w2,hw2⟩: ∃w2:World,w2={w1 with heap:=w1.heap.setIfInBounds b (.mapIter (some m) clock (seen.push e.born) clock)}:=⟨_,rfl⟩
  rw [←hw2]
  have hblt:b<c'.w.heap.size:=(Array.getElem?_eq_some_iff.1 hib).1
  have hmb':m≠b:=by omega
  have hoth: ∀k,k≠b→w2.heap[k]? =c'.w.heap[k]? :=fun k hk=>by
   subst hw2
   show (w1.heap.setIfInBounds b _)[k]? =_
   rw [Array.getElem?_setIfInBounds,if_neg (Ne.symm hk),hw1'.1]
  have hib2:w2.heap[b]? =some (.mapIter (some m) clock (seen.push e.born) clock):=by
   subst hw2
   show (w1.heap.setIfInBounds b _)[b]? =_
   rw [Array.getElem?_setIfInBounds,if_pos rfl,if_pos (by rw [hw1'.1];exact hblt)]
  have him2:w2.heap[m]? =some (.map es clock):=(hoth m hmb').trans him
  have hgr2:c'.w.grownBy w2 (some b):=by
   refine ⟨?_,?_,?_,?_,fun k _ hk=>hoth k (fun h=>hk (by rw [h]))⟩
   ·subst hw2;exact hw1'.2.1
   ·subst hw2;exact hw1'.2.2.1
   ·subst hw2;exact hw1'.2.2.2
   ·subst hw2
    show _≤(w1.heap.setIfInBounds b _).size
    rw [Array.size_setIfInBounds,hw1'.1];exact Nat.le_refl _
  obtain ⟨c2,hc2,_,h2'⟩:=sn h' hgr2 (fun r e=>by cases e;exact ⟨by rw [hcw,hbdef];exact Nat.le_refl _,_,hib,rfl⟩) (fun r e i bb hbb hpb hr=>by
   cases e
   obtain ⟨_,o,g1,g2⟩:=pe hpb (h'.1.heap i bb hbb) hr
   rw [hib] at g1;cases g1
   rcases g2 with g2|⟨_,_,_,g2⟩<;>cases g2)
  subst hc2
  obtain ⟨he1,he2⟩:=Go.mem_left he
  obtain ⟨x,hx,hkx⟩: ∃x∈L,e.key=bf true kd x:=by
   have hmem:(e.key,e.val)∈es.toList.map fun e=>(e.key,e.val):=List.mem_map.2 ⟨e,he1,rfl⟩
   rw [hmk] at hmem
   obtain ⟨x,hx,e1⟩:=List.mem_map.1 hmem
   exact ⟨x,hx,(Prod.mk.inj e1).1.symm⟩
  have hsz13:ops13.size=l13.length+2:=by rw [←Array.length_toList,e13];simp
  have h3R:=qR (qR (pf h2') (hfree hfn) (.tuple #[.bool true,e.key,e.val])) (hfree hfo) (.bool true)
  rw [List.range_eq_range',hsz13,List.range'_succ,List.range'_succ]
  refine iL (mo:=⟨ds,r,hi⟩) hs13 hf3 (o:=q0) (by rw [←Array.getElem?_toList,e13];rfl) ?_
  rw [if_pos (ov hq0.2.2)]
  refine Ml hq0.1 (b:=b) (by simp [ev,bK,upd,hit,Ne.symm hne.1.1,Ne.symm hne.1.2]) hib2 him2 he1 hmn ?_
  intro a4 hf4
  rw [hq0.2.1] at hf4
  refine iL (mo:=⟨ds,r,hi⟩) hs13 hf4 (o:=q1) (by rw [←Array.getElem?_toList,e13];rfl) ?_
  rw [if_pos (ov hq1.2.2)]
  refine q6 hq1.1 (vs:= #[e.key,e.val]) (v:=e.key) (by simp [ev,bK,upd]) rfl ?_
  intro a5 hf5
  rw [hq1.2.1] at hf5
  have h5:=iW (qR h3R (hfree hfe) (.tuple #[e.key,e.val])) (d:=some kx) (v:=uF kd x) (u:=e.key) (by rw [hkx];exact Mp (hmL x hx).2)
  have hop:=hround p x hx (hmL x hx).1
  have next: ∀{c ρ S F a},ok x→ca E S (itS S1 it id p)→aT E (c2.lend (cH ρ' (itS S1 it id p).H)) c ρ S F→Fr (mo:=⟨ds,r,hi⟩) n F a→ ∃k',k'<(Go.leftOf es seen).size∧ ∃c' ρ' F' seen,c'.w=c.w∧aT E cb c' ρ' (itS S1 it id p) F'∧Fr (mo:=⟨ds,r,hi⟩) n F' a∧da c0.w.heap.size ds c.w∧c.w.heap[b]? =some (.mapIter (some m) clock seen clock)∧c.w.heap[m]? =some (.map es clock)∧
    (∀e∈es.toList,seen.contains e.born=true→ ∀x∈L,e.key=bf true kd x→ok x)∧k'=(Go.leftOf es seen).size:=by
   intro c ρ S F a hokx hwk hS hfr
   obtain ⟨c7,ρ7,e7,h7⟩:=hwk _ c ρ F hS
   have hs7:=h7.1.since
   refine ⟨_,Go.left_shrinks es seen e he,c7,ρ7,F,seen.push e.born,e7,jP h2' hs7 h7,hfr,?_,?_,?_,?_,rfl⟩
   ·rw [←e7]
    refine da.since (hd'.keep fun k _ ho=> ?_) h2' hs7
    rw [hoth k (fun hk=>by rw [hk,hib] at ho;cases ho)]
    exact ho
   ·rw [←e7]
    exact wW h2' hs7 hib2 rfl (.inl fun _ _ e=>by cases e)
   ·rw [←e7]
    refine (hs7.below.block m (Array.getElem?_eq_some_iff.1 him2).1 fun hY=> ?_).trans him2
    exact hcm (sk h2' hY)
   ·intro e' he' hs' y hy hky
    rw [Go.contains_push] at hs'
    simp only [Bool.or_eq_true] at hs'
    rcases hs' with hs'|hs'
    ·exact hok e' he' hs' y hy hky
    ·have hbe:e'.born=e.born:=by simpa using hs'
     have f1:=Go.find_born e es.toList hmn he1
     have f2:=Go.find_born e' es.toList hmn he'
     rw [hbe,f1] at f2
     cases f2
     rw [hkx] at hky
     simp only [bf,if_true,Value.agg.injEq] at hky
     have h8:=congrArg Array.toList hky
     simp only [List.toList_toArray] at h8
     have h9:x=y:=by
      refine List.map_inj_right (f:=Value.int kd) ?_|>.1 h8
      intro a b hab;cases hab;rfl
     exact h9▸hokx
  refine o7 (mo:=⟨ds,r,hi⟩) (c0:=c2.lend (cH ρ' (itS S1 it id p).H)) hE hs13 (K:=wpA E J body (uG E Q b1 (itS S1 it id p) (ok x))) ?_ l13 [q0,q1] [(1,kx),(0,en)] (by rw [e13];rfl) ?_ (c2.lend (cH ρ' (itS S1 it id p).H)) ρ' _ _ a5 h5 hf5 hop
  ·intro c6 ρ6 S6 F6 a6 h6 hf6 hk6
   show body.wpIn _ _ _ _ _ _
   refine Mn (mo:=⟨ds,r,hi⟩) (c0:=c2.lend (cH ρ' (itS S1 it id p).H)) hE body _ _ hlight hsb (fun e c ρ S F a h hf hk=> ?_) c6 ρ6 S6 F6 a6 h6 hf6 hk6
   cases e with
   | normal=>exact next hk.1 hk.2 h hf
   | exit j=>
    obtain ⟨rfl,hk1,hk2⟩:=hk
    simp only [Exit.inBlock,if_true]
    exact next hk1 hk2 h hf
   | ret=>
    refine hQ .ret a c.w ⟨c,ρ,S,F,ds,rfl,hfin (jP h2' h.1.since h),hf,?_,hk⟩
    refine da.since (hd'.keep fun k _ ho=> ?_) h2' h.1.since
    rw [hoth k (fun hk=>by rw [hk,hib] at ho;cases ho)]
    exact ho
   | _=>exact hk.elim
  ·intro j t hj
   simp only [ab] at hj
   split at hj
   ·rename_i e1;subst e1;cases hj
    exact ⟨(by show 1<2;exact Nat.lt_succ_self 1),by rw [←Array.getElem?_toList,e13];simpa using hq1.2.1⟩
   ·split at hj
    ·rename_i e1;subst e1;cases hj
     exact ⟨(by show 0<2;exact Nat.zero_lt_succ 1),by rw [←Array.getElem?_toList,e13];simpa using hq0.2.1⟩
    ·cases hj
theorem Mt {J:bV} {i:Nat} {ds:List (Nat×Nat)} {l:List Oper} {K:St→Prop} (h:aI E J [.ops i ds l,.fin (fun _ S=>K S)] .normal S):eB E i ds l K S:=h
theorem Mu {J:bV} {i:Nat} {ds:List (Nat×Nat)} {l:List Oper} {rest:Code} {Q:Exit→St→Prop} (h:aI E J [.ops i ds l,.code rest,.fin Q] .normal S):eB E i ds l (wpA E J rest Q) S:=h
theorem Mv {x:List Int} (h:x.length=2): ∃a b,x=[a,b]:=by
 match x,h with
 | [a,b],_=>exact ⟨a,b,rfl⟩
theorem Mw {α β:Type} {L:List α} {f:α→Bool} {A B r:β} (h:(if L.any f=true then A else B)=r) {x:α} (hx:x∈L):(if f x=true then A else r)=r:=by
 by_cases hf:f x=true
 ·rw [if_pos hf]
  rw [if_pos (List.any_eq_true.2 ⟨x,hx,hf⟩)] at h
  exact h
 ·rw [if_neg hf]
theorem Mx {α β:Type} {L:List α} {f:α→Bool} {A B r:β} (h:(if L.any f=true then A else B)=r) (hx: ∀x∈L,f x=false):B=r:=by
 rw [if_neg (by rw [Bool.not_eq_true,List.any_eq_false];intro x h9;rw [hx x h9];decide)] at h
 exact h
end
section
variable {E:Env} {J:bV} {k:List Ct} {S:St} {c0 c:Cx} {ρ:Ro} {F:Fm}
theorem DZ (h:Sim E c0 c ρ S F) {i n:Nat} {g:Bool} {d d':V} {v:Value} (hb:ab S.H i=some (.var n g d)) (hd: ∀u,rd ρ c d u→rd ro0 (c0.base c h.since.size) d' u) (hv:rd ρ c (.ptr i 0) v):rd ro0 (c0.base c h.since.size) (.pp n g d') v:=by
 have hblk:=h.heap i _ hb
 simp only [rd] at hv
 obtain ⟨b0,hv,rfl⟩:=hv
 obtain ⟨b',h1,h2,h3,T,cs,h4,h5,h6⟩:=hblk
 rw [hv] at h1;cases h1
 simp only [rd]
 refine ⟨b0,0,cs.toList,rfl,c.ok b0 h3,sx h h2,?_,h5,hd _ h6⟩
 intro j u hj
 show c.w.cell? _=_
 simp only [Nat.zero_add,World.cell?,h4]
 simpa using hj
theorem My {a w:V} {f g:FuncId} {i j n n':Nat} {b b':Bool} {d w':V} (hi:ab S.H i=some (.var n b (.fn g [.ptr j 0]))) (hj:ab S.H j=some (.var n' b' d)) (ha:mt (fC S.H a) w) (hd:mt (ig S.H d) w'):mW E S [a,.fn f [.ptr i 0]] [w,.fn f [.pp n b (.fn g [.pp n' b' w'])]]:=by
 intro c0 c ρ F us h hr
 simp only [rdT] at hr⊢
 obtain ⟨u1,c1,e1,h1,u2,c2,e2,h2,h3⟩:=hr
 refine ⟨u1,c1,e1,dK ha (xc h h1),u2,c2,e2,?_,h3⟩
 rw [rd] at h2⊢
 obtain ⟨cs,e3,h2⟩:=h2
 refine ⟨cs,e3,?_⟩
 simp only [rdT] at h2⊢
 obtain ⟨u4,c4,e4,h4,h5⟩:=h2
 refine ⟨u4,c4,e4,DZ h hi (fun v hv=> ?_) h4,h5⟩
 rw [rd] at hv⊢
 obtain ⟨cs6,e6,h6⟩:=hv
 refine ⟨cs6,e6,?_⟩
 simp only [rdT] at h6⊢
 obtain ⟨u7,c7,e7,h7,h8⟩:=h6
 exact ⟨u7,c7,e7,DZ h hj (fun v hv=>dK hd (pi h hv)) h7,h8⟩
theorem Mz {f:FuncId} {caps vs:List V} {d:Option Nat} {ws:List V} {r:V} (hc:aW E f ws r []) (hf:dj r) (hl:mW E S (vs++caps) ws) (h:wfV r→aI E J k .normal (S.put d r)):eR E J (some (.fn f caps)) (some vs) S d k:=
 .inl ⟨ws,r,[],hc,.inr ⟨hf,rfl,hl,h⟩⟩
end
end Go.Proofs.YteibkofekpejgaaGreatDoor
