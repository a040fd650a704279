/- Texts of this proof, one after the other: EW. -/
import Derived.Test.YtgealhhkngbkbaaGreatDoorZ4
set_option linter.unusedVariables false
set_option linter.unusedSimpArgs false
namespace Go.Proofs.YtgealhhkngbkbaaGreatDoor
open Go.RowKit
section
variable {E:Env} {c0 c:Cx} {ρ:Ro} {S:St} {F:Fm}
def ky (E:Env):Nat→Nat→List (Nat×Nat)→List Oper→(St→Prop)→St→Prop
 | 0,i,ds,l,K,S=> ∃S1,cw E S S1∧gg E i ds l K S1
 | m+1,i,ds,o::l,K,S=>oL S ds o (oK E S o (ky E m (i+1) (gO i o.dst ds) l K)) (ky E m (i+1) (gO i o.dst ds) l K (S.put o.dst (.tup [])))
 | _+1,_,_,[],K,S=>K S
theorem AN [mo:Mo] (hE:bn E) {n:Nat} {ops:Array Oper} (hs:fF n ops=true) {K:St→Prop} {Q:Exit→Act→World→Prop} (hQ:oN E c0 n K (Q .normal)):
  ∀(m:Nat) (l pre:List Oper) (ds:List (Nat×Nat)),ops.toList=pre++l→mU ops pre.length ds→ ∀c ρ S F a,bl E c0 c ρ S F→Fr n F a→ky E m pre.length ds l K S→
   dw E.P ops Q (List.range' pre.length l.length) a c.w
 | 0,l,pre,ds,hl,hds,c,ρ,S,F,a,h,hf,hk=>by
  simp only [ky] at hk
  obtain ⟨S1,hw,hk⟩:=hk
  obtain ⟨c1,ρ1,e1,h1⟩:=hw c0 c ρ F h
  have:=rz hE hs hQ l pre ds hl hds c1 ρ1 S1 F a h1 hf hk
  rwa [e1] at this
 | m+1,[],pre,ds,hl,hds,c,ρ,S,F,a,h,hf,hk=>by
  simp only [ky] at hk
  simp only [List.length_nil,List.range'_zero,dw,wpOpsIn]
  exact hQ c ρ S F a h hf hk
 | m+1,o::l,pre,ds,hl,hds,c,ρ,S,F,a,h,hf,hk=>by
  have ho:ops[pre.length]? =some o:=by
   rw [←Array.getElem?_toList,hl,List.getElem?_append_right (Nat.le_refl _)]
   simp
  have ih:=AN hE hs hQ m l (pre++[o]) (gO pre.length o.dst ds) (by rw [hl];simp) (by simpa using zk hds ho)
  simp only [List.length_append,List.length_cons,List.length_nil] at ih
  simp only [ky] at hk
  rw [List.length_cons,List.range'_succ]
  refine tK hs hf ho ?_
  rcases zl h hds hk with ⟨hg,hk⟩|⟨hg,hk⟩
  ·rw [if_pos hg]
   refine (zj hE h hk).mono ?_
   rintro v w' ⟨c',ρ',S',rfl,hS,hk⟩ a' hf'
   exact ih c' ρ' S' _ a' hS hf' hk
  ·rw [if_neg (by simp [hg])]
   intro a' hf'
   exact ih c ρ _ _ a' (mR h (show rd ρ c (.tup []) undef from ⟨[],rfl,rfl⟩)) hf' hk
def Q0 (E:Env) (J:cq) (m:Nat) (ops:Array Oper) (rest:Code) (Q:Exit→St→Prop):Exit→St→Prop
 | .normal,S=>ky E m 0 [] ops.toList (wpA E J rest Q) S
 | e,S=>Q e S
theorem JG (hE:bn E) (hmo:E.P.follows .mixedOrders=true) {n:Nat} {J:cq} {id m:Nat} {ops:Array Oper} {r0 rest:Code} {hi:Nat→Value} {c0:Cx} {Q:Exit→St→Prop} {QC:Exit→Act→World→Prop} (hhi:hi=fun _=>undef)
  (hs:ew n (.seq r0 (.seq (.region id ops false) rest))=true) (hQ: ∀e a w,zJ none hi E c0 n Q e a w→QC e a w):
  ∀c ρ S F a ds,bl E c0 c ρ S F→Fr (mo:=⟨ds,none,hi⟩) n F a→dX c0.w.heap.size ds c.w→wpA E J r0 (Q0 E J m ops rest Q) S→(Code.seq r0 (.seq (.region id ops false) rest)).wpIn {Fence.wide with round:=none} 1 E.P QC a c.w:=by
 intro c ρ S F a ds h hf hd hk
 simp only [ew,Bool.and_eq_true] at hs
 refine wpIn_seq (rI hE hmo r0 none hi c0 _ _ hs.1 (.inl ⟨rfl,hhi⟩) ?_ c ρ S F a ds h hf hd hk)
 clear hk
 rintro e a w ⟨c,ρ,S,F,ds,rfl,h,hf,hd,hk⟩
 cases e with
 | normal=>
  refine wpIn_seq ?_
  have hT:oN (mo:=⟨ds,none,hi⟩) E (c.lend (db ρ S.H)) n (wpA E J rest Q) (Exit.then (rest.wpIn {Fence.wide with round:=none} 1 E.P QC) QC .normal):=fun c2 ρ2 S2 F2 a2 h2 hf2 hk2=>
   rI hE hmo rest none hi c0 Q QC hs.2.2 (.inl ⟨rfl,hhi⟩) hQ c2 ρ2 S2 F2 a2 ds (oT h h2.1.since h2) hf2 (hd.since h h2.1.since) hk2
  have hb:=vy h
  refine wpIn_region ?_
  have:=AN (mo:=⟨ds,none,hi⟩) (c0:=c.lend (db ρ S.H)) hE hs.2.1 hT m ops.toList [] [] rfl (fun j t hj=>by simp [ak] at hj) (c.lend (db ρ S.H)) ρ S F a hb hf hk
  rw [List.range_eq_range']
  rw [show ([]:List Oper).length=0 from rfl,show ops.toList.length=ops.size by simp] at this
  exact this
 | _=>exact hQ _ _ _ ⟨c,ρ,S,F,ds,rfl,h,hf,hd,hk⟩
theorem JH (hE:bn E) (hmo:E.P.follows .mixedOrders=true) {f:FuncId} {fn:Func} {id:Nat} {ops:Array Oper} {r0 rest:Code} {ws:List V} {r:V} {H:List Blk} {n:Nat} (m:Nat) (J:cq) (hf:E.P.funcs[f]? =some fn) (hb:fn.body=some (.seq r0 (.seq (.region id ops false) rest))) (hnt:fn.ntmps=n)
  (hsl:(ew n (.seq r0 (.seq (.region id ops false) rest))&&decide (ws.length≤n)&& !(fn.name== "runtime.NumGoroutine"))=true)
  (h:wfL ws→wpA E J r0 (Q0 E J m ops rest (mZ E fn.results.toList r H)) ⟨gj 0 ws,[],0⟩):aE E f ws r H:=by
 simp only [Bool.and_eq_true,Bool.not_eq_true',decide_eq_true_eq] at hsl
 refine ⟨fun aas w=> ?_,fun c us hY hg hus=> ?_⟩
 ·have hn: ¬fn.name= "runtime.NumGoroutine" :=by simpa using hsl.2
  simp [callFunc,hf,hb,hn]
 have hlen:us.length=ws.length:=rH hus
 have hall:=h (jU hus)
 refine (callsIn_wide (n:=1)).1 (callsIn_of_wp_marks hf hb trivial ?_ rfl)
 have hfr:Fr (mo:=tG) n (fun t=>(us.toArray++Array.replicate (n - us.toArray.size) undef).getD t undef) {tmps:=us.toArray++Array.replicate (fn.ntmps - us.toArray.size) undef,defers:=[]}:=by
  refine Fr.of ?_ rfl fun t=>by rw [hnt]
  simp [hnt];omega
 have hS:bl E c c ro0 ⟨gj 0 ws,[],0⟩ (fun t=>(us.toArray++Array.replicate (n - us.toArray.size) undef).getD t undef):=by
  refine ⟨⟨cn.refl c,hg,?_,fun i b hb=>by simp [ak] at hb,fun i j bi bj k hij hb=>by simp [ak] at hb⟩,fun i _=>rfl⟩
  intro t v ht
  rw [rM] at ht
  simp only [Nat.zero_le,if_true,Nat.sub_zero] at ht
  obtain ⟨u,hu,hr⟩:=rm hus ht
  have hlt:t<us.length:=(List.getElem?_eq_some_iff.1 hu).1
  have:(us.toArray++Array.replicate (n - us.toArray.size) undef).getD t undef=u:=by
   have he:us[t]=u:=by simpa [List.getElem?_eq_getElem hlt] using hu
   simp [Array.getD_eq_getD_getElem?,Array.getElem?_append,hlt,he]
  rw [this];exact hr
 refine JG hE hmo rfl hsl.1.1 ?_ c ro0 _ _ _ [] hS hfr trivial hall
 rintro e a w ⟨c',ρ',S',F',ds,rfl,hS,hf',hd,hk⟩
 cases e with
 | ret=>
  simp only [mZ] at hk
  split at hk
  ·rename_i vs hvs
   show LeavesInM _ _ _ _ _ _ a.defers .returning c'.w
   rw [hf'.df]
   refine oU hS hd fun c2 hS2=> ?_
   obtain ⟨u,hu,hr⟩:=rL hE hS2.1 hf' rfl hvs
   obtain ⟨c1,ρ1,e1,hle,hr1,hH⟩:=hk c c2 ρ' F' u hY hS2 hr
   exact ⟨u,hu,u,c1,ρ1,rfl,e1,hle,hr1,hH⟩
  ·exact hk.elim
 | _=>exact hk.elim
theorem JI {J:cq} {i:Nat} {ds:List (Nat×Nat)} {l:List Oper} {rest:Code} {Q:Exit→St→Prop} (h:aK E J [.ops i ds l,.code rest,.fin Q] .normal S):gg E i ds l (wpA E J rest Q) S:=h
end
end Go.Proofs.YtgealhhkngbkbaaGreatDoor
