/- Texts of this proof, one after the other: HM, U1. -/
import Derived.Test.YteibkofekpejgaaGreatDoorZ11
import Derived.Test.YteibkofekpejgaaGreatDoorZ12
import Derived.Test.YteibkofekpejgaaGreatDoorZ9
import Derived.Test.YteibkofekpejgaaGreatDoorZ10
set_option linter.unusedVariables false
set_option linter.unusedSimpArgs false
namespace Go.Proofs.YteibkofekpejgaaGreatDoor
open Go.RowKit
@[go_sem] theorem Rx:oR En.tb .i64 [(0,3),(1,3)]=true:=rfl
theorem D0 (s:au):pY s=s:=rfl
theorem MA (l:List au):nD l=l:=by
 unfold nD
 simp only [aa,D0]
 rw [pN (fun x=>x) (fun ag p=>rfl)]
 simp
theorem D1 (p:aK):nE p=p:=by
 unfold nE
 simp only [aa,MA,D0,nC]
 rw [pN (fun x=>x) (fun ag p=>rfl),pN (fun x=>x) (fun ag p=>rfl)]
 simp
theorem uH (m:aD):kp m=m:=by
 unfold kp
 simp only [aa,D1,nC,tF,tI]
 rw [pN (fun x=>x) (fun ag p=>rfl)]
 simp
theorem zx {m x:aD} (hx:x=kp m):x.Open.length=m.Open.length∧x.Paid.length=m.Paid.length∧x.Queue.length=m.Queue.length∧x.Blocked.length=m.Blocked.length:=by
 rw [hx,uH];exact ⟨rfl,rfl,rfl,rfl⟩
theorem D2 {m:aD} (h:dB m=true):m.Open.length≤50∧m.Queue.length≤50∧m.Paid.length=m.Queue.length∧m.Blocked.length≤100:=by
 unfold dB at h
 simp only [aa] at h
 obtain ⟨_,h⟩:=ifF h
 obtain ⟨_,h⟩:=ifF h
 obtain ⟨_,h⟩:=ifF h
 obtain ⟨_,h⟩:=ifF h
 obtain ⟨_,h⟩:=ifF h
 obtain ⟨a1,h⟩:=ifF h
 obtain ⟨a2,h⟩:=ifF h
 obtain ⟨a3,h⟩:=ifF h
 obtain ⟨a4,h⟩:=ifF h
 simp at a1 a2 a3 a4
 omega
theorem zy {m:aD} {x:Bool} (hx:x=dB m):x=true→m.Open.length≤50∧m.Queue.length≤50∧m.Paid.length=m.Queue.length∧m.Blocked.length≤100:=fun h=>D2 (hx▸h)
instance Ry (m:aD):CF (dB m) (fun x=>x=true→m.Open.length≤50∧m.Queue.length≤50∧m.Paid.length=m.Queue.length∧m.Blocked.length≤100):=⟨fun h=>D2 h⟩
theorem dz (a b:Int) (h0:0≤a) (h1:a<b) (h2:b≤1073741824):a≤ah .i64 (ar .u64 (ah .u64 (a+b)) 1)∧ah .i64 (ar .u64 (ah .u64 (a+b)) 1)<b:=by
 have e1:ah .u64 (a+b)=a+b:=lC (by omega) (by omega)
 have e2:ar .u64 (a+b) 1=(a+b)/2:=by
  unfold ar
  rw [Int.fdiv_eq_ediv_of_nonneg _ (by decide)]
  rfl
 rw [e1,e2,xn (by omega) (by omega)]
 omega
theorem MB {l:List Int} {t:Int} (hl:l.length≤1073741824):0≤(dq l t).1∧(dq l t).1≤l.length:=by
 unfold dq
 refine fp (P:=fun q:Int×Int=>0≤q.1∧q.1≤q.2∧q.2≤(l.length:Int)) (meas:=fun q=>(q.2 - q.1).toNat) (Q:=fun r:Int×Bool=>0≤r.1∧r.1≤(l.length:Int)) (fun ag p hp hag=> ?_) _ _ ⟨by show (0:Int)≤0;omega,by show (0:Int)≤(l.length:Int);omega,by show (l.length:Int)≤(l.length:Int);omega⟩ (by show ((l.length:Int) - 0).toNat<((l.length:Int) - 0).toNat+1;omega)
 obtain ⟨p1,p2⟩:=p
 simp only at hp hag⊢
 by_cases hlt:p1<p2
 ·rw [if_pos (decide_eq_true hlt)]
  have hm:=dz p1 p2 hp.1 hlt (by omega)
  simp only [aa]
  generalize ah .i64 (ar .u64 (ah .u64 (p1+p2)) 1)=M at hm
  split
  ·exact hag (M+1,p2) ⟨by show 0≤M+1;omega,by show M+1≤p2;omega,hp.2.2⟩ (by show (p2 - (M+1)).toNat<(p2 - p1).toNat;omega)
  ·exact hag (p1,M) ⟨hp.1,by show p1≤M;omega,by show M≤(l.length:Int);omega⟩ (by show (M - p1).toNat<(p2 - p1).toNat;omega)
 ·rw [if_neg (by simpa using hlt)]
  simp only [aa]
  repeat' split
  all_goals exact ⟨hp.1,by omega⟩
theorem MC {l:List Int} {t:Int} {x:Int×Bool} (hx:x=dq l t) (hl:l.length≤1073741824):0≤x.1∧x.1≤l.length:=by rw [hx];exact MB hl
def okC (p:aK):Prop:=p.Spends.length≤60∧p.Chains.length≤12∧ ∀c∈p.Chains,c.L.length≤12
theorem MD {p:aK} (h:dC p):okC p:=⟨h.s.1,h.c.1,fun c hc=>(h.c.2 c hc).1⟩
def okQ (l:List aK):Prop:= ∀p∈l,dC p
theorem uI:okQ []:=fun p h=>absurd h (List.not_mem_nil)
theorem uJ {p:aK} (h:dC p):okQ [p]:=fun q hq=>by rw [List.mem_singleton.1 hq];exact h
theorem uK {p:aK} (h:dC p) {i:Int} (hi:i.toNat<p.Chains.length):(gt p.Chains i).L.length≤1000:=by
 have:=(h.c.2 _ (bH hi)).1;omega
theorem zz {h:bh} {x:List au} (hx:x=gQ h):x.length=1+h.L.length:=by rw [hx];simp [gQ];omega
theorem ME (l:List bh):kr l=l.any qa:=by
 unfold kr tJ
 exact iv (fun ag p=>rfl)
theorem MF (l:List bZ):qd l=l.any qb:=by
 unfold qd tK
 exact iv (fun ag p=>rfl)
theorem MG (l:List au):qe l=l.any qc:=by
 unfold qe tL
 exact iv (fun ag p=>rfl)
theorem MH (l:List aK):qg l=l.any qf:=by
 unfold qg tM
 exact iv (fun ag p=>rfl)
theorem D3 {l:List bh} (h:kr l=false): ∀c∈l,c.L.length≤12:=by
 intro c hc
 rw [ME,List.any_eq_false] at h
 have:=h c hc
 simp [qa] at this
 omega
theorem MI {p:aK} {x:Bool} (hx:x=kr p.Chains) (h:x=false) (h1:p.Spends.length≤60) (h2:p.Chains.length≤12):okC p:=⟨h1,h2,D3 (hx▸h)⟩
theorem zA {p:aK} (h:kt p=true):dC p:=by
 unfold kt at h
 simp only [aa] at h
 obtain ⟨a1,h⟩:=ifF h
 obtain ⟨a2,h⟩:=ifF h
 obtain ⟨a3,h⟩:=ifF h
 obtain ⟨a4,h⟩:=ifF h
 obtain ⟨a5,h⟩:=ifF h
 rw [MF,List.any_eq_false] at a5
 rw [MG,DC] at h
 simp only [Bool.not_eq_true',List.any_eq_false] at h
 simp only [decide_eq_false_iff_not] at a1 a2 a3
 have hs: ∀s∈ft p,fq s:=fun s hs=>by
  have h9:=h s hs
  unfold qc at h9
  by_cases g1:(s.Leaves.length:Int)>40
  ·simp [g1] at h9
  ·simp [g1] at h9
   exact ⟨by omega,by omega⟩
 refine ⟨⟨by omega,fun x hx=>hs x (List.mem_append.2 (.inl hx))⟩,⟨by omega,fun c hc=>⟨D3 a4 c hc,hs _ ?_,fun x hx=>hs x ?_⟩⟩,⟨by omega,fun x hx=> ?_⟩⟩
 ·exact List.mem_append.2 (.inr (List.mem_flatMap.2 ⟨c,hc,by simp⟩))
 ·exact List.mem_append.2 (.inr (List.mem_flatMap.2 ⟨c,hc,by simp [hx]⟩))
 ·have h9:=a5 x hx
  unfold qb at h9
  by_cases g1:(x.Proof.A.length:Int)>20
  ·simp [g1] at h9
  ·simp [g1] at h9
   exact ⟨by omega,by omega⟩
instance Rz (p:aK):CF (kt p) (fun x=>x=true→dC p):=⟨fun h=>zA h⟩
theorem MJ {m:aD} (h:l5 m=true):okQ m.Queue:=by
 unfold l5 at h
 simp only [aa] at h
 obtain ⟨_,h⟩:=ifT h
 obtain ⟨_,h⟩:=ifT h
 obtain ⟨_,h⟩:=ifT h
 obtain ⟨_,h⟩:=ifT h
 obtain ⟨_,h⟩:=ifT h
 rw [MH] at h
 simp only [Bool.not_eq_true',List.any_eq_false] at h
 intro p hp
 have:=h p hp
 simp [qf,aa] at this
 exact zA this
instance RA (m:aD):CF (l5 m) (fun x=>x=true→okQ m.Queue):=⟨fun h=>MJ h⟩
theorem D4 {l:List aN} {C:Int→Bool} {F:(Int→Int)→Int→Int} {d:Int→Int} (hF: ∀ag p,F ag p=if decide (p<(l.length:Int))=true then (if C p=true then p else ag (p+1)) else -1):
  -1≤ae (((l.length:Int) - 0).toNat+1) F d 0∧ae (((l.length:Int) - 0).toNat+1) F d 0<l.length:=by
 rcases tu (C:=C) (n:=(l.length:Int)) (F:=F) (d:=d) (fun ag p=>by rw [hF];by_cases hp:p<(l.length:Int)<;>simp [hp]) (((l.length:Int) - 0).toNat+1) 0 (by omega) (by omega) with ⟨h1,_⟩|⟨h1,h2,_⟩
 ·rw [h1];omega
 ·omega
theorem MK {l:List aN} {p:aK} {x:Int} (hx:x=gp l p): -1≤x∧x<l.length:=by
 rw [hx];unfold gp
 exact D4 (fun ag p=>rfl)
theorem ML {l:List aN} {p:aK} {x:Int} (hx:x=om l p): -1≤x∧x<l.length:=by
 rw [hx];unfold om
 exact D4 (fun ag p=>rfl)
end Go.Proofs.YteibkofekpejgaaGreatDoor
namespace Go.Proofs.YteibkofekpejgaaGreatDoor
open Go.RowKit
set_option linter.unusedSimpArgs false
theorem enQ {α:Type} {m m':α} {f:FuncId} {fn:Func} {code:Code} {ws:List V} {R:α→V} {Hs:α→List Blk} {n:Nat} {W:Prop} {Q:α→Prop} (J:bV) (hf:En.P.funcs[f]? =some fn) (hnt:fn.ntmps=n) (hm:m=m') (k: ∀r,W→Q r)
  (hb:fn.body=some code:=by exact rfl) (hsl:(dn n code&&decide (ws.length≤n)&& !(fn.name== "runtime.NumGoroutine"))=true:=by kernel_rfl) (hw:wfL ws→W:=by intro h;exact nzQ h)
  (h: ∀r,Q r→True→m'=r→aI En J [.code code,.fin (su En fn.results.toList (R r) (Hs r))] .normal ⟨ic 0 ws,[],0⟩:=by
   intro r k hF hM;(refine spQ ?_);revert hM;revert hF;exact k):CM En m f ws R Hs:=
 cmQ fun r hM=>ci aV bP J hf hb hnt hsl fun hw'=>bR (h r (k r (hw hw')) trivial (hm▸hM))
set_option maxHeartbeats 2000000 in
set_option maxRecDepth 100000 in
instance RB (x_:Int) (low:Int) (high:Int):CM En (eV x_ low high) 64 [.int .i64 x_,.int .i64 low,.int .i64 high] (fun y=> .bool y) (fun _=> []):=by
 refine enQ noJ Tryz.func64 Tryz.ntmps64 (eV.eq_1 ..) fun r hw=> ?_
 exact auR
set_option maxHeartbeats 2000000 in
set_option maxRecDepth 100000 in
instance RC (r_:bW):CM En (pU r_) 88 [.agg [.int .i64 r_.Kind,.int .i64 r_.A,.int .i64 r_.B]] (fun y=> .bool y) (fun _=> []):=by
 refine enQ [4] Tryz.func88 Tryz.ntmps88 (pU.eq_1 ..) fun r hw=> ?_
 intro hF hM
 replace hM:=xg hM;obtain ⟨j1,hj1,hM⟩:=hM
 refine xd (fun S=> ∃p:Bool,S=(⟨[(1,.ptr 0 0),(4,.int .i64 r_.Kind),(5,.bool p)],[(0,.var 3 true (.agg [.int .i64 r_.Kind,.int .i64 r_.A,.int .i64 r_.B]))],1⟩:St)∧(True)∧j1 p=r) ?_ (fun hcut1=> ?_)
 ·clear hM
  rintro S ⟨p1,rfl,hfa1,hM⟩
  replace hM:=sX hM hj1
  exact auP
 ·revert hM;revert hF
  refine slQ ?_
  refine cdQ (fun _ _ _=> ?_) (fun _ _ _=> ?_)
  ·intro hF hM
   exact jV _ sbQ sbQ (hcut1 _ ⟨true,rfl,trivial,hM⟩)
  ·intro hF hM
   exact jV _ sbQ sbQ (hcut1 _ ⟨(r_.Kind==4),rfl,trivial,hM⟩)
set_option maxHeartbeats 2000000 in
set_option maxRecDepth 100000 in
instance RD (r_:bW):CM En (nB r_) 87 [.agg [.int .i64 r_.Kind,.int .i64 r_.A,.int .i64 r_.B]] (fun y=> .bool y) (fun _=> []):=by
 refine enQ noJ Tryz.func87 Tryz.ntmps87 (nB.eq_1 ..) fun r hw=> ?_
 exact auR
set_option maxHeartbeats 2000000 in
set_option maxRecDepth 100000 in
instance RE (s:(List bW)):CM En (tE s) 65 [.sl none 3 true (s.map ct),.fn 87 []] (fun y=> .int .i64 y) (fun _=> []):=by
 refine enQ noJ Tryz.func65 Tryz.ntmps65 (tE.eq_1 ..) fun r hw=> ?_
 intro hF hM
 replace hM:=aF hM;obtain ⟨f1,d1,hf1,hd1,hM⟩:=hM
 refine aL (fun n S=> ∃p:Int,S=(⟨[(0,.sl none 3 true (s.map ct)),(1,.fn 87 []),(7,.int .i64 (s.length:Int)),(8,.int .i64 p)],[],0⟩:St)∧((0≤p)∧(p≤(s.length:Int)))∧((s.length:Int) - p).toNat<n∧ae n f1 d1 p=r) (((s.length:Int) - 0).toNat+1) _ sbQ sbQ ⟨0,rfl,⟨omQ,omQ⟩,(Nat.lt_succ_self _),hM⟩ ?_
 clear hM
 rintro n1 S ⟨p1,rfl,hfa1,hm1,hM⟩
 replace hM:=aG hM (by omega) hf1;obtain ⟨ag1,hag1,hM⟩:=hM
 replace hfa1:=nzQ hfa1
 replace hm1:=nzQ hm1
 have ha1:al .i64 p1 1=p1+1:=aJ omQ omQ
 replace hF:=(And.intro ha1 hF)
 revert hM;revert hF
 refine slQ ?_
 refine aq fun _ _ _=> ?_
 refine ax fun _ _ _ _=> ?_
 refine az fun _ _ _=> ?_
 intro hF hM
 refine aC (n1 - 1) _ (by omega) sbQ sbQ ⟨(p1+1),rfl,⟨omQ,omQ⟩,omQ,aB hM hag1⟩
set_option maxHeartbeats 2000000 in
set_option maxRecDepth 100000 in
instance RF (s:(List bW)):CM En (pV s) 86 [.sl none 3 true (s.map ct),.fn 87 []] (fun y=> .bool y) (fun _=> []):=by
 refine enQ noJ Tryz.func86 Tryz.ntmps86 (pV.eq_1 ..) fun r hw=> ?_
 exact auR
set_option maxHeartbeats 2000000 in
set_option maxRecDepth 100000 in
instance RG (p_:dp):CM En (kn p_) 41 [.agg [.sl none 3 true (p_.Rules.map ct)]] (fun y=> .bool y) (fun _=> []):=by
 refine enQ noJ Tryz.func41 Tryz.ntmps41 (kn.eq_1 ..) fun r hw=> ?_
 exact auR
set_option maxRecDepth 100000 in
theorem D5 (z0:Option Bool) (s:List bW):aW En 72 [.sl z0 3 true (s.map ct)] (.own 0) [.own 83 3 true none ((tF s).map ct)]:=by
 show aW En 72 [.sl z0 3 true (s.map ct)] (.own 0) [.own 83 3 true none (s.map ct)]
 refine lH (pre:=[]) (post:=[]) (fun hl=> ?_) ?_ z0
 ·have hl:s=[]:=by cases s with|nil=>rfl|cons a s=>cases hl
  subst hl
  refine ci aV bP noJ Tryz.func72 rfl Tryz.ntmps72 (by kernel_rfl) fun hw=>bR ?_
  simp only [go_sem,co,cq,List.length_replicate,b_,Int.toNat_natCast,↓reduceIte,Nat.reduceEqDiff,Nat.reduceAdd,Int.reduceAdd,Nat.reduceMul,Nat.reduceLeDiff,Nat.reduceLT,Int.reduceLE,Int.reduceLT,Int.reduceNeg,Int.reduceToNat,List.nil_append]
  exact lG (by decide)
 ·refine ci aV bP noJ Tryz.func72 rfl Tryz.ntmps72 (by kernel_rfl) fun hw=>bR ?_
  simp only [go_sem,co,cq,List.length_replicate,b_,Int.toNat_natCast,↓reduceIte,Nat.reduceEqDiff,Nat.reduceAdd,Int.reduceAdd,Nat.reduceMul,Nat.reduceLeDiff,Nat.reduceLT,Int.reduceLE,Int.reduceLT,Int.reduceNeg,Int.reduceToNat,List.nil_append]
  have hn:s.length≤1073741824:=by have h:=hw;simp only [wfL,wfV,List.nil_append,fU,List.length_map] at h;exact h.1.1
  refine bA (by first|omega|(simp only [List.length_map,List.length_nil,List.nil_append];omega)) ?_
  refine spQ ?_
  refine lF 0 rfl clQ
instance (priority:=1001):DRD 3 16 5 [10,11,12,13,14] [] ([[],[],[1],[1,2],[1,2,3]]++[List.range 5,List.range 6,List.range 7]) []:=⟨trivial⟩
set_option maxHeartbeats 2000000 in
set_option maxRecDepth 100000 in
instance RH (name:(List Int)) (p_:dp):CM En (xR name p_) 22 [(aH name),.agg [.sl none 3 true (p_.Rules.map ct)]] (fun y=> .tup [(bJ y.1),.int .i64 y.2]) (fun _=> []):=by
 refine enQ noJ Tryz.func22 Tryz.ntmps22 (xR.eq_1 ..) fun r hw=> ?_
 refine ax fun _ _ _ _=> ?_
 refine az fun _ _ _=> ?_
 intro hF hM
 replace hM:=aw hM;obtain ⟨x7,hx8,hM⟩:=hM
 have hcx7:=aW.pub ((D5 none (p_.Rules)))
 rw [←hx8] at hcx7
 refine bC hcx7 clQ clQ ?_
 exact auP
instance (priority:=1002):DRD 4 20 9 [10,11,12,13,14,15,16,17,18] [] ([[],[],[0,1],[0,1,2],[],[],[5],[4,5,6],[4,5,6,7]]++[List.range 9]) []:=⟨trivial⟩
set_option maxHeartbeats 2000000 in
set_option maxRecDepth 100000 in
instance RI (l:(List Int)):CM En (ko l) 42 [.sl none 1 false (l.map (V.int .i64))] (fun y=> .bool y) (fun _=> []):=by
 refine enQ noJ Tryz.func42 Tryz.ntmps42 (ko.eq_1 ..) fun r hw=> ?_
 intro hF hM
 replace hM:=aF hM;obtain ⟨f1,d1,hf1,hd1,hM⟩:=hM
 refine aL (fun n S=> ∃p:Int,S=(⟨[(0,.sl none 1 false (l.map (V.int .i64))),(3,.int .i64 p)],[],0⟩:St)∧((1≤p)∧(p≤(l.length:Int)∨p≤1))∧((l.length:Int) - p).toNat<n∧ae n f1 d1 p=r) (((l.length:Int) - 1).toNat+1) _ sbQ sbQ ⟨1,rfl,⟨omQ,omQ⟩,(Nat.lt_succ_self _),hM⟩ ?_
 clear hM
 rintro n1 S ⟨p1,rfl,hfa1,hm1,hM⟩
 replace hM:=aG hM (by omega) hf1;obtain ⟨ag1,hag1,hM⟩:=hM
 replace hfa1:=nzQ hfa1
 replace hm1:=nzQ hm1
 have ha1:al .i64 p1 1=p1+1:=aJ omQ omQ
 replace hF:=(And.intro ha1 hF)
 revert hM;revert hF
 refine slQ ?_
 refine aq fun _ _ _=> ?_
 have ha5:aA .i64 p1 1=(p1 - 1):=du ao ao
 intro hF hM
 try simp only [ha5]
 replace hF:=(And.intro ha5 hF)
 revert hM;revert hF
 refine slQ ?_
 refine az fun _ _ _=> ?_
 intro hF hM
 refine aC (n1 - 1) _ (by omega) sbQ sbQ ⟨(p1+1),rfl,⟨omQ,omQ⟩,omQ,aB hM hag1⟩
set_option maxHeartbeats 2000000 in
set_option maxRecDepth 100000 in
instance RJ (v:aN):CM En (lZ v) 97 [(aZ v)] (fun y=> .bool y) (fun _=> []):=by
 refine enQ noJ Tryz.func97 Tryz.ntmps97 (lZ.eq_1 ..) fun r hw=> ?_
 exact auR
set_option maxHeartbeats 2000000 in
set_option maxRecDepth 100000 in
instance RK (v:aN):CM En (pW v) 89 [(aZ v)] (fun y=> .tup [(lU y.1),.int .i64 y.2]) (fun _=> []):=by
 refine enQ noJ Tryz.func89 Tryz.ntmps89 (pW.eq_1 ..) fun r hw=> ?_
 exact auR
set_option maxHeartbeats 2000000 in
set_option maxRecDepth 100000 in
instance RL (m:aD) (v:aN):CM En (iy m v) 43 [(bJ m),(aZ v)] (fun y=> .bool y) (fun _=> []):=by
 refine enQ noJ Tryz.func43 Tryz.ntmps43 (iy.eq_1 ..) fun r hw=> ?_
 exact auR
set_option maxHeartbeats 2000000 in
set_option maxRecDepth 100000 in
instance RM (s:(List Int)) (v:Int):CM En (tG s v) 69 [.sl none 1 false (s.map (V.int .i64)),.int .i64 v] (fun y=> .int .i64 y) (fun _=> []):=by
 refine enQ noJ Tryz.func69 Tryz.ntmps69 (tG.eq_1 ..) fun r hw=> ?_
 intro hF hM
 replace hM:=aF hM;obtain ⟨f1,d1,hf1,hd1,hM⟩:=hM
 refine aL (fun n S=> ∃p:Int,S=(⟨[(0,.sl none 1 false (s.map (V.int .i64))),(1,.int .i64 v),(7,.int .i64 (s.length:Int)),(8,.int .i64 p)],[],0⟩:St)∧((0≤p)∧(p≤(s.length:Int)))∧((s.length:Int) - p).toNat<n∧ae n f1 d1 p=r) (((s.length:Int) - 0).toNat+1) _ sbQ sbQ ⟨0,rfl,⟨omQ,omQ⟩,(Nat.lt_succ_self _),hM⟩ ?_
 clear hM
 rintro n1 S ⟨p1,rfl,hfa1,hm1,hM⟩
 replace hM:=aG hM (by omega) hf1;obtain ⟨ag1,hag1,hM⟩:=hM
 replace hfa1:=nzQ hfa1
 replace hm1:=nzQ hm1
 have ha1:al .i64 p1 1=p1+1:=aJ omQ omQ
 replace hF:=(And.intro ha1 hF)
 revert hM;revert hF
 refine slQ ?_
 refine aq fun _ _ _=> ?_
 refine az fun _ _ _=> ?_
 intro hF hM
 refine aC (n1 - 1) _ (by omega) sbQ sbQ ⟨(p1+1),rfl,⟨omQ,omQ⟩,omQ,aB hM hag1⟩
set_option maxHeartbeats 2000000 in
set_option maxRecDepth 100000 in
instance RN (s:(List Int)) (v:Int):CM En (gd s v) 20 [.sl none 1 false (s.map (V.int .i64)),.int .i64 v] (fun y=> .bool y) (fun _=> []):=by
 refine enQ noJ Tryz.func20 Tryz.ntmps20 (gd.eq_1 ..) fun r hw=> ?_
 exact auR
instance (priority:=1003):DRD 19 144 19 [105,106,107,108,109,110,111,112,113,114,115,116,117,118,119,120,121,122,123] [] ([[],[],[0,1],[0,1,2],[0,1,2,3],[0,1,2,3,4],[0,1,2,3,4,5],[0,1,2,3,4],[0,1,2,3,4,5,6,7],[0,1,2,3,4,5,6,7,8],[0,1,2,3,4,5,6,7,8,9],[0,1,2,3,4],[0,1,2,3,4,11],[0,1,2,3,4,5,6,7,8,9,10,11,12],[0,1,2,3,4,5,6,7,8,9,10,11,12,13],[0,1,2,3,4,5,6,7,8,9,10,11,12,13,14],[0,1,2,3,4,5,6,7,8,9,10,11,12,13,14,15],[0,1,2,3,4,5,6,7,8,9,10,11,12,13,14,15],[0,1,2,3,4,5,6,7,8,9,10,11,12,13,14,15,17]]++[List.range 19,List.range 20]) []:=⟨trivial⟩
set_option maxHeartbeats 2000000 in
set_option maxRecDepth 100000 in
instance RO (m:aD):CM En (dB m) 10 [(bJ m)] (fun y=> .bool y) (fun _=> []):=by
 refine enQ noJ Tryz.func10 Tryz.ntmps10 (dB.eq_1 ..) fun r hw=> ?_
 refine ax fun _ _ _ _=> ?_
 refine aq fun _ _ _=> ?_
 refine aq fun _ _ _=> ?_
 refine aq fun _ _ _=> ?_
 refine aq fun _ _ _=> ?_
 refine az fun _ _ _=> ?_
 refine aq fun _ _ _=> ?_
 refine aq fun _ _ _=> ?_
 refine aq fun _ _ _=> ?_
 refine aq fun _ _ _=> ?_
 refine ax fun _ _ _ _=> ?_
 refine aq fun _ _ _=> ?_
 refine cdQ (fun _ _ _=> ?_) (fun _ _ _=> ?_)
 ·refine az fun _ _ _=> ?_
  intro hF hM
  replace hM:=aF hM;obtain ⟨f34,d34,hf34,hd34,hM⟩:=hM
  refine dZ (fun n S=> ∃p:Int×List Int,S=(⟨[(1,.ptr 0 0),(3,.own 1),(78,.sl none 35 true (m.Open.map aZ)),(79,.int .i64 (m.Open.length:Int)),(80,.int .i64 p.1)],[(0,.var 40 true ((bJ m))),(1,.own 3 1 false none (p.2.map (V.int .i64)))],2⟩:St)∧((0≤p.1)∧(p.1≤(m.Open.length:Int))∧(((p.2).length:Int)≤p.1))∧((m.Open.length:Int) - p.1).toNat<n∧ae n f34 d34 p=r) (((m.Open.length:Int) - 0).toNat+1) _ _ (gI 3 3 rfl (by decide)) sbQ sbQ ⟨(0,([]:List Int)),rfl,⟨omQ,omQ,omQ⟩,(Nat.lt_succ_self _),hM⟩ ?_
  clear hM
  rintro n34 S ⟨p34,rfl,hfa34,hm34,hM⟩
  replace hM:=aG hM (by omega) hf34;obtain ⟨ag34,hag34,hM⟩:=hM
  replace hfa34:=nzQ hfa34
  replace hm34:=nzQ hm34
  have ha34:al .i64 p34.1 1=p34.1+1:=aJ omQ omQ
  replace hF:=(And.intro ha34 hF)
  revert hM;revert hF
  refine slQ ?_
  refine cdQ (fun _ _ _=> ?_) (fun _ _ _=> ?_)
  ·refine ax fun _ _ _ _=> ?_
   refine az fun _ _ _=> ?_
   intro hF hM
   refine aC (n34 - 1) _ (by omega) sbQ sbQ ⟨((p34.1+1),(p34.2++([(gt m.Open p34.1).Number]:List Int))),rfl,⟨omQ,omQ,omQ⟩,omQ,aB hM hag34⟩
  ·refine ax fun _ _ _ _=> ?_
   refine az fun _ _ _=> ?_
   intro hF hM
   replace hM:=aF hM;obtain ⟨f51,d51,hf51,hd51,hM⟩:=hM
   refine aL (fun n S=> ∃p:Int×Int×List Int,S=(⟨[(1,.ptr 0 0),(3,.own 1),(6,.int .i64 p.1),(98,.sl none 35 true (m.Paid.map aZ)),(99,.int .i64 (m.Paid.length:Int)),(100,.int .i64 p.2.1)],[(0,.var 40 true ((bJ m))),(1,.own 3 1 false none (p.2.2.map (V.int .i64)))],2⟩:St)∧((0≤p.2.1)∧(p.2.1≤(m.Paid.length:Int))∧(((p.2.2).length:Int)≤p.2.1+(p34.2).length))∧((m.Paid.length:Int) - p.2.1).toNat<n∧ae n f51 d51 p=r) (((m.Paid.length:Int) - 0).toNat+1) _ sbQ sbQ ⟨(0,0,p34.2),rfl,⟨omQ,omQ,omQ⟩,(Nat.lt_succ_self _),hM⟩ ?_
   clear hM
   rintro n51 S ⟨p51,rfl,hfa51,hm51,hM⟩
   replace hM:=aG hM (by omega) hf51;obtain ⟨ag51,hag51,hM⟩:=hM
   replace hfa51:=nzQ hfa51
   replace hm51:=nzQ hm51
   have ha51:al .i64 p51.2.1 1=p51.2.1+1:=aJ omQ omQ
   replace hF:=(And.intro ha51 hF)
   revert hM;revert hF
   refine slQ ?_
   refine aq fun _ _ _=> ?_
   refine ax fun _ _ _ _=> ?_
   refine aq fun _ _ _=> ?_
   refine aq fun _ _ _=> ?_
   refine ax fun _ _ _ _=> ?_
   refine az fun _ _ _=> ?_
   intro hF hM
   refine aC (n51 - 1) _ (by omega) sbQ sbQ ⟨((al .i64 p51.1 (gt m.Paid p51.2.1).Amount),(p51.2.1+1),(p51.2.2++([(gt m.Paid p51.2.1).Number]:List Int))),rfl,⟨omQ,omQ,omQ⟩,omQ,aB hM hag51⟩
 ·intro hF hM
  replace hM:=aF hM;obtain ⟨f73,d73,hf73,hd73,hM⟩:=hM
  refine dZ (fun n S=> ∃p:Int×List Int,S=(⟨[(1,.ptr 0 0),(3,.own 1),(78,.sl none 35 true (m.Open.map aZ)),(79,.int .i64 (m.Open.length:Int)),(80,.int .i64 p.1)],[(0,.var 40 true ((bJ m))),(1,.own 3 1 false none (p.2.map (V.int .i64)))],2⟩:St)∧((0≤p.1)∧(p.1≤(m.Open.length:Int))∧(((p.2).length:Int)≤p.1))∧((m.Open.length:Int) - p.1).toNat<n∧ae n f73 d73 p=r) (((m.Open.length:Int) - 0).toNat+1) _ _ (gI 3 3 rfl (by decide)) sbQ sbQ ⟨(0,([]:List Int)),rfl,⟨omQ,omQ,omQ⟩,(Nat.lt_succ_self _),hM⟩ ?_
  clear hM
  rintro n73 S ⟨p73,rfl,hfa73,hm73,hM⟩
  replace hM:=aG hM (by omega) hf73;obtain ⟨ag73,hag73,hM⟩:=hM
  replace hfa73:=nzQ hfa73
  replace hm73:=nzQ hm73
  have ha73:al .i64 p73.1 1=p73.1+1:=aJ omQ omQ
  replace hF:=(And.intro ha73 hF)
  revert hM;revert hF
  refine slQ ?_
  refine cdQ (fun _ _ _=> ?_) (fun _ _ _=> ?_)
  ·refine ax fun _ _ _ _=> ?_
   refine az fun _ _ _=> ?_
   intro hF hM
   refine aC (n73 - 1) _ (by omega) sbQ sbQ ⟨((p73.1+1),(p73.2++([(gt m.Open p73.1).Number]:List Int))),rfl,⟨omQ,omQ,omQ⟩,omQ,aB hM hag73⟩
  ·refine ax fun _ _ _ _=> ?_
   refine az fun _ _ _=> ?_
   intro hF hM
   replace hM:=aF hM;obtain ⟨f90,d90,hf90,hd90,hM⟩:=hM
   refine aL (fun n S=> ∃p:Int×Int×List Int,S=(⟨[(1,.ptr 0 0),(3,.own 1),(6,.int .i64 p.1),(98,.sl none 35 true (m.Paid.map aZ)),(99,.int .i64 (m.Paid.length:Int)),(100,.int .i64 p.2.1)],[(0,.var 40 true ((bJ m))),(1,.own 3 1 false none (p.2.2.map (V.int .i64)))],2⟩:St)∧((0≤p.2.1)∧(p.2.1≤(m.Paid.length:Int))∧(((p.2.2).length:Int)≤p.2.1+(p73.2).length))∧((m.Paid.length:Int) - p.2.1).toNat<n∧ae n f90 d90 p=r) (((m.Paid.length:Int) - 0).toNat+1) _ sbQ sbQ ⟨(0,0,p73.2),rfl,⟨omQ,omQ,omQ⟩,(Nat.lt_succ_self _),hM⟩ ?_
   clear hM
   rintro n90 S ⟨p90,rfl,hfa90,hm90,hM⟩
   replace hM:=aG hM (by omega) hf90;obtain ⟨ag90,hag90,hM⟩:=hM
   replace hfa90:=nzQ hfa90
   replace hm90:=nzQ hm90
   have ha90:al .i64 p90.2.1 1=p90.2.1+1:=aJ omQ omQ
   replace hF:=(And.intro ha90 hF)
   revert hM;revert hF
   refine slQ ?_
   refine aq fun _ _ _=> ?_
   refine ax fun _ _ _ _=> ?_
   refine aq fun _ _ _=> ?_
   refine aq fun _ _ _=> ?_
   refine ax fun _ _ _ _=> ?_
   refine az fun _ _ _=> ?_
   intro hF hM
   refine aC (n90 - 1) _ (by omega) sbQ sbQ ⟨((al .i64 p90.1 (gt m.Paid p90.2.1).Amount),(p90.2.1+1),(p90.2.2++([(gt m.Paid p90.2.1).Number]:List Int))),rfl,⟨omQ,omQ,omQ⟩,omQ,aB hM hag90⟩
set_option maxHeartbeats 2000000 in
set_option maxRecDepth 100000 in
instance RP (now:Int):CM En (l3 now) 35 [.int .i64 now] (fun y=> .int .i64 y) (fun _=> []):=by
 refine enQ noJ Tryz.func35 Tryz.ntmps35 (l3.eq_1 ..) fun r hw=> ?_
 exact auR
set_option maxHeartbeats 2000000 in
set_option maxRecDepth 100000 in
instance RQ (r_:bW) (amount:Int) (number:Int) (transfers:Int) (hour:Int) (sum:Int):CM En (xS r_ amount number transfers hour sum) 67 [.agg [.int .i64 r_.Kind,.int .i64 r_.A,.int .i64 r_.B],.int .i64 amount,.int .i64 number,.int .i64 transfers,.int .i64 hour,.int .i64 sum] (fun y=> .bool y) (fun _=> []):=by
 refine enQ noJ Tryz.func67 Tryz.ntmps67 (xS.eq_1 ..) fun r hw=> ?_
 exact auR
set_option maxHeartbeats 2000000 in
set_option maxRecDepth 100000 in
instance RR (r_:bW) (c0:Int) (c1:Int) (c2:Int) (c3:Int) (c4:Int):CM En (pX r_ c0 c1 c2 c3 c4) 66 [.agg [.int .i64 r_.Kind,.int .i64 r_.A,.int .i64 r_.B],.pp 1 false (.int .i64 c0),.pp 1 false (.int .i64 c1),.pp 1 false (.int .i64 c2),.pp 1 false (.int .i64 c3),.pp 1 false (.int .i64 c4)] (fun y=> .bool y) (fun _=> []):=by
 refine enQ noJ Tryz.func66 Tryz.ntmps66 (pX.eq_1 ..) fun r hw=> ?_
 exact auR
set_option maxHeartbeats 2000000 in
set_option maxRecDepth 100000 in
instance RS (s:(List bW)) (f__c0:Int) (f__c1:Int) (f__c2:Int) (f__c3:Int) (f__c4:Int):CM En (tH s f__c0 f__c1 f__c2 f__c3 f__c4) 65 [.sl none 3 true (s.map ct),.fn 66 [.pp 1 false (.int .i64 f__c0),.pp 1 false (.int .i64 f__c1),.pp 1 false (.int .i64 f__c2),.pp 1 false (.int .i64 f__c3),.pp 1 false (.int .i64 f__c4)]] (fun y=> .int .i64 y) (fun _=> []):=by
 refine enQ noJ Tryz.func65 Tryz.ntmps65 (tH.eq_1 ..) fun r hw=> ?_
 intro hF hM
 replace hM:=aF hM;obtain ⟨f1,d1,hf1,hd1,hM⟩:=hM
 refine aL (fun n S=> ∃p:Int,S=(⟨[(0,.sl none 3 true (s.map ct)),(1,.fn 66 [.pp 1 false (.int .i64 f__c0),.pp 1 false (.int .i64 f__c1),.pp 1 false (.int .i64 f__c2),.pp 1 false (.int .i64 f__c3),.pp 1 false (.int .i64 f__c4)]),(7,.int .i64 (s.length:Int)),(8,.int .i64 p)],[],0⟩:St)∧((0≤p)∧(p≤(s.length:Int)))∧((s.length:Int) - p).toNat<n∧ae n f1 d1 p=r) (((s.length:Int) - 0).toNat+1) _ sbQ sbQ ⟨0,rfl,⟨omQ,omQ⟩,(Nat.lt_succ_self _),hM⟩ ?_
 clear hM
 rintro n1 S ⟨p1,rfl,hfa1,hm1,hM⟩
 replace hM:=aG hM (by omega) hf1;obtain ⟨ag1,hag1,hM⟩:=hM
 replace hfa1:=nzQ hfa1
 replace hm1:=nzQ hm1
 have ha1:al .i64 p1 1=p1+1:=aJ omQ omQ
 replace hF:=(And.intro ha1 hF)
 revert hM;revert hF
 refine slQ ?_
 refine aq fun _ _ _=> ?_
 refine ax fun _ _ _ _=> ?_
 refine az fun _ _ _=> ?_
 intro hF hM
 refine aC (n1 - 1) _ (by omega) sbQ sbQ ⟨(p1+1),rfl,⟨omQ,omQ⟩,omQ,aB hM hag1⟩
set_option maxHeartbeats 2000000 in
set_option maxRecDepth 100000 in
instance RU (p_:dp) (amount:Int) (number:Int) (transfers:Int) (hour:Int) (sum:Int):CM En (gP p_ amount number transfers hour sum) 18 [.agg [.sl none 3 true (p_.Rules.map ct)],.int .i64 amount,.int .i64 number,.int .i64 transfers,.int .i64 hour,.int .i64 sum] (fun y=> .tup [.bool y.1,.int .i64 y.2]) (fun _=> []):=by
 refine enQ noJ Tryz.func18 Tryz.ntmps18 (gP.eq_1 ..) fun r hw=> ?_
 exact auR
set_option maxHeartbeats 2000000 in
set_option maxRecDepth 100000 in
instance RW (p_:dp) (hour:Int) (sum:Int):CM En (xT p_ hour sum) 73 [.agg [.sl none 3 true (p_.Rules.map ct)],.int .i64 hour,.int .i64 sum] (fun y=> .tup [.int .i64 y.1,.int .i64 y.2]) (fun _=> []):=by
 refine enQ noJ Tryz.func73 Tryz.ntmps73 (xT.eq_1 ..) fun r hw=> ?_
 refine ax fun _ _ _ _=> ?_
 refine az fun _ _ _=> ?_
 refine ax fun _ _ _ _=> ?_
 refine aq fun _ _ _=> ?_
 refine ax fun _ _ _ _=> ?_
 refine az fun _ _ _=> ?_
 refine ax fun _ _ _ _=> ?_
 refine az fun _ _ _=> ?_
 intro hF hM
 replace hM:=aF hM;obtain ⟨f24,d24,hf24,hd24,hM⟩:=hM
 refine aL (fun n S=> ∃p:Int×Int,S=(⟨[(2,.int .i64 sum),(10,.int .i64 p.1),(36,.sl none 3 true (p_.Rules.map ct)),(37,.int .i64 (p_.Rules.length:Int)),(38,.int .i64 p.2)],[],1⟩:St)∧((0≤p.2)∧(p.2≤(p_.Rules.length:Int)))∧((p_.Rules.length:Int) - p.2).toNat<n∧ae n f24 d24 p=r) (((p_.Rules.length:Int) - 0).toNat+1) _ sbQ sbQ ⟨(1099511627776,0),rfl,⟨omQ,omQ⟩,(Nat.lt_succ_self _),hM⟩ ?_
 clear hM
 rintro n24 S ⟨p24,rfl,hfa24,hm24,hM⟩
 replace hM:=aG hM (by omega) hf24;obtain ⟨ag24,hag24,hM⟩:=hM
 replace hfa24:=nzQ hfa24
 replace hm24:=nzQ hm24
 have ha24:al .i64 p24.2 1=p24.2+1:=aJ omQ omQ
 replace hF:=(And.intro ha24 hF)
 revert hM;revert hF
 refine slQ ?_
 refine aq fun _ _ _=> ?_
 refine cdQ (fun _ _ _=> ?_) (fun _ _ _=> ?_)
 ·intro hF hM
  refine aC (n24 - 1) _ (by omega) sbQ sbQ ⟨((eN p24.1 (gt p_.Rules p24.2).A),(p24.2+1)),rfl,⟨omQ,omQ⟩,omQ,aB hM hag24⟩
 ·refine cdQ (fun _ _ _=> ?_) (fun _ _ _=> ?_)
  ·intro hF hM
   refine aC (n24 - 1) _ (by omega) sbQ sbQ ⟨((eN p24.1 (aA .i64 (gt p_.Rules p24.2).A sum)),(p24.2+1)),rfl,⟨omQ,omQ⟩,omQ,aB hM hag24⟩
  ·intro hF hM
   refine aC (n24 - 1) _ (by omega) sbQ sbQ ⟨(p24.1,(p24.2+1)),rfl,⟨omQ,omQ⟩,omQ,aB hM hag24⟩
set_option maxRecDepth 100000 in
theorem D6 (z0:Option Bool) (s:List aN):aW En 81 [.sl z0 35 true (s.map aZ)] (.own 0) [.own 50 35 true none ((tI s).map aZ)]:=by
 show aW En 81 [.sl z0 35 true (s.map aZ)] (.own 0) [.own 50 35 true none (s.map aZ)]
 refine lH (pre:=[]) (post:=[]) (fun hl=> ?_) ?_ z0
 ·have hl:s=[]:=by cases s with|nil=>rfl|cons a s=>cases hl
  subst hl
  refine ci aV bP noJ Tryz.func81 rfl Tryz.ntmps81 (by kernel_rfl) fun hw=>bR ?_
  simp only [go_sem,co,cq,List.length_replicate,b_,Int.toNat_natCast,↓reduceIte,Nat.reduceEqDiff,Nat.reduceAdd,Int.reduceAdd,Nat.reduceMul,Nat.reduceLeDiff,Nat.reduceLT,Int.reduceLE,Int.reduceLT,Int.reduceNeg,Int.reduceToNat,List.nil_append]
  exact lG (by decide)
 ·refine ci aV bP noJ Tryz.func81 rfl Tryz.ntmps81 (by kernel_rfl) fun hw=>bR ?_
  simp only [go_sem,co,cq,List.length_replicate,b_,Int.toNat_natCast,↓reduceIte,Nat.reduceEqDiff,Nat.reduceAdd,Int.reduceAdd,Nat.reduceMul,Nat.reduceLeDiff,Nat.reduceLT,Int.reduceLE,Int.reduceLT,Int.reduceNeg,Int.reduceToNat,List.nil_append]
  have hn:s.length≤1073741824:=by have h:=hw;simp only [wfL,wfV,List.nil_append,fU,List.length_map] at h;exact h.1.1
  refine bA (by first|omega|(simp only [List.length_map,List.length_nil,List.nil_append];omega)) ?_
  refine spQ ?_
  refine lF 0 rfl clQ
set_option maxRecDepth 100000 in
theorem zB (z0:Option Bool) (s:List Int):aW En 82 [.sl z0 1 false (s.map (V.int .i64))] (.own 0) [.own 3 1 false none ((nC s).map (V.int .i64))]:=by
 show aW En 82 [.sl z0 1 false (s.map (V.int .i64))] (.own 0) [.own 3 1 false none (s.map (V.int .i64))]
 refine lH (pre:=[]) (post:=[]) (fun hl=> ?_) ?_ z0
 ·have hl:s=[]:=by cases s with|nil=>rfl|cons a s=>cases hl
  subst hl
  refine ci aV bP noJ Tryz.func82 rfl Tryz.ntmps82 (by kernel_rfl) fun hw=>bR ?_
  simp only [go_sem,co,cq,List.length_replicate,b_,Int.toNat_natCast,↓reduceIte,Nat.reduceEqDiff,Nat.reduceAdd,Int.reduceAdd,Nat.reduceMul,Nat.reduceLeDiff,Nat.reduceLT,Int.reduceLE,Int.reduceLT,Int.reduceNeg,Int.reduceToNat,List.nil_append]
  exact lG (by decide)
 ·refine ci aV bP noJ Tryz.func82 rfl Tryz.ntmps82 (by kernel_rfl) fun hw=>bR ?_
  simp only [go_sem,co,cq,List.length_replicate,b_,Int.toNat_natCast,↓reduceIte,Nat.reduceEqDiff,Nat.reduceAdd,Int.reduceAdd,Nat.reduceMul,Nat.reduceLeDiff,Nat.reduceLT,Int.reduceLE,Int.reduceLT,Int.reduceNeg,Int.reduceToNat,List.nil_append]
  have hn:s.length≤1073741824:=by have h:=hw;simp only [wfL,wfV,List.nil_append,fU,List.length_map] at h;exact h.1.1
  refine bA (by first|omega|(simp only [List.length_map,List.length_nil,List.nil_append];omega)) ?_
  refine spQ ?_
  refine lF 0 rfl clQ
set_option maxRecDepth 100000 in
theorem MM (z0:Option Bool) (s:List dO):aW En 113 [.sl z0 3 true (s.map dQ)] (.own 0) [.own 150 3 true none ((Db s).map dQ)]:=by
 show aW En 113 [.sl z0 3 true (s.map dQ)] (.own 0) [.own 150 3 true none (s.map dQ)]
 refine lH (pre:=[]) (post:=[]) (fun hl=> ?_) ?_ z0
 ·have hl:s=[]:=by cases s with|nil=>rfl|cons a s=>cases hl
  subst hl
  refine ci aV bP noJ Tryz.func113 rfl Tryz.ntmps113 (by kernel_rfl) fun hw=>bR ?_
  simp only [go_sem,co,cq,List.length_replicate,b_,Int.toNat_natCast,↓reduceIte,Nat.reduceEqDiff,Nat.reduceAdd,Int.reduceAdd,Nat.reduceMul,Nat.reduceLeDiff,Nat.reduceLT,Int.reduceLE,Int.reduceLT,Int.reduceNeg,Int.reduceToNat,List.nil_append]
  exact lG (by decide)
 ·refine ci aV bP noJ Tryz.func113 rfl Tryz.ntmps113 (by kernel_rfl) fun hw=>bR ?_
  simp only [go_sem,co,cq,List.length_replicate,b_,Int.toNat_natCast,↓reduceIte,Nat.reduceEqDiff,Nat.reduceAdd,Int.reduceAdd,Nat.reduceMul,Nat.reduceLeDiff,Nat.reduceLT,Int.reduceLE,Int.reduceLT,Int.reduceNeg,Int.reduceToNat,List.nil_append]
  have hn:s.length≤1073741824:=by have h:=hw;simp only [wfL,wfV,List.nil_append,fU,List.length_map] at h;exact h.1.1
  refine bA (by first|omega|(simp only [List.length_map,List.length_nil,List.nil_append];omega)) ?_
  refine spQ ?_
  refine lF 0 rfl clQ
set_option maxRecDepth 100000 in
theorem MN (z0:Option Bool) (s:List (List Int)):aW En 114 [.sl z0 32 true (s.map aH)] (.own 0) [.own 28 32 true none ((Dc s).map aH)]:=by
 show aW En 114 [.sl z0 32 true (s.map aH)] (.own 0) [.own 28 32 true none (s.map aH)]
 refine lH (pre:=[]) (post:=[]) (fun hl=> ?_) ?_ z0
 ·have hl:s=[]:=by cases s with|nil=>rfl|cons a s=>cases hl
  subst hl
  refine ci aV bP noJ Tryz.func114 rfl Tryz.ntmps114 (by kernel_rfl) fun hw=>bR ?_
  simp only [go_sem,co,cq,List.length_replicate,b_,Int.toNat_natCast,↓reduceIte,Nat.reduceEqDiff,Nat.reduceAdd,Int.reduceAdd,Nat.reduceMul,Nat.reduceLeDiff,Nat.reduceLT,Int.reduceLE,Int.reduceLT,Int.reduceNeg,Int.reduceToNat,List.nil_append]
  exact lG (by decide)
 ·refine ci aV bP noJ Tryz.func114 rfl Tryz.ntmps114 (by kernel_rfl) fun hw=>bR ?_
  simp only [go_sem,co,cq,List.length_replicate,b_,Int.toNat_natCast,↓reduceIte,Nat.reduceEqDiff,Nat.reduceAdd,Int.reduceAdd,Nat.reduceMul,Nat.reduceLeDiff,Nat.reduceLT,Int.reduceLE,Int.reduceLT,Int.reduceNeg,Int.reduceToNat,List.nil_append]
  have hn:s.length≤1073741824:=by have h:=hw;simp only [wfL,wfV,List.nil_append,fU,List.length_map] at h;exact h.1.1
  refine bA (by first|omega|(simp only [List.length_map,List.length_nil,List.nil_append];omega)) ?_
  refine spQ ?_
  refine lF 0 rfl clQ
instance (priority:=1004):DRD 1 14 8 [3,4,5,6,7,8,9,10] [] ([[],[0],[0,1],[],[3],[3,4],[3,4,5],[]]++[List.range 8,List.range 9,List.range 10,List.range 11]) []:=⟨trivial⟩
set_option maxHeartbeats 2000000 in
set_option maxRecDepth 100000 in
instance RX (s:au):CM En (pY s) 84 [(aQ s)] (fun y=>(aQ y)) (fun _=> []):=by
 refine enQ noJ Tryz.func84 Tryz.ntmps84 (pY.eq_1 ..) fun r hw=> ?_
 refine slQ ?_
 intro hF hM
 replace hM:=aw hM;obtain ⟨x1,hx2,hM⟩:=hM
 have hcx1:=aW.pub ((MM none (s.Leaves)))
 rw [←hx2] at hcx1
 refine bC hcx1 clQ clQ ?_
 revert hM;revert hF
 refine slQ ?_
 intro hF hM
 replace hM:=aw hM;obtain ⟨x3,hx4,hM⟩:=hM
 have hcx3:=aW.pub ((MN none (s.Path.L)))
 rw [←hx4] at hcx3
 refine bC hcx3 clQ clQ ?_
 exact auP
set_option maxHeartbeats 2000000 in
set_option maxRecDepth 100000 in
instance RY (l:(List au)):CM En (nD l) 83 [.sl none 80 true (l.map aQ)] (fun y=> .sl none 80 true (y.map aQ)) (fun _=> []):=by
 refine enQ noJ Tryz.func83 Tryz.ntmps83 (nD.eq_1 ..) fun r hw=> ?_
 intro hF hM
 replace hM:=aF hM;obtain ⟨f1,d1,hf1,hd1,hM⟩:=hM
 refine dZ (fun n S=> ∃p:Int×List au,S=(⟨[(3,.own 0),(6,.sl none 80 true (l.map aQ)),(7,.int .i64 (l.length:Int)),(8,.int .i64 p.1)],[(0,.own 71 80 true none (p.2.map aQ))],1⟩:St)∧((0≤p.1)∧(p.1≤(l.length:Int))∧(((p.2).length:Int)≤p.1))∧((l.length:Int) - p.1).toNat<n∧ae n f1 d1 p=r) (((l.length:Int) - 0).toNat+1) _ _ (gI 3 71 rfl (by decide)) sbQ sbQ ⟨(0,([]:List au)),rfl,⟨omQ,omQ,omQ⟩,(Nat.lt_succ_self _),hM⟩ ?_
 clear hM
 rintro n1 S ⟨p1,rfl,hfa1,hm1,hM⟩
 replace hM:=aG hM (by omega) hf1;obtain ⟨ag1,hag1,hM⟩:=hM
 replace hfa1:=nzQ hfa1
 replace hm1:=nzQ hm1
 have ha1:al .i64 p1.1 1=p1.1+1:=aJ omQ omQ
 replace hF:=(And.intro ha1 hF)
 revert hM;revert hF
 refine slQ ?_
 refine aq fun _ _ _=> ?_
 refine ax fun x5 _ _ _=> ?_
 intro hF hM
 refine aC (n1 - 1) _ (by omega) sbQ sbQ ⟨((p1.1+1),(p1.2++([x5]:List au))),rfl,⟨omQ,omQ,omQ⟩,omQ,aB hM hag1⟩
instance (priority:=1005):DRD 1 61 7 [3,8,9,10,11,12,13] [] ([[],[0],[],[2],[2,3],[0,1,2,3,4],[]]++[List.range 7]) []:=⟨trivial⟩
instance (priority:=1006):DRD 5 61 10 [21,22,23,24,25,26,27,28,29,30] [] ([[],[0],[],[2],[2,3],[],[5],[5,6],[2,3,4,5,6,7],[2,3,4,5,6,7,8]]++[List.range 10,List.range 11,List.range 12]) []:=⟨trivial⟩
instance (priority:=1007):DRD 10 61 10 [41,42,43,44,45,46,47,48,49,50] [] ([[],[0],[0,1],[0,1,2],[],[4],[4,5],[4,5,6],[],[8]]++[List.range 10,List.range 11,List.range 12,List.range 13]) []:=⟨trivial⟩
set_option maxHeartbeats 2000000 in
set_option maxRecDepth 100000 in
instance RZ (p_:aK):CM En (nE p_) 39 [.agg [.int .i64 p_.Number,.sl none 80 true (p_.Spends.map aQ),.sl none 81 true (p_.Chains.map bl),.sl none 5 true (p_.Escrow.map bQ)]] (fun y=> .agg [.int .i64 y.Number,.sl none 80 true (y.Spends.map aQ),.sl none 81 true (y.Chains.map bl),.sl none 5 true (y.Escrow.map bQ)]) (fun _=> []):=by
 refine enQ noJ Tryz.func39 Tryz.ntmps39 (nE.eq_1 ..) fun r hw=> ?_
 refine slQ ?_
 refine ax fun x1 _ _ _=> ?_
 intro hF hM
 replace hM:=aF hM;obtain ⟨f3,d3,hf3,hd3,hM⟩:=hM
 refine dZ (fun n S=> ∃p:Int×List bh,S=(⟨[(1,.ptr 0 0),(2,.ptr 1 0),(3,.ptr 8 0),(15,.sl none 81 true (p_.Chains.map bl)),(16,.int .i64 (p_.Chains.length:Int)),(17,.int .i64 p.1)],[(0,.var 4 true (bw p_)),(1,.var 4 true (.agg [.int .i64 0,.sl (some true) 80 true [],.sl (some true) 81 true [],.sl (some true) 5 true []])),(8,.var 4 true (.agg [.int .i64 p_.Number,.sl none 80 true (x1.map aQ),.own 9,.sl (some true) 5 true []])),(9,.own 73 81 true none (p.2.map bl))],10⟩:St)∧((0≤p.1)∧(p.1≤(p_.Chains.length:Int))∧(((p.2).length:Int)≤p.1))∧((p_.Chains.length:Int) - p.1).toNat<n∧ae n f3 d3 p=r) (((p_.Chains.length:Int) - 0).toNat+1) _ _ (nh 8 2 73 rfl rfl (by decide)) sbQ sbQ ⟨(0,([]:List bh)),rfl,⟨omQ,omQ,omQ⟩,(Nat.lt_succ_self _),hM⟩ ?_
 clear hM
 rintro n3 S ⟨p3,rfl,hfa3,hm3,hM⟩
 replace hM:=aG hM (by omega) hf3;obtain ⟨ag3,hag3,hM⟩:=hM
 replace hfa3:=nzQ hfa3
 replace hm3:=nzQ hm3
 have ha3:al .i64 p3.1 1=p3.1+1:=aJ omQ omQ
 replace hF:=(And.intro ha3 hF)
 revert hM;revert hF
 refine slQ ?_
 refine cdQ (fun _ _ _=> ?_) (fun _ _ _=> ?_)
 ·refine ax fun x7 _ _ _=> ?_
  refine ax fun x9 _ _ _=> ?_
  intro hF hM
  refine aC (n3 - 1) _ (by omega) sbQ sbQ ⟨((p3.1+1),(p3.2++([({First:=x7,L:=x9}:bh)]:List bh))),rfl,⟨omQ,omQ,omQ⟩,omQ,aB hM hag3⟩
 ·intro hF hM
  replace hM:=aF hM;obtain ⟨f12,d12,hf12,hd12,hM⟩:=hM
  refine dZ (fun n S=> ∃p:Int×List bZ,S=(⟨[(2,.ptr 1 0),(3,.ptr 8 0),(35,.sl none 5 true (p_.Escrow.map bQ)),(36,.int .i64 (p_.Escrow.length:Int)),(37,.int .i64 p.1)],[(1,.var 4 true (.agg [.int .i64 0,.sl (some true) 80 true [],.sl (some true) 81 true [],.sl (some true) 5 true []])),(8,.var 4 true (.agg [.int .i64 p_.Number,.sl none 80 true (x1.map aQ),.own 9,.own 10])),(9,.own 73 81 true none (p3.2.map bl)),(10,.own 93 5 true none (p.2.map bQ))],11⟩:St)∧((0≤p.1)∧(p.1≤(p_.Escrow.length:Int))∧(((p.2).length:Int)≤p.1))∧((p_.Escrow.length:Int) - p.1).toNat<n∧ae n f12 d12 p=r) (((p_.Escrow.length:Int) - 0).toNat+1) _ _ (nh 8 3 93 rfl rfl (by decide)) sbQ sbQ ⟨(0,([]:List bZ)),rfl,⟨omQ,omQ,omQ⟩,(Nat.lt_succ_self _),hM⟩ ?_
  clear hM
  rintro n12 S ⟨p12,rfl,hfa12,hm12,hM⟩
  replace hM:=aG hM (by omega) hf12;obtain ⟨ag12,hag12,hM⟩:=hM
  replace hfa12:=nzQ hfa12
  replace hm12:=nzQ hm12
  have ha12:al .i64 p12.1 1=p12.1+1:=aJ omQ omQ
  replace hF:=(And.intro ha12 hF)
  revert hM;revert hF
  refine slQ ?_
  refine aq fun _ _ _=> ?_
  intro hF hM
  replace hM:=aw hM;obtain ⟨x16,hx17,hM⟩:=hM
  have hcx16:=aW.pub ((zB none ((gt p_.Escrow p12.1).Proof.A)))
  rw [←hx17] at hcx16
  refine bC hcx16 (an hF) (an hF) ?_
  revert hM;revert hF
  refine slQ ?_
  intro hF hM
  replace hM:=aw hM;obtain ⟨x18,hx19,hM⟩:=hM
  have hcx18:=aW.pub ((zB none ((gt p_.Escrow p12.1).Proof.Z)))
  rw [←hx19] at hcx18
  refine bC hcx18 (an hF) (an hF) ?_
  revert hM;revert hF
  refine slQ ?_
  intro hF hM
  refine aC (n12 - 1) _ (by omega) sbQ sbQ ⟨((p12.1+1),(p12.2++([({E1:=(gt p_.Escrow p12.1).E1,E2:=(gt p_.Escrow p12.1).E2,Proof:=({A:=x16,C:=(gt p_.Escrow p12.1).Proof.C,Z:=x18}:dP)}:bZ)]:List bZ))),rfl,⟨omQ,omQ,omQ⟩,omQ,aB hM hag12⟩
instance (priority:=1008):DRD 3 42 10 [14,15,16,17,18,19,20,21,22,23] [] ([[],[0],[0,1],[],[3],[3,4],[],[6],[5,6,7],[]]++[List.range 10,List.range 11,List.range 12,List.range 13,List.range 14]) []:=⟨trivial⟩
instance (priority:=1009):DRD 8 42 5 [33,34,35,36,37] [] ([[],[0],[],[2],[2,3]]++[List.range 5,List.range 6,List.range 7]) []:=⟨trivial⟩
set_option maxHeartbeats 2000000 in
set_option maxRecDepth 100000 in
theorem zC (m:aD) (hp0:m.Queue.length≤1000):CM En (kp m) 37 [(bJ m)] (fun y=> .agg (.int .u8 (gt y.Name 0):: .int .u8 (gt y.Name 1):: .int .u8 (gt y.Name 2):: .int .u8 (gt y.Name 3):: .int .u8 (gt y.Name 4):: .int .u8 (gt y.Name 5):: .int .u8 (gt y.Name 6):: .int .u8 (gt y.Name 7):: .int .u8 (gt y.Name 8):: .int .u8 (gt y.Name 9):: .int .u8 (gt y.Name 10):: .int .u8 (gt y.Name 11):: .int .u8 (gt y.Name 12):: .int .u8 (gt y.Name 13):: .int .u8 (gt y.Name 14):: .int .u8 (gt y.Name 15):: .int .u8 (gt y.Name 16):: .int .u8 (gt y.Name 17):: .int .u8 (gt y.Name 18):: .int .u8 (gt y.Name 19):: .int .u8 (gt y.Name 20):: .int .u8 (gt y.Name 21):: .int .u8 (gt y.Name 22):: .int .u8 (gt y.Name 23):: .int .u8 (gt y.Name 24):: .int .u8 (gt y.Name 25):: .int .u8 (gt y.Name 26):: .int .u8 (gt y.Name 27):: .int .u8 (gt y.Name 28):: .int .u8 (gt y.Name 29):: .int .u8 (gt y.Name 30):: .int .u8 (gt y.Name 31):: .sl none 3 true (y.Policy.Rules.map ct):: .own 0:: .int .i64 y.Next:: .own 1:: .own 2:: .int .i64 y.Total:: .own 3:: .int .i64 y.Now::[])) (fun y=> [.own 50 35 true none (y.Open.map aZ),.own 41 4 true none (y.Queue.map bw),.own 50 35 true none (y.Paid.map aZ),.own 3 1 false none (y.Blocked.map (V.int .i64))]):=by
 refine enQ noJ Tryz.func37 Tryz.ntmps37 (kp.eq_1 ..) fun r hw=> ?_
 intro hF hM
 replace hM:=aw hM;obtain ⟨x1,hx2,hM⟩:=hM
 have hcx1:=D5 none (m.Policy.Rules)
 rw [←hx2] at hcx1
 refine aP hcx1 clQ clQ (fun hw3=> ?_)
 replace hw3:=nzQ hw3
 revert hM;revert hF
 refine slQ ?_
 intro hF hM
 replace hM:=aw hM;obtain ⟨x4,hx5,hM⟩:=hM
 have hcx4:=D6 none (m.Open)
 rw [←hx5] at hcx4
 refine sE hcx4 clQ clQ ?_
 revert hM;revert hF
 refine slQ ?_
 intro hF hM
 replace hM:=aw hM;obtain ⟨x6,hx7,hM⟩:=hM
 have hcx6:=D6 none (m.Paid)
 rw [←hx7] at hcx6
 refine sE hcx6 clQ clQ ?_
 revert hM;revert hF
 refine slQ ?_
 intro hF hM
 replace hM:=aw hM;obtain ⟨x8,hx9,hM⟩:=hM
 have hcx8:=zB none (m.Blocked)
 rw [←hx9] at hcx8
 refine sE hcx8 clQ clQ ?_
 revert hM;revert hF
 refine slQ ?_
 intro hF hM
 replace hM:=aF hM;obtain ⟨f10,d10,hf10,hd10,hM⟩:=hM
 refine dZ (fun n S=> ∃p:Int×List aK,S=(⟨[(1,.ptr 0 0),(2,.ptr 1 0),(27,.sl none 4 true (m.Queue.map bw)),(28,.int .i64 (m.Queue.length:Int)),(29,.int .i64 p.1)],[(0,.var 40 true (.agg (.int .u8 (gt m.Name 0):: .int .u8 (gt m.Name 1):: .int .u8 (gt m.Name 2):: .int .u8 (gt m.Name 3):: .int .u8 (gt m.Name 4):: .int .u8 (gt m.Name 5):: .int .u8 (gt m.Name 6):: .int .u8 (gt m.Name 7):: .int .u8 (gt m.Name 8):: .int .u8 (gt m.Name 9):: .int .u8 (gt m.Name 10):: .int .u8 (gt m.Name 11):: .int .u8 (gt m.Name 12):: .int .u8 (gt m.Name 13):: .int .u8 (gt m.Name 14):: .int .u8 (gt m.Name 15):: .int .u8 (gt m.Name 16):: .int .u8 (gt m.Name 17):: .int .u8 (gt m.Name 18):: .int .u8 (gt m.Name 19):: .int .u8 (gt m.Name 20):: .int .u8 (gt m.Name 21):: .int .u8 (gt m.Name 22):: .int .u8 (gt m.Name 23):: .int .u8 (gt m.Name 24):: .int .u8 (gt m.Name 25):: .int .u8 (gt m.Name 26):: .int .u8 (gt m.Name 27):: .int .u8 (gt m.Name 28):: .int .u8 (gt m.Name 29):: .int .u8 (gt m.Name 30):: .int .u8 (gt m.Name 31):: .own 2:: .own 5:: .int .i64 m.Next:: .own 13:: .own 8:: .int .i64 m.Total:: .own 11:: .int .i64 m.Now::[]))),(1,.var 40 true (CU)),(2,.own 83 3 true none (x1.map ct)),(5,.own 50 35 true none (x4.map aZ)),(8,.own 50 35 true none (x6.map aZ)),(11,.own 3 1 false none (x8.map (V.int .i64))),(13,.own 41 4 true none (p.2.map bw))],14⟩:St)∧((0≤p.1)∧(p.1≤(m.Queue.length:Int))∧(((p.2).length:Int)≤p.1))∧((m.Queue.length:Int) - p.1).toNat<n∧ae n f10 d10 p=r) (((m.Queue.length:Int) - 0).toNat+1) _ _ (nh 0 35 41 rfl rfl (by decide)) sbQ sbQ ⟨(0,([]:List aK)),rfl,⟨omQ,omQ,omQ⟩,(Nat.lt_succ_self _),hM⟩ ?_
 clear hM
 rintro n10 S ⟨p10,rfl,hfa10,hm10,hM⟩
 replace hM:=aG hM (by omega) hf10;obtain ⟨ag10,hag10,hM⟩:=hM
 replace hfa10:=nzQ hfa10
 replace hm10:=nzQ hm10
 have ha10:al .i64 p10.1 1=p10.1+1:=aJ omQ omQ
 replace hF:=(And.intro ha10 hF)
 revert hM;revert hF
 refine slQ ?_
 refine cdQ (fun _ _ _=> ?_) (fun _ _ _=> ?_)
 ·refine ax fun x14 _ _ _=> ?_
  intro hF hM
  refine aC (n10 - 1) _ (by omega) sbQ sbQ ⟨((p10.1+1),(p10.2++([x14]:List aK))),rfl,⟨omQ,omQ,omQ⟩,omQ,aB hM hag10⟩
 ·intro hF hM
  subst hM
  exact s8 [5,13,8,11] (bs:=[.own 50 35 true none (x4.map aZ),.own 41 4 true none (p10.2.map bw),.own 50 35 true none (x6.map aZ),.own 3 1 false none (x8.map (V.int .i64))]) (an hF) (by decide) (cr hF)
instance (priority:=1010):DRD 5 79 12 [7,26,27,28,29,30,31,32,33,34,35,36] [] ([[],[0],[],[2],[2,3],[],[5],[0,1,2,3,4,5,6],[0,1,2,3,4,5,6,7],[0,1,2,3,4,5,6,7,8],[0,1,2,3,4,5,6,7,8],[0,1,2,3,4,5,6,7,8,9]]++[List.range 12]) []:=⟨trivial⟩
instance (priority:=1011):DRD 14 79 3 [77,78] [] ([[],[],[0]]++[List.range 3,List.range 4]) [(2,1)]:=⟨trivial⟩
set_option maxHeartbeats 2000000 in
set_option maxRecDepth 100000 in
instance R3 (m:aD) (amount:Int):CM En (pZ m amount) 23 [(bJ m),.int .i64 amount] (fun y=> .tup [(bJ y.1),(aZ y.2.1),.int .i64 y.2.2]) (fun _=> []):=by
 refine enQ noJ Tryz.func23 Tryz.ntmps23 (pZ.eq_1 ..) fun r hw=> ?_
 refine ax fun _ hx2 _ _=> ?_
 have hq5:=zy hx2
 replace hq5:=nzQ hq5
 refine az fun _ _ _=> ?_
 refine aq fun _ _ _=> ?_
 refine az fun _ _ _=> ?_
 refine ax fun _ _ _ _=> ?_
 refine ax fun _ _ _ _=> ?_
 refine aq fun _ _ _=> ?_
 refine az fun _ _ _=> ?_
 refine aq fun _ _ _=> ?_
 refine az fun _ _ _=> ?_
 intro hF hM
 replace hM:=aw hM;obtain ⟨x28,hx29,hM⟩:=hM
 have hcx28:=cmH hx29 (zC m (by (first|omega|exact pfQ)))
 refine aP hcx28 clQ clQ (fun hw30=> ?_)
 replace hw30:=nzQ hw30
 revert hM;revert hF
 refine slQ ?_
 have hq31:=zx hx29
 replace hq31:=nzQ hq31
 exact auR
set_option maxHeartbeats 2000000 in
set_option maxRecDepth 100000 in
instance R4:CM En (kq) 5 [] (fun y=> .bool y) (fun _=> []):=by
 refine enQ noJ Tryz.func5 Tryz.ntmps5 (kq.eq_1 ..) fun r hw=> ?_
 intro hF hM
 replace hM:=aw hM;obtain ⟨x1,hx2,hM⟩:=hM
 have hcx1:=cmU hx2
 refine lD hcx1 (io 0 (T:=83) (n:=3) (g:=true) (z:=(some false)) (l:=([({Kind:=1,A:=50,B:=0}:bW)]:List bW).map ct) clQ) clQ (fun hw3=> ?_)
 replace hw3:=nzQ hw3
 exact auP
set_option maxHeartbeats 2000000 in
set_option maxRecDepth 100000 in
instance R5 (h_:bh):CM En (qa h_) 27 [(bl h_)] (fun y=> .bool y) (fun _=> []):=by
 refine enQ noJ Tryz.func27 Tryz.ntmps27 (qa.eq_1 ..) fun r hw=> ?_
 exact auR
set_option maxHeartbeats 2000000 in
set_option maxRecDepth 100000 in
instance R6 (x_:bZ):CM En (qb x_) 29 [(bQ x_)] (fun y=> .bool y) (fun _=> []):=by
 refine enQ noJ Tryz.func29 Tryz.ntmps29 (qb.eq_1 ..) fun r hw=> ?_
 exact auR
set_option maxHeartbeats 2000000 in
set_option maxRecDepth 100000 in
theorem zD (h_:bh) (hp0:h_.L.length≤1000):CM En (gQ h_) 68 [(bl h_)] (fun y=> .sl none 80 true (y.map aQ)) (fun _=> []):=by
 refine enQ noJ Tryz.func68 Tryz.ntmps68 (gQ.eq_1 ..) fun r hw=> ?_
 exact auR
set_option maxHeartbeats 2000000 in
set_option maxRecDepth 100000 in
theorem D7 (p_:aK) (hp0:okC p_):CM En (l4 p_) 19 [.agg [.int .i64 p_.Number,.sl none 80 true (p_.Spends.map aQ),.sl none 81 true (p_.Chains.map bl),.sl none 5 true (p_.Escrow.map bQ)]] (fun y=> .sl none 80 true (y.map aQ)) (fun _=> []):=by
 refine enQ noJ Tryz.func19 Tryz.ntmps19 (l4.eq_1 ..) fun r hw=> ?_
 intro hF hM
 replace hM:=aF hM;obtain ⟨f1,d1,hf1,hd1,hM⟩:=hM
 refine dZ (fun n S=> ∃p:Int×List au,S=(⟨[(1,.ptr 0 0),(3,.own 1),(4,.int .i64 p.1)],[(0,.var 4 true (bw p_)),(1,.own 71 80 true none (p.2.map aQ))],2⟩:St)∧((0≤p.1)∧(p.1≤(p_.Spends.length:Int))∧(((p.2).length:Int)≤p.1))∧((p_.Spends.length:Int) - p.1).toNat<n∧ae n f1 d1 p=r) (((p_.Spends.length:Int) - 0).toNat+1) _ _ (gI 3 71 rfl (by decide)) sbQ sbQ ⟨(0,([]:List au)),rfl,⟨by (first|exact omQ|(clear hM;first|(have h99:=hp0.1;have h98:=hp0.2.1;exact ao))),by (first|exact omQ|(clear hM;first|(have h99:=hp0.1;have h98:=hp0.2.1;exact ao))),by (first|exact omQ|(clear hM;first|(have h99:=hp0.1;have h98:=hp0.2.1;exact ao)))⟩,(Nat.lt_succ_self _),hM⟩ ?_
 have hG0:=hp0.1
 have hG1:=hp0.2.1
 clear hM
 rintro n1 S ⟨p1,rfl,hfa1,hm1,hM⟩
 replace hM:=aG hM (by omega) hf1;obtain ⟨ag1,hag1,hM⟩:=hM
 replace hfa1:=nzQ hfa1
 replace hm1:=nzQ hm1
 have ha1:al .i64 p1.1 1=p1.1+1:=aJ (by exact omA) (by exact omA)
 replace hF:=(And.intro ha1 hF)
 revert hM;revert hF
 refine slQ ?_
 refine az fun _ _ _=> ?_
 intro hF hM
 replace hM:=aF hM;obtain ⟨f6,d6,hf6,hd6,hM⟩:=hM
 refine aL (fun n S=> ∃p:Int×List au,S=(⟨[(1,.ptr 0 0),(3,.own 1),(5,.int .i64 p.1)],[(0,.var 4 true (bw p_)),(1,.own 71 80 true none (p.2.map aQ))],2⟩:St)∧(((0≤p.1)∧(p.1≤(p_.Chains.length:Int)))∧(((p.2).length:Int)≤60+13*p.1))∧((p_.Chains.length:Int) - p.1).toNat<n∧ae n f6 d6 p=r) (((p_.Chains.length:Int) - 0).toNat+1) _ sbQ sbQ ⟨(0,p1.2),rfl,⟨⟨by (first|exact omQ|(clear hM;first|(have h99:=hp0.1;have h98:=hp0.2.1;exact ao)|(have h99:=hp0.1;have h98:=hp0.2.1;have h97:=(hp0.2.2 _ (bH (l:=p_.Chains) (i:=p6.1) (by omega)));exact ao))),by (first|exact omQ|(clear hM;first|(have h99:=hp0.1;have h98:=hp0.2.1;exact ao)|(have h99:=hp0.1;have h98:=hp0.2.1;have h97:=(hp0.2.2 _ (bH (l:=p_.Chains) (i:=p6.1) (by omega)));exact ao)))⟩,by (have h99:=hp0.1;exact ao)⟩,(Nat.lt_succ_self _),hM⟩ ?_
 clear hM
 rintro n6 S ⟨p6,rfl,⟨hfa6,hF7_0⟩,hm6,hM⟩
 have hG2:=hp0.1
 have hG3:=hp0.2.1
 have hA0:=fun a0=>(hp0.2.2 _ (bH (l:=p_.Chains) (i:=p6.1) a0))
 have hG4:=hp0.1
 have hG5:=hp0.2.1
 have hA1:=fun a0=>(hp0.2.2 _ (bH (l:=p_.Chains) (i:=(p6.1+1)) a0))
 replace hM:=aG hM (by omega) hf6;obtain ⟨ag6,hag6,hM⟩:=hM
 replace hfa6:=nzQ hfa6
 replace hm6:=nzQ hm6
 have ha6:al .i64 p6.1 1=p6.1+1:=aJ (by exact omA) (by exact omA)
 replace hF:=(And.intro ha6 hF)
 revert hM;revert hF
 refine slQ ?_
 refine aq fun _ _ _=> ?_
 intro hF hM
 replace hM:=aw hM;obtain ⟨x10,hx11,hM⟩:=hM
 have hcx10:=cmH hx11 (zD (gt p_.Chains p6.1) (by (have h97:=(hp0.2.2 _ (bH (l:=p_.Chains) (i:=p6.1) (by omega)));omega)))
 refine aP hcx10 (an hF) (an hF) (fun hw12=> ?_)
 replace hw12:=nzQ hw12
 revert hM;revert hF
 refine slQ ?_
 have hq13:=zz hx11
 replace hq13:=nzQ hq13
 intro hF hM
 replace hM:=aF hM;obtain ⟨f14,d14,hf14,hd14,hM⟩:=hM
 refine aL (fun n S=> ∃p:Int×List au,S=(⟨[(1,.ptr 0 0),(3,.own 1),(5,.int .i64 p6.1),(6,.sl none 80 true (x10.map aQ)),(7,.int .i64 p.1)],[(0,.var 4 true (bw p_)),(1,.own 71 80 true none (p.2.map aQ))],2⟩:St)∧((0≤p.1)∧(p.1≤(x10.length:Int))∧(((p.2).length:Int)≤60+13*p6.1+p.1))∧((x10.length:Int) - p.1).toNat<n∧ae n f14 d14 p=r) (((x10.length:Int) - 0).toNat+1) _ sbQ sbQ ⟨(0,p6.2),rfl,⟨by exact omA,by exact omA,by exact omA⟩,(Nat.lt_succ_self _),hM⟩ ?_
 clear hM
 rintro n14 S ⟨p14,rfl,hfa14,hm14,hM⟩
 replace hM:=aG hM (by omega) hf14;obtain ⟨ag14,hag14,hM⟩:=hM
 replace hfa14:=nzQ hfa14
 replace hm14:=nzQ hm14
 have ha14:al .i64 p14.1 1=p14.1+1:=aJ (by exact omA) (by exact omA)
 replace hF:=(And.intro ha14 hF)
 revert hM;revert hF
 refine slQ ?_
 refine az fun _ _ _=> ?_
 intro hF hM
 refine aC (n6 - 1) _ (by omega) sbQ sbQ ⟨((p6.1+1),p14.2),rfl,⟨⟨by exact omA,by exact omA⟩,by (have h97:=(hp0.2.2 _ (bH (l:=p_.Chains) (i:=p6.1) (by omega)));clear hM;exact ao)⟩,by exact omA,aB hM hag6⟩
set_option maxHeartbeats 2000000 in
set_option maxRecDepth 100000 in
instance R7 (s:au):CM En (qc s) 31 [(aQ s)] (fun y=> .bool y) (fun _=> []):=by
 refine enQ noJ Tryz.func31 Tryz.ntmps31 (qc.eq_1 ..) fun r hw=> ?_
 exact auR
set_option maxHeartbeats 2000000 in
set_option maxRecDepth 100000 in
instance R8 (s:(List bh)):CM En (tJ s) 75 [.sl none 81 true (s.map bl),.fn 27 []] (fun y=> .int .i64 y) (fun _=> []):=by
 refine enQ noJ Tryz.func75 Tryz.ntmps75 (tJ.eq_1 ..) fun r hw=> ?_
 intro hF hM
 replace hM:=aF hM;obtain ⟨f1,d1,hf1,hd1,hM⟩:=hM
 refine aL (fun n S=> ∃p:Int,S=(⟨[(0,.sl none 81 true (s.map bl)),(1,.fn 27 []),(7,.int .i64 (s.length:Int)),(8,.int .i64 p)],[],0⟩:St)∧((0≤p)∧(p≤(s.length:Int)))∧((s.length:Int) - p).toNat<n∧ae n f1 d1 p=r) (((s.length:Int) - 0).toNat+1) _ sbQ sbQ ⟨0,rfl,⟨omQ,omQ⟩,(Nat.lt_succ_self _),hM⟩ ?_
 clear hM
 rintro n1 S ⟨p1,rfl,hfa1,hm1,hM⟩
 replace hM:=aG hM (by omega) hf1;obtain ⟨ag1,hag1,hM⟩:=hM
 replace hfa1:=nzQ hfa1
 replace hm1:=nzQ hm1
 have ha1:al .i64 p1 1=p1+1:=aJ omQ omQ
 replace hF:=(And.intro ha1 hF)
 revert hM;revert hF
 refine slQ ?_
 refine aq fun _ _ _=> ?_
 refine ax fun _ _ _ _=> ?_
 refine az fun _ _ _=> ?_
 intro hF hM
 refine aC (n1 - 1) _ (by omega) sbQ sbQ ⟨(p1+1),rfl,⟨omQ,omQ⟩,omQ,aB hM hag1⟩
set_option maxHeartbeats 2000000 in
set_option maxRecDepth 100000 in
instance R9 (s:(List bh)):CM En (kr s) 26 [.sl none 81 true (s.map bl),.fn 27 []] (fun y=> .bool y) (fun _=> []):=by
 refine enQ noJ Tryz.func26 Tryz.ntmps26 (kr.eq_1 ..) fun r hw=> ?_
 exact auR
set_option maxHeartbeats 2000000 in
set_option maxRecDepth 100000 in
instance R_ (s:(List bZ)):CM En (tK s) 76 [.sl none 5 true (s.map bQ),.fn 29 []] (fun y=> .int .i64 y) (fun _=> []):=by
 refine enQ noJ Tryz.func76 Tryz.ntmps76 (tK.eq_1 ..) fun r hw=> ?_
 intro hF hM
 replace hM:=aF hM;obtain ⟨f1,d1,hf1,hd1,hM⟩:=hM
 refine aL (fun n S=> ∃p:Int,S=(⟨[(0,.sl none 5 true (s.map bQ)),(1,.fn 29 []),(7,.int .i64 (s.length:Int)),(8,.int .i64 p)],[],0⟩:St)∧((0≤p)∧(p≤(s.length:Int)))∧((s.length:Int) - p).toNat<n∧ae n f1 d1 p=r) (((s.length:Int) - 0).toNat+1) _ sbQ sbQ ⟨0,rfl,⟨omQ,omQ⟩,(Nat.lt_succ_self _),hM⟩ ?_
 clear hM
 rintro n1 S ⟨p1,rfl,hfa1,hm1,hM⟩
 replace hM:=aG hM (by omega) hf1;obtain ⟨ag1,hag1,hM⟩:=hM
 replace hfa1:=nzQ hfa1
 replace hm1:=nzQ hm1
 have ha1:al .i64 p1 1=p1+1:=aJ omQ omQ
 replace hF:=(And.intro ha1 hF)
 revert hM;revert hF
 refine slQ ?_
 refine aq fun _ _ _=> ?_
 refine ax fun _ _ _ _=> ?_
 refine az fun _ _ _=> ?_
 intro hF hM
 refine aC (n1 - 1) _ (by omega) sbQ sbQ ⟨(p1+1),rfl,⟨omQ,omQ⟩,omQ,aB hM hag1⟩
set_option maxHeartbeats 2000000 in
set_option maxRecDepth 100000 in
instance Sa (s:(List bZ)):CM En (qd s) 28 [.sl none 5 true (s.map bQ),.fn 29 []] (fun y=> .bool y) (fun _=> []):=by
 refine enQ noJ Tryz.func28 Tryz.ntmps28 (qd.eq_1 ..) fun r hw=> ?_
 exact auR
set_option maxHeartbeats 2000000 in
set_option maxRecDepth 100000 in
instance Sb (s:(List au)):CM En (tL s) 77 [.sl none 80 true (s.map aQ),.fn 31 []] (fun y=> .int .i64 y) (fun _=> []):=by
 refine enQ noJ Tryz.func77 Tryz.ntmps77 (tL.eq_1 ..) fun r hw=> ?_
 intro hF hM
 replace hM:=aF hM;obtain ⟨f1,d1,hf1,hd1,hM⟩:=hM
 refine aL (fun n S=> ∃p:Int,S=(⟨[(0,.sl none 80 true (s.map aQ)),(1,.fn 31 []),(7,.int .i64 (s.length:Int)),(8,.int .i64 p)],[],0⟩:St)∧((0≤p)∧(p≤(s.length:Int)))∧((s.length:Int) - p).toNat<n∧ae n f1 d1 p=r) (((s.length:Int) - 0).toNat+1) _ sbQ sbQ ⟨0,rfl,⟨omQ,omQ⟩,(Nat.lt_succ_self _),hM⟩ ?_
 clear hM
 rintro n1 S ⟨p1,rfl,hfa1,hm1,hM⟩
 replace hM:=aG hM (by omega) hf1;obtain ⟨ag1,hag1,hM⟩:=hM
 replace hfa1:=nzQ hfa1
 replace hm1:=nzQ hm1
 have ha1:al .i64 p1 1=p1+1:=aJ omQ omQ
 replace hF:=(And.intro ha1 hF)
 revert hM;revert hF
 refine slQ ?_
 refine aq fun _ _ _=> ?_
 refine ax fun _ _ _ _=> ?_
 refine az fun _ _ _=> ?_
 intro hF hM
 refine aC (n1 - 1) _ (by omega) sbQ sbQ ⟨(p1+1),rfl,⟨omQ,omQ⟩,omQ,aB hM hag1⟩
set_option maxHeartbeats 2000000 in
set_option maxRecDepth 100000 in
instance Sc (s:(List au)):CM En (qe s) 30 [.sl none 80 true (s.map aQ),.fn 31 []] (fun y=> .bool y) (fun _=> []):=by
 refine enQ noJ Tryz.func30 Tryz.ntmps30 (qe.eq_1 ..) fun r hw=> ?_
 exact auR
set_option maxHeartbeats 2000000 in
set_option maxRecDepth 100000 in
instance Sd (p_:aK):CM En (kt p_) 7 [.agg [.int .i64 p_.Number,.sl none 80 true (p_.Spends.map aQ),.sl none 81 true (p_.Chains.map bl),.sl none 5 true (p_.Escrow.map bQ)]] (fun y=> .bool y) (fun _=> []):=by
 refine enQ noJ Tryz.func7 Tryz.ntmps7 (kt.eq_1 ..) fun r hw=> ?_
 refine aq fun _ _ _=> ?_
 refine aq fun _ _ _=> ?_
 refine aq fun _ _ _=> ?_
 refine ax fun _ _ _ _=> ?_
 refine az fun _ _ _=> ?_
 refine ax fun _ _ _ _=> ?_
 refine az fun _ _ _=> ?_
 intro hF hM
 replace hM:=aw hM;obtain ⟨x15,hx16,hM⟩:=hM
 have hcx15:=cmH hx16 (D7 p_ (by (exact MI ‹_=kr _› (by first|exact hF.1|exact hF.2.1|exact hF.2.2.1) (by omega) (by omega))))
 refine aP hcx15 clQ clQ (fun hw17=> ?_)
 replace hw17:=nzQ hw17
 exact auP
set_option maxHeartbeats 2000000 in
set_option maxRecDepth 100000 in
instance Se (p_:aK):CM En (qf p_) 25 [.agg [.int .i64 p_.Number,.sl none 80 true (p_.Spends.map aQ),.sl none 81 true (p_.Chains.map bl),.sl none 5 true (p_.Escrow.map bQ)]] (fun y=> .bool y) (fun _=> []):=by
 refine enQ noJ Tryz.func25 Tryz.ntmps25 (qf.eq_1 ..) fun r hw=> ?_
 exact auR
set_option maxHeartbeats 2000000 in
set_option maxRecDepth 100000 in
instance Sf (s:(List aK)):CM En (tM s) 74 [.sl none 4 true (s.map bw),.fn 25 []] (fun y=> .int .i64 y) (fun _=> []):=by
 refine enQ noJ Tryz.func74 Tryz.ntmps74 (tM.eq_1 ..) fun r hw=> ?_
 intro hF hM
 replace hM:=aF hM;obtain ⟨f1,d1,hf1,hd1,hM⟩:=hM
 refine aL (fun n S=> ∃p:Int,S=(⟨[(0,.sl none 4 true (s.map bw)),(1,.fn 25 []),(7,.int .i64 (s.length:Int)),(8,.int .i64 p)],[],0⟩:St)∧((0≤p)∧(p≤(s.length:Int)))∧((s.length:Int) - p).toNat<n∧ae n f1 d1 p=r) (((s.length:Int) - 0).toNat+1) _ sbQ sbQ ⟨0,rfl,⟨omQ,omQ⟩,(Nat.lt_succ_self _),hM⟩ ?_
 clear hM
 rintro n1 S ⟨p1,rfl,hfa1,hm1,hM⟩
 replace hM:=aG hM (by omega) hf1;obtain ⟨ag1,hag1,hM⟩:=hM
 replace hfa1:=nzQ hfa1
 replace hm1:=nzQ hm1
 have ha1:al .i64 p1 1=p1+1:=aJ omQ omQ
 replace hF:=(And.intro ha1 hF)
 revert hM;revert hF
 refine slQ ?_
 refine aq fun _ _ _=> ?_
 refine ax fun _ _ _ _=> ?_
 refine az fun _ _ _=> ?_
 intro hF hM
 refine aC (n1 - 1) _ (by omega) sbQ sbQ ⟨(p1+1),rfl,⟨omQ,omQ⟩,omQ,aB hM hag1⟩
set_option maxHeartbeats 2000000 in
set_option maxRecDepth 100000 in
instance Sg (s:(List aK)):CM En (qg s) 24 [.sl none 4 true (s.map bw),.fn 25 []] (fun y=> .bool y) (fun _=> []):=by
 refine enQ noJ Tryz.func24 Tryz.ntmps24 (qg.eq_1 ..) fun r hw=> ?_
 exact auR
set_option maxHeartbeats 2000000 in
set_option maxRecDepth 100000 in
instance Sh (m:aD):CM En (l5 m) 6 [(bJ m)] (fun y=> .bool y) (fun _=> []):=by
 refine enQ noJ Tryz.func6 Tryz.ntmps6 (l5.eq_1 ..) fun r hw=> ?_
 exact auR
set_option maxHeartbeats 2000000 in
set_option maxRecDepth 100000 in
instance Si (v:aN) (c0:aK):CM En (ku v c0) 32 [(aZ v),.pp 4 true (.agg [.int .i64 c0.Number,.sl none 80 true (c0.Spends.map aQ),.sl none 81 true (c0.Chains.map bl),.sl none 5 true (c0.Escrow.map bQ)])] (fun y=> .bool y) (fun _=> []):=by
 refine enQ noJ Tryz.func32 Tryz.ntmps32 (ku.eq_1 ..) fun r hw=> ?_
 exact auR
set_option maxHeartbeats 2000000 in
set_option maxRecDepth 100000 in
instance Sj (x_:Int) (low:Int) (high:Int):CM En (qh x_ low high) 119 [.int .i64 x_,.int .i64 low,.int .i64 high] (fun y=> .bool y) (fun _=> []):=by
 refine enQ noJ Tryz.func119 Tryz.ntmps119 (qh.eq_1 ..) fun r hw=> ?_
 exact auR
set_option maxHeartbeats 2000000 in
set_option maxRecDepth 100000 in
instance Sk (bank:Int) (epoch:Int) (from_:Int) (until_:Int) (final:Int):CM En (xU bank epoch from_ until_ final) 118 [.int .i64 bank,.int .i64 epoch,.int .i64 from_,.int .i64 until_,.int .i64 final] (fun y=> .bool y) (fun _=> []):=by
 refine enQ noJ Tryz.func118 Tryz.ntmps118 (xU.eq_1 ..) fun r hw=> ?_
 exact auR
instance (priority:=1012):DRD 3 33 24 [6,7,8,9,10,11,12,13,14,15,16,17,18,19,20,21,22,23,24,25,26,27,28,29] [] ([[],[0],[0,1],[0,1,2],[0,1,2,3],[0,1,2,3,4],[0,1,2,3,4,5],[0,1,2,3,4,5,6],[0,1,2,3,4,5,6,7],[0,1,2,3,4,5,6,7,8],[0,1,2,3,4,5,6,7,8,9],[0,1,2,3,4,5,6,7,8,9,10],[0,1,2,3,4,5,6,7,8,9,10,11],[0,1,2,3,4,5,6,7,8,9,10,11,12],[0,1,2,3,4,5,6,7,8,9,10,11,12,13],[0,1,2,3,4,5,6,7,8,9,10,11,12,13,14],[0,1,2,3,4,5,6,7,8,9,10,11,12,13,14,15],[0,1,2,3,4,5,6,7,8,9,10,11,12,13,14,15,16],[0,1,2,3,4,5,6,7,8,9,10,11,12,13,14,15,16,17],[0,1,2,3,4,5,6,7,8,9,10,11,12,13,14,15,16,17,18],[0,1,2,3,4,5,6,7,8,9,10,11,12,13,14,15,16,17,18,19],[0,1,2,3,4,5,6,7,8,9,10,11,12,13,14,15,16,17,18],[0,1,2,3,4,5,6,7,8,9,10,11,12,13,14,15,16,17,18,21],[0,1,2,3,4,5,6,7,8,9,10,11,12,13,14,15,16,17,18,21,22]]++[List.range 24,List.range 25,List.range 26,List.range 27]) []:=⟨trivial⟩
set_option maxHeartbeats 2000000 in
set_option maxRecDepth 100000 in
instance Sl (d_:fo):CM En (l6 d_) 144 [.agg [.int .i64 d_.Value,.int .i64 d_.Depth]] (fun y=> .bool y) (fun _=> []):=by
 refine enQ noJ Tryz.func144 Tryz.ntmps144 (l6.eq_1 ..) fun r hw=> ?_
 intro hF hM
 refine bY (fun h1=> ?_) (fun h1=> ?_)
 ·have kh1:(pM d_ lR)=true:=h1
  rw [if_pos kh1] at hM
  replace hF:=(And.intro h1 hF)
  revert hM;revert hF
  refine slQ ?_
  intro hF hM
  have nh1:=nzQ kh1
  try have hr2:=mpQ nh1
  exact auQ
 ·have kh1:(pM d_ lR)=false:=h1
  rw [if_neg (bX kh1)] at hM
  replace hF:=(And.intro h1 hF)
  revert hM;revert hF
  refine slQ ?_
  intro hF hM
  have nh1:=nzQ kh1
  try have hr3:=mpQ nh1
  revert hM;revert hF
  refine slQ ?_
  refine aq fun _ _ _=> ?_
  refine aq fun _ _ _=> ?_
  refine aq fun _ _ _=> ?_
  refine aq fun _ _ _=> ?_
  intro hF hM
  try refine bA (by (clear hM;simp only [decide_eq_true_eq] at*;rcases (show d_.Depth=0∨d_.Depth=1∨d_.Depth=2∨d_.Depth=3∨d_.Depth=4∨d_.Depth=5 by omega) with h|h|h|h|h|h<;>rw [h]<;>decide)) ?_
  exact auP
instance (priority:=1013):DRD 8 59 31 [23,24,25,26,27,28,29,30,31,32,33,34,35,36,37,38,39,40,41,42,43,44,45,46,47,48,49,50,51,52,53] [] ([[],[0],[0,1],[0,1,2],[0,1,2,3],[0,1,2],[0,1,2],[0,1,2,6],[0,1,2,5,6,7],[0,1,2,5,6,7,8],[0,1,2,5,6,7,8,9],[0,1,2,3,4,5,6,7,8,9,10],[0,1,2,3,4,5,6,7,8,9,10,11],[0,1,2,3,4,5,6,7,8,9,10,11,12],[0,1,2,3,4,5,6,7,8,9,10,11,12,13],[0,1,2,3,4,5,6,7,8,9,10,11,12],[0,1,2,3,4,5,6,7,8,9,10,11,12],[0,1,2,3,4,5,6,7,8,9,10,11,12,16],[0,1,2,3,4,5,6,7,8,9,10,11,12,15,16,17],[0,1,2,3,4,5,6,7,8,9,10,11,12,15,16,17,18],[0,1,2,3,4,5,6,7,8,9,10,11,12,15,16,17,18,19],[0,1,2,3,4,5,6,7,8,9,10,11,12,13,14,15,16,17,18,19,20],[0,1,2,3,4,5,6,7,8,9,10,11,12,13,14,15,16,17,18,19,20,21],[0,1,2,3,4,5,6,7,8,9,10,11,12,13,14,15,16,17,18,19,20,21,22],[0,1,2,3,4,5,6,7,8,9,10,11,12,13,14,15,16,17,18,19,20,21,22,23],[0,1,2,3,4,5,6,7,8,9,10,11,12,13,14,15,16,17,18,19,20,21,22],[0,1,2,3,4,5,6,7,8,9,10,11,12,13,14,15,16,17,18,19,20,21,22],[0,1,2,3,4,5,6,7,8,9,10,11,12,13,14,15,16,17,18,19,20,21,22,26],[0,1,2,3,4,5,6,7,8,9,10,11,12,13,14,15,16,17,18,19,20,21,22,25,26,27],[0,1,2,3,4,5,6,7,8,9,10,11,12,13,14,15,16,17,18,19,20,21,22,25,26,27,28],[0,1,2,3,4,5,6,7,8,9,10,11,12,13,14,15,16,17,18,19,20,21,22,25,26,27,28,29]]++[List.range 31,List.range 32,List.range 33,List.range 34]) []:=⟨trivial⟩
set_option maxHeartbeats 2000000 in
set_option maxRecDepth 100000 in
instance Sm (l:(List fo)):CM En (nF l) 120 [.sl none 2 true (l.map tr)] (fun y=> .bool y) (fun _=> []):=by
 refine enQ noJ Tryz.func120 Tryz.ntmps120 (nF.eq_1 ..) fun r hw=> ?_
 refine aq fun _ _ _=> ?_
 refine az fun _ _ _=> ?_
 intro hF hM
 replace hM:=aF hM;obtain ⟨f6,d6,hf6,hd6,hM⟩:=hM
 refine aL (fun n S=> ∃p:Int,S=(⟨[(0,.sl none 2 true (l.map tr)),(13,.sl none 2 true (l.map tr)),(14,.int .i64 (l.length:Int)),(15,.int .i64 p)],[],0⟩:St)∧((0≤p)∧(p≤(l.length:Int)))∧((l.length:Int) - p).toNat<n∧ae n f6 d6 p=r) (((l.length:Int) - 0).toNat+1) _ sbQ sbQ ⟨0,rfl,⟨omQ,omQ⟩,(Nat.lt_succ_self _),hM⟩ ?_
 clear hM
 rintro n6 S ⟨p6,rfl,hfa6,hm6,hM⟩
 replace hM:=aG hM (by omega) hf6;obtain ⟨ag6,hag6,hM⟩:=hM
 replace hfa6:=nzQ hfa6
 replace hm6:=nzQ hm6
 have ha6:al .i64 p6 1=p6+1:=aJ omQ omQ
 replace hF:=(And.intro ha6 hF)
 revert hM;revert hF
 refine slQ ?_
 refine aq fun _ _ _=> ?_
 refine ax fun _ _ _ _=> ?_
 refine az fun _ _ _=> ?_
 refine cdQ (fun _ _ _=> ?_) (fun _ _ _=> ?_)
 ·have ha18:aA .i64 p6 1=(p6 - 1):=du ao ao
  intro hF hM
  try simp only [ha18]
  replace hF:=(And.intro ha18 hF)
  revert hM;revert hF
  refine slQ ?_
  refine aq fun _ _ _=> ?_
  refine cdQ (fun _ _ _=> ?_) (fun _ _ _=> ?_)
  ·refine az fun _ _ _=> ?_
   intro hF hM
   refine aC (n6 - 1) _ (by omega) sbQ sbQ ⟨(p6+1),rfl,⟨omQ,omQ⟩,omQ,aB hM hag6⟩
  ·intro hF hM
   refine aC (n6 - 1) _ (by omega) sbQ sbQ ⟨(p6+1),rfl,⟨omQ,omQ⟩,omQ,aB hM hag6⟩
 ·intro hF hM
  refine aC (n6 - 1) _ (by omega) sbQ sbQ ⟨(p6+1),rfl,⟨omQ,omQ⟩,omQ,aB hM hag6⟩
set_option maxHeartbeats 2000000 in
set_option maxRecDepth 100000 in
instance Sn (x_:Int):CM En (qi x_) 177 [.int .u64 x_] (fun y=> .int .i64 y) (fun _=> []):=by
 refine cmQ fun r hM=> ?_
 rw [qi.eq_1] at hM
 refine ci aV bP noJ Tryz.func177 rfl Tryz.ntmps177 (by kernel_rfl) fun hw=>bR ?_
 refine spQ ?_
 replace hw:=nzQ hw
 have h0_0:=Dd (x:=bD .u64 x_ (jB .u64 x_))
 refine bY (fun h1=> ?_) (fun h1=> ?_)
 ·rw [if_pos h1] at hM
  refine ap h1 ?_
  subst hM
  exact b9 (cr h1)
 ·rw [if_neg (bX h1)] at hM
  refine ap h1 ?_
  have nh1:=nzQ h1
  try have hr3:=mpQ nh1
  refine bA omQ ?_
  have he4:=pO (f:=V.int .u8) (l:=j5) (n:=64) (i:=(ar .u64 (aS .u64 (bD .u64 x_ (jB .u64 x_)) 285870213051353865) 58)) rfl omQ
  replace he4:=spR he4
  refine ap he4 ?_
  subst hM
  exact b9 (cr (And.intro he4 h1))
set_option maxHeartbeats 2000000 in
set_option maxRecDepth 100000 in
instance So (x_:Int) (y:Int):CM En (kv x_ y) 217 [.int .u64 x_,.int .u64 y] (fun y=> .tup [.int .u64 y.1,.int .u64 y.2]) (fun _=> []):=by
 refine enQ noJ Tryz.func217 Tryz.ntmps217 (kv.eq_1 ..) fun r hw=> ?_
 exact auR
set_option maxHeartbeats 2000000 in
set_option maxRecDepth 100000 in
instance Sp (x_:Int):CM En (l7 x_) 246 [.int .u64 x_] (fun y=> .int .i64 y) (fun _=> []):=by
 refine enQ noJ Tryz.func246 Tryz.ntmps246 (l7.eq_1 ..) fun r hw=> ?_
 exact auR
instance (priority:=1014):DRD 6 135 7 [6,28,29,30,31,32,33] [] ([[],[],[0,1],[],[],[3,4],[0,1,2]]++[List.range 7]) []:=⟨trivial⟩
set_option maxHeartbeats 2000000 in
set_option maxRecDepth 100000 in
theorem D8 (hi:Int) (lo:Int) (y:Int) (hp0:hi<y):CM En (nG hi lo y) 218 [.int .u64 hi,.int .u64 lo,.int .u64 y] (fun y=> .tup [.int .u64 y.1,.int .u64 y.2]) (fun _=> []):=by
 refine enQ [21,28] Tryz.func218 Tryz.ntmps218 (nG.eq_1 ..) fun r hw=> ?_
 refine cdQ (fun _ _ _=> ?_) (fun _ _ _=> ?_)
 ·intro hF hM
  exact False.elim omQ
 ·refine cdQ (fun _ _ _=> ?_) (fun _ _ _=> ?_)
  ·intro hF hM
   exact False.elim omQ
  ·refine az fun _ _ _=> ?_
   refine ax fun x10 hx11 _ _=> ?_
   have hq13:=KZ hx11 (by omega) (by omega)
   replace hq13:=nzQ hq13
   intro hF hM
   try refine bA (by (exact m8 _)) ?_
   revert hM;revert hF
   refine slQ ?_
   intro hF hM
   try refine bA (by (exact m8 _)) ?_
   revert hM;revert hF
   refine slQ ?_
   intro hF hM
   try refine bA (by (exact (oJ .u64 _ _).1)) ?_
   revert hM;revert hF
   refine slQ ?_
   intro hF hM
   try refine bA (by (exact m8 _)) ?_
   revert hM;revert hF
   refine slQ ?_
   intro hF hM
   replace hM:=xg hM;obtain ⟨j14,hj14,hM⟩:=hM
   refine xd (fun S=> ∃p:Int,S=(⟨[(2,.int .u64 (ay .u64 y (ah .u64 x10))),(8,.int .u64 (ah .u64 x10)),(9,.int .u64 (ar .u64 (ay .u64 y (ah .u64 x10)) 32)),(10,.int .u64 (bD .u64 (ay .u64 y (ah .u64 x10)) 4294967295)),(11,.int .u64 (orI .u64 (ay .u64 hi (ah .u64 x10)) (ar .u64 lo (aA .u64 64 (ah .u64 x10))))),(13,.int .u64 (ar .u64 (ay .u64 lo (ah .u64 x10)) 32)),(14,.int .u64 (bD .u64 (ay .u64 lo (ah .u64 x10)) 4294967295)),(15,.int .u64 p)],[],0⟩:St)∧(True)∧j14 p=r) ?_ (fun hcut14=> ?_)
   ·clear hM
    rintro S ⟨p14,rfl,hfa14,hM⟩
    replace hM:=sX hM hj14
    revert hM;revert hF
    refine slQ ?_
    intro hF hM
    replace hM:=xg hM;obtain ⟨j15,hj15,hM⟩:=hM
    refine xd (fun S=> ∃p:Int,S=(⟨[(2,.int .u64 (ay .u64 y (ah .u64 x10))),(8,.int .u64 (ah .u64 x10)),(14,.int .u64 (bD .u64 (ay .u64 lo (ah .u64 x10)) 4294967295)),(15,.int .u64 p14),(17,.int .u64 (aA .u64 (al .u64 (aS .u64 (orI .u64 (ay .u64 hi (ah .u64 x10)) (ar .u64 lo (aA .u64 64 (ah .u64 x10)))) 4294967296) (ar .u64 (ay .u64 lo (ah .u64 x10)) 32)) (aS .u64 p14 (ay .u64 y (ah .u64 x10))))),(18,.int .u64 p)],[],0⟩:St)∧(True)∧j15 p=r) ?_ (fun hcut15=> ?_)
    ·clear hM
     rintro S ⟨p15,rfl,hfa15,hM⟩
     replace hM:=sX hM hj15
     revert hM;revert hF
     refine slQ ?_
     intro hF hM
     try refine bA (by (exact m8 _)) ?_
     exact auP
    ·revert hM;revert hF
     refine slQ ?_
     intro hF hM
     replace hM:=aF hM;obtain ⟨f16,d16,hf16,hd16,hM⟩:=hM
     refine aL (fun n S=> ∃p:Int×Int,S=(⟨[(2,.int .u64 (ay .u64 y (ah .u64 x10))),(8,.int .u64 (ah .u64 x10)),(9,.int .u64 (ar .u64 (ay .u64 y (ah .u64 x10)) 32)),(10,.int .u64 (bD .u64 (ay .u64 y (ah .u64 x10)) 4294967295)),(14,.int .u64 (bD .u64 (ay .u64 lo (ah .u64 x10)) 4294967295)),(15,.int .u64 p14),(16,.int .u64 p.1),(17,.int .u64 (aA .u64 (al .u64 (aS .u64 (orI .u64 (ay .u64 hi (ah .u64 x10)) (ar .u64 lo (aA .u64 64 (ah .u64 x10)))) 4294967296) (ar .u64 (ay .u64 lo (ah .u64 x10)) 32)) (aS .u64 p14 (ay .u64 y (ah .u64 x10))))),(18,.int .u64 p.2)],[],0⟩:St)∧((0≤p.1∧p.1≤4294967295))∧(4294967296 - p.1).toNat<n∧ae n f16 d16 p=r) ((4294967296 - (aA .u64 (aA .u64 (al .u64 (aS .u64 (orI .u64 (ay .u64 hi (ah .u64 x10)) (ar .u64 lo (aA .u64 64 (ah .u64 x10)))) 4294967296) (ar .u64 (ay .u64 lo (ah .u64 x10)) 32)) (aS .u64 p14 (ay .u64 y (ah .u64 x10)))) (aS .u64 (cm .u64 (aA .u64 (al .u64 (aS .u64 (orI .u64 (ay .u64 hi (ah .u64 x10)) (ar .u64 lo (aA .u64 64 (ah .u64 x10)))) 4294967296) (ar .u64 (ay .u64 lo (ah .u64 x10)) 32)) (aS .u64 p14 (ay .u64 y (ah .u64 x10)))) (ar .u64 (ay .u64 y (ah .u64 x10)) 32)) (ar .u64 (ay .u64 y (ah .u64 x10)) 32)))).toNat+1) _ sbQ sbQ ⟨((aA .u64 (aA .u64 (al .u64 (aS .u64 (orI .u64 (ay .u64 hi (ah .u64 x10)) (ar .u64 lo (aA .u64 64 (ah .u64 x10)))) 4294967296) (ar .u64 (ay .u64 lo (ah .u64 x10)) 32)) (aS .u64 p14 (ay .u64 y (ah .u64 x10)))) (aS .u64 (cm .u64 (aA .u64 (al .u64 (aS .u64 (orI .u64 (ay .u64 hi (ah .u64 x10)) (ar .u64 lo (aA .u64 64 (ah .u64 x10)))) 4294967296) (ar .u64 (ay .u64 lo (ah .u64 x10)) 32)) (aS .u64 p14 (ay .u64 y (ah .u64 x10)))) (ar .u64 (ay .u64 y (ah .u64 x10)) 32)) (ar .u64 (ay .u64 y (ah .u64 x10)) 32))),(cm .u64 (aA .u64 (al .u64 (aS .u64 (orI .u64 (ay .u64 hi (ah .u64 x10)) (ar .u64 lo (aA .u64 64 (ah .u64 x10)))) 4294967296) (ar .u64 (ay .u64 lo (ah .u64 x10)) 32)) (aS .u64 p14 (ay .u64 y (ah .u64 x10)))) (ar .u64 (ay .u64 y (ah .u64 x10)) 32))),rfl,by (exact Dm (Lc _ _) (by omega) (by omega)),(Nat.lt_succ_self _),hM⟩ ?_
     clear hM
     rintro n16 S ⟨p16,rfl,hF24_0,hm16,hM⟩
     replace hM:=aG hM (by omega) hf16;obtain ⟨ag16,hag16,hM⟩:=hM
     replace hm16:=nzQ hm16
     revert hM;revert hF
     refine slQ ?_
     refine cdQ (fun _ _ _=> ?_) (fun _ _ _=> ?_)
     ·refine cdQ (fun _ _ _=> ?_) (fun _ _ _=> ?_)
      ·refine cdQ (fun _ _ _=> ?_) (fun _ _ _=> ?_)
       ·intro hF hM
        exact jV _ sbQ sbQ (hcut15 _ ⟨(aA .u64 p16.2 1),rfl,trivial,hM⟩)
       ·intro hF hM
        refine aC (n16 - 1) _ (by omega) sbQ sbQ ⟨((al .u64 p16.1 (ar .u64 (ay .u64 y (ah .u64 x10)) 32)),(aA .u64 p16.2 1)),rfl,by (have h9:=kH (a:=p16.1) (b:=(ar .u64 (ay .u64 y (ah .u64 x10)) 32)) (by omega) (by omega) (by omega) (by omega);omega),by (have h9:=kH (a:=p16.1) (b:=(ar .u64 (ay .u64 y (ah .u64 x10)) 32)) (by omega) (by omega) (by omega) (by omega);omega),aB hM hag16⟩
      ·intro hF hM
       exact jV _ sbQ sbQ (hcut15 _ ⟨p16.2,rfl,trivial,hM⟩)
     ·refine cdQ (fun _ _ _=> ?_) (fun _ _ _=> ?_)
      ·intro hF hM
       exact jV _ sbQ sbQ (hcut15 _ ⟨(aA .u64 p16.2 1),rfl,trivial,hM⟩)
      ·intro hF hM
       refine aC (n16 - 1) _ (by omega) sbQ sbQ ⟨((al .u64 p16.1 (ar .u64 (ay .u64 y (ah .u64 x10)) 32)),(aA .u64 p16.2 1)),rfl,by (have h9:=kH (a:=p16.1) (b:=(ar .u64 (ay .u64 y (ah .u64 x10)) 32)) (by omega) (by omega) (by omega) (by omega);omega),by (have h9:=kH (a:=p16.1) (b:=(ar .u64 (ay .u64 y (ah .u64 x10)) 32)) (by omega) (by omega) (by omega) (by omega);omega),aB hM hag16⟩
   ·revert hM;revert hF
    refine slQ ?_
    intro hF hM
    replace hM:=aF hM;obtain ⟨f29,d29,hf29,hd29,hM⟩:=hM
    refine aL (fun n S=> ∃p:Int×Int,S=(⟨[(2,.int .u64 (ay .u64 y (ah .u64 x10))),(8,.int .u64 (ah .u64 x10)),(9,.int .u64 (ar .u64 (ay .u64 y (ah .u64 x10)) 32)),(10,.int .u64 (bD .u64 (ay .u64 y (ah .u64 x10)) 4294967295)),(11,.int .u64 (orI .u64 (ay .u64 hi (ah .u64 x10)) (ar .u64 lo (aA .u64 64 (ah .u64 x10))))),(13,.int .u64 (ar .u64 (ay .u64 lo (ah .u64 x10)) 32)),(14,.int .u64 (bD .u64 (ay .u64 lo (ah .u64 x10)) 4294967295)),(15,.int .u64 p.1),(16,.int .u64 p.2)],[],0⟩:St)∧((0≤p.2∧p.2≤4294967295))∧(4294967296 - p.2).toNat<n∧ae n f29 d29 p=r) ((4294967296 - (aA .u64 (orI .u64 (ay .u64 hi (ah .u64 x10)) (ar .u64 lo (aA .u64 64 (ah .u64 x10)))) (aS .u64 (cm .u64 (orI .u64 (ay .u64 hi (ah .u64 x10)) (ar .u64 lo (aA .u64 64 (ah .u64 x10)))) (ar .u64 (ay .u64 y (ah .u64 x10)) 32)) (ar .u64 (ay .u64 y (ah .u64 x10)) 32)))).toNat+1) _ sbQ sbQ ⟨((cm .u64 (orI .u64 (ay .u64 hi (ah .u64 x10)) (ar .u64 lo (aA .u64 64 (ah .u64 x10)))) (ar .u64 (ay .u64 y (ah .u64 x10)) 32)),(aA .u64 (orI .u64 (ay .u64 hi (ah .u64 x10)) (ar .u64 lo (aA .u64 64 (ah .u64 x10)))) (aS .u64 (cm .u64 (orI .u64 (ay .u64 hi (ah .u64 x10)) (ar .u64 lo (aA .u64 64 (ah .u64 x10)))) (ar .u64 (ay .u64 y (ah .u64 x10)) 32)) (ar .u64 (ay .u64 y (ah .u64 x10)) 32)))),rfl,by (exact Dm (Lb _ _) (by omega) (by omega)),(Nat.lt_succ_self _),hM⟩ ?_
    clear hM
    rintro n29 S ⟨p29,rfl,hF17_0,hm29,hM⟩
    replace hM:=aG hM (by omega) hf29;obtain ⟨ag29,hag29,hM⟩:=hM
    replace hm29:=nzQ hm29
    revert hM;revert hF
    refine slQ ?_
    refine cdQ (fun _ _ _=> ?_) (fun _ _ _=> ?_)
    ·refine cdQ (fun _ _ _=> ?_) (fun _ _ _=> ?_)
     ·refine cdQ (fun _ _ _=> ?_) (fun _ _ _=> ?_)
      ·intro hF hM
       exact jV _ sbQ sbQ (hcut14 _ ⟨(aA .u64 p29.1 1),rfl,trivial,hM⟩)
      ·intro hF hM
       refine aC (n29 - 1) _ (by omega) sbQ sbQ ⟨((aA .u64 p29.1 1),(al .u64 p29.2 (ar .u64 (ay .u64 y (ah .u64 x10)) 32))),rfl,by (have h9:=kH (a:=p29.2) (b:=(ar .u64 (ay .u64 y (ah .u64 x10)) 32)) (by omega) (by omega) (by omega) (by omega);omega),by (have h9:=kH (a:=p29.2) (b:=(ar .u64 (ay .u64 y (ah .u64 x10)) 32)) (by omega) (by omega) (by omega) (by omega);omega),aB hM hag29⟩
     ·intro hF hM
      exact jV _ sbQ sbQ (hcut14 _ ⟨p29.1,rfl,trivial,hM⟩)
    ·refine cdQ (fun _ _ _=> ?_) (fun _ _ _=> ?_)
     ·intro hF hM
      exact jV _ sbQ sbQ (hcut14 _ ⟨(aA .u64 p29.1 1),rfl,trivial,hM⟩)
     ·intro hF hM
      refine aC (n29 - 1) _ (by omega) sbQ sbQ ⟨((aA .u64 p29.1 1),(al .u64 p29.2 (ar .u64 (ay .u64 y (ah .u64 x10)) 32))),rfl,by (have h9:=kH (a:=p29.2) (b:=(ar .u64 (ay .u64 y (ah .u64 x10)) 32)) (by omega) (by omega) (by omega) (by omega);omega),by (have h9:=kH (a:=p29.2) (b:=(ar .u64 (ay .u64 y (ah .u64 x10)) 32)) (by omega) (by omega) (by omega) (by omega);omega),aB hM hag29⟩
set_option maxHeartbeats 2000000 in
set_option maxRecDepth 100000 in
theorem uL (a_:Int) (b:Int) (n_:Int) (hp0:a_<n_):CM En (fH a_ b n_) 215 [.int .u64 a_,.int .u64 b,.int .u64 n_] (fun y=> .int .u64 y) (fun _=> []):=by
 refine enQ noJ Tryz.func215 Tryz.ntmps215 (fH.eq_1 ..) fun r hw=> ?_
 refine ax fun x1 hx2 _ _=> ?_
 have hq4:=Dl n_ hx2 (by omega) (by omega) (by omega) (by omega) (by omega)
 replace hq4:=nzQ hq4
 intro hF hM
 replace hM:=aw hM;obtain ⟨x5,hx6,hM⟩:=hM
 have hcx5:=cmH hx6 (D8 (x1.1) (x1.2) n_ (by (exact pfQ)))
 refine aP hcx5 clQ clQ (fun hw7=> ?_)
 replace hw7:=nzQ hw7
 exact auP
set_option maxHeartbeats 2000000 in
set_option maxRecDepth 100000 in
theorem MO (a_:Int) (e_:Int) (n_:Int) (hp0:a_<n_) (hp1:1<n_):CM En (qj a_ e_ n_) 214 [.int .u64 a_,.int .u64 e_,.int .u64 n_] (fun y=> .int .u64 y) (fun _=> []):=by
 refine enQ noJ Tryz.func214 Tryz.ntmps214 (qj.eq_1 ..) fun r hw=> ?_
 intro hF hM
 replace hM:=aF hM;obtain ⟨f1,d1,hf1,hd1,hM⟩:=hM
 refine aL (fun n S=> ∃p:Int×Int×Int,S=(⟨[(0,.int .u64 p.1),(1,.int .u64 p.2.1),(2,.int .u64 n_),(7,.int .u64 p.2.2)],[],0⟩:St)∧((0≤p.1)∧(p.1<n_)∧(0≤p.2.1)∧(0≤p.2.2)∧(p.2.2<n_))∧p.2.1.toNat<n∧ae n f1 d1 p=r) (e_.toNat+1) _ sbQ sbQ ⟨(a_,e_,1),rfl,⟨omQ,omQ,omQ,omQ,omQ⟩,(Nat.lt_succ_self _),hM⟩ ?_
 clear hM
 rintro n1 S ⟨p1,rfl,hfa1,hm1,hM⟩
 replace hM:=aG hM (by omega) hf1;obtain ⟨ag1,hag1,hM⟩:=hM
 replace hfa1:=nzQ hfa1
 replace hm1:=nzQ hm1
 revert hM;revert hF
 refine slQ ?_
 refine aq fun _ _ _=> ?_
 refine cdQ (fun _ _ _=> ?_) (fun _ _ _=> ?_)
 ·intro hF hM
  replace hM:=aw hM;obtain ⟨x6,hx7,hM⟩:=hM
  have hcx6:=cmH hx7 (uL (p1.2.2) (p1.1) n_ (by (exact pfQ)))
  refine aP hcx6 clQ clQ (fun hw8=> ?_)
  replace hw8:=nzQ hw8
  revert hM;revert hF
  refine slQ ?_
  have hq9:=mr hx7 (by omega) (by omega) (by omega) (by omega) (by omega)
  replace hq9:=nzQ hq9
  intro hF hM
  replace hM:=aw hM;obtain ⟨x10,hx11,hM⟩:=hM
  have hcx10:=cmH hx11 (uL (p1.1) (p1.1) n_ (by (exact pfQ)))
  refine aP hcx10 clQ clQ (fun hw12=> ?_)
  replace hw12:=nzQ hw12
  revert hM;revert hF
  refine slQ ?_
  have hq13:=mr hx11 (by omega) (by omega) (by omega) (by omega) (by omega)
  replace hq13:=nzQ hq13
  intro hF hM
  refine aC (n1 - 1) _ (by omega) sbQ sbQ ⟨(x10,(ar .u64 p1.2.1 1),x6),rfl,⟨by (clear hM;(try dsimp only);(try rw [cQ]);(try rw [cV]);omega),by (clear hM;(try dsimp only);(try rw [cQ]);(try rw [cV]);omega),by (clear hM;(try dsimp only);(try rw [cQ]);(try rw [cV]);omega),by (clear hM;(try dsimp only);(try rw [cQ]);(try rw [cV]);omega),by (clear hM;(try dsimp only);(try rw [cQ]);(try rw [cV]);omega)⟩,by (clear hM;(try dsimp only);(try rw [cQ]);(try rw [cV]);omega),aB hM hag1⟩
 ·intro hF hM
  replace hM:=aw hM;obtain ⟨x15,hx16,hM⟩:=hM
  have hcx15:=cmH hx16 (uL (p1.1) (p1.1) n_ (by (exact pfQ)))
  refine aP hcx15 clQ clQ (fun hw17=> ?_)
  replace hw17:=nzQ hw17
  revert hM;revert hF
  refine slQ ?_
  have hq18:=mr hx16 (by omega) (by omega) (by omega) (by omega) (by omega)
  replace hq18:=nzQ hq18
  intro hF hM
  refine aC (n1 - 1) _ (by omega) sbQ sbQ ⟨(x15,(ar .u64 p1.2.1 1),p1.2.2),rfl,⟨by (clear hM;(try dsimp only);(try rw [cQ]);(try rw [cV]);omega),by (clear hM;(try dsimp only);(try rw [cQ]);(try rw [cV]);omega),by (clear hM;(try dsimp only);(try rw [cQ]);(try rw [cV]);omega),by (clear hM;(try dsimp only);(try rw [cQ]);(try rw [cV]);omega),by (clear hM;(try dsimp only);(try rw [cQ]);(try rw [cV]);omega)⟩,by (clear hM;(try dsimp only);(try rw [cQ]);(try rw [cV]);omega),aB hM hag1⟩
set_option maxHeartbeats 2000000 in
set_option maxRecDepth 100000 in
theorem MP (a_:Int) (n_:Int) (d_:Int) (s:Int) (hp0:a_<n_) (hp1:1<n_) (hp2:0≤s) (hp3:s≤64):CM En (xV a_ n_ d_ s) 178 [.int .u64 a_,.int .u64 n_,.int .u64 d_,.int .i64 s] (fun y=> .bool y) (fun _=> []):=by
 refine enQ noJ Tryz.func178 Tryz.ntmps178 (xV.eq_1 ..) fun r hw=> ?_
 have h0_0:=Ln (x:=s) (by omega) (by omega)
 intro hF hM
 replace hM:=aw hM;obtain ⟨x1,hx2,hM⟩:=hM
 have hcx1:=cmH hx2 (MO a_ d_ n_ (by (exact pfQ)) (by (exact pfQ)))
 refine aP hcx1 clQ clQ (fun hw3=> ?_)
 replace hw3:=nzQ hw3
 revert hM;revert hF
 refine slQ ?_
 have hq4:=Ld hx2 (by omega) (by omega) (by omega) (by omega)
 replace hq4:=nzQ hq4
 refine aq fun _ _ _=> ?_
 refine az fun _ _ _=> ?_
 intro hF hM
 replace hM:=aF hM;obtain ⟨f10,d10,hf10,hd10,hM⟩:=hM
 refine aL (fun n S=> ∃p:Int×Int,S=(⟨[(1,.int .u64 n_),(9,.int .u64 p.1),(23,.int .i64 (aA .i64 s 1)),(24,.int .i64 p.2)],[],0⟩:St)∧((0≤p.2)∧(p.2≤aA .i64 s 1∨p.2≤0)∧(0≤p.1)∧(p.1<n_))∧(aA .i64 s 1 - p.2).toNat<n∧ae n f10 d10 p=r) ((aA .i64 s 1 - 0).toNat+1) _ sbQ sbQ ⟨(x1,0),rfl,⟨omQ,omQ,omQ,omQ⟩,(Nat.lt_succ_self _),hM⟩ ?_
 clear hM
 rintro n10 S ⟨p10,rfl,hfa10,hm10,hM⟩
 replace hM:=aG hM (by omega) hf10;obtain ⟨ag10,hag10,hM⟩:=hM
 replace hfa10:=nzQ hfa10
 replace hm10:=nzQ hm10
 have ha10:al .i64 p10.2 1=p10.2+1:=aJ omQ omQ
 replace hF:=(And.intro ha10 hF)
 revert hM;revert hF
 refine slQ ?_
 refine aq fun _ _ _=> ?_
 intro hF hM
 replace hM:=aw hM;obtain ⟨x13,hx14,hM⟩:=hM
 have hcx13:=cmH hx14 (uL (p10.1) (p10.1) n_ (by (exact pfQ)))
 refine aP hcx13 (an hF) (an hF) (fun hw15=> ?_)
 replace hw15:=nzQ hw15
 revert hM;revert hF
 refine slQ ?_
 have hq16:=mr hx14 (by omega) (by omega) (by omega) (by omega) (by omega)
 replace hq16:=nzQ hq16
 refine az fun _ _ _=> ?_
 intro hF hM
 refine aC (n10 - 1) _ (by omega) sbQ sbQ ⟨(x13,(p10.2+1)),rfl,⟨omQ,omQ,omQ,omQ⟩,omQ,aB hM hag10⟩
set_option maxHeartbeats 2000000 in
set_option maxRecDepth 100000 in
instance Sq (n_:Int):CM En (tN n_) 146 [.int .i64 n_] (fun y=> .bool y) (fun _=> []):=by
 refine cmQ fun r hM=> ?_
 rw [tN.eq_1] at hM
 refine ci aV bP noJ Tryz.func146 rfl Tryz.ntmps146 (by kernel_rfl) fun hw=>bR ?_
 refine spQ ?_
 replace hw:=nzQ hw
 have h0_0:=Lf
 refine bY (fun h1=> ?_) (fun h1=> ?_)
 ·rw [if_pos h1] at hM
  refine ap h1 ?_
  subst hM
  exact b9 (cr h1)
 ·rw [if_neg (bX h1)] at hM
  refine ap h1 ?_
  have nh1:=nzQ h1
  try have hr3:=mpQ nh1
  replace hM:=aF hM;obtain ⟨f4,d4,hf4,hd4,hM⟩:=hM
  refine aL (fun n S=> ∃p:Int,S=(⟨[(3,.int .u64 (ah .u64 n_)),(13,.agg (db.map (V.int .u64))),(14,.int .i64 p)],[],0⟩:St)∧(((0≤p)∧(p≤12))∧(qL (ah .u64 n_) p))∧((12:Int) - p).toNat<n∧ae n f4 d4 p=r) (((12:Int) - 0).toNat+1) _ sbQ sbQ ⟨0,rfl,⟨⟨by (first|exact omQ|(clear hM;first|(have hk:=cW (j:=p4) (by omega) (by omega);exact ao))),by (first|exact omQ|(clear hM;first|(have hk:=cW (j:=p4) (by omega) (by omega);exact ao)))⟩,by (exact Lh)⟩,(Nat.lt_succ_self _),hM⟩ ?_
  clear hM
  rintro n4 S ⟨p4,rfl,⟨hfa4,hF5_0⟩,hm4,hM⟩
  replace hM:=aG hM (by omega) hf4;obtain ⟨ag4,hag4,hM⟩:=hM
  replace hfa4:=nzQ hfa4
  replace hm4:=nzQ hm4
  have ha4:al .i64 p4 1=p4+1:=aJ (by (first|exact omQ|(clear hM;first|(have hk:=cW (j:=p4) (by omega) (by omega);exact ao)))) (by (first|exact omQ|(clear hM;first|(have hk:=cW (j:=p4) (by omega) (by omega);exact ao))))
  refine ap ha4 ?_
  refine bY (fun h5=> ?_) (fun h5=> ?_)
  ·rw [if_pos h5] at hM
   refine ap (And.intro ha4 h5) ?_
   have nh5:=nzQ h5
   try have hr6:=mpQ nh5
   have he7:=pO (f:=V.int .u64) (l:=db) (n:=12) (i:=p4) rfl (by (first|exact omQ|(clear hM;first|(have hk:=cW (j:=p4) (by omega) (by omega);exact ao))))
   replace he7:=spR he7
   refine ap (And.intro ha4 he7) ?_
   refine bA (by (first|exact omQ|(clear hM;first|(have hk:=cW (j:=p4) (by omega) (by omega);exact ao)))) ?_
   refine ap (And.intro ha4 he7) ?_
   refine bA (by (first|exact omQ|(clear hM;first|(have hk:=cW (j:=p4) (by omega) (by omega);exact ao)))) ?_
   refine ap (And.intro ha4 he7) ?_
   refine bY (fun h8=> ?_) (fun h8=> ?_)
   ·rw [if_pos h8] at hM
    refine ap (And.intro ha4 (And.intro he7 h8)) ?_
    subst hM
    exact b9 (cr (And.intro ha4 (And.intro he7 (And.intro h1 (And.intro h5 h8)))))
   ·rw [if_neg (bX h8)] at hM
    refine ap (And.intro ha4 (And.intro he7 h8)) ?_
    have nh8:=nzQ h8
    try have hr10:=mpQ nh8
    refine aC (n4 - 1) _ (by omega) sbQ sbQ ⟨(p4+1),rfl,⟨⟨by (first|exact omQ|(clear hM;first|(have hk:=cW (j:=(p4+1)) (by omega) (by omega);exact ao))),by (first|exact omQ|(clear hM;first|(have hk:=cW (j:=(p4+1)) (by omega) (by omega);exact ao)))⟩,by (clear hM;exact Li hF5_0 (m8 _) (by omega) (by omega) (by assumption))⟩,by (first|exact omQ|(clear hM;first|(have hk:=cW (j:=(p4+1)) (by omega) (by omega);exact ao))),aB hM hag4⟩
  ·rw [if_neg (bX h5)] at hM
   refine ap (And.intro ha4 h5) ?_
   have nh5:=nzQ h5
   try have hr11:=mpQ nh5
   replace hM:=aw hM;obtain ⟨x12,hx13,hM⟩:=hM
   have hcx12:=cmU hx13
   refine aP hcx12 (an ha4) (an ha4) (fun hw14=> ?_)
   replace hw14:=nzQ hw14
   refine ap ha4 ?_
   have hq15:=Lm hx13
   replace hq15:=nzQ hq15
   replace hM:=aF hM;obtain ⟨f16,d16,hf16,hd16,hM⟩:=hM
   refine aL (fun n S=> ∃p:Int,S=(⟨[(3,.int .u64 (ah .u64 n_)),(6,.int .i64 x12),(28,.agg (db.map (V.int .u64))),(29,.int .i64 p)],[],0⟩:St)∧(((0≤p)∧(p≤12))∧(37<ah .u64 n_))∧((12:Int) - p).toNat<n∧ae n f16 d16 p=r) (((12:Int) - 0).toNat+1) _ sbQ sbQ ⟨0,rfl,⟨⟨by (first|exact omQ|(clear hM;first|(have hk:=cW (j:=p16) (by omega) (by omega);exact ao))),by (first|exact omQ|(clear hM;first|(have hk:=cW (j:=p16) (by omega) (by omega);exact ao)))⟩,by (clear hM;exact Lk hF5_0 (by omega) (by rw [uy (by omega) (by omega)];omega))⟩,(Nat.lt_succ_self _),hM⟩ ?_
   clear hM
   rintro n16 S ⟨p16,rfl,⟨hfa16,hF12_0⟩,hm16,hM⟩
   replace hM:=aG hM (by omega) hf16;obtain ⟨ag16,hag16,hM⟩:=hM
   replace hfa16:=nzQ hfa16
   replace hm16:=nzQ hm16
   have ha16:al .i64 p16 1=p16+1:=aJ (by (first|exact omQ|(clear hM;first|(have hk:=cW (j:=p16) (by omega) (by omega);exact ao)))) (by (first|exact omQ|(clear hM;first|(have hk:=cW (j:=p16) (by omega) (by omega);exact ao))))
   refine ap (And.intro ha4 ha16) ?_
   refine bY (fun h17=> ?_) (fun h17=> ?_)
   ·rw [if_pos h17] at hM
    refine ap (And.intro ha4 (And.intro ha16 h17)) ?_
    have nh17:=nzQ h17
    try have hr18:=mpQ nh17
    have he19:=pO (f:=V.int .u64) (l:=db) (n:=12) (i:=p16) rfl (by (first|exact omQ|(clear hM;first|(have hk:=cW (j:=p16) (by omega) (by omega);exact ao))))
    replace he19:=spR he19
    refine ap (And.intro ha4 (And.intro ha16 he19)) ?_
    refine bA (by (first|exact omQ|(clear hM;first|(have hk:=cW (j:=p16) (by omega) (by omega);exact ao)))) ?_
    refine ap (And.intro ha4 (And.intro ha16 he19)) ?_
    refine bA (by (first|exact omQ|(clear hM;first|(have hk:=cW (j:=p16) (by omega) (by omega);exact ao)))) ?_
    refine ap (And.intro ha4 (And.intro ha16 he19)) ?_
    replace hM:=aw hM;obtain ⟨x20,hx21,hM⟩:=hM
    have hcx20:=cmH hx21 (MP (gt db p16) (ah .u64 n_) (ar .u64 (aA .u64 (ah .u64 n_) 1) x12) x12 (by (first|omega|(have hk:=cW (j:=p16) (by omega) (by omega);omega))) (by (first|omega|(have hk:=cW (j:=p16) (by omega) (by omega);omega))) (by (first|omega|(have hk:=cW (j:=p16) (by omega) (by omega);omega))) (by (first|omega|(have hk:=cW (j:=p16) (by omega) (by omega);omega))))
    refine aP hcx20 (an (And.intro ha4 (And.intro ha16 he19))) (an (And.intro ha4 (And.intro ha16 he19))) (fun hw22=> ?_)
    replace hw22:=nzQ hw22
    refine ap (And.intro ha4 (And.intro ha16 he19)) ?_
    refine bY (fun h23=> ?_) (fun h23=> ?_)
    ·subst h23
     rw [if_pos rfl] at hM
     refine ap (And.intro ha4 (And.intro ha16 he19)) ?_
     subst hM
     exact b9 (cr (And.intro ha4 (And.intro ha16 (And.intro he19 (And.intro h1 (And.intro h5 h17))))))
    ·subst h23
     rw [if_neg (by decide)] at hM
     refine ap (And.intro ha4 (And.intro ha16 he19)) ?_
     refine aC (n16 - 1) _ (by omega) sbQ sbQ ⟨(p16+1),rfl,⟨⟨by (first|exact omQ|(clear hM;first|(have hk:=cW (j:=(p16+1)) (by omega) (by omega);exact ao))),by (first|exact omQ|(clear hM;first|(have hk:=cW (j:=(p16+1)) (by omega) (by omega);exact ao)))⟩,by (clear hM;exact hF12_0)⟩,by (first|exact omQ|(clear hM;first|(have hk:=cW (j:=(p16+1)) (by omega) (by omega);exact ao))),aB hM hag16⟩
   ·rw [if_neg (bX h17)] at hM
    refine ap (And.intro ha4 (And.intro ha16 h17)) ?_
    subst hM
    exact b9 (cr (And.intro ha4 (And.intro ha16 (And.intro h1 (And.intro h5 h17)))))
set_option maxHeartbeats 2000000 in
set_option maxRecDepth 100000 in
instance Sr (a_:Int) (m:Int):CM En (qk a_ m) 216 [.int .i64 a_,.int .i64 m] (fun y=> .bool y) (fun _=> []):=by
 refine enQ noJ Tryz.func216 Tryz.ntmps216 (qk.eq_1 ..) fun r hw=> ?_
 exact auR
set_option maxHeartbeats 2000000 in
set_option maxRecDepth 100000 in
instance Ss (a_:Int) (b:Int) (m:Int):CM En (js a_ b m) 179 [.int .i64 a_,.int .i64 b,.int .i64 m] (fun y=> .int .i64 y) (fun _=> []):=by
 refine enQ noJ Tryz.func179 Tryz.ntmps179 (js.eq_1 ..) fun r hw=> ?_
 exact auR
set_option maxHeartbeats 2000000 in
set_option maxRecDepth 100000 in
theorem uM (a_:Int) (b:Int) (m:Int) (hp0:0≤a_) (hp1:a_<m) (hp2:0≤b):CM En (jt a_ b m) 180 [.int .i64 a_,.int .i64 b,.int .i64 m] (fun y=> .int .i64 y) (fun _=> []):=by
 refine enQ noJ Tryz.func180 Tryz.ntmps180 (jt.eq_1 ..) fun r hw=> ?_
 have h0_0:=uy (x:=a_) (by omega) (by omega)
 have h0_1:=uy (x:=b) (by omega) (by omega)
 have h0_2:=uy (x:=m) (by omega) (by omega)
 refine ax fun x1 hx2 _ _=> ?_
 have hq4:=Dl (ah .u64 m) hx2 (by omega) (by omega) (by omega) (by omega) (by omega)
 replace hq4:=nzQ hq4
 intro hF hM
 replace hM:=aw hM;obtain ⟨x5,hx6,hM⟩:=hM
 have hcx5:=cmH hx6 (D8 (x1.1) (x1.2) (ah .u64 m) (by (exact pfQ)))
 refine aP hcx5 clQ clQ (fun hw7=> ?_)
 replace hw7:=nzQ hw7
 exact auP
set_option maxHeartbeats 2000000 in
set_option maxRecDepth 100000 in
instance Su (a_:Int) (e_:Int) (m:Int):CM En (iz a_ e_ m) 147 [.int .i64 a_,.int .i64 e_,.int .i64 m] (fun y=> .tup [.int .i64 y.1,.int .i64 y.2]) (fun _=> []):=by
 refine enQ noJ Tryz.func147 Tryz.ntmps147 (iz.eq_1 ..) fun r hw=> ?_
 have hA0:=fun a0=>Lo (m:=m) a0
 refine ax fun _ _ _ _=> ?_
 refine az fun _ _ _=> ?_
 refine az fun _ _ _=> ?_
 intro hF hM
 replace hM:=aF hM;obtain ⟨f11,d11,hf11,hd11,hM⟩:=hM
 refine aL (fun n S=> ∃p:Int×Int×Int,S=(⟨[(0,.int .i64 p.1),(1,.int .i64 p.2.1),(2,.int .i64 m),(9,.int .i64 p.2.2)],[],0⟩:St)∧((0≤p.1)∧(p.1<m)∧(0≤p.2.1)∧(0≤p.2.2)∧(p.2.2<m))∧p.2.1.toNat<n∧ae n f11 d11 p=r) (e_.toNat+1) _ sbQ sbQ ⟨(a_,e_,(cw .i64 1 m)),rfl,⟨by exact omA,by exact omA,by exact omA,by exact omA,by exact omA⟩,(Nat.lt_succ_self _),hM⟩ ?_
 clear hM
 rintro n11 S ⟨p11,rfl,hfa11,hm11,hM⟩
 replace hM:=aG hM (by omega) hf11;obtain ⟨ag11,hag11,hM⟩:=hM
 replace hfa11:=nzQ hfa11
 replace hm11:=nzQ hm11
 revert hM;revert hF
 refine slQ ?_
 refine aq fun _ _ _=> ?_
 refine cdQ (fun _ _ _=> ?_) (fun _ _ _=> ?_)
 ·intro hF hM
  replace hM:=aw hM;obtain ⟨x16,hx17,hM⟩:=hM
  have hcx16:=cmH hx17 (uM (p11.2.2) (p11.1) m (by (exact pfQ)) (by (exact pfQ)) (by (exact pfQ)))
  refine aP hcx16 clQ clQ (fun hw18=> ?_)
  replace hw18:=nzQ hw18
  revert hM;revert hF
  refine slQ ?_
  have hq19:=zg hx17 (by omega) (by omega) (by omega) (by omega) (by omega)
  replace hq19:=nzQ hq19
  intro hF hM
  replace hM:=aw hM;obtain ⟨x20,hx21,hM⟩:=hM
  have hcx20:=cmH hx21 (uM (p11.1) (p11.1) m (by (exact pfQ)) (by (exact pfQ)) (by (exact pfQ)))
  refine aP hcx20 clQ clQ (fun hw22=> ?_)
  replace hw22:=nzQ hw22
  revert hM;revert hF
  refine slQ ?_
  have hq23:=zg hx21 (by omega) (by omega) (by omega) (by omega) (by omega)
  replace hq23:=nzQ hq23
  intro hF hM
  refine aC (n11 - 1) _ (by omega) sbQ sbQ ⟨(x20,(ar .i64 p11.2.1 1),x16),rfl,⟨by (clear hM;(try dsimp only);(try rw [cQ]);(try rw [cV]);omega),by (clear hM;(try dsimp only);(try rw [cQ]);(try rw [cV]);omega),by (clear hM;(try dsimp only);(try rw [cQ]);(try rw [cV]);omega),by (clear hM;(try dsimp only);(try rw [cQ]);(try rw [cV]);omega),by (clear hM;(try dsimp only);(try rw [cQ]);(try rw [cV]);omega)⟩,by (clear hM;(try dsimp only);(try rw [cQ]);(try rw [cV]);omega),aB hM hag11⟩
 ·intro hF hM
  replace hM:=aw hM;obtain ⟨x25,hx26,hM⟩:=hM
  have hcx25:=cmH hx26 (uM (p11.1) (p11.1) m (by (exact pfQ)) (by (exact pfQ)) (by (exact pfQ)))
  refine aP hcx25 clQ clQ (fun hw27=> ?_)
  replace hw27:=nzQ hw27
  revert hM;revert hF
  refine slQ ?_
  have hq28:=zg hx26 (by omega) (by omega) (by omega) (by omega) (by omega)
  replace hq28:=nzQ hq28
  intro hF hM
  refine aC (n11 - 1) _ (by omega) sbQ sbQ ⟨(x25,(ar .i64 p11.2.1 1),p11.2.2),rfl,⟨by (clear hM;(try dsimp only);(try rw [cQ]);(try rw [cV]);omega),by (clear hM;(try dsimp only);(try rw [cQ]);(try rw [cV]);omega),by (clear hM;(try dsimp only);(try rw [cQ]);(try rw [cV]);omega),by (clear hM;(try dsimp only);(try rw [cQ]);(try rw [cV]);omega),by (clear hM;(try dsimp only);(try rw [cQ]);(try rw [cV]);omega)⟩,by (clear hM;(try dsimp only);(try rw [cQ]);(try rw [cV]);omega),aB hM hag11⟩
set_option maxHeartbeats 2000000 in
set_option maxRecDepth 100000 in
instance Sv (g:aO):CM En (iA g) 122 [.agg [.int .i64 g.P,.int .i64 g.Q,.int .i64 g.G]] (fun y=> .bool y) (fun _=> []):=by
 refine enQ noJ Tryz.func122 Tryz.ntmps122 (iA.eq_1 ..) fun r hw=> ?_
 exact auR
set_option maxHeartbeats 2000000 in
set_option maxRecDepth 100000 in
instance Sw (g:aO) (x_:Int):CM En (tO g x_) 123 [.agg [.int .i64 g.P,.int .i64 g.Q,.int .i64 g.G],.int .i64 x_] (fun y=> .bool y) (fun _=> []):=by
 refine enQ noJ Tryz.func123 Tryz.ntmps123 (tO.eq_1 ..) fun r hw=> ?_
 exact auR
set_option maxHeartbeats 2000000 in
set_option maxRecDepth 100000 in
instance Sy (g:aO) (x_:Int):CM En (iB g x_) 98 [.agg [.int .i64 g.P,.int .i64 g.Q,.int .i64 g.G],.int .i64 x_] (fun y=> .bool y) (fun _=> []):=by
 refine enQ noJ Tryz.func98 Tryz.ntmps98 (iB.eq_1 ..) fun r hw=> ?_
 exact auR
set_option maxHeartbeats 2000000 in
set_option maxRecDepth 100000 in
instance Sz (b:aY):CM En (kw b) 96 [(bL b)] (fun y=> .bool y) (fun _=> []):=by
 refine cmQ fun r hM=> ?_
 rw [kw.eq_1] at hM
 refine ci aV bP noJ Tryz.func96 rfl Tryz.ntmps96 (by kernel_rfl) fun hw=>bR ?_
 refine spQ ?_
 replace hw:=nzQ hw
 replace hM:=aw hM;obtain ⟨x1,hx2,hM⟩:=hM
 have hcx1:=cmU hx2
 refine aP hcx1 clQ clQ (fun hw3=> ?_)
 replace hw3:=nzQ hw3
 refine spQ ?_
 refine bY (fun h4=> ?_) (fun h4=> ?_)
 ·rw [if_pos h4] at hM
  refine ap h4 ?_
  subst hM
  exact b9 (cr h4)
 ·rw [if_neg (bX h4)] at hM
  refine ap h4 ?_
  have nh4:=nzQ h4
  try have hr6:=mpQ nh4
  replace hM:=aF hM;obtain ⟨f7,d7,hf7,hd7,hM⟩:=hM
  refine aL (fun n S=> ∃p:Int,S=(⟨[(1,.ptr 0 0),(15,.own 1),(16,.int .i64 (3:Int)),(17,.int .i64 p)],[(0,.var 6 true ((bL b))),(1,.own 3 1 false (some false) (([b.G1,b.G2,b.H]:List Int).map (V.int .i64)))],2⟩:St)∧((0≤p)∧(p≤(3:Int)))∧((3:Int) - p).toNat<n∧ae n f7 d7 p=r) (((3:Int) - 0).toNat+1) _ sbQ sbQ ⟨0,rfl,⟨omQ,omQ⟩,(Nat.lt_succ_self _),hM⟩ ?_
  clear hM
  rintro n7 S ⟨p7,rfl,hfa7,hm7,hM⟩
  replace hM:=aG hM (by omega) hf7;obtain ⟨ag7,hag7,hM⟩:=hM
  replace hfa7:=nzQ hfa7
  replace hm7:=nzQ hm7
  have ha7:al .i64 p7 1=p7+1:=aJ omQ omQ
  refine ap ha7 ?_
  refine bY (fun h8=> ?_) (fun h8=> ?_)
  ·rw [if_pos h8] at hM
   refine ap (And.intro ha7 h8) ?_
   have nh8:=nzQ h8
   try have hr9:=mpQ nh8
   refine bA omQ ?_
   have he10:=fun d=>cM (l:=([b.G1,b.G2,b.H]:List Int)) (f:=(V.int .i64)) (i:=p7) omQ d
   replace he10:=fun d=>spR (he10 d)
   refine ap (And.intro ha7 he10) ?_
   have hF:=(And.intro h4 (And.intro ha7 (And.intro h8 he10)))
   exact auQ
  ·rw [if_neg (bX h8)] at hM
   refine ap (And.intro ha7 h8) ?_
   subst hM
   exact b9 (cr (And.intro ha7 (And.intro h4 h8)))
set_option maxHeartbeats 2000000 in
set_option maxRecDepth 100000 in
instance SA (b:aY) (x_:Int):CM En (ql b x_) 176 [(bL b),.int .i64 x_] (fun y=> .bool y) (fun _=> []):=by
 refine enQ noJ Tryz.func176 Tryz.ntmps176 (ql.eq_1 ..) fun r hw=> ?_
 exact auR
set_option maxHeartbeats 2000000 in
set_option maxRecDepth 100000 in
instance SB (b:aY) (m:Int):CM En (ky b m) 145 [(bL b),.int .i64 m] (fun y=> .bool y) (fun _=> []):=by
 refine enQ noJ Tryz.func145 Tryz.ntmps145 (ky.eq_1 ..) fun r hw=> ?_
 exact auR
end Go.Proofs.YteibkofekpejgaaGreatDoor
