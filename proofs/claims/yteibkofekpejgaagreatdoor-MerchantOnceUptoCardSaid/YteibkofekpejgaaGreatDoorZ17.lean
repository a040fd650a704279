/- Texts of this proof, one after the other: EL, U5, M1, M3, M4, M5, M6. -/
import Derived.Test.YteibkofekpejgaaGreatDoorZ15
import Derived.Test.YteibkofekpejgaaGreatDoorZ16
import Derived.Test.YteibkofekpejgaaGreatDoorZ13
set_option linter.unusedVariables false
set_option linter.unusedSimpArgs false
namespace Go.Proofs.YteibkofekpejgaaGreatDoor
open Go.RowKit
structure Ck where
  v:V
  ok:Bool
  e:Int
instance:Inhabited Ck:=⟨⟨.un,false,0⟩⟩
def eCk (x:Ck):V:= .fn 94 [.pp 1 false x.v,.pp 1 false (.int .i64 x.e)]
attribute [go_sem] eCk
def ckl (b:aX) (l:List bg) (y:Int) (v:aL) (p:aA):List Ck:=
  [⟨.opq (dW 52 [bE ⟨b,l,y,v,p⟩]),nt ⟨b,l,y,v,p⟩,1⟩,
   ⟨.fn 53 [.pp 4 true (br p)],tg p,5⟩,
   ⟨.fn 55 [.pp 4 true (br p),.pp 35 true (aY v)],pQ p v,14⟩,
   ⟨.opq (dW 56 [bE ⟨b,l,y,v,p⟩]),tj ⟨b,l,y,v,p⟩,18⟩,
   ⟨.opq (dW 57 [bE ⟨b,l,y,v,p⟩]),nG ⟨b,l,y,v,p⟩,11⟩,
   ⟨.opq (dW 58 [bE ⟨b,l,y,v,p⟩]),tB ⟨b,l,y,v,p⟩,16⟩,
   ⟨.opq (dW 59 [bE ⟨b,l,y,v,p⟩]),tC ⟨b,l,y,v,p⟩,15⟩,
   ⟨.opq (dW 60 [bE ⟨b,l,y,v,p⟩]),tD ⟨b,l,y,v,p⟩,8⟩,
   ⟨.opq (dW 61 [bE ⟨b,l,y,v,p⟩]),tM ⟨b,l,y,v,p⟩,12⟩,
   ⟨.fn 62 [.pp 47 true (bE ⟨b,l,y,v,p⟩),.pp 35 true (aY v)],tO ⟨b,l,y,v,p⟩ v,17⟩]
section
variable (b:aX) (l:List bg) (y:Int) (v:aL) (p:aA)
theorem Nm:(ckl b l y v p).length=10:=rfl
theorem Nn {k:Nat} (h:k<10):(gt (ckl b l y v p) k).e≠0:=by
  match k,h with
  | 0,_=>exact (by decide:(1:Int)≠0)
  | 1,_=>exact (by decide:(5:Int)≠0)
  | 2,_=>exact (by decide:(14:Int)≠0)
  | 3,_=>exact (by decide:(18:Int)≠0)
  | 4,_=>exact (by decide:(11:Int)≠0)
  | 5,_=>exact (by decide:(16:Int)≠0)
  | 6,_=>exact (by decide:(15:Int)≠0)
  | 7,_=>exact (by decide:(8:Int)≠0)
  | 8,_=>exact (by decide:(12:Int)≠0)
  | 9,_=>exact (by decide:(17:Int)≠0)
variable {b l y v p}
theorem Np (hS:cI p) (hl:l.length≤100) {k:Nat} (h:k<10):aV En 94 [.pp 1 false (gt (ckl b l y v p) k).v,.pp 1 false (.int .i64 (gt (ckl b l y v p) k).e)] (.int .i64 (if (gt (ckl b l y v p) k).ok=true then 0 else (gt (ckl b l y v p) k).e)) []:=by
  have hK:okK (⟨b,l,y,v,p⟩:ci):=⟨hl,hS⟩
  match k,h with
  | 0,_=>exact l8 (lh (Mz _ hK).ok) 1
  | 1,_=>exact Nk (by have:=(MA p hS).ok;simp only [br];exact this) 5
  | 2,_=>exact Ec (by have:=(MB p v).ok;simp only [br];exact this) 14
  | 3,_=>exact l8 (lh (MC _ hK).ok) 18
  | 4,_=>exact l8 (lh (M2 _ hK).ok) 11
  | 5,_=>exact l8 (lh (M8 _ hK).ok) 16
  | 6,_=>exact l8 (lh (M9 _ hK).ok) 15
  | 7,_=>exact l8 (lh (M_ _ hK).ok) 8
  | 8,_=>exact l8 (lh (Nh _ hK).ok) 12
  | 9,_=>exact Ec (Nj _ v hK).ok 17
theorem Nq {L:List Ck} {k:Nat} (h:k<L.length):(L.map fun x=>(x.ok,x.e)).drop k=((gt L k).ok,(gt L k).e)::(L.map fun x=>(x.ok,x.e)).drop (k+1):=by
  have hk:k<(L.map fun x=>(x.ok,x.e)).length:=by simpa using h
  rw [List.drop_eq_getElem_cons hk]
  simp [gt,List.getD_eq_getElem?_getD,h]
end
theorem ckQ {P:Prop} (h:P:=by (simp only [ckl,eCk,bE,br,aY,List.map_cons,List.map_nil,go_sem,ct,cu,List.length_replicate,ca,Int.toNat_natCast,↓reduceIte,Nat.reduceEqDiff,Nat.reduceAdd,Int.reduceAdd,Nat.reduceMul,Nat.reduceLeDiff,Nat.reduceLT,Int.reduceLE,Int.reduceLT,Int.reduceNeg,Int.reduceToNat,mX,pc,sA,dN,dO,mtO,mtB,mt,mtL,ln,lm,ltV,ltL,ltB,eq_self,or_true,true_or,or_self,and_self]<;>fail)):P:=h
theorem Ed {p:aA} {x:List bD} (h:cI p) (hx:x=jt p):x.length≤8800:=by
  have e:jt p=dE p:=by
    unfold jt dE
    simp only [aa,zc,tY]
  exact zk h (hx.trans e)
@[go_sem] theorem TR (a:V):leV a a=True:=by simp [leV]
end Go.Proofs.YteibkofekpejgaaGreatDoor
namespace Go.Proofs.YteibkofekpejgaaGreatDoor
open Go.RowKit
set_option linter.unusedSimpArgs false
set_option maxHeartbeats 2000000 in
set_option maxRecDepth 100000 in
theorem Nr (b:aX) (l:(List bg)) (y:Int) (v:aL) (p_:aA) (hp0:cI p_) (hp1:l.length≤100):CM En (cQ b l y v p_) 17 [(bS b),.sl none 11 true (l.map cP),.int .i64 y,(aY v),.agg [.int .i64 p_.Number,.sl none 80 true (p_.Spends.map aM),.sl none 81 true (p_.Chains.map bf),.sl none 5 true (p_.Escrow.map bz)]] (fun y=> .tup [.int .i64 y.1,.int .i64 y.2]) (fun _=> []):=by
 refine cmQ fun r hM=> ?_
 rw [cQ.eq_1] at hM
 refine cg aU bJ [2] Tryz.func17 rfl Tryz.ntmps17 (by kernel_rfl) fun hw=>bP ?_
 refine spQ ?_
 replace hw:=nzQ hw
 refine fX ?_
 try refine spQ ?_
 refine gH _ (⟨[(8,.pp 35 true ((aY v))),(9,.pp 4 true (br p_)),(12,.pp 47 true (bE ⟨b,l,y,v,p_⟩))],[(1,.pvar 35 true ((aY v))),(2,.pvar 4 true (br p_)),(3,.pvar 47 true (bE ⟨b,l,y,v,p_⟩))],4⟩:St) ((((ib (S:=⟨_,_,_⟩) 1 (n:=35) (g:=true) (d:=(aY v)) clQ clQ).trans (zw (S:=⟨_,_,_⟩) 8 1 (n:=35) (g:=true) (d:=(aY v)) clQ clQ)).trans ((ib (S:=⟨_,_,_⟩) 2 (n:=4) (g:=true) (d:=(br p_)) clQ clQ).trans (zw (S:=⟨_,_,_⟩) 9 2 (n:=4) (g:=true) (d:=(br p_)) clQ clQ))).trans ((ib (S:=⟨_,_,_⟩) 3 (n:=47) (g:=true) (d:=(bE ⟨b,l,y,v,p_⟩)) clQ clQ).trans (zw (S:=⟨_,_,_⟩) 12 3 (n:=47) (g:=true) (d:=(bE ⟨b,l,y,v,p_⟩)) clQ clQ))) sbQ sbQ ?_
 try refine spQ ?_
 refine iW 65 26 [23,24,25,26,27,28,29,30,31,32,33,34,35,36,37,38,39,40,41,42,43,44,45,46,47,48] [] ([[],[0],[0,1],[],[0,1,2,3],[],[0,1,2,3,4,5],[],[7],[0,1,2,3,4,5,6,7,8],[],[10],[0,1,2,3,4,5,6,7,8,9,10,11],[],[13],[0,1,2,3,4,5,6,7,8,9,10,11,12,13,14],[],[16],[0,1,2,3,4,5,6,7,8,9,10,11,12,13,14,15,16,17],[],[19],[0,1,2,3,4,5,6,7,8,9,10,11,12,13,14,15,16,17,18,19,20],[],[22],[0,1,2,3,4,5,6,7,8,9,10,11,12,13,14,15,16,17,18,19,20,21,22,23],[]]++[List.range 26,List.range 27,List.range 28]) [] (by kernel_rfl) (by exact alQ) ?_
 refine spQ ?_
 refine bA (iD (x:= .opq (dW 52 [(bE ⟨b,l,y,v,p_⟩)])) l9 1) clQ clQ ?_
 refine spQ ?_
 refine bA (iD (x:= .fn 53 [.pp 4 true (br p_)]) zx 5) clQ clQ ?_
 refine spQ ?_
 refine bA (iD (x:= .fn 55 [.pp 4 true (br p_),.pp 35 true ((aY v))]) zx 14) clQ clQ ?_
 refine spQ ?_
 refine bA (iD (x:= .opq (dW 56 [(bE ⟨b,l,y,v,p_⟩)])) l9 18) clQ clQ ?_
 refine spQ ?_
 refine bA (iD (x:= .opq (dW 57 [(bE ⟨b,l,y,v,p_⟩)])) l9 11) clQ clQ ?_
 refine spQ ?_
 refine bA (iD (x:= .opq (dW 58 [(bE ⟨b,l,y,v,p_⟩)])) l9 16) clQ clQ ?_
 refine spQ ?_
 refine bA (iD (x:= .opq (dW 59 [(bE ⟨b,l,y,v,p_⟩)])) l9 15) clQ clQ ?_
 refine spQ ?_
 refine bA (iD (x:= .opq (dW 60 [(bE ⟨b,l,y,v,p_⟩)])) l9 8) clQ clQ ?_
 refine spQ ?_
 refine bA (iD (x:= .opq (dW 61 [(bE ⟨b,l,y,v,p_⟩)])) l9 12) clQ clQ ?_
 refine spQ ?_
 refine aN (iD (x:= .fn 62 [.pp 47 true (bE ⟨b,l,y,v,p_⟩),.pp 35 true ((aY v))]) zx 17) clQ clQ (fun hw1=> ?_)
 refine spQ ?_
 refine aK (fun n S=> ∃k:Nat,k≤10∧n=11 - k∧S=(⟨[(8,.pp 35 true ((aY v))),(51,.own 30),(52,.int .i64 10),(53,.int .i64 (k:Int))],[(30,.own 121 1 false (some false) ((ckl b l y v p_).map eCk))],31⟩:St)∧iA (((ckl b l y v p_).map fun x=>(x.ok,x.e)).drop k) v.Amount=r) 11 _ (ckQ) (ckQ) ⟨0,by omega,rfl,rfl,hM⟩ ?_
 clear hM
 rintro n S ⟨k,hk,rfl,rfl,hM⟩
 refine spQ ?_
 have hn:=Nm b l y v p_
 refine bQ (fun h1=> ?_) (fun h1=> ?_)
 ·have hk1:k<10:=by have:=nzQ h1;omega
  refine ap h1 ?_
  refine bw (by (try rw [List.length_map]);omega) ?_
  have he: ∀d,elt ((ckl b l y v p_).map eCk) k d=eCk (gt (ckl b l y v p_) k):=fun d=>cE (i:=(k:Int)) (by rw [hn];omega) d
  refine ap he ?_
  refine bw (by omega) ?_
  refine spQ ?_
  have hck:=Np (b:=b) (y:=y) (v:=v) hp0 hp1 hk1
  refine aN hck clQ clQ (fun hw2=> ?_)
  refine spQ ?_
  have hd:(((ckl b l y v p_).map fun x=>(x.ok,x.e)).drop k)=((gt (ckl b l y v p_) k).ok,(gt (ckl b l y v p_) k).e)::(((ckl b l y v p_).map fun x=>(x.ok,x.e)).drop (k+1)):=Nq (by rw [hn];omega)
  have hz:=Nn b l y v p_ hk1
  rw [hd] at hM
  cases hok:(gt (ckl b l y v p_) k).ok with
  | true=>
   rw [hok] at hM
   simp only [iA] at hM
   have ha:al .i64 (k:Int) 1=((k+1:Nat):Int):=by rw [aJ (by omega) (by omega)];rfl
   refine ap (And.intro hok ha) ?_
   refine bQ (fun h2=>absurd h2 (by decide)) (fun h2=> ?_)
   refine ap (And.intro hok ha) ?_
   refine ⟨11 - (k+1),by omega,_,?_,k+1,by omega,rfl,rfl,hM⟩
   exact fS ckQ ckQ
  | false=>
   rw [hok] at hM
   refine bQ (fun h2=> ?_) (fun h2=> ?_)
   ·refine spQ ?_
    simp only [iA] at hM
    subst hM
    exact bX lfQ
   ·exact absurd h2 (by simp [hok,hz])
 ·have hk1:k=10:=by have:=nzQ h1;omega
  subst hk1
  rw [List.drop_eq_nil_of_le (by rw [List.length_map,hn];decide)] at hM
  refine ap h1 ?_
  simp only [iA] at hM
  subst hM
  exact bX lfQ
set_option maxHeartbeats 2000000 in
set_option maxRecDepth 100000 in
theorem Ee (l:(List aA)) (hp0:okQ l) (hp1:l.length≤100):CM En (fj l) 33 [.sl none 4 true (l.map br)] (fun _=> .own 0) (fun y=> [.kset true .i64 2 y]):=by
 refine cmQ fun r hM=> ?_
 rw [fj.eq_1] at hM
 refine cg aU bJ noJ Tryz.func33 rfl Tryz.ntmps33 (by kernel_rfl) fun hw=>bP ?_
 refine spQ ?_
 replace hw:=nzQ hw
 replace hM:=aH hM;obtain ⟨f1,d1,hf1,hd1,hM⟩:=hM
 refine aK (fun n S=> ∃p:Int×List (List Int),S=(⟨[(3,.own 0),(9,.sl none 4 true (l.map br)),(10,.int .i64 (l.length:Int)),(11,.int .i64 p.1)],[(0,.kset true .i64 2 p.2)],1⟩:St)∧((0≤p.1)∧(p.1≤(l.length:Int)))∧((l.length:Int) - p.1).toNat<n∧ae n f1 d1 p=r) (((l.length:Int) - 0).toNat+1) _ sbQ sbQ ⟨(0,([]:List (List Int))),rfl,⟨omQ,omQ⟩,(Nat.lt_succ_self _),hM⟩ ?_
 clear hM
 rintro n1 S ⟨p1,rfl,hfa1,hm1,hM⟩
 replace hM:=aI hM (by omega) hf1;obtain ⟨ag1,hag1,hM⟩:=hM
 replace hfa1:=nzQ hfa1
 replace hm1:=nzQ hm1
 have ha1:al .i64 p1.1 1=p1.1+1:=aJ omQ omQ
 refine ap ha1 ?_
 refine bQ (fun h2=> ?_) (fun h2=> ?_)
 ·rw [if_pos h2] at hM
  refine ap (And.intro ha1 h2) ?_
  have nh2:=nzQ h2
  try have hr3:=mpQ nh2
  refine bw omQ ?_
  have he4:=fun d=>cE (l:=l) (f:=br) (i:=p1.1) omQ d
  refine ap (And.intro ha1 he4) ?_
  replace hM:=ar hM;obtain ⟨x5,hx6,hM⟩:=hM
  have hcx5:=cmH hx6 (D_ (gt l p1.1) (by (exact hp0 _ (bG (by omega)))))
  refine aN hcx5 (ao (And.intro ha1 he4)) (ao (And.intro ha1 he4)) (fun hw7=> ?_)
  replace hw7:=nzQ hw7
  refine ap (And.intro ha1 he4) ?_
  have hq8:=zk (hp0 _ (bG (by omega))) hx6
  replace hq8:=nzQ hq8
  replace hM:=aH hM;obtain ⟨f9,d9,hf9,hd9,hM⟩:=hM
  refine aK (fun n S=> ∃p:Int×List (List Int),S=(⟨[(3,.own 0),(9,.sl none 4 true (l.map br)),(10,.int .i64 (l.length:Int)),(11,.int .i64 p1.1),(16,.sl none 83 true (x5.map fD)),(17,.int .i64 (x5.length:Int)),(18,.int .i64 p.1)],[(0,.kset true .i64 2 p.2)],2⟩:St)∧((0≤p.1)∧(p.1≤(x5.length:Int)))∧((x5.length:Int) - p.1).toNat<n∧ae n f9 d9 p=r) (((x5.length:Int) - 0).toNat+1) _ sbQ sbQ ⟨(0,p1.2),rfl,⟨omQ,omQ⟩,(Nat.lt_succ_self _),hM⟩ ?_
  clear hM
  rintro n9 S ⟨p9,rfl,hfa9,hm9,hM⟩
  replace hM:=aI hM (by omega) hf9;obtain ⟨ag9,hag9,hM⟩:=hM
  replace hfa9:=nzQ hfa9
  replace hm9:=nzQ hm9
  have ha9:al .i64 p9.1 1=p9.1+1:=aJ omQ omQ
  refine ap (And.intro ha1 (And.intro he4 ha9)) ?_
  have hF:=(And.intro ha1 (And.intro h2 (And.intro he4 ha9)))
  exact auQ
 ·rw [if_neg (bN h2)] at hM
  refine ap (And.intro ha1 h2) ?_
  have nh2:=nzQ h2
  try have hr14:=mpQ nh2
  subst hM
  exact JS 0 rfl
set_option maxHeartbeats 2000000 in
set_option maxRecDepth 100000 in
instance TS (p_:aA):CM En (qe p_) 34 [.agg [.int .i64 p_.Number,.sl none 80 true (p_.Spends.map aM),.sl none 81 true (p_.Chains.map bf),.sl none 5 true (p_.Escrow.map bz)]] (fun y=> .int .i64 y) (fun _=> []):=by
 refine enQ noJ Tryz.func34 Tryz.ntmps34 (qe.eq_1 ..) fun r hw=> ?_
 intro hF hM
 replace hM:=aH hM;obtain ⟨f1,d1,hf1,hd1,hM⟩:=hM
 refine aK (fun n S=> ∃p:Int×Int,S=(⟨[(3,.int .i64 p.1),(7,.sl none 81 true (p_.Chains.map bf)),(8,.int .i64 (p_.Chains.length:Int)),(9,.int .i64 p.2)],[],1⟩:St)∧((0≤p.2)∧(p.2≤(p_.Chains.length:Int)))∧((p_.Chains.length:Int) - p.2).toNat<n∧ae n f1 d1 p=r) (((p_.Chains.length:Int) - 0).toNat+1) _ sbQ sbQ ⟨(0,0),rfl,⟨omQ,omQ⟩,(Nat.lt_succ_self _),hM⟩ ?_
 clear hM
 rintro n1 S ⟨p1,rfl,hfa1,hm1,hM⟩
 replace hM:=aI hM (by omega) hf1;obtain ⟨ag1,hag1,hM⟩:=hM
 replace hfa1:=nzQ hfa1
 replace hm1:=nzQ hm1
 have ha1:al .i64 p1.2 1=p1.2+1:=aJ omQ omQ
 replace hF:=(And.intro ha1 hF)
 revert hM;revert hF
 refine slQ ?_
 refine av fun _ _ _=> ?_
 intro hF hM
 refine aE (n1 - 1) _ (by omega) sbQ sbQ ⟨((fL p1.1 ((gt p_.Chains p1.2).L.length:Int)),(p1.2+1)),rfl,⟨omQ,omQ⟩,omQ,aD hM hag1⟩
set_option maxHeartbeats 2000000 in
set_option maxRecDepth 100000 in
instance TT (x_:Int):CM En (tP x_) 142 [.int .i64 x_] (fun y=> .bool y) (fun _=> []):=by
 refine enQ noJ Tryz.func142 Tryz.ntmps142 (tP.eq_1 ..) fun r hw=> ?_
 exact auR
set_option maxHeartbeats 2000000 in
set_option maxRecDepth 100000 in
instance TU (x_:Int) (y:Int):CM En (yR x_ y) 109 [.int .i64 x_,.int .i64 y] (fun y=> .bool y) (fun _=> []):=by
 refine enQ noJ Tryz.func109 Tryz.ntmps109 (yR.eq_1 ..) fun r hw=> ?_
 exact auR
set_option maxHeartbeats 2000000 in
set_option maxRecDepth 100000 in
instance TV (x_:Int):CM En (tQ x_) 110 [.int .i64 x_] (fun y=> .bool y) (fun _=> []):=by
 refine enQ noJ Tryz.func110 Tryz.ntmps110 (tQ.eq_1 ..) fun r hw=> ?_
 exact auR
set_option maxHeartbeats 2000000 in
set_option maxRecDepth 100000 in
instance TW (x_:(List Int)) (target:Int):CM En (yS x_ target) 70 [.sl none 1 false (x_.map (V.int .i64)),.int .i64 target] (fun y=> .tup [.int .i64 y.1,.bool y.2]) (fun _=> []):=by
 refine enQ noJ Tryz.func70 Tryz.ntmps70 (yS.eq_1 ..) fun r hw=> ?_
 intro hF hM
 replace hM:=aH hM;obtain ⟨f1,d1,hf1,hd1,hM⟩:=hM
 refine aK (fun n S=> ∃p:Int×Int,S=(⟨[(0,.sl none 1 false (x_.map (V.int .i64))),(1,.int .i64 target),(6,.int .i64 (x_.length:Int)),(7,.int .i64 p.1),(8,.int .i64 p.2)],[],0⟩:St)∧((0≤p.1)∧(p.1≤p.2)∧(0≤p.1)∧(p.1≤p.2)∧(p.2≤(x_.length:Int)))∧(p.2 - p.1).toNat<n∧ae n f1 d1 p=r) (((x_.length:Int) - 0).toNat+1) _ sbQ sbQ ⟨(0,(x_.length:Int)),rfl,⟨by (first|exact omQ|(clear hM;first|(have hq:=dU p1.1 p1.2 (by omega) (by omega) (by omega);exact an))),by (first|exact omQ|(clear hM;first|(have hq:=dU p1.1 p1.2 (by omega) (by omega) (by omega);exact an))),by (first|exact omQ|(clear hM;first|(have hq:=dU p1.1 p1.2 (by omega) (by omega) (by omega);exact an))),by (first|exact omQ|(clear hM;first|(have hq:=dU p1.1 p1.2 (by omega) (by omega) (by omega);exact an))),by (first|exact omQ|(clear hM;first|(have hq:=dU p1.1 p1.2 (by omega) (by omega) (by omega);exact an)))⟩,(Nat.lt_succ_self _),hM⟩ ?_
 clear hM
 rintro n1 S ⟨p1,rfl,hfa1,hm1,hM⟩
 have hA0:=fun a0 a1 a2=>dU p1.1 p1.2 a0 a1 a2
 replace hM:=aI hM (by omega) hf1;obtain ⟨ag1,hag1,hM⟩:=hM
 replace hfa1:=nzQ hfa1
 replace hm1:=nzQ hm1
 have ha1:al .i64 p1.1 1=p1.1+1:=aJ (by exact omA) (by exact omA)
 replace hF:=(And.intro ha1 hF)
 revert hM;revert hF
 refine slQ ?_
 refine av fun _ _ _=> ?_
 have ha4:al .i64 p1.1 p1.2=(p1.1+p1.2):=lr (by exact omR) (by exact omR)
 intro hF hM
 try simp only [ha4]
 replace hF:=(And.intro ha4 hF)
 revert hM;revert hF
 refine slQ ?_
 refine ax fun _ _ _ _=> ?_
 refine cdQ (fun _ _ _=> ?_) (fun _ _ _=> ?_)
 ·have ha10:al .i64 (ah .i64 (aq .u64 (ah .u64 (p1.1+p1.2)) 1)) 1=((ah .i64 (aq .u64 (ah .u64 (p1.1+p1.2)) 1))+1):=lr (by exact omR) (by exact omR)
  intro hF hM
  try simp only [ha10]
  refine aE (n1 - 1) _ (by omega) sbQ sbQ ⟨(((ah .i64 (aq .u64 (ah .u64 (p1.1+p1.2)) 1))+1),p1.2),rfl,⟨by (clear hM;first|omega|(have hq:=dU p1.1 p1.2 (by omega) (by omega) (by omega);omega)),by (clear hM;first|omega|(have hq:=dU p1.1 p1.2 (by omega) (by omega) (by omega);omega)),by (clear hM;first|omega|(have hq:=dU p1.1 p1.2 (by omega) (by omega) (by omega);omega)),by (clear hM;first|omega|(have hq:=dU p1.1 p1.2 (by omega) (by omega) (by omega);omega)),by (clear hM;first|omega|(have hq:=dU p1.1 p1.2 (by omega) (by omega) (by omega);omega))⟩,by (clear hM;first|omega|(have hq:=dU p1.1 p1.2 (by omega) (by omega) (by omega);omega)),aD hM hag1⟩
 ·intro hF hM
  refine aE (n1 - 1) _ (by omega) sbQ sbQ ⟨(p1.1,(ah .i64 (aq .u64 (ah .u64 (p1.1+p1.2)) 1))),rfl,⟨by (clear hM;first|omega|(have hq:=dU p1.1 p1.2 (by omega) (by omega) (by omega);omega)),by (clear hM;first|omega|(have hq:=dU p1.1 p1.2 (by omega) (by omega) (by omega);omega)),by (clear hM;first|omega|(have hq:=dU p1.1 p1.2 (by omega) (by omega) (by omega);omega)),by (clear hM;first|omega|(have hq:=dU p1.1 p1.2 (by omega) (by omega) (by omega);omega)),by (clear hM;first|omega|(have hq:=dU p1.1 p1.2 (by omega) (by omega) (by omega);omega))⟩,by (clear hM;first|omega|(have hq:=dU p1.1 p1.2 (by omega) (by omega) (by omega);omega)),aD hM hag1⟩
set_option maxHeartbeats 2000000 in
set_option maxRecDepth 100000 in
instance TX (s:au) (c0:aw):CM En (tR s c0) 79 [(aM s),.pp 40 true ((bW c0))] (fun y=> .bool y) (fun _=> []):=by
 refine enQ noJ Tryz.func79 Tryz.ntmps79 (tR.eq_1 ..) fun r hw=> ?_
 exact auR
set_option maxHeartbeats 2000000 in
set_option maxRecDepth 100000 in
instance TY (s:(List au)) (f__c0:aw):CM En (yT s f__c0) 77 [.sl none 80 true (s.map aM),.fn 79 [.pp 40 true ((bW f__c0))]] (fun y=> .int .i64 y) (fun _=> []):=by
 refine enQ noJ Tryz.func77 Tryz.ntmps77 (yT.eq_1 ..) fun r hw=> ?_
 intro hF hM
 replace hM:=aH hM;obtain ⟨f1,d1,hf1,hd1,hM⟩:=hM
 refine aK (fun n S=> ∃p:Int,S=(⟨[(0,.sl none 80 true (s.map aM)),(1,.fn 79 [.pp 40 true ((bW f__c0))]),(7,.int .i64 (s.length:Int)),(8,.int .i64 p)],[],0⟩:St)∧((0≤p)∧(p≤(s.length:Int)))∧((s.length:Int) - p).toNat<n∧ae n f1 d1 p=r) (((s.length:Int) - 0).toNat+1) _ sbQ sbQ ⟨0,rfl,⟨omQ,omQ⟩,(Nat.lt_succ_self _),hM⟩ ?_
 clear hM
 rintro n1 S ⟨p1,rfl,hfa1,hm1,hM⟩
 replace hM:=aI hM (by omega) hf1;obtain ⟨ag1,hag1,hM⟩:=hM
 replace hfa1:=nzQ hfa1
 replace hm1:=nzQ hm1
 have ha1:al .i64 p1 1=p1+1:=aJ omQ omQ
 replace hF:=(And.intro ha1 hF)
 revert hM;revert hF
 refine slQ ?_
 refine av fun _ _ _=> ?_
 refine ax fun _ _ _ _=> ?_
 refine az fun _ _ _=> ?_
 intro hF hM
 refine aE (n1 - 1) _ (by omega) sbQ sbQ ⟨(p1+1),rfl,⟨omQ,omQ⟩,omQ,aD hM hag1⟩
set_option maxHeartbeats 2000000 in
set_option maxRecDepth 100000 in
instance TZ (s:(List au)) (f__c0:aw):CM En (tS s f__c0) 30 [.sl none 80 true (s.map aM),.fn 79 [.pp 40 true ((bW f__c0))]] (fun y=> .bool y) (fun _=> []):=by
 refine enQ noJ Tryz.func30 Tryz.ntmps30 (tS.eq_1 ..) fun r hw=> ?_
 exact auR
set_option maxHeartbeats 2000000 in
set_option maxRecDepth 100000 in
instance T1 (c:bh) (c0_c0:aw):CM En (yU c c0_c0) 80 [(bf c),.pp 1 false (.fn 79 [.pp 40 true ((bW c0_c0))])] (fun y=> .bool y) (fun _=> []):=by
 refine enQ noJ Tryz.func80 Tryz.ntmps80 (yU.eq_1 ..) fun r hw=> ?_
 exact auR
set_option maxHeartbeats 2000000 in
set_option maxRecDepth 100000 in
instance T2 (s:(List bh)) (f__c0_c0:aw):CM En (yV s f__c0_c0) 75 [.sl none 81 true (s.map bf),.fn 80 [.pp 1 false (.fn 79 [.pp 40 true ((bW f__c0_c0))])]] (fun y=> .int .i64 y) (fun _=> []):=by
 refine enQ noJ Tryz.func75 Tryz.ntmps75 (yV.eq_1 ..) fun r hw=> ?_
 intro hF hM
 replace hM:=aH hM;obtain ⟨f1,d1,hf1,hd1,hM⟩:=hM
 refine aK (fun n S=> ∃p:Int,S=(⟨[(0,.sl none 81 true (s.map bf)),(1,.fn 80 [.pp 1 false (.fn 79 [.pp 40 true ((bW f__c0_c0))])]),(7,.int .i64 (s.length:Int)),(8,.int .i64 p)],[],0⟩:St)∧((0≤p)∧(p≤(s.length:Int)))∧((s.length:Int) - p).toNat<n∧ae n f1 d1 p=r) (((s.length:Int) - 0).toNat+1) _ sbQ sbQ ⟨0,rfl,⟨omQ,omQ⟩,(Nat.lt_succ_self _),hM⟩ ?_
 clear hM
 rintro n1 S ⟨p1,rfl,hfa1,hm1,hM⟩
 replace hM:=aI hM (by omega) hf1;obtain ⟨ag1,hag1,hM⟩:=hM
 replace hfa1:=nzQ hfa1
 replace hm1:=nzQ hm1
 have ha1:al .i64 p1 1=p1+1:=aJ omQ omQ
 replace hF:=(And.intro ha1 hF)
 revert hM;revert hF
 refine slQ ?_
 refine av fun _ _ _=> ?_
 refine ax fun _ _ _ _=> ?_
 refine az fun _ _ _=> ?_
 intro hF hM
 refine aE (n1 - 1) _ (by omega) sbQ sbQ ⟨(p1+1),rfl,⟨omQ,omQ⟩,omQ,aD hM hag1⟩
set_option maxHeartbeats 2000000 in
set_option maxRecDepth 100000 in
instance T3 (s:(List bh)) (f__c0_c0:aw):CM En (yW s f__c0_c0) 26 [.sl none 81 true (s.map bf),.fn 80 [.pp 1 false (.fn 79 [.pp 40 true ((bW f__c0_c0))])]] (fun y=> .bool y) (fun _=> []):=by
 refine enQ noJ Tryz.func26 Tryz.ntmps26 (yW.eq_1 ..) fun r hw=> ?_
 exact auR
set_option maxHeartbeats 2000000 in
set_option maxRecDepth 100000 in
instance T4 (m:aw) (p_:aA):CM En (qf m p_) 36 [(bW m),.agg [.int .i64 p_.Number,.sl none 80 true (p_.Spends.map aM),.sl none 81 true (p_.Chains.map bf),.sl none 5 true (p_.Escrow.map bz)]] (fun y=> .bool y) (fun _=> []):=by
 refine cmQ fun r hM=> ?_
 rw [qf.eq_1] at hM
 refine cg aU bJ noJ Tryz.func36 rfl Tryz.ntmps36 (by kernel_rfl) fun hw=>bP ?_
 refine spQ ?_
 replace hw:=nzQ hw
 replace hM:=ar hM;obtain ⟨x1,hx2,hM⟩:=hM
 have hcx1:=cmU hx2
 refine fx hcx1 clQ clQ (fun hw3=> ?_)
 replace hw3:=nzQ hw3
 refine spQ ?_
 refine fT (fun h4=> ?_) (fun h4=> ?_)
 ·subst h4
  rw [if_neg (by decide)] at hM
  refine spQ ?_
  replace hM:=ar hM;obtain ⟨x5,hx6,hM⟩:=hM
  have hcx5:=cmU hx6
  refine Mj hcx5 clQ (Mi (i:=2) (j:=0) rfl rfl clQ clQ) (fun hw7=> ?_)
  replace hw7:=nzQ hw7
  refine spQ ?_
  subst hM
  exact bX lfQ
 ·subst h4
  rw [if_pos rfl] at hM
  refine spQ ?_
  subst hM
  exact bX lfQ
set_option maxHeartbeats 2000000 in
set_option maxRecDepth 100000 in
instance T5 (s:(List aL)) (f__c0:aA):CM En (fF s f__c0) 14 [.sl none 35 true (s.map aY),.fn 32 [.pp 4 true (.agg [.int .i64 f__c0.Number,.sl none 80 true (f__c0.Spends.map aM),.sl none 81 true (f__c0.Chains.map bf),.sl none 5 true (f__c0.Escrow.map bz)])]] (fun y=> .int .i64 y) (fun _=> []):=by
 refine enQ noJ Tryz.func14 Tryz.ntmps14 (fF.eq_1 ..) fun r hw=> ?_
 intro hF hM
 replace hM:=aH hM;obtain ⟨f1,d1,hf1,hd1,hM⟩:=hM
 refine aK (fun n S=> ∃p:Int,S=(⟨[(0,.sl none 35 true (s.map aY)),(1,.fn 32 [.pp 4 true (br f__c0)]),(7,.int .i64 (s.length:Int)),(8,.int .i64 p)],[],0⟩:St)∧((0≤p)∧(p≤(s.length:Int)))∧((s.length:Int) - p).toNat<n∧ae n f1 d1 p=r) (((s.length:Int) - 0).toNat+1) _ sbQ sbQ ⟨0,rfl,⟨omQ,omQ⟩,(Nat.lt_succ_self _),hM⟩ ?_
 clear hM
 rintro n1 S ⟨p1,rfl,hfa1,hm1,hM⟩
 replace hM:=aI hM (by omega) hf1;obtain ⟨ag1,hag1,hM⟩:=hM
 replace hfa1:=nzQ hfa1
 replace hm1:=nzQ hm1
 have ha1:al .i64 p1 1=p1+1:=aJ omQ omQ
 replace hF:=(And.intro ha1 hF)
 revert hM;revert hF
 refine slQ ?_
 refine av fun _ _ _=> ?_
 refine ax fun _ _ _ _=> ?_
 refine az fun _ _ _=> ?_
 intro hF hM
 refine aE (n1 - 1) _ (by omega) sbQ sbQ ⟨(p1+1),rfl,⟨omQ,omQ⟩,omQ,aD hM hag1⟩
set_option maxHeartbeats 2000000 in
set_option maxRecDepth 100000 in
theorem zy (b:aX) (l:(List bg)) (y:Int) (m:aw) (p_:aA) (hp0:cI p_) (hp1:l.length≤100) (hp2:okQ m.Queue):CM En (cU b l y m p_) 8 [(bS b),.sl none 11 true (l.map cP),.int .i64 y,(bW m),.agg [.int .i64 p_.Number,.sl none 80 true (p_.Spends.map aM),.sl none 81 true (p_.Chains.map bf),.sl none 5 true (p_.Escrow.map bz)]] (fun y=> .tup [(bW y.1),.int .i64 y.2.1,.int .i64 y.2.2]) (fun _=> []):=by
 refine cmQ fun r hM=> ?_
 rw [cU.eq_1] at hM
 refine cg aU bJ [12] Tryz.func8 rfl Tryz.ntmps8 (by kernel_rfl) fun hw=>bP ?_
 refine spQ ?_
 replace hw:=nzQ hw
 replace hM:=ar hM;obtain ⟨x1,hx2,hM⟩:=hM
 have hcx1:=cmU hx2
 refine aN hcx1 clQ clQ (fun hw3=> ?_)
 replace hw3:=nzQ hw3
 refine spQ ?_
 have hq4:=nzQ (cfU hx2)
 have hq5:=zn hx2
 replace hq5:=nzQ hq5
 refine bQ (fun h6=> ?_) (fun h6=> ?_)
 ·rw [if_pos h6] at hM
  refine ap h6 ?_
  subst hM
  exact bX (cm h6)
 ·rw [if_neg (bN h6)] at hM
  refine ap h6 ?_
  have nh6:=nzQ h6
  try have hr8:=mpQ nh6
  replace hM:=ar hM;obtain ⟨x9,hx10,hM⟩:=hM
  have hcx9:=cmU hx10
  refine fx hcx9 clQ clQ (fun hw11=> ?_)
  replace hw11:=nzQ hw11
  refine spQ ?_
  have hq12:=Mu hx10
  replace hq12:=nzQ hq12
  refine bQ (fun h13=> ?_) (fun h13=> ?_)
  ·rw [if_pos h13] at hM
   refine ap h13 ?_
   subst hM
   exact bX (cm (And.intro h6 h13))
  ·rw [if_neg (bN h13)] at hM
   refine ap h13 ?_
   have nh13:=nzQ h13
   try have hr15:=mpQ nh13
   refine bw omQ ?_
   have he16:=fun d=>cE (l:=m.Open) (f:=aY) (i:=x9) omQ d
   refine ap he16 ?_
   replace hM:=ar hM;obtain ⟨x17,hx18,hM⟩:=hM
   have hcx17:=cmH hx18 (Nr b l y (gt m.Open x9) p_ (by (first|exact hp0|exact hp1)) (by (first|exact hp0|exact hp1)))
   refine aN hcx17 (ao he16) (ao he16) (fun hw19=> ?_)
   replace hw19:=nzQ hw19
   refine ap he16 ?_
   refine bQ (fun h20=> ?_) (fun h20=> ?_)
   ·rw [if_pos h20] at hM
    refine ap (And.intro he16 h20) ?_
    subst hM
    exact bX (cm (And.intro he16 (And.intro h6 (And.intro h13 h20))))
   ·rw [if_neg (bN h20)] at hM
    refine ap (And.intro he16 h20) ?_
    have nh20:=nzQ h20
    try have hr22:=mpQ nh20
    replace hM:=ar hM;obtain ⟨x23,hx24,hM⟩:=hM
    have hcx23:=cmH hx24 (Ee (m.Queue) (by (first|exact hp2|exact uc hp0|(show 1≤100;decide)|(have h9:=hp1;omega))) (by (first|exact hp2|exact uc hp0|(show 1≤100;decide)|(have h9:=hp1;omega))))
    refine aN hcx23 (ao he16) (ao he16) (fun hw25=> ?_)
    replace hw25:=nzQ hw25
    refine ap he16 ?_
    refine HV (Mc (J:=noJ) aU [_,_,_] [_,_] _ _ _ _ _ 97 100 4 56 57 58 59 60 61 7 .i64 2 (fj ([p_]:List aA)) (fun x=>List.contains x23 x=false) rfl ⟨rfl,rfl,rfl⟩ (show En.P.underlying 97=some (.map 100 4) from Tryz.underlying97) rfl ⟨rfl,rfl,rfl⟩ ⟨rfl,rfl,rfl⟩ rfl ⟨rfl,rfl,rfl⟩ ⟨rfl,rfl,rfl⟩ (by kernel_rfl) (by decide) ?_)
    refine Md (J:=noJ) ?_
    try refine ap he16 ?_
    replace hM:=ar hM;obtain ⟨x26,hx27,hM⟩:=hM
    have hcx26:=cmH hx27 (Ee ([p_]:List aA) (by (first|exact hp2|exact uc hp0|(show 1≤100;decide)|(have h9:=hp1;omega))) (by (first|exact hp2|exact uc hp0|(show 1≤100;decide)|(have h9:=hp1;omega))))
    refine lv hcx26 (ie 6 (T:=41) (n:=4) (g:=true) (z:=(some false)) (l:=([p_]:List aA).map br) (ao he16)) (ao he16) (fun hw28=> ?_)
    replace hw28:=nzQ hw28
    refine ap he16 ?_
    try refine ap he16 ?_
    subst hx27
    refine ⟨rfl,rfl,⟨rfl,rfl,rfl,rfl⟩,?_,?_⟩
    ·intro p9 x9 hx9 hl9
     obtain ⟨xa9,xb9,rfl⟩:=Mf hl9
     replace hM:=Mg hM hx9
     refine Me ?_
     simp only [itS,eg,t_,St.put,List.map_cons,List.map_nil,Nat.reduceEqDiff,if_true,if_false,↓reduceIte]
     try refine ap he16 ?_
     refine bQ (fun h29=> ?_) (fun h29=> ?_)
     ·rw [if_pos h29] at hM
      refine ap (And.intro he16 h29) ?_
      have nh29:=nzQ h29
      try have hr30:=mpQ nh29
      try simp only [go_sem,ct,cu,List.length_replicate,ca,Int.toNat_natCast,↓reduceIte,Nat.reduceEqDiff,Nat.reduceAdd,Int.reduceAdd,Nat.reduceMul,Nat.reduceLeDiff,Nat.reduceLT,Int.reduceLE,Int.reduceLT,Int.reduceNeg,Int.reduceToNat,he16,ua]
      subst hM
      exact bX (cm (And.intro he16 (And.intro h6 (And.intro h13 (And.intro h20 h29)))))
     ·rw [if_neg (bN h29)] at hM
      refine ap (And.intro he16 h29) ?_
      have nh29:=nzQ h29
      try have hr31:=mpQ nh29
      try simp only [go_sem,ct,cu,List.length_replicate,ca,Int.toNat_natCast,↓reduceIte,Nat.reduceEqDiff,Nat.reduceAdd,Int.reduceAdd,Nat.reduceMul,Nat.reduceLeDiff,Nat.reduceLT,Int.reduceLE,Int.reduceLT,Int.reduceNeg,Int.reduceToNat,he16,ua,itS,eg]
      first|exact ⟨by assumption,fS sbQ sbQ⟩|exact fS sbQ sbQ
    ·intro hend9
     replace hM:=Mh hM hend9
     simp only [eg,Nat.reduceEqDiff,if_true,if_false,↓reduceIte]
     try refine ap he16 ?_
     refine iW 136 22 [19,66,67,68,69,70,71,72,73,74,75,76,77,78,79,80,81,82,83,84,85,86] [] ([[],[0],[],[],[3],[3,4],[],[6],[6,7],[3,4,5,6,7,8],[],[10],[],[12],[12,13],[],[15],[0,1,2,3,4,5,6,7,8,9,10,11,12,13,14,15,16],[0,1,2,3,4,5,6,7,8,9,10,11,12,13,14,15,16,17],[0,1,2,3,4,5,6,7,8,9,10,11,12,13,14,15,16,17,18],[0,1,2,3,4,5,6,7,8,9,10,11,12,13,14,15,16,17,18],[0,1,2,3,4,5,6,7,8,9,10,11,12,13,14,15,16,17,18,19]]++[List.range 22]) [] (by kernel_rfl) (by exact alQ) ?_
     refine ap he16 ?_
     replace hM:=ar hM;obtain ⟨x32,hx33,hM⟩:=hM
     have hcx32:=cmU hx33
     refine bA hcx32 (ao he16) (ao he16) ?_
     refine ap he16 ?_
     replace hM:=ar hM;obtain ⟨x34,hx35,hM⟩:=hM
     have hcx34:=cmU hx35
     refine bA hcx34 (ao he16) (ao he16) ?_
     refine ap he16 ?_
     replace hM:=ar hM;obtain ⟨x36,hx37,hM⟩:=hM
     have hcx36:=cmU hx37
     refine bA hcx36 (ao he16) (ao he16) ?_
     refine ap he16 ?_
     replace hM:=ar hM;obtain ⟨x38,hx39,hM⟩:=hM
     have hcx38:=cmU hx39
     refine aN hcx38 (ao he16) (ao he16) (fun hw40=> ?_)
     replace hw40:=nzQ hw40
     refine ap he16 ?_
     refine fT (fun h41=> ?_) (fun h41=> ?_)
     ·subst h41
      rw [if_neg (by decide)] at hM
      refine ap he16 ?_
      refine bQ (fun h42=> ?_) (fun h42=> ?_)
      ·rw [if_pos h42] at hM
       refine ap (And.intro he16 h42) ?_
       subst hM
       exact bX (cm (And.intro he16 (And.intro h6 (And.intro h13 (And.intro h20 h42)))))
      ·rw [if_neg (bN h42)] at hM
       refine ap (And.intro he16 h42) ?_
       have nh42:=nzQ h42
       try have hr44:=mpQ nh42
       refine fT (fun h45=> ?_) (fun h45=> ?_)
       ·rw [if_neg (bN h45)] at hM
        refine ap (And.intro he16 h45) ?_
        have nh45:=nzQ h45
        try have hr46:=mpQ nh45
        refine bQ (fun h47=> ?_) (fun h47=> ?_)
        ·rw [if_pos h47] at hM
         refine ap (And.intro he16 h47) ?_
         subst hM
         exact bX (cm (And.intro he16 (And.intro h6 (And.intro h13 (And.intro h20 (And.intro h42 (And.intro h45 h47)))))))
        ·rw [if_neg (bN h47)] at hM
         refine ap (And.intro he16 h47) ?_
         have nh47:=nzQ h47
         try have hr49:=mpQ nh47
         replace hM:=ar hM;obtain ⟨x50,hx51,hM⟩:=hM
         have hcx50:=cmH hx51 (zq m (by (first|omega|exact pfQ)))
         refine aN hcx50 (ao he16) (ao he16) (fun hw52=> ?_)
         replace hw52:=nzQ hw52
         refine ap he16 ?_
         have hq53:=zm hx51
         replace hq53:=nzQ hq53
         replace hM:=ar hM;obtain ⟨x54,hx55,hM⟩:=hM
         have hcx54:=KF none (x50.Open) x9 (al .i64 x9 1) (by (first|omega|exact pfQ|(rw [aJ (by omega) (by omega)];omega))) (by (first|omega|exact pfQ|(rw [aJ (by omega) (by omega)];omega))) (by (first|omega|exact pfQ|(rw [aJ (by omega) (by omega)];omega))) (by (first|omega|exact pfQ|(rw [aJ (by omega) (by omega)];omega)))
         rw [←hx55] at hcx54
         refine jY [30] hcx54 (by decide) (cO he16) (cO he16) (fun hw56=> ?_)
         replace hw56:=nzQ hw56
         refine ap he16 ?_
         refine bw omQ ?_
         refine ap he16 ?_
         refine iW 136 5 [122,123,124,125,126] [] ([[],[0],[],[2],[2,3]]++[List.range 5,List.range 6,List.range 7]) [] (by kernel_rfl) (by exact alQ) ?_
         refine ap he16 ?_
         replace hM:=ar hM;obtain ⟨x57,hx58,hM⟩:=hM
         have hcx57:=cmU hx58
         refine bA hcx57 (ao he16) (ao he16) ?_
         refine ap he16 ?_
         refine bw omQ ?_
         refine ap he16 ?_
         subst hM
         exact bX (cm (And.intro he16 (And.intro h6 (And.intro h13 (And.intro h20 (And.intro h42 (And.intro h45 h47)))))))
       ·rw [if_pos h45] at hM
        refine ap (And.intro he16 h45) ?_
        subst hM
        exact bX (cm (And.intro he16 (And.intro h6 (And.intro h13 (And.intro h20 (And.intro h42 h45))))))
     ·subst h41
      rw [if_pos rfl] at hM
      refine ap he16 ?_
      subst hM
      exact bX (cm (And.intro he16 (And.intro h6 (And.intro h13 h20))))
instance (priority:=1052):DRD 6 26 8 [17,18,19,20,21,22,23,24] [] ([[],[],[0,1],[0,1,2],[],[],[4,5],[4,5,6]]++[List.range 8]) []:=⟨trivial⟩
set_option maxHeartbeats 2000000 in
set_option maxRecDepth 100000 in
instance T6 (a_:(List aL)) (b:(List aL)):CM En (nL a_ b) 85 [.sl none 35 true (a_.map aY),.sl none 35 true (b.map aY)] (fun y=> .bool y) (fun _=> []):=by
 refine enQ noJ Tryz.func85 Tryz.ntmps85 (nL.eq_1 ..) fun r hw=> ?_
 refine az fun _ _ _=> ?_
 intro hF hM
 replace hM:=aH hM;obtain ⟨f4,d4,hf4,hd4,hM⟩:=hM
 refine aK (fun n S=> ∃p:Int,S=(⟨[(0,.sl none 35 true (a_.map aY)),(1,.sl none 35 true (b.map aY)),(5,.int .i64 p)],[],0⟩:St)∧((0≤p)∧(p≤(a_.length:Int)))∧((a_.length:Int) - p).toNat<n∧ae n f4 d4 p=r) (((a_.length:Int) - 0).toNat+1) _ sbQ sbQ ⟨0,rfl,⟨omQ,omQ⟩,(Nat.lt_succ_self _),hM⟩ ?_
 clear hM
 rintro n4 S ⟨p4,rfl,hfa4,hm4,hM⟩
 replace hM:=aI hM (by omega) hf4;obtain ⟨ag4,hag4,hM⟩:=hM
 replace hfa4:=nzQ hfa4
 replace hm4:=nzQ hm4
 have ha4:al .i64 p4 1=p4+1:=aJ omQ omQ
 replace hF:=(And.intro ha4 hF)
 revert hM;revert hF
 refine slQ ?_
 refine av fun _ _ _=> ?_
 intro hF hM
 refine bQ (fun h9=> ?_) (fun h9=> ?_)
 ·have kh9:(!(j5 (gt a_ p4) (gt b p4)))=true:=h9
  rw [if_pos kh9] at hM
  replace hF:=(And.intro h9 hF)
  revert hM;revert hF
  refine slQ ?_
  intro hF hM
  have nh9:=nzQ kh9
  try have hr10:=mpQ nh9
  exact auQ
 ·have kh9:(!(j5 (gt a_ p4) (gt b p4)))=false:=h9
  rw [if_neg (bN kh9)] at hM
  replace hF:=(And.intro h9 hF)
  revert hM;revert hF
  refine slQ ?_
  intro hF hM
  have nh9:=nzQ kh9
  try have hr11:=mpQ nh9
  refine aE (n4 - 1) _ (by omega) sbQ sbQ ⟨(p4+1),rfl,⟨omQ,omQ⟩,omQ,aD hM hag4⟩
instance (priority:=1053):DRD 6 38 10 [27,28,29,30,31,32,33,34,35,36] [] ([[],[0],[],[0,1,2],[0,1,2,3],[],[5],[],[5,6,7],[5,6,7,8]]++[List.range 10]) []:=⟨trivial⟩
set_option maxHeartbeats 2000000 in
set_option maxRecDepth 100000 in
instance T7 (p_:eG) (q:eG):CM En (qg p_ q) 90 [.agg [.int .i64 p_.Index,.sl none 32 true (p_.L.map aF)],.agg [.int .i64 q.Index,.sl none 32 true (q.L.map aF)]] (fun y=> .bool y) (fun _=> []):=by
 refine enQ noJ Tryz.func90 Tryz.ntmps90 (qg.eq_1 ..) fun r hw=> ?_
 refine av fun _ _ _=> ?_
 refine az fun _ _ _=> ?_
 intro hF hM
 replace hM:=aH hM;obtain ⟨f6,d6,hf6,hd6,hM⟩:=hM
 refine aK (fun n S=> ∃p:Int,S=(⟨[(2,.ptr 0 0),(3,.ptr 1 0),(5,.int .i64 p)],[(0,.var 2 true (.agg [.int .i64 p_.Index,.sl none 32 true (p_.L.map aF)])),(1,.var 2 true (.agg [.int .i64 q.Index,.sl none 32 true (q.L.map aF)]))],2⟩:St)∧((0≤p)∧(p≤(p_.L.length:Int)))∧((p_.L.length:Int) - p).toNat<n∧ae n f6 d6 p=r) (((p_.L.length:Int) - 0).toNat+1) _ sbQ sbQ ⟨0,rfl,⟨omQ,omQ⟩,(Nat.lt_succ_self _),hM⟩ ?_
 clear hM
 rintro n6 S ⟨p6,rfl,hfa6,hm6,hM⟩
 replace hM:=aI hM (by omega) hf6;obtain ⟨ag6,hag6,hM⟩:=hM
 replace hfa6:=nzQ hfa6
 replace hm6:=nzQ hm6
 have ha6:al .i64 p6 1=p6+1:=aJ omQ omQ
 replace hF:=(And.intro ha6 hF)
 revert hM;revert hF
 refine slQ ?_
 refine av fun _ _ _=> ?_
 intro hF hM
 refine bQ (fun h11=> ?_) (fun h11=> ?_)
 ·have kh11:(!(eH (gt p_.L p6) (gt q.L p6)))=true:=h11
  rw [if_pos kh11] at hM
  replace hF:=(And.intro h11 hF)
  revert hM;revert hF
  refine slQ ?_
  intro hF hM
  have nh11:=nzQ kh11
  try have hr12:=mpQ nh11
  exact auQ
 ·have kh11:(!(eH (gt p_.L p6) (gt q.L p6)))=false:=h11
  rw [if_neg (bN kh11)] at hM
  replace hF:=(And.intro h11 hF)
  revert hM;revert hF
  refine slQ ?_
  intro hF hM
  have nh11:=nzQ kh11
  try have hr13:=mpQ nh11
  refine aE (n6 - 1) _ (by omega) sbQ sbQ ⟨(p6+1),rfl,⟨omQ,omQ⟩,omQ,aD hM hag6⟩
instance (priority:=1054):DRD 6 60 10 [49,50,51,52,53,54,55,56,57,58] [] ([[],[0],[],[0,1,2],[0,1,2,3],[],[5],[],[5,6,7],[5,6,7,8]]++[List.range 10]) []:=⟨trivial⟩
set_option maxHeartbeats 2000000 in
set_option maxRecDepth 100000 in
instance T8 (a_:au) (b:au):CM En (ku a_ b) 44 [(aM a_),.agg (.int .i64 b.Coin.Bank:: .int .i64 b.Coin.Epoch:: .int .i64 b.Coin.Denom:: .int .i64 b.Coin.Depth:: .int .i64 b.Coin.A:: .int .u8 (gt b.Coin.Root 0):: .int .u8 (gt b.Coin.Root 1):: .int .u8 (gt b.Coin.Root 2):: .int .u8 (gt b.Coin.Root 3):: .int .u8 (gt b.Coin.Root 4):: .int .u8 (gt b.Coin.Root 5):: .int .u8 (gt b.Coin.Root 6):: .int .u8 (gt b.Coin.Root 7):: .int .u8 (gt b.Coin.Root 8):: .int .u8 (gt b.Coin.Root 9):: .int .u8 (gt b.Coin.Root 10):: .int .u8 (gt b.Coin.Root 11):: .int .u8 (gt b.Coin.Root 12):: .int .u8 (gt b.Coin.Root 13):: .int .u8 (gt b.Coin.Root 14):: .int .u8 (gt b.Coin.Root 15):: .int .u8 (gt b.Coin.Root 16):: .int .u8 (gt b.Coin.Root 17):: .int .u8 (gt b.Coin.Root 18):: .int .u8 (gt b.Coin.Root 19):: .int .u8 (gt b.Coin.Root 20):: .int .u8 (gt b.Coin.Root 21):: .int .u8 (gt b.Coin.Root 22):: .int .u8 (gt b.Coin.Root 23):: .int .u8 (gt b.Coin.Root 24):: .int .u8 (gt b.Coin.Root 25):: .int .u8 (gt b.Coin.Root 26):: .int .u8 (gt b.Coin.Root 27):: .int .u8 (gt b.Coin.Root 28):: .int .u8 (gt b.Coin.Root 29):: .int .u8 (gt b.Coin.Root 30):: .int .u8 (gt b.Coin.Root 31):: .int .i64 b.Coin.Sign.Z:: .int .i64 b.Coin.Sign.A:: .int .i64 b.Coin.Sign.B:: .int .i64 b.Coin.Sign.R:: .int .i64 b.Node.Level:: .int .i64 b.Node.Index:: .int .u8 (gt b.Context.Payee 0):: .int .u8 (gt b.Context.Payee 1):: .int .u8 (gt b.Context.Payee 2):: .int .u8 (gt b.Context.Payee 3):: .int .u8 (gt b.Context.Payee 4):: .int .u8 (gt b.Context.Payee 5):: .int .u8 (gt b.Context.Payee 6):: .int .u8 (gt b.Context.Payee 7):: .int .u8 (gt b.Context.Payee 8):: .int .u8 (gt b.Context.Payee 9):: .int .u8 (gt b.Context.Payee 10):: .int .u8 (gt b.Context.Payee 11):: .int .u8 (gt b.Context.Payee 12):: .int .u8 (gt b.Context.Payee 13):: .int .u8 (gt b.Context.Payee 14):: .int .u8 (gt b.Context.Payee 15):: .int .u8 (gt b.Context.Payee 16):: .int .u8 (gt b.Context.Payee 17):: .int .u8 (gt b.Context.Payee 18):: .int .u8 (gt b.Context.Payee 19):: .int .u8 (gt b.Context.Payee 20):: .int .u8 (gt b.Context.Payee 21):: .int .u8 (gt b.Context.Payee 22):: .int .u8 (gt b.Context.Payee 23):: .int .u8 (gt b.Context.Payee 24):: .int .u8 (gt b.Context.Payee 25):: .int .u8 (gt b.Context.Payee 26):: .int .u8 (gt b.Context.Payee 27):: .int .u8 (gt b.Context.Payee 28):: .int .u8 (gt b.Context.Payee 29):: .int .u8 (gt b.Context.Payee 30):: .int .u8 (gt b.Context.Payee 31):: .int .i64 b.Context.Time:: .int .i64 b.Context.Number:: .sl none 3 true (b.Leaves.map dD):: .int .i64 b.Path.Index:: .sl none 32 true (b.Path.L.map aF)::[])] (fun y=> .bool y) (fun _=> []):=by
 refine enQ noJ Tryz.func44 Tryz.ntmps44 (ku.eq_1 ..) fun r hw=> ?_
 intro hF hM
 refine fT (fun h1=> ?_) (fun h1=> ?_)
 ·have kh1:(!(nb (a_.Coin) (b.Coin)))=false:=h1
  rw [if_neg (bN kh1)] at hM
  replace hF:=(And.intro h1 hF)
  revert hM;revert hF
  refine slQ ?_
  intro hF hM
  have nh1:=nzQ kh1
  try have hr2:=mpQ nh1
  refine fT (fun h3=> ?_) (fun h3=> ?_)
  ·have kh3:(!(nc (a_.Node) (b.Node)))=false:=h3
   rw [if_neg (bN kh3)] at hM
   replace hF:=(And.intro h3 hF)
   revert hM;revert hF
   refine slQ ?_
   intro hF hM
   have nh3:=nzQ kh3
   try have hr4:=mpQ nh3
   refine fT (fun h5=> ?_) (fun h5=> ?_)
   ·have kh5:(!(jk (a_.Context) (b.Context)))=false:=h5
    rw [if_neg (bN kh5)] at hM
    replace hF:=(And.intro h5 hF)
    revert hM;revert hF
    refine slQ ?_
    intro hF hM
    have nh5:=nzQ kh5
    try have hr6:=mpQ nh5
    revert hM;revert hF
    refine av fun _ _ _=> ?_
    refine ax fun _ _ _ _=> ?_
    refine az fun _ _ _=> ?_
    intro hF hM
    replace hM:=aH hM;obtain ⟨f15,d15,hf15,hd15,hM⟩:=hM
    refine aK (fun n S=> ∃p:Int,S=(⟨[(2,.ptr 0 0),(3,.ptr 1 0),(5,.int .i64 p)],[(0,.var 80 true ((aM a_))),(1,.var 80 true (.agg (.int .i64 b.Coin.Bank:: .int .i64 b.Coin.Epoch:: .int .i64 b.Coin.Denom:: .int .i64 b.Coin.Depth:: .int .i64 b.Coin.A:: .int .u8 (gt b.Coin.Root 0):: .int .u8 (gt b.Coin.Root 1):: .int .u8 (gt b.Coin.Root 2):: .int .u8 (gt b.Coin.Root 3):: .int .u8 (gt b.Coin.Root 4):: .int .u8 (gt b.Coin.Root 5):: .int .u8 (gt b.Coin.Root 6):: .int .u8 (gt b.Coin.Root 7):: .int .u8 (gt b.Coin.Root 8):: .int .u8 (gt b.Coin.Root 9):: .int .u8 (gt b.Coin.Root 10):: .int .u8 (gt b.Coin.Root 11):: .int .u8 (gt b.Coin.Root 12):: .int .u8 (gt b.Coin.Root 13):: .int .u8 (gt b.Coin.Root 14):: .int .u8 (gt b.Coin.Root 15):: .int .u8 (gt b.Coin.Root 16):: .int .u8 (gt b.Coin.Root 17):: .int .u8 (gt b.Coin.Root 18):: .int .u8 (gt b.Coin.Root 19):: .int .u8 (gt b.Coin.Root 20):: .int .u8 (gt b.Coin.Root 21):: .int .u8 (gt b.Coin.Root 22):: .int .u8 (gt b.Coin.Root 23):: .int .u8 (gt b.Coin.Root 24):: .int .u8 (gt b.Coin.Root 25):: .int .u8 (gt b.Coin.Root 26):: .int .u8 (gt b.Coin.Root 27):: .int .u8 (gt b.Coin.Root 28):: .int .u8 (gt b.Coin.Root 29):: .int .u8 (gt b.Coin.Root 30):: .int .u8 (gt b.Coin.Root 31):: .int .i64 b.Coin.Sign.Z:: .int .i64 b.Coin.Sign.A:: .int .i64 b.Coin.Sign.B:: .int .i64 b.Coin.Sign.R:: .int .i64 b.Node.Level:: .int .i64 b.Node.Index:: .int .u8 (gt b.Context.Payee 0):: .int .u8 (gt b.Context.Payee 1):: .int .u8 (gt b.Context.Payee 2):: .int .u8 (gt b.Context.Payee 3):: .int .u8 (gt b.Context.Payee 4):: .int .u8 (gt b.Context.Payee 5):: .int .u8 (gt b.Context.Payee 6):: .int .u8 (gt b.Context.Payee 7):: .int .u8 (gt b.Context.Payee 8):: .int .u8 (gt b.Context.Payee 9):: .int .u8 (gt b.Context.Payee 10):: .int .u8 (gt b.Context.Payee 11):: .int .u8 (gt b.Context.Payee 12):: .int .u8 (gt b.Context.Payee 13):: .int .u8 (gt b.Context.Payee 14):: .int .u8 (gt b.Context.Payee 15):: .int .u8 (gt b.Context.Payee 16):: .int .u8 (gt b.Context.Payee 17):: .int .u8 (gt b.Context.Payee 18):: .int .u8 (gt b.Context.Payee 19):: .int .u8 (gt b.Context.Payee 20):: .int .u8 (gt b.Context.Payee 21):: .int .u8 (gt b.Context.Payee 22):: .int .u8 (gt b.Context.Payee 23):: .int .u8 (gt b.Context.Payee 24):: .int .u8 (gt b.Context.Payee 25):: .int .u8 (gt b.Context.Payee 26):: .int .u8 (gt b.Context.Payee 27):: .int .u8 (gt b.Context.Payee 28):: .int .u8 (gt b.Context.Payee 29):: .int .u8 (gt b.Context.Payee 30):: .int .u8 (gt b.Context.Payee 31):: .int .i64 b.Context.Time:: .int .i64 b.Context.Number:: .sl none 3 true (b.Leaves.map dD):: .int .i64 b.Path.Index:: .sl none 32 true (b.Path.L.map aF)::[])))],2⟩:St)∧((0≤p)∧(p≤(a_.Leaves.length:Int)))∧((a_.Leaves.length:Int) - p).toNat<n∧ae n f15 d15 p=r) (((a_.Leaves.length:Int) - 0).toNat+1) _ sbQ sbQ ⟨0,rfl,⟨omQ,omQ⟩,(Nat.lt_succ_self _),hM⟩ ?_
    clear hM
    rintro n15 S ⟨p15,rfl,hfa15,hm15,hM⟩
    replace hM:=aI hM (by omega) hf15;obtain ⟨ag15,hag15,hM⟩:=hM
    replace hfa15:=nzQ hfa15
    replace hm15:=nzQ hm15
    have ha15:al .i64 p15 1=p15+1:=aJ omQ omQ
    replace hF:=(And.intro ha15 hF)
    revert hM;revert hF
    refine slQ ?_
    refine av fun _ _ _=> ?_
    intro hF hM
    refine bQ (fun h20=> ?_) (fun h20=> ?_)
    ·have kh20:(!(lM (gt a_.Leaves p15) (gt b.Leaves p15)))=true:=h20
     rw [if_pos kh20] at hM
     replace hF:=(And.intro h20 hF)
     revert hM;revert hF
     refine slQ ?_
     intro hF hM
     have nh20:=nzQ kh20
     try have hr21:=mpQ nh20
     exact auQ
    ·have kh20:(!(lM (gt a_.Leaves p15) (gt b.Leaves p15)))=false:=h20
     rw [if_neg (bN kh20)] at hM
     replace hF:=(And.intro h20 hF)
     revert hM;revert hF
     refine slQ ?_
     intro hF hM
     have nh20:=nzQ kh20
     try have hr22:=mpQ nh20
     refine aE (n15 - 1) _ (by omega) sbQ sbQ ⟨(p15+1),rfl,⟨omQ,omQ⟩,omQ,aD hM hag15⟩
   ·have kh5:(!(jk (a_.Context) (b.Context)))=true:=h5
    rw [if_pos kh5] at hM
    replace hF:=(And.intro h5 hF)
    revert hM;revert hF
    refine slQ ?_
    intro hF hM
    have nh5:=nzQ kh5
    try have hr25:=mpQ nh5
    exact auQ
  ·have kh3:(!(nc (a_.Node) (b.Node)))=true:=h3
   rw [if_pos kh3] at hM
   replace hF:=(And.intro h3 hF)
   revert hM;revert hF
   refine slQ ?_
   intro hF hM
   have nh3:=nzQ kh3
   try have hr26:=mpQ nh3
   exact auQ
 ·have kh1:(!(nb (a_.Coin) (b.Coin)))=true:=h1
  rw [if_pos kh1] at hM
  replace hF:=(And.intro h1 hF)
  revert hM;revert hF
  refine slQ ?_
  intro hF hM
  have nh1:=nzQ kh1
  try have hr27:=mpQ nh1
  exact auQ
instance (priority:=1055):DRD 1 33 3 [8,9,10] [] ([[],[0],[]]++[List.range 3,List.range 4,List.range 5]) []:=⟨trivial⟩
instance (priority:=1056):DRD 7 33 8 [23,24,25,26,27,28,29,30] [] ([[],[],[0,1],[0,1,2],[],[],[4,5],[4,5,6]]++[List.range 8,List.range 9]) []:=⟨trivial⟩
set_option maxHeartbeats 2000000 in
set_option maxRecDepth 100000 in
theorem Ns (x_:bh) (y:bh) (hp0:x_.L.length≤1000) (hp1:y.L.length≤1000):CM En (nM x_ y) 45 [(bf x_),(bf y)] (fun y=> .bool y) (fun _=> []):=by
 refine enQ noJ Tryz.func45 Tryz.ntmps45 (nM.eq_1 ..) fun r hw=> ?_
 refine slQ ?_
 intro hF hM
 replace hM:=ar hM;obtain ⟨x1,hx2,hM⟩:=hM
 have hcx1:=cmH hx2 (zr x_ (by (first|exact hp0|exact hp1)))
 refine bA hcx1 clQ clQ ?_
 revert hM;revert hF
 refine slQ ?_
 have hq3:=zo hx2
 replace hq3:=nzQ hq3
 intro hF hM
 replace hM:=ar hM;obtain ⟨x4,hx5,hM⟩:=hM
 have hcx4:=cmH hx5 (zr y (by (first|exact hp0|exact hp1)))
 refine aN hcx4 clQ clQ (fun hw6=> ?_)
 replace hw6:=nzQ hw6
 revert hM;revert hF
 refine slQ ?_
 have hq7:=zo hx5
 replace hq7:=nzQ hq7
 refine az fun _ _ _=> ?_
 intro hF hM
 replace hM:=aH hM;obtain ⟨f11,d11,hf11,hd11,hM⟩:=hM
 refine aK (fun n S=> ∃p:Int,S=(⟨[(5,.sl none 80 true (x1.map aM)),(6,.sl none 80 true (x4.map aM)),(7,.int .i64 p)],[],5⟩:St)∧((0≤p)∧(p≤(x1.length:Int)))∧((x1.length:Int) - p).toNat<n∧ae n f11 d11 p=r) (((x1.length:Int) - 0).toNat+1) _ sbQ sbQ ⟨0,rfl,⟨omQ,omQ⟩,(Nat.lt_succ_self _),hM⟩ ?_
 clear hM
 rintro n11 S ⟨p11,rfl,hfa11,hm11,hM⟩
 replace hM:=aI hM (by omega) hf11;obtain ⟨ag11,hag11,hM⟩:=hM
 replace hfa11:=nzQ hfa11
 replace hm11:=nzQ hm11
 have ha11:al .i64 p11 1=p11+1:=aJ omQ omQ
 replace hF:=(And.intro ha11 hF)
 revert hM;revert hF
 refine slQ ?_
 refine av fun _ _ _=> ?_
 refine ax fun _ _ _ _=> ?_
 refine az fun _ _ _=> ?_
 intro hF hM
 refine aE (n11 - 1) _ (by omega) sbQ sbQ ⟨(p11+1),rfl,⟨omQ,omQ⟩,omQ,aD hM hag11⟩
instance (priority:=1057):DRD 6 26 8 [17,18,19,20,21,22,23,24] [] ([[],[],[0,1],[0,1,2],[],[],[4,5],[4,5,6]]++[List.range 8]) []:=⟨trivial⟩
set_option maxHeartbeats 2000000 in
set_option maxRecDepth 100000 in
instance T_ (a_:(List Int)) (b:(List Int)):CM En (nN a_ b) 115 [.sl none 1 false (a_.map (V.int .i64)),.sl none 1 false (b.map (V.int .i64))] (fun y=> .bool y) (fun _=> []):=by
 refine enQ noJ Tryz.func115 Tryz.ntmps115 (nN.eq_1 ..) fun r hw=> ?_
 refine az fun _ _ _=> ?_
 intro hF hM
 replace hM:=aH hM;obtain ⟨f4,d4,hf4,hd4,hM⟩:=hM
 refine aK (fun n S=> ∃p:Int,S=(⟨[(0,.sl none 1 false (a_.map (V.int .i64))),(1,.sl none 1 false (b.map (V.int .i64))),(5,.int .i64 p)],[],0⟩:St)∧((0≤p)∧(p≤(a_.length:Int)))∧((a_.length:Int) - p).toNat<n∧ae n f4 d4 p=r) (((a_.length:Int) - 0).toNat+1) _ sbQ sbQ ⟨0,rfl,⟨omQ,omQ⟩,(Nat.lt_succ_self _),hM⟩ ?_
 clear hM
 rintro n4 S ⟨p4,rfl,hfa4,hm4,hM⟩
 replace hM:=aI hM (by omega) hf4;obtain ⟨ag4,hag4,hM⟩:=hM
 replace hfa4:=nzQ hfa4
 replace hm4:=nzQ hm4
 have ha4:al .i64 p4 1=p4+1:=aJ omQ omQ
 replace hF:=(And.intro ha4 hF)
 revert hM;revert hF
 refine slQ ?_
 refine av fun _ _ _=> ?_
 refine az fun _ _ _=> ?_
 intro hF hM
 refine aE (n4 - 1) _ (by omega) sbQ sbQ ⟨(p4+1),rfl,⟨omQ,omQ⟩,omQ,aD hM hag4⟩
set_option maxHeartbeats 2000000 in
set_option maxRecDepth 100000 in
instance Ua (a_:dS) (b:dS):CM En (tT a_ b) 91 [.agg [.sl none 1 false (a_.A.map (V.int .i64)),.int .i64 a_.C,.sl none 1 false (a_.Z.map (V.int .i64))],.agg [.sl none 1 false (b.A.map (V.int .i64)),.int .i64 b.C,.sl none 1 false (b.Z.map (V.int .i64))]] (fun y=> .bool y) (fun _=> []):=by
 refine enQ noJ Tryz.func91 Tryz.ntmps91 (tT.eq_1 ..) fun r hw=> ?_
 exact auR
set_option maxHeartbeats 2000000 in
set_option maxRecDepth 100000 in
instance Ub (a_:b9) (b:b9):CM En (nO a_ b) 46 [(bz a_),(bz b)] (fun y=> .bool y) (fun _=> []):=by
 refine enQ noJ Tryz.func46 Tryz.ntmps46 (nO.eq_1 ..) fun r hw=> ?_
 exact auR
instance (priority:=1058):DRD 6 97 10 [47,48,49,50,51,52,53,54,55,56] [] ([[],[0],[],[0,1,2],[0,1,2,3],[],[5],[],[5,6,7],[5,6,7,8]]++[List.range 10,List.range 11]) []:=⟨trivial⟩
instance (priority:=1059):DRD 11 97 10 [66,67,68,69,70,71,72,73,74,75] [] ([[],[0],[],[0,1,2],[0,1,2,3],[],[5],[],[5,6,7],[5,6,7,8]]++[List.range 10,List.range 11]) []:=⟨trivial⟩
instance (priority:=1060):DRD 16 97 10 [85,86,87,88,89,90,91,92,93,94] [] ([[],[0],[],[0,1,2],[0,1,2,3],[],[5],[],[5,6,7],[5,6,7,8]]++[List.range 10,List.range 11]) []:=⟨trivial⟩
set_option maxHeartbeats 2000000 in
set_option maxRecDepth 100000 in
theorem qw (p_:aA) (q:aA) (hp0:cI p_) (hp1:cI q):CM En (fG p_ q) 11 [.agg [.int .i64 p_.Number,.sl none 80 true (p_.Spends.map aM),.sl none 81 true (p_.Chains.map bf),.sl none 5 true (p_.Escrow.map bz)],.agg [.int .i64 q.Number,.sl none 80 true (q.Spends.map aM),.sl none 81 true (q.Chains.map bf),.sl none 5 true (q.Escrow.map bz)]] (fun y=> .bool y) (fun _=> []):=by
 refine enQ noJ Tryz.func11 Tryz.ntmps11 (fG.eq_1 ..) fun r hw=> ?_
 refine av fun _ _ _=> ?_
 refine av fun _ _ _=> ?_
 refine av fun _ _ _=> ?_
 refine az fun _ _ _=> ?_
 intro hF hM
 replace hM:=aH hM;obtain ⟨f10,d10,hf10,hd10,hM⟩:=hM
 refine aK (fun n S=> ∃p:Int,S=(⟨[(2,.ptr 0 0),(3,.ptr 1 0),(5,.int .i64 p)],[(0,.var 4 true (br p_)),(1,.var 4 true (br q))],2⟩:St)∧((0≤p)∧(p≤(p_.Spends.length:Int)))∧((p_.Spends.length:Int) - p).toNat<n∧ae n f10 d10 p=r) (((p_.Spends.length:Int) - 0).toNat+1) _ sbQ sbQ ⟨0,rfl,⟨omQ,omQ⟩,(Nat.lt_succ_self _),hM⟩ ?_
 clear hM
 rintro n10 S ⟨p10,rfl,hfa10,hm10,hM⟩
 replace hM:=aI hM (by omega) hf10;obtain ⟨ag10,hag10,hM⟩:=hM
 replace hfa10:=nzQ hfa10
 replace hm10:=nzQ hm10
 have ha10:al .i64 p10 1=p10+1:=aJ omQ omQ
 replace hF:=(And.intro ha10 hF)
 revert hM;revert hF
 refine slQ ?_
 refine cdQ (fun _ _ _=> ?_) (fun _ _ _=> ?_)
 ·refine ax fun _ _ _ _=> ?_
  refine az fun _ _ _=> ?_
  intro hF hM
  refine aE (n10 - 1) _ (by omega) sbQ sbQ ⟨(p10+1),rfl,⟨omQ,omQ⟩,omQ,aD hM hag10⟩
 ·intro hF hM
  replace hM:=aH hM;obtain ⟨f22,d22,hf22,hd22,hM⟩:=hM
  refine aK (fun n S=> ∃p:Int,S=(⟨[(2,.ptr 0 0),(3,.ptr 1 0),(6,.int .i64 p)],[(0,.var 4 true (br p_)),(1,.var 4 true (br q))],2⟩:St)∧((0≤p)∧(p≤(p_.Chains.length:Int)))∧((p_.Chains.length:Int) - p).toNat<n∧ae n f22 d22 p=r) (((p_.Chains.length:Int) - 0).toNat+1) _ sbQ sbQ ⟨0,rfl,⟨omQ,omQ⟩,(Nat.lt_succ_self _),hM⟩ ?_
  clear hM
  rintro n22 S ⟨p22,rfl,hfa22,hm22,hM⟩
  replace hM:=aI hM (by omega) hf22;obtain ⟨ag22,hag22,hM⟩:=hM
  replace hfa22:=nzQ hfa22
  replace hm22:=nzQ hm22
  have ha22:al .i64 p22 1=p22+1:=aJ omQ omQ
  replace hF:=(And.intro ha22 hF)
  revert hM;revert hF
  refine slQ ?_
  refine cdQ (fun _ _ _=> ?_) (fun _ _ _=> ?_)
  ·intro hF hM
   replace hM:=ar hM;obtain ⟨x27,hx28,hM⟩:=hM
   have hcx27:=cmH hx28 (Ns (gt p_.Chains p22) (gt q.Chains p22) (by (first|exact ud hp0 (by omega)|exact ud hp1 (by omega))) (by (first|exact ud hp0 (by omega)|exact ud hp1 (by omega))))
   refine aN hcx27 (ao hF) (ao hF) (fun hw29=> ?_)
   replace hw29:=nzQ hw29
   revert hM;revert hF
   refine slQ ?_
   refine az fun _ _ _=> ?_
   intro hF hM
   refine aE (n22 - 1) _ (by omega) sbQ sbQ ⟨(p22+1),rfl,⟨omQ,omQ⟩,omQ,aD hM hag22⟩
  ·intro hF hM
   replace hM:=aH hM;obtain ⟨f34,d34,hf34,hd34,hM⟩:=hM
   refine aK (fun n S=> ∃p:Int,S=(⟨[(2,.ptr 0 0),(3,.ptr 1 0),(7,.int .i64 p)],[(0,.var 4 true (br p_)),(1,.var 4 true (br q))],2⟩:St)∧((0≤p)∧(p≤(p_.Escrow.length:Int)))∧((p_.Escrow.length:Int) - p).toNat<n∧ae n f34 d34 p=r) (((p_.Escrow.length:Int) - 0).toNat+1) _ sbQ sbQ ⟨0,rfl,⟨omQ,omQ⟩,(Nat.lt_succ_self _),hM⟩ ?_
   clear hM
   rintro n34 S ⟨p34,rfl,hfa34,hm34,hM⟩
   replace hM:=aI hM (by omega) hf34;obtain ⟨ag34,hag34,hM⟩:=hM
   replace hfa34:=nzQ hfa34
   replace hm34:=nzQ hm34
   have ha34:al .i64 p34 1=p34+1:=aJ omQ omQ
   replace hF:=(And.intro ha34 hF)
   revert hM;revert hF
   refine slQ ?_
   refine av fun _ _ _=> ?_
   refine ax fun _ _ _ _=> ?_
   refine az fun _ _ _=> ?_
   intro hF hM
   refine aE (n34 - 1) _ (by omega) sbQ sbQ ⟨(p34+1),rfl,⟨omQ,omQ⟩,omQ,aD hM hag34⟩
instance (priority:=1061):DRD 6 137 12 [87,88,89,90,91,92,93,94,95,96,97,98] [] ([[],[0],[0,1],[],[0,1,2,3],[0,1,2,3,4],[],[6],[6,7],[],[6,7,8,9],[6,7,8,9,10]]++[List.range 12]) []:=⟨trivial⟩
instance (priority:=1062):DRD 11 137 10 [107,108,109,110,111,112,113,114,115,116] [] ([[],[0],[],[0,1,2],[0,1,2,3],[],[5],[],[5,6,7],[5,6,7,8]]++[List.range 10,List.range 11]) []:=⟨trivial⟩
instance (priority:=1063):DRD 16 137 10 [126,127,128,129,130,131,132,133,134,135] [] ([[],[0],[],[0,1,2],[0,1,2,3],[],[5],[],[5,6,7],[5,6,7,8]]++[List.range 10]) []:=⟨trivial⟩
set_option maxHeartbeats 2000000 in
set_option maxRecDepth 100000 in
theorem Nt (a_:aw) (b:aw) (hp0:okQ a_.Queue) (hp1:okQ b.Queue):CM En (qh a_ b) 40 [(bW a_),.agg (.int .u8 (gt b.Name 0):: .int .u8 (gt b.Name 1):: .int .u8 (gt b.Name 2):: .int .u8 (gt b.Name 3):: .int .u8 (gt b.Name 4):: .int .u8 (gt b.Name 5):: .int .u8 (gt b.Name 6):: .int .u8 (gt b.Name 7):: .int .u8 (gt b.Name 8):: .int .u8 (gt b.Name 9):: .int .u8 (gt b.Name 10):: .int .u8 (gt b.Name 11):: .int .u8 (gt b.Name 12):: .int .u8 (gt b.Name 13):: .int .u8 (gt b.Name 14):: .int .u8 (gt b.Name 15):: .int .u8 (gt b.Name 16):: .int .u8 (gt b.Name 17):: .int .u8 (gt b.Name 18):: .int .u8 (gt b.Name 19):: .int .u8 (gt b.Name 20):: .int .u8 (gt b.Name 21):: .int .u8 (gt b.Name 22):: .int .u8 (gt b.Name 23):: .int .u8 (gt b.Name 24):: .int .u8 (gt b.Name 25):: .int .u8 (gt b.Name 26):: .int .u8 (gt b.Name 27):: .int .u8 (gt b.Name 28):: .int .u8 (gt b.Name 29):: .int .u8 (gt b.Name 30):: .int .u8 (gt b.Name 31):: .sl none 3 true (b.Policy.Rules.map cn):: .sl none 35 true (b.Open.map aY):: .int .i64 b.Next:: .sl none 4 true (b.Queue.map br):: .sl none 35 true (b.Paid.map aY):: .int .i64 b.Total:: .sl none 1 false (b.Blocked.map (V.int .i64)):: .int .i64 b.Now::[])] (fun y=> .bool y) (fun _=> []):=by
 refine enQ noJ Tryz.func40 Tryz.ntmps40 (qh.eq_1 ..) fun r hw=> ?_
 intro hF hM
 refine fT (fun h1=> ?_) (fun h1=> ?_)
 ·have kh1:(!(eH (a_.Name) (b.Name)))=false:=h1
  rw [if_neg (bN kh1)] at hM
  replace hF:=(And.intro h1 hF)
  revert hM;revert hF
  refine slQ ?_
  intro hF hM
  have nh1:=nzQ kh1
  try have hr2:=mpQ nh1
  revert hM;revert hF
  refine av fun _ _ _=> ?_
  refine av fun _ _ _=> ?_
  refine av fun _ _ _=> ?_
  refine av fun _ _ _=> ?_
  refine av fun _ _ _=> ?_
  refine av fun _ _ _=> ?_
  refine ax fun _ _ _ _=> ?_
  refine av fun _ _ _=> ?_
  refine ax fun _ _ _ _=> ?_
  refine az fun _ _ _=> ?_
  intro hF hM
  replace hM:=aH hM;obtain ⟨f26,d26,hf26,hd26,hM⟩:=hM
  refine aK (fun n S=> ∃p:Int,S=(⟨[(2,.ptr 0 0),(3,.ptr 1 0),(5,.int .i64 p)],[(0,.var 40 true ((bW a_))),(1,.var 40 true ((bW b)))],2⟩:St)∧((0≤p)∧(p≤(a_.Policy.Rules.length:Int)))∧((a_.Policy.Rules.length:Int) - p).toNat<n∧ae n f26 d26 p=r) (((a_.Policy.Rules.length:Int) - 0).toNat+1) _ sbQ sbQ ⟨0,rfl,⟨omQ,omQ⟩,(Nat.lt_succ_self _),hM⟩ ?_
  clear hM
  rintro n26 S ⟨p26,rfl,hfa26,hm26,hM⟩
  replace hM:=aI hM (by omega) hf26;obtain ⟨ag26,hag26,hM⟩:=hM
  replace hfa26:=nzQ hfa26
  replace hm26:=nzQ hm26
  have ha26:al .i64 p26 1=p26+1:=aJ omQ omQ
  replace hF:=(And.intro ha26 hF)
  revert hM;revert hF
  refine slQ ?_
  refine cdQ (fun _ _ _=> ?_) (fun _ _ _=> ?_)
  ·intro hF hM
   refine bQ (fun h31=> ?_) (fun h31=> ?_)
   ·have kh31:(!(lN (gt a_.Policy.Rules p26) (gt b.Policy.Rules p26)))=true:=h31
    rw [if_pos kh31] at hM
    replace hF:=(And.intro h31 hF)
    revert hM;revert hF
    refine slQ ?_
    intro hF hM
    have nh31:=nzQ kh31
    try have hr32:=mpQ nh31
    exact auQ
   ·have kh31:(!(lN (gt a_.Policy.Rules p26) (gt b.Policy.Rules p26)))=false:=h31
    rw [if_neg (bN kh31)] at hM
    replace hF:=(And.intro h31 hF)
    revert hM;revert hF
    refine slQ ?_
    intro hF hM
    have nh31:=nzQ kh31
    try have hr33:=mpQ nh31
    refine aE (n26 - 1) _ (by omega) sbQ sbQ ⟨(p26+1),rfl,⟨omQ,omQ⟩,omQ,aD hM hag26⟩
  ·intro hF hM
   replace hM:=aH hM;obtain ⟨f35,d35,hf35,hd35,hM⟩:=hM
   refine aK (fun n S=> ∃p:Int,S=(⟨[(2,.ptr 0 0),(3,.ptr 1 0),(6,.int .i64 p)],[(0,.var 40 true ((bW a_))),(1,.var 40 true (.agg (.int .u8 (gt b.Name 0):: .int .u8 (gt b.Name 1):: .int .u8 (gt b.Name 2):: .int .u8 (gt b.Name 3):: .int .u8 (gt b.Name 4):: .int .u8 (gt b.Name 5):: .int .u8 (gt b.Name 6):: .int .u8 (gt b.Name 7):: .int .u8 (gt b.Name 8):: .int .u8 (gt b.Name 9):: .int .u8 (gt b.Name 10):: .int .u8 (gt b.Name 11):: .int .u8 (gt b.Name 12):: .int .u8 (gt b.Name 13):: .int .u8 (gt b.Name 14):: .int .u8 (gt b.Name 15):: .int .u8 (gt b.Name 16):: .int .u8 (gt b.Name 17):: .int .u8 (gt b.Name 18):: .int .u8 (gt b.Name 19):: .int .u8 (gt b.Name 20):: .int .u8 (gt b.Name 21):: .int .u8 (gt b.Name 22):: .int .u8 (gt b.Name 23):: .int .u8 (gt b.Name 24):: .int .u8 (gt b.Name 25):: .int .u8 (gt b.Name 26):: .int .u8 (gt b.Name 27):: .int .u8 (gt b.Name 28):: .int .u8 (gt b.Name 29):: .int .u8 (gt b.Name 30):: .int .u8 (gt b.Name 31):: .sl none 3 true (b.Policy.Rules.map cn):: .sl none 35 true (b.Open.map aY):: .int .i64 b.Next:: .sl none 4 true (b.Queue.map br):: .sl none 35 true (b.Paid.map aY):: .int .i64 b.Total:: .sl none 1 false (b.Blocked.map (V.int .i64)):: .int .i64 b.Now::[])))],2⟩:St)∧((0≤p)∧(p≤(a_.Queue.length:Int)))∧((a_.Queue.length:Int) - p).toNat<n∧ae n f35 d35 p=r) (((a_.Queue.length:Int) - 0).toNat+1) _ sbQ sbQ ⟨0,rfl,⟨omQ,omQ⟩,(Nat.lt_succ_self _),hM⟩ ?_
   clear hM
   rintro n35 S ⟨p35,rfl,hfa35,hm35,hM⟩
   replace hM:=aI hM (by omega) hf35;obtain ⟨ag35,hag35,hM⟩:=hM
   replace hfa35:=nzQ hfa35
   replace hm35:=nzQ hm35
   have ha35:al .i64 p35 1=p35+1:=aJ omQ omQ
   replace hF:=(And.intro ha35 hF)
   revert hM;revert hF
   refine slQ ?_
   refine cdQ (fun _ _ _=> ?_) (fun _ _ _=> ?_)
   ·intro hF hM
    replace hM:=ar hM;obtain ⟨x40,hx41,hM⟩:=hM
    have hcx40:=cmH hx41 (qw (gt a_.Queue p35) (gt b.Queue p35) (by (first|exact hp0 _ (bG (by omega))|exact hp1 _ (bG (by omega)))) (by (first|exact hp0 _ (bG (by omega))|exact hp1 _ (bG (by omega)))))
    refine aN hcx40 (ao hF) (ao hF) (fun hw42=> ?_)
    replace hw42:=nzQ hw42
    revert hM;revert hF
    refine slQ ?_
    refine az fun _ _ _=> ?_
    intro hF hM
    refine aE (n35 - 1) _ (by omega) sbQ sbQ ⟨(p35+1),rfl,⟨omQ,omQ⟩,omQ,aD hM hag35⟩
   ·intro hF hM
    replace hM:=aH hM;obtain ⟨f47,d47,hf47,hd47,hM⟩:=hM
    refine aK (fun n S=> ∃p:Int,S=(⟨[(2,.ptr 0 0),(3,.ptr 1 0),(7,.int .i64 p)],[(0,.var 40 true ((bW a_))),(1,.var 40 true (.agg (.int .u8 (gt b.Name 0):: .int .u8 (gt b.Name 1):: .int .u8 (gt b.Name 2):: .int .u8 (gt b.Name 3):: .int .u8 (gt b.Name 4):: .int .u8 (gt b.Name 5):: .int .u8 (gt b.Name 6):: .int .u8 (gt b.Name 7):: .int .u8 (gt b.Name 8):: .int .u8 (gt b.Name 9):: .int .u8 (gt b.Name 10):: .int .u8 (gt b.Name 11):: .int .u8 (gt b.Name 12):: .int .u8 (gt b.Name 13):: .int .u8 (gt b.Name 14):: .int .u8 (gt b.Name 15):: .int .u8 (gt b.Name 16):: .int .u8 (gt b.Name 17):: .int .u8 (gt b.Name 18):: .int .u8 (gt b.Name 19):: .int .u8 (gt b.Name 20):: .int .u8 (gt b.Name 21):: .int .u8 (gt b.Name 22):: .int .u8 (gt b.Name 23):: .int .u8 (gt b.Name 24):: .int .u8 (gt b.Name 25):: .int .u8 (gt b.Name 26):: .int .u8 (gt b.Name 27):: .int .u8 (gt b.Name 28):: .int .u8 (gt b.Name 29):: .int .u8 (gt b.Name 30):: .int .u8 (gt b.Name 31):: .sl none 3 true (b.Policy.Rules.map cn):: .sl none 35 true (b.Open.map aY):: .int .i64 b.Next:: .sl none 4 true (b.Queue.map br):: .sl none 35 true (b.Paid.map aY):: .int .i64 b.Total:: .sl none 1 false (b.Blocked.map (V.int .i64)):: .int .i64 b.Now::[])))],2⟩:St)∧((0≤p)∧(p≤(a_.Blocked.length:Int)))∧((a_.Blocked.length:Int) - p).toNat<n∧ae n f47 d47 p=r) (((a_.Blocked.length:Int) - 0).toNat+1) _ sbQ sbQ ⟨0,rfl,⟨omQ,omQ⟩,(Nat.lt_succ_self _),hM⟩ ?_
    clear hM
    rintro n47 S ⟨p47,rfl,hfa47,hm47,hM⟩
    replace hM:=aI hM (by omega) hf47;obtain ⟨ag47,hag47,hM⟩:=hM
    replace hfa47:=nzQ hfa47
    replace hm47:=nzQ hm47
    have ha47:al .i64 p47 1=p47+1:=aJ omQ omQ
    replace hF:=(And.intro ha47 hF)
    revert hM;revert hF
    refine slQ ?_
    refine av fun _ _ _=> ?_
    refine az fun _ _ _=> ?_
    intro hF hM
    refine aE (n47 - 1) _ (by omega) sbQ sbQ ⟨(p47+1),rfl,⟨omQ,omQ⟩,omQ,aD hM hag47⟩
 ·have kh1:(!(eH (a_.Name) (b.Name)))=true:=h1
  rw [if_pos kh1] at hM
  replace hF:=(And.intro h1 hF)
  revert hM;revert hF
  refine slQ ?_
  intro hF hM
  have nh1:=nzQ kh1
  try have hr63:=mpQ nh1
  exact auQ
set_option maxHeartbeats 2000000 in
set_option maxRecDepth 100000 in
theorem Nu (m:aw) (hp0:okQ m.Queue):CM En (qi m) 9 [(bW m)] (fun y=> .bool y) (fun _=> []):=by
 refine enQ noJ Tryz.func9 Tryz.ntmps9 (qi.eq_1 ..) fun r hw=> ?_
 intro hF hM
 replace hM:=ar hM;obtain ⟨x1,hx2,hM⟩:=hM
 have hcx1:=cmH hx2 (Nt m bK (by (first|exact hp0|exact qv)) (by (first|exact hp0|exact qv)))
 refine aN hcx1 clQ clQ (fun hw3=> ?_)
 replace hw3:=nzQ hw3
 exact auP
set_option maxHeartbeats 2000000 in
set_option maxRecDepth 100000 in
theorem Ef (p_:aA) (hp0:cI p_):CM En (jt p_) 47 [.agg [.int .i64 p_.Number,.sl none 80 true (p_.Spends.map aM),.sl none 81 true (p_.Chains.map bf),.sl none 5 true (p_.Escrow.map bz)]] (fun y=> .sl none 83 true (y.map fD)) (fun _=> []):=by
 refine cmQ fun r hM=> ?_
 rw [jt.eq_1] at hM
 refine cg aU bJ noJ Tryz.func47 rfl Tryz.ntmps47 (by kernel_rfl) fun hw=>bP ?_
 refine spQ ?_
 replace hw:=nzQ hw
 replace hM:=ar hM;obtain ⟨x1,hx2,hM⟩:=hM
 have hcx1:=cmH hx2 (DZ p_ (by (exact Ml hp0)))
 refine aN hcx1 clQ clQ (fun hw3=> ?_)
 replace hw3:=nzQ hw3
 refine spQ ?_
 have hq4:=Lu hp0 hx2
 replace hq4:=nzQ hq4
 replace hM:=aH hM;obtain ⟨f5,d5,hf5,hd5,hM⟩:=hM
 refine dP (fun n S=> ∃p:Int×List bD,S=(⟨[(3,.own 1),(4,.sl none 80 true (x1.map aM)),(5,.int .i64 p.1)],[(1,.own 117 83 true none (p.2.map fD))],2⟩:St)∧(((0≤p.1)∧(p.1≤(x1.length:Int)))∧(((p.2).length:Int)≤40*p.1))∧((x1.length:Int) - p.1).toNat<n∧ae n f5 d5 p=r) (((x1.length:Int) - 0).toNat+1) _ _ (fU 3 117 rfl (by decide)) sbQ sbQ ⟨(0,([]:List bD)),rfl,⟨⟨by (first|exact omQ|(clear hM;first|(have h9:=co (i:=p5.1) (by assumption) (by omega);exact an))),by (first|exact omQ|(clear hM;first|(have h9:=co (i:=p5.1) (by assumption) (by omega);exact an)))⟩,by exact an⟩,(Nat.lt_succ_self _),hM⟩ ?_
 clear hM
 rintro n5 S ⟨p5,rfl,⟨hfa5,hF4_0⟩,hm5,hM⟩
 replace hM:=aI hM (by omega) hf5;obtain ⟨ag5,hag5,hM⟩:=hM
 replace hfa5:=nzQ hfa5
 replace hm5:=nzQ hm5
 have ha5:al .i64 p5.1 1=p5.1+1:=aJ (by (first|exact omQ|(clear hM;first|(have h9:=co (i:=p5.1) (by assumption) (by omega);exact an)))) (by (first|exact omQ|(clear hM;first|(have h9:=co (i:=p5.1) (by assumption) (by omega);exact an))))
 refine ap ha5 ?_
 refine bQ (fun h6=> ?_) (fun h6=> ?_)
 ·rw [if_pos h6] at hM
  refine ap (And.intro ha5 h6) ?_
  have nh6:=nzQ h6
  try have hr7:=mpQ nh6
  replace hM:=aH hM;obtain ⟨f8,d8,hf8,hd8,hM⟩:=hM
  refine aK (fun n S=> ∃p:Int×List bD,S=(⟨[(3,.own 1),(4,.sl none 80 true (x1.map aM)),(5,.int .i64 p5.1),(6,.int .i64 p.1)],[(1,.own 117 83 true none (p.2.map fD))],2⟩:St)∧((0≤p.1)∧(p.1≤((gt x1 p5.1).Leaves.length:Int))∧(((p.2).length:Int)≤40*p5.1+p.1))∧(((gt x1 p5.1).Leaves.length:Int) - p.1).toNat<n∧ae n f8 d8 p=r) ((((gt x1 p5.1).Leaves.length:Int) - 0).toNat+1) _ sbQ sbQ ⟨(0,p5.2),rfl,⟨by (first|exact omQ|(clear hM;first|(have h9:=co (i:=p5.1) (by assumption) (by omega);exact an))),by (first|exact omQ|(clear hM;first|(have h9:=co (i:=p5.1) (by assumption) (by omega);exact an))),by (first|exact omQ|(clear hM;first|(have h9:=co (i:=p5.1) (by assumption) (by omega);exact an)))⟩,(Nat.lt_succ_self _),hM⟩ ?_
  clear hM
  rintro n8 S ⟨p8,rfl,hfa8,hm8,hM⟩
  replace hM:=aI hM (by omega) hf8;obtain ⟨ag8,hag8,hM⟩:=hM
  replace hfa8:=nzQ hfa8
  replace hm8:=nzQ hm8
  have ha8:al .i64 p8.1 1=p8.1+1:=aJ (by (first|exact omQ|(clear hM;first|(have h9:=co (i:=p5.1) (by assumption) (by omega);exact an)))) (by (first|exact omQ|(clear hM;first|(have h9:=co (i:=p5.1) (by assumption) (by omega);exact an))))
  refine ap (And.intro ha5 ha8) ?_
  refine bw (by (first|exact omQ|(clear hM;first|(have h9:=co (i:=p5.1) (by assumption) (by omega);exact an)))) ?_
  have he9:=fun d=>cE (l:=x1) (f:=aM) (i:=p5.1) (by (first|exact omQ|(clear hM;first|(have h9:=co (i:=p5.1) (by assumption) (by omega);exact an)))) d
  refine ap (And.intro ha5 (And.intro ha8 he9)) ?_
  refine bQ (fun h10=> ?_) (fun h10=> ?_)
  ·rw [if_pos h10] at hM
   refine ap (And.intro ha5 (And.intro ha8 (And.intro he9 h10))) ?_
   have nh10:=nzQ h10
   try have hr11:=mpQ nh10
   refine iW 50 23 [25,26,27,28,29,30,31,32,33,34,35,36,37,38,39,40,41,42,43,44,45,46,47] [] ([[],[],[],[1,2],[1,2,3],[1,2,3,4],[1,2,3,4,5],[],[],[7,8],[7,8,9],[7,8,9,10],[],[7,8,9,10,11,12],[7,8,9,10,11,12,13],[7,8,9,10,11,12,13,14],[],[],[16,17],[16,17,18],[],[1,2,3,4,5,6,7,8,9,10,11,12,13,14,15,16,17,18,19,20],[1,2,3,4,5,6,7,8,9,10,11,12,13,14,15,16,17,18,19,20,21]]++[List.range 23,List.range 24]) [] (by kernel_rfl) (by exact alQ) ?_
   refine ap (And.intro ha5 (And.intro ha8 he9)) ?_
   refine eR (by (first|exact omQ|(clear hM;first|(have h9:=co (i:=p5.1) (by assumption) (by omega);exact an)))) ?_
   refine ap (And.intro ha5 (And.intro ha8 he9)) ?_
   refine eR (by (first|exact omQ|(clear hM;first|(have h9:=co (i:=p5.1) (by assumption) (by omega);exact an)))) ?_
   refine ap (And.intro ha5 (And.intro ha8 he9)) ?_
   refine eR (by (first|exact omQ|(clear hM;first|(have h9:=co (i:=p5.1) (by assumption) (by omega);exact an)))) ?_
   have he12:=fun d=>cE (l:=(gt x1 p5.1).Leaves) (f:=dD) (i:=p8.1) (by (first|exact omQ|(clear hM;first|(have h9:=co (i:=p5.1) (by assumption) (by omega);exact an)))) d
   refine ap (And.intro ha5 (And.intro ha8 (And.intro he9 he12))) ?_
   refine eR (by (first|exact omQ|(clear hM;first|(have h9:=co (i:=p5.1) (by assumption) (by omega);exact an)))) ?_
   refine ap (And.intro ha5 (And.intro ha8 (And.intro he9 he12))) ?_
   refine bw (by (first|exact omQ|(clear hM;first|(have h9:=co (i:=p5.1) (by assumption) (by omega);exact an)))) ?_
   refine ap (And.intro ha5 (And.intro ha8 (And.intro he9 he12))) ?_
   refine aE (n8 - 1) _ (by omega) sbQ sbQ ⟨((p8.1+1),(p8.2++([({A:=(gt x1 p5.1).Coin.A,B:=(gt (gt x1 p5.1).Leaves p8.1).B,Spend:=(gt x1 p5.1),Leaf:=p8.1}:bD)]:List bD))),rfl,⟨by (first|exact omQ|(clear hM;first|(have h9:=co (i:=p5.1) (by assumption) (by omega);exact an))),by (first|exact omQ|(clear hM;first|(have h9:=co (i:=p5.1) (by assumption) (by omega);exact an))),by (first|exact omQ|(clear hM;first|(have h9:=co (i:=p5.1) (by assumption) (by omega);exact an)))⟩,by (first|exact omQ|(clear hM;first|(have h9:=co (i:=p5.1) (by assumption) (by omega);exact an))),aD hM hag8⟩
  ·rw [if_neg (bN h10)] at hM
   refine ap (And.intro ha5 (And.intro ha8 (And.intro he9 h10))) ?_
   have nh10:=nzQ h10
   try have hr13:=mpQ nh10
   refine aE (n5 - 1) _ (by omega) sbQ sbQ ⟨((p5.1+1),p8.2),rfl,⟨⟨by (first|exact omQ|(clear hM;first|(have h9:=co (i:=(p5.1+1)) (by assumption) (by omega);exact an))),by (first|exact omQ|(clear hM;first|(have h9:=co (i:=(p5.1+1)) (by assumption) (by omega);exact an)))⟩,by (have h9:=co (i:=p5.1) (by assumption) (by omega);clear hM;exact an)⟩,by (first|exact omQ|(clear hM;first|(have h9:=co (i:=(p5.1+1)) (by assumption) (by omega);exact an))),aD hM hag5⟩
 ·rw [if_neg (bN h6)] at hM
  refine ap (And.intro ha5 h6) ?_
  subst hM
  exact bX (cm (And.intro ha5 h6))
instance (priority:=1064):DRD 1 49 3 [9,10,11] [] ([[],[0],[]]++[List.range 3,List.range 4,List.range 5]) []:=⟨trivial⟩
instance (priority:=1065):DRD 8 49 22 [25,26,27,28,29,30,31,32,33,34,35,36,37,38,39,40,41,42,43,44,45,46] [] ([[],[],[0,1],[0,1,2],[0,1,2,3],[],[],[5,6],[5,6,7],[5,6,7,8],[0,1,2,3,4,5,6,7,8,9],[0,1,2,3,4,5,6,7,8,9,10],[0,1,2,3,4,5,6,7,8,9,10,11],[0,1,2,3,4,5,6,7,8,9,10,11],[0,1,2,3,4,5,6,7,8,9,10,11,12,13],[0,1,2,3,4,5,6,7,8,9,10,11,12,13,14],[0,1,2,3,4,5,6,7,8,9,10,11,12,13,14,15],[0,1,2,3,4,5,6,7,8,9,10,11],[0,1,2,3,4,5,6,7,8,9,10,11],[0,1,2,3,4,5,6,7,8,9,10,11,17,18],[0,1,2,3,4,5,6,7,8,9,10,11,17,18,19],[0,1,2,3,4,5,6,7,8,9,10,11,17,18,19,20]]++[List.range 22,List.range 23]) []:=⟨trivial⟩
set_option maxHeartbeats 2000000 in
set_option maxRecDepth 100000 in
theorem Nv (p_:aA) (q:aA) (hp0:cI p_) (hp1:cI q):CM En (kv p_ q) 12 [.agg [.int .i64 p_.Number,.sl none 80 true (p_.Spends.map aM),.sl none 81 true (p_.Chains.map bf),.sl none 5 true (p_.Escrow.map bz)],.agg [.int .i64 q.Number,.sl none 80 true (q.Spends.map aM),.sl none 81 true (q.Chains.map bf),.sl none 5 true (q.Escrow.map bz)]] (fun y=> .bool y) (fun _=> []):=by
 refine enQ noJ Tryz.func12 Tryz.ntmps12 (kv.eq_1 ..) fun r hw=> ?_
 refine slQ ?_
 intro hF hM
 replace hM:=ar hM;obtain ⟨x1,hx2,hM⟩:=hM
 have hcx1:=cmH hx2 (Ef p_ (by (first|exact hp0|exact hp1)))
 refine bA hcx1 clQ clQ ?_
 revert hM;revert hF
 refine slQ ?_
 have hq3:=Ed (by first|exact hp0|exact hp1) hx2
 replace hq3:=nzQ hq3
 intro hF hM
 replace hM:=ar hM;obtain ⟨x4,hx5,hM⟩:=hM
 have hcx4:=cmH hx5 (Ef q (by (first|exact hp0|exact hp1)))
 refine aN hcx4 clQ clQ (fun hw6=> ?_)
 replace hw6:=nzQ hw6
 revert hM;revert hF
 refine slQ ?_
 have hq7:=Ed (by first|exact hp0|exact hp1) hx5
 replace hq7:=nzQ hq7
 intro hF hM
 replace hM:=aH hM;obtain ⟨f8,d8,hf8,hd8,hM⟩:=hM
 refine aK (fun n S=> ∃p:Int,S=(⟨[(5,.sl none 83 true (x1.map fD)),(6,.sl none 83 true (x4.map fD)),(7,.int .i64 p)],[],5⟩:St)∧((0≤p)∧(p≤(x1.length:Int)))∧((x1.length:Int) - p).toNat<n∧ae n f8 d8 p=r) (((x1.length:Int) - 0).toNat+1) _ sbQ sbQ ⟨0,rfl,⟨omQ,omQ⟩,(Nat.lt_succ_self _),hM⟩ ?_
 clear hM
 rintro n8 S ⟨p8,rfl,hfa8,hm8,hM⟩
 replace hM:=aI hM (by omega) hf8;obtain ⟨ag8,hag8,hM⟩:=hM
 replace hfa8:=nzQ hfa8
 replace hm8:=nzQ hm8
 have ha8:al .i64 p8 1=p8+1:=aJ omQ omQ
 replace hF:=(And.intro ha8 hF)
 revert hM;revert hF
 refine slQ ?_
 refine av fun _ _ _=> ?_
 intro hF hM
 replace hM:=aH hM;obtain ⟨f11,d11,hf11,hd11,hM⟩:=hM
 refine aK (fun n S=> ∃p:Int,S=(⟨[(5,.sl none 83 true (x1.map fD)),(6,.sl none 83 true (x4.map fD)),(7,.int .i64 p8),(8,.int .i64 p)],[],5⟩:St)∧((0≤p)∧(p≤(x4.length:Int)))∧((x4.length:Int) - p).toNat<n∧ae n f11 d11 p=r) (((x4.length:Int) - 0).toNat+1) _ sbQ sbQ ⟨0,rfl,⟨omQ,omQ⟩,(Nat.lt_succ_self _),hM⟩ ?_
 clear hM
 rintro n11 S ⟨p11,rfl,hfa11,hm11,hM⟩
 replace hM:=aI hM (by omega) hf11;obtain ⟨ag11,hag11,hM⟩:=hM
 replace hfa11:=nzQ hfa11
 replace hm11:=nzQ hm11
 have ha11:al .i64 p11 1=p11+1:=aJ omQ omQ
 replace hF:=(And.intro ha11 hF)
 revert hM;revert hF
 refine slQ ?_
 refine cdQ (fun _ _ _=> ?_) (fun _ _ _=> ?_)
 ·refine cdQ (fun _ _ _=> ?_) (fun _ _ _=> ?_)
  ·refine az fun _ _ _=> ?_
   intro hF hM
   refine aE (n11 - 1) _ (by omega) sbQ sbQ ⟨(p11+1),rfl,⟨omQ,omQ⟩,omQ,aD hM hag11⟩
  ·intro hF hM
   refine aE (n11 - 1) _ (by omega) sbQ sbQ ⟨(p11+1),rfl,⟨omQ,omQ⟩,omQ,aD hM hag11⟩
 ·intro hF hM
  refine aE (n8 - 1) _ (by omega) sbQ sbQ ⟨(p8+1),rfl,⟨omQ,omQ⟩,omQ,aD hM hag8⟩
instance (priority:=1066):DRD 6 51 11 [7,8,26,27,28,29,30,31,32,33] [] ([[],[0],[0,1],[0,1,2],[],[4],[4,5],[4,5,6],[],[],[0,1,2,3,8]]++[List.range 11]) [(10,17)]:=⟨trivial⟩
instance (priority:=1067):DRD 7 51 8 [34,35,36,37,38,39,40] [] ([[],[0],[0,1],[],[3],[3,4],[],[0,1,2,3,4,6]]++[List.range 8,List.range 9]) [(7,8)]:=⟨trivial⟩
instance (priority:=1068):DRD 9 51 5 [48,49,50] [] ([[],[],[],[0],[1]]++[List.range 5,List.range 6]) [(3,1),(4,2)]:=⟨trivial⟩
set_option maxHeartbeats 2000000 in
set_option maxRecDepth 100000 in
instance Uc (m:aw):CM En (cA m) 13 [(bW m)] (fun y=> .tup [(bW y.1),(aY y.2.1),.agg [.int .i64 y.2.2.1.Number,.sl none 80 true (y.2.2.1.Spends.map aM),.sl none 81 true (y.2.2.1.Chains.map bf),.sl none 5 true (y.2.2.1.Escrow.map bz)],.int .i64 y.2.2.2]) (fun _=> []):=by
 refine enQ [6] Tryz.func13 Tryz.ntmps13 (cA.eq_1 ..) fun r hw=> ?_
 refine ax fun _ hx2 _ _=> ?_
 have hq5:=zn hx2
 replace hq5:=nzQ hq5
 refine az fun _ _ _=> ?_
 refine az fun _ _ _=> ?_
 intro hF hM
 refine fX ?_
 revert hM;revert hF
 refine slQ ?_
 intro hF hM
 replace hM:=ar hM;obtain ⟨x12,hx13,hM⟩:=hM
 have hcx12:=cmH hx13 (zq m (by (first|omega|exact pfQ)))
 refine aN hcx12 clQ clQ (fun hw14=> ?_)
 replace hw14:=nzQ hw14
 revert hM;revert hF
 refine slQ ?_
 have hq15:=zm hx13
 replace hq15:=nzQ hq15
 intro hF hM
 refine gH _ (⟨[(2,.ptr 1 0),(3,.ptr 2 0),(4,.ptr 3 0),(6,.ptr 8 0)],[(1,.var 40 true (xd)),(2,.var 35 true (CP)),(3,.var 4 true (.agg [.int .i64 0,.sl (some true) 80 true [],.sl (some true) 81 true [],.sl (some true) 5 true []])),(4,.own 50 35 true none (x12.Open.map aY)),(5,.pown 4 true none (x12.Queue.map br)),(6,.pown 35 true none (x12.Paid.map aY)),(7,.own 3 1 false none (x12.Blocked.map (V.int .i64))),(8,.var 40 true (.agg (.int .u8 (gt x12.Name 0):: .int .u8 (gt x12.Name 1):: .int .u8 (gt x12.Name 2):: .int .u8 (gt x12.Name 3):: .int .u8 (gt x12.Name 4):: .int .u8 (gt x12.Name 5):: .int .u8 (gt x12.Name 6):: .int .u8 (gt x12.Name 7):: .int .u8 (gt x12.Name 8):: .int .u8 (gt x12.Name 9):: .int .u8 (gt x12.Name 10):: .int .u8 (gt x12.Name 11):: .int .u8 (gt x12.Name 12):: .int .u8 (gt x12.Name 13):: .int .u8 (gt x12.Name 14):: .int .u8 (gt x12.Name 15):: .int .u8 (gt x12.Name 16):: .int .u8 (gt x12.Name 17):: .int .u8 (gt x12.Name 18):: .int .u8 (gt x12.Name 19):: .int .u8 (gt x12.Name 20):: .int .u8 (gt x12.Name 21):: .int .u8 (gt x12.Name 22):: .int .u8 (gt x12.Name 23):: .int .u8 (gt x12.Name 24):: .int .u8 (gt x12.Name 25):: .int .u8 (gt x12.Name 26):: .int .u8 (gt x12.Name 27):: .int .u8 (gt x12.Name 28):: .int .u8 (gt x12.Name 29):: .int .u8 (gt x12.Name 30):: .int .u8 (gt x12.Name 31):: .sl none 3 true (x12.Policy.Rules.map cn):: .own 4:: .int .i64 x12.Next:: .sl none 4 true (x12.Queue.map br):: .sl none 35 true (x12.Paid.map aY):: .int .i64 x12.Total:: .own 7:: .int .i64 x12.Now::[])))],9⟩:St) (((ls (S:=⟨_,_,_⟩) 5 (T:=41) (n:=4) (g:=true) (z:=none) (l:=x12.Queue.map br) clQ).trans (CO (S:=⟨_,_,_⟩) 8 35 5 (n':=40) (n:=4) (g:=true) (l:=(.int .u8 (gt x12.Name 0):: .int .u8 (gt x12.Name 1):: .int .u8 (gt x12.Name 2):: .int .u8 (gt x12.Name 3):: .int .u8 (gt x12.Name 4):: .int .u8 (gt x12.Name 5):: .int .u8 (gt x12.Name 6):: .int .u8 (gt x12.Name 7):: .int .u8 (gt x12.Name 8):: .int .u8 (gt x12.Name 9):: .int .u8 (gt x12.Name 10):: .int .u8 (gt x12.Name 11):: .int .u8 (gt x12.Name 12):: .int .u8 (gt x12.Name 13):: .int .u8 (gt x12.Name 14):: .int .u8 (gt x12.Name 15):: .int .u8 (gt x12.Name 16):: .int .u8 (gt x12.Name 17):: .int .u8 (gt x12.Name 18):: .int .u8 (gt x12.Name 19):: .int .u8 (gt x12.Name 20):: .int .u8 (gt x12.Name 21):: .int .u8 (gt x12.Name 22):: .int .u8 (gt x12.Name 23):: .int .u8 (gt x12.Name 24):: .int .u8 (gt x12.Name 25):: .int .u8 (gt x12.Name 26):: .int .u8 (gt x12.Name 27):: .int .u8 (gt x12.Name 28):: .int .u8 (gt x12.Name 29):: .int .u8 (gt x12.Name 30):: .int .u8 (gt x12.Name 31):: .sl none 3 true (x12.Policy.Rules.map cn):: .own 4:: .int .i64 x12.Next:: .own 5:: .own 6:: .int .i64 x12.Total:: .own 7:: .int .i64 x12.Now::[])) (z:=none) (m:=x12.Queue.map br) clQ clQ rfl)).trans ((ls (S:=⟨_,_,_⟩) 6 (T:=50) (n:=35) (g:=true) (z:=none) (l:=x12.Paid.map aY) clQ).trans (CO (S:=⟨_,_,_⟩) 8 36 6 (n':=40) (n:=35) (g:=true) (l:=(.int .u8 (gt x12.Name 0):: .int .u8 (gt x12.Name 1):: .int .u8 (gt x12.Name 2):: .int .u8 (gt x12.Name 3):: .int .u8 (gt x12.Name 4):: .int .u8 (gt x12.Name 5):: .int .u8 (gt x12.Name 6):: .int .u8 (gt x12.Name 7):: .int .u8 (gt x12.Name 8):: .int .u8 (gt x12.Name 9):: .int .u8 (gt x12.Name 10):: .int .u8 (gt x12.Name 11):: .int .u8 (gt x12.Name 12):: .int .u8 (gt x12.Name 13):: .int .u8 (gt x12.Name 14):: .int .u8 (gt x12.Name 15):: .int .u8 (gt x12.Name 16):: .int .u8 (gt x12.Name 17):: .int .u8 (gt x12.Name 18):: .int .u8 (gt x12.Name 19):: .int .u8 (gt x12.Name 20):: .int .u8 (gt x12.Name 21):: .int .u8 (gt x12.Name 22):: .int .u8 (gt x12.Name 23):: .int .u8 (gt x12.Name 24):: .int .u8 (gt x12.Name 25):: .int .u8 (gt x12.Name 26):: .int .u8 (gt x12.Name 27):: .int .u8 (gt x12.Name 28):: .int .u8 (gt x12.Name 29):: .int .u8 (gt x12.Name 30):: .int .u8 (gt x12.Name 31):: .sl none 3 true (x12.Policy.Rules.map cn):: .own 4:: .int .i64 x12.Next:: .sl none 4 true (x12.Queue.map br):: .own 6:: .int .i64 x12.Total:: .own 7:: .int .i64 x12.Now::[])) (z:=none) (m:=x12.Paid.map aY) clQ clQ rfl))) sbQ sbQ ?_
 exact auP
end Go.Proofs.YteibkofekpejgaaGreatDoor
namespace Go.Proofs.YteibkofekpejgaaGreatDoor
open Go.RowKit
theorem Nw (r:bZ):pA r=qj r:=by
 unfold pA qj
 by_cases h1:r.Kind=1<;>by_cases h2:r.Kind=2<;>by_cases h3:r.Kind=3<;>by_cases h4:r.Kind=4<;>by_cases h5:r.Kind=5<;>simp [aa,mU,h1,h2,h3,h4,h5,eT,lZ]
theorem Nx (l:List bZ):pB l=l.any ng:=by
 unfold pB sZ
 exact j7 (fun ag p=>rfl)
theorem Ny (p:dC):kf p=nP p:=by
 unfold kf nP
 by_cases h:p.Rules.length≤20
 ·have h1:decide ((p.Rules.length:Int)≤20)=true:=decide_eq_true (by omega)
  have h2:decide ((p.Rules.length:Int)>20)=false:=decide_eq_false (by omega)
  rw [h1,h2,if_pos rfl,if_neg (by decide)]
  simp only [aa,iq]
  rw [Kd (c:=qj) (fun ag p=>rfl)]
  rw [Nx]
  have e:ng=fun x=> !qj x:=funext fun x=>by simp [ng,aa,Nw]
  rw [e]
  simp [List.all_eq_not_any_not]
 ·have h1:decide ((p.Rules.length:Int)≤20)=false:=decide_eq_false (by omega)
  have h2:decide ((p.Rules.length:Int)>20)=true:=decide_eq_true (by omega)
  rw [h1,h2,if_pos rfl,if_neg (by decide)]
theorem Nz (v:aL):lP v=kw v:=by
 unfold lP kw qk
 simp only [aa]
 by_cases a1:v.Amount≥1<;>by_cases a2:v.Amount≤1099511627776<;>by_cases a3:v.Time≥0<;>by_cases a4:v.Time≤1099511627776<;>by_cases a5:v.Number≥0<;>simp [a1,a2,a3,a4,a5]
theorem Eg (m:aw) (v:aL):iu m v=dr m v:=by
 unfold iu dr pC
 simp only [aa,Nz]
 cases kw v<;>simp
theorem uk {v:aL}:kw v=true↔1≤v.Amount∧v.Amount≤1099511627776∧0≤v.Time∧v.Time≤1099511627776∧0≤v.Number∧v.Number≤1073741824:=by
 unfold kw qk
 simp only [aa]
 by_cases a1:v.Amount≥1<;>by_cases a2:v.Amount≤1099511627776<;>by_cases a3:v.Time≥0<;>by_cases a4:v.Time≤1099511627776<;>by_cases a5:v.Number≥0<;>simp [a1,a2,a3,a4,a5]<;>omega
theorem Eh (a:List Int):eH a a=true:=by simp [eH]
theorem ul {m:aw} {v:aL}:dr m v=true↔kw v=true∧eH v.Payee m.Name=true∧v.Time≤m.Now∧v.Number<m.Next:=by
 unfold dr
 simp only [aa]
 cases kw v<;>cases eH v.Payee m.Name<;>by_cases a:v.Time≤m.Now<;>simp [a]
def asc (l:List Int):Prop:= ∀j:Int,1≤j→j<l.length→gt l (j - 1)<gt l j
theorem um {l:List Int}:kg l=true↔asc l:=by
 unfold kg asc
 rw [xn (n:=(l.length:Int)) (C:=fun p=> !decide (gt l p≤gt l (p - 1))) (X:=true) (fun ag p=>by cases h:decide (gt l p≤gt l (p - 1))<;>simp [h]) _ _ (by omega)]
 simp only [Bool.not_eq_true',decide_eq_false_iff_not,Int.not_le,and_true]
theorem NA (l:List Int) (v:Int):kh l v=l.any fun y=>v==y:=by
 unfold kh s5
 exact j7 (fun ag p=>rfl)
theorem zz (l:List aL) (n:Int):decide (gN l n≥0)=l.any fun v=>v.Number==n:=by
 unfold gN
 exact j7 (fun ag p=>rfl)
theorem sl0 {α:Type} {l:List α} {k:Nat}:sl l 0 (k:Int)=l.take k:=by simp [sl]
def fin (m:aw) (t:Int):Bool:=if (t==m.Total)=true then decide (t≤1099511627776) else false
def zA (m:aw) (nums:List Int):Bool:=
 ae (((m.Paid.length:Int) - 0).toNat+1) (fun (ag31:(Int×Int×List Int)→Bool) (p31:Int×Int×List Int)=>(if (decide (p31.2.1<(m.Paid.length:Int))) then (if (!(iu m (gt m.Paid p31.2.1))) then false else (if ((gt m.Queue p31.2.1).Number !=(gt m.Paid p31.2.1).Number) then false else (if (kh (p31.2.2) ((gt m.Paid p31.2.1).Number)) then false else (ag31 ((al .i64 p31.1 (gt m.Paid p31.2.1).Amount),(p31.2.1+1),(p31.2.2++([(gt m.Paid p31.2.1).Number]:List Int))))))) else fin m p31.1)) (fun _=>default) (0,0,nums)
def kD (m:aw) (E:Int→Bool):Bool:=
 ae (((m.Paid.length:Int) - 0).toNat+1) (fun (ag23:(Int×Int)→Bool) (p23:Int×Int)=>(if (decide (p23.2<(m.Paid.length:Int))) then (if (!(dr m (gt m.Paid p23.2))) then false else (if ((gt m.Queue p23.2).Number !=(gt m.Paid p23.2).Number) then false else (if (decide ((gN (m.Open) ((gt m.Paid p23.2).Number))≥0)) then false else (if (decide ((gN (sl m.Paid 0 p23.2) ((gt m.Paid p23.2).Number))≥0)) then false else (ag23 ((al .i64 p23.1 (gt m.Paid p23.2).Amount),(p23.2+1))))))) else E p23.1)) (fun _=>default) (0,0)
theorem NB (m:aw):zA m (m.Open.map (·.Number))=kD m (fin m):=by
 unfold zA kD
 refine Kc (Rl:=fun p q=>p.1=q.1∧ ∃k:Nat,p.2.1=(k:Int)∧q.2=(k:Int)∧k≤m.Paid.length∧p.2.2=m.Open.map (·.Number)++(m.Paid.take k).map (·.Number)) (ma:=fun p=>((m.Paid.length:Int) - p.2.1).toNat) ?_ _ _ _ _ ⟨rfl,0,rfl,rfl,Nat.zero_le _,by simp⟩ (by show ((m.Paid.length:Int) - 0).toNat<_;omega) (by show ((m.Paid.length:Int) - 0).toNat<_;omega)
 rintro ag ag' ⟨t,i,nums⟩ ⟨t',i'⟩ ⟨h1,k,h2,h3,h4,h5⟩ hag
 simp only at h1 h2 h3 h5⊢
 subst h1 h2 h3 h5
 by_cases hk:k<m.Paid.length
 ·rw [if_pos (decide_eq_true (by omega)),if_pos (decide_eq_true (by omega)),Eg]
  cases dr m (gt m.Paid (k:Int))
  ·rfl
  ·simp only [Bool.not_true,Bool.false_eq_true,if_false]
   cases (gt m.Queue (k:Int)).Number !=(gt m.Paid (k:Int)).Number
   ·simp only [Bool.false_eq_true,if_false]
    rw [NA,zz,zz,sl0,List.any_append,List.any_map,List.any_map]
    have e: ∀l:List aL,l.any ((fun y=>(gt m.Paid (k:Int)).Number==y)∘fun x=>x.Number)=l.any fun v=>v.Number==(gt m.Paid (k:Int)).Number:=fun l=>by
     exact congrArg (fun f=>l.any f) (funext fun v=>Bool.eq_iff_iff.2 (by simp only [Function.comp_apply,beq_iff_eq];exact eq_comm))
    rw [e,e]
    cases m.Open.any fun v=>v.Number==(gt m.Paid (k:Int)).Number
    ·cases (m.Paid.take k).any fun v=>v.Number==(gt m.Paid (k:Int)).Number
     ·simp only [Bool.or_false,Bool.false_eq_true,if_false]
      refine hag _ _ ⟨rfl,k+1,by show (k:Int)+1=_;omega,by show (k:Int)+1=_;omega,hk,?_⟩ (by show ((m.Paid.length:Int) - ((k:Int)+1)).toNat<((m.Paid.length:Int) - (k:Int)).toNat;omega)
      show _++[(gt m.Paid (k:Int)).Number]=_
      rw [List.take_succ_eq_append_getElem hk,CR hk,List.map_append,List.append_assoc]
      rfl
     ·rfl
    ·rfl
   ·rfl
 ·rw [if_neg (by simp;omega),if_neg (by simp;omega)]
def zB (m:aw):Prop:= ∀j:Int,0≤j→j<m.Blocked.length→0<gt m.Blocked j∧(0<j→gt m.Blocked (j - 1)<gt m.Blocked j)
theorem nU {m:aw}:zB m↔asc m.Blocked∧(0<m.Blocked.length→0<gt m.Blocked 0):=by
 refine ⟨fun h=>⟨fun j h1 h2=>(h j (by omega) h2).2 (by omega),fun h0=>(h 0 (Int.le_refl _) (by omega)).1⟩,fun ⟨h1,h2⟩=> ?_⟩
 have key: ∀k:Nat,k<m.Blocked.length→0<gt m.Blocked (k:Int):=by
  intro k
  induction k with
  | zero=>intro h;exact h2 h
  | succ k ih=>
   intro h
   have h3:=ih (by omega)
   have h4:=h1 ((k+1:Nat):Int) (by omega) (by omega)
   rw [show ((k+1:Nat):Int) - 1=k by omega] at h4
   omega
 intro j h0 hj
 obtain ⟨k,rfl⟩: ∃k:Nat,j=k:=⟨j.toNat,by omega⟩
 exact ⟨key k (by omega),fun hp=>h1 _ (by omega) hj⟩
structure Ei (m:aw):Prop where
 pol:nP m.Policy=true
 now:0≤m.Now∧m.Now≤1099511627776
 next:0≤m.Next∧m.Next≤1073741824
 len:m.Open.length≤50∧m.Queue.length≤50∧m.Paid.length=m.Queue.length∧m.Blocked.length≤100
 blk:zB m
 inv: ∀j:Int,0≤j→j<m.Open.length→dr m (gt m.Open j)=true
 ord:asc (m.Open.map (·.Number))
 paid:kD m (fin m)=true
theorem NC {m:aw}:di m=true↔Ei m:=by
 have main: ∀b:Bool,(b=true↔(∀j:Int,0≤j→j<m.Open.length→dr m (gt m.Open j)=true)∧asc (m.Open.map (·.Number))∧kD m (fin m)=true)→nP m.Policy=true→(0≤m.Now∧m.Now≤1099511627776)→(0≤m.Next∧m.Next≤1073741824)→(m.Open.length≤50∧m.Queue.length≤50∧m.Paid.length=m.Queue.length∧m.Blocked.length≤100)→zB m→(b=true↔Ei m):=
  fun b hb h1 h2 h3 h4 h5=>⟨fun h=>⟨h1,h2,h3,h4,h5,(hb.1 h).1,(hb.1 h).2.1,(hb.1 h).2.2⟩,fun h=>hb.2 ⟨h.inv,h.ord,h.paid⟩⟩
 -- the loop over the open invoices
 have loop: ∀(F:(Int×List Int→Bool)→Int×List Int→Bool) d,(∀ag p,F ag p=if decide (p.1<(m.Open.length:Int))=true then (if (!iu m (gt m.Open p.1))=true then false else ag (p.1+1,p.2++[(gt m.Open p.1).Number])) else (if (!kg p.2)=true then false else zA m p.2))→
   (ae (((m.Open.length:Int) - 0).toNat+1) F d (0,[])=true↔(∀j:Int,0≤j→j<m.Open.length→dr m (gt m.Open j)=true)∧asc (m.Open.map (·.Number))∧kD m (fin m)=true):=by
  intro F d hF
  have key: ∀(fuel k:Nat),k≤m.Open.length→m.Open.length - k<fuel→(ae fuel F d ((k:Int),(m.Open.take k).map (·.Number))=true↔(∀j:Int,(k:Int)≤j→j<m.Open.length→dr m (gt m.Open j)=true)∧asc (m.Open.map (·.Number))∧kD m (fin m)=true):=by
   intro fuel
   induction fuel with
   | zero=>intro k _ h;omega
   | succ n ih=>
    intro k hk h
    rw [ae,hF]
    by_cases hlt:k<m.Open.length
    ·rw [if_pos (decide_eq_true (show (k:Int)<_ by omega)),Eg]
     have e:(m.Open.take k).map (·.Number)++[(gt m.Open (k:Int)).Number]=(m.Open.take (k+1)).map (·.Number):=by
      rw [List.take_succ_eq_append_getElem hlt,CR hlt,List.map_append];rfl
     cases hi:dr m (gt m.Open (k:Int))
     ·refine ⟨fun h=>Bool.noConfusion h,fun h=> ?_⟩
      have:=h.1 (k:Int) (Int.le_refl _) (by omega)
      rw [hi] at this;cases this
     ·simp only [Bool.not_true,Bool.false_eq_true,if_false]
      rw [e,show (k:Int)+1=((k+1:Nat):Int) by omega,ih (k+1) hlt (by omega)]
      refine and_congr_left fun _=>⟨fun h j h1 h2=> ?_,fun h j h1 h2=>h j (by omega) h2⟩
      by_cases ej:j=k
      ·subst ej;exact hi
      ·exact h j (by omega) h2
    ·obtain rfl:k=m.Open.length:=by omega
     rw [if_neg (by simp),List.take_length,iq]
     by_cases ha:asc (m.Open.map (·.Number))
     ·rw [if_pos (um.2 ha),NB]
      exact ⟨fun h=>⟨fun j h1 h2=>by omega,ha,h⟩,fun h=>h.2.2⟩
     ·rw [if_neg (fun h=>ha (um.1 h))]
      exact ⟨fun h=>Bool.noConfusion h,fun h=>absurd h.2.1 ha⟩
  exact key _ 0 (Nat.zero_le _) (by omega)
 unfold di
 simp only [aa]
 rw [Ny]
 cases hp:nP m.Policy
 ·exact ⟨fun h=>Bool.noConfusion h,fun h=>by have:=h.pol;rw [hp] at this;cases this⟩
 simp only [Bool.not_true,Bool.false_eq_true,if_false]
 by_cases c1:m.Now<0
 ·rw [if_pos (decide_eq_true c1)];exact ⟨fun h=>Bool.noConfusion h,fun h=>by have:=h.now;omega⟩
 by_cases c2:m.Now>1099511627776
 ·rw [if_neg (by simpa using c1),if_pos (decide_eq_true c2)];exact ⟨fun h=>Bool.noConfusion h,fun h=>by have:=h.now;omega⟩
 by_cases c3:m.Next<0
 ·rw [if_neg (by simpa using c1),if_neg (by simpa using c2),if_pos (decide_eq_true c3)];exact ⟨fun h=>Bool.noConfusion h,fun h=>by have:=h.next;omega⟩
 by_cases c4:m.Next>1073741824
 ·rw [if_neg (by simpa using c1),if_neg (by simpa using c2),if_neg (by simpa using c3),if_pos (decide_eq_true c4)];exact ⟨fun h=>Bool.noConfusion h,fun h=>by have:=h.next;omega⟩
 rw [if_neg (by simpa using c1),if_neg (by simpa using c2),if_neg (by simpa using c3),if_neg (by simpa using c4)]
 by_cases c5:(m.Open.length:Int)>50
 ·rw [if_pos (decide_eq_true c5)];exact ⟨fun h=>Bool.noConfusion h,fun h=>by have:=h.len;omega⟩
 by_cases c6:(m.Queue.length:Int)>50
 ·rw [if_neg (by simpa using c5),if_pos (decide_eq_true c6)];exact ⟨fun h=>Bool.noConfusion h,fun h=>by have:=h.len;omega⟩
 rw [if_neg (by simpa using c5),if_neg (by simpa using c6)]
 by_cases c7:m.Paid.length=m.Queue.length
 case neg=>rw [if_pos (by simp only [bne_iff_ne,ne_eq];omega)];exact ⟨fun h=>Bool.noConfusion h,fun h=>absurd h.len.2.2.1 c7⟩
 rw [if_neg (by simp [c7])]
 by_cases c8:(m.Blocked.length:Int)>100
 ·rw [if_pos (decide_eq_true c8)];exact ⟨fun h=>Bool.noConfusion h,fun h=>by have:=h.len;omega⟩
 rw [if_neg (by simpa using c8)]
 by_cases c9:asc m.Blocked
 case neg=>rw [iq,if_neg (fun h=>c9 (um.1 h))];exact ⟨fun h=>Bool.noConfusion h,fun h=>absurd (nU.1 h.blk).1 c9⟩
 rw [iq,if_pos (um.2 c9)]
 by_cases c10:(m.Blocked.length:Int)>0
 ·rw [if_pos (decide_eq_true c10)]
  by_cases c11:gt m.Blocked 0≤0
  ·rw [if_pos (decide_eq_true c11)];exact ⟨fun h=>Bool.noConfusion h,fun h=>by have:=(nU.1 h.blk).2 (by omega);omega⟩
  ·rw [if_neg (by simpa using c11)]
   exact main _ (loop _ _ fun ag p=>rfl) hp (by omega) (by omega) (by omega) (nU.2 ⟨c9,fun _=>by omega⟩)
 ·rw [if_neg (by simpa using c10)]
  exact main _ (loop _ _ fun ag p=>rfl) hp (by omega) (by omega) (by omega) (nU.2 ⟨c9,fun h=>by omega⟩)
end Go.Proofs.YteibkofekpejgaaGreatDoor
namespace Go.Proofs.YteibkofekpejgaaGreatDoor
open Go.RowKit
theorem ND (v:aL):j5 v v=true:=by simp [j5]
theorem NE (a:bv):nb a a=true:=by simp [nb]
theorem NF (a:fC):nc a a=true:=by simp [nc]
theorem NG (a:eF):jk a a=true:=by simp [jk]
theorem NH (a:dR):lM a a=true:=by simp [lM]
theorem NI (a:bZ):lN a a=true:=by simp [lN]
theorem NJ (a:eG):qg a a=true:=by
 unfold qg
 simp only [bne_self_eq_false,Bool.false_eq_true,if_false,iq]
 exact gJ (C:=fun p=>eH (gt a.L p) (gt a.L p)) (fun ag p=>rfl) (fun p=>Eh _) _ _ (by omega)
theorem Ej (a:au):ku a a=true:=by
 unfold ku
 simp only [aa,NE,NF,NG,NJ,bne_self_eq_false,Bool.not_true,Bool.false_eq_true,if_false,iq]
 exact gJ (C:=fun p=>lM (gt a.Leaves p) (gt a.Leaves p)) (fun ag p=>rfl) (fun p=>NH _) _ _ (by omega)
theorem NL (a:bh):nM a a=true:=by
 unfold nM
 simp only [aa,bne_self_eq_false,Bool.false_eq_true,if_false,iq]
 exact gJ (C:=fun p=>ku (gt (gK a) p) (gt (gK a) p)) (fun ag p=>rfl) (fun p=>Ej _) _ _ (by omega)
theorem NM (a:List Int):nN a a=true:=by
 unfold nN
 simp only [bne_self_eq_false,Bool.false_eq_true,if_false]
 exact gJ (C:=fun _=>true) (fun ag p=>rfl) (fun p=>rfl) _ _ (by omega)
theorem NN (a:b9):nO a a=true:=by
 unfold nO tT
 simp [aa,NM]
theorem zC (a:aA):fG a a=true:=by
 unfold fG
 simp only [aa,bne_self_eq_false,Bool.false_eq_true,if_false,iq]
 rw [gJ (C:=fun p=>ku (gt a.Spends p) (gt a.Spends p)) (fun ag p=>rfl) (fun p=>Ej _) _ _ (by omega)]
 rw [gJ (C:=fun p=>nM (gt a.Chains p) (gt a.Chains p)) (fun ag p=>rfl) (fun p=>NL _) _ _ (by omega)]
 exact gJ (C:=fun p=>nO (gt a.Escrow p) (gt a.Escrow p)) (fun ag p=>rfl) (fun p=>NN _) _ _ (by omega)
theorem NO (a:List aL):nL a a=true:=by
 unfold nL
 simp only [bne_self_eq_false,Bool.false_eq_true,if_false,iq]
 exact gJ (C:=fun p=>j5 (gt a p) (gt a p)) (fun ag p=>rfl) (fun p=>ND _) _ _ (by omega)
theorem NP (a:aw):qh a a=true:=by
 unfold qh
 simp only [aa,Eh,NO,bne_self_eq_false,Bool.not_true,Bool.false_eq_true,if_false,iq]
 rw [gJ (C:=fun p=>lN (gt a.Policy.Rules p) (gt a.Policy.Rules p)) (fun ag p=>rfl) (fun p=>NI _) _ _ (by omega)]
 rw [gJ (C:=fun p=>fG (gt a.Queue p) (gt a.Queue p)) (fun ag p=>rfl) (fun p=>zC _) _ _ (by omega)]
 exact gJ (C:=fun _=>true) (fun ag p=>rfl) (fun p=>rfl) _ _ (by omega)
theorem NQ:qi bK=true:=by
 unfold qi
 exact NP _
end Go.Proofs.YteibkofekpejgaaGreatDoor
namespace Go.Proofs.YteibkofekpejgaaGreatDoor
open Go.RowKit
theorem cq {α:Type} [Inhabited α] {l:List α} {j:Nat} (h:j<l.length):gt l (j:Int)=l[j]:=by
 simp [gt,List.getD_eq_getElem?_getD,h]
theorem uo {l:List Int}:asc l↔l.Pairwise (· < ·):=by
 rw [List.pairwise_iff_getElem]
 constructor
 ·intro h i j hi hj hij
  obtain ⟨d,rfl⟩: ∃d,j=i+1+d:=⟨j - (i+1),by omega⟩
  induction d with
  | zero=>
   have:=h ((i+1:Nat):Int) (by omega) (by omega)
   rw [show ((i+1:Nat):Int) - 1=(i:Int) by omega,cq hi,cq hj] at this
   exact this
  | succ d ih=>
   have h1:=ih (by omega) (by omega)
   have:=h ((i+1+(d+1):Nat):Int) (by omega) (by omega)
   rw [show ((i+1+(d+1):Nat):Int) - 1=((i+1+d:Nat):Int) by omega,cq (by omega),cq hj] at this
   omega
 ·intro h j h1 h2
  obtain ⟨k,rfl⟩: ∃k:Nat,j=((k+1:Nat):Int):=⟨(j - 1).toNat,by omega⟩
  rw [show ((k+1:Nat):Int) - 1=(k:Int) by omega,cq (by omega),cq (by omega)]
  exact h k (k+1) (by omega) (by omega) (by omega)
def kE (m:aw) (j:Nat):Prop:=dr m (gt m.Paid (j:Int))=true∧(gt m.Queue (j:Int)).Number=(gt m.Paid (j:Int)).Number∧(∀v∈m.Open,v.Number≠(gt m.Paid (j:Int)).Number)∧(∀v∈m.Paid.take j,v.Number≠(gt m.Paid (j:Int)).Number)
def cr (l:List aL):Int:=(l.map (·.Amount)).sum
theorem uq {l:List aL} {n:Int}:decide (gN l n≥0)=false↔ ∀v∈l,v.Number≠n:=by
 rw [zz,List.any_eq_false]
 exact ⟨fun h v hv=>by have:=h v hv;simpa using this,fun h v hv=>by have:=h v hv;simpa using this⟩
theorem NR {m:aw} (hn:m.Paid.length≤50) {F:(Int×Int→Bool)→Int×Int→Bool} {d:Int×Int→Bool}
  (hF: ∀ag p,F ag p=(if (decide (p.2<(m.Paid.length:Int))) then (if (!(dr m (gt m.Paid p.2))) then false else (if ((gt m.Queue p.2).Number !=(gt m.Paid p.2).Number) then false else (if (decide ((gN (m.Open) ((gt m.Paid p.2).Number))≥0)) then false else (if (decide ((gN (sl m.Paid 0 p.2) ((gt m.Paid p.2).Number))≥0)) then false else (ag ((al .i64 p.1 (gt m.Paid p.2).Amount),(p.2+1))))))) else fin m p.1)):
  ∀(fuel i:Nat) (t:Int),i≤m.Paid.length→m.Paid.length - i<fuel→0≤t→t≤1099511627776*i→(ae fuel F d (t,(i:Int))=true↔(∀j,i≤j→j<m.Paid.length→kE m j)∧fin m (t+cr (m.Paid.drop i))=true):=by
 intro fuel
 induction fuel with
 | zero=>intro i t h1 h2;omega
 | succ fuel ih=>
  intro i t h1 h2 t0 t1
  show F (ae fuel F d) (t,(i:Int))=true↔_
  rw [hF]
  simp only
  by_cases hi:i<m.Paid.length
  ·rw [if_pos (decide_eq_true (by omega:(i:Int)<(m.Paid.length:Int)))]
   have hsplit:(∀j,i≤j→j<m.Paid.length→kE m j)↔kE m i∧ ∀j,i+1≤j→j<m.Paid.length→kE m j:=
    ⟨fun h=>⟨h i (Nat.le_refl _) hi,fun j h1 h2=>h j (by omega) h2⟩,fun h j h1 h2=>by
     rcases Nat.eq_or_lt_of_le h1 with e|e
     ·exact e▸h.1
     ·exact h.2 j e h2⟩
   rw [hsplit]
   have hdrop:cr (m.Paid.drop i)=(gt m.Paid (i:Int)).Amount+cr (m.Paid.drop (i+1)):=by
    unfold cr
    rw [cq hi,List.drop_eq_getElem_cons hi,List.map_cons,List.sum_cons]
   cases g1:dr m (gt m.Paid (i:Int)) with
   | false=>simp [kE,g1]
   | true=>
    have ha:=uk.1 (ul.1 g1).1
    simp only [Bool.not_true,Bool.false_eq_true,if_false]
    by_cases g2:(gt m.Queue (i:Int)).Number=(gt m.Paid (i:Int)).Number
    ·rw [if_neg (by simp [g2])]
     cases g3:decide (gN m.Open (gt m.Paid (i:Int)).Number≥0) with
     | true=>
      rw [if_pos rfl]
      refine ⟨fun h=>Bool.noConfusion h,fun h=> ?_⟩
      have:=uq.2 h.1.1.2.2.1
      rw [g3] at this;exact Bool.noConfusion this
     | false=>
      rw [if_neg (by decide)]
      rw [sl0]
      cases g4:decide (gN (m.Paid.take i) (gt m.Paid (i:Int)).Number≥0) with
      | true=>
       rw [if_pos rfl]
       refine ⟨fun h=>Bool.noConfusion h,fun h=> ?_⟩
       have:=uq.2 h.1.1.2.2.2
       rw [g4] at this;exact Bool.noConfusion this
      | false=>
       rw [if_neg (by decide),lr (by omega) (by omega)]
       have:=ih (i+1) (t+(gt m.Paid (i:Int)).Amount) hi (by omega) (by omega) (by omega)
       rw [show ((i+1:Nat):Int)=(i:Int)+1 by omega] at this
       rw [this,hdrop,←Int.add_assoc]
       have hok:kE m i:=⟨g1,g2,uq.1 g3,uq.1 g4⟩
       exact ⟨fun h=>⟨⟨hok,h.1⟩,h.2⟩,fun h=>⟨h.1.2,h.2⟩⟩
    ·rw [if_pos (by simpa using g2)]
     exact ⟨fun h=>Bool.noConfusion h,fun h=>absurd h.1.1.2.1 g2⟩
  ·rw [if_neg (by simp;omega)]
   rw [List.drop_eq_nil_of_le (by omega)]
   simp only [cr,List.map_nil,List.sum_nil,Int.add_zero]
   exact ⟨fun h=>⟨fun j h1 h2=>absurd h2 (by omega),h⟩,fun h=>h.2⟩
structure VP (m:aw):Prop where
 pol:nP m.Policy=true
 now:0≤m.Now∧m.Now≤1099511627776
 next:0≤m.Next∧m.Next≤1073741824
 len:m.Open.length≤50∧m.Queue.length≤50∧m.Paid.length=m.Queue.length∧m.Blocked.length≤100
 asb:m.Blocked.Pairwise (· < ·)
 pos: ∀x∈m.Blocked,0<x
 inv: ∀v∈m.Open,dr m v=true
 ord:(m.Open.map (·.Number)).Pairwise (· < ·)
 pinv: ∀v∈m.Paid,dr m v=true
 pq:m.Queue.map (·.Number)=m.Paid.map (·.Number)
 dis: ∀v∈m.Open,∀u∈m.Paid,v.Number≠u.Number
 pnd:(m.Paid.map (·.Number)).Nodup
 tot:cr m.Paid=m.Total∧m.Total≤1099511627776
theorem NS {m:aw} {t:Int}:fin m t=true↔t=m.Total∧t≤1099511627776:=by
 unfold fin
 by_cases h:t=m.Total<;>simp [h]
theorem Ek {m:aw} (hn:m.Paid.length≤50):kD m (fin m)=true↔(∀j,j<m.Paid.length→kE m j)∧cr m.Paid=m.Total∧m.Total≤1099511627776:=by
 unfold kD
 have:=NR hn (F:=fun (ag23:(Int×Int)→Bool) (p23:Int×Int)=>(if (decide (p23.2<(m.Paid.length:Int))) then (if (!(dr m (gt m.Paid p23.2))) then false else (if ((gt m.Queue p23.2).Number !=(gt m.Paid p23.2).Number) then false else (if (decide ((gN (m.Open) ((gt m.Paid p23.2).Number))≥0)) then false else (if (decide ((gN (sl m.Paid 0 p23.2) ((gt m.Paid p23.2).Number))≥0)) then false else (ag23 ((al .i64 p23.1 (gt m.Paid p23.2).Amount),(p23.2+1))))))) else fin m p23.1)) (d:=fun _=>default) (fun ag p=>rfl) (((m.Paid.length:Int) - 0).toNat+1) 0 0 (by omega) (by omega) (by omega) (by omega)
 rw [show ((0:Nat):Int)=0 from rfl] at this
 rw [this,List.drop_zero,Int.zero_add,NS]
 exact ⟨fun h=>⟨fun j hj=>h.1 j (Nat.zero_le _) hj,h.2.1,h.2.1▸h.2.2⟩,fun h=>⟨fun j _ hj=>h.1 j hj,h.2.1,h.2.1.symm▸h.2.2⟩⟩
theorem Em {m:aw} (hl:m.Paid.length=m.Queue.length):(∀j,j<m.Paid.length→kE m j)↔(∀v∈m.Paid,dr m v=true)∧m.Queue.map (·.Number)=m.Paid.map (·.Number)∧(∀v∈m.Open,∀u∈m.Paid,v.Number≠u.Number)∧(m.Paid.map (·.Number)).Nodup:=by
 constructor
 ·intro h
  refine ⟨fun v hv=> ?_,?_,fun v hv u hu=> ?_,?_⟩
  ·obtain ⟨i,hi,rfl⟩:=List.getElem_of_mem hv
   have:=(h i hi).1
   rwa [cq hi] at this
  ·apply List.ext_getElem
   ·simp [hl]
   ·intro i h1 h2
    have hi:i<m.Paid.length:=by simpa using h2
    have:=(h i hi).2.1
    rw [cq hi,cq (by omega)] at this
    simpa using this
  ·obtain ⟨i,hi,rfl⟩:=List.getElem_of_mem hu
   have:=(h i hi).2.2.1 v hv
   rwa [cq hi] at this
  ·unfold List.Nodup
   rw [List.pairwise_iff_getElem]
   intro i j hi hj hij e
   have hj':j<m.Paid.length:=by simpa using hj
   have:=(h j hj').2.2.2 (m.Paid[i]'(by omega)) (List.mem_iff_getElem.2 ⟨i,by rw [List.length_take];omega,by simp⟩)
   rw [cq hj'] at this
   exact this (by simpa using e)
 ·rintro ⟨h1,h2,h3,h4⟩ j hj
  refine ⟨by rw [cq hj];exact h1 _ (List.getElem_mem hj),?_,fun v hv=>by rw [cq hj];exact h3 v hv _ (List.getElem_mem hj),fun v hv=> ?_⟩
  ·rw [cq hj,cq (by omega)]
   have e:=congrArg (·[j]?) h2
   simp only [List.getElem?_map,List.getElem?_eq_getElem hj,List.getElem?_eq_getElem (show j<m.Queue.length by omega),Option.map_some,Option.some.injEq] at e
   exact e
  ·obtain ⟨i,hi,rfl⟩:=List.getElem_of_mem hv
   rw [List.length_take] at hi
   unfold List.Nodup at h4
   rw [List.pairwise_iff_getElem] at h4
   have:=h4 i j (by simp;omega) (by simpa using hj) (by omega)
   rw [cq hj]
   simpa using this
theorem me {m:aw}:di m=true↔VP m:=by
 rw [NC]
 constructor
 ·rintro ⟨h1,h2,h3,h4,h5,h6,h7,h8⟩
  obtain ⟨b1,b2⟩:=nU.1 h5
  have hp:=(Ek (by omega)).1 h8
  obtain ⟨p1,p2,p3,p4⟩:=(Em h4.2.2.1).1 hp.1
  refine ⟨h1,h2,h3,h4,uo.1 b1,fun x hx=> ?_,fun v hv=> ?_,uo.1 h7,p1,p2,p3,p4,hp.2⟩
  ·obtain ⟨i,hi,rfl⟩:=List.getElem_of_mem hx
   have:=(h5 (i:Int) (by omega) (by omega)).1
   rwa [cq hi] at this
  ·obtain ⟨i,hi,rfl⟩:=List.getElem_of_mem hv
   have:=h6 (i:Int) (by omega) (by omega)
   rwa [cq hi] at this
 ·intro h
  refine ⟨h.pol,h.now,h.next,h.len,nU.2 ⟨uo.2 h.asb,fun h0=> ?_⟩,fun j h0 hj=> ?_,uo.2 h.ord,(Ek (by have:=h.len;omega)).2 ⟨(Em h.len.2.2.1).2 ⟨h.pinv,h.pq,h.dis,h.pnd⟩,h.tot⟩⟩
  ·exact h.pos _ (bG (by simpa using h0))
  ·exact h.inv _ (bG (by omega))
end Go.Proofs.YteibkofekpejgaaGreatDoor
namespace Go.Proofs.YteibkofekpejgaaGreatDoor
open Go.RowKit
theorem NT:jm=true:=by kernel_rfl
theorem Eo: ∀{l:List (Bool×Int)} {n:Int},(∀x∈l,x.2≠0)→((iA l n).2=0→(∀x∈l,x.1=true)∧(iA l n).1=n)∧((iA l n).2≠0→(iA l n).1=0)
 | [],_,_=>⟨fun _=>⟨fun _ h=>(by cases h),rfl⟩,fun h=>absurd rfl h⟩
 | (true,_)::l,n,h=>by
  have ih:=Eo (l:=l) (n:=n) (fun x hx=>h x (List.mem_cons_of_mem _ hx))
  refine ⟨fun h1=> ?_,fun h1=>ih.2 h1⟩
  obtain ⟨a,b⟩:=ih.1 h1
  refine ⟨fun x hx=> ?_,b⟩
  rcases List.mem_cons.1 hx with rfl|hx
  ·rfl
  ·exact a x hx
 | (false,e)::_,_,h=>⟨fun h1=>absurd h1 (h (false,e) List.mem_cons_self),fun _=>rfl⟩
section
variable {b:aX} {l:List bg} {y:Int} {v w:aL} {p:aA}
theorem NU: ∀x∈qd b l y v p,x.2≠0:=by
 intro x hx
 simp only [qd,List.mem_cons,List.not_mem_nil,or_false] at hx
 rcases hx with rfl|rfl|rfl|rfl|rfl|rfl|rfl|rfl|rfl|rfl<;>(intro h;cases h)
theorem NV (h:(cQ b l y v p).2=0):nt ⟨b,l,y,v,p⟩=true∧p.Number=v.Number∧nG ⟨b,l,y,v,p⟩=true∧(cQ b l y v p).1=v.Amount:=by
 obtain ⟨h1,h2⟩:=(Eo (NU (b:=b) (l:=l) (y:=y) (v:=v) (p:=p)) (n:=v.Amount)).1 h
 have hm: ∀(i:Nat) (hi:i<(qd b l y v p).length),((qd b l y v p)[i]'hi).1=true:=fun i hi=>h1 _ (List.getElem_mem hi)
 have e0:nt ⟨b,l,y,v,p⟩=true:=hm 0 (show 0<10 by decide)
 have e2:pQ p v=true:=hm 2 (show 2<10 by decide)
 have e4:nG ⟨b,l,y,v,p⟩=true:=hm 4 (show 4<10 by decide)
 exact ⟨e0,eq_of_beq e2,e4,h2⟩
end
theorem zD (l:List aL) (p:aA):(fF l p= -1∧ ∀v∈l,v.Number≠p.Number)∨
  ∃i:Nat,fF l p=i∧i<l.length∧(gt l (i:Int)).Number=p.Number:=by
 unfold fF
 generalize hF:(fun (ag1:Int→Int) (p1:Int)=>(if (decide (p1<(l.length:Int))) then (aa (km (gt l p1) p) (fun (x5:Bool)=>(if x5 then p1 else (ag1 (p1+1))))) else (-1)))=F
 have hF': ∀ag q,F ag q=if q<(l.length:Int) then (if km (gt l q) p=true then q else ag (q+1)) else -1:=fun ag q=>by
  subst hF
  by_cases hq:q<(l.length:Int)<;>simp [aa,hq]
 rcases xm (C:=fun q=>km (gt l q) p) hF' (d:=fun _=>default) (((l.length:Int) - 0).toNat+1) 0 (by omega) (by omega) with ⟨h1,h2⟩|⟨h1,h2,h3,_⟩
 ·refine .inl ⟨h1,fun v hv=> ?_⟩
  obtain ⟨i,hi,rfl⟩:=List.getElem_of_mem hv
  have:=h2 (i:Int) (by omega) (by omega)
  rw [cq hi] at this
  simpa [km] using this
 ·refine .inr ⟨(ae (((l.length:Int) - 0).toNat+1) F (fun _=>default) 0).toNat,by omega,by omega,?_⟩
  rw [Int.toNat_of_nonneg h1]
  simpa [km] using h3
def eV (m:aw) (p:aA) (i:Nat) (a:Int):aw:={m with Open:=m.Open.take i++m.Open.drop (i+1),Queue:=m.Queue++[p],Paid:=m.Paid++[gt m.Open (i:Int)],Total:=al .i64 m.Total a}
def ur (b:aX) (l:List bg) (y:Int) (m:aw) (p:aA) (i:Nat):aw×Int×Int:=
 if qf m p then (bK,0,16) else if !(ni m.Policy (cQ b l y (gt m.Open (i:Int)) p).1 (al .i64 (p.Spends.length:Int) (p.Chains.length:Int)) (qe p) (nh m.Now) m.Total).1 then (bK,0,16) else
 if (m.Queue.length:Int)==50 then (bK,0,5) else if decide (al .i64 m.Total (cQ b l y (gt m.Open (i:Int)) p).1>1099511627776) then (bK,0,5) else (eV m p i (cQ b l y (gt m.Open (i:Int)) p).1,(cQ b l y (gt m.Open (i:Int)) p).1,0)
section
variable {b:aX} {l:List bg} {y:Int} {m:aw} {p:aA}
theorem Ep (h:di m=false):cU b l y m p=(bK,0,1):=by
 unfold cU
 rw [bF,h];rfl
theorem zE (h:di m=true) (hi:fF m.Open p= -1):cU b l y m p=(bK,0,7):=by
 unfold cU
 rw [bF,h,if_neg (by decide),bF,hi,if_pos (by decide)]
theorem Er (h:di m=true) {i:Nat} (hi:fF m.Open p=i) (hc:(cQ b l y (gt m.Open (i:Int)) p).2≠0):cU b l y m p=(bK,0,(cQ b l y (gt m.Open (i:Int)) p).2):=by
 unfold cU
 rw [bF,h,if_neg (by decide),bF,hi,if_neg (by simp),bF,if_pos (by simpa using hc)]
theorem Es (h:di m=true) {i:Nat} (hi:fF m.Open p=i) (hl:i<m.Open.length) (hc:(cQ b l y (gt m.Open (i:Int)) p).2=0):
  cU b l y m p=if (fj [p]).any (fun x=>(fj m.Queue).contains x)=true then (bK,0,8) else ur b l y m p i:=by
 have hv:=(me.1 h).len
 unfold cU ur
 rw [bF,h,if_neg (by decide),bF,hi,if_neg (by simp),bF,if_neg (by simp [hc])]
 rw [bF,bF,bF,bF,bF,bF,bF,qu,bF,bF,DT]
 rw [show py m.Open (i:Int) (al .i64 (i:Int) 1)=m.Open.take i++m.Open.drop (i+1) by
  rw [aJ (by omega) (by omega)]
  unfold py
  rw [show ((i:Int)+1).toNat=i+1 by omega,Int.toNat_natCast]]
 rfl
theorem Et (h:(cU b l y m p).2.2≠0):(cU b l y m p).1=bK∧(cU b l y m p).2.1=0:=by
 cases hv:di m with
 | false=>rw [Ep hv];exact ⟨rfl,rfl⟩
 | true=>
  rcases zD m.Open p with ⟨hi,_⟩|⟨i,hi,hl,_⟩
  ·rw [zE hv hi];exact ⟨rfl,rfl⟩
  ·by_cases hc:(cQ b l y (gt m.Open (i:Int)) p).2=0
   ·rw [Es hv hi hl hc] at h⊢
    split
    ·exact ⟨rfl,rfl⟩
    rename_i h1
    rw [if_neg h1] at h
    unfold ur at h⊢
    split
    ·exact ⟨rfl,rfl⟩
    rename_i h2
    rw [if_neg h2] at h
    split
    ·exact ⟨rfl,rfl⟩
    rename_i h3
    rw [if_neg h3] at h
    split
    ·exact ⟨rfl,rfl⟩
    rename_i h4
    rw [if_neg h4] at h
    split
    ·exact ⟨rfl,rfl⟩
    rename_i h5
    rw [if_neg h5] at h
    exact absurd rfl h
   ·rw [Er hv hi hc];exact ⟨rfl,rfl⟩
structure fm (b:aX) (l:List bg) (y:Int) (m:aw) (p:aA) (i:Nat):Prop where
 vp:VP m
 idx:fF m.Open p=i
 lt:i<m.Open.length
 num:(gt m.Open (i:Int)).Number=p.Number
 chk:(cQ b l y (gt m.Open (i:Int)) p).2=0
 lvs: ∀x∈fj [p],(fj m.Queue).contains x=false
 blo:qf m p=false
 acc:(ni m.Policy (cQ b l y (gt m.Open (i:Int)) p).1 (al .i64 (p.Spends.length:Int) (p.Chains.length:Int)) (qe p) (nh m.Now) m.Total).1=true
 que:m.Queue.length≠50
 tot:al .i64 m.Total (cQ b l y (gt m.Open (i:Int)) p).1≤1099511627776
 res:cU b l y m p=(eV m p i (cQ b l y (gt m.Open (i:Int)) p).1,(cQ b l y (gt m.Open (i:Int)) p).1,0)
theorem ut (h:(cU b l y m p).2.2=0): ∃i,fm b l y m p i:=by
 cases hv:di m with
 | false=>rw [Ep hv] at h;cases h
 | true=>
  rcases zD m.Open p with ⟨hi,_⟩|⟨i,hi,hl,hnum⟩
  ·rw [zE hv hi] at h;cases h
  ·by_cases hc:(cQ b l y (gt m.Open (i:Int)) p).2=0
   ·have ht:=Es (b:=b) (l:=l) (y:=y) hv hi hl hc
    rw [ht] at h
    split at h
    ·cases h
    rename_i h1
    rw [if_neg h1] at ht
    unfold ur at h ht
    split at h
    ·cases h
    rename_i h2
    rw [if_neg h2] at ht
    split at h
    ·cases h
    rename_i h3
    rw [if_neg h3] at ht
    split at h
    ·cases h
    rename_i h4
    rw [if_neg h4] at ht
    split at h
    ·cases h
    rename_i h5
    rw [if_neg h5] at ht
    rw [Bool.not_eq_true,List.any_eq_false] at h1
    exact ⟨i,me.1 hv,hi,hl,hnum,hc,fun x hx=>by simpa using h1 x hx,by simpa using h2,by simpa using h3,fun e=>h4 (by rw [e];rfl),by simpa using h5,ht⟩
   ·rw [Er hv hi hc] at h;exact absurd h hc
end
theorem NW {m:aw} (h:di m=true) (hq:m.Queue.length=0):(cA m).2.2.2=7:=by
 unfold cA
 rw [bF,h,if_neg (by decide),if_pos (by rw [hq];rfl)]
theorem sl1 {α:Type} {l:List α}:sl l 1 (l.length:Int)=l.drop 1:=by
 simp [sl,List.take_of_length_le]
theorem NX {m:aw} (h:di m=true) (hq:m.Queue.length≠0):cA m=({m with Queue:=m.Queue.drop 1,Paid:=m.Paid.drop 1,Total:=aB .i64 m.Total (gt m.Paid 0).Amount},gt m.Paid 0,gt m.Queue 0,0):=by
 unfold cA
 rw [bF,h,if_neg (by decide),if_neg (by simpa using hq),bF,qu,sl1,sl1]
end Go.Proofs.YteibkofekpejgaaGreatDoor
namespace Go.Proofs.YteibkofekpejgaaGreatDoor
open Go.RowKit
theorem zG (v:aL) (l:List aL):cr (v::l)=v.Amount+cr l:=by simp [cr]
theorem Eu (l k:List aL):cr (l++k)=cr l+cr k:=by simp [cr]
theorem uu {m:aw}: ∀{l:List aL},(∀v∈l,dr m v=true)→0≤cr l
 | [],_=>by simp [cr]
 | v::l,h=>by
  have h1:=uk.1 (ul.1 (h v (by simp))).1
  have h2:=uu (l:=l) (fun u hu=>h u (List.mem_cons_of_mem _ hu))
  rw [zG];omega
theorem zH {α:Type} {l:List α} {i:Nat} {x:α} (h:x∈l.take i++l.drop (i+1)): ∃j,∃hj:j<l.length,j≠i∧l[j]=x:=by
 rcases List.mem_append.1 h with h|h
 ·obtain ⟨j,hj,rfl⟩:=List.getElem_of_mem h
  rw [List.length_take] at hj
  exact ⟨j,by omega,by omega,by simp⟩
 ·obtain ⟨j,hj,rfl⟩:=List.getElem_of_mem h
  rw [List.length_drop] at hj
  exact ⟨i+1+j,by omega,by omega,by simp⟩
section
variable {b:aX} {l:List bg} {y:Int} {m:aw} {p:aA} {i:Nat}
theorem fm.amt (h:fm b l y m p i):(cQ b l y (gt m.Open (i:Int)) p).1=(gt m.Open (i:Int)).Amount:=(NV h.chk).2.2.2
theorem fm.val (h:fm b l y m p i):dr m (gt m.Open (i:Int))=true:=by
 rw [cq h.lt];exact h.vp.inv _ (List.getElem_mem h.lt)
theorem fm.sum (h:fm b l y m p i):al .i64 m.Total (cQ b l y (gt m.Open (i:Int)) p).1=m.Total+(gt m.Open (i:Int)).Amount:=by
 have h1:=uk.1 (ul.1 h.val).1
 have h2:=h.vp.tot
 have h3:=uu h.vp.pinv
 rw [h.amt,lr (by omega) (by omega)]
theorem fm.ne (h:fm b l y m p i): ∀v∈m.Open.take i++m.Open.drop (i+1),v.Number≠p.Number:=by
 intro v hv
 obtain ⟨j,hj,hne,rfl⟩:=zH hv
 rw [←h.num,cq h.lt]
 have ho:=h.vp.ord
 rw [List.pairwise_iff_getElem] at ho
 rcases Nat.lt_or_gt_of_ne hne with e|e
 ·have:=ho j i (by simpa using hj) (by simpa using h.lt) e
  simp only [List.getElem_map] at this
  omega
 ·have:=ho i j (by simpa using h.lt) (by simpa using hj) e
  simp only [List.getElem_map] at this
  omega
theorem fm.after (h:fm b l y m p i):VP (eV m p i (cQ b l y (gt m.Open (i:Int)) p).1):=by
 have hl:=h.vp.len
 have hlt:=h.lt
 have hv:=h.val
 have hmem:gt m.Open (i:Int)∈m.Open:=by rw [cq h.lt];exact List.getElem_mem h.lt
 refine ⟨h.vp.pol,h.vp.now,h.vp.next,⟨?_,?_,?_,hl.2.2.2⟩,h.vp.asb,h.vp.pos,?_,?_,?_,?_,?_,?_,?_⟩
 ·show (m.Open.take i++m.Open.drop (i+1)).length≤50
  rw [List.length_append,List.length_take,List.length_drop];omega
 ·show (m.Queue++[p]).length≤50
  have:=h.que
  rw [List.length_append,List.length_singleton];omega
 ·show (m.Paid++[gt m.Open (i:Int)]).length=(m.Queue++[p]).length
  rw [List.length_append,List.length_append,List.length_singleton,List.length_singleton];omega
 ·intro v hv
  have hv:v∈m.Open.take i++m.Open.drop (i+1):=hv
  obtain ⟨j,hj,_,rfl⟩:=zH hv
  exact h.vp.inv _ (List.getElem_mem hj)
 ·show ((m.Open.take i++m.Open.drop (i+1)).map (·.Number)).Pairwise (· < ·)
  rw [←List.eraseIdx_eq_take_drop_succ]
  exact h.vp.ord.sublist ((List.eraseIdx_sublist _ _).map _)
 ·intro v hv'
  have hv':v∈m.Paid++[gt m.Open (i:Int)]:=hv'
  rcases List.mem_append.1 hv' with h9|h9
  ·exact h.vp.pinv v h9
  ·rw [List.mem_singleton.1 h9];exact hv
 ·show (m.Queue++[p]).map (·.Number)=(m.Paid++[gt m.Open (i:Int)]).map (·.Number)
  rw [List.map_append,List.map_append,h.vp.pq]
  simp [h.num]
 ·intro v hv' u hu
  have hv':v∈m.Open.take i++m.Open.drop (i+1):=hv'
  have hu:u∈m.Paid++[gt m.Open (i:Int)]:=hu
  rcases List.mem_append.1 hu with h9|h9
  ·obtain ⟨j,hj,_,rfl⟩:=zH hv'
   exact h.vp.dis _ (List.getElem_mem hj) u h9
  ·rw [List.mem_singleton.1 h9,h.num];exact h.ne v hv'
 ·show ((m.Paid++[gt m.Open (i:Int)]).map (·.Number)).Nodup
  rw [List.map_append,List.nodup_append]
  refine ⟨h.vp.pnd,by simp,?_⟩
  intro x hx z hz
  obtain ⟨u,hu,rfl⟩:=List.mem_map.1 hx
  simp only [List.map_cons,List.map_nil,List.mem_singleton] at hz
  rw [hz]
  exact fun e=>h.vp.dis _ hmem u hu e.symm
 ·have h1:=h.vp.tot
  have h2:=h.tot
  refine ⟨?_,h2⟩
  show cr (m.Paid++[gt m.Open (i:Int)])=al .i64 m.Total _
  rw [h.sum,Eu,h1.1,zG];simp [cr]
theorem fm.gone (h:fm b l y m p i):fF (eV m p i (cQ b l y (gt m.Open (i:Int)) p).1).Open p= -1:=by
 rcases zD (eV m p i (cQ b l y (gt m.Open (i:Int)) p).1).Open p with h1|⟨j,_,h2,h3⟩
 ·exact h1.1
 ·exfalso
  rw [cq h2] at h3
  exact h.ne _ (List.getElem_mem h2) h3
end
theorem NY {L:List (List Int)} {x z:List Int}:x∈dA L z↔x∈L∨x=z:=by
 unfold dA
 split
 ·rename_i h
  exact ⟨fun h=> .inl h,fun h9=>h9.elim id fun e=>by rw [e];simpa using h⟩
 ·simp
theorem Ev: ∀{u:List bD} {L:List (List Int)} {x:List Int},x∈u.foldl (fun s a=>dA s [a.A,a.B]) L↔x∈L∨ ∃a∈u,x=[a.A,a.B]
 | [],L,x=>by simp
 | a::u,L,x=>by
  rw [List.foldl_cons,Ev,NY]
  simp only [List.mem_cons,exists_eq_or_imp,or_assoc]
theorem Ew: ∀{q:List aA} {L:List (List Int)} {x:List Int},x∈q.foldl (fun s p=>(dE p).foldl (fun s a=>dA s [a.A,a.B]) s) L↔x∈L∨ ∃p∈q,∃a∈dE p,x=[a.A,a.B]
 | [],L,x=>by simp
 | p::q,L,x=>by
  rw [List.foldl_cons,Ew,Ev]
  simp only [List.mem_cons,exists_eq_or_imp,or_assoc]
theorem NZ {R:Type} {l:List bD} {E:List (List Int)→R} {F:(Int×List (List Int)→R)→Int×List (List Int)→R} {d:Int×List (List Int)→R} {o:List (List Int)}
  (hF: ∀ag p,F ag p=if decide (p.1<(l.length:Int))=true then ag (p.1+1,dA p.2 [(gt l p.1).A,(gt l p.1).B]) else E p.2):ae (((l.length:Int) - 0).toNat+1) F d (0,o)=E (l.foldl (fun s a=>dA s [a.A,a.B]) o):=by
 rw [ka (l:=l) (fun a s=> .inl (dA s [a.A,a.B])) E (fun ag j s=>by rw [hF];by_cases h:j<(l.length:Int)<;>simp [h]),jl]
theorem Ex {q:List aA} {x:List Int}:x∈fj q↔ ∃p∈q,∃a∈dE p,x=[a.A,a.B]:=by
 have h:fj q=q.foldl (fun s p=>(dE p).foldl (fun s a=>dA s [a.A,a.B]) s) []:=by
  unfold fj
  rw [ka (l:=q) (fun p s=> .inl ((dE p).foldl (fun s a=>dA s [a.A,a.B]) s)) (fun o=>o) (fun ag j s=>by
   by_cases h:j<(q.length:Int)
   ·simp only [h,decide_true,if_true,aa]
    rw [NZ (E:=fun o=>ag (j+1,o)) (fun _ _=>rfl)]
   ·simp [h]),jl]
 rw [h,Ew];simp
theorem Ey (p:aA):jt p=dE p:=by
 unfold jt dE
 simp only [aa,zc,tY]
theorem N0 {p q:aA} (h:kv p q=true): ∃a∈dE p,∃c∈dE q,a.A=c.A∧a.B=c.B:=by
 revert h
 unfold kv
 rw [bF,bF,Ey,Ey]
 generalize dE p=u
 generalize dE q=w
 refine gc (P:=fun a:Int=>0≤a∧a≤u.length) (Q:=fun r:Bool=>r=true→ ∃a∈u,∃c∈w,a.A=c.A∧a.B=c.B) (meas:=fun a=>((u.length:Int) - a).toNat) ?_ _ _ ?_ ?_
 rotate_left
 ·exact ⟨Int.le_refl _,show (0:Int)≤(u.length:Int) by omega⟩
 ·show ((u.length:Int) - 0).toNat<((u.length:Int) - 0).toNat+1
  omega
 rintro ag a ⟨g0,g1⟩ ih
 by_cases hp:a<(u.length:Int)
 ·simp only [if_pos (show decide (a<(u.length:Int))=true by simpa using hp)]
  refine gc (P:=fun c:Int=>0≤c∧c≤w.length) (Q:=fun r:Bool=>r=true→ ∃a∈u,∃c∈w,a.A=c.A∧a.B=c.B) (meas:=fun c=>((w.length:Int) - c).toNat) ?_ _ _ ?_ ?_
  rotate_left
  ·exact ⟨Int.le_refl _,show (0:Int)≤(w.length:Int) by omega⟩
  ·show ((w.length:Int) - 0).toNat<((w.length:Int) - 0).toNat+1
   omega
  rintro ag2 c ⟨k0,k1⟩ ih2
  by_cases hq:c<(w.length:Int)
  ·simp only [if_pos (show decide (c<(w.length:Int))=true by simpa using hq)]
   split
   ·rename_i hA
    split
    ·rename_i hB
     intro _
     exact ⟨gt u a,bG (l:=u) (i:=a) (by omega),gt w c,bG (l:=w) (i:=c) (by omega),by simpa using hA,by simpa using hB⟩
    ·exact ih2 _ ⟨by omega,by omega⟩ (by omega)
   ·exact ih2 _ ⟨by omega,by omega⟩ (by omega)
  ·simp only [if_neg (show¬decide (c<(w.length:Int))=true by simpa using hq)]
   exact ih _ ⟨by omega,by omega⟩ (by omega)
 ·simp only [if_neg (show¬decide (a<(u.length:Int))=true by simpa using hp)]
  intro h;cases h
theorem N3 {b:aX} {l:List bg} {y:Int} {n:aw} {p q:aA} (hp:p∈n.Queue) (h:(cU b l y n q).2.2=0) (hu:kv q p=true):False:=by
 obtain ⟨i,ht⟩:=ut h
 obtain ⟨a,ha,c,hc,h1,h2⟩:=N0 hu
 have h3:[a.A,a.B]∈fj [q]:=Ex.2 ⟨q,by simp,a,ha,rfl⟩
 have h4:[a.A,a.B]∈fj n.Queue:=Ex.2 ⟨p,hp,c,hc,by rw [h1,h2]⟩
 have:=ht.lvs _ h3
 rw [List.contains_eq_mem,decide_eq_false_iff_not] at this
 exact this h4
def kF (n:aw) (i:Nat):aw:={n with Queue:=n.Queue.drop i,Paid:=n.Paid.drop i,Total:=cr (n.Paid.drop i)}
theorem Ez {m:aw} {l:List aL} (h: ∀v∈l,dr m v=true) (i:Nat):cr (l.drop i)≤cr l:=by
 have h1:cr l=cr (l.take i)+cr (l.drop i):=by rw [←Eu,List.take_append_drop]
 have h2:=uu (m:=m) (l:=l.take i) (fun v hv=>h v (List.mem_of_mem_take hv))
 omega
theorem EA {n:aw} (h:VP n) (i:Nat):VP (kF n i):=by
 have hl:=h.len
 refine ⟨h.pol,h.now,h.next,⟨hl.1,?_,?_,hl.2.2.2⟩,h.asb,h.pos,h.inv,h.ord,fun v hv=>h.pinv v (List.mem_of_mem_drop hv),?_,fun v hv u hu=>h.dis v hv u (List.mem_of_mem_drop hu),?_,rfl,?_⟩
 ·show (n.Queue.drop i).length≤50
  rw [List.length_drop];omega
 ·show (n.Paid.drop i).length=(n.Queue.drop i).length
  rw [List.length_drop,List.length_drop];omega
 ·show (n.Queue.drop i).map (·.Number)=(n.Paid.drop i).map (·.Number)
  rw [List.map_drop,List.map_drop,h.pq]
 ·show ((n.Paid.drop i).map (·.Number)).Nodup
  rw [List.map_drop]
  exact h.pnd.sublist (List.drop_sublist _ _)
 ·have:=Ez h.pinv i
  have:=h.tot
  show cr (n.Paid.drop i)≤_
  omega
theorem EB {n:aw} (h:VP n) {i:Nat} (hi:i<n.Queue.length):cA (kF n i)=(kF n (i+1),gt n.Paid (i:Int),gt n.Queue (i:Int),0):=by
 have hp:i<n.Paid.length:=by rw [h.len.2.2.1];exact hi
 rw [NX (me.2 (EA h i)) (by show (n.Queue.drop i).length≠0;rw [List.length_drop];omega)]
 have e1:gt (n.Paid.drop i) 0=gt n.Paid (i:Int):=by
  rw [cq hp,show (0:Int)=((0:Nat):Int) from rfl,cq (by rw [List.length_drop];omega)]
  simp
 have e2:gt (n.Queue.drop i) 0=gt n.Queue (i:Int):=by
  rw [cq hi,show (0:Int)=((0:Nat):Int) from rfl,cq (by rw [List.length_drop];omega)]
  simp
 show (({kF n i with Queue:=(n.Queue.drop i).drop 1,Paid:=(n.Paid.drop i).drop 1,Total:=aB .i64 (cr (n.Paid.drop i)) (gt (n.Paid.drop i) 0).Amount}:aw),gt (n.Paid.drop i) 0,gt (n.Queue.drop i) 0,(0:Int))=_
 rw [e1,e2,List.drop_drop,List.drop_drop]
 have e3:cr (n.Paid.drop i)=(gt n.Paid (i:Int)).Amount+cr (n.Paid.drop (i+1)):=by
  rw [cq hp,List.drop_eq_getElem_cons hp,zG]
 have h1:=uk.1 (ul.1 (h.pinv _ (List.getElem_mem hp))).1
 have h2:=Ez h.pinv i
 have h3:=h.tot
 have h4:=uu (m:=n) (l:=n.Paid.drop (i+1)) (fun v hv=>h.pinv v (List.mem_of_mem_drop hv))
 rw [←cq hp] at h1
 have e4:aB .i64 (cr (n.Paid.drop i)) (gt n.Paid (i:Int)).Amount=cr (n.Paid.drop (i+1)):=by
  rw [dv (by omega) (by omega)];omega
 rw [e4]
 rfl
theorem N4 {n:aw} (h:VP n):kF n 0=n:=by
 unfold kF
 rw [List.drop_zero,List.drop_zero,h.tot.1]
theorem N5 {n:aw} {p:aA} {K:Int} (h:VP n) {k:Nat} (hK:K=k) (hk:n.Queue.length=k+1) (hq:gt n.Queue (k:Int)=p) (hp:(gt n.Paid (k:Int)).Number=p.Number) {F:(Int×aw→Bool)→Int×aw→Bool} {d:Int×aw→Bool}
  (hF: ∀ag q,F ag q=(if (decide (q.1<K)) then (aa (cA (q.2)) (fun x91=>(if (x91.2.2.2 !=0) then false else (ag ((q.1+1),x91.1))))) else (aa (cA (q.2)) (fun x98=>(if (x98.2.2.2 !=0) then false else (aa (fG (x98.2.2.1) p) (fun (x103:Bool)=>(if (!x103) then false else (if (x98.2.1.Number !=p.Number) then false else (if (x98.1.Total !=0) then false else (aa (cA (x98.1)) (fun x113=>(x113.2.2.2==7)))))))))))))
  :ae ((K - 0).toNat+1) F d (0,n)=true:=by
 subst hK
 refine gc (P:=fun q:Int×aw=> ∃i:Nat,q.1=i∧i≤k∧q.2=kF n i) (Q:=fun r:Bool=>r=true) (meas:=fun q=>((k:Int) - q.1).toNat) ?_ _ _ ⟨0,rfl,Nat.zero_le _,(N4 h).symm⟩ (by show ((k:Int) - 0).toNat<_;omega)
 rintro ag ⟨i',x⟩ ⟨i,e1,hi,e2⟩ ih
 simp only at e1 e2
 subst e1 e2
 rw [hF]
 simp only
 by_cases hik:i<k
 ·rw [if_pos (decide_eq_true (by omega:(i:Int)<(k:Int))),bF,EB h (by omega)]
  rw [if_neg (by simp)]
  exact ih _ ⟨i+1,by show (i:Int)+1=_;omega,hik,rfl⟩ (by show ((k:Int) - ((i:Int)+1)).toNat<((k:Int) - (i:Int)).toNat;omega)
 ·have:i=k:=by omega
  subst this
  rw [if_neg (by simp),bF,EB h (by omega),if_neg (by simp),bF]
  simp only
  rw [hq,zC,if_neg (by decide),if_neg (by simp [hp])]
  have e0:(kF n (i+1)).Total=0:=by
   show cr (n.Paid.drop (i+1))=0
   rw [List.drop_eq_nil_of_le (by rw [h.len.2.2.1];omega)];rfl
  rw [if_neg (by simp [e0]),bF,NW (me.2 (EA h (i+1))) (by show (n.Queue.drop (i+1)).length=0;rw [List.length_drop];omega)]
  rfl
end Go.Proofs.YteibkofekpejgaaGreatDoor
