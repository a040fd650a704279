/- Texts of this proof, one after the other: EL, U5, M1, M3, M4, M5, M6. -/
import Derived.Test.YteibkofekpejgaaGreatDoorZ15
import Derived.Test.YteibkofekpejgaaGreatDoorZ16
import Derived.Test.YteibkofekpejgaaGreatDoorZ13
set_option linter.unusedVariables false
set_option linter.unusedSimpArgs false
namespace Go.Proofs.YteibkofekpejgaaGreatDoor
open Go.RowKit
structure Ck where
  v:V
  ok:Bool
  e:Int
instance:Inhabited Ck:=⟨⟨.un,false,0⟩⟩
def eCk (x:Ck):V:= .fn 94 [.pp 1 false x.v,.pp 1 false (.int .i64 x.e)]
attribute [go_sem] eCk
def ckl (b:aY) (l:List bg) (y:Int) (v:aN) (p:aK):List Ck:=
  [⟨.opq (dV 52 [bE ⟨b,l,y,v,p⟩]),nJ ⟨b,l,y,v,p⟩,1⟩,
   ⟨.fn 53 [.pp 4 true (bw p)],tP p,5⟩,
   ⟨.fn 55 [.pp 4 true (bw p),.pp 35 true (aZ v)],qm p v,14⟩,
   ⟨.opq (dV 56 [bE ⟨b,l,y,v,p⟩]),tR ⟨b,l,y,v,p⟩,18⟩,
   ⟨.opq (dV 57 [bE ⟨b,l,y,v,p⟩]),kD ⟨b,l,y,v,p⟩,11⟩,
   ⟨.opq (dV 58 [bE ⟨b,l,y,v,p⟩]),t_ ⟨b,l,y,v,p⟩,16⟩,
   ⟨.opq (dV 59 [bE ⟨b,l,y,v,p⟩]),ua ⟨b,l,y,v,p⟩,15⟩,
   ⟨.opq (dV 60 [bE ⟨b,l,y,v,p⟩]),uc ⟨b,l,y,v,p⟩,8⟩,
   ⟨.opq (dV 61 [bE ⟨b,l,y,v,p⟩]),uo ⟨b,l,y,v,p⟩,12⟩,
   ⟨.fn 62 [.pp 47 true (bE ⟨b,l,y,v,p⟩),.pp 35 true (aZ v)],ur ⟨b,l,y,v,p⟩ v,17⟩]
section
variable (b:aY) (l:List bg) (y:Int) (v:aN) (p:aK)
theorem NF:(ckl b l y v p).length=10:=rfl
theorem NG {k:Nat} (h:k<10):(gt (ckl b l y v p) k).e≠0:=by
  match k,h with
  | 0,_=>exact (by decide:(1:Int)≠0)
  | 1,_=>exact (by decide:(5:Int)≠0)
  | 2,_=>exact (by decide:(14:Int)≠0)
  | 3,_=>exact (by decide:(18:Int)≠0)
  | 4,_=>exact (by decide:(11:Int)≠0)
  | 5,_=>exact (by decide:(16:Int)≠0)
  | 6,_=>exact (by decide:(15:Int)≠0)
  | 7,_=>exact (by decide:(8:Int)≠0)
  | 8,_=>exact (by decide:(12:Int)≠0)
  | 9,_=>exact (by decide:(17:Int)≠0)
variable {b l y v p}
theorem NH (hS:dC p) (hl:l.length≤100) {k:Nat} (h:k<10):aW En 94 [.pp 1 false (gt (ckl b l y v p) k).v,.pp 1 false (.int .i64 (gt (ckl b l y v p) k).e)] (.int .i64 (if (gt (ckl b l y v p) k).ok=true then 0 else (gt (ckl b l y v p) k).e)) []:=by
  have hK:okK (⟨b,l,y,v,p⟩:cj):=⟨hl,hS⟩
  match k,h with
  | 0,_=>exact mx (lu (MQ _ hK).ok) 1
  | 1,_=>exact ND (by have:=(MR p hS).ok;simp only [bw];exact this) 5
  | 2,_=>exact Ek (by have:=(MS p v).ok;simp only [bw];exact this) 14
  | 3,_=>exact mx (lu (MT _ hK).ok) 18
  | 4,_=>exact mx (lu (Np _ hK).ok) 11
  | 5,_=>exact mx (lu (Nr _ hK).ok) 16
  | 6,_=>exact mx (lu (Ns _ hK).ok) 15
  | 7,_=>exact mx (lu (Nt _ hK).ok) 8
  | 8,_=>exact mx (lu (NA _ hK).ok) 12
  | 9,_=>exact Ek (NC _ v hK).ok 17
theorem NI {L:List Ck} {k:Nat} (h:k<L.length):(L.map fun x=>(x.ok,x.e)).drop k=((gt L k).ok,(gt L k).e)::(L.map fun x=>(x.ok,x.e)).drop (k+1):=by
  have hk:k<(L.map fun x=>(x.ok,x.e)).length:=by simpa using h
  rw [List.drop_eq_getElem_cons hk]
  simp [gt,List.getD_eq_getElem?_getD,h]
end
theorem ckQ {P:Prop} (h:P:=by (simp only [ckl,eCk,bE,bw,aZ,List.map_cons,List.map_nil,go_sem,co,cq,List.length_replicate,b_,Int.toNat_natCast,↓reduceIte,Nat.reduceEqDiff,Nat.reduceAdd,Int.reduceAdd,Nat.reduceMul,Nat.reduceLeDiff,Nat.reduceLT,Int.reduceLE,Int.reduceLT,Int.reduceNeg,Int.reduceToNat,ng,pB,sZ,dL,dM,mtO,mtB,mt,mtL,lz,ly,ltV,ltL,ltB,eq_self,or_true,true_or,or_self,and_self]<;>fail)):P:=h
@[go_sem] theorem Ud (a:V):leV a a=True:=by simp [leV]
end Go.Proofs.YteibkofekpejgaaGreatDoor
namespace Go.Proofs.YteibkofekpejgaaGreatDoor
open Go.RowKit
set_option linter.unusedSimpArgs false
set_option maxHeartbeats 2000000 in
set_option maxRecDepth 100000 in
theorem Em (b:aY) (l:(List bg)) (y:Int) (v:aN) (p_:aK) (hp0:dC p_) (hp1:l.length≤100):CM En (cF b l y v p_) 17 [(bL b),.sl none 11 true (l.map cD),.int .i64 y,(aZ v),.agg [.int .i64 p_.Number,.sl none 80 true (p_.Spends.map aQ),.sl none 81 true (p_.Chains.map bl),.sl none 5 true (p_.Escrow.map bQ)]] (fun y=> .tup [.int .i64 y.1,.int .i64 y.2]) (fun _=> []):=by
 refine cmQ fun r hM=> ?_
 rw [cF.eq_1] at hM
 refine ci aV bP [2] Tryz.func17 rfl Tryz.ntmps17 (by kernel_rfl) fun hw=>bR ?_
 refine spQ ?_
 replace hw:=nzQ hw
 refine gK ?_
 try refine spQ ?_
 refine il _ (⟨[(8,.pp 35 true ((aZ v))),(9,.pp 4 true (bw p_)),(12,.pp 47 true (bE ⟨b,l,y,v,p_⟩))],[(1,.pvar 35 true ((aZ v))),(2,.pvar 4 true (bw p_)),(3,.pvar 47 true (bE ⟨b,l,y,v,p_⟩))],4⟩:St) ((((ij (S:=⟨_,_,_⟩) 1 (n:=35) (g:=true) (d:=(aZ v)) clQ clQ).trans (zH (S:=⟨_,_,_⟩) 8 1 (n:=35) (g:=true) (d:=(aZ v)) clQ clQ)).trans ((ij (S:=⟨_,_,_⟩) 2 (n:=4) (g:=true) (d:=(bw p_)) clQ clQ).trans (zH (S:=⟨_,_,_⟩) 9 2 (n:=4) (g:=true) (d:=(bw p_)) clQ clQ))).trans ((ij (S:=⟨_,_,_⟩) 3 (n:=47) (g:=true) (d:=(bE ⟨b,l,y,v,p_⟩)) clQ clQ).trans (zH (S:=⟨_,_,_⟩) 12 3 (n:=47) (g:=true) (d:=(bE ⟨b,l,y,v,p_⟩)) clQ clQ))) sbQ sbQ ?_
 try refine spQ ?_
 refine jZ 65 26 [23,24,25,26,27,28,29,30,31,32,33,34,35,36,37,38,39,40,41,42,43,44,45,46,47,48] [] ([[],[0],[0,1],[],[0,1,2,3],[],[0,1,2,3,4,5],[],[7],[0,1,2,3,4,5,6,7,8],[],[10],[0,1,2,3,4,5,6,7,8,9,10,11],[],[13],[0,1,2,3,4,5,6,7,8,9,10,11,12,13,14],[],[16],[0,1,2,3,4,5,6,7,8,9,10,11,12,13,14,15,16,17],[],[19],[0,1,2,3,4,5,6,7,8,9,10,11,12,13,14,15,16,17,18,19,20],[],[22],[0,1,2,3,4,5,6,7,8,9,10,11,12,13,14,15,16,17,18,19,20,21,22,23],[]]++[List.range 26,List.range 27,List.range 28]) [] (by kernel_rfl) (by exact alQ) ?_
 refine spQ ?_
 refine bC (iJ (x:= .opq (dV 52 [(bE ⟨b,l,y,v,p_⟩)])) my 1) clQ clQ ?_
 refine spQ ?_
 refine bC (iJ (x:= .fn 53 [.pp 4 true (bw p_)]) zI 5) clQ clQ ?_
 refine spQ ?_
 refine bC (iJ (x:= .fn 55 [.pp 4 true (bw p_),.pp 35 true ((aZ v))]) zI 14) clQ clQ ?_
 refine spQ ?_
 refine bC (iJ (x:= .opq (dV 56 [(bE ⟨b,l,y,v,p_⟩)])) my 18) clQ clQ ?_
 refine spQ ?_
 refine bC (iJ (x:= .opq (dV 57 [(bE ⟨b,l,y,v,p_⟩)])) my 11) clQ clQ ?_
 refine spQ ?_
 refine bC (iJ (x:= .opq (dV 58 [(bE ⟨b,l,y,v,p_⟩)])) my 16) clQ clQ ?_
 refine spQ ?_
 refine bC (iJ (x:= .opq (dV 59 [(bE ⟨b,l,y,v,p_⟩)])) my 15) clQ clQ ?_
 refine spQ ?_
 refine bC (iJ (x:= .opq (dV 60 [(bE ⟨b,l,y,v,p_⟩)])) my 8) clQ clQ ?_
 refine spQ ?_
 refine bC (iJ (x:= .opq (dV 61 [(bE ⟨b,l,y,v,p_⟩)])) my 12) clQ clQ ?_
 refine spQ ?_
 refine aP (iJ (x:= .fn 62 [.pp 47 true (bE ⟨b,l,y,v,p_⟩),.pp 35 true ((aZ v))]) zI 17) clQ clQ (fun hw1=> ?_)
 refine spQ ?_
 refine aL (fun n S=> ∃k:Nat,k≤10∧n=11 - k∧S=(⟨[(8,.pp 35 true ((aZ v))),(51,.own 30),(52,.int .i64 10),(53,.int .i64 (k:Int))],[(30,.own 121 1 false (some false) ((ckl b l y v p_).map eCk))],31⟩:St)∧iC (((ckl b l y v p_).map fun x=>(x.ok,x.e)).drop k) v.Amount=r) 11 _ (ckQ) (ckQ) ⟨0,by omega,rfl,rfl,hM⟩ ?_
 clear hM
 rintro n S ⟨k,hk,rfl,rfl,hM⟩
 refine spQ ?_
 have hn:=NF b l y v p_
 refine bY (fun h1=> ?_) (fun h1=> ?_)
 ·have hk1:k<10:=by have:=nzQ h1;omega
  refine ap h1 ?_
  refine bA (by (try rw [List.length_map]);omega) ?_
  have he: ∀d,elt ((ckl b l y v p_).map eCk) k d=eCk (gt (ckl b l y v p_) k):=fun d=>cM (i:=(k:Int)) (by rw [hn];omega) d
  refine ap he ?_
  refine bA (by omega) ?_
  refine spQ ?_
  have hck:=NH (b:=b) (y:=y) (v:=v) hp0 hp1 hk1
  refine aP hck clQ clQ (fun hw2=> ?_)
  refine spQ ?_
  have hd:(((ckl b l y v p_).map fun x=>(x.ok,x.e)).drop k)=((gt (ckl b l y v p_) k).ok,(gt (ckl b l y v p_) k).e)::(((ckl b l y v p_).map fun x=>(x.ok,x.e)).drop (k+1)):=NI (by rw [hn];omega)
  have hz:=NG b l y v p_ hk1
  rw [hd] at hM
  cases hok:(gt (ckl b l y v p_) k).ok with
  | true=>
   rw [hok] at hM
   simp only [iC] at hM
   have ha:al .i64 (k:Int) 1=((k+1:Nat):Int):=by rw [aJ (by omega) (by omega)];rfl
   refine ap (And.intro hok ha) ?_
   refine bY (fun h2=>absurd h2 (by decide)) (fun h2=> ?_)
   refine ap (And.intro hok ha) ?_
   refine ⟨11 - (k+1),by omega,_,?_,k+1,by omega,rfl,rfl,hM⟩
   exact fS ckQ ckQ
  | false=>
   rw [hok] at hM
   refine bY (fun h2=> ?_) (fun h2=> ?_)
   ·refine spQ ?_
    simp only [iC] at hM
    subst hM
    exact b9 lfQ
   ·exact absurd h2 (by simp [hok,hz])
 ·have hk1:k=10:=by have:=nzQ h1;omega
  subst hk1
  rw [List.drop_eq_nil_of_le (by rw [List.length_map,hn];decide)] at hM
  refine ap h1 ?_
  simp only [iC] at hM
  subst hM
  exact b9 lfQ
set_option maxHeartbeats 2000000 in
set_option maxRecDepth 100000 in
theorem Eo (l:(List aK)) (hp0:okQ l) (hp1:l.length≤100):CM En (iD l) 33 [.sl none 4 true (l.map bw)] (fun _=> .own 0) (fun y=> [.kset true .i64 2 y]):=by
 refine cmQ fun r hM=> ?_
 rw [iD.eq_1] at hM
 refine ci aV bP noJ Tryz.func33 rfl Tryz.ntmps33 (by kernel_rfl) fun hw=>bR ?_
 refine spQ ?_
 replace hw:=nzQ hw
 replace hM:=aF hM;obtain ⟨f1,d1,hf1,hd1,hM⟩:=hM
 refine aL (fun n S=> ∃p:Int×List (List Int),S=(⟨[(3,.own 0),(9,.sl none 4 true (l.map bw)),(10,.int .i64 (l.length:Int)),(11,.int .i64 p.1)],[(0,.kset true .i64 2 p.2)],1⟩:St)∧((0≤p.1)∧(p.1≤(l.length:Int)))∧((l.length:Int) - p.1).toNat<n∧ae n f1 d1 p=r) (((l.length:Int) - 0).toNat+1) _ sbQ sbQ ⟨(0,([]:List (List Int))),rfl,⟨omQ,omQ⟩,(Nat.lt_succ_self _),hM⟩ ?_
 clear hM
 rintro n1 S ⟨p1,rfl,hfa1,hm1,hM⟩
 replace hM:=aG hM (by omega) hf1;obtain ⟨ag1,hag1,hM⟩:=hM
 replace hfa1:=nzQ hfa1
 replace hm1:=nzQ hm1
 have ha1:al .i64 p1.1 1=p1.1+1:=aJ omQ omQ
 refine ap ha1 ?_
 refine bY (fun h2=> ?_) (fun h2=> ?_)
 ·rw [if_pos h2] at hM
  refine ap (And.intro ha1 h2) ?_
  have nh2:=nzQ h2
  try have hr3:=mpQ nh2
  refine bA omQ ?_
  have he4:=fun d=>cM (l:=l) (f:=bw) (i:=p1.1) omQ d
  refine ap (And.intro ha1 he4) ?_
  replace hM:=aw hM;obtain ⟨x5,hx6,hM⟩:=hM
  have hcx5:=cmH hx6 (Eh (gt l p1.1) (by (exact hp0 _ (bH (by omega)))))
  refine aP hcx5 (an (And.intro ha1 he4)) (an (And.intro ha1 he4)) (fun hw7=> ?_)
  replace hw7:=nzQ hw7
  refine ap (And.intro ha1 he4) ?_
  have hq8:=DT (hp0 _ (bH (by omega))) hx6
  replace hq8:=nzQ hq8
  replace hM:=aF hM;obtain ⟨f9,d9,hf9,hd9,hM⟩:=hM
  refine aL (fun n S=> ∃p:Int×List (List Int),S=(⟨[(3,.own 0),(9,.sl none 4 true (l.map bw)),(10,.int .i64 (l.length:Int)),(11,.int .i64 p1.1),(16,.sl none 83 true (x5.map nv)),(17,.int .i64 (x5.length:Int)),(18,.int .i64 p.1)],[(0,.kset true .i64 2 p.2)],2⟩:St)∧((0≤p.1)∧(p.1≤(x5.length:Int)))∧((x5.length:Int) - p.1).toNat<n∧ae n f9 d9 p=r) (((x5.length:Int) - 0).toNat+1) _ sbQ sbQ ⟨(0,p1.2),rfl,⟨omQ,omQ⟩,(Nat.lt_succ_self _),hM⟩ ?_
  clear hM
  rintro n9 S ⟨p9,rfl,hfa9,hm9,hM⟩
  replace hM:=aG hM (by omega) hf9;obtain ⟨ag9,hag9,hM⟩:=hM
  replace hfa9:=nzQ hfa9
  replace hm9:=nzQ hm9
  have ha9:al .i64 p9.1 1=p9.1+1:=aJ omQ omQ
  refine ap (And.intro ha1 (And.intro he4 ha9)) ?_
  have hF:=(And.intro ha1 (And.intro h2 (And.intro he4 ha9)))
  exact auQ
 ·rw [if_neg (bX h2)] at hM
  refine ap (And.intro ha1 h2) ?_
  have nh2:=nzQ h2
  try have hr14:=mpQ nh2
  subst hM
  exact J2 0 rfl
set_option maxHeartbeats 2000000 in
set_option maxRecDepth 100000 in
instance Ue (p_:aK):CM En (mm p_) 34 [.agg [.int .i64 p_.Number,.sl none 80 true (p_.Spends.map aQ),.sl none 81 true (p_.Chains.map bl),.sl none 5 true (p_.Escrow.map bQ)]] (fun y=> .int .i64 y) (fun _=> []):=by
 refine enQ noJ Tryz.func34 Tryz.ntmps34 (mm.eq_1 ..) fun r hw=> ?_
 intro hF hM
 replace hM:=aF hM;obtain ⟨f1,d1,hf1,hd1,hM⟩:=hM
 refine aL (fun n S=> ∃p:Int×Int,S=(⟨[(3,.int .i64 p.1),(7,.sl none 81 true (p_.Chains.map bl)),(8,.int .i64 (p_.Chains.length:Int)),(9,.int .i64 p.2)],[],1⟩:St)∧((0≤p.2)∧(p.2≤(p_.Chains.length:Int)))∧((p_.Chains.length:Int) - p.2).toNat<n∧ae n f1 d1 p=r) (((p_.Chains.length:Int) - 0).toNat+1) _ sbQ sbQ ⟨(0,0),rfl,⟨omQ,omQ⟩,(Nat.lt_succ_self _),hM⟩ ?_
 clear hM
 rintro n1 S ⟨p1,rfl,hfa1,hm1,hM⟩
 replace hM:=aG hM (by omega) hf1;obtain ⟨ag1,hag1,hM⟩:=hM
 replace hfa1:=nzQ hfa1
 replace hm1:=nzQ hm1
 have ha1:al .i64 p1.2 1=p1.2+1:=aJ omQ omQ
 replace hF:=(And.intro ha1 hF)
 revert hM;revert hF
 refine slQ ?_
 refine aq fun _ _ _=> ?_
 intro hF hM
 refine aC (n1 - 1) _ (by omega) sbQ sbQ ⟨((dT p1.1 ((gt p_.Chains p1.2).L.length:Int)),(p1.2+1)),rfl,⟨omQ,omQ⟩,omQ,aB hM hag1⟩
set_option maxHeartbeats 2000000 in
set_option maxRecDepth 100000 in
instance Uf (x_:Int):CM En (qD x_) 142 [.int .i64 x_] (fun y=> .bool y) (fun _=> []):=by
 refine enQ noJ Tryz.func142 Tryz.ntmps142 (qD.eq_1 ..) fun r hw=> ?_
 exact auR
set_option maxHeartbeats 2000000 in
set_option maxRecDepth 100000 in
instance Ug (x_:Int) (y:Int):CM En (qE x_ y) 109 [.int .i64 x_,.int .i64 y] (fun y=> .bool y) (fun _=> []):=by
 refine enQ noJ Tryz.func109 Tryz.ntmps109 (qE.eq_1 ..) fun r hw=> ?_
 exact auR
set_option maxHeartbeats 2000000 in
set_option maxRecDepth 100000 in
instance Uh (x_:Int):CM En (qF x_) 110 [.int .i64 x_] (fun y=> .bool y) (fun _=> []):=by
 refine enQ noJ Tryz.func110 Tryz.ntmps110 (qF.eq_1 ..) fun r hw=> ?_
 exact auR
set_option maxHeartbeats 2000000 in
set_option maxRecDepth 100000 in
instance Ui (x_:(List Int)) (target:Int):CM En (dq x_ target) 70 [.sl none 1 false (x_.map (V.int .i64)),.int .i64 target] (fun y=> .tup [.int .i64 y.1,.bool y.2]) (fun _=> []):=by
 refine enQ noJ Tryz.func70 Tryz.ntmps70 (dq.eq_1 ..) fun r hw=> ?_
 intro hF hM
 replace hM:=aF hM;obtain ⟨f1,d1,hf1,hd1,hM⟩:=hM
 refine aL (fun n S=> ∃p:Int×Int,S=(⟨[(0,.sl none 1 false (x_.map (V.int .i64))),(1,.int .i64 target),(6,.int .i64 (x_.length:Int)),(7,.int .i64 p.1),(8,.int .i64 p.2)],[],0⟩:St)∧((0≤p.1)∧(p.1≤p.2)∧(0≤p.1)∧(p.1≤p.2)∧(p.2≤(x_.length:Int)))∧(p.2 - p.1).toNat<n∧ae n f1 d1 p=r) (((x_.length:Int) - 0).toNat+1) _ sbQ sbQ ⟨(0,(x_.length:Int)),rfl,⟨by (first|exact omQ|(clear hM;first|(have hq:=dz p1.1 p1.2 (by omega) (by omega) (by omega);exact ao))),by (first|exact omQ|(clear hM;first|(have hq:=dz p1.1 p1.2 (by omega) (by omega) (by omega);exact ao))),by (first|exact omQ|(clear hM;first|(have hq:=dz p1.1 p1.2 (by omega) (by omega) (by omega);exact ao))),by (first|exact omQ|(clear hM;first|(have hq:=dz p1.1 p1.2 (by omega) (by omega) (by omega);exact ao))),by (first|exact omQ|(clear hM;first|(have hq:=dz p1.1 p1.2 (by omega) (by omega) (by omega);exact ao)))⟩,(Nat.lt_succ_self _),hM⟩ ?_
 clear hM
 rintro n1 S ⟨p1,rfl,hfa1,hm1,hM⟩
 have hA0:=fun a0 a1 a2=>dz p1.1 p1.2 a0 a1 a2
 replace hM:=aG hM (by omega) hf1;obtain ⟨ag1,hag1,hM⟩:=hM
 replace hfa1:=nzQ hfa1
 replace hm1:=nzQ hm1
 have ha1:al .i64 p1.1 1=p1.1+1:=aJ (by exact omA) (by exact omA)
 replace hF:=(And.intro ha1 hF)
 revert hM;revert hF
 refine slQ ?_
 refine aq fun _ _ _=> ?_
 have ha4:al .i64 p1.1 p1.2=(p1.1+p1.2):=jd (by exact omR) (by exact omR)
 intro hF hM
 try simp only [ha4]
 replace hF:=(And.intro ha4 hF)
 revert hM;revert hF
 refine slQ ?_
 refine ax fun _ _ _ _=> ?_
 refine cdQ (fun _ _ _=> ?_) (fun _ _ _=> ?_)
 ·have ha10:al .i64 (ah .i64 (ar .u64 (ah .u64 (p1.1+p1.2)) 1)) 1=((ah .i64 (ar .u64 (ah .u64 (p1.1+p1.2)) 1))+1):=jd (by exact omR) (by exact omR)
  intro hF hM
  try simp only [ha10]
  refine aC (n1 - 1) _ (by omega) sbQ sbQ ⟨(((ah .i64 (ar .u64 (ah .u64 (p1.1+p1.2)) 1))+1),p1.2),rfl,⟨by (clear hM;first|omega|(have hq:=dz p1.1 p1.2 (by omega) (by omega) (by omega);omega)),by (clear hM;first|omega|(have hq:=dz p1.1 p1.2 (by omega) (by omega) (by omega);omega)),by (clear hM;first|omega|(have hq:=dz p1.1 p1.2 (by omega) (by omega) (by omega);omega)),by (clear hM;first|omega|(have hq:=dz p1.1 p1.2 (by omega) (by omega) (by omega);omega)),by (clear hM;first|omega|(have hq:=dz p1.1 p1.2 (by omega) (by omega) (by omega);omega))⟩,by (clear hM;first|omega|(have hq:=dz p1.1 p1.2 (by omega) (by omega) (by omega);omega)),aB hM hag1⟩
 ·intro hF hM
  refine aC (n1 - 1) _ (by omega) sbQ sbQ ⟨(p1.1,(ah .i64 (ar .u64 (ah .u64 (p1.1+p1.2)) 1))),rfl,⟨by (clear hM;first|omega|(have hq:=dz p1.1 p1.2 (by omega) (by omega) (by omega);omega)),by (clear hM;first|omega|(have hq:=dz p1.1 p1.2 (by omega) (by omega) (by omega);omega)),by (clear hM;first|omega|(have hq:=dz p1.1 p1.2 (by omega) (by omega) (by omega);omega)),by (clear hM;first|omega|(have hq:=dz p1.1 p1.2 (by omega) (by omega) (by omega);omega)),by (clear hM;first|omega|(have hq:=dz p1.1 p1.2 (by omega) (by omega) (by omega);omega))⟩,by (clear hM;first|omega|(have hq:=dz p1.1 p1.2 (by omega) (by omega) (by omega);omega)),aB hM hag1⟩
set_option maxHeartbeats 2000000 in
set_option maxRecDepth 100000 in
instance Uj (s:au) (c0:aD):CM En (nZ s c0) 79 [(aQ s),.pp 40 true ((bJ c0))] (fun y=> .bool y) (fun _=> []):=by
 refine enQ noJ Tryz.func79 Tryz.ntmps79 (nZ.eq_1 ..) fun r hw=> ?_
 exact auR
set_option maxHeartbeats 2000000 in
set_option maxRecDepth 100000 in
instance Uk (s:(List au)) (f__c0:aD):CM En (ut s f__c0) 77 [.sl none 80 true (s.map aQ),.fn 79 [.pp 40 true ((bJ f__c0))]] (fun y=> .int .i64 y) (fun _=> []):=by
 refine enQ noJ Tryz.func77 Tryz.ntmps77 (ut.eq_1 ..) fun r hw=> ?_
 intro hF hM
 replace hM:=aF hM;obtain ⟨f1,d1,hf1,hd1,hM⟩:=hM
 refine aL (fun n S=> ∃p:Int,S=(⟨[(0,.sl none 80 true (s.map aQ)),(1,.fn 79 [.pp 40 true ((bJ f__c0))]),(7,.int .i64 (s.length:Int)),(8,.int .i64 p)],[],0⟩:St)∧((0≤p)∧(p≤(s.length:Int)))∧((s.length:Int) - p).toNat<n∧ae n f1 d1 p=r) (((s.length:Int) - 0).toNat+1) _ sbQ sbQ ⟨0,rfl,⟨omQ,omQ⟩,(Nat.lt_succ_self _),hM⟩ ?_
 clear hM
 rintro n1 S ⟨p1,rfl,hfa1,hm1,hM⟩
 replace hM:=aG hM (by omega) hf1;obtain ⟨ag1,hag1,hM⟩:=hM
 replace hfa1:=nzQ hfa1
 replace hm1:=nzQ hm1
 have ha1:al .i64 p1 1=p1+1:=aJ omQ omQ
 replace hF:=(And.intro ha1 hF)
 revert hM;revert hF
 refine slQ ?_
 refine aq fun _ _ _=> ?_
 refine ax fun _ _ _ _=> ?_
 refine az fun _ _ _=> ?_
 intro hF hM
 refine aC (n1 - 1) _ (by omega) sbQ sbQ ⟨(p1+1),rfl,⟨omQ,omQ⟩,omQ,aB hM hag1⟩
set_option maxHeartbeats 2000000 in
set_option maxRecDepth 100000 in
instance Ul (s:(List au)) (f__c0:aD):CM En (oa s f__c0) 30 [.sl none 80 true (s.map aQ),.fn 79 [.pp 40 true ((bJ f__c0))]] (fun y=> .bool y) (fun _=> []):=by
 refine enQ noJ Tryz.func30 Tryz.ntmps30 (oa.eq_1 ..) fun r hw=> ?_
 exact auR
set_option maxHeartbeats 2000000 in
set_option maxRecDepth 100000 in
instance Um (c:bh) (c0_c0:aD):CM En (oc c c0_c0) 80 [(bl c),.pp 1 false (.fn 79 [.pp 40 true ((bJ c0_c0))])] (fun y=> .bool y) (fun _=> []):=by
 refine enQ noJ Tryz.func80 Tryz.ntmps80 (oc.eq_1 ..) fun r hw=> ?_
 exact auR
set_option maxHeartbeats 2000000 in
set_option maxRecDepth 100000 in
instance Un (s:(List bh)) (f__c0_c0:aD):CM En (uu s f__c0_c0) 75 [.sl none 81 true (s.map bl),.fn 80 [.pp 1 false (.fn 79 [.pp 40 true ((bJ f__c0_c0))])]] (fun y=> .int .i64 y) (fun _=> []):=by
 refine enQ noJ Tryz.func75 Tryz.ntmps75 (uu.eq_1 ..) fun r hw=> ?_
 intro hF hM
 replace hM:=aF hM;obtain ⟨f1,d1,hf1,hd1,hM⟩:=hM
 refine aL (fun n S=> ∃p:Int,S=(⟨[(0,.sl none 81 true (s.map bl)),(1,.fn 80 [.pp 1 false (.fn 79 [.pp 40 true ((bJ f__c0_c0))])]),(7,.int .i64 (s.length:Int)),(8,.int .i64 p)],[],0⟩:St)∧((0≤p)∧(p≤(s.length:Int)))∧((s.length:Int) - p).toNat<n∧ae n f1 d1 p=r) (((s.length:Int) - 0).toNat+1) _ sbQ sbQ ⟨0,rfl,⟨omQ,omQ⟩,(Nat.lt_succ_self _),hM⟩ ?_
 clear hM
 rintro n1 S ⟨p1,rfl,hfa1,hm1,hM⟩
 replace hM:=aG hM (by omega) hf1;obtain ⟨ag1,hag1,hM⟩:=hM
 replace hfa1:=nzQ hfa1
 replace hm1:=nzQ hm1
 have ha1:al .i64 p1 1=p1+1:=aJ omQ omQ
 replace hF:=(And.intro ha1 hF)
 revert hM;revert hF
 refine slQ ?_
 refine aq fun _ _ _=> ?_
 refine ax fun _ _ _ _=> ?_
 refine az fun _ _ _=> ?_
 intro hF hM
 refine aC (n1 - 1) _ (by omega) sbQ sbQ ⟨(p1+1),rfl,⟨omQ,omQ⟩,omQ,aB hM hag1⟩
set_option maxHeartbeats 2000000 in
set_option maxRecDepth 100000 in
instance Uo (s:(List bh)) (f__c0_c0:aD):CM En (qG s f__c0_c0) 26 [.sl none 81 true (s.map bl),.fn 80 [.pp 1 false (.fn 79 [.pp 40 true ((bJ f__c0_c0))])]] (fun y=> .bool y) (fun _=> []):=by
 refine enQ noJ Tryz.func26 Tryz.ntmps26 (qG.eq_1 ..) fun r hw=> ?_
 exact auR
set_option maxHeartbeats 2000000 in
set_option maxRecDepth 100000 in
instance Up (m:aD) (p_:aK):CM En (kE m p_) 36 [(bJ m),.agg [.int .i64 p_.Number,.sl none 80 true (p_.Spends.map aQ),.sl none 81 true (p_.Chains.map bl),.sl none 5 true (p_.Escrow.map bQ)]] (fun y=> .bool y) (fun _=> []):=by
 refine cmQ fun r hM=> ?_
 rw [kE.eq_1] at hM
 refine ci aV bP noJ Tryz.func36 rfl Tryz.ntmps36 (by kernel_rfl) fun hw=>bR ?_
 refine spQ ?_
 replace hw:=nzQ hw
 replace hM:=aw hM;obtain ⟨x1,hx2,hM⟩:=hM
 have hcx1:=cmU hx2
 refine fD hcx1 clQ clQ (fun hw3=> ?_)
 replace hw3:=nzQ hw3
 refine spQ ?_
 refine fT (fun h4=> ?_) (fun h4=> ?_)
 ·subst h4
  rw [if_neg (by decide)] at hM
  refine spQ ?_
  replace hM:=aw hM;obtain ⟨x5,hx6,hM⟩:=hM
  have hcx5:=cmU hx6
  refine Mz hcx5 clQ (My (i:=2) (j:=0) rfl rfl clQ clQ) (fun hw7=> ?_)
  replace hw7:=nzQ hw7
  refine spQ ?_
  subst hM
  exact b9 lfQ
 ·subst h4
  rw [if_pos rfl] at hM
  refine spQ ?_
  subst hM
  exact b9 lfQ
set_option maxHeartbeats 2000000 in
set_option maxRecDepth 100000 in
instance Uq (s:(List aN)) (f__c0:aK):CM En (gp s f__c0) 14 [.sl none 35 true (s.map aZ),.fn 32 [.pp 4 true (.agg [.int .i64 f__c0.Number,.sl none 80 true (f__c0.Spends.map aQ),.sl none 81 true (f__c0.Chains.map bl),.sl none 5 true (f__c0.Escrow.map bQ)])]] (fun y=> .int .i64 y) (fun _=> []):=by
 refine enQ noJ Tryz.func14 Tryz.ntmps14 (gp.eq_1 ..) fun r hw=> ?_
 intro hF hM
 replace hM:=aF hM;obtain ⟨f1,d1,hf1,hd1,hM⟩:=hM
 refine aL (fun n S=> ∃p:Int,S=(⟨[(0,.sl none 35 true (s.map aZ)),(1,.fn 32 [.pp 4 true (bw f__c0)]),(7,.int .i64 (s.length:Int)),(8,.int .i64 p)],[],0⟩:St)∧((0≤p)∧(p≤(s.length:Int)))∧((s.length:Int) - p).toNat<n∧ae n f1 d1 p=r) (((s.length:Int) - 0).toNat+1) _ sbQ sbQ ⟨0,rfl,⟨omQ,omQ⟩,(Nat.lt_succ_self _),hM⟩ ?_
 clear hM
 rintro n1 S ⟨p1,rfl,hfa1,hm1,hM⟩
 replace hM:=aG hM (by omega) hf1;obtain ⟨ag1,hag1,hM⟩:=hM
 replace hfa1:=nzQ hfa1
 replace hm1:=nzQ hm1
 have ha1:al .i64 p1 1=p1+1:=aJ omQ omQ
 replace hF:=(And.intro ha1 hF)
 revert hM;revert hF
 refine slQ ?_
 refine aq fun _ _ _=> ?_
 refine ax fun _ _ _ _=> ?_
 refine az fun _ _ _=> ?_
 intro hF hM
 refine aC (n1 - 1) _ (by omega) sbQ sbQ ⟨(p1+1),rfl,⟨omQ,omQ⟩,omQ,aB hM hag1⟩
set_option maxHeartbeats 2000000 in
set_option maxRecDepth 100000 in
theorem Ep (b:aY) (l:(List bg)) (y:Int) (m:aD) (p_:aK) (hp0:dC p_) (hp1:l.length≤100) (hp2:okQ m.Queue):CM En (dg b l y m p_) 8 [(bL b),.sl none 11 true (l.map cD),.int .i64 y,(bJ m),.agg [.int .i64 p_.Number,.sl none 80 true (p_.Spends.map aQ),.sl none 81 true (p_.Chains.map bl),.sl none 5 true (p_.Escrow.map bQ)]] (fun y=> .tup [(bJ y.1),.int .i64 y.2.1,.int .i64 y.2.2]) (fun _=> []):=by
 refine cmQ fun r hM=> ?_
 rw [dg.eq_1] at hM
 refine ci aV bP [12] Tryz.func8 rfl Tryz.ntmps8 (by kernel_rfl) fun hw=>bR ?_
 refine spQ ?_
 replace hw:=nzQ hw
 replace hM:=aw hM;obtain ⟨x1,hx2,hM⟩:=hM
 have hcx1:=cmU hx2
 refine aP hcx1 clQ clQ (fun hw3=> ?_)
 replace hw3:=nzQ hw3
 refine spQ ?_
 have hq4:=nzQ (cfU hx2)
 have hq5:=zy hx2
 replace hq5:=nzQ hq5
 refine bY (fun h6=> ?_) (fun h6=> ?_)
 ·rw [if_pos h6] at hM
  refine ap h6 ?_
  subst hM
  exact b9 (cr h6)
 ·rw [if_neg (bX h6)] at hM
  refine ap h6 ?_
  have nh6:=nzQ h6
  try have hr8:=mpQ nh6
  replace hM:=aw hM;obtain ⟨x9,hx10,hM⟩:=hM
  have hcx9:=cmU hx10
  refine fD hcx9 clQ clQ (fun hw11=> ?_)
  replace hw11:=nzQ hw11
  refine spQ ?_
  have hq12:=MK hx10
  replace hq12:=nzQ hq12
  refine bY (fun h13=> ?_) (fun h13=> ?_)
  ·rw [if_pos h13] at hM
   refine ap h13 ?_
   subst hM
   exact b9 (cr (And.intro h6 h13))
  ·rw [if_neg (bX h13)] at hM
   refine ap h13 ?_
   have nh13:=nzQ h13
   try have hr15:=mpQ nh13
   refine bA omQ ?_
   have he16:=fun d=>cM (l:=m.Open) (f:=aZ) (i:=x9) omQ d
   refine ap he16 ?_
   replace hM:=aw hM;obtain ⟨x17,hx18,hM⟩:=hM
   have hcx17:=cmH hx18 (Em b l y (gt m.Open x9) p_ (by (first|exact hp0|exact hp1)) (by (first|exact hp0|exact hp1)))
   refine aP hcx17 (an he16) (an he16) (fun hw19=> ?_)
   replace hw19:=nzQ hw19
   refine ap he16 ?_
   refine bY (fun h20=> ?_) (fun h20=> ?_)
   ·rw [if_pos h20] at hM
    refine ap (And.intro he16 h20) ?_
    subst hM
    exact b9 (cr (And.intro he16 (And.intro h6 (And.intro h13 h20))))
   ·rw [if_neg (bX h20)] at hM
    refine ap (And.intro he16 h20) ?_
    have nh20:=nzQ h20
    try have hr22:=mpQ nh20
    replace hM:=aw hM;obtain ⟨x23,hx24,hM⟩:=hM
    have hcx23:=cmH hx24 (Eo (m.Queue) (by (first|exact hp2|exact uJ hp0|(show 1≤100;decide)|(have h9:=hp1;omega))) (by (first|exact hp2|exact uJ hp0|(show 1≤100;decide)|(have h9:=hp1;omega))))
    refine aP hcx23 (an he16) (an he16) (fun hw25=> ?_)
    replace hw25:=nzQ hw25
    refine ap he16 ?_
    refine H9 (Ms (J:=noJ) aV [_,_,_] [_,_] _ _ _ _ _ 97 100 4 56 57 58 59 60 61 7 .i64 2 (iD ([p_]:List aK)) (fun x=>List.contains x23 x=false) rfl ⟨rfl,rfl,rfl⟩ (show En.P.underlying 97=some (.map 100 4) from Tryz.underlying97) rfl ⟨rfl,rfl,rfl⟩ ⟨rfl,rfl,rfl⟩ rfl ⟨rfl,rfl,rfl⟩ ⟨rfl,rfl,rfl⟩ (by kernel_rfl) (by decide) ?_)
    refine Mt (J:=noJ) ?_
    try refine ap he16 ?_
    replace hM:=aw hM;obtain ⟨x26,hx27,hM⟩:=hM
    have hcx26:=cmH hx27 (Eo ([p_]:List aK) (by (first|exact hp2|exact uJ hp0|(show 1≤100;decide)|(have h9:=hp1;omega))) (by (first|exact hp2|exact uJ hp0|(show 1≤100;decide)|(have h9:=hp1;omega))))
    refine lD hcx26 (io 6 (T:=41) (n:=4) (g:=true) (z:=(some false)) (l:=([p_]:List aK).map bw) (an he16)) (an he16) (fun hw28=> ?_)
    replace hw28:=nzQ hw28
    refine ap he16 ?_
    try refine ap he16 ?_
    subst hx27
    refine ⟨rfl,rfl,⟨rfl,rfl,rfl,rfl⟩,?_,?_⟩
    ·intro p9 x9 hx9 hl9
     obtain ⟨xa9,xb9,rfl⟩:=Mv hl9
     replace hM:=Mw hM hx9
     refine Mu ?_
     simp only [itS,ep,uF,St.put,List.map_cons,List.map_nil,Nat.reduceEqDiff,if_true,if_false,↓reduceIte]
     try refine ap he16 ?_
     refine bY (fun h29=> ?_) (fun h29=> ?_)
     ·rw [if_pos h29] at hM
      refine ap (And.intro he16 h29) ?_
      have nh29:=nzQ h29
      try have hr30:=mpQ nh29
      try simp only [go_sem,co,cq,List.length_replicate,b_,Int.toNat_natCast,↓reduceIte,Nat.reduceEqDiff,Nat.reduceAdd,Int.reduceAdd,Nat.reduceMul,Nat.reduceLeDiff,Nat.reduceLT,Int.reduceLE,Int.reduceLT,Int.reduceNeg,Int.reduceToNat,he16,uG]
      subst hM
      exact b9 (cr (And.intro he16 (And.intro h6 (And.intro h13 (And.intro h20 h29)))))
     ·rw [if_neg (bX h29)] at hM
      refine ap (And.intro he16 h29) ?_
      have nh29:=nzQ h29
      try have hr31:=mpQ nh29
      try simp only [go_sem,co,cq,List.length_replicate,b_,Int.toNat_natCast,↓reduceIte,Nat.reduceEqDiff,Nat.reduceAdd,Int.reduceAdd,Nat.reduceMul,Nat.reduceLeDiff,Nat.reduceLT,Int.reduceLE,Int.reduceLT,Int.reduceNeg,Int.reduceToNat,he16,uG,itS,ep]
      first|exact ⟨by assumption,fS sbQ sbQ⟩|exact fS sbQ sbQ
    ·intro hend9
     replace hM:=Mx hM hend9
     simp only [ep,Nat.reduceEqDiff,if_true,if_false,↓reduceIte]
     try refine ap he16 ?_
     refine jZ 136 22 [19,66,67,68,69,70,71,72,73,74,75,76,77,78,79,80,81,82,83,84,85,86] [] ([[],[0],[],[],[3],[3,4],[],[6],[6,7],[3,4,5,6,7,8],[],[10],[],[12],[12,13],[],[15],[0,1,2,3,4,5,6,7,8,9,10,11,12,13,14,15,16],[0,1,2,3,4,5,6,7,8,9,10,11,12,13,14,15,16,17],[0,1,2,3,4,5,6,7,8,9,10,11,12,13,14,15,16,17,18],[0,1,2,3,4,5,6,7,8,9,10,11,12,13,14,15,16,17,18],[0,1,2,3,4,5,6,7,8,9,10,11,12,13,14,15,16,17,18,19]]++[List.range 22]) [] (by kernel_rfl) (by exact alQ) ?_
     refine ap he16 ?_
     replace hM:=aw hM;obtain ⟨x32,hx33,hM⟩:=hM
     have hcx32:=cmU hx33
     refine bC hcx32 (an he16) (an he16) ?_
     refine ap he16 ?_
     replace hM:=aw hM;obtain ⟨x34,hx35,hM⟩:=hM
     have hcx34:=cmU hx35
     refine bC hcx34 (an he16) (an he16) ?_
     refine ap he16 ?_
     replace hM:=aw hM;obtain ⟨x36,hx37,hM⟩:=hM
     have hcx36:=cmU hx37
     refine bC hcx36 (an he16) (an he16) ?_
     refine ap he16 ?_
     replace hM:=aw hM;obtain ⟨x38,hx39,hM⟩:=hM
     have hcx38:=cmU hx39
     refine aP hcx38 (an he16) (an he16) (fun hw40=> ?_)
     replace hw40:=nzQ hw40
     refine ap he16 ?_
     refine fT (fun h41=> ?_) (fun h41=> ?_)
     ·subst h41
      rw [if_neg (by decide)] at hM
      refine ap he16 ?_
      refine bY (fun h42=> ?_) (fun h42=> ?_)
      ·rw [if_pos h42] at hM
       refine ap (And.intro he16 h42) ?_
       subst hM
       exact b9 (cr (And.intro he16 (And.intro h6 (And.intro h13 (And.intro h20 h42)))))
      ·rw [if_neg (bX h42)] at hM
       refine ap (And.intro he16 h42) ?_
       have nh42:=nzQ h42
       try have hr44:=mpQ nh42
       refine fT (fun h45=> ?_) (fun h45=> ?_)
       ·rw [if_neg (bX h45)] at hM
        refine ap (And.intro he16 h45) ?_
        have nh45:=nzQ h45
        try have hr46:=mpQ nh45
        refine bY (fun h47=> ?_) (fun h47=> ?_)
        ·rw [if_pos h47] at hM
         refine ap (And.intro he16 h47) ?_
         subst hM
         exact b9 (cr (And.intro he16 (And.intro h6 (And.intro h13 (And.intro h20 (And.intro h42 (And.intro h45 h47)))))))
        ·rw [if_neg (bX h47)] at hM
         refine ap (And.intro he16 h47) ?_
         have nh47:=nzQ h47
         try have hr49:=mpQ nh47
         replace hM:=aw hM;obtain ⟨x50,hx51,hM⟩:=hM
         have hcx50:=cmH hx51 (zC m (by (first|omega|exact pfQ)))
         refine aP hcx50 (an he16) (an he16) (fun hw52=> ?_)
         replace hw52:=nzQ hw52
         refine ap he16 ?_
         have hq53:=zx hx51
         replace hq53:=nzQ hq53
         replace hM:=aw hM;obtain ⟨x54,hx55,hM⟩:=hM
         have hcx54:=KU none (x50.Open) x9 (al .i64 x9 1) (by (first|omega|exact pfQ|(rw [aJ (by omega) (by omega)];omega))) (by (first|omega|exact pfQ|(rw [aJ (by omega) (by omega)];omega))) (by (first|omega|exact pfQ|(rw [aJ (by omega) (by omega)];omega))) (by (first|omega|exact pfQ|(rw [aJ (by omega) (by omega)];omega)))
         rw [←hx55] at hcx54
         refine jk [30] hcx54 (by decide) (cN he16) (cN he16) (fun hw56=> ?_)
         replace hw56:=nzQ hw56
         refine ap he16 ?_
         refine bA omQ ?_
         refine ap he16 ?_
         refine jZ 136 5 [122,123,124,125,126] [] ([[],[0],[],[2],[2,3]]++[List.range 5,List.range 6,List.range 7]) [] (by kernel_rfl) (by exact alQ) ?_
         refine ap he16 ?_
         replace hM:=aw hM;obtain ⟨x57,hx58,hM⟩:=hM
         have hcx57:=cmU hx58
         refine bC hcx57 (an he16) (an he16) ?_
         refine ap he16 ?_
         refine bA omQ ?_
         refine ap he16 ?_
         subst hM
         exact b9 (cr (And.intro he16 (And.intro h6 (And.intro h13 (And.intro h20 (And.intro h42 (And.intro h45 h47)))))))
       ·rw [if_pos h45] at hM
        refine ap (And.intro he16 h45) ?_
        subst hM
        exact b9 (cr (And.intro he16 (And.intro h6 (And.intro h13 (And.intro h20 (And.intro h42 h45))))))
     ·subst h41
      rw [if_pos rfl] at hM
      refine ap he16 ?_
      subst hM
      exact b9 (cr (And.intro he16 (And.intro h6 (And.intro h13 h20))))
instance (priority:=1052):DRD 6 26 8 [17,18,19,20,21,22,23,24] [] ([[],[],[0,1],[0,1,2],[],[],[4,5],[4,5,6]]++[List.range 8]) []:=⟨trivial⟩
set_option maxHeartbeats 2000000 in
set_option maxRecDepth 100000 in
instance Ur (a_:(List aN)) (b:(List aN)):CM En (od a_ b) 85 [.sl none 35 true (a_.map aZ),.sl none 35 true (b.map aZ)] (fun y=> .bool y) (fun _=> []):=by
 refine enQ noJ Tryz.func85 Tryz.ntmps85 (od.eq_1 ..) fun r hw=> ?_
 refine az fun _ _ _=> ?_
 intro hF hM
 replace hM:=aF hM;obtain ⟨f4,d4,hf4,hd4,hM⟩:=hM
 refine aL (fun n S=> ∃p:Int,S=(⟨[(0,.sl none 35 true (a_.map aZ)),(1,.sl none 35 true (b.map aZ)),(5,.int .i64 p)],[],0⟩:St)∧((0≤p)∧(p≤(a_.length:Int)))∧((a_.length:Int) - p).toNat<n∧ae n f4 d4 p=r) (((a_.length:Int) - 0).toNat+1) _ sbQ sbQ ⟨0,rfl,⟨omQ,omQ⟩,(Nat.lt_succ_self _),hM⟩ ?_
 clear hM
 rintro n4 S ⟨p4,rfl,hfa4,hm4,hM⟩
 replace hM:=aG hM (by omega) hf4;obtain ⟨ag4,hag4,hM⟩:=hM
 replace hfa4:=nzQ hfa4
 replace hm4:=nzQ hm4
 have ha4:al .i64 p4 1=p4+1:=aJ omQ omQ
 replace hF:=(And.intro ha4 hF)
 revert hM;revert hF
 refine slQ ?_
 refine aq fun _ _ _=> ?_
 intro hF hM
 refine bY (fun h9=> ?_) (fun h9=> ?_)
 ·have kh9:(!(kc (gt a_ p4) (gt b p4)))=true:=h9
  rw [if_pos kh9] at hM
  replace hF:=(And.intro h9 hF)
  revert hM;revert hF
  refine slQ ?_
  intro hF hM
  have nh9:=nzQ kh9
  try have hr10:=mpQ nh9
  exact auQ
 ·have kh9:(!(kc (gt a_ p4) (gt b p4)))=false:=h9
  rw [if_neg (bX kh9)] at hM
  replace hF:=(And.intro h9 hF)
  revert hM;revert hF
  refine slQ ?_
  intro hF hM
  have nh9:=nzQ kh9
  try have hr11:=mpQ nh9
  refine aC (n4 - 1) _ (by omega) sbQ sbQ ⟨(p4+1),rfl,⟨omQ,omQ⟩,omQ,aB hM hag4⟩
instance (priority:=1053):DRD 6 38 10 [27,28,29,30,31,32,33,34,35,36] [] ([[],[0],[],[0,1,2],[0,1,2,3],[],[5],[],[5,6,7],[5,6,7,8]]++[List.range 10]) []:=⟨trivial⟩
set_option maxHeartbeats 2000000 in
set_option maxRecDepth 100000 in
instance Us (p_:eI) (q:eI):CM En (qH p_ q) 90 [.agg [.int .i64 p_.Index,.sl none 32 true (p_.L.map aH)],.agg [.int .i64 q.Index,.sl none 32 true (q.L.map aH)]] (fun y=> .bool y) (fun _=> []):=by
 refine enQ noJ Tryz.func90 Tryz.ntmps90 (qH.eq_1 ..) fun r hw=> ?_
 refine aq fun _ _ _=> ?_
 refine az fun _ _ _=> ?_
 intro hF hM
 replace hM:=aF hM;obtain ⟨f6,d6,hf6,hd6,hM⟩:=hM
 refine aL (fun n S=> ∃p:Int,S=(⟨[(2,.ptr 0 0),(3,.ptr 1 0),(5,.int .i64 p)],[(0,.var 2 true (.agg [.int .i64 p_.Index,.sl none 32 true (p_.L.map aH)])),(1,.var 2 true (.agg [.int .i64 q.Index,.sl none 32 true (q.L.map aH)]))],2⟩:St)∧((0≤p)∧(p≤(p_.L.length:Int)))∧((p_.L.length:Int) - p).toNat<n∧ae n f6 d6 p=r) (((p_.L.length:Int) - 0).toNat+1) _ sbQ sbQ ⟨0,rfl,⟨omQ,omQ⟩,(Nat.lt_succ_self _),hM⟩ ?_
 clear hM
 rintro n6 S ⟨p6,rfl,hfa6,hm6,hM⟩
 replace hM:=aG hM (by omega) hf6;obtain ⟨ag6,hag6,hM⟩:=hM
 replace hfa6:=nzQ hfa6
 replace hm6:=nzQ hm6
 have ha6:al .i64 p6 1=p6+1:=aJ omQ omQ
 replace hF:=(And.intro ha6 hF)
 revert hM;revert hF
 refine slQ ?_
 refine aq fun _ _ _=> ?_
 intro hF hM
 refine bY (fun h11=> ?_) (fun h11=> ?_)
 ·have kh11:(!(eJ (gt p_.L p6) (gt q.L p6)))=true:=h11
  rw [if_pos kh11] at hM
  replace hF:=(And.intro h11 hF)
  revert hM;revert hF
  refine slQ ?_
  intro hF hM
  have nh11:=nzQ kh11
  try have hr12:=mpQ nh11
  exact auQ
 ·have kh11:(!(eJ (gt p_.L p6) (gt q.L p6)))=false:=h11
  rw [if_neg (bX kh11)] at hM
  replace hF:=(And.intro h11 hF)
  revert hM;revert hF
  refine slQ ?_
  intro hF hM
  have nh11:=nzQ kh11
  try have hr13:=mpQ nh11
  refine aC (n6 - 1) _ (by omega) sbQ sbQ ⟨(p6+1),rfl,⟨omQ,omQ⟩,omQ,aB hM hag6⟩
instance (priority:=1054):DRD 6 60 10 [49,50,51,52,53,54,55,56,57,58] [] ([[],[0],[],[0,1,2],[0,1,2,3],[],[5],[],[5,6,7],[5,6,7,8]]++[List.range 10]) []:=⟨trivial⟩
set_option maxHeartbeats 2000000 in
set_option maxRecDepth 100000 in
instance Ut (a_:au) (b:au):CM En (kF a_ b) 44 [(aQ a_),.agg (.int .i64 b.Coin.Bank:: .int .i64 b.Coin.Epoch:: .int .i64 b.Coin.Denom:: .int .i64 b.Coin.Depth:: .int .i64 b.Coin.A:: .int .u8 (gt b.Coin.Root 0):: .int .u8 (gt b.Coin.Root 1):: .int .u8 (gt b.Coin.Root 2):: .int .u8 (gt b.Coin.Root 3):: .int .u8 (gt b.Coin.Root 4):: .int .u8 (gt b.Coin.Root 5):: .int .u8 (gt b.Coin.Root 6):: .int .u8 (gt b.Coin.Root 7):: .int .u8 (gt b.Coin.Root 8):: .int .u8 (gt b.Coin.Root 9):: .int .u8 (gt b.Coin.Root 10):: .int .u8 (gt b.Coin.Root 11):: .int .u8 (gt b.Coin.Root 12):: .int .u8 (gt b.Coin.Root 13):: .int .u8 (gt b.Coin.Root 14):: .int .u8 (gt b.Coin.Root 15):: .int .u8 (gt b.Coin.Root 16):: .int .u8 (gt b.Coin.Root 17):: .int .u8 (gt b.Coin.Root 18):: .int .u8 (gt b.Coin.Root 19):: .int .u8 (gt b.Coin.Root 20):: .int .u8 (gt b.Coin.Root 21):: .int .u8 (gt b.Coin.Root 22):: .int .u8 (gt b.Coin.Root 23):: .int .u8 (gt b.Coin.Root 24):: .int .u8 (gt b.Coin.Root 25):: .int .u8 (gt b.Coin.Root 26):: .int .u8 (gt b.Coin.Root 27):: .int .u8 (gt b.Coin.Root 28):: .int .u8 (gt b.Coin.Root 29):: .int .u8 (gt b.Coin.Root 30):: .int .u8 (gt b.Coin.Root 31):: .int .i64 b.Coin.Sign.Z:: .int .i64 b.Coin.Sign.A:: .int .i64 b.Coin.Sign.B:: .int .i64 b.Coin.Sign.R:: .int .i64 b.Node.Level:: .int .i64 b.Node.Index:: .int .u8 (gt b.Context.Payee 0):: .int .u8 (gt b.Context.Payee 1):: .int .u8 (gt b.Context.Payee 2):: .int .u8 (gt b.Context.Payee 3):: .int .u8 (gt b.Context.Payee 4):: .int .u8 (gt b.Context.Payee 5):: .int .u8 (gt b.Context.Payee 6):: .int .u8 (gt b.Context.Payee 7):: .int .u8 (gt b.Context.Payee 8):: .int .u8 (gt b.Context.Payee 9):: .int .u8 (gt b.Context.Payee 10):: .int .u8 (gt b.Context.Payee 11):: .int .u8 (gt b.Context.Payee 12):: .int .u8 (gt b.Context.Payee 13):: .int .u8 (gt b.Context.Payee 14):: .int .u8 (gt b.Context.Payee 15):: .int .u8 (gt b.Context.Payee 16):: .int .u8 (gt b.Context.Payee 17):: .int .u8 (gt b.Context.Payee 18):: .int .u8 (gt b.Context.Payee 19):: .int .u8 (gt b.Context.Payee 20):: .int .u8 (gt b.Context.Payee 21):: .int .u8 (gt b.Context.Payee 22):: .int .u8 (gt b.Context.Payee 23):: .int .u8 (gt b.Context.Payee 24):: .int .u8 (gt b.Context.Payee 25):: .int .u8 (gt b.Context.Payee 26):: .int .u8 (gt b.Context.Payee 27):: .int .u8 (gt b.Context.Payee 28):: .int .u8 (gt b.Context.Payee 29):: .int .u8 (gt b.Context.Payee 30):: .int .u8 (gt b.Context.Payee 31):: .int .i64 b.Context.Time:: .int .i64 b.Context.Number:: .sl none 3 true (b.Leaves.map dQ):: .int .i64 b.Path.Index:: .sl none 32 true (b.Path.L.map aH)::[])] (fun y=> .bool y) (fun _=> []):=by
 refine enQ noJ Tryz.func44 Tryz.ntmps44 (kF.eq_1 ..) fun r hw=> ?_
 intro hF hM
 refine fT (fun h1=> ?_) (fun h1=> ?_)
 ·have kh1:(!(nw (a_.Coin) (b.Coin)))=false:=h1
  rw [if_neg (bX kh1)] at hM
  replace hF:=(And.intro h1 hF)
  revert hM;revert hF
  refine slQ ?_
  intro hF hM
  have nh1:=nzQ kh1
  try have hr2:=mpQ nh1
  refine fT (fun h3=> ?_) (fun h3=> ?_)
  ·have kh3:(!(ny (a_.Node) (b.Node)))=false:=h3
   rw [if_neg (bX kh3)] at hM
   replace hF:=(And.intro h3 hF)
   revert hM;revert hF
   refine slQ ?_
   intro hF hM
   have nh3:=nzQ kh3
   try have hr4:=mpQ nh3
   refine fT (fun h5=> ?_) (fun h5=> ?_)
   ·have kh5:(!(jq (a_.Context) (b.Context)))=false:=h5
    rw [if_neg (bX kh5)] at hM
    replace hF:=(And.intro h5 hF)
    revert hM;revert hF
    refine slQ ?_
    intro hF hM
    have nh5:=nzQ kh5
    try have hr6:=mpQ nh5
    revert hM;revert hF
    refine aq fun _ _ _=> ?_
    refine ax fun _ _ _ _=> ?_
    refine az fun _ _ _=> ?_
    intro hF hM
    replace hM:=aF hM;obtain ⟨f15,d15,hf15,hd15,hM⟩:=hM
    refine aL (fun n S=> ∃p:Int,S=(⟨[(2,.ptr 0 0),(3,.ptr 1 0),(5,.int .i64 p)],[(0,.var 80 true ((aQ a_))),(1,.var 80 true (.agg (.int .i64 b.Coin.Bank:: .int .i64 b.Coin.Epoch:: .int .i64 b.Coin.Denom:: .int .i64 b.Coin.Depth:: .int .i64 b.Coin.A:: .int .u8 (gt b.Coin.Root 0):: .int .u8 (gt b.Coin.Root 1):: .int .u8 (gt b.Coin.Root 2):: .int .u8 (gt b.Coin.Root 3):: .int .u8 (gt b.Coin.Root 4):: .int .u8 (gt b.Coin.Root 5):: .int .u8 (gt b.Coin.Root 6):: .int .u8 (gt b.Coin.Root 7):: .int .u8 (gt b.Coin.Root 8):: .int .u8 (gt b.Coin.Root 9):: .int .u8 (gt b.Coin.Root 10):: .int .u8 (gt b.Coin.Root 11):: .int .u8 (gt b.Coin.Root 12):: .int .u8 (gt b.Coin.Root 13):: .int .u8 (gt b.Coin.Root 14):: .int .u8 (gt b.Coin.Root 15):: .int .u8 (gt b.Coin.Root 16):: .int .u8 (gt b.Coin.Root 17):: .int .u8 (gt b.Coin.Root 18):: .int .u8 (gt b.Coin.Root 19):: .int .u8 (gt b.Coin.Root 20):: .int .u8 (gt b.Coin.Root 21):: .int .u8 (gt b.Coin.Root 22):: .int .u8 (gt b.Coin.Root 23):: .int .u8 (gt b.Coin.Root 24):: .int .u8 (gt b.Coin.Root 25):: .int .u8 (gt b.Coin.Root 26):: .int .u8 (gt b.Coin.Root 27):: .int .u8 (gt b.Coin.Root 28):: .int .u8 (gt b.Coin.Root 29):: .int .u8 (gt b.Coin.Root 30):: .int .u8 (gt b.Coin.Root 31):: .int .i64 b.Coin.Sign.Z:: .int .i64 b.Coin.Sign.A:: .int .i64 b.Coin.Sign.B:: .int .i64 b.Coin.Sign.R:: .int .i64 b.Node.Level:: .int .i64 b.Node.Index:: .int .u8 (gt b.Context.Payee 0):: .int .u8 (gt b.Context.Payee 1):: .int .u8 (gt b.Context.Payee 2):: .int .u8 (gt b.Context.Payee 3):: .int .u8 (gt b.Context.Payee 4):: .int .u8 (gt b.Context.Payee 5):: .int .u8 (gt b.Context.Payee 6):: .int .u8 (gt b.Context.Payee 7):: .int .u8 (gt b.Context.Payee 8):: .int .u8 (gt b.Context.Payee 9):: .int .u8 (gt b.Context.Payee 10):: .int .u8 (gt b.Context.Payee 11):: .int .u8 (gt b.Context.Payee 12):: .int .u8 (gt b.Context.Payee 13):: .int .u8 (gt b.Context.Payee 14):: .int .u8 (gt b.Context.Payee 15):: .int .u8 (gt b.Context.Payee 16):: .int .u8 (gt b.Context.Payee 17):: .int .u8 (gt b.Context.Payee 18):: .int .u8 (gt b.Context.Payee 19):: .int .u8 (gt b.Context.Payee 20):: .int .u8 (gt b.Context.Payee 21):: .int .u8 (gt b.Context.Payee 22):: .int .u8 (gt b.Context.Payee 23):: .int .u8 (gt b.Context.Payee 24):: .int .u8 (gt b.Context.Payee 25):: .int .u8 (gt b.Context.Payee 26):: .int .u8 (gt b.Context.Payee 27):: .int .u8 (gt b.Context.Payee 28):: .int .u8 (gt b.Context.Payee 29):: .int .u8 (gt b.Context.Payee 30):: .int .u8 (gt b.Context.Payee 31):: .int .i64 b.Context.Time:: .int .i64 b.Context.Number:: .sl none 3 true (b.Leaves.map dQ):: .int .i64 b.Path.Index:: .sl none 32 true (b.Path.L.map aH)::[])))],2⟩:St)∧((0≤p)∧(p≤(a_.Leaves.length:Int)))∧((a_.Leaves.length:Int) - p).toNat<n∧ae n f15 d15 p=r) (((a_.Leaves.length:Int) - 0).toNat+1) _ sbQ sbQ ⟨0,rfl,⟨omQ,omQ⟩,(Nat.lt_succ_self _),hM⟩ ?_
    clear hM
    rintro n15 S ⟨p15,rfl,hfa15,hm15,hM⟩
    replace hM:=aG hM (by omega) hf15;obtain ⟨ag15,hag15,hM⟩:=hM
    replace hfa15:=nzQ hfa15
    replace hm15:=nzQ hm15
    have ha15:al .i64 p15 1=p15+1:=aJ omQ omQ
    replace hF:=(And.intro ha15 hF)
    revert hM;revert hF
    refine slQ ?_
    refine aq fun _ _ _=> ?_
    intro hF hM
    refine bY (fun h20=> ?_) (fun h20=> ?_)
    ·have kh20:(!(lV (gt a_.Leaves p15) (gt b.Leaves p15)))=true:=h20
     rw [if_pos kh20] at hM
     replace hF:=(And.intro h20 hF)
     revert hM;revert hF
     refine slQ ?_
     intro hF hM
     have nh20:=nzQ kh20
     try have hr21:=mpQ nh20
     exact auQ
    ·have kh20:(!(lV (gt a_.Leaves p15) (gt b.Leaves p15)))=false:=h20
     rw [if_neg (bX kh20)] at hM
     replace hF:=(And.intro h20 hF)
     revert hM;revert hF
     refine slQ ?_
     intro hF hM
     have nh20:=nzQ kh20
     try have hr22:=mpQ nh20
     refine aC (n15 - 1) _ (by omega) sbQ sbQ ⟨(p15+1),rfl,⟨omQ,omQ⟩,omQ,aB hM hag15⟩
   ·have kh5:(!(jq (a_.Context) (b.Context)))=true:=h5
    rw [if_pos kh5] at hM
    replace hF:=(And.intro h5 hF)
    revert hM;revert hF
    refine slQ ?_
    intro hF hM
    have nh5:=nzQ kh5
    try have hr25:=mpQ nh5
    exact auQ
  ·have kh3:(!(ny (a_.Node) (b.Node)))=true:=h3
   rw [if_pos kh3] at hM
   replace hF:=(And.intro h3 hF)
   revert hM;revert hF
   refine slQ ?_
   intro hF hM
   have nh3:=nzQ kh3
   try have hr26:=mpQ nh3
   exact auQ
 ·have kh1:(!(nw (a_.Coin) (b.Coin)))=true:=h1
  rw [if_pos kh1] at hM
  replace hF:=(And.intro h1 hF)
  revert hM;revert hF
  refine slQ ?_
  intro hF hM
  have nh1:=nzQ kh1
  try have hr27:=mpQ nh1
  exact auQ
instance (priority:=1055):DRD 1 33 3 [8,9,10] [] ([[],[0],[]]++[List.range 3,List.range 4,List.range 5]) []:=⟨trivial⟩
instance (priority:=1056):DRD 7 33 8 [23,24,25,26,27,28,29,30] [] ([[],[],[0,1],[0,1,2],[],[],[4,5],[4,5,6]]++[List.range 8,List.range 9]) []:=⟨trivial⟩
set_option maxHeartbeats 2000000 in
set_option maxRecDepth 100000 in
theorem NJ (x_:bh) (y:bh) (hp0:x_.L.length≤1000) (hp1:y.L.length≤1000):CM En (og x_ y) 45 [(bl x_),(bl y)] (fun y=> .bool y) (fun _=> []):=by
 refine enQ noJ Tryz.func45 Tryz.ntmps45 (og.eq_1 ..) fun r hw=> ?_
 refine slQ ?_
 intro hF hM
 replace hM:=aw hM;obtain ⟨x1,hx2,hM⟩:=hM
 have hcx1:=cmH hx2 (zD x_ (by (first|exact hp0|exact hp1)))
 refine bC hcx1 clQ clQ ?_
 revert hM;revert hF
 refine slQ ?_
 have hq3:=zz hx2
 replace hq3:=nzQ hq3
 intro hF hM
 replace hM:=aw hM;obtain ⟨x4,hx5,hM⟩:=hM
 have hcx4:=cmH hx5 (zD y (by (first|exact hp0|exact hp1)))
 refine aP hcx4 clQ clQ (fun hw6=> ?_)
 replace hw6:=nzQ hw6
 revert hM;revert hF
 refine slQ ?_
 have hq7:=zz hx5
 replace hq7:=nzQ hq7
 refine az fun _ _ _=> ?_
 intro hF hM
 replace hM:=aF hM;obtain ⟨f11,d11,hf11,hd11,hM⟩:=hM
 refine aL (fun n S=> ∃p:Int,S=(⟨[(5,.sl none 80 true (x1.map aQ)),(6,.sl none 80 true (x4.map aQ)),(7,.int .i64 p)],[],5⟩:St)∧((0≤p)∧(p≤(x1.length:Int)))∧((x1.length:Int) - p).toNat<n∧ae n f11 d11 p=r) (((x1.length:Int) - 0).toNat+1) _ sbQ sbQ ⟨0,rfl,⟨omQ,omQ⟩,(Nat.lt_succ_self _),hM⟩ ?_
 clear hM
 rintro n11 S ⟨p11,rfl,hfa11,hm11,hM⟩
 replace hM:=aG hM (by omega) hf11;obtain ⟨ag11,hag11,hM⟩:=hM
 replace hfa11:=nzQ hfa11
 replace hm11:=nzQ hm11
 have ha11:al .i64 p11 1=p11+1:=aJ omQ omQ
 replace hF:=(And.intro ha11 hF)
 revert hM;revert hF
 refine slQ ?_
 refine aq fun _ _ _=> ?_
 refine ax fun _ _ _ _=> ?_
 refine az fun _ _ _=> ?_
 intro hF hM
 refine aC (n11 - 1) _ (by omega) sbQ sbQ ⟨(p11+1),rfl,⟨omQ,omQ⟩,omQ,aB hM hag11⟩
instance (priority:=1057):DRD 6 26 8 [17,18,19,20,21,22,23,24] [] ([[],[],[0,1],[0,1,2],[],[],[4,5],[4,5,6]]++[List.range 8]) []:=⟨trivial⟩
set_option maxHeartbeats 2000000 in
set_option maxRecDepth 100000 in
instance Uu (a_:(List Int)) (b:(List Int)):CM En (oh a_ b) 115 [.sl none 1 false (a_.map (V.int .i64)),.sl none 1 false (b.map (V.int .i64))] (fun y=> .bool y) (fun _=> []):=by
 refine enQ noJ Tryz.func115 Tryz.ntmps115 (oh.eq_1 ..) fun r hw=> ?_
 refine az fun _ _ _=> ?_
 intro hF hM
 replace hM:=aF hM;obtain ⟨f4,d4,hf4,hd4,hM⟩:=hM
 refine aL (fun n S=> ∃p:Int,S=(⟨[(0,.sl none 1 false (a_.map (V.int .i64))),(1,.sl none 1 false (b.map (V.int .i64))),(5,.int .i64 p)],[],0⟩:St)∧((0≤p)∧(p≤(a_.length:Int)))∧((a_.length:Int) - p).toNat<n∧ae n f4 d4 p=r) (((a_.length:Int) - 0).toNat+1) _ sbQ sbQ ⟨0,rfl,⟨omQ,omQ⟩,(Nat.lt_succ_self _),hM⟩ ?_
 clear hM
 rintro n4 S ⟨p4,rfl,hfa4,hm4,hM⟩
 replace hM:=aG hM (by omega) hf4;obtain ⟨ag4,hag4,hM⟩:=hM
 replace hfa4:=nzQ hfa4
 replace hm4:=nzQ hm4
 have ha4:al .i64 p4 1=p4+1:=aJ omQ omQ
 replace hF:=(And.intro ha4 hF)
 revert hM;revert hF
 refine slQ ?_
 refine aq fun _ _ _=> ?_
 refine az fun _ _ _=> ?_
 intro hF hM
 refine aC (n4 - 1) _ (by omega) sbQ sbQ ⟨(p4+1),rfl,⟨omQ,omQ⟩,omQ,aB hM hag4⟩
set_option maxHeartbeats 2000000 in
set_option maxRecDepth 100000 in
instance Uv (a_:dP) (b:dP):CM En (uw a_ b) 91 [.agg [.sl none 1 false (a_.A.map (V.int .i64)),.int .i64 a_.C,.sl none 1 false (a_.Z.map (V.int .i64))],.agg [.sl none 1 false (b.A.map (V.int .i64)),.int .i64 b.C,.sl none 1 false (b.Z.map (V.int .i64))]] (fun y=> .bool y) (fun _=> []):=by
 refine enQ noJ Tryz.func91 Tryz.ntmps91 (uw.eq_1 ..) fun r hw=> ?_
 exact auR
set_option maxHeartbeats 2000000 in
set_option maxRecDepth 100000 in
instance Uw (a_:bZ) (b:bZ):CM En (oi a_ b) 46 [(bQ a_),(bQ b)] (fun y=> .bool y) (fun _=> []):=by
 refine enQ noJ Tryz.func46 Tryz.ntmps46 (oi.eq_1 ..) fun r hw=> ?_
 exact auR
instance (priority:=1058):DRD 6 97 10 [47,48,49,50,51,52,53,54,55,56] [] ([[],[0],[],[0,1,2],[0,1,2,3],[],[5],[],[5,6,7],[5,6,7,8]]++[List.range 10,List.range 11]) []:=⟨trivial⟩
instance (priority:=1059):DRD 11 97 10 [66,67,68,69,70,71,72,73,74,75] [] ([[],[0],[],[0,1,2],[0,1,2,3],[],[5],[],[5,6,7],[5,6,7,8]]++[List.range 10,List.range 11]) []:=⟨trivial⟩
instance (priority:=1060):DRD 16 97 10 [85,86,87,88,89,90,91,92,93,94] [] ([[],[0],[],[0,1,2],[0,1,2,3],[],[5],[],[5,6,7],[5,6,7,8]]++[List.range 10,List.range 11]) []:=⟨trivial⟩
set_option maxHeartbeats 2000000 in
set_option maxRecDepth 100000 in
theorem NL (p_:aK) (q:aK) (hp0:dC p_) (hp1:dC q):CM En (ol p_ q) 11 [.agg [.int .i64 p_.Number,.sl none 80 true (p_.Spends.map aQ),.sl none 81 true (p_.Chains.map bl),.sl none 5 true (p_.Escrow.map bQ)],.agg [.int .i64 q.Number,.sl none 80 true (q.Spends.map aQ),.sl none 81 true (q.Chains.map bl),.sl none 5 true (q.Escrow.map bQ)]] (fun y=> .bool y) (fun _=> []):=by
 refine enQ noJ Tryz.func11 Tryz.ntmps11 (ol.eq_1 ..) fun r hw=> ?_
 refine aq fun _ _ _=> ?_
 refine aq fun _ _ _=> ?_
 refine aq fun _ _ _=> ?_
 refine az fun _ _ _=> ?_
 intro hF hM
 replace hM:=aF hM;obtain ⟨f10,d10,hf10,hd10,hM⟩:=hM
 refine aL (fun n S=> ∃p:Int,S=(⟨[(2,.ptr 0 0),(3,.ptr 1 0),(5,.int .i64 p)],[(0,.var 4 true (bw p_)),(1,.var 4 true (bw q))],2⟩:St)∧((0≤p)∧(p≤(p_.Spends.length:Int)))∧((p_.Spends.length:Int) - p).toNat<n∧ae n f10 d10 p=r) (((p_.Spends.length:Int) - 0).toNat+1) _ sbQ sbQ ⟨0,rfl,⟨omQ,omQ⟩,(Nat.lt_succ_self _),hM⟩ ?_
 clear hM
 rintro n10 S ⟨p10,rfl,hfa10,hm10,hM⟩
 replace hM:=aG hM (by omega) hf10;obtain ⟨ag10,hag10,hM⟩:=hM
 replace hfa10:=nzQ hfa10
 replace hm10:=nzQ hm10
 have ha10:al .i64 p10 1=p10+1:=aJ omQ omQ
 replace hF:=(And.intro ha10 hF)
 revert hM;revert hF
 refine slQ ?_
 refine cdQ (fun _ _ _=> ?_) (fun _ _ _=> ?_)
 ·refine ax fun _ _ _ _=> ?_
  refine az fun _ _ _=> ?_
  intro hF hM
  refine aC (n10 - 1) _ (by omega) sbQ sbQ ⟨(p10+1),rfl,⟨omQ,omQ⟩,omQ,aB hM hag10⟩
 ·intro hF hM
  replace hM:=aF hM;obtain ⟨f22,d22,hf22,hd22,hM⟩:=hM
  refine aL (fun n S=> ∃p:Int,S=(⟨[(2,.ptr 0 0),(3,.ptr 1 0),(6,.int .i64 p)],[(0,.var 4 true (bw p_)),(1,.var 4 true (bw q))],2⟩:St)∧((0≤p)∧(p≤(p_.Chains.length:Int)))∧((p_.Chains.length:Int) - p).toNat<n∧ae n f22 d22 p=r) (((p_.Chains.length:Int) - 0).toNat+1) _ sbQ sbQ ⟨0,rfl,⟨omQ,omQ⟩,(Nat.lt_succ_self _),hM⟩ ?_
  clear hM
  rintro n22 S ⟨p22,rfl,hfa22,hm22,hM⟩
  replace hM:=aG hM (by omega) hf22;obtain ⟨ag22,hag22,hM⟩:=hM
  replace hfa22:=nzQ hfa22
  replace hm22:=nzQ hm22
  have ha22:al .i64 p22 1=p22+1:=aJ omQ omQ
  replace hF:=(And.intro ha22 hF)
  revert hM;revert hF
  refine slQ ?_
  refine cdQ (fun _ _ _=> ?_) (fun _ _ _=> ?_)
  ·intro hF hM
   replace hM:=aw hM;obtain ⟨x27,hx28,hM⟩:=hM
   have hcx27:=cmH hx28 (NJ (gt p_.Chains p22) (gt q.Chains p22) (by (first|exact uK hp0 (by omega)|exact uK hp1 (by omega))) (by (first|exact uK hp0 (by omega)|exact uK hp1 (by omega))))
   refine aP hcx27 (an hF) (an hF) (fun hw29=> ?_)
   replace hw29:=nzQ hw29
   revert hM;revert hF
   refine slQ ?_
   refine az fun _ _ _=> ?_
   intro hF hM
   refine aC (n22 - 1) _ (by omega) sbQ sbQ ⟨(p22+1),rfl,⟨omQ,omQ⟩,omQ,aB hM hag22⟩
  ·intro hF hM
   replace hM:=aF hM;obtain ⟨f34,d34,hf34,hd34,hM⟩:=hM
   refine aL (fun n S=> ∃p:Int,S=(⟨[(2,.ptr 0 0),(3,.ptr 1 0),(7,.int .i64 p)],[(0,.var 4 true (bw p_)),(1,.var 4 true (bw q))],2⟩:St)∧((0≤p)∧(p≤(p_.Escrow.length:Int)))∧((p_.Escrow.length:Int) - p).toNat<n∧ae n f34 d34 p=r) (((p_.Escrow.length:Int) - 0).toNat+1) _ sbQ sbQ ⟨0,rfl,⟨omQ,omQ⟩,(Nat.lt_succ_self _),hM⟩ ?_
   clear hM
   rintro n34 S ⟨p34,rfl,hfa34,hm34,hM⟩
   replace hM:=aG hM (by omega) hf34;obtain ⟨ag34,hag34,hM⟩:=hM
   replace hfa34:=nzQ hfa34
   replace hm34:=nzQ hm34
   have ha34:al .i64 p34 1=p34+1:=aJ omQ omQ
   replace hF:=(And.intro ha34 hF)
   revert hM;revert hF
   refine slQ ?_
   refine aq fun _ _ _=> ?_
   refine ax fun _ _ _ _=> ?_
   refine az fun _ _ _=> ?_
   intro hF hM
   refine aC (n34 - 1) _ (by omega) sbQ sbQ ⟨(p34+1),rfl,⟨omQ,omQ⟩,omQ,aB hM hag34⟩
instance (priority:=1061):DRD 6 137 12 [87,88,89,90,91,92,93,94,95,96,97,98] [] ([[],[0],[0,1],[],[0,1,2,3],[0,1,2,3,4],[],[6],[6,7],[],[6,7,8,9],[6,7,8,9,10]]++[List.range 12]) []:=⟨trivial⟩
instance (priority:=1062):DRD 11 137 10 [107,108,109,110,111,112,113,114,115,116] [] ([[],[0],[],[0,1,2],[0,1,2,3],[],[5],[],[5,6,7],[5,6,7,8]]++[List.range 10,List.range 11]) []:=⟨trivial⟩
instance (priority:=1063):DRD 16 137 10 [126,127,128,129,130,131,132,133,134,135] [] ([[],[0],[],[0,1,2],[0,1,2,3],[],[5],[],[5,6,7],[5,6,7,8]]++[List.range 10]) []:=⟨trivial⟩
set_option maxHeartbeats 2000000 in
set_option maxRecDepth 100000 in
theorem NM (a_:aD) (b:aD) (hp0:okQ a_.Queue) (hp1:okQ b.Queue):CM En (qI a_ b) 40 [(bJ a_),.agg (.int .u8 (gt b.Name 0):: .int .u8 (gt b.Name 1):: .int .u8 (gt b.Name 2):: .int .u8 (gt b.Name 3):: .int .u8 (gt b.Name 4):: .int .u8 (gt b.Name 5):: .int .u8 (gt b.Name 6):: .int .u8 (gt b.Name 7):: .int .u8 (gt b.Name 8):: .int .u8 (gt b.Name 9):: .int .u8 (gt b.Name 10):: .int .u8 (gt b.Name 11):: .int .u8 (gt b.Name 12):: .int .u8 (gt b.Name 13):: .int .u8 (gt b.Name 14):: .int .u8 (gt b.Name 15):: .int .u8 (gt b.Name 16):: .int .u8 (gt b.Name 17):: .int .u8 (gt b.Name 18):: .int .u8 (gt b.Name 19):: .int .u8 (gt b.Name 20):: .int .u8 (gt b.Name 21):: .int .u8 (gt b.Name 22):: .int .u8 (gt b.Name 23):: .int .u8 (gt b.Name 24):: .int .u8 (gt b.Name 25):: .int .u8 (gt b.Name 26):: .int .u8 (gt b.Name 27):: .int .u8 (gt b.Name 28):: .int .u8 (gt b.Name 29):: .int .u8 (gt b.Name 30):: .int .u8 (gt b.Name 31):: .sl none 3 true (b.Policy.Rules.map ct):: .sl none 35 true (b.Open.map aZ):: .int .i64 b.Next:: .sl none 4 true (b.Queue.map bw):: .sl none 35 true (b.Paid.map aZ):: .int .i64 b.Total:: .sl none 1 false (b.Blocked.map (V.int .i64)):: .int .i64 b.Now::[])] (fun y=> .bool y) (fun _=> []):=by
 refine enQ noJ Tryz.func40 Tryz.ntmps40 (qI.eq_1 ..) fun r hw=> ?_
 intro hF hM
 refine fT (fun h1=> ?_) (fun h1=> ?_)
 ·have kh1:(!(eJ (a_.Name) (b.Name)))=false:=h1
  rw [if_neg (bX kh1)] at hM
  replace hF:=(And.intro h1 hF)
  revert hM;revert hF
  refine slQ ?_
  intro hF hM
  have nh1:=nzQ kh1
  try have hr2:=mpQ nh1
  revert hM;revert hF
  refine aq fun _ _ _=> ?_
  refine aq fun _ _ _=> ?_
  refine aq fun _ _ _=> ?_
  refine aq fun _ _ _=> ?_
  refine aq fun _ _ _=> ?_
  refine aq fun _ _ _=> ?_
  refine ax fun _ _ _ _=> ?_
  refine aq fun _ _ _=> ?_
  refine ax fun _ _ _ _=> ?_
  refine az fun _ _ _=> ?_
  intro hF hM
  replace hM:=aF hM;obtain ⟨f26,d26,hf26,hd26,hM⟩:=hM
  refine aL (fun n S=> ∃p:Int,S=(⟨[(2,.ptr 0 0),(3,.ptr 1 0),(5,.int .i64 p)],[(0,.var 40 true ((bJ a_))),(1,.var 40 true ((bJ b)))],2⟩:St)∧((0≤p)∧(p≤(a_.Policy.Rules.length:Int)))∧((a_.Policy.Rules.length:Int) - p).toNat<n∧ae n f26 d26 p=r) (((a_.Policy.Rules.length:Int) - 0).toNat+1) _ sbQ sbQ ⟨0,rfl,⟨omQ,omQ⟩,(Nat.lt_succ_self _),hM⟩ ?_
  clear hM
  rintro n26 S ⟨p26,rfl,hfa26,hm26,hM⟩
  replace hM:=aG hM (by omega) hf26;obtain ⟨ag26,hag26,hM⟩:=hM
  replace hfa26:=nzQ hfa26
  replace hm26:=nzQ hm26
  have ha26:al .i64 p26 1=p26+1:=aJ omQ omQ
  replace hF:=(And.intro ha26 hF)
  revert hM;revert hF
  refine slQ ?_
  refine cdQ (fun _ _ _=> ?_) (fun _ _ _=> ?_)
  ·intro hF hM
   refine bY (fun h31=> ?_) (fun h31=> ?_)
   ·have kh31:(!(lW (gt a_.Policy.Rules p26) (gt b.Policy.Rules p26)))=true:=h31
    rw [if_pos kh31] at hM
    replace hF:=(And.intro h31 hF)
    revert hM;revert hF
    refine slQ ?_
    intro hF hM
    have nh31:=nzQ kh31
    try have hr32:=mpQ nh31
    exact auQ
   ·have kh31:(!(lW (gt a_.Policy.Rules p26) (gt b.Policy.Rules p26)))=false:=h31
    rw [if_neg (bX kh31)] at hM
    replace hF:=(And.intro h31 hF)
    revert hM;revert hF
    refine slQ ?_
    intro hF hM
    have nh31:=nzQ kh31
    try have hr33:=mpQ nh31
    refine aC (n26 - 1) _ (by omega) sbQ sbQ ⟨(p26+1),rfl,⟨omQ,omQ⟩,omQ,aB hM hag26⟩
  ·intro hF hM
   replace hM:=aF hM;obtain ⟨f35,d35,hf35,hd35,hM⟩:=hM
   refine aL (fun n S=> ∃p:Int,S=(⟨[(2,.ptr 0 0),(3,.ptr 1 0),(6,.int .i64 p)],[(0,.var 40 true ((bJ a_))),(1,.var 40 true (.agg (.int .u8 (gt b.Name 0):: .int .u8 (gt b.Name 1):: .int .u8 (gt b.Name 2):: .int .u8 (gt b.Name 3):: .int .u8 (gt b.Name 4):: .int .u8 (gt b.Name 5):: .int .u8 (gt b.Name 6):: .int .u8 (gt b.Name 7):: .int .u8 (gt b.Name 8):: .int .u8 (gt b.Name 9):: .int .u8 (gt b.Name 10):: .int .u8 (gt b.Name 11):: .int .u8 (gt b.Name 12):: .int .u8 (gt b.Name 13):: .int .u8 (gt b.Name 14):: .int .u8 (gt b.Name 15):: .int .u8 (gt b.Name 16):: .int .u8 (gt b.Name 17):: .int .u8 (gt b.Name 18):: .int .u8 (gt b.Name 19):: .int .u8 (gt b.Name 20):: .int .u8 (gt b.Name 21):: .int .u8 (gt b.Name 22):: .int .u8 (gt b.Name 23):: .int .u8 (gt b.Name 24):: .int .u8 (gt b.Name 25):: .int .u8 (gt b.Name 26):: .int .u8 (gt b.Name 27):: .int .u8 (gt b.Name 28):: .int .u8 (gt b.Name 29):: .int .u8 (gt b.Name 30):: .int .u8 (gt b.Name 31):: .sl none 3 true (b.Policy.Rules.map ct):: .sl none 35 true (b.Open.map aZ):: .int .i64 b.Next:: .sl none 4 true (b.Queue.map bw):: .sl none 35 true (b.Paid.map aZ):: .int .i64 b.Total:: .sl none 1 false (b.Blocked.map (V.int .i64)):: .int .i64 b.Now::[])))],2⟩:St)∧((0≤p)∧(p≤(a_.Queue.length:Int)))∧((a_.Queue.length:Int) - p).toNat<n∧ae n f35 d35 p=r) (((a_.Queue.length:Int) - 0).toNat+1) _ sbQ sbQ ⟨0,rfl,⟨omQ,omQ⟩,(Nat.lt_succ_self _),hM⟩ ?_
   clear hM
   rintro n35 S ⟨p35,rfl,hfa35,hm35,hM⟩
   replace hM:=aG hM (by omega) hf35;obtain ⟨ag35,hag35,hM⟩:=hM
   replace hfa35:=nzQ hfa35
   replace hm35:=nzQ hm35
   have ha35:al .i64 p35 1=p35+1:=aJ omQ omQ
   replace hF:=(And.intro ha35 hF)
   revert hM;revert hF
   refine slQ ?_
   refine cdQ (fun _ _ _=> ?_) (fun _ _ _=> ?_)
   ·intro hF hM
    replace hM:=aw hM;obtain ⟨x40,hx41,hM⟩:=hM
    have hcx40:=cmH hx41 (NL (gt a_.Queue p35) (gt b.Queue p35) (by (first|exact hp0 _ (bH (by omega))|exact hp1 _ (bH (by omega)))) (by (first|exact hp0 _ (bH (by omega))|exact hp1 _ (bH (by omega)))))
    refine aP hcx40 (an hF) (an hF) (fun hw42=> ?_)
    replace hw42:=nzQ hw42
    revert hM;revert hF
    refine slQ ?_
    refine az fun _ _ _=> ?_
    intro hF hM
    refine aC (n35 - 1) _ (by omega) sbQ sbQ ⟨(p35+1),rfl,⟨omQ,omQ⟩,omQ,aB hM hag35⟩
   ·intro hF hM
    replace hM:=aF hM;obtain ⟨f47,d47,hf47,hd47,hM⟩:=hM
    refine aL (fun n S=> ∃p:Int,S=(⟨[(2,.ptr 0 0),(3,.ptr 1 0),(7,.int .i64 p)],[(0,.var 40 true ((bJ a_))),(1,.var 40 true (.agg (.int .u8 (gt b.Name 0):: .int .u8 (gt b.Name 1):: .int .u8 (gt b.Name 2):: .int .u8 (gt b.Name 3):: .int .u8 (gt b.Name 4):: .int .u8 (gt b.Name 5):: .int .u8 (gt b.Name 6):: .int .u8 (gt b.Name 7):: .int .u8 (gt b.Name 8):: .int .u8 (gt b.Name 9):: .int .u8 (gt b.Name 10):: .int .u8 (gt b.Name 11):: .int .u8 (gt b.Name 12):: .int .u8 (gt b.Name 13):: .int .u8 (gt b.Name 14):: .int .u8 (gt b.Name 15):: .int .u8 (gt b.Name 16):: .int .u8 (gt b.Name 17):: .int .u8 (gt b.Name 18):: .int .u8 (gt b.Name 19):: .int .u8 (gt b.Name 20):: .int .u8 (gt b.Name 21):: .int .u8 (gt b.Name 22):: .int .u8 (gt b.Name 23):: .int .u8 (gt b.Name 24):: .int .u8 (gt b.Name 25):: .int .u8 (gt b.Name 26):: .int .u8 (gt b.Name 27):: .int .u8 (gt b.Name 28):: .int .u8 (gt b.Name 29):: .int .u8 (gt b.Name 30):: .int .u8 (gt b.Name 31):: .sl none 3 true (b.Policy.Rules.map ct):: .sl none 35 true (b.Open.map aZ):: .int .i64 b.Next:: .sl none 4 true (b.Queue.map bw):: .sl none 35 true (b.Paid.map aZ):: .int .i64 b.Total:: .sl none 1 false (b.Blocked.map (V.int .i64)):: .int .i64 b.Now::[])))],2⟩:St)∧((0≤p)∧(p≤(a_.Blocked.length:Int)))∧((a_.Blocked.length:Int) - p).toNat<n∧ae n f47 d47 p=r) (((a_.Blocked.length:Int) - 0).toNat+1) _ sbQ sbQ ⟨0,rfl,⟨omQ,omQ⟩,(Nat.lt_succ_self _),hM⟩ ?_
    clear hM
    rintro n47 S ⟨p47,rfl,hfa47,hm47,hM⟩
    replace hM:=aG hM (by omega) hf47;obtain ⟨ag47,hag47,hM⟩:=hM
    replace hfa47:=nzQ hfa47
    replace hm47:=nzQ hm47
    have ha47:al .i64 p47 1=p47+1:=aJ omQ omQ
    replace hF:=(And.intro ha47 hF)
    revert hM;revert hF
    refine slQ ?_
    refine aq fun _ _ _=> ?_
    refine az fun _ _ _=> ?_
    intro hF hM
    refine aC (n47 - 1) _ (by omega) sbQ sbQ ⟨(p47+1),rfl,⟨omQ,omQ⟩,omQ,aB hM hag47⟩
 ·have kh1:(!(eJ (a_.Name) (b.Name)))=true:=h1
  rw [if_pos kh1] at hM
  replace hF:=(And.intro h1 hF)
  revert hM;revert hF
  refine slQ ?_
  intro hF hM
  have nh1:=nzQ kh1
  try have hr63:=mpQ nh1
  exact auQ
set_option maxHeartbeats 2000000 in
set_option maxRecDepth 100000 in
theorem NN (m:aD) (hp0:okQ m.Queue):CM En (qJ m) 9 [(bJ m)] (fun y=> .bool y) (fun _=> []):=by
 refine enQ noJ Tryz.func9 Tryz.ntmps9 (qJ.eq_1 ..) fun r hw=> ?_
 intro hF hM
 replace hM:=aw hM;obtain ⟨x1,hx2,hM⟩:=hM
 have hcx1:=cmH hx2 (NM m bG (by (first|exact hp0|exact uI)) (by (first|exact hp0|exact uI)))
 refine aP hcx1 clQ clQ (fun hw3=> ?_)
 replace hw3:=nzQ hw3
 exact auP
end Go.Proofs.YteibkofekpejgaaGreatDoor
namespace Go.Proofs.YteibkofekpejgaaGreatDoor
open Go.RowKit
theorem NO (r:bW):pU r=mn r:=by
 unfold pU mn
 by_cases h1:r.Kind=1<;>by_cases h2:r.Kind=2<;>by_cases h3:r.Kind=3<;>by_cases h4:r.Kind=4<;>by_cases h5:r.Kind=5<;>simp [aa,nc,h1,h2,h3,h4,h5,eV,jy]
theorem NP (l:List bW):pV l=l.any nB:=by
 unfold pV tE
 exact iv (fun ag p=>rfl)
theorem NQ (p:dp):kn p=iE p:=by
 unfold kn iE
 by_cases h:p.Rules.length≤20
 ·have h1:decide ((p.Rules.length:Int)≤20)=true:=decide_eq_true (by omega)
  have h2:decide ((p.Rules.length:Int)>20)=false:=decide_eq_false (by omega)
  rw [h1,h2,if_pos rfl,if_neg (by decide)]
  simp only [aa,eh]
  rw [Kn (c:=mn) (fun ag p=>rfl)]
  rw [NP]
  have e:nB=fun x=> !mn x:=funext fun x=>by simp [nB,aa,NO]
  rw [e]
  simp [List.all_eq_not_any_not]
 ·have h1:decide ((p.Rules.length:Int)≤20)=false:=decide_eq_false (by omega)
  have h2:decide ((p.Rules.length:Int)>20)=true:=decide_eq_true (by omega)
  rw [h1,h2,if_pos rfl,if_neg (by decide)]
theorem NR (v:aN):lZ v=iF v:=by
 unfold lZ iF mp
 simp only [aa]
 by_cases a1:v.Amount≥1<;>by_cases a2:v.Amount≤1099511627776<;>by_cases a3:v.Time≥0<;>by_cases a4:v.Time≤1099511627776<;>by_cases a5:v.Number≥0<;>simp [a1,a2,a3,a4,a5]
theorem Er (m:aD) (v:aN):iy m v=cG m v:=by
 unfold iy cG pW
 simp only [aa,NR]
 cases iF v<;>simp
theorem zJ {v:aN}:iF v=true↔1≤v.Amount∧v.Amount≤1099511627776∧0≤v.Time∧v.Time≤1099511627776∧0≤v.Number∧v.Number≤1073741824:=by
 unfold iF mp
 simp only [aa]
 by_cases a1:v.Amount≥1<;>by_cases a2:v.Amount≤1099511627776<;>by_cases a3:v.Time≥0<;>by_cases a4:v.Time≤1099511627776<;>by_cases a5:v.Number≥0<;>simp [a1,a2,a3,a4,a5]<;>omega
theorem Es (a:List Int):eJ a a=true:=by simp [eJ]
theorem zK {m:aD} {v:aN}:cG m v=true↔iF v=true∧eJ v.Payee m.Name=true∧v.Time≤m.Now∧v.Number<m.Next:=by
 unfold cG
 simp only [aa]
 cases iF v<;>cases eJ v.Payee m.Name<;>by_cases a:v.Time≤m.Now<;>simp [a]
def asc (l:List Int):Prop:= ∀j:Int,1≤j→j<l.length→gt l (j - 1)<gt l j
theorem uP {l:List Int}:ko l=true↔asc l:=by
 unfold ko asc
 rw [lX (n:=(l.length:Int)) (C:=fun p=> !decide (gt l p≤gt l (p - 1))) (X:=true) (fun ag p=>by cases h:decide (gt l p≤gt l (p - 1))<;>simp [h]) _ _ (by omega)]
 simp only [Bool.not_eq_true',decide_eq_false_iff_not,Int.not_le,and_true]
theorem Et (l:List Int) (v:Int):gd l v=l.any fun y=>v==y:=by
 unfold gd tG
 exact iv (fun ag p=>rfl)
theorem zL (l:List aN) (n:Int):decide (eW l n≥0)=l.any fun v=>v.Number==n:=by
 unfold eW
 exact iv (fun ag p=>rfl)
theorem sl0 {α:Type} {l:List α} {k:Nat}:sl l 0 (k:Int)=l.take k:=by simp [sl]
def fin (m:aD) (t:Int):Bool:=if (t==m.Total)=true then decide (t≤1099511627776) else false
def zM (m:aD) (nums:List Int):Bool:=
 ae (((m.Paid.length:Int) - 0).toNat+1) (fun (ag31:(Int×Int×List Int)→Bool) (p31:Int×Int×List Int)=>(if (decide (p31.2.1<(m.Paid.length:Int))) then (if (!(iy m (gt m.Paid p31.2.1))) then false else (if ((gt m.Queue p31.2.1).Number !=(gt m.Paid p31.2.1).Number) then false else (if (gd (p31.2.2) ((gt m.Paid p31.2.1).Number)) then false else (ag31 ((al .i64 p31.1 (gt m.Paid p31.2.1).Amount),(p31.2.1+1),(p31.2.2++([(gt m.Paid p31.2.1).Number]:List Int))))))) else fin m p31.1)) (fun _=>default) (0,0,nums)
def eY (m:aD) (E:Int→Bool):Bool:=
 ae (((m.Paid.length:Int) - 0).toNat+1) (fun (ag23:(Int×Int)→Bool) (p23:Int×Int)=>(if (decide (p23.2<(m.Paid.length:Int))) then (if (!(cG m (gt m.Paid p23.2))) then false else (if ((gt m.Queue p23.2).Number !=(gt m.Paid p23.2).Number) then false else (if (decide ((eW (m.Open) ((gt m.Paid p23.2).Number))≥0)) then false else (if (decide ((eW (sl m.Paid 0 p23.2) ((gt m.Paid p23.2).Number))≥0)) then false else (ag23 ((al .i64 p23.1 (gt m.Paid p23.2).Amount),(p23.2+1))))))) else E p23.1)) (fun _=>default) (0,0)
theorem NS (m:aD):zM m (m.Open.map (·.Number))=eY m (fin m):=by
 unfold zM eY
 refine Km (Rl:=fun p q=>p.1=q.1∧ ∃k:Nat,p.2.1=(k:Int)∧q.2=(k:Int)∧k≤m.Paid.length∧p.2.2=m.Open.map (·.Number)++(m.Paid.take k).map (·.Number)) (ma:=fun p=>((m.Paid.length:Int) - p.2.1).toNat) ?_ _ _ _ _ ⟨rfl,0,rfl,rfl,Nat.zero_le _,by simp⟩ (by show ((m.Paid.length:Int) - 0).toNat<_;omega) (by show ((m.Paid.length:Int) - 0).toNat<_;omega)
 rintro ag ag' ⟨t,i,nums⟩ ⟨t',i'⟩ ⟨h1,k,h2,h3,h4,h5⟩ hag
 simp only at h1 h2 h3 h5⊢
 subst h1 h2 h3 h5
 by_cases hk:k<m.Paid.length
 ·rw [if_pos (decide_eq_true (by omega)),if_pos (decide_eq_true (by omega)),Er]
  cases cG m (gt m.Paid (k:Int))
  ·rfl
  ·simp only [Bool.not_true,Bool.false_eq_true,if_false]
   cases (gt m.Queue (k:Int)).Number !=(gt m.Paid (k:Int)).Number
   ·simp only [Bool.false_eq_true,if_false]
    rw [Et,zL,zL,sl0,List.any_append,List.any_map,List.any_map]
    have e: ∀l:List aN,l.any ((fun y=>(gt m.Paid (k:Int)).Number==y)∘fun x=>x.Number)=l.any fun v=>v.Number==(gt m.Paid (k:Int)).Number:=fun l=>by
     exact congrArg (fun f=>l.any f) (funext fun v=>Bool.eq_iff_iff.2 (by simp only [Function.comp_apply,beq_iff_eq];exact eq_comm))
    rw [e,e]
    cases m.Open.any fun v=>v.Number==(gt m.Paid (k:Int)).Number
    ·cases (m.Paid.take k).any fun v=>v.Number==(gt m.Paid (k:Int)).Number
     ·simp only [Bool.or_false,Bool.false_eq_true,if_false]
      refine hag _ _ ⟨rfl,k+1,by show (k:Int)+1=_;omega,by show (k:Int)+1=_;omega,hk,?_⟩ (by show ((m.Paid.length:Int) - ((k:Int)+1)).toNat<((m.Paid.length:Int) - (k:Int)).toNat;omega)
      show _++[(gt m.Paid (k:Int)).Number]=_
      rw [List.take_succ_eq_append_getElem hk,CW hk,List.map_append,List.append_assoc]
      rfl
     ·rfl
    ·rfl
   ·rfl
 ·rw [if_neg (by simp;omega),if_neg (by simp;omega)]
def kL (m:aD):Prop:= ∀j:Int,0≤j→j<m.Blocked.length→0<gt m.Blocked j∧(0<j→gt m.Blocked (j - 1)<gt m.Blocked j)
theorem ow {m:aD}:kL m↔asc m.Blocked∧(0<m.Blocked.length→0<gt m.Blocked 0):=by
 refine ⟨fun h=>⟨fun j h1 h2=>(h j (by omega) h2).2 (by omega),fun h0=>(h 0 (Int.le_refl _) (by omega)).1⟩,fun ⟨h1,h2⟩=> ?_⟩
 have key: ∀k:Nat,k<m.Blocked.length→0<gt m.Blocked (k:Int):=by
  intro k
  induction k with
  | zero=>intro h;exact h2 h
  | succ k ih=>
   intro h
   have h3:=ih (by omega)
   have h4:=h1 ((k+1:Nat):Int) (by omega) (by omega)
   rw [show ((k+1:Nat):Int) - 1=k by omega] at h4
   omega
 intro j h0 hj
 obtain ⟨k,rfl⟩: ∃k:Nat,j=k:=⟨j.toNat,by omega⟩
 exact ⟨key k (by omega),fun hp=>h1 _ (by omega) hj⟩
def ox (m:aD) (t:Int):Bool:=
 ae (((m.Blocked.length:Int) - 0).toNat+1) (fun (ag38:Int→Bool) (p38:Int)=>(if (decide (p38<(m.Blocked.length:Int))) then (if (decide ((gt m.Blocked p38)≤0)) then false else (if (decide (p38>0)) then (if (decide ((gt m.Blocked p38)≤(gt m.Blocked (p38 - 1)))) then false else (ag38 (p38+1))) else (ag38 (p38+1)))) else fin m t)) (fun _=>default) 0
theorem Eu {m:aD} {t:Int}:ox m t=true↔kL m∧fin m t=true:=by
 unfold ox kL
 rw [lX (n:=(m.Blocked.length:Int)) (C:=fun p=>decide (0<gt m.Blocked p∧(0<p→gt m.Blocked (p - 1)<gt m.Blocked p))) (X:=fin m t) (fun ag p=> ?_) _ _ (by omega)]
 ·simp only [decide_eq_true_eq]
 ·by_cases h0:p<(m.Blocked.length:Int)
  ·rw [if_pos (decide_eq_true h0),if_pos (decide_eq_true h0)]
   by_cases h1:gt m.Blocked p≤0<;>by_cases h2:p>0<;>by_cases h3:gt m.Blocked p≤gt m.Blocked (p - 1)<;>simp [h1,h2,h3]<;>omega
  ·rw [if_neg (by simpa using h0),if_neg (by simpa using h0)]
theorem NT {m:aD} {E:Int→Bool} (h: ∀t,E t=false):eY m E=false:=by
 unfold eY
 refine fp (P:=fun q:Int×Int=>True) (meas:=fun q=>((m.Paid.length:Int) - q.2).toNat) (Q:=fun r=>r=false) (fun ag q _ hag=> ?_) _ _ trivial (by show ((m.Paid.length:Int) - 0).toNat<_;omega)
 by_cases hk:q.2<(m.Paid.length:Int)
 ·rw [if_pos (decide_eq_true hk)]
  split
  ·rfl
  ·split
   ·rfl
   ·split
    ·rfl
    ·split
     ·rfl
     ·exact hag _ trivial (by show ((m.Paid.length:Int) - (q.2+1)).toNat<_;omega)
 ·rw [if_neg (by simpa using hk)];exact h _
structure zO (m:aD):Prop where
 pol:iE m.Policy=true
 now:0≤m.Now∧m.Now≤1099511627776
 next:0≤m.Next∧m.Next≤1073741824
 len:m.Open.length≤50∧m.Queue.length≤50∧m.Paid.length=m.Queue.length∧m.Blocked.length≤100
 blk:kL m
 inv: ∀j:Int,0≤j→j<m.Open.length→cG m (gt m.Open j)=true
 ord:asc (m.Open.map (·.Number))
 paid:eY m (fin m)=true
theorem Ev {m:aD}:dB m=true↔zO m:=by
 have main: ∀b:Bool,(b=true↔(∀j:Int,0≤j→j<m.Open.length→cG m (gt m.Open j)=true)∧asc (m.Open.map (·.Number))∧eY m (fin m)=true)→iE m.Policy=true→(0≤m.Now∧m.Now≤1099511627776)→(0≤m.Next∧m.Next≤1073741824)→(m.Open.length≤50∧m.Queue.length≤50∧m.Paid.length=m.Queue.length∧m.Blocked.length≤100)→kL m→(b=true↔zO m):=
  fun b hb h1 h2 h3 h4 h5=>⟨fun h=>⟨h1,h2,h3,h4,h5,(hb.1 h).1,(hb.1 h).2.1,(hb.1 h).2.2⟩,fun h=>hb.2 ⟨h.inv,h.ord,h.paid⟩⟩
 -- the loop over the open invoices
 have loop: ∀(F:(Int×List Int→Bool)→Int×List Int→Bool) d,(∀ag p,F ag p=if decide (p.1<(m.Open.length:Int))=true then (if (!iy m (gt m.Open p.1))=true then false else ag (p.1+1,p.2++[(gt m.Open p.1).Number])) else (if (!ko p.2)=true then false else zM m p.2))→
   (ae (((m.Open.length:Int) - 0).toNat+1) F d (0,[])=true↔(∀j:Int,0≤j→j<m.Open.length→cG m (gt m.Open j)=true)∧asc (m.Open.map (·.Number))∧eY m (fin m)=true):=by
  intro F d hF
  have key: ∀(fuel k:Nat),k≤m.Open.length→m.Open.length - k<fuel→(ae fuel F d ((k:Int),(m.Open.take k).map (·.Number))=true↔(∀j:Int,(k:Int)≤j→j<m.Open.length→cG m (gt m.Open j)=true)∧asc (m.Open.map (·.Number))∧eY m (fin m)=true):=by
   intro fuel
   induction fuel with
   | zero=>intro k _ h;omega
   | succ n ih=>
    intro k hk h
    rw [ae,hF]
    by_cases hlt:k<m.Open.length
    ·rw [if_pos (decide_eq_true (show (k:Int)<_ by omega)),Er]
     have e:(m.Open.take k).map (·.Number)++[(gt m.Open (k:Int)).Number]=(m.Open.take (k+1)).map (·.Number):=by
      rw [List.take_succ_eq_append_getElem hlt,CW hlt,List.map_append];rfl
     cases hi:cG m (gt m.Open (k:Int))
     ·refine ⟨fun h=>Bool.noConfusion h,fun h=> ?_⟩
      have:=h.1 (k:Int) (Int.le_refl _) (by omega)
      rw [hi] at this;cases this
     ·simp only [Bool.not_true,Bool.false_eq_true,if_false]
      rw [e,show (k:Int)+1=((k+1:Nat):Int) by omega,ih (k+1) hlt (by omega)]
      refine and_congr_left fun _=>⟨fun h j h1 h2=> ?_,fun h j h1 h2=>h j (by omega) h2⟩
      by_cases ej:j=k
      ·subst ej;exact hi
      ·exact h j (by omega) h2
    ·obtain rfl:k=m.Open.length:=by omega
     rw [if_neg (by simp),List.take_length,eh]
     by_cases ha:asc (m.Open.map (·.Number))
     ·rw [if_pos (uP.2 ha),NS]
      exact ⟨fun h=>⟨fun j h1 h2=>by omega,ha,h⟩,fun h=>h.2.2⟩
     ·rw [if_neg (fun h=>ha (uP.1 h))]
      exact ⟨fun h=>Bool.noConfusion h,fun h=>absurd h.2.1 ha⟩
  exact key _ 0 (Nat.zero_le _) (by omega)
 unfold dB
 simp only [aa]
 rw [NQ]
 cases hp:iE m.Policy
 ·exact ⟨fun h=>Bool.noConfusion h,fun h=>by have:=h.pol;rw [hp] at this;cases this⟩
 simp only [Bool.not_true,Bool.false_eq_true,if_false]
 by_cases c1:m.Now<0
 ·rw [if_pos (decide_eq_true c1)];exact ⟨fun h=>Bool.noConfusion h,fun h=>by have:=h.now;omega⟩
 by_cases c2:m.Now>1099511627776
 ·rw [if_neg (by simpa using c1),if_pos (decide_eq_true c2)];exact ⟨fun h=>Bool.noConfusion h,fun h=>by have:=h.now;omega⟩
 by_cases c3:m.Next<0
 ·rw [if_neg (by simpa using c1),if_neg (by simpa using c2),if_pos (decide_eq_true c3)];exact ⟨fun h=>Bool.noConfusion h,fun h=>by have:=h.next;omega⟩
 by_cases c4:m.Next>1073741824
 ·rw [if_neg (by simpa using c1),if_neg (by simpa using c2),if_neg (by simpa using c3),if_pos (decide_eq_true c4)];exact ⟨fun h=>Bool.noConfusion h,fun h=>by have:=h.next;omega⟩
 rw [if_neg (by simpa using c1),if_neg (by simpa using c2),if_neg (by simpa using c3),if_neg (by simpa using c4)]
 by_cases c5:(m.Open.length:Int)>50
 ·rw [if_pos (decide_eq_true c5)];exact ⟨fun h=>Bool.noConfusion h,fun h=>by have:=h.len;omega⟩
 by_cases c6:(m.Queue.length:Int)>50
 ·rw [if_neg (by simpa using c5),if_pos (decide_eq_true c6)];exact ⟨fun h=>Bool.noConfusion h,fun h=>by have:=h.len;omega⟩
 rw [if_neg (by simpa using c5),if_neg (by simpa using c6)]
 by_cases c7:m.Paid.length=m.Queue.length
 case neg=>rw [if_pos (by simp only [bne_iff_ne,ne_eq];omega)];exact ⟨fun h=>Bool.noConfusion h,fun h=>absurd h.len.2.2.1 c7⟩
 rw [if_neg (by simp [c7])]
 by_cases c8:(m.Blocked.length:Int)>100
 ·rw [if_pos (decide_eq_true c8)];exact ⟨fun h=>Bool.noConfusion h,fun h=>by have:=h.len;omega⟩
 rw [if_neg (by simpa using c8)]
 by_cases c9:asc m.Blocked
 case neg=>rw [eh,if_neg (fun h=>c9 (uP.1 h))];exact ⟨fun h=>Bool.noConfusion h,fun h=>absurd (ow.1 h.blk).1 c9⟩
 rw [eh,if_pos (uP.2 c9)]
 by_cases c10:(m.Blocked.length:Int)>0
 ·rw [if_pos (decide_eq_true c10)]
  by_cases c11:gt m.Blocked 0≤0
  ·rw [if_pos (decide_eq_true c11)];exact ⟨fun h=>Bool.noConfusion h,fun h=>by have:=(ow.1 h.blk).2 (by omega);omega⟩
  ·rw [if_neg (by simpa using c11)]
   exact main _ (loop _ _ fun ag p=>rfl) hp (by omega) (by omega) (by omega) (ow.2 ⟨c9,fun _=>by omega⟩)
 ·rw [if_neg (by simpa using c10)]
  exact main _ (loop _ _ fun ag p=>rfl) hp (by omega) (by omega) (by omega) (ow.2 ⟨c9,fun h=>by omega⟩)
theorem NU {m:aD}:mq m=true↔zO m:=by
 have hE:eY m (ox m)=true↔kL m∧eY m (fin m)=true:=by
  by_cases hb:kL m
  ·have:ox m=fin m:=funext fun t=>Bool.eq_iff_iff.2 (Eu.trans ⟨fun h=>h.2,fun h=>⟨hb,h⟩⟩)
   rw [this];exact ⟨fun h=>⟨hb,h⟩,fun h=>h.2⟩
  ·rw [NT fun t=>Bool.eq_false_iff.2 fun h=>hb (Eu.1 h).1]
   exact ⟨fun h=>Bool.noConfusion h,fun h=>absurd h.1 hb⟩
 have loop: ∀(F:(Int→Bool)→Int→Bool) d,(∀ag p,F ag p=if decide (p<(m.Open.length:Int))=true then (if (!cG m (gt m.Open p))=true then false else (if decide (p>0)=true then (if decide ((gt m.Open p).Number≤(gt m.Open (p - 1)).Number)=true then false else ag (p+1)) else ag (p+1))) else eY m (ox m))→
   (ae (((m.Open.length:Int) - 0).toNat+1) F d 0=true↔((∀j:Int,0≤j→j<m.Open.length→cG m (gt m.Open j)=true)∧asc (m.Open.map (·.Number)))∧kL m∧eY m (fin m)=true):=by
  intro F d hF
  rw [lX (n:=(m.Open.length:Int)) (C:=fun p=>cG m (gt m.Open p)&&decide (0<p→(gt m.Open (p - 1)).Number<(gt m.Open p).Number)) (X:=eY m (ox m)) (fun ag p=> ?_) _ _ (by omega),hE]
  ·refine and_congr_left fun _=>⟨fun h=>⟨fun j h1 h2=> ?_,fun j h1 h2=> ?_⟩,fun h j h1 h2=> ?_⟩
   ·have:=h j h1 h2;simp only [Bool.and_eq_true] at this;exact this.1
   ·rw [List.length_map] at h2
    have:=h j (by omega) h2;simp only [Bool.and_eq_true,decide_eq_true_eq] at this
    rw [tv (by omega),tv (by omega)]
    exact this.2 (by omega)
   ·simp only [Bool.and_eq_true,decide_eq_true_eq]
    refine ⟨h.1 j h1 h2,fun hp=> ?_⟩
    have:=h.2 j (by omega) (by rw [List.length_map];exact h2)
    rw [tv (by omega),tv (by omega)] at this
    exact this
  ·rw [hF]
   by_cases h0:p<(m.Open.length:Int)
   ·rw [if_pos (decide_eq_true h0),if_pos (decide_eq_true h0)]
    cases cG m (gt m.Open p)<;>by_cases h2:p>0<;>by_cases h3:(gt m.Open p).Number≤(gt m.Open (p - 1)).Number<;>simp [h2,h3]<;>omega
   ·rw [if_neg (by simpa using h0),if_neg (by simpa using h0)]
 unfold mq
 simp only [aa]
 cases hp:iE m.Policy
 ·exact ⟨fun h=>Bool.noConfusion h,fun h=>by have:=h.pol;rw [hp] at this;cases this⟩
 simp only [Bool.not_true,Bool.false_eq_true,if_false]
 by_cases c1:m.Now<0
 ·rw [if_pos (decide_eq_true c1)];exact ⟨fun h=>Bool.noConfusion h,fun h=>by have:=h.now;omega⟩
 by_cases c2:m.Now>1099511627776
 ·rw [if_neg (by simpa using c1),if_pos (decide_eq_true c2)];exact ⟨fun h=>Bool.noConfusion h,fun h=>by have:=h.now;omega⟩
 by_cases c3:m.Next<0
 ·rw [if_neg (by simpa using c1),if_neg (by simpa using c2),if_pos (decide_eq_true c3)];exact ⟨fun h=>Bool.noConfusion h,fun h=>by have:=h.next;omega⟩
 by_cases c4:m.Next>1073741824
 ·rw [if_neg (by simpa using c1),if_neg (by simpa using c2),if_neg (by simpa using c3),if_pos (decide_eq_true c4)];exact ⟨fun h=>Bool.noConfusion h,fun h=>by have:=h.next;omega⟩
 rw [if_neg (by simpa using c1),if_neg (by simpa using c2),if_neg (by simpa using c3),if_neg (by simpa using c4)]
 by_cases c5:(m.Open.length:Int)>50
 ·rw [if_pos (decide_eq_true c5)];exact ⟨fun h=>Bool.noConfusion h,fun h=>by have:=h.len;omega⟩
 by_cases c6:(m.Queue.length:Int)>50
 ·rw [if_neg (by simpa using c5),if_pos (decide_eq_true c6)];exact ⟨fun h=>Bool.noConfusion h,fun h=>by have:=h.len;omega⟩
 rw [if_neg (by simpa using c5),if_neg (by simpa using c6)]
 by_cases c7:m.Paid.length=m.Queue.length
 case neg=>rw [if_pos (by simp only [bne_iff_ne,ne_eq];omega)];exact ⟨fun h=>Bool.noConfusion h,fun h=>absurd h.len.2.2.1 c7⟩
 rw [if_neg (by simp [c7])]
 by_cases c8:(m.Blocked.length:Int)>100
 ·rw [if_pos (decide_eq_true c8)];exact ⟨fun h=>Bool.noConfusion h,fun h=>by have:=h.len;omega⟩
 rw [if_neg (by simpa using c8)]
 refine (loop _ _ fun ag p=>rfl).trans ?_
 exact ⟨fun h=>⟨hp,by omega,by omega,by omega,h.2.1,h.1.1,h.1.2,h.2.2⟩,fun h=>⟨⟨h.inv,h.ord⟩,h.blk,h.paid⟩⟩
theorem NV (m:aD):dB m=mq m:=Bool.eq_iff_iff.2 (Ev.trans NU.symm)
end Go.Proofs.YteibkofekpejgaaGreatDoor
namespace Go.Proofs.YteibkofekpejgaaGreatDoor
open Go.RowKit
theorem NW (v:aN):kc v v=true:=by simp [kc]
theorem NX (a:bu):nw a a=true:=by simp [nw]
theorem NY (a:fG):ny a a=true:=by simp [ny]
theorem NZ (a:eH):jq a a=true:=by simp [jq]
theorem N0 (a:dO):lV a a=true:=by simp [lV]
theorem N3 (a:bW):lW a a=true:=by simp [lW]
theorem N4 (a:eI):qH a a=true:=by
 unfold qH
 simp only [bne_self_eq_false,Bool.false_eq_true,if_false,eh]
 exact gO (C:=fun p=>eJ (gt a.L p) (gt a.L p)) (fun ag p=>rfl) (fun p=>Es _) _ _ (by omega)
theorem Ew (a:au):kF a a=true:=by
 unfold kF
 simp only [aa,NX,NY,NZ,N4,bne_self_eq_false,Bool.not_true,Bool.false_eq_true,if_false,eh]
 exact gO (C:=fun p=>lV (gt a.Leaves p) (gt a.Leaves p)) (fun ag p=>rfl) (fun p=>N0 _) _ _ (by omega)
theorem N5 (a:bh):og a a=true:=by
 unfold og
 simp only [aa,bne_self_eq_false,Bool.false_eq_true,if_false,eh]
 exact gO (C:=fun p=>kF (gt (gQ a) p) (gt (gQ a) p)) (fun ag p=>rfl) (fun p=>Ew _) _ _ (by omega)
theorem N6 (a:List Int):oh a a=true:=by
 unfold oh
 simp only [bne_self_eq_false,Bool.false_eq_true,if_false]
 exact gO (C:=fun _=>true) (fun ag p=>rfl) (fun p=>rfl) _ _ (by omega)
theorem N7 (a:bZ):oi a a=true:=by
 unfold oi uw
 simp [aa,N6]
theorem N8 (a:aK):ol a a=true:=by
 unfold ol
 simp only [aa,bne_self_eq_false,Bool.false_eq_true,if_false,eh]
 rw [gO (C:=fun p=>kF (gt a.Spends p) (gt a.Spends p)) (fun ag p=>rfl) (fun p=>Ew _) _ _ (by omega)]
 rw [gO (C:=fun p=>og (gt a.Chains p) (gt a.Chains p)) (fun ag p=>rfl) (fun p=>N5 _) _ _ (by omega)]
 exact gO (C:=fun p=>oi (gt a.Escrow p) (gt a.Escrow p)) (fun ag p=>rfl) (fun p=>N7 _) _ _ (by omega)
theorem N9 (a:List aN):od a a=true:=by
 unfold od
 simp only [bne_self_eq_false,Bool.false_eq_true,if_false,eh]
 exact gO (C:=fun p=>kc (gt a p) (gt a p)) (fun ag p=>rfl) (fun p=>NW _) _ _ (by omega)
theorem N_ (a:aD):qI a a=true:=by
 unfold qI
 simp only [aa,Es,N9,bne_self_eq_false,Bool.not_true,Bool.false_eq_true,if_false,eh]
 rw [gO (C:=fun p=>lW (gt a.Policy.Rules p) (gt a.Policy.Rules p)) (fun ag p=>rfl) (fun p=>N3 _) _ _ (by omega)]
 rw [gO (C:=fun p=>ol (gt a.Queue p) (gt a.Queue p)) (fun ag p=>rfl) (fun p=>N8 _) _ _ (by omega)]
 exact gO (C:=fun _=>true) (fun ag p=>rfl) (fun p=>rfl) _ _ (by omega)
theorem Oa:qJ bG=true:=by
 unfold qJ
 exact N_ _
end Go.Proofs.YteibkofekpejgaaGreatDoor
namespace Go.Proofs.YteibkofekpejgaaGreatDoor
open Go.RowKit
theorem cu {α:Type} [Inhabited α] {l:List α} {j:Nat} (h:j<l.length):gt l (j:Int)=l[j]:=by
 simp [gt,List.getD_eq_getElem?_getD,h]
theorem uQ {l:List Int}:asc l↔l.Pairwise (· < ·):=by
 rw [List.pairwise_iff_getElem]
 constructor
 ·intro h i j hi hj hij
  obtain ⟨d,rfl⟩: ∃d,j=i+1+d:=⟨j - (i+1),by omega⟩
  induction d with
  | zero=>
   have:=h ((i+1:Nat):Int) (by omega) (by omega)
   rw [show ((i+1:Nat):Int) - 1=(i:Int) by omega,cu hi,cu hj] at this
   exact this
  | succ d ih=>
   have h1:=ih (by omega) (by omega)
   have:=h ((i+1+(d+1):Nat):Int) (by omega) (by omega)
   rw [show ((i+1+(d+1):Nat):Int) - 1=((i+1+d:Nat):Int) by omega,cu (by omega),cu hj] at this
   omega
 ·intro h j h1 h2
  obtain ⟨k,rfl⟩: ∃k:Nat,j=((k+1:Nat):Int):=⟨(j - 1).toNat,by omega⟩
  rw [show ((k+1:Nat):Int) - 1=(k:Int) by omega,cu (by omega),cu (by omega)]
  exact h k (k+1) (by omega) (by omega) (by omega)
def kM (m:aD) (j:Nat):Prop:=cG m (gt m.Paid (j:Int))=true∧(gt m.Queue (j:Int)).Number=(gt m.Paid (j:Int)).Number∧(∀v∈m.Open,v.Number≠(gt m.Paid (j:Int)).Number)∧(∀v∈m.Paid.take j,v.Number≠(gt m.Paid (j:Int)).Number)
def dS (l:List aN):Int:=(l.map (·.Amount)).sum
theorem uR {l:List aN} {n:Int}:decide (eW l n≥0)=false↔ ∀v∈l,v.Number≠n:=by
 rw [zL,List.any_eq_false]
 exact ⟨fun h v hv=>by have:=h v hv;simpa using this,fun h v hv=>by have:=h v hv;simpa using this⟩
theorem Ob {m:aD} (hn:m.Paid.length≤50) {F:(Int×Int→Bool)→Int×Int→Bool} {d:Int×Int→Bool}
  (hF: ∀ag p,F ag p=(if (decide (p.2<(m.Paid.length:Int))) then (if (!(cG m (gt m.Paid p.2))) then false else (if ((gt m.Queue p.2).Number !=(gt m.Paid p.2).Number) then false else (if (decide ((eW (m.Open) ((gt m.Paid p.2).Number))≥0)) then false else (if (decide ((eW (sl m.Paid 0 p.2) ((gt m.Paid p.2).Number))≥0)) then false else (ag ((al .i64 p.1 (gt m.Paid p.2).Amount),(p.2+1))))))) else fin m p.1)):
  ∀(fuel i:Nat) (t:Int),i≤m.Paid.length→m.Paid.length - i<fuel→0≤t→t≤1099511627776*i→(ae fuel F d (t,(i:Int))=true↔(∀j,i≤j→j<m.Paid.length→kM m j)∧fin m (t+dS (m.Paid.drop i))=true):=by
 intro fuel
 induction fuel with
 | zero=>intro i t h1 h2;omega
 | succ fuel ih=>
  intro i t h1 h2 t0 t1
  show F (ae fuel F d) (t,(i:Int))=true↔_
  rw [hF]
  simp only
  by_cases hi:i<m.Paid.length
  ·rw [if_pos (decide_eq_true (by omega:(i:Int)<(m.Paid.length:Int)))]
   have hsplit:(∀j,i≤j→j<m.Paid.length→kM m j)↔kM m i∧ ∀j,i+1≤j→j<m.Paid.length→kM m j:=
    ⟨fun h=>⟨h i (Nat.le_refl _) hi,fun j h1 h2=>h j (by omega) h2⟩,fun h j h1 h2=>by
     rcases Nat.eq_or_lt_of_le h1 with e|e
     ·exact e▸h.1
     ·exact h.2 j e h2⟩
   rw [hsplit]
   have hdrop:dS (m.Paid.drop i)=(gt m.Paid (i:Int)).Amount+dS (m.Paid.drop (i+1)):=by
    unfold dS
    rw [cu hi,List.drop_eq_getElem_cons hi,List.map_cons,List.sum_cons]
   cases g1:cG m (gt m.Paid (i:Int)) with
   | false=>simp [kM,g1]
   | true=>
    have ha:=zJ.1 (zK.1 g1).1
    simp only [Bool.not_true,Bool.false_eq_true,if_false]
    by_cases g2:(gt m.Queue (i:Int)).Number=(gt m.Paid (i:Int)).Number
    ·rw [if_neg (by simp [g2])]
     cases g3:decide (eW m.Open (gt m.Paid (i:Int)).Number≥0) with
     | true=>
      rw [if_pos rfl]
      refine ⟨fun h=>Bool.noConfusion h,fun h=> ?_⟩
      have:=uR.2 h.1.1.2.2.1
      rw [g3] at this;exact Bool.noConfusion this
     | false=>
      rw [if_neg (by decide)]
      rw [sl0]
      cases g4:decide (eW (m.Paid.take i) (gt m.Paid (i:Int)).Number≥0) with
      | true=>
       rw [if_pos rfl]
       refine ⟨fun h=>Bool.noConfusion h,fun h=> ?_⟩
       have:=uR.2 h.1.1.2.2.2
       rw [g4] at this;exact Bool.noConfusion this
      | false=>
       rw [if_neg (by decide),jd (by omega) (by omega)]
       have:=ih (i+1) (t+(gt m.Paid (i:Int)).Amount) hi (by omega) (by omega) (by omega)
       rw [show ((i+1:Nat):Int)=(i:Int)+1 by omega] at this
       rw [this,hdrop,←Int.add_assoc]
       have hok:kM m i:=⟨g1,g2,uR.1 g3,uR.1 g4⟩
       exact ⟨fun h=>⟨⟨hok,h.1⟩,h.2⟩,fun h=>⟨h.1.2,h.2⟩⟩
    ·rw [if_pos (by simpa using g2)]
     exact ⟨fun h=>Bool.noConfusion h,fun h=>absurd h.1.1.2.1 g2⟩
  ·rw [if_neg (by simp;omega)]
   rw [List.drop_eq_nil_of_le (by omega)]
   simp only [dS,List.map_nil,List.sum_nil,Int.add_zero]
   exact ⟨fun h=>⟨fun j h1 h2=>absurd h2 (by omega),h⟩,fun h=>h.2⟩
structure VP (m:aD):Prop where
 pol:iE m.Policy=true
 now:0≤m.Now∧m.Now≤1099511627776
 next:0≤m.Next∧m.Next≤1073741824
 len:m.Open.length≤50∧m.Queue.length≤50∧m.Paid.length=m.Queue.length∧m.Blocked.length≤100
 asb:m.Blocked.Pairwise (· < ·)
 pos: ∀x∈m.Blocked,0<x
 inv: ∀v∈m.Open,cG m v=true
 ord:(m.Open.map (·.Number)).Pairwise (· < ·)
 pinv: ∀v∈m.Paid,cG m v=true
 pq:m.Queue.map (·.Number)=m.Paid.map (·.Number)
 dis: ∀v∈m.Open,∀u∈m.Paid,v.Number≠u.Number
 pnd:(m.Paid.map (·.Number)).Nodup
 tot:dS m.Paid=m.Total∧m.Total≤1099511627776
theorem Oc {m:aD} {t:Int}:fin m t=true↔t=m.Total∧t≤1099511627776:=by
 unfold fin
 by_cases h:t=m.Total<;>simp [h]
theorem Ex {m:aD} (hn:m.Paid.length≤50):eY m (fin m)=true↔(∀j,j<m.Paid.length→kM m j)∧dS m.Paid=m.Total∧m.Total≤1099511627776:=by
 unfold eY
 have:=Ob hn (F:=fun (ag23:(Int×Int)→Bool) (p23:Int×Int)=>(if (decide (p23.2<(m.Paid.length:Int))) then (if (!(cG m (gt m.Paid p23.2))) then false else (if ((gt m.Queue p23.2).Number !=(gt m.Paid p23.2).Number) then false else (if (decide ((eW (m.Open) ((gt m.Paid p23.2).Number))≥0)) then false else (if (decide ((eW (sl m.Paid 0 p23.2) ((gt m.Paid p23.2).Number))≥0)) then false else (ag23 ((al .i64 p23.1 (gt m.Paid p23.2).Amount),(p23.2+1))))))) else fin m p23.1)) (d:=fun _=>default) (fun ag p=>rfl) (((m.Paid.length:Int) - 0).toNat+1) 0 0 (by omega) (by omega) (by omega) (by omega)
 rw [show ((0:Nat):Int)=0 from rfl] at this
 rw [this,List.drop_zero,Int.zero_add,Oc]
 exact ⟨fun h=>⟨fun j hj=>h.1 j (Nat.zero_le _) hj,h.2.1,h.2.1▸h.2.2⟩,fun h=>⟨fun j _ hj=>h.1 j hj,h.2.1,h.2.1.symm▸h.2.2⟩⟩
theorem Ey {m:aD} (hl:m.Paid.length=m.Queue.length):(∀j,j<m.Paid.length→kM m j)↔(∀v∈m.Paid,cG m v=true)∧m.Queue.map (·.Number)=m.Paid.map (·.Number)∧(∀v∈m.Open,∀u∈m.Paid,v.Number≠u.Number)∧(m.Paid.map (·.Number)).Nodup:=by
 constructor
 ·intro h
  refine ⟨fun v hv=> ?_,?_,fun v hv u hu=> ?_,?_⟩
  ·obtain ⟨i,hi,rfl⟩:=List.getElem_of_mem hv
   have:=(h i hi).1
   rwa [cu hi] at this
  ·apply List.ext_getElem
   ·simp [hl]
   ·intro i h1 h2
    have hi:i<m.Paid.length:=by simpa using h2
    have:=(h i hi).2.1
    rw [cu hi,cu (by omega)] at this
    simpa using this
  ·obtain ⟨i,hi,rfl⟩:=List.getElem_of_mem hu
   have:=(h i hi).2.2.1 v hv
   rwa [cu hi] at this
  ·unfold List.Nodup
   rw [List.pairwise_iff_getElem]
   intro i j hi hj hij e
   have hj':j<m.Paid.length:=by simpa using hj
   have:=(h j hj').2.2.2 (m.Paid[i]'(by omega)) (List.mem_iff_getElem.2 ⟨i,by rw [List.length_take];omega,by simp⟩)
   rw [cu hj'] at this
   exact this (by simpa using e)
 ·rintro ⟨h1,h2,h3,h4⟩ j hj
  refine ⟨by rw [cu hj];exact h1 _ (List.getElem_mem hj),?_,fun v hv=>by rw [cu hj];exact h3 v hv _ (List.getElem_mem hj),fun v hv=> ?_⟩
  ·rw [cu hj,cu (by omega)]
   have e:=congrArg (·[j]?) h2
   simp only [List.getElem?_map,List.getElem?_eq_getElem hj,List.getElem?_eq_getElem (show j<m.Queue.length by omega),Option.map_some,Option.some.injEq] at e
   exact e
  ·obtain ⟨i,hi,rfl⟩:=List.getElem_of_mem hv
   rw [List.length_take] at hi
   unfold List.Nodup at h4
   rw [List.pairwise_iff_getElem] at h4
   have:=h4 i j (by simp;omega) (by simpa using hj) (by omega)
   rw [cu hj]
   simpa using this
theorem qS {m:aD}:dB m=true↔VP m:=by
 rw [Ev]
 constructor
 ·rintro ⟨h1,h2,h3,h4,h5,h6,h7,h8⟩
  obtain ⟨b1,b2⟩:=ow.1 h5
  have hp:=(Ex (by omega)).1 h8
  obtain ⟨p1,p2,p3,p4⟩:=(Ey h4.2.2.1).1 hp.1
  refine ⟨h1,h2,h3,h4,uQ.1 b1,fun x hx=> ?_,fun v hv=> ?_,uQ.1 h7,p1,p2,p3,p4,hp.2⟩
  ·obtain ⟨i,hi,rfl⟩:=List.getElem_of_mem hx
   have:=(h5 (i:Int) (by omega) (by omega)).1
   rwa [cu hi] at this
  ·obtain ⟨i,hi,rfl⟩:=List.getElem_of_mem hv
   have:=h6 (i:Int) (by omega) (by omega)
   rwa [cu hi] at this
 ·intro h
  refine ⟨h.pol,h.now,h.next,h.len,ow.2 ⟨uQ.2 h.asb,fun h0=> ?_⟩,fun j h0 hj=> ?_,uQ.2 h.ord,(Ex (by have:=h.len;omega)).2 ⟨(Ey h.len.2.2.1).2 ⟨h.pinv,h.pq,h.dis,h.pnd⟩,h.tot⟩⟩
  ·exact h.pos _ (bH (by simpa using h0))
  ·exact h.inv _ (bH (by omega))
end Go.Proofs.YteibkofekpejgaaGreatDoor
namespace Go.Proofs.YteibkofekpejgaaGreatDoor
open Go.RowKit
theorem Od:kq=true:=by kernel_rfl
theorem Ez: ∀{l:List (Bool×Int)} {n:Int},(∀x∈l,x.2≠0)→((iC l n).2=0→(∀x∈l,x.1=true)∧(iC l n).1=n)∧((iC l n).2≠0→(iC l n).1=0)
 | [],_,_=>⟨fun _=>⟨fun _ h=>(by cases h),rfl⟩,fun h=>absurd rfl h⟩
 | (true,_)::l,n,h=>by
  have ih:=Ez (l:=l) (n:=n) (fun x hx=>h x (List.mem_cons_of_mem _ hx))
  refine ⟨fun h1=> ?_,fun h1=>ih.2 h1⟩
  obtain ⟨a,b⟩:=ih.1 h1
  refine ⟨fun x hx=> ?_,b⟩
  rcases List.mem_cons.1 hx with rfl|hx
  ·rfl
  ·exact a x hx
 | (false,e)::_,_,h=>⟨fun h1=>absurd h1 (h (false,e) List.mem_cons_self),fun _=>rfl⟩
section
variable {b:aY} {l:List bg} {y:Int} {v w:aN} {p:aK}
theorem Oe: ∀x∈qC b l y v p,x.2≠0:=by
 intro x hx
 simp only [qC,List.mem_cons,List.not_mem_nil,or_false] at hx
 rcases hx with rfl|rfl|rfl|rfl|rfl|rfl|rfl|rfl|rfl|rfl<;>(intro h;cases h)
theorem EA (h:(cF b l y v p).2=0):nJ ⟨b,l,y,v,p⟩=true∧p.Number=v.Number∧kD ⟨b,l,y,v,p⟩=true∧(cF b l y v p).1=v.Amount:=by
 obtain ⟨h1,h2⟩:=(Ez (Oe (b:=b) (l:=l) (y:=y) (v:=v) (p:=p)) (n:=v.Amount)).1 h
 have hm: ∀(i:Nat) (hi:i<(qC b l y v p).length),((qC b l y v p)[i]'hi).1=true:=fun i hi=>h1 _ (List.getElem_mem hi)
 have e0:nJ ⟨b,l,y,v,p⟩=true:=hm 0 (show 0<10 by decide)
 have e2:qm p v=true:=hm 2 (show 2<10 by decide)
 have e4:kD ⟨b,l,y,v,p⟩=true:=hm 4 (show 4<10 by decide)
 exact ⟨e0,eq_of_beq e2,e4,h2⟩
end
theorem EB (l:List aN) (p:aK):(gp l p= -1∧ ∀v∈l,v.Number≠p.Number)∨
  ∃i:Nat,gp l p=i∧i<l.length∧(gt l (i:Int)).Number=p.Number:=by
 unfold gp
 generalize hF:(fun (ag1:Int→Int) (p1:Int)=>(if (decide (p1<(l.length:Int))) then (aa (ku (gt l p1) p) (fun (x5:Bool)=>(if x5 then p1 else (ag1 (p1+1))))) else (-1)))=F
 have hF': ∀ag q,F ag q=if q<(l.length:Int) then (if ku (gt l q) p=true then q else ag (q+1)) else -1:=fun ag q=>by
  subst hF
  by_cases hq:q<(l.length:Int)<;>simp [aa,hq]
 rcases tu (C:=fun q=>ku (gt l q) p) hF' (d:=fun _=>default) (((l.length:Int) - 0).toNat+1) 0 (by omega) (by omega) with ⟨h1,h2⟩|⟨h1,h2,h3,_⟩
 ·refine .inl ⟨h1,fun v hv=> ?_⟩
  obtain ⟨i,hi,rfl⟩:=List.getElem_of_mem hv
  have:=h2 (i:Int) (by omega) (by omega)
  rw [cu hi] at this
  simpa [ku] using this
 ·refine .inr ⟨(ae (((l.length:Int) - 0).toNat+1) F (fun _=>default) 0).toNat,by omega,by omega,?_⟩
  rw [Int.toNat_of_nonneg h1]
  simpa [ku] using h3
def zP (m:aD) (p:aK) (i:Nat) (a:Int):aD:={m with Open:=m.Open.take i++m.Open.drop (i+1),Queue:=m.Queue++[p],Paid:=m.Paid++[gt m.Open (i:Int)],Total:=al .i64 m.Total a}
def qT (b:aY) (l:List bg) (y:Int) (m:aD) (p:aK) (i:Nat):aD×Int×Int:=
 if kE m p then (bG,0,16) else if !(gP m.Policy (cF b l y (gt m.Open (i:Int)) p).1 (al .i64 (p.Spends.length:Int) (p.Chains.length:Int)) (mm p) (l3 m.Now) m.Total).1 then (bG,0,16) else
 if (m.Queue.length:Int)==50 then (bG,0,5) else if decide (al .i64 m.Total (cF b l y (gt m.Open (i:Int)) p).1>1099511627776) then (bG,0,5) else (zP m p i (cF b l y (gt m.Open (i:Int)) p).1,(cF b l y (gt m.Open (i:Int)) p).1,0)
section
variable {b:aY} {l:List bg} {y:Int} {m:aD} {p:aK}
theorem EE (h:dB m=false):dg b l y m p=(bG,0,1):=by
 unfold dg
 rw [bF,h];rfl
theorem EF (h:dB m=true) (hi:gp m.Open p= -1):dg b l y m p=(bG,0,7):=by
 unfold dg
 rw [bF,h,if_neg (by decide),bF,hi,if_pos (by decide)]
theorem EH (h:dB m=true) {i:Nat} (hi:gp m.Open p=i) (hc:(cF b l y (gt m.Open (i:Int)) p).2≠0):dg b l y m p=(bG,0,(cF b l y (gt m.Open (i:Int)) p).2):=by
 unfold dg
 rw [bF,h,if_neg (by decide),bF,hi,if_neg (by simp),bF,if_pos (by simpa using hc)]
theorem zQ (h:dB m=true) {i:Nat} (hi:gp m.Open p=i) (hl:i<m.Open.length) (hc:(cF b l y (gt m.Open (i:Int)) p).2=0):
  dg b l y m p=if (iD [p]).any (fun x=>(iD m.Queue).contains x)=true then (bG,0,8) else qT b l y m p i:=by
 have hv:=(qS.1 h).len
 unfold dg qT
 rw [bF,h,if_neg (by decide),bF,hi,if_neg (by simp),bF,if_neg (by simp [hc])]
 rw [bF,bF,bF,bF,bF,bF,bF,uH,bF,bF,D1]
 rw [show pS m.Open (i:Int) (al .i64 (i:Int) 1)=m.Open.take i++m.Open.drop (i+1) by
  rw [aJ (by omega) (by omega)]
  unfold pS
  rw [show ((i:Int)+1).toNat=i+1 by omega,Int.toNat_natCast]]
 rfl
theorem EJ (h:(dg b l y m p).2.2≠0):(dg b l y m p).1=bG∧(dg b l y m p).2.1=0:=by
 cases hv:dB m with
 | false=>rw [EE hv];exact ⟨rfl,rfl⟩
 | true=>
  rcases EB m.Open p with ⟨hi,_⟩|⟨i,hi,hl,_⟩
  ·rw [EF hv hi];exact ⟨rfl,rfl⟩
  ·by_cases hc:(cF b l y (gt m.Open (i:Int)) p).2=0
   ·rw [zQ hv hi hl hc] at h⊢
    split
    ·exact ⟨rfl,rfl⟩
    rename_i h1
    rw [if_neg h1] at h
    unfold qT at h⊢
    split
    ·exact ⟨rfl,rfl⟩
    rename_i h2
    rw [if_neg h2] at h
    split
    ·exact ⟨rfl,rfl⟩
    rename_i h3
    rw [if_neg h3] at h
    split
    ·exact ⟨rfl,rfl⟩
    rename_i h4
    rw [if_neg h4] at h
    split
    ·exact ⟨rfl,rfl⟩
    rename_i h5
    rw [if_neg h5] at h
    exact absurd rfl h
   ·rw [EH hv hi hc];exact ⟨rfl,rfl⟩
structure fu (b:aY) (l:List bg) (y:Int) (m:aD) (p:aK) (i:Nat):Prop where
 vp:VP m
 idx:gp m.Open p=i
 lt:i<m.Open.length
 num:(gt m.Open (i:Int)).Number=p.Number
 chk:(cF b l y (gt m.Open (i:Int)) p).2=0
 lvs: ∀x∈iD [p],(iD m.Queue).contains x=false
 blo:kE m p=false
 acc:(gP m.Policy (cF b l y (gt m.Open (i:Int)) p).1 (al .i64 (p.Spends.length:Int) (p.Chains.length:Int)) (mm p) (l3 m.Now) m.Total).1=true
 que:m.Queue.length≠50
 tot:al .i64 m.Total (cF b l y (gt m.Open (i:Int)) p).1≤1099511627776
 res:dg b l y m p=(zP m p i (cF b l y (gt m.Open (i:Int)) p).1,(cF b l y (gt m.Open (i:Int)) p).1,0)
theorem EM (h:(dg b l y m p).2.2=0): ∃i,fu b l y m p i:=by
 cases hv:dB m with
 | false=>rw [EE hv] at h;cases h
 | true=>
  rcases EB m.Open p with ⟨hi,_⟩|⟨i,hi,hl,hnum⟩
  ·rw [EF hv hi] at h;cases h
  ·by_cases hc:(cF b l y (gt m.Open (i:Int)) p).2=0
   ·have ht:=zQ (b:=b) (l:=l) (y:=y) hv hi hl hc
    rw [ht] at h
    split at h
    ·cases h
    rename_i h1
    rw [if_neg h1] at ht
    unfold qT at h ht
    split at h
    ·cases h
    rename_i h2
    rw [if_neg h2] at ht
    split at h
    ·cases h
    rename_i h3
    rw [if_neg h3] at ht
    split at h
    ·cases h
    rename_i h4
    rw [if_neg h4] at ht
    split at h
    ·cases h
    rename_i h5
    rw [if_neg h5] at ht
    rw [Bool.not_eq_true,List.any_eq_false] at h1
    exact ⟨i,qS.1 hv,hi,hl,hnum,hc,fun x hx=>by simpa using h1 x hx,by simpa using h2,by simpa using h3,fun e=>h4 (by rw [e];rfl),by simpa using h5,ht⟩
   ·rw [EH hv hi hc] at h;exact absurd h hc
end
end Go.Proofs.YteibkofekpejgaaGreatDoor
namespace Go.Proofs.YteibkofekpejgaaGreatDoor
open Go.RowKit
theorem EN (v:aN) (l:List aN):dS (v::l)=v.Amount+dS l:=by simp [dS]
theorem Of (l k:List aN):dS (l++k)=dS l+dS k:=by simp [dS]
theorem EO {m:aD}: ∀{l:List aN},(∀v∈l,cG m v=true)→0≤dS l
 | [],_=>by simp [dS]
 | v::l,h=>by
  have h1:=zJ.1 (zK.1 (h v (by simp))).1
  have h2:=EO (l:=l) (fun u hu=>h u (List.mem_cons_of_mem _ hu))
  rw [EN];omega
theorem zR {α:Type} {l:List α} {i:Nat} {x:α} (h:x∈l.take i++l.drop (i+1)): ∃j,∃hj:j<l.length,j≠i∧l[j]=x:=by
 rcases List.mem_append.1 h with h|h
 ·obtain ⟨j,hj,rfl⟩:=List.getElem_of_mem h
  rw [List.length_take] at hj
  exact ⟨j,by omega,by omega,by simp⟩
 ·obtain ⟨j,hj,rfl⟩:=List.getElem_of_mem h
  rw [List.length_drop] at hj
  exact ⟨i+1+j,by omega,by omega,by simp⟩
section
variable {b:aY} {l:List bg} {y:Int} {m:aD} {p:aK} {i:Nat}
theorem fu.amt (h:fu b l y m p i):(cF b l y (gt m.Open (i:Int)) p).1=(gt m.Open (i:Int)).Amount:=(EA h.chk).2.2.2
theorem fu.val (h:fu b l y m p i):cG m (gt m.Open (i:Int))=true:=by
 rw [cu h.lt];exact h.vp.inv _ (List.getElem_mem h.lt)
theorem fu.sum (h:fu b l y m p i):al .i64 m.Total (cF b l y (gt m.Open (i:Int)) p).1=m.Total+(gt m.Open (i:Int)).Amount:=by
 have h1:=zJ.1 (zK.1 h.val).1
 have h2:=h.vp.tot
 have h3:=EO h.vp.pinv
 rw [h.amt,jd (by omega) (by omega)]
theorem fu.ne (h:fu b l y m p i): ∀v∈m.Open.take i++m.Open.drop (i+1),v.Number≠p.Number:=by
 intro v hv
 obtain ⟨j,hj,hne,rfl⟩:=zR hv
 rw [←h.num,cu h.lt]
 have ho:=h.vp.ord
 rw [List.pairwise_iff_getElem] at ho
 rcases Nat.lt_or_gt_of_ne hne with e|e
 ·have:=ho j i (by simpa using hj) (by simpa using h.lt) e
  simp only [List.getElem_map] at this
  omega
 ·have:=ho i j (by simpa using h.lt) (by simpa using hj) e
  simp only [List.getElem_map] at this
  omega
theorem fu.after (h:fu b l y m p i):VP (zP m p i (cF b l y (gt m.Open (i:Int)) p).1):=by
 have hl:=h.vp.len
 have hlt:=h.lt
 have hv:=h.val
 have hmem:gt m.Open (i:Int)∈m.Open:=by rw [cu h.lt];exact List.getElem_mem h.lt
 refine ⟨h.vp.pol,h.vp.now,h.vp.next,⟨?_,?_,?_,hl.2.2.2⟩,h.vp.asb,h.vp.pos,?_,?_,?_,?_,?_,?_,?_⟩
 ·show (m.Open.take i++m.Open.drop (i+1)).length≤50
  rw [List.length_append,List.length_take,List.length_drop];omega
 ·show (m.Queue++[p]).length≤50
  have:=h.que
  rw [List.length_append,List.length_singleton];omega
 ·show (m.Paid++[gt m.Open (i:Int)]).length=(m.Queue++[p]).length
  rw [List.length_append,List.length_append,List.length_singleton,List.length_singleton];omega
 ·intro v hv
  have hv:v∈m.Open.take i++m.Open.drop (i+1):=hv
  obtain ⟨j,hj,_,rfl⟩:=zR hv
  exact h.vp.inv _ (List.getElem_mem hj)
 ·show ((m.Open.take i++m.Open.drop (i+1)).map (·.Number)).Pairwise (· < ·)
  rw [←List.eraseIdx_eq_take_drop_succ]
  exact h.vp.ord.sublist ((List.eraseIdx_sublist _ _).map _)
 ·intro v hv'
  have hv':v∈m.Paid++[gt m.Open (i:Int)]:=hv'
  rcases List.mem_append.1 hv' with h9|h9
  ·exact h.vp.pinv v h9
  ·rw [List.mem_singleton.1 h9];exact hv
 ·show (m.Queue++[p]).map (·.Number)=(m.Paid++[gt m.Open (i:Int)]).map (·.Number)
  rw [List.map_append,List.map_append,h.vp.pq]
  simp [h.num]
 ·intro v hv' u hu
  have hv':v∈m.Open.take i++m.Open.drop (i+1):=hv'
  have hu:u∈m.Paid++[gt m.Open (i:Int)]:=hu
  rcases List.mem_append.1 hu with h9|h9
  ·obtain ⟨j,hj,_,rfl⟩:=zR hv'
   exact h.vp.dis _ (List.getElem_mem hj) u h9
  ·rw [List.mem_singleton.1 h9,h.num];exact h.ne v hv'
 ·show ((m.Paid++[gt m.Open (i:Int)]).map (·.Number)).Nodup
  rw [List.map_append,List.nodup_append]
  refine ⟨h.vp.pnd,by simp,?_⟩
  intro x hx z hz
  obtain ⟨u,hu,rfl⟩:=List.mem_map.1 hx
  simp only [List.map_cons,List.map_nil,List.mem_singleton] at hz
  rw [hz]
  exact fun e=>h.vp.dis _ hmem u hu e.symm
 ·have h1:=h.vp.tot
  have h2:=h.tot
  refine ⟨?_,h2⟩
  show dS (m.Paid++[gt m.Open (i:Int)])=al .i64 m.Total _
  rw [h.sum,Of,h1.1,EN];simp [dS]
end
end Go.Proofs.YteibkofekpejgaaGreatDoor
