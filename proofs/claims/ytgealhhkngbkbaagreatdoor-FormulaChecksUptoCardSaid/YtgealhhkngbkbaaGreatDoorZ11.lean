/- Texts of this proof, one after the other: U2. -/
import Derived.Test.YtgealhhkngbkbaaGreatDoorZ10
set_option linter.unusedVariables false
set_option linter.unusedSimpArgs false
namespace Go.Proofs.YtgealhhkngbkbaaGreatDoor
open Go.RowKit
set_option linter.unusedSimpArgs false
set_option maxHeartbeats 2000000 in
set_option maxRecDepth 100000 in
instance QE (f_:aa) (good_c0:ao):CM En (wx f_ good_c0) 57 [.agg [.int .i64 f_.Kind,.sl none 1 false (f_.Relation.Y.map (V.int .i64)),.sl none 1 false (f_.Relation.Bases.map (fun (l:List Int)=>V.sl none 1 false (l.map (V.int .i64)))),.sl none 4 true (f_.L.map aA)],.fn 58 [.pp 3 true (.agg [.int .i64 good_c0.P,.int .i64 good_c0.Q,.int .i64 good_c0.G])]] (fun y=> .bool y) (fun _=> []):=by
 refine enQ [2] Tryz.func57 Tryz.ntmps57 (wx.eq_1 ..) fun r hw=> ?_
 intro hF hM
 refine lO ?_
 revert hM;revert hF
 refine slQ ?_
 intro hF hM
 refine ko _ (⟨[(2,.ptr 0 0),(3,.pp 1 false (.fn 58 [.pp 3 true (.agg [.int .i64 good_c0.P,.int .i64 good_c0.Q,.int .i64 good_c0.G])])),(5,.ptr 2 0)],[(0,.var 4 true (.agg [.int .i64 f_.Kind,.sl none 1 false (f_.Relation.Y.map (V.int .i64)),.sl none 1 false (f_.Relation.Bases.map (fun (l:List Int)=>V.sl none 1 false (l.map (V.int .i64)))),.sl none 4 true (f_.L.map aA)])),(1,.pvar 1 false (.fn 58 [.pp 3 true (.agg [.int .i64 good_c0.P,.int .i64 good_c0.Q,.int .i64 good_c0.G])])),(2,.var 1 false (.int .i64 30))],3⟩:St) ((m9 (S:=⟨_,_,_⟩) 1 (n:=1) (g:=false) (d:= .fn 58 [.pp 3 true (.agg [.int .i64 good_c0.P,.int .i64 good_c0.Q,.int .i64 good_c0.G])]) clQ clQ).trans (pY (S:=⟨_,_,_⟩) 3 1 (n:=1) (g:=false) (d:= .fn 58 [.pp 3 true (.agg [.int .i64 good_c0.P,.int .i64 good_c0.Q,.int .i64 good_c0.G])]) clQ clQ)) sbQ sbQ ?_
 revert hM;revert hF
 refine slQ ?_
 intro hF hM
 have hM0:=hM;clear hM;obtain ⟨x1,hx2,hM⟩:=ap hM0;clear hM0
 have hcx1:=LN f_ 1 30 good_c0
 rw [←hx2] at hcx1
 refine bR [2] hcx1 (by decide) lsQ lsQ (fun hw3=> ?_)
 replace hw3:=nzQ hw3
 exact auP
set_option maxHeartbeats 2000000 in
set_option maxRecDepth 100000 in
instance QF (g:ao) (f_:aa):CM En (fP g f_) 23 [.agg [.int .i64 g.P,.int .i64 g.Q,.int .i64 g.G],.agg [.int .i64 f_.Kind,.sl none 1 false (f_.Relation.Y.map (V.int .i64)),.sl none 1 false (f_.Relation.Bases.map (fun (l:List Int)=>V.sl none 1 false (l.map (V.int .i64)))),.sl none 4 true (f_.L.map aA)]] (fun y=> .bool y) (fun _=> []):=by
 refine enQ noJ Tryz.func23 Tryz.ntmps23 (fP.eq_1 ..) fun r hw=> ?_
 exact auR
set_option maxHeartbeats 2000000 in
set_option maxRecDepth 100000 in
instance QG (g:ao) (x_:Int):CM En (kE g x_) 35 [.agg [.int .i64 g.P,.int .i64 g.Q,.int .i64 g.G],.int .i64 x_] (fun y=> .bool y) (fun _=> []):=by
 refine enQ noJ Tryz.func35 Tryz.ntmps35 (kE.eq_1 ..) fun r hw=> ?_
 exact auR
set_option maxHeartbeats 2000000 in
set_option maxRecDepth 100000 in
instance QH (x_:Int) (c0:ao):CM En (wy x_ c0) 87 [.int .i64 x_,.pp 3 true (.agg [.int .i64 c0.P,.int .i64 c0.Q,.int .i64 c0.G])] (fun y=> .bool y) (fun _=> []):=by
 refine enQ noJ Tryz.func87 Tryz.ntmps87 (wy.eq_1 ..) fun r hw=> ?_
 exact auR
set_option maxHeartbeats 2000000 in
set_option maxRecDepth 100000 in
instance QI (s:(List Int)) (f__c0:ao):CM En (wz s f__c0) 141 [.sl none 1 false (s.map (V.int .i64)),.fn 87 [.pp 3 true (.agg [.int .i64 f__c0.P,.int .i64 f__c0.Q,.int .i64 f__c0.G])]] (fun y=> .int .i64 y) (fun _=> []):=by
 refine enQ noJ Tryz.func141 Tryz.ntmps141 (wz.eq_1 ..) fun r hw=> ?_
 intro hF hM
 have hM0:=hM;clear hM;obtain ⟨f1,d1,hf1,hd1,hM⟩:=aO hM0;clear hM0
 refine aS (fun n S=> ∃p:Int,S=(⟨[(0,.sl none 1 false (s.map (V.int .i64))),(1,.fn 87 [.pp 3 true (.agg [.int .i64 f__c0.P,.int .i64 f__c0.Q,.int .i64 f__c0.G])]),(7,.int .i64 (s.length:Int)),(8,.int .i64 p)],[],0⟩:St)∧((0≤p)∧(p≤(s.length:Int)))∧((s.length:Int) - p).toNat<n∧ae n f1 d1 p=r) (((s.length:Int) - 0).toNat+1) _ sbQ sbQ ⟨0,rfl,⟨omQ,omQ⟩,(Nat.lt_succ_self _),hM⟩ ?_
 clear hM
 rintro n1 S ⟨p1,rfl,hfa1,hm1,hM⟩
 have hM0:=hM;clear hM;obtain ⟨ag1,hag1,hM⟩:=aP hM0 (by omega) hf1;clear hM0
 replace hfa1:=nzQ hfa1
 replace hm1:=nzQ hm1
 have ha1:al .i64 p1 1=p1+1:=aY omQ omQ
 replace hF:=(And.intro ha1 hF)
 revert hM;revert hF
 refine slQ ?_
 refine aC fun _ _ _=> ?_
 refine bh fun _ _ _ _=> ?_
 refine aT fun _ _ _=> ?_
 intro hF hM
 refine aM (n1 - 1) _ (by omega) sbQ sbQ ⟨(p1+1),rfl,⟨omQ,omQ⟩,omQ,aL hM hag1⟩
set_option maxHeartbeats 2000000 in
set_option maxRecDepth 100000 in
instance QJ (s:(List Int)) (f__c0:ao):CM En (wA s f__c0) 86 [.sl none 1 false (s.map (V.int .i64)),.fn 87 [.pp 3 true (.agg [.int .i64 f__c0.P,.int .i64 f__c0.Q,.int .i64 f__c0.G])]] (fun y=> .bool y) (fun _=> []):=by
 refine enQ noJ Tryz.func86 Tryz.ntmps86 (wA.eq_1 ..) fun r hw=> ?_
 exact auR
set_option maxHeartbeats 2000000 in
set_option maxRecDepth 100000 in
instance QK (g:ao) (l:(List Int)):CM En (wB g l) 40 [.agg [.int .i64 g.P,.int .i64 g.Q,.int .i64 g.G],.sl none 1 false (l.map (V.int .i64))] (fun y=> .bool y) (fun _=> []):=by
 refine enQ noJ Tryz.func40 Tryz.ntmps40 (wB.eq_1 ..) fun r hw=> ?_
 exact auR
set_option maxHeartbeats 2000000 in
set_option maxRecDepth 100000 in
theorem CV (r_:aH) (hp0:1≤r_.Bases.length):CM En (fc r_) 111 [.agg [.sl none 1 false (r_.Y.map (V.int .i64)),.sl none 1 false (r_.Bases.map (fun (l:List Int)=>V.sl none 1 false (l.map (V.int .i64))))]] (fun y=> .int .i64 y) (fun _=> []):=by
 refine enQ noJ Tryz.func111 Tryz.ntmps111 (fc.eq_1 ..) fun r hw=> ?_
 exact auR
set_option maxHeartbeats 2000000 in
set_option maxRecDepth 100000 in
instance QL (x_:Int) (c0:ao):CM En (nu x_ c0) 155 [.int .i64 x_,.pp 3 true (.agg [.int .i64 c0.P,.int .i64 c0.Q,.int .i64 c0.G])] (fun y=> .bool y) (fun _=> []):=by
 refine enQ noJ Tryz.func155 Tryz.ntmps155 (nu.eq_1 ..) fun r hw=> ?_
 exact auR
set_option maxHeartbeats 2000000 in
set_option maxRecDepth 100000 in
instance QM (s:(List Int)) (f__c0:ao):CM En (wC s f__c0) 141 [.sl none 1 false (s.map (V.int .i64)),.fn 155 [.pp 3 true (.agg [.int .i64 f__c0.P,.int .i64 f__c0.Q,.int .i64 f__c0.G])]] (fun y=> .int .i64 y) (fun _=> []):=by
 refine enQ noJ Tryz.func141 Tryz.ntmps141 (wC.eq_1 ..) fun r hw=> ?_
 intro hF hM
 have hM0:=hM;clear hM;obtain ⟨f1,d1,hf1,hd1,hM⟩:=aO hM0;clear hM0
 refine aS (fun n S=> ∃p:Int,S=(⟨[(0,.sl none 1 false (s.map (V.int .i64))),(1,.fn 155 [.pp 3 true (.agg [.int .i64 f__c0.P,.int .i64 f__c0.Q,.int .i64 f__c0.G])]),(7,.int .i64 (s.length:Int)),(8,.int .i64 p)],[],0⟩:St)∧((0≤p)∧(p≤(s.length:Int)))∧((s.length:Int) - p).toNat<n∧ae n f1 d1 p=r) (((s.length:Int) - 0).toNat+1) _ sbQ sbQ ⟨0,rfl,⟨omQ,omQ⟩,(Nat.lt_succ_self _),hM⟩ ?_
 clear hM
 rintro n1 S ⟨p1,rfl,hfa1,hm1,hM⟩
 have hM0:=hM;clear hM;obtain ⟨ag1,hag1,hM⟩:=aP hM0 (by omega) hf1;clear hM0
 replace hfa1:=nzQ hfa1
 replace hm1:=nzQ hm1
 have ha1:al .i64 p1 1=p1+1:=aY omQ omQ
 replace hF:=(And.intro ha1 hF)
 revert hM;revert hF
 refine slQ ?_
 refine aC fun _ _ _=> ?_
 refine bh fun _ _ _ _=> ?_
 refine aT fun _ _ _=> ?_
 intro hF hM
 refine aM (n1 - 1) _ (by omega) sbQ sbQ ⟨(p1+1),rfl,⟨omQ,omQ⟩,omQ,aL hM hag1⟩
set_option maxHeartbeats 2000000 in
set_option maxRecDepth 100000 in
instance QN (s:(List Int)) (f__c0:ao):CM En (sw s f__c0) 86 [.sl none 1 false (s.map (V.int .i64)),.fn 155 [.pp 3 true (.agg [.int .i64 f__c0.P,.int .i64 f__c0.Q,.int .i64 f__c0.G])]] (fun y=> .bool y) (fun _=> []):=by
 refine enQ noJ Tryz.func86 Tryz.ntmps86 (sw.eq_1 ..) fun r hw=> ?_
 exact auR
set_option maxHeartbeats 2000000 in
set_option maxRecDepth 100000 in
instance QO (g:ao) (l:(List Int)):CM En (l6 g l) 112 [.agg [.int .i64 g.P,.int .i64 g.Q,.int .i64 g.G],.sl none 1 false (l.map (V.int .i64))] (fun y=> .bool y) (fun _=> []):=by
 refine enQ noJ Tryz.func112 Tryz.ntmps112 (l6.eq_1 ..) fun r hw=> ?_
 exact auR
set_option maxHeartbeats 2000000 in
set_option maxRecDepth 100000 in
instance QP (a_:Int) (b:Int) (m:Int):CM En (nv a_ b m) 143 [.int .i64 a_,.int .i64 b,.int .i64 m] (fun y=> .tup [.int .i64 y.1,.int .i64 y.2]) (fun _=> []):=by
 refine enQ noJ Tryz.func143 Tryz.ntmps143 (nv.eq_1 ..) fun r hw=> ?_
 refine bh fun _ _ _ _=> ?_
 refine aT fun _ _ _=> ?_
 intro hF hM
 have hM0:=hM;clear hM;obtain ⟨x8,hx9,hM⟩:=ap hM0;clear hM0
 have hcx8:=cmH hx9 (tn a_ b m (by (exact pfQ)) (by (exact pfQ)) (by (exact pfQ)))
 refine aJ hcx8 clQ clQ (fun hw10=> ?_)
 replace hw10:=nzQ hw10
 exact auP
instance (priority:=1004):DRD 5 43 12 [12,22,23,24,25,26,27,28,29,30,31,32] [] ([[],[],[],[1,2],[1,2,3],[],[5],[0,1,2,3,4,5,6],[0,1,2,3,4,5,6,7],[0,1,2,3,4,5,6,7,8],[0,1,2,3,4,5,6,7,8],[0,1,2,3,4,5,6,7,8,9]]++[List.range 12]) []:=⟨trivial⟩
set_option maxHeartbeats 2000000 in
set_option maxRecDepth 100000 in
theorem LO (g:ao) (start:Int) (bases:(List Int)) (exps:(List Int)) (hp0:bases.length≤exps.length) (hp1:bases.length≤1000):CM En (nw g start bases exps) 177 [.agg [.int .i64 g.P,.int .i64 g.Q,.int .i64 g.G],.int .i64 start,.sl none 1 false (bases.map (V.int .i64)),.sl none 1 false (exps.map (V.int .i64))] (fun y=> .int .i64 y) (fun _=> []):=by
 refine enQ noJ Tryz.func177 Tryz.ntmps177 (nw.eq_1 ..) fun r hw=> ?_
 intro hF hM
 have hM0:=hM;clear hM;obtain ⟨f1,d1,hf1,hd1,hM⟩:=aO hM0;clear hM0
 refine aS (fun n S=> ∃p:Int×Int,S=(⟨[(3,.sl none 1 false (exps.map (V.int .i64))),(4,.ptr 0 0),(9,.int .i64 p.1),(15,.sl none 1 false (bases.map (V.int .i64))),(16,.int .i64 (bases.length:Int)),(17,.int .i64 p.2)],[(0,.var 3 true (.agg [.int .i64 g.P,.int .i64 g.Q,.int .i64 g.G]))],1⟩:St)∧((0≤p.2)∧(p.2≤(bases.length:Int)))∧((bases.length:Int) - p.2).toNat<n∧ae n f1 d1 p=r) (((bases.length:Int) - 0).toNat+1) _ sbQ sbQ ⟨(start,0),rfl,⟨omQ,omQ⟩,(Nat.lt_succ_self _),hM⟩ ?_
 clear hM
 rintro n1 S ⟨p1,rfl,hfa1,hm1,hM⟩
 have hM0:=hM;clear hM;obtain ⟨ag1,hag1,hM⟩:=aP hM0 (by omega) hf1;clear hM0
 replace hfa1:=nzQ hfa1
 replace hm1:=nzQ hm1
 have ha1:al .i64 p1.2 1=p1.2+1:=aY omQ omQ
 replace hF:=(And.intro ha1 hF)
 revert hM;revert hF
 refine slQ ?_
 refine aC fun _ _ _=> ?_
 refine bh fun _ _ _ _=> ?_
 refine bh fun x8 _ _ _=> ?_
 intro hF hM
 refine aM (n1 - 1) _ (by omega) sbQ sbQ ⟨(x8.1,(p1.2+1)),rfl,⟨omQ,omQ⟩,omQ,aL hM hag1⟩
set_option maxHeartbeats 2000000 in
set_option maxRecDepth 100000 in
theorem CW (g:ao) (rows:(List (List Int))) (exps:(List Int)) (hp0: ∀x∈rows,x.length≤exps.length∧x.length≤1000) (hp1:rows.length≤1000):CM En (kF g rows exps) 142 [.agg [.int .i64 g.P,.int .i64 g.Q,.int .i64 g.G],.sl none 1 false (rows.map (fun (l:List Int)=>V.sl none 1 false (l.map (V.int .i64)))),.sl none 1 false (exps.map (V.int .i64))] (fun _=> .own 0) (fun y=> [.own 3 1 false none (y.map (V.int .i64))]):=by
 refine enQ noJ Tryz.func142 Tryz.ntmps142 (kF.eq_1 ..) fun r hw=> ?_
 intro hF hM
 have hM0:=hM;clear hM;obtain ⟨f1,d1,hf1,hd1,hM⟩:=aO hM0;clear hM0
 refine gU (fun n S=> ∃p:Int×List Int,S=(⟨[(2,.sl none 1 false (exps.map (V.int .i64))),(3,.ptr 0 0),(7,.own 1),(10,.sl none 1 false (rows.map (fun (l:List Int)=>V.sl none 1 false (l.map (V.int .i64))))),(11,.int .i64 (rows.length:Int)),(12,.int .i64 p.1)],[(0,.var 3 true (.agg [.int .i64 g.P,.int .i64 g.Q,.int .i64 g.G])),(1,.own 3 1 false none (p.2.map (V.int .i64)))],2⟩:St)∧((0≤p.1)∧(p.1≤(rows.length:Int))∧(((p.2).length:Int)≤p.1))∧((rows.length:Int) - p.1).toNat<n∧ae n f1 d1 p=r) (((rows.length:Int) - 0).toNat+1) _ _ (lJ 7 3 rfl (by decide)) sbQ sbQ ⟨(0,([]:List Int)),rfl,⟨omQ,omQ,omQ⟩,(Nat.lt_succ_self _),hM⟩ ?_
 clear hM
 rintro n1 S ⟨p1,rfl,hfa1,hm1,hM⟩
 have hM0:=hM;clear hM;obtain ⟨ag1,hag1,hM⟩:=aP hM0 (by omega) hf1;clear hM0
 replace hfa1:=nzQ hfa1
 replace hm1:=nzQ hm1
 have ha1:al .i64 p1.1 1=p1.1+1:=aY omQ omQ
 replace hF:=(And.intro ha1 hF)
 revert hM;revert hF
 refine slQ ?_
 refine cdQ (fun _ _ _=> ?_) (fun _ _ _=> ?_)
 ·intro hF hM
  have hM0:=hM;clear hM;obtain ⟨x5,hx6,hM⟩:=ap hM0;clear hM0
  have hcx5:=cmH hx6 (LO g 1 (gt rows p1.1) exps (by (first|exact (hp0 _ (aI (by omega))).1|exact (hp0 _ (aI (by omega))).2)) (by (first|exact (hp0 _ (aI (by omega))).1|exact (hp0 _ (aI (by omega))).2)))
  refine aJ hcx5 (ar hF) (ar hF) (fun hw7=> ?_)
  replace hw7:=nzQ hw7
  revert hM;revert hF
  refine slQ ?_
  intro hF hM
  refine aM (n1 - 1) _ (by omega) sbQ sbQ ⟨((p1.1+1),(p1.2++([x5]:List Int))),rfl,⟨omQ,omQ,omQ⟩,omQ,aL hM hag1⟩
 ·intro hF hM
  subst hM
  exact vT [1] (bs:=[.own 3 1 false none (p1.2.map (V.int .i64))]) (ar hF) (by decide) (cQ hF)
instance (priority:=1005):DRD 6 26 8 [16,17,18,19,20,21,22,23] [] ([[],[],[0,1],[0,1,2],[],[],[4,5],[4,5,6]]++[List.range 8]) []:=⟨trivial⟩
set_option maxHeartbeats 2000000 in
set_option maxRecDepth 100000 in
instance QQ (s1:(List Int)) (s2:(List Int)):CM En (ny s1 s2) 113 [.sl none 1 false (s1.map (V.int .i64)),.sl none 1 false (s2.map (V.int .i64))] (fun y=> .bool y) (fun _=> []):=by
 refine enQ noJ Tryz.func113 Tryz.ntmps113 (ny.eq_1 ..) fun r hw=> ?_
 refine aT fun _ _ _=> ?_
 intro hF hM
 have hM0:=hM;clear hM;obtain ⟨f4,d4,hf4,hd4,hM⟩:=aO hM0;clear hM0
 refine aS (fun n S=> ∃p:Int,S=(⟨[(0,.sl none 1 false (s1.map (V.int .i64))),(1,.sl none 1 false (s2.map (V.int .i64))),(12,.int .i64 (s1.length:Int)),(13,.int .i64 p)],[],0⟩:St)∧((0≤p)∧(p≤(s1.length:Int)))∧((s1.length:Int) - p).toNat<n∧ae n f4 d4 p=r) (((s1.length:Int) - 0).toNat+1) _ sbQ sbQ ⟨0,rfl,⟨omQ,omQ⟩,(Nat.lt_succ_self _),hM⟩ ?_
 clear hM
 rintro n4 S ⟨p4,rfl,hfa4,hm4,hM⟩
 have hM0:=hM;clear hM;obtain ⟨ag4,hag4,hM⟩:=aP hM0 (by omega) hf4;clear hM0
 replace hfa4:=nzQ hfa4
 replace hm4:=nzQ hm4
 have ha4:al .i64 p4 1=p4+1:=aY omQ omQ
 replace hF:=(And.intro ha4 hF)
 revert hM;revert hF
 refine slQ ?_
 refine aC fun _ _ _=> ?_
 refine aT fun _ _ _=> ?_
 intro hF hM
 refine aM (n4 - 1) _ (by omega) sbQ sbQ ⟨(p4+1),rfl,⟨omQ,omQ⟩,omQ,aL hM hag4⟩
instance (priority:=1006):DRD 1 32 23 [7,8,9,10,11,12,13,14,15,16,17,18,19,20,21,22,23,24,25,26,27,28,29] [] ([[],[],[0,1],[0,1,2],[0,1,2,3],[0,1,2,3,4],[0,1,2,3],[0,1,2,3,6],[0,1,2,3,4,5,6,7],[0,1,2,3,4,5,6,7,8],[0,1,2,3,4,5,6,7,8,9],[0,1,2,3,4,5,6,7,8,9,10],[0,1,2,3,4,5,6,7,8,9,10],[0,1,2,3,4,5,6,7,8,9,10,11,12],[0,1,2,3,4,5,6,7,8,9,10,11,12,13],[0,1,2,3,4,5,6,7,8,9,10,11,12,13,14],[0,1,2,3,4,5,6,7,8,9,10,11,12,13,14,15],[0,1,2,3,4,5,6,7,8,9,10,11,12,13,14,15],[0,1,2,3,4,5,6,7,8,9,10,11,12,13,14,15,17],[0,1,2,3,4,5,6,7,8,9,10,11,12,13,14,15],[0,1,2,3,4,5,6,7,8,9,10,11,12,13,14,15,16,17,18,19],[0,1,2,3,4,5,6,7,8,9,10,11,12,13,14,15],[0,1,2,3,4,5,6,7,8,9,10,11,12,13,14,15,21]]++[List.range 23,List.range 24,List.range 25]) []:=⟨trivial⟩
set_option maxHeartbeats 2000000 in
set_option maxRecDepth 100000 in
instance QR (g:ao) (r_:aH) (x_:(List Int)):CM En (sx g r_ x_) 89 [.agg [.int .i64 g.P,.int .i64 g.Q,.int .i64 g.G],.agg [.sl none 1 false (r_.Y.map (V.int .i64)),.sl none 1 false (r_.Bases.map (fun (l:List Int)=>V.sl none 1 false (l.map (V.int .i64))))],.sl none 1 false (x_.map (V.int .i64))] (fun y=> .bool y) (fun _=> []):=by
 refine enQ noJ Tryz.func89 Tryz.ntmps89 (sx.eq_1 ..) fun r hw=> ?_
 refine slQ ?_
 refine bh fun _ _ _ _=> ?_
 refine aC fun _ _ _=> ?_
 intro hF hM
 have hM0:=hM;clear hM;obtain ⟨x6,hx7,hM⟩:=ap hM0;clear hM0
 have hcx6:=cmH hx7 (CV r_ (by (clear hM;have h9:=jL ‹okR _ _›;omega)))
 refine bN hcx6 clQ clQ ?_
 revert hM;revert hF
 refine slQ ?_
 refine aC fun _ _ _=> ?_
 refine bh fun _ _ _ _=> ?_
 refine aC fun _ _ _=> ?_
 intro hF hM
 have hM0:=hM;clear hM;obtain ⟨x13,hx14,hM⟩:=ap hM0;clear hM0
 have hcx13:=aE.pub (cmH hx14 (CW g (r_.Bases) x_ (by (first|exact nR ‹okR _ _› ‹_=fc _› (by omega)|(have h9:=jL ‹okR _ _›;omega))) (by (first|exact nR ‹okR _ _› ‹_=fc _› (by omega)|(have h9:=jL ‹okR _ _›;omega)))))
 refine bN hcx13 clQ clQ ?_
 exact auP
set_option maxHeartbeats 2000000 in
set_option maxRecDepth 100000 in
theorem CX (N:Nat) (ih: ∀(z2:Option Bool) (g:ao) (f_:aa) (x_:(List Int)),(okU x_.length f_)→ax f_<N→aE En 41 [.agg [.int .i64 g.P,.int .i64 g.Q,.int .i64 g.G],.agg [.int .i64 f_.Kind,.sl none 1 false (f_.Relation.Y.map (V.int .i64)),.sl none 1 false (f_.Relation.Bases.map (fun (l:List Int)=>V.sl none 1 false (l.map (V.int .i64)))),.sl none 4 true (f_.L.map aA)],.sl z2 1 false (x_.map (V.int .i64))] (.bool (cY g f_ x_)) []) (p_:aa) (c0:ao) (c1:(List Int)) (hp0:ax p_<N) (hp1:okU c1.length p_):aE En 88 [.agg [.int .i64 p_.Kind,.sl none 1 false (p_.Relation.Y.map (V.int .i64)),.sl none 1 false (p_.Relation.Bases.map (fun (l:List Int)=>V.sl none 1 false (l.map (V.int .i64)))),.sl none 4 true (p_.L.map aA)],.pp 3 true (.agg [.int .i64 c0.P,.int .i64 c0.Q,.int .i64 c0.G]),.pp 1 false (.sl none 1 false (c1.map (V.int .i64)))] (.bool (pq p_ c0 c1)) []:=by
 generalize hM:pq p_ c0 c1=r
 rw [pq.eq_1] at hM
 refine bU bf bv noJ Tryz.func88 rfl Tryz.ntmps88 (by kernel_rfl) fun hw=>bu ?_
 refine spQ ?_
 replace hw:=nzQ hw
 have hM0:=hM;clear hM;obtain ⟨x1,hx2,hM⟩:=ap hM0;clear hM0
 have hcx1:=ih none c0 p_ c1 (by (exact hp1)) (by omega)
 rw [←hx2] at hcx1
 refine aJ hcx1 clQ clQ (fun hw3=> ?_)
 replace hw3:=nzQ hw3
 have hF:=bW
 exact auP
set_option maxHeartbeats 2000000 in
set_option maxRecDepth 100000 in
theorem LP (N:Nat) (ih: ∀(z2:Option Bool) (g:ao) (f_:aa) (x_:(List Int)),(okU x_.length f_)→ax f_<N→aE En 41 [.agg [.int .i64 g.P,.int .i64 g.Q,.int .i64 g.G],.agg [.int .i64 f_.Kind,.sl none 1 false (f_.Relation.Y.map (V.int .i64)),.sl none 1 false (f_.Relation.Bases.map (fun (l:List Int)=>V.sl none 1 false (l.map (V.int .i64)))),.sl none 4 true (f_.L.map aA)],.sl z2 1 false (x_.map (V.int .i64))] (.bool (cY g f_ x_)) []) (p_:aa) (c0_c0:ao) (c0_c1:(List Int)) (hp0:ax p_<N) (hp1:okU c0_c1.length p_):aE En 90 [.agg [.int .i64 p_.Kind,.sl none 1 false (p_.Relation.Y.map (V.int .i64)),.sl none 1 false (p_.Relation.Bases.map (fun (l:List Int)=>V.sl none 1 false (l.map (V.int .i64)))),.sl none 4 true (p_.L.map aA)],.pp 1 false (.fn 88 [.pp 3 true (.agg [.int .i64 c0_c0.P,.int .i64 c0_c0.Q,.int .i64 c0_c0.G]),.pp 1 false (.sl none 1 false (c0_c1.map (V.int .i64)))])] (.bool (sB p_ c0_c0 c0_c1)) []:=by
 generalize hM:sB p_ c0_c0 c0_c1=r
 rw [sB.eq_1] at hM
 refine bU bf bv noJ Tryz.func90 rfl Tryz.ntmps90 (by kernel_rfl) fun hw=>bu ?_
 refine spQ ?_
 replace hw:=nzQ hw
 have hM0:=hM;clear hM;obtain ⟨x1,hx2,hM⟩:=ap hM0;clear hM0
 have hcx1:=CX N ih p_ c0_c0 c0_c1 (by (exact pfQ)) (by (exact pfQ))
 rw [←hx2] at hcx1
 refine aJ hcx1 clQ clQ (fun hw3=> ?_)
 replace hw3:=nzQ hw3
 have hF:=bW
 exact auP
set_option maxHeartbeats 2000000 in
set_option maxRecDepth 100000 in
theorem LQ (N:Nat) (ih: ∀(z2:Option Bool) (g:ao) (f_:aa) (x_:(List Int)),(okU x_.length f_)→ax f_<N→aE En 41 [.agg [.int .i64 g.P,.int .i64 g.Q,.int .i64 g.G],.agg [.int .i64 f_.Kind,.sl none 1 false (f_.Relation.Y.map (V.int .i64)),.sl none 1 false (f_.Relation.Bases.map (fun (l:List Int)=>V.sl none 1 false (l.map (V.int .i64)))),.sl none 4 true (f_.L.map aA)],.sl z2 1 false (x_.map (V.int .i64))] (.bool (cY g f_ x_)) []) (z0:Option Bool) (s:(List aa)) (f__c0_c0:ao) (f__c0_c1:(List Int)) (hp0: ∀x∈s,ax x<N) (hp1: ∀x∈s,okU f__c0_c1.length x):aE En 92 [.sl z0 4 true (s.map aA),.fn 90 [.pp 1 false (.fn 88 [.pp 3 true (.agg [.int .i64 f__c0_c0.P,.int .i64 f__c0_c0.Q,.int .i64 f__c0_c0.G]),.pp 1 false (.sl none 1 false (f__c0_c1.map (V.int .i64)))])]] (.int .i64 (sC s f__c0_c0 f__c0_c1)) []:=by
 generalize hM:sC s f__c0_c0 f__c0_c1=r
 rw [sC.eq_1] at hM
 refine bU bf bv noJ Tryz.func92 rfl Tryz.ntmps92 (by kernel_rfl) fun hw=>bu ?_
 refine spQ ?_
 replace hw:=nzQ hw
 have hM0:=hM;clear hM;obtain ⟨f1,d1,hf1,hd1,hM⟩:=aO hM0;clear hM0
 refine aS (fun n S=> ∃p:Int,S=(⟨[(0,.sl z0 4 true (s.map aA)),(1,.fn 90 [.pp 1 false (.fn 88 [.pp 3 true (.agg [.int .i64 f__c0_c0.P,.int .i64 f__c0_c0.Q,.int .i64 f__c0_c0.G]),.pp 1 false (.sl none 1 false (f__c0_c1.map (V.int .i64)))])]),(7,.int .i64 (s.length:Int)),(8,.int .i64 p)],[],0⟩:St)∧((0≤p)∧(p≤(s.length:Int)))∧((s.length:Int) - p).toNat<n∧ae n f1 d1 p=r) (((s.length:Int) - 0).toNat+1) _ sbQ sbQ ⟨0,rfl,⟨omQ,omQ⟩,(Nat.lt_succ_self _),hM⟩ ?_
 clear hM
 rintro n1 S ⟨p1,rfl,hfa1,hm1,hM⟩
 have hM0:=hM;clear hM;obtain ⟨ag1,hag1,hM⟩:=aP hM0 (by omega) hf1;clear hM0
 replace hfa1:=nzQ hfa1
 replace hm1:=nzQ hm1
 have ha1:al .i64 p1 1=p1+1:=aY omQ omQ
 have hF:=ha1
 revert hM;revert hF
 refine slQ ?_
 refine aC fun _ _ _=> ?_
 intro hF hM
 have hM0:=hM;clear hM;obtain ⟨x5,hx6,hM⟩:=ap hM0;clear hM0
 have hcx5:=LP N ih (gt s p1) f__c0_c0 f__c0_c1 (by (first|exact hp0 _ (aI (by omega))|exact hp1 _ (aI (by omega)))) (by (first|exact hp0 _ (aI (by omega))|exact hp1 _ (aI (by omega))))
 rw [←hx6] at hcx5
 refine aJ hcx5 (ar hF) (ar hF) (fun hw7=> ?_)
 replace hw7:=nzQ hw7
 revert hM;revert hF
 refine slQ ?_
 refine aT fun _ _ _=> ?_
 intro hF hM
 refine aM (n1 - 1) _ (by omega) sbQ sbQ ⟨(p1+1),rfl,⟨omQ,omQ⟩,omQ,aL hM hag1⟩
set_option maxHeartbeats 2000000 in
set_option maxRecDepth 100000 in
theorem LR (N:Nat) (ih: ∀(z2:Option Bool) (g:ao) (f_:aa) (x_:(List Int)),(okU x_.length f_)→ax f_<N→aE En 41 [.agg [.int .i64 g.P,.int .i64 g.Q,.int .i64 g.G],.agg [.int .i64 f_.Kind,.sl none 1 false (f_.Relation.Y.map (V.int .i64)),.sl none 1 false (f_.Relation.Bases.map (fun (l:List Int)=>V.sl none 1 false (l.map (V.int .i64)))),.sl none 4 true (f_.L.map aA)],.sl z2 1 false (x_.map (V.int .i64))] (.bool (cY g f_ x_)) []) (z0:Option Bool) (s:(List aa)) (f__c0_c0:ao) (f__c0_c1:(List Int)) (hp0: ∀x∈s,ax x<N) (hp1: ∀x∈s,okU f__c0_c1.length x):aE En 52 [.sl z0 4 true (s.map aA),.fn 90 [.pp 1 false (.fn 88 [.pp 3 true (.agg [.int .i64 f__c0_c0.P,.int .i64 f__c0_c0.Q,.int .i64 f__c0_c0.G]),.pp 1 false (.sl none 1 false (f__c0_c1.map (V.int .i64)))])]] (.bool (pr s f__c0_c0 f__c0_c1)) []:=by
 generalize hM:pr s f__c0_c0 f__c0_c1=r
 rw [pr.eq_1] at hM
 refine bU bf bv noJ Tryz.func52 rfl Tryz.ntmps52 (by kernel_rfl) fun hw=>bu ?_
 refine spQ ?_
 replace hw:=nzQ hw
 have hM0:=hM;clear hM;obtain ⟨x1,hx2,hM⟩:=ap hM0;clear hM0
 have hcx1:=LQ N ih z0 s f__c0_c0 f__c0_c1 (by (first|exact hp0|exact hp1)) (by (first|exact hp0|exact hp1))
 rw [←hx2] at hcx1
 refine aJ hcx1 clQ clQ (fun hw3=> ?_)
 replace hw3:=nzQ hw3
 have hF:=bW
 exact auP
set_option maxHeartbeats 2000000 in
set_option maxRecDepth 100000 in
theorem LS (N:Nat) (ih: ∀(z2:Option Bool) (g:ao) (f_:aa) (x_:(List Int)),(okU x_.length f_)→ax f_<N→aE En 41 [.agg [.int .i64 g.P,.int .i64 g.Q,.int .i64 g.G],.agg [.int .i64 f_.Kind,.sl none 1 false (f_.Relation.Y.map (V.int .i64)),.sl none 1 false (f_.Relation.Bases.map (fun (l:List Int)=>V.sl none 1 false (l.map (V.int .i64)))),.sl none 4 true (f_.L.map aA)],.sl z2 1 false (x_.map (V.int .i64))] (.bool (cY g f_ x_)) []) (z0:Option Bool) (s:(List aa)) (f__c0:ao) (f__c1:(List Int)) (hp0: ∀x∈s,ax x<N) (hp1: ∀x∈s,okU f__c1.length x):aE En 92 [.sl z0 4 true (s.map aA),.fn 88 [.pp 3 true (.agg [.int .i64 f__c0.P,.int .i64 f__c0.Q,.int .i64 f__c0.G]),.pp 1 false (.sl none 1 false (f__c1.map (V.int .i64)))]] (.int .i64 (sD s f__c0 f__c1)) []:=by
 generalize hM:sD s f__c0 f__c1=r
 rw [sD.eq_1] at hM
 refine bU bf bv noJ Tryz.func92 rfl Tryz.ntmps92 (by kernel_rfl) fun hw=>bu ?_
 refine spQ ?_
 replace hw:=nzQ hw
 have hM0:=hM;clear hM;obtain ⟨f1,d1,hf1,hd1,hM⟩:=aO hM0;clear hM0
 refine aS (fun n S=> ∃p:Int,S=(⟨[(0,.sl z0 4 true (s.map aA)),(1,.fn 88 [.pp 3 true (.agg [.int .i64 f__c0.P,.int .i64 f__c0.Q,.int .i64 f__c0.G]),.pp 1 false (.sl none 1 false (f__c1.map (V.int .i64)))]),(7,.int .i64 (s.length:Int)),(8,.int .i64 p)],[],0⟩:St)∧((0≤p)∧(p≤(s.length:Int)))∧((s.length:Int) - p).toNat<n∧ae n f1 d1 p=r) (((s.length:Int) - 0).toNat+1) _ sbQ sbQ ⟨0,rfl,⟨omQ,omQ⟩,(Nat.lt_succ_self _),hM⟩ ?_
 clear hM
 rintro n1 S ⟨p1,rfl,hfa1,hm1,hM⟩
 have hM0:=hM;clear hM;obtain ⟨ag1,hag1,hM⟩:=aP hM0 (by omega) hf1;clear hM0
 replace hfa1:=nzQ hfa1
 replace hm1:=nzQ hm1
 have ha1:al .i64 p1 1=p1+1:=aY omQ omQ
 have hF:=ha1
 revert hM;revert hF
 refine slQ ?_
 refine aC fun _ _ _=> ?_
 intro hF hM
 have hM0:=hM;clear hM;obtain ⟨x5,hx6,hM⟩:=ap hM0;clear hM0
 have hcx5:=CX N ih (gt s p1) f__c0 f__c1 (by (first|exact hp0 _ (aI (by omega))|exact hp1 _ (aI (by omega)))) (by (first|exact hp0 _ (aI (by omega))|exact hp1 _ (aI (by omega))))
 rw [←hx6] at hcx5
 refine aJ hcx5 (ar hF) (ar hF) (fun hw7=> ?_)
 replace hw7:=nzQ hw7
 revert hM;revert hF
 refine slQ ?_
 refine aT fun _ _ _=> ?_
 intro hF hM
 refine aM (n1 - 1) _ (by omega) sbQ sbQ ⟨(p1+1),rfl,⟨omQ,omQ⟩,omQ,aL hM hag1⟩
set_option maxHeartbeats 2000000 in
set_option maxRecDepth 100000 in
theorem LT (N:Nat) (ih: ∀(z2:Option Bool) (g:ao) (f_:aa) (x_:(List Int)),(okU x_.length f_)→ax f_<N→aE En 41 [.agg [.int .i64 g.P,.int .i64 g.Q,.int .i64 g.G],.agg [.int .i64 f_.Kind,.sl none 1 false (f_.Relation.Y.map (V.int .i64)),.sl none 1 false (f_.Relation.Bases.map (fun (l:List Int)=>V.sl none 1 false (l.map (V.int .i64)))),.sl none 4 true (f_.L.map aA)],.sl z2 1 false (x_.map (V.int .i64))] (.bool (cY g f_ x_)) []) (z0:Option Bool) (s:(List aa)) (f__c0:ao) (f__c1:(List Int)) (hp0: ∀x∈s,ax x<N) (hp1: ∀x∈s,okU f__c1.length x):aE En 52 [.sl z0 4 true (s.map aA),.fn 88 [.pp 3 true (.agg [.int .i64 f__c0.P,.int .i64 f__c0.Q,.int .i64 f__c0.G]),.pp 1 false (.sl none 1 false (f__c1.map (V.int .i64)))]] (.bool (pt s f__c0 f__c1)) []:=by
 generalize hM:pt s f__c0 f__c1=r
 rw [pt.eq_1] at hM
 refine bU bf bv noJ Tryz.func52 rfl Tryz.ntmps52 (by kernel_rfl) fun hw=>bu ?_
 refine spQ ?_
 replace hw:=nzQ hw
 have hM0:=hM;clear hM;obtain ⟨x1,hx2,hM⟩:=ap hM0;clear hM0
 have hcx1:=LS N ih z0 s f__c0 f__c1 (by (first|exact hp0|exact hp1)) (by (first|exact hp0|exact hp1))
 rw [←hx2] at hcx1
 refine aJ hcx1 clQ clQ (fun hw3=> ?_)
 replace hw3:=nzQ hw3
 have hF:=bW
 exact auP
instance (priority:=1007):DRD 4 32 7 [13,14,15,16,17,18,19] [] ([[],[],[1],[],[],[4],[3,4,5]]++[List.range 7,List.range 8]) []:=⟨trivial⟩
set_option maxHeartbeats 2000000 in
set_option maxRecDepth 100000 in
theorem LU (N:Nat) (ih: ∀(z2:Option Bool) (g:ao) (f_:aa) (x_:(List Int)),(okU x_.length f_)→ax f_<N→aE En 41 [.agg [.int .i64 g.P,.int .i64 g.Q,.int .i64 g.G],.agg [.int .i64 f_.Kind,.sl none 1 false (f_.Relation.Y.map (V.int .i64)),.sl none 1 false (f_.Relation.Bases.map (fun (l:List Int)=>V.sl none 1 false (l.map (V.int .i64)))),.sl none 4 true (f_.L.map aA)],.sl z2 1 false (x_.map (V.int .i64))] (.bool (cY g f_ x_)) []) (z2:Option Bool) (g:ao) (f_:aa) (x_:(List Int)) (hp0:okU x_.length f_) (hp_:ax f_<N+1):aE En 41 [.agg [.int .i64 g.P,.int .i64 g.Q,.int .i64 g.G],.agg [.int .i64 f_.Kind,.sl none 1 false (f_.Relation.Y.map (V.int .i64)),.sl none 1 false (f_.Relation.Bases.map (fun (l:List Int)=>V.sl none 1 false (l.map (V.int .i64)))),.sl none 4 true (f_.L.map aA)],.sl z2 1 false (x_.map (V.int .i64))] (.bool (pu g f_ x_)) []:=by
 generalize hM:pu g f_ x_=r
 rw [pu.eq_1] at hM
 refine bU bf bv [1,6] Tryz.func41 rfl Tryz.ntmps41 (by kernel_rfl) fun hw=>bu ?_
 refine spQ ?_
 replace hw:=nzQ hw
 have hA0:=fun a0=>KY hp0 a0
 refine lO ?_
 have hF:=bW
 revert hM;revert hF
 refine slQ ?_
 intro hF hM
 refine ko _ (⟨[(3,.pp 3 true (.agg [.int .i64 g.P,.int .i64 g.Q,.int .i64 g.G])),(4,.ptr 1 0),(5,.pp 1 false (.sl z2 1 false (x_.map (V.int .i64))))],[(0,.pvar 3 true (.agg [.int .i64 g.P,.int .i64 g.Q,.int .i64 g.G])),(1,.var 4 true (.agg [.int .i64 f_.Kind,.sl none 1 false (f_.Relation.Y.map (V.int .i64)),.sl none 1 false (f_.Relation.Bases.map (fun (l:List Int)=>V.sl none 1 false (l.map (V.int .i64)))),.sl none 4 true (f_.L.map aA)])),(2,.pvar 1 false (.sl z2 1 false (x_.map (V.int .i64))))],3⟩:St) (((m9 (S:=⟨_,_,_⟩) 0 (n:=3) (g:=true) (d:= .agg [.int .i64 g.P,.int .i64 g.Q,.int .i64 g.G]) clQ clQ).trans (pY (S:=⟨_,_,_⟩) 3 0 (n:=3) (g:=true) (d:= .agg [.int .i64 g.P,.int .i64 g.Q,.int .i64 g.G]) clQ clQ)).trans ((m9 (S:=⟨_,_,_⟩) 2 (n:=1) (g:=false) (d:= .sl z2 1 false (x_.map (V.int .i64))) clQ clQ).trans (pY (S:=⟨_,_,_⟩) 5 2 (n:=1) (g:=false) (d:= .sl z2 1 false (x_.map (V.int .i64))) clQ clQ))) sbQ sbQ ?_
 revert hM;revert hF
 refine slQ ?_
 refine cdQ (fun _ _ _=> ?_) (fun _ _ _=> ?_)
 ·intro hF hM
  have hM0:=hM;clear hM;obtain ⟨x3,hx4,hM⟩:=ap hM0;clear hM0
  have hcx3:=xj f_ (by (exact BD hp0))
  rw [←hx4] at hcx3
  refine bN hcx3 clQ clQ ?_
  exact auP
 ·intro hF hM
  refine lO ?_
  revert hM;revert hF
  refine slQ ?_
  intro hF hM
  refine ko _ (⟨[(4,.ptr 1 0),(7,.pp 1 false (.fn 88 [.pp 3 true (.agg [.int .i64 g.P,.int .i64 g.Q,.int .i64 g.G]),.pp 1 false (.sl z2 1 false (x_.map (V.int .i64)))])),(21,.bool (f_.Kind==2))],[(1,.var 4 true (.agg [.int .i64 f_.Kind,.sl none 1 false (f_.Relation.Y.map (V.int .i64)),.sl none 1 false (f_.Relation.Bases.map (fun (l:List Int)=>V.sl none 1 false (l.map (V.int .i64)))),.sl none 4 true (f_.L.map aA)])),(3,.pvar 1 false (.fn 88 [.pp 3 true (.agg [.int .i64 g.P,.int .i64 g.Q,.int .i64 g.G]),.pp 1 false (.sl z2 1 false (x_.map (V.int .i64)))]))],4⟩:St) ((m9 (S:=⟨_,_,_⟩) 3 (n:=1) (g:=false) (d:= .fn 88 [.pp 3 true (.agg [.int .i64 g.P,.int .i64 g.Q,.int .i64 g.G]),.pp 1 false (.sl z2 1 false (x_.map (V.int .i64)))]) clQ clQ).trans (pY (S:=⟨_,_,_⟩) 7 3 (n:=1) (g:=false) (d:= .fn 88 [.pp 3 true (.agg [.int .i64 g.P,.int .i64 g.Q,.int .i64 g.G]),.pp 1 false (.sl z2 1 false (x_.map (V.int .i64)))]) clQ clQ)) sbQ sbQ ?_
  revert hM;revert hF
  refine slQ ?_
  refine cdQ (fun _ _ _=> ?_) (fun _ _ _=> ?_)
  ·intro hF hM
   have hM0:=hM;clear hM;obtain ⟨x11,hx12,hM⟩:=ap hM0;clear hM0
   have hcx11:=LR N ih none (f_.L) g x_ (by (first|exact fun x hx=>Nat.lt_of_lt_of_le (b_ hx) (Nat.lt_succ_iff.1 hp_)|exact fun x hx=>s9 hp0 (by assumption) hx)) (by (first|exact fun x hx=>Nat.lt_of_lt_of_le (b_ hx) (Nat.lt_succ_iff.1 hp_)|exact fun x hx=>s9 hp0 (by assumption) hx))
   rw [←hx12] at hcx11
   refine aJ hcx11 clQ clQ (fun hw13=> ?_)
   replace hw13:=nzQ hw13
   exact auP
  ·intro hF hM
   have hM0:=hM;clear hM;obtain ⟨x15,hx16,hM⟩:=ap hM0;clear hM0
   have hcx15:=LT N ih none (f_.L) g x_ (by (first|exact fun x hx=>Nat.lt_of_lt_of_le (b_ hx) (Nat.lt_succ_iff.1 hp_)|exact fun x hx=>s9 hp0 (by assumption) hx)) (by (first|exact fun x hx=>Nat.lt_of_lt_of_le (b_ hx) (Nat.lt_succ_iff.1 hp_)|exact fun x hx=>s9 hp0 (by assumption) hx))
   rw [←hx16] at hcx15
   refine aJ hcx15 clQ clQ (fun hw17=> ?_)
   replace hw17:=nzQ hw17
   exact auP
theorem LW: ∀(N:Nat) (z2:Option Bool) (g:ao) (f_:aa) (x_:(List Int)),(okU x_.length f_)→ax f_<N→aE En 41 [.agg [.int .i64 g.P,.int .i64 g.Q,.int .i64 g.G],.agg [.int .i64 f_.Kind,.sl none 1 false (f_.Relation.Y.map (V.int .i64)),.sl none 1 false (f_.Relation.Bases.map (fun (l:List Int)=>V.sl none 1 false (l.map (V.int .i64)))),.sl none 4 true (f_.L.map aA)],.sl z2 1 false (x_.map (V.int .i64))] (.bool (cY g f_ x_)) []:=by
 intro N
 induction N with
 | zero=>intro z2 g f_ x_ h0 h;exact absurd h (Nat.not_lt_zero _)
 | succ N ih=>
  intro z2 g f_ x_ h0 h
  have h9:=LU N ih z2 g f_ x_ h0 h
  rw [K1] at h9
  exact h9
theorem LY (z2:Option Bool) (g:ao) (f_:aa) (x_:(List Int)) (hp0:okU x_.length f_):aE En 41 [.agg [.int .i64 g.P,.int .i64 g.Q,.int .i64 g.G],.agg [.int .i64 f_.Kind,.sl none 1 false (f_.Relation.Y.map (V.int .i64)),.sl none 1 false (f_.Relation.Bases.map (fun (l:List Int)=>V.sl none 1 false (l.map (V.int .i64)))),.sl none 4 true (f_.L.map aA)],.sl z2 1 false (x_.map (V.int .i64))] (.bool (cY g f_ x_)) []:=
 LW (ax f_+1) z2 g f_ x_ hp0 (Nat.lt_succ_self _)
set_option maxHeartbeats 2000000 in
set_option maxRecDepth 100000 in
instance QS (g:ao) (f_:aa) (x_:(List Int)):CM En (sE g f_ x_) 18 [.agg [.int .i64 g.P,.int .i64 g.Q,.int .i64 g.G],.agg [.int .i64 f_.Kind,.sl none 1 false (f_.Relation.Y.map (V.int .i64)),.sl none 1 false (f_.Relation.Bases.map (fun (l:List Int)=>V.sl none 1 false (l.map (V.int .i64)))),.sl none 4 true (f_.L.map aA)],.sl none 1 false (x_.map (V.int .i64))] (fun y=> .bool y) (fun _=> []):=by
 refine enQ noJ Tryz.func18 Tryz.ntmps18 (sE.eq_1 ..) fun r hw=> ?_
 refine bh fun _ _ _ _=> ?_
 refine aC fun _ _ _=> ?_
 intro hF hM
 have hM0:=hM;clear hM;obtain ⟨x7,hx8,hM⟩:=ap hM0;clear hM0
 have hcx7:=xj f_ (by (exact ‹okF _›))
 rw [←hx8] at hcx7
 refine aJ hcx7 clQ clQ (fun hw9=> ?_)
 replace hw9:=nzQ hw9
 revert hM;revert hF
 refine slQ ?_
 refine aC fun _ _ _=> ?_
 refine bh fun _ _ _ _=> ?_
 refine aC fun _ _ _=> ?_
 intro hF hM
 have hM0:=hM;clear hM;obtain ⟨x16,hx17,hM⟩:=ap hM0;clear hM0
 have hcx16:=LY none g f_ x_ (by (exact BS ‹okF _› (by omega)))
 rw [←hx17] at hcx16
 refine aJ hcx16 clQ clQ (fun hw18=> ?_)
 replace hw18:=nzQ hw18
 exact auP
set_option maxHeartbeats 2000000 in
set_option maxRecDepth 100000 in
instance QT:CM En (sF) 5 [] (fun y=> .bool y) (fun _=> []):=by
 refine enQ noJ Tryz.func5 Tryz.ntmps5 (sF.eq_1 ..) fun r hw=> ?_
 exact auR
set_option maxHeartbeats 2000000 in
set_option maxRecDepth 100000 in
instance QU (l:(List Int)):CM En (sG l) 51 [.sl none 1 false (l.map (V.int .i64))] (fun y=> .bool y) (fun _=> []):=by
 refine enQ noJ Tryz.func51 Tryz.ntmps51 (sG.eq_1 ..) fun r hw=> ?_
 exact auR
set_option maxHeartbeats 2000000 in
set_option maxRecDepth 100000 in
theorem LZ (N:Nat) (ih: ∀(f_:aa) (left:Int),ax f_<N→bG En 19 [.agg [.int .i64 f_.Kind,.sl none 1 false (f_.Relation.Y.map (V.int .i64)),.sl none 1 false (f_.Relation.Bases.map (fun (l:List Int)=>V.sl none 1 false (l.map (V.int .i64)))),.sl none 4 true (f_.L.map aA)],.ptr 0 0] [.var 1 false (.int .i64 left)] (.bool (dg f_ left).1) [.var 1 false (.int .i64 (dg f_ left).2)] []) (x_:aa) (c0:Int) (hp0:ax x_<N):bG En 53 [.agg [.int .i64 x_.Kind,.sl none 1 false (x_.Relation.Y.map (V.int .i64)),.sl none 1 false (x_.Relation.Bases.map (fun (l:List Int)=>V.sl none 1 false (l.map (V.int .i64)))),.sl none 4 true (x_.L.map aA)],.ptr 0 0] [.var 1 false (.ptr 1 0),.var 1 false (.int .i64 c0)] (.bool (pw x_ c0).1) [.var 1 false (.ptr 1 0),.var 1 false (.int .i64 (pw x_ c0).2)] []:=by
 generalize hM:pw x_ c0=r
 rw [pw.eq_1] at hM
 refine dY bf bv noJ Tryz.func53 rfl Tryz.ntmps53 (by kernel_rfl) rfl fun ks hw hwB=>bu ?_
 refine spQ ?_
 replace hw:=nzQ hw
 replace hwB:=nzB hwB
 have hM0:=hM;clear hM;obtain ⟨x1,hx2,hM⟩:=ap hM0;clear hM0
 have hcx1:=ih x_ c0 (by omega)
 rw [←hx2] at hcx1
 refine bR [1] hcx1 (by decide) lsQ lsQ (fun hw3=> ?_)
 replace hw3:=nzQ hw3
 have hF:=bW
 revert hM;revert hF
 refine slQ ?_
 intro hF hM
 subst hM
 exact bm [0,1] lsQ (by decide) lsQ
set_option maxHeartbeats 2000000 in
set_option maxRecDepth 100000 in
instance QV (s:(List (List Int))):CM En (wD s) 104 [.sl none 1 false (s.map (fun (l:List Int)=>V.sl none 1 false (l.map (V.int .i64)))),.fn 51 []] (fun y=> .int .i64 y) (fun _=> []):=by
 refine enQ noJ Tryz.func104 Tryz.ntmps104 (wD.eq_1 ..) fun r hw=> ?_
 intro hF hM
 have hM0:=hM;clear hM;obtain ⟨f1,d1,hf1,hd1,hM⟩:=aO hM0;clear hM0
 refine aS (fun n S=> ∃p:Int,S=(⟨[(0,.sl none 1 false (s.map (fun (l:List Int)=>V.sl none 1 false (l.map (V.int .i64))))),(1,.fn 51 []),(7,.int .i64 (s.length:Int)),(8,.int .i64 p)],[],0⟩:St)∧((0≤p)∧(p≤(s.length:Int)))∧((s.length:Int) - p).toNat<n∧ae n f1 d1 p=r) (((s.length:Int) - 0).toNat+1) _ sbQ sbQ ⟨0,rfl,⟨omQ,omQ⟩,(Nat.lt_succ_self _),hM⟩ ?_
 clear hM
 rintro n1 S ⟨p1,rfl,hfa1,hm1,hM⟩
 have hM0:=hM;clear hM;obtain ⟨ag1,hag1,hM⟩:=aP hM0 (by omega) hf1;clear hM0
 replace hfa1:=nzQ hfa1
 replace hm1:=nzQ hm1
 have ha1:al .i64 p1 1=p1+1:=aY omQ omQ
 replace hF:=(And.intro ha1 hF)
 revert hM;revert hF
 refine slQ ?_
 refine aC fun _ _ _=> ?_
 refine bh fun _ _ _ _=> ?_
 refine aT fun _ _ _=> ?_
 intro hF hM
 refine aM (n1 - 1) _ (by omega) sbQ sbQ ⟨(p1+1),rfl,⟨omQ,omQ⟩,omQ,aL hM hag1⟩
set_option maxHeartbeats 2000000 in
set_option maxRecDepth 100000 in
instance QW (s:(List (List Int))):CM En (sH s) 50 [.sl none 1 false (s.map (fun (l:List Int)=>V.sl none 1 false (l.map (V.int .i64)))),.fn 51 []] (fun y=> .bool y) (fun _=> []):=by
 refine enQ noJ Tryz.func50 Tryz.ntmps50 (sH.eq_1 ..) fun r hw=> ?_
 exact auR
set_option maxHeartbeats 2000000 in
set_option maxRecDepth 100000 in
theorem L8 (N:Nat) (ih: ∀(f_:aa) (left:Int),ax f_<N→bG En 19 [.agg [.int .i64 f_.Kind,.sl none 1 false (f_.Relation.Y.map (V.int .i64)),.sl none 1 false (f_.Relation.Bases.map (fun (l:List Int)=>V.sl none 1 false (l.map (V.int .i64)))),.sl none 4 true (f_.L.map aA)],.ptr 0 0] [.var 1 false (.int .i64 left)] (.bool (dg f_ left).1) [.var 1 false (.int .i64 (dg f_ left).2)] []) (z0:Option Bool) (s_:(List aa)) (f__c0:Int) (hp0: ∀x∈s_,ax x<N):bG En 92 [.sl z0 4 true (s_.map aA),.fn 53 [.ptr 0 0]] [.var 1 false (.ptr 1 0),.var 1 false (.int .i64 f__c0)] (.int .i64 (px s_ f__c0).1) [.var 1 false (.ptr 1 0),.var 1 false (.int .i64 (px s_ f__c0).2)] []:=by
 generalize hM:px s_ f__c0=r
 rw [px.eq_1] at hM
 refine dY bf bv noJ Tryz.func92 rfl Tryz.ntmps92 (by kernel_rfl) rfl fun ks hw hwB=>bu ?_
 refine spQ ?_
 replace hw:=nzQ hw
 replace hwB:=nzB hwB
 have hM0:=hM;clear hM;obtain ⟨f1,d1,hf1,hd1,hM⟩:=aO hM0;clear hM0
 refine aS (fun n S=> ∃p:Int×Int,S=(⟨[(0,.sl z0 4 true (s_.map aA)),(1,.fn 53 [.ptr 0 0]),(7,.int .i64 (s_.length:Int)),(8,.int .i64 p.1)],[(0,.lent (ks 0) 1 false (.ptr 1 0)),(1,.lent (ks 1) 1 false (.int .i64 p.2))],2⟩:St)∧((0≤p.1)∧(p.1≤(s_.length:Int)))∧((s_.length:Int) - p.1).toNat<n∧ae n f1 d1 p=r) (((s_.length:Int) - 0).toNat+1) _ sbQ sbQ ⟨(0,f__c0),rfl,⟨omQ,omQ⟩,(Nat.lt_succ_self _),hM⟩ ?_
 clear hM
 rintro n1 S ⟨p1,rfl,hfa1,hm1,hM⟩
 have hM0:=hM;clear hM;obtain ⟨ag1,hag1,hM⟩:=aP hM0 (by omega) hf1;clear hM0
 replace hfa1:=nzQ hfa1
 replace hm1:=nzQ hm1
 have ha1:al .i64 p1.1 1=p1.1+1:=aY omQ omQ
 have hF:=ha1
 revert hM;revert hF
 refine slQ ?_
 refine cdQ (fun _ _ _=> ?_) (fun _ _ _=> ?_)
 ·intro hF hM
  have hM0:=hM;clear hM;obtain ⟨x5,hx6,hM⟩:=ap hM0;clear hM0
  have hcx5:=LZ N ih (gt s_ p1.1) (p1.2) (by (exact hp0 _ (aI (by omega))))
  rw [←hx6] at hcx5
  refine bR [0,1] hcx5 (by decide) (aD hF) (aD hF) (fun hw7=> ?_)
  replace hw7:=nzQ hw7
  revert hM;revert hF
  refine slQ ?_
  refine cdQ (fun _ _ _=> ?_) (fun _ _ _=> ?_)
  ·intro hF hM
   subst hM
   exact bm [0,1] (aD hF) (by decide) (aD hF)
  ·intro hF hM
   refine aM (n1 - 1) _ (by omega) sbQ sbQ ⟨((p1.1+1),x5.2),rfl,⟨omQ,omQ⟩,omQ,aL hM hag1⟩
 ·intro hF hM
  subst hM
  exact bm [0,1] (aD hF) (by decide) (aD hF)
set_option maxHeartbeats 2000000 in
set_option maxRecDepth 100000 in
theorem L9 (N:Nat) (ih: ∀(f_:aa) (left:Int),ax f_<N→bG En 19 [.agg [.int .i64 f_.Kind,.sl none 1 false (f_.Relation.Y.map (V.int .i64)),.sl none 1 false (f_.Relation.Bases.map (fun (l:List Int)=>V.sl none 1 false (l.map (V.int .i64)))),.sl none 4 true (f_.L.map aA)],.ptr 0 0] [.var 1 false (.int .i64 left)] (.bool (dg f_ left).1) [.var 1 false (.int .i64 (dg f_ left).2)] []) (z0:Option Bool) (s_:(List aa)) (f__c0:Int) (hp0: ∀x∈s_,ax x<N):bG En 52 [.sl z0 4 true (s_.map aA),.fn 53 [.ptr 0 0]] [.var 1 false (.ptr 1 0),.var 1 false (.int .i64 f__c0)] (.bool (nz s_ f__c0).1) [.var 1 false (.ptr 1 0),.var 1 false (.int .i64 (nz s_ f__c0).2)] []:=by
 generalize hM:nz s_ f__c0=r
 rw [nz.eq_1] at hM
 refine dY bf bv noJ Tryz.func52 rfl Tryz.ntmps52 (by kernel_rfl) rfl fun ks hw hwB=>bu ?_
 refine spQ ?_
 replace hw:=nzQ hw
 replace hwB:=nzB hwB
 have hM0:=hM;clear hM;obtain ⟨x1,hx2,hM⟩:=ap hM0;clear hM0
 have hcx1:=L8 N ih z0 s_ f__c0 (by (exact hp0))
 rw [←hx2] at hcx1
 refine bR [0,1] hcx1 (by decide) lsQ lsQ (fun hw3=> ?_)
 replace hw3:=nzQ hw3
 have hF:=bW
 revert hM;revert hF
 refine slQ ?_
 intro hF hM
 subst hM
 exact bm [0,1] lsQ (by decide) lsQ
set_option maxHeartbeats 2000000 in
set_option maxRecDepth 100000 in
theorem L_ (N:Nat) (ih: ∀(f_:aa) (left:Int),ax f_<N→bG En 19 [.agg [.int .i64 f_.Kind,.sl none 1 false (f_.Relation.Y.map (V.int .i64)),.sl none 1 false (f_.Relation.Bases.map (fun (l:List Int)=>V.sl none 1 false (l.map (V.int .i64)))),.sl none 4 true (f_.L.map aA)],.ptr 0 0] [.var 1 false (.int .i64 left)] (.bool (dg f_ left).1) [.var 1 false (.int .i64 (dg f_ left).2)] []) (f_:aa) (left:Int) (hp_:ax f_<N+1):bG En 19 [.agg [.int .i64 f_.Kind,.sl none 1 false (f_.Relation.Y.map (V.int .i64)),.sl none 1 false (f_.Relation.Bases.map (fun (l:List Int)=>V.sl none 1 false (l.map (V.int .i64)))),.sl none 4 true (f_.L.map aA)],.ptr 0 0] [.var 1 false (.int .i64 left)] (.bool (nA f_ left).1) [.var 1 false (.int .i64 (nA f_ left).2)] []:=by
 generalize hM:nA f_ left=r
 rw [nA.eq_1] at hM
 refine dY bf bv noJ Tryz.func19 rfl Tryz.ntmps19 (by kernel_rfl) rfl fun ks hw hwB=>bu ?_
 refine spQ ?_
 replace hw:=nzQ hw
 replace hwB:=nzB hwB
 have hF:=bW
 revert hM;revert hF
 refine cdQ (fun _ _ _=> ?_) (fun _ _ _=> ?_)
 ·refine cdQ (fun _ _ _=> ?_) (fun _ _ _=> ?_)
  ·refine cdQ (fun _ _ _=> ?_) (fun _ _ _=> ?_)
   ·refine bh fun _ _ _ _=> ?_
    refine cdQ (fun _ _ _=> ?_) (fun _ _ _=> ?_)
    ·intro hF hM
     subst hM
     exact bm [0] (aD hF) (by decide) (aD hF)
    ·intro hF hM
     have hM0:=hM;clear hM;obtain ⟨x11,hx12,hM⟩:=ap hM0;clear hM0
     have hcx11:=L9 N ih none (f_.L) (av .i64 left 1) (by (exact fun x hx=>Nat.lt_of_lt_of_le (b_ hx) (Nat.lt_succ_iff.1 hp_)))
     rw [←hx12] at hcx11
     refine bR [2,0] hcx11 (by decide) lsQ lsQ (fun hw13=> ?_)
     replace hw13:=nzQ hw13
     revert hM;revert hF
     refine slQ ?_
     intro hF hM
     subst hM
     exact bm [0] (aD hF) (by decide) (aD hF)
   ·intro hF hM
    subst hM
    exact bm [0] (aD hF) (by decide) (aD hF)
  ·intro hF hM
   subst hM
   exact bm [0] (aD hF) (by decide) (aD hF)
 ·intro hF hM
  subst hM
  exact bm [0] (aD hF) (by decide) (aD hF)
theorem Ma: ∀(N:Nat) (f_:aa) (left:Int),ax f_<N→bG En 19 [.agg [.int .i64 f_.Kind,.sl none 1 false (f_.Relation.Y.map (V.int .i64)),.sl none 1 false (f_.Relation.Bases.map (fun (l:List Int)=>V.sl none 1 false (l.map (V.int .i64)))),.sl none 4 true (f_.L.map aA)],.ptr 0 0] [.var 1 false (.int .i64 left)] (.bool (dg f_ left).1) [.var 1 false (.int .i64 (dg f_ left).2)] []:=by
 intro N
 induction N with
 | zero=>intro f_ left h;exact absurd h (Nat.not_lt_zero _)
 | succ N ih=>
  intro f_ left h
  have h9:=L_ N ih f_ left h
  rw [KF] at h9
  exact h9
theorem Mb (f_:aa) (left:Int):bG En 19 [.agg [.int .i64 f_.Kind,.sl none 1 false (f_.Relation.Y.map (V.int .i64)),.sl none 1 false (f_.Relation.Bases.map (fun (l:List Int)=>V.sl none 1 false (l.map (V.int .i64)))),.sl none 4 true (f_.L.map aA)],.ptr 0 0] [.var 1 false (.int .i64 left)] (.bool (dg f_ left).1) [.var 1 false (.int .i64 (dg f_ left).2)] []:=
 Ma (ax f_+1) f_ left (Nat.lt_succ_self _)
set_option maxHeartbeats 2000000 in
set_option maxRecDepth 100000 in
theorem Mc (N:Nat) (ih: ∀(t_:aG) (left:Int),fa t_<N→bG En 22 [.agg [.int .i64 t_.C,.sl none 1 false (t_.P.A.map (V.int .i64)),.int .i64 t_.P.C,.sl none 1 false (t_.P.Z.map (V.int .i64)),.sl none 5 true (t_.L.map bA)],.ptr 0 0] [.var 1 false (.int .i64 left)] (.bool (dh t_ left).1) [.var 1 false (.int .i64 (dh t_ left).2)] []) (x_:aG) (c0:Int) (hp0:fa x_<N):bG En 55 [.agg [.int .i64 x_.C,.sl none 1 false (x_.P.A.map (V.int .i64)),.int .i64 x_.P.C,.sl none 1 false (x_.P.Z.map (V.int .i64)),.sl none 5 true (x_.L.map bA)],.ptr 0 0] [.var 1 false (.ptr 1 0),.var 1 false (.int .i64 c0)] (.bool (py x_ c0).1) [.var 1 false (.ptr 1 0),.var 1 false (.int .i64 (py x_ c0).2)] []:=by
 generalize hM:py x_ c0=r
 rw [py.eq_1] at hM
 refine dY bf bv noJ Tryz.func55 rfl Tryz.ntmps55 (by kernel_rfl) rfl fun ks hw hwB=>bu ?_
 refine spQ ?_
 replace hw:=nzQ hw
 replace hwB:=nzB hwB
 have hM0:=hM;clear hM;obtain ⟨x1,hx2,hM⟩:=ap hM0;clear hM0
 have hcx1:=ih x_ c0 (by omega)
 rw [←hx2] at hcx1
 refine bR [1] hcx1 (by decide) lsQ lsQ (fun hw3=> ?_)
 replace hw3:=nzQ hw3
 have hF:=bW
 revert hM;revert hF
 refine slQ ?_
 intro hF hM
 subst hM
 exact bm [0,1] lsQ (by decide) lsQ
set_option maxHeartbeats 2000000 in
set_option maxRecDepth 100000 in
theorem Md (N:Nat) (ih: ∀(t_:aG) (left:Int),fa t_<N→bG En 22 [.agg [.int .i64 t_.C,.sl none 1 false (t_.P.A.map (V.int .i64)),.int .i64 t_.P.C,.sl none 1 false (t_.P.Z.map (V.int .i64)),.sl none 5 true (t_.L.map bA)],.ptr 0 0] [.var 1 false (.int .i64 left)] (.bool (dh t_ left).1) [.var 1 false (.int .i64 (dh t_ left).2)] []) (z0:Option Bool) (s_:(List aG)) (f__c0:Int) (hp0: ∀x∈s_,fa x<N):bG En 54 [.sl z0 5 true (s_.map bA),.fn 55 [.ptr 0 0]] [.var 1 false (.ptr 1 0),.var 1 false (.int .i64 f__c0)] (.int .i64 (pz s_ f__c0).1) [.var 1 false (.ptr 1 0),.var 1 false (.int .i64 (pz s_ f__c0).2)] []:=by
 generalize hM:pz s_ f__c0=r
 rw [pz.eq_1] at hM
 refine dY bf bv noJ Tryz.func54 rfl Tryz.ntmps54 (by kernel_rfl) rfl fun ks hw hwB=>bu ?_
 refine spQ ?_
 replace hw:=nzQ hw
 replace hwB:=nzB hwB
 have hM0:=hM;clear hM;obtain ⟨f1,d1,hf1,hd1,hM⟩:=aO hM0;clear hM0
 refine aS (fun n S=> ∃p:Int×Int,S=(⟨[(0,.sl z0 5 true (s_.map bA)),(1,.fn 55 [.ptr 0 0]),(7,.int .i64 (s_.length:Int)),(8,.int .i64 p.1)],[(0,.lent (ks 0) 1 false (.ptr 1 0)),(1,.lent (ks 1) 1 false (.int .i64 p.2))],2⟩:St)∧((0≤p.1)∧(p.1≤(s_.length:Int)))∧((s_.length:Int) - p.1).toNat<n∧ae n f1 d1 p=r) (((s_.length:Int) - 0).toNat+1) _ sbQ sbQ ⟨(0,f__c0),rfl,⟨omQ,omQ⟩,(Nat.lt_succ_self _),hM⟩ ?_
 clear hM
 rintro n1 S ⟨p1,rfl,hfa1,hm1,hM⟩
 have hM0:=hM;clear hM;obtain ⟨ag1,hag1,hM⟩:=aP hM0 (by omega) hf1;clear hM0
 replace hfa1:=nzQ hfa1
 replace hm1:=nzQ hm1
 have ha1:al .i64 p1.1 1=p1.1+1:=aY omQ omQ
 have hF:=ha1
 revert hM;revert hF
 refine slQ ?_
 refine cdQ (fun _ _ _=> ?_) (fun _ _ _=> ?_)
 ·intro hF hM
  have hM0:=hM;clear hM;obtain ⟨x5,hx6,hM⟩:=ap hM0;clear hM0
  have hcx5:=Mc N ih (gt s_ p1.1) (p1.2) (by (exact hp0 _ (aI (by omega))))
  rw [←hx6] at hcx5
  refine bR [0,1] hcx5 (by decide) (aD hF) (aD hF) (fun hw7=> ?_)
  replace hw7:=nzQ hw7
  revert hM;revert hF
  refine slQ ?_
  refine cdQ (fun _ _ _=> ?_) (fun _ _ _=> ?_)
  ·intro hF hM
   subst hM
   exact bm [0,1] (aD hF) (by decide) (aD hF)
  ·intro hF hM
   refine aM (n1 - 1) _ (by omega) sbQ sbQ ⟨((p1.1+1),x5.2),rfl,⟨omQ,omQ⟩,omQ,aL hM hag1⟩
 ·intro hF hM
  subst hM
  exact bm [0,1] (aD hF) (by decide) (aD hF)
set_option maxHeartbeats 2000000 in
set_option maxRecDepth 100000 in
theorem Me (N:Nat) (ih: ∀(t_:aG) (left:Int),fa t_<N→bG En 22 [.agg [.int .i64 t_.C,.sl none 1 false (t_.P.A.map (V.int .i64)),.int .i64 t_.P.C,.sl none 1 false (t_.P.Z.map (V.int .i64)),.sl none 5 true (t_.L.map bA)],.ptr 0 0] [.var 1 false (.int .i64 left)] (.bool (dh t_ left).1) [.var 1 false (.int .i64 (dh t_ left).2)] []) (z0:Option Bool) (s_:(List aG)) (f__c0:Int) (hp0: ∀x∈s_,fa x<N):bG En 20 [.sl z0 5 true (s_.map bA),.fn 55 [.ptr 0 0]] [.var 1 false (.ptr 1 0),.var 1 false (.int .i64 f__c0)] (.bool (nB s_ f__c0).1) [.var 1 false (.ptr 1 0),.var 1 false (.int .i64 (nB s_ f__c0).2)] []:=by
 generalize hM:nB s_ f__c0=r
 rw [nB.eq_1] at hM
 refine dY bf bv noJ Tryz.func20 rfl Tryz.ntmps20 (by kernel_rfl) rfl fun ks hw hwB=>bu ?_
 refine spQ ?_
 replace hw:=nzQ hw
 replace hwB:=nzB hwB
 have hM0:=hM;clear hM;obtain ⟨x1,hx2,hM⟩:=ap hM0;clear hM0
 have hcx1:=Md N ih z0 s_ f__c0 (by (exact hp0))
 rw [←hx2] at hcx1
 refine bR [0,1] hcx1 (by decide) lsQ lsQ (fun hw3=> ?_)
 replace hw3:=nzQ hw3
 have hF:=bW
 revert hM;revert hF
 refine slQ ?_
 intro hF hM
 subst hM
 exact bm [0,1] lsQ (by decide) lsQ
set_option maxHeartbeats 2000000 in
set_option maxRecDepth 100000 in
theorem Mf (N:Nat) (ih: ∀(t_:aG) (left:Int),fa t_<N→bG En 22 [.agg [.int .i64 t_.C,.sl none 1 false (t_.P.A.map (V.int .i64)),.int .i64 t_.P.C,.sl none 1 false (t_.P.Z.map (V.int .i64)),.sl none 5 true (t_.L.map bA)],.ptr 0 0] [.var 1 false (.int .i64 left)] (.bool (dh t_ left).1) [.var 1 false (.int .i64 (dh t_ left).2)] []) (t_:aG) (left:Int) (hp_:fa t_<N+1):bG En 22 [.agg [.int .i64 t_.C,.sl none 1 false (t_.P.A.map (V.int .i64)),.int .i64 t_.P.C,.sl none 1 false (t_.P.Z.map (V.int .i64)),.sl none 5 true (t_.L.map bA)],.ptr 0 0] [.var 1 false (.int .i64 left)] (.bool (nC t_ left).1) [.var 1 false (.int .i64 (nC t_ left).2)] []:=by
 generalize hM:nC t_ left=r
 rw [nC.eq_1] at hM
 refine dY bf bv noJ Tryz.func22 rfl Tryz.ntmps22 (by kernel_rfl) rfl fun ks hw hwB=>bu ?_
 refine spQ ?_
 replace hw:=nzQ hw
 replace hwB:=nzB hwB
 have hF:=bW
 revert hM;revert hF
 refine cdQ (fun _ _ _=> ?_) (fun _ _ _=> ?_)
 ·refine cdQ (fun _ _ _=> ?_) (fun _ _ _=> ?_)
  ·refine cdQ (fun _ _ _=> ?_) (fun _ _ _=> ?_)
   ·intro hF hM
    subst hM
    exact bm [0] (aD hF) (by decide) (aD hF)
   ·intro hF hM
    have hM0:=hM;clear hM;obtain ⟨x8,hx9,hM⟩:=ap hM0;clear hM0
    have hcx8:=Me N ih none (t_.L) (av .i64 left 1) (by (exact fun x hx=>Nat.lt_of_lt_of_le (Ky hx) (Nat.lt_succ_iff.1 hp_)))
    rw [←hx9] at hcx8
    refine bR [2,0] hcx8 (by decide) lsQ lsQ (fun hw10=> ?_)
    replace hw10:=nzQ hw10
    revert hM;revert hF
    refine slQ ?_
    intro hF hM
    subst hM
    exact bm [0] (aD hF) (by decide) (aD hF)
  ·intro hF hM
   subst hM
   exact bm [0] (aD hF) (by decide) (aD hF)
 ·intro hF hM
  subst hM
  exact bm [0] (aD hF) (by decide) (aD hF)
theorem Mg: ∀(N:Nat) (t_:aG) (left:Int),fa t_<N→bG En 22 [.agg [.int .i64 t_.C,.sl none 1 false (t_.P.A.map (V.int .i64)),.int .i64 t_.P.C,.sl none 1 false (t_.P.Z.map (V.int .i64)),.sl none 5 true (t_.L.map bA)],.ptr 0 0] [.var 1 false (.int .i64 left)] (.bool (dh t_ left).1) [.var 1 false (.int .i64 (dh t_ left).2)] []:=by
 intro N
 induction N with
 | zero=>intro t_ left h;exact absurd h (Nat.not_lt_zero _)
 | succ N ih=>
  intro t_ left h
  have h9:=Mf N ih t_ left h
  rw [KG] at h9
  exact h9
theorem Mh (t_:aG) (left:Int):bG En 22 [.agg [.int .i64 t_.C,.sl none 1 false (t_.P.A.map (V.int .i64)),.int .i64 t_.P.C,.sl none 1 false (t_.P.Z.map (V.int .i64)),.sl none 5 true (t_.L.map bA)],.ptr 0 0] [.var 1 false (.int .i64 left)] (.bool (dh t_ left).1) [.var 1 false (.int .i64 (dh t_ left).2)] []:=
 Mg (fa t_+1) t_ left (Nat.lt_succ_self _)
set_option maxHeartbeats 2000000 in
set_option maxRecDepth 100000 in
instance QX (t:aG):CM En (wE t) 21 [.agg [.int .i64 t.C,.sl none 1 false (t.P.A.map (V.int .i64)),.int .i64 t.P.C,.sl none 1 false (t.P.Z.map (V.int .i64)),.sl none 5 true (t.L.map bA)]] (fun y=> .bool y) (fun _=> []):=by
 refine enQ noJ Tryz.func21 Tryz.ntmps21 (wE.eq_1 ..) fun r hw=> ?_
 intro hF hM
 have hM0:=hM;clear hM;obtain ⟨x1,hx2,hM⟩:=ap hM0;clear hM0
 have hcx1:=Mh t 60
 rw [←hx2] at hcx1
 refine bR [1] hcx1 (by decide) lsQ lsQ (fun hw3=> ?_)
 replace hw3:=nzQ hw3
 exact auP
set_option maxHeartbeats 2000000 in
set_option maxRecDepth 100000 in
instance QY (s:(List aG)):CM En (wF s) 54 [.sl none 5 true (s.map bA),.fn 21 []] (fun y=> .int .i64 y) (fun _=> []):=by
 refine enQ noJ Tryz.func54 Tryz.ntmps54 (wF.eq_1 ..) fun r hw=> ?_
 intro hF hM
 have hM0:=hM;clear hM;obtain ⟨f1,d1,hf1,hd1,hM⟩:=aO hM0;clear hM0
 refine aS (fun n S=> ∃p:Int,S=(⟨[(0,.sl none 5 true (s.map bA)),(1,.fn 21 []),(7,.int .i64 (s.length:Int)),(8,.int .i64 p)],[],0⟩:St)∧((0≤p)∧(p≤(s.length:Int)))∧((s.length:Int) - p).toNat<n∧ae n f1 d1 p=r) (((s.length:Int) - 0).toNat+1) _ sbQ sbQ ⟨0,rfl,⟨omQ,omQ⟩,(Nat.lt_succ_self _),hM⟩ ?_
 clear hM
 rintro n1 S ⟨p1,rfl,hfa1,hm1,hM⟩
 have hM0:=hM;clear hM;obtain ⟨ag1,hag1,hM⟩:=aP hM0 (by omega) hf1;clear hM0
 replace hfa1:=nzQ hfa1
 replace hm1:=nzQ hm1
 have ha1:al .i64 p1 1=p1+1:=aY omQ omQ
 replace hF:=(And.intro ha1 hF)
 revert hM;revert hF
 refine slQ ?_
 refine aC fun _ _ _=> ?_
 refine bh fun _ _ _ _=> ?_
 refine aT fun _ _ _=> ?_
 intro hF hM
 refine aM (n1 - 1) _ (by omega) sbQ sbQ ⟨(p1+1),rfl,⟨omQ,omQ⟩,omQ,aL hM hag1⟩
set_option maxHeartbeats 2000000 in
set_option maxRecDepth 100000 in
instance QZ (s:(List aG)):CM En (wG s) 20 [.sl none 5 true (s.map bA),.fn 21 []] (fun y=> .bool y) (fun _=> []):=by
 refine enQ noJ Tryz.func20 Tryz.ntmps20 (wG.eq_1 ..) fun r hw=> ?_
 exact auR
set_option maxHeartbeats 2000000 in
set_option maxRecDepth 100000 in
instance Q3 (f_:aa) (l:(List aG)):CM En (sI f_ l) 6 [.agg [.int .i64 f_.Kind,.sl none 1 false (f_.Relation.Y.map (V.int .i64)),.sl none 1 false (f_.Relation.Bases.map (fun (l:List Int)=>V.sl none 1 false (l.map (V.int .i64)))),.sl none 4 true (f_.L.map aA)],.sl none 5 true (l.map bA)] (fun y=> .bool y) (fun _=> []):=by
 refine enQ noJ Tryz.func6 Tryz.ntmps6 (sI.eq_1 ..) fun r hw=> ?_
 intro hF hM
 have hM0:=hM;clear hM;obtain ⟨x1,hx2,hM⟩:=ap hM0;clear hM0
 have hcx1:=Mb f_ 60
 rw [←hx2] at hcx1
 refine bR [1] hcx1 (by decide) lsQ lsQ (fun hw3=> ?_)
 replace hw3:=nzQ hw3
 exact auP
instance (priority:=1008):DRD 5 57 15 [12,27,28,29,30,31,32,33,34,35,36,37,38,39,40] [] ([[],[],[1],[],[1,2,3],[],[5],[1,2,3,4,5,6],[],[8],[0,1,2,3,4,5,6,7,8,9],[0,1,2,3,4,5,6,7,8,9,10],[0,1,2,3,4,5,6,7,8,9,10,11],[0,1,2,3,4,5,6,7,8,9,10,11],[0,1,2,3,4,5,6,7,8,9,10,11,12]]++[List.range 15]) []:=⟨trivial⟩
instance (priority:=1009):DRD 6 57 15 [41,42,43,44,45,46,47,48,49,50,51,52,53,54] [] [[],[],[],[],[2,3],[2,3,4],[],[],[7],[2,3,4,5,6,7,8],[2,3,4,5,6,7,8,9],[2,3,4,5,6,7,8,9,10],[2,3,4,5,6,7,8,9,10],[0,1],[0,1,2,3,4,5,6,7,8,9,10,11,13]] [(14,2)]:=⟨trivial⟩
set_option maxHeartbeats 2000000 in
set_option maxRecDepth 100000 in
theorem Mi (g:ao) (r_:aH) (c:Int) (z_:(List Int)) (hp0: ∀x∈r_.Bases,x.length≤z_.length∧x.length≤1000) (hp1:r_.Bases.length=r_.Y.length) (hp2:r_.Y.length≤8) (hp3:1≤g.Q):CM En (nD g r_ c z_) 114 [.agg [.int .i64 g.P,.int .i64 g.Q,.int .i64 g.G],.agg [.sl none 1 false (r_.Y.map (V.int .i64)),.sl none 1 false (r_.Bases.map (fun (l:List Int)=>V.sl none 1 false (l.map (V.int .i64))))],.int .i64 c,.sl none 1 false (z_.map (V.int .i64))] (fun y=> .sl none 1 false (y.map (V.int .i64))) (fun _=> []):=by
 refine enQ noJ Tryz.func114 Tryz.ntmps114 (nD.eq_1 ..) fun r hw=> ?_
 intro hF hM
 have hM0:=hM;clear hM;obtain ⟨x1,hx2,hM⟩:=ap hM0;clear hM0
 have hcx1:=cmH hx2 (CW g (r_.Bases) z_ (by (first|exact hp0|omega)) (by (first|exact hp0|omega)))
 refine aJ hcx1 clQ clQ (fun hw3=> ?_)
 replace hw3:=nzQ hw3
 revert hM;revert hF
 refine slQ ?_
 have hq4:=Kt hx2
 replace hq4:=nzQ hq4
 intro hF hM
 have hM0:=hM;clear hM;obtain ⟨f5,d5,hf5,hd5,hM⟩:=aO hM0;clear hM0
 refine aS (fun n S=> ∃p:Int×List Int,S=(⟨[(2,.int .i64 c),(4,.ptr 0 0),(9,.own 2),(20,.sl none 1 false (r_.Y.map (V.int .i64))),(21,.int .i64 (r_.Y.length:Int)),(22,.int .i64 p.1)],[(0,.var 3 true (.agg [.int .i64 g.P,.int .i64 g.Q,.int .i64 g.G])),(2,.own 3 1 false none (p.2.map (V.int .i64)))],3⟩:St)∧((0≤p.1)∧(p.1≤(r_.Y.length:Int))∧((p.2).length=(x1).length))∧((r_.Y.length:Int) - p.1).toNat<n∧ae n f5 d5 p=r) (((r_.Y.length:Int) - 0).toNat+1) _ sbQ sbQ ⟨(0,x1),rfl,⟨omQ,omQ,omQ⟩,(Nat.lt_succ_self _),hM⟩ ?_
 clear hM
 rintro n5 S ⟨p5,rfl,hfa5,hm5,hM⟩
 have hM0:=hM;clear hM;obtain ⟨ag5,hag5,hM⟩:=aP hM0 (by omega) hf5;clear hM0
 replace hfa5:=nzQ hfa5
 replace hm5:=nzQ hm5
 have ha5:al .i64 p5.1 1=p5.1+1:=aY omQ omQ
 replace hF:=(And.intro ha5 hF)
 revert hM;revert hF
 refine slQ ?_
 refine aC fun _ _ _=> ?_
 refine bh fun _ _ _ _=> ?_
 refine bh fun x12 _ _ _=> ?_
 intro hF hM
 refine aM (n5 - 1) _ (by omega) sbQ sbQ ⟨((p5.1+1),(st p5.2 p5.1 x12.1)),rfl,⟨omQ,omQ,omQ⟩,omQ,aL hM hag5⟩
instance (priority:=1010):DRD 1 53 33 [7,8,9,10,11,12,13,14,15,16,17,18,19,20,21,22,23,24,25,26,27,28,29,30,31,32,33,34,35,36,37,38,39] [] ([[],[],[0,1],[0,1,2],[0,1,2,3],[0,1,2,3,4],[0,1,2,3,4,5],[0,1,2,3,4,5,6],[0,1,2,3,4],[0,1,2,3,4,8],[0,1,2,3,4,8,9],[0,1,2,3,4,5,6,7,8,9,10],[0,1,2,3,4,5,6,7,8,9,10,11],[0,1,2,3,4,5,6,7,8,9,10,11,12],[0,1,2,3,4,5,6,7,8,9,10,11,12,13],[0,1,2,3,4,5,6,7,8,9,10,11,12,13,14],[0,1,2,3,4,5,6,7,8,9,10,11,12,13,14,15],[0,1,2,3,4,5,6,7,8,9,10,11,12,13],[0,1,2,3,4,5,6,7,8,9,10,11,12,13,17],[0,1,2,3,4,5,6,7,8,9,10,11,12,13,14,15,16,17,18],[0,1,2,3,4,5,6,7,8,9,10,11,12,13,14,15,16,17,18,19],[0,1,2,3,4,5,6,7,8,9,10,11,12,13,14,15,16,17,18,19,20],[0,1,2,3,4,5,6,7,8,9,10,11,12,13,14,15,16,17,18,19,20,21],[0,1,2,3,4,5,6,7,8,9,10,11,12,13,14,15,16,17,18,19,20,21],[0,1,2,3,4,5,6,7,8,9,10,11,12,13,14,15,16,17,18,19,20,21,23],[0,1,2,3,4,5,6,7,8,9,10,11,12,13,14,15,16,17,18,19,20,21,23,24],[0,1,2,3,4,5,6,7,8,9,10,11,12,13,14,15,16,17,18,19,20,21,22,23,24,25],[0,1,2,3,4,5,6,7,8,9,10,11,12,13,14,15,16,17,18,19,20,21,22,23,24,25,26],[0,1,2,3,4,5,6,7,8,9,10,11,12,13,14,15,16,17,18,19,20,21,22,23,24,25,26,27],[0,1,2,3,4,5,6,7,8,9,10,11,12,13,14,15,16,17,18,19,20,21,22,23,24,25,26,27,28],[0,1,2,3,4,5,6,7,8,9,10,11,12,13,14,15,16,17,18,19,20,21,22,23,24,25,26,27,28,29],[0,1,2,3,4,5,6,7,8,9,10,11,12,13,14,15,16,17,18,19,20,21,22,23,24,25,26,27,28,29],[0,1,2,3,4,5,6,7,8,9,10,11,12,13,14,15,16,17,18,19,20,21,22,23,24,25,26,27,28,29,31]]++[List.range 33,List.range 34,List.range 35]) []:=⟨trivial⟩
instance (priority:=1011):DRD 3 53 9 [43,44,45,46,47,48,49,50,51] [] ([[],[],[],[2],[],[4],[0,1,2,3,4,5],[],[7]]++[List.range 9,List.range 10]) []:=⟨trivial⟩
set_option maxHeartbeats 2000000 in
set_option maxRecDepth 100000 in
instance Q4 (g:ao) (r_:aH) (p_:cu):CM En (jz g r_ p_) 60 [.agg [.int .i64 g.P,.int .i64 g.Q,.int .i64 g.G],.agg [.sl none 1 false (r_.Y.map (V.int .i64)),.sl none 1 false (r_.Bases.map (fun (l:List Int)=>V.sl none 1 false (l.map (V.int .i64))))],.agg [.sl none 1 false (p_.A.map (V.int .i64)),.int .i64 p_.C,.sl none 1 false (p_.Z.map (V.int .i64))]] (fun y=> .bool y) (fun _=> []):=by
 refine enQ noJ Tryz.func60 Tryz.ntmps60 (jz.eq_1 ..) fun r hw=> ?_
 refine slQ ?_
 refine bh fun _ _ _ _=> ?_
 refine aC fun _ _ _=> ?_
 refine aC fun _ _ _=> ?_
 intro hF hM
 have hM0:=hM;clear hM;obtain ⟨x8,hx9,hM⟩:=ap hM0;clear hM0
 have hcx8:=cmH hx9 (CV r_ (by (clear hM;have h9:=jL ‹okR _ _›;omega)))
 refine bN hcx8 clQ clQ ?_
 revert hM;revert hF
 refine slQ ?_
 refine aC fun _ _ _=> ?_
 refine bh fun _ _ _ _=> ?_
 refine aC fun _ _ _=> ?_
 refine bh fun _ _ _ _=> ?_
 refine aT fun _ _ _=> ?_
 intro hF hM
 have hM0:=hM;clear hM;obtain ⟨x22,hx23,hM⟩:=ap hM0;clear hM0
 have hcx22:=cmH hx23 (Mi g r_ (p_.C) (p_.Z) (by (clear hM;first|exact nR ‹okR _ _› ‹_=fc _› (by omega)|(have h9:=jL ‹okR _ _›;omega))) (by (clear hM;first|exact nR ‹okR _ _› ‹_=fc _› (by omega)|(have h9:=jL ‹okR _ _›;omega))) (by (clear hM;first|exact nR ‹okR _ _› ‹_=fc _› (by omega)|(have h9:=jL ‹okR _ _›;omega))) (by (clear hM;first|exact nR ‹okR _ _› ‹_=fc _› (by omega)|(have h9:=jL ‹okR _ _›;omega))))
 refine bN hcx22 clQ clQ ?_
 exact auP
set_option maxHeartbeats 2000000 in
set_option maxRecDepth 100000 in
instance Q5 (p_:cu):CM En (l7 p_) 61 [.agg [.sl none 1 false (p_.A.map (V.int .i64)),.int .i64 p_.C,.sl none 1 false (p_.Z.map (V.int .i64))]] (fun y=> .bool y) (fun _=> []):=by
 refine enQ noJ Tryz.func61 Tryz.ntmps61 (l7.eq_1 ..) fun r hw=> ?_
 exact auR
instance (priority:=1012):DRD 11 105 22 [59,60,61,62,63,64,65,66,67,68,69,70,71,72,73,74,75,76,77,78,79,80] [] ([[],[],[],[2],[],[2,3,4],[2,3,4,5],[0,1,2,3,4,5,6],[0,1,2,3,4,5,6,7],[0,1,2,3,4,5,6,7,8],[0,1,2,3,4,5,6,7,8,9],[0,1,2,3,4,5,6,7,8,9,10],[0,1,2,3,4,5,6,7,8,9,10,11],[0,1,2,3,4,5,6,7,8,9,10,11,12],[0,1,2,3,4,5,6,7,8,9,10,11,12,13],[0,1,2,3,4,5,6,7,8,9,10,11,12,13,14],[0,1,2,3,4,5,6,7,8,9,10,11,12,13],[0,1,2,3,4,5,6,7,8,9,10,11,12,13,14,15,16],[0,1,2,3,4,5,6,7,8,9,10,11,12,13,14,15,16,17],[0,1,2,3,4,5,6,7,8,9,10,11,12,13,14,15,16,17,18],[0,1,2,3,4,5,6,7,8,9,10,11,12,13],[0,1,2,3,4,5,6,7,8,9,10,11,12,13,20]]++[List.range 22,List.range 23,List.range 24]) []:=⟨trivial⟩
instance (priority:=1013):DRD 13 105 10 [84,85,86,87,88,89,90,91,92,93] [] ([[],[],[1],[],[1,2,3],[1,2,3,4],[1,2,3,4,5],[0,1,2,3,4,5,6],[],[8]]++[List.range 10,List.range 11]) []:=⟨trivial⟩
set_option maxHeartbeats 2000000 in
set_option maxRecDepth 100000 in
theorem Mj (N:Nat) (ih: ∀(g:ao) (f_:aa) (t:aG),(1≤g.Q)→ax f_<N→aE En 24 [.agg [.int .i64 g.P,.int .i64 g.Q,.int .i64 g.G],.agg [.int .i64 f_.Kind,.sl none 1 false (f_.Relation.Y.map (V.int .i64)),.sl none 1 false (f_.Relation.Bases.map (fun (l:List Int)=>V.sl none 1 false (l.map (V.int .i64)))),.sl none 4 true (f_.L.map aA)],.agg [.int .i64 t.C,.sl none 1 false (t.P.A.map (V.int .i64)),.int .i64 t.P.C,.sl none 1 false (t.P.Z.map (V.int .i64)),.sl none 5 true (t.L.map bA)]] (.bool (kG g f_ t)) []) (g:ao) (f_:aa) (t:aG) (hp0:1≤g.Q) (hp_:ax f_<N+1):aE En 24 [.agg [.int .i64 g.P,.int .i64 g.Q,.int .i64 g.G],.agg [.int .i64 f_.Kind,.sl none 1 false (f_.Relation.Y.map (V.int .i64)),.sl none 1 false (f_.Relation.Bases.map (fun (l:List Int)=>V.sl none 1 false (l.map (V.int .i64)))),.sl none 4 true (f_.L.map aA)],.agg [.int .i64 t.C,.sl none 1 false (t.P.A.map (V.int .i64)),.int .i64 t.P.C,.sl none 1 false (t.P.Z.map (V.int .i64)),.sl none 5 true (t.L.map bA)]] (.bool (pA g f_ t)) []:=by
 generalize hM:pA g f_ t=r
 rw [pA.eq_1] at hM
 refine bU bf bv noJ Tryz.func24 rfl Tryz.ntmps24 (by kernel_rfl) fun hw=>bu ?_
 refine spQ ?_
 replace hw:=nzQ hw
 have hF:=bW
 revert hM;revert hF
 refine bh fun _ _ _ _=> ?_
 refine aT fun _ _ _=> ?_
 refine aT fun _ _ _=> ?_
 refine bh fun _ _ _ _=> ?_
 refine aC fun _ _ _=> ?_
 refine aT fun _ _ _=> ?_
 intro hF hM
 have hM0:=hM;clear hM;obtain ⟨f28,d28,hf28,hd28,hM⟩:=aO hM0;clear hM0
 refine aS (fun n S=> ∃p:Int×Int,S=(⟨[(3,.ptr 0 0),(4,.ptr 1 0),(5,.ptr 2 0),(7,.int .i64 p.1),(52,.sl none 4 true (f_.L.map aA)),(53,.int .i64 (f_.L.length:Int)),(54,.int .i64 p.2)],[(0,.var 3 true (.agg [.int .i64 g.P,.int .i64 g.Q,.int .i64 g.G])),(1,.var 4 true (.agg [.int .i64 f_.Kind,.sl none 1 false (f_.Relation.Y.map (V.int .i64)),.sl none 1 false (f_.Relation.Bases.map (fun (l:List Int)=>V.sl none 1 false (l.map (V.int .i64)))),.sl none 4 true (f_.L.map aA)])),(2,.var 5 true (.agg [.int .i64 t.C,.sl none 1 false (t.P.A.map (V.int .i64)),.int .i64 t.P.C,.sl none 1 false (t.P.Z.map (V.int .i64)),.sl none 5 true (t.L.map bA)]))],3⟩:St)∧((0≤p.2)∧(p.2≤(f_.L.length:Int)))∧((f_.L.length:Int) - p.2).toNat<n∧ae n f28 d28 p=r) (((f_.L.length:Int) - 0).toNat+1) _ sbQ sbQ ⟨(0,0),rfl,⟨omQ,omQ⟩,(Nat.lt_succ_self _),hM⟩ ?_
 clear hM
 rintro n28 S ⟨p28,rfl,hfa28,hm28,hM⟩
 have hM0:=hM;clear hM;obtain ⟨ag28,hag28,hM⟩:=aP hM0 (by omega) hf28;clear hM0
 replace hfa28:=nzQ hfa28
 replace hm28:=nzQ hm28
 have ha28:al .i64 p28.2 1=p28.2+1:=aY omQ omQ
 replace hF:=(And.intro ha28 hF)
 revert hM;revert hF
 refine slQ ?_
 refine aC fun _ _ _=> ?_
 intro hF hM
 have hM0:=hM;clear hM;obtain ⟨x33,hx34,hM⟩:=ap hM0;clear hM0
 have hcx33:=ih g (gt f_.L p28.2) (gt t.L p28.2) (by (exact pfQ)) (by (have h9:=b_ (f:=f_) (aI (l:=f_.L) (i:=p28.2) (by omega));omega))
 rw [←hx34] at hcx33
 refine bN hcx33 (ar hF) (ar hF) ?_
 revert hM;revert hF
 refine slQ ?_
 refine aC fun _ _ _=> ?_
 refine cdQ (fun _ _ _=> ?_) (fun _ _ _=> ?_)
 ·refine aT fun _ _ _=> ?_
  intro hF hM
  refine aM (n28 - 1) _ (by omega) sbQ sbQ ⟨((aQ .i64 (al .i64 p28.1 (gt t.L p28.2).C) g.Q),(p28.2+1)),rfl,⟨omQ,omQ⟩,omQ,aL hM hag28⟩
 ·intro hF hM
  refine aM (n28 - 1) _ (by omega) sbQ sbQ ⟨((aQ .i64 (al .i64 p28.1 (gt t.L p28.2).C) g.Q),(p28.2+1)),rfl,⟨omQ,omQ⟩,omQ,aL hM hag28⟩
theorem Mk: ∀(N:Nat) (g:ao) (f_:aa) (t:aG),(1≤g.Q)→ax f_<N→aE En 24 [.agg [.int .i64 g.P,.int .i64 g.Q,.int .i64 g.G],.agg [.int .i64 f_.Kind,.sl none 1 false (f_.Relation.Y.map (V.int .i64)),.sl none 1 false (f_.Relation.Bases.map (fun (l:List Int)=>V.sl none 1 false (l.map (V.int .i64)))),.sl none 4 true (f_.L.map aA)],.agg [.int .i64 t.C,.sl none 1 false (t.P.A.map (V.int .i64)),.int .i64 t.P.C,.sl none 1 false (t.P.Z.map (V.int .i64)),.sl none 5 true (t.L.map bA)]] (.bool (kG g f_ t)) []:=by
 intro N
 induction N with
 | zero=>intro g f_ t h0 h;exact absurd h (Nat.not_lt_zero _)
 | succ N ih=>
  intro g f_ t h0 h
  have h9:=Mj N ih g f_ t h0 h
  rw [Li] at h9
  exact h9
theorem Ml (g:ao) (f_:aa) (t:aG) (hp0:1≤g.Q):aE En 24 [.agg [.int .i64 g.P,.int .i64 g.Q,.int .i64 g.G],.agg [.int .i64 f_.Kind,.sl none 1 false (f_.Relation.Y.map (V.int .i64)),.sl none 1 false (f_.Relation.Bases.map (fun (l:List Int)=>V.sl none 1 false (l.map (V.int .i64)))),.sl none 4 true (f_.L.map aA)],.agg [.int .i64 t.C,.sl none 1 false (t.P.A.map (V.int .i64)),.int .i64 t.P.C,.sl none 1 false (t.P.Z.map (V.int .i64)),.sl none 5 true (t.L.map bA)]] (.bool (kG g f_ t)) []:=
 Mk (ax f_+1) g f_ t hp0 (Nat.lt_succ_self _)
set_option maxHeartbeats 2000000 in
set_option maxRecDepth 100000 in
instance Q6 (g:ao) (f_:aa) (t:aG):CM En (jA g f_ t) 7 [.agg [.int .i64 g.P,.int .i64 g.Q,.int .i64 g.G],.agg [.int .i64 f_.Kind,.sl none 1 false (f_.Relation.Y.map (V.int .i64)),.sl none 1 false (f_.Relation.Bases.map (fun (l:List Int)=>V.sl none 1 false (l.map (V.int .i64)))),.sl none 4 true (f_.L.map aA)],.agg [.int .i64 t.C,.sl none 1 false (t.P.A.map (V.int .i64)),.int .i64 t.P.C,.sl none 1 false (t.P.Z.map (V.int .i64)),.sl none 5 true (t.L.map bA)]] (fun y=> .bool y) (fun _=> []):=by
 refine enQ noJ Tryz.func7 Tryz.ntmps7 (jA.eq_1 ..) fun r hw=> ?_
 refine bh fun _ hx2 _ _=> ?_
 have hq5:=Lr hx2
 replace hq5:=nzQ hq5
 refine aC fun _ _ _=> ?_
 intro hF hM
 have hM0:=hM;clear hM;obtain ⟨x8,hx9,hM⟩:=ap hM0;clear hM0
 have hcx8:=Ml g f_ t (by (exact pfQ))
 rw [←hx9] at hcx8
 refine aJ hcx8 clQ clQ (fun hw10=> ?_)
 replace hw10:=nzQ hw10
 exact auP
set_option maxHeartbeats 2000000 in
set_option maxRecDepth 100000 in
theorem mw (a_:Int) (b:Int) (m:Int) (hp0:0≤a_) (hp1:a_<m) (hp2:0≤b) (hp3:m<2305843009213693952):CM En (dt a_ b m) 116 [.int .i64 a_,.int .i64 b,.int .i64 m] (fun y=> .int .i64 y) (fun _=> []):=by
 refine enQ noJ Tryz.func116 Tryz.ntmps116 (dt.eq_1 ..) fun r hw=> ?_
 refine cdQ (fun _ _ _=> ?_) (fun _ _ _=> ?_)
 ·refine aT fun _ _ _=> ?_
  intro hF hM
  have hM0:=hM;clear hM;obtain ⟨f6,d6,hf6,hd6,hM⟩:=aO hM0;clear hM0
  refine aS (fun n S=> ∃p:Int×Int×Int,S=(⟨[(0,.int .i64 p.1),(1,.int .i64 p.2.1),(2,.int .i64 m),(7,.int .i64 p.2.2)],[],0⟩:St)∧((0≤p.1∧p.1<m∧0≤p.2.1∧p.2.1≤b∧0≤p.2.2∧p.2.2<m))∧p.2.1.toNat<n∧ae n f6 d6 p=r) (b.toNat+1) _ sbQ sbQ ⟨(a_,b,0),rfl,by ((try dsimp only);omega),(Nat.lt_succ_self _),hM⟩ ?_
  clear hM
  rintro n6 S ⟨p6,rfl,hF4_0,hm6,hM⟩
  have hM0:=hM;clear hM;obtain ⟨ag6,hag6,hM⟩:=aP hM0 (by omega) hf6;clear hM0
  replace hm6:=nzQ hm6
  revert hM;revert hF
  refine slQ ?_
  refine aC fun _ _ _=> ?_
  have ha9:aQ .i64 p6.2.1 2=(p6.2.1% 2):=nf am am
  intro hF hM
  try simp only [ha9]
  replace hF:=(And.intro ha9 hF)
  revert hM;revert hF
  refine slQ ?_
  refine cdQ (fun _ _ _=> ?_) (fun _ _ _=> ?_)
  ·have ha12:al .i64 p6.2.2 p6.1=(p6.2.2+p6.1):=dq am am
   intro hF hM
   try simp only [ha12]
   replace hF:=(And.intro ha12 hF)
   revert hM;revert hF
   refine slQ ?_
   have ha13:al .i64 p6.1 p6.1=(p6.1+p6.1):=dq am am
   intro hF hM
   try simp only [ha13]
   replace hF:=(And.intro ha13 hF)
   revert hM;revert hF
   refine slQ ?_
   have ha14:bP .i64 p6.2.1 2=(p6.2.1/2):=js am am
   intro hF hM
   try simp only [ha14]
   replace hF:=(And.intro ha14 hF)
   revert hM;revert hF
   refine slQ ?_
   intro hF hM
   refine aM (n6 - 1) _ (by omega) sbQ sbQ ⟨((aQ .i64 (p6.1+p6.1) m),(p6.2.1/2),(aQ .i64 (p6.2.2+p6.1) m)),rfl,by (clear hM;have h9:=kU (a:=p6.1+p6.1) (m:=m) (by omega) (by omega);have h8:=kU (a:=p6.2.2+p6.1) (m:=m) (by omega) (by omega);(try dsimp only);omega),omQ,aL hM hag6⟩
  ·have ha16:al .i64 p6.1 p6.1=(p6.1+p6.1):=dq am am
   intro hF hM
   try simp only [ha16]
   replace hF:=(And.intro ha16 hF)
   revert hM;revert hF
   refine slQ ?_
   have ha17:bP .i64 p6.2.1 2=(p6.2.1/2):=js am am
   intro hF hM
   try simp only [ha17]
   replace hF:=(And.intro ha17 hF)
   revert hM;revert hF
   refine slQ ?_
   intro hF hM
   refine aM (n6 - 1) _ (by omega) sbQ sbQ ⟨((aQ .i64 (p6.1+p6.1) m),(p6.2.1/2),p6.2.2),rfl,by (clear hM;have h9:=kU (a:=p6.1+p6.1) (m:=m) (by omega) (by omega);have h8:=kU (a:=p6.2.2+p6.1) (m:=m) (by omega) (by omega);(try dsimp only);omega),omQ,aL hM hag6⟩
 ·intro hF hM
  have hM0:=hM;clear hM;obtain ⟨f20,d20,hf20,hd20,hM⟩:=aO hM0;clear hM0
  refine aS (fun n S=> ∃p:Int×Int×Int,S=(⟨[(0,.int .i64 p.1),(1,.int .i64 p.2.1),(2,.int .i64 m),(7,.int .i64 p.2.2)],[],0⟩:St)∧((0≤p.1∧p.1<m∧0≤p.2.1∧p.2.1≤b∧0≤p.2.2∧p.2.2<m))∧p.2.1.toNat<n∧ae n f20 d20 p=r) (b.toNat+1) _ sbQ sbQ ⟨(a_,b,0),rfl,by ((try dsimp only);omega),(Nat.lt_succ_self _),hM⟩ ?_
  clear hM
  rintro n20 S ⟨p20,rfl,hF4_0,hm20,hM⟩
  have hM0:=hM;clear hM;obtain ⟨ag20,hag20,hM⟩:=aP hM0 (by omega) hf20;clear hM0
  replace hm20:=nzQ hm20
  revert hM;revert hF
  refine slQ ?_
  refine aC fun _ _ _=> ?_
  have ha23:aQ .i64 p20.2.1 2=(p20.2.1% 2):=nf am am
  intro hF hM
  try simp only [ha23]
  replace hF:=(And.intro ha23 hF)
  revert hM;revert hF
  refine slQ ?_
  refine cdQ (fun _ _ _=> ?_) (fun _ _ _=> ?_)
  ·have ha26:al .i64 p20.2.2 p20.1=(p20.2.2+p20.1):=dq am am
   intro hF hM
   try simp only [ha26]
   replace hF:=(And.intro ha26 hF)
   revert hM;revert hF
   refine slQ ?_
   have ha27:al .i64 p20.1 p20.1=(p20.1+p20.1):=dq am am
   intro hF hM
   try simp only [ha27]
   replace hF:=(And.intro ha27 hF)
   revert hM;revert hF
   refine slQ ?_
   have ha28:bP .i64 p20.2.1 2=(p20.2.1/2):=js am am
   intro hF hM
   try simp only [ha28]
   replace hF:=(And.intro ha28 hF)
   revert hM;revert hF
   refine slQ ?_
   intro hF hM
   refine aM (n20 - 1) _ (by omega) sbQ sbQ ⟨((aQ .i64 (p20.1+p20.1) m),(p20.2.1/2),(aQ .i64 (p20.2.2+p20.1) m)),rfl,by (clear hM;have h9:=kU (a:=p20.1+p20.1) (m:=m) (by omega) (by omega);have h8:=kU (a:=p20.2.2+p20.1) (m:=m) (by omega) (by omega);(try dsimp only);omega),omQ,aL hM hag20⟩
  ·have ha30:al .i64 p20.1 p20.1=(p20.1+p20.1):=dq am am
   intro hF hM
   try simp only [ha30]
   replace hF:=(And.intro ha30 hF)
   revert hM;revert hF
   refine slQ ?_
   have ha31:bP .i64 p20.2.1 2=(p20.2.1/2):=js am am
   intro hF hM
   try simp only [ha31]
   replace hF:=(And.intro ha31 hF)
   revert hM;revert hF
   refine slQ ?_
   intro hF hM
   refine aM (n20 - 1) _ (by omega) sbQ sbQ ⟨((aQ .i64 (p20.1+p20.1) m),(p20.2.1/2),p20.2.2),rfl,by (clear hM;have h9:=kU (a:=p20.1+p20.1) (m:=m) (by omega) (by omega);have h8:=kU (a:=p20.2.2+p20.1) (m:=m) (by omega) (by omega);(try dsimp only);omega),omQ,aL hM hag20⟩
set_option maxHeartbeats 2000000 in
set_option maxRecDepth 100000 in
theorem ql (a_:Int) (e_:Int) (m:Int) (hp0:0≤a_) (hp1:a_<m) (hp2:0≤e_) (hp3:m<2305843009213693952):CM En (dj a_ e_ m) 76 [.int .i64 a_,.int .i64 e_,.int .i64 m] (fun y=> .int .i64 y) (fun _=> []):=by
 refine enQ noJ Tryz.func76 Tryz.ntmps76 (dj.eq_1 ..) fun r hw=> ?_
 have h0_0:=sQ (m:=m) (by omega)
 refine slQ ?_
 intro hF hM
 have hM0:=hM;clear hM;obtain ⟨f1,d1,hf1,hd1,hM⟩:=aO hM0;clear hM0
 refine aS (fun n S=> ∃p:Int×Int×Int,S=(⟨[(0,.int .i64 p.1),(1,.int .i64 p.2.1),(2,.int .i64 m),(7,.int .i64 p.2.2)],[],0⟩:St)∧((0≤p.1)∧(p.1<m)∧(0≤p.2.1)∧(p.2.1≤e_)∧(0≤p.2.2)∧(p.2.2<m))∧p.2.1.toNat<n∧ae n f1 d1 p=r) (e_.toNat+1) _ sbQ sbQ ⟨(a_,e_,(aQ .i64 1 m)),rfl,⟨omQ,omQ,omQ,omQ,omQ,omQ⟩,(Nat.lt_succ_self _),hM⟩ ?_
 clear hM
 rintro n1 S ⟨p1,rfl,hfa1,hm1,hM⟩
 have hM0:=hM;clear hM;obtain ⟨ag1,hag1,hM⟩:=aP hM0 (by omega) hf1;clear hM0
 replace hfa1:=nzQ hfa1
 replace hm1:=nzQ hm1
 revert hM;revert hF
 refine slQ ?_
 refine aC fun _ _ _=> ?_
 have ha4:aQ .i64 p1.2.1 2=(p1.2.1% 2):=nf am am
 intro hF hM
 try simp only [ha4]
 replace hF:=(And.intro ha4 hF)
 revert hM;revert hF
 refine slQ ?_
 refine cdQ (fun _ _ _=> ?_) (fun _ _ _=> ?_)
 ·intro hF hM
  have hM0:=hM;clear hM;obtain ⟨x7,hx8,hM⟩:=ap hM0;clear hM0
  have hcx7:=cmH hx8 (mw (p1.2.2) (p1.1) m (by (exact pfQ)) (by (exact pfQ)) (by (exact pfQ)) (by (exact pfQ)))
  refine aJ hcx7 (ar hF) (ar hF) (fun hw9=> ?_)
  replace hw9:=nzQ hw9
  revert hM;revert hF
  refine slQ ?_
  have hq10:=jK hx8 (by omega) (by omega) (by omega)
  replace hq10:=nzQ hq10
  intro hF hM
  have hM0:=hM;clear hM;obtain ⟨x11,hx12,hM⟩:=ap hM0;clear hM0
  have hcx11:=cmH hx12 (mw (p1.1) (p1.1) m (by (exact pfQ)) (by (exact pfQ)) (by (exact pfQ)) (by (exact pfQ)))
  refine aJ hcx11 (ar hF) (ar hF) (fun hw13=> ?_)
  replace hw13:=nzQ hw13
  revert hM;revert hF
  refine slQ ?_
  have hq14:=jK hx12 (by omega) (by omega) (by omega)
  replace hq14:=nzQ hq14
  have ha15:bP .i64 p1.2.1 2=(p1.2.1/2):=js am am
  intro hF hM
  try simp only [ha15]
  replace hF:=(And.intro ha15 hF)
  revert hM;revert hF
  refine slQ ?_
  intro hF hM
  refine aM (n1 - 1) _ (by omega) sbQ sbQ ⟨(x11,(p1.2.1/2),x7),rfl,⟨omQ,omQ,omQ,omQ,omQ,omQ⟩,omQ,aL hM hag1⟩
 ·intro hF hM
  have hM0:=hM;clear hM;obtain ⟨x17,hx18,hM⟩:=ap hM0;clear hM0
  have hcx17:=cmH hx18 (mw (p1.1) (p1.1) m (by (exact pfQ)) (by (exact pfQ)) (by (exact pfQ)) (by (exact pfQ)))
  refine aJ hcx17 (ar hF) (ar hF) (fun hw19=> ?_)
  replace hw19:=nzQ hw19
  revert hM;revert hF
  refine slQ ?_
  have hq20:=jK hx18 (by omega) (by omega) (by omega)
  replace hq20:=nzQ hq20
  have ha21:bP .i64 p1.2.1 2=(p1.2.1/2):=js am am
  intro hF hM
  try simp only [ha21]
  replace hF:=(And.intro ha21 hF)
  revert hM;revert hF
  refine slQ ?_
  intro hF hM
  refine aM (n1 - 1) _ (by omega) sbQ sbQ ⟨(x17,(p1.2.1/2),p1.2.2),rfl,⟨omQ,omQ,omQ,omQ,omQ,omQ⟩,omQ,aL hM hag1⟩
set_option maxHeartbeats 2000000 in
set_option maxRecDepth 100000 in
theorem Mm (n_:Int) (a_:Int) (hp0:0≤a_) (hp1:a_<n_) (hp2:1<n_) (hp3:n_<2305843009213693952):CM En (pB n_ a_) 131 [.int .i64 n_,.int .i64 a_] (fun y=> .bool y) (fun _=> []):=by
 refine enQ noJ Tryz.func131 Tryz.ntmps131 (pB.eq_1 ..) fun r hw=> ?_
 have ha1:av .i64 n_ 1=(n_ - 1):=dc am am
 intro hF hM
 try simp only [ha1]
 have hM0:=hM;clear hM;obtain ⟨f2,d2,hf2,hd2,hM⟩:=aO hM0;clear hM0
 refine aS (fun n S=> ∃p:Int×Int,S=(⟨[(0,.int .i64 n_),(1,.int .i64 a_),(5,.int .i64 p.1),(6,.int .i64 p.2)],[],0⟩:St)∧((1≤p.1)∧(p.1<n_)∧(0≤p.2)∧(p.2+p.1≤n_))∧p.1.toNat<n∧ae n f2 d2 p=r) ((n_ - 1).toNat+1) _ sbQ sbQ ⟨((n_ - 1),0),rfl,⟨omQ,omQ,omQ,omQ⟩,(Nat.lt_succ_self _),hM⟩ ?_
 clear hM
 rintro n2 S ⟨p2,rfl,hfa2,hm2,hM⟩
 have hM0:=hM;clear hM;obtain ⟨ag2,hag2,hM⟩:=aP hM0 (by omega) hf2;clear hM0
 replace hfa2:=nzQ hfa2
 replace hm2:=nzQ hm2
 replace hF:=(And.intro ha1 hF)
 revert hM;revert hF
 refine slQ ?_
 have ha3:aQ .i64 p2.1 2=(p2.1% 2):=nf am am
 intro hF hM
 try simp only [ha3]
 replace hF:=(And.intro ha3 hF)
 revert hM;revert hF
 refine slQ ?_
 refine cdQ (fun _ _ _=> ?_) (fun _ _ _=> ?_)
 ·have ha6:bP .i64 p2.1 2=(p2.1/2):=js am am
  intro hF hM
  try simp only [ha6]
  replace hF:=(And.intro ha6 hF)
  revert hM;revert hF
  refine slQ ?_
  have ha7:al .i64 p2.2 1=(p2.2+1):=dq am am
  intro hF hM
  try simp only [ha7]
  refine aM (n2 - 1) _ (by omega) sbQ sbQ ⟨((p2.1/2),(p2.2+1)),rfl,⟨omQ,omQ,omQ,omQ⟩,omQ,aL hM hag2⟩
 ·intro hF hM
  have hM0:=hM;clear hM;obtain ⟨x9,hx10,hM⟩:=ap hM0;clear hM0
  have hcx9:=cmH hx10 (ql a_ (p2.1) n_ (by (exact pfQ)) (by (exact pfQ)) (by (exact pfQ)) (by (exact pfQ)))
  refine aJ hcx9 (ar hF) (ar hF) (fun hw11=> ?_)
  replace hw11:=nzQ hw11
  revert hM;revert hF
  refine slQ ?_
  have hq12:=sY hx10 (by omega) (by omega)
  replace hq12:=nzQ hq12
  refine aC fun _ _ _=> ?_
  refine aT fun _ _ _=> ?_
  intro hF hM
  have hM0:=hM;clear hM;obtain ⟨f19,d19,hf19,hd19,hM⟩:=aO hM0;clear hM0
  refine aS (fun n S=> ∃p:Int×Int,S=(⟨[(0,.int .i64 n_),(6,.int .i64 p2.2),(7,.int .i64 p.1),(8,.int .i64 p.2)],[],0⟩:St)∧((1≤p.2)∧(p.2≤p2.2∨p.2≤1)∧(0≤p.1)∧(p.1<n_))∧(p2.2 - p.2).toNat<n∧ae n f19 d19 p=r) ((p2.2 - 1).toNat+1) _ sbQ sbQ ⟨(x9,1),rfl,⟨omQ,omQ,omQ,omQ⟩,(Nat.lt_succ_self _),hM⟩ ?_
  clear hM
  rintro n19 S ⟨p19,rfl,hfa19,hm19,hM⟩
  have hM0:=hM;clear hM;obtain ⟨ag19,hag19,hM⟩:=aP hM0 (by omega) hf19;clear hM0
  replace hfa19:=nzQ hfa19
  replace hm19:=nzQ hm19
  have ha19:al .i64 p19.2 1=p19.2+1:=aY omQ omQ
  replace hF:=(And.intro ha19 hF)
  revert hM;revert hF
  refine slQ ?_
  refine aC fun _ _ _=> ?_
  intro hF hM
  have hM0:=hM;clear hM;obtain ⟨x22,hx23,hM⟩:=ap hM0;clear hM0
  have hcx22:=cmH hx23 (mw (p19.1) (p19.1) n_ (by (exact pfQ)) (by (exact pfQ)) (by (exact pfQ)) (by (exact pfQ)))
  refine aJ hcx22 (ar hF) (ar hF) (fun hw24=> ?_)
  replace hw24:=nzQ hw24
  revert hM;revert hF
  refine slQ ?_
  have hq25:=jK hx23 (by omega) (by omega) (by omega)
  replace hq25:=nzQ hq25
  refine aT fun _ _ _=> ?_
  intro hF hM
  refine aM (n19 - 1) _ (by omega) sbQ sbQ ⟨(x22,(p19.2+1)),rfl,⟨omQ,omQ,omQ,omQ⟩,omQ,aL hM hag19⟩
set_option maxHeartbeats 2000000 in
set_option maxRecDepth 100000 in
theorem CY (n_:Int) (hp0:n_<2305843009213693952):CM En (nE n_) 75 [.int .i64 n_] (fun y=> .bool y) (fun _=> []):=by
 refine cmQ fun r hM=> ?_
 rw [nE.eq_1] at hM
 refine bU bf bv noJ Tryz.func75 rfl Tryz.ntmps75 (by kernel_rfl) fun hw=>bu ?_
 refine spQ ?_
 replace hw:=nzQ hw
 refine bY (fun h1=> ?_) (fun h1=> ?_)
 ·rw [if_pos h1] at hM
  refine au h1 ?_
  have nh1:=nzQ h1
  try have hr2:=mpQ nh1
  subst hM
  exact cW (cQ h1)
 ·rw [if_neg (bL h1)] at hM
  refine au h1 ?_
  have nh1:=nzQ h1
  try have hr3:=mpQ nh1
  have hM0:=hM;clear hM;obtain ⟨f4,d4,hf4,hd4,hM⟩:=aO hM0;clear hM0
  refine aS (fun n S=> ∃p:Int,S=(⟨[(0,.int .i64 n_),(3,.own 0),(4,.int .i64 p)],[(0,.own 3 1 false (some false) (([2,3,5,7,11,13,17,19,23,29,31,37]:List Int).map (V.int .i64)))],1⟩:St)∧(((0≤p)∧(p≤(12:Int)))∧(jI n_ p))∧((12:Int) - p).toNat<n∧ae n f4 d4 p=r) (((12:Int) - 0).toNat+1) _ sbQ sbQ ⟨0,rfl,⟨⟨by (first|exact omQ|(clear hM;first|(have hk:=cJ (j:=p4) (by omega) (by omega);exact am))),by (first|exact omQ|(clear hM;first|(have hk:=cJ (j:=p4) (by omega) (by omega);exact am)))⟩,by (exact wK)⟩,(Nat.lt_succ_self _),hM⟩ ?_
  clear hM
  rintro n4 S ⟨p4,rfl,⟨hfa4,hF5_0⟩,hm4,hM⟩
  have hM0:=hM;clear hM;obtain ⟨ag4,hag4,hM⟩:=aP hM0 (by omega) hf4;clear hM0
  replace hfa4:=nzQ hfa4
  replace hm4:=nzQ hm4
  have ha4:al .i64 p4 1=p4+1:=aY (by (first|exact omQ|(clear hM;first|(have hk:=cJ (j:=p4) (by omega) (by omega);exact am)))) (by (first|exact omQ|(clear hM;first|(have hk:=cJ (j:=p4) (by omega) (by omega);exact am))))
  refine au ha4 ?_
  refine bY (fun h5=> ?_) (fun h5=> ?_)
  ·rw [if_pos h5] at hM
   refine au (And.intro ha4 h5) ?_
   have nh5:=nzQ h5
   try have hr6:=mpQ nh5
   refine bF (by (first|exact omQ|(clear hM;first|(have hk:=cJ (j:=p4) (by omega) (by omega);exact am)))) ?_
   have he7:=fun d=>cE (l:=([2,3,5,7,11,13,17,19,23,29,31,37]:List Int)) (f:=(V.int .i64)) (i:=p4) (by (first|exact omQ|(clear hM;first|(have hk:=cJ (j:=p4) (by omega) (by omega);exact am)))) d
   replace he7:=fun d=>spR (he7 d)
   refine au (And.intro ha4 he7) ?_
   refine bF (by (first|exact omQ|(clear hM;first|(have hk:=cJ (j:=p4) (by omega) (by omega);exact am)))) ?_
   refine au (And.intro ha4 he7) ?_
   refine bF (by (first|exact omQ|(clear hM;first|(have hk:=cJ (j:=p4) (by omega) (by omega);exact am)))) ?_
   refine au (And.intro ha4 he7) ?_
   refine bY (fun h8=> ?_) (fun h8=> ?_)
   ·rw [if_pos h8] at hM
    refine au (And.intro ha4 (And.intro he7 h8)) ?_
    have nh8:=nzQ h8
    try have hr9:=mpQ nh8
    have hA0:=fun a0 a1=>cJ (j:=p4) a0 a1
    have hF:=(And.intro h1 (And.intro ha4 (And.intro h5 (And.intro he7 h8))))
    exact auQ
   ·rw [if_neg (bL h8)] at hM
    refine au (And.intro ha4 (And.intro he7 h8)) ?_
    have nh8:=nzQ h8
    try have hr10:=mpQ nh8
    refine aM (n4 - 1) _ (by omega) sbQ sbQ ⟨(p4+1),rfl,⟨⟨by (first|exact omQ|(clear hM;first|(have hk:=cJ (j:=(p4+1)) (by omega) (by omega);exact am))),by (first|exact omQ|(clear hM;first|(have hk:=cJ (j:=(p4+1)) (by omega) (by omega);exact am)))⟩,by (clear hM;exact Ko hF5_0 (by omega) (by omega) (by omega) (by assumption))⟩,by (first|exact omQ|(clear hM;first|(have hk:=cJ (j:=(p4+1)) (by omega) (by omega);exact am))),aL hM hag4⟩
  ·rw [if_neg (bL h5)] at hM
   refine au (And.intro ha4 h5) ?_
   have nh5:=nzQ h5
   try have hr11:=mpQ nh5
   refine bY (fun h12=> ?_) (fun h12=> ?_)
   ·rw [if_pos h12] at hM
    refine au (And.intro ha4 h12) ?_
    have nh12:=nzQ h12
    try have hr13:=mpQ nh12
    exact False.elim (by (clear hM;omega))
   ·rw [if_neg (bL h12)] at hM
    refine au (And.intro ha4 h12) ?_
    have nh12:=nzQ h12
    try have hr14:=mpQ nh12
    have hM0:=hM;clear hM;obtain ⟨f15,d15,hf15,hd15,hM⟩:=aO hM0;clear hM0
    refine aS (fun n S=> ∃p:Int,S=(⟨[(0,.int .i64 n_),(3,.own 0),(5,.int .i64 p)],[(0,.own 3 1 false (some false) (([2,3,5,7,11,13,17,19,23,29,31,37]:List Int).map (V.int .i64)))],1⟩:St)∧(((0≤p)∧(p≤(12:Int)))∧(37<n_))∧((12:Int) - p).toNat<n∧ae n f15 d15 p=r) (((12:Int) - 0).toNat+1) _ sbQ sbQ ⟨0,rfl,⟨⟨by (first|exact omQ|(clear hM;first|(have hk:=cJ (j:=p15) (by omega) (by omega);exact am))),by (first|exact omQ|(clear hM;first|(have hk:=cJ (j:=p15) (by omega) (by omega);exact am)))⟩,by (clear hM;exact wM hF5_0 (by omega) (by omega))⟩,(Nat.lt_succ_self _),hM⟩ ?_
    clear hM
    rintro n15 S ⟨p15,rfl,⟨hfa15,hF12_0⟩,hm15,hM⟩
    have hM0:=hM;clear hM;obtain ⟨ag15,hag15,hM⟩:=aP hM0 (by omega) hf15;clear hM0
    replace hfa15:=nzQ hfa15
    replace hm15:=nzQ hm15
    have ha15:al .i64 p15 1=p15+1:=aY (by (first|exact omQ|(clear hM;first|(have hk:=cJ (j:=p15) (by omega) (by omega);exact am)))) (by (first|exact omQ|(clear hM;first|(have hk:=cJ (j:=p15) (by omega) (by omega);exact am))))
    refine au (And.intro ha4 ha15) ?_
    refine bY (fun h16=> ?_) (fun h16=> ?_)
    ·rw [if_pos h16] at hM
     refine au (And.intro ha4 (And.intro ha15 h16)) ?_
     have nh16:=nzQ h16
     try have hr17:=mpQ nh16
     refine bF (by (first|exact omQ|(clear hM;first|(have hk:=cJ (j:=p15) (by omega) (by omega);exact am)))) ?_
     have he18:=fun d=>cE (l:=([2,3,5,7,11,13,17,19,23,29,31,37]:List Int)) (f:=(V.int .i64)) (i:=p15) (by (first|exact omQ|(clear hM;first|(have hk:=cJ (j:=p15) (by omega) (by omega);exact am)))) d
     replace he18:=fun d=>spR (he18 d)
     refine au (And.intro ha4 (And.intro ha15 he18)) ?_
     refine bF (by (first|exact omQ|(clear hM;first|(have hk:=cJ (j:=p15) (by omega) (by omega);exact am)))) ?_
     refine au (And.intro ha4 (And.intro ha15 he18)) ?_
     have hM0:=hM;clear hM;obtain ⟨x19,hx20,hM⟩:=ap hM0;clear hM0
     have hcx19:=cmH hx20 (Mm n_ (gt ([2,3,5,7,11,13,17,19,23,29,31,37]:List Int) p15) (by (first|omega|(have hk:=cJ (j:=p15) (by omega) (by omega);omega))) (by (first|omega|(have hk:=cJ (j:=p15) (by omega) (by omega);omega))) (by (first|omega|(have hk:=cJ (j:=p15) (by omega) (by omega);omega))) (by (first|omega|(have hk:=cJ (j:=p15) (by omega) (by omega);omega))))
     refine aJ hcx19 (ar (And.intro ha4 (And.intro ha15 he18))) (ar (And.intro ha4 (And.intro ha15 he18))) (fun hw21=> ?_)
     replace hw21:=nzQ hw21
     refine au (And.intro ha4 (And.intro ha15 he18)) ?_
     refine bY (fun h22=> ?_) (fun h22=> ?_)
     ·rw [if_pos h22] at hM
      refine au (And.intro ha4 (And.intro ha15 (And.intro he18 h22))) ?_
      have nh22:=nzQ h22
      try have hr23:=mpQ nh22
      subst hM
      exact cW (cQ (And.intro ha4 (And.intro ha15 (And.intro he18 (And.intro h1 (And.intro h5 (And.intro h12 (And.intro h16 h22))))))))
     ·rw [if_neg (bL h22)] at hM
      refine au (And.intro ha4 (And.intro ha15 (And.intro he18 h22))) ?_
      have nh22:=nzQ h22
      try have hr24:=mpQ nh22
      refine aM (n15 - 1) _ (by omega) sbQ sbQ ⟨(p15+1),rfl,⟨⟨by (first|exact omQ|(clear hM;first|(have hk:=cJ (j:=(p15+1)) (by omega) (by omega);exact am))),by (first|exact omQ|(clear hM;first|(have hk:=cJ (j:=(p15+1)) (by omega) (by omega);exact am)))⟩,by (clear hM;exact hF12_0)⟩,by (first|exact omQ|(clear hM;first|(have hk:=cJ (j:=(p15+1)) (by omega) (by omega);exact am))),aL hM hag15⟩
    ·rw [if_neg (bL h16)] at hM
     refine au (And.intro ha4 (And.intro ha15 h16)) ?_
     have nh16:=nzQ h16
     try have hr25:=mpQ nh16
     subst hM
     exact cW (cQ (And.intro ha4 (And.intro ha15 (And.intro h1 (And.intro h5 (And.intro h12 h16))))))
set_option maxHeartbeats 2000000 in
set_option maxRecDepth 100000 in
instance Q7 (g:ao):CM En (ef g) 31 [.agg [.int .i64 g.P,.int .i64 g.Q,.int .i64 g.G]] (fun y=> .bool y) (fun _=> []):=by
 refine enQ noJ Tryz.func31 Tryz.ntmps31 (ef.eq_1 ..) fun r hw=> ?_
 refine aC fun _ _ _=> ?_
 refine aC fun _ _ _=> ?_
 refine aC fun _ _ _=> ?_
 refine aC fun _ _ _=> ?_
 refine aC fun _ _ _=> ?_
 refine aC fun _ _ _=> ?_
 refine aT fun _ _ _=> ?_
 intro hF hM
 have hM0:=hM;clear hM;obtain ⟨x16,hx17,hM⟩:=ap hM0;clear hM0
 have hcx16:=cmH hx17 (CY (g.P) (by (first|omega|(refine sZ (p:=g.P) ?_ ?_ ?_ ?_<;>first|omega|assumption))))
 refine aJ hcx16 clQ clQ (fun hw18=> ?_)
 replace hw18:=nzQ hw18
 revert hM;revert hF
 refine slQ ?_
 refine aC fun _ _ _=> ?_
 intro hF hM
 have hM0:=hM;clear hM;obtain ⟨x20,hx21,hM⟩:=ap hM0;clear hM0
 have hcx20:=cmH hx21 (CY (g.Q) (by (first|omega|(refine sZ (p:=g.P) ?_ ?_ ?_ ?_<;>first|omega|assumption))))
 refine aJ hcx20 clQ clQ (fun hw22=> ?_)
 replace hw22:=nzQ hw22
 revert hM;revert hF
 refine slQ ?_
 refine aC fun _ _ _=> ?_
 intro hF hM
 have hM0:=hM;clear hM;obtain ⟨x24,hx25,hM⟩:=ap hM0;clear hM0
 have hcx24:=cmH hx25 (ql (g.G) (g.Q) (g.P) (by (first|omega|assumption)) (by (first|omega|assumption)) (by (first|omega|assumption)) (by (first|omega|assumption)))
 refine aJ hcx24 clQ clQ (fun hw26=> ?_)
 replace hw26:=nzQ hw26
 exact auP
set_option maxHeartbeats 2000000 in
set_option maxRecDepth 100000 in
theorem Mn (N:Nat) (ih: ∀(f_:aa),ax f_<N→aE En 77 [.agg [.int .i64 f_.Kind,.sl none 1 false (f_.Relation.Y.map (V.int .i64)),.sl none 1 false (f_.Relation.Bases.map (fun (l:List Int)=>V.sl none 1 false (l.map (V.int .i64)))),.sl none 4 true (f_.L.map aA)]] (.int .i64 (fz f_)) []) (f_:aa) (hp_:ax f_<N+1):aE En 77 [.agg [.int .i64 f_.Kind,.sl none 1 false (f_.Relation.Y.map (V.int .i64)),.sl none 1 false (f_.Relation.Bases.map (fun (l:List Int)=>V.sl none 1 false (l.map (V.int .i64)))),.sl none 4 true (f_.L.map aA)]] (.int .i64 (pC f_)) []:=by
 generalize hM:pC f_=r
 rw [pC.eq_1] at hM
 refine bU bf bv noJ Tryz.func77 rfl Tryz.ntmps77 (by kernel_rfl) fun hw=>bu ?_
 refine spQ ?_
 replace hw:=nzQ hw
 have hM0:=hM;clear hM;obtain ⟨f1,d1,hf1,hd1,hM⟩:=aO hM0;clear hM0
 refine aS (fun n S=> ∃p:Int×Int,S=(⟨[(1,.ptr 0 0),(3,.int .i64 p.1),(4,.int .i64 p.2)],[(0,.var 4 true (.agg [.int .i64 f_.Kind,.sl none 1 false (f_.Relation.Y.map (V.int .i64)),.sl none 1 false (f_.Relation.Bases.map (fun (l:List Int)=>V.sl none 1 false (l.map (V.int .i64)))),.sl none 4 true (f_.L.map aA)]))],1⟩:St)∧((1≤p.1)∧(p.1≤61)∧(0≤p.2)∧(p.2≤(f_.L.length:Int)))∧((f_.L.length:Int) - p.2).toNat<n∧ae n f1 d1 p=r) (((f_.L.length:Int) - 0).toNat+1) _ sbQ sbQ ⟨(1,0),rfl,⟨omQ,omQ,omQ,omQ⟩,(Nat.lt_succ_self _),hM⟩ ?_
 clear hM
 rintro n1 S ⟨p1,rfl,hfa1,hm1,hM⟩
 have hM0:=hM;clear hM;obtain ⟨ag1,hag1,hM⟩:=aP hM0 (by omega) hf1;clear hM0
 replace hfa1:=nzQ hfa1
 replace hm1:=nzQ hm1
 have hF:=bW
 revert hM;revert hF
 refine slQ ?_
 refine aC fun _ _ _=> ?_
 refine aC fun _ _ _=> ?_
 intro hF hM
 have hM0:=hM;clear hM;obtain ⟨x7,hx8,hM⟩:=ap hM0;clear hM0
 have hcx7:=ih (gt f_.L p1.2) (by (have h9:=b_ (f:=f_) (aI (l:=f_.L) (i:=p1.2) (by omega));omega))
 rw [←hx8] at hcx7
 refine aJ hcx7 (ar hF) (ar hF) (fun hw9=> ?_)
 replace hw9:=nzQ hw9
 revert hM;revert hF
 refine slQ ?_
 have hq10:=Lo hx8
 replace hq10:=nzQ hq10
 have ha11:al .i64 p1.1 x7=(p1.1+x7):=dq am am
 intro hF hM
 try simp only [ha11]
 have ha12:al .i64 p1.2 1=(p1.2+1):=dq omQ omQ
 try simp only [ha12]
 refine aM (n1 - 1) _ (by omega) sbQ sbQ ⟨((p1.1+x7),(p1.2+1)),rfl,⟨omQ,omQ,omQ,omQ⟩,omQ,aL hM hag1⟩
theorem Mp: ∀(N:Nat) (f_:aa),ax f_<N→aE En 77 [.agg [.int .i64 f_.Kind,.sl none 1 false (f_.Relation.Y.map (V.int .i64)),.sl none 1 false (f_.Relation.Bases.map (fun (l:List Int)=>V.sl none 1 false (l.map (V.int .i64)))),.sl none 4 true (f_.L.map aA)]] (.int .i64 (fz f_)) []:=by
 intro N
 induction N with
 | zero=>intro f_ h;exact absurd h (Nat.not_lt_zero _)
 | succ N ih=>
  intro f_ h
  have h9:=Mn N ih f_ h
  rw [Ld] at h9
  exact h9
theorem Mq (f_:aa):aE En 77 [.agg [.int .i64 f_.Kind,.sl none 1 false (f_.Relation.Y.map (V.int .i64)),.sl none 1 false (f_.Relation.Bases.map (fun (l:List Int)=>V.sl none 1 false (l.map (V.int .i64)))),.sl none 4 true (f_.L.map aA)]] (.int .i64 (fz f_)) []:=
 Mp (ax f_+1) f_ (Nat.lt_succ_self _)
end Go.Proofs.YtgealhhkngbkbaaGreatDoor
