/- Texts of this proof, one after the other: U2, U3. -/
import Derived.Test.YtgealhhkngbkbaaGreatDoorZ10
set_option linter.unusedSimpArgs false
set_option linter.unusedVariables false
set_option maxHeartbeats 2000000
set_option maxRecDepth 100000
namespace Go.Proofs.YtgealhhkngbkbaaGreatDoor
open Go.RowKit
instance Rt (f_:aa) (good_c0:ak):CM En (w9 f_ good_c0) 57 [.agg [.int .i64 f_.Kind,.sl none 1 false (f_.Relation.Y.map (V.int .i64)),.sl none 1 false (f_.Relation.Bases.map (fun (l:List Int)=>V.sl none 1 false (l.map (V.int .i64)))),.sl none 4 true (f_.L.map aw)],.fn 58 [.pp 3 true (.agg [.int .i64 good_c0.P,.int .i64 good_c0.Q,.int .i64 good_c0.G])]] (fun y=> .bool y) (fun _=> []):=by
 refine enQ [2] Tryz.func57 Tryz.ntmps57 (w9.eq_1 ..) fun r hw=> ?_
 intro hF hM
 refine kW ?_
 revert hM;revert hF
 refine slQ ?_
 intro hF hM
 refine j4 _ (⟨[(2,.ptr 0 0),(3,.pp 1 false (.fn 58 [.pp 3 true (.agg [.int .i64 good_c0.P,.int .i64 good_c0.Q,.int .i64 good_c0.G])])),(5,.ptr 2 0)],[(0,.var 4 true (.agg [.int .i64 f_.Kind,.sl none 1 false (f_.Relation.Y.map (V.int .i64)),.sl none 1 false (f_.Relation.Bases.map (fun (l:List Int)=>V.sl none 1 false (l.map (V.int .i64)))),.sl none 4 true (f_.L.map aw)])),(1,.pvar 1 false (.fn 58 [.pp 3 true (.agg [.int .i64 good_c0.P,.int .i64 good_c0.Q,.int .i64 good_c0.G])])),(2,.var 1 false (.int .i64 30))],3⟩:St) ((mi (S:=⟨_,_,_⟩) 1 (n:=1) (g:=false) (d:= .fn 58 [.pp 3 true (.agg [.int .i64 good_c0.P,.int .i64 good_c0.Q,.int .i64 good_c0.G])]) clQ clQ).trans (oq (S:=⟨_,_,_⟩) 3 1 (n:=1) (g:=false) (d:= .fn 58 [.pp 3 true (.agg [.int .i64 good_c0.P,.int .i64 good_c0.Q,.int .i64 good_c0.G])]) clQ clQ)) sbQ sbQ ?_
 revert hM;revert hF
 refine slQ ?_
 intro hF hM
 replace hM:=au hM;obtain ⟨x1,hx2,hM⟩:=hM
 have hcx1:=Mz f_ 1 30 good_c0
 rw [←hx2] at hcx1
 refine bL [2] hcx1 (by decide) lsQ lsQ (fun hw3=> ?_)
 replace hw3:=nzQ hw3
 exact auP
instance Ru (g:ak) (f_:aa):CM En (bD g f_) 23 [.agg [.int .i64 g.P,.int .i64 g.Q,.int .i64 g.G],.agg [.int .i64 f_.Kind,.sl none 1 false (f_.Relation.Y.map (V.int .i64)),.sl none 1 false (f_.Relation.Bases.map (fun (l:List Int)=>V.sl none 1 false (l.map (V.int .i64)))),.sl none 4 true (f_.L.map aw)]] (fun y=> .bool y) (fun _=> []):=by
 refine enQ noJ Tryz.func23 Tryz.ntmps23 (bD.eq_1 ..) fun r hw=> ?_
 exact auR
instance Rv (g:ak) (x_:Int):CM En (gU g x_) 35 [.agg [.int .i64 g.P,.int .i64 g.Q,.int .i64 g.G],.int .i64 x_] (fun y=> .bool y) (fun _=> []):=by
 refine enQ noJ Tryz.func35 Tryz.ntmps35 (gU.eq_1 ..) fun r hw=> ?_
 exact auR
instance Rw (x_:Int) (c0:ak):CM En (nS x_ c0) 87 [.int .i64 x_,.pp 3 true (.agg [.int .i64 c0.P,.int .i64 c0.Q,.int .i64 c0.G])] (fun y=> .bool y) (fun _=> []):=by
 refine enQ noJ Tryz.func87 Tryz.ntmps87 (nS.eq_1 ..) fun r hw=> ?_
 exact auR
instance Rx (s:(List Int)) (f__c0:ak):CM En (xa s f__c0) 141 [.sl none 1 false (s.map (V.int .i64)),.fn 87 [.pp 3 true (.agg [.int .i64 f__c0.P,.int .i64 f__c0.Q,.int .i64 f__c0.G])]] (fun y=> .int .i64 y) (fun _=> []):=by
 refine enQ noJ Tryz.func141 Tryz.ntmps141 (xa.eq_1 ..) fun r hw=> ?_
 intro hF hM
 replace hM:=aS hM;obtain ⟨f1,d1,hf1,hd1,hM⟩:=hM
 refine bk (fun n S=> ∃p:Int,S=(⟨[(0,.sl none 1 false (s.map (V.int .i64))),(1,.fn 87 [.pp 3 true (.agg [.int .i64 f__c0.P,.int .i64 f__c0.Q,.int .i64 f__c0.G])]),(7,.int .i64 (s.length:Int)),(8,.int .i64 p)],[],0⟩:St)∧((0≤p)∧(p≤(s.length:Int)))∧((s.length:Int) - p).toNat<n∧ah n f1 d1 p=r) (((s.length:Int) - 0).toNat+1) _ sbQ sbQ ⟨0,rfl,⟨omQ,omQ⟩,(Nat.lt_succ_self _),hM⟩ ?_
 clear hM
 rintro n1 S ⟨p1,rfl,hfa1,hm1,hM⟩
 replace hM:=aT hM (by omega) hf1;obtain ⟨ag1,hag1,hM⟩:=hM
 replace hfa1:=nzQ hfa1
 replace hm1:=nzQ hm1
 have ha1:ao .i64 p1 1=p1+1:=bl omQ omQ
 replace hF:=(And.intro ha1 hF)
 revert hM;revert hF
 refine slQ ?_
 refine aE fun _ _ _=> ?_
 refine aQ fun _ _ _ _=> ?_
 refine aW fun _ _ _=> ?_
 intro hF hM
 refine aP (n1 - 1) _ (by omega) sbQ sbQ ⟨(p1+1),rfl,⟨omQ,omQ⟩,omQ,aN hM hag1⟩
instance Ry (s:(List Int)) (f__c0:ak):CM En (sT s f__c0) 86 [.sl none 1 false (s.map (V.int .i64)),.fn 87 [.pp 3 true (.agg [.int .i64 f__c0.P,.int .i64 f__c0.Q,.int .i64 f__c0.G])]] (fun y=> .bool y) (fun _=> []):=by
 refine enQ noJ Tryz.func86 Tryz.ntmps86 (sT.eq_1 ..) fun r hw=> ?_
 exact auR
instance Rz (g:ak) (l:(List Int)):CM En (nT g l) 40 [.agg [.int .i64 g.P,.int .i64 g.Q,.int .i64 g.G],.sl none 1 false (l.map (V.int .i64))] (fun y=> .bool y) (fun _=> []):=by
 refine enQ noJ Tryz.func40 Tryz.ntmps40 (nT.eq_1 ..) fun r hw=> ?_
 exact auR
theorem yj (r_:aF) (hp0:1≤r_.Bases.length):CM En (cv r_) 111 [.agg [.sl none 1 false (r_.Y.map (V.int .i64)),.sl none 1 false (r_.Bases.map (fun (l:List Int)=>V.sl none 1 false (l.map (V.int .i64))))]] (fun y=> .int .i64 y) (fun _=> []):=by
 refine enQ noJ Tryz.func111 Tryz.ntmps111 (cv.eq_1 ..) fun r hw=> ?_
 exact auR
instance RA (x_:Int) (c0:ak):CM En (nU x_ c0) 155 [.int .i64 x_,.pp 3 true (.agg [.int .i64 c0.P,.int .i64 c0.Q,.int .i64 c0.G])] (fun y=> .bool y) (fun _=> []):=by
 refine enQ noJ Tryz.func155 Tryz.ntmps155 (nU.eq_1 ..) fun r hw=> ?_
 exact auR
instance RB (s:(List Int)) (f__c0:ak):CM En (xb s f__c0) 141 [.sl none 1 false (s.map (V.int .i64)),.fn 155 [.pp 3 true (.agg [.int .i64 f__c0.P,.int .i64 f__c0.Q,.int .i64 f__c0.G])]] (fun y=> .int .i64 y) (fun _=> []):=by
 refine enQ noJ Tryz.func141 Tryz.ntmps141 (xb.eq_1 ..) fun r hw=> ?_
 intro hF hM
 replace hM:=aS hM;obtain ⟨f1,d1,hf1,hd1,hM⟩:=hM
 refine bk (fun n S=> ∃p:Int,S=(⟨[(0,.sl none 1 false (s.map (V.int .i64))),(1,.fn 155 [.pp 3 true (.agg [.int .i64 f__c0.P,.int .i64 f__c0.Q,.int .i64 f__c0.G])]),(7,.int .i64 (s.length:Int)),(8,.int .i64 p)],[],0⟩:St)∧((0≤p)∧(p≤(s.length:Int)))∧((s.length:Int) - p).toNat<n∧ah n f1 d1 p=r) (((s.length:Int) - 0).toNat+1) _ sbQ sbQ ⟨0,rfl,⟨omQ,omQ⟩,(Nat.lt_succ_self _),hM⟩ ?_
 clear hM
 rintro n1 S ⟨p1,rfl,hfa1,hm1,hM⟩
 replace hM:=aT hM (by omega) hf1;obtain ⟨ag1,hag1,hM⟩:=hM
 replace hfa1:=nzQ hfa1
 replace hm1:=nzQ hm1
 have ha1:ao .i64 p1 1=p1+1:=bl omQ omQ
 replace hF:=(And.intro ha1 hF)
 revert hM;revert hF
 refine slQ ?_
 refine aE fun _ _ _=> ?_
 refine aQ fun _ _ _ _=> ?_
 refine aW fun _ _ _=> ?_
 intro hF hM
 refine aP (n1 - 1) _ (by omega) sbQ sbQ ⟨(p1+1),rfl,⟨omQ,omQ⟩,omQ,aN hM hag1⟩
instance RC (s:(List Int)) (f__c0:ak):CM En (sU s f__c0) 86 [.sl none 1 false (s.map (V.int .i64)),.fn 155 [.pp 3 true (.agg [.int .i64 f__c0.P,.int .i64 f__c0.Q,.int .i64 f__c0.G])]] (fun y=> .bool y) (fun _=> []):=by
 refine enQ noJ Tryz.func86 Tryz.ntmps86 (sU.eq_1 ..) fun r hw=> ?_
 exact auR
instance RD (g:ak) (l:(List Int)):CM En (gV g l) 112 [.agg [.int .i64 g.P,.int .i64 g.Q,.int .i64 g.G],.sl none 1 false (l.map (V.int .i64))] (fun y=> .bool y) (fun _=> []):=by
 refine enQ noJ Tryz.func112 Tryz.ntmps112 (gV.eq_1 ..) fun r hw=> ?_
 exact auR
instance RE (a_:Int) (b:Int) (m:Int):CM En (mE a_ b m) 143 [.int .i64 a_,.int .i64 b,.int .i64 m] (fun y=> .tup [.int .i64 y.1,.int .i64 y.2]) (fun _=> []):=by
 refine enQ noJ Tryz.func143 Tryz.ntmps143 (mE.eq_1 ..) fun r hw=> ?_
 refine aQ fun _ _ _ _=> ?_
 refine aW fun _ _ _=> ?_
 intro hF hM
 replace hM:=au hM;obtain ⟨x8,hx9,hM⟩:=hM
 have hcx8:=cmH hx9 (tN a_ b m (by (exact pfQ)) (by (exact pfQ)) (by (exact pfQ)))
 refine aV hcx8 clQ clQ (fun hw10=> ?_)
 replace hw10:=nzQ hw10
 exact auP
set_option maxRecDepth 512 in
instance (priority:=1004):DRD 5 43 12 [12,22,23,24,25,26,27,28,29,30,31,32] [] ([[],[],[],[1,2],[1,2,3],[],[5],[0,1,2,3,4,5,6],[0,1,2,3,4,5,6,7],[0,1,2,3,4,5,6,7,8],[0,1,2,3,4,5,6,7,8],[0,1,2,3,4,5,6,7,8,9]]++[List.range 12]) []:=⟨trivial⟩
theorem MA (g:ak) (start:Int) (bases:(List Int)) (exps:(List Int)) (hp0:bases.length≤exps.length) (hp1:bases.length≤1000):CM En (nV g start bases exps) 177 [.agg [.int .i64 g.P,.int .i64 g.Q,.int .i64 g.G],.int .i64 start,.sl none 1 false (bases.map (V.int .i64)),.sl none 1 false (exps.map (V.int .i64))] (fun y=> .int .i64 y) (fun _=> []):=by
 refine enQ noJ Tryz.func177 Tryz.ntmps177 (nV.eq_1 ..) fun r hw=> ?_
 intro hF hM
 replace hM:=aS hM;obtain ⟨f1,d1,hf1,hd1,hM⟩:=hM
 refine bk (fun n S=> ∃p:Int×Int,S=(⟨[(3,.sl none 1 false (exps.map (V.int .i64))),(4,.ptr 0 0),(9,.int .i64 p.1),(15,.sl none 1 false (bases.map (V.int .i64))),(16,.int .i64 (bases.length:Int)),(17,.int .i64 p.2)],[(0,.var 3 true (.agg [.int .i64 g.P,.int .i64 g.Q,.int .i64 g.G]))],1⟩:St)∧((0≤p.2)∧(p.2≤(bases.length:Int)))∧((bases.length:Int) - p.2).toNat<n∧ah n f1 d1 p=r) (((bases.length:Int) - 0).toNat+1) _ sbQ sbQ ⟨(start,0),rfl,⟨omQ,omQ⟩,(Nat.lt_succ_self _),hM⟩ ?_
 clear hM
 rintro n1 S ⟨p1,rfl,hfa1,hm1,hM⟩
 replace hM:=aT hM (by omega) hf1;obtain ⟨ag1,hag1,hM⟩:=hM
 replace hfa1:=nzQ hfa1
 replace hm1:=nzQ hm1
 have ha1:ao .i64 p1.2 1=p1.2+1:=bl omQ omQ
 replace hF:=(And.intro ha1 hF)
 revert hM;revert hF
 refine slQ ?_
 refine aE fun _ _ _=> ?_
 refine aQ fun _ _ _ _=> ?_
 refine aQ fun x8 _ _ _=> ?_
 intro hF hM
 refine aP (n1 - 1) _ (by omega) sbQ sbQ ⟨(x8.1,(p1.2+1)),rfl,⟨omQ,omQ⟩,omQ,aN hM hag1⟩
theorem yk (g:ak) (rows:(List (List Int))) (exps:(List Int)) (hp0: ∀x∈rows,x.length≤exps.length∧x.length≤1000) (hp1:rows.length≤1000):CM En (dF g rows exps) 142 [.agg [.int .i64 g.P,.int .i64 g.Q,.int .i64 g.G],.sl none 1 false (rows.map (fun (l:List Int)=>V.sl none 1 false (l.map (V.int .i64)))),.sl none 1 false (exps.map (V.int .i64))] (fun _=> .own 0) (fun y=> [.own 3 1 false none (y.map (V.int .i64))]):=by
 refine enQ noJ Tryz.func142 Tryz.ntmps142 (dF.eq_1 ..) fun r hw=> ?_
 intro hF hM
 replace hM:=aS hM;obtain ⟨f1,d1,hf1,hd1,hM⟩:=hM
 refine eN (fun n S=> ∃p:Int×List Int,S=(⟨[(2,.sl none 1 false (exps.map (V.int .i64))),(3,.ptr 0 0),(7,.own 1),(10,.sl none 1 false (rows.map (fun (l:List Int)=>V.sl none 1 false (l.map (V.int .i64))))),(11,.int .i64 (rows.length:Int)),(12,.int .i64 p.1)],[(0,.var 3 true (.agg [.int .i64 g.P,.int .i64 g.Q,.int .i64 g.G])),(1,.own 3 1 false none (p.2.map (V.int .i64)))],2⟩:St)∧((0≤p.1)∧(p.1≤(rows.length:Int))∧(((p.2).length:Int)≤p.1))∧((rows.length:Int) - p.1).toNat<n∧ah n f1 d1 p=r) (((rows.length:Int) - 0).toNat+1) _ _ (jZ 7 3 rfl (by decide)) sbQ sbQ ⟨(0,([]:List Int)),rfl,⟨omQ,omQ,omQ⟩,(Nat.lt_succ_self _),hM⟩ ?_
 clear hM
 rintro n1 S ⟨p1,rfl,hfa1,hm1,hM⟩
 replace hM:=aT hM (by omega) hf1;obtain ⟨ag1,hag1,hM⟩:=hM
 replace hfa1:=nzQ hfa1
 replace hm1:=nzQ hm1
 have ha1:ao .i64 p1.1 1=p1.1+1:=bl omQ omQ
 replace hF:=(And.intro ha1 hF)
 revert hM;revert hF
 refine slQ ?_
 refine cdQ (fun _ _ _=> ?_) (fun _ _ _=> ?_)
 ·intro hF hM
  replace hM:=au hM;obtain ⟨x5,hx6,hM⟩:=hM
  have hcx5:=cmH hx6 (MA g 1 (gt rows p1.1) exps (by (first|exact (hp0 _ (aK (by omega))).1|exact (hp0 _ (aK (by omega))).2)) (by (first|exact (hp0 _ (aK (by omega))).1|exact (hp0 _ (aK (by omega))).2)))
  refine aV hcx5 (aD hF) (aD hF) (fun hw7=> ?_)
  replace hw7:=nzQ hw7
  revert hM;revert hF
  refine slQ ?_
  intro hF hM
  refine aP (n1 - 1) _ (by omega) sbQ sbQ ⟨((p1.1+1),(p1.2++([x5]:List Int))),rfl,⟨omQ,omQ,omQ⟩,omQ,aN hM hag1⟩
 ·intro hF hM
  subst hM
  exact wF [1] (bs:=[.own 3 1 false none (p1.2.map (V.int .i64))]) (aD hF) (by decide) (eC hF)
set_option maxRecDepth 512 in
instance (priority:=1005):DRD 6 26 8 [16,17,18,19,20,21,22,23] [] ([[],[],[0,1],[0,1,2],[],[],[4,5],[4,5,6]]++[List.range 8]) []:=⟨trivial⟩
instance RG (s1:(List Int)) (s2:(List Int)):CM En (jp s1 s2) 113 [.sl none 1 false (s1.map (V.int .i64)),.sl none 1 false (s2.map (V.int .i64))] (fun y=> .bool y) (fun _=> []):=by
 refine enQ noJ Tryz.func113 Tryz.ntmps113 (jp.eq_1 ..) fun r hw=> ?_
 refine aW fun _ _ _=> ?_
 intro hF hM
 replace hM:=aS hM;obtain ⟨f4,d4,hf4,hd4,hM⟩:=hM
 refine bk (fun n S=> ∃p:Int,S=(⟨[(0,.sl none 1 false (s1.map (V.int .i64))),(1,.sl none 1 false (s2.map (V.int .i64))),(12,.int .i64 (s1.length:Int)),(13,.int .i64 p)],[],0⟩:St)∧((0≤p)∧(p≤(s1.length:Int)))∧((s1.length:Int) - p).toNat<n∧ah n f4 d4 p=r) (((s1.length:Int) - 0).toNat+1) _ sbQ sbQ ⟨0,rfl,⟨omQ,omQ⟩,(Nat.lt_succ_self _),hM⟩ ?_
 clear hM
 rintro n4 S ⟨p4,rfl,hfa4,hm4,hM⟩
 replace hM:=aT hM (by omega) hf4;obtain ⟨ag4,hag4,hM⟩:=hM
 replace hfa4:=nzQ hfa4
 replace hm4:=nzQ hm4
 have ha4:ao .i64 p4 1=p4+1:=bl omQ omQ
 replace hF:=(And.intro ha4 hF)
 revert hM;revert hF
 refine slQ ?_
 refine aE fun _ _ _=> ?_
 refine aW fun _ _ _=> ?_
 intro hF hM
 refine aP (n4 - 1) _ (by omega) sbQ sbQ ⟨(p4+1),rfl,⟨omQ,omQ⟩,omQ,aN hM hag4⟩
set_option maxRecDepth 512 in
instance (priority:=1006):DRD 1 32 23 [7,8,9,10,11,12,13,14,15,16,17,18,19,20,21,22,23,24,25,26,27,28,29] [] ([[],[],[0,1],[0,1,2],[0,1,2,3],[0,1,2,3,4],[0,1,2,3],[0,1,2,3,6],[0,1,2,3,4,5,6,7],[0,1,2,3,4,5,6,7,8],[0,1,2,3,4,5,6,7,8,9],[0,1,2,3,4,5,6,7,8,9,10],[0,1,2,3,4,5,6,7,8,9,10],[0,1,2,3,4,5,6,7,8,9,10,11,12],[0,1,2,3,4,5,6,7,8,9,10,11,12,13],[0,1,2,3,4,5,6,7,8,9,10,11,12,13,14],[0,1,2,3,4,5,6,7,8,9,10,11,12,13,14,15],[0,1,2,3,4,5,6,7,8,9,10,11,12,13,14,15],[0,1,2,3,4,5,6,7,8,9,10,11,12,13,14,15,17],[0,1,2,3,4,5,6,7,8,9,10,11,12,13,14,15],[0,1,2,3,4,5,6,7,8,9,10,11,12,13,14,15,16,17,18,19],[0,1,2,3,4,5,6,7,8,9,10,11,12,13,14,15],[0,1,2,3,4,5,6,7,8,9,10,11,12,13,14,15,21]]++[List.range 23,List.range 24,List.range 25]) []:=⟨trivial⟩
instance RH (g:ak) (r_:aF) (x_:(List Int)):CM En (lq g r_ x_) 89 [.agg [.int .i64 g.P,.int .i64 g.Q,.int .i64 g.G],.agg [.sl none 1 false (r_.Y.map (V.int .i64)),.sl none 1 false (r_.Bases.map (fun (l:List Int)=>V.sl none 1 false (l.map (V.int .i64))))],.sl none 1 false (x_.map (V.int .i64))] (fun y=> .bool y) (fun _=> []):=by
 refine enQ noJ Tryz.func89 Tryz.ntmps89 (lq.eq_1 ..) fun r hw=> ?_
 refine slQ ?_
 refine aQ fun _ _ _ _=> ?_
 refine aE fun _ _ _=> ?_
 intro hF hM
 replace hM:=au hM;obtain ⟨x6,hx7,hM⟩:=hM
 have hcx6:=cmH hx7 (yj r_ (by (clear hM;have h9:=eJ ‹okR _ _›;omega)))
 refine cN hcx6 clQ clQ ?_
 revert hM;revert hF
 refine slQ ?_
 refine aE fun _ _ _=> ?_
 refine aQ fun _ _ _ _=> ?_
 refine aE fun _ _ _=> ?_
 intro hF hM
 replace hM:=au hM;obtain ⟨x13,hx14,hM⟩:=hM
 have hcx13:=aI.pub (cmH hx14 (yk g (r_.Bases) x_ (by (first|exact hJ ‹okR _ _› ‹_=cv _› (by omega)|(have h9:=eJ ‹okR _ _›;omega))) (by (first|exact hJ ‹okR _ _› ‹_=cv _› (by omega)|(have h9:=eJ ‹okR _ _›;omega)))))
 refine cN hcx13 clQ clQ ?_
 exact auP
theorem DE (N:Nat) (ih: ∀(z2:Option Bool) (g:ak) (f_:aa) (x_:(List Int)),(okU x_.length f_)→ay f_<N→aI En 41 [.agg [.int .i64 g.P,.int .i64 g.Q,.int .i64 g.G],.agg [.int .i64 f_.Kind,.sl none 1 false (f_.Relation.Y.map (V.int .i64)),.sl none 1 false (f_.Relation.Bases.map (fun (l:List Int)=>V.sl none 1 false (l.map (V.int .i64)))),.sl none 4 true (f_.L.map aw)],.sl z2 1 false (x_.map (V.int .i64))] (.bool (bR g f_ x_)) []) (p_:aa) (c0:ak) (c1:(List Int)) (hp0:ay p_<N) (hp1:okU c1.length p_):aI En 88 [.agg [.int .i64 p_.Kind,.sl none 1 false (p_.Relation.Y.map (V.int .i64)),.sl none 1 false (p_.Relation.Bases.map (fun (l:List Int)=>V.sl none 1 false (l.map (V.int .i64)))),.sl none 4 true (p_.L.map aw)],.pp 3 true (.agg [.int .i64 c0.P,.int .i64 c0.Q,.int .i64 c0.G]),.pp 1 false (.sl none 1 false (c1.map (V.int .i64)))] (.bool (pK p_ c0 c1)) []:=by
 generalize hM:pK p_ c0 c1=r
 rw [pK.eq_1] at hM
 refine ci bc bA noJ Tryz.func88 rfl Tryz.ntmps88 (by kernel_rfl) fun hw=>bz ?_
 refine spQ ?_
 replace hw:=nzQ hw
 replace hM:=au hM;obtain ⟨x1,hx2,hM⟩:=hM
 have hcx1:=ih none c0 p_ c1 (by (exact hp1)) (by omega)
 rw [←hx2] at hcx1
 refine aV hcx1 clQ clQ (fun hw3=> ?_)
 replace hw3:=nzQ hw3
 have hF:=bT
 exact auP
theorem MB (N:Nat) (ih: ∀(z2:Option Bool) (g:ak) (f_:aa) (x_:(List Int)),(okU x_.length f_)→ay f_<N→aI En 41 [.agg [.int .i64 g.P,.int .i64 g.Q,.int .i64 g.G],.agg [.int .i64 f_.Kind,.sl none 1 false (f_.Relation.Y.map (V.int .i64)),.sl none 1 false (f_.Relation.Bases.map (fun (l:List Int)=>V.sl none 1 false (l.map (V.int .i64)))),.sl none 4 true (f_.L.map aw)],.sl z2 1 false (x_.map (V.int .i64))] (.bool (bR g f_ x_)) []) (p_:aa) (c0_c0:ak) (c0_c1:(List Int)) (hp0:ay p_<N) (hp1:okU c0_c1.length p_):aI En 90 [.agg [.int .i64 p_.Kind,.sl none 1 false (p_.Relation.Y.map (V.int .i64)),.sl none 1 false (p_.Relation.Bases.map (fun (l:List Int)=>V.sl none 1 false (l.map (V.int .i64)))),.sl none 4 true (p_.L.map aw)],.pp 1 false (.fn 88 [.pp 3 true (.agg [.int .i64 c0_c0.P,.int .i64 c0_c0.Q,.int .i64 c0_c0.G]),.pp 1 false (.sl none 1 false (c0_c1.map (V.int .i64)))])] (.bool (sV p_ c0_c0 c0_c1)) []:=by
 generalize hM:sV p_ c0_c0 c0_c1=r
 rw [sV.eq_1] at hM
 refine ci bc bA noJ Tryz.func90 rfl Tryz.ntmps90 (by kernel_rfl) fun hw=>bz ?_
 refine spQ ?_
 replace hw:=nzQ hw
 replace hM:=au hM;obtain ⟨x1,hx2,hM⟩:=hM
 have hcx1:=DE N ih p_ c0_c0 c0_c1 (by (exact pfQ)) (by (exact pfQ))
 rw [←hx2] at hcx1
 refine aV hcx1 clQ clQ (fun hw3=> ?_)
 replace hw3:=nzQ hw3
 have hF:=bT
 exact auP
theorem MC (N:Nat) (ih: ∀(z2:Option Bool) (g:ak) (f_:aa) (x_:(List Int)),(okU x_.length f_)→ay f_<N→aI En 41 [.agg [.int .i64 g.P,.int .i64 g.Q,.int .i64 g.G],.agg [.int .i64 f_.Kind,.sl none 1 false (f_.Relation.Y.map (V.int .i64)),.sl none 1 false (f_.Relation.Bases.map (fun (l:List Int)=>V.sl none 1 false (l.map (V.int .i64)))),.sl none 4 true (f_.L.map aw)],.sl z2 1 false (x_.map (V.int .i64))] (.bool (bR g f_ x_)) []) (z0:Option Bool) (s:(List aa)) (f__c0_c0:ak) (f__c0_c1:(List Int)) (hp0: ∀x∈s,ay x<N) (hp1: ∀x∈s,okU f__c0_c1.length x):aI En 92 [.sl z0 4 true (s.map aw),.fn 90 [.pp 1 false (.fn 88 [.pp 3 true (.agg [.int .i64 f__c0_c0.P,.int .i64 f__c0_c0.Q,.int .i64 f__c0_c0.G]),.pp 1 false (.sl none 1 false (f__c0_c1.map (V.int .i64)))])]] (.int .i64 (sW s f__c0_c0 f__c0_c1)) []:=by
 generalize hM:sW s f__c0_c0 f__c0_c1=r
 rw [sW.eq_1] at hM
 refine ci bc bA noJ Tryz.func92 rfl Tryz.ntmps92 (by kernel_rfl) fun hw=>bz ?_
 refine spQ ?_
 replace hw:=nzQ hw
 replace hM:=aS hM;obtain ⟨f1,d1,hf1,hd1,hM⟩:=hM
 refine bk (fun n S=> ∃p:Int,S=(⟨[(0,.sl z0 4 true (s.map aw)),(1,.fn 90 [.pp 1 false (.fn 88 [.pp 3 true (.agg [.int .i64 f__c0_c0.P,.int .i64 f__c0_c0.Q,.int .i64 f__c0_c0.G]),.pp 1 false (.sl none 1 false (f__c0_c1.map (V.int .i64)))])]),(7,.int .i64 (s.length:Int)),(8,.int .i64 p)],[],0⟩:St)∧((0≤p)∧(p≤(s.length:Int)))∧((s.length:Int) - p).toNat<n∧ah n f1 d1 p=r) (((s.length:Int) - 0).toNat+1) _ sbQ sbQ ⟨0,rfl,⟨omQ,omQ⟩,(Nat.lt_succ_self _),hM⟩ ?_
 clear hM
 rintro n1 S ⟨p1,rfl,hfa1,hm1,hM⟩
 replace hM:=aT hM (by omega) hf1;obtain ⟨ag1,hag1,hM⟩:=hM
 replace hfa1:=nzQ hfa1
 replace hm1:=nzQ hm1
 have ha1:ao .i64 p1 1=p1+1:=bl omQ omQ
 have hF:=ha1
 revert hM;revert hF
 refine slQ ?_
 refine aE fun _ _ _=> ?_
 intro hF hM
 replace hM:=au hM;obtain ⟨x5,hx6,hM⟩:=hM
 have hcx5:=MB N ih (gt s p1) f__c0_c0 f__c0_c1 (by (first|exact hp0 _ (aK (by omega))|exact hp1 _ (aK (by omega)))) (by (first|exact hp0 _ (aK (by omega))|exact hp1 _ (aK (by omega))))
 rw [←hx6] at hcx5
 refine aV hcx5 (aD hF) (aD hF) (fun hw7=> ?_)
 replace hw7:=nzQ hw7
 revert hM;revert hF
 refine slQ ?_
 refine aW fun _ _ _=> ?_
 intro hF hM
 refine aP (n1 - 1) _ (by omega) sbQ sbQ ⟨(p1+1),rfl,⟨omQ,omQ⟩,omQ,aN hM hag1⟩
theorem MD (N:Nat) (ih: ∀(z2:Option Bool) (g:ak) (f_:aa) (x_:(List Int)),(okU x_.length f_)→ay f_<N→aI En 41 [.agg [.int .i64 g.P,.int .i64 g.Q,.int .i64 g.G],.agg [.int .i64 f_.Kind,.sl none 1 false (f_.Relation.Y.map (V.int .i64)),.sl none 1 false (f_.Relation.Bases.map (fun (l:List Int)=>V.sl none 1 false (l.map (V.int .i64)))),.sl none 4 true (f_.L.map aw)],.sl z2 1 false (x_.map (V.int .i64))] (.bool (bR g f_ x_)) []) (z0:Option Bool) (s:(List aa)) (f__c0_c0:ak) (f__c0_c1:(List Int)) (hp0: ∀x∈s,ay x<N) (hp1: ∀x∈s,okU f__c0_c1.length x):aI En 52 [.sl z0 4 true (s.map aw),.fn 90 [.pp 1 false (.fn 88 [.pp 3 true (.agg [.int .i64 f__c0_c0.P,.int .i64 f__c0_c0.Q,.int .i64 f__c0_c0.G]),.pp 1 false (.sl none 1 false (f__c0_c1.map (V.int .i64)))])]] (.bool (pL s f__c0_c0 f__c0_c1)) []:=by
 generalize hM:pL s f__c0_c0 f__c0_c1=r
 rw [pL.eq_1] at hM
 refine ci bc bA noJ Tryz.func52 rfl Tryz.ntmps52 (by kernel_rfl) fun hw=>bz ?_
 refine spQ ?_
 replace hw:=nzQ hw
 replace hM:=au hM;obtain ⟨x1,hx2,hM⟩:=hM
 have hcx1:=MC N ih z0 s f__c0_c0 f__c0_c1 (by (first|exact hp0|exact hp1)) (by (first|exact hp0|exact hp1))
 rw [←hx2] at hcx1
 refine aV hcx1 clQ clQ (fun hw3=> ?_)
 replace hw3:=nzQ hw3
 have hF:=bT
 exact auP
theorem ME (N:Nat) (ih: ∀(z2:Option Bool) (g:ak) (f_:aa) (x_:(List Int)),(okU x_.length f_)→ay f_<N→aI En 41 [.agg [.int .i64 g.P,.int .i64 g.Q,.int .i64 g.G],.agg [.int .i64 f_.Kind,.sl none 1 false (f_.Relation.Y.map (V.int .i64)),.sl none 1 false (f_.Relation.Bases.map (fun (l:List Int)=>V.sl none 1 false (l.map (V.int .i64)))),.sl none 4 true (f_.L.map aw)],.sl z2 1 false (x_.map (V.int .i64))] (.bool (bR g f_ x_)) []) (z0:Option Bool) (s:(List aa)) (f__c0:ak) (f__c1:(List Int)) (hp0: ∀x∈s,ay x<N) (hp1: ∀x∈s,okU f__c1.length x):aI En 92 [.sl z0 4 true (s.map aw),.fn 88 [.pp 3 true (.agg [.int .i64 f__c0.P,.int .i64 f__c0.Q,.int .i64 f__c0.G]),.pp 1 false (.sl none 1 false (f__c1.map (V.int .i64)))]] (.int .i64 (sX s f__c0 f__c1)) []:=by
 generalize hM:sX s f__c0 f__c1=r
 rw [sX.eq_1] at hM
 refine ci bc bA noJ Tryz.func92 rfl Tryz.ntmps92 (by kernel_rfl) fun hw=>bz ?_
 refine spQ ?_
 replace hw:=nzQ hw
 replace hM:=aS hM;obtain ⟨f1,d1,hf1,hd1,hM⟩:=hM
 refine bk (fun n S=> ∃p:Int,S=(⟨[(0,.sl z0 4 true (s.map aw)),(1,.fn 88 [.pp 3 true (.agg [.int .i64 f__c0.P,.int .i64 f__c0.Q,.int .i64 f__c0.G]),.pp 1 false (.sl none 1 false (f__c1.map (V.int .i64)))]),(7,.int .i64 (s.length:Int)),(8,.int .i64 p)],[],0⟩:St)∧((0≤p)∧(p≤(s.length:Int)))∧((s.length:Int) - p).toNat<n∧ah n f1 d1 p=r) (((s.length:Int) - 0).toNat+1) _ sbQ sbQ ⟨0,rfl,⟨omQ,omQ⟩,(Nat.lt_succ_self _),hM⟩ ?_
 clear hM
 rintro n1 S ⟨p1,rfl,hfa1,hm1,hM⟩
 replace hM:=aT hM (by omega) hf1;obtain ⟨ag1,hag1,hM⟩:=hM
 replace hfa1:=nzQ hfa1
 replace hm1:=nzQ hm1
 have ha1:ao .i64 p1 1=p1+1:=bl omQ omQ
 have hF:=ha1
 revert hM;revert hF
 refine slQ ?_
 refine aE fun _ _ _=> ?_
 intro hF hM
 replace hM:=au hM;obtain ⟨x5,hx6,hM⟩:=hM
 have hcx5:=DE N ih (gt s p1) f__c0 f__c1 (by (first|exact hp0 _ (aK (by omega))|exact hp1 _ (aK (by omega)))) (by (first|exact hp0 _ (aK (by omega))|exact hp1 _ (aK (by omega))))
 rw [←hx6] at hcx5
 refine aV hcx5 (aD hF) (aD hF) (fun hw7=> ?_)
 replace hw7:=nzQ hw7
 revert hM;revert hF
 refine slQ ?_
 refine aW fun _ _ _=> ?_
 intro hF hM
 refine aP (n1 - 1) _ (by omega) sbQ sbQ ⟨(p1+1),rfl,⟨omQ,omQ⟩,omQ,aN hM hag1⟩
theorem MF (N:Nat) (ih: ∀(z2:Option Bool) (g:ak) (f_:aa) (x_:(List Int)),(okU x_.length f_)→ay f_<N→aI En 41 [.agg [.int .i64 g.P,.int .i64 g.Q,.int .i64 g.G],.agg [.int .i64 f_.Kind,.sl none 1 false (f_.Relation.Y.map (V.int .i64)),.sl none 1 false (f_.Relation.Bases.map (fun (l:List Int)=>V.sl none 1 false (l.map (V.int .i64)))),.sl none 4 true (f_.L.map aw)],.sl z2 1 false (x_.map (V.int .i64))] (.bool (bR g f_ x_)) []) (z0:Option Bool) (s:(List aa)) (f__c0:ak) (f__c1:(List Int)) (hp0: ∀x∈s,ay x<N) (hp1: ∀x∈s,okU f__c1.length x):aI En 52 [.sl z0 4 true (s.map aw),.fn 88 [.pp 3 true (.agg [.int .i64 f__c0.P,.int .i64 f__c0.Q,.int .i64 f__c0.G]),.pp 1 false (.sl none 1 false (f__c1.map (V.int .i64)))]] (.bool (pM s f__c0 f__c1)) []:=by
 generalize hM:pM s f__c0 f__c1=r
 rw [pM.eq_1] at hM
 refine ci bc bA noJ Tryz.func52 rfl Tryz.ntmps52 (by kernel_rfl) fun hw=>bz ?_
 refine spQ ?_
 replace hw:=nzQ hw
 replace hM:=au hM;obtain ⟨x1,hx2,hM⟩:=hM
 have hcx1:=ME N ih z0 s f__c0 f__c1 (by (first|exact hp0|exact hp1)) (by (first|exact hp0|exact hp1))
 rw [←hx2] at hcx1
 refine aV hcx1 clQ clQ (fun hw3=> ?_)
 replace hw3:=nzQ hw3
 have hF:=bT
 exact auP
set_option maxRecDepth 512 in
instance (priority:=1007):DRD 4 32 7 [13,14,15,16,17,18,19] [] ([[],[],[1],[],[],[4],[3,4,5]]++[List.range 7,List.range 8]) []:=⟨trivial⟩
theorem MG (N:Nat) (ih: ∀(z2:Option Bool) (g:ak) (f_:aa) (x_:(List Int)),(okU x_.length f_)→ay f_<N→aI En 41 [.agg [.int .i64 g.P,.int .i64 g.Q,.int .i64 g.G],.agg [.int .i64 f_.Kind,.sl none 1 false (f_.Relation.Y.map (V.int .i64)),.sl none 1 false (f_.Relation.Bases.map (fun (l:List Int)=>V.sl none 1 false (l.map (V.int .i64)))),.sl none 4 true (f_.L.map aw)],.sl z2 1 false (x_.map (V.int .i64))] (.bool (bR g f_ x_)) []) (z2:Option Bool) (g:ak) (f_:aa) (x_:(List Int)) (hp0:okU x_.length f_) (hp_:ay f_<N+1):aI En 41 [.agg [.int .i64 g.P,.int .i64 g.Q,.int .i64 g.G],.agg [.int .i64 f_.Kind,.sl none 1 false (f_.Relation.Y.map (V.int .i64)),.sl none 1 false (f_.Relation.Bases.map (fun (l:List Int)=>V.sl none 1 false (l.map (V.int .i64)))),.sl none 4 true (f_.L.map aw)],.sl z2 1 false (x_.map (V.int .i64))] (.bool (pN g f_ x_)) []:=by
 generalize hM:pN g f_ x_=r
 rw [pN.eq_1] at hM
 refine ci bc bA [1,6] Tryz.func41 rfl Tryz.ntmps41 (by kernel_rfl) fun hw=>bz ?_
 refine spQ ?_
 replace hw:=nzQ hw
 have hA0:=fun a0=>tr hp0 a0
 refine kW ?_
 have hF:=bT
 revert hM;revert hF
 refine slQ ?_
 intro hF hM
 refine j4 _ (⟨[(3,.pp 3 true (.agg [.int .i64 g.P,.int .i64 g.Q,.int .i64 g.G])),(4,.ptr 1 0),(5,.pp 1 false (.sl z2 1 false (x_.map (V.int .i64))))],[(0,.pvar 3 true (.agg [.int .i64 g.P,.int .i64 g.Q,.int .i64 g.G])),(1,.var 4 true (.agg [.int .i64 f_.Kind,.sl none 1 false (f_.Relation.Y.map (V.int .i64)),.sl none 1 false (f_.Relation.Bases.map (fun (l:List Int)=>V.sl none 1 false (l.map (V.int .i64)))),.sl none 4 true (f_.L.map aw)])),(2,.pvar 1 false (.sl z2 1 false (x_.map (V.int .i64))))],3⟩:St) (((mi (S:=⟨_,_,_⟩) 0 (n:=3) (g:=true) (d:= .agg [.int .i64 g.P,.int .i64 g.Q,.int .i64 g.G]) clQ clQ).trans (oq (S:=⟨_,_,_⟩) 3 0 (n:=3) (g:=true) (d:= .agg [.int .i64 g.P,.int .i64 g.Q,.int .i64 g.G]) clQ clQ)).trans ((mi (S:=⟨_,_,_⟩) 2 (n:=1) (g:=false) (d:= .sl z2 1 false (x_.map (V.int .i64))) clQ clQ).trans (oq (S:=⟨_,_,_⟩) 5 2 (n:=1) (g:=false) (d:= .sl z2 1 false (x_.map (V.int .i64))) clQ clQ))) sbQ sbQ ?_
 revert hM;revert hF
 refine slQ ?_
 refine cdQ (fun _ _ _=> ?_) (fun _ _ _=> ?_)
 ·intro hF hM
  replace hM:=au hM;obtain ⟨x3,hx4,hM⟩:=hM
  have hcx3:=oz f_ (by (exact mR hp0))
  rw [←hx4] at hcx3
  refine cN hcx3 clQ clQ ?_
  exact auP
 ·intro hF hM
  refine kW ?_
  revert hM;revert hF
  refine slQ ?_
  intro hF hM
  refine j4 _ (⟨[(4,.ptr 1 0),(7,.pp 1 false (.fn 88 [.pp 3 true (.agg [.int .i64 g.P,.int .i64 g.Q,.int .i64 g.G]),.pp 1 false (.sl z2 1 false (x_.map (V.int .i64)))])),(21,.bool (f_.Kind==2))],[(1,.var 4 true (.agg [.int .i64 f_.Kind,.sl none 1 false (f_.Relation.Y.map (V.int .i64)),.sl none 1 false (f_.Relation.Bases.map (fun (l:List Int)=>V.sl none 1 false (l.map (V.int .i64)))),.sl none 4 true (f_.L.map aw)])),(3,.pvar 1 false (.fn 88 [.pp 3 true (.agg [.int .i64 g.P,.int .i64 g.Q,.int .i64 g.G]),.pp 1 false (.sl z2 1 false (x_.map (V.int .i64)))]))],4⟩:St) ((mi (S:=⟨_,_,_⟩) 3 (n:=1) (g:=false) (d:= .fn 88 [.pp 3 true (.agg [.int .i64 g.P,.int .i64 g.Q,.int .i64 g.G]),.pp 1 false (.sl z2 1 false (x_.map (V.int .i64)))]) clQ clQ).trans (oq (S:=⟨_,_,_⟩) 7 3 (n:=1) (g:=false) (d:= .fn 88 [.pp 3 true (.agg [.int .i64 g.P,.int .i64 g.Q,.int .i64 g.G]),.pp 1 false (.sl z2 1 false (x_.map (V.int .i64)))]) clQ clQ)) sbQ sbQ ?_
  revert hM;revert hF
  refine slQ ?_
  refine cdQ (fun _ _ _=> ?_) (fun _ _ _=> ?_)
  ·intro hF hM
   replace hM:=au hM;obtain ⟨x11,hx12,hM⟩:=hM
   have hcx11:=MD N ih none (f_.L) g x_ (by (first|exact fun x hx=>Nat.lt_of_lt_of_le (cU hx) (Nat.lt_succ_iff.1 hp_)|exact fun x hx=>eI hp0 (by assumption) hx)) (by (first|exact fun x hx=>Nat.lt_of_lt_of_le (cU hx) (Nat.lt_succ_iff.1 hp_)|exact fun x hx=>eI hp0 (by assumption) hx))
   rw [←hx12] at hcx11
   refine aV hcx11 clQ clQ (fun hw13=> ?_)
   replace hw13:=nzQ hw13
   exact auP
  ·intro hF hM
   replace hM:=au hM;obtain ⟨x15,hx16,hM⟩:=hM
   have hcx15:=MF N ih none (f_.L) g x_ (by (first|exact fun x hx=>Nat.lt_of_lt_of_le (cU hx) (Nat.lt_succ_iff.1 hp_)|exact fun x hx=>eI hp0 (by assumption) hx)) (by (first|exact fun x hx=>Nat.lt_of_lt_of_le (cU hx) (Nat.lt_succ_iff.1 hp_)|exact fun x hx=>eI hp0 (by assumption) hx))
   rw [←hx16] at hcx15
   refine aV hcx15 clQ clQ (fun hw17=> ?_)
   replace hw17:=nzQ hw17
   exact auP
set_option maxRecDepth 512 in
theorem MH: ∀(N:Nat) (z2:Option Bool) (g:ak) (f_:aa) (x_:(List Int)),(okU x_.length f_)→ay f_<N→aI En 41 [.agg [.int .i64 g.P,.int .i64 g.Q,.int .i64 g.G],.agg [.int .i64 f_.Kind,.sl none 1 false (f_.Relation.Y.map (V.int .i64)),.sl none 1 false (f_.Relation.Bases.map (fun (l:List Int)=>V.sl none 1 false (l.map (V.int .i64)))),.sl none 4 true (f_.L.map aw)],.sl z2 1 false (x_.map (V.int .i64))] (.bool (bR g f_ x_)) []:=by
 intro N
 induction N with
 | zero=>intro z2 g f_ x_ h0 h;exact absurd h (Nat.not_lt_zero _)
 | succ N ih=>
  intro z2 g f_ x_ h0 h
  have h9:=MG N ih z2 g f_ x_ h0 h
  rw [Lm] at h9
  exact h9
set_option maxRecDepth 512 in
theorem yl (z2:Option Bool) (g:ak) (f_:aa) (x_:(List Int)) (hp0:okU x_.length f_):aI En 41 [.agg [.int .i64 g.P,.int .i64 g.Q,.int .i64 g.G],.agg [.int .i64 f_.Kind,.sl none 1 false (f_.Relation.Y.map (V.int .i64)),.sl none 1 false (f_.Relation.Bases.map (fun (l:List Int)=>V.sl none 1 false (l.map (V.int .i64)))),.sl none 4 true (f_.L.map aw)],.sl z2 1 false (x_.map (V.int .i64))] (.bool (bR g f_ x_)) []:=
 MH (ay f_+1) z2 g f_ x_ hp0 (Nat.lt_succ_self _)
instance RI (g:ak) (f_:aa) (x_:(List Int)):CM En (sY g f_ x_) 18 [.agg [.int .i64 g.P,.int .i64 g.Q,.int .i64 g.G],.agg [.int .i64 f_.Kind,.sl none 1 false (f_.Relation.Y.map (V.int .i64)),.sl none 1 false (f_.Relation.Bases.map (fun (l:List Int)=>V.sl none 1 false (l.map (V.int .i64)))),.sl none 4 true (f_.L.map aw)],.sl none 1 false (x_.map (V.int .i64))] (fun y=> .bool y) (fun _=> []):=by
 refine enQ noJ Tryz.func18 Tryz.ntmps18 (sY.eq_1 ..) fun r hw=> ?_
 refine aQ fun _ _ _ _=> ?_
 refine aE fun _ _ _=> ?_
 intro hF hM
 replace hM:=au hM;obtain ⟨x7,hx8,hM⟩:=hM
 have hcx7:=oz f_ (by (exact ‹okF _›))
 rw [←hx8] at hcx7
 refine aV hcx7 clQ clQ (fun hw9=> ?_)
 replace hw9:=nzQ hw9
 revert hM;revert hF
 refine slQ ?_
 refine aE fun _ _ _=> ?_
 refine aQ fun _ _ _ _=> ?_
 refine aE fun _ _ _=> ?_
 intro hF hM
 replace hM:=au hM;obtain ⟨x16,hx17,hM⟩:=hM
 have hcx16:=yl none g f_ x_ (by (exact da ‹okF _› (by omega)))
 rw [←hx17] at hcx16
 refine aV hcx16 clQ clQ (fun hw18=> ?_)
 replace hw18:=nzQ hw18
 exact auP
instance RJ:CM En (sZ) 5 [] (fun y=> .bool y) (fun _=> []):=by
 refine enQ noJ Tryz.func5 Tryz.ntmps5 (sZ.eq_1 ..) fun r hw=> ?_
 exact auR
instance RK (l:(List Int)):CM En (s4 l) 51 [.sl none 1 false (l.map (V.int .i64))] (fun y=> .bool y) (fun _=> []):=by
 refine enQ noJ Tryz.func51 Tryz.ntmps51 (s4.eq_1 ..) fun r hw=> ?_
 exact auR
theorem MI (N:Nat) (ih: ∀(f_:aa) (left:Int),ay f_<N→bp En 19 [.agg [.int .i64 f_.Kind,.sl none 1 false (f_.Relation.Y.map (V.int .i64)),.sl none 1 false (f_.Relation.Bases.map (fun (l:List Int)=>V.sl none 1 false (l.map (V.int .i64)))),.sl none 4 true (f_.L.map aw)],.ptr 0 0] [.var 1 false (.int .i64 left)] (.bool (dr f_ left).1) [.var 1 false (.int .i64 (dr f_ left).2)] []) (x_:aa) (c0:Int) (hp0:ay x_<N):bp En 53 [.agg [.int .i64 x_.Kind,.sl none 1 false (x_.Relation.Y.map (V.int .i64)),.sl none 1 false (x_.Relation.Bases.map (fun (l:List Int)=>V.sl none 1 false (l.map (V.int .i64)))),.sl none 4 true (x_.L.map aw)],.ptr 0 0] [.var 1 false (.ptr 1 0),.var 1 false (.int .i64 c0)] (.bool (pO x_ c0).1) [.var 1 false (.ptr 1 0),.var 1 false (.int .i64 (pO x_ c0).2)] []:=by
 generalize hM:pO x_ c0=r
 rw [pO.eq_1] at hM
 refine cE bc bA noJ Tryz.func53 rfl Tryz.ntmps53 (by kernel_rfl) rfl fun ks hw hwB=>bz ?_
 refine spQ ?_
 replace hw:=nzQ hw
 replace hwB:=nzB hwB
 replace hM:=au hM;obtain ⟨x1,hx2,hM⟩:=hM
 have hcx1:=ih x_ c0 (by omega)
 rw [←hx2] at hcx1
 refine bL [1] hcx1 (by decide) lsQ lsQ (fun hw3=> ?_)
 replace hw3:=nzQ hw3
 have hF:=bT
 revert hM;revert hF
 refine slQ ?_
 intro hF hM
 subst hM
 exact aU [0,1] lsQ (by decide) lsQ
instance RL (s:(List (List Int))):CM En (xc s) 104 [.sl none 1 false (s.map (fun (l:List Int)=>V.sl none 1 false (l.map (V.int .i64)))),.fn 51 []] (fun y=> .int .i64 y) (fun _=> []):=by
 refine enQ noJ Tryz.func104 Tryz.ntmps104 (xc.eq_1 ..) fun r hw=> ?_
 intro hF hM
 replace hM:=aS hM;obtain ⟨f1,d1,hf1,hd1,hM⟩:=hM
 refine bk (fun n S=> ∃p:Int,S=(⟨[(0,.sl none 1 false (s.map (fun (l:List Int)=>V.sl none 1 false (l.map (V.int .i64))))),(1,.fn 51 []),(7,.int .i64 (s.length:Int)),(8,.int .i64 p)],[],0⟩:St)∧((0≤p)∧(p≤(s.length:Int)))∧((s.length:Int) - p).toNat<n∧ah n f1 d1 p=r) (((s.length:Int) - 0).toNat+1) _ sbQ sbQ ⟨0,rfl,⟨omQ,omQ⟩,(Nat.lt_succ_self _),hM⟩ ?_
 clear hM
 rintro n1 S ⟨p1,rfl,hfa1,hm1,hM⟩
 replace hM:=aT hM (by omega) hf1;obtain ⟨ag1,hag1,hM⟩:=hM
 replace hfa1:=nzQ hfa1
 replace hm1:=nzQ hm1
 have ha1:ao .i64 p1 1=p1+1:=bl omQ omQ
 replace hF:=(And.intro ha1 hF)
 revert hM;revert hF
 refine slQ ?_
 refine aE fun _ _ _=> ?_
 refine aQ fun _ _ _ _=> ?_
 refine aW fun _ _ _=> ?_
 intro hF hM
 refine aP (n1 - 1) _ (by omega) sbQ sbQ ⟨(p1+1),rfl,⟨omQ,omQ⟩,omQ,aN hM hag1⟩
instance RM (s:(List (List Int))):CM En (s5 s) 50 [.sl none 1 false (s.map (fun (l:List Int)=>V.sl none 1 false (l.map (V.int .i64)))),.fn 51 []] (fun y=> .bool y) (fun _=> []):=by
 refine enQ noJ Tryz.func50 Tryz.ntmps50 (s5.eq_1 ..) fun r hw=> ?_
 exact auR
theorem MJ (N:Nat) (ih: ∀(f_:aa) (left:Int),ay f_<N→bp En 19 [.agg [.int .i64 f_.Kind,.sl none 1 false (f_.Relation.Y.map (V.int .i64)),.sl none 1 false (f_.Relation.Bases.map (fun (l:List Int)=>V.sl none 1 false (l.map (V.int .i64)))),.sl none 4 true (f_.L.map aw)],.ptr 0 0] [.var 1 false (.int .i64 left)] (.bool (dr f_ left).1) [.var 1 false (.int .i64 (dr f_ left).2)] []) (z0:Option Bool) (s_:(List aa)) (f__c0:Int) (hp0: ∀x∈s_,ay x<N):bp En 92 [.sl z0 4 true (s_.map aw),.fn 53 [.ptr 0 0]] [.var 1 false (.ptr 1 0),.var 1 false (.int .i64 f__c0)] (.int .i64 (pP s_ f__c0).1) [.var 1 false (.ptr 1 0),.var 1 false (.int .i64 (pP s_ f__c0).2)] []:=by
 generalize hM:pP s_ f__c0=r
 rw [pP.eq_1] at hM
 refine cE bc bA noJ Tryz.func92 rfl Tryz.ntmps92 (by kernel_rfl) rfl fun ks hw hwB=>bz ?_
 refine spQ ?_
 replace hw:=nzQ hw
 replace hwB:=nzB hwB
 replace hM:=aS hM;obtain ⟨f1,d1,hf1,hd1,hM⟩:=hM
 refine bk (fun n S=> ∃p:Int×Int,S=(⟨[(0,.sl z0 4 true (s_.map aw)),(1,.fn 53 [.ptr 0 0]),(7,.int .i64 (s_.length:Int)),(8,.int .i64 p.1)],[(0,.lent (ks 0) 1 false (.ptr 1 0)),(1,.lent (ks 1) 1 false (.int .i64 p.2))],2⟩:St)∧((0≤p.1)∧(p.1≤(s_.length:Int)))∧((s_.length:Int) - p.1).toNat<n∧ah n f1 d1 p=r) (((s_.length:Int) - 0).toNat+1) _ sbQ sbQ ⟨(0,f__c0),rfl,⟨omQ,omQ⟩,(Nat.lt_succ_self _),hM⟩ ?_
 clear hM
 rintro n1 S ⟨p1,rfl,hfa1,hm1,hM⟩
 replace hM:=aT hM (by omega) hf1;obtain ⟨ag1,hag1,hM⟩:=hM
 replace hfa1:=nzQ hfa1
 replace hm1:=nzQ hm1
 have ha1:ao .i64 p1.1 1=p1.1+1:=bl omQ omQ
 have hF:=ha1
 revert hM;revert hF
 refine slQ ?_
 refine cdQ (fun _ _ _=> ?_) (fun _ _ _=> ?_)
 ·intro hF hM
  replace hM:=au hM;obtain ⟨x5,hx6,hM⟩:=hM
  have hcx5:=MI N ih (gt s_ p1.1) (p1.2) (by (exact hp0 _ (aK (by omega))))
  rw [←hx6] at hcx5
  refine bL [0,1] hcx5 (by decide) (an hF) (an hF) (fun hw7=> ?_)
  replace hw7:=nzQ hw7
  revert hM;revert hF
  refine slQ ?_
  refine cdQ (fun _ _ _=> ?_) (fun _ _ _=> ?_)
  ·intro hF hM
   subst hM
   exact aU [0,1] (an hF) (by decide) (an hF)
  ·intro hF hM
   refine aP (n1 - 1) _ (by omega) sbQ sbQ ⟨((p1.1+1),x5.2),rfl,⟨omQ,omQ⟩,omQ,aN hM hag1⟩
 ·intro hF hM
  subst hM
  exact aU [0,1] (an hF) (by decide) (an hF)
theorem MK (N:Nat) (ih: ∀(f_:aa) (left:Int),ay f_<N→bp En 19 [.agg [.int .i64 f_.Kind,.sl none 1 false (f_.Relation.Y.map (V.int .i64)),.sl none 1 false (f_.Relation.Bases.map (fun (l:List Int)=>V.sl none 1 false (l.map (V.int .i64)))),.sl none 4 true (f_.L.map aw)],.ptr 0 0] [.var 1 false (.int .i64 left)] (.bool (dr f_ left).1) [.var 1 false (.int .i64 (dr f_ left).2)] []) (z0:Option Bool) (s_:(List aa)) (f__c0:Int) (hp0: ∀x∈s_,ay x<N):bp En 52 [.sl z0 4 true (s_.map aw),.fn 53 [.ptr 0 0]] [.var 1 false (.ptr 1 0),.var 1 false (.int .i64 f__c0)] (.bool (nX s_ f__c0).1) [.var 1 false (.ptr 1 0),.var 1 false (.int .i64 (nX s_ f__c0).2)] []:=by
 generalize hM:nX s_ f__c0=r
 rw [nX.eq_1] at hM
 refine cE bc bA noJ Tryz.func52 rfl Tryz.ntmps52 (by kernel_rfl) rfl fun ks hw hwB=>bz ?_
 refine spQ ?_
 replace hw:=nzQ hw
 replace hwB:=nzB hwB
 replace hM:=au hM;obtain ⟨x1,hx2,hM⟩:=hM
 have hcx1:=MJ N ih z0 s_ f__c0 (by (exact hp0))
 rw [←hx2] at hcx1
 refine bL [0,1] hcx1 (by decide) lsQ lsQ (fun hw3=> ?_)
 replace hw3:=nzQ hw3
 have hF:=bT
 revert hM;revert hF
 refine slQ ?_
 intro hF hM
 subst hM
 exact aU [0,1] lsQ (by decide) lsQ
theorem ML (N:Nat) (ih: ∀(f_:aa) (left:Int),ay f_<N→bp En 19 [.agg [.int .i64 f_.Kind,.sl none 1 false (f_.Relation.Y.map (V.int .i64)),.sl none 1 false (f_.Relation.Bases.map (fun (l:List Int)=>V.sl none 1 false (l.map (V.int .i64)))),.sl none 4 true (f_.L.map aw)],.ptr 0 0] [.var 1 false (.int .i64 left)] (.bool (dr f_ left).1) [.var 1 false (.int .i64 (dr f_ left).2)] []) (f_:aa) (left:Int) (hp_:ay f_<N+1):bp En 19 [.agg [.int .i64 f_.Kind,.sl none 1 false (f_.Relation.Y.map (V.int .i64)),.sl none 1 false (f_.Relation.Bases.map (fun (l:List Int)=>V.sl none 1 false (l.map (V.int .i64)))),.sl none 4 true (f_.L.map aw)],.ptr 0 0] [.var 1 false (.int .i64 left)] (.bool (nY f_ left).1) [.var 1 false (.int .i64 (nY f_ left).2)] []:=by
 generalize hM:nY f_ left=r
 rw [nY.eq_1] at hM
 refine cE bc bA noJ Tryz.func19 rfl Tryz.ntmps19 (by kernel_rfl) rfl fun ks hw hwB=>bz ?_
 refine spQ ?_
 replace hw:=nzQ hw
 replace hwB:=nzB hwB
 have hF:=bT
 revert hM;revert hF
 refine cdQ (fun _ _ _=> ?_) (fun _ _ _=> ?_)
 ·refine cdQ (fun _ _ _=> ?_) (fun _ _ _=> ?_)
  ·refine cdQ (fun _ _ _=> ?_) (fun _ _ _=> ?_)
   ·refine aQ fun _ _ _ _=> ?_
    refine cdQ (fun _ _ _=> ?_) (fun _ _ _=> ?_)
    ·intro hF hM
     subst hM
     exact aU [0] (an hF) (by decide) (an hF)
    ·intro hF hM
     replace hM:=au hM;obtain ⟨x11,hx12,hM⟩:=hM
     have hcx11:=MK N ih none (f_.L) (ap .i64 left 1) (by (exact fun x hx=>Nat.lt_of_lt_of_le (cU hx) (Nat.lt_succ_iff.1 hp_)))
     rw [←hx12] at hcx11
     refine bL [2,0] hcx11 (by decide) lsQ lsQ (fun hw13=> ?_)
     replace hw13:=nzQ hw13
     revert hM;revert hF
     refine slQ ?_
     intro hF hM
     subst hM
     exact aU [0] (an hF) (by decide) (an hF)
   ·intro hF hM
    subst hM
    exact aU [0] (an hF) (by decide) (an hF)
  ·intro hF hM
   subst hM
   exact aU [0] (an hF) (by decide) (an hF)
 ·intro hF hM
  subst hM
  exact aU [0] (an hF) (by decide) (an hF)
set_option maxRecDepth 512 in
theorem MM: ∀(N:Nat) (f_:aa) (left:Int),ay f_<N→bp En 19 [.agg [.int .i64 f_.Kind,.sl none 1 false (f_.Relation.Y.map (V.int .i64)),.sl none 1 false (f_.Relation.Bases.map (fun (l:List Int)=>V.sl none 1 false (l.map (V.int .i64)))),.sl none 4 true (f_.L.map aw)],.ptr 0 0] [.var 1 false (.int .i64 left)] (.bool (dr f_ left).1) [.var 1 false (.int .i64 (dr f_ left).2)] []:=by
 intro N
 induction N with
 | zero=>intro f_ left h;exact absurd h (Nat.not_lt_zero _)
 | succ N ih=>
  intro f_ left h
  have h9:=ML N ih f_ left h
  rw [K6] at h9
  exact h9
set_option maxRecDepth 512 in
theorem MN (f_:aa) (left:Int):bp En 19 [.agg [.int .i64 f_.Kind,.sl none 1 false (f_.Relation.Y.map (V.int .i64)),.sl none 1 false (f_.Relation.Bases.map (fun (l:List Int)=>V.sl none 1 false (l.map (V.int .i64)))),.sl none 4 true (f_.L.map aw)],.ptr 0 0] [.var 1 false (.int .i64 left)] (.bool (dr f_ left).1) [.var 1 false (.int .i64 (dr f_ left).2)] []:=
 MM (ay f_+1) f_ left (Nat.lt_succ_self _)
theorem MO (N:Nat) (ih: ∀(t_:av) (left:Int),fy t_<N→bp En 22 [.agg [.int .i64 t_.C,.sl none 1 false (t_.P.A.map (V.int .i64)),.int .i64 t_.P.C,.sl none 1 false (t_.P.Z.map (V.int .i64)),.sl none 5 true (t_.L.map bB)],.ptr 0 0] [.var 1 false (.int .i64 left)] (.bool (dt t_ left).1) [.var 1 false (.int .i64 (dt t_ left).2)] []) (x_:av) (c0:Int) (hp0:fy x_<N):bp En 55 [.agg [.int .i64 x_.C,.sl none 1 false (x_.P.A.map (V.int .i64)),.int .i64 x_.P.C,.sl none 1 false (x_.P.Z.map (V.int .i64)),.sl none 5 true (x_.L.map bB)],.ptr 0 0] [.var 1 false (.ptr 1 0),.var 1 false (.int .i64 c0)] (.bool (pQ x_ c0).1) [.var 1 false (.ptr 1 0),.var 1 false (.int .i64 (pQ x_ c0).2)] []:=by
 generalize hM:pQ x_ c0=r
 rw [pQ.eq_1] at hM
 refine cE bc bA noJ Tryz.func55 rfl Tryz.ntmps55 (by kernel_rfl) rfl fun ks hw hwB=>bz ?_
 refine spQ ?_
 replace hw:=nzQ hw
 replace hwB:=nzB hwB
 replace hM:=au hM;obtain ⟨x1,hx2,hM⟩:=hM
 have hcx1:=ih x_ c0 (by omega)
 rw [←hx2] at hcx1
 refine bL [1] hcx1 (by decide) lsQ lsQ (fun hw3=> ?_)
 replace hw3:=nzQ hw3
 have hF:=bT
 revert hM;revert hF
 refine slQ ?_
 intro hF hM
 subst hM
 exact aU [0,1] lsQ (by decide) lsQ
theorem MP (N:Nat) (ih: ∀(t_:av) (left:Int),fy t_<N→bp En 22 [.agg [.int .i64 t_.C,.sl none 1 false (t_.P.A.map (V.int .i64)),.int .i64 t_.P.C,.sl none 1 false (t_.P.Z.map (V.int .i64)),.sl none 5 true (t_.L.map bB)],.ptr 0 0] [.var 1 false (.int .i64 left)] (.bool (dt t_ left).1) [.var 1 false (.int .i64 (dt t_ left).2)] []) (z0:Option Bool) (s_:(List av)) (f__c0:Int) (hp0: ∀x∈s_,fy x<N):bp En 54 [.sl z0 5 true (s_.map bB),.fn 55 [.ptr 0 0]] [.var 1 false (.ptr 1 0),.var 1 false (.int .i64 f__c0)] (.int .i64 (pR s_ f__c0).1) [.var 1 false (.ptr 1 0),.var 1 false (.int .i64 (pR s_ f__c0).2)] []:=by
 generalize hM:pR s_ f__c0=r
 rw [pR.eq_1] at hM
 refine cE bc bA noJ Tryz.func54 rfl Tryz.ntmps54 (by kernel_rfl) rfl fun ks hw hwB=>bz ?_
 refine spQ ?_
 replace hw:=nzQ hw
 replace hwB:=nzB hwB
 replace hM:=aS hM;obtain ⟨f1,d1,hf1,hd1,hM⟩:=hM
 refine bk (fun n S=> ∃p:Int×Int,S=(⟨[(0,.sl z0 5 true (s_.map bB)),(1,.fn 55 [.ptr 0 0]),(7,.int .i64 (s_.length:Int)),(8,.int .i64 p.1)],[(0,.lent (ks 0) 1 false (.ptr 1 0)),(1,.lent (ks 1) 1 false (.int .i64 p.2))],2⟩:St)∧((0≤p.1)∧(p.1≤(s_.length:Int)))∧((s_.length:Int) - p.1).toNat<n∧ah n f1 d1 p=r) (((s_.length:Int) - 0).toNat+1) _ sbQ sbQ ⟨(0,f__c0),rfl,⟨omQ,omQ⟩,(Nat.lt_succ_self _),hM⟩ ?_
 clear hM
 rintro n1 S ⟨p1,rfl,hfa1,hm1,hM⟩
 replace hM:=aT hM (by omega) hf1;obtain ⟨ag1,hag1,hM⟩:=hM
 replace hfa1:=nzQ hfa1
 replace hm1:=nzQ hm1
 have ha1:ao .i64 p1.1 1=p1.1+1:=bl omQ omQ
 have hF:=ha1
 revert hM;revert hF
 refine slQ ?_
 refine cdQ (fun _ _ _=> ?_) (fun _ _ _=> ?_)
 ·intro hF hM
  replace hM:=au hM;obtain ⟨x5,hx6,hM⟩:=hM
  have hcx5:=MO N ih (gt s_ p1.1) (p1.2) (by (exact hp0 _ (aK (by omega))))
  rw [←hx6] at hcx5
  refine bL [0,1] hcx5 (by decide) (an hF) (an hF) (fun hw7=> ?_)
  replace hw7:=nzQ hw7
  revert hM;revert hF
  refine slQ ?_
  refine cdQ (fun _ _ _=> ?_) (fun _ _ _=> ?_)
  ·intro hF hM
   subst hM
   exact aU [0,1] (an hF) (by decide) (an hF)
  ·intro hF hM
   refine aP (n1 - 1) _ (by omega) sbQ sbQ ⟨((p1.1+1),x5.2),rfl,⟨omQ,omQ⟩,omQ,aN hM hag1⟩
 ·intro hF hM
  subst hM
  exact aU [0,1] (an hF) (by decide) (an hF)
theorem MQ (N:Nat) (ih: ∀(t_:av) (left:Int),fy t_<N→bp En 22 [.agg [.int .i64 t_.C,.sl none 1 false (t_.P.A.map (V.int .i64)),.int .i64 t_.P.C,.sl none 1 false (t_.P.Z.map (V.int .i64)),.sl none 5 true (t_.L.map bB)],.ptr 0 0] [.var 1 false (.int .i64 left)] (.bool (dt t_ left).1) [.var 1 false (.int .i64 (dt t_ left).2)] []) (z0:Option Bool) (s_:(List av)) (f__c0:Int) (hp0: ∀x∈s_,fy x<N):bp En 20 [.sl z0 5 true (s_.map bB),.fn 55 [.ptr 0 0]] [.var 1 false (.ptr 1 0),.var 1 false (.int .i64 f__c0)] (.bool (nZ s_ f__c0).1) [.var 1 false (.ptr 1 0),.var 1 false (.int .i64 (nZ s_ f__c0).2)] []:=by
 generalize hM:nZ s_ f__c0=r
 rw [nZ.eq_1] at hM
 refine cE bc bA noJ Tryz.func20 rfl Tryz.ntmps20 (by kernel_rfl) rfl fun ks hw hwB=>bz ?_
 refine spQ ?_
 replace hw:=nzQ hw
 replace hwB:=nzB hwB
 replace hM:=au hM;obtain ⟨x1,hx2,hM⟩:=hM
 have hcx1:=MP N ih z0 s_ f__c0 (by (exact hp0))
 rw [←hx2] at hcx1
 refine bL [0,1] hcx1 (by decide) lsQ lsQ (fun hw3=> ?_)
 replace hw3:=nzQ hw3
 have hF:=bT
 revert hM;revert hF
 refine slQ ?_
 intro hF hM
 subst hM
 exact aU [0,1] lsQ (by decide) lsQ
theorem MR (N:Nat) (ih: ∀(t_:av) (left:Int),fy t_<N→bp En 22 [.agg [.int .i64 t_.C,.sl none 1 false (t_.P.A.map (V.int .i64)),.int .i64 t_.P.C,.sl none 1 false (t_.P.Z.map (V.int .i64)),.sl none 5 true (t_.L.map bB)],.ptr 0 0] [.var 1 false (.int .i64 left)] (.bool (dt t_ left).1) [.var 1 false (.int .i64 (dt t_ left).2)] []) (t_:av) (left:Int) (hp_:fy t_<N+1):bp En 22 [.agg [.int .i64 t_.C,.sl none 1 false (t_.P.A.map (V.int .i64)),.int .i64 t_.P.C,.sl none 1 false (t_.P.Z.map (V.int .i64)),.sl none 5 true (t_.L.map bB)],.ptr 0 0] [.var 1 false (.int .i64 left)] (.bool (n0 t_ left).1) [.var 1 false (.int .i64 (n0 t_ left).2)] []:=by
 generalize hM:n0 t_ left=r
 rw [n0.eq_1] at hM
 refine cE bc bA noJ Tryz.func22 rfl Tryz.ntmps22 (by kernel_rfl) rfl fun ks hw hwB=>bz ?_
 refine spQ ?_
 replace hw:=nzQ hw
 replace hwB:=nzB hwB
 have hF:=bT
 revert hM;revert hF
 refine cdQ (fun _ _ _=> ?_) (fun _ _ _=> ?_)
 ·refine cdQ (fun _ _ _=> ?_) (fun _ _ _=> ?_)
  ·refine cdQ (fun _ _ _=> ?_) (fun _ _ _=> ?_)
   ·intro hF hM
    subst hM
    exact aU [0] (an hF) (by decide) (an hF)
   ·intro hF hM
    replace hM:=au hM;obtain ⟨x8,hx9,hM⟩:=hM
    have hcx8:=MQ N ih none (t_.L) (ap .i64 left 1) (by (exact fun x hx=>Nat.lt_of_lt_of_le (KZ hx) (Nat.lt_succ_iff.1 hp_)))
    rw [←hx9] at hcx8
    refine bL [2,0] hcx8 (by decide) lsQ lsQ (fun hw10=> ?_)
    replace hw10:=nzQ hw10
    revert hM;revert hF
    refine slQ ?_
    intro hF hM
    subst hM
    exact aU [0] (an hF) (by decide) (an hF)
  ·intro hF hM
   subst hM
   exact aU [0] (an hF) (by decide) (an hF)
 ·intro hF hM
  subst hM
  exact aU [0] (an hF) (by decide) (an hF)
set_option maxRecDepth 512 in
theorem MS: ∀(N:Nat) (t_:av) (left:Int),fy t_<N→bp En 22 [.agg [.int .i64 t_.C,.sl none 1 false (t_.P.A.map (V.int .i64)),.int .i64 t_.P.C,.sl none 1 false (t_.P.Z.map (V.int .i64)),.sl none 5 true (t_.L.map bB)],.ptr 0 0] [.var 1 false (.int .i64 left)] (.bool (dt t_ left).1) [.var 1 false (.int .i64 (dt t_ left).2)] []:=by
 intro N
 induction N with
 | zero=>intro t_ left h;exact absurd h (Nat.not_lt_zero _)
 | succ N ih=>
  intro t_ left h
  have h9:=MR N ih t_ left h
  rw [K7] at h9
  exact h9
set_option maxRecDepth 512 in
theorem MT (t_:av) (left:Int):bp En 22 [.agg [.int .i64 t_.C,.sl none 1 false (t_.P.A.map (V.int .i64)),.int .i64 t_.P.C,.sl none 1 false (t_.P.Z.map (V.int .i64)),.sl none 5 true (t_.L.map bB)],.ptr 0 0] [.var 1 false (.int .i64 left)] (.bool (dt t_ left).1) [.var 1 false (.int .i64 (dt t_ left).2)] []:=
 MS (fy t_+1) t_ left (Nat.lt_succ_self _)
instance RN (t:av):CM En (xd t) 21 [.agg [.int .i64 t.C,.sl none 1 false (t.P.A.map (V.int .i64)),.int .i64 t.P.C,.sl none 1 false (t.P.Z.map (V.int .i64)),.sl none 5 true (t.L.map bB)]] (fun y=> .bool y) (fun _=> []):=by
 refine enQ noJ Tryz.func21 Tryz.ntmps21 (xd.eq_1 ..) fun r hw=> ?_
 intro hF hM
 replace hM:=au hM;obtain ⟨x1,hx2,hM⟩:=hM
 have hcx1:=MT t 60
 rw [←hx2] at hcx1
 refine bL [1] hcx1 (by decide) lsQ lsQ (fun hw3=> ?_)
 replace hw3:=nzQ hw3
 exact auP
instance RO (s:(List av)):CM En (xe s) 54 [.sl none 5 true (s.map bB),.fn 21 []] (fun y=> .int .i64 y) (fun _=> []):=by
 refine enQ noJ Tryz.func54 Tryz.ntmps54 (xe.eq_1 ..) fun r hw=> ?_
 intro hF hM
 replace hM:=aS hM;obtain ⟨f1,d1,hf1,hd1,hM⟩:=hM
 refine bk (fun n S=> ∃p:Int,S=(⟨[(0,.sl none 5 true (s.map bB)),(1,.fn 21 []),(7,.int .i64 (s.length:Int)),(8,.int .i64 p)],[],0⟩:St)∧((0≤p)∧(p≤(s.length:Int)))∧((s.length:Int) - p).toNat<n∧ah n f1 d1 p=r) (((s.length:Int) - 0).toNat+1) _ sbQ sbQ ⟨0,rfl,⟨omQ,omQ⟩,(Nat.lt_succ_self _),hM⟩ ?_
 clear hM
 rintro n1 S ⟨p1,rfl,hfa1,hm1,hM⟩
 replace hM:=aT hM (by omega) hf1;obtain ⟨ag1,hag1,hM⟩:=hM
 replace hfa1:=nzQ hfa1
 replace hm1:=nzQ hm1
 have ha1:ao .i64 p1 1=p1+1:=bl omQ omQ
 replace hF:=(And.intro ha1 hF)
 revert hM;revert hF
 refine slQ ?_
 refine aE fun _ _ _=> ?_
 refine aQ fun _ _ _ _=> ?_
 refine aW fun _ _ _=> ?_
 intro hF hM
 refine aP (n1 - 1) _ (by omega) sbQ sbQ ⟨(p1+1),rfl,⟨omQ,omQ⟩,omQ,aN hM hag1⟩
instance RP (s:(List av)):CM En (xf s) 20 [.sl none 5 true (s.map bB),.fn 21 []] (fun y=> .bool y) (fun _=> []):=by
 refine enQ noJ Tryz.func20 Tryz.ntmps20 (xf.eq_1 ..) fun r hw=> ?_
 exact auR
instance RQ (f_:aa) (l:(List av)):CM En (xg f_ l) 6 [.agg [.int .i64 f_.Kind,.sl none 1 false (f_.Relation.Y.map (V.int .i64)),.sl none 1 false (f_.Relation.Bases.map (fun (l:List Int)=>V.sl none 1 false (l.map (V.int .i64)))),.sl none 4 true (f_.L.map aw)],.sl none 5 true (l.map bB)] (fun y=> .bool y) (fun _=> []):=by
 refine enQ noJ Tryz.func6 Tryz.ntmps6 (xg.eq_1 ..) fun r hw=> ?_
 intro hF hM
 replace hM:=au hM;obtain ⟨x1,hx2,hM⟩:=hM
 have hcx1:=MN f_ 60
 rw [←hx2] at hcx1
 refine bL [1] hcx1 (by decide) lsQ lsQ (fun hw3=> ?_)
 replace hw3:=nzQ hw3
 exact auP
theorem qw (a_:Int) (b:Int) (m:Int) (hp0:0≤a_) (hp1:a_<m) (hp2:0≤b) (hp3:m<2305843009213693952):CM En (eQ a_ b m) 116 [.int .i64 a_,.int .i64 b,.int .i64 m] (fun y=> .int .i64 y) (fun _=> []):=by
 refine enQ noJ Tryz.func116 Tryz.ntmps116 (eQ.eq_1 ..) fun r hw=> ?_
 refine cdQ (fun _ _ _=> ?_) (fun _ _ _=> ?_)
 ·refine aW fun _ _ _=> ?_
  intro hF hM
  replace hM:=aS hM;obtain ⟨f6,d6,hf6,hd6,hM⟩:=hM
  refine bk (fun n S=> ∃p:Int×Int×Int,S=(⟨[(0,.int .i64 p.1),(1,.int .i64 p.2.1),(2,.int .i64 m),(7,.int .i64 p.2.2)],[],0⟩:St)∧((0≤p.1∧p.1<m∧0≤p.2.1∧p.2.1≤b∧0≤p.2.2∧p.2.2<m))∧p.2.1.toNat<n∧ah n f6 d6 p=r) (b.toNat+1) _ sbQ sbQ ⟨(a_,b,0),rfl,by ((try dsimp only);omega),(Nat.lt_succ_self _),hM⟩ ?_
  clear hM
  rintro n6 S ⟨p6,rfl,hF4_0,hm6,hM⟩
  replace hM:=aT hM (by omega) hf6;obtain ⟨ag6,hag6,hM⟩:=hM
  replace hm6:=nzQ hm6
  revert hM;revert hF
  refine slQ ?_
  refine aE fun _ _ _=> ?_
  have ha9:aO .i64 p6.2.1 2=(p6.2.1% 2):=sK ax ax
  intro hF hM
  try simp only [ha9]
  replace hF:=(And.intro ha9 hF)
  revert hM;revert hF
  refine slQ ?_
  refine cdQ (fun _ _ _=> ?_) (fun _ _ _=> ?_)
  ·have ha12:ao .i64 p6.2.2 p6.1=(p6.2.2+p6.1):=dM ax ax
   intro hF hM
   try simp only [ha12]
   replace hF:=(And.intro ha12 hF)
   revert hM;revert hF
   refine slQ ?_
   have ha13:ao .i64 p6.1 p6.1=(p6.1+p6.1):=dM ax ax
   intro hF hM
   try simp only [ha13]
   replace hF:=(And.intro ha13 hF)
   revert hM;revert hF
   refine slQ ?_
   have ha14:cm .i64 p6.2.1 2=(p6.2.1/2):=mw ax ax
   intro hF hM
   try simp only [ha14]
   replace hF:=(And.intro ha14 hF)
   revert hM;revert hF
   refine slQ ?_
   intro hF hM
   refine aP (n6 - 1) _ (by omega) sbQ sbQ ⟨((aO .i64 (p6.1+p6.1) m),(p6.2.1/2),(aO .i64 (p6.2.2+p6.1) m)),rfl,by (clear hM;have h9:=lB (a:=p6.1+p6.1) (m:=m) (by omega) (by omega);have h8:=lB (a:=p6.2.2+p6.1) (m:=m) (by omega) (by omega);(try dsimp only);omega),omQ,aN hM hag6⟩
  ·have ha16:ao .i64 p6.1 p6.1=(p6.1+p6.1):=dM ax ax
   intro hF hM
   try simp only [ha16]
   replace hF:=(And.intro ha16 hF)
   revert hM;revert hF
   refine slQ ?_
   have ha17:cm .i64 p6.2.1 2=(p6.2.1/2):=mw ax ax
   intro hF hM
   try simp only [ha17]
   replace hF:=(And.intro ha17 hF)
   revert hM;revert hF
   refine slQ ?_
   intro hF hM
   refine aP (n6 - 1) _ (by omega) sbQ sbQ ⟨((aO .i64 (p6.1+p6.1) m),(p6.2.1/2),p6.2.2),rfl,by (clear hM;have h9:=lB (a:=p6.1+p6.1) (m:=m) (by omega) (by omega);have h8:=lB (a:=p6.2.2+p6.1) (m:=m) (by omega) (by omega);(try dsimp only);omega),omQ,aN hM hag6⟩
 ·intro hF hM
  replace hM:=aS hM;obtain ⟨f20,d20,hf20,hd20,hM⟩:=hM
  refine bk (fun n S=> ∃p:Int×Int×Int,S=(⟨[(0,.int .i64 p.1),(1,.int .i64 p.2.1),(2,.int .i64 m),(7,.int .i64 p.2.2)],[],0⟩:St)∧((0≤p.1∧p.1<m∧0≤p.2.1∧p.2.1≤b∧0≤p.2.2∧p.2.2<m))∧p.2.1.toNat<n∧ah n f20 d20 p=r) (b.toNat+1) _ sbQ sbQ ⟨(a_,b,0),rfl,by ((try dsimp only);omega),(Nat.lt_succ_self _),hM⟩ ?_
  clear hM
  rintro n20 S ⟨p20,rfl,hF4_0,hm20,hM⟩
  replace hM:=aT hM (by omega) hf20;obtain ⟨ag20,hag20,hM⟩:=hM
  replace hm20:=nzQ hm20
  revert hM;revert hF
  refine slQ ?_
  refine aE fun _ _ _=> ?_
  have ha23:aO .i64 p20.2.1 2=(p20.2.1% 2):=sK ax ax
  intro hF hM
  try simp only [ha23]
  replace hF:=(And.intro ha23 hF)
  revert hM;revert hF
  refine slQ ?_
  refine cdQ (fun _ _ _=> ?_) (fun _ _ _=> ?_)
  ·have ha26:ao .i64 p20.2.2 p20.1=(p20.2.2+p20.1):=dM ax ax
   intro hF hM
   try simp only [ha26]
   replace hF:=(And.intro ha26 hF)
   revert hM;revert hF
   refine slQ ?_
   have ha27:ao .i64 p20.1 p20.1=(p20.1+p20.1):=dM ax ax
   intro hF hM
   try simp only [ha27]
   replace hF:=(And.intro ha27 hF)
   revert hM;revert hF
   refine slQ ?_
   have ha28:cm .i64 p20.2.1 2=(p20.2.1/2):=mw ax ax
   intro hF hM
   try simp only [ha28]
   replace hF:=(And.intro ha28 hF)
   revert hM;revert hF
   refine slQ ?_
   intro hF hM
   refine aP (n20 - 1) _ (by omega) sbQ sbQ ⟨((aO .i64 (p20.1+p20.1) m),(p20.2.1/2),(aO .i64 (p20.2.2+p20.1) m)),rfl,by (clear hM;have h9:=lB (a:=p20.1+p20.1) (m:=m) (by omega) (by omega);have h8:=lB (a:=p20.2.2+p20.1) (m:=m) (by omega) (by omega);(try dsimp only);omega),omQ,aN hM hag20⟩
  ·have ha30:ao .i64 p20.1 p20.1=(p20.1+p20.1):=dM ax ax
   intro hF hM
   try simp only [ha30]
   replace hF:=(And.intro ha30 hF)
   revert hM;revert hF
   refine slQ ?_
   have ha31:cm .i64 p20.2.1 2=(p20.2.1/2):=mw ax ax
   intro hF hM
   try simp only [ha31]
   replace hF:=(And.intro ha31 hF)
   revert hM;revert hF
   refine slQ ?_
   intro hF hM
   refine aP (n20 - 1) _ (by omega) sbQ sbQ ⟨((aO .i64 (p20.1+p20.1) m),(p20.2.1/2),p20.2.2),rfl,by (clear hM;have h9:=lB (a:=p20.1+p20.1) (m:=m) (by omega) (by omega);have h8:=lB (a:=p20.2.2+p20.1) (m:=m) (by omega) (by omega);(try dsimp only);omega),omQ,aN hM hag20⟩
theorem tO (a_:Int) (e_:Int) (m:Int) (hp0:0≤a_) (hp1:a_<m) (hp2:0≤e_) (hp3:m<2305843009213693952):CM En (ef a_ e_ m) 76 [.int .i64 a_,.int .i64 e_,.int .i64 m] (fun y=> .int .i64 y) (fun _=> []):=by
 refine enQ noJ Tryz.func76 Tryz.ntmps76 (ef.eq_1 ..) fun r hw=> ?_
 have h0_0:=tj (m:=m) (by omega)
 refine slQ ?_
 intro hF hM
 replace hM:=aS hM;obtain ⟨f1,d1,hf1,hd1,hM⟩:=hM
 refine bk (fun n S=> ∃p:Int×Int×Int,S=(⟨[(0,.int .i64 p.1),(1,.int .i64 p.2.1),(2,.int .i64 m),(7,.int .i64 p.2.2)],[],0⟩:St)∧((0≤p.1)∧(p.1<m)∧(0≤p.2.1)∧(p.2.1≤e_)∧(0≤p.2.2)∧(p.2.2<m))∧p.2.1.toNat<n∧ah n f1 d1 p=r) (e_.toNat+1) _ sbQ sbQ ⟨(a_,e_,(aO .i64 1 m)),rfl,⟨omQ,omQ,omQ,omQ,omQ,omQ⟩,(Nat.lt_succ_self _),hM⟩ ?_
 clear hM
 rintro n1 S ⟨p1,rfl,hfa1,hm1,hM⟩
 replace hM:=aT hM (by omega) hf1;obtain ⟨ag1,hag1,hM⟩:=hM
 replace hfa1:=nzQ hfa1
 replace hm1:=nzQ hm1
 revert hM;revert hF
 refine slQ ?_
 refine aE fun _ _ _=> ?_
 have ha4:aO .i64 p1.2.1 2=(p1.2.1% 2):=sK ax ax
 intro hF hM
 try simp only [ha4]
 replace hF:=(And.intro ha4 hF)
 revert hM;revert hF
 refine slQ ?_
 refine cdQ (fun _ _ _=> ?_) (fun _ _ _=> ?_)
 ·intro hF hM
  replace hM:=au hM;obtain ⟨x7,hx8,hM⟩:=hM
  have hcx7:=cmH hx8 (qw (p1.2.2) (p1.1) m (by (exact pfQ)) (by (exact pfQ)) (by (exact pfQ)) (by (exact pfQ)))
  refine aV hcx7 (aD hF) (aD hF) (fun hw9=> ?_)
  replace hw9:=nzQ hw9
  revert hM;revert hF
  refine slQ ?_
  have hq10:=lA hx8 (by omega) (by omega) (by omega)
  replace hq10:=nzQ hq10
  intro hF hM
  replace hM:=au hM;obtain ⟨x11,hx12,hM⟩:=hM
  have hcx11:=cmH hx12 (qw (p1.1) (p1.1) m (by (exact pfQ)) (by (exact pfQ)) (by (exact pfQ)) (by (exact pfQ)))
  refine aV hcx11 (aD hF) (aD hF) (fun hw13=> ?_)
  replace hw13:=nzQ hw13
  revert hM;revert hF
  refine slQ ?_
  have hq14:=lA hx12 (by omega) (by omega) (by omega)
  replace hq14:=nzQ hq14
  have ha15:cm .i64 p1.2.1 2=(p1.2.1/2):=mw ax ax
  intro hF hM
  try simp only [ha15]
  replace hF:=(And.intro ha15 hF)
  revert hM;revert hF
  refine slQ ?_
  intro hF hM
  refine aP (n1 - 1) _ (by omega) sbQ sbQ ⟨(x11,(p1.2.1/2),x7),rfl,⟨omQ,omQ,omQ,omQ,omQ,omQ⟩,omQ,aN hM hag1⟩
 ·intro hF hM
  replace hM:=au hM;obtain ⟨x17,hx18,hM⟩:=hM
  have hcx17:=cmH hx18 (qw (p1.1) (p1.1) m (by (exact pfQ)) (by (exact pfQ)) (by (exact pfQ)) (by (exact pfQ)))
  refine aV hcx17 (aD hF) (aD hF) (fun hw19=> ?_)
  replace hw19:=nzQ hw19
  revert hM;revert hF
  refine slQ ?_
  have hq20:=lA hx18 (by omega) (by omega) (by omega)
  replace hq20:=nzQ hq20
  have ha21:cm .i64 p1.2.1 2=(p1.2.1/2):=mw ax ax
  intro hF hM
  try simp only [ha21]
  replace hF:=(And.intro ha21 hF)
  revert hM;revert hF
  refine slQ ?_
  intro hF hM
  refine aP (n1 - 1) _ (by omega) sbQ sbQ ⟨(x17,(p1.2.1/2),p1.2.2),rfl,⟨omQ,omQ,omQ,omQ,omQ,omQ⟩,omQ,aN hM hag1⟩
theorem MU (n_:Int) (a_:Int) (hp0:0≤a_) (hp1:a_<n_) (hp2:1<n_) (hp3:n_<2305843009213693952):CM En (pS n_ a_) 131 [.int .i64 n_,.int .i64 a_] (fun y=> .bool y) (fun _=> []):=by
 refine enQ noJ Tryz.func131 Tryz.ntmps131 (pS.eq_1 ..) fun r hw=> ?_
 have ha1:ap .i64 n_ 1=(n_ - 1):=ff ax ax
 intro hF hM
 try simp only [ha1]
 replace hM:=aS hM;obtain ⟨f2,d2,hf2,hd2,hM⟩:=hM
 refine bk (fun n S=> ∃p:Int×Int,S=(⟨[(0,.int .i64 n_),(1,.int .i64 a_),(5,.int .i64 p.1),(6,.int .i64 p.2)],[],0⟩:St)∧((1≤p.1)∧(p.1<n_)∧(0≤p.2)∧(p.2+p.1≤n_))∧p.1.toNat<n∧ah n f2 d2 p=r) ((n_ - 1).toNat+1) _ sbQ sbQ ⟨((n_ - 1),0),rfl,⟨omQ,omQ,omQ,omQ⟩,(Nat.lt_succ_self _),hM⟩ ?_
 clear hM
 rintro n2 S ⟨p2,rfl,hfa2,hm2,hM⟩
 replace hM:=aT hM (by omega) hf2;obtain ⟨ag2,hag2,hM⟩:=hM
 replace hfa2:=nzQ hfa2
 replace hm2:=nzQ hm2
 replace hF:=(And.intro ha1 hF)
 revert hM;revert hF
 refine slQ ?_
 have ha3:aO .i64 p2.1 2=(p2.1% 2):=sK ax ax
 intro hF hM
 try simp only [ha3]
 replace hF:=(And.intro ha3 hF)
 revert hM;revert hF
 refine slQ ?_
 refine cdQ (fun _ _ _=> ?_) (fun _ _ _=> ?_)
 ·have ha6:cm .i64 p2.1 2=(p2.1/2):=mw ax ax
  intro hF hM
  try simp only [ha6]
  replace hF:=(And.intro ha6 hF)
  revert hM;revert hF
  refine slQ ?_
  have ha7:ao .i64 p2.2 1=(p2.2+1):=dM ax ax
  intro hF hM
  try simp only [ha7]
  refine aP (n2 - 1) _ (by omega) sbQ sbQ ⟨((p2.1/2),(p2.2+1)),rfl,⟨omQ,omQ,omQ,omQ⟩,omQ,aN hM hag2⟩
 ·intro hF hM
  replace hM:=au hM;obtain ⟨x9,hx10,hM⟩:=hM
  have hcx9:=cmH hx10 (tO a_ (p2.1) n_ (by (exact pfQ)) (by (exact pfQ)) (by (exact pfQ)) (by (exact pfQ)))
  refine aV hcx9 (aD hF) (aD hF) (fun hw11=> ?_)
  replace hw11:=nzQ hw11
  revert hM;revert hF
  refine slQ ?_
  have hq12:=xx hx10 (by omega) (by omega)
  replace hq12:=nzQ hq12
  refine aE fun _ _ _=> ?_
  refine aW fun _ _ _=> ?_
  intro hF hM
  replace hM:=aS hM;obtain ⟨f19,d19,hf19,hd19,hM⟩:=hM
  refine bk (fun n S=> ∃p:Int×Int,S=(⟨[(0,.int .i64 n_),(6,.int .i64 p2.2),(7,.int .i64 p.1),(8,.int .i64 p.2)],[],0⟩:St)∧((1≤p.2)∧(p.2≤p2.2∨p.2≤1)∧(0≤p.1)∧(p.1<n_))∧(p2.2 - p.2).toNat<n∧ah n f19 d19 p=r) ((p2.2 - 1).toNat+1) _ sbQ sbQ ⟨(x9,1),rfl,⟨omQ,omQ,omQ,omQ⟩,(Nat.lt_succ_self _),hM⟩ ?_
  clear hM
  rintro n19 S ⟨p19,rfl,hfa19,hm19,hM⟩
  replace hM:=aT hM (by omega) hf19;obtain ⟨ag19,hag19,hM⟩:=hM
  replace hfa19:=nzQ hfa19
  replace hm19:=nzQ hm19
  have ha19:ao .i64 p19.2 1=p19.2+1:=bl omQ omQ
  replace hF:=(And.intro ha19 hF)
  revert hM;revert hF
  refine slQ ?_
  refine aE fun _ _ _=> ?_
  intro hF hM
  replace hM:=au hM;obtain ⟨x22,hx23,hM⟩:=hM
  have hcx22:=cmH hx23 (qw (p19.1) (p19.1) n_ (by (exact pfQ)) (by (exact pfQ)) (by (exact pfQ)) (by (exact pfQ)))
  refine aV hcx22 (aD hF) (aD hF) (fun hw24=> ?_)
  replace hw24:=nzQ hw24
  revert hM;revert hF
  refine slQ ?_
  have hq25:=lA hx23 (by omega) (by omega) (by omega)
  replace hq25:=nzQ hq25
  refine aW fun _ _ _=> ?_
  intro hF hM
  refine aP (n19 - 1) _ (by omega) sbQ sbQ ⟨(x22,(p19.2+1)),rfl,⟨omQ,omQ,omQ,omQ⟩,omQ,aN hM hag19⟩
theorem DF (n_:Int) (hp0:n_<2305843009213693952):CM En (n3 n_) 75 [.int .i64 n_] (fun y=> .bool y) (fun _=> []):=by
 refine cmQ fun r hM=> ?_
 rw [n3.eq_1] at hM
 refine ci bc bA noJ Tryz.func75 rfl Tryz.ntmps75 (by kernel_rfl) fun hw=>bz ?_
 refine spQ ?_
 replace hw:=nzQ hw
 refine cn (fun h1=> ?_) (fun h1=> ?_)
 ·rw [if_pos h1] at hM
  refine aA h1 ?_
  subst hM
  exact fc (eC h1)
 ·rw [if_neg (b9 h1)] at hM
  refine aA h1 ?_
  have nh1:=nzQ h1
  try have hr3:=mpQ nh1
  replace hM:=aS hM;obtain ⟨f4,d4,hf4,hd4,hM⟩:=hM
  refine bk (fun n S=> ∃p:Int,S=(⟨[(0,.int .i64 n_),(3,.own 0),(4,.int .i64 p)],[(0,.own 3 1 false (some false) (([2,3,5,7,11,13,17,19,23,29,31,37]:List Int).map (V.int .i64)))],1⟩:St)∧(((0≤p)∧(p≤(12:Int)))∧(kt n_ p))∧((12:Int) - p).toNat<n∧ah n f4 d4 p=r) (((12:Int) - 0).toNat+1) _ sbQ sbQ ⟨0,rfl,⟨⟨by (first|exact omQ|(clear hM;first|(have hk:=cT (j:=p4) (by omega) (by omega);exact ax))),by (first|exact omQ|(clear hM;first|(have hk:=cT (j:=p4) (by omega) (by omega);exact ax)))⟩,by (exact xo)⟩,(Nat.lt_succ_self _),hM⟩ ?_
  clear hM
  rintro n4 S ⟨p4,rfl,⟨hfa4,hF5_0⟩,hm4,hM⟩
  replace hM:=aT hM (by omega) hf4;obtain ⟨ag4,hag4,hM⟩:=hM
  replace hfa4:=nzQ hfa4
  replace hm4:=nzQ hm4
  have ha4:ao .i64 p4 1=p4+1:=bl (by (first|exact omQ|(clear hM;first|(have hk:=cT (j:=p4) (by omega) (by omega);exact ax)))) (by (first|exact omQ|(clear hM;first|(have hk:=cT (j:=p4) (by omega) (by omega);exact ax))))
  refine aA ha4 ?_
  refine cn (fun h5=> ?_) (fun h5=> ?_)
  ·rw [if_pos h5] at hM
   refine aA (And.intro ha4 h5) ?_
   have nh5:=nzQ h5
   try have hr6:=mpQ nh5
   refine bP (by (first|exact omQ|(clear hM;first|(have hk:=cT (j:=p4) (by omega) (by omega);exact ax)))) ?_
   have he7:=fun d=>c6 (l:=([2,3,5,7,11,13,17,19,23,29,31,37]:List Int)) (f:=(V.int .i64)) (i:=p4) (by (first|exact omQ|(clear hM;first|(have hk:=cT (j:=p4) (by omega) (by omega);exact ax)))) d
   replace he7:=fun d=>spR (he7 d)
   refine aA (And.intro ha4 he7) ?_
   refine bP (by (first|exact omQ|(clear hM;first|(have hk:=cT (j:=p4) (by omega) (by omega);exact ax)))) ?_
   refine aA (And.intro ha4 he7) ?_
   refine bP (by (first|exact omQ|(clear hM;first|(have hk:=cT (j:=p4) (by omega) (by omega);exact ax)))) ?_
   refine aA (And.intro ha4 he7) ?_
   refine cn (fun h8=> ?_) (fun h8=> ?_)
   ·rw [if_pos h8] at hM
    refine aA (And.intro ha4 (And.intro he7 h8)) ?_
    have nh8:=nzQ h8
    try have hr9:=mpQ nh8
    have hA0:=fun a0 a1=>cT (j:=p4) a0 a1
    have hF:=(And.intro h1 (And.intro ha4 (And.intro h5 (And.intro he7 h8))))
    exact auQ
   ·rw [if_neg (b9 h8)] at hM
    refine aA (And.intro ha4 (And.intro he7 h8)) ?_
    have nh8:=nzQ h8
    try have hr10:=mpQ nh8
    refine aP (n4 - 1) _ (by omega) sbQ sbQ ⟨(p4+1),rfl,⟨⟨by (first|exact omQ|(clear hM;first|(have hk:=cT (j:=(p4+1)) (by omega) (by omega);exact ax))),by (first|exact omQ|(clear hM;first|(have hk:=cT (j:=(p4+1)) (by omega) (by omega);exact ax)))⟩,by (clear hM;exact KR hF5_0 (by omega) (by omega) (by omega) (by assumption))⟩,by (first|exact omQ|(clear hM;first|(have hk:=cT (j:=(p4+1)) (by omega) (by omega);exact ax))),aN hM hag4⟩
  ·rw [if_neg (b9 h5)] at hM
   refine aA (And.intro ha4 h5) ?_
   have nh5:=nzQ h5
   try have hr11:=mpQ nh5
   refine cn (fun h12=> ?_) (fun h12=> ?_)
   ·rw [if_pos h12] at hM
    refine aA (And.intro ha4 h12) ?_
    have nh12:=nzQ h12
    try have hr13:=mpQ nh12
    exact False.elim (by (clear hM;omega))
   ·rw [if_neg (b9 h12)] at hM
    refine aA (And.intro ha4 h12) ?_
    have nh12:=nzQ h12
    try have hr14:=mpQ nh12
    replace hM:=aS hM;obtain ⟨f15,d15,hf15,hd15,hM⟩:=hM
    refine bk (fun n S=> ∃p:Int,S=(⟨[(0,.int .i64 n_),(3,.own 0),(5,.int .i64 p)],[(0,.own 3 1 false (some false) (([2,3,5,7,11,13,17,19,23,29,31,37]:List Int).map (V.int .i64)))],1⟩:St)∧(((0≤p)∧(p≤(12:Int)))∧(37<n_))∧((12:Int) - p).toNat<n∧ah n f15 d15 p=r) (((12:Int) - 0).toNat+1) _ sbQ sbQ ⟨0,rfl,⟨⟨by (first|exact omQ|(clear hM;first|(have hk:=cT (j:=p15) (by omega) (by omega);exact ax))),by (first|exact omQ|(clear hM;first|(have hk:=cT (j:=p15) (by omega) (by omega);exact ax)))⟩,by (clear hM;exact xq hF5_0 (by omega) (by omega))⟩,(Nat.lt_succ_self _),hM⟩ ?_
    clear hM
    rintro n15 S ⟨p15,rfl,⟨hfa15,hF12_0⟩,hm15,hM⟩
    replace hM:=aT hM (by omega) hf15;obtain ⟨ag15,hag15,hM⟩:=hM
    replace hfa15:=nzQ hfa15
    replace hm15:=nzQ hm15
    have ha15:ao .i64 p15 1=p15+1:=bl (by (first|exact omQ|(clear hM;first|(have hk:=cT (j:=p15) (by omega) (by omega);exact ax)))) (by (first|exact omQ|(clear hM;first|(have hk:=cT (j:=p15) (by omega) (by omega);exact ax))))
    refine aA (And.intro ha4 ha15) ?_
    refine cn (fun h16=> ?_) (fun h16=> ?_)
    ·rw [if_pos h16] at hM
     refine aA (And.intro ha4 (And.intro ha15 h16)) ?_
     have nh16:=nzQ h16
     try have hr17:=mpQ nh16
     refine bP (by (first|exact omQ|(clear hM;first|(have hk:=cT (j:=p15) (by omega) (by omega);exact ax)))) ?_
     have he18:=fun d=>c6 (l:=([2,3,5,7,11,13,17,19,23,29,31,37]:List Int)) (f:=(V.int .i64)) (i:=p15) (by (first|exact omQ|(clear hM;first|(have hk:=cT (j:=p15) (by omega) (by omega);exact ax)))) d
     replace he18:=fun d=>spR (he18 d)
     refine aA (And.intro ha4 (And.intro ha15 he18)) ?_
     refine bP (by (first|exact omQ|(clear hM;first|(have hk:=cT (j:=p15) (by omega) (by omega);exact ax)))) ?_
     refine aA (And.intro ha4 (And.intro ha15 he18)) ?_
     replace hM:=au hM;obtain ⟨x19,hx20,hM⟩:=hM
     have hcx19:=cmH hx20 (MU n_ (gt ([2,3,5,7,11,13,17,19,23,29,31,37]:List Int) p15) (by (first|omega|(have hk:=cT (j:=p15) (by omega) (by omega);omega))) (by (first|omega|(have hk:=cT (j:=p15) (by omega) (by omega);omega))) (by (first|omega|(have hk:=cT (j:=p15) (by omega) (by omega);omega))) (by (first|omega|(have hk:=cT (j:=p15) (by omega) (by omega);omega))))
     refine aV hcx19 (aD (And.intro ha4 (And.intro ha15 he18))) (aD (And.intro ha4 (And.intro ha15 he18))) (fun hw21=> ?_)
     replace hw21:=nzQ hw21
     refine aA (And.intro ha4 (And.intro ha15 he18)) ?_
     refine cn (fun h22=> ?_) (fun h22=> ?_)
     ·rw [if_pos h22] at hM
      refine aA (And.intro ha4 (And.intro ha15 (And.intro he18 h22))) ?_
      subst hM
      exact fc (eC (And.intro ha4 (And.intro ha15 (And.intro he18 (And.intro h1 (And.intro h5 (And.intro h12 (And.intro h16 h22))))))))
     ·rw [if_neg (b9 h22)] at hM
      refine aA (And.intro ha4 (And.intro ha15 (And.intro he18 h22))) ?_
      have nh22:=nzQ h22
      try have hr24:=mpQ nh22
      refine aP (n15 - 1) _ (by omega) sbQ sbQ ⟨(p15+1),rfl,⟨⟨by (first|exact omQ|(clear hM;first|(have hk:=cT (j:=(p15+1)) (by omega) (by omega);exact ax))),by (first|exact omQ|(clear hM;first|(have hk:=cT (j:=(p15+1)) (by omega) (by omega);exact ax)))⟩,by (clear hM;exact hF12_0)⟩,by (first|exact omQ|(clear hM;first|(have hk:=cT (j:=(p15+1)) (by omega) (by omega);exact ax))),aN hM hag15⟩
    ·rw [if_neg (b9 h16)] at hM
     refine aA (And.intro ha4 (And.intro ha15 h16)) ?_
     subst hM
     exact fc (eC (And.intro ha4 (And.intro ha15 (And.intro h1 (And.intro h5 (And.intro h12 h16))))))
instance RR (g:ak):CM En (eF g) 31 [.agg [.int .i64 g.P,.int .i64 g.Q,.int .i64 g.G]] (fun y=> .bool y) (fun _=> []):=by
 refine enQ noJ Tryz.func31 Tryz.ntmps31 (eF.eq_1 ..) fun r hw=> ?_
 refine aE fun _ _ _=> ?_
 refine aE fun _ _ _=> ?_
 refine aE fun _ _ _=> ?_
 refine aE fun _ _ _=> ?_
 refine aE fun _ _ _=> ?_
 refine aE fun _ _ _=> ?_
 refine aW fun _ _ _=> ?_
 intro hF hM
 replace hM:=au hM;obtain ⟨x16,hx17,hM⟩:=hM
 have hcx16:=cmH hx17 (DF (g.P) (by (first|omega|(refine tm (p:=g.P) ?_ ?_ ?_ ?_<;>first|omega|assumption))))
 refine aV hcx16 clQ clQ (fun hw18=> ?_)
 replace hw18:=nzQ hw18
 revert hM;revert hF
 refine slQ ?_
 refine aE fun _ _ _=> ?_
 intro hF hM
 replace hM:=au hM;obtain ⟨x20,hx21,hM⟩:=hM
 have hcx20:=cmH hx21 (DF (g.Q) (by (first|omega|(refine tm (p:=g.P) ?_ ?_ ?_ ?_<;>first|omega|assumption))))
 refine aV hcx20 clQ clQ (fun hw22=> ?_)
 replace hw22:=nzQ hw22
 revert hM;revert hF
 refine slQ ?_
 refine aE fun _ _ _=> ?_
 intro hF hM
 replace hM:=au hM;obtain ⟨x24,hx25,hM⟩:=hM
 have hcx24:=cmH hx25 (tO (g.G) (g.Q) (g.P) (by (first|omega|assumption)) (by (first|omega|assumption)) (by (first|omega|assumption)) (by (first|omega|assumption)))
 refine aV hcx24 clQ clQ (fun hw26=> ?_)
 replace hw26:=nzQ hw26
 exact auP
theorem MV (N:Nat) (ih: ∀(f_:aa),ay f_<N→aI En 77 [.agg [.int .i64 f_.Kind,.sl none 1 false (f_.Relation.Y.map (V.int .i64)),.sl none 1 false (f_.Relation.Bases.map (fun (l:List Int)=>V.sl none 1 false (l.map (V.int .i64)))),.sl none 4 true (f_.L.map aw)]] (.int .i64 (fR f_)) []) (f_:aa) (hp_:ay f_<N+1):aI En 77 [.agg [.int .i64 f_.Kind,.sl none 1 false (f_.Relation.Y.map (V.int .i64)),.sl none 1 false (f_.Relation.Bases.map (fun (l:List Int)=>V.sl none 1 false (l.map (V.int .i64)))),.sl none 4 true (f_.L.map aw)]] (.int .i64 (pT f_)) []:=by
 generalize hM:pT f_=r
 rw [pT.eq_1] at hM
 refine ci bc bA noJ Tryz.func77 rfl Tryz.ntmps77 (by kernel_rfl) fun hw=>bz ?_
 refine spQ ?_
 replace hw:=nzQ hw
 replace hM:=aS hM;obtain ⟨f1,d1,hf1,hd1,hM⟩:=hM
 refine bk (fun n S=> ∃p:Int×Int,S=(⟨[(1,.ptr 0 0),(3,.int .i64 p.1),(4,.int .i64 p.2)],[(0,.var 4 true (.agg [.int .i64 f_.Kind,.sl none 1 false (f_.Relation.Y.map (V.int .i64)),.sl none 1 false (f_.Relation.Bases.map (fun (l:List Int)=>V.sl none 1 false (l.map (V.int .i64)))),.sl none 4 true (f_.L.map aw)]))],1⟩:St)∧((1≤p.1)∧(p.1≤61)∧(0≤p.2)∧(p.2≤(f_.L.length:Int)))∧((f_.L.length:Int) - p.2).toNat<n∧ah n f1 d1 p=r) (((f_.L.length:Int) - 0).toNat+1) _ sbQ sbQ ⟨(1,0),rfl,⟨omQ,omQ,omQ,omQ⟩,(Nat.lt_succ_self _),hM⟩ ?_
 clear hM
 rintro n1 S ⟨p1,rfl,hfa1,hm1,hM⟩
 replace hM:=aT hM (by omega) hf1;obtain ⟨ag1,hag1,hM⟩:=hM
 replace hfa1:=nzQ hfa1
 replace hm1:=nzQ hm1
 have hF:=bT
 revert hM;revert hF
 refine slQ ?_
 refine aE fun _ _ _=> ?_
 refine aE fun _ _ _=> ?_
 intro hF hM
 replace hM:=au hM;obtain ⟨x7,hx8,hM⟩:=hM
 have hcx7:=ih (gt f_.L p1.2) (by (have h9:=cU (f:=f_) (aK (l:=f_.L) (i:=p1.2) (by omega));omega))
 rw [←hx8] at hcx7
 refine aV hcx7 (aD hF) (aD hF) (fun hw9=> ?_)
 replace hw9:=nzQ hw9
 revert hM;revert hF
 refine slQ ?_
 have hq10:=LH hx8
 replace hq10:=nzQ hq10
 have ha11:ao .i64 p1.1 x7=(p1.1+x7):=dM ax ax
 intro hF hM
 try simp only [ha11]
 have ha12:ao .i64 p1.2 1=(p1.2+1):=dM omQ omQ
 try simp only [ha12]
 refine aP (n1 - 1) _ (by omega) sbQ sbQ ⟨((p1.1+x7),(p1.2+1)),rfl,⟨omQ,omQ,omQ,omQ⟩,omQ,aN hM hag1⟩
set_option maxRecDepth 512 in
theorem MW: ∀(N:Nat) (f_:aa),ay f_<N→aI En 77 [.agg [.int .i64 f_.Kind,.sl none 1 false (f_.Relation.Y.map (V.int .i64)),.sl none 1 false (f_.Relation.Bases.map (fun (l:List Int)=>V.sl none 1 false (l.map (V.int .i64)))),.sl none 4 true (f_.L.map aw)]] (.int .i64 (fR f_)) []:=by
 intro N
 induction N with
 | zero=>intro f_ h;exact absurd h (Nat.not_lt_zero _)
 | succ N ih=>
  intro f_ h
  have h9:=MV N ih f_ h
  rw [Lz] at h9
  exact h9
set_option maxRecDepth 512 in
theorem MX (f_:aa):aI En 77 [.agg [.int .i64 f_.Kind,.sl none 1 false (f_.Relation.Y.map (V.int .i64)),.sl none 1 false (f_.Relation.Bases.map (fun (l:List Int)=>V.sl none 1 false (l.map (V.int .i64)))),.sl none 4 true (f_.L.map aw)]] (.int .i64 (fR f_)) []:=
 MW (ay f_+1) f_ (Nat.lt_succ_self _)
theorem MY (N:Nat) (ih: ∀(f_:aa),(ay f_≤1000)→ay f_<N→aI En 78 [.agg [.int .i64 f_.Kind,.sl none 1 false (f_.Relation.Y.map (V.int .i64)),.sl none 1 false (f_.Relation.Bases.map (fun (l:List Int)=>V.sl none 1 false (l.map (V.int .i64)))),.sl none 4 true (f_.L.map aw)]] (.int .i64 (gh f_)) []) (f_:aa) (hp0:ay f_≤1000) (hp_:ay f_<N+1):aI En 78 [.agg [.int .i64 f_.Kind,.sl none 1 false (f_.Relation.Y.map (V.int .i64)),.sl none 1 false (f_.Relation.Bases.map (fun (l:List Int)=>V.sl none 1 false (l.map (V.int .i64)))),.sl none 4 true (f_.L.map aw)]] (.int .i64 (pU f_)) []:=by
 generalize hM:pU f_=r
 rw [pU.eq_1] at hM
 refine ci bc bA noJ Tryz.func78 rfl Tryz.ntmps78 (by kernel_rfl) fun hw=>bz ?_
 refine spQ ?_
 replace hw:=nzQ hw
 replace hM:=aS hM;obtain ⟨f1,d1,hf1,hd1,hM⟩:=hM
 refine bk (fun n S=> ∃p:Int×Int,S=(⟨[(1,.ptr 0 0),(3,.int .i64 p.1),(4,.int .i64 p.2)],[(0,.var 4 true (.agg [.int .i64 f_.Kind,.sl none 1 false (f_.Relation.Y.map (V.int .i64)),.sl none 1 false (f_.Relation.Bases.map (fun (l:List Int)=>V.sl none 1 false (l.map (V.int .i64)))),.sl none 4 true (f_.L.map aw)]))],1⟩:St)∧((0≤p.2)∧(p.2≤(f_.L.length:Int))∧(0≤p.1)∧(p.1≤(ay f_:Int)))∧((f_.L.length:Int) - p.2).toNat<n∧ah n f1 d1 p=r) (((f_.L.length:Int) - 0).toNat+1) _ sbQ sbQ ⟨(0,0),rfl,⟨by (first|exact omQ|(clear hM;first|(have h9:=fF (m:=p1.1) rfl;exact ax))),by (first|exact omQ|(clear hM;first|(have h9:=fF (m:=p1.1) rfl;exact ax))),by (first|exact omQ|(clear hM;first|(have h9:=fF (m:=p1.1) rfl;exact ax))),by (first|exact omQ|(clear hM;first|(have h9:=fF (m:=p1.1) rfl;exact ax)))⟩,(Nat.lt_succ_self _),hM⟩ ?_
 clear hM
 rintro n1 S ⟨p1,rfl,hfa1,hm1,hM⟩
 replace hM:=aT hM (by omega) hf1;obtain ⟨ag1,hag1,hM⟩:=hM
 replace hfa1:=nzQ hfa1
 replace hm1:=nzQ hm1
 have ha1:ao .i64 p1.2 1=p1.2+1:=bl (by (first|exact omQ|(clear hM;first|(have h9:=fF (m:=p1.1) rfl;exact ax)))) (by (first|exact omQ|(clear hM;first|(have h9:=fF (m:=p1.1) rfl;exact ax))))
 refine aA ha1 ?_
 refine cn (fun h2=> ?_) (fun h2=> ?_)
 ·rw [if_pos h2] at hM
  refine aA (And.intro ha1 h2) ?_
  have nh2:=nzQ h2
  try have hr3:=mpQ nh2
  refine bP (by (first|exact omQ|(clear hM;first|(have h9:=fF (m:=p1.1) rfl;exact ax)))) ?_
  have he4:=fun d=>c6 (l:=f_.L) (f:=aw) (i:=p1.2) (by (first|exact omQ|(clear hM;first|(have h9:=fF (m:=p1.1) rfl;exact ax)))) d
  refine aA (And.intro ha1 he4) ?_
  replace hM:=au hM;obtain ⟨x5,hx6,hM⟩:=hM
  have hcx5:=ih (gt f_.L p1.2) (by (have h9:=cU (f:=f_) (aK (l:=f_.L) (i:=p1.2) (by omega));omega)) (by (have h9:=cU (f:=f_) (aK (l:=f_.L) (i:=p1.2) (by omega));omega))
  rw [←hx6] at hcx5
  refine aV hcx5 (aD (And.intro ha1 he4)) (aD (And.intro ha1 he4)) (fun hw7=> ?_)
  replace hw7:=nzQ hw7
  refine aA (And.intro ha1 he4) ?_
  have hq8:0≤x5∧x5<(ay f_:Int):=LI hx6 (cU (f:=f_) (aK (l:=f_.L) (i:=p1.2) (by omega)))
  replace hq8:=nzQ hq8
  refine aP (n1 - 1) _ (by omega) sbQ sbQ ⟨((b_ p1.1 x5),(p1.2+1)),rfl,⟨by (first|exact omQ|(clear hM;first|(have h9:=fF (m:=(b_ p1.1 x5)) rfl;exact ax))),by (first|exact omQ|(clear hM;first|(have h9:=fF (m:=(b_ p1.1 x5)) rfl;exact ax))),by (first|exact omQ|(clear hM;first|(have h9:=fF (m:=(b_ p1.1 x5)) rfl;exact ax))),by (first|exact omQ|(clear hM;first|(have h9:=fF (m:=(b_ p1.1 x5)) rfl;exact ax)))⟩,by (first|exact omQ|(clear hM;first|(have h9:=fF (m:=(b_ p1.1 x5)) rfl;exact ax))),aN hM hag1⟩
 ·rw [if_neg (b9 h2)] at hM
  refine aA (And.intro ha1 h2) ?_
  have nh2:=nzQ h2
  try have hr9:=mpQ nh2
  have ha10:ao .i64 p1.1 1=(p1.1+1):=dM (by (first|exact omQ|(clear hM;first|(have h9:=fF (m:=p1.1) rfl;exact ax)))) (by (first|exact omQ|(clear hM;first|(have h9:=fF (m:=p1.1) rfl;exact ax))))
  try simp only [ha10]
  subst hM
  exact fc (eC (And.intro ha1 (And.intro ha10 h2)))
set_option maxRecDepth 512 in
theorem MZ: ∀(N:Nat) (f_:aa),(ay f_≤1000)→ay f_<N→aI En 78 [.agg [.int .i64 f_.Kind,.sl none 1 false (f_.Relation.Y.map (V.int .i64)),.sl none 1 false (f_.Relation.Bases.map (fun (l:List Int)=>V.sl none 1 false (l.map (V.int .i64)))),.sl none 4 true (f_.L.map aw)]] (.int .i64 (gh f_)) []:=by
 intro N
 induction N with
 | zero=>intro f_ h0 h;exact absurd h (Nat.not_lt_zero _)
 | succ N ih=>
  intro f_ h0 h
  have h9:=MY N ih f_ h0 h
  rw [LA] at h9
  exact h9
set_option maxRecDepth 512 in
theorem M0 (f_:aa) (hp0:ay f_≤1000):aI En 78 [.agg [.int .i64 f_.Kind,.sl none 1 false (f_.Relation.Y.map (V.int .i64)),.sl none 1 false (f_.Relation.Bases.map (fun (l:List Int)=>V.sl none 1 false (l.map (V.int .i64)))),.sl none 4 true (f_.L.map aw)]] (.int .i64 (gh f_)) []:=
 MZ (ay f_+1) f_ hp0 (Nat.lt_succ_self _)
set_option maxRecDepth 512 in
instance (priority:=1008):DRD 6 105 26 [47,48,49,50,51,52,53,54,55,56,57,58,59,60,61,62,63,64,65,66,67,68,69,70,71,72] [] ([[],[0],[],[0,1,2],[0,1,2,3],[0,1,2,3,4],[0,1,2,3,4,5],[0,1,2,3,4,5,6],[0,1,2,3,4,5,6,7],[0,1,2,3,4,5,6],[0,1,2,3,4,5,6,7,8,9],[0,1,2,3,4,5,6,7,8,9,10],[0,1,2,3,4,5,6,7,8,9,10,11],[0,1,2,3,4,5,6,7,8,9,10,11,12],[0,1,2,3,4,5,6,7,8,9,10,11,12,13],[0,1,2,3,4,5,6,7,8,9,10,11,12,13,14],[0,1,2,3,4,5,6,7,8,9,10,11,12,13,14,15],[0,1,2,3,4,5,6,7,8,9,10,11,12,13,14],[0,1,2,3,4,5,6,7,8,9,10,11,12,13,14,15,16,17],[0,1,2,3,4,5,6,7,8,9,10,11,12,13,14,15,16,17,18],[0,1,2,3,4,5,6,7,8,9,10,11,12,13,14,15,16,17,18,19],[0,1,2,3,4,5,6,7,8,9,10,11,12,13,14],[0,1,2,3,4,5,6,7,8,9,10,11,12,13,14,21],[0,1,2,3,4,5,6,7,8,9,10,11,12,13,14,21,22],[0,1,2,3,4,5,6,7,8,9,10,11,12,13,14,21,22,23],[0,1,2,3,4,5,6,7,8,9,10,11,12,13,14,21,22,23,24]]++[List.range 26,List.range 27]) []:=⟨trivial⟩
instance RS (r_:aF):CM En (gi r_) 132 [.agg [.sl none 1 false (r_.Y.map (V.int .i64)),.sl none 1 false (r_.Bases.map (fun (l:List Int)=>V.sl none 1 false (l.map (V.int .i64))))]] (fun y=> .bool y) (fun _=> []):=by
 refine enQ noJ Tryz.func132 Tryz.ntmps132 (gi.eq_1 ..) fun r hw=> ?_
 refine aE fun _ _ _=> ?_
 refine aE fun _ _ _=> ?_
 refine aE fun _ _ _=> ?_
 refine aE fun _ _ _=> ?_
 refine aW fun _ _ _=> ?_
 intro hF hM
 replace hM:=aS hM;obtain ⟨f13,d13,hf13,hd13,hM⟩:=hM
 refine bk (fun n S=> ∃p:Int,S=(⟨[(1,.ptr 0 0),(3,.int .i64 p)],[(0,.var 2 true (.agg [.sl none 1 false (r_.Y.map (V.int .i64)),.sl none 1 false (r_.Bases.map (fun (l:List Int)=>V.sl none 1 false (l.map (V.int .i64))))]))],1⟩:St)∧((0≤p)∧(p≤(r_.Y.length:Int)))∧((r_.Y.length:Int) - p).toNat<n∧ah n f13 d13 p=r) (((r_.Y.length:Int) - 0).toNat+1) _ sbQ sbQ ⟨0,rfl,⟨omQ,omQ⟩,(Nat.lt_succ_self _),hM⟩ ?_
 clear hM
 rintro n13 S ⟨p13,rfl,hfa13,hm13,hM⟩
 replace hM:=aT hM (by omega) hf13;obtain ⟨ag13,hag13,hM⟩:=hM
 replace hfa13:=nzQ hfa13
 replace hm13:=nzQ hm13
 have ha13:ao .i64 p13 1=p13+1:=bl omQ omQ
 replace hF:=(And.intro ha13 hF)
 revert hM;revert hF
 refine slQ ?_
 refine aE fun _ _ _=> ?_
 refine aE fun _ _ _=> ?_
 refine aE fun _ _ _=> ?_
 refine aW fun _ _ _=> ?_
 intro hF hM
 replace hM:=aS hM;obtain ⟨f25,d25,hf25,hd25,hM⟩:=hM
 refine bk (fun n S=> ∃p:Int,S=(⟨[(1,.ptr 0 0),(3,.int .i64 p13),(4,.int .i64 p)],[(0,.var 2 true (.agg [.sl none 1 false (r_.Y.map (V.int .i64)),.sl none 1 false (r_.Bases.map (fun (l:List Int)=>V.sl none 1 false (l.map (V.int .i64))))]))],27⟩:St)∧((0≤p)∧(p≤((gt r_.Bases p13).length:Int)))∧(((gt r_.Bases p13).length:Int) - p).toNat<n∧ah n f25 d25 p=r) ((((gt r_.Bases p13).length:Int) - 0).toNat+1) _ sbQ sbQ ⟨0,rfl,⟨omQ,omQ⟩,(Nat.lt_succ_self _),hM⟩ ?_
 clear hM
 rintro n25 S ⟨p25,rfl,hfa25,hm25,hM⟩
 replace hM:=aT hM (by omega) hf25;obtain ⟨ag25,hag25,hM⟩:=hM
 replace hfa25:=nzQ hfa25
 replace hm25:=nzQ hm25
 have ha25:ao .i64 p25 1=p25+1:=bl omQ omQ
 replace hF:=(And.intro ha25 hF)
 revert hM;revert hF
 refine slQ ?_
 refine cdQ (fun _ _ _=> ?_) (fun _ _ _=> ?_)
 ·refine aE fun _ _ _=> ?_
  refine aW fun _ _ _=> ?_
  intro hF hM
  refine aP (n25 - 1) _ (by omega) sbQ sbQ ⟨(p25+1),rfl,⟨omQ,omQ⟩,omQ,aN hM hag25⟩
 ·intro hF hM
  refine aP (n13 - 1) _ (by omega) sbQ sbQ ⟨(p13+1),rfl,⟨omQ,omQ⟩,omQ,aN hM hag13⟩
theorem M3 (N:Nat) (ih: ∀(f_:aa),ay f_<N→aI En 79 [.agg [.int .i64 f_.Kind,.sl none 1 false (f_.Relation.Y.map (V.int .i64)),.sl none 1 false (f_.Relation.Bases.map (fun (l:List Int)=>V.sl none 1 false (l.map (V.int .i64)))),.sl none 4 true (f_.L.map aw)]] (.bool (gj f_)) []) (f_:aa) (hp_:ay f_<N+1):aI En 79 [.agg [.int .i64 f_.Kind,.sl none 1 false (f_.Relation.Y.map (V.int .i64)),.sl none 1 false (f_.Relation.Bases.map (fun (l:List Int)=>V.sl none 1 false (l.map (V.int .i64)))),.sl none 4 true (f_.L.map aw)]] (.bool (pV f_)) []:=by
 generalize hM:pV f_=r
 rw [pV.eq_1] at hM
 refine ci bc bA noJ Tryz.func79 rfl Tryz.ntmps79 (by kernel_rfl) fun hw=>bz ?_
 refine spQ ?_
 replace hw:=nzQ hw
 have hF:=bT
 revert hM;revert hF
 refine aW fun _ _ _=> ?_
 refine cdQ (fun _ _ _=> ?_) (fun _ _ _=> ?_)
 ·refine aE fun _ _ _=> ?_
  refine aE fun _ _ _=> ?_
  refine aE fun _ _ _=> ?_
  refine aE fun _ _ _=> ?_
  refine aW fun _ _ _=> ?_
  intro hF hM
  replace hM:=aS hM;obtain ⟨f23,d23,hf23,hd23,hM⟩:=hM
  refine bk (fun n S=> ∃p:Int,S=(⟨[(1,.ptr 0 0),(3,.int .i64 p)],[(0,.var 4 true (.agg [.int .i64 f_.Kind,.sl none 1 false (f_.Relation.Y.map (V.int .i64)),.sl none 1 false (f_.Relation.Bases.map (fun (l:List Int)=>V.sl none 1 false (l.map (V.int .i64)))),.sl none 4 true (f_.L.map aw)]))],1⟩:St)∧((0≤p)∧(p≤(f_.L.length:Int)))∧((f_.L.length:Int) - p).toNat<n∧ah n f23 d23 p=r) (((f_.L.length:Int) - 0).toNat+1) _ sbQ sbQ ⟨0,rfl,⟨omQ,omQ⟩,(Nat.lt_succ_self _),hM⟩ ?_
  clear hM
  rintro n23 S ⟨p23,rfl,hfa23,hm23,hM⟩
  replace hM:=aT hM (by omega) hf23;obtain ⟨ag23,hag23,hM⟩:=hM
  replace hfa23:=nzQ hfa23
  replace hm23:=nzQ hm23
  have ha23:ao .i64 p23 1=p23+1:=bl omQ omQ
  replace hF:=(And.intro ha23 hF)
  revert hM;revert hF
  refine slQ ?_
  refine aE fun _ _ _=> ?_
  intro hF hM
  replace hM:=au hM;obtain ⟨x27,hx28,hM⟩:=hM
  have hcx27:=ih (gt f_.L p23) (by (have h9:=cU (f:=f_) (aK (l:=f_.L) (i:=p23) (by omega));omega))
  rw [←hx28] at hcx27
  refine aV hcx27 (aD hF) (aD hF) (fun hw29=> ?_)
  replace hw29:=nzQ hw29
  revert hM;revert hF
  refine slQ ?_
  refine aW fun _ _ _=> ?_
  intro hF hM
  refine aP (n23 - 1) _ (by omega) sbQ sbQ ⟨(p23+1),rfl,⟨omQ,omQ⟩,omQ,aN hM hag23⟩
 ·refine aE fun _ _ _=> ?_
  refine aE fun _ _ _=> ?_
  refine aE fun _ _ _=> ?_
  refine aW fun _ _ _=> ?_
  intro hF hM
  replace hM:=aS hM;obtain ⟨f48,d48,hf48,hd48,hM⟩:=hM
  refine bk (fun n S=> ∃p:Int,S=(⟨[(1,.ptr 0 0),(3,.int .i64 p)],[(0,.var 4 true (.agg [.int .i64 f_.Kind,.sl none 1 false (f_.Relation.Y.map (V.int .i64)),.sl none 1 false (f_.Relation.Bases.map (fun (l:List Int)=>V.sl none 1 false (l.map (V.int .i64)))),.sl none 4 true (f_.L.map aw)]))],1⟩:St)∧((0≤p)∧(p≤(f_.L.length:Int)))∧((f_.L.length:Int) - p).toNat<n∧ah n f48 d48 p=r) (((f_.L.length:Int) - 0).toNat+1) _ sbQ sbQ ⟨0,rfl,⟨omQ,omQ⟩,(Nat.lt_succ_self _),hM⟩ ?_
  clear hM
  rintro n48 S ⟨p48,rfl,hfa48,hm48,hM⟩
  replace hM:=aT hM (by omega) hf48;obtain ⟨ag48,hag48,hM⟩:=hM
  replace hfa48:=nzQ hfa48
  replace hm48:=nzQ hm48
  have ha48:ao .i64 p48 1=p48+1:=bl omQ omQ
  replace hF:=(And.intro ha48 hF)
  revert hM;revert hF
  refine slQ ?_
  refine aE fun _ _ _=> ?_
  intro hF hM
  replace hM:=au hM;obtain ⟨x52,hx53,hM⟩:=hM
  have hcx52:=ih (gt f_.L p48) (by (have h9:=cU (f:=f_) (aK (l:=f_.L) (i:=p48) (by omega));omega))
  rw [←hx53] at hcx52
  refine aV hcx52 (aD hF) (aD hF) (fun hw54=> ?_)
  replace hw54:=nzQ hw54
  revert hM;revert hF
  refine slQ ?_
  refine aW fun _ _ _=> ?_
  intro hF hM
  refine aP (n48 - 1) _ (by omega) sbQ sbQ ⟨(p48+1),rfl,⟨omQ,omQ⟩,omQ,aN hM hag48⟩
set_option maxRecDepth 512 in
theorem M4: ∀(N:Nat) (f_:aa),ay f_<N→aI En 79 [.agg [.int .i64 f_.Kind,.sl none 1 false (f_.Relation.Y.map (V.int .i64)),.sl none 1 false (f_.Relation.Bases.map (fun (l:List Int)=>V.sl none 1 false (l.map (V.int .i64)))),.sl none 4 true (f_.L.map aw)]] (.bool (gj f_)) []:=by
 intro N
 induction N with
 | zero=>intro f_ h;exact absurd h (Nat.not_lt_zero _)
 | succ N ih=>
  intro f_ h
  have h9:=M3 N ih f_ h
  rw [LC] at h9
  exact h9
set_option maxRecDepth 512 in
theorem M5 (f_:aa):aI En 79 [.agg [.int .i64 f_.Kind,.sl none 1 false (f_.Relation.Y.map (V.int .i64)),.sl none 1 false (f_.Relation.Bases.map (fun (l:List Int)=>V.sl none 1 false (l.map (V.int .i64)))),.sl none 4 true (f_.L.map aw)]] (.bool (gj f_)) []:=
 M4 (ay f_+1) f_ (Nat.lt_succ_self _)
end Go.Proofs.YtgealhhkngbkbaaGreatDoor
namespace Go.Proofs.YtgealhhkngbkbaaGreatDoor
open Go.RowKit
instance RT (f_:aa):CM En (gk f_) 32 [.agg [.int .i64 f_.Kind,.sl none 1 false (f_.Relation.Y.map (V.int .i64)),.sl none 1 false (f_.Relation.Bases.map (fun (l:List Int)=>V.sl none 1 false (l.map (V.int .i64)))),.sl none 4 true (f_.L.map aw)]] (fun y=> .bool y) (fun _=> []):=by
 refine enQ noJ Tryz.func32 Tryz.ntmps32 (gk.eq_1 ..) fun r hw=> ?_
 intro hF hM
 replace hM:=au hM;obtain ⟨x1,hx2,hM⟩:=hM
 have hcx1:=MX f_
 rw [←hx2] at hcx1
 refine aV hcx1 clQ clQ (fun hw3=> ?_)
 replace hw3:=nzQ hw3
 revert hM;revert hF
 refine slQ ?_
 have hq4:=C_ hx2
 replace hq4:=nzQ hq4
 refine aE fun _ _ _=> ?_
 intro hF hM
 replace hM:=au hM;obtain ⟨x7,hx8,hM⟩:=hM
 have hcx7:=M0 f_ (by (exact pfQ))
 rw [←hx8] at hcx7
 refine aV hcx7 clQ clQ (fun hw9=> ?_)
 replace hw9:=nzQ hw9
 revert hM;revert hF
 refine slQ ?_
 refine aE fun _ _ _=> ?_
 intro hF hM
 replace hM:=au hM;obtain ⟨x12,hx13,hM⟩:=hM
 have hcx12:=M5 f_
 rw [←hx13] at hcx12
 refine aV hcx12 clQ clQ (fun hw14=> ?_)
 replace hw14:=nzQ hw14
 exact auP
theorem tP (r_:aF) (hp0:1≤r_.Bases.length):CM En (dG r_) 95 [.agg [.sl none 1 false (r_.Y.map (V.int .i64)),.sl none 1 false (r_.Bases.map (fun (l:List Int)=>V.sl none 1 false (l.map (V.int .i64))))]] (fun y=> .int .i64 y) (fun _=> []):=by
 refine enQ noJ Tryz.func95 Tryz.ntmps95 (dG.eq_1 ..) fun r hw=> ?_
 exact auR
theorem DG (g:ak) (x_:Int) (hp0:3≤g.Q) (hp1:g.P<2305843009213693952):CM En (dH g x_) 115 [.agg [.int .i64 g.P,.int .i64 g.Q,.int .i64 g.G],.int .i64 x_] (fun y=> .bool y) (fun _=> []):=by
 refine enQ noJ Tryz.func115 Tryz.ntmps115 (dH.eq_1 ..) fun r hw=> ?_
 refine aE fun _ _ _=> ?_
 refine aE fun _ _ _=> ?_
 intro hF hM
 replace hM:=au hM;obtain ⟨x5,hx6,hM⟩:=hM
 have hcx5:=cmH hx6 (tO x_ (g.Q) (g.P) (by (exact pfQ)) (by (exact pfQ)) (by (exact pfQ)) (by (exact pfQ)))
 refine aV hcx5 clQ clQ (fun hw7=> ?_)
 replace hw7:=nzQ hw7
 exact auP
set_option maxRecDepth 512 in
instance (priority:=1009):DRD 9 81 16 [47,48,49,50,51,52,53,54,55,56,57,58,59,60,61,62] [] ([[],[],[1],[],[1,2,3],[1,2,3,4],[0,1,2,3,4,5],[0,1,2,3,4,5,6],[0,1,2,3,4,5,6,7],[0,1,2,3,4,5,6,7,8],[0,1,2,3,4,5,6,7,8,9],[0,1,2,3,4,5,6,7,8],[0,1,2,3,4,5,6,7,8,9,10,11],[0,1,2,3,4,5,6,7,8,9,10,11,12],[0,1,2,3,4,5,6,7,8,9,10,11,12,13],[0,1,2,3,4,5,6,7,8]]++[List.range 16,List.range 17]) []:=⟨trivial⟩
set_option maxRecDepth 512 in
instance (priority:=1010):DRD 14 81 9 [70,71,72,73,74,75,76,77,78] [] ([[],[],[1],[],[1,2,3],[1,2,3,4],[],[1,2,3,4,5,6],[1,2,3,4,5,6,7]]++[List.range 9,List.range 10]) []:=⟨trivial⟩
instance RU (g:ak) (r_:aF):CM En (eR g r_) 80 [.agg [.int .i64 g.P,.int .i64 g.Q,.int .i64 g.G],.agg [.sl none 1 false (r_.Y.map (V.int .i64)),.sl none 1 false (r_.Bases.map (fun (l:List Int)=>V.sl none 1 false (l.map (V.int .i64))))]] (fun y=> .bool y) (fun _=> []):=by
 refine enQ noJ Tryz.func80 Tryz.ntmps80 (eR.eq_1 ..) fun r hw=> ?_
 refine aQ fun _ _ _ _=> ?_
 refine aE fun _ _ _=> ?_
 refine aE fun _ _ _=> ?_
 refine aE fun _ _ _=> ?_
 refine aW fun _ _ _=> ?_
 intro hF hM
 replace hM:=au hM;obtain ⟨x14,hx15,hM⟩:=hM
 have hcx14:=cmH hx15 (tP r_ (by (exact pfQ)))
 refine aV hcx14 clQ clQ (fun hw16=> ?_)
 replace hw16:=nzQ hw16
 revert hM;revert hF
 refine slQ ?_
 refine aE fun _ _ _=> ?_
 refine aW fun _ _ _=> ?_
 intro hF hM
 replace hM:=aS hM;obtain ⟨f22,d22,hf22,hd22,hM⟩:=hM
 refine bk (fun n S=> ∃p:Int,S=(⟨[(2,.ptr 0 0),(3,.ptr 1 0),(5,.int .i64 x14),(6,.int .i64 p)],[(0,.var 3 true (.agg [.int .i64 g.P,.int .i64 g.Q,.int .i64 g.G])),(1,.var 2 true (.agg [.sl none 1 false (r_.Y.map (V.int .i64)),.sl none 1 false (r_.Bases.map (fun (l:List Int)=>V.sl none 1 false (l.map (V.int .i64))))]))],2⟩:St)∧((0≤p)∧(p≤(r_.Y.length:Int)))∧((r_.Y.length:Int) - p).toNat<n∧ah n f22 d22 p=r) (((r_.Y.length:Int) - 0).toNat+1) _ sbQ sbQ ⟨0,rfl,⟨omQ,omQ⟩,(Nat.lt_succ_self _),hM⟩ ?_
 clear hM
 rintro n22 S ⟨p22,rfl,hfa22,hm22,hM⟩
 replace hM:=aT hM (by omega) hf22;obtain ⟨ag22,hag22,hM⟩:=hM
 replace hfa22:=nzQ hfa22
 replace hm22:=nzQ hm22
 have ha22:ao .i64 p22 1=p22+1:=bl omQ omQ
 replace hF:=(And.intro ha22 hF)
 revert hM;revert hF
 refine slQ ?_
 refine aE fun _ _ _=> ?_
 intro hF hM
 replace hM:=au hM;obtain ⟨x26,hx27,hM⟩:=hM
 have hcx26:=cmH hx27 (DG g (gt r_.Y p22) (by (omega)) (by (omega)))
 refine cN hcx26 (aD hF) (aD hF) ?_
 revert hM;revert hF
 refine slQ ?_
 have hq28:=nzQ (cfU hx27)
 refine aE fun _ _ _=> ?_
 refine aW fun _ _ _=> ?_
 intro hF hM
 replace hM:=aS hM;obtain ⟨f35,d35,hf35,hd35,hM⟩:=hM
 refine bk (fun n S=> ∃p:Int,S=(⟨[(2,.ptr 0 0),(3,.ptr 1 0),(5,.int .i64 x14),(6,.int .i64 p22),(7,.int .i64 p)],[(0,.var 3 true (.agg [.int .i64 g.P,.int .i64 g.Q,.int .i64 g.G])),(1,.var 2 true (.agg [.sl none 1 false (r_.Y.map (V.int .i64)),.sl none 1 false (r_.Bases.map (fun (l:List Int)=>V.sl none 1 false (l.map (V.int .i64))))]))],18⟩:St)∧((0≤p)∧(p≤x14))∧(x14 - p).toNat<n∧ah n f35 d35 p=r) ((x14 - 0).toNat+1) _ sbQ sbQ ⟨0,rfl,⟨omQ,omQ⟩,(Nat.lt_succ_self _),hM⟩ ?_
 clear hM
 rintro n35 S ⟨p35,rfl,hfa35,hm35,hM⟩
 replace hM:=aT hM (by omega) hf35;obtain ⟨ag35,hag35,hM⟩:=hM
 replace hfa35:=nzQ hfa35
 replace hm35:=nzQ hm35
 have ha35:ao .i64 p35 1=p35+1:=bl omQ omQ
 replace hF:=(And.intro ha35 hF)
 revert hM;revert hF
 refine slQ ?_
 refine cdQ (fun _ _ _=> ?_) (fun _ _ _=> ?_)
 ·intro hF hM
  replace hM:=au hM;obtain ⟨x39,hx40,hM⟩:=hM
  have hcx39:=cmH hx40 (DG g (gt (gt r_.Bases p22) p35) (by (omega)) (by (omega)))
  refine aV hcx39 (aD hF) (aD hF) (fun hw41=> ?_)
  replace hw41:=nzQ hw41
  revert hM;revert hF
  refine slQ ?_
  have hq42:=nzQ (cfU hx40)
  refine aW fun _ _ _=> ?_
  intro hF hM
  refine aP (n35 - 1) _ (by omega) sbQ sbQ ⟨(p35+1),rfl,⟨omQ,omQ⟩,omQ,aN hM hag35⟩
 ·intro hF hM
  refine aP (n22 - 1) _ (by omega) sbQ sbQ ⟨(p22+1),rfl,⟨omQ,omQ⟩,omQ,aN hM hag22⟩
set_option maxRecDepth 512 in
instance (priority:=1011):DRD 6 28 6 [20,21,22,23,24,25] [] ([[],[],[1],[],[1,2,3],[1,2,3,4]]++[List.range 6,List.range 7]) []:=⟨trivial⟩
theorem M6 (N:Nat) (ih: ∀(g:ak) (f_:aa),ay f_<N→aI En 33 [.agg [.int .i64 g.P,.int .i64 g.Q,.int .i64 g.G],.agg [.int .i64 f_.Kind,.sl none 1 false (f_.Relation.Y.map (V.int .i64)),.sl none 1 false (f_.Relation.Bases.map (fun (l:List Int)=>V.sl none 1 false (l.map (V.int .i64)))),.sl none 4 true (f_.L.map aw)]] (.bool (jq g f_)) []) (g:ak) (f_:aa) (hp_:ay f_<N+1):aI En 33 [.agg [.int .i64 g.P,.int .i64 g.Q,.int .i64 g.G],.agg [.int .i64 f_.Kind,.sl none 1 false (f_.Relation.Y.map (V.int .i64)),.sl none 1 false (f_.Relation.Bases.map (fun (l:List Int)=>V.sl none 1 false (l.map (V.int .i64)))),.sl none 4 true (f_.L.map aw)]] (.bool (pW g f_)) []:=by
 generalize hM:pW g f_=r
 rw [pW.eq_1] at hM
 refine ci bc bA noJ Tryz.func33 rfl Tryz.ntmps33 (by kernel_rfl) fun hw=>bz ?_
 refine spQ ?_
 replace hw:=nzQ hw
 have hF:=bT
 revert hM;revert hF
 refine aW fun _ _ _=> ?_
 intro hF hM
 replace hM:=aS hM;obtain ⟨f8,d8,hf8,hd8,hM⟩:=hM
 refine bk (fun n S=> ∃p:Int,S=(⟨[(2,.ptr 0 0),(3,.ptr 1 0),(5,.int .i64 p)],[(0,.var 3 true (.agg [.int .i64 g.P,.int .i64 g.Q,.int .i64 g.G])),(1,.var 4 true (.agg [.int .i64 f_.Kind,.sl none 1 false (f_.Relation.Y.map (V.int .i64)),.sl none 1 false (f_.Relation.Bases.map (fun (l:List Int)=>V.sl none 1 false (l.map (V.int .i64)))),.sl none 4 true (f_.L.map aw)]))],2⟩:St)∧((0≤p)∧(p≤(f_.L.length:Int)))∧((f_.L.length:Int) - p).toNat<n∧ah n f8 d8 p=r) (((f_.L.length:Int) - 0).toNat+1) _ sbQ sbQ ⟨0,rfl,⟨omQ,omQ⟩,(Nat.lt_succ_self _),hM⟩ ?_
 clear hM
 rintro n8 S ⟨p8,rfl,hfa8,hm8,hM⟩
 replace hM:=aT hM (by omega) hf8;obtain ⟨ag8,hag8,hM⟩:=hM
 replace hfa8:=nzQ hfa8
 replace hm8:=nzQ hm8
 have ha8:ao .i64 p8 1=p8+1:=bl omQ omQ
 replace hF:=(And.intro ha8 hF)
 revert hM;revert hF
 refine slQ ?_
 refine aE fun h9 _ _=> ?_
 intro hF hM
 replace hM:=au hM;obtain ⟨x12,hx13,hM⟩:=hM
 have hcx12:=ih g (gt f_.L p8) (by (have h9:=cU (f:=f_) (aK (l:=f_.L) (i:=p8) (by omega));omega))
 rw [←hx13] at hcx12
 refine aV hcx12 (aD hF) (aD hF) (fun hw14=> ?_)
 replace hw14:=nzQ hw14
 revert hM;revert hF
 refine slQ ?_
 refine aW fun _ _ _=> ?_
 intro hF hM
 refine aP (n8 - 1) _ (by omega) sbQ sbQ ⟨(p8+1),rfl,⟨omQ,omQ⟩,omQ,aN hM hag8⟩
set_option maxRecDepth 512 in
theorem M7: ∀(N:Nat) (g:ak) (f_:aa),ay f_<N→aI En 33 [.agg [.int .i64 g.P,.int .i64 g.Q,.int .i64 g.G],.agg [.int .i64 f_.Kind,.sl none 1 false (f_.Relation.Y.map (V.int .i64)),.sl none 1 false (f_.Relation.Bases.map (fun (l:List Int)=>V.sl none 1 false (l.map (V.int .i64)))),.sl none 4 true (f_.L.map aw)]] (.bool (jq g f_)) []:=by
 intro N
 induction N with
 | zero=>intro g f_ h;exact absurd h (Nat.not_lt_zero _)
 | succ N ih=>
  intro g f_ h
  have h9:=M6 N ih g f_ h
  rw [LD] at h9
  exact h9
set_option maxRecDepth 512 in
theorem M8 (g:ak) (f_:aa):aI En 33 [.agg [.int .i64 g.P,.int .i64 g.Q,.int .i64 g.G],.agg [.int .i64 f_.Kind,.sl none 1 false (f_.Relation.Y.map (V.int .i64)),.sl none 1 false (f_.Relation.Bases.map (fun (l:List Int)=>V.sl none 1 false (l.map (V.int .i64)))),.sl none 4 true (f_.L.map aw)]] (.bool (jq g f_)) []:=
 M7 (ay f_+1) g f_ (Nat.lt_succ_self _)
instance RW (g:ak) (f_:aa):CM En (dI g f_) 11 [.agg [.int .i64 g.P,.int .i64 g.Q,.int .i64 g.G],.agg [.int .i64 f_.Kind,.sl none 1 false (f_.Relation.Y.map (V.int .i64)),.sl none 1 false (f_.Relation.Bases.map (fun (l:List Int)=>V.sl none 1 false (l.map (V.int .i64)))),.sl none 4 true (f_.L.map aw)]] (fun y=> .bool y) (fun _=> []):=by
 refine enQ noJ Tryz.func11 Tryz.ntmps11 (dI.eq_1 ..) fun r hw=> ?_
 refine aQ fun _ _ _ _=> ?_
 refine aE fun _ _ _=> ?_
 refine aQ fun _ _ _ _=> ?_
 refine aE fun _ _ _=> ?_
 intro hF hM
 replace hM:=au hM;obtain ⟨x13,hx14,hM⟩:=hM
 have hcx13:=M8 g f_
 rw [←hx14] at hcx13
 refine aV hcx13 clQ clQ (fun hw15=> ?_)
 replace hw15:=nzQ hw15
 exact auP
instance RX (d_:bm):CM En (gm d_) 34 [(dO d_)] (fun y=> .bool y) (fun _=> []):=by
 refine enQ noJ Tryz.func34 Tryz.ntmps34 (gm.eq_1 ..) fun r hw=> ?_
 exact auR
instance RY (d_:bm) (n_:Int) (low:Int) (high:Int):CM En (jr d_ n_ low high) 171 [(dO d_),.int .i64 n_,.int .i64 low,.int .i64 high] (fun y=> .int .i64 y) (fun _=> []):=by
 refine enQ noJ Tryz.func171 Tryz.ntmps171 (jr.eq_1 ..) fun r hw=> ?_
 exact auR
instance RZ (d_:bm):CM En (pX d_) 220 [(dO d_)] (fun _=> .own 0) (fun y=> [.own 5 1 false none (y.map (V.int .u8))]):=by
 refine enQ noJ Tryz.func220 Tryz.ntmps220 (pX.eq_1 ..) fun r hw=> ?_
 intro hF hM
 replace hM:=aS hM;obtain ⟨f1,d1,hf1,hd1,hM⟩:=hM
 refine bk (fun n S=> ∃p:Int×List Int,S=(⟨[(1,.ptr 0 0),(3,.own 1),(4,.int .i64 p.1)],[(0,.pvar 33 true ((dO d_))),(1,.own 5 1 false none (p.2.map (V.int .u8)))],2⟩:St)∧((-8≤p.1)∧(p.1≤56)∧(8*((p.2).length:Int)+p.1=312))∧((p.1:Int)+8).toNat<n∧ah n f1 d1 p=r) (((56:Int)+8).toNat+1) _ sbQ sbQ ⟨(56,(([]:List Int)++(bX 32 d_.Seed))),rfl,⟨omQ,omQ,omQ⟩,(Nat.lt_succ_self _),hM⟩ ?_
 clear hM
 rintro n1 S ⟨p1,rfl,hfa1,hm1,hM⟩
 replace hM:=aT hM (by omega) hf1;obtain ⟨ag1,hag1,hM⟩:=hM
 replace hfa1:=nzQ hfa1
 replace hm1:=nzQ hm1
 revert hM;revert hF
 refine slQ ?_
 refine cdQ (fun _ _ _=> ?_) (fun _ _ _=> ?_)
 ·have ha4:ap .i64 p1.1 8=(p1.1 - 8):=ff ax ax
  intro hF hM
  try simp only [ha4]
  refine aP (n1 - 1) _ (by omega) sbQ sbQ ⟨((p1.1 - 8),(p1.2++([(al .u8 (aB .i64 d_.Counter p1.1))]:List Int))),rfl,⟨omQ,omQ,omQ⟩,omQ,aN hM hag1⟩
 ·intro hF hM
  subst hM
  exact wF [1] (bs:=[.own 5 1 false none (p1.2.map (V.int .u8))]) clQ (by decide) (eC hF)
theorem DH (z0:Option Bool) (s:List Int):aI En 140 [.sl z0 1 false (s.map (V.int .u8))] (.own 0) [.own 5 1 false none ((s6 s).map (V.int .u8))]:=by
 show aI En 140 [.sl z0 1 false (s.map (V.int .u8))] (.own 0) [.own 5 1 false none (s.map (V.int .u8))]
 refine Bd (pre:=[]) (post:=[]) (fun hl=> ?_) ?_ z0
 ·have hl:s=[]:=by cases s with|nil=>rfl|cons a s=>cases hl
  subst hl
  refine ci bc bA noJ Tryz.func140 rfl Tryz.ntmps140 (by kernel_rfl) fun hw=>bz ?_
  simp only [go_sem,fg,fh,List.length_replicate,dE,Int.toNat_natCast,↓reduceIte,Nat.reduceEqDiff,Nat.reduceAdd,Int.reduceAdd,Nat.reduceMul,Nat.reduceLeDiff,Nat.reduceLT,Int.reduceLE,Int.reduceLT,Int.reduceNeg,Int.reduceToNat,List.nil_append]
  exact Bc (by decide)
 ·refine ci bc bA noJ Tryz.func140 rfl Tryz.ntmps140 (by kernel_rfl) fun hw=>bz ?_
  simp only [go_sem,fg,fh,List.length_replicate,dE,Int.toNat_natCast,↓reduceIte,Nat.reduceEqDiff,Nat.reduceAdd,Int.reduceAdd,Nat.reduceMul,Nat.reduceLeDiff,Nat.reduceLT,Int.reduceLE,Int.reduceLT,Int.reduceNeg,Int.reduceToNat,List.nil_append]
  have hn:s.length≤1073741824:=by have h:=hw;simp only [wfL,wfV,List.nil_append,mh,List.length_map] at h;exact h.1.1
  refine bP (by first|omega|(simp only [List.length_map,List.length_nil,List.nil_append];omega)) ?_
  refine spQ ?_
  refine Bb 0 rfl clQ
instance R3 (n_:Int):CM En (pY n_) 175 [.int .u64 n_] (fun y=> .sl none 1 false (y.map (V.int .u8))) (fun _=> []):=by
 refine enQ noJ Tryz.func175 Tryz.ntmps175 (pY.eq_1 ..) fun r hw=> ?_
 intro hF hM
 replace hM:=aS hM;obtain ⟨f1,d1,hf1,hd1,hM⟩:=hM
 refine bk (fun n S=> ∃p:Int×List Int,S=(⟨[(0,.int .u64 n_),(3,.own 0),(7,.int .i64 (8:Int)),(8,.int .i64 p.1)],[(0,.own 5 1 false none (p.2.map (V.int .u8)))],1⟩:St)∧((0≤p.1)∧(p.1≤(8:Int))∧((p.2).length=(([(0:Int),(0:Int),(0:Int),(0:Int),(0:Int),(0:Int),(0:Int),(0:Int)]:List Int)).length))∧((8:Int) - p.1).toNat<n∧ah n f1 d1 p=r) (((8:Int) - 0).toNat+1) _ sbQ sbQ ⟨(0,([(0:Int),(0:Int),(0:Int),(0:Int),(0:Int),(0:Int),(0:Int),(0:Int)]:List Int)),rfl,⟨omQ,omQ,omQ⟩,(Nat.lt_succ_self _),hM⟩ ?_
 clear hM
 rintro n1 S ⟨p1,rfl,hfa1,hm1,hM⟩
 replace hM:=aT hM (by omega) hf1;obtain ⟨ag1,hag1,hM⟩:=hM
 replace hfa1:=nzQ hfa1
 replace hm1:=nzQ hm1
 have ha1:ao .i64 p1.1 1=p1.1+1:=bl omQ omQ
 replace hF:=(And.intro ha1 hF)
 revert hM;revert hF
 refine slQ ?_
 refine aE fun _ _ _=> ?_
 obtain ⟨ha4,hbha4⟩:=pn (a:=8) (b:=p1.1) 8 8 64 ax ax ax ax (by decide) (by decide)
 intro hF hM
 try simp only [ha4]
 have ha5:ap .i64 56 (8*p1.1)=(56 - (8*p1.1)):=ff omQ omQ
 try simp only [ha5]
 replace hF:=(And.intro ha4 (And.intro ha5 hF))
 revert hM;revert hF
 refine slQ ?_
 intro hF hM
 refine aP (n1 - 1) _ (by omega) sbQ sbQ ⟨((p1.1+1),(st p1.2 p1.1 (al .u8 (aB .u64 n_ (56 - (8*p1.1)))))),rfl,⟨omQ,omQ,omQ⟩,omQ,aN hM hag1⟩
instance R4 (x_:Int) (k_:Int):CM En (xh x_ k_) 221 [.int .u32 x_,.int .i64 k_] (fun y=> .int .u32 y) (fun _=> []):=by
 refine enQ noJ Tryz.func221 Tryz.ntmps221 (xh.eq_1 ..) fun r hw=> ?_
 intro hF hM
 try refine bP (by (exact (um .u64 _ _).1)) ?_
 revert hM;revert hF
 refine slQ ?_
 intro hF hM
 try refine bP (by (exact (oO .u64 _ _).1)) ?_
 exact auP
instance R5 (x_:Int) (n_:Int):CM En (gX x_ n_) 204 [.int .u32 x_,.int .i64 n_] (fun y=> .int .u32 y) (fun _=> []):=by
 refine enQ noJ Tryz.func204 Tryz.ntmps204 (gX.eq_1 ..) fun r hw=> ?_
 exact auR
set_option maxRecDepth 512 in
instance (priority:=1012):DRD 14 82 9 [8,42,43,44,45,46,47,48,49] [] ([[],[0],[0,1],[0,1,2],[],[4],[4,5],[4,5,6],[0,1,2,3]]++[List.range 9]) []:=⟨trivial⟩
set_option maxRecDepth 512 in
instance (priority:=1013):DRD 17 82 14 [66,67,68,69,70,71,72,73,74,75,76,77,78,79] [] ([[],[],[1],[1,2],[1,2,3],[],[1,2,3,4,5],[],[7],[7,8],[7,8,9],[1,2,3,4,5,6,7,8,9,10],[],[1,2,3,4,5,6,7,8,9,10,11,12]]++[List.range 14,List.range 15]) []:=⟨trivial⟩
theorem M9 (block:(List Int)) (hp0:block.length=64):CM En (xi block) 203 [.sl none 1 false (block.map (V.int .u8))] (fun y=>(nK y)) (fun _=> []):=by
 refine enQ noJ Tryz.func203 Tryz.ntmps203 (xi.eq_1 ..) fun r hw=> ?_
 intro hF hM
 replace hM:=aS hM;obtain ⟨f1,d1,hf1,hd1,hM⟩:=hM
 refine bk (fun n S=> ∃p:Int×(List Int),S=(⟨[(0,.sl none 1 false (block.map (V.int .u8))),(2,.ptr 0 0),(3,.ptr 1 0),(12,.int .i64 p.1)],[(0,.var 64 true (sM)),(1,.var 64 true ((nK p.2)))],2⟩:St)∧((0≤p.1)∧(p.1≤16))∧((16:Int) - p.1).toNat<n∧ah n f1 d1 p=r) (((16:Int) - 0).toNat+1) _ sbQ sbG ⟨(0,[0,0,0,0,0,0,0,0,0,0,0,0,0,0,0,0,0,0,0,0,0,0,0,0,0,0,0,0,0,0,0,0,0,0,0,0,0,0,0,0,0,0,0,0,0,0,0,0,0,0,0,0,0,0,0,0,0,0,0,0,0,0,0,0]),rfl,⟨omQ,omQ⟩,(Nat.lt_succ_self _),hM⟩ ?_
 clear hM
 rintro n1 S ⟨p1,rfl,hfa1,hm1,hM⟩
 replace hM:=aT hM (by omega) hf1;obtain ⟨ag1,hag1,hM⟩:=hM
 replace hfa1:=nzQ hfa1
 replace hm1:=nzQ hm1
 have ha1:ao .i64 p1.1 1=p1.1+1:=bl omQ omQ
 replace hF:=(And.intro ha1 hF)
 revert hM;revert hF
 refine slQ ?_
 refine cdQ (fun _ _ _=> ?_) (fun _ _ _=> ?_)
 ·obtain ⟨ha4,hbha4⟩:=pn (a:=4) (b:=p1.1) 4 16 64 ax ax ax ax (by decide) (by decide)
  intro hF hM
  try simp only [ha4]
  have ha6:ao .i64 (4*p1.1) 4=((4*p1.1)+4):=dM omQ omQ
  try simp only [ha6]
  replace hF:=(And.intro ha4 (And.intro ha6 hF))
  revert hM;revert hF
  refine slQ ?_
  intro hF hM
  replace hM:=aS hM;obtain ⟨f7,d7,hf7,hd7,hM⟩:=hM
  refine bk (fun n S=> ∃p:Int×(List Int),S=(⟨[(0,.sl none 1 false (block.map (V.int .u8))),(2,.ptr 0 0),(3,.ptr 1 0),(4,.int .i64 p1.1),(12,.int .i64 p1.1),(21,.sl none 1 false ((sl block (4*p1.1) ((4*p1.1)+4)).map (V.int .u8))),(22,.int .i64 ((sl block (4*p1.1) ((4*p1.1)+4)).length:Int)),(23,.int .i64 p.1)],[(0,.var 64 true (sM)),(1,.var 64 true ((nK p.2)))],2⟩:St)∧((0≤p.1)∧(p.1≤((sl block (4*p1.1) ((4*p1.1)+4)).length:Int)))∧(((sl block (4*p1.1) ((4*p1.1)+4)).length:Int) - p.1).toNat<n∧ah n f7 d7 p=r) ((((sl block (4*p1.1) ((4*p1.1)+4)).length:Int) - 0).toNat+1) _ sbQ sbQ ⟨(0,p1.2),rfl,⟨omQ,omQ⟩,(Nat.lt_succ_self _),hM⟩ ?_
  clear hM
  rintro n7 S ⟨p7,rfl,hfa7,hm7,hM⟩
  replace hM:=aT hM (by omega) hf7;obtain ⟨ag7,hag7,hM⟩:=hM
  replace hfa7:=nzQ hfa7
  replace hm7:=nzQ hm7
  have ha7:ao .i64 p7.1 1=p7.1+1:=bl omQ omQ
  replace hF:=(And.intro ha7 hF)
  revert hM;revert hF
  refine slQ ?_
  refine cdQ (fun _ _ _=> ?_) (fun _ _ _=> ?_)
  ·have he11:((p1.1).toNat*1≤63)=True:=eq_true ax
   refine slA he11 ?_
   have he12:=ld (f:=(V.int .u32)) (l:=p7.2) (n:=64) (i:=p1.1) ax
   replace he12:=spR he12
   refine slA he12 ?_
   have he13:((p1.1).toNat*1≤63)=True:=eq_true ax
   refine slA he13 ?_
   have he14:=sO (f:=(V.int .u32)) (l:=(bX 64 p7.2)) (n:=64) (i:=p1.1) (v:=(orI .u32 (aC .u32 (gt p7.2 p1.1) 8) (al .u32 (gt (sl block (4*p1.1) ((4*p1.1)+4)) p7.1)))) gK ax
   replace he14:=spR he14
   refine slA he14 ?_
   intro hF hM
   refine aP (n7 - 1) _ (by omega) sbQ sbG ⟨((p7.1+1),(bX 64 (st (bX 64 p7.2) p1.1 (orI .u32 (aC .u32 (gt p7.2 p1.1) 8) (al .u32 (gt (sl block (4*p1.1) ((4*p1.1)+4)) p7.1)))))),rfl,⟨omQ,omQ⟩,omQ,aN hM hag7⟩
  ·intro hF hM
   refine aP (n1 - 1) _ (by omega) sbQ sbQ ⟨((p1.1+1),p7.2),rfl,⟨omQ,omQ⟩,omQ,aN hM hag1⟩
 ·intro hF hM
  replace hM:=aS hM;obtain ⟨f17,d17,hf17,hd17,hM⟩:=hM
  refine bk (fun n S=> ∃p:Int×(List Int),S=(⟨[(2,.ptr 0 0),(3,.ptr 1 0),(7,.int .i64 p.1)],[(0,.var 64 true (sM)),(1,.var 64 true ((nK p.2)))],2⟩:St)∧((16≤p.1)∧(p.1≤64∨p.1≤16))∧((64:Int) - p.1).toNat<n∧ah n f17 d17 p=r) (((64:Int) - 16).toNat+1) _ sbQ sbQ ⟨(16,p1.2),rfl,⟨omQ,omQ⟩,(Nat.lt_succ_self _),hM⟩ ?_
  clear hM
  rintro n17 S ⟨p17,rfl,hfa17,hm17,hM⟩
  replace hM:=aT hM (by omega) hf17;obtain ⟨ag17,hag17,hM⟩:=hM
  replace hfa17:=nzQ hfa17
  replace hm17:=nzQ hm17
  have ha17:ao .i64 p17.1 1=p17.1+1:=bl omQ omQ
  replace hF:=(And.intro ha17 hF)
  revert hM;revert hF
  refine slQ ?_
  refine aE fun _ _ _=> ?_
  have ha20:ap .i64 p17.1 15=(p17.1 - 15):=ff ax ax
  intro hF hM
  try simp only [ha20]
  revert hM;revert hF
  refine slQ ?_
  have he21:(((p17.1 - 15)).toNat*1≤63)=True:=eq_true ax
  refine slA (And.intro ha20 he21) ?_
  have he22:=ld (f:=(V.int .u32)) (l:=p17.2) (n:=64) (i:=(p17.1 - 15)) ax
  replace he22:=spR he22
  refine slA he22 ?_
  have ha23:ap .i64 p17.1 2=(p17.1 - 2):=ff ax ax
  intro hF hM
  try simp only [ha23]
  revert hM;revert hF
  refine slQ ?_
  have he24:(((p17.1 - 2)).toNat*1≤63)=True:=eq_true ax
  refine slA (And.intro ha23 he24) ?_
  have he25:=ld (f:=(V.int .u32)) (l:=p17.2) (n:=64) (i:=(p17.1 - 2)) ax
  replace he25:=spR he25
  refine slA he25 ?_
  refine aQ fun x26 _ _ _=> ?_
  refine aQ fun x29 _ _ _=> ?_
  refine aQ fun x32 _ _ _=> ?_
  refine aQ fun x35 _ _ _=> ?_
  have ha38:ap .i64 p17.1 16=(p17.1 - 16):=ff ax ax
  intro hF hM
  try simp only [ha38]
  revert hM;revert hF
  refine slQ ?_
  have he39:(((p17.1 - 16)).toNat*1≤63)=True:=eq_true ax
  refine slA (And.intro ha38 he39) ?_
  have he40:=ld (f:=(V.int .u32)) (l:=p17.2) (n:=64) (i:=(p17.1 - 16)) ax
  replace he40:=spR he40
  refine slA he40 ?_
  have ha41:ap .i64 p17.1 7=(p17.1 - 7):=ff ax ax
  intro hF hM
  try simp only [ha41]
  revert hM;revert hF
  refine slQ ?_
  have he42:(((p17.1 - 7)).toNat*1≤63)=True:=eq_true ax
  refine slA (And.intro ha41 he42) ?_
  have he43:=ld (f:=(V.int .u32)) (l:=p17.2) (n:=64) (i:=(p17.1 - 7)) ax
  replace he43:=spR he43
  refine slA he43 ?_
  have he44:((p17.1).toNat*1≤63)=True:=eq_true ax
  refine slA he44 ?_
  have he45:=sO (f:=(V.int .u32)) (l:=(bX 64 p17.2)) (n:=64) (i:=p17.1) (v:=(ao .u32 (ao .u32 (ao .u32 (gt p17.2 (p17.1 - 16)) (cw .u32 (cw .u32 x26 x29) (aB .u32 (gt p17.2 (p17.1 - 15)) 3))) (gt p17.2 (p17.1 - 7))) (cw .u32 (cw .u32 x32 x35) (aB .u32 (gt p17.2 (p17.1 - 2)) 10)))) gK ax
  replace he45:=spR he45
  refine slA he45 ?_
  intro hF hM
  refine aP (n17 - 1) _ (by omega) sbQ sbG ⟨((p17.1+1),(bX 64 (st (bX 64 p17.2) p17.1 (ao .u32 (ao .u32 (ao .u32 (gt p17.2 (p17.1 - 16)) (cw .u32 (cw .u32 x26 x29) (aB .u32 (gt p17.2 (p17.1 - 15)) 3))) (gt p17.2 (p17.1 - 7))) (cw .u32 (cw .u32 x32 x35) (aB .u32 (gt p17.2 (p17.1 - 2)) 10)))))),rfl,⟨omQ,omQ⟩,omQ,aN hM hag17⟩
theorem M_ (state:(List Int)) (block:(List Int)) (hp0:block.length=64):CM En (xj state block) 176 [(lc state),.sl none 1 false (block.map (V.int .u8))] (fun y=>(lc y)) (fun _=> []):=by
 refine cmQ fun r hM=> ?_
 rw [xj.eq_1] at hM
 refine ci bc bA noJ Tryz.func176 rfl Tryz.ntmps176 (by kernel_rfl) fun hw=>bz ?_
 refine spQ ?_
 replace hw:=nzQ hw
 replace hM:=au hM;obtain ⟨x1,hx2,hM⟩:=hM
 have hcx1:=cmH hx2 (M9 block (by (exact pfQ)))
 refine aV hcx1 clQ clQ (fun hw3=> ?_)
 replace hw3:=nzQ hw3
 refine spQ ?_
 refine wp 121 23 [6,7,8,9,10,11,12,21,22,23,24,25,26,27,28,29,30,31,32,33,34,35,36] [] ([[],[0],[],[2],[],[4],[],[6],[],[8],[],[10],[],[12],[],[14],[0,1],[2,3],[4,5],[6,7],[8,9],[10,11],[12,13]]++[List.range 23]) [] (by kernel_rfl) (by exact alQ) ?_
 refine spQ ?_
 replace hM:=aS hM;obtain ⟨f4,d4,hf4,hd4,hM⟩:=hM
 refine bk (fun n S=> ∃p:Int×Int×Int×Int×Int×Int×Int×Int×Int,S=(⟨[(2,.ptr 0 0),(4,.ptr 1 0),(5,.ptr 2 0),(6,.int .u32 p.1),(7,.int .u32 p.2.1),(8,.int .u32 p.2.2.1),(9,.int .u32 p.2.2.2.1),(10,.int .u32 p.2.2.2.2.1),(11,.int .u32 p.2.2.2.2.2.1),(12,.int .u32 p.2.2.2.2.2.2.1),(13,.int .u32 p.2.2.2.2.2.2.2.1),(37,.int .i64 p.2.2.2.2.2.2.2.2)],[(0,.var 8 true ((lc state))),(1,.var 8 true (wS)),(2,.var 64 true ((nK x1)))],26⟩:St)∧((0≤p.2.2.2.2.2.2.2.2)∧(p.2.2.2.2.2.2.2.2≤64))∧((64:Int) - p.2.2.2.2.2.2.2.2).toNat<n∧ah n f4 d4 p=r) (((64:Int) - 0).toNat+1) _ sbQ sbQ ⟨((gt state 0),(gt state 1),(gt state 2),(gt state 3),(gt state 4),(gt state 5),(gt state 6),(gt state 7),0),rfl,⟨omQ,omQ⟩,(Nat.lt_succ_self _),hM⟩ ?_
 clear hM
 rintro n4 S ⟨p4,rfl,hfa4,hm4,hM⟩
 replace hM:=aT hM (by omega) hf4;obtain ⟨ag4,hag4,hM⟩:=hM
 replace hfa4:=nzQ hfa4
 replace hm4:=nzQ hm4
 have ha4:ao .i64 p4.2.2.2.2.2.2.2.2 1=p4.2.2.2.2.2.2.2.2+1:=bl omQ omQ
 refine aA ha4 ?_
 refine cn (fun h5=> ?_) (fun h5=> ?_)
 ·rw [if_pos h5] at hM
  refine aA (And.intro ha4 h5) ?_
  have nh5:=nzQ h5
  try have hr6:=mpQ nh5
  refine wp 121 26 [40,41,42,43,44,45,46,47,48,49,50,51,52,53,54,55,56,57,58,59,60,61,62,63,64,65] [] ([[],[],[1],[],[3],[1,2,3,4],[],[6],[1,2,3,4,5,6,7],[0,1,2,3,4,5,6,7,8],[],[],[10,11],[],[13],[],[13,14,15],[10,11,12,13,14,15,16],[0,1,2,3,4,5,6,7,8,9,10,11,12,13,14,15,16,17],[],[19],[19,20],[0,1,2,3,4,5,6,7,8,9,10,11,12,13,14,15,16,17,18,19,20,21],[],[23],[23,24]]++[List.range 26,List.range 27]) [] (by kernel_rfl) (by exact alQ) ?_
  refine aA ha4 ?_
  replace hM:=au hM;obtain ⟨x7,hx8,hM⟩:=hM
  have hcx7:=cmU hx8
  refine cN hcx7 (aD ha4) (aD ha4) ?_
  refine aA ha4 ?_
  replace hM:=au hM;obtain ⟨x9,hx10,hM⟩:=hM
  have hcx9:=cmU hx10
  refine cN hcx9 (aD ha4) (aD ha4) ?_
  refine aA ha4 ?_
  replace hM:=au hM;obtain ⟨x11,hx12,hM⟩:=hM
  have hcx11:=cmU hx12
  refine cN hcx11 (aD ha4) (aD ha4) ?_
  refine aA ha4 ?_
  refine iq omQ ?_
  refine aA ha4 ?_
  have he13:=pA (f:=V.int .u32) (l:=me) (n:=64) (i:=p4.2.2.2.2.2.2.2.2) rfl omQ
  replace he13:=spR he13
  refine aA (And.intro ha4 he13) ?_
  refine iq omQ ?_
  have he14:((p4.2.2.2.2.2.2.2.2).toNat*1≤63)=True:=eq_true omQ
  refine aA (And.intro ha4 (And.intro he13 he14)) ?_
  have he15:=ld (f:=(V.int .u32)) (l:=x1) (n:=64) (i:=p4.2.2.2.2.2.2.2.2) omQ
  replace he15:=spR he15
  try refine aA (And.intro ha4 (And.intro he13 (And.intro he14 he15))) ?_
  have hF:=(And.intro ha4 (And.intro h5 (And.intro he13 (And.intro he14 he15))))
  exact auQ
 ·rw [if_neg (b9 h5)] at hM
  refine aA (And.intro ha4 h5) ?_
  have nh5:=nzQ h5
  try have hr25:=mpQ nh5
  replace hM:=aS hM;obtain ⟨f26,d26,hf26,hd26,hM⟩:=hM
  refine bk (fun n S=> ∃p:Int×(List Int),S=(⟨[(2,.ptr 0 0),(4,.ptr 1 0),(108,.agg [.int .u32 p4.1,.int .u32 p4.2.1,.int .u32 p4.2.2.1,.int .u32 p4.2.2.2.1,.int .u32 p4.2.2.2.2.1,.int .u32 p4.2.2.2.2.2.1,.int .u32 p4.2.2.2.2.2.2.1,.int .u32 p4.2.2.2.2.2.2.2.1]),(109,.int .i64 p.1)],[(0,.var 8 true ((lc p.2))),(1,.var 8 true (wS))],26⟩:St)∧((0≤p.1)∧(p.1≤8))∧((8:Int) - p.1).toNat<n∧ah n f26 d26 p=r) (((8:Int) - 0).toNat+1) _ sbQ sbQ ⟨(0,state),rfl,⟨omQ,omQ⟩,(Nat.lt_succ_self _),hM⟩ ?_
  clear hM
  rintro n26 S ⟨p26,rfl,hfa26,hm26,hM⟩
  replace hM:=aT hM (by omega) hf26;obtain ⟨ag26,hag26,hM⟩:=hM
  replace hfa26:=nzQ hfa26
  replace hm26:=nzQ hm26
  have ha26:ao .i64 p26.1 1=p26.1+1:=bl omQ omQ
  refine aA (And.intro ha4 ha26) ?_
  refine cn (fun h27=> ?_) (fun h27=> ?_)
  ·rw [if_pos h27] at hM
   refine aA (And.intro ha4 (And.intro ha26 h27)) ?_
   have nh27:=nzQ h27
   try have hr28:=mpQ nh27
   have he29:=pA (f:=(V.int .u32)) (l:=([p4.1,p4.2.1,p4.2.2.1,p4.2.2.2.1,p4.2.2.2.2.1,p4.2.2.2.2.2.1,p4.2.2.2.2.2.2.1,p4.2.2.2.2.2.2.2.1]:List Int)) (n:=8) (i:=p26.1) rfl omQ
   replace he29:=spR he29
   refine aA (And.intro ha4 (And.intro ha26 he29)) ?_
   refine bP omQ ?_
   refine aA (And.intro ha4 (And.intro ha26 he29)) ?_
   refine bP omQ ?_
   have he30:((p26.1).toNat*1≤7)=True:=eq_true omQ
   refine aA (And.intro ha4 (And.intro ha26 (And.intro he29 he30))) ?_
   have he31:=ld (f:=(V.int .u32)) (l:=p26.2) (n:=8) (i:=p26.1) omQ
   replace he31:=spR he31
   try refine aA (And.intro ha4 (And.intro ha26 (And.intro he29 (And.intro he30 he31)))) ?_
   refine bP omQ ?_
   have he32:((p26.1).toNat*1≤7)=True:=eq_true omQ
   refine aA (And.intro ha4 (And.intro ha26 (And.intro he29 (And.intro he30 (And.intro he31 he32))))) ?_
   have he33:=sO (f:=(V.int .u32)) (l:=(bX 8 p26.2)) (n:=8) (i:=p26.1) (v:=(ao .u32 (gt p26.2 p26.1) (gt ([p4.1,p4.2.1,p4.2.2.1,p4.2.2.2.1,p4.2.2.2.2.1,p4.2.2.2.2.2.1,p4.2.2.2.2.2.2.1,p4.2.2.2.2.2.2.2.1]:List Int) p26.1))) gK omQ
   replace he33:=spR he33
   refine aA (And.intro ha4 (And.intro ha26 (And.intro he29 (And.intro he30 (And.intro he31 (And.intro he32 he33)))))) ?_
   refine aP (n26 - 1) _ (by omega) sbQ sbG ⟨((p26.1+1),(bX 8 (st (bX 8 p26.2) p26.1 (ao .u32 (gt p26.2 p26.1) (gt ([p4.1,p4.2.1,p4.2.2.1,p4.2.2.2.1,p4.2.2.2.2.1,p4.2.2.2.2.2.1,p4.2.2.2.2.2.2.1,p4.2.2.2.2.2.2.2.1]:List Int) p26.1))))),rfl,⟨omQ,omQ⟩,omQ,aN hM hag26⟩
  ·rw [if_neg (b9 h27)] at hM
   refine aA (And.intro ha4 (And.intro ha26 h27)) ?_
   subst hM
   exact fc (eC (And.intro ha4 (And.intro ha26 (And.intro h5 h27))))
set_option maxRecDepth 512 in
instance (priority:=1014):DRD 8 59 3 [33,34,35] [] ([[],[],[1]]++[List.range 3,List.range 4]) []:=⟨trivial⟩
theorem ym (b:(List Int)) (hp0:b.length≤1000000000):CM En (pZ b) 139 [.sl none 1 false (b.map (V.int .u8))] (fun y=>(gP y)) (fun _=> []):=by
 refine enQ [6] Tryz.func139 Tryz.ntmps139 (pZ.eq_1 ..) fun r hw=> ?_
 intro hF hM
 replace hM:=au hM;obtain ⟨x1,hx2,hM⟩:=hM
 have hcx1:=DH none b
 rw [←hx2] at hcx1
 refine aV hcx1 clQ clQ (fun hw3=> ?_)
 replace hw3:=nzQ hw3
 revert hM;revert hF
 refine slQ ?_
 have hq4:=nzQ (cfU hx2)
 refine slQ ?_
 intro hF hM
 replace hM:=aS hM;obtain ⟨f5,d5,hf5,hd5,hM⟩:=hM
 refine bk (fun n S=> ∃p:List Int,S=(⟨[(0,.sl none 1 false (b.map (V.int .u8))),(2,.ptr 0 0),(3,.own 1)],[(0,.var 32 true (my)),(1,.own 5 1 false none (p.map (V.int .u8)))],3⟩:St)∧((((p).length:Int)+(56 - ((p).length:Int))% 64≤(b.length:Int)+65))∧((56 - ((p).length:Int))% 64).toNat<n∧ah n f5 d5 p=r) (((56 - (((x1++([128]:List Int))).length:Int))% 64).toNat+1) _ sbQ sbQ ⟨(x1++([128]:List Int)),rfl,omQ,(Nat.lt_succ_self _),hM⟩ ?_
 clear hM
 rintro n5 S ⟨p5,rfl,hfa5,hm5,hM⟩
 replace hM:=aT hM (by omega) hf5;obtain ⟨ag5,hag5,hM⟩:=hM
 replace hfa5:=nzQ hfa5
 replace hm5:=nzQ hm5
 revert hM;revert hF
 refine slQ ?_
 refine cdQ (fun _ _ _=> ?_) (fun _ _ _=> ?_)
 ·intro hF hM
  refine aP (n5 - 1) _ (by omega) sbQ sbQ ⟨(p5++([0]:List Int)),rfl,omQ,omQ,aN hM hag5⟩
 ·refine aQ fun x9 _ _ _=> ?_
  intro hF hM
  refine kW ?_
  revert hM;revert hF
  refine slQ ?_
  intro hF hM
  refine j4 _ (⟨[(2,.ptr 0 0),(3,.sl (jJ (x9.map (V.int .u8))) 1 false ((p5++x9).map (V.int .u8))),(4,.ptr 3 0)],[(0,.var 32 true (my)),(1,.pown 1 false (jJ (x9.map (V.int .u8))) ((p5++x9).map (V.int .u8))),(3,.var 8 true (.agg [.int .u32 1779033703,.int .u32 3144134277,.int .u32 1013904242,.int .u32 2773480762,.int .u32 1359893119,.int .u32 2600822924,.int .u32 528734635,.int .u32 1541459225]))],4⟩:St) ((sv (S:=⟨_,_,_⟩) 1 (T:=5) (n:=1) (g:=false) (z:=(jJ (x9.map (V.int .u8)))) (l:=(p5++x9).map (V.int .u8)) clQ).trans (wx (S:=⟨_,_,_⟩) 3 1 (n:=1) (g:=false) (z:=(jJ (x9.map (V.int .u8)))) (l:=(p5++x9).map (V.int .u8)) clQ clQ)) sbQ sbQ ?_
  revert hM;revert hF
  refine slQ ?_
  intro hF hM
  replace hM:=aS hM;obtain ⟨f13,d13,hf13,hd13,hM⟩:=hM
  refine bk (fun n S=> ∃p:List Int×(List Int),S=(⟨[(2,.ptr 0 0),(3,.sl none 1 false (p.1.map (V.int .u8))),(4,.ptr 3 0)],[(0,.var 32 true (my)),(3,.var 8 true ((lc p.2)))],4⟩:St)∧((((p.1).length:Int)% 64=0))∧(p.1).length<n∧ah n f13 d13 p=r) (((p5++x9)).length+1) _ sbQ sbG ⟨((p5++x9),[1779033703,3144134277,1013904242,2773480762,1359893119,2600822924,528734635,1541459225]),rfl,omQ,(Nat.lt_succ_self _),hM⟩ ?_
  clear hM
  rintro n13 S ⟨p13,rfl,hfa13,hm13,hM⟩
  replace hM:=aT hM (by omega) hf13;obtain ⟨ag13,hag13,hM⟩:=hM
  replace hfa13:=nzQ hfa13
  replace hm13:=nzQ hm13
  revert hM;revert hF
  refine slQ ?_
  refine cdQ (fun _ _ _=> ?_) (fun _ _ _=> ?_)
  ·intro hF hM
   replace hM:=au hM;obtain ⟨x16,hx17,hM⟩:=hM
   have hcx16:=cmH hx17 (M_ (p13.2) (sl p13.1 0 64) (by (exact pfQ)))
   refine aV hcx16 clQ clQ (fun hw18=> ?_)
   replace hw18:=nzQ hw18
   revert hM;revert hF
   refine slQ ?_
   intro hF hM
   refine aP (n13 - 1) _ (by omega) sbQ sbQ ⟨((sl p13.1 64 (p13.1.length:Int)),x16),rfl,omQ,omQ,aN hM hag13⟩
  ·intro hF hM
   replace hM:=aS hM;obtain ⟨f20,d20,hf20,hd20,hM⟩:=hM
   refine bk (fun n S=> ∃p:Int×(List Int),S=(⟨[(2,.ptr 0 0),(5,.ptr 4 0),(37,(lc p13.2)),(38,.int .i64 p.1)],[(0,.var 32 true (my)),(4,.var 32 true ((gP p.2)))],5⟩:St)∧((0≤p.1)∧(p.1≤8))∧((8:Int) - p.1).toNat<n∧ah n f20 d20 p=r) (((8:Int) - 0).toNat+1) _ sbQ sbG ⟨(0,[0,0,0,0,0,0,0,0,0,0,0,0,0,0,0,0,0,0,0,0,0,0,0,0,0,0,0,0,0,0,0,0]),rfl,⟨omQ,omQ⟩,(Nat.lt_succ_self _),hM⟩ ?_
   clear hM
   rintro n20 S ⟨p20,rfl,hfa20,hm20,hM⟩
   replace hM:=aT hM (by omega) hf20;obtain ⟨ag20,hag20,hM⟩:=hM
   replace hfa20:=nzQ hfa20
   replace hm20:=nzQ hm20
   have ha20:ao .i64 p20.1 1=p20.1+1:=bl omQ omQ
   replace hF:=(And.intro ha20 hF)
   revert hM;revert hF
   refine slQ ?_
   refine aE fun _ _ _=> ?_
   have he23:=J8 (f:=(V.int .u32)) (l:=p13.2) (n:=8) (i:=p20.1) ax
   replace he23:=spR he23
   refine slA he23 ?_
   intro hF hM
   replace hM:=aS hM;obtain ⟨f24,d24,hf24,hd24,hM⟩:=hM
   refine bk (fun n S=> ∃p:Int×(List Int),S=(⟨[(2,.ptr 0 0),(5,.ptr 4 0),(6,.int .i64 p20.1),(7,.int .u32 (gt p13.2 p20.1)),(37,(lc p13.2)),(38,.int .i64 p20.1),(42,.int .i64 p.1)],[(0,.var 32 true (my)),(4,.var 32 true ((gP p.2)))],5⟩:St)∧((0≤p.1)∧(p.1≤4))∧((4:Int) - p.1).toNat<n∧ah n f24 d24 p=r) (((4:Int) - 0).toNat+1) _ sbQ sbQ ⟨(0,p20.2),rfl,⟨omQ,omQ⟩,(Nat.lt_succ_self _),hM⟩ ?_
   clear hM
   rintro n24 S ⟨p24,rfl,hfa24,hm24,hM⟩
   replace hM:=aT hM (by omega) hf24;obtain ⟨ag24,hag24,hM⟩:=hM
   replace hfa24:=nzQ hfa24
   replace hm24:=nzQ hm24
   have ha24:ao .i64 p24.1 1=p24.1+1:=bl omQ omQ
   replace hF:=(And.intro ha24 hF)
   revert hM;revert hF
   refine slQ ?_
   refine cdQ (fun _ _ _=> ?_) (fun _ _ _=> ?_)
   ·obtain ⟨ha27,hbha27⟩:=pn (a:=4) (b:=p20.1) 8 64 512 ax ax ax ax (by decide) (by decide)
    intro hF hM
    try simp only [ha27]
    have ha28:ao .i64 (4*p20.1) p24.1=((4*p20.1)+p24.1):=dM omQ omQ
    try simp only [ha28]
    obtain ⟨ha29,hbha29⟩:=pn (a:=8) (b:=p24.1) 8 64 512 omQ omQ omQ omQ (by decide) (by decide)
    try simp only [ha29]
    have ha30:ap .i64 24 (8*p24.1)=(24 - (8*p24.1)):=ff omQ omQ
    try simp only [ha30]
    replace hF:=(And.intro ha27 (And.intro ha28 (And.intro ha29 (And.intro ha30 hF))))
    revert hM;revert hF
    refine slQ ?_
    have he31:((((4*p20.1)+p24.1)).toNat*1≤31)=True:=eq_true ax
    refine slA he31 ?_
    have he32:=sO (f:=(V.int .u8)) (l:=(bX 32 p24.2)) (n:=32) (i:=((4*p20.1)+p24.1)) (v:=(al .u8 (aB .u32 (gt p13.2 p20.1) (24 - (8*p24.1))))) gK ax
    replace he32:=spR he32
    refine slA he32 ?_
    intro hF hM
    refine aP (n24 - 1) _ (by omega) sbQ sbG ⟨((p24.1+1),(bX 32 (st (bX 32 p24.2) ((4*p20.1)+p24.1) (al .u8 (aB .u32 (gt p13.2 p20.1) (24 - (8*p24.1))))))),rfl,⟨omQ,omQ⟩,omQ,aN hM hag24⟩
   ·intro hF hM
    refine aP (n20 - 1) _ (by omega) sbQ sbQ ⟨((p20.1+1),p24.2),rfl,⟨omQ,omQ⟩,omQ,aN hM hag20⟩
theorem Na (s_:bM):bp En 201 [.ptr 0 0] [.var 34 true ((kg s_))] (.agg (.int .u8 (gt (bN s_).1 0):: .int .u8 (gt (bN s_).1 1):: .int .u8 (gt (bN s_).1 2):: .int .u8 (gt (bN s_).1 3):: .int .u8 (gt (bN s_).1 4):: .int .u8 (gt (bN s_).1 5):: .int .u8 (gt (bN s_).1 6):: .int .u8 (gt (bN s_).1 7):: .int .u8 (gt (bN s_).1 8):: .int .u8 (gt (bN s_).1 9):: .int .u8 (gt (bN s_).1 10):: .int .u8 (gt (bN s_).1 11):: .int .u8 (gt (bN s_).1 12):: .int .u8 (gt (bN s_).1 13):: .int .u8 (gt (bN s_).1 14):: .int .u8 (gt (bN s_).1 15):: .int .u8 (gt (bN s_).1 16):: .int .u8 (gt (bN s_).1 17):: .int .u8 (gt (bN s_).1 18):: .int .u8 (gt (bN s_).1 19):: .int .u8 (gt (bN s_).1 20):: .int .u8 (gt (bN s_).1 21):: .int .u8 (gt (bN s_).1 22):: .int .u8 (gt (bN s_).1 23):: .int .u8 (gt (bN s_).1 24):: .int .u8 (gt (bN s_).1 25):: .int .u8 (gt (bN s_).1 26):: .int .u8 (gt (bN s_).1 27):: .int .u8 (gt (bN s_).1 28):: .int .u8 (gt (bN s_).1 29):: .int .u8 (gt (bN s_).1 30):: .int .u8 (gt (bN s_).1 31)::[])) [.var 34 true (kg (bN s_).2)] []:=by
 generalize hM:bN s_=r
 rw [bN.eq_1] at hM
 refine cE bc bA noJ Tryz.func201 rfl Tryz.ntmps201 (by kernel_rfl) rfl fun ks hw hwB=>bz ?_
 refine spQ ?_
 replace hw:=nzQ hw
 replace hwB:=nzB hwB
 have hF:=bT
 revert hM;revert hF
 refine cdQ (fun _ _ _=> ?_) (fun _ _ _=> ?_)
 ·intro hF hM
  subst hM
  exact aU [0] (an hF) (by decide) (an hF)
 ·refine aQ fun x4 hx5 _ _=> ?_
  have hq7:=LP hx5
  replace hq7:=nzQ hq7
  intro hF hM
  replace hM:=au hM;obtain ⟨x8,hx9,hM⟩:=hM
  have hcx8:=cmH hx9 (ym x4 (by (exact pfQ)))
  refine io hcx8 clQ clQ (fun hw10=> ?_)
  replace hw10:=nzQ hw10
  revert hM;revert hF
  refine slQ ?_
  intro hF hM
  subst hM
  exact aU [0] (an hF) (by decide) (an hF)
instance R6 (h_:(List Int)):CM En (qa h_) 202 [(gP h_)] (fun y=> .int .u64 y) (fun _=> []):=by
 refine cmQ fun r hM=> ?_
 rw [qa.eq_1] at hM
 refine ci bc bA noJ Tryz.func202 rfl Tryz.ntmps202 (by kernel_rfl) fun hw=>bz ?_
 refine spQ ?_
 replace hw:=nzQ hw
 replace hM:=aS hM;obtain ⟨f1,d1,hf1,hd1,hM⟩:=hM
 refine bk (fun n S=> ∃p:Int×Int,S=(⟨[(3,.int .u64 p.1),(6,.sl (some false) 1 false (([(gt h_ 0),(gt h_ 1),(gt h_ 2),(gt h_ 3),(gt h_ 4),(gt h_ 5),(gt h_ 6),(gt h_ 7)]:List Int).map (V.int .u8))),(7,.int .i64 (8:Int)),(8,.int .i64 p.2)],[],1⟩:St)∧((0≤p.2)∧(p.2≤(8:Int)))∧((8:Int) - p.2).toNat<n∧ah n f1 d1 p=r) (((8:Int) - 0).toNat+1) _ sbQ sbQ ⟨(0,0),rfl,⟨omQ,omQ⟩,(Nat.lt_succ_self _),hM⟩ ?_
 clear hM
 rintro n1 S ⟨p1,rfl,hfa1,hm1,hM⟩
 replace hM:=aT hM (by omega) hf1;obtain ⟨ag1,hag1,hM⟩:=hM
 replace hfa1:=nzQ hfa1
 replace hm1:=nzQ hm1
 have ha1:ao .i64 p1.2 1=p1.2+1:=bl omQ omQ
 refine aA ha1 ?_
 refine cn (fun h2=> ?_) (fun h2=> ?_)
 ·rw [if_pos h2] at hM
  refine aA (And.intro ha1 h2) ?_
  have nh2:=nzQ h2
  try have hr3:=mpQ nh2
  refine bP omQ ?_
  have he4:=fun d=>c6 (l:=([(gt h_ 0),(gt h_ 1),(gt h_ 2),(gt h_ 3),(gt h_ 4),(gt h_ 5),(gt h_ 6),(gt h_ 7)]:List Int)) (f:=(V.int .u8)) (i:=p1.2) omQ d
  replace he4:=fun d=>spR (he4 d)
  refine aA (And.intro ha1 he4) ?_
  refine aP (n1 - 1) _ (by omega) sbQ sbQ ⟨((orI .u64 (aC .u64 p1.1 8) (al .u64 (gt ([(gt h_ 0),(gt h_ 1),(gt h_ 2),(gt h_ 3),(gt h_ 4),(gt h_ 5),(gt h_ 6),(gt h_ 7)]:List Int) p1.2))),(p1.2+1)),rfl,⟨omQ,omQ⟩,omQ,aN hM hag1⟩
 ·rw [if_neg (b9 h2)] at hM
  refine aA (And.intro ha1 h2) ?_
  subst hM
  exact fc (eC (And.intro ha1 h2))
theorem DI (s_:bM) (q_:Int) (hp0:1≤q_) (hp1:q_≤2305843009213693951):bp En 172 [.ptr 0 0,.int .i64 q_] [.var 34 true ((kg s_))] (.int .i64 (fk s_ q_).1) [.var 34 true (kg (fk s_ q_).2)] []:=by
 generalize hM:fk s_ q_=r
 rw [fk.eq_1] at hM
 refine cE bc bA noJ Tryz.func172 rfl Tryz.ntmps172 (by kernel_rfl) rfl fun ks hw hwB=>bz ?_
 refine spQ ?_
 replace hw:=nzQ hw
 replace hwB:=nzB hwB
 have h0_0:=qm (x:=q_) (by omega) (by omega)
 have hF:=bT
 revert hM;revert hF
 refine aQ fun x1 hx2 _ _=> ?_
 have hq4:=LQ hx2
 replace hq4:=nzQ hq4
 refine slQ ?_
 intro hF hM
 replace hM:=aS hM;obtain ⟨f5,d5,hf5,hd5,hM⟩:=hM
 refine bk (fun n S=> ∃p:Int×Int×bM,S=(⟨[(0,.ptr 0 0),(1,.int .i64 q_),(5,.int .u64 (ap .u64 (aC .u64 1 x1) 1)),(6,.int .u64 p.1),(14,.int .i64 p.2.1)],[(0,.lent (ks 0) 34 true ((kg p.2.2)))],1⟩:St)∧((0≤p.2.1)∧(p.2.1≤256))∧((256:Int) - p.2.1).toNat<n∧ah n f5 d5 p=r) (((256:Int) - 0).toNat+1) _ sbQ sbQ ⟨(0,0,s_),rfl,⟨omQ,omQ⟩,(Nat.lt_succ_self _),hM⟩ ?_
 clear hM
 rintro n5 S ⟨p5,rfl,hfa5,hm5,hM⟩
 replace hM:=aT hM (by omega) hf5;obtain ⟨ag5,hag5,hM⟩:=hM
 replace hfa5:=nzQ hfa5
 replace hm5:=nzQ hm5
 have ha5:ao .i64 p5.2.1 1=p5.2.1+1:=bl omQ omQ
 replace hF:=(And.intro ha5 hF)
 revert hM;revert hF
 refine slQ ?_
 refine cdQ (fun _ _ _=> ?_) (fun _ _ _=> ?_)
 ·intro hF hM
  replace hM:=au hM;obtain ⟨x8,hx9,hM⟩:=hM
  have hcx8:=Na (p5.2.2)
  rw [←hx9] at hcx8
  refine bL [0] hcx8 (by decide) (an hF) (an hF) (fun hw10=> ?_)
  replace hw10:=nzQ hw10
  revert hM;revert hF
  refine slQ ?_
  refine cdQ (fun _ _ _=> ?_) (fun _ _ _=> ?_)
  ·intro hF hM
   subst hM
   exact aU [0] (an hF) (by decide) (an hF)
  ·refine aQ fun x14 _ _ _=> ?_
   refine cdQ (fun _ _ _=> ?_) (fun _ _ _=> ?_)
   ·intro hF hM
    subst hM
    exact aU [0] (an hF) (by decide) (an hF)
   ·intro hF hM
    refine aP (n5 - 1) _ (by omega) sbQ sbQ ⟨((bE .u64 x14 (ap .u64 (aC .u64 1 x1) 1)),(p5.2.1+1),({d:=x8.2.d,full:=false}:bM)),rfl,⟨omQ,omQ⟩,omQ,aN hM hag5⟩
 ·intro hF hM
  subst hM
  exact aU [0] (an hF) (by decide) (an hF)
theorem DJ (s_:bM):bp En 173 [.ptr 0 0] [.var 34 true ((kg s_))] (.tup [.agg (.int .u8 (gt (bS s_).1.Seed 0):: .int .u8 (gt (bS s_).1.Seed 1):: .int .u8 (gt (bS s_).1.Seed 2):: .int .u8 (gt (bS s_).1.Seed 3):: .int .u8 (gt (bS s_).1.Seed 4):: .int .u8 (gt (bS s_).1.Seed 5):: .int .u8 (gt (bS s_).1.Seed 6):: .int .u8 (gt (bS s_).1.Seed 7):: .int .u8 (gt (bS s_).1.Seed 8):: .int .u8 (gt (bS s_).1.Seed 9):: .int .u8 (gt (bS s_).1.Seed 10):: .int .u8 (gt (bS s_).1.Seed 11):: .int .u8 (gt (bS s_).1.Seed 12):: .int .u8 (gt (bS s_).1.Seed 13):: .int .u8 (gt (bS s_).1.Seed 14):: .int .u8 (gt (bS s_).1.Seed 15):: .int .u8 (gt (bS s_).1.Seed 16):: .int .u8 (gt (bS s_).1.Seed 17):: .int .u8 (gt (bS s_).1.Seed 18):: .int .u8 (gt (bS s_).1.Seed 19):: .int .u8 (gt (bS s_).1.Seed 20):: .int .u8 (gt (bS s_).1.Seed 21):: .int .u8 (gt (bS s_).1.Seed 22):: .int .u8 (gt (bS s_).1.Seed 23):: .int .u8 (gt (bS s_).1.Seed 24):: .int .u8 (gt (bS s_).1.Seed 25):: .int .u8 (gt (bS s_).1.Seed 26):: .int .u8 (gt (bS s_).1.Seed 27):: .int .u8 (gt (bS s_).1.Seed 28):: .int .u8 (gt (bS s_).1.Seed 29):: .int .u8 (gt (bS s_).1.Seed 30):: .int .u8 (gt (bS s_).1.Seed 31):: .int .i64 (bS s_).1.Counter::[]),.int .i64 (bS s_).2.1]) [.var 34 true (kg (bS s_).2.2)] []:=by
 generalize hM:bS s_=r
 rw [bS.eq_1] at hM
 refine cE bc bA noJ Tryz.func173 rfl Tryz.ntmps173 (by kernel_rfl) rfl fun ks hw hwB=>bz ?_
 refine spQ ?_
 replace hw:=nzQ hw
 replace hwB:=nzB hwB
 have hF:=bT
 revert hM;revert hF
 refine cdQ (fun _ _ _=> ?_) (fun _ _ _=> ?_)
 ·intro hF hM
  subst hM
  exact aU [0] (an hF) (by decide) (an hF)
 ·intro hF hM
  subst hM
  exact aU [0] (an hF) (by decide) (an hF)
instance R7 (d_:bm) (q:Int) (n_:Int):CM En (fA d_ q n_) 133 [(dO d_),.int .i64 q,.int .i64 n_] (fun y=> .tup [(dO y.1),.sl none 1 false (y.2.1.map (V.int .i64)),.int .i64 y.2.2]) (fun _=> []):=by
 refine enQ [4] Tryz.func133 Tryz.ntmps133 (fA.eq_1 ..) fun r hw=> ?_
 refine aQ fun x1 hx2 _ _=> ?_
 have hq4:=yc hx2
 replace hq4:=nzQ hq4
 intro hF hM
 replace hM:=jc hM;obtain ⟨j5,hj5,hM⟩:=hM
 refine i7 (fun S=> ∃p:Int,S=(⟨[(1,.int .i64 q),(2,.int .i64 n_),(3,.ptr 0 0),(6,.ptr 1 0),(9,.int .i64 p)],[(0,.var 33 true ((dO d_))),(1,.var 33 true (pz))],2⟩:St)∧((p≠0∨(1≤q∧q≤2305843009213693951∧0≤n_∧n_≤1000)))∧j5 p=r) ?_ (fun hcut5=> ?_)
 ·clear hM
  rintro S ⟨p5,rfl,hfa5,hM⟩
  replace hfa5:=nzQ hfa5
  replace hM:=jd hM hj5
  revert hM;revert hF
  refine slQ ?_
  refine aW fun _ _ _=> ?_
  intro hF hM
  replace hM:=aS hM;obtain ⟨f9,d9,hf9,hd9,hM⟩:=hM
  refine eN (fun n S=> ∃p:Int×bM×List Int,S=(⟨[(1,.int .i64 q),(3,.ptr 0 0),(6,.ptr 1 0),(10,.ptr 2 0),(11,.own 3),(27,.int .i64 n_),(28,.int .i64 p.1)],[(0,.var 33 true ((dO d_))),(1,.var 33 true (pz)),(2,.var 34 true ((kg p.2.1))),(3,.own 3 1 false none (p.2.2.map (V.int .i64)))],4⟩:St)∧((0≤p.1)∧(p.1≤n_)∧(((p.2.2).length:Int)≤p.1))∧(n_ - p.1).toNat<n∧ah n f9 d9 p=r) ((n_ - 0).toNat+1) _ _ (jZ 11 3 rfl (by decide)) sbQ sbQ ⟨(0,({d:=d_,full:=false}:bM),([]:List Int)),rfl,⟨omQ,omQ,omQ⟩,(Nat.lt_succ_self _),hM⟩ ?_
  clear hM
  rintro n9 S ⟨p9,rfl,hfa9,hm9,hM⟩
  replace hM:=aT hM (by omega) hf9;obtain ⟨ag9,hag9,hM⟩:=hM
  replace hfa9:=nzQ hfa9
  replace hm9:=nzQ hm9
  have ha9:ao .i64 p9.1 1=p9.1+1:=bl omQ omQ
  replace hF:=(And.intro ha9 hF)
  revert hM;revert hF
  refine slQ ?_
  refine cdQ (fun _ _ _=> ?_) (fun _ _ _=> ?_)
  ·intro hF hM
   replace hM:=au hM;obtain ⟨x12,hx13,hM⟩:=hM
   have hcx12:=DI (p9.2.1) q (by (exact pfQ)) (by (exact pfQ))
   rw [←hx13] at hcx12
   refine bL [2] hcx12 (by decide) (an hF) (an hF) (fun hw14=> ?_)
   replace hw14:=nzQ hw14
   revert hM;revert hF
   refine slQ ?_
   intro hF hM
   refine aP (n9 - 1) _ (by omega) sbQ sbQ ⟨((p9.1+1),x12.2,(p9.2.2++([x12.1]:List Int))),rfl,⟨omQ,omQ,omQ⟩,omQ,aN hM hag9⟩
  ·intro hF hM
   replace hM:=au hM;obtain ⟨x16,hx17,hM⟩:=hM
   have hcx16:=DJ (p9.2.1)
   rw [←hx17] at hcx16
   refine bL [2] hcx16 (by decide) (an hF) (an hF) (fun hw18=> ?_)
   replace hw18:=nzQ hw18
   exact auP
 ·revert hM;revert hF
  refine slQ ?_
  refine cdQ (fun _ _ _=> ?_) (fun _ _ _=> ?_)
  ·refine aQ fun x24 hx25 _ _=> ?_
   have hq27:=yc hx25
   replace hq27:=nzQ hq27
   intro hF hM
   exact cW _ sbQ sbQ (hcut5 _ ⟨x24,rfl,omQ,hM⟩)
  ·intro hF hM
   exact cW _ sbQ sbQ (hcut5 _ ⟨x1,rfl,omQ,hM⟩)
set_option maxRecDepth 512 in
instance (priority:=1015):DRD 4 33 21 [5,11,12,13,14,15,16,17,18,19,20,21,22,23,24,25,26,27,28,29] [] ([[],[],[],[2],[2,3],[2,3,4],[],[6],[6,7],[6,7,8],[6,7,8,9],[],[2,3,4,5,6,7,8,9,10,11],[2,3,4,5,6,7,8,9,10,11,12],[2,3,4,5,6,7,8,9,10,11,12,13],[2,3,4,5,6,7,8,9,10,11,12,13],[2,3,4,5,6,7,8,9,10,11,12,13],[0],[0,17],[0,2,3,4,5,6,7,8,9,10,11,12,13,14,17,18],[2,3,4,5,6,7,8,9,10,11,12,13,15]]++[List.range 21,List.range 22,List.range 23]) [(19,0)]:=⟨trivial⟩
theorem DK (v:ar) (n_:Int):bp En 81 [.ptr 0 0,.int .i64 n_] [.var 37 true ((bQ v))] (.sl none 1 false ((bV v n_).1.map (V.int .i64))) [.var 37 true (bQ (bV v n_).2)] []:=by
 generalize hM:bV v n_=r
 rw [bV.eq_1] at hM
 refine cE bc bA noJ Tryz.func81 rfl Tryz.ntmps81 (by kernel_rfl) rfl fun ks hw hwB=>bz ?_
 refine spQ ?_
 replace hw:=nzQ hw
 replace hwB:=nzB hwB
 have hF:=bT
 revert hM;revert hF
 refine cdQ (fun _ _ _=> ?_) (fun _ _ _=> ?_)
 ·intro hF hM
  subst hM
  exact aU [0] (an hF) (by decide) (an hF)
 ·refine aQ fun _ _ _ _=> ?_
  intro hF hM
  subst hM
  exact aU [0] (an hF) (by decide) (an hF)
instance R8 (g:ak) (r_:aF) (l:(List Int)) (others:(List Int)):CM En (fS g r_ l others) 134 [.agg [.int .i64 g.P,.int .i64 g.Q,.int .i64 g.G],.agg [.sl none 1 false (r_.Y.map (V.int .i64)),.sl none 1 false (r_.Bases.map (fun (l:List Int)=>V.sl none 1 false (l.map (V.int .i64))))],.sl none 1 false (l.map (V.int .i64)),.sl none 1 false (others.map (V.int .i64))] (fun y=> .int .i64 y) (fun _=> []):=by
 refine enQ noJ Tryz.func134 Tryz.ntmps134 (fS.eq_1 ..) fun r hw=> ?_
 refine aQ fun _ _ _ _=> ?_
 refine aE fun _ _ _=> ?_
 intro hF hM
 replace hM:=au hM;obtain ⟨x7,hx8,hM⟩:=hM
 have hcx7:=cmH hx8 (yj r_ (by (clear hM;have h9:=eJ ‹okR _ _›;omega)))
 refine aV hcx7 clQ clQ (fun hw9=> ?_)
 replace hw9:=nzQ hw9
 exact auP
set_option maxRecDepth 512 in
instance (priority:=1016):DRD 5 57 15 [12,27,28,29,30,31,32,33,34,35,36,37,38,39,40] [] ([[],[],[1],[],[1,2,3],[],[5],[1,2,3,4,5,6],[],[8],[0,1,2,3,4,5,6,7,8,9],[0,1,2,3,4,5,6,7,8,9,10],[0,1,2,3,4,5,6,7,8,9,10,11],[0,1,2,3,4,5,6,7,8,9,10,11],[0,1,2,3,4,5,6,7,8,9,10,11,12]]++[List.range 15]) []:=⟨trivial⟩
set_option maxRecDepth 512 in
instance (priority:=1017):DRD 6 57 15 [41,42,43,44,45,46,47,48,49,50,51,52,53,54] [] [[],[],[],[],[2,3],[2,3,4],[],[],[7],[2,3,4,5,6,7,8],[2,3,4,5,6,7,8,9],[2,3,4,5,6,7,8,9,10],[2,3,4,5,6,7,8,9,10],[0,1],[0,1,2,3,4,5,6,7,8,9,10,11,13]] [(14,2)]:=⟨trivial⟩
theorem DL (g:ak) (r_:aF) (c:Int) (z_:(List Int)) (hp0: ∀x∈r_.Bases,x.length≤z_.length∧x.length≤1000) (hp1:r_.Bases.length=r_.Y.length) (hp2:r_.Y.length≤8) (hp3:1≤g.Q):CM En (fB g r_ c z_) 114 [.agg [.int .i64 g.P,.int .i64 g.Q,.int .i64 g.G],.agg [.sl none 1 false (r_.Y.map (V.int .i64)),.sl none 1 false (r_.Bases.map (fun (l:List Int)=>V.sl none 1 false (l.map (V.int .i64))))],.int .i64 c,.sl none 1 false (z_.map (V.int .i64))] (fun y=> .sl none 1 false (y.map (V.int .i64))) (fun _=> []):=by
 refine enQ noJ Tryz.func114 Tryz.ntmps114 (fB.eq_1 ..) fun r hw=> ?_
 intro hF hM
 replace hM:=au hM;obtain ⟨x1,hx2,hM⟩:=hM
 have hcx1:=cmH hx2 (yk g (r_.Bases) z_ (by (first|exact hp0|omega)) (by (first|exact hp0|omega)))
 refine aV hcx1 clQ clQ (fun hw3=> ?_)
 replace hw3:=nzQ hw3
 revert hM;revert hF
 refine slQ ?_
 have hq4:=xz hx2
 replace hq4:=nzQ hq4
 intro hF hM
 replace hM:=aS hM;obtain ⟨f5,d5,hf5,hd5,hM⟩:=hM
 refine bk (fun n S=> ∃p:Int×List Int,S=(⟨[(2,.int .i64 c),(4,.ptr 0 0),(9,.own 2),(20,.sl none 1 false (r_.Y.map (V.int .i64))),(21,.int .i64 (r_.Y.length:Int)),(22,.int .i64 p.1)],[(0,.var 3 true (.agg [.int .i64 g.P,.int .i64 g.Q,.int .i64 g.G])),(2,.own 3 1 false none (p.2.map (V.int .i64)))],3⟩:St)∧((0≤p.1)∧(p.1≤(r_.Y.length:Int))∧((p.2).length=(x1).length))∧((r_.Y.length:Int) - p.1).toNat<n∧ah n f5 d5 p=r) (((r_.Y.length:Int) - 0).toNat+1) _ sbQ sbQ ⟨(0,x1),rfl,⟨omQ,omQ,omQ⟩,(Nat.lt_succ_self _),hM⟩ ?_
 clear hM
 rintro n5 S ⟨p5,rfl,hfa5,hm5,hM⟩
 replace hM:=aT hM (by omega) hf5;obtain ⟨ag5,hag5,hM⟩:=hM
 replace hfa5:=nzQ hfa5
 replace hm5:=nzQ hm5
 have ha5:ao .i64 p5.1 1=p5.1+1:=bl omQ omQ
 replace hF:=(And.intro ha5 hF)
 revert hM;revert hF
 refine slQ ?_
 refine aE fun _ _ _=> ?_
 refine aQ fun _ _ _ _=> ?_
 refine aQ fun x12 _ _ _=> ?_
 intro hF hM
 refine aP (n5 - 1) _ (by omega) sbQ sbQ ⟨((p5.1+1),(st p5.2 p5.1 x12.1)),rfl,⟨omQ,omQ,omQ⟩,omQ,aN hM hag5⟩
theorem Nb (z0:Option Bool) (s:List Int):aI En 135 [.sl z0 1 false (s.map (V.int .i64))] (.own 0) [.own 3 1 false none ((BK s).map (V.int .i64))]:=by
 show aI En 135 [.sl z0 1 false (s.map (V.int .i64))] (.own 0) [.own 3 1 false none (s.map (V.int .i64))]
 refine Bd (pre:=[]) (post:=[]) (fun hl=> ?_) ?_ z0
 ·have hl:s=[]:=by cases s with|nil=>rfl|cons a s=>cases hl
  subst hl
  refine ci bc bA noJ Tryz.func135 rfl Tryz.ntmps135 (by kernel_rfl) fun hw=>bz ?_
  simp only [go_sem,fg,fh,List.length_replicate,dE,Int.toNat_natCast,↓reduceIte,Nat.reduceEqDiff,Nat.reduceAdd,Int.reduceAdd,Nat.reduceMul,Nat.reduceLeDiff,Nat.reduceLT,Int.reduceLE,Int.reduceLT,Int.reduceNeg,Int.reduceToNat,List.nil_append]
  exact Bc (by decide)
 ·refine ci bc bA noJ Tryz.func135 rfl Tryz.ntmps135 (by kernel_rfl) fun hw=>bz ?_
  simp only [go_sem,fg,fh,List.length_replicate,dE,Int.toNat_natCast,↓reduceIte,Nat.reduceEqDiff,Nat.reduceAdd,Int.reduceAdd,Nat.reduceMul,Nat.reduceLeDiff,Nat.reduceLT,Int.reduceLE,Int.reduceLT,Int.reduceNeg,Int.reduceToNat,List.nil_append]
  have hn:s.length≤1073741824:=by have h:=hw;simp only [wfL,wfV,List.nil_append,mh,List.length_map] at h;exact h.1.1
  refine bP (by first|omega|(simp only [List.length_map,List.length_nil,List.nil_append];omega)) ?_
  refine spQ ?_
  refine Bb 0 rfl clQ
instance R9 (g:ak) (r_:aF) (c:Int) (z_:(List Int)):CM En (ko g r_ c z_) 82 [.agg [.int .i64 g.P,.int .i64 g.Q,.int .i64 g.G],.agg [.sl none 1 false (r_.Y.map (V.int .i64)),.sl none 1 false (r_.Bases.map (fun (l:List Int)=>V.sl none 1 false (l.map (V.int .i64))))],.int .i64 c,.sl none 1 false (z_.map (V.int .i64))] (fun y=> .tup [.agg [.sl none 1 false (y.1.A.map (V.int .i64)),.int .i64 y.1.C,.sl none 1 false (y.1.Z.map (V.int .i64))],.int .i64 y.2]) (fun _=> []):=by
 refine enQ noJ Tryz.func82 Tryz.ntmps82 (ko.eq_1 ..) fun r hw=> ?_
 refine aQ fun _ _ _ _=> ?_
 refine aW fun _ _ _=> ?_
 intro hF hM
 replace hM:=au hM;obtain ⟨x7,hx8,hM⟩:=hM
 have hcx7:=cmH hx8 (DL g r_ c z_ (by (clear hM;have h9:=lE ‹_=fS _ _ _ _› (by omega);first|exact hJ h9.1 rfl h9.2|(have h8:=eJ h9.1;omega))) (by (clear hM;have h9:=lE ‹_=fS _ _ _ _› (by omega);first|exact hJ h9.1 rfl h9.2|(have h8:=eJ h9.1;omega))) (by (clear hM;have h9:=lE ‹_=fS _ _ _ _› (by omega);first|exact hJ h9.1 rfl h9.2|(have h8:=eJ h9.1;omega))) (by (clear hM;have h9:=lE ‹_=fS _ _ _ _› (by omega);first|exact hJ h9.1 rfl h9.2|(have h8:=eJ h9.1;omega))))
 refine aV hcx7 clQ clQ (fun hw9=> ?_)
 replace hw9:=nzQ hw9
 revert hM;revert hF
 refine slQ ?_
 intro hF hM
 replace hM:=au hM;obtain ⟨x10,hx11,hM⟩:=hM
 have hcx10:=Nb none z_
 rw [←hx11] at hcx10
 refine aV hcx10 clQ clQ (fun hw12=> ?_)
 replace hw12:=nzQ hw12
 exact auP
instance R_ (d_:bm) (q:Int):CM En (iA d_ q) 136 [(dO d_),.int .i64 q] (fun y=> .tup [(dO y.1),.int .i64 y.2.1,.int .i64 y.2.2]) (fun _=> []):=by
 refine enQ noJ Tryz.func136 Tryz.ntmps136 (iA.eq_1 ..) fun r hw=> ?_
 refine aQ fun _ hx2 _ _=> ?_
 have hq4:=yc hx2
 replace hq4:=nzQ hq4
 refine aW fun _ _ _=> ?_
 intro hF hM
 replace hM:=au hM;obtain ⟨x8,hx9,hM⟩:=hM
 have hcx8:=DI ({d:=d_,full:=false}:bM) q (by (exact pfQ)) (by (exact pfQ))
 rw [←hx9] at hcx8
 refine bL [2] hcx8 (by decide) lsQ lsQ (fun hw10=> ?_)
 replace hw10:=nzQ hw10
 revert hM;revert hF
 refine slQ ?_
 intro hF hM
 replace hM:=au hM;obtain ⟨x11,hx12,hM⟩:=hM
 have hcx11:=DJ (x8.2)
 rw [←hx12] at hcx11
 refine bL [2] hcx11 (by decide) lsQ lsQ (fun hw13=> ?_)
 replace hw13:=nzQ hw13
 exact auP
set_option maxRecDepth 512 in
instance (priority:=1018):DRD 4 30 20 [3,9,10,11,12,13,14,15,16,17,18,19,20,21,22,23,24,25,26] [] ([[],[],[],[2],[2,3],[2,3,4],[],[6],[6,7],[6,7,8],[6,7,8,9],[2,3,4,5,6,7,8,9,10],[2,3,4,5,6,7,8,9,10,11],[2,3,4,5,6,7,8,9,10,11,12],[2,3,4,5,6,7,8,9,10,11,12],[2,3,4,5,6,7,8,9,10,11,12],[0],[0,16],[0,2,3,4,5,6,7,8,9,10,11,12,13,16,17],[2,3,4,5,6,7,8,9,10,11,12,14]]++[List.range 20,List.range 21,List.range 22]) [(18,0)]:=⟨trivial⟩
theorem DM (v:ar):bp En 83 [.ptr 0 0] [.var 37 true ((bQ v))] (.int .i64 (br v).1) [.var 37 true (bQ (br v).2)] []:=by
 generalize hM:br v=r
 rw [br.eq_1] at hM
 refine cE bc bA noJ Tryz.func83 rfl Tryz.ntmps83 (by kernel_rfl) rfl fun ks hw hwB=>bz ?_
 refine spQ ?_
 replace hw:=nzQ hw
 replace hwB:=nzB hwB
 have hF:=bT
 revert hM;revert hF
 refine cdQ (fun _ _ _=> ?_) (fun _ _ _=> ?_)
 ·intro hF hM
  subst hM
  exact aU [0] (an hF) (by decide) (an hF)
 ·refine aQ fun _ _ _ _=> ?_
  intro hF hM
  subst hM
  exact aU [0] (an hF) (by decide) (an hF)
set_option maxRecDepth 512 in
instance (priority:=1019):DRD 5 92 15 [27,28,29,30,31,32,33,34,35,36,37,38,39,40] [] ([[],[],[1],[1,2],[1,2,3],[],[5],[],[],[1,2,3,4,5,6,7,8],[1,2,3,4,5,6,7,8,9],[1,2,3,4,5,6,7,8,9,10],[1,2,3,4,5,6,7,8,9,10],[],[1,2,3,4,5,6,7,8,9,10,11,13]]++[List.range 15,List.range 16,List.range 17]) [(14,3)]:=⟨trivial⟩
set_option maxRecDepth 512 in
instance (priority:=1020):DRD 16 92 14 [66,67,68,69,70,71,72,73,74,75,76,77,78,79] [] ([[],[],[0,1],[],[3],[3,4],[3,4,5],[3,4,5,6],[0,1,2,3,4,5,6,7],[],[9],[9,10],[9,10,11],[9,10,11,12]]++[List.range 14,List.range 15]) []:=⟨trivial⟩
set_option maxRecDepth 512 in
instance (priority:=1021):DRD 17 92 7 [81,82,83,84,85,86,87] [] ([[],[0],[],[],[],[2,3,4],[2,3,4,5]]++[List.range 7,List.range 8,List.range 9]) [(5,0)]:=⟨trivial⟩
theorem Nc (N:Nat) (ih: ∀(v:ar) (f_:aa) (c_:Int),(okF f_)→(ay f_≤30)→(1≤v.g.Q)→ay f_<N→bp En 36 [.ptr 0 0,.agg [.int .i64 f_.Kind,.sl none 1 false (f_.Relation.Y.map (V.int .i64)),.sl none 1 false (f_.Relation.Bases.map (fun (l:List Int)=>V.sl none 1 false (l.map (V.int .i64)))),.sl none 4 true (f_.L.map aw)],.int .i64 c_] [.var 37 true ((bQ v))] (.agg [.int .i64 (bn v f_ c_).1.C,.sl none 1 false ((bn v f_ c_).1.P.A.map (V.int .i64)),.int .i64 (bn v f_ c_).1.P.C,.sl none 1 false ((bn v f_ c_).1.P.Z.map (V.int .i64)),.sl none 5 true ((bn v f_ c_).1.L.map bB)]) [.var 37 true (bQ (bn v f_ c_).2)] []) (v:ar) (f_:aa) (c_:Int) (hp0:okF f_) (hp1:ay f_≤30) (hp2:1≤v.g.Q) (hp_:ay f_<N+1):bp En 36 [.ptr 0 0,.agg [.int .i64 f_.Kind,.sl none 1 false (f_.Relation.Y.map (V.int .i64)),.sl none 1 false (f_.Relation.Bases.map (fun (l:List Int)=>V.sl none 1 false (l.map (V.int .i64)))),.sl none 4 true (f_.L.map aw)],.int .i64 c_] [.var 37 true ((bQ v))] (.agg [.int .i64 (js v f_ c_).1.C,.sl none 1 false ((js v f_ c_).1.P.A.map (V.int .i64)),.int .i64 (js v f_ c_).1.P.C,.sl none 1 false ((js v f_ c_).1.P.Z.map (V.int .i64)),.sl none 5 true ((js v f_ c_).1.L.map bB)]) [.var 37 true (bQ (js v f_ c_).2)] []:=by
 generalize hM:js v f_ c_=r
 rw [js.eq_1] at hM
 refine cE bc bA [16] Tryz.func36 rfl Tryz.ntmps36 (by kernel_rfl) rfl fun ks hw hwB=>bz ?_
 refine spQ ?_
 replace hw:=nzQ hw
 replace hwB:=nzB hwB
 have h0_0:=tA hp1
 have hF:=bT
 revert hM;revert hF
 refine cdQ (fun _ _ _=> ?_) (fun _ _ _=> ?_)
 ·intro hF hM
  replace hM:=au hM;obtain ⟨x3,hx4,hM⟩:=hM
  have hcx3:=oz f_ (by (exact hp0))
  rw [←hx4] at hcx3
  refine aV hcx3 clQ clQ (fun hw5=> ?_)
  replace hw5:=nzQ hw5
  revert hM;revert hF
  refine slQ ?_
  intro hF hM
  replace hM:=au hM;obtain ⟨x6,hx7,hM⟩:=hM
  have hcx6:=DK v x3
  rw [←hx7] at hcx6
  refine bL [0] hcx6 (by decide) lsQ lsQ (fun hw8=> ?_)
  replace hw8:=nzQ hw8
  revert hM;revert hF
  refine slQ ?_
  have hq9:=Dy hx7
  replace hq9:=nzQ hq9
  refine cdQ (fun _ _ _=> ?_) (fun _ _ _=> ?_)
  ·refine aQ fun _ _ _ _=> ?_
   intro hF hM
   subst hM
   exact aU [0] (an hF) (by decide) (an hF)
  ·intro hF hM
   subst hM
   exact aU [0] (an hF) (by decide) (an hF)
 ·intro hF hM
  replace hM:=aS hM;obtain ⟨f16,d16,hf16,hd16,hM⟩:=hM
  refine eN (fun n S=> ∃p:Int×Int×ar×List av,S=(⟨[(0,.ptr 0 0),(2,.int .i64 c_),(4,.ptr 1 0),(6,.ptr 2 0),(7,.ptr 3 0),(9,.int .i64 p.1),(46,.sl none 4 true (f_.L.map aw)),(47,.int .i64 (f_.L.length:Int)),(48,.int .i64 p.2.1)],[(0,.lent (ks 0) 37 true ((bQ p.2.2.1))),(1,.var 4 true (.agg [.int .i64 f_.Kind,.sl none 1 false (f_.Relation.Y.map (V.int .i64)),.sl none 1 false (f_.Relation.Bases.map (fun (l:List Int)=>V.sl none 1 false (l.map (V.int .i64)))),.sl none 4 true (f_.L.map aw)])),(2,.var 5 true (.agg [.int .i64 0,.sl (some true) 1 false [],.int .i64 0,.sl (some true) 1 false [],.sl (some true) 5 true []])),(3,.var 5 true (.agg [.int .i64 c_,.sl (some true) 1 false [],.int .i64 0,.sl (some true) 1 false [],.own 4])),(4,.own 35 5 true none (p.2.2.2.map bB))],5⟩:St)∧((0≤p.2.1)∧(p.2.1≤(f_.L.length:Int))∧((p.2.2.1).g.Q=v.g.Q)∧(((p.2.2.2).length:Int)≤p.2.1))∧((f_.L.length:Int) - p.2.1).toNat<n∧ah n f16 d16 p=r) (((f_.L.length:Int) - 0).toNat+1) _ _ (j_ 3 4 35 rfl rfl (by decide)) sbQ sbQ ⟨(c_,0,v,([]:List av)),rfl,⟨omQ,omQ,omQ,omQ⟩,(Nat.lt_succ_self _),hM⟩ ?_
  clear hM
  rintro n16 S ⟨p16,rfl,hfa16,hm16,hM⟩
  replace hM:=aT hM (by omega) hf16;obtain ⟨ag16,hag16,hM⟩:=hM
  replace hfa16:=nzQ hfa16
  replace hm16:=nzQ hm16
  have ha16:ao .i64 p16.2.1 1=p16.2.1+1:=bl omQ omQ
  replace hF:=(And.intro ha16 hF)
  revert hM;revert hF
  refine slQ ?_
  refine cdQ (fun _ _ _=> ?_) (fun _ _ _=> ?_)
  ·refine cdQ (fun _ _ _=> ?_) (fun _ _ _=> ?_)
   ·intro hF hM
    replace hM:=jc hM;obtain ⟨j22,hj22,hM⟩:=hM
    refine i7 (fun S=> ∃p:Int×ar,S=(⟨[(0,.ptr 0 0),(2,.int .i64 c_),(4,.ptr 1 0),(6,.ptr 2 0),(7,.ptr 3 0),(9,.int .i64 p16.1),(11,.ptr 5 0),(12,.int .i64 p.1),(46,.sl none 4 true (f_.L.map aw)),(47,.int .i64 (f_.L.length:Int)),(48,.int .i64 p16.2.1)],[(0,.lent (ks 0) 37 true ((bQ p.2))),(1,.var 4 true (.agg [.int .i64 f_.Kind,.sl none 1 false (f_.Relation.Y.map (V.int .i64)),.sl none 1 false (f_.Relation.Bases.map (fun (l:List Int)=>V.sl none 1 false (l.map (V.int .i64)))),.sl none 4 true (f_.L.map aw)])),(2,.var 5 true (.agg [.int .i64 0,.sl (some true) 1 false [],.int .i64 0,.sl (some true) 1 false [],.sl (some true) 5 true []])),(3,.var 5 true (.agg [.int .i64 c_,.sl (some true) 1 false [],.int .i64 0,.sl (some true) 1 false [],.own 4])),(4,.own 35 5 true none (p16.2.2.2.map bB)),(5,.var 4 true (.agg [.int .i64 (gt f_.L p16.2.1).Kind,.sl none 1 false ((gt f_.L p16.2.1).Relation.Y.map (V.int .i64)),.sl none 1 false ((gt f_.L p16.2.1).Relation.Bases.map (fun (l:List Int)=>V.sl none 1 false (l.map (V.int .i64)))),.sl none 4 true ((gt f_.L p16.2.1).L.map aw)]))],6⟩:St)∧(((p.2).g.Q=v.g.Q))∧j22 p=r) ?_ (fun hcut22=> ?_)
    ·clear hM
     rintro S ⟨p22,rfl,hfa22,hM⟩
     replace hfa22:=nzQ hfa22
     replace hM:=jd hM hj22
     revert hM;revert hF
     refine slQ ?_
     intro hF hM
     replace hM:=au hM;obtain ⟨x23,hx24,hM⟩:=hM
     have hcx23:=ih (p22.2) (gt f_.L p16.2.1) (p22.1) (by (first|exact dP hp_ (by omega)|exact lC hp0 (by assumption) (aK (by omega))|exact fp hp1 (by omega)|omega)) (by (first|exact dP hp_ (by omega)|exact lC hp0 (by assumption) (aK (by omega))|exact fp hp1 (by omega)|omega)) (by (first|exact dP hp_ (by omega)|exact lC hp0 (by assumption) (aK (by omega))|exact fp hp1 (by omega)|omega)) (by (exact dP hp_ (by omega)))
     rw [←hx24] at hcx23
     refine iv 0 hcx23 rfl rfl (an hF) (an hF) (an hF) (an hF) (an hF) ?_
     revert hM;revert hF
     refine slQ ?_
     have hq25:=yg hx24
     replace hq25:=nzQ hq25
     refine slQ ?_
     intro hF hM
     refine aP (n16 - 1) _ (by omega) sbQ sbQ ⟨((aO .i64 (ao .i64 (ap .i64 p16.1 p22.1) p22.2.g.Q) p22.2.g.Q),(p16.2.1+1),x23.2,(p16.2.2.2++([x23.1]:List av))),rfl,⟨omQ,omQ,omQ,omQ⟩,omQ,aN hM hag16⟩
    ·revert hM;revert hF
     refine slQ ?_
     have ha26:ap .i64 (f_.L.length:Int) 1=((f_.L.length:Int) - 1):=ff ax ax
     intro hF hM
     try simp only [ha26]
     replace hF:=(And.intro ha26 hF)
     revert hM;revert hF
     refine cdQ (fun _ _ _=> ?_) (fun _ _ _=> ?_)
     ·intro hF hM
      replace hM:=au hM;obtain ⟨x29,hx30,hM⟩:=hM
      have hcx29:=DM (p16.2.2.1)
      rw [←hx30] at hcx29
      refine bL [0] hcx29 (by decide) (an hF) (an hF) (fun hw31=> ?_)
      replace hw31:=nzQ hw31
      revert hM;revert hF
      refine slQ ?_
      have hq32:=Dx hx30
      replace hq32:=nzQ hq32
      intro hF hM
      exact cW _ sbQ sbQ (hcut22 _ ⟨(x29.1,x29.2),rfl,omQ,hM⟩)
     ·intro hF hM
      exact cW _ sbQ sbQ (hcut22 _ ⟨(p16.1,p16.2.2.1),rfl,omQ,hM⟩)
   ·intro hF hM
    replace hM:=au hM;obtain ⟨x35,hx36,hM⟩:=hM
    have hcx35:=ih (p16.2.2.1) (gt f_.L p16.2.1) c_ (by (first|exact dP hp_ (by omega)|exact lC hp0 (by assumption) (aK (by omega))|exact fp hp1 (by omega)|omega)) (by (first|exact dP hp_ (by omega)|exact lC hp0 (by assumption) (aK (by omega))|exact fp hp1 (by omega)|omega)) (by (first|exact dP hp_ (by omega)|exact lC hp0 (by assumption) (aK (by omega))|exact fp hp1 (by omega)|omega)) (by (exact dP hp_ (by omega)))
    rw [←hx36] at hcx35
    refine iv 0 hcx35 rfl rfl (an hF) (an hF) (an hF) (an hF) (an hF) ?_
    revert hM;revert hF
    refine slQ ?_
    have hq37:=yg hx36
    replace hq37:=nzQ hq37
    refine slQ ?_
    intro hF hM
    refine aP (n16 - 1) _ (by omega) sbQ sbQ ⟨(p16.1,(p16.2.1+1),x35.2,(p16.2.2.2++([x35.1]:List av))),rfl,⟨omQ,omQ,omQ,omQ⟩,omQ,aN hM hag16⟩
  ·intro hF hM
   subst hM
   exact aU [0] (an hF) (by decide) (an hF)
set_option maxRecDepth 512 in
theorem Nd: ∀(N:Nat) (v:ar) (f_:aa) (c_:Int),(okF f_)→(ay f_≤30)→(1≤v.g.Q)→ay f_<N→bp En 36 [.ptr 0 0,.agg [.int .i64 f_.Kind,.sl none 1 false (f_.Relation.Y.map (V.int .i64)),.sl none 1 false (f_.Relation.Bases.map (fun (l:List Int)=>V.sl none 1 false (l.map (V.int .i64)))),.sl none 4 true (f_.L.map aw)],.int .i64 c_] [.var 37 true ((bQ v))] (.agg [.int .i64 (bn v f_ c_).1.C,.sl none 1 false ((bn v f_ c_).1.P.A.map (V.int .i64)),.int .i64 (bn v f_ c_).1.P.C,.sl none 1 false ((bn v f_ c_).1.P.Z.map (V.int .i64)),.sl none 5 true ((bn v f_ c_).1.L.map bB)]) [.var 37 true (bQ (bn v f_ c_).2)] []:=by
 intro N
 induction N with
 | zero=>intro v f_ c_ h0 h1 h2 h;exact absurd h (Nat.not_lt_zero _)
 | succ N ih=>
  intro v f_ c_ h0 h1 h2 h
  have h9:=Nc N ih v f_ c_ h0 h1 h2 h
  rw [LS] at h9
  exact h9
set_option maxRecDepth 512 in
theorem DN (v:ar) (f_:aa) (c_:Int) (hp0:okF f_) (hp1:ay f_≤30) (hp2:1≤v.g.Q):bp En 36 [.ptr 0 0,.agg [.int .i64 f_.Kind,.sl none 1 false (f_.Relation.Y.map (V.int .i64)),.sl none 1 false (f_.Relation.Bases.map (fun (l:List Int)=>V.sl none 1 false (l.map (V.int .i64)))),.sl none 4 true (f_.L.map aw)],.int .i64 c_] [.var 37 true ((bQ v))] (.agg [.int .i64 (bn v f_ c_).1.C,.sl none 1 false ((bn v f_ c_).1.P.A.map (V.int .i64)),.int .i64 (bn v f_ c_).1.P.C,.sl none 1 false ((bn v f_ c_).1.P.Z.map (V.int .i64)),.sl none 5 true ((bn v f_ c_).1.L.map bB)]) [.var 37 true (bQ (bn v f_ c_).2)] []:=
 Nd (ay f_+1) v f_ c_ hp0 hp1 hp2 (Nat.lt_succ_self _)
set_option maxRecDepth 512 in
instance (priority:=1022):DRD 10 63 8 [52,53,54,55,56,57] [] ([[],[],[],[2],[2,3],[2,3,4],[0],[1]]++[List.range 8]) [(6,3),(7,4)]:=⟨trivial⟩
set_option maxRecDepth 512 in
instance (priority:=1023):DRD 11 63 6 [58,59,60,61,62] [] ([[],[],[1],[1,2],[1,2,3],[0]]++[List.range 6,List.range 7]) [(5,3)]:=⟨trivial⟩
instance Sa (g:ak) (f_:aa) (c:Int) (d_:bm):CM En (iB g f_ c d_) 12 [.agg [.int .i64 g.P,.int .i64 g.Q,.int .i64 g.G],.agg [.int .i64 f_.Kind,.sl none 1 false (f_.Relation.Y.map (V.int .i64)),.sl none 1 false (f_.Relation.Bases.map (fun (l:List Int)=>V.sl none 1 false (l.map (V.int .i64)))),.sl none 4 true (f_.L.map aw)],.int .i64 c,(dO d_)] (fun y=> .tup [.agg [.int .i64 y.1.C,.sl none 1 false (y.1.P.A.map (V.int .i64)),.int .i64 y.1.P.C,.sl none 1 false (y.1.P.Z.map (V.int .i64)),.sl none 5 true (y.1.L.map bB)],(dO y.2.1),.int .i64 y.2.2]) (fun _=> []):=by
 refine enQ [6,9] Tryz.func12 Tryz.ntmps12 (iB.eq_1 ..) fun r hw=> ?_
 intro hF hM
 replace hM:=jc hM;obtain ⟨j1,hj1,hM⟩:=hM
 refine i7 (fun S=> ∃p:ar,S=(⟨[(2,.int .i64 c),(5,.ptr 1 0),(8,.ptr 3 0),(9,.ptr 4 0),(11,.ptr 5 0)],[(1,.var 4 true (.agg [.int .i64 f_.Kind,.sl none 1 false (f_.Relation.Y.map (V.int .i64)),.sl none 1 false (f_.Relation.Bases.map (fun (l:List Int)=>V.sl none 1 false (l.map (V.int .i64)))),.sl none 4 true (f_.L.map aw)])),(3,.var 5 true (.agg [.int .i64 0,.sl (some true) 1 false [],.int .i64 0,.sl (some true) 1 false [],.sl (some true) 5 true []])),(4,.var 33 true (pz)),(5,.var 37 true ((bQ p)))],6⟩:St)∧(((p).e=0→(okF f_∧ay f_≤30∧1≤(p).g.Q)))∧j1 p=r) ?_ (fun hcut1=> ?_)
 ·clear hM
  rintro S ⟨p1,rfl,hF6_0,hM⟩
  replace hM:=jd hM hj1
  revert hM;revert hF
  refine slQ ?_
  intro hF hM
  replace hM:=jc hM;obtain ⟨j2,hj2,hM⟩:=hM
  refine i7 (fun S=> ∃p:ar×av,S=(⟨[(8,.ptr 3 0),(9,.ptr 4 0),(11,.ptr 5 0),(12,.ptr 6 0)],[(3,.var 5 true (.agg [.int .i64 0,.sl (some true) 1 false [],.int .i64 0,.sl (some true) 1 false [],.sl (some true) 5 true []])),(4,.var 33 true (pz)),(5,.var 37 true ((bQ p.1))),(6,.var 5 true (.agg [.int .i64 p.2.C,.sl none 1 false (p.2.P.A.map (V.int .i64)),.int .i64 p.2.P.C,.sl none 1 false (p.2.P.Z.map (V.int .i64)),.sl none 5 true (p.2.L.map bB)]))],7⟩:St)∧(True)∧j2 p=r) ?_ (fun hcut2=> ?_)
  ·clear hM
   rintro S ⟨p2,rfl,hfa2,hM⟩
   replace hM:=jd hM hj2
   exact auP
  ·revert hM;revert hF
   refine slQ ?_
   refine cdQ (fun _ _ _=> ?_) (fun _ _ _=> ?_)
   ·intro hF hM
    replace hM:=au hM;obtain ⟨x8,hx9,hM⟩:=hM
    have hcx8:=DN p1 f_ c (by (have h97:=hF6_0 (by omega);first|exact h97.1|exact h97.2.1|exact h97.2.2)) (by (have h97:=hF6_0 (by omega);first|exact h97.1|exact h97.2.1|exact h97.2.2)) (by (have h97:=hF6_0 (by omega);first|exact h97.1|exact h97.2.1|exact h97.2.2))
    rw [←hx9] at hcx8
    refine bL [5] hcx8 (by decide) lsQ lsQ (fun hw10=> ?_)
    replace hw10:=nzQ hw10
    revert hM;revert hF
    refine slQ ?_
    intro hF hM
    exact cW _ sbQ sbQ (hcut2 _ ⟨(x8.2,x8.1),rfl,trivial,hM⟩)
   ·intro hF hM
    exact cW _ sbQ sbQ (hcut2 _ ⟨(p1,eE),rfl,trivial,hM⟩)
 ·revert hM;revert hF
  refine slQ ?_
  refine aQ fun _ hx13 _ _=> ?_
  have hq16:=tE hx13
  replace hq16:=nzQ hq16
  refine cdQ (fun _ _ _=> ?_) (fun _ _ _=> ?_)
  ·refine aQ fun _ _ _ _=> ?_
   refine cdQ (fun _ _ _=> ?_) (fun _ _ _=> ?_)
   ·intro hF hM
    exact cW _ sbQ sbQ (hcut1 _ ⟨({g:=g,d:=d_,e:=1}:ar),rfl,by (intro h97;first|exact absurd h97 (show¬((1:Int)=0) by decide)|exact absurd h97 (show¬((2:Int)=0) by decide)|exact (bY ‹_=bD _ _› (by assumption))),hM⟩)
   ·refine aQ fun _ _ _ _=> ?_
    refine cdQ (fun _ _ _=> ?_) (fun _ _ _=> ?_)
    ·intro hF hM
     exact cW _ sbQ sbQ (hcut1 _ ⟨({g:=g,d:=d_,e:=2}:ar),rfl,by (intro h97;first|exact absurd h97 (show¬((1:Int)=0) by decide)|exact absurd h97 (show¬((2:Int)=0) by decide)|exact (bY ‹_=bD _ _› (by assumption))),hM⟩)
    ·intro hF hM
     exact cW _ sbQ sbQ (hcut1 _ ⟨({g:=g,d:=d_,e:=0}:ar),rfl,by (intro h97;first|exact absurd h97 (show¬((1:Int)=0) by decide)|exact absurd h97 (show¬((2:Int)=0) by decide)|exact (bY ‹_=bD _ _› (by assumption))),hM⟩)
  ·intro hF hM
   exact cW _ sbQ sbQ (hcut1 _ ⟨({g:=g,d:=d_,e:=1}:ar),rfl,by (intro h97;first|exact absurd h97 (show¬((1:Int)=0) by decide)|exact absurd h97 (show¬((2:Int)=0) by decide)|exact (bY ‹_=bD _ _› (by assumption))),hM⟩)
set_option maxRecDepth 512 in
instance (priority:=1024):DRD 1 53 33 [7,8,9,10,11,12,13,14,15,16,17,18,19,20,21,22,23,24,25,26,27,28,29,30,31,32,33,34,35,36,37,38,39] [] ([[],[],[0,1],[0,1,2],[0,1,2,3],[0,1,2,3,4],[0,1,2,3,4,5],[0,1,2,3,4,5,6],[0,1,2,3,4],[0,1,2,3,4,8],[0,1,2,3,4,8,9],[0,1,2,3,4,5,6,7,8,9,10],[0,1,2,3,4,5,6,7,8,9,10,11],[0,1,2,3,4,5,6,7,8,9,10,11,12],[0,1,2,3,4,5,6,7,8,9,10,11,12,13],[0,1,2,3,4,5,6,7,8,9,10,11,12,13,14],[0,1,2,3,4,5,6,7,8,9,10,11,12,13,14,15],[0,1,2,3,4,5,6,7,8,9,10,11,12,13],[0,1,2,3,4,5,6,7,8,9,10,11,12,13,17],[0,1,2,3,4,5,6,7,8,9,10,11,12,13,14,15,16,17,18],[0,1,2,3,4,5,6,7,8,9,10,11,12,13,14,15,16,17,18,19],[0,1,2,3,4,5,6,7,8,9,10,11,12,13,14,15,16,17,18,19,20],[0,1,2,3,4,5,6,7,8,9,10,11,12,13,14,15,16,17,18,19,20,21],[0,1,2,3,4,5,6,7,8,9,10,11,12,13,14,15,16,17,18,19,20,21],[0,1,2,3,4,5,6,7,8,9,10,11,12,13,14,15,16,17,18,19,20,21,23],[0,1,2,3,4,5,6,7,8,9,10,11,12,13,14,15,16,17,18,19,20,21,23,24],[0,1,2,3,4,5,6,7,8,9,10,11,12,13,14,15,16,17,18,19,20,21,22,23,24,25],[0,1,2,3,4,5,6,7,8,9,10,11,12,13,14,15,16,17,18,19,20,21,22,23,24,25,26],[0,1,2,3,4,5,6,7,8,9,10,11,12,13,14,15,16,17,18,19,20,21,22,23,24,25,26,27],[0,1,2,3,4,5,6,7,8,9,10,11,12,13,14,15,16,17,18,19,20,21,22,23,24,25,26,27,28],[0,1,2,3,4,5,6,7,8,9,10,11,12,13,14,15,16,17,18,19,20,21,22,23,24,25,26,27,28,29],[0,1,2,3,4,5,6,7,8,9,10,11,12,13,14,15,16,17,18,19,20,21,22,23,24,25,26,27,28,29],[0,1,2,3,4,5,6,7,8,9,10,11,12,13,14,15,16,17,18,19,20,21,22,23,24,25,26,27,28,29,31]]++[List.range 33,List.range 34,List.range 35]) []:=⟨trivial⟩
set_option maxRecDepth 512 in
instance (priority:=1025):DRD 3 53 9 [43,44,45,46,47,48,49,50,51] [] ([[],[],[],[2],[],[4],[0,1,2,3,4,5],[],[7]]++[List.range 9,List.range 10]) []:=⟨trivial⟩
instance Sb (g:ak) (r_:aF) (p_:dg):CM En (gY g r_ p_) 60 [.agg [.int .i64 g.P,.int .i64 g.Q,.int .i64 g.G],.agg [.sl none 1 false (r_.Y.map (V.int .i64)),.sl none 1 false (r_.Bases.map (fun (l:List Int)=>V.sl none 1 false (l.map (V.int .i64))))],.agg [.sl none 1 false (p_.A.map (V.int .i64)),.int .i64 p_.C,.sl none 1 false (p_.Z.map (V.int .i64))]] (fun y=> .bool y) (fun _=> []):=by
 refine enQ noJ Tryz.func60 Tryz.ntmps60 (gY.eq_1 ..) fun r hw=> ?_
 refine slQ ?_
 refine aQ fun _ _ _ _=> ?_
 refine aE fun _ _ _=> ?_
 refine aE fun _ _ _=> ?_
 intro hF hM
 replace hM:=au hM;obtain ⟨x8,hx9,hM⟩:=hM
 have hcx8:=cmH hx9 (yj r_ (by (clear hM;have h9:=eJ ‹okR _ _›;omega)))
 refine cN hcx8 clQ clQ ?_
 revert hM;revert hF
 refine slQ ?_
 refine aE fun _ _ _=> ?_
 refine aQ fun _ _ _ _=> ?_
 refine aE fun _ _ _=> ?_
 refine aQ fun _ _ _ _=> ?_
 refine aW fun _ _ _=> ?_
 intro hF hM
 replace hM:=au hM;obtain ⟨x22,hx23,hM⟩:=hM
 have hcx22:=cmH hx23 (DL g r_ (p_.C) (p_.Z) (by (clear hM;first|exact hJ ‹okR _ _› ‹_=cv _› (by omega)|(have h9:=eJ ‹okR _ _›;omega))) (by (clear hM;first|exact hJ ‹okR _ _› ‹_=cv _› (by omega)|(have h9:=eJ ‹okR _ _›;omega))) (by (clear hM;first|exact hJ ‹okR _ _› ‹_=cv _› (by omega)|(have h9:=eJ ‹okR _ _›;omega))) (by (clear hM;first|exact hJ ‹okR _ _› ‹_=cv _› (by omega)|(have h9:=eJ ‹okR _ _›;omega))))
 refine cN hcx22 clQ clQ ?_
 exact auP
instance Sc (p_:dg):CM En (mG p_) 61 [.agg [.sl none 1 false (p_.A.map (V.int .i64)),.int .i64 p_.C,.sl none 1 false (p_.Z.map (V.int .i64))]] (fun y=> .bool y) (fun _=> []):=by
 refine enQ noJ Tryz.func61 Tryz.ntmps61 (mG.eq_1 ..) fun r hw=> ?_
 exact auR
end Go.Proofs.YtgealhhkngbkbaaGreatDoor
