/- Texts of this proof, one after the other: U4, U5, C0, PW, L1, L2. -/
import Derived.Test.YtgealhhkngbkbaaGreatDoorZ11
import Derived.Test.YtgealhhkngbkbaaGreatDoorZ9
import Derived.Lib.TrailingZeros
set_option linter.unusedSimpArgs false
set_option linter.unusedVariables false
namespace Go.Proofs.YtgealhhkngbkbaaGreatDoor
open Go.RowKit
instance (priority:=1026):DRD 11 105 22 [59,60,61,62,63,64,65,66,67,68,69,70,71,72,73,74,75,76,77,78,79,80] [] ([[],[],[],[2],[],[2,3,4],[2,3,4,5],[0,1,2,3,4,5,6],[0,1,2,3,4,5,6,7],[0,1,2,3,4,5,6,7,8],[0,1,2,3,4,5,6,7,8,9],[0,1,2,3,4,5,6,7,8,9,10],[0,1,2,3,4,5,6,7,8,9,10,11],[0,1,2,3,4,5,6,7,8,9,10,11,12],[0,1,2,3,4,5,6,7,8,9,10,11,12,13],[0,1,2,3,4,5,6,7,8,9,10,11,12,13,14],[0,1,2,3,4,5,6,7,8,9,10,11,12,13],[0,1,2,3,4,5,6,7,8,9,10,11,12,13,14,15,16],[0,1,2,3,4,5,6,7,8,9,10,11,12,13,14,15,16,17],[0,1,2,3,4,5,6,7,8,9,10,11,12,13,14,15,16,17,18],[0,1,2,3,4,5,6,7,8,9,10,11,12,13],[0,1,2,3,4,5,6,7,8,9,10,11,12,13,20]]++[List.range 22,List.range 23,List.range 24]) []:=⟨trivial⟩
instance (priority:=1027):DRD 13 105 10 [84,85,86,87,88,89,90,91,92,93] [] ([[],[],[1],[],[1,2,3],[1,2,3,4],[1,2,3,4,5],[0,1,2,3,4,5,6],[],[8]]++[List.range 10,List.range 11]) []:=⟨trivial⟩
set_option maxHeartbeats 2000000 in
set_option maxRecDepth 100000 in
theorem Nf (N:Nat) (ih: ∀(g:ak) (f_:aa) (t:av),(1≤g.Q)→ay f_<N→aI En 24 [.agg [.int .i64 g.P,.int .i64 g.Q,.int .i64 g.G],.agg [.int .i64 f_.Kind,.sl none 1 false (f_.Relation.Y.map (V.int .i64)),.sl none 1 false (f_.Relation.Bases.map (fun (l:List Int)=>V.sl none 1 false (l.map (V.int .i64)))),.sl none 4 true (f_.L.map aw)],.agg [.int .i64 t.C,.sl none 1 false (t.P.A.map (V.int .i64)),.int .i64 t.P.C,.sl none 1 false (t.P.Z.map (V.int .i64)),.sl none 5 true (t.L.map bB)]] (.bool (eU g f_ t)) []) (g:ak) (f_:aa) (t:av) (hp0:1≤g.Q) (hp_:ay f_<N+1):aI En 24 [.agg [.int .i64 g.P,.int .i64 g.Q,.int .i64 g.G],.agg [.int .i64 f_.Kind,.sl none 1 false (f_.Relation.Y.map (V.int .i64)),.sl none 1 false (f_.Relation.Bases.map (fun (l:List Int)=>V.sl none 1 false (l.map (V.int .i64)))),.sl none 4 true (f_.L.map aw)],.agg [.int .i64 t.C,.sl none 1 false (t.P.A.map (V.int .i64)),.int .i64 t.P.C,.sl none 1 false (t.P.Z.map (V.int .i64)),.sl none 5 true (t.L.map bB)]] (.bool (qb g f_ t)) []:=by
 generalize hM:qb g f_ t=r
 rw [qb.eq_1] at hM
 refine ci bc bA noJ Tryz.func24 rfl Tryz.ntmps24 (by kernel_rfl) fun hw=>bz ?_
 refine spQ ?_
 replace hw:=nzQ hw
 have hF:=bT
 revert hM;revert hF
 refine aQ fun _ _ _ _=> ?_
 refine aW fun _ _ _=> ?_
 refine aW fun _ _ _=> ?_
 refine aQ fun _ _ _ _=> ?_
 refine aE fun _ _ _=> ?_
 refine aW fun _ _ _=> ?_
 intro hF hM
 replace hM:=aS hM;obtain ⟨f28,d28,hf28,hd28,hM⟩:=hM
 refine bk (fun n S=> ∃p:Int×Int,S=(⟨[(3,.ptr 0 0),(4,.ptr 1 0),(5,.ptr 2 0),(7,.int .i64 p.1),(52,.sl none 4 true (f_.L.map aw)),(53,.int .i64 (f_.L.length:Int)),(54,.int .i64 p.2)],[(0,.var 3 true (.agg [.int .i64 g.P,.int .i64 g.Q,.int .i64 g.G])),(1,.var 4 true (.agg [.int .i64 f_.Kind,.sl none 1 false (f_.Relation.Y.map (V.int .i64)),.sl none 1 false (f_.Relation.Bases.map (fun (l:List Int)=>V.sl none 1 false (l.map (V.int .i64)))),.sl none 4 true (f_.L.map aw)])),(2,.var 5 true (.agg [.int .i64 t.C,.sl none 1 false (t.P.A.map (V.int .i64)),.int .i64 t.P.C,.sl none 1 false (t.P.Z.map (V.int .i64)),.sl none 5 true (t.L.map bB)]))],3⟩:St)∧((0≤p.2)∧(p.2≤(f_.L.length:Int)))∧((f_.L.length:Int) - p.2).toNat<n∧ah n f28 d28 p=r) (((f_.L.length:Int) - 0).toNat+1) _ sbQ sbQ ⟨(0,0),rfl,⟨omQ,omQ⟩,(Nat.lt_succ_self _),hM⟩ ?_
 clear hM
 rintro n28 S ⟨p28,rfl,hfa28,hm28,hM⟩
 replace hM:=aT hM (by omega) hf28;obtain ⟨ag28,hag28,hM⟩:=hM
 replace hfa28:=nzQ hfa28
 replace hm28:=nzQ hm28
 have ha28:ao .i64 p28.2 1=p28.2+1:=bl omQ omQ
 replace hF:=(And.intro ha28 hF)
 revert hM;revert hF
 refine slQ ?_
 refine aE fun _ _ _=> ?_
 intro hF hM
 replace hM:=au hM;obtain ⟨x33,hx34,hM⟩:=hM
 have hcx33:=ih g (gt f_.L p28.2) (gt t.L p28.2) (by (exact pfQ)) (by (have h9:=cU (f:=f_) (aK (l:=f_.L) (i:=p28.2) (by omega));omega))
 rw [←hx34] at hcx33
 refine cN hcx33 (aD hF) (aD hF) ?_
 revert hM;revert hF
 refine slQ ?_
 refine aE fun _ _ _=> ?_
 refine cdQ (fun _ _ _=> ?_) (fun _ _ _=> ?_)
 ·refine aW fun _ _ _=> ?_
  intro hF hM
  refine aP (n28 - 1) _ (by omega) sbQ sbQ ⟨((aO .i64 (ao .i64 p28.1 (gt t.L p28.2).C) g.Q),(p28.2+1)),rfl,⟨omQ,omQ⟩,omQ,aN hM hag28⟩
 ·intro hF hM
  refine aP (n28 - 1) _ (by omega) sbQ sbQ ⟨((aO .i64 (ao .i64 p28.1 (gt t.L p28.2).C) g.Q),(p28.2+1)),rfl,⟨omQ,omQ⟩,omQ,aN hM hag28⟩
theorem Ng: ∀(N:Nat) (g:ak) (f_:aa) (t:av),(1≤g.Q)→ay f_<N→aI En 24 [.agg [.int .i64 g.P,.int .i64 g.Q,.int .i64 g.G],.agg [.int .i64 f_.Kind,.sl none 1 false (f_.Relation.Y.map (V.int .i64)),.sl none 1 false (f_.Relation.Bases.map (fun (l:List Int)=>V.sl none 1 false (l.map (V.int .i64)))),.sl none 4 true (f_.L.map aw)],.agg [.int .i64 t.C,.sl none 1 false (t.P.A.map (V.int .i64)),.int .i64 t.P.C,.sl none 1 false (t.P.Z.map (V.int .i64)),.sl none 5 true (t.L.map bB)]] (.bool (eU g f_ t)) []:=by
 intro N
 induction N with
 | zero=>intro g f_ t h0 h;exact absurd h (Nat.not_lt_zero _)
 | succ N ih=>
  intro g f_ t h0 h
  have h9:=Nf N ih g f_ t h0 h
  rw [LF] at h9
  exact h9
theorem Nh (g:ak) (f_:aa) (t:av) (hp0:1≤g.Q):aI En 24 [.agg [.int .i64 g.P,.int .i64 g.Q,.int .i64 g.G],.agg [.int .i64 f_.Kind,.sl none 1 false (f_.Relation.Y.map (V.int .i64)),.sl none 1 false (f_.Relation.Bases.map (fun (l:List Int)=>V.sl none 1 false (l.map (V.int .i64)))),.sl none 4 true (f_.L.map aw)],.agg [.int .i64 t.C,.sl none 1 false (t.P.A.map (V.int .i64)),.int .i64 t.P.C,.sl none 1 false (t.P.Z.map (V.int .i64)),.sl none 5 true (t.L.map bB)]] (.bool (eU g f_ t)) []:=
 Ng (ay f_+1) g f_ t hp0 (Nat.lt_succ_self _)
set_option maxHeartbeats 2000000 in
set_option maxRecDepth 100000 in
instance Sd (g:ak) (f_:aa) (t:av):CM En (gn g f_ t) 7 [.agg [.int .i64 g.P,.int .i64 g.Q,.int .i64 g.G],.agg [.int .i64 f_.Kind,.sl none 1 false (f_.Relation.Y.map (V.int .i64)),.sl none 1 false (f_.Relation.Bases.map (fun (l:List Int)=>V.sl none 1 false (l.map (V.int .i64)))),.sl none 4 true (f_.L.map aw)],.agg [.int .i64 t.C,.sl none 1 false (t.P.A.map (V.int .i64)),.int .i64 t.P.C,.sl none 1 false (t.P.Z.map (V.int .i64)),.sl none 5 true (t.L.map bB)]] (fun y=> .bool y) (fun _=> []):=by
 refine enQ noJ Tryz.func7 Tryz.ntmps7 (gn.eq_1 ..) fun r hw=> ?_
 refine aQ fun _ hx2 _ _=> ?_
 have hq5:=tE hx2
 replace hq5:=nzQ hq5
 refine aE fun _ _ _=> ?_
 intro hF hM
 replace hM:=au hM;obtain ⟨x8,hx9,hM⟩:=hM
 have hcx8:=Nh g f_ t (by (exact pfQ))
 rw [←hx9] at hcx8
 refine aV hcx8 clQ clQ (fun hw10=> ?_)
 replace hw10:=nzQ hw10
 exact auP
set_option maxHeartbeats 2000000 in
set_option maxRecDepth 100000 in
instance Se (e_:Int):CM En (go e_) 37 [.int .i64 e_] (fun y=> .tup [.agg [.int .i64 y.1.C,.sl none 1 false (y.1.P.A.map (V.int .i64)),.int .i64 y.1.P.C,.sl none 1 false (y.1.P.Z.map (V.int .i64)),.sl none 5 true (y.1.L.map bB)],(dO y.2.1),.int .i64 y.2.2]) (fun _=> []):=by
 refine enQ noJ Tryz.func37 Tryz.ntmps37 (go.eq_1 ..) fun r hw=> ?_
 exact auR
set_option maxHeartbeats 2000000 in
set_option maxRecDepth 100000 in
instance Sf (c:Int):CM En (ob c) 138 [.int .u8 c] (fun y=> .bool y) (fun _=> []):=by
 refine enQ noJ Tryz.func138 Tryz.ntmps138 (ob.eq_1 ..) fun r hw=> ?_
 exact auR
set_option maxHeartbeats 2000000 in
set_option maxRecDepth 100000 in
instance Sg (s:(List Int)):CM En (xk s) 174 [.sl none 1 false (s.map (V.int .u8)),.fn 138 []] (fun y=> .int .i64 y) (fun _=> []):=by
 refine enQ noJ Tryz.func174 Tryz.ntmps174 (xk.eq_1 ..) fun r hw=> ?_
 intro hF hM
 replace hM:=aS hM;obtain ⟨f1,d1,hf1,hd1,hM⟩:=hM
 refine bk (fun n S=> ∃p:Int,S=(⟨[(0,.sl none 1 false (s.map (V.int .u8))),(1,.fn 138 []),(7,.int .i64 (s.length:Int)),(8,.int .i64 p)],[],0⟩:St)∧((0≤p)∧(p≤(s.length:Int)))∧((s.length:Int) - p).toNat<n∧ah n f1 d1 p=r) (((s.length:Int) - 0).toNat+1) _ sbQ sbQ ⟨0,rfl,⟨omQ,omQ⟩,(Nat.lt_succ_self _),hM⟩ ?_
 clear hM
 rintro n1 S ⟨p1,rfl,hfa1,hm1,hM⟩
 replace hM:=aT hM (by omega) hf1;obtain ⟨ag1,hag1,hM⟩:=hM
 replace hfa1:=nzQ hfa1
 replace hm1:=nzQ hm1
 have ha1:ao .i64 p1 1=p1+1:=bl omQ omQ
 replace hF:=(And.intro ha1 hF)
 revert hM;revert hF
 refine slQ ?_
 refine aE fun _ _ _=> ?_
 refine aQ fun _ _ _ _=> ?_
 refine aW fun _ _ _=> ?_
 intro hF hM
 refine aP (n1 - 1) _ (by omega) sbQ sbQ ⟨(p1+1),rfl,⟨omQ,omQ⟩,omQ,aN hM hag1⟩
set_option maxHeartbeats 2000000 in
set_option maxRecDepth 100000 in
instance Sh (s:(List Int)):CM En (s9 s) 137 [.sl none 1 false (s.map (V.int .u8)),.fn 138 []] (fun y=> .bool y) (fun _=> []):=by
 refine enQ noJ Tryz.func137 Tryz.ntmps137 (s9.eq_1 ..) fun r hw=> ?_
 exact auR
set_option maxHeartbeats 2000000 in
set_option maxRecDepth 100000 in
instance Si (label:(List UInt8)):CM En (kp label) 84 [.str label] (fun y=> .bool y) (fun _=> []):=by
 refine enQ noJ Tryz.func84 Tryz.ntmps84 (kp.eq_1 ..) fun r hw=> ?_
 exact auR
instance (priority:=1028):DRD 4 26 5 [19,20,21,22,23] [] ([[],[0],[],[0,1,2],[]]++[List.range 5,List.range 6,List.range 7,List.range 8]) [(3,4)]:=⟨trivial⟩
set_option maxHeartbeats 2000000 in
set_option maxRecDepth 100000 in
theorem DO (tag:(List UInt8)) (b:(List Int)) (hp0:b.length≤900000000):CM En (oc tag b) 85 [.str tag,.sl none 1 false (b.map (V.int .u8))] (fun y=> .tup [(gP y.1),.int .i64 y.2]) (fun _=> []):=by
 refine enQ [4] Tryz.func85 Tryz.ntmps85 (oc.eq_1 ..) fun r hw=> ?_
 refine aE fun _ _ _=> ?_
 refine aW fun _ _ _=> ?_
 intro hF hM
 refine kW ?_
 revert hM;revert hF
 refine slQ ?_
 intro hF hM
 replace hM:=au hM;obtain ⟨x6,hx7,hM⟩:=hM
 have hcx6:=cmH hx7 (ym (cX tag) (by (exact pfQ)))
 refine io hcx6 clQ clQ (fun hw8=> ?_)
 replace hw8:=nzQ hw8
 revert hM;revert hF
 refine slQ ?_
 intro hF hM
 refine j4 _ (⟨[(1,.sl none 1 false (b.map (V.int .u8))),(4,.ptr 0 0),(6,.ptr 2 0)],[(0,.var 32 true (my)),(2,.pvar 32 true ((gP x6)))],3⟩:St) (mi (S:=⟨_,_,_⟩) 2 (n:=32) (g:=true) (d:=(gP x6)) clQ clQ) sbQ sbQ ?_
 revert hM;revert hF
 refine slQ ?_
 intro hF hM
 replace hM:=au hM;obtain ⟨x9,hx10,hM⟩:=hM
 have hcx9:=DH (some false) (bX 32 x6)
 rw [←hx10] at hcx9
 refine IJ hcx9 clQ clQ ?_
 revert hM;revert hF
 refine slQ ?_
 have hq11:=nzQ (cfU hx10)
 refine slQ ?_
 intro hF hM
 replace hM:=au hM;obtain ⟨x12,hx13,hM⟩:=hM
 have hcx12:=cmH hx13 (ym ((x9++(bX 32 x6))++b) (by (exact pfQ)))
 refine io hcx12 clQ clQ (fun hw14=> ?_)
 replace hw14:=nzQ hw14
 exact auP
set_option maxHeartbeats 2000000 in
set_option maxRecDepth 100000 in
instance Sj (label:(List UInt8)):CM En (jt label) 38 [.str label] (fun y=> .tup [(iw y.1),.int .i64 y.2]) (fun _=> []):=by
 refine enQ noJ Tryz.func38 Tryz.ntmps38 (jt.eq_1 ..) fun r hw=> ?_
 refine aQ fun _ _ _ _=> ?_
 refine aW fun _ _ _=> ?_
 intro hF hM
 replace hM:=au hM;obtain ⟨x8,hx9,hM⟩:=hM
 have hcx8:=cmH hx9 (DO ([115,112,101,99,105,101,47,116,114,97,110,115,99,114,105,112,116]) (cX label) (by (exact pfQ)))
 refine io hcx8 clQ clQ (fun hw10=> ?_)
 replace hw10:=nzQ hw10
 exact auP
set_option maxHeartbeats 2000000 in
set_option maxRecDepth 100000 in
theorem Ni (r_:aF) (hp0:g9 r_):CM En (lu r_) 118 [.agg [.sl none 1 false (r_.Y.map (V.int .i64)),.sl none 1 false (r_.Bases.map (fun (l:List Int)=>V.sl none 1 false (l.map (V.int .i64))))]] (fun y=> .str y) (fun _=> []):=by
 refine enQ noJ Tryz.func118 Tryz.ntmps118 (lu.eq_1 ..) fun r hw=> ?_
 have h0_0:=mh
 have h0_1:=hp0.1
 have h0_2:=hp0.2.1
 intro hF hM
 replace hM:=aS hM;obtain ⟨f1,d1,hf1,hd1,hM⟩:=hM
 refine eN (fun n S=> ∃p:Int×List (List UInt8),S=(⟨[(1,.ptr 0 0),(3,.own 1),(10,.sl none 1 false (r_.Y.map (V.int .i64))),(11,.int .i64 (r_.Y.length:Int)),(12,.int .i64 p.1)],[(0,.var 2 true (.agg [.sl none 1 false (r_.Y.map (V.int .i64)),.sl none 1 false (r_.Bases.map (fun (l:List Int)=>V.sl none 1 false (l.map (V.int .i64))))])),(1,.own 9 1 false none (p.2.map V.str))],2⟩:St)∧(((0≤p.1)∧(p.1≤(r_.Y.length:Int))∧(((p.2).length:Int)=p.1)∧(((p.2).length:Int)≤p.1))∧((cJ (p.2):Int)≤300*p.1))∧((r_.Y.length:Int) - p.1).toNat<n∧ah n f1 d1 p=r) (((r_.Y.length:Int) - 0).toNat+1) _ _ (jZ 3 9 rfl (by decide)) sbQ sbQ ⟨(0,([]:List (List UInt8))),rfl,⟨⟨by (first|exact omQ|(clear hM;first|(have h9:=mU hp0 (i:=p1.1) (by omega);exact ax))),by (first|exact omQ|(clear hM;first|(have h9:=mU hp0 (i:=p1.1) (by omega);exact ax))),by (first|exact omQ|(clear hM;first|(have h9:=mU hp0 (i:=p1.1) (by omega);exact ax))),by (first|exact omQ|(clear hM;first|(have h9:=mU hp0 (i:=p1.1) (by omega);exact ax)))⟩,by (simp [cJ])⟩,(Nat.lt_succ_self _),hM⟩ ?_
 clear hM
 rintro n1 S ⟨p1,rfl,⟨hfa1,hF3_0⟩,hm1,hM⟩
 have hA0:=fun a0=>mU hp0 (i:=p1.1) a0
 have hA1:=fun a0=>mU hp0 (i:=(p1.1+1)) a0
 replace hM:=aT hM (by omega) hf1;obtain ⟨ag1,hag1,hM⟩:=hM
 replace hfa1:=nzQ hfa1
 replace hm1:=nzQ hm1
 have ha1:ao .i64 p1.1 1=p1.1+1:=bl (by exact omA) (by exact omA)
 replace hF:=(And.intro ha1 hF)
 revert hM;revert hF
 refine slQ ?_
 refine cdQ (fun _ _ _=> ?_) (fun _ _ _=> ?_)
 ·refine aQ fun x5 hx6 _ _=> ?_
  have hq8:=(by first|exact CN hp0 hx6 (by omega)|exact CO hp0 hx6 (by omega) (by omega))
  replace hq8:=nzQ hq8
  refine slQ ?_
  intro hF hM
  replace hM:=aS hM;obtain ⟨f10,d10,hf10,hd10,hM⟩:=hM
  refine bk (fun n S=> ∃p:List UInt8×Int,S=(⟨[(1,.ptr 0 0),(3,.own 1),(6,.str p.1),(10,.sl none 1 false (r_.Y.map (V.int .i64))),(11,.int .i64 (r_.Y.length:Int)),(12,.int .i64 p1.1),(24,.sl none 1 false ((gt r_.Bases p1.1).map (V.int .i64))),(25,.int .i64 ((gt r_.Bases p1.1).length:Int)),(26,.int .i64 p.2)],[(0,.var 2 true (.agg [.sl none 1 false (r_.Y.map (V.int .i64)),.sl none 1 false (r_.Bases.map (fun (l:List Int)=>V.sl none 1 false (l.map (V.int .i64))))])),(1,.own 9 1 false none (p1.2.map V.str))],2⟩:St)∧((0≤p.2)∧(p.2≤((gt r_.Bases p1.1).length:Int))∧(((p.1).length:Int)≤23+22*p.2))∧(((gt r_.Bases p1.1).length:Int) - p.2).toNat<n∧ah n f10 d10 p=r) ((((gt r_.Bases p1.1).length:Int) - 0).toNat+1) _ sbQ sbQ ⟨((x5++[32,61]),0),rfl,⟨by exact omA,by exact omA,by exact omA⟩,(Nat.lt_succ_self _),hM⟩ ?_
  clear hM
  rintro n10 S ⟨p10,rfl,hfa10,hm10,hM⟩
  replace hM:=aT hM (by omega) hf10;obtain ⟨ag10,hag10,hM⟩:=hM
  replace hfa10:=nzQ hfa10
  replace hm10:=nzQ hm10
  have ha10:ao .i64 p10.2 1=p10.2+1:=bl (by exact omA) (by exact omA)
  replace hF:=(And.intro ha10 hF)
  revert hM;revert hF
  refine slQ ?_
  refine cdQ (fun _ _ _=> ?_) (fun _ _ _=> ?_)
  ·refine aQ fun _ hx15 _ _=> ?_
   have hq17:=(by first|exact CN hp0 hx15 (by omega)|exact CO hp0 hx15 (by omega) (by omega))
   replace hq17:=nzQ hq17
   exact auR
  ·intro hF hM
   refine aP (n1 - 1) _ (by omega) sbQ sbQ ⟨((p1.1+1),(p1.2++([p10.1]:List (List UInt8)))),rfl,⟨⟨by exact omA,by exact omA,by exact omA,by exact omA⟩,by (clear hM;have h9:=mU hp0 (i:=p1.1) (by omega);rw [Cm,Cn];omega)⟩,by exact omA,aN hM hag1⟩
 ·intro hF hM
  replace hM:=au hM;obtain ⟨x20,hx21,hM⟩:=hM
  have hcx20:=cmH hx21 (wX (p1.2) ([44,32]) (by (exact xD (n:=2400) (m:=8) (by omega) (by omega) (by decide))))
  refine io hcx20 (aD hF) (aD hF) (fun hw22=> ?_)
  replace hw22:=nzQ hw22
  revert hM;revert hF
  refine slQ ?_
  have hq23:=qo hx21
  replace hq23:=nzQ hq23
  exact auR
set_option maxHeartbeats 2000000 in
set_option maxRecDepth 100000 in
theorem Nj (N:Nat) (ih: ∀(f_:aa),(okT f_)→(ay f_≤30)→ay f_<N→aI En 64 [.agg [.int .i64 f_.Kind,.sl none 1 false (f_.Relation.Y.map (V.int .i64)),.sl none 1 false (f_.Relation.Bases.map (fun (l:List Int)=>V.sl none 1 false (l.map (V.int .i64)))),.sl none 4 true (f_.L.map aw)]] (.str (di f_)) []) (f_:aa) (hp0:okT f_) (hp1:ay f_≤30) (hp_:ay f_<N+1):aI En 64 [.agg [.int .i64 f_.Kind,.sl none 1 false (f_.Relation.Y.map (V.int .i64)),.sl none 1 false (f_.Relation.Bases.map (fun (l:List Int)=>V.sl none 1 false (l.map (V.int .i64)))),.sl none 4 true (f_.L.map aw)]] (.str (qc f_)) []:=by
 generalize hM:qc f_=r
 rw [qc.eq_1] at hM
 refine ci bc bA noJ Tryz.func64 rfl Tryz.ntmps64 (by kernel_rfl) fun hw=>bz ?_
 refine spQ ?_
 replace hw:=nzQ hw
 have h0_0:=mh
 have h0_1:=(ot hp0).2.1
 have hF:=bT
 revert hM;revert hF
 refine cdQ (fun _ _ _=> ?_) (fun _ _ _=> ?_)
 ·intro hF hM
  replace hM:=au hM;obtain ⟨x3,hx4,hM⟩:=hM
  have hcx3:=cmH hx4 (Ni (f_.Relation) (by (exact (ot hp0).1)))
  refine aV hcx3 clQ clQ (fun hw5=> ?_)
  replace hw5:=nzQ hw5
  revert hM;revert hF
  refine slQ ?_
  have hq6:=Lw hx4 (ot hp0).1
  replace hq6:=nzQ hq6
  exact auR
 ·intro hF hM
  replace hM:=aS hM;obtain ⟨f8,d8,hf8,hd8,hM⟩:=hM
  refine eN (fun n S=> ∃p:Int×List (List UInt8),S=(⟨[(1,.ptr 0 0),(3,.own 1),(14,.sl none 4 true (f_.L.map aw)),(15,.int .i64 (f_.L.length:Int)),(16,.int .i64 p.1)],[(0,.var 4 true (.agg [.int .i64 f_.Kind,.sl none 1 false (f_.Relation.Y.map (V.int .i64)),.sl none 1 false (f_.Relation.Bases.map (fun (l:List Int)=>V.sl none 1 false (l.map (V.int .i64)))),.sl none 4 true (f_.L.map aw)])),(1,.own 9 1 false none (p.2.map V.str))],2⟩:St)∧(((0≤p.1)∧(p.1≤(f_.L.length:Int))∧(((p.2).length:Int)=p.1)∧(((p.2).length:Int)≤p.1))∧((cJ (p.2):Int)≤78000*p.1))∧((f_.L.length:Int) - p.1).toNat<n∧ah n f8 d8 p=r) (((f_.L.length:Int) - 0).toNat+1) _ _ (jZ 3 9 rfl (by decide)) sbQ sbQ ⟨(0,([]:List (List UInt8))),rfl,⟨⟨omQ,omQ,omQ,omQ⟩,by (simp [cJ])⟩,(Nat.lt_succ_self _),hM⟩ ?_
  clear hM
  rintro n8 S ⟨p8,rfl,⟨hfa8,hF5_0⟩,hm8,hM⟩
  replace hM:=aT hM (by omega) hf8;obtain ⟨ag8,hag8,hM⟩:=hM
  replace hfa8:=nzQ hfa8
  replace hm8:=nzQ hm8
  have ha8:ao .i64 p8.1 1=p8.1+1:=bl omQ omQ
  replace hF:=(And.intro ha8 hF)
  revert hM;revert hF
  refine slQ ?_
  refine cdQ (fun h9 _ _=> ?_) (fun h9 _ _=> ?_)
  ·intro hF hM
   replace hM:=au hM;obtain ⟨x12,hx13,hM⟩:=hM
   have hcx12:=ih (gt f_.L p8.1) (by (first|exact (ot hp0).2.2 _ (aK (by omega))|(have h9:=cU (f:=f_) (aK (l:=f_.L) (i:=p8.1) (by omega));omega))) (by (first|exact (ot hp0).2.2 _ (aK (by omega))|(have h9:=cU (f:=f_) (aK (l:=f_.L) (i:=p8.1) (by omega));omega))) (by (have h9:=cU (f:=f_) (aK (l:=f_.L) (i:=p8.1) (by omega));omega))
   rw [←hx13] at hcx12
   refine aV hcx12 (aD hF) (aD hF) (fun hw14=> ?_)
   replace hw14:=nzQ hw14
   revert hM;revert hF
   refine slQ ?_
   have hq15:=Lx hx13 ((ot hp0).2.2 _ (aK (by omega))) (Nat.le_trans (Nat.le_of_lt (cU (aK (by omega)))) hp1)
   replace hq15:=nzQ hq15
   refine slQ ?_
   intro hF hM
   refine aP (n8 - 1) _ (by omega) sbQ sbQ ⟨((p8.1+1),(p8.2++([x12]:List (List UInt8)))),rfl,⟨⟨omQ,omQ,omQ,omQ⟩,by (clear hM;rw [Cm,Cn];omega)⟩,omQ,aN hM hag8⟩
  ·refine cdQ (fun _ _ _=> ?_) (fun _ _ _=> ?_)
   ·intro hF hM
    replace hM:=au hM;obtain ⟨x19,hx20,hM⟩:=hM
    have hcx19:=cmH hx20 (wX (p8.2) ([44,32]) (by (exact xD (n:=624000) (m:=8) (by omega) (by omega) (by decide))))
    refine io hcx19 (aD hF) (aD hF) (fun hw21=> ?_)
    replace hw21:=nzQ hw21
    revert hM;revert hF
    refine slQ ?_
    have hq22:=qo hx20
    replace hq22:=nzQ hq22
    exact auR
   ·intro hF hM
    replace hM:=au hM;obtain ⟨x24,hx25,hM⟩:=hM
    have hcx24:=cmH hx25 (wX (p8.2) ([44,32]) (by (exact xD (n:=624000) (m:=8) (by omega) (by omega) (by decide))))
    refine io hcx24 (aD hF) (aD hF) (fun hw26=> ?_)
    replace hw26:=nzQ hw26
    revert hM;revert hF
    refine slQ ?_
    have hq27:=qo hx25
    replace hq27:=nzQ hq27
    exact auR
theorem Nk: ∀(N:Nat) (f_:aa),(okT f_)→(ay f_≤30)→ay f_<N→aI En 64 [.agg [.int .i64 f_.Kind,.sl none 1 false (f_.Relation.Y.map (V.int .i64)),.sl none 1 false (f_.Relation.Bases.map (fun (l:List Int)=>V.sl none 1 false (l.map (V.int .i64)))),.sl none 4 true (f_.L.map aw)]] (.str (di f_)) []:=by
 intro N
 induction N with
 | zero=>intro f_ h0 h1 h;exact absurd h (Nat.not_lt_zero _)
 | succ N ih=>
  intro f_ h0 h1 h
  have h9:=Nj N ih f_ h0 h1 h
  rw [Lc] at h9
  exact h9
theorem Nl (f_:aa) (hp0:okT f_) (hp1:ay f_≤30):aI En 64 [.agg [.int .i64 f_.Kind,.sl none 1 false (f_.Relation.Y.map (V.int .i64)),.sl none 1 false (f_.Relation.Bases.map (fun (l:List Int)=>V.sl none 1 false (l.map (V.int .i64)))),.sl none 4 true (f_.L.map aw)]] (.str (di f_)) []:=
 Nk (ay f_+1) f_ hp0 hp1 (Nat.lt_succ_self _)
set_option maxHeartbeats 2000000 in
set_option maxRecDepth 100000 in
instance Sk (f_:aa):CM En (lv f_) 26 [.agg [.int .i64 f_.Kind,.sl none 1 false (f_.Relation.Y.map (V.int .i64)),.sl none 1 false (f_.Relation.Bases.map (fun (l:List Int)=>V.sl none 1 false (l.map (V.int .i64)))),.sl none 4 true (f_.L.map aw)]] (fun y=> .tup [.str y.1,.int .i64 y.2]) (fun _=> []):=by
 refine enQ noJ Tryz.func26 Tryz.ntmps26 (lv.eq_1 ..) fun r hw=> ?_
 refine aQ fun _ _ _ _=> ?_
 refine aW fun _ _ _=> ?_
 intro hF hM
 replace hM:=au hM;obtain ⟨x8,hx9,hM⟩:=hM
 have hcx8:=Nl f_ (by (first|exact (‹okT f_∧ay f_≤30∧okF f_›).1|exact (‹okT f_∧ay f_≤30∧okF f_›).2.1)) (by (first|exact (‹okT f_∧ay f_≤30∧okF f_›).1|exact (‹okT f_∧ay f_≤30∧okF f_›).2.1))
 rw [←hx9] at hcx8
 refine aV hcx8 clQ clQ (fun hw10=> ?_)
 replace hw10:=nzQ hw10
 exact auP
set_option maxHeartbeats 2000000 in
set_option maxRecDepth 100000 in
instance Sl (g:ak) (r_:aF) (k_:(List Int)):CM En (kq g r_ k_) 91 [.agg [.int .i64 g.P,.int .i64 g.Q,.int .i64 g.G],.agg [.sl none 1 false (r_.Y.map (V.int .i64)),.sl none 1 false (r_.Bases.map (fun (l:List Int)=>V.sl none 1 false (l.map (V.int .i64))))],.sl none 1 false (k_.map (V.int .i64))] (fun y=> .tup [.sl none 1 false (y.1.map (V.int .i64)),.int .i64 y.2]) (fun _=> []):=by
 refine enQ noJ Tryz.func91 Tryz.ntmps91 (kq.eq_1 ..) fun r hw=> ?_
 refine aQ fun _ _ _ _=> ?_
 refine aW fun _ _ _=> ?_
 intro hF hM
 replace hM:=au hM;obtain ⟨x7,hx8,hM⟩:=hM
 have hcx7:=cmH hx8 (yk g (r_.Bases) k_ (by (clear hM;have h9:=lE ‹_=fS _ _ _ _› (by omega);first|exact hJ h9.1 rfl h9.2|(have h8:=eJ h9.1;omega))) (by (clear hM;have h9:=lE ‹_=fS _ _ _ _› (by omega);first|exact hJ h9.1 rfl h9.2|(have h8:=eJ h9.1;omega))))
 refine aV hcx7 clQ clQ (fun hw9=> ?_)
 replace hw9:=nzQ hw9
 exact auP
instance (priority:=1029):DRD 1 12 6 [5,6,7,8,9,10] [] ([[],[0],[0,1],[0,1,2],[],[]]++[List.range 6,List.range 7]) []:=⟨trivial⟩
set_option maxHeartbeats 2000000 in
set_option maxRecDepth 100000 in
theorem Nm (p_:aa) (c0:ar) (c1:(List Int)) (hp0:okU c1.length p_):bp En 93 [.agg [.int .i64 p_.Kind,.sl none 1 false (p_.Relation.Y.map (V.int .i64)),.sl none 1 false (p_.Relation.Bases.map (fun (l:List Int)=>V.sl none 1 false (l.map (V.int .i64)))),.sl none 4 true (p_.L.map aw)],.ptr 0 0,.pp 1 false (.sl none 1 false (c1.map (V.int .i64)))] [.var 1 false (.ptr 1 0),.var 37 true ((bQ c0))] (.bool (od p_ c0 c1).1) [.var 1 false (.ptr 1 0),.var 37 true (bQ (od p_ c0 c1).2)] []:=by
 generalize hM:od p_ c0 c1=r
 rw [od.eq_1] at hM
 refine cE bc bA noJ Tryz.func93 rfl Tryz.ntmps93 (by kernel_rfl) rfl fun ks hw hwB=>bz ?_
 refine spQ ?_
 replace hw:=nzQ hw
 replace hwB:=nzB hwB
 have hF:=bT
 revert hM;revert hF
 refine slQ ?_
 intro hF hM
 replace hM:=au hM;obtain ⟨x1,hx2,hM⟩:=hM
 have hcx1:=yl none (c0.g) p_ c1 (by (exact hp0))
 rw [←hx2] at hcx1
 refine aV hcx1 clQ clQ (fun hw3=> ?_)
 replace hw3:=nzQ hw3
 revert hM;revert hF
 refine slQ ?_
 intro hF hM
 subst hM
 exact aU [0,1] lsQ (by decide) lsQ
set_option maxHeartbeats 2000000 in
set_option maxRecDepth 100000 in
theorem Nn (z0:Option Bool) (s_:(List aa)) (f__c0:ar) (f__c1:(List Int)) (hp0: ∀x∈s_,okU f__c1.length x):bp En 92 [.sl z0 4 true (s_.map aw),.fn 93 [.ptr 0 0,.pp 1 false (.sl none 1 false (f__c1.map (V.int .i64)))]] [.var 1 false (.ptr 1 0),.var 37 true ((bQ f__c0))] (.int .i64 (lw s_ f__c0 f__c1).1) [.var 1 false (.ptr 1 0),.var 37 true (bQ (lw s_ f__c0 f__c1).2)] []:=by
 generalize hM:lw s_ f__c0 f__c1=r
 rw [lw.eq_1] at hM
 refine cE bc bA noJ Tryz.func92 rfl Tryz.ntmps92 (by kernel_rfl) rfl fun ks hw hwB=>bz ?_
 refine spQ ?_
 replace hw:=nzQ hw
 replace hwB:=nzB hwB
 replace hM:=aS hM;obtain ⟨f1,d1,hf1,hd1,hM⟩:=hM
 refine bk (fun n S=> ∃p:Int×ar,S=(⟨[(0,.sl z0 4 true (s_.map aw)),(1,.fn 93 [.ptr 0 0,.pp 1 false (.sl none 1 false (f__c1.map (V.int .i64)))]),(7,.int .i64 (s_.length:Int)),(8,.int .i64 p.1)],[(0,.lent (ks 0) 1 false (.ptr 1 0)),(1,.lent (ks 1) 37 true ((bQ p.2)))],2⟩:St)∧((0≤p.1)∧(p.1≤(s_.length:Int)))∧((s_.length:Int) - p.1).toNat<n∧ah n f1 d1 p=r) (((s_.length:Int) - 0).toNat+1) _ sbQ sbQ ⟨(0,f__c0),rfl,⟨omQ,omQ⟩,(Nat.lt_succ_self _),hM⟩ ?_
 clear hM
 rintro n1 S ⟨p1,rfl,hfa1,hm1,hM⟩
 replace hM:=aT hM (by omega) hf1;obtain ⟨ag1,hag1,hM⟩:=hM
 replace hfa1:=nzQ hfa1
 replace hm1:=nzQ hm1
 have ha1:ao .i64 p1.1 1=p1.1+1:=bl omQ omQ
 have hF:=ha1
 revert hM;revert hF
 refine slQ ?_
 refine cdQ (fun _ _ _=> ?_) (fun _ _ _=> ?_)
 ·intro hF hM
  replace hM:=au hM;obtain ⟨x5,hx6,hM⟩:=hM
  have hcx5:=Nm (gt s_ p1.1) (p1.2) f__c1 (by (exact hp0 _ (aK (by omega))))
  rw [←hx6] at hcx5
  refine bL [0,1] hcx5 (by decide) (an hF) (an hF) (fun hw7=> ?_)
  replace hw7:=nzQ hw7
  revert hM;revert hF
  refine slQ ?_
  refine cdQ (fun _ _ _=> ?_) (fun _ _ _=> ?_)
  ·intro hF hM
   subst hM
   exact aU [0,1] (an hF) (by decide) (an hF)
  ·intro hF hM
   refine aP (n1 - 1) _ (by omega) sbQ sbQ ⟨((p1.1+1),x5.2),rfl,⟨omQ,omQ⟩,omQ,aN hM hag1⟩
 ·intro hF hM
  subst hM
  exact aU [0,1] (an hF) (by decide) (an hF)
instance (priority:=1030):DRD 12 129 5 [71,72,73,74,75] [] ([[],[],[],[2],[1,2,3]]++[List.range 5,List.range 6,List.range 7]) [(4,0)]:=⟨trivial⟩
instance (priority:=1031):DRD 14 129 21 [83,84,85,86,87,88,89,90,91,92,93,94,95,96,97,98,99,100,101,102] [] ([[],[],[],[2],[2,3],[2,3,4],[],[6],[],[8],[8,9],[8,9,10],[2,3,4,5,6,7,8,9,10,11],[2,3,4,5,6,7,8,9,10,11,12],[2,3,4,5,6,7,8,9,10,11,12,13],[2,3,4,5,6,7,8,9,10,11,12,13],[0],[0,16],[0,16,17],[0,16,17,18],[0,2,3,4,5,6,7,8,9,10,11,12,13,14,16,17,18,19]]++[List.range 21,List.range 22,List.range 23]) [(20,4)]:=⟨trivial⟩
instance (priority:=1032):DRD 19 129 11 [114,115,116,117,118,119,120,121,122,123,124] [] ([[],[],[1],[1,2],[1,2,3],[],[],[],[5,6,7],[5,6,7,8],[1,2,3,4,5,6,7,8,9]]++[List.range 11,List.range 12,List.range 13]) [(8,0),(10,5)]:=⟨trivial⟩
instance (priority:=1033):DRD 8 129 11 [38,39,40,41,42,43,44,45,46,47,48] [] ([[],[],[1],[1,2],[1,2,3],[],[],[],[5,6,7],[5,6,7,8],[1,2,3,4,5,6,7,8,9]]++[List.range 11,List.range 12,List.range 13]) [(8,0),(10,5)]:=⟨trivial⟩
instance (priority:=1034):DRD 9 129 15 [51,52,53,54,55,56,57,58,59,60,61,62,63,64,65] [] ([[],[],[1],[1,2],[1,2,3],[],[],[],[],[8],[6,7,8,9],[5,6,7,8,9,10],[5,6,7,8,9,10,11],[5,6,7,8,9,10,11,12],[1,2,3,4,5,6,7,8,9,10,11,12,13]]++[List.range 15,List.range 16,List.range 17]) [(9,0),(10,0),(11,18),(12,19),(14,5)]:=⟨trivial⟩
set_option maxHeartbeats 2000000 in
set_option maxRecDepth 100000 in
theorem Np (N:Nat) (ih: ∀(z2:Option Bool) (v:ar) (f_:aa) (x_:(List Int)),(okU x_.length f_)→(ay f_≤30)→(1≤v.g.Q)→ay f_<N→bp En 42 [.ptr 0 0,.agg [.int .i64 f_.Kind,.sl none 1 false (f_.Relation.Y.map (V.int .i64)),.sl none 1 false (f_.Relation.Bases.map (fun (l:List Int)=>V.sl none 1 false (l.map (V.int .i64)))),.sl none 4 true (f_.L.map aw)],.sl z2 1 false (x_.map (V.int .i64))] [.var 37 true ((bQ v))] (.pp 13 true (.agg [.int .i64 (aL v f_ x_).1.f.Kind,.sl none 1 false ((aL v f_ x_).1.f.Relation.Y.map (V.int .i64)),.sl none 1 false ((aL v f_ x_).1.f.Relation.Bases.map (fun (l:List Int)=>V.sl none 1 false (l.map (V.int .i64)))),.sl none 4 true ((aL v f_ x_).1.f.L.map aw),.int .i64 (aL v f_ x_).1.t.C,.sl none 1 false ((aL v f_ x_).1.t.P.A.map (V.int .i64)),.int .i64 (aL v f_ x_).1.t.P.C,.sl none 1 false ((aL v f_ x_).1.t.P.Z.map (V.int .i64)),.sl none 5 true ((aL v f_ x_).1.t.L.map bB),.sl none 1 false ((aL v f_ x_).1.k.map (V.int .i64)),.sl none 1 false ((aL v f_ x_).1.parts.map cH),.int .i64 (aL v f_ x_).1.chosen,.bool (aL v f_ x_).1.done])) [.var 37 true (bQ (aL v f_ x_).2)] []) (z2:Option Bool) (v:ar) (f_:aa) (x_:(List Int)) (hp0:okU x_.length f_) (hp1:ay f_≤30) (hp2:1≤v.g.Q) (hp_:ay f_<N+1):bp En 42 [.ptr 0 0,.agg [.int .i64 f_.Kind,.sl none 1 false (f_.Relation.Y.map (V.int .i64)),.sl none 1 false (f_.Relation.Bases.map (fun (l:List Int)=>V.sl none 1 false (l.map (V.int .i64)))),.sl none 4 true (f_.L.map aw)],.sl z2 1 false (x_.map (V.int .i64))] [.var 37 true ((bQ v))] (.pp 13 true (.agg [.int .i64 (eH v f_ x_).1.f.Kind,.sl none 1 false ((eH v f_ x_).1.f.Relation.Y.map (V.int .i64)),.sl none 1 false ((eH v f_ x_).1.f.Relation.Bases.map (fun (l:List Int)=>V.sl none 1 false (l.map (V.int .i64)))),.sl none 4 true ((eH v f_ x_).1.f.L.map aw),.int .i64 (eH v f_ x_).1.t.C,.sl none 1 false ((eH v f_ x_).1.t.P.A.map (V.int .i64)),.int .i64 (eH v f_ x_).1.t.P.C,.sl none 1 false ((eH v f_ x_).1.t.P.Z.map (V.int .i64)),.sl none 5 true ((eH v f_ x_).1.t.L.map bB),.sl none 1 false ((eH v f_ x_).1.k.map (V.int .i64)),.sl none 1 false ((eH v f_ x_).1.parts.map cH),.int .i64 (eH v f_ x_).1.chosen,.bool (eH v f_ x_).1.done])) [.var 37 true (bQ (eH v f_ x_).2)] []:=by
 generalize hM:eH v f_ x_=r
 rw [eH.eq_1] at hM
 refine cE bc bA [2] Tryz.func42 rfl Tryz.ntmps42 (by kernel_rfl) rfl fun ks hw hwB=>bz ?_
 refine spQ ?_
 replace hw:=nzQ hw
 replace hwB:=nzB hwB
 have h0_0:=tA hp1
 refine kW ?_
 have hF:=bT
 revert hM;revert hF
 refine slQ ?_
 intro hF hM
 refine j4 _ (⟨[(0,.ptr 0 0),(3,.ptr 1 0),(4,.ptr 2 0),(5,.pp 1 false (.sl z2 1 false (x_.map (V.int .i64)))),(7,.ptr 4 0)],[(0,.lent (ks 0) 37 true ((bQ v))),(1,.var 1 false (.ptr 0 0)),(2,.var 4 true (.agg [.int .i64 f_.Kind,.sl none 1 false (f_.Relation.Y.map (V.int .i64)),.sl none 1 false (f_.Relation.Bases.map (fun (l:List Int)=>V.sl none 1 false (l.map (V.int .i64)))),.sl none 4 true (f_.L.map aw)])),(3,.pvar 1 false (.sl z2 1 false (x_.map (V.int .i64)))),(4,.var 13 true (.agg [.int .i64 f_.Kind,.sl none 1 false (f_.Relation.Y.map (V.int .i64)),.sl none 1 false (f_.Relation.Bases.map (fun (l:List Int)=>V.sl none 1 false (l.map (V.int .i64)))),.sl none 4 true (f_.L.map aw),.int .i64 0,.sl (some true) 1 false [],.int .i64 0,.sl (some true) 1 false [],.sl (some true) 5 true [],.sl (some true) 1 false [],.sl (some true) 1 false [],.int .i64 0,.bool false]))],5⟩:St) ((mi (S:=⟨_,_,_⟩) 3 (n:=1) (g:=false) (d:= .sl z2 1 false (x_.map (V.int .i64))) clQ clQ).trans (oq (S:=⟨_,_,_⟩) 5 3 (n:=1) (g:=false) (d:= .sl z2 1 false (x_.map (V.int .i64))) clQ clQ)) sbQ sbQ ?_
 revert hM;revert hF
 refine slQ ?_
 refine cdQ (fun _ _ _=> ?_) (fun _ _ _=> ?_)
 ·intro hF hM
  replace hM:=au hM;obtain ⟨x3,hx4,hM⟩:=hM
  have hcx3:=oz f_ (by (exact mR hp0))
  rw [←hx4] at hcx3
  refine cN hcx3 clQ clQ ?_
  revert hM;revert hF
  refine slQ ?_
  intro hF hM
  replace hM:=au hM;obtain ⟨x5,hx6,hM⟩:=hM
  have hcx5:=DK v x3
  rw [←hx6] at hcx5
  refine iv 0 hcx5 rfl rfl lsQ lsQ lsQ lsQ lsQ ?_
  revert hM;revert hF
  refine slQ ?_
  have hq7:=Dy hx6
  replace hq7:=nzQ hq7
  refine cdQ (fun _ _ _=> ?_) (fun _ _ _=> ?_)
  ·refine aQ fun _ _ _ _=> ?_
   intro hF hM
   subst hM
   exact aU [0] (an hF) (by decide) (an hF)
  ·intro hF hM
   subst hM
   exact aU [0] (an hF) (by decide) (an hF)
 ·refine cdQ (fun _ _ _=> ?_) (fun _ _ _=> ?_)
  ·intro hF hM
   replace hM:=aS hM;obtain ⟨f16,d16,hf16,hd16,hM⟩:=hM
   refine eN (fun n S=> ∃p:Int×ar×List aG,S=(⟨[(0,.ptr 0 0),(3,.ptr 1 0),(5,.pp 1 false (.sl z2 1 false (x_.map (V.int .i64)))),(7,.ptr 4 0),(108,.sl none 4 true (f_.L.map aw)),(109,.int .i64 (f_.L.length:Int)),(110,.int .i64 p.1)],[(0,.lent (ks 0) 37 true ((bQ p.2.1))),(1,.var 1 false (.ptr 0 0)),(4,.var 13 true (.agg [.int .i64 f_.Kind,.sl none 1 false (f_.Relation.Y.map (V.int .i64)),.sl none 1 false (f_.Relation.Bases.map (fun (l:List Int)=>V.sl none 1 false (l.map (V.int .i64)))),.sl none 4 true (f_.L.map aw),.int .i64 0,.sl (some true) 1 false [],.int .i64 0,.sl (some true) 1 false [],.sl (some true) 5 true [],.sl (some true) 1 false [],.own 5,.int .i64 0,.bool false])),(5,.own 82 1 false none (p.2.2.map cH))],6⟩:St)∧((0≤p.1)∧(p.1≤(f_.L.length:Int))∧((p.2.1).g.Q=v.g.Q)∧(((p.2.2).length:Int)≤p.1))∧((f_.L.length:Int) - p.1).toNat<n∧ah n f16 d16 p=r) (((f_.L.length:Int) - 0).toNat+1) _ _ (j_ 4 10 82 rfl rfl (by decide)) sbQ sbQ ⟨(0,v,([]:List aG)),rfl,⟨omQ,omQ,omQ,omQ⟩,(Nat.lt_succ_self _),hM⟩ ?_
   clear hM
   rintro n16 S ⟨p16,rfl,hfa16,hm16,hM⟩
   replace hM:=aT hM (by omega) hf16;obtain ⟨ag16,hag16,hM⟩:=hM
   replace hfa16:=nzQ hfa16
   replace hm16:=nzQ hm16
   have ha16:ao .i64 p16.1 1=p16.1+1:=bl omQ omQ
   replace hF:=(And.intro ha16 hF)
   revert hM;revert hF
   refine slQ ?_
   refine cdQ (fun _ _ _=> ?_) (fun _ _ _=> ?_)
   ·intro hF hM
    replace hM:=au hM;obtain ⟨x20,hx21,hM⟩:=hM
    have hcx20:=ih z2 (p16.2.1) (gt f_.L p16.1) x_ (by (first|exact dP hp_ (by omega)|exact eI hp0 (by assumption) (aK (by omega))|exact fp hp1 (by omega)|omega)) (by (first|exact dP hp_ (by omega)|exact eI hp0 (by assumption) (aK (by omega))|exact fp hp1 (by omega)|omega)) (by (first|exact dP hp_ (by omega)|exact eI hp0 (by assumption) (aK (by omega))|exact fp hp1 (by omega)|omega)) (by (exact dP hp_ (by omega)))
    rw [←hx21] at hcx20
    refine iv 0 hcx20 rfl rfl (an hF) (an hF) (an hF) (an hF) (an hF) ?_
    revert hM;revert hF
    refine slQ ?_
    have hq22:=tK hx21 (eI hp0 (by assumption) (aK (by omega)))
    replace hq22:=nzQ hq22
    refine slQ ?_
    intro hF hM
    refine wz (n16 - 1) _ _ (by omega) ((wy (S:=⟨_,_,_⟩) 17 (z':=(some false)) (m:=(p16.2.2++([x20.1]:List aG)).map cH) rfl sbQ sbQ).trans (yb (S:=⟨_,_,_⟩) 4 10 5 17 (T:=82) (n:=1) (g:=false) (z:=(some false)) (m:=(p16.2.2++([x20.1]:List aG)).map cH) rfl rfl rfl (by first|decide|(dsimp only;decide)) (by decide) (by decide))) sbQ sbQ ⟨((p16.1+1),x20.2,(p16.2.2++([x20.1]:List aG))),rfl,⟨omQ,omQ,omQ,omQ⟩,omQ,aN hM hag16⟩
   ·intro hF hM
    subst hM
    exact aU [0] (an hF) (by decide) (an hF)
  ·intro hF hM
   replace hM:=au hM;obtain ⟨x25,hx26,hM⟩:=hM
   have hcx25:=Nn none (f_.L) v x_ (by (exact fun y hy=>eI hp0 (by assumption) hy))
   rw [←hx26] at hcx25
   refine bL [1,0] hcx25 (by decide) lsQ lsQ (fun hw27=> ?_)
   replace hw27:=nzQ hw27
   revert hM;revert hF
   refine slQ ?_
   have hq28:=Mh hx26
   replace hq28:=nzQ hq28
   intro hF hM
   replace hM:=aS hM;obtain ⟨f29,d29,hf29,hd29,hM⟩:=hM
   refine eN (fun n S=> ∃p:Int×ar×List aG,S=(⟨[(0,.ptr 0 0),(3,.ptr 1 0),(5,.pp 1 false (.sl z2 1 false (x_.map (V.int .i64)))),(7,.ptr 4 0),(25,.sl none 4 true (f_.L.map aw)),(26,.int .i64 (f_.L.length:Int)),(27,.int .i64 p.1)],[(0,.lent (ks 0) 37 true ((bQ p.2.1))),(1,.var 1 false (.ptr 0 0)),(4,.var 13 true (.agg [.int .i64 f_.Kind,.sl none 1 false (f_.Relation.Y.map (V.int .i64)),.sl none 1 false (f_.Relation.Bases.map (fun (l:List Int)=>V.sl none 1 false (l.map (V.int .i64)))),.sl none 4 true (f_.L.map aw),.int .i64 0,.sl (some true) 1 false [],.int .i64 0,.sl (some true) 1 false [],.sl (some true) 5 true [],.sl (some true) 1 false [],.own 5,.int .i64 x25.1,.bool false])),(5,.own 82 1 false none (p.2.2.map cH))],6⟩:St)∧((0≤p.1)∧(p.1≤(f_.L.length:Int))∧((p.2.1).g.Q=v.g.Q)∧(((p.2.2).length:Int)≤p.1))∧((f_.L.length:Int) - p.1).toNat<n∧ah n f29 d29 p=r) (((f_.L.length:Int) - 0).toNat+1) _ _ (j_ 4 10 82 rfl rfl (by decide)) sbQ sbQ ⟨(0,x25.2,([]:List aG)),rfl,⟨omQ,omQ,omQ,omQ⟩,(Nat.lt_succ_self _),hM⟩ ?_
   clear hM
   rintro n29 S ⟨p29,rfl,hfa29,hm29,hM⟩
   replace hM:=aT hM (by omega) hf29;obtain ⟨ag29,hag29,hM⟩:=hM
   replace hfa29:=nzQ hfa29
   replace hm29:=nzQ hm29
   have ha29:ao .i64 p29.1 1=p29.1+1:=bl omQ omQ
   replace hF:=(And.intro ha29 hF)
   revert hM;revert hF
   refine slQ ?_
   refine cdQ (fun _ _ _=> ?_) (fun _ _ _=> ?_)
   ·refine cdQ (fun _ _ _=> ?_) (fun _ _ _=> ?_)
    ·intro hF hM
     replace hM:=au hM;obtain ⟨x35,hx36,hM⟩:=hM
     have hcx35:=ih z2 (p29.2.1) (gt f_.L p29.1) x_ (by (first|exact dP hp_ (by omega)|exact eI hp0 (by assumption) (aK (by omega))|exact fp hp1 (by omega)|omega)) (by (first|exact dP hp_ (by omega)|exact eI hp0 (by assumption) (aK (by omega))|exact fp hp1 (by omega)|omega)) (by (first|exact dP hp_ (by omega)|exact eI hp0 (by assumption) (aK (by omega))|exact fp hp1 (by omega)|omega)) (by (exact dP hp_ (by omega)))
     rw [←hx36] at hcx35
     refine iv 0 hcx35 rfl rfl (an hF) (an hF) (an hF) (an hF) (an hF) ?_
     revert hM;revert hF
     refine slQ ?_
     have hq37:=tK hx36 (eI hp0 (by assumption) (aK (by omega)))
     replace hq37:=nzQ hq37
     refine slQ ?_
     intro hF hM
     refine wz (n29 - 1) _ _ (by omega) ((wy (S:=⟨_,_,_⟩) 17 (z':=(some false)) (m:=(p29.2.2++([x35.1]:List aG)).map cH) rfl sbQ sbQ).trans (yb (S:=⟨_,_,_⟩) 4 10 5 17 (T:=82) (n:=1) (g:=false) (z:=(some false)) (m:=(p29.2.2++([x35.1]:List aG)).map cH) rfl rfl rfl (by first|decide|(dsimp only;decide)) (by decide) (by decide))) sbQ sbQ ⟨((p29.1+1),x35.2,(p29.2.2++([x35.1]:List aG))),rfl,⟨omQ,omQ,omQ,omQ⟩,omQ,aN hM hag29⟩
    ·intro hF hM
     replace hM:=au hM;obtain ⟨x39,hx40,hM⟩:=hM
     have hcx39:=DM (p29.2.1)
     rw [←hx40] at hcx39
     refine iv 0 hcx39 rfl rfl (an hF) (an hF) (an hF) (an hF) (an hF) ?_
     revert hM;revert hF
     refine slQ ?_
     have hq41:=Dx hx40
     replace hq41:=nzQ hq41
     intro hF hM
     replace hM:=au hM;obtain ⟨x42,hx43,hM⟩:=hM
     have hcx42:=DN (x39.2) (gt f_.L p29.1) (x39.1) (by (first|exact mR (eI hp0 (by assumption) (aK (by omega)))|exact fp hp1 (by omega)|omega)) (by (first|exact mR (eI hp0 (by assumption) (aK (by omega)))|exact fp hp1 (by omega)|omega)) (by (first|exact mR (eI hp0 (by assumption) (aK (by omega)))|exact fp hp1 (by omega)|omega))
     rw [←hx43] at hcx42
     refine iv 0 hcx42 rfl rfl (an hF) (an hF) (an hF) (an hF) (an hF) ?_
     revert hM;revert hF
     refine slQ ?_
     have hq44:=yg hx43
     replace hq44:=nzQ hq44
     refine slQ ?_
     intro hF hM
     refine wz (n29 - 1) _ _ (by omega) ((wy (S:=⟨_,_,_⟩) 21 (z':=(some false)) (m:=(p29.2.2++([({f:=(gt f_.L p29.1),t:=x42.1,k:=([]:List Int),parts:=([]:List aG),chosen:=0,done:=true}:aG)]:List aG)).map cH) rfl sbQ sbQ).trans (yb (S:=⟨_,_,_⟩) 4 10 5 21 (T:=82) (n:=1) (g:=false) (z:=(some false)) (m:=(p29.2.2++([({f:=(gt f_.L p29.1),t:=x42.1,k:=([]:List Int),parts:=([]:List aG),chosen:=0,done:=true}:aG)]:List aG)).map cH) rfl rfl rfl (by first|decide|(dsimp only;decide)) (by decide) (by decide))) sbQ sbQ ⟨((p29.1+1),x42.2,(p29.2.2++([({f:=(gt f_.L p29.1),t:=x42.1,k:=([]:List Int),parts:=([]:List aG),chosen:=0,done:=true}:aG)]:List aG))),rfl,⟨omQ,omQ,omQ,omQ⟩,omQ,aN hM hag29⟩
   ·intro hF hM
    subst hM
    exact aU [0] (an hF) (by decide) (an hF)
theorem Nq: ∀(N:Nat) (z2:Option Bool) (v:ar) (f_:aa) (x_:(List Int)),(okU x_.length f_)→(ay f_≤30)→(1≤v.g.Q)→ay f_<N→bp En 42 [.ptr 0 0,.agg [.int .i64 f_.Kind,.sl none 1 false (f_.Relation.Y.map (V.int .i64)),.sl none 1 false (f_.Relation.Bases.map (fun (l:List Int)=>V.sl none 1 false (l.map (V.int .i64)))),.sl none 4 true (f_.L.map aw)],.sl z2 1 false (x_.map (V.int .i64))] [.var 37 true ((bQ v))] (.pp 13 true (.agg [.int .i64 (aL v f_ x_).1.f.Kind,.sl none 1 false ((aL v f_ x_).1.f.Relation.Y.map (V.int .i64)),.sl none 1 false ((aL v f_ x_).1.f.Relation.Bases.map (fun (l:List Int)=>V.sl none 1 false (l.map (V.int .i64)))),.sl none 4 true ((aL v f_ x_).1.f.L.map aw),.int .i64 (aL v f_ x_).1.t.C,.sl none 1 false ((aL v f_ x_).1.t.P.A.map (V.int .i64)),.int .i64 (aL v f_ x_).1.t.P.C,.sl none 1 false ((aL v f_ x_).1.t.P.Z.map (V.int .i64)),.sl none 5 true ((aL v f_ x_).1.t.L.map bB),.sl none 1 false ((aL v f_ x_).1.k.map (V.int .i64)),.sl none 1 false ((aL v f_ x_).1.parts.map cH),.int .i64 (aL v f_ x_).1.chosen,.bool (aL v f_ x_).1.done])) [.var 37 true (bQ (aL v f_ x_).2)] []:=by
 intro N
 induction N with
 | zero=>intro z2 v f_ x_ h0 h1 h2 h;exact absurd h (Nat.not_lt_zero _)
 | succ N ih=>
  intro z2 v f_ x_ h0 h1 h2 h
  have h9:=Np N ih z2 v f_ x_ h0 h1 h2 h
  rw [LZ] at h9
  exact h9
theorem Nr (z2:Option Bool) (v:ar) (f_:aa) (x_:(List Int)) (hp0:okU x_.length f_) (hp1:ay f_≤30) (hp2:1≤v.g.Q):bp En 42 [.ptr 0 0,.agg [.int .i64 f_.Kind,.sl none 1 false (f_.Relation.Y.map (V.int .i64)),.sl none 1 false (f_.Relation.Bases.map (fun (l:List Int)=>V.sl none 1 false (l.map (V.int .i64)))),.sl none 4 true (f_.L.map aw)],.sl z2 1 false (x_.map (V.int .i64))] [.var 37 true ((bQ v))] (.pp 13 true (.agg [.int .i64 (aL v f_ x_).1.f.Kind,.sl none 1 false ((aL v f_ x_).1.f.Relation.Y.map (V.int .i64)),.sl none 1 false ((aL v f_ x_).1.f.Relation.Bases.map (fun (l:List Int)=>V.sl none 1 false (l.map (V.int .i64)))),.sl none 4 true ((aL v f_ x_).1.f.L.map aw),.int .i64 (aL v f_ x_).1.t.C,.sl none 1 false ((aL v f_ x_).1.t.P.A.map (V.int .i64)),.int .i64 (aL v f_ x_).1.t.P.C,.sl none 1 false ((aL v f_ x_).1.t.P.Z.map (V.int .i64)),.sl none 5 true ((aL v f_ x_).1.t.L.map bB),.sl none 1 false ((aL v f_ x_).1.k.map (V.int .i64)),.sl none 1 false ((aL v f_ x_).1.parts.map cH),.int .i64 (aL v f_ x_).1.chosen,.bool (aL v f_ x_).1.done])) [.var 37 true (bQ (aL v f_ x_).2)] []:=
 Nq (ay f_+1) z2 v f_ x_ hp0 hp1 hp2 (Nat.lt_succ_self _)
instance (priority:=1035):DRD 7 34 8 [23,24,25,26,27,28,29,30] [] ([[],[],[],[2],[],[2,3,4],[2,3,4,5],[1,2,3,4,5,6]]++[List.range 8,List.range 9]) []:=⟨trivial⟩
set_option maxHeartbeats 2000000 in
set_option maxRecDepth 100000 in
theorem Ns (N:Nat) (ih: ∀(f_:aa) (t:av),(shp f_ t)→(ay f_≤30)→ay f_<N→aI En 28 [.agg [.int .i64 f_.Kind,.sl none 1 false (f_.Relation.Y.map (V.int .i64)),.sl none 1 false (f_.Relation.Bases.map (fun (l:List Int)=>V.sl none 1 false (l.map (V.int .i64)))),.sl none 4 true (f_.L.map aw)],.agg [.int .i64 t.C,.sl none 1 false (t.P.A.map (V.int .i64)),.int .i64 t.P.C,.sl none 1 false (t.P.Z.map (V.int .i64)),.sl none 5 true (t.L.map bB)]] (.sl none 1 false ((dv f_ t).map (fun (l:List Int)=>V.sl none 1 false (l.map (V.int .i64))))) []) (f_:aa) (t:av) (hp0:shp f_ t) (hp1:ay f_≤30) (hp_:ay f_<N+1):aI En 28 [.agg [.int .i64 f_.Kind,.sl none 1 false (f_.Relation.Y.map (V.int .i64)),.sl none 1 false (f_.Relation.Bases.map (fun (l:List Int)=>V.sl none 1 false (l.map (V.int .i64)))),.sl none 4 true (f_.L.map aw)],.agg [.int .i64 t.C,.sl none 1 false (t.P.A.map (V.int .i64)),.int .i64 t.P.C,.sl none 1 false (t.P.Z.map (V.int .i64)),.sl none 5 true (t.L.map bB)]] (.sl none 1 false ((qd f_ t).map (fun (l:List Int)=>V.sl none 1 false (l.map (V.int .i64))))) []:=by
 generalize hM:qd f_ t=r
 rw [qd.eq_1] at hM
 refine ci bc bA noJ Tryz.func28 rfl Tryz.ntmps28 (by kernel_rfl) fun hw=>bz ?_
 refine spQ ?_
 replace hw:=nzQ hw
 have h0_0:=LJ hp0
 have h0_1:=tA hp1
 have hF:=bT
 revert hM;revert hF
 refine aW fun _ _ _=> ?_
 intro hF hM
 replace hM:=aS hM;obtain ⟨f4,d4,hf4,hd4,hM⟩:=hM
 refine eN (fun n S=> ∃p:Int×List (List Int),S=(⟨[(3,.ptr 1 0),(5,.own 2),(16,.sl none 4 true (f_.L.map aw)),(17,.int .i64 (f_.L.length:Int)),(18,.int .i64 p.1)],[(1,.var 5 true (.agg [.int .i64 t.C,.sl none 1 false (t.P.A.map (V.int .i64)),.int .i64 t.P.C,.sl none 1 false (t.P.Z.map (V.int .i64)),.sl none 5 true (t.L.map bB)])),(2,.own 24 1 false none (p.2.map (fun (l:List Int)=>V.sl none 1 false (l.map (V.int .i64)))))],3⟩:St)∧((0≤p.1)∧(p.1≤(f_.L.length:Int))∧(0≤p.1)∧(p.1≤(f_.L.length:Int))∧(((p.2).length:Int)≤30*p.1))∧((f_.L.length:Int) - p.1).toNat<n∧ah n f4 d4 p=r) (((f_.L.length:Int) - 0).toNat+1) _ _ (jZ 5 24 rfl (by decide)) sbQ sbQ ⟨(0,([]:List (List Int))),rfl,⟨omQ,omQ,omQ,omQ,omQ⟩,(Nat.lt_succ_self _),hM⟩ ?_
 clear hM
 rintro n4 S ⟨p4,rfl,hfa4,hm4,hM⟩
 replace hM:=aT hM (by omega) hf4;obtain ⟨ag4,hag4,hM⟩:=hM
 replace hfa4:=nzQ hfa4
 replace hm4:=nzQ hm4
 have ha4:ao .i64 p4.1 1=p4.1+1:=bl omQ omQ
 replace hF:=(And.intro ha4 hF)
 revert hM;revert hF
 refine slQ ?_
 refine aE fun _ _ _=> ?_
 intro hF hM
 replace hM:=au hM;obtain ⟨x9,hx10,hM⟩:=hM
 have hcx9:=ih (gt f_.L p4.1) (gt t.L p4.1) (by (first|exact xW hp0 (by assumption) (by omega) (by omega)|(have h9:=cU (f:=f_) (aK (l:=f_.L) (i:=p4.1) (by omega));omega))) (by (first|exact xW hp0 (by assumption) (by omega) (by omega)|(have h9:=cU (f:=f_) (aK (l:=f_.L) (i:=p4.1) (by omega));omega))) (by (have h9:=cU (f:=f_) (aK (l:=f_.L) (i:=p4.1) (by omega));omega))
 rw [←hx10] at hcx9
 refine cN hcx9 (aD hF) (aD hF) ?_
 revert hM;revert hF
 refine slQ ?_
 have hq11:=Da hx10 (xW hp0 (by assumption) (by omega) (by omega)) (fp hp1 (by omega))
 replace hq11:=nzQ hq11
 refine slQ ?_
 intro hF hM
 refine aP (n4 - 1) _ (by omega) sbQ sbQ ⟨((p4.1+1),(p4.2++x9)),rfl,⟨omQ,omQ,omQ,omQ,omQ⟩,omQ,aN hM hag4⟩
theorem Nt: ∀(N:Nat) (f_:aa) (t:av),(shp f_ t)→(ay f_≤30)→ay f_<N→aI En 28 [.agg [.int .i64 f_.Kind,.sl none 1 false (f_.Relation.Y.map (V.int .i64)),.sl none 1 false (f_.Relation.Bases.map (fun (l:List Int)=>V.sl none 1 false (l.map (V.int .i64)))),.sl none 4 true (f_.L.map aw)],.agg [.int .i64 t.C,.sl none 1 false (t.P.A.map (V.int .i64)),.int .i64 t.P.C,.sl none 1 false (t.P.Z.map (V.int .i64)),.sl none 5 true (t.L.map bB)]] (.sl none 1 false ((dv f_ t).map (fun (l:List Int)=>V.sl none 1 false (l.map (V.int .i64))))) []:=by
 intro N
 induction N with
 | zero=>intro f_ t h0 h1 h;exact absurd h (Nat.not_lt_zero _)
 | succ N ih=>
  intro f_ t h0 h1 h
  have h9:=Ns N ih f_ t h0 h1 h
  rw [LG] at h9
  exact h9
theorem DP (f_:aa) (t:av) (hp0:shp f_ t) (hp1:ay f_≤30):aI En 28 [.agg [.int .i64 f_.Kind,.sl none 1 false (f_.Relation.Y.map (V.int .i64)),.sl none 1 false (f_.Relation.Bases.map (fun (l:List Int)=>V.sl none 1 false (l.map (V.int .i64)))),.sl none 4 true (f_.L.map aw)],.agg [.int .i64 t.C,.sl none 1 false (t.P.A.map (V.int .i64)),.int .i64 t.P.C,.sl none 1 false (t.P.Z.map (V.int .i64)),.sl none 5 true (t.L.map bB)]] (.sl none 1 false ((dv f_ t).map (fun (l:List Int)=>V.sl none 1 false (l.map (V.int .i64))))) []:=
 Nt (ay f_+1) f_ t hp0 hp1 (Nat.lt_succ_self _)
instance (priority:=1036):DRD 2 47 8 [10,11,12,13,14,15,16,17] [] ([[],[0],[0,1],[0,1,2],[],[4],[4,5],[4,5,6]]++[List.range 8,List.range 9]) []:=⟨trivial⟩
set_option maxHeartbeats 2000000 in
set_option maxRecDepth 100000 in
theorem Nu (N:Nat) (ih: ∀(w:aG),(∃n,okW n w w.f)→(ay w.f≤30)→fD w<N→aI En 43 [.pp 13 true (.agg [.int .i64 w.f.Kind,.sl none 1 false (w.f.Relation.Y.map (V.int .i64)),.sl none 1 false (w.f.Relation.Bases.map (fun (l:List Int)=>V.sl none 1 false (l.map (V.int .i64)))),.sl none 4 true (w.f.L.map aw),.int .i64 w.t.C,.sl none 1 false (w.t.P.A.map (V.int .i64)),.int .i64 w.t.P.C,.sl none 1 false (w.t.P.Z.map (V.int .i64)),.sl none 5 true (w.t.L.map bB),.sl none 1 false (w.k.map (V.int .i64)),.sl none 1 false (w.parts.map cH),.int .i64 w.chosen,.bool w.done])] (.sl none 1 false ((dj w).map (fun (l:List Int)=>V.sl none 1 false (l.map (V.int .i64))))) []) (w:aG) (hp0: ∃n,okW n w w.f) (hp1:ay w.f≤30) (hp_:fD w<N+1):aI En 43 [.pp 13 true (.agg [.int .i64 w.f.Kind,.sl none 1 false (w.f.Relation.Y.map (V.int .i64)),.sl none 1 false (w.f.Relation.Bases.map (fun (l:List Int)=>V.sl none 1 false (l.map (V.int .i64)))),.sl none 4 true (w.f.L.map aw),.int .i64 w.t.C,.sl none 1 false (w.t.P.A.map (V.int .i64)),.int .i64 w.t.P.C,.sl none 1 false (w.t.P.Z.map (V.int .i64)),.sl none 5 true (w.t.L.map bB),.sl none 1 false (w.k.map (V.int .i64)),.sl none 1 false (w.parts.map cH),.int .i64 w.chosen,.bool w.done])] (.sl none 1 false ((qe w).map (fun (l:List Int)=>V.sl none 1 false (l.map (V.int .i64))))) []:=by
 generalize hM:qe w=r
 rw [qe.eq_1] at hM
 refine ci bc bA noJ Tryz.func43 rfl Tryz.ntmps43 (by kernel_rfl) fun hw=>bz ?_
 refine spQ ?_
 replace hw:=nzQ hw
 have hF:=bT
 revert hM;revert hF
 refine cdQ (fun _ _ _=> ?_) (fun _ _ _=> ?_)
 ·intro hF hM
  replace hM:=au hM;obtain ⟨x3,hx4,hM⟩:=hM
  have hcx3:=DP (w.f) (w.t) (by (first|(obtain ⟨n,h9⟩:=hp0;exact Dp h9 (by assumption))|exact hp1)) (by (first|(obtain ⟨n,h9⟩:=hp0;exact Dp h9 (by assumption))|exact hp1))
  rw [←hx4] at hcx3
  refine aV hcx3 clQ clQ (fun hw5=> ?_)
  replace hw5:=nzQ hw5
  exact auP
 ·refine aW fun _ _ _=> ?_
  intro hF hM
  replace hM:=aS hM;obtain ⟨f10,d10,hf10,hd10,hM⟩:=hM
  refine eN (fun n S=> ∃p:Int×List (List Int),S=(⟨[(3,.own 0),(35,.sl none 1 false (w.parts.map cH)),(36,.int .i64 (w.parts.length:Int)),(37,.int .i64 p.1)],[(0,.own 24 1 false none (p.2.map (fun (l:List Int)=>V.sl none 1 false (l.map (V.int .i64)))))],1⟩:St)∧(((0≤p.1)∧(p.1≤(w.parts.length:Int))∧(0≤p.1)∧(p.1≤(w.parts.length:Int))∧(((p.2).length:Int)≤30*p.1))∧((w.parts.length:Int)≤30))∧((w.parts.length:Int) - p.1).toNat<n∧ah n f10 d10 p=r) (((w.parts.length:Int) - 0).toNat+1) _ _ (jZ 3 24 rfl (by decide)) sbQ sbQ ⟨(0,([]:List (List Int))),rfl,⟨⟨omQ,omQ,omQ,omQ,omQ⟩,by (have h97:=Mi hp0 hp1 (by assumption) (by assumption);omega)⟩,(Nat.lt_succ_self _),hM⟩ ?_
  clear hM
  rintro n10 S ⟨p10,rfl,⟨hfa10,hF7_0⟩,hm10,hM⟩
  replace hM:=aT hM (by omega) hf10;obtain ⟨ag10,hag10,hM⟩:=hM
  replace hfa10:=nzQ hfa10
  replace hm10:=nzQ hm10
  have ha10:ao .i64 p10.1 1=p10.1+1:=bl omQ omQ
  replace hF:=(And.intro ha10 hF)
  revert hM;revert hF
  refine slQ ?_
  refine aE fun _ _ _=> ?_
  intro hF hM
  replace hM:=au hM;obtain ⟨x14,hx15,hM⟩:=hM
  have hcx14:=ih (gt w.parts p10.1) (by (first|exact ku hp_ (by omega)|exact (ox hp0 hp1 (by assumption) (by assumption) (by omega)).1|exact (ox hp0 hp1 (by assumption) (by assumption) (by omega)).2)) (by (first|exact ku hp_ (by omega)|exact (ox hp0 hp1 (by assumption) (by assumption) (by omega)).1|exact (ox hp0 hp1 (by assumption) (by assumption) (by omega)).2)) (by (exact ku hp_ (by omega)))
  rw [←hx15] at hcx14
  refine aV hcx14 (aD hF) (aD hF) (fun hw16=> ?_)
  replace hw16:=nzQ hw16
  revert hM;revert hF
  refine slQ ?_
  have hq17:=(qu hx15 (ox hp0 hp1 (by assumption) (by assumption) (by omega)).1 (ox hp0 hp1 (by assumption) (by assumption) (by omega)).2).1
  replace hq17:=nzQ hq17
  refine slQ ?_
  intro hF hM
  refine aP (n10 - 1) _ (by omega) sbQ sbQ ⟨((p10.1+1),(p10.2++x14)),rfl,⟨⟨omQ,omQ,omQ,omQ,omQ⟩,by (omega)⟩,omQ,aN hM hag10⟩
theorem Nv: ∀(N:Nat) (w:aG),(∃n,okW n w w.f)→(ay w.f≤30)→fD w<N→aI En 43 [.pp 13 true (.agg [.int .i64 w.f.Kind,.sl none 1 false (w.f.Relation.Y.map (V.int .i64)),.sl none 1 false (w.f.Relation.Bases.map (fun (l:List Int)=>V.sl none 1 false (l.map (V.int .i64)))),.sl none 4 true (w.f.L.map aw),.int .i64 w.t.C,.sl none 1 false (w.t.P.A.map (V.int .i64)),.int .i64 w.t.P.C,.sl none 1 false (w.t.P.Z.map (V.int .i64)),.sl none 5 true (w.t.L.map bB),.sl none 1 false (w.k.map (V.int .i64)),.sl none 1 false (w.parts.map cH),.int .i64 w.chosen,.bool w.done])] (.sl none 1 false ((dj w).map (fun (l:List Int)=>V.sl none 1 false (l.map (V.int .i64))))) []:=by
 intro N
 induction N with
 | zero=>intro w h0 h1 h;exact absurd h (Nat.not_lt_zero _)
 | succ N ih=>
  intro w h0 h1 h
  have h9:=Nu N ih w h0 h1 h
  rw [LR] at h9
  exact h9
theorem Nw (w:aG) (hp0: ∃n,okW n w w.f) (hp1:ay w.f≤30):aI En 43 [.pp 13 true (.agg [.int .i64 w.f.Kind,.sl none 1 false (w.f.Relation.Y.map (V.int .i64)),.sl none 1 false (w.f.Relation.Bases.map (fun (l:List Int)=>V.sl none 1 false (l.map (V.int .i64)))),.sl none 4 true (w.f.L.map aw),.int .i64 w.t.C,.sl none 1 false (w.t.P.A.map (V.int .i64)),.int .i64 w.t.P.C,.sl none 1 false (w.t.P.Z.map (V.int .i64)),.sl none 5 true (w.t.L.map bB),.sl none 1 false (w.k.map (V.int .i64)),.sl none 1 false (w.parts.map cH),.int .i64 w.chosen,.bool w.done])] (.sl none 1 false ((dj w).map (fun (l:List Int)=>V.sl none 1 false (l.map (V.int .i64))))) []:=
 Nv (fD w+1) w hp0 hp1 (Nat.lt_succ_self _)
set_option maxHeartbeats 2000000 in
set_option maxRecDepth 100000 in
instance Sm (t:cc):CM En (td t) 120 [(iw t)] (fun y=> .bool y) (fun _=> []):=by
 refine enQ noJ Tryz.func120 Tryz.ntmps120 (td.eq_1 ..) fun r hw=> ?_
 exact auR
set_option maxHeartbeats 2000000 in
set_option maxRecDepth 100000 in
theorem Nx (N:Nat) (ih: ∀(i_:aJ) (depth:Int),hgt i_<N→aI En 212 [.agg [.int .i64 i_.Kind,.int .i64 i_.N,.sl none 1 false (i_.B.map (V.int .u8)),.sl none 4 true (i_.L.map cO)],.int .i64 depth] (.bool (gQ i_ depth)) []) (x_:aJ) (c0:Int) (hp0:hgt x_<N) (hp1:0<c0):aI En 232 [.agg [.int .i64 x_.Kind,.int .i64 x_.N,.sl none 1 false (x_.B.map (V.int .u8)),.sl none 4 true (x_.L.map cO)],.pp 1 false (.int .i64 c0)] (.bool (mH x_ c0)) []:=by
 generalize hM:mH x_ c0=r
 rw [mH.eq_1] at hM
 refine ci bc bA noJ Tryz.func232 rfl Tryz.ntmps232 (by kernel_rfl) fun hw=>bz ?_
 refine spQ ?_
 replace hw:=nzQ hw
 have ha1:ap .i64 c0 1=(c0 - 1):=ff omQ omQ
 try simp only [ha1]
 replace hM:=au hM;obtain ⟨x2,hx3,hM⟩:=hM
 have hcx2:=ih x_ (c0 - 1) (by omega)
 rw [←hx3] at hcx2
 have hF:=ha1
 refine aV hcx2 (aD hF) (aD hF) (fun hw4=> ?_)
 replace hw4:=nzQ hw4
 exact auP
set_option maxHeartbeats 2000000 in
set_option maxRecDepth 100000 in
theorem Ny (N:Nat) (ih: ∀(i_:aJ) (depth:Int),hgt i_<N→aI En 212 [.agg [.int .i64 i_.Kind,.int .i64 i_.N,.sl none 1 false (i_.B.map (V.int .u8)),.sl none 4 true (i_.L.map cO)],.int .i64 depth] (.bool (gQ i_ depth)) []) (z0:Option Bool) (s:(List aJ)) (f__c0:Int) (hp0: ∀x∈s,hgt x<N) (hp1:0<f__c0):aI En 241 [.sl z0 4 true (s.map cO),.fn 232 [.pp 1 false (.int .i64 f__c0)]] (.int .i64 (te s f__c0)) []:=by
 generalize hM:te s f__c0=r
 rw [te.eq_1] at hM
 refine ci bc bA noJ Tryz.func241 rfl Tryz.ntmps241 (by kernel_rfl) fun hw=>bz ?_
 refine spQ ?_
 replace hw:=nzQ hw
 replace hM:=aS hM;obtain ⟨f1,d1,hf1,hd1,hM⟩:=hM
 refine bk (fun n S=> ∃p:Int,S=(⟨[(0,.sl z0 4 true (s.map cO)),(1,.fn 232 [.pp 1 false (.int .i64 f__c0)]),(7,.int .i64 (s.length:Int)),(8,.int .i64 p)],[],0⟩:St)∧((0≤p)∧(p≤(s.length:Int)))∧((s.length:Int) - p).toNat<n∧ah n f1 d1 p=r) (((s.length:Int) - 0).toNat+1) _ sbQ sbQ ⟨0,rfl,⟨omQ,omQ⟩,(Nat.lt_succ_self _),hM⟩ ?_
 clear hM
 rintro n1 S ⟨p1,rfl,hfa1,hm1,hM⟩
 replace hM:=aT hM (by omega) hf1;obtain ⟨ag1,hag1,hM⟩:=hM
 replace hfa1:=nzQ hfa1
 replace hm1:=nzQ hm1
 have ha1:ao .i64 p1 1=p1+1:=bl omQ omQ
 have hF:=ha1
 revert hM;revert hF
 refine slQ ?_
 refine aE fun _ _ _=> ?_
 intro hF hM
 replace hM:=au hM;obtain ⟨x5,hx6,hM⟩:=hM
 have hcx5:=Nx N ih (gt s p1) f__c0 (by (first|exact hp1|exact hp0 _ (aK (by omega)))) (by (first|exact hp1|exact hp0 _ (aK (by omega))))
 rw [←hx6] at hcx5
 refine aV hcx5 (aD hF) (aD hF) (fun hw7=> ?_)
 replace hw7:=nzQ hw7
 revert hM;revert hF
 refine slQ ?_
 refine aW fun _ _ _=> ?_
 intro hF hM
 refine aP (n1 - 1) _ (by omega) sbQ sbQ ⟨(p1+1),rfl,⟨omQ,omQ⟩,omQ,aN hM hag1⟩
set_option maxHeartbeats 2000000 in
set_option maxRecDepth 100000 in
theorem Nz (N:Nat) (ih: ∀(i_:aJ) (depth:Int),hgt i_<N→aI En 212 [.agg [.int .i64 i_.Kind,.int .i64 i_.N,.sl none 1 false (i_.B.map (V.int .u8)),.sl none 4 true (i_.L.map cO)],.int .i64 depth] (.bool (gQ i_ depth)) []) (z0:Option Bool) (s:(List aJ)) (f__c0:Int) (hp0: ∀x∈s,hgt x<N) (hp1:0<f__c0):aI En 231 [.sl z0 4 true (s.map cO),.fn 232 [.pp 1 false (.int .i64 f__c0)]] (.bool (og s f__c0)) []:=by
 generalize hM:og s f__c0=r
 rw [og.eq_1] at hM
 refine ci bc bA noJ Tryz.func231 rfl Tryz.ntmps231 (by kernel_rfl) fun hw=>bz ?_
 refine spQ ?_
 replace hw:=nzQ hw
 replace hM:=au hM;obtain ⟨x1,hx2,hM⟩:=hM
 have hcx1:=Ny N ih z0 s f__c0 (by (first|exact hp1|exact hp0)) (by (first|exact hp1|exact hp0))
 rw [←hx2] at hcx1
 refine aV hcx1 clQ clQ (fun hw3=> ?_)
 replace hw3:=nzQ hw3
 have hF:=bT
 exact auP
set_option maxHeartbeats 2000000 in
set_option maxRecDepth 100000 in
theorem NA (N:Nat) (ih: ∀(i_:aJ) (depth:Int),hgt i_<N→aI En 212 [.agg [.int .i64 i_.Kind,.int .i64 i_.N,.sl none 1 false (i_.B.map (V.int .u8)),.sl none 4 true (i_.L.map cO)],.int .i64 depth] (.bool (gQ i_ depth)) []) (i_:aJ) (depth:Int) (hp_:hgt i_<N+1):aI En 212 [.agg [.int .i64 i_.Kind,.int .i64 i_.N,.sl none 1 false (i_.B.map (V.int .u8)),.sl none 4 true (i_.L.map cO)],.int .i64 depth] (.bool (qf i_ depth)) []:=by
 generalize hM:qf i_ depth=r
 rw [qf.eq_1] at hM
 refine ci bc bA noJ Tryz.func212 rfl Tryz.ntmps212 (by kernel_rfl) fun hw=>bz ?_
 refine spQ ?_
 replace hw:=nzQ hw
 have hF:=bT
 revert hM;revert hF
 refine aW fun _ _ _=> ?_
 refine aW fun _ _ _=> ?_
 refine aE fun _ _ _=> ?_
 refine aE fun _ _ _=> ?_
 refine aE fun _ _ _=> ?_
 refine aE fun _ _ _=> ?_
 refine aE fun _ _ _=> ?_
 intro hF hM
 replace hM:=au hM;obtain ⟨x23,hx24,hM⟩:=hM
 have hcx23:=Nz N ih none (i_.L) depth (by (first|omega|exact fun x hx=>Nat.lt_of_lt_of_le (sP hx) (Nat.lt_succ_iff.1 hp_))) (by (first|omega|exact fun x hx=>Nat.lt_of_lt_of_le (sP hx) (Nat.lt_succ_iff.1 hp_)))
 rw [←hx24] at hcx23
 refine io hcx23 clQ clQ (fun hw25=> ?_)
 replace hw25:=nzQ hw25
 exact auP
theorem NB: ∀(N:Nat) (i_:aJ) (depth:Int),hgt i_<N→aI En 212 [.agg [.int .i64 i_.Kind,.int .i64 i_.N,.sl none 1 false (i_.B.map (V.int .u8)),.sl none 4 true (i_.L.map cO)],.int .i64 depth] (.bool (gQ i_ depth)) []:=by
 intro N
 induction N with
 | zero=>intro i_ depth h;exact absurd h (Nat.not_lt_zero _)
 | succ N ih=>
  intro i_ depth h
  have h9:=NA N ih i_ depth h
  rw [KH] at h9
  exact h9
theorem NC (i_:aJ) (depth:Int):aI En 212 [.agg [.int .i64 i_.Kind,.int .i64 i_.N,.sl none 1 false (i_.B.map (V.int .u8)),.sl none 4 true (i_.L.map cO)],.int .i64 depth] (.bool (gQ i_ depth)) []:=
 NB (hgt i_+1) i_ depth (Nat.lt_succ_self _)
set_option maxHeartbeats 2000000 in
set_option maxRecDepth 100000 in
instance Sn (i_:aJ):CM En (xl i_) 188 [.agg [.int .i64 i_.Kind,.int .i64 i_.N,.sl none 1 false (i_.B.map (V.int .u8)),.sl none 4 true (i_.L.map cO)]] (fun y=> .bool y) (fun _=> []):=by
 refine enQ noJ Tryz.func188 Tryz.ntmps188 (xl.eq_1 ..) fun r hw=> ?_
 intro hF hM
 replace hM:=au hM;obtain ⟨x1,hx2,hM⟩:=hM
 have hcx1:=NC i_ 8
 rw [←hx2] at hcx1
 refine aV hcx1 clQ clQ (fun hw3=> ?_)
 replace hw3:=nzQ hw3
 exact auP
set_option maxHeartbeats 2000000 in
set_option maxRecDepth 100000 in
theorem yn (z0:Option Bool) (out:(List Int)) (n_:Int) (size:Int) (hp0:size≤8) (hp1:out.length≤1000000000) (hp2:0≤size):bp En 213 [.own 0,.int .u64 n_,.int .i64 size] [.own 5 1 false z0 (out.map (V.int .u8))] (.own 0) [.own 5 1 false none ((kr out n_ size).map (V.int .u8))] []:=by
 generalize hM:kr out n_ size=r
 rw [kr.eq_1] at hM
 refine cE bc bA noJ Tryz.func213 rfl Tryz.ntmps213 (by kernel_rfl) rfl fun ks hw hwB=>bz ?_
 refine spQ ?_
 replace hw:=nzQ hw
 replace hwB:=nzB hwB
 have ha1:ap .i64 size 1=(size - 1):=ff omQ omQ
 try simp only [ha1]
 replace hM:=aS hM;obtain ⟨f2,d2,hf2,hd2,hM⟩:=hM
 refine bk (fun n S=> ∃p:Int×List Int,S=(⟨[(0,.own 0),(1,.int .u64 n_),(7,.int .i64 p.1)],[(0,.own 5 1 false none (p.2.map (V.int .u8)))],1⟩:St)∧((-1≤p.1)∧(p.1<8)∧(((p.2).length:Int)+p.1≤1000000020))∧(p.1+1).toNat<n∧ah n f2 d2 p=r) (((size - 1)+1).toNat+1) _ sbQ sbQ ⟨((size - 1),out),rfl,⟨omQ,omQ,omQ⟩,(Nat.lt_succ_self _),hM⟩ ?_
 clear hM
 rintro n2 S ⟨p2,rfl,hfa2,hm2,hM⟩
 replace hM:=aT hM (by omega) hf2;obtain ⟨ag2,hag2,hM⟩:=hM
 replace hfa2:=nzQ hfa2
 replace hm2:=nzQ hm2
 have hF:=ha1
 revert hM;revert hF
 refine slQ ?_
 refine cdQ (fun _ _ _=> ?_) (fun _ _ _=> ?_)
 ·obtain ⟨ha5,hbha5⟩:=pn (a:=8) (b:=p2.1) 8 8 64 ax ax ax ax (by decide) (by decide)
  intro hF hM
  try simp only [ha5]
  replace hF:=(And.intro ha5 hF)
  revert hM;revert hF
  refine slQ ?_
  have ha6:ap .i64 p2.1 1=(p2.1 - 1):=ff ax ax
  intro hF hM
  try simp only [ha6]
  refine aP (n2 - 1) _ (by omega) sbQ sbQ ⟨((p2.1 - 1),(p2.2++([(al .u8 (aB .u64 n_ (8*p2.1)))]:List Int))),rfl,⟨omQ,omQ,omQ⟩,omQ,aN hM hag2⟩
 ·intro hF hM
  subst hM
  exact aU [0] (an hF) (by decide) (an hF)
instance (priority:=1037):DRD 8 55 8 [28,29,30,31,32,33,34,35] [] ([[],[],[1],[1,2],[1,2,3],[0,1,2,3,4],[],[6]]++[List.range 8,List.range 9]) [(5,0)]:=⟨trivial⟩
set_option maxHeartbeats 2000000 in
set_option maxRecDepth 100000 in
theorem NE (N:Nat) (ih: ∀(z0:Option Bool) (out:(List Int)) (i_:aJ),(hgt i_≤500000000)→hgt i_<N→bp En 189 [.own 0,.agg [.int .i64 i_.Kind,.int .i64 i_.N,.sl none 1 false (i_.B.map (V.int .u8)),.sl none 4 true (i_.L.map cO)]] [.own 5 1 false z0 (out.map (V.int .u8))] (.own 0) [.own 5 1 false none ((gR out i_).map (V.int .u8))] []) (z0:Option Bool) (out:(List Int)) (i_:aJ) (hp0:hgt i_≤500000000) (hp_:hgt i_<N+1):bp En 189 [.own 0,.agg [.int .i64 i_.Kind,.int .i64 i_.N,.sl none 1 false (i_.B.map (V.int .u8)),.sl none 4 true (i_.L.map cO)]] [.own 5 1 false z0 (out.map (V.int .u8))] (.own 0) [.own 5 1 false none ((qg out i_).map (V.int .u8))] []:=by
 generalize hM:qg out i_=r
 rw [qg.eq_1] at hM
 refine cE bc bA noJ Tryz.func189 rfl Tryz.ntmps189 (by kernel_rfl) rfl fun ks hw hwB=>bz ?_
 refine spQ ?_
 replace hw:=nzQ hw
 replace hwB:=nzB hwB
 have hG0:=BH i_
 have hF:=bT
 revert hM;revert hF
 refine cdQ (fun _ _ _=> ?_) (fun _ _ _=> ?_)
 ·intro hF hM
  subst hM
  exact aU [0] (an hF) (by decide) (an hF)
 ·refine cdQ (fun _ _ _=> ?_) (fun _ _ _=> ?_)
  ·intro hF hM
   replace hM:=au hM;obtain ⟨x6,hx7,hM⟩:=hM
   have hcx6:=yn (some false) (out++([(al .u8 i_.Kind)]:List Int)) (al .u64 i_.N) 8 (by (exact pfQ)) (by (exact pfQ)) (by (exact pfQ))
   rw [←hx7] at hcx6
   refine bL [0] hcx6 (by decide) lsQ lsQ (fun hw8=> ?_)
   replace hw8:=nzQ hw8
   revert hM;revert hF
   refine slQ ?_
   have hq9:=xv hx7
   replace hq9:=nzQ hq9
   intro hF hM
   subst hM
   exact aU [0] (an hF) (by decide) (an hF)
  ·refine cdQ (fun _ _ _=> ?_) (fun _ _ _=> ?_)
   ·intro hF hM
    replace hM:=au hM;obtain ⟨x13,hx14,hM⟩:=hM
    have hcx13:=yn (some false) (out++([(al .u8 i_.Kind)]:List Int)) (al .u64 (i_.B.length:Int)) 4 (by (exact pfQ)) (by (exact pfQ)) (by (exact pfQ))
    rw [←hx14] at hcx13
    refine JS 0 hcx13 lsQ lsQ lsQ (Bs fun _=>lsQ) ?_
    revert hM;revert hF
    refine slQ ?_
    have hq15:=xv hx14
    replace hq15:=nzQ hq15
    refine slQ ?_
    intro hF hM
    subst hM
    exact aU [8] (an hF) (by decide) (an hF)
   ·intro hF hM
    replace hM:=au hM;obtain ⟨x17,hx18,hM⟩:=hM
    have hcx17:=yn (some false) (out++([(al .u8 i_.Kind)]:List Int)) (al .u64 (i_.L.length:Int)) 4 (by (exact pfQ)) (by (exact pfQ)) (by (exact pfQ))
    rw [←hx18] at hcx17
    refine bL [0] hcx17 (by decide) lsQ lsQ (fun hw19=> ?_)
    replace hw19:=nzQ hw19
    revert hM;revert hF
    refine slQ ?_
    have hq20:=xv hx18
    replace hq20:=nzQ hq20
    intro hF hM
    replace hM:=aS hM;obtain ⟨f21,d21,hf21,hd21,hM⟩:=hM
    refine bk (fun n S=> ∃p:Int×List Int,S=(⟨[(0,.own 0),(44,.sl none 4 true (i_.L.map cO)),(45,.int .i64 (i_.L.length:Int)),(46,.int .i64 p.1)],[(0,.own 5 1 false none (p.2.map (V.int .u8)))],3⟩:St)∧((0≤p.1)∧(p.1≤(i_.L.length:Int)))∧((i_.L.length:Int) - p.1).toNat<n∧ah n f21 d21 p=r) (((i_.L.length:Int) - 0).toNat+1) _ sbQ sbQ ⟨(0,x17),rfl,⟨by exact omA,by exact omA⟩,(Nat.lt_succ_self _),hM⟩ ?_
    clear hM
    rintro n21 S ⟨p21,rfl,hfa21,hm21,hM⟩
    replace hM:=aT hM (by omega) hf21;obtain ⟨ag21,hag21,hM⟩:=hM
    replace hfa21:=nzQ hfa21
    replace hm21:=nzQ hm21
    have ha21:ao .i64 p21.1 1=p21.1+1:=bl (by exact omA) (by exact omA)
    replace hF:=(And.intro ha21 hF)
    revert hM;revert hF
    refine slQ ?_
    refine cdQ (fun _ _ _=> ?_) (fun _ _ _=> ?_)
    ·intro hF hM
     replace hM:=au hM;obtain ⟨x25,hx26,hM⟩:=hM
     have hcx25:=ih none (p21.2) (gt i_.L p21.1) (by (have h9:=sP (i:=i_) (aK (l:=i_.L) (i:=p21.1) (by omega));omega)) (by (have h9:=sP (i:=i_) (aK (l:=i_.L) (i:=p21.1) (by omega));omega))
     rw [←hx26] at hcx25
     refine bL [0] hcx25 (by decide) (an hF) (an hF) (fun hw27=> ?_)
     replace hw27:=nzQ hw27
     exact auP
    ·intro hF hM
     subst hM
     exact aU [0] (an hF) (by decide) (an hF)
theorem NF: ∀(N:Nat) (z0:Option Bool) (out:(List Int)) (i_:aJ),(hgt i_≤500000000)→hgt i_<N→bp En 189 [.own 0,.agg [.int .i64 i_.Kind,.int .i64 i_.N,.sl none 1 false (i_.B.map (V.int .u8)),.sl none 4 true (i_.L.map cO)]] [.own 5 1 false z0 (out.map (V.int .u8))] (.own 0) [.own 5 1 false none ((gR out i_).map (V.int .u8))] []:=by
 intro N
 induction N with
 | zero=>intro z0 out i_ h0 h;exact absurd h (Nat.not_lt_zero _)
 | succ N ih=>
  intro z0 out i_ h0 h
  have h9:=NE N ih z0 out i_ h0 h
  rw [KJ] at h9
  exact h9
theorem NG (z0:Option Bool) (out:(List Int)) (i_:aJ) (hp0:hgt i_≤500000000):bp En 189 [.own 0,.agg [.int .i64 i_.Kind,.int .i64 i_.N,.sl none 1 false (i_.B.map (V.int .u8)),.sl none 4 true (i_.L.map cO)]] [.own 5 1 false z0 (out.map (V.int .u8))] (.own 0) [.own 5 1 false none ((gR out i_).map (V.int .u8))] []:=
 NF (hgt i_+1) z0 out i_ hp0 (Nat.lt_succ_self _)
set_option maxHeartbeats 2000000 in
set_option maxRecDepth 100000 in
theorem NH (i_:aJ) (hp0:hgt i_≤500000000):CM En (mI i_) 160 [.agg [.int .i64 i_.Kind,.int .i64 i_.N,.sl none 1 false (i_.B.map (V.int .u8)),.sl none 4 true (i_.L.map cO)]] (fun y=> .tup [.sl none 1 false (y.1.map (V.int .u8)),.int .i64 y.2]) (fun _=> []):=by
 refine enQ noJ Tryz.func160 Tryz.ntmps160 (mI.eq_1 ..) fun r hw=> ?_
 refine aQ fun _ _ _ _=> ?_
 refine aW fun _ _ _=> ?_
 intro hF hM
 replace hM:=au hM;obtain ⟨x7,hx8,hM⟩:=hM
 have hcx7:=JY (pre:=[]) (post:=[_]) (NG (some true) ([]:List Int) i_ (by (exact pfQ))) (by decide)
 rw [←hx8] at hcx7
 simp only [List.nil_append,List.cons_append] at hcx7
 refine JF hcx7 clQ (fun hw9=> ?_)
 replace hw9:=nzQ hw9
 exact auP
set_option maxHeartbeats 2000000 in
set_option maxRecDepth 100000 in
theorem DQ (tag:(List UInt8)) (t:cc) (label:(List UInt8)) (more:(List aJ)) (hp0:cI more≤100000) (hp1:more.length≤10) (hp2:label.length≤100) (hp3:tag.length≤100):CM En (mJ tag t label more) 121 [.str tag,(iw t),.str label,.sl none 4 true (more.map cO)] (fun y=> .tup [(gP y.1),.int .i64 y.2]) (fun _=> []):=by
 refine enQ noJ Tryz.func121 Tryz.ntmps121 (mJ.eq_1 ..) fun r hw=> ?_
 refine slQ ?_
 intro hF hM
 replace hM:=au hM;obtain ⟨x1,hx2,hM⟩:=hM
 have hcx1:=cmH hx2 (NH ({Kind:=3,N:=0,B:=([]:List Int),L:=(([({Kind:=2,N:=0,B:=(bX 32 t.State),L:=([]:List aJ)}:aJ),({Kind:=2,N:=0,B:=(cX label),L:=([]:List aJ)}:aJ)]:List aJ)++more)}:aJ) (by (clear hM;simp only [hgt,cI,Ce,gK,je,List.length_nil];omega)))
 refine A6 hcx1 (KX (S:=⟨_,_,_⟩) 3 ((([({Kind:=2,N:=0,B:=(bX 32 t.State),L:=([]:List aJ)}:aJ),({Kind:=2,N:=0,B:=(cX label),L:=([]:List aJ)}:aJ)]:List aJ)++more).map cO) rfl sbQ) clQ (fun hw3=> ?_)
 replace hw3:=nzQ hw3
 revert hM;revert hF
 refine slQ ?_
 have hq4:=KN hx2
 replace hq4:=nzQ hq4
 refine aW fun _ _ _=> ?_
 intro hF hM
 replace hM:=au hM;obtain ⟨x8,hx9,hM⟩:=hM
 have hcx8:=cmH hx9 (DO tag (x1.1) (by (exact pfQ)))
 refine aV hcx8 clQ clQ (fun hw10=> ?_)
 replace hw10:=nzQ hw10
 exact auP
set_option maxHeartbeats 2000000 in
set_option maxRecDepth 100000 in
theorem DR (t:cc) (label:(List UInt8)) (i_:aJ) (hp0:hgt i_≤10000):CM En (oh t label i_) 66 [(iw t),.str label,.agg [.int .i64 i_.Kind,.int .i64 i_.N,.sl none 1 false (i_.B.map (V.int .u8)),.sl none 4 true (i_.L.map cO)]] (fun y=> .tup [(iw y.1),.int .i64 y.2]) (fun _=> []):=by
 refine enQ noJ Tryz.func66 Tryz.ntmps66 (oh.eq_1 ..) fun r hw=> ?_
 refine aQ fun _ _ _ _=> ?_
 refine aE fun _ _ _=> ?_
 refine aQ fun _ _ _ _=> ?_
 refine aW fun _ _ _=> ?_
 intro hF hM
 replace hM:=au hM;obtain ⟨x13,hx14,hM⟩:=hM
 have hcx13:=cmH hx14 (DQ ([115,112,101,99,105,101,47,97,98,115,111,114,98]) t label ([i_]:List aJ) (by (clear hM;first|omega|decide|(simp only [cI,List.length_cons,List.length_nil];omega))) (by (clear hM;first|omega|decide|(simp only [cI,List.length_cons,List.length_nil];omega))) (by (clear hM;first|omega|decide|(simp only [cI,List.length_cons,List.length_nil];omega))) (by (clear hM;first|omega|decide|(simp only [cI,List.length_cons,List.length_nil];omega))))
 refine io hcx13 clQ clQ (fun hw15=> ?_)
 replace hw15:=nzQ hw15
 exact auP
set_option maxHeartbeats 2000000 in
set_option maxRecDepth 100000 in
theorem yo (name:(List UInt8)) (i_:aJ) (c0:Int) (c1:cc) (hp0:hgt i_≤10000):bp En 65 [.str name,.agg [.int .i64 i_.Kind,.int .i64 i_.N,.sl none 1 false (i_.B.map (V.int .u8)),.sl none 4 true (i_.L.map cO)],.ptr 0 0,.ptr 1 0] [.var 1 false (.int .i64 c0),.var 33 true ((iw c1))] (.tup []) [.var 1 false (.int .i64 (ju name i_ c0 c1).1),.var 33 true (iw (ju name i_ c0 c1).2)] []:=by
 generalize hM:ju name i_ c0 c1=r
 rw [ju.eq_1] at hM
 refine cE bc bA noJ Tryz.func65 rfl Tryz.ntmps65 (by kernel_rfl) rfl fun ks hw hwB=>bz ?_
 refine spQ ?_
 replace hw:=nzQ hw
 replace hwB:=nzB hwB
 have hF:=bT
 revert hM;revert hF
 refine cdQ (fun _ _ _=> ?_) (fun _ _ _=> ?_)
 ·intro hF hM
  replace hM:=au hM;obtain ⟨x3,hx4,hM⟩:=hM
  have hcx3:=cmH hx4 (DR c1 name i_ (by (exact hp0)))
  refine aV hcx3 clQ clQ (fun hw5=> ?_)
  replace hw5:=nzQ hw5
  revert hM;revert hF
  refine slQ ?_
  intro hF hM
  subst hM
  exact aU [0,1] (an hF) (by decide) (an hF)
 ·intro hF hM
  subst hM
  exact aU [0,1] (an hF) (by decide) (an hF)
set_option maxHeartbeats 2000000 in
set_option maxRecDepth 100000 in
instance So (l:(List Int)):CM En (jv l) 67 [.sl none 1 false (l.map (V.int .i64))] (fun y=> .agg [.int .i64 y.Kind,.int .i64 y.N,.sl none 1 false (y.B.map (V.int .u8)),.sl none 4 true (y.L.map cO)]) (fun _=> []):=by
 refine enQ noJ Tryz.func67 Tryz.ntmps67 (jv.eq_1 ..) fun r hw=> ?_
 intro hF hM
 replace hM:=aS hM;obtain ⟨f1,d1,hf1,hd1,hM⟩:=hM
 refine eN (fun n S=> ∃p:Int×List aJ,S=(⟨[(2,.ptr 0 0),(3,.ptr 1 0),(7,.sl none 1 false (l.map (V.int .i64))),(8,.int .i64 (l.length:Int)),(9,.int .i64 p.1)],[(0,.var 4 true (.agg [.int .i64 0,.int .i64 0,.sl (some true) 1 false [],.sl (some true) 4 true []])),(1,.var 4 true (.agg [.int .i64 3,.int .i64 0,.sl (some true) 1 false [],.own 2])),(2,.own 102 4 true none (p.2.map cO))],3⟩:St)∧((0≤p.1)∧(p.1≤(l.length:Int))∧(((p.2).length:Int)≤p.1))∧((l.length:Int) - p.1).toNat<n∧ah n f1 d1 p=r) (((l.length:Int) - 0).toNat+1) _ _ (j_ 1 3 102 rfl rfl (by decide)) sbQ sbQ ⟨(0,([]:List aJ)),rfl,⟨omQ,omQ,omQ⟩,(Nat.lt_succ_self _),hM⟩ ?_
 clear hM
 rintro n1 S ⟨p1,rfl,hfa1,hm1,hM⟩
 replace hM:=aT hM (by omega) hf1;obtain ⟨ag1,hag1,hM⟩:=hM
 replace hfa1:=nzQ hfa1
 replace hm1:=nzQ hm1
 have ha1:ao .i64 p1.1 1=p1.1+1:=bl omQ omQ
 replace hF:=(And.intro ha1 hF)
 revert hM;revert hF
 refine slQ ?_
 refine aE fun _ _ _=> ?_
 intro hF hM
 refine aP (n1 - 1) _ (by omega) sbQ sbQ ⟨((p1.1+1),(p1.2++([({Kind:=1,N:=(gt l p1.1),B:=([]:List Int),L:=([]:List aJ)}:aJ)]:List aJ))),rfl,⟨omQ,omQ,omQ⟩,omQ,aN hM hag1⟩
set_option maxHeartbeats 2000000 in
set_option maxRecDepth 100000 in
instance Sp (a_:Int) (b:Int) (m:Int):CM En (mK a_ b m) 161 [.int .i64 a_,.int .i64 b,.int .i64 m] (fun y=> .tup [.int .i64 y.1,.int .i64 y.2]) (fun _=> []):=by
 refine enQ noJ Tryz.func161 Tryz.ntmps161 (mK.eq_1 ..) fun r hw=> ?_
 exact auR
set_option maxHeartbeats 2000000 in
set_option maxRecDepth 100000 in
instance Sq (h_:(List Int)) (m:Int):CM En (mL h_ m) 122 [(gP h_),.int .i64 m] (fun y=> .tup [.int .i64 y.1,.int .i64 y.2]) (fun _=> []):=by
 refine cmQ fun r hM=> ?_
 rw [mL.eq_1] at hM
 refine ci bc bA noJ Tryz.func122 rfl Tryz.ntmps122 (by kernel_rfl) fun hw=>bz ?_
 refine spQ ?_
 replace hw:=nzQ hw
 refine kS (fun h1=> ?_) (fun h1=> ?_)
 ·rw [if_neg (b9 h1)] at hM
  refine aA h1 ?_
  have nh1:=nzQ h1
  try have hr2:=mpQ nh1
  refine cn (fun h3=> ?_) (fun h3=> ?_)
  ·rw [if_pos h3] at hM
   refine aA h3 ?_
   subst hM
   exact fc (eC (And.intro h1 h3))
  ·rw [if_neg (b9 h3)] at hM
   refine aA h3 ?_
   have nh3:=nzQ h3
   try have hr5:=mpQ nh3
   replace hM:=aS hM;obtain ⟨f6,d6,hf6,hd6,hM⟩:=hM
   refine bk (fun n S=> ∃p:Int×Int,S=(⟨[(1,.int .i64 m),(6,.int .i64 p.1),(15,.sl (some false) 1 false (([(gt h_ 0),(gt h_ 1),(gt h_ 2),(gt h_ 3),(gt h_ 4),(gt h_ 5),(gt h_ 6),(gt h_ 7),(gt h_ 8),(gt h_ 9),(gt h_ 10),(gt h_ 11),(gt h_ 12),(gt h_ 13),(gt h_ 14),(gt h_ 15)]:List Int).map (V.int .u8))),(16,.int .i64 (16:Int)),(17,.int .i64 p.2)],[],1⟩:St)∧((0≤p.2)∧(p.2≤(16:Int)))∧((16:Int) - p.2).toNat<n∧ah n f6 d6 p=r) (((16:Int) - 0).toNat+1) _ sbQ sbQ ⟨(0,0),rfl,⟨omQ,omQ⟩,(Nat.lt_succ_self _),hM⟩ ?_
   clear hM
   rintro n6 S ⟨p6,rfl,hfa6,hm6,hM⟩
   replace hM:=aT hM (by omega) hf6;obtain ⟨ag6,hag6,hM⟩:=hM
   replace hfa6:=nzQ hfa6
   replace hm6:=nzQ hm6
   have ha6:ao .i64 p6.2 1=p6.2+1:=bl omQ omQ
   refine aA ha6 ?_
   refine cn (fun h7=> ?_) (fun h7=> ?_)
   ·rw [if_pos h7] at hM
    refine aA (And.intro ha6 h7) ?_
    have nh7:=nzQ h7
    try have hr8:=mpQ nh7
    refine bP omQ ?_
    have he9:=fun d=>c6 (l:=([(gt h_ 0),(gt h_ 1),(gt h_ 2),(gt h_ 3),(gt h_ 4),(gt h_ 5),(gt h_ 6),(gt h_ 7),(gt h_ 8),(gt h_ 9),(gt h_ 10),(gt h_ 11),(gt h_ 12),(gt h_ 13),(gt h_ 14),(gt h_ 15)]:List Int)) (f:=(V.int .u8)) (i:=p6.2) omQ d
    replace he9:=fun d=>spR (he9 d)
    refine aA (And.intro ha6 he9) ?_
    replace hM:=aS hM;obtain ⟨f10,d10,hf10,hd10,hM⟩:=hM
    refine bk (fun n S=> ∃p:Int×Int,S=(⟨[(1,.int .i64 m),(6,.int .i64 p.1),(8,.int .u8 (gt ([(gt h_ 0),(gt h_ 1),(gt h_ 2),(gt h_ 3),(gt h_ 4),(gt h_ 5),(gt h_ 6),(gt h_ 7),(gt h_ 8),(gt h_ 9),(gt h_ 10),(gt h_ 11),(gt h_ 12),(gt h_ 13),(gt h_ 14),(gt h_ 15)]:List Int) p6.2)),(15,.sl (some false) 1 false (([(gt h_ 0),(gt h_ 1),(gt h_ 2),(gt h_ 3),(gt h_ 4),(gt h_ 5),(gt h_ 6),(gt h_ 7),(gt h_ 8),(gt h_ 9),(gt h_ 10),(gt h_ 11),(gt h_ 12),(gt h_ 13),(gt h_ 14),(gt h_ 15)]:List Int).map (V.int .u8))),(16,.int .i64 (16:Int)),(17,.int .i64 p6.2),(21,.int .i64 p.2)],[],1⟩:St)∧((0≤p.2)∧(p.2≤8))∧((8:Int) - p.2).toNat<n∧ah n f10 d10 p=r) (((8:Int) - 0).toNat+1) _ sbQ sbQ ⟨(p6.1,0),rfl,⟨omQ,omQ⟩,(Nat.lt_succ_self _),hM⟩ ?_
    clear hM
    rintro n10 S ⟨p10,rfl,hfa10,hm10,hM⟩
    replace hM:=aT hM (by omega) hf10;obtain ⟨ag10,hag10,hM⟩:=hM
    replace hfa10:=nzQ hfa10
    replace hm10:=nzQ hm10
    have ha10:ao .i64 p10.2 1=p10.2+1:=bl omQ omQ
    refine aA (And.intro ha6 (And.intro he9 ha10)) ?_
    have hF:=(And.intro h1 (And.intro h3 (And.intro ha6 (And.intro h7 (And.intro he9 ha10)))))
    exact auQ
   ·rw [if_neg (b9 h7)] at hM
    refine aA (And.intro ha6 h7) ?_
    subst hM
    exact fc (eC (And.intro ha6 (And.intro h1 (And.intro h3 h7))))
 ·rw [if_pos h1] at hM
  refine aA h1 ?_
  subst hM
  exact fc (eC h1)
end Go.Proofs.YtgealhhkngbkbaaGreatDoor
namespace Go.Proofs.YtgealhhkngbkbaaGreatDoor
open Go.RowKit
set_option maxHeartbeats 2000000 in
set_option maxRecDepth 100000 in
instance Sr (t:cc) (label:(List UInt8)) (q:Int):CM En (lx t label q) 68 [(iw t),.str label,.int .i64 q] (fun y=> .tup [(iw y.1),.int .i64 y.2.1,.int .i64 y.2.2]) (fun _=> []):=by
 refine enQ noJ Tryz.func68 Tryz.ntmps68 (lx.eq_1 ..) fun r hw=> ?_
 refine aQ fun _ _ _ _=> ?_
 refine aE fun _ _ _=> ?_
 refine aQ fun _ _ _ _=> ?_
 refine aW fun _ _ _=> ?_
 refine aE fun _ _ _=> ?_
 refine aW fun _ _ _=> ?_
 refine aW fun _ _ _=> ?_
 intro hF hM
 replace hM:=au hM;obtain ⟨x21,hx22,hM⟩:=hM
 have hcx21:=cmH hx22 (DQ ([115,112,101,99,105,101,47,99,104,97,108,108,101,110,103,101]) t label ([]:List aJ) (by (clear hM;first|omega|decide|(simp only [cI,List.length_cons,List.length_nil];omega))) (by (clear hM;first|omega|decide|(simp only [cI,List.length_cons,List.length_nil];omega))) (by (clear hM;first|omega|decide|(simp only [cI,List.length_cons,List.length_nil];omega))) (by (clear hM;first|omega|decide|(simp only [cI,List.length_cons,List.length_nil];omega))))
 refine aV hcx21 clQ clQ (fun hw23=> ?_)
 replace hw23:=nzQ hw23
 revert hM;revert hF
 refine slQ ?_
 refine aW fun _ _ _=> ?_
 refine aQ fun x27 _ _ _=> ?_
 refine aW fun _ _ _=> ?_
 intro hF hM
 replace hM:=au hM;obtain ⟨x33,hx34,hM⟩:=hM
 have hcx33:=cmH hx34 (DR t label ({Kind:=1,N:=x27.1,B:=([]:List Int),L:=([]:List aJ)}:aJ) (by (clear hM;simp only [hgt,cI,List.length_nil];omega)))
 refine aV hcx33 clQ clQ (fun hw35=> ?_)
 replace hw35:=nzQ hw35
 exact auP
instance (priority:=1038):DRD 11 62 2 [8,51] [] ([[],[]]++[List.range 2]) []:=⟨trivial⟩
instance (priority:=1039):DRD 13 62 3 [8,60,61] [] ([[],[],[0]]++[List.range 3]) []:=⟨trivial⟩
set_option maxHeartbeats 2000000 in
set_option maxRecDepth 100000 in
theorem DS (g:ak) (text:(List UInt8)) (label:(List UInt8)) (l:(List (List Int))) (hp0:text.length≤8000) (hp1:l.length≤100) (hp2: ∀x∈l,x.length≤8):CM En (iC g text label l) 27 [.agg [.int .i64 g.P,.int .i64 g.Q,.int .i64 g.G],.str text,.str label,.sl none 1 false (l.map (fun (l:List Int)=>V.sl none 1 false (l.map (V.int .i64))))] (fun y=> .tup [.int .i64 y.1,.int .i64 y.2]) (fun _=> []):=by
 refine enQ noJ Tryz.func27 Tryz.ntmps27 (iC.eq_1 ..) fun r hw=> ?_
 refine aQ fun x1 _ _ _=> ?_
 intro hF hM
 replace hM:=au hM;obtain ⟨x4,hx5,hM⟩:=hM
 have hcx4:=cmU hx5
 refine A6 hcx4 (A7 3 (T:=3) (n:=1) (g:=false) (z:=(some false)) (l:=([g.P,g.Q,g.G]:List Int).map (V.int .i64)) clQ) clQ (fun hw6=> ?_)
 replace hw6:=nzQ hw6
 revert hM;revert hF
 refine slQ ?_
 have hq7:=(by first|exact tF hx5 (Db hp2 _)|exact tF hx5 (Nat.le_of_ble_eq_true rfl))
 replace hq7:=nzQ hq7
 intro hF hM
 replace hM:=au hM;obtain ⟨x8,hx9,hM⟩:=hM
 have hcx8:=yo ([103,114,111,117,112]) x4 (x1.2) (x1.1) (by (clear hM;first|omega|(simp only [hgt,cI,je,List.length_cons,List.length_nil];omega)))
 rw [←hx9] at hcx8
 refine bL [2,1] hcx8 (by decide) lsQ lsQ (fun hw10=> ?_)
 replace hw10:=nzQ hw10
 revert hM;revert hF
 refine slQ ?_
 intro hF hM
 replace hM:=au hM;obtain ⟨x11,hx12,hM⟩:=hM
 have hcx11:=yo ([102,111,114,109,117,108,97]) ({Kind:=2,N:=0,B:=(cX text),L:=([]:List aJ)}:aJ) (x8.1) (x8.2) (by (clear hM;first|omega|(simp only [hgt,cI,je,List.length_cons,List.length_nil];omega)))
 rw [←hx12] at hcx11
 refine bL [2,1] hcx11 (by decide) lsQ lsQ (fun hw13=> ?_)
 replace hw13:=nzQ hw13
 revert hM;revert hF
 refine slQ ?_
 intro hF hM
 replace hM:=aS hM;obtain ⟨f14,d14,hf14,hd14,hM⟩:=hM
 refine bk (fun n S=> ∃p:Int×cc×Int,S=(⟨[(4,.ptr 0 0),(10,.ptr 1 0),(11,.ptr 2 0),(12,.fn 65 [.ptr 2 0,.ptr 1 0]),(38,.sl none 1 false (l.map (fun (l:List Int)=>V.sl none 1 false (l.map (V.int .i64))))),(39,.int .i64 (l.length:Int)),(40,.int .i64 p.1)],[(0,.var 3 true (.agg [.int .i64 g.P,.int .i64 g.Q,.int .i64 g.G])),(1,.var 33 true ((iw p.2.1))),(2,.var 1 false (.int .i64 p.2.2))],5⟩:St)∧((0≤p.1)∧(p.1≤(l.length:Int)))∧((l.length:Int) - p.1).toNat<n∧ah n f14 d14 p=r) (((l.length:Int) - 0).toNat+1) _ sbQ sbQ ⟨(0,x11.2,x11.1),rfl,⟨omQ,omQ⟩,(Nat.lt_succ_self _),hM⟩ ?_
 clear hM
 rintro n14 S ⟨p14,rfl,hfa14,hm14,hM⟩
 replace hM:=aT hM (by omega) hf14;obtain ⟨ag14,hag14,hM⟩:=hM
 replace hfa14:=nzQ hfa14
 replace hm14:=nzQ hm14
 have ha14:ao .i64 p14.1 1=p14.1+1:=bl omQ omQ
 replace hF:=(And.intro ha14 hF)
 revert hM;revert hF
 refine slQ ?_
 refine aE fun _ _ _=> ?_
 refine aQ fun x18 hx19 _ _=> ?_
 have hq21:=(by first|exact tF hx19 (Db hp2 _)|exact tF hx19 (Nat.le_of_ble_eq_true rfl))
 replace hq21:=nzQ hq21
 intro hF hM
 replace hM:=au hM;obtain ⟨x22,hx23,hM⟩:=hM
 have hcx22:=yo ([99,111,109,109,105,116]) x18 (p14.2.2) (p14.2.1) (by (clear hM;first|omega|(simp only [hgt,cI,je,List.length_cons,List.length_nil];omega)))
 rw [←hx23] at hcx22
 refine bL [2,1] hcx22 (by decide) (an hF) (an hF) (fun hw24=> ?_)
 replace hw24:=nzQ hw24
 revert hM;revert hF
 refine slQ ?_
 intro hF hM
 refine aP (n14 - 1) _ (by omega) sbQ sbQ ⟨((p14.1+1),x22.2,x22.1),rfl,⟨omQ,omQ⟩,omQ,aN hM hag14⟩
instance (priority:=1040):DRD 9 83 12 [12,58,59,60,61,62,63,64,65,66,67,68] [] ([[],[],[],[1,2],[1,2,3],[],[5],[0,1,2,3,4,5,6],[0,1,2,3,4,5,6,7],[0,1,2,3,4,5,6,7,8],[0,1,2,3,4,5,6,7,8],[0,1,2,3,4,5,6,7,8,9]]++[List.range 12]) []:=⟨trivial⟩
instance (priority:=1041):DRD 10 83 11 [69,70,71,72,73,74,75,76,77,78,79] [] ([[],[],[],[1,2],[1,2,3],[],[1,2,3,4,5],[],[7],[1,2,3,4,5,6,7,8],[1,2,3,4,5,6,7,8,9]]++[List.range 11,List.range 12]) []:=⟨trivial⟩
set_option maxHeartbeats 2000000 in
set_option maxRecDepth 100000 in
instance Ss (g:ak) (k_:(List Int)) (c:Int) (x_:(List Int)):CM En (mM g k_ c x_) 94 [.agg [.int .i64 g.P,.int .i64 g.Q,.int .i64 g.G],.sl none 1 false (k_.map (V.int .i64)),.int .i64 c,.sl none 1 false (x_.map (V.int .i64))] (fun y=> .tup [.sl none 1 false (y.1.map (V.int .i64)),.int .i64 y.2]) (fun _=> []):=by
 refine enQ noJ Tryz.func94 Tryz.ntmps94 (mM.eq_1 ..) fun r hw=> ?_
 refine aQ fun _ hx2 _ _=> ?_
 have hq4:=xu hx2
 replace hq4:=nzQ hq4
 refine aE fun _ _ _=> ?_
 refine aE fun _ _ _=> ?_
 refine aE fun _ _ _=> ?_
 refine aW fun _ _ _=> ?_
 refine aQ fun _ _ _ _=> ?_
 refine aE fun _ _ _=> ?_
 refine aQ fun _ _ _ _=> ?_
 refine aE fun _ _ _=> ?_
 refine aQ fun _ _ _ _=> ?_
 refine aW fun _ _ _=> ?_
 intro hF hM
 replace hM:=aS hM;obtain ⟨f30,d30,hf30,hd30,hM⟩:=hM
 refine eN (fun n S=> ∃p:Int×List Int,S=(⟨[(1,.sl none 1 false (k_.map (V.int .i64))),(2,.int .i64 c),(3,.sl none 1 false (x_.map (V.int .i64))),(4,.ptr 0 0),(10,.own 2),(54,.int .i64 (k_.length:Int)),(55,.int .i64 p.1)],[(0,.var 3 true (.agg [.int .i64 g.P,.int .i64 g.Q,.int .i64 g.G])),(2,.own 3 1 false none (p.2.map (V.int .i64)))],3⟩:St)∧((0≤p.1)∧(p.1≤(k_.length:Int))∧(((p.2).length:Int)≤p.1))∧((k_.length:Int) - p.1).toNat<n∧ah n f30 d30 p=r) (((k_.length:Int) - 0).toNat+1) _ _ (jZ 10 3 rfl (by decide)) sbQ sbQ ⟨(0,([]:List Int)),rfl,⟨omQ,omQ,omQ⟩,(Nat.lt_succ_self _),hM⟩ ?_
 clear hM
 rintro n30 S ⟨p30,rfl,hfa30,hm30,hM⟩
 replace hM:=aT hM (by omega) hf30;obtain ⟨ag30,hag30,hM⟩:=hM
 replace hfa30:=nzQ hfa30
 replace hm30:=nzQ hm30
 have ha30:ao .i64 p30.1 1=p30.1+1:=bl omQ omQ
 replace hF:=(And.intro ha30 hF)
 revert hM;revert hF
 refine slQ ?_
 refine aE fun _ _ _=> ?_
 refine aQ fun x34 _ _ _=> ?_
 intro hF hM
 refine aP (n30 - 1) _ (by omega) sbQ sbQ ⟨((p30.1+1),(p30.2++([(aO .i64 (ao .i64 (gt k_ p30.1) x34.1) g.Q)]:List Int))),rfl,⟨omQ,omQ,omQ⟩,omQ,aN hM hag30⟩
instance (priority:=1042):DRD 20 155 24 [107,108,109,110,111,112,113,114,115,116,117,118,119,120,121,122,123,124,125,126,127,128,129] [] ([[],[],[1],[1,2],[1,2,3],[],[5],[5,6],[5,6,7],[],[],[],[11],[11,12],[11,12,13],[11,12,13,14],[10,11,12,13,14,15],[1,2,3,4,5,6,7,8,9,10,11,12,13,14,15,16],[1,2,3,4,5,6,7,8,9,10,11,12,13,14,15,16,17],[1,2,3,4,5,6,7,8,9,10,11,12,13,14,15,16,17,18],[1,2,3,4,5,6,7,8,9,10,11,12,13,14,15,16,17,18],[],[21],[1,2,3,4,5,6,7,8,9,10,11,12,13,14,15,16,17,18,19,21,22]]++[List.range 24,List.range 25,List.range 26]) [(23,2)]:=⟨trivial⟩
instance (priority:=1043):DRD 25 155 8 [143,144,145,146,147,148,149,150] [] ([[],[0],[],[],[],[],[2,3,4,5],[2,3,4,5,6]]++[List.range 8,List.range 9,List.range 10]) [(6,0)]:=⟨trivial⟩
instance (priority:=1044):DRD 10 155 18 [49,50,51,52,53,54,55,56,57,58,59,60,61,62,63,64,65,66] [] ([[],[],[1],[1,2],[1,2,3],[1,2,3,4],[0,1,2,3,4,5],[],[7],[7,8],[7,8,9],[7,8,9,10],[0,1,2,3,4,5,6,7,8,9,10,11],[],[13],[13,14],[13,14,15],[13,14,15,16]]++[List.range 18,List.range 19]) []:=⟨trivial⟩
instance (priority:=1045):DRD 15 155 8 [78,79,80,81,82,83,84,85] [] ([[],[0],[],[],[],[],[2,3,4,5],[2,3,4,5,6]]++[List.range 8,List.range 9,List.range 10]) [(6,0)]:=⟨trivial⟩
set_option maxHeartbeats 2000000 in
set_option maxRecDepth 100000 in
theorem NI (N:Nat) (ih: ∀(z3:Option Bool) (v:ar) (w_:aG) (c_:Int) (x_:(List Int)),(okW x_.length w_ w_.f)→(1≤v.g.Q)→fD w_<N→bp En 44 [.ptr 0 0,.pp 13 true (.agg [.int .i64 w_.f.Kind,.sl none 1 false (w_.f.Relation.Y.map (V.int .i64)),.sl none 1 false (w_.f.Relation.Bases.map (fun (l:List Int)=>V.sl none 1 false (l.map (V.int .i64)))),.sl none 4 true (w_.f.L.map aw),.int .i64 w_.t.C,.sl none 1 false (w_.t.P.A.map (V.int .i64)),.int .i64 w_.t.P.C,.sl none 1 false (w_.t.P.Z.map (V.int .i64)),.sl none 5 true (w_.t.L.map bB),.sl none 1 false (w_.k.map (V.int .i64)),.sl none 1 false (w_.parts.map cH),.int .i64 w_.chosen,.bool w_.done]),.int .i64 c_,.sl z3 1 false (x_.map (V.int .i64))] [.var 37 true ((bQ v))] (.agg [.int .i64 (bH v w_ c_ x_).1.C,.sl none 1 false ((bH v w_ c_ x_).1.P.A.map (V.int .i64)),.int .i64 (bH v w_ c_ x_).1.P.C,.sl none 1 false ((bH v w_ c_ x_).1.P.Z.map (V.int .i64)),.sl none 5 true ((bH v w_ c_ x_).1.L.map bB)]) [.var 37 true (bQ (bH v w_ c_ x_).2)] []) (z3:Option Bool) (v:ar) (w_:aG) (c_:Int) (x_:(List Int)) (hp0:okW x_.length w_ w_.f) (hp1:1≤v.g.Q) (hp_:fD w_<N+1):bp En 44 [.ptr 0 0,.pp 13 true (.agg [.int .i64 w_.f.Kind,.sl none 1 false (w_.f.Relation.Y.map (V.int .i64)),.sl none 1 false (w_.f.Relation.Bases.map (fun (l:List Int)=>V.sl none 1 false (l.map (V.int .i64)))),.sl none 4 true (w_.f.L.map aw),.int .i64 w_.t.C,.sl none 1 false (w_.t.P.A.map (V.int .i64)),.int .i64 w_.t.P.C,.sl none 1 false (w_.t.P.Z.map (V.int .i64)),.sl none 5 true (w_.t.L.map bB),.sl none 1 false (w_.k.map (V.int .i64)),.sl none 1 false (w_.parts.map cH),.int .i64 w_.chosen,.bool w_.done]),.int .i64 c_,.sl z3 1 false (x_.map (V.int .i64))] [.var 37 true ((bQ v))] (.agg [.int .i64 (jw v w_ c_ x_).1.C,.sl none 1 false ((jw v w_ c_ x_).1.P.A.map (V.int .i64)),.int .i64 (jw v w_ c_ x_).1.P.C,.sl none 1 false ((jw v w_ c_ x_).1.P.Z.map (V.int .i64)),.sl none 5 true ((jw v w_ c_ x_).1.L.map bB)]) [.var 37 true (bQ (jw v w_ c_ x_).2)] []:=by
 generalize hM:jw v w_ c_ x_=r
 rw [jw.eq_1] at hM
 refine cE bc bA noJ Tryz.func44 rfl Tryz.ntmps44 (by kernel_rfl) rfl fun ks hw hwB=>bz ?_
 refine spQ ?_
 replace hw:=nzQ hw
 replace hwB:=nzB hwB
 have hG0:=Me hp0
 have hF:=bT
 revert hM;revert hF
 refine cdQ (fun _ _ _=> ?_) (fun _ _ _=> ?_)
 ·intro hF hM
  subst hM
  exact aU [0] (an hF) (by decide) (an hF)
 ·refine cdQ (fun _ _ _=> ?_) (fun _ _ _=> ?_)
  ·refine cdQ (fun _ _ _=> ?_) (fun _ _ _=> ?_)
   ·refine aQ fun _ _ _ _=> ?_
    intro hF hM
    subst hM
    exact aU [0] (an hF) (by decide) (an hF)
   ·intro hF hM
    subst hM
    exact aU [0] (an hF) (by decide) (an hF)
  ·refine cdQ (fun _ _ _=> ?_) (fun _ _ _=> ?_)
   ·intro hF hM
    replace hM:=aS hM;obtain ⟨f14,d14,hf14,hd14,hM⟩:=hM
    refine eN (fun n S=> ∃p:Int×ar×List av,S=(⟨[(0,.ptr 0 0),(2,.int .i64 c_),(3,.sl z3 1 false (x_.map (V.int .i64))),(8,.ptr 1 0),(9,.ptr 2 0),(137,.sl none 1 false (w_.parts.map cH)),(138,.int .i64 (w_.parts.length:Int)),(139,.int .i64 p.1)],[(0,.lent (ks 0) 37 true ((bQ p.2.1))),(1,.var 5 true (.agg [.int .i64 0,.sl (some true) 1 false [],.int .i64 0,.sl (some true) 1 false [],.sl (some true) 5 true []])),(2,.var 5 true (.agg [.int .i64 c_,.sl (some true) 1 false [],.int .i64 0,.sl (some true) 1 false [],.own 3])),(3,.own 35 5 true none (p.2.2.map bB))],4⟩:St)∧((0≤p.1)∧(p.1≤(w_.parts.length:Int))∧((p.2.1).g.Q=v.g.Q)∧(((p.2.2).length:Int)≤p.1))∧((w_.parts.length:Int) - p.1).toNat<n∧ah n f14 d14 p=r) (((w_.parts.length:Int) - 0).toNat+1) _ _ (j_ 2 4 35 rfl rfl (by decide)) (k8 hF) (k8 hF) ⟨(0,v,([]:List av)),rfl,⟨by exact omA,by exact omA,by exact omA,by exact omA⟩,(Nat.lt_succ_self _),hM⟩ ?_
    clear hM
    rintro n14 S ⟨p14,rfl,hfa14,hm14,hM⟩
    replace hM:=aT hM (by omega) hf14;obtain ⟨ag14,hag14,hM⟩:=hM
    replace hfa14:=nzQ hfa14
    replace hm14:=nzQ hm14
    have ha14:ao .i64 p14.1 1=p14.1+1:=bl (by exact omA) (by exact omA)
    replace hF:=(And.intro ha14 hF)
    revert hM;revert hF
    refine slQ ?_
    refine cdQ (fun _ _ _=> ?_) (fun _ _ _=> ?_)
    ·intro hF hM
     replace hM:=au hM;obtain ⟨x18,hx19,hM⟩:=hM
     have hcx18:=ih z3 (p14.2.1) (gt w_.parts p14.1) c_ x_ (by (first|exact ku hp_ (by omega)|exact (qt hp0 (by assumption) (by assumption) (aK (by omega))).1|omega)) (by (first|exact ku hp_ (by omega)|exact (qt hp0 (by assumption) (by assumption) (aK (by omega))).1|omega)) (by (exact ku hp_ (by omega)))
     rw [←hx19] at hcx18
     refine iv 0 hcx18 rfl rfl (an hF) (an hF) (an hF) (an hF) (an hF) ?_
     revert hM;revert hF
     refine slQ ?_
     have hq20:=Dz hx19
     replace hq20:=nzQ hq20
     exact auR
    ·intro hF hM
     subst hM
     exact aU [0] (an hF) (by decide) (an hF)
   ·intro hF hM
    replace hM:=aS hM;obtain ⟨f23,d23,hf23,hd23,hM⟩:=hM
    refine bk (fun n S=> ∃p:Int×Int,S=(⟨[(0,.ptr 0 0),(1,.pp 13 true (.agg [.int .i64 w_.f.Kind,.sl none 1 false (w_.f.Relation.Y.map (V.int .i64)),.sl none 1 false (w_.f.Relation.Bases.map (fun (l:List Int)=>V.sl none 1 false (l.map (V.int .i64)))),.sl none 4 true (w_.f.L.map aw),.int .i64 w_.t.C,.sl none 1 false (w_.t.P.A.map (V.int .i64)),.int .i64 w_.t.P.C,.sl none 1 false (w_.t.P.Z.map (V.int .i64)),.sl none 5 true (w_.t.L.map bB),.sl none 1 false (w_.k.map (V.int .i64)),.sl none 1 false (w_.parts.map cH),.int .i64 w_.chosen,.bool w_.done])),(3,.sl z3 1 false (x_.map (V.int .i64))),(8,.ptr 1 0),(9,.ptr 2 0),(12,.int .i64 p.1),(36,.sl none 1 false (w_.parts.map cH)),(37,.int .i64 (w_.parts.length:Int)),(38,.int .i64 p.2)],[(0,.lent (ks 0) 37 true ((bQ v))),(1,.var 5 true (.agg [.int .i64 0,.sl (some true) 1 false [],.int .i64 0,.sl (some true) 1 false [],.sl (some true) 5 true []])),(2,.var 5 true (.agg [.int .i64 c_,.sl (some true) 1 false [],.int .i64 0,.sl (some true) 1 false [],.sl (some true) 5 true []]))],3⟩:St)∧((0≤p.2)∧(p.2≤(w_.parts.length:Int))∧((v).g.Q=v.g.Q))∧((w_.parts.length:Int) - p.2).toNat<n∧ah n f23 d23 p=r) (((w_.parts.length:Int) - 0).toNat+1) _ (k8 hF) (k8 hF) ⟨(c_,0),rfl,⟨by exact omA,by exact omA,by exact omA⟩,(Nat.lt_succ_self _),hM⟩ ?_
    clear hM
    rintro n23 S ⟨p23,rfl,hfa23,hm23,hM⟩
    replace hM:=aT hM (by omega) hf23;obtain ⟨ag23,hag23,hM⟩:=hM
    replace hfa23:=nzQ hfa23
    replace hm23:=nzQ hm23
    have ha23:ao .i64 p23.2 1=p23.2+1:=bl (by exact omA) (by exact omA)
    replace hF:=(And.intro ha23 hF)
    revert hM;revert hF
    refine slQ ?_
    refine aW fun _ _ _=> ?_
    intro hF hM
    replace hM:=aS hM;obtain ⟨f31,d31,hf31,hd31,hM⟩:=hM
    refine eN (fun n S=> ∃p:Int×ar×List av,S=(⟨[(0,.ptr 0 0),(3,.sl z3 1 false (x_.map (V.int .i64))),(8,.ptr 1 0),(9,.ptr 2 0),(12,.int .i64 p23.1),(72,.sl none 1 false (w_.parts.map cH)),(73,.int .i64 (w_.parts.length:Int)),(74,.int .i64 p.1)],[(0,.lent (ks 0) 37 true ((bQ p.2.1))),(1,.var 5 true (.agg [.int .i64 0,.sl (some true) 1 false [],.int .i64 0,.sl (some true) 1 false [],.sl (some true) 5 true []])),(2,.var 5 true (.agg [.int .i64 c_,.sl (some true) 1 false [],.int .i64 0,.sl (some true) 1 false [],.own 3])),(3,.own 35 5 true none (p.2.2.map bB))],4⟩:St)∧((0≤p.1)∧(p.1≤(w_.parts.length:Int))∧((p.2.1).g.Q=v.g.Q)∧(((p.2.2).length:Int)≤p.1))∧((w_.parts.length:Int) - p.1).toNat<n∧ah n f31 d31 p=r) (((w_.parts.length:Int) - 0).toNat+1) _ _ (j_ 2 4 35 rfl rfl (by decide)) (k8 hF) (k8 hF) ⟨(0,v,([]:List av)),rfl,⟨by exact omA,by exact omA,by exact omA,by exact omA⟩,(Nat.lt_succ_self _),hM⟩ ?_
    clear hM
    rintro n31 S ⟨p31,rfl,hfa31,hm31,hM⟩
    replace hM:=aT hM (by omega) hf31;obtain ⟨ag31,hag31,hM⟩:=hM
    replace hfa31:=nzQ hfa31
    replace hm31:=nzQ hm31
    have ha31:ao .i64 p31.1 1=p31.1+1:=bl (by exact omA) (by exact omA)
    replace hF:=(And.intro ha31 hF)
    revert hM;revert hF
    refine slQ ?_
    refine cdQ (fun _ _ _=> ?_) (fun _ _ _=> ?_)
    ·intro hF hM
     replace hM:=au hM;obtain ⟨x35,hx36,hM⟩:=hM
     have hcx35:=ih z3 (p31.2.1) (gt w_.parts p31.1) (p23.1) x_ (by (first|exact ku hp_ (by omega)|exact (qt hp0 (by assumption) (by assumption) (aK (by omega))).1|omega)) (by (first|exact ku hp_ (by omega)|exact (qt hp0 (by assumption) (by assumption) (aK (by omega))).1|omega)) (by (exact ku hp_ (by omega)))
     rw [←hx36] at hcx35
     refine iv 0 hcx35 rfl rfl (an hF) (an hF) (an hF) (an hF) (an hF) ?_
     revert hM;revert hF
     refine slQ ?_
     have hq37:=Dz hx36
     replace hq37:=nzQ hq37
     exact auR
    ·intro hF hM
     subst hM
     exact aU [0] (an hF) (by decide) (an hF)
theorem NJ: ∀(N:Nat) (z3:Option Bool) (v:ar) (w_:aG) (c_:Int) (x_:(List Int)),(okW x_.length w_ w_.f)→(1≤v.g.Q)→fD w_<N→bp En 44 [.ptr 0 0,.pp 13 true (.agg [.int .i64 w_.f.Kind,.sl none 1 false (w_.f.Relation.Y.map (V.int .i64)),.sl none 1 false (w_.f.Relation.Bases.map (fun (l:List Int)=>V.sl none 1 false (l.map (V.int .i64)))),.sl none 4 true (w_.f.L.map aw),.int .i64 w_.t.C,.sl none 1 false (w_.t.P.A.map (V.int .i64)),.int .i64 w_.t.P.C,.sl none 1 false (w_.t.P.Z.map (V.int .i64)),.sl none 5 true (w_.t.L.map bB),.sl none 1 false (w_.k.map (V.int .i64)),.sl none 1 false (w_.parts.map cH),.int .i64 w_.chosen,.bool w_.done]),.int .i64 c_,.sl z3 1 false (x_.map (V.int .i64))] [.var 37 true ((bQ v))] (.agg [.int .i64 (bH v w_ c_ x_).1.C,.sl none 1 false ((bH v w_ c_ x_).1.P.A.map (V.int .i64)),.int .i64 (bH v w_ c_ x_).1.P.C,.sl none 1 false ((bH v w_ c_ x_).1.P.Z.map (V.int .i64)),.sl none 5 true ((bH v w_ c_ x_).1.L.map bB)]) [.var 37 true (bQ (bH v w_ c_ x_).2)] []:=by
 intro N
 induction N with
 | zero=>intro z3 v w_ c_ x_ h0 h1 h;exact absurd h (Nat.not_lt_zero _)
 | succ N ih=>
  intro z3 v w_ c_ x_ h0 h1 h
  have h9:=NI N ih z3 v w_ c_ x_ h0 h1 h
  rw [LU] at h9
  exact h9
theorem NL (z3:Option Bool) (v:ar) (w_:aG) (c_:Int) (x_:(List Int)) (hp0:okW x_.length w_ w_.f) (hp1:1≤v.g.Q):bp En 44 [.ptr 0 0,.pp 13 true (.agg [.int .i64 w_.f.Kind,.sl none 1 false (w_.f.Relation.Y.map (V.int .i64)),.sl none 1 false (w_.f.Relation.Bases.map (fun (l:List Int)=>V.sl none 1 false (l.map (V.int .i64)))),.sl none 4 true (w_.f.L.map aw),.int .i64 w_.t.C,.sl none 1 false (w_.t.P.A.map (V.int .i64)),.int .i64 w_.t.P.C,.sl none 1 false (w_.t.P.Z.map (V.int .i64)),.sl none 5 true (w_.t.L.map bB),.sl none 1 false (w_.k.map (V.int .i64)),.sl none 1 false (w_.parts.map cH),.int .i64 w_.chosen,.bool w_.done]),.int .i64 c_,.sl z3 1 false (x_.map (V.int .i64))] [.var 37 true ((bQ v))] (.agg [.int .i64 (bH v w_ c_ x_).1.C,.sl none 1 false ((bH v w_ c_ x_).1.P.A.map (V.int .i64)),.int .i64 (bH v w_ c_ x_).1.P.C,.sl none 1 false ((bH v w_ c_ x_).1.P.Z.map (V.int .i64)),.sl none 5 true ((bH v w_ c_ x_).1.L.map bB)]) [.var 37 true (bQ (bH v w_ c_ x_).2)] []:=
 NJ (fD w_+1) z3 v w_ c_ x_ hp0 hp1 (Nat.lt_succ_self _)
instance (priority:=1046):DRD 16 149 10 [19,108,109,110,111,112,113,114,115,116] [] ([[],[],[],[],[3],[0,1,2,3,4],[0,1,2,3,4,5],[0,1,2,3,4,5,6],[0,1,2,3,4,5,6],[0,1,2,3,4,5,6,7]]++[List.range 10]) []:=⟨trivial⟩
instance (priority:=1047):DRD 22 149 6 [144,145,146,147,148] [] ([[],[],[1],[1,2],[1,2,3],[0]]++[List.range 6,List.range 7]) [(5,3)]:=⟨trivial⟩
set_option maxHeartbeats 2000000 in
set_option maxRecDepth 100000 in
instance Su (g:ak) (f_:aa) (x_:(List Int)) (label:(List UInt8)) (d_:bm):CM En (oi g f_ x_ label d_) 13 [.agg [.int .i64 g.P,.int .i64 g.Q,.int .i64 g.G],.agg [.int .i64 f_.Kind,.sl none 1 false (f_.Relation.Y.map (V.int .i64)),.sl none 1 false (f_.Relation.Bases.map (fun (l:List Int)=>V.sl none 1 false (l.map (V.int .i64)))),.sl none 4 true (f_.L.map aw)],.sl none 1 false (x_.map (V.int .i64)),.str label,(dO d_)] (fun y=> .tup [.agg [.int .i64 y.1.C,.sl none 1 false (y.1.P.A.map (V.int .i64)),.int .i64 y.1.P.C,.sl none 1 false (y.1.P.Z.map (V.int .i64)),.sl none 5 true (y.1.L.map bB)],(dO y.2.1),.int .i64 y.2.2]) (fun _=> []):=by
 refine enQ noJ Tryz.func13 Tryz.ntmps13 (oi.eq_1 ..) fun r hw=> ?_
 refine aQ fun _ _ _ _=> ?_
 refine aE fun _ _ _=> ?_
 refine aQ fun _ hx7 _ _=> ?_
 have hq10:=tE hx7
 replace hq10:=nzQ hq10
 refine aE fun _ _ _=> ?_
 refine aQ fun _ _ _ _=> ?_
 refine aE fun _ _ _=> ?_
 intro hF hM
 replace hM:=au hM;obtain ⟨x18,hx19,hM⟩:=hM
 have hcx18:=oz f_ (by (exact (bY ‹_=bD _ _› (by assumption)).1))
 rw [←hx19] at hcx18
 refine aV hcx18 clQ clQ (fun hw20=> ?_)
 replace hw20:=nzQ hw20
 revert hM;revert hF
 refine slQ ?_
 refine aW fun _ _ _=> ?_
 refine aQ fun _ _ _ _=> ?_
 refine aW fun _ _ _=> ?_
 intro hF hM
 replace hM:=au hM;obtain ⟨x36,hx37,hM⟩:=hM
 have hcx36:=yl none g f_ x_ (by (exact (da (bY ‹_=bD _ _› (by assumption)).1 (by omega))))
 rw [←hx37] at hcx36
 refine aV hcx36 clQ clQ (fun hw38=> ?_)
 replace hw38:=nzQ hw38
 revert hM;revert hF
 refine slQ ?_
 refine aW fun _ _ _=> ?_
 refine aQ fun x45 _ _ _=> ?_
 refine aW fun _ _ _=> ?_
 intro hF hM
 replace hM:=au hM;obtain ⟨x55,hx56,hM⟩:=hM
 have hcx55:=Nr none ({g:=g,d:=d_,e:=0}:ar) f_ x_ (by (first|exact (da (bY ‹_=bD _ _› (by assumption)).1 (by omega))|exact (bY ‹_=bD _ _› (by assumption)).2.1|exact (bY ‹_=bD _ _› (by assumption)).2.2)) (by (first|exact (da (bY ‹_=bD _ _› (by assumption)).1 (by omega))|exact (bY ‹_=bD _ _› (by assumption)).2.1|exact (bY ‹_=bD _ _› (by assumption)).2.2)) (by (first|exact (da (bY ‹_=bD _ _› (by assumption)).1 (by omega))|exact (bY ‹_=bD _ _› (by assumption)).2.1|exact (bY ‹_=bD _ _› (by assumption)).2.2))
 rw [←hx56] at hcx55
 refine bL [6] hcx55 (by decide) lsQ lsQ (fun hw57=> ?_)
 replace hw57:=nzQ hw57
 revert hM;revert hF
 refine slQ ?_
 refine aW fun _ _ _=> ?_
 intro hF hM
 replace hM:=au hM;obtain ⟨x64,hx65,hM⟩:=hM
 have hcx64:=Nw (x55.1) (by (first|exact ⟨_,(kv ‹_=aL _ _ _› (da (bY ‹_=bD _ _› (by assumption)).1 (by omega))).1⟩|exact oy ‹_=aL _ _ _› (da (bY ‹_=bD _ _› (by assumption)).1 (by omega)) (bY ‹_=bD _ _› (by assumption)).2.1)) (by (first|exact ⟨_,(kv ‹_=aL _ _ _› (da (bY ‹_=bD _ _› (by assumption)).1 (by omega))).1⟩|exact oy ‹_=aL _ _ _› (da (bY ‹_=bD _ _› (by assumption)).1 (by omega)) (bY ‹_=bD _ _› (by assumption)).2.1))
 rw [←hx65] at hcx64
 refine cN hcx64 clQ clQ ?_
 revert hM;revert hF
 refine slQ ?_
 have hq66:=(qu hx65 ⟨_,(kv ‹_=aL _ _ _› (da (bY ‹_=bD _ _› (by assumption)).1 (by omega))).1⟩ (oy ‹_=aL _ _ _› (da (bY ‹_=bD _ _› (by assumption)).1 (by omega)) (bY ‹_=bD _ _› (by assumption)).2.1)).1
 replace hq66:=nzQ hq66
 intro hF hM
 replace hM:=au hM;obtain ⟨x67,hx68,hM⟩:=hM
 have hcx67:=cmH hx68 (DS g (x45.1) label x64 (by (clear hM;first|omega|exact (qu ‹_=dj _› ⟨_,(kv ‹_=aL _ _ _› (da (bY ‹_=bD _ _› (by assumption)).1 (by omega))).1⟩ (oy ‹_=aL _ _ _› (da (bY ‹_=bD _ _› (by assumption)).1 (by omega)) (bY ‹_=bD _ _› (by assumption)).2.1)).2)) (by (clear hM;first|omega|exact (qu ‹_=dj _› ⟨_,(kv ‹_=aL _ _ _› (da (bY ‹_=bD _ _› (by assumption)).1 (by omega))).1⟩ (oy ‹_=aL _ _ _› (da (bY ‹_=bD _ _› (by assumption)).1 (by omega)) (bY ‹_=bD _ _› (by assumption)).2.1)).2)) (by (clear hM;first|omega|exact (qu ‹_=dj _› ⟨_,(kv ‹_=aL _ _ _› (da (bY ‹_=bD _ _› (by assumption)).1 (by omega))).1⟩ (oy ‹_=aL _ _ _› (da (bY ‹_=bD _ _› (by assumption)).1 (by omega)) (bY ‹_=bD _ _› (by assumption)).2.1)).2)))
 refine cN hcx67 clQ clQ ?_
 revert hM;revert hF
 refine slQ ?_
 refine aW fun _ _ _=> ?_
 intro hF hM
 replace hM:=au hM;obtain ⟨x75,hx76,hM⟩:=hM
 have hcx75:=NL none (x55.2) (x55.1) (x67.1) x_ (by (first|exact (kv ‹_=aL _ _ _› (da (bY ‹_=bD _ _› (by assumption)).1 (by omega))).1|(have h96:=tK ‹_=aL _ _ _› (da (bY ‹_=bD _ _› (by assumption)).1 (by omega));have h95:=(bY ‹_=bD _ _› (by assumption));dsimp only at h96;omega))) (by (first|exact (kv ‹_=aL _ _ _› (da (bY ‹_=bD _ _› (by assumption)).1 (by omega))).1|(have h96:=tK ‹_=aL _ _ _› (da (bY ‹_=bD _ _› (by assumption)).1 (by omega));have h95:=(bY ‹_=bD _ _› (by assumption));dsimp only at h96;omega)))
 rw [←hx76] at hcx75
 refine bL [6] hcx75 (by decide) lsQ lsQ (fun hw77=> ?_)
 replace hw77:=nzQ hw77
 exact auP
set_option maxHeartbeats 2000000 in
set_option maxRecDepth 100000 in
theorem NM (N:Nat) (ih: ∀(f_:aa),(okF f_)→ay f_<N→aI En 45 [.agg [.int .i64 f_.Kind,.sl none 1 false (f_.Relation.Y.map (V.int .i64)),.sl none 1 false (f_.Relation.Bases.map (fun (l:List Int)=>V.sl none 1 false (l.map (V.int .i64)))),.sl none 4 true (f_.L.map aw)]] (.int .i64 (bf f_)) []) (f_:aa) (hp0:okF f_) (hp_:ay f_<N+1):aI En 45 [.agg [.int .i64 f_.Kind,.sl none 1 false (f_.Relation.Y.map (V.int .i64)),.sl none 1 false (f_.Relation.Bases.map (fun (l:List Int)=>V.sl none 1 false (l.map (V.int .i64)))),.sl none 4 true (f_.L.map aw)]] (.int .i64 (qh f_)) []:=by
 generalize hM:qh f_=r
 rw [qh.eq_1] at hM
 refine ci bc bA noJ Tryz.func45 rfl Tryz.ntmps45 (by kernel_rfl) fun hw=>bz ?_
 refine spQ ?_
 replace hw:=nzQ hw
 have hF:=bT
 revert hM;revert hF
 refine cdQ (fun _ _ _=> ?_) (fun _ _ _=> ?_)
 ·intro hF hM
  replace hM:=au hM;obtain ⟨x3,hx4,hM⟩:=hM
  have hcx3:=cmH hx4 (tP (f_.Relation) (by (have h9:=xC hp0 (by assumption);omega)))
  refine aV hcx3 clQ clQ (fun hw5=> ?_)
  replace hw5:=nzQ hw5
  exact auP
 ·intro hF hM
  replace hM:=aS hM;obtain ⟨f7,d7,hf7,hd7,hM⟩:=hM
  refine bk (fun n S=> ∃p:Int×Int,S=(⟨[(1,.ptr 0 0),(3,.int .i64 p.1),(4,.int .i64 p.2)],[(0,.var 4 true (.agg [.int .i64 f_.Kind,.sl none 1 false (f_.Relation.Y.map (V.int .i64)),.sl none 1 false (f_.Relation.Bases.map (fun (l:List Int)=>V.sl none 1 false (l.map (V.int .i64)))),.sl none 4 true (f_.L.map aw)]))],1⟩:St)∧((0≤p.2)∧(p.2≤(f_.L.length:Int)))∧((f_.L.length:Int) - p.2).toNat<n∧ah n f7 d7 p=r) (((f_.L.length:Int) - 0).toNat+1) _ sbQ sbQ ⟨(0,0),rfl,⟨omQ,omQ⟩,(Nat.lt_succ_self _),hM⟩ ?_
  clear hM
  rintro n7 S ⟨p7,rfl,hfa7,hm7,hM⟩
  replace hM:=aT hM (by omega) hf7;obtain ⟨ag7,hag7,hM⟩:=hM
  replace hfa7:=nzQ hfa7
  replace hm7:=nzQ hm7
  have ha7:ao .i64 p7.2 1=p7.2+1:=bl omQ omQ
  replace hF:=(And.intro ha7 hF)
  revert hM;revert hF
  refine slQ ?_
  refine aE fun _ _ _=> ?_
  intro hF hM
  replace hM:=au hM;obtain ⟨x11,hx12,hM⟩:=hM
  have hcx11:=ih (gt f_.L p7.2) (by (first|exact dP hp_ (by omega)|exact lC hp0 (by assumption) (aK (by omega)))) (by (exact dP hp_ (by omega)))
  rw [←hx12] at hcx11
  refine aV hcx11 (aD hF) (aD hF) (fun hw13=> ?_)
  replace hw13:=nzQ hw13
  revert hM;revert hF
  refine slQ ?_
  intro hF hM
  refine aP (n7 - 1) _ (by omega) sbQ sbQ ⟨((b_ p7.1 x11),(p7.2+1)),rfl,⟨omQ,omQ⟩,omQ,aN hM hag7⟩
theorem NN: ∀(N:Nat) (f_:aa),(okF f_)→ay f_<N→aI En 45 [.agg [.int .i64 f_.Kind,.sl none 1 false (f_.Relation.Y.map (V.int .i64)),.sl none 1 false (f_.Relation.Bases.map (fun (l:List Int)=>V.sl none 1 false (l.map (V.int .i64)))),.sl none 4 true (f_.L.map aw)]] (.int .i64 (bf f_)) []:=by
 intro N
 induction N with
 | zero=>intro f_ h0 h;exact absurd h (Nat.not_lt_zero _)
 | succ N ih=>
  intro f_ h0 h
  have h9:=NM N ih f_ h0 h
  rw [L8] at h9
  exact h9
theorem NO (f_:aa) (hp0:okF f_):aI En 45 [.agg [.int .i64 f_.Kind,.sl none 1 false (f_.Relation.Y.map (V.int .i64)),.sl none 1 false (f_.Relation.Bases.map (fun (l:List Int)=>V.sl none 1 false (l.map (V.int .i64)))),.sl none 4 true (f_.L.map aw)]] (.int .i64 (bf f_)) []:=
 NN (ay f_+1) f_ hp0 (Nat.lt_succ_self _)
instance (priority:=1048):DRD 4 26 12 [12,13,14,15,16,17,18,19,20,21,22,23] [] ([[],[],[0,1],[0,1,2],[0,1,2,3],[0,1,2,3,4],[0,1,2,3,4,5],[0,1,2,3,4,5],[0,1,2,3,4,5,6,7],[0,1,2,3,4,5,6,7,8],[0,1,2,3,4,5],[0,1,2,3,4,5,10]]++[List.range 12,List.range 13]) []:=⟨trivial⟩
set_option maxHeartbeats 2000000 in
set_option maxRecDepth 100000 in
instance Sv (g:ak) (l:(List Int)):CM En (fo g l) 46 [.agg [.int .i64 g.P,.int .i64 g.Q,.int .i64 g.G],.sl none 1 false (l.map (V.int .i64))] (fun y=> .bool y) (fun _=> []):=by
 refine enQ noJ Tryz.func46 Tryz.ntmps46 (fo.eq_1 ..) fun r hw=> ?_
 intro hF hM
 replace hM:=aS hM;obtain ⟨f1,d1,hf1,hd1,hM⟩:=hM
 refine bk (fun n S=> ∃p:Int,S=(⟨[(1,.sl none 1 false (l.map (V.int .i64))),(2,.ptr 0 0),(5,.int .i64 p)],[(0,.var 3 true (.agg [.int .i64 g.P,.int .i64 g.Q,.int .i64 g.G]))],1⟩:St)∧((0≤p)∧(p≤(l.length:Int)))∧((l.length:Int) - p).toNat<n∧ah n f1 d1 p=r) (((l.length:Int) - 0).toNat+1) _ sbQ sbQ ⟨0,rfl,⟨omQ,omQ⟩,(Nat.lt_succ_self _),hM⟩ ?_
 clear hM
 rintro n1 S ⟨p1,rfl,hfa1,hm1,hM⟩
 replace hM:=aT hM (by omega) hf1;obtain ⟨ag1,hag1,hM⟩:=hM
 replace hfa1:=nzQ hfa1
 replace hm1:=nzQ hm1
 have ha1:ao .i64 p1 1=p1+1:=bl omQ omQ
 replace hF:=(And.intro ha1 hF)
 revert hM;revert hF
 refine slQ ?_
 refine aE fun _ _ _=> ?_
 refine aE fun _ _ _=> ?_
 refine aW fun _ _ _=> ?_
 intro hF hM
 refine aP (n1 - 1) _ (by omega) sbQ sbQ ⟨(p1+1),rfl,⟨omQ,omQ⟩,omQ,aN hM hag1⟩
set_option maxHeartbeats 2000000 in
set_option maxRecDepth 100000 in
theorem NP (x_:(List Int)) (n_:Int) (hp0:0≤n_) (hp1:n_≤(x_.length:Int)):CM En (ol x_ n_) 97 [.sl none 1 false (x_.map (V.int .i64)),.int .i64 n_] (fun y=> .sl none 1 false (y.map (V.int .i64))) (fun _=> []):=by
 refine enQ noJ Tryz.func97 Tryz.ntmps97 (ol.eq_1 ..) fun r hw=> ?_
 intro hF hM
 replace hM:=aS hM;obtain ⟨f1,d1,hf1,hd1,hM⟩:=hM
 refine eN (fun n S=> ∃p:Int×List Int,S=(⟨[(0,.sl none 1 false (x_.map (V.int .i64))),(1,.int .i64 n_),(5,.own 0),(6,.int .i64 p.1)],[(0,.own 3 1 false none (p.2.map (V.int .i64)))],1⟩:St)∧((0≤p.1)∧(p.1≤n_)∧(((p.2).length:Int)≤p.1))∧(n_ - p.1).toNat<n∧ah n f1 d1 p=r) ((n_ - 0).toNat+1) _ _ (jZ 5 3 rfl (by decide)) sbQ sbQ ⟨(0,([]:List Int)),rfl,⟨omQ,omQ,omQ⟩,(Nat.lt_succ_self _),hM⟩ ?_
 clear hM
 rintro n1 S ⟨p1,rfl,hfa1,hm1,hM⟩
 replace hM:=aT hM (by omega) hf1;obtain ⟨ag1,hag1,hM⟩:=hM
 replace hfa1:=nzQ hfa1
 replace hm1:=nzQ hm1
 have ha1:ao .i64 p1.1 1=p1.1+1:=bl omQ omQ
 replace hF:=(And.intro ha1 hF)
 revert hM;revert hF
 refine slQ ?_
 refine aE fun _ _ _=> ?_
 intro hF hM
 refine aP (n1 - 1) _ (by omega) sbQ sbQ ⟨((p1.1+1),(p1.2++([(gt x_ p1.1)]:List Int))),rfl,⟨omQ,omQ,omQ⟩,omQ,aN hM hag1⟩
instance (priority:=1049):DRD 5 31 14 [15,16,17,18,19,20,21,22,23,24,25,26,27,28] [] ([[],[],[],[1,2],[1,2,3],[],[],[5,6],[5,6,7],[],[9],[1,2,3,4,5,6,7,8,9,10],[],[12]]++[List.range 14,List.range 15]) []:=⟨trivial⟩
set_option maxHeartbeats 2000000 in
set_option maxRecDepth 100000 in
theorem NQ (g:ak) (bases:(List Int)) (exps:(List Int)) (hp0:3≤g.P) (hp1:g.P<2305843009213693952) (hp2: ∀x∈bases,0≤x∧x<g.P) (hp3: ∀x∈exps,0≤x) (hp4:bases.length≤exps.length):CM En (qi g bases exps) 117 [.agg [.int .i64 g.P,.int .i64 g.Q,.int .i64 g.G],.sl none 1 false (bases.map (V.int .i64)),.sl none 1 false (exps.map (V.int .i64))] (fun y=> .int .i64 y) (fun _=> []):=by
 refine enQ noJ Tryz.func117 Tryz.ntmps117 (qi.eq_1 ..) fun r hw=> ?_
 intro hF hM
 replace hM:=aS hM;obtain ⟨f1,d1,hf1,hd1,hM⟩:=hM
 refine bk (fun n S=> ∃p:Int×Int,S=(⟨[(1,.sl none 1 false (bases.map (V.int .i64))),(2,.sl none 1 false (exps.map (V.int .i64))),(3,.ptr 0 0),(7,.int .i64 p.1),(8,.int .i64 p.2)],[(0,.var 3 true (.agg [.int .i64 g.P,.int .i64 g.Q,.int .i64 g.G]))],1⟩:St)∧((0≤p.2)∧(p.2≤(bases.length:Int))∧(0≤p.1)∧(p.1<g.P))∧((bases.length:Int) - p.2).toNat<n∧ah n f1 d1 p=r) (((bases.length:Int) - 0).toNat+1) _ sbQ sbQ ⟨(1,0),rfl,⟨omQ,omQ,omQ,omQ⟩,(Nat.lt_succ_self _),hM⟩ ?_
 clear hM
 rintro n1 S ⟨p1,rfl,hfa1,hm1,hM⟩
 replace hM:=aT hM (by omega) hf1;obtain ⟨ag1,hag1,hM⟩:=hM
 replace hfa1:=nzQ hfa1
 replace hm1:=nzQ hm1
 have ha1:ao .i64 p1.2 1=p1.2+1:=bl omQ omQ
 replace hF:=(And.intro ha1 hF)
 revert hM;revert hF
 refine slQ ?_
 refine aE fun _ _ _=> ?_
 intro hF hM
 replace hM:=au hM;obtain ⟨x6,hx7,hM⟩:=hM
 have hcx6:=cmH hx7 (tO (gt bases p1.2) (gt exps p1.2) (g.P) (by (first|exact (hp2 _ (aK (by omega))).1|exact (hp2 _ (aK (by omega))).2|exact hp3 _ (aK (by omega))|omega)) (by (first|exact (hp2 _ (aK (by omega))).1|exact (hp2 _ (aK (by omega))).2|exact hp3 _ (aK (by omega))|omega)) (by (first|exact (hp2 _ (aK (by omega))).1|exact (hp2 _ (aK (by omega))).2|exact hp3 _ (aK (by omega))|omega)) (by (first|exact (hp2 _ (aK (by omega))).1|exact (hp2 _ (aK (by omega))).2|exact hp3 _ (aK (by omega))|omega)))
 refine cN hcx6 (aD hF) (aD hF) ?_
 revert hM;revert hF
 refine slQ ?_
 have hq8:=xx hx7 (hp2 _ (aK (by omega))).1 (hp2 _ (aK (by omega))).2
 replace hq8:=nzQ hq8
 intro hF hM
 replace hM:=au hM;obtain ⟨x9,hx10,hM⟩:=hM
 have hcx9:=cmH hx10 (qw (p1.1) x6 (g.P) (by (omega)) (by (omega)) (by (omega)) (by (omega)))
 refine aV hcx9 (aD hF) (aD hF) (fun hw11=> ?_)
 replace hw11:=nzQ hw11
 revert hM;revert hF
 refine slQ ?_
 have hq12:=lA hx10 (by omega) (by omega) (by omega)
 replace hq12:=nzQ hq12
 intro hF hM
 refine aP (n1 - 1) _ (by omega) sbQ sbQ ⟨(x9,(p1.2+1)),rfl,⟨omQ,omQ,omQ,omQ⟩,omQ,aN hM hag1⟩
instance (priority:=1050):DRD 5 28 10 [16,17,18,19,20,21,22,23,24,25] [] ([[],[],[],[2],[],[2,3,4],[2,3,4,5],[],[1,2,3,4,5,6,7],[1,2,3,4,5,6,7,8]]++[List.range 10,List.range 11]) []:=⟨trivial⟩
set_option maxHeartbeats 2000000 in
set_option maxRecDepth 100000 in
theorem NR (g:ak) (r_:aF) (k_:(List Int)) (hp0:jC g r_) (hp1: ∀x∈k_,0≤x) (hp2:(k_.length:Int)=dG r_):CM En (qj g r_ k_) 145 [.agg [.int .i64 g.P,.int .i64 g.Q,.int .i64 g.G],.agg [.sl none 1 false (r_.Y.map (V.int .i64)),.sl none 1 false (r_.Bases.map (fun (l:List Int)=>V.sl none 1 false (l.map (V.int .i64))))],.sl none 1 false (k_.map (V.int .i64))] (fun y=> .sl none 1 false (y.map (V.int .i64))) (fun _=> []):=by
 refine enQ noJ Tryz.func145 Tryz.ntmps145 (qj.eq_1 ..) fun r hw=> ?_
 have h0_0:=tD hp0
 intro hF hM
 replace hM:=aS hM;obtain ⟨f1,d1,hf1,hd1,hM⟩:=hM
 refine eN (fun n S=> ∃p:Int×List Int,S=(⟨[(2,.sl none 1 false (k_.map (V.int .i64))),(3,.ptr 0 0),(4,.ptr 1 0),(7,.own 2),(8,.int .i64 p.1)],[(0,.var 3 true (.agg [.int .i64 g.P,.int .i64 g.Q,.int .i64 g.G])),(1,.var 2 true (.agg [.sl none 1 false (r_.Y.map (V.int .i64)),.sl none 1 false (r_.Bases.map (fun (l:List Int)=>V.sl none 1 false (l.map (V.int .i64))))])),(2,.own 3 1 false none (p.2.map (V.int .i64)))],3⟩:St)∧((0≤p.1)∧(p.1≤(r_.Y.length:Int))∧(((p.2).length:Int)≤p.1))∧((r_.Y.length:Int) - p.1).toNat<n∧ah n f1 d1 p=r) (((r_.Y.length:Int) - 0).toNat+1) _ _ (jZ 7 3 rfl (by decide)) sbQ sbQ ⟨(0,([]:List Int)),rfl,⟨omQ,omQ,omQ⟩,(Nat.lt_succ_self _),hM⟩ ?_
 clear hM
 rintro n1 S ⟨p1,rfl,hfa1,hm1,hM⟩
 replace hM:=aT hM (by omega) hf1;obtain ⟨ag1,hag1,hM⟩:=hM
 replace hfa1:=nzQ hfa1
 replace hm1:=nzQ hm1
 have ha1:ao .i64 p1.1 1=p1.1+1:=bl omQ omQ
 replace hF:=(And.intro ha1 hF)
 revert hM;revert hF
 refine slQ ?_
 refine aE fun _ _ _=> ?_
 intro hF hM
 replace hM:=au hM;obtain ⟨x5,hx6,hM⟩:=hM
 have hcx5:=cmH hx6 (NQ g (gt r_.Bases p1.1) k_ (by (clear hM;first|exact qp hp0 (by omega)|exact hp1|exact Int.ofNat_le.1 (qq hp0 (by omega) rfl hp2)|omega)) (by (clear hM;first|exact qp hp0 (by omega)|exact hp1|exact Int.ofNat_le.1 (qq hp0 (by omega) rfl hp2)|omega)) (by (clear hM;first|exact qp hp0 (by omega)|exact hp1|exact Int.ofNat_le.1 (qq hp0 (by omega) rfl hp2)|omega)) (by (clear hM;first|exact qp hp0 (by omega)|exact hp1|exact Int.ofNat_le.1 (qq hp0 (by omega) rfl hp2)|omega)) (by (clear hM;first|exact qp hp0 (by omega)|exact hp1|exact Int.ofNat_le.1 (qq hp0 (by omega) rfl hp2)|omega)))
 refine cN hcx5 (aD hF) (aD hF) ?_
 revert hM;revert hF
 refine slQ ?_
 intro hF hM
 refine aP (n1 - 1) _ (by omega) sbQ sbQ ⟨((p1.1+1),(p1.2++([x5]:List Int))),rfl,⟨omQ,omQ,omQ⟩,omQ,aN hM hag1⟩
instance (priority:=1051):DRD 6 26 8 [17,18,19,20,21,22,23,24] [] ([[],[],[0,1],[0,1,2],[],[],[4,5],[4,5,6]]++[List.range 8]) []:=⟨trivial⟩
set_option maxHeartbeats 2000000 in
set_option maxRecDepth 100000 in
instance Sw (a_:(List Int)) (b:(List Int)):CM En (tf a_ b) 144 [.sl none 1 false (a_.map (V.int .i64)),.sl none 1 false (b.map (V.int .i64))] (fun y=> .bool y) (fun _=> []):=by
 refine enQ noJ Tryz.func144 Tryz.ntmps144 (tf.eq_1 ..) fun r hw=> ?_
 refine aW fun _ _ _=> ?_
 intro hF hM
 replace hM:=aS hM;obtain ⟨f4,d4,hf4,hd4,hM⟩:=hM
 refine bk (fun n S=> ∃p:Int,S=(⟨[(0,.sl none 1 false (a_.map (V.int .i64))),(1,.sl none 1 false (b.map (V.int .i64))),(5,.int .i64 p)],[],0⟩:St)∧((0≤p)∧(p≤(a_.length:Int)))∧((a_.length:Int) - p).toNat<n∧ah n f4 d4 p=r) (((a_.length:Int) - 0).toNat+1) _ sbQ sbQ ⟨0,rfl,⟨omQ,omQ⟩,(Nat.lt_succ_self _),hM⟩ ?_
 clear hM
 rintro n4 S ⟨p4,rfl,hfa4,hm4,hM⟩
 replace hM:=aT hM (by omega) hf4;obtain ⟨ag4,hag4,hM⟩:=hM
 replace hfa4:=nzQ hfa4
 replace hm4:=nzQ hm4
 have ha4:ao .i64 p4 1=p4+1:=bl omQ omQ
 replace hF:=(And.intro ha4 hF)
 revert hM;revert hF
 refine slQ ?_
 refine aE fun _ _ _=> ?_
 refine aW fun _ _ _=> ?_
 intro hF hM
 refine aP (n4 - 1) _ (by omega) sbQ sbQ ⟨(p4+1),rfl,⟨omQ,omQ⟩,omQ,aN hM hag4⟩
instance (priority:=1052):DRD 1 31 22 [7,8,9,10,11,12,13,14,15,16,17,18,19,20,21,22,23,24,25,26,27,28] [] ([[],[],[0,1],[0,1,2],[0,1,2,3],[0,1,2,3,4],[0,1,2,3],[0,1,2,3,6],[0,1,2,3,4,5,6,7],[0,1,2,3,4,5,6,7,8],[0,1,2,3,4,5,6,7,8,9],[0,1,2,3,4,5,6,7,8,9,10],[0,1,2,3,4,5,6,7,8,9,10],[0,1,2,3,4,5,6,7,8,9,10,11,12],[0,1,2,3,4,5,6,7,8,9,10,11,12,13],[0,1,2,3,4,5,6,7,8,9,10,11,12,13,14],[0,1,2,3,4,5,6,7,8,9,10,11,12,13,14,15],[0,1,2,3,4,5,6,7,8,9,10,11,12,13,14,15],[0,1,2,3,4,5,6,7,8,9,10,11,12,13,14,15],[0,1,2,3,4,5,6,7,8,9,10,11,12,13,14,15,16,17,18],[0,1,2,3,4,5,6,7,8,9,10,11,12,13,14,15],[0,1,2,3,4,5,6,7,8,9,10,11,12,13,14,15,20]]++[List.range 22,List.range 23,List.range 24]) []:=⟨trivial⟩
set_option maxHeartbeats 2000000 in
set_option maxRecDepth 100000 in
instance Sy (g:ak) (r_:aF) (x_:(List Int)):CM En (om g r_ x_) 96 [.agg [.int .i64 g.P,.int .i64 g.Q,.int .i64 g.G],.agg [.sl none 1 false (r_.Y.map (V.int .i64)),.sl none 1 false (r_.Bases.map (fun (l:List Int)=>V.sl none 1 false (l.map (V.int .i64))))],.sl none 1 false (x_.map (V.int .i64))] (fun y=> .bool y) (fun _=> []):=by
 refine enQ noJ Tryz.func96 Tryz.ntmps96 (om.eq_1 ..) fun r hw=> ?_
 refine slQ ?_
 refine aQ fun _ _ _ _=> ?_
 refine aE fun _ _ _=> ?_
 intro hF hM
 replace hM:=au hM;obtain ⟨x6,hx7,hM⟩:=hM
 have hcx6:=cmH hx7 (tP r_ (by (clear hM;have h9:=tD ‹jC _ _›;omega)))
 refine cN hcx6 clQ clQ ?_
 revert hM;revert hF
 refine slQ ?_
 refine aE fun _ _ _=> ?_
 refine aQ fun _ _ _ _=> ?_
 refine aE fun _ _ _=> ?_
 intro hF hM
 replace hM:=au hM;obtain ⟨x15,hx16,hM⟩:=hM
 have hcx15:=cmH hx16 (NR g r_ x_ (by (clear hM;first|exact ‹jC _ _›|exact ya ‹∀x∈x_,_›|(have h9:=‹_=dG _›;omega))) (by (clear hM;first|exact ‹jC _ _›|exact ya ‹∀x∈x_,_›|(have h9:=‹_=dG _›;omega))) (by (clear hM;first|exact ‹jC _ _›|exact ya ‹∀x∈x_,_›|(have h9:=‹_=dG _›;omega))))
 refine cN hcx15 clQ clQ ?_
 exact auP
instance (priority:=1053):DRD 2 42 8 [13,14,15,16,17,18,19,20] [] ([[],[],[1],[],[],[4],[4,5],[3,4,5,6]]++[List.range 8,List.range 9]) []:=⟨trivial⟩
instance (priority:=1054):DRD 7 42 7 [29,30,31,32,33,34,35] [] ([[],[],[1],[],[1,2,3],[1,2,3,4],[]]++[List.range 7]) []:=⟨trivial⟩
set_option maxHeartbeats 2000000 in
set_option maxRecDepth 100000 in
theorem NS (N:Nat) (ih: ∀(z2:Option Bool) (g:ak) (f_:aa) (x_:(List Int)),(okU x_.length f_)→ay f_<N→aI En 47 [.agg [.int .i64 g.P,.int .i64 g.Q,.int .i64 g.G],.agg [.int .i64 f_.Kind,.sl none 1 false (f_.Relation.Y.map (V.int .i64)),.sl none 1 false (f_.Relation.Bases.map (fun (l:List Int)=>V.sl none 1 false (l.map (V.int .i64)))),.sl none 4 true (f_.L.map aw)],.sl z2 1 false (x_.map (V.int .i64))] (.bool (gZ g f_ x_)) []) (z2:Option Bool) (g:ak) (f_:aa) (x_:(List Int)) (hp0:okU x_.length f_) (hp_:ay f_<N+1):aI En 47 [.agg [.int .i64 g.P,.int .i64 g.Q,.int .i64 g.G],.agg [.int .i64 f_.Kind,.sl none 1 false (f_.Relation.Y.map (V.int .i64)),.sl none 1 false (f_.Relation.Bases.map (fun (l:List Int)=>V.sl none 1 false (l.map (V.int .i64)))),.sl none 4 true (f_.L.map aw)],.sl z2 1 false (x_.map (V.int .i64))] (.bool (qk g f_ x_)) []:=by
 generalize hM:qk g f_ x_=r
 rw [qk.eq_1] at hM
 refine ci bc bA noJ Tryz.func47 rfl Tryz.ntmps47 (by kernel_rfl) fun hw=>bz ?_
 refine spQ ?_
 replace hw:=nzQ hw
 have hF:=bT
 revert hM;revert hF
 refine cdQ (fun _ _ _=> ?_) (fun _ _ _=> ?_)
 ·intro hF hM
  replace hM:=au hM;obtain ⟨x3,hx4,hM⟩:=hM
  have hcx3:=cmH hx4 (tP (f_.Relation) (by (have h9:=xC (mR hp0) (by assumption);omega)))
  refine cN hcx3 clQ clQ ?_
  revert hM;revert hF
  refine slQ ?_
  intro hF hM
  replace hM:=au hM;obtain ⟨x5,hx6,hM⟩:=hM
  have hcx5:=cmH hx6 (NP x_ x3 (by (first|exact (tL ‹_=dG _› hp0 (by assumption)).1|exact (tL ‹_=dG _› hp0 (by assumption)).2)) (by (first|exact (tL ‹_=dG _› hp0 (by assumption)).1|exact (tL ‹_=dG _› hp0 (by assumption)).2)))
  refine cN hcx5 clQ clQ ?_
  exact auP
 ·intro hF hM
  replace hM:=aS hM;obtain ⟨f11,d11,hf11,hd11,hM⟩:=hM
  refine bk (fun n S=> ∃p:Bool×Bool×Int,S=(⟨[(2,.sl z2 1 false (x_.map (V.int .i64))),(3,.ptr 0 0),(4,.ptr 1 0),(7,.bool p.1),(8,.bool p.2.1),(9,.int .i64 p.2.2)],[(0,.var 3 true (.agg [.int .i64 g.P,.int .i64 g.Q,.int .i64 g.G])),(1,.var 4 true (.agg [.int .i64 f_.Kind,.sl none 1 false (f_.Relation.Y.map (V.int .i64)),.sl none 1 false (f_.Relation.Bases.map (fun (l:List Int)=>V.sl none 1 false (l.map (V.int .i64)))),.sl none 4 true (f_.L.map aw)]))],2⟩:St)∧((0≤p.2.2)∧(p.2.2≤(f_.L.length:Int)))∧((f_.L.length:Int) - p.2.2).toNat<n∧ah n f11 d11 p=r) (((f_.L.length:Int) - 0).toNat+1) _ sbQ sbQ ⟨(false,true,0),rfl,⟨omQ,omQ⟩,(Nat.lt_succ_self _),hM⟩ ?_
  clear hM
  rintro n11 S ⟨p11,rfl,hfa11,hm11,hM⟩
  replace hM:=aT hM (by omega) hf11;obtain ⟨ag11,hag11,hM⟩:=hM
  replace hfa11:=nzQ hfa11
  replace hm11:=nzQ hm11
  have ha11:ao .i64 p11.2.2 1=p11.2.2+1:=bl omQ omQ
  replace hF:=(And.intro ha11 hF)
  revert hM;revert hF
  refine slQ ?_
  refine aE fun _ _ _=> ?_
  intro hF hM
  replace hM:=au hM;obtain ⟨x15,hx16,hM⟩:=hM
  have hcx15:=ih z2 g (gt f_.L p11.2.2) x_ (by (first|exact dP hp_ (by omega)|exact eI hp0 (by assumption) (aK (by omega)))) (by (exact dP hp_ (by omega)))
  rw [←hx16] at hcx15
  refine aV hcx15 (aD hF) (aD hF) (fun hw17=> ?_)
  replace hw17:=nzQ hw17
  revert hM;revert hF
  refine slQ ?_
  refine cdQ (fun _ _ _=> ?_) (fun _ _ _=> ?_)
  ·intro hF hM
   refine aP (n11 - 1) _ (by omega) sbQ sbQ ⟨(true,p11.2.1,(p11.2.2+1)),rfl,⟨omQ,omQ⟩,omQ,aN hM hag11⟩
  ·intro hF hM
   refine aP (n11 - 1) _ (by omega) sbQ sbQ ⟨(p11.1,false,(p11.2.2+1)),rfl,⟨omQ,omQ⟩,omQ,aN hM hag11⟩
theorem NT: ∀(N:Nat) (z2:Option Bool) (g:ak) (f_:aa) (x_:(List Int)),(okU x_.length f_)→ay f_<N→aI En 47 [.agg [.int .i64 g.P,.int .i64 g.Q,.int .i64 g.G],.agg [.int .i64 f_.Kind,.sl none 1 false (f_.Relation.Y.map (V.int .i64)),.sl none 1 false (f_.Relation.Bases.map (fun (l:List Int)=>V.sl none 1 false (l.map (V.int .i64)))),.sl none 4 true (f_.L.map aw)],.sl z2 1 false (x_.map (V.int .i64))] (.bool (gZ g f_ x_)) []:=by
 intro N
 induction N with
 | zero=>intro z2 g f_ x_ h0 h;exact absurd h (Nat.not_lt_zero _)
 | succ N ih=>
  intro z2 g f_ x_ h0 h
  have h9:=NS N ih z2 g f_ x_ h0 h
  rw [L9] at h9
  exact h9
theorem NU (z2:Option Bool) (g:ak) (f_:aa) (x_:(List Int)) (hp0:okU x_.length f_):aI En 47 [.agg [.int .i64 g.P,.int .i64 g.Q,.int .i64 g.G],.agg [.int .i64 f_.Kind,.sl none 1 false (f_.Relation.Y.map (V.int .i64)),.sl none 1 false (f_.Relation.Bases.map (fun (l:List Int)=>V.sl none 1 false (l.map (V.int .i64)))),.sl none 4 true (f_.L.map aw)],.sl z2 1 false (x_.map (V.int .i64))] (.bool (gZ g f_ x_)) []:=
 NT (ay f_+1) z2 g f_ x_ hp0 (Nat.lt_succ_self _)
set_option maxHeartbeats 2000000 in
set_option maxRecDepth 100000 in
instance Sz (g:ak) (f_:aa) (x_:(List Int)):CM En (jx g f_ x_) 14 [.agg [.int .i64 g.P,.int .i64 g.Q,.int .i64 g.G],.agg [.int .i64 f_.Kind,.sl none 1 false (f_.Relation.Y.map (V.int .i64)),.sl none 1 false (f_.Relation.Bases.map (fun (l:List Int)=>V.sl none 1 false (l.map (V.int .i64)))),.sl none 4 true (f_.L.map aw)],.sl none 1 false (x_.map (V.int .i64))] (fun y=> .bool y) (fun _=> []):=by
 refine enQ noJ Tryz.func14 Tryz.ntmps14 (jx.eq_1 ..) fun r hw=> ?_
 refine aQ fun _ hx2 _ _=> ?_
 have hq5:=yh hx2
 replace hq5:=nzQ hq5
 refine aE fun _ _ _=> ?_
 intro hF hM
 replace hM:=au hM;obtain ⟨x8,hx9,hM⟩:=hM
 have hcx8:=NO f_ (by (exact (yh ‹_=dI _ _› (by assumption))))
 rw [←hx9] at hcx8
 refine aV hcx8 clQ clQ (fun hw10=> ?_)
 replace hw10:=nzQ hw10
 revert hM;revert hF
 refine slQ ?_
 refine aE fun _ _ _=> ?_
 refine aQ fun _ _ _ _=> ?_
 refine aE fun _ _ _=> ?_
 intro hF hM
 replace hM:=au hM;obtain ⟨x19,hx20,hM⟩:=hM
 have hcx19:=NU none g f_ x_ (by (exact da (yh ‹_=dI _ _› (by assumption)) (by omega)))
 rw [←hx20] at hcx19
 refine aV hcx19 clQ clQ (fun hw21=> ?_)
 replace hw21:=nzQ hw21
 exact auP
set_option maxHeartbeats 2000000 in
set_option maxRecDepth 100000 in
instance SA (s:(List UInt8)):CM En (g7 s) 15 [.str s] (fun y=> .bool y) (fun _=> []):=by
 refine enQ noJ Tryz.func15 Tryz.ntmps15 (g7.eq_1 ..) fun r hw=> ?_
 refine aE fun _ _ _=> ?_
 refine aW fun _ _ _=> ?_
 intro hF hM
 replace hM:=aS hM;obtain ⟨f6,d6,hf6,hd6,hM⟩:=hM
 refine bk (fun n S=> ∃p:Int,S=(⟨[(0,.str s),(3,.int .i64 p)],[],0⟩:St)∧((0≤p)∧(p≤(s.length:Int)))∧((s.length:Int) - p).toNat<n∧ah n f6 d6 p=r) (((s.length:Int) - 0).toNat+1) _ sbQ sbQ ⟨0,rfl,⟨omQ,omQ⟩,(Nat.lt_succ_self _),hM⟩ ?_
 clear hM
 rintro n6 S ⟨p6,rfl,hfa6,hm6,hM⟩
 replace hM:=aT hM (by omega) hf6;obtain ⟨ag6,hag6,hM⟩:=hM
 replace hfa6:=nzQ hfa6
 replace hm6:=nzQ hm6
 have ha6:ao .i64 p6 1=p6+1:=bl omQ omQ
 replace hF:=(And.intro ha6 hF)
 revert hM;revert hF
 refine slQ ?_
 refine aE fun _ _ _=> ?_
 refine aE fun _ _ _=> ?_
 refine aW fun _ _ _=> ?_
 intro hF hM
 refine aP (n6 - 1) _ (by omega) sbQ sbQ ⟨(p6+1),rfl,⟨omQ,omQ⟩,omQ,aN hM hag6⟩
instance (priority:=1055):DRD 6 42 11 [11,24,25,26,27,28,29,30,31,32,33] [] ([[],[],[],[],[],[3,4],[0,1,2,3,4,5],[0,1,2,3,4,5,6],[0,1,2,3,4,5,6,7],[0,1,2,3,4,5,6,7],[0,1,2,3,4,5,6,7,8]]++[List.range 11]) []:=⟨trivial⟩
set_option maxHeartbeats 2000000 in
set_option maxRecDepth 100000 in
instance SB (g:ak) (f_:aa) (label:(List UInt8)) (t:av):CM En (oo g f_ label t) 9 [.agg [.int .i64 g.P,.int .i64 g.Q,.int .i64 g.G],.agg [.int .i64 f_.Kind,.sl none 1 false (f_.Relation.Y.map (V.int .i64)),.sl none 1 false (f_.Relation.Bases.map (fun (l:List Int)=>V.sl none 1 false (l.map (V.int .i64)))),.sl none 4 true (f_.L.map aw)],.str label,.agg [.int .i64 t.C,.sl none 1 false (t.P.A.map (V.int .i64)),.int .i64 t.P.C,.sl none 1 false (t.P.Z.map (V.int .i64)),.sl none 5 true (t.L.map bB)]] (fun y=> .bool y) (fun _=> []):=by
 refine enQ noJ Tryz.func9 Tryz.ntmps9 (oo.eq_1 ..) fun r hw=> ?_
 refine aQ fun _ _ _ _=> ?_
 refine aW fun _ _ _=> ?_
 refine aQ fun x8 _ _ _=> ?_
 refine aW fun _ _ _=> ?_
 intro hF hM
 replace hM:=au hM;obtain ⟨x15,hx16,hM⟩:=hM
 have hcx15:=DP f_ t (by (first|exact (‹shp f_ t∧okF f_∧ay f_≤30›).1|exact (‹shp f_ t∧okF f_∧ay f_≤30›).2.2)) (by (first|exact (‹shp f_ t∧okF f_∧ay f_≤30›).1|exact (‹shp f_ t∧okF f_∧ay f_≤30›).2.2))
 rw [←hx16] at hcx15
 refine cN hcx15 clQ clQ ?_
 revert hM;revert hF
 refine slQ ?_
 have hq17:=LN hx16 (‹shp f_ t∧okF f_∧ay f_≤30›).1
 replace hq17:=nzQ hq17
 have hq18:=Da hx16 (‹shp f_ t∧okF f_∧ay f_≤30›).1 (‹shp f_ t∧okF f_∧ay f_≤30›).2.2
 replace hq18:=nzQ hq18
 intro hF hM
 replace hM:=au hM;obtain ⟨x19,hx20,hM⟩:=hM
 have hcx19:=cmH hx20 (DS g (x8.1) label x15 (by (clear hM;first|omega|assumption)) (by (clear hM;first|omega|assumption)) (by (clear hM;first|omega|assumption)))
 refine cN hcx19 clQ clQ ?_
 exact auP
set_option maxHeartbeats 2000000 in
set_option maxRecDepth 100000 in
instance NV (g:ak) (f_:aa) (x_:(List Int)) (c:Int) (label:(List UInt8)) (d_:bm):CM En (tg g f_ x_ c label d_) 4 [.agg [.int .i64 g.P,.int .i64 g.Q,.int .i64 g.G],.agg [.int .i64 f_.Kind,.sl none 1 false (f_.Relation.Y.map (V.int .i64)),.sl none 1 false (f_.Relation.Bases.map (fun (l:List Int)=>V.sl none 1 false (l.map (V.int .i64)))),.sl none 4 true (f_.L.map aw)],.sl none 1 false (x_.map (V.int .i64)),.int .u32 c,.str label,(dO d_)] (fun y=> .bool y) (fun _=> []):=by
 refine enQ [12] Tryz.func4 Tryz.ntmps4 (tg.eq_1 ..) fun r hw=> ?_
 refine aQ fun _ _ _ _=> ?_
 refine aW fun _ _ _=> ?_
 refine aQ fun _ _ _ _=> ?_
 refine aE fun _ _ _=> ?_
 refine aE fun _ _ _=> ?_
 refine aE fun _ _ _=> ?_
 refine aQ fun _ _ _ _=> ?_
 refine aW fun _ _ _=> ?_
 refine aQ fun _ _ _ _=> ?_
 intro hF hM
 replace hM:=jc hM;obtain ⟨j26,hj26,hM⟩:=hM
 refine i7 (fun S=> ∃p:Unit,S=(⟨[(2,.sl none 1 false (x_.map (V.int .i64))),(4,.str label),(6,.ptr 0 0),(7,.ptr 1 0),(11,.ptr 2 0)],[(0,.var 3 true (.agg [.int .i64 g.P,.int .i64 g.Q,.int .i64 g.G])),(1,.var 4 true (.agg [.int .i64 f_.Kind,.sl none 1 false (f_.Relation.Y.map (V.int .i64)),.sl none 1 false (f_.Relation.Bases.map (fun (l:List Int)=>V.sl none 1 false (l.map (V.int .i64)))),.sl none 4 true (f_.L.map aw)])),(2,.var 33 true ((dO d_)))],5⟩:St)∧(True)∧j26 p=r) ?_ (fun hcut26=> ?_)
 ·clear hM
  rintro S ⟨p26,rfl,hfa26,hM⟩
  replace hM:=jd hM hj26
  exact auP
 ·revert hM;revert hF
  refine slQ ?_
  refine cdQ (fun _ _ _=> ?_) (fun _ _ _=> ?_)
  ·refine aE fun _ _ _=> ?_
   refine aQ fun _ _ _ _=> ?_
   refine aE fun _ _ _=> ?_
   refine aW fun _ _ _=> ?_
   intro hF hM
   exact cW _ sbQ sbQ (hcut26 _ ⟨(),rfl,trivial,hM⟩)
  ·refine cdQ (fun _ _ _=> ?_) (fun _ _ _=> ?_)
   ·refine aW fun _ _ _=> ?_
    intro hF hM
    exact cW _ sbQ sbQ (hcut26 _ ⟨(),rfl,trivial,hM⟩)
   ·intro hF hM
    exact cW _ sbQ sbQ (hcut26 _ ⟨(),rfl,trivial,hM⟩)
end Go.Proofs.YtgealhhkngbkbaaGreatDoor
namespace Go.Proofs.YtgealhhkngbkbaaGreatDoor
open Go.RowKit
theorem oA (a m:Int): ∀n:Nat,(a% m)^n% m=a^n% m
 | 0=>by rw [Int.pow_zero,Int.pow_zero]
 | n+1=>by rw [Int.pow_succ,Int.pow_succ,Int.mul_emod,oA a m n,Int.emod_emod_of_dvd _ (Int.dvd_refl m),←Int.mul_emod]
theorem tQ (a b m:Int):a% m*(b% m)% m=a*b% m:=(Int.mul_emod a b m).symm
theorem tR (a b m:Int):a% m*b% m=a*b% m:=by rw [Int.mul_emod,Int.emod_emod_of_dvd _ (Int.dvd_refl m),←Int.mul_emod]
theorem kw (a b m:Int):a*(b% m)% m=a*b% m:=by rw [Int.mul_comm,tR,Int.mul_comm]
theorem oB (a:Int) (i:Nat): ∀j:Nat,a^(i+j)=a^i*a^j
 | 0=>by rw [Int.pow_zero,Int.mul_one,Nat.add_zero]
 | j+1=>by rw [←Nat.add_assoc,Int.pow_succ,Int.pow_succ,oB a i j,Int.mul_assoc]
theorem qx (a:Int) (i:Nat): ∀j:Nat,a^(i*j)=(a^i)^j
 | 0=>by rw [Int.pow_zero,Nat.mul_zero,Int.pow_zero]
 | j+1=>by rw [Nat.mul_succ,oB,Int.pow_succ,qx a i j]
theorem tS (a b:Int): ∀j:Nat,(a*b)^j=a^j*b^j
 | 0=>by simp
 | j+1=>by
  rw [Int.pow_succ,Int.pow_succ,Int.pow_succ,tS a b j]
  simp only [Int.mul_assoc]
  congr 1
  rw [Int.mul_left_comm]
theorem qy: ∀j:Nat,(1:Int)^j=1
 | 0=>rfl
 | j+1=>by rw [Int.pow_succ,qy j];rfl
theorem NW {α β:Type} {a:α} {f:α→β} {r:β} (h: ∀x,x=a→f x=r):ab a f=r:=h a rfl
def El0 (P:Int) (q:Nat) (a:Int):Prop:=a^q% P=1
theorem DT {P:Int} (hP:1<P) {q:Nat} {a:Int} (h:El0 P q a) (k:Nat):El0 P q (a^k):=by
 unfold El0 at*
 rw [←qx,Nat.mul_comm,qx,←oA,h,qy]
 exact Int.emod_eq_of_lt (by decide) hP
theorem DU {P:Int} (hP:1<P) {q:Nat} {a b:Int} (ha:El0 P q a) (hb:El0 P q b):El0 P q (a*b):=by
 unfold El0 at*
 rw [tS,Int.mul_emod,ha,hb]
 exact Int.emod_eq_of_lt (by decide) hP
theorem yp {P:Int} {q:Nat} {a:Int} (h:El0 P q a):El0 P q (a% P):=by
 unfold El0 at*
 rw [oA];exact h
theorem NX {P:Int} (hP:1<P) {q:Nat}:El0 P q 1:=by
 unfold El0
 rw [qy];exact Int.emod_eq_of_lt (by decide) hP
theorem DV {P:Int} {q:Nat} (hq:q≠0) {a:Int} (h:El0 P q a):a≠0:=by
 intro e
 unfold El0 at h
 subst e
 obtain ⟨n,rfl⟩: ∃n,q=n+1:=⟨q - 1,by omega⟩
 rw [Int.pow_succ,Int.mul_zero,Int.zero_emod] at h
 exact absurd h (by decide)
theorem NY {P:Int} (hP:1<P) {Q c:Int} (hc:0≤c∧c<Q) {y:Int} (hy:El0 P Q.toNat y):y^((Q - c)% Q).toNat*y^c.toNat% P=1:=by
 rw [←oB]
 by_cases h0:c=0
 ·subst h0
  have e:(Q - 0)% Q=0:=by rw [Int.sub_zero,Int.emod_self]
  rw [e,show Int.toNat 0+Int.toNat 0=0 from rfl,Int.pow_zero]
  exact Int.emod_eq_of_lt (by decide) hP
 ·have e:(Q - c)% Q=Q - c:=Int.emod_eq_of_lt (by omega) (by omega)
  rw [e,show (Q - c).toNat+c.toNat=Q.toNat by omega]
  exact hy
theorem NZ {P Q c:Int} (hP:1<P) (hc:0≤c∧c<Q) {y W A:Int} (hy:El0 P Q.toNat y) (hW:El0 P Q.toNat W) (hW0:0≤W) (hW1:W<P):
  A=W*(y^((Q - c)% Q).toNat% P)% P↔((1≤A∧A<P∧El0 P Q.toNat A)∧W=A*(y^c.toNat% P)% P):=by
 have hn:=NY hP hc hy
 have hp:0<P:=by omega
 constructor
 ·intro h
  have hA:El0 P Q.toNat A:=by
   rw [h,kw]
   exact yp (DU hP hW (DT hP hy _))
  have h0:0≤A:=by rw [h];exact Int.emod_nonneg _ (by omega)
  have h1:A<P:=by rw [h];exact Int.emod_lt_of_pos _ hp
  have h2:=DV (by omega) hA
  refine ⟨⟨by omega,h1,hA⟩,?_⟩
  rw [kw,h,kw,tR,Int.mul_assoc,Int.mul_emod,hn,Int.mul_one,Int.emod_emod_of_dvd _ (Int.dvd_refl P)]
  exact (Int.emod_eq_of_lt hW0 hW1).symm
 ·rintro ⟨⟨h0,h1,hA⟩,h⟩
  rw [kw,h,kw,tR,Int.mul_assoc,Int.mul_comm (y^c.toNat),Int.mul_emod,hn,Int.mul_one,Int.emod_emod_of_dvd _ (Int.dvd_refl P)]
  exact (Int.emod_eq_of_lt (by omega) h1).symm
def okG (g:ak):Prop:=3≤g.Q∧3≤g.P∧g.P<2305843009213693952∧g.Q<g.P∧2≤g.G∧g.G<g.P
end Go.Proofs.YtgealhhkngbkbaaGreatDoor
namespace Go.Proofs.YtgealhhkngbkbaaGreatDoor
open Go.RowKit
theorem qz {α β R S:Type} {F:(α→R)→α→R} {G:(β→S)→β→S} {d:α→R} {e:β→S} (Rel:α→β→Prop) (Q:R→S→Prop) (mu:α→Nat)
  (h: ∀ag bg a b,Rel a b→(∀a' b',Rel a' b'→mu a'<mu a→Q (ag a') (bg b'))→Q (F ag a) (G bg b)): ∀(n m:Nat) (a:α) (b:β),Rel a b→mu a<n→mu a<m→Q (ah n F d a) (ah m G e b)
 | 0,_,_,_,_,h1,_=>absurd h1 (Nat.not_lt_zero _)
 | _,0,_,_,_,_,h1=>absurd h1 (Nat.not_lt_zero _)
 | n+1,m+1,a,b,hr,h1,h2=>by
  rw [ah,ah]
  exact h _ _ a b hr fun a' b' hr' hm=>qz Rel Q mu h n m a' b' hr' (by omega) (by omega)
theorem N0 {e:Int} (h0:0≤e) (h1:e≤18446744073709551615):bE .u64 e 1=e% 2:=by
 obtain ⟨k,rfl⟩:=Int.eq_ofNat_of_zero_le h0
 unfold bE
 have e1:(BitVec.ofInt IntKind.u64.bits (k:Int)).toNat=k:=by
  show (BitVec.ofInt 64 (k:Int)).toNat=k
  rw [BitVec.toNat_ofInt];omega
 have e2:(BitVec.ofInt IntKind.u64.bits 1).toNat=2^1 - 1:=by decide
 rw [BitVec.toNat_and,e1,e2,Nat.and_two_pow_sub_one_eq_mod,w64]
 omega
theorem N7 {e:Int} (h0:0≤e) (h1:e≤9223372036854775807):bE .i64 e 1=e% 2:=by
 obtain ⟨k,rfl⟩:=Int.eq_ofNat_of_zero_le h0
 unfold bE
 have e1:(BitVec.ofInt IntKind.i64.bits (k:Int)).toNat=k:=by
  show (BitVec.ofInt 64 (k:Int)).toNat=k
  rw [BitVec.toNat_ofInt];omega
 have e2:(BitVec.ofInt IntKind.i64.bits 1).toNat=2^1 - 1:=by decide
 rw [BitVec.toNat_and,e1,e2,Nat.and_two_pow_sub_one_eq_mod,IntKind.wrap_i64]
 omega
theorem DW {m:Int} (h:1<m):aO .i64 1 m=1:=by
 rw [gu (by decide)];exact Int.emod_eq_of_lt (by decide) h
theorem en {x m:Int} (h:0<m):0≤x% m∧x% m<m:=⟨Int.emod_nonneg _ (by omega),Int.emod_lt_of_pos _ h⟩
theorem DX {m:Int} (hm:0<m) {M1 M2:Int→Int→Int} (h1: ∀a b,0≤a→a<m→0≤b→b<m→M1 a b=a*b% m) (h2: ∀a b,0≤a→a<m→0≤b→b<m→M2 a b=a*b% m)
  {A H:Int→Int} {U:Int} (hA: ∀e,0≤e→e≤U→A e=e% 2) (hH: ∀e,0≤e→e≤U→H e=e/2) {R:Type} {out:Int→R}
  {F:(Int×Int×Int→R)→Int×Int×Int→R} {G:(Int×Int×Int→Int)→Int×Int×Int→Int} {d1:Int×Int×Int→R} {d2:Int×Int×Int→Int}
  (hF: ∀ag p,F ag p=if decide (p.2.1>0)=true then (if (A p.2.1==1)=true then ag (M1 p.1 p.1,H p.2.1,M1 p.2.2 p.1) else ag (M1 p.1 p.1,H p.2.1,p.2.2)) else out p.2.2)
  (hG: ∀ag p,G ag p=if decide (p.2.1>0)=true then (if (p.2.1% 2==1)=true then ag (M2 p.1 p.1,p.2.1/2,M2 p.2.2 p.1) else ag (M2 p.1 p.1,p.2.1/2,p.2.2)) else p.2.2)
  {a e o:Int} (ha:0≤a∧a<m) (he:0≤e∧e≤U) (ho:0≤o∧o<m) {n k:Nat} (hn:e.toNat<n) (hk:e.toNat<k):
  ah n F d1 (a,e,o)=out (ah k G d2 (a,e,o)):=by
 refine qz (fun p q:Int×Int×Int=>p=q∧(0≤p.1∧p.1<m)∧(0≤p.2.1∧p.2.1≤U)∧0≤p.2.2∧p.2.2<m) (fun r s=>r=out s) (fun p=>p.2.1.toNat) ?_ n k _ _ ⟨rfl,ha,he,ho⟩ hn hk
 rintro ag bg ⟨a,e,o⟩ q ⟨rfl,p1,p2,p3⟩ ih
 simp only at p1 p2 p3 ih
 rw [hF,hG]
 simp only
 by_cases hc:e>0
 ·have hd:decide (e>0)=true:=by simpa using hc
  rw [if_pos hd,if_pos hd]
  have e1:=h1 a a p1.1 p1.2 p1.1 p1.2
  have e2:=h2 a a p1.1 p1.2 p1.1 p1.2
  have e3:=h1 o a p3.1 p3.2 p1.1 p1.2
  have e4:=h2 o a p3.1 p3.2 p1.1 p1.2
  rw [hA e p2.1 p2.2,hH e p2.1 p2.2,e1,e2,e3,e4]
  have hr:0≤e/2∧e/2≤U:=by omega
  split
  ·exact ih _ _ ⟨rfl,en hm,hr,en hm⟩ (by show (e/2).toNat<e.toNat;omega)
  ·exact ih _ _ ⟨rfl,en hm,hr,p3⟩ (by show (e/2).toNat<e.toNat;omega)
 ·have hd: ¬decide (e>0)=true:=by simpa using hc
  rw [if_neg hd,if_neg hd]
theorem N8 {a e n:Int} (ha:0≤a) (hn:a<n) (h1:1<n) (hn1:n<2305843009213693952) (he:0≤e∧e≤18446744073709551615):mB a e n=ef a e n:=by
 unfold mB ef
 rw [DW h1]
 exact DX (m:=n) (by omega) (M1:=fun a b=>fQ a b n) (M2:=fun a b=>eQ a b n) (A:=fun e=>bE .u64 e 1) (H:=fun e=>aB .u64 e 1) (U:=18446744073709551615) (out:=fun x=>x)
  (fun a b x1 x2 x3 x4=>th x1 x2 x3 (by omega) (by omega)) (fun a b x1 x2 x3 x4=>mQ x1 x2 x3)
  (fun e x1 x2=>N0 x1 x2) (fun e x1 x2=>cR e) (fun ag p=>rfl) (fun ag p=>rfl) ⟨ha,hn⟩ he ⟨by decide,h1⟩ (Nat.lt_succ_self _) (Nat.lt_succ_self _)
theorem N9 {a m:Int} (h0:0≤a) (h1:a<m) (h2:m<2305843009213693952):iz a a m=0:=by
 unfold iz mC ab
 rw [if_neg (by simp;omega),if_neg (by simp;omega),if_pos (by simpa using h0)]
 simp [h1]
theorem qA {a e m:Int} (ha:0≤a) (hm:a<m) (hm1:m<2305843009213693952) (he:0≤e∧e≤9223372036854775807):km a e m=(ef a e m,0):=by
 unfold km ef
 refine NW fun x1 h1=> ?_
 rw [N9 ha hm hm1] at h1
 subst h1
 rw [if_neg (by decide),if_neg (by simp;omega)]
 exact DX (m:=m) (by omega) (M1:=fun a b=>jo a b m) (M2:=fun a b=>eQ a b m) (A:=fun e=>bE .i64 e 1) (H:=fun e=>aB .i64 e 1) (U:=9223372036854775807) (out:=fun x=>(x,0))
  (fun a b x1 x2 x3 x4=>xr x1 x2 x3 (by omega) (by omega)) (fun a b x1 x2 x3 x4=>mQ x1 x2 x3)
  (fun e x1 x2=>N7 x1 x2) (fun e x1 x2=>cY e) (fun ag p=>rfl) (fun ag p=>rfl) ⟨ha,hm⟩ he (tj (by omega)) (Nat.lt_succ_self _) (Nat.lt_succ_self _)
theorem N_ {l:List Nat} {i:Nat}:(l.map (fun n:Nat=>(n:Int))).getD i default=((l.getD i 0:Nat):Int):=by
 simp only [List.getD_eq_getElem?_getD,List.getElem?_map]
 cases l[i]? <;>rfl
theorem Oa {x:Nat} (h0:x≠0) (h1:x<18446744073709551616):li (x:Int)=(Lib.ctz 64 x:Int):=by
 obtain ⟨hlow,hk⟩:=Lib.lowest_bit 64 x h0 h1
 obtain ⟨hi,htab⟩:=Lib.deBruijn64_at _ hk
 rw [show (2:Nat)^64=18446744073709551616 by decide] at hlow
 unfold li
 generalize Lib.ctz 64 x=c at hlow hk hi htab
 rw [if_neg (by simp;omega)]
 have e0:gA .u64 (x:Int)=((18446744073709551616 - x:Nat):Int):=by unfold gA;rw [w64];omega
 have e1:bE .u64 (x:Int) (gA .u64 (x:Int))=((2^c:Nat):Int):=by
  rw [e0,←hlow]
  unfold bE
  have a1:(BitVec.ofInt IntKind.u64.bits (x:Int)).toNat=x:=by
   show (BitVec.ofInt 64 (x:Int)).toNat=x
   rw [BitVec.toNat_ofInt];omega
  have a2:(BitVec.ofInt IntKind.u64.bits ((18446744073709551616 - x:Nat):Int)).toNat=18446744073709551616 - x:=by
   show (BitVec.ofInt 64 ((18446744073709551616 - x:Nat):Int)).toNat=_
   rw [BitVec.toNat_ofInt];omega
  rw [BitVec.toNat_and,a1,a2]
  have:=Nat.and_le_left (n:=x) (m:=18446744073709551616 - x)
  exact dk (by omega) (by omega)
 have e2:aB .u64 (aX .u64 (bE .u64 (x:Int) (gA .u64 (x:Int))) 285870213051353865) 58=((2^c*285870213051353865% 18446744073709551616/288230376151711744:Nat):Int):=by
  rw [e1,BL]
  unfold aX
  rw [w64]
  generalize 2^c=t
  omega
 rw [e2,y7]
 have e3:jb.getD (2^c*285870213051353865% 18446744073709551616/288230376151711744) default=((Lib.deBruijn64tab.getD (2^c*285870213051353865% 18446744073709551616/288230376151711744) 0:Nat):Int):=by
  have hm:jb=Lib.deBruijn64tab.map (fun n:Nat=>(n:Int)):=by decide+kernel
  rw [hm,N_]
 rw [e3]
 have e4:Lib.deBruijn64tab.getD (2^c*285870213051353865% 18446744073709551616/288230376151711744) 0=c:=htab
 rw [e4]
 clear hlow hi htab e0 e1 e2 e3 e4
 exact nD (by omega) (by omega)
def oC (n a d s:Int):Bool:=
 if ef a d n==1 then true else if ef a d n==n - 1 then true else
  ah ((s - 1).toNat+1) (fun (ag:Int×Int→Bool) (p:Int×Int)=>if decide (p.2<s)=true then (if (eQ p.1 p.1 n==n - 1)=true then true else ag (eQ p.1 p.1 n,p.2+1)) else false) (fun _=>default) (ef a d n,1)
theorem DY {n a:Int} {F:(Int×Int→Bool)→Int×Int→Bool} {d:Int×Int→Bool} (hF: ∀ag p,F ag p=if (p.1% 2==0)=true then ag (p.1/2,p.2+1) else oC n a p.1 p.2) (m:Int) (hm:0≤m):
  ∀(k fuel:Nat) (s:Int),k<fuel→ah fuel F d (2^k*(2*m+1),s)=oC n a (2*m+1) (s+k)
 | 0,fuel,s,hf=>by
  obtain ⟨f,rfl⟩: ∃f,fuel=f+1:=⟨fuel - 1,by omega⟩
  rw [ah,hF]
  simp only [Int.pow_zero,Int.one_mul]
  have hd: ¬((2*m+1)% 2==0)=true:=by
   rw [beq_iff_eq];omega
  rw [if_neg hd]
  simp
 | k+1,fuel,s,hf=>by
  obtain ⟨f,rfl⟩: ∃f,fuel=f+1:=⟨fuel - 1,by omega⟩
  have e:(2:Int)^(k+1)*(2*m+1)=2*(2^k*(2*m+1)):=by rw [Int.pow_succ,Int.mul_comm (2^k) 2,Int.mul_assoc]
  rw [ah,hF,e]
  generalize hT:(2:Int)^k*(2*m+1)=T
  simp only
  rw [if_pos (by rw [beq_iff_eq];omega),show 2*T/2=T by omega,←hT,DY hF m hm k f (s+1) (by omega)]
  congr 1
  push_cast
  omega
theorem DZ (k:Nat):k<2^k:=Nat.lt_two_pow_self
theorem Ob {n a:Int} {k:Nat} {m:Int} (hm:0≤m) (hn:n - 1=2^k*(2*m+1)):pS n a=oC n a (2*m+1) k:=by
 unfold pS
 rw [hn]
 have h:=DY (n:=n) (a:=a) (F:=fun (ag2:(Int×Int)→Bool) (p2:Int×Int)=>(if ((p2.1% 2)==0) then (ag2 ((p2.1/2),(p2.2+1))) else oC n a p2.1 p2.2)) (d:=fun _=>default) (fun ag p=>rfl) m hm k ((2^k*(2*m+1)).toNat+1) 0 (by
  have h1:(2:Int)^k*1≤2^k*(2*m+1):=Int.mul_le_mul_of_nonneg_left (by omega) (Int.le_of_lt (Int.pow_pos (by decide)))
  have h2:=DZ k
  have h3:((2^k:Nat):Int)=2^k:=by push_cast;rfl
  omega)
 rw [Int.zero_add] at h
 rw [←h,←hn]
 rfl
theorem Oc {n a d s:Int} (ha:0≤a) (han:a<n) (h1:1<n) (hn:n<2305843009213693952) (hd:0≤d∧d≤18446744073709551615) (hs:0≤s∧s≤64):pI a n d s= !(oC n a d s):=by
 unfold pI oC
 have e1:ap .u64 n 1=n - 1:=by unfold ap;rw [dk (by omega) (by omega)]
 rw [N8 ha han h1 hn hd,e1,BV hs.1 hs.2]
 simp only [ab]
 have hx:=xx (x:=ef a d n) rfl ha han (e:=d)
 generalize ef a d n=x at hx
 by_cases c1:(x==1)=true
 ·rw [if_pos c1,if_pos c1];rfl
 rw [if_neg c1,if_neg c1]
 by_cases c2:(x==n - 1)=true
 ·rw [if_pos c2,if_pos c2];rfl
 rw [if_neg c2,if_neg c2]
 refine qz (fun p q:Int×Int=>q=(p.1,p.2+1)∧(0≤p.1∧p.1<n)∧0≤p.2) (fun r s:Bool=>r= !s) (fun p=>(s - 1 - p.2).toNat) ?_ _ _ _ _ ⟨rfl,hx,Int.le_refl 0⟩ (by show (s - 1 - 0).toNat<_;omega) (by show (s - 1 - 0).toNat<_;omega)
 rintro ag bg ⟨x,i⟩ q ⟨rfl,p1,p2⟩ ih
 simp only at p1 p2 ih⊢
 by_cases hi:i<s - 1
 ·rw [if_pos (show decide (i<s - 1)=true by simpa using hi),if_pos (show decide (i+1<s)=true by simp only [decide_eq_true_eq];omega)]
  have e2:=th p1.1 p1.2 p1.1 (by omega) (show n≤18446744073709551615 by omega)
  have e3:=mQ p1.1 p1.2 p1.1
  rw [e2,e3]
  split
  ·rfl
  ·exact ih _ _ ⟨rfl,en (by omega),by show 0≤i+1;omega⟩ (by show (s - 1 - (i+1)).toNat<(s - 1 - i).toNat;omega)
 ·rw [if_neg (show¬decide (i<s - 1)=true by simpa using hi),if_neg (show¬decide (i+1<s)=true by simp only [decide_eq_true_eq];omega)]
  rfl
theorem D0 {p:Int}:gt cF p=gt ([2,3,5,7,11,13,17,19,23,29,31,37]:List Int) p:=rfl
theorem tT {n:Int} (hn:n<2305843009213693952):ln n=n3 n:=by
 unfold ln n3
 by_cases h2:n<2
 ·rw [if_pos (by simpa using h2),if_pos (by simpa using h2)]
 rw [if_neg (by simpa using h2),if_neg (by simpa using h2)]
 have ec:al .u64 n=n:=kV (by omega) (by omega)
 rw [ec]
 refine qz (fun p q:Int=>p=q∧0≤p∧p≤12∧kt n p) (fun r s:Bool=>r=s) (fun p=>(12 - p).toNat) ?_ _ _ _ _ ⟨rfl,by decide,by decide,xo⟩ (by decide) (by decide)
 rintro ag bg p q ⟨rfl,p1,p2,p3⟩ ih
 by_cases hp:p<12
 ·rw [if_pos (show decide (p<12)=true by simpa using hp),if_pos (show decide (p<12)=true by simpa using hp),←D0]
  by_cases hr:(aO .u64 n (gt cF p)==0)=true
  ·rw [if_pos hr,if_pos (show (aO .i64 n (gt cF p)==0)=true from hr)]
  ·rw [if_neg hr,if_neg (show¬(aO .i64 n (gt cF p)==0)=true from hr)]
   exact ih _ _ ⟨rfl,by omega,by omega,xp p3 (by omega) p1 hp (by simpa using hr)⟩ (by omega)
 ·rw [if_neg (show¬decide (p<12)=true by simpa using hp),if_neg (show¬decide (p<12)=true by simpa using hp),if_neg (show¬decide (n≥2305843009213693952)=true by simp only [decide_eq_true_eq];omega)]
  have h37:=xq p3 (by omega) (by omega)
  have es:ap .u64 n 1=n - 1:=by unfold ap;rw [dk (by omega) (by omega)]
  rw [es]
  obtain ⟨x,hx⟩:=Int.eq_ofNat_of_zero_le (show 0≤n - 1 by omega)
  obtain ⟨m,hm,hk⟩:=Lib.ctzFrom_spec 64 x (by omega) (by omega)
  have ez:li (n - 1)=(Lib.ctzFrom 64 x:Nat):=by
   rw [hx,Oa (by omega) (by omega)]
   unfold Lib.ctz
   rw [if_neg (by omega)]
  simp only [ab,ez]
  generalize Lib.ctzFrom 64 x=k at hm hk
  have hxi:n - 1=2^k*(2*(m:Int)+1):=by rw [hx,hm];push_cast;rfl
  have esh:aB .u64 (n - 1) (k:Int)=2*(m:Int)+1:=by
   rw [mN (m:=k) (by rw [Int.toNat_natCast];show min k 64=k;omega),hxi]
   exact Int.mul_ediv_cancel_left _ (Int.ne_of_gt (Int.pow_pos (by decide)))
  have hpk:(1:Int)≤2^k:=by
   have h3:((2^k:Nat):Int)=2^k:=by push_cast;rfl
   have:=DZ k
   omega
  have hd:2*(m:Int)+1≤n - 1:=by
   have h1:(1:Int)*(2*m+1)≤2^k*(2*m+1):=Int.mul_le_mul_of_nonneg_right hpk (by omega)
   omega
  rw [esh]
  refine qz (fun p q:Int=>p=q∧0≤p) (fun r s:Bool=>r=s) (fun p=>(12 - p).toNat) ?_ _ _ _ _ ⟨rfl,by decide⟩ (by decide) (by decide)
  rintro ag bg p q ⟨rfl,p1⟩ ih
  by_cases hp:p<12
  ·rw [if_pos (show decide (p<12)=true by simpa using hp),if_pos (show decide (p<12)=true by simpa using hp),←D0]
   obtain ⟨b0,b1⟩:=cS p1 hp
   rw [Oc (by omega) (by omega) (by omega) hn (by omega) (by omega),Ob (by omega) hxi]
   split
   ·rfl
   ·exact ih _ _ ⟨rfl,by omega⟩ (by omega)
  ·rw [if_neg (show¬decide (p<12)=true by simpa using hp),if_neg (show¬decide (p<12)=true by simpa using hp)]
theorem yq {c:Prop} [Decidable c] {a:Bool}:((if c then false else a)=true)↔(¬c∧a=true):=by
 by_cases h:c<;>simp [h]
theorem yr {c:Prop} [Decidable c] {a:Bool}:((if c then a else false)=true)↔(c∧a=true):=by
 by_cases h:c<;>simp [h]
theorem lk {α β:Type} {a:α} {f:α→β}:ab a f=f a:=rfl
theorem Od {n:Int} (h:ln n=true):2≤n:=by
 unfold ln at h
 rw [yq] at h
 have:=h.1
 simp only [decide_eq_true_eq] at this
 omega
theorem D1 (g:ak):gg g=eF g:=by
 rw [Bool.eq_iff_iff]
 unfold gg eF
 simp only [lk,yq,yr,decide_eq_true_eq,beq_iff_eq,bne_iff_ne,ne_eq,Bool.not_eq_true',Bool.not_eq_false,Decidable.not_not]
 constructor
 ·rintro ⟨h1,h2,h3,h4,h5,h6,h7,h8,h9,h10⟩
  have hp:=Od h4
  have hq:=tm (p:=g.P) (by omega) (by omega) (show 3≤g.Q by omega) h6
  rw [qA (by omega) (by omega) (by omega) (by omega)] at h10
  rw [tT (by omega)] at h4
  rw [tT (by omega)] at h5
  exact ⟨by omega,h1,h2,h3,h6,h7,h8,h4,h5,h10⟩
 ·rintro ⟨h0,h1,h2,h3,h6,h7,h8,h4,h5,h10⟩
  have hq:=tm (p:=g.P) (by omega) (by omega) (show 3≤g.Q by omega) h6
  have hw:=qA (a:=g.G) (e:=g.Q) (m:=g.P) (by omega) (by omega) (by omega) (by omega)
  exact ⟨h1,h2,h3,by rw [tT (by omega)];exact h4,by rw [tT (by omega)];exact h5,h6,h7,h8,by rw [hw],by rw [hw];exact h10⟩
theorem yt {g:ak} (h:eF g=true):okG g:=(xy g).1 h
theorem yu {a b m:Int} (ha:0≤a∧a<m) (hb:0≤b∧b<m) (hm:m<2305843009213693952):mE a b m=(a*b% m,0):=by
 unfold mE iz mC
 simp only [lk]
 rw [if_neg (show¬decide (m<1)=true by simp only [decide_eq_true_eq];omega),if_neg (show¬decide (m≥2305843009213693952)=true by simp only [decide_eq_true_eq];omega)]
 simp [ha.1,ha.2,hb.1,hb.2,xr ha.1 ha.2 hb.1 (by omega) (by omega)]
theorem tU {a e m:Int} (ha:0≤a) (hm:a<m) (h1:1<m) (he:0≤e):ef a e m=a^e.toNat% m:=by
 unfold ef
 rw [DW h1]
 refine eP (P:=fun p:Int×Int×Int=>(0≤p.1∧p.1<m)∧0≤p.2.1∧(0≤p.2.2∧p.2.2<m)∧p.2.2*p.1^p.2.1.toNat% m=a^e.toNat% m) (Q:=fun r=>r=a^e.toNat% m) (meas:=fun p=>p.2.1.toNat) ?_ _ _ ⟨⟨ha,hm⟩,he,⟨by show (0:Int)≤1;decide,h1⟩,by show 1*a^e.toNat% m=_;rw [Int.one_mul]⟩ (by show e.toNat<e.toNat+1;omega)
 rintro ag ⟨x,k,o⟩ ⟨p1,p2,p3,p4⟩ ih
 simp only at p1 p2 p3 p4 ih
 simp only [lk]
 by_cases hk:k>0
 ·rw [if_pos (by simpa using hk)]
  have hx:=mQ p1.1 p1.2 p1.1
  have ho:=mQ p3.1 p3.2 p1.1
  have r1:=en (x:=x*x) (show 0<m by omega)
  have r2:=en (x:=o*x) (show 0<m by omega)
  have hk2:k.toNat=k.toNat/2+k.toNat/2+k.toNat% 2:=by omega
  have hk3:(k/2).toNat=k.toNat/2:=by omega
  have hpw:(x*x% m)^(k/2).toNat% m=x^(k.toNat/2+k.toNat/2)% m:=by rw [oA,hk3,tS,←oB]
  rw [hx,ho]
  by_cases hc:k% 2=1
  ·rw [if_pos (by simpa using hc)]
   refine ih _ ⟨r1,by show 0≤k/2;omega,r2,?_⟩ (by show (k/2).toNat<k.toNat;omega)
   show o*x% m*(x*x% m)^(k/2).toNat% m=_
   rw [Int.mul_emod,hpw,tR,tQ,←p4,Int.mul_assoc]
   have e9:k.toNat=k.toNat/2+k.toNat/2+1:=by omega
   have e8:x^k.toNat=x*x^(k.toNat/2+k.toNat/2):=by
    conv=>lhs;rw [e9]
    rw [Int.pow_succ,Int.mul_comm]
   rw [e8]
  ·rw [if_neg (by simpa using hc)]
   refine ih _ ⟨r1,by show 0≤k/2;omega,p3,?_⟩ (by show (k/2).toNat<k.toNat;omega)
   show o*(x*x% m)^(k/2).toNat% m=_
   rw [Int.mul_emod,hpw,tQ,←p4]
   congr 3
   omega
 ·rw [if_neg (by simpa using hk)]
  have:k=0:=by omega
  subst this
  rw [show ((0:Int)).toNat=0 from rfl,Int.pow_zero,Int.mul_one,Int.emod_eq_of_lt p3.1 p3.2] at p4
  exact p4
def El (g:ak) (x:Int):Prop:=1≤x∧x<g.P∧x^g.Q.toNat% g.P=1
theorem Oe {g:ak} (h:okG g) (x:Int):dH g x=true↔El g x:=by
 obtain ⟨h1,h2,h3,h4,h5,h6⟩:=h
 unfold dH El
 simp only [lk,yr,decide_eq_true_eq,beq_iff_eq]
 constructor
 ·rintro ⟨a1,a2,a3⟩
  rw [tU (by omega) a2 (by omega) (by omega)] at a3
  exact ⟨a1,a2,a3⟩
 ·rintro ⟨a1,a2,a3⟩
  exact ⟨a1,a2,by rw [tU (by omega) a2 (by omega) (by omega)];exact a3⟩
end Go.Proofs.YtgealhhkngbkbaaGreatDoor
namespace Go.Proofs.YtgealhhkngbkbaaGreatDoor
open Go.RowKit
theorem Of {g:ak} (h:okG g) (x:Int):pJ g x=dH g x:=by
 obtain ⟨h1,h2,h3,h4,h5,h6⟩:=h
 rw [Bool.eq_iff_iff]
 unfold pJ dH
 simp only [lk,yq,yr,decide_eq_true_eq,beq_iff_eq]
 constructor
 ·rintro ⟨a1,a2,a3⟩
  rw [qA (by omega) (by omega) (by omega) (by omega)] at a3
  exact ⟨by omega,by omega,a3.2⟩
 ·rintro ⟨a1,a2,a3⟩
  refine ⟨by omega,by omega,?_⟩
  rw [qA (by omega) (by omega) (by omega) (by omega)]
  exact ⟨rfl,a3⟩
theorem D2 {g:ak} (h:okG g) (l:List Int):nP g l=l.all (dH g):=by
 unfold nP
 have e:sS l g=l.any (fun x=>nO x g):=g8 (fun x=>nO x g) (fun ag p=>rfl)
 rw [aq,e]
 clear e
 induction l with
 | nil=>rfl
 | cons a l ih=>
  rw [List.any_cons,List.all_cons,Bool.not_or,ih]
  congr 1
  unfold nO
  rw [aq,Bool.not_not,Of h]
theorem Og {g:ak} (h:okG g) (n:Int) (l:List (List Int)):mD l n g=false↔ ∀row∈l,(row.length:Int)=n∧ ∀x∈row,dH g x=true:=by
 have e:mD l n g=l.any (fun x=>kn x n g):=g8 (fun x=>kn x n g) (fun ag p=>rfl)
 rw [e,List.any_eq_false]
 have key: ∀row:List Int,¬(kn row n g=true)↔((row.length:Int)=n∧ ∀x∈row,dH g x=true):=by
  intro row
  unfold kn
  by_cases c:(row.length:Int)=n
  ·rw [if_neg (by simpa using c),aq,D2 h]
   simp only [Bool.not_eq_true',Bool.not_eq_false,List.all_eq_true,c,true_and]
  ·rw [if_pos (by simpa using c)]
   simp [c]
 exact ⟨fun hh row hr=>(key row).1 (hh row hr),fun hh row hr=>(key row).2 (hh row hr)⟩
theorem tV (g:ak) (r:aF):bU g r=eR g r:=by
 rw [tC]
 unfold bU
 rw [aq,D1]
 by_cases c0:eF g=false
 ·rw [if_pos (by rw [c0];rfl),if_pos (.inl c0)]
 have hg:eF g=true:=by simpa using c0
 have hk:=yt hg
 rw [if_neg (by rw [hg];decide)]
 by_cases c1:r.Y.length<1
 ·rw [if_pos (by simp;omega),if_pos (.inr (.inl c1))]
 rw [if_neg (by simp;omega)]
 by_cases c2:8<r.Y.length
 ·rw [if_pos (by simp;omega),if_pos (.inr (.inr (.inl c2)))]
 rw [if_neg (by simp;omega)]
 by_cases c3:r.Bases.length≠r.Y.length
 ·rw [if_pos (by simp;omega),if_pos (.inr (.inr (.inr (.inl c3))))]
 rw [if_neg (by simp;omega),aq,D2 hk]
 have hrow:=ow (dH g) ((gt r.Bases 0).length:Int) r.Y r.Bases (by omega)
 by_cases cy:r.Y.all (dH g)=true
 ·rw [if_neg (by rw [cy];decide)]
  by_cases c4:(gt r.Bases 0).length<1
  ·rw [if_pos (by simp;omega),if_pos (.inr (.inr (.inr (.inr (.inl c4)))))]
  rw [if_neg (by simp;omega)]
  by_cases c5:12<(gt r.Bases 0).length
  ·rw [if_pos (by simp;omega),if_pos (.inr (.inr (.inr (.inr (.inr c5)))))]
  rw [if_neg (by simp;omega),if_neg (fun h=>by rcases h with h|h|h|h|h|h<;>contradiction),aq]
  rw [Bool.eq_iff_iff,hrow,Bool.not_eq_true',Og hk]
  rw [List.all_eq_true] at cy
  exact ⟨fun h=>⟨cy,h⟩,fun h=>h.2⟩
 ·have cy2:r.Y.all (dH g)=false:=by simpa using cy
  rw [if_pos (by rw [cy2];rfl)]
  split
  ·rfl
  ·rename_i h
   cases hr:jB (dH g) ((gt r.Bases 0).length:Int) r.Y r.Bases with
   | false=>rfl
   | true=>exact absurd (List.all_eq_true.2 (hrow.1 hr).1) cy
theorem lG (g:ak) (l:List Int):gV g l=fo g l:=by
 unfold gV fo
 have e:sU l g=l.any (fun x=>nU x g):=g8 (fun x=>nU x g) (fun ag p=>rfl)
 rw [aq,e,mV (l:=l) (fun x=>decide (0≤x∧x<g.Q)) true false (fun ag p=> ?_)]
 ·clear e
  induction l with
  | nil=>rfl
  | cons a l ih=>
   rw [List.any_cons,List.all_cons,Bool.not_or,ih]
   unfold nU
   by_cases c1:a<0
   ·rw [if_pos (by simpa using c1),show decide (0≤a∧a<g.Q)=false by simp;omega];rfl
   ·rw [if_neg (by simpa using c1)]
    by_cases c2:a≥g.Q
    ·rw [show decide (a≥g.Q)=true by simpa using c2,show decide (0≤a∧a<g.Q)=false by simp;omega];rfl
    ·rw [show decide (a≥g.Q)=false by simpa using c2,show decide (0≤a∧a<g.Q)=true by simp;omega]
     cases l.all (fun x=>decide (0≤x∧x<g.Q))<;>rfl
 ·congr 1
  simp only [decide_eq_true_eq,decide_eq_false_iff_not]
  by_cases c1:gt l p<0
  ·rw [if_pos c1,if_pos (by omega)]
  ·rw [if_neg c1]
   by_cases c2:gt l p≥g.Q
   ·rw [if_pos c2,if_pos (by omega)]
   ·rw [if_neg c2,if_neg (by omega)]
end Go.Proofs.YtgealhhkngbkbaaGreatDoor
namespace Go.Proofs.YtgealhhkngbkbaaGreatDoor
open Go.RowKit
def eX {α σ:Type} (nx:α→Int→σ→σ):List α→Int→σ→σ
 | [],_,s=>s
 | a::l,i,s=>eX nx l (i+1) (nx a i s)
theorem yw {α σ τ R:Type} [Inhabited α] {l:List α} (mk:σ→Int→τ) (nx:α→Int→σ→σ) (I:σ→Prop) (E:σ→R) {F:(τ→R)→τ→R} {d:τ→R}
  (hI: ∀s (i:Int),I s→0≤i→i.toNat<l.length→I (nx (gt l i) i s)) (hF: ∀ag s (i:Int),I s→0≤i→i.toNat<l.length→F ag (mk s i)=ag (mk (nx (gt l i) i s) (i+1))) (hE: ∀ag s (i:Int),¬i<(l.length:Int)→F ag (mk s i)=E s) (s:σ) (hs:I s):
  ah (((l.length:Int) - 0).toNat+1) F d (mk s 0)=E (eX nx l 0 s):=by
 have key: ∀(m k:Nat) (s:σ),I s→l.length - k=m→k≤l.length→ ∀fuel,m<fuel→ah fuel F d (mk s (k:Int))=E (eX nx (l.drop k) (k:Int) s):=by
  intro m
  induction m with
  | zero=>
   intro k s hs e1 e2 fuel hf
   obtain ⟨g,rfl⟩: ∃g,fuel=g+1:=⟨fuel - 1,by omega⟩
   rw [ah,hE _ _ _ (by omega),List.drop_of_length_le (by omega),eX]
  | succ m ih=>
   intro k s hs e1 e2 fuel hf
   obtain ⟨g,rfl⟩: ∃g,fuel=g+1:=⟨fuel - 1,by omega⟩
   have hk:k<l.length:=by omega
   have:=ih (k+1) _ (hI s (k:Int) hs (by omega) (by simpa using hk)) (by omega) (by omega) g (by omega)
   rw [ah,hF _ _ _ hs (by omega) (by simpa using hk),List.drop_eq_getElem_cons hk,eX,show ((k:Int)+1)=((k+1:Nat):Int) by omega,this,iF hk]
 have h5:=key l.length 0 s hs (by omega) (by omega) (((l.length:Int) - 0).toNat+1) (by omega)
 simpa using h5
def ct (P:Int) (z:List Int) (row:List Int):Int:=eX (fun b i a=>a*(b^(gt z i).toNat% P)% P) row 0 1
theorem D3 {α σ:Type} {nx:α→Int→σ→σ} (I:σ→Prop): ∀(l:List α) (i:Int) (s:σ),(∀a∈l,∀i s,I s→I (nx a i s))→I s→I (eX nx l i s)
 | [],i,s,_,hs=>hs
 | a::l,i,s,h,hs=>by
  rw [eX]
  exact D3 I l _ _ (fun b hb=>h b (List.mem_cons_of_mem _ hb)) (h a List.mem_cons_self i s hs)
theorem qB {P:Int} {q:Nat} (hP:1<P) {z row:List Int} (h: ∀b∈row,El0 P q b):El0 P q (ct P z row)∧0≤ct P z row∧ct P z row<P:=by
 unfold ct
 refine D3 (fun a=>El0 P q a∧0≤a∧a<P) row 0 1 (fun b hb i a ha=>⟨?_,Int.emod_nonneg _ (by omega),Int.emod_lt_of_pos _ (by omega)⟩) ⟨NX hP,by decide,hP⟩
 have:=DU hP ha.1 (yp (DT hP (h b hb) (gt z i).toNat))
 exact yp this
theorem wpw {a e m:Int} (ha:0≤a) (hm:a<m) (h1:1<m) (hm1:m<2305843009213693952) (he:0≤e∧e≤9223372036854775807):km a e m=(a^e.toNat% m,0):=by
 rw [qA ha hm hm1 he,tU ha hm h1 he.1]
theorem Oh {g:ak} (hg:okG g) {row z:List Int} (hr: ∀b∈row,0≤b∧b<g.P) (hz: ∀x∈z,0≤x∧x<g.Q):nV g 1 row z=ct g.P z row:=by
 obtain ⟨h1,h2,h3,h4,h5,h6⟩:=hg
 have hzz: ∀i:Int,0≤gt z i∧gt z i<g.Q:=by
  intro i
  by_cases hi:i.toNat<z.length
  ·exact hz _ (aK hi)
  ·have:gt z i=0:=by simp [gt,List.getD_eq_getElem?_getD,List.getElem?_eq_none (Nat.not_lt.1 hi)]
   rw [this];omega
 unfold nV ct
 refine yw (l:=row) (fun (s:Int) i=>(s,i)) (fun b i a=>a*(b^(gt z i).toNat% g.P)% g.P) (fun a=>0≤a∧a<g.P) (fun a=>a) (fun s i _ _ _=>⟨Int.emod_nonneg _ (by omega),Int.emod_lt_of_pos _ (by omega)⟩) (fun ag s i hs h0 hi=> ?_) (fun ag s i h=> ?_) 1 ⟨by decide,by omega⟩
 ·have hb:=hr _ (aK hi)
  have hz1:=hzz i
  dsimp only
  rw [if_pos (dT (by omega)),aq,aq,wpw hb.1 hb.2 (by omega) (by omega) (by omega)]
  dsimp only
  rw [yu hs ⟨Int.emod_nonneg _ (by omega),Int.emod_lt_of_pos _ (by omega)⟩ (by omega)]
 ·dsimp only
  rw [if_neg (dN h)]
theorem Oi {g:ak} (hg:okG g) {row z:List Int} (hr: ∀b∈row,0≤b∧b<g.P) (hz: ∀x∈z,0≤x∧x<g.Q):qi g row z=ct g.P z row:=by
 obtain ⟨h1,h2,h3,h4,h5,h6⟩:=hg
 have hzz: ∀i:Int,0≤gt z i∧gt z i<g.Q:=by
  intro i
  by_cases hi:i.toNat<z.length
  ·exact hz _ (aK hi)
  ·have:gt z i=0:=by simp [gt,List.getD_eq_getElem?_getD,List.getElem?_eq_none (Nat.not_lt.1 hi)]
   rw [this];omega
 unfold qi ct
 refine yw (l:=row) (fun (s:Int) i=>(s,i)) (fun b i a=>a*(b^(gt z i).toNat% g.P)% g.P) (fun a=>0≤a∧a<g.P) (fun a=>a) (fun s i _ _ _=>⟨Int.emod_nonneg _ (by omega),Int.emod_lt_of_pos _ (by omega)⟩) (fun ag s i hs h0 hi=> ?_) (fun ag s i h=> ?_) 1 ⟨by decide,by omega⟩
 ·have hb:=hr _ (aK hi)
  have hz1:=hzz i
  dsimp only
  rw [if_pos (dT (by omega)),aq,aq,tU hb.1 hb.2 (by omega) hz1.1,mQ hs.1 hs.2 (Int.emod_nonneg _ (by omega))]
 ·dsimp only
  rw [if_neg (dN h)]
theorem D4 {g:ak} (hg:okG g) {rows:List (List Int)} {z:List Int} (hr: ∀row∈rows,∀b∈row,0≤b∧b<g.P) (hz: ∀x∈z,0≤x∧x<g.Q):dF g rows z=rows.map (ct g.P z):=by
 unfold dF
 have hm: ∀(l:List (List Int)) (i:Int) (s:List Int),eX (fun a _ s=>s++[ct g.P z a]) l i s=s++l.map (ct g.P z):=by
  intro l
  induction l with
  | nil=>intro i s;simp [eX]
  | cons a l ih=>intro i s;rw [eX,ih];simp
 refine (yw (l:=rows) (fun (s:List Int) i=>(i,s)) (fun a _ s=>s++[ct g.P z a]) (fun _=>True) (fun s=>s) (fun s i _ _ _=>trivial) (fun ag s i _ h0 hi=> ?_) (fun ag s i h=> ?_) [] trivial).trans ?_
 ·dsimp only
  rw [if_pos (dT (by omega)),aq,Oh hg (hr _ (aK hi)) hz]
 ·dsimp only
  rw [if_neg (dN h)]
 ·rw [hm,List.nil_append]
def chk (c:Int→Bool):List Int→Int→Bool
 | [],_=>true
 | _::l,i=>if c i=true then chk c l (i+1) else false
theorem Oj {l:List Int} (c:Int→Bool) {F:(Int→Bool)→Int→Bool} {d:Int→Bool} (hF: ∀ag (i:Int),0≤i→i<(l.length:Int)→F ag i=if c i=true then ag (i+1) else false) (hE: ∀ag (i:Int),¬i<(l.length:Int)→F ag i=true):
  ah (((l.length:Int) - 0).toNat+1) F d 0=chk c l 0:=by
 have key: ∀(m k:Nat),l.length - k=m→k≤l.length→ ∀fuel,m<fuel→ah fuel F d (k:Int)=chk c (l.drop k) (k:Int):=by
  intro m
  induction m with
  | zero=>
   intro k e1 e2 fuel hf
   obtain ⟨g,rfl⟩: ∃g,fuel=g+1:=⟨fuel - 1,by omega⟩
   rw [ah,hE _ _ (by omega),List.drop_of_length_le (by omega),chk]
  | succ m ih=>
   intro k e1 e2 fuel hf
   obtain ⟨g,rfl⟩: ∃g,fuel=g+1:=⟨fuel - 1,by omega⟩
   have hk:k<l.length:=by omega
   have:=ih (k+1) (by omega) (by omega) g (by omega)
   rw [ah,hF _ _ (by omega) (by omega),List.drop_eq_getElem_cons hk,chk,show ((k:Int)+1)=((k+1:Nat):Int) by omega,this]
 have h5:=key l.length 0 (by omega) (by omega) (((l.length:Int) - 0).toNat+1) (by omega)
 simpa using h5
theorem D5 {l:List Int} {i j v:Int} (hi:0≤i) (hl:i.toNat<l.length) (hj:0≤j):gt (st l i v) j=if j=i then v else gt l j:=by
 unfold st gt
 by_cases e:j=i
 ·subst e
  simp [List.getD_eq_getElem?_getD,hl]
 ·rw [if_neg e]
  simp only [List.getD_eq_getElem?_getD,List.getElem?_set]
  rw [if_neg (by omega)]
theorem Ok {g:ak} (hg:okG g) {r:aF} {c:Int} {z:List Int} (hc:0≤c∧c<g.Q) (hy: ∀y∈r.Y,0≤y∧y<g.P) (hb:r.Bases.length=r.Y.length) (hr: ∀row∈r.Bases,∀b∈row,El0 g.P g.Q.toNat b∧0≤b∧b<g.P) (hz: ∀x∈z,0≤x∧x<g.Q):
  (fB g r c z).length=r.Y.length∧ ∀j:Int,0≤j→j.toNat<r.Y.length→gt (fB g r c z) j=ct g.P z (gt r.Bases j)*(gt r.Y j^((g.Q - c)% g.Q).toNat% g.P)% g.P:=by
 have hg':=hg
 obtain ⟨h1,h2,h3,h4,h5,h6⟩:=hg
 have hW: ∀j:Int,j.toNat<r.Y.length→gt (r.Bases.map (ct g.P z)) j=ct g.P z (gt r.Bases j):=by
  intro j hj
  simp [gt,List.getD_eq_getElem?_getD,hb,hj]
 have hWr: ∀j:Int,j.toNat<r.Y.length→0≤ct g.P z (gt r.Bases j)∧ct g.P z (gt r.Bases j)<g.P:=fun j hj=>(qB (q:=g.Q.toNat) (by omega) (fun b hb2=>(hr _ (aK (l:=r.Bases) (i:=j) (by omega)) b hb2).1)).2
 unfold fB
 rw [aq,D4 hg' (fun row hr2 b hb2=>(hr row hr2 b hb2).2) hz]
 refine BX (fun p:Int×List Int=>0≤p.1∧p.1≤(r.Y.length:Int)∧p.2.length=r.Y.length∧(∀j:Int,0≤j→j<p.1→gt p.2 j=ct g.P z (gt r.Bases j)*(gt r.Y j^((g.Q - c)% g.Q).toNat% g.P)% g.P)∧ ∀j:Int,p.1≤j→j.toNat<r.Y.length→gt p.2 j=ct g.P z (gt r.Bases j))
  (fun s=>s.length=r.Y.length∧ ∀j:Int,0≤j→j.toNat<r.Y.length→gt s j=ct g.P z (gt r.Bases j)*(gt r.Y j^((g.Q - c)% g.Q).toNat% g.P)% g.P) (fun p=>((r.Y.length:Int) - p.1).toNat) ?_ _ _ ⟨Int.le_refl 0,by show (0:Int)≤_;omega,by simp [hb],fun j a b=>by omega,fun j _ hj=>hW j hj⟩ (Nat.lt_succ_self _)
 rintro ag ⟨i,s⟩ ⟨g0,g1,g2,g3,g4⟩ hag
 simp only at g0 g1 g2 g3 g4 hag
 dsimp only
 by_cases hi:i<(r.Y.length:Int)
 ·rw [if_pos (dT hi),aq,aq]
  have hyi:=hy _ (aK (l:=r.Y) (i:=i) (by omega))
  have e1:ap .i64 g.Q c=g.Q - c:=ff (by omega) (by omega)
  have e2:aO .i64 (g.Q - c) g.Q=(g.Q - c)% g.Q:=gu (by omega)
  have e3:=en (x:=g.Q - c) (m:=g.Q) (by omega)
  have hw:=hWr i (by omega)
  rw [e1,e2,wpw hyi.1 hyi.2 (by omega) (by omega) (by omega)]
  dsimp only
  rw [g4 i (by omega) (by omega),yu hw (en (by omega)) (by omega)]
  dsimp only
  refine hag _ ⟨by show 0≤i+1;omega,by show i+1≤_;omega,by simp [st,g2],fun j a b=> ?_,fun j a b=> ?_⟩ (by show ((r.Y.length:Int) - (i+1)).toNat<((r.Y.length:Int) - i).toNat;omega)
  ·dsimp only at b⊢
   rw [D5 g0 (by omega) a]
   by_cases e:j=i
   ·rw [if_pos e,e]
   ·rw [if_neg e];exact g3 j a (by omega)
  ·dsimp only at a⊢
   rw [D5 g0 (by omega) (by omega),if_neg (by omega)]
   exact g4 j (by omega) b
 ·rw [if_neg (dN hi)]
  exact ⟨g2,fun j a b=>g3 j a (by omega)⟩
theorem D6 {s A:List Int} {n:Nat} {V:Int→Int} (hs:s.length=n) (hA:A.length=n) (hv: ∀j:Int,0≤j→j.toNat<n→gt s j=V j) {Y:List Int} (hY:Y.length=n):jp s A=chk (fun i=>V i==gt A i) Y 0:=by
 unfold jp
 rw [if_neg (by simp;omega),show (s.length:Int)=(Y.length:Int) by omega]
 refine Oj (fun i=>V i==gt A i) (fun ag i h0 h=> ?_) (fun ag i h=> ?_)
 ·rw [if_pos (dT h),hv i h0 (by omega)]
  by_cases e:V i=gt A i
  ·rw [if_neg (by simpa using e),if_pos (by simpa using e)]
  ·rw [if_pos (by simpa using e),if_neg (by simpa using e)]
 ·rw [if_neg (dN h)]
end Go.Proofs.YtgealhhkngbkbaaGreatDoor
