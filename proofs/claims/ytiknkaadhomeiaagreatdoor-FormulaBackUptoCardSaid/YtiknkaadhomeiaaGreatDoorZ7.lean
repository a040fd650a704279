/- Texts of this proof, one after the other: U2, U3, A1, A2, F1, F2, F3. -/
import Derived.Test.YtiknkaadhomeiaaGreatDoorZ6
import Derived.Test.YtiknkaadhomeiaaGreatDoorZ5
import Derived.Lib.SplitLaws
import Derived.Lib.ItoaMem
set_option linter.unusedVariables false
set_option linter.unusedSimpArgs false
namespace Go.Proofs.YtiknkaadhomeiaaGreatDoor
open Go.RowKit
set_option linter.unusedSimpArgs false
set_option maxHeartbeats 2000000 in
set_option maxRecDepth 100000 in
instance GO (g:ax):CM En (iB g) 125 [.agg [.int .i64 g.P,.int .i64 g.Q,.int .i64 g.G]] (fun y=> .bool y) (fun _=> []):=by
 refine cmQ fun r hM=> ?_
 rw [iB.eq_1] at hM
 refine aI az aC noJ Tryz.func125 rfl Tryz.ntmps125 (by kernel_rfl) fun hw=>aB ?_
 refine spQ ?_
 replace hw:=nzQ hw
 have hF:=bz
 exact auQ
set_option maxHeartbeats 2000000 in
set_option maxRecDepth 100000 in
instance GP (g:ax) (x_:Int):CM En (qT g x_) 223 [.agg [.int .i64 g.P,.int .i64 g.Q,.int .i64 g.G],.int .i64 x_] (fun y=> .bool y) (fun _=> []):=by
 refine cmQ fun r hM=> ?_
 rw [qT.eq_1] at hM
 refine aI az aC noJ Tryz.func223 rfl Tryz.ntmps223 (by kernel_rfl) fun hw=>aB ?_
 refine spQ ?_
 replace hw:=nzQ hw
 have hF:=bz
 exact auQ
set_option maxHeartbeats 2000000 in
set_option maxRecDepth 100000 in
instance GQ (x_:Int) (c0:ax):CM En (qU x_ c0) 222 [.int .i64 x_,.pp 3 true (.agg [.int .i64 c0.P,.int .i64 c0.Q,.int .i64 c0.G])] (fun y=> .bool y) (fun _=> []):=by
 refine cmQ fun r hM=> ?_
 rw [qU.eq_1] at hM
 refine aI az aC noJ Tryz.func222 rfl Tryz.ntmps222 (by kernel_rfl) fun hw=>aB ?_
 refine spQ ?_
 replace hw:=nzQ hw
 have hF:=bz
 exact auQ
set_option maxHeartbeats 2000000 in
set_option maxRecDepth 100000 in
instance GR (s:(List Int)) (f__c0:ax):CM En (qV s f__c0) 184 [.sl none 1 false (s.map (V.int .i64)),.fn 222 [.pp 3 true (.agg [.int .i64 f__c0.P,.int .i64 f__c0.Q,.int .i64 f__c0.G])]] (fun y=> .int .i64 y) (fun _=> []):=by
 refine cmQ fun r hM=> ?_
 rw [qV.eq_1] at hM
 refine aI az aC noJ Tryz.func184 rfl Tryz.ntmps184 (by kernel_rfl) fun hw=>aB ?_
 refine spQ ?_
 replace hw:=nzQ hw
 have hM0:=hM;clear hM;obtain ⟨f1,d1,hf1,hd1,hM⟩:=bv hM0;clear hM0
 refine bL (fun n S=> ∃p:Int,S=(⟨[(0,.sl none 1 false (s.map (V.int .i64))),(1,.fn 222 [.pp 3 true (.agg [.int .i64 f__c0.P,.int .i64 f__c0.Q,.int .i64 f__c0.G])]),(7,.int .i64 (s.length:Int)),(8,.int .i64 p)],[],0⟩:St)∧((0≤p)∧(p≤(s.length:Int)))∧((s.length:Int) - p).toNat<n∧ap n f1 d1 p=r) (((s.length:Int) - 0).toNat+1) _ sbQ sbQ ⟨0,rfl,⟨omQ,omQ⟩,(Nat.lt_succ_self _),hM⟩ ?_
 clear hM
 rintro n1 S ⟨p1,rfl,hfa1,hm1,hM⟩
 have hM0:=hM;clear hM;obtain ⟨ag1,hag1,hM⟩:=bw hM0 (by omega) hf1;clear hM0
 replace hfa1:=nzQ hfa1
 replace hm1:=nzQ hm1
 have ha1:aE .i64 p1 1=p1+1:=bQ omQ omQ
 refine aa ha1 ?_
 have hF:=ha1
 exact auQ
set_option maxHeartbeats 2000000 in
set_option maxRecDepth 100000 in
instance GS (s:(List Int)) (f__c0:ax):CM En (qW s f__c0) 128 [.sl none 1 false (s.map (V.int .i64)),.fn 222 [.pp 3 true (.agg [.int .i64 f__c0.P,.int .i64 f__c0.Q,.int .i64 f__c0.G])]] (fun y=> .bool y) (fun _=> []):=by
 refine cmQ fun r hM=> ?_
 rw [qW.eq_1] at hM
 refine aI az aC noJ Tryz.func128 rfl Tryz.ntmps128 (by kernel_rfl) fun hw=>aB ?_
 refine spQ ?_
 replace hw:=nzQ hw
 have hF:=bz
 exact auQ
set_option maxHeartbeats 2000000 in
set_option maxRecDepth 100000 in
instance GT (g:ax) (l:(List Int)):CM En (nB g l) 182 [.agg [.int .i64 g.P,.int .i64 g.Q,.int .i64 g.G],.sl none 1 false (l.map (V.int .i64))] (fun y=> .bool y) (fun _=> []):=by
 refine cmQ fun r hM=> ?_
 rw [nB.eq_1] at hM
 refine aI az aC noJ Tryz.func182 rfl Tryz.ntmps182 (by kernel_rfl) fun hw=>aB ?_
 refine spQ ?_
 replace hw:=nzQ hw
 have hF:=bz
 exact auQ
set_option maxHeartbeats 2000000 in
set_option maxRecDepth 100000 in
instance GU (row:(List Int)) (c0:Int) (c1:ax):CM En (ld row c0 c1) 183 [.sl none 1 false (row.map (V.int .i64)),.pp 1 false (.int .i64 c0),.pp 3 true (.agg [.int .i64 c1.P,.int .i64 c1.Q,.int .i64 c1.G])] (fun y=> .bool y) (fun _=> []):=by
 refine cmQ fun r hM=> ?_
 rw [ld.eq_1] at hM
 refine aI az aC noJ Tryz.func183 rfl Tryz.ntmps183 (by kernel_rfl) fun hw=>aB ?_
 refine spQ ?_
 replace hw:=nzQ hw
 have hF:=bz
 exact auQ
set_option maxHeartbeats 2000000 in
set_option maxRecDepth 100000 in
instance GV (s:(List (List Int))) (f__c0:Int) (f__c1:ax):CM En (jy s f__c0 f__c1) 134 [.sl none 1 false (s.map (fun (l:List Int)=>V.sl none 1 false (l.map (V.int .i64)))),.fn 183 [.pp 1 false (.int .i64 f__c0),.pp 3 true (.agg [.int .i64 f__c1.P,.int .i64 f__c1.Q,.int .i64 f__c1.G])]] (fun y=> .int .i64 y) (fun _=> []):=by
 refine cmQ fun r hM=> ?_
 rw [jy.eq_1] at hM
 refine aI az aC noJ Tryz.func134 rfl Tryz.ntmps134 (by kernel_rfl) fun hw=>aB ?_
 refine spQ ?_
 replace hw:=nzQ hw
 have hM0:=hM;clear hM;obtain ⟨f1,d1,hf1,hd1,hM⟩:=bv hM0;clear hM0
 refine bL (fun n S=> ∃p:Int,S=(⟨[(0,.sl none 1 false (s.map (fun (l:List Int)=>V.sl none 1 false (l.map (V.int .i64))))),(1,.fn 183 [.pp 1 false (.int .i64 f__c0),.pp 3 true (.agg [.int .i64 f__c1.P,.int .i64 f__c1.Q,.int .i64 f__c1.G])]),(7,.int .i64 (s.length:Int)),(8,.int .i64 p)],[],0⟩:St)∧((0≤p)∧(p≤(s.length:Int)))∧((s.length:Int) - p).toNat<n∧ap n f1 d1 p=r) (((s.length:Int) - 0).toNat+1) _ sbQ sbQ ⟨0,rfl,⟨omQ,omQ⟩,(Nat.lt_succ_self _),hM⟩ ?_
 clear hM
 rintro n1 S ⟨p1,rfl,hfa1,hm1,hM⟩
 have hM0:=hM;clear hM;obtain ⟨ag1,hag1,hM⟩:=bw hM0 (by omega) hf1;clear hM0
 replace hfa1:=nzQ hfa1
 replace hm1:=nzQ hm1
 have ha1:aE .i64 p1 1=p1+1:=bQ omQ omQ
 refine aa ha1 ?_
 have hF:=ha1
 exact auQ
set_option maxHeartbeats 2000000 in
set_option maxRecDepth 100000 in
instance GW (s:(List (List Int))) (f__c0:Int) (f__c1:ax):CM En (lf s f__c0 f__c1) 69 [.sl none 1 false (s.map (fun (l:List Int)=>V.sl none 1 false (l.map (V.int .i64)))),.fn 183 [.pp 1 false (.int .i64 f__c0),.pp 3 true (.agg [.int .i64 f__c1.P,.int .i64 f__c1.Q,.int .i64 f__c1.G])]] (fun y=> .bool y) (fun _=> []):=by
 refine cmQ fun r hM=> ?_
 rw [lf.eq_1] at hM
 refine aI az aC noJ Tryz.func69 rfl Tryz.ntmps69 (by kernel_rfl) fun hw=>aB ?_
 refine spQ ?_
 replace hw:=nzQ hw
 have hF:=bz
 exact auQ
set_option maxHeartbeats 2000000 in
set_option maxRecDepth 100000 in
instance GX (g:ax) (r_:aL):CM En (gL g r_) 127 [.agg [.int .i64 g.P,.int .i64 g.Q,.int .i64 g.G],.agg [.sl none 1 false (r_.Y.map (V.int .i64)),.sl none 1 false (r_.Bases.map (fun (l:List Int)=>V.sl none 1 false (l.map (V.int .i64))))]] (fun y=> .bool y) (fun _=> []):=by
 refine cmQ fun r hM=> ?_
 rw [gL.eq_1] at hM
 refine aI az aC noJ Tryz.func127 rfl Tryz.ntmps127 (by kernel_rfl) fun hw=>aB ?_
 refine spQ ?_
 replace hw:=nzQ hw
 have hF:=bz
 exact auQ
set_option maxHeartbeats 2000000 in
set_option maxRecDepth 100000 in
instance GY (r_:aL) (c0:ax):CM En (qX r_ c0) 126 [.agg [.sl none 1 false (r_.Y.map (V.int .i64)),.sl none 1 false (r_.Bases.map (fun (l:List Int)=>V.sl none 1 false (l.map (V.int .i64))))],.pp 3 true (.agg [.int .i64 c0.P,.int .i64 c0.Q,.int .i64 c0.G])] (fun y=> .bool y) (fun _=> []):=by
 refine cmQ fun r hM=> ?_
 rw [qX.eq_1] at hM
 refine aI az aC noJ Tryz.func126 rfl Tryz.ntmps126 (by kernel_rfl) fun hw=>aB ?_
 refine spQ ?_
 replace hw:=nzQ hw
 have hF:=bz
 exact auQ
set_option maxHeartbeats 2000000 in
set_option maxRecDepth 100000 in
instance GZ (f_:ab) (c0_c0:ax):CM En (dc f_ c0_c0) 137 [.agg [.int .i64 f_.Kind,.sl none 1 false (f_.Relation.Y.map (V.int .i64)),.sl none 1 false (f_.Relation.Bases.map (fun (l:List Int)=>V.sl none 1 false (l.map (V.int .i64)))),.sl none 4 true (f_.L.map ay)],.pp 1 false (.fn 126 [.pp 3 true (.agg [.int .i64 c0_c0.P,.int .i64 c0_c0.Q,.int .i64 c0_c0.G])])] (fun y=> .bool y) (fun _=> []):=by
 refine cmQ fun r hM=> ?_
 rw [dc.eq_1] at hM
 refine aI az aC [6] Tryz.func137 rfl Tryz.ntmps137 (by kernel_rfl) fun hw=>aB ?_
 refine spQ ?_
 replace hw:=nzQ hw
 refine aG (fun h1=> ?_) (fun h1=> ?_)
 ·rw [if_pos h1] at hM
  refine aa h1 ?_
  have nh1:=nzQ h1
  try have hr2:=mpQ nh1
  have hF:=h1
  exact auQ
 ·rw [if_neg (av h1)] at hM
  refine aa h1 ?_
  have nh1:=nzQ h1
  try have hr9:=mpQ nh1
  have hM0:=hM;clear hM;obtain ⟨j10,hj10,hM⟩:=jm hM0;clear hM0
  refine jj (fun S=> ∃p:Bool,S=(⟨[(2,.ptr 0 0),(18,.bool p)],[(0,.var 4 true (.agg [.int .i64 f_.Kind,.sl none 1 false (f_.Relation.Y.map (V.int .i64)),.sl none 1 false (f_.Relation.Bases.map (fun (l:List Int)=>V.sl none 1 false (l.map (V.int .i64)))),.sl none 4 true (f_.L.map ay)]))],1⟩:St)∧(True)∧j10 p=r) ?_ (fun hcut10=> ?_)
  ·clear hM
   rintro S ⟨p10,rfl,hfa10,hM⟩
   have hM0:=hM;clear hM;have hM:=jn hM0 hj10;clear hM0
   try refine spQ ?_
   have hF:=h1
   exact auQ
  ·refine spQ ?_
   refine aG (fun h21=> ?_) (fun h21=> ?_)
   ·rw [if_pos h21] at hM
    refine aa h21 ?_
    have nh21:=nzQ h21
    try have hr22:=mpQ nh21
    exact dE _ sbQ sbQ (hcut10 _ ⟨true,rfl,trivial,hM⟩)
   ·rw [if_neg (av h21)] at hM
    refine aa h21 ?_
    have nh21:=nzQ h21
    try have hr23:=mpQ nh21
    exact dE _ sbQ sbQ (hcut10 _ ⟨(f_.Kind==3),rfl,trivial,hM⟩)
set_option maxHeartbeats 2000000 in
set_option maxRecDepth 100000 in
theorem D_ (N:Nat) (ih: ∀(f_:ab) (depth:Int) (left:Int) (good_c0_c0:ax),aN f_<N→bn En 136 [.agg [.int .i64 f_.Kind,.sl none 1 false (f_.Relation.Y.map (V.int .i64)),.sl none 1 false (f_.Relation.Bases.map (fun (l:List Int)=>V.sl none 1 false (l.map (V.int .i64)))),.sl none 4 true (f_.L.map ay)],.int .i64 depth,.ptr 0 0,.fn 137 [.pp 1 false (.fn 126 [.pp 3 true (.agg [.int .i64 good_c0_c0.P,.int .i64 good_c0_c0.Q,.int .i64 good_c0_c0.G])])]] [.var 1 false (.int .i64 left)] (.bool ((fr dc) f_ depth left good_c0_c0).1) [.var 1 false (.int .i64 ((fr dc) f_ depth left good_c0_c0).2)] []) (f_:ab) (depth:Int) (left:Int) (good_c0_c0:ax) (hp_:aN f_<N+1):bn En 136 [.agg [.int .i64 f_.Kind,.sl none 1 false (f_.Relation.Y.map (V.int .i64)),.sl none 1 false (f_.Relation.Bases.map (fun (l:List Int)=>V.sl none 1 false (l.map (V.int .i64)))),.sl none 4 true (f_.L.map ay)],.int .i64 depth,.ptr 0 0,.fn 137 [.pp 1 false (.fn 126 [.pp 3 true (.agg [.int .i64 good_c0_c0.P,.int .i64 good_c0_c0.Q,.int .i64 good_c0_c0.G])])]] [.var 1 false (.int .i64 left)] (.bool (jz f_ depth left good_c0_c0).1) [.var 1 false (.int .i64 (jz f_ depth left good_c0_c0).2)] []:=by
 generalize hM:jz f_ depth left good_c0_c0=r
 rw [jz.eq_1] at hM
 refine dr az aC noJ Tryz.func136 rfl Tryz.ntmps136 (by kernel_rfl) rfl fun ks hw hwB=>aB ?_
 refine spQ ?_
 replace hw:=nzQ hw
 replace hwB:=nzB hwB
 refine bX (fun h1=> ?_) (fun h1=> ?_)
 ·rw [if_neg (av h1)] at hM
  refine aa h1 ?_
  have nh1:=nzQ h1
  try have hr2:=mpQ nh1
  refine bX (fun h3=> ?_) (fun h3=> ?_)
  ·rw [if_neg (av h3)] at hM
   refine aa h3 ?_
   have nh3:=nzQ h3
   try have hr4:=mpQ nh3
   have hM0:=hM;clear hM;obtain ⟨x5,hx6,hM⟩:=aA hM0;clear hM0
   have hcx5:=cmU hx6
   refine aT hcx5 clQ clQ (fun hw7=> ?_)
   replace hw7:=nzQ hw7
   refine spQ ?_
   refine aG (fun h8=> ?_) (fun h8=> ?_)
   ·rw [if_pos h8] at hM
    refine aa h8 ?_
    have nh8:=nzQ h8
    try have hr9:=mpQ nh8
    subst hM
    exact aW [0] (aw (And.intro h1 (And.intro h3 h8))) (by decide) (aw (And.intro h1 (And.intro h3 h8)))
   ·rw [if_neg (av h8)] at hM
    refine aa h8 ?_
    have nh8:=nzQ h8
    try have hr10:=mpQ nh8
    have hM0:=hM;clear hM;obtain ⟨f11,d11,hf11,hd11,hM⟩:=bv hM0;clear hM0
    refine bL (fun n S=> ∃p:Int×Int,S=(⟨[(1,.int .i64 depth),(2,.ptr 0 0),(3,.fn 137 [.pp 1 false (.fn 126 [.pp 3 true (.agg [.int .i64 good_c0_c0.P,.int .i64 good_c0_c0.Q,.int .i64 good_c0_c0.G])])]),(31,.sl none 4 true (f_.L.map ay)),(32,.int .i64 (f_.L.length:Int)),(33,.int .i64 p.1)],[(0,.lent (ks 0) 1 false (.int .i64 p.2))],2⟩:St)∧((0≤p.1)∧(p.1≤(f_.L.length:Int)))∧((f_.L.length:Int) - p.1).toNat<n∧ap n f11 d11 p=r) (((f_.L.length:Int) - 0).toNat+1) _ sbQ sbQ ⟨(0,(an .i64 left 1)),rfl,⟨omQ,omQ⟩,(Nat.lt_succ_self _),hM⟩ ?_
    clear hM
    rintro n11 S ⟨p11,rfl,hfa11,hm11,hM⟩
    have hM0:=hM;clear hM;obtain ⟨ag11,hag11,hM⟩:=bw hM0 (by omega) hf11;clear hM0
    replace hfa11:=nzQ hfa11
    replace hm11:=nzQ hm11
    have ha11:aE .i64 p11.1 1=p11.1+1:=bQ omQ omQ
    refine aa ha11 ?_
    refine aG (fun h12=> ?_) (fun h12=> ?_)
    ·rw [if_pos h12] at hM
     refine aa (And.intro ha11 h12) ?_
     have nh12:=nzQ h12
     try have hr13:=mpQ nh12
     refine bc omQ ?_
     have he14:=fun d=>da (l:=f_.L) (f:=ay) (i:=p11.1) omQ d
     refine aa (And.intro ha11 he14) ?_
     have hM0:=hM;clear hM;obtain ⟨x15,hx16,hM⟩:=aA hM0;clear hM0
     have hcx15:=ih (gt f_.L p11.1) (aE .i64 depth 1) (p11.2) good_c0_c0 (by (have h9:=dX (f:=f_) (bF (l:=f_.L) (i:=p11.1) (by omega));omega))
     rw [←hx16] at hcx15
     refine bJ [0] hcx15 (by decide) (aw (And.intro ha11 he14)) (aw (And.intro ha11 he14)) (fun hw17=> ?_)
     replace hw17:=nzQ hw17
     refine aa (And.intro ha11 he14) ?_
     refine aG (fun h18=> ?_) (fun h18=> ?_)
     ·rw [if_pos h18] at hM
      refine aa (And.intro ha11 (And.intro he14 h18)) ?_
      have nh18:=nzQ h18
      try have hr19:=mpQ nh18
      subst hM
      exact aW [0] (aw (And.intro ha11 (And.intro he14 (And.intro h1 (And.intro h3 (And.intro h8 (And.intro h12 h18))))))) (by decide) (aw (And.intro ha11 (And.intro he14 (And.intro h1 (And.intro h3 (And.intro h8 (And.intro h12 h18)))))))
     ·rw [if_neg (av h18)] at hM
      refine aa (And.intro ha11 (And.intro he14 h18)) ?_
      have nh18:=nzQ h18
      try have hr20:=mpQ nh18
      refine ce (n11 - 1) _ (by omega) sbQ sbQ ⟨((p11.1+1),x15.2),rfl,⟨omQ,omQ⟩,omQ,cg hM hag11⟩
    ·rw [if_neg (av h12)] at hM
     refine aa (And.intro ha11 h12) ?_
     have nh12:=nzQ h12
     try have hr21:=mpQ nh12
     subst hM
     exact aW [0] (aw (And.intro ha11 (And.intro h1 (And.intro h3 (And.intro h8 h12))))) (by decide) (aw (And.intro ha11 (And.intro h1 (And.intro h3 (And.intro h8 h12)))))
  ·rw [if_pos h3] at hM
   refine aa h3 ?_
   have nh3:=nzQ h3
   try have hr22:=mpQ nh3
   subst hM
   exact aW [0] (aw (And.intro h1 h3)) (by decide) (aw (And.intro h1 h3))
 ·rw [if_pos h1] at hM
  refine aa h1 ?_
  have nh1:=nzQ h1
  try have hr23:=mpQ nh1
  subst hM
  exact aW [0] (aw h1) (by decide) (aw h1)
theorem Ea: ∀(N:Nat) (f_:ab) (depth:Int) (left:Int) (good_c0_c0:ax),aN f_<N→bn En 136 [.agg [.int .i64 f_.Kind,.sl none 1 false (f_.Relation.Y.map (V.int .i64)),.sl none 1 false (f_.Relation.Bases.map (fun (l:List Int)=>V.sl none 1 false (l.map (V.int .i64)))),.sl none 4 true (f_.L.map ay)],.int .i64 depth,.ptr 0 0,.fn 137 [.pp 1 false (.fn 126 [.pp 3 true (.agg [.int .i64 good_c0_c0.P,.int .i64 good_c0_c0.Q,.int .i64 good_c0_c0.G])])]] [.var 1 false (.int .i64 left)] (.bool ((fr dc) f_ depth left good_c0_c0).1) [.var 1 false (.int .i64 ((fr dc) f_ depth left good_c0_c0).2)] []:=by
 intro N
 induction N with
 | zero=>intro f_ depth left good_c0_c0 h;exact absurd h (Nat.not_lt_zero _)
 | succ N ih=>
  intro f_ depth left good_c0_c0 h
  have h9:=D_ N ih f_ depth left good_c0_c0 h
  rw [Dv] at h9
  exact h9
theorem Eb (f_:ab) (depth:Int) (left:Int) (good_c0_c0:ax):bn En 136 [.agg [.int .i64 f_.Kind,.sl none 1 false (f_.Relation.Y.map (V.int .i64)),.sl none 1 false (f_.Relation.Bases.map (fun (l:List Int)=>V.sl none 1 false (l.map (V.int .i64)))),.sl none 4 true (f_.L.map ay)],.int .i64 depth,.ptr 0 0,.fn 137 [.pp 1 false (.fn 126 [.pp 3 true (.agg [.int .i64 good_c0_c0.P,.int .i64 good_c0_c0.Q,.int .i64 good_c0_c0.G])])]] [.var 1 false (.int .i64 left)] (.bool ((fr dc) f_ depth left good_c0_c0).1) [.var 1 false (.int .i64 ((fr dc) f_ depth left good_c0_c0).2)] []:=
 Ea (aN f_+1) f_ depth left good_c0_c0 (Nat.lt_succ_self _)
set_option maxHeartbeats 2000000 in
set_option maxRecDepth 100000 in
instance G0 (f_:ab) (good_c0:ax):CM En (qY f_ good_c0) 75 [.agg [.int .i64 f_.Kind,.sl none 1 false (f_.Relation.Y.map (V.int .i64)),.sl none 1 false (f_.Relation.Bases.map (fun (l:List Int)=>V.sl none 1 false (l.map (V.int .i64)))),.sl none 4 true (f_.L.map ay)],.fn 126 [.pp 3 true (.agg [.int .i64 good_c0.P,.int .i64 good_c0.Q,.int .i64 good_c0.G])]] (fun y=> .bool y) (fun _=> []):=by
 refine cmQ fun r hM=> ?_
 rw [qY.eq_1] at hM
 refine aI az aC [2] Tryz.func75 rfl Tryz.ntmps75 (by kernel_rfl) fun hw=>aB ?_
 refine spQ ?_
 replace hw:=nzQ hw
 refine kO ?_
 try refine spQ ?_
 refine jp _ (⟨[(2,.ptr 0 0),(3,.pp 1 false (.fn 126 [.pp 3 true (.agg [.int .i64 good_c0.P,.int .i64 good_c0.Q,.int .i64 good_c0.G])])),(5,.ptr 2 0)],[(0,.var 4 true (.agg [.int .i64 f_.Kind,.sl none 1 false (f_.Relation.Y.map (V.int .i64)),.sl none 1 false (f_.Relation.Bases.map (fun (l:List Int)=>V.sl none 1 false (l.map (V.int .i64)))),.sl none 4 true (f_.L.map ay)])),(1,.pvar 1 false (.fn 126 [.pp 3 true (.agg [.int .i64 good_c0.P,.int .i64 good_c0.Q,.int .i64 good_c0.G])])),(2,.var 1 false (.int .i64 30))],3⟩:St) ((kJ (S:=⟨_,_,_⟩) 1 (n:=1) (g:=false) (d:= .fn 126 [.pp 3 true (.agg [.int .i64 good_c0.P,.int .i64 good_c0.Q,.int .i64 good_c0.G])]) clQ clQ).trans (lw (S:=⟨_,_,_⟩) 3 1 (n:=1) (g:=false) (d:= .fn 126 [.pp 3 true (.agg [.int .i64 good_c0.P,.int .i64 good_c0.Q,.int .i64 good_c0.G])]) clQ clQ)) sbQ sbQ ?_
 try refine spQ ?_
 have hM0:=hM;clear hM;obtain ⟨x1,hx2,hM⟩:=aA hM0;clear hM0
 have hcx1:=Eb f_ 1 30 good_c0
 rw [←hx2] at hcx1
 refine bJ [2] hcx1 (by decide) lsQ lsQ (fun hw3=> ?_)
 replace hw3:=nzQ hw3
 refine spQ ?_
 subst hM
 exact aU lfQ
set_option maxHeartbeats 2000000 in
set_option maxRecDepth 100000 in
instance G2 (g:ax) (f_:ab):CM En (jA g f_) 66 [.agg [.int .i64 g.P,.int .i64 g.Q,.int .i64 g.G],.agg [.int .i64 f_.Kind,.sl none 1 false (f_.Relation.Y.map (V.int .i64)),.sl none 1 false (f_.Relation.Bases.map (fun (l:List Int)=>V.sl none 1 false (l.map (V.int .i64)))),.sl none 4 true (f_.L.map ay)]] (fun y=> .bool y) (fun _=> []):=by
 refine cmQ fun r hM=> ?_
 rw [jA.eq_1] at hM
 refine aI az aC noJ Tryz.func66 rfl Tryz.ntmps66 (by kernel_rfl) fun hw=>aB ?_
 refine spQ ?_
 replace hw:=nzQ hw
 have hF:=bz
 exact auQ
set_option maxHeartbeats 2000000 in
set_option maxRecDepth 100000 in
instance G3 (g:ax) (x_:Int):CM En (qZ g x_) 130 [.agg [.int .i64 g.P,.int .i64 g.Q,.int .i64 g.G],.int .i64 x_] (fun y=> .bool y) (fun _=> []):=by
 refine cmQ fun r hM=> ?_
 rw [qZ.eq_1] at hM
 refine aI az aC noJ Tryz.func130 rfl Tryz.ntmps130 (by kernel_rfl) fun hw=>aB ?_
 refine spQ ?_
 replace hw:=nzQ hw
 have hF:=bz
 exact auQ
set_option maxHeartbeats 2000000 in
set_option maxRecDepth 100000 in
instance G4 (x_:Int) (c0:ax):CM En (q5 x_ c0) 129 [.int .i64 x_,.pp 3 true (.agg [.int .i64 c0.P,.int .i64 c0.Q,.int .i64 c0.G])] (fun y=> .bool y) (fun _=> []):=by
 refine cmQ fun r hM=> ?_
 rw [q5.eq_1] at hM
 refine aI az aC noJ Tryz.func129 rfl Tryz.ntmps129 (by kernel_rfl) fun hw=>aB ?_
 refine spQ ?_
 replace hw:=nzQ hw
 have hF:=bz
 exact auQ
set_option maxHeartbeats 2000000 in
set_option maxRecDepth 100000 in
instance G5 (s:(List Int)) (f__c0:ax):CM En (q6 s f__c0) 184 [.sl none 1 false (s.map (V.int .i64)),.fn 129 [.pp 3 true (.agg [.int .i64 f__c0.P,.int .i64 f__c0.Q,.int .i64 f__c0.G])]] (fun y=> .int .i64 y) (fun _=> []):=by
 refine cmQ fun r hM=> ?_
 rw [q6.eq_1] at hM
 refine aI az aC noJ Tryz.func184 rfl Tryz.ntmps184 (by kernel_rfl) fun hw=>aB ?_
 refine spQ ?_
 replace hw:=nzQ hw
 have hM0:=hM;clear hM;obtain ⟨f1,d1,hf1,hd1,hM⟩:=bv hM0;clear hM0
 refine bL (fun n S=> ∃p:Int,S=(⟨[(0,.sl none 1 false (s.map (V.int .i64))),(1,.fn 129 [.pp 3 true (.agg [.int .i64 f__c0.P,.int .i64 f__c0.Q,.int .i64 f__c0.G])]),(7,.int .i64 (s.length:Int)),(8,.int .i64 p)],[],0⟩:St)∧((0≤p)∧(p≤(s.length:Int)))∧((s.length:Int) - p).toNat<n∧ap n f1 d1 p=r) (((s.length:Int) - 0).toNat+1) _ sbQ sbQ ⟨0,rfl,⟨omQ,omQ⟩,(Nat.lt_succ_self _),hM⟩ ?_
 clear hM
 rintro n1 S ⟨p1,rfl,hfa1,hm1,hM⟩
 have hM0:=hM;clear hM;obtain ⟨ag1,hag1,hM⟩:=bw hM0 (by omega) hf1;clear hM0
 replace hfa1:=nzQ hfa1
 replace hm1:=nzQ hm1
 have ha1:aE .i64 p1 1=p1+1:=bQ omQ omQ
 refine aa ha1 ?_
 have hF:=ha1
 exact auQ
set_option maxHeartbeats 2000000 in
set_option maxRecDepth 100000 in
instance G6 (s:(List Int)) (f__c0:ax):CM En (q7 s f__c0) 128 [.sl none 1 false (s.map (V.int .i64)),.fn 129 [.pp 3 true (.agg [.int .i64 f__c0.P,.int .i64 f__c0.Q,.int .i64 f__c0.G])]] (fun y=> .bool y) (fun _=> []):=by
 refine cmQ fun r hM=> ?_
 rw [q7.eq_1] at hM
 refine aI az aC noJ Tryz.func128 rfl Tryz.ntmps128 (by kernel_rfl) fun hw=>aB ?_
 refine spQ ?_
 replace hw:=nzQ hw
 have hF:=bz
 exact auQ
set_option maxHeartbeats 2000000 in
set_option maxRecDepth 100000 in
instance G7 (g:ax) (l:(List Int)):CM En (q8 g l) 67 [.agg [.int .i64 g.P,.int .i64 g.Q,.int .i64 g.G],.sl none 1 false (l.map (V.int .i64))] (fun y=> .bool y) (fun _=> []):=by
 refine cmQ fun r hM=> ?_
 rw [q8.eq_1] at hM
 refine aI az aC noJ Tryz.func67 rfl Tryz.ntmps67 (by kernel_rfl) fun hw=>aB ?_
 refine spQ ?_
 replace hw:=nzQ hw
 have hF:=bz
 exact auQ
set_option maxHeartbeats 2000000 in
set_option maxRecDepth 100000 in
theorem Ec (r_:aL) (hp0:1≤r_.Bases.length):CM En (fX r_) 185 [.agg [.sl none 1 false (r_.Y.map (V.int .i64)),.sl none 1 false (r_.Bases.map (fun (l:List Int)=>V.sl none 1 false (l.map (V.int .i64))))]] (fun y=> .int .i64 y) (fun _=> []):=by
 refine cmQ fun r hM=> ?_
 rw [fX.eq_1] at hM
 refine aI az aC noJ Tryz.func185 rfl Tryz.ntmps185 (by kernel_rfl) fun hw=>aB ?_
 refine spQ ?_
 replace hw:=nzQ hw
 have hF:=bz
 exact auQ
set_option maxHeartbeats 2000000 in
set_option maxRecDepth 100000 in
instance G8 (x_:Int) (c0:ax):CM En (q9 x_ c0) 224 [.int .i64 x_,.pp 3 true (.agg [.int .i64 c0.P,.int .i64 c0.Q,.int .i64 c0.G])] (fun y=> .bool y) (fun _=> []):=by
 refine cmQ fun r hM=> ?_
 rw [q9.eq_1] at hM
 refine aI az aC noJ Tryz.func224 rfl Tryz.ntmps224 (by kernel_rfl) fun hw=>aB ?_
 refine spQ ?_
 replace hw:=nzQ hw
 have hF:=bz
 exact auQ
set_option maxHeartbeats 2000000 in
set_option maxRecDepth 100000 in
instance G9 (s:(List Int)) (f__c0:ax):CM En (q_ s f__c0) 184 [.sl none 1 false (s.map (V.int .i64)),.fn 224 [.pp 3 true (.agg [.int .i64 f__c0.P,.int .i64 f__c0.Q,.int .i64 f__c0.G])]] (fun y=> .int .i64 y) (fun _=> []):=by
 refine cmQ fun r hM=> ?_
 rw [q_.eq_1] at hM
 refine aI az aC noJ Tryz.func184 rfl Tryz.ntmps184 (by kernel_rfl) fun hw=>aB ?_
 refine spQ ?_
 replace hw:=nzQ hw
 have hM0:=hM;clear hM;obtain ⟨f1,d1,hf1,hd1,hM⟩:=bv hM0;clear hM0
 refine bL (fun n S=> ∃p:Int,S=(⟨[(0,.sl none 1 false (s.map (V.int .i64))),(1,.fn 224 [.pp 3 true (.agg [.int .i64 f__c0.P,.int .i64 f__c0.Q,.int .i64 f__c0.G])]),(7,.int .i64 (s.length:Int)),(8,.int .i64 p)],[],0⟩:St)∧((0≤p)∧(p≤(s.length:Int)))∧((s.length:Int) - p).toNat<n∧ap n f1 d1 p=r) (((s.length:Int) - 0).toNat+1) _ sbQ sbQ ⟨0,rfl,⟨omQ,omQ⟩,(Nat.lt_succ_self _),hM⟩ ?_
 clear hM
 rintro n1 S ⟨p1,rfl,hfa1,hm1,hM⟩
 have hM0:=hM;clear hM;obtain ⟨ag1,hag1,hM⟩:=bw hM0 (by omega) hf1;clear hM0
 replace hfa1:=nzQ hfa1
 replace hm1:=nzQ hm1
 have ha1:aE .i64 p1 1=p1+1:=bQ omQ omQ
 refine aa ha1 ?_
 have hF:=ha1
 exact auQ
set_option maxHeartbeats 2000000 in
set_option maxRecDepth 100000 in
instance G_ (s:(List Int)) (f__c0:ax):CM En (ra s f__c0) 128 [.sl none 1 false (s.map (V.int .i64)),.fn 224 [.pp 3 true (.agg [.int .i64 f__c0.P,.int .i64 f__c0.Q,.int .i64 f__c0.G])]] (fun y=> .bool y) (fun _=> []):=by
 refine cmQ fun r hM=> ?_
 rw [ra.eq_1] at hM
 refine aI az aC noJ Tryz.func128 rfl Tryz.ntmps128 (by kernel_rfl) fun hw=>aB ?_
 refine spQ ?_
 replace hw:=nzQ hw
 have hF:=bz
 exact auQ
set_option maxHeartbeats 2000000 in
set_option maxRecDepth 100000 in
instance Ha (g:ax) (l:(List Int)):CM En (rb g l) 186 [.agg [.int .i64 g.P,.int .i64 g.Q,.int .i64 g.G],.sl none 1 false (l.map (V.int .i64))] (fun y=> .bool y) (fun _=> []):=by
 refine cmQ fun r hM=> ?_
 rw [rb.eq_1] at hM
 refine aI az aC noJ Tryz.func186 rfl Tryz.ntmps186 (by kernel_rfl) fun hw=>aB ?_
 refine spQ ?_
 replace hw:=nzQ hw
 have hF:=bz
 exact auQ
set_option maxHeartbeats 2000000 in
set_option maxRecDepth 100000 in
instance Hb (a_:Int) (b:Int) (m:Int):CM En (rc a_ b m) 232 [.int .i64 a_,.int .i64 b,.int .i64 m] (fun y=> .tup [.int .i64 y.1,.int .i64 y.2]) (fun _=> []):=by
 refine cmQ fun r hM=> ?_
 rw [rc.eq_1] at hM
 refine aI az aC noJ Tryz.func232 rfl Tryz.ntmps232 (by kernel_rfl) fun hw=>aB ?_
 refine spQ ?_
 replace hw:=nzQ hw
 have hM0:=hM;clear hM;obtain ⟨x1,hx2,hM⟩:=aA hM0;clear hM0
 have hcx1:=cmU hx2
 refine aT hcx1 clQ clQ (fun hw3=> ?_)
 replace hw3:=nzQ hw3
 refine spQ ?_
 have hq4:=nzQ (cfU hx2)
 refine aG (fun h5=> ?_) (fun h5=> ?_)
 ·rw [if_pos h5] at hM
  refine aa h5 ?_
  have nh5:=nzQ h5
  try have hr6:=mpQ nh5
  subst hM
  exact aU (bf h5)
 ·rw [if_neg (av h5)] at hM
  refine aa h5 ?_
  have nh5:=nzQ h5
  try have hr7:=mpQ nh5
  have hM0:=hM;clear hM;obtain ⟨x8,hx9,hM⟩:=aA hM0;clear hM0
  have hcx8:=cmH hx9 (nT a_ b m (by (exact pfQ)) (by (exact pfQ)) (by (exact pfQ)))
  refine aT hcx8 clQ clQ (fun hw10=> ?_)
  replace hw10:=nzQ hw10
  refine spQ ?_
  subst hM
  exact aU (bf h5)
instance (priority:=1002):DRD 5 43 12 [12,22,23,24,25,26,27,28,29,30,31,32] [] ([[],[],[],[1,2],[1,2,3],[],[5],[0,1,2,3,4,5,6],[0,1,2,3,4,5,6,7],[0,1,2,3,4,5,6,7,8],[0,1,2,3,4,5,6,7,8],[0,1,2,3,4,5,6,7,8,9]]++[List.range 12]) []:=⟨trivial⟩
set_option maxHeartbeats 2000000 in
set_option maxRecDepth 100000 in
theorem Ed (g:ax) (start:Int) (bases:(List Int)) (exps:(List Int)) (hp0:bases.length≤exps.length) (hp1:bases.length≤1000):CM En (re g start bases exps) 225 [.agg [.int .i64 g.P,.int .i64 g.Q,.int .i64 g.G],.int .i64 start,.sl none 1 false (bases.map (V.int .i64)),.sl none 1 false (exps.map (V.int .i64))] (fun y=> .int .i64 y) (fun _=> []):=by
 refine cmQ fun r hM=> ?_
 rw [re.eq_1] at hM
 refine aI az aC noJ Tryz.func225 rfl Tryz.ntmps225 (by kernel_rfl) fun hw=>aB ?_
 refine spQ ?_
 replace hw:=nzQ hw
 have hM0:=hM;clear hM;obtain ⟨f1,d1,hf1,hd1,hM⟩:=bv hM0;clear hM0
 refine bL (fun n S=> ∃p:Int×Int,S=(⟨[(3,.sl none 1 false (exps.map (V.int .i64))),(4,.ptr 0 0),(9,.int .i64 p.1),(15,.sl none 1 false (bases.map (V.int .i64))),(16,.int .i64 (bases.length:Int)),(17,.int .i64 p.2)],[(0,.var 3 true (.agg [.int .i64 g.P,.int .i64 g.Q,.int .i64 g.G]))],1⟩:St)∧((0≤p.2)∧(p.2≤(bases.length:Int)))∧((bases.length:Int) - p.2).toNat<n∧ap n f1 d1 p=r) (((bases.length:Int) - 0).toNat+1) _ sbQ sbQ ⟨(start,0),rfl,⟨omQ,omQ⟩,(Nat.lt_succ_self _),hM⟩ ?_
 clear hM
 rintro n1 S ⟨p1,rfl,hfa1,hm1,hM⟩
 have hM0:=hM;clear hM;obtain ⟨ag1,hag1,hM⟩:=bw hM0 (by omega) hf1;clear hM0
 replace hfa1:=nzQ hfa1
 replace hm1:=nzQ hm1
 have ha1:aE .i64 p1.2 1=p1.2+1:=bQ omQ omQ
 refine aa ha1 ?_
 have hF:=ha1
 exact auQ
set_option maxHeartbeats 2000000 in
set_option maxRecDepth 100000 in
theorem Ee (g:ax) (rows:(List (List Int))) (exps:(List Int)) (hp0: ∀x∈rows,x.length≤exps.length∧x.length≤1000) (hp1:rows.length≤1000):CM En (rf g rows exps) 188 [.agg [.int .i64 g.P,.int .i64 g.Q,.int .i64 g.G],.sl none 1 false (rows.map (fun (l:List Int)=>V.sl none 1 false (l.map (V.int .i64)))),.sl none 1 false (exps.map (V.int .i64))] (fun _=> .own 0) (fun y=> [.own 3 1 false none (y.map (V.int .i64))]):=by
 refine cmQ fun r hM=> ?_
 rw [rf.eq_1] at hM
 refine aI az aC noJ Tryz.func188 rfl Tryz.ntmps188 (by kernel_rfl) fun hw=>aB ?_
 refine spQ ?_
 replace hw:=nzQ hw
 have hM0:=hM;clear hM;obtain ⟨f1,d1,hf1,hd1,hM⟩:=bv hM0;clear hM0
 refine kB (fun n S=> ∃p:Int×List Int,S=(⟨[(2,.sl none 1 false (exps.map (V.int .i64))),(3,.ptr 0 0),(7,.own 1),(10,.sl none 1 false (rows.map (fun (l:List Int)=>V.sl none 1 false (l.map (V.int .i64))))),(11,.int .i64 (rows.length:Int)),(12,.int .i64 p.1)],[(0,.var 3 true (.agg [.int .i64 g.P,.int .i64 g.Q,.int .i64 g.G])),(1,.own 3 1 false none (p.2.map (V.int .i64)))],2⟩:St)∧((0≤p.1)∧(p.1≤(rows.length:Int))∧(((p.2).length:Int)≤p.1))∧((rows.length:Int) - p.1).toNat<n∧ap n f1 d1 p=r) (((rows.length:Int) - 0).toNat+1) _ _ (qp 7 3 rfl (by decide)) sbQ sbQ ⟨(0,([]:List Int)),rfl,⟨omQ,omQ,omQ⟩,(Nat.lt_succ_self _),hM⟩ ?_
 clear hM
 rintro n1 S ⟨p1,rfl,hfa1,hm1,hM⟩
 have hM0:=hM;clear hM;obtain ⟨ag1,hag1,hM⟩:=bw hM0 (by omega) hf1;clear hM0
 replace hfa1:=nzQ hfa1
 replace hm1:=nzQ hm1
 have ha1:aE .i64 p1.1 1=p1.1+1:=bQ omQ omQ
 refine aa ha1 ?_
 refine aG (fun h2=> ?_) (fun h2=> ?_)
 ·rw [if_pos h2] at hM
  refine aa (And.intro ha1 h2) ?_
  have nh2:=nzQ h2
  try have hr3:=mpQ nh2
  refine bc omQ ?_
  have he4:=fun d=>da (l:=rows) (f:=(fun (l:List Int)=>V.sl none 1 false (l.map (V.int .i64)))) (i:=p1.1) omQ d
  refine aa (And.intro ha1 he4) ?_
  have hM0:=hM;clear hM;obtain ⟨x5,hx6,hM⟩:=aA hM0;clear hM0
  have hcx5:=cmH hx6 (Ed g 1 (gt rows p1.1) exps (by (first|exact (hp0 _ (bF (by omega))).1|exact (hp0 _ (bF (by omega))).2)) (by (first|exact (hp0 _ (bF (by omega))).1|exact (hp0 _ (bF (by omega))).2)))
  refine aT hcx5 (bk (And.intro ha1 he4)) (bk (And.intro ha1 he4)) (fun hw7=> ?_)
  replace hw7:=nzQ hw7
  refine aa (And.intro ha1 he4) ?_
  have hF:=(And.intro ha1 (And.intro h2 he4))
  exact auQ
 ·rw [if_neg (av h2)] at hM
  refine aa (And.intro ha1 h2) ?_
  have nh2:=nzQ h2
  try have hr8:=mpQ nh2
  subst hM
  exact Cb [1] (bs:=[.own 3 1 false none (p1.2.map (V.int .i64))]) (bk ha1) (by decide) (bf (And.intro ha1 h2))
instance (priority:=1003):DRD 6 26 8 [16,17,18,19,20,21,22,23] [] ([[],[],[0,1],[0,1,2],[],[],[4,5],[4,5,6]]++[List.range 8]) []:=⟨trivial⟩
set_option maxHeartbeats 2000000 in
set_option maxRecDepth 100000 in
instance Hc (s1:(List Int)) (s2:(List Int)):CM En (rg s1 s2) 187 [.sl none 1 false (s1.map (V.int .i64)),.sl none 1 false (s2.map (V.int .i64))] (fun y=> .bool y) (fun _=> []):=by
 refine cmQ fun r hM=> ?_
 rw [rg.eq_1] at hM
 refine aI az aC noJ Tryz.func187 rfl Tryz.ntmps187 (by kernel_rfl) fun hw=>aB ?_
 refine spQ ?_
 replace hw:=nzQ hw
 refine aG (fun h1=> ?_) (fun h1=> ?_)
 ·rw [if_pos h1] at hM
  refine aa h1 ?_
  have nh1:=nzQ h1
  try have hr2:=mpQ nh1
  subst hM
  exact aU (bf h1)
 ·rw [if_neg (av h1)] at hM
  refine aa h1 ?_
  have nh1:=nzQ h1
  try have hr3:=mpQ nh1
  have hM0:=hM;clear hM;obtain ⟨f4,d4,hf4,hd4,hM⟩:=bv hM0;clear hM0
  refine bL (fun n S=> ∃p:Int,S=(⟨[(0,.sl none 1 false (s1.map (V.int .i64))),(1,.sl none 1 false (s2.map (V.int .i64))),(12,.int .i64 (s1.length:Int)),(13,.int .i64 p)],[],0⟩:St)∧((0≤p)∧(p≤(s1.length:Int)))∧((s1.length:Int) - p).toNat<n∧ap n f4 d4 p=r) (((s1.length:Int) - 0).toNat+1) _ sbQ sbQ ⟨0,rfl,⟨omQ,omQ⟩,(Nat.lt_succ_self _),hM⟩ ?_
  clear hM
  rintro n4 S ⟨p4,rfl,hfa4,hm4,hM⟩
  have hM0:=hM;clear hM;obtain ⟨ag4,hag4,hM⟩:=bw hM0 (by omega) hf4;clear hM0
  replace hfa4:=nzQ hfa4
  replace hm4:=nzQ hm4
  have ha4:aE .i64 p4 1=p4+1:=bQ omQ omQ
  refine aa ha4 ?_
  have hF:=(And.intro h1 ha4)
  exact auQ
set_option maxHeartbeats 2000000 in
set_option maxRecDepth 100000 in
instance Hd (g:ax) (r_:aL) (x_:(List Int)):CM En (nC g r_ x_) 132 [.agg [.int .i64 g.P,.int .i64 g.Q,.int .i64 g.G],.agg [.sl none 1 false (r_.Y.map (V.int .i64)),.sl none 1 false (r_.Bases.map (fun (l:List Int)=>V.sl none 1 false (l.map (V.int .i64))))],.sl none 1 false (x_.map (V.int .i64))] (fun y=> .bool y) (fun _=> []):=by
 refine cmQ fun r hM=> ?_
 rw [nC.eq_1] at hM
 refine aI az aC noJ Tryz.func132 rfl Tryz.ntmps132 (by kernel_rfl) fun hw=>aB ?_
 refine spQ ?_
 replace hw:=nzQ hw
 refine jk 32 23 [7,8,9,10,11,12,13,14,15,16,17,18,19,20,21,22,23,24,25,26,27,28,29] [] ([[],[],[0,1],[0,1,2],[0,1,2,3],[0,1,2,3,4],[0,1,2,3],[0,1,2,3,6],[0,1,2,3,4,5,6,7],[0,1,2,3,4,5,6,7,8],[0,1,2,3,4,5,6,7,8,9],[0,1,2,3,4,5,6,7,8,9,10],[0,1,2,3,4,5,6,7,8,9,10],[0,1,2,3,4,5,6,7,8,9,10,11,12],[0,1,2,3,4,5,6,7,8,9,10,11,12,13],[0,1,2,3,4,5,6,7,8,9,10,11,12,13,14],[0,1,2,3,4,5,6,7,8,9,10,11,12,13,14,15],[0,1,2,3,4,5,6,7,8,9,10,11,12,13,14,15],[0,1,2,3,4,5,6,7,8,9,10,11,12,13,14,15,17],[0,1,2,3,4,5,6,7,8,9,10,11,12,13,14,15],[0,1,2,3,4,5,6,7,8,9,10,11,12,13,14,15,16,17,18,19],[0,1,2,3,4,5,6,7,8,9,10,11,12,13,14,15],[0,1,2,3,4,5,6,7,8,9,10,11,12,13,14,15,21]]++[List.range 23,List.range 24,List.range 25]) [] (by kernel_rfl) (by exact alQ) ?_
 refine spQ ?_
 have hM0:=hM;clear hM;obtain ⟨x1,hx2,hM⟩:=aA hM0;clear hM0
 have hcx1:=cmU hx2
 refine ij hcx1 clQ clQ ?_
 refine spQ ?_
 have hq3:=nzQ (cfU hx2)
 refine m7 (fun h4=> ?_) (fun h4=> ?_)
 ·subst h4
  rw [if_pos rfl] at hM
  refine spQ ?_
  try have hr5:=mpQ (a:=true=true) rfl
  have hM0:=hM;clear hM;obtain ⟨x6,hx7,hM⟩:=aA hM0;clear hM0
  have hcx6:=cmH hx7 (Ec r_ (by (clear hM;have h9:=rK ‹okR _ _›;omega)))
  refine ij hcx6 clQ clQ ?_
  refine spQ ?_
  refine m7 (fun h8=> ?_) (fun h8=> ?_)
  ·rw [if_pos h8] at hM
   refine aa h8 ?_
   have nh8:=nzQ h8
   try have hr9:=mpQ nh8
   have hM0:=hM;clear hM;obtain ⟨x10,hx11,hM⟩:=aA hM0;clear hM0
   have hcx10:=cmU hx11
   refine ij hcx10 clQ clQ ?_
   refine spQ ?_
   refine m7 (fun h12=> ?_) (fun h12=> ?_)
   ·subst h12
    rw [if_pos rfl] at hM
    refine spQ ?_
    have hM0:=hM;clear hM;obtain ⟨x13,hx14,hM⟩:=aA hM0;clear hM0
    have hcx13:=aV.pub (cmH hx14 (Ee g (r_.Bases) x_ (by (first|exact vM ‹okR _ _› ‹_=fX _› (by omega)|(have h9:=rK ‹okR _ _›;omega))) (by (first|exact vM ‹okR _ _› ‹_=fX _› (by omega)|(have h9:=rK ‹okR _ _›;omega)))))
    refine ij hcx13 clQ clQ ?_
    refine spQ ?_
    have hF:=h8
    exact auQ
   ·subst h12
    rw [if_neg (by decide)] at hM
    refine spQ ?_
    subst hM
    exact aU (bf h8)
  ·rw [if_neg (av h8)] at hM
   refine aa h8 ?_
   have nh8:=nzQ h8
   try have hr18:=mpQ nh8
   subst hM
   exact aU (bf h8)
 ·subst h4
  rw [if_neg (by decide)] at hM
  refine spQ ?_
  subst hM
  exact aU lfQ
set_option maxHeartbeats 2000000 in
set_option maxRecDepth 100000 in
theorem vW (N:Nat) (ih: ∀(z2:Option Bool) (g:ax) (f_:ab) (x_:(List Int)),(okU x_.length f_)→aN f_<N→aV En 68 [.agg [.int .i64 g.P,.int .i64 g.Q,.int .i64 g.G],.agg [.int .i64 f_.Kind,.sl none 1 false (f_.Relation.Y.map (V.int .i64)),.sl none 1 false (f_.Relation.Bases.map (fun (l:List Int)=>V.sl none 1 false (l.map (V.int .i64)))),.sl none 4 true (f_.L.map ay)],.sl z2 1 false (x_.map (V.int .i64))] (.bool (cj g f_ x_)) []) (p_:ab) (c0:ax) (c1:(List Int)) (hp0:aN p_<N) (hp1:okU c1.length p_):aV En 131 [.agg [.int .i64 p_.Kind,.sl none 1 false (p_.Relation.Y.map (V.int .i64)),.sl none 1 false (p_.Relation.Bases.map (fun (l:List Int)=>V.sl none 1 false (l.map (V.int .i64)))),.sl none 4 true (p_.L.map ay)],.pp 3 true (.agg [.int .i64 c0.P,.int .i64 c0.Q,.int .i64 c0.G]),.pp 1 false (.sl none 1 false (c1.map (V.int .i64)))] (.bool (lg p_ c0 c1)) []:=by
 generalize hM:lg p_ c0 c1=r
 rw [lg.eq_1] at hM
 refine aI az aC noJ Tryz.func131 rfl Tryz.ntmps131 (by kernel_rfl) fun hw=>aB ?_
 refine spQ ?_
 replace hw:=nzQ hw
 have hM0:=hM;clear hM;obtain ⟨x1,hx2,hM⟩:=aA hM0;clear hM0
 have hcx1:=ih none c0 p_ c1 (by (exact hp1)) (by omega)
 rw [←hx2] at hcx1
 refine aT hcx1 clQ clQ (fun hw3=> ?_)
 replace hw3:=nzQ hw3
 refine spQ ?_
 subst hM
 exact aU lfQ
set_option maxHeartbeats 2000000 in
set_option maxRecDepth 100000 in
theorem Ef (N:Nat) (ih: ∀(z2:Option Bool) (g:ax) (f_:ab) (x_:(List Int)),(okU x_.length f_)→aN f_<N→aV En 68 [.agg [.int .i64 g.P,.int .i64 g.Q,.int .i64 g.G],.agg [.int .i64 f_.Kind,.sl none 1 false (f_.Relation.Y.map (V.int .i64)),.sl none 1 false (f_.Relation.Bases.map (fun (l:List Int)=>V.sl none 1 false (l.map (V.int .i64)))),.sl none 4 true (f_.L.map ay)],.sl z2 1 false (x_.map (V.int .i64))] (.bool (cj g f_ x_)) []) (p_:ab) (c0_c0:ax) (c0_c1:(List Int)) (hp0:aN p_<N) (hp1:okU c0_c1.length p_):aV En 133 [.agg [.int .i64 p_.Kind,.sl none 1 false (p_.Relation.Y.map (V.int .i64)),.sl none 1 false (p_.Relation.Bases.map (fun (l:List Int)=>V.sl none 1 false (l.map (V.int .i64)))),.sl none 4 true (p_.L.map ay)],.pp 1 false (.fn 131 [.pp 3 true (.agg [.int .i64 c0_c0.P,.int .i64 c0_c0.Q,.int .i64 c0_c0.G]),.pp 1 false (.sl none 1 false (c0_c1.map (V.int .i64)))])] (.bool (nF p_ c0_c0 c0_c1)) []:=by
 generalize hM:nF p_ c0_c0 c0_c1=r
 rw [nF.eq_1] at hM
 refine aI az aC noJ Tryz.func133 rfl Tryz.ntmps133 (by kernel_rfl) fun hw=>aB ?_
 refine spQ ?_
 replace hw:=nzQ hw
 have hM0:=hM;clear hM;obtain ⟨x1,hx2,hM⟩:=aA hM0;clear hM0
 have hcx1:=vW N ih p_ c0_c0 c0_c1 (by (exact pfQ)) (by (exact pfQ))
 rw [←hx2] at hcx1
 refine aT hcx1 clQ clQ (fun hw3=> ?_)
 replace hw3:=nzQ hw3
 refine spQ ?_
 subst hM
 exact aU lfQ
set_option maxHeartbeats 2000000 in
set_option maxRecDepth 100000 in
theorem Eg (N:Nat) (ih: ∀(z2:Option Bool) (g:ax) (f_:ab) (x_:(List Int)),(okU x_.length f_)→aN f_<N→aV En 68 [.agg [.int .i64 g.P,.int .i64 g.Q,.int .i64 g.G],.agg [.int .i64 f_.Kind,.sl none 1 false (f_.Relation.Y.map (V.int .i64)),.sl none 1 false (f_.Relation.Bases.map (fun (l:List Int)=>V.sl none 1 false (l.map (V.int .i64)))),.sl none 4 true (f_.L.map ay)],.sl z2 1 false (x_.map (V.int .i64))] (.bool (cj g f_ x_)) []) (z0:Option Bool) (s:(List ab)) (f__c0_c0:ax) (f__c0_c1:(List Int)) (hp0: ∀x∈s,aN x<N) (hp1: ∀x∈s,okU f__c0_c1.length x):aV En 135 [.sl z0 4 true (s.map ay),.fn 133 [.pp 1 false (.fn 131 [.pp 3 true (.agg [.int .i64 f__c0_c0.P,.int .i64 f__c0_c0.Q,.int .i64 f__c0_c0.G]),.pp 1 false (.sl none 1 false (f__c0_c1.map (V.int .i64)))])]] (.int .i64 (nG s f__c0_c0 f__c0_c1)) []:=by
 generalize hM:nG s f__c0_c0 f__c0_c1=r
 rw [nG.eq_1] at hM
 refine aI az aC noJ Tryz.func135 rfl Tryz.ntmps135 (by kernel_rfl) fun hw=>aB ?_
 refine spQ ?_
 replace hw:=nzQ hw
 have hM0:=hM;clear hM;obtain ⟨f1,d1,hf1,hd1,hM⟩:=bv hM0;clear hM0
 refine bL (fun n S=> ∃p:Int,S=(⟨[(0,.sl z0 4 true (s.map ay)),(1,.fn 133 [.pp 1 false (.fn 131 [.pp 3 true (.agg [.int .i64 f__c0_c0.P,.int .i64 f__c0_c0.Q,.int .i64 f__c0_c0.G]),.pp 1 false (.sl none 1 false (f__c0_c1.map (V.int .i64)))])]),(7,.int .i64 (s.length:Int)),(8,.int .i64 p)],[],0⟩:St)∧((0≤p)∧(p≤(s.length:Int)))∧((s.length:Int) - p).toNat<n∧ap n f1 d1 p=r) (((s.length:Int) - 0).toNat+1) _ sbQ sbQ ⟨0,rfl,⟨omQ,omQ⟩,(Nat.lt_succ_self _),hM⟩ ?_
 clear hM
 rintro n1 S ⟨p1,rfl,hfa1,hm1,hM⟩
 have hM0:=hM;clear hM;obtain ⟨ag1,hag1,hM⟩:=bw hM0 (by omega) hf1;clear hM0
 replace hfa1:=nzQ hfa1
 replace hm1:=nzQ hm1
 have ha1:aE .i64 p1 1=p1+1:=bQ omQ omQ
 refine aa ha1 ?_
 refine aG (fun h2=> ?_) (fun h2=> ?_)
 ·rw [if_pos h2] at hM
  refine aa (And.intro ha1 h2) ?_
  have nh2:=nzQ h2
  try have hr3:=mpQ nh2
  refine bc omQ ?_
  have he4:=fun d=>da (l:=s) (f:=ay) (i:=p1) omQ d
  refine aa (And.intro ha1 he4) ?_
  have hM0:=hM;clear hM;obtain ⟨x5,hx6,hM⟩:=aA hM0;clear hM0
  have hcx5:=Ef N ih (gt s p1) f__c0_c0 f__c0_c1 (by (first|exact hp0 _ (bF (by omega))|exact hp1 _ (bF (by omega)))) (by (first|exact hp0 _ (bF (by omega))|exact hp1 _ (bF (by omega))))
  rw [←hx6] at hcx5
  refine aT hcx5 (bk (And.intro ha1 he4)) (bk (And.intro ha1 he4)) (fun hw7=> ?_)
  replace hw7:=nzQ hw7
  refine aa (And.intro ha1 he4) ?_
  have hF:=(And.intro ha1 (And.intro h2 he4))
  exact auQ
 ·rw [if_neg (av h2)] at hM
  refine aa (And.intro ha1 h2) ?_
  have nh2:=nzQ h2
  try have hr9:=mpQ nh2
  subst hM
  exact aU (bf (And.intro ha1 h2))
set_option maxHeartbeats 2000000 in
set_option maxRecDepth 100000 in
theorem Eh (N:Nat) (ih: ∀(z2:Option Bool) (g:ax) (f_:ab) (x_:(List Int)),(okU x_.length f_)→aN f_<N→aV En 68 [.agg [.int .i64 g.P,.int .i64 g.Q,.int .i64 g.G],.agg [.int .i64 f_.Kind,.sl none 1 false (f_.Relation.Y.map (V.int .i64)),.sl none 1 false (f_.Relation.Bases.map (fun (l:List Int)=>V.sl none 1 false (l.map (V.int .i64)))),.sl none 4 true (f_.L.map ay)],.sl z2 1 false (x_.map (V.int .i64))] (.bool (cj g f_ x_)) []) (z0:Option Bool) (s:(List ab)) (f__c0_c0:ax) (f__c0_c1:(List Int)) (hp0: ∀x∈s,aN x<N) (hp1: ∀x∈s,okU f__c0_c1.length x):aV En 71 [.sl z0 4 true (s.map ay),.fn 133 [.pp 1 false (.fn 131 [.pp 3 true (.agg [.int .i64 f__c0_c0.P,.int .i64 f__c0_c0.Q,.int .i64 f__c0_c0.G]),.pp 1 false (.sl none 1 false (f__c0_c1.map (V.int .i64)))])]] (.bool (lh s f__c0_c0 f__c0_c1)) []:=by
 generalize hM:lh s f__c0_c0 f__c0_c1=r
 rw [lh.eq_1] at hM
 refine aI az aC noJ Tryz.func71 rfl Tryz.ntmps71 (by kernel_rfl) fun hw=>aB ?_
 refine spQ ?_
 replace hw:=nzQ hw
 have hM0:=hM;clear hM;obtain ⟨x1,hx2,hM⟩:=aA hM0;clear hM0
 have hcx1:=Eg N ih z0 s f__c0_c0 f__c0_c1 (by (first|exact hp0|exact hp1)) (by (first|exact hp0|exact hp1))
 rw [←hx2] at hcx1
 refine aT hcx1 clQ clQ (fun hw3=> ?_)
 replace hw3:=nzQ hw3
 refine spQ ?_
 subst hM
 exact aU lfQ
set_option maxHeartbeats 2000000 in
set_option maxRecDepth 100000 in
theorem Ei (N:Nat) (ih: ∀(z2:Option Bool) (g:ax) (f_:ab) (x_:(List Int)),(okU x_.length f_)→aN f_<N→aV En 68 [.agg [.int .i64 g.P,.int .i64 g.Q,.int .i64 g.G],.agg [.int .i64 f_.Kind,.sl none 1 false (f_.Relation.Y.map (V.int .i64)),.sl none 1 false (f_.Relation.Bases.map (fun (l:List Int)=>V.sl none 1 false (l.map (V.int .i64)))),.sl none 4 true (f_.L.map ay)],.sl z2 1 false (x_.map (V.int .i64))] (.bool (cj g f_ x_)) []) (z0:Option Bool) (s:(List ab)) (f__c0:ax) (f__c1:(List Int)) (hp0: ∀x∈s,aN x<N) (hp1: ∀x∈s,okU f__c1.length x):aV En 135 [.sl z0 4 true (s.map ay),.fn 131 [.pp 3 true (.agg [.int .i64 f__c0.P,.int .i64 f__c0.Q,.int .i64 f__c0.G]),.pp 1 false (.sl none 1 false (f__c1.map (V.int .i64)))]] (.int .i64 (nH s f__c0 f__c1)) []:=by
 generalize hM:nH s f__c0 f__c1=r
 rw [nH.eq_1] at hM
 refine aI az aC noJ Tryz.func135 rfl Tryz.ntmps135 (by kernel_rfl) fun hw=>aB ?_
 refine spQ ?_
 replace hw:=nzQ hw
 have hM0:=hM;clear hM;obtain ⟨f1,d1,hf1,hd1,hM⟩:=bv hM0;clear hM0
 refine bL (fun n S=> ∃p:Int,S=(⟨[(0,.sl z0 4 true (s.map ay)),(1,.fn 131 [.pp 3 true (.agg [.int .i64 f__c0.P,.int .i64 f__c0.Q,.int .i64 f__c0.G]),.pp 1 false (.sl none 1 false (f__c1.map (V.int .i64)))]),(7,.int .i64 (s.length:Int)),(8,.int .i64 p)],[],0⟩:St)∧((0≤p)∧(p≤(s.length:Int)))∧((s.length:Int) - p).toNat<n∧ap n f1 d1 p=r) (((s.length:Int) - 0).toNat+1) _ sbQ sbQ ⟨0,rfl,⟨omQ,omQ⟩,(Nat.lt_succ_self _),hM⟩ ?_
 clear hM
 rintro n1 S ⟨p1,rfl,hfa1,hm1,hM⟩
 have hM0:=hM;clear hM;obtain ⟨ag1,hag1,hM⟩:=bw hM0 (by omega) hf1;clear hM0
 replace hfa1:=nzQ hfa1
 replace hm1:=nzQ hm1
 have ha1:aE .i64 p1 1=p1+1:=bQ omQ omQ
 refine aa ha1 ?_
 refine aG (fun h2=> ?_) (fun h2=> ?_)
 ·rw [if_pos h2] at hM
  refine aa (And.intro ha1 h2) ?_
  have nh2:=nzQ h2
  try have hr3:=mpQ nh2
  refine bc omQ ?_
  have he4:=fun d=>da (l:=s) (f:=ay) (i:=p1) omQ d
  refine aa (And.intro ha1 he4) ?_
  have hM0:=hM;clear hM;obtain ⟨x5,hx6,hM⟩:=aA hM0;clear hM0
  have hcx5:=vW N ih (gt s p1) f__c0 f__c1 (by (first|exact hp0 _ (bF (by omega))|exact hp1 _ (bF (by omega)))) (by (first|exact hp0 _ (bF (by omega))|exact hp1 _ (bF (by omega))))
  rw [←hx6] at hcx5
  refine aT hcx5 (bk (And.intro ha1 he4)) (bk (And.intro ha1 he4)) (fun hw7=> ?_)
  replace hw7:=nzQ hw7
  refine aa (And.intro ha1 he4) ?_
  have hF:=(And.intro ha1 (And.intro h2 he4))
  exact auQ
 ·rw [if_neg (av h2)] at hM
  refine aa (And.intro ha1 h2) ?_
  have nh2:=nzQ h2
  try have hr9:=mpQ nh2
  subst hM
  exact aU (bf (And.intro ha1 h2))
set_option maxHeartbeats 2000000 in
set_option maxRecDepth 100000 in
theorem Ej (N:Nat) (ih: ∀(z2:Option Bool) (g:ax) (f_:ab) (x_:(List Int)),(okU x_.length f_)→aN f_<N→aV En 68 [.agg [.int .i64 g.P,.int .i64 g.Q,.int .i64 g.G],.agg [.int .i64 f_.Kind,.sl none 1 false (f_.Relation.Y.map (V.int .i64)),.sl none 1 false (f_.Relation.Bases.map (fun (l:List Int)=>V.sl none 1 false (l.map (V.int .i64)))),.sl none 4 true (f_.L.map ay)],.sl z2 1 false (x_.map (V.int .i64))] (.bool (cj g f_ x_)) []) (z0:Option Bool) (s:(List ab)) (f__c0:ax) (f__c1:(List Int)) (hp0: ∀x∈s,aN x<N) (hp1: ∀x∈s,okU f__c1.length x):aV En 71 [.sl z0 4 true (s.map ay),.fn 131 [.pp 3 true (.agg [.int .i64 f__c0.P,.int .i64 f__c0.Q,.int .i64 f__c0.G]),.pp 1 false (.sl none 1 false (f__c1.map (V.int .i64)))]] (.bool (li s f__c0 f__c1)) []:=by
 generalize hM:li s f__c0 f__c1=r
 rw [li.eq_1] at hM
 refine aI az aC noJ Tryz.func71 rfl Tryz.ntmps71 (by kernel_rfl) fun hw=>aB ?_
 refine spQ ?_
 replace hw:=nzQ hw
 have hM0:=hM;clear hM;obtain ⟨x1,hx2,hM⟩:=aA hM0;clear hM0
 have hcx1:=Ei N ih z0 s f__c0 f__c1 (by (first|exact hp0|exact hp1)) (by (first|exact hp0|exact hp1))
 rw [←hx2] at hcx1
 refine aT hcx1 clQ clQ (fun hw3=> ?_)
 replace hw3:=nzQ hw3
 refine spQ ?_
 subst hM
 exact aU lfQ
set_option maxHeartbeats 2000000 in
set_option maxRecDepth 100000 in
theorem Ek (N:Nat) (ih: ∀(z2:Option Bool) (g:ax) (f_:ab) (x_:(List Int)),(okU x_.length f_)→aN f_<N→aV En 68 [.agg [.int .i64 g.P,.int .i64 g.Q,.int .i64 g.G],.agg [.int .i64 f_.Kind,.sl none 1 false (f_.Relation.Y.map (V.int .i64)),.sl none 1 false (f_.Relation.Bases.map (fun (l:List Int)=>V.sl none 1 false (l.map (V.int .i64)))),.sl none 4 true (f_.L.map ay)],.sl z2 1 false (x_.map (V.int .i64))] (.bool (cj g f_ x_)) []) (z2:Option Bool) (g:ax) (f_:ab) (x_:(List Int)) (hp0:okU x_.length f_) (hp_:aN f_<N+1):aV En 68 [.agg [.int .i64 g.P,.int .i64 g.Q,.int .i64 g.G],.agg [.int .i64 f_.Kind,.sl none 1 false (f_.Relation.Y.map (V.int .i64)),.sl none 1 false (f_.Relation.Bases.map (fun (l:List Int)=>V.sl none 1 false (l.map (V.int .i64)))),.sl none 4 true (f_.L.map ay)],.sl z2 1 false (x_.map (V.int .i64))] (.bool (lj g f_ x_)) []:=by
 generalize hM:lj g f_ x_=r
 rw [lj.eq_1] at hM
 refine aI az aC [1,6] Tryz.func68 rfl Tryz.ntmps68 (by kernel_rfl) fun hw=>aB ?_
 refine spQ ?_
 replace hw:=nzQ hw
 refine kO ?_
 try refine spQ ?_
 refine jp _ (⟨[(3,.pp 3 true (.agg [.int .i64 g.P,.int .i64 g.Q,.int .i64 g.G])),(4,.ptr 1 0),(5,.pp 1 false (.sl z2 1 false (x_.map (V.int .i64))))],[(0,.pvar 3 true (.agg [.int .i64 g.P,.int .i64 g.Q,.int .i64 g.G])),(1,.var 4 true (.agg [.int .i64 f_.Kind,.sl none 1 false (f_.Relation.Y.map (V.int .i64)),.sl none 1 false (f_.Relation.Bases.map (fun (l:List Int)=>V.sl none 1 false (l.map (V.int .i64)))),.sl none 4 true (f_.L.map ay)])),(2,.pvar 1 false (.sl z2 1 false (x_.map (V.int .i64))))],3⟩:St) (((kJ (S:=⟨_,_,_⟩) 0 (n:=3) (g:=true) (d:= .agg [.int .i64 g.P,.int .i64 g.Q,.int .i64 g.G]) clQ clQ).trans (lw (S:=⟨_,_,_⟩) 3 0 (n:=3) (g:=true) (d:= .agg [.int .i64 g.P,.int .i64 g.Q,.int .i64 g.G]) clQ clQ)).trans ((kJ (S:=⟨_,_,_⟩) 2 (n:=1) (g:=false) (d:= .sl z2 1 false (x_.map (V.int .i64))) clQ clQ).trans (lw (S:=⟨_,_,_⟩) 5 2 (n:=1) (g:=false) (d:= .sl z2 1 false (x_.map (V.int .i64))) clQ clQ))) sbQ sbQ ?_
 try refine spQ ?_
 refine aG (fun h1=> ?_) (fun h1=> ?_)
 ·rw [if_pos h1] at hM
  refine aa h1 ?_
  have nh1:=nzQ h1
  try have hr2:=mpQ nh1
  refine jk 32 7 [13,14,15,16,17,18,19] [] ([[],[],[1],[],[],[4],[3,4,5]]++[List.range 7,List.range 8]) [] (by kernel_rfl) (by exact alQ) ?_
  refine spQ ?_
  have hM0:=hM;clear hM;obtain ⟨x3,hx4,hM⟩:=aA hM0;clear hM0
  have hcx3:=rM f_ (by (exact vz hp0))
  rw [←hx4] at hcx3
  refine ij hcx3 clQ clQ ?_
  refine spQ ?_
  have hA0:=fun a0=>DI hp0 a0
  have hF:=h1
  exact auQ
 ·rw [if_neg (av h1)] at hM
  refine aa h1 ?_
  have nh1:=nzQ h1
  try have hr8:=mpQ nh1
  refine kO ?_
  try refine spQ ?_
  refine jp _ (⟨[(4,.ptr 1 0),(7,.pp 1 false (.fn 131 [.pp 3 true (.agg [.int .i64 g.P,.int .i64 g.Q,.int .i64 g.G]),.pp 1 false (.sl z2 1 false (x_.map (V.int .i64)))])),(21,.bool (f_.Kind==2))],[(1,.var 4 true (.agg [.int .i64 f_.Kind,.sl none 1 false (f_.Relation.Y.map (V.int .i64)),.sl none 1 false (f_.Relation.Bases.map (fun (l:List Int)=>V.sl none 1 false (l.map (V.int .i64)))),.sl none 4 true (f_.L.map ay)])),(3,.pvar 1 false (.fn 131 [.pp 3 true (.agg [.int .i64 g.P,.int .i64 g.Q,.int .i64 g.G]),.pp 1 false (.sl z2 1 false (x_.map (V.int .i64)))]))],4⟩:St) ((kJ (S:=⟨_,_,_⟩) 3 (n:=1) (g:=false) (d:= .fn 131 [.pp 3 true (.agg [.int .i64 g.P,.int .i64 g.Q,.int .i64 g.G]),.pp 1 false (.sl z2 1 false (x_.map (V.int .i64)))]) clQ clQ).trans (lw (S:=⟨_,_,_⟩) 7 3 (n:=1) (g:=false) (d:= .fn 131 [.pp 3 true (.agg [.int .i64 g.P,.int .i64 g.Q,.int .i64 g.G]),.pp 1 false (.sl z2 1 false (x_.map (V.int .i64)))]) clQ clQ)) sbQ sbQ ?_
  try refine spQ ?_
  refine aG (fun h9=> ?_) (fun h9=> ?_)
  ·rw [if_pos h9] at hM
   refine aa h9 ?_
   have nh9:=nzQ h9
   try have hr10:=mpQ nh9
   have hM0:=hM;clear hM;obtain ⟨x11,hx12,hM⟩:=aA hM0;clear hM0
   have hcx11:=Eh N ih none (f_.L) g x_ (by (first|exact fun x hx=>Nat.lt_of_lt_of_le (dX hx) (Nat.lt_succ_iff.1 hp_)|exact fun x hx=>nQ hp0 (by assumption) hx)) (by (first|exact fun x hx=>Nat.lt_of_lt_of_le (dX hx) (Nat.lt_succ_iff.1 hp_)|exact fun x hx=>nQ hp0 (by assumption) hx))
   rw [←hx12] at hcx11
   refine aT hcx11 clQ clQ (fun hw13=> ?_)
   replace hw13:=nzQ hw13
   refine spQ ?_
   subst hM
   exact aU (bf (And.intro h1 h9))
  ·rw [if_neg (av h9)] at hM
   refine aa h9 ?_
   have nh9:=nzQ h9
   try have hr14:=mpQ nh9
   have hM0:=hM;clear hM;obtain ⟨x15,hx16,hM⟩:=aA hM0;clear hM0
   have hcx15:=Ej N ih none (f_.L) g x_ (by (first|exact fun x hx=>Nat.lt_of_lt_of_le (dX hx) (Nat.lt_succ_iff.1 hp_)|exact fun x hx=>nQ hp0 (by assumption) hx)) (by (first|exact fun x hx=>Nat.lt_of_lt_of_le (dX hx) (Nat.lt_succ_iff.1 hp_)|exact fun x hx=>nQ hp0 (by assumption) hx))
   rw [←hx16] at hcx15
   refine aT hcx15 clQ clQ (fun hw17=> ?_)
   replace hw17:=nzQ hw17
   refine spQ ?_
   subst hM
   exact aU (bf (And.intro h1 h9))
theorem Em: ∀(N:Nat) (z2:Option Bool) (g:ax) (f_:ab) (x_:(List Int)),(okU x_.length f_)→aN f_<N→aV En 68 [.agg [.int .i64 g.P,.int .i64 g.Q,.int .i64 g.G],.agg [.int .i64 f_.Kind,.sl none 1 false (f_.Relation.Y.map (V.int .i64)),.sl none 1 false (f_.Relation.Bases.map (fun (l:List Int)=>V.sl none 1 false (l.map (V.int .i64)))),.sl none 4 true (f_.L.map ay)],.sl z2 1 false (x_.map (V.int .i64))] (.bool (cj g f_ x_)) []:=by
 intro N
 induction N with
 | zero=>intro z2 g f_ x_ h0 h;exact absurd h (Nat.not_lt_zero _)
 | succ N ih=>
  intro z2 g f_ x_ h0 h
  have h9:=Ek N ih z2 g f_ x_ h0 h
  rw [DL] at h9
  exact h9
theorem Eo (z2:Option Bool) (g:ax) (f_:ab) (x_:(List Int)) (hp0:okU x_.length f_):aV En 68 [.agg [.int .i64 g.P,.int .i64 g.Q,.int .i64 g.G],.agg [.int .i64 f_.Kind,.sl none 1 false (f_.Relation.Y.map (V.int .i64)),.sl none 1 false (f_.Relation.Bases.map (fun (l:List Int)=>V.sl none 1 false (l.map (V.int .i64)))),.sl none 4 true (f_.L.map ay)],.sl z2 1 false (x_.map (V.int .i64))] (.bool (cj g f_ x_)) []:=
 Em (aN f_+1) z2 g f_ x_ hp0 (Nat.lt_succ_self _)
set_option maxHeartbeats 2000000 in
set_option maxRecDepth 100000 in
instance He (g:ax) (f_:ab) (x_:(List Int)):CM En (nI g f_ x_) 23 [.agg [.int .i64 g.P,.int .i64 g.Q,.int .i64 g.G],.agg [.int .i64 f_.Kind,.sl none 1 false (f_.Relation.Y.map (V.int .i64)),.sl none 1 false (f_.Relation.Bases.map (fun (l:List Int)=>V.sl none 1 false (l.map (V.int .i64)))),.sl none 4 true (f_.L.map ay)],.sl none 1 false (x_.map (V.int .i64))] (fun y=> .bool y) (fun _=> []):=by
 refine cmQ fun r hM=> ?_
 rw [nI.eq_1] at hM
 refine aI az aC noJ Tryz.func23 rfl Tryz.ntmps23 (by kernel_rfl) fun hw=>aB ?_
 refine spQ ?_
 replace hw:=nzQ hw
 have hM0:=hM;clear hM;obtain ⟨x1,hx2,hM⟩:=aA hM0;clear hM0
 have hcx1:=cmU hx2
 refine aT hcx1 clQ clQ (fun hw3=> ?_)
 replace hw3:=nzQ hw3
 refine spQ ?_
 have hq4:=nzQ (cfU hx2)
 refine fi (fun h5=> ?_) (fun h5=> ?_)
 ·subst h5
  rw [if_pos rfl] at hM
  refine spQ ?_
  try have hr6:=mpQ (a:=true=true) rfl
  have hM0:=hM;clear hM;obtain ⟨x7,hx8,hM⟩:=aA hM0;clear hM0
  have hcx7:=rM f_ (by (exact ‹okF _›))
  rw [←hx8] at hcx7
  refine aT hcx7 clQ clQ (fun hw9=> ?_)
  replace hw9:=nzQ hw9
  refine spQ ?_
  refine fi (fun h10=> ?_) (fun h10=> ?_)
  ·rw [if_pos h10] at hM
   refine aa h10 ?_
   have nh10:=nzQ h10
   try have hr11:=mpQ nh10
   have hM0:=hM;clear hM;obtain ⟨x12,hx13,hM⟩:=aA hM0;clear hM0
   have hcx12:=cmU hx13
   refine aT hcx12 clQ clQ (fun hw14=> ?_)
   replace hw14:=nzQ hw14
   refine spQ ?_
   refine fi (fun h15=> ?_) (fun h15=> ?_)
   ·subst h15
    rw [if_pos rfl] at hM
    refine spQ ?_
    have hM0:=hM;clear hM;obtain ⟨x16,hx17,hM⟩:=aA hM0;clear hM0
    have hcx16:=Eo none g f_ x_ (by (exact vJ ‹okF _› (by omega)))
    rw [←hx17] at hcx16
    refine aT hcx16 clQ clQ (fun hw18=> ?_)
    replace hw18:=nzQ hw18
    refine spQ ?_
    subst hM
    exact aU (bf h10)
   ·subst h15
    rw [if_neg (by decide)] at hM
    refine spQ ?_
    subst hM
    exact aU (bf h10)
  ·rw [if_neg (av h10)] at hM
   refine aa h10 ?_
   have nh10:=nzQ h10
   try have hr19:=mpQ nh10
   subst hM
   exact aU (bf h10)
 ·subst h5
  rw [if_neg (by decide)] at hM
  refine spQ ?_
  subst hM
  exact aU lfQ
set_option maxHeartbeats 2000000 in
set_option maxRecDepth 100000 in
instance Hf:CM En (nJ) 5 [] (fun y=> .bool y) (fun _=> []):=by
 refine cmQ fun r hM=> ?_
 rw [nJ.eq_1] at hM
 refine aI az aC noJ Tryz.func5 rfl Tryz.ntmps5 (by kernel_rfl) fun hw=>aB ?_
 refine spQ ?_
 replace hw:=nzQ hw
 have hF:=bz
 exact auQ
set_option maxHeartbeats 2000000 in
set_option maxRecDepth 100000 in
instance Hg (l:(List Int)):CM En (nK l) 70 [.sl none 1 false (l.map (V.int .i64))] (fun y=> .bool y) (fun _=> []):=by
 refine cmQ fun r hM=> ?_
 rw [nK.eq_1] at hM
 refine aI az aC noJ Tryz.func70 rfl Tryz.ntmps70 (by kernel_rfl) fun hw=>aB ?_
 refine spQ ?_
 replace hw:=nzQ hw
 subst hM
 exact aU lfQ
set_option maxHeartbeats 2000000 in
set_option maxRecDepth 100000 in
theorem Ep (N:Nat) (ih: ∀(f_:ab) (left:Int),aN f_<N→bn En 24 [.agg [.int .i64 f_.Kind,.sl none 1 false (f_.Relation.Y.map (V.int .i64)),.sl none 1 false (f_.Relation.Bases.map (fun (l:List Int)=>V.sl none 1 false (l.map (V.int .i64)))),.sl none 4 true (f_.L.map ay)],.ptr 0 0] [.var 1 false (.int .i64 left)] (.bool (co f_ left).1) [.var 1 false (.int .i64 (co f_ left).2)] []) (x_:ab) (c0:Int) (hp0:aN x_<N):bn En 72 [.agg [.int .i64 x_.Kind,.sl none 1 false (x_.Relation.Y.map (V.int .i64)),.sl none 1 false (x_.Relation.Bases.map (fun (l:List Int)=>V.sl none 1 false (l.map (V.int .i64)))),.sl none 4 true (x_.L.map ay)],.ptr 0 0] [.var 1 false (.ptr 1 0),.var 1 false (.int .i64 c0)] (.bool (lk x_ c0).1) [.var 1 false (.ptr 1 0),.var 1 false (.int .i64 (lk x_ c0).2)] []:=by
 generalize hM:lk x_ c0=r
 rw [lk.eq_1] at hM
 refine dr az aC noJ Tryz.func72 rfl Tryz.ntmps72 (by kernel_rfl) rfl fun ks hw hwB=>aB ?_
 refine spQ ?_
 replace hw:=nzQ hw
 replace hwB:=nzB hwB
 have hM0:=hM;clear hM;obtain ⟨x1,hx2,hM⟩:=aA hM0;clear hM0
 have hcx1:=ih x_ c0 (by omega)
 rw [←hx2] at hcx1
 refine bJ [1] hcx1 (by decide) lsQ lsQ (fun hw3=> ?_)
 replace hw3:=nzQ hw3
 refine spQ ?_
 subst hM
 exact aW [0,1] lsQ (by decide) lsQ
set_option maxHeartbeats 2000000 in
set_option maxRecDepth 100000 in
instance Hh (s:(List (List Int))):CM En (rh s) 134 [.sl none 1 false (s.map (fun (l:List Int)=>V.sl none 1 false (l.map (V.int .i64)))),.fn 70 []] (fun y=> .int .i64 y) (fun _=> []):=by
 refine cmQ fun r hM=> ?_
 rw [rh.eq_1] at hM
 refine aI az aC noJ Tryz.func134 rfl Tryz.ntmps134 (by kernel_rfl) fun hw=>aB ?_
 refine spQ ?_
 replace hw:=nzQ hw
 have hM0:=hM;clear hM;obtain ⟨f1,d1,hf1,hd1,hM⟩:=bv hM0;clear hM0
 refine bL (fun n S=> ∃p:Int,S=(⟨[(0,.sl none 1 false (s.map (fun (l:List Int)=>V.sl none 1 false (l.map (V.int .i64))))),(1,.fn 70 []),(7,.int .i64 (s.length:Int)),(8,.int .i64 p)],[],0⟩:St)∧((0≤p)∧(p≤(s.length:Int)))∧((s.length:Int) - p).toNat<n∧ap n f1 d1 p=r) (((s.length:Int) - 0).toNat+1) _ sbQ sbQ ⟨0,rfl,⟨omQ,omQ⟩,(Nat.lt_succ_self _),hM⟩ ?_
 clear hM
 rintro n1 S ⟨p1,rfl,hfa1,hm1,hM⟩
 have hM0:=hM;clear hM;obtain ⟨ag1,hag1,hM⟩:=bw hM0 (by omega) hf1;clear hM0
 replace hfa1:=nzQ hfa1
 replace hm1:=nzQ hm1
 have ha1:aE .i64 p1 1=p1+1:=bQ omQ omQ
 refine aa ha1 ?_
 have hF:=ha1
 exact auQ
set_option maxHeartbeats 2000000 in
set_option maxRecDepth 100000 in
instance Hi (s:(List (List Int))):CM En (nL s) 69 [.sl none 1 false (s.map (fun (l:List Int)=>V.sl none 1 false (l.map (V.int .i64)))),.fn 70 []] (fun y=> .bool y) (fun _=> []):=by
 refine cmQ fun r hM=> ?_
 rw [nL.eq_1] at hM
 refine aI az aC noJ Tryz.func69 rfl Tryz.ntmps69 (by kernel_rfl) fun hw=>aB ?_
 refine spQ ?_
 replace hw:=nzQ hw
 have hF:=bz
 exact auQ
set_option maxHeartbeats 2000000 in
set_option maxRecDepth 100000 in
theorem Er (N:Nat) (ih: ∀(f_:ab) (left:Int),aN f_<N→bn En 24 [.agg [.int .i64 f_.Kind,.sl none 1 false (f_.Relation.Y.map (V.int .i64)),.sl none 1 false (f_.Relation.Bases.map (fun (l:List Int)=>V.sl none 1 false (l.map (V.int .i64)))),.sl none 4 true (f_.L.map ay)],.ptr 0 0] [.var 1 false (.int .i64 left)] (.bool (co f_ left).1) [.var 1 false (.int .i64 (co f_ left).2)] []) (z0:Option Bool) (s_:(List ab)) (f__c0:Int) (hp0: ∀x∈s_,aN x<N):bn En 135 [.sl z0 4 true (s_.map ay),.fn 72 [.ptr 0 0]] [.var 1 false (.ptr 1 0),.var 1 false (.int .i64 f__c0)] (.int .i64 (lm s_ f__c0).1) [.var 1 false (.ptr 1 0),.var 1 false (.int .i64 (lm s_ f__c0).2)] []:=by
 generalize hM:lm s_ f__c0=r
 rw [lm.eq_1] at hM
 refine dr az aC noJ Tryz.func135 rfl Tryz.ntmps135 (by kernel_rfl) rfl fun ks hw hwB=>aB ?_
 refine spQ ?_
 replace hw:=nzQ hw
 replace hwB:=nzB hwB
 have hM0:=hM;clear hM;obtain ⟨f1,d1,hf1,hd1,hM⟩:=bv hM0;clear hM0
 refine bL (fun n S=> ∃p:Int×Int,S=(⟨[(0,.sl z0 4 true (s_.map ay)),(1,.fn 72 [.ptr 0 0]),(7,.int .i64 (s_.length:Int)),(8,.int .i64 p.1)],[(0,.lent (ks 0) 1 false (.ptr 1 0)),(1,.lent (ks 1) 1 false (.int .i64 p.2))],2⟩:St)∧((0≤p.1)∧(p.1≤(s_.length:Int)))∧((s_.length:Int) - p.1).toNat<n∧ap n f1 d1 p=r) (((s_.length:Int) - 0).toNat+1) _ sbQ sbQ ⟨(0,f__c0),rfl,⟨omQ,omQ⟩,(Nat.lt_succ_self _),hM⟩ ?_
 clear hM
 rintro n1 S ⟨p1,rfl,hfa1,hm1,hM⟩
 have hM0:=hM;clear hM;obtain ⟨ag1,hag1,hM⟩:=bw hM0 (by omega) hf1;clear hM0
 replace hfa1:=nzQ hfa1
 replace hm1:=nzQ hm1
 have ha1:aE .i64 p1.1 1=p1.1+1:=bQ omQ omQ
 refine aa ha1 ?_
 refine aG (fun h2=> ?_) (fun h2=> ?_)
 ·rw [if_pos h2] at hM
  refine aa (And.intro ha1 h2) ?_
  have nh2:=nzQ h2
  try have hr3:=mpQ nh2
  refine bc omQ ?_
  have he4:=fun d=>da (l:=s_) (f:=ay) (i:=p1.1) omQ d
  refine aa (And.intro ha1 he4) ?_
  have hM0:=hM;clear hM;obtain ⟨x5,hx6,hM⟩:=aA hM0;clear hM0
  have hcx5:=Ep N ih (gt s_ p1.1) (p1.2) (by (exact hp0 _ (bF (by omega))))
  rw [←hx6] at hcx5
  refine bJ [0,1] hcx5 (by decide) (aw (And.intro ha1 he4)) (aw (And.intro ha1 he4)) (fun hw7=> ?_)
  replace hw7:=nzQ hw7
  refine aa (And.intro ha1 he4) ?_
  refine aG (fun h8=> ?_) (fun h8=> ?_)
  ·rw [if_pos h8] at hM
   refine aa (And.intro ha1 (And.intro he4 h8)) ?_
   have nh8:=nzQ h8
   try have hr9:=mpQ nh8
   subst hM
   exact aW [0,1] (aw (And.intro ha1 (And.intro he4 (And.intro h2 h8)))) (by decide) (aw (And.intro ha1 (And.intro he4 (And.intro h2 h8))))
  ·rw [if_neg (av h8)] at hM
   refine aa (And.intro ha1 (And.intro he4 h8)) ?_
   have nh8:=nzQ h8
   try have hr10:=mpQ nh8
   refine ce (n1 - 1) _ (by omega) sbQ sbQ ⟨((p1.1+1),x5.2),rfl,⟨omQ,omQ⟩,omQ,cg hM hag1⟩
 ·rw [if_neg (av h2)] at hM
  refine aa (And.intro ha1 h2) ?_
  have nh2:=nzQ h2
  try have hr11:=mpQ nh2
  subst hM
  exact aW [0,1] (aw (And.intro ha1 h2)) (by decide) (aw (And.intro ha1 h2))
set_option maxHeartbeats 2000000 in
set_option maxRecDepth 100000 in
theorem Es (N:Nat) (ih: ∀(f_:ab) (left:Int),aN f_<N→bn En 24 [.agg [.int .i64 f_.Kind,.sl none 1 false (f_.Relation.Y.map (V.int .i64)),.sl none 1 false (f_.Relation.Bases.map (fun (l:List Int)=>V.sl none 1 false (l.map (V.int .i64)))),.sl none 4 true (f_.L.map ay)],.ptr 0 0] [.var 1 false (.int .i64 left)] (.bool (co f_ left).1) [.var 1 false (.int .i64 (co f_ left).2)] []) (z0:Option Bool) (s_:(List ab)) (f__c0:Int) (hp0: ∀x∈s_,aN x<N):bn En 71 [.sl z0 4 true (s_.map ay),.fn 72 [.ptr 0 0]] [.var 1 false (.ptr 1 0),.var 1 false (.int .i64 f__c0)] (.bool (jB s_ f__c0).1) [.var 1 false (.ptr 1 0),.var 1 false (.int .i64 (jB s_ f__c0).2)] []:=by
 generalize hM:jB s_ f__c0=r
 rw [jB.eq_1] at hM
 refine dr az aC noJ Tryz.func71 rfl Tryz.ntmps71 (by kernel_rfl) rfl fun ks hw hwB=>aB ?_
 refine spQ ?_
 replace hw:=nzQ hw
 replace hwB:=nzB hwB
 have hM0:=hM;clear hM;obtain ⟨x1,hx2,hM⟩:=aA hM0;clear hM0
 have hcx1:=Er N ih z0 s_ f__c0 (by (exact hp0))
 rw [←hx2] at hcx1
 refine bJ [0,1] hcx1 (by decide) lsQ lsQ (fun hw3=> ?_)
 replace hw3:=nzQ hw3
 refine spQ ?_
 subst hM
 exact aW [0,1] lsQ (by decide) lsQ
set_option maxHeartbeats 2000000 in
set_option maxRecDepth 100000 in
theorem Et (N:Nat) (ih: ∀(f_:ab) (left:Int),aN f_<N→bn En 24 [.agg [.int .i64 f_.Kind,.sl none 1 false (f_.Relation.Y.map (V.int .i64)),.sl none 1 false (f_.Relation.Bases.map (fun (l:List Int)=>V.sl none 1 false (l.map (V.int .i64)))),.sl none 4 true (f_.L.map ay)],.ptr 0 0] [.var 1 false (.int .i64 left)] (.bool (co f_ left).1) [.var 1 false (.int .i64 (co f_ left).2)] []) (f_:ab) (left:Int) (hp_:aN f_<N+1):bn En 24 [.agg [.int .i64 f_.Kind,.sl none 1 false (f_.Relation.Y.map (V.int .i64)),.sl none 1 false (f_.Relation.Bases.map (fun (l:List Int)=>V.sl none 1 false (l.map (V.int .i64)))),.sl none 4 true (f_.L.map ay)],.ptr 0 0] [.var 1 false (.int .i64 left)] (.bool (jC f_ left).1) [.var 1 false (.int .i64 (jC f_ left).2)] []:=by
 generalize hM:jC f_ left=r
 rw [jC.eq_1] at hM
 refine dr az aC noJ Tryz.func24 rfl Tryz.ntmps24 (by kernel_rfl) rfl fun ks hw hwB=>aB ?_
 refine spQ ?_
 replace hw:=nzQ hw
 replace hwB:=nzB hwB
 refine bX (fun h1=> ?_) (fun h1=> ?_)
 ·rw [if_neg (av h1)] at hM
  refine aa h1 ?_
  have nh1:=nzQ h1
  try have hr2:=mpQ nh1
  refine bX (fun h3=> ?_) (fun h3=> ?_)
  ·rw [if_neg (av h3)] at hM
   refine aa h3 ?_
   have nh3:=nzQ h3
   try have hr4:=mpQ nh3
   refine bX (fun h5=> ?_) (fun h5=> ?_)
   ·rw [if_neg (av h5)] at hM
    refine aa h5 ?_
    have nh5:=nzQ h5
    try have hr6:=mpQ nh5
    have hM0:=hM;clear hM;obtain ⟨x7,hx8,hM⟩:=aA hM0;clear hM0
    have hcx7:=cmU hx8
    refine aT hcx7 clQ clQ (fun hw9=> ?_)
    replace hw9:=nzQ hw9
    refine spQ ?_
    refine aG (fun h10=> ?_) (fun h10=> ?_)
    ·subst h10
     rw [if_pos rfl] at hM
     refine spQ ?_
     subst hM
     exact aW [0] (aw (And.intro h1 (And.intro h3 h5))) (by decide) (aw (And.intro h1 (And.intro h3 h5)))
    ·subst h10
     rw [if_neg (by decide)] at hM
     refine spQ ?_
     have hM0:=hM;clear hM;obtain ⟨x11,hx12,hM⟩:=aA hM0;clear hM0
     have hcx11:=Es N ih none (f_.L) (an .i64 left 1) (by (exact fun x hx=>Nat.lt_of_lt_of_le (dX hx) (Nat.lt_succ_iff.1 hp_)))
     rw [←hx12] at hcx11
     refine bJ [2,0] hcx11 (by decide) lsQ lsQ (fun hw13=> ?_)
     replace hw13:=nzQ hw13
     refine spQ ?_
     subst hM
     exact aW [0] (aw (And.intro h1 (And.intro h3 h5))) (by decide) (aw (And.intro h1 (And.intro h3 h5)))
   ·rw [if_pos h5] at hM
    refine aa h5 ?_
    have nh5:=nzQ h5
    try have hr14:=mpQ nh5
    subst hM
    exact aW [0] (aw (And.intro h1 (And.intro h3 h5))) (by decide) (aw (And.intro h1 (And.intro h3 h5)))
  ·rw [if_pos h3] at hM
   refine aa h3 ?_
   have nh3:=nzQ h3
   try have hr15:=mpQ nh3
   subst hM
   exact aW [0] (aw (And.intro h1 h3)) (by decide) (aw (And.intro h1 h3))
 ·rw [if_pos h1] at hM
  refine aa h1 ?_
  have nh1:=nzQ h1
  try have hr16:=mpQ nh1
  subst hM
  exact aW [0] (aw h1) (by decide) (aw h1)
theorem Eu: ∀(N:Nat) (f_:ab) (left:Int),aN f_<N→bn En 24 [.agg [.int .i64 f_.Kind,.sl none 1 false (f_.Relation.Y.map (V.int .i64)),.sl none 1 false (f_.Relation.Bases.map (fun (l:List Int)=>V.sl none 1 false (l.map (V.int .i64)))),.sl none 4 true (f_.L.map ay)],.ptr 0 0] [.var 1 false (.int .i64 left)] (.bool (co f_ left).1) [.var 1 false (.int .i64 (co f_ left).2)] []:=by
 intro N
 induction N with
 | zero=>intro f_ left h;exact absurd h (Nat.not_lt_zero _)
 | succ N ih=>
  intro f_ left h
  have h9:=Et N ih f_ left h
  rw [Ds] at h9
  exact h9
theorem Ev (f_:ab) (left:Int):bn En 24 [.agg [.int .i64 f_.Kind,.sl none 1 false (f_.Relation.Y.map (V.int .i64)),.sl none 1 false (f_.Relation.Bases.map (fun (l:List Int)=>V.sl none 1 false (l.map (V.int .i64)))),.sl none 4 true (f_.L.map ay)],.ptr 0 0] [.var 1 false (.int .i64 left)] (.bool (co f_ left).1) [.var 1 false (.int .i64 (co f_ left).2)] []:=
 Eu (aN f_+1) f_ left (Nat.lt_succ_self _)
set_option maxHeartbeats 2000000 in
set_option maxRecDepth 100000 in
theorem Ew (N:Nat) (ih: ∀(t_:bp) (left:Int),dt t_<N→bn En 27 [.agg [.int .i64 t_.C,.sl none 1 false (t_.P.A.map (V.int .i64)),.int .i64 t_.P.C,.sl none 1 false (t_.P.Z.map (V.int .i64)),.sl none 5 true (t_.L.map cK)],.ptr 0 0] [.var 1 false (.int .i64 left)] (.bool (cq t_ left).1) [.var 1 false (.int .i64 (cq t_ left).2)] []) (x_:bp) (c0:Int) (hp0:dt x_<N):bn En 74 [.agg [.int .i64 x_.C,.sl none 1 false (x_.P.A.map (V.int .i64)),.int .i64 x_.P.C,.sl none 1 false (x_.P.Z.map (V.int .i64)),.sl none 5 true (x_.L.map cK)],.ptr 0 0] [.var 1 false (.ptr 1 0),.var 1 false (.int .i64 c0)] (.bool (ln x_ c0).1) [.var 1 false (.ptr 1 0),.var 1 false (.int .i64 (ln x_ c0).2)] []:=by
 generalize hM:ln x_ c0=r
 rw [ln.eq_1] at hM
 refine dr az aC noJ Tryz.func74 rfl Tryz.ntmps74 (by kernel_rfl) rfl fun ks hw hwB=>aB ?_
 refine spQ ?_
 replace hw:=nzQ hw
 replace hwB:=nzB hwB
 have hM0:=hM;clear hM;obtain ⟨x1,hx2,hM⟩:=aA hM0;clear hM0
 have hcx1:=ih x_ c0 (by omega)
 rw [←hx2] at hcx1
 refine bJ [1] hcx1 (by decide) lsQ lsQ (fun hw3=> ?_)
 replace hw3:=nzQ hw3
 refine spQ ?_
 subst hM
 exact aW [0,1] lsQ (by decide) lsQ
set_option maxHeartbeats 2000000 in
set_option maxRecDepth 100000 in
theorem Ex (N:Nat) (ih: ∀(t_:bp) (left:Int),dt t_<N→bn En 27 [.agg [.int .i64 t_.C,.sl none 1 false (t_.P.A.map (V.int .i64)),.int .i64 t_.P.C,.sl none 1 false (t_.P.Z.map (V.int .i64)),.sl none 5 true (t_.L.map cK)],.ptr 0 0] [.var 1 false (.int .i64 left)] (.bool (cq t_ left).1) [.var 1 false (.int .i64 (cq t_ left).2)] []) (z0:Option Bool) (s_:(List bp)) (f__c0:Int) (hp0: ∀x∈s_,dt x<N):bn En 73 [.sl z0 5 true (s_.map cK),.fn 74 [.ptr 0 0]] [.var 1 false (.ptr 1 0),.var 1 false (.int .i64 f__c0)] (.int .i64 (lq s_ f__c0).1) [.var 1 false (.ptr 1 0),.var 1 false (.int .i64 (lq s_ f__c0).2)] []:=by
 generalize hM:lq s_ f__c0=r
 rw [lq.eq_1] at hM
 refine dr az aC noJ Tryz.func73 rfl Tryz.ntmps73 (by kernel_rfl) rfl fun ks hw hwB=>aB ?_
 refine spQ ?_
 replace hw:=nzQ hw
 replace hwB:=nzB hwB
 have hM0:=hM;clear hM;obtain ⟨f1,d1,hf1,hd1,hM⟩:=bv hM0;clear hM0
 refine bL (fun n S=> ∃p:Int×Int,S=(⟨[(0,.sl z0 5 true (s_.map cK)),(1,.fn 74 [.ptr 0 0]),(7,.int .i64 (s_.length:Int)),(8,.int .i64 p.1)],[(0,.lent (ks 0) 1 false (.ptr 1 0)),(1,.lent (ks 1) 1 false (.int .i64 p.2))],2⟩:St)∧((0≤p.1)∧(p.1≤(s_.length:Int)))∧((s_.length:Int) - p.1).toNat<n∧ap n f1 d1 p=r) (((s_.length:Int) - 0).toNat+1) _ sbQ sbQ ⟨(0,f__c0),rfl,⟨omQ,omQ⟩,(Nat.lt_succ_self _),hM⟩ ?_
 clear hM
 rintro n1 S ⟨p1,rfl,hfa1,hm1,hM⟩
 have hM0:=hM;clear hM;obtain ⟨ag1,hag1,hM⟩:=bw hM0 (by omega) hf1;clear hM0
 replace hfa1:=nzQ hfa1
 replace hm1:=nzQ hm1
 have ha1:aE .i64 p1.1 1=p1.1+1:=bQ omQ omQ
 refine aa ha1 ?_
 refine aG (fun h2=> ?_) (fun h2=> ?_)
 ·rw [if_pos h2] at hM
  refine aa (And.intro ha1 h2) ?_
  have nh2:=nzQ h2
  try have hr3:=mpQ nh2
  refine bc omQ ?_
  have he4:=fun d=>da (l:=s_) (f:=cK) (i:=p1.1) omQ d
  refine aa (And.intro ha1 he4) ?_
  have hM0:=hM;clear hM;obtain ⟨x5,hx6,hM⟩:=aA hM0;clear hM0
  have hcx5:=Ew N ih (gt s_ p1.1) (p1.2) (by (exact hp0 _ (bF (by omega))))
  rw [←hx6] at hcx5
  refine bJ [0,1] hcx5 (by decide) (aw (And.intro ha1 he4)) (aw (And.intro ha1 he4)) (fun hw7=> ?_)
  replace hw7:=nzQ hw7
  refine aa (And.intro ha1 he4) ?_
  refine aG (fun h8=> ?_) (fun h8=> ?_)
  ·rw [if_pos h8] at hM
   refine aa (And.intro ha1 (And.intro he4 h8)) ?_
   have nh8:=nzQ h8
   try have hr9:=mpQ nh8
   subst hM
   exact aW [0,1] (aw (And.intro ha1 (And.intro he4 (And.intro h2 h8)))) (by decide) (aw (And.intro ha1 (And.intro he4 (And.intro h2 h8))))
  ·rw [if_neg (av h8)] at hM
   refine aa (And.intro ha1 (And.intro he4 h8)) ?_
   have nh8:=nzQ h8
   try have hr10:=mpQ nh8
   refine ce (n1 - 1) _ (by omega) sbQ sbQ ⟨((p1.1+1),x5.2),rfl,⟨omQ,omQ⟩,omQ,cg hM hag1⟩
 ·rw [if_neg (av h2)] at hM
  refine aa (And.intro ha1 h2) ?_
  have nh2:=nzQ h2
  try have hr11:=mpQ nh2
  subst hM
  exact aW [0,1] (aw (And.intro ha1 h2)) (by decide) (aw (And.intro ha1 h2))
set_option maxHeartbeats 2000000 in
set_option maxRecDepth 100000 in
theorem Ey (N:Nat) (ih: ∀(t_:bp) (left:Int),dt t_<N→bn En 27 [.agg [.int .i64 t_.C,.sl none 1 false (t_.P.A.map (V.int .i64)),.int .i64 t_.P.C,.sl none 1 false (t_.P.Z.map (V.int .i64)),.sl none 5 true (t_.L.map cK)],.ptr 0 0] [.var 1 false (.int .i64 left)] (.bool (cq t_ left).1) [.var 1 false (.int .i64 (cq t_ left).2)] []) (z0:Option Bool) (s_:(List bp)) (f__c0:Int) (hp0: ∀x∈s_,dt x<N):bn En 25 [.sl z0 5 true (s_.map cK),.fn 74 [.ptr 0 0]] [.var 1 false (.ptr 1 0),.var 1 false (.int .i64 f__c0)] (.bool (jD s_ f__c0).1) [.var 1 false (.ptr 1 0),.var 1 false (.int .i64 (jD s_ f__c0).2)] []:=by
 generalize hM:jD s_ f__c0=r
 rw [jD.eq_1] at hM
 refine dr az aC noJ Tryz.func25 rfl Tryz.ntmps25 (by kernel_rfl) rfl fun ks hw hwB=>aB ?_
 refine spQ ?_
 replace hw:=nzQ hw
 replace hwB:=nzB hwB
 have hM0:=hM;clear hM;obtain ⟨x1,hx2,hM⟩:=aA hM0;clear hM0
 have hcx1:=Ex N ih z0 s_ f__c0 (by (exact hp0))
 rw [←hx2] at hcx1
 refine bJ [0,1] hcx1 (by decide) lsQ lsQ (fun hw3=> ?_)
 replace hw3:=nzQ hw3
 refine spQ ?_
 subst hM
 exact aW [0,1] lsQ (by decide) lsQ
set_option maxHeartbeats 2000000 in
set_option maxRecDepth 100000 in
theorem Ez (N:Nat) (ih: ∀(t_:bp) (left:Int),dt t_<N→bn En 27 [.agg [.int .i64 t_.C,.sl none 1 false (t_.P.A.map (V.int .i64)),.int .i64 t_.P.C,.sl none 1 false (t_.P.Z.map (V.int .i64)),.sl none 5 true (t_.L.map cK)],.ptr 0 0] [.var 1 false (.int .i64 left)] (.bool (cq t_ left).1) [.var 1 false (.int .i64 (cq t_ left).2)] []) (t_:bp) (left:Int) (hp_:dt t_<N+1):bn En 27 [.agg [.int .i64 t_.C,.sl none 1 false (t_.P.A.map (V.int .i64)),.int .i64 t_.P.C,.sl none 1 false (t_.P.Z.map (V.int .i64)),.sl none 5 true (t_.L.map cK)],.ptr 0 0] [.var 1 false (.int .i64 left)] (.bool (jE t_ left).1) [.var 1 false (.int .i64 (jE t_ left).2)] []:=by
 generalize hM:jE t_ left=r
 rw [jE.eq_1] at hM
 refine dr az aC noJ Tryz.func27 rfl Tryz.ntmps27 (by kernel_rfl) rfl fun ks hw hwB=>aB ?_
 refine spQ ?_
 replace hw:=nzQ hw
 replace hwB:=nzB hwB
 refine bX (fun h1=> ?_) (fun h1=> ?_)
 ·rw [if_neg (av h1)] at hM
  refine aa h1 ?_
  have nh1:=nzQ h1
  try have hr2:=mpQ nh1
  refine bX (fun h3=> ?_) (fun h3=> ?_)
  ·rw [if_neg (av h3)] at hM
   refine aa h3 ?_
   have nh3:=nzQ h3
   try have hr4:=mpQ nh3
   refine aG (fun h5=> ?_) (fun h5=> ?_)
   ·rw [if_pos h5] at hM
    refine aa h5 ?_
    have nh5:=nzQ h5
    try have hr6:=mpQ nh5
    subst hM
    exact aW [0] (aw (And.intro h1 (And.intro h3 h5))) (by decide) (aw (And.intro h1 (And.intro h3 h5)))
   ·rw [if_neg (av h5)] at hM
    refine aa h5 ?_
    have nh5:=nzQ h5
    try have hr7:=mpQ nh5
    have hM0:=hM;clear hM;obtain ⟨x8,hx9,hM⟩:=aA hM0;clear hM0
    have hcx8:=Ey N ih none (t_.L) (an .i64 left 1) (by (exact fun x hx=>Nat.lt_of_lt_of_le (Dk hx) (Nat.lt_succ_iff.1 hp_)))
    rw [←hx9] at hcx8
    refine bJ [2,0] hcx8 (by decide) lsQ lsQ (fun hw10=> ?_)
    replace hw10:=nzQ hw10
    refine spQ ?_
    subst hM
    exact aW [0] (aw (And.intro h1 (And.intro h3 h5))) (by decide) (aw (And.intro h1 (And.intro h3 h5)))
  ·rw [if_pos h3] at hM
   refine aa h3 ?_
   have nh3:=nzQ h3
   try have hr11:=mpQ nh3
   subst hM
   exact aW [0] (aw (And.intro h1 h3)) (by decide) (aw (And.intro h1 h3))
 ·rw [if_pos h1] at hM
  refine aa h1 ?_
  have nh1:=nzQ h1
  try have hr12:=mpQ nh1
  subst hM
  exact aW [0] (aw h1) (by decide) (aw h1)
theorem EA: ∀(N:Nat) (t_:bp) (left:Int),dt t_<N→bn En 27 [.agg [.int .i64 t_.C,.sl none 1 false (t_.P.A.map (V.int .i64)),.int .i64 t_.P.C,.sl none 1 false (t_.P.Z.map (V.int .i64)),.sl none 5 true (t_.L.map cK)],.ptr 0 0] [.var 1 false (.int .i64 left)] (.bool (cq t_ left).1) [.var 1 false (.int .i64 (cq t_ left).2)] []:=by
 intro N
 induction N with
 | zero=>intro t_ left h;exact absurd h (Nat.not_lt_zero _)
 | succ N ih=>
  intro t_ left h
  have h9:=Ez N ih t_ left h
  rw [Dt] at h9
  exact h9
theorem EB (t_:bp) (left:Int):bn En 27 [.agg [.int .i64 t_.C,.sl none 1 false (t_.P.A.map (V.int .i64)),.int .i64 t_.P.C,.sl none 1 false (t_.P.Z.map (V.int .i64)),.sl none 5 true (t_.L.map cK)],.ptr 0 0] [.var 1 false (.int .i64 left)] (.bool (cq t_ left).1) [.var 1 false (.int .i64 (cq t_ left).2)] []:=
 EA (dt t_+1) t_ left (Nat.lt_succ_self _)
set_option maxHeartbeats 2000000 in
set_option maxRecDepth 100000 in
instance Hj (t:bp):CM En (ri t) 26 [.agg [.int .i64 t.C,.sl none 1 false (t.P.A.map (V.int .i64)),.int .i64 t.P.C,.sl none 1 false (t.P.Z.map (V.int .i64)),.sl none 5 true (t.L.map cK)]] (fun y=> .bool y) (fun _=> []):=by
 refine cmQ fun r hM=> ?_
 rw [ri.eq_1] at hM
 refine aI az aC noJ Tryz.func26 rfl Tryz.ntmps26 (by kernel_rfl) fun hw=>aB ?_
 refine spQ ?_
 replace hw:=nzQ hw
 have hM0:=hM;clear hM;obtain ⟨x1,hx2,hM⟩:=aA hM0;clear hM0
 have hcx1:=EB t 60
 rw [←hx2] at hcx1
 refine bJ [1] hcx1 (by decide) lsQ lsQ (fun hw3=> ?_)
 replace hw3:=nzQ hw3
 refine spQ ?_
 subst hM
 exact aU lfQ
set_option maxHeartbeats 2000000 in
set_option maxRecDepth 100000 in
instance Hk (s:(List bp)):CM En (rk s) 73 [.sl none 5 true (s.map cK),.fn 26 []] (fun y=> .int .i64 y) (fun _=> []):=by
 refine cmQ fun r hM=> ?_
 rw [rk.eq_1] at hM
 refine aI az aC noJ Tryz.func73 rfl Tryz.ntmps73 (by kernel_rfl) fun hw=>aB ?_
 refine spQ ?_
 replace hw:=nzQ hw
 have hM0:=hM;clear hM;obtain ⟨f1,d1,hf1,hd1,hM⟩:=bv hM0;clear hM0
 refine bL (fun n S=> ∃p:Int,S=(⟨[(0,.sl none 5 true (s.map cK)),(1,.fn 26 []),(7,.int .i64 (s.length:Int)),(8,.int .i64 p)],[],0⟩:St)∧((0≤p)∧(p≤(s.length:Int)))∧((s.length:Int) - p).toNat<n∧ap n f1 d1 p=r) (((s.length:Int) - 0).toNat+1) _ sbQ sbQ ⟨0,rfl,⟨omQ,omQ⟩,(Nat.lt_succ_self _),hM⟩ ?_
 clear hM
 rintro n1 S ⟨p1,rfl,hfa1,hm1,hM⟩
 have hM0:=hM;clear hM;obtain ⟨ag1,hag1,hM⟩:=bw hM0 (by omega) hf1;clear hM0
 replace hfa1:=nzQ hfa1
 replace hm1:=nzQ hm1
 have ha1:aE .i64 p1 1=p1+1:=bQ omQ omQ
 refine aa ha1 ?_
 have hF:=ha1
 exact auQ
set_option maxHeartbeats 2000000 in
set_option maxRecDepth 100000 in
instance Hl (s:(List bp)):CM En (rm s) 25 [.sl none 5 true (s.map cK),.fn 26 []] (fun y=> .bool y) (fun _=> []):=by
 refine cmQ fun r hM=> ?_
 rw [rm.eq_1] at hM
 refine aI az aC noJ Tryz.func25 rfl Tryz.ntmps25 (by kernel_rfl) fun hw=>aB ?_
 refine spQ ?_
 replace hw:=nzQ hw
 have hF:=bz
 exact auQ
set_option maxHeartbeats 2000000 in
set_option maxRecDepth 100000 in
instance Hm (f_:ab) (l:(List bp)):CM En (nM f_ l) 6 [.agg [.int .i64 f_.Kind,.sl none 1 false (f_.Relation.Y.map (V.int .i64)),.sl none 1 false (f_.Relation.Bases.map (fun (l:List Int)=>V.sl none 1 false (l.map (V.int .i64)))),.sl none 4 true (f_.L.map ay)],.sl none 5 true (l.map cK)] (fun y=> .bool y) (fun _=> []):=by
 refine cmQ fun r hM=> ?_
 rw [nM.eq_1] at hM
 refine aI az aC noJ Tryz.func6 rfl Tryz.ntmps6 (by kernel_rfl) fun hw=>aB ?_
 refine spQ ?_
 replace hw:=nzQ hw
 have hM0:=hM;clear hM;obtain ⟨x1,hx2,hM⟩:=aA hM0;clear hM0
 have hcx1:=Ev f_ 60
 rw [←hx2] at hcx1
 refine bJ [1] hcx1 (by decide) lsQ lsQ (fun hw3=> ?_)
 replace hw3:=nzQ hw3
 refine spQ ?_
 have hF:=bz
 exact auQ
set_option maxHeartbeats 2000000 in
set_option maxRecDepth 100000 in
theorem EC (r_:aL) (hp0:fy r_):CM En (gM r_) 79 [.agg [.sl none 1 false (r_.Y.map (V.int .i64)),.sl none 1 false (r_.Bases.map (fun (l:List Int)=>V.sl none 1 false (l.map (V.int .i64))))]] (fun y=> .str y) (fun _=> []):=by
 refine cmQ fun r hM=> ?_
 rw [gM.eq_1] at hM
 refine aI az aC noJ Tryz.func79 rfl Tryz.ntmps79 (by kernel_rfl) fun hw=>aB ?_
 refine spQ ?_
 replace hw:=nzQ hw
 have h0_0:=kC
 have h0_1:=hp0.1
 have h0_2:=hp0.2.1
 have hM0:=hM;clear hM;obtain ⟨f1,d1,hf1,hd1,hM⟩:=bv hM0;clear hM0
 refine kB (fun n S=> ∃p:Int×List (List UInt8),S=(⟨[(1,.ptr 0 0),(3,.own 1),(10,.sl none 1 false (r_.Y.map (V.int .i64))),(11,.int .i64 (r_.Y.length:Int)),(12,.int .i64 p.1)],[(0,.var 2 true (.agg [.sl none 1 false (r_.Y.map (V.int .i64)),.sl none 1 false (r_.Bases.map (fun (l:List Int)=>V.sl none 1 false (l.map (V.int .i64))))])),(1,.own 9 1 false none (p.2.map V.str))],2⟩:St)∧(((0≤p.1)∧(p.1≤(r_.Y.length:Int))∧(((p.2).length:Int)=p.1)∧(((p.2).length:Int)≤p.1))∧((bR (p.2):Int)≤300*p.1))∧((r_.Y.length:Int) - p.1).toNat<n∧ap n f1 d1 p=r) (((r_.Y.length:Int) - 0).toNat+1) _ _ (qp 3 9 rfl (by decide)) sbQ sbQ ⟨(0,([]:List (List UInt8))),rfl,⟨⟨by (first|exact omQ|(clear hM;first|(have h9:=bS hp0 (i:=p1.1) (by omega);exact aH))),by (first|exact omQ|(clear hM;first|(have h9:=bS hp0 (i:=p1.1) (by omega);exact aH))),by (first|exact omQ|(clear hM;first|(have h9:=bS hp0 (i:=p1.1) (by omega);exact aH))),by (first|exact omQ|(clear hM;first|(have h9:=bS hp0 (i:=p1.1) (by omega);exact aH)))⟩,by (simp [bR])⟩,(Nat.lt_succ_self _),hM⟩ ?_
 clear hM
 rintro n1 S ⟨p1,rfl,⟨hfa1,hF3_0⟩,hm1,hM⟩
 have hM0:=hM;clear hM;obtain ⟨ag1,hag1,hM⟩:=bw hM0 (by omega) hf1;clear hM0
 replace hfa1:=nzQ hfa1
 replace hm1:=nzQ hm1
 have ha1:aE .i64 p1.1 1=p1.1+1:=bQ (by (first|exact omQ|(clear hM;first|(have h9:=bS hp0 (i:=p1.1) (by omega);exact aH)))) (by (first|exact omQ|(clear hM;first|(have h9:=bS hp0 (i:=p1.1) (by omega);exact aH))))
 refine aa ha1 ?_
 refine aG (fun h2=> ?_) (fun h2=> ?_)
 ·rw [if_pos h2] at hM
  refine aa (And.intro ha1 h2) ?_
  have nh2:=nzQ h2
  try have hr3:=mpQ nh2
  refine bc (by (first|exact omQ|(clear hM;first|(have h9:=bS hp0 (i:=p1.1) (by omega);exact aH)))) ?_
  have he4:=fun d=>da (l:=r_.Y) (f:=(V.int .i64)) (i:=p1.1) (by (first|exact omQ|(clear hM;first|(have h9:=bS hp0 (i:=p1.1) (by omega);exact aH)))) d
  refine aa (And.intro ha1 he4) ?_
  have hM0:=hM;clear hM;obtain ⟨x5,hx6,hM⟩:=aA hM0;clear hM0
  have hcx5:=cmU hx6
  refine aT hcx5 (bk (And.intro ha1 he4)) (bk (And.intro ha1 he4)) (fun hw7=> ?_)
  replace hw7:=nzQ hw7
  refine aa (And.intro ha1 he4) ?_
  have hq8:=(by first|exact vN hp0 hx6 (by omega)|exact vO hp0 hx6 (by omega) (by omega))
  replace hq8:=nzQ hq8
  refine bc (by (first|exact omQ|(clear hM;first|(have h9:=bS hp0 (i:=p1.1) (by omega);exact aH)))) ?_
  refine aa (And.intro ha1 he4) ?_
  refine bc (by (first|exact omQ|(clear hM;first|(have h9:=bS hp0 (i:=p1.1) (by omega);exact aH)))) ?_
  have he9:=fun d=>da (l:=r_.Bases) (f:=(fun (l:List Int)=>V.sl none 1 false (l.map (V.int .i64)))) (i:=p1.1) (by (first|exact omQ|(clear hM;first|(have h9:=bS hp0 (i:=p1.1) (by omega);exact aH)))) d
  refine aa (And.intro ha1 (And.intro he4 he9)) ?_
  have hM0:=hM;clear hM;obtain ⟨f10,d10,hf10,hd10,hM⟩:=bv hM0;clear hM0
  refine bL (fun n S=> ∃p:List UInt8×Int,S=(⟨[(1,.ptr 0 0),(3,.own 1),(6,.str p.1),(10,.sl none 1 false (r_.Y.map (V.int .i64))),(11,.int .i64 (r_.Y.length:Int)),(12,.int .i64 p1.1),(24,.sl none 1 false ((gt r_.Bases p1.1).map (V.int .i64))),(25,.int .i64 ((gt r_.Bases p1.1).length:Int)),(26,.int .i64 p.2)],[(0,.var 2 true (.agg [.sl none 1 false (r_.Y.map (V.int .i64)),.sl none 1 false (r_.Bases.map (fun (l:List Int)=>V.sl none 1 false (l.map (V.int .i64))))])),(1,.own 9 1 false none (p1.2.map V.str))],2⟩:St)∧((0≤p.2)∧(p.2≤((gt r_.Bases p1.1).length:Int))∧(((p.1).length:Int)≤23+22*p.2))∧(((gt r_.Bases p1.1).length:Int) - p.2).toNat<n∧ap n f10 d10 p=r) ((((gt r_.Bases p1.1).length:Int) - 0).toNat+1) _ sbQ sbQ ⟨((x5++[32,61]),0),rfl,⟨by (first|exact omQ|(clear hM;first|(have h9:=bS hp0 (i:=p1.1) (by omega);exact aH))),by (first|exact omQ|(clear hM;first|(have h9:=bS hp0 (i:=p1.1) (by omega);exact aH))),by (first|exact omQ|(clear hM;first|(have h9:=bS hp0 (i:=p1.1) (by omega);exact aH)))⟩,(Nat.lt_succ_self _),hM⟩ ?_
  clear hM
  rintro n10 S ⟨p10,rfl,hfa10,hm10,hM⟩
  have hM0:=hM;clear hM;obtain ⟨ag10,hag10,hM⟩:=bw hM0 (by omega) hf10;clear hM0
  replace hfa10:=nzQ hfa10
  replace hm10:=nzQ hm10
  have ha10:aE .i64 p10.2 1=p10.2+1:=bQ (by (first|exact omQ|(clear hM;first|(have h9:=bS hp0 (i:=p1.1) (by omega);exact aH)))) (by (first|exact omQ|(clear hM;first|(have h9:=bS hp0 (i:=p1.1) (by omega);exact aH))))
  refine aa (And.intro ha1 (And.intro he4 (And.intro he9 ha10))) ?_
  refine aG (fun h11=> ?_) (fun h11=> ?_)
  ·rw [if_pos h11] at hM
   refine aa (And.intro ha1 (And.intro he4 (And.intro he9 (And.intro ha10 h11)))) ?_
   have nh11:=nzQ h11
   try have hr12:=mpQ nh11
   refine bc (by (first|exact omQ|(clear hM;first|(have h9:=bS hp0 (i:=p1.1) (by omega);exact aH)))) ?_
   have he13:=fun d=>da (l:=(gt r_.Bases p1.1)) (f:=(V.int .i64)) (i:=p10.2) (by (first|exact omQ|(clear hM;first|(have h9:=bS hp0 (i:=p1.1) (by omega);exact aH)))) d
   refine aa (And.intro ha1 (And.intro he4 (And.intro he9 (And.intro ha10 he13)))) ?_
   have hM0:=hM;clear hM;obtain ⟨x14,hx15,hM⟩:=aA hM0;clear hM0
   have hcx14:=cmU hx15
   refine aT hcx14 (bk (And.intro ha1 (And.intro he4 (And.intro he9 (And.intro ha10 he13))))) (bk (And.intro ha1 (And.intro he4 (And.intro he9 (And.intro ha10 he13))))) (fun hw16=> ?_)
   replace hw16:=nzQ hw16
   refine aa (And.intro ha1 (And.intro he4 (And.intro he9 (And.intro ha10 he13)))) ?_
   have hq17:=(by first|exact vN hp0 hx15 (by omega)|exact vO hp0 hx15 (by omega) (by omega))
   replace hq17:=nzQ hq17
   have hA0:=fun a0=>bS hp0 (i:=p1.1) a0
   have hF:=(And.intro ha1 (And.intro h2 (And.intro he4 (And.intro he9 (And.intro ha10 (And.intro h11 he13))))))
   exact auQ
  ·rw [if_neg (av h11)] at hM
   refine aa (And.intro ha1 (And.intro he4 (And.intro he9 (And.intro ha10 h11)))) ?_
   have nh11:=nzQ h11
   try have hr18:=mpQ nh11
   refine bc (by (first|exact omQ|(clear hM;first|(have h9:=bS hp0 (i:=p1.1) (by omega);exact aH)))) ?_
   refine aa (And.intro ha1 (And.intro he4 (And.intro he9 ha10))) ?_
   refine ce (n1 - 1) _ (by omega) sbQ sbQ ⟨((p1.1+1),(p1.2++([p10.1]:List (List UInt8)))),rfl,⟨⟨by (first|exact omQ|(clear hM;first|(have h9:=bS hp0 (i:=(p1.1+1)) (by omega);exact aH))),by (first|exact omQ|(clear hM;first|(have h9:=bS hp0 (i:=(p1.1+1)) (by omega);exact aH))),by (first|exact omQ|(clear hM;first|(have h9:=bS hp0 (i:=(p1.1+1)) (by omega);exact aH))),by (first|exact omQ|(clear hM;first|(have h9:=bS hp0 (i:=(p1.1+1)) (by omega);exact aH)))⟩,by (clear hM;have h9:=bS hp0 (i:=p1.1) (by omega);rw [vm,vn];omega)⟩,by (first|exact omQ|(clear hM;first|(have h9:=bS hp0 (i:=(p1.1+1)) (by omega);exact aH))),cg hM hag1⟩
 ·rw [if_neg (av h2)] at hM
  refine aa (And.intro ha1 h2) ?_
  have nh2:=nzQ h2
  try have hr19:=mpQ nh2
  have hM0:=hM;clear hM;obtain ⟨x20,hx21,hM⟩:=aA hM0;clear hM0
  have hcx20:=cmH hx21 (qN (p1.2) ([44,32]) (by (exact rt (n:=2400) (m:=8) (by omega) (by omega) (by decide))))
  refine m6 hcx20 (bk ha1) (bk ha1) (fun hw22=> ?_)
  replace hw22:=nzQ hw22
  refine aa ha1 ?_
  have hq23:=ly hx21
  replace hq23:=nzQ hq23
  have hA0:=fun a0=>bS hp0 (i:=p1.1) a0
  have hF:=(And.intro ha1 h2)
  exact auQ
end Go.Proofs.YtiknkaadhomeiaaGreatDoor
namespace Go.Proofs.YtiknkaadhomeiaaGreatDoor
open Go.RowKit
set_option linter.unusedSimpArgs false
set_option maxHeartbeats 2000000 in
set_option maxRecDepth 100000 in
theorem ED (N:Nat) (ih: ∀(f_:ab),(okT f_)→(aN f_≤30)→aN f_<N→aV En 29 [.agg [.int .i64 f_.Kind,.sl none 1 false (f_.Relation.Y.map (V.int .i64)),.sl none 1 false (f_.Relation.Bases.map (fun (l:List Int)=>V.sl none 1 false (l.map (V.int .i64)))),.sl none 4 true (f_.L.map ay)]] (.str (be f_)) []) (f_:ab) (hp0:okT f_) (hp1:aN f_≤30) (hp_:aN f_<N+1):aV En 29 [.agg [.int .i64 f_.Kind,.sl none 1 false (f_.Relation.Y.map (V.int .i64)),.sl none 1 false (f_.Relation.Bases.map (fun (l:List Int)=>V.sl none 1 false (l.map (V.int .i64)))),.sl none 4 true (f_.L.map ay)]] (.str (lr f_)) []:=by
 generalize hM:lr f_=r
 rw [lr.eq_1] at hM
 refine aI az aC noJ Tryz.func29 rfl Tryz.ntmps29 (by kernel_rfl) fun hw=>aB ?_
 refine spQ ?_
 replace hw:=nzQ hw
 have h0_0:=kC
 have h0_1:=(jJ hp0).2.1
 refine aG (fun h1=> ?_) (fun h1=> ?_)
 ·rw [if_pos h1] at hM
  refine aa h1 ?_
  have nh1:=nzQ h1
  try have hr2:=mpQ nh1
  have hM0:=hM;clear hM;obtain ⟨x3,hx4,hM⟩:=aA hM0;clear hM0
  have hcx3:=cmH hx4 (EC (f_.Relation) (by (exact (jJ hp0).1)))
  refine aT hcx3 clQ clQ (fun hw5=> ?_)
  replace hw5:=nzQ hw5
  refine spQ ?_
  have hq6:=DX hx4 (jJ hp0).1
  replace hq6:=nzQ hq6
  subst hM
  exact aU (bf h1)
 ·rw [if_neg (av h1)] at hM
  refine aa h1 ?_
  have nh1:=nzQ h1
  try have hr7:=mpQ nh1
  have hM0:=hM;clear hM;obtain ⟨f8,d8,hf8,hd8,hM⟩:=bv hM0;clear hM0
  refine kB (fun n S=> ∃p:Int×List (List UInt8),S=(⟨[(1,.ptr 0 0),(3,.own 1),(14,.sl none 4 true (f_.L.map ay)),(15,.int .i64 (f_.L.length:Int)),(16,.int .i64 p.1)],[(0,.var 4 true (.agg [.int .i64 f_.Kind,.sl none 1 false (f_.Relation.Y.map (V.int .i64)),.sl none 1 false (f_.Relation.Bases.map (fun (l:List Int)=>V.sl none 1 false (l.map (V.int .i64)))),.sl none 4 true (f_.L.map ay)])),(1,.own 9 1 false none (p.2.map V.str))],2⟩:St)∧(((0≤p.1)∧(p.1≤(f_.L.length:Int))∧(((p.2).length:Int)=p.1)∧(((p.2).length:Int)≤p.1))∧((bR (p.2):Int)≤78000*p.1))∧((f_.L.length:Int) - p.1).toNat<n∧ap n f8 d8 p=r) (((f_.L.length:Int) - 0).toNat+1) _ _ (qp 3 9 rfl (by decide)) sbQ sbQ ⟨(0,([]:List (List UInt8))),rfl,⟨⟨omQ,omQ,omQ,omQ⟩,by (simp [bR])⟩,(Nat.lt_succ_self _),hM⟩ ?_
  clear hM
  rintro n8 S ⟨p8,rfl,⟨hfa8,hF5_0⟩,hm8,hM⟩
  have hM0:=hM;clear hM;obtain ⟨ag8,hag8,hM⟩:=bw hM0 (by omega) hf8;clear hM0
  replace hfa8:=nzQ hfa8
  replace hm8:=nzQ hm8
  have ha8:aE .i64 p8.1 1=p8.1+1:=bQ omQ omQ
  refine aa ha8 ?_
  refine aG (fun h9=> ?_) (fun h9=> ?_)
  ·rw [if_pos h9] at hM
   refine aa (And.intro ha8 h9) ?_
   have nh9:=nzQ h9
   try have hr10:=mpQ nh9
   refine bc omQ ?_
   have he11:=fun d=>da (l:=f_.L) (f:=ay) (i:=p8.1) omQ d
   refine aa (And.intro ha8 he11) ?_
   have hM0:=hM;clear hM;obtain ⟨x12,hx13,hM⟩:=aA hM0;clear hM0
   have hcx12:=ih (gt f_.L p8.1) (by (first|exact (jJ hp0).2.2 _ (bF (by omega))|(have h9:=dX (f:=f_) (bF (l:=f_.L) (i:=p8.1) (by omega));omega))) (by (first|exact (jJ hp0).2.2 _ (bF (by omega))|(have h9:=dX (f:=f_) (bF (l:=f_.L) (i:=p8.1) (by omega));omega))) (by (have h9:=dX (f:=f_) (bF (l:=f_.L) (i:=p8.1) (by omega));omega))
   rw [←hx13] at hcx12
   refine aT hcx12 (bk (And.intro ha8 he11)) (bk (And.intro ha8 he11)) (fun hw14=> ?_)
   replace hw14:=nzQ hw14
   refine aa (And.intro ha8 he11) ?_
   have hq15:=DY hx13 ((jJ hp0).2.2 _ (bF (by omega))) (Nat.le_trans (Nat.le_of_lt (dX (bF (by omega)))) hp1)
   replace hq15:=nzQ hq15
   refine bc omQ ?_
   refine aa (And.intro ha8 he11) ?_
   refine ce (n8 - 1) _ (by omega) sbQ sbQ ⟨((p8.1+1),(p8.2++([x12]:List (List UInt8)))),rfl,⟨⟨omQ,omQ,omQ,omQ⟩,by (clear hM;rw [vm,vn];omega)⟩,omQ,cg hM hag8⟩
  ·rw [if_neg (av h9)] at hM
   refine aa (And.intro ha8 h9) ?_
   have nh9:=nzQ h9
   try have hr16:=mpQ nh9
   refine aG (fun h17=> ?_) (fun h17=> ?_)
   ·rw [if_pos h17] at hM
    refine aa (And.intro ha8 h17) ?_
    have nh17:=nzQ h17
    try have hr18:=mpQ nh17
    refine bc omQ ?_
    refine aa ha8 ?_
    have hM0:=hM;clear hM;obtain ⟨x19,hx20,hM⟩:=aA hM0;clear hM0
    have hcx19:=cmH hx20 (qN (p8.2) ([44,32]) (by (exact rt (n:=624000) (m:=8) (by omega) (by omega) (by decide))))
    refine m6 hcx19 (bk ha8) (bk ha8) (fun hw21=> ?_)
    replace hw21:=nzQ hw21
    refine aa ha8 ?_
    have hq22:=ly hx20
    replace hq22:=nzQ hq22
    have hF:=(And.intro h1 (And.intro ha8 (And.intro h9 h17)))
    exact auQ
   ·rw [if_neg (av h17)] at hM
    refine aa (And.intro ha8 h17) ?_
    have nh17:=nzQ h17
    try have hr23:=mpQ nh17
    refine bc omQ ?_
    refine aa ha8 ?_
    have hM0:=hM;clear hM;obtain ⟨x24,hx25,hM⟩:=aA hM0;clear hM0
    have hcx24:=cmH hx25 (qN (p8.2) ([44,32]) (by (exact rt (n:=624000) (m:=8) (by omega) (by omega) (by decide))))
    refine m6 hcx24 (bk ha8) (bk ha8) (fun hw26=> ?_)
    replace hw26:=nzQ hw26
    refine aa ha8 ?_
    have hq27:=ly hx25
    replace hq27:=nzQ hq27
    have hF:=(And.intro h1 (And.intro ha8 (And.intro h9 h17)))
    exact auQ
theorem EE: ∀(N:Nat) (f_:ab),(okT f_)→(aN f_≤30)→aN f_<N→aV En 29 [.agg [.int .i64 f_.Kind,.sl none 1 false (f_.Relation.Y.map (V.int .i64)),.sl none 1 false (f_.Relation.Bases.map (fun (l:List Int)=>V.sl none 1 false (l.map (V.int .i64)))),.sl none 4 true (f_.L.map ay)]] (.str (be f_)) []:=by
 intro N
 induction N with
 | zero=>intro f_ h0 h1 h;exact absurd h (Nat.not_lt_zero _)
 | succ N ih=>
  intro f_ h0 h1 h
  have h9:=ED N ih f_ h0 h1 h
  rw [DA] at h9
  exact h9
theorem EF (f_:ab) (hp0:okT f_) (hp1:aN f_≤30):aV En 29 [.agg [.int .i64 f_.Kind,.sl none 1 false (f_.Relation.Y.map (V.int .i64)),.sl none 1 false (f_.Relation.Bases.map (fun (l:List Int)=>V.sl none 1 false (l.map (V.int .i64)))),.sl none 4 true (f_.L.map ay)]] (.str (be f_)) []:=
 EE (aN f_+1) f_ hp0 hp1 (Nat.lt_succ_self _)
set_option maxHeartbeats 2000000 in
set_option maxRecDepth 100000 in
instance Hn (f_:ab):CM En (fu f_) 7 [.agg [.int .i64 f_.Kind,.sl none 1 false (f_.Relation.Y.map (V.int .i64)),.sl none 1 false (f_.Relation.Bases.map (fun (l:List Int)=>V.sl none 1 false (l.map (V.int .i64)))),.sl none 4 true (f_.L.map ay)]] (fun y=> .tup [.str y.1,.int .i64 y.2]) (fun _=> []):=by
 refine cmQ fun r hM=> ?_
 rw [fu.eq_1] at hM
 refine aI az aC noJ Tryz.func7 rfl Tryz.ntmps7 (by kernel_rfl) fun hw=>aB ?_
 refine spQ ?_
 replace hw:=nzQ hw
 have hM0:=hM;clear hM;obtain ⟨x1,hx2,hM⟩:=aA hM0;clear hM0
 have hcx1:=cmU hx2
 refine aT hcx1 clQ clQ (fun hw3=> ?_)
 replace hw3:=nzQ hw3
 refine spQ ?_
 have hq4:=nzQ (cfU hx2)
 refine aG (fun h5=> ?_) (fun h5=> ?_)
 ·rw [if_pos h5] at hM
  refine aa h5 ?_
  have nh5:=nzQ h5
  try have hr6:=mpQ nh5
  subst hM
  exact aU (bf h5)
 ·rw [if_neg (av h5)] at hM
  refine aa h5 ?_
  have nh5:=nzQ h5
  try have hr7:=mpQ nh5
  have hM0:=hM;clear hM;obtain ⟨x8,hx9,hM⟩:=aA hM0;clear hM0
  have hcx8:=EF f_ (by (first|exact (‹okT f_∧aN f_≤30∧okF f_›).1|exact (‹okT f_∧aN f_≤30∧okF f_›).2.1)) (by (first|exact (‹okT f_∧aN f_≤30∧okF f_›).1|exact (‹okT f_∧aN f_≤30∧okF f_›).2.1))
  rw [←hx9] at hcx8
  refine aT hcx8 clQ clQ (fun hw10=> ?_)
  replace hw10:=nzQ hw10
  refine spQ ?_
  have hF:=h5
  exact auQ
instance (priority:=1004):DRD 6 26 8 [17,18,19,20,21,22,23,24] [] ([[],[],[0,1],[0,1,2],[],[],[4,5],[4,5,6]]++[List.range 8]) []:=⟨trivial⟩
set_option maxHeartbeats 2000000 in
set_option maxRecDepth 100000 in
instance Ho (a_:(List Int)) (b:(List Int)):CM En (fv a_ b) 31 [.sl none 1 false (a_.map (V.int .i64)),.sl none 1 false (b.map (V.int .i64))] (fun y=> .bool y) (fun _=> []):=by
 refine cmQ fun r hM=> ?_
 rw [fv.eq_1] at hM
 refine aI az aC noJ Tryz.func31 rfl Tryz.ntmps31 (by kernel_rfl) fun hw=>aB ?_
 refine spQ ?_
 replace hw:=nzQ hw
 refine aG (fun h1=> ?_) (fun h1=> ?_)
 ·rw [if_pos h1] at hM
  refine aa h1 ?_
  have nh1:=nzQ h1
  try have hr2:=mpQ nh1
  subst hM
  exact aU (bf h1)
 ·rw [if_neg (av h1)] at hM
  refine aa h1 ?_
  have nh1:=nzQ h1
  try have hr3:=mpQ nh1
  have hM0:=hM;clear hM;obtain ⟨f4,d4,hf4,hd4,hM⟩:=bv hM0;clear hM0
  refine bL (fun n S=> ∃p:Int,S=(⟨[(0,.sl none 1 false (a_.map (V.int .i64))),(1,.sl none 1 false (b.map (V.int .i64))),(5,.int .i64 p)],[],0⟩:St)∧((0≤p)∧(p≤(a_.length:Int)))∧((a_.length:Int) - p).toNat<n∧ap n f4 d4 p=r) (((a_.length:Int) - 0).toNat+1) _ sbQ sbQ ⟨0,rfl,⟨omQ,omQ⟩,(Nat.lt_succ_self _),hM⟩ ?_
  clear hM
  rintro n4 S ⟨p4,rfl,hfa4,hm4,hM⟩
  have hM0:=hM;clear hM;obtain ⟨ag4,hag4,hM⟩:=bw hM0 (by omega) hf4;clear hM0
  replace hfa4:=nzQ hfa4
  replace hm4:=nzQ hm4
  have ha4:aE .i64 p4 1=p4+1:=bQ omQ omQ
  refine aa ha4 ?_
  have hF:=(And.intro h1 ha4)
  exact auQ
instance (priority:=1005):DRD 6 83 12 [50,51,52,53,54,55,56,57,58,59,60,61] [] ([[],[0],[0,1],[],[0,1,2,3],[0,1,2,3,4],[],[6],[6,7],[],[6,7,8,9],[6,7,8,9,10]]++[List.range 12,List.range 13]) []:=⟨trivial⟩
set_option maxHeartbeats 2000000 in
set_option maxRecDepth 100000 in
theorem EG (N:Nat) (ih: ∀(a_:ab) (b:ab),aN a_<N→aV En 9 [.agg [.int .i64 a_.Kind,.sl none 1 false (a_.Relation.Y.map (V.int .i64)),.sl none 1 false (a_.Relation.Bases.map (fun (l:List Int)=>V.sl none 1 false (l.map (V.int .i64)))),.sl none 4 true (a_.L.map ay)],.agg [.int .i64 b.Kind,.sl none 1 false (b.Relation.Y.map (V.int .i64)),.sl none 1 false (b.Relation.Bases.map (fun (l:List Int)=>V.sl none 1 false (l.map (V.int .i64)))),.sl none 4 true (b.L.map ay)]] (.bool (ew a_ b)) []) (a_:ab) (b:ab) (hp_:aN a_<N+1):aV En 9 [.agg [.int .i64 a_.Kind,.sl none 1 false (a_.Relation.Y.map (V.int .i64)),.sl none 1 false (a_.Relation.Bases.map (fun (l:List Int)=>V.sl none 1 false (l.map (V.int .i64)))),.sl none 4 true (a_.L.map ay)],.agg [.int .i64 b.Kind,.sl none 1 false (b.Relation.Y.map (V.int .i64)),.sl none 1 false (b.Relation.Bases.map (fun (l:List Int)=>V.sl none 1 false (l.map (V.int .i64)))),.sl none 4 true (b.L.map ay)]] (.bool (ls a_ b)) []:=by
 generalize hM:ls a_ b=r
 rw [ls.eq_1] at hM
 refine aI az aC noJ Tryz.func9 rfl Tryz.ntmps9 (by kernel_rfl) fun hw=>aB ?_
 refine spQ ?_
 replace hw:=nzQ hw
 refine bX (fun h1=> ?_) (fun h1=> ?_)
 ·rw [if_neg (av h1)] at hM
  refine aa h1 ?_
  have nh1:=nzQ h1
  try have hr2:=mpQ nh1
  refine bX (fun h3=> ?_) (fun h3=> ?_)
  ·rw [if_neg (av h3)] at hM
   refine aa h3 ?_
   have nh3:=nzQ h3
   try have hr4:=mpQ nh3
   have hM0:=hM;clear hM;obtain ⟨x5,hx6,hM⟩:=aA hM0;clear hM0
   have hcx5:=cmU hx6
   refine aT hcx5 clQ clQ (fun hw7=> ?_)
   replace hw7:=nzQ hw7
   refine spQ ?_
   refine bX (fun h8=> ?_) (fun h8=> ?_)
   ·rw [if_neg (av h8)] at hM
    refine aa h8 ?_
    have nh8:=nzQ h8
    try have hr9:=mpQ nh8
    refine aG (fun h10=> ?_) (fun h10=> ?_)
    ·rw [if_pos h10] at hM
     refine aa h10 ?_
     have nh10:=nzQ h10
     try have hr11:=mpQ nh10
     subst hM
     exact aU (bf (And.intro h1 (And.intro h3 (And.intro h8 h10))))
    ·rw [if_neg (av h10)] at hM
     refine aa h10 ?_
     have nh10:=nzQ h10
     try have hr12:=mpQ nh10
     have hM0:=hM;clear hM;obtain ⟨f13,d13,hf13,hd13,hM⟩:=bv hM0;clear hM0
     refine bL (fun n S=> ∃p:Int,S=(⟨[(2,.ptr 0 0),(3,.ptr 1 0),(5,.int .i64 p)],[(0,.var 4 true (.agg [.int .i64 a_.Kind,.sl none 1 false (a_.Relation.Y.map (V.int .i64)),.sl none 1 false (a_.Relation.Bases.map (fun (l:List Int)=>V.sl none 1 false (l.map (V.int .i64)))),.sl none 4 true (a_.L.map ay)])),(1,.var 4 true (.agg [.int .i64 b.Kind,.sl none 1 false (b.Relation.Y.map (V.int .i64)),.sl none 1 false (b.Relation.Bases.map (fun (l:List Int)=>V.sl none 1 false (l.map (V.int .i64)))),.sl none 4 true (b.L.map ay)]))],2⟩:St)∧((0≤p)∧(p≤(a_.Relation.Bases.length:Int)))∧((a_.Relation.Bases.length:Int) - p).toNat<n∧ap n f13 d13 p=r) (((a_.Relation.Bases.length:Int) - 0).toNat+1) _ sbQ sbQ ⟨0,rfl,⟨omQ,omQ⟩,(Nat.lt_succ_self _),hM⟩ ?_
     clear hM
     rintro n13 S ⟨p13,rfl,hfa13,hm13,hM⟩
     have hM0:=hM;clear hM;obtain ⟨ag13,hag13,hM⟩:=bw hM0 (by omega) hf13;clear hM0
     replace hfa13:=nzQ hfa13
     replace hm13:=nzQ hm13
     have ha13:aE .i64 p13 1=p13+1:=bQ omQ omQ
     refine aa ha13 ?_
     refine aG (fun h14=> ?_) (fun h14=> ?_)
     ·rw [if_pos h14] at hM
      refine aa (And.intro ha13 h14) ?_
      have nh14:=nzQ h14
      try have hr15:=mpQ nh14
      have hF:=(And.intro h1 (And.intro h3 (And.intro h8 (And.intro h10 (And.intro ha13 h14)))))
      exact auQ
     ·rw [if_neg (av h14)] at hM
      refine aa (And.intro ha13 h14) ?_
      have nh14:=nzQ h14
      try have hr24:=mpQ nh14
      have hM0:=hM;clear hM;obtain ⟨f25,d25,hf25,hd25,hM⟩:=bv hM0;clear hM0
      refine bL (fun n S=> ∃p:Int,S=(⟨[(2,.ptr 0 0),(3,.ptr 1 0),(6,.int .i64 p)],[(0,.var 4 true (.agg [.int .i64 a_.Kind,.sl none 1 false (a_.Relation.Y.map (V.int .i64)),.sl none 1 false (a_.Relation.Bases.map (fun (l:List Int)=>V.sl none 1 false (l.map (V.int .i64)))),.sl none 4 true (a_.L.map ay)])),(1,.var 4 true (.agg [.int .i64 b.Kind,.sl none 1 false (b.Relation.Y.map (V.int .i64)),.sl none 1 false (b.Relation.Bases.map (fun (l:List Int)=>V.sl none 1 false (l.map (V.int .i64)))),.sl none 4 true (b.L.map ay)]))],2⟩:St)∧((0≤p)∧(p≤(a_.L.length:Int)))∧((a_.L.length:Int) - p).toNat<n∧ap n f25 d25 p=r) (((a_.L.length:Int) - 0).toNat+1) _ sbQ sbQ ⟨0,rfl,⟨omQ,omQ⟩,(Nat.lt_succ_self _),hM⟩ ?_
      clear hM
      rintro n25 S ⟨p25,rfl,hfa25,hm25,hM⟩
      have hM0:=hM;clear hM;obtain ⟨ag25,hag25,hM⟩:=bw hM0 (by omega) hf25;clear hM0
      replace hfa25:=nzQ hfa25
      replace hm25:=nzQ hm25
      have ha25:aE .i64 p25 1=p25+1:=bQ omQ omQ
      refine aa (And.intro ha13 ha25) ?_
      refine aG (fun h26=> ?_) (fun h26=> ?_)
      ·rw [if_pos h26] at hM
       refine aa (And.intro ha13 (And.intro ha25 h26)) ?_
       have nh26:=nzQ h26
       try have hr27:=mpQ nh26
       refine jk 83 10 [71,72,73,74,75,76,77,78,79,80] [] ([[],[0],[],[0,1,2],[0,1,2,3],[],[5],[],[5,6,7],[5,6,7,8]]++[List.range 10,List.range 11]) [] (by kernel_rfl) (by exact alQ) ?_
       refine aa (And.intro ha13 ha25) ?_
       refine qo omQ ?_
       have he28:=fun d=>da (l:=a_.L) (f:=ay) (i:=p25) omQ d
       refine aa (And.intro ha13 (And.intro ha25 he28)) ?_
       refine qo omQ ?_
       have he29:=fun d=>da (l:=b.L) (f:=ay) (i:=p25) omQ d
       refine aa (And.intro ha13 (And.intro ha25 (And.intro he28 he29))) ?_
       have hM0:=hM;clear hM;obtain ⟨x30,hx31,hM⟩:=aA hM0;clear hM0
       have hcx30:=ih (gt a_.L p25) (gt b.L p25) (by (have h9:=dX (f:=a_) (bF (l:=a_.L) (i:=p25) (by omega));omega))
       rw [←hx31] at hcx30
       refine aT hcx30 (bk (And.intro ha13 (And.intro ha25 (And.intro he28 he29)))) (bk (And.intro ha13 (And.intro ha25 (And.intro he28 he29)))) (fun hw32=> ?_)
       replace hw32:=nzQ hw32
       refine aa (And.intro ha13 (And.intro ha25 (And.intro he28 he29))) ?_
       have hF:=(And.intro h1 (And.intro h3 (And.intro h8 (And.intro h10 (And.intro ha13 (And.intro h14 (And.intro ha25 (And.intro h26 (And.intro he28 he29)))))))))
       exact auQ
      ·rw [if_neg (av h26)] at hM
       refine aa (And.intro ha13 (And.intro ha25 h26)) ?_
       have nh26:=nzQ h26
       try have hr36:=mpQ nh26
       subst hM
       exact aU (bf (And.intro ha13 (And.intro ha25 (And.intro h1 (And.intro h3 (And.intro h8 (And.intro h10 (And.intro h14 h26))))))))
   ·rw [if_pos h8] at hM
    refine aa h8 ?_
    have nh8:=nzQ h8
    try have hr37:=mpQ nh8
    subst hM
    exact aU (bf (And.intro h1 (And.intro h3 h8)))
  ·rw [if_pos h3] at hM
   refine aa h3 ?_
   have nh3:=nzQ h3
   try have hr38:=mpQ nh3
   subst hM
   exact aU (bf (And.intro h1 h3))
 ·rw [if_pos h1] at hM
  refine aa h1 ?_
  have nh1:=nzQ h1
  try have hr39:=mpQ nh1
  subst hM
  exact aU (bf h1)
theorem EH: ∀(N:Nat) (a_:ab) (b:ab),aN a_<N→aV En 9 [.agg [.int .i64 a_.Kind,.sl none 1 false (a_.Relation.Y.map (V.int .i64)),.sl none 1 false (a_.Relation.Bases.map (fun (l:List Int)=>V.sl none 1 false (l.map (V.int .i64)))),.sl none 4 true (a_.L.map ay)],.agg [.int .i64 b.Kind,.sl none 1 false (b.Relation.Y.map (V.int .i64)),.sl none 1 false (b.Relation.Bases.map (fun (l:List Int)=>V.sl none 1 false (l.map (V.int .i64)))),.sl none 4 true (b.L.map ay)]] (.bool (ew a_ b)) []:=by
 intro N
 induction N with
 | zero=>intro a_ b h;exact absurd h (Nat.not_lt_zero _)
 | succ N ih=>
  intro a_ b h
  have h9:=EG N ih a_ b h
  rw [DG] at h9
  exact h9
theorem EI (a_:ab) (b:ab):aV En 9 [.agg [.int .i64 a_.Kind,.sl none 1 false (a_.Relation.Y.map (V.int .i64)),.sl none 1 false (a_.Relation.Bases.map (fun (l:List Int)=>V.sl none 1 false (l.map (V.int .i64)))),.sl none 4 true (a_.L.map ay)],.agg [.int .i64 b.Kind,.sl none 1 false (b.Relation.Y.map (V.int .i64)),.sl none 1 false (b.Relation.Bases.map (fun (l:List Int)=>V.sl none 1 false (l.map (V.int .i64)))),.sl none 4 true (b.L.map ay)]] (.bool (ew a_ b)) []:=
 EH (aN a_+1) a_ b (Nat.lt_succ_self _)
set_option maxHeartbeats 2000000 in
set_option maxRecDepth 100000 in
instance EJ (f_:ab) (s:(List UInt8)):CM En (nN f_ s) 3 [.agg [.int .i64 f_.Kind,.sl none 1 false (f_.Relation.Y.map (V.int .i64)),.sl none 1 false (f_.Relation.Bases.map (fun (l:List Int)=>V.sl none 1 false (l.map (V.int .i64)))),.sl none 4 true (f_.L.map ay)],.str s] (fun y=> .bool y) (fun _=> []):=by
 refine cmQ fun r hM=> ?_
 rw [nN.eq_1] at hM
 refine aI az aC [12] Tryz.func3 rfl Tryz.ntmps3 (by kernel_rfl) fun hw=>aB ?_
 refine spQ ?_
 replace hw:=nzQ hw
 have hM0:=hM;clear hM;obtain ⟨x1,hx2,hM⟩:=aA hM0;clear hM0
 have hcx1:=cmU hx2
 refine aT hcx1 clQ clQ (fun hw3=> ?_)
 replace hw3:=nzQ hw3
 refine spQ ?_
 refine aG (fun h4=> ?_) (fun h4=> ?_)
 ·rw [if_pos h4] at hM
  refine aa h4 ?_
  have nh4:=nzQ h4
  try have hr5:=mpQ nh4
  subst hM
  exact aU (bf h4)
 ·rw [if_neg (av h4)] at hM
  refine aa h4 ?_
  have nh4:=nzQ h4
  try have hr6:=mpQ nh4
  have hM0:=hM;clear hM;obtain ⟨x7,hx8,hM⟩:=aA hM0;clear hM0
  have hcx7:=cmU hx8
  refine aT hcx7 clQ clQ (fun hw9=> ?_)
  replace hw9:=nzQ hw9
  refine spQ ?_
  refine bX (fun h10=> ?_) (fun h10=> ?_)
  ·rw [if_neg (av h10)] at hM
   refine aa h10 ?_
   have nh10:=nzQ h10
   try have hr11:=mpQ nh10
   refine aG (fun h12=> ?_) (fun h12=> ?_)
   ·rw [if_pos h12] at hM
    refine aa h12 ?_
    have nh12:=nzQ h12
    try have hr13:=mpQ nh12
    subst hM
    exact aU (bf (And.intro h4 (And.intro h10 h12)))
   ·rw [if_neg (av h12)] at hM
    refine aa h12 ?_
    have nh12:=nzQ h12
    try have hr14:=mpQ nh12
    have hM0:=hM;clear hM;obtain ⟨j15,hj15,hM⟩:=jm hM0;clear hM0
    refine jj (fun S=> ∃p:Unit,S=(⟨[(1,.str s)],[],2⟩:St)∧(True)∧j15 p=r) ?_ (fun hcut15=> ?_)
    ·clear hM
     rintro S ⟨p15,rfl,hfa15,hM⟩
     have hM0:=hM;clear hM;have hM:=jn hM0 hj15;clear hM0
     try refine spQ ?_
     have hF:=(And.intro h4 (And.intro h10 h12))
     exact auQ
    ·refine spQ ?_
     have hM0:=hM;clear hM;obtain ⟨x31,hx32,hM⟩:=aA hM0;clear hM0
     have hcx31:=cmU hx32
     refine aT hcx31 clQ clQ (fun hw33=> ?_)
     replace hw33:=nzQ hw33
     refine spQ ?_
     refine aG (fun h34=> ?_) (fun h34=> ?_)
     ·rw [if_pos h34] at hM
      refine aa h34 ?_
      have nh34:=nzQ h34
      try have hr35:=mpQ nh34
      have hM0:=hM;clear hM;obtain ⟨x36,hx37,hM⟩:=aA hM0;clear hM0
      have hcx36:=cmU hx37
      refine aT hcx36 clQ clQ (fun hw38=> ?_)
      replace hw38:=nzQ hw38
      refine spQ ?_
      refine bX (fun h39=> ?_) (fun h39=> ?_)
      ·rw [if_neg (av h39)] at hM
       refine aa h39 ?_
       have nh39:=nzQ h39
       try have hr40:=mpQ nh39
       have hM0:=hM;clear hM;obtain ⟨x41,hx42,hM⟩:=aA hM0;clear hM0
       have hcx41:=EI (x36.1) f_
       rw [←hx42] at hcx41
       refine aT hcx41 clQ clQ (fun hw43=> ?_)
       replace hw43:=nzQ hw43
       refine spQ ?_
       refine aG (fun h44=> ?_) (fun h44=> ?_)
       ·rw [if_pos h44] at hM
        refine aa h44 ?_
        have nh44:=nzQ h44
        try have hr45:=mpQ nh44
        subst hM
        exact aU (bf (And.intro h4 (And.intro h10 (And.intro h12 (And.intro h34 (And.intro h39 h44))))))
       ·rw [if_neg (av h44)] at hM
        refine aa h44 ?_
        have nh44:=nzQ h44
        try have hr46:=mpQ nh44
        exact dE _ sbQ sbQ (hcut15 _ ⟨(),rfl,trivial,hM⟩)
      ·rw [if_pos h39] at hM
       refine aa h39 ?_
       have nh39:=nzQ h39
       try have hr47:=mpQ nh39
       subst hM
       exact aU (bf (And.intro h4 (And.intro h10 (And.intro h12 (And.intro h34 h39)))))
     ·rw [if_neg (av h34)] at hM
      refine aa h34 ?_
      have nh34:=nzQ h34
      try have hr48:=mpQ nh34
      refine aG (fun h49=> ?_) (fun h49=> ?_)
      ·rw [if_pos h49] at hM
       refine aa h49 ?_
       have nh49:=nzQ h49
       try have hr50:=mpQ nh49
       subst hM
       exact aU (bf (And.intro h4 (And.intro h10 (And.intro h12 (And.intro h34 h49)))))
      ·rw [if_neg (av h49)] at hM
       refine aa h49 ?_
       have nh49:=nzQ h49
       try have hr51:=mpQ nh49
       exact dE _ sbQ sbQ (hcut15 _ ⟨(),rfl,trivial,hM⟩)
  ·rw [if_pos h10] at hM
   refine aa h10 ?_
   have nh10:=nzQ h10
   try have hr52:=mpQ nh10
   subst hM
   exact aU (bf (And.intro h4 h10))
end Go.Proofs.YtiknkaadhomeiaaGreatDoor
namespace Go.Proofs.YtiknkaadhomeiaaGreatDoor
open Go.RowKit Go.Lib
theorem iG {d:Nat} (h:d<10):(UInt8.ofNat (48+d)).toNat=48+d:=by
 rw [UInt8.toNat_ofNat'];omega
theorem vX: ∀(l:List UInt8) (c:UInt8) (a u:Nat),parseUint10 a l= .ok u→u<230584300921369396→48≤c.toNat→c.toNat≤57→parseUint10 a (l++[c])= .ok (u*10+(c.toNat - 48))
 | [],c,a,u,h,hu,h0,h1=>by
  simp only [parseUint10] at h
  injection h with h
  subst h
  rw [List.nil_append]
  simp only [parseUint10]
  rw [if_pos (by omega),if_neg (by omega),if_neg (by omega)]
 | x::l,c,a,u,h,hu,h0,h1=>by
  rw [List.cons_append]
  simp only [parseUint10] at h⊢
  split at h
  ·rename_i hx
   rw [if_pos hx]
   split at h
   ·cases h
   ·rename_i hy
    rw [if_neg hy]
    split at h
    ·cases h
    ·rename_i hz
     rw [if_neg hz]
     exact vX l c _ u h hu h0 h1
  ·cases h
theorem EK: ∀(u:Nat),u<2305843009213693952→parseUint10 0 (decDigits u)= .ok u:=by
 intro u
 induction u using Nat.strongRecOn with
 | _ u ih=>
  intro hu
  by_cases h:u<10
  ·rw [decDigits_one h]
   simp only [parseUint10,iG h]
   rw [if_pos (by omega),if_neg (by omega),if_neg (by omega)]
   congr 1
   omega
  ·have hd:u% 10<10:=by omega
   rw [decDigits,dif_neg h]
   have:=vX (decDigits (u/10)) (UInt8.ofNat (48+u% 10)) 0 (u/10) (ih (u/10) (by omega) (by omega)) (by omega) (by rw [iG hd];omega) (by rw [iG hd];omega)
   rw [this,iG hd]
   congr 1
   omega
theorem vY: ∀(u:Nat),∀c∈decDigits u,48≤c.toNat∧c.toNat≤57:=by
 intro u
 induction u using Nat.strongRecOn with
 | _ u ih=>
  intro c hc
  by_cases h:u<10
  ·rw [decDigits_one h] at hc
   simp only [List.mem_cons,List.not_mem_nil,or_false] at hc
   rw [hc,iG h];omega
  ·rw [decDigits,dif_neg h] at hc
   rcases List.mem_append.1 hc with h1|h1
   ·exact ih (u/10) (by omega) c h1
   ·simp only [List.mem_cons,List.not_mem_nil,or_false] at h1
    rw [h1,iG (by omega)];omega
theorem rN (u:Nat):decDigits u≠[]:=by
 intro h
 have h1:=decDigits_length u
 rw [h,List.length_nil] at h1
 by_cases hu:u<10
 ·rw [nDigits_small hu] at h1;omega
 ·rw [nDigits_big hu] at h1;omega
theorem EM {n:Int} (h0:0≤n) (h1:n<2305843009213693952):bG (strconv_Itoa n)=(n,true):=by
 obtain ⟨u,rfl⟩:=Int.eq_ofNat_of_zero_le h0
 unfold bG strconv_Itoa
 rw [itoa_nonneg]
 have hp:=EK u (by omega)
 have hd:=vY u
 have hn:=rN u
 have e:atoiAll (decDigits u)= .ok (u:Int):=by
  cases hl:decDigits u with
  | nil=>exact absurd hl hn
  | cons c r=>
   rw [hl] at hp hd
   have hc:=hd c (by simp)
   unfold atoiAll
   simp only
   rw [if_neg (show¬(c.toNat=43∨c.toNat=45) by omega)]
   unfold parseMag
   rw [if_neg (by simp),hp]
   simp only
   rw [if_neg (by omega),if_neg (by omega),if_neg (by omega)]
 rw [e]
end Go.Proofs.YtiknkaadhomeiaaGreatDoor
namespace Go.Proofs.YtiknkaadhomeiaaGreatDoor
open Go.RowKit Go.Lib
def isD (c:UInt8):Bool:=decide (48≤c.toNat)&&decide (c.toNat≤57)
theorem fZ {c:UInt8}:isD c=true↔48≤c.toNat∧c.toNat≤57:=by simp [isD]
def nv (l:List UInt8):Nat:=l.foldl (fun a c=>a*10+(c.toNat - 48)) 0
theorem EN (l:List UInt8) (c:UInt8):nv (l++[c])=nv l*10+(c.toNat - 48):=by simp [nv]
def gd (l:List UInt8):Prop:=l≠[]∧l.all isD=true∧ ¬(1<l.length∧l.getD 0 0=48)
theorem vZ {c:UInt8} (h:isD c=true):UInt8.ofNat (48+(c.toNat - 48))=c:=by
 rw [fZ] at h
 have e:48+(c.toNat - 48)=c.toNat:=by omega
 rw [e]
 exact UInt8.toNat.inj (by rw [UInt8.toNat_ofNat'];have:=c.toNat_lt;omega)
theorem EO {α:Type} {C:List α→Prop} (h0:C []) (h1: ∀l x,C l→C (l++[x])) (l:List α):C l:=by
 have key: ∀n (l:List α),l.length=n→C l:=by
  intro n
  induction n with
  | zero=>intro l h;rw [List.length_eq_zero_iff.1 h];exact h0
  | succ n ih=>
   intro l h
   have hl:l≠[]:=by intro e;rw [e] at h;cases h
   rw [←List.dropLast_concat_getLast hl]
   exact h1 _ _ (ih _ (by rw [List.length_dropLast];omega))
 exact key _ l rfl
theorem rO {l r:List UInt8} (h:l≠[]):(l++r).getD 0 0=l.getD 0 0:=by
 cases l with
 | nil=>exact absurd rfl h
 | cons a l=>rfl
theorem v6 {c:UInt8}:nv [c]=c.toNat - 48:=by simp [nv]
theorem v7 {c:UInt8} (h:isD c=true):decDigits (nv [c])=[c]:=by
 have h':=fZ.1 h
 rw [v6,decDigits_one (by omega),vZ h]
theorem EP (a:List UInt8):a≠[]→a.all isD=true→a.getD 0 0≠48→1≤nv a∧decDigits (nv a)=a:=by
 refine EO (C:=fun a=>a≠[]→a.all isD=true→a.getD 0 0≠48→1≤nv a∧decDigits (nv a)=a) (fun h=>absurd rfl h) (fun l x ih=> ?_) a
 intro _ hall hh
 rw [List.all_append,Bool.and_eq_true] at hall
 have hx:isD x=true:=by simpa using hall.2
 by_cases hl:l=[]
 ·subst hl
  rw [List.nil_append] at hh⊢
  refine ⟨?_,v7 hx⟩
  rw [v6]
  have h':=fZ.1 hx
  have:x.toNat≠48:=fun e=>hh (UInt8.toNat.inj (by show x.toNat=_;rw [e];rfl))
  omega
 ·rw [rO hl] at hh
  have ⟨h1,h2⟩:=ih hl hall.1 hh
  have h':=fZ.1 hx
  rw [EN]
  refine ⟨by omega,?_⟩
  have e1:(nv l*10+(x.toNat - 48))/10=nv l:=by omega
  have e2:(nv l*10+(x.toNat - 48))% 10=x.toNat - 48:=by omega
  rw [decDigits,dif_neg (by omega),e1,e2,h2,vZ hx]
theorem EQ {a:List UInt8} (h:gd a):decDigits (nv a)=a:=by
 obtain ⟨h0,h1,h2⟩:=h
 match a,h0,h1,h2 with
 | [],h0,_,_=>exact absurd rfl h0
 | [c],_,h1,_=>exact v7 (by simpa using h1)
 | c::d::a,h0,h1,h2=>exact (EP _ h0 h1 (fun e=>h2 ⟨by simp,e⟩)).2
theorem ER: ∀u:Nat,1≤u→(decDigits u).getD 0 0≠48:=by
 intro u
 induction u using Nat.strongRecOn with
 | _ u ih=>
  intro h0
  by_cases h:u<10
  ·rw [decDigits_one h]
   intro e
   have e':(UInt8.ofNat (48+u)).toNat=48:=by
    have:UInt8.ofNat (48+u)=48:=e
    rw [this];rfl
   rw [iG h] at e';omega
  ·rw [decDigits,dif_neg h,rO (rN _)]
   exact ih (u/10) (by omega) (by omega)
theorem v8 (u:Nat):gd (decDigits u):=by
 refine ⟨rN u,List.all_eq_true.2 fun c hc=>fZ.2 (vY u c hc),fun h=> ?_⟩
 by_cases hu:u<10
 ·rw [decDigits_one hu] at h
  have:=h.1
  simp at this
 ·exact ER u (by omega) h.2
theorem rP {n:Int} (h0:0≤n):strconv_Itoa n=decDigits n.toNat:=by
 obtain ⟨u,rfl⟩:=Int.eq_ofNat_of_zero_le h0
 unfold strconv_Itoa
 rw [itoa_nonneg,Int.toNat_natCast]
end Go.Proofs.YtiknkaadhomeiaaGreatDoor
namespace Go.Proofs.YtiknkaadhomeiaaGreatDoor
open Go.RowKit Go.Lib
set_option linter.unusedVariables false
set_option linter.unusedSimpArgs false
def dl:List UInt8→Nat
 | []=>0
 | c::r=>if isD c=true then dl r+1 else 0
theorem v_: ∀s:List UInt8,dl s≤s.length
 | []=>Nat.le_refl _
 | c::r=>by
  rw [dl]
  split
  ·have:=v_ r;simp only [List.length_cons];omega
  ·omega
theorem wa: ∀s:List UInt8,(s.take (dl s)).all isD=true
 | []=>rfl
 | c::r=>by
  rw [dl]
  split
  ·rename_i h;rw [List.take_succ_cons,List.all_cons,h,wa r];rfl
  ·rfl
theorem wb: ∀{d r:List UInt8},d.all isD=true→(∀c u,r=c::u→isD c=false)→dl (d++r)=d.length
 | [],r,_,h=>by
  rw [List.nil_append]
  cases r with
  | nil=>rfl
  | cons c u=>rw [dl,h c u rfl,if_neg (by decide)];rfl
 | c::d,r,hd,h=>by
  rw [List.all_cons,Bool.and_eq_true] at hd
  rw [List.cons_append,dl,if_pos hd.1,wb hd.2 h];rfl
def jL (p:ah) (k:Nat):Int×ah:=
 if k=0∨(1<k∧p.s.getD 0 0=48) then (0,⟨p.s.drop k,true⟩) else if (bG (p.s.take k)).2=true then ((bG (p.s.take k)).1,⟨p.s.drop k,p.bad⟩) else (0,⟨p.s.drop k,p.bad⟩)
theorem b48 {c:UInt8}:(((c.toNat:Int)==48)=true)↔c=48:=by
 constructor
 ·intro h
  have h1:(c.toNat:Int)=48:=by simpa using h
  exact UInt8.toNat.inj (show c.toNat=48 by omega)
 ·intro h;rw [h];rfl
theorem wc (p:ah):a7 p=jL p (dl p.s):=by
 have tail: ∀k:Nat,k≤p.s.length→(if ((k:Int)==0)=true then ((0,{s:=(p.s.drop (k:Int).toNat).take (p.s.length - (k:Int).toNat),bad:=true}):Int×ah) else (if (decide ((k:Int)>1))=true then (if ((((p.s.take (k:Int).toNat).getD 0 0).toNat:Int)==48)=true then (0,{s:=(p.s.drop (k:Int).toNat).take (p.s.length - (k:Int).toNat),bad:=true}) else (am (bG (p.s.take (k:Int).toNat)) (fun x=>if (!x.2)=true then (0,{s:=(p.s.drop (k:Int).toNat).take (p.s.length - (k:Int).toNat),bad:=p.bad}) else (x.1,{s:=(p.s.drop (k:Int).toNat).take (p.s.length - (k:Int).toNat),bad:=p.bad})))) else (am (bG (p.s.take (k:Int).toNat)) (fun x=>if (!x.2)=true then (0,{s:=(p.s.drop (k:Int).toNat).take (p.s.length - (k:Int).toNat),bad:=p.bad}) else (x.1,{s:=(p.s.drop (k:Int).toNat).take (p.s.length - (k:Int).toNat),bad:=p.bad})))))=jL p k:=by
  intro k hk
  have hd:(p.s.drop (k:Int).toNat).take (p.s.length - (k:Int).toNat)=p.s.drop k:=by
   rw [Int.toNat_natCast,List.take_of_length_le (by rw [List.length_drop];exact Nat.le_refl _)]
  rw [hd,Int.toNat_natCast,aP]
  unfold jL
  by_cases h0:k=0
  ·rw [if_pos (by simp [h0]),if_pos (.inl h0)]
  ·rw [if_neg (by simpa using h0)]
   have hfin:(if (!(bG (p.s.take k)).2)=true then ((0,{s:=p.s.drop k,bad:=p.bad}):Int×ah) else ((bG (p.s.take k)).1,{s:=p.s.drop k,bad:=p.bad}))=if (bG (p.s.take k)).2=true then ((bG (p.s.take k)).1,⟨p.s.drop k,p.bad⟩) else (0,⟨p.s.drop k,p.bad⟩):=by
    cases (bG (p.s.take k)).2<;>rfl
   by_cases h1:1<k
   ·rw [if_pos (by simp;omega)]
    have e:(p.s.take k).getD 0 0=p.s.getD 0 0:=by
     simp only [List.getD_eq_getElem?_getD,List.getElem?_take]
     rw [if_pos (by omega)]
    rw [e]
    by_cases h2:p.s.getD 0 0=48
    ·rw [if_pos (b48.2 h2),if_pos (.inr ⟨h1,h2⟩)]
    ·have hn: ¬(k=0∨(1<k∧p.s.getD 0 0=48)):=fun h=>h.elim h0 (fun h=>h2 h.2)
     rw [if_neg (fun h=>h2 (b48.1 h)),hfin,if_neg hn]
   ·have hn: ¬(k=0∨(1<k∧p.s.getD 0 0=48)):=fun h=>h.elim h0 (fun h=>h1 h.1)
    rw [if_neg (by simp;omega),hfin,if_neg hn]
 unfold a7
 have key: ∀(m k:Nat),p.s.length - k=m→k≤p.s.length→ ∀fuel,m<fuel→ ∀(F:(Int→Int×ah)→Int→Int×ah) (d:Int→Int×ah),
   (∀ag (k:Int),F ag k=if (decide (k<(p.s.length:Int)))=true then (if (decide (((p.s.getD k.toNat 0).toNat:Int)≥48))=true then (if (decide (((p.s.getD k.toNat 0).toNat:Int)≤57))=true then ag (k+1) else (if (k==0)=true then ((0,{s:=(p.s.drop k.toNat).take (p.s.length - k.toNat),bad:=true}):Int×ah) else (if (decide (k>1))=true then (if ((((p.s.take k.toNat).getD 0 0).toNat:Int)==48)=true then (0,{s:=(p.s.drop k.toNat).take (p.s.length - k.toNat),bad:=true}) else (am (bG (p.s.take k.toNat)) (fun x=>if (!x.2)=true then (0,{s:=(p.s.drop k.toNat).take (p.s.length - k.toNat),bad:=p.bad}) else (x.1,{s:=(p.s.drop k.toNat).take (p.s.length - k.toNat),bad:=p.bad})))) else (am (bG (p.s.take k.toNat)) (fun x=>if (!x.2)=true then (0,{s:=(p.s.drop k.toNat).take (p.s.length - k.toNat),bad:=p.bad}) else (x.1,{s:=(p.s.drop k.toNat).take (p.s.length - k.toNat),bad:=p.bad})))))) else (if (k==0)=true then ((0,{s:=(p.s.drop k.toNat).take (p.s.length - k.toNat),bad:=true}):Int×ah) else (if (decide (k>1))=true then (if ((((p.s.take k.toNat).getD 0 0).toNat:Int)==48)=true then (0,{s:=(p.s.drop k.toNat).take (p.s.length - k.toNat),bad:=true}) else (am (bG (p.s.take k.toNat)) (fun x=>if (!x.2)=true then (0,{s:=(p.s.drop k.toNat).take (p.s.length - k.toNat),bad:=p.bad}) else (x.1,{s:=(p.s.drop k.toNat).take (p.s.length - k.toNat),bad:=p.bad})))) else (am (bG (p.s.take k.toNat)) (fun x=>if (!x.2)=true then (0,{s:=(p.s.drop k.toNat).take (p.s.length - k.toNat),bad:=p.bad}) else (x.1,{s:=(p.s.drop k.toNat).take (p.s.length - k.toNat),bad:=p.bad})))))) else (if (k==0)=true then ((0,{s:=(p.s.drop k.toNat).take (p.s.length - k.toNat),bad:=true}):Int×ah) else (if (decide (k>1))=true then (if ((((p.s.take k.toNat).getD 0 0).toNat:Int)==48)=true then (0,{s:=(p.s.drop k.toNat).take (p.s.length - k.toNat),bad:=true}) else (am (bG (p.s.take k.toNat)) (fun x=>if (!x.2)=true then (0,{s:=(p.s.drop k.toNat).take (p.s.length - k.toNat),bad:=p.bad}) else (x.1,{s:=(p.s.drop k.toNat).take (p.s.length - k.toNat),bad:=p.bad})))) else (am (bG (p.s.take k.toNat)) (fun x=>if (!x.2)=true then (0,{s:=(p.s.drop k.toNat).take (p.s.length - k.toNat),bad:=p.bad}) else (x.1,{s:=(p.s.drop k.toNat).take (p.s.length - k.toNat),bad:=p.bad}))))))→
   ap fuel F d (k:Int)=jL p (k+dl (p.s.drop k)):=by
  intro m
  induction m with
  | zero=>
   intro k e1 e2 fuel hf F d hF
   obtain ⟨g,rfl⟩: ∃g,fuel=g+1:=⟨fuel - 1,by omega⟩
   rw [ap,hF,if_neg (by simp;omega),tail k e2,List.drop_of_length_le (by omega)];rfl
  | succ m ih=>
   intro k e1 e2 fuel hf F d hF
   obtain ⟨g,rfl⟩: ∃g,fuel=g+1:=⟨fuel - 1,by omega⟩
   have hk:k<p.s.length:=by omega
   have e:p.s.getD (k:Int).toNat 0=p.s[k]:=by simp [List.getD_eq_getElem?_getD,hk]
   rw [ap,hF,if_pos (by simp;omega),List.drop_eq_getElem_cons hk,dl,e]
   by_cases c1:(p.s[k].toNat:Int)≥48
   ·rw [if_pos (by simpa using c1)]
    by_cases c2:(p.s[k].toNat:Int)≤57
    ·rw [if_pos (by simpa using c2),if_pos (fZ.2 ⟨by omega,by omega⟩)]
     have:=ih (k+1) (by omega) (by omega) g (by omega) F d hF
     rw [show ((k:Int)+1)=((k+1:Nat):Int) by omega,this]
     congr 1;omega
    ·rw [if_neg (by simpa using c2),tail k e2,if_neg (fun h=>by rw [fZ] at h;omega)];rfl
   ·rw [if_neg (by simpa using c1),tail k e2,if_neg (fun h=>by rw [fZ] at h;omega)];rfl
 have h5:=key p.s.length 0 (by omega) (by omega) (((p.s.length:Int) - 0).toNat+1) (by omega) _ (fun _=>default) (fun ag k=>rfl)
 simpa using h5
theorem ES {x:Int} (hx:0≤x):(strconv_Itoa x).all isD=true:=by
 rw [rP hx];exact (v8 _).2.1
theorem rQ {x:Int} (hx:okX x) {r:List UInt8} (hr: ∀c u,r=c::u→isD c=false) (b:Bool):a7 ⟨strconv_Itoa x++r,b⟩=(x,⟨r,b⟩):=by
 have hg:=v8 x.toNat
 have hi:=rP (n:=x) (by have:=hx.1;omega)
 rw [wc]
 rw [show dl (strconv_Itoa x++r)=(strconv_Itoa x).length from wb (ES (by have:=hx.1;omega)) hr]
 unfold jL
 dsimp only
 have h0:(strconv_Itoa x).length≠0:=by rw [hi];intro h;exact hg.1 (List.length_eq_zero_iff.1 h)
 have hne:strconv_Itoa x≠[]:=fun h=>h0 (by rw [h];rfl)
 rw [if_neg (by
  rintro (h|h)
  ·exact h0 h
  ·rw [rO hne,hi] at h
   exact hg.2.2 h),List.take_left,List.drop_left,EM (by have:=hx.1;omega) hx.2,if_pos rfl]
theorem wd: ∀(l:List UInt8) (a u:Nat),parseUint10 a l= .ok u→u=l.foldl (fun a c=>a*10+(c.toNat - 48)) a
 | [],a,u,h=>by
  simp only [parseUint10] at h
  injection h with h
  exact h.symm
 | c::l,a,u,h=>by
  simp only [parseUint10] at h
  split at h
  ·split at h
   ·cases h
   ·split at h
    ·cases h
    ·exact wd l _ u h
  ·cases h
theorem EU {d:List UInt8} (hd:d.all isD=true) (hne:d≠[]) {v:Int} (h:bG d=(v,true)):v=(nv d:Int):=by
 unfold bG at h
 cases d with
 | nil=>exact absurd rfl hne
 | cons c r=>
  rw [List.all_cons,Bool.and_eq_true,fZ] at hd
  have hc:=hd.1
  unfold atoiAll at h
  simp only [if_neg (show¬(c.toNat=43∨c.toNat=45) by omega)] at h
  unfold parseMag at h
  rw [if_neg (by simp)] at h
  cases hp:parseUint10 0 (c::r) with
  | ok u=>
   rw [hp] at h
   simp only at h
   have hu:=wd _ _ _ hp
   by_cases g1: ¬(c.toNat=45)∧9223372036854775808≤u
   ·rw [if_pos g1] at h;cases h
   ·rw [if_neg g1,if_neg (by omega),if_neg (by omega)] at h
    have:v=(u:Int):=by injection h with h _;exact h.symm
    rw [this,hu];rfl
  | _=>rw [hp] at h;cases h
theorem rR {p q:ah} {v:Int} (h:a7 p=(v,q)) (hb:q.bad=false) (hv:1≤v):p.bad=false∧p.s=strconv_Itoa v++q.s:=by
 rw [wc] at h
 unfold jL at h
 by_cases c0:dl p.s=0∨(1<dl p.s∧p.s.getD 0 0=48)
 ·rw [if_pos c0] at h
  have:q.bad=true:=by injection h with _ h;rw [←h]
  rw [hb] at this;cases this
 ·rw [if_neg c0] at h
  by_cases c1:(bG (p.s.take (dl p.s))).2=true
  ·rw [if_pos c1] at h
   injection h with h1 h2
   have hq:q.s=p.s.drop (dl p.s)∧q.bad=p.bad:=by rw [←h2];exact ⟨rfl,rfl⟩
   have hn:dl p.s≠0:=fun e=>c0 (.inl e)
   have hle:=v_ p.s
   have hlen:(p.s.take (dl p.s)).length=dl p.s:=by rw [List.length_take];omega
   have hne:p.s.take (dl p.s)≠[]:=fun e=>hn (by rw [←hlen,e];rfl)
   have hall:=wa p.s
   have hval:=EU hall hne (v:=v) (by rw [←h1,←c1])
   have hgd:gd (p.s.take (dl p.s)):=by
    refine ⟨hne,hall,fun e=>c0 (.inr ?_)⟩
    rw [hlen] at e
    refine ⟨e.1,?_⟩
    have h5:=e.2
    simp only [List.getD_eq_getElem?_getD,List.getElem?_take] at h5⊢
    rw [if_pos (by omega)] at h5
    exact h5
   have hdec:=EQ hgd
   refine ⟨hq.2.symm.trans hb,?_⟩
   rw [rP (by omega),hval,Int.toNat_natCast,hdec,hq.1,List.take_append_drop]
  ·rw [if_neg c1] at h
   injection h with h1 _
   omega
end Go.Proofs.YtiknkaadhomeiaaGreatDoor
namespace Go.Proofs.YtiknkaadhomeiaaGreatDoor
open Go.RowKit Go.Lib
set_option linter.unusedVariables false
set_option linter.unusedSimpArgs false
theorem jM {t s:List UInt8} {b:Bool}:ar ⟨t++s,b⟩ t=(true,⟨s,b⟩):=by
 rw [iE,if_pos (List.isPrefixOf_iff_prefix.2 ⟨s,rfl⟩)]
 simp
theorem jN {c:UInt8} {t s:List UInt8} {b:Bool} (h: ∀u,s≠c::u):ar ⟨s,b⟩ (c::t)=(false,⟨s,b⟩):=by
 rw [iE,if_neg]
 intro hp
 obtain ⟨u,e⟩:=List.isPrefixOf_iff_prefix.1 hp
 exact h (t++u) e.symm
theorem nU {t s:List UInt8} {b:Bool}:a6 ⟨t++s,b⟩ t=⟨s,b⟩:=by
 rw [ru,if_pos (List.isPrefixOf_iff_prefix.2 ⟨s,rfl⟩)]
 simp
theorem jO {p:ah} {t:List UInt8} (h:(ar p t).1=true):p.s=t++(ar p t).2.s∧(ar p t).2.bad=p.bad:=by
 rw [iE] at h⊢
 split
 ·rename_i hp
  obtain ⟨u,e⟩:=List.isPrefixOf_iff_prefix.1 hp
  refine ⟨?_,rfl⟩
  rw [←e];simp
 ·rename_i hp;rw [if_neg hp] at h;cases h
theorem lC {p:ah} {t:List UInt8} (h:(ar p t).1=false):(ar p t).2=p:=by
 rw [iE] at h⊢
 split
 ·rename_i hp;rw [if_pos hp] at h;cases h
 ·rfl
theorem nV {p:ah} {t:List UInt8} (h:(a6 p t).bad=false):p.s=t++(a6 p t).s∧p.bad=false:=by
 rw [ru] at h⊢
 split
 ·rename_i hp
  obtain ⟨u,e⟩:=List.isPrefixOf_iff_prefix.1 hp
  rw [if_pos hp] at h
  refine ⟨?_,h⟩
  rw [←e];simp
 ·rename_i hp;rw [if_neg hp] at h;cases h
def dI:Nat→ah→List Int→ah×List Int
 | 0,_,_=>default
 | n+1,q,row=>if q.bad=false then (if (ar q [32]).1=true then dI n (a7 (ar q [32]).2).2 (row++[(a7 (ar q [32]).2).1]) else ((ar q [32]).2,row)) else (q,row)
def fz:Nat→ah→List Int→List (List Int)→aL×ah
 | 0,_,_,_=>default
 | n+1,q,Y,B=>
  let x:=a7 q
  let x2:=a7 (a6 (a6 x.2 [32,61]) [32])
  let w:=dI (x2.2.s.length+1) x2.2 [x2.1]
  if w.1.bad=true then (⟨Y++[x.1],B++[w.2]⟩,⟨w.1.s,true⟩) else
   let t:=ar w.1 [93]
   if t.1=true then (⟨Y++[x.1],B++[w.2]⟩,t.2) else fz n (a6 t.2 [44,32]) (Y++[x.1]) (B++[w.2])
theorem EV {q:ah} {b:Bool} (h:q.bad=b):(⟨q.s,b⟩:ah)=q:=by rw [←h]
theorem we (p:ah):cU p=fz (p.s.length+1) p [] []:=by
 unfold cU
 have key: ∀(n:Nat) (q:ah) (z:aL) (Y:List Int) (B:List (List Int)) (F:(ah×aL×List Int×List (List Int)→aL×ah)→ah×aL×List Int×List (List Int)→aL×ah),
   (∀ag p1,F ag p1=let x:=a7 p1.1
    let x2:=a7 (a6 (a6 x.2 [32,61]) [32])
    let w:=dI (x2.2.s.length+1) x2.2 [x2.1]
    if w.1.bad=true then (⟨p1.2.2.1++[x.1],p1.2.2.2++[w.2]⟩,⟨w.1.s,true⟩) else
     let t:=ar w.1 [93]
     if t.1=true then (⟨p1.2.2.1++[x.1],p1.2.2.2++[w.2]⟩,t.2) else ag (a6 t.2 [44,32],p1.2.1,p1.2.2.1++[x.1],p1.2.2.2++[w.2]))→
   ap n F (fun _=>default) (q,z,Y,B)=fz n q Y B:=by
  intro n
  induction n with
  | zero=>intro q z Y B F hF;rfl
  | succ n ih=>
   intro q z Y B F hF
   rw [ap,hF,fz]
   dsimp only
   split
   ·rfl
   ·split
    ·rfl
    ·exact ih _ _ _ _ F hF
 refine key _ p cC [] [] _ (fun ag p1=> ?_)
 dsimp only
 rw [aP,aP,aP,aP]
 have inner: ∀(n:Nat) (q:ah) (row:List Int),q.s.length<n→ ∀(E:ah×List Int→aL×ah) (F:(ah×List Int→aL×ah)→ah×List Int→aL×ah),
   (∀ag z,F ag z=if (!z.1.bad)=true then (if (ar z.1 [32]).1=true then ag ((a7 (ar z.1 [32]).2).2,z.2++[(a7 (ar z.1 [32]).2).1]) else E ((ar z.1 [32]).2,z.2)) else E z)→
   ap n F (fun _=>default) (q,row)=E (dI n q row):=by
  intro n
  induction n with
  | zero=>intro q row h;exact absurd h (Nat.not_lt_zero _)
  | succ n ih=>
   intro q row h E F hF
   rw [ap,hF,dI]
   cases hb:q.bad with
   | true=>rw [if_neg (by decide),if_neg (by decide)]
   | false=>
    rw [if_pos (show (!false)=true from rfl),if_pos rfl]
    dsimp only
    by_cases ht:(ar q [32]).1=true
    ·rw [if_pos ht,if_pos ht]
     have t1:=de (x:=ar q [32]) rfl (by decide) ht
     have n1:=fY (x:=a7 (ar q [32]).2) rfl
     exact ih _ _ (by have:=n1.1;omega) E F hF
    ·rw [if_neg ht,if_neg ht]
 refine (inner _ _ _ (Nat.lt_succ_self _) (fun w=>if w.1.bad=true then ((⟨p1.2.2.1++[(a7 p1.1).1],p1.2.2.2++[w.2]⟩:aL),(⟨w.1.s,true⟩:ah)) else if (ar w.1 [93]).1=true then (⟨p1.2.2.1++[(a7 p1.1).1],p1.2.2.2++[w.2]⟩,(ar w.1 [93]).2) else ag (a6 (ar w.1 [93]).2 [44,32],p1.2.1,p1.2.2.1++[(a7 p1.1).1],p1.2.2.2++[w.2])) _ (fun ag13 z=> ?_)).trans rfl
 dsimp only
 have tl: ∀(w:ah) (row:List Int),(if w.bad=true then ((⟨p1.2.2.1++[(a7 p1.1).1],p1.2.2.2++[row]⟩:aL),(⟨w.s,true⟩:ah)) else am (ar ⟨w.s,false⟩ [93]) (fun x27=>if x27.1=true then (⟨p1.2.2.1++[(a7 p1.1).1],p1.2.2.2++[row]⟩,x27.2) else am (a6 x27.2 [44,32]) (fun x33=>ag (x33,p1.2.1,p1.2.2.1++[(a7 p1.1).1],p1.2.2.2++[row]))))=
   if w.bad=true then ((⟨p1.2.2.1++[(a7 p1.1).1],p1.2.2.2++[row]⟩:aL),(⟨w.s,true⟩:ah)) else if (ar w [93]).1=true then (⟨p1.2.2.1++[(a7 p1.1).1],p1.2.2.2++[row]⟩,(ar w [93]).2) else ag (a6 (ar w [93]).2 [44,32],p1.2.1,p1.2.2.1++[(a7 p1.1).1],p1.2.2.2++[row]):=by
  intro w row
  by_cases hb:w.bad=true
  ·rw [if_pos hb,if_pos hb]
  ·rw [if_neg hb,if_neg hb,EV (by simpa using hb),aP]
   split
   ·rfl
   ·rw [aP]
 split
 ·rw [aP]
  split
  ·rw [aP]
  ·exact tl _ _
 ·exact tl _ _
theorem nW (a:List UInt8) (s:List UInt8):Lib.join [a] s=a:=by simp [Lib.join_cons,Lib.joinTail]
theorem jP (a b:List UInt8) (l:List (List UInt8)) (s:List UInt8):Lib.join (a::b::l) s=a++(s++Lib.join (b::l) s):=by
 simp [Lib.join_cons,Lib.joinTail,List.append_assoc]
theorem rS:isD 32=false:=by decide
theorem wg: ∀(row:List Int) (n:Nat) (pre:List Int) (r:List UInt8),(∀x∈row,okX x)→(∀c u,r=c::u→isD c=false)→(∀u,r≠32::u)→row.length<n→dI n ⟨cE row++r,false⟩ pre=(⟨r,false⟩,pre++row)
 | [],n,pre,r,_,h1,h2,hn=>by
  obtain ⟨m,rfl⟩: ∃m,n=m+1:=⟨n - 1,by simp at hn;omega⟩
  rw [dI,if_pos rfl]
  have e:cE []++r=r:=rfl
  rw [e,jN h2,if_neg (by simp),List.append_nil]
 | x::row,n,pre,r,h0,h1,h2,hn=>by
  obtain ⟨m,rfl⟩: ∃m,n=m+1:=⟨n - 1,by simp at hn;omega⟩
  have e:cE (x::row)++r=[32]++(strconv_Itoa x++(cE row++r)):=by simp [cE]
  have hd: ∀c u,cE row++r=c::u→isD c=false:=by
   intro c u hcu
   cases row with
   | nil=>exact h1 c u hcu
   | cons y row=>
    have:c=32:=by simp [cE] at hcu;exact hcu.1.symm
    rw [this];exact rS
  rw [dI,if_pos rfl,e,jM,if_pos rfl,rQ (h0 x (by simp)) hd]
  rw [wg row m (pre++[x]) r (fun y hy=>h0 y (by simp [hy])) h1 h2 (by simp at hn;omega),List.append_assoc]
  rfl
theorem wh: ∀(Y:List Int) (B:List (List Int)) (n:Nat) (Y0:List Int) (B0:List (List Int)) (r:List UInt8),Y≠[]→B.length=Y.length→(∀x∈Y,okX x)→(∀row∈B,1≤row.length∧ ∀x∈row,okX x)→Y.length≤n→
  fz n ⟨Lib.join (eqs Y B) [44,32]++(93::r),false⟩ Y0 B0=(⟨Y0++Y,B0++B⟩,⟨r,false⟩)
 | [],B,n,Y0,B0,r,h0,_,_,_,_=>absurd rfl h0
 | y::Y,[],n,Y0,B0,r,_,hl,_,_,_=>by simp at hl
 | y::Y,row::B,n,Y0,B0,r,_,hl,hy,hb,hn=>by
  obtain ⟨m,rfl⟩: ∃m,n=m+1:=⟨n - 1,by simp at hn;omega⟩
  obtain ⟨b,row',rfl⟩: ∃b row',row=b::row':=by
   have:=(hb row (by simp)).1
   cases row with
   | nil=>simp at this
   | cons b row'=>exact ⟨b,row',rfl⟩
  have hrow:=(hb (b::row') (by simp)).2
  -- what stands behind the row
  have main: ∀(tl:List UInt8),(∀c u,tl=c::u→isD c=false)→(∀u,tl≠32::u)→
    fz (m+1) ⟨eqT y (b::row')++tl,false⟩ Y0 B0=
     if (ar ⟨tl,false⟩ [93]).1=true then ((⟨Y0++[y],B0++[b::row']⟩:aL),(ar ⟨tl,false⟩ [93]).2) else fz m (a6 (ar ⟨tl,false⟩ [93]).2 [44,32]) (Y0++[y]) (B0++[b::row']):=by
   intro tl h1 h2
   have e:eqT y (b::row')++tl=strconv_Itoa y++([32,61]++([32]++(strconv_Itoa b++(cE row'++tl)))):=by simp [eqT,cE]
   have hd: ∀c u,cE row'++tl=c::u→isD c=false:=by
    intro c u hcu
    cases row' with
    | nil=>exact h1 c u hcu
    | cons z row2=>
     have:c=32:=by simp [cE] at hcu;exact hcu.1.symm
     rw [this];exact rS
   rw [fz,e,rQ (hy y (by simp)) (by intro c u h;(have:c=32:=by simp at h;exact h.1.symm);rw [this];exact rS)]
   dsimp only
   rw [nU,nU,rQ (hrow b (by simp)) hd]
   dsimp only
   rw [wg row' _ [b] tl (fun x hx=>hrow x (by simp [hx])) h1 h2 (by
    have: ∀l:List Int,l.length≤(cE l).length:=by
     intro l
     induction l with
     | nil=>exact Nat.le_refl _
     | cons a l ih=>simp only [cE,List.flatMap_cons,List.length_append,List.length_cons] at ih⊢;omega
    have:=this row'
    rw [List.length_append];omega)]
   dsimp only
   rw [if_neg (by decide)]
   rfl
  cases Y with
  | nil=>
   have hB:B=[]:=by simp at hl;exact hl
   subst hB
   have e:Lib.join (eqs [y] [b::row']) [44,32]=eqT y (b::row'):=nW _ _
   rw [e,main (93::r) (by intro c u h;(have:c=93:=by injection h with h _;exact h.symm);rw [this];decide) (by intro u h;injection h with h _;exact absurd h (by decide))]
   rw [show (93::r:List UInt8)=[93]++r from rfl,jM,if_pos rfl]
  | cons y2 Y=>
   have e:Lib.join (eqs (y::y2::Y) ((b::row')::B)) [44,32]++93::r=eqT y (b::row')++([44,32]++(Lib.join (eqs (y2::Y) B) [44,32]++93::r)):=by
    have:eqs (y::y2::Y) ((b::row')::B)=eqT y (b::row')::eqs (y2::Y) B:=rfl
    rw [this]
    have h2: ∃a l,eqs (y2::Y) B=a::l:=⟨_,_,rfl⟩
    obtain ⟨a,l,h2⟩:=h2
    rw [h2,jP]
    simp
   rw [e,main _ (by intro c u h;(have:c=44:=by injection h with h _;exact h.symm);rw [this];decide) (by intro u h;injection h with h _;exact absurd h (by decide))]
   rw [jN (by intro u h;injection h with h _;exact absurd h (by decide)),if_neg (by simp)]
   dsimp only
   rw [nU,wh (y2::Y) B m (Y0++[y]) (B0++[b::row']) r (by simp) (by simp at hl⊢;omega) (fun x hx=>hy x (by simp [hx])) (fun w hw=>hb w (by simp [hw])) (by simp at hn⊢;omega)]
   simp
theorem EW {r:aL} (h:okA r) (rest:List UInt8):cU ⟨Lib.join (eqs r.Y r.Bases) [44,32]++(93::rest),false⟩=(r,⟨rest,false⟩):=by
 obtain ⟨h1,h2,h3,h4,n,h5,h6,h7⟩:=h
 rw [we,wh r.Y r.Bases _ [] [] rest (by intro e;rw [e] at h1;simp at h1) h3 h4 (fun row hr=>⟨by have:=(h7 row hr).1;omega,(h7 row hr).2⟩) ?_]
 ·rfl
 ·have: ∀(Y:List Int) (B:List (List Int)),Y.length≤(Lib.join (eqs Y B) [44,32]).length+1:=by
   intro Y
   induction Y with
   | nil=>intro B;simp
   | cons y Y ih=>
    intro B
    cases Y with
    | nil=>simp
    | cons y2 Y=>
     have e:eqs (y::y2::Y) B=eqT y (gt B 0)::eqs (y2::Y) (B.drop 1):=rfl
     have h2: ∃a l,eqs (y2::Y) (B.drop 1)=a::l:=⟨_,_,rfl⟩
     have:=ih (B.drop 1)
     obtain ⟨a,l,h2⟩:=h2
     rw [e,h2,jP]
     rw [h2] at this
     simp only [List.length_append,List.length_cons,List.length_nil] at this⊢
     omega
  have:=this r.Y r.Bases
  simp only [List.length_append,List.length_cons]
  omega
theorem wi: ∀(n:Nat) (q q':ah) (pre row:List Int),q.s.length<n→dI n q pre=(q',row)→q'.bad=false→(∀x∈row,1≤x)→q.bad=false∧ ∃r2,row=pre++r2∧q.s=cE r2++q'.s
 | 0,q,q',pre,row,hn,_,_,_=>absurd hn (Nat.not_lt_zero _)
 | n+1,q,q',pre,row,hn,h,hb,hx=>by
  rw [dI] at h
  cases hq:q.bad with
  | true=>
   rw [hq,if_neg (by decide)] at h
   injection h with h1 _
   rw [h1] at hq;rw [hq] at hb;cases hb
  | false=>
   rw [hq,if_pos rfl] at h
   refine ⟨rfl,?_⟩
   by_cases ht:(ar q [32]).1=true
   ·rw [if_pos ht] at h
    have t1:=de (x:=ar q [32]) rfl (by decide) ht
    have t2:=jO ht
    have n1:=fY (x:=a7 (ar q [32]).2) rfl
    have ih:=wi n _ q' _ row (by have:=n1.1;omega) h hb hx
    obtain ⟨b1,r2,e1,e2⟩:=ih
    generalize hv:a7 (ar q [32]).2=w at b1 e1 e2
    obtain ⟨v,z⟩:=w
    have h3:=rR hv b1 (hx v (by rw [e1];simp))
    refine ⟨v::r2,by rw [e1];simp,?_⟩
    rw [t2.1,h3.2]
    dsimp only at e2
    rw [e2]
    simp [cE]
   ·rw [if_neg ht] at h
    injection h with h1 h2
    have t2:=lC (p:=q) (t:=[32]) (by simpa using ht)
    refine ⟨[],by rw [←h2,List.append_nil],?_⟩
    rw [←h1,t2];rfl
theorem EX: ∀{n:Nat} {q q':ah} {pre row:List Int},dI (q.s.length+1+n) q pre=(q',row)→q'.s.length≤q.s.length∧bd q.bad≤bd q'.bad:=by
 have key: ∀(m:Nat) (q q':ah) (pre row:List Int),q.s.length<m→dI m q pre=(q',row)→q'.s.length≤q.s.length∧bd q.bad≤bd q'.bad:=by
  intro m
  induction m with
  | zero=>intro q q' pre row h;exact absurd h (Nat.not_lt_zero _)
  | succ m ih=>
   intro q q' pre row hm h
   rw [dI] at h
   cases hq:q.bad with
   | true=>
    rw [hq,if_neg (by decide)] at h
    injection h with h1 _
    rw [←h1];exact ⟨Nat.le_refl _,by rw [hq];exact Nat.le_refl _⟩
   | false=>
    rw [hq,if_pos rfl] at h
    have hb0:bd false=0:=rfl
    have t0:=cV (x:=ar q [32]) rfl
    by_cases ht:(ar q [32]).1=true
    ·rw [if_pos ht] at h
     have t1:=de (x:=ar q [32]) rfl (by decide) ht
     have n1:=fY (x:=a7 (ar q [32]).2) rfl
     have:=ih _ _ _ _ (by have:=n1.1;omega) h
     exact ⟨by have:=n1.1;omega,by rw [hb0];exact Nat.zero_le _⟩
    ·rw [if_neg ht] at h
     injection h with h1 _
     rw [←h1];exact ⟨t0.1,by rw [hb0];exact Nat.zero_le _⟩
 intro n q q' pre row h
 exact key _ q q' pre row (by omega) h
theorem EY {y:Int} {row:List Int} {Y:List Int} {B:List (List Int)}:eqs (y::Y) (row::B)=eqT y row::eqs Y B:=rfl
theorem wj: ∀(n:Nat) (q q':ah) (Y0:List Int) (B0:List (List Int)) (r:aL),q.s.length<n→fz n q Y0 B0=(r,q')→q'.bad=false→(∀x∈r.Y,1≤x)→(∀row∈r.Bases,∀x∈row,1≤x)→
  q.bad=false∧ ∃Y B,Y≠[]∧B.length=Y.length∧r=⟨Y0++Y,B0++B⟩∧q.s=Lib.join (eqs Y B) [44,32]++(93::q'.s)
 | 0,q,q',Y0,B0,r,hn,_,_,_,_=>absurd hn (Nat.not_lt_zero _)
 | n+1,q,q',Y0,B0,r,hn,h,hb,hY,hB=>by
  rw [fz] at h
  generalize hx:a7 q=x at h
  obtain ⟨y,q1⟩:=x
  dsimp only at h
  generalize hx2:a7 (a6 (a6 q1 [32,61]) [32])=x2 at h
  obtain ⟨b,q2⟩:=x2
  dsimp only at h
  generalize hw:dI (q2.s.length+1) q2 [b]=w at h
  obtain ⟨q3,row⟩:=w
  dsimp only at h
  have a1:pF q1 q:=by
   have:=fY (x:=a7 q) rfl
   rw [hx] at this;exact this
  have a2:=dG (x:=a6 q1 [32,61]) rfl
  have a3:=dG (x:=a6 (a6 q1 [32,61]) [32]) rfl
  have a4:pF q2 (a6 (a6 q1 [32,61]) [32]):=by
   have:=fY (x:=a7 (a6 (a6 q1 [32,61]) [32])) rfl
   rw [hx2] at this;exact this
  by_cases hb3:q3.bad=true
  ·rw [if_pos hb3] at h
   injection h with _ h2
   rw [←h2] at hb;cases hb
  ·rw [if_neg hb3] at h
   have hb3':q3.bad=false:=by simpa using hb3
   -- the equation that was read
   have eqn:y∈r.Y→row∈r.Bases→q.bad=false∧q.s=eqT y row++q3.s:=by
    intro m1 m2
    have r1:=wi _ _ q3 _ row (Nat.lt_succ_self _) hw hb3' (hB row m2)
    obtain ⟨c1,r2,e1,e2⟩:=r1
    have n2:=rR hx2 c1 (hB row m2 b (by rw [e1];simp))
    have d1:=nV n2.1
    have d2:=nV d1.2
    have n3:=rR hx d2.2 (hY y m1)
    refine ⟨n3.1,?_⟩
    rw [n3.2,d2.1,d1.1,n2.2,e2,e1]
    simp [eqT,cE]
   by_cases ht:(ar q3 [93]).1=true
   ·rw [if_pos ht] at h
    injection h with h1 h2
    have t2:=jO ht
    have m:=eqn (by rw [←h1];simp) (by rw [←h1];simp)
    refine ⟨m.1,[y],[row],by simp,rfl,h1.symm,?_⟩
    rw [m.2,t2.1,h2,show eqs [y] [row]=[eqT y row] from rfl,nW]
    rfl
   ·rw [if_neg ht] at h
    have t2:=lC (p:=q3) (t:=[93]) (by simpa using ht)
    rw [t2] at h
    have nd:=dG (x:=a6 q3 [44,32]) rfl
    have rl:=EX (n:=0) hw
    have hb30:bd q3.bad=0:=by rw [hb3'];rfl
    have ih:=wj n _ q' _ _ r (by
     have:=a1.2.1;have:=a1.2.2;have:=a4.1;have:=a4.2.1;have:=a4.2.2;have:=a2.1;have:=a2.2;have:=a3.1;have:=a3.2;have:=a1.1
     omega) h hb hY hB
    obtain ⟨c1,Y,B,g1,g2,g3,g4⟩:=ih
    have d:=nV c1
    have m:=eqn (by rw [g3];simp) (by rw [g3];simp)
    refine ⟨m.1,y::Y,row::B,by simp,by simp [g2],by rw [g3];simp,?_⟩
    rw [m.2,d.1,g4,EY]
    obtain ⟨y2,Y2,rfl⟩: ∃y2 Y2,Y=y2::Y2:=by
     cases Y with
     | nil=>exact absurd rfl g1
     | cons y2 Y2=>exact ⟨y2,Y2,rfl⟩
    have h2: ∃a l,eqs (y2::Y2) B=a::l:=⟨_,_,rfl⟩
    obtain ⟨a,l,h2⟩:=h2
    rw [h2,jP]
    simp
theorem EZ {p q:ah} {r:aL} (h:cU p=(r,q)) (hb:q.bad=false) (hY: ∀x∈r.Y,1≤x) (hB: ∀row∈r.Bases,∀x∈row,1≤x):p.bad=false∧p.s=Lib.join (eqs r.Y r.Bases) [44,32]++(93::q.s):=by
 rw [we] at h
 obtain ⟨c,Y,B,_,_,e,g⟩:=wj _ p q [] [] r (Nat.lt_succ_self _) h hb hY hB
 refine ⟨c,?_⟩
 rw [g,e];rfl
end Go.Proofs.YtiknkaadhomeiaaGreatDoor
namespace Go.Proofs.YtiknkaadhomeiaaGreatDoor
open Go.RowKit Go.Lib
set_option linter.unusedVariables false
set_option linter.unusedSimpArgs false
theorem rT {G:ab→Bool}: ∀{l:List ab},dH G l→ ∀f∈l,cW G f
 | g::l,h,f,hf=>by
  rw [dH] at h
  rcases List.mem_cons.1 hf with e|hf
  ·rw [e];exact h.1
  ·exact rT h.2 f hf
theorem wk {f:ab} (h:cW bB f):rH f∧dH bB f.L:=by
 obtain ⟨k,r,l⟩:=f
 rw [cW] at h
 exact ⟨rI h.1,h.2⟩
theorem E0 {r:aL} (h1:r.Y=[]) (h2:r.Bases=[]):r=cC:=by
 obtain ⟨Y,B⟩:=r
 simp only at h1 h2
 rw [h1,h2];rfl
theorem wm (r:aL) (l:List ab):be ⟨1,r,l⟩=[91]++(Lib.join (eqs r.Y r.Bases) [44,32]++[93]):=by
 rw [be,if_pos rfl,vL,List.append_assoc];rfl
theorem wn (r:aL) (l:List ab):be ⟨2,r,l⟩=[97,110,100,40]++(Lib.join (bH l) [44,32]++[41]):=by
 rw [be,if_neg (by decide),if_neg (by decide),List.append_assoc];rfl
theorem wo (r:aL) (l:List ab):be ⟨3,r,l⟩=[111,114,40]++(Lib.join (bH l) [44,32]++[41]):=by
 rw [be,if_neg (by decide),if_pos rfl,List.append_assoc];rfl
theorem rU {R:ah→ab×ah} {k:Int}: ∀(l:List ab) (n:Nat) (L:List ab) (r:List UInt8),l≠[]→(∀f∈l,∀rest,R ⟨be f++rest,false⟩=(f,⟨rest,false⟩))→l.length≤n→
  db R k n ⟨Lib.join (bH l) [44,32]++(41::r),false⟩ L=(⟨k,cC,L++l⟩,⟨r,false⟩)
 | [],n,L,r,h,_,_=>absurd rfl h
 | f::l,n,L,r,_,hR,hn=>by
  obtain ⟨m,rfl⟩: ∃m,n=m+1:=⟨n - 1,by simp at hn;omega⟩
  cases l with
  | nil=>
   rw [show bH [f]=[be f] from rfl,nW,db,hR f (by simp)]
   dsimp only
   rw [if_neg (by decide),show (41::r:List UInt8)=[41]++r from rfl,jM,if_pos rfl]
  | cons f2 l=>
   have e:Lib.join (bH (f::f2::l)) [44,32]++41::r=be f++([44,32]++(Lib.join (bH (f2::l)) [44,32]++41::r)):=by
    rw [show bH (f::f2::l)=be f::be f2::bH l from rfl,jP]
    simp [bH]
   rw [e,db,hR f (by simp)]
   dsimp only
   rw [if_neg (by decide),jN (by intro u h;injection h with h _;exact absurd h (by decide)),if_neg (by simp)]
   dsimp only
   rw [nU,rU (f2::l) m (L++[f]) r (by simp) (fun g hg=>hR g (by simp only [List.mem_cons] at hg⊢;exact .inr hg)) (by simp at hn⊢;omega),List.append_assoc]
   rfl
theorem rW: ∀l:List ab,l.length≤(Lib.join (bH l) [44,32]).length+1
 | []=>by simp
 | [f]=>by simp
 | f::f2::l=>by
  have:=rW (f2::l)
  rw [show bH (f::f2::l)=be f::be f2::bH l from rfl,jP]
  rw [show bH (f2::l)=be f2::bH l from rfl] at this
  simp only [List.length_append,List.length_cons,List.length_nil] at this⊢
  omega
mutual
theorem wp: ∀(f:ab),cW bB f→ ∀rest,bm ⟨be f++rest,false⟩=(f,⟨rest,false⟩)
 | ⟨k,r,l⟩,h,rest=>by
  have hn:=wk h
  have hl:dH bB l:=hn.2
  rw [←rF]
  rcases hn.1 with ⟨h1,h2,h3⟩|⟨h1,h2,h3,h4,h5⟩
  ·have h1:k=1:=h1
   have h2:l=[]:=h2
   subst h1;subst h2
   rw [wm,List.append_assoc,List.append_assoc]
   unfold dV
   rw [jM,if_pos rfl,show [93]++rest=93::rest from rfl,EW h3 rest]
  ·have hr:r=cC:=E0 h4 h5
   have hl1:l≠[]:=by
    intro e
    have h2:1≤l.length:=h2
    rw [e] at h2;simp at h2
   have hR:=wt l hl
   rcases h1 with h1|h1
   ·have h1:k=2:=h1
    subst h1
    rw [wn,List.append_assoc,List.append_assoc]
    unfold dV
    rw [jN (c:=91) (t:=[]) (by intro u h;injection h with h _;exact absurd h (by decide)),if_neg (by simp)]
    dsimp only
    rw [jM,if_pos rfl]
    dsimp only
    rw [show [41]++rest=41::rest from rfl,rU l _ [] rest hl1 hR (by have:=rW l;simp only [List.length_append,List.length_cons];omega),hr]
    rfl
   ·have h1:k=3:=h1
    subst h1
    rw [wo,List.append_assoc,List.append_assoc]
    unfold dV
    rw [jN (c:=91) (t:=[]) (by intro u h;injection h with h _;exact absurd h (by decide)),if_neg (by simp)]
    dsimp only
    rw [jN (c:=97) (t:=[110,100,40]) (by intro u h;injection h with h _;exact absurd h (by decide)),if_neg (by simp)]
    dsimp only
    rw [jM,if_pos rfl]
    dsimp only
    rw [show [41]++rest=41::rest from rfl,rU l _ [] rest hl1 hR (by have:=rW l;simp only [List.length_append,List.length_cons];omega),hr]
    rfl
theorem wt: ∀(l:List ab),dH bB l→ ∀f∈l,∀rest,bm ⟨be f++rest,false⟩=(f,⟨rest,false⟩)
 | [],_,f,hf,_=>by cases hf
 | g::l,h,f,hf,rest=>by
  rw [dH] at h
  rcases List.mem_cons.1 hf with e|hf
  ·rw [e];exact wp g h.1 rest
  ·exact wt l h.2 f hf rest
end
theorem rX {R:ah→ab×ah} {k:Int} {m:Nat} (hF: ∀q,q.s.length<m→pF (R q).2 q)
  (hR: ∀p q x,p.s.length<m→R p=(x,q)→q.bad=false→cW bB x→p.bad=false∧p.s=be x++q.s):
  ∀(n:Nat) (p q:ah) (L:List ab) (x:ab),p.s.length<n→p.s.length<m→db R k n p L=(x,q)→q.bad=false→dH bB x.L→
   p.bad=false∧ ∃l,l≠[]∧x=⟨k,cC,L++l⟩∧p.s=Lib.join (bH l) [44,32]++(41::q.s)
 | 0,p,q,L,x,hn,_,_,_,_=>absurd hn (Nat.not_lt_zero _)
 | n+1,p,q,L,x,hn,hm,h,hb,hx=>by
  rw [db] at h
  generalize hy:R p=y at h
  obtain ⟨f,p1⟩:=y
  dsimp only at h
  have hf:pF p1 p:=by
   have:=hF p hm
   rw [hy] at this;exact this
  by_cases h1:p1.bad=true
  ·rw [if_pos h1] at h
   injection h with _ h2
   rw [←h2,h1] at hb;cases hb
  ·rw [if_neg h1] at h
   have h1':p1.bad=false:=by simpa using h1
   have hb0:bd p1.bad=0:=by rw [h1'];rfl
   have fin:cW bB f→p.bad=false∧p.s=be f++p1.s:=fun hf=>hR p p1 f hm hy h1' hf
   by_cases ht:(ar p1 [41]).1=true
   ·rw [if_pos ht] at h
    injection h with e1 e2
    have ty:=jO ht
    have ha:cW bB f:=rT hx f (by rw [←e1];simp)
    have g:=fin ha
    refine ⟨g.1,[f],by simp,e1.symm,?_⟩
    rw [g.2,ty.1,e2,show bH [f]=[be f] from rfl,nW]
    rfl
   ·rw [if_neg ht] at h
    have tn:=lC (p:=p1) (t:=[41]) (by simpa using ht)
    rw [tn] at h
    have nd:=dG (x:=a6 p1 [44,32]) rfl
    have ih:=rX hF hR n _ q _ x (by have:=hf.2.1;omega) (by have:=hf.1;omega) h hb hx
    obtain ⟨c,l,g1,g2,g3⟩:=ih
    have d:=nV c
    have ha:cW bB f:=rT hx f (by rw [g2];simp)
    have g:=fin ha
    refine ⟨g.1,f::l,by simp,by rw [g2];simp,?_⟩
    obtain ⟨f2,l2,rfl⟩: ∃f2 l2,l=f2::l2:=by
     cases l with
     | nil=>exact absurd rfl g1
     | cons f2 l2=>exact ⟨f2,l2,rfl⟩
    rw [g.2,d.1,g3,show bH (f::f2::l2)=be f::be f2::bH l2 from rfl,jP]
    simp [bH]
theorem wu {r:aL} (h:okA r):(∀x∈r.Y,1≤x)∧ ∀row∈r.Bases,∀x∈row,1≤x:=by
 obtain ⟨h1,h2,h3,h4,n,h5,h6,h7⟩:=h
 exact ⟨fun x hx=>(h4 x hx).1,fun row hr x hx=>((h7 row hr).2 x hx).1⟩
theorem E2 {R:ah→ab×ah} {p q:ah} {x:ab} (hF: ∀q,q.s.length<p.s.length→pF (R q).2 q)
  (hR: ∀p' q x,p'.s.length<p.s.length→R p'=(x,q)→q.bad=false→cW bB x→p'.bad=false∧p'.s=be x++q.s)
  (h:dV R p=(x,q)) (hb:q.bad=false) (hx:cW bB x):p.bad=false∧p.s=be x++q.s:=by
 unfold dV at h
 have hn:=wk hx
 by_cases t1:(ar p [91]).1=true
 ·rw [if_pos t1] at h
  have y1:=jO t1
  generalize hr:cU (ar p [91]).2=w at h
  obtain ⟨r,q1⟩:=w
  injection h with e1 e2
  subst e1;subst e2
  rcases hn.1 with ⟨_,_,h3⟩|⟨h1,_⟩
  ·have g:=EZ hr hb (wu h3).1 (wu h3).2
   refine ⟨y1.2.symm.trans g.1,?_⟩
   rw [y1.1,g.2,wm]
   simp
  ·rcases h1 with h1|h1
   ·exact absurd h1 (show¬(1:Int)=2 by decide)
   ·exact absurd h1 (show¬(1:Int)=3 by decide)
 ·rw [if_neg t1] at h
  have n1:=lC (p:=p) (t:=[91]) (by simpa using t1)
  rw [n1] at h
  by_cases t2:(ar p [97,110,100,40]).1=true
  ·rw [if_pos t2] at h
   have y2:=jO t2
   have l2:=de (x:=ar p [97,110,100,40]) rfl (by decide) t2
   obtain ⟨c,l,g1,g2,g3⟩:=rX hF hR _ _ q [] x (Nat.lt_succ_self _) l2 h hb hn.2
   refine ⟨y2.2.symm.trans c,?_⟩
   rw [y2.1,g3,g2,List.nil_append,wn]
   simp
  ·rw [if_neg t2] at h
   have n2:=lC (p:=p) (t:=[97,110,100,40]) (by simpa using t2)
   rw [n2] at h
   by_cases t3:(ar p [111,114,40]).1=true
   ·rw [if_pos t3] at h
    have y3:=jO t3
    have l3:=de (x:=ar p [111,114,40]) rfl (by decide) t3
    obtain ⟨c,l,g1,g2,g3⟩:=rX hF hR _ _ q [] x (Nat.lt_succ_self _) l3 h hb hn.2
    refine ⟨y3.2.symm.trans c,?_⟩
    rw [y3.1,g3,g2,List.nil_append,wo]
    simp
   ·rw [if_neg t3] at h
    injection h with _ e2
    rw [←e2] at hb;cases hb
theorem wv: ∀(n:Nat) (p q:ah) (x:ab),p.s.length<n→bm p=(x,q)→q.bad=false→cW bB x→p.bad=false∧p.s=be x++q.s
 | 0,p,q,x,hn,_,_,_=>absurd hn (Nat.not_lt_zero _)
 | n+1,p,q,x,hn,h,hb,hx=>by
  rw [←rF] at h
  exact E2 (fun q _=>rD rfl) (fun p' q x hp=>wv n p' q x (by omega)) h hb hx
theorem ww (l:List Int):fv l l=true:=by
 unfold fv
 rw [if_neg (by simp)]
 refine lz (fun k:Int=>0≤k∧k≤(l.length:Int)) (fun r=>r=true) (fun k=>((l.length:Int) - k).toNat) (fun f k hk hf=> ?_) _ 0 ⟨by omega,by omega⟩ (by omega)
 try dsimp only
 by_cases c:k<(l.length:Int)
 ·rw [if_pos (by simpa using c),if_neg (by simp)]
  exact hf _ ⟨by omega,by omega⟩ (by omega)
 ·rw [if_neg (by simpa using c)]
theorem wx: ∀l:List (List Int),jF l l=true
 | []=>rfl
 | a::l=>by
  rw [jF,show gt (a::l) 0=a from rfl,ww,show (a::l).drop 1=l from rfl,wx l];rfl
mutual
theorem wy: ∀f:ab,ew f f=true
 | ⟨k,r,l⟩=>by
  rw [ew,if_neg (by simp),if_neg (by simp),ww,if_neg (by decide),if_neg (by simp),wx,if_neg (by decide)]
  exact wz l
theorem wz: ∀l:List ab,fw l l=true
 | []=>rfl
 | f::l=>by
  rw [fw,show gt (f::l) 0=f from rfl,wy f,if_neg (by decide),show (f::l).drop 1=l from rfl]
  exact wz l
end
theorem E3:nJ=true:=by decide+kernel
theorem wA {f:ab} (h:du f=true) (hl:(be f).length≤8000):fu f=(be f,0):=by
 unfold fu
 rw [aP,if_neg (by rw [h];decide),aP,if_neg (by simp;omega)]
theorem E4 {f:ab} (h: ¬(du f=true∧(be f).length≤8000)):(fu f).1=[]∧(fu f).2≠0:=by
 unfold fu
 rw [aP]
 by_cases h1:du f=true
 ·have h2: ¬(be f).length≤8000:=fun h3=>h ⟨h1,h3⟩
  rw [if_neg (by rw [h1];decide),aP,if_pos (by simp;omega)]
  exact ⟨rfl,by decide⟩
 ·rw [if_pos (by simpa using h1)]
  exact ⟨rfl,by decide⟩
theorem E5 {s:List UInt8} (hl:s.length≤8000):(et s=(fp,3)∨et s=(fp,1))∨ ∃x,bm ⟨s,false⟩=(x,⟨[],false⟩)∧du x=true∧et s=(x,0):=by
 unfold et
 rw [if_neg (by simp;omega),aP]
 generalize bm ⟨s,false⟩=y
 obtain ⟨x,t,b⟩:=y
 dsimp only
 cases b with
 | true=>rw [if_pos rfl];exact .inl (.inl rfl)
 | false=>
  rw [if_neg (by decide)]
  by_cases ht:t=[]
  ·subst ht
   rw [if_neg (by decide),aP]
   by_cases hf:du x=true
   ·rw [if_neg (by rw [hf];decide)];exact .inr ⟨x,rfl,hf,rfl⟩
   ·rw [if_pos (by simpa using hf)];exact .inl (.inr rfl)
  ·rw [if_pos (by simpa using ht)];exact .inl (.inl rfl)
theorem E6 {s:List UInt8} (hl:s.length≤2000):am (et s) (fun x16=>if (x16.2 !=0)=true then (if (x16.1.Kind==0)=true then ((x16.1.L.length:Int)==0) else false) else am (fu x16.1) (fun x25=>if (x25.2==0)=true then (x25.1==s) else false))=true:=by
 rw [aP]
 rcases E5 (s:=s) (by omega) with (h|h)|⟨x,h1,h2,h3⟩
 ·rw [h];rfl
 ·rw [h];rfl
 ·rw [h3,if_neg (by simp),aP]
  have g:=wv _ _ _ x (Nat.lt_succ_self _) h1 rfl (lA h2).1
  have e:s=be x:=by have:=g.2;simpa using this
  rw [wA h2 (by rw [←e];omega),if_pos (by simp)]
  simp [←e]
theorem E7 (f:ab) (s:List UInt8):nN f s=true:=by
 unfold nN
 rw [aP,E3,if_neg (by decide),aP]
 by_cases c1:nM f []=true
 case neg=>rw [if_pos (by simpa using c1)]
 rw [if_neg (by simpa using c1)]
 by_cases c2:(s.length:Int)>2000
 ·rw [if_pos (by simpa using c2)]
 rw [if_neg (by simpa using c2)]
 have hs:=E6 (s:=s) (by omega)
 unfold er
 dsimp only
 rw [aP]
 by_cases h:du f=true∧(be f).length≤8000
 ·rw [wA h.1 h.2,if_pos (by simp),aP]
  have hp:et (be f)=(f,0):=by
   have ha:=wp f (lA h.1).1 []
   rw [List.append_nil] at ha
   unfold et
   rw [if_neg (by simp;have:=h.2;omega),aP,ha]
   dsimp only
   rw [if_neg (by decide),if_neg (by decide),aP,if_neg (by rw [h.1];decide)]
  rw [hp,if_neg (by simp),aP,wy,if_neg (by decide)]
  exact hs
 ·have hn:=E4 h
  rw [if_neg (by simpa using hn.2),if_neg (by rw [hn.1];decide)]
  exact hs
end Go.Proofs.YtiknkaadhomeiaaGreatDoor
