/- Texts of this proof, one after the other: HT, U6, M7, LP. -/
import Derived.Test.YteibkofekpejgaaGreatDoorZ17
set_option linter.unusedVariables false
set_option linter.unusedSimpArgs false
namespace Go.Proofs.YteibkofekpejgaaGreatDoor
open Go.RowKit
theorem EP {b:aY} {l:List bg} {y:Int} {m:aD} {p:aK} {x:aD×Int×Int} (hx:x=dg b l y m p) (hq:okQ m.Queue) (hp:dC p):okQ x.1.Queue:=by
 rw [hx]
 by_cases h:(dg b l y m p).2.2=0
 ·obtain ⟨i,ht⟩:=EM h
  rw [ht.res]
  intro q h9
  have h9:q∈m.Queue++[p]:=h9
  rcases List.mem_append.1 h9 with h9|h9
  ·exact hq q h9
  ·rw [List.mem_singleton.1 h9];exact hp
 ·rw [(EJ h).1];exact uI
theorem kN {n:aD} {a:Int} {x:aD×Int} (hx:x=iG n a) (hq:okQ n.Queue):okQ x.1.Queue:=by
 rw [hx]
 unfold iG
 simp only [aa,uH]
 repeat' split
 all_goals first|exact uI|exact hq
end Go.Proofs.YteibkofekpejgaaGreatDoor
namespace Go.Proofs.YteibkofekpejgaaGreatDoor
open Go.RowKit
set_option linter.unusedSimpArgs false
set_option maxHeartbeats 2000000 in
set_option maxRecDepth 100000 in
instance Ux (v:aN) (c0:aK):CM En (zd v c0) 15 [(aZ v),.pp 4 true (.agg [.int .i64 c0.Number,.sl none 80 true (c0.Spends.map aQ),.sl none 81 true (c0.Chains.map bl),.sl none 5 true (c0.Escrow.map bQ)])] (fun y=> .bool y) (fun _=> []):=by
 refine enQ noJ Tryz.func15 Tryz.ntmps15 (zd.eq_1 ..) fun r hw=> ?_
 exact auR
set_option maxHeartbeats 2000000 in
set_option maxRecDepth 100000 in
instance Uy (x_:Int) (low:Int) (high:Int):CM En (jy x_ low high) 116 [.int .i64 x_,.int .i64 low,.int .i64 high] (fun y=> .bool y) (fun _=> []):=by
 refine enQ noJ Tryz.func116 Tryz.ntmps116 (jy.eq_1 ..) fun r hw=> ?_
 exact auR
set_option maxHeartbeats 2000000 in
set_option maxRecDepth 100000 in
instance Uz (r_:bW):CM En (mn r_) 92 [.agg [.int .i64 r_.Kind,.int .i64 r_.A,.int .i64 r_.B]] (fun y=> .bool y) (fun _=> []):=by
 refine enQ noJ Tryz.func92 Tryz.ntmps92 (mn.eq_1 ..) fun r hw=> ?_
 exact auR
set_option maxHeartbeats 2000000 in
set_option maxRecDepth 100000 in
instance UA (p_:dp):CM En (iE p_) 48 [.agg [.sl none 3 true (p_.Rules.map ct)]] (fun y=> .bool y) (fun _=> []):=by
 refine enQ noJ Tryz.func48 Tryz.ntmps48 (iE.eq_1 ..) fun r hw=> ?_
 refine az fun _ _ _=> ?_
 intro hF hM
 replace hM:=aF hM;obtain ⟨f4,d4,hf4,hd4,hM⟩:=hM
 refine aL (fun n S=> ∃p:Int,S=(⟨[(1,.ptr 0 0),(3,.int .i64 p)],[(0,.var 1 true (.agg [.sl none 3 true (p_.Rules.map ct)]))],1⟩:St)∧((0≤p)∧(p≤(p_.Rules.length:Int)))∧((p_.Rules.length:Int) - p).toNat<n∧ae n f4 d4 p=r) (((p_.Rules.length:Int) - 0).toNat+1) _ sbQ sbQ ⟨0,rfl,⟨omQ,omQ⟩,(Nat.lt_succ_self _),hM⟩ ?_
 clear hM
 rintro n4 S ⟨p4,rfl,hfa4,hm4,hM⟩
 replace hM:=aG hM (by omega) hf4;obtain ⟨ag4,hag4,hM⟩:=hM
 replace hfa4:=nzQ hfa4
 replace hm4:=nzQ hm4
 have ha4:al .i64 p4 1=p4+1:=aJ omQ omQ
 replace hF:=(And.intro ha4 hF)
 revert hM;revert hF
 refine slQ ?_
 refine aq fun _ _ _=> ?_
 refine ax fun _ _ _ _=> ?_
 refine az fun _ _ _=> ?_
 intro hF hM
 refine aC (n4 - 1) _ (by omega) sbQ sbQ ⟨(p4+1),rfl,⟨omQ,omQ⟩,omQ,aB hM hag4⟩
set_option maxHeartbeats 2000000 in
set_option maxRecDepth 100000 in
instance UB (x_:Int) (low:Int) (high:Int):CM En (mp x_ low high) 117 [.int .i64 x_,.int .i64 low,.int .i64 high] (fun y=> .bool y) (fun _=> []):=by
 refine enQ noJ Tryz.func117 Tryz.ntmps117 (mp.eq_1 ..) fun r hw=> ?_
 exact auR
set_option maxHeartbeats 2000000 in
set_option maxRecDepth 100000 in
instance UC (v:aN):CM En (iF v) 93 [(aZ v)] (fun y=> .bool y) (fun _=> []):=by
 refine enQ noJ Tryz.func93 Tryz.ntmps93 (iF.eq_1 ..) fun r hw=> ?_
 exact auR
set_option maxHeartbeats 2000000 in
set_option maxRecDepth 100000 in
instance UD (m:aD) (v:aN):CM En (cG m v) 49 [(bJ m),(aZ v)] (fun y=> .bool y) (fun _=> []):=by
 refine enQ noJ Tryz.func49 Tryz.ntmps49 (cG.eq_1 ..) fun r hw=> ?_
 exact auR
set_option maxHeartbeats 2000000 in
set_option maxRecDepth 100000 in
instance UE (l:(List aN)) (number:Int):CM En (eW l number) 50 [.sl none 35 true (l.map aZ),.int .i64 number] (fun y=> .int .i64 y) (fun _=> []):=by
 refine enQ noJ Tryz.func50 Tryz.ntmps50 (eW.eq_1 ..) fun r hw=> ?_
 intro hF hM
 replace hM:=aF hM;obtain ⟨f1,d1,hf1,hd1,hM⟩:=hM
 refine aL (fun n S=> ∃p:Int,S=(⟨[(0,.sl none 35 true (l.map aZ)),(1,.int .i64 number),(5,.int .i64 p)],[],0⟩:St)∧((0≤p)∧(p≤(l.length:Int)))∧((l.length:Int) - p).toNat<n∧ae n f1 d1 p=r) (((l.length:Int) - 0).toNat+1) _ sbQ sbQ ⟨0,rfl,⟨omQ,omQ⟩,(Nat.lt_succ_self _),hM⟩ ?_
 clear hM
 rintro n1 S ⟨p1,rfl,hfa1,hm1,hM⟩
 replace hM:=aG hM (by omega) hf1;obtain ⟨ag1,hag1,hM⟩:=hM
 replace hfa1:=nzQ hfa1
 replace hm1:=nzQ hm1
 have ha1:al .i64 p1 1=p1+1:=aJ omQ omQ
 replace hF:=(And.intro ha1 hF)
 revert hM;revert hF
 refine slQ ?_
 refine aq fun _ _ _=> ?_
 refine az fun _ _ _=> ?_
 intro hF hM
 refine aC (n1 - 1) _ (by omega) sbQ sbQ ⟨(p1+1),rfl,⟨omQ,omQ⟩,omQ,aB hM hag1⟩
instance (priority:=1070):DRD 6 182 25 [66,67,68,69,70,71,72,73,74,75,76,77,78,79,80,81,82,83,84,85,86,87,88,89,90] [] ([[],[],[1],[],[1,2,3],[1,2,3,4],[0,1,2,3,4,5],[0,1,2,3,4,5,6],[0,1,2,3,4,5,6,7],[0,1,2,3,4,5,6,7,8],[0,1,2,3,4,5,6,7,8,9],[0,1,2,3,4,5,6,7,8,9,10],[0,1,2,3,4,5,6,7,8,9,10,11],[0,1,2,3,4,5,6,7,8,9,10,11,12],[0,1,2,3,4,5,6,7,8,9,10,11],[0,1,2,3,4,5,6,7,8,9,10,11,12,13,14],[0,1,2,3,4,5,6,7,8,9,10,11,12,13,14,15],[0,1,2,3,4,5,6,7,8,9,10,11,12,13,14,15,16],[0,1,2,3,4,5,6,7,8,9,10,11],[0,1,2,3,4,5,6,7,8,9,10,11,18],[0,1,2,3,4,5,6,7,8,9,10,11],[0,1,2,3,4,5,6,7,8,9,10,11,20],[0,1,2,3,4,5,6,7,8,9,10,11,18,19,20,21],[0,1,2,3,4,5,6,7,8,9,10,11,18,19,20,21,22],[0,1,2,3,4,5,6,7,8,9,10,11,18,19,20,21,22,23]]++[List.range 25,List.range 26,List.range 27]) []:=⟨trivial⟩
instance (priority:=1071):DRD 13 182 30 [106,107,108,109,110,111,112,113,114,115,116,117,118,119,120,121,122,123,124,125,126,127,128,129,130,131,132,133,134,135] [] ([[],[],[0,1],[0,1,2],[0,1,2,3],[0,1,2,3,4],[0,1,2,3,4,5],[0,1,2,3,4],[0,1,2,3,4,5,6,7],[0,1,2,3,4,5,6,7,8],[0,1,2,3,4,5,6,7,8,9],[0,1,2,3,4],[0,1,2,3,4,11],[0,1,2,3,4,5,6,7,8,9,10,11,12],[0,1,2,3,4,5,6,7,8,9,10,11,12,13],[0,1,2,3,4,5,6,7,8,9,10,11,12,13,14],[0,1,2,3,4,5,6,7,8,9,10,11,12,13,14,15],[0,1,2,3,4,5,6,7,8,9,10,11,12,13,14,15,16],[0,1,2,3,4,5,6,7,8,9,10,11,12,13,14,15],[0,1,2,3,4,5,6,7,8,9,10,11,12,13,14,15,18],[0,1,2,3,4,5,6,7,8,9,10,11,12,13,14,15,16,17,18,19],[0,1,2,3,4,5,6,7,8,9,10,11,12,13,14,15,16,17,18,19,20],[0,1,2,3,4,5,6,7,8,9,10,11,12,13,14,15,16,17,18,19,20,21],[0,1,2,3,4,5,6,7,8,9,10,11,12,13,14,15,16,17,18,19,20,21,22],[0,1,2,3,4,5,6,7,8,9,10,11,12,13,14,15,16,17,18,19,20,21,22,23],[0,1,2,3,4,5,6,7,8,9,10,11,12,13,14,15,16,17,18,19,20,21,22,23,24],[0,1,2,3,4,5,6,7,8,9,10,11,12,13,14,15,16,17,18,19,20,21,22,23],[0,1,2,3,4,5,6,7,8,9,10,11,12,13,14,15,16,17,18,19,20,21,22,23,24,25,26],[0,1,2,3,4,5,6,7,8,9,10,11,12,13,14,15,16,17,18,19,20,21,22,23],[0,1,2,3,4,5,6,7,8,9,10,11,12,13,14,15,16,17,18,19,20,21,22,23,28]]++[List.range 30,List.range 31,List.range 32]) []:=⟨trivial⟩
instance (priority:=1072):DRD 19 182 21 [150,151,152,153,154,155,156,157,158,159,160,161,162,163,164,165,166,167,168,169,170] [] ([[],[0],[],[0,1,2],[0,1,2,3],[0,1,2,3,4],[0,1,2,3,4,5],[0,1,2,3,4,5,6],[0,1,2,3,4,5,6,7],[0,1,2,3,4,5,6,7,8],[0,1,2,3,4,5,6,7,8,9],[0,1,2,3,4,5,6,7,8,9,10],[0,1,2,3,4,5,6,7,8,9],[0,1,2,3,4,5,6,7,8,9,10,11,12],[0,1,2,3,4,5,6,7,8,9,10,11,12,13],[0,1,2,3,4,5,6,7,8,9],[0,1,2,3,4,5,6,7,8,9,15],[0,1,2,3,4,5,6,7,8,9],[0,1,2,3,4,5,6,7,8,9,17],[0,1,2,3,4,5,6,7,8,9,15,16,17,18],[0,1,2,3,4,5,6,7,8,9,15,16,17,18,19]]++[List.range 21,List.range 22,List.range 23]) []:=⟨trivial⟩
set_option maxHeartbeats 2000000 in
set_option maxRecDepth 100000 in
instance UF (m:aD):CM En (mq m) 16 [(bJ m)] (fun y=> .bool y) (fun _=> []):=by
 refine enQ noJ Tryz.func16 Tryz.ntmps16 (mq.eq_1 ..) fun r hw=> ?_
 refine ax fun _ _ _ _=> ?_
 refine aq fun _ _ _=> ?_
 refine aq fun _ _ _=> ?_
 refine aq fun _ _ _=> ?_
 refine aq fun _ _ _=> ?_
 refine aq fun _ _ _=> ?_
 refine aq fun _ _ _=> ?_
 refine aq fun _ _ _=> ?_
 refine aq fun _ _ _=> ?_
 refine az fun _ _ _=> ?_
 intro hF hM
 replace hM:=aF hM;obtain ⟨f23,d23,hf23,hd23,hM⟩:=hM
 refine aL (fun n S=> ∃p:Int,S=(⟨[(1,.ptr 0 0),(3,.int .i64 p)],[(0,.var 40 true ((bJ m)))],1⟩:St)∧((0≤p)∧(p≤(m.Open.length:Int)))∧((m.Open.length:Int) - p).toNat<n∧ae n f23 d23 p=r) (((m.Open.length:Int) - 0).toNat+1) _ sbQ sbQ ⟨0,rfl,⟨omQ,omQ⟩,(Nat.lt_succ_self _),hM⟩ ?_
 clear hM
 rintro n23 S ⟨p23,rfl,hfa23,hm23,hM⟩
 replace hM:=aG hM (by omega) hf23;obtain ⟨ag23,hag23,hM⟩:=hM
 replace hfa23:=nzQ hfa23
 replace hm23:=nzQ hm23
 have ha23:al .i64 p23 1=p23+1:=aJ omQ omQ
 replace hF:=(And.intro ha23 hF)
 revert hM;revert hF
 refine slQ ?_
 refine cdQ (fun _ _ _=> ?_) (fun _ _ _=> ?_)
 ·refine ax fun _ _ _ _=> ?_
  refine aq fun _ _ _=> ?_
  refine cdQ (fun _ _ _=> ?_) (fun _ _ _=> ?_)
  ·have ha33:aA .i64 p23 1=(p23 - 1):=du ao ao
   intro hF hM
   try simp only [ha33]
   replace hF:=(And.intro ha33 hF)
   revert hM;revert hF
   refine slQ ?_
   refine az fun _ _ _=> ?_
   intro hF hM
   refine aC (n23 - 1) _ (by omega) sbQ sbQ ⟨(p23+1),rfl,⟨omQ,omQ⟩,omQ,aB hM hag23⟩
  ·intro hF hM
   refine aC (n23 - 1) _ (by omega) sbQ sbQ ⟨(p23+1),rfl,⟨omQ,omQ⟩,omQ,aB hM hag23⟩
 ·intro hF hM
  replace hM:=aF hM;obtain ⟨f41,d41,hf41,hd41,hM⟩:=hM
  refine aL (fun n S=> ∃p:Int×Int,S=(⟨[(1,.ptr 0 0),(4,.int .i64 p.1),(5,.int .i64 p.2)],[(0,.var 40 true ((bJ m)))],1⟩:St)∧((0≤p.2)∧(p.2≤(m.Paid.length:Int)))∧((m.Paid.length:Int) - p.2).toNat<n∧ae n f41 d41 p=r) (((m.Paid.length:Int) - 0).toNat+1) _ sbQ sbQ ⟨(0,0),rfl,⟨omQ,omQ⟩,(Nat.lt_succ_self _),hM⟩ ?_
  clear hM
  rintro n41 S ⟨p41,rfl,hfa41,hm41,hM⟩
  replace hM:=aG hM (by omega) hf41;obtain ⟨ag41,hag41,hM⟩:=hM
  replace hfa41:=nzQ hfa41
  replace hm41:=nzQ hm41
  have ha41:al .i64 p41.2 1=p41.2+1:=aJ omQ omQ
  replace hF:=(And.intro ha41 hF)
  revert hM;revert hF
  refine slQ ?_
  refine cdQ (fun _ _ _=> ?_) (fun _ _ _=> ?_)
  ·refine ax fun _ _ _ _=> ?_
   refine aq fun _ _ _=> ?_
   refine aq fun _ _ _=> ?_
   refine ax fun _ _ _ _=> ?_
   refine aq fun _ _ _=> ?_
   refine ax fun _ _ _ _=> ?_
   refine az fun _ _ _=> ?_
   intro hF hM
   refine aC (n41 - 1) _ (by omega) sbQ sbQ ⟨((al .i64 p41.1 (gt m.Paid p41.2).Amount),(p41.2+1)),rfl,⟨omQ,omQ⟩,omQ,aB hM hag41⟩
  ·intro hF hM
   replace hM:=aF hM;obtain ⟨f66,d66,hf66,hd66,hM⟩:=hM
   refine aL (fun n S=> ∃p:Int,S=(⟨[(1,.ptr 0 0),(4,.int .i64 p41.1),(7,.int .i64 p)],[(0,.var 40 true ((bJ m)))],1⟩:St)∧((0≤p)∧(p≤(m.Blocked.length:Int)))∧((m.Blocked.length:Int) - p).toNat<n∧ae n f66 d66 p=r) (((m.Blocked.length:Int) - 0).toNat+1) _ sbQ sbQ ⟨0,rfl,⟨omQ,omQ⟩,(Nat.lt_succ_self _),hM⟩ ?_
   clear hM
   rintro n66 S ⟨p66,rfl,hfa66,hm66,hM⟩
   replace hM:=aG hM (by omega) hf66;obtain ⟨ag66,hag66,hM⟩:=hM
   replace hfa66:=nzQ hfa66
   replace hm66:=nzQ hm66
   have ha66:al .i64 p66 1=p66+1:=aJ omQ omQ
   replace hF:=(And.intro ha66 hF)
   revert hM;revert hF
   refine slQ ?_
   refine aq fun _ _ _=> ?_
   refine aq fun _ _ _=> ?_
   refine cdQ (fun _ _ _=> ?_) (fun _ _ _=> ?_)
   ·have ha74:aA .i64 p66 1=(p66 - 1):=du ao ao
    intro hF hM
    try simp only [ha74]
    replace hF:=(And.intro ha74 hF)
    revert hM;revert hF
    refine slQ ?_
    refine az fun _ _ _=> ?_
    intro hF hM
    refine aC (n66 - 1) _ (by omega) sbQ sbQ ⟨(p66+1),rfl,⟨omQ,omQ⟩,omQ,aB hM hag66⟩
   ·intro hF hM
    refine aC (n66 - 1) _ (by omega) sbQ sbQ ⟨(p66+1),rfl,⟨omQ,omQ⟩,omQ,aB hM hag66⟩
set_option maxHeartbeats 2000000 in
set_option maxRecDepth 100000 in
instance UG (m:aD) (pseudonym:Int):CM En (iG m pseudonym) 21 [(bJ m),.int .i64 pseudonym] (fun y=> .tup [(bJ y.1),.int .i64 y.2]) (fun _=> []):=by
 refine enQ noJ Tryz.func21 Tryz.ntmps21 (iG.eq_1 ..) fun r hw=> ?_
 refine ax fun _ hx2 _ _=> ?_
 have hq5:=zy hx2
 replace hq5:=nzQ hq5
 refine az fun _ _ _=> ?_
 refine az fun _ _ _=> ?_
 refine ax fun x12 hx13 _ _=> ?_
 have hq15:=(MC hx13 (by omega))
 replace hq15:=nzQ hq15
 refine az fun _ _ _=> ?_
 refine az fun _ _ _=> ?_
 intro hF hM
 replace hM:=aw hM;obtain ⟨x22,hx23,hM⟩:=hM
 have hcx22:=cmH hx23 (zC m (by (first|omega|exact pfQ)))
 refine aP hcx22 clQ clQ (fun hw24=> ?_)
 replace hw24:=nzQ hw24
 revert hM;revert hF
 refine slQ ?_
 have hq25:=zx hx23
 replace hq25:=nzQ hq25
 intro hF hM
 replace hM:=aw hM;obtain ⟨x26,hx27,hM⟩:=hM
 have hcx26:=KK none (some false) (x22.Blocked) (x12.1) ([pseudonym]:List Int) (by (first|rfl|omega|exact pfQ)) (by (first|rfl|omega|exact pfQ)) (by (first|rfl|omega|exact pfQ)) (by (first|rfl|omega|exact pfQ))
 rw [←hx27] at hcx26
 refine jk [5,7] hcx26 (by decide) lsQ lsQ (fun hw28=> ?_)
 replace hw28:=nzQ hw28
 exact auP
set_option maxHeartbeats 2000000 in
set_option maxRecDepth 100000 in
instance UH (s:(List aN)) (f__c0:aK):CM En (om s f__c0) 14 [.sl none 35 true (s.map aZ),.fn 15 [.pp 4 true (.agg [.int .i64 f__c0.Number,.sl none 80 true (f__c0.Spends.map aQ),.sl none 81 true (f__c0.Chains.map bl),.sl none 5 true (f__c0.Escrow.map bQ)])]] (fun y=> .int .i64 y) (fun _=> []):=by
 refine enQ noJ Tryz.func14 Tryz.ntmps14 (om.eq_1 ..) fun r hw=> ?_
 intro hF hM
 replace hM:=aF hM;obtain ⟨f1,d1,hf1,hd1,hM⟩:=hM
 refine aL (fun n S=> ∃p:Int,S=(⟨[(0,.sl none 35 true (s.map aZ)),(1,.fn 15 [.pp 4 true (bw f__c0)]),(7,.int .i64 (s.length:Int)),(8,.int .i64 p)],[],0⟩:St)∧((0≤p)∧(p≤(s.length:Int)))∧((s.length:Int) - p).toNat<n∧ae n f1 d1 p=r) (((s.length:Int) - 0).toNat+1) _ sbQ sbQ ⟨0,rfl,⟨omQ,omQ⟩,(Nat.lt_succ_self _),hM⟩ ?_
 clear hM
 rintro n1 S ⟨p1,rfl,hfa1,hm1,hM⟩
 replace hM:=aG hM (by omega) hf1;obtain ⟨ag1,hag1,hM⟩:=hM
 replace hfa1:=nzQ hfa1
 replace hm1:=nzQ hm1
 have ha1:al .i64 p1 1=p1+1:=aJ omQ omQ
 replace hF:=(And.intro ha1 hF)
 revert hM;revert hF
 refine slQ ?_
 refine aq fun _ _ _=> ?_
 refine ax fun _ _ _ _=> ?_
 refine az fun _ _ _=> ?_
 intro hF hM
 refine aC (n1 - 1) _ (by omega) sbQ sbQ ⟨(p1+1),rfl,⟨omQ,omQ⟩,omQ,aB hM hag1⟩
instance (priority:=1073):DRD 9 188 14 [15,76,77,78,79,80,81,82,83,84,85,86,87,88] [] ([[],[],[],[],[3],[],[3,4,5],[3,4,5,6],[],[0,1,2,3,4,5,6,7,8],[0,1,2,3,4,5,6,7,8,9],[0,1,2,3,4,5,6,7,8,9,10],[0,1,2,3,4,5,6,7,8,9,10],[0,1,2,3,4,5,6,7,8,9,10,11]]++[List.range 14]) []:=⟨trivial⟩
set_option maxHeartbeats 2000000 in
set_option maxRecDepth 100000 in
instance Og (b:aY) (l:(List bg)) (y:Int) (m:aD) (p_:aK):CM En (ux b l y m p_) 4 [(bL b),.sl none 11 true (l.map cD),.int .i64 y,(bJ m),.agg [.int .i64 p_.Number,.sl none 80 true (p_.Spends.map aQ),.sl none 81 true (p_.Chains.map bl),.sl none 5 true (p_.Escrow.map bQ)]] (fun y=> .bool y) (fun _=> []):=by
 refine enQ noJ Tryz.func4 Tryz.ntmps4 (ux.eq_1 ..) fun r hw=> ?_
 refine ax fun _ _ _ _=> ?_
 refine aq fun _ _ _=> ?_
 refine ax fun _ _ _ _=> ?_
 refine aq fun _ _ _=> ?_
 refine ax fun _ _ _ _=> ?_
 refine aq fun _ _ _=> ?_
 refine az fun _ _ _=> ?_
 intro hF hM
 replace hM:=aw hM;obtain ⟨x22,hx23,hM⟩:=hM
 have hcx22:=cmH hx23 (Ep b l y m p_ (by (first|assumption|exact kN (by assumption) (by assumption)|exact pfQ)) (by (first|assumption|exact kN (by assumption) (by assumption)|exact pfQ)) (by (first|assumption|exact kN (by assumption) (by assumption)|exact pfQ)))
 refine aP hcx22 clQ clQ (fun hw24=> ?_)
 replace hw24:=nzQ hw24
 revert hM;revert hF
 refine slQ ?_
 have hq25:=EP hx23 (by first|assumption|exact kN (by assumption) (by assumption)) (by assumption)
 replace hq25:=nzQ hq25
 refine cdQ (fun _ _ _=> ?_) (fun _ _ _=> ?_)
 ·intro hF hM
  replace hM:=aw hM;obtain ⟨x28,hx29,hM⟩:=hM
  have hcx28:=cmH hx29 (NN (x22.1) (by (first|assumption|exact pfQ)))
  refine aP hcx28 clQ clQ (fun hw30=> ?_)
  replace hw30:=nzQ hw30
  exact auP
 ·refine ax fun x33 hx34 _ _=> ?_
  have hq36:=ML hx34
  replace hq36:=nzQ hq36
  refine aq fun _ _ _=> ?_
  refine ax fun _ _ _ _=> ?_
  refine az fun _ _ _=> ?_
  intro hF hM
  replace hM:=aw hM;obtain ⟨x46,hx47,hM⟩:=hM
  have hcx46:=cmH hx47 (Em b l y (gt m.Open x33) p_ (by (first|assumption|exact pfQ)) (by (first|assumption|exact pfQ)))
  refine bC hcx46 (an hF) (an hF) ?_
  revert hM;revert hF
  refine slQ ?_
  intro hF hM
  replace hM:=aF hM;obtain ⟨f48,d48,hf48,hd48,hM⟩:=hM
  refine aL (fun n S=> ∃p:Int×Int,S=(⟨[(1,.sl none 11 true (l.map cD)),(2,.int .i64 y),(5,.ptr 0 0),(8,.ptr 1 0),(9,.ptr 2 0),(12,.int .i64 x22.2.1),(14,.int .i64 x33),(15,.int .i64 x46.1),(16,.int .i64 x46.2),(17,.int .i64 p.1),(90,.sl none 81 true (p_.Chains.map bl)),(91,.int .i64 (p_.Chains.length:Int)),(92,.int .i64 p.2)],[(0,.var 6 true ((bL b))),(1,.var 40 true ((bJ m))),(2,.var 4 true (bw p_))],18⟩:St)∧((0≤p.2)∧(p.2≤(p_.Chains.length:Int)))∧((p_.Chains.length:Int) - p.2).toNat<n∧ae n f48 d48 p=r) (((p_.Chains.length:Int) - 0).toNat+1) _ sbQ sbQ ⟨(0,0),rfl,⟨omQ,omQ⟩,(Nat.lt_succ_self _),hM⟩ ?_
  clear hM
  rintro n48 S ⟨p48,rfl,hfa48,hm48,hM⟩
  replace hM:=aG hM (by omega) hf48;obtain ⟨ag48,hag48,hM⟩:=hM
  replace hfa48:=nzQ hfa48
  replace hm48:=nzQ hm48
  have ha48:al .i64 p48.2 1=p48.2+1:=aJ omQ omQ
  replace hF:=(And.intro ha48 hF)
  revert hM;revert hF
  refine slQ ?_
  refine cdQ (fun _ _ _=> ?_) (fun _ _ _=> ?_)
  ·intro hF hM
   refine aC (n48 - 1) _ (by omega) sbQ sbQ ⟨((dT p48.1 ((gt p_.Chains p48.2).L.length:Int)),(p48.2+1)),rfl,⟨omQ,omQ⟩,omQ,aB hM hag48⟩
  ·have ha53:al .i64 (p_.Spends.length:Int) (p_.Chains.length:Int)=((p_.Spends.length:Int)+(p_.Chains.length:Int)):=jd ao ao
   intro hF hM
   try simp only [ha53]
   replace hF:=(And.intro ha53 hF)
   revert hM;revert hF
   refine slQ ?_
   refine ax fun _ _ _ _=> ?_
   refine aq fun _ _ _=> ?_
   refine aq fun _ _ _=> ?_
   refine aq fun _ _ _=> ?_
   refine aq fun _ _ _=> ?_
   refine az fun _ _ _=> ?_
   intro hF hM
   replace hM:=aw hM;obtain ⟨x68,hx69,hM⟩:=hM
   have hcx68:=cmH hx69 (D7 p_ (by (exact MD (by assumption))))
   refine aP hcx68 (an hF) (an hF) (fun hw70=> ?_)
   replace hw70:=nzQ hw70
   revert hM;revert hF
   refine slQ ?_
   intro hF hM
   replace hM:=aF hM;obtain ⟨f71,d71,hf71,hd71,hM⟩:=hM
   refine aL (fun n S=> ∃p:Int,S=(⟨[(1,.sl none 11 true (l.map cD)),(2,.int .i64 y),(5,.ptr 0 0),(8,.ptr 1 0),(9,.ptr 2 0),(149,.sl none 80 true (x68.map aQ)),(150,.int .i64 (x68.length:Int)),(151,.int .i64 p)],[(0,.var 6 true ((bL b))),(1,.var 40 true ((bJ m))),(2,.var 4 true (bw p_))],18⟩:St)∧((0≤p)∧(p≤(x68.length:Int)))∧((x68.length:Int) - p).toNat<n∧ae n f71 d71 p=r) (((x68.length:Int) - 0).toNat+1) _ sbQ sbQ ⟨0,rfl,⟨omQ,omQ⟩,(Nat.lt_succ_self _),hM⟩ ?_
   clear hM
   rintro n71 S ⟨p71,rfl,hfa71,hm71,hM⟩
   replace hM:=aG hM (by omega) hf71;obtain ⟨ag71,hag71,hM⟩:=hM
   replace hfa71:=nzQ hfa71
   replace hm71:=nzQ hm71
   have ha71:al .i64 p71 1=p71+1:=aJ omQ omQ
   replace hF:=(And.intro ha71 hF)
   revert hM;revert hF
   refine slQ ?_
   refine aq fun _ _ _=> ?_
   refine ax fun _ _ _ _=> ?_
   refine az fun _ _ _=> ?_
   refine ax fun x79 _ _ _=> ?_
   refine cdQ (fun _ _ _=> ?_) (fun _ _ _=> ?_)
   ·intro hF hM
    refine aC (n71 - 1) _ (by omega) sbQ sbQ ⟨(p71+1),rfl,⟨omQ,omQ⟩,omQ,aB hM hag71⟩
   ·intro hF hM
    replace hM:=aw hM;obtain ⟨x85,hx86,hM⟩:=hM
    have hcx85:=cmH hx86 (Ep b l y (x79.1) p_ (by (first|assumption|exact kN (by assumption) (by assumption)|exact pfQ)) (by (first|assumption|exact kN (by assumption) (by assumption)|exact pfQ)) (by (first|assumption|exact kN (by assumption) (by assumption)|exact pfQ)))
    refine aP hcx85 (an hF) (an hF) (fun hw87=> ?_)
    replace hw87:=nzQ hw87
    revert hM;revert hF
    refine slQ ?_
    have hq88:=EP hx86 (by first|assumption|exact kN (by assumption) (by assumption)) (by assumption)
    replace hq88:=nzQ hq88
    refine aq fun _ _ _=> ?_
    refine az fun _ _ _=> ?_
    intro hF hM
    refine aC (n71 - 1) _ (by omega) sbQ sbQ ⟨(p71+1),rfl,⟨omQ,omQ⟩,omQ,aB hM hag71⟩
end Go.Proofs.YteibkofekpejgaaGreatDoor
namespace Go.Proofs.YteibkofekpejgaaGreatDoor
open Go.RowKit
theorem Oh (a b:Int):qE a b=decide (a<b):=by simp [qE,qD,aa]
theorem Oi {l:List Int} (h:l.Pairwise (· < ·)) {i j:Int} (h0:0≤i) (h1:i<j) (h2:j<l.length):gt l i<gt l j:=by
 obtain ⟨a,rfl⟩: ∃a:Nat,i=a:=⟨i.toNat,by omega⟩
 obtain ⟨b,rfl⟩: ∃b:Nat,j=b:=⟨j.toNat,by omega⟩
 rw [cu (by omega),cu (by omega)]
 exact List.pairwise_iff_getElem.1 h a b (by omega) (by omega) (by omega)
theorem zS {l:List Int} (h:l.Pairwise (· < ·)) {i j:Int} (h0:0≤i) (h1:i≤j) (h2:j<l.length):gt l i≤gt l j:=by
 rcases Int.lt_or_eq_of_le h1 with e|e
 ·exact Int.le_of_lt (Oi h h0 e h2)
 ·rw [e];exact Int.le_refl _
theorem Oj {l:List Int} {t:Int} (hl:l.length≤1073741824) (ha:l.Pairwise (· < ·)): ∀r,r=dq l t→0≤r.1∧r.1≤l.length∧(∀j,0≤j→j<r.1→gt l j<t)∧(∀j,r.1≤j→j<l.length→t≤gt l j)∧(r.2=true→r.1<l.length∧gt l r.1=t)∧(r.2=false→r.1<l.length→gt l r.1≠t):=by
 intro r hr
 subst hr
 unfold dq
 refine fp (P:=fun q:Int×Int=>0≤q.1∧q.1≤q.2∧q.2≤(l.length:Int)∧(∀j,0≤j→j<q.1→gt l j<t)∧(∀j,q.2≤j→j<l.length→t≤gt l j)) (meas:=fun q=>(q.2 - q.1).toNat) (Q:=fun r:Int×Bool=>0≤r.1∧r.1≤l.length∧(∀j,0≤j→j<r.1→gt l j<t)∧(∀j,r.1≤j→j<l.length→t≤gt l j)∧(r.2=true→r.1<l.length∧gt l r.1=t)∧(r.2=false→r.1<l.length→gt l r.1≠t)) (fun ag p hp hag=> ?_) _ _ ⟨by show (0:Int)≤0;omega,by show (0:Int)≤(l.length:Int);omega,by show (l.length:Int)≤(l.length:Int);omega,fun j h0 (h1:j<0)=>by omega,fun j (h0:(l.length:Int)≤j) h1=>by omega⟩ (by show ((l.length:Int) - 0).toNat<((l.length:Int) - 0).toNat+1;omega)
 obtain ⟨p1,p2⟩:=p
 obtain ⟨a0,a1,a2,a3,a4⟩:=hp
 simp only at a0 a1 a2 a3 a4 hag⊢
 by_cases hlt:p1<p2
 ·rw [if_pos (decide_eq_true hlt)]
  have hm:=dz p1 p2 a0 hlt (by omega)
  simp only [aa,Oh]
  generalize ah .i64 (ar .u64 (ah .u64 (p1+p2)) 1)=M at hm
  by_cases hc:gt l M<t
  ·rw [if_pos (decide_eq_true hc)]
   refine hag (M+1,p2) ⟨by show 0≤M+1;omega,by show M+1≤p2;omega,a2,fun j h0 (h1:j<M+1)=> ?_,a4⟩ (by show (p2 - (M+1)).toNat<(p2 - p1).toNat;omega)
   have:=zS ha h0 (show j≤M by omega) (by omega)
   omega
  ·rw [if_neg (by simpa using hc)]
   refine hag (p1,M) ⟨a0,by show p1≤M;omega,by show M≤(l.length:Int);omega,a3,fun j (h0:M≤j) h1=> ?_⟩ (by show (M - p1).toNat<(p2 - p1).toNat;omega)
   have:=zS ha (show 0≤M by omega) h0 h1
   omega
 ·rw [if_neg (by simpa using hlt)]
  obtain rfl:p1=p2:=by omega
  by_cases hn:p1<(l.length:Int)
  ·rw [if_pos (decide_eq_true hn)]
   by_cases he:gt l p1=t
   ·rw [if_pos (by simpa using he)]
    exact ⟨a0,by simp only;omega,a3,a4,fun _=>⟨hn,he⟩,fun h=>by simp at h⟩
   ·rw [if_neg (by simpa using he)]
    simp only [aa,qF,bne_self_eq_false,Bool.false_eq_true,if_false]
    exact ⟨a0,by omega,a3,a4,fun h=>by simp at h,fun _ _=>he⟩
  ·rw [if_neg (by simpa using hn)]
   exact ⟨a0,a2,a3,a4,fun h=>by simp at h,fun _ h=>absurd h hn⟩
theorem zT {l:List Int} {t:Int} (hl:l.length≤1073741824) (ha:l.Pairwise (· < ·)): ∃i:Nat,i≤l.length∧(dq l t).1=i∧((dq l t).2=true↔t∈l)∧((dq l t).2=false→(∀x∈l.take i,x<t)∧ ∀x∈l.drop i,t<x):=by
 obtain ⟨a0,a1,a2,a3,a4,a5⟩:=Oj hl ha _ rfl (t:=t)
 generalize dq l t=r at a0 a1 a2 a3 a4 a5
 obtain ⟨ri,rb⟩:=r
 simp only at a0 a1 a2 a3 a4 a5⊢
 obtain ⟨i,rfl⟩: ∃i:Nat,ri=i:=⟨ri.toNat,by omega⟩
 have htake: ∀x∈l.take i,x<t:=fun x hx=>by
  obtain ⟨j,hj,rfl⟩:=List.getElem_of_mem hx
  rw [List.length_take] at hj
  have:=a2 (j:Int) (by omega) (by omega)
  rw [cu (by omega)] at this
  simpa using this
 have hdrop:rb=false→ ∀x∈l.drop i,t<x:=fun hb x hx=>by
  obtain ⟨j,hj,rfl⟩:=List.getElem_of_mem hx
  rw [List.length_drop] at hj
  have h1:=a3 ((i+j:Nat):Int) (by omega) (by omega)
  have h2:=a5 hb (by omega)
  have h3:=a3 (i:Int) (by omega) (by omega)
  have h4:=zS ha (show (0:Int)≤(i:Int) by omega) (show (i:Int)≤((i+j:Nat):Int) by omega) (by omega)
  rw [cu (show i+j<l.length by omega)] at h1 h4
  rw [List.getElem_drop]
  omega
 refine ⟨i,by omega,rfl,⟨fun h=> ?_,fun h=> ?_⟩,fun h=>⟨htake,hdrop h⟩⟩
 ·obtain ⟨b1,b2⟩:=a4 h
  rw [←b2];exact bH (by omega)
 ·cases hb:rb with
  | true=>rfl
  | false=>
   rw [←List.take_append_drop i l] at h
   rcases List.mem_append.1 h with h|h
   ·have:=htake _ h;omega
   ·have:=hdrop hb _ h;omega
theorem EQ (l:List au) (m:aD):oa l m=l.any fun s=>(dq m.Blocked s.Coin.A).2:=by
 unfold oa ut
 exact iv (C:=fun s=>nZ s m) (fun ag p=>rfl)
theorem Ok (l:List bh) (m:aD):qG l m=l.any fun c=>oc c m:=by
 unfold qG uu
 exact iv (fun ag p=>rfl)
theorem ER (m:aD) (p:aK):kE m p=(ft p).any fun s=>(dq m.Blocked s.Coin.A).2:=by
 have e: ∀c:bh,oc c m=(c.First::c.L).any fun s=>(dq m.Blocked s.Coin.A).2:=fun c=>by
  unfold oc nZ
  simp only [aa,EQ,List.any_cons]
  cases (dq m.Blocked c.First.Coin.A).2<;>simp
 unfold kE ft
 simp only [aa,EQ,Ok,List.any_append,List.any_flatMap,e]
 cases p.Spends.any fun s=>(dq m.Blocked s.Coin.A).2<;>simp
def mz (m:aD) (i:Nat) (a:Int):aD:={m with Blocked:=m.Blocked.take i++[a]++m.Blocked.drop i}
theorem Ol {m:aD} {i:Nat} {a:Int} (h:VP m) (hn:m.Blocked.length≠100) (hp:0<a) (h1: ∀x∈m.Blocked.take i,x<a) (h2: ∀x∈m.Blocked.drop i,a<x):VP (mz m i a):=by
 have hl:=h.len
 refine ⟨h.pol,h.now,h.next,⟨hl.1,hl.2.1,hl.2.2.1,?_⟩,?_,?_,h.inv,h.ord,h.pinv,h.pq,h.dis,h.pnd,h.tot⟩
 ·show (m.Blocked.take i++[a]++m.Blocked.drop i).length≤100
  rw [List.length_append,List.length_append,List.length_take,List.length_drop,List.length_singleton];omega
 ·show (m.Blocked.take i++[a]++m.Blocked.drop i).Pairwise (· < ·)
  have hs:=h.asb
  rw [←List.take_append_drop i m.Blocked,List.pairwise_append] at hs
  rw [List.append_assoc,List.pairwise_append]
  refine ⟨hs.1,?_,fun x hx y hy=> ?_⟩
  ·rw [List.singleton_append,List.pairwise_cons]
   exact ⟨h2,hs.2.1⟩
  ·rw [List.singleton_append] at hy
   rcases List.mem_cons.1 hy with rfl|hy
   ·exact h1 _ hx
   ·exact hs.2.2 _ hx _ hy
 ·intro x hx
  have hx:x∈m.Blocked.take i++[a]++m.Blocked.drop i:=hx
  rcases List.mem_append.1 hx with hx|hx
  ·rcases List.mem_append.1 hx with hx|hx
   ·exact h.pos _ (List.mem_of_mem_take hx)
   ·rw [List.mem_singleton.1 hx];exact hp
  ·exact h.pos _ (List.mem_of_mem_drop hx)
section
variable {b:aY} {l:List bg} {y:Int} {m:aD} {p:aK} {i:Nat}
theorem Om {a:Int} (h:VP m) (hp:0<a) (hf:(dq m.Blocked a).2=false):(iG m a).2=5∨ ∃j,iG m a=(mz m j a,0)∧VP (mz m j a):=by
 have hl:=h.len
 obtain ⟨j,j1,j2,_,j4⟩:=zT (l:=m.Blocked) (t:=a) (by omega) h.asb
 obtain ⟨k1,k2⟩:=j4 hf
 unfold iG
 rw [bF,qS.2 h,if_neg (by decide),if_neg (by simpa using hp),bF,hf,if_neg (by decide)]
 by_cases hn:m.Blocked.length=100
 ·rw [if_pos (by simp [hn])];exact .inl rfl
 ·rw [if_neg (by simpa using (show¬(m.Blocked.length:Int)=100 by omega)),bF,uH,bF,j2]
  exact .inr ⟨j,rfl,Ol h hn hp k1 k2⟩
theorem fu.refused (h:fu b l y m p i) {s:au} (hs:s∈ft p) {j:Nat} (hv:VP (mz m j s.Coin.A)):(dg b l y (mz m j s.Coin.A) p).2.2=16:=by
 have hb:kE (mz m j s.Coin.A) p=true:=by
  rw [ER,List.any_eq_true]
  refine ⟨s,hs,?_⟩
  obtain ⟨_,_,_,h3,_⟩:=zT (l:=(mz m j s.Coin.A).Blocked) (t:=s.Coin.A) (by have:=hv.len;omega) hv.asb
  refine h3.2 ?_
  show s.Coin.A∈m.Blocked.take j++[s.Coin.A]++m.Blocked.drop j
  simp
 rw [zQ (qS.2 hv) (show _=(i:Int) from h.idx) h.lt h.chk,if_neg]
 ·unfold qT
  rw [if_pos hb]
 ·rw [Bool.not_eq_true,List.any_eq_false]
  intro x hx
  have:=h.lvs x hx
  show¬(iD m.Queue).contains x=true
  rw [this];decide
theorem On {q:dp} {a n t hr sm:Int} (h:(gP q a n t hr sm).1=true):(gP q a n t hr sm).2= -1:=by
 revert h
 unfold gP
 simp only [aa]
 iterate 6
  split
  ·intro h;cases h
 intro h
 have h':=of_decide_eq_true h
 unfold tH at h'⊢
 rcases tu (C:=fun j=>pX (gt q.Rules j) a n t hr sm) (n:=(q.Rules.length:Int)) (d:=fun _=>default) (F:=fun (ag1:Int→Int) (p1:Int)=>(if (decide (p1<(q.Rules.length:Int))) then (aa (pX (gt q.Rules p1) a n t hr sm) (fun (x5:Bool)=>(if x5 then p1 else (ag1 (p1+1))))) else (-1))) (fun ag j=>by by_cases hj:j<(q.Rules.length:Int)<;>simp [hj,aa]) (((q.Rules.length:Int) - 0).toNat+1) 0 (by omega) (by omega) with ⟨h1,_⟩|⟨h1,_⟩
 ·exact h1
 ·exact absurd h' (Int.not_lt.2 h1)
theorem Oo {a:Int} (h:ky b a=true):0<a:=by
 unfold ky ql at h
 simp only [aa] at h
 obtain ⟨_,h⟩:=ifT h
 obtain ⟨h,_⟩:=ifF h
 have:=of_decide_eq_false h
 omega
theorem Oq {k:gN} {a:Int} {r:List Int} {s:gM} (h:qr b k a r s=true):0<a:=by
 unfold qr at h
 simp only [aa,eh] at h
 obtain ⟨_,h⟩:=ifT h
 exact Oo (ifT h).1
theorem Ot {r:bg} {c:bu} (h:qt b r c=true):0<c.A:=by
 unfold qt at h
 simp only [aa] at h
 obtain ⟨_,h⟩:=ifT h
 obtain ⟨_,h⟩:=ifT h
 obtain ⟨_,h⟩:=ifT h
 obtain ⟨_,h⟩:=ifT h
 obtain ⟨_,h⟩:=ifT h
 exact Oq h
theorem ES {r:bg} {s:au} (h:mh b r s=true):0<s.Coin.A:=by
 unfold mh at h
 rw [bF,eh] at h
 exact Ot (ifT h).1
theorem Ou {h:bh} (hv:mi b l h=true): ∀s∈h.First::h.L,0<s.Coin.A:=by
 unfold mi at hv
 rw [bF,eh] at hv
 obtain ⟨_,hv⟩:=ifT hv
 obtain ⟨_,hv⟩:=ifF hv
 rw [bF] at hv
 have e:go h=h.First::h.L:=rfl
 rw [e] at hv
 generalize h.First::h.L=L at hv
 revert hv
 refine fp (P:=fun i:Int=>0≤i∧ ∀j,0≤j→j<i→j<L.length→0<(gt L j).Coin.A) (Q:=fun r:Bool=>r=true→ ∀s∈L,0<s.Coin.A) (meas:=fun i=>((L.length:Int) - i).toNat) (fun ag i hi hag=> ?_) _ _ ⟨by show (0:Int)≤0;omega,fun j h0 (h1:j<0)=>by omega⟩ (by show ((L.length:Int) - 0).toNat<_;omega)
 by_cases hk:i<(L.length:Int)
 ·rw [if_pos (decide_eq_true hk),bF,eh]
  split
  ·rw [bF,eh]
   split
   ·rename_i hv
    have hp:=ES hv
    have hn:0≤i+1∧ ∀j,0≤j→j<i+1→j<L.length→0<(gt L j).Coin.A:=⟨by omega,fun j h0 h1 h2=>by
     by_cases ej:j=i
     ·rw [ej];exact hp
     ·exact hi.2 j h0 (by omega) h2⟩
    have hg:=hag (i+1) hn (by show ((L.length:Int) - (i+1)).toNat<((L.length:Int) - i).toNat;omega)
    simp only [aa]
    repeat' split
    all_goals first|exact hg|exact fun h=>Bool.noConfusion h
   ·exact fun h=>Bool.noConfusion h
  ·exact fun h=>Bool.noConfusion h
 ·rw [if_neg (by simpa using hk)]
  intro _ s hs
  obtain ⟨j,hj,rfl⟩:=List.getElem_of_mem hs
  have:=hi.2 (j:Int) (by omega) (by omega) (by omega)
  rwa [cu hj] at this
theorem Ov {v:aN} (h:kD ⟨b,l,y,v,p⟩=true): ∀s∈ft p,0<s.Coin.A:=by
 unfold kD at h
 rw [lX (n:=(p.Spends.length:Int)) (C:=fun i=>mh b (l8 ⟨b,l,y,v,p⟩ (gt p.Spends i).Coin).1 (gt p.Spends i)) (X:=ae (((p.Chains.length:Int) - 0).toNat+1) (fun (ag15:Int→Bool) (p15:Int)=>(if (decide (p15<(p.Chains.length:Int))) then (aa (mi b l (gt p.Chains p15)) (fun (x19:Bool)=>(if (!x19) then false else (ag15 (p15+1))))) else true)) (fun _=>default) 0) (fun ag i=>by
  by_cases hi:i<(p.Spends.length:Int)
  ·simp only [hi,decide_true,if_true,aa,eh]
  ·simp only [hi,decide_false,Bool.false_eq_true,if_false]) _ _ (by show ((p.Spends.length:Int) - 0).toNat<((p.Spends.length:Int) - 0).toNat+1;omega)] at h
 obtain ⟨h1,h2⟩:=h
 rw [lX (n:=(p.Chains.length:Int)) (C:=fun i=>mi b l (gt p.Chains i)) (X:=true) (fun ag i=>by
  by_cases hi:i<(p.Chains.length:Int)
  ·simp only [hi,decide_true,if_true,aa,eh]
  ·simp only [hi,decide_false,Bool.false_eq_true,if_false]) _ _ (by omega)] at h2
 intro s hs
 unfold ft at hs
 rcases List.mem_append.1 hs with hs|hs
 ·obtain ⟨j,hj,rfl⟩:=List.getElem_of_mem hs
  have:=h1 (j:Int) (by omega) (by omega)
  rw [cu hj] at this
  exact ES this
 ·obtain ⟨c,hc,hs⟩:=List.mem_flatMap.1 hs
  obtain ⟨j,hj,rfl⟩:=List.getElem_of_mem hc
  have:=h2.1 (j:Int) (by omega) (by omega)
  rw [cu hj] at this
  exact Ou this s hs
end
end Go.Proofs.YteibkofekpejgaaGreatDoor
namespace Go.Proofs.YteibkofekpejgaaGreatDoor
open Go.RowKit
theorem Ow {b:aY} {l:List bg} {y:Int} {m:aD} {p:aK} {i:Nat} (ht:fu b l y m p i) {L:List au} (hL:L=ft p) {F:(Int→Bool)→Int→Bool} {d:Int→Bool}
  (hF: ∀ag q,F ag q=(if (decide (q<(L.length:Int))) then (aa (gd (m.Blocked) ((gt L q).Coin.A)) (fun (x73:Bool)=>(if x73 then false else (aa (iG m ((gt L q).Coin.A)) (fun (x77:(aD×Int))=>(if (x77.2==5) then (ag (q+1)) else (aa (dg b l y (x77.1) p) (fun (x83:(aD×Int×Int))=>(if (x77.2 !=0) then false else (if (x83.2.2 !=16) then false else (ag (q+1)))))))))))) else true)):
  ae (((L.length:Int) - 0).toNat+1) F d 0=true:=by
 refine fp (P:=fun q:Int=>0≤q) (Q:=fun r:Bool=>r=true) (meas:=fun q=>((L.length:Int) - q).toNat) (fun ag q hq hag=> ?_) _ _ (Int.le_refl _) (by omega)
 rw [hF]
 by_cases hk:q<(L.length:Int)
 ·have hmem:gt L q∈ft p:=hL▸bH (by omega)
  have hpos:=Ov (EA ht.chk).2.2.1 _ hmem
  have hb:=ht.blo
  rw [ER,List.any_eq_false] at hb
  have hf:(dq m.Blocked (gt L q).Coin.A).2=false:=by simpa using hb _ hmem
  have hl:=ht.vp.len
  have hc:gd m.Blocked (gt L q).Coin.A=false:=by
   rw [Et,List.any_eq_false]
   intro x hx he
   obtain ⟨_,_,_,h3,_⟩:=zT (l:=m.Blocked) (t:=(gt L q).Coin.A) (by omega) ht.vp.asb
   have:=h3.2 ((eq_of_beq he)▸hx)
   rw [hf] at this;cases this
  have hg:=hag (q+1) (by show 0≤q+1;omega) (by show ((L.length:Int) - (q+1)).toNat<((L.length:Int) - q).toNat;omega)
  rw [if_pos (decide_eq_true hk),bF,hc,if_neg (by decide),bF]
  rcases Om ht.vp hpos hf with h5|⟨j,hj,hv⟩
  ·rw [if_pos (by rw [h5];rfl)];exact hg
  ·rw [hj,if_neg (by simp),bF,if_neg (by simp),ht.refused hmem hv,if_neg (by decide)]
   exact hg
 ·rw [if_neg (by simpa using hk)]
theorem Ox (b:aY) (l:List bg) (y:Int) (m:aD) (p:aK):ux b l y m p=true:=by
 unfold ux
 rw [bF,Od,if_neg (by decide),bF]
 cases h1:l5 m with
 | false=>rw [if_pos (by decide),bF]
 | true=>
 rw [if_neg (by decide),bF]
 cases h2:kt p with
 | false=>rw [if_pos (by decide),bF]
 | true=>
 rw [if_neg (by decide)]
 by_cases h4:(l.length:Int)>60
 ·rw [if_pos (decide_eq_true h4),bF]
 rw [if_neg (by simpa using h4),bF]
 by_cases h5:(dg b l y m p).2.2=0
 rotate_left
 ·obtain ⟨e1,e2⟩:=EJ h5
  rw [if_pos (by simpa using h5),bF,e1,Oa,if_pos rfl,e2];rfl
 rw [if_neg (by simp [h5])]
 obtain ⟨i,ht⟩:=EM h5
 have hamt:=ht.amt
 have hchk:=ht.chk
 have hacc:=ht.acc
 have hS:=zA h2
 have hs1:=hS.s.1
 have hs2:=hS.c.1
 rw [jd (by omega) (by omega)] at hacc
 have hidx:om m.Open p=i:=ht.idx
 have hops:mm p=iw (fun (h:bh) (s:Int)=> .inl (dT s (h.L.length:Int))) (fun s=>s) p.Chains 0:=by
  unfold mm
  exact CX (l:=p.Chains) (fun h s=> .inl (dT s (h.L.length:Int))) (fun s=>s) (fun ag j s=>by by_cases hj:j<(p.Chains.length:Int)<;>simp [hj])
 have hval:mq m=true:=by rw [←NV];exact qS.2 ht.vp
 rw [bF,hidx,if_neg (by simp),bF,hval,if_neg (by decide),bF]
 rw [ht.res]
 simp only
 rw [CX (l:=p.Chains) (fun h s=> .inl (dT s (h.L.length:Int))) (fun s=>(aa (gP (m.Policy) (cF b l y (gt m.Open (i:Int)) p).1 ((p.Spends.length:Int)+(p.Chains.length:Int)) s (cw .i64 (cm .i64 m.Now 3600) 24) (m.Total)) (fun (x52:(Bool×Int))=>(if ((cF b l y (gt m.Open (i:Int)) p).2 !=0) then false else (if ((cF b l y (gt m.Open (i:Int)) p).1 !=(cF b l y (gt m.Open (i:Int)) p).1) then false else (if ((cF b l y (gt m.Open (i:Int)) p).1 !=(gt m.Open (i:Int)).Amount) then false else (if (!x52.1) then false else (if (x52.2 !=(-1)) then false else (aa (l4 p) (fun (x66:(List au))=>(ae (((x66.length:Int) - 0).toNat+1) (fun (ag69:Int→Bool) (p69:Int)=>(if (decide (p69<(x66.length:Int))) then (aa (gd (m.Blocked) ((gt x66 p69).Coin.A)) (fun (x73:Bool)=>(if x73 then false else (aa (iG m ((gt x66 p69).Coin.A)) (fun (x77:(aD×Int))=>(if (x77.2==5) then (ag69 (p69+1)) else (aa (dg b l y (x77.1) p) (fun (x83:(aD×Int×Int))=>(if (x77.2 !=0) then false else (if (x83.2.2 !=16) then false else (ag69 (p69+1)))))))))))) else true)) (fun _=>default) 0)))))))))))
  (fun ag j s=>by by_cases hj:j<(p.Chains.length:Int)<;>simp only [hj,decide_true,decide_false,if_true,if_false,Bool.false_eq_true])]
 rw [jr]
 rw [jr] at hops
 rw [←hops,bF]
 have hh:l3 m.Now=cw .i64 (cm .i64 m.Now 3600) 24:=rfl
 rw [hh] at hacc
 rw [hchk,if_neg (by decide),if_neg (by simp),if_neg (by simp [hamt]),hacc,if_neg (by decide),On hacc,if_neg (by decide),bF]
 exact Ow ht (DC p) (fun _ _=>rfl)
end Go.Proofs.YteibkofekpejgaaGreatDoor
