/- Texts of this proof, one after the other: U2. -/
import Derived.Test.YteibkofekpejgaaGreatDoorZ13
set_option linter.unusedVariables false
set_option linter.unusedSimpArgs false
set_option maxHeartbeats 2000000
set_option maxRecDepth 100000
namespace Go.Proofs.YteibkofekpejgaaGreatDoor
open Go.RowKit
set_option linter.unusedSimpArgs false
instance SC (b:aY) (k_:gN):CM En (nH b k_) 121 [(bL b),.agg [.int .i64 k_.H,.int .i64 k_.H1,.int .i64 k_.H2]] (fun y=> .bool y) (fun _=> []):=by
 refine enQ noJ Tryz.func121 Tryz.ntmps121 (nH.eq_1 ..) fun r hw=> ?_
 exact auR
instance SD (b:aY) (r_:bg):CM En (nI b r_) 95 [(bL b),(cD r_)] (fun y=> .bool y) (fun _=> []):=by
 refine enQ noJ Tryz.func95 Tryz.ntmps95 (nI.eq_1 ..) fun r hw=> ?_
 exact auR
theorem MQ (k_:cj) (hp0:okK k_):CM En (nJ k_) 52 [(bE k_)] (fun y=> .bool y) (fun _=> []):=by
 refine enQ noJ Tryz.func52 Tryz.ntmps52 (nJ.eq_1 ..) fun r hw=> ?_
 have h0_0:=fI hp0
 intro hF hM
 replace hM:=aF hM;obtain ⟨f1,d1,hf1,hd1,hM⟩:=hM
 refine aL (fun n S=> ∃p:Int,S=(⟨[(1,.ptr 0 0),(6,.sl none 11 true (k_.l.map cD)),(7,.int .i64 (k_.l.length:Int)),(8,.int .i64 p)],[(0,.var 47 true ((bE k_)))],1⟩:St)∧((0≤p)∧(p≤(k_.l.length:Int)))∧((k_.l.length:Int) - p).toNat<n∧ae n f1 d1 p=r) (((k_.l.length:Int) - 0).toNat+1) _ sbQ sbQ ⟨0,rfl,⟨omQ,omQ⟩,(Nat.lt_succ_self _),hM⟩ ?_
 clear hM
 rintro n1 S ⟨p1,rfl,hfa1,hm1,hM⟩
 replace hM:=aG hM (by omega) hf1;obtain ⟨ag1,hag1,hM⟩:=hM
 replace hfa1:=nzQ hfa1
 replace hm1:=nzQ hm1
 have ha1:al .i64 p1 1=p1+1:=aJ omQ omQ
 replace hF:=(And.intro ha1 hF)
 revert hM;revert hF
 refine slQ ?_
 refine aq fun _ _ _=> ?_
 refine ax fun _ _ _ _=> ?_
 refine az fun _ _ _=> ?_
 intro hF hM
 refine aC (n1 - 1) _ (by omega) sbQ sbQ ⟨(p1+1),rfl,⟨omQ,omQ⟩,omQ,aB hM hag1⟩
set_option maxRecDepth 512 in
instance (priority:=1015):DRD 5 27 7 [17,18,19,20,21,22,23] [] ([[],[],[1],[1,2],[0,1,2,3],[],[5]]++[List.range 7,List.range 8]) [(4,1)]:=⟨trivial⟩
theorem D9 (p_:aK) (hp0:dC p_):CM En (kz p_) 54 [.agg [.int .i64 p_.Number,.sl none 80 true (p_.Spends.map aQ),.sl none 81 true (p_.Chains.map bl),.sl none 5 true (p_.Escrow.map bQ)]] (fun y=> .sl none 80 true (y.map aQ)) (fun _=> []):=by
 refine enQ noJ Tryz.func54 Tryz.ntmps54 (kz.eq_1 ..) fun r hw=> ?_
 have hG0:=hp0.s.1
 have hG1:=hp0.c.1
 refine slQ ?_
 intro hF hM
 replace hM:=aF hM;obtain ⟨f1,d1,hf1,hd1,hM⟩:=hM
 refine aL (fun n S=> ∃p:Int×List au,S=(⟨[(3,.own 1),(11,.sl none 81 true (p_.Chains.map bl)),(12,.int .i64 (p_.Chains.length:Int)),(13,.int .i64 p.1)],[(1,.own 71 80 true none (p.2.map aQ))],2⟩:St)∧(((0≤p.1)∧(p.1≤(p_.Chains.length:Int)))∧(((p.2).length:Int)≤60+13*p.1))∧((p_.Chains.length:Int) - p.1).toNat<n∧ae n f1 d1 p=r) (((p_.Chains.length:Int) - 0).toNat+1) _ sbQ sbQ ⟨(0,(([]:List au)++p_.Spends)),rfl,⟨⟨by (first|exact omQ|(clear hM;first|(have h9:=hp0.s.1;have h8:=hp0.c.1;exact ao)|(have h9:=hp0.s.1;have h8:=hp0.c.1;have h7:=(hp0.c.2 _ (bH (l:=p_.Chains) (i:=p1.1) (by omega))).1;exact ao))),by (first|exact omQ|(clear hM;first|(have h9:=hp0.s.1;have h8:=hp0.c.1;exact ao)|(have h9:=hp0.s.1;have h8:=hp0.c.1;have h7:=(hp0.c.2 _ (bH (l:=p_.Chains) (i:=p1.1) (by omega))).1;exact ao)))⟩,by (have h9:=hp0.s.1;exact ao)⟩,(Nat.lt_succ_self _),hM⟩ ?_
 clear hM
 rintro n1 S ⟨p1,rfl,⟨hfa1,hF3_0⟩,hm1,hM⟩
 have hG2:=hp0.s.1
 have hG3:=hp0.c.1
 have hA0:=fun a0=>(hp0.c.2 _ (bH (l:=p_.Chains) (i:=p1.1) a0)).1
 have hG4:=hp0.s.1
 have hG5:=hp0.c.1
 have hA1:=fun a0=>(hp0.c.2 _ (bH (l:=p_.Chains) (i:=(p1.1+1)) a0)).1
 replace hM:=aG hM (by omega) hf1;obtain ⟨ag1,hag1,hM⟩:=hM
 replace hfa1:=nzQ hfa1
 replace hm1:=nzQ hm1
 have ha1:al .i64 p1.1 1=p1.1+1:=aJ (by exact omA) (by exact omA)
 replace hF:=(And.intro ha1 hF)
 revert hM;revert hF
 refine slQ ?_
 refine aq fun _ _ _=> ?_
 intro hF hM
 refine JT (n1 - 1) _ _ (by omega) (Kt (S:=⟨_,_,_⟩) 3 1 7 (T:=71) (n:=80) (g:=true) (z:=(g8 ((gt p_.Chains p1.1).L.map aQ))) (l:=((p1.2++([(gt p_.Chains p1.1).First]:List au))++(gt p_.Chains p1.1).L).map aQ) (an hF) (an hF) (by first|decide|(dsimp only;decide)) (by decide)) sbQ sbQ ⟨((p1.1+1),((p1.2++([(gt p_.Chains p1.1).First]:List au))++(gt p_.Chains p1.1).L)),rfl,⟨⟨by exact omA,by exact omA⟩,by (have h7:=(hp0.c.2 _ (bH (l:=p_.Chains) (i:=p1.1) (by omega))).1;clear hM;exact ao)⟩,by exact omA,aB hM hag1⟩
theorem MR (c0:aK) (hp0:dC c0):CM En (tP c0) 53 [.pp 4 true (.agg [.int .i64 c0.Number,.sl none 80 true (c0.Spends.map aQ),.sl none 81 true (c0.Chains.map bl),.sl none 5 true (c0.Escrow.map bQ)])] (fun y=> .bool y) (fun _=> []):=by
 refine enQ noJ Tryz.func53 Tryz.ntmps53 (tP.eq_1 ..) fun r hw=> ?_
 intro hF hM
 replace hM:=aw hM;obtain ⟨x1,hx2,hM⟩:=hM
 have hcx1:=cmH hx2 (D9 c0 (by (exact hp0)))
 refine aP hcx1 clQ clQ (fun hw3=> ?_)
 replace hw3:=nzQ hw3
 exact auP
instance MS (c0:aK) (c1:aN):CM En (qm c0 c1) 55 [.pp 4 true (.agg [.int .i64 c0.Number,.sl none 80 true (c0.Spends.map aQ),.sl none 81 true (c0.Chains.map bl),.sl none 5 true (c0.Escrow.map bQ)]),.pp 35 true ((aZ c1))] (fun y=> .bool y) (fun _=> []):=by
 refine enQ noJ Tryz.func55 Tryz.ntmps55 (qm.eq_1 ..) fun r hw=> ?_
 exact auR
theorem D_ (k_:cj) (hp0:okK k_):CM En (nK k_) 99 [(bE k_)] (fun y=> .sl none 41 true (y.map dR)) (fun _=> []):=by
 refine enQ noJ Tryz.func99 Tryz.ntmps99 (nK.eq_1 ..) fun r hw=> ?_
 have h0_0:=fI hp0
 intro hF hM
 replace hM:=aF hM;obtain ⟨f1,d1,hf1,hd1,hM⟩:=hM
 refine dZ (fun n S=> ∃p:Int×List bu,S=(⟨[(1,.ptr 0 0),(3,.own 1),(10,.sl none 80 true (k_.p.Spends.map aQ)),(11,.int .i64 (k_.p.Spends.length:Int)),(12,.int .i64 p.1)],[(0,.var 47 true ((bE k_))),(1,.own 61 41 true none (p.2.map dR))],2⟩:St)∧((0≤p.1)∧(p.1≤(k_.p.Spends.length:Int))∧(((p.2).length:Int)≤p.1))∧((k_.p.Spends.length:Int) - p.1).toNat<n∧ae n f1 d1 p=r) (((k_.p.Spends.length:Int) - 0).toNat+1) _ _ (gI 3 61 rfl (by decide)) sbQ sbQ ⟨(0,([]:List bu)),rfl,⟨omQ,omQ,omQ⟩,(Nat.lt_succ_self _),hM⟩ ?_
 clear hM
 rintro n1 S ⟨p1,rfl,hfa1,hm1,hM⟩
 replace hM:=aG hM (by omega) hf1;obtain ⟨ag1,hag1,hM⟩:=hM
 replace hfa1:=nzQ hfa1
 replace hm1:=nzQ hm1
 have ha1:al .i64 p1.1 1=p1.1+1:=aJ omQ omQ
 replace hF:=(And.intro ha1 hF)
 revert hM;revert hF
 refine slQ ?_
 refine cdQ (fun _ _ _=> ?_) (fun _ _ _=> ?_)
 ·intro hF hM
  refine aC (n1 - 1) _ (by omega) sbQ sbQ ⟨((p1.1+1),(p1.2++([(gt k_.p.Spends p1.1).Coin]:List bu))),rfl,⟨omQ,omQ,omQ⟩,omQ,aB hM hag1⟩
 ·intro hF hM
  replace hM:=aF hM;obtain ⟨f6,d6,hf6,hd6,hM⟩:=hM
  refine aL (fun n S=> ∃p:Int×List bu,S=(⟨[(3,.own 1),(24,.sl none 81 true (k_.p.Chains.map bl)),(25,.int .i64 (k_.p.Chains.length:Int)),(26,.int .i64 p.1)],[(1,.own 61 41 true none (p.2.map dR))],2⟩:St)∧((0≤p.1)∧(p.1≤(k_.p.Chains.length:Int))∧(((p.2).length:Int)≤p.1+(p1.2).length))∧((k_.p.Chains.length:Int) - p.1).toNat<n∧ae n f6 d6 p=r) (((k_.p.Chains.length:Int) - 0).toNat+1) _ sbQ sbQ ⟨(0,p1.2),rfl,⟨omQ,omQ,omQ⟩,(Nat.lt_succ_self _),hM⟩ ?_
  clear hM
  rintro n6 S ⟨p6,rfl,hfa6,hm6,hM⟩
  replace hM:=aG hM (by omega) hf6;obtain ⟨ag6,hag6,hM⟩:=hM
  replace hfa6:=nzQ hfa6
  replace hm6:=nzQ hm6
  have ha6:al .i64 p6.1 1=p6.1+1:=aJ omQ omQ
  replace hF:=(And.intro ha6 hF)
  revert hM;revert hF
  refine slQ ?_
  refine aq fun _ _ _=> ?_
  intro hF hM
  refine aC (n6 - 1) _ (by omega) sbQ sbQ ⟨((p6.1+1),(p6.2++([(gt k_.p.Chains p6.1).First.Coin]:List bu))),rfl,⟨omQ,omQ,omQ⟩,omQ,aB hM hag6⟩
instance SE (r_:bg) (c0:Int) (c1:Int) (c2:Int):CM En (xW r_ c0 c1 c2) 149 [(cD r_),.pp 1 false (.int .i64 c0),.pp 1 false (.int .i64 c1),.pp 1 false (.int .i64 c2)] (fun y=> .bool y) (fun _=> []):=by
 refine enQ noJ Tryz.func149 Tryz.ntmps149 (xW.eq_1 ..) fun r hw=> ?_
 exact auR
instance SF (s:(List bg)) (f__c0:Int) (f__c1:Int) (f__c2:Int):CM En (tQ s f__c0 f__c1 f__c2) 148 [.sl none 11 true (s.map cD),.fn 149 [.pp 1 false (.int .i64 f__c0),.pp 1 false (.int .i64 f__c1),.pp 1 false (.int .i64 f__c2)]] (fun y=> .int .i64 y) (fun _=> []):=by
 refine enQ noJ Tryz.func148 Tryz.ntmps148 (tQ.eq_1 ..) fun r hw=> ?_
 intro hF hM
 replace hM:=aF hM;obtain ⟨f1,d1,hf1,hd1,hM⟩:=hM
 refine aL (fun n S=> ∃p:Int,S=(⟨[(0,.sl none 11 true (s.map cD)),(1,.fn 149 [.pp 1 false (.int .i64 f__c0),.pp 1 false (.int .i64 f__c1),.pp 1 false (.int .i64 f__c2)]),(7,.int .i64 (s.length:Int)),(8,.int .i64 p)],[],0⟩:St)∧((0≤p)∧(p≤(s.length:Int)))∧((s.length:Int) - p).toNat<n∧ae n f1 d1 p=r) (((s.length:Int) - 0).toNat+1) _ sbQ sbQ ⟨0,rfl,⟨omQ,omQ⟩,(Nat.lt_succ_self _),hM⟩ ?_
 clear hM
 rintro n1 S ⟨p1,rfl,hfa1,hm1,hM⟩
 replace hM:=aG hM (by omega) hf1;obtain ⟨ag1,hag1,hM⟩:=hM
 replace hfa1:=nzQ hfa1
 replace hm1:=nzQ hm1
 have ha1:al .i64 p1 1=p1+1:=aJ omQ omQ
 replace hF:=(And.intro ha1 hF)
 revert hM;revert hF
 refine slQ ?_
 refine aq fun _ _ _=> ?_
 refine ax fun _ _ _ _=> ?_
 refine az fun _ _ _=> ?_
 intro hF hM
 refine aC (n1 - 1) _ (by omega) sbQ sbQ ⟨(p1+1),rfl,⟨omQ,omQ⟩,omQ,aB hM hag1⟩
instance SG (l:(List bg)) (bank:Int) (epoch:Int) (number:Int):CM En (nL l bank epoch number) 124 [.sl none 11 true (l.map cD),.int .i64 bank,.int .i64 epoch,.int .i64 number] (fun y=> .int .i64 y) (fun _=> []):=by
 refine enQ noJ Tryz.func124 Tryz.ntmps124 (nL.eq_1 ..) fun r hw=> ?_
 exact auR
theorem uN (k_:cj) (c:bu) (hp0:okK k_):CM En (l8 k_ c) 100 [(bE k_),(dR c)] (fun y=> .tup [(cD y.1),.bool y.2]) (fun _=> []):=by
 refine enQ noJ Tryz.func100 Tryz.ntmps100 (l8.eq_1 ..) fun r hw=> ?_
 have h0_0:=fI hp0
 refine ax fun _ hx2 _ _=> ?_
 have hq4:=DQ hx2
 replace hq4:=nzQ hq4
 exact auR
theorem MT (k_:cj) (hp0:okK k_):CM En (tR k_) 56 [(bE k_)] (fun y=> .bool y) (fun _=> []):=by
 refine enQ noJ Tryz.func56 Tryz.ntmps56 (tR.eq_1 ..) fun r hw=> ?_
 have h0_0:=fI hp0
 intro hF hM
 replace hM:=aw hM;obtain ⟨x1,hx2,hM⟩:=hM
 have hcx1:=cmH hx2 (D_ k_ (by (exact hp0)))
 refine aP hcx1 clQ clQ (fun hw3=> ?_)
 replace hw3:=nzQ hw3
 revert hM;revert hF
 refine slQ ?_
 have hq4:=DS hp0 hx2
 replace hq4:=nzQ hq4
 intro hF hM
 replace hM:=aF hM;obtain ⟨f5,d5,hf5,hd5,hM⟩:=hM
 refine aL (fun n S=> ∃p:Int,S=(⟨[(1,.ptr 0 0),(8,.sl none 41 true (x1.map dR)),(9,.int .i64 (x1.length:Int)),(10,.int .i64 p)],[(0,.var 47 true ((bE k_)))],1⟩:St)∧((0≤p)∧(p≤(x1.length:Int)))∧((x1.length:Int) - p).toNat<n∧ae n f5 d5 p=r) (((x1.length:Int) - 0).toNat+1) _ sbQ sbQ ⟨0,rfl,⟨omQ,omQ⟩,(Nat.lt_succ_self _),hM⟩ ?_
 clear hM
 rintro n5 S ⟨p5,rfl,hfa5,hm5,hM⟩
 replace hM:=aG hM (by omega) hf5;obtain ⟨ag5,hag5,hM⟩:=hM
 replace hfa5:=nzQ hfa5
 replace hm5:=nzQ hm5
 have ha5:al .i64 p5 1=p5+1:=aJ omQ omQ
 replace hF:=(And.intro ha5 hF)
 revert hM;revert hF
 refine slQ ?_
 refine aq fun _ _ _=> ?_
 intro hF hM
 replace hM:=aw hM;obtain ⟨x9,hx10,hM⟩:=hM
 have hcx9:=cmH hx10 (uN k_ (gt x1 p5) (by (exact hp0)))
 refine aP hcx9 (an hF) (an hF) (fun hw11=> ?_)
 replace hw11:=nzQ hw11
 revert hM;revert hF
 refine slQ ?_
 refine az fun _ _ _=> ?_
 intro hF hM
 refine aC (n5 - 1) _ (by omega) sbQ sbQ ⟨(p5+1),rfl,⟨omQ,omQ⟩,omQ,aB hM hag5⟩
instance SI (b:aY) (x_:Int):CM En (xX b x_) 181 [(bL b),.int .i64 x_] (fun y=> .bool y) (fun _=> []):=by
 refine enQ noJ Tryz.func181 Tryz.ntmps181 (xX.eq_1 ..) fun r hw=> ?_
 exact auR
instance SJ (b:aY) (l:(List Int)):CM En (xY b l) 219 [(bL b),.sl none 1 false (l.map (V.int .i64))] (fun y=> .bool y) (fun _=> []):=by
 refine enQ noJ Tryz.func219 Tryz.ntmps219 (xY.eq_1 ..) fun r hw=> ?_
 intro hF hM
 replace hM:=aF hM;obtain ⟨f1,d1,hf1,hd1,hM⟩:=hM
 refine aL (fun n S=> ∃p:Int,S=(⟨[(2,.ptr 0 0),(7,.sl none 1 false (l.map (V.int .i64))),(8,.int .i64 (l.length:Int)),(9,.int .i64 p)],[(0,.var 6 true ((bL b)))],1⟩:St)∧((0≤p)∧(p≤(l.length:Int)))∧((l.length:Int) - p).toNat<n∧ae n f1 d1 p=r) (((l.length:Int) - 0).toNat+1) _ sbQ sbQ ⟨0,rfl,⟨omQ,omQ⟩,(Nat.lt_succ_self _),hM⟩ ?_
 clear hM
 rintro n1 S ⟨p1,rfl,hfa1,hm1,hM⟩
 replace hM:=aG hM (by omega) hf1;obtain ⟨ag1,hag1,hM⟩:=hM
 replace hfa1:=nzQ hfa1
 replace hm1:=nzQ hm1
 have ha1:al .i64 p1 1=p1+1:=aJ omQ omQ
 replace hF:=(And.intro ha1 hF)
 revert hM;revert hF
 refine slQ ?_
 refine aq fun _ _ _=> ?_
 refine ax fun _ _ _ _=> ?_
 refine az fun _ _ _=> ?_
 intro hF hM
 refine aC (n1 - 1) _ (by omega) sbQ sbQ ⟨(p1+1),rfl,⟨omQ,omQ⟩,omQ,aB hM hag1⟩
instance SK (n_:Int):CM En (l9 n_) 220 [.int .i64 n_] (fun y=> .agg [.int .i64 y.Kind,.int .i64 y.N,.sl none 1 false (y.B.map (V.int .u8)),.sl none 4 true (y.L.map bv)]) (fun _=> []):=by
 refine enQ noJ Tryz.func220 Tryz.ntmps220 (l9.eq_1 ..) fun r hw=> ?_
 exact auR
theorem MU (N:Nat) (ih: ∀(i_:am) (depth:Int),hgt i_<N→aW En 222 [.agg [.int .i64 i_.Kind,.int .i64 i_.N,.sl none 1 false (i_.B.map (V.int .u8)),.sl none 4 true (i_.L.map bv)],.int .i64 depth] (.bool (ga i_ depth)) []) (x_:am) (c0:Int) (hp0:hgt x_<N) (hp1:0<c0):aW En 248 [.agg [.int .i64 x_.Kind,.int .i64 x_.N,.sl none 1 false (x_.B.map (V.int .u8)),.sl none 4 true (x_.L.map bv)],.pp 1 false (.int .i64 c0)] (.bool (me x_ c0)) []:=by
 generalize hM:me x_ c0=r
 rw [me.eq_1] at hM
 refine ci aV bP noJ Tryz.func248 rfl Tryz.ntmps248 (by kernel_rfl) fun hw=>bR ?_
 refine spQ ?_
 replace hw:=nzQ hw
 have ha1:aA .i64 c0 1=(c0 - 1):=du omQ omQ
 try simp only [ha1]
 replace hM:=aw hM;obtain ⟨x2,hx3,hM⟩:=hM
 have hcx2:=ih x_ (c0 - 1) (by omega)
 rw [←hx3] at hcx2
 have hF:=ha1
 refine aP hcx2 (an hF) (an hF) (fun hw4=> ?_)
 replace hw4:=nzQ hw4
 exact auP
theorem MV (N:Nat) (ih: ∀(i_:am) (depth:Int),hgt i_<N→aW En 222 [.agg [.int .i64 i_.Kind,.int .i64 i_.N,.sl none 1 false (i_.B.map (V.int .u8)),.sl none 4 true (i_.L.map bv)],.int .i64 depth] (.bool (ga i_ depth)) []) (z0:Option Bool) (s:(List am)) (f__c0:Int) (hp0: ∀x∈s,hgt x<N) (hp1:0<f__c0):aW En 262 [.sl z0 4 true (s.map bv),.fn 248 [.pp 1 false (.int .i64 f__c0)]] (.int .i64 (tS s f__c0)) []:=by
 generalize hM:tS s f__c0=r
 rw [tS.eq_1] at hM
 refine ci aV bP noJ Tryz.func262 rfl Tryz.ntmps262 (by kernel_rfl) fun hw=>bR ?_
 refine spQ ?_
 replace hw:=nzQ hw
 replace hM:=aF hM;obtain ⟨f1,d1,hf1,hd1,hM⟩:=hM
 refine aL (fun n S=> ∃p:Int,S=(⟨[(0,.sl z0 4 true (s.map bv)),(1,.fn 248 [.pp 1 false (.int .i64 f__c0)]),(7,.int .i64 (s.length:Int)),(8,.int .i64 p)],[],0⟩:St)∧((0≤p)∧(p≤(s.length:Int)))∧((s.length:Int) - p).toNat<n∧ae n f1 d1 p=r) (((s.length:Int) - 0).toNat+1) _ sbQ sbQ ⟨0,rfl,⟨omQ,omQ⟩,(Nat.lt_succ_self _),hM⟩ ?_
 clear hM
 rintro n1 S ⟨p1,rfl,hfa1,hm1,hM⟩
 replace hM:=aG hM (by omega) hf1;obtain ⟨ag1,hag1,hM⟩:=hM
 replace hfa1:=nzQ hfa1
 replace hm1:=nzQ hm1
 have ha1:al .i64 p1 1=p1+1:=aJ omQ omQ
 have hF:=ha1
 revert hM;revert hF
 refine slQ ?_
 refine aq fun _ _ _=> ?_
 intro hF hM
 replace hM:=aw hM;obtain ⟨x5,hx6,hM⟩:=hM
 have hcx5:=MU N ih (gt s p1) f__c0 (by (first|exact hp1|exact hp0 _ (bH (by omega)))) (by (first|exact hp1|exact hp0 _ (bH (by omega))))
 rw [←hx6] at hcx5
 refine aP hcx5 (an hF) (an hF) (fun hw7=> ?_)
 replace hw7:=nzQ hw7
 revert hM;revert hF
 refine slQ ?_
 refine az fun _ _ _=> ?_
 intro hF hM
 refine aC (n1 - 1) _ (by omega) sbQ sbQ ⟨(p1+1),rfl,⟨omQ,omQ⟩,omQ,aB hM hag1⟩
theorem MW (N:Nat) (ih: ∀(i_:am) (depth:Int),hgt i_<N→aW En 222 [.agg [.int .i64 i_.Kind,.int .i64 i_.N,.sl none 1 false (i_.B.map (V.int .u8)),.sl none 4 true (i_.L.map bv)],.int .i64 depth] (.bool (ga i_ depth)) []) (z0:Option Bool) (s:(List am)) (f__c0:Int) (hp0: ∀x∈s,hgt x<N) (hp1:0<f__c0):aW En 247 [.sl z0 4 true (s.map bv),.fn 248 [.pp 1 false (.int .i64 f__c0)]] (.bool (nM s f__c0)) []:=by
 generalize hM:nM s f__c0=r
 rw [nM.eq_1] at hM
 refine ci aV bP noJ Tryz.func247 rfl Tryz.ntmps247 (by kernel_rfl) fun hw=>bR ?_
 refine spQ ?_
 replace hw:=nzQ hw
 replace hM:=aw hM;obtain ⟨x1,hx2,hM⟩:=hM
 have hcx1:=MV N ih z0 s f__c0 (by (first|exact hp1|exact hp0)) (by (first|exact hp1|exact hp0))
 rw [←hx2] at hcx1
 refine aP hcx1 clQ clQ (fun hw3=> ?_)
 replace hw3:=nzQ hw3
 have hF:=nn
 exact auP
theorem MX (N:Nat) (ih: ∀(i_:am) (depth:Int),hgt i_<N→aW En 222 [.agg [.int .i64 i_.Kind,.int .i64 i_.N,.sl none 1 false (i_.B.map (V.int .u8)),.sl none 4 true (i_.L.map bv)],.int .i64 depth] (.bool (ga i_ depth)) []) (i_:am) (depth:Int) (hp_:hgt i_<N+1):aW En 222 [.agg [.int .i64 i_.Kind,.int .i64 i_.N,.sl none 1 false (i_.B.map (V.int .u8)),.sl none 4 true (i_.L.map bv)],.int .i64 depth] (.bool (qn i_ depth)) []:=by
 generalize hM:qn i_ depth=r
 rw [qn.eq_1] at hM
 refine ci aV bP noJ Tryz.func222 rfl Tryz.ntmps222 (by kernel_rfl) fun hw=>bR ?_
 refine spQ ?_
 replace hw:=nzQ hw
 have hF:=nn
 revert hM;revert hF
 refine az fun _ _ _=> ?_
 refine az fun _ _ _=> ?_
 refine aq fun _ _ _=> ?_
 refine aq fun _ _ _=> ?_
 refine aq fun _ _ _=> ?_
 refine aq fun _ _ _=> ?_
 refine aq fun _ _ _=> ?_
 intro hF hM
 replace hM:=aw hM;obtain ⟨x23,hx24,hM⟩:=hM
 have hcx23:=MW N ih none (i_.L) depth (by (first|omega|exact fun x hx=>Nat.lt_of_lt_of_le (tx hx) (Nat.lt_succ_iff.1 hp_))) (by (first|omega|exact fun x hx=>Nat.lt_of_lt_of_le (tx hx) (Nat.lt_succ_iff.1 hp_)))
 rw [←hx24] at hcx23
 refine fD hcx23 clQ clQ (fun hw25=> ?_)
 replace hw25:=nzQ hw25
 exact auP
set_option maxRecDepth 512 in
theorem MY: ∀(N:Nat) (i_:am) (depth:Int),hgt i_<N→aW En 222 [.agg [.int .i64 i_.Kind,.int .i64 i_.N,.sl none 1 false (i_.B.map (V.int .u8)),.sl none 4 true (i_.L.map bv)],.int .i64 depth] (.bool (ga i_ depth)) []:=by
 intro N
 induction N with
 | zero=>intro i_ depth h;exact absurd h (Nat.not_lt_zero _)
 | succ N ih=>
  intro i_ depth h
  have h9:=MX N ih i_ depth h
  rw [Lw] at h9
  exact h9
set_option maxRecDepth 512 in
theorem MZ (i_:am) (depth:Int):aW En 222 [.agg [.int .i64 i_.Kind,.int .i64 i_.N,.sl none 1 false (i_.B.map (V.int .u8)),.sl none 4 true (i_.L.map bv)],.int .i64 depth] (.bool (ga i_ depth)) []:=
 MY (hgt i_+1) i_ depth (Nat.lt_succ_self _)
instance SL (i_:am):CM En (xZ i_) 185 [.agg [.int .i64 i_.Kind,.int .i64 i_.N,.sl none 1 false (i_.B.map (V.int .u8)),.sl none 4 true (i_.L.map bv)]] (fun y=> .bool y) (fun _=> []):=by
 refine enQ noJ Tryz.func185 Tryz.ntmps185 (xZ.eq_1 ..) fun r hw=> ?_
 intro hF hM
 replace hM:=aw hM;obtain ⟨x1,hx2,hM⟩:=hM
 have hcx1:=MZ i_ 8
 rw [←hx2] at hcx1
 refine aP hcx1 clQ clQ (fun hw3=> ?_)
 replace hw3:=nzQ hw3
 exact auP
theorem zE (z0:Option Bool) (out:(List Int)) (n_:Int) (size:Int) (hp0:size≤8) (hp1:out.length≤1000000000) (hp2:0≤size):ee En 223 [.own 0,.int .u64 n_,.int .i64 size] [.own 5 1 false z0 (out.map (V.int .u8))] (.own 0) [.own 5 1 false none ((ju out n_ size).map (V.int .u8))] []:=by
 generalize hM:ju out n_ size=r
 rw [ju.eq_1] at hM
 refine pH aV bP noJ Tryz.func223 rfl Tryz.ntmps223 (by kernel_rfl) rfl fun ks hw hwB=>bR ?_
 refine spQ ?_
 replace hw:=nzQ hw
 replace hwB:=nzB hwB
 have ha1:aA .i64 size 1=(size - 1):=du omQ omQ
 try simp only [ha1]
 replace hM:=aF hM;obtain ⟨f2,d2,hf2,hd2,hM⟩:=hM
 refine aL (fun n S=> ∃p:Int×List Int,S=(⟨[(0,.own 0),(1,.int .u64 n_),(7,.int .i64 p.1)],[(0,.own 5 1 false none (p.2.map (V.int .u8)))],1⟩:St)∧((-1≤p.1)∧(p.1<8)∧(((p.2).length:Int)+p.1≤1000000020))∧(p.1+1).toNat<n∧ae n f2 d2 p=r) (((size - 1)+1).toNat+1) _ sbQ sbQ ⟨((size - 1),out),rfl,⟨omQ,omQ,omQ⟩,(Nat.lt_succ_self _),hM⟩ ?_
 clear hM
 rintro n2 S ⟨p2,rfl,hfa2,hm2,hM⟩
 replace hM:=aG hM (by omega) hf2;obtain ⟨ag2,hag2,hM⟩:=hM
 replace hfa2:=nzQ hfa2
 replace hm2:=nzQ hm2
 have hF:=ha1
 revert hM;revert hF
 refine slQ ?_
 refine cdQ (fun _ _ _=> ?_) (fun _ _ _=> ?_)
 ·obtain ⟨ha5,hbha5⟩:=pA (a:=8) (b:=p2.1) 8 8 64 ao ao ao ao (by decide) (by decide)
  intro hF hM
  try simp only [ha5]
  replace hF:=(And.intro ha5 hF)
  revert hM;revert hF
  refine slQ ?_
  have ha6:aA .i64 p2.1 1=(p2.1 - 1):=du ao ao
  intro hF hM
  try simp only [ha6]
  refine aC (n2 - 1) _ (by omega) sbQ sbQ ⟨((p2.1 - 1),(p2.2++([(ah .u8 (ar .u64 n_ (8*p2.1)))]:List Int))),rfl,⟨omQ,omQ,omQ⟩,omQ,aB hM hag2⟩
 ·intro hF hM
  subst hM
  exact jl [0] (cN hF) (by decide) (cN hF)
set_option maxRecDepth 512 in
instance (priority:=1016):DRD 8 55 8 [28,29,30,31,32,33,34,35] [] ([[],[],[1],[1,2],[1,2,3],[0,1,2,3,4],[],[6]]++[List.range 8,List.range 9]) [(5,0)]:=⟨trivial⟩
theorem M0 (N:Nat) (ih: ∀(z0:Option Bool) (out:(List Int)) (i_:am),(hgt i_≤500000000)→hgt i_<N→ee En 186 [.own 0,.agg [.int .i64 i_.Kind,.int .i64 i_.N,.sl none 1 false (i_.B.map (V.int .u8)),.sl none 4 true (i_.L.map bv)]] [.own 5 1 false z0 (out.map (V.int .u8))] (.own 0) [.own 5 1 false none ((gc out i_).map (V.int .u8))] []) (z0:Option Bool) (out:(List Int)) (i_:am) (hp0:hgt i_≤500000000) (hp_:hgt i_<N+1):ee En 186 [.own 0,.agg [.int .i64 i_.Kind,.int .i64 i_.N,.sl none 1 false (i_.B.map (V.int .u8)),.sl none 4 true (i_.L.map bv)]] [.own 5 1 false z0 (out.map (V.int .u8))] (.own 0) [.own 5 1 false none ((qo out i_).map (V.int .u8))] []:=by
 generalize hM:qo out i_=r
 rw [qo.eq_1] at hM
 refine pH aV bP noJ Tryz.func186 rfl Tryz.ntmps186 (by kernel_rfl) rfl fun ks hw hwB=>bR ?_
 refine spQ ?_
 replace hw:=nzQ hw
 replace hwB:=nzB hwB
 have hG0:=C3 i_
 have hF:=nn
 revert hM;revert hF
 refine cdQ (fun _ _ _=> ?_) (fun _ _ _=> ?_)
 ·intro hF hM
  subst hM
  exact jl [0] (cN hF) (by decide) (cN hF)
 ·refine cdQ (fun _ _ _=> ?_) (fun _ _ _=> ?_)
  ·intro hF hM
   replace hM:=aw hM;obtain ⟨x6,hx7,hM⟩:=hM
   have hcx6:=zE (some false) (out++([(ah .u8 i_.Kind)]:List Int)) (ah .u64 i_.N) 8 (by (exact pfQ)) (by (exact pfQ)) (by (exact pfQ))
   rw [←hx7] at hcx6
   refine jk [0] hcx6 (by decide) lsQ lsQ (fun hw8=> ?_)
   replace hw8:=nzQ hw8
   revert hM;revert hF
   refine slQ ?_
   have hq9:=zh hx7
   replace hq9:=nzQ hq9
   intro hF hM
   subst hM
   exact jl [0] (cN hF) (by decide) (cN hF)
  ·refine cdQ (fun _ _ _=> ?_) (fun _ _ _=> ?_)
   ·intro hF hM
    replace hM:=aw hM;obtain ⟨x13,hx14,hM⟩:=hM
    have hcx13:=zE (some false) (out++([(ah .u8 i_.Kind)]:List Int)) (ah .u64 (i_.B.length:Int)) 4 (by (exact pfQ)) (by (exact pfQ)) (by (exact pfQ))
    rw [←hx14] at hcx13
    refine J_ 0 hcx13 lsQ lsQ lsQ (CN fun _=>lsQ) ?_
    revert hM;revert hF
    refine slQ ?_
    have hq15:=zh hx14
    replace hq15:=nzQ hq15
    refine slQ ?_
    intro hF hM
    subst hM
    exact jl [8] (cN hF) (by decide) (cN hF)
   ·intro hF hM
    replace hM:=aw hM;obtain ⟨x17,hx18,hM⟩:=hM
    have hcx17:=zE (some false) (out++([(ah .u8 i_.Kind)]:List Int)) (ah .u64 (i_.L.length:Int)) 4 (by (exact pfQ)) (by (exact pfQ)) (by (exact pfQ))
    rw [←hx18] at hcx17
    refine jk [0] hcx17 (by decide) lsQ lsQ (fun hw19=> ?_)
    replace hw19:=nzQ hw19
    revert hM;revert hF
    refine slQ ?_
    have hq20:=zh hx18
    replace hq20:=nzQ hq20
    intro hF hM
    replace hM:=aF hM;obtain ⟨f21,d21,hf21,hd21,hM⟩:=hM
    refine aL (fun n S=> ∃p:Int×List Int,S=(⟨[(0,.own 0),(44,.sl none 4 true (i_.L.map bv)),(45,.int .i64 (i_.L.length:Int)),(46,.int .i64 p.1)],[(0,.own 5 1 false none (p.2.map (V.int .u8)))],3⟩:St)∧((0≤p.1)∧(p.1≤(i_.L.length:Int)))∧((i_.L.length:Int) - p.1).toNat<n∧ae n f21 d21 p=r) (((i_.L.length:Int) - 0).toNat+1) _ sbQ sbQ ⟨(0,x17),rfl,⟨by exact omA,by exact omA⟩,(Nat.lt_succ_self _),hM⟩ ?_
    clear hM
    rintro n21 S ⟨p21,rfl,hfa21,hm21,hM⟩
    replace hM:=aG hM (by omega) hf21;obtain ⟨ag21,hag21,hM⟩:=hM
    replace hfa21:=nzQ hfa21
    replace hm21:=nzQ hm21
    have ha21:al .i64 p21.1 1=p21.1+1:=aJ (by exact omA) (by exact omA)
    replace hF:=(And.intro ha21 hF)
    revert hM;revert hF
    refine slQ ?_
    refine cdQ (fun _ _ _=> ?_) (fun _ _ _=> ?_)
    ·intro hF hM
     replace hM:=aw hM;obtain ⟨x25,hx26,hM⟩:=hM
     have hcx25:=ih none (p21.2) (gt i_.L p21.1) (by (have h9:=tx (i:=i_) (bH (l:=i_.L) (i:=p21.1) (by omega));omega)) (by (have h9:=tx (i:=i_) (bH (l:=i_.L) (i:=p21.1) (by omega));omega))
     rw [←hx26] at hcx25
     refine jk [0] hcx25 (by decide) (cN hF) (cN hF) (fun hw27=> ?_)
     replace hw27:=nzQ hw27
     exact auP
    ·intro hF hM
     subst hM
     exact jl [0] (cN hF) (by decide) (cN hF)
set_option maxRecDepth 512 in
theorem M2: ∀(N:Nat) (z0:Option Bool) (out:(List Int)) (i_:am),(hgt i_≤500000000)→hgt i_<N→ee En 186 [.own 0,.agg [.int .i64 i_.Kind,.int .i64 i_.N,.sl none 1 false (i_.B.map (V.int .u8)),.sl none 4 true (i_.L.map bv)]] [.own 5 1 false z0 (out.map (V.int .u8))] (.own 0) [.own 5 1 false none ((gc out i_).map (V.int .u8))] []:=by
 intro N
 induction N with
 | zero=>intro z0 out i_ h0 h;exact absurd h (Nat.not_lt_zero _)
 | succ N ih=>
  intro z0 out i_ h0 h
  have h9:=M0 N ih z0 out i_ h0 h
  rw [Ly] at h9
  exact h9
set_option maxRecDepth 512 in
theorem M8 (z0:Option Bool) (out:(List Int)) (i_:am) (hp0:hgt i_≤500000000):ee En 186 [.own 0,.agg [.int .i64 i_.Kind,.int .i64 i_.N,.sl none 1 false (i_.B.map (V.int .u8)),.sl none 4 true (i_.L.map bv)]] [.own 5 1 false z0 (out.map (V.int .u8))] (.own 0) [.own 5 1 false none ((gc out i_).map (V.int .u8))] []:=
 M2 (hgt i_+1) z0 out i_ hp0 (Nat.lt_succ_self _)
theorem kK (i_:am) (hp0:hgt i_≤500000000):CM En (gg i_) 151 [.agg [.int .i64 i_.Kind,.int .i64 i_.N,.sl none 1 false (i_.B.map (V.int .u8)),.sl none 4 true (i_.L.map bv)]] (fun y=> .tup [.sl none 1 false (y.1.map (V.int .u8)),.int .i64 y.2]) (fun _=> []):=by
 refine enQ noJ Tryz.func151 Tryz.ntmps151 (gg.eq_1 ..) fun r hw=> ?_
 refine ax fun _ _ _ _=> ?_
 refine az fun _ _ _=> ?_
 intro hF hM
 replace hM:=aw hM;obtain ⟨x7,hx8,hM⟩:=hM
 have hcx7:=Kf (pre:=[]) (post:=[_]) (M8 (some true) ([]:List Int) i_ (by (exact pfQ))) (by decide)
 rw [←hx8] at hcx7
 simp only [List.nil_append,List.cons_append] at hcx7
 refine JW hcx7 clQ (fun hw9=> ?_)
 replace hw9:=nzQ hw9
 exact auP
theorem Ea (z0:Option Bool) (s:List Int):aW En 168 [.sl z0 1 false (s.map (V.int .u8))] (.own 0) [.own 5 1 false none ((tT s).map (V.int .u8))]:=by
 show aW En 168 [.sl z0 1 false (s.map (V.int .u8))] (.own 0) [.own 5 1 false none (s.map (V.int .u8))]
 refine lH (pre:=[]) (post:=[]) (fun hl=> ?_) ?_ z0
 ·have hl:s=[]:=by cases s with|nil=>rfl|cons a s=>cases hl
  subst hl
  refine ci aV bP noJ Tryz.func168 rfl Tryz.ntmps168 (by kernel_rfl) fun hw=>bR ?_
  simp only [go_sem,co,cq,List.length_replicate,b_,Int.toNat_natCast,↓reduceIte,Nat.reduceEqDiff,Nat.reduceAdd,Int.reduceAdd,Nat.reduceMul,Nat.reduceLeDiff,Nat.reduceLT,Int.reduceLE,Int.reduceLT,Int.reduceNeg,Int.reduceToNat,List.nil_append]
  exact lG (by decide)
 ·refine ci aV bP noJ Tryz.func168 rfl Tryz.ntmps168 (by kernel_rfl) fun hw=>bR ?_
  simp only [go_sem,co,cq,List.length_replicate,b_,Int.toNat_natCast,↓reduceIte,Nat.reduceEqDiff,Nat.reduceAdd,Int.reduceAdd,Nat.reduceMul,Nat.reduceLeDiff,Nat.reduceLT,Int.reduceLE,Int.reduceLT,Int.reduceNeg,Int.reduceToNat,List.nil_append]
  have hn:s.length≤1073741824:=by have h:=hw;simp only [wfL,wfV,List.nil_append,fU,List.length_map] at h;exact h.1.1
  refine bA (by first|omega|(simp only [List.length_map,List.length_nil,List.nil_append];omega)) ?_
  refine spQ ?_
  refine lF 0 rfl clQ
instance SM (n_:Int):CM En (qp n_) 200 [.int .u64 n_] (fun y=> .sl none 1 false (y.map (V.int .u8))) (fun _=> []):=by
 refine enQ noJ Tryz.func200 Tryz.ntmps200 (qp.eq_1 ..) fun r hw=> ?_
 intro hF hM
 replace hM:=aF hM;obtain ⟨f1,d1,hf1,hd1,hM⟩:=hM
 refine aL (fun n S=> ∃p:Int×List Int,S=(⟨[(0,.int .u64 n_),(3,.own 0),(7,.int .i64 (8:Int)),(8,.int .i64 p.1)],[(0,.own 5 1 false none (p.2.map (V.int .u8)))],1⟩:St)∧((0≤p.1)∧(p.1≤(8:Int))∧((p.2).length=(([(0:Int),(0:Int),(0:Int),(0:Int),(0:Int),(0:Int),(0:Int),(0:Int)]:List Int)).length))∧((8:Int) - p.1).toNat<n∧ae n f1 d1 p=r) (((8:Int) - 0).toNat+1) _ sbQ sbQ ⟨(0,([(0:Int),(0:Int),(0:Int),(0:Int),(0:Int),(0:Int),(0:Int),(0:Int)]:List Int)),rfl,⟨omQ,omQ,omQ⟩,(Nat.lt_succ_self _),hM⟩ ?_
 clear hM
 rintro n1 S ⟨p1,rfl,hfa1,hm1,hM⟩
 replace hM:=aG hM (by omega) hf1;obtain ⟨ag1,hag1,hM⟩:=hM
 replace hfa1:=nzQ hfa1
 replace hm1:=nzQ hm1
 have ha1:al .i64 p1.1 1=p1.1+1:=aJ omQ omQ
 replace hF:=(And.intro ha1 hF)
 revert hM;revert hF
 refine slQ ?_
 refine aq fun _ _ _=> ?_
 obtain ⟨ha4,hbha4⟩:=pA (a:=8) (b:=p1.1) 8 8 64 ao ao ao ao (by decide) (by decide)
 intro hF hM
 try simp only [ha4]
 have ha5:aA .i64 56 (8*p1.1)=(56 - (8*p1.1)):=du omQ omQ
 try simp only [ha5]
 replace hF:=(And.intro ha4 (And.intro ha5 hF))
 revert hM;revert hF
 refine slQ ?_
 intro hF hM
 refine aC (n1 - 1) _ (by omega) sbQ sbQ ⟨((p1.1+1),(st p1.2 p1.1 (ah .u8 (ar .u64 n_ (56 - (8*p1.1)))))),rfl,⟨omQ,omQ,omQ⟩,omQ,aB hM hag1⟩
instance SN (x_:Int) (k_:Int):CM En (ya x_ k_) 254 [.int .u32 x_,.int .i64 k_] (fun y=> .int .u32 y) (fun _=> []):=by
 refine enQ noJ Tryz.func254 Tryz.ntmps254 (ya.eq_1 ..) fun r hw=> ?_
 intro hF hM
 try refine bA (by (exact (An .u64 _ _).1)) ?_
 revert hM;revert hF
 refine slQ ?_
 intro hF hM
 try refine bA (by (exact (oJ .u64 _ _).1)) ?_
 exact auP
instance SO (x_:Int) (n_:Int):CM En (gk x_ n_) 235 [.int .u32 x_,.int .i64 n_] (fun y=> .int .u32 y) (fun _=> []):=by
 refine enQ noJ Tryz.func235 Tryz.ntmps235 (gk.eq_1 ..) fun r hw=> ?_
 exact auR
set_option maxRecDepth 512 in
instance (priority:=1017):DRD 14 82 9 [8,42,43,44,45,46,47,48,49] [] ([[],[0],[0,1],[0,1,2],[],[4],[4,5],[4,5,6],[0,1,2,3]]++[List.range 9]) []:=⟨trivial⟩
set_option maxRecDepth 512 in
instance (priority:=1018):DRD 17 82 14 [66,67,68,69,70,71,72,73,74,75,76,77,78,79] [] ([[],[],[1],[1,2],[1,2,3],[],[1,2,3,4,5],[],[7],[7,8],[7,8,9],[1,2,3,4,5,6,7,8,9,10],[],[1,2,3,4,5,6,7,8,9,10,11,12]]++[List.range 14,List.range 15]) []:=⟨trivial⟩
theorem M9 (block:(List Int)) (hp0:block.length=64):CM En (yb block) 234 [.sl none 1 false (block.map (V.int .u8))] (fun y=>(nu y)) (fun _=> []):=by
 refine enQ noJ Tryz.func234 Tryz.ntmps234 (yb.eq_1 ..) fun r hw=> ?_
 intro hF hM
 replace hM:=aF hM;obtain ⟨f1,d1,hf1,hd1,hM⟩:=hM
 refine aL (fun n S=> ∃p:Int×(List Int),S=(⟨[(0,.sl none 1 false (block.map (V.int .u8))),(2,.ptr 0 0),(3,.ptr 1 0),(12,.int .i64 p.1)],[(0,.var 64 true (tt)),(1,.var 64 true ((nu p.2)))],2⟩:St)∧((0≤p.1)∧(p.1≤16))∧((16:Int) - p.1).toNat<n∧ae n f1 d1 p=r) (((16:Int) - 0).toNat+1) _ sbQ sbG ⟨(0,[0,0,0,0,0,0,0,0,0,0,0,0,0,0,0,0,0,0,0,0,0,0,0,0,0,0,0,0,0,0,0,0,0,0,0,0,0,0,0,0,0,0,0,0,0,0,0,0,0,0,0,0,0,0,0,0,0,0,0,0,0,0,0,0]),rfl,⟨omQ,omQ⟩,(Nat.lt_succ_self _),hM⟩ ?_
 clear hM
 rintro n1 S ⟨p1,rfl,hfa1,hm1,hM⟩
 replace hM:=aG hM (by omega) hf1;obtain ⟨ag1,hag1,hM⟩:=hM
 replace hfa1:=nzQ hfa1
 replace hm1:=nzQ hm1
 have ha1:al .i64 p1.1 1=p1.1+1:=aJ omQ omQ
 replace hF:=(And.intro ha1 hF)
 revert hM;revert hF
 refine slQ ?_
 refine cdQ (fun _ _ _=> ?_) (fun _ _ _=> ?_)
 ·obtain ⟨ha4,hbha4⟩:=pA (a:=4) (b:=p1.1) 4 16 64 ao ao ao ao (by decide) (by decide)
  intro hF hM
  try simp only [ha4]
  have ha6:al .i64 (4*p1.1) 4=((4*p1.1)+4):=jd omQ omQ
  try simp only [ha6]
  replace hF:=(And.intro ha4 (And.intro ha6 hF))
  revert hM;revert hF
  refine slQ ?_
  intro hF hM
  replace hM:=aF hM;obtain ⟨f7,d7,hf7,hd7,hM⟩:=hM
  refine aL (fun n S=> ∃p:Int×(List Int),S=(⟨[(0,.sl none 1 false (block.map (V.int .u8))),(2,.ptr 0 0),(3,.ptr 1 0),(4,.int .i64 p1.1),(12,.int .i64 p1.1),(21,.sl none 1 false ((sl block (4*p1.1) ((4*p1.1)+4)).map (V.int .u8))),(22,.int .i64 ((sl block (4*p1.1) ((4*p1.1)+4)).length:Int)),(23,.int .i64 p.1)],[(0,.var 64 true (tt)),(1,.var 64 true ((nu p.2)))],2⟩:St)∧((0≤p.1)∧(p.1≤((sl block (4*p1.1) ((4*p1.1)+4)).length:Int)))∧(((sl block (4*p1.1) ((4*p1.1)+4)).length:Int) - p.1).toNat<n∧ae n f7 d7 p=r) ((((sl block (4*p1.1) ((4*p1.1)+4)).length:Int) - 0).toNat+1) _ sbQ sbQ ⟨(0,p1.2),rfl,⟨omQ,omQ⟩,(Nat.lt_succ_self _),hM⟩ ?_
  clear hM
  rintro n7 S ⟨p7,rfl,hfa7,hm7,hM⟩
  replace hM:=aG hM (by omega) hf7;obtain ⟨ag7,hag7,hM⟩:=hM
  replace hfa7:=nzQ hfa7
  replace hm7:=nzQ hm7
  have ha7:al .i64 p7.1 1=p7.1+1:=aJ omQ omQ
  replace hF:=(And.intro ha7 hF)
  revert hM;revert hF
  refine slQ ?_
  refine cdQ (fun _ _ _=> ?_) (fun _ _ _=> ?_)
  ·have he11:((p1.1).toNat*1≤63)=True:=eq_true ao
   refine slA he11 ?_
   have he12:=kf (f:=(V.int .u32)) (l:=p7.2) (n:=64) (i:=p1.1) ao
   replace he12:=spR he12
   refine slA he12 ?_
   have he13:((p1.1).toNat*1≤63)=True:=eq_true ao
   refine slA he13 ?_
   have he14:=tw (f:=(V.int .u32)) (l:=(bd 64 p7.2)) (n:=64) (i:=p1.1) (v:=(orI .u32 (ay .u32 (gt p7.2 p1.1) 8) (ah .u32 (gt (sl block (4*p1.1) ((4*p1.1)+4)) p7.1)))) dc ao
   replace he14:=spR he14
   refine slA he14 ?_
   intro hF hM
   refine aC (n7 - 1) _ (by omega) sbQ sbG ⟨((p7.1+1),(bd 64 (st (bd 64 p7.2) p1.1 (orI .u32 (ay .u32 (gt p7.2 p1.1) 8) (ah .u32 (gt (sl block (4*p1.1) ((4*p1.1)+4)) p7.1)))))),rfl,⟨omQ,omQ⟩,omQ,aB hM hag7⟩
  ·intro hF hM
   refine aC (n1 - 1) _ (by omega) sbQ sbQ ⟨((p1.1+1),p7.2),rfl,⟨omQ,omQ⟩,omQ,aB hM hag1⟩
 ·intro hF hM
  replace hM:=aF hM;obtain ⟨f17,d17,hf17,hd17,hM⟩:=hM
  refine aL (fun n S=> ∃p:Int×(List Int),S=(⟨[(2,.ptr 0 0),(3,.ptr 1 0),(7,.int .i64 p.1)],[(0,.var 64 true (tt)),(1,.var 64 true ((nu p.2)))],2⟩:St)∧((16≤p.1)∧(p.1≤64∨p.1≤16))∧((64:Int) - p.1).toNat<n∧ae n f17 d17 p=r) (((64:Int) - 16).toNat+1) _ sbQ sbQ ⟨(16,p1.2),rfl,⟨omQ,omQ⟩,(Nat.lt_succ_self _),hM⟩ ?_
  clear hM
  rintro n17 S ⟨p17,rfl,hfa17,hm17,hM⟩
  replace hM:=aG hM (by omega) hf17;obtain ⟨ag17,hag17,hM⟩:=hM
  replace hfa17:=nzQ hfa17
  replace hm17:=nzQ hm17
  have ha17:al .i64 p17.1 1=p17.1+1:=aJ omQ omQ
  replace hF:=(And.intro ha17 hF)
  revert hM;revert hF
  refine slQ ?_
  refine aq fun _ _ _=> ?_
  have ha20:aA .i64 p17.1 15=(p17.1 - 15):=du ao ao
  intro hF hM
  try simp only [ha20]
  revert hM;revert hF
  refine slQ ?_
  have he21:(((p17.1 - 15)).toNat*1≤63)=True:=eq_true ao
  refine slA (And.intro ha20 he21) ?_
  have he22:=kf (f:=(V.int .u32)) (l:=p17.2) (n:=64) (i:=(p17.1 - 15)) ao
  replace he22:=spR he22
  refine slA he22 ?_
  have ha23:aA .i64 p17.1 2=(p17.1 - 2):=du ao ao
  intro hF hM
  try simp only [ha23]
  revert hM;revert hF
  refine slQ ?_
  have he24:(((p17.1 - 2)).toNat*1≤63)=True:=eq_true ao
  refine slA (And.intro ha23 he24) ?_
  have he25:=kf (f:=(V.int .u32)) (l:=p17.2) (n:=64) (i:=(p17.1 - 2)) ao
  replace he25:=spR he25
  refine slA he25 ?_
  refine ax fun x26 _ _ _=> ?_
  refine ax fun x29 _ _ _=> ?_
  refine ax fun x32 _ _ _=> ?_
  refine ax fun x35 _ _ _=> ?_
  have ha38:aA .i64 p17.1 16=(p17.1 - 16):=du ao ao
  intro hF hM
  try simp only [ha38]
  revert hM;revert hF
  refine slQ ?_
  have he39:(((p17.1 - 16)).toNat*1≤63)=True:=eq_true ao
  refine slA (And.intro ha38 he39) ?_
  have he40:=kf (f:=(V.int .u32)) (l:=p17.2) (n:=64) (i:=(p17.1 - 16)) ao
  replace he40:=spR he40
  refine slA he40 ?_
  have ha41:aA .i64 p17.1 7=(p17.1 - 7):=du ao ao
  intro hF hM
  try simp only [ha41]
  revert hM;revert hF
  refine slQ ?_
  have he42:(((p17.1 - 7)).toNat*1≤63)=True:=eq_true ao
  refine slA (And.intro ha41 he42) ?_
  have he43:=kf (f:=(V.int .u32)) (l:=p17.2) (n:=64) (i:=(p17.1 - 7)) ao
  replace he43:=spR he43
  refine slA he43 ?_
  have he44:((p17.1).toNat*1≤63)=True:=eq_true ao
  refine slA he44 ?_
  have he45:=tw (f:=(V.int .u32)) (l:=(bd 64 p17.2)) (n:=64) (i:=p17.1) (v:=(al .u32 (al .u32 (al .u32 (gt p17.2 (p17.1 - 16)) (cv .u32 (cv .u32 x26 x29) (ar .u32 (gt p17.2 (p17.1 - 15)) 3))) (gt p17.2 (p17.1 - 7))) (cv .u32 (cv .u32 x32 x35) (ar .u32 (gt p17.2 (p17.1 - 2)) 10)))) dc ao
  replace he45:=spR he45
  refine slA he45 ?_
  intro hF hM
  refine aC (n17 - 1) _ (by omega) sbQ sbG ⟨((p17.1+1),(bd 64 (st (bd 64 p17.2) p17.1 (al .u32 (al .u32 (al .u32 (gt p17.2 (p17.1 - 16)) (cv .u32 (cv .u32 x26 x29) (ar .u32 (gt p17.2 (p17.1 - 15)) 3))) (gt p17.2 (p17.1 - 7))) (cv .u32 (cv .u32 x32 x35) (ar .u32 (gt p17.2 (p17.1 - 2)) 10)))))),rfl,⟨omQ,omQ⟩,omQ,aB hM hag17⟩
theorem M_ (state:(List Int)) (block:(List Int)) (hp0:block.length=64):CM En (yc state block) 201 [(ke state),.sl none 1 false (block.map (V.int .u8))] (fun y=>(ke y)) (fun _=> []):=by
 refine cmQ fun r hM=> ?_
 rw [yc.eq_1] at hM
 refine ci aV bP noJ Tryz.func201 rfl Tryz.ntmps201 (by kernel_rfl) fun hw=>bR ?_
 refine spQ ?_
 replace hw:=nzQ hw
 replace hM:=aw hM;obtain ⟨x1,hx2,hM⟩:=hM
 have hcx1:=cmH hx2 (M9 block (by (exact pfQ)))
 refine aP hcx1 clQ clQ (fun hw3=> ?_)
 replace hw3:=nzQ hw3
 refine spQ ?_
 refine jZ 121 23 [6,7,8,9,10,11,12,21,22,23,24,25,26,27,28,29,30,31,32,33,34,35,36] [] ([[],[0],[],[2],[],[4],[],[6],[],[8],[],[10],[],[12],[],[14],[0,1],[2,3],[4,5],[6,7],[8,9],[10,11],[12,13]]++[List.range 23]) [] (by kernel_rfl) (by exact alQ) ?_
 refine spQ ?_
 replace hM:=aF hM;obtain ⟨f4,d4,hf4,hd4,hM⟩:=hM
 refine aL (fun n S=> ∃p:Int×Int×Int×Int×Int×Int×Int×Int×Int,S=(⟨[(2,.ptr 0 0),(4,.ptr 1 0),(5,.ptr 2 0),(6,.int .u32 p.1),(7,.int .u32 p.2.1),(8,.int .u32 p.2.2.1),(9,.int .u32 p.2.2.2.1),(10,.int .u32 p.2.2.2.2.1),(11,.int .u32 p.2.2.2.2.2.1),(12,.int .u32 p.2.2.2.2.2.2.1),(13,.int .u32 p.2.2.2.2.2.2.2.1),(37,.int .i64 p.2.2.2.2.2.2.2.2)],[(0,.var 8 true ((ke state))),(1,.var 8 true (xI)),(2,.var 64 true ((nu x1)))],26⟩:St)∧((0≤p.2.2.2.2.2.2.2.2)∧(p.2.2.2.2.2.2.2.2≤64))∧((64:Int) - p.2.2.2.2.2.2.2.2).toNat<n∧ae n f4 d4 p=r) (((64:Int) - 0).toNat+1) _ sbQ sbQ ⟨((gt state 0),(gt state 1),(gt state 2),(gt state 3),(gt state 4),(gt state 5),(gt state 6),(gt state 7),0),rfl,⟨omQ,omQ⟩,(Nat.lt_succ_self _),hM⟩ ?_
 clear hM
 rintro n4 S ⟨p4,rfl,hfa4,hm4,hM⟩
 replace hM:=aG hM (by omega) hf4;obtain ⟨ag4,hag4,hM⟩:=hM
 replace hfa4:=nzQ hfa4
 replace hm4:=nzQ hm4
 have ha4:al .i64 p4.2.2.2.2.2.2.2.2 1=p4.2.2.2.2.2.2.2.2+1:=aJ omQ omQ
 refine ap ha4 ?_
 refine bY (fun h5=> ?_) (fun h5=> ?_)
 ·rw [if_pos h5] at hM
  refine ap (And.intro ha4 h5) ?_
  have nh5:=nzQ h5
  try have hr6:=mpQ nh5
  refine jZ 121 26 [40,41,42,43,44,45,46,47,48,49,50,51,52,53,54,55,56,57,58,59,60,61,62,63,64,65] [] ([[],[],[1],[],[3],[1,2,3,4],[],[6],[1,2,3,4,5,6,7],[0,1,2,3,4,5,6,7,8],[],[],[10,11],[],[13],[],[13,14,15],[10,11,12,13,14,15,16],[0,1,2,3,4,5,6,7,8,9,10,11,12,13,14,15,16,17],[],[19],[19,20],[0,1,2,3,4,5,6,7,8,9,10,11,12,13,14,15,16,17,18,19,20,21],[],[23],[23,24]]++[List.range 26,List.range 27]) [] (by kernel_rfl) (by exact alQ) ?_
  refine ap ha4 ?_
  replace hM:=aw hM;obtain ⟨x7,hx8,hM⟩:=hM
  have hcx7:=cmU hx8
  refine bC hcx7 (an ha4) (an ha4) ?_
  refine ap ha4 ?_
  replace hM:=aw hM;obtain ⟨x9,hx10,hM⟩:=hM
  have hcx9:=cmU hx10
  refine bC hcx9 (an ha4) (an ha4) ?_
  refine ap ha4 ?_
  replace hM:=aw hM;obtain ⟨x11,hx12,hM⟩:=hM
  have hcx11:=cmU hx12
  refine bC hcx11 (an ha4) (an ha4) ?_
  refine ap ha4 ?_
  refine gH omQ ?_
  refine ap ha4 ?_
  have he13:=pO (f:=V.int .u32) (l:=lA) (n:=64) (i:=p4.2.2.2.2.2.2.2.2) rfl omQ
  replace he13:=spR he13
  refine ap (And.intro ha4 he13) ?_
  refine gH omQ ?_
  have he14:((p4.2.2.2.2.2.2.2.2).toNat*1≤63)=True:=eq_true omQ
  refine ap (And.intro ha4 (And.intro he13 he14)) ?_
  have he15:=kf (f:=(V.int .u32)) (l:=x1) (n:=64) (i:=p4.2.2.2.2.2.2.2.2) omQ
  replace he15:=spR he15
  try refine ap (And.intro ha4 (And.intro he13 (And.intro he14 he15))) ?_
  have hF:=(And.intro ha4 (And.intro h5 (And.intro he13 (And.intro he14 he15))))
  exact auQ
 ·rw [if_neg (bX h5)] at hM
  refine ap (And.intro ha4 h5) ?_
  have nh5:=nzQ h5
  try have hr25:=mpQ nh5
  replace hM:=aF hM;obtain ⟨f26,d26,hf26,hd26,hM⟩:=hM
  refine aL (fun n S=> ∃p:Int×(List Int),S=(⟨[(2,.ptr 0 0),(4,.ptr 1 0),(108,.agg [.int .u32 p4.1,.int .u32 p4.2.1,.int .u32 p4.2.2.1,.int .u32 p4.2.2.2.1,.int .u32 p4.2.2.2.2.1,.int .u32 p4.2.2.2.2.2.1,.int .u32 p4.2.2.2.2.2.2.1,.int .u32 p4.2.2.2.2.2.2.2.1]),(109,.int .i64 p.1)],[(0,.var 8 true ((ke p.2))),(1,.var 8 true (xI))],26⟩:St)∧((0≤p.1)∧(p.1≤8))∧((8:Int) - p.1).toNat<n∧ae n f26 d26 p=r) (((8:Int) - 0).toNat+1) _ sbQ sbQ ⟨(0,state),rfl,⟨omQ,omQ⟩,(Nat.lt_succ_self _),hM⟩ ?_
  clear hM
  rintro n26 S ⟨p26,rfl,hfa26,hm26,hM⟩
  replace hM:=aG hM (by omega) hf26;obtain ⟨ag26,hag26,hM⟩:=hM
  replace hfa26:=nzQ hfa26
  replace hm26:=nzQ hm26
  have ha26:al .i64 p26.1 1=p26.1+1:=aJ omQ omQ
  refine ap (And.intro ha4 ha26) ?_
  refine bY (fun h27=> ?_) (fun h27=> ?_)
  ·rw [if_pos h27] at hM
   refine ap (And.intro ha4 (And.intro ha26 h27)) ?_
   have nh27:=nzQ h27
   try have hr28:=mpQ nh27
   have he29:=pO (f:=(V.int .u32)) (l:=([p4.1,p4.2.1,p4.2.2.1,p4.2.2.2.1,p4.2.2.2.2.1,p4.2.2.2.2.2.1,p4.2.2.2.2.2.2.1,p4.2.2.2.2.2.2.2.1]:List Int)) (n:=8) (i:=p26.1) rfl omQ
   replace he29:=spR he29
   refine ap (And.intro ha4 (And.intro ha26 he29)) ?_
   refine bA omQ ?_
   refine ap (And.intro ha4 (And.intro ha26 he29)) ?_
   refine bA omQ ?_
   have he30:((p26.1).toNat*1≤7)=True:=eq_true omQ
   refine ap (And.intro ha4 (And.intro ha26 (And.intro he29 he30))) ?_
   have he31:=kf (f:=(V.int .u32)) (l:=p26.2) (n:=8) (i:=p26.1) omQ
   replace he31:=spR he31
   try refine ap (And.intro ha4 (And.intro ha26 (And.intro he29 (And.intro he30 he31)))) ?_
   refine bA omQ ?_
   have he32:((p26.1).toNat*1≤7)=True:=eq_true omQ
   refine ap (And.intro ha4 (And.intro ha26 (And.intro he29 (And.intro he30 (And.intro he31 he32))))) ?_
   have he33:=tw (f:=(V.int .u32)) (l:=(bd 8 p26.2)) (n:=8) (i:=p26.1) (v:=(al .u32 (gt p26.2 p26.1) (gt ([p4.1,p4.2.1,p4.2.2.1,p4.2.2.2.1,p4.2.2.2.2.1,p4.2.2.2.2.2.1,p4.2.2.2.2.2.2.1,p4.2.2.2.2.2.2.2.1]:List Int) p26.1))) dc omQ
   replace he33:=spR he33
   refine ap (And.intro ha4 (And.intro ha26 (And.intro he29 (And.intro he30 (And.intro he31 (And.intro he32 he33)))))) ?_
   refine aC (n26 - 1) _ (by omega) sbQ sbG ⟨((p26.1+1),(bd 8 (st (bd 8 p26.2) p26.1 (al .u32 (gt p26.2 p26.1) (gt ([p4.1,p4.2.1,p4.2.2.1,p4.2.2.2.1,p4.2.2.2.2.1,p4.2.2.2.2.2.1,p4.2.2.2.2.2.2.1,p4.2.2.2.2.2.2.2.1]:List Int) p26.1))))),rfl,⟨omQ,omQ⟩,omQ,aB hM hag26⟩
  ·rw [if_neg (bX h27)] at hM
   refine ap (And.intro ha4 (And.intro ha26 h27)) ?_
   subst hM
   exact b9 (cr (And.intro ha4 (And.intro ha26 (And.intro h5 h27))))
set_option maxRecDepth 512 in
instance (priority:=1019):DRD 8 59 3 [33,34,35] [] ([[],[],[1]]++[List.range 3,List.range 4]) []:=⟨trivial⟩
theorem Eb (b:(List Int)) (hp0:b.length≤1000000000):CM En (tU b) 167 [.sl none 1 false (b.map (V.int .u8))] (fun y=>(aH y)) (fun _=> []):=by
 refine enQ [6] Tryz.func167 Tryz.ntmps167 (tU.eq_1 ..) fun r hw=> ?_
 intro hF hM
 replace hM:=aw hM;obtain ⟨x1,hx2,hM⟩:=hM
 have hcx1:=Ea none b
 rw [←hx2] at hcx1
 refine aP hcx1 clQ clQ (fun hw3=> ?_)
 replace hw3:=nzQ hw3
 revert hM;revert hF
 refine slQ ?_
 have hq4:=nzQ (cfU hx2)
 refine slQ ?_
 intro hF hM
 replace hM:=aF hM;obtain ⟨f5,d5,hf5,hd5,hM⟩:=hM
 refine aL (fun n S=> ∃p:List Int,S=(⟨[(0,.sl none 1 false (b.map (V.int .u8))),(2,.ptr 0 0),(3,.own 1)],[(0,.var 32 true (fY)),(1,.own 5 1 false none (p.map (V.int .u8)))],3⟩:St)∧((((p).length:Int)+(56 - ((p).length:Int))% 64≤(b.length:Int)+65))∧((56 - ((p).length:Int))% 64).toNat<n∧ae n f5 d5 p=r) (((56 - (((x1++([128]:List Int))).length:Int))% 64).toNat+1) _ sbQ sbQ ⟨(x1++([128]:List Int)),rfl,omQ,(Nat.lt_succ_self _),hM⟩ ?_
 clear hM
 rintro n5 S ⟨p5,rfl,hfa5,hm5,hM⟩
 replace hM:=aG hM (by omega) hf5;obtain ⟨ag5,hag5,hM⟩:=hM
 replace hfa5:=nzQ hfa5
 replace hm5:=nzQ hm5
 revert hM;revert hF
 refine slQ ?_
 refine cdQ (fun _ _ _=> ?_) (fun _ _ _=> ?_)
 ·intro hF hM
  refine aC (n5 - 1) _ (by omega) sbQ sbQ ⟨(p5++([0]:List Int)),rfl,omQ,omQ,aB hM hag5⟩
 ·refine ax fun x9 _ _ _=> ?_
  intro hF hM
  refine gK ?_
  revert hM;revert hF
  refine slQ ?_
  intro hF hM
  refine il _ (⟨[(2,.ptr 0 0),(3,.sl (g8 (x9.map (V.int .u8))) 1 false ((p5++x9).map (V.int .u8))),(4,.ptr 3 0)],[(0,.var 32 true (fY)),(1,.pown 1 false (g8 (x9.map (V.int .u8))) ((p5++x9).map (V.int .u8))),(3,.var 8 true (.agg [.int .u32 1779033703,.int .u32 3144134277,.int .u32 1013904242,.int .u32 2773480762,.int .u32 1359893119,.int .u32 2600822924,.int .u32 528734635,.int .u32 1541459225]))],4⟩:St) ((pw (S:=⟨_,_,_⟩) 1 (T:=5) (n:=1) (g:=false) (z:=(g8 (x9.map (V.int .u8)))) (l:=(p5++x9).map (V.int .u8)) clQ).trans (xm (S:=⟨_,_,_⟩) 3 1 (n:=1) (g:=false) (z:=(g8 (x9.map (V.int .u8)))) (l:=(p5++x9).map (V.int .u8)) clQ clQ)) sbQ sbQ ?_
  revert hM;revert hF
  refine slQ ?_
  intro hF hM
  replace hM:=aF hM;obtain ⟨f13,d13,hf13,hd13,hM⟩:=hM
  refine aL (fun n S=> ∃p:List Int×(List Int),S=(⟨[(2,.ptr 0 0),(3,.sl none 1 false (p.1.map (V.int .u8))),(4,.ptr 3 0)],[(0,.var 32 true (fY)),(3,.var 8 true ((ke p.2)))],4⟩:St)∧((((p.1).length:Int)% 64=0))∧(p.1).length<n∧ae n f13 d13 p=r) (((p5++x9)).length+1) _ sbQ sbG ⟨((p5++x9),[1779033703,3144134277,1013904242,2773480762,1359893119,2600822924,528734635,1541459225]),rfl,omQ,(Nat.lt_succ_self _),hM⟩ ?_
  clear hM
  rintro n13 S ⟨p13,rfl,hfa13,hm13,hM⟩
  replace hM:=aG hM (by omega) hf13;obtain ⟨ag13,hag13,hM⟩:=hM
  replace hfa13:=nzQ hfa13
  replace hm13:=nzQ hm13
  revert hM;revert hF
  refine slQ ?_
  refine cdQ (fun _ _ _=> ?_) (fun _ _ _=> ?_)
  ·intro hF hM
   replace hM:=aw hM;obtain ⟨x16,hx17,hM⟩:=hM
   have hcx16:=cmH hx17 (M_ (p13.2) (sl p13.1 0 64) (by (exact pfQ)))
   refine aP hcx16 clQ clQ (fun hw18=> ?_)
   replace hw18:=nzQ hw18
   revert hM;revert hF
   refine slQ ?_
   intro hF hM
   refine aC (n13 - 1) _ (by omega) sbQ sbQ ⟨((sl p13.1 64 (p13.1.length:Int)),x16),rfl,omQ,omQ,aB hM hag13⟩
  ·intro hF hM
   replace hM:=aF hM;obtain ⟨f20,d20,hf20,hd20,hM⟩:=hM
   refine aL (fun n S=> ∃p:Int×(List Int),S=(⟨[(2,.ptr 0 0),(5,.ptr 4 0),(37,(ke p13.2)),(38,.int .i64 p.1)],[(0,.var 32 true (fY)),(4,.var 32 true ((aH p.2)))],5⟩:St)∧((0≤p.1)∧(p.1≤8))∧((8:Int) - p.1).toNat<n∧ae n f20 d20 p=r) (((8:Int) - 0).toNat+1) _ sbQ sbG ⟨(0,[0,0,0,0,0,0,0,0,0,0,0,0,0,0,0,0,0,0,0,0,0,0,0,0,0,0,0,0,0,0,0,0]),rfl,⟨omQ,omQ⟩,(Nat.lt_succ_self _),hM⟩ ?_
   clear hM
   rintro n20 S ⟨p20,rfl,hfa20,hm20,hM⟩
   replace hM:=aG hM (by omega) hf20;obtain ⟨ag20,hag20,hM⟩:=hM
   replace hfa20:=nzQ hfa20
   replace hm20:=nzQ hm20
   have ha20:al .i64 p20.1 1=p20.1+1:=aJ omQ omQ
   replace hF:=(And.intro ha20 hF)
   revert hM;revert hF
   refine slQ ?_
   refine aq fun _ _ _=> ?_
   have he23:=Ks (f:=(V.int .u32)) (l:=p13.2) (n:=8) (i:=p20.1) ao
   replace he23:=spR he23
   refine slA he23 ?_
   intro hF hM
   replace hM:=aF hM;obtain ⟨f24,d24,hf24,hd24,hM⟩:=hM
   refine aL (fun n S=> ∃p:Int×(List Int),S=(⟨[(2,.ptr 0 0),(5,.ptr 4 0),(6,.int .i64 p20.1),(7,.int .u32 (gt p13.2 p20.1)),(37,(ke p13.2)),(38,.int .i64 p20.1),(42,.int .i64 p.1)],[(0,.var 32 true (fY)),(4,.var 32 true ((aH p.2)))],5⟩:St)∧((0≤p.1)∧(p.1≤4))∧((4:Int) - p.1).toNat<n∧ae n f24 d24 p=r) (((4:Int) - 0).toNat+1) _ sbQ sbQ ⟨(0,p20.2),rfl,⟨omQ,omQ⟩,(Nat.lt_succ_self _),hM⟩ ?_
   clear hM
   rintro n24 S ⟨p24,rfl,hfa24,hm24,hM⟩
   replace hM:=aG hM (by omega) hf24;obtain ⟨ag24,hag24,hM⟩:=hM
   replace hfa24:=nzQ hfa24
   replace hm24:=nzQ hm24
   have ha24:al .i64 p24.1 1=p24.1+1:=aJ omQ omQ
   replace hF:=(And.intro ha24 hF)
   revert hM;revert hF
   refine slQ ?_
   refine cdQ (fun _ _ _=> ?_) (fun _ _ _=> ?_)
   ·obtain ⟨ha27,hbha27⟩:=pA (a:=4) (b:=p20.1) 8 64 512 ao ao ao ao (by decide) (by decide)
    intro hF hM
    try simp only [ha27]
    have ha28:al .i64 (4*p20.1) p24.1=((4*p20.1)+p24.1):=jd omQ omQ
    try simp only [ha28]
    obtain ⟨ha29,hbha29⟩:=pA (a:=8) (b:=p24.1) 8 64 512 omQ omQ omQ omQ (by decide) (by decide)
    try simp only [ha29]
    have ha30:aA .i64 24 (8*p24.1)=(24 - (8*p24.1)):=du omQ omQ
    try simp only [ha30]
    replace hF:=(And.intro ha27 (And.intro ha28 (And.intro ha29 (And.intro ha30 hF))))
    revert hM;revert hF
    refine slQ ?_
    have he31:((((4*p20.1)+p24.1)).toNat*1≤31)=True:=eq_true ao
    refine slA he31 ?_
    have he32:=tw (f:=(V.int .u8)) (l:=(bd 32 p24.2)) (n:=32) (i:=((4*p20.1)+p24.1)) (v:=(ah .u8 (ar .u32 (gt p13.2 p20.1) (24 - (8*p24.1))))) dc ao
    replace he32:=spR he32
    refine slA he32 ?_
    intro hF hM
    refine aC (n24 - 1) _ (by omega) sbQ sbG ⟨((p24.1+1),(bd 32 (st (bd 32 p24.2) ((4*p20.1)+p24.1) (ah .u8 (ar .u32 (gt p13.2 p20.1) (24 - (8*p24.1))))))),rfl,⟨omQ,omQ⟩,omQ,aB hM hag24⟩
   ·intro hF hM
    refine aC (n20 - 1) _ (by omega) sbQ sbQ ⟨((p20.1+1),p24.2),rfl,⟨omQ,omQ⟩,omQ,aB hM hag20⟩
set_option maxRecDepth 512 in
instance (priority:=1020):DRD 4 26 5 [19,20,21,22,23] [] ([[],[0],[],[0,1,2],[]]++[List.range 5,List.range 6,List.range 7,List.range 8]) [(3,4)]:=⟨trivial⟩
theorem iI (tag:(List UInt8)) (b:(List Int)) (hp0:b.length≤900000000):CM En (gm tag b) 138 [.str tag,.sl none 1 false (b.map (V.int .u8))] (fun y=> .tup [(aH y.1),.int .i64 y.2]) (fun _=> []):=by
 refine enQ [4] Tryz.func138 Tryz.ntmps138 (gm.eq_1 ..) fun r hw=> ?_
 refine aq fun _ _ _=> ?_
 refine az fun _ _ _=> ?_
 intro hF hM
 refine gK ?_
 revert hM;revert hF
 refine slQ ?_
 intro hF hM
 replace hM:=aw hM;obtain ⟨x6,hx7,hM⟩:=hM
 have hcx6:=cmH hx7 (Eb (gJ tag) (by (exact pfQ)))
 refine fD hcx6 clQ clQ (fun hw8=> ?_)
 replace hw8:=nzQ hw8
 revert hM;revert hF
 refine slQ ?_
 intro hF hM
 refine il _ (⟨[(1,.sl none 1 false (b.map (V.int .u8))),(4,.ptr 0 0),(6,.ptr 2 0)],[(0,.var 32 true (fY)),(2,.pvar 32 true ((aH x6)))],3⟩:St) (ij (S:=⟨_,_,_⟩) 2 (n:=32) (g:=true) (d:=(aH x6)) clQ clQ) sbQ sbQ ?_
 revert hM;revert hF
 refine slQ ?_
 intro hF hM
 replace hM:=aw hM;obtain ⟨x9,hx10,hM⟩:=hM
 have hcx9:=Ea (some false) (bd 32 x6)
 rw [←hx10] at hcx9
 refine sE hcx9 clQ clQ ?_
 revert hM;revert hF
 refine slQ ?_
 have hq11:=nzQ (cfU hx10)
 refine slQ ?_
 intro hF hM
 replace hM:=aw hM;obtain ⟨x12,hx13,hM⟩:=hM
 have hcx12:=cmH hx13 (Eb ((x9++(bd 32 x6))++b) (by (exact pfQ)))
 refine fD hcx12 clQ clQ (fun hw14=> ?_)
 replace hw14:=nzQ hw14
 exact auP
instance SP (a_:Int) (b:Int) (m:Int):CM En (tV a_ b m) 189 [.int .i64 a_,.int .i64 b,.int .i64 m] (fun y=> .tup [.int .i64 y.1,.int .i64 y.2]) (fun _=> []):=by
 refine enQ noJ Tryz.func189 Tryz.ntmps189 (tV.eq_1 ..) fun r hw=> ?_
 exact auR
instance SQ (h_:(List Int)) (m:Int):CM En (qq h_ m) 156 [(aH h_),.int .i64 m] (fun y=> .tup [.int .i64 y.1,.int .i64 y.2]) (fun _=> []):=by
 refine cmQ fun r hM=> ?_
 rw [qq.eq_1] at hM
 refine ci aV bP noJ Tryz.func156 rfl Tryz.ntmps156 (by kernel_rfl) fun hw=>bR ?_
 refine spQ ?_
 replace hw:=nzQ hw
 refine fT (fun h1=> ?_) (fun h1=> ?_)
 ·rw [if_neg (bX h1)] at hM
  refine ap h1 ?_
  have nh1:=nzQ h1
  try have hr2:=mpQ nh1
  refine bY (fun h3=> ?_) (fun h3=> ?_)
  ·rw [if_pos h3] at hM
   refine ap h3 ?_
   subst hM
   exact b9 (cr (And.intro h1 h3))
  ·rw [if_neg (bX h3)] at hM
   refine ap h3 ?_
   have nh3:=nzQ h3
   try have hr5:=mpQ nh3
   replace hM:=aF hM;obtain ⟨f6,d6,hf6,hd6,hM⟩:=hM
   refine aL (fun n S=> ∃p:Int×Int,S=(⟨[(1,.int .i64 m),(6,.int .i64 p.1),(15,.sl (some false) 1 false (([(gt h_ 0),(gt h_ 1),(gt h_ 2),(gt h_ 3),(gt h_ 4),(gt h_ 5),(gt h_ 6),(gt h_ 7),(gt h_ 8),(gt h_ 9),(gt h_ 10),(gt h_ 11),(gt h_ 12),(gt h_ 13),(gt h_ 14),(gt h_ 15)]:List Int).map (V.int .u8))),(16,.int .i64 (16:Int)),(17,.int .i64 p.2)],[],1⟩:St)∧((0≤p.2)∧(p.2≤(16:Int)))∧((16:Int) - p.2).toNat<n∧ae n f6 d6 p=r) (((16:Int) - 0).toNat+1) _ sbQ sbQ ⟨(0,0),rfl,⟨omQ,omQ⟩,(Nat.lt_succ_self _),hM⟩ ?_
   clear hM
   rintro n6 S ⟨p6,rfl,hfa6,hm6,hM⟩
   replace hM:=aG hM (by omega) hf6;obtain ⟨ag6,hag6,hM⟩:=hM
   replace hfa6:=nzQ hfa6
   replace hm6:=nzQ hm6
   have ha6:al .i64 p6.2 1=p6.2+1:=aJ omQ omQ
   refine ap ha6 ?_
   refine bY (fun h7=> ?_) (fun h7=> ?_)
   ·rw [if_pos h7] at hM
    refine ap (And.intro ha6 h7) ?_
    have nh7:=nzQ h7
    try have hr8:=mpQ nh7
    refine bA omQ ?_
    have he9:=fun d=>cM (l:=([(gt h_ 0),(gt h_ 1),(gt h_ 2),(gt h_ 3),(gt h_ 4),(gt h_ 5),(gt h_ 6),(gt h_ 7),(gt h_ 8),(gt h_ 9),(gt h_ 10),(gt h_ 11),(gt h_ 12),(gt h_ 13),(gt h_ 14),(gt h_ 15)]:List Int)) (f:=(V.int .u8)) (i:=p6.2) omQ d
    replace he9:=fun d=>spR (he9 d)
    refine ap (And.intro ha6 he9) ?_
    replace hM:=aF hM;obtain ⟨f10,d10,hf10,hd10,hM⟩:=hM
    refine aL (fun n S=> ∃p:Int×Int,S=(⟨[(1,.int .i64 m),(6,.int .i64 p.1),(8,.int .u8 (gt ([(gt h_ 0),(gt h_ 1),(gt h_ 2),(gt h_ 3),(gt h_ 4),(gt h_ 5),(gt h_ 6),(gt h_ 7),(gt h_ 8),(gt h_ 9),(gt h_ 10),(gt h_ 11),(gt h_ 12),(gt h_ 13),(gt h_ 14),(gt h_ 15)]:List Int) p6.2)),(15,.sl (some false) 1 false (([(gt h_ 0),(gt h_ 1),(gt h_ 2),(gt h_ 3),(gt h_ 4),(gt h_ 5),(gt h_ 6),(gt h_ 7),(gt h_ 8),(gt h_ 9),(gt h_ 10),(gt h_ 11),(gt h_ 12),(gt h_ 13),(gt h_ 14),(gt h_ 15)]:List Int).map (V.int .u8))),(16,.int .i64 (16:Int)),(17,.int .i64 p6.2),(21,.int .i64 p.2)],[],1⟩:St)∧((0≤p.2)∧(p.2≤8))∧((8:Int) - p.2).toNat<n∧ae n f10 d10 p=r) (((8:Int) - 0).toNat+1) _ sbQ sbQ ⟨(p6.1,0),rfl,⟨omQ,omQ⟩,(Nat.lt_succ_self _),hM⟩ ?_
    clear hM
    rintro n10 S ⟨p10,rfl,hfa10,hm10,hM⟩
    replace hM:=aG hM (by omega) hf10;obtain ⟨ag10,hag10,hM⟩:=hM
    replace hfa10:=nzQ hfa10
    replace hm10:=nzQ hm10
    have ha10:al .i64 p10.2 1=p10.2+1:=aJ omQ omQ
    refine ap (And.intro ha6 (And.intro he9 ha10)) ?_
    have hF:=(And.intro h1 (And.intro h3 (And.intro ha6 (And.intro h7 (And.intro he9 ha10)))))
    exact auQ
   ·rw [if_neg (bX h7)] at hM
    refine ap (And.intro ha6 h7) ?_
    subst hM
    exact b9 (cr (And.intro ha6 (And.intro h1 (And.intro h3 h7))))
 ·rw [if_pos h1] at hM
  refine ap h1 ?_
  subst hM
  exact b9 (cr h1)
instance SR (b:aY) (pseudonym:Int) (root:(List Int)) (s:gM):CM En (yd b pseudonym root s) 182 [(bL b),.int .i64 pseudonym,(aH root),.agg [.int .i64 s.Z,.int .i64 s.A,.int .i64 s.B,.int .i64 s.R]] (fun y=> .tup [.int .i64 y.1,.int .i64 y.2]) (fun _=> []):=by
 refine cmQ fun r hM=> ?_
 rw [yd.eq_1] at hM
 refine ci aV bP [11,12] Tryz.func182 rfl Tryz.ntmps182 (by kernel_rfl) fun hw=>bR ?_
 refine spQ ?_
 replace hw:=nzQ hw
 replace hM:=aw hM;obtain ⟨x1,hx2,hM⟩:=hM
 have hcx1:=cmU hx2
 refine aP hcx1 clQ clQ (fun hw3=> ?_)
 replace hw3:=nzQ hw3
 refine spQ ?_
 refine bY (fun h4=> ?_) (fun h4=> ?_)
 ·rw [if_pos h4] at hM
  refine ap h4 ?_
  subst hM
  exact b9 (cr h4)
 ·rw [if_neg (bX h4)] at hM
  refine ap h4 ?_
  have nh4:=nzQ h4
  try have hr6:=mpQ nh4
  replace hM:=aw hM;obtain ⟨x7,hx8,hM⟩:=hM
  have hcx7:=cmU hx8
  refine fD hcx7 clQ clQ (fun hw9=> ?_)
  replace hw9:=nzQ hw9
  refine spQ ?_
  refine bY (fun h10=> ?_) (fun h10=> ?_)
  ·rw [if_pos h10] at hM
   refine ap h10 ?_
   subst hM
   exact b9 (cr (And.intro h4 h10))
  ·rw [if_neg (bX h10)] at hM
   refine ap h10 ?_
   have nh10:=nzQ h10
   try have hr12:=mpQ nh10
   refine gK ?_
   try refine spQ ?_
   replace hM:=aF hM;obtain ⟨f13,d13,hf13,hd13,hM⟩:=hM
   refine dZ (fun n S=> ∃p:Int×List am,S=(⟨[(4,.ptr 0 0),(6,.ptr 1 0),(7,.ptr 2 0),(10,.ptr 4 0),(49,.own 5),(50,.int .i64 (7:Int)),(51,.int .i64 p.1)],[(0,.var 6 true ((bL b))),(1,.var 32 true ((aH root))),(2,.var 4 true (.agg [.int .i64 s.Z,.int .i64 s.A,.int .i64 s.B,.int .i64 s.R])),(4,.var 4 true (.agg [.int .i64 3,.int .i64 0,.sl (some true) 1 false [],.own 6])),(5,.own 3 1 false (some false) (([b.Group.P,b.Group.Q,b.Group.G,b.G1,b.G2,b.H,pseudonym]:List Int).map (V.int .i64))),(6,.own 222 4 true none (p.2.map bv))],7⟩:St)∧(((0≤p.1)∧(p.1≤(7:Int))∧(((p.2).length:Int)≤p.1))∧(bM (p.2)=(p.2).length))∧((7:Int) - p.1).toNat<n∧ae n f13 d13 p=r) (((7:Int) - 0).toNat+1) _ _ (nh 4 3 222 rfl rfl (by decide)) sbQ sbQ ⟨(0,([]:List am)),rfl,⟨⟨omQ,omQ,omQ⟩,by (rfl)⟩,(Nat.lt_succ_self _),hM⟩ ?_
   clear hM
   rintro n13 S ⟨p13,rfl,⟨hfa13,hF7_0⟩,hm13,hM⟩
   replace hM:=aG hM (by omega) hf13;obtain ⟨ag13,hag13,hM⟩:=hM
   replace hfa13:=nzQ hfa13
   replace hm13:=nzQ hm13
   have ha13:al .i64 p13.1 1=p13.1+1:=aJ omQ omQ
   refine ap ha13 ?_
   refine bY (fun h14=> ?_) (fun h14=> ?_)
   ·rw [if_pos h14] at hM
    refine ap (And.intro ha13 h14) ?_
    have nh14:=nzQ h14
    try have hr15:=mpQ nh14
    refine bA omQ ?_
    have he16:=fun d=>cM (l:=([b.Group.P,b.Group.Q,b.Group.G,b.G1,b.G2,b.H,pseudonym]:List Int)) (f:=(V.int .i64)) (i:=p13.1) omQ d
    replace he16:=fun d=>spR (he16 d)
    refine ap (And.intro ha13 he16) ?_
    refine bA omQ ?_
    refine ap (And.intro ha13 he16) ?_
    refine jZ 102 5 [55,56,57,58,59] [] ([[],[0],[],[2],[2,3]]++[List.range 5,List.range 6,List.range 7]) [] (by kernel_rfl) (by exact alQ) ?_
    refine ap (And.intro ha13 he16) ?_
    replace hM:=aw hM;obtain ⟨x17,hx18,hM⟩:=hM
    have hcx17:=cmU hx18
    refine bC hcx17 (an (And.intro ha13 he16)) (an (And.intro ha13 he16)) ?_
    refine ap (And.intro ha13 he16) ?_
    have hq19:=uB hx18
    replace hq19:=nzQ hq19
    refine bA omQ ?_
    refine ap (And.intro ha13 he16) ?_
    refine aC (n13 - 1) _ (by omega) sbQ sbQ ⟨((p13.1+1),(p13.2++([x17]:List am))),rfl,⟨⟨omQ,omQ,omQ⟩,by (clear hM;simp only [qN,bM,List.length_append,List.length_cons,List.length_nil];omega)⟩,omQ,aB hM hag13⟩
   ·rw [if_neg (bX h14)] at hM
    refine ap (And.intro ha13 h14) ?_
    have nh14:=nzQ h14
    try have hr20:=mpQ nh14
    refine il _ (⟨[(4,.ptr 0 0),(6,.ptr 1 0),(7,.ptr 2 0),(10,.ptr 4 0)],[(0,.var 6 true ((bL b))),(1,.pvar 32 true ((aH root))),(2,.var 4 true (.agg [.int .i64 s.Z,.int .i64 s.A,.int .i64 s.B,.int .i64 s.R])),(4,.var 4 true (.agg [.int .i64 3,.int .i64 0,.sl (some true) 1 false [],.own 6])),(6,.own 222 4 true none (p13.2.map bv))],7⟩:St) (ij (S:=⟨_,_,_⟩) 1 (n:=32) (g:=true) (d:=(aH root)) (an ha13) (an ha13)) sbQ sbQ ?_
    try refine ap ha13 ?_
    refine gK ?_
    try refine ap ha13 ?_
    refine jZ 102 14 [63,64,65,66,67,68,69,70,71,72,73,74,75,76] [] ([[],[0],[],[2],[],[4],[4,5],[],[7],[7,8],[],[10],[10,11],[2,3,4,5,6,7,8,9,10,11,12]]++[List.range 14,List.range 15,List.range 16]) [] (by kernel_rfl) (by exact alQ) ?_
    refine ap ha13 ?_
    replace hM:=aw hM;obtain ⟨x21,hx22,hM⟩:=hM
    have hcx21:=cmU hx22
    refine bC hcx21 (an ha13) (an ha13) ?_
    refine ap ha13 ?_
    have hq23:=uB hx22
    replace hq23:=nzQ hq23
    replace hM:=aw hM;obtain ⟨x24,hx25,hM⟩:=hM
    have hcx24:=cmU hx25
    refine bC hcx24 (an ha13) (an ha13) ?_
    refine ap ha13 ?_
    have hq26:=uB hx25
    replace hq26:=nzQ hq26
    replace hM:=aw hM;obtain ⟨x27,hx28,hM⟩:=hM
    have hcx27:=cmU hx28
    refine bC hcx27 (an ha13) (an ha13) ?_
    refine ap ha13 ?_
    have hq29:=uB hx28
    replace hq29:=nzQ hq29
    refine bA omQ ?_
    refine ap ha13 ?_
    refine JS (⟨[(4,.ptr 0 0),(10,.ptr 4 0)],[(0,.var 6 true ((bL b))),(4,.var 4 true (.agg [.int .i64 3,.int .i64 0,.sl (some true) 1 false [],.own 6])),(6,.own 222 4 true (some false) ((p13.2++([({Kind:=2,N:=0,B:=(bd 32 root),L:=([]:List am)}:am),x21,x24,x27]:List am)).map bv))],21⟩:St) sbQ sbQ ?_
    try refine ap ha13 ?_
    replace hM:=aw hM;obtain ⟨x30,hx31,hM⟩:=hM
    have hcx30:=cmH hx31 (kK ({Kind:=3,N:=0,B:=([]:List Int),L:=(p13.2++([({Kind:=2,N:=0,B:=(bd 32 root),L:=([]:List am)}:am),x21,x24,x27]:List am))}:am) (by (simp only [hgt,qN,bM,dc,List.length_nil];omega)))
    refine lD hcx30 (io 6 (T:=222) (n:=4) (g:=true) (z:=(some false)) (l:=(p13.2++([({Kind:=2,N:=0,B:=(bd 32 root),L:=([]:List am)}:am),x21,x24,x27]:List am)).map bv) (an ha13)) (an ha13) (fun hw32=> ?_)
    replace hw32:=nzQ hw32
    refine ap ha13 ?_
    have hq33:=kI hx31
    replace hq33:=nzQ hq33
    refine bY (fun h34=> ?_) (fun h34=> ?_)
    ·rw [if_pos h34] at hM
     refine ap (And.intro ha13 h34) ?_
     subst hM
     exact b9 (cr (And.intro ha13 (And.intro h4 (And.intro h10 (And.intro h14 h34)))))
    ·rw [if_neg (bX h34)] at hM
     refine ap (And.intro ha13 h34) ?_
     have nh34:=nzQ h34
     try have hr36:=mpQ nh34
     replace hM:=aw hM;obtain ⟨x37,hx38,hM⟩:=hM
     have hcx37:=cmH hx38 (iI ([115,112,101,99,105,101,47,99,111,105,110]) (x30.1) (by (exact pfQ)))
     refine aP hcx37 (an ha13) (an ha13) (fun hw39=> ?_)
     replace hw39:=nzQ hw39
     refine ap ha13 ?_
     have hF:=(And.intro h4 (And.intro h10 (And.intro ha13 (And.intro h14 h34))))
     exact auQ
instance SS (b:aY) (x_:Int) (e_:Int):CM En (nN b x_ e_) 183 [(bL b),.int .i64 x_,.int .i64 e_] (fun y=> .int .i64 y) (fun _=> []):=by
 refine enQ noJ Tryz.func183 Tryz.ntmps183 (nN.eq_1 ..) fun r hw=> ?_
 exact auR
instance ST (a_:Int) (b:Int) (m:Int):CM En (nO a_ b m) 192 [.int .i64 a_,.int .i64 b,.int .i64 m] (fun y=> .tup [.int .i64 y.1,.int .i64 y.2]) (fun _=> []):=by
 refine enQ noJ Tryz.func192 Tryz.ntmps192 (nO.eq_1 ..) fun r hw=> ?_
 refine ax fun _ _ _ _=> ?_
 refine az fun _ _ _=> ?_
 intro hF hM
 replace hM:=aw hM;obtain ⟨x8,hx9,hM⟩:=hM
 have hcx8:=cmH hx9 (uM a_ b m (by (exact pfQ)) (by (exact pfQ)) (by (exact pfQ)))
 refine aP hcx8 clQ clQ (fun hw10=> ?_)
 replace hw10:=nzQ hw10
 exact auP
instance SU (b:aY) (x_:Int) (y:Int):CM En (ye b x_ y) 221 [(bL b),.int .i64 x_,.int .i64 y] (fun y=> .int .i64 y) (fun _=> []):=by
 refine enQ noJ Tryz.func221 Tryz.ntmps221 (ye.eq_1 ..) fun r hw=> ?_
 exact auR
set_option maxRecDepth 512 in
instance (priority:=1021):DRD 1 21 9 [11,12,13,14,15,16,17,18,19] [] ([[],[],[],[],[1,2,3],[],[],[],[5,6,7]]++[List.range 9,List.range 10]) []:=⟨trivial⟩
instance SV (b:aY) (x_:Int) (e_:Int) (y:Int) (f_:Int):CM En (tW b x_ e_ y f_) 184 [(bL b),.int .i64 x_,.int .i64 e_,.int .i64 y,.int .i64 f_] (fun y=> .int .i64 y) (fun _=> []):=by
 refine enQ noJ Tryz.func184 Tryz.ntmps184 (tW.eq_1 ..) fun r hw=> ?_
 exact auR
set_option maxRecDepth 512 in
instance (priority:=1022):DRD 6 74 27 [44,45,46,47,48,49,50,51,52,53,54,55,56,57,58,59,60,61,62,63,64,65,66,67,68,69,70] [] ([[],[],[1],[1,2],[],[4],[0,1,2,3,4,5],[],[],[8],[],[],[11],[7,8,9,10,11,12],[0,1,2,3,4,5,6,7,8,9,10,11,12,13],[0,1,2,3,4,5,6,7,8,9,10,11,12,13,14],[0,1,2,3,4,5,6,7,8,9,10,11,12,13,14,15],[0,1,2,3,4,5,6,7,8,9,10,11,12,13,14,15],[0,1,2,3,4,5,6,7,8,9,10,11,12,13,14,15],[0,1,2,3,4,5,6,7,8,9,10,11,12,13,14,15,18],[0,1,2,3,4,5,6,7,8,9,10,11,12,13,14,15,16,17,18,19],[0,1,2,3,4,5,6,7,8,9,10,11,12,13,14,15],[0,1,2,3,4,5,6,7,8,9,10,11,12,13,14,15],[0,1,2,3,4,5,6,7,8,9,10,11,12,13,14,15,22],[0,1,2,3,4,5,6,7,8,9,10,11,12,13,14,15],[0,1,2,3,4,5,6,7,8,9,10,11,12,13,14,15],[0,1,2,3,4,5,6,7,8,9,10,11,12,13,14,15,25]]++[List.range 27,List.range 28,List.range 29,List.range 30]) []:=⟨trivial⟩
instance SW (b:aY) (k_:gN) (pseudonym:Int) (root:(List Int)) (s:gM):CM En (qr b k_ pseudonym root s) 150 [(bL b),.agg [.int .i64 k_.H,.int .i64 k_.H1,.int .i64 k_.H2],.int .i64 pseudonym,(aH root),.agg [.int .i64 s.Z,.int .i64 s.A,.int .i64 s.B,.int .i64 s.R]] (fun y=> .bool y) (fun _=> []):=by
 refine enQ noJ Tryz.func150 Tryz.ntmps150 (qr.eq_1 ..) fun r hw=> ?_
 exact auR
instance SX (b:aY) (r_:bg) (c:bu):CM En (qt b r_ c) 125 [(bL b),(cD r_),(dR c)] (fun y=> .bool y) (fun _=> []):=by
 refine enQ noJ Tryz.func125 Tryz.ntmps125 (qt.eq_1 ..) fun r hw=> ?_
 exact auR
set_option maxRecDepth 512 in
instance (priority:=1023):DRD 1 35 28 [5,6,7,8,9,10,11,12,13,14,15,16,17,18,19,20,21,22,23,24,25,26,27,28,29,30,31,32] [] ([[],[0],[0,1],[0,1,2],[0,1,2,3],[0,1,2,3,4],[0,1,2,3,4,5],[0,1,2,3,4,5,6],[0,1,2,3,4,5,6,7],[0,1,2,3,4,5,6,7,8],[0,1,2,3,4,5,6,7,8,9],[0,1,2,3,4,5,6,7,8,9,10],[0,1,2,3,4,5,6,7,8,9,10,11],[0,1,2,3,4,5,6,7,8,9,10,11,12],[0,1,2,3,4,5,6,7,8,9,10,11],[0,1,2,3,4,5,6,7,8,9,10,11,12,13,14],[0,1,2,3,4,5,6,7,8,9,10,11,12,13,14,15],[0,1,2,3,4,5,6,7,8,9,10,11,12,13,14,15,16],[0,1,2,3,4,5,6,7,8,9,10,11,12,13,14,15,16,17],[0,1,2,3,4,5,6,7,8,9,10,11,12,13,14,15,16,17,18],[0,1,2,3,4,5,6,7,8,9,10,11,12,13,14,15,16,17,18,19],[0,1,2,3,4,5,6,7,8,9,10,11,12,13,14,15,16,17,18,19,20],[0,1,2,3,4,5,6,7,8,9,10,11,12,13,14,15,16,17,18,19,20,21],[0,1,2,3,4,5,6,7,8,9,10,11,12,13,14,15,16,17,18,19,20,21,22],[0,1,2,3,4,5,6,7,8,9,10,11,12,13,14,15,16,17,18,19,20,21,22,23],[0,1,2,3,4,5,6,7,8,9,10,11,12,13,14,15,16,17,18,19,20,21,22],[0,1,2,3,4,5,6,7,8,9,10,11,12,13,14,15,16,17,18,19,20,21,22,25],[0,1,2,3,4,5,6,7,8,9,10,11,12,13,14,15,16,17,18,19,20,21,22,25,26]]++[List.range 28,List.range 29,List.range 30]) []:=⟨trivial⟩
instance SY (depth:Int) (n_:fG):CM En (nP depth n_) 126 [.int .i64 depth,.agg [.int .i64 n_.Level,.int .i64 n_.Index]] (fun y=> .bool y) (fun _=> []):=by
 refine enQ noJ Tryz.func126 Tryz.ntmps126 (nP.eq_1 ..) fun r hw=> ?_
 exact auR
instance SZ (x_:eH):CM En (yf x_) 127 [(lU x_)] (fun y=> .bool y) (fun _=> []):=by
 refine enQ noJ Tryz.func127 Tryz.ntmps127 (yf.eq_1 ..) fun r hw=> ?_
 exact auR
instance S4 (l:(List Int)):CM En (gn l) 155 [.sl none 1 false (l.map (V.int .i64))] (fun y=> .agg [.int .i64 y.Kind,.int .i64 y.N,.sl none 1 false (y.B.map (V.int .u8)),.sl none 4 true (y.L.map bv)]) (fun _=> []):=by
 refine enQ noJ Tryz.func155 Tryz.ntmps155 (gn.eq_1 ..) fun r hw=> ?_
 intro hF hM
 replace hM:=aF hM;obtain ⟨f1,d1,hf1,hd1,hM⟩:=hM
 refine dZ (fun n S=> ∃p:Int×List am,S=(⟨[(2,.ptr 0 0),(3,.ptr 1 0),(7,.sl none 1 false (l.map (V.int .i64))),(8,.int .i64 (l.length:Int)),(9,.int .i64 p.1)],[(0,.var 4 true (.agg [.int .i64 0,.int .i64 0,.sl (some true) 1 false [],.sl (some true) 4 true []])),(1,.var 4 true (.agg [.int .i64 3,.int .i64 0,.sl (some true) 1 false [],.own 2])),(2,.own 222 4 true none (p.2.map bv))],3⟩:St)∧((0≤p.1)∧(p.1≤(l.length:Int))∧(((p.2).length:Int)≤p.1))∧((l.length:Int) - p.1).toNat<n∧ae n f1 d1 p=r) (((l.length:Int) - 0).toNat+1) _ _ (nh 1 3 222 rfl rfl (by decide)) sbQ sbQ ⟨(0,([]:List am)),rfl,⟨omQ,omQ,omQ⟩,(Nat.lt_succ_self _),hM⟩ ?_
 clear hM
 rintro n1 S ⟨p1,rfl,hfa1,hm1,hM⟩
 replace hM:=aG hM (by omega) hf1;obtain ⟨ag1,hag1,hM⟩:=hM
 replace hfa1:=nzQ hfa1
 replace hm1:=nzQ hm1
 have ha1:al .i64 p1.1 1=p1.1+1:=aJ omQ omQ
 replace hF:=(And.intro ha1 hF)
 revert hM;revert hF
 refine slQ ?_
 refine aq fun _ _ _=> ?_
 intro hF hM
 refine aC (n1 - 1) _ (by omega) sbQ sbQ ⟨((p1.1+1),(p1.2++([({Kind:=1,N:=(gt l p1.1),B:=([]:List Int),L:=([]:List am)}:am)]:List am))),rfl,⟨omQ,omQ,omQ⟩,omQ,aB hM hag1⟩
set_option maxRecDepth 512 in
instance (priority:=1024):DRD 0 16 14 [4,5,6,7,8,9,10,11,12,13,14,15] [] [[],[0],[0,1],[0,1,2],[],[4],[0,1,2,3],[],[0,1,2,3,6,7],[0,1,2,3,6,7,8],[0,1,2,3,4,5,6,7,8,9],[0],[0,11],[0,1,2,3,7,8,11,12]] [(8,1),(10,10),(13,0)]:=⟨trivial⟩
theorem Ec (z0_1:Option Bool) (z1:Option Bool) (w_:ef) (l_:(List Int)) (hp0:w_.l.length≤1000):ee En 224 [.ptr 0 0,.sl z1 1 false (l_.map (V.int .i64))] [.var 1 true (.agg [.own 1]),.own 222 4 true z0_1 (w_.l.map bv)] (.tup []) [.var 1 true (.agg [.own 1]),.own 222 4 true none ((jv w_ l_).l.map bv)] []:=by
 generalize hM:jv w_ l_=r
 rw [jv.eq_1] at hM
 refine pH aV bP noJ Tryz.func224 rfl Tryz.ntmps224 (by kernel_rfl) rfl fun ks hw hwB=>bR ?_
 refine spQ ?_
 replace hw:=nzQ hw
 replace hwB:=nzB hwB
 have hF:=nn
 revert hM;revert hF
 refine slQ ?_
 refine ax fun _ _ _ _=> ?_
 intro hF hM
 subst hM
 exact jl [0,10] (cN hF) (by decide) (cN hF)
theorem zG (z0:Option Bool) (s:List Int):aW En 187 [.sl z0 1 false (s.map (V.int .u8))] (.own 0) [.own 5 1 false none ((nQ s).map (V.int .u8))]:=by
 show aW En 187 [.sl z0 1 false (s.map (V.int .u8))] (.own 0) [.own 5 1 false none (s.map (V.int .u8))]
 refine lH (pre:=[]) (post:=[]) (fun hl=> ?_) ?_ z0
 ·have hl:s=[]:=by cases s with|nil=>rfl|cons a s=>cases hl
  subst hl
  refine ci aV bP noJ Tryz.func187 rfl Tryz.ntmps187 (by kernel_rfl) fun hw=>bR ?_
  simp only [go_sem,co,cq,List.length_replicate,b_,Int.toNat_natCast,↓reduceIte,Nat.reduceEqDiff,Nat.reduceAdd,Int.reduceAdd,Nat.reduceMul,Nat.reduceLeDiff,Nat.reduceLT,Int.reduceLE,Int.reduceLT,Int.reduceNeg,Int.reduceToNat,List.nil_append]
  exact lG (by decide)
 ·refine ci aV bP noJ Tryz.func187 rfl Tryz.ntmps187 (by kernel_rfl) fun hw=>bR ?_
  simp only [go_sem,co,cq,List.length_replicate,b_,Int.toNat_natCast,↓reduceIte,Nat.reduceEqDiff,Nat.reduceAdd,Int.reduceAdd,Nat.reduceMul,Nat.reduceLeDiff,Nat.reduceLT,Int.reduceLE,Int.reduceLT,Int.reduceNeg,Int.reduceToNat,List.nil_append]
  have hn:s.length≤1073741824:=by have h:=hw;simp only [wfL,wfV,List.nil_append,fU,List.length_map] at h;exact h.1.1
  refine bA (by first|omega|(simp only [List.length_map,List.length_nil,List.nil_append];omega)) ?_
  refine spQ ?_
  refine lF 0 rfl clQ
set_option maxRecDepth 512 in
instance (priority:=1025):DRD 0 17 15 [4,5,6,7,8,9,10,11,12,13,14,15,16] [] [[],[0],[0,1],[0,1,2],[],[4],[4,5],[0,1,2,3],[],[0,1,2,3,7,8],[0,1,2,3,7,8,9],[0,1,2,3,4,5,6,7,8,9,10],[0],[0,12],[0,1,2,3,8,9,12,13]] [(9,1),(11,11),(14,0)]:=⟨trivial⟩
theorem Na (z0_1:Option Bool) (z1:Option Bool) (w_:ef) (b:(List Int)) (hp0:w_.l.length≤1000):ee En 225 [.ptr 0 0,.sl z1 1 false (b.map (V.int .u8))] [.var 1 true (.agg [.own 1]),.own 222 4 true z0_1 (w_.l.map bv)] (.tup []) [.var 1 true (.agg [.own 1]),.own 222 4 true none ((kA w_ b).l.map bv)] []:=by
 generalize hM:kA w_ b=r
 rw [kA.eq_1] at hM
 refine pH aV bP noJ Tryz.func225 rfl Tryz.ntmps225 (by kernel_rfl) rfl fun ks hw hwB=>bR ?_
 refine spQ ?_
 replace hw:=nzQ hw
 replace hwB:=nzB hwB
 have hF:=nn
 revert hM;revert hF
 refine slQ ?_
 intro hF hM
 replace hM:=aw hM;obtain ⟨x1,hx2,hM⟩:=hM
 have hcx1:=aW.pub ((zG z1 b))
 rw [←hx2] at hcx1
 refine bC hcx1 clQ clQ ?_
 revert hM;revert hF
 refine slQ ?_
 intro hF hM
 subst hM
 exact jl [0,11] (cN hF) (by decide) (cN hF)
instance S5 (c:bu):CM En (mf c) 188 [(dR c)] (fun y=> .agg [.int .i64 y.Kind,.int .i64 y.N,.sl none 1 false (y.B.map (V.int .u8)),.sl none 4 true (y.L.map bv)]) (fun _=> []):=by
 refine enQ [2] Tryz.func188 Tryz.ntmps188 (mf.eq_1 ..) fun r hw=> ?_
 intro hF hM
 refine gK ?_
 revert hM;revert hF
 refine slQ ?_
 intro hF hM
 refine il _ (⟨[(1,.ptr 0 0),(2,.ptr 1 0),(3,.ptr 2 0)],[(0,.pvar 41 true ((dR c))),(1,.var 4 true (.agg [.int .i64 0,.int .i64 0,.sl (some true) 1 false [],.sl (some true) 4 true []])),(2,.var 1 true (.agg [.sl (some true) 4 true []]))],3⟩:St) (ij (S:=⟨_,_,_⟩) 0 (n:=41) (g:=true) (d:=(dR c)) clQ clQ) sbQ sbQ ?_
 revert hM;revert hF
 refine slQ ?_
 intro hF hM
 replace hM:=aw hM;obtain ⟨x1,hx2,hM⟩:=hM
 have hcx1:=Ec (some true) (some false) lT ([c.Bank,c.Epoch,c.Denom,c.Depth,c.A]:List Int) (by (have h0:lT.l.length=0:=rfl;omega))
 rw [←hx2] at hcx1
 refine CJ [2,4] hcx1 ((Cr 2 0 222 rfl rfl (by decide)).trans (io 3 (T:=3) (n:=1) (g:=false) (z:=(some false)) (l:=([c.Bank,c.Epoch,c.Denom,c.Depth,c.A]:List Int).map (V.int .i64)) clQ).toQ) (by decide) lsQ lsQ (fun hw3=> ?_)
 replace hw3:=nzQ hw3
 revert hM;revert hF
 refine slQ ?_
 have hq4:=Du hx2
 replace hq4:=nzQ hq4
 intro hF hM
 replace hM:=aw hM;obtain ⟨x5,hx6,hM⟩:=hM
 have hcx5:=Na none (some false) x1 (bd 32 c.Root) (by (have h0:lT.l.length=0:=rfl;omega))
 rw [←hx6] at hcx5
 refine jk [2,4] hcx5 (by decide) lsQ lsQ (fun hw7=> ?_)
 replace hw7:=nzQ hw7
 revert hM;revert hF
 refine slQ ?_
 have hq8:=Lz hx6
 replace hq8:=nzQ hq8
 intro hF hM
 replace hM:=aw hM;obtain ⟨x9,hx10,hM⟩:=hM
 have hcx9:=Ec none (some false) x5 ([c.Sign.Z,c.Sign.A,c.Sign.B,c.Sign.R]:List Int) (by (have h0:lT.l.length=0:=rfl;omega))
 rw [←hx10] at hcx9
 refine CK [2,4] hcx9 (io 5 (T:=3) (n:=1) (g:=false) (z:=(some false)) (l:=([c.Sign.Z,c.Sign.A,c.Sign.B,c.Sign.R]:List Int).map (V.int .i64)) clQ) (by decide) lsQ lsQ (fun hw11=> ?_)
 replace hw11:=nzQ hw11
 revert hM;revert hF
 refine slQ ?_
 have hq12:=Du hx10
 replace hq12:=nzQ hq12
 exact auR
instance S7 (c:bu):CM En (tX c) 154 [(dR c)] (fun y=>(aH y)) (fun _=> []):=by
 refine enQ noJ Tryz.func154 Tryz.ntmps154 (tX.eq_1 ..) fun r hw=> ?_
 refine ax fun x1 hx2 _ _=> ?_
 have hq4:=LL hx2
 replace hq4:=nzQ hq4
 intro hF hM
 replace hM:=aw hM;obtain ⟨x5,hx6,hM⟩:=hM
 have hcx5:=cmH hx6 (kK x1 (by (exact pfQ)))
 refine aP hcx5 clQ clQ (fun hw7=> ?_)
 replace hw7:=nzQ hw7
 revert hM;revert hF
 refine slQ ?_
 have hq8:=kI hx6
 replace hq8:=nzQ hq8
 intro hF hM
 replace hM:=aw hM;obtain ⟨x9,hx10,hM⟩:=hM
 have hcx9:=cmH hx10 (iI ([115,112,101,99,105,101,47,99,111,105,110,45,105,116,101,109]) (x5.1) (by (exact pfQ)))
 refine aP hcx9 clQ clQ (fun hw11=> ?_)
 replace hw11:=nzQ hw11
 exact auP
instance S8 (h_:(List Int)):CM En (jw h_) 153 [(aH h_)] (fun y=> .agg [.int .i64 y.Kind,.int .i64 y.N,.sl none 1 false (y.B.map (V.int .u8)),.sl none 4 true (y.L.map bv)]) (fun _=> []):=by
 refine enQ noJ Tryz.func153 Tryz.ntmps153 (jw.eq_1 ..) fun r hw=> ?_
 intro hF hM
 replace hM:=aw hM;obtain ⟨x1,hx2,hM⟩:=hM
 have hcx1:=zG (some false) (bd 32 h_)
 rw [←hx2] at hcx1
 refine aP hcx1 clQ clQ (fun hw3=> ?_)
 replace hw3:=nzQ hw3
 exact auP
instance S9 (l:(List am)):CM En (kB l) 152 [.sl none 4 true (l.map bv)] (fun y=> .agg [.int .i64 y.Kind,.int .i64 y.N,.sl none 1 false (y.B.map (V.int .u8)),.sl none 4 true (y.L.map bv)]) (fun _=> []):=by
 refine enQ noJ Tryz.func152 Tryz.ntmps152 (kB.eq_1 ..) fun r hw=> ?_
 exact auR
set_option maxRecDepth 512 in
instance (priority:=1026):DRD 1 53 25 [9,15,16,17,18,19,20,21,22,23,24,25,26,27,28,29,30,31,32,33,34,35,36,37,38] [] ([[],[0],[0,1],[],[3],[],[5],[3,4,5,6],[3,4,5,6,7],[],[9],[9,10],[],[12],[],[14],[12,13,14,15],[12,13,14,15,16],[0,1,2,3,4,5,6,7,8,9,10,11,12,13,14,15,16,17],[0,1,2,3,4,5,6,7,8,9,10,11,12,13,14,15,16,17,18],[0,1,2,3,4,5,6,7,8,9,10,11,12,13,14,15,16,17,18,19],[0,1,2,3,4,5,6,7,8,9,10,11,12,13,14,15,16,17,18,19,20],[0,1,2,3,4,5,6,7,8,9,10,11,12,13,14,15,16,17,18,19,20,21],[0,1,2,3,4,5,6,7,8,9,10,11,12,13,14,15,16,17,18,19,20,21],[0,1,2,3,4,5,6,7,8,9,10,11,12,13,14,15,16,17,18,19,20,21,22]]++[List.range 25]) [(7,11),(16,20),(18,22)]:=⟨trivial⟩
instance S_ (b:aY) (c:bu) (n_:fG) (x_:eH):CM En (yg b c n_ x_) 128 [(bL b),(dR c),.agg [.int .i64 n_.Level,.int .i64 n_.Index],(lU x_)] (fun y=> .int .i64 y) (fun _=> []):=by
 refine enQ noJ Tryz.func128 Tryz.ntmps128 (yg.eq_1 ..) fun r hw=> ?_
 refine slQ ?_
 refine ax fun _ _ _ _=> ?_
 refine ax fun _ hx4 _ _=> ?_
 have hq5:=DU hx4
 replace hq5:=nzQ hq5
 refine ax fun _ hx7 _ _=> ?_
 have hq8:=zo hx7
 replace hq8:=nzQ hq8
 refine ax fun _ hx10 _ _=> ?_
 have hq11:=DU hx10
 replace hq11:=nzQ hq11
 refine ax fun _ hx13 _ _=> ?_
 have hq14:=zo hx13
 replace hq14:=nzQ hq14
 refine ax fun x15 hx16 _ _=> ?_
 have hq17:=L4 hx16
 replace hq17:=nzQ hq17
 intro hF hM
 replace hM:=aw hM;obtain ⟨x18,hx19,hM⟩:=hM
 have hcx18:=cmH hx19 (kK x15 (by (exact pfQ)))
 refine bC hcx18 clQ clQ ?_
 revert hM;revert hF
 refine slQ ?_
 have hq20:=kI hx19
 replace hq20:=nzQ hq20
 intro hF hM
 replace hM:=aw hM;obtain ⟨x21,hx22,hM⟩:=hM
 have hcx21:=cmH hx22 (iI ([115,112,101,99,105,101,47,115,112,101,110,100]) (x18.1) (by (exact pfQ)))
 refine aP hcx21 clQ clQ (fun hw23=> ?_)
 replace hw23:=nzQ hw23
 exact auP
instance Ta (g:aO) (l:(List Int)):CM En (tY g l) 190 [.agg [.int .i64 g.P,.int .i64 g.Q,.int .i64 g.G],.sl none 1 false (l.map (V.int .i64))] (fun y=> .int .i64 y) (fun _=> []):=by
 refine enQ noJ Tryz.func190 Tryz.ntmps190 (tY.eq_1 ..) fun r hw=> ?_
 refine ax fun _ _ _ _=> ?_
 refine az fun _ _ _=> ?_
 intro hF hM
 replace hM:=aF hM;obtain ⟨f7,d7,hf7,hd7,hM⟩:=hM
 refine aL (fun n S=> ∃p:Int,S=(⟨[(2,.ptr 0 0),(10,.sl none 1 false (l.map (V.int .i64))),(11,.int .i64 (l.length:Int)),(12,.int .i64 p)],[(0,.var 3 true (.agg [.int .i64 g.P,.int .i64 g.Q,.int .i64 g.G]))],1⟩:St)∧((0≤p)∧(p≤(l.length:Int)))∧((l.length:Int) - p).toNat<n∧ae n f7 d7 p=r) (((l.length:Int) - 0).toNat+1) _ sbQ sbQ ⟨0,rfl,⟨omQ,omQ⟩,(Nat.lt_succ_self _),hM⟩ ?_
 clear hM
 rintro n7 S ⟨p7,rfl,hfa7,hm7,hM⟩
 replace hM:=aG hM (by omega) hf7;obtain ⟨ag7,hag7,hM⟩:=hM
 replace hfa7:=nzQ hfa7
 replace hm7:=nzQ hm7
 have ha7:al .i64 p7 1=p7+1:=aJ omQ omQ
 replace hF:=(And.intro ha7 hF)
 revert hM;revert hF
 refine slQ ?_
 refine aq fun _ _ _=> ?_
 refine ax fun _ _ _ _=> ?_
 refine az fun _ _ _=> ?_
 intro hF hM
 refine aC (n7 - 1) _ (by omega) sbQ sbQ ⟨(p7+1),rfl,⟨omQ,omQ⟩,omQ,aB hM hag7⟩
instance Tb (a_:Int) (m:Int):CM En (yh a_ m) 191 [.int .i64 a_,.int .i64 m] (fun y=> .tup [.int .i64 y.1,.int .i64 y.2]) (fun _=> []):=by
 refine enQ noJ Tryz.func191 Tryz.ntmps191 (yh.eq_1 ..) fun r hw=> ?_
 exact auR
instance Tc (g:aO) (a_:Int) (e_:Int):CM En (qu g a_ e_) 157 [.agg [.int .i64 g.P,.int .i64 g.Q,.int .i64 g.G],.int .i64 a_,.int .i64 e_] (fun y=> .tup [.int .i64 y.1,.int .i64 y.2]) (fun _=> []):=by
 refine enQ noJ Tryz.func157 Tryz.ntmps157 (qu.eq_1 ..) fun r hw=> ?_
 exact auR
instance Td (g:aO) (a_:Int) (b:Int):CM En (qv g a_ b) 158 [.agg [.int .i64 g.P,.int .i64 g.Q,.int .i64 g.G],.int .i64 a_,.int .i64 b] (fun y=> .tup [.int .i64 y.1,.int .i64 y.2]) (fun _=> []):=by
 refine enQ noJ Tryz.func158 Tryz.ntmps158 (qv.eq_1 ..) fun r hw=> ?_
 exact auR
instance Te (x_:Int) (c0:aO):CM En (yi x_ c0) 249 [.int .i64 x_,.pp 3 true (.agg [.int .i64 c0.P,.int .i64 c0.Q,.int .i64 c0.G])] (fun y=> .bool y) (fun _=> []):=by
 refine enQ noJ Tryz.func249 Tryz.ntmps249 (yi.eq_1 ..) fun r hw=> ?_
 exact auR
instance Tf (s:(List Int)) (f__c0:aO):CM En (yj s f__c0) 229 [.sl none 1 false (s.map (V.int .i64)),.fn 249 [.pp 3 true (.agg [.int .i64 f__c0.P,.int .i64 f__c0.Q,.int .i64 f__c0.G])]] (fun y=> .int .i64 y) (fun _=> []):=by
 refine enQ noJ Tryz.func229 Tryz.ntmps229 (yj.eq_1 ..) fun r hw=> ?_
 intro hF hM
 replace hM:=aF hM;obtain ⟨f1,d1,hf1,hd1,hM⟩:=hM
 refine aL (fun n S=> ∃p:Int,S=(⟨[(0,.sl none 1 false (s.map (V.int .i64))),(1,.fn 249 [.pp 3 true (.agg [.int .i64 f__c0.P,.int .i64 f__c0.Q,.int .i64 f__c0.G])]),(7,.int .i64 (s.length:Int)),(8,.int .i64 p)],[],0⟩:St)∧((0≤p)∧(p≤(s.length:Int)))∧((s.length:Int) - p).toNat<n∧ae n f1 d1 p=r) (((s.length:Int) - 0).toNat+1) _ sbQ sbQ ⟨0,rfl,⟨omQ,omQ⟩,(Nat.lt_succ_self _),hM⟩ ?_
 clear hM
 rintro n1 S ⟨p1,rfl,hfa1,hm1,hM⟩
 replace hM:=aG hM (by omega) hf1;obtain ⟨ag1,hag1,hM⟩:=hM
 replace hfa1:=nzQ hfa1
 replace hm1:=nzQ hm1
 have ha1:al .i64 p1 1=p1+1:=aJ omQ omQ
 replace hF:=(And.intro ha1 hF)
 revert hM;revert hF
 refine slQ ?_
 refine aq fun _ _ _=> ?_
 refine ax fun _ _ _ _=> ?_
 refine az fun _ _ _=> ?_
 intro hF hM
 refine aC (n1 - 1) _ (by omega) sbQ sbQ ⟨(p1+1),rfl,⟨omQ,omQ⟩,omQ,aB hM hag1⟩
instance Tg (s:(List Int)) (f__c0:aO):CM En (yk s f__c0) 194 [.sl none 1 false (s.map (V.int .i64)),.fn 249 [.pp 3 true (.agg [.int .i64 f__c0.P,.int .i64 f__c0.Q,.int .i64 f__c0.G])]] (fun y=> .bool y) (fun _=> []):=by
 refine enQ noJ Tryz.func194 Tryz.ntmps194 (yk.eq_1 ..) fun r hw=> ?_
 exact auR
instance Th (g:aO) (l:(List Int)):CM En (yl g l) 226 [.agg [.int .i64 g.P,.int .i64 g.Q,.int .i64 g.G],.sl none 1 false (l.map (V.int .i64))] (fun y=> .bool y) (fun _=> []):=by
 refine enQ noJ Tryz.func226 Tryz.ntmps226 (yl.eq_1 ..) fun r hw=> ?_
 exact auR
instance Ti (e_:Int) (c0:aO):CM En (ym e_ c0) 250 [.int .i64 e_,.pp 3 true (.agg [.int .i64 c0.P,.int .i64 c0.Q,.int .i64 c0.G])] (fun y=> .bool y) (fun _=> []):=by
 refine enQ noJ Tryz.func250 Tryz.ntmps250 (ym.eq_1 ..) fun r hw=> ?_
 exact auR
instance Tj (s:(List Int)) (f__c0:aO):CM En (yn s f__c0) 229 [.sl none 1 false (s.map (V.int .i64)),.fn 250 [.pp 3 true (.agg [.int .i64 f__c0.P,.int .i64 f__c0.Q,.int .i64 f__c0.G])]] (fun y=> .int .i64 y) (fun _=> []):=by
 refine enQ noJ Tryz.func229 Tryz.ntmps229 (yn.eq_1 ..) fun r hw=> ?_
 intro hF hM
 replace hM:=aF hM;obtain ⟨f1,d1,hf1,hd1,hM⟩:=hM
 refine aL (fun n S=> ∃p:Int,S=(⟨[(0,.sl none 1 false (s.map (V.int .i64))),(1,.fn 250 [.pp 3 true (.agg [.int .i64 f__c0.P,.int .i64 f__c0.Q,.int .i64 f__c0.G])]),(7,.int .i64 (s.length:Int)),(8,.int .i64 p)],[],0⟩:St)∧((0≤p)∧(p≤(s.length:Int)))∧((s.length:Int) - p).toNat<n∧ae n f1 d1 p=r) (((s.length:Int) - 0).toNat+1) _ sbQ sbQ ⟨0,rfl,⟨omQ,omQ⟩,(Nat.lt_succ_self _),hM⟩ ?_
 clear hM
 rintro n1 S ⟨p1,rfl,hfa1,hm1,hM⟩
 replace hM:=aG hM (by omega) hf1;obtain ⟨ag1,hag1,hM⟩:=hM
 replace hfa1:=nzQ hfa1
 replace hm1:=nzQ hm1
 have ha1:al .i64 p1 1=p1+1:=aJ omQ omQ
 replace hF:=(And.intro ha1 hF)
 revert hM;revert hF
 refine slQ ?_
 refine aq fun _ _ _=> ?_
 refine ax fun _ _ _ _=> ?_
 refine az fun _ _ _=> ?_
 intro hF hM
 refine aC (n1 - 1) _ (by omega) sbQ sbQ ⟨(p1+1),rfl,⟨omQ,omQ⟩,omQ,aB hM hag1⟩
instance Tk (s:(List Int)) (f__c0:aO):CM En (yo s f__c0) 194 [.sl none 1 false (s.map (V.int .i64)),.fn 250 [.pp 3 true (.agg [.int .i64 f__c0.P,.int .i64 f__c0.Q,.int .i64 f__c0.G])]] (fun y=> .bool y) (fun _=> []):=by
 refine enQ noJ Tryz.func194 Tryz.ntmps194 (yo.eq_1 ..) fun r hw=> ?_
 exact auR
instance Tl (g:aO) (l:(List Int)):CM En (yp g l) 227 [.agg [.int .i64 g.P,.int .i64 g.Q,.int .i64 g.G],.sl none 1 false (l.map (V.int .i64))] (fun y=> .bool y) (fun _=> []):=by
 refine enQ noJ Tryz.func227 Tryz.ntmps227 (yp.eq_1 ..) fun r hw=> ?_
 exact auR
set_option maxRecDepth 512 in
instance (priority:=1027):DRD 5 45 11 [11,20,21,22,23,24,25,26,27,28,29] [] ([[],[],[],[],[2,3],[2,3,4],[0,1,2,3,4,5],[0,1,2,3,4,5,6],[0,1,2,3,4,5,6,7],[0,1,2,3,4,5,6,7],[0,1,2,3,4,5,6,7,8]]++[List.range 11]) []:=⟨trivial⟩
theorem Nb (g:aO) (bases:(List Int)) (exps:(List Int)) (hp0:bases.length=exps.length):CM En (yq g bases exps) 228 [.agg [.int .i64 g.P,.int .i64 g.Q,.int .i64 g.G],.sl none 1 false (bases.map (V.int .i64)),.sl none 1 false (exps.map (V.int .i64))] (fun y=> .tup [.int .i64 y.1,.int .i64 y.2]) (fun _=> []):=by
 refine enQ noJ Tryz.func228 Tryz.ntmps228 (yq.eq_1 ..) fun r hw=> ?_
 intro hF hM
 replace hM:=aF hM;obtain ⟨f1,d1,hf1,hd1,hM⟩:=hM
 refine aL (fun n S=> ∃p:Int×Int,S=(⟨[(2,.sl none 1 false (exps.map (V.int .i64))),(3,.ptr 0 0),(8,.int .i64 p.1),(13,.sl none 1 false (bases.map (V.int .i64))),(14,.int .i64 (bases.length:Int)),(15,.int .i64 p.2)],[(0,.var 3 true (.agg [.int .i64 g.P,.int .i64 g.Q,.int .i64 g.G]))],1⟩:St)∧((0≤p.2)∧(p.2≤(bases.length:Int)))∧((bases.length:Int) - p.2).toNat<n∧ae n f1 d1 p=r) (((bases.length:Int) - 0).toNat+1) _ sbQ sbQ ⟨(1,0),rfl,⟨omQ,omQ⟩,(Nat.lt_succ_self _),hM⟩ ?_
 clear hM
 rintro n1 S ⟨p1,rfl,hfa1,hm1,hM⟩
 replace hM:=aG hM (by omega) hf1;obtain ⟨ag1,hag1,hM⟩:=hM
 replace hfa1:=nzQ hfa1
 replace hm1:=nzQ hm1
 have ha1:al .i64 p1.2 1=p1.2+1:=aJ omQ omQ
 replace hF:=(And.intro ha1 hF)
 revert hM;revert hF
 refine slQ ?_
 refine aq fun _ _ _=> ?_
 refine ax fun _ _ _ _=> ?_
 refine az fun _ _ _=> ?_
 refine ax fun x11 _ _ _=> ?_
 refine az fun _ _ _=> ?_
 intro hF hM
 refine aC (n1 - 1) _ (by omega) sbQ sbQ ⟨(x11.1,(p1.2+1)),rfl,⟨omQ,omQ⟩,omQ,aB hM hag1⟩
instance Tm (g:aO) (bases:(List Int)) (exps:(List Int)):CM En (yr g bases exps) 193 [.agg [.int .i64 g.P,.int .i64 g.Q,.int .i64 g.G],.sl none 1 false (bases.map (V.int .i64)),.sl none 1 false (exps.map (V.int .i64))] (fun y=> .tup [.int .i64 y.1,.int .i64 y.2]) (fun _=> []):=by
 refine enQ noJ Tryz.func193 Tryz.ntmps193 (yr.eq_1 ..) fun r hw=> ?_
 refine ax fun _ _ _ _=> ?_
 refine aq fun _ _ _=> ?_
 refine az fun _ _ _=> ?_
 refine az fun _ _ _=> ?_
 refine ax fun _ _ _ _=> ?_
 refine aq fun _ _ _=> ?_
 refine ax fun _ _ _ _=> ?_
 refine az fun _ _ _=> ?_
 intro hF hM
 replace hM:=aw hM;obtain ⟨x23,hx24,hM⟩:=hM
 have hcx23:=cmH hx24 (Nb g bases exps (by (exact pfQ)))
 refine aP hcx23 clQ clQ (fun hw25=> ?_)
 replace hw25:=nzQ hw25
 exact auP
instance Tn (g:aO) (y:Int) (bases:(List Int)) (exps:(List Int)):CM En (yt g y bases exps) 159 [.agg [.int .i64 g.P,.int .i64 g.Q,.int .i64 g.G],.int .i64 y,.sl none 1 false (bases.map (V.int .i64)),.sl none 1 false (exps.map (V.int .i64))] (fun y=> .bool y) (fun _=> []):=by
 refine enQ noJ Tryz.func159 Tryz.ntmps159 (yt.eq_1 ..) fun r hw=> ?_
 exact auR
instance To (b:aY) (a_:Int) (k_:Int) (l:dO):CM En (yu b a_ k_ l) 129 [(bL b),.int .i64 a_,.int .i64 k_,.agg [.int .i64 l.B,.int .i64 l.R1,.int .i64 l.R2]] (fun y=> .bool y) (fun _=> []):=by
 refine enQ noJ Tryz.func129 Tryz.ntmps129 (yu.eq_1 ..) fun r hw=> ?_
 exact auR
end Go.Proofs.YteibkofekpejgaaGreatDoor
