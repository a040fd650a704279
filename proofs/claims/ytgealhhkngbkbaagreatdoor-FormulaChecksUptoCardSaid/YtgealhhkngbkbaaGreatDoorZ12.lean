/- Texts of this proof, one after the other: U3. -/
import Derived.Test.YtgealhhkngbkbaaGreatDoorZ11
set_option linter.unusedVariables false
set_option linter.unusedSimpArgs false
namespace Go.Proofs.YtgealhhkngbkbaaGreatDoor
open Go.RowKit
set_option linter.unusedSimpArgs false
set_option maxHeartbeats 2000000 in
set_option maxRecDepth 100000 in
theorem Mr (N:Nat) (ih: ∀(f_:aa),(ax f_≤1000)→ax f_<N→aE En 78 [.agg [.int .i64 f_.Kind,.sl none 1 false (f_.Relation.Y.map (V.int .i64)),.sl none 1 false (f_.Relation.Bases.map (fun (l:List Int)=>V.sl none 1 false (l.map (V.int .i64)))),.sl none 4 true (f_.L.map aA)]] (.int .i64 (fQ f_)) []) (f_:aa) (hp0:ax f_≤1000) (hp_:ax f_<N+1):aE En 78 [.agg [.int .i64 f_.Kind,.sl none 1 false (f_.Relation.Y.map (V.int .i64)),.sl none 1 false (f_.Relation.Bases.map (fun (l:List Int)=>V.sl none 1 false (l.map (V.int .i64)))),.sl none 4 true (f_.L.map aA)]] (.int .i64 (pD f_)) []:=by
 generalize hM:pD f_=r
 rw [pD.eq_1] at hM
 refine bU bf bv noJ Tryz.func78 rfl Tryz.ntmps78 (by kernel_rfl) fun hw=>bu ?_
 refine spQ ?_
 replace hw:=nzQ hw
 have hM0:=hM;clear hM;obtain ⟨f1,d1,hf1,hd1,hM⟩:=aO hM0;clear hM0
 refine aS (fun n S=> ∃p:Int×Int,S=(⟨[(1,.ptr 0 0),(3,.int .i64 p.1),(4,.int .i64 p.2)],[(0,.var 4 true (.agg [.int .i64 f_.Kind,.sl none 1 false (f_.Relation.Y.map (V.int .i64)),.sl none 1 false (f_.Relation.Bases.map (fun (l:List Int)=>V.sl none 1 false (l.map (V.int .i64)))),.sl none 4 true (f_.L.map aA)]))],1⟩:St)∧((0≤p.2)∧(p.2≤(f_.L.length:Int))∧(0≤p.1)∧(p.1≤(ax f_:Int)))∧((f_.L.length:Int) - p.2).toNat<n∧ae n f1 d1 p=r) (((f_.L.length:Int) - 0).toNat+1) _ sbQ sbQ ⟨(0,0),rfl,⟨by (first|exact omQ|(clear hM;first|(have h9:=fh (m:=p1.1) rfl;exact am))),by (first|exact omQ|(clear hM;first|(have h9:=fh (m:=p1.1) rfl;exact am))),by (first|exact omQ|(clear hM;first|(have h9:=fh (m:=p1.1) rfl;exact am))),by (first|exact omQ|(clear hM;first|(have h9:=fh (m:=p1.1) rfl;exact am)))⟩,(Nat.lt_succ_self _),hM⟩ ?_
 clear hM
 rintro n1 S ⟨p1,rfl,hfa1,hm1,hM⟩
 have hM0:=hM;clear hM;obtain ⟨ag1,hag1,hM⟩:=aP hM0 (by omega) hf1;clear hM0
 replace hfa1:=nzQ hfa1
 replace hm1:=nzQ hm1
 have ha1:al .i64 p1.2 1=p1.2+1:=aY (by (first|exact omQ|(clear hM;first|(have h9:=fh (m:=p1.1) rfl;exact am)))) (by (first|exact omQ|(clear hM;first|(have h9:=fh (m:=p1.1) rfl;exact am))))
 refine au ha1 ?_
 refine bY (fun h2=> ?_) (fun h2=> ?_)
 ·rw [if_pos h2] at hM
  refine au (And.intro ha1 h2) ?_
  have nh2:=nzQ h2
  try have hr3:=mpQ nh2
  refine bF (by (first|exact omQ|(clear hM;first|(have h9:=fh (m:=p1.1) rfl;exact am)))) ?_
  have he4:=fun d=>cE (l:=f_.L) (f:=aA) (i:=p1.2) (by (first|exact omQ|(clear hM;first|(have h9:=fh (m:=p1.1) rfl;exact am)))) d
  refine au (And.intro ha1 he4) ?_
  have hM0:=hM;clear hM;obtain ⟨x5,hx6,hM⟩:=ap hM0;clear hM0
  have hcx5:=ih (gt f_.L p1.2) (by (have h9:=b_ (f:=f_) (aI (l:=f_.L) (i:=p1.2) (by omega));omega)) (by (have h9:=b_ (f:=f_) (aI (l:=f_.L) (i:=p1.2) (by omega));omega))
  rw [←hx6] at hcx5
  refine aJ hcx5 (ar (And.intro ha1 he4)) (ar (And.intro ha1 he4)) (fun hw7=> ?_)
  replace hw7:=nzQ hw7
  refine au (And.intro ha1 he4) ?_
  have hq8:0≤x5∧x5<(ax f_:Int):=Lp hx6 (b_ (f:=f_) (aI (l:=f_.L) (i:=p1.2) (by omega)))
  replace hq8:=nzQ hq8
  refine aM (n1 - 1) _ (by omega) sbQ sbQ ⟨((ca p1.1 x5),(p1.2+1)),rfl,⟨by (first|exact omQ|(clear hM;first|(have h9:=fh (m:=(ca p1.1 x5)) rfl;exact am))),by (first|exact omQ|(clear hM;first|(have h9:=fh (m:=(ca p1.1 x5)) rfl;exact am))),by (first|exact omQ|(clear hM;first|(have h9:=fh (m:=(ca p1.1 x5)) rfl;exact am))),by (first|exact omQ|(clear hM;first|(have h9:=fh (m:=(ca p1.1 x5)) rfl;exact am)))⟩,by (first|exact omQ|(clear hM;first|(have h9:=fh (m:=(ca p1.1 x5)) rfl;exact am))),aL hM hag1⟩
 ·rw [if_neg (bL h2)] at hM
  refine au (And.intro ha1 h2) ?_
  have nh2:=nzQ h2
  try have hr9:=mpQ nh2
  have ha10:al .i64 p1.1 1=(p1.1+1):=dq (by (first|exact omQ|(clear hM;first|(have h9:=fh (m:=p1.1) rfl;exact am)))) (by (first|exact omQ|(clear hM;first|(have h9:=fh (m:=p1.1) rfl;exact am))))
  try simp only [ha10]
  subst hM
  exact cW (cQ (And.intro ha1 (And.intro ha10 h2)))
theorem Ms: ∀(N:Nat) (f_:aa),(ax f_≤1000)→ax f_<N→aE En 78 [.agg [.int .i64 f_.Kind,.sl none 1 false (f_.Relation.Y.map (V.int .i64)),.sl none 1 false (f_.Relation.Bases.map (fun (l:List Int)=>V.sl none 1 false (l.map (V.int .i64)))),.sl none 4 true (f_.L.map aA)]] (.int .i64 (fQ f_)) []:=by
 intro N
 induction N with
 | zero=>intro f_ h0 h;exact absurd h (Nat.not_lt_zero _)
 | succ N ih=>
  intro f_ h0 h
  have h9:=Mr N ih f_ h0 h
  rw [Le] at h9
  exact h9
theorem Mt (f_:aa) (hp0:ax f_≤1000):aE En 78 [.agg [.int .i64 f_.Kind,.sl none 1 false (f_.Relation.Y.map (V.int .i64)),.sl none 1 false (f_.Relation.Bases.map (fun (l:List Int)=>V.sl none 1 false (l.map (V.int .i64)))),.sl none 4 true (f_.L.map aA)]] (.int .i64 (fQ f_)) []:=
 Ms (ax f_+1) f_ hp0 (Nat.lt_succ_self _)
instance (priority:=1014):DRD 6 105 26 [47,48,49,50,51,52,53,54,55,56,57,58,59,60,61,62,63,64,65,66,67,68,69,70,71,72] [] ([[],[0],[],[0,1,2],[0,1,2,3],[0,1,2,3,4],[0,1,2,3,4,5],[0,1,2,3,4,5,6],[0,1,2,3,4,5,6,7],[0,1,2,3,4,5,6],[0,1,2,3,4,5,6,7,8,9],[0,1,2,3,4,5,6,7,8,9,10],[0,1,2,3,4,5,6,7,8,9,10,11],[0,1,2,3,4,5,6,7,8,9,10,11,12],[0,1,2,3,4,5,6,7,8,9,10,11,12,13],[0,1,2,3,4,5,6,7,8,9,10,11,12,13,14],[0,1,2,3,4,5,6,7,8,9,10,11,12,13,14,15],[0,1,2,3,4,5,6,7,8,9,10,11,12,13,14],[0,1,2,3,4,5,6,7,8,9,10,11,12,13,14,15,16,17],[0,1,2,3,4,5,6,7,8,9,10,11,12,13,14,15,16,17,18],[0,1,2,3,4,5,6,7,8,9,10,11,12,13,14,15,16,17,18,19],[0,1,2,3,4,5,6,7,8,9,10,11,12,13,14],[0,1,2,3,4,5,6,7,8,9,10,11,12,13,14,21],[0,1,2,3,4,5,6,7,8,9,10,11,12,13,14,21,22],[0,1,2,3,4,5,6,7,8,9,10,11,12,13,14,21,22,23],[0,1,2,3,4,5,6,7,8,9,10,11,12,13,14,21,22,23,24]]++[List.range 26,List.range 27]) []:=⟨trivial⟩
set_option maxHeartbeats 2000000 in
set_option maxRecDepth 100000 in
instance Q8 (r_:aH):CM En (gB r_) 132 [.agg [.sl none 1 false (r_.Y.map (V.int .i64)),.sl none 1 false (r_.Bases.map (fun (l:List Int)=>V.sl none 1 false (l.map (V.int .i64))))]] (fun y=> .bool y) (fun _=> []):=by
 refine enQ noJ Tryz.func132 Tryz.ntmps132 (gB.eq_1 ..) fun r hw=> ?_
 refine aC fun _ _ _=> ?_
 refine aC fun _ _ _=> ?_
 refine aC fun _ _ _=> ?_
 refine aC fun _ _ _=> ?_
 refine aT fun _ _ _=> ?_
 intro hF hM
 have hM0:=hM;clear hM;obtain ⟨f13,d13,hf13,hd13,hM⟩:=aO hM0;clear hM0
 refine aS (fun n S=> ∃p:Int,S=(⟨[(1,.ptr 0 0),(3,.int .i64 p)],[(0,.var 2 true (.agg [.sl none 1 false (r_.Y.map (V.int .i64)),.sl none 1 false (r_.Bases.map (fun (l:List Int)=>V.sl none 1 false (l.map (V.int .i64))))]))],1⟩:St)∧((0≤p)∧(p≤(r_.Y.length:Int)))∧((r_.Y.length:Int) - p).toNat<n∧ae n f13 d13 p=r) (((r_.Y.length:Int) - 0).toNat+1) _ sbQ sbQ ⟨0,rfl,⟨omQ,omQ⟩,(Nat.lt_succ_self _),hM⟩ ?_
 clear hM
 rintro n13 S ⟨p13,rfl,hfa13,hm13,hM⟩
 have hM0:=hM;clear hM;obtain ⟨ag13,hag13,hM⟩:=aP hM0 (by omega) hf13;clear hM0
 replace hfa13:=nzQ hfa13
 replace hm13:=nzQ hm13
 have ha13:al .i64 p13 1=p13+1:=aY omQ omQ
 replace hF:=(And.intro ha13 hF)
 revert hM;revert hF
 refine slQ ?_
 refine aC fun _ _ _=> ?_
 refine aC fun _ _ _=> ?_
 refine aC fun _ _ _=> ?_
 refine aT fun _ _ _=> ?_
 intro hF hM
 have hM0:=hM;clear hM;obtain ⟨f25,d25,hf25,hd25,hM⟩:=aO hM0;clear hM0
 refine aS (fun n S=> ∃p:Int,S=(⟨[(1,.ptr 0 0),(3,.int .i64 p13),(4,.int .i64 p)],[(0,.var 2 true (.agg [.sl none 1 false (r_.Y.map (V.int .i64)),.sl none 1 false (r_.Bases.map (fun (l:List Int)=>V.sl none 1 false (l.map (V.int .i64))))]))],27⟩:St)∧((0≤p)∧(p≤((gt r_.Bases p13).length:Int)))∧(((gt r_.Bases p13).length:Int) - p).toNat<n∧ae n f25 d25 p=r) ((((gt r_.Bases p13).length:Int) - 0).toNat+1) _ sbQ sbQ ⟨0,rfl,⟨omQ,omQ⟩,(Nat.lt_succ_self _),hM⟩ ?_
 clear hM
 rintro n25 S ⟨p25,rfl,hfa25,hm25,hM⟩
 have hM0:=hM;clear hM;obtain ⟨ag25,hag25,hM⟩:=aP hM0 (by omega) hf25;clear hM0
 replace hfa25:=nzQ hfa25
 replace hm25:=nzQ hm25
 have ha25:al .i64 p25 1=p25+1:=aY omQ omQ
 replace hF:=(And.intro ha25 hF)
 revert hM;revert hF
 refine slQ ?_
 refine cdQ (fun _ _ _=> ?_) (fun _ _ _=> ?_)
 ·refine aC fun _ _ _=> ?_
  refine aT fun _ _ _=> ?_
  intro hF hM
  refine aM (n25 - 1) _ (by omega) sbQ sbQ ⟨(p25+1),rfl,⟨omQ,omQ⟩,omQ,aL hM hag25⟩
 ·intro hF hM
  refine aM (n13 - 1) _ (by omega) sbQ sbQ ⟨(p13+1),rfl,⟨omQ,omQ⟩,omQ,aL hM hag13⟩
set_option maxHeartbeats 2000000 in
set_option maxRecDepth 100000 in
theorem Mu (N:Nat) (ih: ∀(f_:aa),ax f_<N→aE En 79 [.agg [.int .i64 f_.Kind,.sl none 1 false (f_.Relation.Y.map (V.int .i64)),.sl none 1 false (f_.Relation.Bases.map (fun (l:List Int)=>V.sl none 1 false (l.map (V.int .i64)))),.sl none 4 true (f_.L.map aA)]] (.bool (fR f_)) []) (f_:aa) (hp_:ax f_<N+1):aE En 79 [.agg [.int .i64 f_.Kind,.sl none 1 false (f_.Relation.Y.map (V.int .i64)),.sl none 1 false (f_.Relation.Bases.map (fun (l:List Int)=>V.sl none 1 false (l.map (V.int .i64)))),.sl none 4 true (f_.L.map aA)]] (.bool (pE f_)) []:=by
 generalize hM:pE f_=r
 rw [pE.eq_1] at hM
 refine bU bf bv noJ Tryz.func79 rfl Tryz.ntmps79 (by kernel_rfl) fun hw=>bu ?_
 refine spQ ?_
 replace hw:=nzQ hw
 have hF:=bW
 revert hM;revert hF
 refine aT fun _ _ _=> ?_
 refine cdQ (fun _ _ _=> ?_) (fun _ _ _=> ?_)
 ·refine aC fun _ _ _=> ?_
  refine aC fun _ _ _=> ?_
  refine aC fun _ _ _=> ?_
  refine aC fun _ _ _=> ?_
  refine aT fun _ _ _=> ?_
  intro hF hM
  have hM0:=hM;clear hM;obtain ⟨f23,d23,hf23,hd23,hM⟩:=aO hM0;clear hM0
  refine aS (fun n S=> ∃p:Int,S=(⟨[(1,.ptr 0 0),(3,.int .i64 p)],[(0,.var 4 true (.agg [.int .i64 f_.Kind,.sl none 1 false (f_.Relation.Y.map (V.int .i64)),.sl none 1 false (f_.Relation.Bases.map (fun (l:List Int)=>V.sl none 1 false (l.map (V.int .i64)))),.sl none 4 true (f_.L.map aA)]))],1⟩:St)∧((0≤p)∧(p≤(f_.L.length:Int)))∧((f_.L.length:Int) - p).toNat<n∧ae n f23 d23 p=r) (((f_.L.length:Int) - 0).toNat+1) _ sbQ sbQ ⟨0,rfl,⟨omQ,omQ⟩,(Nat.lt_succ_self _),hM⟩ ?_
  clear hM
  rintro n23 S ⟨p23,rfl,hfa23,hm23,hM⟩
  have hM0:=hM;clear hM;obtain ⟨ag23,hag23,hM⟩:=aP hM0 (by omega) hf23;clear hM0
  replace hfa23:=nzQ hfa23
  replace hm23:=nzQ hm23
  have ha23:al .i64 p23 1=p23+1:=aY omQ omQ
  replace hF:=(And.intro ha23 hF)
  revert hM;revert hF
  refine slQ ?_
  refine aC fun _ _ _=> ?_
  intro hF hM
  have hM0:=hM;clear hM;obtain ⟨x27,hx28,hM⟩:=ap hM0;clear hM0
  have hcx27:=ih (gt f_.L p23) (by (have h9:=b_ (f:=f_) (aI (l:=f_.L) (i:=p23) (by omega));omega))
  rw [←hx28] at hcx27
  refine aJ hcx27 (ar hF) (ar hF) (fun hw29=> ?_)
  replace hw29:=nzQ hw29
  revert hM;revert hF
  refine slQ ?_
  refine aT fun _ _ _=> ?_
  intro hF hM
  refine aM (n23 - 1) _ (by omega) sbQ sbQ ⟨(p23+1),rfl,⟨omQ,omQ⟩,omQ,aL hM hag23⟩
 ·refine aC fun _ _ _=> ?_
  refine aC fun _ _ _=> ?_
  refine aC fun _ _ _=> ?_
  refine aT fun _ _ _=> ?_
  intro hF hM
  have hM0:=hM;clear hM;obtain ⟨f48,d48,hf48,hd48,hM⟩:=aO hM0;clear hM0
  refine aS (fun n S=> ∃p:Int,S=(⟨[(1,.ptr 0 0),(3,.int .i64 p)],[(0,.var 4 true (.agg [.int .i64 f_.Kind,.sl none 1 false (f_.Relation.Y.map (V.int .i64)),.sl none 1 false (f_.Relation.Bases.map (fun (l:List Int)=>V.sl none 1 false (l.map (V.int .i64)))),.sl none 4 true (f_.L.map aA)]))],1⟩:St)∧((0≤p)∧(p≤(f_.L.length:Int)))∧((f_.L.length:Int) - p).toNat<n∧ae n f48 d48 p=r) (((f_.L.length:Int) - 0).toNat+1) _ sbQ sbQ ⟨0,rfl,⟨omQ,omQ⟩,(Nat.lt_succ_self _),hM⟩ ?_
  clear hM
  rintro n48 S ⟨p48,rfl,hfa48,hm48,hM⟩
  have hM0:=hM;clear hM;obtain ⟨ag48,hag48,hM⟩:=aP hM0 (by omega) hf48;clear hM0
  replace hfa48:=nzQ hfa48
  replace hm48:=nzQ hm48
  have ha48:al .i64 p48 1=p48+1:=aY omQ omQ
  replace hF:=(And.intro ha48 hF)
  revert hM;revert hF
  refine slQ ?_
  refine aC fun _ _ _=> ?_
  intro hF hM
  have hM0:=hM;clear hM;obtain ⟨x52,hx53,hM⟩:=ap hM0;clear hM0
  have hcx52:=ih (gt f_.L p48) (by (have h9:=b_ (f:=f_) (aI (l:=f_.L) (i:=p48) (by omega));omega))
  rw [←hx53] at hcx52
  refine aJ hcx52 (ar hF) (ar hF) (fun hw54=> ?_)
  replace hw54:=nzQ hw54
  revert hM;revert hF
  refine slQ ?_
  refine aT fun _ _ _=> ?_
  intro hF hM
  refine aM (n48 - 1) _ (by omega) sbQ sbQ ⟨(p48+1),rfl,⟨omQ,omQ⟩,omQ,aL hM hag48⟩
theorem Mv: ∀(N:Nat) (f_:aa),ax f_<N→aE En 79 [.agg [.int .i64 f_.Kind,.sl none 1 false (f_.Relation.Y.map (V.int .i64)),.sl none 1 false (f_.Relation.Bases.map (fun (l:List Int)=>V.sl none 1 false (l.map (V.int .i64)))),.sl none 4 true (f_.L.map aA)]] (.bool (fR f_)) []:=by
 intro N
 induction N with
 | zero=>intro f_ h;exact absurd h (Nat.not_lt_zero _)
 | succ N ih=>
  intro f_ h
  have h9:=Mu N ih f_ h
  rw [Lg] at h9
  exact h9
theorem Mw (f_:aa):aE En 79 [.agg [.int .i64 f_.Kind,.sl none 1 false (f_.Relation.Y.map (V.int .i64)),.sl none 1 false (f_.Relation.Bases.map (fun (l:List Int)=>V.sl none 1 false (l.map (V.int .i64)))),.sl none 4 true (f_.L.map aA)]] (.bool (fR f_)) []:=
 Mv (ax f_+1) f_ (Nat.lt_succ_self _)
set_option maxHeartbeats 2000000 in
set_option maxRecDepth 100000 in
instance Q9 (f_:aa):CM En (iF f_) 32 [.agg [.int .i64 f_.Kind,.sl none 1 false (f_.Relation.Y.map (V.int .i64)),.sl none 1 false (f_.Relation.Bases.map (fun (l:List Int)=>V.sl none 1 false (l.map (V.int .i64)))),.sl none 4 true (f_.L.map aA)]] (fun y=> .bool y) (fun _=> []):=by
 refine enQ noJ Tryz.func32 Tryz.ntmps32 (iF.eq_1 ..) fun r hw=> ?_
 intro hF hM
 have hM0:=hM;clear hM;obtain ⟨x1,hx2,hM⟩:=ap hM0;clear hM0
 have hcx1:=Mq f_
 rw [←hx2] at hcx1
 refine aJ hcx1 clQ clQ (fun hw3=> ?_)
 replace hw3:=nzQ hw3
 revert hM;revert hF
 refine slQ ?_
 have hq4:=CA hx2
 replace hq4:=nzQ hq4
 refine aC fun _ _ _=> ?_
 intro hF hM
 have hM0:=hM;clear hM;obtain ⟨x7,hx8,hM⟩:=ap hM0;clear hM0
 have hcx7:=Mt f_ (by (exact pfQ))
 rw [←hx8] at hcx7
 refine aJ hcx7 clQ clQ (fun hw9=> ?_)
 replace hw9:=nzQ hw9
 revert hM;revert hF
 refine slQ ?_
 refine aC fun _ _ _=> ?_
 intro hF hM
 have hM0:=hM;clear hM;obtain ⟨x12,hx13,hM⟩:=ap hM0;clear hM0
 have hcx12:=Mw f_
 rw [←hx13] at hcx12
 refine aJ hcx12 clQ clQ (fun hw14=> ?_)
 replace hw14:=nzQ hw14
 exact auP
set_option maxHeartbeats 2000000 in
set_option maxRecDepth 100000 in
theorem CZ (r_:aH) (hp0:1≤r_.Bases.length):CM En (eQ r_) 95 [.agg [.sl none 1 false (r_.Y.map (V.int .i64)),.sl none 1 false (r_.Bases.map (fun (l:List Int)=>V.sl none 1 false (l.map (V.int .i64))))]] (fun y=> .int .i64 y) (fun _=> []):=by
 refine enQ noJ Tryz.func95 Tryz.ntmps95 (eQ.eq_1 ..) fun r hw=> ?_
 exact auR
set_option maxHeartbeats 2000000 in
set_option maxRecDepth 100000 in
theorem xk (g:ao) (x_:Int) (hp0:3≤g.Q) (hp1:g.P<2305843009213693952):CM En (cv g x_) 115 [.agg [.int .i64 g.P,.int .i64 g.Q,.int .i64 g.G],.int .i64 x_] (fun y=> .bool y) (fun _=> []):=by
 refine enQ noJ Tryz.func115 Tryz.ntmps115 (cv.eq_1 ..) fun r hw=> ?_
 refine aC fun _ _ _=> ?_
 refine aC fun _ _ _=> ?_
 intro hF hM
 have hM0:=hM;clear hM;obtain ⟨x5,hx6,hM⟩:=ap hM0;clear hM0
 have hcx5:=cmH hx6 (ql x_ (g.Q) (g.P) (by (exact pfQ)) (by (exact pfQ)) (by (exact pfQ)) (by (exact pfQ)))
 refine aJ hcx5 clQ clQ (fun hw7=> ?_)
 replace hw7:=nzQ hw7
 exact auP
instance (priority:=1015):DRD 9 81 16 [47,48,49,50,51,52,53,54,55,56,57,58,59,60,61,62] [] ([[],[],[1],[],[1,2,3],[1,2,3,4],[0,1,2,3,4,5],[0,1,2,3,4,5,6],[0,1,2,3,4,5,6,7],[0,1,2,3,4,5,6,7,8],[0,1,2,3,4,5,6,7,8,9],[0,1,2,3,4,5,6,7,8],[0,1,2,3,4,5,6,7,8,9,10,11],[0,1,2,3,4,5,6,7,8,9,10,11,12],[0,1,2,3,4,5,6,7,8,9,10,11,12,13],[0,1,2,3,4,5,6,7,8]]++[List.range 16,List.range 17]) []:=⟨trivial⟩
instance (priority:=1016):DRD 14 81 9 [70,71,72,73,74,75,76,77,78] [] ([[],[],[1],[],[1,2,3],[1,2,3,4],[],[1,2,3,4,5,6],[1,2,3,4,5,6,7]]++[List.range 9,List.range 10]) []:=⟨trivial⟩
set_option maxHeartbeats 2000000 in
set_option maxRecDepth 100000 in
instance Q_ (g:ao) (r_:aH):CM En (eg g r_) 80 [.agg [.int .i64 g.P,.int .i64 g.Q,.int .i64 g.G],.agg [.sl none 1 false (r_.Y.map (V.int .i64)),.sl none 1 false (r_.Bases.map (fun (l:List Int)=>V.sl none 1 false (l.map (V.int .i64))))]] (fun y=> .bool y) (fun _=> []):=by
 refine enQ noJ Tryz.func80 Tryz.ntmps80 (eg.eq_1 ..) fun r hw=> ?_
 refine bh fun _ _ _ _=> ?_
 refine aC fun _ _ _=> ?_
 refine aC fun _ _ _=> ?_
 refine aC fun _ _ _=> ?_
 refine aT fun _ _ _=> ?_
 intro hF hM
 have hM0:=hM;clear hM;obtain ⟨x14,hx15,hM⟩:=ap hM0;clear hM0
 have hcx14:=cmH hx15 (CZ r_ (by (exact pfQ)))
 refine aJ hcx14 clQ clQ (fun hw16=> ?_)
 replace hw16:=nzQ hw16
 revert hM;revert hF
 refine slQ ?_
 refine aC fun _ _ _=> ?_
 refine aT fun _ _ _=> ?_
 intro hF hM
 have hM0:=hM;clear hM;obtain ⟨f22,d22,hf22,hd22,hM⟩:=aO hM0;clear hM0
 refine aS (fun n S=> ∃p:Int,S=(⟨[(2,.ptr 0 0),(3,.ptr 1 0),(5,.int .i64 x14),(6,.int .i64 p)],[(0,.var 3 true (.agg [.int .i64 g.P,.int .i64 g.Q,.int .i64 g.G])),(1,.var 2 true (.agg [.sl none 1 false (r_.Y.map (V.int .i64)),.sl none 1 false (r_.Bases.map (fun (l:List Int)=>V.sl none 1 false (l.map (V.int .i64))))]))],2⟩:St)∧((0≤p)∧(p≤(r_.Y.length:Int)))∧((r_.Y.length:Int) - p).toNat<n∧ae n f22 d22 p=r) (((r_.Y.length:Int) - 0).toNat+1) _ sbQ sbQ ⟨0,rfl,⟨omQ,omQ⟩,(Nat.lt_succ_self _),hM⟩ ?_
 clear hM
 rintro n22 S ⟨p22,rfl,hfa22,hm22,hM⟩
 have hM0:=hM;clear hM;obtain ⟨ag22,hag22,hM⟩:=aP hM0 (by omega) hf22;clear hM0
 replace hfa22:=nzQ hfa22
 replace hm22:=nzQ hm22
 have ha22:al .i64 p22 1=p22+1:=aY omQ omQ
 replace hF:=(And.intro ha22 hF)
 revert hM;revert hF
 refine slQ ?_
 refine aC fun _ _ _=> ?_
 intro hF hM
 have hM0:=hM;clear hM;obtain ⟨x26,hx27,hM⟩:=ap hM0;clear hM0
 have hcx26:=cmH hx27 (xk g (gt r_.Y p22) (by (omega)) (by (omega)))
 refine bN hcx26 (ar hF) (ar hF) ?_
 revert hM;revert hF
 refine slQ ?_
 have hq28:=nzQ (cfU hx27)
 refine aC fun _ _ _=> ?_
 refine aT fun _ _ _=> ?_
 intro hF hM
 have hM0:=hM;clear hM;obtain ⟨f35,d35,hf35,hd35,hM⟩:=aO hM0;clear hM0
 refine aS (fun n S=> ∃p:Int,S=(⟨[(2,.ptr 0 0),(3,.ptr 1 0),(5,.int .i64 x14),(6,.int .i64 p22),(7,.int .i64 p)],[(0,.var 3 true (.agg [.int .i64 g.P,.int .i64 g.Q,.int .i64 g.G])),(1,.var 2 true (.agg [.sl none 1 false (r_.Y.map (V.int .i64)),.sl none 1 false (r_.Bases.map (fun (l:List Int)=>V.sl none 1 false (l.map (V.int .i64))))]))],18⟩:St)∧((0≤p)∧(p≤x14))∧(x14 - p).toNat<n∧ae n f35 d35 p=r) ((x14 - 0).toNat+1) _ sbQ sbQ ⟨0,rfl,⟨omQ,omQ⟩,(Nat.lt_succ_self _),hM⟩ ?_
 clear hM
 rintro n35 S ⟨p35,rfl,hfa35,hm35,hM⟩
 have hM0:=hM;clear hM;obtain ⟨ag35,hag35,hM⟩:=aP hM0 (by omega) hf35;clear hM0
 replace hfa35:=nzQ hfa35
 replace hm35:=nzQ hm35
 have ha35:al .i64 p35 1=p35+1:=aY omQ omQ
 replace hF:=(And.intro ha35 hF)
 revert hM;revert hF
 refine slQ ?_
 refine cdQ (fun _ _ _=> ?_) (fun _ _ _=> ?_)
 ·intro hF hM
  have hM0:=hM;clear hM;obtain ⟨x39,hx40,hM⟩:=ap hM0;clear hM0
  have hcx39:=cmH hx40 (xk g (gt (gt r_.Bases p22) p35) (by (omega)) (by (omega)))
  refine aJ hcx39 (ar hF) (ar hF) (fun hw41=> ?_)
  replace hw41:=nzQ hw41
  revert hM;revert hF
  refine slQ ?_
  have hq42:=nzQ (cfU hx40)
  refine aT fun _ _ _=> ?_
  intro hF hM
  refine aM (n35 - 1) _ (by omega) sbQ sbQ ⟨(p35+1),rfl,⟨omQ,omQ⟩,omQ,aL hM hag35⟩
 ·intro hF hM
  refine aM (n22 - 1) _ (by omega) sbQ sbQ ⟨(p22+1),rfl,⟨omQ,omQ⟩,omQ,aL hM hag22⟩
instance (priority:=1017):DRD 6 28 6 [20,21,22,23,24,25] [] ([[],[],[1],[],[1,2,3],[1,2,3,4]]++[List.range 6,List.range 7]) []:=⟨trivial⟩
set_option maxHeartbeats 2000000 in
set_option maxRecDepth 100000 in
theorem Mx (N:Nat) (ih: ∀(g:ao) (f_:aa),ax f_<N→aE En 33 [.agg [.int .i64 g.P,.int .i64 g.Q,.int .i64 g.G],.agg [.int .i64 f_.Kind,.sl none 1 false (f_.Relation.Y.map (V.int .i64)),.sl none 1 false (f_.Relation.Bases.map (fun (l:List Int)=>V.sl none 1 false (l.map (V.int .i64)))),.sl none 4 true (f_.L.map aA)]] (.bool (iG g f_)) []) (g:ao) (f_:aa) (hp_:ax f_<N+1):aE En 33 [.agg [.int .i64 g.P,.int .i64 g.Q,.int .i64 g.G],.agg [.int .i64 f_.Kind,.sl none 1 false (f_.Relation.Y.map (V.int .i64)),.sl none 1 false (f_.Relation.Bases.map (fun (l:List Int)=>V.sl none 1 false (l.map (V.int .i64)))),.sl none 4 true (f_.L.map aA)]] (.bool (pG g f_)) []:=by
 generalize hM:pG g f_=r
 rw [pG.eq_1] at hM
 refine bU bf bv noJ Tryz.func33 rfl Tryz.ntmps33 (by kernel_rfl) fun hw=>bu ?_
 refine spQ ?_
 replace hw:=nzQ hw
 have hF:=bW
 revert hM;revert hF
 refine aT fun _ _ _=> ?_
 intro hF hM
 have hM0:=hM;clear hM;obtain ⟨f8,d8,hf8,hd8,hM⟩:=aO hM0;clear hM0
 refine aS (fun n S=> ∃p:Int,S=(⟨[(2,.ptr 0 0),(3,.ptr 1 0),(5,.int .i64 p)],[(0,.var 3 true (.agg [.int .i64 g.P,.int .i64 g.Q,.int .i64 g.G])),(1,.var 4 true (.agg [.int .i64 f_.Kind,.sl none 1 false (f_.Relation.Y.map (V.int .i64)),.sl none 1 false (f_.Relation.Bases.map (fun (l:List Int)=>V.sl none 1 false (l.map (V.int .i64)))),.sl none 4 true (f_.L.map aA)]))],2⟩:St)∧((0≤p)∧(p≤(f_.L.length:Int)))∧((f_.L.length:Int) - p).toNat<n∧ae n f8 d8 p=r) (((f_.L.length:Int) - 0).toNat+1) _ sbQ sbQ ⟨0,rfl,⟨omQ,omQ⟩,(Nat.lt_succ_self _),hM⟩ ?_
 clear hM
 rintro n8 S ⟨p8,rfl,hfa8,hm8,hM⟩
 have hM0:=hM;clear hM;obtain ⟨ag8,hag8,hM⟩:=aP hM0 (by omega) hf8;clear hM0
 replace hfa8:=nzQ hfa8
 replace hm8:=nzQ hm8
 have ha8:al .i64 p8 1=p8+1:=aY omQ omQ
 replace hF:=(And.intro ha8 hF)
 revert hM;revert hF
 refine slQ ?_
 refine aC fun h9 _ _=> ?_
 intro hF hM
 have hM0:=hM;clear hM;obtain ⟨x12,hx13,hM⟩:=ap hM0;clear hM0
 have hcx12:=ih g (gt f_.L p8) (by (have h9:=b_ (f:=f_) (aI (l:=f_.L) (i:=p8) (by omega));omega))
 rw [←hx13] at hcx12
 refine aJ hcx12 (ar hF) (ar hF) (fun hw14=> ?_)
 replace hw14:=nzQ hw14
 revert hM;revert hF
 refine slQ ?_
 refine aT fun _ _ _=> ?_
 intro hF hM
 refine aM (n8 - 1) _ (by omega) sbQ sbQ ⟨(p8+1),rfl,⟨omQ,omQ⟩,omQ,aL hM hag8⟩
theorem My: ∀(N:Nat) (g:ao) (f_:aa),ax f_<N→aE En 33 [.agg [.int .i64 g.P,.int .i64 g.Q,.int .i64 g.G],.agg [.int .i64 f_.Kind,.sl none 1 false (f_.Relation.Y.map (V.int .i64)),.sl none 1 false (f_.Relation.Bases.map (fun (l:List Int)=>V.sl none 1 false (l.map (V.int .i64)))),.sl none 4 true (f_.L.map aA)]] (.bool (iG g f_)) []:=by
 intro N
 induction N with
 | zero=>intro g f_ h;exact absurd h (Nat.not_lt_zero _)
 | succ N ih=>
  intro g f_ h
  have h9:=Mx N ih g f_ h
  rw [Lh] at h9
  exact h9
theorem Mz (g:ao) (f_:aa):aE En 33 [.agg [.int .i64 g.P,.int .i64 g.Q,.int .i64 g.G],.agg [.int .i64 f_.Kind,.sl none 1 false (f_.Relation.Y.map (V.int .i64)),.sl none 1 false (f_.Relation.Bases.map (fun (l:List Int)=>V.sl none 1 false (l.map (V.int .i64)))),.sl none 4 true (f_.L.map aA)]] (.bool (iG g f_)) []:=
 My (ax f_+1) g f_ (Nat.lt_succ_self _)
set_option maxHeartbeats 2000000 in
set_option maxRecDepth 100000 in
instance Ra (g:ao) (f_:aa):CM En (jB g f_) 11 [.agg [.int .i64 g.P,.int .i64 g.Q,.int .i64 g.G],.agg [.int .i64 f_.Kind,.sl none 1 false (f_.Relation.Y.map (V.int .i64)),.sl none 1 false (f_.Relation.Bases.map (fun (l:List Int)=>V.sl none 1 false (l.map (V.int .i64)))),.sl none 4 true (f_.L.map aA)]] (fun y=> .bool y) (fun _=> []):=by
 refine enQ noJ Tryz.func11 Tryz.ntmps11 (jB.eq_1 ..) fun r hw=> ?_
 refine bh fun _ _ _ _=> ?_
 refine aC fun _ _ _=> ?_
 refine bh fun _ _ _ _=> ?_
 refine aC fun _ _ _=> ?_
 intro hF hM
 have hM0:=hM;clear hM;obtain ⟨x13,hx14,hM⟩:=ap hM0;clear hM0
 have hcx13:=Mz g f_
 rw [←hx14] at hcx13
 refine aJ hcx13 clQ clQ (fun hw15=> ?_)
 replace hw15:=nzQ hw15
 exact auP
instance (priority:=1018):DRD 4 26 12 [12,13,14,15,16,17,18,19,20,21,22,23] [] ([[],[],[0,1],[0,1,2],[0,1,2,3],[0,1,2,3,4],[0,1,2,3,4,5],[0,1,2,3,4,5],[0,1,2,3,4,5,6,7],[0,1,2,3,4,5,6,7,8],[0,1,2,3,4,5],[0,1,2,3,4,5,10]]++[List.range 12,List.range 13]) []:=⟨trivial⟩
set_option maxHeartbeats 2000000 in
set_option maxRecDepth 100000 in
instance Rb (g:ao) (l:(List Int)):CM En (gC g l) 46 [.agg [.int .i64 g.P,.int .i64 g.Q,.int .i64 g.G],.sl none 1 false (l.map (V.int .i64))] (fun y=> .bool y) (fun _=> []):=by
 refine enQ noJ Tryz.func46 Tryz.ntmps46 (gC.eq_1 ..) fun r hw=> ?_
 intro hF hM
 have hM0:=hM;clear hM;obtain ⟨f1,d1,hf1,hd1,hM⟩:=aO hM0;clear hM0
 refine aS (fun n S=> ∃p:Int,S=(⟨[(1,.sl none 1 false (l.map (V.int .i64))),(2,.ptr 0 0),(5,.int .i64 p)],[(0,.var 3 true (.agg [.int .i64 g.P,.int .i64 g.Q,.int .i64 g.G]))],1⟩:St)∧((0≤p)∧(p≤(l.length:Int)))∧((l.length:Int) - p).toNat<n∧ae n f1 d1 p=r) (((l.length:Int) - 0).toNat+1) _ sbQ sbQ ⟨0,rfl,⟨omQ,omQ⟩,(Nat.lt_succ_self _),hM⟩ ?_
 clear hM
 rintro n1 S ⟨p1,rfl,hfa1,hm1,hM⟩
 have hM0:=hM;clear hM;obtain ⟨ag1,hag1,hM⟩:=aP hM0 (by omega) hf1;clear hM0
 replace hfa1:=nzQ hfa1
 replace hm1:=nzQ hm1
 have ha1:al .i64 p1 1=p1+1:=aY omQ omQ
 replace hF:=(And.intro ha1 hF)
 revert hM;revert hF
 refine slQ ?_
 refine aC fun _ _ _=> ?_
 refine aC fun _ _ _=> ?_
 refine aT fun _ _ _=> ?_
 intro hF hM
 refine aM (n1 - 1) _ (by omega) sbQ sbQ ⟨(p1+1),rfl,⟨omQ,omQ⟩,omQ,aL hM hag1⟩
instance (priority:=1019):DRD 5 31 14 [15,16,17,18,19,20,21,22,23,24,25,26,27,28] [] ([[],[],[],[1,2],[1,2,3],[],[],[5,6],[5,6,7],[],[9],[1,2,3,4,5,6,7,8,9,10],[],[12]]++[List.range 14,List.range 15]) []:=⟨trivial⟩
set_option maxHeartbeats 2000000 in
set_option maxRecDepth 100000 in
theorem MA (g:ao) (bases:(List Int)) (exps:(List Int)) (hp0:3≤g.P) (hp1:g.P<2305843009213693952) (hp2: ∀x∈bases,0≤x∧x<g.P) (hp3: ∀x∈exps,0≤x) (hp4:bases.length≤exps.length):CM En (l8 g bases exps) 117 [.agg [.int .i64 g.P,.int .i64 g.Q,.int .i64 g.G],.sl none 1 false (bases.map (V.int .i64)),.sl none 1 false (exps.map (V.int .i64))] (fun y=> .int .i64 y) (fun _=> []):=by
 refine enQ noJ Tryz.func117 Tryz.ntmps117 (l8.eq_1 ..) fun r hw=> ?_
 intro hF hM
 have hM0:=hM;clear hM;obtain ⟨f1,d1,hf1,hd1,hM⟩:=aO hM0;clear hM0
 refine aS (fun n S=> ∃p:Int×Int,S=(⟨[(1,.sl none 1 false (bases.map (V.int .i64))),(2,.sl none 1 false (exps.map (V.int .i64))),(3,.ptr 0 0),(7,.int .i64 p.1),(8,.int .i64 p.2)],[(0,.var 3 true (.agg [.int .i64 g.P,.int .i64 g.Q,.int .i64 g.G]))],1⟩:St)∧((0≤p.2)∧(p.2≤(bases.length:Int))∧(0≤p.1)∧(p.1<g.P))∧((bases.length:Int) - p.2).toNat<n∧ae n f1 d1 p=r) (((bases.length:Int) - 0).toNat+1) _ sbQ sbQ ⟨(1,0),rfl,⟨omQ,omQ,omQ,omQ⟩,(Nat.lt_succ_self _),hM⟩ ?_
 clear hM
 rintro n1 S ⟨p1,rfl,hfa1,hm1,hM⟩
 have hM0:=hM;clear hM;obtain ⟨ag1,hag1,hM⟩:=aP hM0 (by omega) hf1;clear hM0
 replace hfa1:=nzQ hfa1
 replace hm1:=nzQ hm1
 have ha1:al .i64 p1.2 1=p1.2+1:=aY omQ omQ
 replace hF:=(And.intro ha1 hF)
 revert hM;revert hF
 refine slQ ?_
 refine aC fun _ _ _=> ?_
 intro hF hM
 have hM0:=hM;clear hM;obtain ⟨x6,hx7,hM⟩:=ap hM0;clear hM0
 have hcx6:=cmH hx7 (ql (gt bases p1.2) (gt exps p1.2) (g.P) (by (first|exact (hp2 _ (aI (by omega))).1|exact (hp2 _ (aI (by omega))).2|exact hp3 _ (aI (by omega))|omega)) (by (first|exact (hp2 _ (aI (by omega))).1|exact (hp2 _ (aI (by omega))).2|exact hp3 _ (aI (by omega))|omega)) (by (first|exact (hp2 _ (aI (by omega))).1|exact (hp2 _ (aI (by omega))).2|exact hp3 _ (aI (by omega))|omega)) (by (first|exact (hp2 _ (aI (by omega))).1|exact (hp2 _ (aI (by omega))).2|exact hp3 _ (aI (by omega))|omega)))
 refine bN hcx6 (ar hF) (ar hF) ?_
 revert hM;revert hF
 refine slQ ?_
 have hq8:=sY hx7 (hp2 _ (aI (by omega))).1 (hp2 _ (aI (by omega))).2
 replace hq8:=nzQ hq8
 intro hF hM
 have hM0:=hM;clear hM;obtain ⟨x9,hx10,hM⟩:=ap hM0;clear hM0
 have hcx9:=cmH hx10 (mw (p1.1) x6 (g.P) (by (omega)) (by (omega)) (by (omega)) (by (omega)))
 refine aJ hcx9 (ar hF) (ar hF) (fun hw11=> ?_)
 replace hw11:=nzQ hw11
 revert hM;revert hF
 refine slQ ?_
 have hq12:=jK hx10 (by omega) (by omega) (by omega)
 replace hq12:=nzQ hq12
 intro hF hM
 refine aM (n1 - 1) _ (by omega) sbQ sbQ ⟨(x9,(p1.2+1)),rfl,⟨omQ,omQ,omQ,omQ⟩,omQ,aL hM hag1⟩
set_option maxHeartbeats 2000000 in
set_option maxRecDepth 100000 in
instance Rc (g:ao) (r_:aH) (p_:cu):CM En (iH g r_ p_) 62 [.agg [.int .i64 g.P,.int .i64 g.Q,.int .i64 g.G],.agg [.sl none 1 false (r_.Y.map (V.int .i64)),.sl none 1 false (r_.Bases.map (fun (l:List Int)=>V.sl none 1 false (l.map (V.int .i64))))],.agg [.sl none 1 false (p_.A.map (V.int .i64)),.int .i64 p_.C,.sl none 1 false (p_.Z.map (V.int .i64))]] (fun y=> .bool y) (fun _=> []):=by
 refine cmQ fun r hM=> ?_
 rw [iH.eq_1] at hM
 refine bU bf bv noJ Tryz.func62 rfl Tryz.ntmps62 (by kernel_rfl) fun hw=>bu ?_
 refine spQ ?_
 replace hw:=nzQ hw
 refine lG 89 33 [9,10,11,12,13,14,15,16,17,18,19,20,21,22,23,24,25,26,27,28,29,30,31,32,33,34,35,36,37,38,39,40,41] [] ([[],[],[0,1],[0,1,2],[0,1,2,3],[0,1,2,3,4],[0,1,2,3,4,5],[0,1,2,3,4,5,6],[0,1,2,3,4],[0,1,2,3,4,8],[0,1,2,3,4,8,9],[0,1,2,3,4,5,6,7,8,9,10],[0,1,2,3,4,5,6,7,8,9,10,11],[0,1,2,3,4,5,6,7,8,9,10,11,12],[0,1,2,3,4,5,6,7,8,9,10,11,12,13],[0,1,2,3,4,5,6,7,8,9,10,11,12,13,14],[0,1,2,3,4,5,6,7,8,9,10,11,12,13,14,15],[0,1,2,3,4,5,6,7,8,9,10,11,12,13],[0,1,2,3,4,5,6,7,8,9,10,11,12,13,17],[0,1,2,3,4,5,6,7,8,9,10,11,12,13,14,15,16,17,18],[0,1,2,3,4,5,6,7,8,9,10,11,12,13,14,15,16,17,18,19],[0,1,2,3,4,5,6,7,8,9,10,11,12,13,14,15,16,17,18,19,20],[0,1,2,3,4,5,6,7,8,9,10,11,12,13,14,15,16,17,18,19,20,21],[0,1,2,3,4,5,6,7,8,9,10,11,12,13,14,15,16,17,18,19,20,21],[0,1,2,3,4,5,6,7,8,9,10,11,12,13,14,15,16,17,18,19,20,21,23],[0,1,2,3,4,5,6,7,8,9,10,11,12,13,14,15,16,17,18,19,20,21,22,23,24],[0,1,2,3,4,5,6,7,8,9,10,11,12,13,14,15,16,17,18,19,20,21,22,23,24,25],[0,1,2,3,4,5,6,7,8,9,10,11,12,13,14,15,16,17,18,19,20,21,22,23,24,25,26],[0,1,2,3,4,5,6,7,8,9,10,11,12,13,14,15,16,17,18,19,20,21,22,23,24,25,26,27],[0,1,2,3,4,5,6,7,8,9,10,11,12,13,14,15,16,17,18,19,20,21,22,23,24,25,26,27,28],[0,1,2,3,4,5,6,7,8,9,10,11,12,13,14,15,16,17,18,19,20,21,22,23,24,25,26,27,28],[0,1,2,3,4,5,6,7,8,9,10,11,12,13,14,15,16,17,18,19,20,21,22,23,24,25,26,27,28,30],[0,1,2,3,4,5,6,7,8,9,10,11,12,13,14,15,16,17,18,19,20,21,22,23,24,25,26,27,28,30,31]]++[List.range 33,List.range 34,List.range 35]) [] (by kernel_rfl) (by exact alQ) ?_
 refine spQ ?_
 have hM0:=hM;clear hM;obtain ⟨x1,hx2,hM⟩:=ap hM0;clear hM0
 have hcx1:=cmU hx2
 refine bN hcx1 clQ clQ ?_
 refine spQ ?_
 have hq3:=nzQ (cfU hx2)
 refine kf (fun h4=> ?_) (fun h4=> ?_)
 ·rw [if_neg (bL h4)] at hM
  refine au h4 ?_
  have nh4:=nzQ h4
  try have hr5:=mpQ nh4
  refine kf (fun h6=> ?_) (fun h6=> ?_)
  ·rw [if_neg (bL h6)] at hM
   refine au h6 ?_
   have nh6:=nzQ h6
   try have hr7:=mpQ nh6
   have hM0:=hM;clear hM;obtain ⟨x8,hx9,hM⟩:=ap hM0;clear hM0
   have hcx8:=cmH hx9 (CZ r_ (by (clear hM;have h9:=cg ‹bw _ _›;omega)))
   refine bN hcx8 clQ clQ ?_
   refine spQ ?_
   refine kf (fun h10=> ?_) (fun h10=> ?_)
   ·rw [if_neg (bL h10)] at hM
    refine au h10 ?_
    have nh10:=nzQ h10
    try have hr11:=mpQ nh10
    have hM0:=hM;clear hM;obtain ⟨x12,hx13,hM⟩:=ap hM0;clear hM0
    have hcx12:=cmU hx13
    refine bN hcx12 clQ clQ ?_
    refine spQ ?_
    have hq14:=nzQ (cfU hx13)
    refine kf (fun h15=> ?_) (fun h15=> ?_)
    ·rw [if_neg (bL h15)] at hM
     refine au h15 ?_
     have nh15:=nzQ h15
     try have hr16:=mpQ nh15
     have hM0:=hM;clear hM;obtain ⟨x17,hx18,hM⟩:=ap hM0;clear hM0
     have hcx17:=cmU hx18
     refine eW hcx17 clQ clQ (fun hw19=> ?_)
     replace hw19:=nzQ hw19
     refine spQ ?_
     have hq20:=nzQ (cfU hx18)
     refine bY (fun h21=> ?_) (fun h21=> ?_)
     ·rw [if_pos h21] at hM
      refine au h21 ?_
      have nh21:=nzQ h21
      try have hr22:=mpQ nh21
      subst hM
      exact cW (cQ (And.intro h4 (And.intro h6 (And.intro h10 (And.intro h15 h21)))))
     ·rw [if_neg (bL h21)] at hM
      refine au h21 ?_
      have nh21:=nzQ h21
      try have hr23:=mpQ nh21
      have hM0:=hM;clear hM;obtain ⟨f24,d24,hf24,hd24,hM⟩:=aO hM0;clear hM0
      refine aS (fun n S=> ∃p:Int,S=(⟨[(3,.ptr 0 0),(4,.ptr 1 0),(5,.ptr 2 0),(7,.int .i64 p)],[(0,.var 3 true (.agg [.int .i64 g.P,.int .i64 g.Q,.int .i64 g.G])),(1,.var 2 true (.agg [.sl none 1 false (r_.Y.map (V.int .i64)),.sl none 1 false (r_.Bases.map (fun (l:List Int)=>V.sl none 1 false (l.map (V.int .i64))))])),(2,.var 3 true (.agg [.sl none 1 false (p_.A.map (V.int .i64)),.int .i64 p_.C,.sl none 1 false (p_.Z.map (V.int .i64))]))],36⟩:St)∧((0≤p)∧(p≤(r_.Y.length:Int)))∧((r_.Y.length:Int) - p).toNat<n∧ae n f24 d24 p=r) (((r_.Y.length:Int) - 0).toNat+1) _ sbQ sbQ ⟨0,rfl,⟨by (first|exact omQ|(clear hM;first|(have h9:=cg ‹bw _ _›;exact am))),by (first|exact omQ|(clear hM;first|(have h9:=cg ‹bw _ _›;exact am)))⟩,(Nat.lt_succ_self _),hM⟩ ?_
      clear hM
      rintro n24 S ⟨p24,rfl,hfa24,hm24,hM⟩
      have hM0:=hM;clear hM;obtain ⟨ag24,hag24,hM⟩:=aP hM0 (by omega) hf24;clear hM0
      replace hfa24:=nzQ hfa24
      replace hm24:=nzQ hm24
      have ha24:al .i64 p24 1=p24+1:=aY (by (first|exact omQ|(clear hM;first|(have h9:=cg ‹bw _ _›;exact am)))) (by (first|exact omQ|(clear hM;first|(have h9:=cg ‹bw _ _›;exact am))))
      refine au ha24 ?_
      refine bY (fun h25=> ?_) (fun h25=> ?_)
      ·rw [if_pos h25] at hM
       refine au (And.intro ha24 h25) ?_
       have nh25:=nzQ h25
       try have hr26:=mpQ nh25
       refine lG 89 6 [52,53,54,55,56,57] [] ([[],[],[1],[],[1,2,3],[1,2,3,4]]++[List.range 6,List.range 7]) [] (by kernel_rfl) (by exact alQ) ?_
       refine au ha24 ?_
       refine eX (by (first|exact omQ|(clear hM;first|(have h9:=cg ‹bw _ _›;exact am)))) ?_
       have he27:=fun d=>cE (l:=p_.A) (f:=(V.int .i64)) (i:=p24) (by (first|exact omQ|(clear hM;first|(have h9:=cg ‹bw _ _›;exact am)))) d
       refine au (And.intro ha24 he27) ?_
       have hM0:=hM;clear hM;obtain ⟨x28,hx29,hM⟩:=ap hM0;clear hM0
       have hcx28:=cmH hx29 (xk g (gt p_.A p24) (by (clear hM;have h9:=cg ‹bw _ _›;omega)) (by (clear hM;have h9:=cg ‹bw _ _›;omega)))
       refine aJ hcx28 (ar (And.intro ha24 he27)) (ar (And.intro ha24 he27)) (fun hw30=> ?_)
       replace hw30:=nzQ hw30
       refine au (And.intro ha24 he27) ?_
       have hq31:=nzQ (cfU hx29)
       refine bY (fun h32=> ?_) (fun h32=> ?_)
       ·rw [if_pos h32] at hM
        refine au (And.intro ha24 (And.intro he27 h32)) ?_
        have nh32:=nzQ h32
        try have hr33:=mpQ nh32
        subst hM
        exact cW (cQ (And.intro ha24 (And.intro he27 (And.intro h4 (And.intro h6 (And.intro h10 (And.intro h15 (And.intro h21 (And.intro h25 h32)))))))))
       ·rw [if_neg (bL h32)] at hM
        refine au (And.intro ha24 (And.intro he27 h32)) ?_
        have nh32:=nzQ h32
        try have hr34:=mpQ nh32
        refine lG 89 17 [60,61,62,63,64,65,66,67,68,69,70,71,72,73,74,75,76] [] ([[],[0],[],[0,1,2],[0,1,2,3],[],[5],[],[5,6,7],[5,6,7,8],[],[10],[],[12],[5,6,7,8,9,10,11,12,13],[],[15]]++[List.range 17,List.range 18]) [] (by kernel_rfl) (by exact alQ) ?_
        refine au (And.intro ha24 he27) ?_
        refine eX (by (first|exact omQ|(clear hM;first|(have h9:=cg ‹bw _ _›;exact am)))) ?_
        refine au (And.intro ha24 he27) ?_
        refine eX (by (first|exact omQ|(clear hM;first|(have h9:=cg ‹bw _ _›;exact am)))) ?_
        have he35:=fun d=>cE (l:=r_.Y) (f:=(V.int .i64)) (i:=p24) (by (first|exact omQ|(clear hM;first|(have h9:=cg ‹bw _ _›;exact am)))) d
        refine au (And.intro ha24 (And.intro he27 he35)) ?_
        have hM0:=hM;clear hM;obtain ⟨x36,hx37,hM⟩:=ap hM0;clear hM0
        have hcx36:=cmH hx37 (ql (gt r_.Y p24) (p_.C) (g.P) (by (clear hM;first|exact (iP ‹bw _ _› (by omega)).1|exact (iP ‹bw _ _› (by omega)).2|exact tk ‹∀y∈ [p_.C],_›|(have h9:=cg ‹bw _ _›;omega))) (by (clear hM;first|exact (iP ‹bw _ _› (by omega)).1|exact (iP ‹bw _ _› (by omega)).2|exact tk ‹∀y∈ [p_.C],_›|(have h9:=cg ‹bw _ _›;omega))) (by (clear hM;first|exact (iP ‹bw _ _› (by omega)).1|exact (iP ‹bw _ _› (by omega)).2|exact tk ‹∀y∈ [p_.C],_›|(have h9:=cg ‹bw _ _›;omega))) (by (clear hM;first|exact (iP ‹bw _ _› (by omega)).1|exact (iP ‹bw _ _› (by omega)).2|exact tk ‹∀y∈ [p_.C],_›|(have h9:=cg ‹bw _ _›;omega))))
        refine bN hcx36 (ar (And.intro ha24 (And.intro he27 he35))) (ar (And.intro ha24 (And.intro he27 he35))) ?_
        refine au (And.intro ha24 (And.intro he27 he35)) ?_
        have hq38:=sY hx37 (iP ‹bw _ _› (by omega)).1 (iP ‹bw _ _› (by omega)).2
        replace hq38:=nzQ hq38
        have hM0:=hM;clear hM;obtain ⟨x39,hx40,hM⟩:=ap hM0;clear hM0
        have hcx39:=cmH hx40 (mw (gt p_.A p24) x36 (g.P) (by (clear hM;have h9:=cg ‹bw _ _›;omega)) (by (clear hM;have h9:=cg ‹bw _ _›;omega)) (by (clear hM;have h9:=cg ‹bw _ _›;omega)) (by (clear hM;have h9:=cg ‹bw _ _›;omega)))
        refine aJ hcx39 (ar (And.intro ha24 (And.intro he27 he35))) (ar (And.intro ha24 (And.intro he27 he35))) (fun hw41=> ?_)
        replace hw41:=nzQ hw41
        refine au (And.intro ha24 (And.intro he27 he35)) ?_
        refine lG 89 10 [78,79,80,81,82,83,84,85,86,87] [] ([[],[],[1],[],[1,2,3],[1,2,3,4],[],[6],[0,1,2,3,4,5,6,7],[]]++[List.range 10]) [] (by kernel_rfl) (by exact alQ) ?_
        refine au (And.intro ha24 (And.intro he27 he35)) ?_
        refine eX (by (first|exact omQ|(clear hM;first|(have h9:=cg ‹bw _ _›;exact am)))) ?_
        have he42:=fun d=>cE (l:=r_.Bases) (f:=(fun (l:List Int)=>V.sl none 1 false (l.map (V.int .i64)))) (i:=p24) (by (first|exact omQ|(clear hM;first|(have h9:=cg ‹bw _ _›;exact am)))) d
        refine au (And.intro ha24 (And.intro he27 (And.intro he35 he42))) ?_
        have hM0:=hM;clear hM;obtain ⟨x43,hx44,hM⟩:=ap hM0;clear hM0
        have hcx43:=cmH hx44 (MA g (gt r_.Bases p24) (p_.Z) (by (clear hM;first|exact qh ‹bw _ _› (by omega)|exact qj ‹∀x∈p_.Z,_›|(have h9:=qi (i:=p24) ‹bw _ _› (by omega) ‹_=eQ _› (by assumption);omega)|(have h9:=cg ‹bw _ _›;omega))) (by (clear hM;first|exact qh ‹bw _ _› (by omega)|exact qj ‹∀x∈p_.Z,_›|(have h9:=qi (i:=p24) ‹bw _ _› (by omega) ‹_=eQ _› (by assumption);omega)|(have h9:=cg ‹bw _ _›;omega))) (by (clear hM;first|exact qh ‹bw _ _› (by omega)|exact qj ‹∀x∈p_.Z,_›|(have h9:=qi (i:=p24) ‹bw _ _› (by omega) ‹_=eQ _› (by assumption);omega)|(have h9:=cg ‹bw _ _›;omega))) (by (clear hM;first|exact qh ‹bw _ _› (by omega)|exact qj ‹∀x∈p_.Z,_›|(have h9:=qi (i:=p24) ‹bw _ _› (by omega) ‹_=eQ _› (by assumption);omega)|(have h9:=cg ‹bw _ _›;omega))) (by (clear hM;first|exact qh ‹bw _ _› (by omega)|exact qj ‹∀x∈p_.Z,_›|(have h9:=qi (i:=p24) ‹bw _ _› (by omega) ‹_=eQ _› (by assumption);omega)|(have h9:=cg ‹bw _ _›;omega))))
        refine bN hcx43 (ar (And.intro ha24 (And.intro he27 (And.intro he35 he42)))) (ar (And.intro ha24 (And.intro he27 (And.intro he35 he42)))) ?_
        refine au (And.intro ha24 (And.intro he27 (And.intro he35 he42))) ?_
        have hG0:=cg ‹bw _ _›
        have hF:=(And.intro h4 (And.intro h6 (And.intro h10 (And.intro h15 (And.intro h21 (And.intro ha24 (And.intro h25 (And.intro he27 (And.intro h32 (And.intro he35 he42))))))))))
        exact auQ
      ·rw [if_neg (bL h25)] at hM
       refine au (And.intro ha24 h25) ?_
       have nh25:=nzQ h25
       try have hr48:=mpQ nh25
       subst hM
       exact cW (cQ (And.intro ha24 (And.intro h4 (And.intro h6 (And.intro h10 (And.intro h15 (And.intro h21 h25)))))))
    ·rw [if_pos h15] at hM
     refine au h15 ?_
     have nh15:=nzQ h15
     try have hr49:=mpQ nh15
     subst hM
     exact cW (cQ (And.intro h4 (And.intro h6 (And.intro h10 h15))))
   ·rw [if_pos h10] at hM
    refine au h10 ?_
    have nh10:=nzQ h10
    try have hr50:=mpQ nh10
    subst hM
    exact cW (cQ (And.intro h4 (And.intro h6 h10)))
  ·rw [if_pos h6] at hM
   refine au h6 ?_
   have nh6:=nzQ h6
   try have hr51:=mpQ nh6
   subst hM
   exact cW (cQ (And.intro h4 h6))
 ·rw [if_pos h4] at hM
  refine au h4 ?_
  have nh4:=nzQ h4
  try have hr52:=mpQ nh4
  subst hM
  exact cW (cQ h4)
set_option maxHeartbeats 2000000 in
set_option maxRecDepth 100000 in
instance Rd (p_:cu):CM En (l9 p_) 63 [.agg [.sl none 1 false (p_.A.map (V.int .i64)),.int .i64 p_.C,.sl none 1 false (p_.Z.map (V.int .i64))]] (fun y=> .bool y) (fun _=> []):=by
 refine enQ noJ Tryz.func63 Tryz.ntmps63 (l9.eq_1 ..) fun r hw=> ?_
 exact auR
instance (priority:=1020):DRD 11 111 26 [62,63,64,65,66,67,68,69,70,71,72,73,74,75,76,77,78,79,80,81,82,83,84,85,86,87] [] ([[],[],[1],[],[1,2,3],[1,2,3,4],[],[6],[],[6,7,8],[6,7,8,9],[0,1,2,3,4,5,6,7,8,9,10],[0,1,2,3,4,5,6,7,8,9,10,11],[0,1,2,3,4,5,6,7,8,9,10,11,12],[0,1,2,3,4,5,6,7,8,9,10,11,12,13],[0,1,2,3,4,5,6,7,8,9,10,11,12,13,14],[0,1,2,3,4,5,6,7,8,9,10,11,12,13,14,15],[0,1,2,3,4,5,6,7,8,9,10,11,12,13,14,15,16],[0,1,2,3,4,5,6,7,8,9,10,11,12,13,14,15,16,17],[0,1,2,3,4,5,6,7,8,9,10,11,12,13,14,15,16,17,18],[0,1,2,3,4,5,6,7,8,9,10,11,12,13,14,15,16,17],[0,1,2,3,4,5,6,7,8,9,10,11,12,13,14,15,16,17,18,19,20],[0,1,2,3,4,5,6,7,8,9,10,11,12,13,14,15,16,17,18,19,20,21],[0,1,2,3,4,5,6,7,8,9,10,11,12,13,14,15,16,17,18,19,20,21,22],[0,1,2,3,4,5,6,7,8,9,10,11,12,13,14,15,16,17],[0,1,2,3,4,5,6,7,8,9,10,11,12,13,14,15,16,17,24]]++[List.range 26,List.range 27,List.range 28]) []:=⟨trivial⟩
instance (priority:=1021):DRD 13 111 10 [91,92,93,94,95,96,97,98,99,100] [] ([[],[],[1],[],[1,2,3],[1,2,3,4],[1,2,3,4,5],[0,1,2,3,4,5,6],[],[8]]++[List.range 10,List.range 11]) []:=⟨trivial⟩
set_option maxHeartbeats 2000000 in
set_option maxRecDepth 100000 in
theorem MB (N:Nat) (ih: ∀(g:ao) (f_:aa) (t:aG),(1≤g.Q)→ax f_<N→aE En 25 [.agg [.int .i64 g.P,.int .i64 g.Q,.int .i64 g.G],.agg [.int .i64 f_.Kind,.sl none 1 false (f_.Relation.Y.map (V.int .i64)),.sl none 1 false (f_.Relation.Bases.map (fun (l:List Int)=>V.sl none 1 false (l.map (V.int .i64)))),.sl none 4 true (f_.L.map aA)],.agg [.int .i64 t.C,.sl none 1 false (t.P.A.map (V.int .i64)),.int .i64 t.P.C,.sl none 1 false (t.P.Z.map (V.int .i64)),.sl none 5 true (t.L.map bA)]] (.bool (kJ g f_ t)) []) (g:ao) (f_:aa) (t:aG) (hp0:1≤g.Q) (hp_:ax f_<N+1):aE En 25 [.agg [.int .i64 g.P,.int .i64 g.Q,.int .i64 g.G],.agg [.int .i64 f_.Kind,.sl none 1 false (f_.Relation.Y.map (V.int .i64)),.sl none 1 false (f_.Relation.Bases.map (fun (l:List Int)=>V.sl none 1 false (l.map (V.int .i64)))),.sl none 4 true (f_.L.map aA)],.agg [.int .i64 t.C,.sl none 1 false (t.P.A.map (V.int .i64)),.int .i64 t.P.C,.sl none 1 false (t.P.Z.map (V.int .i64)),.sl none 5 true (t.L.map bA)]] (.bool (pH g f_ t)) []:=by
 generalize hM:pH g f_ t=r
 rw [pH.eq_1] at hM
 refine bU bf bv noJ Tryz.func25 rfl Tryz.ntmps25 (by kernel_rfl) fun hw=>bu ?_
 refine spQ ?_
 replace hw:=nzQ hw
 have hF:=bW
 revert hM;revert hF
 refine aC fun _ _ _=> ?_
 refine aT fun _ _ _=> ?_
 refine aT fun _ _ _=> ?_
 refine bh fun _ _ _ _=> ?_
 refine aC fun _ _ _=> ?_
 refine aT fun _ _ _=> ?_
 intro hF hM
 have hM0:=hM;clear hM;obtain ⟨f26,d26,hf26,hd26,hM⟩:=aO hM0;clear hM0
 refine aS (fun n S=> ∃p:Int×Int,S=(⟨[(3,.ptr 0 0),(4,.ptr 1 0),(5,.ptr 2 0),(7,.int .i64 p.1),(8,.int .i64 p.2)],[(0,.var 3 true (.agg [.int .i64 g.P,.int .i64 g.Q,.int .i64 g.G])),(1,.var 4 true (.agg [.int .i64 f_.Kind,.sl none 1 false (f_.Relation.Y.map (V.int .i64)),.sl none 1 false (f_.Relation.Bases.map (fun (l:List Int)=>V.sl none 1 false (l.map (V.int .i64)))),.sl none 4 true (f_.L.map aA)])),(2,.var 5 true (.agg [.int .i64 t.C,.sl none 1 false (t.P.A.map (V.int .i64)),.int .i64 t.P.C,.sl none 1 false (t.P.Z.map (V.int .i64)),.sl none 5 true (t.L.map bA)]))],3⟩:St)∧((0≤p.2)∧(p.2≤(f_.L.length:Int)))∧((f_.L.length:Int) - p.2).toNat<n∧ae n f26 d26 p=r) (((f_.L.length:Int) - 0).toNat+1) _ sbQ sbQ ⟨(0,0),rfl,⟨omQ,omQ⟩,(Nat.lt_succ_self _),hM⟩ ?_
 clear hM
 rintro n26 S ⟨p26,rfl,hfa26,hm26,hM⟩
 have hM0:=hM;clear hM;obtain ⟨ag26,hag26,hM⟩:=aP hM0 (by omega) hf26;clear hM0
 replace hfa26:=nzQ hfa26
 replace hm26:=nzQ hm26
 have ha26:al .i64 p26.2 1=p26.2+1:=aY omQ omQ
 replace hF:=(And.intro ha26 hF)
 revert hM;revert hF
 refine slQ ?_
 refine aC fun _ _ _=> ?_
 intro hF hM
 have hM0:=hM;clear hM;obtain ⟨x31,hx32,hM⟩:=ap hM0;clear hM0
 have hcx31:=ih g (gt f_.L p26.2) (gt t.L p26.2) (by (exact pfQ)) (by (have h9:=b_ (f:=f_) (aI (l:=f_.L) (i:=p26.2) (by omega));omega))
 rw [←hx32] at hcx31
 refine bN hcx31 (ar hF) (ar hF) ?_
 revert hM;revert hF
 refine slQ ?_
 refine aC fun _ _ _=> ?_
 refine cdQ (fun _ _ _=> ?_) (fun _ _ _=> ?_)
 ·refine aT fun _ _ _=> ?_
  intro hF hM
  refine aM (n26 - 1) _ (by omega) sbQ sbQ ⟨((aQ .i64 (al .i64 p26.1 (gt t.L p26.2).C) g.Q),(p26.2+1)),rfl,⟨omQ,omQ⟩,omQ,aL hM hag26⟩
 ·intro hF hM
  refine aM (n26 - 1) _ (by omega) sbQ sbQ ⟨((aQ .i64 (al .i64 p26.1 (gt t.L p26.2).C) g.Q),(p26.2+1)),rfl,⟨omQ,omQ⟩,omQ,aL hM hag26⟩
theorem MC: ∀(N:Nat) (g:ao) (f_:aa) (t:aG),(1≤g.Q)→ax f_<N→aE En 25 [.agg [.int .i64 g.P,.int .i64 g.Q,.int .i64 g.G],.agg [.int .i64 f_.Kind,.sl none 1 false (f_.Relation.Y.map (V.int .i64)),.sl none 1 false (f_.Relation.Bases.map (fun (l:List Int)=>V.sl none 1 false (l.map (V.int .i64)))),.sl none 4 true (f_.L.map aA)],.agg [.int .i64 t.C,.sl none 1 false (t.P.A.map (V.int .i64)),.int .i64 t.P.C,.sl none 1 false (t.P.Z.map (V.int .i64)),.sl none 5 true (t.L.map bA)]] (.bool (kJ g f_ t)) []:=by
 intro N
 induction N with
 | zero=>intro g f_ t h0 h;exact absurd h (Nat.not_lt_zero _)
 | succ N ih=>
  intro g f_ t h0 h
  have h9:=MB N ih g f_ t h0 h
  rw [Lj] at h9
  exact h9
theorem MD (g:ao) (f_:aa) (t:aG) (hp0:1≤g.Q):aE En 25 [.agg [.int .i64 g.P,.int .i64 g.Q,.int .i64 g.G],.agg [.int .i64 f_.Kind,.sl none 1 false (f_.Relation.Y.map (V.int .i64)),.sl none 1 false (f_.Relation.Bases.map (fun (l:List Int)=>V.sl none 1 false (l.map (V.int .i64)))),.sl none 4 true (f_.L.map aA)],.agg [.int .i64 t.C,.sl none 1 false (t.P.A.map (V.int .i64)),.int .i64 t.P.C,.sl none 1 false (t.P.Z.map (V.int .i64)),.sl none 5 true (t.L.map bA)]] (.bool (kJ g f_ t)) []:=
 MC (ax f_+1) g f_ t hp0 (Nat.lt_succ_self _)
set_option maxHeartbeats 2000000 in
set_option maxRecDepth 100000 in
instance Re (g:ao) (f_:aa) (t:aG):CM En (g8 g f_ t) 8 [.agg [.int .i64 g.P,.int .i64 g.Q,.int .i64 g.G],.agg [.int .i64 f_.Kind,.sl none 1 false (f_.Relation.Y.map (V.int .i64)),.sl none 1 false (f_.Relation.Bases.map (fun (l:List Int)=>V.sl none 1 false (l.map (V.int .i64)))),.sl none 4 true (f_.L.map aA)],.agg [.int .i64 t.C,.sl none 1 false (t.P.A.map (V.int .i64)),.int .i64 t.P.C,.sl none 1 false (t.P.Z.map (V.int .i64)),.sl none 5 true (t.L.map bA)]] (fun y=> .bool y) (fun _=> []):=by
 refine enQ noJ Tryz.func8 Tryz.ntmps8 (g8.eq_1 ..) fun r hw=> ?_
 refine bh fun _ _ _ _=> ?_
 refine aC fun _ _ _=> ?_
 intro hF hM
 have hM0:=hM;clear hM;obtain ⟨x7,hx8,hM⟩:=ap hM0;clear hM0
 have hcx7:=MD g f_ t (by (exact pfQ))
 rw [←hx8] at hcx7
 refine aJ hcx7 clQ clQ (fun hw9=> ?_)
 replace hw9:=nzQ hw9
 exact auP
set_option maxHeartbeats 2000000 in
set_option maxRecDepth 100000 in
theorem ME (r_:aH) (hp0:fT r_):CM En (jC r_) 118 [.agg [.sl none 1 false (r_.Y.map (V.int .i64)),.sl none 1 false (r_.Bases.map (fun (l:List Int)=>V.sl none 1 false (l.map (V.int .i64))))]] (fun y=> .str y) (fun _=> []):=by
 refine enQ noJ Tryz.func118 Tryz.ntmps118 (jC.eq_1 ..) fun r hw=> ?_
 have h0_0:=kh
 have h0_1:=hp0.1
 have h0_2:=hp0.2.1
 intro hF hM
 have hM0:=hM;clear hM;obtain ⟨f1,d1,hf1,hd1,hM⟩:=aO hM0;clear hM0
 refine gU (fun n S=> ∃p:Int×List (List UInt8),S=(⟨[(1,.ptr 0 0),(3,.own 1),(10,.sl none 1 false (r_.Y.map (V.int .i64))),(11,.int .i64 (r_.Y.length:Int)),(12,.int .i64 p.1)],[(0,.var 2 true (.agg [.sl none 1 false (r_.Y.map (V.int .i64)),.sl none 1 false (r_.Bases.map (fun (l:List Int)=>V.sl none 1 false (l.map (V.int .i64))))])),(1,.own 9 1 false none (p.2.map V.str))],2⟩:St)∧(((0≤p.1)∧(p.1≤(r_.Y.length:Int))∧(((p.2).length:Int)=p.1)∧(((p.2).length:Int)≤p.1))∧((cC (p.2):Int)≤300*p.1))∧((r_.Y.length:Int) - p.1).toNat<n∧ae n f1 d1 p=r) (((r_.Y.length:Int) - 0).toNat+1) _ _ (lJ 3 9 rfl (by decide)) sbQ sbQ ⟨(0,([]:List (List UInt8))),rfl,⟨⟨by (first|exact omQ|(clear hM;first|(have h9:=fB hp0 (i:=p1.1) (by omega);exact am))),by (first|exact omQ|(clear hM;first|(have h9:=fB hp0 (i:=p1.1) (by omega);exact am))),by (first|exact omQ|(clear hM;first|(have h9:=fB hp0 (i:=p1.1) (by omega);exact am))),by (first|exact omQ|(clear hM;first|(have h9:=fB hp0 (i:=p1.1) (by omega);exact am)))⟩,by (simp [cC])⟩,(Nat.lt_succ_self _),hM⟩ ?_
 clear hM
 rintro n1 S ⟨p1,rfl,⟨hfa1,hF3_0⟩,hm1,hM⟩
 have hA0:=fun a0=>fB hp0 (i:=p1.1) a0
 have hA1:=fun a0=>fB hp0 (i:=(p1.1+1)) a0
 have hM0:=hM;clear hM;obtain ⟨ag1,hag1,hM⟩:=aP hM0 (by omega) hf1;clear hM0
 replace hfa1:=nzQ hfa1
 replace hm1:=nzQ hm1
 have ha1:al .i64 p1.1 1=p1.1+1:=aY (by exact omA) (by exact omA)
 replace hF:=(And.intro ha1 hF)
 revert hM;revert hF
 refine slQ ?_
 refine cdQ (fun _ _ _=> ?_) (fun _ _ _=> ?_)
 ·refine bh fun x5 hx6 _ _=> ?_
  have hq8:=(by first|exact BW hp0 hx6 (by omega)|exact BX hp0 hx6 (by omega) (by omega))
  replace hq8:=nzQ hq8
  refine slQ ?_
  intro hF hM
  have hM0:=hM;clear hM;obtain ⟨f10,d10,hf10,hd10,hM⟩:=aO hM0;clear hM0
  refine aS (fun n S=> ∃p:List UInt8×Int,S=(⟨[(1,.ptr 0 0),(3,.own 1),(6,.str p.1),(10,.sl none 1 false (r_.Y.map (V.int .i64))),(11,.int .i64 (r_.Y.length:Int)),(12,.int .i64 p1.1),(24,.sl none 1 false ((gt r_.Bases p1.1).map (V.int .i64))),(25,.int .i64 ((gt r_.Bases p1.1).length:Int)),(26,.int .i64 p.2)],[(0,.var 2 true (.agg [.sl none 1 false (r_.Y.map (V.int .i64)),.sl none 1 false (r_.Bases.map (fun (l:List Int)=>V.sl none 1 false (l.map (V.int .i64))))])),(1,.own 9 1 false none (p1.2.map V.str))],2⟩:St)∧((0≤p.2)∧(p.2≤((gt r_.Bases p1.1).length:Int))∧(((p.1).length:Int)≤23+22*p.2))∧(((gt r_.Bases p1.1).length:Int) - p.2).toNat<n∧ae n f10 d10 p=r) ((((gt r_.Bases p1.1).length:Int) - 0).toNat+1) _ sbQ sbQ ⟨((x5++[32,61]),0),rfl,⟨by exact omA,by exact omA,by exact omA⟩,(Nat.lt_succ_self _),hM⟩ ?_
  clear hM
  rintro n10 S ⟨p10,rfl,hfa10,hm10,hM⟩
  have hM0:=hM;clear hM;obtain ⟨ag10,hag10,hM⟩:=aP hM0 (by omega) hf10;clear hM0
  replace hfa10:=nzQ hfa10
  replace hm10:=nzQ hm10
  have ha10:al .i64 p10.2 1=p10.2+1:=aY (by exact omA) (by exact omA)
  replace hF:=(And.intro ha10 hF)
  revert hM;revert hF
  refine slQ ?_
  refine cdQ (fun _ _ _=> ?_) (fun _ _ _=> ?_)
  ·refine bh fun _ hx15 _ _=> ?_
   have hq17:=(by first|exact BW hp0 hx15 (by omega)|exact BX hp0 hx15 (by omega) (by omega))
   replace hq17:=nzQ hq17
   exact auR
  ·intro hF hM
   refine aM (n1 - 1) _ (by omega) sbQ sbQ ⟨((p1.1+1),(p1.2++([p10.1]:List (List UInt8)))),rfl,⟨⟨by exact omA,by exact omA,by exact omA,by exact omA⟩,by (clear hM;have h9:=fB hp0 (i:=p1.1) (by omega);rw [Bs,Bt];omega)⟩,by exact omA,aL hM hag1⟩
 ·intro hF hM
  have hM0:=hM;clear hM;obtain ⟨x20,hx21,hM⟩:=ap hM0;clear hM0
  have hcx20:=cmH hx21 (wm (p1.2) ([44,32]) (by (exact wY (n:=2400) (m:=8) (by omega) (by omega) (by decide))))
  refine eW hcx20 (ar hF) (ar hF) (fun hw22=> ?_)
  replace hw22:=nzQ hw22
  revert hM;revert hF
  refine slQ ?_
  have hq23:=pZ hx21
  replace hq23:=nzQ hq23
  exact auR
set_option maxHeartbeats 2000000 in
set_option maxRecDepth 100000 in
theorem MF (N:Nat) (ih: ∀(f_:aa),(okT f_)→(ax f_≤30)→ax f_<N→aE En 64 [.agg [.int .i64 f_.Kind,.sl none 1 false (f_.Relation.Y.map (V.int .i64)),.sl none 1 false (f_.Relation.Bases.map (fun (l:List Int)=>V.sl none 1 false (l.map (V.int .i64)))),.sl none 4 true (f_.L.map aA)]] (.str (cN f_)) []) (f_:aa) (hp0:okT f_) (hp1:ax f_≤30) (hp_:ax f_<N+1):aE En 64 [.agg [.int .i64 f_.Kind,.sl none 1 false (f_.Relation.Y.map (V.int .i64)),.sl none 1 false (f_.Relation.Bases.map (fun (l:List Int)=>V.sl none 1 false (l.map (V.int .i64)))),.sl none 4 true (f_.L.map aA)]] (.str (pI f_)) []:=by
 generalize hM:pI f_=r
 rw [pI.eq_1] at hM
 refine bU bf bv noJ Tryz.func64 rfl Tryz.ntmps64 (by kernel_rfl) fun hw=>bu ?_
 refine spQ ?_
 replace hw:=nzQ hw
 have h0_0:=kh
 have h0_1:=(cT hp0).2.1
 have hF:=bW
 revert hM;revert hF
 refine cdQ (fun _ _ _=> ?_) (fun _ _ _=> ?_)
 ·intro hF hM
  have hM0:=hM;clear hM;obtain ⟨x3,hx4,hM⟩:=ap hM0;clear hM0
  have hcx3:=cmH hx4 (ME (f_.Relation) (by (exact (cT hp0).1)))
  refine aJ hcx3 clQ clQ (fun hw5=> ?_)
  replace hw5:=nzQ hw5
  revert hM;revert hF
  refine slQ ?_
  have hq6:=K9 hx4 (cT hp0).1
  replace hq6:=nzQ hq6
  exact auR
 ·intro hF hM
  have hM0:=hM;clear hM;obtain ⟨f8,d8,hf8,hd8,hM⟩:=aO hM0;clear hM0
  refine gU (fun n S=> ∃p:Int×List (List UInt8),S=(⟨[(1,.ptr 0 0),(3,.own 1),(14,.sl none 4 true (f_.L.map aA)),(15,.int .i64 (f_.L.length:Int)),(16,.int .i64 p.1)],[(0,.var 4 true (.agg [.int .i64 f_.Kind,.sl none 1 false (f_.Relation.Y.map (V.int .i64)),.sl none 1 false (f_.Relation.Bases.map (fun (l:List Int)=>V.sl none 1 false (l.map (V.int .i64)))),.sl none 4 true (f_.L.map aA)])),(1,.own 9 1 false none (p.2.map V.str))],2⟩:St)∧(((0≤p.1)∧(p.1≤(f_.L.length:Int))∧(((p.2).length:Int)=p.1)∧(((p.2).length:Int)≤p.1))∧((cC (p.2):Int)≤78000*p.1))∧((f_.L.length:Int) - p.1).toNat<n∧ae n f8 d8 p=r) (((f_.L.length:Int) - 0).toNat+1) _ _ (lJ 3 9 rfl (by decide)) sbQ sbQ ⟨(0,([]:List (List UInt8))),rfl,⟨⟨omQ,omQ,omQ,omQ⟩,by (simp [cC])⟩,(Nat.lt_succ_self _),hM⟩ ?_
  clear hM
  rintro n8 S ⟨p8,rfl,⟨hfa8,hF5_0⟩,hm8,hM⟩
  have hM0:=hM;clear hM;obtain ⟨ag8,hag8,hM⟩:=aP hM0 (by omega) hf8;clear hM0
  replace hfa8:=nzQ hfa8
  replace hm8:=nzQ hm8
  have ha8:al .i64 p8.1 1=p8.1+1:=aY omQ omQ
  replace hF:=(And.intro ha8 hF)
  revert hM;revert hF
  refine slQ ?_
  refine cdQ (fun h9 _ _=> ?_) (fun h9 _ _=> ?_)
  ·intro hF hM
   have hM0:=hM;clear hM;obtain ⟨x12,hx13,hM⟩:=ap hM0;clear hM0
   have hcx12:=ih (gt f_.L p8.1) (by (first|exact (cT hp0).2.2 _ (aI (by omega))|(have h9:=b_ (f:=f_) (aI (l:=f_.L) (i:=p8.1) (by omega));omega))) (by (first|exact (cT hp0).2.2 _ (aI (by omega))|(have h9:=b_ (f:=f_) (aI (l:=f_.L) (i:=p8.1) (by omega));omega))) (by (have h9:=b_ (f:=f_) (aI (l:=f_.L) (i:=p8.1) (by omega));omega))
   rw [←hx13] at hcx12
   refine aJ hcx12 (ar hF) (ar hF) (fun hw14=> ?_)
   replace hw14:=nzQ hw14
   revert hM;revert hF
   refine slQ ?_
   have hq15:=Cd hx13 ((cT hp0).2.2 _ (aI (by omega))) (Nat.le_trans (Nat.le_of_lt (b_ (aI (by omega)))) hp1)
   replace hq15:=nzQ hq15
   refine slQ ?_
   intro hF hM
   refine aM (n8 - 1) _ (by omega) sbQ sbQ ⟨((p8.1+1),(p8.2++([x12]:List (List UInt8)))),rfl,⟨⟨omQ,omQ,omQ,omQ⟩,by (clear hM;rw [Bs,Bt];omega)⟩,omQ,aL hM hag8⟩
  ·refine cdQ (fun _ _ _=> ?_) (fun _ _ _=> ?_)
   ·intro hF hM
    have hM0:=hM;clear hM;obtain ⟨x19,hx20,hM⟩:=ap hM0;clear hM0
    have hcx19:=cmH hx20 (wm (p8.2) ([44,32]) (by (exact wY (n:=624000) (m:=8) (by omega) (by omega) (by decide))))
    refine eW hcx19 (ar hF) (ar hF) (fun hw21=> ?_)
    replace hw21:=nzQ hw21
    revert hM;revert hF
    refine slQ ?_
    have hq22:=pZ hx20
    replace hq22:=nzQ hq22
    exact auR
   ·intro hF hM
    have hM0:=hM;clear hM;obtain ⟨x24,hx25,hM⟩:=ap hM0;clear hM0
    have hcx24:=cmH hx25 (wm (p8.2) ([44,32]) (by (exact wY (n:=624000) (m:=8) (by omega) (by omega) (by decide))))
    refine eW hcx24 (ar hF) (ar hF) (fun hw26=> ?_)
    replace hw26:=nzQ hw26
    revert hM;revert hF
    refine slQ ?_
    have hq27:=pZ hx25
    replace hq27:=nzQ hq27
    exact auR
theorem MG: ∀(N:Nat) (f_:aa),(okT f_)→(ax f_≤30)→ax f_<N→aE En 64 [.agg [.int .i64 f_.Kind,.sl none 1 false (f_.Relation.Y.map (V.int .i64)),.sl none 1 false (f_.Relation.Bases.map (fun (l:List Int)=>V.sl none 1 false (l.map (V.int .i64)))),.sl none 4 true (f_.L.map aA)]] (.str (cN f_)) []:=by
 intro N
 induction N with
 | zero=>intro f_ h0 h1 h;exact absurd h (Nat.not_lt_zero _)
 | succ N ih=>
  intro f_ h0 h1 h
  have h9:=MF N ih f_ h0 h1 h
  rw [KO] at h9
  exact h9
theorem MH (f_:aa) (hp0:okT f_) (hp1:ax f_≤30):aE En 64 [.agg [.int .i64 f_.Kind,.sl none 1 false (f_.Relation.Y.map (V.int .i64)),.sl none 1 false (f_.Relation.Bases.map (fun (l:List Int)=>V.sl none 1 false (l.map (V.int .i64)))),.sl none 4 true (f_.L.map aA)]] (.str (cN f_)) []:=
 MG (ax f_+1) f_ hp0 hp1 (Nat.lt_succ_self _)
set_option maxHeartbeats 2000000 in
set_option maxRecDepth 100000 in
instance Rf (f_:aa):CM En (l_ f_) 26 [.agg [.int .i64 f_.Kind,.sl none 1 false (f_.Relation.Y.map (V.int .i64)),.sl none 1 false (f_.Relation.Bases.map (fun (l:List Int)=>V.sl none 1 false (l.map (V.int .i64)))),.sl none 4 true (f_.L.map aA)]] (fun y=> .tup [.str y.1,.int .i64 y.2]) (fun _=> []):=by
 refine enQ noJ Tryz.func26 Tryz.ntmps26 (l_.eq_1 ..) fun r hw=> ?_
 refine bh fun _ _ _ _=> ?_
 refine aT fun _ _ _=> ?_
 intro hF hM
 have hM0:=hM;clear hM;obtain ⟨x8,hx9,hM⟩:=ap hM0;clear hM0
 have hcx8:=MH f_ (by (first|exact (‹okT f_∧ax f_≤30∧okF f_›).1|exact (‹okT f_∧ax f_≤30∧okF f_›).2.1)) (by (first|exact (‹okT f_∧ax f_≤30∧okF f_›).1|exact (‹okT f_∧ax f_≤30∧okF f_›).2.1))
 rw [←hx9] at hcx8
 refine aJ hcx8 clQ clQ (fun hw10=> ?_)
 replace hw10:=nzQ hw10
 exact auP
instance (priority:=1022):DRD 7 34 8 [23,24,25,26,27,28,29,30] [] ([[],[],[],[2],[],[2,3,4],[2,3,4,5],[1,2,3,4,5,6]]++[List.range 8,List.range 9]) []:=⟨trivial⟩
set_option maxHeartbeats 2000000 in
set_option maxRecDepth 100000 in
theorem MI (N:Nat) (ih: ∀(f_:aa) (t:aG),(shp f_ t)→(ax f_≤30)→ax f_<N→aE En 28 [.agg [.int .i64 f_.Kind,.sl none 1 false (f_.Relation.Y.map (V.int .i64)),.sl none 1 false (f_.Relation.Bases.map (fun (l:List Int)=>V.sl none 1 false (l.map (V.int .i64)))),.sl none 4 true (f_.L.map aA)],.agg [.int .i64 t.C,.sl none 1 false (t.P.A.map (V.int .i64)),.int .i64 t.P.C,.sl none 1 false (t.P.Z.map (V.int .i64)),.sl none 5 true (t.L.map bA)]] (.sl none 1 false ((b9 f_ t).map (fun (l:List Int)=>V.sl none 1 false (l.map (V.int .i64))))) []) (f_:aa) (t:aG) (hp0:shp f_ t) (hp1:ax f_≤30) (hp_:ax f_<N+1):aE En 28 [.agg [.int .i64 f_.Kind,.sl none 1 false (f_.Relation.Y.map (V.int .i64)),.sl none 1 false (f_.Relation.Bases.map (fun (l:List Int)=>V.sl none 1 false (l.map (V.int .i64)))),.sl none 4 true (f_.L.map aA)],.agg [.int .i64 t.C,.sl none 1 false (t.P.A.map (V.int .i64)),.int .i64 t.P.C,.sl none 1 false (t.P.Z.map (V.int .i64)),.sl none 5 true (t.L.map bA)]] (.sl none 1 false ((pJ f_ t).map (fun (l:List Int)=>V.sl none 1 false (l.map (V.int .i64))))) []:=by
 generalize hM:pJ f_ t=r
 rw [pJ.eq_1] at hM
 refine bU bf bv noJ Tryz.func28 rfl Tryz.ntmps28 (by kernel_rfl) fun hw=>bu ?_
 refine spQ ?_
 replace hw:=nzQ hw
 have h0_0:=CC hp0
 have h0_1:=CB hp1
 have hF:=bW
 revert hM;revert hF
 refine aT fun _ _ _=> ?_
 intro hF hM
 have hM0:=hM;clear hM;obtain ⟨f4,d4,hf4,hd4,hM⟩:=aO hM0;clear hM0
 refine gU (fun n S=> ∃p:Int×List (List Int),S=(⟨[(3,.ptr 1 0),(5,.own 2),(16,.sl none 4 true (f_.L.map aA)),(17,.int .i64 (f_.L.length:Int)),(18,.int .i64 p.1)],[(1,.var 5 true (.agg [.int .i64 t.C,.sl none 1 false (t.P.A.map (V.int .i64)),.int .i64 t.P.C,.sl none 1 false (t.P.Z.map (V.int .i64)),.sl none 5 true (t.L.map bA)])),(2,.own 24 1 false none (p.2.map (fun (l:List Int)=>V.sl none 1 false (l.map (V.int .i64)))))],3⟩:St)∧((0≤p.1)∧(p.1≤(f_.L.length:Int))∧(0≤p.1)∧(p.1≤(f_.L.length:Int))∧(((p.2).length:Int)≤30*p.1))∧((f_.L.length:Int) - p.1).toNat<n∧ae n f4 d4 p=r) (((f_.L.length:Int) - 0).toNat+1) _ _ (lJ 5 24 rfl (by decide)) sbQ sbQ ⟨(0,([]:List (List Int))),rfl,⟨omQ,omQ,omQ,omQ,omQ⟩,(Nat.lt_succ_self _),hM⟩ ?_
 clear hM
 rintro n4 S ⟨p4,rfl,hfa4,hm4,hM⟩
 have hM0:=hM;clear hM;obtain ⟨ag4,hag4,hM⟩:=aP hM0 (by omega) hf4;clear hM0
 replace hfa4:=nzQ hfa4
 replace hm4:=nzQ hm4
 have ha4:al .i64 p4.1 1=p4.1+1:=aY omQ omQ
 replace hF:=(And.intro ha4 hF)
 revert hM;revert hF
 refine slQ ?_
 refine aC fun _ _ _=> ?_
 intro hF hM
 have hM0:=hM;clear hM;obtain ⟨x9,hx10,hM⟩:=ap hM0;clear hM0
 have hcx9:=ih (gt f_.L p4.1) (gt t.L p4.1) (by (first|exact nT hp0 (by assumption) (by omega) (by omega)|(have h9:=b_ (f:=f_) (aI (l:=f_.L) (i:=p4.1) (by omega));omega))) (by (first|exact nT hp0 (by assumption) (by omega) (by omega)|(have h9:=b_ (f:=f_) (aI (l:=f_.L) (i:=p4.1) (by omega));omega))) (by (have h9:=b_ (f:=f_) (aI (l:=f_.L) (i:=p4.1) (by omega));omega))
 rw [←hx10] at hcx9
 refine bN hcx9 (ar hF) (ar hF) ?_
 revert hM;revert hF
 refine slQ ?_
 have hq11:=th hx10 (nT hp0 (by assumption) (by omega) (by omega)) (kX hp1 (by omega))
 replace hq11:=nzQ hq11
 refine slQ ?_
 intro hF hM
 refine aM (n4 - 1) _ (by omega) sbQ sbQ ⟨((p4.1+1),(p4.2++x9)),rfl,⟨omQ,omQ,omQ,omQ,omQ⟩,omQ,aL hM hag4⟩
theorem MJ: ∀(N:Nat) (f_:aa) (t:aG),(shp f_ t)→(ax f_≤30)→ax f_<N→aE En 28 [.agg [.int .i64 f_.Kind,.sl none 1 false (f_.Relation.Y.map (V.int .i64)),.sl none 1 false (f_.Relation.Bases.map (fun (l:List Int)=>V.sl none 1 false (l.map (V.int .i64)))),.sl none 4 true (f_.L.map aA)],.agg [.int .i64 t.C,.sl none 1 false (t.P.A.map (V.int .i64)),.int .i64 t.P.C,.sl none 1 false (t.P.Z.map (V.int .i64)),.sl none 5 true (t.L.map bA)]] (.sl none 1 false ((b9 f_ t).map (fun (l:List Int)=>V.sl none 1 false (l.map (V.int .i64))))) []:=by
 intro N
 induction N with
 | zero=>intro f_ t h0 h1 h;exact absurd h (Nat.not_lt_zero _)
 | succ N ih=>
  intro f_ t h0 h1 h
  have h9:=MI N ih f_ t h0 h1 h
  rw [Lk] at h9
  exact h9
theorem MK (f_:aa) (t:aG) (hp0:shp f_ t) (hp1:ax f_≤30):aE En 28 [.agg [.int .i64 f_.Kind,.sl none 1 false (f_.Relation.Y.map (V.int .i64)),.sl none 1 false (f_.Relation.Bases.map (fun (l:List Int)=>V.sl none 1 false (l.map (V.int .i64)))),.sl none 4 true (f_.L.map aA)],.agg [.int .i64 t.C,.sl none 1 false (t.P.A.map (V.int .i64)),.int .i64 t.P.C,.sl none 1 false (t.P.Z.map (V.int .i64)),.sl none 5 true (t.L.map bA)]] (.sl none 1 false ((b9 f_ t).map (fun (l:List Int)=>V.sl none 1 false (l.map (V.int .i64))))) []:=
 MJ (ax f_+1) f_ t hp0 hp1 (Nat.lt_succ_self _)
set_option maxHeartbeats 2000000 in
set_option maxRecDepth 100000 in
instance Rg (c:Int):CM En (nG c) 138 [.int .u8 c] (fun y=> .bool y) (fun _=> []):=by
 refine enQ noJ Tryz.func138 Tryz.ntmps138 (nG.eq_1 ..) fun r hw=> ?_
 exact auR
set_option maxHeartbeats 2000000 in
set_option maxRecDepth 100000 in
instance Rh (s:(List Int)):CM En (wH s) 174 [.sl none 1 false (s.map (V.int .u8)),.fn 138 []] (fun y=> .int .i64 y) (fun _=> []):=by
 refine enQ noJ Tryz.func174 Tryz.ntmps174 (wH.eq_1 ..) fun r hw=> ?_
 intro hF hM
 have hM0:=hM;clear hM;obtain ⟨f1,d1,hf1,hd1,hM⟩:=aO hM0;clear hM0
 refine aS (fun n S=> ∃p:Int,S=(⟨[(0,.sl none 1 false (s.map (V.int .u8))),(1,.fn 138 []),(7,.int .i64 (s.length:Int)),(8,.int .i64 p)],[],0⟩:St)∧((0≤p)∧(p≤(s.length:Int)))∧((s.length:Int) - p).toNat<n∧ae n f1 d1 p=r) (((s.length:Int) - 0).toNat+1) _ sbQ sbQ ⟨0,rfl,⟨omQ,omQ⟩,(Nat.lt_succ_self _),hM⟩ ?_
 clear hM
 rintro n1 S ⟨p1,rfl,hfa1,hm1,hM⟩
 have hM0:=hM;clear hM;obtain ⟨ag1,hag1,hM⟩:=aP hM0 (by omega) hf1;clear hM0
 replace hfa1:=nzQ hfa1
 replace hm1:=nzQ hm1
 have ha1:al .i64 p1 1=p1+1:=aY omQ omQ
 replace hF:=(And.intro ha1 hF)
 revert hM;revert hF
 refine slQ ?_
 refine aC fun _ _ _=> ?_
 refine bh fun _ _ _ _=> ?_
 refine aT fun _ _ _=> ?_
 intro hF hM
 refine aM (n1 - 1) _ (by omega) sbQ sbQ ⟨(p1+1),rfl,⟨omQ,omQ⟩,omQ,aL hM hag1⟩
set_option maxHeartbeats 2000000 in
set_option maxRecDepth 100000 in
instance Ri (s:(List Int)):CM En (sJ s) 137 [.sl none 1 false (s.map (V.int .u8)),.fn 138 []] (fun y=> .bool y) (fun _=> []):=by
 refine enQ noJ Tryz.func137 Tryz.ntmps137 (sJ.eq_1 ..) fun r hw=> ?_
 exact auR
set_option maxHeartbeats 2000000 in
set_option maxRecDepth 100000 in
instance Rj (label:(List UInt8)):CM En (gD label) 84 [.str label] (fun y=> .bool y) (fun _=> []):=by
 refine enQ noJ Tryz.func84 Tryz.ntmps84 (gD.eq_1 ..) fun r hw=> ?_
 exact auR
set_option maxRecDepth 100000 in
theorem C3 (z0:Option Bool) (s:List Int):aE En 140 [.sl z0 1 false (s.map (V.int .u8))] (.own 0) [.own 5 1 false none ((nH s).map (V.int .u8))]:=by
 show aE En 140 [.sl z0 1 false (s.map (V.int .u8))] (.own 0) [.own 5 1 false none (s.map (V.int .u8))]
 refine I7 (pre:=[]) (post:=[]) (fun hl=> ?_) ?_ z0
 ·have hl:s=[]:=by cases s with|nil=>rfl|cons a s=>cases hl
  subst hl
  refine bU bf bv noJ Tryz.func140 rfl Tryz.ntmps140 (by kernel_rfl) fun hw=>bu ?_
  simp only [go_sem,eJ,eK,List.length_replicate,dr,Int.toNat_natCast,↓reduceIte,Nat.reduceEqDiff,Nat.reduceAdd,Int.reduceAdd,Nat.reduceMul,Nat.reduceLeDiff,Nat.reduceLT,Int.reduceLE,Int.reduceLT,Int.reduceNeg,Int.reduceToNat,List.nil_append]
  exact I6 (by decide)
 ·refine bU bf bv noJ Tryz.func140 rfl Tryz.ntmps140 (by kernel_rfl) fun hw=>bu ?_
  simp only [go_sem,eJ,eK,List.length_replicate,dr,Int.toNat_natCast,↓reduceIte,Nat.reduceEqDiff,Nat.reduceAdd,Int.reduceAdd,Nat.reduceMul,Nat.reduceLeDiff,Nat.reduceLT,Int.reduceLE,Int.reduceLT,Int.reduceNeg,Int.reduceToNat,List.nil_append]
  have hn:s.length≤1073741824:=by have h:=hw;simp only [wfL,wfV,List.nil_append,kh,List.length_map] at h;exact h.1.1
  refine bF (by first|omega|(simp only [List.length_map,List.length_nil,List.nil_append];omega)) ?_
  refine spQ ?_
  refine I5 0 rfl clQ
set_option maxHeartbeats 2000000 in
set_option maxRecDepth 100000 in
instance Rk (n_:Int):CM En (me n_) 175 [.int .u64 n_] (fun y=> .sl none 1 false (y.map (V.int .u8))) (fun _=> []):=by
 refine enQ noJ Tryz.func175 Tryz.ntmps175 (me.eq_1 ..) fun r hw=> ?_
 intro hF hM
 have hM0:=hM;clear hM;obtain ⟨f1,d1,hf1,hd1,hM⟩:=aO hM0;clear hM0
 refine aS (fun n S=> ∃p:Int×List Int,S=(⟨[(0,.int .u64 n_),(3,.own 0),(7,.int .i64 (8:Int)),(8,.int .i64 p.1)],[(0,.own 5 1 false none (p.2.map (V.int .u8)))],1⟩:St)∧((0≤p.1)∧(p.1≤(8:Int))∧((p.2).length=(([(0:Int),(0:Int),(0:Int),(0:Int),(0:Int),(0:Int),(0:Int),(0:Int)]:List Int)).length))∧((8:Int) - p.1).toNat<n∧ae n f1 d1 p=r) (((8:Int) - 0).toNat+1) _ sbQ sbQ ⟨(0,([(0:Int),(0:Int),(0:Int),(0:Int),(0:Int),(0:Int),(0:Int),(0:Int)]:List Int)),rfl,⟨omQ,omQ,omQ⟩,(Nat.lt_succ_self _),hM⟩ ?_
 clear hM
 rintro n1 S ⟨p1,rfl,hfa1,hm1,hM⟩
 have hM0:=hM;clear hM;obtain ⟨ag1,hag1,hM⟩:=aP hM0 (by omega) hf1;clear hM0
 replace hfa1:=nzQ hfa1
 replace hm1:=nzQ hm1
 have ha1:al .i64 p1.1 1=p1.1+1:=aY omQ omQ
 replace hF:=(And.intro ha1 hF)
 revert hM;revert hF
 refine slQ ?_
 refine aC fun _ _ _=> ?_
 obtain ⟨ha4,hbha4⟩:=kn (a:=8) (b:=p1.1) 8 8 64 am am am am (by decide) (by decide)
 intro hF hM
 try simp only [ha4]
 have ha5:av .i64 56 (8*p1.1)=(56 - (8*p1.1)):=dc omQ omQ
 try simp only [ha5]
 replace hF:=(And.intro ha4 (And.intro ha5 hF))
 revert hM;revert hF
 refine slQ ?_
 intro hF hM
 refine aM (n1 - 1) _ (by omega) sbQ sbQ ⟨((p1.1+1),(st p1.2 p1.1 (ah .u8 (aw .u64 n_ (56 - (8*p1.1)))))),rfl,⟨omQ,omQ,omQ⟩,omQ,aL hM hag1⟩
set_option maxHeartbeats 2000000 in
set_option maxRecDepth 100000 in
instance Rl (x_:Int) (k_:Int):CM En (sK x_ k_) 221 [.int .u32 x_,.int .i64 k_] (fun y=> .int .u32 y) (fun _=> []):=by
 refine enQ noJ Tryz.func221 Tryz.ntmps221 (sK.eq_1 ..) fun r hw=> ?_
 intro hF hM
 try refine bF (by (exact (yg .u64 _ _).1)) ?_
 revert hM;revert hF
 refine slQ ?_
 intro hF hM
 try refine bF (by (exact (ol .u64 _ _).1)) ?_
 exact auP
set_option maxHeartbeats 2000000 in
set_option maxRecDepth 100000 in
instance Rm (x_:Int) (n_:Int):CM En (fA x_ n_) 204 [.int .u32 x_,.int .i64 n_] (fun y=> .int .u32 y) (fun _=> []):=by
 refine enQ noJ Tryz.func204 Tryz.ntmps204 (fA.eq_1 ..) fun r hw=> ?_
 exact auR
instance (priority:=1023):DRD 14 82 9 [8,42,43,44,45,46,47,48,49] [] ([[],[0],[0,1],[0,1,2],[],[4],[4,5],[4,5,6],[0,1,2,3]]++[List.range 9]) []:=⟨trivial⟩
instance (priority:=1024):DRD 17 82 14 [66,67,68,69,70,71,72,73,74,75,76,77,78,79] [] ([[],[],[1],[1,2],[1,2,3],[],[1,2,3,4,5],[],[7],[7,8],[7,8,9],[1,2,3,4,5,6,7,8,9,10],[],[1,2,3,4,5,6,7,8,9,10,11,12]]++[List.range 14,List.range 15]) []:=⟨trivial⟩
set_option maxHeartbeats 2000000 in
set_option maxRecDepth 100000 in
theorem ML (block:(List Int)) (hp0:block.length=64):CM En (kK block) 203 [.sl none 1 false (block.map (V.int .u8))] (fun y=>(nh y)) (fun _=> []):=by
 refine enQ noJ Tryz.func203 Tryz.ntmps203 (kK.eq_1 ..) fun r hw=> ?_
 intro hF hM
 have hM0:=hM;clear hM;obtain ⟨f1,d1,hf1,hd1,hM⟩:=aO hM0;clear hM0
 refine aS (fun n S=> ∃p:Int×(List Int),S=(⟨[(0,.sl none 1 false (block.map (V.int .u8))),(2,.ptr 0 0),(3,.ptr 1 0),(12,.int .i64 p.1)],[(0,.var 64 true (sq)),(1,.var 64 true ((nh p.2)))],2⟩:St)∧((0≤p.1)∧(p.1≤16))∧((16:Int) - p.1).toNat<n∧ae n f1 d1 p=r) (((16:Int) - 0).toNat+1) _ sbQ sbG ⟨(0,[0,0,0,0,0,0,0,0,0,0,0,0,0,0,0,0,0,0,0,0,0,0,0,0,0,0,0,0,0,0,0,0,0,0,0,0,0,0,0,0,0,0,0,0,0,0,0,0,0,0,0,0,0,0,0,0,0,0,0,0,0,0,0,0]),rfl,⟨omQ,omQ⟩,(Nat.lt_succ_self _),hM⟩ ?_
 clear hM
 rintro n1 S ⟨p1,rfl,hfa1,hm1,hM⟩
 have hM0:=hM;clear hM;obtain ⟨ag1,hag1,hM⟩:=aP hM0 (by omega) hf1;clear hM0
 replace hfa1:=nzQ hfa1
 replace hm1:=nzQ hm1
 have ha1:al .i64 p1.1 1=p1.1+1:=aY omQ omQ
 replace hF:=(And.intro ha1 hF)
 revert hM;revert hF
 refine slQ ?_
 refine cdQ (fun _ _ _=> ?_) (fun _ _ _=> ?_)
 ·obtain ⟨ha4,hbha4⟩:=kn (a:=4) (b:=p1.1) 4 16 64 am am am am (by decide) (by decide)
  intro hF hM
  try simp only [ha4]
  have ha6:al .i64 (4*p1.1) 4=((4*p1.1)+4):=dq omQ omQ
  try simp only [ha6]
  replace hF:=(And.intro ha4 (And.intro ha6 hF))
  revert hM;revert hF
  refine slQ ?_
  intro hF hM
  have hM0:=hM;clear hM;obtain ⟨f7,d7,hf7,hd7,hM⟩:=aO hM0;clear hM0
  refine aS (fun n S=> ∃p:Int×(List Int),S=(⟨[(0,.sl none 1 false (block.map (V.int .u8))),(2,.ptr 0 0),(3,.ptr 1 0),(4,.int .i64 p1.1),(12,.int .i64 p1.1),(21,.sl none 1 false ((sl block (4*p1.1) ((4*p1.1)+4)).map (V.int .u8))),(22,.int .i64 ((sl block (4*p1.1) ((4*p1.1)+4)).length:Int)),(23,.int .i64 p.1)],[(0,.var 64 true (sq)),(1,.var 64 true ((nh p.2)))],2⟩:St)∧((0≤p.1)∧(p.1≤((sl block (4*p1.1) ((4*p1.1)+4)).length:Int)))∧(((sl block (4*p1.1) ((4*p1.1)+4)).length:Int) - p.1).toNat<n∧ae n f7 d7 p=r) ((((sl block (4*p1.1) ((4*p1.1)+4)).length:Int) - 0).toNat+1) _ sbQ sbQ ⟨(0,p1.2),rfl,⟨omQ,omQ⟩,(Nat.lt_succ_self _),hM⟩ ?_
  clear hM
  rintro n7 S ⟨p7,rfl,hfa7,hm7,hM⟩
  have hM0:=hM;clear hM;obtain ⟨ag7,hag7,hM⟩:=aP hM0 (by omega) hf7;clear hM0
  replace hfa7:=nzQ hfa7
  replace hm7:=nzQ hm7
  have ha7:al .i64 p7.1 1=p7.1+1:=aY omQ omQ
  replace hF:=(And.intro ha7 hF)
  revert hM;revert hF
  refine slQ ?_
  refine cdQ (fun _ _ _=> ?_) (fun _ _ _=> ?_)
  ·have he11:((p1.1).toNat*1≤63)=True:=eq_true am
   refine slA he11 ?_
   have he12:=iy (f:=(V.int .u32)) (l:=p7.2) (n:=64) (i:=p1.1) am
   replace he12:=spR he12
   refine slA he12 ?_
   have he13:((p1.1).toNat*1≤63)=True:=eq_true am
   refine slA he13 ?_
   have he14:=pg (f:=(V.int .u32)) (l:=(br 64 p7.2)) (n:=64) (i:=p1.1) (v:=(orI .u32 (aB .u32 (gt p7.2 p1.1) 8) (ah .u32 (gt (sl block (4*p1.1) ((4*p1.1)+4)) p7.1)))) dL am
   replace he14:=spR he14
   refine slA he14 ?_
   intro hF hM
   refine aM (n7 - 1) _ (by omega) sbQ sbG ⟨((p7.1+1),(br 64 (st (br 64 p7.2) p1.1 (orI .u32 (aB .u32 (gt p7.2 p1.1) 8) (ah .u32 (gt (sl block (4*p1.1) ((4*p1.1)+4)) p7.1)))))),rfl,⟨omQ,omQ⟩,omQ,aL hM hag7⟩
  ·intro hF hM
   refine aM (n1 - 1) _ (by omega) sbQ sbQ ⟨((p1.1+1),p7.2),rfl,⟨omQ,omQ⟩,omQ,aL hM hag1⟩
 ·intro hF hM
  have hM0:=hM;clear hM;obtain ⟨f17,d17,hf17,hd17,hM⟩:=aO hM0;clear hM0
  refine aS (fun n S=> ∃p:Int×(List Int),S=(⟨[(2,.ptr 0 0),(3,.ptr 1 0),(7,.int .i64 p.1)],[(0,.var 64 true (sq)),(1,.var 64 true ((nh p.2)))],2⟩:St)∧((16≤p.1)∧(p.1≤64∨p.1≤16))∧((64:Int) - p.1).toNat<n∧ae n f17 d17 p=r) (((64:Int) - 16).toNat+1) _ sbQ sbQ ⟨(16,p1.2),rfl,⟨omQ,omQ⟩,(Nat.lt_succ_self _),hM⟩ ?_
  clear hM
  rintro n17 S ⟨p17,rfl,hfa17,hm17,hM⟩
  have hM0:=hM;clear hM;obtain ⟨ag17,hag17,hM⟩:=aP hM0 (by omega) hf17;clear hM0
  replace hfa17:=nzQ hfa17
  replace hm17:=nzQ hm17
  have ha17:al .i64 p17.1 1=p17.1+1:=aY omQ omQ
  replace hF:=(And.intro ha17 hF)
  revert hM;revert hF
  refine slQ ?_
  refine aC fun _ _ _=> ?_
  have ha20:av .i64 p17.1 15=(p17.1 - 15):=dc am am
  intro hF hM
  try simp only [ha20]
  revert hM;revert hF
  refine slQ ?_
  have he21:(((p17.1 - 15)).toNat*1≤63)=True:=eq_true am
  refine slA (And.intro ha20 he21) ?_
  have he22:=iy (f:=(V.int .u32)) (l:=p17.2) (n:=64) (i:=(p17.1 - 15)) am
  replace he22:=spR he22
  refine slA he22 ?_
  have ha23:av .i64 p17.1 2=(p17.1 - 2):=dc am am
  intro hF hM
  try simp only [ha23]
  revert hM;revert hF
  refine slQ ?_
  have he24:(((p17.1 - 2)).toNat*1≤63)=True:=eq_true am
  refine slA (And.intro ha23 he24) ?_
  have he25:=iy (f:=(V.int .u32)) (l:=p17.2) (n:=64) (i:=(p17.1 - 2)) am
  replace he25:=spR he25
  refine slA he25 ?_
  refine bh fun x26 _ _ _=> ?_
  refine bh fun x29 _ _ _=> ?_
  refine bh fun x32 _ _ _=> ?_
  refine bh fun x35 _ _ _=> ?_
  have ha38:av .i64 p17.1 16=(p17.1 - 16):=dc am am
  intro hF hM
  try simp only [ha38]
  revert hM;revert hF
  refine slQ ?_
  have he39:(((p17.1 - 16)).toNat*1≤63)=True:=eq_true am
  refine slA (And.intro ha38 he39) ?_
  have he40:=iy (f:=(V.int .u32)) (l:=p17.2) (n:=64) (i:=(p17.1 - 16)) am
  replace he40:=spR he40
  refine slA he40 ?_
  have ha41:av .i64 p17.1 7=(p17.1 - 7):=dc am am
  intro hF hM
  try simp only [ha41]
  revert hM;revert hF
  refine slQ ?_
  have he42:(((p17.1 - 7)).toNat*1≤63)=True:=eq_true am
  refine slA (And.intro ha41 he42) ?_
  have he43:=iy (f:=(V.int .u32)) (l:=p17.2) (n:=64) (i:=(p17.1 - 7)) am
  replace he43:=spR he43
  refine slA he43 ?_
  have he44:((p17.1).toNat*1≤63)=True:=eq_true am
  refine slA he44 ?_
  have he45:=pg (f:=(V.int .u32)) (l:=(br 64 p17.2)) (n:=64) (i:=p17.1) (v:=(al .u32 (al .u32 (al .u32 (gt p17.2 (p17.1 - 16)) (aW .u32 (aW .u32 x26 x29) (aw .u32 (gt p17.2 (p17.1 - 15)) 3))) (gt p17.2 (p17.1 - 7))) (aW .u32 (aW .u32 x32 x35) (aw .u32 (gt p17.2 (p17.1 - 2)) 10)))) dL am
  replace he45:=spR he45
  refine slA he45 ?_
  intro hF hM
  refine aM (n17 - 1) _ (by omega) sbQ sbG ⟨((p17.1+1),(br 64 (st (br 64 p17.2) p17.1 (al .u32 (al .u32 (al .u32 (gt p17.2 (p17.1 - 16)) (aW .u32 (aW .u32 x26 x29) (aw .u32 (gt p17.2 (p17.1 - 15)) 3))) (gt p17.2 (p17.1 - 7))) (aW .u32 (aW .u32 x32 x35) (aw .u32 (gt p17.2 (p17.1 - 2)) 10)))))),rfl,⟨omQ,omQ⟩,omQ,aL hM hag17⟩
set_option maxHeartbeats 2000000 in
set_option maxRecDepth 100000 in
theorem MM (state:(List Int)) (block:(List Int)) (hp0:block.length=64):CM En (jD state block) 176 [(ku state),.sl none 1 false (block.map (V.int .u8))] (fun y=>(ku y)) (fun _=> []):=by
 refine cmQ fun r hM=> ?_
 rw [jD.eq_1] at hM
 refine bU bf bv noJ Tryz.func176 rfl Tryz.ntmps176 (by kernel_rfl) fun hw=>bu ?_
 refine spQ ?_
 replace hw:=nzQ hw
 have hM0:=hM;clear hM;obtain ⟨x1,hx2,hM⟩:=ap hM0;clear hM0
 have hcx1:=cmH hx2 (ML block (by (exact pfQ)))
 refine aJ hcx1 clQ clQ (fun hw3=> ?_)
 replace hw3:=nzQ hw3
 refine spQ ?_
 refine lG 121 23 [6,7,8,9,10,11,12,21,22,23,24,25,26,27,28,29,30,31,32,33,34,35,36] [] ([[],[0],[],[2],[],[4],[],[6],[],[8],[],[10],[],[12],[],[14],[0,1],[2,3],[4,5],[6,7],[8,9],[10,11],[12,13]]++[List.range 23]) [] (by kernel_rfl) (by exact alQ) ?_
 refine spQ ?_
 have hM0:=hM;clear hM;obtain ⟨f4,d4,hf4,hd4,hM⟩:=aO hM0;clear hM0
 refine aS (fun n S=> ∃p:Int×Int×Int×Int×Int×Int×Int×Int×Int,S=(⟨[(2,.ptr 0 0),(4,.ptr 1 0),(5,.ptr 2 0),(6,.int .u32 p.1),(7,.int .u32 p.2.1),(8,.int .u32 p.2.2.1),(9,.int .u32 p.2.2.2.1),(10,.int .u32 p.2.2.2.2.1),(11,.int .u32 p.2.2.2.2.2.1),(12,.int .u32 p.2.2.2.2.2.2.1),(13,.int .u32 p.2.2.2.2.2.2.2.1),(37,.int .i64 p.2.2.2.2.2.2.2.2)],[(0,.var 8 true ((ku state))),(1,.var 8 true (wc)),(2,.var 64 true ((nh x1)))],26⟩:St)∧((0≤p.2.2.2.2.2.2.2.2)∧(p.2.2.2.2.2.2.2.2≤64))∧((64:Int) - p.2.2.2.2.2.2.2.2).toNat<n∧ae n f4 d4 p=r) (((64:Int) - 0).toNat+1) _ sbQ sbQ ⟨((gt state 0),(gt state 1),(gt state 2),(gt state 3),(gt state 4),(gt state 5),(gt state 6),(gt state 7),0),rfl,⟨omQ,omQ⟩,(Nat.lt_succ_self _),hM⟩ ?_
 clear hM
 rintro n4 S ⟨p4,rfl,hfa4,hm4,hM⟩
 have hM0:=hM;clear hM;obtain ⟨ag4,hag4,hM⟩:=aP hM0 (by omega) hf4;clear hM0
 replace hfa4:=nzQ hfa4
 replace hm4:=nzQ hm4
 have ha4:al .i64 p4.2.2.2.2.2.2.2.2 1=p4.2.2.2.2.2.2.2.2+1:=aY omQ omQ
 refine au ha4 ?_
 refine bY (fun h5=> ?_) (fun h5=> ?_)
 ·rw [if_pos h5] at hM
  refine au (And.intro ha4 h5) ?_
  have nh5:=nzQ h5
  try have hr6:=mpQ nh5
  refine lG 121 26 [40,41,42,43,44,45,46,47,48,49,50,51,52,53,54,55,56,57,58,59,60,61,62,63,64,65] [] ([[],[],[1],[],[3],[1,2,3,4],[],[6],[1,2,3,4,5,6,7],[0,1,2,3,4,5,6,7,8],[],[],[10,11],[],[13],[],[13,14,15],[10,11,12,13,14,15,16],[0,1,2,3,4,5,6,7,8,9,10,11,12,13,14,15,16,17],[],[19],[19,20],[0,1,2,3,4,5,6,7,8,9,10,11,12,13,14,15,16,17,18,19,20,21],[],[23],[23,24]]++[List.range 26,List.range 27]) [] (by kernel_rfl) (by exact alQ) ?_
  refine au ha4 ?_
  have hM0:=hM;clear hM;obtain ⟨x7,hx8,hM⟩:=ap hM0;clear hM0
  have hcx7:=cmU hx8
  refine bN hcx7 (ar ha4) (ar ha4) ?_
  refine au ha4 ?_
  have hM0:=hM;clear hM;obtain ⟨x9,hx10,hM⟩:=ap hM0;clear hM0
  have hcx9:=cmU hx10
  refine bN hcx9 (ar ha4) (ar ha4) ?_
  refine au ha4 ?_
  have hM0:=hM;clear hM;obtain ⟨x11,hx12,hM⟩:=ap hM0;clear hM0
  have hcx11:=cmU hx12
  refine bN hcx11 (ar ha4) (ar ha4) ?_
  refine au ha4 ?_
  refine eX omQ ?_
  refine au ha4 ?_
  have he13:=pf (f:=V.int .u32) (l:=kg) (n:=64) (i:=p4.2.2.2.2.2.2.2.2) rfl omQ
  replace he13:=spR he13
  refine au (And.intro ha4 he13) ?_
  refine eX omQ ?_
  have he14:((p4.2.2.2.2.2.2.2.2).toNat*1≤63)=True:=eq_true omQ
  refine au (And.intro ha4 (And.intro he13 he14)) ?_
  have he15:=iy (f:=(V.int .u32)) (l:=x1) (n:=64) (i:=p4.2.2.2.2.2.2.2.2) omQ
  replace he15:=spR he15
  try refine au (And.intro ha4 (And.intro he13 (And.intro he14 he15))) ?_
  have hF:=(And.intro ha4 (And.intro h5 (And.intro he13 (And.intro he14 he15))))
  exact auQ
 ·rw [if_neg (bL h5)] at hM
  refine au (And.intro ha4 h5) ?_
  have nh5:=nzQ h5
  try have hr25:=mpQ nh5
  have hM0:=hM;clear hM;obtain ⟨f26,d26,hf26,hd26,hM⟩:=aO hM0;clear hM0
  refine aS (fun n S=> ∃p:Int×(List Int),S=(⟨[(2,.ptr 0 0),(4,.ptr 1 0),(108,.agg [.int .u32 p4.1,.int .u32 p4.2.1,.int .u32 p4.2.2.1,.int .u32 p4.2.2.2.1,.int .u32 p4.2.2.2.2.1,.int .u32 p4.2.2.2.2.2.1,.int .u32 p4.2.2.2.2.2.2.1,.int .u32 p4.2.2.2.2.2.2.2.1]),(109,.int .i64 p.1)],[(0,.var 8 true ((ku p.2))),(1,.var 8 true (wc))],26⟩:St)∧((0≤p.1)∧(p.1≤8))∧((8:Int) - p.1).toNat<n∧ae n f26 d26 p=r) (((8:Int) - 0).toNat+1) _ sbQ sbQ ⟨(0,state),rfl,⟨omQ,omQ⟩,(Nat.lt_succ_self _),hM⟩ ?_
  clear hM
  rintro n26 S ⟨p26,rfl,hfa26,hm26,hM⟩
  have hM0:=hM;clear hM;obtain ⟨ag26,hag26,hM⟩:=aP hM0 (by omega) hf26;clear hM0
  replace hfa26:=nzQ hfa26
  replace hm26:=nzQ hm26
  have ha26:al .i64 p26.1 1=p26.1+1:=aY omQ omQ
  refine au (And.intro ha4 ha26) ?_
  refine bY (fun h27=> ?_) (fun h27=> ?_)
  ·rw [if_pos h27] at hM
   refine au (And.intro ha4 (And.intro ha26 h27)) ?_
   have nh27:=nzQ h27
   try have hr28:=mpQ nh27
   have he29:=pf (f:=(V.int .u32)) (l:=([p4.1,p4.2.1,p4.2.2.1,p4.2.2.2.1,p4.2.2.2.2.1,p4.2.2.2.2.2.1,p4.2.2.2.2.2.2.1,p4.2.2.2.2.2.2.2.1]:List Int)) (n:=8) (i:=p26.1) rfl omQ
   replace he29:=spR he29
   refine au (And.intro ha4 (And.intro ha26 he29)) ?_
   refine bF omQ ?_
   refine au (And.intro ha4 (And.intro ha26 he29)) ?_
   refine bF omQ ?_
   have he30:((p26.1).toNat*1≤7)=True:=eq_true omQ
   refine au (And.intro ha4 (And.intro ha26 (And.intro he29 he30))) ?_
   have he31:=iy (f:=(V.int .u32)) (l:=p26.2) (n:=8) (i:=p26.1) omQ
   replace he31:=spR he31
   try refine au (And.intro ha4 (And.intro ha26 (And.intro he29 (And.intro he30 he31)))) ?_
   refine bF omQ ?_
   have he32:((p26.1).toNat*1≤7)=True:=eq_true omQ
   refine au (And.intro ha4 (And.intro ha26 (And.intro he29 (And.intro he30 (And.intro he31 he32))))) ?_
   have he33:=pg (f:=(V.int .u32)) (l:=(br 8 p26.2)) (n:=8) (i:=p26.1) (v:=(al .u32 (gt p26.2 p26.1) (gt ([p4.1,p4.2.1,p4.2.2.1,p4.2.2.2.1,p4.2.2.2.2.1,p4.2.2.2.2.2.1,p4.2.2.2.2.2.2.1,p4.2.2.2.2.2.2.2.1]:List Int) p26.1))) dL omQ
   replace he33:=spR he33
   refine au (And.intro ha4 (And.intro ha26 (And.intro he29 (And.intro he30 (And.intro he31 (And.intro he32 he33)))))) ?_
   refine aM (n26 - 1) _ (by omega) sbQ sbG ⟨((p26.1+1),(br 8 (st (br 8 p26.2) p26.1 (al .u32 (gt p26.2 p26.1) (gt ([p4.1,p4.2.1,p4.2.2.1,p4.2.2.2.1,p4.2.2.2.2.1,p4.2.2.2.2.2.1,p4.2.2.2.2.2.2.1,p4.2.2.2.2.2.2.2.1]:List Int) p26.1))))),rfl,⟨omQ,omQ⟩,omQ,aL hM hag26⟩
  ·rw [if_neg (bL h27)] at hM
   refine au (And.intro ha4 (And.intro ha26 h27)) ?_
   have nh27:=nzQ h27
   try have hr34:=mpQ nh27
   subst hM
   exact cW (cQ (And.intro ha4 (And.intro ha26 (And.intro h5 h27))))
instance (priority:=1025):DRD 8 59 3 [33,34,35] [] ([[],[],[1]]++[List.range 3,List.range 4]) []:=⟨trivial⟩
set_option maxHeartbeats 2000000 in
set_option maxRecDepth 100000 in
theorem C4 (b:(List Int)) (hp0:b.length≤1000000000):CM En (nI b) 139 [.sl none 1 false (b.map (V.int .u8))] (fun y=>(dM y)) (fun _=> []):=by
 refine enQ [6] Tryz.func139 Tryz.ntmps139 (nI.eq_1 ..) fun r hw=> ?_
 intro hF hM
 have hM0:=hM;clear hM;obtain ⟨x1,hx2,hM⟩:=ap hM0;clear hM0
 have hcx1:=C3 none b
 rw [←hx2] at hcx1
 refine aJ hcx1 clQ clQ (fun hw3=> ?_)
 replace hw3:=nzQ hw3
 revert hM;revert hF
 refine slQ ?_
 have hq4:=nzQ (cfU hx2)
 refine slQ ?_
 intro hF hM
 have hM0:=hM;clear hM;obtain ⟨f5,d5,hf5,hd5,hM⟩:=aO hM0;clear hM0
 refine aS (fun n S=> ∃p:List Int,S=(⟨[(0,.sl none 1 false (b.map (V.int .u8))),(2,.ptr 0 0),(3,.own 1)],[(0,.var 32 true (gX)),(1,.own 5 1 false none (p.map (V.int .u8)))],3⟩:St)∧((((p).length:Int)+(56 - ((p).length:Int))% 64≤(b.length:Int)+65))∧((56 - ((p).length:Int))% 64).toNat<n∧ae n f5 d5 p=r) (((56 - (((x1++([128]:List Int))).length:Int))% 64).toNat+1) _ sbQ sbQ ⟨(x1++([128]:List Int)),rfl,omQ,(Nat.lt_succ_self _),hM⟩ ?_
 clear hM
 rintro n5 S ⟨p5,rfl,hfa5,hm5,hM⟩
 have hM0:=hM;clear hM;obtain ⟨ag5,hag5,hM⟩:=aP hM0 (by omega) hf5;clear hM0
 replace hfa5:=nzQ hfa5
 replace hm5:=nzQ hm5
 revert hM;revert hF
 refine slQ ?_
 refine cdQ (fun _ _ _=> ?_) (fun _ _ _=> ?_)
 ·intro hF hM
  refine aM (n5 - 1) _ (by omega) sbQ sbQ ⟨(p5++([0]:List Int)),rfl,omQ,omQ,aL hM hag5⟩
 ·refine bh fun x9 _ _ _=> ?_
  intro hF hM
  refine lO ?_
  revert hM;revert hF
  refine slQ ?_
  intro hF hM
  refine ko _ (⟨[(2,.ptr 0 0),(3,.sl (iZ (x9.map (V.int .u8))) 1 false ((p5++x9).map (V.int .u8))),(4,.ptr 3 0)],[(0,.var 32 true (gX)),(1,.pown 1 false (iZ (x9.map (V.int .u8))) ((p5++x9).map (V.int .u8))),(3,.var 8 true (.agg [.int .u32 1779033703,.int .u32 3144134277,.int .u32 1013904242,.int .u32 2773480762,.int .u32 1359893119,.int .u32 2600822924,.int .u32 528734635,.int .u32 1541459225]))],4⟩:St) ((oZ (S:=⟨_,_,_⟩) 1 (T:=5) (n:=1) (g:=false) (z:=(iZ (x9.map (V.int .u8)))) (l:=(p5++x9).map (V.int .u8)) clQ).trans (vM (S:=⟨_,_,_⟩) 3 1 (n:=1) (g:=false) (z:=(iZ (x9.map (V.int .u8)))) (l:=(p5++x9).map (V.int .u8)) clQ clQ)) sbQ sbQ ?_
  revert hM;revert hF
  refine slQ ?_
  intro hF hM
  have hM0:=hM;clear hM;obtain ⟨f13,d13,hf13,hd13,hM⟩:=aO hM0;clear hM0
  refine aS (fun n S=> ∃p:List Int×(List Int),S=(⟨[(2,.ptr 0 0),(3,.sl none 1 false (p.1.map (V.int .u8))),(4,.ptr 3 0)],[(0,.var 32 true (gX)),(3,.var 8 true ((ku p.2)))],4⟩:St)∧((((p.1).length:Int)% 64=0))∧(p.1).length<n∧ae n f13 d13 p=r) (((p5++x9)).length+1) _ sbQ sbG ⟨((p5++x9),[1779033703,3144134277,1013904242,2773480762,1359893119,2600822924,528734635,1541459225]),rfl,omQ,(Nat.lt_succ_self _),hM⟩ ?_
  clear hM
  rintro n13 S ⟨p13,rfl,hfa13,hm13,hM⟩
  have hM0:=hM;clear hM;obtain ⟨ag13,hag13,hM⟩:=aP hM0 (by omega) hf13;clear hM0
  replace hfa13:=nzQ hfa13
  replace hm13:=nzQ hm13
  revert hM;revert hF
  refine slQ ?_
  refine cdQ (fun _ _ _=> ?_) (fun _ _ _=> ?_)
  ·intro hF hM
   have hM0:=hM;clear hM;obtain ⟨x16,hx17,hM⟩:=ap hM0;clear hM0
   have hcx16:=cmH hx17 (MM (p13.2) (sl p13.1 0 64) (by (exact pfQ)))
   refine aJ hcx16 clQ clQ (fun hw18=> ?_)
   replace hw18:=nzQ hw18
   revert hM;revert hF
   refine slQ ?_
   intro hF hM
   refine aM (n13 - 1) _ (by omega) sbQ sbQ ⟨((sl p13.1 64 (p13.1.length:Int)),x16),rfl,omQ,omQ,aL hM hag13⟩
  ·intro hF hM
   have hM0:=hM;clear hM;obtain ⟨f20,d20,hf20,hd20,hM⟩:=aO hM0;clear hM0
   refine aS (fun n S=> ∃p:Int×(List Int),S=(⟨[(2,.ptr 0 0),(5,.ptr 4 0),(37,(ku p13.2)),(38,.int .i64 p.1)],[(0,.var 32 true (gX)),(4,.var 32 true ((dM p.2)))],5⟩:St)∧((0≤p.1)∧(p.1≤8))∧((8:Int) - p.1).toNat<n∧ae n f20 d20 p=r) (((8:Int) - 0).toNat+1) _ sbQ sbG ⟨(0,[0,0,0,0,0,0,0,0,0,0,0,0,0,0,0,0,0,0,0,0,0,0,0,0,0,0,0,0,0,0,0,0]),rfl,⟨omQ,omQ⟩,(Nat.lt_succ_self _),hM⟩ ?_
   clear hM
   rintro n20 S ⟨p20,rfl,hfa20,hm20,hM⟩
   have hM0:=hM;clear hM;obtain ⟨ag20,hag20,hM⟩:=aP hM0 (by omega) hf20;clear hM0
   replace hfa20:=nzQ hfa20
   replace hm20:=nzQ hm20
   have ha20:al .i64 p20.1 1=p20.1+1:=aY omQ omQ
   replace hF:=(And.intro ha20 hF)
   revert hM;revert hF
   refine slQ ?_
   refine aC fun _ _ _=> ?_
   have he23:=Ju (f:=(V.int .u32)) (l:=p13.2) (n:=8) (i:=p20.1) am
   replace he23:=spR he23
   refine slA he23 ?_
   intro hF hM
   have hM0:=hM;clear hM;obtain ⟨f24,d24,hf24,hd24,hM⟩:=aO hM0;clear hM0
   refine aS (fun n S=> ∃p:Int×(List Int),S=(⟨[(2,.ptr 0 0),(5,.ptr 4 0),(6,.int .i64 p20.1),(7,.int .u32 (gt p13.2 p20.1)),(37,(ku p13.2)),(38,.int .i64 p20.1),(42,.int .i64 p.1)],[(0,.var 32 true (gX)),(4,.var 32 true ((dM p.2)))],5⟩:St)∧((0≤p.1)∧(p.1≤4))∧((4:Int) - p.1).toNat<n∧ae n f24 d24 p=r) (((4:Int) - 0).toNat+1) _ sbQ sbQ ⟨(0,p20.2),rfl,⟨omQ,omQ⟩,(Nat.lt_succ_self _),hM⟩ ?_
   clear hM
   rintro n24 S ⟨p24,rfl,hfa24,hm24,hM⟩
   have hM0:=hM;clear hM;obtain ⟨ag24,hag24,hM⟩:=aP hM0 (by omega) hf24;clear hM0
   replace hfa24:=nzQ hfa24
   replace hm24:=nzQ hm24
   have ha24:al .i64 p24.1 1=p24.1+1:=aY omQ omQ
   replace hF:=(And.intro ha24 hF)
   revert hM;revert hF
   refine slQ ?_
   refine cdQ (fun _ _ _=> ?_) (fun _ _ _=> ?_)
   ·obtain ⟨ha27,hbha27⟩:=kn (a:=4) (b:=p20.1) 8 64 512 am am am am (by decide) (by decide)
    intro hF hM
    try simp only [ha27]
    have ha28:al .i64 (4*p20.1) p24.1=((4*p20.1)+p24.1):=dq omQ omQ
    try simp only [ha28]
    obtain ⟨ha29,hbha29⟩:=kn (a:=8) (b:=p24.1) 8 64 512 omQ omQ omQ omQ (by decide) (by decide)
    try simp only [ha29]
    have ha30:av .i64 24 (8*p24.1)=(24 - (8*p24.1)):=dc omQ omQ
    try simp only [ha30]
    replace hF:=(And.intro ha27 (And.intro ha28 (And.intro ha29 (And.intro ha30 hF))))
    revert hM;revert hF
    refine slQ ?_
    have he31:((((4*p20.1)+p24.1)).toNat*1≤31)=True:=eq_true am
    refine slA he31 ?_
    have he32:=pg (f:=(V.int .u8)) (l:=(br 32 p24.2)) (n:=32) (i:=((4*p20.1)+p24.1)) (v:=(ah .u8 (aw .u32 (gt p13.2 p20.1) (24 - (8*p24.1))))) dL am
    replace he32:=spR he32
    refine slA he32 ?_
    intro hF hM
    refine aM (n24 - 1) _ (by omega) sbQ sbG ⟨((p24.1+1),(br 32 (st (br 32 p24.2) ((4*p20.1)+p24.1) (ah .u8 (aw .u32 (gt p13.2 p20.1) (24 - (8*p24.1))))))),rfl,⟨omQ,omQ⟩,omQ,aL hM hag24⟩
   ·intro hF hM
    refine aM (n20 - 1) _ (by omega) sbQ sbQ ⟨((p20.1+1),p24.2),rfl,⟨omQ,omQ⟩,omQ,aL hM hag20⟩
instance (priority:=1026):DRD 4 26 5 [19,20,21,22,23] [] ([[],[0],[],[0,1,2],[]]++[List.range 5,List.range 6,List.range 7,List.range 8]) [(3,4)]:=⟨trivial⟩
set_option maxHeartbeats 2000000 in
set_option maxRecDepth 100000 in
theorem C5 (tag:(List UInt8)) (b:(List Int)) (hp0:b.length≤900000000):CM En (nJ tag b) 85 [.str tag,.sl none 1 false (b.map (V.int .u8))] (fun y=> .tup [(dM y.1),.int .i64 y.2]) (fun _=> []):=by
 refine enQ [4] Tryz.func85 Tryz.ntmps85 (nJ.eq_1 ..) fun r hw=> ?_
 refine aC fun _ _ _=> ?_
 refine aT fun _ _ _=> ?_
 intro hF hM
 refine lO ?_
 revert hM;revert hF
 refine slQ ?_
 intro hF hM
 have hM0:=hM;clear hM;obtain ⟨x6,hx7,hM⟩:=ap hM0;clear hM0
 have hcx6:=cmH hx7 (C4 (bK tag) (by (exact pfQ)))
 refine eW hcx6 clQ clQ (fun hw8=> ?_)
 replace hw8:=nzQ hw8
 revert hM;revert hF
 refine slQ ?_
 intro hF hM
 refine ko _ (⟨[(1,.sl none 1 false (b.map (V.int .u8))),(4,.ptr 0 0),(6,.ptr 2 0)],[(0,.var 32 true (gX)),(2,.pvar 32 true ((dM x6)))],3⟩:St) (m9 (S:=⟨_,_,_⟩) 2 (n:=32) (g:=true) (d:=(dM x6)) clQ clQ) sbQ sbQ ?_
 revert hM;revert hF
 refine slQ ?_
 intro hF hM
 have hM0:=hM;clear hM;obtain ⟨x9,hx10,hM⟩:=ap hM0;clear hM0
 have hcx9:=C3 (some false) (br 32 x6)
 rw [←hx10] at hcx9
 refine zW hcx9 clQ clQ ?_
 revert hM;revert hF
 refine slQ ?_
 have hq11:=nzQ (cfU hx10)
 refine slQ ?_
 intro hF hM
 have hM0:=hM;clear hM;obtain ⟨x12,hx13,hM⟩:=ap hM0;clear hM0
 have hcx12:=cmH hx13 (C4 ((x9++(br 32 x6))++b) (by (exact pfQ)))
 refine eW hcx12 clQ clQ (fun hw14=> ?_)
 replace hw14:=nzQ hw14
 exact auP
set_option maxHeartbeats 2000000 in
set_option maxRecDepth 100000 in
instance Rn (label:(List UInt8)):CM En (mf label) 38 [.str label] (fun y=> .tup [(dB y.1),.int .i64 y.2]) (fun _=> []):=by
 refine enQ noJ Tryz.func38 Tryz.ntmps38 (mf.eq_1 ..) fun r hw=> ?_
 refine bh fun _ _ _ _=> ?_
 refine aT fun _ _ _=> ?_
 intro hF hM
 have hM0:=hM;clear hM;obtain ⟨x8,hx9,hM⟩:=ap hM0;clear hM0
 have hcx8:=cmH hx9 (C5 ([115,112,101,99,105,101,47,116,114,97,110,115,99,114,105,112,116]) (bK label) (by (exact pfQ)))
 refine eW hcx8 clQ clQ (fun hw10=> ?_)
 replace hw10:=nzQ hw10
 exact auP
set_option maxHeartbeats 2000000 in
set_option maxRecDepth 100000 in
instance Rp (t:aV):CM En (kL t) 120 [(dB t)] (fun y=> .bool y) (fun _=> []):=by
 refine enQ noJ Tryz.func120 Tryz.ntmps120 (kL.eq_1 ..) fun r hw=> ?_
 exact auR
set_option maxHeartbeats 2000000 in
set_option maxRecDepth 100000 in
theorem MN (N:Nat) (ih: ∀(i_:aq) (depth:Int),hgt i_<N→aE En 212 [.agg [.int .i64 i_.Kind,.int .i64 i_.N,.sl none 1 false (i_.B.map (V.int .u8)),.sl none 4 true (i_.L.map bJ)],.int .i64 depth] (.bool (cc i_ depth)) []) (x_:aq) (c0:Int) (hp0:hgt x_<N) (hp1:0<c0):aE En 232 [.agg [.int .i64 x_.Kind,.int .i64 x_.N,.sl none 1 false (x_.B.map (V.int .u8)),.sl none 4 true (x_.L.map bJ)],.pp 1 false (.int .i64 c0)] (.bool (mg x_ c0)) []:=by
 generalize hM:mg x_ c0=r
 rw [mg.eq_1] at hM
 refine bU bf bv noJ Tryz.func232 rfl Tryz.ntmps232 (by kernel_rfl) fun hw=>bu ?_
 refine spQ ?_
 replace hw:=nzQ hw
 have ha1:av .i64 c0 1=(c0 - 1):=dc omQ omQ
 try simp only [ha1]
 have hM0:=hM;clear hM;obtain ⟨x2,hx3,hM⟩:=ap hM0;clear hM0
 have hcx2:=ih x_ (c0 - 1) (by omega)
 rw [←hx3] at hcx2
 have hF:=ha1
 refine aJ hcx2 (ar hF) (ar hF) (fun hw4=> ?_)
 replace hw4:=nzQ hw4
 exact auP
end Go.Proofs.YtgealhhkngbkbaaGreatDoor
