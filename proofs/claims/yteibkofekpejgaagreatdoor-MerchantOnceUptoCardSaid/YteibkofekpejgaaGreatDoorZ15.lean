/- Texts of this proof, one after the other: U3, U4. -/
import Derived.Test.YteibkofekpejgaaGreatDoorZ14
set_option linter.unusedVariables false
set_option linter.unusedSimpArgs false
set_option maxHeartbeats 2000000
set_option maxRecDepth 100000
namespace Go.Proofs.YteibkofekpejgaaGreatDoor
open Go.RowKit
set_option linter.unusedSimpArgs false
set_option maxRecDepth 512 in
instance (priority:=1028):DRD 1 8 3 [4,5,6] [] ([[],[],[1]]++[List.range 3,List.range 4]) []:=⟨trivial⟩
theorem MQ (d_:Int) (c0:Int) (hp0:0≤d_):CM En (yc d_ c0) 195 [.int .i64 d_,.pp 1 false (.int .i64 c0)] (fun y=> .bool y) (fun _=> []):=by
 refine enQ noJ Tryz.func195 Tryz.ntmps195 (yc.eq_1 ..) fun r hw=> ?_
 exact auR
theorem MR (s:(List Int)) (f__c0:Int) (hp0: ∀j:Int,0≤j→j.toNat<s.length→0≤gt s j):CM En (yd s f__c0) 229 [.sl none 1 false (s.map (V.int .i64)),.fn 195 [.pp 1 false (.int .i64 f__c0)]] (fun y=> .int .i64 y) (fun _=> []):=by
 refine enQ noJ Tryz.func229 Tryz.ntmps229 (yd.eq_1 ..) fun r hw=> ?_
 intro hF hM
 replace hM:=aH hM;obtain ⟨f1,d1,hf1,hd1,hM⟩:=hM
 refine aK (fun n S=> ∃p:Int,S=(⟨[(0,.sl none 1 false (s.map (V.int .i64))),(1,.fn 195 [.pp 1 false (.int .i64 f__c0)]),(7,.int .i64 (s.length:Int)),(8,.int .i64 p)],[],0⟩:St)∧((0≤p)∧(p≤(s.length:Int)))∧((s.length:Int) - p).toNat<n∧ae n f1 d1 p=r) (((s.length:Int) - 0).toNat+1) _ sbQ sbQ ⟨0,rfl,⟨omQ,omQ⟩,(Nat.lt_succ_self _),hM⟩ ?_
 clear hM
 rintro n1 S ⟨p1,rfl,hfa1,hm1,hM⟩
 replace hM:=aI hM (by omega) hf1;obtain ⟨ag1,hag1,hM⟩:=hM
 replace hfa1:=nzQ hfa1
 replace hm1:=nzQ hm1
 have ha1:al .i64 p1 1=p1+1:=aJ omQ omQ
 replace hF:=(And.intro ha1 hF)
 revert hM;revert hF
 refine slQ ?_
 refine av fun _ _ _=> ?_
 intro hF hM
 replace hM:=ar hM;obtain ⟨x5,hx6,hM⟩:=hM
 have hcx5:=cmH hx6 (MQ (gt s p1) f__c0 (by (exact hp0 _ (by omega) (by omega))))
 refine aN hcx5 (ao hF) (ao hF) (fun hw7=> ?_)
 replace hw7:=nzQ hw7
 revert hM;revert hF
 refine slQ ?_
 refine az fun _ _ _=> ?_
 intro hF hM
 refine aE (n1 - 1) _ (by omega) sbQ sbQ ⟨(p1+1),rfl,⟨omQ,omQ⟩,omQ,aD hM hag1⟩
theorem MS (s:(List Int)) (f__c0:Int) (hp0: ∀j:Int,0≤j→j.toNat<s.length→0≤gt s j):CM En (ye s f__c0) 194 [.sl none 1 false (s.map (V.int .i64)),.fn 195 [.pp 1 false (.int .i64 f__c0)]] (fun y=> .bool y) (fun _=> []):=by
 refine enQ noJ Tryz.func194 Tryz.ntmps194 (ye.eq_1 ..) fun r hw=> ?_
 intro hF hM
 replace hM:=ar hM;obtain ⟨x1,hx2,hM⟩:=hM
 have hcx1:=cmH hx2 (MR s f__c0 (by (exact hp0)))
 refine aN hcx1 clQ clQ (fun hw3=> ?_)
 replace hw3:=nzQ hw3
 exact auP
instance S4 (n_:Int):CM En (yf n_) 160 [.int .i64 n_] (fun y=> .bool y) (fun _=> []):=by
 refine enQ noJ Tryz.func160 Tryz.ntmps160 (yf.eq_1 ..) fun r hw=> ?_
 intro hF hM
 replace hM:=ar hM;obtain ⟨x1,hx2,hM⟩:=hM
 have hcx1:=cmH hx2 (MS ([0,1,2,3,4,5]:List Int) n_ (by (exact Ld)))
 refine fx hcx1 clQ clQ (fun hw3=> ?_)
 replace hw3:=nzQ hw3
 exact auP
instance S5 (b:(List Int)):CM En (yg b) 161 [.sl none 1 false (b.map (V.int .u8))] (fun y=> .tup [(aF y.1),.int .i64 y.2]) (fun _=> []):=by
 refine enQ noJ Tryz.func161 Tryz.ntmps161 (yg.eq_1 ..) fun r hw=> ?_
 refine az fun _ _ _=> ?_
 intro hF hM
 replace hM:=ar hM;obtain ⟨x4,hx5,hM⟩:=hM
 have hcx4:=cmH hx5 (iC ([115,112,101,99,105,101,47,108,101,97,102]) b (by (exact pfQ)))
 refine aN hcx4 clQ clQ (fun hw6=> ?_)
 replace hw6:=nzQ hw6
 exact auP
instance S7 (b:aX) (l:(List Int)):CM En (yh b l) 130 [(bS b),.sl none 1 false (l.map (V.int .i64))] (fun y=> .tup [.sl none 32 true (y.1.map aF),.int .i64 y.2]) (fun _=> []):=by
 refine enQ noJ Tryz.func130 Tryz.ntmps130 (yh.eq_1 ..) fun r hw=> ?_
 refine ax fun _ _ _ _=> ?_
 refine av fun _ _ _=> ?_
 refine ax fun _ _ _ _=> ?_
 refine az fun _ _ _=> ?_
 intro hF hM
 replace hM:=aH hM;obtain ⟨f12,d12,hf12,hd12,hM⟩:=hM
 refine dP (fun n S=> ∃p:Int×List (List Int),S=(⟨[(2,.ptr 0 0),(6,.own 1),(22,.sl none 1 false (l.map (V.int .i64))),(23,.int .i64 (l.length:Int)),(24,.int .i64 p.1)],[(0,.var 6 true ((bS b))),(1,.own 28 32 true none (p.2.map aF))],2⟩:St)∧((0≤p.1)∧(p.1≤(l.length:Int))∧(((p.2).length:Int)≤p.1))∧((l.length:Int) - p.1).toNat<n∧ae n f12 d12 p=r) (((l.length:Int) - 0).toNat+1) _ _ (fU 6 28 rfl (by decide)) sbQ sbQ ⟨(0,([]:List (List Int))),rfl,⟨omQ,omQ,omQ⟩,(Nat.lt_succ_self _),hM⟩ ?_
 clear hM
 rintro n12 S ⟨p12,rfl,hfa12,hm12,hM⟩
 replace hM:=aI hM (by omega) hf12;obtain ⟨ag12,hag12,hM⟩:=hM
 replace hfa12:=nzQ hfa12
 replace hm12:=nzQ hm12
 have ha12:al .i64 p12.1 1=p12.1+1:=aJ omQ omQ
 replace hF:=(And.intro ha12 hF)
 revert hM;revert hF
 refine slQ ?_
 refine av fun _ _ _=> ?_
 refine ax fun _ _ _ _=> ?_
 refine az fun _ _ _=> ?_
 intro hF hM
 replace hM:=ar hM;obtain ⟨x22,hx23,hM⟩:=hM
 have hcx22:=cmH hx23 (kC ({Kind:=1,N:=(gt l p12.1),B:=([]:List Int),L:=([]:List am)}:am) (by (simp [hgt,bL])))
 refine aN hcx22 (ao hF) (ao hF) (fun hw24=> ?_)
 replace hw24:=nzQ hw24
 revert hM;revert hF
 refine slQ ?_
 have hq25:=kA hx23
 replace hq25:=nzQ hq25
 refine ax fun x26 _ _ _=> ?_
 intro hF hM
 refine aE (n12 - 1) _ (by omega) sbQ sbQ ⟨((p12.1+1),(p12.2++([x26.1]:List (List Int)))),rfl,⟨omQ,omQ,omQ⟩,omQ,aD hM hag12⟩
instance S8 (n_:Int):CM En (kt n_) 230 [.int .i64 n_] (fun y=> .tup [.int .i64 y.1,.int .i64 y.2]) (fun _=> []):=by
 refine enQ noJ Tryz.func230 Tryz.ntmps230 (kt.eq_1 ..) fun r hw=> ?_
 intro hF hM
 replace hM:=aH hM;obtain ⟨f1,d1,hf1,hd1,hM⟩:=hM
 refine aK (fun n S=> ∃p:Int,S=(⟨[(0,.int .i64 n_),(5,.int .i64 p)],[],0⟩:St)∧((0≤p)∧(p≤11))∧((11:Int) - p).toNat<n∧ae n f1 d1 p=r) (((11:Int) - 0).toNat+1) _ sbQ sbQ ⟨0,rfl,⟨omQ,omQ⟩,(Nat.lt_succ_self _),hM⟩ ?_
 clear hM
 rintro n1 S ⟨p1,rfl,hfa1,hm1,hM⟩
 replace hM:=aI hM (by omega) hf1;obtain ⟨ag1,hag1,hM⟩:=hM
 replace hfa1:=nzQ hfa1
 replace hm1:=nzQ hm1
 have ha1:al .i64 p1 1=p1+1:=aJ omQ omQ
 replace hF:=(And.intro ha1 hF)
 revert hM;revert hF
 refine slQ ?_
 refine av fun _ _ _=> ?_
 refine az fun _ _ _=> ?_
 intro hF hM
 refine aE (n1 - 1) _ (by omega) sbQ sbQ ⟨(p1+1),rfl,⟨omQ,omQ⟩,omQ,aD hM hag1⟩
theorem MT (slices:(List (List Int))) (hp0:slices.length≤2) (hp1: ∀j:Int,(gt slices j).length≤32):CM En (nD slices) 232 [.sl none 1 false (slices.map (fun (l:List Int)=>V.sl none 1 false (l.map (V.int .u8))))] (fun _=> .own 0) (fun y=> [.own 5 1 false none (y.map (V.int .u8))]):=by
 refine enQ noJ Tryz.func232 Tryz.ntmps232 (nD.eq_1 ..) fun r hw=> ?_
 intro hF hM
 replace hM:=aH hM;obtain ⟨f1,d1,hf1,hd1,hM⟩:=hM
 refine aK (fun n S=> ∃p:Int×Int,S=(⟨[(0,.sl none 1 false (slices.map (fun (l:List Int)=>V.sl none 1 false (l.map (V.int .u8))))),(3,.int .i64 p.1),(9,.sl none 1 false (slices.map (fun (l:List Int)=>V.sl none 1 false (l.map (V.int .u8))))),(10,.int .i64 (slices.length:Int)),(11,.int .i64 p.2)],[],0⟩:St)∧((0≤p.2)∧(p.2≤(slices.length:Int))∧(0≤p.1)∧(p.1≤32*p.2))∧((slices.length:Int) - p.2).toNat<n∧ae n f1 d1 p=r) (((slices.length:Int) - 0).toNat+1) _ sbQ sbQ ⟨(0,0),rfl,⟨by (first|exact omQ|(clear hM;first|(have h9:=hp1 p1.2;exact an)|(have h9:=hp1 p13.1;exact an)|(have h9:=hp1 p14.1;exact an))),by (first|exact omQ|(clear hM;first|(have h9:=hp1 p1.2;exact an)|(have h9:=hp1 p13.1;exact an)|(have h9:=hp1 p14.1;exact an))),by (first|exact omQ|(clear hM;first|(have h9:=hp1 p1.2;exact an)|(have h9:=hp1 p13.1;exact an)|(have h9:=hp1 p14.1;exact an))),by (first|exact omQ|(clear hM;first|(have h9:=hp1 p1.2;exact an)|(have h9:=hp1 p13.1;exact an)|(have h9:=hp1 p14.1;exact an)))⟩,(Nat.lt_succ_self _),hM⟩ ?_
 clear hM
 rintro n1 S ⟨p1,rfl,hfa1,hm1,hM⟩
 have hG0:=hp1 p1.2
 replace hM:=aI hM (by omega) hf1;obtain ⟨ag1,hag1,hM⟩:=hM
 replace hfa1:=nzQ hfa1
 replace hm1:=nzQ hm1
 have ha1:al .i64 p1.2 1=p1.2+1:=aJ (by (first|exact omQ|(clear hM;first|(have h9:=hp1 p1.2;exact an)|(have h9:=hp1 p13.1;exact an)|(have h9:=hp1 p14.1;exact an)))) (by (first|exact omQ|(clear hM;first|(have h9:=hp1 p1.2;exact an)|(have h9:=hp1 p13.1;exact an)|(have h9:=hp1 p14.1;exact an))))
 replace hF:=(And.intro ha1 hF)
 revert hM;revert hF
 refine slQ ?_
 refine cdQ (fun _ _ _=> ?_) (fun _ _ _=> ?_)
 ·intro hF hM
  try refine bw (by (first|exact omQ|(clear hM;first|(have h9:=hp1 p1.2;exact an)|(have h9:=hp1 p13.1;exact an)|(have h9:=hp1 p14.1;exact an)))) ?_
  have he4:=fun d=>cE (l:=slices) (f:=(fun (l:List Int)=>V.sl none 1 false (l.map (V.int .u8)))) (i:=p1.2) (by (first|exact omQ|(clear hM;first|(have h9:=hp1 p1.2;exact an)|(have h9:=hp1 p13.1;exact an)|(have h9:=hp1 p14.1;exact an)))) d
  replace hF:=(And.intro he4 hF)
  revert hM;revert hF
  refine slQ ?_
  intro hF hM
  have ha5:al .i64 p1.1 ((gt slices p1.2).length:Int)=(p1.1+((gt slices p1.2).length:Int)):=lr (by (first|exact omQ|(clear hM;first|(have h9:=hp1 p1.2;exact an)|(have h9:=hp1 p13.1;exact an)|(have h9:=hp1 p14.1;exact an)))) (by (first|exact omQ|(clear hM;first|(have h9:=hp1 p1.2;exact an)|(have h9:=hp1 p13.1;exact an)|(have h9:=hp1 p14.1;exact an))))
  try simp only [ha5]
  replace hF:=(And.intro ha5 hF)
  revert hM;revert hF
  refine cdQ (fun _ _ _=> ?_) (fun _ _ _=> ?_)
  ·intro hF hM
   exact False.elim (by (first|exact omQ|(clear hM;first|(have h9:=hp1 p1.2;exact an)|(have h9:=hp1 p13.1;exact an)|(have h9:=hp1 p14.1;exact an))))
  ·intro hF hM
   refine aE (n1 - 1) _ (by omega) sbQ sbQ ⟨((p1.1+((gt slices p1.2).length:Int)),(p1.2+1)),rfl,⟨by (first|exact omQ|(clear hM;first|(have h9:=hp1 p1.2;exact an)|(have h9:=hp1 p13.1;exact an)|(have h9:=hp1 p14.1;exact an))),by (first|exact omQ|(clear hM;first|(have h9:=hp1 p1.2;exact an)|(have h9:=hp1 p13.1;exact an)|(have h9:=hp1 p14.1;exact an))),by (first|exact omQ|(clear hM;first|(have h9:=hp1 p1.2;exact an)|(have h9:=hp1 p13.1;exact an)|(have h9:=hp1 p14.1;exact an))),by (first|exact omQ|(clear hM;first|(have h9:=hp1 p1.2;exact an)|(have h9:=hp1 p13.1;exact an)|(have h9:=hp1 p14.1;exact an)))⟩,by (first|exact omQ|(clear hM;first|(have h9:=hp1 p1.2;exact an)|(have h9:=hp1 p13.1;exact an)|(have h9:=hp1 p14.1;exact an))),aD hM hag1⟩
 ·intro hF hM
  replace hM:=ar hM;obtain ⟨x10,hx11,hM⟩:=hM
  have hcx10:=L2 (some true) ([]:List Int) (p1.1) (by (first|rfl|omega)) (by (first|rfl|omega)) (by (first|rfl|omega)) (by (first|rfl|omega))
  rw [←hx11] at hcx10
  refine aN hcx10 (ao hF) (ao hF) (fun hw12=> ?_)
  replace hw12:=nzQ hw12
  revert hM;revert hF
  refine slQ ?_
  have hq13:=LX hx11
  replace hq13:=nzQ hq13
  intro hF hM
  replace hM:=aH hM;obtain ⟨f14,d14,hf14,hd14,hM⟩:=hM
  refine aK (fun n S=> ∃p:Int×List Int,S=(⟨[(6,.own 0),(25,.sl none 1 false (slices.map (fun (l:List Int)=>V.sl none 1 false (l.map (V.int .u8))))),(26,.int .i64 (slices.length:Int)),(27,.int .i64 p.1)],[(0,.own 5 1 false none (p.2.map (V.int .u8)))],1⟩:St)∧((0≤p.1)∧(p.1≤(slices.length:Int))∧(((p.2).length:Int)≤32*p.1))∧((slices.length:Int) - p.1).toNat<n∧ae n f14 d14 p=r) (((slices.length:Int) - 0).toNat+1) _ sbQ sbQ ⟨(0,x10),rfl,⟨by (first|exact omQ|(clear hM;first|(have h9:=hp1 p1.2;exact an)|(have h9:=hp1 p13.1;exact an)|(have h9:=hp1 p14.1;exact an))),by (first|exact omQ|(clear hM;first|(have h9:=hp1 p1.2;exact an)|(have h9:=hp1 p13.1;exact an)|(have h9:=hp1 p14.1;exact an))),by (first|exact omQ|(clear hM;first|(have h9:=hp1 p1.2;exact an)|(have h9:=hp1 p13.1;exact an)|(have h9:=hp1 p14.1;exact an)))⟩,(Nat.lt_succ_self _),hM⟩ ?_
  clear hM
  rintro n14 S ⟨p14,rfl,hfa14,hm14,hM⟩
  have hG1:=hp1 p14.1
  replace hM:=aI hM (by omega) hf14;obtain ⟨ag14,hag14,hM⟩:=hM
  replace hfa14:=nzQ hfa14
  replace hm14:=nzQ hm14
  have ha14:al .i64 p14.1 1=p14.1+1:=aJ (by exact omA) (by exact omA)
  replace hF:=(And.intro ha14 hF)
  revert hM;revert hF
  refine slQ ?_
  refine az fun _ _ _=> ?_
  intro hF hM
  subst hM
  exact sF [0] (bs:=[.own 5 1 false none (p14.2.map (V.int .u8))]) (ao hF) (by decide) (cm hF)
set_option maxRecDepth 512 in
instance (priority:=1029):DRD 1 16 10 [5,7,8,9,10,11,12,13,14] [] ([[],[],[0,1],[0,1,2],[0,1,2,3],[0,1,2,3,4],[0,1,2,3,4,5],[0,1,2,3,4,5],[],[0,1,2,3,4,5,6,8]]++[List.range 10]) [(2,5),(9,11)]:=⟨trivial⟩
instance S9 (l:(List Int)) (r_:(List Int)):CM En (js l r_) 197 [(aF l),(aF r_)] (fun y=>(aF y)) (fun _=> []):=by
 refine enQ [1] Tryz.func197 Tryz.ntmps197 (js.eq_1 ..) fun r hw=> ?_
 intro hF hM
 refine fX ?_
 revert hM;revert hF
 refine slQ ?_
 intro hF hM
 refine gH _ (⟨[(2,.ptr 0 0),(3,.ptr 1 0),(4,.ptr 2 0)],[(0,.pvar 32 true ((aF l))),(1,.pvar 32 true ((aF r_))),(2,.var 32 true (f0))],3⟩:St) ((ib (S:=⟨_,_,_⟩) 0 (n:=32) (g:=true) (d:=(aF l)) clQ clQ).trans (ib (S:=⟨_,_,_⟩) 1 (n:=32) (g:=true) (d:=(aF r_)) clQ clQ)) sbQ sbQ ?_
 revert hM;revert hF
 refine slQ ?_
 intro hF hM
 replace hM:=ar hM;obtain ⟨x1,hx2,hM⟩:=hM
 have hcx1:=aV.pub (cmH hx2 (MT ([(bc 32 l),(bc 32 r_)]:List (List Int)) (by (first|exact DA (Nat.le_of_eq dh) (Nat.le_of_eq dh)|exact Nat.le_refl _)) (by (first|exact DA (Nat.le_of_eq dh) (Nat.le_of_eq dh)|exact Nat.le_refl _))))
 refine bA hcx1 clQ clQ ?_
 revert hM;revert hF
 refine slQ ?_
 have hq3:=LD hx2 (Nat.le_of_eq dh) (Nat.le_of_eq dh)
 replace hq3:=nzQ hq3
 intro hF hM
 replace hM:=ar hM;obtain ⟨x4,hx5,hM⟩:=hM
 have hcx4:=cmH hx5 (iC ([115,112,101,99,105,101,47,110,111,100,101]) x1 (by (omega)))
 refine bA hcx4 clQ clQ ?_
 exact auP
set_option maxRecDepth 512 in
instance (priority:=1030):DRD 3 28 14 [14,15,16,17,18,19,20,21,22,23,24,25,26] [] ([[],[],[],[],[],[],[4,5],[4,5,6],[],[],[8,9],[8,9,10],[0,1],[0,1,4,5,6,7,8,9,10,11,12]]++[List.range 14,List.range 15]) [(13,0)]:=⟨trivial⟩
theorem MU (z0:Option Bool) (s:(List (List (List Int)))):xb En 252 67 1 false z0 (s.map (fun (l:List (List Int))=>V.sl none 32 true (l.map aF))) ((lW s).map (fun (l:List (List Int))=>V.sl none 32 true (l.map aF))):=by
 generalize hM:lW s=r
 rw [lW.eq_1] at hM
 refine J8 aU bJ noJ Tryz.func252 rfl Tryz.ntmps252 (by kernel_rfl) fun hw0 hw=>bP ?_
 simp only [bU]
 replace hw0:=nzQ hw0
 refine spQ ?_
 replace hw:=nzQ hw
 have ha1:aB .i64 (s.length:Int) 1=((s.length:Int) - 1):=dv omQ omQ
 try simp only [ha1]
 replace hM:=aH hM;obtain ⟨f2,d2,hf2,hd2,hM⟩:=hM
 refine aK (fun n S=> ∃p:Int×Int×List (List (List Int)),S=(⟨[(0,.own 0),(2,.int .i64 p.1),(3,.int .i64 p.2.1),(100000,.own 0)],[(0,.own 67 1 false none (p.2.2.map (fun (l:List (List Int))=>V.sl none 32 true (l.map aF))))],1⟩:St)∧((0≤p.1)∧(p.1≤(s.length:Int))∧(-1≤p.2.1)∧(p.2.1<(s.length:Int))∧((p.2.2).length=(s).length))∧(p.2.1 - p.1).toNat<n∧ae n f2 d2 p=r) ((((s.length:Int) - 1) - 0).toNat+1) _ sbQ sbQ ⟨(0,((s.length:Int) - 1),s),rfl,⟨omQ,omQ,omQ,omQ,omQ⟩,(Nat.lt_succ_self _),hM⟩ ?_
 clear hM
 rintro n2 S ⟨p2,rfl,hfa2,hm2,hM⟩
 replace hM:=aI hM (by omega) hf2;obtain ⟨ag2,hag2,hM⟩:=hM
 replace hfa2:=nzQ hfa2
 replace hm2:=nzQ hm2
 have ha2:al .i64 p2.1 1=p2.1+1:=aJ omQ omQ
 have hF:=(And.intro ha1 ha2)
 revert hM;revert hF
 refine slQ ?_
 refine cdQ (fun _ _ _=> ?_) (fun _ _ _=> ?_)
 ·have ha8:aB .i64 p2.2.1 1=(p2.2.1 - 1):=dv an an
  intro hF hM
  try simp only [ha8]
  refine aE (n2 - 1) _ (by omega) sbQ sbQ ⟨((p2.1+1),(p2.2.1 - 1),(st (st p2.2.2 p2.1 (gt p2.2.2 p2.2.1)) p2.2.1 (gt p2.2.2 p2.1))),rfl,⟨omQ,omQ,omQ,omQ,omQ⟩,omQ,aD hM hag2⟩
 ·intro hF hM
  subst hM
  first|exact CJ (by simp) rfl rfl (cm hF)|exact JE (CJ (by simp) rfl rfl (cm hF))
set_option maxRecDepth 512 in
instance (priority:=1031):DRD 6 32 9 [14,15,16,17,18,19,20,21,22] [] ([[],[],[1],[1,2],[],[4],[4,5],[1,2,3,4,5,6],[1,2,3,4,5,6,7]]++[List.range 9,List.range 10]) []:=⟨trivial⟩
theorem MV (l:(List (List Int))) (hp0:ke l):CM En (pX l) 231 [.sl none 32 true (l.map aF)] (fun y=> .sl none 1 false (y.map (fun (l:List (List Int))=>V.sl none 32 true (l.map aF)))) (fun _=> []):=by
 refine enQ [7] Tryz.func231 Tryz.ntmps231 (pX.eq_1 ..) fun r hw=> ?_
 intro hF hM
 replace hM:=aH hM;obtain ⟨f1,d1,hf1,hd1,hM⟩:=hM
 refine aK (fun n S=> ∃p:List (List Int)×List (List (List Int)),S=(⟨[(0,.sl none 32 true (p.1.map aF)),(3,.own 0)],[(0,.own 67 1 false none (p.2.map (fun (l:List (List Int))=>V.sl none 32 true (l.map aF))))],1⟩:St)∧((ke p.1)∧((p.2).length+(p.1).length≤l.length+1))∧(p.1).length<n∧ae n f1 d1 p=r) ((l).length+1) _ sbQ sbQ ⟨(l,([l]:List (List (List Int)))),rfl,⟨by exact hp0,by (simp only [List.length_cons,List.length_nil];omega)⟩,(Nat.lt_succ_self _),hM⟩ ?_
 clear hM
 rintro n1 S ⟨p1,rfl,⟨hF2_0,hF2_1⟩,hm1,hM⟩
 replace hM:=aI hM (by omega) hf1;obtain ⟨ag1,hag1,hM⟩:=hM
 replace hm1:=nzQ hm1
 revert hM;revert hF
 refine slQ ?_
 refine cdQ (fun _ _ _=> ?_) (fun _ _ _=> ?_)
 ·intro hF hM
  refine fX ?_
  revert hM;revert hF
  refine slQ ?_
  intro hF hM
  refine aN (LH none (p1.1)) clQ clQ (fun hw4=> ?_)
  revert hM;revert hF
  refine slQ ?_
  intro hF hM
  replace hM:=JA hM;obtain ⟨f5,d5,hf5,hd5,hM⟩:=hM
  refine JF (cG p1.1) (fun y5=> [.sl none 32 true (y5.map aF)]) (fun p:List (List Int)=>(⟨[(3,.own 0),(4,.ptr 1 0),(12,.fn 263 [.pp 1 false (.sl none 32 true (p1.1.map aF)),.pp 1 false (.int .i64 2)])],[(0,.own 67 1 false none (p1.2.map (fun (l:List (List Int))=>V.sl none 32 true (l.map aF)))),(1,.var 1 false (.own 2)),(2,.own 28 32 true none (p.map aF))],3⟩:St)) (fun (k5:Nat) (p:List (List Int))=>((p).length=k5)) hM (LK (Ki hF2_0 (by omega))) clQ clQ ⟨rfl,by decide,by decide⟩ (fun _=>rfl) (JU 1 28 rfl (by decide)) sbQ sbQ (by rfl) (fun _ _ _=>rfl) (fun ag5 k5 y5 p5 r5 K5 hy5 hk5 hf5a hM hN5 hR5=> ?_) (fun p5 hf5a hM=> ?_)
  ·replace hM:=JB hM hf5
   have hF6_0:=hf5a
   have hl5:=C0 hy5
   have hc5:=DB (l:=p1.1)
   refine JD (S':=(⟨[(5,.sl none 32 true (y5.map aF)),(13,.sl none 32 true (y5.map aF)),(3,.own 0),(4,.ptr 1 0),(12,.fn 263 [.pp 1 false (.sl none 32 true (p1.1.map aF)),.pp 1 false (.int .i64 2)]),(100003,.own 0),(100004,.ptr 1 0),(100012,.fn 263 [.pp 1 false (.sl none 32 true (p1.1.map aF)),.pp 1 false (.int .i64 2)])],[(0,.own 67 1 false none (p1.2.map (fun (l:List (List Int))=>V.sl none 32 true (l.map aF)))),(1,.var 1 false (.own 2)),(2,.own 28 32 true none (p5.map aF))],3⟩:St)) rfl ?_
   revert hM;revert hF
   refine slQ ?_
   refine ax fun x8 _ _ _=> ?_
   intro hF hM
   try rw [wM]
   exact (hN5 (p5++([x8]:List (List Int))) _ (JC (by first|rfl|(simp only [dnF,bU,List.filterMap_cons,List.filterMap_nil,Nat.reduceLeDiff,if_true,if_false,↓reduceIte,Nat.reduceSub];exact sbQ)) sbQ) (by simp only [List.length_append,List.length_cons,List.length_nil,hF6_0]) hM)
  ·replace hM:=sx hM hd5
   have hF6_0:=hf5a
   revert hM;revert hF
   refine slQ ?_
   intro hF hM
   refine gH _ (⟨[(3,.own 0),(4,.ptr 1 0)],[(0,.own 67 1 false none (p1.2.map (fun (l:List (List Int))=>V.sl none 32 true (l.map aF)))),(1,.var 1 false (.sl none 32 true (p5.map aF))),(2,.pown 32 true none (p5.map aF))],3⟩:St) ((ls (S:=⟨_,_,_⟩) 2 (T:=28) (n:=32) (g:=true) (z:=none) (l:=p5.map aF) clQ).trans (Ka (S:=⟨_,_,_⟩) 1 2 (n:=32) (g:=true) (z:=none) (m:=p5.map aF) clQ clQ)) sbQ sbQ ?_
   revert hM;revert hF
   refine slQ ?_
   intro hF hM
   refine aE (n1 - 1) _ (by omega) sbQ sbQ ⟨(p5,(p1.2++([p5]:List (List (List Int))))),rfl,⟨by exact Kj hF2_0 (by omega) hF6_0,by (have h9:=C1 hF2_0 (by omega) hF6_0;simp only [List.length_append,List.length_cons,List.length_nil];omega)⟩,by (have h9:=C1 hF2_0 (by omega) hF6_0;dsimp only;omega),aD hM hag1⟩
 ·intro hF hM
  replace hM:=ar hM;obtain ⟨x11,hx12,hM⟩:=hM
  have hcx11:=MU none (p1.2)
  rw [←hx12] at hcx11
  refine J9 hcx11 rfl ?_
  exact auP
instance S_ (l:(List (List Int))) (level:Int) (index:Int):CM En (pY l level index) 196 [.sl none 32 true (l.map aF),.int .i64 level,.int .i64 index] (fun y=> .tup [.sl none 1 false (y.1.map (fun (l:List (List Int))=>V.sl none 32 true (l.map aF))),.int .i64 y.2]) (fun _=> []):=by
 refine enQ noJ Tryz.func196 Tryz.ntmps196 (pY.eq_1 ..) fun r hw=> ?_
 refine ax fun _ _ _ _=> ?_
 refine az fun _ _ _=> ?_
 refine av fun _ _ _=> ?_
 refine av fun _ _ _=> ?_
 refine av fun _ _ _=> ?_
 refine az fun _ _ _=> ?_
 intro hF hM
 replace hM:=ar hM;obtain ⟨x16,hx17,hM⟩:=hM
 have hcx16:=cmH hx17 (MV l (by (exact Ly ‹_=kt _› (by assumption))))
 refine aN hcx16 clQ clQ (fun hw18=> ?_)
 replace hw18:=nzQ hw18
 exact auP
instance Ta (l:(List (List Int))) (level:Int) (index:Int):CM En (yi l level index) 162 [.sl none 32 true (l.map aF),.int .i64 level,.int .i64 index] (fun y=> .tup [(aF y.1),.int .i64 y.2]) (fun _=> []):=by
 refine enQ noJ Tryz.func162 Tryz.ntmps162 (yi.eq_1 ..) fun r hw=> ?_
 refine ax fun _ hx2 _ _=> ?_
 have hq4:=LB hx2
 replace hq4:=nzQ hq4
 exact auR
instance Tb (l:(List (List Int))):CM En (yj l) 131 [.sl none 32 true (l.map aF)] (fun y=> .tup [(aF y.1),.int .i64 y.2]) (fun _=> []):=by
 refine enQ noJ Tryz.func131 Tryz.ntmps131 (yj.eq_1 ..) fun r hw=> ?_
 exact auR
set_option maxRecDepth 512 in
instance (priority:=1032):DRD 1 58 16 [11,12,13,14,15,16,17,18,19,20,21,22,23,24,25,26] [] ([[],[0],[0,1],[0,1,2],[0,1,2,3],[0,1,2,3,4],[0,1,2,3,4,5],[0,1,2,3,4,5,6],[0,1,2,3,4,5,6,7],[0,1,2,3,4,5,6,7,8],[0,1,2,3,4,5,6,7,8,9],[0,1,2,3,4,5,6,7,8,9,10],[0,1,2,3,4,5,6,7,8,9,10,11],[0,1,2,3,4,5,6,7,8,9,10,11,12],[0,1,2,3,4,5,6,7,8,9,10,11],[0,1,2,3,4,5,6,7,8,9,10,11,14]]++[List.range 16,List.range 17]) []:=⟨trivial⟩
instance Tc (h_:(List Int)) (level:Int) (p_:eG):CM En (yk h_ level p_) 163 [(aF h_),.int .i64 level,.agg [.int .i64 p_.Index,.sl none 32 true (p_.L.map aF)]] (fun y=> .tup [(aF y.1),.int .i64 y.2]) (fun _=> []):=by
 refine enQ noJ Tryz.func163 Tryz.ntmps163 (yk.eq_1 ..) fun r hw=> ?_
 refine slQ ?_
 refine av fun _ _ _=> ?_
 refine av fun _ _ _=> ?_
 refine av fun _ _ _=> ?_
 refine az fun _ _ _=> ?_
 refine az fun _ _ _=> ?_
 intro hF hM
 replace hM:=aH hM;obtain ⟨f13,d13,hf13,hd13,hM⟩:=hM
 refine aK (fun n S=> ∃p:Int×Int×(List Int),S=(⟨[(3,.ptr 0 0),(6,.ptr 2 0),(8,.int .i64 p.1),(39,.sl none 32 true (p_.L.map aF)),(40,.int .i64 (p_.L.length:Int)),(41,.int .i64 p.2.1)],[(0,.var 32 true ((aF p.2.2))),(2,.var 32 true (f0))],19⟩:St)∧((0≤p.2.1)∧(p.2.1≤(p_.L.length:Int)))∧((p_.L.length:Int) - p.2.1).toNat<n∧ae n f13 d13 p=r) (((p_.L.length:Int) - 0).toNat+1) _ sbQ sbQ ⟨(p_.Index,0,h_),rfl,⟨omQ,omQ⟩,(Nat.lt_succ_self _),hM⟩ ?_
 clear hM
 rintro n13 S ⟨p13,rfl,hfa13,hm13,hM⟩
 replace hM:=aI hM (by omega) hf13;obtain ⟨ag13,hag13,hM⟩:=hM
 replace hfa13:=nzQ hfa13
 replace hm13:=nzQ hm13
 have ha13:al .i64 p13.2.1 1=p13.2.1+1:=aJ omQ omQ
 replace hF:=(And.intro ha13 hF)
 revert hM;revert hF
 refine slQ ?_
 refine av fun _ _ _=> ?_
 refine cdQ (fun _ _ _=> ?_) (fun _ _ _=> ?_)
 ·refine ax fun x19 _ _ _=> ?_
  intro hF hM
  refine aE (n13 - 1) _ (by omega) sbQ sbQ ⟨((cB .i64 p13.1 2),(p13.2.1+1),x19),rfl,⟨omQ,omQ⟩,omQ,aD hM hag13⟩
 ·refine ax fun x23 _ _ _=> ?_
  intro hF hM
  refine aE (n13 - 1) _ (by omega) sbQ sbQ ⟨((cB .i64 p13.1 2),(p13.2.1+1),x23),rfl,⟨omQ,omQ⟩,omQ,aD hM hag13⟩
instance Td (root:(List Int)) (h_:(List Int)) (level:Int) (p_:eG):CM En (yl root h_ level p_) 132 [(aF root),(aF h_),.int .i64 level,.agg [.int .i64 p_.Index,.sl none 32 true (p_.L.map aF)]] (fun y=> .bool y) (fun _=> []):=by
 refine enQ noJ Tryz.func132 Tryz.ntmps132 (yl.eq_1 ..) fun r hw=> ?_
 exact auR
set_option maxRecDepth 512 in
instance (priority:=1033):DRD 1 120 42 [14,15,16,17,18,19,20,21,22,23,24,25,26,27,28,29,30,31,32,33,34,35,36,37,38,39,40,41,42,43,44,45,46,47,48,49,50,51,52,53,54,55] [] ([[],[],[],[2],[0,1,2,3],[0,1,2,3,4],[0,1,2,3,4,5],[0,1,2,3,4,5,6],[0,1,2,3,4,5,6,7],[0,1,2,3,4,5,6,7,8],[0,1,2,3,4,5,6],[0,1,2,3,4,5,6,10],[0,1,2,3,4,5,6,7,8,9,10,11],[0,1,2,3,4,5,6,7,8,9,10,11,12],[0,1,2,3,4,5,6,7,8,9,10,11,12,13],[0,1,2,3,4,5,6,7,8,9,10,11,12,13,14],[0,1,2,3,4,5,6,7,8,9,10,11,12,13,14,15],[0,1,2,3,4,5,6,7,8,9,10,11,12,13,14,15,16],[0,1,2,3,4,5,6,7,8,9,10,11,12,13,14,15,16,17],[0,1,2,3,4,5,6,7,8,9,10,11,12,13,14,15,16,17,18],[0,1,2,3,4,5,6,7,8,9,10,11,12,13,14,15,16,17,18,19],[0,1,2,3,4,5,6,7,8,9,10,11,12,13,14,15,16,17,18,19,20],[0,1,2,3,4,5,6,7,8,9,10,11,12,13,14,15,16,17,18,19,20,21],[0,1,2,3,4,5,6,7,8,9,10,11,12,13,14,15,16,17,18,19,20,21,22],[0,1,2,3,4,5,6,7,8,9,10,11,12,13,14,15,16,17,18,19,20,21,22,23],[0,1,2,3,4,5,6,7,8,9,10,11,12,13,14,15,16,17,18,19,20,21],[0,1,2,3,4,5,6,7,8,9,10,11,12,13,14,15,16,17,18,19,20,21,25],[0,1,2,3,4,5,6,7,8,9,10,11,12,13,14,15,16,17,18,19,20,21,25,26],[0,1,2,3,4,5,6,7,8,9,10,11,12,13,14,15,16,17,18,19,20,21],[0,1,2,3,4,5,6,7,8,9,10,11,12,13,14,15,16,17,18,19,20,21,28],[0,1,2,3,4,5,6,7,8,9,10,11,12,13,14,15,16,17,18,19,20,21,28,29],[0,1,2,3,4,5,6,7,8,9,10,11,12,13,14,15,16,17,18,19,20,21,25,26,27,28,29,30],[0,1,2,3,4,5,6,7,8,9,10,11,12,13,14,15,16,17,18,19,20,21,25,26,27,28,29,30,31],[0,1,2,3,4,5,6,7,8,9,10,11,12,13,14,15,16,17,18,19,20,21,22,23,24,25,26,27,28,29,30,31,32],[0,1,2,3,4,5,6,7,8,9,10,11,12,13,14,15,16,17,18,19,20,21,22,23,24,25,26,27,28,29,30,31,32,33],[0,1,2,3,4,5,6,7,8,9,10,11,12,13,14,15,16,17,18,19,20,21,22,23,24,25,26,27,28,29,30,31,32,33,34],[0,1,2,3,4,5,6,7,8,9,10,11,12,13,14,15,16,17,18,19,20,21,22,23,24,25,26,27,28,29,30,31,32,33,34,35],[0,1,2,3,4,5,6,7,8,9,10,11,12,13,14,15,16,17,18,19,20,21,22,23,24,25,26,27,28,29,30,31,32,33,34,35,36],[0,1,2,3,4,5,6,7,8,9,10,11,12,13,14,15,16,17,18,19,20,21,22,23,24,25,26,27,28,29,30,31,32,33,34,35,36,37],[0,1,2,3,4,5,6,7,8,9,10,11,12,13,14,15,16,17,18,19,20,21,22,23,24,25,26,27,28,29,30,31,32,33,34,35],[0,1,2,3,4,5,6,7,8,9,10,11,12,13,14,15,16,17,18,19,20,21,22,23,24,25,26,27,28,29,30,31,32,33,34,35,39],[0,1,2,3,4,5,6,7,8,9,10,11,12,13,14,15,16,17,18,19,20,21,22,23,24,25,26,27,28,29,30,31,32,33,34,35,39,40]]++[List.range 42,List.range 43]) []:=⟨trivial⟩
theorem D6 (b:aX) (r_:bg) (s:au) (hp0:fk s):CM En (tw b r_ s) 101 [(bS b),(cP r_),(aM s)] (fun y=> .bool y) (fun _=> []):=by
 refine enQ noJ Tryz.func101 Tryz.ntmps101 (tw.eq_1 ..) fun r hw=> ?_
 have h0_0:=LL hp0
 refine slQ ?_
 refine ax fun _ _ _ _=> ?_
 refine av fun _ _ _=> ?_
 refine ax fun _ _ _ _=> ?_
 refine av fun _ _ _=> ?_
 refine ax fun _ _ _ _=> ?_
 refine av fun _ _ _=> ?_
 have ha14:aB .i64 s.Coin.Depth s.Node.Level=(s.Coin.Depth - s.Node.Level):=dv an an
 intro hF hM
 try simp only [ha14]
 replace hF:=(And.intro ha14 hF)
 revert hM;revert hF
 refine slQ ?_
 refine av fun _ _ _=> ?_
 refine az fun _ _ _=> ?_
 refine ax fun x20 _ _ _=> ?_
 intro hF hM
 replace hM:=aH hM;obtain ⟨f23,d23,hf23,hd23,hM⟩:=hM
 refine dP (fun n S=> ∃p:Int×List Int,S=(⟨[(3,.ptr 0 0),(5,.ptr 2 0),(7,.int .i64 x20),(8,.own 45),(67,.sl none 3 true (s.Leaves.map dD)),(68,.int .i64 (s.Leaves.length:Int)),(69,.int .i64 p.1)],[(0,.var 6 true ((bS b))),(2,.var 80 true ((aM s))),(45,.own 3 1 false none (p.2.map (V.int .i64)))],46⟩:St)∧((0≤p.1)∧(p.1≤(s.Leaves.length:Int))∧(((p.2).length:Int)≤p.1))∧((s.Leaves.length:Int) - p.1).toNat<n∧ae n f23 d23 p=r) (((s.Leaves.length:Int) - 0).toNat+1) _ _ (fU 8 3 rfl (by decide)) sbQ sbQ ⟨(0,([]:List Int)),rfl,⟨omQ,omQ,omQ⟩,(Nat.lt_succ_self _),hM⟩ ?_
 clear hM
 rintro n23 S ⟨p23,rfl,hfa23,hm23,hM⟩
 replace hM:=aI hM (by omega) hf23;obtain ⟨ag23,hag23,hM⟩:=hM
 replace hfa23:=nzQ hfa23
 replace hm23:=nzQ hm23
 have ha23:al .i64 p23.1 1=p23.1+1:=aJ omQ omQ
 replace hF:=(And.intro ha23 hF)
 revert hM;revert hF
 refine slQ ?_
 refine cdQ (fun _ _ _=> ?_) (fun _ _ _=> ?_)
 ·refine ax fun _ _ _ _=> ?_
  refine av fun _ _ _=> ?_
  refine ax fun _ _ _ _=> ?_
  refine az fun _ _ _=> ?_
  intro hF hM
  refine aE (n23 - 1) _ (by omega) sbQ sbQ ⟨((p23.1+1),(p23.2++([(gt s.Leaves p23.1).B]:List Int))),rfl,⟨omQ,omQ,omQ⟩,omQ,aD hM hag23⟩
 ·intro hF hM
  replace hM:=ar hM;obtain ⟨x38,hx39,hM⟩:=hM
  have hcx38:=cmU hx39
  refine lv hcx38 (ie 45 (T:=3) (n:=1) (g:=false) (z:=none) (l:=p23.2.map (V.int .i64)) (ao hF)) (ao hF) (fun hw40=> ?_)
  replace hw40:=nzQ hw40
  exact auP
theorem MW (h_:bh) (hp0:nS h_):CM En (gL h_) 133 [(bf h_)] (fun y=> .sl none 80 true (y.map aM)) (fun _=> []):=by
 refine enQ noJ Tryz.func133 Tryz.ntmps133 (gL.eq_1 ..) fun r hw=> ?_
 have h0_0:=DG hp0
 exact auR
instance Te (l:(List bg)) (c:bv):CM En (tx l c) 134 [.sl none 11 true (l.map cP),(dT c)] (fun y=> .tup [(cP y.1),.bool y.2]) (fun _=> []):=by
 refine enQ noJ Tryz.func134 Tryz.ntmps134 (tx.eq_1 ..) fun r hw=> ?_
 refine ax fun _ hx2 _ _=> ?_
 have hq4:=DJ hx2
 replace hq4:=nzQ hq4
 exact auR
set_option maxRecDepth 512 in
instance (priority:=1034):DRD 13 74 26 [45,46,47,48,49,50,51,52,53,54,55,56,57,58,59,60,61,62,63,64,65,66,67,68,69,70] [] ([[],[0],[0,1],[],[3],[3,4],[],[6],[6,7],[3,4,5,6,7,8],[0,1,2,3,4,5,6,7,8,9],[],[11],[11,12],[0,1,2,3,4,5,6,7,8,9,10,11,12,13],[],[15],[15,16],[],[18],[18,19],[15,16,17,18,19,20],[0,1,2,3,4,5,6,7,8,9,10,11,12,13,14,15,16,17,18,19,20,21],[],[0,1,2,3,4,5,6,7,8,9,10,11,12,13,14,15,16,17,18,19,20,21,22,23],[]]++[List.range 26,List.range 27,List.range 28,List.range 29]) [(9,13),(21,25)]:=⟨trivial⟩
theorem MX (s:au) (hp0:DF s):CM En (nE s) 233 [(aM s)] (fun y=> .agg [.int .i64 y.Kind,.int .i64 y.N,.sl none 1 false (y.B.map (V.int .u8)),.sl none 4 true (y.L.map bu)]) (fun _=> []):=by
 refine enQ [13] Tryz.func233 Tryz.ntmps233 (nE.eq_1 ..) fun r hw=> ?_
 have hG0:=hp0.1
 have hG1:=hp0.2
 intro hF hM
 replace hM:=aH hM;obtain ⟨f1,d1,hf1,hd1,hM⟩:=hM
 refine dP (fun n S=> ∃p:Int×List Int,S=(⟨[(1,.ptr 0 0),(2,.ptr 1 0),(3,.own 2),(10,.sl none 3 true (s.Leaves.map dD)),(11,.int .i64 (s.Leaves.length:Int)),(12,.int .i64 p.1)],[(0,.var 80 true ((aM s))),(1,.var 4 true (.agg [.int .i64 0,.int .i64 0,.sl (some true) 1 false [],.sl (some true) 4 true []])),(2,.own 3 1 false none (p.2.map (V.int .i64)))],3⟩:St)∧((0≤p.1)∧(p.1≤(s.Leaves.length:Int))∧(((p.2).length:Int)=3*p.1))∧((s.Leaves.length:Int) - p.1).toNat<n∧ae n f1 d1 p=r) (((s.Leaves.length:Int) - 0).toNat+1) _ _ (fU 3 3 rfl (by decide)) sbQ sbQ ⟨(0,([]:List Int)),rfl,⟨by exact omA,by exact omA,by exact omA⟩,(Nat.lt_succ_self _),hM⟩ ?_
 clear hM
 rintro n1 S ⟨p1,rfl,hfa1,hm1,hM⟩
 replace hM:=aI hM (by omega) hf1;obtain ⟨ag1,hag1,hM⟩:=hM
 replace hfa1:=nzQ hfa1
 replace hm1:=nzQ hm1
 have ha1:al .i64 p1.1 1=p1.1+1:=aJ (by exact omA) (by exact omA)
 replace hF:=(And.intro ha1 hF)
 revert hM;revert hF
 refine slQ ?_
 refine az fun _ _ _=> ?_
 intro hF hM
 refine fX ?_
 revert hM;revert hF
 refine slQ ?_
 intro hF hM
 replace hM:=aH hM;obtain ⟨f6,d6,hf6,hd6,hM⟩:=hM
 refine aK (fun n S=> ∃p:Int×List am,S=(⟨[(1,.ptr 0 0),(2,.ptr 1 0),(3,.own 2),(6,.own 3),(33,.sl none 32 true (s.Path.L.map aF)),(34,.int .i64 (s.Path.L.length:Int)),(35,.int .i64 p.1)],[(0,.var 80 true ((aM s))),(1,.var 4 true (.agg [.int .i64 0,.int .i64 0,.sl (some true) 1 false [],.sl (some true) 4 true []])),(2,.own 3 1 false none (p1.2.map (V.int .i64))),(3,.own 222 4 true none (p.2.map bu))],4⟩:St)∧((0≤p.1)∧(p.1≤(s.Path.L.length:Int))∧(((p.2).length:Int)≤p.1+(([({Kind:=1,N:=s.Path.Index,B:=([]:List Int),L:=([]:List am)}:am)]:List am)).length))∧((s.Path.L.length:Int) - p.1).toNat<n∧ae n f6 d6 p=r) (((s.Path.L.length:Int) - 0).toNat+1) _ sbQ sbQ ⟨(0,([({Kind:=1,N:=s.Path.Index,B:=([]:List Int),L:=([]:List am)}:am)]:List am)),rfl,⟨by exact omA,by exact omA,by exact omA⟩,(Nat.lt_succ_self _),hM⟩ ?_
 clear hM
 rintro n6 S ⟨p6,rfl,hfa6,hm6,hM⟩
 replace hM:=aI hM (by omega) hf6;obtain ⟨ag6,hag6,hM⟩:=hM
 replace hfa6:=nzQ hfa6
 replace hm6:=nzQ hm6
 have ha6:al .i64 p6.1 1=p6.1+1:=aJ (by exact omA) (by exact omA)
 replace hF:=(And.intro ha6 hF)
 revert hM;revert hF
 refine slQ ?_
 refine az fun _ _ _=> ?_
 intro hF hM
 refine gH _ (⟨[(1,.ptr 0 0),(2,.ptr 1 0),(3,.sl none 1 false (p1.2.map (V.int .i64))),(6,.sl none 4 true (p6.2.map bu))],[(0,.var 80 true ((aM s))),(1,.var 4 true (.agg [.int .i64 0,.int .i64 0,.sl (some true) 1 false [],.sl (some true) 4 true []])),(2,.pown 1 false none (p1.2.map (V.int .i64))),(3,.pown 4 true none (p6.2.map bu))],4⟩:St) ((((ls (S:=⟨_,_,_⟩) 2 (T:=3) (n:=1) (g:=false) (z:=none) (l:=p1.2.map (V.int .i64)) (ao hF)).trans (wU (S:=⟨_,_,_⟩) 3 2 (n:=1) (g:=false) (z:=none) (l:=p1.2.map (V.int .i64)) (ao hF) (ao hF))).trans (ls (S:=⟨_,_,_⟩) 3 (T:=222) (n:=4) (g:=true) (z:=none) (l:=p6.2.map bu) (ao hF))).trans (wU (S:=⟨_,_,_⟩) 6 3 (n:=4) (g:=true) (z:=none) (l:=p6.2.map bu) (ao hF) (ao hF))) sbQ sbQ ?_
 revert hM;revert hF
 refine slQ ?_
 refine ax fun x14 _ _ _=> ?_
 refine ax fun x16 _ _ _=> ?_
 refine ax fun x18 _ _ _=> ?_
 refine ax fun x20 _ _ _=> ?_
 refine ax fun x22 _ _ _=> ?_
 refine ax fun x24 _ _ _=> ?_
 intro hF hM
 replace hM:=ar hM;obtain ⟨x27,hx28,hM⟩:=hM
 have hcx27:=cmU hx28
 refine lv hcx27 (ie 30 (T:=222) (n:=4) (g:=true) (z:=(some false)) (l:=([x14,x16,x18,x20,x22,x24]:List am).map bu) (ao hF)) (ao hF) (fun hw29=> ?_)
 replace hw29:=nzQ hw29
 exact auP
theorem MY (s:au) (hp0:fk s):CM En (ym s) 199 [(aM s)] (fun y=>(aF y)) (fun _=> []):=by
 refine enQ noJ Tryz.func199 Tryz.ntmps199 (ym.eq_1 ..) fun r hw=> ?_
 intro hF hM
 replace hM:=ar hM;obtain ⟨x1,hx2,hM⟩:=hM
 have hcx1:=cmH hx2 (MX s (by (exact LM hp0)))
 refine aN hcx1 clQ clQ (fun hw3=> ?_)
 replace hw3:=nzQ hw3
 revert hM;revert hF
 refine slQ ?_
 have hq4:=LQ hp0 hx2
 replace hq4:=nzQ hq4
 intro hF hM
 replace hM:=ar hM;obtain ⟨x5,hx6,hM⟩:=hM
 have hcx5:=cmH hx6 (kC x1 (by (exact pfQ)))
 refine aN hcx5 clQ clQ (fun hw7=> ?_)
 replace hw7:=nzQ hw7
 revert hM;revert hF
 refine slQ ?_
 have hq8:=kA hx6
 replace hq8:=nzQ hq8
 refine az fun _ _ _=> ?_
 intro hF hM
 replace hM:=ar hM;obtain ⟨x12,hx13,hM⟩:=hM
 have hcx12:=cmH hx13 (iC ([115,112,101,99,105,101,47,115,112,101,110,100,45,105,116,101,109]) (x5.1) (by (exact pfQ)))
 refine aN hcx12 clQ clQ (fun hw14=> ?_)
 replace hw14:=nzQ hw14
 exact auP
set_option maxRecDepth 512 in
instance (priority:=1035):DRD 5 40 6 [19,20,21,22,23,24] [] ([[],[0],[],[2],[2,3],[2,3,4]]++[List.range 6,List.range 7,List.range 8]) []:=⟨trivial⟩
theorem D7 (tag:(List UInt8)) (l:(List (List Int))) (hp0:l.length≤40):CM En (tz tag l) 198 [.str tag,.sl none 32 true (l.map aF)] (fun y=>(aF y)) (fun _=> []):=by
 refine enQ [5] Tryz.func198 Tryz.ntmps198 (tz.eq_1 ..) fun r hw=> ?_
 intro hF hM
 replace hM:=aH hM;obtain ⟨f1,d1,hf1,hd1,hM⟩:=hM
 refine dP (fun n S=> ∃p:Int×List am,S=(⟨[(0,.str tag),(4,.ptr 0 0),(5,.ptr 1 0),(13,.sl none 32 true (l.map aF)),(14,.int .i64 (l.length:Int)),(15,.int .i64 p.1)],[(0,.var 32 true (f0)),(1,.var 4 true (.agg [.int .i64 3,.int .i64 0,.sl (some true) 1 false [],.own 2])),(2,.own 222 4 true none (p.2.map bu))],3⟩:St)∧(((0≤p.1)∧(p.1≤(l.length:Int))∧(((p.2).length:Int)≤p.1))∧((bL (p.2):Int)≤40*p.1))∧((l.length:Int) - p.1).toNat<n∧ae n f1 d1 p=r) (((l.length:Int) - 0).toNat+1) _ _ (mY 1 3 222 rfl rfl (by decide)) sbQ sbQ ⟨(0,([]:List am)),rfl,⟨⟨omQ,omQ,omQ⟩,by (simp only [bL];omega)⟩,(Nat.lt_succ_self _),hM⟩ ?_
 clear hM
 rintro n1 S ⟨p1,rfl,⟨hfa1,hF3_0⟩,hm1,hM⟩
 replace hM:=aI hM (by omega) hf1;obtain ⟨ag1,hag1,hM⟩:=hM
 replace hfa1:=nzQ hfa1
 replace hm1:=nzQ hm1
 have ha1:al .i64 p1.1 1=p1.1+1:=aJ omQ omQ
 replace hF:=(And.intro ha1 hF)
 revert hM;revert hF
 refine slQ ?_
 refine cdQ (fun _ _ _=> ?_) (fun _ _ _=> ?_)
 ·intro hF hM
  refine fX ?_
  revert hM;revert hF
  refine slQ ?_
  intro hF hM
  refine gH _ (⟨[(0,.str tag),(4,.ptr 0 0),(5,.ptr 1 0),(7,.ptr 3 0),(13,.sl none 32 true (l.map aF)),(14,.int .i64 (l.length:Int)),(15,.int .i64 p1.1)],[(0,.var 32 true (f0)),(1,.var 4 true (.agg [.int .i64 3,.int .i64 0,.sl (some true) 1 false [],.own 2])),(2,.own 222 4 true none (p1.2.map bu)),(3,.pvar 32 true ((aF (gt l p1.1))))],4⟩:St) (ib (S:=⟨_,_,_⟩) 3 (n:=32) (g:=true) (d:=(aF (gt l p1.1))) (ao hF) (ao hF)) sbQ sbQ ?_
  revert hM;revert hF
  refine slQ ?_
  intro hF hM
  replace hM:=ar hM;obtain ⟨x5,hx6,hM⟩:=hM
  have hcx5:=aV.pub ((zu (some false) (bc 32 (gt l p1.1))))
  rw [←hx6] at hcx5
  refine bA hcx5 (ao hF) (ao hF) ?_
  revert hM;revert hF
  refine slQ ?_
  have hq7:=LP hx6
  replace hq7:=nzQ hq7
  refine slQ ?_
  intro hF hM
  refine aE (n1 - 1) _ (by omega) sbQ sbQ ⟨((p1.1+1),(p1.2++([({Kind:=2,N:=0,B:=x5,L:=([]:List am)}:am)]:List am))),rfl,⟨⟨omQ,omQ,omQ⟩,by (clear hM;simp only [qo,bL,hgt,List.length_append,List.length_cons,List.length_nil];omega)⟩,omQ,aD hM hag1⟩
 ·intro hF hM
  replace hM:=ar hM;obtain ⟨x9,hx10,hM⟩:=hM
  have hcx9:=cmH hx10 (kC ({Kind:=3,N:=0,B:=([]:List Int),L:=p1.2}:am) (by (simp only [hgt,List.length_nil];omega)))
  refine lv hcx9 (ie 2 (T:=222) (n:=4) (g:=true) (z:=none) (l:=p1.2.map bu) (ao hF)) (ao hF) (fun hw11=> ?_)
  replace hw11:=nzQ hw11
  revert hM;revert hF
  refine slQ ?_
  have hq12:=kA hx10
  replace hq12:=nzQ hq12
  intro hF hM
  replace hM:=ar hM;obtain ⟨x13,hx14,hM⟩:=hM
  have hcx13:=cmH hx14 (iC tag (x9.1) (by (exact pfQ)))
  refine aN hcx13 (ao hF) (ao hF) (fun hw15=> ?_)
  replace hw15:=nzQ hw15
  exact auP
theorem MZ (l:(List au)) (hp0:qp l):CM En (yn l) 165 [.sl none 80 true (l.map aM)] (fun y=>(aF y)) (fun _=> []):=by
 refine enQ noJ Tryz.func165 Tryz.ntmps165 (yn.eq_1 ..) fun r hw=> ?_
 have h0_0:=hp0.1
 refine az fun _ _ _=> ?_
 intro hF hM
 replace hM:=aH hM;obtain ⟨f4,d4,hf4,hd4,hM⟩:=hM
 refine dP (fun n S=> ∃p:Int×List (List Int),S=(⟨[(2,.ptr 0 0),(3,.own 1),(10,.sl none 80 true (l.map aM)),(11,.int .i64 (l.length:Int)),(12,.int .i64 p.1)],[(0,.var 32 true (f0)),(1,.own 28 32 true none (p.2.map aF))],2⟩:St)∧((0≤p.1)∧(p.1≤(l.length:Int))∧(((p.2).length:Int)≤p.1))∧((l.length:Int) - p.1).toNat<n∧ae n f4 d4 p=r) (((l.length:Int) - 0).toNat+1) _ _ (fU 3 28 rfl (by decide)) sbQ sbQ ⟨(0,([]:List (List Int))),rfl,⟨omQ,omQ,omQ⟩,(Nat.lt_succ_self _),hM⟩ ?_
 clear hM
 rintro n4 S ⟨p4,rfl,hfa4,hm4,hM⟩
 replace hM:=aI hM (by omega) hf4;obtain ⟨ag4,hag4,hM⟩:=hM
 replace hfa4:=nzQ hfa4
 replace hm4:=nzQ hm4
 have ha4:al .i64 p4.1 1=p4.1+1:=aJ omQ omQ
 replace hF:=(And.intro ha4 hF)
 revert hM;revert hF
 refine slQ ?_
 refine cdQ (fun _ _ _=> ?_) (fun _ _ _=> ?_)
 ·intro hF hM
  replace hM:=ar hM;obtain ⟨x8,hx9,hM⟩:=hM
  have hcx8:=cmH hx9 (MY (gt l p4.1) (by (exact hp0.2 _ (bG (by omega)))))
  refine aN hcx8 (ao hF) (ao hF) (fun hw10=> ?_)
  replace hw10:=nzQ hw10
  revert hM;revert hF
  refine slQ ?_
  intro hF hM
  refine aE (n4 - 1) _ (by omega) sbQ sbQ ⟨((p4.1+1),(p4.2++([x8]:List (List Int)))),rfl,⟨omQ,omQ,omQ⟩,omQ,aD hM hag4⟩
 ·intro hF hM
  replace hM:=ar hM;obtain ⟨x12,hx13,hM⟩:=hM
  have hcx12:=cmH hx13 (D7 ([115,112,101,99,105,101,47,99,104,97,105,110]) (p4.2) (by (exact pfQ)))
  refine fx hcx12 (ao hF) (ao hF) (fun hw14=> ?_)
  replace hw14:=nzQ hw14
  exact auP
set_option maxRecDepth 512 in
instance (priority:=1036):DRD 1 10 3 [5,6,7] [] ([[],[0],[]]++[List.range 3,List.range 4,List.range 5]) []:=⟨trivial⟩
instance Tf (c:bv) (before:(List Int)):CM En (yo c before) 164 [(dT c),(aF before)] (fun y=>(aF y)) (fun _=> []):=by
 refine enQ noJ Tryz.func164 Tryz.ntmps164 (yo.eq_1 ..) fun r hw=> ?_
 refine slQ ?_
 refine ax fun x1 _ _ _=> ?_
 intro hF hM
 replace hM:=ar hM;obtain ⟨x3,hx4,hM⟩:=hM
 have hcx3:=cmH hx4 (D7 ([115,112,101,99,105,101,47,99,104,97,105,110,45,110,101,120,116]) ([x1,before]:List (List Int)) (by (exact pfQ)))
 refine fx hcx3 clQ clQ (fun hw5=> ?_)
 replace hw5:=nzQ hw5
 exact auP
set_option maxRecDepth 512 in
instance (priority:=1037):DRD 3 30 13 [15,16,17,18,19,20,21,22,23,24,25,26,27] [] ([[],[0],[],[0,1,2],[0,1,2,3],[0,1,2,3,4],[0,1,2,3,4,5],[0,1,2,3,4],[0,1,2,3,4],[0,1,2,3,4],[0,1,2,3,4,8,9],[0,1,2,3,4,8,9,10],[0,1,2,3,4,7,8,9,10,11]]++[List.range 13,List.range 14,List.range 15]) []:=⟨trivial⟩
theorem D8 (l:(List au)) (next:bv) (hp0:qp l) (hp1:1≤l.length):CM En (nF l next) 135 [.sl none 80 true (l.map aM),(dT next)] (fun y=> .bool y) (fun _=> []):=by
 refine enQ noJ Tryz.func135 Tryz.ntmps135 (nF.eq_1 ..) fun r hw=> ?_
 have h0_0:=hp0.1
 have ha1:aB .i64 (l.length:Int) 1=((l.length:Int) - 1):=dv an an
 intro hF hM
 try simp only [ha1]
 replace hF:=(And.intro ha1 hF)
 revert hM;revert hF
 refine slQ ?_
 refine av fun _ _ _=> ?_
 intro hF hM
 replace hM:=ar hM;obtain ⟨x5,hx6,hM⟩:=hM
 have hcx5:=cmH hx6 (MZ (sl l 0 ((l.length:Int) - 1)) (by (exact qq hp0)))
 refine bA hcx5 (ao hF) (ao hF) ?_
 exact auP
set_option maxRecDepth 512 in
instance (priority:=1038):DRD 12 92 21 [67,68,69,70,71,72,73,74,75,76,77,78,79,80,81,82,83,84,85,86,87] [] ([[],[0],[0,1],[0,1,2],[0,1,2],[0,1,2,3,4],[0,1,2],[0,1,2,6],[0,1,2,3,4,5,6,7],[0,1,2,3,4,5,6,7,8],[0,1,2,3,4,5,6,7,8,9],[0,1,2,3,4,5,6,7,8,9,10],[0,1,2,3,4,5,6,7,8,9,10,11],[0,1,2,3,4,5,6,7,8,9,10,11,12],[0,1,2,3,4,5,6,7,8,9,10],[0,1,2,3,4,5,6,7,8,9,10],[0,1,2,3,4,5,6,7,8,9,10,15],[0,1,2,3,4,5,6,7,8,9,10,14,15,16],[0,1,2,3,4,5,6,7,8,9,10,14,15,16,17],[0,1,2,3,4,5,6,7,8,9,10,14,15,16,17,18],[0,1,2,3,4,5,6,7,8,9,10,14,15,16,17,18,19]]++[List.range 21,List.range 22,List.range 23]) []:=⟨trivial⟩
theorem M0 (b:aX) (l:(List bg)) (h_:bh) (hp0:nS h_):CM En (yp b l h_) 102 [(bS b),.sl none 11 true (l.map cP),(bf h_)] (fun y=> .bool y) (fun _=> []):=by
 refine enQ noJ Tryz.func102 Tryz.ntmps102 (yp.eq_1 ..) fun r hw=> ?_
 have h0_0:=DG hp0
 refine ax fun _ _ _ _=> ?_
 refine av fun _ _ _=> ?_
 refine az fun _ _ _=> ?_
 intro hF hM
 replace hM:=ar hM;obtain ⟨x9,hx10,hM⟩:=hM
 have hcx9:=cmH hx10 (MW h_ (by (exact hp0)))
 refine aN hcx9 clQ clQ (fun hw11=> ?_)
 replace hw11:=nzQ hw11
 revert hM;revert hF
 refine slQ ?_
 have hq12:=DI hx10
 replace hq12:=nzQ hq12
 intro hF hM
 replace hM:=aH hM;obtain ⟨f13,d13,hf13,hd13,hM⟩:=hM
 refine aK (fun n S=> ∃p:Int,S=(⟨[(1,.sl none 11 true (l.map cP)),(3,.ptr 0 0),(7,.sl none 80 true (x9.map aM)),(23,.sl none 80 true (x9.map aM)),(24,.int .i64 (x9.length:Int)),(25,.int .i64 p)],[(0,.var 6 true ((bS b)))],2⟩:St)∧((0≤p)∧(p≤(x9.length:Int)))∧((x9.length:Int) - p).toNat<n∧ae n f13 d13 p=r) (((x9.length:Int) - 0).toNat+1) _ sbQ sbQ ⟨0,rfl,⟨omQ,omQ⟩,(Nat.lt_succ_self _),hM⟩ ?_
 clear hM
 rintro n13 S ⟨p13,rfl,hfa13,hm13,hM⟩
 replace hM:=aI hM (by omega) hf13;obtain ⟨ag13,hag13,hM⟩:=hM
 replace hfa13:=nzQ hfa13
 replace hm13:=nzQ hm13
 have ha13:al .i64 p13 1=p13+1:=aJ omQ omQ
 replace hF:=(And.intro ha13 hF)
 revert hM;revert hF
 refine slQ ?_
 refine av fun _ _ _=> ?_
 refine ax fun x17 _ _ _=> ?_
 refine av fun _ _ _=> ?_
 intro hF hM
 replace hM:=ar hM;obtain ⟨x22,hx23,hM⟩:=hM
 have hcx22:=cmH hx23 (D6 b (x17.1) (gt x9 p13) (by (exact (qr hp0 ‹_=gL _›).2 _ (bG (by omega)))))
 refine aN hcx22 (ao hF) (ao hF) (fun hw24=> ?_)
 replace hw24:=nzQ hw24
 revert hM;revert hF
 refine slQ ?_
 refine az fun _ _ _=> ?_
 refine cdQ (fun _ _ _=> ?_) (fun _ _ _=> ?_)
 ·refine av fun _ _ _=> ?_
  refine cdQ (fun h32 _ _=> ?_) (fun h32 _ _=> ?_)
  ·refine av fun _ _ _=> ?_
   refine az fun _ _ _=> ?_
   intro hF hM
   rw [if_pos h32] at hM
   revert hM;revert hF
   refine slQ ?_
   intro hF hM
   replace hM:=ar hM;obtain ⟨x39,hx40,hM⟩:=hM
   have hcx39:=cmH hx40 (D8 (sl x9 0 p13) ((gt x9 p13).Coin) (by (first|exact qq (qr hp0 ‹_=gL _›)|(clear hM;exact an))) (by (first|exact qq (qr hp0 ‹_=gL _›)|(clear hM;exact an))))
   refine bA hcx39 (ao hF) (ao hF) ?_
   revert hM;revert hF
   refine slQ ?_
   refine av fun _ _ _=> ?_
   have ha43:aB .i64 p13 1=(p13 - 1):=dv an an
   intro hF hM
   try simp only [ha43]
   replace hF:=(And.intro ha43 hF)
   revert hM;revert hF
   refine slQ ?_
   refine az fun _ _ _=> ?_
   intro hF hM
   refine aE (n13 - 1) _ (by omega) sbQ sbQ ⟨(p13+1),rfl,⟨omQ,omQ⟩,omQ,aD hM hag13⟩
  ·intro hF hM
   rw [if_neg (bN h32)] at hM
   revert hM;revert hF
   refine slQ ?_
   intro hF hM
   refine aE (n13 - 1) _ (by omega) sbQ sbQ ⟨(p13+1),rfl,⟨omQ,omQ⟩,omQ,aD hM hag13⟩
 ·refine cdQ (fun h63 _ _=> ?_) (fun h63 _ _=> ?_)
  ·refine av fun _ _ _=> ?_
   refine az fun _ _ _=> ?_
   intro hF hM
   rw [if_pos h63] at hM
   revert hM;revert hF
   refine slQ ?_
   intro hF hM
   replace hM:=ar hM;obtain ⟨x70,hx71,hM⟩:=hM
   have hcx70:=cmH hx71 (D8 (sl x9 0 p13) ((gt x9 p13).Coin) (by (first|exact qq (qr hp0 ‹_=gL _›)|(clear hM;exact an))) (by (first|exact qq (qr hp0 ‹_=gL _›)|(clear hM;exact an))))
   refine bA hcx70 (ao hF) (ao hF) ?_
   revert hM;revert hF
   refine slQ ?_
   refine av fun _ _ _=> ?_
   have ha74:aB .i64 p13 1=(p13 - 1):=dv an an
   intro hF hM
   try simp only [ha74]
   replace hF:=(And.intro ha74 hF)
   revert hM;revert hF
   refine slQ ?_
   refine az fun _ _ _=> ?_
   intro hF hM
   refine aE (n13 - 1) _ (by omega) sbQ sbQ ⟨(p13+1),rfl,⟨omQ,omQ⟩,omQ,aD hM hag13⟩
  ·intro hF hM
   rw [if_neg (bN h63)] at hM
   revert hM;revert hF
   refine slQ ?_
   intro hF hM
   refine aE (n13 - 1) _ (by omega) sbQ sbQ ⟨(p13+1),rfl,⟨omQ,omQ⟩,omQ,aD hM hag13⟩
theorem M2 (k_:ci) (hp0:okK k_):CM En (nG k_) 57 [(bE k_)] (fun y=> .bool y) (fun _=> []):=by
 refine enQ noJ Tryz.func57 Tryz.ntmps57 (nG.eq_1 ..) fun r hw=> ?_
 have h0_0:=fH hp0
 intro hF hM
 replace hM:=aH hM;obtain ⟨f1,d1,hf1,hd1,hM⟩:=hM
 refine aK (fun n S=> ∃p:Int,S=(⟨[(1,.ptr 0 0),(11,.sl none 80 true (k_.p.Spends.map aM)),(12,.int .i64 (k_.p.Spends.length:Int)),(13,.int .i64 p)],[(0,.var 47 true ((bE k_)))],1⟩:St)∧((0≤p)∧(p≤(k_.p.Spends.length:Int)))∧((k_.p.Spends.length:Int) - p).toNat<n∧ae n f1 d1 p=r) (((k_.p.Spends.length:Int) - 0).toNat+1) _ sbQ sbQ ⟨0,rfl,⟨omQ,omQ⟩,(Nat.lt_succ_self _),hM⟩ ?_
 clear hM
 rintro n1 S ⟨p1,rfl,hfa1,hm1,hM⟩
 replace hM:=aI hM (by omega) hf1;obtain ⟨ag1,hag1,hM⟩:=hM
 replace hfa1:=nzQ hfa1
 replace hm1:=nzQ hm1
 have ha1:al .i64 p1 1=p1+1:=aJ omQ omQ
 replace hF:=(And.intro ha1 hF)
 revert hM;revert hF
 refine slQ ?_
 refine cdQ (fun _ _ _=> ?_) (fun _ _ _=> ?_)
 ·intro hF hM
  replace hM:=ar hM;obtain ⟨x5,hx6,hM⟩:=hM
  have hcx5:=cmH hx6 (ug k_ ((gt k_.p.Spends p1).Coin) (by (exact hp0)))
  refine aN hcx5 (ao hF) (ao hF) (fun hw7=> ?_)
  replace hw7:=nzQ hw7
  revert hM;revert hF
  refine slQ ?_
  intro hF hM
  replace hM:=ar hM;obtain ⟨x8,hx9,hM⟩:=hM
  have hcx8:=cmH hx9 (D6 (k_.b) (x5.1) (gt k_.p.Spends p1) (by (exact hp0.2.s.2 _ (bG (by omega)))))
  refine aN hcx8 (ao hF) (ao hF) (fun hw10=> ?_)
  replace hw10:=nzQ hw10
  revert hM;revert hF
  refine slQ ?_
  refine az fun _ _ _=> ?_
  intro hF hM
  refine aE (n1 - 1) _ (by omega) sbQ sbQ ⟨(p1+1),rfl,⟨omQ,omQ⟩,omQ,aD hM hag1⟩
 ·intro hF hM
  replace hM:=aH hM;obtain ⟨f15,d15,hf15,hd15,hM⟩:=hM
  refine aK (fun n S=> ∃p:Int,S=(⟨[(1,.ptr 0 0),(33,.sl none 81 true (k_.p.Chains.map bf)),(34,.int .i64 (k_.p.Chains.length:Int)),(35,.int .i64 p)],[(0,.var 47 true ((bE k_)))],1⟩:St)∧((0≤p)∧(p≤(k_.p.Chains.length:Int)))∧((k_.p.Chains.length:Int) - p).toNat<n∧ae n f15 d15 p=r) (((k_.p.Chains.length:Int) - 0).toNat+1) _ sbQ sbQ ⟨0,rfl,⟨omQ,omQ⟩,(Nat.lt_succ_self _),hM⟩ ?_
  clear hM
  rintro n15 S ⟨p15,rfl,hfa15,hm15,hM⟩
  replace hM:=aI hM (by omega) hf15;obtain ⟨ag15,hag15,hM⟩:=hM
  replace hfa15:=nzQ hfa15
  replace hm15:=nzQ hm15
  have ha15:al .i64 p15 1=p15+1:=aJ omQ omQ
  replace hF:=(And.intro ha15 hF)
  revert hM;revert hF
  refine slQ ?_
  refine av fun _ _ _=> ?_
  intro hF hM
  replace hM:=ar hM;obtain ⟨x19,hx20,hM⟩:=hM
  have hcx19:=cmH hx20 (M0 (k_.b) (k_.l) (gt k_.p.Chains p15) (by (exact hp0.2.c.2 _ (bG (by omega)))))
  refine aN hcx19 (ao hF) (ao hF) (fun hw21=> ?_)
  replace hw21:=nzQ hw21
  revert hM;revert hF
  refine slQ ?_
  refine az fun _ _ _=> ?_
  intro hF hM
  refine aE (n15 - 1) _ (by omega) sbQ sbQ ⟨(p15+1),rfl,⟨omQ,omQ⟩,omQ,aD hM hag15⟩
theorem M7 (h_:bh) (hp0:h_.L.length≤12):CM En (tA h_) 136 [(bf h_)] (fun y=>(aM y)) (fun _=> []):=by
 refine enQ noJ Tryz.func136 Tryz.ntmps136 (tA.eq_1 ..) fun r hw=> ?_
 refine av fun _ _ _=> ?_
 have ha3:aB .i64 (h_.L.length:Int) 1=((h_.L.length:Int) - 1):=dv an an
 intro hF hM
 try simp only [ha3]
 replace hF:=(And.intro ha3 hF)
 exact auQ
theorem D9 (k_:ci) (hp0:okK k_):CM En (nH k_) 103 [(bE k_)] (fun y=> .sl none 80 true (y.map aM)) (fun _=> []):=by
 refine enQ noJ Tryz.func103 Tryz.ntmps103 (nH.eq_1 ..) fun r hw=> ?_
 have h0_0:=fH hp0
 refine slQ ?_
 intro hF hM
 replace hM:=aH hM;obtain ⟨f1,d1,hf1,hd1,hM⟩:=hM
 refine aK (fun n S=> ∃p:Int×List au,S=(⟨[(3,.own 1),(13,.sl none 81 true (k_.p.Chains.map bf)),(14,.int .i64 (k_.p.Chains.length:Int)),(15,.int .i64 p.1)],[(1,.own 71 80 true none (p.2.map aM))],2⟩:St)∧((0≤p.1)∧(p.1≤(k_.p.Chains.length:Int))∧(((p.2).length:Int)≤p.1+((([]:List au)++k_.p.Spends)).length))∧((k_.p.Chains.length:Int) - p.1).toNat<n∧ae n f1 d1 p=r) (((k_.p.Chains.length:Int) - 0).toNat+1) _ sbQ sbQ ⟨(0,(([]:List au)++k_.p.Spends)),rfl,⟨omQ,omQ,omQ⟩,(Nat.lt_succ_self _),hM⟩ ?_
 clear hM
 rintro n1 S ⟨p1,rfl,hfa1,hm1,hM⟩
 replace hM:=aI hM (by omega) hf1;obtain ⟨ag1,hag1,hM⟩:=hM
 replace hfa1:=nzQ hfa1
 replace hm1:=nzQ hm1
 have ha1:al .i64 p1.1 1=p1.1+1:=aJ omQ omQ
 replace hF:=(And.intro ha1 hF)
 revert hM;revert hF
 refine slQ ?_
 refine av fun _ _ _=> ?_
 intro hF hM
 replace hM:=ar hM;obtain ⟨x5,hx6,hM⟩:=hM
 have hcx5:=cmH hx6 (M7 (gt k_.p.Chains p1.1) (by (exact (hp0.2.c.2 _ (bG (by omega))).1)))
 refine aN hcx5 (ao hF) (ao hF) (fun hw7=> ?_)
 replace hw7:=nzQ hw7
 revert hM;revert hF
 refine slQ ?_
 intro hF hM
 refine aE (n1 - 1) _ (by omega) sbQ sbQ ⟨((p1.1+1),(p1.2++([x5]:List au))),rfl,⟨omQ,omQ,omQ⟩,omQ,aD hM hag1⟩
theorem M8 (k_:ci) (hp0:okK k_):CM En (tB k_) 58 [(bE k_)] (fun y=> .bool y) (fun _=> []):=by
 refine enQ noJ Tryz.func58 Tryz.ntmps58 (tB.eq_1 ..) fun r hw=> ?_
 have h0_0:=fH hp0
 refine ax fun x1 _ _ _=> ?_
 intro hF hM
 replace hM:=ar hM;obtain ⟨x4,hx5,hM⟩:=hM
 have hcx4:=cmH hx5 (D9 k_ (by (exact hp0)))
 refine aN hcx4 clQ clQ (fun hw6=> ?_)
 replace hw6:=nzQ hw6
 revert hM;revert hF
 refine slQ ?_
 have hq7:=DK hp0 hx5
 replace hq7:=nzQ hq7
 intro hF hM
 replace hM:=aH hM;obtain ⟨f8,d8,hf8,hd8,hM⟩:=hM
 refine aK (fun n S=> ∃p:Int,S=(⟨[(3,.ptr 1 0),(14,.sl none 80 true (x4.map aM)),(15,.int .i64 (x4.length:Int)),(16,.int .i64 p)],[(1,.var 34 true ((lL x1.1)))],2⟩:St)∧((0≤p)∧(p≤(x4.length:Int)))∧((x4.length:Int) - p).toNat<n∧ae n f8 d8 p=r) (((x4.length:Int) - 0).toNat+1) _ sbQ sbQ ⟨0,rfl,⟨omQ,omQ⟩,(Nat.lt_succ_self _),hM⟩ ?_
 clear hM
 rintro n8 S ⟨p8,rfl,hfa8,hm8,hM⟩
 replace hM:=aI hM (by omega) hf8;obtain ⟨ag8,hag8,hM⟩:=hM
 replace hfa8:=nzQ hfa8
 replace hm8:=nzQ hm8
 have ha8:al .i64 p8 1=p8+1:=aJ omQ omQ
 replace hF:=(And.intro ha8 hF)
 revert hM;revert hF
 refine slQ ?_
 refine av fun _ _ _=> ?_
 intro hF hM
 refine bQ (fun h12=> ?_) (fun h12=> ?_)
 ·have kh12:(!(jk ((gt x4 p8).Context) (x1.1)))=true:=h12
  rw [if_pos kh12] at hM
  replace hF:=(And.intro h12 hF)
  revert hM;revert hF
  refine slQ ?_
  intro hF hM
  have nh12:=nzQ kh12
  try have hr13:=mpQ nh12
  exact auQ
 ·have kh12:(!(jk ((gt x4 p8).Context) (x1.1)))=false:=h12
  rw [if_neg (bN kh12)] at hM
  replace hF:=(And.intro h12 hF)
  revert hM;revert hF
  refine slQ ?_
  intro hF hM
  have nh12:=nzQ kh12
  try have hr14:=mpQ nh12
  refine aE (n8 - 1) _ (by omega) sbQ sbQ ⟨(p8+1),rfl,⟨omQ,omQ⟩,omQ,aD hM hag8⟩
instance Tg (r_:bg) (now:Int):CM En (yq r_ now) 104 [(cP r_),.int .i64 now] (fun y=> .bool y) (fun _=> []):=by
 refine enQ noJ Tryz.func104 Tryz.ntmps104 (yq.eq_1 ..) fun r hw=> ?_
 exact auR
theorem M9 (k_:ci) (hp0:okK k_):CM En (tC k_) 59 [(bE k_)] (fun y=> .bool y) (fun _=> []):=by
 refine enQ noJ Tryz.func59 Tryz.ntmps59 (tC.eq_1 ..) fun r hw=> ?_
 have h0_0:=fH hp0
 intro hF hM
 replace hM:=ar hM;obtain ⟨x1,hx2,hM⟩:=hM
 have hcx1:=cmH hx2 (D2 k_ (by (exact hp0)))
 refine aN hcx1 clQ clQ (fun hw3=> ?_)
 replace hw3:=nzQ hw3
 revert hM;revert hF
 refine slQ ?_
 have hq4:=DL hp0 hx2
 replace hq4:=nzQ hq4
 intro hF hM
 replace hM:=aH hM;obtain ⟨f5,d5,hf5,hd5,hM⟩:=hM
 refine aK (fun n S=> ∃p:Int,S=(⟨[(1,.ptr 0 0),(8,.sl none 41 true (x1.map dT)),(9,.int .i64 (x1.length:Int)),(10,.int .i64 p)],[(0,.var 47 true ((bE k_)))],1⟩:St)∧((0≤p)∧(p≤(x1.length:Int)))∧((x1.length:Int) - p).toNat<n∧ae n f5 d5 p=r) (((x1.length:Int) - 0).toNat+1) _ sbQ sbQ ⟨0,rfl,⟨omQ,omQ⟩,(Nat.lt_succ_self _),hM⟩ ?_
 clear hM
 rintro n5 S ⟨p5,rfl,hfa5,hm5,hM⟩
 replace hM:=aI hM (by omega) hf5;obtain ⟨ag5,hag5,hM⟩:=hM
 replace hfa5:=nzQ hfa5
 replace hm5:=nzQ hm5
 have ha5:al .i64 p5 1=p5+1:=aJ omQ omQ
 replace hF:=(And.intro ha5 hF)
 revert hM;revert hF
 refine slQ ?_
 refine av fun _ _ _=> ?_
 intro hF hM
 replace hM:=ar hM;obtain ⟨x9,hx10,hM⟩:=hM
 have hcx9:=cmH hx10 (ug k_ (gt x1 p5) (by (exact hp0)))
 refine aN hcx9 (ao hF) (ao hF) (fun hw11=> ?_)
 replace hw11:=nzQ hw11
 revert hM;revert hF
 refine slQ ?_
 refine ax fun _ _ _ _=> ?_
 refine az fun _ _ _=> ?_
 intro hF hM
 refine aE (n5 - 1) _ (by omega) sbQ sbQ ⟨(p5+1),rfl,⟨omQ,omQ⟩,omQ,aD hM hag5⟩
theorem D_ (p_:aA) (hp0:cI p_):CM En (dE p_) 78 [.agg [.int .i64 p_.Number,.sl none 80 true (p_.Spends.map aM),.sl none 81 true (p_.Chains.map bf),.sl none 5 true (p_.Escrow.map bz)]] (fun y=> .sl none 83 true (y.map fD)) (fun _=> []):=by
 refine enQ noJ Tryz.func78 Tryz.ntmps78 (dE.eq_1 ..) fun r hw=> ?_
 intro hF hM
 replace hM:=ar hM;obtain ⟨x1,hx2,hM⟩:=hM
 have hcx1:=cmH hx2 (D1 p_ (by (exact hp0)))
 refine aN hcx1 clQ clQ (fun hw3=> ?_)
 replace hw3:=nzQ hw3
 revert hM;revert hF
 refine slQ ?_
 have hq4:=Dt hp0 hx2
 replace hq4:=nzQ hq4
 intro hF hM
 replace hM:=aH hM;obtain ⟨f5,d5,hf5,hd5,hM⟩:=hM
 refine dP (fun n S=> ∃p:Int×List bD,S=(⟨[(3,.own 1),(9,.sl none 80 true (x1.map aM)),(10,.int .i64 (x1.length:Int)),(11,.int .i64 p.1)],[(1,.own 117 83 true none (p.2.map fD))],2⟩:St)∧(((0≤p.1)∧(p.1≤(x1.length:Int)))∧(((p.2).length:Int)≤40*p.1))∧((x1.length:Int) - p.1).toNat<n∧ae n f5 d5 p=r) (((x1.length:Int) - 0).toNat+1) _ _ (fU 3 117 rfl (by decide)) sbQ sbQ ⟨(0,([]:List bD)),rfl,⟨⟨by (first|exact omQ|(clear hM;first|(have h99:=co (l:=x1) (i:=p5.1) (by assumption) (by omega);exact an))),by (first|exact omQ|(clear hM;first|(have h99:=co (l:=x1) (i:=p5.1) (by assumption) (by omega);exact an)))⟩,by exact an⟩,(Nat.lt_succ_self _),hM⟩ ?_
 clear hM
 rintro n5 S ⟨p5,rfl,⟨hfa5,hF3_0⟩,hm5,hM⟩
 have hA0:=fun a0 a1=>co (l:=x1) (i:=p5.1) a0 a1
 have hA1:=fun a0 a1=>co (l:=x1) (i:=(p5.1+1)) a0 a1
 replace hM:=aI hM (by omega) hf5;obtain ⟨ag5,hag5,hM⟩:=hM
 replace hfa5:=nzQ hfa5
 replace hm5:=nzQ hm5
 have ha5:al .i64 p5.1 1=p5.1+1:=aJ (by exact omA) (by exact omA)
 replace hF:=(And.intro ha5 hF)
 revert hM;revert hF
 refine slQ ?_
 refine av fun _ _ _=> ?_
 intro hF hM
 replace hM:=aH hM;obtain ⟨f9,d9,hf9,hd9,hM⟩:=hM
 refine aK (fun n S=> ∃p:Int×List bD,S=(⟨[(3,.own 1),(5,.ptr 2 0),(9,.sl none 80 true (x1.map aM)),(10,.int .i64 (x1.length:Int)),(11,.int .i64 p5.1),(16,.sl none 3 true ((gt x1 p5.1).Leaves.map dD)),(17,.int .i64 ((gt x1 p5.1).Leaves.length:Int)),(18,.int .i64 p.1)],[(1,.own 117 83 true none (p.2.map fD)),(2,.var 80 true ((aM (gt x1 p5.1))))],3⟩:St)∧((0≤p.1)∧(p.1≤((gt x1 p5.1).Leaves.length:Int))∧(((p.2).length:Int)≤40*p5.1+p.1))∧(((gt x1 p5.1).Leaves.length:Int) - p.1).toNat<n∧ae n f9 d9 p=r) ((((gt x1 p5.1).Leaves.length:Int) - 0).toNat+1) _ sbQ sbQ ⟨(0,p5.2),rfl,⟨by exact omA,by exact omA,by exact omA⟩,(Nat.lt_succ_self _),hM⟩ ?_
 clear hM
 rintro n9 S ⟨p9,rfl,hfa9,hm9,hM⟩
 replace hM:=aI hM (by omega) hf9;obtain ⟨ag9,hag9,hM⟩:=hM
 replace hfa9:=nzQ hfa9
 replace hm9:=nzQ hm9
 have ha9:al .i64 p9.1 1=p9.1+1:=aJ (by exact omA) (by exact omA)
 replace hF:=(And.intro ha9 hF)
 revert hM;revert hF
 refine slQ ?_
 refine az fun _ _ _=> ?_
 intro hF hM
 refine aE (n5 - 1) _ (by omega) sbQ sbQ ⟨((p5.1+1),p9.2),rfl,⟨⟨by exact omA,by exact omA⟩,by (have h9:=co (i:=p5.1) (by assumption) (by omega);clear hM;exact an)⟩,by exact omA,aD hM hag5⟩
theorem M_ (k_:ci) (hp0:okK k_):CM En (tD k_) 60 [(bE k_)] (fun y=> .bool y) (fun _=> []):=by
 refine enQ noJ Tryz.func60 Tryz.ntmps60 (tD.eq_1 ..) fun r hw=> ?_
 have h0_0:=fH hp0
 intro hF hM
 replace hM:=ar hM;obtain ⟨x1,hx2,hM⟩:=hM
 have hcx1:=cmH hx2 (D_ (k_.p) (by (exact hp0.2)))
 refine aN hcx1 clQ clQ (fun hw3=> ?_)
 replace hw3:=nzQ hw3
 revert hM;revert hF
 refine slQ ?_
 have hq4:=zk hp0.2 hx2
 replace hq4:=nzQ hq4
 intro hF hM
 replace hM:=aH hM;obtain ⟨f5,d5,hf5,hd5,hM⟩:=hM
 refine aK (fun n S=> ∃p:Int×List (List Int),S=(⟨[(3,.own 1),(10,.sl none 83 true (x1.map fD)),(11,.int .i64 (x1.length:Int)),(12,.int .i64 p.1)],[(1,.kset true .i64 2 p.2)],2⟩:St)∧((0≤p.1)∧(p.1≤(x1.length:Int)))∧((x1.length:Int) - p.1).toNat<n∧ae n f5 d5 p=r) (((x1.length:Int) - 0).toNat+1) _ sbQ sbQ ⟨(0,([]:List (List Int))),rfl,⟨omQ,omQ⟩,(Nat.lt_succ_self _),hM⟩ ?_
 clear hM
 rintro n5 S ⟨p5,rfl,hfa5,hm5,hM⟩
 replace hM:=aI hM (by omega) hf5;obtain ⟨ag5,hag5,hM⟩:=hM
 replace hfa5:=nzQ hfa5
 replace hm5:=nzQ hm5
 have ha5:al .i64 p5.1 1=p5.1+1:=aJ omQ omQ
 replace hF:=(And.intro ha5 hF)
 revert hM;revert hF
 refine slQ ?_
 refine av fun _ _ _=> ?_
 refine az fun _ _ _=> ?_
 intro hF hM
 refine aE (n5 - 1) _ (by omega) sbQ sbQ ⟨((p5.1+1),(dA p5.2 [(gt x1 p5.1).A,(gt x1 p5.1).B])),rfl,⟨omQ,omQ⟩,omQ,aD hM hag5⟩
instance Th (n_:Int):CM En (nI n_) 166 [.int .i64 n_] (fun y=> .agg [.int .i64 y.Kind,.int .i64 y.N,.sl none 1 false (y.B.map (V.int .u8)),.sl none 4 true (y.L.map bu)]) (fun _=> []):=by
 refine enQ noJ Tryz.func166 Tryz.ntmps166 (nI.eq_1 ..) fun r hw=> ?_
 exact auR
set_option maxRecDepth 512 in
instance (priority:=1039):DRD 3 24 17 [7,8,9,10,11,12,13,14,15,16,17,18,19,20,21,22,23] [] ([[],[0],[0,1],[],[3],[3,4],[],[6],[6,7],[],[9],[9,10],[0,1,2,3,4,5,6,7,8,9,10,11],[0,1,2,3,4,5,6,7,8,9,10,11,12],[0,1,2,3,4,5,6,7,8,9,10,11,12,13],[0,1,2,3,4,5,6,7,8,9,10,11,12,13,14],[0,1,2,3,4,5,6,7,8,9,10,11,12,13,14]]++[List.range 17,List.range 18]) [(12,13)]:=⟨trivial⟩
instance Ti (v:aL):CM En (pZ v) 137 [(aY v)] (fun y=> .tup [.sl none 1 false (y.1.map (V.int .u8)),.int .i64 y.2]) (fun _=> []):=by
 refine enQ [3] Tryz.func137 Tryz.ntmps137 (pZ.eq_1 ..) fun r hw=> ?_
 intro hF hM
 refine fX ?_
 revert hM;revert hF
 refine slQ ?_
 refine ax fun _ _ _ _=> ?_
 refine az fun _ _ _=> ?_
 intro hF hM
 refine gH _ (⟨[(1,.ptr 0 0)],[(0,.pvar 35 true ((aY v)))],1⟩:St) (ib (S:=⟨_,_,_⟩) 0 (n:=35) (g:=true) (d:=(aY v)) clQ clQ) sbQ sbQ ?_
 revert hM;revert hF
 refine slQ ?_
 refine ax fun x7 hx8 _ _=> ?_
 have hq9:=y8 hx8
 replace hq9:=nzQ hq9
 refine ax fun x10 hx11 _ _=> ?_
 have hq12:=y8 hx11
 replace hq12:=nzQ hq12
 refine ax fun x13 hx14 _ _=> ?_
 have hq15:=y8 hx14
 replace hq15:=nzQ hq15
 intro hF hM
 replace hM:=ar hM;obtain ⟨x16,hx17,hM⟩:=hM
 have hcx16:=cmH hx17 (kC ({Kind:=3,N:=0,B:=([]:List Int),L:=([({Kind:=2,N:=0,B:=(bc 32 v.Payee),L:=([]:List am)}:am),x7,x10,x13]:List am)}:am) (by (simp only [hgt,bL,dh,List.length_nil];omega)))
 refine bA hcx16 clQ clQ ?_
 exact auP
instance Tj (v:aL):CM En (yr v) 105 [(aY v)] (fun y=> .tup [.str y.1,.int .i64 y.2]) (fun _=> []):=by
 refine enQ noJ Tryz.func105 Tryz.ntmps105 (yr.eq_1 ..) fun r hw=> ?_
 refine ax fun x1 hx2 _ _=> ?_
 have hq4:=Lx hx2
 replace hq4:=nzQ hq4
 refine az fun _ _ _=> ?_
 intro hF hM
 replace hM:=ar hM;obtain ⟨x8,hx9,hM⟩:=hM
 have hcx8:=cmH hx9 (iC ([115,112,101,99,105,101,47,105,110,118,111,105,99,101]) (x1.1) (by (exact pfQ)))
 refine aN hcx8 clQ clQ (fun hw10=> ?_)
 replace hw10:=nzQ hw10
 revert hM;revert hF
 refine slQ ?_
 refine az fun _ _ _=> ?_
 refine ax fun x14 _ _ _=> ?_
 have hG0:= @List.length_take_le _ 16 (x14)
 have hG1:=fV
 exact auR
instance Tk (b:aX) (x_:Int):CM En (tE b x_) 171 [(bS b),.int .i64 x_] (fun y=> .bool y) (fun _=> []):=by
 refine enQ noJ Tryz.func171 Tryz.ntmps171 (tE.eq_1 ..) fun r hw=> ?_
 exact auR
instance Tl (b:aX) (x_:Int) (y:Int):CM En (yt b x_ y) 203 [(bS b),.int .i64 x_,.int .i64 y] (fun y=> .int .i64 y) (fun _=> []):=by
 refine enQ noJ Tryz.func203 Tryz.ntmps203 (yt.eq_1 ..) fun r hw=> ?_
 exact auR
instance Tm (b:aX) (x_:Int) (e_:Int):CM En (tF b x_ e_) 204 [(bS b),.int .i64 x_,.int .i64 e_] (fun y=> .int .i64 y) (fun _=> []):=by
 refine enQ noJ Tryz.func204 Tryz.ntmps204 (tF.eq_1 ..) fun r hw=> ?_
 exact auR
set_option maxRecDepth 512 in
instance (priority:=1040):DRD 1 31 21 [9,10,11,12,13,14,15,16,17,18,19,20,21,22,23,24,25,26,27,28,29] [] ([[],[0],[],[],[3],[],[5],[2,3,4,5,6],[],[],[8,9],[2,3,4,5,6,7,8,9,10],[],[12],[],[],[15],[15,16],[14,15,16,17],[12,13,14,15,16,17,18],[2,3,4,5,6,7,8,9,10,11,12,13,14,15,16,17,18,19]]++[List.range 21,List.range 22]) [(1,4),(11,14),(19,22),(20,23)]:=⟨trivial⟩
instance Tn (b:aX) (y:Int) (pseudonym:Int) (x_:b9):CM En (yu b y pseudonym x_) 172 [(bS b),.int .i64 y,.int .i64 pseudonym,(bz x_)] (fun y=> .agg [.sl none 1 false (y.Y.map (V.int .i64)),.sl none 1 false (y.Bases.map (fun (l:List Int)=>V.sl none 1 false (l.map (V.int .i64))))]) (fun _=> []):=by
 refine enQ noJ Tryz.func172 Tryz.ntmps172 (yu.eq_1 ..) fun r hw=> ?_
 exact auR
instance To (b:aX) (y:Int) (pseudonym:Int) (x_:b9):CM En (yw b y pseudonym x_) 140 [(bS b),.int .i64 y,.int .i64 pseudonym,(bz x_)] (fun y=> .tup [.agg [.sl none 1 false (y.1.Y.map (V.int .i64)),.sl none 1 false (y.1.Bases.map (fun (l:List Int)=>V.sl none 1 false (l.map (V.int .i64))))],.int .i64 y.2]) (fun _=> []):=by
 refine enQ noJ Tryz.func140 Tryz.ntmps140 (yw.eq_1 ..) fun r hw=> ?_
 exact auR
instance Tp (g:aP) (x_:Int):CM En (yx g x_) 256 [.agg [.int .i64 g.P,.int .i64 g.Q,.int .i64 g.G],.int .i64 x_] (fun y=> .bool y) (fun _=> []):=by
 refine enQ noJ Tryz.func256 Tryz.ntmps256 (yx.eq_1 ..) fun r hw=> ?_
 exact auR
instance Tq (x_:Int) (c0:aP):CM En (yy x_ c0) 255 [.int .i64 x_,.pp 3 true (.agg [.int .i64 c0.P,.int .i64 c0.Q,.int .i64 c0.G])] (fun y=> .bool y) (fun _=> []):=by
 refine enQ noJ Tryz.func255 Tryz.ntmps255 (yy.eq_1 ..) fun r hw=> ?_
 exact auR
instance Tr (s:(List Int)) (f__c0:aP):CM En (yz s f__c0) 229 [.sl none 1 false (s.map (V.int .i64)),.fn 255 [.pp 3 true (.agg [.int .i64 f__c0.P,.int .i64 f__c0.Q,.int .i64 f__c0.G])]] (fun y=> .int .i64 y) (fun _=> []):=by
 refine enQ noJ Tryz.func229 Tryz.ntmps229 (yz.eq_1 ..) fun r hw=> ?_
 intro hF hM
 replace hM:=aH hM;obtain ⟨f1,d1,hf1,hd1,hM⟩:=hM
 refine aK (fun n S=> ∃p:Int,S=(⟨[(0,.sl none 1 false (s.map (V.int .i64))),(1,.fn 255 [.pp 3 true (.agg [.int .i64 f__c0.P,.int .i64 f__c0.Q,.int .i64 f__c0.G])]),(7,.int .i64 (s.length:Int)),(8,.int .i64 p)],[],0⟩:St)∧((0≤p)∧(p≤(s.length:Int)))∧((s.length:Int) - p).toNat<n∧ae n f1 d1 p=r) (((s.length:Int) - 0).toNat+1) _ sbQ sbQ ⟨0,rfl,⟨omQ,omQ⟩,(Nat.lt_succ_self _),hM⟩ ?_
 clear hM
 rintro n1 S ⟨p1,rfl,hfa1,hm1,hM⟩
 replace hM:=aI hM (by omega) hf1;obtain ⟨ag1,hag1,hM⟩:=hM
 replace hfa1:=nzQ hfa1
 replace hm1:=nzQ hm1
 have ha1:al .i64 p1 1=p1+1:=aJ omQ omQ
 replace hF:=(And.intro ha1 hF)
 revert hM;revert hF
 refine slQ ?_
 refine av fun _ _ _=> ?_
 refine ax fun _ _ _ _=> ?_
 refine az fun _ _ _=> ?_
 intro hF hM
 refine aE (n1 - 1) _ (by omega) sbQ sbQ ⟨(p1+1),rfl,⟨omQ,omQ⟩,omQ,aD hM hag1⟩
instance Tt (s:(List Int)) (f__c0:aP):CM En (yA s f__c0) 194 [.sl none 1 false (s.map (V.int .i64)),.fn 255 [.pp 3 true (.agg [.int .i64 f__c0.P,.int .i64 f__c0.Q,.int .i64 f__c0.G])]] (fun y=> .bool y) (fun _=> []):=by
 refine enQ noJ Tryz.func194 Tryz.ntmps194 (yA.eq_1 ..) fun r hw=> ?_
 exact auR
instance Tu (g:aP) (l:(List Int)):CM En (tG g l) 237 [.agg [.int .i64 g.P,.int .i64 g.Q,.int .i64 g.G],.sl none 1 false (l.map (V.int .i64))] (fun y=> .bool y) (fun _=> []):=by
 refine enQ noJ Tryz.func237 Tryz.ntmps237 (tG.eq_1 ..) fun r hw=> ?_
 exact auR
instance Tv (row:(List Int)) (c0:Int) (c1:aP):CM En (qa row c0 c1) 239 [.sl none 1 false (row.map (V.int .i64)),.pp 1 false (.int .i64 c0),.pp 3 true (.agg [.int .i64 c1.P,.int .i64 c1.Q,.int .i64 c1.G])] (fun y=> .bool y) (fun _=> []):=by
 refine enQ noJ Tryz.func239 Tryz.ntmps239 (qa.eq_1 ..) fun r hw=> ?_
 exact auR
instance Tw (s:(List (List Int))) (f__c0:Int) (f__c1:aP):CM En (nJ s f__c0 f__c1) 257 [.sl none 1 false (s.map (fun (l:List Int)=>V.sl none 1 false (l.map (V.int .i64)))),.fn 239 [.pp 1 false (.int .i64 f__c0),.pp 3 true (.agg [.int .i64 f__c1.P,.int .i64 f__c1.Q,.int .i64 f__c1.G])]] (fun y=> .int .i64 y) (fun _=> []):=by
 refine enQ noJ Tryz.func257 Tryz.ntmps257 (nJ.eq_1 ..) fun r hw=> ?_
 intro hF hM
 replace hM:=aH hM;obtain ⟨f1,d1,hf1,hd1,hM⟩:=hM
 refine aK (fun n S=> ∃p:Int,S=(⟨[(0,.sl none 1 false (s.map (fun (l:List Int)=>V.sl none 1 false (l.map (V.int .i64))))),(1,.fn 239 [.pp 1 false (.int .i64 f__c0),.pp 3 true (.agg [.int .i64 f__c1.P,.int .i64 f__c1.Q,.int .i64 f__c1.G])]),(7,.int .i64 (s.length:Int)),(8,.int .i64 p)],[],0⟩:St)∧((0≤p)∧(p≤(s.length:Int)))∧((s.length:Int) - p).toNat<n∧ae n f1 d1 p=r) (((s.length:Int) - 0).toNat+1) _ sbQ sbQ ⟨0,rfl,⟨omQ,omQ⟩,(Nat.lt_succ_self _),hM⟩ ?_
 clear hM
 rintro n1 S ⟨p1,rfl,hfa1,hm1,hM⟩
 replace hM:=aI hM (by omega) hf1;obtain ⟨ag1,hag1,hM⟩:=hM
 replace hfa1:=nzQ hfa1
 replace hm1:=nzQ hm1
 have ha1:al .i64 p1 1=p1+1:=aJ omQ omQ
 replace hF:=(And.intro ha1 hF)
 revert hM;revert hF
 refine slQ ?_
 refine av fun _ _ _=> ?_
 refine ax fun _ _ _ _=> ?_
 refine az fun _ _ _=> ?_
 intro hF hM
 refine aE (n1 - 1) _ (by omega) sbQ sbQ ⟨(p1+1),rfl,⟨omQ,omQ⟩,omQ,aD hM hag1⟩
instance Tx (s:(List (List Int))) (f__c0:Int) (f__c1:aP):CM En (qb s f__c0 f__c1) 238 [.sl none 1 false (s.map (fun (l:List Int)=>V.sl none 1 false (l.map (V.int .i64)))),.fn 239 [.pp 1 false (.int .i64 f__c0),.pp 3 true (.agg [.int .i64 f__c1.P,.int .i64 f__c1.Q,.int .i64 f__c1.G])]] (fun y=> .bool y) (fun _=> []):=by
 refine enQ noJ Tryz.func238 Tryz.ntmps238 (qb.eq_1 ..) fun r hw=> ?_
 exact auR
instance Ty (g:aP) (r_:cF):CM En (lX g r_) 205 [.agg [.int .i64 g.P,.int .i64 g.Q,.int .i64 g.G],.agg [.sl none 1 false (r_.Y.map (V.int .i64)),.sl none 1 false (r_.Bases.map (fun (l:List Int)=>V.sl none 1 false (l.map (V.int .i64))))]] (fun y=> .bool y) (fun _=> []):=by
 refine enQ noJ Tryz.func205 Tryz.ntmps205 (lX.eq_1 ..) fun r hw=> ?_
 exact auR
theorem Na (r_:cF) (hp0:1≤r_.Bases.length):CM En (gM r_) 206 [.agg [.sl none 1 false (r_.Y.map (V.int .i64)),.sl none 1 false (r_.Bases.map (fun (l:List Int)=>V.sl none 1 false (l.map (V.int .i64))))]] (fun y=> .int .i64 y) (fun _=> []):=by
 refine enQ noJ Tryz.func206 Tryz.ntmps206 (gM.eq_1 ..) fun r hw=> ?_
 exact auR
instance Tz (x_:Int) (c0:aP):CM En (yB x_ c0) 240 [.int .i64 x_,.pp 3 true (.agg [.int .i64 c0.P,.int .i64 c0.Q,.int .i64 c0.G])] (fun y=> .bool y) (fun _=> []):=by
 refine enQ noJ Tryz.func240 Tryz.ntmps240 (yB.eq_1 ..) fun r hw=> ?_
 exact auR
instance TA (s:(List Int)) (f__c0:aP):CM En (yC s f__c0) 229 [.sl none 1 false (s.map (V.int .i64)),.fn 240 [.pp 3 true (.agg [.int .i64 f__c0.P,.int .i64 f__c0.Q,.int .i64 f__c0.G])]] (fun y=> .int .i64 y) (fun _=> []):=by
 refine enQ noJ Tryz.func229 Tryz.ntmps229 (yC.eq_1 ..) fun r hw=> ?_
 intro hF hM
 replace hM:=aH hM;obtain ⟨f1,d1,hf1,hd1,hM⟩:=hM
 refine aK (fun n S=> ∃p:Int,S=(⟨[(0,.sl none 1 false (s.map (V.int .i64))),(1,.fn 240 [.pp 3 true (.agg [.int .i64 f__c0.P,.int .i64 f__c0.Q,.int .i64 f__c0.G])]),(7,.int .i64 (s.length:Int)),(8,.int .i64 p)],[],0⟩:St)∧((0≤p)∧(p≤(s.length:Int)))∧((s.length:Int) - p).toNat<n∧ae n f1 d1 p=r) (((s.length:Int) - 0).toNat+1) _ sbQ sbQ ⟨0,rfl,⟨omQ,omQ⟩,(Nat.lt_succ_self _),hM⟩ ?_
 clear hM
 rintro n1 S ⟨p1,rfl,hfa1,hm1,hM⟩
 replace hM:=aI hM (by omega) hf1;obtain ⟨ag1,hag1,hM⟩:=hM
 replace hfa1:=nzQ hfa1
 replace hm1:=nzQ hm1
 have ha1:al .i64 p1 1=p1+1:=aJ omQ omQ
 replace hF:=(And.intro ha1 hF)
 revert hM;revert hF
 refine slQ ?_
 refine av fun _ _ _=> ?_
 refine ax fun _ _ _ _=> ?_
 refine az fun _ _ _=> ?_
 intro hF hM
 refine aE (n1 - 1) _ (by omega) sbQ sbQ ⟨(p1+1),rfl,⟨omQ,omQ⟩,omQ,aD hM hag1⟩
instance TB (s:(List Int)) (f__c0:aP):CM En (yD s f__c0) 194 [.sl none 1 false (s.map (V.int .i64)),.fn 240 [.pp 3 true (.agg [.int .i64 f__c0.P,.int .i64 f__c0.Q,.int .i64 f__c0.G])]] (fun y=> .bool y) (fun _=> []):=by
 refine enQ noJ Tryz.func194 Tryz.ntmps194 (yD.eq_1 ..) fun r hw=> ?_
 exact auR
instance TC (g:aP) (l:(List Int)):CM En (tH g l) 207 [.agg [.int .i64 g.P,.int .i64 g.Q,.int .i64 g.G],.sl none 1 false (l.map (V.int .i64))] (fun y=> .bool y) (fun _=> []):=by
 refine enQ noJ Tryz.func207 Tryz.ntmps207 (tH.eq_1 ..) fun r hw=> ?_
 exact auR
set_option maxRecDepth 512 in
instance (priority:=1041):DRD 5 43 12 [12,22,23,24,25,26,27,28,29,30,31,32] [] ([[],[],[],[1,2],[1,2,3],[],[5],[0,1,2,3,4,5,6],[0,1,2,3,4,5,6,7],[0,1,2,3,4,5,6,7,8],[0,1,2,3,4,5,6,7,8],[0,1,2,3,4,5,6,7,8,9]]++[List.range 12]) []:=⟨trivial⟩
theorem Nb (g:aP) (start:Int) (bases:(List Int)) (exps:(List Int)) (hp0:bases.length≤exps.length) (hp1:bases.length≤1000):CM En (tI g start bases exps) 258 [.agg [.int .i64 g.P,.int .i64 g.Q,.int .i64 g.G],.int .i64 start,.sl none 1 false (bases.map (V.int .i64)),.sl none 1 false (exps.map (V.int .i64))] (fun y=> .int .i64 y) (fun _=> []):=by
 refine enQ noJ Tryz.func258 Tryz.ntmps258 (tI.eq_1 ..) fun r hw=> ?_
 intro hF hM
 replace hM:=aH hM;obtain ⟨f1,d1,hf1,hd1,hM⟩:=hM
 refine aK (fun n S=> ∃p:Int×Int,S=(⟨[(3,.sl none 1 false (exps.map (V.int .i64))),(4,.ptr 0 0),(9,.int .i64 p.1),(15,.sl none 1 false (bases.map (V.int .i64))),(16,.int .i64 (bases.length:Int)),(17,.int .i64 p.2)],[(0,.var 3 true (.agg [.int .i64 g.P,.int .i64 g.Q,.int .i64 g.G]))],1⟩:St)∧((0≤p.2)∧(p.2≤(bases.length:Int)))∧((bases.length:Int) - p.2).toNat<n∧ae n f1 d1 p=r) (((bases.length:Int) - 0).toNat+1) _ sbQ sbQ ⟨(start,0),rfl,⟨omQ,omQ⟩,(Nat.lt_succ_self _),hM⟩ ?_
 clear hM
 rintro n1 S ⟨p1,rfl,hfa1,hm1,hM⟩
 replace hM:=aI hM (by omega) hf1;obtain ⟨ag1,hag1,hM⟩:=hM
 replace hfa1:=nzQ hfa1
 replace hm1:=nzQ hm1
 have ha1:al .i64 p1.2 1=p1.2+1:=aJ omQ omQ
 replace hF:=(And.intro ha1 hF)
 revert hM;revert hF
 refine slQ ?_
 refine av fun _ _ _=> ?_
 refine ax fun _ _ _ _=> ?_
 refine ax fun x8 _ _ _=> ?_
 intro hF hM
 refine aE (n1 - 1) _ (by omega) sbQ sbQ ⟨(x8.1,(p1.2+1)),rfl,⟨omQ,omQ⟩,omQ,aD hM hag1⟩
theorem Nc (g:aP) (rows:(List (List Int))) (exps:(List Int)) (hp0: ∀x∈rows,x.length≤exps.length∧x.length≤1000) (hp1:rows.length≤1000):CM En (qc g rows exps) 241 [.agg [.int .i64 g.P,.int .i64 g.Q,.int .i64 g.G],.sl none 1 false (rows.map (fun (l:List Int)=>V.sl none 1 false (l.map (V.int .i64)))),.sl none 1 false (exps.map (V.int .i64))] (fun _=> .own 0) (fun y=> [.own 3 1 false none (y.map (V.int .i64))]):=by
 refine enQ noJ Tryz.func241 Tryz.ntmps241 (qc.eq_1 ..) fun r hw=> ?_
 intro hF hM
 replace hM:=aH hM;obtain ⟨f1,d1,hf1,hd1,hM⟩:=hM
 refine dP (fun n S=> ∃p:Int×List Int,S=(⟨[(2,.sl none 1 false (exps.map (V.int .i64))),(3,.ptr 0 0),(7,.own 1),(10,.sl none 1 false (rows.map (fun (l:List Int)=>V.sl none 1 false (l.map (V.int .i64))))),(11,.int .i64 (rows.length:Int)),(12,.int .i64 p.1)],[(0,.var 3 true (.agg [.int .i64 g.P,.int .i64 g.Q,.int .i64 g.G])),(1,.own 3 1 false none (p.2.map (V.int .i64)))],2⟩:St)∧((0≤p.1)∧(p.1≤(rows.length:Int))∧(((p.2).length:Int)≤p.1))∧((rows.length:Int) - p.1).toNat<n∧ae n f1 d1 p=r) (((rows.length:Int) - 0).toNat+1) _ _ (fU 7 3 rfl (by decide)) sbQ sbQ ⟨(0,([]:List Int)),rfl,⟨omQ,omQ,omQ⟩,(Nat.lt_succ_self _),hM⟩ ?_
 clear hM
 rintro n1 S ⟨p1,rfl,hfa1,hm1,hM⟩
 replace hM:=aI hM (by omega) hf1;obtain ⟨ag1,hag1,hM⟩:=hM
 replace hfa1:=nzQ hfa1
 replace hm1:=nzQ hm1
 have ha1:al .i64 p1.1 1=p1.1+1:=aJ omQ omQ
 replace hF:=(And.intro ha1 hF)
 revert hM;revert hF
 refine slQ ?_
 refine cdQ (fun _ _ _=> ?_) (fun _ _ _=> ?_)
 ·intro hF hM
  replace hM:=ar hM;obtain ⟨x5,hx6,hM⟩:=hM
  have hcx5:=cmH hx6 (Nb g 1 (gt rows p1.1) exps (by (first|exact (hp0 _ (bG (by omega))).1|exact (hp0 _ (bG (by omega))).2)) (by (first|exact (hp0 _ (bG (by omega))).1|exact (hp0 _ (bG (by omega))).2)))
  refine aN hcx5 (ao hF) (ao hF) (fun hw7=> ?_)
  replace hw7:=nzQ hw7
  revert hM;revert hF
  refine slQ ?_
  intro hF hM
  refine aE (n1 - 1) _ (by omega) sbQ sbQ ⟨((p1.1+1),(p1.2++([x5]:List Int))),rfl,⟨omQ,omQ,omQ⟩,omQ,aD hM hag1⟩
 ·intro hF hM
  subst hM
  exact sF [1] (bs:=[.own 3 1 false none (p1.2.map (V.int .i64))]) (ao hF) (by decide) (cm hF)
set_option maxRecDepth 512 in
instance (priority:=1042):DRD 5 57 15 [12,27,28,29,30,31,32,33,34,35,36,37,38,39,40] [] ([[],[],[1],[],[1,2,3],[],[5],[1,2,3,4,5,6],[],[8],[0,1,2,3,4,5,6,7,8,9],[0,1,2,3,4,5,6,7,8,9,10],[0,1,2,3,4,5,6,7,8,9,10,11],[0,1,2,3,4,5,6,7,8,9,10,11],[0,1,2,3,4,5,6,7,8,9,10,11,12]]++[List.range 15]) []:=⟨trivial⟩
set_option maxRecDepth 512 in
instance (priority:=1043):DRD 6 57 15 [41,42,43,44,45,46,47,48,49,50,51,52,53,54] [] [[],[],[],[],[2,3],[2,3,4],[],[],[7],[2,3,4,5,6,7,8],[2,3,4,5,6,7,8,9],[2,3,4,5,6,7,8,9,10],[2,3,4,5,6,7,8,9,10],[0,1],[0,1,2,3,4,5,6,7,8,9,10,11,13]] [(14,2)]:=⟨trivial⟩
theorem Nd (g:aP) (r_:cF) (c:Int) (z_:(List Int)) (hp0: ∀x∈r_.Bases,x.length≤z_.length∧x.length≤1000) (hp1:r_.Bases.length=r_.Y.length) (hp2:r_.Y.length≤8) (hp3:1≤g.Q):CM En (yE g r_ c z_) 209 [.agg [.int .i64 g.P,.int .i64 g.Q,.int .i64 g.G],.agg [.sl none 1 false (r_.Y.map (V.int .i64)),.sl none 1 false (r_.Bases.map (fun (l:List Int)=>V.sl none 1 false (l.map (V.int .i64))))],.int .i64 c,.sl none 1 false (z_.map (V.int .i64))] (fun y=> .sl none 1 false (y.map (V.int .i64))) (fun _=> []):=by
 refine enQ noJ Tryz.func209 Tryz.ntmps209 (yE.eq_1 ..) fun r hw=> ?_
 intro hF hM
 replace hM:=ar hM;obtain ⟨x1,hx2,hM⟩:=hM
 have hcx1:=cmH hx2 (Nc g (r_.Bases) z_ (by (first|exact hp0|omega)) (by (first|exact hp0|omega)))
 refine aN hcx1 clQ clQ (fun hw3=> ?_)
 replace hw3:=nzQ hw3
 revert hM;revert hF
 refine slQ ?_
 have hq4:=LR hx2
 replace hq4:=nzQ hq4
 intro hF hM
 replace hM:=aH hM;obtain ⟨f5,d5,hf5,hd5,hM⟩:=hM
 refine aK (fun n S=> ∃p:Int×List Int,S=(⟨[(2,.int .i64 c),(4,.ptr 0 0),(9,.own 2),(20,.sl none 1 false (r_.Y.map (V.int .i64))),(21,.int .i64 (r_.Y.length:Int)),(22,.int .i64 p.1)],[(0,.var 3 true (.agg [.int .i64 g.P,.int .i64 g.Q,.int .i64 g.G])),(2,.own 3 1 false none (p.2.map (V.int .i64)))],3⟩:St)∧((0≤p.1)∧(p.1≤(r_.Y.length:Int))∧((p.2).length=(x1).length))∧((r_.Y.length:Int) - p.1).toNat<n∧ae n f5 d5 p=r) (((r_.Y.length:Int) - 0).toNat+1) _ sbQ sbQ ⟨(0,x1),rfl,⟨omQ,omQ,omQ⟩,(Nat.lt_succ_self _),hM⟩ ?_
 clear hM
 rintro n5 S ⟨p5,rfl,hfa5,hm5,hM⟩
 replace hM:=aI hM (by omega) hf5;obtain ⟨ag5,hag5,hM⟩:=hM
 replace hfa5:=nzQ hfa5
 replace hm5:=nzQ hm5
 have ha5:al .i64 p5.1 1=p5.1+1:=aJ omQ omQ
 replace hF:=(And.intro ha5 hF)
 revert hM;revert hF
 refine slQ ?_
 refine av fun _ _ _=> ?_
 refine ax fun _ _ _ _=> ?_
 refine ax fun x12 _ _ _=> ?_
 intro hF hM
 refine aE (n5 - 1) _ (by omega) sbQ sbQ ⟨((p5.1+1),(st p5.2 p5.1 x12.1)),rfl,⟨omQ,omQ,omQ⟩,omQ,aD hM hag5⟩
set_option maxRecDepth 512 in
instance (priority:=1044):DRD 6 26 8 [16,17,18,19,20,21,22,23] [] ([[],[],[0,1],[0,1,2],[],[],[4,5],[4,5,6]]++[List.range 8]) []:=⟨trivial⟩
instance TD (s1:(List Int)) (s2:(List Int)):CM En (yF s1 s2) 208 [.sl none 1 false (s1.map (V.int .i64)),.sl none 1 false (s2.map (V.int .i64))] (fun y=> .bool y) (fun _=> []):=by
 refine enQ noJ Tryz.func208 Tryz.ntmps208 (yF.eq_1 ..) fun r hw=> ?_
 refine az fun _ _ _=> ?_
 intro hF hM
 replace hM:=aH hM;obtain ⟨f4,d4,hf4,hd4,hM⟩:=hM
 refine aK (fun n S=> ∃p:Int,S=(⟨[(0,.sl none 1 false (s1.map (V.int .i64))),(1,.sl none 1 false (s2.map (V.int .i64))),(12,.int .i64 (s1.length:Int)),(13,.int .i64 p)],[],0⟩:St)∧((0≤p)∧(p≤(s1.length:Int)))∧((s1.length:Int) - p).toNat<n∧ae n f4 d4 p=r) (((s1.length:Int) - 0).toNat+1) _ sbQ sbQ ⟨0,rfl,⟨omQ,omQ⟩,(Nat.lt_succ_self _),hM⟩ ?_
 clear hM
 rintro n4 S ⟨p4,rfl,hfa4,hm4,hM⟩
 replace hM:=aI hM (by omega) hf4;obtain ⟨ag4,hag4,hM⟩:=hM
 replace hfa4:=nzQ hfa4
 replace hm4:=nzQ hm4
 have ha4:al .i64 p4 1=p4+1:=aJ omQ omQ
 replace hF:=(And.intro ha4 hF)
 revert hM;revert hF
 refine slQ ?_
 refine av fun _ _ _=> ?_
 refine az fun _ _ _=> ?_
 intro hF hM
 refine aE (n4 - 1) _ (by omega) sbQ sbQ ⟨(p4+1),rfl,⟨omQ,omQ⟩,omQ,aD hM hag4⟩
set_option maxRecDepth 512 in
instance (priority:=1045):DRD 1 53 33 [7,8,9,10,11,12,13,14,15,16,17,18,19,20,21,22,23,24,25,26,27,28,29,30,31,32,33,34,35,36,37,38,39] [] ([[],[],[0,1],[0,1,2],[0,1,2,3],[0,1,2,3,4],[0,1,2,3,4,5],[0,1,2,3,4,5,6],[0,1,2,3,4],[0,1,2,3,4,8],[0,1,2,3,4,8,9],[0,1,2,3,4,5,6,7,8,9,10],[0,1,2,3,4,5,6,7,8,9,10,11],[0,1,2,3,4,5,6,7,8,9,10,11,12],[0,1,2,3,4,5,6,7,8,9,10,11,12,13],[0,1,2,3,4,5,6,7,8,9,10,11,12,13,14],[0,1,2,3,4,5,6,7,8,9,10,11,12,13,14,15],[0,1,2,3,4,5,6,7,8,9,10,11,12,13],[0,1,2,3,4,5,6,7,8,9,10,11,12,13,17],[0,1,2,3,4,5,6,7,8,9,10,11,12,13,14,15,16,17,18],[0,1,2,3,4,5,6,7,8,9,10,11,12,13,14,15,16,17,18,19],[0,1,2,3,4,5,6,7,8,9,10,11,12,13,14,15,16,17,18,19,20],[0,1,2,3,4,5,6,7,8,9,10,11,12,13,14,15,16,17,18,19,20,21],[0,1,2,3,4,5,6,7,8,9,10,11,12,13,14,15,16,17,18,19,20,21],[0,1,2,3,4,5,6,7,8,9,10,11,12,13,14,15,16,17,18,19,20,21,23],[0,1,2,3,4,5,6,7,8,9,10,11,12,13,14,15,16,17,18,19,20,21,23,24],[0,1,2,3,4,5,6,7,8,9,10,11,12,13,14,15,16,17,18,19,20,21,22,23,24,25],[0,1,2,3,4,5,6,7,8,9,10,11,12,13,14,15,16,17,18,19,20,21,22,23,24,25,26],[0,1,2,3,4,5,6,7,8,9,10,11,12,13,14,15,16,17,18,19,20,21,22,23,24,25,26,27],[0,1,2,3,4,5,6,7,8,9,10,11,12,13,14,15,16,17,18,19,20,21,22,23,24,25,26,27,28],[0,1,2,3,4,5,6,7,8,9,10,11,12,13,14,15,16,17,18,19,20,21,22,23,24,25,26,27,28,29],[0,1,2,3,4,5,6,7,8,9,10,11,12,13,14,15,16,17,18,19,20,21,22,23,24,25,26,27,28,29],[0,1,2,3,4,5,6,7,8,9,10,11,12,13,14,15,16,17,18,19,20,21,22,23,24,25,26,27,28,29,31]]++[List.range 33,List.range 34,List.range 35]) []:=⟨trivial⟩
set_option maxRecDepth 512 in
instance (priority:=1046):DRD 3 53 9 [43,44,45,46,47,48,49,50,51] [] ([[],[],[],[2],[],[4],[0,1,2,3,4,5],[],[7]]++[List.range 9,List.range 10]) []:=⟨trivial⟩
instance TE (g:aP) (r_:cF) (p_:dS):CM En (nK g r_ p_) 173 [.agg [.int .i64 g.P,.int .i64 g.Q,.int .i64 g.G],.agg [.sl none 1 false (r_.Y.map (V.int .i64)),.sl none 1 false (r_.Bases.map (fun (l:List Int)=>V.sl none 1 false (l.map (V.int .i64))))],.agg [.sl none 1 false (p_.A.map (V.int .i64)),.int .i64 p_.C,.sl none 1 false (p_.Z.map (V.int .i64))]] (fun y=> .bool y) (fun _=> []):=by
 refine enQ noJ Tryz.func173 Tryz.ntmps173 (nK.eq_1 ..) fun r hw=> ?_
 refine slQ ?_
 refine ax fun _ _ _ _=> ?_
 refine av fun _ _ _=> ?_
 refine av fun _ _ _=> ?_
 intro hF hM
 replace hM:=ar hM;obtain ⟨x8,hx9,hM⟩:=hM
 have hcx8:=cmH hx9 (Na r_ (by (clear hM;have h9:=iB ‹okR _ _›;omega)))
 refine bA hcx8 clQ clQ ?_
 revert hM;revert hF
 refine slQ ?_
 refine av fun _ _ _=> ?_
 refine ax fun _ _ _ _=> ?_
 refine av fun _ _ _=> ?_
 refine ax fun _ _ _ _=> ?_
 refine az fun _ _ _=> ?_
 intro hF hM
 replace hM:=ar hM;obtain ⟨x22,hx23,hM⟩:=hM
 have hcx22:=cmH hx23 (Nd g r_ (p_.C) (p_.Z) (by (clear hM;first|exact t8 ‹okR _ _› ‹_=gM _› (by omega)|(have h9:=iB ‹okR _ _›;omega))) (by (clear hM;first|exact t8 ‹okR _ _› ‹_=gM _› (by omega)|(have h9:=iB ‹okR _ _›;omega))) (by (clear hM;first|exact t8 ‹okR _ _› ‹_=gM _› (by omega)|(have h9:=iB ‹okR _ _›;omega))) (by (clear hM;first|exact t8 ‹okR _ _› ‹_=gM _› (by omega)|(have h9:=iB ‹okR _ _›;omega))))
 refine bA hcx22 clQ clQ ?_
 exact auP
instance TF (c:Int):CM En (yG c) 260 [.int .u8 c] (fun y=> .bool y) (fun _=> []):=by
 refine enQ noJ Tryz.func260 Tryz.ntmps260 (yG.eq_1 ..) fun r hw=> ?_
 exact auR
instance TG (s:(List Int)):CM En (yH s) 264 [.sl none 1 false (s.map (V.int .u8)),.fn 260 []] (fun y=> .int .i64 y) (fun _=> []):=by
 refine enQ noJ Tryz.func264 Tryz.ntmps264 (yH.eq_1 ..) fun r hw=> ?_
 intro hF hM
 replace hM:=aH hM;obtain ⟨f1,d1,hf1,hd1,hM⟩:=hM
 refine aK (fun n S=> ∃p:Int,S=(⟨[(0,.sl none 1 false (s.map (V.int .u8))),(1,.fn 260 []),(7,.int .i64 (s.length:Int)),(8,.int .i64 p)],[],0⟩:St)∧((0≤p)∧(p≤(s.length:Int)))∧((s.length:Int) - p).toNat<n∧ae n f1 d1 p=r) (((s.length:Int) - 0).toNat+1) _ sbQ sbQ ⟨0,rfl,⟨omQ,omQ⟩,(Nat.lt_succ_self _),hM⟩ ?_
 clear hM
 rintro n1 S ⟨p1,rfl,hfa1,hm1,hM⟩
 replace hM:=aI hM (by omega) hf1;obtain ⟨ag1,hag1,hM⟩:=hM
 replace hfa1:=nzQ hfa1
 replace hm1:=nzQ hm1
 have ha1:al .i64 p1 1=p1+1:=aJ omQ omQ
 replace hF:=(And.intro ha1 hF)
 revert hM;revert hF
 refine slQ ?_
 refine av fun _ _ _=> ?_
 refine ax fun _ _ _ _=> ?_
 refine az fun _ _ _=> ?_
 intro hF hM
 refine aE (n1 - 1) _ (by omega) sbQ sbQ ⟨(p1+1),rfl,⟨omQ,omQ⟩,omQ,aD hM hag1⟩
instance TH (s:(List Int)):CM En (yI s) 259 [.sl none 1 false (s.map (V.int .u8)),.fn 260 []] (fun y=> .bool y) (fun _=> []):=by
 refine enQ noJ Tryz.func259 Tryz.ntmps259 (yI.eq_1 ..) fun r hw=> ?_
 exact auR
instance TJ (label:(List UInt8)):CM En (lY label) 242 [.str label] (fun y=> .bool y) (fun _=> []):=by
 refine enQ noJ Tryz.func242 Tryz.ntmps242 (lY.eq_1 ..) fun r hw=> ?_
 exact auR
instance TK (label:(List UInt8)):CM En (yJ label) 210 [.str label] (fun y=> .tup [(ga y.1),.int .i64 y.2]) (fun _=> []):=by
 refine enQ noJ Tryz.func210 Tryz.ntmps210 (yJ.eq_1 ..) fun r hw=> ?_
 refine ax fun _ _ _ _=> ?_
 refine az fun _ _ _=> ?_
 intro hF hM
 replace hM:=ar hM;obtain ⟨x8,hx9,hM⟩:=hM
 have hcx8:=cmH hx9 (iC ([115,112,101,99,105,101,47,116,114,97,110,115,99,114,105,112,116]) (gG label) (by (exact pfQ)))
 refine fx hcx8 clQ clQ (fun hw10=> ?_)
 replace hw10:=nzQ hw10
 exact auP
instance TL (t:ce):CM En (tJ t) 244 [(ga t)] (fun y=> .bool y) (fun _=> []):=by
 refine enQ noJ Tryz.func244 Tryz.ntmps244 (tJ.eq_1 ..) fun r hw=> ?_
 exact auR
theorem Ea (tag:(List UInt8)) (t:ce) (label:(List UInt8)) (more:(List am)) (hp0:bL more≤100000) (hp1:more.length≤10) (hp2:label.length≤100) (hp3:tag.length≤100):CM En (tK tag t label more) 245 [.str tag,(ga t),.str label,.sl none 4 true (more.map bu)] (fun y=> .tup [(aF y.1),.int .i64 y.2]) (fun _=> []):=by
 refine enQ noJ Tryz.func245 Tryz.ntmps245 (tK.eq_1 ..) fun r hw=> ?_
 refine slQ ?_
 intro hF hM
 replace hM:=ar hM;obtain ⟨x1,hx2,hM⟩:=hM
 have hcx1:=cmH hx2 (kC ({Kind:=3,N:=0,B:=([]:List Int),L:=(([({Kind:=2,N:=0,B:=(bc 32 t.State),L:=([]:List am)}:am),({Kind:=2,N:=0,B:=(gG label),L:=([]:List am)}:am)]:List am)++more)}:am) (by (clear hM;simp only [hgt,bL,qo,dh,mW,List.length_nil];omega)))
 refine lv hcx1 (LW (S:=⟨_,_,_⟩) 3 ((([({Kind:=2,N:=0,B:=(bc 32 t.State),L:=([]:List am)}:am),({Kind:=2,N:=0,B:=(gG label),L:=([]:List am)}:am)]:List am)++more).map bu) rfl sbQ) clQ (fun hw3=> ?_)
 replace hw3:=nzQ hw3
 revert hM;revert hF
 refine slQ ?_
 have hq4:=kA hx2
 replace hq4:=nzQ hq4
 refine az fun _ _ _=> ?_
 intro hF hM
 replace hM:=ar hM;obtain ⟨x8,hx9,hM⟩:=hM
 have hcx8:=cmH hx9 (iC tag (x1.1) (by (exact pfQ)))
 refine aN hcx8 clQ clQ (fun hw10=> ?_)
 replace hw10:=nzQ hw10
 exact auP
end Go.Proofs.YteibkofekpejgaaGreatDoor
namespace Go.Proofs.YteibkofekpejgaaGreatDoor
open Go.RowKit
set_option linter.unusedSimpArgs false
theorem Eb (t:ce) (label:(List UInt8)) (i_:am) (hp0:hgt i_≤10000):CM En (tL t label i_) 243 [(ga t),.str label,.agg [.int .i64 i_.Kind,.int .i64 i_.N,.sl none 1 false (i_.B.map (V.int .u8)),.sl none 4 true (i_.L.map bu)]] (fun y=> .tup [(ga y.1),.int .i64 y.2]) (fun _=> []):=by
 refine enQ noJ Tryz.func243 Tryz.ntmps243 (tL.eq_1 ..) fun r hw=> ?_
 refine ax fun _ _ _ _=> ?_
 refine av fun _ _ _=> ?_
 refine ax fun _ _ _ _=> ?_
 refine az fun _ _ _=> ?_
 intro hF hM
 replace hM:=ar hM;obtain ⟨x13,hx14,hM⟩:=hM
 have hcx13:=cmH hx14 (Ea ([115,112,101,99,105,101,47,97,98,115,111,114,98]) t label ([i_]:List am) (by (clear hM;first|omega|decide|(simp only [bL,List.length_cons,List.length_nil];omega))) (by (clear hM;first|omega|decide|(simp only [bL,List.length_cons,List.length_nil];omega))) (by (clear hM;first|omega|decide|(simp only [bL,List.length_cons,List.length_nil];omega))) (by (clear hM;first|omega|decide|(simp only [bL,List.length_cons,List.length_nil];omega))))
 refine fx hcx13 clQ clQ (fun hw15=> ?_)
 replace hw15:=nzQ hw15
 exact auP
set_option maxRecDepth 512 in
instance (priority:=1047):DRD 1 15 7 [8,9,10,11,12,13,14] [] ([[],[],[],[2],[0,1,2,3],[0,1,2,3,4],[0,1,2,3,4]]++[List.range 7,List.range 8]) []:=⟨trivial⟩
theorem Nf (t:ce) (label:(List UInt8)) (l:(List Int)) (hp0:l.length≤1000):CM En (yK t label l) 212 [(ga t),.str label,.sl none 1 false (l.map (V.int .i64))] (fun y=> .tup [(ga y.1),.int .i64 y.2]) (fun _=> []):=by
 refine enQ noJ Tryz.func212 Tryz.ntmps212 (yK.eq_1 ..) fun r hw=> ?_
 refine slQ ?_
 refine ax fun x1 hx2 _ _=> ?_
 have hq3:=ze hx2
 replace hq3:=nzQ hq3
 intro hF hM
 replace hM:=ar hM;obtain ⟨x4,hx5,hM⟩:=hM
 have hcx4:=cmH hx5 (Eb t label x1 (by (clear hM;omega)))
 refine bA hcx4 clQ clQ ?_
 exact auP
theorem uh (z1:Option Bool) (name:(List UInt8)) (l_:(List Int)) (c0:Int) (c1:ce) (hp0:l_.length≤1000):eC En 211 [.str name,.sl z1 1 false (l_.map (V.int .i64)),.ptr 0 0,.ptr 1 0] [.var 1 false (.int .i64 c0),.var 33 true ((ga c1))] (.tup []) [.var 1 false (.int .i64 (bM name l_ c0 c1).1),.var 33 true (.agg (.int .u8 (gt (bM name l_ c0 c1).2.State 0):: .int .u8 (gt (bM name l_ c0 c1).2.State 1):: .int .u8 (gt (bM name l_ c0 c1).2.State 2):: .int .u8 (gt (bM name l_ c0 c1).2.State 3):: .int .u8 (gt (bM name l_ c0 c1).2.State 4):: .int .u8 (gt (bM name l_ c0 c1).2.State 5):: .int .u8 (gt (bM name l_ c0 c1).2.State 6):: .int .u8 (gt (bM name l_ c0 c1).2.State 7):: .int .u8 (gt (bM name l_ c0 c1).2.State 8):: .int .u8 (gt (bM name l_ c0 c1).2.State 9):: .int .u8 (gt (bM name l_ c0 c1).2.State 10):: .int .u8 (gt (bM name l_ c0 c1).2.State 11):: .int .u8 (gt (bM name l_ c0 c1).2.State 12):: .int .u8 (gt (bM name l_ c0 c1).2.State 13):: .int .u8 (gt (bM name l_ c0 c1).2.State 14):: .int .u8 (gt (bM name l_ c0 c1).2.State 15):: .int .u8 (gt (bM name l_ c0 c1).2.State 16):: .int .u8 (gt (bM name l_ c0 c1).2.State 17):: .int .u8 (gt (bM name l_ c0 c1).2.State 18):: .int .u8 (gt (bM name l_ c0 c1).2.State 19):: .int .u8 (gt (bM name l_ c0 c1).2.State 20):: .int .u8 (gt (bM name l_ c0 c1).2.State 21):: .int .u8 (gt (bM name l_ c0 c1).2.State 22):: .int .u8 (gt (bM name l_ c0 c1).2.State 23):: .int .u8 (gt (bM name l_ c0 c1).2.State 24):: .int .u8 (gt (bM name l_ c0 c1).2.State 25):: .int .u8 (gt (bM name l_ c0 c1).2.State 26):: .int .u8 (gt (bM name l_ c0 c1).2.State 27):: .int .u8 (gt (bM name l_ c0 c1).2.State 28):: .int .u8 (gt (bM name l_ c0 c1).2.State 29):: .int .u8 (gt (bM name l_ c0 c1).2.State 30):: .int .u8 (gt (bM name l_ c0 c1).2.State 31):: .int .i64 (bM name l_ c0 c1).2.Count::[]))] []:=by
 generalize hM:bM name l_ c0 c1=r
 rw [bM.eq_1] at hM
 refine pj aU bJ noJ Tryz.func211 rfl Tryz.ntmps211 (by kernel_rfl) rfl fun ks hw hwB=>bP ?_
 refine spQ ?_
 replace hw:=nzQ hw
 replace hwB:=nzB hwB
 have hF:=m6
 revert hM;revert hF
 refine cdQ (fun _ _ _=> ?_) (fun _ _ _=> ?_)
 ·intro hF hM
  replace hM:=ar hM;obtain ⟨x3,hx4,hM⟩:=hM
  have hcx3:=cmH hx4 (Nf c1 name l_ (by (exact hp0)))
  refine aN hcx3 clQ clQ (fun hw5=> ?_)
  replace hw5:=nzQ hw5
  revert hM;revert hF
  refine slQ ?_
  intro hF hM
  subst hM
  exact jf [0,1] (cO hF) (by decide) (cO hF)
 ·intro hF hM
  subst hM
  exact jf [0,1] (cO hF) (by decide) (cO hF)
instance TM (t:ce) (label:(List UInt8)) (q:Int):CM En (yL t label q) 213 [(ga t),.str label,.int .i64 q] (fun y=> .tup [(ga y.1),.int .i64 y.2.1,.int .i64 y.2.2]) (fun _=> []):=by
 refine enQ noJ Tryz.func213 Tryz.ntmps213 (yL.eq_1 ..) fun r hw=> ?_
 refine ax fun _ _ _ _=> ?_
 refine av fun _ _ _=> ?_
 refine ax fun _ _ _ _=> ?_
 refine az fun _ _ _=> ?_
 refine av fun _ _ _=> ?_
 refine az fun _ _ _=> ?_
 refine az fun _ _ _=> ?_
 intro hF hM
 replace hM:=ar hM;obtain ⟨x21,hx22,hM⟩:=hM
 have hcx21:=cmH hx22 (Ea ([115,112,101,99,105,101,47,99,104,97,108,108,101,110,103,101]) t label ([]:List am) (by (clear hM;first|omega|decide|(simp only [bL,List.length_cons,List.length_nil];omega))) (by (clear hM;first|omega|decide|(simp only [bL,List.length_cons,List.length_nil];omega))) (by (clear hM;first|omega|decide|(simp only [bL,List.length_cons,List.length_nil];omega))) (by (clear hM;first|omega|decide|(simp only [bL,List.length_cons,List.length_nil];omega))))
 refine aN hcx21 clQ clQ (fun hw23=> ?_)
 replace hw23:=nzQ hw23
 revert hM;revert hF
 refine slQ ?_
 refine az fun _ _ _=> ?_
 refine ax fun x27 _ _ _=> ?_
 refine az fun _ _ _=> ?_
 intro hF hM
 replace hM:=ar hM;obtain ⟨x33,hx34,hM⟩:=hM
 have hcx33:=cmH hx34 (Eb t label ({Kind:=1,N:=x27.1,B:=([]:List Int),L:=([]:List am)}:am) (by (clear hM;simp only [hgt,bL,List.length_nil];omega)))
 refine aN hcx33 clQ clQ (fun hw35=> ?_)
 replace hw35:=nzQ hw35
 exact auP
set_option maxRecDepth 512 in
instance (priority:=1048):DRD 12 63 2 [8,52] [] ([[],[]]++[List.range 2]) []:=⟨trivial⟩
set_option maxRecDepth 512 in
instance (priority:=1049):DRD 14 63 3 [8,61,62] [] ([[],[],[0]]++[List.range 3]) []:=⟨trivial⟩
theorem Ng (g:aP) (r_:cF) (a_:(List Int)) (label:(List UInt8)) (hp0:okR g r_) (hp1:a_.length≤8):CM En (yM g r_ a_ label) 174 [.agg [.int .i64 g.P,.int .i64 g.Q,.int .i64 g.G],.agg [.sl none 1 false (r_.Y.map (V.int .i64)),.sl none 1 false (r_.Bases.map (fun (l:List Int)=>V.sl none 1 false (l.map (V.int .i64))))],.sl none 1 false (a_.map (V.int .i64)),.str label] (fun y=> .tup [.int .i64 y.1,.int .i64 y.2]) (fun _=> []):=by
 refine enQ noJ Tryz.func174 Tryz.ntmps174 (yM.eq_1 ..) fun r hw=> ?_
 have h0_0:=iB hp0
 refine ax fun x1 _ _ _=> ?_
 intro hF hM
 replace hM:=ar hM;obtain ⟨x4,hx5,hM⟩:=hM
 have hcx4:=uh (some false) ([103,114,111,117,112]) ([g.P,g.Q,g.G]:List Int) (x1.2) (x1.1) (by (clear hM;first|omega|exact t7 hp0 (by omega)|(simp only [List.length_cons,List.length_nil];omega)))
 rw [←hx5] at hcx4
 refine CC [3,2] hcx4 (ie 4 (T:=3) (n:=1) (g:=false) (z:=(some false)) (l:=([g.P,g.Q,g.G]:List Int).map (V.int .i64)) clQ) (by decide) lsQ lsQ (fun hw6=> ?_)
 replace hw6:=nzQ hw6
 revert hM;revert hF
 refine slQ ?_
 intro hF hM
 replace hM:=ar hM;obtain ⟨x7,hx8,hM⟩:=hM
 have hcx7:=uh none ([121]) (r_.Y) (x4.1) (x4.2) (by (clear hM;first|omega|exact t7 hp0 (by omega)|(simp only [List.length_cons,List.length_nil];omega)))
 rw [←hx8] at hcx7
 refine jY [3,2] hcx7 (by decide) lsQ lsQ (fun hw9=> ?_)
 replace hw9:=nzQ hw9
 revert hM;revert hF
 refine slQ ?_
 intro hF hM
 replace hM:=aH hM;obtain ⟨f10,d10,hf10,hd10,hM⟩:=hM
 refine aK (fun n S=> ∃p:Int×ce×Int,S=(⟨[(2,.sl none 1 false (a_.map (V.int .i64))),(4,.ptr 0 0),(10,.ptr 2 0),(11,.ptr 3 0),(12,.fn 211 [.ptr 3 0,.ptr 2 0]),(37,.sl none 1 false (r_.Bases.map (fun (l:List Int)=>V.sl none 1 false (l.map (V.int .i64))))),(38,.int .i64 (r_.Bases.length:Int)),(39,.int .i64 p.1)],[(0,.var 3 true (.agg [.int .i64 g.P,.int .i64 g.Q,.int .i64 g.G])),(2,.var 33 true ((ga p.2.1))),(3,.var 1 false (.int .i64 p.2.2))],5⟩:St)∧((0≤p.1)∧(p.1≤(r_.Bases.length:Int)))∧((r_.Bases.length:Int) - p.1).toNat<n∧ae n f10 d10 p=r) (((r_.Bases.length:Int) - 0).toNat+1) _ sbQ sbQ ⟨(0,x7.2,x7.1),rfl,⟨omQ,omQ⟩,(Nat.lt_succ_self _),hM⟩ ?_
 clear hM
 rintro n10 S ⟨p10,rfl,hfa10,hm10,hM⟩
 replace hM:=aI hM (by omega) hf10;obtain ⟨ag10,hag10,hM⟩:=hM
 replace hfa10:=nzQ hfa10
 replace hm10:=nzQ hm10
 have ha10:al .i64 p10.1 1=p10.1+1:=aJ omQ omQ
 replace hF:=(And.intro ha10 hF)
 revert hM;revert hF
 refine slQ ?_
 refine cdQ (fun _ _ _=> ?_) (fun _ _ _=> ?_)
 ·intro hF hM
  replace hM:=ar hM;obtain ⟨x14,hx15,hM⟩:=hM
  have hcx14:=uh none ([98,97,115,101,115]) (gt r_.Bases p10.1) (p10.2.2) (p10.2.1) (by (clear hM;first|omega|exact t7 hp0 (by omega)|(simp only [List.length_cons,List.length_nil];omega)))
  rw [←hx15] at hcx14
  refine jY [3,2] hcx14 (by decide) (cO hF) (cO hF) (fun hw16=> ?_)
  replace hw16:=nzQ hw16
  revert hM;revert hF
  refine slQ ?_
  intro hF hM
  refine aE (n10 - 1) _ (by omega) sbQ sbQ ⟨((p10.1+1),x14.2,x14.1),rfl,⟨omQ,omQ⟩,omQ,aD hM hag10⟩
 ·intro hF hM
  replace hM:=ar hM;obtain ⟨x18,hx19,hM⟩:=hM
  have hcx18:=uh none ([99,111,109,109,105,116]) a_ (p10.2.2) (p10.2.1) (by (clear hM;first|omega|exact t7 hp0 (by omega)|(simp only [List.length_cons,List.length_nil];omega)))
  rw [←hx19] at hcx18
  refine jY [3,2] hcx18 (by decide) (cO hF) (cO hF) (fun hw20=> ?_)
  replace hw20:=nzQ hw20
  exact auP
instance TN (g:aP) (r_:cF) (label:(List UInt8)) (p_:dS):CM En (yN g r_ label p_) 141 [.agg [.int .i64 g.P,.int .i64 g.Q,.int .i64 g.G],.agg [.sl none 1 false (r_.Y.map (V.int .i64)),.sl none 1 false (r_.Bases.map (fun (l:List Int)=>V.sl none 1 false (l.map (V.int .i64))))],.str label,.agg [.sl none 1 false (p_.A.map (V.int .i64)),.int .i64 p_.C,.sl none 1 false (p_.Z.map (V.int .i64))]] (fun y=> .bool y) (fun _=> []):=by
 refine enQ noJ Tryz.func141 Tryz.ntmps141 (yN.eq_1 ..) fun r hw=> ?_
 refine ax fun _ _ _ _=> ?_
 refine az fun _ _ _=> ?_
 intro hF hM
 replace hM:=ar hM;obtain ⟨x8,hx9,hM⟩:=hM
 have hcx8:=cmH hx9 (Ng g r_ (p_.A) label (by (clear hM;first|assumption|exact (‹okR _ _∧_›).1|(have h9:=‹okR _ _∧_›;have h8:=iB h9.1;omega)|(have h8:=iB ‹okR _ _›;omega))) (by (clear hM;first|assumption|exact (‹okR _ _∧_›).1|(have h9:=‹okR _ _∧_›;have h8:=iB h9.1;omega)|(have h8:=iB ‹okR _ _›;omega))))
 refine aN hcx8 clQ clQ (fun hw10=> ?_)
 replace hw10:=nzQ hw10
 exact auP
instance TO (b:aX) (y:Int) (pseudonym:Int) (label:(List UInt8)) (x_:b9):CM En (yO b y pseudonym label x_) 106 [(bS b),.int .i64 y,.int .i64 pseudonym,.str label,(bz x_)] (fun y=> .bool y) (fun _=> []):=by
 refine enQ noJ Tryz.func106 Tryz.ntmps106 (yO.eq_1 ..) fun r hw=> ?_
 exact auR
set_option maxRecDepth 512 in
instance (priority:=1050):DRD 10 55 14 [38,39,40,41,42,43,44,45,46,47,48,49,50,51] [] ([[],[0],[],[2],[],[4],[4,5],[],[],[8],[8,9],[],[8,9,10,11],[8,9,10,11,12]]++[List.range 14,List.range 15]) []:=⟨trivial⟩
theorem Nh (k_:ci) (hp0:okK k_):CM En (tM k_) 61 [(bE k_)] (fun y=> .bool y) (fun _=> []):=by
 refine enQ noJ Tryz.func61 Tryz.ntmps61 (tM.eq_1 ..) fun r hw=> ?_
 have h0_0:=fH hp0
 refine az fun _ _ _=> ?_
 refine ax fun x4 _ _ _=> ?_
 intro hF hM
 replace hM:=ar hM;obtain ⟨x7,hx8,hM⟩:=hM
 have hcx7:=cmH hx8 (D9 k_ (by (exact hp0)))
 refine aN hcx7 clQ clQ (fun hw9=> ?_)
 replace hw9:=nzQ hw9
 revert hM;revert hF
 refine slQ ?_
 have hq10:=DK hp0 hx8
 replace hq10:=nzQ hq10
 refine az fun _ _ _=> ?_
 intro hF hM
 replace hM:=aH hM;obtain ⟨f14,d14,hf14,hd14,hM⟩:=hM
 refine aK (fun n S=> ∃p:Int,S=(⟨[(1,.ptr 0 0),(3,.str x4.1),(31,.sl none 80 true (x7.map aM)),(32,.int .i64 (x7.length:Int)),(33,.int .i64 p)],[(0,.var 47 true ((bE k_)))],1⟩:St)∧((0≤p)∧(p≤(x7.length:Int)))∧((x7.length:Int) - p).toNat<n∧ae n f14 d14 p=r) (((x7.length:Int) - 0).toNat+1) _ sbQ sbQ ⟨0,rfl,⟨omQ,omQ⟩,(Nat.lt_succ_self _),hM⟩ ?_
 clear hM
 rintro n14 S ⟨p14,rfl,hfa14,hm14,hM⟩
 replace hM:=aI hM (by omega) hf14;obtain ⟨ag14,hag14,hM⟩:=hM
 replace hfa14:=nzQ hfa14
 replace hm14:=nzQ hm14
 have ha14:al .i64 p14 1=p14+1:=aJ omQ omQ
 replace hF:=(And.intro ha14 hF)
 revert hM;revert hF
 refine slQ ?_
 refine av fun _ _ _=> ?_
 refine ax fun _ _ _ _=> ?_
 refine az fun _ _ _=> ?_
 intro hF hM
 refine aE (n14 - 1) _ (by omega) sbQ sbQ ⟨(p14+1),rfl,⟨omQ,omQ⟩,omQ,aD hM hag14⟩
instance TP (r_:bg) (s:au):CM En (tN r_ s) 107 [(cP r_),(aM s)] (fun y=> .tup [.int .i64 y.1,.int .i64 y.2]) (fun _=> []):=by
 refine enQ noJ Tryz.func107 Tryz.ntmps107 (tN.eq_1 ..) fun r hw=> ?_
 exact auR
instance TQ (l:(List bg)) (h_:bh):CM En (yP l h_) 108 [.sl none 11 true (l.map cP),(bf h_)] (fun y=> .tup [.int .i64 y.1,.int .i64 y.2]) (fun _=> []):=by
 refine enQ noJ Tryz.func108 Tryz.ntmps108 (yP.eq_1 ..) fun r hw=> ?_
 exact auR
theorem Ni (k_:ci) (hp0:okK k_):CM En (yQ k_) 63 [(bE k_)] (fun y=> .int .i64 y) (fun _=> []):=by
 refine enQ noJ Tryz.func63 Tryz.ntmps63 (yQ.eq_1 ..) fun r hw=> ?_
 have h0_0:=fH hp0
 intro hF hM
 replace hM:=aH hM;obtain ⟨f1,d1,hf1,hd1,hM⟩:=hM
 refine aK (fun n S=> ∃p:Int×Int,S=(⟨[(1,.ptr 0 0),(3,.int .i64 p.1),(16,.sl none 80 true (k_.p.Spends.map aM)),(17,.int .i64 (k_.p.Spends.length:Int)),(18,.int .i64 p.2)],[(0,.var 47 true ((bE k_)))],1⟩:St)∧((0≤p.2)∧(p.2≤(k_.p.Spends.length:Int)))∧((k_.p.Spends.length:Int) - p.2).toNat<n∧ae n f1 d1 p=r) (((k_.p.Spends.length:Int) - 0).toNat+1) _ sbQ sbQ ⟨(0,0),rfl,⟨omQ,omQ⟩,(Nat.lt_succ_self _),hM⟩ ?_
 clear hM
 rintro n1 S ⟨p1,rfl,hfa1,hm1,hM⟩
 replace hM:=aI hM (by omega) hf1;obtain ⟨ag1,hag1,hM⟩:=hM
 replace hfa1:=nzQ hfa1
 replace hm1:=nzQ hm1
 have ha1:al .i64 p1.2 1=p1.2+1:=aJ omQ omQ
 replace hF:=(And.intro ha1 hF)
 revert hM;revert hF
 refine slQ ?_
 refine cdQ (fun _ _ _=> ?_) (fun _ _ _=> ?_)
 ·intro hF hM
  replace hM:=ar hM;obtain ⟨x5,hx6,hM⟩:=hM
  have hcx5:=cmH hx6 (ug k_ ((gt k_.p.Spends p1.2).Coin) (by (exact hp0)))
  refine aN hcx5 (ao hF) (ao hF) (fun hw7=> ?_)
  replace hw7:=nzQ hw7
  revert hM;revert hF
  refine slQ ?_
  refine ax fun x8 _ _ _=> ?_
  intro hF hM
  refine aE (n1 - 1) _ (by omega) sbQ sbQ ⟨((al .i64 p1.1 x8.1),(p1.2+1)),rfl,⟨omQ,omQ⟩,omQ,aD hM hag1⟩
 ·intro hF hM
  replace hM:=aH hM;obtain ⟨f12,d12,hf12,hd12,hM⟩:=hM
  refine aK (fun n S=> ∃p:Int×Int,S=(⟨[(1,.ptr 0 0),(3,.int .i64 p.1),(41,.sl none 81 true (k_.p.Chains.map bf)),(42,.int .i64 (k_.p.Chains.length:Int)),(43,.int .i64 p.2)],[(0,.var 47 true ((bE k_)))],1⟩:St)∧((0≤p.2)∧(p.2≤(k_.p.Chains.length:Int)))∧((k_.p.Chains.length:Int) - p.2).toNat<n∧ae n f12 d12 p=r) (((k_.p.Chains.length:Int) - 0).toNat+1) _ sbQ sbQ ⟨(p1.1,0),rfl,⟨omQ,omQ⟩,(Nat.lt_succ_self _),hM⟩ ?_
  clear hM
  rintro n12 S ⟨p12,rfl,hfa12,hm12,hM⟩
  replace hM:=aI hM (by omega) hf12;obtain ⟨ag12,hag12,hM⟩:=hM
  replace hfa12:=nzQ hfa12
  replace hm12:=nzQ hm12
  have ha12:al .i64 p12.2 1=p12.2+1:=aJ omQ omQ
  replace hF:=(And.intro ha12 hF)
  revert hM;revert hF
  refine slQ ?_
  refine av fun _ _ _=> ?_
  refine ax fun x16 _ _ _=> ?_
  intro hF hM
  refine aE (n12 - 1) _ (by omega) sbQ sbQ ⟨((al .i64 p12.1 x16.1),(p12.2+1)),rfl,⟨omQ,omQ⟩,omQ,aD hM hag12⟩
set_option maxRecDepth 512 in
instance (priority:=1051):DRD 1 8 4 [3,4,5,6] [] ([[],[0],[],[2]]++[List.range 4,List.range 5]) []:=⟨trivial⟩
theorem Nj (c0:ci) (c1:aL) (hp0:okK c0):CM En (tO c0 c1) 62 [.pp 47 true ((bE c0)),.pp 35 true ((aY c1))] (fun y=> .bool y) (fun _=> []):=by
 refine enQ noJ Tryz.func62 Tryz.ntmps62 (tO.eq_1 ..) fun r hw=> ?_
 refine slQ ?_
 intro hF hM
 replace hM:=ar hM;obtain ⟨x1,hx2,hM⟩:=hM
 have hcx1:=cmH hx2 (Ni c0 (by (exact hp0)))
 refine bA hcx1 clQ clQ ?_
 exact auP
end Go.Proofs.YteibkofekpejgaaGreatDoor
