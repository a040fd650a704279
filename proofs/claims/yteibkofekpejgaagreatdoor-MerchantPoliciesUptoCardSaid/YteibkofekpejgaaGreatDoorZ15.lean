/- Texts of this proof, one after the other: U3, U4. -/
import Derived.Test.YteibkofekpejgaaGreatDoorZ14
set_option linter.unusedVariables false
set_option linter.unusedSimpArgs false
set_option maxHeartbeats 2000000
set_option maxRecDepth 100000
namespace Go.Proofs.YteibkofekpejgaaGreatDoor
open Go.RowKit
set_option linter.unusedSimpArgs false
set_option maxRecDepth 512 in
instance (priority:=1028):DRD 1 8 3 [4,5,6] [] ([[],[],[1]]++[List.range 3,List.range 4]) []:=⟨trivial⟩
theorem Nc (d_:Int) (c0:Int) (hp0:0≤d_):CM En (yw d_ c0) 195 [.int .i64 d_,.pp 1 false (.int .i64 c0)] (fun y=> .bool y) (fun _=> []):=by
 refine enQ noJ Tryz.func195 Tryz.ntmps195 (yw.eq_1 ..) fun r hw=> ?_
 exact auR
theorem Nd (s:(List Int)) (f__c0:Int) (hp0: ∀j:Int,0≤j→j.toNat<s.length→0≤gt s j):CM En (yx s f__c0) 229 [.sl none 1 false (s.map (V.int .i64)),.fn 195 [.pp 1 false (.int .i64 f__c0)]] (fun y=> .int .i64 y) (fun _=> []):=by
 refine enQ noJ Tryz.func229 Tryz.ntmps229 (yx.eq_1 ..) fun r hw=> ?_
 intro hF hM
 replace hM:=aF hM;obtain ⟨f1,d1,hf1,hd1,hM⟩:=hM
 refine aL (fun n S=> ∃p:Int,S=(⟨[(0,.sl none 1 false (s.map (V.int .i64))),(1,.fn 195 [.pp 1 false (.int .i64 f__c0)]),(7,.int .i64 (s.length:Int)),(8,.int .i64 p)],[],0⟩:St)∧((0≤p)∧(p≤(s.length:Int)))∧((s.length:Int) - p).toNat<n∧ae n f1 d1 p=r) (((s.length:Int) - 0).toNat+1) _ sbQ sbQ ⟨0,rfl,⟨omQ,omQ⟩,(Nat.lt_succ_self _),hM⟩ ?_
 clear hM
 rintro n1 S ⟨p1,rfl,hfa1,hm1,hM⟩
 replace hM:=aG hM (by omega) hf1;obtain ⟨ag1,hag1,hM⟩:=hM
 replace hfa1:=nzQ hfa1
 replace hm1:=nzQ hm1
 have ha1:al .i64 p1 1=p1+1:=aJ omQ omQ
 replace hF:=(And.intro ha1 hF)
 revert hM;revert hF
 refine slQ ?_
 refine aq fun _ _ _=> ?_
 intro hF hM
 replace hM:=aw hM;obtain ⟨x5,hx6,hM⟩:=hM
 have hcx5:=cmH hx6 (Nc (gt s p1) f__c0 (by (exact hp0 _ (by omega) (by omega))))
 refine aP hcx5 (an hF) (an hF) (fun hw7=> ?_)
 replace hw7:=nzQ hw7
 revert hM;revert hF
 refine slQ ?_
 refine az fun _ _ _=> ?_
 intro hF hM
 refine aC (n1 - 1) _ (by omega) sbQ sbQ ⟨(p1+1),rfl,⟨omQ,omQ⟩,omQ,aB hM hag1⟩
theorem Nf (s:(List Int)) (f__c0:Int) (hp0: ∀j:Int,0≤j→j.toNat<s.length→0≤gt s j):CM En (yy s f__c0) 194 [.sl none 1 false (s.map (V.int .i64)),.fn 195 [.pp 1 false (.int .i64 f__c0)]] (fun y=> .bool y) (fun _=> []):=by
 refine enQ noJ Tryz.func194 Tryz.ntmps194 (yy.eq_1 ..) fun r hw=> ?_
 intro hF hM
 replace hM:=aw hM;obtain ⟨x1,hx2,hM⟩:=hM
 have hcx1:=cmH hx2 (Nd s f__c0 (by (exact hp0)))
 refine aP hcx1 clQ clQ (fun hw3=> ?_)
 replace hw3:=nzQ hw3
 exact auP
instance Tp (n_:Int):CM En (yz n_) 160 [.int .i64 n_] (fun y=> .bool y) (fun _=> []):=by
 refine enQ noJ Tryz.func160 Tryz.ntmps160 (yz.eq_1 ..) fun r hw=> ?_
 intro hF hM
 replace hM:=aw hM;obtain ⟨x1,hx2,hM⟩:=hM
 have hcx1:=cmH hx2 (Nf ([0,1,2,3,4,5]:List Int) n_ (by (exact Lr)))
 refine fD hcx1 clQ clQ (fun hw3=> ?_)
 replace hw3:=nzQ hw3
 exact auP
instance Tq (b:(List Int)):CM En (yA b) 161 [.sl none 1 false (b.map (V.int .u8))] (fun y=> .tup [(aH y.1),.int .i64 y.2]) (fun _=> []):=by
 refine enQ noJ Tryz.func161 Tryz.ntmps161 (yA.eq_1 ..) fun r hw=> ?_
 refine az fun _ _ _=> ?_
 intro hF hM
 replace hM:=aw hM;obtain ⟨x4,hx5,hM⟩:=hM
 have hcx4:=cmH hx5 (iI ([115,112,101,99,105,101,47,108,101,97,102]) b (by (exact pfQ)))
 refine aP hcx4 clQ clQ (fun hw6=> ?_)
 replace hw6:=nzQ hw6
 exact auP
instance Tr (b:aY) (l:(List Int)):CM En (yB b l) 130 [(bL b),.sl none 1 false (l.map (V.int .i64))] (fun y=> .tup [.sl none 32 true (y.1.map aH),.int .i64 y.2]) (fun _=> []):=by
 refine enQ noJ Tryz.func130 Tryz.ntmps130 (yB.eq_1 ..) fun r hw=> ?_
 refine ax fun _ _ _ _=> ?_
 refine aq fun _ _ _=> ?_
 refine ax fun _ _ _ _=> ?_
 refine az fun _ _ _=> ?_
 intro hF hM
 replace hM:=aF hM;obtain ⟨f12,d12,hf12,hd12,hM⟩:=hM
 refine dZ (fun n S=> ∃p:Int×List (List Int),S=(⟨[(2,.ptr 0 0),(6,.own 1),(22,.sl none 1 false (l.map (V.int .i64))),(23,.int .i64 (l.length:Int)),(24,.int .i64 p.1)],[(0,.var 6 true ((bL b))),(1,.own 28 32 true none (p.2.map aH))],2⟩:St)∧((0≤p.1)∧(p.1≤(l.length:Int))∧(((p.2).length:Int)≤p.1))∧((l.length:Int) - p.1).toNat<n∧ae n f12 d12 p=r) (((l.length:Int) - 0).toNat+1) _ _ (gI 6 28 rfl (by decide)) sbQ sbQ ⟨(0,([]:List (List Int))),rfl,⟨omQ,omQ,omQ⟩,(Nat.lt_succ_self _),hM⟩ ?_
 clear hM
 rintro n12 S ⟨p12,rfl,hfa12,hm12,hM⟩
 replace hM:=aG hM (by omega) hf12;obtain ⟨ag12,hag12,hM⟩:=hM
 replace hfa12:=nzQ hfa12
 replace hm12:=nzQ hm12
 have ha12:al .i64 p12.1 1=p12.1+1:=aJ omQ omQ
 replace hF:=(And.intro ha12 hF)
 revert hM;revert hF
 refine slQ ?_
 refine aq fun _ _ _=> ?_
 refine ax fun _ _ _ _=> ?_
 refine az fun _ _ _=> ?_
 intro hF hM
 replace hM:=aw hM;obtain ⟨x22,hx23,hM⟩:=hM
 have hcx22:=cmH hx23 (kK ({Kind:=1,N:=(gt l p12.1),B:=([]:List Int),L:=([]:List am)}:am) (by (simp [hgt,bM])))
 refine aP hcx22 (an hF) (an hF) (fun hw24=> ?_)
 replace hw24:=nzQ hw24
 revert hM;revert hF
 refine slQ ?_
 have hq25:=kI hx23
 replace hq25:=nzQ hq25
 refine ax fun x26 _ _ _=> ?_
 intro hF hM
 refine aC (n12 - 1) _ (by omega) sbQ sbQ ⟨((p12.1+1),(p12.2++([x26.1]:List (List Int)))),rfl,⟨omQ,omQ,omQ⟩,omQ,aB hM hag12⟩
instance Tt (n_:Int):CM En (kC n_) 230 [.int .i64 n_] (fun y=> .tup [.int .i64 y.1,.int .i64 y.2]) (fun _=> []):=by
 refine enQ noJ Tryz.func230 Tryz.ntmps230 (kC.eq_1 ..) fun r hw=> ?_
 intro hF hM
 replace hM:=aF hM;obtain ⟨f1,d1,hf1,hd1,hM⟩:=hM
 refine aL (fun n S=> ∃p:Int,S=(⟨[(0,.int .i64 n_),(5,.int .i64 p)],[],0⟩:St)∧((0≤p)∧(p≤11))∧((11:Int) - p).toNat<n∧ae n f1 d1 p=r) (((11:Int) - 0).toNat+1) _ sbQ sbQ ⟨0,rfl,⟨omQ,omQ⟩,(Nat.lt_succ_self _),hM⟩ ?_
 clear hM
 rintro n1 S ⟨p1,rfl,hfa1,hm1,hM⟩
 replace hM:=aG hM (by omega) hf1;obtain ⟨ag1,hag1,hM⟩:=hM
 replace hfa1:=nzQ hfa1
 replace hm1:=nzQ hm1
 have ha1:al .i64 p1 1=p1+1:=aJ omQ omQ
 replace hF:=(And.intro ha1 hF)
 revert hM;revert hF
 refine slQ ?_
 refine aq fun _ _ _=> ?_
 refine az fun _ _ _=> ?_
 intro hF hM
 refine aC (n1 - 1) _ (by omega) sbQ sbQ ⟨(p1+1),rfl,⟨omQ,omQ⟩,omQ,aB hM hag1⟩
theorem Ng (slices:(List (List Int))) (hp0:slices.length≤2) (hp1: ∀j:Int,(gt slices j).length≤32):CM En (nR slices) 232 [.sl none 1 false (slices.map (fun (l:List Int)=>V.sl none 1 false (l.map (V.int .u8))))] (fun _=> .own 0) (fun y=> [.own 5 1 false none (y.map (V.int .u8))]):=by
 refine enQ noJ Tryz.func232 Tryz.ntmps232 (nR.eq_1 ..) fun r hw=> ?_
 intro hF hM
 replace hM:=aF hM;obtain ⟨f1,d1,hf1,hd1,hM⟩:=hM
 refine aL (fun n S=> ∃p:Int×Int,S=(⟨[(0,.sl none 1 false (slices.map (fun (l:List Int)=>V.sl none 1 false (l.map (V.int .u8))))),(3,.int .i64 p.1),(9,.sl none 1 false (slices.map (fun (l:List Int)=>V.sl none 1 false (l.map (V.int .u8))))),(10,.int .i64 (slices.length:Int)),(11,.int .i64 p.2)],[],0⟩:St)∧((0≤p.2)∧(p.2≤(slices.length:Int))∧(0≤p.1)∧(p.1≤32*p.2))∧((slices.length:Int) - p.2).toNat<n∧ae n f1 d1 p=r) (((slices.length:Int) - 0).toNat+1) _ sbQ sbQ ⟨(0,0),rfl,⟨by (first|exact omQ|(clear hM;first|(have h9:=hp1 p1.2;exact ao)|(have h9:=hp1 p13.1;exact ao)|(have h9:=hp1 p14.1;exact ao))),by (first|exact omQ|(clear hM;first|(have h9:=hp1 p1.2;exact ao)|(have h9:=hp1 p13.1;exact ao)|(have h9:=hp1 p14.1;exact ao))),by (first|exact omQ|(clear hM;first|(have h9:=hp1 p1.2;exact ao)|(have h9:=hp1 p13.1;exact ao)|(have h9:=hp1 p14.1;exact ao))),by (first|exact omQ|(clear hM;first|(have h9:=hp1 p1.2;exact ao)|(have h9:=hp1 p13.1;exact ao)|(have h9:=hp1 p14.1;exact ao)))⟩,(Nat.lt_succ_self _),hM⟩ ?_
 clear hM
 rintro n1 S ⟨p1,rfl,hfa1,hm1,hM⟩
 have hG0:=hp1 p1.2
 replace hM:=aG hM (by omega) hf1;obtain ⟨ag1,hag1,hM⟩:=hM
 replace hfa1:=nzQ hfa1
 replace hm1:=nzQ hm1
 have ha1:al .i64 p1.2 1=p1.2+1:=aJ (by (first|exact omQ|(clear hM;first|(have h9:=hp1 p1.2;exact ao)|(have h9:=hp1 p13.1;exact ao)|(have h9:=hp1 p14.1;exact ao)))) (by (first|exact omQ|(clear hM;first|(have h9:=hp1 p1.2;exact ao)|(have h9:=hp1 p13.1;exact ao)|(have h9:=hp1 p14.1;exact ao))))
 replace hF:=(And.intro ha1 hF)
 revert hM;revert hF
 refine slQ ?_
 refine cdQ (fun _ _ _=> ?_) (fun _ _ _=> ?_)
 ·intro hF hM
  try refine bA (by (first|exact omQ|(clear hM;first|(have h9:=hp1 p1.2;exact ao)|(have h9:=hp1 p13.1;exact ao)|(have h9:=hp1 p14.1;exact ao)))) ?_
  have he4:=fun d=>cM (l:=slices) (f:=(fun (l:List Int)=>V.sl none 1 false (l.map (V.int .u8)))) (i:=p1.2) (by (first|exact omQ|(clear hM;first|(have h9:=hp1 p1.2;exact ao)|(have h9:=hp1 p13.1;exact ao)|(have h9:=hp1 p14.1;exact ao)))) d
  replace hF:=(And.intro he4 hF)
  revert hM;revert hF
  refine slQ ?_
  intro hF hM
  have ha5:al .i64 p1.1 ((gt slices p1.2).length:Int)=(p1.1+((gt slices p1.2).length:Int)):=jd (by (first|exact omQ|(clear hM;first|(have h9:=hp1 p1.2;exact ao)|(have h9:=hp1 p13.1;exact ao)|(have h9:=hp1 p14.1;exact ao)))) (by (first|exact omQ|(clear hM;first|(have h9:=hp1 p1.2;exact ao)|(have h9:=hp1 p13.1;exact ao)|(have h9:=hp1 p14.1;exact ao))))
  try simp only [ha5]
  replace hF:=(And.intro ha5 hF)
  revert hM;revert hF
  refine cdQ (fun _ _ _=> ?_) (fun _ _ _=> ?_)
  ·intro hF hM
   exact False.elim (by (first|exact omQ|(clear hM;first|(have h9:=hp1 p1.2;exact ao)|(have h9:=hp1 p13.1;exact ao)|(have h9:=hp1 p14.1;exact ao))))
  ·intro hF hM
   refine aC (n1 - 1) _ (by omega) sbQ sbQ ⟨((p1.1+((gt slices p1.2).length:Int)),(p1.2+1)),rfl,⟨by (first|exact omQ|(clear hM;first|(have h9:=hp1 p1.2;exact ao)|(have h9:=hp1 p13.1;exact ao)|(have h9:=hp1 p14.1;exact ao))),by (first|exact omQ|(clear hM;first|(have h9:=hp1 p1.2;exact ao)|(have h9:=hp1 p13.1;exact ao)|(have h9:=hp1 p14.1;exact ao))),by (first|exact omQ|(clear hM;first|(have h9:=hp1 p1.2;exact ao)|(have h9:=hp1 p13.1;exact ao)|(have h9:=hp1 p14.1;exact ao))),by (first|exact omQ|(clear hM;first|(have h9:=hp1 p1.2;exact ao)|(have h9:=hp1 p13.1;exact ao)|(have h9:=hp1 p14.1;exact ao)))⟩,by (first|exact omQ|(clear hM;first|(have h9:=hp1 p1.2;exact ao)|(have h9:=hp1 p13.1;exact ao)|(have h9:=hp1 p14.1;exact ao))),aB hM hag1⟩
 ·intro hF hM
  replace hM:=aw hM;obtain ⟨x10,hx11,hM⟩:=hM
  have hcx10:=Mg (some true) ([]:List Int) (p1.1) (by (first|rfl|omega)) (by (first|rfl|omega)) (by (first|rfl|omega)) (by (first|rfl|omega))
  rw [←hx11] at hcx10
  refine aP hcx10 (an hF) (an hF) (fun hw12=> ?_)
  replace hw12:=nzQ hw12
  revert hM;revert hF
  refine slQ ?_
  have hq13:=Mc hx11
  replace hq13:=nzQ hq13
  intro hF hM
  replace hM:=aF hM;obtain ⟨f14,d14,hf14,hd14,hM⟩:=hM
  refine aL (fun n S=> ∃p:Int×List Int,S=(⟨[(6,.own 0),(25,.sl none 1 false (slices.map (fun (l:List Int)=>V.sl none 1 false (l.map (V.int .u8))))),(26,.int .i64 (slices.length:Int)),(27,.int .i64 p.1)],[(0,.own 5 1 false none (p.2.map (V.int .u8)))],1⟩:St)∧((0≤p.1)∧(p.1≤(slices.length:Int))∧(((p.2).length:Int)≤32*p.1))∧((slices.length:Int) - p.1).toNat<n∧ae n f14 d14 p=r) (((slices.length:Int) - 0).toNat+1) _ sbQ sbQ ⟨(0,x10),rfl,⟨by (first|exact omQ|(clear hM;first|(have h9:=hp1 p1.2;exact ao)|(have h9:=hp1 p13.1;exact ao)|(have h9:=hp1 p14.1;exact ao))),by (first|exact omQ|(clear hM;first|(have h9:=hp1 p1.2;exact ao)|(have h9:=hp1 p13.1;exact ao)|(have h9:=hp1 p14.1;exact ao))),by (first|exact omQ|(clear hM;first|(have h9:=hp1 p1.2;exact ao)|(have h9:=hp1 p13.1;exact ao)|(have h9:=hp1 p14.1;exact ao)))⟩,(Nat.lt_succ_self _),hM⟩ ?_
  clear hM
  rintro n14 S ⟨p14,rfl,hfa14,hm14,hM⟩
  have hG1:=hp1 p14.1
  replace hM:=aG hM (by omega) hf14;obtain ⟨ag14,hag14,hM⟩:=hM
  replace hfa14:=nzQ hfa14
  replace hm14:=nzQ hm14
  have ha14:al .i64 p14.1 1=p14.1+1:=aJ (by exact omA) (by exact omA)
  replace hF:=(And.intro ha14 hF)
  revert hM;revert hF
  refine slQ ?_
  refine az fun _ _ _=> ?_
  intro hF hM
  subst hM
  exact s8 [0] (bs:=[.own 5 1 false none (p14.2.map (V.int .u8))]) (an hF) (by decide) (cr hF)
set_option maxRecDepth 512 in
instance (priority:=1029):DRD 1 16 10 [5,7,8,9,10,11,12,13,14] [] ([[],[],[0,1],[0,1,2],[0,1,2,3],[0,1,2,3,4],[0,1,2,3,4,5],[0,1,2,3,4,5],[],[0,1,2,3,4,5,6,8]]++[List.range 10]) [(2,5),(9,11)]:=⟨trivial⟩
instance Tu (l:(List Int)) (r_:(List Int)):CM En (jx l r_) 197 [(aH l),(aH r_)] (fun y=>(aH y)) (fun _=> []):=by
 refine enQ [1] Tryz.func197 Tryz.ntmps197 (jx.eq_1 ..) fun r hw=> ?_
 intro hF hM
 refine gK ?_
 revert hM;revert hF
 refine slQ ?_
 intro hF hM
 refine il _ (⟨[(2,.ptr 0 0),(3,.ptr 1 0),(4,.ptr 2 0)],[(0,.pvar 32 true ((aH l))),(1,.pvar 32 true ((aH r_))),(2,.var 32 true (fY))],3⟩:St) ((ij (S:=⟨_,_,_⟩) 0 (n:=32) (g:=true) (d:=(aH l)) clQ clQ).trans (ij (S:=⟨_,_,_⟩) 1 (n:=32) (g:=true) (d:=(aH r_)) clQ clQ)) sbQ sbQ ?_
 revert hM;revert hF
 refine slQ ?_
 intro hF hM
 replace hM:=aw hM;obtain ⟨x1,hx2,hM⟩:=hM
 have hcx1:=aW.pub (cmH hx2 (Ng ([(bd 32 l),(bd 32 r_)]:List (List Int)) (by (first|exact DH (Nat.le_of_eq dc) (Nat.le_of_eq dc)|exact Nat.le_refl _)) (by (first|exact DH (Nat.le_of_eq dc) (Nat.le_of_eq dc)|exact Nat.le_refl _))))
 refine bC hcx1 clQ clQ ?_
 revert hM;revert hF
 refine slQ ?_
 have hq3:=LT hx2 (Nat.le_of_eq dc) (Nat.le_of_eq dc)
 replace hq3:=nzQ hq3
 intro hF hM
 replace hM:=aw hM;obtain ⟨x4,hx5,hM⟩:=hM
 have hcx4:=cmH hx5 (iI ([115,112,101,99,105,101,47,110,111,100,101]) x1 (by (omega)))
 refine bC hcx4 clQ clQ ?_
 exact auP
set_option maxRecDepth 512 in
instance (priority:=1030):DRD 3 28 14 [14,15,16,17,18,19,20,21,22,23,24,25,26] [] ([[],[],[],[],[],[],[4,5],[4,5,6],[],[],[8,9],[8,9,10],[0,1],[0,1,4,5,6,7,8,9,10,11,12]]++[List.range 14,List.range 15]) [(13,0)]:=⟨trivial⟩
theorem Nh (z0:Option Bool) (s:(List (List (List Int)))):xB En 252 67 1 false z0 (s.map (fun (l:List (List Int))=>V.sl none 32 true (l.map aH))) ((mg s).map (fun (l:List (List Int))=>V.sl none 32 true (l.map aH))):=by
 generalize hM:mg s=r
 rw [mg.eq_1] at hM
 refine Kg aV bP noJ Tryz.func252 rfl Tryz.ntmps252 (by kernel_rfl) fun hw0 hw=>bR ?_
 simp only [bU]
 replace hw0:=nzQ hw0
 refine spQ ?_
 replace hw:=nzQ hw
 have ha1:aA .i64 (s.length:Int) 1=((s.length:Int) - 1):=du omQ omQ
 try simp only [ha1]
 replace hM:=aF hM;obtain ⟨f2,d2,hf2,hd2,hM⟩:=hM
 refine aL (fun n S=> ∃p:Int×Int×List (List (List Int)),S=(⟨[(0,.own 0),(2,.int .i64 p.1),(3,.int .i64 p.2.1),(100000,.own 0)],[(0,.own 67 1 false none (p.2.2.map (fun (l:List (List Int))=>V.sl none 32 true (l.map aH))))],1⟩:St)∧((0≤p.1)∧(p.1≤(s.length:Int))∧(-1≤p.2.1)∧(p.2.1<(s.length:Int))∧((p.2.2).length=(s).length))∧(p.2.1 - p.1).toNat<n∧ae n f2 d2 p=r) ((((s.length:Int) - 1) - 0).toNat+1) _ sbQ sbQ ⟨(0,((s.length:Int) - 1),s),rfl,⟨omQ,omQ,omQ,omQ,omQ⟩,(Nat.lt_succ_self _),hM⟩ ?_
 clear hM
 rintro n2 S ⟨p2,rfl,hfa2,hm2,hM⟩
 replace hM:=aG hM (by omega) hf2;obtain ⟨ag2,hag2,hM⟩:=hM
 replace hfa2:=nzQ hfa2
 replace hm2:=nzQ hm2
 have ha2:al .i64 p2.1 1=p2.1+1:=aJ omQ omQ
 have hF:=(And.intro ha1 ha2)
 revert hM;revert hF
 refine slQ ?_
 refine cdQ (fun _ _ _=> ?_) (fun _ _ _=> ?_)
 ·have ha8:aA .i64 p2.2.1 1=(p2.2.1 - 1):=du ao ao
  intro hF hM
  try simp only [ha8]
  refine aC (n2 - 1) _ (by omega) sbQ sbQ ⟨((p2.1+1),(p2.2.1 - 1),(st (st p2.2.2 p2.1 (gt p2.2.2 p2.2.1)) p2.2.1 (gt p2.2.2 p2.1))),rfl,⟨omQ,omQ,omQ,omQ,omQ⟩,omQ,aB hM hag2⟩
 ·intro hF hM
  subst hM
  first|exact CR (by simp) rfl rfl (cr hF)|exact JO (CR (by simp) rfl rfl (cr hF))
set_option maxRecDepth 512 in
instance (priority:=1031):DRD 6 32 9 [14,15,16,17,18,19,20,21,22] [] ([[],[],[1],[1,2],[],[4],[4,5],[1,2,3,4,5,6],[1,2,3,4,5,6,7]]++[List.range 9,List.range 10]) []:=⟨trivial⟩
theorem Ni (l:(List (List Int))) (hp0:kh l):CM En (qw l) 231 [.sl none 32 true (l.map aH)] (fun y=> .sl none 1 false (y.map (fun (l:List (List Int))=>V.sl none 32 true (l.map aH)))) (fun _=> []):=by
 refine enQ [7] Tryz.func231 Tryz.ntmps231 (qw.eq_1 ..) fun r hw=> ?_
 intro hF hM
 replace hM:=aF hM;obtain ⟨f1,d1,hf1,hd1,hM⟩:=hM
 refine aL (fun n S=> ∃p:List (List Int)×List (List (List Int)),S=(⟨[(0,.sl none 32 true (p.1.map aH)),(3,.own 0)],[(0,.own 67 1 false none (p.2.map (fun (l:List (List Int))=>V.sl none 32 true (l.map aH))))],1⟩:St)∧((kh p.1)∧((p.2).length+(p.1).length≤l.length+1))∧(p.1).length<n∧ae n f1 d1 p=r) ((l).length+1) _ sbQ sbQ ⟨(l,([l]:List (List (List Int)))),rfl,⟨by exact hp0,by (simp only [List.length_cons,List.length_nil];omega)⟩,(Nat.lt_succ_self _),hM⟩ ?_
 clear hM
 rintro n1 S ⟨p1,rfl,⟨hF2_0,hF2_1⟩,hm1,hM⟩
 replace hM:=aG hM (by omega) hf1;obtain ⟨ag1,hag1,hM⟩:=hM
 replace hm1:=nzQ hm1
 revert hM;revert hF
 refine slQ ?_
 refine cdQ (fun _ _ _=> ?_) (fun _ _ _=> ?_)
 ·intro hF hM
  refine gK ?_
  revert hM;revert hF
  refine slQ ?_
  intro hF hM
  refine aP (LX none (p1.1)) clQ clQ (fun hw4=> ?_)
  revert hM;revert hF
  refine slQ ?_
  intro hF hM
  replace hM:=JK hM;obtain ⟨f5,d5,hf5,hd5,hM⟩:=hM
  refine JP (cE p1.1) (fun y5=> [.sl none 32 true (y5.map aH)]) (fun p:List (List Int)=>(⟨[(3,.own 0),(4,.ptr 1 0),(12,.fn 263 [.pp 1 false (.sl none 32 true (p1.1.map aH)),.pp 1 false (.int .i64 2)])],[(0,.own 67 1 false none (p1.2.map (fun (l:List (List Int))=>V.sl none 32 true (l.map aH)))),(1,.var 1 false (.own 2)),(2,.own 28 32 true none (p.map aH))],3⟩:St)) (fun (k5:Nat) (p:List (List Int))=>((p).length=k5)) hM (L1 (Ku hF2_0 (by omega))) clQ clQ ⟨rfl,by decide,by decide⟩ (fun _=>rfl) (J4 1 28 rfl (by decide)) sbQ sbQ (by rfl) (fun _ _ _=>rfl) (fun ag5 k5 y5 p5 r5 K5 hy5 hk5 hf5a hM hN5 hR5=> ?_) (fun p5 hf5a hM=> ?_)
  ·replace hM:=JL hM hf5
   have hF6_0:=hf5a
   have hl5:=C6 hy5
   have hc5:=DI (l:=p1.1)
   refine JN (S':=(⟨[(5,.sl none 32 true (y5.map aH)),(13,.sl none 32 true (y5.map aH)),(3,.own 0),(4,.ptr 1 0),(12,.fn 263 [.pp 1 false (.sl none 32 true (p1.1.map aH)),.pp 1 false (.int .i64 2)]),(100003,.own 0),(100004,.ptr 1 0),(100012,.fn 263 [.pp 1 false (.sl none 32 true (p1.1.map aH)),.pp 1 false (.int .i64 2)])],[(0,.own 67 1 false none (p1.2.map (fun (l:List (List Int))=>V.sl none 32 true (l.map aH)))),(1,.var 1 false (.own 2)),(2,.own 28 32 true none (p5.map aH))],3⟩:St)) rfl ?_
   revert hM;revert hF
   refine slQ ?_
   refine ax fun x8 _ _ _=> ?_
   intro hF hM
   try rw [xe]
   exact (hN5 (p5++([x8]:List (List Int))) _ (JM (by first|rfl|(simp only [dnF,bU,List.filterMap_cons,List.filterMap_nil,Nat.reduceLeDiff,if_true,if_false,↓reduceIte,Nat.reduceSub];exact sbQ)) sbQ) (by simp only [List.length_append,List.length_cons,List.length_nil,hF6_0]) hM)
  ·replace hM:=sX hM hd5
   have hF6_0:=hf5a
   revert hM;revert hF
   refine slQ ?_
   intro hF hM
   refine il _ (⟨[(3,.own 0),(4,.ptr 1 0)],[(0,.own 67 1 false none (p1.2.map (fun (l:List (List Int))=>V.sl none 32 true (l.map aH)))),(1,.var 1 false (.sl none 32 true (p5.map aH))),(2,.pown 32 true none (p5.map aH))],3⟩:St) ((pw (S:=⟨_,_,_⟩) 2 (T:=28) (n:=32) (g:=true) (z:=none) (l:=p5.map aH) clQ).trans (Kj (S:=⟨_,_,_⟩) 1 2 (n:=32) (g:=true) (z:=none) (m:=p5.map aH) clQ clQ)) sbQ sbQ ?_
   revert hM;revert hF
   refine slQ ?_
   intro hF hM
   refine aC (n1 - 1) _ (by omega) sbQ sbQ ⟨(p5,(p1.2++([p5]:List (List (List Int))))),rfl,⟨by exact Kv hF2_0 (by omega) hF6_0,by (have h9:=C7 hF2_0 (by omega) hF6_0;simp only [List.length_append,List.length_cons,List.length_nil];omega)⟩,by (have h9:=C7 hF2_0 (by omega) hF6_0;dsimp only;omega),aB hM hag1⟩
 ·intro hF hM
  replace hM:=aw hM;obtain ⟨x11,hx12,hM⟩:=hM
  have hcx11:=Nh none (p1.2)
  rw [←hx12] at hcx11
  refine Kh hcx11 rfl ?_
  exact auP
instance Tv (l:(List (List Int))) (level:Int) (index:Int):CM En (qx l level index) 196 [.sl none 32 true (l.map aH),.int .i64 level,.int .i64 index] (fun y=> .tup [.sl none 1 false (y.1.map (fun (l:List (List Int))=>V.sl none 32 true (l.map aH))),.int .i64 y.2]) (fun _=> []):=by
 refine enQ noJ Tryz.func196 Tryz.ntmps196 (qx.eq_1 ..) fun r hw=> ?_
 refine ax fun _ _ _ _=> ?_
 refine az fun _ _ _=> ?_
 refine aq fun _ _ _=> ?_
 refine aq fun _ _ _=> ?_
 refine aq fun _ _ _=> ?_
 refine az fun _ _ _=> ?_
 intro hF hM
 replace hM:=aw hM;obtain ⟨x16,hx17,hM⟩:=hM
 have hcx16:=cmH hx17 (Ni l (by (exact LN ‹_=kC _› (by assumption))))
 refine aP hcx16 clQ clQ (fun hw18=> ?_)
 replace hw18:=nzQ hw18
 exact auP
instance Tw (l:(List (List Int))) (level:Int) (index:Int):CM En (yC l level index) 162 [.sl none 32 true (l.map aH),.int .i64 level,.int .i64 index] (fun y=> .tup [(aH y.1),.int .i64 y.2]) (fun _=> []):=by
 refine enQ noJ Tryz.func162 Tryz.ntmps162 (yC.eq_1 ..) fun r hw=> ?_
 refine ax fun _ hx2 _ _=> ?_
 have hq4:=LR hx2
 replace hq4:=nzQ hq4
 exact auR
instance Tx (l:(List (List Int))):CM En (yD l) 131 [.sl none 32 true (l.map aH)] (fun y=> .tup [(aH y.1),.int .i64 y.2]) (fun _=> []):=by
 refine enQ noJ Tryz.func131 Tryz.ntmps131 (yD.eq_1 ..) fun r hw=> ?_
 exact auR
set_option maxRecDepth 512 in
instance (priority:=1032):DRD 1 58 16 [11,12,13,14,15,16,17,18,19,20,21,22,23,24,25,26] [] ([[],[0],[0,1],[0,1,2],[0,1,2,3],[0,1,2,3,4],[0,1,2,3,4,5],[0,1,2,3,4,5,6],[0,1,2,3,4,5,6,7],[0,1,2,3,4,5,6,7,8],[0,1,2,3,4,5,6,7,8,9],[0,1,2,3,4,5,6,7,8,9,10],[0,1,2,3,4,5,6,7,8,9,10,11],[0,1,2,3,4,5,6,7,8,9,10,11,12],[0,1,2,3,4,5,6,7,8,9,10,11],[0,1,2,3,4,5,6,7,8,9,10,11,14]]++[List.range 16,List.range 17]) []:=⟨trivial⟩
instance Ty (h_:(List Int)) (level:Int) (p_:eI):CM En (yE h_ level p_) 163 [(aH h_),.int .i64 level,.agg [.int .i64 p_.Index,.sl none 32 true (p_.L.map aH)]] (fun y=> .tup [(aH y.1),.int .i64 y.2]) (fun _=> []):=by
 refine enQ noJ Tryz.func163 Tryz.ntmps163 (yE.eq_1 ..) fun r hw=> ?_
 refine slQ ?_
 refine aq fun _ _ _=> ?_
 refine aq fun _ _ _=> ?_
 refine aq fun _ _ _=> ?_
 refine az fun _ _ _=> ?_
 refine az fun _ _ _=> ?_
 intro hF hM
 replace hM:=aF hM;obtain ⟨f13,d13,hf13,hd13,hM⟩:=hM
 refine aL (fun n S=> ∃p:Int×Int×(List Int),S=(⟨[(3,.ptr 0 0),(6,.ptr 2 0),(8,.int .i64 p.1),(39,.sl none 32 true (p_.L.map aH)),(40,.int .i64 (p_.L.length:Int)),(41,.int .i64 p.2.1)],[(0,.var 32 true ((aH p.2.2))),(2,.var 32 true (fY))],19⟩:St)∧((0≤p.2.1)∧(p.2.1≤(p_.L.length:Int)))∧((p_.L.length:Int) - p.2.1).toNat<n∧ae n f13 d13 p=r) (((p_.L.length:Int) - 0).toNat+1) _ sbQ sbQ ⟨(p_.Index,0,h_),rfl,⟨omQ,omQ⟩,(Nat.lt_succ_self _),hM⟩ ?_
 clear hM
 rintro n13 S ⟨p13,rfl,hfa13,hm13,hM⟩
 replace hM:=aG hM (by omega) hf13;obtain ⟨ag13,hag13,hM⟩:=hM
 replace hfa13:=nzQ hfa13
 replace hm13:=nzQ hm13
 have ha13:al .i64 p13.2.1 1=p13.2.1+1:=aJ omQ omQ
 replace hF:=(And.intro ha13 hF)
 revert hM;revert hF
 refine slQ ?_
 refine aq fun _ _ _=> ?_
 refine cdQ (fun _ _ _=> ?_) (fun _ _ _=> ?_)
 ·refine ax fun x19 _ _ _=> ?_
  intro hF hM
  refine aC (n13 - 1) _ (by omega) sbQ sbQ ⟨((cm .i64 p13.1 2),(p13.2.1+1),x19),rfl,⟨omQ,omQ⟩,omQ,aB hM hag13⟩
 ·refine ax fun x23 _ _ _=> ?_
  intro hF hM
  refine aC (n13 - 1) _ (by omega) sbQ sbQ ⟨((cm .i64 p13.1 2),(p13.2.1+1),x23),rfl,⟨omQ,omQ⟩,omQ,aB hM hag13⟩
instance Tz (root:(List Int)) (h_:(List Int)) (level:Int) (p_:eI):CM En (yF root h_ level p_) 132 [(aH root),(aH h_),.int .i64 level,.agg [.int .i64 p_.Index,.sl none 32 true (p_.L.map aH)]] (fun y=> .bool y) (fun _=> []):=by
 refine enQ noJ Tryz.func132 Tryz.ntmps132 (yF.eq_1 ..) fun r hw=> ?_
 exact auR
set_option maxRecDepth 512 in
instance (priority:=1033):DRD 1 120 42 [14,15,16,17,18,19,20,21,22,23,24,25,26,27,28,29,30,31,32,33,34,35,36,37,38,39,40,41,42,43,44,45,46,47,48,49,50,51,52,53,54,55] [] ([[],[],[],[2],[0,1,2,3],[0,1,2,3,4],[0,1,2,3,4,5],[0,1,2,3,4,5,6],[0,1,2,3,4,5,6,7],[0,1,2,3,4,5,6,7,8],[0,1,2,3,4,5,6],[0,1,2,3,4,5,6,10],[0,1,2,3,4,5,6,7,8,9,10,11],[0,1,2,3,4,5,6,7,8,9,10,11,12],[0,1,2,3,4,5,6,7,8,9,10,11,12,13],[0,1,2,3,4,5,6,7,8,9,10,11,12,13,14],[0,1,2,3,4,5,6,7,8,9,10,11,12,13,14,15],[0,1,2,3,4,5,6,7,8,9,10,11,12,13,14,15,16],[0,1,2,3,4,5,6,7,8,9,10,11,12,13,14,15,16,17],[0,1,2,3,4,5,6,7,8,9,10,11,12,13,14,15,16,17,18],[0,1,2,3,4,5,6,7,8,9,10,11,12,13,14,15,16,17,18,19],[0,1,2,3,4,5,6,7,8,9,10,11,12,13,14,15,16,17,18,19,20],[0,1,2,3,4,5,6,7,8,9,10,11,12,13,14,15,16,17,18,19,20,21],[0,1,2,3,4,5,6,7,8,9,10,11,12,13,14,15,16,17,18,19,20,21,22],[0,1,2,3,4,5,6,7,8,9,10,11,12,13,14,15,16,17,18,19,20,21,22,23],[0,1,2,3,4,5,6,7,8,9,10,11,12,13,14,15,16,17,18,19,20,21],[0,1,2,3,4,5,6,7,8,9,10,11,12,13,14,15,16,17,18,19,20,21,25],[0,1,2,3,4,5,6,7,8,9,10,11,12,13,14,15,16,17,18,19,20,21,25,26],[0,1,2,3,4,5,6,7,8,9,10,11,12,13,14,15,16,17,18,19,20,21],[0,1,2,3,4,5,6,7,8,9,10,11,12,13,14,15,16,17,18,19,20,21,28],[0,1,2,3,4,5,6,7,8,9,10,11,12,13,14,15,16,17,18,19,20,21,28,29],[0,1,2,3,4,5,6,7,8,9,10,11,12,13,14,15,16,17,18,19,20,21,25,26,27,28,29,30],[0,1,2,3,4,5,6,7,8,9,10,11,12,13,14,15,16,17,18,19,20,21,25,26,27,28,29,30,31],[0,1,2,3,4,5,6,7,8,9,10,11,12,13,14,15,16,17,18,19,20,21,22,23,24,25,26,27,28,29,30,31,32],[0,1,2,3,4,5,6,7,8,9,10,11,12,13,14,15,16,17,18,19,20,21,22,23,24,25,26,27,28,29,30,31,32,33],[0,1,2,3,4,5,6,7,8,9,10,11,12,13,14,15,16,17,18,19,20,21,22,23,24,25,26,27,28,29,30,31,32,33,34],[0,1,2,3,4,5,6,7,8,9,10,11,12,13,14,15,16,17,18,19,20,21,22,23,24,25,26,27,28,29,30,31,32,33,34,35],[0,1,2,3,4,5,6,7,8,9,10,11,12,13,14,15,16,17,18,19,20,21,22,23,24,25,26,27,28,29,30,31,32,33,34,35,36],[0,1,2,3,4,5,6,7,8,9,10,11,12,13,14,15,16,17,18,19,20,21,22,23,24,25,26,27,28,29,30,31,32,33,34,35,36,37],[0,1,2,3,4,5,6,7,8,9,10,11,12,13,14,15,16,17,18,19,20,21,22,23,24,25,26,27,28,29,30,31,32,33,34,35],[0,1,2,3,4,5,6,7,8,9,10,11,12,13,14,15,16,17,18,19,20,21,22,23,24,25,26,27,28,29,30,31,32,33,34,35,39],[0,1,2,3,4,5,6,7,8,9,10,11,12,13,14,15,16,17,18,19,20,21,22,23,24,25,26,27,28,29,30,31,32,33,34,35,39,40]]++[List.range 42,List.range 43]) []:=⟨trivial⟩
theorem Ed (b:aY) (r_:bg) (s:au) (hp0:fq s):CM En (mh b r_ s) 101 [(bL b),(cD r_),(aQ s)] (fun y=> .bool y) (fun _=> []):=by
 refine enQ noJ Tryz.func101 Tryz.ntmps101 (mh.eq_1 ..) fun r hw=> ?_
 have h0_0:=L2 hp0
 refine slQ ?_
 refine ax fun _ _ _ _=> ?_
 refine aq fun _ _ _=> ?_
 refine ax fun _ _ _ _=> ?_
 refine aq fun _ _ _=> ?_
 refine ax fun _ _ _ _=> ?_
 refine aq fun _ _ _=> ?_
 have ha14:aA .i64 s.Coin.Depth s.Node.Level=(s.Coin.Depth - s.Node.Level):=du ao ao
 intro hF hM
 try simp only [ha14]
 replace hF:=(And.intro ha14 hF)
 revert hM;revert hF
 refine slQ ?_
 refine aq fun _ _ _=> ?_
 refine az fun _ _ _=> ?_
 refine ax fun x20 _ _ _=> ?_
 intro hF hM
 replace hM:=aF hM;obtain ⟨f23,d23,hf23,hd23,hM⟩:=hM
 refine dZ (fun n S=> ∃p:Int×List Int,S=(⟨[(3,.ptr 0 0),(5,.ptr 2 0),(7,.int .i64 x20),(8,.own 45),(67,.sl none 3 true (s.Leaves.map dQ)),(68,.int .i64 (s.Leaves.length:Int)),(69,.int .i64 p.1)],[(0,.var 6 true ((bL b))),(2,.var 80 true ((aQ s))),(45,.own 3 1 false none (p.2.map (V.int .i64)))],46⟩:St)∧((0≤p.1)∧(p.1≤(s.Leaves.length:Int))∧(((p.2).length:Int)≤p.1))∧((s.Leaves.length:Int) - p.1).toNat<n∧ae n f23 d23 p=r) (((s.Leaves.length:Int) - 0).toNat+1) _ _ (gI 8 3 rfl (by decide)) sbQ sbQ ⟨(0,([]:List Int)),rfl,⟨omQ,omQ,omQ⟩,(Nat.lt_succ_self _),hM⟩ ?_
 clear hM
 rintro n23 S ⟨p23,rfl,hfa23,hm23,hM⟩
 replace hM:=aG hM (by omega) hf23;obtain ⟨ag23,hag23,hM⟩:=hM
 replace hfa23:=nzQ hfa23
 replace hm23:=nzQ hm23
 have ha23:al .i64 p23.1 1=p23.1+1:=aJ omQ omQ
 replace hF:=(And.intro ha23 hF)
 revert hM;revert hF
 refine slQ ?_
 refine cdQ (fun _ _ _=> ?_) (fun _ _ _=> ?_)
 ·refine ax fun _ _ _ _=> ?_
  refine aq fun _ _ _=> ?_
  refine ax fun _ _ _ _=> ?_
  refine az fun _ _ _=> ?_
  intro hF hM
  refine aC (n23 - 1) _ (by omega) sbQ sbQ ⟨((p23.1+1),(p23.2++([(gt s.Leaves p23.1).B]:List Int))),rfl,⟨omQ,omQ,omQ⟩,omQ,aB hM hag23⟩
 ·intro hF hM
  replace hM:=aw hM;obtain ⟨x38,hx39,hM⟩:=hM
  have hcx38:=cmU hx39
  refine lD hcx38 (io 45 (T:=3) (n:=1) (g:=false) (z:=none) (l:=p23.2.map (V.int .i64)) (an hF)) (an hF) (fun hw40=> ?_)
  replace hw40:=nzQ hw40
  exact auP
theorem Nj (h_:bh) (hp0:ot h_):CM En (go h_) 133 [(bl h_)] (fun y=> .sl none 80 true (y.map aQ)) (fun _=> []):=by
 refine enQ noJ Tryz.func133 Tryz.ntmps133 (go.eq_1 ..) fun r hw=> ?_
 have h0_0:=DN hp0
 exact auR
instance TA (l:(List bg)) (c:bu):CM En (t6 l c) 134 [.sl none 11 true (l.map cD),(dR c)] (fun y=> .tup [(cD y.1),.bool y.2]) (fun _=> []):=by
 refine enQ noJ Tryz.func134 Tryz.ntmps134 (t6.eq_1 ..) fun r hw=> ?_
 refine ax fun _ hx2 _ _=> ?_
 have hq4:=DQ hx2
 replace hq4:=nzQ hq4
 exact auR
set_option maxRecDepth 512 in
instance (priority:=1034):DRD 13 74 26 [45,46,47,48,49,50,51,52,53,54,55,56,57,58,59,60,61,62,63,64,65,66,67,68,69,70] [] ([[],[0],[0,1],[],[3],[3,4],[],[6],[6,7],[3,4,5,6,7,8],[0,1,2,3,4,5,6,7,8,9],[],[11],[11,12],[0,1,2,3,4,5,6,7,8,9,10,11,12,13],[],[15],[15,16],[],[18],[18,19],[15,16,17,18,19,20],[0,1,2,3,4,5,6,7,8,9,10,11,12,13,14,15,16,17,18,19,20,21],[],[0,1,2,3,4,5,6,7,8,9,10,11,12,13,14,15,16,17,18,19,20,21,22,23],[]]++[List.range 26,List.range 27,List.range 28,List.range 29]) [(9,13),(21,25)]:=⟨trivial⟩
theorem Nk (s:au) (hp0:DM s):CM En (nS s) 233 [(aQ s)] (fun y=> .agg [.int .i64 y.Kind,.int .i64 y.N,.sl none 1 false (y.B.map (V.int .u8)),.sl none 4 true (y.L.map bv)]) (fun _=> []):=by
 refine enQ [13] Tryz.func233 Tryz.ntmps233 (nS.eq_1 ..) fun r hw=> ?_
 have hG0:=hp0.1
 have hG1:=hp0.2
 intro hF hM
 replace hM:=aF hM;obtain ⟨f1,d1,hf1,hd1,hM⟩:=hM
 refine dZ (fun n S=> ∃p:Int×List Int,S=(⟨[(1,.ptr 0 0),(2,.ptr 1 0),(3,.own 2),(10,.sl none 3 true (s.Leaves.map dQ)),(11,.int .i64 (s.Leaves.length:Int)),(12,.int .i64 p.1)],[(0,.var 80 true ((aQ s))),(1,.var 4 true (.agg [.int .i64 0,.int .i64 0,.sl (some true) 1 false [],.sl (some true) 4 true []])),(2,.own 3 1 false none (p.2.map (V.int .i64)))],3⟩:St)∧((0≤p.1)∧(p.1≤(s.Leaves.length:Int))∧(((p.2).length:Int)=3*p.1))∧((s.Leaves.length:Int) - p.1).toNat<n∧ae n f1 d1 p=r) (((s.Leaves.length:Int) - 0).toNat+1) _ _ (gI 3 3 rfl (by decide)) sbQ sbQ ⟨(0,([]:List Int)),rfl,⟨by exact omA,by exact omA,by exact omA⟩,(Nat.lt_succ_self _),hM⟩ ?_
 clear hM
 rintro n1 S ⟨p1,rfl,hfa1,hm1,hM⟩
 replace hM:=aG hM (by omega) hf1;obtain ⟨ag1,hag1,hM⟩:=hM
 replace hfa1:=nzQ hfa1
 replace hm1:=nzQ hm1
 have ha1:al .i64 p1.1 1=p1.1+1:=aJ (by exact omA) (by exact omA)
 replace hF:=(And.intro ha1 hF)
 revert hM;revert hF
 refine slQ ?_
 refine az fun _ _ _=> ?_
 intro hF hM
 refine gK ?_
 revert hM;revert hF
 refine slQ ?_
 intro hF hM
 replace hM:=aF hM;obtain ⟨f6,d6,hf6,hd6,hM⟩:=hM
 refine aL (fun n S=> ∃p:Int×List am,S=(⟨[(1,.ptr 0 0),(2,.ptr 1 0),(3,.own 2),(6,.own 3),(33,.sl none 32 true (s.Path.L.map aH)),(34,.int .i64 (s.Path.L.length:Int)),(35,.int .i64 p.1)],[(0,.var 80 true ((aQ s))),(1,.var 4 true (.agg [.int .i64 0,.int .i64 0,.sl (some true) 1 false [],.sl (some true) 4 true []])),(2,.own 3 1 false none (p1.2.map (V.int .i64))),(3,.own 222 4 true none (p.2.map bv))],4⟩:St)∧((0≤p.1)∧(p.1≤(s.Path.L.length:Int))∧(((p.2).length:Int)≤p.1+(([({Kind:=1,N:=s.Path.Index,B:=([]:List Int),L:=([]:List am)}:am)]:List am)).length))∧((s.Path.L.length:Int) - p.1).toNat<n∧ae n f6 d6 p=r) (((s.Path.L.length:Int) - 0).toNat+1) _ sbQ sbQ ⟨(0,([({Kind:=1,N:=s.Path.Index,B:=([]:List Int),L:=([]:List am)}:am)]:List am)),rfl,⟨by exact omA,by exact omA,by exact omA⟩,(Nat.lt_succ_self _),hM⟩ ?_
 clear hM
 rintro n6 S ⟨p6,rfl,hfa6,hm6,hM⟩
 replace hM:=aG hM (by omega) hf6;obtain ⟨ag6,hag6,hM⟩:=hM
 replace hfa6:=nzQ hfa6
 replace hm6:=nzQ hm6
 have ha6:al .i64 p6.1 1=p6.1+1:=aJ (by exact omA) (by exact omA)
 replace hF:=(And.intro ha6 hF)
 revert hM;revert hF
 refine slQ ?_
 refine az fun _ _ _=> ?_
 intro hF hM
 refine il _ (⟨[(1,.ptr 0 0),(2,.ptr 1 0),(3,.sl none 1 false (p1.2.map (V.int .i64))),(6,.sl none 4 true (p6.2.map bv))],[(0,.var 80 true ((aQ s))),(1,.var 4 true (.agg [.int .i64 0,.int .i64 0,.sl (some true) 1 false [],.sl (some true) 4 true []])),(2,.pown 1 false none (p1.2.map (V.int .i64))),(3,.pown 4 true none (p6.2.map bv))],4⟩:St) ((((pw (S:=⟨_,_,_⟩) 2 (T:=3) (n:=1) (g:=false) (z:=none) (l:=p1.2.map (V.int .i64)) (an hF)).trans (xm (S:=⟨_,_,_⟩) 3 2 (n:=1) (g:=false) (z:=none) (l:=p1.2.map (V.int .i64)) (an hF) (an hF))).trans (pw (S:=⟨_,_,_⟩) 3 (T:=222) (n:=4) (g:=true) (z:=none) (l:=p6.2.map bv) (an hF))).trans (xm (S:=⟨_,_,_⟩) 6 3 (n:=4) (g:=true) (z:=none) (l:=p6.2.map bv) (an hF) (an hF))) sbQ sbQ ?_
 revert hM;revert hF
 refine slQ ?_
 refine ax fun x14 _ _ _=> ?_
 refine ax fun x16 _ _ _=> ?_
 refine ax fun x18 _ _ _=> ?_
 refine ax fun x20 _ _ _=> ?_
 refine ax fun x22 _ _ _=> ?_
 refine ax fun x24 _ _ _=> ?_
 intro hF hM
 replace hM:=aw hM;obtain ⟨x27,hx28,hM⟩:=hM
 have hcx27:=cmU hx28
 refine lD hcx27 (io 30 (T:=222) (n:=4) (g:=true) (z:=(some false)) (l:=([x14,x16,x18,x20,x22,x24]:List am).map bv) (an hF)) (an hF) (fun hw29=> ?_)
 replace hw29:=nzQ hw29
 exact auP
theorem Nl (s:au) (hp0:fq s):CM En (yG s) 199 [(aQ s)] (fun y=>(aH y)) (fun _=> []):=by
 refine enQ noJ Tryz.func199 Tryz.ntmps199 (yG.eq_1 ..) fun r hw=> ?_
 intro hF hM
 replace hM:=aw hM;obtain ⟨x1,hx2,hM⟩:=hM
 have hcx1:=cmH hx2 (Nk s (by (exact L3 hp0)))
 refine aP hcx1 clQ clQ (fun hw3=> ?_)
 replace hw3:=nzQ hw3
 revert hM;revert hF
 refine slQ ?_
 have hq4:=L6 hp0 hx2
 replace hq4:=nzQ hq4
 intro hF hM
 replace hM:=aw hM;obtain ⟨x5,hx6,hM⟩:=hM
 have hcx5:=cmH hx6 (kK x1 (by (exact pfQ)))
 refine aP hcx5 clQ clQ (fun hw7=> ?_)
 replace hw7:=nzQ hw7
 revert hM;revert hF
 refine slQ ?_
 have hq8:=kI hx6
 replace hq8:=nzQ hq8
 refine az fun _ _ _=> ?_
 intro hF hM
 replace hM:=aw hM;obtain ⟨x12,hx13,hM⟩:=hM
 have hcx12:=cmH hx13 (iI ([115,112,101,99,105,101,47,115,112,101,110,100,45,105,116,101,109]) (x5.1) (by (exact pfQ)))
 refine aP hcx12 clQ clQ (fun hw14=> ?_)
 replace hw14:=nzQ hw14
 exact auP
set_option maxRecDepth 512 in
instance (priority:=1035):DRD 5 40 6 [19,20,21,22,23,24] [] ([[],[0],[],[2],[2,3],[2,3,4]]++[List.range 6,List.range 7,List.range 8]) []:=⟨trivial⟩
theorem Ee (tag:(List UInt8)) (l:(List (List Int))) (hp0:l.length≤40):CM En (t7 tag l) 198 [.str tag,.sl none 32 true (l.map aH)] (fun y=>(aH y)) (fun _=> []):=by
 refine enQ [5] Tryz.func198 Tryz.ntmps198 (t7.eq_1 ..) fun r hw=> ?_
 intro hF hM
 replace hM:=aF hM;obtain ⟨f1,d1,hf1,hd1,hM⟩:=hM
 refine dZ (fun n S=> ∃p:Int×List am,S=(⟨[(0,.str tag),(4,.ptr 0 0),(5,.ptr 1 0),(13,.sl none 32 true (l.map aH)),(14,.int .i64 (l.length:Int)),(15,.int .i64 p.1)],[(0,.var 32 true (fY)),(1,.var 4 true (.agg [.int .i64 3,.int .i64 0,.sl (some true) 1 false [],.own 2])),(2,.own 222 4 true none (p.2.map bv))],3⟩:St)∧(((0≤p.1)∧(p.1≤(l.length:Int))∧(((p.2).length:Int)≤p.1))∧((bM (p.2):Int)≤40*p.1))∧((l.length:Int) - p.1).toNat<n∧ae n f1 d1 p=r) (((l.length:Int) - 0).toNat+1) _ _ (nh 1 3 222 rfl rfl (by decide)) sbQ sbQ ⟨(0,([]:List am)),rfl,⟨⟨omQ,omQ,omQ⟩,by (simp only [bM];omega)⟩,(Nat.lt_succ_self _),hM⟩ ?_
 clear hM
 rintro n1 S ⟨p1,rfl,⟨hfa1,hF3_0⟩,hm1,hM⟩
 replace hM:=aG hM (by omega) hf1;obtain ⟨ag1,hag1,hM⟩:=hM
 replace hfa1:=nzQ hfa1
 replace hm1:=nzQ hm1
 have ha1:al .i64 p1.1 1=p1.1+1:=aJ omQ omQ
 replace hF:=(And.intro ha1 hF)
 revert hM;revert hF
 refine slQ ?_
 refine cdQ (fun _ _ _=> ?_) (fun _ _ _=> ?_)
 ·intro hF hM
  refine gK ?_
  revert hM;revert hF
  refine slQ ?_
  intro hF hM
  refine il _ (⟨[(0,.str tag),(4,.ptr 0 0),(5,.ptr 1 0),(7,.ptr 3 0),(13,.sl none 32 true (l.map aH)),(14,.int .i64 (l.length:Int)),(15,.int .i64 p1.1)],[(0,.var 32 true (fY)),(1,.var 4 true (.agg [.int .i64 3,.int .i64 0,.sl (some true) 1 false [],.own 2])),(2,.own 222 4 true none (p1.2.map bv)),(3,.pvar 32 true ((aH (gt l p1.1))))],4⟩:St) (ij (S:=⟨_,_,_⟩) 3 (n:=32) (g:=true) (d:=(aH (gt l p1.1))) (an hF) (an hF)) sbQ sbQ ?_
  revert hM;revert hF
  refine slQ ?_
  intro hF hM
  replace hM:=aw hM;obtain ⟨x5,hx6,hM⟩:=hM
  have hcx5:=aW.pub ((zG (some false) (bd 32 (gt l p1.1))))
  rw [←hx6] at hcx5
  refine bC hcx5 (an hF) (an hF) ?_
  revert hM;revert hF
  refine slQ ?_
  have hq7:=L5 hx6
  replace hq7:=nzQ hq7
  refine slQ ?_
  intro hF hM
  refine aC (n1 - 1) _ (by omega) sbQ sbQ ⟨((p1.1+1),(p1.2++([({Kind:=2,N:=0,B:=x5,L:=([]:List am)}:am)]:List am))),rfl,⟨⟨omQ,omQ,omQ⟩,by (clear hM;simp only [qN,bM,hgt,List.length_append,List.length_cons,List.length_nil];omega)⟩,omQ,aB hM hag1⟩
 ·intro hF hM
  replace hM:=aw hM;obtain ⟨x9,hx10,hM⟩:=hM
  have hcx9:=cmH hx10 (kK ({Kind:=3,N:=0,B:=([]:List Int),L:=p1.2}:am) (by (simp only [hgt,List.length_nil];omega)))
  refine lD hcx9 (io 2 (T:=222) (n:=4) (g:=true) (z:=none) (l:=p1.2.map bv) (an hF)) (an hF) (fun hw11=> ?_)
  replace hw11:=nzQ hw11
  revert hM;revert hF
  refine slQ ?_
  have hq12:=kI hx10
  replace hq12:=nzQ hq12
  intro hF hM
  replace hM:=aw hM;obtain ⟨x13,hx14,hM⟩:=hM
  have hcx13:=cmH hx14 (iI tag (x9.1) (by (exact pfQ)))
  refine aP hcx13 (an hF) (an hF) (fun hw15=> ?_)
  replace hw15:=nzQ hw15
  exact auP
theorem Nm (l:(List au)) (hp0:qO l):CM En (yH l) 165 [.sl none 80 true (l.map aQ)] (fun y=>(aH y)) (fun _=> []):=by
 refine enQ noJ Tryz.func165 Tryz.ntmps165 (yH.eq_1 ..) fun r hw=> ?_
 have h0_0:=hp0.1
 refine az fun _ _ _=> ?_
 intro hF hM
 replace hM:=aF hM;obtain ⟨f4,d4,hf4,hd4,hM⟩:=hM
 refine dZ (fun n S=> ∃p:Int×List (List Int),S=(⟨[(2,.ptr 0 0),(3,.own 1),(10,.sl none 80 true (l.map aQ)),(11,.int .i64 (l.length:Int)),(12,.int .i64 p.1)],[(0,.var 32 true (fY)),(1,.own 28 32 true none (p.2.map aH))],2⟩:St)∧((0≤p.1)∧(p.1≤(l.length:Int))∧(((p.2).length:Int)≤p.1))∧((l.length:Int) - p.1).toNat<n∧ae n f4 d4 p=r) (((l.length:Int) - 0).toNat+1) _ _ (gI 3 28 rfl (by decide)) sbQ sbQ ⟨(0,([]:List (List Int))),rfl,⟨omQ,omQ,omQ⟩,(Nat.lt_succ_self _),hM⟩ ?_
 clear hM
 rintro n4 S ⟨p4,rfl,hfa4,hm4,hM⟩
 replace hM:=aG hM (by omega) hf4;obtain ⟨ag4,hag4,hM⟩:=hM
 replace hfa4:=nzQ hfa4
 replace hm4:=nzQ hm4
 have ha4:al .i64 p4.1 1=p4.1+1:=aJ omQ omQ
 replace hF:=(And.intro ha4 hF)
 revert hM;revert hF
 refine slQ ?_
 refine cdQ (fun _ _ _=> ?_) (fun _ _ _=> ?_)
 ·intro hF hM
  replace hM:=aw hM;obtain ⟨x8,hx9,hM⟩:=hM
  have hcx8:=cmH hx9 (Nl (gt l p4.1) (by (exact hp0.2 _ (bH (by omega)))))
  refine aP hcx8 (an hF) (an hF) (fun hw10=> ?_)
  replace hw10:=nzQ hw10
  revert hM;revert hF
  refine slQ ?_
  intro hF hM
  refine aC (n4 - 1) _ (by omega) sbQ sbQ ⟨((p4.1+1),(p4.2++([x8]:List (List Int)))),rfl,⟨omQ,omQ,omQ⟩,omQ,aB hM hag4⟩
 ·intro hF hM
  replace hM:=aw hM;obtain ⟨x12,hx13,hM⟩:=hM
  have hcx12:=cmH hx13 (Ee ([115,112,101,99,105,101,47,99,104,97,105,110]) (p4.2) (by (exact pfQ)))
  refine fD hcx12 (an hF) (an hF) (fun hw14=> ?_)
  replace hw14:=nzQ hw14
  exact auP
set_option maxRecDepth 512 in
instance (priority:=1036):DRD 1 10 3 [5,6,7] [] ([[],[0],[]]++[List.range 3,List.range 4,List.range 5]) []:=⟨trivial⟩
instance TB (c:bu) (before:(List Int)):CM En (yI c before) 164 [(dR c),(aH before)] (fun y=>(aH y)) (fun _=> []):=by
 refine enQ noJ Tryz.func164 Tryz.ntmps164 (yI.eq_1 ..) fun r hw=> ?_
 refine slQ ?_
 refine ax fun x1 _ _ _=> ?_
 intro hF hM
 replace hM:=aw hM;obtain ⟨x3,hx4,hM⟩:=hM
 have hcx3:=cmH hx4 (Ee ([115,112,101,99,105,101,47,99,104,97,105,110,45,110,101,120,116]) ([x1,before]:List (List Int)) (by (exact pfQ)))
 refine fD hcx3 clQ clQ (fun hw5=> ?_)
 replace hw5:=nzQ hw5
 exact auP
set_option maxRecDepth 512 in
instance (priority:=1037):DRD 3 30 13 [15,16,17,18,19,20,21,22,23,24,25,26,27] [] ([[],[0],[],[0,1,2],[0,1,2,3],[0,1,2,3,4],[0,1,2,3,4,5],[0,1,2,3,4],[0,1,2,3,4],[0,1,2,3,4],[0,1,2,3,4,8,9],[0,1,2,3,4,8,9,10],[0,1,2,3,4,7,8,9,10,11]]++[List.range 13,List.range 14,List.range 15]) []:=⟨trivial⟩
theorem Ef (l:(List au)) (next:bu) (hp0:qO l) (hp1:1≤l.length):CM En (nT l next) 135 [.sl none 80 true (l.map aQ),(dR next)] (fun y=> .bool y) (fun _=> []):=by
 refine enQ noJ Tryz.func135 Tryz.ntmps135 (nT.eq_1 ..) fun r hw=> ?_
 have h0_0:=hp0.1
 have ha1:aA .i64 (l.length:Int) 1=((l.length:Int) - 1):=du ao ao
 intro hF hM
 try simp only [ha1]
 replace hF:=(And.intro ha1 hF)
 revert hM;revert hF
 refine slQ ?_
 refine aq fun _ _ _=> ?_
 intro hF hM
 replace hM:=aw hM;obtain ⟨x5,hx6,hM⟩:=hM
 have hcx5:=cmH hx6 (Nm (sl l 0 ((l.length:Int) - 1)) (by (exact qP hp0)))
 refine bC hcx5 (an hF) (an hF) ?_
 exact auP
set_option maxRecDepth 512 in
instance (priority:=1038):DRD 12 92 21 [67,68,69,70,71,72,73,74,75,76,77,78,79,80,81,82,83,84,85,86,87] [] ([[],[0],[0,1],[0,1,2],[0,1,2],[0,1,2,3,4],[0,1,2],[0,1,2,6],[0,1,2,3,4,5,6,7],[0,1,2,3,4,5,6,7,8],[0,1,2,3,4,5,6,7,8,9],[0,1,2,3,4,5,6,7,8,9,10],[0,1,2,3,4,5,6,7,8,9,10,11],[0,1,2,3,4,5,6,7,8,9,10,11,12],[0,1,2,3,4,5,6,7,8,9,10],[0,1,2,3,4,5,6,7,8,9,10],[0,1,2,3,4,5,6,7,8,9,10,15],[0,1,2,3,4,5,6,7,8,9,10,14,15,16],[0,1,2,3,4,5,6,7,8,9,10,14,15,16,17],[0,1,2,3,4,5,6,7,8,9,10,14,15,16,17,18],[0,1,2,3,4,5,6,7,8,9,10,14,15,16,17,18,19]]++[List.range 21,List.range 22,List.range 23]) []:=⟨trivial⟩
theorem Nn (b:aY) (l:(List bg)) (h_:bh) (hp0:ot h_):CM En (mi b l h_) 102 [(bL b),.sl none 11 true (l.map cD),(bl h_)] (fun y=> .bool y) (fun _=> []):=by
 refine enQ noJ Tryz.func102 Tryz.ntmps102 (mi.eq_1 ..) fun r hw=> ?_
 have h0_0:=DN hp0
 refine ax fun _ _ _ _=> ?_
 refine aq fun _ _ _=> ?_
 refine az fun _ _ _=> ?_
 intro hF hM
 replace hM:=aw hM;obtain ⟨x9,hx10,hM⟩:=hM
 have hcx9:=cmH hx10 (Nj h_ (by (exact hp0)))
 refine aP hcx9 clQ clQ (fun hw11=> ?_)
 replace hw11:=nzQ hw11
 revert hM;revert hF
 refine slQ ?_
 have hq12:=DP hx10
 replace hq12:=nzQ hq12
 intro hF hM
 replace hM:=aF hM;obtain ⟨f13,d13,hf13,hd13,hM⟩:=hM
 refine aL (fun n S=> ∃p:Int,S=(⟨[(1,.sl none 11 true (l.map cD)),(3,.ptr 0 0),(7,.sl none 80 true (x9.map aQ)),(23,.sl none 80 true (x9.map aQ)),(24,.int .i64 (x9.length:Int)),(25,.int .i64 p)],[(0,.var 6 true ((bL b)))],2⟩:St)∧((0≤p)∧(p≤(x9.length:Int)))∧((x9.length:Int) - p).toNat<n∧ae n f13 d13 p=r) (((x9.length:Int) - 0).toNat+1) _ sbQ sbQ ⟨0,rfl,⟨omQ,omQ⟩,(Nat.lt_succ_self _),hM⟩ ?_
 clear hM
 rintro n13 S ⟨p13,rfl,hfa13,hm13,hM⟩
 replace hM:=aG hM (by omega) hf13;obtain ⟨ag13,hag13,hM⟩:=hM
 replace hfa13:=nzQ hfa13
 replace hm13:=nzQ hm13
 have ha13:al .i64 p13 1=p13+1:=aJ omQ omQ
 replace hF:=(And.intro ha13 hF)
 revert hM;revert hF
 refine slQ ?_
 refine aq fun _ _ _=> ?_
 refine ax fun x17 _ _ _=> ?_
 refine aq fun _ _ _=> ?_
 intro hF hM
 replace hM:=aw hM;obtain ⟨x22,hx23,hM⟩:=hM
 have hcx22:=cmH hx23 (Ed b (x17.1) (gt x9 p13) (by (exact (qQ hp0 ‹_=go _›).2 _ (bH (by omega)))))
 refine aP hcx22 (an hF) (an hF) (fun hw24=> ?_)
 replace hw24:=nzQ hw24
 revert hM;revert hF
 refine slQ ?_
 refine az fun _ _ _=> ?_
 refine cdQ (fun _ _ _=> ?_) (fun _ _ _=> ?_)
 ·refine aq fun _ _ _=> ?_
  refine cdQ (fun h32 _ _=> ?_) (fun h32 _ _=> ?_)
  ·refine aq fun _ _ _=> ?_
   refine az fun _ _ _=> ?_
   intro hF hM
   rw [if_pos h32] at hM
   revert hM;revert hF
   refine slQ ?_
   intro hF hM
   replace hM:=aw hM;obtain ⟨x39,hx40,hM⟩:=hM
   have hcx39:=cmH hx40 (Ef (sl x9 0 p13) ((gt x9 p13).Coin) (by (first|exact qP (qQ hp0 ‹_=go _›)|(clear hM;exact ao))) (by (first|exact qP (qQ hp0 ‹_=go _›)|(clear hM;exact ao))))
   refine bC hcx39 (an hF) (an hF) ?_
   revert hM;revert hF
   refine slQ ?_
   refine aq fun _ _ _=> ?_
   have ha43:aA .i64 p13 1=(p13 - 1):=du ao ao
   intro hF hM
   try simp only [ha43]
   replace hF:=(And.intro ha43 hF)
   revert hM;revert hF
   refine slQ ?_
   refine az fun _ _ _=> ?_
   intro hF hM
   refine aC (n13 - 1) _ (by omega) sbQ sbQ ⟨(p13+1),rfl,⟨omQ,omQ⟩,omQ,aB hM hag13⟩
  ·intro hF hM
   rw [if_neg (bX h32)] at hM
   revert hM;revert hF
   refine slQ ?_
   intro hF hM
   refine aC (n13 - 1) _ (by omega) sbQ sbQ ⟨(p13+1),rfl,⟨omQ,omQ⟩,omQ,aB hM hag13⟩
 ·refine cdQ (fun h63 _ _=> ?_) (fun h63 _ _=> ?_)
  ·refine aq fun _ _ _=> ?_
   refine az fun _ _ _=> ?_
   intro hF hM
   rw [if_pos h63] at hM
   revert hM;revert hF
   refine slQ ?_
   intro hF hM
   replace hM:=aw hM;obtain ⟨x70,hx71,hM⟩:=hM
   have hcx70:=cmH hx71 (Ef (sl x9 0 p13) ((gt x9 p13).Coin) (by (first|exact qP (qQ hp0 ‹_=go _›)|(clear hM;exact ao))) (by (first|exact qP (qQ hp0 ‹_=go _›)|(clear hM;exact ao))))
   refine bC hcx70 (an hF) (an hF) ?_
   revert hM;revert hF
   refine slQ ?_
   refine aq fun _ _ _=> ?_
   have ha74:aA .i64 p13 1=(p13 - 1):=du ao ao
   intro hF hM
   try simp only [ha74]
   replace hF:=(And.intro ha74 hF)
   revert hM;revert hF
   refine slQ ?_
   refine az fun _ _ _=> ?_
   intro hF hM
   refine aC (n13 - 1) _ (by omega) sbQ sbQ ⟨(p13+1),rfl,⟨omQ,omQ⟩,omQ,aB hM hag13⟩
  ·intro hF hM
   rw [if_neg (bX h63)] at hM
   revert hM;revert hF
   refine slQ ?_
   intro hF hM
   refine aC (n13 - 1) _ (by omega) sbQ sbQ ⟨(p13+1),rfl,⟨omQ,omQ⟩,omQ,aB hM hag13⟩
theorem Np (k_:cj) (hp0:okK k_):CM En (kD k_) 57 [(bE k_)] (fun y=> .bool y) (fun _=> []):=by
 refine enQ noJ Tryz.func57 Tryz.ntmps57 (kD.eq_1 ..) fun r hw=> ?_
 have h0_0:=fI hp0
 intro hF hM
 replace hM:=aF hM;obtain ⟨f1,d1,hf1,hd1,hM⟩:=hM
 refine aL (fun n S=> ∃p:Int,S=(⟨[(1,.ptr 0 0),(11,.sl none 80 true (k_.p.Spends.map aQ)),(12,.int .i64 (k_.p.Spends.length:Int)),(13,.int .i64 p)],[(0,.var 47 true ((bE k_)))],1⟩:St)∧((0≤p)∧(p≤(k_.p.Spends.length:Int)))∧((k_.p.Spends.length:Int) - p).toNat<n∧ae n f1 d1 p=r) (((k_.p.Spends.length:Int) - 0).toNat+1) _ sbQ sbQ ⟨0,rfl,⟨omQ,omQ⟩,(Nat.lt_succ_self _),hM⟩ ?_
 clear hM
 rintro n1 S ⟨p1,rfl,hfa1,hm1,hM⟩
 replace hM:=aG hM (by omega) hf1;obtain ⟨ag1,hag1,hM⟩:=hM
 replace hfa1:=nzQ hfa1
 replace hm1:=nzQ hm1
 have ha1:al .i64 p1 1=p1+1:=aJ omQ omQ
 replace hF:=(And.intro ha1 hF)
 revert hM;revert hF
 refine slQ ?_
 refine cdQ (fun _ _ _=> ?_) (fun _ _ _=> ?_)
 ·intro hF hM
  replace hM:=aw hM;obtain ⟨x5,hx6,hM⟩:=hM
  have hcx5:=cmH hx6 (uN k_ ((gt k_.p.Spends p1).Coin) (by (exact hp0)))
  refine aP hcx5 (an hF) (an hF) (fun hw7=> ?_)
  replace hw7:=nzQ hw7
  revert hM;revert hF
  refine slQ ?_
  intro hF hM
  replace hM:=aw hM;obtain ⟨x8,hx9,hM⟩:=hM
  have hcx8:=cmH hx9 (Ed (k_.b) (x5.1) (gt k_.p.Spends p1) (by (exact hp0.2.s.2 _ (bH (by omega)))))
  refine aP hcx8 (an hF) (an hF) (fun hw10=> ?_)
  replace hw10:=nzQ hw10
  revert hM;revert hF
  refine slQ ?_
  refine az fun _ _ _=> ?_
  intro hF hM
  refine aC (n1 - 1) _ (by omega) sbQ sbQ ⟨(p1+1),rfl,⟨omQ,omQ⟩,omQ,aB hM hag1⟩
 ·intro hF hM
  replace hM:=aF hM;obtain ⟨f15,d15,hf15,hd15,hM⟩:=hM
  refine aL (fun n S=> ∃p:Int,S=(⟨[(1,.ptr 0 0),(33,.sl none 81 true (k_.p.Chains.map bl)),(34,.int .i64 (k_.p.Chains.length:Int)),(35,.int .i64 p)],[(0,.var 47 true ((bE k_)))],1⟩:St)∧((0≤p)∧(p≤(k_.p.Chains.length:Int)))∧((k_.p.Chains.length:Int) - p).toNat<n∧ae n f15 d15 p=r) (((k_.p.Chains.length:Int) - 0).toNat+1) _ sbQ sbQ ⟨0,rfl,⟨omQ,omQ⟩,(Nat.lt_succ_self _),hM⟩ ?_
  clear hM
  rintro n15 S ⟨p15,rfl,hfa15,hm15,hM⟩
  replace hM:=aG hM (by omega) hf15;obtain ⟨ag15,hag15,hM⟩:=hM
  replace hfa15:=nzQ hfa15
  replace hm15:=nzQ hm15
  have ha15:al .i64 p15 1=p15+1:=aJ omQ omQ
  replace hF:=(And.intro ha15 hF)
  revert hM;revert hF
  refine slQ ?_
  refine aq fun _ _ _=> ?_
  intro hF hM
  replace hM:=aw hM;obtain ⟨x19,hx20,hM⟩:=hM
  have hcx19:=cmH hx20 (Nn (k_.b) (k_.l) (gt k_.p.Chains p15) (by (exact hp0.2.c.2 _ (bH (by omega)))))
  refine aP hcx19 (an hF) (an hF) (fun hw21=> ?_)
  replace hw21:=nzQ hw21
  revert hM;revert hF
  refine slQ ?_
  refine az fun _ _ _=> ?_
  intro hF hM
  refine aC (n15 - 1) _ (by omega) sbQ sbQ ⟨(p15+1),rfl,⟨omQ,omQ⟩,omQ,aB hM hag15⟩
theorem Nq (h_:bh) (hp0:h_.L.length≤12):CM En (t8 h_) 136 [(bl h_)] (fun y=>(aQ y)) (fun _=> []):=by
 refine enQ noJ Tryz.func136 Tryz.ntmps136 (t8.eq_1 ..) fun r hw=> ?_
 refine aq fun _ _ _=> ?_
 have ha3:aA .i64 (h_.L.length:Int) 1=((h_.L.length:Int) - 1):=du ao ao
 intro hF hM
 try simp only [ha3]
 replace hF:=(And.intro ha3 hF)
 exact auQ
theorem Eg (k_:cj) (hp0:okK k_):CM En (nU k_) 103 [(bE k_)] (fun y=> .sl none 80 true (y.map aQ)) (fun _=> []):=by
 refine enQ noJ Tryz.func103 Tryz.ntmps103 (nU.eq_1 ..) fun r hw=> ?_
 have h0_0:=fI hp0
 refine slQ ?_
 intro hF hM
 replace hM:=aF hM;obtain ⟨f1,d1,hf1,hd1,hM⟩:=hM
 refine aL (fun n S=> ∃p:Int×List au,S=(⟨[(3,.own 1),(13,.sl none 81 true (k_.p.Chains.map bl)),(14,.int .i64 (k_.p.Chains.length:Int)),(15,.int .i64 p.1)],[(1,.own 71 80 true none (p.2.map aQ))],2⟩:St)∧((0≤p.1)∧(p.1≤(k_.p.Chains.length:Int))∧(((p.2).length:Int)≤p.1+((([]:List au)++k_.p.Spends)).length))∧((k_.p.Chains.length:Int) - p.1).toNat<n∧ae n f1 d1 p=r) (((k_.p.Chains.length:Int) - 0).toNat+1) _ sbQ sbQ ⟨(0,(([]:List au)++k_.p.Spends)),rfl,⟨omQ,omQ,omQ⟩,(Nat.lt_succ_self _),hM⟩ ?_
 clear hM
 rintro n1 S ⟨p1,rfl,hfa1,hm1,hM⟩
 replace hM:=aG hM (by omega) hf1;obtain ⟨ag1,hag1,hM⟩:=hM
 replace hfa1:=nzQ hfa1
 replace hm1:=nzQ hm1
 have ha1:al .i64 p1.1 1=p1.1+1:=aJ omQ omQ
 replace hF:=(And.intro ha1 hF)
 revert hM;revert hF
 refine slQ ?_
 refine aq fun _ _ _=> ?_
 intro hF hM
 replace hM:=aw hM;obtain ⟨x5,hx6,hM⟩:=hM
 have hcx5:=cmH hx6 (Nq (gt k_.p.Chains p1.1) (by (exact (hp0.2.c.2 _ (bH (by omega))).1)))
 refine aP hcx5 (an hF) (an hF) (fun hw7=> ?_)
 replace hw7:=nzQ hw7
 revert hM;revert hF
 refine slQ ?_
 intro hF hM
 refine aC (n1 - 1) _ (by omega) sbQ sbQ ⟨((p1.1+1),(p1.2++([x5]:List au))),rfl,⟨omQ,omQ,omQ⟩,omQ,aB hM hag1⟩
theorem Nr (k_:cj) (hp0:okK k_):CM En (t_ k_) 58 [(bE k_)] (fun y=> .bool y) (fun _=> []):=by
 refine enQ noJ Tryz.func58 Tryz.ntmps58 (t_.eq_1 ..) fun r hw=> ?_
 have h0_0:=fI hp0
 refine ax fun x1 _ _ _=> ?_
 intro hF hM
 replace hM:=aw hM;obtain ⟨x4,hx5,hM⟩:=hM
 have hcx4:=cmH hx5 (Eg k_ (by (exact hp0)))
 refine aP hcx4 clQ clQ (fun hw6=> ?_)
 replace hw6:=nzQ hw6
 revert hM;revert hF
 refine slQ ?_
 have hq7:=DR hp0 hx5
 replace hq7:=nzQ hq7
 intro hF hM
 replace hM:=aF hM;obtain ⟨f8,d8,hf8,hd8,hM⟩:=hM
 refine aL (fun n S=> ∃p:Int,S=(⟨[(3,.ptr 1 0),(14,.sl none 80 true (x4.map aQ)),(15,.int .i64 (x4.length:Int)),(16,.int .i64 p)],[(1,.var 34 true ((lU x1.1)))],2⟩:St)∧((0≤p)∧(p≤(x4.length:Int)))∧((x4.length:Int) - p).toNat<n∧ae n f8 d8 p=r) (((x4.length:Int) - 0).toNat+1) _ sbQ sbQ ⟨0,rfl,⟨omQ,omQ⟩,(Nat.lt_succ_self _),hM⟩ ?_
 clear hM
 rintro n8 S ⟨p8,rfl,hfa8,hm8,hM⟩
 replace hM:=aG hM (by omega) hf8;obtain ⟨ag8,hag8,hM⟩:=hM
 replace hfa8:=nzQ hfa8
 replace hm8:=nzQ hm8
 have ha8:al .i64 p8 1=p8+1:=aJ omQ omQ
 replace hF:=(And.intro ha8 hF)
 revert hM;revert hF
 refine slQ ?_
 refine aq fun _ _ _=> ?_
 intro hF hM
 refine bY (fun h12=> ?_) (fun h12=> ?_)
 ·have kh12:(!(jq ((gt x4 p8).Context) (x1.1)))=true:=h12
  rw [if_pos kh12] at hM
  replace hF:=(And.intro h12 hF)
  revert hM;revert hF
  refine slQ ?_
  intro hF hM
  have nh12:=nzQ kh12
  try have hr13:=mpQ nh12
  exact auQ
 ·have kh12:(!(jq ((gt x4 p8).Context) (x1.1)))=false:=h12
  rw [if_neg (bX kh12)] at hM
  replace hF:=(And.intro h12 hF)
  revert hM;revert hF
  refine slQ ?_
  intro hF hM
  have nh12:=nzQ kh12
  try have hr14:=mpQ nh12
  refine aC (n8 - 1) _ (by omega) sbQ sbQ ⟨(p8+1),rfl,⟨omQ,omQ⟩,omQ,aB hM hag8⟩
instance TC (r_:bg) (now:Int):CM En (yJ r_ now) 104 [(cD r_),.int .i64 now] (fun y=> .bool y) (fun _=> []):=by
 refine enQ noJ Tryz.func104 Tryz.ntmps104 (yJ.eq_1 ..) fun r hw=> ?_
 exact auR
theorem Ns (k_:cj) (hp0:okK k_):CM En (ua k_) 59 [(bE k_)] (fun y=> .bool y) (fun _=> []):=by
 refine enQ noJ Tryz.func59 Tryz.ntmps59 (ua.eq_1 ..) fun r hw=> ?_
 have h0_0:=fI hp0
 intro hF hM
 replace hM:=aw hM;obtain ⟨x1,hx2,hM⟩:=hM
 have hcx1:=cmH hx2 (D_ k_ (by (exact hp0)))
 refine aP hcx1 clQ clQ (fun hw3=> ?_)
 replace hw3:=nzQ hw3
 revert hM;revert hF
 refine slQ ?_
 have hq4:=DS hp0 hx2
 replace hq4:=nzQ hq4
 intro hF hM
 replace hM:=aF hM;obtain ⟨f5,d5,hf5,hd5,hM⟩:=hM
 refine aL (fun n S=> ∃p:Int,S=(⟨[(1,.ptr 0 0),(8,.sl none 41 true (x1.map dR)),(9,.int .i64 (x1.length:Int)),(10,.int .i64 p)],[(0,.var 47 true ((bE k_)))],1⟩:St)∧((0≤p)∧(p≤(x1.length:Int)))∧((x1.length:Int) - p).toNat<n∧ae n f5 d5 p=r) (((x1.length:Int) - 0).toNat+1) _ sbQ sbQ ⟨0,rfl,⟨omQ,omQ⟩,(Nat.lt_succ_self _),hM⟩ ?_
 clear hM
 rintro n5 S ⟨p5,rfl,hfa5,hm5,hM⟩
 replace hM:=aG hM (by omega) hf5;obtain ⟨ag5,hag5,hM⟩:=hM
 replace hfa5:=nzQ hfa5
 replace hm5:=nzQ hm5
 have ha5:al .i64 p5 1=p5+1:=aJ omQ omQ
 replace hF:=(And.intro ha5 hF)
 revert hM;revert hF
 refine slQ ?_
 refine aq fun _ _ _=> ?_
 intro hF hM
 replace hM:=aw hM;obtain ⟨x9,hx10,hM⟩:=hM
 have hcx9:=cmH hx10 (uN k_ (gt x1 p5) (by (exact hp0)))
 refine aP hcx9 (an hF) (an hF) (fun hw11=> ?_)
 replace hw11:=nzQ hw11
 revert hM;revert hF
 refine slQ ?_
 refine ax fun _ _ _ _=> ?_
 refine az fun _ _ _=> ?_
 intro hF hM
 refine aC (n5 - 1) _ (by omega) sbQ sbQ ⟨(p5+1),rfl,⟨omQ,omQ⟩,omQ,aB hM hag5⟩
theorem Eh (p_:aK) (hp0:dC p_):CM En (nV p_) 78 [.agg [.int .i64 p_.Number,.sl none 80 true (p_.Spends.map aQ),.sl none 81 true (p_.Chains.map bl),.sl none 5 true (p_.Escrow.map bQ)]] (fun y=> .sl none 83 true (y.map nv)) (fun _=> []):=by
 refine enQ noJ Tryz.func78 Tryz.ntmps78 (nV.eq_1 ..) fun r hw=> ?_
 intro hF hM
 replace hM:=aw hM;obtain ⟨x1,hx2,hM⟩:=hM
 have hcx1:=cmH hx2 (D9 p_ (by (exact hp0)))
 refine aP hcx1 clQ clQ (fun hw3=> ?_)
 replace hw3:=nzQ hw3
 revert hM;revert hF
 refine slQ ?_
 have hq4:=Dz hp0 hx2
 replace hq4:=nzQ hq4
 intro hF hM
 replace hM:=aF hM;obtain ⟨f5,d5,hf5,hd5,hM⟩:=hM
 refine dZ (fun n S=> ∃p:Int×List de,S=(⟨[(3,.own 1),(9,.sl none 80 true (x1.map aQ)),(10,.int .i64 (x1.length:Int)),(11,.int .i64 p.1)],[(1,.own 117 83 true none (p.2.map nv))],2⟩:St)∧(((0≤p.1)∧(p.1≤(x1.length:Int)))∧(((p.2).length:Int)≤40*p.1))∧((x1.length:Int) - p.1).toNat<n∧ae n f5 d5 p=r) (((x1.length:Int) - 0).toNat+1) _ _ (gI 3 117 rfl (by decide)) sbQ sbQ ⟨(0,([]:List de)),rfl,⟨⟨by (first|exact omQ|(clear hM;first|(have h99:=ou (l:=x1) (i:=p5.1) (by assumption) (by omega);exact ao))),by (first|exact omQ|(clear hM;first|(have h99:=ou (l:=x1) (i:=p5.1) (by assumption) (by omega);exact ao)))⟩,by exact ao⟩,(Nat.lt_succ_self _),hM⟩ ?_
 clear hM
 rintro n5 S ⟨p5,rfl,⟨hfa5,hF3_0⟩,hm5,hM⟩
 have hA0:=fun a0 a1=>ou (l:=x1) (i:=p5.1) a0 a1
 have hA1:=fun a0 a1=>ou (l:=x1) (i:=(p5.1+1)) a0 a1
 replace hM:=aG hM (by omega) hf5;obtain ⟨ag5,hag5,hM⟩:=hM
 replace hfa5:=nzQ hfa5
 replace hm5:=nzQ hm5
 have ha5:al .i64 p5.1 1=p5.1+1:=aJ (by exact omA) (by exact omA)
 replace hF:=(And.intro ha5 hF)
 revert hM;revert hF
 refine slQ ?_
 refine aq fun _ _ _=> ?_
 intro hF hM
 replace hM:=aF hM;obtain ⟨f9,d9,hf9,hd9,hM⟩:=hM
 refine aL (fun n S=> ∃p:Int×List de,S=(⟨[(3,.own 1),(5,.ptr 2 0),(9,.sl none 80 true (x1.map aQ)),(10,.int .i64 (x1.length:Int)),(11,.int .i64 p5.1),(16,.sl none 3 true ((gt x1 p5.1).Leaves.map dQ)),(17,.int .i64 ((gt x1 p5.1).Leaves.length:Int)),(18,.int .i64 p.1)],[(1,.own 117 83 true none (p.2.map nv)),(2,.var 80 true ((aQ (gt x1 p5.1))))],3⟩:St)∧((0≤p.1)∧(p.1≤((gt x1 p5.1).Leaves.length:Int))∧(((p.2).length:Int)≤40*p5.1+p.1))∧(((gt x1 p5.1).Leaves.length:Int) - p.1).toNat<n∧ae n f9 d9 p=r) ((((gt x1 p5.1).Leaves.length:Int) - 0).toNat+1) _ sbQ sbQ ⟨(0,p5.2),rfl,⟨by exact omA,by exact omA,by exact omA⟩,(Nat.lt_succ_self _),hM⟩ ?_
 clear hM
 rintro n9 S ⟨p9,rfl,hfa9,hm9,hM⟩
 replace hM:=aG hM (by omega) hf9;obtain ⟨ag9,hag9,hM⟩:=hM
 replace hfa9:=nzQ hfa9
 replace hm9:=nzQ hm9
 have ha9:al .i64 p9.1 1=p9.1+1:=aJ (by exact omA) (by exact omA)
 replace hF:=(And.intro ha9 hF)
 revert hM;revert hF
 refine slQ ?_
 refine az fun _ _ _=> ?_
 intro hF hM
 refine aC (n5 - 1) _ (by omega) sbQ sbQ ⟨((p5.1+1),p9.2),rfl,⟨⟨by exact omA,by exact omA⟩,by (have h9:=ou (i:=p5.1) (by assumption) (by omega);clear hM;exact ao)⟩,by exact omA,aB hM hag5⟩
theorem Nt (k_:cj) (hp0:okK k_):CM En (uc k_) 60 [(bE k_)] (fun y=> .bool y) (fun _=> []):=by
 refine enQ noJ Tryz.func60 Tryz.ntmps60 (uc.eq_1 ..) fun r hw=> ?_
 have h0_0:=fI hp0
 intro hF hM
 replace hM:=aw hM;obtain ⟨x1,hx2,hM⟩:=hM
 have hcx1:=cmH hx2 (Eh (k_.p) (by (exact hp0.2)))
 refine aP hcx1 clQ clQ (fun hw3=> ?_)
 replace hw3:=nzQ hw3
 revert hM;revert hF
 refine slQ ?_
 have hq4:=DT hp0.2 hx2
 replace hq4:=nzQ hq4
 intro hF hM
 replace hM:=aF hM;obtain ⟨f5,d5,hf5,hd5,hM⟩:=hM
 refine aL (fun n S=> ∃p:Int×List (List Int),S=(⟨[(3,.own 1),(10,.sl none 83 true (x1.map nv)),(11,.int .i64 (x1.length:Int)),(12,.int .i64 p.1)],[(1,.kset true .i64 2 p.2)],2⟩:St)∧((0≤p.1)∧(p.1≤(x1.length:Int)))∧((x1.length:Int) - p.1).toNat<n∧ae n f5 d5 p=r) (((x1.length:Int) - 0).toNat+1) _ sbQ sbQ ⟨(0,([]:List (List Int))),rfl,⟨omQ,omQ⟩,(Nat.lt_succ_self _),hM⟩ ?_
 clear hM
 rintro n5 S ⟨p5,rfl,hfa5,hm5,hM⟩
 replace hM:=aG hM (by omega) hf5;obtain ⟨ag5,hag5,hM⟩:=hM
 replace hfa5:=nzQ hfa5
 replace hm5:=nzQ hm5
 have ha5:al .i64 p5.1 1=p5.1+1:=aJ omQ omQ
 replace hF:=(And.intro ha5 hF)
 revert hM;revert hF
 refine slQ ?_
 refine aq fun _ _ _=> ?_
 refine az fun _ _ _=> ?_
 intro hF hM
 refine aC (n5 - 1) _ (by omega) sbQ sbQ ⟨((p5.1+1),(gY p5.2 [(gt x1 p5.1).A,(gt x1 p5.1).B])),rfl,⟨omQ,omQ⟩,omQ,aB hM hag5⟩
instance TD (n_:Int):CM En (nW n_) 166 [.int .i64 n_] (fun y=> .agg [.int .i64 y.Kind,.int .i64 y.N,.sl none 1 false (y.B.map (V.int .u8)),.sl none 4 true (y.L.map bv)]) (fun _=> []):=by
 refine enQ noJ Tryz.func166 Tryz.ntmps166 (nW.eq_1 ..) fun r hw=> ?_
 exact auR
set_option maxRecDepth 512 in
instance (priority:=1039):DRD 3 24 17 [7,8,9,10,11,12,13,14,15,16,17,18,19,20,21,22,23] [] ([[],[0],[0,1],[],[3],[3,4],[],[6],[6,7],[],[9],[9,10],[0,1,2,3,4,5,6,7,8,9,10,11],[0,1,2,3,4,5,6,7,8,9,10,11,12],[0,1,2,3,4,5,6,7,8,9,10,11,12,13],[0,1,2,3,4,5,6,7,8,9,10,11,12,13,14],[0,1,2,3,4,5,6,7,8,9,10,11,12,13,14]]++[List.range 17,List.range 18]) [(12,13)]:=⟨trivial⟩
instance TE (v:aN):CM En (qy v) 137 [(aZ v)] (fun y=> .tup [.sl none 1 false (y.1.map (V.int .u8)),.int .i64 y.2]) (fun _=> []):=by
 refine enQ [3] Tryz.func137 Tryz.ntmps137 (qy.eq_1 ..) fun r hw=> ?_
 intro hF hM
 refine gK ?_
 revert hM;revert hF
 refine slQ ?_
 refine ax fun _ _ _ _=> ?_
 refine az fun _ _ _=> ?_
 intro hF hM
 refine il _ (⟨[(1,.ptr 0 0)],[(0,.pvar 35 true ((aZ v)))],1⟩:St) (ij (S:=⟨_,_,_⟩) 0 (n:=35) (g:=true) (d:=(aZ v)) clQ clQ) sbQ sbQ ?_
 revert hM;revert hF
 refine slQ ?_
 refine ax fun x7 hx8 _ _=> ?_
 have hq9:=zi hx8
 replace hq9:=nzQ hq9
 refine ax fun x10 hx11 _ _=> ?_
 have hq12:=zi hx11
 replace hq12:=nzQ hq12
 refine ax fun x13 hx14 _ _=> ?_
 have hq15:=zi hx14
 replace hq15:=nzQ hq15
 intro hF hM
 replace hM:=aw hM;obtain ⟨x16,hx17,hM⟩:=hM
 have hcx16:=cmH hx17 (kK ({Kind:=3,N:=0,B:=([]:List Int),L:=([({Kind:=2,N:=0,B:=(bd 32 v.Payee),L:=([]:List am)}:am),x7,x10,x13]:List am)}:am) (by (simp only [hgt,bM,dc,List.length_nil];omega)))
 refine bC hcx16 clQ clQ ?_
 exact auP
instance TF (v:aN):CM En (yK v) 105 [(aZ v)] (fun y=> .tup [.str y.1,.int .i64 y.2]) (fun _=> []):=by
 refine enQ noJ Tryz.func105 Tryz.ntmps105 (yK.eq_1 ..) fun r hw=> ?_
 refine ax fun x1 hx2 _ _=> ?_
 have hq4:=LM hx2
 replace hq4:=nzQ hq4
 refine az fun _ _ _=> ?_
 intro hF hM
 replace hM:=aw hM;obtain ⟨x8,hx9,hM⟩:=hM
 have hcx8:=cmH hx9 (iI ([115,112,101,99,105,101,47,105,110,118,111,105,99,101]) (x1.1) (by (exact pfQ)))
 refine aP hcx8 clQ clQ (fun hw10=> ?_)
 replace hw10:=nzQ hw10
 revert hM;revert hF
 refine slQ ?_
 refine az fun _ _ _=> ?_
 refine ax fun x14 _ _ _=> ?_
 have hG0:= @List.length_take_le _ 16 (x14)
 have hG1:=fU
 exact auR
instance TG (b:aY) (x_:Int):CM En (ud b x_) 171 [(bL b),.int .i64 x_] (fun y=> .bool y) (fun _=> []):=by
 refine enQ noJ Tryz.func171 Tryz.ntmps171 (ud.eq_1 ..) fun r hw=> ?_
 exact auR
instance TH (b:aY) (x_:Int) (y:Int):CM En (yL b x_ y) 203 [(bL b),.int .i64 x_,.int .i64 y] (fun y=> .int .i64 y) (fun _=> []):=by
 refine enQ noJ Tryz.func203 Tryz.ntmps203 (yL.eq_1 ..) fun r hw=> ?_
 exact auR
instance TJ (b:aY) (x_:Int) (e_:Int):CM En (ue b x_ e_) 204 [(bL b),.int .i64 x_,.int .i64 e_] (fun y=> .int .i64 y) (fun _=> []):=by
 refine enQ noJ Tryz.func204 Tryz.ntmps204 (ue.eq_1 ..) fun r hw=> ?_
 exact auR
set_option maxRecDepth 512 in
instance (priority:=1040):DRD 1 31 21 [9,10,11,12,13,14,15,16,17,18,19,20,21,22,23,24,25,26,27,28,29] [] ([[],[0],[],[],[3],[],[5],[2,3,4,5,6],[],[],[8,9],[2,3,4,5,6,7,8,9,10],[],[12],[],[],[15],[15,16],[14,15,16,17],[12,13,14,15,16,17,18],[2,3,4,5,6,7,8,9,10,11,12,13,14,15,16,17,18,19]]++[List.range 21,List.range 22]) [(1,4),(11,14),(19,22),(20,23)]:=⟨trivial⟩
instance TK (b:aY) (y:Int) (pseudonym:Int) (x_:bZ):CM En (yM b y pseudonym x_) 172 [(bL b),.int .i64 y,.int .i64 pseudonym,(bQ x_)] (fun y=> .agg [.sl none 1 false (y.Y.map (V.int .i64)),.sl none 1 false (y.Bases.map (fun (l:List Int)=>V.sl none 1 false (l.map (V.int .i64))))]) (fun _=> []):=by
 refine enQ noJ Tryz.func172 Tryz.ntmps172 (yM.eq_1 ..) fun r hw=> ?_
 exact auR
instance TL (b:aY) (y:Int) (pseudonym:Int) (x_:bZ):CM En (yN b y pseudonym x_) 140 [(bL b),.int .i64 y,.int .i64 pseudonym,(bQ x_)] (fun y=> .tup [.agg [.sl none 1 false (y.1.Y.map (V.int .i64)),.sl none 1 false (y.1.Bases.map (fun (l:List Int)=>V.sl none 1 false (l.map (V.int .i64))))],.int .i64 y.2]) (fun _=> []):=by
 refine enQ noJ Tryz.func140 Tryz.ntmps140 (yN.eq_1 ..) fun r hw=> ?_
 exact auR
instance TM (g:aO) (x_:Int):CM En (yO g x_) 256 [.agg [.int .i64 g.P,.int .i64 g.Q,.int .i64 g.G],.int .i64 x_] (fun y=> .bool y) (fun _=> []):=by
 refine enQ noJ Tryz.func256 Tryz.ntmps256 (yO.eq_1 ..) fun r hw=> ?_
 exact auR
instance TN (x_:Int) (c0:aO):CM En (yP x_ c0) 255 [.int .i64 x_,.pp 3 true (.agg [.int .i64 c0.P,.int .i64 c0.Q,.int .i64 c0.G])] (fun y=> .bool y) (fun _=> []):=by
 refine enQ noJ Tryz.func255 Tryz.ntmps255 (yP.eq_1 ..) fun r hw=> ?_
 exact auR
instance TO (s:(List Int)) (f__c0:aO):CM En (yQ s f__c0) 229 [.sl none 1 false (s.map (V.int .i64)),.fn 255 [.pp 3 true (.agg [.int .i64 f__c0.P,.int .i64 f__c0.Q,.int .i64 f__c0.G])]] (fun y=> .int .i64 y) (fun _=> []):=by
 refine enQ noJ Tryz.func229 Tryz.ntmps229 (yQ.eq_1 ..) fun r hw=> ?_
 intro hF hM
 replace hM:=aF hM;obtain ⟨f1,d1,hf1,hd1,hM⟩:=hM
 refine aL (fun n S=> ∃p:Int,S=(⟨[(0,.sl none 1 false (s.map (V.int .i64))),(1,.fn 255 [.pp 3 true (.agg [.int .i64 f__c0.P,.int .i64 f__c0.Q,.int .i64 f__c0.G])]),(7,.int .i64 (s.length:Int)),(8,.int .i64 p)],[],0⟩:St)∧((0≤p)∧(p≤(s.length:Int)))∧((s.length:Int) - p).toNat<n∧ae n f1 d1 p=r) (((s.length:Int) - 0).toNat+1) _ sbQ sbQ ⟨0,rfl,⟨omQ,omQ⟩,(Nat.lt_succ_self _),hM⟩ ?_
 clear hM
 rintro n1 S ⟨p1,rfl,hfa1,hm1,hM⟩
 replace hM:=aG hM (by omega) hf1;obtain ⟨ag1,hag1,hM⟩:=hM
 replace hfa1:=nzQ hfa1
 replace hm1:=nzQ hm1
 have ha1:al .i64 p1 1=p1+1:=aJ omQ omQ
 replace hF:=(And.intro ha1 hF)
 revert hM;revert hF
 refine slQ ?_
 refine aq fun _ _ _=> ?_
 refine ax fun _ _ _ _=> ?_
 refine az fun _ _ _=> ?_
 intro hF hM
 refine aC (n1 - 1) _ (by omega) sbQ sbQ ⟨(p1+1),rfl,⟨omQ,omQ⟩,omQ,aB hM hag1⟩
instance TP (s:(List Int)) (f__c0:aO):CM En (yR s f__c0) 194 [.sl none 1 false (s.map (V.int .i64)),.fn 255 [.pp 3 true (.agg [.int .i64 f__c0.P,.int .i64 f__c0.Q,.int .i64 f__c0.G])]] (fun y=> .bool y) (fun _=> []):=by
 refine enQ noJ Tryz.func194 Tryz.ntmps194 (yR.eq_1 ..) fun r hw=> ?_
 exact auR
instance TQ (g:aO) (l:(List Int)):CM En (uf g l) 237 [.agg [.int .i64 g.P,.int .i64 g.Q,.int .i64 g.G],.sl none 1 false (l.map (V.int .i64))] (fun y=> .bool y) (fun _=> []):=by
 refine enQ noJ Tryz.func237 Tryz.ntmps237 (uf.eq_1 ..) fun r hw=> ?_
 exact auR
instance TR (row:(List Int)) (c0:Int) (c1:aO):CM En (qz row c0 c1) 239 [.sl none 1 false (row.map (V.int .i64)),.pp 1 false (.int .i64 c0),.pp 3 true (.agg [.int .i64 c1.P,.int .i64 c1.Q,.int .i64 c1.G])] (fun y=> .bool y) (fun _=> []):=by
 refine enQ noJ Tryz.func239 Tryz.ntmps239 (qz.eq_1 ..) fun r hw=> ?_
 exact auR
instance TS (s:(List (List Int))) (f__c0:Int) (f__c1:aO):CM En (nX s f__c0 f__c1) 257 [.sl none 1 false (s.map (fun (l:List Int)=>V.sl none 1 false (l.map (V.int .i64)))),.fn 239 [.pp 1 false (.int .i64 f__c0),.pp 3 true (.agg [.int .i64 f__c1.P,.int .i64 f__c1.Q,.int .i64 f__c1.G])]] (fun y=> .int .i64 y) (fun _=> []):=by
 refine enQ noJ Tryz.func257 Tryz.ntmps257 (nX.eq_1 ..) fun r hw=> ?_
 intro hF hM
 replace hM:=aF hM;obtain ⟨f1,d1,hf1,hd1,hM⟩:=hM
 refine aL (fun n S=> ∃p:Int,S=(⟨[(0,.sl none 1 false (s.map (fun (l:List Int)=>V.sl none 1 false (l.map (V.int .i64))))),(1,.fn 239 [.pp 1 false (.int .i64 f__c0),.pp 3 true (.agg [.int .i64 f__c1.P,.int .i64 f__c1.Q,.int .i64 f__c1.G])]),(7,.int .i64 (s.length:Int)),(8,.int .i64 p)],[],0⟩:St)∧((0≤p)∧(p≤(s.length:Int)))∧((s.length:Int) - p).toNat<n∧ae n f1 d1 p=r) (((s.length:Int) - 0).toNat+1) _ sbQ sbQ ⟨0,rfl,⟨omQ,omQ⟩,(Nat.lt_succ_self _),hM⟩ ?_
 clear hM
 rintro n1 S ⟨p1,rfl,hfa1,hm1,hM⟩
 replace hM:=aG hM (by omega) hf1;obtain ⟨ag1,hag1,hM⟩:=hM
 replace hfa1:=nzQ hfa1
 replace hm1:=nzQ hm1
 have ha1:al .i64 p1 1=p1+1:=aJ omQ omQ
 replace hF:=(And.intro ha1 hF)
 revert hM;revert hF
 refine slQ ?_
 refine aq fun _ _ _=> ?_
 refine ax fun _ _ _ _=> ?_
 refine az fun _ _ _=> ?_
 intro hF hM
 refine aC (n1 - 1) _ (by omega) sbQ sbQ ⟨(p1+1),rfl,⟨omQ,omQ⟩,omQ,aB hM hag1⟩
instance TT (s:(List (List Int))) (f__c0:Int) (f__c1:aO):CM En (qA s f__c0 f__c1) 238 [.sl none 1 false (s.map (fun (l:List Int)=>V.sl none 1 false (l.map (V.int .i64)))),.fn 239 [.pp 1 false (.int .i64 f__c0),.pp 3 true (.agg [.int .i64 f__c1.P,.int .i64 f__c1.Q,.int .i64 f__c1.G])]] (fun y=> .bool y) (fun _=> []):=by
 refine enQ noJ Tryz.func238 Tryz.ntmps238 (qA.eq_1 ..) fun r hw=> ?_
 exact auR
instance TU (g:aO) (r_:cC):CM En (mj g r_) 205 [.agg [.int .i64 g.P,.int .i64 g.Q,.int .i64 g.G],.agg [.sl none 1 false (r_.Y.map (V.int .i64)),.sl none 1 false (r_.Bases.map (fun (l:List Int)=>V.sl none 1 false (l.map (V.int .i64))))]] (fun y=> .bool y) (fun _=> []):=by
 refine enQ noJ Tryz.func205 Tryz.ntmps205 (mj.eq_1 ..) fun r hw=> ?_
 exact auR
theorem Nu (r_:cC) (hp0:1≤r_.Bases.length):CM En (gR r_) 206 [.agg [.sl none 1 false (r_.Y.map (V.int .i64)),.sl none 1 false (r_.Bases.map (fun (l:List Int)=>V.sl none 1 false (l.map (V.int .i64))))]] (fun y=> .int .i64 y) (fun _=> []):=by
 refine enQ noJ Tryz.func206 Tryz.ntmps206 (gR.eq_1 ..) fun r hw=> ?_
 exact auR
instance TV (x_:Int) (c0:aO):CM En (yS x_ c0) 240 [.int .i64 x_,.pp 3 true (.agg [.int .i64 c0.P,.int .i64 c0.Q,.int .i64 c0.G])] (fun y=> .bool y) (fun _=> []):=by
 refine enQ noJ Tryz.func240 Tryz.ntmps240 (yS.eq_1 ..) fun r hw=> ?_
 exact auR
instance TW (s:(List Int)) (f__c0:aO):CM En (yT s f__c0) 229 [.sl none 1 false (s.map (V.int .i64)),.fn 240 [.pp 3 true (.agg [.int .i64 f__c0.P,.int .i64 f__c0.Q,.int .i64 f__c0.G])]] (fun y=> .int .i64 y) (fun _=> []):=by
 refine enQ noJ Tryz.func229 Tryz.ntmps229 (yT.eq_1 ..) fun r hw=> ?_
 intro hF hM
 replace hM:=aF hM;obtain ⟨f1,d1,hf1,hd1,hM⟩:=hM
 refine aL (fun n S=> ∃p:Int,S=(⟨[(0,.sl none 1 false (s.map (V.int .i64))),(1,.fn 240 [.pp 3 true (.agg [.int .i64 f__c0.P,.int .i64 f__c0.Q,.int .i64 f__c0.G])]),(7,.int .i64 (s.length:Int)),(8,.int .i64 p)],[],0⟩:St)∧((0≤p)∧(p≤(s.length:Int)))∧((s.length:Int) - p).toNat<n∧ae n f1 d1 p=r) (((s.length:Int) - 0).toNat+1) _ sbQ sbQ ⟨0,rfl,⟨omQ,omQ⟩,(Nat.lt_succ_self _),hM⟩ ?_
 clear hM
 rintro n1 S ⟨p1,rfl,hfa1,hm1,hM⟩
 replace hM:=aG hM (by omega) hf1;obtain ⟨ag1,hag1,hM⟩:=hM
 replace hfa1:=nzQ hfa1
 replace hm1:=nzQ hm1
 have ha1:al .i64 p1 1=p1+1:=aJ omQ omQ
 replace hF:=(And.intro ha1 hF)
 revert hM;revert hF
 refine slQ ?_
 refine aq fun _ _ _=> ?_
 refine ax fun _ _ _ _=> ?_
 refine az fun _ _ _=> ?_
 intro hF hM
 refine aC (n1 - 1) _ (by omega) sbQ sbQ ⟨(p1+1),rfl,⟨omQ,omQ⟩,omQ,aB hM hag1⟩
instance TX (s:(List Int)) (f__c0:aO):CM En (yU s f__c0) 194 [.sl none 1 false (s.map (V.int .i64)),.fn 240 [.pp 3 true (.agg [.int .i64 f__c0.P,.int .i64 f__c0.Q,.int .i64 f__c0.G])]] (fun y=> .bool y) (fun _=> []):=by
 refine enQ noJ Tryz.func194 Tryz.ntmps194 (yU.eq_1 ..) fun r hw=> ?_
 exact auR
instance TY (g:aO) (l:(List Int)):CM En (ug g l) 207 [.agg [.int .i64 g.P,.int .i64 g.Q,.int .i64 g.G],.sl none 1 false (l.map (V.int .i64))] (fun y=> .bool y) (fun _=> []):=by
 refine enQ noJ Tryz.func207 Tryz.ntmps207 (ug.eq_1 ..) fun r hw=> ?_
 exact auR
set_option maxRecDepth 512 in
instance (priority:=1041):DRD 5 43 12 [12,22,23,24,25,26,27,28,29,30,31,32] [] ([[],[],[],[1,2],[1,2,3],[],[5],[0,1,2,3,4,5,6],[0,1,2,3,4,5,6,7],[0,1,2,3,4,5,6,7,8],[0,1,2,3,4,5,6,7,8],[0,1,2,3,4,5,6,7,8,9]]++[List.range 12]) []:=⟨trivial⟩
theorem Nv (g:aO) (start:Int) (bases:(List Int)) (exps:(List Int)) (hp0:bases.length≤exps.length) (hp1:bases.length≤1000):CM En (uh g start bases exps) 258 [.agg [.int .i64 g.P,.int .i64 g.Q,.int .i64 g.G],.int .i64 start,.sl none 1 false (bases.map (V.int .i64)),.sl none 1 false (exps.map (V.int .i64))] (fun y=> .int .i64 y) (fun _=> []):=by
 refine enQ noJ Tryz.func258 Tryz.ntmps258 (uh.eq_1 ..) fun r hw=> ?_
 intro hF hM
 replace hM:=aF hM;obtain ⟨f1,d1,hf1,hd1,hM⟩:=hM
 refine aL (fun n S=> ∃p:Int×Int,S=(⟨[(3,.sl none 1 false (exps.map (V.int .i64))),(4,.ptr 0 0),(9,.int .i64 p.1),(15,.sl none 1 false (bases.map (V.int .i64))),(16,.int .i64 (bases.length:Int)),(17,.int .i64 p.2)],[(0,.var 3 true (.agg [.int .i64 g.P,.int .i64 g.Q,.int .i64 g.G]))],1⟩:St)∧((0≤p.2)∧(p.2≤(bases.length:Int)))∧((bases.length:Int) - p.2).toNat<n∧ae n f1 d1 p=r) (((bases.length:Int) - 0).toNat+1) _ sbQ sbQ ⟨(start,0),rfl,⟨omQ,omQ⟩,(Nat.lt_succ_self _),hM⟩ ?_
 clear hM
 rintro n1 S ⟨p1,rfl,hfa1,hm1,hM⟩
 replace hM:=aG hM (by omega) hf1;obtain ⟨ag1,hag1,hM⟩:=hM
 replace hfa1:=nzQ hfa1
 replace hm1:=nzQ hm1
 have ha1:al .i64 p1.2 1=p1.2+1:=aJ omQ omQ
 replace hF:=(And.intro ha1 hF)
 revert hM;revert hF
 refine slQ ?_
 refine aq fun _ _ _=> ?_
 refine ax fun _ _ _ _=> ?_
 refine ax fun x8 _ _ _=> ?_
 intro hF hM
 refine aC (n1 - 1) _ (by omega) sbQ sbQ ⟨(x8.1,(p1.2+1)),rfl,⟨omQ,omQ⟩,omQ,aB hM hag1⟩
theorem Nw (g:aO) (rows:(List (List Int))) (exps:(List Int)) (hp0: ∀x∈rows,x.length≤exps.length∧x.length≤1000) (hp1:rows.length≤1000):CM En (qB g rows exps) 241 [.agg [.int .i64 g.P,.int .i64 g.Q,.int .i64 g.G],.sl none 1 false (rows.map (fun (l:List Int)=>V.sl none 1 false (l.map (V.int .i64)))),.sl none 1 false (exps.map (V.int .i64))] (fun _=> .own 0) (fun y=> [.own 3 1 false none (y.map (V.int .i64))]):=by
 refine enQ noJ Tryz.func241 Tryz.ntmps241 (qB.eq_1 ..) fun r hw=> ?_
 intro hF hM
 replace hM:=aF hM;obtain ⟨f1,d1,hf1,hd1,hM⟩:=hM
 refine dZ (fun n S=> ∃p:Int×List Int,S=(⟨[(2,.sl none 1 false (exps.map (V.int .i64))),(3,.ptr 0 0),(7,.own 1),(10,.sl none 1 false (rows.map (fun (l:List Int)=>V.sl none 1 false (l.map (V.int .i64))))),(11,.int .i64 (rows.length:Int)),(12,.int .i64 p.1)],[(0,.var 3 true (.agg [.int .i64 g.P,.int .i64 g.Q,.int .i64 g.G])),(1,.own 3 1 false none (p.2.map (V.int .i64)))],2⟩:St)∧((0≤p.1)∧(p.1≤(rows.length:Int))∧(((p.2).length:Int)≤p.1))∧((rows.length:Int) - p.1).toNat<n∧ae n f1 d1 p=r) (((rows.length:Int) - 0).toNat+1) _ _ (gI 7 3 rfl (by decide)) sbQ sbQ ⟨(0,([]:List Int)),rfl,⟨omQ,omQ,omQ⟩,(Nat.lt_succ_self _),hM⟩ ?_
 clear hM
 rintro n1 S ⟨p1,rfl,hfa1,hm1,hM⟩
 replace hM:=aG hM (by omega) hf1;obtain ⟨ag1,hag1,hM⟩:=hM
 replace hfa1:=nzQ hfa1
 replace hm1:=nzQ hm1
 have ha1:al .i64 p1.1 1=p1.1+1:=aJ omQ omQ
 replace hF:=(And.intro ha1 hF)
 revert hM;revert hF
 refine slQ ?_
 refine cdQ (fun _ _ _=> ?_) (fun _ _ _=> ?_)
 ·intro hF hM
  replace hM:=aw hM;obtain ⟨x5,hx6,hM⟩:=hM
  have hcx5:=cmH hx6 (Nv g 1 (gt rows p1.1) exps (by (first|exact (hp0 _ (bH (by omega))).1|exact (hp0 _ (bH (by omega))).2)) (by (first|exact (hp0 _ (bH (by omega))).1|exact (hp0 _ (bH (by omega))).2)))
  refine aP hcx5 (an hF) (an hF) (fun hw7=> ?_)
  replace hw7:=nzQ hw7
  revert hM;revert hF
  refine slQ ?_
  intro hF hM
  refine aC (n1 - 1) _ (by omega) sbQ sbQ ⟨((p1.1+1),(p1.2++([x5]:List Int))),rfl,⟨omQ,omQ,omQ⟩,omQ,aB hM hag1⟩
 ·intro hF hM
  subst hM
  exact s8 [1] (bs:=[.own 3 1 false none (p1.2.map (V.int .i64))]) (an hF) (by decide) (cr hF)
set_option maxRecDepth 512 in
instance (priority:=1042):DRD 5 57 15 [12,27,28,29,30,31,32,33,34,35,36,37,38,39,40] [] ([[],[],[1],[],[1,2,3],[],[5],[1,2,3,4,5,6],[],[8],[0,1,2,3,4,5,6,7,8,9],[0,1,2,3,4,5,6,7,8,9,10],[0,1,2,3,4,5,6,7,8,9,10,11],[0,1,2,3,4,5,6,7,8,9,10,11],[0,1,2,3,4,5,6,7,8,9,10,11,12]]++[List.range 15]) []:=⟨trivial⟩
set_option maxRecDepth 512 in
instance (priority:=1043):DRD 6 57 15 [41,42,43,44,45,46,47,48,49,50,51,52,53,54] [] [[],[],[],[],[2,3],[2,3,4],[],[],[7],[2,3,4,5,6,7,8],[2,3,4,5,6,7,8,9],[2,3,4,5,6,7,8,9,10],[2,3,4,5,6,7,8,9,10],[0,1],[0,1,2,3,4,5,6,7,8,9,10,11,13]] [(14,2)]:=⟨trivial⟩
theorem Nx (g:aO) (r_:cC) (c:Int) (z_:(List Int)) (hp0: ∀x∈r_.Bases,x.length≤z_.length∧x.length≤1000) (hp1:r_.Bases.length=r_.Y.length) (hp2:r_.Y.length≤8) (hp3:1≤g.Q):CM En (yV g r_ c z_) 209 [.agg [.int .i64 g.P,.int .i64 g.Q,.int .i64 g.G],.agg [.sl none 1 false (r_.Y.map (V.int .i64)),.sl none 1 false (r_.Bases.map (fun (l:List Int)=>V.sl none 1 false (l.map (V.int .i64))))],.int .i64 c,.sl none 1 false (z_.map (V.int .i64))] (fun y=> .sl none 1 false (y.map (V.int .i64))) (fun _=> []):=by
 refine enQ noJ Tryz.func209 Tryz.ntmps209 (yV.eq_1 ..) fun r hw=> ?_
 intro hF hM
 replace hM:=aw hM;obtain ⟨x1,hx2,hM⟩:=hM
 have hcx1:=cmH hx2 (Nw g (r_.Bases) z_ (by (first|exact hp0|omega)) (by (first|exact hp0|omega)))
 refine aP hcx1 clQ clQ (fun hw3=> ?_)
 replace hw3:=nzQ hw3
 revert hM;revert hF
 refine slQ ?_
 have hq4:=L7 hx2
 replace hq4:=nzQ hq4
 intro hF hM
 replace hM:=aF hM;obtain ⟨f5,d5,hf5,hd5,hM⟩:=hM
 refine aL (fun n S=> ∃p:Int×List Int,S=(⟨[(2,.int .i64 c),(4,.ptr 0 0),(9,.own 2),(20,.sl none 1 false (r_.Y.map (V.int .i64))),(21,.int .i64 (r_.Y.length:Int)),(22,.int .i64 p.1)],[(0,.var 3 true (.agg [.int .i64 g.P,.int .i64 g.Q,.int .i64 g.G])),(2,.own 3 1 false none (p.2.map (V.int .i64)))],3⟩:St)∧((0≤p.1)∧(p.1≤(r_.Y.length:Int))∧((p.2).length=(x1).length))∧((r_.Y.length:Int) - p.1).toNat<n∧ae n f5 d5 p=r) (((r_.Y.length:Int) - 0).toNat+1) _ sbQ sbQ ⟨(0,x1),rfl,⟨omQ,omQ,omQ⟩,(Nat.lt_succ_self _),hM⟩ ?_
 clear hM
 rintro n5 S ⟨p5,rfl,hfa5,hm5,hM⟩
 replace hM:=aG hM (by omega) hf5;obtain ⟨ag5,hag5,hM⟩:=hM
 replace hfa5:=nzQ hfa5
 replace hm5:=nzQ hm5
 have ha5:al .i64 p5.1 1=p5.1+1:=aJ omQ omQ
 replace hF:=(And.intro ha5 hF)
 revert hM;revert hF
 refine slQ ?_
 refine aq fun _ _ _=> ?_
 refine ax fun _ _ _ _=> ?_
 refine ax fun x12 _ _ _=> ?_
 intro hF hM
 refine aC (n5 - 1) _ (by omega) sbQ sbQ ⟨((p5.1+1),(st p5.2 p5.1 x12.1)),rfl,⟨omQ,omQ,omQ⟩,omQ,aB hM hag5⟩
set_option maxRecDepth 512 in
instance (priority:=1044):DRD 6 26 8 [16,17,18,19,20,21,22,23] [] ([[],[],[0,1],[0,1,2],[],[],[4,5],[4,5,6]]++[List.range 8]) []:=⟨trivial⟩
instance TZ (s1:(List Int)) (s2:(List Int)):CM En (yW s1 s2) 208 [.sl none 1 false (s1.map (V.int .i64)),.sl none 1 false (s2.map (V.int .i64))] (fun y=> .bool y) (fun _=> []):=by
 refine enQ noJ Tryz.func208 Tryz.ntmps208 (yW.eq_1 ..) fun r hw=> ?_
 refine az fun _ _ _=> ?_
 intro hF hM
 replace hM:=aF hM;obtain ⟨f4,d4,hf4,hd4,hM⟩:=hM
 refine aL (fun n S=> ∃p:Int,S=(⟨[(0,.sl none 1 false (s1.map (V.int .i64))),(1,.sl none 1 false (s2.map (V.int .i64))),(12,.int .i64 (s1.length:Int)),(13,.int .i64 p)],[],0⟩:St)∧((0≤p)∧(p≤(s1.length:Int)))∧((s1.length:Int) - p).toNat<n∧ae n f4 d4 p=r) (((s1.length:Int) - 0).toNat+1) _ sbQ sbQ ⟨0,rfl,⟨omQ,omQ⟩,(Nat.lt_succ_self _),hM⟩ ?_
 clear hM
 rintro n4 S ⟨p4,rfl,hfa4,hm4,hM⟩
 replace hM:=aG hM (by omega) hf4;obtain ⟨ag4,hag4,hM⟩:=hM
 replace hfa4:=nzQ hfa4
 replace hm4:=nzQ hm4
 have ha4:al .i64 p4 1=p4+1:=aJ omQ omQ
 replace hF:=(And.intro ha4 hF)
 revert hM;revert hF
 refine slQ ?_
 refine aq fun _ _ _=> ?_
 refine az fun _ _ _=> ?_
 intro hF hM
 refine aC (n4 - 1) _ (by omega) sbQ sbQ ⟨(p4+1),rfl,⟨omQ,omQ⟩,omQ,aB hM hag4⟩
set_option maxRecDepth 512 in
instance (priority:=1045):DRD 1 53 33 [7,8,9,10,11,12,13,14,15,16,17,18,19,20,21,22,23,24,25,26,27,28,29,30,31,32,33,34,35,36,37,38,39] [] ([[],[],[0,1],[0,1,2],[0,1,2,3],[0,1,2,3,4],[0,1,2,3,4,5],[0,1,2,3,4,5,6],[0,1,2,3,4],[0,1,2,3,4,8],[0,1,2,3,4,8,9],[0,1,2,3,4,5,6,7,8,9,10],[0,1,2,3,4,5,6,7,8,9,10,11],[0,1,2,3,4,5,6,7,8,9,10,11,12],[0,1,2,3,4,5,6,7,8,9,10,11,12,13],[0,1,2,3,4,5,6,7,8,9,10,11,12,13,14],[0,1,2,3,4,5,6,7,8,9,10,11,12,13,14,15],[0,1,2,3,4,5,6,7,8,9,10,11,12,13],[0,1,2,3,4,5,6,7,8,9,10,11,12,13,17],[0,1,2,3,4,5,6,7,8,9,10,11,12,13,14,15,16,17,18],[0,1,2,3,4,5,6,7,8,9,10,11,12,13,14,15,16,17,18,19],[0,1,2,3,4,5,6,7,8,9,10,11,12,13,14,15,16,17,18,19,20],[0,1,2,3,4,5,6,7,8,9,10,11,12,13,14,15,16,17,18,19,20,21],[0,1,2,3,4,5,6,7,8,9,10,11,12,13,14,15,16,17,18,19,20,21],[0,1,2,3,4,5,6,7,8,9,10,11,12,13,14,15,16,17,18,19,20,21,23],[0,1,2,3,4,5,6,7,8,9,10,11,12,13,14,15,16,17,18,19,20,21,23,24],[0,1,2,3,4,5,6,7,8,9,10,11,12,13,14,15,16,17,18,19,20,21,22,23,24,25],[0,1,2,3,4,5,6,7,8,9,10,11,12,13,14,15,16,17,18,19,20,21,22,23,24,25,26],[0,1,2,3,4,5,6,7,8,9,10,11,12,13,14,15,16,17,18,19,20,21,22,23,24,25,26,27],[0,1,2,3,4,5,6,7,8,9,10,11,12,13,14,15,16,17,18,19,20,21,22,23,24,25,26,27,28],[0,1,2,3,4,5,6,7,8,9,10,11,12,13,14,15,16,17,18,19,20,21,22,23,24,25,26,27,28,29],[0,1,2,3,4,5,6,7,8,9,10,11,12,13,14,15,16,17,18,19,20,21,22,23,24,25,26,27,28,29],[0,1,2,3,4,5,6,7,8,9,10,11,12,13,14,15,16,17,18,19,20,21,22,23,24,25,26,27,28,29,31]]++[List.range 33,List.range 34,List.range 35]) []:=⟨trivial⟩
set_option maxRecDepth 512 in
instance (priority:=1046):DRD 3 53 9 [43,44,45,46,47,48,49,50,51] [] ([[],[],[],[2],[],[4],[0,1,2,3,4,5],[],[7]]++[List.range 9,List.range 10]) []:=⟨trivial⟩
instance T1 (g:aO) (r_:cC) (p_:dP):CM En (nY g r_ p_) 173 [.agg [.int .i64 g.P,.int .i64 g.Q,.int .i64 g.G],.agg [.sl none 1 false (r_.Y.map (V.int .i64)),.sl none 1 false (r_.Bases.map (fun (l:List Int)=>V.sl none 1 false (l.map (V.int .i64))))],.agg [.sl none 1 false (p_.A.map (V.int .i64)),.int .i64 p_.C,.sl none 1 false (p_.Z.map (V.int .i64))]] (fun y=> .bool y) (fun _=> []):=by
 refine enQ noJ Tryz.func173 Tryz.ntmps173 (nY.eq_1 ..) fun r hw=> ?_
 refine slQ ?_
 refine ax fun _ _ _ _=> ?_
 refine aq fun _ _ _=> ?_
 refine aq fun _ _ _=> ?_
 intro hF hM
 replace hM:=aw hM;obtain ⟨x8,hx9,hM⟩:=hM
 have hcx8:=cmH hx9 (Nu r_ (by (clear hM;have h9:=iH ‹okR _ _›;omega)))
 refine bC hcx8 clQ clQ ?_
 revert hM;revert hF
 refine slQ ?_
 refine aq fun _ _ _=> ?_
 refine ax fun _ _ _ _=> ?_
 refine aq fun _ _ _=> ?_
 refine ax fun _ _ _ _=> ?_
 refine az fun _ _ _=> ?_
 intro hF hM
 replace hM:=aw hM;obtain ⟨x22,hx23,hM⟩:=hM
 have hcx22:=cmH hx23 (Nx g r_ (p_.C) (p_.Z) (by (clear hM;first|exact uE ‹okR _ _› ‹_=gR _› (by omega)|(have h9:=iH ‹okR _ _›;omega))) (by (clear hM;first|exact uE ‹okR _ _› ‹_=gR _› (by omega)|(have h9:=iH ‹okR _ _›;omega))) (by (clear hM;first|exact uE ‹okR _ _› ‹_=gR _› (by omega)|(have h9:=iH ‹okR _ _›;omega))) (by (clear hM;first|exact uE ‹okR _ _› ‹_=gR _› (by omega)|(have h9:=iH ‹okR _ _›;omega))))
 refine bC hcx22 clQ clQ ?_
 exact auP
instance T2 (c:Int):CM En (yX c) 260 [.int .u8 c] (fun y=> .bool y) (fun _=> []):=by
 refine enQ noJ Tryz.func260 Tryz.ntmps260 (yX.eq_1 ..) fun r hw=> ?_
 exact auR
instance T3 (s:(List Int)):CM En (yY s) 264 [.sl none 1 false (s.map (V.int .u8)),.fn 260 []] (fun y=> .int .i64 y) (fun _=> []):=by
 refine enQ noJ Tryz.func264 Tryz.ntmps264 (yY.eq_1 ..) fun r hw=> ?_
 intro hF hM
 replace hM:=aF hM;obtain ⟨f1,d1,hf1,hd1,hM⟩:=hM
 refine aL (fun n S=> ∃p:Int,S=(⟨[(0,.sl none 1 false (s.map (V.int .u8))),(1,.fn 260 []),(7,.int .i64 (s.length:Int)),(8,.int .i64 p)],[],0⟩:St)∧((0≤p)∧(p≤(s.length:Int)))∧((s.length:Int) - p).toNat<n∧ae n f1 d1 p=r) (((s.length:Int) - 0).toNat+1) _ sbQ sbQ ⟨0,rfl,⟨omQ,omQ⟩,(Nat.lt_succ_self _),hM⟩ ?_
 clear hM
 rintro n1 S ⟨p1,rfl,hfa1,hm1,hM⟩
 replace hM:=aG hM (by omega) hf1;obtain ⟨ag1,hag1,hM⟩:=hM
 replace hfa1:=nzQ hfa1
 replace hm1:=nzQ hm1
 have ha1:al .i64 p1 1=p1+1:=aJ omQ omQ
 replace hF:=(And.intro ha1 hF)
 revert hM;revert hF
 refine slQ ?_
 refine aq fun _ _ _=> ?_
 refine ax fun _ _ _ _=> ?_
 refine az fun _ _ _=> ?_
 intro hF hM
 refine aC (n1 - 1) _ (by omega) sbQ sbQ ⟨(p1+1),rfl,⟨omQ,omQ⟩,omQ,aB hM hag1⟩
instance T4 (s:(List Int)):CM En (yZ s) 259 [.sl none 1 false (s.map (V.int .u8)),.fn 260 []] (fun y=> .bool y) (fun _=> []):=by
 refine enQ noJ Tryz.func259 Tryz.ntmps259 (yZ.eq_1 ..) fun r hw=> ?_
 exact auR
instance T5 (label:(List UInt8)):CM En (ml label) 242 [.str label] (fun y=> .bool y) (fun _=> []):=by
 refine enQ noJ Tryz.func242 Tryz.ntmps242 (ml.eq_1 ..) fun r hw=> ?_
 exact auR
instance T6 (label:(List UInt8)):CM En (y6 label) 210 [.str label] (fun y=> .tup [(fZ y.1),.int .i64 y.2]) (fun _=> []):=by
 refine enQ noJ Tryz.func210 Tryz.ntmps210 (y6.eq_1 ..) fun r hw=> ?_
 refine ax fun _ _ _ _=> ?_
 refine az fun _ _ _=> ?_
 intro hF hM
 replace hM:=aw hM;obtain ⟨x8,hx9,hM⟩:=hM
 have hcx8:=cmH hx9 (iI ([115,112,101,99,105,101,47,116,114,97,110,115,99,114,105,112,116]) (gJ label) (by (exact pfQ)))
 refine fD hcx8 clQ clQ (fun hw10=> ?_)
 replace hw10:=nzQ hw10
 exact auP
instance T7 (t:cf):CM En (uk t) 244 [(fZ t)] (fun y=> .bool y) (fun _=> []):=by
 refine enQ noJ Tryz.func244 Tryz.ntmps244 (uk.eq_1 ..) fun r hw=> ?_
 exact auR
theorem Ei (tag:(List UInt8)) (t:cf) (label:(List UInt8)) (more:(List am)) (hp0:bM more≤100000) (hp1:more.length≤10) (hp2:label.length≤100) (hp3:tag.length≤100):CM En (ul tag t label more) 245 [.str tag,(fZ t),.str label,.sl none 4 true (more.map bv)] (fun y=> .tup [(aH y.1),.int .i64 y.2]) (fun _=> []):=by
 refine enQ noJ Tryz.func245 Tryz.ntmps245 (ul.eq_1 ..) fun r hw=> ?_
 refine slQ ?_
 intro hF hM
 replace hM:=aw hM;obtain ⟨x1,hx2,hM⟩:=hM
 have hcx1:=cmH hx2 (kK ({Kind:=3,N:=0,B:=([]:List Int),L:=(([({Kind:=2,N:=0,B:=(bd 32 t.State),L:=([]:List am)}:am),({Kind:=2,N:=0,B:=(gJ label),L:=([]:List am)}:am)]:List am)++more)}:am) (by (clear hM;simp only [hgt,bM,qN,dc,nf,List.length_nil];omega)))
 refine lD hcx1 (Mb (S:=⟨_,_,_⟩) 3 ((([({Kind:=2,N:=0,B:=(bd 32 t.State),L:=([]:List am)}:am),({Kind:=2,N:=0,B:=(gJ label),L:=([]:List am)}:am)]:List am)++more).map bv) rfl sbQ) clQ (fun hw3=> ?_)
 replace hw3:=nzQ hw3
 revert hM;revert hF
 refine slQ ?_
 have hq4:=kI hx2
 replace hq4:=nzQ hq4
 refine az fun _ _ _=> ?_
 intro hF hM
 replace hM:=aw hM;obtain ⟨x8,hx9,hM⟩:=hM
 have hcx8:=cmH hx9 (iI tag (x1.1) (by (exact pfQ)))
 refine aP hcx8 clQ clQ (fun hw10=> ?_)
 replace hw10:=nzQ hw10
 exact auP
end Go.Proofs.YteibkofekpejgaaGreatDoor
namespace Go.Proofs.YteibkofekpejgaaGreatDoor
open Go.RowKit
set_option linter.unusedSimpArgs false
theorem Ej (t:cf) (label:(List UInt8)) (i_:am) (hp0:hgt i_≤10000):CM En (um t label i_) 243 [(fZ t),.str label,.agg [.int .i64 i_.Kind,.int .i64 i_.N,.sl none 1 false (i_.B.map (V.int .u8)),.sl none 4 true (i_.L.map bv)]] (fun y=> .tup [(fZ y.1),.int .i64 y.2]) (fun _=> []):=by
 refine enQ noJ Tryz.func243 Tryz.ntmps243 (um.eq_1 ..) fun r hw=> ?_
 refine ax fun _ _ _ _=> ?_
 refine aq fun _ _ _=> ?_
 refine ax fun _ _ _ _=> ?_
 refine az fun _ _ _=> ?_
 intro hF hM
 replace hM:=aw hM;obtain ⟨x13,hx14,hM⟩:=hM
 have hcx13:=cmH hx14 (Ei ([115,112,101,99,105,101,47,97,98,115,111,114,98]) t label ([i_]:List am) (by (clear hM;first|omega|decide|(simp only [bM,List.length_cons,List.length_nil];omega))) (by (clear hM;first|omega|decide|(simp only [bM,List.length_cons,List.length_nil];omega))) (by (clear hM;first|omega|decide|(simp only [bM,List.length_cons,List.length_nil];omega))) (by (clear hM;first|omega|decide|(simp only [bM,List.length_cons,List.length_nil];omega))))
 refine fD hcx13 clQ clQ (fun hw15=> ?_)
 replace hw15:=nzQ hw15
 exact auP
set_option maxRecDepth 512 in
instance (priority:=1047):DRD 1 15 7 [8,9,10,11,12,13,14] [] ([[],[],[],[2],[0,1,2,3],[0,1,2,3,4],[0,1,2,3,4]]++[List.range 7,List.range 8]) []:=⟨trivial⟩
theorem Ny (t:cf) (label:(List UInt8)) (l:(List Int)) (hp0:l.length≤1000):CM En (y7 t label l) 212 [(fZ t),.str label,.sl none 1 false (l.map (V.int .i64))] (fun y=> .tup [(fZ y.1),.int .i64 y.2]) (fun _=> []):=by
 refine enQ noJ Tryz.func212 Tryz.ntmps212 (y7.eq_1 ..) fun r hw=> ?_
 refine slQ ?_
 refine ax fun x1 hx2 _ _=> ?_
 have hq3:=zo hx2
 replace hq3:=nzQ hq3
 intro hF hM
 replace hM:=aw hM;obtain ⟨x4,hx5,hM⟩:=hM
 have hcx4:=cmH hx5 (Ej t label x1 (by (clear hM;omega)))
 refine bC hcx4 clQ clQ ?_
 exact auP
theorem uO (z1:Option Bool) (name:(List UInt8)) (l_:(List Int)) (c0:Int) (c1:cf) (hp0:l_.length≤1000):ee En 211 [.str name,.sl z1 1 false (l_.map (V.int .i64)),.ptr 0 0,.ptr 1 0] [.var 1 false (.int .i64 c0),.var 33 true ((fZ c1))] (.tup []) [.var 1 false (.int .i64 (bN name l_ c0 c1).1),.var 33 true (.agg (.int .u8 (gt (bN name l_ c0 c1).2.State 0):: .int .u8 (gt (bN name l_ c0 c1).2.State 1):: .int .u8 (gt (bN name l_ c0 c1).2.State 2):: .int .u8 (gt (bN name l_ c0 c1).2.State 3):: .int .u8 (gt (bN name l_ c0 c1).2.State 4):: .int .u8 (gt (bN name l_ c0 c1).2.State 5):: .int .u8 (gt (bN name l_ c0 c1).2.State 6):: .int .u8 (gt (bN name l_ c0 c1).2.State 7):: .int .u8 (gt (bN name l_ c0 c1).2.State 8):: .int .u8 (gt (bN name l_ c0 c1).2.State 9):: .int .u8 (gt (bN name l_ c0 c1).2.State 10):: .int .u8 (gt (bN name l_ c0 c1).2.State 11):: .int .u8 (gt (bN name l_ c0 c1).2.State 12):: .int .u8 (gt (bN name l_ c0 c1).2.State 13):: .int .u8 (gt (bN name l_ c0 c1).2.State 14):: .int .u8 (gt (bN name l_ c0 c1).2.State 15):: .int .u8 (gt (bN name l_ c0 c1).2.State 16):: .int .u8 (gt (bN name l_ c0 c1).2.State 17):: .int .u8 (gt (bN name l_ c0 c1).2.State 18):: .int .u8 (gt (bN name l_ c0 c1).2.State 19):: .int .u8 (gt (bN name l_ c0 c1).2.State 20):: .int .u8 (gt (bN name l_ c0 c1).2.State 21):: .int .u8 (gt (bN name l_ c0 c1).2.State 22):: .int .u8 (gt (bN name l_ c0 c1).2.State 23):: .int .u8 (gt (bN name l_ c0 c1).2.State 24):: .int .u8 (gt (bN name l_ c0 c1).2.State 25):: .int .u8 (gt (bN name l_ c0 c1).2.State 26):: .int .u8 (gt (bN name l_ c0 c1).2.State 27):: .int .u8 (gt (bN name l_ c0 c1).2.State 28):: .int .u8 (gt (bN name l_ c0 c1).2.State 29):: .int .u8 (gt (bN name l_ c0 c1).2.State 30):: .int .u8 (gt (bN name l_ c0 c1).2.State 31):: .int .i64 (bN name l_ c0 c1).2.Count::[]))] []:=by
 generalize hM:bN name l_ c0 c1=r
 rw [bN.eq_1] at hM
 refine pH aV bP noJ Tryz.func211 rfl Tryz.ntmps211 (by kernel_rfl) rfl fun ks hw hwB=>bR ?_
 refine spQ ?_
 replace hw:=nzQ hw
 replace hwB:=nzB hwB
 have hF:=nn
 revert hM;revert hF
 refine cdQ (fun _ _ _=> ?_) (fun _ _ _=> ?_)
 ·intro hF hM
  replace hM:=aw hM;obtain ⟨x3,hx4,hM⟩:=hM
  have hcx3:=cmH hx4 (Ny c1 name l_ (by (exact hp0)))
  refine aP hcx3 clQ clQ (fun hw5=> ?_)
  replace hw5:=nzQ hw5
  revert hM;revert hF
  refine slQ ?_
  intro hF hM
  subst hM
  exact jl [0,1] (cN hF) (by decide) (cN hF)
 ·intro hF hM
  subst hM
  exact jl [0,1] (cN hF) (by decide) (cN hF)
instance T8 (t:cf) (label:(List UInt8)) (q:Int):CM En (y8 t label q) 213 [(fZ t),.str label,.int .i64 q] (fun y=> .tup [(fZ y.1),.int .i64 y.2.1,.int .i64 y.2.2]) (fun _=> []):=by
 refine enQ noJ Tryz.func213 Tryz.ntmps213 (y8.eq_1 ..) fun r hw=> ?_
 refine ax fun _ _ _ _=> ?_
 refine aq fun _ _ _=> ?_
 refine ax fun _ _ _ _=> ?_
 refine az fun _ _ _=> ?_
 refine aq fun _ _ _=> ?_
 refine az fun _ _ _=> ?_
 refine az fun _ _ _=> ?_
 intro hF hM
 replace hM:=aw hM;obtain ⟨x21,hx22,hM⟩:=hM
 have hcx21:=cmH hx22 (Ei ([115,112,101,99,105,101,47,99,104,97,108,108,101,110,103,101]) t label ([]:List am) (by (clear hM;first|omega|decide|(simp only [bM,List.length_cons,List.length_nil];omega))) (by (clear hM;first|omega|decide|(simp only [bM,List.length_cons,List.length_nil];omega))) (by (clear hM;first|omega|decide|(simp only [bM,List.length_cons,List.length_nil];omega))) (by (clear hM;first|omega|decide|(simp only [bM,List.length_cons,List.length_nil];omega))))
 refine aP hcx21 clQ clQ (fun hw23=> ?_)
 replace hw23:=nzQ hw23
 revert hM;revert hF
 refine slQ ?_
 refine az fun _ _ _=> ?_
 refine ax fun x27 _ _ _=> ?_
 refine az fun _ _ _=> ?_
 intro hF hM
 replace hM:=aw hM;obtain ⟨x33,hx34,hM⟩:=hM
 have hcx33:=cmH hx34 (Ej t label ({Kind:=1,N:=x27.1,B:=([]:List Int),L:=([]:List am)}:am) (by (clear hM;simp only [hgt,bM,List.length_nil];omega)))
 refine aP hcx33 clQ clQ (fun hw35=> ?_)
 replace hw35:=nzQ hw35
 exact auP
set_option maxRecDepth 512 in
instance (priority:=1048):DRD 12 63 2 [8,52] [] ([[],[]]++[List.range 2]) []:=⟨trivial⟩
set_option maxRecDepth 512 in
instance (priority:=1049):DRD 14 63 3 [8,61,62] [] ([[],[],[0]]++[List.range 3]) []:=⟨trivial⟩
theorem Nz (g:aO) (r_:cC) (a_:(List Int)) (label:(List UInt8)) (hp0:okR g r_) (hp1:a_.length≤8):CM En (y9 g r_ a_ label) 174 [.agg [.int .i64 g.P,.int .i64 g.Q,.int .i64 g.G],.agg [.sl none 1 false (r_.Y.map (V.int .i64)),.sl none 1 false (r_.Bases.map (fun (l:List Int)=>V.sl none 1 false (l.map (V.int .i64))))],.sl none 1 false (a_.map (V.int .i64)),.str label] (fun y=> .tup [.int .i64 y.1,.int .i64 y.2]) (fun _=> []):=by
 refine enQ noJ Tryz.func174 Tryz.ntmps174 (y9.eq_1 ..) fun r hw=> ?_
 have h0_0:=iH hp0
 refine ax fun x1 _ _ _=> ?_
 intro hF hM
 replace hM:=aw hM;obtain ⟨x4,hx5,hM⟩:=hM
 have hcx4:=uO (some false) ([103,114,111,117,112]) ([g.P,g.Q,g.G]:List Int) (x1.2) (x1.1) (by (clear hM;first|omega|exact uD hp0 (by omega)|(simp only [List.length_cons,List.length_nil];omega)))
 rw [←hx5] at hcx4
 refine CK [3,2] hcx4 (io 4 (T:=3) (n:=1) (g:=false) (z:=(some false)) (l:=([g.P,g.Q,g.G]:List Int).map (V.int .i64)) clQ) (by decide) lsQ lsQ (fun hw6=> ?_)
 replace hw6:=nzQ hw6
 revert hM;revert hF
 refine slQ ?_
 intro hF hM
 replace hM:=aw hM;obtain ⟨x7,hx8,hM⟩:=hM
 have hcx7:=uO none ([121]) (r_.Y) (x4.1) (x4.2) (by (clear hM;first|omega|exact uD hp0 (by omega)|(simp only [List.length_cons,List.length_nil];omega)))
 rw [←hx8] at hcx7
 refine jk [3,2] hcx7 (by decide) lsQ lsQ (fun hw9=> ?_)
 replace hw9:=nzQ hw9
 revert hM;revert hF
 refine slQ ?_
 intro hF hM
 replace hM:=aF hM;obtain ⟨f10,d10,hf10,hd10,hM⟩:=hM
 refine aL (fun n S=> ∃p:Int×cf×Int,S=(⟨[(2,.sl none 1 false (a_.map (V.int .i64))),(4,.ptr 0 0),(10,.ptr 2 0),(11,.ptr 3 0),(12,.fn 211 [.ptr 3 0,.ptr 2 0]),(37,.sl none 1 false (r_.Bases.map (fun (l:List Int)=>V.sl none 1 false (l.map (V.int .i64))))),(38,.int .i64 (r_.Bases.length:Int)),(39,.int .i64 p.1)],[(0,.var 3 true (.agg [.int .i64 g.P,.int .i64 g.Q,.int .i64 g.G])),(2,.var 33 true ((fZ p.2.1))),(3,.var 1 false (.int .i64 p.2.2))],5⟩:St)∧((0≤p.1)∧(p.1≤(r_.Bases.length:Int)))∧((r_.Bases.length:Int) - p.1).toNat<n∧ae n f10 d10 p=r) (((r_.Bases.length:Int) - 0).toNat+1) _ sbQ sbQ ⟨(0,x7.2,x7.1),rfl,⟨omQ,omQ⟩,(Nat.lt_succ_self _),hM⟩ ?_
 clear hM
 rintro n10 S ⟨p10,rfl,hfa10,hm10,hM⟩
 replace hM:=aG hM (by omega) hf10;obtain ⟨ag10,hag10,hM⟩:=hM
 replace hfa10:=nzQ hfa10
 replace hm10:=nzQ hm10
 have ha10:al .i64 p10.1 1=p10.1+1:=aJ omQ omQ
 replace hF:=(And.intro ha10 hF)
 revert hM;revert hF
 refine slQ ?_
 refine cdQ (fun _ _ _=> ?_) (fun _ _ _=> ?_)
 ·intro hF hM
  replace hM:=aw hM;obtain ⟨x14,hx15,hM⟩:=hM
  have hcx14:=uO none ([98,97,115,101,115]) (gt r_.Bases p10.1) (p10.2.2) (p10.2.1) (by (clear hM;first|omega|exact uD hp0 (by omega)|(simp only [List.length_cons,List.length_nil];omega)))
  rw [←hx15] at hcx14
  refine jk [3,2] hcx14 (by decide) (cN hF) (cN hF) (fun hw16=> ?_)
  replace hw16:=nzQ hw16
  revert hM;revert hF
  refine slQ ?_
  intro hF hM
  refine aC (n10 - 1) _ (by omega) sbQ sbQ ⟨((p10.1+1),x14.2,x14.1),rfl,⟨omQ,omQ⟩,omQ,aB hM hag10⟩
 ·intro hF hM
  replace hM:=aw hM;obtain ⟨x18,hx19,hM⟩:=hM
  have hcx18:=uO none ([99,111,109,109,105,116]) a_ (p10.2.2) (p10.2.1) (by (clear hM;first|omega|exact uD hp0 (by omega)|(simp only [List.length_cons,List.length_nil];omega)))
  rw [←hx19] at hcx18
  refine jk [3,2] hcx18 (by decide) (cN hF) (cN hF) (fun hw20=> ?_)
  replace hw20:=nzQ hw20
  exact auP
instance T_ (g:aO) (r_:cC) (label:(List UInt8)) (p_:dP):CM En (y_ g r_ label p_) 141 [.agg [.int .i64 g.P,.int .i64 g.Q,.int .i64 g.G],.agg [.sl none 1 false (r_.Y.map (V.int .i64)),.sl none 1 false (r_.Bases.map (fun (l:List Int)=>V.sl none 1 false (l.map (V.int .i64))))],.str label,.agg [.sl none 1 false (p_.A.map (V.int .i64)),.int .i64 p_.C,.sl none 1 false (p_.Z.map (V.int .i64))]] (fun y=> .bool y) (fun _=> []):=by
 refine enQ noJ Tryz.func141 Tryz.ntmps141 (y_.eq_1 ..) fun r hw=> ?_
 refine ax fun _ _ _ _=> ?_
 refine az fun _ _ _=> ?_
 intro hF hM
 replace hM:=aw hM;obtain ⟨x8,hx9,hM⟩:=hM
 have hcx8:=cmH hx9 (Nz g r_ (p_.A) label (by (clear hM;first|assumption|exact (‹okR _ _∧_›).1|(have h9:=‹okR _ _∧_›;have h8:=iH h9.1;omega)|(have h8:=iH ‹okR _ _›;omega))) (by (clear hM;first|assumption|exact (‹okR _ _∧_›).1|(have h9:=‹okR _ _∧_›;have h8:=iH h9.1;omega)|(have h8:=iH ‹okR _ _›;omega))))
 refine aP hcx8 clQ clQ (fun hw10=> ?_)
 replace hw10:=nzQ hw10
 exact auP
instance Ua (b:aY) (y:Int) (pseudonym:Int) (label:(List UInt8)) (x_:bZ):CM En (za b y pseudonym label x_) 106 [(bL b),.int .i64 y,.int .i64 pseudonym,.str label,(bQ x_)] (fun y=> .bool y) (fun _=> []):=by
 refine enQ noJ Tryz.func106 Tryz.ntmps106 (za.eq_1 ..) fun r hw=> ?_
 exact auR
set_option maxRecDepth 512 in
instance (priority:=1050):DRD 10 55 14 [38,39,40,41,42,43,44,45,46,47,48,49,50,51] [] ([[],[0],[],[2],[],[4],[4,5],[],[],[8],[8,9],[],[8,9,10,11],[8,9,10,11,12]]++[List.range 14,List.range 15]) []:=⟨trivial⟩
theorem NA (k_:cj) (hp0:okK k_):CM En (uo k_) 61 [(bE k_)] (fun y=> .bool y) (fun _=> []):=by
 refine enQ noJ Tryz.func61 Tryz.ntmps61 (uo.eq_1 ..) fun r hw=> ?_
 have h0_0:=fI hp0
 refine az fun _ _ _=> ?_
 refine ax fun x4 _ _ _=> ?_
 intro hF hM
 replace hM:=aw hM;obtain ⟨x7,hx8,hM⟩:=hM
 have hcx7:=cmH hx8 (Eg k_ (by (exact hp0)))
 refine aP hcx7 clQ clQ (fun hw9=> ?_)
 replace hw9:=nzQ hw9
 revert hM;revert hF
 refine slQ ?_
 have hq10:=DR hp0 hx8
 replace hq10:=nzQ hq10
 refine az fun _ _ _=> ?_
 intro hF hM
 replace hM:=aF hM;obtain ⟨f14,d14,hf14,hd14,hM⟩:=hM
 refine aL (fun n S=> ∃p:Int,S=(⟨[(1,.ptr 0 0),(3,.str x4.1),(31,.sl none 80 true (x7.map aQ)),(32,.int .i64 (x7.length:Int)),(33,.int .i64 p)],[(0,.var 47 true ((bE k_)))],1⟩:St)∧((0≤p)∧(p≤(x7.length:Int)))∧((x7.length:Int) - p).toNat<n∧ae n f14 d14 p=r) (((x7.length:Int) - 0).toNat+1) _ sbQ sbQ ⟨0,rfl,⟨omQ,omQ⟩,(Nat.lt_succ_self _),hM⟩ ?_
 clear hM
 rintro n14 S ⟨p14,rfl,hfa14,hm14,hM⟩
 replace hM:=aG hM (by omega) hf14;obtain ⟨ag14,hag14,hM⟩:=hM
 replace hfa14:=nzQ hfa14
 replace hm14:=nzQ hm14
 have ha14:al .i64 p14 1=p14+1:=aJ omQ omQ
 replace hF:=(And.intro ha14 hF)
 revert hM;revert hF
 refine slQ ?_
 refine aq fun _ _ _=> ?_
 refine ax fun _ _ _ _=> ?_
 refine az fun _ _ _=> ?_
 intro hF hM
 refine aC (n14 - 1) _ (by omega) sbQ sbQ ⟨(p14+1),rfl,⟨omQ,omQ⟩,omQ,aB hM hag14⟩
instance Ub (r_:bg) (s:au):CM En (uq r_ s) 107 [(cD r_),(aQ s)] (fun y=> .tup [.int .i64 y.1,.int .i64 y.2]) (fun _=> []):=by
 refine enQ noJ Tryz.func107 Tryz.ntmps107 (uq.eq_1 ..) fun r hw=> ?_
 exact auR
instance Uc (l:(List bg)) (h_:bh):CM En (zb l h_) 108 [.sl none 11 true (l.map cD),(bl h_)] (fun y=> .tup [.int .i64 y.1,.int .i64 y.2]) (fun _=> []):=by
 refine enQ noJ Tryz.func108 Tryz.ntmps108 (zb.eq_1 ..) fun r hw=> ?_
 exact auR
theorem NB (k_:cj) (hp0:okK k_):CM En (zc k_) 63 [(bE k_)] (fun y=> .int .i64 y) (fun _=> []):=by
 refine enQ noJ Tryz.func63 Tryz.ntmps63 (zc.eq_1 ..) fun r hw=> ?_
 have h0_0:=fI hp0
 intro hF hM
 replace hM:=aF hM;obtain ⟨f1,d1,hf1,hd1,hM⟩:=hM
 refine aL (fun n S=> ∃p:Int×Int,S=(⟨[(1,.ptr 0 0),(3,.int .i64 p.1),(16,.sl none 80 true (k_.p.Spends.map aQ)),(17,.int .i64 (k_.p.Spends.length:Int)),(18,.int .i64 p.2)],[(0,.var 47 true ((bE k_)))],1⟩:St)∧((0≤p.2)∧(p.2≤(k_.p.Spends.length:Int)))∧((k_.p.Spends.length:Int) - p.2).toNat<n∧ae n f1 d1 p=r) (((k_.p.Spends.length:Int) - 0).toNat+1) _ sbQ sbQ ⟨(0,0),rfl,⟨omQ,omQ⟩,(Nat.lt_succ_self _),hM⟩ ?_
 clear hM
 rintro n1 S ⟨p1,rfl,hfa1,hm1,hM⟩
 replace hM:=aG hM (by omega) hf1;obtain ⟨ag1,hag1,hM⟩:=hM
 replace hfa1:=nzQ hfa1
 replace hm1:=nzQ hm1
 have ha1:al .i64 p1.2 1=p1.2+1:=aJ omQ omQ
 replace hF:=(And.intro ha1 hF)
 revert hM;revert hF
 refine slQ ?_
 refine cdQ (fun _ _ _=> ?_) (fun _ _ _=> ?_)
 ·intro hF hM
  replace hM:=aw hM;obtain ⟨x5,hx6,hM⟩:=hM
  have hcx5:=cmH hx6 (uN k_ ((gt k_.p.Spends p1.2).Coin) (by (exact hp0)))
  refine aP hcx5 (an hF) (an hF) (fun hw7=> ?_)
  replace hw7:=nzQ hw7
  revert hM;revert hF
  refine slQ ?_
  refine ax fun x8 _ _ _=> ?_
  intro hF hM
  refine aC (n1 - 1) _ (by omega) sbQ sbQ ⟨((al .i64 p1.1 x8.1),(p1.2+1)),rfl,⟨omQ,omQ⟩,omQ,aB hM hag1⟩
 ·intro hF hM
  replace hM:=aF hM;obtain ⟨f12,d12,hf12,hd12,hM⟩:=hM
  refine aL (fun n S=> ∃p:Int×Int,S=(⟨[(1,.ptr 0 0),(3,.int .i64 p.1),(41,.sl none 81 true (k_.p.Chains.map bl)),(42,.int .i64 (k_.p.Chains.length:Int)),(43,.int .i64 p.2)],[(0,.var 47 true ((bE k_)))],1⟩:St)∧((0≤p.2)∧(p.2≤(k_.p.Chains.length:Int)))∧((k_.p.Chains.length:Int) - p.2).toNat<n∧ae n f12 d12 p=r) (((k_.p.Chains.length:Int) - 0).toNat+1) _ sbQ sbQ ⟨(p1.1,0),rfl,⟨omQ,omQ⟩,(Nat.lt_succ_self _),hM⟩ ?_
  clear hM
  rintro n12 S ⟨p12,rfl,hfa12,hm12,hM⟩
  replace hM:=aG hM (by omega) hf12;obtain ⟨ag12,hag12,hM⟩:=hM
  replace hfa12:=nzQ hfa12
  replace hm12:=nzQ hm12
  have ha12:al .i64 p12.2 1=p12.2+1:=aJ omQ omQ
  replace hF:=(And.intro ha12 hF)
  revert hM;revert hF
  refine slQ ?_
  refine aq fun _ _ _=> ?_
  refine ax fun x16 _ _ _=> ?_
  intro hF hM
  refine aC (n12 - 1) _ (by omega) sbQ sbQ ⟨((al .i64 p12.1 x16.1),(p12.2+1)),rfl,⟨omQ,omQ⟩,omQ,aB hM hag12⟩
set_option maxRecDepth 512 in
instance (priority:=1051):DRD 1 8 4 [3,4,5,6] [] ([[],[0],[],[2]]++[List.range 4,List.range 5]) []:=⟨trivial⟩
theorem NC (c0:cj) (c1:aN) (hp0:okK c0):CM En (ur c0 c1) 62 [.pp 47 true ((bE c0)),.pp 35 true ((aZ c1))] (fun y=> .bool y) (fun _=> []):=by
 refine enQ noJ Tryz.func62 Tryz.ntmps62 (ur.eq_1 ..) fun r hw=> ?_
 refine slQ ?_
 intro hF hM
 replace hM:=aw hM;obtain ⟨x1,hx2,hM⟩:=hM
 have hcx1:=cmH hx2 (NB c0 (by (exact hp0)))
 refine bC hcx1 clQ clQ ?_
 exact auP
end Go.Proofs.YteibkofekpejgaaGreatDoor
