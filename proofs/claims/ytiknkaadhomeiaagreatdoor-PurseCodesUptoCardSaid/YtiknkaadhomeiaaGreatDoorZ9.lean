/- Texts of this proof, one after the other: U2. -/
import Derived.Test.YtiknkaadhomeiaaGreatDoorZ8
set_option linter.unusedVariables false
set_option linter.unusedSimpArgs false
namespace Go.Proofs.YtiknkaadhomeiaaGreatDoor
open Go.RowKit
set_option linter.unusedSimpArgs false
instance (priority:=1008):DRD 0 17 15 [4,5,6,7,8,9,10,11,12,13,14,15,16] [] [[],[0],[0,1],[0,1,2],[],[4],[4,5],[0,1,2,3],[],[0,1,2,3,7,8],[0,1,2,3,7,8,9],[0,1,2,3,4,5,6,7,8,9,10],[0],[0,12],[0,1,2,3,8,9,12,13]] [(9,1),(11,11),(14,0)]:=⟨trivial⟩
set_option maxHeartbeats 2000000 in
set_option maxRecDepth 100000 in
theorem Ll (z0_1:Option Bool) (z1:Option Bool) (w_:eI) (b:(List Int)) (hp0:w_.l.length≤1000):dB En 160 [.ptr 0 0,.sl z1 1 false (b.map (V.int .u8))] [.var 1 true (.agg [.own 1]),.own 126 4 true z0_1 (w_.l.map aw)] (.tup []) [.var 1 true (.agg [.own 1]),.own 126 4 true none ((ls w_ b).l.map aw)] []:=by
 generalize hM:ls w_ b=r
 rw [ls.eq_1] at hM
 refine kZ bn cJ noJ Tryz.func160 rfl Tryz.ntmps160 (by kernel_rfl) rfl fun ks hw hwB=>cO ?_
 refine spQ ?_
 replace hw:=nzQ hw
 replace hwB:=nzB hwB
 have hF:=gI
 revert hM;revert hF
 refine slQ ?_
 intro hF hM
 have hM0:=hM;clear hM;obtain ⟨x1,hx2,hM⟩:=aC hM0;clear hM0
 have hcx1:=a8.pub ((xS z1 b))
 rw [←hx2] at hcx1
 refine c_ hcx1 clQ clQ ?_
 revert hM;revert hF
 refine slQ ?_
 intro hF hM
 subst hM
 exact dC [0,11] (bB hF) (by decide) (bB hF)
set_option maxHeartbeats 2000000 in
set_option maxRecDepth 100000 in
instance QI (c:br):CM En (kd c) 97 [(dJ c)] (fun y=> .agg [.int .i64 y.Kind,.int .i64 y.N,.sl none 1 false (y.B.map (V.int .u8)),.sl none 4 true (y.L.map aw)]) (fun _=> []):=by
 refine enQ [2] Tryz.func97 Tryz.ntmps97 (kd.eq_1 ..) fun r hw=> ?_
 intro hF hM
 refine jN ?_
 revert hM;revert hF
 refine slQ ?_
 intro hF hM
 refine jO _ (⟨[(1,.ptr 0 0),(2,.ptr 1 0),(3,.ptr 2 0)],[(0,.pvar 41 true ((dJ c))),(1,.var 4 true (.agg [.int .i64 0,.int .i64 0,.sl (some true) 1 false [],.sl (some true) 4 true []])),(2,.var 1 true (.agg [.sl (some true) 4 true []]))],3⟩:St) (wu (S:=⟨_,_,_⟩) 0 (n:=41) (g:=true) (d:=(dJ c)) clQ clQ) sbQ sbQ ?_
 revert hM;revert hF
 refine slQ ?_
 intro hF hM
 have hM0:=hM;clear hM;obtain ⟨x1,hx2,hM⟩:=aC hM0;clear hM0
 have hcx1:=CR (some true) (some false) mD ([c.Bank,c.Epoch,c.Denom,c.Depth,c.A]:List Int) (by (have h0:mD.l.length=0:=rfl;omega))
 rw [←hx2] at hcx1
 refine A9 [2,4] hcx1 ((AU 2 0 126 rfl rfl (by decide)).trans (f0 3 (T:=3) (n:=1) (g:=false) (z:=(some false)) (l:=([c.Bank,c.Epoch,c.Denom,c.Depth,c.A]:List Int).map (V.int .i64)) clQ).toQ) (by decide) lsQ lsQ (fun hw3=> ?_)
 replace hw3:=nzQ hw3
 revert hM;revert hF
 refine slQ ?_
 have hq4:=B_ hx2
 replace hq4:=nzQ hq4
 intro hF hM
 have hM0:=hM;clear hM;obtain ⟨x5,hx6,hM⟩:=aC hM0;clear hM0
 have hcx5:=Ll none (some false) x1 (au 32 c.Root) (by (have h0:mD.l.length=0:=rfl;omega))
 rw [←hx6] at hcx5
 refine eh [2,4] hcx5 (by decide) lsQ lsQ (fun hw7=> ?_)
 replace hw7:=nzQ hw7
 revert hM;revert hF
 refine slQ ?_
 have hq8:=J_ hx6
 replace hq8:=nzQ hq8
 intro hF hM
 have hM0:=hM;clear hM;obtain ⟨x9,hx10,hM⟩:=aC hM0;clear hM0
 have hcx9:=CR none (some false) x5 ([c.Sign.Z,c.Sign.A,c.Sign.B,c.Sign.R]:List Int) (by (have h0:mD.l.length=0:=rfl;omega))
 rw [←hx10] at hcx9
 refine I5 [2,4] hcx9 (f0 5 (T:=3) (n:=1) (g:=false) (z:=(some false)) (l:=([c.Sign.Z,c.Sign.A,c.Sign.B,c.Sign.R]:List Int).map (V.int .i64)) clQ) (by decide) lsQ lsQ (fun hw11=> ?_)
 replace hw11:=nzQ hw11
 revert hM;revert hF
 refine slQ ?_
 have hq12:=B_ hx10
 replace hq12:=nzQ hq12
 exact auR
set_option maxHeartbeats 2000000 in
set_option maxRecDepth 100000 in
instance QJ (l:(List aa)):CM En (qj l) 158 [.sl none 4 true (l.map aw)] (fun y=> .agg [.int .i64 y.Kind,.int .i64 y.N,.sl none 1 false (y.B.map (V.int .u8)),.sl none 4 true (y.L.map aw)]) (fun _=> []):=by
 refine enQ noJ Tryz.func158 Tryz.ntmps158 (qj.eq_1 ..) fun r hw=> ?_
 exact auR
instance (priority:=1009):DRD 13 74 26 [45,46,47,48,49,50,51,52,53,54,55,56,57,58,59,60,61,62,63,64,65,66,67,68,69,70] [] ([[],[0],[0,1],[],[3],[3,4],[],[6],[6,7],[3,4,5,6,7,8],[0,1,2,3,4,5,6,7,8,9],[],[11],[11,12],[0,1,2,3,4,5,6,7,8,9,10,11,12,13],[],[15],[15,16],[],[18],[18,19],[15,16,17,18,19,20],[0,1,2,3,4,5,6,7,8,9,10,11,12,13,14,15,16,17,18,19,20,21],[],[0,1,2,3,4,5,6,7,8,9,10,11,12,13,14,15,16,17,18,19,20,21,22,23],[]]++[List.range 26,List.range 27,List.range 28,List.range 29]) [(9,13),(21,25)]:=⟨trivial⟩
set_option maxHeartbeats 2000000 in
set_option maxRecDepth 100000 in
theorem Lm (s:aA) (hp0:xC s):CM En (lu s) 96 [(bX s)] (fun y=> .agg [.int .i64 y.Kind,.int .i64 y.N,.sl none 1 false (y.B.map (V.int .u8)),.sl none 4 true (y.L.map aw)]) (fun _=> []):=by
 refine enQ [13] Tryz.func96 Tryz.ntmps96 (lu.eq_1 ..) fun r hw=> ?_
 have hG0:=hp0.1
 have hG1:=hp0.2
 intro hF hM
 have hM0:=hM;clear hM;obtain ⟨f1,d1,hf1,hd1,hM⟩:=aH hM0;clear hM0
 refine bN (fun n S=> ∃p:Int×List Int,S=(⟨[(1,.ptr 0 0),(2,.ptr 1 0),(3,.own 2),(10,.sl none 3 true (s.Leaves.map eJ)),(11,.int .i64 (s.Leaves.length:Int)),(12,.int .i64 p.1)],[(0,.var 80 true ((bX s))),(1,.var 4 true (.agg [.int .i64 0,.int .i64 0,.sl (some true) 1 false [],.sl (some true) 4 true []])),(2,.own 3 1 false none (p.2.map (V.int .i64)))],3⟩:St)∧((0≤p.1)∧(p.1≤(s.Leaves.length:Int))∧(((p.2).length:Int)=3*p.1))∧((s.Leaves.length:Int) - p.1).toNat<n∧ah n f1 d1 p=r) (((s.Leaves.length:Int) - 0).toNat+1) _ _ (dV 3 3 rfl (by decide)) sbQ sbQ ⟨(0,([]:List Int)),rfl,⟨by exact omA,by exact omA,by exact omA⟩,(Nat.lt_succ_self _),hM⟩ ?_
 clear hM
 rintro n1 S ⟨p1,rfl,hfa1,hm1,hM⟩
 have hM0:=hM;clear hM;obtain ⟨ag1,hag1,hM⟩:=aI hM0 (by omega) hf1;clear hM0
 replace hfa1:=nzQ hfa1
 replace hm1:=nzQ hm1
 have ha1:ak .i64 p1.1 1=p1.1+1:=aR (by exact omA) (by exact omA)
 replace hF:=(And.intro ha1 hF)
 revert hM;revert hF
 refine slQ ?_
 refine aJ fun _ _ _=> ?_
 intro hF hM
 refine jN ?_
 revert hM;revert hF
 refine slQ ?_
 intro hF hM
 have hM0:=hM;clear hM;obtain ⟨f6,d6,hf6,hd6,hM⟩:=aH hM0;clear hM0
 refine bm (fun n S=> ∃p:Int×List aa,S=(⟨[(1,.ptr 0 0),(2,.ptr 1 0),(3,.own 2),(6,.own 3),(33,.sl none 32 true (s.Path.L.map bI)),(34,.int .i64 (s.Path.L.length:Int)),(35,.int .i64 p.1)],[(0,.var 80 true ((bX s))),(1,.var 4 true (.agg [.int .i64 0,.int .i64 0,.sl (some true) 1 false [],.sl (some true) 4 true []])),(2,.own 3 1 false none (p1.2.map (V.int .i64))),(3,.own 126 4 true none (p.2.map aw))],4⟩:St)∧((0≤p.1)∧(p.1≤(s.Path.L.length:Int))∧(((p.2).length:Int)≤p.1+(([({Kind:=1,N:=s.Path.Index,B:=([]:List Int),L:=([]:List aa)}:aa)]:List aa)).length))∧((s.Path.L.length:Int) - p.1).toNat<n∧ah n f6 d6 p=r) (((s.Path.L.length:Int) - 0).toNat+1) _ sbQ sbQ ⟨(0,([({Kind:=1,N:=s.Path.Index,B:=([]:List Int),L:=([]:List aa)}:aa)]:List aa)),rfl,⟨by exact omA,by exact omA,by exact omA⟩,(Nat.lt_succ_self _),hM⟩ ?_
 clear hM
 rintro n6 S ⟨p6,rfl,hfa6,hm6,hM⟩
 have hM0:=hM;clear hM;obtain ⟨ag6,hag6,hM⟩:=aI hM0 (by omega) hf6;clear hM0
 replace hfa6:=nzQ hfa6
 replace hm6:=nzQ hm6
 have ha6:ak .i64 p6.1 1=p6.1+1:=aR (by exact omA) (by exact omA)
 replace hF:=(And.intro ha6 hF)
 revert hM;revert hF
 refine slQ ?_
 refine aJ fun _ _ _=> ?_
 intro hF hM
 refine jO _ (⟨[(1,.ptr 0 0),(2,.ptr 1 0),(3,.sl none 1 false (p1.2.map (V.int .i64))),(6,.sl none 4 true (p6.2.map aw))],[(0,.var 80 true ((bX s))),(1,.var 4 true (.agg [.int .i64 0,.int .i64 0,.sl (some true) 1 false [],.sl (some true) 4 true []])),(2,.pown 1 false none (p1.2.map (V.int .i64))),(3,.pown 4 true none (p6.2.map aw))],4⟩:St) ((((gE (S:=⟨_,_,_⟩) 2 (T:=3) (n:=1) (g:=false) (z:=none) (l:=p1.2.map (V.int .i64)) (an hF)).trans (iq (S:=⟨_,_,_⟩) 3 2 (n:=1) (g:=false) (z:=none) (l:=p1.2.map (V.int .i64)) (an hF) (an hF))).trans (gE (S:=⟨_,_,_⟩) 3 (T:=126) (n:=4) (g:=true) (z:=none) (l:=p6.2.map aw) (an hF))).trans (iq (S:=⟨_,_,_⟩) 6 3 (n:=4) (g:=true) (z:=none) (l:=p6.2.map aw) (an hF) (an hF))) sbQ sbQ ?_
 revert hM;revert hF
 refine slQ ?_
 refine aF fun x14 _ _ _=> ?_
 refine aF fun x16 _ _ _=> ?_
 refine aF fun x18 _ _ _=> ?_
 refine aF fun x20 _ _ _=> ?_
 refine aF fun x22 _ _ _=> ?_
 refine aF fun x24 _ _ _=> ?_
 intro hF hM
 have hM0:=hM;clear hM;obtain ⟨x27,hx28,hM⟩:=aC hM0;clear hM0
 have hcx27:=cmU hx28
 refine ir hcx27 (f0 30 (T:=126) (n:=4) (g:=true) (z:=(some false)) (l:=([x14,x16,x18,x20,x22,x24]:List aa).map aw) (an hF)) (an hF) (fun hw29=> ?_)
 replace hw29:=nzQ hw29
 exact auP
set_option maxHeartbeats 2000000 in
set_option maxRecDepth 100000 in
instance QK (l:(List aa)):CM En (dc l) 44 [.sl none 4 true (l.map aw)] (fun y=> .agg [.int .i64 y.Kind,.int .i64 y.N,.sl none 1 false (y.B.map (V.int .u8)),.sl none 4 true (y.L.map aw)]) (fun _=> []):=by
 refine enQ noJ Tryz.func44 Tryz.ntmps44 (dc.eq_1 ..) fun r hw=> ?_
 exact auR
set_option maxHeartbeats 2000000 in
set_option maxRecDepth 100000 in
theorem Ln (h_:ay) (hp0:oB h_):CM En (ji h_) 41 [(bD h_)] (fun y=> .agg [.int .i64 y.Kind,.int .i64 y.N,.sl none 1 false (y.B.map (V.int .u8)),.sl none 4 true (y.L.map aw)]) (fun _=> []):=by
 refine enQ noJ Tryz.func41 Tryz.ntmps41 (ji.eq_1 ..) fun r hw=> ?_
 have h0_0:=xJ hp0
 intro hF hM
 have hM0:=hM;clear hM;obtain ⟨f1,d1,hf1,hd1,hM⟩:=aH hM0;clear hM0
 refine bm (fun n S=> ∃p:Int×List Int,S=(⟨[(1,.ptr 0 0),(2,.ptr 1 0),(3,.own 2),(22,.sl none 2 true (h_.Secret.X.map (fun l=> .agg [.int .i64 (gt l 0),.int .i64 (gt l 1)]))),(23,.int .i64 (h_.Secret.X.length:Int)),(24,.int .i64 p.1)],[(0,.var 46 true ((bD h_))),(1,.var 4 true (.agg [.int .i64 0,.int .i64 0,.sl (some true) 1 false [],.sl (some true) 4 true []])),(2,.own 3 1 false none (p.2.map (V.int .i64)))],3⟩:St)∧((0≤p.1)∧(p.1≤(h_.Secret.X.length:Int))∧(((p.2).length:Int)=2+2*p.1))∧((h_.Secret.X.length:Int) - p.1).toNat<n∧ah n f1 d1 p=r) (((h_.Secret.X.length:Int) - 0).toNat+1) _ sbQ sbQ ⟨(0,([h_.Secret.U,h_.Secret.S]:List Int)),rfl,⟨omQ,omQ,omQ⟩,(Nat.lt_succ_self _),hM⟩ ?_
 clear hM
 rintro n1 S ⟨p1,rfl,hfa1,hm1,hM⟩
 have hM0:=hM;clear hM;obtain ⟨ag1,hag1,hM⟩:=aI hM0 (by omega) hf1;clear hM0
 replace hfa1:=nzQ hfa1
 replace hm1:=nzQ hm1
 have ha1:ak .i64 p1.1 1=p1.1+1:=aR omQ omQ
 replace hF:=(And.intro ha1 hF)
 revert hM;revert hF
 refine slQ ?_
 refine cdQ (fun _ _ _=> ?_) (fun _ _ _=> ?_)
 ·intro hF hM
  refine aO (n1 - 1) _ (by omega) sbQ sbQ ⟨((p1.1+1),(p1.2++([(gt (gt h_.Secret.X p1.1) 0),(gt (gt h_.Secret.X p1.1) 1)]:List Int))),rfl,⟨omQ,omQ,omQ⟩,omQ,aM hM hag1⟩
 ·intro hF hM
  have hM0:=hM;clear hM;obtain ⟨f6,d6,hf6,hd6,hM⟩:=aH hM0;clear hM0
  refine bN (fun n S=> ∃p:Int×List Int,S=(⟨[(1,.ptr 0 0),(2,.ptr 1 0),(3,.own 2),(6,.own 3),(37,.sl none 1 false (h_.Spent.map V.bool)),(38,.int .i64 (h_.Spent.length:Int)),(39,.int .i64 p.1)],[(0,.var 46 true ((bD h_))),(1,.var 4 true (.agg [.int .i64 0,.int .i64 0,.sl (some true) 1 false [],.sl (some true) 4 true []])),(2,.own 3 1 false none (p1.2.map (V.int .i64))),(3,.own 3 1 false none (p.2.map (V.int .i64)))],4⟩:St)∧((0≤p.1)∧(p.1≤(h_.Spent.length:Int))∧(((p.2).length:Int)=p.1))∧((h_.Spent.length:Int) - p.1).toNat<n∧ah n f6 d6 p=r) (((h_.Spent.length:Int) - 0).toNat+1) _ _ (dV 6 3 rfl (by decide)) sbQ sbQ ⟨(0,([]:List Int)),rfl,⟨omQ,omQ,omQ⟩,(Nat.lt_succ_self _),hM⟩ ?_
  clear hM
  rintro n6 S ⟨p6,rfl,hfa6,hm6,hM⟩
  have hM0:=hM;clear hM;obtain ⟨ag6,hag6,hM⟩:=aI hM0 (by omega) hf6;clear hM0
  replace hfa6:=nzQ hfa6
  replace hm6:=nzQ hm6
  have ha6:ak .i64 p6.1 1=p6.1+1:=aR omQ omQ
  replace hF:=(And.intro ha6 hF)
  revert hM;revert hF
  refine slQ ?_
  refine cdQ (fun _ _ _=> ?_) (fun _ _ _=> ?_)
  ·refine cdQ (fun _ _ _=> ?_) (fun _ _ _=> ?_)
   ·intro hF hM
    refine aO (n6 - 1) _ (by omega) sbQ sbQ ⟨((p6.1+1),(p6.2++([1]:List Int))),rfl,⟨omQ,omQ,omQ⟩,omQ,aM hM hag6⟩
   ·intro hF hM
    refine aO (n6 - 1) _ (by omega) sbQ sbQ ⟨((p6.1+1),(p6.2++([0]:List Int))),rfl,⟨omQ,omQ,omQ⟩,omQ,aM hM hag6⟩
  ·intro hF hM
   have hM0:=hM;clear hM;obtain ⟨f14,d14,hf14,hd14,hM⟩:=aH hM0;clear hM0
   refine bN (fun n S=> ∃p:Int×List aa,S=(⟨[(1,.ptr 0 0),(2,.ptr 1 0),(3,.own 2),(6,.own 3),(10,.own 4),(50,.sl none 80 true (h_.Chain.map bX)),(51,.int .i64 (h_.Chain.length:Int)),(52,.int .i64 p.1)],[(0,.var 46 true ((bD h_))),(1,.var 4 true (.agg [.int .i64 0,.int .i64 0,.sl (some true) 1 false [],.sl (some true) 4 true []])),(2,.own 3 1 false none (p1.2.map (V.int .i64))),(3,.own 3 1 false none (p6.2.map (V.int .i64))),(4,.own 126 4 true none (p.2.map aw))],5⟩:St)∧((0≤p.1)∧(p.1≤(h_.Chain.length:Int))∧(((p.2).length:Int)=p.1))∧((h_.Chain.length:Int) - p.1).toNat<n∧ah n f14 d14 p=r) (((h_.Chain.length:Int) - 0).toNat+1) _ _ (dV 10 126 rfl (by decide)) sbQ sbQ ⟨(0,([]:List aa)),rfl,⟨omQ,omQ,omQ⟩,(Nat.lt_succ_self _),hM⟩ ?_
   clear hM
   rintro n14 S ⟨p14,rfl,hfa14,hm14,hM⟩
   have hM0:=hM;clear hM;obtain ⟨ag14,hag14,hM⟩:=aI hM0 (by omega) hf14;clear hM0
   replace hfa14:=nzQ hfa14
   replace hm14:=nzQ hm14
   have ha14:ak .i64 p14.1 1=p14.1+1:=aR omQ omQ
   replace hF:=(And.intro ha14 hF)
   revert hM;revert hF
   refine slQ ?_
   refine cdQ (fun _ _ _=> ?_) (fun _ _ _=> ?_)
   ·intro hF hM
    have hM0:=hM;clear hM;obtain ⟨x18,hx19,hM⟩:=aC hM0;clear hM0
    have hcx18:=cmH hx19 (Lm (gt h_.Chain p14.1) (by (exact Cs (hp0.2.2.2 _ (cm (by omega))))))
    refine bl hcx18 (an hF) (an hF) (fun hw20=> ?_)
    replace hw20:=nzQ hw20
    revert hM;revert hF
    refine slQ ?_
    intro hF hM
    refine aO (n14 - 1) _ (by omega) sbQ sbQ ⟨((p14.1+1),(p14.2++([x18]:List aa))),rfl,⟨omQ,omQ,omQ⟩,omQ,aM hM hag14⟩
   ·refine aF fun x22 _ _ _=> ?_
    intro hF hM
    have hM0:=hM;clear hM;obtain ⟨x25,hx26,hM⟩:=aC hM0;clear hM0
    have hcx25:=cmU hx26
    refine ir hcx25 (f0 2 (T:=3) (n:=1) (g:=false) (z:=none) (l:=p1.2.map (V.int .i64)) (an hF)) (an hF) (fun hw27=> ?_)
    replace hw27:=nzQ hw27
    revert hM;revert hF
    refine slQ ?_
    intro hF hM
    have hM0:=hM;clear hM;obtain ⟨x28,hx29,hM⟩:=aC hM0;clear hM0
    have hcx28:=cmU hx29
    refine ir hcx28 (f0 3 (T:=3) (n:=1) (g:=false) (z:=none) (l:=p6.2.map (V.int .i64)) (an hF)) (an hF) (fun hw30=> ?_)
    replace hw30:=nzQ hw30
    revert hM;revert hF
    refine slQ ?_
    intro hF hM
    have hM0:=hM;clear hM;obtain ⟨x31,hx32,hM⟩:=aC hM0;clear hM0
    have hcx31:=cmU hx32
    refine ir hcx31 (f0 4 (T:=126) (n:=4) (g:=true) (z:=none) (l:=p14.2.map aw) (an hF)) (an hF) (fun hw33=> ?_)
    replace hw33:=nzQ hw33
    revert hM;revert hF
    refine slQ ?_
    intro hF hM
    have hM0:=hM;clear hM;obtain ⟨x34,hx35,hM⟩:=aC hM0;clear hM0
    have hcx34:=cmU hx35
    refine ir hcx34 (f0 5 (T:=126) (n:=4) (g:=true) (z:=(some false)) (l:=([x22,x25,x28,x31]:List aa).map aw) (an hF)) (an hF) (fun hw36=> ?_)
    replace hw36:=nzQ hw36
    exact auP
instance (priority:=1010):DRD 8 78 43 [32,33,34,35,36,37,38,39,40,41,42,43,44,45,46,47,48,49,50,51,52,53,54,55,56,57,58,59,60,61,62,63,64,65,66,67,68,69,70,71,72,73,74] [] ([[],[0],[],[2],[],[4],[],[6],[],[8],[],[10],[0,1,2,3,4,5,6,7,8,9,10,11],[0,1,2,3,4,5,6,7,8,9,10,11,12],[],[0,1,2,3,4,5,6,7,8,9,10,11,12,13,14],[],[16],[16,17],[],[19],[19,20],[],[22],[22,23],[16,17,18,19,20,21,22,23,24],[0,1,2,3,4,5,6,7,8,9,10,11,12,13,14,15,16,17,18,19,20,21,22,23,24,25],[],[27],[],[29],[],[31],[],[33],[],[35],[],[37],[27,28,29,30,31,32,33,34,35,36,37,38],[0,1,2,3,4,5,6,7,8,9,10,11,12,13,14,15,16,17,18,19,20,21,22,23,24,25,26,27,28,29,30,31,32,33,34,35,36,37,38,39],[],[41]]++[List.range 43,List.range 44,List.range 45,List.range 46]) [(12,16),(25,29),(39,43)]:=⟨trivial⟩
set_option maxHeartbeats 2000000 in
set_option maxRecDepth 100000 in
theorem Lo (w:aL) (hp0:w.Secret.X.length≤1000):CM En (jj w) 42 [(bU w)] (fun y=> .agg [.int .i64 y.Kind,.int .i64 y.N,.sl none 1 false (y.B.map (V.int .u8)),.sl none 4 true (y.L.map aw)]) (fun _=> []):=by
 refine enQ [8] Tryz.func42 Tryz.ntmps42 (jj.eq_1 ..) fun r hw=> ?_
 intro hF hM
 have hM0:=hM;clear hM;obtain ⟨f1,d1,hf1,hd1,hM⟩:=aH hM0;clear hM0
 refine bm (fun n S=> ∃p:Int×List Int,S=(⟨[(1,.ptr 0 0),(2,.ptr 1 0),(3,.own 2),(16,.sl none 2 true (w.Secret.X.map (fun l=> .agg [.int .i64 (gt l 0),.int .i64 (gt l 1)]))),(17,.int .i64 (w.Secret.X.length:Int)),(18,.int .i64 p.1)],[(0,.var 59 true ((bU w))),(1,.var 4 true (.agg [.int .i64 0,.int .i64 0,.sl (some true) 1 false [],.sl (some true) 4 true []])),(2,.own 3 1 false none (p.2.map (V.int .i64)))],3⟩:St)∧((0≤p.1)∧(p.1≤(w.Secret.X.length:Int))∧(((p.2).length:Int)=2+2*p.1))∧((w.Secret.X.length:Int) - p.1).toNat<n∧ah n f1 d1 p=r) (((w.Secret.X.length:Int) - 0).toNat+1) _ sbQ sbQ ⟨(0,([w.Secret.U,w.Secret.S]:List Int)),rfl,⟨omQ,omQ,omQ⟩,(Nat.lt_succ_self _),hM⟩ ?_
 clear hM
 rintro n1 S ⟨p1,rfl,hfa1,hm1,hM⟩
 have hM0:=hM;clear hM;obtain ⟨ag1,hag1,hM⟩:=aI hM0 (by omega) hf1;clear hM0
 replace hfa1:=nzQ hfa1
 replace hm1:=nzQ hm1
 have ha1:ak .i64 p1.1 1=p1.1+1:=aR omQ omQ
 replace hF:=(And.intro ha1 hF)
 revert hM;revert hF
 refine slQ ?_
 refine cdQ (fun _ _ _=> ?_) (fun _ _ _=> ?_)
 ·intro hF hM
  refine aO (n1 - 1) _ (by omega) sbQ sbQ ⟨((p1.1+1),(p1.2++([(gt (gt w.Secret.X p1.1) 0),(gt (gt w.Secret.X p1.1) 1)]:List Int))),rfl,⟨omQ,omQ,omQ⟩,omQ,aM hM hag1⟩
 ·intro hF hM
  refine jN ?_
  revert hM;revert hF
  refine slQ ?_
  intro hF hM
  refine jO _ (⟨[(1,.ptr 0 0),(2,.ptr 1 0),(3,.sl none 1 false (p1.2.map (V.int .i64))),(6,.ptr 3 0)],[(0,.var 59 true ((bU w))),(1,.var 4 true (.agg [.int .i64 0,.int .i64 0,.sl (some true) 1 false [],.sl (some true) 4 true []])),(2,.pown 1 false none (p1.2.map (V.int .i64))),(3,.var 6 true ((sN w.View)))],4⟩:St) ((gE (S:=⟨_,_,_⟩) 2 (T:=3) (n:=1) (g:=false) (z:=none) (l:=p1.2.map (V.int .i64)) (an hF)).trans (iq (S:=⟨_,_,_⟩) 3 2 (n:=1) (g:=false) (z:=none) (l:=p1.2.map (V.int .i64)) (an hF) (an hF))) sbQ sbQ ?_
  exact auP
instance (priority:=1011):DRD 12 71 31 [10,38,39,40,41,42,43,44,45,46,47,48,49,50,51,52,53,54,55,56,57,58,59,60,61,62,63,64,65,66,67] [] ([[],[0],[],[2],[],[4],[],[6],[0,1,2,3,4,5,6,7],[0,1,2,3,4,5,6,7,8],[],[10],[],[12],[],[14],[14,15],[14,15,16],[],[18],[18,19],[18,19,20],[14,15,16,17,18,19,20,21],[14,15,16,17,18,19,20,21,22],[0,1,2,3,4,5,6,7,8,9,10,11,12,13,14,15,16,17,18,19,20,21,22,23],[0,1,2,3,4,5,6,7,8,9,10,11,12,13,14,15,16,17,18,19,20,21,22,23,24],[0,1,2,3,4,5,6,7,8,9,10,11,12,13,14,15,16,17,18,19,20,21,22,23,24,25],[0,1,2,3,4,5,6,7,8,9,10,11,12,13,14,15,16,17,18,19,20,21,22,23,24,25,26],[0,1,2,3,4,5,6,7,8,9,10,11,12,13,14,15,16,17,18,19,20,21,22,23,24,25,26,27],[0,1,2,3,4,5,6,7,8,9,10,11,12,13,14,15,16,17,18,19,20,21,22,23,24,25,26,27],[0,1,2,3,4,5,6,7,8,9,10,11,12,13,14,15,16,17,18,19,20,21,22,23,24,25,26,27,28]]++[List.range 31]) [(8,11),(22,25),(24,27)]:=⟨trivial⟩
set_option maxHeartbeats 2000000 in
set_option maxRecDepth 100000 in
theorem Lp (p_:av) (hp0:kj p_):CM En (lv p_) 12 [(bL p_)] (fun y=> .tup [.sl none 1 false (y.1.map (V.int .u8)),.int .i64 y.2]) (fun _=> []):=by
 refine enQ [12] Tryz.func12 Tryz.ntmps12 (lv.eq_1 ..) fun r hw=> ?_
 have h0_0:=CD hp0
 intro hF hM
 have hM0:=hM;clear hM;obtain ⟨f1,d1,hf1,hd1,hM⟩:=aH hM0;clear hM0
 refine bN (fun n S=> ∃p:Int×List aa,S=(⟨[(1,.ptr 0 0),(4,.own 1),(5,.sl (some true) 4 true []),(13,.sl none 46 true (p_.Holdings.map bD)),(14,.int .i64 (p_.Holdings.length:Int)),(15,.int .i64 p.1)],[(0,.var 39 true ((bL p_))),(1,.own 126 4 true none (p.2.map aw))],2⟩:St)∧(((0≤p.1)∧(p.1≤(p_.Holdings.length:Int))∧(((p.2).length:Int)≤p.1))∧((bC (p.2):Int)≤20000*p.1))∧((p_.Holdings.length:Int) - p.1).toNat<n∧ah n f1 d1 p=r) (((p_.Holdings.length:Int) - 0).toNat+1) _ _ (dV 4 126 rfl (by decide)) sbQ sbQ ⟨(0,([]:List aa)),rfl,⟨⟨omQ,omQ,omQ⟩,by (simp only [bC];omega)⟩,(Nat.lt_succ_self _),hM⟩ ?_
 clear hM
 rintro n1 S ⟨p1,rfl,⟨hfa1,hF3_0⟩,hm1,hM⟩
 have hM0:=hM;clear hM;obtain ⟨ag1,hag1,hM⟩:=aI hM0 (by omega) hf1;clear hM0
 replace hfa1:=nzQ hfa1
 replace hm1:=nzQ hm1
 have ha1:ak .i64 p1.1 1=p1.1+1:=aR omQ omQ
 replace hF:=(And.intro ha1 hF)
 revert hM;revert hF
 refine slQ ?_
 refine cdQ (fun _ _ _=> ?_) (fun _ _ _=> ?_)
 ·intro hF hM
  have hM0:=hM;clear hM;obtain ⟨x5,hx6,hM⟩:=aC hM0;clear hM0
  have hcx5:=cmH hx6 (Ln (gt p_.Holdings p1.1) (by (exact hp0.2.1 _ (cm (by omega)))))
  refine bl hcx5 (an hF) (an hF) (fun hw7=> ?_)
  replace hw7:=nzQ hw7
  revert hM;revert hF
  refine slQ ?_
  intro hF hM
  refine aO (n1 - 1) _ (by omega) sbQ sbQ ⟨((p1.1+1),(p1.2++([x5]:List aa))),rfl,⟨⟨omQ,omQ,omQ⟩,by (clear hM;have h9:=CG (hp0.2.1 _ (cm (l:=p_.Holdings) (i:=p1.1) (by omega))) ‹_=ji _›;simp only [xA,bC];omega)⟩,omQ,aM hM hag1⟩
 ·intro hF hM
  refine jN ?_
  revert hM;revert hF
  refine slQ ?_
  intro hF hM
  have hM0:=hM;clear hM;obtain ⟨f9,d9,hf9,hd9,hM⟩:=aH hM0;clear hM0
  refine bN (fun n S=> ∃p:Int×List aa,S=(⟨[(1,.ptr 0 0),(4,.own 1),(5,.own 2),(26,.sl none 59 true (p_.Open.map bU)),(27,.int .i64 (p_.Open.length:Int)),(28,.int .i64 p.1)],[(0,.var 39 true ((bL p_))),(1,.own 126 4 true none (p1.2.map aw)),(2,.own 126 4 true none (p.2.map aw))],3⟩:St)∧(((0≤p.1)∧(p.1≤(p_.Open.length:Int))∧(((p.2).length:Int)≤p.1))∧((bC (p.2):Int)≤2000*p.1))∧((p_.Open.length:Int) - p.1).toNat<n∧ah n f9 d9 p=r) (((p_.Open.length:Int) - 0).toNat+1) _ _ (dV 5 126 rfl (by decide)) sbQ sbQ ⟨(0,([]:List aa)),rfl,⟨⟨omQ,omQ,omQ⟩,by (simp only [bC];omega)⟩,(Nat.lt_succ_self _),hM⟩ ?_
  clear hM
  rintro n9 S ⟨p9,rfl,⟨hfa9,hF8_0⟩,hm9,hM⟩
  have hM0:=hM;clear hM;obtain ⟨ag9,hag9,hM⟩:=aI hM0 (by omega) hf9;clear hM0
  replace hfa9:=nzQ hfa9
  replace hm9:=nzQ hm9
  have ha9:ak .i64 p9.1 1=p9.1+1:=aR omQ omQ
  replace hF:=(And.intro ha9 hF)
  revert hM;revert hF
  refine slQ ?_
  refine cdQ (fun _ _ _=> ?_) (fun _ _ _=> ?_)
  ·intro hF hM
   have hM0:=hM;clear hM;obtain ⟨x13,hx14,hM⟩:=aC hM0;clear hM0
   have hcx13:=cmH hx14 (Lo (gt p_.Open p9.1) (by (exact Nat.le_trans (hp0.2.2.2 _ (cm (by omega))) (by decide))))
   refine bl hcx13 (an hF) (an hF) (fun hw15=> ?_)
   replace hw15:=nzQ hw15
   revert hM;revert hF
   refine slQ ?_
   intro hF hM
   refine aO (n9 - 1) _ (by omega) sbQ sbQ ⟨((p9.1+1),(p9.2++([x13]:List aa))),rfl,⟨⟨omQ,omQ,omQ⟩,by (clear hM;have h9:=CH (hp0.2.2.2 _ (cm (l:=p_.Open) (i:=p9.1) (by omega))) ‹_=jj _›;simp only [xA,bC];omega)⟩,omQ,aM hM hag9⟩
  ·intro hF hM
   refine jO _ (⟨[(1,.pp 39 true ((bL p_))),(4,.sl none 4 true (p1.2.map aw)),(5,.sl none 4 true (p9.2.map aw))],[(0,.pvar 39 true ((bL p_))),(1,.pown 4 true none (p1.2.map aw)),(2,.pown 4 true none (p9.2.map aw))],3⟩:St) ((((((wu (S:=⟨_,_,_⟩) 0 (n:=39) (g:=true) (d:=(bL p_)) (an hF) (an hF)).trans (Kw (S:=⟨_,_,_⟩) 1 0 (n:=39) (g:=true) (d:=(bL p_)) (an hF) (an hF))).trans (gE (S:=⟨_,_,_⟩) 1 (T:=126) (n:=4) (g:=true) (z:=none) (l:=p1.2.map aw) (an hF))).trans (iq (S:=⟨_,_,_⟩) 4 1 (n:=4) (g:=true) (z:=none) (l:=p1.2.map aw) (an hF) (an hF))).trans (gE (S:=⟨_,_,_⟩) 2 (T:=126) (n:=4) (g:=true) (z:=none) (l:=p9.2.map aw) (an hF))).trans (iq (S:=⟨_,_,_⟩) 5 2 (n:=4) (g:=true) (z:=none) (l:=p9.2.map aw) (an hF) (an hF))) sbQ sbQ ?_
   revert hM;revert hF
   refine slQ ?_
   refine aF fun _ _ _ _=> ?_
   refine aF fun _ _ _ _=> ?_
   refine aF fun _ _ _ _=> ?_
   refine aF fun _ _ _ _=> ?_
   refine aF fun x25 _ _ _=> ?_
   intro hF hM
   have hM0:=hM;clear hM;obtain ⟨x27,hx28,hM⟩:=aC hM0;clear hM0
   have hcx27:=cmH hx28 (Lj x25 (by (clear hM;exact KQ (by assumption) (by assumption) (by assumption) (by assumption) (by assumption) (by simp) (by omega) (by omega) (by simp [bC,hgt,cq]))))
   refine c_ hcx27 (an hF) (an hF) ?_
   exact auP
instance (priority:=1012):DRD 5 19 6 [10,11,12,13,14,15] [] ([[],[0],[],[2],[2,3],[2,3,4]]++[List.range 6,List.range 7,List.range 8]) []:=⟨trivial⟩
set_option maxHeartbeats 2000000 in
set_option maxRecDepth 100000 in
instance QL (h_:(List Int)):CM En (jk h_) 103 [(bI h_)] (fun y=> .agg [.int .i64 y.Kind,.int .i64 y.N,.sl none 1 false (y.B.map (V.int .u8)),.sl none 4 true (y.L.map aw)]) (fun _=> []):=by
 refine enQ noJ Tryz.func103 Tryz.ntmps103 (jk.eq_1 ..) fun r hw=> ?_
 intro hF hM
 have hM0:=hM;clear hM;obtain ⟨f1,d1,hf1,hd1,hM⟩:=aH hM0;clear hM0
 refine bN (fun n S=> ∃p:Int×List Int,S=(⟨[(1,.ptr 0 0),(2,.ptr 1 0),(3,.ptr 2 0),(4,.int .i64 p.1)],[(0,.var 32 true ((bI h_))),(1,.var 4 true (.agg [.int .i64 0,.int .i64 0,.sl (some true) 1 false [],.sl (some true) 4 true []])),(2,.var 4 true (.agg [.int .i64 2,.int .i64 0,.own 3,.sl (some true) 4 true []])),(3,.own 5 1 false none (p.2.map (V.int .u8)))],4⟩:St)∧((0≤p.1)∧(p.1≤32)∧(((p.2).length:Int)≤p.1))∧((32:Int) - p.1).toNat<n∧ah n f1 d1 p=r) (((32:Int) - 0).toNat+1) _ _ (dm 2 2 5 rfl rfl (by decide)) sbQ sbQ ⟨(0,([]:List Int)),rfl,⟨omQ,omQ,omQ⟩,(Nat.lt_succ_self _),hM⟩ ?_
 clear hM
 rintro n1 S ⟨p1,rfl,hfa1,hm1,hM⟩
 have hM0:=hM;clear hM;obtain ⟨ag1,hag1,hM⟩:=aI hM0 (by omega) hf1;clear hM0
 replace hfa1:=nzQ hfa1
 replace hm1:=nzQ hm1
 have ha1:ak .i64 p1.1 1=p1.1+1:=aR omQ omQ
 replace hF:=(And.intro ha1 hF)
 revert hM;revert hF
 refine slQ ?_
 refine ax fun _ _ _=> ?_
 have he4:((p1.1).toNat*1≤31)=True:=eq_true ap
 refine slA he4 ?_
 have he5:=jg (f:=(V.int .u8)) (l:=h_) (n:=32) (i:=p1.1) ap
 replace he5:=spR he5
 refine slA he5 ?_
 intro hF hM
 refine aO (n1 - 1) _ (by omega) sbQ sbQ ⟨((p1.1+1),(p1.2++([(gt h_ p1.1)]:List Int))),rfl,⟨omQ,omQ,omQ⟩,omQ,aM hM hag1⟩
instance (priority:=1013):DRD 5 23 8 [12,13,14,15,16,17,18,19] [] ([[],[0],[],[],[2,3],[2,3,4],[2,3,4,5],[2,3,4,5,6]]++[List.range 8,List.range 9,List.range 10]) []:=⟨trivial⟩
set_option maxHeartbeats 2000000 in
set_option maxRecDepth 100000 in
instance QM (l:(List Int)):CM En (dM l) 104 [.sl none 1 false (l.map (V.int .i64))] (fun y=> .agg [.int .i64 y.Kind,.int .i64 y.N,.sl none 1 false (y.B.map (V.int .u8)),.sl none 4 true (y.L.map aw)]) (fun _=> []):=by
 refine enQ noJ Tryz.func104 Tryz.ntmps104 (dM.eq_1 ..) fun r hw=> ?_
 intro hF hM
 have hM0:=hM;clear hM;obtain ⟨f1,d1,hf1,hd1,hM⟩:=aH hM0;clear hM0
 refine bN (fun n S=> ∃p:Int×List aa,S=(⟨[(0,.sl none 1 false (l.map (V.int .i64))),(2,.ptr 0 0),(3,.ptr 1 0),(4,.int .i64 p.1)],[(0,.var 4 true (.agg [.int .i64 0,.int .i64 0,.sl (some true) 1 false [],.sl (some true) 4 true []])),(1,.var 4 true (.agg [.int .i64 3,.int .i64 0,.sl (some true) 1 false [],.own 2])),(2,.own 126 4 true none (p.2.map aw))],3⟩:St)∧((0≤p.1)∧(p.1≤(l.length:Int))∧(((p.2).length:Int)≤p.1))∧((l.length:Int) - p.1).toNat<n∧ah n f1 d1 p=r) (((l.length:Int) - 0).toNat+1) _ _ (dm 1 3 126 rfl rfl (by decide)) sbQ sbQ ⟨(0,([]:List aa)),rfl,⟨omQ,omQ,omQ⟩,(Nat.lt_succ_self _),hM⟩ ?_
 clear hM
 rintro n1 S ⟨p1,rfl,hfa1,hm1,hM⟩
 have hM0:=hM;clear hM;obtain ⟨ag1,hag1,hM⟩:=aI hM0 (by omega) hf1;clear hM0
 replace hfa1:=nzQ hfa1
 replace hm1:=nzQ hm1
 have ha1:ak .i64 p1.1 1=p1.1+1:=aR omQ omQ
 replace hF:=(And.intro ha1 hF)
 revert hM;revert hF
 refine slQ ?_
 refine ax fun _ _ _=> ?_
 intro hF hM
 refine aO (n1 - 1) _ (by omega) sbQ sbQ ⟨((p1.1+1),(p1.2++([({Kind:=1,N:=(gt l p1.1),B:=([]:List Int),L:=([]:List aa)}:aa)]:List aa))),rfl,⟨omQ,omQ,omQ⟩,omQ,aM hM hag1⟩
instance (priority:=1014):DRD 1 34 28 [3,4,5,6,7,8,9,10,11,12,13,14,15,16,17,18,19,20,21,22,23,24,25,26,27,28,29,30] [] ([[],[0],[],[2],[],[4],[],[6],[],[8],[0,1,2,3,4,5,6,7,8,9],[0,1,2,3,4,5,6,7,8,9,10],[],[12],[0,1,2,3,4,5,6,7,8,9,10,11,12,13],[],[15],[15,16],[],[18],[18,19],[],[21],[21,22],[],[24],[24,25],[15,16,17,18,19,20,21,22,23,24,25,26]]++[List.range 28,List.range 29,List.range 30,List.range 31]) [(10,12),(27,29)]:=⟨trivial⟩
set_option maxHeartbeats 2000000 in
set_option maxRecDepth 100000 in
instance QN (c:br):CM En (jl c) 164 [(dJ c)] (fun y=> .agg [.int .i64 y.Kind,.int .i64 y.N,.sl none 1 false (y.B.map (V.int .u8)),.sl none 4 true (y.L.map aw)]) (fun _=> []):=by
 refine enQ noJ Tryz.func164 Tryz.ntmps164 (jl.eq_1 ..) fun r hw=> ?_
 exact auR
set_option maxHeartbeats 2000000 in
set_option maxRecDepth 100000 in
instance QO (l:(List aa)):CM En (qk l) 214 [.sl none 4 true (l.map aw)] (fun y=> .agg [.int .i64 y.Kind,.int .i64 y.N,.sl none 1 false (y.B.map (V.int .u8)),.sl none 4 true (y.L.map aw)]) (fun _=> []):=by
 refine enQ noJ Tryz.func214 Tryz.ntmps214 (qk.eq_1 ..) fun r hw=> ?_
 exact auR
instance (priority:=1015):DRD 5 87 20 [14,15,16,17,18,19,20,21,22,23,24,25,26,27,28,29,30,31,32,33] [] ([[],[],[1],[],[1,2,3],[1,2,3,4],[1,2,3,4,5],[],[7],[],[7,8,9],[7,8,9,10],[7,8,9,10,11],[],[13],[],[13,14,15],[13,14,15,16],[13,14,15,16,17],[1,2,3,4,5,6,7,8,9,10,11,12,13,14,15,16,17,18]]++[List.range 20,List.range 21]) []:=⟨trivial⟩
instance (priority:=1016):DRD 11 87 26 [58,59,60,61,62,63,64,65,66,67,68,69,70,71,72,73,74,75,76,77,78,79,80,81,82,83] [] ([[],[0],[0,1],[],[3],[3,4],[],[6],[6,7],[3,4,5,6,7,8],[0,1,2,3,4,5,6,7,8,9],[],[11],[11,12],[0,1,2,3,4,5,6,7,8,9,10,11,12,13],[],[15],[15,16],[],[18],[18,19],[15,16,17,18,19,20],[0,1,2,3,4,5,6,7,8,9,10,11,12,13,14,15,16,17,18,19,20,21],[],[0,1,2,3,4,5,6,7,8,9,10,11,12,13,14,15,16,17,18,19,20,21,22,23],[]]++[List.range 26,List.range 27,List.range 28,List.range 29]) [(9,13),(21,25)]:=⟨trivial⟩
set_option maxHeartbeats 2000000 in
set_option maxRecDepth 100000 in
theorem Lq (s:aA) (hp0:xC s):CM En (ke s) 163 [(bX s)] (fun y=> .agg [.int .i64 y.Kind,.int .i64 y.N,.sl none 1 false (y.B.map (V.int .u8)),.sl none 4 true (y.L.map aw)]) (fun _=> []):=by
 refine enQ [11] Tryz.func163 Tryz.ntmps163 (ke.eq_1 ..) fun r hw=> ?_
 have hG0:=hp0.1
 have hG1:=hp0.2
 intro hF hM
 have hM0:=hM;clear hM;obtain ⟨f1,d1,hf1,hd1,hM⟩:=aH hM0;clear hM0
 refine bN (fun n S=> ∃p:Int×List Int,S=(⟨[(1,.ptr 0 0),(2,.ptr 1 0),(3,.own 2),(4,.int .i64 p.1)],[(0,.var 80 true ((bX s))),(1,.var 4 true (.agg [.int .i64 0,.int .i64 0,.sl (some true) 1 false [],.sl (some true) 4 true []])),(2,.own 3 1 false none (p.2.map (V.int .i64)))],3⟩:St)∧((0≤p.1)∧(p.1≤(s.Leaves.length:Int))∧(((p.2).length:Int)=3*p.1))∧((s.Leaves.length:Int) - p.1).toNat<n∧ah n f1 d1 p=r) (((s.Leaves.length:Int) - 0).toNat+1) _ _ (dV 3 3 rfl (by decide)) sbQ sbQ ⟨(0,([]:List Int)),rfl,⟨by exact omA,by exact omA,by exact omA⟩,(Nat.lt_succ_self _),hM⟩ ?_
 clear hM
 rintro n1 S ⟨p1,rfl,hfa1,hm1,hM⟩
 have hM0:=hM;clear hM;obtain ⟨ag1,hag1,hM⟩:=aI hM0 (by omega) hf1;clear hM0
 replace hfa1:=nzQ hfa1
 replace hm1:=nzQ hm1
 have ha1:ak .i64 p1.1 1=p1.1+1:=aR (by exact omA) (by exact omA)
 replace hF:=(And.intro ha1 hF)
 revert hM;revert hF
 refine slQ ?_
 refine aJ fun _ _ _=> ?_
 intro hF hM
 refine jN ?_
 revert hM;revert hF
 refine slQ ?_
 intro hF hM
 have hM0:=hM;clear hM;obtain ⟨f6,d6,hf6,hd6,hM⟩:=aH hM0;clear hM0
 refine bm (fun n S=> ∃p:Int×List aa,S=(⟨[(1,.ptr 0 0),(2,.ptr 1 0),(3,.own 2),(5,.own 3),(6,.int .i64 p.1)],[(0,.var 80 true ((bX s))),(1,.var 4 true (.agg [.int .i64 0,.int .i64 0,.sl (some true) 1 false [],.sl (some true) 4 true []])),(2,.own 3 1 false none (p1.2.map (V.int .i64))),(3,.own 126 4 true none (p.2.map aw))],4⟩:St)∧((0≤p.1)∧(p.1≤(s.Path.L.length:Int))∧(((p.2).length:Int)≤p.1+(([({Kind:=1,N:=s.Path.Index,B:=([]:List Int),L:=([]:List aa)}:aa)]:List aa)).length))∧((s.Path.L.length:Int) - p.1).toNat<n∧ah n f6 d6 p=r) (((s.Path.L.length:Int) - 0).toNat+1) _ sbQ sbQ ⟨(0,([({Kind:=1,N:=s.Path.Index,B:=([]:List Int),L:=([]:List aa)}:aa)]:List aa)),rfl,⟨by exact omA,by exact omA,by exact omA⟩,(Nat.lt_succ_self _),hM⟩ ?_
 clear hM
 rintro n6 S ⟨p6,rfl,hfa6,hm6,hM⟩
 have hM0:=hM;clear hM;obtain ⟨ag6,hag6,hM⟩:=aI hM0 (by omega) hf6;clear hM0
 replace hfa6:=nzQ hfa6
 replace hm6:=nzQ hm6
 have ha6:ak .i64 p6.1 1=p6.1+1:=aR (by exact omA) (by exact omA)
 replace hF:=(And.intro ha6 hF)
 revert hM;revert hF
 refine slQ ?_
 refine aJ fun _ _ _=> ?_
 intro hF hM
 refine jO _ (⟨[(1,.ptr 0 0),(2,.ptr 1 0),(3,.sl none 1 false (p1.2.map (V.int .i64))),(5,.sl none 4 true (p6.2.map aw))],[(0,.var 80 true ((bX s))),(1,.var 4 true (.agg [.int .i64 0,.int .i64 0,.sl (some true) 1 false [],.sl (some true) 4 true []])),(2,.pown 1 false none (p1.2.map (V.int .i64))),(3,.pown 4 true none (p6.2.map aw))],4⟩:St) ((((gE (S:=⟨_,_,_⟩) 2 (T:=3) (n:=1) (g:=false) (z:=none) (l:=p1.2.map (V.int .i64)) (an hF)).trans (iq (S:=⟨_,_,_⟩) 3 2 (n:=1) (g:=false) (z:=none) (l:=p1.2.map (V.int .i64)) (an hF) (an hF))).trans (gE (S:=⟨_,_,_⟩) 3 (T:=126) (n:=4) (g:=true) (z:=none) (l:=p6.2.map aw) (an hF))).trans (iq (S:=⟨_,_,_⟩) 5 3 (n:=4) (g:=true) (z:=none) (l:=p6.2.map aw) (an hF) (an hF))) sbQ sbQ ?_
 revert hM;revert hF
 refine slQ ?_
 refine aF fun x14 _ _ _=> ?_
 refine aF fun x16 _ _ _=> ?_
 refine aF fun x18 _ _ _=> ?_
 refine aF fun x20 _ _ _=> ?_
 refine aF fun x22 _ _ _=> ?_
 refine aF fun x24 _ _ _=> ?_
 intro hF hM
 have hM0:=hM;clear hM;obtain ⟨x27,hx28,hM⟩:=aC hM0;clear hM0
 have hcx27:=cmU hx28
 refine ir hcx27 (f0 30 (T:=126) (n:=4) (g:=true) (z:=(some false)) (l:=([x14,x16,x18,x20,x22,x24]:List aa).map aw) (an hF)) (an hF) (fun hw29=> ?_)
 replace hw29:=nzQ hw29
 exact auP
set_option maxHeartbeats 2000000 in
set_option maxRecDepth 100000 in
instance QP (l:(List aa)):CM En (dq l) 102 [.sl none 4 true (l.map aw)] (fun y=> .agg [.int .i64 y.Kind,.int .i64 y.N,.sl none 1 false (y.B.map (V.int .u8)),.sl none 4 true (y.L.map aw)]) (fun _=> []):=by
 refine enQ noJ Tryz.func102 Tryz.ntmps102 (dq.eq_1 ..) fun r hw=> ?_
 exact auR
instance (priority:=1017):DRD 5 86 16 [24,25,26,27,28,29,30,31,32,33,34,35,36,37,38,39] [] ([[],[],[1],[1,2],[],[1,2,3,4],[1,2,3,4,5],[1,2,3,4,5,6],[],[8],[8,9],[],[8,9,10,11],[8,9,10,11,12],[8,9,10,11,12,13],[1,2,3,4,5,6,7,8,9,10,11,12,13,14]]++[List.range 16,List.range 17]) []:=⟨trivial⟩
set_option maxHeartbeats 2000000 in
set_option maxRecDepth 100000 in
theorem Lr (h_:ay) (hp0:oB h_):CM En (lw h_) 100 [(bD h_)] (fun y=> .agg [.int .i64 y.Kind,.int .i64 y.N,.sl none 1 false (y.B.map (V.int .u8)),.sl none 4 true (y.L.map aw)]) (fun _=> []):=by
 refine enQ noJ Tryz.func100 Tryz.ntmps100 (lw.eq_1 ..) fun r hw=> ?_
 have h0_0:=xJ hp0
 intro hF hM
 have hM0:=hM;clear hM;obtain ⟨f1,d1,hf1,hd1,hM⟩:=aH hM0;clear hM0
 refine bm (fun n S=> ∃p:Int×List Int,S=(⟨[(1,.ptr 0 0),(2,.ptr 1 0),(3,.own 2),(4,.int .i64 p.1)],[(0,.var 46 true ((bD h_))),(1,.var 4 true (.agg [.int .i64 0,.int .i64 0,.sl (some true) 1 false [],.sl (some true) 4 true []])),(2,.own 3 1 false none (p.2.map (V.int .i64)))],3⟩:St)∧((0≤p.1)∧(p.1≤(h_.Secret.X.length:Int))∧(((p.2).length:Int)=2+2*p.1))∧((h_.Secret.X.length:Int) - p.1).toNat<n∧ah n f1 d1 p=r) (((h_.Secret.X.length:Int) - 0).toNat+1) _ sbQ sbQ ⟨(0,([h_.Secret.U,h_.Secret.S]:List Int)),rfl,⟨omQ,omQ,omQ⟩,(Nat.lt_succ_self _),hM⟩ ?_
 clear hM
 rintro n1 S ⟨p1,rfl,hfa1,hm1,hM⟩
 have hM0:=hM;clear hM;obtain ⟨ag1,hag1,hM⟩:=aI hM0 (by omega) hf1;clear hM0
 replace hfa1:=nzQ hfa1
 replace hm1:=nzQ hm1
 have ha1:ak .i64 p1.1 1=p1.1+1:=aR omQ omQ
 replace hF:=(And.intro ha1 hF)
 revert hM;revert hF
 refine slQ ?_
 refine cdQ (fun _ _ _=> ?_) (fun _ _ _=> ?_)
 ·intro hF hM
  refine aO (n1 - 1) _ (by omega) sbQ sbQ ⟨((p1.1+1),(p1.2++([(gt (gt h_.Secret.X p1.1) 0),(gt (gt h_.Secret.X p1.1) 1)]:List Int))),rfl,⟨omQ,omQ,omQ⟩,omQ,aM hM hag1⟩
 ·intro hF hM
  have hM0:=hM;clear hM;obtain ⟨f6,d6,hf6,hd6,hM⟩:=aH hM0;clear hM0
  refine bN (fun n S=> ∃p:Int×List Int,S=(⟨[(1,.ptr 0 0),(2,.ptr 1 0),(3,.own 2),(5,.own 3),(6,.int .i64 p.1)],[(0,.var 46 true ((bD h_))),(1,.var 4 true (.agg [.int .i64 0,.int .i64 0,.sl (some true) 1 false [],.sl (some true) 4 true []])),(2,.own 3 1 false none (p1.2.map (V.int .i64))),(3,.own 3 1 false none (p.2.map (V.int .i64)))],4⟩:St)∧((0≤p.1)∧(p.1≤(h_.Spent.length:Int))∧(((p.2).length:Int)≤p.1))∧((h_.Spent.length:Int) - p.1).toNat<n∧ah n f6 d6 p=r) (((h_.Spent.length:Int) - 0).toNat+1) _ _ (dV 5 3 rfl (by decide)) sbQ sbQ ⟨(0,([]:List Int)),rfl,⟨omQ,omQ,omQ⟩,(Nat.lt_succ_self _),hM⟩ ?_
  clear hM
  rintro n6 S ⟨p6,rfl,hfa6,hm6,hM⟩
  have hM0:=hM;clear hM;obtain ⟨ag6,hag6,hM⟩:=aI hM0 (by omega) hf6;clear hM0
  replace hfa6:=nzQ hfa6
  replace hm6:=nzQ hm6
  have ha6:ak .i64 p6.1 1=p6.1+1:=aR omQ omQ
  replace hF:=(And.intro ha6 hF)
  revert hM;revert hF
  refine slQ ?_
  refine cdQ (fun _ _ _=> ?_) (fun _ _ _=> ?_)
  ·refine cdQ (fun _ _ _=> ?_) (fun _ _ _=> ?_)
   ·intro hF hM
    refine aO (n6 - 1) _ (by omega) sbQ sbQ ⟨((p6.1+1),(p6.2++([1]:List Int))),rfl,⟨omQ,omQ,omQ⟩,omQ,aM hM hag6⟩
   ·intro hF hM
    refine aO (n6 - 1) _ (by omega) sbQ sbQ ⟨((p6.1+1),(p6.2++([0]:List Int))),rfl,⟨omQ,omQ,omQ⟩,omQ,aM hM hag6⟩
  ·intro hF hM
   have hM0:=hM;clear hM;obtain ⟨f14,d14,hf14,hd14,hM⟩:=aH hM0;clear hM0
   refine bN (fun n S=> ∃p:Int×List aa,S=(⟨[(1,.ptr 0 0),(2,.ptr 1 0),(3,.own 2),(5,.own 3),(7,.own 4),(8,.int .i64 p.1)],[(0,.var 46 true ((bD h_))),(1,.var 4 true (.agg [.int .i64 0,.int .i64 0,.sl (some true) 1 false [],.sl (some true) 4 true []])),(2,.own 3 1 false none (p1.2.map (V.int .i64))),(3,.own 3 1 false none (p6.2.map (V.int .i64))),(4,.own 126 4 true none (p.2.map aw))],5⟩:St)∧((0≤p.1)∧(p.1≤(h_.Chain.length:Int))∧(((p.2).length:Int)≤p.1))∧((h_.Chain.length:Int) - p.1).toNat<n∧ah n f14 d14 p=r) (((h_.Chain.length:Int) - 0).toNat+1) _ _ (dV 7 126 rfl (by decide)) sbQ sbQ ⟨(0,([]:List aa)),rfl,⟨omQ,omQ,omQ⟩,(Nat.lt_succ_self _),hM⟩ ?_
   clear hM
   rintro n14 S ⟨p14,rfl,hfa14,hm14,hM⟩
   have hM0:=hM;clear hM;obtain ⟨ag14,hag14,hM⟩:=aI hM0 (by omega) hf14;clear hM0
   replace hfa14:=nzQ hfa14
   replace hm14:=nzQ hm14
   have ha14:ak .i64 p14.1 1=p14.1+1:=aR omQ omQ
   replace hF:=(And.intro ha14 hF)
   revert hM;revert hF
   refine slQ ?_
   refine cdQ (fun _ _ _=> ?_) (fun _ _ _=> ?_)
   ·intro hF hM
    have hM0:=hM;clear hM;obtain ⟨x18,hx19,hM⟩:=aC hM0;clear hM0
    have hcx18:=cmH hx19 (Lq (gt h_.Chain p14.1) (by (exact Cs (hp0.2.2.2 _ (cm (by omega))))))
    refine bl hcx18 (an hF) (an hF) (fun hw20=> ?_)
    replace hw20:=nzQ hw20
    revert hM;revert hF
    refine slQ ?_
    intro hF hM
    refine aO (n14 - 1) _ (by omega) sbQ sbQ ⟨((p14.1+1),(p14.2++([x18]:List aa))),rfl,⟨omQ,omQ,omQ⟩,omQ,aM hM hag14⟩
   ·refine aF fun x22 _ _ _=> ?_
    intro hF hM
    have hM0:=hM;clear hM;obtain ⟨x25,hx26,hM⟩:=aC hM0;clear hM0
    have hcx25:=cmU hx26
    refine ir hcx25 (f0 2 (T:=3) (n:=1) (g:=false) (z:=none) (l:=p1.2.map (V.int .i64)) (an hF)) (an hF) (fun hw27=> ?_)
    replace hw27:=nzQ hw27
    revert hM;revert hF
    refine slQ ?_
    intro hF hM
    have hM0:=hM;clear hM;obtain ⟨x28,hx29,hM⟩:=aC hM0;clear hM0
    have hcx28:=cmU hx29
    refine ir hcx28 (f0 3 (T:=3) (n:=1) (g:=false) (z:=none) (l:=p6.2.map (V.int .i64)) (an hF)) (an hF) (fun hw30=> ?_)
    replace hw30:=nzQ hw30
    revert hM;revert hF
    refine slQ ?_
    intro hF hM
    have hM0:=hM;clear hM;obtain ⟨x31,hx32,hM⟩:=aC hM0;clear hM0
    have hcx31:=cmU hx32
    refine ir hcx31 (f0 4 (T:=126) (n:=4) (g:=true) (z:=none) (l:=p14.2.map aw) (an hF)) (an hF) (fun hw33=> ?_)
    replace hw33:=nzQ hw33
    revert hM;revert hF
    refine slQ ?_
    intro hF hM
    have hM0:=hM;clear hM;obtain ⟨x34,hx35,hM⟩:=aC hM0;clear hM0
    have hcx34:=cmU hx35
    refine ir hcx34 (f0 5 (T:=126) (n:=4) (g:=true) (z:=(some false)) (l:=([x22,x25,x28,x31]:List aa).map aw) (an hF)) (an hF) (fun hw36=> ?_)
    replace hw36:=nzQ hw36
    exact auP
instance (priority:=1018):DRD 5 23 8 [12,13,14,15,16,17,18,19] [] ([[],[0],[],[],[2,3],[2,3,4],[2,3,4,5],[2,3,4,5,6]]++[List.range 8,List.range 9,List.range 10]) []:=⟨trivial⟩
set_option maxHeartbeats 2000000 in
set_option maxRecDepth 100000 in
instance QQ (l:(List Int)):CM En (lx l) 165 [.sl none 1 false (l.map (V.int .i64))] (fun y=> .agg [.int .i64 y.Kind,.int .i64 y.N,.sl none 1 false (y.B.map (V.int .u8)),.sl none 4 true (y.L.map aw)]) (fun _=> []):=by
 refine enQ noJ Tryz.func165 Tryz.ntmps165 (lx.eq_1 ..) fun r hw=> ?_
 intro hF hM
 have hM0:=hM;clear hM;obtain ⟨f1,d1,hf1,hd1,hM⟩:=aH hM0;clear hM0
 refine bN (fun n S=> ∃p:Int×List aa,S=(⟨[(0,.sl none 1 false (l.map (V.int .i64))),(2,.ptr 0 0),(3,.ptr 1 0),(4,.int .i64 p.1)],[(0,.var 4 true (.agg [.int .i64 0,.int .i64 0,.sl (some true) 1 false [],.sl (some true) 4 true []])),(1,.var 4 true (.agg [.int .i64 3,.int .i64 0,.sl (some true) 1 false [],.own 2])),(2,.own 126 4 true none (p.2.map aw))],3⟩:St)∧((0≤p.1)∧(p.1≤(l.length:Int))∧(((p.2).length:Int)≤p.1))∧((l.length:Int) - p.1).toNat<n∧ah n f1 d1 p=r) (((l.length:Int) - 0).toNat+1) _ _ (dm 1 3 126 rfl rfl (by decide)) sbQ sbQ ⟨(0,([]:List aa)),rfl,⟨omQ,omQ,omQ⟩,(Nat.lt_succ_self _),hM⟩ ?_
 clear hM
 rintro n1 S ⟨p1,rfl,hfa1,hm1,hM⟩
 have hM0:=hM;clear hM;obtain ⟨ag1,hag1,hM⟩:=aI hM0 (by omega) hf1;clear hM0
 replace hfa1:=nzQ hfa1
 replace hm1:=nzQ hm1
 have ha1:ak .i64 p1.1 1=p1.1+1:=aR omQ omQ
 replace hF:=(And.intro ha1 hF)
 revert hM;revert hF
 refine slQ ?_
 refine ax fun _ _ _=> ?_
 intro hF hM
 refine aO (n1 - 1) _ (by omega) sbQ sbQ ⟨((p1.1+1),(p1.2++([({Kind:=1,N:=(gt l p1.1),B:=([]:List Int),L:=([]:List aa)}:aa)]:List aa))),rfl,⟨omQ,omQ,omQ⟩,omQ,aM hM hag1⟩
instance (priority:=1019):DRD 5 89 16 [20,21,22,23,24,25,26,27,28,29,30,31,32,33,34,35] [] ([[],[],[1],[1,2],[],[1,2,3,4],[1,2,3,4,5],[1,2,3,4,5,6],[],[8],[8,9],[],[8,9,10,11],[8,9,10,11,12],[8,9,10,11,12,13],[1,2,3,4,5,6,7,8,9,10,11,12,13,14]]++[List.range 16,List.range 17]) []:=⟨trivial⟩
instance (priority:=1020):DRD 6 89 49 [37,38,39,40,41,42,43,44,45,46,47,48,49,50,51,52,53,54,55,56,57,58,59,60,61,62,63,64,65,66,67,68,69,70,71,72,73,74,75,76,77,78,79,80,81,82,83,84,85] [] ([[],[0],[],[2],[],[4],[],[6],[],[8],[],[10],[0,1,2,3,4,5,6,7,8,9,10,11],[0,1,2,3,4,5,6,7,8,9,10,11,12],[],[0,1,2,3,4,5,6,7,8,9,10,11,12,13,14],[],[16],[16,17],[],[19],[19,20],[],[22],[22,23],[16,17,18,19,20,21,22,23,24],[0,1,2,3,4,5,6,7,8,9,10,11,12,13,14,15,16,17,18,19,20,21,22,23,24,25],[],[27],[27,28],[],[30],[30,31],[],[33],[33,34],[],[36],[36,37],[],[39],[39,40],[],[42],[42,43],[27,28,29,30,31,32,33,34,35,36,37,38,39,40,41,42,43,44],[0,1,2,3,4,5,6,7,8,9,10,11,12,13,14,15,16,17,18,19,20,21,22,23,24,25,26,27,28,29,30,31,32,33,34,35,36,37,38,39,40,41,42,43,44,45],[],[47]]++[List.range 49,List.range 50,List.range 51,List.range 52]) [(12,15),(25,28),(45,48)]:=⟨trivial⟩
set_option maxHeartbeats 2000000 in
set_option maxRecDepth 100000 in
theorem Ls (w:aL) (hp0:w.Secret.X.length≤1000):CM En (ly w) 101 [(bU w)] (fun y=> .agg [.int .i64 y.Kind,.int .i64 y.N,.sl none 1 false (y.B.map (V.int .u8)),.sl none 4 true (y.L.map aw)]) (fun _=> []):=by
 refine enQ [6] Tryz.func101 Tryz.ntmps101 (ly.eq_1 ..) fun r hw=> ?_
 intro hF hM
 refine jN ?_
 revert hM;revert hF
 refine slQ ?_
 intro hF hM
 have hM0:=hM;clear hM;obtain ⟨f1,d1,hf1,hd1,hM⟩:=aH hM0;clear hM0
 refine bm (fun n S=> ∃p:Int×List Int,S=(⟨[(1,.ptr 0 0),(2,.ptr 1 0),(3,.own 2),(4,.int .i64 p.1)],[(0,.var 59 true ((bU w))),(1,.var 4 true (.agg [.int .i64 0,.int .i64 0,.sl (some true) 1 false [],.sl (some true) 4 true []])),(2,.own 3 1 false none (p.2.map (V.int .i64)))],3⟩:St)∧((0≤p.1)∧(p.1≤(w.Secret.X.length:Int))∧(((p.2).length:Int)=2+2*p.1))∧((w.Secret.X.length:Int) - p.1).toNat<n∧ah n f1 d1 p=r) (((w.Secret.X.length:Int) - 0).toNat+1) _ sbQ sbQ ⟨(0,([w.Secret.U,w.Secret.S]:List Int)),rfl,⟨omQ,omQ,omQ⟩,(Nat.lt_succ_self _),hM⟩ ?_
 clear hM
 rintro n1 S ⟨p1,rfl,hfa1,hm1,hM⟩
 have hM0:=hM;clear hM;obtain ⟨ag1,hag1,hM⟩:=aI hM0 (by omega) hf1;clear hM0
 replace hfa1:=nzQ hfa1
 replace hm1:=nzQ hm1
 have ha1:ak .i64 p1.1 1=p1.1+1:=aR omQ omQ
 replace hF:=(And.intro ha1 hF)
 revert hM;revert hF
 refine slQ ?_
 refine cdQ (fun _ _ _=> ?_) (fun _ _ _=> ?_)
 ·intro hF hM
  refine aO (n1 - 1) _ (by omega) sbQ sbQ ⟨((p1.1+1),(p1.2++([(gt (gt w.Secret.X p1.1) 0),(gt (gt w.Secret.X p1.1) 1)]:List Int))),rfl,⟨omQ,omQ,omQ⟩,omQ,aM hM hag1⟩
 ·intro hF hM
  refine jO _ (⟨[(1,.ptr 0 0),(2,.ptr 1 0),(3,.sl none 1 false (p1.2.map (V.int .i64)))],[(0,.var 59 true ((bU w))),(1,.var 4 true (.agg [.int .i64 0,.int .i64 0,.sl (some true) 1 false [],.sl (some true) 4 true []])),(2,.pown 1 false none (p1.2.map (V.int .i64)))],3⟩:St) ((gE (S:=⟨_,_,_⟩) 2 (T:=3) (n:=1) (g:=false) (z:=none) (l:=p1.2.map (V.int .i64)) (an hF)).trans (iq (S:=⟨_,_,_⟩) 3 2 (n:=1) (g:=false) (z:=none) (l:=p1.2.map (V.int .i64)) (an hF) (an hF))) sbQ sbQ ?_
  exact auP
instance (priority:=1021):DRD 10 67 11 [7,40,41,42,43,44,45,46,47,48,49] [] ([[],[0],[0,1],[0,1,2],[],[4],[4,5],[4,5,6],[0,1,2,3,4,5,6,7],[0,1,2,3,4,5,6,7,8],[]]++[List.range 11]) [(8,12)]:=⟨trivial⟩
instance (priority:=1022):DRD 11 67 15 [50,51,52,53,54,55,56,57,58,59,60,61,62,63,64] [] ([[],[0],[],[2],[],[4],[],[6],[0,1,2,3,4,5,6,7],[0,1,2,3,4,5,6,7,8],[],[10],[],[12],[]]++[List.range 15,List.range 16,List.range 17]) [(8,23)]:=⟨trivial⟩
set_option maxHeartbeats 2000000 in
set_option maxRecDepth 100000 in
theorem Lt (p_:av) (hp0:kj p_):CM En (oo p_) 46 [(bL p_)] (fun y=> .agg [.int .i64 y.Kind,.int .i64 y.N,.sl none 1 false (y.B.map (V.int .u8)),.sl none 4 true (y.L.map aw)]) (fun _=> []):=by
 refine enQ [11] Tryz.func46 Tryz.ntmps46 (oo.eq_1 ..) fun r hw=> ?_
 have h0_0:=CD hp0
 intro hF hM
 have hM0:=hM;clear hM;obtain ⟨f1,d1,hf1,hd1,hM⟩:=aH hM0;clear hM0
 refine bN (fun n S=> ∃p:Int×List aa,S=(⟨[(1,.ptr 0 0),(2,.ptr 1 0),(3,.own 2),(4,.sl (some true) 4 true []),(5,.int .i64 p.1)],[(0,.var 39 true ((bL p_))),(1,.var 4 true (.agg [.int .i64 0,.int .i64 0,.sl (some true) 1 false [],.sl (some true) 4 true []])),(2,.own 126 4 true none (p.2.map aw))],3⟩:St)∧((0≤p.1)∧(p.1≤(p_.Holdings.length:Int))∧(((p.2).length:Int)≤p.1))∧((p_.Holdings.length:Int) - p.1).toNat<n∧ah n f1 d1 p=r) (((p_.Holdings.length:Int) - 0).toNat+1) _ _ (dV 3 126 rfl (by decide)) sbQ sbQ ⟨(0,([]:List aa)),rfl,⟨omQ,omQ,omQ⟩,(Nat.lt_succ_self _),hM⟩ ?_
 clear hM
 rintro n1 S ⟨p1,rfl,hfa1,hm1,hM⟩
 have hM0:=hM;clear hM;obtain ⟨ag1,hag1,hM⟩:=aI hM0 (by omega) hf1;clear hM0
 replace hfa1:=nzQ hfa1
 replace hm1:=nzQ hm1
 have ha1:ak .i64 p1.1 1=p1.1+1:=aR omQ omQ
 replace hF:=(And.intro ha1 hF)
 revert hM;revert hF
 refine slQ ?_
 refine cdQ (fun _ _ _=> ?_) (fun _ _ _=> ?_)
 ·intro hF hM
  have hM0:=hM;clear hM;obtain ⟨x5,hx6,hM⟩:=aC hM0;clear hM0
  have hcx5:=cmH hx6 (Lr (gt p_.Holdings p1.1) (by (exact hp0.2.1 _ (cm (by omega)))))
  refine bl hcx5 (an hF) (an hF) (fun hw7=> ?_)
  replace hw7:=nzQ hw7
  revert hM;revert hF
  refine slQ ?_
  intro hF hM
  refine aO (n1 - 1) _ (by omega) sbQ sbQ ⟨((p1.1+1),(p1.2++([x5]:List aa))),rfl,⟨omQ,omQ,omQ⟩,omQ,aM hM hag1⟩
 ·intro hF hM
  have hM0:=hM;clear hM;obtain ⟨f9,d9,hf9,hd9,hM⟩:=aH hM0;clear hM0
  refine bN (fun n S=> ∃p:Int×List aa,S=(⟨[(1,.ptr 0 0),(2,.ptr 1 0),(3,.own 2),(4,.own 3),(6,.int .i64 p.1)],[(0,.var 39 true ((bL p_))),(1,.var 4 true (.agg [.int .i64 0,.int .i64 0,.sl (some true) 1 false [],.sl (some true) 4 true []])),(2,.own 126 4 true none (p1.2.map aw)),(3,.own 126 4 true none (p.2.map aw))],4⟩:St)∧((0≤p.1)∧(p.1≤(p_.Open.length:Int))∧(((p.2).length:Int)≤p.1))∧((p_.Open.length:Int) - p.1).toNat<n∧ah n f9 d9 p=r) (((p_.Open.length:Int) - 0).toNat+1) _ _ (dV 4 126 rfl (by decide)) sbQ sbQ ⟨(0,([]:List aa)),rfl,⟨omQ,omQ,omQ⟩,(Nat.lt_succ_self _),hM⟩ ?_
  clear hM
  rintro n9 S ⟨p9,rfl,hfa9,hm9,hM⟩
  have hM0:=hM;clear hM;obtain ⟨ag9,hag9,hM⟩:=aI hM0 (by omega) hf9;clear hM0
  replace hfa9:=nzQ hfa9
  replace hm9:=nzQ hm9
  have ha9:ak .i64 p9.1 1=p9.1+1:=aR omQ omQ
  replace hF:=(And.intro ha9 hF)
  revert hM;revert hF
  refine slQ ?_
  refine cdQ (fun _ _ _=> ?_) (fun _ _ _=> ?_)
  ·intro hF hM
   have hM0:=hM;clear hM;obtain ⟨x13,hx14,hM⟩:=aC hM0;clear hM0
   have hcx13:=cmH hx14 (Ls (gt p_.Open p9.1) (by (exact Nat.le_trans (hp0.2.2.2 _ (cm (by omega))) (by decide))))
   refine bl hcx13 (an hF) (an hF) (fun hw15=> ?_)
   replace hw15:=nzQ hw15
   revert hM;revert hF
   refine slQ ?_
   intro hF hM
   refine aO (n9 - 1) _ (by omega) sbQ sbQ ⟨((p9.1+1),(p9.2++([x13]:List aa))),rfl,⟨omQ,omQ,omQ⟩,omQ,aM hM hag9⟩
  ·intro hF hM
   refine jN ?_
   revert hM;revert hF
   refine slQ ?_
   refine aF fun _ _ _ _=> ?_
   refine aF fun x19 _ _ _=> ?_
   intro hF hM
   refine jO _ (⟨[(1,.ptr 0 0),(2,.ptr 1 0),(3,.sl none 4 true (p1.2.map aw)),(4,.sl none 4 true (p9.2.map aw)),(7,.ptr 14 0)],[(0,.var 39 true ((bL p_))),(1,.var 4 true (.agg [.int .i64 0,.int .i64 0,.sl (some true) 1 false [],.sl (some true) 4 true []])),(2,.pown 4 true none (p1.2.map aw)),(3,.pown 4 true none (p9.2.map aw)),(14,.var 4 true (.agg [.int .i64 x19.Kind,.int .i64 x19.N,.sl none 1 false (x19.B.map (V.int .u8)),.sl none 4 true (x19.L.map aw)]))],15⟩:St) ((((gE (S:=⟨_,_,_⟩) 2 (T:=126) (n:=4) (g:=true) (z:=none) (l:=p1.2.map aw) (an hF)).trans (iq (S:=⟨_,_,_⟩) 3 2 (n:=4) (g:=true) (z:=none) (l:=p1.2.map aw) (an hF) (an hF))).trans (gE (S:=⟨_,_,_⟩) 3 (T:=126) (n:=4) (g:=true) (z:=none) (l:=p9.2.map aw) (an hF))).trans (iq (S:=⟨_,_,_⟩) 4 3 (n:=4) (g:=true) (z:=none) (l:=p9.2.map aw) (an hF) (an hF))) sbQ sbQ ?_
   revert hM;revert hF
   refine slQ ?_
   refine aF fun x21 _ _ _=> ?_
   refine aF fun x23 _ _ _=> ?_
   refine aF fun x25 _ _ _=> ?_
   intro hF hM
   have hM0:=hM;clear hM;obtain ⟨x27,hx28,hM⟩:=aC hM0;clear hM0
   have hcx27:=cmU hx28
   refine ir hcx27 (f0 30 (T:=126) (n:=4) (g:=true) (z:=(some false)) (l:=([x21,x23,x25,x19]:List aa).map aw) (an hF)) (an hF) (fun hw29=> ?_)
   replace hw29:=nzQ hw29
   exact auP
set_option maxHeartbeats 2000000 in
set_option maxRecDepth 100000 in
theorem Lu (N:Nat) (ih: ∀(i_:aa) (within:Int),(0≤within)→(within≤8)→hgt i_<N→a8 En 105 [.agg [.int .i64 i_.Kind,.int .i64 i_.N,.sl none 1 false (i_.B.map (V.int .u8)),.sl none 4 true (i_.L.map aw)],.int .i64 within] (.bool (j4 i_ within)) []) (i_:aa) (within:Int) (hp0:0≤within) (hp1:within≤8) (hp_:hgt i_<N+1):a8 En 105 [.agg [.int .i64 i_.Kind,.int .i64 i_.N,.sl none 1 false (i_.B.map (V.int .u8)),.sl none 4 true (i_.L.map aw)],.int .i64 within] (.bool (ql i_ within)) []:=by
 generalize hM:ql i_ within=r
 rw [ql.eq_1] at hM
 refine ef bn cJ noJ Tryz.func105 rfl Tryz.ntmps105 (by kernel_rfl) fun hw=>cO ?_
 refine spQ ?_
 replace hw:=nzQ hw
 have hF:=gI
 revert hM;revert hF
 refine aJ fun _ _ _=> ?_
 refine aJ fun _ _ _=> ?_
 refine ax fun _ _ _=> ?_
 refine ax fun _ _ _=> ?_
 refine ax fun _ _ _=> ?_
 refine ax fun _ _ _=> ?_
 refine aJ fun _ _ _=> ?_
 intro hF hM
 have hM0:=hM;clear hM;obtain ⟨f24,d24,hf24,hd24,hM⟩:=aH hM0;clear hM0
 refine bm (fun n S=> ∃p:Int,S=(⟨[(1,.int .i64 within),(2,.ptr 0 0),(5,.int .i64 p)],[(0,.var 4 true (.agg [.int .i64 i_.Kind,.int .i64 i_.N,.sl none 1 false (i_.B.map (V.int .u8)),.sl none 4 true (i_.L.map aw)]))],1⟩:St)∧((0≤p)∧(p≤(i_.L.length:Int)))∧((i_.L.length:Int) - p).toNat<n∧ah n f24 d24 p=r) (((i_.L.length:Int) - 0).toNat+1) _ sbQ sbQ ⟨0,rfl,⟨omQ,omQ⟩,(Nat.lt_succ_self _),hM⟩ ?_
 clear hM
 rintro n24 S ⟨p24,rfl,hfa24,hm24,hM⟩
 have hM0:=hM;clear hM;obtain ⟨ag24,hag24,hM⟩:=aI hM0 (by omega) hf24;clear hM0
 replace hfa24:=nzQ hfa24
 replace hm24:=nzQ hm24
 have ha24:ak .i64 p24 1=p24+1:=aR omQ omQ
 replace hF:=(And.intro ha24 hF)
 revert hM;revert hF
 refine slQ ?_
 refine ax fun _ _ _=> ?_
 have ha28:ak .i64 within 1=(within+1):=eY ap ap
 intro hF hM
 try simp only [ha28]
 have hM0:=hM;clear hM;obtain ⟨x29,hx30,hM⟩:=aC hM0;clear hM0
 have hcx29:=ih (gt i_.L p24) (within+1) (by (have h9:=gd (i:=i_) (cm (l:=i_.L) (i:=p24) (by omega));first|exact h9|omega)) (by (have h9:=gd (i:=i_) (cm (l:=i_.L) (i:=p24) (by omega));first|exact h9|omega)) (by (have h9:=gd (i:=i_) (cm (l:=i_.L) (i:=p24) (by omega));first|exact h9|omega))
 rw [←hx30] at hcx29
 replace hF:=(And.intro ha28 hF)
 refine bl hcx29 (an hF) (an hF) (fun hw31=> ?_)
 replace hw31:=nzQ hw31
 revert hM;revert hF
 refine slQ ?_
 refine aJ fun _ _ _=> ?_
 intro hF hM
 refine aO (n24 - 1) _ (by omega) sbQ sbQ ⟨(p24+1),rfl,⟨omQ,omQ⟩,omQ,aM hM hag24⟩
theorem Lv: ∀(N:Nat) (i_:aa) (within:Int),(0≤within)→(within≤8)→hgt i_<N→a8 En 105 [.agg [.int .i64 i_.Kind,.int .i64 i_.N,.sl none 1 false (i_.B.map (V.int .u8)),.sl none 4 true (i_.L.map aw)],.int .i64 within] (.bool (j4 i_ within)) []:=by
 intro N
 induction N with
 | zero=>intro i_ within h0 h1 h;exact absurd h (Nat.not_lt_zero _)
 | succ N ih=>
  intro i_ within h0 h1 h
  have h9:=Lu N ih i_ within h0 h1 h
  rw [Kj h0 h1] at h9
  exact h9
theorem Lw (i_:aa) (within:Int) (hp0:0≤within) (hp1:within≤8):a8 En 105 [.agg [.int .i64 i_.Kind,.int .i64 i_.N,.sl none 1 false (i_.B.map (V.int .u8)),.sl none 4 true (i_.L.map aw)],.int .i64 within] (.bool (j4 i_ within)) []:=
 Lv (hgt i_+1) i_ within hp0 hp1 (Nat.lt_succ_self _)
set_option maxHeartbeats 2000000 in
set_option maxRecDepth 100000 in
instance QR (i_:aa):CM En (mL i_) 47 [.agg [.int .i64 i_.Kind,.int .i64 i_.N,.sl none 1 false (i_.B.map (V.int .u8)),.sl none 4 true (i_.L.map aw)]] (fun y=> .bool y) (fun _=> []):=by
 refine enQ noJ Tryz.func47 Tryz.ntmps47 (mL.eq_1 ..) fun r hw=> ?_
 intro hF hM
 have hM0:=hM;clear hM;obtain ⟨x1,hx2,hM⟩:=aC hM0;clear hM0
 have hcx1:=Lw i_ 0 (by (first|decide|omega)) (by (first|decide|omega))
 rw [←hx2] at hcx1
 refine bl hcx1 clQ clQ (fun hw3=> ?_)
 replace hw3:=nzQ hw3
 exact auP
set_option maxHeartbeats 2000000 in
set_option maxRecDepth 100000 in
theorem xT (n_:Int) (size:Int) (hp0:0≤size) (hp1:size≤8):CM En (lz n_ size) 106 [.int .u64 n_,.int .i64 size] (fun y=> .sl none 1 false (y.map (V.int .u8))) (fun _=> []):=by
 refine enQ noJ Tryz.func106 Tryz.ntmps106 (lz.eq_1 ..) fun r hw=> ?_
 refine slQ ?_
 have ha1:az .i64 size 1=(size - 1):=cE ap ap
 intro hF hM
 try simp only [ha1]
 have hM0:=hM;clear hM;obtain ⟨f2,d2,hf2,hd2,hM⟩:=aH hM0;clear hM0
 refine bm (fun n S=> ∃p:Int×Int×List Int,S=(⟨[(0,.int .u64 p.1),(5,.own 0),(6,.int .i64 p.2.1)],[(0,.own 5 1 false none (p.2.2.map (V.int .u8)))],1⟩:St)∧((-1≤p.2.1)∧(p.2.1<size)∧(((p.2.2).length:Int)=size))∧(p.2.1+1).toNat<n∧ah n f2 d2 p=r) (((size - 1)+1).toNat+1) _ sbQ sbQ ⟨(n_,(size - 1),(rep size.toNat (0:Int))),rfl,⟨omQ,omQ,omQ⟩,(Nat.lt_succ_self _),hM⟩ ?_
 clear hM
 rintro n2 S ⟨p2,rfl,hfa2,hm2,hM⟩
 have hM0:=hM;clear hM;obtain ⟨ag2,hag2,hM⟩:=aI hM0 (by omega) hf2;clear hM0
 replace hfa2:=nzQ hfa2
 replace hm2:=nzQ hm2
 replace hF:=(And.intro ha1 hF)
 revert hM;revert hF
 refine slQ ?_
 refine ax fun _ _ _=> ?_
 have ha6:az .i64 p2.2.1 1=(p2.2.1 - 1):=cE ap ap
 intro hF hM
 try simp only [ha6]
 refine aO (n2 - 1) _ (by omega) sbQ sbQ ⟨((cc .u64 p2.1 256),(p2.2.1 - 1),(st p2.2.2 p2.2.1 (ae .u8 (bJ .u64 p2.1 256)))),rfl,⟨omQ,omQ,omQ⟩,omQ,aM hM hag2⟩
instance (priority:=1023):DRD 5 50 9 [17,18,19,20,21,22,23,24,25] [] ([[],[],[1],[1,2],[1,2,3],[1,2,3,4],[0,1,2,3,4,5],[],[7]]++[List.range 9,List.range 10]) [(6,1)]:=⟨trivial⟩
set_option maxHeartbeats 2000000 in
set_option maxRecDepth 100000 in
theorem Lx (N:Nat) (ih: ∀(i_:aa),(hgt i_≤50000000)→hgt i_<N→a8 En 48 [.agg [.int .i64 i_.Kind,.int .i64 i_.N,.sl none 1 false (i_.B.map (V.int .u8)),.sl none 4 true (i_.L.map aw)]] (.sl none 1 false ((bz i_).map (V.int .u8))) []) (i_:aa) (hp0:hgt i_≤50000000) (hp_:hgt i_<N+1):a8 En 48 [.agg [.int .i64 i_.Kind,.int .i64 i_.N,.sl none 1 false (i_.B.map (V.int .u8)),.sl none 4 true (i_.L.map aw)]] (.sl none 1 false ((qm i_).map (V.int .u8))) []:=by
 generalize hM:qm i_=r
 rw [qm.eq_1] at hM
 refine ef bn cJ noJ Tryz.func48 rfl Tryz.ntmps48 (by kernel_rfl) fun hw=>cO ?_
 refine spQ ?_
 replace hw:=nzQ hw
 have hG0:=oc i_
 have hF:=gI
 revert hM;revert hF
 refine cdQ (fun _ _ _=> ?_) (fun _ _ _=> ?_)
 ·intro hF hM
  have hM0:=hM;clear hM;obtain ⟨x3,hx4,hM⟩:=aC hM0;clear hM0
  have hcx3:=cmH hx4 (xT (ae .u64 i_.N) 8 (by (exact pfQ)) (by (exact pfQ)))
  refine bl hcx3 clQ clQ (fun hw5=> ?_)
  replace hw5:=nzQ hw5
  revert hM;revert hF
  refine slQ ?_
  have hq6:=rnl hx4 (by decide)
  replace hq6:=nzQ hq6
  exact auR
 ·refine cdQ (fun _ _ _=> ?_) (fun _ _ _=> ?_)
  ·intro hF hM
   have hM0:=hM;clear hM;obtain ⟨x10,hx11,hM⟩:=aC hM0;clear hM0
   have hcx10:=cmH hx11 (xT (ae .u64 (i_.B.length:Int)) 4 (by (exact pfQ)) (by (exact pfQ)))
   refine c_ hcx10 clQ clQ ?_
   revert hM;revert hF
   refine slQ ?_
   have hq12:=rnl hx11 (by decide)
   replace hq12:=nzQ hq12
   exact auR
  ·intro hF hM
   have hM0:=hM;clear hM;obtain ⟨x14,hx15,hM⟩:=aC hM0;clear hM0
   have hcx14:=cmH hx15 (xT (ae .u64 (i_.L.length:Int)) 4 (by (exact pfQ)) (by (exact pfQ)))
   refine bl hcx14 clQ clQ (fun hw16=> ?_)
   replace hw16:=nzQ hw16
   revert hM;revert hF
   refine slQ ?_
   have hq17:=rnl hx15 (by decide)
   replace hq17:=nzQ hq17
   refine slQ ?_
   intro hF hM
   have hM0:=hM;clear hM;obtain ⟨f18,d18,hf18,hd18,hM⟩:=aH hM0;clear hM0
   refine bm (fun n S=> ∃p:Int×List Int,S=(⟨[(1,.ptr 0 0),(3,.own 1),(4,.int .i64 p.1)],[(0,.var 4 true (.agg [.int .i64 i_.Kind,.int .i64 i_.N,.sl none 1 false (i_.B.map (V.int .u8)),.sl none 4 true (i_.L.map aw)])),(1,.own 5 1 false none (p.2.map (V.int .u8)))],2⟩:St)∧(((0≤p.1)∧(p.1≤(i_.L.length:Int)))∧(((p.2).length:Int)+9*(bC (i_.L.drop (p.1).toNat):Int)≤9*(hgt i_:Int)))∧((i_.L.length:Int) - p.1).toNat<n∧ah n f18 d18 p=r) (((i_.L.length:Int) - 0).toNat+1) _ sbQ sbQ ⟨(0,(([3]:List Int)++x14)),rfl,⟨⟨by (first|exact omQ|(clear hM;first|(have h9:=oc i_;exact ap)|(have h9:=gd (i:=i_) (cm (l:=i_.L) (i:=p18.1) (by omega));exact ap))),by (first|exact omQ|(clear hM;first|(have h9:=oc i_;exact ap)|(have h9:=gd (i:=i_) (cm (l:=i_.L) (i:=p18.1) (by omega));exact ap)))⟩,by (have h9:=oc i_;simp only [Int.toNat_zero,List.drop_zero,List.length_append,List.length_cons,List.length_nil];omega)⟩,(Nat.lt_succ_self _),hM⟩ ?_
   clear hM
   rintro n18 S ⟨p18,rfl,⟨hfa18,hF8_0⟩,hm18,hM⟩
   have hA0:=fun a0=>gd (i:=i_) (cm (l:=i_.L) (i:=p18.1) a0)
   have hA1:=fun a0=>gd (i:=i_) (cm (l:=i_.L) (i:=(p18.1+1)) a0)
   have hM0:=hM;clear hM;obtain ⟨ag18,hag18,hM⟩:=aI hM0 (by omega) hf18;clear hM0
   replace hfa18:=nzQ hfa18
   replace hm18:=nzQ hm18
   have ha18:ak .i64 p18.1 1=p18.1+1:=aR (by exact omA) (by exact omA)
   replace hF:=(And.intro ha18 hF)
   revert hM;revert hF
   refine slQ ?_
   refine ax fun _ _ _=> ?_
   intro hF hM
   have hM0:=hM;clear hM;obtain ⟨x22,hx23,hM⟩:=aC hM0;clear hM0
   have hcx22:=ih (gt i_.L p18.1) (by (have h9:=gd (i:=i_) (cm (l:=i_.L) (i:=p18.1) (by omega));omega)) (by (have h9:=gd (i:=i_) (cm (l:=i_.L) (i:=p18.1) (by omega));omega))
   rw [←hx23] at hcx22
   refine bl hcx22 (an hF) (an hF) (fun hw24=> ?_)
   replace hw24:=nzQ hw24
   revert hM;revert hF
   refine slQ ?_
   have hq25:=Kk hx23
   replace hq25:=nzQ hq25
   refine slQ ?_
   intro hF hM
   refine aO (n18 - 1) _ (by omega) sbQ sbQ ⟨((p18.1+1),(p18.2++x22)),rfl,⟨⟨by exact omA,by exact omA⟩,by (have h9:=Kl (l:=i_.L) (i:=p18.1) (by omega);rw [show (((p18.1+1)):Int).toNat=(p18.1).toNat+1 by omega];simp only [List.length_append];omega)⟩,by exact omA,aM hM hag18⟩
theorem Ly: ∀(N:Nat) (i_:aa),(hgt i_≤50000000)→hgt i_<N→a8 En 48 [.agg [.int .i64 i_.Kind,.int .i64 i_.N,.sl none 1 false (i_.B.map (V.int .u8)),.sl none 4 true (i_.L.map aw)]] (.sl none 1 false ((bz i_).map (V.int .u8))) []:=by
 intro N
 induction N with
 | zero=>intro i_ h0 h;exact absurd h (Nat.not_lt_zero _)
 | succ N ih=>
  intro i_ h0 h
  have h9:=Lx N ih i_ h0 h
  rw [Ki] at h9
  exact h9
theorem Lz (i_:aa) (hp0:hgt i_≤50000000):a8 En 48 [.agg [.int .i64 i_.Kind,.int .i64 i_.N,.sl none 1 false (i_.B.map (V.int .u8)),.sl none 4 true (i_.L.map aw)]] (.sl none 1 false ((bz i_).map (V.int .u8))) []:=
 Ly (hgt i_+1) i_ hp0 (Nat.lt_succ_self _)
set_option maxHeartbeats 2000000 in
set_option maxRecDepth 100000 in
theorem LA (p_:av) (hp0:kj p_):CM En (qn p_) 13 [(bL p_)] (fun y=> .tup [.sl none 1 false (y.1.map (V.int .u8)),.bool y.2]) (fun _=> []):=by
 refine enQ noJ Tryz.func13 Tryz.ntmps13 (qn.eq_1 ..) fun r hw=> ?_
 intro hF hM
 have hM0:=hM;clear hM;obtain ⟨x1,hx2,hM⟩:=aC hM0;clear hM0
 have hcx1:=cmH hx2 (Lt p_ (by (exact hp0)))
 refine bl hcx1 clQ clQ (fun hw3=> ?_)
 replace hw3:=nzQ hw3
 revert hM;revert hF
 refine slQ ?_
 refine aF fun _ _ _ _=> ?_
 refine aJ fun _ _ _=> ?_
 intro hF hM
 have hM0:=hM;clear hM;obtain ⟨x10,hx11,hM⟩:=aC hM0;clear hM0
 have hcx10:=Lz x1 (by (exact KY hp0 (by assumption)))
 rw [←hx11] at hcx10
 refine bl hcx10 clQ clQ (fun hw12=> ?_)
 replace hw12:=nzQ hw12
 exact auP
set_option maxHeartbeats 2000000 in
set_option maxRecDepth 100000 in
instance QS (a_:(List Int)) (b:(List Int)):CM En (tk a_ b) 14 [.sl none 1 false (a_.map (V.int .u8)),.sl none 1 false (b.map (V.int .u8))] (fun y=> .bool y) (fun _=> []):=by
 refine enQ noJ Tryz.func14 Tryz.ntmps14 (tk.eq_1 ..) fun r hw=> ?_
 intro hF hM
 try refine bM (by (first|exact ⟨wt,omQ⟩|exact trivial|(refine ⟨?_,?_⟩<;>first|exact trivial|(simp only [List.length_cons,List.length_nil];omega)))) ?_
 revert hM;revert hF
 refine slQ ?_
 intro hF hM
 try refine bM (by (first|exact ⟨wt,omQ⟩|exact trivial|(refine ⟨?_,?_⟩<;>first|exact trivial|(simp only [List.length_cons,List.length_nil];omega)))) ?_
 exact auP
set_option maxHeartbeats 2000000 in
set_option maxRecDepth 100000 in
theorem mU (r_:aD) (e_:Int):dB En 108 [.ptr 0 0,.int .i64 e_] [.var 2 true (.agg [.sl none 1 false (r_.b.map (V.int .u8)),.int .i64 r_.e])] (.tup []) [.var 2 true (.agg [.sl none 1 false ((fN r_ e_).b.map (V.int .u8)),.int .i64 (fN r_ e_).e])] []:=by
 generalize hM:fN r_ e_=r
 rw [fN.eq_1] at hM
 refine kZ bn cJ noJ Tryz.func108 rfl Tryz.ntmps108 (by kernel_rfl) rfl fun ks hw hwB=>cO ?_
 refine spQ ?_
 replace hw:=nzQ hw
 replace hwB:=nzB hwB
 have hF:=gI
 revert hM;revert hF
 refine cdQ (fun _ _ _=> ?_) (fun _ _ _=> ?_)
 ·intro hF hM
  subst hM
  exact dC [0] (bB hF) (by decide) (bB hF)
 ·intro hF hM
  subst hM
  exact dC [0] (bB hF) (by decide) (bB hF)
set_option maxHeartbeats 2000000 in
set_option maxRecDepth 100000 in
theorem CS (r_:aD) (n_:Int) (hp0:0≤n_):dB En 168 [.ptr 0 0,.int .i64 n_] [.var 2 true (.agg [.sl none 1 false (r_.b.map (V.int .u8)),.int .i64 r_.e])] (.sl none 1 false ((jm r_ n_).1.map (V.int .u8))) [.var 2 true (.agg [.sl none 1 false ((jm r_ n_).2.b.map (V.int .u8)),.int .i64 (jm r_ n_).2.e])] []:=by
 generalize hM:jm r_ n_=r
 rw [jm.eq_1] at hM
 refine kZ bn cJ noJ Tryz.func168 rfl Tryz.ntmps168 (by kernel_rfl) rfl fun ks hw hwB=>cO ?_
 refine spQ ?_
 replace hw:=nzQ hw
 replace hwB:=nzB hwB
 have hF:=gI
 revert hM;revert hF
 refine cdQ (fun _ _ _=> ?_) (fun _ _ _=> ?_)
 ·refine cdQ (fun _ _ _=> ?_) (fun _ _ _=> ?_)
  ·intro hF hM
   have hM0:=hM;clear hM;obtain ⟨x5,hx6,hM⟩:=aC hM0;clear hM0
   have hcx5:=mU r_ 4
   rw [←hx6] at hcx5
   refine eh [0] hcx5 (by decide) lsQ lsQ (fun hw7=> ?_)
   replace hw7:=nzQ hw7
   revert hM;revert hF
   refine slQ ?_
   intro hF hM
   subst hM
   exact dC [0] (bB hF) (by decide) (bB hF)
  ·intro hF hM
   subst hM
   exact dC [0] (bB hF) (by decide) (bB hF)
 ·intro hF hM
  have hM0:=hM;clear hM;obtain ⟨x10,hx11,hM⟩:=aC hM0;clear hM0
  have hcx10:=mU r_ 4
  rw [←hx11] at hcx10
  refine eh [0] hcx10 (by decide) lsQ lsQ (fun hw12=> ?_)
  replace hw12:=nzQ hw12
  revert hM;revert hF
  refine slQ ?_
  intro hF hM
  subst hM
  exact dC [0] (bB hF) (by decide) (bB hF)
set_option maxHeartbeats 2000000 in
set_option maxRecDepth 100000 in
theorem tK (r_:aD) (size:Int) (hp0:0≤size):dB En 166 [.ptr 0 0,.int .i64 size] [.var 2 true (.agg [.sl none 1 false (r_.b.map (V.int .u8)),.int .i64 r_.e])] (.int .u64 (gh r_ size).1) [.var 2 true (.agg [.sl none 1 false ((gh r_ size).2.b.map (V.int .u8)),.int .i64 (gh r_ size).2.e])] []:=by
 generalize hM:gh r_ size=r
 rw [gh.eq_1] at hM
 refine kZ bn cJ noJ Tryz.func166 rfl Tryz.ntmps166 (by kernel_rfl) rfl fun ks hw hwB=>cO ?_
 refine spQ ?_
 replace hw:=nzQ hw
 replace hwB:=nzB hwB
 have hM0:=hM;clear hM;obtain ⟨x1,hx2,hM⟩:=aC hM0;clear hM0
 have hcx1:=CS r_ size (by (exact pfQ))
 rw [←hx2] at hcx1
 refine eh [0] hcx1 (by decide) lsQ lsQ (fun hw3=> ?_)
 replace hw3:=nzQ hw3
 have hF:=gI
 revert hM;revert hF
 refine slQ ?_
 intro hF hM
 have hM0:=hM;clear hM;obtain ⟨f4,d4,hf4,hd4,hM⟩:=aH hM0;clear hM0
 refine bm (fun n S=> ∃p:Int×Int,S=(⟨[(0,.ptr 0 0),(5,.int .u64 p.1),(10,.sl none 1 false (x1.1.map (V.int .u8))),(11,.int .i64 (x1.1.length:Int)),(12,.int .i64 p.2)],[(0,.lent (ks 0) 2 true (.agg [.sl none 1 false (x1.2.b.map (V.int .u8)),.int .i64 x1.2.e]))],1⟩:St)∧((0≤p.2)∧(p.2≤(x1.1.length:Int)))∧((x1.1.length:Int) - p.2).toNat<n∧ah n f4 d4 p=r) (((x1.1.length:Int) - 0).toNat+1) _ sbQ sbQ ⟨(0,0),rfl,⟨omQ,omQ⟩,(Nat.lt_succ_self _),hM⟩ ?_
 clear hM
 rintro n4 S ⟨p4,rfl,hfa4,hm4,hM⟩
 have hM0:=hM;clear hM;obtain ⟨ag4,hag4,hM⟩:=aI hM0 (by omega) hf4;clear hM0
 replace hfa4:=nzQ hfa4
 replace hm4:=nzQ hm4
 have ha4:ak .i64 p4.2 1=p4.2+1:=aR omQ omQ
 replace hF:=(And.intro ha4 hF)
 revert hM;revert hF
 refine slQ ?_
 refine cdQ (fun _ _ _=> ?_) (fun _ _ _=> ?_)
 ·intro hF hM
  refine aO (n4 - 1) _ (by omega) sbQ sbQ ⟨((orI .u64 (ao .u64 p4.1 8) (ae .u64 (gt x1.1 p4.2))),(p4.2+1)),rfl,⟨omQ,omQ⟩,omQ,aM hM hag4⟩
 ·intro hF hM
  subst hM
  exact dC [0] (bB hF) (by decide) (bB hF)
instance (priority:=1024):DRD 18 74 7 [63,64,65,66,67,68,69] [] ([[],[0],[],[],[3],[2,3,4],[2,3,4,5]]++[List.range 7,List.range 8,List.range 9]) [(5,0)]:=⟨trivial⟩
set_option maxHeartbeats 2000000 in
set_option maxRecDepth 100000 in
theorem LB (N:Nat) (ih: ∀(r_:aD) (depth:Int),(0≤depth)→(isB r_.b)→depth.toNat<N→dB En 107 [.ptr 0 0,.int .i64 depth] [.var 2 true (.agg [.sl none 1 false (r_.b.map (V.int .u8)),.int .i64 r_.e])] (.agg [.int .i64 (cQ r_ depth).1.Kind,.int .i64 (cQ r_ depth).1.N,.sl none 1 false ((cQ r_ depth).1.B.map (V.int .u8)),.sl none 4 true ((cQ r_ depth).1.L.map aw)]) [.var 2 true (.agg [.sl none 1 false ((cQ r_ depth).2.b.map (V.int .u8)),.int .i64 (cQ r_ depth).2.e])] []) (r_:aD) (depth:Int) (hp0:0≤depth) (hp1:isB r_.b) (hp_:depth.toNat<N+1):dB En 107 [.ptr 0 0,.int .i64 depth] [.var 2 true (.agg [.sl none 1 false (r_.b.map (V.int .u8)),.int .i64 r_.e])] (.agg [.int .i64 (jn r_ depth).1.Kind,.int .i64 (jn r_ depth).1.N,.sl none 1 false ((jn r_ depth).1.B.map (V.int .u8)),.sl none 4 true ((jn r_ depth).1.L.map aw)]) [.var 2 true (.agg [.sl none 1 false ((jn r_ depth).2.b.map (V.int .u8)),.int .i64 (jn r_ depth).2.e])] []:=by
 generalize hM:jn r_ depth=r
 rw [jn.eq_1] at hM
 refine kZ bn cJ [5,15] Tryz.func107 rfl Tryz.ntmps107 (by kernel_rfl) rfl fun ks hw hwB=>cO ?_
 refine spQ ?_
 replace hw:=nzQ hw
 replace hwB:=nzB hwB
 have hM0:=hM;clear hM;obtain ⟨x1,hx2,hM⟩:=aC hM0;clear hM0
 have hcx1:=tK r_ 1 (by (first|assumption|omega))
 rw [←hx2] at hcx1
 refine eh [0] hcx1 (by decide) lsQ lsQ (fun hw3=> ?_)
 replace hw3:=nzQ hw3
 have hF:=gI
 revert hM;revert hF
 refine slQ ?_
 have hq4:=tt hx2 (by assumption)
 replace hq4:=nzQ hq4
 have hq5:=tu hx2 (by assumption)
 replace hq5:=nzQ hq5
 intro hF hM
 have hM0:=hM;clear hM;obtain ⟨j6,hj6,hM⟩:=nJ hM0;clear hM0
 refine nB (fun S=> ∃p:Unit,S=(⟨[(0,.ptr 0 0),(1,.int .i64 depth),(4,.ptr 1 0),(5,.int .i64 (ae .i64 x1.1))],[(0,.lent (ks 0) 2 true (.agg [.sl none 1 false (x1.2.b.map (V.int .u8)),.int .i64 x1.2.e])),(1,.var 4 true (.agg [.int .i64 0,.int .i64 0,.sl (some true) 1 false [],.sl (some true) 4 true []]))],2⟩:St)∧(((ae .i64 x1.1)≠3∨depth≠0))∧j6 p=r) ?_ (fun hcut6=> ?_)
 ·clear hM
  rintro S ⟨p6,rfl,hfa6,hM⟩
  replace hfa6:=nzQ hfa6
  have hM0:=hM;clear hM;have hM:=kQ hM0 hj6;clear hM0
  revert hM;revert hF
  refine slQ ?_
  refine cdQ (fun _ _ _=> ?_) (fun _ _ _=> ?_)
  ·intro hF hM
   have hM0:=hM;clear hM;obtain ⟨x9,hx10,hM⟩:=aC hM0;clear hM0
   have hcx9:=tK (x1.2) 8 (by (first|assumption|omega))
   rw [←hx10] at hcx9
   refine eh [0] hcx9 (by decide) lsQ lsQ (fun hw11=> ?_)
   replace hw11:=nzQ hw11
   revert hM;revert hF
   refine slQ ?_
   have hq12:=tt hx10 (by assumption)
   replace hq12:=nzQ hq12
   have hq13:=tu hx10 (by assumption)
   replace hq13:=nzQ hq13
   intro hF hM
   subst hM
   exact dC [0] (bB hF) (by decide) (bB hF)
  ·refine cdQ (fun _ _ _=> ?_) (fun _ _ _=> ?_)
   ·intro hF hM
    have hM0:=hM;clear hM;obtain ⟨x17,hx18,hM⟩:=aC hM0;clear hM0
    have hcx17:=tK (x1.2) 4 (by (first|assumption|omega))
    rw [←hx18] at hcx17
    refine eh [0] hcx17 (by decide) lsQ lsQ (fun hw19=> ?_)
    replace hw19:=nzQ hw19
    revert hM;revert hF
    refine slQ ?_
    have hq20:=tt hx18 (by assumption)
    replace hq20:=nzQ hq20
    have hq21:=tu hx18 (by assumption)
    replace hq21:=nzQ hq21
    intro hF hM
    have hM0:=hM;clear hM;obtain ⟨x22,hx23,hM⟩:=aC hM0;clear hM0
    have hcx22:=CS (x17.2) (ae .i64 x17.1) (by (first|assumption|omega))
    rw [←hx23] at hcx22
    refine eh [0] hcx22 (by decide) lsQ lsQ (fun hw24=> ?_)
    replace hw24:=nzQ hw24
    revert hM;revert hF
    refine slQ ?_
    have hq25:=J7 hx23 (by assumption)
    replace hq25:=nzQ hq25
    intro hF hM
    have hM0:=hM;clear hM;obtain ⟨x26,hx27,hM⟩:=aC hM0;clear hM0
    have hcx26:=xP none (x22.1)
    rw [←hx27] at hcx26
    refine bl hcx26 clQ clQ (fun hw28=> ?_)
    replace hw28:=nzQ hw28
    revert hM;revert hF
    refine slQ ?_
    have hq29:=nzQ (cfU hx27)
    intro hF hM
    subst hM
    exact dC [0] (bB hF) (by decide) (bB hF)
   ·refine cdQ (fun _ _ _=> ?_) (fun _ _ _=> ?_)
    ·intro hF hM
     have hM0:=hM;clear hM;obtain ⟨x33,hx34,hM⟩:=aC hM0;clear hM0
     have hcx33:=tK (x1.2) 4 (by (first|assumption|omega))
     rw [←hx34] at hcx33
     refine eh [0] hcx33 (by decide) lsQ lsQ (fun hw35=> ?_)
     replace hw35:=nzQ hw35
     revert hM;revert hF
     refine slQ ?_
     have hq36:=tt hx34 (by assumption)
     replace hq36:=nzQ hq36
     have hq37:=tu hx34 (by assumption)
     replace hq37:=nzQ hq37
     intro hF hM
     have hM0:=hM;clear hM;obtain ⟨j38,hj38,hM⟩:=nJ hM0;clear hM0
     refine nB (fun S=> ∃p:aD,S=(⟨[(0,.ptr 0 0),(1,.int .i64 depth),(4,.ptr 1 0),(6,.ptr 2 0),(7,.int .i64 (ae .i64 x33.1))],[(0,.lent (ks 0) 2 true (.agg [.sl none 1 false (p.b.map (V.int .u8)),.int .i64 p.e])),(1,.var 4 true (.agg [.int .i64 0,.int .i64 0,.sl (some true) 1 false [],.sl (some true) 4 true []])),(2,.var 4 true (.agg [.int .i64 (ae .i64 x1.1),.int .i64 0,.sl (some true) 1 false [],.sl (some true) 4 true []]))],3⟩:St)∧((((ae .i64 x33.1)≤1000∨(p).e≠0)∧(0≤(ae .i64 x33.1)))∧(isB (p).b))∧j38 p=r) ?_ (fun hcut38=> ?_)
     ·clear hM
      rintro S ⟨p38,rfl,⟨hfa38,hF15_0⟩,hM⟩
      replace hfa38:=nzQ hfa38
      have hM0:=hM;clear hM;have hM:=kQ hM0 hj38;clear hM0
      revert hM;revert hF
      refine slQ ?_
      intro hF hM
      have hM0:=hM;clear hM;obtain ⟨f39,d39,hf39,hd39,hM⟩:=aH hM0;clear hM0
      refine bN (fun n S=> ∃p:Int×aD×List aa,S=(⟨[(0,.ptr 0 0),(1,.int .i64 depth),(4,.ptr 1 0),(6,.ptr 2 0),(55,.int .i64 (ae .i64 x33.1)),(56,.int .i64 p.1)],[(0,.lent (ks 0) 2 true (.agg [.sl none 1 false (p.2.1.b.map (V.int .u8)),.int .i64 p.2.1.e])),(1,.var 4 true (.agg [.int .i64 0,.int .i64 0,.sl (some true) 1 false [],.sl (some true) 4 true []])),(2,.var 4 true (.agg [.int .i64 (ae .i64 x1.1),.int .i64 0,.sl (some true) 1 false [],.own 3])),(3,.own 126 4 true none (p.2.2.map aw))],4⟩:St)∧(((0≤p.1)∧(p.1≤(ae .i64 x33.1))∧((ae .i64 x33.1)≤1000∨(p.2.1).e≠0)∧(((p.2.2).length:Int)≤p.1))∧(isB (p.2.1).b))∧((ae .i64 x33.1) - p.1).toNat<n∧ah n f39 d39 p=r) (((ae .i64 x33.1) - 0).toNat+1) _ _ (dm 2 3 126 rfl rfl (by decide)) sbQ sbQ ⟨(0,p38,([]:List aa)),rfl,⟨⟨omQ,omQ,omQ,omQ⟩,by assumption⟩,(Nat.lt_succ_self _),hM⟩ ?_
      clear hM
      rintro n39 S ⟨p39,rfl,⟨hfa39,hF16_0⟩,hm39,hM⟩
      have hM0:=hM;clear hM;obtain ⟨ag39,hag39,hM⟩:=aI hM0 (by omega) hf39;clear hM0
      replace hfa39:=nzQ hfa39
      replace hm39:=nzQ hm39
      have ha39:ak .i64 p39.1 1=p39.1+1:=aR omQ omQ
      replace hF:=(And.intro ha39 hF)
      revert hM;revert hF
      refine slQ ?_
      refine cdQ (fun _ _ _=> ?_) (fun _ _ _=> ?_)
      ·refine cdQ (fun _ _ _=> ?_) (fun _ _ _=> ?_)
       ·intro hF hM
        subst hM
        exact dC [0] (bB hF) (by decide) (bB hF)
       ·have ha45:az .i64 depth 1=(depth - 1):=cE ap ap
        intro hF hM
        try simp only [ha45]
        have hM0:=hM;clear hM;obtain ⟨x46,hx47,hM⟩:=aC hM0;clear hM0
        have hcx46:=ih (p39.2.1) (depth - 1) (by (first|assumption|omega)) (by (first|assumption|omega)) (by omega)
        rw [←hx47] at hcx46
        replace hF:=(And.intro ha45 hF)
        refine I7 0 hcx46 rfl rfl (bB hF) (bB hF) (bB hF) (bB hF) (bB hF) ?_
        revert hM;revert hF
        refine slQ ?_
        have hq48:=Jw hx47 (by assumption)
        replace hq48:=nzQ hq48
        refine slQ ?_
        intro hF hM
        refine aO (n39 - 1) _ (by omega) sbQ sbQ ⟨((p39.1+1),x46.2,(p39.2.2++([x46.1]:List aa))),rfl,⟨⟨omQ,omQ,omQ,omQ⟩,by assumption⟩,omQ,aM hM hag39⟩
      ·intro hF hM
       subst hM
       exact dC [0] (bB hF) (by decide) (bB hF)
     ·revert hM;revert hF
      refine slQ ?_
      refine cdQ (fun _ _ _=> ?_) (fun _ _ _=> ?_)
      ·intro hF hM
       have hM0:=hM;clear hM;obtain ⟨x52,hx53,hM⟩:=aC hM0;clear hM0
       have hcx52:=mU (x33.2) 3
       rw [←hx53] at hcx52
       refine eh [0] hcx52 (by decide) lsQ lsQ (fun hw54=> ?_)
       replace hw54:=nzQ hw54
       revert hM;revert hF
       refine slQ ?_
       have hq55:=tr hx53 (by decide)
       replace hq55:=nzQ hq55
       have hq56:=tv hx53 (by assumption)
       replace hq56:=nzQ hq56
       intro hF hM
       exact eV _ sbQ sbQ (hcut38 _ ⟨x52,rfl,⟨⟨omQ,omQ⟩,by assumption⟩,hM⟩)
      ·intro hF hM
       exact eV _ sbQ sbQ (hcut38 _ ⟨x33.2,rfl,⟨⟨omQ,omQ⟩,by assumption⟩,hM⟩)
    ·intro hF hM
     subst hM
     exact dC [0] (bB hF) (by decide) (bB hF)
 ·revert hM;revert hF
  refine slQ ?_
  refine cdQ (fun _ _ _=> ?_) (fun _ _ _=> ?_)
  ·refine cdQ (fun _ _ _=> ?_) (fun _ _ _=> ?_)
   ·refine cdQ (fun _ _ _=> ?_) (fun _ _ _=> ?_)
    ·refine cdQ (fun _ _ _=> ?_) (fun _ _ _=> ?_)
     ·intro hF hM
      have hM0:=hM;clear hM;obtain ⟨x67,hx68,hM⟩:=aC hM0;clear hM0
      have hcx67:=mU (x1.2) 3
      rw [←hx68] at hcx67
      refine eh [0] hcx67 (by decide) lsQ lsQ (fun hw69=> ?_)
      replace hw69:=nzQ hw69
      revert hM;revert hF
      refine slQ ?_
      have hq70:=tr hx68 (by decide)
      replace hq70:=nzQ hq70
      have hq71:=tv hx68 (by assumption)
      replace hq71:=nzQ hq71
      intro hF hM
      subst hM
      exact dC [0] (bB hF) (by decide) (bB hF)
     ·intro hF hM
      exact eV _ sbQ sbQ (hcut6 _ ⟨(),rfl,omQ,hM⟩)
    ·intro hF hM
     exact eV _ sbQ sbQ (hcut6 _ ⟨(),rfl,omQ,hM⟩)
   ·intro hF hM
    have hM0:=hM;clear hM;obtain ⟨x75,hx76,hM⟩:=aC hM0;clear hM0
    have hcx75:=mU (x1.2) 3
    rw [←hx76] at hcx75
    refine eh [0] hcx75 (by decide) lsQ lsQ (fun hw77=> ?_)
    replace hw77:=nzQ hw77
    revert hM;revert hF
    refine slQ ?_
    have hq78:=tr hx76 (by decide)
    replace hq78:=nzQ hq78
    have hq79:=tv hx76 (by assumption)
    replace hq79:=nzQ hq79
    intro hF hM
    subst hM
    exact dC [0] (bB hF) (by decide) (bB hF)
  ·intro hF hM
   have hM0:=hM;clear hM;obtain ⟨x81,hx82,hM⟩:=aC hM0;clear hM0
   have hcx81:=mU (x1.2) 3
   rw [←hx82] at hcx81
   refine eh [0] hcx81 (by decide) lsQ lsQ (fun hw83=> ?_)
   replace hw83:=nzQ hw83
   revert hM;revert hF
   refine slQ ?_
   have hq84:=tr hx82 (by decide)
   replace hq84:=nzQ hq84
   have hq85:=tv hx82 (by assumption)
   replace hq85:=nzQ hq85
   intro hF hM
   subst hM
   exact dC [0] (bB hF) (by decide) (bB hF)
theorem LC: ∀(N:Nat) (r_:aD) (depth:Int),(0≤depth)→(isB r_.b)→depth.toNat<N→dB En 107 [.ptr 0 0,.int .i64 depth] [.var 2 true (.agg [.sl none 1 false (r_.b.map (V.int .u8)),.int .i64 r_.e])] (.agg [.int .i64 (cQ r_ depth).1.Kind,.int .i64 (cQ r_ depth).1.N,.sl none 1 false ((cQ r_ depth).1.B.map (V.int .u8)),.sl none 4 true ((cQ r_ depth).1.L.map aw)]) [.var 2 true (.agg [.sl none 1 false ((cQ r_ depth).2.b.map (V.int .u8)),.int .i64 (cQ r_ depth).2.e])] []:=by
 intro N
 induction N with
 | zero=>intro r_ depth h0 h1 h;exact absurd h (Nat.not_lt_zero _)
 | succ N ih=>
  intro r_ depth h0 h1 h
  have h9:=LB N ih r_ depth h0 h1 h
  rw [J9 h0 h1] at h9
  exact h9
theorem LD (r_:aD) (depth:Int) (hp0:0≤depth) (hp1:isB r_.b):dB En 107 [.ptr 0 0,.int .i64 depth] [.var 2 true (.agg [.sl none 1 false (r_.b.map (V.int .u8)),.int .i64 r_.e])] (.agg [.int .i64 (cQ r_ depth).1.Kind,.int .i64 (cQ r_ depth).1.N,.sl none 1 false ((cQ r_ depth).1.B.map (V.int .u8)),.sl none 4 true ((cQ r_ depth).1.L.map aw)]) [.var 2 true (.agg [.sl none 1 false ((cQ r_ depth).2.b.map (V.int .u8)),.int .i64 (cQ r_ depth).2.e])] []:=
 LC (depth.toNat+1) r_ depth hp0 hp1 (Nat.lt_succ_self _)
instance (priority:=1025):DRD 8 34 6 [28,29,30,31,32] [] ([[],[],[1],[1,2],[1,2,3],[0]]++[List.range 6]) [(5,0)]:=⟨trivial⟩
set_option maxHeartbeats 2000000 in
set_option maxRecDepth 100000 in
instance QT (b:(List Int)):CM En (gi b) 49 [.sl none 1 false (b.map (V.int .u8))] (fun y=> .tup [.agg [.int .i64 y.1.Kind,.int .i64 y.1.N,.sl none 1 false (y.1.B.map (V.int .u8)),.sl none 4 true (y.1.L.map aw)],.int .i64 y.2]) (fun _=> []):=by
 refine enQ [7] Tryz.func49 Tryz.ntmps49 (gi.eq_1 ..) fun r hw=> ?_
 refine aJ fun _ _ _=> ?_
 intro hF hM
 have hM0:=hM;clear hM;obtain ⟨x4,hx5,hM⟩:=aC hM0;clear hM0
 have hcx4:=LD ({b:=b,e:=0}:aD) 8 (by (first|decide|exact fw hw.2)) (by (first|decide|exact fw hw.2))
 rw [←hx5] at hcx4
 refine eh [1] hcx4 (by decide) lsQ lsQ (fun hw6=> ?_)
 replace hw6:=nzQ hw6
 revert hM;revert hF
 refine slQ ?_
 intro hF hM
 have hM0:=hM;clear hM;obtain ⟨j7,hj7,hM⟩:=nJ hM0;clear hM0
 refine nB (fun S=> ∃p:aD,S=(⟨[(2,.ptr 0 0),(4,.ptr 1 0),(5,.ptr 2 0)],[(0,.var 4 true (.agg [.int .i64 0,.int .i64 0,.sl (some true) 1 false [],.sl (some true) 4 true []])),(1,.var 2 true (.agg [.sl none 1 false (p.b.map (V.int .u8)),.int .i64 p.e])),(2,.var 4 true (.agg [.int .i64 x4.1.Kind,.int .i64 x4.1.N,.sl none 1 false (x4.1.B.map (V.int .u8)),.sl none 4 true (x4.1.L.map aw)]))],3⟩:St)∧(True)∧j7 p=r) ?_ (fun hcut7=> ?_)
 ·clear hM
  rintro S ⟨p7,rfl,hfa7,hM⟩
  have hM0:=hM;clear hM;have hM:=kQ hM0 hj7;clear hM0
  exact auP
 ·revert hM;revert hF
  refine slQ ?_
  refine cdQ (fun _ _ _=> ?_) (fun _ _ _=> ?_)
  ·intro hF hM
   have hM0:=hM;clear hM;obtain ⟨x13,hx14,hM⟩:=aC hM0;clear hM0
   have hcx13:=mU (x4.2) 3
   rw [←hx14] at hcx13
   refine eh [1] hcx13 (by decide) lsQ lsQ (fun hw15=> ?_)
   replace hw15:=nzQ hw15
   revert hM;revert hF
   refine slQ ?_
   intro hF hM
   exact eV _ sbQ sbQ (hcut7 _ ⟨x13,rfl,trivial,hM⟩)
  ·intro hF hM
   exact eV _ sbQ sbQ (hcut7 _ ⟨x4.2,rfl,trivial,hM⟩)
set_option maxHeartbeats 2000000 in
set_option maxRecDepth 100000 in
instance QU (i_:aa) (n_:Int):CM En (fO i_ n_) 50 [.agg [.int .i64 i_.Kind,.int .i64 i_.N,.sl none 1 false (i_.B.map (V.int .u8)),.sl none 4 true (i_.L.map aw)],.int .i64 n_] (fun y=> .bool y) (fun _=> []):=by
 refine enQ noJ Tryz.func50 Tryz.ntmps50 (fO.eq_1 ..) fun r hw=> ?_
 exact auR
set_option maxHeartbeats 2000000 in
set_option maxRecDepth 100000 in
instance QV (i_:aa):CM En (aN i_) 51 [.agg [.int .i64 i_.Kind,.int .i64 i_.N,.sl none 1 false (i_.B.map (V.int .u8)),.sl none 4 true (i_.L.map aw)]] (fun y=> .tup [.sl none 1 false (y.1.map (V.int .i64)),.int .i64 y.2]) (fun _=> []):=by
 refine enQ noJ Tryz.func51 Tryz.ntmps51 (aN.eq_1 ..) fun r hw=> ?_
 refine aF fun _ _ _ _=> ?_
 refine aJ fun _ _ _=> ?_
 refine aJ fun _ _ _=> ?_
 intro hF hM
 have hM0:=hM;clear hM;obtain ⟨f10,d10,hf10,hd10,hM⟩:=aH hM0;clear hM0
 refine bN (fun n S=> ∃p:Int×List Int,S=(⟨[(4,.own 1),(14,.sl none 4 true (i_.L.map aw)),(15,.int .i64 (i_.L.length:Int)),(16,.int .i64 p.1)],[(1,.own 3 1 false none (p.2.map (V.int .i64)))],2⟩:St)∧((0≤p.1)∧(p.1≤(i_.L.length:Int))∧(((p.2).length:Int)≤p.1))∧((i_.L.length:Int) - p.1).toNat<n∧ah n f10 d10 p=r) (((i_.L.length:Int) - 0).toNat+1) _ _ (dV 4 3 rfl (by decide)) sbQ sbQ ⟨(0,([]:List Int)),rfl,⟨omQ,omQ,omQ⟩,(Nat.lt_succ_self _),hM⟩ ?_
 clear hM
 rintro n10 S ⟨p10,rfl,hfa10,hm10,hM⟩
 have hM0:=hM;clear hM;obtain ⟨ag10,hag10,hM⟩:=aI hM0 (by omega) hf10;clear hM0
 replace hfa10:=nzQ hfa10
 replace hm10:=nzQ hm10
 have ha10:ak .i64 p10.1 1=p10.1+1:=aR omQ omQ
 replace hF:=(And.intro ha10 hF)
 revert hM;revert hF
 refine slQ ?_
 refine ax fun _ _ _=> ?_
 refine aJ fun _ _ _=> ?_
 intro hF hM
 refine aO (n10 - 1) _ (by omega) sbQ sbQ ⟨((p10.1+1),(p10.2++([(gt i_.L p10.1).N]:List Int))),rfl,⟨omQ,omQ,omQ⟩,omQ,aM hM hag10⟩
instance (priority:=1026):DRD 10 104 32 [71,72,73,74,75,76,77,78,79,80,81,82,83,84,85,86,87,88,89,90,91,92,93,94,95,96,97,98,99,100,101,102] [] ([[],[0],[0,1],[],[3],[3,4],[],[6],[6,7],[],[9],[9,10],[],[12],[12,13],[],[15],[15,16],[15,16,17],[],[19],[19,20],[],[22],[22,23],[],[25],[25,26],[],[28],[28,29],[19,20,21,22,23,24,25,26,27,28,29,30]]++[List.range 32,List.range 33,List.range 34]) []:=⟨trivial⟩
set_option maxHeartbeats 2000000 in
set_option maxRecDepth 100000 in
instance QW (i_:aa):CM En (cU i_) 109 [.agg [.int .i64 i_.Kind,.int .i64 i_.N,.sl none 1 false (i_.B.map (V.int .u8)),.sl none 4 true (i_.L.map aw)]] (fun y=> .tup [(dJ y.1),.int .i64 y.2]) (fun _=> []):=by
 refine enQ noJ Tryz.func109 Tryz.ntmps109 (cU.eq_1 ..) fun r hw=> ?_
 refine aF fun _ _ _ _=> ?_
 refine aJ fun _ _ _=> ?_
 refine ax fun _ _ _=> ?_
 refine aJ fun _ _ _=> ?_
 refine aF fun _ _ _ _=> ?_
 refine aF fun _ _ _ _=> ?_
 refine ax fun _ _ _=> ?_
 refine ax fun _ _ _=> ?_
 refine ax fun _ _ _=> ?_
 refine ax fun _ _ _=> ?_
 refine ax fun _ _ _=> ?_
 refine aJ fun _ _ _=> ?_
 have he39:=su (l:=(gt i_.L 1).B) (f:=(V.int .u8)) (k:=32) ap
 refine slA he39 ?_
 exact auR
instance (priority:=1027):DRD 4 25 7 [2,19,20,21,22,23,24] [] ([[],[0],[0,1],[],[3],[3,4],[0,1,2]]++[List.range 7,List.range 8]) []:=⟨trivial⟩
set_option maxHeartbeats 2000000 in
set_option maxRecDepth 100000 in
instance QX (i_:aa):CM En (lA i_) 170 [.agg [.int .i64 i_.Kind,.int .i64 i_.N,.sl none 1 false (i_.B.map (V.int .u8)),.sl none 4 true (i_.L.map aw)]] (fun y=> .tup [.int .i64 y.1,.int .i64 y.2.1,.bool y.2.2]) (fun _=> []):=by
 refine enQ noJ Tryz.func170 Tryz.ntmps170 (lA.eq_1 ..) fun r hw=> ?_
 exact auR
instance (priority:=1028):DRD 4 20 3 [15,16,17] [] ([[],[],[1]]++[List.range 3]) []:=⟨trivial⟩
set_option maxHeartbeats 2000000 in
set_option maxRecDepth 100000 in
instance QY (i_:aa):CM En (dr i_) 171 [.agg [.int .i64 i_.Kind,.int .i64 i_.N,.sl none 1 false (i_.B.map (V.int .u8)),.sl none 4 true (i_.L.map aw)]] (fun y=> .tup [(bI y.1),.bool y.2]) (fun _=> []):=by
 refine enQ noJ Tryz.func171 Tryz.ntmps171 (dr.eq_1 ..) fun r hw=> ?_
 refine ax fun _ _ _=> ?_
 refine aJ fun _ _ _=> ?_
 intro hF hM
 have hsp6:=Jl (f:=(V.int .u8)) (A:=([0,0,0,0,0,0,0,0,0,0,0,0,0,0,0,0,0,0,0,0,0,0,0,0,0,0,0,0,0,0,0,0]:List Int)) (l:=i_.B) (n:=32) rfl
 replace hsp6:=spR hsp6
 replace hF:=(And.intro hsp6 hF)
 exact auP
end Go.Proofs.YtiknkaadhomeiaaGreatDoor
