/- Texts of this proof, one after the other: U4, U5. -/
import Derived.Test.YtcbbjfckokckcaaGreatDoorZ10
set_option linter.unusedVariables false
set_option linter.unusedSimpArgs false
namespace Go.Proofs.YtcbbjfckokckcaaGreatDoor
open Go.RowKit
set_option linter.unusedSimpArgs false
set_option maxHeartbeats 2000000 in
set_option maxRecDepth 100000 in
theorem A1 (b:a8) (r_:bu) (s:aO) (hp0:eQ s):CM En (fh b r_ s) 117 [(bS b),(bJ r_),(aT s)] (fun y=> .bool y) (fun _=> []):=by
 refine cmQ fun r hM=> ?_
 rw [fh.eq_1] at hM
 refine av al ar noJ Tryz.func117 rfl Tryz.ntmps117 (by kernel_rfl) fun hw=>au ?_
 refine spQ ?_
 replace hw:=nzQ hw
 have h0_0:=IR hp0
 refine bN 120 42 [14,15,16,17,18,19,20,21,22,23,24,25,26,27,28,29,30,31,32,33,34,35,36,37,38,39,40,41,42,43,44,45,46,47,48,49,50,51,52,53,54,55] [] ([[],[],[],[2],[0,1,2,3],[0,1,2,3,4],[0,1,2,3,4,5],[0,1,2,3,4,5,6],[0,1,2,3,4,5,6,7],[0,1,2,3,4,5,6,7,8],[0,1,2,3,4,5,6],[0,1,2,3,4,5,6,10],[0,1,2,3,4,5,6,7,8,9,10,11],[0,1,2,3,4,5,6,7,8,9,10,11,12],[0,1,2,3,4,5,6,7,8,9,10,11,12,13],[0,1,2,3,4,5,6,7,8,9,10,11,12,13,14],[0,1,2,3,4,5,6,7,8,9,10,11,12,13,14,15],[0,1,2,3,4,5,6,7,8,9,10,11,12,13,14,15,16],[0,1,2,3,4,5,6,7,8,9,10,11,12,13,14,15,16,17],[0,1,2,3,4,5,6,7,8,9,10,11,12,13,14,15,16,17,18],[0,1,2,3,4,5,6,7,8,9,10,11,12,13,14,15,16,17,18,19],[0,1,2,3,4,5,6,7,8,9,10,11,12,13,14,15,16,17,18,19,20],[0,1,2,3,4,5,6,7,8,9,10,11,12,13,14,15,16,17,18,19,20,21],[0,1,2,3,4,5,6,7,8,9,10,11,12,13,14,15,16,17,18,19,20,21,22],[0,1,2,3,4,5,6,7,8,9,10,11,12,13,14,15,16,17,18,19,20,21,22,23],[0,1,2,3,4,5,6,7,8,9,10,11,12,13,14,15,16,17,18,19,20,21],[0,1,2,3,4,5,6,7,8,9,10,11,12,13,14,15,16,17,18,19,20,21,25],[0,1,2,3,4,5,6,7,8,9,10,11,12,13,14,15,16,17,18,19,20,21,25,26],[0,1,2,3,4,5,6,7,8,9,10,11,12,13,14,15,16,17,18,19,20,21],[0,1,2,3,4,5,6,7,8,9,10,11,12,13,14,15,16,17,18,19,20,21,28],[0,1,2,3,4,5,6,7,8,9,10,11,12,13,14,15,16,17,18,19,20,21,28,29],[0,1,2,3,4,5,6,7,8,9,10,11,12,13,14,15,16,17,18,19,20,21,25,26,27,28,29,30],[0,1,2,3,4,5,6,7,8,9,10,11,12,13,14,15,16,17,18,19,20,21,25,26,27,28,29,30,31],[0,1,2,3,4,5,6,7,8,9,10,11,12,13,14,15,16,17,18,19,20,21,22,23,24,25,26,27,28,29,30,31,32],[0,1,2,3,4,5,6,7,8,9,10,11,12,13,14,15,16,17,18,19,20,21,22,23,24,25,26,27,28,29,30,31,32,33],[0,1,2,3,4,5,6,7,8,9,10,11,12,13,14,15,16,17,18,19,20,21,22,23,24,25,26,27,28,29,30,31,32,33,34],[0,1,2,3,4,5,6,7,8,9,10,11,12,13,14,15,16,17,18,19,20,21,22,23,24,25,26,27,28,29,30,31,32,33,34,35],[0,1,2,3,4,5,6,7,8,9,10,11,12,13,14,15,16,17,18,19,20,21,22,23,24,25,26,27,28,29,30,31,32,33,34,35,36],[0,1,2,3,4,5,6,7,8,9,10,11,12,13,14,15,16,17,18,19,20,21,22,23,24,25,26,27,28,29,30,31,32,33,34,35,36,37],[0,1,2,3,4,5,6,7,8,9,10,11,12,13,14,15,16,17,18,19,20,21,22,23,24,25,26,27,28,29,30,31,32,33,34,35],[0,1,2,3,4,5,6,7,8,9,10,11,12,13,14,15,16,17,18,19,20,21,22,23,24,25,26,27,28,29,30,31,32,33,34,35,39],[0,1,2,3,4,5,6,7,8,9,10,11,12,13,14,15,16,17,18,19,20,21,22,23,24,25,26,27,28,29,30,31,32,33,34,35,39,40]]++[List.range 42,List.range 43]) [] (by kernel_rfl) (by exact alQ) ?_
 refine spQ ?_
 replace hM:=ao hM;obtain ⟨x1,hx2,hM⟩:=hM
 have hcx1:=cmU hx2
 refine bp hcx1 clQ clQ ?_
 refine spQ ?_
 refine dk (fun h3=> ?_) (fun h3=> ?_)
 ·rw [if_neg (ap h3)] at hM
  refine aa h3 ?_
  have nh3:=nzQ h3
  try have hr4:=mpQ nh3
  replace hM:=ao hM;obtain ⟨x5,hx6,hM⟩:=hM
  have hcx5:=cmU hx6
  refine bp hcx5 clQ clQ ?_
  refine spQ ?_
  have hq7:=nzQ (cfU hx6)
  refine dk (fun h8=> ?_) (fun h8=> ?_)
  ·rw [if_neg (ap h8)] at hM
   refine aa h8 ?_
   have nh8:=nzQ h8
   try have hr9:=mpQ nh8
   replace hM:=ao hM;obtain ⟨x10,hx11,hM⟩:=hM
   have hcx10:=cmU hx11
   refine bp hcx10 clQ clQ ?_
   refine spQ ?_
   refine dk (fun h12=> ?_) (fun h12=> ?_)
   ·rw [if_neg (ap h12)] at hM
    refine aa h12 ?_
    have nh12:=nzQ h12
    try have hr13:=mpQ nh12
    have ha14:aG .i64 s.Coin.Depth s.Node.Level=(s.Coin.Depth - s.Node.Level):=dl omQ omQ
    try simp only [ha14]
    refine b_ omQ ?_
    refine aa ha14 ?_
    refine dk (fun h15=> ?_) (fun h15=> ?_)
    ·rw [if_neg (ap h15)] at hM
     refine aa (And.intro ha14 h15) ?_
     have nh15:=nzQ h15
     try have hr16:=mpQ nh15
     refine aB (fun h17=> ?_) (fun h17=> ?_)
     ·rw [if_pos h17] at hM
      refine aa (And.intro ha14 h17) ?_
      subst hM
      exact aw (az (And.intro ha14 (And.intro h3 (And.intro h8 (And.intro h12 (And.intro h15 h17))))))
     ·rw [if_neg (ap h17)] at hM
      refine aa (And.intro ha14 h17) ?_
      have nh17:=nzQ h17
      try have hr19:=mpQ nh17
      replace hM:=ao hM;obtain ⟨x20,hx21,hM⟩:=hM
      have hcx20:=cmU hx21
      refine aH hcx20 (aC ha14) (aC ha14) (fun hw22=> ?_)
      replace hw22:=nzQ hw22
      refine aa ha14 ?_
      replace hM:=aU hM;obtain ⟨f23,d23,hf23,hd23,hM⟩:=hM
      refine fC (fun n S=> ∃p:Int×List Int,S=(⟨[(3,.ptr 0 0),(5,.ptr 2 0),(7,.int .i64 x20),(8,.own 45),(67,.sl none 3 true (s.Leaves.map eL)),(68,.int .i64 (s.Leaves.length:Int)),(69,.int .i64 p.1)],[(0,.var 6 true ((bS b))),(2,.var 80 true ((aT s))),(45,.own 3 1 false none (p.2.map (V.int .i64)))],46⟩:St)∧((0≤p.1)∧(p.1≤(s.Leaves.length:Int))∧(((p.2).length:Int)≤p.1))∧((s.Leaves.length:Int) - p.1).toNat<n∧am n f23 d23 p=r) (((s.Leaves.length:Int) - 0).toNat+1) _ _ (jI 8 3 rfl (by decide)) sbQ sbQ ⟨(0,([]:List Int)),rfl,⟨omQ,omQ,omQ⟩,(Nat.lt_succ_self _),hM⟩ ?_
      clear hM
      rintro n23 S ⟨p23,rfl,hfa23,hm23,hM⟩
      replace hM:=aV hM (by omega) hf23;obtain ⟨ag23,hag23,hM⟩:=hM
      replace hfa23:=nzQ hfa23
      replace hm23:=nzQ hm23
      have ha23:ax .i64 p23.1 1=p23.1+1:=aZ omQ omQ
      refine aa (And.intro ha14 ha23) ?_
      refine aB (fun h24=> ?_) (fun h24=> ?_)
      ·rw [if_pos h24] at hM
       refine aa (And.intro ha14 (And.intro ha23 h24)) ?_
       have nh24:=nzQ h24
       try have hr25:=mpQ nh24
       have hF:=(And.intro h3 (And.intro h8 (And.intro h12 (And.intro ha14 (And.intro h15 (And.intro h17 (And.intro ha23 h24)))))))
       exact auQ
      ·rw [if_neg (ap h24)] at hM
       refine aa (And.intro ha14 (And.intro ha23 h24)) ?_
       have nh24:=nzQ h24
       try have hr37:=mpQ nh24
       replace hM:=ao hM;obtain ⟨x38,hx39,hM⟩:=hM
       have hcx38:=cmU hx39
       refine nQ hcx38 (jL 45 (T:=3) (n:=1) (g:=false) (z:=none) (l:=p23.2.map (V.int .i64)) (aC (And.intro ha14 ha23))) (aC (And.intro ha14 ha23)) (fun hw40=> ?_)
       replace hw40:=nzQ hw40
       refine aa (And.intro ha14 ha23) ?_
       have hF:=(And.intro h3 (And.intro h8 (And.intro h12 (And.intro ha14 (And.intro h15 (And.intro h17 (And.intro ha23 h24)))))))
       exact auQ
    ·rw [if_pos h15] at hM
     refine aa (And.intro ha14 h15) ?_
     subst hM
     exact aw (az (And.intro ha14 (And.intro h3 (And.intro h8 (And.intro h12 h15)))))
   ·rw [if_pos h12] at hM
    refine aa h12 ?_
    subst hM
    exact aw (az (And.intro h3 (And.intro h8 h12)))
  ·rw [if_pos h8] at hM
   refine aa h8 ?_
   subst hM
   exact aw (az (And.intro h3 h8))
 ·rw [if_pos h3] at hM
  refine aa h3 ?_
  subst hM
  exact aw (az h3)
set_option maxHeartbeats 2000000 in
set_option maxRecDepth 100000 in
theorem JB (h_:bX) (hp0:lA h_):CM En (cL h_) 185 [(bv h_)] (fun y=> .sl none 80 true (y.map aT)) (fun _=> []):=by
 refine cmQ fun r hM=> ?_
 rw [cL.eq_1] at hM
 refine av al ar noJ Tryz.func185 rfl Tryz.ntmps185 (by kernel_rfl) fun hw=>au ?_
 refine spQ ?_
 replace hw:=nzQ hw
 have h0_0:=AL hp0
 have hF:=aW
 exact auQ
set_option maxHeartbeats 2000000 in
set_option maxRecDepth 100000 in
instance OA (l:(List bu)) (c:bD):CM En (eg l c) 186 [.sl none 11 true (l.map bJ),(dm c)] (fun y=> .tup [(bJ y.1),.bool y.2]) (fun _=> []):=by
 refine cmQ fun r hM=> ?_
 rw [eg.eq_1] at hM
 refine av al ar noJ Tryz.func186 rfl Tryz.ntmps186 (by kernel_rfl) fun hw=>au ?_
 refine spQ ?_
 replace hw:=nzQ hw
 replace hM:=ao hM;obtain ⟨x1,hx2,hM⟩:=hM
 have hcx1:=cmU hx2
 refine aH hcx1 clQ clQ (fun hw3=> ?_)
 replace hw3:=nzQ hw3
 refine spQ ?_
 have hq4:=rO hx2
 replace hq4:=nzQ hq4
 have hF:=aW
 exact auQ
set_option maxHeartbeats 2000000 in
set_option maxRecDepth 100000 in
theorem JC (s:aO) (hp0:AK s):CM En (mX s) 356 [(aT s)] (fun y=> .agg [.int .i64 y.Kind,.int .i64 y.N,.sl none 1 false (y.B.map (V.int .u8)),.sl none 4 true (y.L.map a7)]) (fun _=> []):=by
 refine cmQ fun r hM=> ?_
 rw [mX.eq_1] at hM
 refine av al ar [13] Tryz.func356 rfl Tryz.ntmps356 (by kernel_rfl) fun hw=>au ?_
 refine spQ ?_
 replace hw:=nzQ hw
 replace hM:=aU hM;obtain ⟨f1,d1,hf1,hd1,hM⟩:=hM
 refine fC (fun n S=> ∃p:Int×List Int,S=(⟨[(1,.ptr 0 0),(2,.ptr 1 0),(3,.own 2),(10,.sl none 3 true (s.Leaves.map eL)),(11,.int .i64 (s.Leaves.length:Int)),(12,.int .i64 p.1)],[(0,.var 80 true ((aT s))),(1,.var 4 true (.agg [.int .i64 0,.int .i64 0,.sl (some true) 1 false [],.sl (some true) 4 true []])),(2,.own 3 1 false none (p.2.map (V.int .i64)))],3⟩:St)∧((0≤p.1)∧(p.1≤(s.Leaves.length:Int))∧(((p.2).length:Int)=3*p.1))∧((s.Leaves.length:Int) - p.1).toNat<n∧am n f1 d1 p=r) (((s.Leaves.length:Int) - 0).toNat+1) _ _ (jI 3 3 rfl (by decide)) sbQ sbQ ⟨(0,([]:List Int)),rfl,⟨by (first|exact omQ|(clear hM;first|(have h9:=hp0.1;have h8:=hp0.2;exact aq))),by (first|exact omQ|(clear hM;first|(have h9:=hp0.1;have h8:=hp0.2;exact aq))),by (first|exact omQ|(clear hM;first|(have h9:=hp0.1;have h8:=hp0.2;exact aq)))⟩,(Nat.lt_succ_self _),hM⟩ ?_
 clear hM
 rintro n1 S ⟨p1,rfl,hfa1,hm1,hM⟩
 replace hM:=aV hM (by omega) hf1;obtain ⟨ag1,hag1,hM⟩:=hM
 replace hfa1:=nzQ hfa1
 replace hm1:=nzQ hm1
 have ha1:ax .i64 p1.1 1=p1.1+1:=aZ (by (first|exact omQ|(clear hM;first|(have h9:=hp0.1;have h8:=hp0.2;exact aq)))) (by (first|exact omQ|(clear hM;first|(have h9:=hp0.1;have h8:=hp0.2;exact aq))))
 refine aa ha1 ?_
 refine aB (fun h2=> ?_) (fun h2=> ?_)
 ·rw [if_pos h2] at hM
  refine aa (And.intro ha1 h2) ?_
  have nh2:=nzQ h2
  try have hr3:=mpQ nh2
  refine aP (by (first|exact omQ|(clear hM;first|(have h9:=hp0.1;have h8:=hp0.2;exact aq)))) ?_
  have he4:=fun d=>bE (l:=s.Leaves) (f:=eL) (i:=p1.1) (by (first|exact omQ|(clear hM;first|(have h9:=hp0.1;have h8:=hp0.2;exact aq)))) d
  refine aa (And.intro ha1 he4) ?_
  refine aP (by (first|exact omQ|(clear hM;first|(have h9:=hp0.1;have h8:=hp0.2;exact aq)))) ?_
  refine aa (And.intro ha1 he4) ?_
  refine bM (n1 - 1) _ (by omega) sbQ sbQ ⟨((p1.1+1),(p1.2++([(gt s.Leaves p1.1).B,(gt s.Leaves p1.1).R1,(gt s.Leaves p1.1).R2]:List Int))),rfl,⟨by (first|exact omQ|(clear hM;first|(have h9:=hp0.1;have h8:=hp0.2;exact aq))),by (first|exact omQ|(clear hM;first|(have h9:=hp0.1;have h8:=hp0.2;exact aq))),by (first|exact omQ|(clear hM;first|(have h9:=hp0.1;have h8:=hp0.2;exact aq)))⟩,by (first|exact omQ|(clear hM;first|(have h9:=hp0.1;have h8:=hp0.2;exact aq))),bI hM hag1⟩
 ·rw [if_neg (ap h2)] at hM
  refine aa (And.intro ha1 h2) ?_
  have nh2:=nzQ h2
  try have hr5:=mpQ nh2
  refine gy ?_
  try refine aa ha1 ?_
  replace hM:=aU hM;obtain ⟨f6,d6,hf6,hd6,hM⟩:=hM
  refine a6 (fun n S=> ∃p:Int×List ak,S=(⟨[(1,.ptr 0 0),(2,.ptr 1 0),(3,.own 2),(6,.own 3),(33,.sl none 32 true (s.Path.L.map aI)),(34,.int .i64 (s.Path.L.length:Int)),(35,.int .i64 p.1)],[(0,.var 80 true ((aT s))),(1,.var 4 true (.agg [.int .i64 0,.int .i64 0,.sl (some true) 1 false [],.sl (some true) 4 true []])),(2,.own 3 1 false none (p1.2.map (V.int .i64))),(3,.own 170 4 true none (p.2.map a7))],4⟩:St)∧((0≤p.1)∧(p.1≤(s.Path.L.length:Int))∧(((p.2).length:Int)≤p.1+(([({Kind:=1,N:=s.Path.Index,B:=([]:List Int),L:=([]:List ak)}:ak)]:List ak)).length))∧((s.Path.L.length:Int) - p.1).toNat<n∧am n f6 d6 p=r) (((s.Path.L.length:Int) - 0).toNat+1) _ sbQ sbQ ⟨(0,([({Kind:=1,N:=s.Path.Index,B:=([]:List Int),L:=([]:List ak)}:ak)]:List ak)),rfl,⟨by (first|exact omQ|(clear hM;first|(have h9:=hp0.1;have h8:=hp0.2;exact aq))),by (first|exact omQ|(clear hM;first|(have h9:=hp0.1;have h8:=hp0.2;exact aq))),by (first|exact omQ|(clear hM;first|(have h9:=hp0.1;have h8:=hp0.2;exact aq)))⟩,(Nat.lt_succ_self _),hM⟩ ?_
  clear hM
  rintro n6 S ⟨p6,rfl,hfa6,hm6,hM⟩
  replace hM:=aV hM (by omega) hf6;obtain ⟨ag6,hag6,hM⟩:=hM
  replace hfa6:=nzQ hfa6
  replace hm6:=nzQ hm6
  have ha6:ax .i64 p6.1 1=p6.1+1:=aZ (by (first|exact omQ|(clear hM;first|(have h9:=hp0.1;have h8:=hp0.2;exact aq)))) (by (first|exact omQ|(clear hM;first|(have h9:=hp0.1;have h8:=hp0.2;exact aq))))
  refine aa (And.intro ha1 ha6) ?_
  refine aB (fun h7=> ?_) (fun h7=> ?_)
  ·rw [if_pos h7] at hM
   refine aa (And.intro ha1 (And.intro ha6 h7)) ?_
   have nh7:=nzQ h7
   try have hr8:=mpQ nh7
   refine aP (by (first|exact omQ|(clear hM;first|(have h9:=hp0.1;have h8:=hp0.2;exact aq)))) ?_
   have he9:=fun d=>bE (l:=s.Path.L) (f:=aI) (i:=p6.1) (by (first|exact omQ|(clear hM;first|(have h9:=hp0.1;have h8:=hp0.2;exact aq)))) d
   refine aa (And.intro ha1 (And.intro ha6 he9)) ?_
   replace hM:=ao hM;obtain ⟨x10,hx11,hM⟩:=hM
   have hcx10:=cmU hx11
   refine aH hcx10 (aC (And.intro ha1 (And.intro ha6 he9))) (aC (And.intro ha1 (And.intro ha6 he9))) (fun hw12=> ?_)
   replace hw12:=nzQ hw12
   refine aa (And.intro ha1 (And.intro ha6 he9)) ?_
   refine aP (by (first|exact omQ|(clear hM;first|(have h9:=hp0.1;have h8:=hp0.2;exact aq)))) ?_
   refine aa (And.intro ha1 (And.intro ha6 he9)) ?_
   refine bM (n6 - 1) _ (by omega) sbQ sbQ ⟨((p6.1+1),(p6.2++([x10]:List ak))),rfl,⟨by (first|exact omQ|(clear hM;first|(have h9:=hp0.1;have h8:=hp0.2;exact aq))),by (first|exact omQ|(clear hM;first|(have h9:=hp0.1;have h8:=hp0.2;exact aq))),by (first|exact omQ|(clear hM;first|(have h9:=hp0.1;have h8:=hp0.2;exact aq)))⟩,by (first|exact omQ|(clear hM;first|(have h9:=hp0.1;have h8:=hp0.2;exact aq))),bI hM hag6⟩
  ·rw [if_neg (ap h7)] at hM
   refine aa (And.intro ha1 (And.intro ha6 h7)) ?_
   have nh7:=nzQ h7
   try have hr13:=mpQ nh7
   refine g8 _ (⟨[(1,.ptr 0 0),(2,.ptr 1 0),(3,.sl none 1 false (p1.2.map (V.int .i64))),(6,.sl none 4 true (p6.2.map a7))],[(0,.var 80 true ((aT s))),(1,.var 4 true (.agg [.int .i64 0,.int .i64 0,.sl (some true) 1 false [],.sl (some true) 4 true []])),(2,.pown 1 false none (p1.2.map (V.int .i64))),(3,.pown 4 true none (p6.2.map a7))],4⟩:St) ((((nP (S:=⟨_,_,_⟩) 2 (T:=3) (n:=1) (g:=false) (z:=none) (l:=p1.2.map (V.int .i64)) (aC (And.intro ha1 ha6))).trans (ut (S:=⟨_,_,_⟩) 3 2 (n:=1) (g:=false) (z:=none) (l:=p1.2.map (V.int .i64)) (aC (And.intro ha1 ha6)) (aC (And.intro ha1 ha6)))).trans (nP (S:=⟨_,_,_⟩) 3 (T:=170) (n:=4) (g:=true) (z:=none) (l:=p6.2.map a7) (aC (And.intro ha1 ha6)))).trans (ut (S:=⟨_,_,_⟩) 6 3 (n:=4) (g:=true) (z:=none) (l:=p6.2.map a7) (aC (And.intro ha1 ha6)) (aC (And.intro ha1 ha6)))) sbQ sbQ ?_
   try refine aa (And.intro ha1 ha6) ?_
   refine bN 74 26 [45,46,47,48,49,50,51,52,53,54,55,56,57,58,59,60,61,62,63,64,65,66,67,68,69,70] [] ([[],[0],[0,1],[],[3],[3,4],[],[6],[6,7],[3,4,5,6,7,8],[0,1,2,3,4,5,6,7,8,9],[],[11],[11,12],[0,1,2,3,4,5,6,7,8,9,10,11,12,13],[],[15],[15,16],[],[18],[18,19],[15,16,17,18,19,20],[0,1,2,3,4,5,6,7,8,9,10,11,12,13,14,15,16,17,18,19,20,21],[],[0,1,2,3,4,5,6,7,8,9,10,11,12,13,14,15,16,17,18,19,20,21,22,23],[]]++[List.range 26,List.range 27,List.range 28,List.range 29]) [(9,13),(21,25)] (by kernel_rfl) (by exact alQ) ?_
   refine aa (And.intro ha1 ha6) ?_
   replace hM:=ao hM;obtain ⟨x14,hx15,hM⟩:=hM
   have hcx14:=cmU hx15
   refine bp hcx14 (aC (And.intro ha1 ha6)) (aC (And.intro ha1 ha6)) ?_
   refine aa (And.intro ha1 ha6) ?_
   replace hM:=ao hM;obtain ⟨x16,hx17,hM⟩:=hM
   have hcx16:=cmU hx17
   refine bp hcx16 (aC (And.intro ha1 ha6)) (aC (And.intro ha1 ha6)) ?_
   refine aa (And.intro ha1 ha6) ?_
   replace hM:=ao hM;obtain ⟨x18,hx19,hM⟩:=hM
   have hcx18:=cmU hx19
   refine bp hcx18 (aC (And.intro ha1 ha6)) (aC (And.intro ha1 ha6)) ?_
   refine aa (And.intro ha1 ha6) ?_
   replace hM:=ao hM;obtain ⟨x20,hx21,hM⟩:=hM
   have hcx20:=cmU hx21
   refine bp hcx20 (aC (And.intro ha1 ha6)) (aC (And.intro ha1 ha6)) ?_
   refine aa (And.intro ha1 ha6) ?_
   replace hM:=ao hM;obtain ⟨x22,hx23,hM⟩:=hM
   have hcx22:=cmU hx23
   refine bp hcx22 (aC (And.intro ha1 ha6)) (aC (And.intro ha1 ha6)) ?_
   refine aa (And.intro ha1 ha6) ?_
   replace hM:=ao hM;obtain ⟨x24,hx25,hM⟩:=hM
   have hcx24:=cmU hx25
   refine aH hcx24 (aC (And.intro ha1 ha6)) (aC (And.intro ha1 ha6)) (fun hw26=> ?_)
   replace hw26:=nzQ hw26
   refine aa (And.intro ha1 ha6) ?_
   replace hM:=ao hM;obtain ⟨x27,hx28,hM⟩:=hM
   have hcx27:=cmU hx28
   refine nQ hcx27 (jL 30 (T:=170) (n:=4) (g:=true) (z:=(some false)) (l:=([x14,x16,x18,x20,x22,x24]:List ak).map a7) (aC (And.intro ha1 ha6))) (aC (And.intro ha1 ha6)) (fun hw29=> ?_)
   replace hw29:=nzQ hw29
   refine aa (And.intro ha1 ha6) ?_
   subst hM
   exact aw (az (And.intro ha1 (And.intro ha6 (And.intro h2 h7))))
set_option maxHeartbeats 2000000 in
set_option maxRecDepth 100000 in
theorem JD (s:aO) (hp0:eQ s):CM En (vN s) 306 [(aT s)] (fun y=>(aI y)) (fun _=> []):=by
 refine cmQ fun r hM=> ?_
 rw [vN.eq_1] at hM
 refine av al ar noJ Tryz.func306 rfl Tryz.ntmps306 (by kernel_rfl) fun hw=>au ?_
 refine spQ ?_
 replace hw:=nzQ hw
 replace hM:=ao hM;obtain ⟨x1,hx2,hM⟩:=hM
 have hcx1:=cmH hx2 (JC s (by (exact IU hp0)))
 refine aH hcx1 clQ clQ (fun hw3=> ?_)
 replace hw3:=nzQ hw3
 refine spQ ?_
 have hq4:=IX hp0 hx2
 replace hq4:=nzQ hq4
 replace hM:=ao hM;obtain ⟨x5,hx6,hM⟩:=hM
 have hcx5:=cmH hx6 (km x1 (by (exact pfQ)))
 refine aH hcx5 clQ clQ (fun hw7=> ?_)
 replace hw7:=nzQ hw7
 refine spQ ?_
 have hq8:=kl hx6
 replace hq8:=nzQ hq8
 refine aB (fun h9=> ?_) (fun h9=> ?_)
 ·rw [if_pos h9] at hM
  refine aa h9 ?_
  subst hM
  exact aw (az h9)
 ·rw [if_neg (ap h9)] at hM
  refine aa h9 ?_
  have nh9:=nzQ h9
  try have hr11:=mpQ nh9
  replace hM:=ao hM;obtain ⟨x12,hx13,hM⟩:=hM
  have hcx12:=cmH hx13 (iC ([115,112,101,99,105,101,47,115,112,101,110,100,45,105,116,101,109]) (x5.1) (by (exact pfQ)))
  refine aH hcx12 clQ clQ (fun hw14=> ?_)
  replace hw14:=nzQ hw14
  refine spQ ?_
  subst hM
  exact aw (az h9)
set_option maxHeartbeats 2000000 in
set_option maxRecDepth 100000 in
theorem A2 (tag:(List UInt8)) (l:(List (List Int))) (hp0:l.length≤40):CM En (rm tag l) 305 [.str tag,.sl none 32 true (l.map aI)] (fun y=>(aI y)) (fun _=> []):=by
 refine cmQ fun r hM=> ?_
 rw [rm.eq_1] at hM
 refine av al ar [5] Tryz.func305 rfl Tryz.ntmps305 (by kernel_rfl) fun hw=>au ?_
 refine spQ ?_
 replace hw:=nzQ hw
 replace hM:=aU hM;obtain ⟨f1,d1,hf1,hd1,hM⟩:=hM
 refine fC (fun n S=> ∃p:Int×List ak,S=(⟨[(0,.str tag),(4,.ptr 0 0),(5,.ptr 1 0),(13,.sl none 32 true (l.map aI)),(14,.int .i64 (l.length:Int)),(15,.int .i64 p.1)],[(0,.var 32 true (fJ)),(1,.var 4 true (.agg [.int .i64 3,.int .i64 0,.sl (some true) 1 false [],.own 2])),(2,.own 170 4 true none (p.2.map a7))],3⟩:St)∧(((0≤p.1)∧(p.1≤(l.length:Int))∧(((p.2).length:Int)≤p.1))∧((bK (p.2):Int)≤40*p.1))∧((l.length:Int) - p.1).toNat<n∧am n f1 d1 p=r) (((l.length:Int) - 0).toNat+1) _ _ (qF 1 3 170 rfl rfl (by decide)) sbQ sbQ ⟨(0,([]:List ak)),rfl,⟨⟨omQ,omQ,omQ⟩,by (simp only [bK];omega)⟩,(Nat.lt_succ_self _),hM⟩ ?_
 clear hM
 rintro n1 S ⟨p1,rfl,⟨hfa1,hF3_0⟩,hm1,hM⟩
 replace hM:=aV hM (by omega) hf1;obtain ⟨ag1,hag1,hM⟩:=hM
 replace hfa1:=nzQ hfa1
 replace hm1:=nzQ hm1
 have ha1:ax .i64 p1.1 1=p1.1+1:=aZ omQ omQ
 refine aa ha1 ?_
 refine aB (fun h2=> ?_) (fun h2=> ?_)
 ·rw [if_pos h2] at hM
  refine aa (And.intro ha1 h2) ?_
  have nh2:=nzQ h2
  try have hr3:=mpQ nh2
  refine gy ?_
  try refine aa ha1 ?_
  refine aP omQ ?_
  have he4:=fun d=>bE (l:=l) (f:=aI) (i:=p1.1) omQ d
  refine aa (And.intro ha1 he4) ?_
  refine g8 _ (⟨[(0,.str tag),(4,.ptr 0 0),(5,.ptr 1 0),(7,.ptr 3 0),(13,.sl none 32 true (l.map aI)),(14,.int .i64 (l.length:Int)),(15,.int .i64 p1.1)],[(0,.var 32 true (fJ)),(1,.var 4 true (.agg [.int .i64 3,.int .i64 0,.sl (some true) 1 false [],.own 2])),(2,.own 170 4 true none (p1.2.map a7)),(3,.pvar 32 true ((aI (gt l p1.1))))],4⟩:St) (g7 (S:=⟨_,_,_⟩) 3 (n:=32) (g:=true) (d:=(aI (gt l p1.1))) (aC (And.intro ha1 he4)) (aC (And.intro ha1 he4))) sbQ sbQ ?_
  try refine aa (And.intro ha1 he4) ?_
  refine bN 40 6 [19,20,21,22,23,24] [] ([[],[0],[],[2],[2,3],[2,3,4]]++[List.range 6,List.range 7,List.range 8]) [] (by kernel_rfl) (by exact alQ) ?_
  refine aa (And.intro ha1 he4) ?_
  replace hM:=ao hM;obtain ⟨x5,hx6,hM⟩:=hM
  have hcx5:=bk.pub ((wM (some false) (bc 32 (gt l p1.1))))
  rw [←hx6] at hcx5
  refine bp hcx5 (aC (And.intro ha1 he4)) (aC (And.intro ha1 he4)) ?_
  refine aa (And.intro ha1 he4) ?_
  have hq7:=IW hx6
  replace hq7:=nzQ hq7
  refine aP omQ ?_
  refine aa (And.intro ha1 he4) ?_
  refine bM (n1 - 1) _ (by omega) sbQ sbQ ⟨((p1.1+1),(p1.2++([({Kind:=2,N:=0,B:=x5,L:=([]:List ak)}:ak)]:List ak))),rfl,⟨⟨omQ,omQ,omQ⟩,by (clear hM;simp only [oK,bK,hgt,List.length_append,List.length_cons,List.length_nil];omega)⟩,omQ,bI hM hag1⟩
 ·rw [if_neg (ap h2)] at hM
  refine aa (And.intro ha1 h2) ?_
  have nh2:=nzQ h2
  try have hr8:=mpQ nh2
  replace hM:=ao hM;obtain ⟨x9,hx10,hM⟩:=hM
  have hcx9:=cmH hx10 (km ({Kind:=3,N:=0,B:=([]:List Int),L:=p1.2}:ak) (by (simp only [hgt,List.length_nil];omega)))
  refine nQ hcx9 (jL 2 (T:=170) (n:=4) (g:=true) (z:=none) (l:=p1.2.map a7) (aC ha1)) (aC ha1) (fun hw11=> ?_)
  replace hw11:=nzQ hw11
  refine aa ha1 ?_
  have hq12:=kl hx10
  replace hq12:=nzQ hq12
  replace hM:=ao hM;obtain ⟨x13,hx14,hM⟩:=hM
  have hcx13:=cmH hx14 (iC tag (x9.1) (by (exact pfQ)))
  refine aH hcx13 (aC ha1) (aC ha1) (fun hw15=> ?_)
  replace hw15:=nzQ hw15
  refine aa ha1 ?_
  subst hM
  exact aw (az (And.intro ha1 h2))
set_option maxHeartbeats 2000000 in
set_option maxRecDepth 100000 in
theorem JE (l:(List aO)) (hp0:oL l):CM En (vO l) 247 [.sl none 80 true (l.map aT)] (fun y=>(aI y)) (fun _=> []):=by
 refine cmQ fun r hM=> ?_
 rw [vO.eq_1] at hM
 refine av al ar noJ Tryz.func247 rfl Tryz.ntmps247 (by kernel_rfl) fun hw=>au ?_
 refine spQ ?_
 replace hw:=nzQ hw
 have h0_0:=hp0.1
 refine aB (fun h1=> ?_) (fun h1=> ?_)
 ·rw [if_pos h1] at hM
  refine aa h1 ?_
  subst hM
  exact aw (az h1)
 ·rw [if_neg (ap h1)] at hM
  refine aa h1 ?_
  have nh1:=nzQ h1
  try have hr3:=mpQ nh1
  replace hM:=aU hM;obtain ⟨f4,d4,hf4,hd4,hM⟩:=hM
  refine fC (fun n S=> ∃p:Int×List (List Int),S=(⟨[(2,.ptr 0 0),(3,.own 1),(10,.sl none 80 true (l.map aT)),(11,.int .i64 (l.length:Int)),(12,.int .i64 p.1)],[(0,.var 32 true (fJ)),(1,.own 28 32 true none (p.2.map aI))],2⟩:St)∧((0≤p.1)∧(p.1≤(l.length:Int))∧(((p.2).length:Int)≤p.1))∧((l.length:Int) - p.1).toNat<n∧am n f4 d4 p=r) (((l.length:Int) - 0).toNat+1) _ _ (jI 3 28 rfl (by decide)) sbQ sbQ ⟨(0,([]:List (List Int))),rfl,⟨omQ,omQ,omQ⟩,(Nat.lt_succ_self _),hM⟩ ?_
  clear hM
  rintro n4 S ⟨p4,rfl,hfa4,hm4,hM⟩
  replace hM:=aV hM (by omega) hf4;obtain ⟨ag4,hag4,hM⟩:=hM
  replace hfa4:=nzQ hfa4
  replace hm4:=nzQ hm4
  have ha4:ax .i64 p4.1 1=p4.1+1:=aZ omQ omQ
  refine aa ha4 ?_
  refine aB (fun h5=> ?_) (fun h5=> ?_)
  ·rw [if_pos h5] at hM
   refine aa (And.intro ha4 h5) ?_
   have nh5:=nzQ h5
   try have hr6:=mpQ nh5
   refine aP omQ ?_
   have he7:=fun d=>bE (l:=l) (f:=aT) (i:=p4.1) omQ d
   refine aa (And.intro ha4 he7) ?_
   replace hM:=ao hM;obtain ⟨x8,hx9,hM⟩:=hM
   have hcx8:=cmH hx9 (JD (gt l p4.1) (by (exact hp0.2 _ (ca (by omega)))))
   refine aH hcx8 (aC (And.intro ha4 he7)) (aC (And.intro ha4 he7)) (fun hw10=> ?_)
   replace hw10:=nzQ hw10
   refine aa (And.intro ha4 he7) ?_
   have hF:=(And.intro h1 (And.intro ha4 (And.intro h5 he7)))
   exact auQ
  ·rw [if_neg (ap h5)] at hM
   refine aa (And.intro ha4 h5) ?_
   have nh5:=nzQ h5
   try have hr11:=mpQ nh5
   replace hM:=ao hM;obtain ⟨x12,hx13,hM⟩:=hM
   have hcx12:=cmH hx13 (A2 ([115,112,101,99,105,101,47,99,104,97,105,110]) (p4.2) (by (exact pfQ)))
   refine gZ hcx12 (aC ha4) (aC ha4) (fun hw14=> ?_)
   replace hw14:=nzQ hw14
   refine aa ha4 ?_
   subst hM
   exact aw (az (And.intro ha4 (And.intro h1 h5)))
set_option maxHeartbeats 2000000 in
set_option maxRecDepth 100000 in
instance OB (c:bD) (before:(List Int)):CM En (vP c before) 246 [(dm c),(aI before)] (fun y=>(aI y)) (fun _=> []):=by
 refine cmQ fun r hM=> ?_
 rw [vP.eq_1] at hM
 refine av al ar noJ Tryz.func246 rfl Tryz.ntmps246 (by kernel_rfl) fun hw=>au ?_
 refine spQ ?_
 replace hw:=nzQ hw
 refine bN 10 3 [5,6,7] [] ([[],[0],[]]++[List.range 3,List.range 4,List.range 5]) [] (by kernel_rfl) (by exact alQ) ?_
 refine spQ ?_
 replace hM:=ao hM;obtain ⟨x1,hx2,hM⟩:=hM
 have hcx1:=cmU hx2
 refine bp hcx1 clQ clQ ?_
 refine spQ ?_
 replace hM:=ao hM;obtain ⟨x3,hx4,hM⟩:=hM
 have hcx3:=cmH hx4 (A2 ([115,112,101,99,105,101,47,99,104,97,105,110,45,110,101,120,116]) ([x1,before]:List (List Int)) (by (exact pfQ)))
 refine gZ hcx3 clQ clQ (fun hw5=> ?_)
 replace hw5:=nzQ hw5
 refine spQ ?_
 subst hM
 exact aw lfQ
set_option maxHeartbeats 2000000 in
set_option maxRecDepth 100000 in
theorem rX (l:(List aO)) (next:bD) (hp0:oL l) (hp1:1≤l.length):CM En (mY l next) 187 [.sl none 80 true (l.map aT),(dm next)] (fun y=> .bool y) (fun _=> []):=by
 refine cmQ fun r hM=> ?_
 rw [mY.eq_1] at hM
 refine av al ar noJ Tryz.func187 rfl Tryz.ntmps187 (by kernel_rfl) fun hw=>au ?_
 refine spQ ?_
 replace hw:=nzQ hw
 have h0_0:=hp0.1
 have ha1:aG .i64 (l.length:Int) 1=((l.length:Int) - 1):=dl omQ omQ
 try simp only [ha1]
 refine aP omQ ?_
 have he2:=fun d=>bE (l:=l) (f:=aT) (i:=((l.length:Int) - 1)) omQ d
 refine aa (And.intro ha1 he2) ?_
 refine bN 30 13 [15,16,17,18,19,20,21,22,23,24,25,26,27] [] ([[],[0],[],[0,1,2],[0,1,2,3],[0,1,2,3,4],[0,1,2,3,4,5],[0,1,2,3,4],[0,1,2,3,4],[0,1,2,3,4],[0,1,2,3,4,8,9],[0,1,2,3,4,8,9,10],[0,1,2,3,4,7,8,9,10,11]]++[List.range 13,List.range 14,List.range 15]) [] (by kernel_rfl) (by exact alQ) ?_
 refine aa (And.intro ha1 he2) ?_
 refine gm (fun h3=> ?_) (fun h3=> ?_)
 ·rw [if_pos h3] at hM
  refine aa (And.intro ha1 (And.intro he2 h3)) ?_
  have nh3:=nzQ h3
  try have hr4:=mpQ nh3
  refine b_ omQ ?_
  refine aa (And.intro ha1 he2) ?_
  replace hM:=ao hM;obtain ⟨x5,hx6,hM⟩:=hM
  have hcx5:=cmH hx6 (JE (sl l 0 ((l.length:Int) - 1)) (by (exact jh hp0)))
  refine bp hcx5 (aC (And.intro ha1 he2)) (aC (And.intro ha1 he2)) ?_
  refine aa (And.intro ha1 he2) ?_
  have hF:=(And.intro ha1 (And.intro he2 h3))
  exact auQ
 ·rw [if_neg (ap h3)] at hM
  refine aa (And.intro ha1 (And.intro he2 h3)) ?_
  subst hM
  exact aw (az (And.intro ha1 (And.intro he2 h3)))
set_option maxHeartbeats 2000000 in
set_option maxRecDepth 100000 in
theorem JF (b:a8) (l:(List bu)) (h_:bX) (hp0:lA h_):CM En (mZ b l h_) 118 [(bS b),.sl none 11 true (l.map bJ),(bv h_)] (fun y=> .bool y) (fun _=> []):=by
 refine cmQ fun r hM=> ?_
 rw [mZ.eq_1] at hM
 refine av al ar noJ Tryz.func118 rfl Tryz.ntmps118 (by kernel_rfl) fun hw=>au ?_
 refine spQ ?_
 replace hw:=nzQ hw
 have h0_0:=AL hp0
 replace hM:=ao hM;obtain ⟨x1,hx2,hM⟩:=hM
 have hcx1:=cmU hx2
 refine aH hcx1 clQ clQ (fun hw3=> ?_)
 replace hw3:=nzQ hw3
 refine spQ ?_
 refine cr (fun h4=> ?_) (fun h4=> ?_)
 ·rw [if_neg (ap h4)] at hM
  refine aa h4 ?_
  have nh4:=nzQ h4
  try have hr5:=mpQ nh4
  refine aB (fun h6=> ?_) (fun h6=> ?_)
  ·rw [if_pos h6] at hM
   refine aa h6 ?_
   subst hM
   exact aw (az (And.intro h4 h6))
  ·rw [if_neg (ap h6)] at hM
   refine aa h6 ?_
   have nh6:=nzQ h6
   try have hr8:=mpQ nh6
   replace hM:=ao hM;obtain ⟨x9,hx10,hM⟩:=hM
   have hcx9:=cmH hx10 (JB h_ (by (exact hp0)))
   refine aH hcx9 clQ clQ (fun hw11=> ?_)
   replace hw11:=nzQ hw11
   refine spQ ?_
   have hq12:=AM hx10
   replace hq12:=nzQ hq12
   replace hM:=aU hM;obtain ⟨f13,d13,hf13,hd13,hM⟩:=hM
   refine a6 (fun n S=> ∃p:Int,S=(⟨[(1,.sl none 11 true (l.map bJ)),(3,.ptr 0 0),(7,.sl none 80 true (x9.map aT)),(23,.sl none 80 true (x9.map aT)),(24,.int .i64 (x9.length:Int)),(25,.int .i64 p)],[(0,.var 6 true ((bS b)))],2⟩:St)∧((0≤p)∧(p≤(x9.length:Int)))∧((x9.length:Int) - p).toNat<n∧am n f13 d13 p=r) (((x9.length:Int) - 0).toNat+1) _ sbQ sbQ ⟨0,rfl,⟨omQ,omQ⟩,(Nat.lt_succ_self _),hM⟩ ?_
   clear hM
   rintro n13 S ⟨p13,rfl,hfa13,hm13,hM⟩
   replace hM:=aV hM (by omega) hf13;obtain ⟨ag13,hag13,hM⟩:=hM
   replace hfa13:=nzQ hfa13
   replace hm13:=nzQ hm13
   have ha13:ax .i64 p13 1=p13+1:=aZ omQ omQ
   refine aa ha13 ?_
   refine aB (fun h14=> ?_) (fun h14=> ?_)
   ·rw [if_pos h14] at hM
    refine aa (And.intro ha13 h14) ?_
    have nh14:=nzQ h14
    try have hr15:=mpQ nh14
    refine aP omQ ?_
    have he16:=fun d=>bE (l:=x9) (f:=aT) (i:=p13) omQ d
    refine aa (And.intro ha13 he16) ?_
    replace hM:=ao hM;obtain ⟨x17,hx18,hM⟩:=hM
    have hcx17:=cmU hx18
    refine aH hcx17 (aC (And.intro ha13 he16)) (aC (And.intro ha13 he16)) (fun hw19=> ?_)
    replace hw19:=nzQ hw19
    refine aa (And.intro ha13 he16) ?_
    refine cr (fun h20=> ?_) (fun h20=> ?_)
    ·rw [if_neg (ap h20)] at hM
     refine aa (And.intro ha13 (And.intro he16 h20)) ?_
     have nh20:=nzQ h20
     try have hr21:=mpQ nh20
     replace hM:=ao hM;obtain ⟨x22,hx23,hM⟩:=hM
     have hcx22:=cmH hx23 (A1 b (x17.1) (gt x9 p13) (by (exact (ji hp0 ‹_=cL _›).2 _ (ca (by omega)))))
     refine aH hcx22 (aC (And.intro ha13 he16)) (aC (And.intro ha13 he16)) (fun hw24=> ?_)
     replace hw24:=nzQ hw24
     refine aa (And.intro ha13 he16) ?_
     refine aB (fun h25=> ?_) (fun h25=> ?_)
     ·rw [if_pos h25] at hM
      refine aa (And.intro ha13 (And.intro he16 h25)) ?_
      subst hM
      exact aw (az (And.intro ha13 (And.intro he16 (And.intro h4 (And.intro h6 (And.intro h14 (And.intro h20 h25)))))))
     ·rw [if_neg (ap h25)] at hM
      refine aa (And.intro ha13 (And.intro he16 h25)) ?_
      have nh25:=nzQ h25
      try have hr27:=mpQ nh25
      refine gh (fun h28=> ?_) (fun h28=> ?_)
      ·rw [if_pos h28] at hM
       refine aa (And.intro ha13 (And.intro he16 h28)) ?_
       have nh28:=nzQ h28
       try have hr29:=mpQ nh28
       refine cr (fun h30=> ?_) (fun h30=> ?_)
       ·rw [if_neg (ap h30)] at hM
        refine aa (And.intro ha13 (And.intro he16 h30)) ?_
        have nh30:=nzQ h30
        try have hr31:=mpQ nh30
        refine gh (fun h32=> ?_) (fun h32=> ?_)
        ·rw [if_pos h32] at hM
         refine aa (And.intro ha13 (And.intro he16 h32)) ?_
         have nh32:=nzQ h32
         try have hr33:=mpQ nh32
         refine cr (fun h34=> ?_) (fun h34=> ?_)
         ·rw [if_neg (ap h34)] at hM
          refine aa (And.intro ha13 (And.intro he16 h34)) ?_
          have nh34:=nzQ h34
          try have hr35:=mpQ nh34
          refine aB (fun h36=> ?_) (fun h36=> ?_)
          ·rw [if_pos h36] at hM
           refine aa (And.intro ha13 (And.intro he16 h36)) ?_
           subst hM
           exact aw (az (And.intro ha13 (And.intro he16 (And.intro h4 (And.intro h6 (And.intro h14 (And.intro h20 (And.intro h25 (And.intro h28 (And.intro h30 (And.intro h32 (And.intro h34 h36))))))))))))
          ·rw [if_neg (ap h36)] at hM
           refine aa (And.intro ha13 (And.intro he16 h36)) ?_
           have nh36:=nzQ h36
           try have hr38:=mpQ nh36
           refine bN 92 21 [67,68,69,70,71,72,73,74,75,76,77,78,79,80,81,82,83,84,85,86,87] [] ([[],[0],[0,1],[0,1,2],[0,1,2],[0,1,2,3,4],[0,1,2],[0,1,2,6],[0,1,2,3,4,5,6,7],[0,1,2,3,4,5,6,7,8],[0,1,2,3,4,5,6,7,8,9],[0,1,2,3,4,5,6,7,8,9,10],[0,1,2,3,4,5,6,7,8,9,10,11],[0,1,2,3,4,5,6,7,8,9,10,11,12],[0,1,2,3,4,5,6,7,8,9,10],[0,1,2,3,4,5,6,7,8,9,10],[0,1,2,3,4,5,6,7,8,9,10,15],[0,1,2,3,4,5,6,7,8,9,10,14,15,16],[0,1,2,3,4,5,6,7,8,9,10,14,15,16,17],[0,1,2,3,4,5,6,7,8,9,10,14,15,16,17,18],[0,1,2,3,4,5,6,7,8,9,10,14,15,16,17,18,19]]++[List.range 21,List.range 22,List.range 23]) [] (by kernel_rfl) (by exact alQ) ?_
           refine aa (And.intro ha13 he16) ?_
           refine gm (fun h39=> ?_) (fun h39=> ?_)
           ·rw [if_pos h39] at hM
            refine aa (And.intro ha13 (And.intro he16 h39)) ?_
            have nh39:=nzQ h39
            try have hr40:=mpQ nh39
            refine b_ omQ ?_
            refine aa (And.intro ha13 he16) ?_
            replace hM:=ao hM;obtain ⟨x41,hx42,hM⟩:=hM
            have hcx41:=cmH hx42 (rX (sl x9 0 p13) ((gt x9 p13).Coin) (by (first|exact jh (ji hp0 ‹_=cL _›)|(clear hM;exact aq))) (by (first|exact jh (ji hp0 ‹_=cL _›)|(clear hM;exact aq))))
            refine bp hcx41 (aC (And.intro ha13 he16)) (aC (And.intro ha13 he16)) ?_
            refine aa (And.intro ha13 he16) ?_
            refine dk (fun h43=> ?_) (fun h43=> ?_)
            ·rw [if_neg (ap h43)] at hM
             refine aa (And.intro ha13 (And.intro he16 h43)) ?_
             have nh43:=nzQ h43
             try have hr44:=mpQ nh43
             have ha45:aG .i64 p13 1=(p13 - 1):=dl omQ omQ
             try simp only [ha45]
             have hF:=(And.intro h4 (And.intro h6 (And.intro ha13 (And.intro h14 (And.intro he16 (And.intro h20 (And.intro h25 (And.intro h28 (And.intro h30 (And.intro h32 (And.intro h34 (And.intro h36 (And.intro h39 (And.intro h43 ha45))))))))))))))
             exact auQ
            ·rw [if_pos h43] at hM
             refine aa (And.intro ha13 (And.intro he16 h43)) ?_
             subst hM
             exact aw (az (And.intro ha13 (And.intro he16 (And.intro h4 (And.intro h6 (And.intro h14 (And.intro h20 (And.intro h25 (And.intro h28 (And.intro h30 (And.intro h32 (And.intro h34 (And.intro h36 (And.intro h39 h43))))))))))))))
           ·rw [if_neg (ap h39)] at hM
            refine aa (And.intro ha13 (And.intro he16 h39)) ?_
            have nh39:=nzQ h39
            try have hr51:=mpQ nh39
            refine bM (n13 - 1) _ (by omega) sbQ sbQ ⟨(p13+1),rfl,⟨omQ,omQ⟩,omQ,bI hM hag13⟩
         ·rw [if_pos h34] at hM
          refine aa (And.intro ha13 (And.intro he16 h34)) ?_
          subst hM
          exact aw (az (And.intro ha13 (And.intro he16 (And.intro h4 (And.intro h6 (And.intro h14 (And.intro h20 (And.intro h25 (And.intro h28 (And.intro h30 (And.intro h32 h34)))))))))))
        ·rw [if_neg (ap h32)] at hM
         refine aa (And.intro ha13 (And.intro he16 h32)) ?_
         have nh32:=nzQ h32
         try have hr53:=mpQ nh32
         refine bN 92 21 [67,68,69,70,71,72,73,74,75,76,77,78,79,80,81,82,83,84,85,86,87] [] ([[],[0],[0,1],[0,1,2],[0,1,2],[0,1,2,3,4],[0,1,2],[0,1,2,6],[0,1,2,3,4,5,6,7],[0,1,2,3,4,5,6,7,8],[0,1,2,3,4,5,6,7,8,9],[0,1,2,3,4,5,6,7,8,9,10],[0,1,2,3,4,5,6,7,8,9,10,11],[0,1,2,3,4,5,6,7,8,9,10,11,12],[0,1,2,3,4,5,6,7,8,9,10],[0,1,2,3,4,5,6,7,8,9,10],[0,1,2,3,4,5,6,7,8,9,10,15],[0,1,2,3,4,5,6,7,8,9,10,14,15,16],[0,1,2,3,4,5,6,7,8,9,10,14,15,16,17],[0,1,2,3,4,5,6,7,8,9,10,14,15,16,17,18],[0,1,2,3,4,5,6,7,8,9,10,14,15,16,17,18,19]]++[List.range 21,List.range 22,List.range 23]) [] (by kernel_rfl) (by exact alQ) ?_
         refine aa (And.intro ha13 he16) ?_
         refine gm (fun h54=> ?_) (fun h54=> ?_)
         ·rw [if_pos h54] at hM
          refine aa (And.intro ha13 (And.intro he16 h54)) ?_
          have nh54:=nzQ h54
          try have hr55:=mpQ nh54
          refine b_ omQ ?_
          refine aa (And.intro ha13 he16) ?_
          replace hM:=ao hM;obtain ⟨x56,hx57,hM⟩:=hM
          have hcx56:=cmH hx57 (rX (sl x9 0 p13) ((gt x9 p13).Coin) (by (first|exact jh (ji hp0 ‹_=cL _›)|(clear hM;exact aq))) (by (first|exact jh (ji hp0 ‹_=cL _›)|(clear hM;exact aq))))
          refine bp hcx56 (aC (And.intro ha13 he16)) (aC (And.intro ha13 he16)) ?_
          refine aa (And.intro ha13 he16) ?_
          refine dk (fun h58=> ?_) (fun h58=> ?_)
          ·rw [if_neg (ap h58)] at hM
           refine aa (And.intro ha13 (And.intro he16 h58)) ?_
           have nh58:=nzQ h58
           try have hr59:=mpQ nh58
           have ha60:aG .i64 p13 1=(p13 - 1):=dl omQ omQ
           try simp only [ha60]
           have hF:=(And.intro h4 (And.intro h6 (And.intro ha13 (And.intro h14 (And.intro he16 (And.intro h20 (And.intro h25 (And.intro h28 (And.intro h30 (And.intro h32 (And.intro h54 (And.intro h58 ha60))))))))))))
           exact auQ
          ·rw [if_pos h58] at hM
           refine aa (And.intro ha13 (And.intro he16 h58)) ?_
           subst hM
           exact aw (az (And.intro ha13 (And.intro he16 (And.intro h4 (And.intro h6 (And.intro h14 (And.intro h20 (And.intro h25 (And.intro h28 (And.intro h30 (And.intro h32 (And.intro h54 h58))))))))))))
         ·rw [if_neg (ap h54)] at hM
          refine aa (And.intro ha13 (And.intro he16 h54)) ?_
          have nh54:=nzQ h54
          try have hr66:=mpQ nh54
          refine bM (n13 - 1) _ (by omega) sbQ sbQ ⟨(p13+1),rfl,⟨omQ,omQ⟩,omQ,bI hM hag13⟩
       ·rw [if_pos h30] at hM
        refine aa (And.intro ha13 (And.intro he16 h30)) ?_
        subst hM
        exact aw (az (And.intro ha13 (And.intro he16 (And.intro h4 (And.intro h6 (And.intro h14 (And.intro h20 (And.intro h25 (And.intro h28 h30)))))))))
      ·rw [if_neg (ap h28)] at hM
       refine aa (And.intro ha13 (And.intro he16 h28)) ?_
       have nh28:=nzQ h28
       try have hr68:=mpQ nh28
       refine gh (fun h69=> ?_) (fun h69=> ?_)
       ·rw [if_pos h69] at hM
        refine aa (And.intro ha13 (And.intro he16 h69)) ?_
        have nh69:=nzQ h69
        try have hr70:=mpQ nh69
        refine cr (fun h71=> ?_) (fun h71=> ?_)
        ·rw [if_neg (ap h71)] at hM
         refine aa (And.intro ha13 (And.intro he16 h71)) ?_
         have nh71:=nzQ h71
         try have hr72:=mpQ nh71
         refine aB (fun h73=> ?_) (fun h73=> ?_)
         ·rw [if_pos h73] at hM
          refine aa (And.intro ha13 (And.intro he16 h73)) ?_
          subst hM
          exact aw (az (And.intro ha13 (And.intro he16 (And.intro h4 (And.intro h6 (And.intro h14 (And.intro h20 (And.intro h25 (And.intro h28 (And.intro h69 (And.intro h71 h73)))))))))))
         ·rw [if_neg (ap h73)] at hM
          refine aa (And.intro ha13 (And.intro he16 h73)) ?_
          have nh73:=nzQ h73
          try have hr75:=mpQ nh73
          refine bN 92 21 [67,68,69,70,71,72,73,74,75,76,77,78,79,80,81,82,83,84,85,86,87] [] ([[],[0],[0,1],[0,1,2],[0,1,2],[0,1,2,3,4],[0,1,2],[0,1,2,6],[0,1,2,3,4,5,6,7],[0,1,2,3,4,5,6,7,8],[0,1,2,3,4,5,6,7,8,9],[0,1,2,3,4,5,6,7,8,9,10],[0,1,2,3,4,5,6,7,8,9,10,11],[0,1,2,3,4,5,6,7,8,9,10,11,12],[0,1,2,3,4,5,6,7,8,9,10],[0,1,2,3,4,5,6,7,8,9,10],[0,1,2,3,4,5,6,7,8,9,10,15],[0,1,2,3,4,5,6,7,8,9,10,14,15,16],[0,1,2,3,4,5,6,7,8,9,10,14,15,16,17],[0,1,2,3,4,5,6,7,8,9,10,14,15,16,17,18],[0,1,2,3,4,5,6,7,8,9,10,14,15,16,17,18,19]]++[List.range 21,List.range 22,List.range 23]) [] (by kernel_rfl) (by exact alQ) ?_
          refine aa (And.intro ha13 he16) ?_
          refine gm (fun h76=> ?_) (fun h76=> ?_)
          ·rw [if_pos h76] at hM
           refine aa (And.intro ha13 (And.intro he16 h76)) ?_
           have nh76:=nzQ h76
           try have hr77:=mpQ nh76
           refine b_ omQ ?_
           refine aa (And.intro ha13 he16) ?_
           replace hM:=ao hM;obtain ⟨x78,hx79,hM⟩:=hM
           have hcx78:=cmH hx79 (rX (sl x9 0 p13) ((gt x9 p13).Coin) (by (first|exact jh (ji hp0 ‹_=cL _›)|(clear hM;exact aq))) (by (first|exact jh (ji hp0 ‹_=cL _›)|(clear hM;exact aq))))
           refine bp hcx78 (aC (And.intro ha13 he16)) (aC (And.intro ha13 he16)) ?_
           refine aa (And.intro ha13 he16) ?_
           refine dk (fun h80=> ?_) (fun h80=> ?_)
           ·rw [if_neg (ap h80)] at hM
            refine aa (And.intro ha13 (And.intro he16 h80)) ?_
            have nh80:=nzQ h80
            try have hr81:=mpQ nh80
            have ha82:aG .i64 p13 1=(p13 - 1):=dl omQ omQ
            try simp only [ha82]
            have hF:=(And.intro h4 (And.intro h6 (And.intro ha13 (And.intro h14 (And.intro he16 (And.intro h20 (And.intro h25 (And.intro h28 (And.intro h69 (And.intro h71 (And.intro h73 (And.intro h76 (And.intro h80 ha82)))))))))))))
            exact auQ
           ·rw [if_pos h80] at hM
            refine aa (And.intro ha13 (And.intro he16 h80)) ?_
            subst hM
            exact aw (az (And.intro ha13 (And.intro he16 (And.intro h4 (And.intro h6 (And.intro h14 (And.intro h20 (And.intro h25 (And.intro h28 (And.intro h69 (And.intro h71 (And.intro h73 (And.intro h76 h80)))))))))))))
          ·rw [if_neg (ap h76)] at hM
           refine aa (And.intro ha13 (And.intro he16 h76)) ?_
           have nh76:=nzQ h76
           try have hr88:=mpQ nh76
           refine bM (n13 - 1) _ (by omega) sbQ sbQ ⟨(p13+1),rfl,⟨omQ,omQ⟩,omQ,bI hM hag13⟩
        ·rw [if_pos h71] at hM
         refine aa (And.intro ha13 (And.intro he16 h71)) ?_
         subst hM
         exact aw (az (And.intro ha13 (And.intro he16 (And.intro h4 (And.intro h6 (And.intro h14 (And.intro h20 (And.intro h25 (And.intro h28 (And.intro h69 h71))))))))))
       ·rw [if_neg (ap h69)] at hM
        refine aa (And.intro ha13 (And.intro he16 h69)) ?_
        have nh69:=nzQ h69
        try have hr90:=mpQ nh69
        refine bN 92 21 [67,68,69,70,71,72,73,74,75,76,77,78,79,80,81,82,83,84,85,86,87] [] ([[],[0],[0,1],[0,1,2],[0,1,2],[0,1,2,3,4],[0,1,2],[0,1,2,6],[0,1,2,3,4,5,6,7],[0,1,2,3,4,5,6,7,8],[0,1,2,3,4,5,6,7,8,9],[0,1,2,3,4,5,6,7,8,9,10],[0,1,2,3,4,5,6,7,8,9,10,11],[0,1,2,3,4,5,6,7,8,9,10,11,12],[0,1,2,3,4,5,6,7,8,9,10],[0,1,2,3,4,5,6,7,8,9,10],[0,1,2,3,4,5,6,7,8,9,10,15],[0,1,2,3,4,5,6,7,8,9,10,14,15,16],[0,1,2,3,4,5,6,7,8,9,10,14,15,16,17],[0,1,2,3,4,5,6,7,8,9,10,14,15,16,17,18],[0,1,2,3,4,5,6,7,8,9,10,14,15,16,17,18,19]]++[List.range 21,List.range 22,List.range 23]) [] (by kernel_rfl) (by exact alQ) ?_
        refine aa (And.intro ha13 he16) ?_
        refine gm (fun h91=> ?_) (fun h91=> ?_)
        ·rw [if_pos h91] at hM
         refine aa (And.intro ha13 (And.intro he16 h91)) ?_
         have nh91:=nzQ h91
         try have hr92:=mpQ nh91
         refine b_ omQ ?_
         refine aa (And.intro ha13 he16) ?_
         replace hM:=ao hM;obtain ⟨x93,hx94,hM⟩:=hM
         have hcx93:=cmH hx94 (rX (sl x9 0 p13) ((gt x9 p13).Coin) (by (first|exact jh (ji hp0 ‹_=cL _›)|(clear hM;exact aq))) (by (first|exact jh (ji hp0 ‹_=cL _›)|(clear hM;exact aq))))
         refine bp hcx93 (aC (And.intro ha13 he16)) (aC (And.intro ha13 he16)) ?_
         refine aa (And.intro ha13 he16) ?_
         refine dk (fun h95=> ?_) (fun h95=> ?_)
         ·rw [if_neg (ap h95)] at hM
          refine aa (And.intro ha13 (And.intro he16 h95)) ?_
          have nh95:=nzQ h95
          try have hr96:=mpQ nh95
          have ha97:aG .i64 p13 1=(p13 - 1):=dl omQ omQ
          try simp only [ha97]
          have hF:=(And.intro h4 (And.intro h6 (And.intro ha13 (And.intro h14 (And.intro he16 (And.intro h20 (And.intro h25 (And.intro h28 (And.intro h69 (And.intro h91 (And.intro h95 ha97)))))))))))
          exact auQ
         ·rw [if_pos h95] at hM
          refine aa (And.intro ha13 (And.intro he16 h95)) ?_
          subst hM
          exact aw (az (And.intro ha13 (And.intro he16 (And.intro h4 (And.intro h6 (And.intro h14 (And.intro h20 (And.intro h25 (And.intro h28 (And.intro h69 (And.intro h91 h95)))))))))))
        ·rw [if_neg (ap h91)] at hM
         refine aa (And.intro ha13 (And.intro he16 h91)) ?_
         have nh91:=nzQ h91
         try have hr103:=mpQ nh91
         refine bM (n13 - 1) _ (by omega) sbQ sbQ ⟨(p13+1),rfl,⟨omQ,omQ⟩,omQ,bI hM hag13⟩
    ·rw [if_pos h20] at hM
     refine aa (And.intro ha13 (And.intro he16 h20)) ?_
     subst hM
     exact aw (az (And.intro ha13 (And.intro he16 (And.intro h4 (And.intro h6 (And.intro h14 h20))))))
   ·rw [if_neg (ap h14)] at hM
    refine aa (And.intro ha13 h14) ?_
    subst hM
    exact aw (az (And.intro ha13 (And.intro h4 (And.intro h6 h14))))
 ·rw [if_pos h4] at hM
  refine aa h4 ?_
  subst hM
  exact aw (az h4)
set_option maxHeartbeats 2000000 in
set_option maxRecDepth 100000 in
theorem JG (k_:bU) (hp0:okK k_):CM En (je k_) 49 [(cg k_)] (fun y=> .bool y) (fun _=> []):=by
 refine cmQ fun r hM=> ?_
 rw [je.eq_1] at hM
 refine av al ar noJ Tryz.func49 rfl Tryz.ntmps49 (by kernel_rfl) fun hw=>au ?_
 refine spQ ?_
 replace hw:=nzQ hw
 have h0_0:=fi hp0
 replace hM:=aU hM;obtain ⟨f1,d1,hf1,hd1,hM⟩:=hM
 refine a6 (fun n S=> ∃p:Int,S=(⟨[(1,.ptr 0 0),(11,.sl none 80 true (k_.p.Spends.map aT)),(12,.int .i64 (k_.p.Spends.length:Int)),(13,.int .i64 p)],[(0,.var 47 true ((cg k_)))],1⟩:St)∧((0≤p)∧(p≤(k_.p.Spends.length:Int)))∧((k_.p.Spends.length:Int) - p).toNat<n∧am n f1 d1 p=r) (((k_.p.Spends.length:Int) - 0).toNat+1) _ sbQ sbQ ⟨0,rfl,⟨omQ,omQ⟩,(Nat.lt_succ_self _),hM⟩ ?_
 clear hM
 rintro n1 S ⟨p1,rfl,hfa1,hm1,hM⟩
 replace hM:=aV hM (by omega) hf1;obtain ⟨ag1,hag1,hM⟩:=hM
 replace hfa1:=nzQ hfa1
 replace hm1:=nzQ hm1
 have ha1:ax .i64 p1 1=p1+1:=aZ omQ omQ
 refine aa ha1 ?_
 refine aB (fun h2=> ?_) (fun h2=> ?_)
 ·rw [if_pos h2] at hM
  refine aa (And.intro ha1 h2) ?_
  have nh2:=nzQ h2
  try have hr3:=mpQ nh2
  refine aP omQ ?_
  have he4:=fun d=>bE (l:=k_.p.Spends) (f:=aT) (i:=p1) omQ d
  refine aa (And.intro ha1 he4) ?_
  replace hM:=ao hM;obtain ⟨x5,hx6,hM⟩:=hM
  have hcx5:=cmH hx6 (rW k_ ((gt k_.p.Spends p1).Coin) (by (exact hp0)))
  refine aH hcx5 (aC (And.intro ha1 he4)) (aC (And.intro ha1 he4)) (fun hw7=> ?_)
  replace hw7:=nzQ hw7
  refine aa (And.intro ha1 he4) ?_
  replace hM:=ao hM;obtain ⟨x8,hx9,hM⟩:=hM
  have hcx8:=cmH hx9 (A1 (k_.b) (x5.1) (gt k_.p.Spends p1) (by (exact hp0.2.s.2 _ (ca (by omega)))))
  refine aH hcx8 (aC (And.intro ha1 he4)) (aC (And.intro ha1 he4)) (fun hw10=> ?_)
  replace hw10:=nzQ hw10
  refine aa (And.intro ha1 he4) ?_
  have hF:=(And.intro ha1 (And.intro h2 he4))
  exact auQ
 ·rw [if_neg (ap h2)] at hM
  refine aa (And.intro ha1 h2) ?_
  have nh2:=nzQ h2
  try have hr14:=mpQ nh2
  replace hM:=aU hM;obtain ⟨f15,d15,hf15,hd15,hM⟩:=hM
  refine a6 (fun n S=> ∃p:Int,S=(⟨[(1,.ptr 0 0),(33,.sl none 81 true (k_.p.Chains.map bv)),(34,.int .i64 (k_.p.Chains.length:Int)),(35,.int .i64 p)],[(0,.var 47 true ((cg k_)))],1⟩:St)∧((0≤p)∧(p≤(k_.p.Chains.length:Int)))∧((k_.p.Chains.length:Int) - p).toNat<n∧am n f15 d15 p=r) (((k_.p.Chains.length:Int) - 0).toNat+1) _ sbQ sbQ ⟨0,rfl,⟨omQ,omQ⟩,(Nat.lt_succ_self _),hM⟩ ?_
  clear hM
  rintro n15 S ⟨p15,rfl,hfa15,hm15,hM⟩
  replace hM:=aV hM (by omega) hf15;obtain ⟨ag15,hag15,hM⟩:=hM
  replace hfa15:=nzQ hfa15
  replace hm15:=nzQ hm15
  have ha15:ax .i64 p15 1=p15+1:=aZ omQ omQ
  refine aa (And.intro ha1 ha15) ?_
  refine aB (fun h16=> ?_) (fun h16=> ?_)
  ·rw [if_pos h16] at hM
   refine aa (And.intro ha1 (And.intro ha15 h16)) ?_
   have nh16:=nzQ h16
   try have hr17:=mpQ nh16
   refine aP omQ ?_
   have he18:=fun d=>bE (l:=k_.p.Chains) (f:=bv) (i:=p15) omQ d
   refine aa (And.intro ha1 (And.intro ha15 he18)) ?_
   replace hM:=ao hM;obtain ⟨x19,hx20,hM⟩:=hM
   have hcx19:=cmH hx20 (JF (k_.b) (k_.l) (gt k_.p.Chains p15) (by (exact hp0.2.c.2 _ (ca (by omega)))))
   refine aH hcx19 (aC (And.intro ha1 (And.intro ha15 he18))) (aC (And.intro ha1 (And.intro ha15 he18))) (fun hw21=> ?_)
   replace hw21:=nzQ hw21
   refine aa (And.intro ha1 (And.intro ha15 he18)) ?_
   have hF:=(And.intro ha1 (And.intro h2 (And.intro ha15 (And.intro h16 he18))))
   exact auQ
  ·rw [if_neg (ap h16)] at hM
   refine aa (And.intro ha1 (And.intro ha15 h16)) ?_
   subst hM
   exact aw (az (And.intro ha1 (And.intro ha15 (And.intro h2 h16))))
set_option maxHeartbeats 2000000 in
set_option maxRecDepth 100000 in
instance OC (v:bO):CM En (vQ v) 119 [(cA v)] (fun y=> .tup [(ld y.1),.int .i64 y.2]) (fun _=> []):=by
 refine cmQ fun r hM=> ?_
 rw [vQ.eq_1] at hM
 refine av al ar noJ Tryz.func119 rfl Tryz.ntmps119 (by kernel_rfl) fun hw=>au ?_
 refine spQ ?_
 replace hw:=nzQ hw
 have hF:=aW
 exact auQ
set_option maxHeartbeats 2000000 in
set_option maxRecDepth 100000 in
theorem JH (h_:bX) (hp0:h_.L.length≤12):CM En (oA h_) 188 [(bv h_)] (fun y=>(aT y)) (fun _=> []):=by
 refine cmQ fun r hM=> ?_
 rw [oA.eq_1] at hM
 refine av al ar noJ Tryz.func188 rfl Tryz.ntmps188 (by kernel_rfl) fun hw=>au ?_
 refine spQ ?_
 replace hw:=nzQ hw
 refine aB (fun h1=> ?_) (fun h1=> ?_)
 ·rw [if_pos h1] at hM
  refine aa h1 ?_
  have nh1:=nzQ h1
  try have hr2:=mpQ nh1
  have ha3:aG .i64 (h_.L.length:Int) 1=((h_.L.length:Int) - 1):=dl omQ omQ
  try simp only [ha3]
  have hF:=(And.intro h1 ha3)
  exact auQ
 ·rw [if_neg (ap h1)] at hM
  refine aa h1 ?_
  subst hM
  exact aw (az h1)
set_option maxHeartbeats 2000000 in
set_option maxRecDepth 100000 in
theorem A3 (k_:bU) (hp0:okK k_):CM En (gG k_) 120 [(cg k_)] (fun y=> .sl none 80 true (y.map aT)) (fun _=> []):=by
 refine cmQ fun r hM=> ?_
 rw [gG.eq_1] at hM
 refine av al ar noJ Tryz.func120 rfl Tryz.ntmps120 (by kernel_rfl) fun hw=>au ?_
 refine spQ ?_
 replace hw:=nzQ hw
 have h0_0:=fi hp0
 refine aP omQ ?_
 refine spQ ?_
 replace hM:=aU hM;obtain ⟨f1,d1,hf1,hd1,hM⟩:=hM
 refine a6 (fun n S=> ∃p:Int×List aO,S=(⟨[(3,.own 1),(13,.sl none 81 true (k_.p.Chains.map bv)),(14,.int .i64 (k_.p.Chains.length:Int)),(15,.int .i64 p.1)],[(1,.own 56 80 true none (p.2.map aT))],2⟩:St)∧((0≤p.1)∧(p.1≤(k_.p.Chains.length:Int))∧(((p.2).length:Int)≤p.1+((([]:List aO)++k_.p.Spends)).length))∧((k_.p.Chains.length:Int) - p.1).toNat<n∧am n f1 d1 p=r) (((k_.p.Chains.length:Int) - 0).toNat+1) _ sbQ sbQ ⟨(0,(([]:List aO)++k_.p.Spends)),rfl,⟨omQ,omQ,omQ⟩,(Nat.lt_succ_self _),hM⟩ ?_
 clear hM
 rintro n1 S ⟨p1,rfl,hfa1,hm1,hM⟩
 replace hM:=aV hM (by omega) hf1;obtain ⟨ag1,hag1,hM⟩:=hM
 replace hfa1:=nzQ hfa1
 replace hm1:=nzQ hm1
 have ha1:ax .i64 p1.1 1=p1.1+1:=aZ omQ omQ
 refine aa ha1 ?_
 refine aB (fun h2=> ?_) (fun h2=> ?_)
 ·rw [if_pos h2] at hM
  refine aa (And.intro ha1 h2) ?_
  have nh2:=nzQ h2
  try have hr3:=mpQ nh2
  refine aP omQ ?_
  have he4:=fun d=>bE (l:=k_.p.Chains) (f:=bv) (i:=p1.1) omQ d
  refine aa (And.intro ha1 he4) ?_
  replace hM:=ao hM;obtain ⟨x5,hx6,hM⟩:=hM
  have hcx5:=cmH hx6 (JH (gt k_.p.Chains p1.1) (by (exact (hp0.2.c.2 _ (ca (by omega))).1)))
  refine aH hcx5 (aC (And.intro ha1 he4)) (aC (And.intro ha1 he4)) (fun hw7=> ?_)
  replace hw7:=nzQ hw7
  refine aa (And.intro ha1 he4) ?_
  have hF:=(And.intro ha1 (And.intro h2 he4))
  exact auQ
 ·rw [if_neg (ap h2)] at hM
  refine aa (And.intro ha1 h2) ?_
  subst hM
  exact aw (az (And.intro ha1 h2))
set_option maxHeartbeats 2000000 in
set_option maxRecDepth 100000 in
theorem JI (k_:bU) (hp0:okK k_):CM En (rn k_) 50 [(cg k_)] (fun y=> .bool y) (fun _=> []):=by
 refine cmQ fun r hM=> ?_
 rw [rn.eq_1] at hM
 refine av al ar noJ Tryz.func50 rfl Tryz.ntmps50 (by kernel_rfl) fun hw=>au ?_
 refine spQ ?_
 replace hw:=nzQ hw
 have h0_0:=fi hp0
 replace hM:=ao hM;obtain ⟨x1,hx2,hM⟩:=hM
 have hcx1:=cmU hx2
 refine aH hcx1 clQ clQ (fun hw3=> ?_)
 replace hw3:=nzQ hw3
 refine spQ ?_
 replace hM:=ao hM;obtain ⟨x4,hx5,hM⟩:=hM
 have hcx4:=cmH hx5 (A3 k_ (by (exact hp0)))
 refine aH hcx4 clQ clQ (fun hw6=> ?_)
 replace hw6:=nzQ hw6
 refine spQ ?_
 have hq7:=AN hp0 hx5
 replace hq7:=nzQ hq7
 replace hM:=aU hM;obtain ⟨f8,d8,hf8,hd8,hM⟩:=hM
 refine a6 (fun n S=> ∃p:Int,S=(⟨[(3,.ptr 1 0),(14,.sl none 80 true (x4.map aT)),(15,.int .i64 (x4.length:Int)),(16,.int .i64 p)],[(1,.var 34 true ((ld x1.1)))],2⟩:St)∧((0≤p)∧(p≤(x4.length:Int)))∧((x4.length:Int) - p).toNat<n∧am n f8 d8 p=r) (((x4.length:Int) - 0).toNat+1) _ sbQ sbQ ⟨0,rfl,⟨omQ,omQ⟩,(Nat.lt_succ_self _),hM⟩ ?_
 clear hM
 rintro n8 S ⟨p8,rfl,hfa8,hm8,hM⟩
 replace hM:=aV hM (by omega) hf8;obtain ⟨ag8,hag8,hM⟩:=hM
 replace hfa8:=nzQ hfa8
 replace hm8:=nzQ hm8
 have ha8:ax .i64 p8 1=p8+1:=aZ omQ omQ
 refine aa ha8 ?_
 have hF:=ha8
 exact auQ
set_option maxHeartbeats 2000000 in
set_option maxRecDepth 100000 in
instance OD (r_:bu) (now:Int):CM En (kb r_ now) 14 [(bJ r_),.int .i64 now] (fun y=> .bool y) (fun _=> []):=by
 refine cmQ fun r hM=> ?_
 rw [kb.eq_1] at hM
 refine av al ar noJ Tryz.func14 rfl Tryz.ntmps14 (by kernel_rfl) fun hw=>au ?_
 refine spQ ?_
 replace hw:=nzQ hw
 have hF:=aW
 exact auQ
set_option maxHeartbeats 2000000 in
set_option maxRecDepth 100000 in
theorem JJ (k_:bU) (hp0:okK k_):CM En (kc k_) 51 [(cg k_)] (fun y=> .bool y) (fun _=> []):=by
 refine cmQ fun r hM=> ?_
 rw [kc.eq_1] at hM
 refine av al ar noJ Tryz.func51 rfl Tryz.ntmps51 (by kernel_rfl) fun hw=>au ?_
 refine spQ ?_
 replace hw:=nzQ hw
 have h0_0:=fi hp0
 replace hM:=ao hM;obtain ⟨x1,hx2,hM⟩:=hM
 have hcx1:=cmH hx2 (AY k_ (by (exact hp0)))
 refine aH hcx1 clQ clQ (fun hw3=> ?_)
 replace hw3:=nzQ hw3
 refine spQ ?_
 have hq4:=AO hp0 hx2
 replace hq4:=nzQ hq4
 replace hM:=aU hM;obtain ⟨f5,d5,hf5,hd5,hM⟩:=hM
 refine a6 (fun n S=> ∃p:Int,S=(⟨[(1,.ptr 0 0),(8,.sl none 41 true (x1.map dm)),(9,.int .i64 (x1.length:Int)),(10,.int .i64 p)],[(0,.var 47 true ((cg k_)))],1⟩:St)∧((0≤p)∧(p≤(x1.length:Int)))∧((x1.length:Int) - p).toNat<n∧am n f5 d5 p=r) (((x1.length:Int) - 0).toNat+1) _ sbQ sbQ ⟨0,rfl,⟨omQ,omQ⟩,(Nat.lt_succ_self _),hM⟩ ?_
 clear hM
 rintro n5 S ⟨p5,rfl,hfa5,hm5,hM⟩
 replace hM:=aV hM (by omega) hf5;obtain ⟨ag5,hag5,hM⟩:=hM
 replace hfa5:=nzQ hfa5
 replace hm5:=nzQ hm5
 have ha5:ax .i64 p5 1=p5+1:=aZ omQ omQ
 refine aa ha5 ?_
 refine aB (fun h6=> ?_) (fun h6=> ?_)
 ·rw [if_pos h6] at hM
  refine aa (And.intro ha5 h6) ?_
  have nh6:=nzQ h6
  try have hr7:=mpQ nh6
  refine aP omQ ?_
  have he8:=fun d=>bE (l:=x1) (f:=dm) (i:=p5) omQ d
  refine aa (And.intro ha5 he8) ?_
  replace hM:=ao hM;obtain ⟨x9,hx10,hM⟩:=hM
  have hcx9:=cmH hx10 (rW k_ (gt x1 p5) (by (exact hp0)))
  refine aH hcx9 (aC (And.intro ha5 he8)) (aC (And.intro ha5 he8)) (fun hw11=> ?_)
  replace hw11:=nzQ hw11
  refine aa (And.intro ha5 he8) ?_
  have hF:=(And.intro ha5 (And.intro h6 he8))
  exact auQ
 ·rw [if_neg (ap h6)] at hM
  refine aa (And.intro ha5 h6) ?_
  subst hM
  exact aw (az (And.intro ha5 h6))
set_option maxHeartbeats 2000000 in
set_option maxRecDepth 100000 in
theorem A4 (p_:bR) (hp0:gI p_):CM En (kd p_) 15 [.agg [.int .i64 p_.Number,.sl none 80 true (p_.Spends.map aT),.sl none 81 true (p_.Chains.map bv),.sl none 5 true (p_.Escrow.map bG)]] (fun y=> .sl none 83 true (y.map lf)) (fun _=> []):=by
 refine cmQ fun r hM=> ?_
 rw [kd.eq_1] at hM
 refine av al ar noJ Tryz.func15 rfl Tryz.ntmps15 (by kernel_rfl) fun hw=>au ?_
 refine spQ ?_
 replace hw:=nzQ hw
 replace hM:=ao hM;obtain ⟨x1,hx2,hM⟩:=hM
 have hcx1:=cmH hx2 (AX p_ (by (exact hp0)))
 refine aH hcx1 clQ clQ (fun hw3=> ?_)
 replace hw3:=nzQ hw3
 refine spQ ?_
 have hq4:=Az hp0 hx2
 replace hq4:=nzQ hq4
 replace hM:=aU hM;obtain ⟨f5,d5,hf5,hd5,hM⟩:=hM
 refine fC (fun n S=> ∃p:Int×List cy,S=(⟨[(3,.own 1),(9,.sl none 80 true (x1.map aT)),(10,.int .i64 (x1.length:Int)),(11,.int .i64 p.1)],[(1,.own 69 83 true none (p.2.map lf))],2⟩:St)∧(((0≤p.1)∧(p.1≤(x1.length:Int)))∧(((p.2).length:Int)≤40*p.1))∧((x1.length:Int) - p.1).toNat<n∧am n f5 d5 p=r) (((x1.length:Int) - 0).toNat+1) _ _ (jI 3 69 rfl (by decide)) sbQ sbQ ⟨(0,([]:List cy)),rfl,⟨⟨by (first|exact omQ|(clear hM;first|(have h9:=cX (i:=p5.1) (by assumption) (by omega);exact aq))),by (first|exact omQ|(clear hM;first|(have h9:=cX (i:=p5.1) (by assumption) (by omega);exact aq)))⟩,by exact aq⟩,(Nat.lt_succ_self _),hM⟩ ?_
 clear hM
 rintro n5 S ⟨p5,rfl,⟨hfa5,hF3_0⟩,hm5,hM⟩
 replace hM:=aV hM (by omega) hf5;obtain ⟨ag5,hag5,hM⟩:=hM
 replace hfa5:=nzQ hfa5
 replace hm5:=nzQ hm5
 have ha5:ax .i64 p5.1 1=p5.1+1:=aZ (by (first|exact omQ|(clear hM;first|(have h9:=cX (i:=p5.1) (by assumption) (by omega);exact aq)))) (by (first|exact omQ|(clear hM;first|(have h9:=cX (i:=p5.1) (by assumption) (by omega);exact aq))))
 refine aa ha5 ?_
 refine aB (fun h6=> ?_) (fun h6=> ?_)
 ·rw [if_pos h6] at hM
  refine aa (And.intro ha5 h6) ?_
  have nh6:=nzQ h6
  try have hr7:=mpQ nh6
  refine aP (by (first|exact omQ|(clear hM;first|(have h9:=cX (i:=p5.1) (by assumption) (by omega);exact aq)))) ?_
  have he8:=fun d=>bE (l:=x1) (f:=aT) (i:=p5.1) (by (first|exact omQ|(clear hM;first|(have h9:=cX (i:=p5.1) (by assumption) (by omega);exact aq)))) d
  refine aa (And.intro ha5 he8) ?_
  replace hM:=aU hM;obtain ⟨f9,d9,hf9,hd9,hM⟩:=hM
  refine a6 (fun n S=> ∃p:Int×List cy,S=(⟨[(3,.own 1),(5,.ptr 2 0),(9,.sl none 80 true (x1.map aT)),(10,.int .i64 (x1.length:Int)),(11,.int .i64 p5.1),(16,.sl none 3 true ((gt x1 p5.1).Leaves.map eL)),(17,.int .i64 ((gt x1 p5.1).Leaves.length:Int)),(18,.int .i64 p.1)],[(1,.own 69 83 true none (p.2.map lf)),(2,.var 80 true ((aT (gt x1 p5.1))))],3⟩:St)∧((0≤p.1)∧(p.1≤((gt x1 p5.1).Leaves.length:Int))∧(((p.2).length:Int)≤40*p5.1+p.1))∧(((gt x1 p5.1).Leaves.length:Int) - p.1).toNat<n∧am n f9 d9 p=r) ((((gt x1 p5.1).Leaves.length:Int) - 0).toNat+1) _ sbQ sbQ ⟨(0,p5.2),rfl,⟨by (first|exact omQ|(clear hM;first|(have h9:=cX (i:=p5.1) (by assumption) (by omega);exact aq))),by (first|exact omQ|(clear hM;first|(have h9:=cX (i:=p5.1) (by assumption) (by omega);exact aq))),by (first|exact omQ|(clear hM;first|(have h9:=cX (i:=p5.1) (by assumption) (by omega);exact aq)))⟩,(Nat.lt_succ_self _),hM⟩ ?_
  clear hM
  rintro n9 S ⟨p9,rfl,hfa9,hm9,hM⟩
  replace hM:=aV hM (by omega) hf9;obtain ⟨ag9,hag9,hM⟩:=hM
  replace hfa9:=nzQ hfa9
  replace hm9:=nzQ hm9
  have ha9:ax .i64 p9.1 1=p9.1+1:=aZ (by (first|exact omQ|(clear hM;first|(have h9:=cX (i:=p5.1) (by assumption) (by omega);exact aq)))) (by (first|exact omQ|(clear hM;first|(have h9:=cX (i:=p5.1) (by assumption) (by omega);exact aq))))
  refine aa (And.intro ha5 (And.intro he8 ha9)) ?_
  refine aB (fun h10=> ?_) (fun h10=> ?_)
  ·rw [if_pos h10] at hM
   refine aa (And.intro ha5 (And.intro he8 (And.intro ha9 h10))) ?_
   have nh10:=nzQ h10
   try have hr11:=mpQ nh10
   refine aP (by (first|exact omQ|(clear hM;first|(have h9:=cX (i:=p5.1) (by assumption) (by omega);exact aq)))) ?_
   have he12:=fun d=>bE (l:=(gt x1 p5.1).Leaves) (f:=eL) (i:=p9.1) (by (first|exact omQ|(clear hM;first|(have h9:=cX (i:=p5.1) (by assumption) (by omega);exact aq)))) d
   refine aa (And.intro ha5 (And.intro he8 (And.intro ha9 he12))) ?_
   refine aP (by (first|exact omQ|(clear hM;first|(have h9:=cX (i:=p5.1) (by assumption) (by omega);exact aq)))) ?_
   refine aa (And.intro ha5 (And.intro he8 (And.intro ha9 he12))) ?_
   refine bM (n9 - 1) _ (by omega) sbQ sbQ ⟨((p9.1+1),(p9.2++([({A:=(gt x1 p5.1).Coin.A,B:=(gt (gt x1 p5.1).Leaves p9.1).B,Spend:=(gt x1 p5.1),Leaf:=p9.1}:cy)]:List cy))),rfl,⟨by (first|exact omQ|(clear hM;first|(have h9:=cX (i:=p5.1) (by assumption) (by omega);exact aq))),by (first|exact omQ|(clear hM;first|(have h9:=cX (i:=p5.1) (by assumption) (by omega);exact aq))),by (first|exact omQ|(clear hM;first|(have h9:=cX (i:=p5.1) (by assumption) (by omega);exact aq)))⟩,by (first|exact omQ|(clear hM;first|(have h9:=cX (i:=p5.1) (by assumption) (by omega);exact aq))),bI hM hag9⟩
  ·rw [if_neg (ap h10)] at hM
   refine aa (And.intro ha5 (And.intro he8 (And.intro ha9 h10))) ?_
   have nh10:=nzQ h10
   try have hr13:=mpQ nh10
   refine bM (n5 - 1) _ (by omega) sbQ sbQ ⟨((p5.1+1),p9.2),rfl,⟨⟨by (first|exact omQ|(clear hM;first|(have h9:=cX (i:=(p5.1+1)) (by assumption) (by omega);exact aq))),by (first|exact omQ|(clear hM;first|(have h9:=cX (i:=(p5.1+1)) (by assumption) (by omega);exact aq)))⟩,by (have h9:=cX (i:=p5.1) (by assumption) (by omega);clear hM;exact aq)⟩,by (first|exact omQ|(clear hM;first|(have h9:=cX (i:=(p5.1+1)) (by assumption) (by omega);exact aq))),bI hM hag5⟩
 ·rw [if_neg (ap h6)] at hM
  refine aa (And.intro ha5 h6) ?_
  subst hM
  exact aw (az (And.intro ha5 h6))
set_option maxHeartbeats 2000000 in
set_option maxRecDepth 100000 in
theorem JK (k_:bU) (hp0:okK k_):CM En (lr k_) 52 [(cg k_)] (fun y=> .bool y) (fun _=> []):=by
 refine cmQ fun r hM=> ?_
 rw [lr.eq_1] at hM
 refine av al ar noJ Tryz.func52 rfl Tryz.ntmps52 (by kernel_rfl) fun hw=>au ?_
 refine spQ ?_
 replace hw:=nzQ hw
 have h0_0:=fi hp0
 replace hM:=ao hM;obtain ⟨x1,hx2,hM⟩:=hM
 have hcx1:=cmH hx2 (A4 (k_.p) (by (exact hp0.2)))
 refine aH hcx1 clQ clQ (fun hw3=> ?_)
 replace hw3:=nzQ hw3
 refine spQ ?_
 have hq4:=AP hp0.2 hx2
 replace hq4:=nzQ hq4
 replace hM:=aU hM;obtain ⟨f5,d5,hf5,hd5,hM⟩:=hM
 refine a6 (fun n S=> ∃p:Int×List (List Int),S=(⟨[(3,.own 1),(10,.sl none 83 true (x1.map lf)),(11,.int .i64 (x1.length:Int)),(12,.int .i64 p.1)],[(1,.kset true .i64 2 p.2)],2⟩:St)∧((0≤p.1)∧(p.1≤(x1.length:Int)))∧((x1.length:Int) - p.1).toNat<n∧am n f5 d5 p=r) (((x1.length:Int) - 0).toNat+1) _ sbQ sbQ ⟨(0,([]:List (List Int))),rfl,⟨omQ,omQ⟩,(Nat.lt_succ_self _),hM⟩ ?_
 clear hM
 rintro n5 S ⟨p5,rfl,hfa5,hm5,hM⟩
 replace hM:=aV hM (by omega) hf5;obtain ⟨ag5,hag5,hM⟩:=hM
 replace hfa5:=nzQ hfa5
 replace hm5:=nzQ hm5
 have ha5:ax .i64 p5.1 1=p5.1+1:=aZ omQ omQ
 refine aa ha5 ?_
 have hF:=ha5
 exact auQ
set_option maxHeartbeats 2000000 in
set_option maxRecDepth 100000 in
instance OE (v:bO):CM En (vR v) 121 [(cA v)] (fun y=> .tup [.str y.1,.int .i64 y.2]) (fun _=> []):=by
 refine cmQ fun r hM=> ?_
 rw [vR.eq_1] at hM
 refine av al ar noJ Tryz.func121 rfl Tryz.ntmps121 (by kernel_rfl) fun hw=>au ?_
 refine spQ ?_
 replace hw:=nzQ hw
 replace hM:=ao hM;obtain ⟨x1,hx2,hM⟩:=hM
 have hcx1:=cmU hx2
 refine aH hcx1 clQ clQ (fun hw3=> ?_)
 replace hw3:=nzQ hw3
 refine spQ ?_
 have hq4:=IC hx2
 replace hq4:=nzQ hq4
 refine aB (fun h5=> ?_) (fun h5=> ?_)
 ·rw [if_pos h5] at hM
  refine aa h5 ?_
  subst hM
  exact aw (az h5)
 ·rw [if_neg (ap h5)] at hM
  refine aa h5 ?_
  have nh5:=nzQ h5
  try have hr7:=mpQ nh5
  replace hM:=ao hM;obtain ⟨x8,hx9,hM⟩:=hM
  have hcx8:=cmH hx9 (iC ([115,112,101,99,105,101,47,105,110,118,111,105,99,101]) (x1.1) (by (exact pfQ)))
  refine aH hcx8 clQ clQ (fun hw10=> ?_)
  replace hw10:=nzQ hw10
  refine spQ ?_
  refine aB (fun h11=> ?_) (fun h11=> ?_)
  ·rw [if_pos h11] at hM
   refine aa h11 ?_
   subst hM
   exact aw (az (And.intro h5 h11))
  ·rw [if_neg (ap h11)] at hM
   refine aa h11 ?_
   have nh11:=nzQ h11
   try have hr13:=mpQ nh11
   replace hM:=ao hM;obtain ⟨x14,hx15,hM⟩:=hM
   have hcx14:=cmU hx15
   refine aH hcx14 clQ clQ (fun hw16=> ?_)
   replace hw16:=nzQ hw16
   refine spQ ?_
   have hq17:=nzQ (cfU hx15)
   refine aP (by (first|exact omQ|(clear hM;first|(have h9:= @List.length_take_le _ 16 (x14);have h8:=dF;exact aq)))) ?_
   refine spQ ?_
   refine aP (by (first|exact omQ|(clear hM;first|(have h9:= @List.length_take_le _ 16 (x14);have h8:=dF;exact aq)))) ?_
   refine spQ ?_
   subst hM
   exact aw (az (And.intro h5 h11))
set_option maxHeartbeats 2000000 in
set_option maxRecDepth 100000 in
instance OG (b:a8) (x_:Int):CM En (rp b x_) 251 [(bS b),.int .i64 x_] (fun y=> .bool y) (fun _=> []):=by
 refine cmQ fun r hM=> ?_
 rw [rp.eq_1] at hM
 refine av al ar noJ Tryz.func251 rfl Tryz.ntmps251 (by kernel_rfl) fun hw=>au ?_
 refine spQ ?_
 replace hw:=nzQ hw
 have hF:=aW
 exact auQ
set_option maxHeartbeats 2000000 in
set_option maxRecDepth 100000 in
instance OH (b:a8) (x_:Int) (y:Int):CM En (vS b x_ y) 310 [(bS b),.int .i64 x_,.int .i64 y] (fun y=> .int .i64 y) (fun _=> []):=by
 refine cmQ fun r hM=> ?_
 rw [vS.eq_1] at hM
 refine av al ar noJ Tryz.func310 rfl Tryz.ntmps310 (by kernel_rfl) fun hw=>au ?_
 refine spQ ?_
 replace hw:=nzQ hw
 have hF:=aW
 exact auQ
set_option maxHeartbeats 2000000 in
set_option maxRecDepth 100000 in
instance OI (b:a8) (x_:Int) (e_:Int):CM En (rq b x_ e_) 311 [(bS b),.int .i64 x_,.int .i64 e_] (fun y=> .int .i64 y) (fun _=> []):=by
 refine cmQ fun r hM=> ?_
 rw [rq.eq_1] at hM
 refine av al ar noJ Tryz.func311 rfl Tryz.ntmps311 (by kernel_rfl) fun hw=>au ?_
 refine spQ ?_
 replace hw:=nzQ hw
 have hF:=aW
 exact auQ
instance (priority:=1008):DRD 1 31 21 [9,10,11,12,13,14,15,16,17,18,19,20,21,22,23,24,25,26,27,28,29] [] ([[],[0],[],[],[3],[],[5],[2,3,4,5,6],[],[],[8,9],[2,3,4,5,6,7,8,9,10],[],[12],[],[],[15],[15,16],[14,15,16,17],[12,13,14,15,16,17,18],[2,3,4,5,6,7,8,9,10,11,12,13,14,15,16,17,18,19]]++[List.range 21,List.range 22]) [(1,4),(11,14),(19,22),(20,23)]:=⟨trivial⟩
set_option maxHeartbeats 2000000 in
set_option maxRecDepth 100000 in
instance OJ (b:a8) (y:Int) (pseudonym:Int) (x_:cW):CM En (vT b y pseudonym x_) 252 [(bS b),.int .i64 y,.int .i64 pseudonym,(bG x_)] (fun y=> .agg [.sl none 1 false (y.Y.map (V.int .i64)),.sl none 1 false (y.Bases.map (fun (l:List Int)=>V.sl none 1 false (l.map (V.int .i64))))]) (fun _=> []):=by
 refine cmQ fun r hM=> ?_
 rw [vT.eq_1] at hM
 refine av al ar noJ Tryz.func252 rfl Tryz.ntmps252 (by kernel_rfl) fun hw=>au ?_
 refine spQ ?_
 replace hw:=nzQ hw
 have hF:=aW
 exact auQ
set_option maxHeartbeats 2000000 in
set_option maxRecDepth 100000 in
instance OK (b:a8) (y:Int) (pseudonym:Int) (x_:cW):CM En (vU b y pseudonym x_) 191 [(bS b),.int .i64 y,.int .i64 pseudonym,(bG x_)] (fun y=> .tup [.agg [.sl none 1 false (y.1.Y.map (V.int .i64)),.sl none 1 false (y.1.Bases.map (fun (l:List Int)=>V.sl none 1 false (l.map (V.int .i64))))],.int .i64 y.2]) (fun _=> []):=by
 refine cmQ fun r hM=> ?_
 rw [vU.eq_1] at hM
 refine av al ar noJ Tryz.func191 rfl Tryz.ntmps191 (by kernel_rfl) fun hw=>au ?_
 refine spQ ?_
 replace hw:=nzQ hw
 have hF:=aW
 exact auQ
set_option maxHeartbeats 2000000 in
set_option maxRecDepth 100000 in
instance OL (g:aQ) (x_:Int):CM En (vV g x_) 387 [.agg [.int .i64 g.P,.int .i64 g.Q,.int .i64 g.G],.int .i64 x_] (fun y=> .bool y) (fun _=> []):=by
 refine cmQ fun r hM=> ?_
 rw [vV.eq_1] at hM
 refine av al ar noJ Tryz.func387 rfl Tryz.ntmps387 (by kernel_rfl) fun hw=>au ?_
 refine spQ ?_
 replace hw:=nzQ hw
 have hF:=aW
 exact auQ
set_option maxHeartbeats 2000000 in
set_option maxRecDepth 100000 in
instance OM (x_:Int) (c0:aQ):CM En (vW x_ c0) 386 [.int .i64 x_,.pp 3 true (.agg [.int .i64 c0.P,.int .i64 c0.Q,.int .i64 c0.G])] (fun y=> .bool y) (fun _=> []):=by
 refine cmQ fun r hM=> ?_
 rw [vW.eq_1] at hM
 refine av al ar noJ Tryz.func386 rfl Tryz.ntmps386 (by kernel_rfl) fun hw=>au ?_
 refine spQ ?_
 replace hw:=nzQ hw
 have hF:=aW
 exact auQ
set_option maxHeartbeats 2000000 in
set_option maxRecDepth 100000 in
instance ON (s:(List Int)) (f__c0:aQ):CM En (vX s f__c0) 352 [.sl none 1 false (s.map (V.int .i64)),.fn 386 [.pp 3 true (.agg [.int .i64 f__c0.P,.int .i64 f__c0.Q,.int .i64 f__c0.G])]] (fun y=> .int .i64 y) (fun _=> []):=by
 refine cmQ fun r hM=> ?_
 rw [vX.eq_1] at hM
 refine av al ar noJ Tryz.func352 rfl Tryz.ntmps352 (by kernel_rfl) fun hw=>au ?_
 refine spQ ?_
 replace hw:=nzQ hw
 replace hM:=aU hM;obtain ⟨f1,d1,hf1,hd1,hM⟩:=hM
 refine a6 (fun n S=> ∃p:Int,S=(⟨[(0,.sl none 1 false (s.map (V.int .i64))),(1,.fn 386 [.pp 3 true (.agg [.int .i64 f__c0.P,.int .i64 f__c0.Q,.int .i64 f__c0.G])]),(7,.int .i64 (s.length:Int)),(8,.int .i64 p)],[],0⟩:St)∧((0≤p)∧(p≤(s.length:Int)))∧((s.length:Int) - p).toNat<n∧am n f1 d1 p=r) (((s.length:Int) - 0).toNat+1) _ sbQ sbQ ⟨0,rfl,⟨omQ,omQ⟩,(Nat.lt_succ_self _),hM⟩ ?_
 clear hM
 rintro n1 S ⟨p1,rfl,hfa1,hm1,hM⟩
 replace hM:=aV hM (by omega) hf1;obtain ⟨ag1,hag1,hM⟩:=hM
 replace hfa1:=nzQ hfa1
 replace hm1:=nzQ hm1
 have ha1:ax .i64 p1 1=p1+1:=aZ omQ omQ
 refine aa ha1 ?_
 have hF:=ha1
 exact auQ
set_option maxHeartbeats 2000000 in
set_option maxRecDepth 100000 in
instance OO (s:(List Int)) (f__c0:aQ):CM En (vY s f__c0) 301 [.sl none 1 false (s.map (V.int .i64)),.fn 386 [.pp 3 true (.agg [.int .i64 f__c0.P,.int .i64 f__c0.Q,.int .i64 f__c0.G])]] (fun y=> .bool y) (fun _=> []):=by
 refine cmQ fun r hM=> ?_
 rw [vY.eq_1] at hM
 refine av al ar noJ Tryz.func301 rfl Tryz.ntmps301 (by kernel_rfl) fun hw=>au ?_
 refine spQ ?_
 replace hw:=nzQ hw
 have hF:=aW
 exact auQ
set_option maxHeartbeats 2000000 in
set_option maxRecDepth 100000 in
instance OP (g:aQ) (l:(List Int)):CM En (rr g l) 360 [.agg [.int .i64 g.P,.int .i64 g.Q,.int .i64 g.G],.sl none 1 false (l.map (V.int .i64))] (fun y=> .bool y) (fun _=> []):=by
 refine cmQ fun r hM=> ?_
 rw [rr.eq_1] at hM
 refine av al ar noJ Tryz.func360 rfl Tryz.ntmps360 (by kernel_rfl) fun hw=>au ?_
 refine spQ ?_
 replace hw:=nzQ hw
 have hF:=aW
 exact auQ
set_option maxHeartbeats 2000000 in
set_option maxRecDepth 100000 in
instance OQ (row:(List Int)) (c0:Int) (c1:aQ):CM En (oB row c0 c1) 362 [.sl none 1 false (row.map (V.int .i64)),.pp 1 false (.int .i64 c0),.pp 3 true (.agg [.int .i64 c1.P,.int .i64 c1.Q,.int .i64 c1.G])] (fun y=> .bool y) (fun _=> []):=by
 refine cmQ fun r hM=> ?_
 rw [oB.eq_1] at hM
 refine av al ar noJ Tryz.func362 rfl Tryz.ntmps362 (by kernel_rfl) fun hw=>au ?_
 refine spQ ?_
 replace hw:=nzQ hw
 have hF:=aW
 exact auQ
set_option maxHeartbeats 2000000 in
set_option maxRecDepth 100000 in
instance OR (s:(List (List Int))) (f__c0:Int) (f__c1:aQ):CM En (m0 s f__c0 f__c1) 388 [.sl none 1 false (s.map (fun (l:List Int)=>V.sl none 1 false (l.map (V.int .i64)))),.fn 362 [.pp 1 false (.int .i64 f__c0),.pp 3 true (.agg [.int .i64 f__c1.P,.int .i64 f__c1.Q,.int .i64 f__c1.G])]] (fun y=> .int .i64 y) (fun _=> []):=by
 refine cmQ fun r hM=> ?_
 rw [m0.eq_1] at hM
 refine av al ar noJ Tryz.func388 rfl Tryz.ntmps388 (by kernel_rfl) fun hw=>au ?_
 refine spQ ?_
 replace hw:=nzQ hw
 replace hM:=aU hM;obtain ⟨f1,d1,hf1,hd1,hM⟩:=hM
 refine a6 (fun n S=> ∃p:Int,S=(⟨[(0,.sl none 1 false (s.map (fun (l:List Int)=>V.sl none 1 false (l.map (V.int .i64))))),(1,.fn 362 [.pp 1 false (.int .i64 f__c0),.pp 3 true (.agg [.int .i64 f__c1.P,.int .i64 f__c1.Q,.int .i64 f__c1.G])]),(7,.int .i64 (s.length:Int)),(8,.int .i64 p)],[],0⟩:St)∧((0≤p)∧(p≤(s.length:Int)))∧((s.length:Int) - p).toNat<n∧am n f1 d1 p=r) (((s.length:Int) - 0).toNat+1) _ sbQ sbQ ⟨0,rfl,⟨omQ,omQ⟩,(Nat.lt_succ_self _),hM⟩ ?_
 clear hM
 rintro n1 S ⟨p1,rfl,hfa1,hm1,hM⟩
 replace hM:=aV hM (by omega) hf1;obtain ⟨ag1,hag1,hM⟩:=hM
 replace hfa1:=nzQ hfa1
 replace hm1:=nzQ hm1
 have ha1:ax .i64 p1 1=p1+1:=aZ omQ omQ
 refine aa ha1 ?_
 have hF:=ha1
 exact auQ
set_option maxHeartbeats 2000000 in
set_option maxRecDepth 100000 in
instance OS (s:(List (List Int))) (f__c0:Int) (f__c1:aQ):CM En (oC s f__c0 f__c1) 361 [.sl none 1 false (s.map (fun (l:List Int)=>V.sl none 1 false (l.map (V.int .i64)))),.fn 362 [.pp 1 false (.int .i64 f__c0),.pp 3 true (.agg [.int .i64 f__c1.P,.int .i64 f__c1.Q,.int .i64 f__c1.G])]] (fun y=> .bool y) (fun _=> []):=by
 refine cmQ fun r hM=> ?_
 rw [oC.eq_1] at hM
 refine av al ar noJ Tryz.func361 rfl Tryz.ntmps361 (by kernel_rfl) fun hw=>au ?_
 refine spQ ?_
 replace hw:=nzQ hw
 have hF:=aW
 exact auQ
set_option maxHeartbeats 2000000 in
set_option maxRecDepth 100000 in
instance OT (g:aQ) (r_:cv):CM En (ls g r_) 312 [.agg [.int .i64 g.P,.int .i64 g.Q,.int .i64 g.G],.agg [.sl none 1 false (r_.Y.map (V.int .i64)),.sl none 1 false (r_.Bases.map (fun (l:List Int)=>V.sl none 1 false (l.map (V.int .i64))))]] (fun y=> .bool y) (fun _=> []):=by
 refine cmQ fun r hM=> ?_
 rw [ls.eq_1] at hM
 refine av al ar noJ Tryz.func312 rfl Tryz.ntmps312 (by kernel_rfl) fun hw=>au ?_
 refine spQ ?_
 replace hw:=nzQ hw
 have hF:=aW
 exact auQ
set_option maxHeartbeats 2000000 in
set_option maxRecDepth 100000 in
theorem JL (r_:cv) (hp0:1≤r_.Bases.length):CM En (gH r_) 313 [.agg [.sl none 1 false (r_.Y.map (V.int .i64)),.sl none 1 false (r_.Bases.map (fun (l:List Int)=>V.sl none 1 false (l.map (V.int .i64))))]] (fun y=> .int .i64 y) (fun _=> []):=by
 refine cmQ fun r hM=> ?_
 rw [gH.eq_1] at hM
 refine av al ar noJ Tryz.func313 rfl Tryz.ntmps313 (by kernel_rfl) fun hw=>au ?_
 refine spQ ?_
 replace hw:=nzQ hw
 have hF:=aW
 exact auQ
set_option maxHeartbeats 2000000 in
set_option maxRecDepth 100000 in
instance OU (x_:Int) (c0:aQ):CM En (vZ x_ c0) 363 [.int .i64 x_,.pp 3 true (.agg [.int .i64 c0.P,.int .i64 c0.Q,.int .i64 c0.G])] (fun y=> .bool y) (fun _=> []):=by
 refine cmQ fun r hM=> ?_
 rw [vZ.eq_1] at hM
 refine av al ar noJ Tryz.func363 rfl Tryz.ntmps363 (by kernel_rfl) fun hw=>au ?_
 refine spQ ?_
 replace hw:=nzQ hw
 have hF:=aW
 exact auQ
set_option maxHeartbeats 2000000 in
set_option maxRecDepth 100000 in
instance OV (s:(List Int)) (f__c0:aQ):CM En (v_ s f__c0) 352 [.sl none 1 false (s.map (V.int .i64)),.fn 363 [.pp 3 true (.agg [.int .i64 f__c0.P,.int .i64 f__c0.Q,.int .i64 f__c0.G])]] (fun y=> .int .i64 y) (fun _=> []):=by
 refine cmQ fun r hM=> ?_
 rw [v_.eq_1] at hM
 refine av al ar noJ Tryz.func352 rfl Tryz.ntmps352 (by kernel_rfl) fun hw=>au ?_
 refine spQ ?_
 replace hw:=nzQ hw
 replace hM:=aU hM;obtain ⟨f1,d1,hf1,hd1,hM⟩:=hM
 refine a6 (fun n S=> ∃p:Int,S=(⟨[(0,.sl none 1 false (s.map (V.int .i64))),(1,.fn 363 [.pp 3 true (.agg [.int .i64 f__c0.P,.int .i64 f__c0.Q,.int .i64 f__c0.G])]),(7,.int .i64 (s.length:Int)),(8,.int .i64 p)],[],0⟩:St)∧((0≤p)∧(p≤(s.length:Int)))∧((s.length:Int) - p).toNat<n∧am n f1 d1 p=r) (((s.length:Int) - 0).toNat+1) _ sbQ sbQ ⟨0,rfl,⟨omQ,omQ⟩,(Nat.lt_succ_self _),hM⟩ ?_
 clear hM
 rintro n1 S ⟨p1,rfl,hfa1,hm1,hM⟩
 replace hM:=aV hM (by omega) hf1;obtain ⟨ag1,hag1,hM⟩:=hM
 replace hfa1:=nzQ hfa1
 replace hm1:=nzQ hm1
 have ha1:ax .i64 p1 1=p1+1:=aZ omQ omQ
 refine aa ha1 ?_
 have hF:=ha1
 exact auQ
set_option maxHeartbeats 2000000 in
set_option maxRecDepth 100000 in
instance OW (s:(List Int)) (f__c0:aQ):CM En (wa s f__c0) 301 [.sl none 1 false (s.map (V.int .i64)),.fn 363 [.pp 3 true (.agg [.int .i64 f__c0.P,.int .i64 f__c0.Q,.int .i64 f__c0.G])]] (fun y=> .bool y) (fun _=> []):=by
 refine cmQ fun r hM=> ?_
 rw [wa.eq_1] at hM
 refine av al ar noJ Tryz.func301 rfl Tryz.ntmps301 (by kernel_rfl) fun hw=>au ?_
 refine spQ ?_
 replace hw:=nzQ hw
 have hF:=aW
 exact auQ
set_option maxHeartbeats 2000000 in
set_option maxRecDepth 100000 in
instance OX (g:aQ) (l:(List Int)):CM En (rt g l) 314 [.agg [.int .i64 g.P,.int .i64 g.Q,.int .i64 g.G],.sl none 1 false (l.map (V.int .i64))] (fun y=> .bool y) (fun _=> []):=by
 refine cmQ fun r hM=> ?_
 rw [rt.eq_1] at hM
 refine av al ar noJ Tryz.func314 rfl Tryz.ntmps314 (by kernel_rfl) fun hw=>au ?_
 refine spQ ?_
 replace hw:=nzQ hw
 have hF:=aW
 exact auQ
instance (priority:=1009):DRD 5 43 12 [12,22,23,24,25,26,27,28,29,30,31,32] [] ([[],[],[],[1,2],[1,2,3],[],[5],[0,1,2,3,4,5,6],[0,1,2,3,4,5,6,7],[0,1,2,3,4,5,6,7,8],[0,1,2,3,4,5,6,7,8],[0,1,2,3,4,5,6,7,8,9]]++[List.range 12]) []:=⟨trivial⟩
set_option maxHeartbeats 2000000 in
set_option maxRecDepth 100000 in
theorem JM (g:aQ) (start:Int) (bases:(List Int)) (exps:(List Int)) (hp0:bases.length≤exps.length) (hp1:bases.length≤1000):CM En (ru g start bases exps) 389 [.agg [.int .i64 g.P,.int .i64 g.Q,.int .i64 g.G],.int .i64 start,.sl none 1 false (bases.map (V.int .i64)),.sl none 1 false (exps.map (V.int .i64))] (fun y=> .int .i64 y) (fun _=> []):=by
 refine cmQ fun r hM=> ?_
 rw [ru.eq_1] at hM
 refine av al ar noJ Tryz.func389 rfl Tryz.ntmps389 (by kernel_rfl) fun hw=>au ?_
 refine spQ ?_
 replace hw:=nzQ hw
 replace hM:=aU hM;obtain ⟨f1,d1,hf1,hd1,hM⟩:=hM
 refine a6 (fun n S=> ∃p:Int×Int,S=(⟨[(3,.sl none 1 false (exps.map (V.int .i64))),(4,.ptr 0 0),(9,.int .i64 p.1),(15,.sl none 1 false (bases.map (V.int .i64))),(16,.int .i64 (bases.length:Int)),(17,.int .i64 p.2)],[(0,.var 3 true (.agg [.int .i64 g.P,.int .i64 g.Q,.int .i64 g.G]))],1⟩:St)∧((0≤p.2)∧(p.2≤(bases.length:Int)))∧((bases.length:Int) - p.2).toNat<n∧am n f1 d1 p=r) (((bases.length:Int) - 0).toNat+1) _ sbQ sbQ ⟨(start,0),rfl,⟨omQ,omQ⟩,(Nat.lt_succ_self _),hM⟩ ?_
 clear hM
 rintro n1 S ⟨p1,rfl,hfa1,hm1,hM⟩
 replace hM:=aV hM (by omega) hf1;obtain ⟨ag1,hag1,hM⟩:=hM
 replace hfa1:=nzQ hfa1
 replace hm1:=nzQ hm1
 have ha1:ax .i64 p1.2 1=p1.2+1:=aZ omQ omQ
 refine aa ha1 ?_
 have hF:=ha1
 exact auQ
set_option maxHeartbeats 2000000 in
set_option maxRecDepth 100000 in
theorem JN (g:aQ) (rows:(List (List Int))) (exps:(List Int)) (hp0: ∀x∈rows,x.length≤exps.length∧x.length≤1000) (hp1:rows.length≤1000):CM En (oD g rows exps) 364 [.agg [.int .i64 g.P,.int .i64 g.Q,.int .i64 g.G],.sl none 1 false (rows.map (fun (l:List Int)=>V.sl none 1 false (l.map (V.int .i64)))),.sl none 1 false (exps.map (V.int .i64))] (fun _=> .own 0) (fun y=> [.own 3 1 false none (y.map (V.int .i64))]):=by
 refine cmQ fun r hM=> ?_
 rw [oD.eq_1] at hM
 refine av al ar noJ Tryz.func364 rfl Tryz.ntmps364 (by kernel_rfl) fun hw=>au ?_
 refine spQ ?_
 replace hw:=nzQ hw
 replace hM:=aU hM;obtain ⟨f1,d1,hf1,hd1,hM⟩:=hM
 refine fC (fun n S=> ∃p:Int×List Int,S=(⟨[(2,.sl none 1 false (exps.map (V.int .i64))),(3,.ptr 0 0),(7,.own 1),(10,.sl none 1 false (rows.map (fun (l:List Int)=>V.sl none 1 false (l.map (V.int .i64))))),(11,.int .i64 (rows.length:Int)),(12,.int .i64 p.1)],[(0,.var 3 true (.agg [.int .i64 g.P,.int .i64 g.Q,.int .i64 g.G])),(1,.own 3 1 false none (p.2.map (V.int .i64)))],2⟩:St)∧((0≤p.1)∧(p.1≤(rows.length:Int))∧(((p.2).length:Int)≤p.1))∧((rows.length:Int) - p.1).toNat<n∧am n f1 d1 p=r) (((rows.length:Int) - 0).toNat+1) _ _ (jI 7 3 rfl (by decide)) sbQ sbQ ⟨(0,([]:List Int)),rfl,⟨omQ,omQ,omQ⟩,(Nat.lt_succ_self _),hM⟩ ?_
 clear hM
 rintro n1 S ⟨p1,rfl,hfa1,hm1,hM⟩
 replace hM:=aV hM (by omega) hf1;obtain ⟨ag1,hag1,hM⟩:=hM
 replace hfa1:=nzQ hfa1
 replace hm1:=nzQ hm1
 have ha1:ax .i64 p1.1 1=p1.1+1:=aZ omQ omQ
 refine aa ha1 ?_
 refine aB (fun h2=> ?_) (fun h2=> ?_)
 ·rw [if_pos h2] at hM
  refine aa (And.intro ha1 h2) ?_
  have nh2:=nzQ h2
  try have hr3:=mpQ nh2
  refine aP omQ ?_
  have he4:=fun d=>bE (l:=rows) (f:=(fun (l:List Int)=>V.sl none 1 false (l.map (V.int .i64)))) (i:=p1.1) omQ d
  refine aa (And.intro ha1 he4) ?_
  replace hM:=ao hM;obtain ⟨x5,hx6,hM⟩:=hM
  have hcx5:=cmH hx6 (JM g 1 (gt rows p1.1) exps (by (first|exact (hp0 _ (ca (by omega))).1|exact (hp0 _ (ca (by omega))).2)) (by (first|exact (hp0 _ (ca (by omega))).1|exact (hp0 _ (ca (by omega))).2)))
  refine aH hcx5 (aC (And.intro ha1 he4)) (aC (And.intro ha1 he4)) (fun hw7=> ?_)
  replace hw7:=nzQ hw7
  refine aa (And.intro ha1 he4) ?_
  have hF:=(And.intro ha1 (And.intro h2 he4))
  exact auQ
 ·rw [if_neg (ap h2)] at hM
  refine aa (And.intro ha1 h2) ?_
  have nh2:=nzQ h2
  try have hr8:=mpQ nh2
  subst hM
  exact uy [1] (bs:=[.own 3 1 false none (p1.2.map (V.int .i64))]) (aC ha1) (by decide) (az (And.intro ha1 h2))
instance (priority:=1010):DRD 5 57 15 [12,27,28,29,30,31,32,33,34,35,36,37,38,39,40] [] ([[],[],[1],[],[1,2,3],[],[5],[1,2,3,4,5,6],[],[8],[0,1,2,3,4,5,6,7,8,9],[0,1,2,3,4,5,6,7,8,9,10],[0,1,2,3,4,5,6,7,8,9,10,11],[0,1,2,3,4,5,6,7,8,9,10,11],[0,1,2,3,4,5,6,7,8,9,10,11,12]]++[List.range 15]) []:=⟨trivial⟩
instance (priority:=1011):DRD 6 57 15 [41,42,43,44,45,46,47,48,49,50,51,52,53,54] [] [[],[],[],[],[2,3],[2,3,4],[],[],[7],[2,3,4,5,6,7,8],[2,3,4,5,6,7,8,9],[2,3,4,5,6,7,8,9,10],[2,3,4,5,6,7,8,9,10],[0,1],[0,1,2,3,4,5,6,7,8,9,10,11,13]] [(14,2)]:=⟨trivial⟩
set_option maxHeartbeats 2000000 in
set_option maxRecDepth 100000 in
theorem JO (g:aQ) (r_:cv) (c:Int) (z_:(List Int)) (hp0: ∀x∈r_.Bases,x.length≤z_.length∧x.length≤1000) (hp1:r_.Bases.length=r_.Y.length) (hp2:r_.Y.length≤8) (hp3:1≤g.Q):CM En (wb g r_ c z_) 316 [.agg [.int .i64 g.P,.int .i64 g.Q,.int .i64 g.G],.agg [.sl none 1 false (r_.Y.map (V.int .i64)),.sl none 1 false (r_.Bases.map (fun (l:List Int)=>V.sl none 1 false (l.map (V.int .i64))))],.int .i64 c,.sl none 1 false (z_.map (V.int .i64))] (fun y=> .sl none 1 false (y.map (V.int .i64))) (fun _=> []):=by
 refine cmQ fun r hM=> ?_
 rw [wb.eq_1] at hM
 refine av al ar noJ Tryz.func316 rfl Tryz.ntmps316 (by kernel_rfl) fun hw=>au ?_
 refine spQ ?_
 replace hw:=nzQ hw
 replace hM:=ao hM;obtain ⟨x1,hx2,hM⟩:=hM
 have hcx1:=cmH hx2 (JN g (r_.Bases) z_ (by (first|exact hp0|omega)) (by (first|exact hp0|omega)))
 refine aH hcx1 clQ clQ (fun hw3=> ?_)
 replace hw3:=nzQ hw3
 refine spQ ?_
 have hq4:=IY hx2
 replace hq4:=nzQ hq4
 replace hM:=aU hM;obtain ⟨f5,d5,hf5,hd5,hM⟩:=hM
 refine a6 (fun n S=> ∃p:Int×List Int,S=(⟨[(2,.int .i64 c),(4,.ptr 0 0),(9,.own 2),(20,.sl none 1 false (r_.Y.map (V.int .i64))),(21,.int .i64 (r_.Y.length:Int)),(22,.int .i64 p.1)],[(0,.var 3 true (.agg [.int .i64 g.P,.int .i64 g.Q,.int .i64 g.G])),(2,.own 3 1 false none (p.2.map (V.int .i64)))],3⟩:St)∧((0≤p.1)∧(p.1≤(r_.Y.length:Int))∧((p.2).length=(x1).length))∧((r_.Y.length:Int) - p.1).toNat<n∧am n f5 d5 p=r) (((r_.Y.length:Int) - 0).toNat+1) _ sbQ sbQ ⟨(0,x1),rfl,⟨omQ,omQ,omQ⟩,(Nat.lt_succ_self _),hM⟩ ?_
 clear hM
 rintro n5 S ⟨p5,rfl,hfa5,hm5,hM⟩
 replace hM:=aV hM (by omega) hf5;obtain ⟨ag5,hag5,hM⟩:=hM
 replace hfa5:=nzQ hfa5
 replace hm5:=nzQ hm5
 have ha5:ax .i64 p5.1 1=p5.1+1:=aZ omQ omQ
 refine aa ha5 ?_
 have hF:=ha5
 exact auQ
instance (priority:=1012):DRD 6 26 8 [16,17,18,19,20,21,22,23] [] ([[],[],[0,1],[0,1,2],[],[],[4,5],[4,5,6]]++[List.range 8]) []:=⟨trivial⟩
set_option maxHeartbeats 2000000 in
set_option maxRecDepth 100000 in
instance OY (s1:(List Int)) (s2:(List Int)):CM En (wc s1 s2) 315 [.sl none 1 false (s1.map (V.int .i64)),.sl none 1 false (s2.map (V.int .i64))] (fun y=> .bool y) (fun _=> []):=by
 refine cmQ fun r hM=> ?_
 rw [wc.eq_1] at hM
 refine av al ar noJ Tryz.func315 rfl Tryz.ntmps315 (by kernel_rfl) fun hw=>au ?_
 refine spQ ?_
 replace hw:=nzQ hw
 refine aB (fun h1=> ?_) (fun h1=> ?_)
 ·rw [if_pos h1] at hM
  refine aa h1 ?_
  subst hM
  exact aw (az h1)
 ·rw [if_neg (ap h1)] at hM
  refine aa h1 ?_
  have nh1:=nzQ h1
  try have hr3:=mpQ nh1
  replace hM:=aU hM;obtain ⟨f4,d4,hf4,hd4,hM⟩:=hM
  refine a6 (fun n S=> ∃p:Int,S=(⟨[(0,.sl none 1 false (s1.map (V.int .i64))),(1,.sl none 1 false (s2.map (V.int .i64))),(12,.int .i64 (s1.length:Int)),(13,.int .i64 p)],[],0⟩:St)∧((0≤p)∧(p≤(s1.length:Int)))∧((s1.length:Int) - p).toNat<n∧am n f4 d4 p=r) (((s1.length:Int) - 0).toNat+1) _ sbQ sbQ ⟨0,rfl,⟨omQ,omQ⟩,(Nat.lt_succ_self _),hM⟩ ?_
  clear hM
  rintro n4 S ⟨p4,rfl,hfa4,hm4,hM⟩
  replace hM:=aV hM (by omega) hf4;obtain ⟨ag4,hag4,hM⟩:=hM
  replace hfa4:=nzQ hfa4
  replace hm4:=nzQ hm4
  have ha4:ax .i64 p4 1=p4+1:=aZ omQ omQ
  refine aa ha4 ?_
  have hF:=(And.intro h1 ha4)
  exact auQ
end Go.Proofs.YtcbbjfckokckcaaGreatDoor
namespace Go.Proofs.YtcbbjfckokckcaaGreatDoor
open Go.RowKit
set_option linter.unusedSimpArgs false
set_option maxHeartbeats 2000000 in
set_option maxRecDepth 100000 in
instance OZ (g:aQ) (r_:cv) (p_:fH):CM En (m4 g r_ p_) 253 [.agg [.int .i64 g.P,.int .i64 g.Q,.int .i64 g.G],.agg [.sl none 1 false (r_.Y.map (V.int .i64)),.sl none 1 false (r_.Bases.map (fun (l:List Int)=>V.sl none 1 false (l.map (V.int .i64))))],.agg [.sl none 1 false (p_.A.map (V.int .i64)),.int .i64 p_.C,.sl none 1 false (p_.Z.map (V.int .i64))]] (fun y=> .bool y) (fun _=> []):=by
 refine cmQ fun r hM=> ?_
 rw [m4.eq_1] at hM
 refine av al ar noJ Tryz.func253 rfl Tryz.ntmps253 (by kernel_rfl) fun hw=>au ?_
 refine spQ ?_
 replace hw:=nzQ hw
 refine bN 53 33 [7,8,9,10,11,12,13,14,15,16,17,18,19,20,21,22,23,24,25,26,27,28,29,30,31,32,33,34,35,36,37,38,39] [] ([[],[],[0,1],[0,1,2],[0,1,2,3],[0,1,2,3,4],[0,1,2,3,4,5],[0,1,2,3,4,5,6],[0,1,2,3,4],[0,1,2,3,4,8],[0,1,2,3,4,8,9],[0,1,2,3,4,5,6,7,8,9,10],[0,1,2,3,4,5,6,7,8,9,10,11],[0,1,2,3,4,5,6,7,8,9,10,11,12],[0,1,2,3,4,5,6,7,8,9,10,11,12,13],[0,1,2,3,4,5,6,7,8,9,10,11,12,13,14],[0,1,2,3,4,5,6,7,8,9,10,11,12,13,14,15],[0,1,2,3,4,5,6,7,8,9,10,11,12,13],[0,1,2,3,4,5,6,7,8,9,10,11,12,13,17],[0,1,2,3,4,5,6,7,8,9,10,11,12,13,14,15,16,17,18],[0,1,2,3,4,5,6,7,8,9,10,11,12,13,14,15,16,17,18,19],[0,1,2,3,4,5,6,7,8,9,10,11,12,13,14,15,16,17,18,19,20],[0,1,2,3,4,5,6,7,8,9,10,11,12,13,14,15,16,17,18,19,20,21],[0,1,2,3,4,5,6,7,8,9,10,11,12,13,14,15,16,17,18,19,20,21],[0,1,2,3,4,5,6,7,8,9,10,11,12,13,14,15,16,17,18,19,20,21,23],[0,1,2,3,4,5,6,7,8,9,10,11,12,13,14,15,16,17,18,19,20,21,23,24],[0,1,2,3,4,5,6,7,8,9,10,11,12,13,14,15,16,17,18,19,20,21,22,23,24,25],[0,1,2,3,4,5,6,7,8,9,10,11,12,13,14,15,16,17,18,19,20,21,22,23,24,25,26],[0,1,2,3,4,5,6,7,8,9,10,11,12,13,14,15,16,17,18,19,20,21,22,23,24,25,26,27],[0,1,2,3,4,5,6,7,8,9,10,11,12,13,14,15,16,17,18,19,20,21,22,23,24,25,26,27,28],[0,1,2,3,4,5,6,7,8,9,10,11,12,13,14,15,16,17,18,19,20,21,22,23,24,25,26,27,28,29],[0,1,2,3,4,5,6,7,8,9,10,11,12,13,14,15,16,17,18,19,20,21,22,23,24,25,26,27,28,29],[0,1,2,3,4,5,6,7,8,9,10,11,12,13,14,15,16,17,18,19,20,21,22,23,24,25,26,27,28,29,31]]++[List.range 33,List.range 34,List.range 35]) [] (by kernel_rfl) (by exact alQ) ?_
 refine spQ ?_
 replace hM:=ao hM;obtain ⟨x1,hx2,hM⟩:=hM
 have hcx1:=cmU hx2
 refine bp hcx1 clQ clQ ?_
 refine spQ ?_
 have hq3:=nzQ (cfU hx2)
 refine dk (fun h4=> ?_) (fun h4=> ?_)
 ·rw [if_neg (ap h4)] at hM
  refine aa h4 ?_
  have nh4:=nzQ h4
  try have hr5:=mpQ nh4
  refine dk (fun h6=> ?_) (fun h6=> ?_)
  ·rw [if_neg (ap h6)] at hM
   refine aa h6 ?_
   have nh6:=nzQ h6
   try have hr7:=mpQ nh6
   replace hM:=ao hM;obtain ⟨x8,hx9,hM⟩:=hM
   have hcx8:=cmH hx9 (JL r_ (by (clear hM;have h9:=iB ‹okR _ _›;omega)))
   refine bp hcx8 clQ clQ ?_
   refine spQ ?_
   refine dk (fun h10=> ?_) (fun h10=> ?_)
   ·rw [if_neg (ap h10)] at hM
    refine aa h10 ?_
    have nh10:=nzQ h10
    try have hr11:=mpQ nh10
    replace hM:=ao hM;obtain ⟨x12,hx13,hM⟩:=hM
    have hcx12:=cmU hx13
    refine y7 hcx12 clQ clQ ?_
    refine spQ ?_
    refine dk (fun h14=> ?_) (fun h14=> ?_)
    ·rw [if_neg (ap h14)] at hM
     refine aa h14 ?_
     have nh14:=nzQ h14
     try have hr15:=mpQ nh14
     replace hM:=ao hM;obtain ⟨x16,hx17,hM⟩:=hM
     have hcx16:=cmU hx17
     refine aH hcx16 clQ clQ (fun hw18=> ?_)
     replace hw18:=nzQ hw18
     refine spQ ?_
     refine aB (fun h19=> ?_) (fun h19=> ?_)
     ·rw [if_pos h19] at hM
      refine aa h19 ?_
      subst hM
      exact aw (az (And.intro h4 (And.intro h6 (And.intro h10 (And.intro h14 h19)))))
     ·rw [if_neg (ap h19)] at hM
      refine aa h19 ?_
      have nh19:=nzQ h19
      try have hr21:=mpQ nh19
      refine bN 53 9 [43,44,45,46,47,48,49,50,51] [] ([[],[],[],[2],[],[4],[0,1,2,3,4,5],[],[7]]++[List.range 9,List.range 10]) [] (by kernel_rfl) (by exact alQ) ?_
      refine spQ ?_
      replace hM:=ao hM;obtain ⟨x22,hx23,hM⟩:=hM
      have hcx22:=cmH hx23 (JO g r_ (p_.C) (p_.Z) (by (clear hM;first|exact rR ‹okR _ _› ‹_=gH _› (by omega)|(have h9:=iB ‹okR _ _›;omega))) (by (clear hM;first|exact rR ‹okR _ _› ‹_=gH _› (by omega)|(have h9:=iB ‹okR _ _›;omega))) (by (clear hM;first|exact rR ‹okR _ _› ‹_=gH _› (by omega)|(have h9:=iB ‹okR _ _›;omega))) (by (clear hM;first|exact rR ‹okR _ _› ‹_=gH _› (by omega)|(have h9:=iB ‹okR _ _›;omega))))
      refine bp hcx22 clQ clQ ?_
      refine spQ ?_
      have hF:=(And.intro h4 (And.intro h6 (And.intro h10 (And.intro h14 h19))))
      exact auQ
    ·rw [if_pos h14] at hM
     refine aa h14 ?_
     subst hM
     exact aw (az (And.intro h4 (And.intro h6 (And.intro h10 h14))))
   ·rw [if_pos h10] at hM
    refine aa h10 ?_
    subst hM
    exact aw (az (And.intro h4 (And.intro h6 h10)))
  ·rw [if_pos h6] at hM
   refine aa h6 ?_
   subst hM
   exact aw (az (And.intro h4 h6))
 ·rw [if_pos h4] at hM
  refine aa h4 ?_
  subst hM
  exact aw (az h4)
set_option maxHeartbeats 2000000 in
set_option maxRecDepth 100000 in
instance O0 (c:Int):CM En (wd c) 391 [.int .u8 c] (fun y=> .bool y) (fun _=> []):=by
 refine cmQ fun r hM=> ?_
 rw [wd.eq_1] at hM
 refine av al ar noJ Tryz.func391 rfl Tryz.ntmps391 (by kernel_rfl) fun hw=>au ?_
 refine spQ ?_
 replace hw:=nzQ hw
 have hF:=aW
 exact auQ
set_option maxHeartbeats 2000000 in
set_option maxRecDepth 100000 in
instance O1 (s:(List Int)):CM En (we s) 400 [.sl none 1 false (s.map (V.int .u8)),.fn 391 []] (fun y=> .int .i64 y) (fun _=> []):=by
 refine cmQ fun r hM=> ?_
 rw [we.eq_1] at hM
 refine av al ar noJ Tryz.func400 rfl Tryz.ntmps400 (by kernel_rfl) fun hw=>au ?_
 refine spQ ?_
 replace hw:=nzQ hw
 replace hM:=aU hM;obtain ⟨f1,d1,hf1,hd1,hM⟩:=hM
 refine a6 (fun n S=> ∃p:Int,S=(⟨[(0,.sl none 1 false (s.map (V.int .u8))),(1,.fn 391 []),(7,.int .i64 (s.length:Int)),(8,.int .i64 p)],[],0⟩:St)∧((0≤p)∧(p≤(s.length:Int)))∧((s.length:Int) - p).toNat<n∧am n f1 d1 p=r) (((s.length:Int) - 0).toNat+1) _ sbQ sbQ ⟨0,rfl,⟨omQ,omQ⟩,(Nat.lt_succ_self _),hM⟩ ?_
 clear hM
 rintro n1 S ⟨p1,rfl,hfa1,hm1,hM⟩
 replace hM:=aV hM (by omega) hf1;obtain ⟨ag1,hag1,hM⟩:=hM
 replace hfa1:=nzQ hfa1
 replace hm1:=nzQ hm1
 have ha1:ax .i64 p1 1=p1+1:=aZ omQ omQ
 refine aa ha1 ?_
 have hF:=ha1
 exact auQ
set_option maxHeartbeats 2000000 in
set_option maxRecDepth 100000 in
instance O2 (s:(List Int)):CM En (wg s) 390 [.sl none 1 false (s.map (V.int .u8)),.fn 391 []] (fun y=> .bool y) (fun _=> []):=by
 refine cmQ fun r hM=> ?_
 rw [wg.eq_1] at hM
 refine av al ar noJ Tryz.func390 rfl Tryz.ntmps390 (by kernel_rfl) fun hw=>au ?_
 refine spQ ?_
 replace hw:=nzQ hw
 have hF:=aW
 exact auQ
set_option maxHeartbeats 2000000 in
set_option maxRecDepth 100000 in
instance O3 (label:(List UInt8)):CM En (lu label) 365 [.str label] (fun y=> .bool y) (fun _=> []):=by
 refine cmQ fun r hM=> ?_
 rw [lu.eq_1] at hM
 refine av al ar noJ Tryz.func365 rfl Tryz.ntmps365 (by kernel_rfl) fun hw=>au ?_
 refine spQ ?_
 replace hw:=nzQ hw
 have hF:=aW
 exact auQ
set_option maxHeartbeats 2000000 in
set_option maxRecDepth 100000 in
instance O4 (label:(List UInt8)):CM En (wh label) 317 [.str label] (fun y=> .tup [(fK y.1),.int .i64 y.2]) (fun _=> []):=by
 refine cmQ fun r hM=> ?_
 rw [wh.eq_1] at hM
 refine av al ar noJ Tryz.func317 rfl Tryz.ntmps317 (by kernel_rfl) fun hw=>au ?_
 refine spQ ?_
 replace hw:=nzQ hw
 replace hM:=ao hM;obtain ⟨x1,hx2,hM⟩:=hM
 have hcx1:=cmU hx2
 refine aH hcx1 clQ clQ (fun hw3=> ?_)
 replace hw3:=nzQ hw3
 refine spQ ?_
 have hq4:=nzQ (cfU hx2)
 refine aB (fun h5=> ?_) (fun h5=> ?_)
 ·rw [if_pos h5] at hM
  refine aa h5 ?_
  subst hM
  exact aw (az h5)
 ·rw [if_neg (ap h5)] at hM
  refine aa h5 ?_
  have nh5:=nzQ h5
  try have hr7:=mpQ nh5
  replace hM:=ao hM;obtain ⟨x8,hx9,hM⟩:=hM
  have hcx8:=cmH hx9 (iC ([115,112,101,99,105,101,47,116,114,97,110,115,99,114,105,112,116]) (gx label) (by (exact pfQ)))
  refine gZ hcx8 clQ clQ (fun hw10=> ?_)
  replace hw10:=nzQ hw10
  refine spQ ?_
  subst hM
  exact aw (az h5)
set_option maxHeartbeats 2000000 in
set_option maxRecDepth 100000 in
instance O5 (t:bZ):CM En (rx t) 367 [(fK t)] (fun y=> .bool y) (fun _=> []):=by
 refine cmQ fun r hM=> ?_
 rw [rx.eq_1] at hM
 refine av al ar noJ Tryz.func367 rfl Tryz.ntmps367 (by kernel_rfl) fun hw=>au ?_
 refine spQ ?_
 replace hw:=nzQ hw
 have hF:=aW
 exact auQ
set_option maxHeartbeats 2000000 in
set_option maxRecDepth 100000 in
theorem A5 (tag:(List UInt8)) (t:bZ) (label:(List UInt8)) (more:(List ak)) (hp0:bK more≤100000) (hp1:more.length≤10) (hp2:label.length≤100) (hp3:tag.length≤100):CM En (ry tag t label more) 368 [.str tag,(fK t),.str label,.sl none 4 true (more.map a7)] (fun y=> .tup [(aI y.1),.int .i64 y.2]) (fun _=> []):=by
 refine cmQ fun r hM=> ?_
 rw [ry.eq_1] at hM
 refine av al ar noJ Tryz.func368 rfl Tryz.ntmps368 (by kernel_rfl) fun hw=>au ?_
 refine spQ ?_
 replace hw:=nzQ hw
 refine aP omQ ?_
 refine spQ ?_
 replace hM:=ao hM;obtain ⟨x1,hx2,hM⟩:=hM
 have hcx1:=cmH hx2 (km ({Kind:=3,N:=0,B:=([]:List Int),L:=(([({Kind:=2,N:=0,B:=(bc 32 t.State),L:=([]:List ak)}:ak),({Kind:=2,N:=0,B:=(gx label),L:=([]:List ak)}:ak)]:List ak)++more)}:ak) (by (clear hM;simp only [hgt,bK,oK,ce,eE,List.length_nil];omega)))
 refine nQ hcx1 (I3 (S:=⟨_,_,_⟩) 3 ((([({Kind:=2,N:=0,B:=(bc 32 t.State),L:=([]:List ak)}:ak),({Kind:=2,N:=0,B:=(gx label),L:=([]:List ak)}:ak)]:List ak)++more).map a7) rfl sbQ) clQ (fun hw3=> ?_)
 replace hw3:=nzQ hw3
 refine spQ ?_
 have hq4:=kl hx2
 replace hq4:=nzQ hq4
 refine aB (fun h5=> ?_) (fun h5=> ?_)
 ·rw [if_pos h5] at hM
  refine aa h5 ?_
  subst hM
  exact aw (az h5)
 ·rw [if_neg (ap h5)] at hM
  refine aa h5 ?_
  have nh5:=nzQ h5
  try have hr7:=mpQ nh5
  replace hM:=ao hM;obtain ⟨x8,hx9,hM⟩:=hM
  have hcx8:=cmH hx9 (iC tag (x1.1) (by (exact pfQ)))
  refine aH hcx8 clQ clQ (fun hw10=> ?_)
  replace hw10:=nzQ hw10
  refine spQ ?_
  subst hM
  exact aw (az h5)
set_option maxHeartbeats 2000000 in
set_option maxRecDepth 100000 in
theorem A6 (t:bZ) (label:(List UInt8)) (i_:ak) (hp0:hgt i_≤10000):CM En (rz t label i_) 366 [(fK t),.str label,.agg [.int .i64 i_.Kind,.int .i64 i_.N,.sl none 1 false (i_.B.map (V.int .u8)),.sl none 4 true (i_.L.map a7)]] (fun y=> .tup [(fK y.1),.int .i64 y.2]) (fun _=> []):=by
 refine cmQ fun r hM=> ?_
 rw [rz.eq_1] at hM
 refine av al ar noJ Tryz.func366 rfl Tryz.ntmps366 (by kernel_rfl) fun hw=>au ?_
 refine spQ ?_
 replace hw:=nzQ hw
 replace hM:=ao hM;obtain ⟨x1,hx2,hM⟩:=hM
 have hcx1:=cmU hx2
 refine aH hcx1 clQ clQ (fun hw3=> ?_)
 replace hw3:=nzQ hw3
 refine spQ ?_
 refine cr (fun h4=> ?_) (fun h4=> ?_)
 ·rw [if_neg (ap h4)] at hM
  refine aa h4 ?_
  have nh4:=nzQ h4
  try have hr5:=mpQ nh4
  replace hM:=ao hM;obtain ⟨x6,hx7,hM⟩:=hM
  have hcx6:=cmU hx7
  refine aH hcx6 clQ clQ (fun hw8=> ?_)
  replace hw8:=nzQ hw8
  refine spQ ?_
  have hq9:=nzQ (cfU hx7)
  refine aB (fun h10=> ?_) (fun h10=> ?_)
  ·rw [if_pos h10] at hM
   refine aa h10 ?_
   subst hM
   exact aw (az (And.intro h4 h10))
  ·rw [if_neg (ap h10)] at hM
   refine aa h10 ?_
   have nh10:=nzQ h10
   try have hr12:=mpQ nh10
   replace hM:=ao hM;obtain ⟨x13,hx14,hM⟩:=hM
   have hcx13:=cmH hx14 (A5 ([115,112,101,99,105,101,47,97,98,115,111,114,98]) t label ([i_]:List ak) (by (clear hM;first|omega|decide|(simp only [bK,List.length_cons,List.length_nil];omega))) (by (clear hM;first|omega|decide|(simp only [bK,List.length_cons,List.length_nil];omega))) (by (clear hM;first|omega|decide|(simp only [bK,List.length_cons,List.length_nil];omega))) (by (clear hM;first|omega|decide|(simp only [bK,List.length_cons,List.length_nil];omega))))
   refine gZ hcx13 clQ clQ (fun hw15=> ?_)
   replace hw15:=nzQ hw15
   refine spQ ?_
   have hF:=(And.intro h4 h10)
   exact auQ
 ·rw [if_pos h4] at hM
  refine aa h4 ?_
  subst hM
  exact aw (az h4)
set_option maxHeartbeats 2000000 in
set_option maxRecDepth 100000 in
theorem JP (t:bZ) (label:(List UInt8)) (l:(List Int)) (hp0:l.length≤1000):CM En (wi t label l) 319 [(fK t),.str label,.sl none 1 false (l.map (V.int .i64))] (fun y=> .tup [(fK y.1),.int .i64 y.2]) (fun _=> []):=by
 refine cmQ fun r hM=> ?_
 rw [wi.eq_1] at hM
 refine av al ar noJ Tryz.func319 rfl Tryz.ntmps319 (by kernel_rfl) fun hw=>au ?_
 refine spQ ?_
 replace hw:=nzQ hw
 refine bN 15 7 [8,9,10,11,12,13,14] [] ([[],[],[],[2],[0,1,2,3],[0,1,2,3,4],[0,1,2,3,4]]++[List.range 7,List.range 8]) [] (by kernel_rfl) (by exact alQ) ?_
 refine spQ ?_
 replace hM:=ao hM;obtain ⟨x1,hx2,hM⟩:=hM
 have hcx1:=cmU hx2
 refine bp hcx1 clQ clQ ?_
 refine spQ ?_
 have hq3:=wE hx2
 replace hq3:=nzQ hq3
 replace hM:=ao hM;obtain ⟨x4,hx5,hM⟩:=hM
 have hcx4:=cmH hx5 (A6 t label x1 (by (clear hM;omega)))
 refine bp hcx4 clQ clQ ?_
 refine spQ ?_
 subst hM
 exact aw lfQ
set_option maxHeartbeats 2000000 in
set_option maxRecDepth 100000 in
theorem rY (z1:Option Bool) (name:(List UInt8)) (l_:(List Int)) (c0:Int) (c1:bZ) (hp0:l_.length≤1000):cZ En 318 [.str name,.sl z1 1 false (l_.map (V.int .i64)),.ptr 0 0,.ptr 1 0] [.var 1 false (.int .i64 c0),.var 33 true ((fK c1))] (.tup []) [.var 1 false (.int .i64 (bL name l_ c0 c1).1),.var 33 true (.agg (.int .u8 (gt (bL name l_ c0 c1).2.State 0):: .int .u8 (gt (bL name l_ c0 c1).2.State 1):: .int .u8 (gt (bL name l_ c0 c1).2.State 2):: .int .u8 (gt (bL name l_ c0 c1).2.State 3):: .int .u8 (gt (bL name l_ c0 c1).2.State 4):: .int .u8 (gt (bL name l_ c0 c1).2.State 5):: .int .u8 (gt (bL name l_ c0 c1).2.State 6):: .int .u8 (gt (bL name l_ c0 c1).2.State 7):: .int .u8 (gt (bL name l_ c0 c1).2.State 8):: .int .u8 (gt (bL name l_ c0 c1).2.State 9):: .int .u8 (gt (bL name l_ c0 c1).2.State 10):: .int .u8 (gt (bL name l_ c0 c1).2.State 11):: .int .u8 (gt (bL name l_ c0 c1).2.State 12):: .int .u8 (gt (bL name l_ c0 c1).2.State 13):: .int .u8 (gt (bL name l_ c0 c1).2.State 14):: .int .u8 (gt (bL name l_ c0 c1).2.State 15):: .int .u8 (gt (bL name l_ c0 c1).2.State 16):: .int .u8 (gt (bL name l_ c0 c1).2.State 17):: .int .u8 (gt (bL name l_ c0 c1).2.State 18):: .int .u8 (gt (bL name l_ c0 c1).2.State 19):: .int .u8 (gt (bL name l_ c0 c1).2.State 20):: .int .u8 (gt (bL name l_ c0 c1).2.State 21):: .int .u8 (gt (bL name l_ c0 c1).2.State 22):: .int .u8 (gt (bL name l_ c0 c1).2.State 23):: .int .u8 (gt (bL name l_ c0 c1).2.State 24):: .int .u8 (gt (bL name l_ c0 c1).2.State 25):: .int .u8 (gt (bL name l_ c0 c1).2.State 26):: .int .u8 (gt (bL name l_ c0 c1).2.State 27):: .int .u8 (gt (bL name l_ c0 c1).2.State 28):: .int .u8 (gt (bL name l_ c0 c1).2.State 29):: .int .u8 (gt (bL name l_ c0 c1).2.State 30):: .int .u8 (gt (bL name l_ c0 c1).2.State 31):: .int .i64 (bL name l_ c0 c1).2.Count::[]))] []:=by
 generalize hM:bL name l_ c0 c1=r
 rw [bL.eq_1] at hM
 refine iZ al ar noJ Tryz.func318 rfl Tryz.ntmps318 (by kernel_rfl) rfl fun ks hw hwB=>au ?_
 refine spQ ?_
 replace hw:=nzQ hw
 try simp only [fd,wfB,decide_eq_true_eq,decide_eq_false_iff_not,Bool.and_eq_true,Bool.or_eq_true,Bool.not_eq_true',Bool.not_eq_false',beq_iff_eq,bne_iff_ne,beq_eq_false_iff_ne,bne_eq_false_iff_eq,ne_eq,Int.not_lt,Int.not_le,gt_iff_lt,ge_iff_le,List.length_map,wfL,wfV,and_true,true_and,dF,gn,go,gp,gu,eX,eD,List.length_append,List.length_cons,List.length_nil,List.length_replicate,aD,eY,eZ,fb,ce,eE,gw] at hwB
 refine aB (fun h1=> ?_) (fun h1=> ?_)
 ·rw [if_pos h1] at hM
  refine aa h1 ?_
  have nh1:=nzQ h1
  try have hr2:=mpQ nh1
  replace hM:=ao hM;obtain ⟨x3,hx4,hM⟩:=hM
  have hcx3:=cmH hx4 (JP c1 name l_ (by (exact hp0)))
  refine aH hcx3 clQ clQ (fun hw5=> ?_)
  replace hw5:=nzQ hw5
  refine spQ ?_
  subst hM
  exact cV [0,1] (by simp only [go_sem,aE,aF,List.length_replicate,aD,Int.toNat_natCast,↓reduceIte,Nat.reduceEqDiff,Nat.reduceAdd,Int.reduceAdd,Nat.reduceMul,Nat.reduceLeDiff,Nat.reduceLT,Int.reduceLE,Int.reduceLT,Int.reduceNeg,Int.reduceToNat,mt,mtL,aL,aK,mtZ,and_self,eq_self,or_true,true_or,br,bm,bn,Int.reduceSub,or_self,h1]) (by decide) (by simp only [go_sem,aE,aF,List.length_replicate,aD,Int.toNat_natCast,↓reduceIte,Nat.reduceEqDiff,Nat.reduceAdd,Int.reduceAdd,Nat.reduceMul,Nat.reduceLeDiff,Nat.reduceLT,Int.reduceLE,Int.reduceLT,Int.reduceNeg,Int.reduceToNat,mt,mtL,aL,aK,mtZ,and_self,eq_self,or_true,true_or,br,bm,bn,Int.reduceSub,or_self,h1])
 ·rw [if_neg (ap h1)] at hM
  refine aa h1 ?_
  have nh1:=nzQ h1
  try have hr6:=mpQ nh1
  subst hM
  exact cV [0,1] (by simp only [go_sem,aE,aF,List.length_replicate,aD,Int.toNat_natCast,↓reduceIte,Nat.reduceEqDiff,Nat.reduceAdd,Int.reduceAdd,Nat.reduceMul,Nat.reduceLeDiff,Nat.reduceLT,Int.reduceLE,Int.reduceLT,Int.reduceNeg,Int.reduceToNat,mt,mtL,aL,aK,mtZ,and_self,eq_self,or_true,true_or,br,bm,bn,Int.reduceSub,or_self,h1]) (by decide) (by simp only [go_sem,aE,aF,List.length_replicate,aD,Int.toNat_natCast,↓reduceIte,Nat.reduceEqDiff,Nat.reduceAdd,Int.reduceAdd,Nat.reduceMul,Nat.reduceLeDiff,Nat.reduceLT,Int.reduceLE,Int.reduceLT,Int.reduceNeg,Int.reduceToNat,mt,mtL,aL,aK,mtZ,and_self,eq_self,or_true,true_or,br,bm,bn,Int.reduceSub,or_self,h1])
set_option maxHeartbeats 2000000 in
set_option maxRecDepth 100000 in
instance O6 (t:bZ) (label:(List UInt8)) (q:Int):CM En (wj t label q) 320 [(fK t),.str label,.int .i64 q] (fun y=> .tup [(fK y.1),.int .i64 y.2.1,.int .i64 y.2.2]) (fun _=> []):=by
 refine cmQ fun r hM=> ?_
 rw [wj.eq_1] at hM
 refine av al ar noJ Tryz.func320 rfl Tryz.ntmps320 (by kernel_rfl) fun hw=>au ?_
 refine spQ ?_
 replace hw:=nzQ hw
 replace hM:=ao hM;obtain ⟨x1,hx2,hM⟩:=hM
 have hcx1:=cmU hx2
 refine aH hcx1 clQ clQ (fun hw3=> ?_)
 replace hw3:=nzQ hw3
 refine spQ ?_
 refine cr (fun h4=> ?_) (fun h4=> ?_)
 ·rw [if_neg (ap h4)] at hM
  refine aa h4 ?_
  have nh4:=nzQ h4
  try have hr5:=mpQ nh4
  replace hM:=ao hM;obtain ⟨x6,hx7,hM⟩:=hM
  have hcx6:=cmU hx7
  refine aH hcx6 clQ clQ (fun hw8=> ?_)
  replace hw8:=nzQ hw8
  refine spQ ?_
  have hq9:=nzQ (cfU hx7)
  refine aB (fun h10=> ?_) (fun h10=> ?_)
  ·rw [if_pos h10] at hM
   refine aa h10 ?_
   subst hM
   exact aw (az (And.intro h4 h10))
  ·rw [if_neg (ap h10)] at hM
   refine aa h10 ?_
   have nh10:=nzQ h10
   try have hr12:=mpQ nh10
   refine cr (fun h13=> ?_) (fun h13=> ?_)
   ·rw [if_neg (ap h13)] at hM
    refine aa h13 ?_
    have nh13:=nzQ h13
    try have hr14:=mpQ nh13
    refine aB (fun h15=> ?_) (fun h15=> ?_)
    ·rw [if_pos h15] at hM
     refine aa h15 ?_
     subst hM
     exact aw (az (And.intro h4 (And.intro h10 (And.intro h13 h15))))
    ·rw [if_neg (ap h15)] at hM
     refine aa h15 ?_
     have nh15:=nzQ h15
     try have hr17:=mpQ nh15
     refine aB (fun h18=> ?_) (fun h18=> ?_)
     ·rw [if_pos h18] at hM
      refine aa h18 ?_
      subst hM
      exact aw (az (And.intro h4 (And.intro h10 (And.intro h13 (And.intro h15 h18)))))
     ·rw [if_neg (ap h18)] at hM
      refine aa h18 ?_
      have nh18:=nzQ h18
      try have hr20:=mpQ nh18
      replace hM:=ao hM;obtain ⟨x21,hx22,hM⟩:=hM
      have hcx21:=cmH hx22 (A5 ([115,112,101,99,105,101,47,99,104,97,108,108,101,110,103,101]) t label ([]:List ak) (by (clear hM;first|omega|decide|(simp only [bK,List.length_cons,List.length_nil];omega))) (by (clear hM;first|omega|decide|(simp only [bK,List.length_cons,List.length_nil];omega))) (by (clear hM;first|omega|decide|(simp only [bK,List.length_cons,List.length_nil];omega))) (by (clear hM;first|omega|decide|(simp only [bK,List.length_cons,List.length_nil];omega))))
      refine aH hcx21 clQ clQ (fun hw23=> ?_)
      replace hw23:=nzQ hw23
      refine spQ ?_
      refine aB (fun h24=> ?_) (fun h24=> ?_)
      ·rw [if_pos h24] at hM
       refine aa h24 ?_
       subst hM
       exact aw (az (And.intro h4 (And.intro h10 (And.intro h13 (And.intro h15 (And.intro h18 h24))))))
      ·rw [if_neg (ap h24)] at hM
       refine aa h24 ?_
       have nh24:=nzQ h24
       try have hr26:=mpQ nh24
       replace hM:=ao hM;obtain ⟨x27,hx28,hM⟩:=hM
       have hcx27:=cmU hx28
       refine aH hcx27 clQ clQ (fun hw29=> ?_)
       replace hw29:=nzQ hw29
       refine spQ ?_
       refine aB (fun h30=> ?_) (fun h30=> ?_)
       ·rw [if_pos h30] at hM
        refine aa h30 ?_
        subst hM
        exact aw (az (And.intro h4 (And.intro h10 (And.intro h13 (And.intro h15 (And.intro h18 (And.intro h24 h30)))))))
       ·rw [if_neg (ap h30)] at hM
        refine aa h30 ?_
        have nh30:=nzQ h30
        try have hr32:=mpQ nh30
        replace hM:=ao hM;obtain ⟨x33,hx34,hM⟩:=hM
        have hcx33:=cmH hx34 (A6 t label ({Kind:=1,N:=x27.1,B:=([]:List Int),L:=([]:List ak)}:ak) (by (clear hM;simp only [hgt,bK,List.length_nil];omega)))
        refine aH hcx33 clQ clQ (fun hw35=> ?_)
        replace hw35:=nzQ hw35
        refine spQ ?_
        have hF:=(And.intro h4 (And.intro h10 (And.intro h13 (And.intro h15 (And.intro h18 (And.intro h24 h30))))))
        exact auQ
   ·rw [if_pos h13] at hM
    refine aa h13 ?_
    subst hM
    exact aw (az (And.intro h4 (And.intro h10 h13)))
 ·rw [if_pos h4] at hM
  refine aa h4 ?_
  subst hM
  exact aw (az h4)
instance (priority:=1013):DRD 12 63 2 [8,52] [] ([[],[]]++[List.range 2]) []:=⟨trivial⟩
instance (priority:=1014):DRD 14 63 3 [8,61,62] [] ([[],[],[0]]++[List.range 3]) []:=⟨trivial⟩
set_option maxHeartbeats 2000000 in
set_option maxRecDepth 100000 in
theorem JQ (g:aQ) (r_:cv) (a_:(List Int)) (label:(List UInt8)) (hp0:okR g r_) (hp1:a_.length≤8):CM En (wk g r_ a_ label) 254 [.agg [.int .i64 g.P,.int .i64 g.Q,.int .i64 g.G],.agg [.sl none 1 false (r_.Y.map (V.int .i64)),.sl none 1 false (r_.Bases.map (fun (l:List Int)=>V.sl none 1 false (l.map (V.int .i64))))],.sl none 1 false (a_.map (V.int .i64)),.str label] (fun y=> .tup [.int .i64 y.1,.int .i64 y.2]) (fun _=> []):=by
 refine cmQ fun r hM=> ?_
 rw [wk.eq_1] at hM
 refine av al ar noJ Tryz.func254 rfl Tryz.ntmps254 (by kernel_rfl) fun hw=>au ?_
 refine spQ ?_
 replace hw:=nzQ hw
 have h0_0:=iB hp0
 replace hM:=ao hM;obtain ⟨x1,hx2,hM⟩:=hM
 have hcx1:=cmU hx2
 refine aH hcx1 clQ clQ (fun hw3=> ?_)
 replace hw3:=nzQ hw3
 refine spQ ?_
 replace hM:=ao hM;obtain ⟨x4,hx5,hM⟩:=hM
 have hcx4:=rY (some false) ([103,114,111,117,112]) ([g.P,g.Q,g.G]:List Int) (x1.2) (x1.1) (by (clear hM;first|omega|exact rQ hp0 (by omega)|(simp only [List.length_cons,List.length_nil];omega)))
 rw [←hx5] at hcx4
 refine zA [3,2] hcx4 (jL 4 (T:=3) (n:=1) (g:=false) (z:=(some false)) (l:=([g.P,g.Q,g.G]:List Int).map (V.int .i64)) clQ) (by decide) (by simp only [go_sem,aE,aF,List.length_replicate,aD,Int.toNat_natCast,↓reduceIte,Nat.reduceEqDiff,Nat.reduceAdd,Int.reduceAdd,Nat.reduceMul,Nat.reduceLeDiff,Nat.reduceLT,Int.reduceLE,Int.reduceLT,Int.reduceNeg,Int.reduceToNat,mt,mtL,aL,aK,mtZ,and_self,eq_self,or_true,true_or]) (by simp only [go_sem,aE,aF,List.length_replicate,aD,Int.toNat_natCast,↓reduceIte,Nat.reduceEqDiff,Nat.reduceAdd,Int.reduceAdd,Nat.reduceMul,Nat.reduceLeDiff,Nat.reduceLT,Int.reduceLE,Int.reduceLT,Int.reduceNeg,Int.reduceToNat,mt,mtL,aL,aK,mtZ,and_self,eq_self,or_true,true_or]) (fun hw6=> ?_)
 replace hw6:=nzQ hw6
 refine spQ ?_
 replace hM:=ao hM;obtain ⟨x7,hx8,hM⟩:=hM
 have hcx7:=rY none ([121]) (r_.Y) (x4.1) (x4.2) (by (clear hM;first|omega|exact rQ hp0 (by omega)|(simp only [List.length_cons,List.length_nil];omega)))
 rw [←hx8] at hcx7
 refine dc [3,2] hcx7 (by decide) (by simp only [go_sem,aE,aF,List.length_replicate,aD,Int.toNat_natCast,↓reduceIte,Nat.reduceEqDiff,Nat.reduceAdd,Int.reduceAdd,Nat.reduceMul,Nat.reduceLeDiff,Nat.reduceLT,Int.reduceLE,Int.reduceLT,Int.reduceNeg,Int.reduceToNat,mt,mtL,aL,aK,mtZ,and_self,eq_self,or_true,true_or]) (by simp only [go_sem,aE,aF,List.length_replicate,aD,Int.toNat_natCast,↓reduceIte,Nat.reduceEqDiff,Nat.reduceAdd,Int.reduceAdd,Nat.reduceMul,Nat.reduceLeDiff,Nat.reduceLT,Int.reduceLE,Int.reduceLT,Int.reduceNeg,Int.reduceToNat,mt,mtL,aL,aK,mtZ,and_self,eq_self,or_true,true_or]) (fun hw9=> ?_)
 replace hw9:=nzQ hw9
 refine spQ ?_
 replace hM:=aU hM;obtain ⟨f10,d10,hf10,hd10,hM⟩:=hM
 refine a6 (fun n S=> ∃p:Int×bZ×Int,S=(⟨[(2,.sl none 1 false (a_.map (V.int .i64))),(4,.ptr 0 0),(10,.ptr 2 0),(11,.ptr 3 0),(12,.fn 318 [.ptr 3 0,.ptr 2 0]),(37,.sl none 1 false (r_.Bases.map (fun (l:List Int)=>V.sl none 1 false (l.map (V.int .i64))))),(38,.int .i64 (r_.Bases.length:Int)),(39,.int .i64 p.1)],[(0,.var 3 true (.agg [.int .i64 g.P,.int .i64 g.Q,.int .i64 g.G])),(2,.var 33 true ((fK p.2.1))),(3,.var 1 false (.int .i64 p.2.2))],5⟩:St)∧((0≤p.1)∧(p.1≤(r_.Bases.length:Int)))∧((r_.Bases.length:Int) - p.1).toNat<n∧am n f10 d10 p=r) (((r_.Bases.length:Int) - 0).toNat+1) _ sbQ sbQ ⟨(0,x7.2,x7.1),rfl,⟨omQ,omQ⟩,(Nat.lt_succ_self _),hM⟩ ?_
 clear hM
 rintro n10 S ⟨p10,rfl,hfa10,hm10,hM⟩
 replace hM:=aV hM (by omega) hf10;obtain ⟨ag10,hag10,hM⟩:=hM
 replace hfa10:=nzQ hfa10
 replace hm10:=nzQ hm10
 have ha10:ax .i64 p10.1 1=p10.1+1:=aZ omQ omQ
 refine aa ha10 ?_
 refine aB (fun h11=> ?_) (fun h11=> ?_)
 ·rw [if_pos h11] at hM
  refine aa (And.intro ha10 h11) ?_
  have nh11:=nzQ h11
  try have hr12:=mpQ nh11
  refine aP omQ ?_
  have he13:=fun d=>bE (l:=r_.Bases) (f:=(fun (l:List Int)=>V.sl none 1 false (l.map (V.int .i64)))) (i:=p10.1) omQ d
  refine aa (And.intro ha10 he13) ?_
  replace hM:=ao hM;obtain ⟨x14,hx15,hM⟩:=hM
  have hcx14:=rY none ([98,97,115,101,115]) (gt r_.Bases p10.1) (p10.2.2) (p10.2.1) (by (clear hM;first|omega|exact rQ hp0 (by omega)|(simp only [List.length_cons,List.length_nil];omega)))
  rw [←hx15] at hcx14
  refine dc [3,2] hcx14 (by decide) (by simp only [go_sem,aE,aF,List.length_replicate,aD,Int.toNat_natCast,↓reduceIte,Nat.reduceEqDiff,Nat.reduceAdd,Int.reduceAdd,Nat.reduceMul,Nat.reduceLeDiff,Nat.reduceLT,Int.reduceLE,Int.reduceLT,Int.reduceNeg,Int.reduceToNat,mt,mtL,aL,aK,mtZ,and_self,eq_self,or_true,true_or,ha10,he13]) (by simp only [go_sem,aE,aF,List.length_replicate,aD,Int.toNat_natCast,↓reduceIte,Nat.reduceEqDiff,Nat.reduceAdd,Int.reduceAdd,Nat.reduceMul,Nat.reduceLeDiff,Nat.reduceLT,Int.reduceLE,Int.reduceLT,Int.reduceNeg,Int.reduceToNat,mt,mtL,aL,aK,mtZ,and_self,eq_self,or_true,true_or,ha10,he13]) (fun hw16=> ?_)
  replace hw16:=nzQ hw16
  refine aa (And.intro ha10 he13) ?_
  refine bM (n10 - 1) _ (by omega) sbQ sbQ ⟨((p10.1+1),x14.2,x14.1),rfl,⟨omQ,omQ⟩,omQ,bI hM hag10⟩
 ·rw [if_neg (ap h11)] at hM
  refine aa (And.intro ha10 h11) ?_
  have nh11:=nzQ h11
  try have hr17:=mpQ nh11
  replace hM:=ao hM;obtain ⟨x18,hx19,hM⟩:=hM
  have hcx18:=rY none ([99,111,109,109,105,116]) a_ (p10.2.2) (p10.2.1) (by (clear hM;first|omega|exact rQ hp0 (by omega)|(simp only [List.length_cons,List.length_nil];omega)))
  rw [←hx19] at hcx18
  refine dc [3,2] hcx18 (by decide) (by simp only [go_sem,aE,aF,List.length_replicate,aD,Int.toNat_natCast,↓reduceIte,Nat.reduceEqDiff,Nat.reduceAdd,Int.reduceAdd,Nat.reduceMul,Nat.reduceLeDiff,Nat.reduceLT,Int.reduceLE,Int.reduceLT,Int.reduceNeg,Int.reduceToNat,mt,mtL,aL,aK,mtZ,and_self,eq_self,or_true,true_or,ha10]) (by simp only [go_sem,aE,aF,List.length_replicate,aD,Int.toNat_natCast,↓reduceIte,Nat.reduceEqDiff,Nat.reduceAdd,Int.reduceAdd,Nat.reduceMul,Nat.reduceLeDiff,Nat.reduceLT,Int.reduceLE,Int.reduceLT,Int.reduceNeg,Int.reduceToNat,mt,mtL,aL,aK,mtZ,and_self,eq_self,or_true,true_or,ha10]) (fun hw20=> ?_)
  replace hw20:=nzQ hw20
  refine aa ha10 ?_
  have hF:=(And.intro ha10 h11)
  exact auQ
set_option maxHeartbeats 2000000 in
set_option maxRecDepth 100000 in
instance O7 (g:aQ) (r_:cv) (label:(List UInt8)) (p_:fH):CM En (wm g r_ label p_) 192 [.agg [.int .i64 g.P,.int .i64 g.Q,.int .i64 g.G],.agg [.sl none 1 false (r_.Y.map (V.int .i64)),.sl none 1 false (r_.Bases.map (fun (l:List Int)=>V.sl none 1 false (l.map (V.int .i64))))],.str label,.agg [.sl none 1 false (p_.A.map (V.int .i64)),.int .i64 p_.C,.sl none 1 false (p_.Z.map (V.int .i64))]] (fun y=> .bool y) (fun _=> []):=by
 refine cmQ fun r hM=> ?_
 rw [wm.eq_1] at hM
 refine av al ar noJ Tryz.func192 rfl Tryz.ntmps192 (by kernel_rfl) fun hw=>au ?_
 refine spQ ?_
 replace hw:=nzQ hw
 replace hM:=ao hM;obtain ⟨x1,hx2,hM⟩:=hM
 have hcx1:=cmU hx2
 refine aH hcx1 clQ clQ (fun hw3=> ?_)
 replace hw3:=nzQ hw3
 refine spQ ?_
 have hq4:=nzQ (cfU hx2)
 refine aB (fun h5=> ?_) (fun h5=> ?_)
 ·rw [if_pos h5] at hM
  refine aa h5 ?_
  subst hM
  exact aw (az h5)
 ·rw [if_neg (ap h5)] at hM
  refine aa h5 ?_
  have nh5:=nzQ h5
  try have hr7:=mpQ nh5
  replace hM:=ao hM;obtain ⟨x8,hx9,hM⟩:=hM
  have hcx8:=cmH hx9 (JQ g r_ (p_.A) label (by (clear hM;first|assumption|exact (‹okR _ _∧_›).1|(have h9:=‹okR _ _∧_›;have h8:=iB h9.1;omega)|(have h8:=iB ‹okR _ _›;omega))) (by (clear hM;first|assumption|exact (‹okR _ _∧_›).1|(have h9:=‹okR _ _∧_›;have h8:=iB h9.1;omega)|(have h8:=iB ‹okR _ _›;omega))))
  refine aH hcx8 clQ clQ (fun hw10=> ?_)
  replace hw10:=nzQ hw10
  refine spQ ?_
  have hF:=h5
  exact auQ
set_option maxHeartbeats 2000000 in
set_option maxRecDepth 100000 in
instance O8 (b:a8) (y:Int) (pseudonym:Int) (label:(List UInt8)) (x_:cW):CM En (wn b y pseudonym label x_) 122 [(bS b),.int .i64 y,.int .i64 pseudonym,.str label,(bG x_)] (fun y=> .bool y) (fun _=> []):=by
 refine cmQ fun r hM=> ?_
 rw [wn.eq_1] at hM
 refine av al ar noJ Tryz.func122 rfl Tryz.ntmps122 (by kernel_rfl) fun hw=>au ?_
 refine spQ ?_
 replace hw:=nzQ hw
 have hF:=aW
 exact auQ
instance (priority:=1015):DRD 10 55 14 [38,39,40,41,42,43,44,45,46,47,48,49,50,51] [] ([[],[0],[],[2],[],[4],[4,5],[],[],[8],[8,9],[],[8,9,10,11],[8,9,10,11,12]]++[List.range 14,List.range 15]) []:=⟨trivial⟩
set_option maxHeartbeats 2000000 in
set_option maxRecDepth 100000 in
theorem JR (k_:bU) (hp0:okK k_):CM En (ke k_) 53 [(cg k_)] (fun y=> .bool y) (fun _=> []):=by
 refine cmQ fun r hM=> ?_
 rw [ke.eq_1] at hM
 refine av al ar noJ Tryz.func53 rfl Tryz.ntmps53 (by kernel_rfl) fun hw=>au ?_
 refine spQ ?_
 replace hw:=nzQ hw
 have h0_0:=fi hp0
 refine aB (fun h1=> ?_) (fun h1=> ?_)
 ·rw [if_pos h1] at hM
  refine aa h1 ?_
  subst hM
  exact aw (az h1)
 ·rw [if_neg (ap h1)] at hM
  refine aa h1 ?_
  have nh1:=nzQ h1
  try have hr3:=mpQ nh1
  replace hM:=ao hM;obtain ⟨x4,hx5,hM⟩:=hM
  have hcx4:=cmU hx5
  refine aH hcx4 clQ clQ (fun hw6=> ?_)
  replace hw6:=nzQ hw6
  refine spQ ?_
  replace hM:=ao hM;obtain ⟨x7,hx8,hM⟩:=hM
  have hcx7:=cmH hx8 (A3 k_ (by (exact hp0)))
  refine aH hcx7 clQ clQ (fun hw9=> ?_)
  replace hw9:=nzQ hw9
  refine spQ ?_
  have hq10:=AN hp0 hx8
  replace hq10:=nzQ hq10
  refine aB (fun h11=> ?_) (fun h11=> ?_)
  ·rw [if_pos h11] at hM
   refine aa h11 ?_
   subst hM
   exact aw (az (And.intro h1 h11))
  ·rw [if_neg (ap h11)] at hM
   refine aa h11 ?_
   have nh11:=nzQ h11
   try have hr13:=mpQ nh11
   replace hM:=aU hM;obtain ⟨f14,d14,hf14,hd14,hM⟩:=hM
   refine a6 (fun n S=> ∃p:Int,S=(⟨[(1,.ptr 0 0),(3,.str x4.1),(31,.sl none 80 true (x7.map aT)),(32,.int .i64 (x7.length:Int)),(33,.int .i64 p)],[(0,.var 47 true ((cg k_)))],1⟩:St)∧((0≤p)∧(p≤(x7.length:Int)))∧((x7.length:Int) - p).toNat<n∧am n f14 d14 p=r) (((x7.length:Int) - 0).toNat+1) _ sbQ sbQ ⟨0,rfl,⟨omQ,omQ⟩,(Nat.lt_succ_self _),hM⟩ ?_
   clear hM
   rintro n14 S ⟨p14,rfl,hfa14,hm14,hM⟩
   replace hM:=aV hM (by omega) hf14;obtain ⟨ag14,hag14,hM⟩:=hM
   replace hfa14:=nzQ hfa14
   replace hm14:=nzQ hm14
   have ha14:ax .i64 p14 1=p14+1:=aZ omQ omQ
   refine aa ha14 ?_
   have hF:=(And.intro h1 (And.intro h11 ha14))
   exact auQ
set_option maxHeartbeats 2000000 in
set_option maxRecDepth 100000 in
instance O9 (r_:bu) (s:aO):CM En (jf r_ s) 123 [(bJ r_),(aT s)] (fun y=> .tup [.int .i64 y.1,.int .i64 y.2]) (fun _=> []):=by
 refine cmQ fun r hM=> ?_
 rw [jf.eq_1] at hM
 refine av al ar noJ Tryz.func123 rfl Tryz.ntmps123 (by kernel_rfl) fun hw=>au ?_
 refine spQ ?_
 replace hw:=nzQ hw
 have hF:=aW
 exact auQ
set_option maxHeartbeats 2000000 in
set_option maxRecDepth 100000 in
instance O_ (l:(List bu)) (h_:bX):CM En (lv l h_) 124 [.sl none 11 true (l.map bJ),(bv h_)] (fun y=> .tup [.int .i64 y.1,.int .i64 y.2]) (fun _=> []):=by
 refine cmQ fun r hM=> ?_
 rw [lv.eq_1] at hM
 refine av al ar noJ Tryz.func124 rfl Tryz.ntmps124 (by kernel_rfl) fun hw=>au ?_
 refine spQ ?_
 replace hw:=nzQ hw
 have hF:=aW
 exact auQ
set_option maxHeartbeats 2000000 in
set_option maxRecDepth 100000 in
theorem JS (k_:bU) (hp0:okK k_):CM En (kf k_) 55 [(cg k_)] (fun y=> .int .i64 y) (fun _=> []):=by
 refine cmQ fun r hM=> ?_
 rw [kf.eq_1] at hM
 refine av al ar noJ Tryz.func55 rfl Tryz.ntmps55 (by kernel_rfl) fun hw=>au ?_
 refine spQ ?_
 replace hw:=nzQ hw
 have h0_0:=fi hp0
 replace hM:=aU hM;obtain ⟨f1,d1,hf1,hd1,hM⟩:=hM
 refine a6 (fun n S=> ∃p:Int×Int,S=(⟨[(1,.ptr 0 0),(3,.int .i64 p.1),(16,.sl none 80 true (k_.p.Spends.map aT)),(17,.int .i64 (k_.p.Spends.length:Int)),(18,.int .i64 p.2)],[(0,.var 47 true ((cg k_)))],1⟩:St)∧((0≤p.2)∧(p.2≤(k_.p.Spends.length:Int)))∧((k_.p.Spends.length:Int) - p.2).toNat<n∧am n f1 d1 p=r) (((k_.p.Spends.length:Int) - 0).toNat+1) _ sbQ sbQ ⟨(0,0),rfl,⟨omQ,omQ⟩,(Nat.lt_succ_self _),hM⟩ ?_
 clear hM
 rintro n1 S ⟨p1,rfl,hfa1,hm1,hM⟩
 replace hM:=aV hM (by omega) hf1;obtain ⟨ag1,hag1,hM⟩:=hM
 replace hfa1:=nzQ hfa1
 replace hm1:=nzQ hm1
 have ha1:ax .i64 p1.2 1=p1.2+1:=aZ omQ omQ
 refine aa ha1 ?_
 refine aB (fun h2=> ?_) (fun h2=> ?_)
 ·rw [if_pos h2] at hM
  refine aa (And.intro ha1 h2) ?_
  have nh2:=nzQ h2
  try have hr3:=mpQ nh2
  refine aP omQ ?_
  have he4:=fun d=>bE (l:=k_.p.Spends) (f:=aT) (i:=p1.2) omQ d
  refine aa (And.intro ha1 he4) ?_
  replace hM:=ao hM;obtain ⟨x5,hx6,hM⟩:=hM
  have hcx5:=cmH hx6 (rW k_ ((gt k_.p.Spends p1.2).Coin) (by (exact hp0)))
  refine aH hcx5 (aC (And.intro ha1 he4)) (aC (And.intro ha1 he4)) (fun hw7=> ?_)
  replace hw7:=nzQ hw7
  refine aa (And.intro ha1 he4) ?_
  have hF:=(And.intro ha1 (And.intro h2 he4))
  exact auQ
 ·rw [if_neg (ap h2)] at hM
  refine aa (And.intro ha1 h2) ?_
  have nh2:=nzQ h2
  try have hr11:=mpQ nh2
  replace hM:=aU hM;obtain ⟨f12,d12,hf12,hd12,hM⟩:=hM
  refine a6 (fun n S=> ∃p:Int×Int,S=(⟨[(1,.ptr 0 0),(3,.int .i64 p.1),(41,.sl none 81 true (k_.p.Chains.map bv)),(42,.int .i64 (k_.p.Chains.length:Int)),(43,.int .i64 p.2)],[(0,.var 47 true ((cg k_)))],1⟩:St)∧((0≤p.2)∧(p.2≤(k_.p.Chains.length:Int)))∧((k_.p.Chains.length:Int) - p.2).toNat<n∧am n f12 d12 p=r) (((k_.p.Chains.length:Int) - 0).toNat+1) _ sbQ sbQ ⟨(p1.1,0),rfl,⟨omQ,omQ⟩,(Nat.lt_succ_self _),hM⟩ ?_
  clear hM
  rintro n12 S ⟨p12,rfl,hfa12,hm12,hM⟩
  replace hM:=aV hM (by omega) hf12;obtain ⟨ag12,hag12,hM⟩:=hM
  replace hfa12:=nzQ hfa12
  replace hm12:=nzQ hm12
  have ha12:ax .i64 p12.2 1=p12.2+1:=aZ omQ omQ
  refine aa (And.intro ha1 ha12) ?_
  have hF:=(And.intro ha1 (And.intro h2 ha12))
  exact auQ
set_option maxHeartbeats 2000000 in
set_option maxRecDepth 100000 in
theorem JT (c0:bU) (c1:bO) (hp0:okK c0):CM En (oE c0 c1) 54 [.pp 47 true ((cg c0)),.pp 35 true ((cA c1))] (fun y=> .bool y) (fun _=> []):=by
 refine cmQ fun r hM=> ?_
 rw [oE.eq_1] at hM
 refine av al ar noJ Tryz.func54 rfl Tryz.ntmps54 (by kernel_rfl) fun hw=>au ?_
 refine spQ ?_
 replace hw:=nzQ hw
 refine bN 8 4 [3,4,5,6] [] ([[],[0],[],[2]]++[List.range 4,List.range 5]) [] (by kernel_rfl) (by exact alQ) ?_
 refine spQ ?_
 replace hM:=ao hM;obtain ⟨x1,hx2,hM⟩:=hM
 have hcx1:=cmH hx2 (JS c0 (by (exact hp0)))
 refine bp hcx1 clQ clQ ?_
 refine spQ ?_
 subst hM
 exact aw lfQ
end Go.Proofs.YtcbbjfckokckcaaGreatDoor
