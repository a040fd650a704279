/- Texts of this proof, one after the other: U2. -/
import Derived.Test.YtcbbjfckokckcaaGreatDoorZ8
set_option linter.unusedVariables false
set_option linter.unusedSimpArgs false
namespace Go.Proofs.YtcbbjfckokckcaaGreatDoor
open Go.RowKit
set_option linter.unusedSimpArgs false
set_option maxHeartbeats 2000000 in
set_option maxRecDepth 100000 in
instance Nq (l:(List dH)):CM En (i5 l) 173 [.sl none 2 true (l.map nZ)] (fun y=> .bool y) (fun _=> []):=by
 refine cmQ fun r hM=> ?_
 rw [i5.eq_1] at hM
 refine av al ar noJ Tryz.func173 rfl Tryz.ntmps173 (by kernel_rfl) fun hw=>au ?_
 refine spQ ?_
 replace hw:=nzQ hw
 refine cr (fun h1=> ?_) (fun h1=> ?_)
 ·rw [if_neg (ap h1)] at hM
  refine aa h1 ?_
  have nh1:=nzQ h1
  try have hr2:=mpQ nh1
  refine aB (fun h3=> ?_) (fun h3=> ?_)
  ·rw [if_pos h3] at hM
   refine aa h3 ?_
   subst hM
   exact aw (az (And.intro h1 h3))
  ·rw [if_neg (ap h3)] at hM
   refine aa h3 ?_
   have nh3:=nzQ h3
   try have hr5:=mpQ nh3
   replace hM:=aU hM;obtain ⟨f6,d6,hf6,hd6,hM⟩:=hM
   refine a6 (fun n S=> ∃p:Int,S=(⟨[(0,.sl none 2 true (l.map nZ)),(13,.sl none 2 true (l.map nZ)),(14,.int .i64 (l.length:Int)),(15,.int .i64 p)],[],0⟩:St)∧((0≤p)∧(p≤(l.length:Int)))∧((l.length:Int) - p).toNat<n∧am n f6 d6 p=r) (((l.length:Int) - 0).toNat+1) _ sbQ sbQ ⟨0,rfl,⟨omQ,omQ⟩,(Nat.lt_succ_self _),hM⟩ ?_
   clear hM
   rintro n6 S ⟨p6,rfl,hfa6,hm6,hM⟩
   replace hM:=aV hM (by omega) hf6;obtain ⟨ag6,hag6,hM⟩:=hM
   replace hfa6:=nzQ hfa6
   replace hm6:=nzQ hm6
   have ha6:ax .i64 p6 1=p6+1:=aZ omQ omQ
   refine aa ha6 ?_
   refine aB (fun h7=> ?_) (fun h7=> ?_)
   ·rw [if_pos h7] at hM
    refine aa (And.intro ha6 h7) ?_
    have nh7:=nzQ h7
    try have hr8:=mpQ nh7
    refine aP omQ ?_
    have he9:=fun d=>bE (l:=l) (f:=nZ) (i:=p6) omQ d
    refine aa (And.intro ha6 he9) ?_
    replace hM:=ao hM;obtain ⟨x10,hx11,hM⟩:=hM
    have hcx10:=cmU hx11
    refine aH hcx10 (aC (And.intro ha6 he9)) (aC (And.intro ha6 he9)) (fun hw12=> ?_)
    replace hw12:=nzQ hw12
    refine aa (And.intro ha6 he9) ?_
    refine aB (fun h13=> ?_) (fun h13=> ?_)
    ·rw [if_pos h13] at hM
     refine aa (And.intro ha6 (And.intro he9 h13)) ?_
     subst hM
     exact aw (az (And.intro ha6 (And.intro he9 (And.intro h1 (And.intro h3 (And.intro h7 h13))))))
    ·rw [if_neg (ap h13)] at hM
     refine aa (And.intro ha6 (And.intro he9 h13)) ?_
     have nh13:=nzQ h13
     try have hr15:=mpQ nh13
     refine bN 59 31 [23,24,25,26,27,28,29,30,31,32,33,34,35,36,37,38,39,40,41,42,43,44,45,46,47,48,49,50,51,52,53] [] ([[],[0],[0,1],[0,1,2],[0,1,2,3],[0,1,2],[0,1,2],[0,1,2,6],[0,1,2,5,6,7],[0,1,2,5,6,7,8],[0,1,2,5,6,7,8,9],[0,1,2,3,4,5,6,7,8,9,10],[0,1,2,3,4,5,6,7,8,9,10,11],[0,1,2,3,4,5,6,7,8,9,10,11,12],[0,1,2,3,4,5,6,7,8,9,10,11,12,13],[0,1,2,3,4,5,6,7,8,9,10,11,12],[0,1,2,3,4,5,6,7,8,9,10,11,12],[0,1,2,3,4,5,6,7,8,9,10,11,12,16],[0,1,2,3,4,5,6,7,8,9,10,11,12,15,16,17],[0,1,2,3,4,5,6,7,8,9,10,11,12,15,16,17,18],[0,1,2,3,4,5,6,7,8,9,10,11,12,15,16,17,18,19],[0,1,2,3,4,5,6,7,8,9,10,11,12,13,14,15,16,17,18,19,20],[0,1,2,3,4,5,6,7,8,9,10,11,12,13,14,15,16,17,18,19,20,21],[0,1,2,3,4,5,6,7,8,9,10,11,12,13,14,15,16,17,18,19,20,21,22],[0,1,2,3,4,5,6,7,8,9,10,11,12,13,14,15,16,17,18,19,20,21,22,23],[0,1,2,3,4,5,6,7,8,9,10,11,12,13,14,15,16,17,18,19,20,21,22],[0,1,2,3,4,5,6,7,8,9,10,11,12,13,14,15,16,17,18,19,20,21,22],[0,1,2,3,4,5,6,7,8,9,10,11,12,13,14,15,16,17,18,19,20,21,22,26],[0,1,2,3,4,5,6,7,8,9,10,11,12,13,14,15,16,17,18,19,20,21,22,25,26,27],[0,1,2,3,4,5,6,7,8,9,10,11,12,13,14,15,16,17,18,19,20,21,22,25,26,27,28],[0,1,2,3,4,5,6,7,8,9,10,11,12,13,14,15,16,17,18,19,20,21,22,25,26,27,28,29]]++[List.range 31,List.range 32,List.range 33,List.range 34]) [] (by kernel_rfl) (by exact alQ) ?_
     refine aa (And.intro ha6 he9) ?_
     refine gm (fun h16=> ?_) (fun h16=> ?_)
     ·rw [if_pos h16] at hM
      refine aa (And.intro ha6 (And.intro he9 h16)) ?_
      have nh16:=nzQ h16
      try have hr17:=mpQ nh16
      have ha18:aG .i64 p6 1=(p6 - 1):=dl omQ omQ
      try simp only [ha18]
      have hF:=(And.intro h1 (And.intro h3 (And.intro ha6 (And.intro h7 (And.intro he9 (And.intro h13 (And.intro h16 ha18)))))))
      exact auQ
     ·rw [if_neg (ap h16)] at hM
      refine aa (And.intro ha6 (And.intro he9 h16)) ?_
      have nh16:=nzQ h16
      try have hr31:=mpQ nh16
      refine bM (n6 - 1) _ (by omega) sbQ sbQ ⟨(p6+1),rfl,⟨omQ,omQ⟩,omQ,bI hM hag6⟩
   ·rw [if_neg (ap h7)] at hM
    refine aa (And.intro ha6 h7) ?_
    subst hM
    exact aw (az (And.intro ha6 (And.intro h1 (And.intro h3 h7))))
 ·rw [if_pos h1] at hM
  refine aa h1 ?_
  subst hM
  exact aw (az h1)
set_option maxHeartbeats 2000000 in
set_option maxRecDepth 100000 in
instance Nr (x_:Int):CM En (oo x_) 286 [.int .u64 x_] (fun y=> .int .i64 y) (fun _=> []):=by
 refine cmQ fun r hM=> ?_
 rw [oo.eq_1] at hM
 refine av al ar noJ Tryz.func286 rfl Tryz.ntmps286 (by kernel_rfl) fun hw=>au ?_
 refine spQ ?_
 replace hw:=nzQ hw
 have h0_0:=Ab (x:=bF .u64 x_ (jk .u64 x_))
 refine aB (fun h1=> ?_) (fun h1=> ?_)
 ·rw [if_pos h1] at hM
  refine aa h1 ?_
  subst hM
  exact aw (az h1)
 ·rw [if_neg (ap h1)] at hM
  refine aa h1 ?_
  have nh1:=nzQ h1
  try have hr3:=mpQ nh1
  refine aP omQ ?_
  have he4:=oa (f:=V.int .u8) (l:=jH) (n:=64) (i:=(ay .u64 (aR .u64 (bF .u64 x_ (jk .u64 x_)) 285870213051353865) 58)) rfl omQ
  replace he4:=spR he4
  refine aa he4 ?_
  subst hM
  exact aw (az (And.intro he4 h1))
set_option maxHeartbeats 2000000 in
set_option maxRecDepth 100000 in
instance Ns (x_:Int) (y:Int):CM En (jY x_ y) 342 [.int .u64 x_,.int .u64 y] (fun y=> .tup [.int .u64 y.1,.int .u64 y.2]) (fun _=> []):=by
 refine cmQ fun r hM=> ?_
 rw [jY.eq_1] at hM
 refine av al ar noJ Tryz.func342 rfl Tryz.ntmps342 (by kernel_rfl) fun hw=>au ?_
 refine spQ ?_
 replace hw:=nzQ hw
 subst hM
 exact aw lfQ
set_option maxHeartbeats 2000000 in
set_option maxRecDepth 100000 in
instance Nt (x_:Int):CM En (lj x_) 379 [.int .u64 x_] (fun y=> .int .i64 y) (fun _=> []):=by
 refine cmQ fun r hM=> ?_
 rw [lj.eq_1] at hM
 refine av al ar noJ Tryz.func379 rfl Tryz.ntmps379 (by kernel_rfl) fun hw=>au ?_
 refine spQ ?_
 replace hw:=nzQ hw
 have hF:=aW
 exact auQ
instance (priority:=1002):DRD 6 135 7 [6,28,29,30,31,32,33] [] ([[],[],[0,1],[],[],[3,4],[0,1,2]]++[List.range 7]) []:=⟨trivial⟩
set_option maxHeartbeats 2000000 in
set_option maxRecDepth 100000 in
theorem AW (hi:Int) (lo:Int) (y:Int) (hp0:hi<y):CM En (mQ hi lo y) 343 [.int .u64 hi,.int .u64 lo,.int .u64 y] (fun y=> .tup [.int .u64 y.1,.int .u64 y.2]) (fun _=> []):=by
 refine cmQ fun r hM=> ?_
 rw [mQ.eq_1] at hM
 refine av al ar [21,28] Tryz.func343 rfl Tryz.ntmps343 (by kernel_rfl) fun hw=>au ?_
 refine spQ ?_
 replace hw:=nzQ hw
 refine aB (fun h1=> ?_) (fun h1=> ?_)
 ·rw [if_pos h1] at hM
  refine aa h1 ?_
  have nh1:=nzQ h1
  try have hr2:=mpQ nh1
  exact False.elim omQ
 ·rw [if_neg (ap h1)] at hM
  refine aa h1 ?_
  have nh1:=nzQ h1
  try have hr3:=mpQ nh1
  refine aB (fun h4=> ?_) (fun h4=> ?_)
  ·rw [if_pos h4] at hM
   refine aa h4 ?_
   have nh4:=nzQ h4
   try have hr5:=mpQ nh4
   exact False.elim omQ
  ·rw [if_neg (ap h4)] at hM
   refine aa h4 ?_
   have nh4:=nzQ h4
   try have hr6:=mpQ nh4
   refine aB (fun h7=> ?_) (fun h7=> ?_)
   ·rw [if_pos h7] at hM
    refine aa h7 ?_
    have nh7:=nzQ h7
    try have hr8:=mpQ nh7
    have hF:=(And.intro h1 (And.intro h4 h7))
    exact auQ
   ·rw [if_neg (ap h7)] at hM
    refine aa h7 ?_
    have nh7:=nzQ h7
    try have hr9:=mpQ nh7
    replace hM:=ao hM;obtain ⟨x10,hx11,hM⟩:=hM
    have hcx10:=cmU hx11
    refine aH hcx10 clQ clQ (fun hw12=> ?_)
    replace hw12:=nzQ hw12
    refine spQ ?_
    have hq13:=HC hx11 (by omega) (by omega)
    replace hq13:=nzQ hq13
    refine aP (by (exact mh _)) ?_
    refine spQ ?_
    refine aP (by (exact mh _)) ?_
    refine spQ ?_
    refine aP (by (exact (nh .u64 _ _).1)) ?_
    refine spQ ?_
    refine aP (by (exact mh _)) ?_
    refine spQ ?_
    refine aP omQ ?_
    refine spQ ?_
    replace hM:=nN hM;obtain ⟨j14,hj14,hM⟩:=hM
    refine nG (fun S=> ∃p:Int,S=(⟨[(2,.int .u64 (aA .u64 y (ae .u64 x10))),(8,.int .u64 (ae .u64 x10)),(9,.int .u64 (ay .u64 (aA .u64 y (ae .u64 x10)) 32)),(10,.int .u64 (bF .u64 (aA .u64 y (ae .u64 x10)) 4294967295)),(11,.int .u64 (orI .u64 (aA .u64 hi (ae .u64 x10)) (ay .u64 lo (aG .u64 64 (ae .u64 x10))))),(13,.int .u64 (ay .u64 (aA .u64 lo (ae .u64 x10)) 32)),(14,.int .u64 (bF .u64 (aA .u64 lo (ae .u64 x10)) 4294967295)),(15,.int .u64 p)],[],0⟩:St)∧(True)∧j14 p=r) ?_ (fun hcut14=> ?_)
    ·clear hM
     rintro S ⟨p14,rfl,hfa14,hM⟩
     replace hM:=mp hM hj14
     try refine spQ ?_
     refine aP omQ ?_
     refine spQ ?_
     replace hM:=nN hM;obtain ⟨j15,hj15,hM⟩:=hM
     refine nG (fun S=> ∃p:Int,S=(⟨[(2,.int .u64 (aA .u64 y (ae .u64 x10))),(8,.int .u64 (ae .u64 x10)),(14,.int .u64 (bF .u64 (aA .u64 lo (ae .u64 x10)) 4294967295)),(15,.int .u64 p14),(17,.int .u64 (aG .u64 (ax .u64 (aR .u64 (orI .u64 (aA .u64 hi (ae .u64 x10)) (ay .u64 lo (aG .u64 64 (ae .u64 x10)))) 4294967296) (ay .u64 (aA .u64 lo (ae .u64 x10)) 32)) (aR .u64 p14 (aA .u64 y (ae .u64 x10))))),(18,.int .u64 p)],[],0⟩:St)∧(True)∧j15 p=r) ?_ (fun hcut15=> ?_)
     ·clear hM
      rintro S ⟨p15,rfl,hfa15,hM⟩
      replace hM:=mp hM hj15
      try refine spQ ?_
      refine aP (by (exact mh _)) ?_
      refine spQ ?_
      subst hM
      exact aw (az (And.intro h1 (And.intro h4 h7)))
     ·refine spQ ?_
      replace hM:=aU hM;obtain ⟨f16,d16,hf16,hd16,hM⟩:=hM
      refine a6 (fun n S=> ∃p:Int×Int,S=(⟨[(2,.int .u64 (aA .u64 y (ae .u64 x10))),(8,.int .u64 (ae .u64 x10)),(9,.int .u64 (ay .u64 (aA .u64 y (ae .u64 x10)) 32)),(10,.int .u64 (bF .u64 (aA .u64 y (ae .u64 x10)) 4294967295)),(14,.int .u64 (bF .u64 (aA .u64 lo (ae .u64 x10)) 4294967295)),(15,.int .u64 p14),(16,.int .u64 p.1),(17,.int .u64 (aG .u64 (ax .u64 (aR .u64 (orI .u64 (aA .u64 hi (ae .u64 x10)) (ay .u64 lo (aG .u64 64 (ae .u64 x10)))) 4294967296) (ay .u64 (aA .u64 lo (ae .u64 x10)) 32)) (aR .u64 p14 (aA .u64 y (ae .u64 x10))))),(18,.int .u64 p.2)],[],0⟩:St)∧((0≤p.1∧p.1≤4294967295))∧(4294967296 - p.1).toNat<n∧am n f16 d16 p=r) ((4294967296 - (aG .u64 (aG .u64 (ax .u64 (aR .u64 (orI .u64 (aA .u64 hi (ae .u64 x10)) (ay .u64 lo (aG .u64 64 (ae .u64 x10)))) 4294967296) (ay .u64 (aA .u64 lo (ae .u64 x10)) 32)) (aR .u64 p14 (aA .u64 y (ae .u64 x10)))) (aR .u64 (cD .u64 (aG .u64 (ax .u64 (aR .u64 (orI .u64 (aA .u64 hi (ae .u64 x10)) (ay .u64 lo (aG .u64 64 (ae .u64 x10)))) 4294967296) (ay .u64 (aA .u64 lo (ae .u64 x10)) 32)) (aR .u64 p14 (aA .u64 y (ae .u64 x10)))) (ay .u64 (aA .u64 y (ae .u64 x10)) 32)) (ay .u64 (aA .u64 y (ae .u64 x10)) 32)))).toNat+1) _ sbQ sbQ ⟨((aG .u64 (aG .u64 (ax .u64 (aR .u64 (orI .u64 (aA .u64 hi (ae .u64 x10)) (ay .u64 lo (aG .u64 64 (ae .u64 x10)))) 4294967296) (ay .u64 (aA .u64 lo (ae .u64 x10)) 32)) (aR .u64 p14 (aA .u64 y (ae .u64 x10)))) (aR .u64 (cD .u64 (aG .u64 (ax .u64 (aR .u64 (orI .u64 (aA .u64 hi (ae .u64 x10)) (ay .u64 lo (aG .u64 64 (ae .u64 x10)))) 4294967296) (ay .u64 (aA .u64 lo (ae .u64 x10)) 32)) (aR .u64 p14 (aA .u64 y (ae .u64 x10)))) (ay .u64 (aA .u64 y (ae .u64 x10)) 32)) (ay .u64 (aA .u64 y (ae .u64 x10)) 32))),(cD .u64 (aG .u64 (ax .u64 (aR .u64 (orI .u64 (aA .u64 hi (ae .u64 x10)) (ay .u64 lo (aG .u64 64 (ae .u64 x10)))) 4294967296) (ay .u64 (aA .u64 lo (ae .u64 x10)) 32)) (aR .u64 p14 (aA .u64 y (ae .u64 x10)))) (ay .u64 (aA .u64 y (ae .u64 x10)) 32))),rfl,by (exact Aj (HN _ _) (by omega) (by omega)),(Nat.lt_succ_self _),hM⟩ ?_
      clear hM
      rintro n16 S ⟨p16,rfl,hF24_0,hm16,hM⟩
      replace hM:=aV hM (by omega) hf16;obtain ⟨ag16,hag16,hM⟩:=hM
      replace hm16:=nzQ hm16
      refine spQ ?_
      refine cr (fun h17=> ?_) (fun h17=> ?_)
      ·rw [if_neg (ap h17)] at hM
       refine aa h17 ?_
       have nh17:=nzQ h17
       try have hr18:=mpQ nh17
       refine aB (fun h19=> ?_) (fun h19=> ?_)
       ·rw [if_pos h19] at hM
        refine aa h19 ?_
        have nh19:=nzQ h19
        try have hr20:=mpQ nh19
        refine aB (fun h21=> ?_) (fun h21=> ?_)
        ·rw [if_pos h21] at hM
         refine aa h21 ?_
         have nh21:=nzQ h21
         try have hr22:=mpQ nh21
         exact fA _ sbQ sbQ (hcut15 _ ⟨(aG .u64 p16.2 1),rfl,trivial,hM⟩)
        ·rw [if_neg (ap h21)] at hM
         refine aa h21 ?_
         have nh21:=nzQ h21
         try have hr23:=mpQ nh21
         refine bM (n16 - 1) _ (by omega) sbQ sbQ ⟨((ax .u64 p16.1 (ay .u64 (aA .u64 y (ae .u64 x10)) 32)),(aG .u64 p16.2 1)),rfl,by (have h9:=kj (a:=p16.1) (b:=(ay .u64 (aA .u64 y (ae .u64 x10)) 32)) (by omega) (by omega) (by omega) (by omega);omega),by (have h9:=kj (a:=p16.1) (b:=(ay .u64 (aA .u64 y (ae .u64 x10)) 32)) (by omega) (by omega) (by omega) (by omega);omega),bI hM hag16⟩
       ·rw [if_neg (ap h19)] at hM
        refine aa h19 ?_
        have nh19:=nzQ h19
        try have hr24:=mpQ nh19
        exact fA _ sbQ sbQ (hcut15 _ ⟨p16.2,rfl,trivial,hM⟩)
      ·rw [if_pos h17] at hM
       refine aa h17 ?_
       have nh17:=nzQ h17
       try have hr25:=mpQ nh17
       refine aB (fun h26=> ?_) (fun h26=> ?_)
       ·rw [if_pos h26] at hM
        refine aa h26 ?_
        have nh26:=nzQ h26
        try have hr27:=mpQ nh26
        exact fA _ sbQ sbQ (hcut15 _ ⟨(aG .u64 p16.2 1),rfl,trivial,hM⟩)
       ·rw [if_neg (ap h26)] at hM
        refine aa h26 ?_
        have nh26:=nzQ h26
        try have hr28:=mpQ nh26
        refine bM (n16 - 1) _ (by omega) sbQ sbQ ⟨((ax .u64 p16.1 (ay .u64 (aA .u64 y (ae .u64 x10)) 32)),(aG .u64 p16.2 1)),rfl,by (have h9:=kj (a:=p16.1) (b:=(ay .u64 (aA .u64 y (ae .u64 x10)) 32)) (by omega) (by omega) (by omega) (by omega);omega),by (have h9:=kj (a:=p16.1) (b:=(ay .u64 (aA .u64 y (ae .u64 x10)) 32)) (by omega) (by omega) (by omega) (by omega);omega),bI hM hag16⟩
    ·refine spQ ?_
     replace hM:=aU hM;obtain ⟨f29,d29,hf29,hd29,hM⟩:=hM
     refine a6 (fun n S=> ∃p:Int×Int,S=(⟨[(2,.int .u64 (aA .u64 y (ae .u64 x10))),(8,.int .u64 (ae .u64 x10)),(9,.int .u64 (ay .u64 (aA .u64 y (ae .u64 x10)) 32)),(10,.int .u64 (bF .u64 (aA .u64 y (ae .u64 x10)) 4294967295)),(11,.int .u64 (orI .u64 (aA .u64 hi (ae .u64 x10)) (ay .u64 lo (aG .u64 64 (ae .u64 x10))))),(13,.int .u64 (ay .u64 (aA .u64 lo (ae .u64 x10)) 32)),(14,.int .u64 (bF .u64 (aA .u64 lo (ae .u64 x10)) 4294967295)),(15,.int .u64 p.1),(16,.int .u64 p.2)],[],0⟩:St)∧((0≤p.2∧p.2≤4294967295))∧(4294967296 - p.2).toNat<n∧am n f29 d29 p=r) ((4294967296 - (aG .u64 (orI .u64 (aA .u64 hi (ae .u64 x10)) (ay .u64 lo (aG .u64 64 (ae .u64 x10)))) (aR .u64 (cD .u64 (orI .u64 (aA .u64 hi (ae .u64 x10)) (ay .u64 lo (aG .u64 64 (ae .u64 x10)))) (ay .u64 (aA .u64 y (ae .u64 x10)) 32)) (ay .u64 (aA .u64 y (ae .u64 x10)) 32)))).toNat+1) _ sbQ sbQ ⟨((cD .u64 (orI .u64 (aA .u64 hi (ae .u64 x10)) (ay .u64 lo (aG .u64 64 (ae .u64 x10)))) (ay .u64 (aA .u64 y (ae .u64 x10)) 32)),(aG .u64 (orI .u64 (aA .u64 hi (ae .u64 x10)) (ay .u64 lo (aG .u64 64 (ae .u64 x10)))) (aR .u64 (cD .u64 (orI .u64 (aA .u64 hi (ae .u64 x10)) (ay .u64 lo (aG .u64 64 (ae .u64 x10)))) (ay .u64 (aA .u64 y (ae .u64 x10)) 32)) (ay .u64 (aA .u64 y (ae .u64 x10)) 32)))),rfl,by (exact Aj (HM _ _) (by omega) (by omega)),(Nat.lt_succ_self _),hM⟩ ?_
     clear hM
     rintro n29 S ⟨p29,rfl,hF17_0,hm29,hM⟩
     replace hM:=aV hM (by omega) hf29;obtain ⟨ag29,hag29,hM⟩:=hM
     replace hm29:=nzQ hm29
     refine spQ ?_
     refine cr (fun h30=> ?_) (fun h30=> ?_)
     ·rw [if_neg (ap h30)] at hM
      refine aa h30 ?_
      have nh30:=nzQ h30
      try have hr31:=mpQ nh30
      refine aB (fun h32=> ?_) (fun h32=> ?_)
      ·rw [if_pos h32] at hM
       refine aa h32 ?_
       have nh32:=nzQ h32
       try have hr33:=mpQ nh32
       refine aB (fun h34=> ?_) (fun h34=> ?_)
       ·rw [if_pos h34] at hM
        refine aa h34 ?_
        have nh34:=nzQ h34
        try have hr35:=mpQ nh34
        exact fA _ sbQ sbQ (hcut14 _ ⟨(aG .u64 p29.1 1),rfl,trivial,hM⟩)
       ·rw [if_neg (ap h34)] at hM
        refine aa h34 ?_
        have nh34:=nzQ h34
        try have hr36:=mpQ nh34
        refine bM (n29 - 1) _ (by omega) sbQ sbQ ⟨((aG .u64 p29.1 1),(ax .u64 p29.2 (ay .u64 (aA .u64 y (ae .u64 x10)) 32))),rfl,by (have h9:=kj (a:=p29.2) (b:=(ay .u64 (aA .u64 y (ae .u64 x10)) 32)) (by omega) (by omega) (by omega) (by omega);omega),by (have h9:=kj (a:=p29.2) (b:=(ay .u64 (aA .u64 y (ae .u64 x10)) 32)) (by omega) (by omega) (by omega) (by omega);omega),bI hM hag29⟩
      ·rw [if_neg (ap h32)] at hM
       refine aa h32 ?_
       have nh32:=nzQ h32
       try have hr37:=mpQ nh32
       exact fA _ sbQ sbQ (hcut14 _ ⟨p29.1,rfl,trivial,hM⟩)
     ·rw [if_pos h30] at hM
      refine aa h30 ?_
      have nh30:=nzQ h30
      try have hr38:=mpQ nh30
      refine aB (fun h39=> ?_) (fun h39=> ?_)
      ·rw [if_pos h39] at hM
       refine aa h39 ?_
       have nh39:=nzQ h39
       try have hr40:=mpQ nh39
       exact fA _ sbQ sbQ (hcut14 _ ⟨(aG .u64 p29.1 1),rfl,trivial,hM⟩)
      ·rw [if_neg (ap h39)] at hM
       refine aa h39 ?_
       have nh39:=nzQ h39
       try have hr41:=mpQ nh39
       refine bM (n29 - 1) _ (by omega) sbQ sbQ ⟨((aG .u64 p29.1 1),(ax .u64 p29.2 (ay .u64 (aA .u64 y (ae .u64 x10)) 32))),rfl,by (have h9:=kj (a:=p29.2) (b:=(ay .u64 (aA .u64 y (ae .u64 x10)) 32)) (by omega) (by omega) (by omega) (by omega);omega),by (have h9:=kj (a:=p29.2) (b:=(ay .u64 (aA .u64 y (ae .u64 x10)) 32)) (by omega) (by omega) (by omega) (by omega);omega),bI hM hag29⟩
set_option maxHeartbeats 2000000 in
set_option maxRecDepth 100000 in
theorem rT (a_:Int) (b:Int) (n_:Int) (hp0:a_<n_):CM En (fg a_ b n_) 340 [.int .u64 a_,.int .u64 b,.int .u64 n_] (fun y=> .int .u64 y) (fun _=> []):=by
 refine cmQ fun r hM=> ?_
 rw [fg.eq_1] at hM
 refine av al ar noJ Tryz.func340 rfl Tryz.ntmps340 (by kernel_rfl) fun hw=>au ?_
 refine spQ ?_
 replace hw:=nzQ hw
 replace hM:=ao hM;obtain ⟨x1,hx2,hM⟩:=hM
 have hcx1:=cmU hx2
 refine aH hcx1 clQ clQ (fun hw3=> ?_)
 replace hw3:=nzQ hw3
 refine spQ ?_
 have hq4:=Ai n_ hx2 (by omega) (by omega) (by omega) (by omega) (by omega)
 replace hq4:=nzQ hq4
 replace hM:=ao hM;obtain ⟨x5,hx6,hM⟩:=hM
 have hcx5:=cmH hx6 (AW (x1.1) (x1.2) n_ (by (exact pfQ)))
 refine aH hcx5 clQ clQ (fun hw7=> ?_)
 replace hw7:=nzQ hw7
 refine spQ ?_
 subst hM
 exact aw lfQ
set_option maxHeartbeats 2000000 in
set_option maxRecDepth 100000 in
theorem Jk (a_:Int) (e_:Int) (n_:Int) (hp0:a_<n_) (hp1:1<n_):CM En (oq a_ e_ n_) 339 [.int .u64 a_,.int .u64 e_,.int .u64 n_] (fun y=> .int .u64 y) (fun _=> []):=by
 refine cmQ fun r hM=> ?_
 rw [oq.eq_1] at hM
 refine av al ar noJ Tryz.func339 rfl Tryz.ntmps339 (by kernel_rfl) fun hw=>au ?_
 refine spQ ?_
 replace hw:=nzQ hw
 replace hM:=aU hM;obtain ⟨f1,d1,hf1,hd1,hM⟩:=hM
 refine a6 (fun n S=> ∃p:Int×Int×Int,S=(⟨[(0,.int .u64 p.1),(1,.int .u64 p.2.1),(2,.int .u64 n_),(7,.int .u64 p.2.2)],[],0⟩:St)∧((0≤p.1)∧(p.1<n_)∧(0≤p.2.1)∧(0≤p.2.2)∧(p.2.2<n_))∧p.2.1.toNat<n∧am n f1 d1 p=r) (e_.toNat+1) _ sbQ sbQ ⟨(a_,e_,1),rfl,⟨omQ,omQ,omQ,omQ,omQ⟩,(Nat.lt_succ_self _),hM⟩ ?_
 clear hM
 rintro n1 S ⟨p1,rfl,hfa1,hm1,hM⟩
 replace hM:=aV hM (by omega) hf1;obtain ⟨ag1,hag1,hM⟩:=hM
 replace hfa1:=nzQ hfa1
 replace hm1:=nzQ hm1
 refine spQ ?_
 refine aB (fun h2=> ?_) (fun h2=> ?_)
 ·rw [if_pos h2] at hM
  refine aa h2 ?_
  have nh2:=nzQ h2
  try have hr3:=mpQ nh2
  refine aB (fun h4=> ?_) (fun h4=> ?_)
  ·rw [if_pos h4] at hM
   refine aa h4 ?_
   have nh4:=nzQ h4
   try have hr5:=mpQ nh4
   replace hM:=ao hM;obtain ⟨x6,hx7,hM⟩:=hM
   have hcx6:=cmH hx7 (rT (p1.2.2) (p1.1) n_ (by (exact pfQ)))
   refine aH hcx6 clQ clQ (fun hw8=> ?_)
   replace hw8:=nzQ hw8
   refine spQ ?_
   have hq9:=lw hx7 (by omega) (by omega) (by omega) (by omega) (by omega)
   replace hq9:=nzQ hq9
   replace hM:=ao hM;obtain ⟨x10,hx11,hM⟩:=hM
   have hcx10:=cmH hx11 (rT (p1.1) (p1.1) n_ (by (exact pfQ)))
   refine aH hcx10 clQ clQ (fun hw12=> ?_)
   replace hw12:=nzQ hw12
   refine spQ ?_
   have hq13:=lw hx11 (by omega) (by omega) (by omega) (by omega) (by omega)
   replace hq13:=nzQ hq13
   refine bM (n1 - 1) _ (by omega) sbQ sbQ ⟨(x10,(ay .u64 p1.2.1 1),x6),rfl,⟨by (clear hM;(try dsimp only);(try rw [cF]);(try rw [cM]);omega),by (clear hM;(try dsimp only);(try rw [cF]);(try rw [cM]);omega),by (clear hM;(try dsimp only);(try rw [cF]);(try rw [cM]);omega),by (clear hM;(try dsimp only);(try rw [cF]);(try rw [cM]);omega),by (clear hM;(try dsimp only);(try rw [cF]);(try rw [cM]);omega)⟩,by (clear hM;(try dsimp only);(try rw [cF]);(try rw [cM]);omega),bI hM hag1⟩
  ·rw [if_neg (ap h4)] at hM
   refine aa h4 ?_
   have nh4:=nzQ h4
   try have hr14:=mpQ nh4
   replace hM:=ao hM;obtain ⟨x15,hx16,hM⟩:=hM
   have hcx15:=cmH hx16 (rT (p1.1) (p1.1) n_ (by (exact pfQ)))
   refine aH hcx15 clQ clQ (fun hw17=> ?_)
   replace hw17:=nzQ hw17
   refine spQ ?_
   have hq18:=lw hx16 (by omega) (by omega) (by omega) (by omega) (by omega)
   replace hq18:=nzQ hq18
   refine bM (n1 - 1) _ (by omega) sbQ sbQ ⟨(x15,(ay .u64 p1.2.1 1),p1.2.2),rfl,⟨by (clear hM;(try dsimp only);(try rw [cF]);(try rw [cM]);omega),by (clear hM;(try dsimp only);(try rw [cF]);(try rw [cM]);omega),by (clear hM;(try dsimp only);(try rw [cF]);(try rw [cM]);omega),by (clear hM;(try dsimp only);(try rw [cF]);(try rw [cM]);omega),by (clear hM;(try dsimp only);(try rw [cF]);(try rw [cM]);omega)⟩,by (clear hM;(try dsimp only);(try rw [cF]);(try rw [cM]);omega),bI hM hag1⟩
 ·rw [if_neg (ap h2)] at hM
  refine aa h2 ?_
  subst hM
  exact aw (az h2)
set_option maxHeartbeats 2000000 in
set_option maxRecDepth 100000 in
theorem Jl (a_:Int) (n_:Int) (d_:Int) (s:Int) (hp0:a_<n_) (hp1:1<n_) (hp2:0≤s) (hp3:s≤64):CM En (u9 a_ n_ d_ s) 287 [.int .u64 a_,.int .u64 n_,.int .u64 d_,.int .i64 s] (fun y=> .bool y) (fun _=> []):=by
 refine cmQ fun r hM=> ?_
 rw [u9.eq_1] at hM
 refine av al ar noJ Tryz.func287 rfl Tryz.ntmps287 (by kernel_rfl) fun hw=>au ?_
 refine spQ ?_
 replace hw:=nzQ hw
 have h0_0:=H3 (x:=s) (by omega) (by omega)
 replace hM:=ao hM;obtain ⟨x1,hx2,hM⟩:=hM
 have hcx1:=cmH hx2 (Jk a_ d_ n_ (by (exact pfQ)) (by (exact pfQ)))
 refine aH hcx1 clQ clQ (fun hw3=> ?_)
 replace hw3:=nzQ hw3
 refine spQ ?_
 have hq4:=HO hx2 (by omega) (by omega) (by omega) (by omega)
 replace hq4:=nzQ hq4
 refine cr (fun h5=> ?_) (fun h5=> ?_)
 ·rw [if_neg (ap h5)] at hM
  refine aa h5 ?_
  have nh5:=nzQ h5
  try have hr6:=mpQ nh5
  refine aB (fun h7=> ?_) (fun h7=> ?_)
  ·rw [if_pos h7] at hM
   refine aa h7 ?_
   subst hM
   exact aw (az (And.intro h5 h7))
  ·rw [if_neg (ap h7)] at hM
   refine aa h7 ?_
   have nh7:=nzQ h7
   try have hr9:=mpQ nh7
   replace hM:=aU hM;obtain ⟨f10,d10,hf10,hd10,hM⟩:=hM
   refine a6 (fun n S=> ∃p:Int×Int,S=(⟨[(1,.int .u64 n_),(9,.int .u64 p.1),(23,.int .i64 (aG .i64 s 1)),(24,.int .i64 p.2)],[],0⟩:St)∧((0≤p.2)∧(p.2≤aG .i64 s 1∨p.2≤0)∧(0≤p.1)∧(p.1<n_))∧(aG .i64 s 1 - p.2).toNat<n∧am n f10 d10 p=r) ((aG .i64 s 1 - 0).toNat+1) _ sbQ sbQ ⟨(x1,0),rfl,⟨omQ,omQ,omQ,omQ⟩,(Nat.lt_succ_self _),hM⟩ ?_
   clear hM
   rintro n10 S ⟨p10,rfl,hfa10,hm10,hM⟩
   replace hM:=aV hM (by omega) hf10;obtain ⟨ag10,hag10,hM⟩:=hM
   replace hfa10:=nzQ hfa10
   replace hm10:=nzQ hm10
   have ha10:ax .i64 p10.2 1=p10.2+1:=aZ omQ omQ
   refine aa ha10 ?_
   refine aB (fun h11=> ?_) (fun h11=> ?_)
   ·rw [if_pos h11] at hM
    refine aa (And.intro ha10 h11) ?_
    have nh11:=nzQ h11
    try have hr12:=mpQ nh11
    replace hM:=ao hM;obtain ⟨x13,hx14,hM⟩:=hM
    have hcx13:=cmH hx14 (rT (p10.1) (p10.1) n_ (by (exact pfQ)))
    refine aH hcx13 (aC ha10) (aC ha10) (fun hw15=> ?_)
    replace hw15:=nzQ hw15
    refine aa ha10 ?_
    have hq16:=lw hx14 (by omega) (by omega) (by omega) (by omega) (by omega)
    replace hq16:=nzQ hq16
    have hF:=(And.intro h5 (And.intro h7 (And.intro ha10 h11)))
    exact auQ
   ·rw [if_neg (ap h11)] at hM
    refine aa (And.intro ha10 h11) ?_
    subst hM
    exact aw (az (And.intro ha10 (And.intro h5 (And.intro h7 h11))))
 ·rw [if_pos h5] at hM
  refine aa h5 ?_
  subst hM
  exact aw (az h5)
set_option maxHeartbeats 2000000 in
set_option maxRecDepth 100000 in
instance Nu (n_:Int):CM En (q8 n_) 231 [.int .i64 n_] (fun y=> .bool y) (fun _=> []):=by
 refine cmQ fun r hM=> ?_
 rw [q8.eq_1] at hM
 refine av al ar noJ Tryz.func231 rfl Tryz.ntmps231 (by kernel_rfl) fun hw=>au ?_
 refine spQ ?_
 replace hw:=nzQ hw
 have h0_0:=HR
 refine aB (fun h1=> ?_) (fun h1=> ?_)
 ·rw [if_pos h1] at hM
  refine aa h1 ?_
  subst hM
  exact aw (az h1)
 ·rw [if_neg (ap h1)] at hM
  refine aa h1 ?_
  have nh1:=nzQ h1
  try have hr3:=mpQ nh1
  replace hM:=aU hM;obtain ⟨f4,d4,hf4,hd4,hM⟩:=hM
  refine a6 (fun n S=> ∃p:Int,S=(⟨[(3,.int .u64 (ae .u64 n_)),(13,.agg (cT.map (V.int .u64))),(14,.int .i64 p)],[],0⟩:St)∧(((0≤p)∧(p≤12))∧(oH (ae .u64 n_) p))∧((12:Int) - p).toNat<n∧am n f4 d4 p=r) (((12:Int) - 0).toNat+1) _ sbQ sbQ ⟨0,rfl,⟨⟨by (first|exact omQ|(clear hM;first|(have hk:=cN (j:=p4) (by omega) (by omega);exact aq))),by (first|exact omQ|(clear hM;first|(have hk:=cN (j:=p4) (by omega) (by omega);exact aq)))⟩,by (exact HU)⟩,(Nat.lt_succ_self _),hM⟩ ?_
  clear hM
  rintro n4 S ⟨p4,rfl,⟨hfa4,hF5_0⟩,hm4,hM⟩
  replace hM:=aV hM (by omega) hf4;obtain ⟨ag4,hag4,hM⟩:=hM
  replace hfa4:=nzQ hfa4
  replace hm4:=nzQ hm4
  have ha4:ax .i64 p4 1=p4+1:=aZ (by (first|exact omQ|(clear hM;first|(have hk:=cN (j:=p4) (by omega) (by omega);exact aq)))) (by (first|exact omQ|(clear hM;first|(have hk:=cN (j:=p4) (by omega) (by omega);exact aq))))
  refine aa ha4 ?_
  refine aB (fun h5=> ?_) (fun h5=> ?_)
  ·rw [if_pos h5] at hM
   refine aa (And.intro ha4 h5) ?_
   have nh5:=nzQ h5
   try have hr6:=mpQ nh5
   have he7:=oa (f:=V.int .u64) (l:=cT) (n:=12) (i:=p4) rfl (by (first|exact omQ|(clear hM;first|(have hk:=cN (j:=p4) (by omega) (by omega);exact aq))))
   replace he7:=spR he7
   refine aa (And.intro ha4 he7) ?_
   refine aP (by (first|exact omQ|(clear hM;first|(have hk:=cN (j:=p4) (by omega) (by omega);exact aq)))) ?_
   refine aa (And.intro ha4 he7) ?_
   refine aP (by (first|exact omQ|(clear hM;first|(have hk:=cN (j:=p4) (by omega) (by omega);exact aq)))) ?_
   refine aa (And.intro ha4 he7) ?_
   refine aB (fun h8=> ?_) (fun h8=> ?_)
   ·rw [if_pos h8] at hM
    refine aa (And.intro ha4 (And.intro he7 h8)) ?_
    subst hM
    exact aw (az (And.intro ha4 (And.intro he7 (And.intro h1 (And.intro h5 h8)))))
   ·rw [if_neg (ap h8)] at hM
    refine aa (And.intro ha4 (And.intro he7 h8)) ?_
    have nh8:=nzQ h8
    try have hr10:=mpQ nh8
    refine bM (n4 - 1) _ (by omega) sbQ sbQ ⟨(p4+1),rfl,⟨⟨by (first|exact omQ|(clear hM;first|(have hk:=cN (j:=(p4+1)) (by omega) (by omega);exact aq))),by (first|exact omQ|(clear hM;first|(have hk:=cN (j:=(p4+1)) (by omega) (by omega);exact aq)))⟩,by (clear hM;exact HV hF5_0 (mh _) (by omega) (by omega) (by assumption))⟩,by (first|exact omQ|(clear hM;first|(have hk:=cN (j:=(p4+1)) (by omega) (by omega);exact aq))),bI hM hag4⟩
  ·rw [if_neg (ap h5)] at hM
   refine aa (And.intro ha4 h5) ?_
   have nh5:=nzQ h5
   try have hr11:=mpQ nh5
   replace hM:=ao hM;obtain ⟨x12,hx13,hM⟩:=hM
   have hcx12:=cmU hx13
   refine aH hcx12 (aC ha4) (aC ha4) (fun hw14=> ?_)
   replace hw14:=nzQ hw14
   refine aa ha4 ?_
   have hq15:=HZ hx13
   replace hq15:=nzQ hq15
   replace hM:=aU hM;obtain ⟨f16,d16,hf16,hd16,hM⟩:=hM
   refine a6 (fun n S=> ∃p:Int,S=(⟨[(3,.int .u64 (ae .u64 n_)),(6,.int .i64 x12),(28,.agg (cT.map (V.int .u64))),(29,.int .i64 p)],[],0⟩:St)∧(((0≤p)∧(p≤12))∧(37<ae .u64 n_))∧((12:Int) - p).toNat<n∧am n f16 d16 p=r) (((12:Int) - 0).toNat+1) _ sbQ sbQ ⟨0,rfl,⟨⟨by (first|exact omQ|(clear hM;first|(have hk:=cN (j:=p16) (by omega) (by omega);exact aq))),by (first|exact omQ|(clear hM;first|(have hk:=cN (j:=p16) (by omega) (by omega);exact aq)))⟩,by (clear hM;exact HX hF5_0 (by omega) (by rw [rD (by omega) (by omega)];omega))⟩,(Nat.lt_succ_self _),hM⟩ ?_
   clear hM
   rintro n16 S ⟨p16,rfl,⟨hfa16,hF12_0⟩,hm16,hM⟩
   replace hM:=aV hM (by omega) hf16;obtain ⟨ag16,hag16,hM⟩:=hM
   replace hfa16:=nzQ hfa16
   replace hm16:=nzQ hm16
   have ha16:ax .i64 p16 1=p16+1:=aZ (by (first|exact omQ|(clear hM;first|(have hk:=cN (j:=p16) (by omega) (by omega);exact aq)))) (by (first|exact omQ|(clear hM;first|(have hk:=cN (j:=p16) (by omega) (by omega);exact aq))))
   refine aa (And.intro ha4 ha16) ?_
   refine aB (fun h17=> ?_) (fun h17=> ?_)
   ·rw [if_pos h17] at hM
    refine aa (And.intro ha4 (And.intro ha16 h17)) ?_
    have nh17:=nzQ h17
    try have hr18:=mpQ nh17
    have he19:=oa (f:=V.int .u64) (l:=cT) (n:=12) (i:=p16) rfl (by (first|exact omQ|(clear hM;first|(have hk:=cN (j:=p16) (by omega) (by omega);exact aq))))
    replace he19:=spR he19
    refine aa (And.intro ha4 (And.intro ha16 he19)) ?_
    refine aP (by (first|exact omQ|(clear hM;first|(have hk:=cN (j:=p16) (by omega) (by omega);exact aq)))) ?_
    refine aa (And.intro ha4 (And.intro ha16 he19)) ?_
    refine aP (by (first|exact omQ|(clear hM;first|(have hk:=cN (j:=p16) (by omega) (by omega);exact aq)))) ?_
    refine aa (And.intro ha4 (And.intro ha16 he19)) ?_
    replace hM:=ao hM;obtain ⟨x20,hx21,hM⟩:=hM
    have hcx20:=cmH hx21 (Jl (gt cT p16) (ae .u64 n_) (ay .u64 (aG .u64 (ae .u64 n_) 1) x12) x12 (by (first|omega|(have hk:=cN (j:=p16) (by omega) (by omega);omega))) (by (first|omega|(have hk:=cN (j:=p16) (by omega) (by omega);omega))) (by (first|omega|(have hk:=cN (j:=p16) (by omega) (by omega);omega))) (by (first|omega|(have hk:=cN (j:=p16) (by omega) (by omega);omega))))
    refine aH hcx20 (aC (And.intro ha4 (And.intro ha16 he19))) (aC (And.intro ha4 (And.intro ha16 he19))) (fun hw22=> ?_)
    replace hw22:=nzQ hw22
    refine aa (And.intro ha4 (And.intro ha16 he19)) ?_
    refine aB (fun h23=> ?_) (fun h23=> ?_)
    ·subst h23
     rw [if_pos rfl] at hM
     refine aa (And.intro ha4 (And.intro ha16 he19)) ?_
     subst hM
     exact aw (az (And.intro ha4 (And.intro ha16 (And.intro he19 (And.intro h1 (And.intro h5 h17))))))
    ·subst h23
     rw [if_neg (by decide)] at hM
     refine aa (And.intro ha4 (And.intro ha16 he19)) ?_
     refine bM (n16 - 1) _ (by omega) sbQ sbQ ⟨(p16+1),rfl,⟨⟨by (first|exact omQ|(clear hM;first|(have hk:=cN (j:=(p16+1)) (by omega) (by omega);exact aq))),by (first|exact omQ|(clear hM;first|(have hk:=cN (j:=(p16+1)) (by omega) (by omega);exact aq)))⟩,by (clear hM;exact hF12_0)⟩,by (first|exact omQ|(clear hM;first|(have hk:=cN (j:=(p16+1)) (by omega) (by omega);exact aq))),bI hM hag16⟩
   ·rw [if_neg (ap h17)] at hM
    refine aa (And.intro ha4 (And.intro ha16 h17)) ?_
    subst hM
    exact aw (az (And.intro ha4 (And.intro ha16 (And.intro h1 (And.intro h5 h17)))))
set_option maxHeartbeats 2000000 in
set_option maxRecDepth 100000 in
instance Nv (a_:Int) (m:Int):CM En (ot a_ m) 341 [.int .i64 a_,.int .i64 m] (fun y=> .bool y) (fun _=> []):=by
 refine cmQ fun r hM=> ?_
 rw [ot.eq_1] at hM
 refine av al ar noJ Tryz.func341 rfl Tryz.ntmps341 (by kernel_rfl) fun hw=>au ?_
 refine spQ ?_
 replace hw:=nzQ hw
 have hF:=aW
 exact auQ
set_option maxHeartbeats 2000000 in
set_option maxRecDepth 100000 in
instance Nw (a_:Int) (b:Int) (m:Int):CM En (i6 a_ b m) 288 [.int .i64 a_,.int .i64 b,.int .i64 m] (fun y=> .int .i64 y) (fun _=> []):=by
 refine cmQ fun r hM=> ?_
 rw [i6.eq_1] at hM
 refine av al ar noJ Tryz.func288 rfl Tryz.ntmps288 (by kernel_rfl) fun hw=>au ?_
 refine spQ ?_
 replace hw:=nzQ hw
 have hF:=aW
 exact auQ
set_option maxHeartbeats 2000000 in
set_option maxRecDepth 100000 in
theorem rU (a_:Int) (b:Int) (m:Int) (hp0:0≤a_) (hp1:a_<m) (hp2:0≤b):CM En (i7 a_ b m) 289 [.int .i64 a_,.int .i64 b,.int .i64 m] (fun y=> .int .i64 y) (fun _=> []):=by
 refine cmQ fun r hM=> ?_
 rw [i7.eq_1] at hM
 refine av al ar noJ Tryz.func289 rfl Tryz.ntmps289 (by kernel_rfl) fun hw=>au ?_
 refine spQ ?_
 replace hw:=nzQ hw
 have h0_0:=rD (x:=a_) (by omega) (by omega)
 have h0_1:=rD (x:=b) (by omega) (by omega)
 have h0_2:=rD (x:=m) (by omega) (by omega)
 replace hM:=ao hM;obtain ⟨x1,hx2,hM⟩:=hM
 have hcx1:=cmU hx2
 refine aH hcx1 clQ clQ (fun hw3=> ?_)
 replace hw3:=nzQ hw3
 refine spQ ?_
 have hq4:=Ai (ae .u64 m) hx2 (by omega) (by omega) (by omega) (by omega) (by omega)
 replace hq4:=nzQ hq4
 replace hM:=ao hM;obtain ⟨x5,hx6,hM⟩:=hM
 have hcx5:=cmH hx6 (AW (x1.1) (x1.2) (ae .u64 m) (by (exact pfQ)))
 refine aH hcx5 clQ clQ (fun hw7=> ?_)
 replace hw7:=nzQ hw7
 refine spQ ?_
 subst hM
 exact aw lfQ
set_option maxHeartbeats 2000000 in
set_option maxRecDepth 100000 in
instance Nx (a_:Int) (e_:Int) (m:Int):CM En (ir a_ e_ m) 232 [.int .i64 a_,.int .i64 e_,.int .i64 m] (fun y=> .tup [.int .i64 y.1,.int .i64 y.2]) (fun _=> []):=by
 refine cmQ fun r hM=> ?_
 rw [ir.eq_1] at hM
 refine av al ar noJ Tryz.func232 rfl Tryz.ntmps232 (by kernel_rfl) fun hw=>au ?_
 refine spQ ?_
 replace hw:=nzQ hw
 replace hM:=ao hM;obtain ⟨x1,hx2,hM⟩:=hM
 have hcx1:=cmU hx2
 refine aH hcx1 clQ clQ (fun hw3=> ?_)
 replace hw3:=nzQ hw3
 refine spQ ?_
 have hq4:=nzQ (cfU hx2)
 refine aB (fun h5=> ?_) (fun h5=> ?_)
 ·rw [if_pos h5] at hM
  refine aa h5 ?_
  subst hM
  exact aw (az h5)
 ·rw [if_neg (ap h5)] at hM
  refine aa h5 ?_
  have nh5:=nzQ h5
  try have hr7:=mpQ nh5
  refine aB (fun h8=> ?_) (fun h8=> ?_)
  ·rw [if_pos h8] at hM
   refine aa h8 ?_
   subst hM
   exact aw (az (And.intro h5 h8))
  ·rw [if_neg (ap h8)] at hM
   refine aa h8 ?_
   have nh8:=nzQ h8
   try have hr10:=mpQ nh8
   refine aP (by (first|exact omQ|(clear hM;first|(have hk:=m6 (m:=m) (by omega);exact aq)))) ?_
   refine spQ ?_
   replace hM:=aU hM;obtain ⟨f11,d11,hf11,hd11,hM⟩:=hM
   refine a6 (fun n S=> ∃p:Int×Int×Int,S=(⟨[(0,.int .i64 p.1),(1,.int .i64 p.2.1),(2,.int .i64 m),(9,.int .i64 p.2.2)],[],0⟩:St)∧((0≤p.1)∧(p.1<m)∧(0≤p.2.1)∧(0≤p.2.2)∧(p.2.2<m))∧p.2.1.toNat<n∧am n f11 d11 p=r) (e_.toNat+1) _ sbQ sbQ ⟨(a_,e_,(cj .i64 1 m)),rfl,⟨by (first|exact omQ|(clear hM;first|(have hk:=m6 (m:=m) (by omega);exact aq))),by (first|exact omQ|(clear hM;first|(have hk:=m6 (m:=m) (by omega);exact aq))),by (first|exact omQ|(clear hM;first|(have hk:=m6 (m:=m) (by omega);exact aq))),by (first|exact omQ|(clear hM;first|(have hk:=m6 (m:=m) (by omega);exact aq))),by (first|exact omQ|(clear hM;first|(have hk:=m6 (m:=m) (by omega);exact aq)))⟩,(Nat.lt_succ_self _),hM⟩ ?_
   clear hM
   rintro n11 S ⟨p11,rfl,hfa11,hm11,hM⟩
   replace hM:=aV hM (by omega) hf11;obtain ⟨ag11,hag11,hM⟩:=hM
   replace hfa11:=nzQ hfa11
   replace hm11:=nzQ hm11
   refine spQ ?_
   refine aB (fun h12=> ?_) (fun h12=> ?_)
   ·rw [if_pos h12] at hM
    refine aa h12 ?_
    have nh12:=nzQ h12
    try have hr13:=mpQ nh12
    refine aB (fun h14=> ?_) (fun h14=> ?_)
    ·rw [if_pos h14] at hM
     refine aa h14 ?_
     have nh14:=nzQ h14
     try have hr15:=mpQ nh14
     replace hM:=ao hM;obtain ⟨x16,hx17,hM⟩:=hM
     have hcx16:=cmH hx17 (rU (p11.2.2) (p11.1) m (by (exact pfQ)) (by (exact pfQ)) (by (exact pfQ)))
     refine aH hcx16 clQ clQ (fun hw18=> ?_)
     replace hw18:=nzQ hw18
     refine spQ ?_
     have hq19:=wu hx17 (by omega) (by omega) (by omega) (by omega) (by omega)
     replace hq19:=nzQ hq19
     replace hM:=ao hM;obtain ⟨x20,hx21,hM⟩:=hM
     have hcx20:=cmH hx21 (rU (p11.1) (p11.1) m (by (exact pfQ)) (by (exact pfQ)) (by (exact pfQ)))
     refine aH hcx20 clQ clQ (fun hw22=> ?_)
     replace hw22:=nzQ hw22
     refine spQ ?_
     have hq23:=wu hx21 (by omega) (by omega) (by omega) (by omega) (by omega)
     replace hq23:=nzQ hq23
     refine bM (n11 - 1) _ (by omega) sbQ sbQ ⟨(x20,(ay .i64 p11.2.1 1),x16),rfl,⟨by (clear hM;(try dsimp only);(try rw [cF]);(try rw [cM]);omega),by (clear hM;(try dsimp only);(try rw [cF]);(try rw [cM]);omega),by (clear hM;(try dsimp only);(try rw [cF]);(try rw [cM]);omega),by (clear hM;(try dsimp only);(try rw [cF]);(try rw [cM]);omega),by (clear hM;(try dsimp only);(try rw [cF]);(try rw [cM]);omega)⟩,by (clear hM;(try dsimp only);(try rw [cF]);(try rw [cM]);omega),bI hM hag11⟩
    ·rw [if_neg (ap h14)] at hM
     refine aa h14 ?_
     have nh14:=nzQ h14
     try have hr24:=mpQ nh14
     replace hM:=ao hM;obtain ⟨x25,hx26,hM⟩:=hM
     have hcx25:=cmH hx26 (rU (p11.1) (p11.1) m (by (exact pfQ)) (by (exact pfQ)) (by (exact pfQ)))
     refine aH hcx25 clQ clQ (fun hw27=> ?_)
     replace hw27:=nzQ hw27
     refine spQ ?_
     have hq28:=wu hx26 (by omega) (by omega) (by omega) (by omega) (by omega)
     replace hq28:=nzQ hq28
     refine bM (n11 - 1) _ (by omega) sbQ sbQ ⟨(x25,(ay .i64 p11.2.1 1),p11.2.2),rfl,⟨by (clear hM;(try dsimp only);(try rw [cF]);(try rw [cM]);omega),by (clear hM;(try dsimp only);(try rw [cF]);(try rw [cM]);omega),by (clear hM;(try dsimp only);(try rw [cF]);(try rw [cM]);omega),by (clear hM;(try dsimp only);(try rw [cF]);(try rw [cM]);omega),by (clear hM;(try dsimp only);(try rw [cF]);(try rw [cM]);omega)⟩,by (clear hM;(try dsimp only);(try rw [cF]);(try rw [cM]);omega),bI hM hag11⟩
   ·rw [if_neg (ap h12)] at hM
    refine aa h12 ?_
    subst hM
    exact aw (az (And.intro h5 (And.intro h8 h12)))
set_option maxHeartbeats 2000000 in
set_option maxRecDepth 100000 in
instance Ny (g:aQ):CM En (iu g) 175 [.agg [.int .i64 g.P,.int .i64 g.Q,.int .i64 g.G]] (fun y=> .bool y) (fun _=> []):=by
 refine cmQ fun r hM=> ?_
 rw [iu.eq_1] at hM
 refine av al ar noJ Tryz.func175 rfl Tryz.ntmps175 (by kernel_rfl) fun hw=>au ?_
 refine spQ ?_
 replace hw:=nzQ hw
 have hF:=aW
 exact auQ
set_option maxHeartbeats 2000000 in
set_option maxRecDepth 100000 in
instance Nz (g:aQ) (x_:Int):CM En (q9 g x_) 176 [.agg [.int .i64 g.P,.int .i64 g.Q,.int .i64 g.G],.int .i64 x_] (fun y=> .bool y) (fun _=> []):=by
 refine cmQ fun r hM=> ?_
 rw [q9.eq_1] at hM
 refine av al ar noJ Tryz.func176 rfl Tryz.ntmps176 (by kernel_rfl) fun hw=>au ?_
 refine spQ ?_
 replace hw:=nzQ hw
 have hF:=aW
 exact auQ
set_option maxHeartbeats 2000000 in
set_option maxRecDepth 100000 in
instance NA (g:aQ) (x_:Int):CM En (iv g x_) 114 [.agg [.int .i64 g.P,.int .i64 g.Q,.int .i64 g.G],.int .i64 x_] (fun y=> .bool y) (fun _=> []):=by
 refine cmQ fun r hM=> ?_
 rw [iv.eq_1] at hM
 refine av al ar noJ Tryz.func114 rfl Tryz.ntmps114 (by kernel_rfl) fun hw=>au ?_
 refine spQ ?_
 replace hw:=nzQ hw
 have hF:=aW
 exact auQ
set_option maxHeartbeats 2000000 in
set_option maxRecDepth 100000 in
instance NB (b:a8):CM En (i9 b) 113 [(bS b)] (fun y=> .bool y) (fun _=> []):=by
 refine cmQ fun r hM=> ?_
 rw [i9.eq_1] at hM
 refine av al ar noJ Tryz.func113 rfl Tryz.ntmps113 (by kernel_rfl) fun hw=>au ?_
 refine spQ ?_
 replace hw:=nzQ hw
 replace hM:=ao hM;obtain ⟨x1,hx2,hM⟩:=hM
 have hcx1:=cmU hx2
 refine aH hcx1 clQ clQ (fun hw3=> ?_)
 replace hw3:=nzQ hw3
 refine spQ ?_
 refine aB (fun h4=> ?_) (fun h4=> ?_)
 ·rw [if_pos h4] at hM
  refine aa h4 ?_
  subst hM
  exact aw (az h4)
 ·rw [if_neg (ap h4)] at hM
  refine aa h4 ?_
  have nh4:=nzQ h4
  try have hr6:=mpQ nh4
  replace hM:=aU hM;obtain ⟨f7,d7,hf7,hd7,hM⟩:=hM
  refine a6 (fun n S=> ∃p:Int,S=(⟨[(1,.ptr 0 0),(15,.own 1),(16,.int .i64 (3:Int)),(17,.int .i64 p)],[(0,.var 6 true ((bS b))),(1,.own 3 1 false (some false) (([b.G1,b.G2,b.H]:List Int).map (V.int .i64)))],2⟩:St)∧((0≤p)∧(p≤(3:Int)))∧((3:Int) - p).toNat<n∧am n f7 d7 p=r) (((3:Int) - 0).toNat+1) _ sbQ sbQ ⟨0,rfl,⟨omQ,omQ⟩,(Nat.lt_succ_self _),hM⟩ ?_
  clear hM
  rintro n7 S ⟨p7,rfl,hfa7,hm7,hM⟩
  replace hM:=aV hM (by omega) hf7;obtain ⟨ag7,hag7,hM⟩:=hM
  replace hfa7:=nzQ hfa7
  replace hm7:=nzQ hm7
  have ha7:ax .i64 p7 1=p7+1:=aZ omQ omQ
  refine aa ha7 ?_
  have hF:=(And.intro h4 ha7)
  exact auQ
set_option maxHeartbeats 2000000 in
set_option maxRecDepth 100000 in
instance NC (b:a8) (x_:Int):CM En (q_ b x_) 285 [(bS b),.int .i64 x_] (fun y=> .bool y) (fun _=> []):=by
 refine cmQ fun r hM=> ?_
 rw [q_.eq_1] at hM
 refine av al ar noJ Tryz.func285 rfl Tryz.ntmps285 (by kernel_rfl) fun hw=>au ?_
 refine spQ ?_
 replace hw:=nzQ hw
 have hF:=aW
 exact auQ
set_option maxHeartbeats 2000000 in
set_option maxRecDepth 100000 in
instance ND (b:a8) (m:Int):CM En (mR b m) 230 [(bS b),.int .i64 m] (fun y=> .bool y) (fun _=> []):=by
 refine cmQ fun r hM=> ?_
 rw [mR.eq_1] at hM
 refine av al ar noJ Tryz.func230 rfl Tryz.ntmps230 (by kernel_rfl) fun hw=>au ?_
 refine spQ ?_
 replace hw:=nzQ hw
 have hF:=aW
 exact auQ
set_option maxHeartbeats 2000000 in
set_option maxRecDepth 100000 in
instance NE (b:a8) (k_:ig):CM En (mS b k_) 174 [(bS b),.agg [.int .i64 k_.H,.int .i64 k_.H1,.int .i64 k_.H2]] (fun y=> .bool y) (fun _=> []):=by
 refine cmQ fun r hM=> ?_
 rw [mS.eq_1] at hM
 refine av al ar noJ Tryz.func174 rfl Tryz.ntmps174 (by kernel_rfl) fun hw=>au ?_
 refine spQ ?_
 replace hw:=nzQ hw
 have hF:=aW
 exact auQ
set_option maxHeartbeats 2000000 in
set_option maxRecDepth 100000 in
instance NF (b:a8) (r_:bu):CM En (iw b r_) 112 [(bS b),(bJ r_)] (fun y=> .bool y) (fun _=> []):=by
 refine cmQ fun r hM=> ?_
 rw [iw.eq_1] at hM
 refine av al ar noJ Tryz.func112 rfl Tryz.ntmps112 (by kernel_rfl) fun hw=>au ?_
 refine spQ ?_
 replace hw:=nzQ hw
 have hF:=aW
 exact auQ
set_option maxHeartbeats 2000000 in
set_option maxRecDepth 100000 in
theorem Jm (k_:bU) (hp0:okK k_):CM En (jZ k_) 44 [(cg k_)] (fun y=> .bool y) (fun _=> []):=by
 refine cmQ fun r hM=> ?_
 rw [jZ.eq_1] at hM
 refine av al ar noJ Tryz.func44 rfl Tryz.ntmps44 (by kernel_rfl) fun hw=>au ?_
 refine spQ ?_
 replace hw:=nzQ hw
 have h0_0:=fi hp0
 replace hM:=aU hM;obtain ⟨f1,d1,hf1,hd1,hM⟩:=hM
 refine a6 (fun n S=> ∃p:Int,S=(⟨[(1,.ptr 0 0),(6,.sl none 11 true (k_.l.map bJ)),(7,.int .i64 (k_.l.length:Int)),(8,.int .i64 p)],[(0,.var 47 true ((cg k_)))],1⟩:St)∧((0≤p)∧(p≤(k_.l.length:Int)))∧((k_.l.length:Int) - p).toNat<n∧am n f1 d1 p=r) (((k_.l.length:Int) - 0).toNat+1) _ sbQ sbQ ⟨0,rfl,⟨omQ,omQ⟩,(Nat.lt_succ_self _),hM⟩ ?_
 clear hM
 rintro n1 S ⟨p1,rfl,hfa1,hm1,hM⟩
 replace hM:=aV hM (by omega) hf1;obtain ⟨ag1,hag1,hM⟩:=hM
 replace hfa1:=nzQ hfa1
 replace hm1:=nzQ hm1
 have ha1:ax .i64 p1 1=p1+1:=aZ omQ omQ
 refine aa ha1 ?_
 have hF:=ha1
 exact auQ
set_option maxHeartbeats 2000000 in
set_option maxRecDepth 100000 in
theorem AX (p_:bR) (hp0:gI p_):CM En (j4 p_) 46 [.agg [.int .i64 p_.Number,.sl none 80 true (p_.Spends.map aT),.sl none 81 true (p_.Chains.map bv),.sl none 5 true (p_.Escrow.map bG)]] (fun y=> .sl none 80 true (y.map aT)) (fun _=> []):=by
 refine cmQ fun r hM=> ?_
 rw [j4.eq_1] at hM
 refine av al ar noJ Tryz.func46 rfl Tryz.ntmps46 (by kernel_rfl) fun hw=>au ?_
 refine spQ ?_
 replace hw:=nzQ hw
 refine aP (by (first|exact omQ|(clear hM;first|(have h9:=hp0.s.1;have h8:=hp0.c.1;exact aq)))) ?_
 refine spQ ?_
 replace hM:=aU hM;obtain ⟨f1,d1,hf1,hd1,hM⟩:=hM
 refine a6 (fun n S=> ∃p:Int×List aO,S=(⟨[(3,.own 1),(11,.sl none 81 true (p_.Chains.map bv)),(12,.int .i64 (p_.Chains.length:Int)),(13,.int .i64 p.1)],[(1,.own 56 80 true none (p.2.map aT))],2⟩:St)∧(((0≤p.1)∧(p.1≤(p_.Chains.length:Int)))∧(((p.2).length:Int)≤60+13*p.1))∧((p_.Chains.length:Int) - p.1).toNat<n∧am n f1 d1 p=r) (((p_.Chains.length:Int) - 0).toNat+1) _ sbQ sbQ ⟨(0,(([]:List aO)++p_.Spends)),rfl,⟨⟨by (first|exact omQ|(clear hM;first|(have h9:=hp0.s.1;have h8:=hp0.c.1;exact aq)|(have h9:=hp0.s.1;have h8:=hp0.c.1;have h7:=(hp0.c.2 _ (ca (l:=p_.Chains) (i:=p1.1) (by omega))).1;exact aq))),by (first|exact omQ|(clear hM;first|(have h9:=hp0.s.1;have h8:=hp0.c.1;exact aq)|(have h9:=hp0.s.1;have h8:=hp0.c.1;have h7:=(hp0.c.2 _ (ca (l:=p_.Chains) (i:=p1.1) (by omega))).1;exact aq)))⟩,by (have h9:=hp0.s.1;exact aq)⟩,(Nat.lt_succ_self _),hM⟩ ?_
 clear hM
 rintro n1 S ⟨p1,rfl,⟨hfa1,hF3_0⟩,hm1,hM⟩
 replace hM:=aV hM (by omega) hf1;obtain ⟨ag1,hag1,hM⟩:=hM
 replace hfa1:=nzQ hfa1
 replace hm1:=nzQ hm1
 have ha1:ax .i64 p1.1 1=p1.1+1:=aZ (by (first|exact omQ|(clear hM;first|(have h9:=hp0.s.1;have h8:=hp0.c.1;exact aq)|(have h9:=hp0.s.1;have h8:=hp0.c.1;have h7:=(hp0.c.2 _ (ca (l:=p_.Chains) (i:=p1.1) (by omega))).1;exact aq)))) (by (first|exact omQ|(clear hM;first|(have h9:=hp0.s.1;have h8:=hp0.c.1;exact aq)|(have h9:=hp0.s.1;have h8:=hp0.c.1;have h7:=(hp0.c.2 _ (ca (l:=p_.Chains) (i:=p1.1) (by omega))).1;exact aq))))
 refine aa ha1 ?_
 refine aB (fun h2=> ?_) (fun h2=> ?_)
 ·rw [if_pos h2] at hM
  refine aa (And.intro ha1 h2) ?_
  have nh2:=nzQ h2
  try have hr3:=mpQ nh2
  refine aP (by (first|exact omQ|(clear hM;first|(have h9:=hp0.s.1;have h8:=hp0.c.1;exact aq)|(have h9:=hp0.s.1;have h8:=hp0.c.1;have h7:=(hp0.c.2 _ (ca (l:=p_.Chains) (i:=p1.1) (by omega))).1;exact aq)))) ?_
  have he4:=fun d=>bE (l:=p_.Chains) (f:=bv) (i:=p1.1) (by (first|exact omQ|(clear hM;first|(have h9:=hp0.s.1;have h8:=hp0.c.1;exact aq)|(have h9:=hp0.s.1;have h8:=hp0.c.1;have h7:=(hp0.c.2 _ (ca (l:=p_.Chains) (i:=p1.1) (by omega))).1;exact aq)))) d
  refine aa (And.intro ha1 he4) ?_
  refine bN 27 7 [17,18,19,20,21,22,23] [] ([[],[],[1],[1,2],[0,1,2,3],[],[5]]++[List.range 7,List.range 8]) [(4,1)] (by kernel_rfl) (by exact alQ) ?_
  refine aa (And.intro ha1 he4) ?_
  refine nH (by (first|exact omQ|(clear hM;first|(have h9:=hp0.s.1;have h8:=hp0.c.1;exact aq)|(have h9:=hp0.s.1;have h8:=hp0.c.1;have h7:=(hp0.c.2 _ (ca (l:=p_.Chains) (i:=p1.1) (by omega))).1;exact aq)))) clQ ?_
  refine aa (And.intro ha1 he4) ?_
  refine aP (by (first|exact omQ|(clear hM;first|(have h9:=hp0.s.1;have h8:=hp0.c.1;exact aq)|(have h9:=hp0.s.1;have h8:=hp0.c.1;have h7:=(hp0.c.2 _ (ca (l:=p_.Chains) (i:=p1.1) (by omega))).1;exact aq)))) ?_
  refine aa (And.intro ha1 he4) ?_
  refine Gs (n1 - 1) _ _ (by omega) (Ha (S:=⟨_,_,_⟩) 3 1 7 (T:=56) (n:=80) (g:=true) (z:=(gR ((gt p_.Chains p1.1).L.map aT))) (l:=((p1.2++([(gt p_.Chains p1.1).First]:List aO))++(gt p_.Chains p1.1).L).map aT) (aC (And.intro ha1 he4)) (aC (And.intro ha1 he4)) (by first|decide|(dsimp only;decide)) (by decide)) sbQ sbQ ⟨((p1.1+1),((p1.2++([(gt p_.Chains p1.1).First]:List aO))++(gt p_.Chains p1.1).L)),rfl,⟨⟨by (first|exact omQ|(clear hM;first|(have h9:=hp0.s.1;have h8:=hp0.c.1;exact aq)|(have h9:=hp0.s.1;have h8:=hp0.c.1;have h7:=(hp0.c.2 _ (ca (l:=p_.Chains) (i:=(p1.1+1)) (by omega))).1;exact aq))),by (first|exact omQ|(clear hM;first|(have h9:=hp0.s.1;have h8:=hp0.c.1;exact aq)|(have h9:=hp0.s.1;have h8:=hp0.c.1;have h7:=(hp0.c.2 _ (ca (l:=p_.Chains) (i:=(p1.1+1)) (by omega))).1;exact aq)))⟩,by (have h7:=(hp0.c.2 _ (ca (l:=p_.Chains) (i:=p1.1) (by omega))).1;clear hM;exact aq)⟩,by (first|exact omQ|(clear hM;first|(have h9:=hp0.s.1;have h8:=hp0.c.1;exact aq)|(have h9:=hp0.s.1;have h8:=hp0.c.1;have h7:=(hp0.c.2 _ (ca (l:=p_.Chains) (i:=(p1.1+1)) (by omega))).1;exact aq))),bI hM hag1⟩
 ·rw [if_neg (ap h2)] at hM
  refine aa (And.intro ha1 h2) ?_
  subst hM
  exact aw (az (And.intro ha1 h2))
set_option maxHeartbeats 2000000 in
set_option maxRecDepth 100000 in
theorem Jn (c0:bR) (hp0:gI c0):CM En (ra c0) 45 [.pp 4 true (.agg [.int .i64 c0.Number,.sl none 80 true (c0.Spends.map aT),.sl none 81 true (c0.Chains.map bv),.sl none 5 true (c0.Escrow.map bG)])] (fun y=> .bool y) (fun _=> []):=by
 refine cmQ fun r hM=> ?_
 rw [ra.eq_1] at hM
 refine av al ar noJ Tryz.func45 rfl Tryz.ntmps45 (by kernel_rfl) fun hw=>au ?_
 refine spQ ?_
 replace hw:=nzQ hw
 replace hM:=ao hM;obtain ⟨x1,hx2,hM⟩:=hM
 have hcx1:=cmH hx2 (AX c0 (by (exact hp0)))
 refine aH hcx1 clQ clQ (fun hw3=> ?_)
 replace hw3:=nzQ hw3
 refine spQ ?_
 subst hM
 exact aw lfQ
set_option maxHeartbeats 2000000 in
set_option maxRecDepth 100000 in
instance Jo (c0:bR) (c1:bO):CM En (rb c0 c1) 47 [.pp 4 true (.agg [.int .i64 c0.Number,.sl none 80 true (c0.Spends.map aT),.sl none 81 true (c0.Chains.map bv),.sl none 5 true (c0.Escrow.map bG)]),.pp 35 true ((cA c1))] (fun y=> .bool y) (fun _=> []):=by
 refine cmQ fun r hM=> ?_
 rw [rb.eq_1] at hM
 refine av al ar noJ Tryz.func47 rfl Tryz.ntmps47 (by kernel_rfl) fun hw=>au ?_
 refine spQ ?_
 replace hw:=nzQ hw
 subst hM
 exact aw lfQ
set_option maxHeartbeats 2000000 in
set_option maxRecDepth 100000 in
theorem AY (k_:bU) (hp0:okK k_):CM En (ix k_) 115 [(cg k_)] (fun y=> .sl none 41 true (y.map dm)) (fun _=> []):=by
 refine cmQ fun r hM=> ?_
 rw [ix.eq_1] at hM
 refine av al ar noJ Tryz.func115 rfl Tryz.ntmps115 (by kernel_rfl) fun hw=>au ?_
 refine spQ ?_
 replace hw:=nzQ hw
 have h0_0:=fi hp0
 replace hM:=aU hM;obtain ⟨f1,d1,hf1,hd1,hM⟩:=hM
 refine fC (fun n S=> ∃p:Int×List bD,S=(⟨[(1,.ptr 0 0),(3,.own 1),(10,.sl none 80 true (k_.p.Spends.map aT)),(11,.int .i64 (k_.p.Spends.length:Int)),(12,.int .i64 p.1)],[(0,.var 47 true ((cg k_))),(1,.own 46 41 true none (p.2.map dm))],2⟩:St)∧((0≤p.1)∧(p.1≤(k_.p.Spends.length:Int))∧(((p.2).length:Int)≤p.1))∧((k_.p.Spends.length:Int) - p.1).toNat<n∧am n f1 d1 p=r) (((k_.p.Spends.length:Int) - 0).toNat+1) _ _ (jI 3 46 rfl (by decide)) sbQ sbQ ⟨(0,([]:List bD)),rfl,⟨omQ,omQ,omQ⟩,(Nat.lt_succ_self _),hM⟩ ?_
 clear hM
 rintro n1 S ⟨p1,rfl,hfa1,hm1,hM⟩
 replace hM:=aV hM (by omega) hf1;obtain ⟨ag1,hag1,hM⟩:=hM
 replace hfa1:=nzQ hfa1
 replace hm1:=nzQ hm1
 have ha1:ax .i64 p1.1 1=p1.1+1:=aZ omQ omQ
 refine aa ha1 ?_
 refine aB (fun h2=> ?_) (fun h2=> ?_)
 ·rw [if_pos h2] at hM
  refine aa (And.intro ha1 h2) ?_
  have nh2:=nzQ h2
  try have hr3:=mpQ nh2
  have hF:=(And.intro ha1 h2)
  exact auQ
 ·rw [if_neg (ap h2)] at hM
  refine aa (And.intro ha1 h2) ?_
  have nh2:=nzQ h2
  try have hr5:=mpQ nh2
  replace hM:=aU hM;obtain ⟨f6,d6,hf6,hd6,hM⟩:=hM
  refine a6 (fun n S=> ∃p:Int×List bD,S=(⟨[(3,.own 1),(24,.sl none 81 true (k_.p.Chains.map bv)),(25,.int .i64 (k_.p.Chains.length:Int)),(26,.int .i64 p.1)],[(1,.own 46 41 true none (p.2.map dm))],2⟩:St)∧((0≤p.1)∧(p.1≤(k_.p.Chains.length:Int))∧(((p.2).length:Int)≤p.1+(p1.2).length))∧((k_.p.Chains.length:Int) - p.1).toNat<n∧am n f6 d6 p=r) (((k_.p.Chains.length:Int) - 0).toNat+1) _ sbQ sbQ ⟨(0,p1.2),rfl,⟨omQ,omQ,omQ⟩,(Nat.lt_succ_self _),hM⟩ ?_
  clear hM
  rintro n6 S ⟨p6,rfl,hfa6,hm6,hM⟩
  replace hM:=aV hM (by omega) hf6;obtain ⟨ag6,hag6,hM⟩:=hM
  replace hfa6:=nzQ hfa6
  replace hm6:=nzQ hm6
  have ha6:ax .i64 p6.1 1=p6.1+1:=aZ omQ omQ
  refine aa (And.intro ha1 ha6) ?_
  have hF:=(And.intro ha1 (And.intro h2 ha6))
  exact auQ
set_option maxHeartbeats 2000000 in
set_option maxRecDepth 100000 in
instance NG (r_:bu) (c0:Int) (c1:Int) (c2:Int):CM En (u_ r_ c0 c1 c2) 57 [(bJ r_),.pp 1 false (.int .i64 c0),.pp 1 false (.int .i64 c1),.pp 1 false (.int .i64 c2)] (fun y=> .bool y) (fun _=> []):=by
 refine cmQ fun r hM=> ?_
 rw [u_.eq_1] at hM
 refine av al ar noJ Tryz.func57 rfl Tryz.ntmps57 (by kernel_rfl) fun hw=>au ?_
 refine spQ ?_
 replace hw:=nzQ hw
 have hF:=aW
 exact auQ
set_option maxHeartbeats 2000000 in
set_option maxRecDepth 100000 in
instance NH (s:(List bu)) (f__c0:Int) (f__c1:Int) (f__c2:Int):CM En (rc s f__c0 f__c1 f__c2) 56 [.sl none 11 true (s.map bJ),.fn 57 [.pp 1 false (.int .i64 f__c0),.pp 1 false (.int .i64 f__c1),.pp 1 false (.int .i64 f__c2)]] (fun y=> .int .i64 y) (fun _=> []):=by
 refine cmQ fun r hM=> ?_
 rw [rc.eq_1] at hM
 refine av al ar noJ Tryz.func56 rfl Tryz.ntmps56 (by kernel_rfl) fun hw=>au ?_
 refine spQ ?_
 replace hw:=nzQ hw
 replace hM:=aU hM;obtain ⟨f1,d1,hf1,hd1,hM⟩:=hM
 refine a6 (fun n S=> ∃p:Int,S=(⟨[(0,.sl none 11 true (s.map bJ)),(1,.fn 57 [.pp 1 false (.int .i64 f__c0),.pp 1 false (.int .i64 f__c1),.pp 1 false (.int .i64 f__c2)]),(7,.int .i64 (s.length:Int)),(8,.int .i64 p)],[],0⟩:St)∧((0≤p)∧(p≤(s.length:Int)))∧((s.length:Int) - p).toNat<n∧am n f1 d1 p=r) (((s.length:Int) - 0).toNat+1) _ sbQ sbQ ⟨0,rfl,⟨omQ,omQ⟩,(Nat.lt_succ_self _),hM⟩ ?_
 clear hM
 rintro n1 S ⟨p1,rfl,hfa1,hm1,hM⟩
 replace hM:=aV hM (by omega) hf1;obtain ⟨ag1,hag1,hM⟩:=hM
 replace hfa1:=nzQ hfa1
 replace hm1:=nzQ hm1
 have ha1:ax .i64 p1 1=p1+1:=aZ omQ omQ
 refine aa ha1 ?_
 have hF:=ha1
 exact auQ
set_option maxHeartbeats 2000000 in
set_option maxRecDepth 100000 in
instance NI (l:(List bu)) (bank:Int) (epoch:Int) (number:Int):CM En (ja l bank epoch number) 13 [.sl none 11 true (l.map bJ),.int .i64 bank,.int .i64 epoch,.int .i64 number] (fun y=> .int .i64 y) (fun _=> []):=by
 refine cmQ fun r hM=> ?_
 rw [ja.eq_1] at hM
 refine av al ar noJ Tryz.func13 rfl Tryz.ntmps13 (by kernel_rfl) fun hw=>au ?_
 refine spQ ?_
 replace hw:=nzQ hw
 have hF:=aW
 exact auQ
set_option maxHeartbeats 2000000 in
set_option maxRecDepth 100000 in
theorem rW (k_:bU) (c:bD) (hp0:okK k_):CM En (dT k_ c) 116 [(cg k_),(dm c)] (fun y=> .tup [(bJ y.1),.bool y.2]) (fun _=> []):=by
 refine cmQ fun r hM=> ?_
 rw [dT.eq_1] at hM
 refine av al ar noJ Tryz.func116 rfl Tryz.ntmps116 (by kernel_rfl) fun hw=>au ?_
 refine spQ ?_
 replace hw:=nzQ hw
 have h0_0:=fi hp0
 replace hM:=ao hM;obtain ⟨x1,hx2,hM⟩:=hM
 have hcx1:=cmU hx2
 refine aH hcx1 clQ clQ (fun hw3=> ?_)
 replace hw3:=nzQ hw3
 refine spQ ?_
 have hq4:=rO hx2
 replace hq4:=nzQ hq4
 have hF:=aW
 exact auQ
set_option maxHeartbeats 2000000 in
set_option maxRecDepth 100000 in
theorem Jp (k_:bU) (hp0:okK k_):CM En (gF k_) 48 [(cg k_)] (fun y=> .bool y) (fun _=> []):=by
 refine cmQ fun r hM=> ?_
 rw [gF.eq_1] at hM
 refine av al ar noJ Tryz.func48 rfl Tryz.ntmps48 (by kernel_rfl) fun hw=>au ?_
 refine spQ ?_
 replace hw:=nzQ hw
 have h0_0:=fi hp0
 replace hM:=ao hM;obtain ⟨x1,hx2,hM⟩:=hM
 have hcx1:=cmH hx2 (AY k_ (by (exact hp0)))
 refine aH hcx1 clQ clQ (fun hw3=> ?_)
 replace hw3:=nzQ hw3
 refine spQ ?_
 have hq4:=AO hp0 hx2
 replace hq4:=nzQ hq4
 replace hM:=aU hM;obtain ⟨f5,d5,hf5,hd5,hM⟩:=hM
 refine a6 (fun n S=> ∃p:Int,S=(⟨[(1,.ptr 0 0),(8,.sl none 41 true (x1.map dm)),(9,.int .i64 (x1.length:Int)),(10,.int .i64 p)],[(0,.var 47 true ((cg k_)))],1⟩:St)∧((0≤p)∧(p≤(x1.length:Int)))∧((x1.length:Int) - p).toNat<n∧am n f5 d5 p=r) (((x1.length:Int) - 0).toNat+1) _ sbQ sbQ ⟨0,rfl,⟨omQ,omQ⟩,(Nat.lt_succ_self _),hM⟩ ?_
 clear hM
 rintro n5 S ⟨p5,rfl,hfa5,hm5,hM⟩
 replace hM:=aV hM (by omega) hf5;obtain ⟨ag5,hag5,hM⟩:=hM
 replace hfa5:=nzQ hfa5
 replace hm5:=nzQ hm5
 have ha5:ax .i64 p5 1=p5+1:=aZ omQ omQ
 refine aa ha5 ?_
 refine aB (fun h6=> ?_) (fun h6=> ?_)
 ·rw [if_pos h6] at hM
  refine aa (And.intro ha5 h6) ?_
  have nh6:=nzQ h6
  try have hr7:=mpQ nh6
  refine aP omQ ?_
  have he8:=fun d=>bE (l:=x1) (f:=dm) (i:=p5) omQ d
  refine aa (And.intro ha5 he8) ?_
  replace hM:=ao hM;obtain ⟨x9,hx10,hM⟩:=hM
  have hcx9:=cmH hx10 (rW k_ (gt x1 p5) (by (exact hp0)))
  refine aH hcx9 (aC (And.intro ha5 he8)) (aC (And.intro ha5 he8)) (fun hw11=> ?_)
  replace hw11:=nzQ hw11
  refine aa (And.intro ha5 he8) ?_
  have hF:=(And.intro ha5 (And.intro h6 he8))
  exact auQ
 ·rw [if_neg (ap h6)] at hM
  refine aa (And.intro ha5 h6) ?_
  subst hM
  exact aw (az (And.intro ha5 h6))
set_option maxHeartbeats 2000000 in
set_option maxRecDepth 100000 in
instance NJ (b:a8) (x_:Int):CM En (va b x_) 290 [(bS b),.int .i64 x_] (fun y=> .bool y) (fun _=> []):=by
 refine cmQ fun r hM=> ?_
 rw [va.eq_1] at hM
 refine av al ar noJ Tryz.func290 rfl Tryz.ntmps290 (by kernel_rfl) fun hw=>au ?_
 refine spQ ?_
 replace hw:=nzQ hw
 have hF:=aW
 exact auQ
set_option maxHeartbeats 2000000 in
set_option maxRecDepth 100000 in
instance NL (b:a8) (l:(List Int)):CM En (vb b l) 344 [(bS b),.sl none 1 false (l.map (V.int .i64))] (fun y=> .bool y) (fun _=> []):=by
 refine cmQ fun r hM=> ?_
 rw [vb.eq_1] at hM
 refine av al ar noJ Tryz.func344 rfl Tryz.ntmps344 (by kernel_rfl) fun hw=>au ?_
 refine spQ ?_
 replace hw:=nzQ hw
 replace hM:=aU hM;obtain ⟨f1,d1,hf1,hd1,hM⟩:=hM
 refine a6 (fun n S=> ∃p:Int,S=(⟨[(2,.ptr 0 0),(7,.sl none 1 false (l.map (V.int .i64))),(8,.int .i64 (l.length:Int)),(9,.int .i64 p)],[(0,.var 6 true ((bS b)))],1⟩:St)∧((0≤p)∧(p≤(l.length:Int)))∧((l.length:Int) - p).toNat<n∧am n f1 d1 p=r) (((l.length:Int) - 0).toNat+1) _ sbQ sbQ ⟨0,rfl,⟨omQ,omQ⟩,(Nat.lt_succ_self _),hM⟩ ?_
 clear hM
 rintro n1 S ⟨p1,rfl,hfa1,hm1,hM⟩
 replace hM:=aV hM (by omega) hf1;obtain ⟨ag1,hag1,hM⟩:=hM
 replace hfa1:=nzQ hfa1
 replace hm1:=nzQ hm1
 have ha1:ax .i64 p1 1=p1+1:=aZ omQ omQ
 refine aa ha1 ?_
 have hF:=ha1
 exact auQ
set_option maxHeartbeats 2000000 in
set_option maxRecDepth 100000 in
instance NM (n_:Int):CM En (lk n_) 345 [.int .i64 n_] (fun y=> .agg [.int .i64 y.Kind,.int .i64 y.N,.sl none 1 false (y.B.map (V.int .u8)),.sl none 4 true (y.L.map a7)]) (fun _=> []):=by
 refine cmQ fun r hM=> ?_
 rw [lk.eq_1] at hM
 refine av al ar noJ Tryz.func345 rfl Tryz.ntmps345 (by kernel_rfl) fun hw=>au ?_
 refine spQ ?_
 replace hw:=nzQ hw
 subst hM
 exact aw lfQ
set_option maxHeartbeats 2000000 in
set_option maxRecDepth 100000 in
instance NN (n_:Int):CM En (ou n_) 307 [.int .u64 n_] (fun y=> .sl none 1 false (y.map (V.int .u8))) (fun _=> []):=by
 refine cmQ fun r hM=> ?_
 rw [ou.eq_1] at hM
 refine av al ar noJ Tryz.func307 rfl Tryz.ntmps307 (by kernel_rfl) fun hw=>au ?_
 refine spQ ?_
 replace hw:=nzQ hw
 replace hM:=aU hM;obtain ⟨f1,d1,hf1,hd1,hM⟩:=hM
 refine a6 (fun n S=> ∃p:Int×List Int,S=(⟨[(0,.int .u64 n_),(3,.own 0),(7,.int .i64 (8:Int)),(8,.int .i64 p.1)],[(0,.own 5 1 false none (p.2.map (V.int .u8)))],1⟩:St)∧((0≤p.1)∧(p.1≤(8:Int))∧((p.2).length=(([(0:Int),(0:Int),(0:Int),(0:Int),(0:Int),(0:Int),(0:Int),(0:Int)]:List Int)).length))∧((8:Int) - p.1).toNat<n∧am n f1 d1 p=r) (((8:Int) - 0).toNat+1) _ sbQ sbQ ⟨(0,([(0:Int),(0:Int),(0:Int),(0:Int),(0:Int),(0:Int),(0:Int),(0:Int)]:List Int)),rfl,⟨omQ,omQ,omQ⟩,(Nat.lt_succ_self _),hM⟩ ?_
 clear hM
 rintro n1 S ⟨p1,rfl,hfa1,hm1,hM⟩
 replace hM:=aV hM (by omega) hf1;obtain ⟨ag1,hag1,hM⟩:=hM
 replace hfa1:=nzQ hfa1
 replace hm1:=nzQ hm1
 have ha1:ax .i64 p1.1 1=p1.1+1:=aZ omQ omQ
 refine aa ha1 ?_
 refine aB (fun h2=> ?_) (fun h2=> ?_)
 ·rw [if_pos h2] at hM
  refine aa (And.intro ha1 h2) ?_
  have nh2:=nzQ h2
  try have hr3:=mpQ nh2
  obtain ⟨ha4,hbha4⟩:=mq (a:=8) (b:=p1.1) 8 8 64 omQ omQ omQ omQ (by decide) (by decide)
  try simp only [ha4]
  have ha5:aG .i64 56 (8*p1.1)=(56 - (8*p1.1)):=dl omQ omQ
  try simp only [ha5]
  have hF:=(And.intro ha1 (And.intro h2 ha5))
  exact auQ
 ·rw [if_neg (ap h2)] at hM
  refine aa (And.intro ha1 h2) ?_
  subst hM
  exact aw (az (And.intro ha1 h2))
set_option maxHeartbeats 2000000 in
set_option maxRecDepth 100000 in
instance NO (x_:Int) (k_:Int):CM En (vc x_ k_) 385 [.int .u32 x_,.int .i64 k_] (fun y=> .int .u32 y) (fun _=> []):=by
 refine cmQ fun r hM=> ?_
 rw [vc.eq_1] at hM
 refine av al ar noJ Tryz.func385 rfl Tryz.ntmps385 (by kernel_rfl) fun hw=>au ?_
 refine spQ ?_
 replace hw:=nzQ hw
 refine aP (by (exact (xi .u64 _ _).1)) ?_
 refine spQ ?_
 refine aP (by (exact (nh .u64 _ _).1)) ?_
 refine spQ ?_
 subst hM
 exact aw lfQ
set_option maxHeartbeats 2000000 in
set_option maxRecDepth 100000 in
instance NP (x_:Int) (n_:Int):CM En (fQ x_ n_) 358 [.int .u32 x_,.int .i64 n_] (fun y=> .int .u32 y) (fun _=> []):=by
 refine cmQ fun r hM=> ?_
 rw [fQ.eq_1] at hM
 refine av al ar noJ Tryz.func358 rfl Tryz.ntmps358 (by kernel_rfl) fun hw=>au ?_
 refine spQ ?_
 replace hw:=nzQ hw
 have hF:=aW
 exact auQ
set_option maxHeartbeats 2000000 in
set_option maxRecDepth 100000 in
theorem Jq (block:(List Int)) (hp0:block.length=64):CM En (vd block) 357 [.sl none 1 false (block.map (V.int .u8))] (fun y=>(mE y)) (fun _=> []):=by
 refine cmQ fun r hM=> ?_
 rw [vd.eq_1] at hM
 refine av al ar noJ Tryz.func357 rfl Tryz.ntmps357 (by kernel_rfl) fun hw=>au ?_
 refine spQ ?_
 replace hw:=nzQ hw
 replace hM:=aU hM;obtain ⟨f1,d1,hf1,hd1,hM⟩:=hM
 refine a6 (fun n S=> ∃p:Int×(List Int),S=(⟨[(0,.sl none 1 false (block.map (V.int .u8))),(2,.ptr 0 0),(3,.ptr 1 0),(12,.int .i64 p.1)],[(0,.var 64 true (qP)),(1,.var 64 true ((mE p.2)))],2⟩:St)∧((0≤p.1)∧(p.1≤16))∧((16:Int) - p.1).toNat<n∧am n f1 d1 p=r) (((16:Int) - 0).toNat+1) _ sbQ (by simp only [go_sem,aE,aF,List.length_replicate,aD,Int.toNat_natCast,↓reduceIte,Nat.reduceEqDiff,Nat.reduceAdd,Int.reduceAdd,Nat.reduceMul,Nat.reduceLeDiff,Nat.reduceLT,Int.reduceLE,Int.reduceLT,Int.reduceNeg,Int.reduceToNat,List.isEmpty_nil,br,gz,g9,cJ,cK,mtO,mtB,mt,mtL,aL,aK,ltV,ltL,ltB,eq_self,or_true,true_or,or_self,and_self,bm,bn,Int.reduceSub]) ⟨(0,[0,0,0,0,0,0,0,0,0,0,0,0,0,0,0,0,0,0,0,0,0,0,0,0,0,0,0,0,0,0,0,0,0,0,0,0,0,0,0,0,0,0,0,0,0,0,0,0,0,0,0,0,0,0,0,0,0,0,0,0,0,0,0,0]),rfl,⟨omQ,omQ⟩,(Nat.lt_succ_self _),hM⟩ ?_
 clear hM
 rintro n1 S ⟨p1,rfl,hfa1,hm1,hM⟩
 replace hM:=aV hM (by omega) hf1;obtain ⟨ag1,hag1,hM⟩:=hM
 replace hfa1:=nzQ hfa1
 replace hm1:=nzQ hm1
 have ha1:ax .i64 p1.1 1=p1.1+1:=aZ omQ omQ
 refine aa ha1 ?_
 refine aB (fun h2=> ?_) (fun h2=> ?_)
 ·rw [if_pos h2] at hM
  refine aa (And.intro ha1 h2) ?_
  have nh2:=nzQ h2
  try have hr3:=mpQ nh2
  obtain ⟨ha4,hbha4⟩:=mq (a:=4) (b:=p1.1) 4 16 64 omQ omQ omQ omQ (by decide) (by decide)
  try simp only [ha4]
  have ha6:ax .i64 (4*p1.1) 4=((4*p1.1)+4):=ur omQ omQ
  try simp only [ha6]
  refine aP omQ ?_
  refine aa (And.intro ha1 (And.intro ha4 ha6)) ?_
  replace hM:=aU hM;obtain ⟨f7,d7,hf7,hd7,hM⟩:=hM
  refine a6 (fun n S=> ∃p:Int×(List Int),S=(⟨[(0,.sl none 1 false (block.map (V.int .u8))),(2,.ptr 0 0),(3,.ptr 1 0),(4,.int .i64 p1.1),(12,.int .i64 p1.1),(21,.sl none 1 false ((sl block (4*p1.1) ((4*p1.1)+4)).map (V.int .u8))),(22,.int .i64 ((sl block (4*p1.1) ((4*p1.1)+4)).length:Int)),(23,.int .i64 p.1)],[(0,.var 64 true (qP)),(1,.var 64 true ((mE p.2)))],2⟩:St)∧((0≤p.1)∧(p.1≤((sl block (4*p1.1) ((4*p1.1)+4)).length:Int)))∧(((sl block (4*p1.1) ((4*p1.1)+4)).length:Int) - p.1).toNat<n∧am n f7 d7 p=r) ((((sl block (4*p1.1) ((4*p1.1)+4)).length:Int) - 0).toNat+1) _ sbQ sbQ ⟨(0,p1.2),rfl,⟨omQ,omQ⟩,(Nat.lt_succ_self _),hM⟩ ?_
  clear hM
  rintro n7 S ⟨p7,rfl,hfa7,hm7,hM⟩
  replace hM:=aV hM (by omega) hf7;obtain ⟨ag7,hag7,hM⟩:=hM
  replace hfa7:=nzQ hfa7
  replace hm7:=nzQ hm7
  have ha7:ax .i64 p7.1 1=p7.1+1:=aZ omQ omQ
  refine aa (And.intro ha1 (And.intro ha4 (And.intro ha6 ha7))) ?_
  refine aB (fun h8=> ?_) (fun h8=> ?_)
  ·rw [if_pos h8] at hM
   refine aa (And.intro ha1 (And.intro ha4 (And.intro ha6 (And.intro ha7 h8)))) ?_
   have nh8:=nzQ h8
   try have hr9:=mpQ nh8
   refine aP omQ ?_
   have he10:=fun d=>bE (l:=(sl block (4*p1.1) ((4*p1.1)+4))) (f:=(V.int .u8)) (i:=p7.1) omQ d
   refine aa (And.intro ha1 (And.intro ha4 (And.intro ha6 (And.intro ha7 he10)))) ?_
   refine aP omQ ?_
   have he11:((p1.1).toNat*1+1≤64)=True:=eq_true omQ
   refine aa (And.intro ha1 (And.intro ha4 (And.intro ha6 (And.intro ha7 (And.intro he10 he11))))) ?_
   have he12:=jS (f:=(V.int .u32)) (l:=p7.2) (n:=64) (i:=p1.1) omQ
   replace he12:=spR he12
   try refine aa (And.intro ha1 (And.intro ha4 (And.intro ha6 (And.intro ha7 (And.intro he10 (And.intro he11 he12)))))) ?_
   refine aP omQ ?_
   have he13:((p1.1).toNat*1+1≤64)=True:=eq_true omQ
   refine aa (And.intro ha1 (And.intro ha4 (And.intro ha6 (And.intro ha7 (And.intro he10 (And.intro he11 (And.intro he12 he13))))))) ?_
   have he14:=qR (f:=(V.int .u32)) (l:=(bc 64 p7.2)) (n:=64) (i:=p1.1) (v:=(orI .u32 (aA .u32 (gt p7.2 p1.1) 8) (ae .u32 (gt (sl block (4*p1.1) ((4*p1.1)+4)) p7.1)))) ce omQ
   replace he14:=spR he14
   refine aa (And.intro ha1 (And.intro ha4 (And.intro ha6 (And.intro ha7 (And.intro he10 (And.intro he11 (And.intro he12 (And.intro he13 he14)))))))) ?_
   refine bM (n7 - 1) _ (by omega) sbQ (by simp only [go_sem,aE,aF,List.length_replicate,aD,Int.toNat_natCast,↓reduceIte,Nat.reduceEqDiff,Nat.reduceAdd,Int.reduceAdd,Nat.reduceMul,Nat.reduceLeDiff,Nat.reduceLT,Int.reduceLE,Int.reduceLT,Int.reduceNeg,Int.reduceToNat,List.isEmpty_nil,br,gz,g9,cJ,cK,mtO,mtB,mt,mtL,aL,aK,ltV,ltL,ltB,eq_self,or_true,true_or,or_self,and_self,bm,bn,Int.reduceSub]) ⟨((p7.1+1),(bc 64 (st (bc 64 p7.2) p1.1 (orI .u32 (aA .u32 (gt p7.2 p1.1) 8) (ae .u32 (gt (sl block (4*p1.1) ((4*p1.1)+4)) p7.1)))))),rfl,⟨omQ,omQ⟩,omQ,bI hM hag7⟩
  ·rw [if_neg (ap h8)] at hM
   refine aa (And.intro ha1 (And.intro ha4 (And.intro ha6 (And.intro ha7 h8)))) ?_
   have nh8:=nzQ h8
   try have hr15:=mpQ nh8
   refine bM (n1 - 1) _ (by omega) sbQ sbQ ⟨((p1.1+1),p7.2),rfl,⟨omQ,omQ⟩,omQ,bI hM hag1⟩
 ·rw [if_neg (ap h2)] at hM
  refine aa (And.intro ha1 h2) ?_
  have nh2:=nzQ h2
  try have hr16:=mpQ nh2
  replace hM:=aU hM;obtain ⟨f17,d17,hf17,hd17,hM⟩:=hM
  refine a6 (fun n S=> ∃p:Int×(List Int),S=(⟨[(2,.ptr 0 0),(3,.ptr 1 0),(7,.int .i64 p.1)],[(0,.var 64 true (qP)),(1,.var 64 true ((mE p.2)))],2⟩:St)∧((16≤p.1)∧(p.1≤64∨p.1≤16))∧((64:Int) - p.1).toNat<n∧am n f17 d17 p=r) (((64:Int) - 16).toNat+1) _ sbQ sbQ ⟨(16,p1.2),rfl,⟨omQ,omQ⟩,(Nat.lt_succ_self _),hM⟩ ?_
  clear hM
  rintro n17 S ⟨p17,rfl,hfa17,hm17,hM⟩
  replace hM:=aV hM (by omega) hf17;obtain ⟨ag17,hag17,hM⟩:=hM
  replace hfa17:=nzQ hfa17
  replace hm17:=nzQ hm17
  have ha17:ax .i64 p17.1 1=p17.1+1:=aZ omQ omQ
  refine aa (And.intro ha1 ha17) ?_
  refine aB (fun h18=> ?_) (fun h18=> ?_)
  ·rw [if_pos h18] at hM
   refine aa (And.intro ha1 (And.intro ha17 h18)) ?_
   have nh18:=nzQ h18
   try have hr19:=mpQ nh18
   refine bN 82 9 [8,42,43,44,45,46,47,48,49] [] ([[],[0],[0,1],[0,1,2],[],[4],[4,5],[4,5,6],[0,1,2,3]]++[List.range 9]) [] (by kernel_rfl) (by exact alQ) ?_
   refine aa (And.intro ha1 ha17) ?_
   have ha20:aG .i64 p17.1 15=(p17.1 - 15):=dl omQ omQ
   try simp only [ha20]
   refine b_ omQ ?_
   have he21:(((p17.1 - 15)).toNat*1+1≤64)=True:=eq_true omQ
   refine aa (And.intro ha1 (And.intro ha17 (And.intro ha20 he21))) ?_
   have he22:=jS (f:=(V.int .u32)) (l:=p17.2) (n:=64) (i:=(p17.1 - 15)) omQ
   replace he22:=spR he22
   try refine aa (And.intro ha1 (And.intro ha17 (And.intro ha20 (And.intro he21 he22)))) ?_
   have ha23:aG .i64 p17.1 2=(p17.1 - 2):=dl omQ omQ
   try simp only [ha23]
   refine b_ omQ ?_
   have he24:(((p17.1 - 2)).toNat*1+1≤64)=True:=eq_true omQ
   refine aa (And.intro ha1 (And.intro ha17 (And.intro ha20 (And.intro he21 (And.intro he22 (And.intro ha23 he24)))))) ?_
   have he25:=jS (f:=(V.int .u32)) (l:=p17.2) (n:=64) (i:=(p17.1 - 2)) omQ
   replace he25:=spR he25
   try refine aa (And.intro ha1 (And.intro ha17 (And.intro ha20 (And.intro he21 (And.intro he22 (And.intro ha23 (And.intro he24 he25))))))) ?_
   replace hM:=ao hM;obtain ⟨x26,hx27,hM⟩:=hM
   have hcx26:=cmU hx27
   refine aH hcx26 (aC (And.intro ha1 (And.intro ha17 (And.intro ha20 (And.intro he21 (And.intro he22 (And.intro ha23 (And.intro he24 he25)))))))) (aC (And.intro ha1 (And.intro ha17 (And.intro ha20 (And.intro he21 (And.intro he22 (And.intro ha23 (And.intro he24 he25)))))))) (fun hw28=> ?_)
   replace hw28:=nzQ hw28
   refine aa (And.intro ha1 (And.intro ha17 (And.intro ha20 (And.intro he21 (And.intro he22 (And.intro ha23 (And.intro he24 he25))))))) ?_
   replace hM:=ao hM;obtain ⟨x29,hx30,hM⟩:=hM
   have hcx29:=cmU hx30
   refine aH hcx29 (aC (And.intro ha1 (And.intro ha17 (And.intro ha20 (And.intro he21 (And.intro he22 (And.intro ha23 (And.intro he24 he25)))))))) (aC (And.intro ha1 (And.intro ha17 (And.intro ha20 (And.intro he21 (And.intro he22 (And.intro ha23 (And.intro he24 he25)))))))) (fun hw31=> ?_)
   replace hw31:=nzQ hw31
   refine aa (And.intro ha1 (And.intro ha17 (And.intro ha20 (And.intro he21 (And.intro he22 (And.intro ha23 (And.intro he24 he25))))))) ?_
   replace hM:=ao hM;obtain ⟨x32,hx33,hM⟩:=hM
   have hcx32:=cmU hx33
   refine aH hcx32 (aC (And.intro ha1 (And.intro ha17 (And.intro ha20 (And.intro he21 (And.intro he22 (And.intro ha23 (And.intro he24 he25)))))))) (aC (And.intro ha1 (And.intro ha17 (And.intro ha20 (And.intro he21 (And.intro he22 (And.intro ha23 (And.intro he24 he25)))))))) (fun hw34=> ?_)
   replace hw34:=nzQ hw34
   refine aa (And.intro ha1 (And.intro ha17 (And.intro ha20 (And.intro he21 (And.intro he22 (And.intro ha23 (And.intro he24 he25))))))) ?_
   replace hM:=ao hM;obtain ⟨x35,hx36,hM⟩:=hM
   have hcx35:=cmU hx36
   refine aH hcx35 (aC (And.intro ha1 (And.intro ha17 (And.intro ha20 (And.intro he21 (And.intro he22 (And.intro ha23 (And.intro he24 he25)))))))) (aC (And.intro ha1 (And.intro ha17 (And.intro ha20 (And.intro he21 (And.intro he22 (And.intro ha23 (And.intro he24 he25)))))))) (fun hw37=> ?_)
   replace hw37:=nzQ hw37
   refine aa (And.intro ha1 (And.intro ha17 (And.intro ha20 (And.intro he21 (And.intro he22 (And.intro ha23 (And.intro he24 he25))))))) ?_
   refine bN 82 14 [66,67,68,69,70,71,72,73,74,75,76,77,78,79] [] ([[],[],[1],[1,2],[1,2,3],[],[1,2,3,4,5],[],[7],[7,8],[7,8,9],[1,2,3,4,5,6,7,8,9,10],[],[1,2,3,4,5,6,7,8,9,10,11,12]]++[List.range 14,List.range 15]) [] (by kernel_rfl) (by exact alQ) ?_
   refine aa (And.intro ha1 (And.intro ha17 (And.intro ha20 (And.intro he21 (And.intro he22 (And.intro ha23 (And.intro he24 he25))))))) ?_
   have ha38:aG .i64 p17.1 16=(p17.1 - 16):=dl omQ omQ
   try simp only [ha38]
   refine b_ omQ ?_
   have he39:(((p17.1 - 16)).toNat*1+1≤64)=True:=eq_true omQ
   refine aa (And.intro ha1 (And.intro ha17 (And.intro ha20 (And.intro he21 (And.intro he22 (And.intro ha23 (And.intro he24 (And.intro he25 (And.intro ha38 he39))))))))) ?_
   have he40:=jS (f:=(V.int .u32)) (l:=p17.2) (n:=64) (i:=(p17.1 - 16)) omQ
   replace he40:=spR he40
   try refine aa (And.intro ha1 (And.intro ha17 (And.intro ha20 (And.intro he21 (And.intro he22 (And.intro ha23 (And.intro he24 (And.intro he25 (And.intro ha38 (And.intro he39 he40)))))))))) ?_
   have ha41:aG .i64 p17.1 7=(p17.1 - 7):=dl omQ omQ
   try simp only [ha41]
   refine b_ omQ ?_
   have he42:(((p17.1 - 7)).toNat*1+1≤64)=True:=eq_true omQ
   refine aa (And.intro ha1 (And.intro ha17 (And.intro ha20 (And.intro he21 (And.intro he22 (And.intro ha23 (And.intro he24 (And.intro he25 (And.intro ha38 (And.intro he39 (And.intro he40 (And.intro ha41 he42)))))))))))) ?_
   have he43:=jS (f:=(V.int .u32)) (l:=p17.2) (n:=64) (i:=(p17.1 - 7)) omQ
   replace he43:=spR he43
   try refine aa (And.intro ha1 (And.intro ha17 (And.intro ha20 (And.intro he21 (And.intro he22 (And.intro ha23 (And.intro he24 (And.intro he25 (And.intro ha38 (And.intro he39 (And.intro he40 (And.intro ha41 (And.intro he42 he43))))))))))))) ?_
   refine aP omQ ?_
   have he44:((p17.1).toNat*1+1≤64)=True:=eq_true omQ
   refine aa (And.intro ha1 (And.intro ha17 (And.intro ha20 (And.intro he21 (And.intro he22 (And.intro ha23 (And.intro he24 (And.intro he25 (And.intro ha38 (And.intro he39 (And.intro he40 (And.intro ha41 (And.intro he42 (And.intro he43 he44)))))))))))))) ?_
   have he45:=qR (f:=(V.int .u32)) (l:=(bc 64 p17.2)) (n:=64) (i:=p17.1) (v:=(ax .u32 (ax .u32 (ax .u32 (gt p17.2 (p17.1 - 16)) (cm .u32 (cm .u32 x26 x29) (ay .u32 (gt p17.2 (p17.1 - 15)) 3))) (gt p17.2 (p17.1 - 7))) (cm .u32 (cm .u32 x32 x35) (ay .u32 (gt p17.2 (p17.1 - 2)) 10)))) ce omQ
   replace he45:=spR he45
   refine aa (And.intro ha1 (And.intro ha17 (And.intro ha20 (And.intro he21 (And.intro he22 (And.intro ha23 (And.intro he24 (And.intro he25 (And.intro ha38 (And.intro he39 (And.intro he40 (And.intro ha41 (And.intro he42 (And.intro he43 (And.intro he44 he45))))))))))))))) ?_
   refine bM (n17 - 1) _ (by omega) sbQ (by simp only [go_sem,aE,aF,List.length_replicate,aD,Int.toNat_natCast,↓reduceIte,Nat.reduceEqDiff,Nat.reduceAdd,Int.reduceAdd,Nat.reduceMul,Nat.reduceLeDiff,Nat.reduceLT,Int.reduceLE,Int.reduceLT,Int.reduceNeg,Int.reduceToNat,List.isEmpty_nil,br,gz,g9,cJ,cK,mtO,mtB,mt,mtL,aL,aK,ltV,ltL,ltB,eq_self,or_true,true_or,or_self,and_self,bm,bn,Int.reduceSub]) ⟨((p17.1+1),(bc 64 (st (bc 64 p17.2) p17.1 (ax .u32 (ax .u32 (ax .u32 (gt p17.2 (p17.1 - 16)) (cm .u32 (cm .u32 x26 x29) (ay .u32 (gt p17.2 (p17.1 - 15)) 3))) (gt p17.2 (p17.1 - 7))) (cm .u32 (cm .u32 x32 x35) (ay .u32 (gt p17.2 (p17.1 - 2)) 10)))))),rfl,⟨omQ,omQ⟩,omQ,bI hM hag17⟩
  ·rw [if_neg (ap h18)] at hM
   refine aa (And.intro ha1 (And.intro ha17 h18)) ?_
   subst hM
   exact aw (az (And.intro ha1 (And.intro ha17 (And.intro h2 h18))))
set_option maxHeartbeats 2000000 in
set_option maxRecDepth 100000 in
theorem Jr (state:(List Int)) (block:(List Int)) (hp0:block.length=64):CM En (ve state block) 308 [(jR state),.sl none 1 false (block.map (V.int .u8))] (fun y=>(jR y)) (fun _=> []):=by
 refine cmQ fun r hM=> ?_
 rw [ve.eq_1] at hM
 refine av al ar noJ Tryz.func308 rfl Tryz.ntmps308 (by kernel_rfl) fun hw=>au ?_
 refine spQ ?_
 replace hw:=nzQ hw
 replace hM:=ao hM;obtain ⟨x1,hx2,hM⟩:=hM
 have hcx1:=cmH hx2 (Jq block (by (exact pfQ)))
 refine aH hcx1 clQ clQ (fun hw3=> ?_)
 replace hw3:=nzQ hw3
 refine spQ ?_
 refine bN 121 23 [6,7,8,9,10,11,12,21,22,23,24,25,26,27,28,29,30,31,32,33,34,35,36] [] ([[],[0],[],[2],[],[4],[],[6],[],[8],[],[10],[],[12],[],[14],[0,1],[2,3],[4,5],[6,7],[8,9],[10,11],[12,13]]++[List.range 23]) [] (by kernel_rfl) (by exact alQ) ?_
 refine spQ ?_
 replace hM:=aU hM;obtain ⟨f4,d4,hf4,hd4,hM⟩:=hM
 refine a6 (fun n S=> ∃p:Int×Int×Int×Int×Int×Int×Int×Int×Int,S=(⟨[(2,.ptr 0 0),(4,.ptr 1 0),(5,.ptr 2 0),(6,.int .u32 p.1),(7,.int .u32 p.2.1),(8,.int .u32 p.2.2.1),(9,.int .u32 p.2.2.2.1),(10,.int .u32 p.2.2.2.2.1),(11,.int .u32 p.2.2.2.2.2.1),(12,.int .u32 p.2.2.2.2.2.2.1),(13,.int .u32 p.2.2.2.2.2.2.2.1),(37,.int .i64 p.2.2.2.2.2.2.2.2)],[(0,.var 8 true ((jR state))),(1,.var 8 true (uR)),(2,.var 64 true ((mE x1)))],26⟩:St)∧((0≤p.2.2.2.2.2.2.2.2)∧(p.2.2.2.2.2.2.2.2≤64))∧((64:Int) - p.2.2.2.2.2.2.2.2).toNat<n∧am n f4 d4 p=r) (((64:Int) - 0).toNat+1) _ sbQ sbQ ⟨((gt state 0),(gt state 1),(gt state 2),(gt state 3),(gt state 4),(gt state 5),(gt state 6),(gt state 7),0),rfl,⟨omQ,omQ⟩,(Nat.lt_succ_self _),hM⟩ ?_
 clear hM
 rintro n4 S ⟨p4,rfl,hfa4,hm4,hM⟩
 replace hM:=aV hM (by omega) hf4;obtain ⟨ag4,hag4,hM⟩:=hM
 replace hfa4:=nzQ hfa4
 replace hm4:=nzQ hm4
 have ha4:ax .i64 p4.2.2.2.2.2.2.2.2 1=p4.2.2.2.2.2.2.2.2+1:=aZ omQ omQ
 refine aa ha4 ?_
 refine aB (fun h5=> ?_) (fun h5=> ?_)
 ·rw [if_pos h5] at hM
  refine aa (And.intro ha4 h5) ?_
  have nh5:=nzQ h5
  try have hr6:=mpQ nh5
  refine bN 121 26 [40,41,42,43,44,45,46,47,48,49,50,51,52,53,54,55,56,57,58,59,60,61,62,63,64,65] [] ([[],[],[1],[],[3],[1,2,3,4],[],[6],[1,2,3,4,5,6,7],[0,1,2,3,4,5,6,7,8],[],[],[10,11],[],[13],[],[13,14,15],[10,11,12,13,14,15,16],[0,1,2,3,4,5,6,7,8,9,10,11,12,13,14,15,16,17],[],[19],[19,20],[0,1,2,3,4,5,6,7,8,9,10,11,12,13,14,15,16,17,18,19,20,21],[],[23],[23,24]]++[List.range 26,List.range 27]) [] (by kernel_rfl) (by exact alQ) ?_
  refine aa ha4 ?_
  replace hM:=ao hM;obtain ⟨x7,hx8,hM⟩:=hM
  have hcx7:=cmU hx8
  refine bp hcx7 (aC ha4) (aC ha4) ?_
  refine aa ha4 ?_
  replace hM:=ao hM;obtain ⟨x9,hx10,hM⟩:=hM
  have hcx9:=cmU hx10
  refine bp hcx9 (aC ha4) (aC ha4) ?_
  refine aa ha4 ?_
  replace hM:=ao hM;obtain ⟨x11,hx12,hM⟩:=hM
  have hcx11:=cmU hx12
  refine bp hcx11 (aC ha4) (aC ha4) ?_
  refine aa ha4 ?_
  refine b_ omQ ?_
  refine aa ha4 ?_
  have he13:=oa (f:=V.int .u32) (l:=kR) (n:=64) (i:=p4.2.2.2.2.2.2.2.2) rfl omQ
  replace he13:=spR he13
  refine aa (And.intro ha4 he13) ?_
  refine b_ omQ ?_
  have he14:((p4.2.2.2.2.2.2.2.2).toNat*1+1≤64)=True:=eq_true omQ
  refine aa (And.intro ha4 (And.intro he13 he14)) ?_
  have he15:=jS (f:=(V.int .u32)) (l:=x1) (n:=64) (i:=p4.2.2.2.2.2.2.2.2) omQ
  replace he15:=spR he15
  try refine aa (And.intro ha4 (And.intro he13 (And.intro he14 he15))) ?_
  have hF:=(And.intro ha4 (And.intro h5 (And.intro he13 (And.intro he14 he15))))
  exact auQ
 ·rw [if_neg (ap h5)] at hM
  refine aa (And.intro ha4 h5) ?_
  have nh5:=nzQ h5
  try have hr25:=mpQ nh5
  replace hM:=aU hM;obtain ⟨f26,d26,hf26,hd26,hM⟩:=hM
  refine a6 (fun n S=> ∃p:Int×(List Int),S=(⟨[(2,.ptr 0 0),(4,.ptr 1 0),(108,.agg [.int .u32 p4.1,.int .u32 p4.2.1,.int .u32 p4.2.2.1,.int .u32 p4.2.2.2.1,.int .u32 p4.2.2.2.2.1,.int .u32 p4.2.2.2.2.2.1,.int .u32 p4.2.2.2.2.2.2.1,.int .u32 p4.2.2.2.2.2.2.2.1]),(109,.int .i64 p.1)],[(0,.var 8 true ((jR p.2))),(1,.var 8 true (uR))],26⟩:St)∧((0≤p.1)∧(p.1≤8))∧((8:Int) - p.1).toNat<n∧am n f26 d26 p=r) (((8:Int) - 0).toNat+1) _ sbQ sbQ ⟨(0,state),rfl,⟨omQ,omQ⟩,(Nat.lt_succ_self _),hM⟩ ?_
  clear hM
  rintro n26 S ⟨p26,rfl,hfa26,hm26,hM⟩
  replace hM:=aV hM (by omega) hf26;obtain ⟨ag26,hag26,hM⟩:=hM
  replace hfa26:=nzQ hfa26
  replace hm26:=nzQ hm26
  have ha26:ax .i64 p26.1 1=p26.1+1:=aZ omQ omQ
  refine aa (And.intro ha4 ha26) ?_
  refine aB (fun h27=> ?_) (fun h27=> ?_)
  ·rw [if_pos h27] at hM
   refine aa (And.intro ha4 (And.intro ha26 h27)) ?_
   have nh27:=nzQ h27
   try have hr28:=mpQ nh27
   have he29:=oa (f:=(V.int .u32)) (l:=([p4.1,p4.2.1,p4.2.2.1,p4.2.2.2.1,p4.2.2.2.2.1,p4.2.2.2.2.2.1,p4.2.2.2.2.2.2.1,p4.2.2.2.2.2.2.2.1]:List Int)) (n:=8) (i:=p26.1) rfl omQ
   replace he29:=spR he29
   refine aa (And.intro ha4 (And.intro ha26 he29)) ?_
   refine aP omQ ?_
   refine aa (And.intro ha4 (And.intro ha26 he29)) ?_
   refine aP omQ ?_
   have he30:((p26.1).toNat*1+1≤8)=True:=eq_true omQ
   refine aa (And.intro ha4 (And.intro ha26 (And.intro he29 he30))) ?_
   have he31:=jS (f:=(V.int .u32)) (l:=p26.2) (n:=8) (i:=p26.1) omQ
   replace he31:=spR he31
   try refine aa (And.intro ha4 (And.intro ha26 (And.intro he29 (And.intro he30 he31)))) ?_
   refine aP omQ ?_
   have he32:((p26.1).toNat*1+1≤8)=True:=eq_true omQ
   refine aa (And.intro ha4 (And.intro ha26 (And.intro he29 (And.intro he30 (And.intro he31 he32))))) ?_
   have he33:=qR (f:=(V.int .u32)) (l:=(bc 8 p26.2)) (n:=8) (i:=p26.1) (v:=(ax .u32 (gt p26.2 p26.1) (gt ([p4.1,p4.2.1,p4.2.2.1,p4.2.2.2.1,p4.2.2.2.2.1,p4.2.2.2.2.2.1,p4.2.2.2.2.2.2.1,p4.2.2.2.2.2.2.2.1]:List Int) p26.1))) ce omQ
   replace he33:=spR he33
   refine aa (And.intro ha4 (And.intro ha26 (And.intro he29 (And.intro he30 (And.intro he31 (And.intro he32 he33)))))) ?_
   refine bM (n26 - 1) _ (by omega) sbQ (by simp only [go_sem,aE,aF,List.length_replicate,aD,Int.toNat_natCast,↓reduceIte,Nat.reduceEqDiff,Nat.reduceAdd,Int.reduceAdd,Nat.reduceMul,Nat.reduceLeDiff,Nat.reduceLT,Int.reduceLE,Int.reduceLT,Int.reduceNeg,Int.reduceToNat,List.isEmpty_nil,br,gz,g9,cJ,cK,mtO,mtB,mt,mtL,aL,aK,ltV,ltL,ltB,eq_self,or_true,true_or,or_self,and_self,bm,bn,Int.reduceSub]) ⟨((p26.1+1),(bc 8 (st (bc 8 p26.2) p26.1 (ax .u32 (gt p26.2 p26.1) (gt ([p4.1,p4.2.1,p4.2.2.1,p4.2.2.2.1,p4.2.2.2.2.1,p4.2.2.2.2.2.1,p4.2.2.2.2.2.2.1,p4.2.2.2.2.2.2.2.1]:List Int) p26.1))))),rfl,⟨omQ,omQ⟩,omQ,bI hM hag26⟩
  ·rw [if_neg (ap h27)] at hM
   refine aa (And.intro ha4 (And.intro ha26 h27)) ?_
   subst hM
   exact aw (az (And.intro ha4 (And.intro ha26 (And.intro h5 h27))))
set_option maxHeartbeats 2000000 in
set_option maxRecDepth 100000 in
theorem AZ (b:(List Int)) (hp0:b.length≤1000000000):CM En (re b) 248 [.sl none 1 false (b.map (V.int .u8))] (fun y=>(aI y)) (fun _=> []):=by
 refine cmQ fun r hM=> ?_
 rw [re.eq_1] at hM
 refine av al ar [6] Tryz.func248 rfl Tryz.ntmps248 (by kernel_rfl) fun hw=>au ?_
 refine spQ ?_
 replace hw:=nzQ hw
 replace hM:=ao hM;obtain ⟨x1,hx2,hM⟩:=hM
 have hcx1:=wL none b
 rw [←hx2] at hcx1
 refine aH hcx1 clQ clQ (fun hw3=> ?_)
 replace hw3:=nzQ hw3
 refine spQ ?_
 have hq4:=nzQ (cfU hx2)
 refine aP omQ ?_
 refine spQ ?_
 replace hM:=aU hM;obtain ⟨f5,d5,hf5,hd5,hM⟩:=hM
 refine a6 (fun n S=> ∃p:List Int,S=(⟨[(0,.sl none 1 false (b.map (V.int .u8))),(2,.ptr 0 0),(3,.own 1)],[(0,.var 32 true (fJ)),(1,.own 5 1 false none (p.map (V.int .u8)))],3⟩:St)∧((((p).length:Int)+(56 - ((p).length:Int))% 64≤(b.length:Int)+65))∧((56 - ((p).length:Int))% 64).toNat<n∧am n f5 d5 p=r) (((56 - (((x1++([128]:List Int))).length:Int))% 64).toNat+1) _ sbQ sbQ ⟨(x1++([128]:List Int)),rfl,omQ,(Nat.lt_succ_self _),hM⟩ ?_
 clear hM
 rintro n5 S ⟨p5,rfl,hfa5,hm5,hM⟩
 replace hM:=aV hM (by omega) hf5;obtain ⟨ag5,hag5,hM⟩:=hM
 replace hfa5:=nzQ hfa5
 replace hm5:=nzQ hm5
 refine spQ ?_
 refine aP omQ ?_
 refine spQ ?_
 refine aB (fun h6=> ?_) (fun h6=> ?_)
 ·rw [if_pos h6] at hM
  refine aa h6 ?_
  have nh6:=nzQ h6
  try have hr7:=mpQ nh6
  have hF:=h6
  exact auQ
 ·rw [if_neg (ap h6)] at hM
  refine aa h6 ?_
  have nh6:=nzQ h6
  try have hr8:=mpQ nh6
  replace hM:=ao hM;obtain ⟨x9,hx10,hM⟩:=hM
  have hcx9:=cmU hx10
  refine aH hcx9 clQ clQ (fun hw11=> ?_)
  replace hw11:=nzQ hw11
  refine spQ ?_
  have hq12:=nzQ (cfU hx10)
  refine aP omQ ?_
  refine spQ ?_
  refine gy ?_
  try refine spQ ?_
  refine g8 _ (⟨[(2,.ptr 0 0),(3,.sl (gR (x9.map (V.int .u8))) 1 false ((p5++x9).map (V.int .u8))),(4,.ptr 3 0)],[(0,.var 32 true (fJ)),(1,.pown 1 false (gR (x9.map (V.int .u8))) ((p5++x9).map (V.int .u8))),(3,.var 8 true (.agg [.int .u32 1779033703,.int .u32 3144134277,.int .u32 1013904242,.int .u32 2773480762,.int .u32 1359893119,.int .u32 2600822924,.int .u32 528734635,.int .u32 1541459225]))],4⟩:St) ((nP (S:=⟨_,_,_⟩) 1 (T:=5) (n:=1) (g:=false) (z:=(gR (x9.map (V.int .u8)))) (l:=(p5++x9).map (V.int .u8)) clQ).trans (ut (S:=⟨_,_,_⟩) 3 1 (n:=1) (g:=false) (z:=(gR (x9.map (V.int .u8)))) (l:=(p5++x9).map (V.int .u8)) clQ clQ)) sbQ sbQ ?_
  try refine spQ ?_
  replace hM:=aU hM;obtain ⟨f13,d13,hf13,hd13,hM⟩:=hM
  refine a6 (fun n S=> ∃p:List Int×(List Int),S=(⟨[(2,.ptr 0 0),(3,.sl none 1 false (p.1.map (V.int .u8))),(4,.ptr 3 0)],[(0,.var 32 true (fJ)),(3,.var 8 true ((jR p.2)))],4⟩:St)∧((((p.1).length:Int)% 64=0))∧(p.1).length<n∧am n f13 d13 p=r) (((p5++x9)).length+1) _ sbQ (by simp only [go_sem,aE,aF,List.length_replicate,aD,Int.toNat_natCast,↓reduceIte,Nat.reduceEqDiff,Nat.reduceAdd,Int.reduceAdd,Nat.reduceMul,Nat.reduceLeDiff,Nat.reduceLT,Int.reduceLE,Int.reduceLT,Int.reduceNeg,Int.reduceToNat,List.isEmpty_nil,br,gz,g9,cJ,cK,mtO,mtB,mt,mtL,aL,aK,ltV,ltL,ltB,eq_self,or_true,true_or,or_self,and_self,bm,bn,Int.reduceSub]) ⟨((p5++x9),[1779033703,3144134277,1013904242,2773480762,1359893119,2600822924,528734635,1541459225]),rfl,omQ,(Nat.lt_succ_self _),hM⟩ ?_
  clear hM
  rintro n13 S ⟨p13,rfl,hfa13,hm13,hM⟩
  replace hM:=aV hM (by omega) hf13;obtain ⟨ag13,hag13,hM⟩:=hM
  replace hfa13:=nzQ hfa13
  replace hm13:=nzQ hm13
  refine spQ ?_
  refine aB (fun h14=> ?_) (fun h14=> ?_)
  ·rw [if_pos h14] at hM
   refine aa h14 ?_
   have nh14:=nzQ h14
   try have hr15:=mpQ nh14
   refine bN 59 3 [33,34,35] [] ([[],[],[1]]++[List.range 3,List.range 4]) [] (by kernel_rfl) (by exact alQ) ?_
   refine spQ ?_
   refine b_ omQ ?_
   refine spQ ?_
   replace hM:=ao hM;obtain ⟨x16,hx17,hM⟩:=hM
   have hcx16:=cmH hx17 (Jr (p13.2) (sl p13.1 0 64) (by (exact pfQ)))
   refine aH hcx16 clQ clQ (fun hw18=> ?_)
   replace hw18:=nzQ hw18
   refine spQ ?_
   have hF:=(And.intro h6 h14)
   exact auQ
  ·rw [if_neg (ap h14)] at hM
   refine aa h14 ?_
   have nh14:=nzQ h14
   try have hr19:=mpQ nh14
   replace hM:=aU hM;obtain ⟨f20,d20,hf20,hd20,hM⟩:=hM
   refine a6 (fun n S=> ∃p:Int×(List Int),S=(⟨[(2,.ptr 0 0),(5,.ptr 4 0),(37,(jR p13.2)),(38,.int .i64 p.1)],[(0,.var 32 true (fJ)),(4,.var 32 true ((aI p.2)))],5⟩:St)∧((0≤p.1)∧(p.1≤8))∧((8:Int) - p.1).toNat<n∧am n f20 d20 p=r) (((8:Int) - 0).toNat+1) _ sbQ (by simp only [go_sem,aE,aF,List.length_replicate,aD,Int.toNat_natCast,↓reduceIte,Nat.reduceEqDiff,Nat.reduceAdd,Int.reduceAdd,Nat.reduceMul,Nat.reduceLeDiff,Nat.reduceLT,Int.reduceLE,Int.reduceLT,Int.reduceNeg,Int.reduceToNat,List.isEmpty_nil,br,gz,g9,cJ,cK,mtO,mtB,mt,mtL,aL,aK,ltV,ltL,ltB,eq_self,or_true,true_or,or_self,and_self,bm,bn,Int.reduceSub]) ⟨(0,[0,0,0,0,0,0,0,0,0,0,0,0,0,0,0,0,0,0,0,0,0,0,0,0,0,0,0,0,0,0,0,0]),rfl,⟨omQ,omQ⟩,(Nat.lt_succ_self _),hM⟩ ?_
   clear hM
   rintro n20 S ⟨p20,rfl,hfa20,hm20,hM⟩
   replace hM:=aV hM (by omega) hf20;obtain ⟨ag20,hag20,hM⟩:=hM
   replace hfa20:=nzQ hfa20
   replace hm20:=nzQ hm20
   have ha20:ax .i64 p20.1 1=p20.1+1:=aZ omQ omQ
   refine aa ha20 ?_
   refine aB (fun h21=> ?_) (fun h21=> ?_)
   ·rw [if_pos h21] at hM
    refine aa (And.intro ha20 h21) ?_
    have nh21:=nzQ h21
    try have hr22:=mpQ nh21
    have he23:=G_ (f:=(V.int .u32)) (l:=p13.2) (n:=8) (i:=p20.1) omQ
    replace he23:=spR he23
    refine aa (And.intro ha20 he23) ?_
    refine aP omQ ?_
    refine aa (And.intro ha20 he23) ?_
    replace hM:=aU hM;obtain ⟨f24,d24,hf24,hd24,hM⟩:=hM
    refine a6 (fun n S=> ∃p:Int×(List Int),S=(⟨[(2,.ptr 0 0),(5,.ptr 4 0),(6,.int .i64 p20.1),(7,.int .u32 (gt p13.2 p20.1)),(37,(jR p13.2)),(38,.int .i64 p20.1),(42,.int .i64 p.1)],[(0,.var 32 true (fJ)),(4,.var 32 true ((aI p.2)))],5⟩:St)∧((0≤p.1)∧(p.1≤4))∧((4:Int) - p.1).toNat<n∧am n f24 d24 p=r) (((4:Int) - 0).toNat+1) _ sbQ sbQ ⟨(0,p20.2),rfl,⟨omQ,omQ⟩,(Nat.lt_succ_self _),hM⟩ ?_
    clear hM
    rintro n24 S ⟨p24,rfl,hfa24,hm24,hM⟩
    replace hM:=aV hM (by omega) hf24;obtain ⟨ag24,hag24,hM⟩:=hM
    replace hfa24:=nzQ hfa24
    replace hm24:=nzQ hm24
    have ha24:ax .i64 p24.1 1=p24.1+1:=aZ omQ omQ
    refine aa (And.intro ha20 (And.intro he23 ha24)) ?_
    refine aB (fun h25=> ?_) (fun h25=> ?_)
    ·rw [if_pos h25] at hM
     refine aa (And.intro ha20 (And.intro he23 (And.intro ha24 h25))) ?_
     have nh25:=nzQ h25
     try have hr26:=mpQ nh25
     obtain ⟨ha27,hbha27⟩:=mq (a:=4) (b:=p20.1) 8 64 512 omQ omQ omQ omQ (by decide) (by decide)
     try simp only [ha27]
     have ha28:ax .i64 (4*p20.1) p24.1=((4*p20.1)+p24.1):=ur omQ omQ
     try simp only [ha28]
     obtain ⟨ha29,hbha29⟩:=mq (a:=8) (b:=p24.1) 8 64 512 omQ omQ omQ omQ (by decide) (by decide)
     try simp only [ha29]
     have ha30:aG .i64 24 (8*p24.1)=(24 - (8*p24.1)):=dl omQ omQ
     try simp only [ha30]
     refine aP omQ ?_
     refine aa (And.intro ha20 (And.intro he23 (And.intro ha24 (And.intro ha27 (And.intro ha28 (And.intro ha29 ha30)))))) ?_
     refine aP omQ ?_
     have he31:((((4*p20.1)+p24.1)).toNat*1+1≤32)=True:=eq_true omQ
     refine aa (And.intro ha20 (And.intro he23 (And.intro ha24 (And.intro ha27 (And.intro ha28 (And.intro ha29 (And.intro ha30 he31))))))) ?_
     have he32:=qR (f:=(V.int .u8)) (l:=(bc 32 p24.2)) (n:=32) (i:=((4*p20.1)+p24.1)) (v:=(ae .u8 (ay .u32 (gt p13.2 p20.1) (24 - (8*p24.1))))) ce omQ
     replace he32:=spR he32
     refine aa (And.intro ha20 (And.intro he23 (And.intro ha24 (And.intro ha27 (And.intro ha28 (And.intro ha29 (And.intro ha30 (And.intro he31 he32)))))))) ?_
     refine bM (n24 - 1) _ (by omega) sbQ (by simp only [go_sem,aE,aF,List.length_replicate,aD,Int.toNat_natCast,↓reduceIte,Nat.reduceEqDiff,Nat.reduceAdd,Int.reduceAdd,Nat.reduceMul,Nat.reduceLeDiff,Nat.reduceLT,Int.reduceLE,Int.reduceLT,Int.reduceNeg,Int.reduceToNat,List.isEmpty_nil,br,gz,g9,cJ,cK,mtO,mtB,mt,mtL,aL,aK,ltV,ltL,ltB,eq_self,or_true,true_or,or_self,and_self,bm,bn,Int.reduceSub]) ⟨((p24.1+1),(bc 32 (st (bc 32 p24.2) ((4*p20.1)+p24.1) (ae .u8 (ay .u32 (gt p13.2 p20.1) (24 - (8*p24.1))))))),rfl,⟨omQ,omQ⟩,omQ,bI hM hag24⟩
    ·rw [if_neg (ap h25)] at hM
     refine aa (And.intro ha20 (And.intro he23 (And.intro ha24 h25))) ?_
     have nh25:=nzQ h25
     try have hr33:=mpQ nh25
     refine bM (n20 - 1) _ (by omega) sbQ sbQ ⟨((p20.1+1),p24.2),rfl,⟨omQ,omQ⟩,omQ,bI hM hag20⟩
   ·rw [if_neg (ap h21)] at hM
    refine aa (And.intro ha20 h21) ?_
    subst hM
    exact aw (az (And.intro ha20 (And.intro h6 (And.intro h14 h21))))
end Go.Proofs.YtcbbjfckokckcaaGreatDoor
