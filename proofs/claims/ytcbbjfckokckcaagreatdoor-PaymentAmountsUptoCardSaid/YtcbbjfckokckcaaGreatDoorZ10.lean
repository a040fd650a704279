/- Texts of this proof, one after the other: U3. -/
import Derived.Test.YtcbbjfckokckcaaGreatDoorZ9
set_option linter.unusedVariables false
set_option linter.unusedSimpArgs false
namespace Go.Proofs.YtcbbjfckokckcaaGreatDoor
open Go.RowKit
set_option linter.unusedSimpArgs false
set_option maxHeartbeats 2000000 in
set_option maxRecDepth 100000 in
theorem iC (tag:(List UInt8)) (b:(List Int)) (hp0:b.length≤900000000):CM En (fR tag b) 189 [.str tag,.sl none 1 false (b.map (V.int .u8))] (fun y=> .tup [(aI y.1),.int .i64 y.2]) (fun _=> []):=by
 refine cmQ fun r hM=> ?_
 rw [fR.eq_1] at hM
 refine av al ar [4] Tryz.func189 rfl Tryz.ntmps189 (by kernel_rfl) fun hw=>au ?_
 refine spQ ?_
 replace hw:=nzQ hw
 refine cr (fun h1=> ?_) (fun h1=> ?_)
 ·rw [if_neg (ap h1)] at hM
  refine aa h1 ?_
  have nh1:=nzQ h1
  try have hr2:=mpQ nh1
  refine aB (fun h3=> ?_) (fun h3=> ?_)
  ·rw [if_pos h3] at hM
   refine aa h3 ?_
   subst hM
   exact aw (az (And.intro h1 h3))
  ·rw [if_neg (ap h3)] at hM
   refine aa h3 ?_
   have nh3:=nzQ h3
   try have hr5:=mpQ nh3
   refine gy ?_
   try refine spQ ?_
   replace hM:=ao hM;obtain ⟨x6,hx7,hM⟩:=hM
   have hcx6:=cmH hx7 (AZ (gx tag) (by (exact pfQ)))
   refine gZ hcx6 clQ clQ (fun hw8=> ?_)
   replace hw8:=nzQ hw8
   refine spQ ?_
   refine g8 _ (⟨[(1,.sl none 1 false (b.map (V.int .u8))),(4,.ptr 0 0),(6,.ptr 2 0)],[(0,.var 32 true (fJ)),(2,.pvar 32 true ((aI x6)))],3⟩:St) (g7 (S:=⟨_,_,_⟩) 2 (n:=32) (g:=true) (d:=(aI x6)) clQ clQ) sbQ sbQ ?_
   try refine spQ ?_
   refine bN 26 5 [19,20,21,22,23] [] ([[],[0],[],[0,1,2],[]]++[List.range 5,List.range 6,List.range 7,List.range 8]) [(3,4)] (by kernel_rfl) (by exact alQ) ?_
   refine spQ ?_
   replace hM:=ao hM;obtain ⟨x9,hx10,hM⟩:=hM
   have hcx9:=wL (some false) (bc 32 x6)
   rw [←hx10] at hcx9
   refine Fj hcx9 clQ clQ ?_
   refine spQ ?_
   have hq11:=nzQ (cfU hx10)
   refine nH omQ clQ ?_
   refine spQ ?_
   refine aP omQ ?_
   refine spQ ?_
   replace hM:=ao hM;obtain ⟨x12,hx13,hM⟩:=hM
   have hcx12:=cmH hx13 (AZ ((x9++(bc 32 x6))++b) (by (exact pfQ)))
   refine gZ hcx12 clQ clQ (fun hw14=> ?_)
   replace hw14:=nzQ hw14
   refine spQ ?_
   subst hM
   exact aw (az (And.intro h1 h3))
 ·rw [if_pos h1] at hM
  refine aa h1 ?_
  subst hM
  exact aw (az h1)
set_option maxHeartbeats 2000000 in
set_option maxRecDepth 100000 in
instance NQ (a_:Int) (b:Int) (m:Int):CM En (rf a_ b m) 296 [.int .i64 a_,.int .i64 b,.int .i64 m] (fun y=> .tup [.int .i64 y.1,.int .i64 y.2]) (fun _=> []):=by
 refine cmQ fun r hM=> ?_
 rw [rf.eq_1] at hM
 refine av al ar noJ Tryz.func296 rfl Tryz.ntmps296 (by kernel_rfl) fun hw=>au ?_
 refine spQ ?_
 replace hw:=nzQ hw
 have hF:=aW
 exact auQ
set_option maxHeartbeats 2000000 in
set_option maxRecDepth 100000 in
instance NR (h_:(List Int)) (m:Int):CM En (ov h_ m) 238 [(aI h_),.int .i64 m] (fun y=> .tup [.int .i64 y.1,.int .i64 y.2]) (fun _=> []):=by
 refine cmQ fun r hM=> ?_
 rw [ov.eq_1] at hM
 refine av al ar noJ Tryz.func238 rfl Tryz.ntmps238 (by kernel_rfl) fun hw=>au ?_
 refine spQ ?_
 replace hw:=nzQ hw
 refine cr (fun h1=> ?_) (fun h1=> ?_)
 ·rw [if_neg (ap h1)] at hM
  refine aa h1 ?_
  have nh1:=nzQ h1
  try have hr2:=mpQ nh1
  refine aB (fun h3=> ?_) (fun h3=> ?_)
  ·rw [if_pos h3] at hM
   refine aa h3 ?_
   subst hM
   exact aw (az (And.intro h1 h3))
  ·rw [if_neg (ap h3)] at hM
   refine aa h3 ?_
   have nh3:=nzQ h3
   try have hr5:=mpQ nh3
   replace hM:=aU hM;obtain ⟨f6,d6,hf6,hd6,hM⟩:=hM
   refine a6 (fun n S=> ∃p:Int×Int,S=(⟨[(1,.int .i64 m),(6,.int .i64 p.1),(15,.sl (some false) 1 false (([(gt h_ 0),(gt h_ 1),(gt h_ 2),(gt h_ 3),(gt h_ 4),(gt h_ 5),(gt h_ 6),(gt h_ 7),(gt h_ 8),(gt h_ 9),(gt h_ 10),(gt h_ 11),(gt h_ 12),(gt h_ 13),(gt h_ 14),(gt h_ 15)]:List Int).map (V.int .u8))),(16,.int .i64 (16:Int)),(17,.int .i64 p.2)],[],1⟩:St)∧((0≤p.2)∧(p.2≤(16:Int)))∧((16:Int) - p.2).toNat<n∧am n f6 d6 p=r) (((16:Int) - 0).toNat+1) _ sbQ sbQ ⟨(0,0),rfl,⟨omQ,omQ⟩,(Nat.lt_succ_self _),hM⟩ ?_
   clear hM
   rintro n6 S ⟨p6,rfl,hfa6,hm6,hM⟩
   replace hM:=aV hM (by omega) hf6;obtain ⟨ag6,hag6,hM⟩:=hM
   replace hfa6:=nzQ hfa6
   replace hm6:=nzQ hm6
   have ha6:ax .i64 p6.2 1=p6.2+1:=aZ omQ omQ
   refine aa ha6 ?_
   refine aB (fun h7=> ?_) (fun h7=> ?_)
   ·rw [if_pos h7] at hM
    refine aa (And.intro ha6 h7) ?_
    have nh7:=nzQ h7
    try have hr8:=mpQ nh7
    refine aP omQ ?_
    have he9:=fun d=>bE (l:=([(gt h_ 0),(gt h_ 1),(gt h_ 2),(gt h_ 3),(gt h_ 4),(gt h_ 5),(gt h_ 6),(gt h_ 7),(gt h_ 8),(gt h_ 9),(gt h_ 10),(gt h_ 11),(gt h_ 12),(gt h_ 13),(gt h_ 14),(gt h_ 15)]:List Int)) (f:=(V.int .u8)) (i:=p6.2) omQ d
    refine aa (And.intro ha6 he9) ?_
    replace hM:=aU hM;obtain ⟨f10,d10,hf10,hd10,hM⟩:=hM
    refine a6 (fun n S=> ∃p:Int×Int,S=(⟨[(1,.int .i64 m),(6,.int .i64 p.1),(8,.int .u8 (gt ([(gt h_ 0),(gt h_ 1),(gt h_ 2),(gt h_ 3),(gt h_ 4),(gt h_ 5),(gt h_ 6),(gt h_ 7),(gt h_ 8),(gt h_ 9),(gt h_ 10),(gt h_ 11),(gt h_ 12),(gt h_ 13),(gt h_ 14),(gt h_ 15)]:List Int) p6.2)),(15,.sl (some false) 1 false (([(gt h_ 0),(gt h_ 1),(gt h_ 2),(gt h_ 3),(gt h_ 4),(gt h_ 5),(gt h_ 6),(gt h_ 7),(gt h_ 8),(gt h_ 9),(gt h_ 10),(gt h_ 11),(gt h_ 12),(gt h_ 13),(gt h_ 14),(gt h_ 15)]:List Int).map (V.int .u8))),(16,.int .i64 (16:Int)),(17,.int .i64 p6.2),(21,.int .i64 p.2)],[],1⟩:St)∧((0≤p.2)∧(p.2≤8))∧((8:Int) - p.2).toNat<n∧am n f10 d10 p=r) (((8:Int) - 0).toNat+1) _ sbQ sbQ ⟨(p6.1,0),rfl,⟨omQ,omQ⟩,(Nat.lt_succ_self _),hM⟩ ?_
    clear hM
    rintro n10 S ⟨p10,rfl,hfa10,hm10,hM⟩
    replace hM:=aV hM (by omega) hf10;obtain ⟨ag10,hag10,hM⟩:=hM
    replace hfa10:=nzQ hfa10
    replace hm10:=nzQ hm10
    have ha10:ax .i64 p10.2 1=p10.2+1:=aZ omQ omQ
    refine aa (And.intro ha6 (And.intro he9 ha10)) ?_
    have hF:=(And.intro h1 (And.intro h3 (And.intro ha6 (And.intro h7 (And.intro he9 ha10)))))
    exact auQ
   ·rw [if_neg (ap h7)] at hM
    refine aa (And.intro ha6 h7) ?_
    subst hM
    exact aw (az (And.intro ha6 (And.intro h1 (And.intro h3 h7))))
 ·rw [if_pos h1] at hM
  refine aa h1 ?_
  subst hM
  exact aw (az h1)
set_option maxHeartbeats 2000000 in
set_option maxRecDepth 100000 in
instance NS (b:a8) (pseudonym:Int) (root:(List Int)) (s:ia):CM En (vf b pseudonym root s) 291 [(bS b),.int .i64 pseudonym,(aI root),.agg [.int .i64 s.Z,.int .i64 s.A,.int .i64 s.B,.int .i64 s.R]] (fun y=> .tup [.int .i64 y.1,.int .i64 y.2]) (fun _=> []):=by
 refine cmQ fun r hM=> ?_
 rw [vf.eq_1] at hM
 refine av al ar [11,12] Tryz.func291 rfl Tryz.ntmps291 (by kernel_rfl) fun hw=>au ?_
 refine spQ ?_
 replace hw:=nzQ hw
 replace hM:=ao hM;obtain ⟨x1,hx2,hM⟩:=hM
 have hcx1:=cmU hx2
 refine aH hcx1 clQ clQ (fun hw3=> ?_)
 replace hw3:=nzQ hw3
 refine spQ ?_
 refine aB (fun h4=> ?_) (fun h4=> ?_)
 ·rw [if_pos h4] at hM
  refine aa h4 ?_
  subst hM
  exact aw (az h4)
 ·rw [if_neg (ap h4)] at hM
  refine aa h4 ?_
  have nh4:=nzQ h4
  try have hr6:=mpQ nh4
  replace hM:=ao hM;obtain ⟨x7,hx8,hM⟩:=hM
  have hcx7:=cmU hx8
  refine gZ hcx7 clQ clQ (fun hw9=> ?_)
  replace hw9:=nzQ hw9
  refine spQ ?_
  refine aB (fun h10=> ?_) (fun h10=> ?_)
  ·rw [if_pos h10] at hM
   refine aa h10 ?_
   subst hM
   exact aw (az (And.intro h4 h10))
  ·rw [if_neg (ap h10)] at hM
   refine aa h10 ?_
   have nh10:=nzQ h10
   try have hr12:=mpQ nh10
   refine gy ?_
   try refine spQ ?_
   replace hM:=aU hM;obtain ⟨f13,d13,hf13,hd13,hM⟩:=hM
   refine fC (fun n S=> ∃p:Int×List ak,S=(⟨[(4,.ptr 0 0),(6,.ptr 1 0),(7,.ptr 2 0),(10,.ptr 4 0),(49,.own 5),(50,.int .i64 (7:Int)),(51,.int .i64 p.1)],[(0,.var 6 true ((bS b))),(1,.var 32 true ((aI root))),(2,.var 4 true (.agg [.int .i64 s.Z,.int .i64 s.A,.int .i64 s.B,.int .i64 s.R])),(4,.var 4 true (.agg [.int .i64 3,.int .i64 0,.sl (some true) 1 false [],.own 6])),(5,.own 3 1 false (some false) (([b.Group.P,b.Group.Q,b.Group.G,b.G1,b.G2,b.H,pseudonym]:List Int).map (V.int .i64))),(6,.own 170 4 true none (p.2.map a7))],7⟩:St)∧(((0≤p.1)∧(p.1≤(7:Int))∧(((p.2).length:Int)≤p.1))∧(bK (p.2)=(p.2).length))∧((7:Int) - p.1).toNat<n∧am n f13 d13 p=r) (((7:Int) - 0).toNat+1) _ _ (qF 4 3 170 rfl rfl (by decide)) sbQ sbQ ⟨(0,([]:List ak)),rfl,⟨⟨omQ,omQ,omQ⟩,by (rfl)⟩,(Nat.lt_succ_self _),hM⟩ ?_
   clear hM
   rintro n13 S ⟨p13,rfl,⟨hfa13,hF7_0⟩,hm13,hM⟩
   replace hM:=aV hM (by omega) hf13;obtain ⟨ag13,hag13,hM⟩:=hM
   replace hfa13:=nzQ hfa13
   replace hm13:=nzQ hm13
   have ha13:ax .i64 p13.1 1=p13.1+1:=aZ omQ omQ
   refine aa ha13 ?_
   refine aB (fun h14=> ?_) (fun h14=> ?_)
   ·rw [if_pos h14] at hM
    refine aa (And.intro ha13 h14) ?_
    have nh14:=nzQ h14
    try have hr15:=mpQ nh14
    refine aP omQ ?_
    have he16:=fun d=>bE (l:=([b.Group.P,b.Group.Q,b.Group.G,b.G1,b.G2,b.H,pseudonym]:List Int)) (f:=(V.int .i64)) (i:=p13.1) omQ d
    refine aa (And.intro ha13 he16) ?_
    refine aP omQ ?_
    refine aa (And.intro ha13 he16) ?_
    refine bN 102 5 [55,56,57,58,59] [] ([[],[0],[],[2],[2,3]]++[List.range 5,List.range 6,List.range 7]) [] (by kernel_rfl) (by exact alQ) ?_
    refine aa (And.intro ha13 he16) ?_
    replace hM:=ao hM;obtain ⟨x17,hx18,hM⟩:=hM
    have hcx17:=cmU hx18
    refine bp hcx17 (aC (And.intro ha13 he16)) (aC (And.intro ha13 he16)) ?_
    refine aa (And.intro ha13 he16) ?_
    have hq19:=rM hx18
    replace hq19:=nzQ hq19
    refine aP omQ ?_
    refine aa (And.intro ha13 he16) ?_
    refine bM (n13 - 1) _ (by omega) sbQ sbQ ⟨((p13.1+1),(p13.2++([x17]:List ak))),rfl,⟨⟨omQ,omQ,omQ⟩,by (clear hM;simp only [oK,bK,List.length_append,List.length_cons,List.length_nil];omega)⟩,omQ,bI hM hag13⟩
   ·rw [if_neg (ap h14)] at hM
    refine aa (And.intro ha13 h14) ?_
    have nh14:=nzQ h14
    try have hr20:=mpQ nh14
    refine g8 _ (⟨[(4,.ptr 0 0),(6,.ptr 1 0),(7,.ptr 2 0),(10,.ptr 4 0)],[(0,.var 6 true ((bS b))),(1,.pvar 32 true ((aI root))),(2,.var 4 true (.agg [.int .i64 s.Z,.int .i64 s.A,.int .i64 s.B,.int .i64 s.R])),(4,.var 4 true (.agg [.int .i64 3,.int .i64 0,.sl (some true) 1 false [],.own 6])),(6,.own 170 4 true none (p13.2.map a7))],7⟩:St) (g7 (S:=⟨_,_,_⟩) 1 (n:=32) (g:=true) (d:=(aI root)) (aC ha13) (aC ha13)) sbQ sbQ ?_
    try refine aa ha13 ?_
    refine gy ?_
    try refine aa ha13 ?_
    refine bN 102 14 [63,64,65,66,67,68,69,70,71,72,73,74,75,76] [] ([[],[0],[],[2],[],[4],[4,5],[],[7],[7,8],[],[10],[10,11],[2,3,4,5,6,7,8,9,10,11,12]]++[List.range 14,List.range 15,List.range 16]) [] (by kernel_rfl) (by exact alQ) ?_
    refine aa ha13 ?_
    replace hM:=ao hM;obtain ⟨x21,hx22,hM⟩:=hM
    have hcx21:=cmU hx22
    refine bp hcx21 (aC ha13) (aC ha13) ?_
    refine aa ha13 ?_
    have hq23:=rM hx22
    replace hq23:=nzQ hq23
    replace hM:=ao hM;obtain ⟨x24,hx25,hM⟩:=hM
    have hcx24:=cmU hx25
    refine bp hcx24 (aC ha13) (aC ha13) ?_
    refine aa ha13 ?_
    have hq26:=rM hx25
    replace hq26:=nzQ hq26
    replace hM:=ao hM;obtain ⟨x27,hx28,hM⟩:=hM
    have hcx27:=cmU hx28
    refine bp hcx27 (aC ha13) (aC ha13) ?_
    refine aa ha13 ?_
    have hq29:=rM hx28
    replace hq29:=nzQ hq29
    refine aP omQ ?_
    refine aa ha13 ?_
    refine Gr (⟨[(4,.ptr 0 0),(10,.ptr 4 0)],[(0,.var 6 true ((bS b))),(4,.var 4 true (.agg [.int .i64 3,.int .i64 0,.sl (some true) 1 false [],.own 6])),(6,.own 170 4 true (some false) ((p13.2++([({Kind:=2,N:=0,B:=(bc 32 root),L:=([]:List ak)}:ak),x21,x24,x27]:List ak)).map a7))],21⟩:St) sbQ sbQ ?_
    try refine aa ha13 ?_
    replace hM:=ao hM;obtain ⟨x30,hx31,hM⟩:=hM
    have hcx30:=cmH hx31 (km ({Kind:=3,N:=0,B:=([]:List Int),L:=(p13.2++([({Kind:=2,N:=0,B:=(bc 32 root),L:=([]:List ak)}:ak),x21,x24,x27]:List ak))}:ak) (by (simp only [hgt,oK,bK,ce,List.length_nil];omega)))
    refine nQ hcx30 (jL 6 (T:=170) (n:=4) (g:=true) (z:=(some false)) (l:=(p13.2++([({Kind:=2,N:=0,B:=(bc 32 root),L:=([]:List ak)}:ak),x21,x24,x27]:List ak)).map a7) (aC ha13)) (aC ha13) (fun hw32=> ?_)
    replace hw32:=nzQ hw32
    refine aa ha13 ?_
    have hq33:=kl hx31
    replace hq33:=nzQ hq33
    refine aB (fun h34=> ?_) (fun h34=> ?_)
    ·rw [if_pos h34] at hM
     refine aa (And.intro ha13 h34) ?_
     subst hM
     exact aw (az (And.intro ha13 (And.intro h4 (And.intro h10 (And.intro h14 h34)))))
    ·rw [if_neg (ap h34)] at hM
     refine aa (And.intro ha13 h34) ?_
     have nh34:=nzQ h34
     try have hr36:=mpQ nh34
     replace hM:=ao hM;obtain ⟨x37,hx38,hM⟩:=hM
     have hcx37:=cmH hx38 (iC ([115,112,101,99,105,101,47,99,111,105,110]) (x30.1) (by (exact pfQ)))
     refine aH hcx37 (aC ha13) (aC ha13) (fun hw39=> ?_)
     replace hw39:=nzQ hw39
     refine aa ha13 ?_
     have hF:=(And.intro h4 (And.intro h10 (And.intro ha13 (And.intro h14 h34))))
     exact auQ
set_option maxHeartbeats 2000000 in
set_option maxRecDepth 100000 in
instance NT (b:a8) (x_:Int) (e_:Int):CM En (mT b x_ e_) 292 [(bS b),.int .i64 x_,.int .i64 e_] (fun y=> .int .i64 y) (fun _=> []):=by
 refine cmQ fun r hM=> ?_
 rw [mT.eq_1] at hM
 refine av al ar noJ Tryz.func292 rfl Tryz.ntmps292 (by kernel_rfl) fun hw=>au ?_
 refine spQ ?_
 replace hw:=nzQ hw
 have hF:=aW
 exact auQ
set_option maxHeartbeats 2000000 in
set_option maxRecDepth 100000 in
instance NU (a_:Int) (b:Int) (m:Int):CM En (mU a_ b m) 299 [.int .i64 a_,.int .i64 b,.int .i64 m] (fun y=> .tup [.int .i64 y.1,.int .i64 y.2]) (fun _=> []):=by
 refine cmQ fun r hM=> ?_
 rw [mU.eq_1] at hM
 refine av al ar noJ Tryz.func299 rfl Tryz.ntmps299 (by kernel_rfl) fun hw=>au ?_
 refine spQ ?_
 replace hw:=nzQ hw
 replace hM:=ao hM;obtain ⟨x1,hx2,hM⟩:=hM
 have hcx1:=cmU hx2
 refine aH hcx1 clQ clQ (fun hw3=> ?_)
 replace hw3:=nzQ hw3
 refine spQ ?_
 have hq4:=nzQ (cfU hx2)
 refine aB (fun h5=> ?_) (fun h5=> ?_)
 ·rw [if_pos h5] at hM
  refine aa h5 ?_
  subst hM
  exact aw (az h5)
 ·rw [if_neg (ap h5)] at hM
  refine aa h5 ?_
  have nh5:=nzQ h5
  try have hr7:=mpQ nh5
  replace hM:=ao hM;obtain ⟨x8,hx9,hM⟩:=hM
  have hcx8:=cmH hx9 (rU a_ b m (by (exact pfQ)) (by (exact pfQ)) (by (exact pfQ)))
  refine aH hcx8 clQ clQ (fun hw10=> ?_)
  replace hw10:=nzQ hw10
  refine spQ ?_
  subst hM
  exact aw (az h5)
set_option maxHeartbeats 2000000 in
set_option maxRecDepth 100000 in
instance NV (b:a8) (x_:Int) (y:Int):CM En (vg b x_ y) 346 [(bS b),.int .i64 x_,.int .i64 y] (fun y=> .int .i64 y) (fun _=> []):=by
 refine cmQ fun r hM=> ?_
 rw [vg.eq_1] at hM
 refine av al ar noJ Tryz.func346 rfl Tryz.ntmps346 (by kernel_rfl) fun hw=>au ?_
 refine spQ ?_
 replace hw:=nzQ hw
 have hF:=aW
 exact auQ
instance (priority:=1003):DRD 1 21 9 [11,12,13,14,15,16,17,18,19] [] ([[],[],[],[],[1,2,3],[],[],[],[5,6,7]]++[List.range 9,List.range 10]) []:=⟨trivial⟩
set_option maxHeartbeats 2000000 in
set_option maxRecDepth 100000 in
instance NW (b:a8) (x_:Int) (e_:Int) (y:Int) (f_:Int):CM En (rg b x_ e_ y f_) 293 [(bS b),.int .i64 x_,.int .i64 e_,.int .i64 y,.int .i64 f_] (fun y=> .int .i64 y) (fun _=> []):=by
 refine cmQ fun r hM=> ?_
 rw [rg.eq_1] at hM
 refine av al ar noJ Tryz.func293 rfl Tryz.ntmps293 (by kernel_rfl) fun hw=>au ?_
 refine spQ ?_
 replace hw:=nzQ hw
 have hF:=aW
 exact auQ
instance (priority:=1004):DRD 6 74 27 [44,45,46,47,48,49,50,51,52,53,54,55,56,57,58,59,60,61,62,63,64,65,66,67,68,69,70] [] ([[],[],[1],[1,2],[],[4],[0,1,2,3,4,5],[],[],[8],[],[],[11],[7,8,9,10,11,12],[0,1,2,3,4,5,6,7,8,9,10,11,12,13],[0,1,2,3,4,5,6,7,8,9,10,11,12,13,14],[0,1,2,3,4,5,6,7,8,9,10,11,12,13,14,15],[0,1,2,3,4,5,6,7,8,9,10,11,12,13,14,15],[0,1,2,3,4,5,6,7,8,9,10,11,12,13,14,15],[0,1,2,3,4,5,6,7,8,9,10,11,12,13,14,15,18],[0,1,2,3,4,5,6,7,8,9,10,11,12,13,14,15,16,17,18,19],[0,1,2,3,4,5,6,7,8,9,10,11,12,13,14,15],[0,1,2,3,4,5,6,7,8,9,10,11,12,13,14,15],[0,1,2,3,4,5,6,7,8,9,10,11,12,13,14,15,22],[0,1,2,3,4,5,6,7,8,9,10,11,12,13,14,15],[0,1,2,3,4,5,6,7,8,9,10,11,12,13,14,15],[0,1,2,3,4,5,6,7,8,9,10,11,12,13,14,15,25]]++[List.range 27,List.range 28,List.range 29,List.range 30]) []:=⟨trivial⟩
set_option maxHeartbeats 2000000 in
set_option maxRecDepth 100000 in
instance NX (b:a8) (k_:ig) (pseudonym:Int) (root:(List Int)) (s:ia):CM En (vh b k_ pseudonym root s) 233 [(bS b),.agg [.int .i64 k_.H,.int .i64 k_.H1,.int .i64 k_.H2],.int .i64 pseudonym,(aI root),.agg [.int .i64 s.Z,.int .i64 s.A,.int .i64 s.B,.int .i64 s.R]] (fun y=> .bool y) (fun _=> []):=by
 refine cmQ fun r hM=> ?_
 rw [vh.eq_1] at hM
 refine av al ar noJ Tryz.func233 rfl Tryz.ntmps233 (by kernel_rfl) fun hw=>au ?_
 refine spQ ?_
 replace hw:=nzQ hw
 have hF:=aW
 exact auQ
set_option maxHeartbeats 2000000 in
set_option maxRecDepth 100000 in
instance NY (b:a8) (r_:bu) (c:bD):CM En (lm b r_ c) 177 [(bS b),(bJ r_),(dm c)] (fun y=> .bool y) (fun _=> []):=by
 refine cmQ fun r hM=> ?_
 rw [lm.eq_1] at hM
 refine av al ar noJ Tryz.func177 rfl Tryz.ntmps177 (by kernel_rfl) fun hw=>au ?_
 refine spQ ?_
 replace hw:=nzQ hw
 have hF:=aW
 exact auQ
instance (priority:=1005):DRD 1 35 28 [5,6,7,8,9,10,11,12,13,14,15,16,17,18,19,20,21,22,23,24,25,26,27,28,29,30,31,32] [] ([[],[0],[0,1],[0,1,2],[0,1,2,3],[0,1,2,3,4],[0,1,2,3,4,5],[0,1,2,3,4,5,6],[0,1,2,3,4,5,6,7],[0,1,2,3,4,5,6,7,8],[0,1,2,3,4,5,6,7,8,9],[0,1,2,3,4,5,6,7,8,9,10],[0,1,2,3,4,5,6,7,8,9,10,11],[0,1,2,3,4,5,6,7,8,9,10,11,12],[0,1,2,3,4,5,6,7,8,9,10,11],[0,1,2,3,4,5,6,7,8,9,10,11,12,13,14],[0,1,2,3,4,5,6,7,8,9,10,11,12,13,14,15],[0,1,2,3,4,5,6,7,8,9,10,11,12,13,14,15,16],[0,1,2,3,4,5,6,7,8,9,10,11,12,13,14,15,16,17],[0,1,2,3,4,5,6,7,8,9,10,11,12,13,14,15,16,17,18],[0,1,2,3,4,5,6,7,8,9,10,11,12,13,14,15,16,17,18,19],[0,1,2,3,4,5,6,7,8,9,10,11,12,13,14,15,16,17,18,19,20],[0,1,2,3,4,5,6,7,8,9,10,11,12,13,14,15,16,17,18,19,20,21],[0,1,2,3,4,5,6,7,8,9,10,11,12,13,14,15,16,17,18,19,20,21,22],[0,1,2,3,4,5,6,7,8,9,10,11,12,13,14,15,16,17,18,19,20,21,22,23],[0,1,2,3,4,5,6,7,8,9,10,11,12,13,14,15,16,17,18,19,20,21,22],[0,1,2,3,4,5,6,7,8,9,10,11,12,13,14,15,16,17,18,19,20,21,22,25],[0,1,2,3,4,5,6,7,8,9,10,11,12,13,14,15,16,17,18,19,20,21,22,25,26]]++[List.range 28,List.range 29,List.range 30]) []:=⟨trivial⟩
set_option maxHeartbeats 2000000 in
set_option maxRecDepth 100000 in
instance NZ (depth:Int) (n_:gB):CM En (iy depth n_) 178 [.int .i64 depth,.agg [.int .i64 n_.Level,.int .i64 n_.Index]] (fun y=> .bool y) (fun _=> []):=by
 refine cmQ fun r hM=> ?_
 rw [iy.eq_1] at hM
 refine av al ar noJ Tryz.func178 rfl Tryz.ntmps178 (by kernel_rfl) fun hw=>au ?_
 refine spQ ?_
 replace hw:=nzQ hw
 have hF:=aW
 exact auQ
set_option maxHeartbeats 2000000 in
set_option maxRecDepth 100000 in
instance N0 (x_:eK):CM En (rh x_) 179 [(ld x_)] (fun y=> .bool y) (fun _=> []):=by
 refine cmQ fun r hM=> ?_
 rw [rh.eq_1] at hM
 refine av al ar noJ Tryz.func179 rfl Tryz.ntmps179 (by kernel_rfl) fun hw=>au ?_
 refine spQ ?_
 replace hw:=nzQ hw
 have hF:=aW
 exact auQ
set_option maxHeartbeats 2000000 in
set_option maxRecDepth 100000 in
instance N1 (l:(List Int)):CM En (fS l) 237 [.sl none 1 false (l.map (V.int .i64))] (fun y=> .agg [.int .i64 y.Kind,.int .i64 y.N,.sl none 1 false (y.B.map (V.int .u8)),.sl none 4 true (y.L.map a7)]) (fun _=> []):=by
 refine cmQ fun r hM=> ?_
 rw [fS.eq_1] at hM
 refine av al ar noJ Tryz.func237 rfl Tryz.ntmps237 (by kernel_rfl) fun hw=>au ?_
 refine spQ ?_
 replace hw:=nzQ hw
 replace hM:=aU hM;obtain ⟨f1,d1,hf1,hd1,hM⟩:=hM
 refine fC (fun n S=> ∃p:Int×List ak,S=(⟨[(2,.ptr 0 0),(3,.ptr 1 0),(7,.sl none 1 false (l.map (V.int .i64))),(8,.int .i64 (l.length:Int)),(9,.int .i64 p.1)],[(0,.var 4 true (.agg [.int .i64 0,.int .i64 0,.sl (some true) 1 false [],.sl (some true) 4 true []])),(1,.var 4 true (.agg [.int .i64 3,.int .i64 0,.sl (some true) 1 false [],.own 2])),(2,.own 170 4 true none (p.2.map a7))],3⟩:St)∧((0≤p.1)∧(p.1≤(l.length:Int))∧(((p.2).length:Int)≤p.1))∧((l.length:Int) - p.1).toNat<n∧am n f1 d1 p=r) (((l.length:Int) - 0).toNat+1) _ _ (qF 1 3 170 rfl rfl (by decide)) sbQ sbQ ⟨(0,([]:List ak)),rfl,⟨omQ,omQ,omQ⟩,(Nat.lt_succ_self _),hM⟩ ?_
 clear hM
 rintro n1 S ⟨p1,rfl,hfa1,hm1,hM⟩
 replace hM:=aV hM (by omega) hf1;obtain ⟨ag1,hag1,hM⟩:=hM
 replace hfa1:=nzQ hfa1
 replace hm1:=nzQ hm1
 have ha1:ax .i64 p1.1 1=p1.1+1:=aZ omQ omQ
 refine aa ha1 ?_
 have hF:=ha1
 exact auQ
set_option maxHeartbeats 2000000 in
set_option maxRecDepth 100000 in
theorem A0 (z0_1:Option Bool) (z1:Option Bool) (w_:dI) (l_:(List Int)) (hp0:w_.l.length≤1000):cZ En 347 [.ptr 0 0,.sl z1 1 false (l_.map (V.int .i64))] [.var 1 true (.agg [.own 1]),.own 170 4 true z0_1 (w_.l.map a7)] (.tup []) [.var 1 true (.agg [.own 1]),.own 170 4 true none ((jb w_ l_).l.map a7)] []:=by
 generalize hM:jb w_ l_=r
 rw [jb.eq_1] at hM
 refine iZ al ar noJ Tryz.func347 rfl Tryz.ntmps347 (by kernel_rfl) rfl fun ks hw hwB=>au ?_
 refine spQ ?_
 replace hw:=nzQ hw
 try simp only [fd,wfB,decide_eq_true_eq,decide_eq_false_iff_not,Bool.and_eq_true,Bool.or_eq_true,Bool.not_eq_true',Bool.not_eq_false',beq_iff_eq,bne_iff_ne,beq_eq_false_iff_ne,bne_eq_false_iff_eq,ne_eq,Int.not_lt,Int.not_le,gt_iff_lt,ge_iff_le,List.length_map,wfL,wfV,and_true,true_and,dF,gn,go,gp,gu,eX,eD,List.length_append,List.length_cons,List.length_nil,List.length_replicate,aD,eY,eZ,fb,ce,eE,gw] at hwB
 refine bN 16 14 [4,5,6,7,8,9,10,11,12,13,14,15] [] [[],[0],[0,1],[0,1,2],[],[4],[0,1,2,3],[],[0,1,2,3,6,7],[0,1,2,3,6,7,8],[0,1,2,3,4,5,6,7,8,9],[0],[0,11],[0,1,2,3,7,8,11,12]] [(8,1),(10,10),(13,0)] (by kernel_rfl) (by exact alQ) ?_
 refine spQ ?_
 replace hM:=ao hM;obtain ⟨x1,hx2,hM⟩:=hM
 have hcx1:=cmU hx2
 refine bp hcx1 clQ clQ ?_
 refine spQ ?_
 refine nH omQ clQ ?_
 refine spQ ?_
 refine b_ omQ ?_
 have he3: ∀d,elt ((w_.l++([dG]:List ak)).map a7) w_.l.length d=a7 (gt (w_.l++([dG]:List ak)) (w_.l.length:Int)):=fun d=>bE (l:=(w_.l++([dG]:List ak))) (f:=a7) (i:=(w_.l.length:Int)) omQ d
 refine aa he3 ?_
 refine qk omQ clQ ?_
 refine aa he3 ?_
 subst hM
 exact cV [0,10] (by simp only [go_sem,aE,aF,List.length_replicate,aD,Int.toNat_natCast,↓reduceIte,Nat.reduceEqDiff,Nat.reduceAdd,Int.reduceAdd,Nat.reduceMul,Nat.reduceLeDiff,Nat.reduceLT,Int.reduceLE,Int.reduceLT,Int.reduceNeg,Int.reduceToNat,mt,mtL,aL,aK,mtZ,and_self,eq_self,or_true,true_or,br,he3,bm,bn,Int.reduceSub,or_self]) (by decide) (by simp only [go_sem,aE,aF,List.length_replicate,aD,Int.toNat_natCast,↓reduceIte,Nat.reduceEqDiff,Nat.reduceAdd,Int.reduceAdd,Nat.reduceMul,Nat.reduceLeDiff,Nat.reduceLT,Int.reduceLE,Int.reduceLT,Int.reduceNeg,Int.reduceToNat,mt,mtL,aL,aK,mtZ,and_self,eq_self,or_true,true_or,br,he3,bm,bn,Int.reduceSub,or_self])
set_option maxRecDepth 100000 in
theorem wM (z0:Option Bool) (s:List Int):bk En 294 [.sl z0 1 false (s.map (V.int .u8))] (.own 0) [.own 5 1 false none ((mV s).map (V.int .u8))]:=by
 show bk En 294 [.sl z0 1 false (s.map (V.int .u8))] (.own 0) [.own 5 1 false none (s.map (V.int .u8))]
 refine uB (pre:=[]) (post:=[]) (fun hl=> ?_) ?_ z0
 ·have hl:s=[]:=by cases s with|nil=>rfl|cons a s=>cases hl
  subst hl
  refine av al ar noJ Tryz.func294 rfl Tryz.ntmps294 (by kernel_rfl) fun hw=>au ?_
  simp only [go_sem,aE,aF,List.length_replicate,aD,Int.toNat_natCast,↓reduceIte,Nat.reduceEqDiff,Nat.reduceAdd,Int.reduceAdd,Nat.reduceMul,Nat.reduceLeDiff,Nat.reduceLT,Int.reduceLE,Int.reduceLT,Int.reduceNeg,Int.reduceToNat,List.nil_append]
  exact uA (by decide)
 ·refine av al ar noJ Tryz.func294 rfl Tryz.ntmps294 (by kernel_rfl) fun hw=>au ?_
  simp only [go_sem,aE,aF,List.length_replicate,aD,Int.toNat_natCast,↓reduceIte,Nat.reduceEqDiff,Nat.reduceAdd,Int.reduceAdd,Nat.reduceMul,Nat.reduceLeDiff,Nat.reduceLT,Int.reduceLE,Int.reduceLT,Int.reduceNeg,Int.reduceToNat,List.nil_append]
  have hn:s.length≤1073741824:=by have h:=hw;simp only [wfL,wfV,List.nil_append,dF,List.length_map] at h;exact h.1.1
  refine aP (by first|omega|(simp only [List.length_map,List.length_nil,List.nil_append];omega)) ?_
  refine spQ ?_
  refine uz 0 rfl clQ
set_option maxHeartbeats 2000000 in
set_option maxRecDepth 100000 in
theorem Js (z0_1:Option Bool) (z1:Option Bool) (w_:dI) (b:(List Int)) (hp0:w_.l.length≤1000):cZ En 348 [.ptr 0 0,.sl z1 1 false (b.map (V.int .u8))] [.var 1 true (.agg [.own 1]),.own 170 4 true z0_1 (w_.l.map a7)] (.tup []) [.var 1 true (.agg [.own 1]),.own 170 4 true none ((j5 w_ b).l.map a7)] []:=by
 generalize hM:j5 w_ b=r
 rw [j5.eq_1] at hM
 refine iZ al ar noJ Tryz.func348 rfl Tryz.ntmps348 (by kernel_rfl) rfl fun ks hw hwB=>au ?_
 refine spQ ?_
 replace hw:=nzQ hw
 try simp only [fd,wfB,decide_eq_true_eq,decide_eq_false_iff_not,Bool.and_eq_true,Bool.or_eq_true,Bool.not_eq_true',Bool.not_eq_false',beq_iff_eq,bne_iff_ne,beq_eq_false_iff_ne,bne_eq_false_iff_eq,ne_eq,Int.not_lt,Int.not_le,gt_iff_lt,ge_iff_le,List.length_map,wfL,wfV,and_true,true_and,dF,gn,go,gp,gu,eX,eD,List.length_append,List.length_cons,List.length_nil,List.length_replicate,aD,eY,eZ,fb,ce,eE,gw] at hwB
 refine bN 17 15 [4,5,6,7,8,9,10,11,12,13,14,15,16] [] [[],[0],[0,1],[0,1,2],[],[4],[4,5],[0,1,2,3],[],[0,1,2,3,7,8],[0,1,2,3,7,8,9],[0,1,2,3,4,5,6,7,8,9,10],[0],[0,12],[0,1,2,3,8,9,12,13]] [(9,1),(11,11),(14,0)] (by kernel_rfl) (by exact alQ) ?_
 refine spQ ?_
 replace hM:=ao hM;obtain ⟨x1,hx2,hM⟩:=hM
 have hcx1:=bk.pub ((wM z1 b))
 rw [←hx2] at hcx1
 refine bp hcx1 clQ clQ ?_
 refine spQ ?_
 refine nH omQ clQ ?_
 refine spQ ?_
 refine b_ omQ ?_
 have he3: ∀d,elt ((w_.l++([dG]:List ak)).map a7) w_.l.length d=a7 (gt (w_.l++([dG]:List ak)) (w_.l.length:Int)):=fun d=>bE (l:=(w_.l++([dG]:List ak))) (f:=a7) (i:=(w_.l.length:Int)) omQ d
 refine aa he3 ?_
 refine qk omQ clQ ?_
 refine aa he3 ?_
 subst hM
 exact cV [0,11] (by simp only [go_sem,aE,aF,List.length_replicate,aD,Int.toNat_natCast,↓reduceIte,Nat.reduceEqDiff,Nat.reduceAdd,Int.reduceAdd,Nat.reduceMul,Nat.reduceLeDiff,Nat.reduceLT,Int.reduceLE,Int.reduceLT,Int.reduceNeg,Int.reduceToNat,mt,mtL,aL,aK,mtZ,and_self,eq_self,or_true,true_or,br,he3,bm,bn,Int.reduceSub,or_self]) (by decide) (by simp only [go_sem,aE,aF,List.length_replicate,aD,Int.toNat_natCast,↓reduceIte,Nat.reduceEqDiff,Nat.reduceAdd,Int.reduceAdd,Nat.reduceMul,Nat.reduceLeDiff,Nat.reduceLT,Int.reduceLE,Int.reduceLT,Int.reduceNeg,Int.reduceToNat,mt,mtL,aL,aK,mtZ,and_self,eq_self,or_true,true_or,br,he3,bm,bn,Int.reduceSub,or_self])
set_option maxHeartbeats 2000000 in
set_option maxRecDepth 100000 in
instance N2 (c:bD):CM En (ln c) 295 [(dm c)] (fun y=> .agg [.int .i64 y.Kind,.int .i64 y.N,.sl none 1 false (y.B.map (V.int .u8)),.sl none 4 true (y.L.map a7)]) (fun _=> []):=by
 refine cmQ fun r hM=> ?_
 rw [ln.eq_1] at hM
 refine av al ar [2] Tryz.func295 rfl Tryz.ntmps295 (by kernel_rfl) fun hw=>au ?_
 refine spQ ?_
 replace hw:=nzQ hw
 refine gy ?_
 try refine spQ ?_
 refine g8 _ (⟨[(1,.ptr 0 0),(2,.ptr 1 0),(3,.ptr 2 0)],[(0,.pvar 41 true ((dm c))),(1,.var 4 true (.agg [.int .i64 0,.int .i64 0,.sl (some true) 1 false [],.sl (some true) 4 true []])),(2,.var 1 true (.agg [.sl (some true) 4 true []]))],3⟩:St) (g7 (S:=⟨_,_,_⟩) 0 (n:=41) (g:=true) (d:=(dm c)) clQ clQ) sbQ sbQ ?_
 try refine spQ ?_
 replace hM:=ao hM;obtain ⟨x1,hx2,hM⟩:=hM
 have hcx1:=A0 (some true) (some false) lc ([c.Bank,c.Epoch,c.Denom,c.Depth,c.A]:List Int) (by (have h0:lc.l.length=0:=rfl;omega))
 rw [←hx2] at hcx1
 refine zz [2,4] hcx1 ((zi 2 0 170 rfl rfl (by decide)).trans (jL 3 (T:=3) (n:=1) (g:=false) (z:=(some false)) (l:=([c.Bank,c.Epoch,c.Denom,c.Depth,c.A]:List Int).map (V.int .i64)) clQ).toQ) (by decide) (by simp only [go_sem,aE,aF,List.length_replicate,aD,Int.toNat_natCast,↓reduceIte,Nat.reduceEqDiff,Nat.reduceAdd,Int.reduceAdd,Nat.reduceMul,Nat.reduceLeDiff,Nat.reduceLT,Int.reduceLE,Int.reduceLT,Int.reduceNeg,Int.reduceToNat,mt,mtL,aL,aK,mtZ,and_self,eq_self,or_true,true_or]) (by simp only [go_sem,aE,aF,List.length_replicate,aD,Int.toNat_natCast,↓reduceIte,Nat.reduceEqDiff,Nat.reduceAdd,Int.reduceAdd,Nat.reduceMul,Nat.reduceLeDiff,Nat.reduceLT,Int.reduceLE,Int.reduceLT,Int.reduceNeg,Int.reduceToNat,mt,mtL,aL,aK,mtZ,and_self,eq_self,or_true,true_or]) (fun hw3=> ?_)
 replace hw3:=nzQ hw3
 refine spQ ?_
 have hq4:=Aq hx2
 replace hq4:=nzQ hq4
 replace hM:=ao hM;obtain ⟨x5,hx6,hM⟩:=hM
 have hcx5:=Js none (some false) x1 (bc 32 c.Root) (by (have h0:lc.l.length=0:=rfl;omega))
 rw [←hx6] at hcx5
 refine dc [2,4] hcx5 (by decide) (by simp only [go_sem,aE,aF,List.length_replicate,aD,Int.toNat_natCast,↓reduceIte,Nat.reduceEqDiff,Nat.reduceAdd,Int.reduceAdd,Nat.reduceMul,Nat.reduceLeDiff,Nat.reduceLT,Int.reduceLE,Int.reduceLT,Int.reduceNeg,Int.reduceToNat,mt,mtL,aL,aK,mtZ,and_self,eq_self,or_true,true_or]) (by simp only [go_sem,aE,aF,List.length_replicate,aD,Int.toNat_natCast,↓reduceIte,Nat.reduceEqDiff,Nat.reduceAdd,Int.reduceAdd,Nat.reduceMul,Nat.reduceLeDiff,Nat.reduceLT,Int.reduceLE,Int.reduceLT,Int.reduceNeg,Int.reduceToNat,mt,mtL,aL,aK,mtZ,and_self,eq_self,or_true,true_or]) (fun hw7=> ?_)
 replace hw7:=nzQ hw7
 refine spQ ?_
 have hq8:=Ih hx6
 replace hq8:=nzQ hq8
 replace hM:=ao hM;obtain ⟨x9,hx10,hM⟩:=hM
 have hcx9:=A0 none (some false) x5 ([c.Sign.Z,c.Sign.A,c.Sign.B,c.Sign.R]:List Int) (by (have h0:lc.l.length=0:=rfl;omega))
 rw [←hx10] at hcx9
 refine zA [2,4] hcx9 (jL 5 (T:=3) (n:=1) (g:=false) (z:=(some false)) (l:=([c.Sign.Z,c.Sign.A,c.Sign.B,c.Sign.R]:List Int).map (V.int .i64)) clQ) (by decide) (by simp only [go_sem,aE,aF,List.length_replicate,aD,Int.toNat_natCast,↓reduceIte,Nat.reduceEqDiff,Nat.reduceAdd,Int.reduceAdd,Nat.reduceMul,Nat.reduceLeDiff,Nat.reduceLT,Int.reduceLE,Int.reduceLT,Int.reduceNeg,Int.reduceToNat,mt,mtL,aL,aK,mtZ,and_self,eq_self,or_true,true_or]) (by simp only [go_sem,aE,aF,List.length_replicate,aD,Int.toNat_natCast,↓reduceIte,Nat.reduceEqDiff,Nat.reduceAdd,Int.reduceAdd,Nat.reduceMul,Nat.reduceLeDiff,Nat.reduceLT,Int.reduceLE,Int.reduceLT,Int.reduceNeg,Int.reduceToNat,mt,mtL,aL,aK,mtZ,and_self,eq_self,or_true,true_or]) (fun hw11=> ?_)
 replace hw11:=nzQ hw11
 refine spQ ?_
 have hq12:=Aq hx10
 replace hq12:=nzQ hq12
 subst hM
 exact aw lfQ
set_option maxHeartbeats 2000000 in
set_option maxRecDepth 100000 in
instance N3 (c:bD):CM En (ri c) 236 [(dm c)] (fun y=>(aI y)) (fun _=> []):=by
 refine cmQ fun r hM=> ?_
 rw [ri.eq_1] at hM
 refine av al ar noJ Tryz.func236 rfl Tryz.ntmps236 (by kernel_rfl) fun hw=>au ?_
 refine spQ ?_
 replace hw:=nzQ hw
 replace hM:=ao hM;obtain ⟨x1,hx2,hM⟩:=hM
 have hcx1:=cmU hx2
 refine aH hcx1 clQ clQ (fun hw3=> ?_)
 replace hw3:=nzQ hw3
 refine spQ ?_
 have hq4:=IB hx2
 replace hq4:=nzQ hq4
 replace hM:=ao hM;obtain ⟨x5,hx6,hM⟩:=hM
 have hcx5:=cmH hx6 (km x1 (by (exact pfQ)))
 refine aH hcx5 clQ clQ (fun hw7=> ?_)
 replace hw7:=nzQ hw7
 refine spQ ?_
 have hq8:=kl hx6
 replace hq8:=nzQ hq8
 replace hM:=ao hM;obtain ⟨x9,hx10,hM⟩:=hM
 have hcx9:=cmH hx10 (iC ([115,112,101,99,105,101,47,99,111,105,110,45,105,116,101,109]) (x5.1) (by (exact pfQ)))
 refine aH hcx9 clQ clQ (fun hw11=> ?_)
 replace hw11:=nzQ hw11
 refine spQ ?_
 subst hM
 exact aw lfQ
set_option maxHeartbeats 2000000 in
set_option maxRecDepth 100000 in
instance N4 (h_:(List Int)):CM En (jc h_) 235 [(aI h_)] (fun y=> .agg [.int .i64 y.Kind,.int .i64 y.N,.sl none 1 false (y.B.map (V.int .u8)),.sl none 4 true (y.L.map a7)]) (fun _=> []):=by
 refine cmQ fun r hM=> ?_
 rw [jc.eq_1] at hM
 refine av al ar noJ Tryz.func235 rfl Tryz.ntmps235 (by kernel_rfl) fun hw=>au ?_
 refine spQ ?_
 replace hw:=nzQ hw
 replace hM:=ao hM;obtain ⟨x1,hx2,hM⟩:=hM
 have hcx1:=wM (some false) (bc 32 h_)
 rw [←hx2] at hcx1
 refine aH hcx1 clQ clQ (fun hw3=> ?_)
 replace hw3:=nzQ hw3
 refine spQ ?_
 subst hM
 exact aw lfQ
set_option maxHeartbeats 2000000 in
set_option maxRecDepth 100000 in
instance N5 (l:(List ak)):CM En (j_ l) 234 [.sl none 4 true (l.map a7)] (fun y=> .agg [.int .i64 y.Kind,.int .i64 y.N,.sl none 1 false (y.B.map (V.int .u8)),.sl none 4 true (y.L.map a7)]) (fun _=> []):=by
 refine cmQ fun r hM=> ?_
 rw [j_.eq_1] at hM
 refine av al ar noJ Tryz.func234 rfl Tryz.ntmps234 (by kernel_rfl) fun hw=>au ?_
 refine spQ ?_
 replace hw:=nzQ hw
 subst hM
 exact aw lfQ
set_option maxHeartbeats 2000000 in
set_option maxRecDepth 100000 in
instance N6 (b:a8) (c:bD) (n_:gB) (x_:eK):CM En (vk b c n_ x_) 180 [(bS b),(dm c),.agg [.int .i64 n_.Level,.int .i64 n_.Index],(ld x_)] (fun y=> .int .i64 y) (fun _=> []):=by
 refine cmQ fun r hM=> ?_
 rw [vk.eq_1] at hM
 refine av al ar noJ Tryz.func180 rfl Tryz.ntmps180 (by kernel_rfl) fun hw=>au ?_
 refine spQ ?_
 replace hw:=nzQ hw
 refine bN 53 25 [9,15,16,17,18,19,20,21,22,23,24,25,26,27,28,29,30,31,32,33,34,35,36,37,38] [] ([[],[0],[0,1],[],[3],[],[5],[3,4,5,6],[3,4,5,6,7],[],[9],[9,10],[],[12],[],[14],[12,13,14,15],[12,13,14,15,16],[0,1,2,3,4,5,6,7,8,9,10,11,12,13,14,15,16,17],[0,1,2,3,4,5,6,7,8,9,10,11,12,13,14,15,16,17,18],[0,1,2,3,4,5,6,7,8,9,10,11,12,13,14,15,16,17,18,19],[0,1,2,3,4,5,6,7,8,9,10,11,12,13,14,15,16,17,18,19,20],[0,1,2,3,4,5,6,7,8,9,10,11,12,13,14,15,16,17,18,19,20,21],[0,1,2,3,4,5,6,7,8,9,10,11,12,13,14,15,16,17,18,19,20,21],[0,1,2,3,4,5,6,7,8,9,10,11,12,13,14,15,16,17,18,19,20,21,22]]++[List.range 25]) [(7,11),(16,20),(18,22)] (by kernel_rfl) (by exact alQ) ?_
 refine spQ ?_
 replace hM:=ao hM;obtain ⟨x1,hx2,hM⟩:=hM
 have hcx1:=cmU hx2
 refine bp hcx1 clQ clQ ?_
 refine spQ ?_
 replace hM:=ao hM;obtain ⟨x3,hx4,hM⟩:=hM
 have hcx3:=cmU hx4
 refine bp hcx3 clQ clQ ?_
 refine spQ ?_
 have hq5:=AQ hx4
 replace hq5:=nzQ hq5
 replace hM:=ao hM;obtain ⟨x6,hx7,hM⟩:=hM
 have hcx6:=cmU hx7
 refine bp hcx6 clQ clQ ?_
 refine spQ ?_
 have hq8:=wE hx7
 replace hq8:=nzQ hq8
 replace hM:=ao hM;obtain ⟨x9,hx10,hM⟩:=hM
 have hcx9:=cmU hx10
 refine bp hcx9 clQ clQ ?_
 refine spQ ?_
 have hq11:=AQ hx10
 replace hq11:=nzQ hq11
 replace hM:=ao hM;obtain ⟨x12,hx13,hM⟩:=hM
 have hcx12:=cmU hx13
 refine bp hcx12 clQ clQ ?_
 refine spQ ?_
 have hq14:=wE hx13
 replace hq14:=nzQ hq14
 replace hM:=ao hM;obtain ⟨x15,hx16,hM⟩:=hM
 have hcx15:=cmU hx16
 refine bp hcx15 clQ clQ ?_
 refine spQ ?_
 have hq17:=IV hx16
 replace hq17:=nzQ hq17
 replace hM:=ao hM;obtain ⟨x18,hx19,hM⟩:=hM
 have hcx18:=cmH hx19 (km x15 (by (exact pfQ)))
 refine bp hcx18 clQ clQ ?_
 refine spQ ?_
 have hq20:=kl hx19
 replace hq20:=nzQ hq20
 replace hM:=ao hM;obtain ⟨x21,hx22,hM⟩:=hM
 have hcx21:=cmH hx22 (iC ([115,112,101,99,105,101,47,115,112,101,110,100]) (x18.1) (by (exact pfQ)))
 refine aH hcx21 clQ clQ (fun hw23=> ?_)
 replace hw23:=nzQ hw23
 refine spQ ?_
 have hF:=aW
 exact auQ
set_option maxHeartbeats 2000000 in
set_option maxRecDepth 100000 in
instance N7 (g:aQ) (l:(List Int)):CM En (rk g l) 297 [.agg [.int .i64 g.P,.int .i64 g.Q,.int .i64 g.G],.sl none 1 false (l.map (V.int .i64))] (fun y=> .int .i64 y) (fun _=> []):=by
 refine cmQ fun r hM=> ?_
 rw [rk.eq_1] at hM
 refine av al ar noJ Tryz.func297 rfl Tryz.ntmps297 (by kernel_rfl) fun hw=>au ?_
 refine spQ ?_
 replace hw:=nzQ hw
 replace hM:=ao hM;obtain ⟨x1,hx2,hM⟩:=hM
 have hcx1:=cmU hx2
 refine aH hcx1 clQ clQ (fun hw3=> ?_)
 replace hw3:=nzQ hw3
 refine spQ ?_
 refine aB (fun h4=> ?_) (fun h4=> ?_)
 ·rw [if_pos h4] at hM
  refine aa h4 ?_
  subst hM
  exact aw (az h4)
 ·rw [if_neg (ap h4)] at hM
  refine aa h4 ?_
  have nh4:=nzQ h4
  try have hr6:=mpQ nh4
  replace hM:=aU hM;obtain ⟨f7,d7,hf7,hd7,hM⟩:=hM
  refine a6 (fun n S=> ∃p:Int,S=(⟨[(2,.ptr 0 0),(10,.sl none 1 false (l.map (V.int .i64))),(11,.int .i64 (l.length:Int)),(12,.int .i64 p)],[(0,.var 3 true (.agg [.int .i64 g.P,.int .i64 g.Q,.int .i64 g.G]))],1⟩:St)∧((0≤p)∧(p≤(l.length:Int)))∧((l.length:Int) - p).toNat<n∧am n f7 d7 p=r) (((l.length:Int) - 0).toNat+1) _ sbQ sbQ ⟨0,rfl,⟨omQ,omQ⟩,(Nat.lt_succ_self _),hM⟩ ?_
  clear hM
  rintro n7 S ⟨p7,rfl,hfa7,hm7,hM⟩
  replace hM:=aV hM (by omega) hf7;obtain ⟨ag7,hag7,hM⟩:=hM
  replace hfa7:=nzQ hfa7
  replace hm7:=nzQ hm7
  have ha7:ax .i64 p7 1=p7+1:=aZ omQ omQ
  refine aa ha7 ?_
  have hF:=(And.intro h4 ha7)
  exact auQ
set_option maxHeartbeats 2000000 in
set_option maxRecDepth 100000 in
instance N8 (a_:Int) (m:Int):CM En (vl a_ m) 298 [.int .i64 a_,.int .i64 m] (fun y=> .tup [.int .i64 y.1,.int .i64 y.2]) (fun _=> []):=by
 refine cmQ fun r hM=> ?_
 rw [vl.eq_1] at hM
 refine av al ar noJ Tryz.func298 rfl Tryz.ntmps298 (by kernel_rfl) fun hw=>au ?_
 refine spQ ?_
 replace hw:=nzQ hw
 have hF:=aW
 exact auQ
set_option maxHeartbeats 2000000 in
set_option maxRecDepth 100000 in
instance N9 (g:aQ) (a_:Int) (e_:Int):CM En (ow g a_ e_) 239 [.agg [.int .i64 g.P,.int .i64 g.Q,.int .i64 g.G],.int .i64 a_,.int .i64 e_] (fun y=> .tup [.int .i64 y.1,.int .i64 y.2]) (fun _=> []):=by
 refine cmQ fun r hM=> ?_
 rw [ow.eq_1] at hM
 refine av al ar noJ Tryz.func239 rfl Tryz.ntmps239 (by kernel_rfl) fun hw=>au ?_
 refine spQ ?_
 replace hw:=nzQ hw
 have hF:=aW
 exact auQ
set_option maxHeartbeats 2000000 in
set_option maxRecDepth 100000 in
instance N_ (g:aQ) (a_:Int) (b:Int):CM En (ox g a_ b) 240 [.agg [.int .i64 g.P,.int .i64 g.Q,.int .i64 g.G],.int .i64 a_,.int .i64 b] (fun y=> .tup [.int .i64 y.1,.int .i64 y.2]) (fun _=> []):=by
 refine cmQ fun r hM=> ?_
 rw [ox.eq_1] at hM
 refine av al ar noJ Tryz.func240 rfl Tryz.ntmps240 (by kernel_rfl) fun hw=>au ?_
 refine spQ ?_
 replace hw:=nzQ hw
 have hF:=aW
 exact auQ
set_option maxHeartbeats 2000000 in
set_option maxRecDepth 100000 in
instance Oa (x_:Int) (c0:aQ):CM En (vm x_ c0) 380 [.int .i64 x_,.pp 3 true (.agg [.int .i64 c0.P,.int .i64 c0.Q,.int .i64 c0.G])] (fun y=> .bool y) (fun _=> []):=by
 refine cmQ fun r hM=> ?_
 rw [vm.eq_1] at hM
 refine av al ar noJ Tryz.func380 rfl Tryz.ntmps380 (by kernel_rfl) fun hw=>au ?_
 refine spQ ?_
 replace hw:=nzQ hw
 have hF:=aW
 exact auQ
set_option maxHeartbeats 2000000 in
set_option maxRecDepth 100000 in
instance Ob (s:(List Int)) (f__c0:aQ):CM En (vn s f__c0) 352 [.sl none 1 false (s.map (V.int .i64)),.fn 380 [.pp 3 true (.agg [.int .i64 f__c0.P,.int .i64 f__c0.Q,.int .i64 f__c0.G])]] (fun y=> .int .i64 y) (fun _=> []):=by
 refine cmQ fun r hM=> ?_
 rw [vn.eq_1] at hM
 refine av al ar noJ Tryz.func352 rfl Tryz.ntmps352 (by kernel_rfl) fun hw=>au ?_
 refine spQ ?_
 replace hw:=nzQ hw
 replace hM:=aU hM;obtain ⟨f1,d1,hf1,hd1,hM⟩:=hM
 refine a6 (fun n S=> ∃p:Int,S=(⟨[(0,.sl none 1 false (s.map (V.int .i64))),(1,.fn 380 [.pp 3 true (.agg [.int .i64 f__c0.P,.int .i64 f__c0.Q,.int .i64 f__c0.G])]),(7,.int .i64 (s.length:Int)),(8,.int .i64 p)],[],0⟩:St)∧((0≤p)∧(p≤(s.length:Int)))∧((s.length:Int) - p).toNat<n∧am n f1 d1 p=r) (((s.length:Int) - 0).toNat+1) _ sbQ sbQ ⟨0,rfl,⟨omQ,omQ⟩,(Nat.lt_succ_self _),hM⟩ ?_
 clear hM
 rintro n1 S ⟨p1,rfl,hfa1,hm1,hM⟩
 replace hM:=aV hM (by omega) hf1;obtain ⟨ag1,hag1,hM⟩:=hM
 replace hfa1:=nzQ hfa1
 replace hm1:=nzQ hm1
 have ha1:ax .i64 p1 1=p1+1:=aZ omQ omQ
 refine aa ha1 ?_
 have hF:=ha1
 exact auQ
set_option maxHeartbeats 2000000 in
set_option maxRecDepth 100000 in
instance Oc (s:(List Int)) (f__c0:aQ):CM En (vo s f__c0) 301 [.sl none 1 false (s.map (V.int .i64)),.fn 380 [.pp 3 true (.agg [.int .i64 f__c0.P,.int .i64 f__c0.Q,.int .i64 f__c0.G])]] (fun y=> .bool y) (fun _=> []):=by
 refine cmQ fun r hM=> ?_
 rw [vo.eq_1] at hM
 refine av al ar noJ Tryz.func301 rfl Tryz.ntmps301 (by kernel_rfl) fun hw=>au ?_
 refine spQ ?_
 replace hw:=nzQ hw
 have hF:=aW
 exact auQ
set_option maxHeartbeats 2000000 in
set_option maxRecDepth 100000 in
instance Od (g:aQ) (l:(List Int)):CM En (vq g l) 349 [.agg [.int .i64 g.P,.int .i64 g.Q,.int .i64 g.G],.sl none 1 false (l.map (V.int .i64))] (fun y=> .bool y) (fun _=> []):=by
 refine cmQ fun r hM=> ?_
 rw [vq.eq_1] at hM
 refine av al ar noJ Tryz.func349 rfl Tryz.ntmps349 (by kernel_rfl) fun hw=>au ?_
 refine spQ ?_
 replace hw:=nzQ hw
 have hF:=aW
 exact auQ
set_option maxHeartbeats 2000000 in
set_option maxRecDepth 100000 in
instance Oe (e_:Int) (c0:aQ):CM En (vr e_ c0) 381 [.int .i64 e_,.pp 3 true (.agg [.int .i64 c0.P,.int .i64 c0.Q,.int .i64 c0.G])] (fun y=> .bool y) (fun _=> []):=by
 refine cmQ fun r hM=> ?_
 rw [vr.eq_1] at hM
 refine av al ar noJ Tryz.func381 rfl Tryz.ntmps381 (by kernel_rfl) fun hw=>au ?_
 refine spQ ?_
 replace hw:=nzQ hw
 have hF:=aW
 exact auQ
set_option maxHeartbeats 2000000 in
set_option maxRecDepth 100000 in
instance Of (s:(List Int)) (f__c0:aQ):CM En (vt s f__c0) 352 [.sl none 1 false (s.map (V.int .i64)),.fn 381 [.pp 3 true (.agg [.int .i64 f__c0.P,.int .i64 f__c0.Q,.int .i64 f__c0.G])]] (fun y=> .int .i64 y) (fun _=> []):=by
 refine cmQ fun r hM=> ?_
 rw [vt.eq_1] at hM
 refine av al ar noJ Tryz.func352 rfl Tryz.ntmps352 (by kernel_rfl) fun hw=>au ?_
 refine spQ ?_
 replace hw:=nzQ hw
 replace hM:=aU hM;obtain ⟨f1,d1,hf1,hd1,hM⟩:=hM
 refine a6 (fun n S=> ∃p:Int,S=(⟨[(0,.sl none 1 false (s.map (V.int .i64))),(1,.fn 381 [.pp 3 true (.agg [.int .i64 f__c0.P,.int .i64 f__c0.Q,.int .i64 f__c0.G])]),(7,.int .i64 (s.length:Int)),(8,.int .i64 p)],[],0⟩:St)∧((0≤p)∧(p≤(s.length:Int)))∧((s.length:Int) - p).toNat<n∧am n f1 d1 p=r) (((s.length:Int) - 0).toNat+1) _ sbQ sbQ ⟨0,rfl,⟨omQ,omQ⟩,(Nat.lt_succ_self _),hM⟩ ?_
 clear hM
 rintro n1 S ⟨p1,rfl,hfa1,hm1,hM⟩
 replace hM:=aV hM (by omega) hf1;obtain ⟨ag1,hag1,hM⟩:=hM
 replace hfa1:=nzQ hfa1
 replace hm1:=nzQ hm1
 have ha1:ax .i64 p1 1=p1+1:=aZ omQ omQ
 refine aa ha1 ?_
 have hF:=ha1
 exact auQ
set_option maxHeartbeats 2000000 in
set_option maxRecDepth 100000 in
instance Og (s:(List Int)) (f__c0:aQ):CM En (vu s f__c0) 301 [.sl none 1 false (s.map (V.int .i64)),.fn 381 [.pp 3 true (.agg [.int .i64 f__c0.P,.int .i64 f__c0.Q,.int .i64 f__c0.G])]] (fun y=> .bool y) (fun _=> []):=by
 refine cmQ fun r hM=> ?_
 rw [vu.eq_1] at hM
 refine av al ar noJ Tryz.func301 rfl Tryz.ntmps301 (by kernel_rfl) fun hw=>au ?_
 refine spQ ?_
 replace hw:=nzQ hw
 have hF:=aW
 exact auQ
set_option maxHeartbeats 2000000 in
set_option maxRecDepth 100000 in
instance Oh (g:aQ) (l:(List Int)):CM En (vw g l) 350 [.agg [.int .i64 g.P,.int .i64 g.Q,.int .i64 g.G],.sl none 1 false (l.map (V.int .i64))] (fun y=> .bool y) (fun _=> []):=by
 refine cmQ fun r hM=> ?_
 rw [vw.eq_1] at hM
 refine av al ar noJ Tryz.func350 rfl Tryz.ntmps350 (by kernel_rfl) fun hw=>au ?_
 refine spQ ?_
 replace hw:=nzQ hw
 have hF:=aW
 exact auQ
instance (priority:=1006):DRD 5 45 11 [11,20,21,22,23,24,25,26,27,28,29] [] ([[],[],[],[],[2,3],[2,3,4],[0,1,2,3,4,5],[0,1,2,3,4,5,6],[0,1,2,3,4,5,6,7],[0,1,2,3,4,5,6,7],[0,1,2,3,4,5,6,7,8]]++[List.range 11]) []:=⟨trivial⟩
set_option maxHeartbeats 2000000 in
set_option maxRecDepth 100000 in
theorem Jt (g:aQ) (bases:(List Int)) (exps:(List Int)) (hp0:bases.length=exps.length):CM En (vx g bases exps) 351 [.agg [.int .i64 g.P,.int .i64 g.Q,.int .i64 g.G],.sl none 1 false (bases.map (V.int .i64)),.sl none 1 false (exps.map (V.int .i64))] (fun y=> .tup [.int .i64 y.1,.int .i64 y.2]) (fun _=> []):=by
 refine cmQ fun r hM=> ?_
 rw [vx.eq_1] at hM
 refine av al ar noJ Tryz.func351 rfl Tryz.ntmps351 (by kernel_rfl) fun hw=>au ?_
 refine spQ ?_
 replace hw:=nzQ hw
 replace hM:=aU hM;obtain ⟨f1,d1,hf1,hd1,hM⟩:=hM
 refine a6 (fun n S=> ∃p:Int×Int,S=(⟨[(2,.sl none 1 false (exps.map (V.int .i64))),(3,.ptr 0 0),(8,.int .i64 p.1),(13,.sl none 1 false (bases.map (V.int .i64))),(14,.int .i64 (bases.length:Int)),(15,.int .i64 p.2)],[(0,.var 3 true (.agg [.int .i64 g.P,.int .i64 g.Q,.int .i64 g.G]))],1⟩:St)∧((0≤p.2)∧(p.2≤(bases.length:Int)))∧((bases.length:Int) - p.2).toNat<n∧am n f1 d1 p=r) (((bases.length:Int) - 0).toNat+1) _ sbQ sbQ ⟨(1,0),rfl,⟨omQ,omQ⟩,(Nat.lt_succ_self _),hM⟩ ?_
 clear hM
 rintro n1 S ⟨p1,rfl,hfa1,hm1,hM⟩
 replace hM:=aV hM (by omega) hf1;obtain ⟨ag1,hag1,hM⟩:=hM
 replace hfa1:=nzQ hfa1
 replace hm1:=nzQ hm1
 have ha1:ax .i64 p1.2 1=p1.2+1:=aZ omQ omQ
 refine aa ha1 ?_
 have hF:=ha1
 exact auQ
set_option maxHeartbeats 2000000 in
set_option maxRecDepth 100000 in
instance Oi (g:aQ) (bases:(List Int)) (exps:(List Int)):CM En (vy g bases exps) 300 [.agg [.int .i64 g.P,.int .i64 g.Q,.int .i64 g.G],.sl none 1 false (bases.map (V.int .i64)),.sl none 1 false (exps.map (V.int .i64))] (fun y=> .tup [.int .i64 y.1,.int .i64 y.2]) (fun _=> []):=by
 refine cmQ fun r hM=> ?_
 rw [vy.eq_1] at hM
 refine av al ar noJ Tryz.func300 rfl Tryz.ntmps300 (by kernel_rfl) fun hw=>au ?_
 refine spQ ?_
 replace hw:=nzQ hw
 replace hM:=ao hM;obtain ⟨x1,hx2,hM⟩:=hM
 have hcx1:=cmU hx2
 refine aH hcx1 clQ clQ (fun hw3=> ?_)
 replace hw3:=nzQ hw3
 refine spQ ?_
 refine cr (fun h4=> ?_) (fun h4=> ?_)
 ·rw [if_neg (ap h4)] at hM
  refine aa h4 ?_
  have nh4:=nzQ h4
  try have hr5:=mpQ nh4
  refine aB (fun h6=> ?_) (fun h6=> ?_)
  ·rw [if_pos h6] at hM
   refine aa h6 ?_
   subst hM
   exact aw (az (And.intro h4 h6))
  ·rw [if_neg (ap h6)] at hM
   refine aa h6 ?_
   have nh6:=nzQ h6
   try have hr8:=mpQ nh6
   refine aB (fun h9=> ?_) (fun h9=> ?_)
   ·rw [if_pos h9] at hM
    refine aa h9 ?_
    subst hM
    exact aw (az (And.intro h4 (And.intro h6 h9)))
   ·rw [if_neg (ap h9)] at hM
    refine aa h9 ?_
    have nh9:=nzQ h9
    try have hr11:=mpQ nh9
    replace hM:=ao hM;obtain ⟨x12,hx13,hM⟩:=hM
    have hcx12:=cmU hx13
    refine aH hcx12 clQ clQ (fun hw14=> ?_)
    replace hw14:=nzQ hw14
    refine spQ ?_
    refine cr (fun h15=> ?_) (fun h15=> ?_)
    ·rw [if_neg (ap h15)] at hM
     refine aa h15 ?_
     have nh15:=nzQ h15
     try have hr16:=mpQ nh15
     replace hM:=ao hM;obtain ⟨x17,hx18,hM⟩:=hM
     have hcx17:=cmU hx18
     refine aH hcx17 clQ clQ (fun hw19=> ?_)
     replace hw19:=nzQ hw19
     refine spQ ?_
     refine aB (fun h20=> ?_) (fun h20=> ?_)
     ·rw [if_pos h20] at hM
      refine aa h20 ?_
      subst hM
      exact aw (az (And.intro h4 (And.intro h6 (And.intro h9 (And.intro h15 h20)))))
     ·rw [if_neg (ap h20)] at hM
      refine aa h20 ?_
      have nh20:=nzQ h20
      try have hr22:=mpQ nh20
      replace hM:=ao hM;obtain ⟨x23,hx24,hM⟩:=hM
      have hcx23:=cmH hx24 (Jt g bases exps (by (exact pfQ)))
      refine aH hcx23 clQ clQ (fun hw25=> ?_)
      replace hw25:=nzQ hw25
      refine spQ ?_
      subst hM
      exact aw (az (And.intro h4 (And.intro h6 (And.intro h9 (And.intro h15 h20)))))
    ·rw [if_pos h15] at hM
     refine aa h15 ?_
     subst hM
     exact aw (az (And.intro h4 (And.intro h6 (And.intro h9 h15))))
 ·rw [if_pos h4] at hM
  refine aa h4 ?_
  subst hM
  exact aw (az h4)
set_option maxHeartbeats 2000000 in
set_option maxRecDepth 100000 in
instance Oj (g:aQ) (y:Int) (bases:(List Int)) (exps:(List Int)):CM En (vz g y bases exps) 241 [.agg [.int .i64 g.P,.int .i64 g.Q,.int .i64 g.G],.int .i64 y,.sl none 1 false (bases.map (V.int .i64)),.sl none 1 false (exps.map (V.int .i64))] (fun y=> .bool y) (fun _=> []):=by
 refine cmQ fun r hM=> ?_
 rw [vz.eq_1] at hM
 refine av al ar noJ Tryz.func241 rfl Tryz.ntmps241 (by kernel_rfl) fun hw=>au ?_
 refine spQ ?_
 replace hw:=nzQ hw
 have hF:=aW
 exact auQ
set_option maxHeartbeats 2000000 in
set_option maxRecDepth 100000 in
instance Ok (b:a8) (a_:Int) (k_:Int) (l:fG):CM En (vA b a_ k_ l) 181 [(bS b),.int .i64 a_,.int .i64 k_,.agg [.int .i64 l.B,.int .i64 l.R1,.int .i64 l.R2]] (fun y=> .bool y) (fun _=> []):=by
 refine cmQ fun r hM=> ?_
 rw [vA.eq_1] at hM
 refine av al ar noJ Tryz.func181 rfl Tryz.ntmps181 (by kernel_rfl) fun hw=>au ?_
 refine spQ ?_
 replace hw:=nzQ hw
 have hF:=aW
 exact auQ
set_option maxHeartbeats 2000000 in
set_option maxRecDepth 100000 in
instance Ol (s:(List Int)) (v:Int):CM En (vB s v) 97 [.sl none 1 false (s.map (V.int .i64)),.int .i64 v] (fun y=> .int .i64 y) (fun _=> []):=by
 refine cmQ fun r hM=> ?_
 rw [vB.eq_1] at hM
 refine av al ar noJ Tryz.func97 rfl Tryz.ntmps97 (by kernel_rfl) fun hw=>au ?_
 refine spQ ?_
 replace hw:=nzQ hw
 replace hM:=aU hM;obtain ⟨f1,d1,hf1,hd1,hM⟩:=hM
 refine a6 (fun n S=> ∃p:Int,S=(⟨[(0,.sl none 1 false (s.map (V.int .i64))),(1,.int .i64 v),(7,.int .i64 (s.length:Int)),(8,.int .i64 p)],[],0⟩:St)∧((0≤p)∧(p≤(s.length:Int)))∧((s.length:Int) - p).toNat<n∧am n f1 d1 p=r) (((s.length:Int) - 0).toNat+1) _ sbQ sbQ ⟨0,rfl,⟨omQ,omQ⟩,(Nat.lt_succ_self _),hM⟩ ?_
 clear hM
 rintro n1 S ⟨p1,rfl,hfa1,hm1,hM⟩
 replace hM:=aV hM (by omega) hf1;obtain ⟨ag1,hag1,hM⟩:=hM
 replace hfa1:=nzQ hfa1
 replace hm1:=nzQ hm1
 have ha1:ax .i64 p1 1=p1+1:=aZ omQ omQ
 refine aa ha1 ?_
 have hF:=ha1
 exact auQ
set_option maxHeartbeats 2000000 in
set_option maxRecDepth 100000 in
instance Om (s:(List Int)) (v:Int):CM En (vC s v) 31 [.sl none 1 false (s.map (V.int .i64)),.int .i64 v] (fun y=> .bool y) (fun _=> []):=by
 refine cmQ fun r hM=> ?_
 rw [vC.eq_1] at hM
 refine av al ar noJ Tryz.func31 rfl Tryz.ntmps31 (by kernel_rfl) fun hw=>au ?_
 refine spQ ?_
 replace hw:=nzQ hw
 have hF:=aW
 exact auQ
instance (priority:=1007):DRD 1 8 3 [4,5,6] [] ([[],[],[1]]++[List.range 3,List.range 4]) []:=⟨trivial⟩
set_option maxHeartbeats 2000000 in
set_option maxRecDepth 100000 in
theorem Ju (d_:Int) (c0:Int) (hp0:0≤d_):CM En (vD d_ c0) 302 [.int .i64 d_,.pp 1 false (.int .i64 c0)] (fun y=> .bool y) (fun _=> []):=by
 refine cmQ fun r hM=> ?_
 rw [vD.eq_1] at hM
 refine av al ar noJ Tryz.func302 rfl Tryz.ntmps302 (by kernel_rfl) fun hw=>au ?_
 refine spQ ?_
 replace hw:=nzQ hw
 have hF:=aW
 exact auQ
set_option maxHeartbeats 2000000 in
set_option maxRecDepth 100000 in
theorem Jv (s:(List Int)) (f__c0:Int) (hp0: ∀j:Int,0≤j→j.toNat<s.length→0≤gt s j):CM En (vE s f__c0) 352 [.sl none 1 false (s.map (V.int .i64)),.fn 302 [.pp 1 false (.int .i64 f__c0)]] (fun y=> .int .i64 y) (fun _=> []):=by
 refine cmQ fun r hM=> ?_
 rw [vE.eq_1] at hM
 refine av al ar noJ Tryz.func352 rfl Tryz.ntmps352 (by kernel_rfl) fun hw=>au ?_
 refine spQ ?_
 replace hw:=nzQ hw
 replace hM:=aU hM;obtain ⟨f1,d1,hf1,hd1,hM⟩:=hM
 refine a6 (fun n S=> ∃p:Int,S=(⟨[(0,.sl none 1 false (s.map (V.int .i64))),(1,.fn 302 [.pp 1 false (.int .i64 f__c0)]),(7,.int .i64 (s.length:Int)),(8,.int .i64 p)],[],0⟩:St)∧((0≤p)∧(p≤(s.length:Int)))∧((s.length:Int) - p).toNat<n∧am n f1 d1 p=r) (((s.length:Int) - 0).toNat+1) _ sbQ sbQ ⟨0,rfl,⟨omQ,omQ⟩,(Nat.lt_succ_self _),hM⟩ ?_
 clear hM
 rintro n1 S ⟨p1,rfl,hfa1,hm1,hM⟩
 replace hM:=aV hM (by omega) hf1;obtain ⟨ag1,hag1,hM⟩:=hM
 replace hfa1:=nzQ hfa1
 replace hm1:=nzQ hm1
 have ha1:ax .i64 p1 1=p1+1:=aZ omQ omQ
 refine aa ha1 ?_
 refine aB (fun h2=> ?_) (fun h2=> ?_)
 ·rw [if_pos h2] at hM
  refine aa (And.intro ha1 h2) ?_
  have nh2:=nzQ h2
  try have hr3:=mpQ nh2
  refine aP omQ ?_
  have he4:=fun d=>bE (l:=s) (f:=(V.int .i64)) (i:=p1) omQ d
  refine aa (And.intro ha1 he4) ?_
  replace hM:=ao hM;obtain ⟨x5,hx6,hM⟩:=hM
  have hcx5:=cmH hx6 (Ju (gt s p1) f__c0 (by (exact hp0 _ (by omega) (by omega))))
  refine aH hcx5 (aC (And.intro ha1 he4)) (aC (And.intro ha1 he4)) (fun hw7=> ?_)
  replace hw7:=nzQ hw7
  refine aa (And.intro ha1 he4) ?_
  have hF:=(And.intro ha1 (And.intro h2 he4))
  exact auQ
 ·rw [if_neg (ap h2)] at hM
  refine aa (And.intro ha1 h2) ?_
  subst hM
  exact aw (az (And.intro ha1 h2))
set_option maxHeartbeats 2000000 in
set_option maxRecDepth 100000 in
theorem Jw (s:(List Int)) (f__c0:Int) (hp0: ∀j:Int,0≤j→j.toNat<s.length→0≤gt s j):CM En (vF s f__c0) 301 [.sl none 1 false (s.map (V.int .i64)),.fn 302 [.pp 1 false (.int .i64 f__c0)]] (fun y=> .bool y) (fun _=> []):=by
 refine cmQ fun r hM=> ?_
 rw [vF.eq_1] at hM
 refine av al ar noJ Tryz.func301 rfl Tryz.ntmps301 (by kernel_rfl) fun hw=>au ?_
 refine spQ ?_
 replace hw:=nzQ hw
 replace hM:=ao hM;obtain ⟨x1,hx2,hM⟩:=hM
 have hcx1:=cmH hx2 (Jv s f__c0 (by (exact hp0)))
 refine aH hcx1 clQ clQ (fun hw3=> ?_)
 replace hw3:=nzQ hw3
 refine spQ ?_
 subst hM
 exact aw lfQ
set_option maxHeartbeats 2000000 in
set_option maxRecDepth 100000 in
instance On (n_:Int):CM En (vG n_) 242 [.int .i64 n_] (fun y=> .bool y) (fun _=> []):=by
 refine cmQ fun r hM=> ?_
 rw [vG.eq_1] at hM
 refine av al ar noJ Tryz.func242 rfl Tryz.ntmps242 (by kernel_rfl) fun hw=>au ?_
 refine spQ ?_
 replace hw:=nzQ hw
 replace hM:=ao hM;obtain ⟨x1,hx2,hM⟩:=hM
 have hcx1:=cmH hx2 (Jw ([0,1,2,3,4,5]:List Int) n_ (by (exact H6)))
 refine gZ hcx1 clQ clQ (fun hw3=> ?_)
 replace hw3:=nzQ hw3
 refine spQ ?_
 subst hM
 exact aw lfQ
set_option maxHeartbeats 2000000 in
set_option maxRecDepth 100000 in
instance Oo (b:(List Int)):CM En (vH b) 243 [.sl none 1 false (b.map (V.int .u8))] (fun y=> .tup [(aI y.1),.int .i64 y.2]) (fun _=> []):=by
 refine cmQ fun r hM=> ?_
 rw [vH.eq_1] at hM
 refine av al ar noJ Tryz.func243 rfl Tryz.ntmps243 (by kernel_rfl) fun hw=>au ?_
 refine spQ ?_
 replace hw:=nzQ hw
 refine aB (fun h1=> ?_) (fun h1=> ?_)
 ·rw [if_pos h1] at hM
  refine aa h1 ?_
  subst hM
  exact aw (az h1)
 ·rw [if_neg (ap h1)] at hM
  refine aa h1 ?_
  have nh1:=nzQ h1
  try have hr3:=mpQ nh1
  replace hM:=ao hM;obtain ⟨x4,hx5,hM⟩:=hM
  have hcx4:=cmH hx5 (iC ([115,112,101,99,105,101,47,108,101,97,102]) b (by (exact pfQ)))
  refine aH hcx4 clQ clQ (fun hw6=> ?_)
  replace hw6:=nzQ hw6
  refine spQ ?_
  subst hM
  exact aw (az h1)
set_option maxHeartbeats 2000000 in
set_option maxRecDepth 100000 in
instance Oq (b:a8) (l:(List Int)):CM En (vI b l) 182 [(bS b),.sl none 1 false (l.map (V.int .i64))] (fun y=> .tup [.sl none 32 true (y.1.map aI),.int .i64 y.2]) (fun _=> []):=by
 refine cmQ fun r hM=> ?_
 rw [vI.eq_1] at hM
 refine av al ar noJ Tryz.func182 rfl Tryz.ntmps182 (by kernel_rfl) fun hw=>au ?_
 refine spQ ?_
 replace hw:=nzQ hw
 replace hM:=ao hM;obtain ⟨x1,hx2,hM⟩:=hM
 have hcx1:=cmU hx2
 refine aH hcx1 clQ clQ (fun hw3=> ?_)
 replace hw3:=nzQ hw3
 refine spQ ?_
 refine cr (fun h4=> ?_) (fun h4=> ?_)
 ·rw [if_neg (ap h4)] at hM
  refine aa h4 ?_
  have nh4:=nzQ h4
  try have hr5:=mpQ nh4
  replace hM:=ao hM;obtain ⟨x6,hx7,hM⟩:=hM
  have hcx6:=cmU hx7
  refine aH hcx6 clQ clQ (fun hw8=> ?_)
  replace hw8:=nzQ hw8
  refine spQ ?_
  refine aB (fun h9=> ?_) (fun h9=> ?_)
  ·rw [if_pos h9] at hM
   refine aa h9 ?_
   subst hM
   exact aw (az (And.intro h4 h9))
  ·rw [if_neg (ap h9)] at hM
   refine aa h9 ?_
   have nh9:=nzQ h9
   try have hr11:=mpQ nh9
   replace hM:=aU hM;obtain ⟨f12,d12,hf12,hd12,hM⟩:=hM
   refine fC (fun n S=> ∃p:Int×List (List Int),S=(⟨[(2,.ptr 0 0),(6,.own 1),(22,.sl none 1 false (l.map (V.int .i64))),(23,.int .i64 (l.length:Int)),(24,.int .i64 p.1)],[(0,.var 6 true ((bS b))),(1,.own 28 32 true none (p.2.map aI))],2⟩:St)∧((0≤p.1)∧(p.1≤(l.length:Int))∧(((p.2).length:Int)≤p.1))∧((l.length:Int) - p.1).toNat<n∧am n f12 d12 p=r) (((l.length:Int) - 0).toNat+1) _ _ (jI 6 28 rfl (by decide)) sbQ sbQ ⟨(0,([]:List (List Int))),rfl,⟨omQ,omQ,omQ⟩,(Nat.lt_succ_self _),hM⟩ ?_
   clear hM
   rintro n12 S ⟨p12,rfl,hfa12,hm12,hM⟩
   replace hM:=aV hM (by omega) hf12;obtain ⟨ag12,hag12,hM⟩:=hM
   replace hfa12:=nzQ hfa12
   replace hm12:=nzQ hm12
   have ha12:ax .i64 p12.1 1=p12.1+1:=aZ omQ omQ
   refine aa ha12 ?_
   refine aB (fun h13=> ?_) (fun h13=> ?_)
   ·rw [if_pos h13] at hM
    refine aa (And.intro ha12 h13) ?_
    have nh13:=nzQ h13
    try have hr14:=mpQ nh13
    refine aP omQ ?_
    have he15:=fun d=>bE (l:=l) (f:=(V.int .i64)) (i:=p12.1) omQ d
    refine aa (And.intro ha12 he15) ?_
    replace hM:=ao hM;obtain ⟨x16,hx17,hM⟩:=hM
    have hcx16:=cmU hx17
    refine aH hcx16 (aC (And.intro ha12 he15)) (aC (And.intro ha12 he15)) (fun hw18=> ?_)
    replace hw18:=nzQ hw18
    refine aa (And.intro ha12 he15) ?_
    refine aB (fun h19=> ?_) (fun h19=> ?_)
    ·rw [if_pos h19] at hM
     refine aa (And.intro ha12 (And.intro he15 h19)) ?_
     subst hM
     exact aw (az (And.intro ha12 (And.intro he15 (And.intro h4 (And.intro h9 (And.intro h13 h19))))))
    ·rw [if_neg (ap h19)] at hM
     refine aa (And.intro ha12 (And.intro he15 h19)) ?_
     have nh19:=nzQ h19
     try have hr21:=mpQ nh19
     replace hM:=ao hM;obtain ⟨x22,hx23,hM⟩:=hM
     have hcx22:=cmH hx23 (km ({Kind:=1,N:=(gt l p12.1),B:=([]:List Int),L:=([]:List ak)}:ak) (by (simp [hgt,bK])))
     refine aH hcx22 (aC (And.intro ha12 he15)) (aC (And.intro ha12 he15)) (fun hw24=> ?_)
     replace hw24:=nzQ hw24
     refine aa (And.intro ha12 he15) ?_
     have hq25:=kl hx23
     replace hq25:=nzQ hq25
     have hF:=(And.intro h4 (And.intro h9 (And.intro ha12 (And.intro h13 (And.intro he15 h19)))))
     exact auQ
   ·rw [if_neg (ap h13)] at hM
    refine aa (And.intro ha12 h13) ?_
    subst hM
    exact aw (az (And.intro ha12 (And.intro h4 (And.intro h9 h13))))
 ·rw [if_pos h4] at hM
  refine aa h4 ?_
  subst hM
  exact aw (az h4)
set_option maxHeartbeats 2000000 in
set_option maxRecDepth 100000 in
instance Ot (n_:Int):CM En (ka n_) 353 [.int .i64 n_] (fun y=> .tup [.int .i64 y.1,.int .i64 y.2]) (fun _=> []):=by
 refine cmQ fun r hM=> ?_
 rw [ka.eq_1] at hM
 refine av al ar noJ Tryz.func353 rfl Tryz.ntmps353 (by kernel_rfl) fun hw=>au ?_
 refine spQ ?_
 replace hw:=nzQ hw
 replace hM:=aU hM;obtain ⟨f1,d1,hf1,hd1,hM⟩:=hM
 refine a6 (fun n S=> ∃p:Int,S=(⟨[(0,.int .i64 n_),(5,.int .i64 p)],[],0⟩:St)∧((0≤p)∧(p≤11))∧((11:Int) - p).toNat<n∧am n f1 d1 p=r) (((11:Int) - 0).toNat+1) _ sbQ sbQ ⟨0,rfl,⟨omQ,omQ⟩,(Nat.lt_succ_self _),hM⟩ ?_
 clear hM
 rintro n1 S ⟨p1,rfl,hfa1,hm1,hM⟩
 replace hM:=aV hM (by omega) hf1;obtain ⟨ag1,hag1,hM⟩:=hM
 replace hfa1:=nzQ hfa1
 replace hm1:=nzQ hm1
 have ha1:ax .i64 p1 1=p1+1:=aZ omQ omQ
 refine aa ha1 ?_
 have hF:=ha1
 exact auQ
set_option maxHeartbeats 2000000 in
set_option maxRecDepth 100000 in
theorem Jy (slices:(List (List Int))) (hp0:slices.length≤2) (hp1: ∀j:Int,(gt slices j).length≤32):CM En (mW slices) 355 [.sl none 1 false (slices.map (fun (l:List Int)=>V.sl none 1 false (l.map (V.int .u8))))] (fun _=> .own 0) (fun y=> [.own 5 1 false none (y.map (V.int .u8))]):=by
 refine cmQ fun r hM=> ?_
 rw [mW.eq_1] at hM
 refine av al ar noJ Tryz.func355 rfl Tryz.ntmps355 (by kernel_rfl) fun hw=>au ?_
 refine spQ ?_
 replace hw:=nzQ hw
 replace hM:=aU hM;obtain ⟨f1,d1,hf1,hd1,hM⟩:=hM
 refine a6 (fun n S=> ∃p:Int×Int,S=(⟨[(0,.sl none 1 false (slices.map (fun (l:List Int)=>V.sl none 1 false (l.map (V.int .u8))))),(3,.int .i64 p.1),(9,.sl none 1 false (slices.map (fun (l:List Int)=>V.sl none 1 false (l.map (V.int .u8))))),(10,.int .i64 (slices.length:Int)),(11,.int .i64 p.2)],[],0⟩:St)∧((0≤p.2)∧(p.2≤(slices.length:Int))∧(0≤p.1)∧(p.1≤32*p.2))∧((slices.length:Int) - p.2).toNat<n∧am n f1 d1 p=r) (((slices.length:Int) - 0).toNat+1) _ sbQ sbQ ⟨(0,0),rfl,⟨by (first|exact omQ|(clear hM;first|(have h9:=hp1 p1.2;exact aq)|(have h9:=hp1 p13.1;exact aq)|(have h9:=hp1 p14.1;exact aq))),by (first|exact omQ|(clear hM;first|(have h9:=hp1 p1.2;exact aq)|(have h9:=hp1 p13.1;exact aq)|(have h9:=hp1 p14.1;exact aq))),by (first|exact omQ|(clear hM;first|(have h9:=hp1 p1.2;exact aq)|(have h9:=hp1 p13.1;exact aq)|(have h9:=hp1 p14.1;exact aq))),by (first|exact omQ|(clear hM;first|(have h9:=hp1 p1.2;exact aq)|(have h9:=hp1 p13.1;exact aq)|(have h9:=hp1 p14.1;exact aq)))⟩,(Nat.lt_succ_self _),hM⟩ ?_
 clear hM
 rintro n1 S ⟨p1,rfl,hfa1,hm1,hM⟩
 replace hM:=aV hM (by omega) hf1;obtain ⟨ag1,hag1,hM⟩:=hM
 replace hfa1:=nzQ hfa1
 replace hm1:=nzQ hm1
 have ha1:ax .i64 p1.2 1=p1.2+1:=aZ (by (first|exact omQ|(clear hM;first|(have h9:=hp1 p1.2;exact aq)|(have h9:=hp1 p13.1;exact aq)|(have h9:=hp1 p14.1;exact aq)))) (by (first|exact omQ|(clear hM;first|(have h9:=hp1 p1.2;exact aq)|(have h9:=hp1 p13.1;exact aq)|(have h9:=hp1 p14.1;exact aq))))
 refine aa ha1 ?_
 refine aB (fun h2=> ?_) (fun h2=> ?_)
 ·rw [if_pos h2] at hM
  refine aa (And.intro ha1 h2) ?_
  have nh2:=nzQ h2
  try have hr3:=mpQ nh2
  refine aP (by (first|exact omQ|(clear hM;first|(have h9:=hp1 p1.2;exact aq)|(have h9:=hp1 p13.1;exact aq)|(have h9:=hp1 p14.1;exact aq)))) ?_
  have he4:=fun d=>bE (l:=slices) (f:=(fun (l:List Int)=>V.sl none 1 false (l.map (V.int .u8)))) (i:=p1.2) (by (first|exact omQ|(clear hM;first|(have h9:=hp1 p1.2;exact aq)|(have h9:=hp1 p13.1;exact aq)|(have h9:=hp1 p14.1;exact aq)))) d
  refine aa (And.intro ha1 he4) ?_
  have ha5:ax .i64 p1.1 ((gt slices p1.2).length:Int)=(p1.1+((gt slices p1.2).length:Int)):=ur (by (first|exact omQ|(clear hM;first|(have h9:=hp1 p1.2;exact aq)|(have h9:=hp1 p13.1;exact aq)|(have h9:=hp1 p14.1;exact aq)))) (by (first|exact omQ|(clear hM;first|(have h9:=hp1 p1.2;exact aq)|(have h9:=hp1 p13.1;exact aq)|(have h9:=hp1 p14.1;exact aq))))
  try simp only [ha5]
  refine aB (fun h6=> ?_) (fun h6=> ?_)
  ·rw [if_pos h6] at hM
   refine aa (And.intro ha1 (And.intro he4 (And.intro ha5 h6))) ?_
   have nh6:=nzQ h6
   try have hr7:=mpQ nh6
   exact False.elim (by (first|exact omQ|(clear hM;first|(have h9:=hp1 p1.2;exact aq)|(have h9:=hp1 p13.1;exact aq)|(have h9:=hp1 p14.1;exact aq))))
  ·rw [if_neg (ap h6)] at hM
   refine aa (And.intro ha1 (And.intro he4 (And.intro ha5 h6))) ?_
   have nh6:=nzQ h6
   try have hr8:=mpQ nh6
   refine bM (n1 - 1) _ (by omega) sbQ sbQ ⟨((p1.1+((gt slices p1.2).length:Int)),(p1.2+1)),rfl,⟨by (first|exact omQ|(clear hM;first|(have h9:=hp1 p1.2;exact aq)|(have h9:=hp1 p13.1;exact aq)|(have h9:=hp1 p14.1;exact aq))),by (first|exact omQ|(clear hM;first|(have h9:=hp1 p1.2;exact aq)|(have h9:=hp1 p13.1;exact aq)|(have h9:=hp1 p14.1;exact aq))),by (first|exact omQ|(clear hM;first|(have h9:=hp1 p1.2;exact aq)|(have h9:=hp1 p13.1;exact aq)|(have h9:=hp1 p14.1;exact aq))),by (first|exact omQ|(clear hM;first|(have h9:=hp1 p1.2;exact aq)|(have h9:=hp1 p13.1;exact aq)|(have h9:=hp1 p14.1;exact aq)))⟩,by (first|exact omQ|(clear hM;first|(have h9:=hp1 p1.2;exact aq)|(have h9:=hp1 p13.1;exact aq)|(have h9:=hp1 p14.1;exact aq))),bI hM hag1⟩
 ·rw [if_neg (ap h2)] at hM
  refine aa (And.intro ha1 h2) ?_
  have nh2:=nzQ h2
  try have hr9:=mpQ nh2
  replace hM:=ao hM;obtain ⟨x10,hx11,hM⟩:=hM
  have hcx10:=I8 (some true) ([]:List Int) (p1.1) (by (first|rfl|omega)) (by (first|rfl|omega)) (by (first|rfl|omega)) (by (first|rfl|omega))
  rw [←hx11] at hcx10
  refine aH hcx10 (aC ha1) (aC ha1) (fun hw12=> ?_)
  replace hw12:=nzQ hw12
  refine aa ha1 ?_
  have hq13:=I4 hx11
  replace hq13:=nzQ hq13
  replace hM:=aU hM;obtain ⟨f14,d14,hf14,hd14,hM⟩:=hM
  refine a6 (fun n S=> ∃p:Int×List Int,S=(⟨[(6,.own 0),(25,.sl none 1 false (slices.map (fun (l:List Int)=>V.sl none 1 false (l.map (V.int .u8))))),(26,.int .i64 (slices.length:Int)),(27,.int .i64 p.1)],[(0,.own 5 1 false none (p.2.map (V.int .u8)))],1⟩:St)∧((0≤p.1)∧(p.1≤(slices.length:Int))∧(((p.2).length:Int)≤32*p.1))∧((slices.length:Int) - p.1).toNat<n∧am n f14 d14 p=r) (((slices.length:Int) - 0).toNat+1) _ sbQ sbQ ⟨(0,x10),rfl,⟨by (first|exact omQ|(clear hM;first|(have h9:=hp1 p1.2;exact aq)|(have h9:=hp1 p13.1;exact aq)|(have h9:=hp1 p14.1;exact aq))),by (first|exact omQ|(clear hM;first|(have h9:=hp1 p1.2;exact aq)|(have h9:=hp1 p13.1;exact aq)|(have h9:=hp1 p14.1;exact aq))),by (first|exact omQ|(clear hM;first|(have h9:=hp1 p1.2;exact aq)|(have h9:=hp1 p13.1;exact aq)|(have h9:=hp1 p14.1;exact aq)))⟩,(Nat.lt_succ_self _),hM⟩ ?_
  clear hM
  rintro n14 S ⟨p14,rfl,hfa14,hm14,hM⟩
  replace hM:=aV hM (by omega) hf14;obtain ⟨ag14,hag14,hM⟩:=hM
  replace hfa14:=nzQ hfa14
  replace hm14:=nzQ hm14
  have ha14:ax .i64 p14.1 1=p14.1+1:=aZ (by (first|exact omQ|(clear hM;first|(have h9:=hp1 p1.2;exact aq)|(have h9:=hp1 p13.1;exact aq)|(have h9:=hp1 p14.1;exact aq)))) (by (first|exact omQ|(clear hM;first|(have h9:=hp1 p1.2;exact aq)|(have h9:=hp1 p13.1;exact aq)|(have h9:=hp1 p14.1;exact aq))))
  refine aa (And.intro ha1 ha14) ?_
  refine aB (fun h15=> ?_) (fun h15=> ?_)
  ·rw [if_pos h15] at hM
   refine aa (And.intro ha1 (And.intro ha14 h15)) ?_
   have nh15:=nzQ h15
   try have hr16:=mpQ nh15
   refine aP (by (first|exact omQ|(clear hM;first|(have h9:=hp1 p1.2;exact aq)|(have h9:=hp1 p13.1;exact aq)|(have h9:=hp1 p14.1;exact aq)))) ?_
   have he17:=fun d=>bE (l:=slices) (f:=(fun (l:List Int)=>V.sl none 1 false (l.map (V.int .u8)))) (i:=p14.1) (by (first|exact omQ|(clear hM;first|(have h9:=hp1 p1.2;exact aq)|(have h9:=hp1 p13.1;exact aq)|(have h9:=hp1 p14.1;exact aq)))) d
   refine aa (And.intro ha1 (And.intro ha14 he17)) ?_
   refine aP (by (first|exact omQ|(clear hM;first|(have h9:=hp1 p1.2;exact aq)|(have h9:=hp1 p13.1;exact aq)|(have h9:=hp1 p14.1;exact aq)))) ?_
   refine aa (And.intro ha1 (And.intro ha14 he17)) ?_
   refine bM (n14 - 1) _ (by omega) sbQ sbQ ⟨((p14.1+1),(p14.2++(gt slices p14.1))),rfl,⟨by (first|exact omQ|(clear hM;first|(have h9:=hp1 p1.2;exact aq)|(have h9:=hp1 p13.1;exact aq)|(have h9:=hp1 p14.1;exact aq))),by (first|exact omQ|(clear hM;first|(have h9:=hp1 p1.2;exact aq)|(have h9:=hp1 p13.1;exact aq)|(have h9:=hp1 p14.1;exact aq))),by (first|exact omQ|(clear hM;first|(have h9:=hp1 p1.2;exact aq)|(have h9:=hp1 p13.1;exact aq)|(have h9:=hp1 p14.1;exact aq)))⟩,by (first|exact omQ|(clear hM;first|(have h9:=hp1 p1.2;exact aq)|(have h9:=hp1 p13.1;exact aq)|(have h9:=hp1 p14.1;exact aq))),bI hM hag14⟩
  ·rw [if_neg (ap h15)] at hM
   refine aa (And.intro ha1 (And.intro ha14 h15)) ?_
   have nh15:=nzQ h15
   try have hr18:=mpQ nh15
   subst hM
   exact uy [0] (bs:=[.own 5 1 false none (p14.2.map (V.int .u8))]) (aC (And.intro ha1 ha14)) (by decide) (az (And.intro ha1 (And.intro ha14 (And.intro h2 h15))))
set_option maxHeartbeats 2000000 in
set_option maxRecDepth 100000 in
instance Ou (l:(List Int)) (r_:(List Int)):CM En (jd l r_) 304 [(aI l),(aI r_)] (fun y=>(aI y)) (fun _=> []):=by
 refine cmQ fun r hM=> ?_
 rw [jd.eq_1] at hM
 refine av al ar [1] Tryz.func304 rfl Tryz.ntmps304 (by kernel_rfl) fun hw=>au ?_
 refine spQ ?_
 replace hw:=nzQ hw
 refine gy ?_
 try refine spQ ?_
 refine g8 _ (⟨[(2,.ptr 0 0),(3,.ptr 1 0),(4,.ptr 2 0)],[(0,.pvar 32 true ((aI l))),(1,.pvar 32 true ((aI r_))),(2,.var 32 true (fJ))],3⟩:St) ((g7 (S:=⟨_,_,_⟩) 0 (n:=32) (g:=true) (d:=(aI l)) clQ clQ).trans (g7 (S:=⟨_,_,_⟩) 1 (n:=32) (g:=true) (d:=(aI r_)) clQ clQ)) sbQ sbQ ?_
 try refine spQ ?_
 refine bN 16 10 [5,7,8,9,10,11,12,13,14] [] ([[],[],[0,1],[0,1,2],[0,1,2,3],[0,1,2,3,4],[0,1,2,3,4,5],[0,1,2,3,4,5],[],[0,1,2,3,4,5,6,8]]++[List.range 10]) [(2,5),(9,11)] (by kernel_rfl) (by exact alQ) ?_
 refine spQ ?_
 replace hM:=ao hM;obtain ⟨x1,hx2,hM⟩:=hM
 have hcx1:=bk.pub (cmH hx2 (Jy ([(bc 32 l),(bc 32 r_)]:List (List Int)) (by (first|exact AE (Nat.le_of_eq ce) (Nat.le_of_eq ce)|exact Nat.le_refl _)) (by (first|exact AE (Nat.le_of_eq ce) (Nat.le_of_eq ce)|exact Nat.le_refl _))))
 refine bp hcx1 clQ clQ ?_
 refine spQ ?_
 have hq3:=II hx2 (Nat.le_of_eq ce) (Nat.le_of_eq ce)
 replace hq3:=nzQ hq3
 replace hM:=ao hM;obtain ⟨x4,hx5,hM⟩:=hM
 have hcx4:=cmH hx5 (iC ([115,112,101,99,105,101,47,110,111,100,101]) x1 (by (omega)))
 refine bp hcx4 clQ clQ ?_
 refine spQ ?_
 subst hM
 exact aw lfQ
set_option maxHeartbeats 2000000 in
set_option maxRecDepth 100000 in
theorem Jz (z0:Option Bool) (s:(List (List (List Int)))):uK En 383 52 1 false z0 (s.map (fun (l:List (List Int))=>V.sl none 32 true (l.map aI))) ((lq s).map (fun (l:List (List Int))=>V.sl none 32 true (l.map aI))):=by
 generalize hM:lq s=r
 rw [lq.eq_1] at hM
 refine GP al ar noJ Tryz.func383 rfl Tryz.ntmps383 (by kernel_rfl) fun hw0 hw=>au ?_
 simp only [bQ]
 replace hw0:=nzQ hw0
 refine spQ ?_
 replace hw:=nzQ hw
 have ha1:aG .i64 (s.length:Int) 1=((s.length:Int) - 1):=dl omQ omQ
 try simp only [ha1]
 replace hM:=aU hM;obtain ⟨f2,d2,hf2,hd2,hM⟩:=hM
 refine a6 (fun n S=> ∃p:Int×Int×List (List (List Int)),S=(⟨[(0,.own 0),(2,.int .i64 p.1),(3,.int .i64 p.2.1),(100000,.own 0)],[(0,.own 52 1 false none (p.2.2.map (fun (l:List (List Int))=>V.sl none 32 true (l.map aI))))],1⟩:St)∧((0≤p.1)∧(p.1≤(s.length:Int))∧(-1≤p.2.1)∧(p.2.1<(s.length:Int))∧((p.2.2).length=(s).length))∧(p.2.1 - p.1).toNat<n∧am n f2 d2 p=r) ((((s.length:Int) - 1) - 0).toNat+1) _ sbQ sbQ ⟨(0,((s.length:Int) - 1),s),rfl,⟨omQ,omQ,omQ,omQ,omQ⟩,(Nat.lt_succ_self _),hM⟩ ?_
 clear hM
 rintro n2 S ⟨p2,rfl,hfa2,hm2,hM⟩
 replace hM:=aV hM (by omega) hf2;obtain ⟨ag2,hag2,hM⟩:=hM
 replace hfa2:=nzQ hfa2
 replace hm2:=nzQ hm2
 have ha2:ax .i64 p2.1 1=p2.1+1:=aZ omQ omQ
 refine aa (And.intro ha1 ha2) ?_
 refine aB (fun h3=> ?_) (fun h3=> ?_)
 ·rw [if_pos h3] at hM
  refine aa (And.intro ha1 (And.intro ha2 h3)) ?_
  have nh3:=nzQ h3
  try have hr4:=mpQ nh3
  refine bN 28 14 [14,15,16,17,18,19,20,21,22,23,24,25,26] [] ([[],[],[],[],[],[],[4,5],[4,5,6],[],[],[8,9],[8,9,10],[0,1],[0,1,4,5,6,7,8,9,10,11,12]]++[List.range 14,List.range 15]) [(13,0)] (by kernel_rfl) (by exact alQ) ?_
  refine aa (And.intro ha1 ha2) ?_
  refine b_ omQ ?_
  have he5:=fun d=>bE (l:=p2.2.2) (f:=(fun (l:List (List Int))=>V.sl none 32 true (l.map aI))) (i:=p2.2.1) omQ d
  refine aa (And.intro ha1 (And.intro ha2 he5)) ?_
  refine b_ omQ ?_
  refine aa (And.intro ha1 (And.intro ha2 he5)) ?_
  refine b_ omQ ?_
  have he6:=fun d=>bE (l:=p2.2.2) (f:=(fun (l:List (List Int))=>V.sl none 32 true (l.map aI))) (i:=p2.1) omQ d
  refine aa (And.intro ha1 (And.intro ha2 (And.intro he5 he6))) ?_
  refine b_ omQ ?_
  refine aa (And.intro ha1 (And.intro ha2 (And.intro he5 he6))) ?_
  refine b_ omQ ?_
  refine aa (And.intro ha1 (And.intro ha2 (And.intro he5 he6))) ?_
  refine qk omQ clQ ?_
  refine aa (And.intro ha1 (And.intro ha2 (And.intro he5 he6))) ?_
  refine aP omQ ?_
  have he7:=fun d=>bE (l:=(st p2.2.2 p2.1 (gt p2.2.2 p2.2.1))) (f:=(fun (l:List (List Int))=>V.sl none 32 true (l.map aI))) (i:=p2.2.1) omQ d
  refine aa (And.intro ha1 (And.intro ha2 (And.intro he5 (And.intro he6 he7)))) ?_
  refine aP omQ ?_
  refine aa (And.intro ha1 (And.intro ha2 (And.intro he5 (And.intro he6 he7)))) ?_
  have ha8:aG .i64 p2.2.1 1=(p2.2.1 - 1):=dl omQ omQ
  try simp only [ha8]
  refine bM (n2 - 1) _ (by omega) sbQ sbQ ⟨((p2.1+1),(p2.2.1 - 1),(st (st p2.2.2 p2.1 (gt p2.2.2 p2.2.1)) p2.2.1 (gt p2.2.2 p2.1))),rfl,⟨omQ,omQ,omQ,omQ,omQ⟩,omQ,bI hM hag2⟩
 ·rw [if_neg (ap h3)] at hM
  refine aa (And.intro ha1 (And.intro ha2 h3)) ?_
  have nh3:=nzQ h3
  try have hr9:=mpQ nh3
  subst hM
  first|exact zH (by simp) rfl rfl (az (And.intro ha1 (And.intro ha2 h3)))|exact Gk (zH (by simp) rfl rfl (az (And.intro ha1 (And.intro ha2 h3))))
set_option maxHeartbeats 2000000 in
set_option maxRecDepth 100000 in
theorem JA (l:(List (List Int))) (hp0:jW l):CM En (oy l) 354 [.sl none 32 true (l.map aI)] (fun y=> .sl none 1 false (y.map (fun (l:List (List Int))=>V.sl none 32 true (l.map aI)))) (fun _=> []):=by
 refine cmQ fun r hM=> ?_
 rw [oy.eq_1] at hM
 refine av al ar [7] Tryz.func354 rfl Tryz.ntmps354 (by kernel_rfl) fun hw=>au ?_
 refine spQ ?_
 replace hw:=nzQ hw
 replace hM:=aU hM;obtain ⟨f1,d1,hf1,hd1,hM⟩:=hM
 refine a6 (fun n S=> ∃p:List (List Int)×List (List (List Int)),S=(⟨[(0,.sl none 32 true (p.1.map aI)),(3,.own 0)],[(0,.own 52 1 false none (p.2.map (fun (l:List (List Int))=>V.sl none 32 true (l.map aI))))],1⟩:St)∧((jW p.1)∧((p.2).length+(p.1).length≤l.length+1))∧(p.1).length<n∧am n f1 d1 p=r) ((l).length+1) _ sbQ sbQ ⟨(l,([l]:List (List (List Int)))),rfl,⟨by exact hp0,by (simp only [List.length_cons,List.length_nil];omega)⟩,(Nat.lt_succ_self _),hM⟩ ?_
 clear hM
 rintro n1 S ⟨p1,rfl,⟨hF2_0,hF2_1⟩,hm1,hM⟩
 replace hM:=aV hM (by omega) hf1;obtain ⟨ag1,hag1,hM⟩:=hM
 replace hm1:=nzQ hm1
 refine spQ ?_
 refine aB (fun h2=> ?_) (fun h2=> ?_)
 ·rw [if_pos h2] at hM
  refine aa h2 ?_
  have nh2:=nzQ h2
  try have hr3:=mpQ nh2
  refine gy ?_
  try refine spQ ?_
  refine aH (IM none (p1.1)) clQ clQ (fun hw4=> ?_)
  refine spQ ?_
  replace hM:=Gg hM;obtain ⟨f5,d5,hf5,hd5,hM⟩:=hM
  refine Gm (cw p1.1) (fun y5=> [.sl none 32 true (y5.map aI)]) (fun p:List (List Int)=>(⟨[(3,.own 0),(4,.ptr 1 0),(12,.fn 399 [.pp 1 false (.sl none 32 true (p1.1.map aI)),.pp 1 false (.int .i64 2)])],[(0,.own 52 1 false none (p1.2.map (fun (l:List (List Int))=>V.sl none 32 true (l.map aI)))),(1,.var 1 false (.own 2)),(2,.own 28 32 true none (p.map aI))],3⟩:St)) (fun (k5:Nat) (p:List (List Int))=>((p).length=k5)) hM (IQ (Hi hF2_0 (by omega))) clQ clQ ⟨rfl,by decide,by decide⟩ (fun _=>rfl) (GA 1 28 rfl (by decide)) sbQ sbQ (by rfl) (fun _ _ _=>rfl) (fun ag5 k5 y5 p5 r5 K5 hy5 hk5 hf5a hM hN5 hR5=> ?_) (fun p5 hf5a hM=> ?_)
  ·replace hM:=Gh hM hf5
   have hF6_0:=hf5a
   have hl5:=zY hy5
   have hc5:=AF (l:=p1.1)
   refine Gj (S':=(⟨[(5,.sl none 32 true (y5.map aI)),(13,.sl none 32 true (y5.map aI)),(3,.own 0),(4,.ptr 1 0),(12,.fn 399 [.pp 1 false (.sl none 32 true (p1.1.map aI)),.pp 1 false (.int .i64 2)]),(100003,.own 0),(100004,.ptr 1 0),(100012,.fn 399 [.pp 1 false (.sl none 32 true (p1.1.map aI)),.pp 1 false (.int .i64 2)])],[(0,.own 52 1 false none (p1.2.map (fun (l:List (List Int))=>V.sl none 32 true (l.map aI)))),(1,.var 1 false (.own 2)),(2,.own 28 32 true none (p5.map aI))],3⟩:St)) rfl ?_
   try refine spQ ?_
   refine bN 32 9 [14,15,16,17,18,19,20,21,22] [] ([[],[],[1],[1,2],[],[4],[4,5],[1,2,3,4,5,6],[1,2,3,4,5,6,7]]++[List.range 9,List.range 10]) [] (by kernel_rfl) (by exact alQ) ?_
   refine spQ ?_
   refine b_ omQ ?_
   have he6: ∀d,elt (y5.map aI) 0 d=aI (gt y5 0):=fun d=>bE (l:=y5) (f:=aI) (i:=0) omQ d
   refine aa he6 ?_
   refine b_ omQ ?_
   have he7: ∀d,elt (y5.map aI) 1 d=aI (gt y5 1):=fun d=>bE (l:=y5) (f:=aI) (i:=1) omQ d
   refine aa (And.intro he6 he7) ?_
   replace hM:=ao hM;obtain ⟨x8,hx9,hM⟩:=hM
   have hcx8:=cmU hx9
   refine bp hcx8 (aC (And.intro he6 he7)) (aC (And.intro he6 he7)) ?_
   refine aa (And.intro he6 he7) ?_
   refine aP omQ ?_
   refine aa (And.intro he6 he7) ?_
   try rw [uo]
   exact (hN5 (p5++([x8]:List (List Int))) _ (Gi (by first|rfl|(simp only [dnF,bQ,List.filterMap_cons,List.filterMap_nil,Nat.reduceLeDiff,if_true,if_false,↓reduceIte,Nat.reduceSub];exact sbQ)) sbQ) (by simp only [List.length_append,List.length_cons,List.length_nil,hF6_0]) hM)
  ·replace hM:=mp hM hd5
   have hF6_0:=hf5a
   try refine spQ ?_
   refine g8 _ (⟨[(3,.own 0),(4,.ptr 1 0)],[(0,.own 52 1 false none (p1.2.map (fun (l:List (List Int))=>V.sl none 32 true (l.map aI)))),(1,.var 1 false (.sl none 32 true (p5.map aI))),(2,.pown 32 true none (p5.map aI))],3⟩:St) ((nP (S:=⟨_,_,_⟩) 2 (T:=28) (n:=32) (g:=true) (z:=none) (l:=p5.map aI) clQ).trans (G0 (S:=⟨_,_,_⟩) 1 2 (n:=32) (g:=true) (z:=none) (m:=p5.map aI) clQ clQ)) sbQ sbQ ?_
   try refine spQ ?_
   refine aP omQ ?_
   refine spQ ?_
   refine bM (n1 - 1) _ (by omega) sbQ sbQ ⟨(p5,(p1.2++([p5]:List (List (List Int))))),rfl,⟨by exact Hj hF2_0 (by omega) hF6_0,by (have h9:=zZ hF2_0 (by omega) hF6_0;simp only [List.length_append,List.length_cons,List.length_nil];omega)⟩,by (have h9:=zZ hF2_0 (by omega) hF6_0;dsimp only;omega),bI hM hag1⟩
 ·rw [if_neg (ap h2)] at hM
  refine aa h2 ?_
  have nh2:=nzQ h2
  try have hr10:=mpQ nh2
  replace hM:=ao hM;obtain ⟨x11,hx12,hM⟩:=hM
  have hcx11:=Jz none (p1.2)
  rw [←hx12] at hcx11
  refine GQ hcx11 rfl ?_
  refine spQ ?_
  subst hM
  exact aw (az h2)
set_option maxHeartbeats 2000000 in
set_option maxRecDepth 100000 in
instance Ov (l:(List (List Int))) (level:Int) (index:Int):CM En (oz l level index) 303 [.sl none 32 true (l.map aI),.int .i64 level,.int .i64 index] (fun y=> .tup [.sl none 1 false (y.1.map (fun (l:List (List Int))=>V.sl none 32 true (l.map aI))),.int .i64 y.2]) (fun _=> []):=by
 refine cmQ fun r hM=> ?_
 rw [oz.eq_1] at hM
 refine av al ar noJ Tryz.func303 rfl Tryz.ntmps303 (by kernel_rfl) fun hw=>au ?_
 refine spQ ?_
 replace hw:=nzQ hw
 replace hM:=ao hM;obtain ⟨x1,hx2,hM⟩:=hM
 have hcx1:=cmU hx2
 refine aH hcx1 clQ clQ (fun hw3=> ?_)
 replace hw3:=nzQ hw3
 refine spQ ?_
 refine aB (fun h4=> ?_) (fun h4=> ?_)
 ·rw [if_pos h4] at hM
  refine aa h4 ?_
  subst hM
  exact aw (az h4)
 ·rw [if_neg (ap h4)] at hM
  refine aa h4 ?_
  have nh4:=nzQ h4
  try have hr6:=mpQ nh4
  refine cr (fun h7=> ?_) (fun h7=> ?_)
  ·rw [if_neg (ap h7)] at hM
   refine aa h7 ?_
   have nh7:=nzQ h7
   try have hr8:=mpQ nh7
   refine cr (fun h9=> ?_) (fun h9=> ?_)
   ·rw [if_neg (ap h9)] at hM
    refine aa h9 ?_
    have nh9:=nzQ h9
    try have hr10:=mpQ nh9
    refine cr (fun h11=> ?_) (fun h11=> ?_)
    ·rw [if_neg (ap h11)] at hM
     refine aa h11 ?_
     have nh11:=nzQ h11
     try have hr12:=mpQ nh11
     refine aP omQ ?_
     refine spQ ?_
     refine aB (fun h13=> ?_) (fun h13=> ?_)
     ·rw [if_pos h13] at hM
      refine aa h13 ?_
      subst hM
      exact aw (az (And.intro h4 (And.intro h7 (And.intro h9 (And.intro h11 h13)))))
     ·rw [if_neg (ap h13)] at hM
      refine aa h13 ?_
      have nh13:=nzQ h13
      try have hr15:=mpQ nh13
      replace hM:=ao hM;obtain ⟨x16,hx17,hM⟩:=hM
      have hcx16:=cmH hx17 (JA l (by (exact ID ‹_=ka _› (by assumption))))
      refine aH hcx16 clQ clQ (fun hw18=> ?_)
      replace hw18:=nzQ hw18
      refine spQ ?_
      subst hM
      exact aw (az (And.intro h4 (And.intro h7 (And.intro h9 (And.intro h11 h13)))))
    ·rw [if_pos h11] at hM
     refine aa h11 ?_
     subst hM
     exact aw (az (And.intro h4 (And.intro h7 (And.intro h9 h11))))
   ·rw [if_pos h9] at hM
    refine aa h9 ?_
    subst hM
    exact aw (az (And.intro h4 (And.intro h7 h9)))
  ·rw [if_pos h7] at hM
   refine aa h7 ?_
   subst hM
   exact aw (az (And.intro h4 h7))
set_option maxHeartbeats 2000000 in
set_option maxRecDepth 100000 in
instance Ow (l:(List (List Int))) (level:Int) (index:Int):CM En (vJ l level index) 244 [.sl none 32 true (l.map aI),.int .i64 level,.int .i64 index] (fun y=> .tup [(aI y.1),.int .i64 y.2]) (fun _=> []):=by
 refine cmQ fun r hM=> ?_
 rw [vJ.eq_1] at hM
 refine av al ar noJ Tryz.func244 rfl Tryz.ntmps244 (by kernel_rfl) fun hw=>au ?_
 refine spQ ?_
 replace hw:=nzQ hw
 replace hM:=ao hM;obtain ⟨x1,hx2,hM⟩:=hM
 have hcx1:=cmU hx2
 refine aH hcx1 clQ clQ (fun hw3=> ?_)
 replace hw3:=nzQ hw3
 refine spQ ?_
 have hq4:=IG hx2
 replace hq4:=nzQ hq4
 have hF:=aW
 exact auQ
set_option maxHeartbeats 2000000 in
set_option maxRecDepth 100000 in
instance Ox (l:(List (List Int))):CM En (vK l) 183 [.sl none 32 true (l.map aI)] (fun y=> .tup [(aI y.1),.int .i64 y.2]) (fun _=> []):=by
 refine cmQ fun r hM=> ?_
 rw [vK.eq_1] at hM
 refine av al ar noJ Tryz.func183 rfl Tryz.ntmps183 (by kernel_rfl) fun hw=>au ?_
 refine spQ ?_
 replace hw:=nzQ hw
 have hF:=aW
 exact auQ
set_option maxHeartbeats 2000000 in
set_option maxRecDepth 100000 in
instance Oy (h_:(List Int)) (level:Int) (p_:ic):CM En (vL h_ level p_) 245 [(aI h_),.int .i64 level,.agg [.int .i64 p_.Index,.sl none 32 true (p_.L.map aI)]] (fun y=> .tup [(aI y.1),.int .i64 y.2]) (fun _=> []):=by
 refine cmQ fun r hM=> ?_
 rw [vL.eq_1] at hM
 refine av al ar noJ Tryz.func245 rfl Tryz.ntmps245 (by kernel_rfl) fun hw=>au ?_
 refine spQ ?_
 replace hw:=nzQ hw
 refine bN 58 16 [11,12,13,14,15,16,17,18,19,20,21,22,23,24,25,26] [] ([[],[0],[0,1],[0,1,2],[0,1,2,3],[0,1,2,3,4],[0,1,2,3,4,5],[0,1,2,3,4,5,6],[0,1,2,3,4,5,6,7],[0,1,2,3,4,5,6,7,8],[0,1,2,3,4,5,6,7,8,9],[0,1,2,3,4,5,6,7,8,9,10],[0,1,2,3,4,5,6,7,8,9,10,11],[0,1,2,3,4,5,6,7,8,9,10,11,12],[0,1,2,3,4,5,6,7,8,9,10,11],[0,1,2,3,4,5,6,7,8,9,10,11,14]]++[List.range 16,List.range 17]) [] (by kernel_rfl) (by exact alQ) ?_
 refine spQ ?_
 refine dk (fun h1=> ?_) (fun h1=> ?_)
 ·rw [if_neg (ap h1)] at hM
  refine aa h1 ?_
  have nh1:=nzQ h1
  try have hr2:=mpQ nh1
  refine dk (fun h3=> ?_) (fun h3=> ?_)
  ·rw [if_neg (ap h3)] at hM
   refine aa h3 ?_
   have nh3:=nzQ h3
   try have hr4:=mpQ nh3
   refine dk (fun h5=> ?_) (fun h5=> ?_)
   ·rw [if_neg (ap h5)] at hM
    refine aa h5 ?_
    have nh5:=nzQ h5
    try have hr6:=mpQ nh5
    refine b_ omQ ?_
    refine spQ ?_
    refine aB (fun h7=> ?_) (fun h7=> ?_)
    ·rw [if_pos h7] at hM
     refine aa h7 ?_
     subst hM
     exact aw (az (And.intro h1 (And.intro h3 (And.intro h5 h7))))
    ·rw [if_neg (ap h7)] at hM
     refine aa h7 ?_
     have nh7:=nzQ h7
     try have hr9:=mpQ nh7
     refine aB (fun h10=> ?_) (fun h10=> ?_)
     ·rw [if_pos h10] at hM
      refine aa h10 ?_
      subst hM
      exact aw (az (And.intro h1 (And.intro h3 (And.intro h5 (And.intro h7 h10)))))
     ·rw [if_neg (ap h10)] at hM
      refine aa h10 ?_
      have nh10:=nzQ h10
      try have hr12:=mpQ nh10
      replace hM:=aU hM;obtain ⟨f13,d13,hf13,hd13,hM⟩:=hM
      refine a6 (fun n S=> ∃p:Int×Int×(List Int),S=(⟨[(3,.ptr 0 0),(6,.ptr 2 0),(8,.int .i64 p.1),(39,.sl none 32 true (p_.L.map aI)),(40,.int .i64 (p_.L.length:Int)),(41,.int .i64 p.2.1)],[(0,.var 32 true ((aI p.2.2))),(2,.var 32 true (fJ))],19⟩:St)∧((0≤p.2.1)∧(p.2.1≤(p_.L.length:Int)))∧((p_.L.length:Int) - p.2.1).toNat<n∧am n f13 d13 p=r) (((p_.L.length:Int) - 0).toNat+1) _ sbQ sbQ ⟨(p_.Index,0,h_),rfl,⟨omQ,omQ⟩,(Nat.lt_succ_self _),hM⟩ ?_
      clear hM
      rintro n13 S ⟨p13,rfl,hfa13,hm13,hM⟩
      replace hM:=aV hM (by omega) hf13;obtain ⟨ag13,hag13,hM⟩:=hM
      replace hfa13:=nzQ hfa13
      replace hm13:=nzQ hm13
      have ha13:ax .i64 p13.2.1 1=p13.2.1+1:=aZ omQ omQ
      refine aa ha13 ?_
      have hF:=(And.intro h1 (And.intro h3 (And.intro h5 (And.intro h7 (And.intro h10 ha13)))))
      exact auQ
   ·rw [if_pos h5] at hM
    refine aa h5 ?_
    subst hM
    exact aw (az (And.intro h1 (And.intro h3 h5)))
  ·rw [if_pos h3] at hM
   refine aa h3 ?_
   subst hM
   exact aw (az (And.intro h1 h3))
 ·rw [if_pos h1] at hM
  refine aa h1 ?_
  subst hM
  exact aw (az h1)
set_option maxHeartbeats 2000000 in
set_option maxRecDepth 100000 in
instance Oz (root:(List Int)) (h_:(List Int)) (level:Int) (p_:ic):CM En (vM root h_ level p_) 184 [(aI root),(aI h_),.int .i64 level,.agg [.int .i64 p_.Index,.sl none 32 true (p_.L.map aI)]] (fun y=> .bool y) (fun _=> []):=by
 refine cmQ fun r hM=> ?_
 rw [vM.eq_1] at hM
 refine av al ar noJ Tryz.func184 rfl Tryz.ntmps184 (by kernel_rfl) fun hw=>au ?_
 refine spQ ?_
 replace hw:=nzQ hw
 have hF:=aW
 exact auQ
end Go.Proofs.YtcbbjfckokckcaaGreatDoor
