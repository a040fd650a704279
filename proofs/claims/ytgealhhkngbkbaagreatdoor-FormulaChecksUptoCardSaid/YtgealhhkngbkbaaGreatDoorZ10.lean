/- Texts of this proof, one after the other: U1. -/
import Derived.Test.YtgealhhkngbkbaaGreatDoorZ8
import Derived.Test.YtgealhhkngbkbaaGreatDoorZ9
set_option linter.unusedVariables false
set_option linter.unusedSimpArgs false
namespace Go.Proofs.YtgealhhkngbkbaaGreatDoor
open Go.RowKit
set_option linter.unusedSimpArgs false
theorem enQ {α:Type} {m m':α} {f:FuncId} {fn:Func} {code:Code} {ws:List V} {R:α→V} {Hs:α→List Blk} {n:Nat} {W:Prop} {Q:α→Prop} (J:cq) (hf:En.P.funcs[f]? =some fn) (hnt:fn.ntmps=n) (hm:m=m') (k: ∀r,W→Q r)
  (hb:fn.body=some code:=by exact rfl) (hsl:(ew n code&&decide (ws.length≤n)&& !(fn.name== "runtime.NumGoroutine"))=true:=by kernel_rfl) (hw:wfL ws→W:=by intro h;exact nzQ h)
  (h: ∀r,Q r→True→m'=r→aK En J [.code code,.fin (mZ En fn.results.toList (R r) (Hs r))] .normal ⟨gj 0 ws,[],0⟩:=by
   intro r k hF hM;(refine spQ ?_);revert hM;revert hF;exact k):CM En m f ws R Hs:=
 cmQ fun r hM=>bU bf bv J hf hb hnt hsl fun hw'=>bu (h r (k r (hw hw')) trivial (hm▸hM))
set_option maxHeartbeats 2000000 in
set_option maxRecDepth 100000 in
instance P4 (s:(List UInt8)) (prefix_:(List UInt8)):CM En (lZ s prefix_) 205 [.str s,.str prefix_] (fun y=> .bool y) (fun _=> []):=by
 refine enQ noJ Tryz.func205 Tryz.ntmps205 (lZ.eq_1 ..) fun r hw=> ?_
 exact auR
set_option maxHeartbeats 2000000 in
set_option maxRecDepth 100000 in
instance P5 (s:(List UInt8)) (prefix_:(List UInt8)):CM En (su s prefix_) 178 [.str s,.str prefix_] (fun y=> .tup [.str y.1,.bool y.2]) (fun _=> []):=by
 refine enQ noJ Tryz.func178 Tryz.ntmps178 (su.eq_1 ..) fun r hw=> ?_
 exact auR
set_option maxHeartbeats 2000000 in
set_option maxRecDepth 100000 in
instance P6 (s:(List UInt8)) (prefix_:(List UInt8)):CM En (pi s prefix_) 146 [.str s,.str prefix_] (fun y=> .tup [.str y.1,.bool y.2]) (fun _=> []):=by
 refine enQ noJ Tryz.func146 Tryz.ntmps146 (pi.eq_1 ..) fun r hw=> ?_
 exact auR
set_option maxHeartbeats 2000000 in
set_option maxRecDepth 100000 in
theorem kY (p_:ay) (t_:(List UInt8)):bG En 98 [.ptr 0 0,.str t_] [.var 2 true (.agg [.str p_.s,.bool p_.bad])] (.bool (bc p_ t_).1) [.var 2 true (.agg [.str (bc p_ t_).2.s,.bool (bc p_ t_).2.bad])] []:=by
 generalize hM:bc p_ t_=r
 rw [bc.eq_1] at hM
 refine dY bf bv noJ Tryz.func98 rfl Tryz.ntmps98 (by kernel_rfl) rfl fun ks hw hwB=>bu ?_
 refine spQ ?_
 replace hw:=nzQ hw
 replace hwB:=nzB hwB
 have hF:=bW
 revert hM;revert hF
 refine bh fun _ _ _ _=> ?_
 intro hF hM
 subst hM
 exact bm [0] lsQ (by decide) lsQ
set_option maxHeartbeats 2000000 in
set_option maxRecDepth 100000 in
instance P7 (x_:Int):CM En (kz x_) 149 [.int .u64 x_] (fun y=> .int .i64 y) (fun _=> []):=by
 refine cmQ fun r hM=> ?_
 rw [kz.eq_1] at hM
 refine bU bf bv noJ Tryz.func149 rfl Tryz.ntmps149 (by kernel_rfl) fun hw=>bu ?_
 refine spQ ?_
 replace hw:=nzQ hw
 have h0_0:=AQ (x:=aU .u64 x_ (fZ .u64 x_))
 refine bY (fun h1=> ?_) (fun h1=> ?_)
 ·rw [if_pos h1] at hM
  refine au h1 ?_
  have nh1:=nzQ h1
  try have hr2:=mpQ nh1
  subst hM
  exact cW (cQ h1)
 ·rw [if_neg (bL h1)] at hM
  refine au h1 ?_
  have nh1:=nzQ h1
  try have hr3:=mpQ nh1
  refine bF omQ ?_
  have he4:=pf (f:=V.int .u8) (l:=iu) (n:=64) (i:=(aw .u64 (aN .u64 (aU .u64 x_ (fZ .u64 x_)) 285870213051353865) 58)) rfl omQ
  replace he4:=spR he4
  refine au he4 ?_
  subst hM
  exact cW (cQ (And.intro he4 h1))
set_option maxHeartbeats 2000000 in
set_option maxRecDepth 100000 in
theorem xi (p_:ay):bG En 147 [.ptr 0 0] [.var 2 true (.agg [.str p_.s,.bool p_.bad])] (.int .i64 (dO p_).1) [.var 2 true (.agg [.str (dO p_).2.s,.bool (dO p_).2.bad])] []:=by
 generalize hM:dO p_=r
 rw [dO.eq_1] at hM
 refine dY bf bv noJ Tryz.func147 rfl Tryz.ntmps147 (by kernel_rfl) rfl fun ks hw hwB=>bu ?_
 refine spQ ?_
 replace hw:=nzQ hw
 replace hwB:=nzB hwB
 have hM0:=hM;clear hM;obtain ⟨f1,d1,hf1,hd1,hM⟩:=aO hM0;clear hM0
 refine aS (fun n S=> ∃p:Int,S=(⟨[(0,.ptr 0 0),(3,.int .i64 p)],[(0,.lent (ks 0) 2 true (.agg [.str p_.s,.bool p_.bad]))],1⟩:St)∧((0≤p)∧(p≤((p_).s.length:Int)))∧(((p_).s.length:Int) - p).toNat<n∧ae n f1 d1 p=r) ((((p_).s.length:Int) - 0).toNat+1) _ sbQ sbQ ⟨0,rfl,⟨by (first|exact omQ|(clear hM;first|(simp only [List.length_take] at*;exact am))),by (first|exact omQ|(clear hM;first|(simp only [List.length_take] at*;exact am)))⟩,(Nat.lt_succ_self _),hM⟩ ?_
 clear hM
 rintro n1 S ⟨p1,rfl,hfa1,hm1,hM⟩
 have hM0:=hM;clear hM;obtain ⟨ag1,hag1,hM⟩:=aP hM0 (by omega) hf1;clear hM0
 replace hfa1:=nzQ hfa1
 replace hm1:=nzQ hm1
 refine spQ ?_
 refine jf (fun h2=> ?_) (fun h2=> ?_)
 ·rw [if_pos h2] at hM
  refine au h2 ?_
  have nh2:=nzQ h2
  try have hr3:=mpQ nh2
  refine bF (by (first|exact omQ|(clear hM;first|(simp only [List.length_take] at*;exact am)))) ?_
  refine spQ ?_
  refine jf (fun h4=> ?_) (fun h4=> ?_)
  ·rw [if_pos h4] at hM
   refine au h4 ?_
   have nh4:=nzQ h4
   try have hr5:=mpQ nh4
   refine bF (by (first|exact omQ|(clear hM;first|(simp only [List.length_take] at*;exact am)))) ?_
   refine spQ ?_
   refine bY (fun h6=> ?_) (fun h6=> ?_)
   ·rw [if_pos h6] at hM
    refine au h6 ?_
    have nh6:=nzQ h6
    try have hr7:=mpQ nh6
    have ha8:al .i64 p1 1=(p1+1):=dq (by (first|exact omQ|(clear hM;first|(simp only [List.length_take] at*;exact am)))) (by (first|exact omQ|(clear hM;first|(simp only [List.length_take] at*;exact am))))
    try simp only [ha8]
    refine aM (n1 - 1) _ (by omega) sbQ sbQ ⟨(p1+1),rfl,⟨by (first|exact omQ|(clear hM;first|(simp only [List.length_take] at*;exact am))),by (first|exact omQ|(clear hM;first|(simp only [List.length_take] at*;exact am)))⟩,by (first|exact omQ|(clear hM;first|(simp only [List.length_take] at*;exact am))),aL hM hag1⟩
   ·rw [if_neg (bL h6)] at hM
    refine au h6 ?_
    have nh6:=nzQ h6
    try have hr9:=mpQ nh6
    refine bF (by (first|exact omQ|(clear hM;first|(simp only [List.length_take] at*;exact am)))) ?_
    refine spQ ?_
    refine bF (by (first|exact omQ|(clear hM;first|(simp only [List.length_take] at*;exact am)))) ?_
    refine spQ ?_
    refine ke (fun h10=> ?_) (fun h10=> ?_)
    ·rw [if_neg (bL h10)] at hM
     refine au h10 ?_
     have nh10:=nzQ h10
     try have hr11:=mpQ nh10
     refine jf (fun h12=> ?_) (fun h12=> ?_)
     ·rw [if_pos h12] at hM
      refine au h12 ?_
      have nh12:=nzQ h12
      try have hr13:=mpQ nh12
      refine bF (by (first|exact omQ|(clear hM;first|(simp only [List.length_take] at*;exact am)))) ?_
      refine spQ ?_
      refine bY (fun h14=> ?_) (fun h14=> ?_)
      ·rw [if_pos h14] at hM
       refine au h14 ?_
       have nh14:=nzQ h14
       try have hr15:=mpQ nh14
       subst hM
       exact bm [0] (aD (And.intro h2 (And.intro h4 (And.intro h6 (And.intro h10 (And.intro h12 h14)))))) (by decide) (aD (And.intro h2 (And.intro h4 (And.intro h6 (And.intro h10 (And.intro h12 h14))))))
      ·rw [if_neg (bL h14)] at hM
       refine au h14 ?_
       have nh14:=nzQ h14
       try have hr16:=mpQ nh14
       have hM0:=hM;clear hM;obtain ⟨x17,hx18,hM⟩:=ap hM0;clear hM0
       have hcx17:=cmU hx18
       refine aJ hcx17 clQ clQ (fun hw19=> ?_)
       replace hw19:=nzQ hw19
       refine spQ ?_
       refine bY (fun h20=> ?_) (fun h20=> ?_)
       ·rw [if_pos h20] at hM
        refine au h20 ?_
        have nh20:=nzQ h20
        try have hr21:=mpQ nh20
        subst hM
        exact bm [0] (aD (And.intro h2 (And.intro h4 (And.intro h6 (And.intro h10 (And.intro h12 (And.intro h14 h20))))))) (by decide) (aD (And.intro h2 (And.intro h4 (And.intro h6 (And.intro h10 (And.intro h12 (And.intro h14 h20)))))))
       ·rw [if_neg (bL h20)] at hM
        refine au h20 ?_
        have nh20:=nzQ h20
        try have hr22:=mpQ nh20
        subst hM
        exact bm [0] (aD (And.intro h2 (And.intro h4 (And.intro h6 (And.intro h10 (And.intro h12 (And.intro h14 h20))))))) (by decide) (aD (And.intro h2 (And.intro h4 (And.intro h6 (And.intro h10 (And.intro h12 (And.intro h14 h20)))))))
     ·rw [if_neg (bL h12)] at hM
      refine au h12 ?_
      have nh12:=nzQ h12
      try have hr23:=mpQ nh12
      have hM0:=hM;clear hM;obtain ⟨x24,hx25,hM⟩:=ap hM0;clear hM0
      have hcx24:=cmU hx25
      refine aJ hcx24 clQ clQ (fun hw26=> ?_)
      replace hw26:=nzQ hw26
      refine spQ ?_
      refine bY (fun h27=> ?_) (fun h27=> ?_)
      ·rw [if_pos h27] at hM
       refine au h27 ?_
       have nh27:=nzQ h27
       try have hr28:=mpQ nh27
       subst hM
       exact bm [0] (aD (And.intro h2 (And.intro h4 (And.intro h6 (And.intro h10 (And.intro h12 h27)))))) (by decide) (aD (And.intro h2 (And.intro h4 (And.intro h6 (And.intro h10 (And.intro h12 h27))))))
      ·rw [if_neg (bL h27)] at hM
       refine au h27 ?_
       have nh27:=nzQ h27
       try have hr29:=mpQ nh27
       subst hM
       exact bm [0] (aD (And.intro h2 (And.intro h4 (And.intro h6 (And.intro h10 (And.intro h12 h27)))))) (by decide) (aD (And.intro h2 (And.intro h4 (And.intro h6 (And.intro h10 (And.intro h12 h27))))))
    ·rw [if_pos h10] at hM
     refine au h10 ?_
     have nh10:=nzQ h10
     try have hr30:=mpQ nh10
     subst hM
     exact bm [0] (aD (And.intro h2 (And.intro h4 (And.intro h6 h10)))) (by decide) (aD (And.intro h2 (And.intro h4 (And.intro h6 h10))))
  ·rw [if_neg (bL h4)] at hM
   refine au h4 ?_
   have nh4:=nzQ h4
   try have hr31:=mpQ nh4
   refine bF (by (first|exact omQ|(clear hM;first|(simp only [List.length_take] at*;exact am)))) ?_
   refine spQ ?_
   refine bF (by (first|exact omQ|(clear hM;first|(simp only [List.length_take] at*;exact am)))) ?_
   refine spQ ?_
   refine ke (fun h32=> ?_) (fun h32=> ?_)
   ·rw [if_neg (bL h32)] at hM
    refine au h32 ?_
    have nh32:=nzQ h32
    try have hr33:=mpQ nh32
    refine jf (fun h34=> ?_) (fun h34=> ?_)
    ·rw [if_pos h34] at hM
     refine au h34 ?_
     have nh34:=nzQ h34
     try have hr35:=mpQ nh34
     refine bF (by (first|exact omQ|(clear hM;first|(simp only [List.length_take] at*;exact am)))) ?_
     refine spQ ?_
     refine bY (fun h36=> ?_) (fun h36=> ?_)
     ·rw [if_pos h36] at hM
      refine au h36 ?_
      have nh36:=nzQ h36
      try have hr37:=mpQ nh36
      subst hM
      exact bm [0] (aD (And.intro h2 (And.intro h4 (And.intro h32 (And.intro h34 h36))))) (by decide) (aD (And.intro h2 (And.intro h4 (And.intro h32 (And.intro h34 h36)))))
     ·rw [if_neg (bL h36)] at hM
      refine au h36 ?_
      have nh36:=nzQ h36
      try have hr38:=mpQ nh36
      have hM0:=hM;clear hM;obtain ⟨x39,hx40,hM⟩:=ap hM0;clear hM0
      have hcx39:=cmU hx40
      refine aJ hcx39 clQ clQ (fun hw41=> ?_)
      replace hw41:=nzQ hw41
      refine spQ ?_
      refine bY (fun h42=> ?_) (fun h42=> ?_)
      ·rw [if_pos h42] at hM
       refine au h42 ?_
       have nh42:=nzQ h42
       try have hr43:=mpQ nh42
       subst hM
       exact bm [0] (aD (And.intro h2 (And.intro h4 (And.intro h32 (And.intro h34 (And.intro h36 h42)))))) (by decide) (aD (And.intro h2 (And.intro h4 (And.intro h32 (And.intro h34 (And.intro h36 h42))))))
      ·rw [if_neg (bL h42)] at hM
       refine au h42 ?_
       have nh42:=nzQ h42
       try have hr44:=mpQ nh42
       subst hM
       exact bm [0] (aD (And.intro h2 (And.intro h4 (And.intro h32 (And.intro h34 (And.intro h36 h42)))))) (by decide) (aD (And.intro h2 (And.intro h4 (And.intro h32 (And.intro h34 (And.intro h36 h42))))))
    ·rw [if_neg (bL h34)] at hM
     refine au h34 ?_
     have nh34:=nzQ h34
     try have hr45:=mpQ nh34
     have hM0:=hM;clear hM;obtain ⟨x46,hx47,hM⟩:=ap hM0;clear hM0
     have hcx46:=cmU hx47
     refine aJ hcx46 clQ clQ (fun hw48=> ?_)
     replace hw48:=nzQ hw48
     refine spQ ?_
     refine bY (fun h49=> ?_) (fun h49=> ?_)
     ·rw [if_pos h49] at hM
      refine au h49 ?_
      have nh49:=nzQ h49
      try have hr50:=mpQ nh49
      subst hM
      exact bm [0] (aD (And.intro h2 (And.intro h4 (And.intro h32 (And.intro h34 h49))))) (by decide) (aD (And.intro h2 (And.intro h4 (And.intro h32 (And.intro h34 h49)))))
     ·rw [if_neg (bL h49)] at hM
      refine au h49 ?_
      have nh49:=nzQ h49
      try have hr51:=mpQ nh49
      subst hM
      exact bm [0] (aD (And.intro h2 (And.intro h4 (And.intro h32 (And.intro h34 h49))))) (by decide) (aD (And.intro h2 (And.intro h4 (And.intro h32 (And.intro h34 h49)))))
   ·rw [if_pos h32] at hM
    refine au h32 ?_
    have nh32:=nzQ h32
    try have hr52:=mpQ nh32
    subst hM
    exact bm [0] (aD (And.intro h2 (And.intro h4 h32))) (by decide) (aD (And.intro h2 (And.intro h4 h32)))
 ·rw [if_neg (bL h2)] at hM
  refine au h2 ?_
  have nh2:=nzQ h2
  try have hr53:=mpQ nh2
  refine bF (by (first|exact omQ|(clear hM;first|(simp only [List.length_take] at*;exact am)))) ?_
  refine spQ ?_
  refine bF (by (first|exact omQ|(clear hM;first|(simp only [List.length_take] at*;exact am)))) ?_
  refine spQ ?_
  refine ke (fun h54=> ?_) (fun h54=> ?_)
  ·rw [if_neg (bL h54)] at hM
   refine au h54 ?_
   have nh54:=nzQ h54
   try have hr55:=mpQ nh54
   refine jf (fun h56=> ?_) (fun h56=> ?_)
   ·rw [if_pos h56] at hM
    refine au h56 ?_
    have nh56:=nzQ h56
    try have hr57:=mpQ nh56
    refine bF (by (first|exact omQ|(clear hM;first|(simp only [List.length_take] at*;exact am)))) ?_
    refine spQ ?_
    refine bY (fun h58=> ?_) (fun h58=> ?_)
    ·rw [if_pos h58] at hM
     refine au h58 ?_
     have nh58:=nzQ h58
     try have hr59:=mpQ nh58
     subst hM
     exact bm [0] (aD (And.intro h2 (And.intro h54 (And.intro h56 h58)))) (by decide) (aD (And.intro h2 (And.intro h54 (And.intro h56 h58))))
    ·rw [if_neg (bL h58)] at hM
     refine au h58 ?_
     have nh58:=nzQ h58
     try have hr60:=mpQ nh58
     have hM0:=hM;clear hM;obtain ⟨x61,hx62,hM⟩:=ap hM0;clear hM0
     have hcx61:=cmU hx62
     refine aJ hcx61 clQ clQ (fun hw63=> ?_)
     replace hw63:=nzQ hw63
     refine spQ ?_
     refine bY (fun h64=> ?_) (fun h64=> ?_)
     ·rw [if_pos h64] at hM
      refine au h64 ?_
      have nh64:=nzQ h64
      try have hr65:=mpQ nh64
      subst hM
      exact bm [0] (aD (And.intro h2 (And.intro h54 (And.intro h56 (And.intro h58 h64))))) (by decide) (aD (And.intro h2 (And.intro h54 (And.intro h56 (And.intro h58 h64)))))
     ·rw [if_neg (bL h64)] at hM
      refine au h64 ?_
      have nh64:=nzQ h64
      try have hr66:=mpQ nh64
      subst hM
      exact bm [0] (aD (And.intro h2 (And.intro h54 (And.intro h56 (And.intro h58 h64))))) (by decide) (aD (And.intro h2 (And.intro h54 (And.intro h56 (And.intro h58 h64)))))
   ·rw [if_neg (bL h56)] at hM
    refine au h56 ?_
    have nh56:=nzQ h56
    try have hr67:=mpQ nh56
    have hM0:=hM;clear hM;obtain ⟨x68,hx69,hM⟩:=ap hM0;clear hM0
    have hcx68:=cmU hx69
    refine aJ hcx68 clQ clQ (fun hw70=> ?_)
    replace hw70:=nzQ hw70
    refine spQ ?_
    refine bY (fun h71=> ?_) (fun h71=> ?_)
    ·rw [if_pos h71] at hM
     refine au h71 ?_
     have nh71:=nzQ h71
     try have hr72:=mpQ nh71
     subst hM
     exact bm [0] (aD (And.intro h2 (And.intro h54 (And.intro h56 h71)))) (by decide) (aD (And.intro h2 (And.intro h54 (And.intro h56 h71))))
    ·rw [if_neg (bL h71)] at hM
     refine au h71 ?_
     have nh71:=nzQ h71
     try have hr73:=mpQ nh71
     subst hM
     exact bm [0] (aD (And.intro h2 (And.intro h54 (And.intro h56 h71)))) (by decide) (aD (And.intro h2 (And.intro h54 (And.intro h56 h71))))
  ·rw [if_pos h54] at hM
   refine au h54 ?_
   have nh54:=nzQ h54
   try have hr74:=mpQ nh54
   subst hM
   exact bm [0] (aD (And.intro h2 h54)) (by decide) (aD (And.intro h2 h54))
set_option maxHeartbeats 2000000 in
set_option maxRecDepth 100000 in
theorem qk (p_:ay) (t_:(List UInt8)):bG En 100 [.ptr 0 0,.str t_] [.var 2 true (.agg [.str p_.s,.bool p_.bad])] (.tup []) [.var 2 true (.agg [.str (cG p_ t_).s,.bool (cG p_ t_).bad])] []:=by
 generalize hM:cG p_ t_=r
 rw [cG.eq_1] at hM
 refine dY bf bv noJ Tryz.func100 rfl Tryz.ntmps100 (by kernel_rfl) rfl fun ks hw hwB=>bu ?_
 refine spQ ?_
 replace hw:=nzQ hw
 replace hwB:=nzB hwB
 have hM0:=hM;clear hM;obtain ⟨x1,hx2,hM⟩:=ap hM0;clear hM0
 have hcx1:=kY p_ t_
 rw [←hx2] at hcx1
 refine bR [0] hcx1 (by decide) lsQ lsQ (fun hw3=> ?_)
 replace hw3:=nzQ hw3
 have hF:=bW
 revert hM;revert hF
 refine slQ ?_
 refine cdQ (fun _ _ _=> ?_) (fun _ _ _=> ?_)
 ·intro hF hM
  subst hM
  exact bm [0] (aD hF) (by decide) (aD hF)
 ·intro hF hM
  subst hM
  exact bm [0] (aD hF) (by decide) (aD hF)
instance (priority:=1001):DRD 2 50 5 [5,6,7,8,9] [] ([[],[0],[],[2],[2,3]]++[List.range 5,List.range 6,List.range 7]) [(3,0)]:=⟨trivial⟩
set_option maxHeartbeats 2000000 in
set_option maxRecDepth 100000 in
theorem LA (p_:ay) (hp0:p_.s.length≤8000):bG En 99 [.ptr 0 0] [.var 2 true (.agg [.str p_.s,.bool p_.bad])] (.agg [.sl none 1 false ((fO p_).1.Y.map (V.int .i64)),.sl none 1 false ((fO p_).1.Bases.map (fun (l:List Int)=>V.sl none 1 false (l.map (V.int .i64))))]) [.var 2 true (.agg [.str (fO p_).2.s,.bool (fO p_).2.bad])] []:=by
 generalize hM:fO p_=r
 rw [fO.eq_1] at hM
 refine dY bf bv [8] Tryz.func99 rfl Tryz.ntmps99 (by kernel_rfl) rfl fun ks hw hwB=>bu ?_
 refine spQ ?_
 replace hw:=nzQ hw
 replace hwB:=nzB hwB
 have hM0:=hM;clear hM;obtain ⟨f1,d1,hf1,hd1,hM⟩:=aO hM0;clear hM0
 refine gU (fun n S=> ∃p:ay×aH×List Int×List (List Int),S=(⟨[(0,.ptr 0 0),(2,.ptr 1 0),(3,.ptr 2 0)],[(0,.lent (ks 0) 2 true (.agg [.str p.1.s,.bool p.1.bad])),(1,.var 2 true (.agg [.sl none 1 false (p.2.1.Y.map (V.int .i64)),.sl none 1 false (p.2.1.Bases.map (fun (l:List Int)=>V.sl none 1 false (l.map (V.int .i64))))])),(2,.var 2 true (.agg [.own 3,.own 4])),(3,.own 3 1 false none (p.2.2.1.map (V.int .i64))),(4,.own 24 1 false none (p.2.2.2.map (fun (l:List Int)=>V.sl none 1 false (l.map (V.int .i64)))))],5⟩:St)∧((((p.1).s.length:Int)+((p.2.2.1).length:Int)≤(p_.s.length:Int))∧(((p.1).s.length:Int)+((p.2.2.2).length:Int)≤(p_.s.length:Int)))∧(p.1).s.length<n∧ae n f1 d1 p=r) ((p_).s.length+1) _ _ ((o9 2 0 3 rfl rfl (by decide)).trans (o9 2 1 24 rfl rfl (by decide))) sbQ sbG ⟨(p_,eZ,([]:List Int),([]:List (List Int))),rfl,⟨omQ,omQ⟩,(Nat.lt_succ_self _),hM⟩ ?_
 clear hM
 rintro n1 S ⟨p1,rfl,hfa1,hm1,hM⟩
 have hM0:=hM;clear hM;obtain ⟨ag1,hag1,hM⟩:=aP hM0 (by omega) hf1;clear hM0
 replace hfa1:=nzQ hfa1
 replace hm1:=nzQ hm1
 have hF:=bW
 revert hM;revert hF
 refine slQ ?_
 intro hF hM
 have hM0:=hM;clear hM;obtain ⟨x2,hx3,hM⟩:=ap hM0;clear hM0
 have hcx2:=xi (p1.1)
 rw [←hx3] at hcx2
 refine Aw 0 hcx2 rfl rfl lsQ lsQ lsQ lsQ lsQ ?_
 revert hM;revert hF
 refine slQ ?_
 have hq4:=w5 hx3
 replace hq4:=nzQ hq4
 have hq5:=hO x2.2.bad
 replace hq5:=nzQ hq5
 refine slQ ?_
 intro hF hM
 have hM0:=hM;clear hM;obtain ⟨x6,hx7,hM⟩:=ap hM0;clear hM0
 have hcx6:=qk (x2.2) ([32,61])
 rw [←hx7] at hcx6
 refine bR [0] hcx6 (by decide) lsQ lsQ (fun hw8=> ?_)
 replace hw8:=nzQ hw8
 revert hM;revert hF
 refine slQ ?_
 have hq9:=iL hx7
 replace hq9:=nzQ hq9
 intro hF hM
 have hM0:=hM;clear hM;obtain ⟨x10,hx11,hM⟩:=ap hM0;clear hM0
 have hcx10:=qk x6 ([32])
 rw [←hx11] at hcx10
 refine bR [0] hcx10 (by decide) lsQ lsQ (fun hw12=> ?_)
 replace hw12:=nzQ hw12
 revert hM;revert hF
 refine slQ ?_
 have hq13:=iL hx11
 replace hq13:=nzQ hq13
 intro hF hM
 have hM0:=hM;clear hM;obtain ⟨x14,hx15,hM⟩:=ap hM0;clear hM0
 have hcx14:=xi x10
 rw [←hx15] at hcx14
 refine bR [0] hcx14 (by decide) lsQ lsQ (fun hw16=> ?_)
 replace hw16:=nzQ hw16
 revert hM;revert hF
 refine slQ ?_
 have hq17:=w5 hx15
 replace hq17:=nzQ hq17
 have hq18:=hO x14.2.bad
 replace hq18:=nzQ hq18
 intro hF hM
 refine lO ?_
 revert hM;revert hF
 refine slQ ?_
 intro hF hM
 have hM0:=hM;clear hM;obtain ⟨f19,d19,hf19,hd19,hM⟩:=aO hM0;clear hM0
 refine aS (fun n S=> ∃p:ay×List Int,S=(⟨[(0,.ptr 0 0),(2,.ptr 1 0),(3,.ptr 2 0),(4,.own 10)],[(0,.lent (ks 0) 2 true (.agg [.str p.1.s,.bool p.1.bad])),(1,.var 2 true (.agg [.sl none 1 false (p1.2.1.Y.map (V.int .i64)),.sl none 1 false (p1.2.1.Bases.map (fun (l:List Int)=>V.sl none 1 false (l.map (V.int .i64))))])),(2,.var 2 true (.agg [.own 3,.own 4])),(3,.own 3 1 false (some false) ((p1.2.2.1++([x2.1]:List Int)).map (V.int .i64))),(4,.own 24 1 false none (p1.2.2.2.map (fun (l:List Int)=>V.sl none 1 false (l.map (V.int .i64))))),(10,.own 3 1 false none (p.2.map (V.int .i64)))],11⟩:St)∧(((((p.1).s.length:Int)+1≤(p1.1.s.length:Int)+(bd (p.1).bad:Int))∧(((p.1).s.length:Int)≤(p1.1.s.length:Int))∧(((p.1).s.length:Int)+((p.2).length:Int)≤(p1.1.s.length:Int)+1))∧((p.1).bad=false→bd (p.1).bad=0))∧(p.1).s.length<n∧ae n f19 d19 p=r) (((x14.2)).s.length+1) _ sbQ sbQ ⟨(x14.2,([x14.1]:List Int)),rfl,⟨⟨omQ,omQ,omQ⟩,by (exact s4)⟩,(Nat.lt_succ_self _),hM⟩ ?_
 clear hM
 rintro n19 S ⟨p19,rfl,⟨hfa19,hF6_0⟩,hm19,hM⟩
 have hM0:=hM;clear hM;obtain ⟨ag19,hag19,hM⟩:=aP hM0 (by omega) hf19;clear hM0
 replace hfa19:=nzQ hfa19
 replace hm19:=nzQ hm19
 revert hM;revert hF
 refine slQ ?_
 refine cdQ (fun _ _ _=> ?_) (fun _ _ _=> ?_)
 ·intro hF hM
  have hM0:=hM;clear hM;obtain ⟨x22,hx23,hM⟩:=ap hM0;clear hM0
  have hcx22:=kY (p19.1) ([32])
  rw [←hx23] at hcx22
  refine bR [0] hcx22 (by decide) lsQ lsQ (fun hw24=> ?_)
  replace hw24:=nzQ hw24
  revert hM;revert hF
  refine slQ ?_
  have hq25:=eC hx23
  replace hq25:=nzQ hq25
  have hq26:=gG hx23 (by decide)
  replace hq26:=nzQ hq26
  have hq27:=hO x22.2.bad
  replace hq27:=nzQ hq27
  refine cdQ (fun _ _ _=> ?_) (fun _ _ _=> ?_)
  ·intro hF hM
   have hM0:=hM;clear hM;obtain ⟨x30,hx31,hM⟩:=ap hM0;clear hM0
   have hcx30:=xi (x22.2)
   rw [←hx31] at hcx30
   refine bR [0] hcx30 (by decide) lsQ lsQ (fun hw32=> ?_)
   replace hw32:=nzQ hw32
   revert hM;revert hF
   refine slQ ?_
   have hq33:=w5 hx31
   replace hq33:=nzQ hq33
   have hq34:=hO x30.2.bad
   replace hq34:=nzQ hq34
   refine slQ ?_
   intro hF hM
   refine aM (n19 - 1) _ (by omega) sbQ sbQ ⟨(x30.2,(p19.2++([x30.1]:List Int))),rfl,⟨⟨omQ,omQ,omQ⟩,by (exact s4)⟩,omQ,aL hM hag19⟩
  ·intro hF hM
   refine ko _ (⟨[(0,.ptr 0 0),(2,.ptr 1 0),(3,.ptr 2 0),(4,.sl none 1 false (p19.2.map (V.int .i64)))],[(0,.lent (ks 0) 2 true (.agg [.str x22.2.s,.bool x22.2.bad])),(1,.var 2 true (.agg [.sl none 1 false (p1.2.1.Y.map (V.int .i64)),.sl none 1 false (p1.2.1.Bases.map (fun (l:List Int)=>V.sl none 1 false (l.map (V.int .i64))))])),(2,.var 2 true (.agg [.own 3,.own 4])),(3,.own 3 1 false (some false) ((p1.2.2.1++([x2.1]:List Int)).map (V.int .i64))),(4,.own 24 1 false none (p1.2.2.2.map (fun (l:List Int)=>V.sl none 1 false (l.map (V.int .i64))))),(10,.pown 1 false none (p19.2.map (V.int .i64)))],11⟩:St) ((oZ (S:=⟨_,_,_⟩) 10 (T:=3) (n:=1) (g:=false) (z:=none) (l:=p19.2.map (V.int .i64)) clQ).trans (vM (S:=⟨_,_,_⟩) 4 10 (n:=1) (g:=false) (z:=none) (l:=p19.2.map (V.int .i64)) clQ clQ)) sbQ sbQ ?_
   revert hM;revert hF
   refine slQ ?_
   refine cdQ (fun _ _ _=> ?_) (fun _ _ _=> ?_)
   ·intro hF hM
    have hM0:=hM;clear hM;obtain ⟨x38,hx39,hM⟩:=ap hM0;clear hM0
    have hcx38:=kY ({s:=x22.2.s,bad:=false}:ay) ([93])
    rw [←hx39] at hcx38
    refine bR [0] hcx38 (by decide) lsQ lsQ (fun hw40=> ?_)
    replace hw40:=nzQ hw40
    revert hM;revert hF
    refine slQ ?_
    have hq41:=eC hx39
    replace hq41:=nzQ hq41
    have hq42:=gG hx39 (by decide)
    replace hq42:=nzQ hq42
    have hq43:=hO x38.2.bad
    replace hq43:=nzQ hq43
    refine cdQ (fun _ _ _=> ?_) (fun _ _ _=> ?_)
    ·intro hF hM
     subst hM
     exact bm [0] (aD hF) (by decide) (aD hF)
    ·intro hF hM
     have hM0:=hM;clear hM;obtain ⟨x47,hx48,hM⟩:=ap hM0;clear hM0
     have hcx47:=qk (x38.2) ([44,32])
     rw [←hx48] at hcx47
     refine bR [0] hcx47 (by decide) lsQ lsQ (fun hw49=> ?_)
     replace hw49:=nzQ hw49
     revert hM;revert hF
     refine slQ ?_
     have hq50:=iL hx48
     replace hq50:=nzQ hq50
     intro hF hM
     refine aM (n1 - 1) _ (by omega) sbQ sbQ ⟨(x47,p1.2.1,(p1.2.2.1++([x2.1]:List Int)),(p1.2.2.2++([p19.2]:List (List Int)))),rfl,⟨omQ,omQ⟩,omQ,aL hM hag1⟩
   ·intro hF hM
    subst hM
    exact bm [0] (aD hF) (by decide) (aD hF)
 ·intro hF hM
  refine ko _ (⟨[(0,.ptr 0 0),(2,.ptr 1 0),(3,.ptr 2 0),(4,.sl none 1 false (p19.2.map (V.int .i64)))],[(0,.lent (ks 0) 2 true (.agg [.str p19.1.s,.bool p19.1.bad])),(1,.var 2 true (.agg [.sl none 1 false (p1.2.1.Y.map (V.int .i64)),.sl none 1 false (p1.2.1.Bases.map (fun (l:List Int)=>V.sl none 1 false (l.map (V.int .i64))))])),(2,.var 2 true (.agg [.own 3,.own 4])),(3,.own 3 1 false (some false) ((p1.2.2.1++([x2.1]:List Int)).map (V.int .i64))),(4,.own 24 1 false none (p1.2.2.2.map (fun (l:List Int)=>V.sl none 1 false (l.map (V.int .i64))))),(10,.pown 1 false none (p19.2.map (V.int .i64)))],11⟩:St) ((oZ (S:=⟨_,_,_⟩) 10 (T:=3) (n:=1) (g:=false) (z:=none) (l:=p19.2.map (V.int .i64)) clQ).trans (vM (S:=⟨_,_,_⟩) 4 10 (n:=1) (g:=false) (z:=none) (l:=p19.2.map (V.int .i64)) clQ clQ)) sbQ sbQ ?_
  revert hM;revert hF
  refine slQ ?_
  refine cdQ (fun _ _ _=> ?_) (fun _ _ _=> ?_)
  ·intro hF hM
   have hM0:=hM;clear hM;obtain ⟨x55,hx56,hM⟩:=ap hM0;clear hM0
   have hcx55:=kY ({s:=p19.1.s,bad:=false}:ay) ([93])
   rw [←hx56] at hcx55
   refine bR [0] hcx55 (by decide) lsQ lsQ (fun hw57=> ?_)
   replace hw57:=nzQ hw57
   revert hM;revert hF
   refine slQ ?_
   have hq58:=eC hx56
   replace hq58:=nzQ hq58
   have hq59:=gG hx56 (by decide)
   replace hq59:=nzQ hq59
   have hq60:=hO x55.2.bad
   replace hq60:=nzQ hq60
   refine cdQ (fun _ _ _=> ?_) (fun _ _ _=> ?_)
   ·intro hF hM
    subst hM
    exact bm [0] (aD hF) (by decide) (aD hF)
   ·intro hF hM
    have hM0:=hM;clear hM;obtain ⟨x64,hx65,hM⟩:=ap hM0;clear hM0
    have hcx64:=qk (x55.2) ([44,32])
    rw [←hx65] at hcx64
    refine bR [0] hcx64 (by decide) lsQ lsQ (fun hw66=> ?_)
    replace hw66:=nzQ hw66
    revert hM;revert hF
    refine slQ ?_
    have hq67:=iL hx65
    replace hq67:=nzQ hq67
    intro hF hM
    refine aM (n1 - 1) _ (by omega) sbQ sbQ ⟨(x64,p1.2.1,(p1.2.2.1++([x2.1]:List Int)),(p1.2.2.2++([p19.2]:List (List Int)))),rfl,⟨omQ,omQ⟩,omQ,aL hM hag1⟩
  ·intro hF hM
   subst hM
   exact bm [0] (aD hF) (by decide) (aD hF)
instance (priority:=1002):DRD 11 42 5 [24,25,26,27,28] [] ([[],[0],[],[2],[2,3]]++[List.range 5,List.range 6,List.range 7]) [(3,0)]:=⟨trivial⟩
set_option maxHeartbeats 2000000 in
set_option maxRecDepth 100000 in
theorem LB (N:Nat) (ih: ∀(p_:ay),(p_.s.length≤8000)→p_.s.length<N→bG En 48 [.ptr 0 0] [.var 2 true (.agg [.str p_.s,.bool p_.bad])] (.agg [.int .i64 (bX p_).1.Kind,.sl none 1 false ((bX p_).1.Relation.Y.map (V.int .i64)),.sl none 1 false ((bX p_).1.Relation.Bases.map (fun (l:List Int)=>V.sl none 1 false (l.map (V.int .i64)))),.sl none 4 true ((bX p_).1.L.map aA)]) [.var 2 true (.agg [.str (bX p_).2.s,.bool (bX p_).2.bad])] []) (p_:ay) (hp0:p_.s.length≤8000) (hp_:p_.s.length<N+1):bG En 48 [.ptr 0 0] [.var 2 true (.agg [.str p_.s,.bool p_.bad])] (.agg [.int .i64 (iB p_).1.Kind,.sl none 1 false ((iB p_).1.Relation.Y.map (V.int .i64)),.sl none 1 false ((iB p_).1.Relation.Bases.map (fun (l:List Int)=>V.sl none 1 false (l.map (V.int .i64)))),.sl none 4 true ((iB p_).1.L.map aA)]) [.var 2 true (.agg [.str (iB p_).2.s,.bool (iB p_).2.bad])] []:=by
 generalize hM:iB p_=r
 rw [iB.eq_1] at hM
 refine dY bf bv [11] Tryz.func48 rfl Tryz.ntmps48 (by kernel_rfl) rfl fun ks hw hwB=>bu ?_
 refine spQ ?_
 replace hw:=nzQ hw
 replace hwB:=nzB hwB
 have hM0:=hM;clear hM;obtain ⟨j1,hj1,hM⟩:=lK hM0;clear hM0
 refine lE (fun S=> ∃p:List UInt8×Bool×Int,S=(⟨[(0,.ptr 0 0),(2,.ptr 1 0),(3,.ptr 2 0)],[(0,.lent (ks 0) 2 true (.agg [.str p.1,.bool p.2.1])),(1,.var 4 true (.agg [.int .i64 0,.sl (some true) 1 false [],.sl (some true) 1 false [],.sl (some true) 4 true []])),(2,.var 4 true (.agg [.int .i64 p.2.2,.sl (some true) 1 false [],.sl (some true) 1 false [],.sl (some true) 4 true []]))],3⟩:St)∧(((((({s:=p.1,bad:=p.2.1}:ay)).s.length:Int)<(p_.s.length:Int))))∧j1 p=r) ?_ (fun hcut1=> ?_)
 ·clear hM
  rintro S ⟨p1,rfl,hfa1,hM⟩
  replace hfa1:=nzQ hfa1
  have hM0:=hM;clear hM;have hM:=lL hM0 hj1;clear hM0
  have hF:=bW
  revert hM;revert hF
  refine slQ ?_
  intro hF hM
  have hM0:=hM;clear hM;obtain ⟨f2,d2,hf2,hd2,hM⟩:=aO hM0;clear hM0
  refine gU (fun n S=> ∃p:ay×Int×List Int×List (List Int)×List aa×List aa,S=(⟨[(0,.ptr 0 0),(2,.ptr 1 0),(3,.ptr 2 0)],[(0,.lent (ks 0) 2 true (.agg [.str p.1.s,.bool p.1.bad])),(1,.var 4 true (.agg [.int .i64 p.2.1,.sl none 1 false (p.2.2.1.map (V.int .i64)),.sl none 1 false (p.2.2.2.1.map (fun (l:List Int)=>V.sl none 1 false (l.map (V.int .i64)))),.sl none 4 true (p.2.2.2.2.1.map aA)])),(2,.var 4 true (.agg [.int .i64 p1.2.2,.sl (some true) 1 false [],.sl (some true) 1 false [],.own 3])),(3,.own 30 4 true none (p.2.2.2.2.2.map aA))],4⟩:St)∧((((p.1).s.length:Int)+((p.2.2.2.2.2).length:Int)<(p_.s.length:Int)))∧(p.1).s.length<n∧ae n f2 d2 p=r) ((({s:=p1.1,bad:=p1.2.1}:ay)).s.length+1) _ _ (o9 2 3 30 rfl rfl (by decide)) sbQ sbQ ⟨(({s:=p1.1,bad:=p1.2.1}:ay),0,([]:List Int),([]:List (List Int)),([]:List aa),([]:List aa)),rfl,omQ,(Nat.lt_succ_self _),hM⟩ ?_
  clear hM
  rintro n2 S ⟨p2,rfl,hfa2,hm2,hM⟩
  have hM0:=hM;clear hM;obtain ⟨ag2,hag2,hM⟩:=aP hM0 (by omega) hf2;clear hM0
  replace hfa2:=nzQ hfa2
  replace hm2:=nzQ hm2
  revert hM;revert hF
  refine slQ ?_
  intro hF hM
  have hM0:=hM;clear hM;obtain ⟨x3,hx4,hM⟩:=ap hM0;clear hM0
  have hcx3:=ih (p2.1) (by (exact pfQ)) (by omega)
  rw [←hx4] at hcx3
  refine Aw 0 hcx3 rfl rfl lsQ lsQ lsQ lsQ lsQ ?_
  revert hM;revert hF
  refine slQ ?_
  have hq5:=KU hx4
  replace hq5:=nzQ hq5
  have hq6:=hO x3.2.bad
  replace hq6:=nzQ hq6
  refine slQ ?_
  refine cdQ (fun _ _ _=> ?_) (fun _ _ _=> ?_)
  ·intro hF hM
   have hM0:=hM;clear hM;obtain ⟨x9,hx10,hM⟩:=ap hM0;clear hM0
   have hcx9:=kY ({s:=x3.2.s,bad:=false}:ay) ([41])
   rw [←hx10] at hcx9
   refine bR [0] hcx9 (by decide) lsQ lsQ (fun hw11=> ?_)
   replace hw11:=nzQ hw11
   revert hM;revert hF
   refine slQ ?_
   have hq12:=eC hx10
   replace hq12:=nzQ hq12
   have hq13:=gG hx10 (by decide)
   replace hq13:=nzQ hq13
   have hq14:=hO x9.2.bad
   replace hq14:=nzQ hq14
   refine cdQ (fun _ _ _=> ?_) (fun _ _ _=> ?_)
   ·intro hF hM
    subst hM
    exact bm [0] (aD hF) (by decide) (aD hF)
   ·intro hF hM
    have hM0:=hM;clear hM;obtain ⟨x18,hx19,hM⟩:=ap hM0;clear hM0
    have hcx18:=qk (x9.2) ([44,32])
    rw [←hx19] at hcx18
    refine bR [0] hcx18 (by decide) lsQ lsQ (fun hw20=> ?_)
    replace hw20:=nzQ hw20
    revert hM;revert hF
    refine slQ ?_
    have hq21:=iL hx19
    replace hq21:=nzQ hq21
    intro hF hM
    refine aM (n2 - 1) _ (by omega) sbQ sbQ ⟨(x18,p2.2.1,p2.2.2.1,p2.2.2.2.1,p2.2.2.2.2.1,(p2.2.2.2.2.2++([x3.1]:List aa))),rfl,omQ,omQ,aL hM hag2⟩
  ·intro hF hM
   subst hM
   exact bm [0] (aD hF) (by decide) (aD hF)
 ·have hF:=bW
  revert hM;revert hF
  refine slQ ?_
  intro hF hM
  have hM0:=hM;clear hM;obtain ⟨x23,hx24,hM⟩:=ap hM0;clear hM0
  have hcx23:=kY p_ ([91])
  rw [←hx24] at hcx23
  refine bR [0] hcx23 (by decide) lsQ lsQ (fun hw25=> ?_)
  replace hw25:=nzQ hw25
  revert hM;revert hF
  refine slQ ?_
  have hq26:=eC hx24
  replace hq26:=nzQ hq26
  have hq27:=gG hx24 (by decide)
  replace hq27:=nzQ hq27
  have hq28:=hO x23.2.bad
  replace hq28:=nzQ hq28
  refine cdQ (fun _ _ _=> ?_) (fun _ _ _=> ?_)
  ·intro hF hM
   have hM0:=hM;clear hM;obtain ⟨x31,hx32,hM⟩:=ap hM0;clear hM0
   have hcx31:=LA (x23.2) (by (exact pfQ))
   rw [←hx32] at hcx31
   refine bR [0] hcx31 (by decide) lsQ lsQ (fun hw33=> ?_)
   replace hw33:=nzQ hw33
   revert hM;revert hF
   refine slQ ?_
   have hq34:=KR hx32
   replace hq34:=nzQ hq34
   intro hF hM
   subst hM
   exact bm [0] (aD hF) (by decide) (aD hF)
  ·intro hF hM
   have hM0:=hM;clear hM;obtain ⟨x36,hx37,hM⟩:=ap hM0;clear hM0
   have hcx36:=kY (x23.2) ([97,110,100,40])
   rw [←hx37] at hcx36
   refine bR [0] hcx36 (by decide) lsQ lsQ (fun hw38=> ?_)
   replace hw38:=nzQ hw38
   revert hM;revert hF
   refine slQ ?_
   have hq39:=eC hx37
   replace hq39:=nzQ hq39
   have hq40:=gG hx37 (by decide)
   replace hq40:=nzQ hq40
   have hq41:=hO x36.2.bad
   replace hq41:=nzQ hq41
   refine cdQ (fun _ _ _=> ?_) (fun _ _ _=> ?_)
   ·intro hF hM
    exact eH _ sbQ sbQ (hcut1 _ ⟨(x36.2.s,x36.2.bad,2),rfl,omQ,hM⟩)
   ·intro hF hM
    have hM0:=hM;clear hM;obtain ⟨x45,hx46,hM⟩:=ap hM0;clear hM0
    have hcx45:=kY (x36.2) ([111,114,40])
    rw [←hx46] at hcx45
    refine bR [0] hcx45 (by decide) lsQ lsQ (fun hw47=> ?_)
    replace hw47:=nzQ hw47
    revert hM;revert hF
    refine slQ ?_
    have hq48:=eC hx46
    replace hq48:=nzQ hq48
    have hq49:=gG hx46 (by decide)
    replace hq49:=nzQ hq49
    have hq50:=hO x45.2.bad
    replace hq50:=nzQ hq50
    refine cdQ (fun _ _ _=> ?_) (fun _ _ _=> ?_)
    ·intro hF hM
     exact eH _ sbQ sbQ (hcut1 _ ⟨(x45.2.s,x45.2.bad,3),rfl,omQ,hM⟩)
    ·intro hF hM
     subst hM
     exact bm [0] (aD hF) (by decide) (aD hF)
theorem LC: ∀(N:Nat) (p_:ay),(p_.s.length≤8000)→p_.s.length<N→bG En 48 [.ptr 0 0] [.var 2 true (.agg [.str p_.s,.bool p_.bad])] (.agg [.int .i64 (bX p_).1.Kind,.sl none 1 false ((bX p_).1.Relation.Y.map (V.int .i64)),.sl none 1 false ((bX p_).1.Relation.Bases.map (fun (l:List Int)=>V.sl none 1 false (l.map (V.int .i64)))),.sl none 4 true ((bX p_).1.L.map aA)]) [.var 2 true (.agg [.str (bX p_).2.s,.bool (bX p_).2.bad])] []:=by
 intro N
 induction N with
 | zero=>intro p_ h0 h;exact absurd h (Nat.not_lt_zero _)
 | succ N ih=>
  intro p_ h0 h
  have h9:=LB N ih p_ h0 h
  rw [KW] at h9
  exact h9
theorem LD (p_:ay) (hp0:p_.s.length≤8000):bG En 48 [.ptr 0 0] [.var 2 true (.agg [.str p_.s,.bool p_.bad])] (.agg [.int .i64 (bX p_).1.Kind,.sl none 1 false ((bX p_).1.Relation.Y.map (V.int .i64)),.sl none 1 false ((bX p_).1.Relation.Bases.map (fun (l:List Int)=>V.sl none 1 false (l.map (V.int .i64)))),.sl none 4 true ((bX p_).1.L.map aA)]) [.var 2 true (.agg [.str (bX p_).2.s,.bool (bX p_).2.bad])] []:=
 LC (p_.s.length+1) p_ hp0 (Nat.lt_succ_self _)
set_option maxHeartbeats 2000000 in
set_option maxRecDepth 100000 in
instance P8 (x_:Int):CM En (gZ x_) 148 [.int .i64 x_] (fun y=> .bool y) (fun _=> []):=by
 refine enQ noJ Tryz.func148 Tryz.ntmps148 (gZ.eq_1 ..) fun r hw=> ?_
 exact auR
set_option maxHeartbeats 2000000 in
set_option maxRecDepth 100000 in
instance P9 (s:(List Int)):CM En (wn s) 141 [.sl none 1 false (s.map (V.int .i64)),.fn 148 []] (fun y=> .int .i64 y) (fun _=> []):=by
 refine enQ noJ Tryz.func141 Tryz.ntmps141 (wn.eq_1 ..) fun r hw=> ?_
 intro hF hM
 have hM0:=hM;clear hM;obtain ⟨f1,d1,hf1,hd1,hM⟩:=aO hM0;clear hM0
 refine aS (fun n S=> ∃p:Int,S=(⟨[(0,.sl none 1 false (s.map (V.int .i64))),(1,.fn 148 []),(7,.int .i64 (s.length:Int)),(8,.int .i64 p)],[],0⟩:St)∧((0≤p)∧(p≤(s.length:Int)))∧((s.length:Int) - p).toNat<n∧ae n f1 d1 p=r) (((s.length:Int) - 0).toNat+1) _ sbQ sbQ ⟨0,rfl,⟨omQ,omQ⟩,(Nat.lt_succ_self _),hM⟩ ?_
 clear hM
 rintro n1 S ⟨p1,rfl,hfa1,hm1,hM⟩
 have hM0:=hM;clear hM;obtain ⟨ag1,hag1,hM⟩:=aP hM0 (by omega) hf1;clear hM0
 replace hfa1:=nzQ hfa1
 replace hm1:=nzQ hm1
 have ha1:al .i64 p1 1=p1+1:=aY omQ omQ
 replace hF:=(And.intro ha1 hF)
 revert hM;revert hF
 refine slQ ?_
 refine aC fun _ _ _=> ?_
 refine bh fun _ _ _ _=> ?_
 refine aT fun _ _ _=> ?_
 intro hF hM
 refine aM (n1 - 1) _ (by omega) sbQ sbQ ⟨(p1+1),rfl,⟨omQ,omQ⟩,omQ,aL hM hag1⟩
set_option maxHeartbeats 2000000 in
set_option maxRecDepth 100000 in
instance P_ (s:(List Int)):CM En (pj s) 86 [.sl none 1 false (s.map (V.int .i64)),.fn 148 []] (fun y=> .bool y) (fun _=> []):=by
 refine enQ noJ Tryz.func86 Tryz.ntmps86 (pj.eq_1 ..) fun r hw=> ?_
 exact auR
set_option maxHeartbeats 2000000 in
set_option maxRecDepth 100000 in
instance Qa (l:(List Int)):CM En (jv l) 102 [.sl none 1 false (l.map (V.int .i64))] (fun y=> .bool y) (fun _=> []):=by
 refine enQ noJ Tryz.func102 Tryz.ntmps102 (jv.eq_1 ..) fun r hw=> ?_
 exact auR
set_option maxHeartbeats 2000000 in
set_option maxRecDepth 100000 in
instance Qb (row:(List Int)) (c0:Int):CM En (g7 row c0) 103 [.sl none 1 false (row.map (V.int .i64)),.pp 1 false (.int .i64 c0)] (fun y=> .bool y) (fun _=> []):=by
 refine enQ noJ Tryz.func103 Tryz.ntmps103 (g7.eq_1 ..) fun r hw=> ?_
 exact auR
set_option maxHeartbeats 2000000 in
set_option maxRecDepth 100000 in
instance Qc (s:(List (List Int))) (f__c0:Int):CM En (wo s f__c0) 104 [.sl none 1 false (s.map (fun (l:List Int)=>V.sl none 1 false (l.map (V.int .i64)))),.fn 103 [.pp 1 false (.int .i64 f__c0)]] (fun y=> .int .i64 y) (fun _=> []):=by
 refine enQ noJ Tryz.func104 Tryz.ntmps104 (wo.eq_1 ..) fun r hw=> ?_
 intro hF hM
 have hM0:=hM;clear hM;obtain ⟨f1,d1,hf1,hd1,hM⟩:=aO hM0;clear hM0
 refine aS (fun n S=> ∃p:Int,S=(⟨[(0,.sl none 1 false (s.map (fun (l:List Int)=>V.sl none 1 false (l.map (V.int .i64))))),(1,.fn 103 [.pp 1 false (.int .i64 f__c0)]),(7,.int .i64 (s.length:Int)),(8,.int .i64 p)],[],0⟩:St)∧((0≤p)∧(p≤(s.length:Int)))∧((s.length:Int) - p).toNat<n∧ae n f1 d1 p=r) (((s.length:Int) - 0).toNat+1) _ sbQ sbQ ⟨0,rfl,⟨omQ,omQ⟩,(Nat.lt_succ_self _),hM⟩ ?_
 clear hM
 rintro n1 S ⟨p1,rfl,hfa1,hm1,hM⟩
 have hM0:=hM;clear hM;obtain ⟨ag1,hag1,hM⟩:=aP hM0 (by omega) hf1;clear hM0
 replace hfa1:=nzQ hfa1
 replace hm1:=nzQ hm1
 have ha1:al .i64 p1 1=p1+1:=aY omQ omQ
 replace hF:=(And.intro ha1 hF)
 revert hM;revert hF
 refine slQ ?_
 refine aC fun _ _ _=> ?_
 refine bh fun _ _ _ _=> ?_
 refine aT fun _ _ _=> ?_
 intro hF hM
 refine aM (n1 - 1) _ (by omega) sbQ sbQ ⟨(p1+1),rfl,⟨omQ,omQ⟩,omQ,aL hM hag1⟩
set_option maxHeartbeats 2000000 in
set_option maxRecDepth 100000 in
instance Qd (s:(List (List Int))) (f__c0:Int):CM En (pk s f__c0) 50 [.sl none 1 false (s.map (fun (l:List Int)=>V.sl none 1 false (l.map (V.int .i64)))),.fn 103 [.pp 1 false (.int .i64 f__c0)]] (fun y=> .bool y) (fun _=> []):=by
 refine enQ noJ Tryz.func50 Tryz.ntmps50 (pk.eq_1 ..) fun r hw=> ?_
 exact auR
set_option maxHeartbeats 2000000 in
set_option maxRecDepth 100000 in
instance Qe (r_:aH):CM En (iC r_) 101 [.agg [.sl none 1 false (r_.Y.map (V.int .i64)),.sl none 1 false (r_.Bases.map (fun (l:List Int)=>V.sl none 1 false (l.map (V.int .i64))))]] (fun y=> .bool y) (fun _=> []):=by
 refine enQ noJ Tryz.func101 Tryz.ntmps101 (iC.eq_1 ..) fun r hw=> ?_
 exact auR
set_option maxHeartbeats 2000000 in
set_option maxRecDepth 100000 in
instance Qf (f_:aa):CM En (cS f_) 108 [.agg [.int .i64 f_.Kind,.sl none 1 false (f_.Relation.Y.map (V.int .i64)),.sl none 1 false (f_.Relation.Bases.map (fun (l:List Int)=>V.sl none 1 false (l.map (V.int .i64)))),.sl none 4 true (f_.L.map aA)],.pp 1 false (.fn 101 [])] (fun y=> .bool y) (fun _=> []):=by
 refine enQ [6] Tryz.func108 Tryz.ntmps108 (cS.eq_1 ..) fun r hw=> ?_
 refine aT fun _ _ _=> ?_
 intro hF hM
 have hM0:=hM;clear hM;obtain ⟨j10,hj10,hM⟩:=lK hM0;clear hM0
 refine lE (fun S=> ∃p:Bool,S=(⟨[(2,.ptr 0 0),(18,.bool p)],[(0,.var 4 true (.agg [.int .i64 f_.Kind,.sl none 1 false (f_.Relation.Y.map (V.int .i64)),.sl none 1 false (f_.Relation.Bases.map (fun (l:List Int)=>V.sl none 1 false (l.map (V.int .i64)))),.sl none 4 true (f_.L.map aA)]))],1⟩:St)∧(True)∧j10 p=r) ?_ (fun hcut10=> ?_)
 ·clear hM
  rintro S ⟨p10,rfl,hfa10,hM⟩
  have hM0:=hM;clear hM;have hM:=lL hM0 hj10;clear hM0
  exact auP
 ·revert hM;revert hF
  refine slQ ?_
  refine cdQ (fun _ _ _=> ?_) (fun _ _ _=> ?_)
  ·intro hF hM
   exact eH _ sbQ sbQ (hcut10 _ ⟨true,rfl,trivial,hM⟩)
  ·intro hF hM
   exact eH _ sbQ sbQ (hcut10 _ ⟨(f_.Kind==3),rfl,trivial,hM⟩)
set_option maxHeartbeats 2000000 in
set_option maxRecDepth 100000 in
theorem LE (N:Nat) (ih: ∀(f_:aa) (depth:Int) (left:Int),ax f_<N→bG En 107 [.agg [.int .i64 f_.Kind,.sl none 1 false (f_.Relation.Y.map (V.int .i64)),.sl none 1 false (f_.Relation.Bases.map (fun (l:List Int)=>V.sl none 1 false (l.map (V.int .i64)))),.sl none 4 true (f_.L.map aA)],.int .i64 depth,.ptr 0 0,.fn 108 [.pp 1 false (.fn 101 [])]] [.var 1 false (.int .i64 left)] (.bool ((bS cS) f_ depth left).1) [.var 1 false (.int .i64 ((bS cS) f_ depth left).2)] []) (f_:aa) (depth:Int) (left:Int) (hp_:ax f_<N+1):bG En 107 [.agg [.int .i64 f_.Kind,.sl none 1 false (f_.Relation.Y.map (V.int .i64)),.sl none 1 false (f_.Relation.Bases.map (fun (l:List Int)=>V.sl none 1 false (l.map (V.int .i64)))),.sl none 4 true (f_.L.map aA)],.int .i64 depth,.ptr 0 0,.fn 108 [.pp 1 false (.fn 101 [])]] [.var 1 false (.int .i64 left)] (.bool (nl f_ depth left).1) [.var 1 false (.int .i64 (nl f_ depth left).2)] []:=by
 generalize hM:nl f_ depth left=r
 rw [nl.eq_1] at hM
 refine dY bf bv noJ Tryz.func107 rfl Tryz.ntmps107 (by kernel_rfl) rfl fun ks hw hwB=>bu ?_
 refine spQ ?_
 replace hw:=nzQ hw
 replace hwB:=nzB hwB
 have hF:=bW
 revert hM;revert hF
 refine cdQ (fun _ _ _=> ?_) (fun _ _ _=> ?_)
 ·refine cdQ (fun _ _ _=> ?_) (fun _ _ _=> ?_)
  ·refine bh fun _ _ _ _=> ?_
   refine cdQ (fun _ _ _=> ?_) (fun _ _ _=> ?_)
   ·intro hF hM
    subst hM
    exact bm [0] (aD hF) (by decide) (aD hF)
   ·intro hF hM
    have hM0:=hM;clear hM;obtain ⟨f11,d11,hf11,hd11,hM⟩:=aO hM0;clear hM0
    refine aS (fun n S=> ∃p:Int×Int,S=(⟨[(1,.int .i64 depth),(2,.ptr 0 0),(3,.fn 108 [.pp 1 false (.fn 101 [])]),(31,.sl none 4 true (f_.L.map aA)),(32,.int .i64 (f_.L.length:Int)),(33,.int .i64 p.1)],[(0,.lent (ks 0) 1 false (.int .i64 p.2))],2⟩:St)∧((0≤p.1)∧(p.1≤(f_.L.length:Int)))∧((f_.L.length:Int) - p.1).toNat<n∧ae n f11 d11 p=r) (((f_.L.length:Int) - 0).toNat+1) _ sbQ sbQ ⟨(0,(av .i64 left 1)),rfl,⟨omQ,omQ⟩,(Nat.lt_succ_self _),hM⟩ ?_
    clear hM
    rintro n11 S ⟨p11,rfl,hfa11,hm11,hM⟩
    have hM0:=hM;clear hM;obtain ⟨ag11,hag11,hM⟩:=aP hM0 (by omega) hf11;clear hM0
    replace hfa11:=nzQ hfa11
    replace hm11:=nzQ hm11
    have ha11:al .i64 p11.1 1=p11.1+1:=aY omQ omQ
    replace hF:=(And.intro ha11 hF)
    revert hM;revert hF
    refine slQ ?_
    refine cdQ (fun _ _ _=> ?_) (fun _ _ _=> ?_)
    ·intro hF hM
     have hM0:=hM;clear hM;obtain ⟨x15,hx16,hM⟩:=ap hM0;clear hM0
     have hcx15:=ih (gt f_.L p11.1) (al .i64 depth 1) (p11.2) (by (have h9:=b_ (f:=f_) (aI (l:=f_.L) (i:=p11.1) (by omega));omega))
     rw [←hx16] at hcx15
     refine bR [0] hcx15 (by decide) (aD hF) (aD hF) (fun hw17=> ?_)
     replace hw17:=nzQ hw17
     revert hM;revert hF
     refine slQ ?_
     refine cdQ (fun _ _ _=> ?_) (fun _ _ _=> ?_)
     ·intro hF hM
      subst hM
      exact bm [0] (aD hF) (by decide) (aD hF)
     ·intro hF hM
      refine aM (n11 - 1) _ (by omega) sbQ sbQ ⟨((p11.1+1),x15.2),rfl,⟨omQ,omQ⟩,omQ,aL hM hag11⟩
    ·intro hF hM
     subst hM
     exact bm [0] (aD hF) (by decide) (aD hF)
  ·intro hF hM
   subst hM
   exact bm [0] (aD hF) (by decide) (aD hF)
 ·intro hF hM
  subst hM
  exact bm [0] (aD hF) (by decide) (aD hF)
theorem LF: ∀(N:Nat) (f_:aa) (depth:Int) (left:Int),ax f_<N→bG En 107 [.agg [.int .i64 f_.Kind,.sl none 1 false (f_.Relation.Y.map (V.int .i64)),.sl none 1 false (f_.Relation.Bases.map (fun (l:List Int)=>V.sl none 1 false (l.map (V.int .i64)))),.sl none 4 true (f_.L.map aA)],.int .i64 depth,.ptr 0 0,.fn 108 [.pp 1 false (.fn 101 [])]] [.var 1 false (.int .i64 left)] (.bool ((bS cS) f_ depth left).1) [.var 1 false (.int .i64 ((bS cS) f_ depth left).2)] []:=by
 intro N
 induction N with
 | zero=>intro f_ depth left h;exact absurd h (Nat.not_lt_zero _)
 | succ N ih=>
  intro f_ depth left h
  have h9:=LE N ih f_ depth left h
  rw [KH] at h9
  exact h9
theorem LG (f_:aa) (depth:Int) (left:Int):bG En 107 [.agg [.int .i64 f_.Kind,.sl none 1 false (f_.Relation.Y.map (V.int .i64)),.sl none 1 false (f_.Relation.Bases.map (fun (l:List Int)=>V.sl none 1 false (l.map (V.int .i64)))),.sl none 4 true (f_.L.map aA)],.int .i64 depth,.ptr 0 0,.fn 108 [.pp 1 false (.fn 101 [])]] [.var 1 false (.int .i64 left)] (.bool ((bS cS) f_ depth left).1) [.var 1 false (.int .i64 ((bS cS) f_ depth left).2)] []:=
 LF (ax f_+1) f_ depth left (Nat.lt_succ_self _)
set_option maxHeartbeats 2000000 in
set_option maxRecDepth 100000 in
instance Qg (f_:aa):CM En (wp f_) 57 [.agg [.int .i64 f_.Kind,.sl none 1 false (f_.Relation.Y.map (V.int .i64)),.sl none 1 false (f_.Relation.Bases.map (fun (l:List Int)=>V.sl none 1 false (l.map (V.int .i64)))),.sl none 4 true (f_.L.map aA)],.fn 101 []] (fun y=> .bool y) (fun _=> []):=by
 refine enQ [2] Tryz.func57 Tryz.ntmps57 (wp.eq_1 ..) fun r hw=> ?_
 intro hF hM
 refine lO ?_
 revert hM;revert hF
 refine slQ ?_
 intro hF hM
 refine ko _ (⟨[(2,.ptr 0 0),(3,.pp 1 false (.fn 101 [])),(5,.ptr 2 0)],[(0,.var 4 true (.agg [.int .i64 f_.Kind,.sl none 1 false (f_.Relation.Y.map (V.int .i64)),.sl none 1 false (f_.Relation.Bases.map (fun (l:List Int)=>V.sl none 1 false (l.map (V.int .i64)))),.sl none 4 true (f_.L.map aA)])),(1,.pvar 1 false (.fn 101 [])),(2,.var 1 false (.int .i64 30))],3⟩:St) ((m9 (S:=⟨_,_,_⟩) 1 (n:=1) (g:=false) (d:= .fn 101 []) clQ clQ).trans (pY (S:=⟨_,_,_⟩) 3 1 (n:=1) (g:=false) (d:= .fn 101 []) clQ clQ)) sbQ sbQ ?_
 revert hM;revert hF
 refine slQ ?_
 intro hF hM
 have hM0:=hM;clear hM;obtain ⟨x1,hx2,hM⟩:=ap hM0;clear hM0
 have hcx1:=LG f_ 1 30
 rw [←hx2] at hcx1
 refine bR [2] hcx1 (by decide) lsQ lsQ (fun hw3=> ?_)
 replace hw3:=nzQ hw3
 exact auP
set_option maxHeartbeats 2000000 in
set_option maxRecDepth 100000 in
instance Qh (f_:aa):CM En (iD f_) 49 [.agg [.int .i64 f_.Kind,.sl none 1 false (f_.Relation.Y.map (V.int .i64)),.sl none 1 false (f_.Relation.Bases.map (fun (l:List Int)=>V.sl none 1 false (l.map (V.int .i64)))),.sl none 4 true (f_.L.map aA)]] (fun y=> .bool y) (fun _=> []):=by
 refine enQ noJ Tryz.func49 Tryz.ntmps49 (iD.eq_1 ..) fun r hw=> ?_
 exact auR
set_option maxHeartbeats 2000000 in
set_option maxRecDepth 100000 in
instance Qi (s:(List UInt8)):CM En (wt s) 16 [.str s] (fun y=> .tup [.agg [.int .i64 y.1.Kind,.sl none 1 false (y.1.Relation.Y.map (V.int .i64)),.sl none 1 false (y.1.Relation.Bases.map (fun (l:List Int)=>V.sl none 1 false (l.map (V.int .i64)))),.sl none 4 true (y.1.L.map aA)],.int .i64 y.2]) (fun _=> []):=by
 refine enQ noJ Tryz.func16 Tryz.ntmps16 (wt.eq_1 ..) fun r hw=> ?_
 refine aT fun _ _ _=> ?_
 intro hF hM
 have hM0:=hM;clear hM;obtain ⟨x4,hx5,hM⟩:=ap hM0;clear hM0
 have hcx4:=LD ({s:=s,bad:=false}:ay) (by (exact pfQ))
 rw [←hx5] at hcx4
 refine bR [1] hcx4 (by decide) lsQ lsQ (fun hw6=> ?_)
 replace hw6:=nzQ hw6
 exact auP
set_option maxHeartbeats 2000000 in
set_option maxRecDepth 100000 in
theorem LH (N:Nat) (ih: ∀(f_:aa),(okF f_)→ax f_<N→aE En 39 [.agg [.int .i64 f_.Kind,.sl none 1 false (f_.Relation.Y.map (V.int .i64)),.sl none 1 false (f_.Relation.Bases.map (fun (l:List Int)=>V.sl none 1 false (l.map (V.int .i64)))),.sl none 4 true (f_.L.map aA)]] (.int .i64 (cX f_)) []) (f_:aa) (hp0:okF f_) (hp_:ax f_<N+1):aE En 39 [.agg [.int .i64 f_.Kind,.sl none 1 false (f_.Relation.Y.map (V.int .i64)),.sl none 1 false (f_.Relation.Bases.map (fun (l:List Int)=>V.sl none 1 false (l.map (V.int .i64)))),.sl none 4 true (f_.L.map aA)]] (.int .i64 (pm f_)) []:=by
 generalize hM:pm f_=r
 rw [pm.eq_1] at hM
 refine bU bf bv noJ Tryz.func39 rfl Tryz.ntmps39 (by kernel_rfl) fun hw=>bu ?_
 refine spQ ?_
 replace hw:=nzQ hw
 have hA0:=fun a0=>KJ hp0 a0
 have hF:=bW
 revert hM;revert hF
 refine aT fun _ _ _=> ?_
 intro hF hM
 have hM0:=hM;clear hM;obtain ⟨f5,d5,hf5,hd5,hM⟩:=aO hM0;clear hM0
 refine aS (fun n S=> ∃p:Int×Int,S=(⟨[(3,.int .i64 p.1),(16,.sl none 4 true (f_.L.map aA)),(17,.int .i64 (f_.L.length:Int)),(18,.int .i64 p.2)],[],1⟩:St)∧((0≤p.2)∧(p.2≤(f_.L.length:Int)))∧((f_.L.length:Int) - p.2).toNat<n∧ae n f5 d5 p=r) (((f_.L.length:Int) - 0).toNat+1) _ sbQ sbQ ⟨(0,0),rfl,⟨by exact omA,by exact omA⟩,(Nat.lt_succ_self _),hM⟩ ?_
 clear hM
 rintro n5 S ⟨p5,rfl,hfa5,hm5,hM⟩
 have hM0:=hM;clear hM;obtain ⟨ag5,hag5,hM⟩:=aP hM0 (by omega) hf5;clear hM0
 replace hfa5:=nzQ hfa5
 replace hm5:=nzQ hm5
 have ha5:al .i64 p5.2 1=p5.2+1:=aY (by exact omA) (by exact omA)
 replace hF:=(And.intro ha5 hF)
 revert hM;revert hF
 refine slQ ?_
 refine aC fun _ _ _=> ?_
 intro hF hM
 have hM0:=hM;clear hM;obtain ⟨x9,hx10,hM⟩:=ap hM0;clear hM0
 have hcx9:=ih (gt f_.L p5.2) (by (exact KK hp0 (by assumption) (aI (by omega)))) (by (have h9:=b_ (f:=f_) (aI (l:=f_.L) (i:=p5.2) (by omega));omega))
 rw [←hx10] at hcx9
 refine aJ hcx9 (ar hF) (ar hF) (fun hw11=> ?_)
 replace hw11:=nzQ hw11
 exact auP
theorem LI: ∀(N:Nat) (f_:aa),(okF f_)→ax f_<N→aE En 39 [.agg [.int .i64 f_.Kind,.sl none 1 false (f_.Relation.Y.map (V.int .i64)),.sl none 1 false (f_.Relation.Bases.map (fun (l:List Int)=>V.sl none 1 false (l.map (V.int .i64)))),.sl none 4 true (f_.L.map aA)]] (.int .i64 (cX f_)) []:=by
 intro N
 induction N with
 | zero=>intro f_ h0 h;exact absurd h (Nat.not_lt_zero _)
 | succ N ih=>
  intro f_ h0 h
  have h9:=LH N ih f_ h0 h
  rw [KM] at h9
  exact h9
theorem xj (f_:aa) (hp0:okF f_):aE En 39 [.agg [.int .i64 f_.Kind,.sl none 1 false (f_.Relation.Y.map (V.int .i64)),.sl none 1 false (f_.Relation.Bases.map (fun (l:List Int)=>V.sl none 1 false (l.map (V.int .i64)))),.sl none 4 true (f_.L.map aA)]] (.int .i64 (cX f_)) []:=
 LI (ax f_+1) f_ hp0 (Nat.lt_succ_self _)
set_option maxHeartbeats 2000000 in
set_option maxRecDepth 100000 in
instance Qj (f_:aa):CM En (wu f_) 17 [.agg [.int .i64 f_.Kind,.sl none 1 false (f_.Relation.Y.map (V.int .i64)),.sl none 1 false (f_.Relation.Bases.map (fun (l:List Int)=>V.sl none 1 false (l.map (V.int .i64)))),.sl none 4 true (f_.L.map aA)]] (fun y=> .int .i64 y) (fun _=> []):=by
 refine enQ noJ Tryz.func17 Tryz.ntmps17 (wu.eq_1 ..) fun r hw=> ?_
 refine bh fun _ _ _ _=> ?_
 refine aT fun _ _ _=> ?_
 intro hF hM
 have hM0:=hM;clear hM;obtain ⟨x8,hx9,hM⟩:=ap hM0;clear hM0
 have hcx8:=xj f_ (by (have h9:=‹okT f_∧_›;exact h9.2.2))
 rw [←hx9] at hcx8
 refine aJ hcx8 clQ clQ (fun hw10=> ?_)
 replace hw10:=nzQ hw10
 exact auP
set_option maxHeartbeats 2000000 in
set_option maxRecDepth 100000 in
instance Qk (x_:Int) (y:Int):CM En (kB x_ y) 183 [.int .u64 x_,.int .u64 y] (fun y=> .tup [.int .u64 y.1,.int .u64 y.2]) (fun _=> []):=by
 refine enQ noJ Tryz.func183 Tryz.ntmps183 (kB.eq_1 ..) fun r hw=> ?_
 exact auR
set_option maxHeartbeats 2000000 in
set_option maxRecDepth 100000 in
instance Ql (x_:Int):CM En (l3 x_) 208 [.int .u64 x_] (fun y=> .int .i64 y) (fun _=> []):=by
 refine enQ noJ Tryz.func208 Tryz.ntmps208 (l3.eq_1 ..) fun r hw=> ?_
 exact auR
instance (priority:=1003):DRD 6 135 7 [6,28,29,30,31,32,33] [] ([[],[],[0,1],[],[],[3,4],[0,1,2]]++[List.range 7]) []:=⟨trivial⟩
set_option maxHeartbeats 2000000 in
set_option maxRecDepth 100000 in
theorem CU (hi:Int) (lo:Int) (y:Int) (hp0:hi<y):CM En (nn hi lo y) 184 [.int .u64 hi,.int .u64 lo,.int .u64 y] (fun y=> .tup [.int .u64 y.1,.int .u64 y.2]) (fun _=> []):=by
 refine enQ [21,28] Tryz.func184 Tryz.ntmps184 (nn.eq_1 ..) fun r hw=> ?_
 refine cdQ (fun _ _ _=> ?_) (fun _ _ _=> ?_)
 ·intro hF hM
  exact False.elim omQ
 ·refine cdQ (fun _ _ _=> ?_) (fun _ _ _=> ?_)
  ·intro hF hM
   exact False.elim omQ
  ·refine aT fun _ _ _=> ?_
   refine bh fun x10 hx11 _ _=> ?_
   have hq13:=JM hx11 (by omega) (by omega)
   replace hq13:=nzQ hq13
   intro hF hM
   try refine bF (by (exact m7 _)) ?_
   revert hM;revert hF
   refine slQ ?_
   intro hF hM
   try refine bF (by (exact m7 _)) ?_
   revert hM;revert hF
   refine slQ ?_
   intro hF hM
   try refine bF (by (exact (ol .u64 _ _).1)) ?_
   revert hM;revert hF
   refine slQ ?_
   intro hF hM
   try refine bF (by (exact m7 _)) ?_
   revert hM;revert hF
   refine slQ ?_
   intro hF hM
   have hM0:=hM;clear hM;obtain ⟨j14,hj14,hM⟩:=lK hM0;clear hM0
   refine lE (fun S=> ∃p:Int,S=(⟨[(2,.int .u64 (aB .u64 y (ah .u64 x10))),(8,.int .u64 (ah .u64 x10)),(9,.int .u64 (aw .u64 (aB .u64 y (ah .u64 x10)) 32)),(10,.int .u64 (aU .u64 (aB .u64 y (ah .u64 x10)) 4294967295)),(11,.int .u64 (orI .u64 (aB .u64 hi (ah .u64 x10)) (aw .u64 lo (av .u64 64 (ah .u64 x10))))),(13,.int .u64 (aw .u64 (aB .u64 lo (ah .u64 x10)) 32)),(14,.int .u64 (aU .u64 (aB .u64 lo (ah .u64 x10)) 4294967295)),(15,.int .u64 p)],[],0⟩:St)∧(True)∧j14 p=r) ?_ (fun hcut14=> ?_)
   ·clear hM
    rintro S ⟨p14,rfl,hfa14,hM⟩
    have hM0:=hM;clear hM;have hM:=lL hM0 hj14;clear hM0
    revert hM;revert hF
    refine slQ ?_
    intro hF hM
    have hM0:=hM;clear hM;obtain ⟨j15,hj15,hM⟩:=lK hM0;clear hM0
    refine lE (fun S=> ∃p:Int,S=(⟨[(2,.int .u64 (aB .u64 y (ah .u64 x10))),(8,.int .u64 (ah .u64 x10)),(14,.int .u64 (aU .u64 (aB .u64 lo (ah .u64 x10)) 4294967295)),(15,.int .u64 p14),(17,.int .u64 (av .u64 (al .u64 (aN .u64 (orI .u64 (aB .u64 hi (ah .u64 x10)) (aw .u64 lo (av .u64 64 (ah .u64 x10)))) 4294967296) (aw .u64 (aB .u64 lo (ah .u64 x10)) 32)) (aN .u64 p14 (aB .u64 y (ah .u64 x10))))),(18,.int .u64 p)],[],0⟩:St)∧(True)∧j15 p=r) ?_ (fun hcut15=> ?_)
    ·clear hM
     rintro S ⟨p15,rfl,hfa15,hM⟩
     have hM0:=hM;clear hM;have hM:=lL hM0 hj15;clear hM0
     revert hM;revert hF
     refine slQ ?_
     intro hF hM
     try refine bF (by (exact m7 _)) ?_
     exact auP
    ·revert hM;revert hF
     refine slQ ?_
     intro hF hM
     have hM0:=hM;clear hM;obtain ⟨f16,d16,hf16,hd16,hM⟩:=aO hM0;clear hM0
     refine aS (fun n S=> ∃p:Int×Int,S=(⟨[(2,.int .u64 (aB .u64 y (ah .u64 x10))),(8,.int .u64 (ah .u64 x10)),(9,.int .u64 (aw .u64 (aB .u64 y (ah .u64 x10)) 32)),(10,.int .u64 (aU .u64 (aB .u64 y (ah .u64 x10)) 4294967295)),(14,.int .u64 (aU .u64 (aB .u64 lo (ah .u64 x10)) 4294967295)),(15,.int .u64 p14),(16,.int .u64 p.1),(17,.int .u64 (av .u64 (al .u64 (aN .u64 (orI .u64 (aB .u64 hi (ah .u64 x10)) (aw .u64 lo (av .u64 64 (ah .u64 x10)))) 4294967296) (aw .u64 (aB .u64 lo (ah .u64 x10)) 32)) (aN .u64 p14 (aB .u64 y (ah .u64 x10))))),(18,.int .u64 p.2)],[],0⟩:St)∧((0≤p.1∧p.1≤4294967295))∧(4294967296 - p.1).toNat<n∧ae n f16 d16 p=r) ((4294967296 - (av .u64 (av .u64 (al .u64 (aN .u64 (orI .u64 (aB .u64 hi (ah .u64 x10)) (aw .u64 lo (av .u64 64 (ah .u64 x10)))) 4294967296) (aw .u64 (aB .u64 lo (ah .u64 x10)) 32)) (aN .u64 p14 (aB .u64 y (ah .u64 x10)))) (aN .u64 (bP .u64 (av .u64 (al .u64 (aN .u64 (orI .u64 (aB .u64 hi (ah .u64 x10)) (aw .u64 lo (av .u64 64 (ah .u64 x10)))) 4294967296) (aw .u64 (aB .u64 lo (ah .u64 x10)) 32)) (aN .u64 p14 (aB .u64 y (ah .u64 x10)))) (aw .u64 (aB .u64 y (ah .u64 x10)) 32)) (aw .u64 (aB .u64 y (ah .u64 x10)) 32)))).toNat+1) _ sbQ sbQ ⟨((av .u64 (av .u64 (al .u64 (aN .u64 (orI .u64 (aB .u64 hi (ah .u64 x10)) (aw .u64 lo (av .u64 64 (ah .u64 x10)))) 4294967296) (aw .u64 (aB .u64 lo (ah .u64 x10)) 32)) (aN .u64 p14 (aB .u64 y (ah .u64 x10)))) (aN .u64 (bP .u64 (av .u64 (al .u64 (aN .u64 (orI .u64 (aB .u64 hi (ah .u64 x10)) (aw .u64 lo (av .u64 64 (ah .u64 x10)))) 4294967296) (aw .u64 (aB .u64 lo (ah .u64 x10)) 32)) (aN .u64 p14 (aB .u64 y (ah .u64 x10)))) (aw .u64 (aB .u64 y (ah .u64 x10)) 32)) (aw .u64 (aB .u64 y (ah .u64 x10)) 32))),(bP .u64 (av .u64 (al .u64 (aN .u64 (orI .u64 (aB .u64 hi (ah .u64 x10)) (aw .u64 lo (av .u64 64 (ah .u64 x10)))) 4294967296) (aw .u64 (aB .u64 lo (ah .u64 x10)) 32)) (aN .u64 p14 (aB .u64 y (ah .u64 x10)))) (aw .u64 (aB .u64 y (ah .u64 x10)) 32))),rfl,by (exact A0 (JX _ _) (by omega) (by omega)),(Nat.lt_succ_self _),hM⟩ ?_
     clear hM
     rintro n16 S ⟨p16,rfl,hF24_0,hm16,hM⟩
     have hM0:=hM;clear hM;obtain ⟨ag16,hag16,hM⟩:=aP hM0 (by omega) hf16;clear hM0
     replace hm16:=nzQ hm16
     revert hM;revert hF
     refine slQ ?_
     refine cdQ (fun _ _ _=> ?_) (fun _ _ _=> ?_)
     ·refine cdQ (fun _ _ _=> ?_) (fun _ _ _=> ?_)
      ·refine cdQ (fun _ _ _=> ?_) (fun _ _ _=> ?_)
       ·intro hF hM
        exact eH _ sbQ sbQ (hcut15 _ ⟨(av .u64 p16.2 1),rfl,trivial,hM⟩)
       ·intro hF hM
        refine aM (n16 - 1) _ (by omega) sbQ sbQ ⟨((al .u64 p16.1 (aw .u64 (aB .u64 y (ah .u64 x10)) 32)),(av .u64 p16.2 1)),rfl,by (have h9:=kT (a:=p16.1) (b:=(aw .u64 (aB .u64 y (ah .u64 x10)) 32)) (by omega) (by omega) (by omega) (by omega);omega),by (have h9:=kT (a:=p16.1) (b:=(aw .u64 (aB .u64 y (ah .u64 x10)) 32)) (by omega) (by omega) (by omega) (by omega);omega),aL hM hag16⟩
      ·intro hF hM
       exact eH _ sbQ sbQ (hcut15 _ ⟨p16.2,rfl,trivial,hM⟩)
     ·refine cdQ (fun _ _ _=> ?_) (fun _ _ _=> ?_)
      ·intro hF hM
       exact eH _ sbQ sbQ (hcut15 _ ⟨(av .u64 p16.2 1),rfl,trivial,hM⟩)
      ·intro hF hM
       refine aM (n16 - 1) _ (by omega) sbQ sbQ ⟨((al .u64 p16.1 (aw .u64 (aB .u64 y (ah .u64 x10)) 32)),(av .u64 p16.2 1)),rfl,by (have h9:=kT (a:=p16.1) (b:=(aw .u64 (aB .u64 y (ah .u64 x10)) 32)) (by omega) (by omega) (by omega) (by omega);omega),by (have h9:=kT (a:=p16.1) (b:=(aw .u64 (aB .u64 y (ah .u64 x10)) 32)) (by omega) (by omega) (by omega) (by omega);omega),aL hM hag16⟩
   ·revert hM;revert hF
    refine slQ ?_
    intro hF hM
    have hM0:=hM;clear hM;obtain ⟨f29,d29,hf29,hd29,hM⟩:=aO hM0;clear hM0
    refine aS (fun n S=> ∃p:Int×Int,S=(⟨[(2,.int .u64 (aB .u64 y (ah .u64 x10))),(8,.int .u64 (ah .u64 x10)),(9,.int .u64 (aw .u64 (aB .u64 y (ah .u64 x10)) 32)),(10,.int .u64 (aU .u64 (aB .u64 y (ah .u64 x10)) 4294967295)),(11,.int .u64 (orI .u64 (aB .u64 hi (ah .u64 x10)) (aw .u64 lo (av .u64 64 (ah .u64 x10))))),(13,.int .u64 (aw .u64 (aB .u64 lo (ah .u64 x10)) 32)),(14,.int .u64 (aU .u64 (aB .u64 lo (ah .u64 x10)) 4294967295)),(15,.int .u64 p.1),(16,.int .u64 p.2)],[],0⟩:St)∧((0≤p.2∧p.2≤4294967295))∧(4294967296 - p.2).toNat<n∧ae n f29 d29 p=r) ((4294967296 - (av .u64 (orI .u64 (aB .u64 hi (ah .u64 x10)) (aw .u64 lo (av .u64 64 (ah .u64 x10)))) (aN .u64 (bP .u64 (orI .u64 (aB .u64 hi (ah .u64 x10)) (aw .u64 lo (av .u64 64 (ah .u64 x10)))) (aw .u64 (aB .u64 y (ah .u64 x10)) 32)) (aw .u64 (aB .u64 y (ah .u64 x10)) 32)))).toNat+1) _ sbQ sbQ ⟨((bP .u64 (orI .u64 (aB .u64 hi (ah .u64 x10)) (aw .u64 lo (av .u64 64 (ah .u64 x10)))) (aw .u64 (aB .u64 y (ah .u64 x10)) 32)),(av .u64 (orI .u64 (aB .u64 hi (ah .u64 x10)) (aw .u64 lo (av .u64 64 (ah .u64 x10)))) (aN .u64 (bP .u64 (orI .u64 (aB .u64 hi (ah .u64 x10)) (aw .u64 lo (av .u64 64 (ah .u64 x10)))) (aw .u64 (aB .u64 y (ah .u64 x10)) 32)) (aw .u64 (aB .u64 y (ah .u64 x10)) 32)))),rfl,by (exact A0 (JW _ _) (by omega) (by omega)),(Nat.lt_succ_self _),hM⟩ ?_
    clear hM
    rintro n29 S ⟨p29,rfl,hF17_0,hm29,hM⟩
    have hM0:=hM;clear hM;obtain ⟨ag29,hag29,hM⟩:=aP hM0 (by omega) hf29;clear hM0
    replace hm29:=nzQ hm29
    revert hM;revert hF
    refine slQ ?_
    refine cdQ (fun _ _ _=> ?_) (fun _ _ _=> ?_)
    ·refine cdQ (fun _ _ _=> ?_) (fun _ _ _=> ?_)
     ·refine cdQ (fun _ _ _=> ?_) (fun _ _ _=> ?_)
      ·intro hF hM
       exact eH _ sbQ sbQ (hcut14 _ ⟨(av .u64 p29.1 1),rfl,trivial,hM⟩)
      ·intro hF hM
       refine aM (n29 - 1) _ (by omega) sbQ sbQ ⟨((av .u64 p29.1 1),(al .u64 p29.2 (aw .u64 (aB .u64 y (ah .u64 x10)) 32))),rfl,by (have h9:=kT (a:=p29.2) (b:=(aw .u64 (aB .u64 y (ah .u64 x10)) 32)) (by omega) (by omega) (by omega) (by omega);omega),by (have h9:=kT (a:=p29.2) (b:=(aw .u64 (aB .u64 y (ah .u64 x10)) 32)) (by omega) (by omega) (by omega) (by omega);omega),aL hM hag29⟩
     ·intro hF hM
      exact eH _ sbQ sbQ (hcut14 _ ⟨p29.1,rfl,trivial,hM⟩)
    ·refine cdQ (fun _ _ _=> ?_) (fun _ _ _=> ?_)
     ·intro hF hM
      exact eH _ sbQ sbQ (hcut14 _ ⟨(av .u64 p29.1 1),rfl,trivial,hM⟩)
     ·intro hF hM
      refine aM (n29 - 1) _ (by omega) sbQ sbQ ⟨((av .u64 p29.1 1),(al .u64 p29.2 (aw .u64 (aB .u64 y (ah .u64 x10)) 32))),rfl,by (have h9:=kT (a:=p29.2) (b:=(aw .u64 (aB .u64 y (ah .u64 x10)) 32)) (by omega) (by omega) (by omega) (by omega);omega),by (have h9:=kT (a:=p29.2) (b:=(aw .u64 (aB .u64 y (ah .u64 x10)) 32)) (by omega) (by omega) (by omega) (by omega);omega),aL hM hag29⟩
set_option maxHeartbeats 2000000 in
set_option maxRecDepth 100000 in
theorem tm (a_:Int) (b:Int) (n_:Int) (hp0:a_<n_):CM En (fx a_ b n_) 181 [.int .u64 a_,.int .u64 b,.int .u64 n_] (fun y=> .int .u64 y) (fun _=> []):=by
 refine enQ noJ Tryz.func181 Tryz.ntmps181 (fx.eq_1 ..) fun r hw=> ?_
 refine bh fun x1 hx2 _ _=> ?_
 have hq4:=AZ n_ hx2 (by omega) (by omega) (by omega) (by omega) (by omega)
 replace hq4:=nzQ hq4
 intro hF hM
 have hM0:=hM;clear hM;obtain ⟨x5,hx6,hM⟩:=ap hM0;clear hM0
 have hcx5:=cmH hx6 (CU (x1.1) (x1.2) n_ (by (exact pfQ)))
 refine aJ hcx5 clQ clQ (fun hw7=> ?_)
 replace hw7:=nzQ hw7
 exact auP
set_option maxHeartbeats 2000000 in
set_option maxRecDepth 100000 in
theorem LJ (a_:Int) (e_:Int) (n_:Int) (hp0:a_<n_) (hp1:1<n_):CM En (l4 a_ e_ n_) 180 [.int .u64 a_,.int .u64 e_,.int .u64 n_] (fun y=> .int .u64 y) (fun _=> []):=by
 refine enQ noJ Tryz.func180 Tryz.ntmps180 (l4.eq_1 ..) fun r hw=> ?_
 intro hF hM
 have hM0:=hM;clear hM;obtain ⟨f1,d1,hf1,hd1,hM⟩:=aO hM0;clear hM0
 refine aS (fun n S=> ∃p:Int×Int×Int,S=(⟨[(0,.int .u64 p.1),(1,.int .u64 p.2.1),(2,.int .u64 n_),(7,.int .u64 p.2.2)],[],0⟩:St)∧((0≤p.1)∧(p.1<n_)∧(0≤p.2.1)∧(0≤p.2.2)∧(p.2.2<n_))∧p.2.1.toNat<n∧ae n f1 d1 p=r) (e_.toNat+1) _ sbQ sbQ ⟨(a_,e_,1),rfl,⟨omQ,omQ,omQ,omQ,omQ⟩,(Nat.lt_succ_self _),hM⟩ ?_
 clear hM
 rintro n1 S ⟨p1,rfl,hfa1,hm1,hM⟩
 have hM0:=hM;clear hM;obtain ⟨ag1,hag1,hM⟩:=aP hM0 (by omega) hf1;clear hM0
 replace hfa1:=nzQ hfa1
 replace hm1:=nzQ hm1
 revert hM;revert hF
 refine slQ ?_
 refine aC fun _ _ _=> ?_
 refine cdQ (fun _ _ _=> ?_) (fun _ _ _=> ?_)
 ·intro hF hM
  have hM0:=hM;clear hM;obtain ⟨x6,hx7,hM⟩:=ap hM0;clear hM0
  have hcx6:=cmH hx7 (tm (p1.2.2) (p1.1) n_ (by (exact pfQ)))
  refine aJ hcx6 clQ clQ (fun hw8=> ?_)
  replace hw8:=nzQ hw8
  revert hM;revert hF
  refine slQ ?_
  have hq9:=mp hx7 (by omega) (by omega) (by omega) (by omega) (by omega)
  replace hq9:=nzQ hq9
  intro hF hM
  have hM0:=hM;clear hM;obtain ⟨x10,hx11,hM⟩:=ap hM0;clear hM0
  have hcx10:=cmH hx11 (tm (p1.1) (p1.1) n_ (by (exact pfQ)))
  refine aJ hcx10 clQ clQ (fun hw12=> ?_)
  replace hw12:=nzQ hw12
  revert hM;revert hF
  refine slQ ?_
  have hq13:=mp hx11 (by omega) (by omega) (by omega) (by omega) (by omega)
  replace hq13:=nzQ hq13
  intro hF hM
  refine aM (n1 - 1) _ (by omega) sbQ sbQ ⟨(x10,(aw .u64 p1.2.1 1),x6),rfl,⟨by (clear hM;(try dsimp only);(try rw [cH]);(try rw [cO]);omega),by (clear hM;(try dsimp only);(try rw [cH]);(try rw [cO]);omega),by (clear hM;(try dsimp only);(try rw [cH]);(try rw [cO]);omega),by (clear hM;(try dsimp only);(try rw [cH]);(try rw [cO]);omega),by (clear hM;(try dsimp only);(try rw [cH]);(try rw [cO]);omega)⟩,by (clear hM;(try dsimp only);(try rw [cH]);(try rw [cO]);omega),aL hM hag1⟩
 ·intro hF hM
  have hM0:=hM;clear hM;obtain ⟨x15,hx16,hM⟩:=ap hM0;clear hM0
  have hcx15:=cmH hx16 (tm (p1.1) (p1.1) n_ (by (exact pfQ)))
  refine aJ hcx15 clQ clQ (fun hw17=> ?_)
  replace hw17:=nzQ hw17
  revert hM;revert hF
  refine slQ ?_
  have hq18:=mp hx16 (by omega) (by omega) (by omega) (by omega) (by omega)
  replace hq18:=nzQ hq18
  intro hF hM
  refine aM (n1 - 1) _ (by omega) sbQ sbQ ⟨(x15,(aw .u64 p1.2.1 1),p1.2.2),rfl,⟨by (clear hM;(try dsimp only);(try rw [cH]);(try rw [cO]);omega),by (clear hM;(try dsimp only);(try rw [cH]);(try rw [cO]);omega),by (clear hM;(try dsimp only);(try rw [cH]);(try rw [cO]);omega),by (clear hM;(try dsimp only);(try rw [cH]);(try rw [cO]);omega),by (clear hM;(try dsimp only);(try rw [cH]);(try rw [cO]);omega)⟩,by (clear hM;(try dsimp only);(try rw [cH]);(try rw [cO]);omega),aL hM hag1⟩
set_option maxHeartbeats 2000000 in
set_option maxRecDepth 100000 in
theorem LK (a_:Int) (n_:Int) (d_:Int) (s:Int) (hp0:a_<n_) (hp1:1<n_) (hp2:0≤s) (hp3:s≤64):CM En (pn a_ n_ d_ s) 150 [.int .u64 a_,.int .u64 n_,.int .u64 d_,.int .i64 s] (fun y=> .bool y) (fun _=> []):=by
 refine enQ noJ Tryz.func150 Tryz.ntmps150 (pn.eq_1 ..) fun r hw=> ?_
 have h0_0:=A3 (x:=s) (by omega) (by omega)
 intro hF hM
 have hM0:=hM;clear hM;obtain ⟨x1,hx2,hM⟩:=ap hM0;clear hM0
 have hcx1:=cmH hx2 (LJ a_ d_ n_ (by (exact pfQ)) (by (exact pfQ)))
 refine aJ hcx1 clQ clQ (fun hw3=> ?_)
 replace hw3:=nzQ hw3
 revert hM;revert hF
 refine slQ ?_
 have hq4:=JY hx2 (by omega) (by omega) (by omega) (by omega)
 replace hq4:=nzQ hq4
 refine aC fun _ _ _=> ?_
 refine aT fun _ _ _=> ?_
 intro hF hM
 have hM0:=hM;clear hM;obtain ⟨f10,d10,hf10,hd10,hM⟩:=aO hM0;clear hM0
 refine aS (fun n S=> ∃p:Int×Int,S=(⟨[(1,.int .u64 n_),(9,.int .u64 p.1),(23,.int .i64 (av .i64 s 1)),(24,.int .i64 p.2)],[],0⟩:St)∧((0≤p.2)∧(p.2≤av .i64 s 1∨p.2≤0)∧(0≤p.1)∧(p.1<n_))∧(av .i64 s 1 - p.2).toNat<n∧ae n f10 d10 p=r) ((av .i64 s 1 - 0).toNat+1) _ sbQ sbQ ⟨(x1,0),rfl,⟨omQ,omQ,omQ,omQ⟩,(Nat.lt_succ_self _),hM⟩ ?_
 clear hM
 rintro n10 S ⟨p10,rfl,hfa10,hm10,hM⟩
 have hM0:=hM;clear hM;obtain ⟨ag10,hag10,hM⟩:=aP hM0 (by omega) hf10;clear hM0
 replace hfa10:=nzQ hfa10
 replace hm10:=nzQ hm10
 have ha10:al .i64 p10.2 1=p10.2+1:=aY omQ omQ
 replace hF:=(And.intro ha10 hF)
 revert hM;revert hF
 refine slQ ?_
 refine aC fun _ _ _=> ?_
 intro hF hM
 have hM0:=hM;clear hM;obtain ⟨x13,hx14,hM⟩:=ap hM0;clear hM0
 have hcx13:=cmH hx14 (tm (p10.1) (p10.1) n_ (by (exact pfQ)))
 refine aJ hcx13 (ar hF) (ar hF) (fun hw15=> ?_)
 replace hw15:=nzQ hw15
 revert hM;revert hF
 refine slQ ?_
 have hq16:=mp hx14 (by omega) (by omega) (by omega) (by omega) (by omega)
 replace hq16:=nzQ hq16
 refine aT fun _ _ _=> ?_
 intro hF hM
 refine aM (n10 - 1) _ (by omega) sbQ sbQ ⟨(x13,(p10.2+1)),rfl,⟨omQ,omQ,omQ,omQ⟩,omQ,aL hM hag10⟩
set_option maxHeartbeats 2000000 in
set_option maxRecDepth 100000 in
instance Qm (n_:Int):CM En (kC n_) 105 [.int .i64 n_] (fun y=> .bool y) (fun _=> []):=by
 refine cmQ fun r hM=> ?_
 rw [kC.eq_1] at hM
 refine bU bf bv noJ Tryz.func105 rfl Tryz.ntmps105 (by kernel_rfl) fun hw=>bu ?_
 refine spQ ?_
 replace hw:=nzQ hw
 have h0_0:=J0
 refine bY (fun h1=> ?_) (fun h1=> ?_)
 ·rw [if_pos h1] at hM
  refine au h1 ?_
  have nh1:=nzQ h1
  try have hr2:=mpQ nh1
  subst hM
  exact cW (cQ h1)
 ·rw [if_neg (bL h1)] at hM
  refine au h1 ?_
  have nh1:=nzQ h1
  try have hr3:=mpQ nh1
  have hM0:=hM;clear hM;obtain ⟨f4,d4,hf4,hd4,hM⟩:=aO hM0;clear hM0
  refine aS (fun n S=> ∃p:Int,S=(⟨[(3,.int .u64 (ah .u64 n_)),(13,.agg (cA.map (V.int .u64))),(14,.int .i64 p)],[],0⟩:St)∧(((0≤p)∧(p≤12))∧(jI (ah .u64 n_) p))∧((12:Int) - p).toNat<n∧ae n f4 d4 p=r) (((12:Int) - 0).toNat+1) _ sbQ sbQ ⟨0,rfl,⟨⟨by (first|exact omQ|(clear hM;first|(have hk:=cI (j:=p4) (by omega) (by omega);exact am))),by (first|exact omQ|(clear hM;first|(have hk:=cI (j:=p4) (by omega) (by omega);exact am)))⟩,by (exact wK)⟩,(Nat.lt_succ_self _),hM⟩ ?_
  clear hM
  rintro n4 S ⟨p4,rfl,⟨hfa4,hF5_0⟩,hm4,hM⟩
  have hM0:=hM;clear hM;obtain ⟨ag4,hag4,hM⟩:=aP hM0 (by omega) hf4;clear hM0
  replace hfa4:=nzQ hfa4
  replace hm4:=nzQ hm4
  have ha4:al .i64 p4 1=p4+1:=aY (by (first|exact omQ|(clear hM;first|(have hk:=cI (j:=p4) (by omega) (by omega);exact am)))) (by (first|exact omQ|(clear hM;first|(have hk:=cI (j:=p4) (by omega) (by omega);exact am))))
  refine au ha4 ?_
  refine bY (fun h5=> ?_) (fun h5=> ?_)
  ·rw [if_pos h5] at hM
   refine au (And.intro ha4 h5) ?_
   have nh5:=nzQ h5
   try have hr6:=mpQ nh5
   have he7:=pf (f:=V.int .u64) (l:=cA) (n:=12) (i:=p4) rfl (by (first|exact omQ|(clear hM;first|(have hk:=cI (j:=p4) (by omega) (by omega);exact am))))
   replace he7:=spR he7
   refine au (And.intro ha4 he7) ?_
   refine bF (by (first|exact omQ|(clear hM;first|(have hk:=cI (j:=p4) (by omega) (by omega);exact am)))) ?_
   refine au (And.intro ha4 he7) ?_
   refine bF (by (first|exact omQ|(clear hM;first|(have hk:=cI (j:=p4) (by omega) (by omega);exact am)))) ?_
   refine au (And.intro ha4 he7) ?_
   refine bY (fun h8=> ?_) (fun h8=> ?_)
   ·rw [if_pos h8] at hM
    refine au (And.intro ha4 (And.intro he7 h8)) ?_
    have nh8:=nzQ h8
    try have hr9:=mpQ nh8
    subst hM
    exact cW (cQ (And.intro ha4 (And.intro he7 (And.intro h1 (And.intro h5 h8)))))
   ·rw [if_neg (bL h8)] at hM
    refine au (And.intro ha4 (And.intro he7 h8)) ?_
    have nh8:=nzQ h8
    try have hr10:=mpQ nh8
    refine aM (n4 - 1) _ (by omega) sbQ sbQ ⟨(p4+1),rfl,⟨⟨by (first|exact omQ|(clear hM;first|(have hk:=cI (j:=(p4+1)) (by omega) (by omega);exact am))),by (first|exact omQ|(clear hM;first|(have hk:=cI (j:=(p4+1)) (by omega) (by omega);exact am)))⟩,by (clear hM;exact wL hF5_0 (m7 _) (by omega) (by omega) (by assumption))⟩,by (first|exact omQ|(clear hM;first|(have hk:=cI (j:=(p4+1)) (by omega) (by omega);exact am))),aL hM hag4⟩
  ·rw [if_neg (bL h5)] at hM
   refine au (And.intro ha4 h5) ?_
   have nh5:=nzQ h5
   try have hr11:=mpQ nh5
   have hM0:=hM;clear hM;obtain ⟨x12,hx13,hM⟩:=ap hM0;clear hM0
   have hcx12:=cmU hx13
   refine aJ hcx12 (ar ha4) (ar ha4) (fun hw14=> ?_)
   replace hw14:=nzQ hw14
   refine au ha4 ?_
   have hq15:=J4 hx13
   replace hq15:=nzQ hq15
   have hM0:=hM;clear hM;obtain ⟨f16,d16,hf16,hd16,hM⟩:=aO hM0;clear hM0
   refine aS (fun n S=> ∃p:Int,S=(⟨[(3,.int .u64 (ah .u64 n_)),(6,.int .i64 x12),(28,.agg (cA.map (V.int .u64))),(29,.int .i64 p)],[],0⟩:St)∧(((0≤p)∧(p≤12))∧(37<ah .u64 n_))∧((12:Int) - p).toNat<n∧ae n f16 d16 p=r) (((12:Int) - 0).toNat+1) _ sbQ sbQ ⟨0,rfl,⟨⟨by (first|exact omQ|(clear hM;first|(have hk:=cI (j:=p16) (by omega) (by omega);exact am))),by (first|exact omQ|(clear hM;first|(have hk:=cI (j:=p16) (by omega) (by omega);exact am)))⟩,by (clear hM;exact wM hF5_0 (by omega) (by rw [sR (by omega) (by omega)];omega))⟩,(Nat.lt_succ_self _),hM⟩ ?_
   clear hM
   rintro n16 S ⟨p16,rfl,⟨hfa16,hF12_0⟩,hm16,hM⟩
   have hM0:=hM;clear hM;obtain ⟨ag16,hag16,hM⟩:=aP hM0 (by omega) hf16;clear hM0
   replace hfa16:=nzQ hfa16
   replace hm16:=nzQ hm16
   have ha16:al .i64 p16 1=p16+1:=aY (by (first|exact omQ|(clear hM;first|(have hk:=cI (j:=p16) (by omega) (by omega);exact am)))) (by (first|exact omQ|(clear hM;first|(have hk:=cI (j:=p16) (by omega) (by omega);exact am))))
   refine au (And.intro ha4 ha16) ?_
   refine bY (fun h17=> ?_) (fun h17=> ?_)
   ·rw [if_pos h17] at hM
    refine au (And.intro ha4 (And.intro ha16 h17)) ?_
    have nh17:=nzQ h17
    try have hr18:=mpQ nh17
    have he19:=pf (f:=V.int .u64) (l:=cA) (n:=12) (i:=p16) rfl (by (first|exact omQ|(clear hM;first|(have hk:=cI (j:=p16) (by omega) (by omega);exact am))))
    replace he19:=spR he19
    refine au (And.intro ha4 (And.intro ha16 he19)) ?_
    refine bF (by (first|exact omQ|(clear hM;first|(have hk:=cI (j:=p16) (by omega) (by omega);exact am)))) ?_
    refine au (And.intro ha4 (And.intro ha16 he19)) ?_
    refine bF (by (first|exact omQ|(clear hM;first|(have hk:=cI (j:=p16) (by omega) (by omega);exact am)))) ?_
    refine au (And.intro ha4 (And.intro ha16 he19)) ?_
    have hM0:=hM;clear hM;obtain ⟨x20,hx21,hM⟩:=ap hM0;clear hM0
    have hcx20:=cmH hx21 (LK (gt cA p16) (ah .u64 n_) (aw .u64 (av .u64 (ah .u64 n_) 1) x12) x12 (by (first|omega|(have hk:=cI (j:=p16) (by omega) (by omega);omega))) (by (first|omega|(have hk:=cI (j:=p16) (by omega) (by omega);omega))) (by (first|omega|(have hk:=cI (j:=p16) (by omega) (by omega);omega))) (by (first|omega|(have hk:=cI (j:=p16) (by omega) (by omega);omega))))
    refine aJ hcx20 (ar (And.intro ha4 (And.intro ha16 he19))) (ar (And.intro ha4 (And.intro ha16 he19))) (fun hw22=> ?_)
    replace hw22:=nzQ hw22
    refine au (And.intro ha4 (And.intro ha16 he19)) ?_
    refine bY (fun h23=> ?_) (fun h23=> ?_)
    ·subst h23
     rw [if_pos rfl] at hM
     refine au (And.intro ha4 (And.intro ha16 he19)) ?_
     subst hM
     exact cW (cQ (And.intro ha4 (And.intro ha16 (And.intro he19 (And.intro h1 (And.intro h5 h17))))))
    ·subst h23
     rw [if_neg (by decide)] at hM
     refine au (And.intro ha4 (And.intro ha16 he19)) ?_
     refine aM (n16 - 1) _ (by omega) sbQ sbQ ⟨(p16+1),rfl,⟨⟨by (first|exact omQ|(clear hM;first|(have hk:=cI (j:=(p16+1)) (by omega) (by omega);exact am))),by (first|exact omQ|(clear hM;first|(have hk:=cI (j:=(p16+1)) (by omega) (by omega);exact am)))⟩,by (clear hM;exact hF12_0)⟩,by (first|exact omQ|(clear hM;first|(have hk:=cI (j:=(p16+1)) (by omega) (by omega);exact am))),aL hM hag16⟩
   ·rw [if_neg (bL h17)] at hM
    refine au (And.intro ha4 (And.intro ha16 h17)) ?_
    have nh17:=nzQ h17
    try have hr24:=mpQ nh17
    subst hM
    exact cW (cQ (And.intro ha4 (And.intro ha16 (And.intro h1 (And.intro h5 h17)))))
set_option maxHeartbeats 2000000 in
set_option maxRecDepth 100000 in
instance Qn (a_:Int) (m:Int):CM En (kD a_ m) 182 [.int .i64 a_,.int .i64 m] (fun y=> .bool y) (fun _=> []):=by
 refine enQ noJ Tryz.func182 Tryz.ntmps182 (kD.eq_1 ..) fun r hw=> ?_
 exact auR
set_option maxHeartbeats 2000000 in
set_option maxRecDepth 100000 in
instance Qo (a_:Int) (b:Int) (m:Int):CM En (gz a_ b m) 151 [.int .i64 a_,.int .i64 b,.int .i64 m] (fun y=> .int .i64 y) (fun _=> []):=by
 refine enQ noJ Tryz.func151 Tryz.ntmps151 (gz.eq_1 ..) fun r hw=> ?_
 exact auR
set_option maxHeartbeats 2000000 in
set_option maxRecDepth 100000 in
theorem tn (a_:Int) (b:Int) (m:Int) (hp0:0≤a_) (hp1:a_<m) (hp2:0≤b):CM En (iE a_ b m) 152 [.int .i64 a_,.int .i64 b,.int .i64 m] (fun y=> .int .i64 y) (fun _=> []):=by
 refine enQ noJ Tryz.func152 Tryz.ntmps152 (iE.eq_1 ..) fun r hw=> ?_
 have h0_0:=sR (x:=a_) (by omega) (by omega)
 have h0_1:=sR (x:=b) (by omega) (by omega)
 have h0_2:=sR (x:=m) (by omega) (by omega)
 refine bh fun x1 hx2 _ _=> ?_
 have hq4:=AZ (ah .u64 m) hx2 (by omega) (by omega) (by omega) (by omega) (by omega)
 replace hq4:=nzQ hq4
 intro hF hM
 have hM0:=hM;clear hM;obtain ⟨x5,hx6,hM⟩:=ap hM0;clear hM0
 have hcx5:=cmH hx6 (CU (x1.1) (x1.2) (ah .u64 m) (by (exact pfQ)))
 refine aJ hcx5 clQ clQ (fun hw7=> ?_)
 replace hw7:=nzQ hw7
 exact auP
set_option maxHeartbeats 2000000 in
set_option maxRecDepth 100000 in
instance Qp (a_:Int) (e_:Int) (m:Int):CM En (jw a_ e_ m) 106 [.int .i64 a_,.int .i64 e_,.int .i64 m] (fun y=> .tup [.int .i64 y.1,.int .i64 y.2]) (fun _=> []):=by
 refine enQ noJ Tryz.func106 Tryz.ntmps106 (jw.eq_1 ..) fun r hw=> ?_
 have hA0:=fun a0=>sQ (m:=m) a0
 refine bh fun _ _ _ _=> ?_
 refine aT fun _ _ _=> ?_
 refine aT fun _ _ _=> ?_
 intro hF hM
 have hM0:=hM;clear hM;obtain ⟨f11,d11,hf11,hd11,hM⟩:=aO hM0;clear hM0
 refine aS (fun n S=> ∃p:Int×Int×Int,S=(⟨[(0,.int .i64 p.1),(1,.int .i64 p.2.1),(2,.int .i64 m),(9,.int .i64 p.2.2)],[],0⟩:St)∧((0≤p.1)∧(p.1<m)∧(0≤p.2.1)∧(0≤p.2.2)∧(p.2.2<m))∧p.2.1.toNat<n∧ae n f11 d11 p=r) (e_.toNat+1) _ sbQ sbQ ⟨(a_,e_,(aQ .i64 1 m)),rfl,⟨by exact omA,by exact omA,by exact omA,by exact omA,by exact omA⟩,(Nat.lt_succ_self _),hM⟩ ?_
 clear hM
 rintro n11 S ⟨p11,rfl,hfa11,hm11,hM⟩
 have hM0:=hM;clear hM;obtain ⟨ag11,hag11,hM⟩:=aP hM0 (by omega) hf11;clear hM0
 replace hfa11:=nzQ hfa11
 replace hm11:=nzQ hm11
 revert hM;revert hF
 refine slQ ?_
 refine aC fun _ _ _=> ?_
 refine cdQ (fun _ _ _=> ?_) (fun _ _ _=> ?_)
 ·intro hF hM
  have hM0:=hM;clear hM;obtain ⟨x16,hx17,hM⟩:=ap hM0;clear hM0
  have hcx16:=cmH hx17 (tn (p11.2.2) (p11.1) m (by (exact pfQ)) (by (exact pfQ)) (by (exact pfQ)))
  refine aJ hcx16 clQ clQ (fun hw18=> ?_)
  replace hw18:=nzQ hw18
  revert hM;revert hF
  refine slQ ?_
  have hq19:=wO hx17 (by omega) (by omega) (by omega) (by omega) (by omega)
  replace hq19:=nzQ hq19
  intro hF hM
  have hM0:=hM;clear hM;obtain ⟨x20,hx21,hM⟩:=ap hM0;clear hM0
  have hcx20:=cmH hx21 (tn (p11.1) (p11.1) m (by (exact pfQ)) (by (exact pfQ)) (by (exact pfQ)))
  refine aJ hcx20 clQ clQ (fun hw22=> ?_)
  replace hw22:=nzQ hw22
  revert hM;revert hF
  refine slQ ?_
  have hq23:=wO hx21 (by omega) (by omega) (by omega) (by omega) (by omega)
  replace hq23:=nzQ hq23
  intro hF hM
  refine aM (n11 - 1) _ (by omega) sbQ sbQ ⟨(x20,(aw .i64 p11.2.1 1),x16),rfl,⟨by (clear hM;(try dsimp only);(try rw [cH]);(try rw [cO]);omega),by (clear hM;(try dsimp only);(try rw [cH]);(try rw [cO]);omega),by (clear hM;(try dsimp only);(try rw [cH]);(try rw [cO]);omega),by (clear hM;(try dsimp only);(try rw [cH]);(try rw [cO]);omega),by (clear hM;(try dsimp only);(try rw [cH]);(try rw [cO]);omega)⟩,by (clear hM;(try dsimp only);(try rw [cH]);(try rw [cO]);omega),aL hM hag11⟩
 ·intro hF hM
  have hM0:=hM;clear hM;obtain ⟨x25,hx26,hM⟩:=ap hM0;clear hM0
  have hcx25:=cmH hx26 (tn (p11.1) (p11.1) m (by (exact pfQ)) (by (exact pfQ)) (by (exact pfQ)))
  refine aJ hcx25 clQ clQ (fun hw27=> ?_)
  replace hw27:=nzQ hw27
  revert hM;revert hF
  refine slQ ?_
  have hq28:=wO hx26 (by omega) (by omega) (by omega) (by omega) (by omega)
  replace hq28:=nzQ hq28
  intro hF hM
  refine aM (n11 - 1) _ (by omega) sbQ sbQ ⟨(x25,(aw .i64 p11.2.1 1),p11.2.2),rfl,⟨by (clear hM;(try dsimp only);(try rw [cH]);(try rw [cO]);omega),by (clear hM;(try dsimp only);(try rw [cH]);(try rw [cO]);omega),by (clear hM;(try dsimp only);(try rw [cH]);(try rw [cO]);omega),by (clear hM;(try dsimp only);(try rw [cH]);(try rw [cO]);omega),by (clear hM;(try dsimp only);(try rw [cH]);(try rw [cO]);omega)⟩,by (clear hM;(try dsimp only);(try rw [cH]);(try rw [cO]);omega),aL hM hag11⟩
set_option maxHeartbeats 2000000 in
set_option maxRecDepth 100000 in
instance Qq (g:ao):CM En (jx g) 56 [.agg [.int .i64 g.P,.int .i64 g.Q,.int .i64 g.G]] (fun y=> .bool y) (fun _=> []):=by
 refine enQ noJ Tryz.func56 Tryz.ntmps56 (jx.eq_1 ..) fun r hw=> ?_
 exact auR
set_option maxHeartbeats 2000000 in
set_option maxRecDepth 100000 in
instance Qr (g:ao) (x_:Int):CM En (po g x_) 154 [.agg [.int .i64 g.P,.int .i64 g.Q,.int .i64 g.G],.int .i64 x_] (fun y=> .bool y) (fun _=> []):=by
 refine enQ noJ Tryz.func154 Tryz.ntmps154 (po.eq_1 ..) fun r hw=> ?_
 exact auR
set_option maxHeartbeats 2000000 in
set_option maxRecDepth 100000 in
instance Qt (x_:Int) (c0:ao):CM En (np x_ c0) 153 [.int .i64 x_,.pp 3 true (.agg [.int .i64 c0.P,.int .i64 c0.Q,.int .i64 c0.G])] (fun y=> .bool y) (fun _=> []):=by
 refine enQ noJ Tryz.func153 Tryz.ntmps153 (np.eq_1 ..) fun r hw=> ?_
 exact auR
set_option maxHeartbeats 2000000 in
set_option maxRecDepth 100000 in
instance Qu (s:(List Int)) (f__c0:ao):CM En (wv s f__c0) 141 [.sl none 1 false (s.map (V.int .i64)),.fn 153 [.pp 3 true (.agg [.int .i64 f__c0.P,.int .i64 f__c0.Q,.int .i64 f__c0.G])]] (fun y=> .int .i64 y) (fun _=> []):=by
 refine enQ noJ Tryz.func141 Tryz.ntmps141 (wv.eq_1 ..) fun r hw=> ?_
 intro hF hM
 have hM0:=hM;clear hM;obtain ⟨f1,d1,hf1,hd1,hM⟩:=aO hM0;clear hM0
 refine aS (fun n S=> ∃p:Int,S=(⟨[(0,.sl none 1 false (s.map (V.int .i64))),(1,.fn 153 [.pp 3 true (.agg [.int .i64 f__c0.P,.int .i64 f__c0.Q,.int .i64 f__c0.G])]),(7,.int .i64 (s.length:Int)),(8,.int .i64 p)],[],0⟩:St)∧((0≤p)∧(p≤(s.length:Int)))∧((s.length:Int) - p).toNat<n∧ae n f1 d1 p=r) (((s.length:Int) - 0).toNat+1) _ sbQ sbQ ⟨0,rfl,⟨omQ,omQ⟩,(Nat.lt_succ_self _),hM⟩ ?_
 clear hM
 rintro n1 S ⟨p1,rfl,hfa1,hm1,hM⟩
 have hM0:=hM;clear hM;obtain ⟨ag1,hag1,hM⟩:=aP hM0 (by omega) hf1;clear hM0
 replace hfa1:=nzQ hfa1
 replace hm1:=nzQ hm1
 have ha1:al .i64 p1 1=p1+1:=aY omQ omQ
 replace hF:=(And.intro ha1 hF)
 revert hM;revert hF
 refine slQ ?_
 refine aC fun _ _ _=> ?_
 refine bh fun _ _ _ _=> ?_
 refine aT fun _ _ _=> ?_
 intro hF hM
 refine aM (n1 - 1) _ (by omega) sbQ sbQ ⟨(p1+1),rfl,⟨omQ,omQ⟩,omQ,aL hM hag1⟩
set_option maxHeartbeats 2000000 in
set_option maxRecDepth 100000 in
instance Qv (s:(List Int)) (f__c0:ao):CM En (sv s f__c0) 86 [.sl none 1 false (s.map (V.int .i64)),.fn 153 [.pp 3 true (.agg [.int .i64 f__c0.P,.int .i64 f__c0.Q,.int .i64 f__c0.G])]] (fun y=> .bool y) (fun _=> []):=by
 refine enQ noJ Tryz.func86 Tryz.ntmps86 (sv.eq_1 ..) fun r hw=> ?_
 exact auR
set_option maxHeartbeats 2000000 in
set_option maxRecDepth 100000 in
instance Qw (g:ao) (l:(List Int)):CM En (nq g l) 109 [.agg [.int .i64 g.P,.int .i64 g.Q,.int .i64 g.G],.sl none 1 false (l.map (V.int .i64))] (fun y=> .bool y) (fun _=> []):=by
 refine enQ noJ Tryz.func109 Tryz.ntmps109 (nq.eq_1 ..) fun r hw=> ?_
 exact auR
set_option maxHeartbeats 2000000 in
set_option maxRecDepth 100000 in
instance Qx (row:(List Int)) (c0:Int) (c1:ao):CM En (jy row c0 c1) 110 [.sl none 1 false (row.map (V.int .i64)),.pp 1 false (.int .i64 c0),.pp 3 true (.agg [.int .i64 c1.P,.int .i64 c1.Q,.int .i64 c1.G])] (fun y=> .bool y) (fun _=> []):=by
 refine enQ noJ Tryz.func110 Tryz.ntmps110 (jy.eq_1 ..) fun r hw=> ?_
 exact auR
set_option maxHeartbeats 2000000 in
set_option maxRecDepth 100000 in
instance Qy (s:(List (List Int))) (f__c0:Int) (f__c1:ao):CM En (nr s f__c0 f__c1) 104 [.sl none 1 false (s.map (fun (l:List Int)=>V.sl none 1 false (l.map (V.int .i64)))),.fn 110 [.pp 1 false (.int .i64 f__c0),.pp 3 true (.agg [.int .i64 f__c1.P,.int .i64 f__c1.Q,.int .i64 f__c1.G])]] (fun y=> .int .i64 y) (fun _=> []):=by
 refine enQ noJ Tryz.func104 Tryz.ntmps104 (nr.eq_1 ..) fun r hw=> ?_
 intro hF hM
 have hM0:=hM;clear hM;obtain ⟨f1,d1,hf1,hd1,hM⟩:=aO hM0;clear hM0
 refine aS (fun n S=> ∃p:Int,S=(⟨[(0,.sl none 1 false (s.map (fun (l:List Int)=>V.sl none 1 false (l.map (V.int .i64))))),(1,.fn 110 [.pp 1 false (.int .i64 f__c0),.pp 3 true (.agg [.int .i64 f__c1.P,.int .i64 f__c1.Q,.int .i64 f__c1.G])]),(7,.int .i64 (s.length:Int)),(8,.int .i64 p)],[],0⟩:St)∧((0≤p)∧(p≤(s.length:Int)))∧((s.length:Int) - p).toNat<n∧ae n f1 d1 p=r) (((s.length:Int) - 0).toNat+1) _ sbQ sbQ ⟨0,rfl,⟨omQ,omQ⟩,(Nat.lt_succ_self _),hM⟩ ?_
 clear hM
 rintro n1 S ⟨p1,rfl,hfa1,hm1,hM⟩
 have hM0:=hM;clear hM;obtain ⟨ag1,hag1,hM⟩:=aP hM0 (by omega) hf1;clear hM0
 replace hfa1:=nzQ hfa1
 replace hm1:=nzQ hm1
 have ha1:al .i64 p1 1=p1+1:=aY omQ omQ
 replace hF:=(And.intro ha1 hF)
 revert hM;revert hF
 refine slQ ?_
 refine aC fun _ _ _=> ?_
 refine bh fun _ _ _ _=> ?_
 refine aT fun _ _ _=> ?_
 intro hF hM
 refine aM (n1 - 1) _ (by omega) sbQ sbQ ⟨(p1+1),rfl,⟨omQ,omQ⟩,omQ,aL hM hag1⟩
set_option maxHeartbeats 2000000 in
set_option maxRecDepth 100000 in
instance Qz (s:(List (List Int))) (f__c0:Int) (f__c1:ao):CM En (l5 s f__c0 f__c1) 50 [.sl none 1 false (s.map (fun (l:List Int)=>V.sl none 1 false (l.map (V.int .i64)))),.fn 110 [.pp 1 false (.int .i64 f__c0),.pp 3 true (.agg [.int .i64 f__c1.P,.int .i64 f__c1.Q,.int .i64 f__c1.G])]] (fun y=> .bool y) (fun _=> []):=by
 refine enQ noJ Tryz.func50 Tryz.ntmps50 (l5.eq_1 ..) fun r hw=> ?_
 exact auR
set_option maxHeartbeats 2000000 in
set_option maxRecDepth 100000 in
instance QA (g:ao) (r_:aH):CM En (fy g r_) 59 [.agg [.int .i64 g.P,.int .i64 g.Q,.int .i64 g.G],.agg [.sl none 1 false (r_.Y.map (V.int .i64)),.sl none 1 false (r_.Bases.map (fun (l:List Int)=>V.sl none 1 false (l.map (V.int .i64))))]] (fun y=> .bool y) (fun _=> []):=by
 refine enQ noJ Tryz.func59 Tryz.ntmps59 (fy.eq_1 ..) fun r hw=> ?_
 exact auR
set_option maxHeartbeats 2000000 in
set_option maxRecDepth 100000 in
instance QB (r_:aH) (c0:ao):CM En (ww r_ c0) 58 [.agg [.sl none 1 false (r_.Y.map (V.int .i64)),.sl none 1 false (r_.Bases.map (fun (l:List Int)=>V.sl none 1 false (l.map (V.int .i64))))],.pp 3 true (.agg [.int .i64 c0.P,.int .i64 c0.Q,.int .i64 c0.G])] (fun y=> .bool y) (fun _=> []):=by
 refine enQ noJ Tryz.func58 Tryz.ntmps58 (ww.eq_1 ..) fun r hw=> ?_
 exact auR
set_option maxHeartbeats 2000000 in
set_option maxRecDepth 100000 in
instance QD (f_:aa) (c0_c0:ao):CM En (di f_ c0_c0) 108 [.agg [.int .i64 f_.Kind,.sl none 1 false (f_.Relation.Y.map (V.int .i64)),.sl none 1 false (f_.Relation.Bases.map (fun (l:List Int)=>V.sl none 1 false (l.map (V.int .i64)))),.sl none 4 true (f_.L.map aA)],.pp 1 false (.fn 58 [.pp 3 true (.agg [.int .i64 c0_c0.P,.int .i64 c0_c0.Q,.int .i64 c0_c0.G])])] (fun y=> .bool y) (fun _=> []):=by
 refine enQ [6] Tryz.func108 Tryz.ntmps108 (di.eq_1 ..) fun r hw=> ?_
 refine aT fun _ _ _=> ?_
 intro hF hM
 have hM0:=hM;clear hM;obtain ⟨j10,hj10,hM⟩:=lK hM0;clear hM0
 refine lE (fun S=> ∃p:Bool,S=(⟨[(2,.ptr 0 0),(18,.bool p)],[(0,.var 4 true (.agg [.int .i64 f_.Kind,.sl none 1 false (f_.Relation.Y.map (V.int .i64)),.sl none 1 false (f_.Relation.Bases.map (fun (l:List Int)=>V.sl none 1 false (l.map (V.int .i64)))),.sl none 4 true (f_.L.map aA)]))],1⟩:St)∧(True)∧j10 p=r) ?_ (fun hcut10=> ?_)
 ·clear hM
  rintro S ⟨p10,rfl,hfa10,hM⟩
  have hM0:=hM;clear hM;have hM:=lL hM0 hj10;clear hM0
  exact auP
 ·revert hM;revert hF
  refine slQ ?_
  refine cdQ (fun _ _ _=> ?_) (fun _ _ _=> ?_)
  ·intro hF hM
   exact eH _ sbQ sbQ (hcut10 _ ⟨true,rfl,trivial,hM⟩)
  ·intro hF hM
   exact eH _ sbQ sbQ (hcut10 _ ⟨(f_.Kind==3),rfl,trivial,hM⟩)
set_option maxHeartbeats 2000000 in
set_option maxRecDepth 100000 in
theorem LL (N:Nat) (ih: ∀(f_:aa) (depth:Int) (left:Int) (good_c0_c0:ao),ax f_<N→bG En 107 [.agg [.int .i64 f_.Kind,.sl none 1 false (f_.Relation.Y.map (V.int .i64)),.sl none 1 false (f_.Relation.Bases.map (fun (l:List Int)=>V.sl none 1 false (l.map (V.int .i64)))),.sl none 4 true (f_.L.map aA)],.int .i64 depth,.ptr 0 0,.fn 108 [.pp 1 false (.fn 58 [.pp 3 true (.agg [.int .i64 good_c0_c0.P,.int .i64 good_c0_c0.Q,.int .i64 good_c0_c0.G])])]] [.var 1 false (.int .i64 left)] (.bool ((iA di) f_ depth left good_c0_c0).1) [.var 1 false (.int .i64 ((iA di) f_ depth left good_c0_c0).2)] []) (f_:aa) (depth:Int) (left:Int) (good_c0_c0:ao) (hp_:ax f_<N+1):bG En 107 [.agg [.int .i64 f_.Kind,.sl none 1 false (f_.Relation.Y.map (V.int .i64)),.sl none 1 false (f_.Relation.Bases.map (fun (l:List Int)=>V.sl none 1 false (l.map (V.int .i64)))),.sl none 4 true (f_.L.map aA)],.int .i64 depth,.ptr 0 0,.fn 108 [.pp 1 false (.fn 58 [.pp 3 true (.agg [.int .i64 good_c0_c0.P,.int .i64 good_c0_c0.Q,.int .i64 good_c0_c0.G])])]] [.var 1 false (.int .i64 left)] (.bool (nt f_ depth left good_c0_c0).1) [.var 1 false (.int .i64 (nt f_ depth left good_c0_c0).2)] []:=by
 generalize hM:nt f_ depth left good_c0_c0=r
 rw [nt.eq_1] at hM
 refine dY bf bv noJ Tryz.func107 rfl Tryz.ntmps107 (by kernel_rfl) rfl fun ks hw hwB=>bu ?_
 refine spQ ?_
 replace hw:=nzQ hw
 replace hwB:=nzB hwB
 have hF:=bW
 revert hM;revert hF
 refine cdQ (fun _ _ _=> ?_) (fun _ _ _=> ?_)
 ·refine cdQ (fun _ _ _=> ?_) (fun _ _ _=> ?_)
  ·refine bh fun _ _ _ _=> ?_
   refine cdQ (fun _ _ _=> ?_) (fun _ _ _=> ?_)
   ·intro hF hM
    subst hM
    exact bm [0] (aD hF) (by decide) (aD hF)
   ·intro hF hM
    have hM0:=hM;clear hM;obtain ⟨f11,d11,hf11,hd11,hM⟩:=aO hM0;clear hM0
    refine aS (fun n S=> ∃p:Int×Int,S=(⟨[(1,.int .i64 depth),(2,.ptr 0 0),(3,.fn 108 [.pp 1 false (.fn 58 [.pp 3 true (.agg [.int .i64 good_c0_c0.P,.int .i64 good_c0_c0.Q,.int .i64 good_c0_c0.G])])]),(31,.sl none 4 true (f_.L.map aA)),(32,.int .i64 (f_.L.length:Int)),(33,.int .i64 p.1)],[(0,.lent (ks 0) 1 false (.int .i64 p.2))],2⟩:St)∧((0≤p.1)∧(p.1≤(f_.L.length:Int)))∧((f_.L.length:Int) - p.1).toNat<n∧ae n f11 d11 p=r) (((f_.L.length:Int) - 0).toNat+1) _ sbQ sbQ ⟨(0,(av .i64 left 1)),rfl,⟨omQ,omQ⟩,(Nat.lt_succ_self _),hM⟩ ?_
    clear hM
    rintro n11 S ⟨p11,rfl,hfa11,hm11,hM⟩
    have hM0:=hM;clear hM;obtain ⟨ag11,hag11,hM⟩:=aP hM0 (by omega) hf11;clear hM0
    replace hfa11:=nzQ hfa11
    replace hm11:=nzQ hm11
    have ha11:al .i64 p11.1 1=p11.1+1:=aY omQ omQ
    replace hF:=(And.intro ha11 hF)
    revert hM;revert hF
    refine slQ ?_
    refine cdQ (fun _ _ _=> ?_) (fun _ _ _=> ?_)
    ·intro hF hM
     have hM0:=hM;clear hM;obtain ⟨x15,hx16,hM⟩:=ap hM0;clear hM0
     have hcx15:=ih (gt f_.L p11.1) (al .i64 depth 1) (p11.2) good_c0_c0 (by (have h9:=b_ (f:=f_) (aI (l:=f_.L) (i:=p11.1) (by omega));omega))
     rw [←hx16] at hcx15
     refine bR [0] hcx15 (by decide) (aD hF) (aD hF) (fun hw17=> ?_)
     replace hw17:=nzQ hw17
     revert hM;revert hF
     refine slQ ?_
     refine cdQ (fun _ _ _=> ?_) (fun _ _ _=> ?_)
     ·intro hF hM
      subst hM
      exact bm [0] (aD hF) (by decide) (aD hF)
     ·intro hF hM
      refine aM (n11 - 1) _ (by omega) sbQ sbQ ⟨((p11.1+1),x15.2),rfl,⟨omQ,omQ⟩,omQ,aL hM hag11⟩
    ·intro hF hM
     subst hM
     exact bm [0] (aD hF) (by decide) (aD hF)
  ·intro hF hM
   subst hM
   exact bm [0] (aD hF) (by decide) (aD hF)
 ·intro hF hM
  subst hM
  exact bm [0] (aD hF) (by decide) (aD hF)
theorem LM: ∀(N:Nat) (f_:aa) (depth:Int) (left:Int) (good_c0_c0:ao),ax f_<N→bG En 107 [.agg [.int .i64 f_.Kind,.sl none 1 false (f_.Relation.Y.map (V.int .i64)),.sl none 1 false (f_.Relation.Bases.map (fun (l:List Int)=>V.sl none 1 false (l.map (V.int .i64)))),.sl none 4 true (f_.L.map aA)],.int .i64 depth,.ptr 0 0,.fn 108 [.pp 1 false (.fn 58 [.pp 3 true (.agg [.int .i64 good_c0_c0.P,.int .i64 good_c0_c0.Q,.int .i64 good_c0_c0.G])])]] [.var 1 false (.int .i64 left)] (.bool ((iA di) f_ depth left good_c0_c0).1) [.var 1 false (.int .i64 ((iA di) f_ depth left good_c0_c0).2)] []:=by
 intro N
 induction N with
 | zero=>intro f_ depth left good_c0_c0 h;exact absurd h (Nat.not_lt_zero _)
 | succ N ih=>
  intro f_ depth left good_c0_c0 h
  have h9:=LL N ih f_ depth left good_c0_c0 h
  rw [KI] at h9
  exact h9
theorem LN (f_:aa) (depth:Int) (left:Int) (good_c0_c0:ao):bG En 107 [.agg [.int .i64 f_.Kind,.sl none 1 false (f_.Relation.Y.map (V.int .i64)),.sl none 1 false (f_.Relation.Bases.map (fun (l:List Int)=>V.sl none 1 false (l.map (V.int .i64)))),.sl none 4 true (f_.L.map aA)],.int .i64 depth,.ptr 0 0,.fn 108 [.pp 1 false (.fn 58 [.pp 3 true (.agg [.int .i64 good_c0_c0.P,.int .i64 good_c0_c0.Q,.int .i64 good_c0_c0.G])])]] [.var 1 false (.int .i64 left)] (.bool ((iA di) f_ depth left good_c0_c0).1) [.var 1 false (.int .i64 ((iA di) f_ depth left good_c0_c0).2)] []:=
 LM (ax f_+1) f_ depth left good_c0_c0 (Nat.lt_succ_self _)
end Go.Proofs.YtgealhhkngbkbaaGreatDoor
