/- Texts of this proof, one after the other: U1. -/
import Derived.Test.YtgealhhkngbkbaaGreatDoorZ8
import Derived.Test.YtgealhhkngbkbaaGreatDoorZ9
set_option linter.unusedSimpArgs false
set_option linter.unusedVariables false
set_option maxHeartbeats 2000000
set_option maxRecDepth 100000
namespace Go.Proofs.YtgealhhkngbkbaaGreatDoor
open Go.RowKit
set_option maxRecDepth 512 in
theorem enQ {α:Type} {m m':α} {f:FuncId} {fn:Func} {code:Code} {ws:List V} {R:α→V} {Hs:α→List Blk} {n:Nat} {W:Prop} {Q:α→Prop} (J:cM) (hf:En.P.funcs[f]? =some fn) (hnt:fn.ntmps=n) (hm:m=m') (k: ∀r,W→Q r)
  (hb:fn.body=some code:=by exact rfl) (hsl:(fa n code&&decide (ws.length≤n)&& !(fn.name== "runtime.NumGoroutine"))=true:=by kernel_rfl) (hw:wfL ws→W:=by intro h;exact nzQ h)
  (h: ∀r,Q r→True→m'=r→aM En J [.code code,.fin (se En fn.results.toList (R r) (Hs r))] .normal ⟨iX 0 ws,[],0⟩:=by
   intro r k hF hM;(refine spQ ?_);revert hM;revert hF;exact k):CM En m f ws R Hs:=
 cmQ fun r hM=>ci bc bA J hf hb hnt hsl fun hw'=>bz (h r (k r (hw hw')) trivial (hm▸hM))
instance QR (s:(List UInt8)) (prefix_:(List UInt8)):CM En (mz s prefix_) 205 [.str s,.str prefix_] (fun y=> .bool y) (fun _=> []):=by
 refine enQ noJ Tryz.func205 Tryz.ntmps205 (mz.eq_1 ..) fun r hw=> ?_
 exact auR
instance QS (s:(List UInt8)) (prefix_:(List UInt8)):CM En (sR s prefix_) 178 [.str s,.str prefix_] (fun y=> .tup [.str y.1,.bool y.2]) (fun _=> []):=by
 refine enQ noJ Tryz.func178 Tryz.ntmps178 (sR.eq_1 ..) fun r hw=> ?_
 exact auR
instance QT (s:(List UInt8)) (prefix_:(List UInt8)):CM En (pD s prefix_) 146 [.str s,.str prefix_] (fun y=> .tup [.str y.1,.bool y.2]) (fun _=> []):=by
 refine enQ noJ Tryz.func146 Tryz.ntmps146 (pD.eq_1 ..) fun r hw=> ?_
 exact auR
theorem lF (p_:az) (t_:(List UInt8)):bp En 98 [.ptr 0 0,.str t_] [.var 2 true (.agg [.str p_.s,.bool p_.bad])] (.bool (bh p_ t_).1) [.var 2 true (.agg [.str (bh p_ t_).2.s,.bool (bh p_ t_).2.bad])] []:=by
 generalize hM:bh p_ t_=r
 rw [bh.eq_1] at hM
 refine cE bc bA noJ Tryz.func98 rfl Tryz.ntmps98 (by kernel_rfl) rfl fun ks hw hwB=>bz ?_
 refine spQ ?_
 replace hw:=nzQ hw
 replace hwB:=nzB hwB
 have hF:=bT
 revert hM;revert hF
 refine aQ fun _ _ _ _=> ?_
 intro hF hM
 subst hM
 exact aU [0] lsQ (by decide) lsQ
instance QU (x_:Int):CM En (li x_) 149 [.int .u64 x_] (fun y=> .int .i64 y) (fun _=> []):=by
 refine cmQ fun r hM=> ?_
 rw [li.eq_1] at hM
 refine ci bc bA noJ Tryz.func149 rfl Tryz.ntmps149 (by kernel_rfl) fun hw=>bz ?_
 refine spQ ?_
 replace hw:=nzQ hw
 have h0_0:=BM (x:=bE .u64 x_ (gA .u64 x_))
 refine cn (fun h1=> ?_) (fun h1=> ?_)
 ·rw [if_pos h1] at hM
  refine aA h1 ?_
  subst hM
  exact fc (eC h1)
 ·rw [if_neg (b9 h1)] at hM
  refine aA h1 ?_
  have nh1:=nzQ h1
  try have hr3:=mpQ nh1
  refine bP omQ ?_
  have he4:=pA (f:=V.int .u8) (l:=jb) (n:=64) (i:=(aB .u64 (aX .u64 (bE .u64 x_ (gA .u64 x_)) 285870213051353865) 58)) rfl omQ
  replace he4:=spR he4
  refine aA he4 ?_
  subst hM
  exact fc (eC (And.intro he4 h1))
theorem yi (p_:az):bp En 147 [.ptr 0 0] [.var 2 true (.agg [.str p_.s,.bool p_.bad])] (.int .i64 (ee p_).1) [.var 2 true (.agg [.str (ee p_).2.s,.bool (ee p_).2.bad])] []:=by
 generalize hM:ee p_=r
 rw [ee.eq_1] at hM
 refine cE bc bA noJ Tryz.func147 rfl Tryz.ntmps147 (by kernel_rfl) rfl fun ks hw hwB=>bz ?_
 refine spQ ?_
 replace hw:=nzQ hw
 replace hwB:=nzB hwB
 replace hM:=aS hM;obtain ⟨f1,d1,hf1,hd1,hM⟩:=hM
 refine bk (fun n S=> ∃p:Int,S=(⟨[(0,.ptr 0 0),(3,.int .i64 p)],[(0,.lent (ks 0) 2 true (.agg [.str p_.s,.bool p_.bad]))],1⟩:St)∧((0≤p)∧(p≤((p_).s.length:Int)))∧(((p_).s.length:Int) - p).toNat<n∧ah n f1 d1 p=r) ((((p_).s.length:Int) - 0).toNat+1) _ sbQ sbQ ⟨0,rfl,⟨by (first|exact omQ|(clear hM;first|(simp only [List.length_take] at*;exact ax))),by (first|exact omQ|(clear hM;first|(simp only [List.length_take] at*;exact ax)))⟩,(Nat.lt_succ_self _),hM⟩ ?_
 clear hM
 rintro n1 S ⟨p1,rfl,hfa1,hm1,hM⟩
 replace hM:=aT hM (by omega) hf1;obtain ⟨ag1,hag1,hM⟩:=hM
 replace hfa1:=nzQ hfa1
 replace hm1:=nzQ hm1
 refine spQ ?_
 refine jT (fun h2=> ?_) (fun h2=> ?_)
 ·rw [if_pos h2] at hM
  refine aA h2 ?_
  have nh2:=nzQ h2
  try have hr3:=mpQ nh2
  refine bP (by (first|exact omQ|(clear hM;first|(simp only [List.length_take] at*;exact ax)))) ?_
  refine spQ ?_
  refine jT (fun h4=> ?_) (fun h4=> ?_)
  ·rw [if_pos h4] at hM
   refine aA h4 ?_
   have nh4:=nzQ h4
   try have hr5:=mpQ nh4
   refine bP (by (first|exact omQ|(clear hM;first|(simp only [List.length_take] at*;exact ax)))) ?_
   refine spQ ?_
   refine cn (fun h6=> ?_) (fun h6=> ?_)
   ·rw [if_pos h6] at hM
    refine aA h6 ?_
    have nh6:=nzQ h6
    try have hr7:=mpQ nh6
    have ha8:ao .i64 p1 1=(p1+1):=dM (by (first|exact omQ|(clear hM;first|(simp only [List.length_take] at*;exact ax)))) (by (first|exact omQ|(clear hM;first|(simp only [List.length_take] at*;exact ax))))
    try simp only [ha8]
    refine aP (n1 - 1) _ (by omega) sbQ sbQ ⟨(p1+1),rfl,⟨by (first|exact omQ|(clear hM;first|(simp only [List.length_take] at*;exact ax))),by (first|exact omQ|(clear hM;first|(simp only [List.length_take] at*;exact ax)))⟩,by (first|exact omQ|(clear hM;first|(simp only [List.length_take] at*;exact ax))),aN hM hag1⟩
   ·rw [if_neg (b9 h6)] at hM
    refine aA h6 ?_
    have nh6:=nzQ h6
    try have hr9:=mpQ nh6
    refine bP (by (first|exact omQ|(clear hM;first|(simp only [List.length_take] at*;exact ax)))) ?_
    refine spQ ?_
    refine bP (by (first|exact omQ|(clear hM;first|(simp only [List.length_take] at*;exact ax)))) ?_
    refine spQ ?_
    refine kS (fun h10=> ?_) (fun h10=> ?_)
    ·rw [if_neg (b9 h10)] at hM
     refine aA h10 ?_
     have nh10:=nzQ h10
     try have hr11:=mpQ nh10
     refine jT (fun h12=> ?_) (fun h12=> ?_)
     ·rw [if_pos h12] at hM
      refine aA h12 ?_
      have nh12:=nzQ h12
      try have hr13:=mpQ nh12
      refine bP (by (first|exact omQ|(clear hM;first|(simp only [List.length_take] at*;exact ax)))) ?_
      refine spQ ?_
      refine cn (fun h14=> ?_) (fun h14=> ?_)
      ·rw [if_pos h14] at hM
       refine aA h14 ?_
       have nh14:=nzQ h14
       try have hr15:=mpQ nh14
       subst hM
       exact aU [0] (an (And.intro h2 (And.intro h4 (And.intro h6 (And.intro h10 (And.intro h12 h14)))))) (by decide) (an (And.intro h2 (And.intro h4 (And.intro h6 (And.intro h10 (And.intro h12 h14))))))
      ·rw [if_neg (b9 h14)] at hM
       refine aA h14 ?_
       have nh14:=nzQ h14
       try have hr16:=mpQ nh14
       replace hM:=au hM;obtain ⟨x17,hx18,hM⟩:=hM
       have hcx17:=cmU hx18
       refine aV hcx17 clQ clQ (fun hw19=> ?_)
       replace hw19:=nzQ hw19
       refine spQ ?_
       refine cn (fun h20=> ?_) (fun h20=> ?_)
       ·rw [if_pos h20] at hM
        refine aA h20 ?_
        have nh20:=nzQ h20
        try have hr21:=mpQ nh20
        subst hM
        exact aU [0] (an (And.intro h2 (And.intro h4 (And.intro h6 (And.intro h10 (And.intro h12 (And.intro h14 h20))))))) (by decide) (an (And.intro h2 (And.intro h4 (And.intro h6 (And.intro h10 (And.intro h12 (And.intro h14 h20)))))))
       ·rw [if_neg (b9 h20)] at hM
        refine aA h20 ?_
        have nh20:=nzQ h20
        try have hr22:=mpQ nh20
        subst hM
        exact aU [0] (an (And.intro h2 (And.intro h4 (And.intro h6 (And.intro h10 (And.intro h12 (And.intro h14 h20))))))) (by decide) (an (And.intro h2 (And.intro h4 (And.intro h6 (And.intro h10 (And.intro h12 (And.intro h14 h20)))))))
     ·rw [if_neg (b9 h12)] at hM
      refine aA h12 ?_
      have nh12:=nzQ h12
      try have hr23:=mpQ nh12
      replace hM:=au hM;obtain ⟨x24,hx25,hM⟩:=hM
      have hcx24:=cmU hx25
      refine aV hcx24 clQ clQ (fun hw26=> ?_)
      replace hw26:=nzQ hw26
      refine spQ ?_
      refine cn (fun h27=> ?_) (fun h27=> ?_)
      ·rw [if_pos h27] at hM
       refine aA h27 ?_
       have nh27:=nzQ h27
       try have hr28:=mpQ nh27
       subst hM
       exact aU [0] (an (And.intro h2 (And.intro h4 (And.intro h6 (And.intro h10 (And.intro h12 h27)))))) (by decide) (an (And.intro h2 (And.intro h4 (And.intro h6 (And.intro h10 (And.intro h12 h27))))))
      ·rw [if_neg (b9 h27)] at hM
       refine aA h27 ?_
       have nh27:=nzQ h27
       try have hr29:=mpQ nh27
       subst hM
       exact aU [0] (an (And.intro h2 (And.intro h4 (And.intro h6 (And.intro h10 (And.intro h12 h27)))))) (by decide) (an (And.intro h2 (And.intro h4 (And.intro h6 (And.intro h10 (And.intro h12 h27))))))
    ·rw [if_pos h10] at hM
     refine aA h10 ?_
     have nh10:=nzQ h10
     try have hr30:=mpQ nh10
     subst hM
     exact aU [0] (an (And.intro h2 (And.intro h4 (And.intro h6 h10)))) (by decide) (an (And.intro h2 (And.intro h4 (And.intro h6 h10))))
  ·rw [if_neg (b9 h4)] at hM
   refine aA h4 ?_
   have nh4:=nzQ h4
   try have hr31:=mpQ nh4
   refine bP (by (first|exact omQ|(clear hM;first|(simp only [List.length_take] at*;exact ax)))) ?_
   refine spQ ?_
   refine bP (by (first|exact omQ|(clear hM;first|(simp only [List.length_take] at*;exact ax)))) ?_
   refine spQ ?_
   refine kS (fun h32=> ?_) (fun h32=> ?_)
   ·rw [if_neg (b9 h32)] at hM
    refine aA h32 ?_
    have nh32:=nzQ h32
    try have hr33:=mpQ nh32
    refine jT (fun h34=> ?_) (fun h34=> ?_)
    ·rw [if_pos h34] at hM
     refine aA h34 ?_
     have nh34:=nzQ h34
     try have hr35:=mpQ nh34
     refine bP (by (first|exact omQ|(clear hM;first|(simp only [List.length_take] at*;exact ax)))) ?_
     refine spQ ?_
     refine cn (fun h36=> ?_) (fun h36=> ?_)
     ·rw [if_pos h36] at hM
      refine aA h36 ?_
      have nh36:=nzQ h36
      try have hr37:=mpQ nh36
      subst hM
      exact aU [0] (an (And.intro h2 (And.intro h4 (And.intro h32 (And.intro h34 h36))))) (by decide) (an (And.intro h2 (And.intro h4 (And.intro h32 (And.intro h34 h36)))))
     ·rw [if_neg (b9 h36)] at hM
      refine aA h36 ?_
      have nh36:=nzQ h36
      try have hr38:=mpQ nh36
      replace hM:=au hM;obtain ⟨x39,hx40,hM⟩:=hM
      have hcx39:=cmU hx40
      refine aV hcx39 clQ clQ (fun hw41=> ?_)
      replace hw41:=nzQ hw41
      refine spQ ?_
      refine cn (fun h42=> ?_) (fun h42=> ?_)
      ·rw [if_pos h42] at hM
       refine aA h42 ?_
       have nh42:=nzQ h42
       try have hr43:=mpQ nh42
       subst hM
       exact aU [0] (an (And.intro h2 (And.intro h4 (And.intro h32 (And.intro h34 (And.intro h36 h42)))))) (by decide) (an (And.intro h2 (And.intro h4 (And.intro h32 (And.intro h34 (And.intro h36 h42))))))
      ·rw [if_neg (b9 h42)] at hM
       refine aA h42 ?_
       have nh42:=nzQ h42
       try have hr44:=mpQ nh42
       subst hM
       exact aU [0] (an (And.intro h2 (And.intro h4 (And.intro h32 (And.intro h34 (And.intro h36 h42)))))) (by decide) (an (And.intro h2 (And.intro h4 (And.intro h32 (And.intro h34 (And.intro h36 h42))))))
    ·rw [if_neg (b9 h34)] at hM
     refine aA h34 ?_
     have nh34:=nzQ h34
     try have hr45:=mpQ nh34
     replace hM:=au hM;obtain ⟨x46,hx47,hM⟩:=hM
     have hcx46:=cmU hx47
     refine aV hcx46 clQ clQ (fun hw48=> ?_)
     replace hw48:=nzQ hw48
     refine spQ ?_
     refine cn (fun h49=> ?_) (fun h49=> ?_)
     ·rw [if_pos h49] at hM
      refine aA h49 ?_
      have nh49:=nzQ h49
      try have hr50:=mpQ nh49
      subst hM
      exact aU [0] (an (And.intro h2 (And.intro h4 (And.intro h32 (And.intro h34 h49))))) (by decide) (an (And.intro h2 (And.intro h4 (And.intro h32 (And.intro h34 h49)))))
     ·rw [if_neg (b9 h49)] at hM
      refine aA h49 ?_
      have nh49:=nzQ h49
      try have hr51:=mpQ nh49
      subst hM
      exact aU [0] (an (And.intro h2 (And.intro h4 (And.intro h32 (And.intro h34 h49))))) (by decide) (an (And.intro h2 (And.intro h4 (And.intro h32 (And.intro h34 h49)))))
   ·rw [if_pos h32] at hM
    refine aA h32 ?_
    have nh32:=nzQ h32
    try have hr52:=mpQ nh32
    subst hM
    exact aU [0] (an (And.intro h2 (And.intro h4 h32))) (by decide) (an (And.intro h2 (And.intro h4 h32)))
 ·rw [if_neg (b9 h2)] at hM
  refine aA h2 ?_
  have nh2:=nzQ h2
  try have hr53:=mpQ nh2
  refine bP (by (first|exact omQ|(clear hM;first|(simp only [List.length_take] at*;exact ax)))) ?_
  refine spQ ?_
  refine bP (by (first|exact omQ|(clear hM;first|(simp only [List.length_take] at*;exact ax)))) ?_
  refine spQ ?_
  refine kS (fun h54=> ?_) (fun h54=> ?_)
  ·rw [if_neg (b9 h54)] at hM
   refine aA h54 ?_
   have nh54:=nzQ h54
   try have hr55:=mpQ nh54
   refine jT (fun h56=> ?_) (fun h56=> ?_)
   ·rw [if_pos h56] at hM
    refine aA h56 ?_
    have nh56:=nzQ h56
    try have hr57:=mpQ nh56
    refine bP (by (first|exact omQ|(clear hM;first|(simp only [List.length_take] at*;exact ax)))) ?_
    refine spQ ?_
    refine cn (fun h58=> ?_) (fun h58=> ?_)
    ·rw [if_pos h58] at hM
     refine aA h58 ?_
     have nh58:=nzQ h58
     try have hr59:=mpQ nh58
     subst hM
     exact aU [0] (an (And.intro h2 (And.intro h54 (And.intro h56 h58)))) (by decide) (an (And.intro h2 (And.intro h54 (And.intro h56 h58))))
    ·rw [if_neg (b9 h58)] at hM
     refine aA h58 ?_
     have nh58:=nzQ h58
     try have hr60:=mpQ nh58
     replace hM:=au hM;obtain ⟨x61,hx62,hM⟩:=hM
     have hcx61:=cmU hx62
     refine aV hcx61 clQ clQ (fun hw63=> ?_)
     replace hw63:=nzQ hw63
     refine spQ ?_
     refine cn (fun h64=> ?_) (fun h64=> ?_)
     ·rw [if_pos h64] at hM
      refine aA h64 ?_
      have nh64:=nzQ h64
      try have hr65:=mpQ nh64
      subst hM
      exact aU [0] (an (And.intro h2 (And.intro h54 (And.intro h56 (And.intro h58 h64))))) (by decide) (an (And.intro h2 (And.intro h54 (And.intro h56 (And.intro h58 h64)))))
     ·rw [if_neg (b9 h64)] at hM
      refine aA h64 ?_
      have nh64:=nzQ h64
      try have hr66:=mpQ nh64
      subst hM
      exact aU [0] (an (And.intro h2 (And.intro h54 (And.intro h56 (And.intro h58 h64))))) (by decide) (an (And.intro h2 (And.intro h54 (And.intro h56 (And.intro h58 h64)))))
   ·rw [if_neg (b9 h56)] at hM
    refine aA h56 ?_
    have nh56:=nzQ h56
    try have hr67:=mpQ nh56
    replace hM:=au hM;obtain ⟨x68,hx69,hM⟩:=hM
    have hcx68:=cmU hx69
    refine aV hcx68 clQ clQ (fun hw70=> ?_)
    replace hw70:=nzQ hw70
    refine spQ ?_
    refine cn (fun h71=> ?_) (fun h71=> ?_)
    ·rw [if_pos h71] at hM
     refine aA h71 ?_
     have nh71:=nzQ h71
     try have hr72:=mpQ nh71
     subst hM
     exact aU [0] (an (And.intro h2 (And.intro h54 (And.intro h56 h71)))) (by decide) (an (And.intro h2 (And.intro h54 (And.intro h56 h71))))
    ·rw [if_neg (b9 h71)] at hM
     refine aA h71 ?_
     have nh71:=nzQ h71
     try have hr73:=mpQ nh71
     subst hM
     exact aU [0] (an (And.intro h2 (And.intro h54 (And.intro h56 h71)))) (by decide) (an (And.intro h2 (And.intro h54 (And.intro h56 h71))))
  ·rw [if_pos h54] at hM
   refine aA h54 ?_
   have nh54:=nzQ h54
   try have hr74:=mpQ nh54
   subst hM
   exact aU [0] (an (And.intro h2 h54)) (by decide) (an (And.intro h2 h54))
theorem qv (p_:az) (t_:(List UInt8)):bp En 100 [.ptr 0 0,.str t_] [.var 2 true (.agg [.str p_.s,.bool p_.bad])] (.tup []) [.var 2 true (.agg [.str (cQ p_ t_).s,.bool (cQ p_ t_).bad])] []:=by
 generalize hM:cQ p_ t_=r
 rw [cQ.eq_1] at hM
 refine cE bc bA noJ Tryz.func100 rfl Tryz.ntmps100 (by kernel_rfl) rfl fun ks hw hwB=>bz ?_
 refine spQ ?_
 replace hw:=nzQ hw
 replace hwB:=nzB hwB
 replace hM:=au hM;obtain ⟨x1,hx2,hM⟩:=hM
 have hcx1:=lF p_ t_
 rw [←hx2] at hcx1
 refine bL [0] hcx1 (by decide) lsQ lsQ (fun hw3=> ?_)
 replace hw3:=nzQ hw3
 have hF:=bT
 revert hM;revert hF
 refine slQ ?_
 refine cdQ (fun _ _ _=> ?_) (fun _ _ _=> ?_)
 ·intro hF hM
  subst hM
  exact aU [0] (an hF) (by decide) (an hF)
 ·intro hF hM
  subst hM
  exact aU [0] (an hF) (by decide) (an hF)
set_option maxRecDepth 512 in
instance (priority:=1001):DRD 2 50 5 [5,6,7,8,9] [] ([[],[0],[],[2],[2,3]]++[List.range 5,List.range 6,List.range 7]) [(3,0)]:=⟨trivial⟩
theorem Ml (p_:az) (hp0:p_.s.length≤8000):bp En 99 [.ptr 0 0] [.var 2 true (.agg [.str p_.s,.bool p_.bad])] (.agg [.sl none 1 false ((gd p_).1.Y.map (V.int .i64)),.sl none 1 false ((gd p_).1.Bases.map (fun (l:List Int)=>V.sl none 1 false (l.map (V.int .i64))))]) [.var 2 true (.agg [.str (gd p_).2.s,.bool (gd p_).2.bad])] []:=by
 generalize hM:gd p_=r
 rw [gd.eq_1] at hM
 refine cE bc bA [8] Tryz.func99 rfl Tryz.ntmps99 (by kernel_rfl) rfl fun ks hw hwB=>bz ?_
 refine spQ ?_
 replace hw:=nzQ hw
 replace hwB:=nzB hwB
 replace hM:=aS hM;obtain ⟨f1,d1,hf1,hd1,hM⟩:=hM
 refine eN (fun n S=> ∃p:az×aF×List Int×List (List Int),S=(⟨[(0,.ptr 0 0),(2,.ptr 1 0),(3,.ptr 2 0)],[(0,.lent (ks 0) 2 true (.agg [.str p.1.s,.bool p.1.bad])),(1,.var 2 true (.agg [.sl none 1 false (p.2.1.Y.map (V.int .i64)),.sl none 1 false (p.2.1.Bases.map (fun (l:List Int)=>V.sl none 1 false (l.map (V.int .i64))))])),(2,.var 2 true (.agg [.own 3,.own 4])),(3,.own 3 1 false none (p.2.2.1.map (V.int .i64))),(4,.own 24 1 false none (p.2.2.2.map (fun (l:List Int)=>V.sl none 1 false (l.map (V.int .i64)))))],5⟩:St)∧((((p.1).s.length:Int)+((p.2.2.1).length:Int)≤(p_.s.length:Int))∧(((p.1).s.length:Int)+((p.2.2.2).length:Int)≤(p_.s.length:Int)))∧(p.1).s.length<n∧ah n f1 d1 p=r) ((p_).s.length+1) _ _ ((j_ 2 0 3 rfl rfl (by decide)).trans (j_ 2 1 24 rfl rfl (by decide))) sbQ sbG ⟨(p_,fw,([]:List Int),([]:List (List Int))),rfl,⟨omQ,omQ⟩,(Nat.lt_succ_self _),hM⟩ ?_
 clear hM
 rintro n1 S ⟨p1,rfl,hfa1,hm1,hM⟩
 replace hM:=aT hM (by omega) hf1;obtain ⟨ag1,hag1,hM⟩:=hM
 replace hfa1:=nzQ hfa1
 replace hm1:=nzQ hm1
 have hF:=bT
 revert hM;revert hF
 refine slQ ?_
 intro hF hM
 replace hM:=au hM;obtain ⟨x2,hx3,hM⟩:=hM
 have hcx2:=yi (p1.1)
 rw [←hx3] at hcx2
 refine iv 0 hcx2 rfl rfl lsQ lsQ lsQ lsQ lsQ ?_
 revert hM;revert hF
 refine slQ ?_
 have hq4:=xH hx3
 replace hq4:=nzQ hq4
 have hq5:=iI x2.2.bad
 replace hq5:=nzQ hq5
 refine slQ ?_
 intro hF hM
 replace hM:=au hM;obtain ⟨x6,hx7,hM⟩:=hM
 have hcx6:=qv (x2.2) ([32,61])
 rw [←hx7] at hcx6
 refine bL [0] hcx6 (by decide) lsQ lsQ (fun hw8=> ?_)
 replace hw8:=nzQ hw8
 revert hM;revert hF
 refine slQ ?_
 have hq9:=jy hx7
 replace hq9:=nzQ hq9
 intro hF hM
 replace hM:=au hM;obtain ⟨x10,hx11,hM⟩:=hM
 have hcx10:=qv x6 ([32])
 rw [←hx11] at hcx10
 refine bL [0] hcx10 (by decide) lsQ lsQ (fun hw12=> ?_)
 replace hw12:=nzQ hw12
 revert hM;revert hF
 refine slQ ?_
 have hq13:=jy hx11
 replace hq13:=nzQ hq13
 intro hF hM
 replace hM:=au hM;obtain ⟨x14,hx15,hM⟩:=hM
 have hcx14:=yi x10
 rw [←hx15] at hcx14
 refine bL [0] hcx14 (by decide) lsQ lsQ (fun hw16=> ?_)
 replace hw16:=nzQ hw16
 revert hM;revert hF
 refine slQ ?_
 have hq17:=xH hx15
 replace hq17:=nzQ hq17
 have hq18:=iI x14.2.bad
 replace hq18:=nzQ hq18
 intro hF hM
 refine kW ?_
 revert hM;revert hF
 refine slQ ?_
 intro hF hM
 replace hM:=aS hM;obtain ⟨f19,d19,hf19,hd19,hM⟩:=hM
 refine bk (fun n S=> ∃p:az×List Int,S=(⟨[(0,.ptr 0 0),(2,.ptr 1 0),(3,.ptr 2 0),(4,.own 10)],[(0,.lent (ks 0) 2 true (.agg [.str p.1.s,.bool p.1.bad])),(1,.var 2 true (.agg [.sl none 1 false (p1.2.1.Y.map (V.int .i64)),.sl none 1 false (p1.2.1.Bases.map (fun (l:List Int)=>V.sl none 1 false (l.map (V.int .i64))))])),(2,.var 2 true (.agg [.own 3,.own 4])),(3,.own 3 1 false (some false) ((p1.2.2.1++([x2.1]:List Int)).map (V.int .i64))),(4,.own 24 1 false none (p1.2.2.2.map (fun (l:List Int)=>V.sl none 1 false (l.map (V.int .i64))))),(10,.own 3 1 false none (p.2.map (V.int .i64)))],11⟩:St)∧(((((p.1).s.length:Int)+1≤(p1.1.s.length:Int)+(bd (p.1).bad:Int))∧(((p.1).s.length:Int)≤(p1.1.s.length:Int))∧(((p.1).s.length:Int)+((p.2).length:Int)≤(p1.1.s.length:Int)+1))∧((p.1).bad=false→bd (p.1).bad=0))∧(p.1).s.length<n∧ah n f19 d19 p=r) (((x14.2)).s.length+1) _ sbQ sbQ ⟨(x14.2,([x14.1]:List Int)),rfl,⟨⟨omQ,omQ,omQ⟩,by (exact tn)⟩,(Nat.lt_succ_self _),hM⟩ ?_
 clear hM
 rintro n19 S ⟨p19,rfl,⟨hfa19,hF6_0⟩,hm19,hM⟩
 replace hM:=aT hM (by omega) hf19;obtain ⟨ag19,hag19,hM⟩:=hM
 replace hfa19:=nzQ hfa19
 replace hm19:=nzQ hm19
 revert hM;revert hF
 refine slQ ?_
 refine cdQ (fun _ _ _=> ?_) (fun _ _ _=> ?_)
 ·intro hF hM
  replace hM:=au hM;obtain ⟨x22,hx23,hM⟩:=hM
  have hcx22:=lF (p19.1) ([32])
  rw [←hx23] at hcx22
  refine bL [0] hcx22 (by decide) lsQ lsQ (fun hw24=> ?_)
  replace hw24:=nzQ hw24
  revert hM;revert hF
  refine slQ ?_
  have hq25:=eV hx23
  replace hq25:=nzQ hq25
  have hq26:=g_ hx23 (by decide)
  replace hq26:=nzQ hq26
  have hq27:=iI x22.2.bad
  replace hq27:=nzQ hq27
  refine cdQ (fun _ _ _=> ?_) (fun _ _ _=> ?_)
  ·intro hF hM
   replace hM:=au hM;obtain ⟨x30,hx31,hM⟩:=hM
   have hcx30:=yi (x22.2)
   rw [←hx31] at hcx30
   refine bL [0] hcx30 (by decide) lsQ lsQ (fun hw32=> ?_)
   replace hw32:=nzQ hw32
   revert hM;revert hF
   refine slQ ?_
   have hq33:=xH hx31
   replace hq33:=nzQ hq33
   have hq34:=iI x30.2.bad
   replace hq34:=nzQ hq34
   refine slQ ?_
   intro hF hM
   refine aP (n19 - 1) _ (by omega) sbQ sbQ ⟨(x30.2,(p19.2++([x30.1]:List Int))),rfl,⟨⟨omQ,omQ,omQ⟩,by (exact tn)⟩,omQ,aN hM hag19⟩
  ·intro hF hM
   refine j4 _ (⟨[(0,.ptr 0 0),(2,.ptr 1 0),(3,.ptr 2 0),(4,.sl none 1 false (p19.2.map (V.int .i64)))],[(0,.lent (ks 0) 2 true (.agg [.str x22.2.s,.bool x22.2.bad])),(1,.var 2 true (.agg [.sl none 1 false (p1.2.1.Y.map (V.int .i64)),.sl none 1 false (p1.2.1.Bases.map (fun (l:List Int)=>V.sl none 1 false (l.map (V.int .i64))))])),(2,.var 2 true (.agg [.own 3,.own 4])),(3,.own 3 1 false (some false) ((p1.2.2.1++([x2.1]:List Int)).map (V.int .i64))),(4,.own 24 1 false none (p1.2.2.2.map (fun (l:List Int)=>V.sl none 1 false (l.map (V.int .i64))))),(10,.pown 1 false none (p19.2.map (V.int .i64)))],11⟩:St) ((sv (S:=⟨_,_,_⟩) 10 (T:=3) (n:=1) (g:=false) (z:=none) (l:=p19.2.map (V.int .i64)) clQ).trans (wx (S:=⟨_,_,_⟩) 4 10 (n:=1) (g:=false) (z:=none) (l:=p19.2.map (V.int .i64)) clQ clQ)) sbQ sbQ ?_
   revert hM;revert hF
   refine slQ ?_
   refine cdQ (fun _ _ _=> ?_) (fun _ _ _=> ?_)
   ·intro hF hM
    replace hM:=au hM;obtain ⟨x38,hx39,hM⟩:=hM
    have hcx38:=lF ({s:=x22.2.s,bad:=false}:az) ([93])
    rw [←hx39] at hcx38
    refine bL [0] hcx38 (by decide) lsQ lsQ (fun hw40=> ?_)
    replace hw40:=nzQ hw40
    revert hM;revert hF
    refine slQ ?_
    have hq41:=eV hx39
    replace hq41:=nzQ hq41
    have hq42:=g_ hx39 (by decide)
    replace hq42:=nzQ hq42
    have hq43:=iI x38.2.bad
    replace hq43:=nzQ hq43
    refine cdQ (fun _ _ _=> ?_) (fun _ _ _=> ?_)
    ·intro hF hM
     subst hM
     exact aU [0] (an hF) (by decide) (an hF)
    ·intro hF hM
     replace hM:=au hM;obtain ⟨x47,hx48,hM⟩:=hM
     have hcx47:=qv (x38.2) ([44,32])
     rw [←hx48] at hcx47
     refine bL [0] hcx47 (by decide) lsQ lsQ (fun hw49=> ?_)
     replace hw49:=nzQ hw49
     revert hM;revert hF
     refine slQ ?_
     have hq50:=jy hx48
     replace hq50:=nzQ hq50
     intro hF hM
     refine aP (n1 - 1) _ (by omega) sbQ sbQ ⟨(x47,p1.2.1,(p1.2.2.1++([x2.1]:List Int)),(p1.2.2.2++([p19.2]:List (List Int)))),rfl,⟨omQ,omQ⟩,omQ,aN hM hag1⟩
   ·intro hF hM
    subst hM
    exact aU [0] (an hF) (by decide) (an hF)
 ·intro hF hM
  refine j4 _ (⟨[(0,.ptr 0 0),(2,.ptr 1 0),(3,.ptr 2 0),(4,.sl none 1 false (p19.2.map (V.int .i64)))],[(0,.lent (ks 0) 2 true (.agg [.str p19.1.s,.bool p19.1.bad])),(1,.var 2 true (.agg [.sl none 1 false (p1.2.1.Y.map (V.int .i64)),.sl none 1 false (p1.2.1.Bases.map (fun (l:List Int)=>V.sl none 1 false (l.map (V.int .i64))))])),(2,.var 2 true (.agg [.own 3,.own 4])),(3,.own 3 1 false (some false) ((p1.2.2.1++([x2.1]:List Int)).map (V.int .i64))),(4,.own 24 1 false none (p1.2.2.2.map (fun (l:List Int)=>V.sl none 1 false (l.map (V.int .i64))))),(10,.pown 1 false none (p19.2.map (V.int .i64)))],11⟩:St) ((sv (S:=⟨_,_,_⟩) 10 (T:=3) (n:=1) (g:=false) (z:=none) (l:=p19.2.map (V.int .i64)) clQ).trans (wx (S:=⟨_,_,_⟩) 4 10 (n:=1) (g:=false) (z:=none) (l:=p19.2.map (V.int .i64)) clQ clQ)) sbQ sbQ ?_
  revert hM;revert hF
  refine slQ ?_
  refine cdQ (fun _ _ _=> ?_) (fun _ _ _=> ?_)
  ·intro hF hM
   replace hM:=au hM;obtain ⟨x55,hx56,hM⟩:=hM
   have hcx55:=lF ({s:=p19.1.s,bad:=false}:az) ([93])
   rw [←hx56] at hcx55
   refine bL [0] hcx55 (by decide) lsQ lsQ (fun hw57=> ?_)
   replace hw57:=nzQ hw57
   revert hM;revert hF
   refine slQ ?_
   have hq58:=eV hx56
   replace hq58:=nzQ hq58
   have hq59:=g_ hx56 (by decide)
   replace hq59:=nzQ hq59
   have hq60:=iI x55.2.bad
   replace hq60:=nzQ hq60
   refine cdQ (fun _ _ _=> ?_) (fun _ _ _=> ?_)
   ·intro hF hM
    subst hM
    exact aU [0] (an hF) (by decide) (an hF)
   ·intro hF hM
    replace hM:=au hM;obtain ⟨x64,hx65,hM⟩:=hM
    have hcx64:=qv (x55.2) ([44,32])
    rw [←hx65] at hcx64
    refine bL [0] hcx64 (by decide) lsQ lsQ (fun hw66=> ?_)
    replace hw66:=nzQ hw66
    revert hM;revert hF
    refine slQ ?_
    have hq67:=jy hx65
    replace hq67:=nzQ hq67
    intro hF hM
    refine aP (n1 - 1) _ (by omega) sbQ sbQ ⟨(x64,p1.2.1,(p1.2.2.1++([x2.1]:List Int)),(p1.2.2.2++([p19.2]:List (List Int)))),rfl,⟨omQ,omQ⟩,omQ,aN hM hag1⟩
  ·intro hF hM
   subst hM
   exact aU [0] (an hF) (by decide) (an hF)
set_option maxRecDepth 512 in
instance (priority:=1002):DRD 11 42 5 [24,25,26,27,28] [] ([[],[0],[],[2],[2,3]]++[List.range 5,List.range 6,List.range 7]) [(3,0)]:=⟨trivial⟩
theorem Mm (N:Nat) (ih: ∀(p_:az),(p_.s.length≤8000)→p_.s.length<N→bp En 48 [.ptr 0 0] [.var 2 true (.agg [.str p_.s,.bool p_.bad])] (.agg [.int .i64 (ce p_).1.Kind,.sl none 1 false ((ce p_).1.Relation.Y.map (V.int .i64)),.sl none 1 false ((ce p_).1.Relation.Bases.map (fun (l:List Int)=>V.sl none 1 false (l.map (V.int .i64)))),.sl none 4 true ((ce p_).1.L.map aw)]) [.var 2 true (.agg [.str (ce p_).2.s,.bool (ce p_).2.bad])] []) (p_:az) (hp0:p_.s.length≤8000) (hp_:p_.s.length<N+1):bp En 48 [.ptr 0 0] [.var 2 true (.agg [.str p_.s,.bool p_.bad])] (.agg [.int .i64 (jl p_).1.Kind,.sl none 1 false ((jl p_).1.Relation.Y.map (V.int .i64)),.sl none 1 false ((jl p_).1.Relation.Bases.map (fun (l:List Int)=>V.sl none 1 false (l.map (V.int .i64)))),.sl none 4 true ((jl p_).1.L.map aw)]) [.var 2 true (.agg [.str (jl p_).2.s,.bool (jl p_).2.bad])] []:=by
 generalize hM:jl p_=r
 rw [jl.eq_1] at hM
 refine cE bc bA [11] Tryz.func48 rfl Tryz.ntmps48 (by kernel_rfl) rfl fun ks hw hwB=>bz ?_
 refine spQ ?_
 replace hw:=nzQ hw
 replace hwB:=nzB hwB
 replace hM:=jc hM;obtain ⟨j1,hj1,hM⟩:=hM
 refine i7 (fun S=> ∃p:List UInt8×Bool×Int,S=(⟨[(0,.ptr 0 0),(2,.ptr 1 0),(3,.ptr 2 0)],[(0,.lent (ks 0) 2 true (.agg [.str p.1,.bool p.2.1])),(1,.var 4 true (.agg [.int .i64 0,.sl (some true) 1 false [],.sl (some true) 1 false [],.sl (some true) 4 true []])),(2,.var 4 true (.agg [.int .i64 p.2.2,.sl (some true) 1 false [],.sl (some true) 1 false [],.sl (some true) 4 true []]))],3⟩:St)∧(((((({s:=p.1,bad:=p.2.1}:az)).s.length:Int)<(p_.s.length:Int))))∧j1 p=r) ?_ (fun hcut1=> ?_)
 ·clear hM
  rintro S ⟨p1,rfl,hfa1,hM⟩
  replace hfa1:=nzQ hfa1
  replace hM:=jd hM hj1
  have hF:=bT
  revert hM;revert hF
  refine slQ ?_
  intro hF hM
  replace hM:=aS hM;obtain ⟨f2,d2,hf2,hd2,hM⟩:=hM
  refine eN (fun n S=> ∃p:az×Int×List Int×List (List Int)×List aa×List aa,S=(⟨[(0,.ptr 0 0),(2,.ptr 1 0),(3,.ptr 2 0)],[(0,.lent (ks 0) 2 true (.agg [.str p.1.s,.bool p.1.bad])),(1,.var 4 true (.agg [.int .i64 p.2.1,.sl none 1 false (p.2.2.1.map (V.int .i64)),.sl none 1 false (p.2.2.2.1.map (fun (l:List Int)=>V.sl none 1 false (l.map (V.int .i64)))),.sl none 4 true (p.2.2.2.2.1.map aw)])),(2,.var 4 true (.agg [.int .i64 p1.2.2,.sl (some true) 1 false [],.sl (some true) 1 false [],.own 3])),(3,.own 30 4 true none (p.2.2.2.2.2.map aw))],4⟩:St)∧((((p.1).s.length:Int)+((p.2.2.2.2.2).length:Int)<(p_.s.length:Int)))∧(p.1).s.length<n∧ah n f2 d2 p=r) ((({s:=p1.1,bad:=p1.2.1}:az)).s.length+1) _ _ (j_ 2 3 30 rfl rfl (by decide)) sbQ sbQ ⟨(({s:=p1.1,bad:=p1.2.1}:az),0,([]:List Int),([]:List (List Int)),([]:List aa),([]:List aa)),rfl,omQ,(Nat.lt_succ_self _),hM⟩ ?_
  clear hM
  rintro n2 S ⟨p2,rfl,hfa2,hm2,hM⟩
  replace hM:=aT hM (by omega) hf2;obtain ⟨ag2,hag2,hM⟩:=hM
  replace hfa2:=nzQ hfa2
  replace hm2:=nzQ hm2
  revert hM;revert hF
  refine slQ ?_
  intro hF hM
  replace hM:=au hM;obtain ⟨x3,hx4,hM⟩:=hM
  have hcx3:=ih (p2.1) (by (exact pfQ)) (by omega)
  rw [←hx4] at hcx3
  refine iv 0 hcx3 rfl rfl lsQ lsQ lsQ lsQ lsQ ?_
  revert hM;revert hF
  refine slQ ?_
  have hq5:=Lh hx4
  replace hq5:=nzQ hq5
  have hq6:=iI x3.2.bad
  replace hq6:=nzQ hq6
  refine slQ ?_
  refine cdQ (fun _ _ _=> ?_) (fun _ _ _=> ?_)
  ·intro hF hM
   replace hM:=au hM;obtain ⟨x9,hx10,hM⟩:=hM
   have hcx9:=lF ({s:=x3.2.s,bad:=false}:az) ([41])
   rw [←hx10] at hcx9
   refine bL [0] hcx9 (by decide) lsQ lsQ (fun hw11=> ?_)
   replace hw11:=nzQ hw11
   revert hM;revert hF
   refine slQ ?_
   have hq12:=eV hx10
   replace hq12:=nzQ hq12
   have hq13:=g_ hx10 (by decide)
   replace hq13:=nzQ hq13
   have hq14:=iI x9.2.bad
   replace hq14:=nzQ hq14
   refine cdQ (fun _ _ _=> ?_) (fun _ _ _=> ?_)
   ·intro hF hM
    subst hM
    exact aU [0] (an hF) (by decide) (an hF)
   ·intro hF hM
    replace hM:=au hM;obtain ⟨x18,hx19,hM⟩:=hM
    have hcx18:=qv (x9.2) ([44,32])
    rw [←hx19] at hcx18
    refine bL [0] hcx18 (by decide) lsQ lsQ (fun hw20=> ?_)
    replace hw20:=nzQ hw20
    revert hM;revert hF
    refine slQ ?_
    have hq21:=jy hx19
    replace hq21:=nzQ hq21
    intro hF hM
    refine aP (n2 - 1) _ (by omega) sbQ sbQ ⟨(x18,p2.2.1,p2.2.2.1,p2.2.2.2.1,p2.2.2.2.2.1,(p2.2.2.2.2.2++([x3.1]:List aa))),rfl,omQ,omQ,aN hM hag2⟩
  ·intro hF hM
   subst hM
   exact aU [0] (an hF) (by decide) (an hF)
 ·have hF:=bT
  revert hM;revert hF
  refine slQ ?_
  intro hF hM
  replace hM:=au hM;obtain ⟨x23,hx24,hM⟩:=hM
  have hcx23:=lF p_ ([91])
  rw [←hx24] at hcx23
  refine bL [0] hcx23 (by decide) lsQ lsQ (fun hw25=> ?_)
  replace hw25:=nzQ hw25
  revert hM;revert hF
  refine slQ ?_
  have hq26:=eV hx24
  replace hq26:=nzQ hq26
  have hq27:=g_ hx24 (by decide)
  replace hq27:=nzQ hq27
  have hq28:=iI x23.2.bad
  replace hq28:=nzQ hq28
  refine cdQ (fun _ _ _=> ?_) (fun _ _ _=> ?_)
  ·intro hF hM
   replace hM:=au hM;obtain ⟨x31,hx32,hM⟩:=hM
   have hcx31:=Ml (x23.2) (by (exact pfQ))
   rw [←hx32] at hcx31
   refine bL [0] hcx31 (by decide) lsQ lsQ (fun hw33=> ?_)
   replace hw33:=nzQ hw33
   revert hM;revert hF
   refine slQ ?_
   have hq34:=Lf hx32
   replace hq34:=nzQ hq34
   intro hF hM
   subst hM
   exact aU [0] (an hF) (by decide) (an hF)
  ·intro hF hM
   replace hM:=au hM;obtain ⟨x36,hx37,hM⟩:=hM
   have hcx36:=lF (x23.2) ([97,110,100,40])
   rw [←hx37] at hcx36
   refine bL [0] hcx36 (by decide) lsQ lsQ (fun hw38=> ?_)
   replace hw38:=nzQ hw38
   revert hM;revert hF
   refine slQ ?_
   have hq39:=eV hx37
   replace hq39:=nzQ hq39
   have hq40:=g_ hx37 (by decide)
   replace hq40:=nzQ hq40
   have hq41:=iI x36.2.bad
   replace hq41:=nzQ hq41
   refine cdQ (fun _ _ _=> ?_) (fun _ _ _=> ?_)
   ·intro hF hM
    exact cW _ sbQ sbQ (hcut1 _ ⟨(x36.2.s,x36.2.bad,2),rfl,omQ,hM⟩)
   ·intro hF hM
    replace hM:=au hM;obtain ⟨x45,hx46,hM⟩:=hM
    have hcx45:=lF (x36.2) ([111,114,40])
    rw [←hx46] at hcx45
    refine bL [0] hcx45 (by decide) lsQ lsQ (fun hw47=> ?_)
    replace hw47:=nzQ hw47
    revert hM;revert hF
    refine slQ ?_
    have hq48:=eV hx46
    replace hq48:=nzQ hq48
    have hq49:=g_ hx46 (by decide)
    replace hq49:=nzQ hq49
    have hq50:=iI x45.2.bad
    replace hq50:=nzQ hq50
    refine cdQ (fun _ _ _=> ?_) (fun _ _ _=> ?_)
    ·intro hF hM
     exact cW _ sbQ sbQ (hcut1 _ ⟨(x45.2.s,x45.2.bad,3),rfl,omQ,hM⟩)
    ·intro hF hM
     subst hM
     exact aU [0] (an hF) (by decide) (an hF)
set_option maxRecDepth 512 in
theorem Mn: ∀(N:Nat) (p_:az),(p_.s.length≤8000)→p_.s.length<N→bp En 48 [.ptr 0 0] [.var 2 true (.agg [.str p_.s,.bool p_.bad])] (.agg [.int .i64 (ce p_).1.Kind,.sl none 1 false ((ce p_).1.Relation.Y.map (V.int .i64)),.sl none 1 false ((ce p_).1.Relation.Bases.map (fun (l:List Int)=>V.sl none 1 false (l.map (V.int .i64)))),.sl none 4 true ((ce p_).1.L.map aw)]) [.var 2 true (.agg [.str (ce p_).2.s,.bool (ce p_).2.bad])] []:=by
 intro N
 induction N with
 | zero=>intro p_ h0 h;exact absurd h (Nat.not_lt_zero _)
 | succ N ih=>
  intro p_ h0 h
  have h9:=Mm N ih p_ h0 h
  rw [Lj] at h9
  exact h9
set_option maxRecDepth 512 in
theorem Mp (p_:az) (hp0:p_.s.length≤8000):bp En 48 [.ptr 0 0] [.var 2 true (.agg [.str p_.s,.bool p_.bad])] (.agg [.int .i64 (ce p_).1.Kind,.sl none 1 false ((ce p_).1.Relation.Y.map (V.int .i64)),.sl none 1 false ((ce p_).1.Relation.Bases.map (fun (l:List Int)=>V.sl none 1 false (l.map (V.int .i64)))),.sl none 4 true ((ce p_).1.L.map aw)]) [.var 2 true (.agg [.str (ce p_).2.s,.bool (ce p_).2.bad])] []:=
 Mn (p_.s.length+1) p_ hp0 (Nat.lt_succ_self _)
instance QV (x_:Int):CM En (ix x_) 148 [.int .i64 x_] (fun y=> .bool y) (fun _=> []):=by
 refine enQ noJ Tryz.func148 Tryz.ntmps148 (ix.eq_1 ..) fun r hw=> ?_
 exact auR
instance QW (s:(List Int)):CM En (wZ s) 141 [.sl none 1 false (s.map (V.int .i64)),.fn 148 []] (fun y=> .int .i64 y) (fun _=> []):=by
 refine enQ noJ Tryz.func141 Tryz.ntmps141 (wZ.eq_1 ..) fun r hw=> ?_
 intro hF hM
 replace hM:=aS hM;obtain ⟨f1,d1,hf1,hd1,hM⟩:=hM
 refine bk (fun n S=> ∃p:Int,S=(⟨[(0,.sl none 1 false (s.map (V.int .i64))),(1,.fn 148 []),(7,.int .i64 (s.length:Int)),(8,.int .i64 p)],[],0⟩:St)∧((0≤p)∧(p≤(s.length:Int)))∧((s.length:Int) - p).toNat<n∧ah n f1 d1 p=r) (((s.length:Int) - 0).toNat+1) _ sbQ sbQ ⟨0,rfl,⟨omQ,omQ⟩,(Nat.lt_succ_self _),hM⟩ ?_
 clear hM
 rintro n1 S ⟨p1,rfl,hfa1,hm1,hM⟩
 replace hM:=aT hM (by omega) hf1;obtain ⟨ag1,hag1,hM⟩:=hM
 replace hfa1:=nzQ hfa1
 replace hm1:=nzQ hm1
 have ha1:ao .i64 p1 1=p1+1:=bl omQ omQ
 replace hF:=(And.intro ha1 hF)
 revert hM;revert hF
 refine slQ ?_
 refine aE fun _ _ _=> ?_
 refine aQ fun _ _ _ _=> ?_
 refine aW fun _ _ _=> ?_
 intro hF hM
 refine aP (n1 - 1) _ (by omega) sbQ sbQ ⟨(p1+1),rfl,⟨omQ,omQ⟩,omQ,aN hM hag1⟩
instance QX (s:(List Int)):CM En (pE s) 86 [.sl none 1 false (s.map (V.int .i64)),.fn 148 []] (fun y=> .bool y) (fun _=> []):=by
 refine enQ noJ Tryz.func86 Tryz.ntmps86 (pE.eq_1 ..) fun r hw=> ?_
 exact auR
instance QY (l:(List Int)):CM En (kl l) 102 [.sl none 1 false (l.map (V.int .i64))] (fun y=> .bool y) (fun _=> []):=by
 refine enQ noJ Tryz.func102 Tryz.ntmps102 (kl.eq_1 ..) fun r hw=> ?_
 exact auR
instance QZ (row:(List Int)) (c0:Int):CM En (iy row c0) 103 [.sl none 1 false (row.map (V.int .i64)),.pp 1 false (.int .i64 c0)] (fun y=> .bool y) (fun _=> []):=by
 refine enQ noJ Tryz.func103 Tryz.ntmps103 (iy.eq_1 ..) fun r hw=> ?_
 exact auR
instance Q3 (s:(List (List Int))) (f__c0:Int):CM En (w3 s f__c0) 104 [.sl none 1 false (s.map (fun (l:List Int)=>V.sl none 1 false (l.map (V.int .i64)))),.fn 103 [.pp 1 false (.int .i64 f__c0)]] (fun y=> .int .i64 y) (fun _=> []):=by
 refine enQ noJ Tryz.func104 Tryz.ntmps104 (w3.eq_1 ..) fun r hw=> ?_
 intro hF hM
 replace hM:=aS hM;obtain ⟨f1,d1,hf1,hd1,hM⟩:=hM
 refine bk (fun n S=> ∃p:Int,S=(⟨[(0,.sl none 1 false (s.map (fun (l:List Int)=>V.sl none 1 false (l.map (V.int .i64))))),(1,.fn 103 [.pp 1 false (.int .i64 f__c0)]),(7,.int .i64 (s.length:Int)),(8,.int .i64 p)],[],0⟩:St)∧((0≤p)∧(p≤(s.length:Int)))∧((s.length:Int) - p).toNat<n∧ah n f1 d1 p=r) (((s.length:Int) - 0).toNat+1) _ sbQ sbQ ⟨0,rfl,⟨omQ,omQ⟩,(Nat.lt_succ_self _),hM⟩ ?_
 clear hM
 rintro n1 S ⟨p1,rfl,hfa1,hm1,hM⟩
 replace hM:=aT hM (by omega) hf1;obtain ⟨ag1,hag1,hM⟩:=hM
 replace hfa1:=nzQ hfa1
 replace hm1:=nzQ hm1
 have ha1:ao .i64 p1 1=p1+1:=bl omQ omQ
 replace hF:=(And.intro ha1 hF)
 revert hM;revert hF
 refine slQ ?_
 refine aE fun _ _ _=> ?_
 refine aQ fun _ _ _ _=> ?_
 refine aW fun _ _ _=> ?_
 intro hF hM
 refine aP (n1 - 1) _ (by omega) sbQ sbQ ⟨(p1+1),rfl,⟨omQ,omQ⟩,omQ,aN hM hag1⟩
instance Q4 (s:(List (List Int))) (f__c0:Int):CM En (pG s f__c0) 50 [.sl none 1 false (s.map (fun (l:List Int)=>V.sl none 1 false (l.map (V.int .i64)))),.fn 103 [.pp 1 false (.int .i64 f__c0)]] (fun y=> .bool y) (fun _=> []):=by
 refine enQ noJ Tryz.func50 Tryz.ntmps50 (pG.eq_1 ..) fun r hw=> ?_
 exact auR
instance Q5 (r_:aF):CM En (jm r_) 101 [.agg [.sl none 1 false (r_.Y.map (V.int .i64)),.sl none 1 false (r_.Bases.map (fun (l:List Int)=>V.sl none 1 false (l.map (V.int .i64))))]] (fun y=> .bool y) (fun _=> []):=by
 refine enQ noJ Tryz.func101 Tryz.ntmps101 (jm.eq_1 ..) fun r hw=> ?_
 exact auR
instance Q6 (f_:aa):CM En (c7 f_) 108 [.agg [.int .i64 f_.Kind,.sl none 1 false (f_.Relation.Y.map (V.int .i64)),.sl none 1 false (f_.Relation.Bases.map (fun (l:List Int)=>V.sl none 1 false (l.map (V.int .i64)))),.sl none 4 true (f_.L.map aw)],.pp 1 false (.fn 101 [])] (fun y=> .bool y) (fun _=> []):=by
 refine enQ [6] Tryz.func108 Tryz.ntmps108 (c7.eq_1 ..) fun r hw=> ?_
 refine aW fun _ _ _=> ?_
 intro hF hM
 replace hM:=jc hM;obtain ⟨j10,hj10,hM⟩:=hM
 refine i7 (fun S=> ∃p:Bool,S=(⟨[(2,.ptr 0 0),(18,.bool p)],[(0,.var 4 true (.agg [.int .i64 f_.Kind,.sl none 1 false (f_.Relation.Y.map (V.int .i64)),.sl none 1 false (f_.Relation.Bases.map (fun (l:List Int)=>V.sl none 1 false (l.map (V.int .i64)))),.sl none 4 true (f_.L.map aw)]))],1⟩:St)∧(True)∧j10 p=r) ?_ (fun hcut10=> ?_)
 ·clear hM
  rintro S ⟨p10,rfl,hfa10,hM⟩
  replace hM:=jd hM hj10
  exact auP
 ·revert hM;revert hF
  refine slQ ?_
  refine cdQ (fun _ _ _=> ?_) (fun _ _ _=> ?_)
  ·intro hF hM
   exact cW _ sbQ sbQ (hcut10 _ ⟨true,rfl,trivial,hM⟩)
  ·intro hF hM
   exact cW _ sbQ sbQ (hcut10 _ ⟨(f_.Kind==3),rfl,trivial,hM⟩)
theorem Mq (N:Nat) (ih: ∀(f_:aa) (depth:Int) (left:Int),ay f_<N→bp En 107 [.agg [.int .i64 f_.Kind,.sl none 1 false (f_.Relation.Y.map (V.int .i64)),.sl none 1 false (f_.Relation.Bases.map (fun (l:List Int)=>V.sl none 1 false (l.map (V.int .i64)))),.sl none 4 true (f_.L.map aw)],.int .i64 depth,.ptr 0 0,.fn 108 [.pp 1 false (.fn 101 [])]] [.var 1 false (.int .i64 left)] (.bool ((cb c7) f_ depth left).1) [.var 1 false (.int .i64 ((cb c7) f_ depth left).2)] []) (f_:aa) (depth:Int) (left:Int) (hp_:ay f_<N+1):bp En 107 [.agg [.int .i64 f_.Kind,.sl none 1 false (f_.Relation.Y.map (V.int .i64)),.sl none 1 false (f_.Relation.Bases.map (fun (l:List Int)=>V.sl none 1 false (l.map (V.int .i64)))),.sl none 4 true (f_.L.map aw)],.int .i64 depth,.ptr 0 0,.fn 108 [.pp 1 false (.fn 101 [])]] [.var 1 false (.int .i64 left)] (.bool (nM f_ depth left).1) [.var 1 false (.int .i64 (nM f_ depth left).2)] []:=by
 generalize hM:nM f_ depth left=r
 rw [nM.eq_1] at hM
 refine cE bc bA noJ Tryz.func107 rfl Tryz.ntmps107 (by kernel_rfl) rfl fun ks hw hwB=>bz ?_
 refine spQ ?_
 replace hw:=nzQ hw
 replace hwB:=nzB hwB
 have hF:=bT
 revert hM;revert hF
 refine cdQ (fun _ _ _=> ?_) (fun _ _ _=> ?_)
 ·refine cdQ (fun _ _ _=> ?_) (fun _ _ _=> ?_)
  ·refine aQ fun _ _ _ _=> ?_
   refine cdQ (fun _ _ _=> ?_) (fun _ _ _=> ?_)
   ·intro hF hM
    subst hM
    exact aU [0] (an hF) (by decide) (an hF)
   ·intro hF hM
    replace hM:=aS hM;obtain ⟨f11,d11,hf11,hd11,hM⟩:=hM
    refine bk (fun n S=> ∃p:Int×Int,S=(⟨[(1,.int .i64 depth),(2,.ptr 0 0),(3,.fn 108 [.pp 1 false (.fn 101 [])]),(31,.sl none 4 true (f_.L.map aw)),(32,.int .i64 (f_.L.length:Int)),(33,.int .i64 p.1)],[(0,.lent (ks 0) 1 false (.int .i64 p.2))],2⟩:St)∧((0≤p.1)∧(p.1≤(f_.L.length:Int)))∧((f_.L.length:Int) - p.1).toNat<n∧ah n f11 d11 p=r) (((f_.L.length:Int) - 0).toNat+1) _ sbQ sbQ ⟨(0,(ap .i64 left 1)),rfl,⟨omQ,omQ⟩,(Nat.lt_succ_self _),hM⟩ ?_
    clear hM
    rintro n11 S ⟨p11,rfl,hfa11,hm11,hM⟩
    replace hM:=aT hM (by omega) hf11;obtain ⟨ag11,hag11,hM⟩:=hM
    replace hfa11:=nzQ hfa11
    replace hm11:=nzQ hm11
    have ha11:ao .i64 p11.1 1=p11.1+1:=bl omQ omQ
    replace hF:=(And.intro ha11 hF)
    revert hM;revert hF
    refine slQ ?_
    refine cdQ (fun _ _ _=> ?_) (fun _ _ _=> ?_)
    ·intro hF hM
     replace hM:=au hM;obtain ⟨x15,hx16,hM⟩:=hM
     have hcx15:=ih (gt f_.L p11.1) (ao .i64 depth 1) (p11.2) (by (have h9:=cU (f:=f_) (aK (l:=f_.L) (i:=p11.1) (by omega));omega))
     rw [←hx16] at hcx15
     refine bL [0] hcx15 (by decide) (an hF) (an hF) (fun hw17=> ?_)
     replace hw17:=nzQ hw17
     revert hM;revert hF
     refine slQ ?_
     refine cdQ (fun _ _ _=> ?_) (fun _ _ _=> ?_)
     ·intro hF hM
      subst hM
      exact aU [0] (an hF) (by decide) (an hF)
     ·intro hF hM
      refine aP (n11 - 1) _ (by omega) sbQ sbQ ⟨((p11.1+1),x15.2),rfl,⟨omQ,omQ⟩,omQ,aN hM hag11⟩
    ·intro hF hM
     subst hM
     exact aU [0] (an hF) (by decide) (an hF)
  ·intro hF hM
   subst hM
   exact aU [0] (an hF) (by decide) (an hF)
 ·intro hF hM
  subst hM
  exact aU [0] (an hF) (by decide) (an hF)
set_option maxRecDepth 512 in
theorem Mr: ∀(N:Nat) (f_:aa) (depth:Int) (left:Int),ay f_<N→bp En 107 [.agg [.int .i64 f_.Kind,.sl none 1 false (f_.Relation.Y.map (V.int .i64)),.sl none 1 false (f_.Relation.Bases.map (fun (l:List Int)=>V.sl none 1 false (l.map (V.int .i64)))),.sl none 4 true (f_.L.map aw)],.int .i64 depth,.ptr 0 0,.fn 108 [.pp 1 false (.fn 101 [])]] [.var 1 false (.int .i64 left)] (.bool ((cb c7) f_ depth left).1) [.var 1 false (.int .i64 ((cb c7) f_ depth left).2)] []:=by
 intro N
 induction N with
 | zero=>intro f_ depth left h;exact absurd h (Nat.not_lt_zero _)
 | succ N ih=>
  intro f_ depth left h
  have h9:=Mq N ih f_ depth left h
  rw [K8] at h9
  exact h9
set_option maxRecDepth 512 in
theorem Ms (f_:aa) (depth:Int) (left:Int):bp En 107 [.agg [.int .i64 f_.Kind,.sl none 1 false (f_.Relation.Y.map (V.int .i64)),.sl none 1 false (f_.Relation.Bases.map (fun (l:List Int)=>V.sl none 1 false (l.map (V.int .i64)))),.sl none 4 true (f_.L.map aw)],.int .i64 depth,.ptr 0 0,.fn 108 [.pp 1 false (.fn 101 [])]] [.var 1 false (.int .i64 left)] (.bool ((cb c7) f_ depth left).1) [.var 1 false (.int .i64 ((cb c7) f_ depth left).2)] []:=
 Mr (ay f_+1) f_ depth left (Nat.lt_succ_self _)
instance Q7 (f_:aa):CM En (w4 f_) 57 [.agg [.int .i64 f_.Kind,.sl none 1 false (f_.Relation.Y.map (V.int .i64)),.sl none 1 false (f_.Relation.Bases.map (fun (l:List Int)=>V.sl none 1 false (l.map (V.int .i64)))),.sl none 4 true (f_.L.map aw)],.fn 101 []] (fun y=> .bool y) (fun _=> []):=by
 refine enQ [2] Tryz.func57 Tryz.ntmps57 (w4.eq_1 ..) fun r hw=> ?_
 intro hF hM
 refine kW ?_
 revert hM;revert hF
 refine slQ ?_
 intro hF hM
 refine j4 _ (⟨[(2,.ptr 0 0),(3,.pp 1 false (.fn 101 [])),(5,.ptr 2 0)],[(0,.var 4 true (.agg [.int .i64 f_.Kind,.sl none 1 false (f_.Relation.Y.map (V.int .i64)),.sl none 1 false (f_.Relation.Bases.map (fun (l:List Int)=>V.sl none 1 false (l.map (V.int .i64)))),.sl none 4 true (f_.L.map aw)])),(1,.pvar 1 false (.fn 101 [])),(2,.var 1 false (.int .i64 30))],3⟩:St) ((mi (S:=⟨_,_,_⟩) 1 (n:=1) (g:=false) (d:= .fn 101 []) clQ clQ).trans (oq (S:=⟨_,_,_⟩) 3 1 (n:=1) (g:=false) (d:= .fn 101 []) clQ clQ)) sbQ sbQ ?_
 revert hM;revert hF
 refine slQ ?_
 intro hF hM
 replace hM:=au hM;obtain ⟨x1,hx2,hM⟩:=hM
 have hcx1:=Ms f_ 1 30
 rw [←hx2] at hcx1
 refine bL [2] hcx1 (by decide) lsQ lsQ (fun hw3=> ?_)
 replace hw3:=nzQ hw3
 exact auP
instance Q8 (f_:aa):CM En (jn f_) 49 [.agg [.int .i64 f_.Kind,.sl none 1 false (f_.Relation.Y.map (V.int .i64)),.sl none 1 false (f_.Relation.Bases.map (fun (l:List Int)=>V.sl none 1 false (l.map (V.int .i64)))),.sl none 4 true (f_.L.map aw)]] (fun y=> .bool y) (fun _=> []):=by
 refine enQ noJ Tryz.func49 Tryz.ntmps49 (jn.eq_1 ..) fun r hw=> ?_
 exact auR
instance Q9 (s:(List UInt8)):CM En (w5 s) 16 [.str s] (fun y=> .tup [.agg [.int .i64 y.1.Kind,.sl none 1 false (y.1.Relation.Y.map (V.int .i64)),.sl none 1 false (y.1.Relation.Bases.map (fun (l:List Int)=>V.sl none 1 false (l.map (V.int .i64)))),.sl none 4 true (y.1.L.map aw)],.int .i64 y.2]) (fun _=> []):=by
 refine enQ noJ Tryz.func16 Tryz.ntmps16 (w5.eq_1 ..) fun r hw=> ?_
 refine aW fun _ _ _=> ?_
 intro hF hM
 replace hM:=au hM;obtain ⟨x4,hx5,hM⟩:=hM
 have hcx4:=Mp ({s:=s,bad:=false}:az) (by (exact pfQ))
 rw [←hx5] at hcx4
 refine bL [1] hcx4 (by decide) lsQ lsQ (fun hw6=> ?_)
 replace hw6:=nzQ hw6
 exact auP
theorem Mt (N:Nat) (ih: ∀(f_:aa),(okF f_)→ay f_<N→aI En 39 [.agg [.int .i64 f_.Kind,.sl none 1 false (f_.Relation.Y.map (V.int .i64)),.sl none 1 false (f_.Relation.Bases.map (fun (l:List Int)=>V.sl none 1 false (l.map (V.int .i64)))),.sl none 4 true (f_.L.map aw)]] (.int .i64 (bf f_)) []) (f_:aa) (hp0:okF f_) (hp_:ay f_<N+1):aI En 39 [.agg [.int .i64 f_.Kind,.sl none 1 false (f_.Relation.Y.map (V.int .i64)),.sl none 1 false (f_.Relation.Bases.map (fun (l:List Int)=>V.sl none 1 false (l.map (V.int .i64)))),.sl none 4 true (f_.L.map aw)]] (.int .i64 (pH f_)) []:=by
 generalize hM:pH f_=r
 rw [pH.eq_1] at hM
 refine ci bc bA noJ Tryz.func39 rfl Tryz.ntmps39 (by kernel_rfl) fun hw=>bz ?_
 refine spQ ?_
 replace hw:=nzQ hw
 have hA0:=fun a0=>xC hp0 a0
 have hF:=bT
 revert hM;revert hF
 refine aW fun _ _ _=> ?_
 intro hF hM
 replace hM:=aS hM;obtain ⟨f5,d5,hf5,hd5,hM⟩:=hM
 refine bk (fun n S=> ∃p:Int×Int,S=(⟨[(3,.int .i64 p.1),(16,.sl none 4 true (f_.L.map aw)),(17,.int .i64 (f_.L.length:Int)),(18,.int .i64 p.2)],[],1⟩:St)∧((0≤p.2)∧(p.2≤(f_.L.length:Int)))∧((f_.L.length:Int) - p.2).toNat<n∧ah n f5 d5 p=r) (((f_.L.length:Int) - 0).toNat+1) _ sbQ sbQ ⟨(0,0),rfl,⟨by exact omA,by exact omA⟩,(Nat.lt_succ_self _),hM⟩ ?_
 clear hM
 rintro n5 S ⟨p5,rfl,hfa5,hm5,hM⟩
 replace hM:=aT hM (by omega) hf5;obtain ⟨ag5,hag5,hM⟩:=hM
 replace hfa5:=nzQ hfa5
 replace hm5:=nzQ hm5
 have ha5:ao .i64 p5.2 1=p5.2+1:=bl (by exact omA) (by exact omA)
 replace hF:=(And.intro ha5 hF)
 revert hM;revert hF
 refine slQ ?_
 refine aE fun _ _ _=> ?_
 intro hF hM
 replace hM:=au hM;obtain ⟨x9,hx10,hM⟩:=hM
 have hcx9:=ih (gt f_.L p5.2) (by (exact lC hp0 (by assumption) (aK (by omega)))) (by (have h9:=cU (f:=f_) (aK (l:=f_.L) (i:=p5.2) (by omega));omega))
 rw [←hx10] at hcx9
 refine aV hcx9 (aD hF) (aD hF) (fun hw11=> ?_)
 replace hw11:=nzQ hw11
 exact auP
set_option maxRecDepth 512 in
theorem Mu: ∀(N:Nat) (f_:aa),(okF f_)→ay f_<N→aI En 39 [.agg [.int .i64 f_.Kind,.sl none 1 false (f_.Relation.Y.map (V.int .i64)),.sl none 1 false (f_.Relation.Bases.map (fun (l:List Int)=>V.sl none 1 false (l.map (V.int .i64)))),.sl none 4 true (f_.L.map aw)]] (.int .i64 (bf f_)) []:=by
 intro N
 induction N with
 | zero=>intro f_ h0 h;exact absurd h (Nat.not_lt_zero _)
 | succ N ih=>
  intro f_ h0 h
  have h9:=Mt N ih f_ h0 h
  rw [La] at h9
  exact h9
set_option maxRecDepth 512 in
theorem oz (f_:aa) (hp0:okF f_):aI En 39 [.agg [.int .i64 f_.Kind,.sl none 1 false (f_.Relation.Y.map (V.int .i64)),.sl none 1 false (f_.Relation.Bases.map (fun (l:List Int)=>V.sl none 1 false (l.map (V.int .i64)))),.sl none 4 true (f_.L.map aw)]] (.int .i64 (bf f_)) []:=
 Mu (ay f_+1) f_ hp0 (Nat.lt_succ_self _)
instance Q_ (f_:aa):CM En (w6 f_) 17 [.agg [.int .i64 f_.Kind,.sl none 1 false (f_.Relation.Y.map (V.int .i64)),.sl none 1 false (f_.Relation.Bases.map (fun (l:List Int)=>V.sl none 1 false (l.map (V.int .i64)))),.sl none 4 true (f_.L.map aw)]] (fun y=> .int .i64 y) (fun _=> []):=by
 refine enQ noJ Tryz.func17 Tryz.ntmps17 (w6.eq_1 ..) fun r hw=> ?_
 refine aQ fun _ _ _ _=> ?_
 refine aW fun _ _ _=> ?_
 intro hF hM
 replace hM:=au hM;obtain ⟨x8,hx9,hM⟩:=hM
 have hcx8:=oz f_ (by (have h9:=‹okT f_∧_›;exact h9.2.2))
 rw [←hx9] at hcx8
 refine aV hcx8 clQ clQ (fun hw10=> ?_)
 replace hw10:=nzQ hw10
 exact auP
instance Ra (x_:Int) (y:Int):CM En (lm x_ y) 183 [.int .u64 x_,.int .u64 y] (fun y=> .tup [.int .u64 y.1,.int .u64 y.2]) (fun _=> []):=by
 refine enQ noJ Tryz.func183 Tryz.ntmps183 (lm.eq_1 ..) fun r hw=> ?_
 exact auR
instance Rb (x_:Int):CM En (mA x_) 208 [.int .u64 x_] (fun y=> .int .i64 y) (fun _=> []):=by
 refine enQ noJ Tryz.func208 Tryz.ntmps208 (mA.eq_1 ..) fun r hw=> ?_
 exact auR
set_option maxRecDepth 512 in
instance (priority:=1003):DRD 6 135 7 [6,28,29,30,31,32,33] [] ([[],[],[0,1],[],[],[3,4],[0,1,2]]++[List.range 7]) []:=⟨trivial⟩
theorem DD (hi:Int) (lo:Int) (y:Int) (hp0:hi<y):CM En (nN hi lo y) 184 [.int .u64 hi,.int .u64 lo,.int .u64 y] (fun y=> .tup [.int .u64 y.1,.int .u64 y.2]) (fun _=> []):=by
 refine enQ [21,28] Tryz.func184 Tryz.ntmps184 (nN.eq_1 ..) fun r hw=> ?_
 refine cdQ (fun _ _ _=> ?_) (fun _ _ _=> ?_)
 ·intro hF hM
  exact False.elim omQ
 ·refine cdQ (fun _ _ _=> ?_) (fun _ _ _=> ?_)
  ·intro hF hM
   exact False.elim omQ
  ·refine aW fun _ _ _=> ?_
   refine aQ fun x10 hx11 _ _=> ?_
   have hq13:=Kk hx11 (by omega) (by omega)
   replace hq13:=nzQ hq13
   intro hF hM
   try refine bP (by (exact nz _)) ?_
   revert hM;revert hF
   refine slQ ?_
   intro hF hM
   try refine bP (by (exact nz _)) ?_
   revert hM;revert hF
   refine slQ ?_
   intro hF hM
   try refine bP (by (exact (oO .u64 _ _).1)) ?_
   revert hM;revert hF
   refine slQ ?_
   intro hF hM
   try refine bP (by (exact nz _)) ?_
   revert hM;revert hF
   refine slQ ?_
   intro hF hM
   replace hM:=jc hM;obtain ⟨j14,hj14,hM⟩:=hM
   refine i7 (fun S=> ∃p:Int,S=(⟨[(2,.int .u64 (aC .u64 y (al .u64 x10))),(8,.int .u64 (al .u64 x10)),(9,.int .u64 (aB .u64 (aC .u64 y (al .u64 x10)) 32)),(10,.int .u64 (bE .u64 (aC .u64 y (al .u64 x10)) 4294967295)),(11,.int .u64 (orI .u64 (aC .u64 hi (al .u64 x10)) (aB .u64 lo (ap .u64 64 (al .u64 x10))))),(13,.int .u64 (aB .u64 (aC .u64 lo (al .u64 x10)) 32)),(14,.int .u64 (bE .u64 (aC .u64 lo (al .u64 x10)) 4294967295)),(15,.int .u64 p)],[],0⟩:St)∧(True)∧j14 p=r) ?_ (fun hcut14=> ?_)
   ·clear hM
    rintro S ⟨p14,rfl,hfa14,hM⟩
    replace hM:=jd hM hj14
    revert hM;revert hF
    refine slQ ?_
    intro hF hM
    replace hM:=jc hM;obtain ⟨j15,hj15,hM⟩:=hM
    refine i7 (fun S=> ∃p:Int,S=(⟨[(2,.int .u64 (aC .u64 y (al .u64 x10))),(8,.int .u64 (al .u64 x10)),(14,.int .u64 (bE .u64 (aC .u64 lo (al .u64 x10)) 4294967295)),(15,.int .u64 p14),(17,.int .u64 (ap .u64 (ao .u64 (aX .u64 (orI .u64 (aC .u64 hi (al .u64 x10)) (aB .u64 lo (ap .u64 64 (al .u64 x10)))) 4294967296) (aB .u64 (aC .u64 lo (al .u64 x10)) 32)) (aX .u64 p14 (aC .u64 y (al .u64 x10))))),(18,.int .u64 p)],[],0⟩:St)∧(True)∧j15 p=r) ?_ (fun hcut15=> ?_)
    ·clear hM
     rintro S ⟨p15,rfl,hfa15,hM⟩
     replace hM:=jd hM hj15
     revert hM;revert hF
     refine slQ ?_
     intro hF hM
     try refine bP (by (exact nz _)) ?_
     exact auP
    ·revert hM;revert hF
     refine slQ ?_
     intro hF hM
     replace hM:=aS hM;obtain ⟨f16,d16,hf16,hd16,hM⟩:=hM
     refine bk (fun n S=> ∃p:Int×Int,S=(⟨[(2,.int .u64 (aC .u64 y (al .u64 x10))),(8,.int .u64 (al .u64 x10)),(9,.int .u64 (aB .u64 (aC .u64 y (al .u64 x10)) 32)),(10,.int .u64 (bE .u64 (aC .u64 y (al .u64 x10)) 4294967295)),(14,.int .u64 (bE .u64 (aC .u64 lo (al .u64 x10)) 4294967295)),(15,.int .u64 p14),(16,.int .u64 p.1),(17,.int .u64 (ap .u64 (ao .u64 (aX .u64 (orI .u64 (aC .u64 hi (al .u64 x10)) (aB .u64 lo (ap .u64 64 (al .u64 x10)))) 4294967296) (aB .u64 (aC .u64 lo (al .u64 x10)) 32)) (aX .u64 p14 (aC .u64 y (al .u64 x10))))),(18,.int .u64 p.2)],[],0⟩:St)∧((0≤p.1∧p.1≤4294967295))∧(4294967296 - p.1).toNat<n∧ah n f16 d16 p=r) ((4294967296 - (ap .u64 (ap .u64 (ao .u64 (aX .u64 (orI .u64 (aC .u64 hi (al .u64 x10)) (aB .u64 lo (ap .u64 64 (al .u64 x10)))) 4294967296) (aB .u64 (aC .u64 lo (al .u64 x10)) 32)) (aX .u64 p14 (aC .u64 y (al .u64 x10)))) (aX .u64 (cm .u64 (ap .u64 (ao .u64 (aX .u64 (orI .u64 (aC .u64 hi (al .u64 x10)) (aB .u64 lo (ap .u64 64 (al .u64 x10)))) 4294967296) (aB .u64 (aC .u64 lo (al .u64 x10)) 32)) (aX .u64 p14 (aC .u64 y (al .u64 x10)))) (aB .u64 (aC .u64 y (al .u64 x10)) 32)) (aB .u64 (aC .u64 y (al .u64 x10)) 32)))).toNat+1) _ sbQ sbQ ⟨((ap .u64 (ap .u64 (ao .u64 (aX .u64 (orI .u64 (aC .u64 hi (al .u64 x10)) (aB .u64 lo (ap .u64 64 (al .u64 x10)))) 4294967296) (aB .u64 (aC .u64 lo (al .u64 x10)) 32)) (aX .u64 p14 (aC .u64 y (al .u64 x10)))) (aX .u64 (cm .u64 (ap .u64 (ao .u64 (aX .u64 (orI .u64 (aC .u64 hi (al .u64 x10)) (aB .u64 lo (ap .u64 64 (al .u64 x10)))) 4294967296) (aB .u64 (aC .u64 lo (al .u64 x10)) 32)) (aX .u64 p14 (aC .u64 y (al .u64 x10)))) (aB .u64 (aC .u64 y (al .u64 x10)) 32)) (aB .u64 (aC .u64 y (al .u64 x10)) 32))),(cm .u64 (ap .u64 (ao .u64 (aX .u64 (orI .u64 (aC .u64 hi (al .u64 x10)) (aB .u64 lo (ap .u64 64 (al .u64 x10)))) 4294967296) (aB .u64 (aC .u64 lo (al .u64 x10)) 32)) (aX .u64 p14 (aC .u64 y (al .u64 x10)))) (aB .u64 (aC .u64 y (al .u64 x10)) 32))),rfl,by (exact BU (Kw _ _) (by omega) (by omega)),(Nat.lt_succ_self _),hM⟩ ?_
     clear hM
     rintro n16 S ⟨p16,rfl,hF24_0,hm16,hM⟩
     replace hM:=aT hM (by omega) hf16;obtain ⟨ag16,hag16,hM⟩:=hM
     replace hm16:=nzQ hm16
     revert hM;revert hF
     refine slQ ?_
     refine cdQ (fun _ _ _=> ?_) (fun _ _ _=> ?_)
     ·refine cdQ (fun _ _ _=> ?_) (fun _ _ _=> ?_)
      ·refine cdQ (fun _ _ _=> ?_) (fun _ _ _=> ?_)
       ·intro hF hM
        exact cW _ sbQ sbQ (hcut15 _ ⟨(ap .u64 p16.2 1),rfl,trivial,hM⟩)
       ·intro hF hM
        refine aP (n16 - 1) _ (by omega) sbQ sbQ ⟨((ao .u64 p16.1 (aB .u64 (aC .u64 y (al .u64 x10)) 32)),(ap .u64 p16.2 1)),rfl,by (have h9:=lz (a:=p16.1) (b:=(aB .u64 (aC .u64 y (al .u64 x10)) 32)) (by omega) (by omega) (by omega) (by omega);omega),by (have h9:=lz (a:=p16.1) (b:=(aB .u64 (aC .u64 y (al .u64 x10)) 32)) (by omega) (by omega) (by omega) (by omega);omega),aN hM hag16⟩
      ·intro hF hM
       exact cW _ sbQ sbQ (hcut15 _ ⟨p16.2,rfl,trivial,hM⟩)
     ·refine cdQ (fun _ _ _=> ?_) (fun _ _ _=> ?_)
      ·intro hF hM
       exact cW _ sbQ sbQ (hcut15 _ ⟨(ap .u64 p16.2 1),rfl,trivial,hM⟩)
      ·intro hF hM
       refine aP (n16 - 1) _ (by omega) sbQ sbQ ⟨((ao .u64 p16.1 (aB .u64 (aC .u64 y (al .u64 x10)) 32)),(ap .u64 p16.2 1)),rfl,by (have h9:=lz (a:=p16.1) (b:=(aB .u64 (aC .u64 y (al .u64 x10)) 32)) (by omega) (by omega) (by omega) (by omega);omega),by (have h9:=lz (a:=p16.1) (b:=(aB .u64 (aC .u64 y (al .u64 x10)) 32)) (by omega) (by omega) (by omega) (by omega);omega),aN hM hag16⟩
   ·revert hM;revert hF
    refine slQ ?_
    intro hF hM
    replace hM:=aS hM;obtain ⟨f29,d29,hf29,hd29,hM⟩:=hM
    refine bk (fun n S=> ∃p:Int×Int,S=(⟨[(2,.int .u64 (aC .u64 y (al .u64 x10))),(8,.int .u64 (al .u64 x10)),(9,.int .u64 (aB .u64 (aC .u64 y (al .u64 x10)) 32)),(10,.int .u64 (bE .u64 (aC .u64 y (al .u64 x10)) 4294967295)),(11,.int .u64 (orI .u64 (aC .u64 hi (al .u64 x10)) (aB .u64 lo (ap .u64 64 (al .u64 x10))))),(13,.int .u64 (aB .u64 (aC .u64 lo (al .u64 x10)) 32)),(14,.int .u64 (bE .u64 (aC .u64 lo (al .u64 x10)) 4294967295)),(15,.int .u64 p.1),(16,.int .u64 p.2)],[],0⟩:St)∧((0≤p.2∧p.2≤4294967295))∧(4294967296 - p.2).toNat<n∧ah n f29 d29 p=r) ((4294967296 - (ap .u64 (orI .u64 (aC .u64 hi (al .u64 x10)) (aB .u64 lo (ap .u64 64 (al .u64 x10)))) (aX .u64 (cm .u64 (orI .u64 (aC .u64 hi (al .u64 x10)) (aB .u64 lo (ap .u64 64 (al .u64 x10)))) (aB .u64 (aC .u64 y (al .u64 x10)) 32)) (aB .u64 (aC .u64 y (al .u64 x10)) 32)))).toNat+1) _ sbQ sbQ ⟨((cm .u64 (orI .u64 (aC .u64 hi (al .u64 x10)) (aB .u64 lo (ap .u64 64 (al .u64 x10)))) (aB .u64 (aC .u64 y (al .u64 x10)) 32)),(ap .u64 (orI .u64 (aC .u64 hi (al .u64 x10)) (aB .u64 lo (ap .u64 64 (al .u64 x10)))) (aX .u64 (cm .u64 (orI .u64 (aC .u64 hi (al .u64 x10)) (aB .u64 lo (ap .u64 64 (al .u64 x10)))) (aB .u64 (aC .u64 y (al .u64 x10)) 32)) (aB .u64 (aC .u64 y (al .u64 x10)) 32)))),rfl,by (exact BU (Kv _ _) (by omega) (by omega)),(Nat.lt_succ_self _),hM⟩ ?_
    clear hM
    rintro n29 S ⟨p29,rfl,hF17_0,hm29,hM⟩
    replace hM:=aT hM (by omega) hf29;obtain ⟨ag29,hag29,hM⟩:=hM
    replace hm29:=nzQ hm29
    revert hM;revert hF
    refine slQ ?_
    refine cdQ (fun _ _ _=> ?_) (fun _ _ _=> ?_)
    ·refine cdQ (fun _ _ _=> ?_) (fun _ _ _=> ?_)
     ·refine cdQ (fun _ _ _=> ?_) (fun _ _ _=> ?_)
      ·intro hF hM
       exact cW _ sbQ sbQ (hcut14 _ ⟨(ap .u64 p29.1 1),rfl,trivial,hM⟩)
      ·intro hF hM
       refine aP (n29 - 1) _ (by omega) sbQ sbQ ⟨((ap .u64 p29.1 1),(ao .u64 p29.2 (aB .u64 (aC .u64 y (al .u64 x10)) 32))),rfl,by (have h9:=lz (a:=p29.2) (b:=(aB .u64 (aC .u64 y (al .u64 x10)) 32)) (by omega) (by omega) (by omega) (by omega);omega),by (have h9:=lz (a:=p29.2) (b:=(aB .u64 (aC .u64 y (al .u64 x10)) 32)) (by omega) (by omega) (by omega) (by omega);omega),aN hM hag29⟩
     ·intro hF hM
      exact cW _ sbQ sbQ (hcut14 _ ⟨p29.1,rfl,trivial,hM⟩)
    ·refine cdQ (fun _ _ _=> ?_) (fun _ _ _=> ?_)
     ·intro hF hM
      exact cW _ sbQ sbQ (hcut14 _ ⟨(ap .u64 p29.1 1),rfl,trivial,hM⟩)
     ·intro hF hM
      refine aP (n29 - 1) _ (by omega) sbQ sbQ ⟨((ap .u64 p29.1 1),(ao .u64 p29.2 (aB .u64 (aC .u64 y (al .u64 x10)) 32))),rfl,by (have h9:=lz (a:=p29.2) (b:=(aB .u64 (aC .u64 y (al .u64 x10)) 32)) (by omega) (by omega) (by omega) (by omega);omega),by (have h9:=lz (a:=p29.2) (b:=(aB .u64 (aC .u64 y (al .u64 x10)) 32)) (by omega) (by omega) (by omega) (by omega);omega),aN hM hag29⟩
theorem tM (a_:Int) (b:Int) (n_:Int) (hp0:a_<n_):CM En (fQ a_ b n_) 181 [.int .u64 a_,.int .u64 b,.int .u64 n_] (fun y=> .int .u64 y) (fun _=> []):=by
 refine enQ noJ Tryz.func181 Tryz.ntmps181 (fQ.eq_1 ..) fun r hw=> ?_
 refine aQ fun x1 hx2 _ _=> ?_
 have hq4:=BT n_ hx2 (by omega) (by omega) (by omega) (by omega) (by omega)
 replace hq4:=nzQ hq4
 intro hF hM
 replace hM:=au hM;obtain ⟨x5,hx6,hM⟩:=hM
 have hcx5:=cmH hx6 (DD (x1.1) (x1.2) n_ (by (exact pfQ)))
 refine aV hcx5 clQ clQ (fun hw7=> ?_)
 replace hw7:=nzQ hw7
 exact auP
theorem Mv (a_:Int) (e_:Int) (n_:Int) (hp0:a_<n_) (hp1:1<n_):CM En (mB a_ e_ n_) 180 [.int .u64 a_,.int .u64 e_,.int .u64 n_] (fun y=> .int .u64 y) (fun _=> []):=by
 refine enQ noJ Tryz.func180 Tryz.ntmps180 (mB.eq_1 ..) fun r hw=> ?_
 intro hF hM
 replace hM:=aS hM;obtain ⟨f1,d1,hf1,hd1,hM⟩:=hM
 refine bk (fun n S=> ∃p:Int×Int×Int,S=(⟨[(0,.int .u64 p.1),(1,.int .u64 p.2.1),(2,.int .u64 n_),(7,.int .u64 p.2.2)],[],0⟩:St)∧((0≤p.1)∧(p.1<n_)∧(0≤p.2.1)∧(0≤p.2.2)∧(p.2.2<n_))∧p.2.1.toNat<n∧ah n f1 d1 p=r) (e_.toNat+1) _ sbQ sbQ ⟨(a_,e_,1),rfl,⟨omQ,omQ,omQ,omQ,omQ⟩,(Nat.lt_succ_self _),hM⟩ ?_
 clear hM
 rintro n1 S ⟨p1,rfl,hfa1,hm1,hM⟩
 replace hM:=aT hM (by omega) hf1;obtain ⟨ag1,hag1,hM⟩:=hM
 replace hfa1:=nzQ hfa1
 replace hm1:=nzQ hm1
 revert hM;revert hF
 refine slQ ?_
 refine aE fun _ _ _=> ?_
 refine cdQ (fun _ _ _=> ?_) (fun _ _ _=> ?_)
 ·intro hF hM
  replace hM:=au hM;obtain ⟨x6,hx7,hM⟩:=hM
  have hcx6:=cmH hx7 (tM (p1.2.2) (p1.1) n_ (by (exact pfQ)))
  refine aV hcx6 clQ clQ (fun hw8=> ?_)
  replace hw8:=nzQ hw8
  revert hM;revert hF
  refine slQ ?_
  have hq9:=mP hx7 (by omega) (by omega) (by omega) (by omega) (by omega)
  replace hq9:=nzQ hq9
  intro hF hM
  replace hM:=au hM;obtain ⟨x10,hx11,hM⟩:=hM
  have hcx10:=cmH hx11 (tM (p1.1) (p1.1) n_ (by (exact pfQ)))
  refine aV hcx10 clQ clQ (fun hw12=> ?_)
  replace hw12:=nzQ hw12
  revert hM;revert hF
  refine slQ ?_
  have hq13:=mP hx11 (by omega) (by omega) (by omega) (by omega) (by omega)
  replace hq13:=nzQ hq13
  intro hF hM
  refine aP (n1 - 1) _ (by omega) sbQ sbQ ⟨(x10,(aB .u64 p1.2.1 1),x6),rfl,⟨by (clear hM;(try dsimp only);(try rw [cR]);(try rw [cY]);omega),by (clear hM;(try dsimp only);(try rw [cR]);(try rw [cY]);omega),by (clear hM;(try dsimp only);(try rw [cR]);(try rw [cY]);omega),by (clear hM;(try dsimp only);(try rw [cR]);(try rw [cY]);omega),by (clear hM;(try dsimp only);(try rw [cR]);(try rw [cY]);omega)⟩,by (clear hM;(try dsimp only);(try rw [cR]);(try rw [cY]);omega),aN hM hag1⟩
 ·intro hF hM
  replace hM:=au hM;obtain ⟨x15,hx16,hM⟩:=hM
  have hcx15:=cmH hx16 (tM (p1.1) (p1.1) n_ (by (exact pfQ)))
  refine aV hcx15 clQ clQ (fun hw17=> ?_)
  replace hw17:=nzQ hw17
  revert hM;revert hF
  refine slQ ?_
  have hq18:=mP hx16 (by omega) (by omega) (by omega) (by omega) (by omega)
  replace hq18:=nzQ hq18
  intro hF hM
  refine aP (n1 - 1) _ (by omega) sbQ sbQ ⟨(x15,(aB .u64 p1.2.1 1),p1.2.2),rfl,⟨by (clear hM;(try dsimp only);(try rw [cR]);(try rw [cY]);omega),by (clear hM;(try dsimp only);(try rw [cR]);(try rw [cY]);omega),by (clear hM;(try dsimp only);(try rw [cR]);(try rw [cY]);omega),by (clear hM;(try dsimp only);(try rw [cR]);(try rw [cY]);omega),by (clear hM;(try dsimp only);(try rw [cR]);(try rw [cY]);omega)⟩,by (clear hM;(try dsimp only);(try rw [cR]);(try rw [cY]);omega),aN hM hag1⟩
theorem Mw (a_:Int) (n_:Int) (d_:Int) (s:Int) (hp0:a_<n_) (hp1:1<n_) (hp2:0≤s) (hp3:s≤64):CM En (pI a_ n_ d_ s) 150 [.int .u64 a_,.int .u64 n_,.int .u64 d_,.int .i64 s] (fun y=> .bool y) (fun _=> []):=by
 refine enQ noJ Tryz.func150 Tryz.ntmps150 (pI.eq_1 ..) fun r hw=> ?_
 have h0_0:=BV (x:=s) (by omega) (by omega)
 intro hF hM
 replace hM:=au hM;obtain ⟨x1,hx2,hM⟩:=hM
 have hcx1:=cmH hx2 (Mv a_ d_ n_ (by (exact pfQ)) (by (exact pfQ)))
 refine aV hcx1 clQ clQ (fun hw3=> ?_)
 replace hw3:=nzQ hw3
 revert hM;revert hF
 refine slQ ?_
 have hq4:=Kx hx2 (by omega) (by omega) (by omega) (by omega)
 replace hq4:=nzQ hq4
 refine aE fun _ _ _=> ?_
 refine aW fun _ _ _=> ?_
 intro hF hM
 replace hM:=aS hM;obtain ⟨f10,d10,hf10,hd10,hM⟩:=hM
 refine bk (fun n S=> ∃p:Int×Int,S=(⟨[(1,.int .u64 n_),(9,.int .u64 p.1),(23,.int .i64 (ap .i64 s 1)),(24,.int .i64 p.2)],[],0⟩:St)∧((0≤p.2)∧(p.2≤ap .i64 s 1∨p.2≤0)∧(0≤p.1)∧(p.1<n_))∧(ap .i64 s 1 - p.2).toNat<n∧ah n f10 d10 p=r) ((ap .i64 s 1 - 0).toNat+1) _ sbQ sbQ ⟨(x1,0),rfl,⟨omQ,omQ,omQ,omQ⟩,(Nat.lt_succ_self _),hM⟩ ?_
 clear hM
 rintro n10 S ⟨p10,rfl,hfa10,hm10,hM⟩
 replace hM:=aT hM (by omega) hf10;obtain ⟨ag10,hag10,hM⟩:=hM
 replace hfa10:=nzQ hfa10
 replace hm10:=nzQ hm10
 have ha10:ao .i64 p10.2 1=p10.2+1:=bl omQ omQ
 replace hF:=(And.intro ha10 hF)
 revert hM;revert hF
 refine slQ ?_
 refine aE fun _ _ _=> ?_
 intro hF hM
 replace hM:=au hM;obtain ⟨x13,hx14,hM⟩:=hM
 have hcx13:=cmH hx14 (tM (p10.1) (p10.1) n_ (by (exact pfQ)))
 refine aV hcx13 (aD hF) (aD hF) (fun hw15=> ?_)
 replace hw15:=nzQ hw15
 revert hM;revert hF
 refine slQ ?_
 have hq16:=mP hx14 (by omega) (by omega) (by omega) (by omega) (by omega)
 replace hq16:=nzQ hq16
 refine aW fun _ _ _=> ?_
 intro hF hM
 refine aP (n10 - 1) _ (by omega) sbQ sbQ ⟨(x13,(p10.2+1)),rfl,⟨omQ,omQ,omQ,omQ⟩,omQ,aN hM hag10⟩
instance Rc (n_:Int):CM En (ln n_) 105 [.int .i64 n_] (fun y=> .bool y) (fun _=> []):=by
 refine cmQ fun r hM=> ?_
 rw [ln.eq_1] at hM
 refine ci bc bA noJ Tryz.func105 rfl Tryz.ntmps105 (by kernel_rfl) fun hw=>bz ?_
 refine spQ ?_
 replace hw:=nzQ hw
 have h0_0:=Kz
 refine cn (fun h1=> ?_) (fun h1=> ?_)
 ·rw [if_pos h1] at hM
  refine aA h1 ?_
  subst hM
  exact fc (eC h1)
 ·rw [if_neg (b9 h1)] at hM
  refine aA h1 ?_
  have nh1:=nzQ h1
  try have hr3:=mpQ nh1
  replace hM:=aS hM;obtain ⟨f4,d4,hf4,hd4,hM⟩:=hM
  refine bk (fun n S=> ∃p:Int,S=(⟨[(3,.int .u64 (al .u64 n_)),(13,.agg (cF.map (V.int .u64))),(14,.int .i64 p)],[],0⟩:St)∧(((0≤p)∧(p≤12))∧(kt (al .u64 n_) p))∧((12:Int) - p).toNat<n∧ah n f4 d4 p=r) (((12:Int) - 0).toNat+1) _ sbQ sbQ ⟨0,rfl,⟨⟨by (first|exact omQ|(clear hM;first|(have hk:=cS (j:=p4) (by omega) (by omega);exact ax))),by (first|exact omQ|(clear hM;first|(have hk:=cS (j:=p4) (by omega) (by omega);exact ax)))⟩,by (exact xo)⟩,(Nat.lt_succ_self _),hM⟩ ?_
  clear hM
  rintro n4 S ⟨p4,rfl,⟨hfa4,hF5_0⟩,hm4,hM⟩
  replace hM:=aT hM (by omega) hf4;obtain ⟨ag4,hag4,hM⟩:=hM
  replace hfa4:=nzQ hfa4
  replace hm4:=nzQ hm4
  have ha4:ao .i64 p4 1=p4+1:=bl (by (first|exact omQ|(clear hM;first|(have hk:=cS (j:=p4) (by omega) (by omega);exact ax)))) (by (first|exact omQ|(clear hM;first|(have hk:=cS (j:=p4) (by omega) (by omega);exact ax))))
  refine aA ha4 ?_
  refine cn (fun h5=> ?_) (fun h5=> ?_)
  ·rw [if_pos h5] at hM
   refine aA (And.intro ha4 h5) ?_
   have nh5:=nzQ h5
   try have hr6:=mpQ nh5
   have he7:=pA (f:=V.int .u64) (l:=cF) (n:=12) (i:=p4) rfl (by (first|exact omQ|(clear hM;first|(have hk:=cS (j:=p4) (by omega) (by omega);exact ax))))
   replace he7:=spR he7
   refine aA (And.intro ha4 he7) ?_
   refine bP (by (first|exact omQ|(clear hM;first|(have hk:=cS (j:=p4) (by omega) (by omega);exact ax)))) ?_
   refine aA (And.intro ha4 he7) ?_
   refine bP (by (first|exact omQ|(clear hM;first|(have hk:=cS (j:=p4) (by omega) (by omega);exact ax)))) ?_
   refine aA (And.intro ha4 he7) ?_
   refine cn (fun h8=> ?_) (fun h8=> ?_)
   ·rw [if_pos h8] at hM
    refine aA (And.intro ha4 (And.intro he7 h8)) ?_
    subst hM
    exact fc (eC (And.intro ha4 (And.intro he7 (And.intro h1 (And.intro h5 h8)))))
   ·rw [if_neg (b9 h8)] at hM
    refine aA (And.intro ha4 (And.intro he7 h8)) ?_
    have nh8:=nzQ h8
    try have hr10:=mpQ nh8
    refine aP (n4 - 1) _ (by omega) sbQ sbQ ⟨(p4+1),rfl,⟨⟨by (first|exact omQ|(clear hM;first|(have hk:=cS (j:=(p4+1)) (by omega) (by omega);exact ax))),by (first|exact omQ|(clear hM;first|(have hk:=cS (j:=(p4+1)) (by omega) (by omega);exact ax)))⟩,by (clear hM;exact xp hF5_0 (nz _) (by omega) (by omega) (by assumption))⟩,by (first|exact omQ|(clear hM;first|(have hk:=cS (j:=(p4+1)) (by omega) (by omega);exact ax))),aN hM hag4⟩
  ·rw [if_neg (b9 h5)] at hM
   refine aA (And.intro ha4 h5) ?_
   have nh5:=nzQ h5
   try have hr11:=mpQ nh5
   replace hM:=au hM;obtain ⟨x12,hx13,hM⟩:=hM
   have hcx12:=cmU hx13
   refine aV hcx12 (aD ha4) (aD ha4) (fun hw14=> ?_)
   replace hw14:=nzQ hw14
   refine aA ha4 ?_
   have hq15:=KD hx13
   replace hq15:=nzQ hq15
   replace hM:=aS hM;obtain ⟨f16,d16,hf16,hd16,hM⟩:=hM
   refine bk (fun n S=> ∃p:Int,S=(⟨[(3,.int .u64 (al .u64 n_)),(6,.int .i64 x12),(28,.agg (cF.map (V.int .u64))),(29,.int .i64 p)],[],0⟩:St)∧(((0≤p)∧(p≤12))∧(37<al .u64 n_))∧((12:Int) - p).toNat<n∧ah n f16 d16 p=r) (((12:Int) - 0).toNat+1) _ sbQ sbQ ⟨0,rfl,⟨⟨by (first|exact omQ|(clear hM;first|(have hk:=cS (j:=p16) (by omega) (by omega);exact ax))),by (first|exact omQ|(clear hM;first|(have hk:=cS (j:=p16) (by omega) (by omega);exact ax)))⟩,by (clear hM;exact xq hF5_0 (by omega) (by rw [qm (by omega) (by omega)];omega))⟩,(Nat.lt_succ_self _),hM⟩ ?_
   clear hM
   rintro n16 S ⟨p16,rfl,⟨hfa16,hF12_0⟩,hm16,hM⟩
   replace hM:=aT hM (by omega) hf16;obtain ⟨ag16,hag16,hM⟩:=hM
   replace hfa16:=nzQ hfa16
   replace hm16:=nzQ hm16
   have ha16:ao .i64 p16 1=p16+1:=bl (by (first|exact omQ|(clear hM;first|(have hk:=cS (j:=p16) (by omega) (by omega);exact ax)))) (by (first|exact omQ|(clear hM;first|(have hk:=cS (j:=p16) (by omega) (by omega);exact ax))))
   refine aA (And.intro ha4 ha16) ?_
   refine cn (fun h17=> ?_) (fun h17=> ?_)
   ·rw [if_pos h17] at hM
    refine aA (And.intro ha4 (And.intro ha16 h17)) ?_
    have nh17:=nzQ h17
    try have hr18:=mpQ nh17
    have he19:=pA (f:=V.int .u64) (l:=cF) (n:=12) (i:=p16) rfl (by (first|exact omQ|(clear hM;first|(have hk:=cS (j:=p16) (by omega) (by omega);exact ax))))
    replace he19:=spR he19
    refine aA (And.intro ha4 (And.intro ha16 he19)) ?_
    refine bP (by (first|exact omQ|(clear hM;first|(have hk:=cS (j:=p16) (by omega) (by omega);exact ax)))) ?_
    refine aA (And.intro ha4 (And.intro ha16 he19)) ?_
    refine bP (by (first|exact omQ|(clear hM;first|(have hk:=cS (j:=p16) (by omega) (by omega);exact ax)))) ?_
    refine aA (And.intro ha4 (And.intro ha16 he19)) ?_
    replace hM:=au hM;obtain ⟨x20,hx21,hM⟩:=hM
    have hcx20:=cmH hx21 (Mw (gt cF p16) (al .u64 n_) (aB .u64 (ap .u64 (al .u64 n_) 1) x12) x12 (by (first|omega|(have hk:=cS (j:=p16) (by omega) (by omega);omega))) (by (first|omega|(have hk:=cS (j:=p16) (by omega) (by omega);omega))) (by (first|omega|(have hk:=cS (j:=p16) (by omega) (by omega);omega))) (by (first|omega|(have hk:=cS (j:=p16) (by omega) (by omega);omega))))
    refine aV hcx20 (aD (And.intro ha4 (And.intro ha16 he19))) (aD (And.intro ha4 (And.intro ha16 he19))) (fun hw22=> ?_)
    replace hw22:=nzQ hw22
    refine aA (And.intro ha4 (And.intro ha16 he19)) ?_
    refine cn (fun h23=> ?_) (fun h23=> ?_)
    ·subst h23
     rw [if_pos rfl] at hM
     refine aA (And.intro ha4 (And.intro ha16 he19)) ?_
     subst hM
     exact fc (eC (And.intro ha4 (And.intro ha16 (And.intro he19 (And.intro h1 (And.intro h5 h17))))))
    ·subst h23
     rw [if_neg (by decide)] at hM
     refine aA (And.intro ha4 (And.intro ha16 he19)) ?_
     refine aP (n16 - 1) _ (by omega) sbQ sbQ ⟨(p16+1),rfl,⟨⟨by (first|exact omQ|(clear hM;first|(have hk:=cS (j:=(p16+1)) (by omega) (by omega);exact ax))),by (first|exact omQ|(clear hM;first|(have hk:=cS (j:=(p16+1)) (by omega) (by omega);exact ax)))⟩,by (clear hM;exact hF12_0)⟩,by (first|exact omQ|(clear hM;first|(have hk:=cS (j:=(p16+1)) (by omega) (by omega);exact ax))),aN hM hag16⟩
   ·rw [if_neg (b9 h17)] at hM
    refine aA (And.intro ha4 (And.intro ha16 h17)) ?_
    subst hM
    exact fc (eC (And.intro ha4 (And.intro ha16 (And.intro h1 (And.intro h5 h17)))))
instance Rd (a_:Int) (m:Int):CM En (mC a_ m) 182 [.int .i64 a_,.int .i64 m] (fun y=> .bool y) (fun _=> []):=by
 refine enQ noJ Tryz.func182 Tryz.ntmps182 (mC.eq_1 ..) fun r hw=> ?_
 exact auR
instance Re (a_:Int) (b:Int) (m:Int):CM En (iz a_ b m) 151 [.int .i64 a_,.int .i64 b,.int .i64 m] (fun y=> .int .i64 y) (fun _=> []):=by
 refine enQ noJ Tryz.func151 Tryz.ntmps151 (iz.eq_1 ..) fun r hw=> ?_
 exact auR
theorem tN (a_:Int) (b:Int) (m:Int) (hp0:0≤a_) (hp1:a_<m) (hp2:0≤b):CM En (jo a_ b m) 152 [.int .i64 a_,.int .i64 b,.int .i64 m] (fun y=> .int .i64 y) (fun _=> []):=by
 refine enQ noJ Tryz.func152 Tryz.ntmps152 (jo.eq_1 ..) fun r hw=> ?_
 have h0_0:=qm (x:=a_) (by omega) (by omega)
 have h0_1:=qm (x:=b) (by omega) (by omega)
 have h0_2:=qm (x:=m) (by omega) (by omega)
 refine aQ fun x1 hx2 _ _=> ?_
 have hq4:=BT (al .u64 m) hx2 (by omega) (by omega) (by omega) (by omega) (by omega)
 replace hq4:=nzQ hq4
 intro hF hM
 replace hM:=au hM;obtain ⟨x5,hx6,hM⟩:=hM
 have hcx5:=cmH hx6 (DD (x1.1) (x1.2) (al .u64 m) (by (exact pfQ)))
 refine aV hcx5 clQ clQ (fun hw7=> ?_)
 replace hw7:=nzQ hw7
 exact auP
instance Rf (a_:Int) (e_:Int) (m:Int):CM En (km a_ e_ m) 106 [.int .i64 a_,.int .i64 e_,.int .i64 m] (fun y=> .tup [.int .i64 y.1,.int .i64 y.2]) (fun _=> []):=by
 refine enQ noJ Tryz.func106 Tryz.ntmps106 (km.eq_1 ..) fun r hw=> ?_
 have hA0:=fun a0=>tj (m:=m) a0
 refine aQ fun _ _ _ _=> ?_
 refine aW fun _ _ _=> ?_
 refine aW fun _ _ _=> ?_
 intro hF hM
 replace hM:=aS hM;obtain ⟨f11,d11,hf11,hd11,hM⟩:=hM
 refine bk (fun n S=> ∃p:Int×Int×Int,S=(⟨[(0,.int .i64 p.1),(1,.int .i64 p.2.1),(2,.int .i64 m),(9,.int .i64 p.2.2)],[],0⟩:St)∧((0≤p.1)∧(p.1<m)∧(0≤p.2.1)∧(0≤p.2.2)∧(p.2.2<m))∧p.2.1.toNat<n∧ah n f11 d11 p=r) (e_.toNat+1) _ sbQ sbQ ⟨(a_,e_,(aO .i64 1 m)),rfl,⟨by exact omA,by exact omA,by exact omA,by exact omA,by exact omA⟩,(Nat.lt_succ_self _),hM⟩ ?_
 clear hM
 rintro n11 S ⟨p11,rfl,hfa11,hm11,hM⟩
 replace hM:=aT hM (by omega) hf11;obtain ⟨ag11,hag11,hM⟩:=hM
 replace hfa11:=nzQ hfa11
 replace hm11:=nzQ hm11
 revert hM;revert hF
 refine slQ ?_
 refine aE fun _ _ _=> ?_
 refine cdQ (fun _ _ _=> ?_) (fun _ _ _=> ?_)
 ·intro hF hM
  replace hM:=au hM;obtain ⟨x16,hx17,hM⟩:=hM
  have hcx16:=cmH hx17 (tN (p11.2.2) (p11.1) m (by (exact pfQ)) (by (exact pfQ)) (by (exact pfQ)))
  refine aV hcx16 clQ clQ (fun hw18=> ?_)
  replace hw18:=nzQ hw18
  revert hM;revert hF
  refine slQ ?_
  have hq19:=xt hx17 (by omega) (by omega) (by omega) (by omega) (by omega)
  replace hq19:=nzQ hq19
  intro hF hM
  replace hM:=au hM;obtain ⟨x20,hx21,hM⟩:=hM
  have hcx20:=cmH hx21 (tN (p11.1) (p11.1) m (by (exact pfQ)) (by (exact pfQ)) (by (exact pfQ)))
  refine aV hcx20 clQ clQ (fun hw22=> ?_)
  replace hw22:=nzQ hw22
  revert hM;revert hF
  refine slQ ?_
  have hq23:=xt hx21 (by omega) (by omega) (by omega) (by omega) (by omega)
  replace hq23:=nzQ hq23
  intro hF hM
  refine aP (n11 - 1) _ (by omega) sbQ sbQ ⟨(x20,(aB .i64 p11.2.1 1),x16),rfl,⟨by (clear hM;(try dsimp only);(try rw [cR]);(try rw [cY]);omega),by (clear hM;(try dsimp only);(try rw [cR]);(try rw [cY]);omega),by (clear hM;(try dsimp only);(try rw [cR]);(try rw [cY]);omega),by (clear hM;(try dsimp only);(try rw [cR]);(try rw [cY]);omega),by (clear hM;(try dsimp only);(try rw [cR]);(try rw [cY]);omega)⟩,by (clear hM;(try dsimp only);(try rw [cR]);(try rw [cY]);omega),aN hM hag11⟩
 ·intro hF hM
  replace hM:=au hM;obtain ⟨x25,hx26,hM⟩:=hM
  have hcx25:=cmH hx26 (tN (p11.1) (p11.1) m (by (exact pfQ)) (by (exact pfQ)) (by (exact pfQ)))
  refine aV hcx25 clQ clQ (fun hw27=> ?_)
  replace hw27:=nzQ hw27
  revert hM;revert hF
  refine slQ ?_
  have hq28:=xt hx26 (by omega) (by omega) (by omega) (by omega) (by omega)
  replace hq28:=nzQ hq28
  intro hF hM
  refine aP (n11 - 1) _ (by omega) sbQ sbQ ⟨(x25,(aB .i64 p11.2.1 1),p11.2.2),rfl,⟨by (clear hM;(try dsimp only);(try rw [cR]);(try rw [cY]);omega),by (clear hM;(try dsimp only);(try rw [cR]);(try rw [cY]);omega),by (clear hM;(try dsimp only);(try rw [cR]);(try rw [cY]);omega),by (clear hM;(try dsimp only);(try rw [cR]);(try rw [cY]);omega),by (clear hM;(try dsimp only);(try rw [cR]);(try rw [cY]);omega)⟩,by (clear hM;(try dsimp only);(try rw [cR]);(try rw [cY]);omega),aN hM hag11⟩
instance Rg (g:ak):CM En (gg g) 56 [.agg [.int .i64 g.P,.int .i64 g.Q,.int .i64 g.G]] (fun y=> .bool y) (fun _=> []):=by
 refine enQ noJ Tryz.func56 Tryz.ntmps56 (gg.eq_1 ..) fun r hw=> ?_
 exact auR
instance Rh (g:ak) (x_:Int):CM En (pJ g x_) 154 [.agg [.int .i64 g.P,.int .i64 g.Q,.int .i64 g.G],.int .i64 x_] (fun y=> .bool y) (fun _=> []):=by
 refine enQ noJ Tryz.func154 Tryz.ntmps154 (pJ.eq_1 ..) fun r hw=> ?_
 exact auR
instance Ri (x_:Int) (c0:ak):CM En (nO x_ c0) 153 [.int .i64 x_,.pp 3 true (.agg [.int .i64 c0.P,.int .i64 c0.Q,.int .i64 c0.G])] (fun y=> .bool y) (fun _=> []):=by
 refine enQ noJ Tryz.func153 Tryz.ntmps153 (nO.eq_1 ..) fun r hw=> ?_
 exact auR
instance Rj (s:(List Int)) (f__c0:ak):CM En (w7 s f__c0) 141 [.sl none 1 false (s.map (V.int .i64)),.fn 153 [.pp 3 true (.agg [.int .i64 f__c0.P,.int .i64 f__c0.Q,.int .i64 f__c0.G])]] (fun y=> .int .i64 y) (fun _=> []):=by
 refine enQ noJ Tryz.func141 Tryz.ntmps141 (w7.eq_1 ..) fun r hw=> ?_
 intro hF hM
 replace hM:=aS hM;obtain ⟨f1,d1,hf1,hd1,hM⟩:=hM
 refine bk (fun n S=> ∃p:Int,S=(⟨[(0,.sl none 1 false (s.map (V.int .i64))),(1,.fn 153 [.pp 3 true (.agg [.int .i64 f__c0.P,.int .i64 f__c0.Q,.int .i64 f__c0.G])]),(7,.int .i64 (s.length:Int)),(8,.int .i64 p)],[],0⟩:St)∧((0≤p)∧(p≤(s.length:Int)))∧((s.length:Int) - p).toNat<n∧ah n f1 d1 p=r) (((s.length:Int) - 0).toNat+1) _ sbQ sbQ ⟨0,rfl,⟨omQ,omQ⟩,(Nat.lt_succ_self _),hM⟩ ?_
 clear hM
 rintro n1 S ⟨p1,rfl,hfa1,hm1,hM⟩
 replace hM:=aT hM (by omega) hf1;obtain ⟨ag1,hag1,hM⟩:=hM
 replace hfa1:=nzQ hfa1
 replace hm1:=nzQ hm1
 have ha1:ao .i64 p1 1=p1+1:=bl omQ omQ
 replace hF:=(And.intro ha1 hF)
 revert hM;revert hF
 refine slQ ?_
 refine aE fun _ _ _=> ?_
 refine aQ fun _ _ _ _=> ?_
 refine aW fun _ _ _=> ?_
 intro hF hM
 refine aP (n1 - 1) _ (by omega) sbQ sbQ ⟨(p1+1),rfl,⟨omQ,omQ⟩,omQ,aN hM hag1⟩
instance Rk (s:(List Int)) (f__c0:ak):CM En (sS s f__c0) 86 [.sl none 1 false (s.map (V.int .i64)),.fn 153 [.pp 3 true (.agg [.int .i64 f__c0.P,.int .i64 f__c0.Q,.int .i64 f__c0.G])]] (fun y=> .bool y) (fun _=> []):=by
 refine enQ noJ Tryz.func86 Tryz.ntmps86 (sS.eq_1 ..) fun r hw=> ?_
 exact auR
instance Rl (g:ak) (l:(List Int)):CM En (nP g l) 109 [.agg [.int .i64 g.P,.int .i64 g.Q,.int .i64 g.G],.sl none 1 false (l.map (V.int .i64))] (fun y=> .bool y) (fun _=> []):=by
 refine enQ noJ Tryz.func109 Tryz.ntmps109 (nP.eq_1 ..) fun r hw=> ?_
 exact auR
instance Rm (row:(List Int)) (c0:Int) (c1:ak):CM En (kn row c0 c1) 110 [.sl none 1 false (row.map (V.int .i64)),.pp 1 false (.int .i64 c0),.pp 3 true (.agg [.int .i64 c1.P,.int .i64 c1.Q,.int .i64 c1.G])] (fun y=> .bool y) (fun _=> []):=by
 refine enQ noJ Tryz.func110 Tryz.ntmps110 (kn.eq_1 ..) fun r hw=> ?_
 exact auR
instance Rn (s:(List (List Int))) (f__c0:Int) (f__c1:ak):CM En (nQ s f__c0 f__c1) 104 [.sl none 1 false (s.map (fun (l:List Int)=>V.sl none 1 false (l.map (V.int .i64)))),.fn 110 [.pp 1 false (.int .i64 f__c0),.pp 3 true (.agg [.int .i64 f__c1.P,.int .i64 f__c1.Q,.int .i64 f__c1.G])]] (fun y=> .int .i64 y) (fun _=> []):=by
 refine enQ noJ Tryz.func104 Tryz.ntmps104 (nQ.eq_1 ..) fun r hw=> ?_
 intro hF hM
 replace hM:=aS hM;obtain ⟨f1,d1,hf1,hd1,hM⟩:=hM
 refine bk (fun n S=> ∃p:Int,S=(⟨[(0,.sl none 1 false (s.map (fun (l:List Int)=>V.sl none 1 false (l.map (V.int .i64))))),(1,.fn 110 [.pp 1 false (.int .i64 f__c0),.pp 3 true (.agg [.int .i64 f__c1.P,.int .i64 f__c1.Q,.int .i64 f__c1.G])]),(7,.int .i64 (s.length:Int)),(8,.int .i64 p)],[],0⟩:St)∧((0≤p)∧(p≤(s.length:Int)))∧((s.length:Int) - p).toNat<n∧ah n f1 d1 p=r) (((s.length:Int) - 0).toNat+1) _ sbQ sbQ ⟨0,rfl,⟨omQ,omQ⟩,(Nat.lt_succ_self _),hM⟩ ?_
 clear hM
 rintro n1 S ⟨p1,rfl,hfa1,hm1,hM⟩
 replace hM:=aT hM (by omega) hf1;obtain ⟨ag1,hag1,hM⟩:=hM
 replace hfa1:=nzQ hfa1
 replace hm1:=nzQ hm1
 have ha1:ao .i64 p1 1=p1+1:=bl omQ omQ
 replace hF:=(And.intro ha1 hF)
 revert hM;revert hF
 refine slQ ?_
 refine aE fun _ _ _=> ?_
 refine aQ fun _ _ _ _=> ?_
 refine aW fun _ _ _=> ?_
 intro hF hM
 refine aP (n1 - 1) _ (by omega) sbQ sbQ ⟨(p1+1),rfl,⟨omQ,omQ⟩,omQ,aN hM hag1⟩
instance Rp (s:(List (List Int))) (f__c0:Int) (f__c1:ak):CM En (mD s f__c0 f__c1) 50 [.sl none 1 false (s.map (fun (l:List Int)=>V.sl none 1 false (l.map (V.int .i64)))),.fn 110 [.pp 1 false (.int .i64 f__c0),.pp 3 true (.agg [.int .i64 f__c1.P,.int .i64 f__c1.Q,.int .i64 f__c1.G])]] (fun y=> .bool y) (fun _=> []):=by
 refine enQ noJ Tryz.func50 Tryz.ntmps50 (mD.eq_1 ..) fun r hw=> ?_
 exact auR
instance Rq (g:ak) (r_:aF):CM En (bU g r_) 59 [.agg [.int .i64 g.P,.int .i64 g.Q,.int .i64 g.G],.agg [.sl none 1 false (r_.Y.map (V.int .i64)),.sl none 1 false (r_.Bases.map (fun (l:List Int)=>V.sl none 1 false (l.map (V.int .i64))))]] (fun y=> .bool y) (fun _=> []):=by
 refine enQ noJ Tryz.func59 Tryz.ntmps59 (bU.eq_1 ..) fun r hw=> ?_
 exact auR
instance Rr (r_:aF) (c0:ak):CM En (w8 r_ c0) 58 [.agg [.sl none 1 false (r_.Y.map (V.int .i64)),.sl none 1 false (r_.Bases.map (fun (l:List Int)=>V.sl none 1 false (l.map (V.int .i64))))],.pp 3 true (.agg [.int .i64 c0.P,.int .i64 c0.Q,.int .i64 c0.G])] (fun y=> .bool y) (fun _=> []):=by
 refine enQ noJ Tryz.func58 Tryz.ntmps58 (w8.eq_1 ..) fun r hw=> ?_
 exact auR
instance Rs (f_:aa) (c0_c0:ak):CM En (dh f_ c0_c0) 108 [.agg [.int .i64 f_.Kind,.sl none 1 false (f_.Relation.Y.map (V.int .i64)),.sl none 1 false (f_.Relation.Bases.map (fun (l:List Int)=>V.sl none 1 false (l.map (V.int .i64)))),.sl none 4 true (f_.L.map aw)],.pp 1 false (.fn 58 [.pp 3 true (.agg [.int .i64 c0_c0.P,.int .i64 c0_c0.Q,.int .i64 c0_c0.G])])] (fun y=> .bool y) (fun _=> []):=by
 refine enQ [6] Tryz.func108 Tryz.ntmps108 (dh.eq_1 ..) fun r hw=> ?_
 refine aW fun _ _ _=> ?_
 intro hF hM
 replace hM:=jc hM;obtain ⟨j10,hj10,hM⟩:=hM
 refine i7 (fun S=> ∃p:Bool,S=(⟨[(2,.ptr 0 0),(18,.bool p)],[(0,.var 4 true (.agg [.int .i64 f_.Kind,.sl none 1 false (f_.Relation.Y.map (V.int .i64)),.sl none 1 false (f_.Relation.Bases.map (fun (l:List Int)=>V.sl none 1 false (l.map (V.int .i64)))),.sl none 4 true (f_.L.map aw)]))],1⟩:St)∧(True)∧j10 p=r) ?_ (fun hcut10=> ?_)
 ·clear hM
  rintro S ⟨p10,rfl,hfa10,hM⟩
  replace hM:=jd hM hj10
  exact auP
 ·revert hM;revert hF
  refine slQ ?_
  refine cdQ (fun _ _ _=> ?_) (fun _ _ _=> ?_)
  ·intro hF hM
   exact cW _ sbQ sbQ (hcut10 _ ⟨true,rfl,trivial,hM⟩)
  ·intro hF hM
   exact cW _ sbQ sbQ (hcut10 _ ⟨(f_.Kind==3),rfl,trivial,hM⟩)
theorem Mx (N:Nat) (ih: ∀(f_:aa) (depth:Int) (left:Int) (good_c0_c0:ak),ay f_<N→bp En 107 [.agg [.int .i64 f_.Kind,.sl none 1 false (f_.Relation.Y.map (V.int .i64)),.sl none 1 false (f_.Relation.Bases.map (fun (l:List Int)=>V.sl none 1 false (l.map (V.int .i64)))),.sl none 4 true (f_.L.map aw)],.int .i64 depth,.ptr 0 0,.fn 108 [.pp 1 false (.fn 58 [.pp 3 true (.agg [.int .i64 good_c0_c0.P,.int .i64 good_c0_c0.Q,.int .i64 good_c0_c0.G])])]] [.var 1 false (.int .i64 left)] (.bool ((jj dh) f_ depth left good_c0_c0).1) [.var 1 false (.int .i64 ((jj dh) f_ depth left good_c0_c0).2)] []) (f_:aa) (depth:Int) (left:Int) (good_c0_c0:ak) (hp_:ay f_<N+1):bp En 107 [.agg [.int .i64 f_.Kind,.sl none 1 false (f_.Relation.Y.map (V.int .i64)),.sl none 1 false (f_.Relation.Bases.map (fun (l:List Int)=>V.sl none 1 false (l.map (V.int .i64)))),.sl none 4 true (f_.L.map aw)],.int .i64 depth,.ptr 0 0,.fn 108 [.pp 1 false (.fn 58 [.pp 3 true (.agg [.int .i64 good_c0_c0.P,.int .i64 good_c0_c0.Q,.int .i64 good_c0_c0.G])])]] [.var 1 false (.int .i64 left)] (.bool (nR f_ depth left good_c0_c0).1) [.var 1 false (.int .i64 (nR f_ depth left good_c0_c0).2)] []:=by
 generalize hM:nR f_ depth left good_c0_c0=r
 rw [nR.eq_1] at hM
 refine cE bc bA noJ Tryz.func107 rfl Tryz.ntmps107 (by kernel_rfl) rfl fun ks hw hwB=>bz ?_
 refine spQ ?_
 replace hw:=nzQ hw
 replace hwB:=nzB hwB
 have hF:=bT
 revert hM;revert hF
 refine cdQ (fun _ _ _=> ?_) (fun _ _ _=> ?_)
 ·refine cdQ (fun _ _ _=> ?_) (fun _ _ _=> ?_)
  ·refine aQ fun _ _ _ _=> ?_
   refine cdQ (fun _ _ _=> ?_) (fun _ _ _=> ?_)
   ·intro hF hM
    subst hM
    exact aU [0] (an hF) (by decide) (an hF)
   ·intro hF hM
    replace hM:=aS hM;obtain ⟨f11,d11,hf11,hd11,hM⟩:=hM
    refine bk (fun n S=> ∃p:Int×Int,S=(⟨[(1,.int .i64 depth),(2,.ptr 0 0),(3,.fn 108 [.pp 1 false (.fn 58 [.pp 3 true (.agg [.int .i64 good_c0_c0.P,.int .i64 good_c0_c0.Q,.int .i64 good_c0_c0.G])])]),(31,.sl none 4 true (f_.L.map aw)),(32,.int .i64 (f_.L.length:Int)),(33,.int .i64 p.1)],[(0,.lent (ks 0) 1 false (.int .i64 p.2))],2⟩:St)∧((0≤p.1)∧(p.1≤(f_.L.length:Int)))∧((f_.L.length:Int) - p.1).toNat<n∧ah n f11 d11 p=r) (((f_.L.length:Int) - 0).toNat+1) _ sbQ sbQ ⟨(0,(ap .i64 left 1)),rfl,⟨omQ,omQ⟩,(Nat.lt_succ_self _),hM⟩ ?_
    clear hM
    rintro n11 S ⟨p11,rfl,hfa11,hm11,hM⟩
    replace hM:=aT hM (by omega) hf11;obtain ⟨ag11,hag11,hM⟩:=hM
    replace hfa11:=nzQ hfa11
    replace hm11:=nzQ hm11
    have ha11:ao .i64 p11.1 1=p11.1+1:=bl omQ omQ
    replace hF:=(And.intro ha11 hF)
    revert hM;revert hF
    refine slQ ?_
    refine cdQ (fun _ _ _=> ?_) (fun _ _ _=> ?_)
    ·intro hF hM
     replace hM:=au hM;obtain ⟨x15,hx16,hM⟩:=hM
     have hcx15:=ih (gt f_.L p11.1) (ao .i64 depth 1) (p11.2) good_c0_c0 (by (have h9:=cU (f:=f_) (aK (l:=f_.L) (i:=p11.1) (by omega));omega))
     rw [←hx16] at hcx15
     refine bL [0] hcx15 (by decide) (an hF) (an hF) (fun hw17=> ?_)
     replace hw17:=nzQ hw17
     revert hM;revert hF
     refine slQ ?_
     refine cdQ (fun _ _ _=> ?_) (fun _ _ _=> ?_)
     ·intro hF hM
      subst hM
      exact aU [0] (an hF) (by decide) (an hF)
     ·intro hF hM
      refine aP (n11 - 1) _ (by omega) sbQ sbQ ⟨((p11.1+1),x15.2),rfl,⟨omQ,omQ⟩,omQ,aN hM hag11⟩
    ·intro hF hM
     subst hM
     exact aU [0] (an hF) (by decide) (an hF)
  ·intro hF hM
   subst hM
   exact aU [0] (an hF) (by decide) (an hF)
 ·intro hF hM
  subst hM
  exact aU [0] (an hF) (by decide) (an hF)
set_option maxRecDepth 512 in
theorem My: ∀(N:Nat) (f_:aa) (depth:Int) (left:Int) (good_c0_c0:ak),ay f_<N→bp En 107 [.agg [.int .i64 f_.Kind,.sl none 1 false (f_.Relation.Y.map (V.int .i64)),.sl none 1 false (f_.Relation.Bases.map (fun (l:List Int)=>V.sl none 1 false (l.map (V.int .i64)))),.sl none 4 true (f_.L.map aw)],.int .i64 depth,.ptr 0 0,.fn 108 [.pp 1 false (.fn 58 [.pp 3 true (.agg [.int .i64 good_c0_c0.P,.int .i64 good_c0_c0.Q,.int .i64 good_c0_c0.G])])]] [.var 1 false (.int .i64 left)] (.bool ((jj dh) f_ depth left good_c0_c0).1) [.var 1 false (.int .i64 ((jj dh) f_ depth left good_c0_c0).2)] []:=by
 intro N
 induction N with
 | zero=>intro f_ depth left good_c0_c0 h;exact absurd h (Nat.not_lt_zero _)
 | succ N ih=>
  intro f_ depth left good_c0_c0 h
  have h9:=Mx N ih f_ depth left good_c0_c0 h
  rw [K9] at h9
  exact h9
set_option maxRecDepth 512 in
theorem Mz (f_:aa) (depth:Int) (left:Int) (good_c0_c0:ak):bp En 107 [.agg [.int .i64 f_.Kind,.sl none 1 false (f_.Relation.Y.map (V.int .i64)),.sl none 1 false (f_.Relation.Bases.map (fun (l:List Int)=>V.sl none 1 false (l.map (V.int .i64)))),.sl none 4 true (f_.L.map aw)],.int .i64 depth,.ptr 0 0,.fn 108 [.pp 1 false (.fn 58 [.pp 3 true (.agg [.int .i64 good_c0_c0.P,.int .i64 good_c0_c0.Q,.int .i64 good_c0_c0.G])])]] [.var 1 false (.int .i64 left)] (.bool ((jj dh) f_ depth left good_c0_c0).1) [.var 1 false (.int .i64 ((jj dh) f_ depth left good_c0_c0).2)] []:=
 My (ay f_+1) f_ depth left good_c0_c0 (Nat.lt_succ_self _)
end Go.Proofs.YtgealhhkngbkbaaGreatDoor
