/- Texts of this proof, one after the other: U1. -/
import Derived.Test.YtiknkaadhomeiaaGreatDoorZ5
set_option linter.unusedVariables false
set_option linter.unusedSimpArgs false
namespace Go.Proofs.YtiknkaadhomeiaaGreatDoor
open Go.RowKit
set_option linter.unusedSimpArgs false
set_option maxHeartbeats 2000000 in
set_option maxRecDepth 100000 in
instance Gr (s:(List UInt8)) (prefix_:(List UInt8)):CM En (iv s prefix_) 229 [.str s,.str prefix_] (fun y=> .bool y) (fun _=> []):=by
 refine cmQ fun r hM=> ?_
 rw [iv.eq_1] at hM
 refine aI az aC noJ Tryz.func229 rfl Tryz.ntmps229 (by kernel_rfl) fun hw=>aB ?_
 refine spQ ?_
 replace hw:=nzQ hw
 have hF:=bz
 exact auQ
set_option maxHeartbeats 2000000 in
set_option maxRecDepth 100000 in
instance Gs (s:(List UInt8)) (prefix_:(List UInt8)):CM En (nw s prefix_) 192 [.str s,.str prefix_] (fun y=> .tup [.str y.1,.bool y.2]) (fun _=> []):=by
 refine cmQ fun r hM=> ?_
 rw [nw.eq_1] at hM
 refine aI az aC noJ Tryz.func192 rfl Tryz.ntmps192 (by kernel_rfl) fun hw=>aB ?_
 refine spQ ?_
 replace hw:=nzQ hw
 have hF:=bz
 exact auQ
set_option maxHeartbeats 2000000 in
set_option maxRecDepth 100000 in
instance Gt (s:(List UInt8)) (prefix_:(List UInt8)):CM En (kX s prefix_) 143 [.str s,.str prefix_] (fun y=> .tup [.str y.1,.bool y.2]) (fun _=> []):=by
 refine cmQ fun r hM=> ?_
 rw [kX.eq_1] at hM
 refine aI az aC noJ Tryz.func143 rfl Tryz.ntmps143 (by kernel_rfl) fun hw=>aB ?_
 refine spQ ?_
 replace hw:=nzQ hw
 have hF:=bz
 exact auQ
set_option maxHeartbeats 2000000 in
set_option maxRecDepth 100000 in
theorem gR (p_:ah) (t_:(List UInt8)):bn En 81 [.ptr 0 0,.str t_] [.var 2 true (.agg [.str p_.s,.bool p_.bad])] (.bool (ar p_ t_).1) [.var 2 true (.agg [.str (ar p_ t_).2.s,.bool (ar p_ t_).2.bad])] []:=by
 generalize hM:ar p_ t_=r
 rw [ar.eq_1] at hM
 refine dr az aC noJ Tryz.func81 rfl Tryz.ntmps81 (by kernel_rfl) rfl fun ks hw hwB=>aB ?_
 refine spQ ?_
 replace hw:=nzQ hw
 replace hwB:=nzB hwB
 have hM0:=hM;clear hM;obtain ⟨x1,hx2,hM⟩:=aA hM0;clear hM0
 have hcx1:=cmU hx2
 refine aT hcx1 clQ clQ (fun hw3=> ?_)
 replace hw3:=nzQ hw3
 refine spQ ?_
 subst hM
 exact aW [0] lsQ (by decide) lsQ
set_option maxHeartbeats 2000000 in
set_option maxRecDepth 100000 in
instance Gu (x_:Int):CM En (kY x_) 218 [.int .u64 x_] (fun y=> .int .i64 y) (fun _=> []):=by
 refine cmQ fun r hM=> ?_
 rw [kY.eq_1] at hM
 refine aI az aC noJ Tryz.func218 rfl Tryz.ntmps218 (by kernel_rfl) fun hw=>aB ?_
 refine spQ ?_
 replace hw:=nzQ hw
 have h0_0:=uZ (x:=bA .u64 x_ (gW .u64 x_))
 refine aG (fun h1=> ?_) (fun h1=> ?_)
 ·rw [if_pos h1] at hM
  refine aa h1 ?_
  have nh1:=nzQ h1
  try have hr2:=mpQ nh1
  subst hM
  exact aU (bf h1)
 ·rw [if_neg (av h1)] at hM
  refine aa h1 ?_
  have nh1:=nzQ h1
  try have hr3:=mpQ nh1
  refine bc omQ ?_
  have he4:=qK (f:=V.int .u8) (l:=gE) (n:=64) (i:=(aq .u64 (aK .u64 (bA .u64 x_ (gW .u64 x_)) 285870213051353865) 58)) rfl omQ
  replace he4:=spR he4
  refine aa he4 ?_
  subst hM
  exact aU (bf (And.intro he4 h1))
set_option maxHeartbeats 2000000 in
set_option maxRecDepth 100000 in
theorem rL (p_:ah):bn En 144 [.ptr 0 0] [.var 2 true (.agg [.str p_.s,.bool p_.bad])] (.int .i64 (a7 p_).1) [.var 2 true (.agg [.str (a7 p_).2.s,.bool (a7 p_).2.bad])] []:=by
 generalize hM:a7 p_=r
 rw [a7.eq_1] at hM
 refine dr az aC noJ Tryz.func144 rfl Tryz.ntmps144 (by kernel_rfl) rfl fun ks hw hwB=>aB ?_
 refine spQ ?_
 replace hw:=nzQ hw
 replace hwB:=nzB hwB
 have hM0:=hM;clear hM;obtain ⟨f1,d1,hf1,hd1,hM⟩:=bv hM0;clear hM0
 refine bL (fun n S=> ∃p:Int,S=(⟨[(0,.ptr 0 0),(3,.int .i64 p)],[(0,.lent (ks 0) 2 true (.agg [.str p_.s,.bool p_.bad]))],1⟩:St)∧((0≤p)∧(p≤((p_).s.length:Int)))∧(((p_).s.length:Int) - p).toNat<n∧ap n f1 d1 p=r) ((((p_).s.length:Int) - 0).toNat+1) _ sbQ sbQ ⟨0,rfl,⟨by (first|exact omQ|(clear hM;first|(simp only [List.length_take] at*;exact aH))),by (first|exact omQ|(clear hM;first|(simp only [List.length_take] at*;exact aH)))⟩,(Nat.lt_succ_self _),hM⟩ ?_
 clear hM
 rintro n1 S ⟨p1,rfl,hfa1,hm1,hM⟩
 have hM0:=hM;clear hM;obtain ⟨ag1,hag1,hM⟩:=bw hM0 (by omega) hf1;clear hM0
 replace hfa1:=nzQ hfa1
 replace hm1:=nzQ hm1
 refine spQ ?_
 refine fi (fun h2=> ?_) (fun h2=> ?_)
 ·rw [if_pos h2] at hM
  refine aa h2 ?_
  have nh2:=nzQ h2
  try have hr3:=mpQ nh2
  refine bc (by (first|exact omQ|(clear hM;first|(simp only [List.length_take] at*;exact aH)))) ?_
  refine spQ ?_
  refine fi (fun h4=> ?_) (fun h4=> ?_)
  ·rw [if_pos h4] at hM
   refine aa h4 ?_
   have nh4:=nzQ h4
   try have hr5:=mpQ nh4
   refine bc (by (first|exact omQ|(clear hM;first|(simp only [List.length_take] at*;exact aH)))) ?_
   refine spQ ?_
   refine aG (fun h6=> ?_) (fun h6=> ?_)
   ·rw [if_pos h6] at hM
    refine aa h6 ?_
    have nh6:=nzQ h6
    try have hr7:=mpQ nh6
    have ha8:aE .i64 p1 1=(p1+1):=BT (by (first|exact omQ|(clear hM;first|(simp only [List.length_take] at*;exact aH)))) (by (first|exact omQ|(clear hM;first|(simp only [List.length_take] at*;exact aH))))
    try simp only [ha8]
    refine ce (n1 - 1) _ (by omega) sbQ sbQ ⟨(p1+1),rfl,⟨by (first|exact omQ|(clear hM;first|(simp only [List.length_take] at*;exact aH))),by (first|exact omQ|(clear hM;first|(simp only [List.length_take] at*;exact aH)))⟩,by (first|exact omQ|(clear hM;first|(simp only [List.length_take] at*;exact aH))),cg hM hag1⟩
   ·rw [if_neg (av h6)] at hM
    refine aa h6 ?_
    have nh6:=nzQ h6
    try have hr9:=mpQ nh6
    refine bc (by (first|exact omQ|(clear hM;first|(simp only [List.length_take] at*;exact aH)))) ?_
    refine spQ ?_
    refine bc (by (first|exact omQ|(clear hM;first|(simp only [List.length_take] at*;exact aH)))) ?_
    refine spQ ?_
    refine bX (fun h10=> ?_) (fun h10=> ?_)
    ·rw [if_neg (av h10)] at hM
     refine aa h10 ?_
     have nh10:=nzQ h10
     try have hr11:=mpQ nh10
     refine fi (fun h12=> ?_) (fun h12=> ?_)
     ·rw [if_pos h12] at hM
      refine aa h12 ?_
      have nh12:=nzQ h12
      try have hr13:=mpQ nh12
      refine bc (by (first|exact omQ|(clear hM;first|(simp only [List.length_take] at*;exact aH)))) ?_
      refine spQ ?_
      refine aG (fun h14=> ?_) (fun h14=> ?_)
      ·rw [if_pos h14] at hM
       refine aa h14 ?_
       have nh14:=nzQ h14
       try have hr15:=mpQ nh14
       subst hM
       exact aW [0] (aw (And.intro h2 (And.intro h4 (And.intro h6 (And.intro h10 (And.intro h12 h14)))))) (by decide) (aw (And.intro h2 (And.intro h4 (And.intro h6 (And.intro h10 (And.intro h12 h14))))))
      ·rw [if_neg (av h14)] at hM
       refine aa h14 ?_
       have nh14:=nzQ h14
       try have hr16:=mpQ nh14
       have hM0:=hM;clear hM;obtain ⟨x17,hx18,hM⟩:=aA hM0;clear hM0
       have hcx17:=cmU hx18
       refine aT hcx17 clQ clQ (fun hw19=> ?_)
       replace hw19:=nzQ hw19
       refine spQ ?_
       refine aG (fun h20=> ?_) (fun h20=> ?_)
       ·rw [if_pos h20] at hM
        refine aa h20 ?_
        have nh20:=nzQ h20
        try have hr21:=mpQ nh20
        subst hM
        exact aW [0] (aw (And.intro h2 (And.intro h4 (And.intro h6 (And.intro h10 (And.intro h12 (And.intro h14 h20))))))) (by decide) (aw (And.intro h2 (And.intro h4 (And.intro h6 (And.intro h10 (And.intro h12 (And.intro h14 h20)))))))
       ·rw [if_neg (av h20)] at hM
        refine aa h20 ?_
        have nh20:=nzQ h20
        try have hr22:=mpQ nh20
        subst hM
        exact aW [0] (aw (And.intro h2 (And.intro h4 (And.intro h6 (And.intro h10 (And.intro h12 (And.intro h14 h20))))))) (by decide) (aw (And.intro h2 (And.intro h4 (And.intro h6 (And.intro h10 (And.intro h12 (And.intro h14 h20)))))))
     ·rw [if_neg (av h12)] at hM
      refine aa h12 ?_
      have nh12:=nzQ h12
      try have hr23:=mpQ nh12
      have hM0:=hM;clear hM;obtain ⟨x24,hx25,hM⟩:=aA hM0;clear hM0
      have hcx24:=cmU hx25
      refine aT hcx24 clQ clQ (fun hw26=> ?_)
      replace hw26:=nzQ hw26
      refine spQ ?_
      refine aG (fun h27=> ?_) (fun h27=> ?_)
      ·rw [if_pos h27] at hM
       refine aa h27 ?_
       have nh27:=nzQ h27
       try have hr28:=mpQ nh27
       subst hM
       exact aW [0] (aw (And.intro h2 (And.intro h4 (And.intro h6 (And.intro h10 (And.intro h12 h27)))))) (by decide) (aw (And.intro h2 (And.intro h4 (And.intro h6 (And.intro h10 (And.intro h12 h27))))))
      ·rw [if_neg (av h27)] at hM
       refine aa h27 ?_
       have nh27:=nzQ h27
       try have hr29:=mpQ nh27
       subst hM
       exact aW [0] (aw (And.intro h2 (And.intro h4 (And.intro h6 (And.intro h10 (And.intro h12 h27)))))) (by decide) (aw (And.intro h2 (And.intro h4 (And.intro h6 (And.intro h10 (And.intro h12 h27))))))
    ·rw [if_pos h10] at hM
     refine aa h10 ?_
     have nh10:=nzQ h10
     try have hr30:=mpQ nh10
     subst hM
     exact aW [0] (aw (And.intro h2 (And.intro h4 (And.intro h6 h10)))) (by decide) (aw (And.intro h2 (And.intro h4 (And.intro h6 h10))))
  ·rw [if_neg (av h4)] at hM
   refine aa h4 ?_
   have nh4:=nzQ h4
   try have hr31:=mpQ nh4
   refine bc (by (first|exact omQ|(clear hM;first|(simp only [List.length_take] at*;exact aH)))) ?_
   refine spQ ?_
   refine bc (by (first|exact omQ|(clear hM;first|(simp only [List.length_take] at*;exact aH)))) ?_
   refine spQ ?_
   refine bX (fun h32=> ?_) (fun h32=> ?_)
   ·rw [if_neg (av h32)] at hM
    refine aa h32 ?_
    have nh32:=nzQ h32
    try have hr33:=mpQ nh32
    refine fi (fun h34=> ?_) (fun h34=> ?_)
    ·rw [if_pos h34] at hM
     refine aa h34 ?_
     have nh34:=nzQ h34
     try have hr35:=mpQ nh34
     refine bc (by (first|exact omQ|(clear hM;first|(simp only [List.length_take] at*;exact aH)))) ?_
     refine spQ ?_
     refine aG (fun h36=> ?_) (fun h36=> ?_)
     ·rw [if_pos h36] at hM
      refine aa h36 ?_
      have nh36:=nzQ h36
      try have hr37:=mpQ nh36
      subst hM
      exact aW [0] (aw (And.intro h2 (And.intro h4 (And.intro h32 (And.intro h34 h36))))) (by decide) (aw (And.intro h2 (And.intro h4 (And.intro h32 (And.intro h34 h36)))))
     ·rw [if_neg (av h36)] at hM
      refine aa h36 ?_
      have nh36:=nzQ h36
      try have hr38:=mpQ nh36
      have hM0:=hM;clear hM;obtain ⟨x39,hx40,hM⟩:=aA hM0;clear hM0
      have hcx39:=cmU hx40
      refine aT hcx39 clQ clQ (fun hw41=> ?_)
      replace hw41:=nzQ hw41
      refine spQ ?_
      refine aG (fun h42=> ?_) (fun h42=> ?_)
      ·rw [if_pos h42] at hM
       refine aa h42 ?_
       have nh42:=nzQ h42
       try have hr43:=mpQ nh42
       subst hM
       exact aW [0] (aw (And.intro h2 (And.intro h4 (And.intro h32 (And.intro h34 (And.intro h36 h42)))))) (by decide) (aw (And.intro h2 (And.intro h4 (And.intro h32 (And.intro h34 (And.intro h36 h42))))))
      ·rw [if_neg (av h42)] at hM
       refine aa h42 ?_
       have nh42:=nzQ h42
       try have hr44:=mpQ nh42
       subst hM
       exact aW [0] (aw (And.intro h2 (And.intro h4 (And.intro h32 (And.intro h34 (And.intro h36 h42)))))) (by decide) (aw (And.intro h2 (And.intro h4 (And.intro h32 (And.intro h34 (And.intro h36 h42))))))
    ·rw [if_neg (av h34)] at hM
     refine aa h34 ?_
     have nh34:=nzQ h34
     try have hr45:=mpQ nh34
     have hM0:=hM;clear hM;obtain ⟨x46,hx47,hM⟩:=aA hM0;clear hM0
     have hcx46:=cmU hx47
     refine aT hcx46 clQ clQ (fun hw48=> ?_)
     replace hw48:=nzQ hw48
     refine spQ ?_
     refine aG (fun h49=> ?_) (fun h49=> ?_)
     ·rw [if_pos h49] at hM
      refine aa h49 ?_
      have nh49:=nzQ h49
      try have hr50:=mpQ nh49
      subst hM
      exact aW [0] (aw (And.intro h2 (And.intro h4 (And.intro h32 (And.intro h34 h49))))) (by decide) (aw (And.intro h2 (And.intro h4 (And.intro h32 (And.intro h34 h49)))))
     ·rw [if_neg (av h49)] at hM
      refine aa h49 ?_
      have nh49:=nzQ h49
      try have hr51:=mpQ nh49
      subst hM
      exact aW [0] (aw (And.intro h2 (And.intro h4 (And.intro h32 (And.intro h34 h49))))) (by decide) (aw (And.intro h2 (And.intro h4 (And.intro h32 (And.intro h34 h49)))))
   ·rw [if_pos h32] at hM
    refine aa h32 ?_
    have nh32:=nzQ h32
    try have hr52:=mpQ nh32
    subst hM
    exact aW [0] (aw (And.intro h2 (And.intro h4 h32))) (by decide) (aw (And.intro h2 (And.intro h4 h32)))
 ·rw [if_neg (av h2)] at hM
  refine aa h2 ?_
  have nh2:=nzQ h2
  try have hr53:=mpQ nh2
  refine bc (by (first|exact omQ|(clear hM;first|(simp only [List.length_take] at*;exact aH)))) ?_
  refine spQ ?_
  refine bc (by (first|exact omQ|(clear hM;first|(simp only [List.length_take] at*;exact aH)))) ?_
  refine spQ ?_
  refine bX (fun h54=> ?_) (fun h54=> ?_)
  ·rw [if_neg (av h54)] at hM
   refine aa h54 ?_
   have nh54:=nzQ h54
   try have hr55:=mpQ nh54
   refine fi (fun h56=> ?_) (fun h56=> ?_)
   ·rw [if_pos h56] at hM
    refine aa h56 ?_
    have nh56:=nzQ h56
    try have hr57:=mpQ nh56
    refine bc (by (first|exact omQ|(clear hM;first|(simp only [List.length_take] at*;exact aH)))) ?_
    refine spQ ?_
    refine aG (fun h58=> ?_) (fun h58=> ?_)
    ·rw [if_pos h58] at hM
     refine aa h58 ?_
     have nh58:=nzQ h58
     try have hr59:=mpQ nh58
     subst hM
     exact aW [0] (aw (And.intro h2 (And.intro h54 (And.intro h56 h58)))) (by decide) (aw (And.intro h2 (And.intro h54 (And.intro h56 h58))))
    ·rw [if_neg (av h58)] at hM
     refine aa h58 ?_
     have nh58:=nzQ h58
     try have hr60:=mpQ nh58
     have hM0:=hM;clear hM;obtain ⟨x61,hx62,hM⟩:=aA hM0;clear hM0
     have hcx61:=cmU hx62
     refine aT hcx61 clQ clQ (fun hw63=> ?_)
     replace hw63:=nzQ hw63
     refine spQ ?_
     refine aG (fun h64=> ?_) (fun h64=> ?_)
     ·rw [if_pos h64] at hM
      refine aa h64 ?_
      have nh64:=nzQ h64
      try have hr65:=mpQ nh64
      subst hM
      exact aW [0] (aw (And.intro h2 (And.intro h54 (And.intro h56 (And.intro h58 h64))))) (by decide) (aw (And.intro h2 (And.intro h54 (And.intro h56 (And.intro h58 h64)))))
     ·rw [if_neg (av h64)] at hM
      refine aa h64 ?_
      have nh64:=nzQ h64
      try have hr66:=mpQ nh64
      subst hM
      exact aW [0] (aw (And.intro h2 (And.intro h54 (And.intro h56 (And.intro h58 h64))))) (by decide) (aw (And.intro h2 (And.intro h54 (And.intro h56 (And.intro h58 h64)))))
   ·rw [if_neg (av h56)] at hM
    refine aa h56 ?_
    have nh56:=nzQ h56
    try have hr67:=mpQ nh56
    have hM0:=hM;clear hM;obtain ⟨x68,hx69,hM⟩:=aA hM0;clear hM0
    have hcx68:=cmU hx69
    refine aT hcx68 clQ clQ (fun hw70=> ?_)
    replace hw70:=nzQ hw70
    refine spQ ?_
    refine aG (fun h71=> ?_) (fun h71=> ?_)
    ·rw [if_pos h71] at hM
     refine aa h71 ?_
     have nh71:=nzQ h71
     try have hr72:=mpQ nh71
     subst hM
     exact aW [0] (aw (And.intro h2 (And.intro h54 (And.intro h56 h71)))) (by decide) (aw (And.intro h2 (And.intro h54 (And.intro h56 h71))))
    ·rw [if_neg (av h71)] at hM
     refine aa h71 ?_
     have nh71:=nzQ h71
     try have hr73:=mpQ nh71
     subst hM
     exact aW [0] (aw (And.intro h2 (And.intro h54 (And.intro h56 h71)))) (by decide) (aw (And.intro h2 (And.intro h54 (And.intro h56 h71))))
  ·rw [if_pos h54] at hM
   refine aa h54 ?_
   have nh54:=nzQ h54
   try have hr74:=mpQ nh54
   subst hM
   exact aW [0] (aw (And.intro h2 h54)) (by decide) (aw (And.intro h2 h54))
set_option maxHeartbeats 2000000 in
set_option maxRecDepth 100000 in
theorem lB (p_:ah) (t_:(List UInt8)):bn En 83 [.ptr 0 0,.str t_] [.var 2 true (.agg [.str p_.s,.bool p_.bad])] (.tup []) [.var 2 true (.agg [.str (a6 p_ t_).s,.bool (a6 p_ t_).bad])] []:=by
 generalize hM:a6 p_ t_=r
 rw [a6.eq_1] at hM
 refine dr az aC noJ Tryz.func83 rfl Tryz.ntmps83 (by kernel_rfl) rfl fun ks hw hwB=>aB ?_
 refine spQ ?_
 replace hw:=nzQ hw
 replace hwB:=nzB hwB
 have hM0:=hM;clear hM;obtain ⟨x1,hx2,hM⟩:=aA hM0;clear hM0
 have hcx1:=gR p_ t_
 rw [←hx2] at hcx1
 refine bJ [0] hcx1 (by decide) lsQ lsQ (fun hw3=> ?_)
 replace hw3:=nzQ hw3
 refine spQ ?_
 refine aG (fun h4=> ?_) (fun h4=> ?_)
 ·rw [if_pos h4] at hM
  refine aa h4 ?_
  have nh4:=nzQ h4
  try have hr5:=mpQ nh4
  subst hM
  exact aW [0] (aw h4) (by decide) (aw h4)
 ·rw [if_neg (av h4)] at hM
  refine aa h4 ?_
  have nh4:=nzQ h4
  try have hr6:=mpQ nh4
  subst hM
  exact aW [0] (aw h4) (by decide) (aw h4)
set_option maxHeartbeats 2000000 in
set_option maxRecDepth 100000 in
theorem DZ (p_:ah) (hp0:p_.s.length≤8000):bn En 82 [.ptr 0 0] [.var 2 true (.agg [.str p_.s,.bool p_.bad])] (.agg [.sl none 1 false ((cU p_).1.Y.map (V.int .i64)),.sl none 1 false ((cU p_).1.Bases.map (fun (l:List Int)=>V.sl none 1 false (l.map (V.int .i64))))]) [.var 2 true (.agg [.str (cU p_).2.s,.bool (cU p_).2.bad])] []:=by
 generalize hM:cU p_=r
 rw [cU.eq_1] at hM
 refine dr az aC [8] Tryz.func82 rfl Tryz.ntmps82 (by kernel_rfl) rfl fun ks hw hwB=>aB ?_
 refine spQ ?_
 replace hw:=nzQ hw
 replace hwB:=nzB hwB
 have hM0:=hM;clear hM;obtain ⟨f1,d1,hf1,hd1,hM⟩:=bv hM0;clear hM0
 refine kB (fun n S=> ∃p:ah×aL×List Int×List (List Int),S=(⟨[(0,.ptr 0 0),(2,.ptr 1 0),(3,.ptr 2 0)],[(0,.lent (ks 0) 2 true (.agg [.str p.1.s,.bool p.1.bad])),(1,.var 2 true (.agg [.sl none 1 false (p.2.1.Y.map (V.int .i64)),.sl none 1 false (p.2.1.Bases.map (fun (l:List Int)=>V.sl none 1 false (l.map (V.int .i64))))])),(2,.var 2 true (.agg [.own 3,.own 4])),(3,.own 3 1 false none (p.2.2.1.map (V.int .i64))),(4,.own 22 1 false none (p.2.2.2.map (fun (l:List Int)=>V.sl none 1 false (l.map (V.int .i64)))))],5⟩:St)∧((((p.1).s.length:Int)+((p.2.2.1).length:Int)≤(p_.s.length:Int))∧(((p.1).s.length:Int)+((p.2.2.2).length:Int)≤(p_.s.length:Int)))∧(p.1).s.length<n∧ap n f1 d1 p=r) ((p_).s.length+1) _ _ ((qB 2 0 3 rfl rfl (by decide)).trans (qB 2 1 22 rfl rfl (by decide))) sbQ sbG ⟨(p_,cC,([]:List Int),([]:List (List Int))),rfl,⟨omQ,omQ⟩,(Nat.lt_succ_self _),hM⟩ ?_
 clear hM
 rintro n1 S ⟨p1,rfl,hfa1,hm1,hM⟩
 have hM0:=hM;clear hM;obtain ⟨ag1,hag1,hM⟩:=bw hM0 (by omega) hf1;clear hM0
 replace hfa1:=nzQ hfa1
 replace hm1:=nzQ hm1
 refine spQ ?_
 refine jk 50 5 [5,6,7,8,9] [] ([[],[0],[],[2],[2,3]]++[List.range 5,List.range 6,List.range 7]) [(3,0)] (by kernel_rfl) (by exact alQ) ?_
 refine spQ ?_
 have hM0:=hM;clear hM;obtain ⟨x2,hx3,hM⟩:=aA hM0;clear hM0
 have hcx2:=rL (p1.1)
 rw [←hx3] at hcx2
 refine uT 0 hcx2 rfl rfl lsQ lsQ lsQ lsQ lsQ ?_
 refine spQ ?_
 have hq4:=rz hx3
 replace hq4:=nzQ hq4
 have hq5:=eT x2.2.bad
 replace hq5:=nzQ hq5
 refine bc omQ ?_
 refine spQ ?_
 have hM0:=hM;clear hM;obtain ⟨x6,hx7,hM⟩:=aA hM0;clear hM0
 have hcx6:=lB (x2.2) ([32,61])
 rw [←hx7] at hcx6
 refine bJ [0] hcx6 (by decide) lsQ lsQ (fun hw8=> ?_)
 replace hw8:=nzQ hw8
 refine spQ ?_
 have hq9:=dG hx7
 replace hq9:=nzQ hq9
 have hM0:=hM;clear hM;obtain ⟨x10,hx11,hM⟩:=aA hM0;clear hM0
 have hcx10:=lB x6 ([32])
 rw [←hx11] at hcx10
 refine bJ [0] hcx10 (by decide) lsQ lsQ (fun hw12=> ?_)
 replace hw12:=nzQ hw12
 refine spQ ?_
 have hq13:=dG hx11
 replace hq13:=nzQ hq13
 have hM0:=hM;clear hM;obtain ⟨x14,hx15,hM⟩:=aA hM0;clear hM0
 have hcx14:=rL x10
 rw [←hx15] at hcx14
 refine bJ [0] hcx14 (by decide) lsQ lsQ (fun hw16=> ?_)
 replace hw16:=nzQ hw16
 refine spQ ?_
 have hq17:=rz hx15
 replace hq17:=nzQ hq17
 have hq18:=eT x14.2.bad
 replace hq18:=nzQ hq18
 refine kO ?_
 try refine spQ ?_
 have hM0:=hM;clear hM;obtain ⟨f19,d19,hf19,hd19,hM⟩:=bv hM0;clear hM0
 refine bL (fun n S=> ∃p:ah×List Int,S=(⟨[(0,.ptr 0 0),(2,.ptr 1 0),(3,.ptr 2 0),(4,.own 10)],[(0,.lent (ks 0) 2 true (.agg [.str p.1.s,.bool p.1.bad])),(1,.var 2 true (.agg [.sl none 1 false (p1.2.1.Y.map (V.int .i64)),.sl none 1 false (p1.2.1.Bases.map (fun (l:List Int)=>V.sl none 1 false (l.map (V.int .i64))))])),(2,.var 2 true (.agg [.own 3,.own 4])),(3,.own 3 1 false (some false) ((p1.2.2.1++([x2.1]:List Int)).map (V.int .i64))),(4,.own 22 1 false none (p1.2.2.2.map (fun (l:List Int)=>V.sl none 1 false (l.map (V.int .i64))))),(10,.own 3 1 false none (p.2.map (V.int .i64)))],11⟩:St)∧(((((p.1).s.length:Int)+1≤(p1.1.s.length:Int)+(bd (p.1).bad:Int))∧(((p.1).s.length:Int)≤(p1.1.s.length:Int))∧(((p.1).s.length:Int)+((p.2).length:Int)≤(p1.1.s.length:Int)+1))∧((p.1).bad=false→bd (p.1).bad=0))∧(p.1).s.length<n∧ap n f19 d19 p=r) (((x14.2)).s.length+1) _ sbQ sbQ ⟨(x14.2,([x14.1]:List Int)),rfl,⟨⟨omQ,omQ,omQ⟩,by (exact nP)⟩,(Nat.lt_succ_self _),hM⟩ ?_
 clear hM
 rintro n19 S ⟨p19,rfl,⟨hfa19,hF6_0⟩,hm19,hM⟩
 have hM0:=hM;clear hM;obtain ⟨ag19,hag19,hM⟩:=bw hM0 (by omega) hf19;clear hM0
 replace hfa19:=nzQ hfa19
 replace hm19:=nzQ hm19
 refine spQ ?_
 refine fi (fun h20=> ?_) (fun h20=> ?_)
 ·rw [if_pos h20] at hM
  refine aa h20 ?_
  have nh20:=nzQ h20
  try have hr21:=mpQ nh20
  have hM0:=hM;clear hM;obtain ⟨x22,hx23,hM⟩:=aA hM0;clear hM0
  have hcx22:=gR (p19.1) ([32])
  rw [←hx23] at hcx22
  refine bJ [0] hcx22 (by decide) lsQ lsQ (fun hw24=> ?_)
  replace hw24:=nzQ hw24
  refine spQ ?_
  have hq25:=cV hx23
  replace hq25:=nzQ hq25
  have hq26:=de hx23 (by decide)
  replace hq26:=nzQ hq26
  have hq27:=eT x22.2.bad
  replace hq27:=nzQ hq27
  refine aG (fun h28=> ?_) (fun h28=> ?_)
  ·rw [if_pos h28] at hM
   refine aa h28 ?_
   have nh28:=nzQ h28
   try have hr29:=mpQ nh28
   have hM0:=hM;clear hM;obtain ⟨x30,hx31,hM⟩:=aA hM0;clear hM0
   have hcx30:=rL (x22.2)
   rw [←hx31] at hcx30
   refine bJ [0] hcx30 (by decide) lsQ lsQ (fun hw32=> ?_)
   replace hw32:=nzQ hw32
   refine spQ ?_
   have hq33:=rz hx31
   replace hq33:=nzQ hq33
   have hq34:=eT x30.2.bad
   replace hq34:=nzQ hq34
   refine bc omQ ?_
   refine spQ ?_
   refine ce (n19 - 1) _ (by omega) sbQ sbQ ⟨(x30.2,(p19.2++([x30.1]:List Int))),rfl,⟨⟨omQ,omQ,omQ⟩,by (exact nP)⟩,omQ,cg hM hag19⟩
  ·rw [if_neg (av h28)] at hM
   refine aa h28 ?_
   have nh28:=nzQ h28
   try have hr35:=mpQ nh28
   refine jp _ (⟨[(0,.ptr 0 0),(2,.ptr 1 0),(3,.ptr 2 0),(4,.sl none 1 false (p19.2.map (V.int .i64)))],[(0,.lent (ks 0) 2 true (.agg [.str x22.2.s,.bool x22.2.bad])),(1,.var 2 true (.agg [.sl none 1 false (p1.2.1.Y.map (V.int .i64)),.sl none 1 false (p1.2.1.Bases.map (fun (l:List Int)=>V.sl none 1 false (l.map (V.int .i64))))])),(2,.var 2 true (.agg [.own 3,.own 4])),(3,.own 3 1 false (some false) ((p1.2.2.1++([x2.1]:List Int)).map (V.int .i64))),(4,.own 22 1 false none (p1.2.2.2.map (fun (l:List Int)=>V.sl none 1 false (l.map (V.int .i64))))),(10,.pown 1 false none (p19.2.map (V.int .i64)))],11⟩:St) ((uv (S:=⟨_,_,_⟩) 10 (T:=3) (n:=1) (g:=false) (z:=none) (l:=p19.2.map (V.int .i64)) clQ).trans (uw (S:=⟨_,_,_⟩) 4 10 (n:=1) (g:=false) (z:=none) (l:=p19.2.map (V.int .i64)) clQ clQ)) sbQ sbQ ?_
   try refine spQ ?_
   refine bc omQ ?_
   refine spQ ?_
   refine bX (fun h36=> ?_) (fun h36=> ?_)
   ·rw [if_neg (av h36)] at hM
    refine aa h36 ?_
    have nh36:=nzQ h36
    try have hr37:=mpQ nh36
    have hM0:=hM;clear hM;obtain ⟨x38,hx39,hM⟩:=aA hM0;clear hM0
    have hcx38:=gR ({s:=x22.2.s,bad:=false}:ah) ([93])
    rw [←hx39] at hcx38
    refine bJ [0] hcx38 (by decide) lsQ lsQ (fun hw40=> ?_)
    replace hw40:=nzQ hw40
    refine spQ ?_
    have hq41:=cV hx39
    replace hq41:=nzQ hq41
    have hq42:=de hx39 (by decide)
    replace hq42:=nzQ hq42
    have hq43:=eT x38.2.bad
    replace hq43:=nzQ hq43
    refine aG (fun h44=> ?_) (fun h44=> ?_)
    ·rw [if_pos h44] at hM
     refine aa h44 ?_
     have nh44:=nzQ h44
     try have hr45:=mpQ nh44
     subst hM
     exact aW [0] (aw (And.intro h20 (And.intro h28 (And.intro h36 h44)))) (by decide) (aw (And.intro h20 (And.intro h28 (And.intro h36 h44))))
    ·rw [if_neg (av h44)] at hM
     refine aa h44 ?_
     have nh44:=nzQ h44
     try have hr46:=mpQ nh44
     have hM0:=hM;clear hM;obtain ⟨x47,hx48,hM⟩:=aA hM0;clear hM0
     have hcx47:=lB (x38.2) ([44,32])
     rw [←hx48] at hcx47
     refine bJ [0] hcx47 (by decide) lsQ lsQ (fun hw49=> ?_)
     replace hw49:=nzQ hw49
     refine spQ ?_
     have hq50:=dG hx48
     replace hq50:=nzQ hq50
     refine ce (n1 - 1) _ (by omega) sbQ sbQ ⟨(x47,p1.2.1,(p1.2.2.1++([x2.1]:List Int)),(p1.2.2.2++([p19.2]:List (List Int)))),rfl,⟨omQ,omQ⟩,omQ,cg hM hag1⟩
   ·rw [if_pos h36] at hM
    refine aa h36 ?_
    have nh36:=nzQ h36
    try have hr51:=mpQ nh36
    subst hM
    exact aW [0] (aw (And.intro h20 (And.intro h28 h36))) (by decide) (aw (And.intro h20 (And.intro h28 h36)))
 ·rw [if_neg (av h20)] at hM
  refine aa h20 ?_
  have nh20:=nzQ h20
  try have hr52:=mpQ nh20
  refine jp _ (⟨[(0,.ptr 0 0),(2,.ptr 1 0),(3,.ptr 2 0),(4,.sl none 1 false (p19.2.map (V.int .i64)))],[(0,.lent (ks 0) 2 true (.agg [.str p19.1.s,.bool p19.1.bad])),(1,.var 2 true (.agg [.sl none 1 false (p1.2.1.Y.map (V.int .i64)),.sl none 1 false (p1.2.1.Bases.map (fun (l:List Int)=>V.sl none 1 false (l.map (V.int .i64))))])),(2,.var 2 true (.agg [.own 3,.own 4])),(3,.own 3 1 false (some false) ((p1.2.2.1++([x2.1]:List Int)).map (V.int .i64))),(4,.own 22 1 false none (p1.2.2.2.map (fun (l:List Int)=>V.sl none 1 false (l.map (V.int .i64))))),(10,.pown 1 false none (p19.2.map (V.int .i64)))],11⟩:St) ((uv (S:=⟨_,_,_⟩) 10 (T:=3) (n:=1) (g:=false) (z:=none) (l:=p19.2.map (V.int .i64)) clQ).trans (uw (S:=⟨_,_,_⟩) 4 10 (n:=1) (g:=false) (z:=none) (l:=p19.2.map (V.int .i64)) clQ clQ)) sbQ sbQ ?_
  try refine spQ ?_
  refine bc omQ ?_
  refine spQ ?_
  refine bX (fun h53=> ?_) (fun h53=> ?_)
  ·rw [if_neg (av h53)] at hM
   refine aa h53 ?_
   have nh53:=nzQ h53
   try have hr54:=mpQ nh53
   have hM0:=hM;clear hM;obtain ⟨x55,hx56,hM⟩:=aA hM0;clear hM0
   have hcx55:=gR ({s:=p19.1.s,bad:=false}:ah) ([93])
   rw [←hx56] at hcx55
   refine bJ [0] hcx55 (by decide) lsQ lsQ (fun hw57=> ?_)
   replace hw57:=nzQ hw57
   refine spQ ?_
   have hq58:=cV hx56
   replace hq58:=nzQ hq58
   have hq59:=de hx56 (by decide)
   replace hq59:=nzQ hq59
   have hq60:=eT x55.2.bad
   replace hq60:=nzQ hq60
   refine aG (fun h61=> ?_) (fun h61=> ?_)
   ·rw [if_pos h61] at hM
    refine aa h61 ?_
    have nh61:=nzQ h61
    try have hr62:=mpQ nh61
    subst hM
    exact aW [0] (aw (And.intro h20 (And.intro h53 h61))) (by decide) (aw (And.intro h20 (And.intro h53 h61)))
   ·rw [if_neg (av h61)] at hM
    refine aa h61 ?_
    have nh61:=nzQ h61
    try have hr63:=mpQ nh61
    have hM0:=hM;clear hM;obtain ⟨x64,hx65,hM⟩:=aA hM0;clear hM0
    have hcx64:=lB (x55.2) ([44,32])
    rw [←hx65] at hcx64
    refine bJ [0] hcx64 (by decide) lsQ lsQ (fun hw66=> ?_)
    replace hw66:=nzQ hw66
    refine spQ ?_
    have hq67:=dG hx65
    replace hq67:=nzQ hq67
    refine ce (n1 - 1) _ (by omega) sbQ sbQ ⟨(x64,p1.2.1,(p1.2.2.1++([x2.1]:List Int)),(p1.2.2.2++([p19.2]:List (List Int)))),rfl,⟨omQ,omQ⟩,omQ,cg hM hag1⟩
  ·rw [if_pos h53] at hM
   refine aa h53 ?_
   have nh53:=nzQ h53
   try have hr68:=mpQ nh53
   subst hM
   exact aW [0] (aw (And.intro h20 h53)) (by decide) (aw (And.intro h20 h53))
set_option maxHeartbeats 2000000 in
set_option maxRecDepth 100000 in
theorem D0 (N:Nat) (ih: ∀(p_:ah),(p_.s.length≤8000)→p_.s.length<N→bn En 30 [.ptr 0 0] [.var 2 true (.agg [.str p_.s,.bool p_.bad])] (.agg [.int .i64 (bm p_).1.Kind,.sl none 1 false ((bm p_).1.Relation.Y.map (V.int .i64)),.sl none 1 false ((bm p_).1.Relation.Bases.map (fun (l:List Int)=>V.sl none 1 false (l.map (V.int .i64)))),.sl none 4 true ((bm p_).1.L.map ay)]) [.var 2 true (.agg [.str (bm p_).2.s,.bool (bm p_).2.bad])] []) (p_:ah) (hp0:p_.s.length≤8000) (hp_:p_.s.length<N+1):bn En 30 [.ptr 0 0] [.var 2 true (.agg [.str p_.s,.bool p_.bad])] (.agg [.int .i64 (ft p_).1.Kind,.sl none 1 false ((ft p_).1.Relation.Y.map (V.int .i64)),.sl none 1 false ((ft p_).1.Relation.Bases.map (fun (l:List Int)=>V.sl none 1 false (l.map (V.int .i64)))),.sl none 4 true ((ft p_).1.L.map ay)]) [.var 2 true (.agg [.str (ft p_).2.s,.bool (ft p_).2.bad])] []:=by
 generalize hM:ft p_=r
 rw [ft.eq_1] at hM
 refine dr az aC [11] Tryz.func30 rfl Tryz.ntmps30 (by kernel_rfl) rfl fun ks hw hwB=>aB ?_
 refine spQ ?_
 replace hw:=nzQ hw
 replace hwB:=nzB hwB
 have hM0:=hM;clear hM;obtain ⟨j1,hj1,hM⟩:=jm hM0;clear hM0
 refine jj (fun S=> ∃p:List UInt8×Bool×Int,S=(⟨[(0,.ptr 0 0),(2,.ptr 1 0),(3,.ptr 2 0)],[(0,.lent (ks 0) 2 true (.agg [.str p.1,.bool p.2.1])),(1,.var 4 true (.agg [.int .i64 0,.sl (some true) 1 false [],.sl (some true) 1 false [],.sl (some true) 4 true []])),(2,.var 4 true (.agg [.int .i64 p.2.2,.sl (some true) 1 false [],.sl (some true) 1 false [],.sl (some true) 4 true []]))],3⟩:St)∧(((((({s:=p.1,bad:=p.2.1}:ah)).s.length:Int)<(p_.s.length:Int))))∧j1 p=r) ?_ (fun hcut1=> ?_)
 ·clear hM
  rintro S ⟨p1,rfl,hfa1,hM⟩
  replace hfa1:=nzQ hfa1
  have hM0:=hM;clear hM;have hM:=jn hM0 hj1;clear hM0
  try refine spQ ?_
  have hM0:=hM;clear hM;obtain ⟨f2,d2,hf2,hd2,hM⟩:=bv hM0;clear hM0
  refine kB (fun n S=> ∃p:ah×Int×List Int×List (List Int)×List ab×List ab,S=(⟨[(0,.ptr 0 0),(2,.ptr 1 0),(3,.ptr 2 0)],[(0,.lent (ks 0) 2 true (.agg [.str p.1.s,.bool p.1.bad])),(1,.var 4 true (.agg [.int .i64 p.2.1,.sl none 1 false (p.2.2.1.map (V.int .i64)),.sl none 1 false (p.2.2.2.1.map (fun (l:List Int)=>V.sl none 1 false (l.map (V.int .i64)))),.sl none 4 true (p.2.2.2.2.1.map ay)])),(2,.var 4 true (.agg [.int .i64 p1.2.2,.sl (some true) 1 false [],.sl (some true) 1 false [],.own 3])),(3,.own 28 4 true none (p.2.2.2.2.2.map ay))],4⟩:St)∧((((p.1).s.length:Int)+((p.2.2.2.2.2).length:Int)<(p_.s.length:Int)))∧(p.1).s.length<n∧ap n f2 d2 p=r) ((({s:=p1.1,bad:=p1.2.1}:ah)).s.length+1) _ _ (qB 2 3 28 rfl rfl (by decide)) sbQ sbQ ⟨(({s:=p1.1,bad:=p1.2.1}:ah),0,([]:List Int),([]:List (List Int)),([]:List ab),([]:List ab)),rfl,omQ,(Nat.lt_succ_self _),hM⟩ ?_
  clear hM
  rintro n2 S ⟨p2,rfl,hfa2,hm2,hM⟩
  have hM0:=hM;clear hM;obtain ⟨ag2,hag2,hM⟩:=bw hM0 (by omega) hf2;clear hM0
  replace hfa2:=nzQ hfa2
  replace hm2:=nzQ hm2
  refine spQ ?_
  refine jk 42 5 [24,25,26,27,28] [] ([[],[0],[],[2],[2,3]]++[List.range 5,List.range 6,List.range 7]) [(3,0)] (by kernel_rfl) (by exact alQ) ?_
  refine spQ ?_
  have hM0:=hM;clear hM;obtain ⟨x3,hx4,hM⟩:=aA hM0;clear hM0
  have hcx3:=ih (p2.1) (by (exact pfQ)) (by omega)
  rw [←hx4] at hcx3
  refine uT 0 hcx3 rfl rfl lsQ lsQ lsQ lsQ lsQ ?_
  refine spQ ?_
  have hq5:=DE hx4
  replace hq5:=nzQ hq5
  have hq6:=eT x3.2.bad
  replace hq6:=nzQ hq6
  refine bc omQ ?_
  refine spQ ?_
  refine bX (fun h7=> ?_) (fun h7=> ?_)
  ·rw [if_neg (av h7)] at hM
   refine aa h7 ?_
   have nh7:=nzQ h7
   try have hr8:=mpQ nh7
   have hM0:=hM;clear hM;obtain ⟨x9,hx10,hM⟩:=aA hM0;clear hM0
   have hcx9:=gR ({s:=x3.2.s,bad:=false}:ah) ([41])
   rw [←hx10] at hcx9
   refine bJ [0] hcx9 (by decide) lsQ lsQ (fun hw11=> ?_)
   replace hw11:=nzQ hw11
   refine spQ ?_
   have hq12:=cV hx10
   replace hq12:=nzQ hq12
   have hq13:=de hx10 (by decide)
   replace hq13:=nzQ hq13
   have hq14:=eT x9.2.bad
   replace hq14:=nzQ hq14
   refine aG (fun h15=> ?_) (fun h15=> ?_)
   ·rw [if_pos h15] at hM
    refine aa h15 ?_
    have nh15:=nzQ h15
    try have hr16:=mpQ nh15
    subst hM
    exact aW [0] (aw (And.intro h7 h15)) (by decide) (aw (And.intro h7 h15))
   ·rw [if_neg (av h15)] at hM
    refine aa h15 ?_
    have nh15:=nzQ h15
    try have hr17:=mpQ nh15
    have hM0:=hM;clear hM;obtain ⟨x18,hx19,hM⟩:=aA hM0;clear hM0
    have hcx18:=lB (x9.2) ([44,32])
    rw [←hx19] at hcx18
    refine bJ [0] hcx18 (by decide) lsQ lsQ (fun hw20=> ?_)
    replace hw20:=nzQ hw20
    refine spQ ?_
    have hq21:=dG hx19
    replace hq21:=nzQ hq21
    refine ce (n2 - 1) _ (by omega) sbQ sbQ ⟨(x18,p2.2.1,p2.2.2.1,p2.2.2.2.1,p2.2.2.2.2.1,(p2.2.2.2.2.2++([x3.1]:List ab))),rfl,omQ,omQ,cg hM hag2⟩
  ·rw [if_pos h7] at hM
   refine aa h7 ?_
   have nh7:=nzQ h7
   try have hr22:=mpQ nh7
   subst hM
   exact aW [0] (aw h7) (by decide) (aw h7)
 ·refine spQ ?_
  have hM0:=hM;clear hM;obtain ⟨x23,hx24,hM⟩:=aA hM0;clear hM0
  have hcx23:=gR p_ ([91])
  rw [←hx24] at hcx23
  refine bJ [0] hcx23 (by decide) lsQ lsQ (fun hw25=> ?_)
  replace hw25:=nzQ hw25
  refine spQ ?_
  have hq26:=cV hx24
  replace hq26:=nzQ hq26
  have hq27:=de hx24 (by decide)
  replace hq27:=nzQ hq27
  have hq28:=eT x23.2.bad
  replace hq28:=nzQ hq28
  refine aG (fun h29=> ?_) (fun h29=> ?_)
  ·rw [if_pos h29] at hM
   refine aa h29 ?_
   have nh29:=nzQ h29
   try have hr30:=mpQ nh29
   have hM0:=hM;clear hM;obtain ⟨x31,hx32,hM⟩:=aA hM0;clear hM0
   have hcx31:=DZ (x23.2) (by (exact pfQ))
   rw [←hx32] at hcx31
   refine bJ [0] hcx31 (by decide) lsQ lsQ (fun hw33=> ?_)
   replace hw33:=nzQ hw33
   refine spQ ?_
   have hq34:=DC hx32
   replace hq34:=nzQ hq34
   subst hM
   exact aW [0] (aw h29) (by decide) (aw h29)
  ·rw [if_neg (av h29)] at hM
   refine aa h29 ?_
   have nh29:=nzQ h29
   try have hr35:=mpQ nh29
   have hM0:=hM;clear hM;obtain ⟨x36,hx37,hM⟩:=aA hM0;clear hM0
   have hcx36:=gR (x23.2) ([97,110,100,40])
   rw [←hx37] at hcx36
   refine bJ [0] hcx36 (by decide) lsQ lsQ (fun hw38=> ?_)
   replace hw38:=nzQ hw38
   refine spQ ?_
   have hq39:=cV hx37
   replace hq39:=nzQ hq39
   have hq40:=de hx37 (by decide)
   replace hq40:=nzQ hq40
   have hq41:=eT x36.2.bad
   replace hq41:=nzQ hq41
   refine aG (fun h42=> ?_) (fun h42=> ?_)
   ·rw [if_pos h42] at hM
    refine aa h42 ?_
    have nh42:=nzQ h42
    try have hr43:=mpQ nh42
    exact dE _ sbQ sbQ (hcut1 _ ⟨(x36.2.s,x36.2.bad,2),rfl,omQ,hM⟩)
   ·rw [if_neg (av h42)] at hM
    refine aa h42 ?_
    have nh42:=nzQ h42
    try have hr44:=mpQ nh42
    have hM0:=hM;clear hM;obtain ⟨x45,hx46,hM⟩:=aA hM0;clear hM0
    have hcx45:=gR (x36.2) ([111,114,40])
    rw [←hx46] at hcx45
    refine bJ [0] hcx45 (by decide) lsQ lsQ (fun hw47=> ?_)
    replace hw47:=nzQ hw47
    refine spQ ?_
    have hq48:=cV hx46
    replace hq48:=nzQ hq48
    have hq49:=de hx46 (by decide)
    replace hq49:=nzQ hq49
    have hq50:=eT x45.2.bad
    replace hq50:=nzQ hq50
    refine aG (fun h51=> ?_) (fun h51=> ?_)
    ·rw [if_pos h51] at hM
     refine aa h51 ?_
     have nh51:=nzQ h51
     try have hr52:=mpQ nh51
     exact dE _ sbQ sbQ (hcut1 _ ⟨(x45.2.s,x45.2.bad,3),rfl,omQ,hM⟩)
    ·rw [if_neg (av h51)] at hM
     refine aa h51 ?_
     have nh51:=nzQ h51
     try have hr53:=mpQ nh51
     subst hM
     exact aW [0] (aw (And.intro h29 (And.intro h42 h51))) (by decide) (aw (And.intro h29 (And.intro h42 h51)))
theorem D1: ∀(N:Nat) (p_:ah),(p_.s.length≤8000)→p_.s.length<N→bn En 30 [.ptr 0 0] [.var 2 true (.agg [.str p_.s,.bool p_.bad])] (.agg [.int .i64 (bm p_).1.Kind,.sl none 1 false ((bm p_).1.Relation.Y.map (V.int .i64)),.sl none 1 false ((bm p_).1.Relation.Bases.map (fun (l:List Int)=>V.sl none 1 false (l.map (V.int .i64)))),.sl none 4 true ((bm p_).1.L.map ay)]) [.var 2 true (.agg [.str (bm p_).2.s,.bool (bm p_).2.bad])] []:=by
 intro N
 induction N with
 | zero=>intro p_ h0 h;exact absurd h (Nat.not_lt_zero _)
 | succ N ih=>
  intro p_ h0 h
  have h9:=D0 N ih p_ h0 h
  rw [DF] at h9
  exact h9
theorem D2 (p_:ah) (hp0:p_.s.length≤8000):bn En 30 [.ptr 0 0] [.var 2 true (.agg [.str p_.s,.bool p_.bad])] (.agg [.int .i64 (bm p_).1.Kind,.sl none 1 false ((bm p_).1.Relation.Y.map (V.int .i64)),.sl none 1 false ((bm p_).1.Relation.Bases.map (fun (l:List Int)=>V.sl none 1 false (l.map (V.int .i64)))),.sl none 4 true ((bm p_).1.L.map ay)]) [.var 2 true (.agg [.str (bm p_).2.s,.bool (bm p_).2.bad])] []:=
 D1 (p_.s.length+1) p_ hp0 (Nat.lt_succ_self _)
set_option maxHeartbeats 2000000 in
set_option maxRecDepth 100000 in
instance Gv (x_:Int):CM En (iw x_) 138 [.int .i64 x_] (fun y=> .bool y) (fun _=> []):=by
 refine cmQ fun r hM=> ?_
 rw [iw.eq_1] at hM
 refine aI az aC noJ Tryz.func138 rfl Tryz.ntmps138 (by kernel_rfl) fun hw=>aB ?_
 refine spQ ?_
 replace hw:=nzQ hw
 have hF:=bz
 exact auQ
set_option maxHeartbeats 2000000 in
set_option maxRecDepth 100000 in
instance Gw (s:(List Int)):CM En (qO s) 184 [.sl none 1 false (s.map (V.int .i64)),.fn 138 []] (fun y=> .int .i64 y) (fun _=> []):=by
 refine cmQ fun r hM=> ?_
 rw [qO.eq_1] at hM
 refine aI az aC noJ Tryz.func184 rfl Tryz.ntmps184 (by kernel_rfl) fun hw=>aB ?_
 refine spQ ?_
 replace hw:=nzQ hw
 have hM0:=hM;clear hM;obtain ⟨f1,d1,hf1,hd1,hM⟩:=bv hM0;clear hM0
 refine bL (fun n S=> ∃p:Int,S=(⟨[(0,.sl none 1 false (s.map (V.int .i64))),(1,.fn 138 []),(7,.int .i64 (s.length:Int)),(8,.int .i64 p)],[],0⟩:St)∧((0≤p)∧(p≤(s.length:Int)))∧((s.length:Int) - p).toNat<n∧ap n f1 d1 p=r) (((s.length:Int) - 0).toNat+1) _ sbQ sbQ ⟨0,rfl,⟨omQ,omQ⟩,(Nat.lt_succ_self _),hM⟩ ?_
 clear hM
 rintro n1 S ⟨p1,rfl,hfa1,hm1,hM⟩
 have hM0:=hM;clear hM;obtain ⟨ag1,hag1,hM⟩:=bw hM0 (by omega) hf1;clear hM0
 replace hfa1:=nzQ hfa1
 replace hm1:=nzQ hm1
 have ha1:aE .i64 p1 1=p1+1:=bQ omQ omQ
 refine aa ha1 ?_
 have hF:=ha1
 exact auQ
set_option maxHeartbeats 2000000 in
set_option maxRecDepth 100000 in
instance Gx (s:(List Int)):CM En (ny s) 128 [.sl none 1 false (s.map (V.int .i64)),.fn 138 []] (fun y=> .bool y) (fun _=> []):=by
 refine cmQ fun r hM=> ?_
 rw [ny.eq_1] at hM
 refine aI az aC noJ Tryz.func128 rfl Tryz.ntmps128 (by kernel_rfl) fun hw=>aB ?_
 refine spQ ?_
 replace hw:=nzQ hw
 have hF:=bz
 exact auQ
set_option maxHeartbeats 2000000 in
set_option maxRecDepth 100000 in
instance Gy (l:(List Int)):CM En (ix l) 77 [.sl none 1 false (l.map (V.int .i64))] (fun y=> .bool y) (fun _=> []):=by
 refine cmQ fun r hM=> ?_
 rw [ix.eq_1] at hM
 refine aI az aC noJ Tryz.func77 rfl Tryz.ntmps77 (by kernel_rfl) fun hw=>aB ?_
 refine spQ ?_
 replace hw:=nzQ hw
 have hF:=bz
 exact auQ
set_option maxHeartbeats 2000000 in
set_option maxRecDepth 100000 in
instance Gz (row:(List Int)) (c0:Int):CM En (iy row c0) 78 [.sl none 1 false (row.map (V.int .i64)),.pp 1 false (.int .i64 c0)] (fun y=> .bool y) (fun _=> []):=by
 refine cmQ fun r hM=> ?_
 rw [iy.eq_1] at hM
 refine aI az aC noJ Tryz.func78 rfl Tryz.ntmps78 (by kernel_rfl) fun hw=>aB ?_
 refine spQ ?_
 replace hw:=nzQ hw
 have hF:=bz
 exact auQ
set_option maxHeartbeats 2000000 in
set_option maxRecDepth 100000 in
instance GA (s:(List (List Int))) (f__c0:Int):CM En (qP s f__c0) 134 [.sl none 1 false (s.map (fun (l:List Int)=>V.sl none 1 false (l.map (V.int .i64)))),.fn 78 [.pp 1 false (.int .i64 f__c0)]] (fun y=> .int .i64 y) (fun _=> []):=by
 refine cmQ fun r hM=> ?_
 rw [qP.eq_1] at hM
 refine aI az aC noJ Tryz.func134 rfl Tryz.ntmps134 (by kernel_rfl) fun hw=>aB ?_
 refine spQ ?_
 replace hw:=nzQ hw
 have hM0:=hM;clear hM;obtain ⟨f1,d1,hf1,hd1,hM⟩:=bv hM0;clear hM0
 refine bL (fun n S=> ∃p:Int,S=(⟨[(0,.sl none 1 false (s.map (fun (l:List Int)=>V.sl none 1 false (l.map (V.int .i64))))),(1,.fn 78 [.pp 1 false (.int .i64 f__c0)]),(7,.int .i64 (s.length:Int)),(8,.int .i64 p)],[],0⟩:St)∧((0≤p)∧(p≤(s.length:Int)))∧((s.length:Int) - p).toNat<n∧ap n f1 d1 p=r) (((s.length:Int) - 0).toNat+1) _ sbQ sbQ ⟨0,rfl,⟨omQ,omQ⟩,(Nat.lt_succ_self _),hM⟩ ?_
 clear hM
 rintro n1 S ⟨p1,rfl,hfa1,hm1,hM⟩
 have hM0:=hM;clear hM;obtain ⟨ag1,hag1,hM⟩:=bw hM0 (by omega) hf1;clear hM0
 replace hfa1:=nzQ hfa1
 replace hm1:=nzQ hm1
 have ha1:aE .i64 p1 1=p1+1:=bQ omQ omQ
 refine aa ha1 ?_
 have hF:=ha1
 exact auQ
set_option maxHeartbeats 2000000 in
set_option maxRecDepth 100000 in
instance GB (s:(List (List Int))) (f__c0:Int):CM En (nz s f__c0) 69 [.sl none 1 false (s.map (fun (l:List Int)=>V.sl none 1 false (l.map (V.int .i64)))),.fn 78 [.pp 1 false (.int .i64 f__c0)]] (fun y=> .bool y) (fun _=> []):=by
 refine cmQ fun r hM=> ?_
 rw [nz.eq_1] at hM
 refine aI az aC noJ Tryz.func69 rfl Tryz.ntmps69 (by kernel_rfl) fun hw=>aB ?_
 refine spQ ?_
 replace hw:=nzQ hw
 have hF:=bz
 exact auQ
set_option maxHeartbeats 2000000 in
set_option maxRecDepth 100000 in
instance GC (r_:aL):CM En (kZ r_) 76 [.agg [.sl none 1 false (r_.Y.map (V.int .i64)),.sl none 1 false (r_.Bases.map (fun (l:List Int)=>V.sl none 1 false (l.map (V.int .i64))))]] (fun y=> .bool y) (fun _=> []):=by
 refine cmQ fun r hM=> ?_
 rw [kZ.eq_1] at hM
 refine aI az aC noJ Tryz.func76 rfl Tryz.ntmps76 (by kernel_rfl) fun hw=>aB ?_
 refine spQ ?_
 replace hw:=nzQ hw
 have hF:=bz
 exact auQ
set_option maxHeartbeats 2000000 in
set_option maxRecDepth 100000 in
instance GD (f_:ab):CM En (bB f_) 137 [.agg [.int .i64 f_.Kind,.sl none 1 false (f_.Relation.Y.map (V.int .i64)),.sl none 1 false (f_.Relation.Bases.map (fun (l:List Int)=>V.sl none 1 false (l.map (V.int .i64)))),.sl none 4 true (f_.L.map ay)],.pp 1 false (.fn 76 [])] (fun y=> .bool y) (fun _=> []):=by
 refine cmQ fun r hM=> ?_
 rw [bB.eq_1] at hM
 refine aI az aC [6] Tryz.func137 rfl Tryz.ntmps137 (by kernel_rfl) fun hw=>aB ?_
 refine spQ ?_
 replace hw:=nzQ hw
 refine aG (fun h1=> ?_) (fun h1=> ?_)
 ·rw [if_pos h1] at hM
  refine aa h1 ?_
  have nh1:=nzQ h1
  try have hr2:=mpQ nh1
  have hF:=h1
  exact auQ
 ·rw [if_neg (av h1)] at hM
  refine aa h1 ?_
  have nh1:=nzQ h1
  try have hr9:=mpQ nh1
  have hM0:=hM;clear hM;obtain ⟨j10,hj10,hM⟩:=jm hM0;clear hM0
  refine jj (fun S=> ∃p:Bool,S=(⟨[(2,.ptr 0 0),(18,.bool p)],[(0,.var 4 true (.agg [.int .i64 f_.Kind,.sl none 1 false (f_.Relation.Y.map (V.int .i64)),.sl none 1 false (f_.Relation.Bases.map (fun (l:List Int)=>V.sl none 1 false (l.map (V.int .i64)))),.sl none 4 true (f_.L.map ay)]))],1⟩:St)∧(True)∧j10 p=r) ?_ (fun hcut10=> ?_)
  ·clear hM
   rintro S ⟨p10,rfl,hfa10,hM⟩
   have hM0:=hM;clear hM;have hM:=jn hM0 hj10;clear hM0
   try refine spQ ?_
   have hF:=h1
   exact auQ
  ·refine spQ ?_
   refine aG (fun h21=> ?_) (fun h21=> ?_)
   ·rw [if_pos h21] at hM
    refine aa h21 ?_
    have nh21:=nzQ h21
    try have hr22:=mpQ nh21
    exact dE _ sbQ sbQ (hcut10 _ ⟨true,rfl,trivial,hM⟩)
   ·rw [if_neg (av h21)] at hM
    refine aa h21 ?_
    have nh21:=nzQ h21
    try have hr23:=mpQ nh21
    exact dE _ sbQ sbQ (hcut10 _ ⟨(f_.Kind==3),rfl,trivial,hM⟩)
set_option maxHeartbeats 2000000 in
set_option maxRecDepth 100000 in
theorem D3 (N:Nat) (ih: ∀(f_:ab) (depth:Int) (left:Int),aN f_<N→bn En 136 [.agg [.int .i64 f_.Kind,.sl none 1 false (f_.Relation.Y.map (V.int .i64)),.sl none 1 false (f_.Relation.Bases.map (fun (l:List Int)=>V.sl none 1 false (l.map (V.int .i64)))),.sl none 4 true (f_.L.map ay)],.int .i64 depth,.ptr 0 0,.fn 137 [.pp 1 false (.fn 76 [])]] [.var 1 false (.int .i64 left)] (.bool ((bN bB) f_ depth left).1) [.var 1 false (.int .i64 ((bN bB) f_ depth left).2)] []) (f_:ab) (depth:Int) (left:Int) (hp_:aN f_<N+1):bn En 136 [.agg [.int .i64 f_.Kind,.sl none 1 false (f_.Relation.Y.map (V.int .i64)),.sl none 1 false (f_.Relation.Bases.map (fun (l:List Int)=>V.sl none 1 false (l.map (V.int .i64)))),.sl none 4 true (f_.L.map ay)],.int .i64 depth,.ptr 0 0,.fn 137 [.pp 1 false (.fn 76 [])]] [.var 1 false (.int .i64 left)] (.bool (jw f_ depth left).1) [.var 1 false (.int .i64 (jw f_ depth left).2)] []:=by
 generalize hM:jw f_ depth left=r
 rw [jw.eq_1] at hM
 refine dr az aC noJ Tryz.func136 rfl Tryz.ntmps136 (by kernel_rfl) rfl fun ks hw hwB=>aB ?_
 refine spQ ?_
 replace hw:=nzQ hw
 replace hwB:=nzB hwB
 refine bX (fun h1=> ?_) (fun h1=> ?_)
 ·rw [if_neg (av h1)] at hM
  refine aa h1 ?_
  have nh1:=nzQ h1
  try have hr2:=mpQ nh1
  refine bX (fun h3=> ?_) (fun h3=> ?_)
  ·rw [if_neg (av h3)] at hM
   refine aa h3 ?_
   have nh3:=nzQ h3
   try have hr4:=mpQ nh3
   have hM0:=hM;clear hM;obtain ⟨x5,hx6,hM⟩:=aA hM0;clear hM0
   have hcx5:=cmU hx6
   refine aT hcx5 clQ clQ (fun hw7=> ?_)
   replace hw7:=nzQ hw7
   refine spQ ?_
   refine aG (fun h8=> ?_) (fun h8=> ?_)
   ·rw [if_pos h8] at hM
    refine aa h8 ?_
    have nh8:=nzQ h8
    try have hr9:=mpQ nh8
    subst hM
    exact aW [0] (aw (And.intro h1 (And.intro h3 h8))) (by decide) (aw (And.intro h1 (And.intro h3 h8)))
   ·rw [if_neg (av h8)] at hM
    refine aa h8 ?_
    have nh8:=nzQ h8
    try have hr10:=mpQ nh8
    have hM0:=hM;clear hM;obtain ⟨f11,d11,hf11,hd11,hM⟩:=bv hM0;clear hM0
    refine bL (fun n S=> ∃p:Int×Int,S=(⟨[(1,.int .i64 depth),(2,.ptr 0 0),(3,.fn 137 [.pp 1 false (.fn 76 [])]),(31,.sl none 4 true (f_.L.map ay)),(32,.int .i64 (f_.L.length:Int)),(33,.int .i64 p.1)],[(0,.lent (ks 0) 1 false (.int .i64 p.2))],2⟩:St)∧((0≤p.1)∧(p.1≤(f_.L.length:Int)))∧((f_.L.length:Int) - p.1).toNat<n∧ap n f11 d11 p=r) (((f_.L.length:Int) - 0).toNat+1) _ sbQ sbQ ⟨(0,(an .i64 left 1)),rfl,⟨omQ,omQ⟩,(Nat.lt_succ_self _),hM⟩ ?_
    clear hM
    rintro n11 S ⟨p11,rfl,hfa11,hm11,hM⟩
    have hM0:=hM;clear hM;obtain ⟨ag11,hag11,hM⟩:=bw hM0 (by omega) hf11;clear hM0
    replace hfa11:=nzQ hfa11
    replace hm11:=nzQ hm11
    have ha11:aE .i64 p11.1 1=p11.1+1:=bQ omQ omQ
    refine aa ha11 ?_
    refine aG (fun h12=> ?_) (fun h12=> ?_)
    ·rw [if_pos h12] at hM
     refine aa (And.intro ha11 h12) ?_
     have nh12:=nzQ h12
     try have hr13:=mpQ nh12
     refine bc omQ ?_
     have he14:=fun d=>da (l:=f_.L) (f:=ay) (i:=p11.1) omQ d
     refine aa (And.intro ha11 he14) ?_
     have hM0:=hM;clear hM;obtain ⟨x15,hx16,hM⟩:=aA hM0;clear hM0
     have hcx15:=ih (gt f_.L p11.1) (aE .i64 depth 1) (p11.2) (by (have h9:=dX (f:=f_) (bF (l:=f_.L) (i:=p11.1) (by omega));omega))
     rw [←hx16] at hcx15
     refine bJ [0] hcx15 (by decide) (aw (And.intro ha11 he14)) (aw (And.intro ha11 he14)) (fun hw17=> ?_)
     replace hw17:=nzQ hw17
     refine aa (And.intro ha11 he14) ?_
     refine aG (fun h18=> ?_) (fun h18=> ?_)
     ·rw [if_pos h18] at hM
      refine aa (And.intro ha11 (And.intro he14 h18)) ?_
      have nh18:=nzQ h18
      try have hr19:=mpQ nh18
      subst hM
      exact aW [0] (aw (And.intro ha11 (And.intro he14 (And.intro h1 (And.intro h3 (And.intro h8 (And.intro h12 h18))))))) (by decide) (aw (And.intro ha11 (And.intro he14 (And.intro h1 (And.intro h3 (And.intro h8 (And.intro h12 h18)))))))
     ·rw [if_neg (av h18)] at hM
      refine aa (And.intro ha11 (And.intro he14 h18)) ?_
      have nh18:=nzQ h18
      try have hr20:=mpQ nh18
      refine ce (n11 - 1) _ (by omega) sbQ sbQ ⟨((p11.1+1),x15.2),rfl,⟨omQ,omQ⟩,omQ,cg hM hag11⟩
    ·rw [if_neg (av h12)] at hM
     refine aa (And.intro ha11 h12) ?_
     have nh12:=nzQ h12
     try have hr21:=mpQ nh12
     subst hM
     exact aW [0] (aw (And.intro ha11 (And.intro h1 (And.intro h3 (And.intro h8 h12))))) (by decide) (aw (And.intro ha11 (And.intro h1 (And.intro h3 (And.intro h8 h12)))))
  ·rw [if_pos h3] at hM
   refine aa h3 ?_
   have nh3:=nzQ h3
   try have hr22:=mpQ nh3
   subst hM
   exact aW [0] (aw (And.intro h1 h3)) (by decide) (aw (And.intro h1 h3))
 ·rw [if_pos h1] at hM
  refine aa h1 ?_
  have nh1:=nzQ h1
  try have hr23:=mpQ nh1
  subst hM
  exact aW [0] (aw h1) (by decide) (aw h1)
theorem D4: ∀(N:Nat) (f_:ab) (depth:Int) (left:Int),aN f_<N→bn En 136 [.agg [.int .i64 f_.Kind,.sl none 1 false (f_.Relation.Y.map (V.int .i64)),.sl none 1 false (f_.Relation.Bases.map (fun (l:List Int)=>V.sl none 1 false (l.map (V.int .i64)))),.sl none 4 true (f_.L.map ay)],.int .i64 depth,.ptr 0 0,.fn 137 [.pp 1 false (.fn 76 [])]] [.var 1 false (.int .i64 left)] (.bool ((bN bB) f_ depth left).1) [.var 1 false (.int .i64 ((bN bB) f_ depth left).2)] []:=by
 intro N
 induction N with
 | zero=>intro f_ depth left h;exact absurd h (Nat.not_lt_zero _)
 | succ N ih=>
  intro f_ depth left h
  have h9:=D3 N ih f_ depth left h
  rw [Du] at h9
  exact h9
theorem D5 (f_:ab) (depth:Int) (left:Int):bn En 136 [.agg [.int .i64 f_.Kind,.sl none 1 false (f_.Relation.Y.map (V.int .i64)),.sl none 1 false (f_.Relation.Bases.map (fun (l:List Int)=>V.sl none 1 false (l.map (V.int .i64)))),.sl none 4 true (f_.L.map ay)],.int .i64 depth,.ptr 0 0,.fn 137 [.pp 1 false (.fn 76 [])]] [.var 1 false (.int .i64 left)] (.bool ((bN bB) f_ depth left).1) [.var 1 false (.int .i64 ((bN bB) f_ depth left).2)] []:=
 D4 (aN f_+1) f_ depth left (Nat.lt_succ_self _)
set_option maxHeartbeats 2000000 in
set_option maxRecDepth 100000 in
instance GE (f_:ab):CM En (qQ f_) 75 [.agg [.int .i64 f_.Kind,.sl none 1 false (f_.Relation.Y.map (V.int .i64)),.sl none 1 false (f_.Relation.Bases.map (fun (l:List Int)=>V.sl none 1 false (l.map (V.int .i64)))),.sl none 4 true (f_.L.map ay)],.fn 76 []] (fun y=> .bool y) (fun _=> []):=by
 refine cmQ fun r hM=> ?_
 rw [qQ.eq_1] at hM
 refine aI az aC [2] Tryz.func75 rfl Tryz.ntmps75 (by kernel_rfl) fun hw=>aB ?_
 refine spQ ?_
 replace hw:=nzQ hw
 refine kO ?_
 try refine spQ ?_
 refine jp _ (⟨[(2,.ptr 0 0),(3,.pp 1 false (.fn 76 [])),(5,.ptr 2 0)],[(0,.var 4 true (.agg [.int .i64 f_.Kind,.sl none 1 false (f_.Relation.Y.map (V.int .i64)),.sl none 1 false (f_.Relation.Bases.map (fun (l:List Int)=>V.sl none 1 false (l.map (V.int .i64)))),.sl none 4 true (f_.L.map ay)])),(1,.pvar 1 false (.fn 76 [])),(2,.var 1 false (.int .i64 30))],3⟩:St) ((kJ (S:=⟨_,_,_⟩) 1 (n:=1) (g:=false) (d:= .fn 76 []) clQ clQ).trans (lw (S:=⟨_,_,_⟩) 3 1 (n:=1) (g:=false) (d:= .fn 76 []) clQ clQ)) sbQ sbQ ?_
 try refine spQ ?_
 have hM0:=hM;clear hM;obtain ⟨x1,hx2,hM⟩:=aA hM0;clear hM0
 have hcx1:=D5 f_ 1 30
 rw [←hx2] at hcx1
 refine bJ [2] hcx1 (by decide) lsQ lsQ (fun hw3=> ?_)
 replace hw3:=nzQ hw3
 refine spQ ?_
 subst hM
 exact aU lfQ
set_option maxHeartbeats 2000000 in
set_option maxRecDepth 100000 in
instance GF (f_:ab):CM En (du f_) 28 [.agg [.int .i64 f_.Kind,.sl none 1 false (f_.Relation.Y.map (V.int .i64)),.sl none 1 false (f_.Relation.Bases.map (fun (l:List Int)=>V.sl none 1 false (l.map (V.int .i64)))),.sl none 4 true (f_.L.map ay)]] (fun y=> .bool y) (fun _=> []):=by
 refine cmQ fun r hM=> ?_
 rw [du.eq_1] at hM
 refine aI az aC noJ Tryz.func28 rfl Tryz.ntmps28 (by kernel_rfl) fun hw=>aB ?_
 refine spQ ?_
 replace hw:=nzQ hw
 have hF:=bz
 exact auQ
set_option maxHeartbeats 2000000 in
set_option maxRecDepth 100000 in
instance GG (s:(List UInt8)):CM En (et s) 8 [.str s] (fun y=> .tup [.agg [.int .i64 y.1.Kind,.sl none 1 false (y.1.Relation.Y.map (V.int .i64)),.sl none 1 false (y.1.Relation.Bases.map (fun (l:List Int)=>V.sl none 1 false (l.map (V.int .i64)))),.sl none 4 true (y.1.L.map ay)],.int .i64 y.2]) (fun _=> []):=by
 refine cmQ fun r hM=> ?_
 rw [et.eq_1] at hM
 refine aI az aC noJ Tryz.func8 rfl Tryz.ntmps8 (by kernel_rfl) fun hw=>aB ?_
 refine spQ ?_
 replace hw:=nzQ hw
 refine aG (fun h1=> ?_) (fun h1=> ?_)
 ·rw [if_pos h1] at hM
  refine aa h1 ?_
  have nh1:=nzQ h1
  try have hr2:=mpQ nh1
  subst hM
  exact aU (bf h1)
 ·rw [if_neg (av h1)] at hM
  refine aa h1 ?_
  have nh1:=nzQ h1
  try have hr3:=mpQ nh1
  have hM0:=hM;clear hM;obtain ⟨x4,hx5,hM⟩:=aA hM0;clear hM0
  have hcx4:=D2 ({s:=s,bad:=false}:ah) (by (exact pfQ))
  rw [←hx5] at hcx4
  refine bJ [1] hcx4 (by decide) lsQ lsQ (fun hw6=> ?_)
  replace hw6:=nzQ hw6
  refine spQ ?_
  have hF:=h1
  exact auQ
set_option maxHeartbeats 2000000 in
set_option maxRecDepth 100000 in
theorem D6 (N:Nat) (ih: ∀(f_:ab),(okF f_)→aN f_<N→aV En 65 [.agg [.int .i64 f_.Kind,.sl none 1 false (f_.Relation.Y.map (V.int .i64)),.sl none 1 false (f_.Relation.Bases.map (fun (l:List Int)=>V.sl none 1 false (l.map (V.int .i64)))),.sl none 4 true (f_.L.map ay)]] (.int .i64 (ci f_)) []) (f_:ab) (hp0:okF f_) (hp_:aN f_<N+1):aV En 65 [.agg [.int .i64 f_.Kind,.sl none 1 false (f_.Relation.Y.map (V.int .i64)),.sl none 1 false (f_.Relation.Bases.map (fun (l:List Int)=>V.sl none 1 false (l.map (V.int .i64)))),.sl none 4 true (f_.L.map ay)]] (.int .i64 (k8 f_)) []:=by
 generalize hM:k8 f_=r
 rw [k8.eq_1] at hM
 refine aI az aC noJ Tryz.func65 rfl Tryz.ntmps65 (by kernel_rfl) fun hw=>aB ?_
 refine spQ ?_
 replace hw:=nzQ hw
 refine aG (fun h1=> ?_) (fun h1=> ?_)
 ·rw [if_pos h1] at hM
  refine aa h1 ?_
  have nh1:=nzQ h1
  try have hr2:=mpQ nh1
  have hA0:=fun a0=>fx hp0 a0
  have hF:=h1
  exact auQ
 ·rw [if_neg (av h1)] at hM
  refine aa h1 ?_
  have nh1:=nzQ h1
  try have hr4:=mpQ nh1
  have hM0:=hM;clear hM;obtain ⟨f5,d5,hf5,hd5,hM⟩:=bv hM0;clear hM0
  refine bL (fun n S=> ∃p:Int×Int,S=(⟨[(3,.int .i64 p.1),(16,.sl none 4 true (f_.L.map ay)),(17,.int .i64 (f_.L.length:Int)),(18,.int .i64 p.2)],[],1⟩:St)∧((0≤p.2)∧(p.2≤(f_.L.length:Int)))∧((f_.L.length:Int) - p.2).toNat<n∧ap n f5 d5 p=r) (((f_.L.length:Int) - 0).toNat+1) _ sbQ sbQ ⟨(0,0),rfl,⟨by (first|exact omQ|(clear hM;first|(have h9:=fx hp0 (by assumption);exact aH))),by (first|exact omQ|(clear hM;first|(have h9:=fx hp0 (by assumption);exact aH)))⟩,(Nat.lt_succ_self _),hM⟩ ?_
  clear hM
  rintro n5 S ⟨p5,rfl,hfa5,hm5,hM⟩
  have hM0:=hM;clear hM;obtain ⟨ag5,hag5,hM⟩:=bw hM0 (by omega) hf5;clear hM0
  replace hfa5:=nzQ hfa5
  replace hm5:=nzQ hm5
  have ha5:aE .i64 p5.2 1=p5.2+1:=bQ (by (first|exact omQ|(clear hM;first|(have h9:=fx hp0 (by assumption);exact aH)))) (by (first|exact omQ|(clear hM;first|(have h9:=fx hp0 (by assumption);exact aH))))
  refine aa ha5 ?_
  refine aG (fun h6=> ?_) (fun h6=> ?_)
  ·rw [if_pos h6] at hM
   refine aa (And.intro ha5 h6) ?_
   have nh6:=nzQ h6
   try have hr7:=mpQ nh6
   refine bc (by (first|exact omQ|(clear hM;first|(have h9:=fx hp0 (by assumption);exact aH)))) ?_
   have he8:=fun d=>da (l:=f_.L) (f:=ay) (i:=p5.2) (by (first|exact omQ|(clear hM;first|(have h9:=fx hp0 (by assumption);exact aH)))) d
   refine aa (And.intro ha5 he8) ?_
   have hM0:=hM;clear hM;obtain ⟨x9,hx10,hM⟩:=aA hM0;clear hM0
   have hcx9:=ih (gt f_.L p5.2) (by (exact Dw hp0 (by assumption) (bF (by omega)))) (by (have h9:=dX (f:=f_) (bF (l:=f_.L) (i:=p5.2) (by omega));omega))
   rw [←hx10] at hcx9
   refine aT hcx9 (bk (And.intro ha5 he8)) (bk (And.intro ha5 he8)) (fun hw11=> ?_)
   replace hw11:=nzQ hw11
   refine aa (And.intro ha5 he8) ?_
   refine ce (n5 - 1) _ (by omega) sbQ sbQ ⟨((cG p5.1 x9),(p5.2+1)),rfl,⟨by (first|exact omQ|(clear hM;first|(have h9:=fx hp0 (by assumption);exact aH))),by (first|exact omQ|(clear hM;first|(have h9:=fx hp0 (by assumption);exact aH)))⟩,by (first|exact omQ|(clear hM;first|(have h9:=fx hp0 (by assumption);exact aH))),cg hM hag5⟩
  ·rw [if_neg (av h6)] at hM
   refine aa (And.intro ha5 h6) ?_
   have nh6:=nzQ h6
   try have hr12:=mpQ nh6
   subst hM
   exact aU (bf (And.intro ha5 (And.intro h1 h6)))
theorem D7: ∀(N:Nat) (f_:ab),(okF f_)→aN f_<N→aV En 65 [.agg [.int .i64 f_.Kind,.sl none 1 false (f_.Relation.Y.map (V.int .i64)),.sl none 1 false (f_.Relation.Bases.map (fun (l:List Int)=>V.sl none 1 false (l.map (V.int .i64)))),.sl none 4 true (f_.L.map ay)]] (.int .i64 (ci f_)) []:=by
 intro N
 induction N with
 | zero=>intro f_ h0 h;exact absurd h (Nat.not_lt_zero _)
 | succ N ih=>
  intro f_ h0 h
  have h9:=D6 N ih f_ h0 h
  rw [Dy] at h9
  exact h9
theorem rM (f_:ab) (hp0:okF f_):aV En 65 [.agg [.int .i64 f_.Kind,.sl none 1 false (f_.Relation.Y.map (V.int .i64)),.sl none 1 false (f_.Relation.Bases.map (fun (l:List Int)=>V.sl none 1 false (l.map (V.int .i64)))),.sl none 4 true (f_.L.map ay)]] (.int .i64 (ci f_)) []:=
 D7 (aN f_+1) f_ hp0 (Nat.lt_succ_self _)
set_option maxHeartbeats 2000000 in
set_option maxRecDepth 100000 in
instance GH (f_:ab):CM En (qR f_) 22 [.agg [.int .i64 f_.Kind,.sl none 1 false (f_.Relation.Y.map (V.int .i64)),.sl none 1 false (f_.Relation.Bases.map (fun (l:List Int)=>V.sl none 1 false (l.map (V.int .i64)))),.sl none 4 true (f_.L.map ay)]] (fun y=> .int .i64 y) (fun _=> []):=by
 refine cmQ fun r hM=> ?_
 rw [qR.eq_1] at hM
 refine aI az aC noJ Tryz.func22 rfl Tryz.ntmps22 (by kernel_rfl) fun hw=>aB ?_
 refine spQ ?_
 replace hw:=nzQ hw
 have hM0:=hM;clear hM;obtain ⟨x1,hx2,hM⟩:=aA hM0;clear hM0
 have hcx1:=cmU hx2
 refine aT hcx1 clQ clQ (fun hw3=> ?_)
 replace hw3:=nzQ hw3
 refine spQ ?_
 have hq4:=nzQ (cfU hx2)
 refine aG (fun h5=> ?_) (fun h5=> ?_)
 ·rw [if_pos h5] at hM
  refine aa h5 ?_
  have nh5:=nzQ h5
  try have hr6:=mpQ nh5
  subst hM
  exact aU (bf h5)
 ·rw [if_neg (av h5)] at hM
  refine aa h5 ?_
  have nh5:=nzQ h5
  try have hr7:=mpQ nh5
  have hM0:=hM;clear hM;obtain ⟨x8,hx9,hM⟩:=aA hM0;clear hM0
  have hcx8:=rM f_ (by (have h9:=‹okT f_∧_›;exact h9.2.2))
  rw [←hx9] at hcx8
  refine aT hcx8 clQ clQ (fun hw10=> ?_)
  replace hw10:=nzQ hw10
  refine spQ ?_
  subst hM
  exact aU (bf h5)
set_option maxHeartbeats 2000000 in
set_option maxRecDepth 100000 in
instance GI (x_:Int) (y:Int):CM En (gK x_ y) 259 [.int .u64 x_,.int .u64 y] (fun y=> .tup [.int .u64 y.1,.int .u64 y.2]) (fun _=> []):=by
 refine cmQ fun r hM=> ?_
 rw [gK.eq_1] at hM
 refine aI az aC noJ Tryz.func259 rfl Tryz.ntmps259 (by kernel_rfl) fun hw=>aB ?_
 refine spQ ?_
 replace hw:=nzQ hw
 subst hM
 exact aU lfQ
set_option maxHeartbeats 2000000 in
set_option maxRecDepth 100000 in
instance GJ (x_:Int):CM En (iz x_) 284 [.int .u64 x_] (fun y=> .int .i64 y) (fun _=> []):=by
 refine cmQ fun r hM=> ?_
 rw [iz.eq_1] at hM
 refine aI az aC noJ Tryz.func284 rfl Tryz.ntmps284 (by kernel_rfl) fun hw=>aB ?_
 refine spQ ?_
 replace hw:=nzQ hw
 have hF:=bz
 exact auQ
instance (priority:=1001):DRD 6 135 7 [6,28,29,30,31,32,33] [] ([[],[],[0,1],[],[],[3,4],[0,1,2]]++[List.range 7]) []:=⟨trivial⟩
set_option maxHeartbeats 2000000 in
set_option maxRecDepth 100000 in
theorem vV (hi:Int) (lo:Int) (y:Int) (hp0:hi<y):CM En (jx hi lo y) 260 [.int .u64 hi,.int .u64 lo,.int .u64 y] (fun y=> .tup [.int .u64 y.1,.int .u64 y.2]) (fun _=> []):=by
 refine cmQ fun r hM=> ?_
 rw [jx.eq_1] at hM
 refine aI az aC [21,28] Tryz.func260 rfl Tryz.ntmps260 (by kernel_rfl) fun hw=>aB ?_
 refine spQ ?_
 replace hw:=nzQ hw
 refine aG (fun h1=> ?_) (fun h1=> ?_)
 ·rw [if_pos h1] at hM
  refine aa h1 ?_
  have nh1:=nzQ h1
  try have hr2:=mpQ nh1
  exact False.elim omQ
 ·rw [if_neg (av h1)] at hM
  refine aa h1 ?_
  have nh1:=nzQ h1
  try have hr3:=mpQ nh1
  refine aG (fun h4=> ?_) (fun h4=> ?_)
  ·rw [if_pos h4] at hM
   refine aa h4 ?_
   have nh4:=nzQ h4
   try have hr5:=mpQ nh4
   exact False.elim omQ
  ·rw [if_neg (av h4)] at hM
   refine aa h4 ?_
   have nh4:=nzQ h4
   try have hr6:=mpQ nh4
   refine aG (fun h7=> ?_) (fun h7=> ?_)
   ·rw [if_pos h7] at hM
    refine aa h7 ?_
    have nh7:=nzQ h7
    try have hr8:=mpQ nh7
    have hF:=(And.intro h1 (And.intro h4 h7))
    exact auQ
   ·rw [if_neg (av h7)] at hM
    refine aa h7 ?_
    have nh7:=nzQ h7
    try have hr9:=mpQ nh7
    have hM0:=hM;clear hM;obtain ⟨x10,hx11,hM⟩:=aA hM0;clear hM0
    have hcx10:=cmU hx11
    refine aT hcx10 clQ clQ (fun hw12=> ?_)
    replace hw12:=nzQ hw12
    refine spQ ?_
    have hq13:=CQ hx11 (by omega) (by omega)
    replace hq13:=nzQ hq13
    refine bc (by (exact jl _)) ?_
    refine spQ ?_
    refine bc (by (exact jl _)) ?_
    refine spQ ?_
    refine bc (by (exact (lL .u64 _ _).1)) ?_
    refine spQ ?_
    refine bc (by (exact jl _)) ?_
    refine spQ ?_
    refine bc omQ ?_
    refine spQ ?_
    have hM0:=hM;clear hM;obtain ⟨j14,hj14,hM⟩:=jm hM0;clear hM0
    refine jj (fun S=> ∃p:Int,S=(⟨[(2,.int .u64 (ao .u64 y (al .u64 x10))),(8,.int .u64 (al .u64 x10)),(9,.int .u64 (aq .u64 (ao .u64 y (al .u64 x10)) 32)),(10,.int .u64 (bA .u64 (ao .u64 y (al .u64 x10)) 4294967295)),(11,.int .u64 (orI .u64 (ao .u64 hi (al .u64 x10)) (aq .u64 lo (an .u64 64 (al .u64 x10))))),(13,.int .u64 (aq .u64 (ao .u64 lo (al .u64 x10)) 32)),(14,.int .u64 (bA .u64 (ao .u64 lo (al .u64 x10)) 4294967295)),(15,.int .u64 p)],[],0⟩:St)∧(True)∧j14 p=r) ?_ (fun hcut14=> ?_)
    ·clear hM
     rintro S ⟨p14,rfl,hfa14,hM⟩
     have hM0:=hM;clear hM;have hM:=jn hM0 hj14;clear hM0
     try refine spQ ?_
     refine bc omQ ?_
     refine spQ ?_
     have hM0:=hM;clear hM;obtain ⟨j15,hj15,hM⟩:=jm hM0;clear hM0
     refine jj (fun S=> ∃p:Int,S=(⟨[(2,.int .u64 (ao .u64 y (al .u64 x10))),(8,.int .u64 (al .u64 x10)),(14,.int .u64 (bA .u64 (ao .u64 lo (al .u64 x10)) 4294967295)),(15,.int .u64 p14),(17,.int .u64 (an .u64 (aE .u64 (aK .u64 (orI .u64 (ao .u64 hi (al .u64 x10)) (aq .u64 lo (an .u64 64 (al .u64 x10)))) 4294967296) (aq .u64 (ao .u64 lo (al .u64 x10)) 32)) (aK .u64 p14 (ao .u64 y (al .u64 x10))))),(18,.int .u64 p)],[],0⟩:St)∧(True)∧j15 p=r) ?_ (fun hcut15=> ?_)
     ·clear hM
      rintro S ⟨p15,rfl,hfa15,hM⟩
      have hM0:=hM;clear hM;have hM:=jn hM0 hj15;clear hM0
      try refine spQ ?_
      refine bc (by (exact jl _)) ?_
      refine spQ ?_
      subst hM
      exact aU (bf (And.intro h1 (And.intro h4 h7)))
     ·refine spQ ?_
      have hM0:=hM;clear hM;obtain ⟨f16,d16,hf16,hd16,hM⟩:=bv hM0;clear hM0
      refine bL (fun n S=> ∃p:Int×Int,S=(⟨[(2,.int .u64 (ao .u64 y (al .u64 x10))),(8,.int .u64 (al .u64 x10)),(9,.int .u64 (aq .u64 (ao .u64 y (al .u64 x10)) 32)),(10,.int .u64 (bA .u64 (ao .u64 y (al .u64 x10)) 4294967295)),(14,.int .u64 (bA .u64 (ao .u64 lo (al .u64 x10)) 4294967295)),(15,.int .u64 p14),(16,.int .u64 p.1),(17,.int .u64 (an .u64 (aE .u64 (aK .u64 (orI .u64 (ao .u64 hi (al .u64 x10)) (aq .u64 lo (an .u64 64 (al .u64 x10)))) 4294967296) (aq .u64 (ao .u64 lo (al .u64 x10)) 32)) (aK .u64 p14 (ao .u64 y (al .u64 x10))))),(18,.int .u64 p.2)],[],0⟩:St)∧((0≤p.1∧p.1≤4294967295))∧(4294967296 - p.1).toNat<n∧ap n f16 d16 p=r) ((4294967296 - (an .u64 (an .u64 (aE .u64 (aK .u64 (orI .u64 (ao .u64 hi (al .u64 x10)) (aq .u64 lo (an .u64 64 (al .u64 x10)))) 4294967296) (aq .u64 (ao .u64 lo (al .u64 x10)) 32)) (aK .u64 p14 (ao .u64 y (al .u64 x10)))) (aK .u64 (ca .u64 (an .u64 (aE .u64 (aK .u64 (orI .u64 (ao .u64 hi (al .u64 x10)) (aq .u64 lo (an .u64 64 (al .u64 x10)))) 4294967296) (aq .u64 (ao .u64 lo (al .u64 x10)) 32)) (aK .u64 p14 (ao .u64 y (al .u64 x10)))) (aq .u64 (ao .u64 y (al .u64 x10)) 32)) (aq .u64 (ao .u64 y (al .u64 x10)) 32)))).toNat+1) _ sbQ sbQ ⟨((an .u64 (an .u64 (aE .u64 (aK .u64 (orI .u64 (ao .u64 hi (al .u64 x10)) (aq .u64 lo (an .u64 64 (al .u64 x10)))) 4294967296) (aq .u64 (ao .u64 lo (al .u64 x10)) 32)) (aK .u64 p14 (ao .u64 y (al .u64 x10)))) (aK .u64 (ca .u64 (an .u64 (aE .u64 (aK .u64 (orI .u64 (ao .u64 hi (al .u64 x10)) (aq .u64 lo (an .u64 64 (al .u64 x10)))) 4294967296) (aq .u64 (ao .u64 lo (al .u64 x10)) 32)) (aK .u64 p14 (ao .u64 y (al .u64 x10)))) (aq .u64 (ao .u64 y (al .u64 x10)) 32)) (aq .u64 (ao .u64 y (al .u64 x10)) 32))),(ca .u64 (an .u64 (aE .u64 (aK .u64 (orI .u64 (ao .u64 hi (al .u64 x10)) (aq .u64 lo (an .u64 64 (al .u64 x10)))) 4294967296) (aq .u64 (ao .u64 lo (al .u64 x10)) 32)) (aK .u64 p14 (ao .u64 y (al .u64 x10)))) (aq .u64 (ao .u64 y (al .u64 x10)) 32))),rfl,by (exact va (C1 _ _) (by omega) (by omega)),(Nat.lt_succ_self _),hM⟩ ?_
      clear hM
      rintro n16 S ⟨p16,rfl,hF24_0,hm16,hM⟩
      have hM0:=hM;clear hM;obtain ⟨ag16,hag16,hM⟩:=bw hM0 (by omega) hf16;clear hM0
      replace hm16:=nzQ hm16
      refine spQ ?_
      refine bX (fun h17=> ?_) (fun h17=> ?_)
      ·rw [if_neg (av h17)] at hM
       refine aa h17 ?_
       have nh17:=nzQ h17
       try have hr18:=mpQ nh17
       refine aG (fun h19=> ?_) (fun h19=> ?_)
       ·rw [if_pos h19] at hM
        refine aa h19 ?_
        have nh19:=nzQ h19
        try have hr20:=mpQ nh19
        refine aG (fun h21=> ?_) (fun h21=> ?_)
        ·rw [if_pos h21] at hM
         refine aa h21 ?_
         have nh21:=nzQ h21
         try have hr22:=mpQ nh21
         exact dE _ sbQ sbQ (hcut15 _ ⟨(an .u64 p16.2 1),rfl,trivial,hM⟩)
        ·rw [if_neg (av h21)] at hM
         refine aa h21 ?_
         have nh21:=nzQ h21
         try have hr23:=mpQ nh21
         refine ce (n16 - 1) _ (by omega) sbQ sbQ ⟨((aE .u64 p16.1 (aq .u64 (ao .u64 y (al .u64 x10)) 32)),(an .u64 p16.2 1)),rfl,by (have h9:=gO (a:=p16.1) (b:=(aq .u64 (ao .u64 y (al .u64 x10)) 32)) (by omega) (by omega) (by omega) (by omega);omega),by (have h9:=gO (a:=p16.1) (b:=(aq .u64 (ao .u64 y (al .u64 x10)) 32)) (by omega) (by omega) (by omega) (by omega);omega),cg hM hag16⟩
       ·rw [if_neg (av h19)] at hM
        refine aa h19 ?_
        have nh19:=nzQ h19
        try have hr24:=mpQ nh19
        exact dE _ sbQ sbQ (hcut15 _ ⟨p16.2,rfl,trivial,hM⟩)
      ·rw [if_pos h17] at hM
       refine aa h17 ?_
       have nh17:=nzQ h17
       try have hr25:=mpQ nh17
       refine aG (fun h26=> ?_) (fun h26=> ?_)
       ·rw [if_pos h26] at hM
        refine aa h26 ?_
        have nh26:=nzQ h26
        try have hr27:=mpQ nh26
        exact dE _ sbQ sbQ (hcut15 _ ⟨(an .u64 p16.2 1),rfl,trivial,hM⟩)
       ·rw [if_neg (av h26)] at hM
        refine aa h26 ?_
        have nh26:=nzQ h26
        try have hr28:=mpQ nh26
        refine ce (n16 - 1) _ (by omega) sbQ sbQ ⟨((aE .u64 p16.1 (aq .u64 (ao .u64 y (al .u64 x10)) 32)),(an .u64 p16.2 1)),rfl,by (have h9:=gO (a:=p16.1) (b:=(aq .u64 (ao .u64 y (al .u64 x10)) 32)) (by omega) (by omega) (by omega) (by omega);omega),by (have h9:=gO (a:=p16.1) (b:=(aq .u64 (ao .u64 y (al .u64 x10)) 32)) (by omega) (by omega) (by omega) (by omega);omega),cg hM hag16⟩
    ·refine spQ ?_
     have hM0:=hM;clear hM;obtain ⟨f29,d29,hf29,hd29,hM⟩:=bv hM0;clear hM0
     refine bL (fun n S=> ∃p:Int×Int,S=(⟨[(2,.int .u64 (ao .u64 y (al .u64 x10))),(8,.int .u64 (al .u64 x10)),(9,.int .u64 (aq .u64 (ao .u64 y (al .u64 x10)) 32)),(10,.int .u64 (bA .u64 (ao .u64 y (al .u64 x10)) 4294967295)),(11,.int .u64 (orI .u64 (ao .u64 hi (al .u64 x10)) (aq .u64 lo (an .u64 64 (al .u64 x10))))),(13,.int .u64 (aq .u64 (ao .u64 lo (al .u64 x10)) 32)),(14,.int .u64 (bA .u64 (ao .u64 lo (al .u64 x10)) 4294967295)),(15,.int .u64 p.1),(16,.int .u64 p.2)],[],0⟩:St)∧((0≤p.2∧p.2≤4294967295))∧(4294967296 - p.2).toNat<n∧ap n f29 d29 p=r) ((4294967296 - (an .u64 (orI .u64 (ao .u64 hi (al .u64 x10)) (aq .u64 lo (an .u64 64 (al .u64 x10)))) (aK .u64 (ca .u64 (orI .u64 (ao .u64 hi (al .u64 x10)) (aq .u64 lo (an .u64 64 (al .u64 x10)))) (aq .u64 (ao .u64 y (al .u64 x10)) 32)) (aq .u64 (ao .u64 y (al .u64 x10)) 32)))).toNat+1) _ sbQ sbQ ⟨((ca .u64 (orI .u64 (ao .u64 hi (al .u64 x10)) (aq .u64 lo (an .u64 64 (al .u64 x10)))) (aq .u64 (ao .u64 y (al .u64 x10)) 32)),(an .u64 (orI .u64 (ao .u64 hi (al .u64 x10)) (aq .u64 lo (an .u64 64 (al .u64 x10)))) (aK .u64 (ca .u64 (orI .u64 (ao .u64 hi (al .u64 x10)) (aq .u64 lo (an .u64 64 (al .u64 x10)))) (aq .u64 (ao .u64 y (al .u64 x10)) 32)) (aq .u64 (ao .u64 y (al .u64 x10)) 32)))),rfl,by (exact va (C0 _ _) (by omega) (by omega)),(Nat.lt_succ_self _),hM⟩ ?_
     clear hM
     rintro n29 S ⟨p29,rfl,hF17_0,hm29,hM⟩
     have hM0:=hM;clear hM;obtain ⟨ag29,hag29,hM⟩:=bw hM0 (by omega) hf29;clear hM0
     replace hm29:=nzQ hm29
     refine spQ ?_
     refine bX (fun h30=> ?_) (fun h30=> ?_)
     ·rw [if_neg (av h30)] at hM
      refine aa h30 ?_
      have nh30:=nzQ h30
      try have hr31:=mpQ nh30
      refine aG (fun h32=> ?_) (fun h32=> ?_)
      ·rw [if_pos h32] at hM
       refine aa h32 ?_
       have nh32:=nzQ h32
       try have hr33:=mpQ nh32
       refine aG (fun h34=> ?_) (fun h34=> ?_)
       ·rw [if_pos h34] at hM
        refine aa h34 ?_
        have nh34:=nzQ h34
        try have hr35:=mpQ nh34
        exact dE _ sbQ sbQ (hcut14 _ ⟨(an .u64 p29.1 1),rfl,trivial,hM⟩)
       ·rw [if_neg (av h34)] at hM
        refine aa h34 ?_
        have nh34:=nzQ h34
        try have hr36:=mpQ nh34
        refine ce (n29 - 1) _ (by omega) sbQ sbQ ⟨((an .u64 p29.1 1),(aE .u64 p29.2 (aq .u64 (ao .u64 y (al .u64 x10)) 32))),rfl,by (have h9:=gO (a:=p29.2) (b:=(aq .u64 (ao .u64 y (al .u64 x10)) 32)) (by omega) (by omega) (by omega) (by omega);omega),by (have h9:=gO (a:=p29.2) (b:=(aq .u64 (ao .u64 y (al .u64 x10)) 32)) (by omega) (by omega) (by omega) (by omega);omega),cg hM hag29⟩
      ·rw [if_neg (av h32)] at hM
       refine aa h32 ?_
       have nh32:=nzQ h32
       try have hr37:=mpQ nh32
       exact dE _ sbQ sbQ (hcut14 _ ⟨p29.1,rfl,trivial,hM⟩)
     ·rw [if_pos h30] at hM
      refine aa h30 ?_
      have nh30:=nzQ h30
      try have hr38:=mpQ nh30
      refine aG (fun h39=> ?_) (fun h39=> ?_)
      ·rw [if_pos h39] at hM
       refine aa h39 ?_
       have nh39:=nzQ h39
       try have hr40:=mpQ nh39
       exact dE _ sbQ sbQ (hcut14 _ ⟨(an .u64 p29.1 1),rfl,trivial,hM⟩)
      ·rw [if_neg (av h39)] at hM
       refine aa h39 ?_
       have nh39:=nzQ h39
       try have hr41:=mpQ nh39
       refine ce (n29 - 1) _ (by omega) sbQ sbQ ⟨((an .u64 p29.1 1),(aE .u64 p29.2 (aq .u64 (ao .u64 y (al .u64 x10)) 32))),rfl,by (have h9:=gO (a:=p29.2) (b:=(aq .u64 (ao .u64 y (al .u64 x10)) 32)) (by omega) (by omega) (by omega) (by omega);omega),by (have h9:=gO (a:=p29.2) (b:=(aq .u64 (ao .u64 y (al .u64 x10)) 32)) (by omega) (by omega) (by omega) (by omega);omega),cg hM hag29⟩
set_option maxHeartbeats 2000000 in
set_option maxRecDepth 100000 in
theorem nS (a_:Int) (b:Int) (n_:Int) (hp0:a_<n_):CM En (dW a_ b n_) 257 [.int .u64 a_,.int .u64 b,.int .u64 n_] (fun y=> .int .u64 y) (fun _=> []):=by
 refine cmQ fun r hM=> ?_
 rw [dW.eq_1] at hM
 refine aI az aC noJ Tryz.func257 rfl Tryz.ntmps257 (by kernel_rfl) fun hw=>aB ?_
 refine spQ ?_
 replace hw:=nzQ hw
 have hM0:=hM;clear hM;obtain ⟨x1,hx2,hM⟩:=aA hM0;clear hM0
 have hcx1:=cmU hx2
 refine aT hcx1 clQ clQ (fun hw3=> ?_)
 replace hw3:=nzQ hw3
 refine spQ ?_
 have hq4:=u_ n_ hx2 (by omega) (by omega) (by omega) (by omega) (by omega)
 replace hq4:=nzQ hq4
 have hM0:=hM;clear hM;obtain ⟨x5,hx6,hM⟩:=aA hM0;clear hM0
 have hcx5:=cmH hx6 (vV (x1.1) (x1.2) n_ (by (exact pfQ)))
 refine aT hcx5 clQ clQ (fun hw7=> ?_)
 replace hw7:=nzQ hw7
 refine spQ ?_
 subst hM
 exact aU lfQ
set_option maxHeartbeats 2000000 in
set_option maxRecDepth 100000 in
theorem D8 (a_:Int) (e_:Int) (n_:Int) (hp0:a_<n_) (hp1:1<n_):CM En (k9 a_ e_ n_) 256 [.int .u64 a_,.int .u64 e_,.int .u64 n_] (fun y=> .int .u64 y) (fun _=> []):=by
 refine cmQ fun r hM=> ?_
 rw [k9.eq_1] at hM
 refine aI az aC noJ Tryz.func256 rfl Tryz.ntmps256 (by kernel_rfl) fun hw=>aB ?_
 refine spQ ?_
 replace hw:=nzQ hw
 have hM0:=hM;clear hM;obtain ⟨f1,d1,hf1,hd1,hM⟩:=bv hM0;clear hM0
 refine bL (fun n S=> ∃p:Int×Int×Int,S=(⟨[(0,.int .u64 p.1),(1,.int .u64 p.2.1),(2,.int .u64 n_),(7,.int .u64 p.2.2)],[],0⟩:St)∧((0≤p.1)∧(p.1<n_)∧(0≤p.2.1)∧(0≤p.2.2)∧(p.2.2<n_))∧p.2.1.toNat<n∧ap n f1 d1 p=r) (e_.toNat+1) _ sbQ sbQ ⟨(a_,e_,1),rfl,⟨omQ,omQ,omQ,omQ,omQ⟩,(Nat.lt_succ_self _),hM⟩ ?_
 clear hM
 rintro n1 S ⟨p1,rfl,hfa1,hm1,hM⟩
 have hM0:=hM;clear hM;obtain ⟨ag1,hag1,hM⟩:=bw hM0 (by omega) hf1;clear hM0
 replace hfa1:=nzQ hfa1
 replace hm1:=nzQ hm1
 refine spQ ?_
 refine aG (fun h2=> ?_) (fun h2=> ?_)
 ·rw [if_pos h2] at hM
  refine aa h2 ?_
  have nh2:=nzQ h2
  try have hr3:=mpQ nh2
  refine aG (fun h4=> ?_) (fun h4=> ?_)
  ·rw [if_pos h4] at hM
   refine aa h4 ?_
   have nh4:=nzQ h4
   try have hr5:=mpQ nh4
   have hM0:=hM;clear hM;obtain ⟨x6,hx7,hM⟩:=aA hM0;clear hM0
   have hcx6:=cmH hx7 (nS (p1.2.2) (p1.1) n_ (by (exact pfQ)))
   refine aT hcx6 clQ clQ (fun hw8=> ?_)
   replace hw8:=nzQ hw8
   refine spQ ?_
   have hq9:=iC hx7 (by omega) (by omega) (by omega) (by omega) (by omega)
   replace hq9:=nzQ hq9
   have hM0:=hM;clear hM;obtain ⟨x10,hx11,hM⟩:=aA hM0;clear hM0
   have hcx10:=cmH hx11 (nS (p1.1) (p1.1) n_ (by (exact pfQ)))
   refine aT hcx10 clQ clQ (fun hw12=> ?_)
   replace hw12:=nzQ hw12
   refine spQ ?_
   have hq13:=iC hx11 (by omega) (by omega) (by omega) (by omega) (by omega)
   replace hq13:=nzQ hq13
   refine ce (n1 - 1) _ (by omega) sbQ sbQ ⟨(x10,(aq .u64 p1.2.1 1),x6),rfl,⟨by (clear hM;(try dsimp only);(try rw [bU]);(try rw [bZ]);omega),by (clear hM;(try dsimp only);(try rw [bU]);(try rw [bZ]);omega),by (clear hM;(try dsimp only);(try rw [bU]);(try rw [bZ]);omega),by (clear hM;(try dsimp only);(try rw [bU]);(try rw [bZ]);omega),by (clear hM;(try dsimp only);(try rw [bU]);(try rw [bZ]);omega)⟩,by (clear hM;(try dsimp only);(try rw [bU]);(try rw [bZ]);omega),cg hM hag1⟩
  ·rw [if_neg (av h4)] at hM
   refine aa h4 ?_
   have nh4:=nzQ h4
   try have hr14:=mpQ nh4
   have hM0:=hM;clear hM;obtain ⟨x15,hx16,hM⟩:=aA hM0;clear hM0
   have hcx15:=cmH hx16 (nS (p1.1) (p1.1) n_ (by (exact pfQ)))
   refine aT hcx15 clQ clQ (fun hw17=> ?_)
   replace hw17:=nzQ hw17
   refine spQ ?_
   have hq18:=iC hx16 (by omega) (by omega) (by omega) (by omega) (by omega)
   replace hq18:=nzQ hq18
   refine ce (n1 - 1) _ (by omega) sbQ sbQ ⟨(x15,(aq .u64 p1.2.1 1),p1.2.2),rfl,⟨by (clear hM;(try dsimp only);(try rw [bU]);(try rw [bZ]);omega),by (clear hM;(try dsimp only);(try rw [bU]);(try rw [bZ]);omega),by (clear hM;(try dsimp only);(try rw [bU]);(try rw [bZ]);omega),by (clear hM;(try dsimp only);(try rw [bU]);(try rw [bZ]);omega),by (clear hM;(try dsimp only);(try rw [bU]);(try rw [bZ]);omega)⟩,by (clear hM;(try dsimp only);(try rw [bU]);(try rw [bZ]);omega),cg hM hag1⟩
 ·rw [if_neg (av h2)] at hM
  refine aa h2 ?_
  have nh2:=nzQ h2
  try have hr19:=mpQ nh2
  subst hM
  exact aU (bf h2)
set_option maxHeartbeats 2000000 in
set_option maxRecDepth 100000 in
theorem D9 (a_:Int) (n_:Int) (d_:Int) (s:Int) (hp0:a_<n_) (hp1:1<n_) (hp2:0≤s) (hp3:s≤64):CM En (qS a_ n_ d_ s) 219 [.int .u64 a_,.int .u64 n_,.int .u64 d_,.int .i64 s] (fun y=> .bool y) (fun _=> []):=by
 refine cmQ fun r hM=> ?_
 rw [qS.eq_1] at hM
 refine aI az aC noJ Tryz.func219 rfl Tryz.ntmps219 (by kernel_rfl) fun hw=>aB ?_
 refine spQ ?_
 replace hw:=nzQ hw
 have h0_0:=Db (x:=s) (by omega) (by omega)
 have hM0:=hM;clear hM;obtain ⟨x1,hx2,hM⟩:=aA hM0;clear hM0
 have hcx1:=cmH hx2 (D8 a_ d_ n_ (by (exact pfQ)) (by (exact pfQ)))
 refine aT hcx1 clQ clQ (fun hw3=> ?_)
 replace hw3:=nzQ hw3
 refine spQ ?_
 have hq4:=C2 hx2 (by omega) (by omega) (by omega) (by omega)
 replace hq4:=nzQ hq4
 refine bX (fun h5=> ?_) (fun h5=> ?_)
 ·rw [if_neg (av h5)] at hM
  refine aa h5 ?_
  have nh5:=nzQ h5
  try have hr6:=mpQ nh5
  refine aG (fun h7=> ?_) (fun h7=> ?_)
  ·rw [if_pos h7] at hM
   refine aa h7 ?_
   have nh7:=nzQ h7
   try have hr8:=mpQ nh7
   subst hM
   exact aU (bf (And.intro h5 h7))
  ·rw [if_neg (av h7)] at hM
   refine aa h7 ?_
   have nh7:=nzQ h7
   try have hr9:=mpQ nh7
   have hM0:=hM;clear hM;obtain ⟨f10,d10,hf10,hd10,hM⟩:=bv hM0;clear hM0
   refine bL (fun n S=> ∃p:Int×Int,S=(⟨[(1,.int .u64 n_),(9,.int .u64 p.1),(23,.int .i64 (an .i64 s 1)),(24,.int .i64 p.2)],[],0⟩:St)∧((0≤p.2)∧(p.2≤an .i64 s 1∨p.2≤0)∧(0≤p.1)∧(p.1<n_))∧(an .i64 s 1 - p.2).toNat<n∧ap n f10 d10 p=r) ((an .i64 s 1 - 0).toNat+1) _ sbQ sbQ ⟨(x1,0),rfl,⟨omQ,omQ,omQ,omQ⟩,(Nat.lt_succ_self _),hM⟩ ?_
   clear hM
   rintro n10 S ⟨p10,rfl,hfa10,hm10,hM⟩
   have hM0:=hM;clear hM;obtain ⟨ag10,hag10,hM⟩:=bw hM0 (by omega) hf10;clear hM0
   replace hfa10:=nzQ hfa10
   replace hm10:=nzQ hm10
   have ha10:aE .i64 p10.2 1=p10.2+1:=bQ omQ omQ
   refine aa ha10 ?_
   refine aG (fun h11=> ?_) (fun h11=> ?_)
   ·rw [if_pos h11] at hM
    refine aa (And.intro ha10 h11) ?_
    have nh11:=nzQ h11
    try have hr12:=mpQ nh11
    have hM0:=hM;clear hM;obtain ⟨x13,hx14,hM⟩:=aA hM0;clear hM0
    have hcx13:=cmH hx14 (nS (p10.1) (p10.1) n_ (by (exact pfQ)))
    refine aT hcx13 (bk ha10) (bk ha10) (fun hw15=> ?_)
    replace hw15:=nzQ hw15
    refine aa ha10 ?_
    have hq16:=iC hx14 (by omega) (by omega) (by omega) (by omega) (by omega)
    replace hq16:=nzQ hq16
    have hF:=(And.intro h5 (And.intro h7 (And.intro ha10 h11)))
    exact auQ
   ·rw [if_neg (av h11)] at hM
    refine aa (And.intro ha10 h11) ?_
    have nh11:=nzQ h11
    try have hr20:=mpQ nh11
    subst hM
    exact aU (bf (And.intro ha10 (And.intro h5 (And.intro h7 h11))))
 ·rw [if_pos h5] at hM
  refine aa h5 ?_
  have nh5:=nzQ h5
  try have hr21:=mpQ nh5
  subst hM
  exact aU (bf h5)
set_option maxHeartbeats 2000000 in
set_option maxRecDepth 100000 in
instance GK (n_:Int):CM En (nA n_) 180 [.int .i64 n_] (fun y=> .bool y) (fun _=> []):=by
 refine cmQ fun r hM=> ?_
 rw [nA.eq_1] at hM
 refine aI az aC noJ Tryz.func180 rfl Tryz.ntmps180 (by kernel_rfl) fun hw=>aB ?_
 refine spQ ?_
 replace hw:=nzQ hw
 have h0_0:=C4
 refine aG (fun h1=> ?_) (fun h1=> ?_)
 ·rw [if_pos h1] at hM
  refine aa h1 ?_
  have nh1:=nzQ h1
  try have hr2:=mpQ nh1
  subst hM
  exact aU (bf h1)
 ·rw [if_neg (av h1)] at hM
  refine aa h1 ?_
  have nh1:=nzQ h1
  try have hr3:=mpQ nh1
  have hM0:=hM;clear hM;obtain ⟨f4,d4,hf4,hd4,hM⟩:=bv hM0;clear hM0
  refine bL (fun n S=> ∃p:Int,S=(⟨[(3,.int .u64 (al .u64 n_)),(13,.agg (cf.map (V.int .u64))),(14,.int .i64 p)],[],0⟩:St)∧(((0≤p)∧(p≤12))∧(lv (al .u64 n_) p))∧((12:Int) - p).toNat<n∧ap n f4 d4 p=r) (((12:Int) - 0).toNat+1) _ sbQ sbQ ⟨0,rfl,⟨⟨by (first|exact omQ|(clear hM;first|(have hk:=b9 (j:=p4) (by omega) (by omega);exact aH))),by (first|exact omQ|(clear hM;first|(have hk:=b9 (j:=p4) (by omega) (by omega);exact aH)))⟩,by (exact C6)⟩,(Nat.lt_succ_self _),hM⟩ ?_
  clear hM
  rintro n4 S ⟨p4,rfl,⟨hfa4,hF5_0⟩,hm4,hM⟩
  have hM0:=hM;clear hM;obtain ⟨ag4,hag4,hM⟩:=bw hM0 (by omega) hf4;clear hM0
  replace hfa4:=nzQ hfa4
  replace hm4:=nzQ hm4
  have ha4:aE .i64 p4 1=p4+1:=bQ (by (first|exact omQ|(clear hM;first|(have hk:=b9 (j:=p4) (by omega) (by omega);exact aH)))) (by (first|exact omQ|(clear hM;first|(have hk:=b9 (j:=p4) (by omega) (by omega);exact aH))))
  refine aa ha4 ?_
  refine aG (fun h5=> ?_) (fun h5=> ?_)
  ·rw [if_pos h5] at hM
   refine aa (And.intro ha4 h5) ?_
   have nh5:=nzQ h5
   try have hr6:=mpQ nh5
   have he7:=qK (f:=V.int .u64) (l:=cf) (n:=12) (i:=p4) rfl (by (first|exact omQ|(clear hM;first|(have hk:=b9 (j:=p4) (by omega) (by omega);exact aH))))
   replace he7:=spR he7
   refine aa (And.intro ha4 he7) ?_
   refine bc (by (first|exact omQ|(clear hM;first|(have hk:=b9 (j:=p4) (by omega) (by omega);exact aH)))) ?_
   refine aa (And.intro ha4 he7) ?_
   refine bc (by (first|exact omQ|(clear hM;first|(have hk:=b9 (j:=p4) (by omega) (by omega);exact aH)))) ?_
   refine aa (And.intro ha4 he7) ?_
   refine aG (fun h8=> ?_) (fun h8=> ?_)
   ·rw [if_pos h8] at hM
    refine aa (And.intro ha4 (And.intro he7 h8)) ?_
    have nh8:=nzQ h8
    try have hr9:=mpQ nh8
    subst hM
    exact aU (bf (And.intro ha4 (And.intro he7 (And.intro h1 (And.intro h5 h8)))))
   ·rw [if_neg (av h8)] at hM
    refine aa (And.intro ha4 (And.intro he7 h8)) ?_
    have nh8:=nzQ h8
    try have hr10:=mpQ nh8
    refine ce (n4 - 1) _ (by omega) sbQ sbQ ⟨(p4+1),rfl,⟨⟨by (first|exact omQ|(clear hM;first|(have hk:=b9 (j:=(p4+1)) (by omega) (by omega);exact aH))),by (first|exact omQ|(clear hM;first|(have hk:=b9 (j:=(p4+1)) (by omega) (by omega);exact aH)))⟩,by (clear hM;exact C7 hF5_0 (jl _) (by omega) (by omega) (by assumption))⟩,by (first|exact omQ|(clear hM;first|(have hk:=b9 (j:=(p4+1)) (by omega) (by omega);exact aH))),cg hM hag4⟩
  ·rw [if_neg (av h5)] at hM
   refine aa (And.intro ha4 h5) ?_
   have nh5:=nzQ h5
   try have hr11:=mpQ nh5
   have hM0:=hM;clear hM;obtain ⟨x12,hx13,hM⟩:=aA hM0;clear hM0
   have hcx12:=cmU hx13
   refine aT hcx12 (bk ha4) (bk ha4) (fun hw14=> ?_)
   replace hw14:=nzQ hw14
   refine aa ha4 ?_
   have hq15:=Da hx13
   replace hq15:=nzQ hq15
   have hM0:=hM;clear hM;obtain ⟨f16,d16,hf16,hd16,hM⟩:=bv hM0;clear hM0
   refine bL (fun n S=> ∃p:Int,S=(⟨[(3,.int .u64 (al .u64 n_)),(6,.int .i64 x12),(28,.agg (cf.map (V.int .u64))),(29,.int .i64 p)],[],0⟩:St)∧(((0≤p)∧(p≤12))∧(37<al .u64 n_))∧((12:Int) - p).toNat<n∧ap n f16 d16 p=r) (((12:Int) - 0).toNat+1) _ sbQ sbQ ⟨0,rfl,⟨⟨by (first|exact omQ|(clear hM;first|(have hk:=b9 (j:=p16) (by omega) (by omega);exact aH))),by (first|exact omQ|(clear hM;first|(have hk:=b9 (j:=p16) (by omega) (by omega);exact aH)))⟩,by (clear hM;exact C9 hF5_0 (by omega) (by rw [nO (by omega) (by omega)];omega))⟩,(Nat.lt_succ_self _),hM⟩ ?_
   clear hM
   rintro n16 S ⟨p16,rfl,⟨hfa16,hF12_0⟩,hm16,hM⟩
   have hM0:=hM;clear hM;obtain ⟨ag16,hag16,hM⟩:=bw hM0 (by omega) hf16;clear hM0
   replace hfa16:=nzQ hfa16
   replace hm16:=nzQ hm16
   have ha16:aE .i64 p16 1=p16+1:=bQ (by (first|exact omQ|(clear hM;first|(have hk:=b9 (j:=p16) (by omega) (by omega);exact aH)))) (by (first|exact omQ|(clear hM;first|(have hk:=b9 (j:=p16) (by omega) (by omega);exact aH))))
   refine aa (And.intro ha4 ha16) ?_
   refine aG (fun h17=> ?_) (fun h17=> ?_)
   ·rw [if_pos h17] at hM
    refine aa (And.intro ha4 (And.intro ha16 h17)) ?_
    have nh17:=nzQ h17
    try have hr18:=mpQ nh17
    have he19:=qK (f:=V.int .u64) (l:=cf) (n:=12) (i:=p16) rfl (by (first|exact omQ|(clear hM;first|(have hk:=b9 (j:=p16) (by omega) (by omega);exact aH))))
    replace he19:=spR he19
    refine aa (And.intro ha4 (And.intro ha16 he19)) ?_
    refine bc (by (first|exact omQ|(clear hM;first|(have hk:=b9 (j:=p16) (by omega) (by omega);exact aH)))) ?_
    refine aa (And.intro ha4 (And.intro ha16 he19)) ?_
    refine bc (by (first|exact omQ|(clear hM;first|(have hk:=b9 (j:=p16) (by omega) (by omega);exact aH)))) ?_
    refine aa (And.intro ha4 (And.intro ha16 he19)) ?_
    have hM0:=hM;clear hM;obtain ⟨x20,hx21,hM⟩:=aA hM0;clear hM0
    have hcx20:=cmH hx21 (D9 (gt cf p16) (al .u64 n_) (aq .u64 (an .u64 (al .u64 n_) 1) x12) x12 (by (first|omega|(have hk:=b9 (j:=p16) (by omega) (by omega);omega))) (by (first|omega|(have hk:=b9 (j:=p16) (by omega) (by omega);omega))) (by (first|omega|(have hk:=b9 (j:=p16) (by omega) (by omega);omega))) (by (first|omega|(have hk:=b9 (j:=p16) (by omega) (by omega);omega))))
    refine aT hcx20 (bk (And.intro ha4 (And.intro ha16 he19))) (bk (And.intro ha4 (And.intro ha16 he19))) (fun hw22=> ?_)
    replace hw22:=nzQ hw22
    refine aa (And.intro ha4 (And.intro ha16 he19)) ?_
    refine aG (fun h23=> ?_) (fun h23=> ?_)
    ·subst h23
     rw [if_pos rfl] at hM
     refine aa (And.intro ha4 (And.intro ha16 he19)) ?_
     subst hM
     exact aU (bf (And.intro ha4 (And.intro ha16 (And.intro he19 (And.intro h1 (And.intro h5 h17))))))
    ·subst h23
     rw [if_neg (by decide)] at hM
     refine aa (And.intro ha4 (And.intro ha16 he19)) ?_
     refine ce (n16 - 1) _ (by omega) sbQ sbQ ⟨(p16+1),rfl,⟨⟨by (first|exact omQ|(clear hM;first|(have hk:=b9 (j:=(p16+1)) (by omega) (by omega);exact aH))),by (first|exact omQ|(clear hM;first|(have hk:=b9 (j:=(p16+1)) (by omega) (by omega);exact aH)))⟩,by (clear hM;exact hF12_0)⟩,by (first|exact omQ|(clear hM;first|(have hk:=b9 (j:=(p16+1)) (by omega) (by omega);exact aH))),cg hM hag16⟩
   ·rw [if_neg (av h17)] at hM
    refine aa (And.intro ha4 (And.intro ha16 h17)) ?_
    have nh17:=nzQ h17
    try have hr24:=mpQ nh17
    subst hM
    exact aU (bf (And.intro ha4 (And.intro ha16 (And.intro h1 (And.intro h5 h17)))))
set_option maxHeartbeats 2000000 in
set_option maxRecDepth 100000 in
instance GL (a_:Int) (m:Int):CM En (k_ a_ m) 258 [.int .i64 a_,.int .i64 m] (fun y=> .bool y) (fun _=> []):=by
 refine cmQ fun r hM=> ?_
 rw [k_.eq_1] at hM
 refine aI az aC noJ Tryz.func258 rfl Tryz.ntmps258 (by kernel_rfl) fun hw=>aB ?_
 refine spQ ?_
 replace hw:=nzQ hw
 have hF:=bz
 exact auQ
set_option maxHeartbeats 2000000 in
set_option maxRecDepth 100000 in
instance GM (a_:Int) (b:Int) (m:Int):CM En (iA a_ b m) 220 [.int .i64 a_,.int .i64 b,.int .i64 m] (fun y=> .int .i64 y) (fun _=> []):=by
 refine cmQ fun r hM=> ?_
 rw [iA.eq_1] at hM
 refine aI az aC noJ Tryz.func220 rfl Tryz.ntmps220 (by kernel_rfl) fun hw=>aB ?_
 refine spQ ?_
 replace hw:=nzQ hw
 have hF:=bz
 exact auQ
set_option maxHeartbeats 2000000 in
set_option maxRecDepth 100000 in
theorem nT (a_:Int) (b:Int) (m:Int) (hp0:0≤a_) (hp1:a_<m) (hp2:0≤b):CM En (fW a_ b m) 221 [.int .i64 a_,.int .i64 b,.int .i64 m] (fun y=> .int .i64 y) (fun _=> []):=by
 refine cmQ fun r hM=> ?_
 rw [fW.eq_1] at hM
 refine aI az aC noJ Tryz.func221 rfl Tryz.ntmps221 (by kernel_rfl) fun hw=>aB ?_
 refine spQ ?_
 replace hw:=nzQ hw
 have h0_0:=nO (x:=a_) (by omega) (by omega)
 have h0_1:=nO (x:=b) (by omega) (by omega)
 have h0_2:=nO (x:=m) (by omega) (by omega)
 have hM0:=hM;clear hM;obtain ⟨x1,hx2,hM⟩:=aA hM0;clear hM0
 have hcx1:=cmU hx2
 refine aT hcx1 clQ clQ (fun hw3=> ?_)
 replace hw3:=nzQ hw3
 refine spQ ?_
 have hq4:=u_ (al .u64 m) hx2 (by omega) (by omega) (by omega) (by omega) (by omega)
 replace hq4:=nzQ hq4
 have hM0:=hM;clear hM;obtain ⟨x5,hx6,hM⟩:=aA hM0;clear hM0
 have hcx5:=cmH hx6 (vV (x1.1) (x1.2) (al .u64 m) (by (exact pfQ)))
 refine aT hcx5 clQ clQ (fun hw7=> ?_)
 replace hw7:=nzQ hw7
 refine spQ ?_
 subst hM
 exact aU lfQ
set_option maxHeartbeats 2000000 in
set_option maxRecDepth 100000 in
instance GN (a_:Int) (e_:Int) (m:Int):CM En (lc a_ e_ m) 181 [.int .i64 a_,.int .i64 e_,.int .i64 m] (fun y=> .tup [.int .i64 y.1,.int .i64 y.2]) (fun _=> []):=by
 refine cmQ fun r hM=> ?_
 rw [lc.eq_1] at hM
 refine aI az aC noJ Tryz.func181 rfl Tryz.ntmps181 (by kernel_rfl) fun hw=>aB ?_
 refine spQ ?_
 replace hw:=nzQ hw
 have hM0:=hM;clear hM;obtain ⟨x1,hx2,hM⟩:=aA hM0;clear hM0
 have hcx1:=cmU hx2
 refine aT hcx1 clQ clQ (fun hw3=> ?_)
 replace hw3:=nzQ hw3
 refine spQ ?_
 have hq4:=nzQ (cfU hx2)
 refine aG (fun h5=> ?_) (fun h5=> ?_)
 ·rw [if_pos h5] at hM
  refine aa h5 ?_
  have nh5:=nzQ h5
  try have hr6:=mpQ nh5
  subst hM
  exact aU (bf h5)
 ·rw [if_neg (av h5)] at hM
  refine aa h5 ?_
  have nh5:=nzQ h5
  try have hr7:=mpQ nh5
  refine aG (fun h8=> ?_) (fun h8=> ?_)
  ·rw [if_pos h8] at hM
   refine aa h8 ?_
   have nh8:=nzQ h8
   try have hr9:=mpQ nh8
   subst hM
   exact aU (bf (And.intro h5 h8))
  ·rw [if_neg (av h8)] at hM
   refine aa h8 ?_
   have nh8:=nzQ h8
   try have hr10:=mpQ nh8
   refine bc (by (first|exact omQ|(clear hM;first|(have hk:=jI (m:=m) (by omega);exact aH)))) ?_
   refine spQ ?_
   have hM0:=hM;clear hM;obtain ⟨f11,d11,hf11,hd11,hM⟩:=bv hM0;clear hM0
   refine bL (fun n S=> ∃p:Int×Int×Int,S=(⟨[(0,.int .i64 p.1),(1,.int .i64 p.2.1),(2,.int .i64 m),(9,.int .i64 p.2.2)],[],0⟩:St)∧((0≤p.1)∧(p.1<m)∧(0≤p.2.1)∧(0≤p.2.2)∧(p.2.2<m))∧p.2.1.toNat<n∧ap n f11 d11 p=r) (e_.toNat+1) _ sbQ sbQ ⟨(a_,e_,(dg .i64 1 m)),rfl,⟨by (first|exact omQ|(clear hM;first|(have hk:=jI (m:=m) (by omega);exact aH))),by (first|exact omQ|(clear hM;first|(have hk:=jI (m:=m) (by omega);exact aH))),by (first|exact omQ|(clear hM;first|(have hk:=jI (m:=m) (by omega);exact aH))),by (first|exact omQ|(clear hM;first|(have hk:=jI (m:=m) (by omega);exact aH))),by (first|exact omQ|(clear hM;first|(have hk:=jI (m:=m) (by omega);exact aH)))⟩,(Nat.lt_succ_self _),hM⟩ ?_
   clear hM
   rintro n11 S ⟨p11,rfl,hfa11,hm11,hM⟩
   have hM0:=hM;clear hM;obtain ⟨ag11,hag11,hM⟩:=bw hM0 (by omega) hf11;clear hM0
   replace hfa11:=nzQ hfa11
   replace hm11:=nzQ hm11
   refine spQ ?_
   refine aG (fun h12=> ?_) (fun h12=> ?_)
   ·rw [if_pos h12] at hM
    refine aa h12 ?_
    have nh12:=nzQ h12
    try have hr13:=mpQ nh12
    refine aG (fun h14=> ?_) (fun h14=> ?_)
    ·rw [if_pos h14] at hM
     refine aa h14 ?_
     have nh14:=nzQ h14
     try have hr15:=mpQ nh14
     have hM0:=hM;clear hM;obtain ⟨x16,hx17,hM⟩:=aA hM0;clear hM0
     have hcx16:=cmH hx17 (nT (p11.2.2) (p11.1) m (by (exact pfQ)) (by (exact pfQ)) (by (exact pfQ)))
     refine aT hcx16 clQ clQ (fun hw18=> ?_)
     replace hw18:=nzQ hw18
     refine spQ ?_
     have hq19:=rq hx17 (by omega) (by omega) (by omega) (by omega) (by omega)
     replace hq19:=nzQ hq19
     have hM0:=hM;clear hM;obtain ⟨x20,hx21,hM⟩:=aA hM0;clear hM0
     have hcx20:=cmH hx21 (nT (p11.1) (p11.1) m (by (exact pfQ)) (by (exact pfQ)) (by (exact pfQ)))
     refine aT hcx20 clQ clQ (fun hw22=> ?_)
     replace hw22:=nzQ hw22
     refine spQ ?_
     have hq23:=rq hx21 (by omega) (by omega) (by omega) (by omega) (by omega)
     replace hq23:=nzQ hq23
     refine ce (n11 - 1) _ (by omega) sbQ sbQ ⟨(x20,(aq .i64 p11.2.1 1),x16),rfl,⟨by (clear hM;(try dsimp only);(try rw [bU]);(try rw [bZ]);omega),by (clear hM;(try dsimp only);(try rw [bU]);(try rw [bZ]);omega),by (clear hM;(try dsimp only);(try rw [bU]);(try rw [bZ]);omega),by (clear hM;(try dsimp only);(try rw [bU]);(try rw [bZ]);omega),by (clear hM;(try dsimp only);(try rw [bU]);(try rw [bZ]);omega)⟩,by (clear hM;(try dsimp only);(try rw [bU]);(try rw [bZ]);omega),cg hM hag11⟩
    ·rw [if_neg (av h14)] at hM
     refine aa h14 ?_
     have nh14:=nzQ h14
     try have hr24:=mpQ nh14
     have hM0:=hM;clear hM;obtain ⟨x25,hx26,hM⟩:=aA hM0;clear hM0
     have hcx25:=cmH hx26 (nT (p11.1) (p11.1) m (by (exact pfQ)) (by (exact pfQ)) (by (exact pfQ)))
     refine aT hcx25 clQ clQ (fun hw27=> ?_)
     replace hw27:=nzQ hw27
     refine spQ ?_
     have hq28:=rq hx26 (by omega) (by omega) (by omega) (by omega) (by omega)
     replace hq28:=nzQ hq28
     refine ce (n11 - 1) _ (by omega) sbQ sbQ ⟨(x25,(aq .i64 p11.2.1 1),p11.2.2),rfl,⟨by (clear hM;(try dsimp only);(try rw [bU]);(try rw [bZ]);omega),by (clear hM;(try dsimp only);(try rw [bU]);(try rw [bZ]);omega),by (clear hM;(try dsimp only);(try rw [bU]);(try rw [bZ]);omega),by (clear hM;(try dsimp only);(try rw [bU]);(try rw [bZ]);omega),by (clear hM;(try dsimp only);(try rw [bU]);(try rw [bZ]);omega)⟩,by (clear hM;(try dsimp only);(try rw [bU]);(try rw [bZ]);omega),cg hM hag11⟩
   ·rw [if_neg (av h12)] at hM
    refine aa h12 ?_
    have nh12:=nzQ h12
    try have hr29:=mpQ nh12
    subst hM
    exact aU (bf (And.intro h5 (And.intro h8 h12)))
end Go.Proofs.YtiknkaadhomeiaaGreatDoor
