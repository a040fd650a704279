/- Texts of this proof, one after the other: EG, U1. -/
import Derived.Test.YtcbbjfckokckcaaGreatDoorZ7
import Derived.Lib.AppendZeros
import Derived.Test.YtcbbjfckokckcaaGreatDoorZ6
set_option linter.unusedVariables false
set_option linter.unusedSimpArgs false
namespace Go.Proofs.YtcbbjfckokckcaaGreatDoor
open Go.RowKit
set_option linter.unusedVariables false
set_option linter.unusedSimpArgs false
theorem IR {n:Int} {x:List Int} (h:x=q8 [] n):x.length=0:=by subst h;rfl
theorem IU: ∃i:TypeInfo,Tryz.prog.info? 5=some i∧i.zero=some (.int .u8 0)∧i.size=1∧i.bytes=1:=by
 have h:(Tryz.prog.info? 5).map (fun i=>(i.zero,i.size,i.bytes))=some (some (.int .u8 0),1,1):=by kernel_rfl
 cases hi:Tryz.prog.info? 5 with
 | none=>rw [hi] at h;cases h
 | some i=>
  rw [hi] at h
  simp only [Option.map_some,Option.some.injEq,Prod.mk.injEq] at h
  exact ⟨i,rfl,h.1,h.2.1,h.2.2⟩
set_option maxHeartbeats 4000000 in
set_option maxRecDepth 100000 in
theorem IV (n:Nat) (hn:0<n) (h9:n≤100000000) (w:World):Calls Tryz.prog 384 #[.slice none 0 0,.int .i64 (n:Int)] w fun e w'=>
  e= .returned (.slice (some ⟨w.heap.size,0,none⟩) 0 (grownCap w n 0 5))∧w'=w.drew.alloc (.cells (Builtin.zeroCells (Value.int .u8 0).cells n++Builtin.zeroCells (Value.int .u8 0).cells (grownCap w n 0 5 - n)) 5):=by
 obtain ⟨i,hi,hz,hs,hb⟩:=IU
 have hap:=fun ty=>Lib.run_append_nil_zeros (P:=Tryz.prog) w 99 3 ty 5 i (.int .u8 0) .i64 .i64 Tryz.underlying99 Tryz.underlying3 hi hz n hn (by omega) (by omega) (by rw [hb];omega)
 have hge:=grownCap_ge w n 0 5
 have hq1: ¬((n:Int)<0):=by omega
 have hq2:(0:Int)<(n:Int):=by omega
 go_enter Tryz.func384,Tryz.ntmps384
 have hb5:Tryz.t5.bytes=1:=by kernel_rfl
 have hns:Builtin.nextslicecap n 0=n:=by unfold Builtin.nextslicecap;simp;omega
 go_wp2
 all_goals first|(exfalso;rw [hb5] at*;omega)|(exfalso;omega)|skip
 refine ⟨rfl,_,results_tmp rfl _ _ _,?_,?_⟩
 ·rfl
 ·rfl
set_option maxHeartbeats 4000000 in
set_option maxRecDepth 100000 in
theorem IW (w:World):Calls Tryz.prog 384 #[.slice none 0 0,.int .i64 0] w fun e w'=>
  e= .returned (.slice none 0 0)∧w'=w:=by
 go_enter Tryz.func384,Tryz.ntmps384
 go_wp2
 exact ⟨rfl,_,results_tmp rfl _ _ _,rfl,rfl⟩
theorem IX (z0:Option Bool) (a0:List Int) (a1:Int) (hp0:z0=some true) (hp1:a0=[]) (hp2:0≤a1) (hp3:a1≤100000000):bn En 384 [.sl z0 1 false (a0.map (V.int .u8)),.int .i64 a1] (.own 0) [.own 5 1 false none ((q8 a0 a1).map (V.int .u8))]:=by
 subst hp0 hp1
 refine ⟨show∀xs w,(callFunc 384 xs).run En.P w= .ok (.enter 384 xs) w from enters_of Tryz.func384 (by kernel_rfl) rfl,fun c us _ hg hus=> ?_⟩
 simp only [rdT] at hus
 obtain ⟨u0,c0,rfl,h0,u1,c1,rfl,h1,rfl⟩:=hus
 simp only [rd,List.map_nil,List.length_nil] at h0 h1
 obtain ⟨a,cap,rfl,_,⟨rfl,rfl⟩,_⟩:=h0
 obtain ⟨rfl,_⟩:=h1
 show Calls Tryz.prog _ _ _ _
 obtain ⟨n,rfl⟩: ∃n:Nat,a1=n:=⟨a1.toNat,by omega⟩
 by_cases h9:n=0
 ·subst h9
  refine (IW c.w).mono ?_
  rintro e w' ⟨rfl,rfl⟩
  refine ⟨_,c,fun i=>if i=0 then some (.slice none 0 0) else none,rfl,rfl,Cx.le.refl c,⟨rfl,rfl⟩,?_,fun i hi=> ?_,fun i j bi bj k hij hi hj=> ?_⟩
  ·intro i b hb
   match i,hb with
   | 0,hb=>
    simp only [List.getElem?_cons_zero,Option.some.injEq] at hb
    subst hb
    exact ⟨⟨_,_,_,_,_,rfl⟩,_,rfl,Own.nil,fun k hk=>(by cases hk),fun _=>rfl,_,_,rfl,fun _=>rfl⟩
  ·exact if_neg (by simp only [List.length_cons,List.length_nil] at hi;omega)
  ·have:i=0:=by
    have:=(List.getElem?_eq_some_iff.1 hi).1
    simp at this;exact this
   have:j=0:=by
    have:=(List.getElem?_eq_some_iff.1 hj).1
    simp at this;exact this
   omega
 ·refine (IV n (by omega) (by omega) c.w).mono ?_
  rintro e w' ⟨rfl,rfl⟩
  have hge:=grownCap_ge c.w n 0 5
  have hcm:grownCap c.w n 0 5≤maxLen:=grownCap_le_maxLen c.w _ 0 5 (by unfold maxLen;omega)
  obtain ⟨c',h1,h2,h3,h4⟩:=oJ c 5 (rV ro0 1 false) [] [] (Builtin.zeroCells (Value.int .u8 0).cells n++Builtin.zeroCells (Value.int .u8 0).cells (grownCap c.w n 0 5 - n)) (grownCap c.w n 0 5) (by omega) (Nat.zero_le _) hcm (Nat.zero_le _)
   rfl (by rw [Array.size_append,size_zeroCells,size_zeroCells];show n*1+(grownCap c.w n 0 5 - n)*1=(grownCap c.w n 0 5 - 0)*1;omega) c.w.drew ⟨rfl,rfl,rfl,rfl⟩
  refine ⟨_,c',fun i=>if i=0 then some (.slice (some ⟨c.w.heap.size,0,none⟩) 0 (grownCap c.w n 0 5)) else none,rfl,by rw [h1];simp,h2,⟨rfl,rfl⟩,?_,fun i hi=> ?_,fun i j bi bj k hij hi hj=> ?_⟩
  ·intro i b hb
   match i,hb with
   | 0,hb=>
    simp only [List.getElem?_cons_zero,Option.some.injEq] at hb
    subst hb
    refine ⟨⟨_,_,_,_,_,rfl⟩,_,rfl,h3,fun k hk=> ?_,fun _=>rfl,_,_,rfl,fun h=>(by cases h)⟩
    obtain rfl:=lm hk
    exact .inl (Nat.le_refl _)
  ·exact if_neg (by simp only [List.length_cons,List.length_nil] at hi;omega)
  ·have:i=0:=by
    have:=(List.getElem?_eq_some_iff.1 hi).1
    simp at this;exact this
   have:j=0:=by
    have:=(List.getElem?_eq_some_iff.1 hj).1
    simp at this;exact this
   omega
end Go.Proofs.YtcbbjfckokckcaaGreatDoor
namespace Go.Proofs.YtcbbjfckokckcaaGreatDoor
open Go.RowKit
set_option linter.unusedSimpArgs false
set_option maxHeartbeats 2000000 in
set_option maxRecDepth 100000 in
instance MD (v:bL):CM En (gA v) 103 [(cA v)] (fun y=> .bool y) (fun _=> []):=by
 refine cmQ fun r hM=> ?_
 rw [gA.eq_1] at hM
 refine aw al ar noJ Tryz.func103 rfl Tryz.ntmps103 (by kernel_rfl) fun hw=>au ?_
 refine spQ ?_
 replace hw:=nzQ hw
 have hF:=aV
 exact auQ
set_option maxHeartbeats 2000000 in
set_option maxRecDepth 100000 in
instance ME (n_:Int):CM En (mg n_) 105 [.int .i64 n_] (fun y=> .agg [.int .i64 y.Kind,.int .i64 y.N,.sl none 1 false (y.B.map (V.int .u8)),.sl none 4 true (y.L.map a6)]) (fun _=> []):=by
 refine cmQ fun r hM=> ?_
 rw [mg.eq_1] at hM
 refine aw al ar noJ Tryz.func105 rfl Tryz.ntmps105 (by kernel_rfl) fun hw=>au ?_
 refine spQ ?_
 replace hw:=nzQ hw
 subst hM
 exact av lfQ
set_option maxHeartbeats 2000000 in
set_option maxRecDepth 100000 in
theorem IY (N:Nat) (ih: ∀(i_:ak) (depth:Int),hgt i_<N→bn En 224 [.agg [.int .i64 i_.Kind,.int .i64 i_.N,.sl none 1 false (i_.B.map (V.int .u8)),.sl none 4 true (i_.L.map a6)],.int .i64 depth] (.bool (fK i_ depth)) []) (x_:ak) (c0:Int) (hp0:hgt x_<N) (hp1:0<c0):bn En 284 [.agg [.int .i64 x_.Kind,.int .i64 x_.N,.sl none 1 false (x_.B.map (V.int .u8)),.sl none 4 true (x_.L.map a6)],.pp 1 false (.int .i64 c0)] (.bool (kM x_ c0)) []:=by
 generalize hM:kM x_ c0=r
 rw [kM.eq_1] at hM
 refine aw al ar noJ Tryz.func284 rfl Tryz.ntmps284 (by kernel_rfl) fun hw=>au ?_
 refine spQ ?_
 replace hw:=nzQ hw
 have ha1:aG .i64 c0 1=(c0 - 1):=di omQ omQ
 try simp only [ha1]
 have hM0:=hM;clear hM;obtain ⟨x2,hx3,hM⟩:=ao hM0;clear hM0
 have hcx2:=ih x_ (c0 - 1) (by omega)
 rw [←hx3] at hcx2
 refine aH hcx2 (aC ha1) (aC ha1) (fun hw4=> ?_)
 replace hw4:=nzQ hw4
 refine aa ha1 ?_
 subst hM
 exact av (ax ha1)
set_option maxHeartbeats 2000000 in
set_option maxRecDepth 100000 in
theorem IZ (N:Nat) (ih: ∀(i_:ak) (depth:Int),hgt i_<N→bn En 224 [.agg [.int .i64 i_.Kind,.int .i64 i_.N,.sl none 1 false (i_.B.map (V.int .u8)),.sl none 4 true (i_.L.map a6)],.int .i64 depth] (.bool (fK i_ depth)) []) (z0:Option Bool) (s:(List ak)) (f__c0:Int) (hp0: ∀x∈s,hgt x<N) (hp1:0<f__c0):bn En 338 [.sl z0 4 true (s.map a6),.fn 284 [.pp 1 false (.int .i64 f__c0)]] (.int .i64 (qL s f__c0)) []:=by
 generalize hM:qL s f__c0=r
 rw [qL.eq_1] at hM
 refine aw al ar noJ Tryz.func338 rfl Tryz.ntmps338 (by kernel_rfl) fun hw=>au ?_
 refine spQ ?_
 replace hw:=nzQ hw
 have hM0:=hM;clear hM;obtain ⟨f1,d1,hf1,hd1,hM⟩:=aT hM0;clear hM0
 refine a7 (fun n S=> ∃p:Int,S=(⟨[(0,.sl z0 4 true (s.map a6)),(1,.fn 284 [.pp 1 false (.int .i64 f__c0)]),(7,.int .i64 (s.length:Int)),(8,.int .i64 p)],[],0⟩:St)∧((0≤p)∧(p≤(s.length:Int)))∧((s.length:Int) - p).toNat<n∧aq n f1 d1 p=r) (((s.length:Int) - 0).toNat+1) _ sbQ sbQ ⟨0,rfl,⟨omQ,omQ⟩,(Nat.lt_succ_self _),hM⟩ ?_
 clear hM
 rintro n1 S ⟨p1,rfl,hfa1,hm1,hM⟩
 have hM0:=hM;clear hM;obtain ⟨ag1,hag1,hM⟩:=aU hM0 (by omega) hf1;clear hM0
 replace hfa1:=nzQ hfa1
 replace hm1:=nzQ hm1
 have ha1:ay .i64 p1 1=p1+1:=aZ omQ omQ
 refine aa ha1 ?_
 refine aB (fun h2=> ?_) (fun h2=> ?_)
 ·rw [if_pos h2] at hM
  refine aa (And.intro ha1 h2) ?_
  have nh2:=nzQ h2
  try have hr3:=mpQ nh2
  refine aO omQ ?_
  have he4:=fun d=>bG (l:=s) (f:=a6) (i:=p1) omQ d
  refine aa (And.intro ha1 he4) ?_
  have hM0:=hM;clear hM;obtain ⟨x5,hx6,hM⟩:=ao hM0;clear hM0
  have hcx5:=IY N ih (gt s p1) f__c0 (by (first|exact hp1|exact hp0 _ (cg (by omega)))) (by (first|exact hp1|exact hp0 _ (cg (by omega))))
  rw [←hx6] at hcx5
  refine aH hcx5 (aC (And.intro ha1 he4)) (aC (And.intro ha1 he4)) (fun hw7=> ?_)
  replace hw7:=nzQ hw7
  refine aa (And.intro ha1 he4) ?_
  have hF:=(And.intro ha1 (And.intro h2 he4))
  exact auQ
 ·rw [if_neg (an h2)] at hM
  refine aa (And.intro ha1 h2) ?_
  have nh2:=nzQ h2
  try have hr9:=mpQ nh2
  subst hM
  exact av (ax (And.intro ha1 h2))
set_option maxHeartbeats 2000000 in
set_option maxRecDepth 100000 in
theorem I0 (N:Nat) (ih: ∀(i_:ak) (depth:Int),hgt i_<N→bn En 224 [.agg [.int .i64 i_.Kind,.int .i64 i_.N,.sl none 1 false (i_.B.map (V.int .u8)),.sl none 4 true (i_.L.map a6)],.int .i64 depth] (.bool (fK i_ depth)) []) (z0:Option Bool) (s:(List ak)) (f__c0:Int) (hp0: ∀x∈s,hgt x<N) (hp1:0<f__c0):bn En 283 [.sl z0 4 true (s.map a6),.fn 284 [.pp 1 false (.int .i64 f__c0)]] (.bool (mh s f__c0)) []:=by
 generalize hM:mh s f__c0=r
 rw [mh.eq_1] at hM
 refine aw al ar noJ Tryz.func283 rfl Tryz.ntmps283 (by kernel_rfl) fun hw=>au ?_
 refine spQ ?_
 replace hw:=nzQ hw
 have hM0:=hM;clear hM;obtain ⟨x1,hx2,hM⟩:=ao hM0;clear hM0
 have hcx1:=IZ N ih z0 s f__c0 (by (first|exact hp1|exact hp0)) (by (first|exact hp1|exact hp0))
 rw [←hx2] at hcx1
 refine aH hcx1 clQ clQ (fun hw3=> ?_)
 replace hw3:=nzQ hw3
 refine spQ ?_
 subst hM
 exact av lfQ
set_option maxHeartbeats 2000000 in
set_option maxRecDepth 100000 in
theorem I1 (N:Nat) (ih: ∀(i_:ak) (depth:Int),hgt i_<N→bn En 224 [.agg [.int .i64 i_.Kind,.int .i64 i_.N,.sl none 1 false (i_.B.map (V.int .u8)),.sl none 4 true (i_.L.map a6)],.int .i64 depth] (.bool (fK i_ depth)) []) (i_:ak) (depth:Int) (hp_:hgt i_<N+1):bn En 224 [.agg [.int .i64 i_.Kind,.int .i64 i_.N,.sl none 1 false (i_.B.map (V.int .u8)),.sl none 4 true (i_.L.map a6)],.int .i64 depth] (.bool (nR i_ depth)) []:=by
 generalize hM:nR i_ depth=r
 rw [nR.eq_1] at hM
 refine aw al ar noJ Tryz.func224 rfl Tryz.ntmps224 (by kernel_rfl) fun hw=>au ?_
 refine spQ ?_
 replace hw:=nzQ hw
 refine aB (fun h1=> ?_) (fun h1=> ?_)
 ·rw [if_pos h1] at hM
  refine aa h1 ?_
  have nh1:=nzQ h1
  try have hr2:=mpQ nh1
  have hF:=h1
  exact auQ
 ·rw [if_neg (an h1)] at hM
  refine aa h1 ?_
  have nh1:=nzQ h1
  try have hr6:=mpQ nh1
  refine aB (fun h7=> ?_) (fun h7=> ?_)
  ·rw [if_pos h7] at hM
   refine aa h7 ?_
   have nh7:=nzQ h7
   try have hr8:=mpQ nh7
   have hF:=(And.intro h1 h7)
   exact auQ
  ·rw [if_neg (an h7)] at hM
   refine aa h7 ?_
   have nh7:=nzQ h7
   try have hr12:=mpQ nh7
   refine aB (fun h13=> ?_) (fun h13=> ?_)
   ·rw [if_pos h13] at hM
    refine aa h13 ?_
    have nh13:=nzQ h13
    try have hr14:=mpQ nh13
    refine dK (fun h15=> ?_) (fun h15=> ?_)
    ·rw [if_pos h15] at hM
     refine aa h15 ?_
     have nh15:=nzQ h15
     try have hr16:=mpQ nh15
     refine dK (fun h17=> ?_) (fun h17=> ?_)
     ·rw [if_pos h17] at hM
      refine aa h17 ?_
      have nh17:=nzQ h17
      try have hr18:=mpQ nh17
      refine dK (fun h19=> ?_) (fun h19=> ?_)
      ·rw [if_pos h19] at hM
       refine aa h19 ?_
       have nh19:=nzQ h19
       try have hr20:=mpQ nh19
       refine dK (fun h21=> ?_) (fun h21=> ?_)
       ·rw [if_pos h21] at hM
        refine aa h21 ?_
        have nh21:=nzQ h21
        try have hr22:=mpQ nh21
        have hM0:=hM;clear hM;obtain ⟨x23,hx24,hM⟩:=ao hM0;clear hM0
        have hcx23:=I0 N ih none (i_.L) depth (by (first|omega|exact fun x hx=>Nat.lt_of_lt_of_le (qG hx) (Nat.lt_succ_iff.1 hp_))) (by (first|omega|exact fun x hx=>Nat.lt_of_lt_of_le (qG hx) (Nat.lt_succ_iff.1 hp_)))
        rw [←hx24] at hcx23
        refine gT hcx23 clQ clQ (fun hw25=> ?_)
        replace hw25:=nzQ hw25
        refine spQ ?_
        subst hM
        exact av (ax (And.intro h1 (And.intro h7 (And.intro h13 (And.intro h15 (And.intro h17 (And.intro h19 h21)))))))
       ·rw [if_neg (an h21)] at hM
        refine aa h21 ?_
        have nh21:=nzQ h21
        try have hr26:=mpQ nh21
        subst hM
        exact av (ax (And.intro h1 (And.intro h7 (And.intro h13 (And.intro h15 (And.intro h17 (And.intro h19 h21)))))))
      ·rw [if_neg (an h19)] at hM
       refine aa h19 ?_
       have nh19:=nzQ h19
       try have hr27:=mpQ nh19
       subst hM
       exact av (ax (And.intro h1 (And.intro h7 (And.intro h13 (And.intro h15 (And.intro h17 h19))))))
     ·rw [if_neg (an h17)] at hM
      refine aa h17 ?_
      have nh17:=nzQ h17
      try have hr28:=mpQ nh17
      subst hM
      exact av (ax (And.intro h1 (And.intro h7 (And.intro h13 (And.intro h15 h17)))))
    ·rw [if_neg (an h15)] at hM
     refine aa h15 ?_
     have nh15:=nzQ h15
     try have hr29:=mpQ nh15
     subst hM
     exact av (ax (And.intro h1 (And.intro h7 (And.intro h13 h15))))
   ·rw [if_neg (an h13)] at hM
    refine aa h13 ?_
    have nh13:=nzQ h13
    try have hr30:=mpQ nh13
    subst hM
    exact av (ax (And.intro h1 (And.intro h7 h13)))
theorem I2: ∀(N:Nat) (i_:ak) (depth:Int),hgt i_<N→bn En 224 [.agg [.int .i64 i_.Kind,.int .i64 i_.N,.sl none 1 false (i_.B.map (V.int .u8)),.sl none 4 true (i_.L.map a6)],.int .i64 depth] (.bool (fK i_ depth)) []:=by
 intro N
 induction N with
 | zero=>intro i_ depth h;exact absurd h (Nat.not_lt_zero _)
 | succ N ih=>
  intro i_ depth h
  have h9:=I1 N ih i_ depth h
  rw [HU] at h9
  exact h9
theorem I3 (i_:ak) (depth:Int):bn En 224 [.agg [.int .i64 i_.Kind,.int .i64 i_.N,.sl none 1 false (i_.B.map (V.int .u8)),.sl none 4 true (i_.L.map a6)],.int .i64 depth] (.bool (fK i_ depth)) []:=
 I2 (hgt i_+1) i_ depth (Nat.lt_succ_self _)
set_option maxHeartbeats 2000000 in
set_option maxRecDepth 100000 in
instance MF (i_:ak):CM En (mi i_) 167 [.agg [.int .i64 i_.Kind,.int .i64 i_.N,.sl none 1 false (i_.B.map (V.int .u8)),.sl none 4 true (i_.L.map a6)]] (fun y=> .bool y) (fun _=> []):=by
 refine cmQ fun r hM=> ?_
 rw [mi.eq_1] at hM
 refine aw al ar noJ Tryz.func167 rfl Tryz.ntmps167 (by kernel_rfl) fun hw=>au ?_
 refine spQ ?_
 replace hw:=nzQ hw
 have hM0:=hM;clear hM;obtain ⟨x1,hx2,hM⟩:=ao hM0;clear hM0
 have hcx1:=I3 i_ 8
 rw [←hx2] at hcx1
 refine aH hcx1 clQ clQ (fun hw3=> ?_)
 replace hw3:=nzQ hw3
 refine spQ ?_
 subst hM
 exact av lfQ
set_option maxHeartbeats 2000000 in
set_option maxRecDepth 100000 in
theorem wC (z0:Option Bool) (out:(List Int)) (n_:Int) (size:Int) (hp0:size≤8) (hp1:out.length≤1000000000) (hp2:0≤size):cX En 225 [.own 0,.int .u64 n_,.int .i64 size] [.own 5 1 false z0 (out.map (V.int .u8))] (.own 0) [.own 5 1 false none ((iQ out n_ size).map (V.int .u8))] []:=by
 generalize hM:iQ out n_ size=r
 rw [iQ.eq_1] at hM
 refine iP al ar noJ Tryz.func225 rfl Tryz.ntmps225 (by kernel_rfl) rfl fun ks hw hwB=>au ?_
 refine spQ ?_
 replace hw:=nzQ hw
 try simp only [fd,wfB,decide_eq_true_eq,decide_eq_false_iff_not,Bool.and_eq_true,Bool.or_eq_true,Bool.not_eq_true',Bool.not_eq_false',beq_iff_eq,bne_iff_ne,beq_eq_false_iff_ne,bne_eq_false_iff_eq,ne_eq,Int.not_lt,Int.not_le,gt_iff_lt,ge_iff_le,List.length_map,wfL,wfV,and_true,true_and,dO,gh,gk,gm,gn,eX,eB,List.length_append,List.length_cons,List.length_nil,List.length_replicate,aD,eY,eZ,fb,cb,eC,go] at hwB
 have ha1:aG .i64 size 1=(size - 1):=di omQ omQ
 try simp only [ha1]
 have hM0:=hM;clear hM;obtain ⟨f2,d2,hf2,hd2,hM⟩:=aT hM0;clear hM0
 refine a7 (fun n S=> ∃p:Int×List Int,S=(⟨[(0,.own 0),(1,.int .u64 n_),(7,.int .i64 p.1)],[(0,.own 5 1 false none (p.2.map (V.int .u8)))],1⟩:St)∧((-1≤p.1)∧(p.1<8)∧(((p.2).length:Int)+p.1≤1000000020))∧(p.1+1).toNat<n∧aq n f2 d2 p=r) (((size - 1)+1).toNat+1) _ sbQ sbQ ⟨((size - 1),out),rfl,⟨omQ,omQ,omQ⟩,(Nat.lt_succ_self _),hM⟩ ?_
 clear hM
 rintro n2 S ⟨p2,rfl,hfa2,hm2,hM⟩
 have hM0:=hM;clear hM;obtain ⟨ag2,hag2,hM⟩:=aU hM0 (by omega) hf2;clear hM0
 replace hfa2:=nzQ hfa2
 replace hm2:=nzQ hm2
 refine aa ha1 ?_
 refine aB (fun h3=> ?_) (fun h3=> ?_)
 ·rw [if_pos h3] at hM
  refine aa (And.intro ha1 h3) ?_
  have nh3:=nzQ h3
  try have hr4:=mpQ nh3
  obtain ⟨ha5,hbha5⟩:=nA (a:=8) (b:=p2.1) 8 8 64 omQ omQ omQ omQ (by decide) (by decide)
  try simp only [ha5]
  refine aO omQ ?_
  refine aa (And.intro ha1 ha5) ?_
  refine aO omQ ?_
  refine aa (And.intro ha1 ha5) ?_
  have ha6:aG .i64 p2.1 1=(p2.1 - 1):=di omQ omQ
  try simp only [ha6]
  refine bT (n2 - 1) _ (by omega) sbQ sbQ ⟨((p2.1 - 1),(p2.2++([(ae .u8 (az .u64 n_ (8*p2.1)))]:List Int))),rfl,⟨omQ,omQ,omQ⟩,omQ,bP hM hag2⟩
 ·rw [if_neg (an h3)] at hM
  refine aa (And.intro ha1 h3) ?_
  have nh3:=nzQ h3
  try have hr7:=mpQ nh3
  subst hM
  exact cT [0] (by simp only [go_sem,aE,aF,List.length_replicate,aD,Int.toNat_natCast,↓reduceIte,Nat.reduceEqDiff,Nat.reduceAdd,Int.reduceAdd,Nat.reduceMul,Nat.reduceLeDiff,Nat.reduceLT,Int.reduceLE,Int.reduceLT,Int.reduceNeg,Int.reduceToNat,mt,mtL,aL,aK,mtZ,and_self,eq_self,or_true,true_or,bp,ha1,bl,bm,Int.reduceSub,or_self,h3]) (by decide) (by simp only [go_sem,aE,aF,List.length_replicate,aD,Int.toNat_natCast,↓reduceIte,Nat.reduceEqDiff,Nat.reduceAdd,Int.reduceAdd,Nat.reduceMul,Nat.reduceLeDiff,Nat.reduceLT,Int.reduceLE,Int.reduceLT,Int.reduceNeg,Int.reduceToNat,mt,mtL,aL,aK,mtZ,and_self,eq_self,or_true,true_or,bp,ha1,bl,bm,Int.reduceSub,or_self,h3])
set_option maxHeartbeats 2000000 in
set_option maxRecDepth 100000 in
theorem I4 (N:Nat) (ih: ∀(z0:Option Bool) (out:(List Int)) (i_:ak),(hgt i_≤500000000)→hgt i_<N→cX En 168 [.own 0,.agg [.int .i64 i_.Kind,.int .i64 i_.N,.sl none 1 false (i_.B.map (V.int .u8)),.sl none 4 true (i_.L.map a6)]] [.own 5 1 false z0 (out.map (V.int .u8))] (.own 0) [.own 5 1 false none ((fM out i_).map (V.int .u8))] []) (z0:Option Bool) (out:(List Int)) (i_:ak) (hp0:hgt i_≤500000000) (hp_:hgt i_<N+1):cX En 168 [.own 0,.agg [.int .i64 i_.Kind,.int .i64 i_.N,.sl none 1 false (i_.B.map (V.int .u8)),.sl none 4 true (i_.L.map a6)]] [.own 5 1 false z0 (out.map (V.int .u8))] (.own 0) [.own 5 1 false none ((nS out i_).map (V.int .u8))] []:=by
 generalize hM:nS out i_=r
 rw [nS.eq_1] at hM
 refine iP al ar noJ Tryz.func168 rfl Tryz.ntmps168 (by kernel_rfl) rfl fun ks hw hwB=>au ?_
 refine spQ ?_
 replace hw:=nzQ hw
 try simp only [fd,wfB,decide_eq_true_eq,decide_eq_false_iff_not,Bool.and_eq_true,Bool.or_eq_true,Bool.not_eq_true',Bool.not_eq_false',beq_iff_eq,bne_iff_ne,beq_eq_false_iff_ne,bne_eq_false_iff_eq,ne_eq,Int.not_lt,Int.not_le,gt_iff_lt,ge_iff_le,List.length_map,wfL,wfV,and_true,true_and,dO,gh,gk,gm,gn,eX,eB,List.length_append,List.length_cons,List.length_nil,List.length_replicate,aD,eY,eZ,fb,cb,eC,go] at hwB
 refine aB (fun h1=> ?_) (fun h1=> ?_)
 ·rw [if_pos h1] at hM
  refine aa h1 ?_
  have nh1:=nzQ h1
  try have hr2:=mpQ nh1
  subst hM
  exact cT [0] (by simp only [go_sem,aE,aF,List.length_replicate,aD,Int.toNat_natCast,↓reduceIte,Nat.reduceEqDiff,Nat.reduceAdd,Int.reduceAdd,Nat.reduceMul,Nat.reduceLeDiff,Nat.reduceLT,Int.reduceLE,Int.reduceLT,Int.reduceNeg,Int.reduceToNat,mt,mtL,aL,aK,mtZ,and_self,eq_self,or_true,true_or,bp,bl,bm,Int.reduceSub,or_self,h1]) (by decide) (by simp only [go_sem,aE,aF,List.length_replicate,aD,Int.toNat_natCast,↓reduceIte,Nat.reduceEqDiff,Nat.reduceAdd,Int.reduceAdd,Nat.reduceMul,Nat.reduceLeDiff,Nat.reduceLT,Int.reduceLE,Int.reduceLT,Int.reduceNeg,Int.reduceToNat,mt,mtL,aL,aK,mtZ,and_self,eq_self,or_true,true_or,bp,bl,bm,Int.reduceSub,or_self,h1])
 ·rw [if_neg (an h1)] at hM
  refine aa h1 ?_
  have nh1:=nzQ h1
  try have hr3:=mpQ nh1
  refine aO (by (first|exact omQ|(clear hM;first|(have h9:=fJ i_;exact ap)))) ?_
  refine spQ ?_
  refine aB (fun h4=> ?_) (fun h4=> ?_)
  ·rw [if_pos h4] at hM
   refine aa h4 ?_
   have nh4:=nzQ h4
   try have hr5:=mpQ nh4
   have hM0:=hM;clear hM;obtain ⟨x6,hx7,hM⟩:=ao hM0;clear hM0
   have hcx6:=wC (some false) (out++([(ae .u8 i_.Kind)]:List Int)) (ae .u64 i_.N) 8 (by (exact pfQ)) (by (exact pfQ)) (by (exact pfQ))
   rw [←hx7] at hcx6
   refine da [0] hcx6 (by decide) (by simp only [go_sem,aE,aF,List.length_replicate,aD,Int.toNat_natCast,↓reduceIte,Nat.reduceEqDiff,Nat.reduceAdd,Int.reduceAdd,Nat.reduceMul,Nat.reduceLeDiff,Nat.reduceLT,Int.reduceLE,Int.reduceLT,Int.reduceNeg,Int.reduceToNat,mt,mtL,aL,aK,mtZ,and_self,eq_self,or_true,true_or]) (by simp only [go_sem,aE,aF,List.length_replicate,aD,Int.toNat_natCast,↓reduceIte,Nat.reduceEqDiff,Nat.reduceAdd,Int.reduceAdd,Nat.reduceMul,Nat.reduceLeDiff,Nat.reduceLT,Int.reduceLE,Int.reduceLT,Int.reduceNeg,Int.reduceToNat,mt,mtL,aL,aK,mtZ,and_self,eq_self,or_true,true_or]) (fun hw8=> ?_)
   replace hw8:=nzQ hw8
   refine spQ ?_
   have hq9:=wj hx7
   replace hq9:=nzQ hq9
   subst hM
   exact cT [0] (by simp only [go_sem,aE,aF,List.length_replicate,aD,Int.toNat_natCast,↓reduceIte,Nat.reduceEqDiff,Nat.reduceAdd,Int.reduceAdd,Nat.reduceMul,Nat.reduceLeDiff,Nat.reduceLT,Int.reduceLE,Int.reduceLT,Int.reduceNeg,Int.reduceToNat,mt,mtL,aL,aK,mtZ,and_self,eq_self,or_true,true_or,bp,bl,bm,Int.reduceSub,or_self,h1,h4]) (by decide) (by simp only [go_sem,aE,aF,List.length_replicate,aD,Int.toNat_natCast,↓reduceIte,Nat.reduceEqDiff,Nat.reduceAdd,Int.reduceAdd,Nat.reduceMul,Nat.reduceLeDiff,Nat.reduceLT,Int.reduceLE,Int.reduceLT,Int.reduceNeg,Int.reduceToNat,mt,mtL,aL,aK,mtZ,and_self,eq_self,or_true,true_or,bp,bl,bm,Int.reduceSub,or_self,h1,h4])
  ·rw [if_neg (an h4)] at hM
   refine aa h4 ?_
   have nh4:=nzQ h4
   try have hr10:=mpQ nh4
   refine aB (fun h11=> ?_) (fun h11=> ?_)
   ·rw [if_pos h11] at hM
    refine aa h11 ?_
    have nh11:=nzQ h11
    try have hr12:=mpQ nh11
    refine bO 55 8 [28,29,30,31,32,33,34,35] [] ([[],[],[1],[1,2],[1,2,3],[0,1,2,3,4],[],[6]]++[List.range 8,List.range 9]) [(5,0)] (by kernel_rfl) (by exact alQ) ?_
    refine spQ ?_
    have hM0:=hM;clear hM;obtain ⟨x13,hx14,hM⟩:=ao hM0;clear hM0
    have hcx13:=wC (some false) (out++([(ae .u8 i_.Kind)]:List Int)) (ae .u64 (i_.B.length:Int)) 4 (by (exact pfQ)) (by (exact pfQ)) (by (exact pfQ))
    rw [←hx14] at hcx13
    refine Gw 0 hcx13 (by simp only [go_sem,aE,aF,List.length_replicate,aD,Int.toNat_natCast,↓reduceIte,Nat.reduceEqDiff,Nat.reduceAdd,Int.reduceAdd,Nat.reduceMul,Nat.reduceLeDiff,Nat.reduceLT,Int.reduceLE,Int.reduceLT,Int.reduceNeg,Int.reduceToNat,mt,mtL,aL,aK,mtZ,and_self,eq_self,or_true,true_or]) (by simp only [go_sem,aE,aF,List.length_replicate,aD,Int.toNat_natCast,↓reduceIte,Nat.reduceEqDiff,Nat.reduceAdd,Int.reduceAdd,Nat.reduceMul,Nat.reduceLeDiff,Nat.reduceLT,Int.reduceLE,Int.reduceLT,Int.reduceNeg,Int.reduceToNat,mt,mtL,aL,aK,mtZ,and_self,eq_self,or_true,true_or]) (by simp only [go_sem,aE,aF,List.length_replicate,aD,Int.toNat_natCast,↓reduceIte,Nat.reduceEqDiff,Nat.reduceAdd,Int.reduceAdd,Nat.reduceMul,Nat.reduceLeDiff,Nat.reduceLT,Int.reduceLE,Int.reduceLT,Int.reduceNeg,Int.reduceToNat,mt,mtL,aL,aK,mtZ,and_self,eq_self,or_true,true_or]) (zt fun _=>(by simp only [go_sem,aE,aF,List.length_replicate,aD,Int.toNat_natCast,↓reduceIte,Nat.reduceEqDiff,Nat.reduceAdd,Int.reduceAdd,Nat.reduceMul,Nat.reduceLeDiff,Nat.reduceLT,Int.reduceLE,Int.reduceLT,Int.reduceNeg,Int.reduceToNat,mt,mtL,aL,aK,mtZ,and_self,eq_self,or_true,true_or])) ?_
    refine spQ ?_
    have hq15:=wj hx14
    replace hq15:=nzQ hq15
    refine aO (by (first|exact omQ|(clear hM;first|(have h9:=fJ i_;exact ap)))) ?_
    refine spQ ?_
    subst hM
    exact cT [8] (by simp only [go_sem,aE,aF,List.length_replicate,aD,Int.toNat_natCast,↓reduceIte,Nat.reduceEqDiff,Nat.reduceAdd,Int.reduceAdd,Nat.reduceMul,Nat.reduceLeDiff,Nat.reduceLT,Int.reduceLE,Int.reduceLT,Int.reduceNeg,Int.reduceToNat,mt,mtL,aL,aK,mtZ,and_self,eq_self,or_true,true_or,bp,bl,bm,Int.reduceSub,or_self,h1,h4,h11]) (by decide) (by simp only [go_sem,aE,aF,List.length_replicate,aD,Int.toNat_natCast,↓reduceIte,Nat.reduceEqDiff,Nat.reduceAdd,Int.reduceAdd,Nat.reduceMul,Nat.reduceLeDiff,Nat.reduceLT,Int.reduceLE,Int.reduceLT,Int.reduceNeg,Int.reduceToNat,mt,mtL,aL,aK,mtZ,and_self,eq_self,or_true,true_or,bp,bl,bm,Int.reduceSub,or_self,h1,h4,h11])
   ·rw [if_neg (an h11)] at hM
    refine aa h11 ?_
    have nh11:=nzQ h11
    try have hr16:=mpQ nh11
    have hM0:=hM;clear hM;obtain ⟨x17,hx18,hM⟩:=ao hM0;clear hM0
    have hcx17:=wC (some false) (out++([(ae .u8 i_.Kind)]:List Int)) (ae .u64 (i_.L.length:Int)) 4 (by (exact pfQ)) (by (exact pfQ)) (by (exact pfQ))
    rw [←hx18] at hcx17
    refine da [0] hcx17 (by decide) (by simp only [go_sem,aE,aF,List.length_replicate,aD,Int.toNat_natCast,↓reduceIte,Nat.reduceEqDiff,Nat.reduceAdd,Int.reduceAdd,Nat.reduceMul,Nat.reduceLeDiff,Nat.reduceLT,Int.reduceLE,Int.reduceLT,Int.reduceNeg,Int.reduceToNat,mt,mtL,aL,aK,mtZ,and_self,eq_self,or_true,true_or]) (by simp only [go_sem,aE,aF,List.length_replicate,aD,Int.toNat_natCast,↓reduceIte,Nat.reduceEqDiff,Nat.reduceAdd,Int.reduceAdd,Nat.reduceMul,Nat.reduceLeDiff,Nat.reduceLT,Int.reduceLE,Int.reduceLT,Int.reduceNeg,Int.reduceToNat,mt,mtL,aL,aK,mtZ,and_self,eq_self,or_true,true_or]) (fun hw19=> ?_)
    replace hw19:=nzQ hw19
    refine spQ ?_
    have hq20:=wj hx18
    replace hq20:=nzQ hq20
    have hM0:=hM;clear hM;obtain ⟨f21,d21,hf21,hd21,hM⟩:=aT hM0;clear hM0
    refine a7 (fun n S=> ∃p:Int×List Int,S=(⟨[(0,.own 0),(44,.sl none 4 true (i_.L.map a6)),(45,.int .i64 (i_.L.length:Int)),(46,.int .i64 p.1)],[(0,.own 5 1 false none (p.2.map (V.int .u8)))],3⟩:St)∧((0≤p.1)∧(p.1≤(i_.L.length:Int)))∧((i_.L.length:Int) - p.1).toNat<n∧aq n f21 d21 p=r) (((i_.L.length:Int) - 0).toNat+1) _ sbQ sbQ ⟨(0,x17),rfl,⟨by (first|exact omQ|(clear hM;first|(have h9:=fJ i_;exact ap))),by (first|exact omQ|(clear hM;first|(have h9:=fJ i_;exact ap)))⟩,(Nat.lt_succ_self _),hM⟩ ?_
    clear hM
    rintro n21 S ⟨p21,rfl,hfa21,hm21,hM⟩
    have hM0:=hM;clear hM;obtain ⟨ag21,hag21,hM⟩:=aU hM0 (by omega) hf21;clear hM0
    replace hfa21:=nzQ hfa21
    replace hm21:=nzQ hm21
    have ha21:ay .i64 p21.1 1=p21.1+1:=aZ (by (first|exact omQ|(clear hM;first|(have h9:=fJ i_;exact ap)))) (by (first|exact omQ|(clear hM;first|(have h9:=fJ i_;exact ap))))
    refine aa ha21 ?_
    refine aB (fun h22=> ?_) (fun h22=> ?_)
    ·rw [if_pos h22] at hM
     refine aa (And.intro ha21 h22) ?_
     have nh22:=nzQ h22
     try have hr23:=mpQ nh22
     refine aO (by (first|exact omQ|(clear hM;first|(have h9:=fJ i_;exact ap)))) ?_
     have he24:=fun d=>bG (l:=i_.L) (f:=a6) (i:=p21.1) (by (first|exact omQ|(clear hM;first|(have h9:=fJ i_;exact ap)))) d
     refine aa (And.intro ha21 he24) ?_
     have hM0:=hM;clear hM;obtain ⟨x25,hx26,hM⟩:=ao hM0;clear hM0
     have hcx25:=ih none (p21.2) (gt i_.L p21.1) (by (have h9:=qG (i:=i_) (cg (l:=i_.L) (i:=p21.1) (by omega));omega)) (by (have h9:=qG (i:=i_) (cg (l:=i_.L) (i:=p21.1) (by omega));omega))
     rw [←hx26] at hcx25
     refine da [0] hcx25 (by decide) (by simp only [go_sem,aE,aF,List.length_replicate,aD,Int.toNat_natCast,↓reduceIte,Nat.reduceEqDiff,Nat.reduceAdd,Int.reduceAdd,Nat.reduceMul,Nat.reduceLeDiff,Nat.reduceLT,Int.reduceLE,Int.reduceLT,Int.reduceNeg,Int.reduceToNat,mt,mtL,aL,aK,mtZ,and_self,eq_self,or_true,true_or,ha21,he24]) (by simp only [go_sem,aE,aF,List.length_replicate,aD,Int.toNat_natCast,↓reduceIte,Nat.reduceEqDiff,Nat.reduceAdd,Int.reduceAdd,Nat.reduceMul,Nat.reduceLeDiff,Nat.reduceLT,Int.reduceLE,Int.reduceLT,Int.reduceNeg,Int.reduceToNat,mt,mtL,aL,aK,mtZ,and_self,eq_self,or_true,true_or,ha21,he24]) (fun hw27=> ?_)
     replace hw27:=nzQ hw27
     refine aa (And.intro ha21 he24) ?_
     refine bT (n21 - 1) _ (by omega) sbQ sbQ ⟨((p21.1+1),x25),rfl,⟨by (first|exact omQ|(clear hM;first|(have h9:=fJ i_;exact ap))),by (first|exact omQ|(clear hM;first|(have h9:=fJ i_;exact ap)))⟩,by (first|exact omQ|(clear hM;first|(have h9:=fJ i_;exact ap))),bP hM hag21⟩
    ·rw [if_neg (an h22)] at hM
     refine aa (And.intro ha21 h22) ?_
     have nh22:=nzQ h22
     try have hr28:=mpQ nh22
     subst hM
     exact cT [0] (by simp only [go_sem,aE,aF,List.length_replicate,aD,Int.toNat_natCast,↓reduceIte,Nat.reduceEqDiff,Nat.reduceAdd,Int.reduceAdd,Nat.reduceMul,Nat.reduceLeDiff,Nat.reduceLT,Int.reduceLE,Int.reduceLT,Int.reduceNeg,Int.reduceToNat,mt,mtL,aL,aK,mtZ,and_self,eq_self,or_true,true_or,bp,ha21,bl,bm,Int.reduceSub,or_self,h1,h4,h11,h22]) (by decide) (by simp only [go_sem,aE,aF,List.length_replicate,aD,Int.toNat_natCast,↓reduceIte,Nat.reduceEqDiff,Nat.reduceAdd,Int.reduceAdd,Nat.reduceMul,Nat.reduceLeDiff,Nat.reduceLT,Int.reduceLE,Int.reduceLT,Int.reduceNeg,Int.reduceToNat,mt,mtL,aL,aK,mtZ,and_self,eq_self,or_true,true_or,bp,ha21,bl,bm,Int.reduceSub,or_self,h1,h4,h11,h22])
theorem I5: ∀(N:Nat) (z0:Option Bool) (out:(List Int)) (i_:ak),(hgt i_≤500000000)→hgt i_<N→cX En 168 [.own 0,.agg [.int .i64 i_.Kind,.int .i64 i_.N,.sl none 1 false (i_.B.map (V.int .u8)),.sl none 4 true (i_.L.map a6)]] [.own 5 1 false z0 (out.map (V.int .u8))] (.own 0) [.own 5 1 false none ((fM out i_).map (V.int .u8))] []:=by
 intro N
 induction N with
 | zero=>intro z0 out i_ h0 h;exact absurd h (Nat.not_lt_zero _)
 | succ N ih=>
  intro z0 out i_ h0 h
  have h9:=I4 N ih z0 out i_ h0 h
  rw [HW] at h9
  exact h9
theorem I6 (z0:Option Bool) (out:(List Int)) (i_:ak) (hp0:hgt i_≤500000000):cX En 168 [.own 0,.agg [.int .i64 i_.Kind,.int .i64 i_.N,.sl none 1 false (i_.B.map (V.int .u8)),.sl none 4 true (i_.L.map a6)]] [.own 5 1 false z0 (out.map (V.int .u8))] (.own 0) [.own 5 1 false none ((fM out i_).map (V.int .u8))] []:=
 I5 (hgt i_+1) z0 out i_ hp0 (Nat.lt_succ_self _)
set_option maxHeartbeats 2000000 in
set_option maxRecDepth 100000 in
theorem jU (i_:ak) (hp0:hgt i_≤500000000):CM En (fN i_) 104 [.agg [.int .i64 i_.Kind,.int .i64 i_.N,.sl none 1 false (i_.B.map (V.int .u8)),.sl none 4 true (i_.L.map a6)]] (fun y=> .tup [.sl none 1 false (y.1.map (V.int .u8)),.int .i64 y.2]) (fun _=> []):=by
 refine cmQ fun r hM=> ?_
 rw [fN.eq_1] at hM
 refine aw al ar noJ Tryz.func104 rfl Tryz.ntmps104 (by kernel_rfl) fun hw=>au ?_
 refine spQ ?_
 replace hw:=nzQ hw
 have hM0:=hM;clear hM;obtain ⟨x1,hx2,hM⟩:=ao hM0;clear hM0
 have hcx1:=cmU hx2
 refine aH hcx1 clQ clQ (fun hw3=> ?_)
 replace hw3:=nzQ hw3
 refine spQ ?_
 refine aB (fun h4=> ?_) (fun h4=> ?_)
 ·rw [if_pos h4] at hM
  refine aa h4 ?_
  have nh4:=nzQ h4
  try have hr5:=mpQ nh4
  subst hM
  exact av (ax h4)
 ·rw [if_neg (an h4)] at hM
  refine aa h4 ?_
  have nh4:=nzQ h4
  try have hr6:=mpQ nh4
  have hM0:=hM;clear hM;obtain ⟨x7,hx8,hM⟩:=ao hM0;clear hM0
  have hcx7:=GD (pre:=[]) (post:=[_]) (I6 (some true) ([]:List Int) i_ (by (exact pfQ))) (by decide)
  rw [←hx8] at hcx7
  simp only [List.nil_append,List.cons_append] at hcx7
  refine Gi hcx7 clQ (fun hw9=> ?_)
  replace hw9:=nzQ hw9
  refine spQ ?_
  have hF:=h4
  exact auQ
set_option maxHeartbeats 2000000 in
set_option maxRecDepth 100000 in
instance MG (v:bL):CM En (mj v) 35 [(cA v)] (fun y=> .tup [.sl none 1 false (y.1.map (V.int .u8)),.int .i64 y.2]) (fun _=> []):=by
 refine cmQ fun r hM=> ?_
 rw [mj.eq_1] at hM
 refine aw al ar [3] Tryz.func35 rfl Tryz.ntmps35 (by kernel_rfl) fun hw=>au ?_
 refine spQ ?_
 replace hw:=nzQ hw
 refine gu ?_
 try refine spQ ?_
 have hM0:=hM;clear hM;obtain ⟨x1,hx2,hM⟩:=ao hM0;clear hM0
 have hcx1:=cmU hx2
 refine aH hcx1 clQ clQ (fun hw3=> ?_)
 replace hw3:=nzQ hw3
 refine spQ ?_
 refine aB (fun h4=> ?_) (fun h4=> ?_)
 ·rw [if_pos h4] at hM
  refine aa h4 ?_
  have nh4:=nzQ h4
  try have hr5:=mpQ nh4
  subst hM
  exact av (ax h4)
 ·rw [if_neg (an h4)] at hM
  refine aa h4 ?_
  have nh4:=nzQ h4
  try have hr6:=mpQ nh4
  refine gV _ (⟨[(1,.ptr 0 0)],[(0,.pvar 35 true ((cA v)))],1⟩:St) (gU (S:=⟨_,_,_⟩) 0 (n:=35) (g:=true) (d:=(cA v)) clQ clQ) sbQ sbQ ?_
  try refine spQ ?_
  refine bO 24 17 [7,8,9,10,11,12,13,14,15,16,17,18,19,20,21,22,23] [] ([[],[0],[0,1],[],[3],[3,4],[],[6],[6,7],[],[9],[9,10],[0,1,2,3,4,5,6,7,8,9,10,11],[0,1,2,3,4,5,6,7,8,9,10,11,12],[0,1,2,3,4,5,6,7,8,9,10,11,12,13],[0,1,2,3,4,5,6,7,8,9,10,11,12,13,14],[0,1,2,3,4,5,6,7,8,9,10,11,12,13,14]]++[List.range 17,List.range 18]) [(12,13)] (by kernel_rfl) (by exact alQ) ?_
  refine spQ ?_
  have hM0:=hM;clear hM;obtain ⟨x7,hx8,hM⟩:=ao hM0;clear hM0
  have hcx7:=cmU hx8
  refine br hcx7 clQ clQ ?_
  refine spQ ?_
  have hq9:=wn hx8
  replace hq9:=nzQ hq9
  have hM0:=hM;clear hM;obtain ⟨x10,hx11,hM⟩:=ao hM0;clear hM0
  have hcx10:=cmU hx11
  refine br hcx10 clQ clQ ?_
  refine spQ ?_
  have hq12:=wn hx11
  replace hq12:=nzQ hq12
  have hM0:=hM;clear hM;obtain ⟨x13,hx14,hM⟩:=ao hM0;clear hM0
  have hcx13:=cmU hx14
  refine br hcx13 clQ clQ ?_
  refine spQ ?_
  have hq15:=wn hx14
  replace hq15:=nzQ hq15
  have hM0:=hM;clear hM;obtain ⟨x16,hx17,hM⟩:=ao hM0;clear hM0
  have hcx16:=cmH hx17 (jU ({Kind:=3,N:=0,B:=([]:List Int),L:=([({Kind:=2,N:=0,B:=(a8 32 v.Payee),L:=([]:List ak)}:ak),x7,x10,x13]:List ak)}:ak) (by (simp only [hgt,bI,cb,List.length_nil];omega)))
  refine br hcx16 clQ clQ ?_
  refine spQ ?_
  subst hM
  exact av (ax h4)
set_option maxHeartbeats 2000000 in
set_option maxRecDepth 100000 in
theorem k8 (r_:aN) (e_:Int):cX En 170 [.ptr 0 0,.int .i64 e_] [.var 2 true (.agg [.sl none 1 false (r_.b.map (V.int .u8)),.int .i64 r_.e])] (.tup []) [.var 2 true (.agg [.sl none 1 false ((eN r_ e_).b.map (V.int .u8)),.int .i64 (eN r_ e_).e])] []:=by
 generalize hM:eN r_ e_=r
 rw [eN.eq_1] at hM
 refine iP al ar noJ Tryz.func170 rfl Tryz.ntmps170 (by kernel_rfl) rfl fun ks hw hwB=>au ?_
 refine spQ ?_
 replace hw:=nzQ hw
 try simp only [fd,wfB,decide_eq_true_eq,decide_eq_false_iff_not,Bool.and_eq_true,Bool.or_eq_true,Bool.not_eq_true',Bool.not_eq_false',beq_iff_eq,bne_iff_ne,beq_eq_false_iff_ne,bne_eq_false_iff_eq,ne_eq,Int.not_lt,Int.not_le,gt_iff_lt,ge_iff_le,List.length_map,wfL,wfV,and_true,true_and,dO,gh,gk,gm,gn,eX,eB,List.length_append,List.length_cons,List.length_nil,List.length_replicate,aD,eY,eZ,fb,cb,eC,go] at hwB
 refine aB (fun h1=> ?_) (fun h1=> ?_)
 ·rw [if_pos h1] at hM
  refine aa h1 ?_
  have nh1:=nzQ h1
  try have hr2:=mpQ nh1
  subst hM
  exact cT [0] (by simp only [go_sem,aE,aF,List.length_replicate,aD,Int.toNat_natCast,↓reduceIte,Nat.reduceEqDiff,Nat.reduceAdd,Int.reduceAdd,Nat.reduceMul,Nat.reduceLeDiff,Nat.reduceLT,Int.reduceLE,Int.reduceLT,Int.reduceNeg,Int.reduceToNat,mt,mtL,aL,aK,mtZ,and_self,eq_self,or_true,true_or,bp,bl,bm,Int.reduceSub,or_self,h1]) (by decide) (by simp only [go_sem,aE,aF,List.length_replicate,aD,Int.toNat_natCast,↓reduceIte,Nat.reduceEqDiff,Nat.reduceAdd,Int.reduceAdd,Nat.reduceMul,Nat.reduceLeDiff,Nat.reduceLT,Int.reduceLE,Int.reduceLT,Int.reduceNeg,Int.reduceToNat,mt,mtL,aL,aK,mtZ,and_self,eq_self,or_true,true_or,bp,bl,bm,Int.reduceSub,or_self,h1])
 ·rw [if_neg (an h1)] at hM
  refine aa h1 ?_
  have nh1:=nzQ h1
  try have hr3:=mpQ nh1
  subst hM
  exact cT [0] (by simp only [go_sem,aE,aF,List.length_replicate,aD,Int.toNat_natCast,↓reduceIte,Nat.reduceEqDiff,Nat.reduceAdd,Int.reduceAdd,Nat.reduceMul,Nat.reduceLeDiff,Nat.reduceLT,Int.reduceLE,Int.reduceLT,Int.reduceNeg,Int.reduceToNat,mt,mtL,aL,aK,mtZ,and_self,eq_self,or_true,true_or,bp,bl,bm,Int.reduceSub,or_self,h1]) (by decide) (by simp only [go_sem,aE,aF,List.length_replicate,aD,Int.toNat_natCast,↓reduceIte,Nat.reduceEqDiff,Nat.reduceAdd,Int.reduceAdd,Nat.reduceMul,Nat.reduceLeDiff,Nat.reduceLT,Int.reduceLE,Int.reduceLT,Int.reduceNeg,Int.reduceToNat,mt,mtL,aL,aK,mtZ,and_self,eq_self,or_true,true_or,bp,bl,bm,Int.reduceSub,or_self,h1])
set_option maxHeartbeats 2000000 in
set_option maxRecDepth 100000 in
theorem AL (r_:aN) (n_:Int) (hp0:0≤n_):cX En 228 [.ptr 0 0,.int .i64 n_] [.var 2 true (.agg [.sl none 1 false (r_.b.map (V.int .u8)),.int .i64 r_.e])] (.sl none 1 false ((ie r_ n_).1.map (V.int .u8))) [.var 2 true (.agg [.sl none 1 false ((ie r_ n_).2.b.map (V.int .u8)),.int .i64 (ie r_ n_).2.e])] []:=by
 generalize hM:ie r_ n_=r
 rw [ie.eq_1] at hM
 refine iP al ar noJ Tryz.func228 rfl Tryz.ntmps228 (by kernel_rfl) rfl fun ks hw hwB=>au ?_
 refine spQ ?_
 replace hw:=nzQ hw
 try simp only [fd,wfB,decide_eq_true_eq,decide_eq_false_iff_not,Bool.and_eq_true,Bool.or_eq_true,Bool.not_eq_true',Bool.not_eq_false',beq_iff_eq,bne_iff_ne,beq_eq_false_iff_ne,bne_eq_false_iff_eq,ne_eq,Int.not_lt,Int.not_le,gt_iff_lt,ge_iff_le,List.length_map,wfL,wfV,and_true,true_and,dO,gh,gk,gm,gn,eX,eB,List.length_append,List.length_cons,List.length_nil,List.length_replicate,aD,eY,eZ,fb,cb,eC,go] at hwB
 refine bK (fun h1=> ?_) (fun h1=> ?_)
 ·rw [if_neg (an h1)] at hM
  refine aa h1 ?_
  have nh1:=nzQ h1
  try have hr2:=mpQ nh1
  refine aB (fun h3=> ?_) (fun h3=> ?_)
  ·rw [if_pos h3] at hM
   refine aa h3 ?_
   have nh3:=nzQ h3
   try have hr4:=mpQ nh3
   have hM0:=hM;clear hM;obtain ⟨x5,hx6,hM⟩:=ao hM0;clear hM0
   have hcx5:=k8 r_ 4
   rw [←hx6] at hcx5
   refine da [0] hcx5 (by decide) (by simp only [go_sem,aE,aF,List.length_replicate,aD,Int.toNat_natCast,↓reduceIte,Nat.reduceEqDiff,Nat.reduceAdd,Int.reduceAdd,Nat.reduceMul,Nat.reduceLeDiff,Nat.reduceLT,Int.reduceLE,Int.reduceLT,Int.reduceNeg,Int.reduceToNat,mt,mtL,aL,aK,mtZ,and_self,eq_self,or_true,true_or]) (by simp only [go_sem,aE,aF,List.length_replicate,aD,Int.toNat_natCast,↓reduceIte,Nat.reduceEqDiff,Nat.reduceAdd,Int.reduceAdd,Nat.reduceMul,Nat.reduceLeDiff,Nat.reduceLT,Int.reduceLE,Int.reduceLT,Int.reduceNeg,Int.reduceToNat,mt,mtL,aL,aK,mtZ,and_self,eq_self,or_true,true_or]) (fun hw7=> ?_)
   replace hw7:=nzQ hw7
   refine spQ ?_
   subst hM
   exact cT [0] (by simp only [go_sem,aE,aF,List.length_replicate,aD,Int.toNat_natCast,↓reduceIte,Nat.reduceEqDiff,Nat.reduceAdd,Int.reduceAdd,Nat.reduceMul,Nat.reduceLeDiff,Nat.reduceLT,Int.reduceLE,Int.reduceLT,Int.reduceNeg,Int.reduceToNat,mt,mtL,aL,aK,mtZ,and_self,eq_self,or_true,true_or,bp,bl,bm,Int.reduceSub,or_self,h1,h3]) (by decide) (by simp only [go_sem,aE,aF,List.length_replicate,aD,Int.toNat_natCast,↓reduceIte,Nat.reduceEqDiff,Nat.reduceAdd,Int.reduceAdd,Nat.reduceMul,Nat.reduceLeDiff,Nat.reduceLT,Int.reduceLE,Int.reduceLT,Int.reduceNeg,Int.reduceToNat,mt,mtL,aL,aK,mtZ,and_self,eq_self,or_true,true_or,bp,bl,bm,Int.reduceSub,or_self,h1,h3])
  ·rw [if_neg (an h3)] at hM
   refine aa h3 ?_
   have nh3:=nzQ h3
   try have hr8:=mpQ nh3
   refine aO omQ ?_
   refine spQ ?_
   refine aO omQ ?_
   refine spQ ?_
   subst hM
   exact cT [0] (by simp only [go_sem,aE,aF,List.length_replicate,aD,Int.toNat_natCast,↓reduceIte,Nat.reduceEqDiff,Nat.reduceAdd,Int.reduceAdd,Nat.reduceMul,Nat.reduceLeDiff,Nat.reduceLT,Int.reduceLE,Int.reduceLT,Int.reduceNeg,Int.reduceToNat,mt,mtL,aL,aK,mtZ,and_self,eq_self,or_true,true_or,bp,bl,bm,Int.reduceSub,or_self,h1,h3]) (by decide) (by simp only [go_sem,aE,aF,List.length_replicate,aD,Int.toNat_natCast,↓reduceIte,Nat.reduceEqDiff,Nat.reduceAdd,Int.reduceAdd,Nat.reduceMul,Nat.reduceLeDiff,Nat.reduceLT,Int.reduceLE,Int.reduceLT,Int.reduceNeg,Int.reduceToNat,mt,mtL,aL,aK,mtZ,and_self,eq_self,or_true,true_or,bp,bl,bm,Int.reduceSub,or_self,h1,h3])
 ·rw [if_pos h1] at hM
  refine aa h1 ?_
  have nh1:=nzQ h1
  try have hr9:=mpQ nh1
  have hM0:=hM;clear hM;obtain ⟨x10,hx11,hM⟩:=ao hM0;clear hM0
  have hcx10:=k8 r_ 4
  rw [←hx11] at hcx10
  refine da [0] hcx10 (by decide) (by simp only [go_sem,aE,aF,List.length_replicate,aD,Int.toNat_natCast,↓reduceIte,Nat.reduceEqDiff,Nat.reduceAdd,Int.reduceAdd,Nat.reduceMul,Nat.reduceLeDiff,Nat.reduceLT,Int.reduceLE,Int.reduceLT,Int.reduceNeg,Int.reduceToNat,mt,mtL,aL,aK,mtZ,and_self,eq_self,or_true,true_or]) (by simp only [go_sem,aE,aF,List.length_replicate,aD,Int.toNat_natCast,↓reduceIte,Nat.reduceEqDiff,Nat.reduceAdd,Int.reduceAdd,Nat.reduceMul,Nat.reduceLeDiff,Nat.reduceLT,Int.reduceLE,Int.reduceLT,Int.reduceNeg,Int.reduceToNat,mt,mtL,aL,aK,mtZ,and_self,eq_self,or_true,true_or]) (fun hw12=> ?_)
  replace hw12:=nzQ hw12
  refine spQ ?_
  subst hM
  exact cT [0] (by simp only [go_sem,aE,aF,List.length_replicate,aD,Int.toNat_natCast,↓reduceIte,Nat.reduceEqDiff,Nat.reduceAdd,Int.reduceAdd,Nat.reduceMul,Nat.reduceLeDiff,Nat.reduceLT,Int.reduceLE,Int.reduceLT,Int.reduceNeg,Int.reduceToNat,mt,mtL,aL,aK,mtZ,and_self,eq_self,or_true,true_or,bp,bl,bm,Int.reduceSub,or_self,h1]) (by decide) (by simp only [go_sem,aE,aF,List.length_replicate,aD,Int.toNat_natCast,↓reduceIte,Nat.reduceEqDiff,Nat.reduceAdd,Int.reduceAdd,Nat.reduceMul,Nat.reduceLeDiff,Nat.reduceLT,Int.reduceLE,Int.reduceLT,Int.reduceNeg,Int.reduceToNat,mt,mtL,aL,aK,mtZ,and_self,eq_self,or_true,true_or,bp,bl,bm,Int.reduceSub,or_self,h1])
set_option maxHeartbeats 2000000 in
set_option maxRecDepth 100000 in
theorem rL (r_:aN) (size:Int) (hp0:0≤size):cX En 226 [.ptr 0 0,.int .i64 size] [.var 2 true (.agg [.sl none 1 false (r_.b.map (V.int .u8)),.int .i64 r_.e])] (.int .u64 (ff r_ size).1) [.var 2 true (.agg [.sl none 1 false ((ff r_ size).2.b.map (V.int .u8)),.int .i64 (ff r_ size).2.e])] []:=by
 generalize hM:ff r_ size=r
 rw [ff.eq_1] at hM
 refine iP al ar noJ Tryz.func226 rfl Tryz.ntmps226 (by kernel_rfl) rfl fun ks hw hwB=>au ?_
 refine spQ ?_
 replace hw:=nzQ hw
 try simp only [fd,wfB,decide_eq_true_eq,decide_eq_false_iff_not,Bool.and_eq_true,Bool.or_eq_true,Bool.not_eq_true',Bool.not_eq_false',beq_iff_eq,bne_iff_ne,beq_eq_false_iff_ne,bne_eq_false_iff_eq,ne_eq,Int.not_lt,Int.not_le,gt_iff_lt,ge_iff_le,List.length_map,wfL,wfV,and_true,true_and,dO,gh,gk,gm,gn,eX,eB,List.length_append,List.length_cons,List.length_nil,List.length_replicate,aD,eY,eZ,fb,cb,eC,go] at hwB
 have hM0:=hM;clear hM;obtain ⟨x1,hx2,hM⟩:=ao hM0;clear hM0
 have hcx1:=AL r_ size (by (exact pfQ))
 rw [←hx2] at hcx1
 refine da [0] hcx1 (by decide) (by simp only [go_sem,aE,aF,List.length_replicate,aD,Int.toNat_natCast,↓reduceIte,Nat.reduceEqDiff,Nat.reduceAdd,Int.reduceAdd,Nat.reduceMul,Nat.reduceLeDiff,Nat.reduceLT,Int.reduceLE,Int.reduceLT,Int.reduceNeg,Int.reduceToNat,mt,mtL,aL,aK,mtZ,and_self,eq_self,or_true,true_or]) (by simp only [go_sem,aE,aF,List.length_replicate,aD,Int.toNat_natCast,↓reduceIte,Nat.reduceEqDiff,Nat.reduceAdd,Int.reduceAdd,Nat.reduceMul,Nat.reduceLeDiff,Nat.reduceLT,Int.reduceLE,Int.reduceLT,Int.reduceNeg,Int.reduceToNat,mt,mtL,aL,aK,mtZ,and_self,eq_self,or_true,true_or]) (fun hw3=> ?_)
 replace hw3:=nzQ hw3
 refine spQ ?_
 have hM0:=hM;clear hM;obtain ⟨f4,d4,hf4,hd4,hM⟩:=aT hM0;clear hM0
 refine a7 (fun n S=> ∃p:Int×Int,S=(⟨[(0,.ptr 0 0),(5,.int .u64 p.1),(10,.sl none 1 false (x1.1.map (V.int .u8))),(11,.int .i64 (x1.1.length:Int)),(12,.int .i64 p.2)],[(0,.lent (ks 0) 2 true (.agg [.sl none 1 false (x1.2.b.map (V.int .u8)),.int .i64 x1.2.e]))],1⟩:St)∧((0≤p.2)∧(p.2≤(x1.1.length:Int)))∧((x1.1.length:Int) - p.2).toNat<n∧aq n f4 d4 p=r) (((x1.1.length:Int) - 0).toNat+1) _ sbQ sbQ ⟨(0,0),rfl,⟨omQ,omQ⟩,(Nat.lt_succ_self _),hM⟩ ?_
 clear hM
 rintro n4 S ⟨p4,rfl,hfa4,hm4,hM⟩
 have hM0:=hM;clear hM;obtain ⟨ag4,hag4,hM⟩:=aU hM0 (by omega) hf4;clear hM0
 replace hfa4:=nzQ hfa4
 replace hm4:=nzQ hm4
 have ha4:ay .i64 p4.2 1=p4.2+1:=aZ omQ omQ
 refine aa ha4 ?_
 refine aB (fun h5=> ?_) (fun h5=> ?_)
 ·rw [if_pos h5] at hM
  refine aa (And.intro ha4 h5) ?_
  have nh5:=nzQ h5
  try have hr6:=mpQ nh5
  have hF:=(And.intro ha4 h5)
  exact auQ
 ·rw [if_neg (an h5)] at hM
  refine aa (And.intro ha4 h5) ?_
  have nh5:=nzQ h5
  try have hr8:=mpQ nh5
  subst hM
  exact cT [0] (by simp only [go_sem,aE,aF,List.length_replicate,aD,Int.toNat_natCast,↓reduceIte,Nat.reduceEqDiff,Nat.reduceAdd,Int.reduceAdd,Nat.reduceMul,Nat.reduceLeDiff,Nat.reduceLT,Int.reduceLE,Int.reduceLT,Int.reduceNeg,Int.reduceToNat,mt,mtL,aL,aK,mtZ,and_self,eq_self,or_true,true_or,bp,ha4,bl,bm,Int.reduceSub,or_self,h5]) (by decide) (by simp only [go_sem,aE,aF,List.length_replicate,aD,Int.toNat_natCast,↓reduceIte,Nat.reduceEqDiff,Nat.reduceAdd,Int.reduceAdd,Nat.reduceMul,Nat.reduceLeDiff,Nat.reduceLT,Int.reduceLE,Int.reduceLT,Int.reduceNeg,Int.reduceToNat,mt,mtL,aL,aK,mtZ,and_self,eq_self,or_true,true_or,bp,ha4,bl,bm,Int.reduceSub,or_self,h5])
set_option maxRecDepth 100000 in
theorem wD (z0:Option Bool) (s:List Int):bn En 227 [.sl z0 1 false (s.map (V.int .u8))] (.own 0) [.own 5 1 false none ((ml s).map (V.int .u8))]:=by
 show bn En 227 [.sl z0 1 false (s.map (V.int .u8))] (.own 0) [.own 5 1 false none (s.map (V.int .u8))]
 refine y9 (pre:=[]) (post:=[]) (fun hl=> ?_) ?_ z0
 ·have hl:s=[]:=by cases s with|nil=>rfl|cons a s=>cases hl
  subst hl
  refine aw al ar noJ Tryz.func227 rfl Tryz.ntmps227 (by kernel_rfl) fun hw=>au ?_
  simp only [go_sem,aE,aF,List.length_replicate,aD,Int.toNat_natCast,↓reduceIte,Nat.reduceEqDiff,Nat.reduceAdd,Int.reduceAdd,Nat.reduceMul,Nat.reduceLeDiff,Nat.reduceLT,Int.reduceLE,Int.reduceLT,Int.reduceNeg,Int.reduceToNat,List.nil_append]
  exact y8 (by decide)
 ·refine aw al ar noJ Tryz.func227 rfl Tryz.ntmps227 (by kernel_rfl) fun hw=>au ?_
  simp only [go_sem,aE,aF,List.length_replicate,aD,Int.toNat_natCast,↓reduceIte,Nat.reduceEqDiff,Nat.reduceAdd,Int.reduceAdd,Nat.reduceMul,Nat.reduceLeDiff,Nat.reduceLT,Int.reduceLE,Int.reduceLT,Int.reduceNeg,Int.reduceToNat,List.nil_append]
  have hn:s.length≤1073741824:=by have h:=hw;simp only [wfL,wfV,List.nil_append,dO,List.length_map] at h;exact h.1.1
  refine aO (by first|omega|(simp only [List.length_map,List.length_nil,List.nil_append];omega)) ?_
  refine spQ ?_
  refine y7 0 rfl clQ
set_option maxHeartbeats 2000000 in
set_option maxRecDepth 100000 in
theorem I7 (N:Nat) (ih: ∀(r_:aN) (depth:Int),(0≤depth)→(isB r_.b)→depth.toNat<N→cX En 169 [.ptr 0 0,.int .i64 depth] [.var 2 true (.agg [.sl none 1 false (r_.b.map (V.int .u8)),.int .i64 r_.e])] (.agg [.int .i64 (cD r_ depth).1.Kind,.int .i64 (cD r_ depth).1.N,.sl none 1 false ((cD r_ depth).1.B.map (V.int .u8)),.sl none 4 true ((cD r_ depth).1.L.map a6)]) [.var 2 true (.agg [.sl none 1 false ((cD r_ depth).2.b.map (V.int .u8)),.int .i64 (cD r_ depth).2.e])] []) (r_:aN) (depth:Int) (hp0:0≤depth) (hp1:isB r_.b) (hp_:depth.toNat<N+1):cX En 169 [.ptr 0 0,.int .i64 depth] [.var 2 true (.agg [.sl none 1 false (r_.b.map (V.int .u8)),.int .i64 r_.e])] (.agg [.int .i64 (ig r_ depth).1.Kind,.int .i64 (ig r_ depth).1.N,.sl none 1 false ((ig r_ depth).1.B.map (V.int .u8)),.sl none 4 true ((ig r_ depth).1.L.map a6)]) [.var 2 true (.agg [.sl none 1 false ((ig r_ depth).2.b.map (V.int .u8)),.int .i64 (ig r_ depth).2.e])] []:=by
 generalize hM:ig r_ depth=r
 rw [ig.eq_1] at hM
 refine iP al ar [5,15] Tryz.func169 rfl Tryz.ntmps169 (by kernel_rfl) rfl fun ks hw hwB=>au ?_
 refine spQ ?_
 replace hw:=nzQ hw
 try simp only [fd,wfB,decide_eq_true_eq,decide_eq_false_iff_not,Bool.and_eq_true,Bool.or_eq_true,Bool.not_eq_true',Bool.not_eq_false',beq_iff_eq,bne_iff_ne,beq_eq_false_iff_ne,bne_eq_false_iff_eq,ne_eq,Int.not_lt,Int.not_le,gt_iff_lt,ge_iff_le,List.length_map,wfL,wfV,and_true,true_and,dO,gh,gk,gm,gn,eX,eB,List.length_append,List.length_cons,List.length_nil,List.length_replicate,aD,eY,eZ,fb,cb,eC,go] at hwB
 have hM0:=hM;clear hM;obtain ⟨x1,hx2,hM⟩:=ao hM0;clear hM0
 have hcx1:=rL r_ 1 (by (first|assumption|omega))
 rw [←hx2] at hcx1
 refine da [0] hcx1 (by decide) (by simp only [go_sem,aE,aF,List.length_replicate,aD,Int.toNat_natCast,↓reduceIte,Nat.reduceEqDiff,Nat.reduceAdd,Int.reduceAdd,Nat.reduceMul,Nat.reduceLeDiff,Nat.reduceLT,Int.reduceLE,Int.reduceLT,Int.reduceNeg,Int.reduceToNat,mt,mtL,aL,aK,mtZ,and_self,eq_self,or_true,true_or]) (by simp only [go_sem,aE,aF,List.length_replicate,aD,Int.toNat_natCast,↓reduceIte,Nat.reduceEqDiff,Nat.reduceAdd,Int.reduceAdd,Nat.reduceMul,Nat.reduceLeDiff,Nat.reduceLT,Int.reduceLE,Int.reduceLT,Int.reduceNeg,Int.reduceToNat,mt,mtL,aL,aK,mtZ,and_self,eq_self,or_true,true_or]) (fun hw3=> ?_)
 replace hw3:=nzQ hw3
 refine spQ ?_
 have hq4:=rz hx2 (by assumption)
 replace hq4:=nzQ hq4
 have hq5:=rA hx2 (by assumption)
 replace hq5:=nzQ hq5
 have hM0:=hM;clear hM;obtain ⟨j6,hj6,hM⟩:=nw hM0;clear hM0
 refine nn (fun S=> ∃p:Unit,S=(⟨[(0,.ptr 0 0),(1,.int .i64 depth),(4,.ptr 1 0),(5,.int .i64 (ae .i64 x1.1))],[(0,.lent (ks 0) 2 true (.agg [.sl none 1 false (x1.2.b.map (V.int .u8)),.int .i64 x1.2.e])),(1,.var 4 true (.agg [.int .i64 0,.int .i64 0,.sl (some true) 1 false [],.sl (some true) 4 true []]))],2⟩:St)∧(((ae .i64 x1.1)≠3∨depth≠0))∧j6 p=r) ?_ (fun hcut6=> ?_)
 ·clear hM
  rintro S ⟨p6,rfl,hfa6,hM⟩
  replace hfa6:=nzQ hfa6
  have hM0:=hM;clear hM;have hM:=lT hM0 hj6;clear hM0
  try refine spQ ?_
  refine aB (fun h7=> ?_) (fun h7=> ?_)
  ·rw [if_pos h7] at hM
   refine aa h7 ?_
   have nh7:=nzQ h7
   try have hr8:=mpQ nh7
   have hM0:=hM;clear hM;obtain ⟨x9,hx10,hM⟩:=ao hM0;clear hM0
   have hcx9:=rL (x1.2) 8 (by (first|assumption|omega))
   rw [←hx10] at hcx9
   refine da [0] hcx9 (by decide) (by simp only [go_sem,aE,aF,List.length_replicate,aD,Int.toNat_natCast,↓reduceIte,Nat.reduceEqDiff,Nat.reduceAdd,Int.reduceAdd,Nat.reduceMul,Nat.reduceLeDiff,Nat.reduceLT,Int.reduceLE,Int.reduceLT,Int.reduceNeg,Int.reduceToNat,mt,mtL,aL,aK,mtZ,and_self,eq_self,or_true,true_or]) (by simp only [go_sem,aE,aF,List.length_replicate,aD,Int.toNat_natCast,↓reduceIte,Nat.reduceEqDiff,Nat.reduceAdd,Int.reduceAdd,Nat.reduceMul,Nat.reduceLeDiff,Nat.reduceLT,Int.reduceLE,Int.reduceLT,Int.reduceNeg,Int.reduceToNat,mt,mtL,aL,aK,mtZ,and_self,eq_self,or_true,true_or]) (fun hw11=> ?_)
   replace hw11:=nzQ hw11
   refine spQ ?_
   have hq12:=rz hx10 (by assumption)
   replace hq12:=nzQ hq12
   have hq13:=rA hx10 (by assumption)
   replace hq13:=nzQ hq13
   subst hM
   exact cT [0] (by simp only [go_sem,aE,aF,List.length_replicate,aD,Int.toNat_natCast,↓reduceIte,Nat.reduceEqDiff,Nat.reduceAdd,Int.reduceAdd,Nat.reduceMul,Nat.reduceLeDiff,Nat.reduceLT,Int.reduceLE,Int.reduceLT,Int.reduceNeg,Int.reduceToNat,mt,mtL,aL,aK,mtZ,and_self,eq_self,or_true,true_or,bp,bl,bm,Int.reduceSub,or_self,h7]) (by decide) (by simp only [go_sem,aE,aF,List.length_replicate,aD,Int.toNat_natCast,↓reduceIte,Nat.reduceEqDiff,Nat.reduceAdd,Int.reduceAdd,Nat.reduceMul,Nat.reduceLeDiff,Nat.reduceLT,Int.reduceLE,Int.reduceLT,Int.reduceNeg,Int.reduceToNat,mt,mtL,aL,aK,mtZ,and_self,eq_self,or_true,true_or,bp,bl,bm,Int.reduceSub,or_self,h7])
  ·rw [if_neg (an h7)] at hM
   refine aa h7 ?_
   have nh7:=nzQ h7
   try have hr14:=mpQ nh7
   refine aB (fun h15=> ?_) (fun h15=> ?_)
   ·rw [if_pos h15] at hM
    refine aa h15 ?_
    have nh15:=nzQ h15
    try have hr16:=mpQ nh15
    have hM0:=hM;clear hM;obtain ⟨x17,hx18,hM⟩:=ao hM0;clear hM0
    have hcx17:=rL (x1.2) 4 (by (first|assumption|omega))
    rw [←hx18] at hcx17
    refine da [0] hcx17 (by decide) (by simp only [go_sem,aE,aF,List.length_replicate,aD,Int.toNat_natCast,↓reduceIte,Nat.reduceEqDiff,Nat.reduceAdd,Int.reduceAdd,Nat.reduceMul,Nat.reduceLeDiff,Nat.reduceLT,Int.reduceLE,Int.reduceLT,Int.reduceNeg,Int.reduceToNat,mt,mtL,aL,aK,mtZ,and_self,eq_self,or_true,true_or]) (by simp only [go_sem,aE,aF,List.length_replicate,aD,Int.toNat_natCast,↓reduceIte,Nat.reduceEqDiff,Nat.reduceAdd,Int.reduceAdd,Nat.reduceMul,Nat.reduceLeDiff,Nat.reduceLT,Int.reduceLE,Int.reduceLT,Int.reduceNeg,Int.reduceToNat,mt,mtL,aL,aK,mtZ,and_self,eq_self,or_true,true_or]) (fun hw19=> ?_)
    replace hw19:=nzQ hw19
    refine spQ ?_
    have hq20:=rz hx18 (by assumption)
    replace hq20:=nzQ hq20
    have hq21:=rA hx18 (by assumption)
    replace hq21:=nzQ hq21
    have hM0:=hM;clear hM;obtain ⟨x22,hx23,hM⟩:=ao hM0;clear hM0
    have hcx22:=AL (x17.2) (ae .i64 x17.1) (by (first|assumption|omega))
    rw [←hx23] at hcx22
    refine da [0] hcx22 (by decide) (by simp only [go_sem,aE,aF,List.length_replicate,aD,Int.toNat_natCast,↓reduceIte,Nat.reduceEqDiff,Nat.reduceAdd,Int.reduceAdd,Nat.reduceMul,Nat.reduceLeDiff,Nat.reduceLT,Int.reduceLE,Int.reduceLT,Int.reduceNeg,Int.reduceToNat,mt,mtL,aL,aK,mtZ,and_self,eq_self,or_true,true_or]) (by simp only [go_sem,aE,aF,List.length_replicate,aD,Int.toNat_natCast,↓reduceIte,Nat.reduceEqDiff,Nat.reduceAdd,Int.reduceAdd,Nat.reduceMul,Nat.reduceLeDiff,Nat.reduceLT,Int.reduceLE,Int.reduceLT,Int.reduceNeg,Int.reduceToNat,mt,mtL,aL,aK,mtZ,and_self,eq_self,or_true,true_or]) (fun hw24=> ?_)
    replace hw24:=nzQ hw24
    refine spQ ?_
    have hq25:=HX hx23 (by assumption)
    replace hq25:=nzQ hq25
    have hM0:=hM;clear hM;obtain ⟨x26,hx27,hM⟩:=ao hM0;clear hM0
    have hcx26:=wD none (x22.1)
    rw [←hx27] at hcx26
    refine aH hcx26 clQ clQ (fun hw28=> ?_)
    replace hw28:=nzQ hw28
    refine spQ ?_
    have hq29:=nzQ (cfU hx27)
    subst hM
    exact cT [0] (by simp only [go_sem,aE,aF,List.length_replicate,aD,Int.toNat_natCast,↓reduceIte,Nat.reduceEqDiff,Nat.reduceAdd,Int.reduceAdd,Nat.reduceMul,Nat.reduceLeDiff,Nat.reduceLT,Int.reduceLE,Int.reduceLT,Int.reduceNeg,Int.reduceToNat,mt,mtL,aL,aK,mtZ,and_self,eq_self,or_true,true_or,bp,bl,bm,Int.reduceSub,or_self,h7,h15]) (by decide) (by simp only [go_sem,aE,aF,List.length_replicate,aD,Int.toNat_natCast,↓reduceIte,Nat.reduceEqDiff,Nat.reduceAdd,Int.reduceAdd,Nat.reduceMul,Nat.reduceLeDiff,Nat.reduceLT,Int.reduceLE,Int.reduceLT,Int.reduceNeg,Int.reduceToNat,mt,mtL,aL,aK,mtZ,and_self,eq_self,or_true,true_or,bp,bl,bm,Int.reduceSub,or_self,h7,h15])
   ·rw [if_neg (an h15)] at hM
    refine aa h15 ?_
    have nh15:=nzQ h15
    try have hr30:=mpQ nh15
    refine aB (fun h31=> ?_) (fun h31=> ?_)
    ·rw [if_pos h31] at hM
     refine aa h31 ?_
     have nh31:=nzQ h31
     try have hr32:=mpQ nh31
     have hM0:=hM;clear hM;obtain ⟨x33,hx34,hM⟩:=ao hM0;clear hM0
     have hcx33:=rL (x1.2) 4 (by (first|assumption|omega))
     rw [←hx34] at hcx33
     refine da [0] hcx33 (by decide) (by simp only [go_sem,aE,aF,List.length_replicate,aD,Int.toNat_natCast,↓reduceIte,Nat.reduceEqDiff,Nat.reduceAdd,Int.reduceAdd,Nat.reduceMul,Nat.reduceLeDiff,Nat.reduceLT,Int.reduceLE,Int.reduceLT,Int.reduceNeg,Int.reduceToNat,mt,mtL,aL,aK,mtZ,and_self,eq_self,or_true,true_or]) (by simp only [go_sem,aE,aF,List.length_replicate,aD,Int.toNat_natCast,↓reduceIte,Nat.reduceEqDiff,Nat.reduceAdd,Int.reduceAdd,Nat.reduceMul,Nat.reduceLeDiff,Nat.reduceLT,Int.reduceLE,Int.reduceLT,Int.reduceNeg,Int.reduceToNat,mt,mtL,aL,aK,mtZ,and_self,eq_self,or_true,true_or]) (fun hw35=> ?_)
     replace hw35:=nzQ hw35
     refine spQ ?_
     have hq36:=rz hx34 (by assumption)
     replace hq36:=nzQ hq36
     have hq37:=rA hx34 (by assumption)
     replace hq37:=nzQ hq37
     have hM0:=hM;clear hM;obtain ⟨j38,hj38,hM⟩:=nw hM0;clear hM0
     refine nn (fun S=> ∃p:aN,S=(⟨[(0,.ptr 0 0),(1,.int .i64 depth),(4,.ptr 1 0),(6,.ptr 2 0),(7,.int .i64 (ae .i64 x33.1))],[(0,.lent (ks 0) 2 true (.agg [.sl none 1 false (p.b.map (V.int .u8)),.int .i64 p.e])),(1,.var 4 true (.agg [.int .i64 0,.int .i64 0,.sl (some true) 1 false [],.sl (some true) 4 true []])),(2,.var 4 true (.agg [.int .i64 (ae .i64 x1.1),.int .i64 0,.sl (some true) 1 false [],.sl (some true) 4 true []]))],3⟩:St)∧((((ae .i64 x33.1)≤1000∨(p).e≠0)∧(0≤(ae .i64 x33.1)))∧(isB (p).b))∧j38 p=r) ?_ (fun hcut38=> ?_)
     ·clear hM
      rintro S ⟨p38,rfl,⟨hfa38,hF15_0⟩,hM⟩
      replace hfa38:=nzQ hfa38
      have hM0:=hM;clear hM;have hM:=lT hM0 hj38;clear hM0
      try refine spQ ?_
      have hM0:=hM;clear hM;obtain ⟨f39,d39,hf39,hd39,hM⟩:=aT hM0;clear hM0
      refine fA (fun n S=> ∃p:Int×aN×List ak,S=(⟨[(0,.ptr 0 0),(1,.int .i64 depth),(4,.ptr 1 0),(6,.ptr 2 0),(55,.int .i64 (ae .i64 x33.1)),(56,.int .i64 p.1)],[(0,.lent (ks 0) 2 true (.agg [.sl none 1 false (p.2.1.b.map (V.int .u8)),.int .i64 p.2.1.e])),(1,.var 4 true (.agg [.int .i64 0,.int .i64 0,.sl (some true) 1 false [],.sl (some true) 4 true []])),(2,.var 4 true (.agg [.int .i64 (ae .i64 x1.1),.int .i64 0,.sl (some true) 1 false [],.own 3])),(3,.own 170 4 true none (p.2.2.map a6))],4⟩:St)∧(((0≤p.1)∧(p.1≤(ae .i64 x33.1))∧((ae .i64 x33.1)≤1000∨(p.2.1).e≠0)∧(((p.2.2).length:Int)≤p.1))∧(isB (p.2.1).b))∧((ae .i64 x33.1) - p.1).toNat<n∧aq n f39 d39 p=r) (((ae .i64 x33.1) - 0).toNat+1) _ _ (qt 2 3 170 rfl rfl (by decide)) sbQ sbQ ⟨(0,p38,([]:List ak)),rfl,⟨⟨omQ,omQ,omQ,omQ⟩,by assumption⟩,(Nat.lt_succ_self _),hM⟩ ?_
      clear hM
      rintro n39 S ⟨p39,rfl,⟨hfa39,hF16_0⟩,hm39,hM⟩
      have hM0:=hM;clear hM;obtain ⟨ag39,hag39,hM⟩:=aU hM0 (by omega) hf39;clear hM0
      replace hfa39:=nzQ hfa39
      replace hm39:=nzQ hm39
      have ha39:ay .i64 p39.1 1=p39.1+1:=aZ omQ omQ
      refine aa ha39 ?_
      refine aB (fun h40=> ?_) (fun h40=> ?_)
      ·rw [if_pos h40] at hM
       refine aa (And.intro ha39 h40) ?_
       have nh40:=nzQ h40
       try have hr41:=mpQ nh40
       refine aB (fun h42=> ?_) (fun h42=> ?_)
       ·rw [if_pos h42] at hM
        refine aa (And.intro ha39 h42) ?_
        have nh42:=nzQ h42
        try have hr43:=mpQ nh42
        subst hM
        exact cT [0] (by simp only [go_sem,aE,aF,List.length_replicate,aD,Int.toNat_natCast,↓reduceIte,Nat.reduceEqDiff,Nat.reduceAdd,Int.reduceAdd,Nat.reduceMul,Nat.reduceLeDiff,Nat.reduceLT,Int.reduceLE,Int.reduceLT,Int.reduceNeg,Int.reduceToNat,mt,mtL,aL,aK,mtZ,and_self,eq_self,or_true,true_or,bp,ha39,bl,bm,Int.reduceSub,or_self,h7,h15,h31,h40,h42]) (by decide) (by simp only [go_sem,aE,aF,List.length_replicate,aD,Int.toNat_natCast,↓reduceIte,Nat.reduceEqDiff,Nat.reduceAdd,Int.reduceAdd,Nat.reduceMul,Nat.reduceLeDiff,Nat.reduceLT,Int.reduceLE,Int.reduceLT,Int.reduceNeg,Int.reduceToNat,mt,mtL,aL,aK,mtZ,and_self,eq_self,or_true,true_or,bp,ha39,bl,bm,Int.reduceSub,or_self,h7,h15,h31,h40,h42])
       ·rw [if_neg (an h42)] at hM
        refine aa (And.intro ha39 h42) ?_
        have nh42:=nzQ h42
        try have hr44:=mpQ nh42
        refine bO 74 7 [63,64,65,66,67,68,69] [] ([[],[0],[],[],[3],[2,3,4],[2,3,4,5]]++[List.range 7,List.range 8,List.range 9]) [(5,0)] (by kernel_rfl) (by exact alQ) ?_
        refine aa ha39 ?_
        have ha45:aG .i64 depth 1=(depth - 1):=di omQ omQ
        try simp only [ha45]
        have hM0:=hM;clear hM;obtain ⟨x46,hx47,hM⟩:=ao hM0;clear hM0
        have hcx46:=ih (p39.2.1) (depth - 1) (by (first|assumption|omega)) (by (first|assumption|omega)) (by omega)
        rw [←hx47] at hcx46
        refine Gx 0 hcx46 rfl rfl (by simp only [go_sem,aE,aF,List.length_replicate,aD,Int.toNat_natCast,↓reduceIte,Nat.reduceEqDiff,Nat.reduceAdd,Int.reduceAdd,Nat.reduceMul,Nat.reduceLeDiff,Nat.reduceLT,Int.reduceLE,Int.reduceLT,Int.reduceNeg,Int.reduceToNat,mt,mtL,aL,aK,mtZ,and_self,eq_self,or_true,true_or,ha39,ha45]) (by simp only [go_sem,aE,aF,List.length_replicate,aD,Int.toNat_natCast,↓reduceIte,Nat.reduceEqDiff,Nat.reduceAdd,Int.reduceAdd,Nat.reduceMul,Nat.reduceLeDiff,Nat.reduceLT,Int.reduceLE,Int.reduceLT,Int.reduceNeg,Int.reduceToNat,mt,mtL,aL,aK,mtZ,and_self,eq_self,or_true,true_or,ha39,ha45]) (by simp only [go_sem,aE,aF,List.length_replicate,aD,Int.toNat_natCast,↓reduceIte,Nat.reduceEqDiff,Nat.reduceAdd,Int.reduceAdd,Nat.reduceMul,Nat.reduceLeDiff,Nat.reduceLT,Int.reduceLE,Int.reduceLT,Int.reduceNeg,Int.reduceToNat,mt,mtL,aL,aK,mtZ,and_self,eq_self,or_true,true_or,ha39,ha45]) (by simp only [go_sem,aE,aF,List.length_replicate,aD,Int.toNat_natCast,↓reduceIte,Nat.reduceEqDiff,Nat.reduceAdd,Int.reduceAdd,Nat.reduceMul,Nat.reduceLeDiff,Nat.reduceLT,Int.reduceLE,Int.reduceLT,Int.reduceNeg,Int.reduceToNat,mt,mtL,aL,aK,mtZ,and_self,eq_self,or_true,true_or,ha39,ha45]) (by simp only [go_sem,aE,aF,List.length_replicate,aD,Int.toNat_natCast,↓reduceIte,Nat.reduceEqDiff,Nat.reduceAdd,Int.reduceAdd,Nat.reduceMul,Nat.reduceLeDiff,Nat.reduceLT,Int.reduceLE,Int.reduceLT,Int.reduceNeg,Int.reduceToNat,mt,mtL,aL,aK,mtZ,and_self,eq_self,or_true,true_or,ha39,ha45]) ?_
        refine aa (And.intro ha39 ha45) ?_
        have hq48:=G7 hx47 (by assumption)
        replace hq48:=nzQ hq48
        refine aO omQ ?_
        refine aa (And.intro ha39 ha45) ?_
        refine bT (n39 - 1) _ (by omega) sbQ sbQ ⟨((p39.1+1),x46.2,(p39.2.2++([x46.1]:List ak))),rfl,⟨⟨omQ,omQ,omQ,omQ⟩,by assumption⟩,omQ,bP hM hag39⟩
      ·rw [if_neg (an h40)] at hM
       refine aa (And.intro ha39 h40) ?_
       have nh40:=nzQ h40
       try have hr49:=mpQ nh40
       subst hM
       exact cT [0] (by simp only [go_sem,aE,aF,List.length_replicate,aD,Int.toNat_natCast,↓reduceIte,Nat.reduceEqDiff,Nat.reduceAdd,Int.reduceAdd,Nat.reduceMul,Nat.reduceLeDiff,Nat.reduceLT,Int.reduceLE,Int.reduceLT,Int.reduceNeg,Int.reduceToNat,mt,mtL,aL,aK,mtZ,and_self,eq_self,or_true,true_or,bp,ha39,bl,bm,Int.reduceSub,or_self,h7,h15,h31,h40]) (by decide) (by simp only [go_sem,aE,aF,List.length_replicate,aD,Int.toNat_natCast,↓reduceIte,Nat.reduceEqDiff,Nat.reduceAdd,Int.reduceAdd,Nat.reduceMul,Nat.reduceLeDiff,Nat.reduceLT,Int.reduceLE,Int.reduceLT,Int.reduceNeg,Int.reduceToNat,mt,mtL,aL,aK,mtZ,and_self,eq_self,or_true,true_or,bp,ha39,bl,bm,Int.reduceSub,or_self,h7,h15,h31,h40])
     ·refine spQ ?_
      refine aB (fun h50=> ?_) (fun h50=> ?_)
      ·rw [if_pos h50] at hM
       refine aa h50 ?_
       have nh50:=nzQ h50
       try have hr51:=mpQ nh50
       have hM0:=hM;clear hM;obtain ⟨x52,hx53,hM⟩:=ao hM0;clear hM0
       have hcx52:=k8 (x33.2) 3
       rw [←hx53] at hcx52
       refine da [0] hcx52 (by decide) (by simp only [go_sem,aE,aF,List.length_replicate,aD,Int.toNat_natCast,↓reduceIte,Nat.reduceEqDiff,Nat.reduceAdd,Int.reduceAdd,Nat.reduceMul,Nat.reduceLeDiff,Nat.reduceLT,Int.reduceLE,Int.reduceLT,Int.reduceNeg,Int.reduceToNat,mt,mtL,aL,aK,mtZ,and_self,eq_self,or_true,true_or]) (by simp only [go_sem,aE,aF,List.length_replicate,aD,Int.toNat_natCast,↓reduceIte,Nat.reduceEqDiff,Nat.reduceAdd,Int.reduceAdd,Nat.reduceMul,Nat.reduceLeDiff,Nat.reduceLT,Int.reduceLE,Int.reduceLT,Int.reduceNeg,Int.reduceToNat,mt,mtL,aL,aK,mtZ,and_self,eq_self,or_true,true_or]) (fun hw54=> ?_)
       replace hw54:=nzQ hw54
       refine spQ ?_
       have hq55:=ry hx53 (by decide)
       replace hq55:=nzQ hq55
       have hq56:=rC hx53 (by assumption)
       replace hq56:=nzQ hq56
       exact fx _ sbQ sbQ (hcut38 _ ⟨x52,rfl,⟨⟨omQ,omQ⟩,by assumption⟩,hM⟩)
      ·rw [if_neg (an h50)] at hM
       refine aa h50 ?_
       have nh50:=nzQ h50
       try have hr57:=mpQ nh50
       exact fx _ sbQ sbQ (hcut38 _ ⟨x33.2,rfl,⟨⟨omQ,omQ⟩,by assumption⟩,hM⟩)
    ·rw [if_neg (an h31)] at hM
     refine aa h31 ?_
     have nh31:=nzQ h31
     try have hr58:=mpQ nh31
     subst hM
     exact cT [0] (by simp only [go_sem,aE,aF,List.length_replicate,aD,Int.toNat_natCast,↓reduceIte,Nat.reduceEqDiff,Nat.reduceAdd,Int.reduceAdd,Nat.reduceMul,Nat.reduceLeDiff,Nat.reduceLT,Int.reduceLE,Int.reduceLT,Int.reduceNeg,Int.reduceToNat,mt,mtL,aL,aK,mtZ,and_self,eq_self,or_true,true_or,bp,bl,bm,Int.reduceSub,or_self,h7,h15,h31]) (by decide) (by simp only [go_sem,aE,aF,List.length_replicate,aD,Int.toNat_natCast,↓reduceIte,Nat.reduceEqDiff,Nat.reduceAdd,Int.reduceAdd,Nat.reduceMul,Nat.reduceLeDiff,Nat.reduceLT,Int.reduceLE,Int.reduceLT,Int.reduceNeg,Int.reduceToNat,mt,mtL,aL,aK,mtZ,and_self,eq_self,or_true,true_or,bp,bl,bm,Int.reduceSub,or_self,h7,h15,h31])
 ·refine spQ ?_
  refine bK (fun h59=> ?_) (fun h59=> ?_)
  ·rw [if_neg (an h59)] at hM
   refine aa h59 ?_
   have nh59:=nzQ h59
   try have hr60:=mpQ nh59
   refine bK (fun h61=> ?_) (fun h61=> ?_)
   ·rw [if_neg (an h61)] at hM
    refine aa h61 ?_
    have nh61:=nzQ h61
    try have hr62:=mpQ nh61
    refine dK (fun h63=> ?_) (fun h63=> ?_)
    ·rw [if_pos h63] at hM
     refine aa h63 ?_
     have nh63:=nzQ h63
     try have hr64:=mpQ nh63
     refine aB (fun h65=> ?_) (fun h65=> ?_)
     ·rw [if_pos h65] at hM
      refine aa h65 ?_
      have nh65:=nzQ h65
      try have hr66:=mpQ nh65
      have hM0:=hM;clear hM;obtain ⟨x67,hx68,hM⟩:=ao hM0;clear hM0
      have hcx67:=k8 (x1.2) 3
      rw [←hx68] at hcx67
      refine da [0] hcx67 (by decide) (by simp only [go_sem,aE,aF,List.length_replicate,aD,Int.toNat_natCast,↓reduceIte,Nat.reduceEqDiff,Nat.reduceAdd,Int.reduceAdd,Nat.reduceMul,Nat.reduceLeDiff,Nat.reduceLT,Int.reduceLE,Int.reduceLT,Int.reduceNeg,Int.reduceToNat,mt,mtL,aL,aK,mtZ,and_self,eq_self,or_true,true_or]) (by simp only [go_sem,aE,aF,List.length_replicate,aD,Int.toNat_natCast,↓reduceIte,Nat.reduceEqDiff,Nat.reduceAdd,Int.reduceAdd,Nat.reduceMul,Nat.reduceLeDiff,Nat.reduceLT,Int.reduceLE,Int.reduceLT,Int.reduceNeg,Int.reduceToNat,mt,mtL,aL,aK,mtZ,and_self,eq_self,or_true,true_or]) (fun hw69=> ?_)
      replace hw69:=nzQ hw69
      refine spQ ?_
      have hq70:=ry hx68 (by decide)
      replace hq70:=nzQ hq70
      have hq71:=rC hx68 (by assumption)
      replace hq71:=nzQ hq71
      subst hM
      exact cT [0] (by simp only [go_sem,aE,aF,List.length_replicate,aD,Int.toNat_natCast,↓reduceIte,Nat.reduceEqDiff,Nat.reduceAdd,Int.reduceAdd,Nat.reduceMul,Nat.reduceLeDiff,Nat.reduceLT,Int.reduceLE,Int.reduceLT,Int.reduceNeg,Int.reduceToNat,mt,mtL,aL,aK,mtZ,and_self,eq_self,or_true,true_or,bp,bl,bm,Int.reduceSub,or_self,h59,h61,h63,h65]) (by decide) (by simp only [go_sem,aE,aF,List.length_replicate,aD,Int.toNat_natCast,↓reduceIte,Nat.reduceEqDiff,Nat.reduceAdd,Int.reduceAdd,Nat.reduceMul,Nat.reduceLeDiff,Nat.reduceLT,Int.reduceLE,Int.reduceLT,Int.reduceNeg,Int.reduceToNat,mt,mtL,aL,aK,mtZ,and_self,eq_self,or_true,true_or,bp,bl,bm,Int.reduceSub,or_self,h59,h61,h63,h65])
     ·rw [if_neg (an h65)] at hM
      refine aa h65 ?_
      have nh65:=nzQ h65
      try have hr72:=mpQ nh65
      exact fx _ sbQ sbQ (hcut6 _ ⟨(),rfl,omQ,hM⟩)
    ·rw [if_neg (an h63)] at hM
     refine aa h63 ?_
     have nh63:=nzQ h63
     try have hr73:=mpQ nh63
     exact fx _ sbQ sbQ (hcut6 _ ⟨(),rfl,omQ,hM⟩)
   ·rw [if_pos h61] at hM
    refine aa h61 ?_
    have nh61:=nzQ h61
    try have hr74:=mpQ nh61
    have hM0:=hM;clear hM;obtain ⟨x75,hx76,hM⟩:=ao hM0;clear hM0
    have hcx75:=k8 (x1.2) 3
    rw [←hx76] at hcx75
    refine da [0] hcx75 (by decide) (by simp only [go_sem,aE,aF,List.length_replicate,aD,Int.toNat_natCast,↓reduceIte,Nat.reduceEqDiff,Nat.reduceAdd,Int.reduceAdd,Nat.reduceMul,Nat.reduceLeDiff,Nat.reduceLT,Int.reduceLE,Int.reduceLT,Int.reduceNeg,Int.reduceToNat,mt,mtL,aL,aK,mtZ,and_self,eq_self,or_true,true_or]) (by simp only [go_sem,aE,aF,List.length_replicate,aD,Int.toNat_natCast,↓reduceIte,Nat.reduceEqDiff,Nat.reduceAdd,Int.reduceAdd,Nat.reduceMul,Nat.reduceLeDiff,Nat.reduceLT,Int.reduceLE,Int.reduceLT,Int.reduceNeg,Int.reduceToNat,mt,mtL,aL,aK,mtZ,and_self,eq_self,or_true,true_or]) (fun hw77=> ?_)
    replace hw77:=nzQ hw77
    refine spQ ?_
    have hq78:=ry hx76 (by decide)
    replace hq78:=nzQ hq78
    have hq79:=rC hx76 (by assumption)
    replace hq79:=nzQ hq79
    subst hM
    exact cT [0] (by simp only [go_sem,aE,aF,List.length_replicate,aD,Int.toNat_natCast,↓reduceIte,Nat.reduceEqDiff,Nat.reduceAdd,Int.reduceAdd,Nat.reduceMul,Nat.reduceLeDiff,Nat.reduceLT,Int.reduceLE,Int.reduceLT,Int.reduceNeg,Int.reduceToNat,mt,mtL,aL,aK,mtZ,and_self,eq_self,or_true,true_or,bp,bl,bm,Int.reduceSub,or_self,h59,h61]) (by decide) (by simp only [go_sem,aE,aF,List.length_replicate,aD,Int.toNat_natCast,↓reduceIte,Nat.reduceEqDiff,Nat.reduceAdd,Int.reduceAdd,Nat.reduceMul,Nat.reduceLeDiff,Nat.reduceLT,Int.reduceLE,Int.reduceLT,Int.reduceNeg,Int.reduceToNat,mt,mtL,aL,aK,mtZ,and_self,eq_self,or_true,true_or,bp,bl,bm,Int.reduceSub,or_self,h59,h61])
  ·rw [if_pos h59] at hM
   refine aa h59 ?_
   have nh59:=nzQ h59
   try have hr80:=mpQ nh59
   have hM0:=hM;clear hM;obtain ⟨x81,hx82,hM⟩:=ao hM0;clear hM0
   have hcx81:=k8 (x1.2) 3
   rw [←hx82] at hcx81
   refine da [0] hcx81 (by decide) (by simp only [go_sem,aE,aF,List.length_replicate,aD,Int.toNat_natCast,↓reduceIte,Nat.reduceEqDiff,Nat.reduceAdd,Int.reduceAdd,Nat.reduceMul,Nat.reduceLeDiff,Nat.reduceLT,Int.reduceLE,Int.reduceLT,Int.reduceNeg,Int.reduceToNat,mt,mtL,aL,aK,mtZ,and_self,eq_self,or_true,true_or]) (by simp only [go_sem,aE,aF,List.length_replicate,aD,Int.toNat_natCast,↓reduceIte,Nat.reduceEqDiff,Nat.reduceAdd,Int.reduceAdd,Nat.reduceMul,Nat.reduceLeDiff,Nat.reduceLT,Int.reduceLE,Int.reduceLT,Int.reduceNeg,Int.reduceToNat,mt,mtL,aL,aK,mtZ,and_self,eq_self,or_true,true_or]) (fun hw83=> ?_)
   replace hw83:=nzQ hw83
   refine spQ ?_
   have hq84:=ry hx82 (by decide)
   replace hq84:=nzQ hq84
   have hq85:=rC hx82 (by assumption)
   replace hq85:=nzQ hq85
   subst hM
   exact cT [0] (by simp only [go_sem,aE,aF,List.length_replicate,aD,Int.toNat_natCast,↓reduceIte,Nat.reduceEqDiff,Nat.reduceAdd,Int.reduceAdd,Nat.reduceMul,Nat.reduceLeDiff,Nat.reduceLT,Int.reduceLE,Int.reduceLT,Int.reduceNeg,Int.reduceToNat,mt,mtL,aL,aK,mtZ,and_self,eq_self,or_true,true_or,bp,bl,bm,Int.reduceSub,or_self,h59]) (by decide) (by simp only [go_sem,aE,aF,List.length_replicate,aD,Int.toNat_natCast,↓reduceIte,Nat.reduceEqDiff,Nat.reduceAdd,Int.reduceAdd,Nat.reduceMul,Nat.reduceLeDiff,Nat.reduceLT,Int.reduceLE,Int.reduceLT,Int.reduceNeg,Int.reduceToNat,mt,mtL,aL,aK,mtZ,and_self,eq_self,or_true,true_or,bp,bl,bm,Int.reduceSub,or_self,h59])
theorem I8: ∀(N:Nat) (r_:aN) (depth:Int),(0≤depth)→(isB r_.b)→depth.toNat<N→cX En 169 [.ptr 0 0,.int .i64 depth] [.var 2 true (.agg [.sl none 1 false (r_.b.map (V.int .u8)),.int .i64 r_.e])] (.agg [.int .i64 (cD r_ depth).1.Kind,.int .i64 (cD r_ depth).1.N,.sl none 1 false ((cD r_ depth).1.B.map (V.int .u8)),.sl none 4 true ((cD r_ depth).1.L.map a6)]) [.var 2 true (.agg [.sl none 1 false ((cD r_ depth).2.b.map (V.int .u8)),.int .i64 (cD r_ depth).2.e])] []:=by
 intro N
 induction N with
 | zero=>intro r_ depth h0 h1 h;exact absurd h (Nat.not_lt_zero _)
 | succ N ih=>
  intro r_ depth h0 h1 h
  have h9:=I7 N ih r_ depth h0 h1 h
  rw [HZ h0 h1] at h9
  exact h9
theorem I9 (r_:aN) (depth:Int) (hp0:0≤depth) (hp1:isB r_.b):cX En 169 [.ptr 0 0,.int .i64 depth] [.var 2 true (.agg [.sl none 1 false (r_.b.map (V.int .u8)),.int .i64 r_.e])] (.agg [.int .i64 (cD r_ depth).1.Kind,.int .i64 (cD r_ depth).1.N,.sl none 1 false ((cD r_ depth).1.B.map (V.int .u8)),.sl none 4 true ((cD r_ depth).1.L.map a6)]) [.var 2 true (.agg [.sl none 1 false ((cD r_ depth).2.b.map (V.int .u8)),.int .i64 (cD r_ depth).2.e])] []:=
 I8 (depth.toNat+1) r_ depth hp0 hp1 (Nat.lt_succ_self _)
instance (priority:=1001):DRD 8 34 6 [28,29,30,31,32] [] ([[],[],[1],[1,2],[1,2,3],[0]]++[List.range 6]) [(5,0)]:=⟨trivial⟩
set_option maxHeartbeats 2000000 in
set_option maxRecDepth 100000 in
instance MH (b:(List Int)):CM En (uO b) 106 [.sl none 1 false (b.map (V.int .u8))] (fun y=> .tup [.agg [.int .i64 y.1.Kind,.int .i64 y.1.N,.sl none 1 false (y.1.B.map (V.int .u8)),.sl none 4 true (y.1.L.map a6)],.int .i64 y.2]) (fun _=> []):=by
 refine cmQ fun r hM=> ?_
 rw [uO.eq_1] at hM
 refine aw al ar [7] Tryz.func106 rfl Tryz.ntmps106 (by kernel_rfl) fun hw=>au ?_
 refine spQ ?_
 replace hw:=nzQ hw
 refine aB (fun h1=> ?_) (fun h1=> ?_)
 ·rw [if_pos h1] at hM
  refine aa h1 ?_
  have nh1:=nzQ h1
  try have hr2:=mpQ nh1
  subst hM
  exact av (ax h1)
 ·rw [if_neg (an h1)] at hM
  refine aa h1 ?_
  have nh1:=nzQ h1
  try have hr3:=mpQ nh1
  have hM0:=hM;clear hM;obtain ⟨x4,hx5,hM⟩:=ao hM0;clear hM0
  have hcx4:=I9 ({b:=b,e:=0}:aN) 8 (by (first|decide|exact uM hw.2)) (by (first|decide|exact uM hw.2))
  rw [←hx5] at hcx4
  refine da [1] hcx4 (by decide) (by simp only [go_sem,aE,aF,List.length_replicate,aD,Int.toNat_natCast,↓reduceIte,Nat.reduceEqDiff,Nat.reduceAdd,Int.reduceAdd,Nat.reduceMul,Nat.reduceLeDiff,Nat.reduceLT,Int.reduceLE,Int.reduceLT,Int.reduceNeg,Int.reduceToNat,mt,mtL,aL,aK,mtZ,and_self,eq_self,or_true,true_or]) (by simp only [go_sem,aE,aF,List.length_replicate,aD,Int.toNat_natCast,↓reduceIte,Nat.reduceEqDiff,Nat.reduceAdd,Int.reduceAdd,Nat.reduceMul,Nat.reduceLeDiff,Nat.reduceLT,Int.reduceLE,Int.reduceLT,Int.reduceNeg,Int.reduceToNat,mt,mtL,aL,aK,mtZ,and_self,eq_self,or_true,true_or]) (fun hw6=> ?_)
  replace hw6:=nzQ hw6
  refine spQ ?_
  have hM0:=hM;clear hM;obtain ⟨j7,hj7,hM⟩:=nw hM0;clear hM0
  refine nn (fun S=> ∃p:aN,S=(⟨[(2,.ptr 0 0),(4,.ptr 1 0),(5,.ptr 2 0)],[(0,.var 4 true (.agg [.int .i64 0,.int .i64 0,.sl (some true) 1 false [],.sl (some true) 4 true []])),(1,.var 2 true (.agg [.sl none 1 false (p.b.map (V.int .u8)),.int .i64 p.e])),(2,.var 4 true (.agg [.int .i64 x4.1.Kind,.int .i64 x4.1.N,.sl none 1 false (x4.1.B.map (V.int .u8)),.sl none 4 true (x4.1.L.map a6)]))],3⟩:St)∧(True)∧j7 p=r) ?_ (fun hcut7=> ?_)
  ·clear hM
   rintro S ⟨p7,rfl,hfa7,hM⟩
   have hM0:=hM;clear hM;have hM:=lT hM0 hj7;clear hM0
   try refine spQ ?_
   have hF:=h1
   exact auQ
  ·refine spQ ?_
   refine aB (fun h11=> ?_) (fun h11=> ?_)
   ·rw [if_pos h11] at hM
    refine aa h11 ?_
    have nh11:=nzQ h11
    try have hr12:=mpQ nh11
    have hM0:=hM;clear hM;obtain ⟨x13,hx14,hM⟩:=ao hM0;clear hM0
    have hcx13:=k8 (x4.2) 3
    rw [←hx14] at hcx13
    refine da [1] hcx13 (by decide) (by simp only [go_sem,aE,aF,List.length_replicate,aD,Int.toNat_natCast,↓reduceIte,Nat.reduceEqDiff,Nat.reduceAdd,Int.reduceAdd,Nat.reduceMul,Nat.reduceLeDiff,Nat.reduceLT,Int.reduceLE,Int.reduceLT,Int.reduceNeg,Int.reduceToNat,mt,mtL,aL,aK,mtZ,and_self,eq_self,or_true,true_or]) (by simp only [go_sem,aE,aF,List.length_replicate,aD,Int.toNat_natCast,↓reduceIte,Nat.reduceEqDiff,Nat.reduceAdd,Int.reduceAdd,Nat.reduceMul,Nat.reduceLeDiff,Nat.reduceLT,Int.reduceLE,Int.reduceLT,Int.reduceNeg,Int.reduceToNat,mt,mtL,aL,aK,mtZ,and_self,eq_self,or_true,true_or]) (fun hw15=> ?_)
    replace hw15:=nzQ hw15
    refine spQ ?_
    exact fx _ sbQ sbQ (hcut7 _ ⟨x13,rfl,trivial,hM⟩)
   ·rw [if_neg (an h11)] at hM
    refine aa h11 ?_
    have nh11:=nzQ h11
    try have hr16:=mpQ nh11
    exact fx _ sbQ sbQ (hcut7 _ ⟨x4.2,rfl,trivial,hM⟩)
set_option maxHeartbeats 2000000 in
set_option maxRecDepth 100000 in
instance MI (i_:ak):CM En (mm i_) 107 [.agg [.int .i64 i_.Kind,.int .i64 i_.N,.sl none 1 false (i_.B.map (V.int .u8)),.sl none 4 true (i_.L.map a6)]] (fun y=> .tup [.sl none 1 false (y.1.map (V.int .i64)),.int .i64 y.2]) (fun _=> []):=by
 refine cmQ fun r hM=> ?_
 rw [mm.eq_1] at hM
 refine aw al ar noJ Tryz.func107 rfl Tryz.ntmps107 (by kernel_rfl) fun hw=>au ?_
 refine spQ ?_
 replace hw:=nzQ hw
 have hM0:=hM;clear hM;obtain ⟨x1,hx2,hM⟩:=ao hM0;clear hM0
 have hcx1:=cmU hx2
 refine aH hcx1 clQ clQ (fun hw3=> ?_)
 replace hw3:=nzQ hw3
 refine spQ ?_
 refine aB (fun h4=> ?_) (fun h4=> ?_)
 ·rw [if_pos h4] at hM
  refine aa h4 ?_
  have nh4:=nzQ h4
  try have hr5:=mpQ nh4
  subst hM
  exact av (ax h4)
 ·rw [if_neg (an h4)] at hM
  refine aa h4 ?_
  have nh4:=nzQ h4
  try have hr6:=mpQ nh4
  refine aB (fun h7=> ?_) (fun h7=> ?_)
  ·rw [if_pos h7] at hM
   refine aa h7 ?_
   have nh7:=nzQ h7
   try have hr8:=mpQ nh7
   subst hM
   exact av (ax (And.intro h4 h7))
  ·rw [if_neg (an h7)] at hM
   refine aa h7 ?_
   have nh7:=nzQ h7
   try have hr9:=mpQ nh7
   have hM0:=hM;clear hM;obtain ⟨f10,d10,hf10,hd10,hM⟩:=aT hM0;clear hM0
   refine fA (fun n S=> ∃p:Int×List Int,S=(⟨[(4,.own 1),(14,.sl none 4 true (i_.L.map a6)),(15,.int .i64 (i_.L.length:Int)),(16,.int .i64 p.1)],[(1,.own 3 1 false none (p.2.map (V.int .i64)))],2⟩:St)∧((0≤p.1)∧(p.1≤(i_.L.length:Int))∧(((p.2).length:Int)≤p.1))∧((i_.L.length:Int) - p.1).toNat<n∧aq n f10 d10 p=r) (((i_.L.length:Int) - 0).toNat+1) _ _ (ju 4 3 rfl (by decide)) sbQ sbQ ⟨(0,([]:List Int)),rfl,⟨omQ,omQ,omQ⟩,(Nat.lt_succ_self _),hM⟩ ?_
   clear hM
   rintro n10 S ⟨p10,rfl,hfa10,hm10,hM⟩
   have hM0:=hM;clear hM;obtain ⟨ag10,hag10,hM⟩:=aU hM0 (by omega) hf10;clear hM0
   replace hfa10:=nzQ hfa10
   replace hm10:=nzQ hm10
   have ha10:ay .i64 p10.1 1=p10.1+1:=aZ omQ omQ
   refine aa ha10 ?_
   have hF:=(And.intro h4 (And.intro h7 ha10))
   exact auQ
set_option maxHeartbeats 2000000 in
set_option maxRecDepth 100000 in
instance MJ (x_:(List Int)):CM En (uP x_) 36 [.sl none 1 false (x_.map (V.int .u8))] (fun y=> .tup [(cA y.1),.int .i64 y.2]) (fun _=> []):=by
 refine cmQ fun r hM=> ?_
 rw [uP.eq_1] at hM
 refine aw al ar noJ Tryz.func36 rfl Tryz.ntmps36 (by kernel_rfl) fun hw=>au ?_
 refine spQ ?_
 replace hw:=nzQ hw
 have hM0:=hM;clear hM;obtain ⟨x1,hx2,hM⟩:=ao hM0;clear hM0
 have hcx1:=cmU hx2
 refine aH hcx1 clQ clQ (fun hw3=> ?_)
 replace hw3:=nzQ hw3
 refine spQ ?_
 refine bK (fun h4=> ?_) (fun h4=> ?_)
 ·rw [if_neg (an h4)] at hM
  refine aa h4 ?_
  have nh4:=nzQ h4
  try have hr5:=mpQ nh4
  refine bK (fun h6=> ?_) (fun h6=> ?_)
  ·rw [if_neg (an h6)] at hM
   refine aa h6 ?_
   have nh6:=nzQ h6
   try have hr7:=mpQ nh6
   refine bK (fun h8=> ?_) (fun h8=> ?_)
   ·rw [if_neg (an h8)] at hM
    refine aa h8 ?_
    have nh8:=nzQ h8
    try have hr9:=mpQ nh8
    refine aO omQ ?_
    have he10: ∀d,elt (x1.1.L.map a6) 0 d=a6 (gt x1.1.L 0):=fun d=>bG (l:=x1.1.L) (f:=a6) (i:=0) omQ d
    refine aa he10 ?_
    refine bK (fun h11=> ?_) (fun h11=> ?_)
    ·rw [if_neg (an h11)] at hM
     refine aa (And.intro he10 h11) ?_
     have nh11:=nzQ h11
     try have hr12:=mpQ nh11
     refine aO omQ ?_
     refine aa he10 ?_
     refine aB (fun h13=> ?_) (fun h13=> ?_)
     ·rw [if_pos h13] at hM
      refine aa (And.intro he10 h13) ?_
      have nh13:=nzQ h13
      try have hr14:=mpQ nh13
      subst hM
      exact av (ax (And.intro he10 (And.intro h4 (And.intro h6 (And.intro h8 (And.intro h11 h13))))))
     ·rw [if_neg (an h13)] at hM
      refine aa (And.intro he10 h13) ?_
      have nh13:=nzQ h13
      try have hr15:=mpQ nh13
      refine aO omQ ?_
      refine aa he10 ?_
      have hM0:=hM;clear hM;obtain ⟨x16,hx17,hM⟩:=ao hM0;clear hM0
      have hcx16:=cmU hx17
      refine aH hcx16 (aC he10) (aC he10) (fun hw18=> ?_)
      replace hw18:=nzQ hw18
      refine aa he10 ?_
      have hq19:=H4 hx17
      replace hq19:=nzQ hq19
      refine aB (fun h20=> ?_) (fun h20=> ?_)
      ·rw [if_pos h20] at hM
       refine aa (And.intro he10 h20) ?_
       have nh20:=nzQ h20
       try have hr21:=mpQ nh20
       subst hM
       exact av (ax (And.intro he10 (And.intro h4 (And.intro h6 (And.intro h8 (And.intro h11 (And.intro h13 h20)))))))
      ·rw [if_neg (an h20)] at hM
       refine aa (And.intro he10 h20) ?_
       have nh20:=nzQ h20
       try have hr22:=mpQ nh20
       refine bO 77 18 [7,55,56,57,58,59,60,61,62,63,64,65,66,67,68,69,70,71] [] ([[],[0],[0,1],[0,1,2],[0,1,2,3],[0,1,2,3,4],[0,1,2,3,4,5],[],[7],[7,8],[],[10],[10,11],[],[13],[13,14],[0,1,2,3,4,5,6,7,8,9,10,11,12,13,14,15],[]]++[List.range 18]) [] (by kernel_rfl) (by exact alQ) ?_
       refine aa he10 ?_
       refine cv omQ ?_
       refine aa he10 ?_
       refine cv omQ ?_
       have he23:=Gd (l:=(gt x1.1.L 0).B) (f:=(V.int .u8)) (k:=32) omQ
       refine aa (And.intro he10 he23) ?_
       have hF:=(And.intro h4 (And.intro h6 (And.intro h8 (And.intro he10 (And.intro h11 (And.intro h13 (And.intro h20 he23)))))))
       exact auQ
    ·rw [if_pos h11] at hM
     refine aa (And.intro he10 h11) ?_
     have nh11:=nzQ h11
     try have hr33:=mpQ nh11
     subst hM
     exact av (ax (And.intro he10 (And.intro h4 (And.intro h6 (And.intro h8 h11)))))
   ·rw [if_pos h8] at hM
    refine aa h8 ?_
    have nh8:=nzQ h8
    try have hr34:=mpQ nh8
    subst hM
    exact av (ax (And.intro h4 (And.intro h6 h8)))
  ·rw [if_pos h6] at hM
   refine aa h6 ?_
   have nh6:=nzQ h6
   try have hr35:=mpQ nh6
   subst hM
   exact av (ax (And.intro h4 h6))
 ·rw [if_pos h4] at hM
  refine aa h4 ?_
  have nh4:=nzQ h4
  try have hr36:=mpQ nh4
  subst hM
  exact av (ax h4)
set_option maxHeartbeats 2000000 in
set_option maxRecDepth 100000 in
instance MK:CM En (qM) 9 [] (fun y=> .bool y) (fun _=> []):=by
 refine cmQ fun r hM=> ?_
 rw [qM.eq_1] at hM
 refine aw al ar noJ Tryz.func9 rfl Tryz.ntmps9 (by kernel_rfl) fun hw=>au ?_
 refine spQ ?_
 replace hw:=nzQ hw
 have hF:=aV
 exact auQ
set_option maxHeartbeats 2000000 in
set_option maxRecDepth 100000 in
instance ML (s:aR):CM En (ii s) 38 [(aY s)] (fun y=> .bool y) (fun _=> []):=by
 refine cmQ fun r hM=> ?_
 rw [ii.eq_1] at hM
 refine aw al ar noJ Tryz.func38 rfl Tryz.ntmps38 (by kernel_rfl) fun hw=>au ?_
 refine spQ ?_
 replace hw:=nzQ hw
 have hF:=aV
 exact auQ
set_option maxHeartbeats 2000000 in
set_option maxRecDepth 100000 in
instance MM (s:(List aR)):CM En (qN s) 108 [.sl none 80 true (s.map aY),.fn 38 []] (fun y=> .int .i64 y) (fun _=> []):=by
 refine cmQ fun r hM=> ?_
 rw [qN.eq_1] at hM
 refine aw al ar noJ Tryz.func108 rfl Tryz.ntmps108 (by kernel_rfl) fun hw=>au ?_
 refine spQ ?_
 replace hw:=nzQ hw
 have hM0:=hM;clear hM;obtain ⟨f1,d1,hf1,hd1,hM⟩:=aT hM0;clear hM0
 refine a7 (fun n S=> ∃p:Int,S=(⟨[(0,.sl none 80 true (s.map aY)),(1,.fn 38 []),(7,.int .i64 (s.length:Int)),(8,.int .i64 p)],[],0⟩:St)∧((0≤p)∧(p≤(s.length:Int)))∧((s.length:Int) - p).toNat<n∧aq n f1 d1 p=r) (((s.length:Int) - 0).toNat+1) _ sbQ sbQ ⟨0,rfl,⟨omQ,omQ⟩,(Nat.lt_succ_self _),hM⟩ ?_
 clear hM
 rintro n1 S ⟨p1,rfl,hfa1,hm1,hM⟩
 have hM0:=hM;clear hM;obtain ⟨ag1,hag1,hM⟩:=aU hM0 (by omega) hf1;clear hM0
 replace hfa1:=nzQ hfa1
 replace hm1:=nzQ hm1
 have ha1:ay .i64 p1 1=p1+1:=aZ omQ omQ
 refine aa ha1 ?_
 have hF:=ha1
 exact auQ
set_option maxHeartbeats 2000000 in
set_option maxRecDepth 100000 in
instance MN (s:(List aR)):CM En (mn s) 37 [.sl none 80 true (s.map aY),.fn 38 []] (fun y=> .bool y) (fun _=> []):=by
 refine cmQ fun r hM=> ?_
 rw [mn.eq_1] at hM
 refine aw al ar noJ Tryz.func37 rfl Tryz.ntmps37 (by kernel_rfl) fun hw=>au ?_
 refine spQ ?_
 replace hw:=nzQ hw
 have hF:=aV
 exact auQ
set_option maxHeartbeats 2000000 in
set_option maxRecDepth 100000 in
instance MO (h_:ce):CM En (kN h_) 40 [(bz h_)] (fun y=> .bool y) (fun _=> []):=by
 refine cmQ fun r hM=> ?_
 rw [kN.eq_1] at hM
 refine aw al ar noJ Tryz.func40 rfl Tryz.ntmps40 (by kernel_rfl) fun hw=>au ?_
 refine spQ ?_
 replace hw:=nzQ hw
 have hF:=aV
 exact auQ
set_option maxHeartbeats 2000000 in
set_option maxRecDepth 100000 in
instance MP (x_:cU):CM En (mp x_) 42 [(bH x_)] (fun y=> .bool y) (fun _=> []):=by
 refine cmQ fun r hM=> ?_
 rw [mp.eq_1] at hM
 refine aw al ar noJ Tryz.func42 rfl Tryz.ntmps42 (by kernel_rfl) fun hw=>au ?_
 refine spQ ?_
 replace hw:=nzQ hw
 have hF:=aV
 exact auQ
set_option maxHeartbeats 2000000 in
set_option maxRecDepth 100000 in
instance MQ (s:(List ce)):CM En (qO s) 109 [.sl none 81 true (s.map bz),.fn 40 []] (fun y=> .int .i64 y) (fun _=> []):=by
 refine cmQ fun r hM=> ?_
 rw [qO.eq_1] at hM
 refine aw al ar noJ Tryz.func109 rfl Tryz.ntmps109 (by kernel_rfl) fun hw=>au ?_
 refine spQ ?_
 replace hw:=nzQ hw
 have hM0:=hM;clear hM;obtain ⟨f1,d1,hf1,hd1,hM⟩:=aT hM0;clear hM0
 refine a7 (fun n S=> ∃p:Int,S=(⟨[(0,.sl none 81 true (s.map bz)),(1,.fn 40 []),(7,.int .i64 (s.length:Int)),(8,.int .i64 p)],[],0⟩:St)∧((0≤p)∧(p≤(s.length:Int)))∧((s.length:Int) - p).toNat<n∧aq n f1 d1 p=r) (((s.length:Int) - 0).toNat+1) _ sbQ sbQ ⟨0,rfl,⟨omQ,omQ⟩,(Nat.lt_succ_self _),hM⟩ ?_
 clear hM
 rintro n1 S ⟨p1,rfl,hfa1,hm1,hM⟩
 have hM0:=hM;clear hM;obtain ⟨ag1,hag1,hM⟩:=aU hM0 (by omega) hf1;clear hM0
 replace hfa1:=nzQ hfa1
 replace hm1:=nzQ hm1
 have ha1:ay .i64 p1 1=p1+1:=aZ omQ omQ
 refine aa ha1 ?_
 have hF:=ha1
 exact auQ
set_option maxHeartbeats 2000000 in
set_option maxRecDepth 100000 in
instance MR (s:(List ce)):CM En (nT s) 39 [.sl none 81 true (s.map bz),.fn 40 []] (fun y=> .bool y) (fun _=> []):=by
 refine cmQ fun r hM=> ?_
 rw [nT.eq_1] at hM
 refine aw al ar noJ Tryz.func39 rfl Tryz.ntmps39 (by kernel_rfl) fun hw=>au ?_
 refine spQ ?_
 replace hw:=nzQ hw
 have hF:=aV
 exact auQ
set_option maxHeartbeats 2000000 in
set_option maxRecDepth 100000 in
instance MS (s:(List cU)):CM En (qP s) 110 [.sl none 5 true (s.map bH),.fn 42 []] (fun y=> .int .i64 y) (fun _=> []):=by
 refine cmQ fun r hM=> ?_
 rw [qP.eq_1] at hM
 refine aw al ar noJ Tryz.func110 rfl Tryz.ntmps110 (by kernel_rfl) fun hw=>au ?_
 refine spQ ?_
 replace hw:=nzQ hw
 have hM0:=hM;clear hM;obtain ⟨f1,d1,hf1,hd1,hM⟩:=aT hM0;clear hM0
 refine a7 (fun n S=> ∃p:Int,S=(⟨[(0,.sl none 5 true (s.map bH)),(1,.fn 42 []),(7,.int .i64 (s.length:Int)),(8,.int .i64 p)],[],0⟩:St)∧((0≤p)∧(p≤(s.length:Int)))∧((s.length:Int) - p).toNat<n∧aq n f1 d1 p=r) (((s.length:Int) - 0).toNat+1) _ sbQ sbQ ⟨0,rfl,⟨omQ,omQ⟩,(Nat.lt_succ_self _),hM⟩ ?_
 clear hM
 rintro n1 S ⟨p1,rfl,hfa1,hm1,hM⟩
 have hM0:=hM;clear hM;obtain ⟨ag1,hag1,hM⟩:=aU hM0 (by omega) hf1;clear hM0
 replace hfa1:=nzQ hfa1
 replace hm1:=nzQ hm1
 have ha1:ay .i64 p1 1=p1+1:=aZ omQ omQ
 refine aa ha1 ?_
 have hF:=ha1
 exact auQ
set_option maxHeartbeats 2000000 in
set_option maxRecDepth 100000 in
instance MT (s:(List cU)):CM En (nU s) 41 [.sl none 5 true (s.map bH),.fn 42 []] (fun y=> .bool y) (fun _=> []):=by
 refine cmQ fun r hM=> ?_
 rw [nU.eq_1] at hM
 refine aw al ar noJ Tryz.func41 rfl Tryz.ntmps41 (by kernel_rfl) fun hw=>au ?_
 refine spQ ?_
 replace hw:=nzQ hw
 have hF:=aV
 exact auQ
set_option maxHeartbeats 2000000 in
set_option maxRecDepth 100000 in
instance MU (p_:b9):CM En (mq p_) 10 [.agg [.int .i64 p_.Number,.sl none 80 true (p_.Spends.map aY),.sl none 81 true (p_.Chains.map bz),.sl none 5 true (p_.Escrow.map bH)]] (fun y=> .bool y) (fun _=> []):=by
 refine cmQ fun r hM=> ?_
 rw [mq.eq_1] at hM
 refine aw al ar noJ Tryz.func10 rfl Tryz.ntmps10 (by kernel_rfl) fun hw=>au ?_
 refine spQ ?_
 replace hw:=nzQ hw
 have hF:=aV
 exact auQ
set_option maxHeartbeats 2000000 in
set_option maxRecDepth 100000 in
instance MV (x_:Int) (low:Int) (high:Int):CM En (nV x_ low high) 172 [.int .i64 x_,.int .i64 low,.int .i64 high] (fun y=> .bool y) (fun _=> []):=by
 refine cmQ fun r hM=> ?_
 rw [nV.eq_1] at hM
 refine aw al ar noJ Tryz.func172 rfl Tryz.ntmps172 (by kernel_rfl) fun hw=>au ?_
 refine spQ ?_
 replace hw:=nzQ hw
 have hF:=aV
 exact auQ
set_option maxHeartbeats 2000000 in
set_option maxRecDepth 100000 in
instance MW (bank:Int) (epoch:Int) (from_:Int) (until_:Int) (final:Int):CM En (uQ bank epoch from_ until_ final) 171 [.int .i64 bank,.int .i64 epoch,.int .i64 from_,.int .i64 until_,.int .i64 final] (fun y=> .bool y) (fun _=> []):=by
 refine cmQ fun r hM=> ?_
 rw [uQ.eq_1] at hM
 refine aw al ar noJ Tryz.func171 rfl Tryz.ntmps171 (by kernel_rfl) fun hw=>au ?_
 refine spQ ?_
 replace hw:=nzQ hw
 have hF:=aV
 exact auQ
set_option maxHeartbeats 2000000 in
set_option maxRecDepth 100000 in
instance MX (d_:eI):CM En (kO d_) 229 [.agg [.int .i64 d_.Value,.int .i64 d_.Depth]] (fun y=> .bool y) (fun _=> []):=by
 refine cmQ fun r hM=> ?_
 rw [kO.eq_1] at hM
 refine aw al ar noJ Tryz.func229 rfl Tryz.ntmps229 (by kernel_rfl) fun hw=>au ?_
 refine spQ ?_
 replace hw:=nzQ hw
 refine aB (fun h1=> ?_) (fun h1=> ?_)
 ·have kh1:(nK d_ kH)=true:=h1
  rw [if_pos kh1] at hM
  refine aa h1 ?_
  have nh1:=nzQ kh1
  try have hr2:=mpQ nh1
  subst hM
  exact av (ax h1)
 ·have kh1:(nK d_ kH)=false:=h1
  rw [if_neg (an kh1)] at hM
  refine aa h1 ?_
  have nh1:=nzQ kh1
  try have hr3:=mpQ nh1
  refine bO 33 24 [6,7,8,9,10,11,12,13,14,15,16,17,18,19,20,21,22,23,24,25,26,27,28,29] [] ([[],[0],[0,1],[0,1,2],[0,1,2,3],[0,1,2,3,4],[0,1,2,3,4,5],[0,1,2,3,4,5,6],[0,1,2,3,4,5,6,7],[0,1,2,3,4,5,6,7,8],[0,1,2,3,4,5,6,7,8,9],[0,1,2,3,4,5,6,7,8,9,10],[0,1,2,3,4,5,6,7,8,9,10,11],[0,1,2,3,4,5,6,7,8,9,10,11,12],[0,1,2,3,4,5,6,7,8,9,10,11,12,13],[0,1,2,3,4,5,6,7,8,9,10,11,12,13,14],[0,1,2,3,4,5,6,7,8,9,10,11,12,13,14,15],[0,1,2,3,4,5,6,7,8,9,10,11,12,13,14,15,16],[0,1,2,3,4,5,6,7,8,9,10,11,12,13,14,15,16,17],[0,1,2,3,4,5,6,7,8,9,10,11,12,13,14,15,16,17,18],[0,1,2,3,4,5,6,7,8,9,10,11,12,13,14,15,16,17,18,19],[0,1,2,3,4,5,6,7,8,9,10,11,12,13,14,15,16,17,18],[0,1,2,3,4,5,6,7,8,9,10,11,12,13,14,15,16,17,18,21],[0,1,2,3,4,5,6,7,8,9,10,11,12,13,14,15,16,17,18,21,22]]++[List.range 24,List.range 25,List.range 26,List.range 27]) [] (by kernel_rfl) (by exact alQ) ?_
  refine spQ ?_
  refine gg (fun h4=> ?_) (fun h4=> ?_)
  ·rw [if_pos h4] at hM
   refine aa h4 ?_
   have nh4:=nzQ h4
   try have hr5:=mpQ nh4
   refine gg (fun h6=> ?_) (fun h6=> ?_)
   ·rw [if_pos h6] at hM
    refine aa h6 ?_
    have nh6:=nzQ h6
    try have hr7:=mpQ nh6
    refine gg (fun h8=> ?_) (fun h8=> ?_)
    ·rw [if_pos h8] at hM
     refine aa h8 ?_
     have nh8:=nzQ h8
     try have hr9:=mpQ nh8
     refine gg (fun h10=> ?_) (fun h10=> ?_)
     ·rw [if_pos h10] at hM
      refine aa h10 ?_
      have nh10:=nzQ h10
      try have hr11:=mpQ nh10
      refine cv omQ ?_
      refine spQ ?_
      refine aO (by (clear hM;simp only [decide_eq_true_eq] at*;rcases (show d_.Depth=0∨d_.Depth=1∨d_.Depth=2∨d_.Depth=3∨d_.Depth=4∨d_.Depth=5 by omega) with h|h|h|h|h|h<;>rw [h]<;>decide)) ?_
      refine spQ ?_
      subst hM
      exact av (ax (And.intro h1 (And.intro h4 (And.intro h6 (And.intro h8 h10)))))
     ·rw [if_neg (an h10)] at hM
      refine aa h10 ?_
      have nh10:=nzQ h10
      try have hr12:=mpQ nh10
      subst hM
      exact av (ax (And.intro h1 (And.intro h4 (And.intro h6 (And.intro h8 h10)))))
    ·rw [if_neg (an h8)] at hM
     refine aa h8 ?_
     have nh8:=nzQ h8
     try have hr13:=mpQ nh8
     subst hM
     exact av (ax (And.intro h1 (And.intro h4 (And.intro h6 h8))))
   ·rw [if_neg (an h6)] at hM
    refine aa h6 ?_
    have nh6:=nzQ h6
    try have hr14:=mpQ nh6
    subst hM
    exact av (ax (And.intro h1 (And.intro h4 h6)))
  ·rw [if_neg (an h4)] at hM
   refine aa h4 ?_
   have nh4:=nzQ h4
   try have hr15:=mpQ nh4
   subst hM
   exact av (ax (And.intro h1 h4))
end Go.Proofs.YtcbbjfckokckcaaGreatDoor
