/- Texts of this proof, one after the other: EG, U1. -/
import Derived.Test.YtcbbjfckokckcaaGreatDoorZ7
import Derived.Lib.AppendZeros
import Derived.Test.YtcbbjfckokckcaaGreatDoorZ6
set_option linter.unusedVariables false
set_option linter.unusedSimpArgs false
namespace Go.Proofs.YtcbbjfckokckcaaGreatDoor
open Go.RowKit
set_option linter.unusedVariables false
set_option linter.unusedSimpArgs false
theorem I4 {n:Int} {x:List Int} (h:x=rl [] n):x.length=0:=by subst h;rfl
theorem I5: ∃i:TypeInfo,Tryz.prog.info? 5=some i∧i.zero=some (.int .u8 0)∧i.size=1∧i.bytes=1:=by
 have h:(Tryz.prog.info? 5).map (fun i=>(i.zero,i.size,i.bytes))=some (some (.int .u8 0),1,1):=by kernel_rfl
 cases hi:Tryz.prog.info? 5 with
 | none=>rw [hi] at h;cases h
 | some i=>
  rw [hi] at h
  simp only [Option.map_some,Option.some.injEq,Prod.mk.injEq] at h
  exact ⟨i,rfl,h.1,h.2.1,h.2.2⟩
set_option maxHeartbeats 4000000 in
set_option maxRecDepth 100000 in
theorem I6 (n:Nat) (hn:0<n) (h9:n≤100000000) (w:World):Calls Tryz.prog 384 #[.slice none 0 0,.int .i64 (n:Int)] w fun e w'=>
  e= .returned (.slice (some ⟨w.heap.size,0,none⟩) 0 (grownCap w n 0 5))∧w'=w.drew.alloc (.cells (Builtin.zeroCells (Value.int .u8 0).cells n++Builtin.zeroCells (Value.int .u8 0).cells (grownCap w n 0 5 - n)) 5):=by
 obtain ⟨i,hi,hz,hs,hb⟩:=I5
 have hap:=fun ty=>Lib.run_append_nil_zeros (P:=Tryz.prog) w 99 3 ty 5 i (.int .u8 0) .i64 .i64 Tryz.underlying99 Tryz.underlying3 hi hz n hn (by omega) (by omega) (by rw [hb];omega)
 have hge:=grownCap_ge w n 0 5
 have hq1: ¬((n:Int)<0):=by omega
 have hq2:(0:Int)<(n:Int):=by omega
 go_enter Tryz.func384,Tryz.ntmps384
 have hb5:Tryz.t5.bytes=1:=by kernel_rfl
 have hns:Builtin.nextslicecap n 0=n:=by unfold Builtin.nextslicecap;simp;omega
 go_wp2
 all_goals first|(exfalso;rw [hb5] at*;omega)|(exfalso;omega)|skip
 refine ⟨rfl,_,results_tmp rfl _ _ _,?_,?_⟩
 ·rfl
 ·rfl
set_option maxHeartbeats 4000000 in
set_option maxRecDepth 100000 in
theorem I7 (w:World):Calls Tryz.prog 384 #[.slice none 0 0,.int .i64 0] w fun e w'=>
  e= .returned (.slice none 0 0)∧w'=w:=by
 go_enter Tryz.func384,Tryz.ntmps384
 go_wp2
 exact ⟨rfl,_,results_tmp rfl _ _ _,rfl,rfl⟩
theorem I8 (z0:Option Bool) (a0:List Int) (a1:Int) (hp0:z0=some true) (hp1:a0=[]) (hp2:0≤a1) (hp3:a1≤100000000):bk En 384 [.sl z0 1 false (a0.map (V.int .u8)),.int .i64 a1] (.own 0) [.own 5 1 false none ((rl a0 a1).map (V.int .u8))]:=by
 subst hp0 hp1
 refine ⟨show∀xs w,(callFunc 384 xs).run En.P w= .ok (.enter 384 xs) w from enters_of Tryz.func384 (by kernel_rfl) rfl,fun c us _ hg hus=> ?_⟩
 simp only [rdT] at hus
 obtain ⟨u0,c0,rfl,h0,u1,c1,rfl,h1,rfl⟩:=hus
 simp only [rd,List.map_nil,List.length_nil] at h0 h1
 obtain ⟨a,cap,rfl,_,⟨rfl,rfl⟩,_⟩:=h0
 obtain ⟨rfl,_⟩:=h1
 show Calls Tryz.prog _ _ _ _
 obtain ⟨n,rfl⟩: ∃n:Nat,a1=n:=⟨a1.toNat,by omega⟩
 by_cases h9:n=0
 ·subst h9
  refine (I7 c.w).mono ?_
  rintro e w' ⟨rfl,rfl⟩
  refine ⟨_,c,fun i=>if i=0 then some (.slice none 0 0) else none,rfl,rfl,Cx.le.refl c,⟨rfl,rfl⟩,?_,fun i hi=> ?_,fun i j bi bj k hij hi hj=> ?_⟩
  ·intro i b hb
   match i,hb with
   | 0,hb=>
    simp only [List.getElem?_cons_zero,Option.some.injEq] at hb
    subst hb
    exact ⟨⟨_,_,_,_,_,rfl⟩,_,rfl,Own.nil,fun k hk=>(by cases hk),fun _=>rfl,_,_,rfl,fun _=>rfl⟩
  ·exact if_neg (by simp only [List.length_cons,List.length_nil] at hi;omega)
  ·have:i=0:=by
    have:=(List.getElem?_eq_some_iff.1 hi).1
    simp at this;exact this
   have:j=0:=by
    have:=(List.getElem?_eq_some_iff.1 hj).1
    simp at this;exact this
   omega
 ·refine (I6 n (by omega) (by omega) c.w).mono ?_
  rintro e w' ⟨rfl,rfl⟩
  have hge:=grownCap_ge c.w n 0 5
  have hcm:grownCap c.w n 0 5≤maxLen:=grownCap_le_maxLen c.w _ 0 5 (by unfold maxLen;omega)
  obtain ⟨c',h1,h2,h3,h4⟩:=oW c 5 (rV ro0 1 false) [] [] (Builtin.zeroCells (Value.int .u8 0).cells n++Builtin.zeroCells (Value.int .u8 0).cells (grownCap c.w n 0 5 - n)) (grownCap c.w n 0 5) (by omega) (Nat.zero_le _) hcm (Nat.zero_le _)
   rfl (by rw [Array.size_append,size_zeroCells,size_zeroCells];show n*1+(grownCap c.w n 0 5 - n)*1=(grownCap c.w n 0 5 - 0)*1;omega) c.w.drew ⟨rfl,rfl,rfl,rfl⟩
  refine ⟨_,c',fun i=>if i=0 then some (.slice (some ⟨c.w.heap.size,0,none⟩) 0 (grownCap c.w n 0 5)) else none,rfl,by rw [h1];simp,h2,⟨rfl,rfl⟩,?_,fun i hi=> ?_,fun i j bi bj k hij hi hj=> ?_⟩
  ·intro i b hb
   match i,hb with
   | 0,hb=>
    simp only [List.getElem?_cons_zero,Option.some.injEq] at hb
    subst hb
    refine ⟨⟨_,_,_,_,_,rfl⟩,_,rfl,h3,fun k hk=> ?_,fun _=>rfl,_,_,rfl,fun h=>(by cases h)⟩
    obtain rfl:=lL hk
    exact .inl (Nat.le_refl _)
  ·exact if_neg (by simp only [List.length_cons,List.length_nil] at hi;omega)
  ·have:i=0:=by
    have:=(List.getElem?_eq_some_iff.1 hi).1
    simp at this;exact this
   have:j=0:=by
    have:=(List.getElem?_eq_some_iff.1 hj).1
    simp at this;exact this
   omega
end Go.Proofs.YtcbbjfckokckcaaGreatDoor
namespace Go.Proofs.YtcbbjfckokckcaaGreatDoor
open Go.RowKit
set_option linter.unusedSimpArgs false
set_option maxHeartbeats 2000000 in
set_option maxRecDepth 100000 in
instance M4 (v:bO):CM En (im v) 103 [(cA v)] (fun y=> .bool y) (fun _=> []):=by
 refine cmQ fun r hM=> ?_
 rw [im.eq_1] at hM
 refine av al ar noJ Tryz.func103 rfl Tryz.ntmps103 (by kernel_rfl) fun hw=>au ?_
 refine spQ ?_
 replace hw:=nzQ hw
 have hF:=aW
 exact auQ
set_option maxHeartbeats 2000000 in
set_option maxRecDepth 100000 in
instance M5 (n_:Int):CM En (mI n_) 105 [.int .i64 n_] (fun y=> .agg [.int .i64 y.Kind,.int .i64 y.N,.sl none 1 false (y.B.map (V.int .u8)),.sl none 4 true (y.L.map a7)]) (fun _=> []):=by
 refine cmQ fun r hM=> ?_
 rw [mI.eq_1] at hM
 refine av al ar noJ Tryz.func105 rfl Tryz.ntmps105 (by kernel_rfl) fun hw=>au ?_
 refine spQ ?_
 replace hw:=nzQ hw
 subst hM
 exact aw lfQ
set_option maxHeartbeats 2000000 in
set_option maxRecDepth 100000 in
theorem I9 (N:Nat) (ih: ∀(i_:ak) (depth:Int),hgt i_<N→bk En 224 [.agg [.int .i64 i_.Kind,.int .i64 i_.N,.sl none 1 false (i_.B.map (V.int .u8)),.sl none 4 true (i_.L.map a7)],.int .i64 depth] (.bool (fM i_ depth)) []) (x_:ak) (c0:Int) (hp0:hgt x_<N) (hp1:0<c0):bk En 284 [.agg [.int .i64 x_.Kind,.int .i64 x_.N,.sl none 1 false (x_.B.map (V.int .u8)),.sl none 4 true (x_.L.map a7)],.pp 1 false (.int .i64 c0)] (.bool (lh x_ c0)) []:=by
 generalize hM:lh x_ c0=r
 rw [lh.eq_1] at hM
 refine av al ar noJ Tryz.func284 rfl Tryz.ntmps284 (by kernel_rfl) fun hw=>au ?_
 refine spQ ?_
 replace hw:=nzQ hw
 have ha1:aG .i64 c0 1=(c0 - 1):=dl omQ omQ
 try simp only [ha1]
 replace hM:=ao hM;obtain ⟨x2,hx3,hM⟩:=hM
 have hcx2:=ih x_ (c0 - 1) (by omega)
 rw [←hx3] at hcx2
 refine aH hcx2 (aC ha1) (aC ha1) (fun hw4=> ?_)
 replace hw4:=nzQ hw4
 refine aa ha1 ?_
 subst hM
 exact aw (az ha1)
set_option maxHeartbeats 2000000 in
set_option maxRecDepth 100000 in
theorem I_ (N:Nat) (ih: ∀(i_:ak) (depth:Int),hgt i_<N→bk En 224 [.agg [.int .i64 i_.Kind,.int .i64 i_.N,.sl none 1 false (i_.B.map (V.int .u8)),.sl none 4 true (i_.L.map a7)],.int .i64 depth] (.bool (fM i_ depth)) []) (z0:Option Bool) (s:(List ak)) (f__c0:Int) (hp0: ∀x∈s,hgt x<N) (hp1:0<f__c0):bk En 338 [.sl z0 4 true (s.map a7),.fn 284 [.pp 1 false (.int .i64 f__c0)]] (.int .i64 (qY s f__c0)) []:=by
 generalize hM:qY s f__c0=r
 rw [qY.eq_1] at hM
 refine av al ar noJ Tryz.func338 rfl Tryz.ntmps338 (by kernel_rfl) fun hw=>au ?_
 refine spQ ?_
 replace hw:=nzQ hw
 replace hM:=aU hM;obtain ⟨f1,d1,hf1,hd1,hM⟩:=hM
 refine a6 (fun n S=> ∃p:Int,S=(⟨[(0,.sl z0 4 true (s.map a7)),(1,.fn 284 [.pp 1 false (.int .i64 f__c0)]),(7,.int .i64 (s.length:Int)),(8,.int .i64 p)],[],0⟩:St)∧((0≤p)∧(p≤(s.length:Int)))∧((s.length:Int) - p).toNat<n∧am n f1 d1 p=r) (((s.length:Int) - 0).toNat+1) _ sbQ sbQ ⟨0,rfl,⟨omQ,omQ⟩,(Nat.lt_succ_self _),hM⟩ ?_
 clear hM
 rintro n1 S ⟨p1,rfl,hfa1,hm1,hM⟩
 replace hM:=aV hM (by omega) hf1;obtain ⟨ag1,hag1,hM⟩:=hM
 replace hfa1:=nzQ hfa1
 replace hm1:=nzQ hm1
 have ha1:ax .i64 p1 1=p1+1:=aZ omQ omQ
 refine aa ha1 ?_
 refine aB (fun h2=> ?_) (fun h2=> ?_)
 ·rw [if_pos h2] at hM
  refine aa (And.intro ha1 h2) ?_
  have nh2:=nzQ h2
  try have hr3:=mpQ nh2
  refine aP omQ ?_
  have he4:=fun d=>bE (l:=s) (f:=a7) (i:=p1) omQ d
  refine aa (And.intro ha1 he4) ?_
  replace hM:=ao hM;obtain ⟨x5,hx6,hM⟩:=hM
  have hcx5:=I9 N ih (gt s p1) f__c0 (by (first|exact hp1|exact hp0 _ (ca (by omega)))) (by (first|exact hp1|exact hp0 _ (ca (by omega))))
  rw [←hx6] at hcx5
  refine aH hcx5 (aC (And.intro ha1 he4)) (aC (And.intro ha1 he4)) (fun hw7=> ?_)
  replace hw7:=nzQ hw7
  refine aa (And.intro ha1 he4) ?_
  have hF:=(And.intro ha1 (And.intro h2 he4))
  exact auQ
 ·rw [if_neg (ap h2)] at hM
  refine aa (And.intro ha1 h2) ?_
  subst hM
  exact aw (az (And.intro ha1 h2))
set_option maxHeartbeats 2000000 in
set_option maxRecDepth 100000 in
theorem Ja (N:Nat) (ih: ∀(i_:ak) (depth:Int),hgt i_<N→bk En 224 [.agg [.int .i64 i_.Kind,.int .i64 i_.N,.sl none 1 false (i_.B.map (V.int .u8)),.sl none 4 true (i_.L.map a7)],.int .i64 depth] (.bool (fM i_ depth)) []) (z0:Option Bool) (s:(List ak)) (f__c0:Int) (hp0: ∀x∈s,hgt x<N) (hp1:0<f__c0):bk En 283 [.sl z0 4 true (s.map a7),.fn 284 [.pp 1 false (.int .i64 f__c0)]] (.bool (mJ s f__c0)) []:=by
 generalize hM:mJ s f__c0=r
 rw [mJ.eq_1] at hM
 refine av al ar noJ Tryz.func283 rfl Tryz.ntmps283 (by kernel_rfl) fun hw=>au ?_
 refine spQ ?_
 replace hw:=nzQ hw
 replace hM:=ao hM;obtain ⟨x1,hx2,hM⟩:=hM
 have hcx1:=I_ N ih z0 s f__c0 (by (first|exact hp1|exact hp0)) (by (first|exact hp1|exact hp0))
 rw [←hx2] at hcx1
 refine aH hcx1 clQ clQ (fun hw3=> ?_)
 replace hw3:=nzQ hw3
 refine spQ ?_
 subst hM
 exact aw lfQ
set_option maxHeartbeats 2000000 in
set_option maxRecDepth 100000 in
theorem Jb (N:Nat) (ih: ∀(i_:ak) (depth:Int),hgt i_<N→bk En 224 [.agg [.int .i64 i_.Kind,.int .i64 i_.N,.sl none 1 false (i_.B.map (V.int .u8)),.sl none 4 true (i_.L.map a7)],.int .i64 depth] (.bool (fM i_ depth)) []) (i_:ak) (depth:Int) (hp_:hgt i_<N+1):bk En 224 [.agg [.int .i64 i_.Kind,.int .i64 i_.N,.sl none 1 false (i_.B.map (V.int .u8)),.sl none 4 true (i_.L.map a7)],.int .i64 depth] (.bool (og i_ depth)) []:=by
 generalize hM:og i_ depth=r
 rw [og.eq_1] at hM
 refine av al ar noJ Tryz.func224 rfl Tryz.ntmps224 (by kernel_rfl) fun hw=>au ?_
 refine spQ ?_
 replace hw:=nzQ hw
 refine aB (fun h1=> ?_) (fun h1=> ?_)
 ·rw [if_pos h1] at hM
  refine aa h1 ?_
  have nh1:=nzQ h1
  try have hr2:=mpQ nh1
  have hF:=h1
  exact auQ
 ·rw [if_neg (ap h1)] at hM
  refine aa h1 ?_
  have nh1:=nzQ h1
  try have hr6:=mpQ nh1
  refine aB (fun h7=> ?_) (fun h7=> ?_)
  ·rw [if_pos h7] at hM
   refine aa h7 ?_
   have nh7:=nzQ h7
   try have hr8:=mpQ nh7
   have hF:=(And.intro h1 h7)
   exact auQ
  ·rw [if_neg (ap h7)] at hM
   refine aa h7 ?_
   have nh7:=nzQ h7
   try have hr12:=mpQ nh7
   refine aB (fun h13=> ?_) (fun h13=> ?_)
   ·rw [if_pos h13] at hM
    refine aa h13 ?_
    have nh13:=nzQ h13
    try have hr14:=mpQ nh13
    refine gh (fun h15=> ?_) (fun h15=> ?_)
    ·rw [if_pos h15] at hM
     refine aa h15 ?_
     have nh15:=nzQ h15
     try have hr16:=mpQ nh15
     refine gh (fun h17=> ?_) (fun h17=> ?_)
     ·rw [if_pos h17] at hM
      refine aa h17 ?_
      have nh17:=nzQ h17
      try have hr18:=mpQ nh17
      refine gh (fun h19=> ?_) (fun h19=> ?_)
      ·rw [if_pos h19] at hM
       refine aa h19 ?_
       have nh19:=nzQ h19
       try have hr20:=mpQ nh19
       refine gh (fun h21=> ?_) (fun h21=> ?_)
       ·rw [if_pos h21] at hM
        refine aa h21 ?_
        have nh21:=nzQ h21
        try have hr22:=mpQ nh21
        replace hM:=ao hM;obtain ⟨x23,hx24,hM⟩:=hM
        have hcx23:=Ja N ih none (i_.L) depth (by (first|omega|exact fun x hx=>Nat.lt_of_lt_of_le (qS hx) (Nat.lt_succ_iff.1 hp_))) (by (first|omega|exact fun x hx=>Nat.lt_of_lt_of_le (qS hx) (Nat.lt_succ_iff.1 hp_)))
        rw [←hx24] at hcx23
        refine gZ hcx23 clQ clQ (fun hw25=> ?_)
        replace hw25:=nzQ hw25
        refine spQ ?_
        subst hM
        exact aw (az (And.intro h1 (And.intro h7 (And.intro h13 (And.intro h15 (And.intro h17 (And.intro h19 h21)))))))
       ·rw [if_neg (ap h21)] at hM
        refine aa h21 ?_
        subst hM
        exact aw (az (And.intro h1 (And.intro h7 (And.intro h13 (And.intro h15 (And.intro h17 (And.intro h19 h21)))))))
      ·rw [if_neg (ap h19)] at hM
       refine aa h19 ?_
       subst hM
       exact aw (az (And.intro h1 (And.intro h7 (And.intro h13 (And.intro h15 (And.intro h17 h19))))))
     ·rw [if_neg (ap h17)] at hM
      refine aa h17 ?_
      subst hM
      exact aw (az (And.intro h1 (And.intro h7 (And.intro h13 (And.intro h15 h17)))))
    ·rw [if_neg (ap h15)] at hM
     refine aa h15 ?_
     subst hM
     exact aw (az (And.intro h1 (And.intro h7 (And.intro h13 h15))))
   ·rw [if_neg (ap h13)] at hM
    refine aa h13 ?_
    subst hM
    exact aw (az (And.intro h1 (And.intro h7 h13)))
theorem Jc: ∀(N:Nat) (i_:ak) (depth:Int),hgt i_<N→bk En 224 [.agg [.int .i64 i_.Kind,.int .i64 i_.N,.sl none 1 false (i_.B.map (V.int .u8)),.sl none 4 true (i_.L.map a7)],.int .i64 depth] (.bool (fM i_ depth)) []:=by
 intro N
 induction N with
 | zero=>intro i_ depth h;exact absurd h (Nat.not_lt_zero _)
 | succ N ih=>
  intro i_ depth h
  have h9:=Jb N ih i_ depth h
  rw [H9] at h9
  exact h9
theorem Jd (i_:ak) (depth:Int):bk En 224 [.agg [.int .i64 i_.Kind,.int .i64 i_.N,.sl none 1 false (i_.B.map (V.int .u8)),.sl none 4 true (i_.L.map a7)],.int .i64 depth] (.bool (fM i_ depth)) []:=
 Jc (hgt i_+1) i_ depth (Nat.lt_succ_self _)
set_option maxHeartbeats 2000000 in
set_option maxRecDepth 100000 in
instance M6 (i_:ak):CM En (mK i_) 167 [.agg [.int .i64 i_.Kind,.int .i64 i_.N,.sl none 1 false (i_.B.map (V.int .u8)),.sl none 4 true (i_.L.map a7)]] (fun y=> .bool y) (fun _=> []):=by
 refine cmQ fun r hM=> ?_
 rw [mK.eq_1] at hM
 refine av al ar noJ Tryz.func167 rfl Tryz.ntmps167 (by kernel_rfl) fun hw=>au ?_
 refine spQ ?_
 replace hw:=nzQ hw
 replace hM:=ao hM;obtain ⟨x1,hx2,hM⟩:=hM
 have hcx1:=Jd i_ 8
 rw [←hx2] at hcx1
 refine aH hcx1 clQ clQ (fun hw3=> ?_)
 replace hw3:=nzQ hw3
 refine spQ ?_
 subst hM
 exact aw lfQ
set_option maxHeartbeats 2000000 in
set_option maxRecDepth 100000 in
theorem wK (z0:Option Bool) (out:(List Int)) (n_:Int) (size:Int) (hp0:size≤8) (hp1:out.length≤1000000000) (hp2:0≤size):cZ En 225 [.own 0,.int .u64 n_,.int .i64 size] [.own 5 1 false z0 (out.map (V.int .u8))] (.own 0) [.own 5 1 false none ((i4 out n_ size).map (V.int .u8))] []:=by
 generalize hM:i4 out n_ size=r
 rw [i4.eq_1] at hM
 refine iZ al ar noJ Tryz.func225 rfl Tryz.ntmps225 (by kernel_rfl) rfl fun ks hw hwB=>au ?_
 refine spQ ?_
 replace hw:=nzQ hw
 try simp only [fd,wfB,decide_eq_true_eq,decide_eq_false_iff_not,Bool.and_eq_true,Bool.or_eq_true,Bool.not_eq_true',Bool.not_eq_false',beq_iff_eq,bne_iff_ne,beq_eq_false_iff_ne,bne_eq_false_iff_eq,ne_eq,Int.not_lt,Int.not_le,gt_iff_lt,ge_iff_le,List.length_map,wfL,wfV,and_true,true_and,dF,gn,go,gp,gu,eX,eD,List.length_append,List.length_cons,List.length_nil,List.length_replicate,aD,eY,eZ,fb,ce,eE,gw] at hwB
 have ha1:aG .i64 size 1=(size - 1):=dl omQ omQ
 try simp only [ha1]
 replace hM:=aU hM;obtain ⟨f2,d2,hf2,hd2,hM⟩:=hM
 refine a6 (fun n S=> ∃p:Int×List Int,S=(⟨[(0,.own 0),(1,.int .u64 n_),(7,.int .i64 p.1)],[(0,.own 5 1 false none (p.2.map (V.int .u8)))],1⟩:St)∧((-1≤p.1)∧(p.1<8)∧(((p.2).length:Int)+p.1≤1000000020))∧(p.1+1).toNat<n∧am n f2 d2 p=r) (((size - 1)+1).toNat+1) _ sbQ sbQ ⟨((size - 1),out),rfl,⟨omQ,omQ,omQ⟩,(Nat.lt_succ_self _),hM⟩ ?_
 clear hM
 rintro n2 S ⟨p2,rfl,hfa2,hm2,hM⟩
 replace hM:=aV hM (by omega) hf2;obtain ⟨ag2,hag2,hM⟩:=hM
 replace hfa2:=nzQ hfa2
 replace hm2:=nzQ hm2
 refine aa ha1 ?_
 refine aB (fun h3=> ?_) (fun h3=> ?_)
 ·rw [if_pos h3] at hM
  refine aa (And.intro ha1 h3) ?_
  have nh3:=nzQ h3
  try have hr4:=mpQ nh3
  obtain ⟨ha5,hbha5⟩:=mq (a:=8) (b:=p2.1) 8 8 64 omQ omQ omQ omQ (by decide) (by decide)
  try simp only [ha5]
  refine aP omQ ?_
  refine aa (And.intro ha1 ha5) ?_
  refine aP omQ ?_
  refine aa (And.intro ha1 ha5) ?_
  have ha6:aG .i64 p2.1 1=(p2.1 - 1):=dl omQ omQ
  try simp only [ha6]
  refine bM (n2 - 1) _ (by omega) sbQ sbQ ⟨((p2.1 - 1),(p2.2++([(ae .u8 (ay .u64 n_ (8*p2.1)))]:List Int))),rfl,⟨omQ,omQ,omQ⟩,omQ,bI hM hag2⟩
 ·rw [if_neg (ap h3)] at hM
  refine aa (And.intro ha1 h3) ?_
  have nh3:=nzQ h3
  try have hr7:=mpQ nh3
  subst hM
  exact cV [0] (by simp only [go_sem,aE,aF,List.length_replicate,aD,Int.toNat_natCast,↓reduceIte,Nat.reduceEqDiff,Nat.reduceAdd,Int.reduceAdd,Nat.reduceMul,Nat.reduceLeDiff,Nat.reduceLT,Int.reduceLE,Int.reduceLT,Int.reduceNeg,Int.reduceToNat,mt,mtL,aL,aK,mtZ,and_self,eq_self,or_true,true_or,br,ha1,bm,bn,Int.reduceSub,or_self,h3]) (by decide) (by simp only [go_sem,aE,aF,List.length_replicate,aD,Int.toNat_natCast,↓reduceIte,Nat.reduceEqDiff,Nat.reduceAdd,Int.reduceAdd,Nat.reduceMul,Nat.reduceLeDiff,Nat.reduceLT,Int.reduceLE,Int.reduceLT,Int.reduceNeg,Int.reduceToNat,mt,mtL,aL,aK,mtZ,and_self,eq_self,or_true,true_or,br,ha1,bm,bn,Int.reduceSub,or_self,h3])
set_option maxHeartbeats 2000000 in
set_option maxRecDepth 100000 in
theorem Je (N:Nat) (ih: ∀(z0:Option Bool) (out:(List Int)) (i_:ak),(hgt i_≤500000000)→hgt i_<N→cZ En 168 [.own 0,.agg [.int .i64 i_.Kind,.int .i64 i_.N,.sl none 1 false (i_.B.map (V.int .u8)),.sl none 4 true (i_.L.map a7)]] [.own 5 1 false z0 (out.map (V.int .u8))] (.own 0) [.own 5 1 false none ((fO out i_).map (V.int .u8))] []) (z0:Option Bool) (out:(List Int)) (i_:ak) (hp0:hgt i_≤500000000) (hp_:hgt i_<N+1):cZ En 168 [.own 0,.agg [.int .i64 i_.Kind,.int .i64 i_.N,.sl none 1 false (i_.B.map (V.int .u8)),.sl none 4 true (i_.L.map a7)]] [.own 5 1 false z0 (out.map (V.int .u8))] (.own 0) [.own 5 1 false none ((oh out i_).map (V.int .u8))] []:=by
 generalize hM:oh out i_=r
 rw [oh.eq_1] at hM
 refine iZ al ar noJ Tryz.func168 rfl Tryz.ntmps168 (by kernel_rfl) rfl fun ks hw hwB=>au ?_
 refine spQ ?_
 replace hw:=nzQ hw
 try simp only [fd,wfB,decide_eq_true_eq,decide_eq_false_iff_not,Bool.and_eq_true,Bool.or_eq_true,Bool.not_eq_true',Bool.not_eq_false',beq_iff_eq,bne_iff_ne,beq_eq_false_iff_ne,bne_eq_false_iff_eq,ne_eq,Int.not_lt,Int.not_le,gt_iff_lt,ge_iff_le,List.length_map,wfL,wfV,and_true,true_and,dF,gn,go,gp,gu,eX,eD,List.length_append,List.length_cons,List.length_nil,List.length_replicate,aD,eY,eZ,fb,ce,eE,gw] at hwB
 refine aB (fun h1=> ?_) (fun h1=> ?_)
 ·rw [if_pos h1] at hM
  refine aa h1 ?_
  have nh1:=nzQ h1
  try have hr2:=mpQ nh1
  subst hM
  exact cV [0] (by simp only [go_sem,aE,aF,List.length_replicate,aD,Int.toNat_natCast,↓reduceIte,Nat.reduceEqDiff,Nat.reduceAdd,Int.reduceAdd,Nat.reduceMul,Nat.reduceLeDiff,Nat.reduceLT,Int.reduceLE,Int.reduceLT,Int.reduceNeg,Int.reduceToNat,mt,mtL,aL,aK,mtZ,and_self,eq_self,or_true,true_or,br,bm,bn,Int.reduceSub,or_self,h1]) (by decide) (by simp only [go_sem,aE,aF,List.length_replicate,aD,Int.toNat_natCast,↓reduceIte,Nat.reduceEqDiff,Nat.reduceAdd,Int.reduceAdd,Nat.reduceMul,Nat.reduceLeDiff,Nat.reduceLT,Int.reduceLE,Int.reduceLT,Int.reduceNeg,Int.reduceToNat,mt,mtL,aL,aK,mtZ,and_self,eq_self,or_true,true_or,br,bm,bn,Int.reduceSub,or_self,h1])
 ·rw [if_neg (ap h1)] at hM
  refine aa h1 ?_
  have nh1:=nzQ h1
  try have hr3:=mpQ nh1
  refine aP (by (first|exact omQ|(clear hM;first|(have h9:=fL i_;exact aq)))) ?_
  refine spQ ?_
  refine aB (fun h4=> ?_) (fun h4=> ?_)
  ·rw [if_pos h4] at hM
   refine aa h4 ?_
   have nh4:=nzQ h4
   try have hr5:=mpQ nh4
   replace hM:=ao hM;obtain ⟨x6,hx7,hM⟩:=hM
   have hcx6:=wK (some false) (out++([(ae .u8 i_.Kind)]:List Int)) (ae .u64 i_.N) 8 (by (exact pfQ)) (by (exact pfQ)) (by (exact pfQ))
   rw [←hx7] at hcx6
   refine dc [0] hcx6 (by decide) (by simp only [go_sem,aE,aF,List.length_replicate,aD,Int.toNat_natCast,↓reduceIte,Nat.reduceEqDiff,Nat.reduceAdd,Int.reduceAdd,Nat.reduceMul,Nat.reduceLeDiff,Nat.reduceLT,Int.reduceLE,Int.reduceLT,Int.reduceNeg,Int.reduceToNat,mt,mtL,aL,aK,mtZ,and_self,eq_self,or_true,true_or]) (by simp only [go_sem,aE,aF,List.length_replicate,aD,Int.toNat_natCast,↓reduceIte,Nat.reduceEqDiff,Nat.reduceAdd,Int.reduceAdd,Nat.reduceMul,Nat.reduceLeDiff,Nat.reduceLT,Int.reduceLE,Int.reduceLT,Int.reduceNeg,Int.reduceToNat,mt,mtL,aL,aK,mtZ,and_self,eq_self,or_true,true_or]) (fun hw8=> ?_)
   replace hw8:=nzQ hw8
   refine spQ ?_
   have hq9:=wv hx7
   replace hq9:=nzQ hq9
   subst hM
   exact cV [0] (by simp only [go_sem,aE,aF,List.length_replicate,aD,Int.toNat_natCast,↓reduceIte,Nat.reduceEqDiff,Nat.reduceAdd,Int.reduceAdd,Nat.reduceMul,Nat.reduceLeDiff,Nat.reduceLT,Int.reduceLE,Int.reduceLT,Int.reduceNeg,Int.reduceToNat,mt,mtL,aL,aK,mtZ,and_self,eq_self,or_true,true_or,br,bm,bn,Int.reduceSub,or_self,h1,h4]) (by decide) (by simp only [go_sem,aE,aF,List.length_replicate,aD,Int.toNat_natCast,↓reduceIte,Nat.reduceEqDiff,Nat.reduceAdd,Int.reduceAdd,Nat.reduceMul,Nat.reduceLeDiff,Nat.reduceLT,Int.reduceLE,Int.reduceLT,Int.reduceNeg,Int.reduceToNat,mt,mtL,aL,aK,mtZ,and_self,eq_self,or_true,true_or,br,bm,bn,Int.reduceSub,or_self,h1,h4])
  ·rw [if_neg (ap h4)] at hM
   refine aa h4 ?_
   have nh4:=nzQ h4
   try have hr10:=mpQ nh4
   refine aB (fun h11=> ?_) (fun h11=> ?_)
   ·rw [if_pos h11] at hM
    refine aa h11 ?_
    have nh11:=nzQ h11
    try have hr12:=mpQ nh11
    refine bN 55 8 [28,29,30,31,32,33,34,35] [] ([[],[],[1],[1,2],[1,2,3],[0,1,2,3,4],[],[6]]++[List.range 8,List.range 9]) [(5,0)] (by kernel_rfl) (by exact alQ) ?_
    refine spQ ?_
    replace hM:=ao hM;obtain ⟨x13,hx14,hM⟩:=hM
    have hcx13:=wK (some false) (out++([(ae .u8 i_.Kind)]:List Int)) (ae .u64 (i_.B.length:Int)) 4 (by (exact pfQ)) (by (exact pfQ)) (by (exact pfQ))
    rw [←hx14] at hcx13
    refine GH 0 hcx13 (by simp only [go_sem,aE,aF,List.length_replicate,aD,Int.toNat_natCast,↓reduceIte,Nat.reduceEqDiff,Nat.reduceAdd,Int.reduceAdd,Nat.reduceMul,Nat.reduceLeDiff,Nat.reduceLT,Int.reduceLE,Int.reduceLT,Int.reduceNeg,Int.reduceToNat,mt,mtL,aL,aK,mtZ,and_self,eq_self,or_true,true_or]) (by simp only [go_sem,aE,aF,List.length_replicate,aD,Int.toNat_natCast,↓reduceIte,Nat.reduceEqDiff,Nat.reduceAdd,Int.reduceAdd,Nat.reduceMul,Nat.reduceLeDiff,Nat.reduceLT,Int.reduceLE,Int.reduceLT,Int.reduceNeg,Int.reduceToNat,mt,mtL,aL,aK,mtZ,and_self,eq_self,or_true,true_or]) (by simp only [go_sem,aE,aF,List.length_replicate,aD,Int.toNat_natCast,↓reduceIte,Nat.reduceEqDiff,Nat.reduceAdd,Int.reduceAdd,Nat.reduceMul,Nat.reduceLeDiff,Nat.reduceLT,Int.reduceLE,Int.reduceLT,Int.reduceNeg,Int.reduceToNat,mt,mtL,aL,aK,mtZ,and_self,eq_self,or_true,true_or]) (zC fun _=>(by simp only [go_sem,aE,aF,List.length_replicate,aD,Int.toNat_natCast,↓reduceIte,Nat.reduceEqDiff,Nat.reduceAdd,Int.reduceAdd,Nat.reduceMul,Nat.reduceLeDiff,Nat.reduceLT,Int.reduceLE,Int.reduceLT,Int.reduceNeg,Int.reduceToNat,mt,mtL,aL,aK,mtZ,and_self,eq_self,or_true,true_or])) ?_
    refine spQ ?_
    have hq15:=wv hx14
    replace hq15:=nzQ hq15
    refine aP (by (first|exact omQ|(clear hM;first|(have h9:=fL i_;exact aq)))) ?_
    refine spQ ?_
    subst hM
    exact cV [8] (by simp only [go_sem,aE,aF,List.length_replicate,aD,Int.toNat_natCast,↓reduceIte,Nat.reduceEqDiff,Nat.reduceAdd,Int.reduceAdd,Nat.reduceMul,Nat.reduceLeDiff,Nat.reduceLT,Int.reduceLE,Int.reduceLT,Int.reduceNeg,Int.reduceToNat,mt,mtL,aL,aK,mtZ,and_self,eq_self,or_true,true_or,br,bm,bn,Int.reduceSub,or_self,h1,h4,h11]) (by decide) (by simp only [go_sem,aE,aF,List.length_replicate,aD,Int.toNat_natCast,↓reduceIte,Nat.reduceEqDiff,Nat.reduceAdd,Int.reduceAdd,Nat.reduceMul,Nat.reduceLeDiff,Nat.reduceLT,Int.reduceLE,Int.reduceLT,Int.reduceNeg,Int.reduceToNat,mt,mtL,aL,aK,mtZ,and_self,eq_self,or_true,true_or,br,bm,bn,Int.reduceSub,or_self,h1,h4,h11])
   ·rw [if_neg (ap h11)] at hM
    refine aa h11 ?_
    have nh11:=nzQ h11
    try have hr16:=mpQ nh11
    replace hM:=ao hM;obtain ⟨x17,hx18,hM⟩:=hM
    have hcx17:=wK (some false) (out++([(ae .u8 i_.Kind)]:List Int)) (ae .u64 (i_.L.length:Int)) 4 (by (exact pfQ)) (by (exact pfQ)) (by (exact pfQ))
    rw [←hx18] at hcx17
    refine dc [0] hcx17 (by decide) (by simp only [go_sem,aE,aF,List.length_replicate,aD,Int.toNat_natCast,↓reduceIte,Nat.reduceEqDiff,Nat.reduceAdd,Int.reduceAdd,Nat.reduceMul,Nat.reduceLeDiff,Nat.reduceLT,Int.reduceLE,Int.reduceLT,Int.reduceNeg,Int.reduceToNat,mt,mtL,aL,aK,mtZ,and_self,eq_self,or_true,true_or]) (by simp only [go_sem,aE,aF,List.length_replicate,aD,Int.toNat_natCast,↓reduceIte,Nat.reduceEqDiff,Nat.reduceAdd,Int.reduceAdd,Nat.reduceMul,Nat.reduceLeDiff,Nat.reduceLT,Int.reduceLE,Int.reduceLT,Int.reduceNeg,Int.reduceToNat,mt,mtL,aL,aK,mtZ,and_self,eq_self,or_true,true_or]) (fun hw19=> ?_)
    replace hw19:=nzQ hw19
    refine spQ ?_
    have hq20:=wv hx18
    replace hq20:=nzQ hq20
    replace hM:=aU hM;obtain ⟨f21,d21,hf21,hd21,hM⟩:=hM
    refine a6 (fun n S=> ∃p:Int×List Int,S=(⟨[(0,.own 0),(44,.sl none 4 true (i_.L.map a7)),(45,.int .i64 (i_.L.length:Int)),(46,.int .i64 p.1)],[(0,.own 5 1 false none (p.2.map (V.int .u8)))],3⟩:St)∧((0≤p.1)∧(p.1≤(i_.L.length:Int)))∧((i_.L.length:Int) - p.1).toNat<n∧am n f21 d21 p=r) (((i_.L.length:Int) - 0).toNat+1) _ sbQ sbQ ⟨(0,x17),rfl,⟨by (first|exact omQ|(clear hM;first|(have h9:=fL i_;exact aq))),by (first|exact omQ|(clear hM;first|(have h9:=fL i_;exact aq)))⟩,(Nat.lt_succ_self _),hM⟩ ?_
    clear hM
    rintro n21 S ⟨p21,rfl,hfa21,hm21,hM⟩
    replace hM:=aV hM (by omega) hf21;obtain ⟨ag21,hag21,hM⟩:=hM
    replace hfa21:=nzQ hfa21
    replace hm21:=nzQ hm21
    have ha21:ax .i64 p21.1 1=p21.1+1:=aZ (by (first|exact omQ|(clear hM;first|(have h9:=fL i_;exact aq)))) (by (first|exact omQ|(clear hM;first|(have h9:=fL i_;exact aq))))
    refine aa ha21 ?_
    refine aB (fun h22=> ?_) (fun h22=> ?_)
    ·rw [if_pos h22] at hM
     refine aa (And.intro ha21 h22) ?_
     have nh22:=nzQ h22
     try have hr23:=mpQ nh22
     refine aP (by (first|exact omQ|(clear hM;first|(have h9:=fL i_;exact aq)))) ?_
     have he24:=fun d=>bE (l:=i_.L) (f:=a7) (i:=p21.1) (by (first|exact omQ|(clear hM;first|(have h9:=fL i_;exact aq)))) d
     refine aa (And.intro ha21 he24) ?_
     replace hM:=ao hM;obtain ⟨x25,hx26,hM⟩:=hM
     have hcx25:=ih none (p21.2) (gt i_.L p21.1) (by (have h9:=qS (i:=i_) (ca (l:=i_.L) (i:=p21.1) (by omega));omega)) (by (have h9:=qS (i:=i_) (ca (l:=i_.L) (i:=p21.1) (by omega));omega))
     rw [←hx26] at hcx25
     refine dc [0] hcx25 (by decide) (by simp only [go_sem,aE,aF,List.length_replicate,aD,Int.toNat_natCast,↓reduceIte,Nat.reduceEqDiff,Nat.reduceAdd,Int.reduceAdd,Nat.reduceMul,Nat.reduceLeDiff,Nat.reduceLT,Int.reduceLE,Int.reduceLT,Int.reduceNeg,Int.reduceToNat,mt,mtL,aL,aK,mtZ,and_self,eq_self,or_true,true_or,ha21,he24]) (by simp only [go_sem,aE,aF,List.length_replicate,aD,Int.toNat_natCast,↓reduceIte,Nat.reduceEqDiff,Nat.reduceAdd,Int.reduceAdd,Nat.reduceMul,Nat.reduceLeDiff,Nat.reduceLT,Int.reduceLE,Int.reduceLT,Int.reduceNeg,Int.reduceToNat,mt,mtL,aL,aK,mtZ,and_self,eq_self,or_true,true_or,ha21,he24]) (fun hw27=> ?_)
     replace hw27:=nzQ hw27
     refine aa (And.intro ha21 he24) ?_
     refine bM (n21 - 1) _ (by omega) sbQ sbQ ⟨((p21.1+1),x25),rfl,⟨by (first|exact omQ|(clear hM;first|(have h9:=fL i_;exact aq))),by (first|exact omQ|(clear hM;first|(have h9:=fL i_;exact aq)))⟩,by (first|exact omQ|(clear hM;first|(have h9:=fL i_;exact aq))),bI hM hag21⟩
    ·rw [if_neg (ap h22)] at hM
     refine aa (And.intro ha21 h22) ?_
     have nh22:=nzQ h22
     try have hr28:=mpQ nh22
     subst hM
     exact cV [0] (by simp only [go_sem,aE,aF,List.length_replicate,aD,Int.toNat_natCast,↓reduceIte,Nat.reduceEqDiff,Nat.reduceAdd,Int.reduceAdd,Nat.reduceMul,Nat.reduceLeDiff,Nat.reduceLT,Int.reduceLE,Int.reduceLT,Int.reduceNeg,Int.reduceToNat,mt,mtL,aL,aK,mtZ,and_self,eq_self,or_true,true_or,br,ha21,bm,bn,Int.reduceSub,or_self,h1,h4,h11,h22]) (by decide) (by simp only [go_sem,aE,aF,List.length_replicate,aD,Int.toNat_natCast,↓reduceIte,Nat.reduceEqDiff,Nat.reduceAdd,Int.reduceAdd,Nat.reduceMul,Nat.reduceLeDiff,Nat.reduceLT,Int.reduceLE,Int.reduceLT,Int.reduceNeg,Int.reduceToNat,mt,mtL,aL,aK,mtZ,and_self,eq_self,or_true,true_or,br,ha21,bm,bn,Int.reduceSub,or_self,h1,h4,h11,h22])
theorem Jf: ∀(N:Nat) (z0:Option Bool) (out:(List Int)) (i_:ak),(hgt i_≤500000000)→hgt i_<N→cZ En 168 [.own 0,.agg [.int .i64 i_.Kind,.int .i64 i_.N,.sl none 1 false (i_.B.map (V.int .u8)),.sl none 4 true (i_.L.map a7)]] [.own 5 1 false z0 (out.map (V.int .u8))] (.own 0) [.own 5 1 false none ((fO out i_).map (V.int .u8))] []:=by
 intro N
 induction N with
 | zero=>intro z0 out i_ h0 h;exact absurd h (Nat.not_lt_zero _)
 | succ N ih=>
  intro z0 out i_ h0 h
  have h9:=Je N ih z0 out i_ h0 h
  rw [Ia] at h9
  exact h9
theorem Jg (z0:Option Bool) (out:(List Int)) (i_:ak) (hp0:hgt i_≤500000000):cZ En 168 [.own 0,.agg [.int .i64 i_.Kind,.int .i64 i_.N,.sl none 1 false (i_.B.map (V.int .u8)),.sl none 4 true (i_.L.map a7)]] [.own 5 1 false z0 (out.map (V.int .u8))] (.own 0) [.own 5 1 false none ((fO out i_).map (V.int .u8))] []:=
 Jf (hgt i_+1) z0 out i_ hp0 (Nat.lt_succ_self _)
set_option maxHeartbeats 2000000 in
set_option maxRecDepth 100000 in
theorem km (i_:ak) (hp0:hgt i_≤500000000):CM En (fP i_) 104 [.agg [.int .i64 i_.Kind,.int .i64 i_.N,.sl none 1 false (i_.B.map (V.int .u8)),.sl none 4 true (i_.L.map a7)]] (fun y=> .tup [.sl none 1 false (y.1.map (V.int .u8)),.int .i64 y.2]) (fun _=> []):=by
 refine cmQ fun r hM=> ?_
 rw [fP.eq_1] at hM
 refine av al ar noJ Tryz.func104 rfl Tryz.ntmps104 (by kernel_rfl) fun hw=>au ?_
 refine spQ ?_
 replace hw:=nzQ hw
 replace hM:=ao hM;obtain ⟨x1,hx2,hM⟩:=hM
 have hcx1:=cmU hx2
 refine aH hcx1 clQ clQ (fun hw3=> ?_)
 replace hw3:=nzQ hw3
 refine spQ ?_
 refine aB (fun h4=> ?_) (fun h4=> ?_)
 ·rw [if_pos h4] at hM
  refine aa h4 ?_
  subst hM
  exact aw (az h4)
 ·rw [if_neg (ap h4)] at hM
  refine aa h4 ?_
  have nh4:=nzQ h4
  try have hr6:=mpQ nh4
  replace hM:=ao hM;obtain ⟨x7,hx8,hM⟩:=hM
  have hcx7:=GO (pre:=[]) (post:=[_]) (Jg (some true) ([]:List Int) i_ (by (exact pfQ))) (by decide)
  rw [←hx8] at hcx7
  simp only [List.nil_append,List.cons_append] at hcx7
  refine Gv hcx7 clQ (fun hw9=> ?_)
  replace hw9:=nzQ hw9
  refine spQ ?_
  have hF:=h4
  exact auQ
set_option maxHeartbeats 2000000 in
set_option maxRecDepth 100000 in
instance M7 (v:bO):CM En (mL v) 35 [(cA v)] (fun y=> .tup [.sl none 1 false (y.1.map (V.int .u8)),.int .i64 y.2]) (fun _=> []):=by
 refine cmQ fun r hM=> ?_
 rw [mL.eq_1] at hM
 refine av al ar [3] Tryz.func35 rfl Tryz.ntmps35 (by kernel_rfl) fun hw=>au ?_
 refine spQ ?_
 replace hw:=nzQ hw
 refine gy ?_
 try refine spQ ?_
 replace hM:=ao hM;obtain ⟨x1,hx2,hM⟩:=hM
 have hcx1:=cmU hx2
 refine aH hcx1 clQ clQ (fun hw3=> ?_)
 replace hw3:=nzQ hw3
 refine spQ ?_
 refine aB (fun h4=> ?_) (fun h4=> ?_)
 ·rw [if_pos h4] at hM
  refine aa h4 ?_
  subst hM
  exact aw (az h4)
 ·rw [if_neg (ap h4)] at hM
  refine aa h4 ?_
  have nh4:=nzQ h4
  try have hr6:=mpQ nh4
  refine g8 _ (⟨[(1,.ptr 0 0)],[(0,.pvar 35 true ((cA v)))],1⟩:St) (g7 (S:=⟨_,_,_⟩) 0 (n:=35) (g:=true) (d:=(cA v)) clQ clQ) sbQ sbQ ?_
  try refine spQ ?_
  refine bN 24 17 [7,8,9,10,11,12,13,14,15,16,17,18,19,20,21,22,23] [] ([[],[0],[0,1],[],[3],[3,4],[],[6],[6,7],[],[9],[9,10],[0,1,2,3,4,5,6,7,8,9,10,11],[0,1,2,3,4,5,6,7,8,9,10,11,12],[0,1,2,3,4,5,6,7,8,9,10,11,12,13],[0,1,2,3,4,5,6,7,8,9,10,11,12,13,14],[0,1,2,3,4,5,6,7,8,9,10,11,12,13,14]]++[List.range 17,List.range 18]) [(12,13)] (by kernel_rfl) (by exact alQ) ?_
  refine spQ ?_
  replace hM:=ao hM;obtain ⟨x7,hx8,hM⟩:=hM
  have hcx7:=cmU hx8
  refine bp hcx7 clQ clQ ?_
  refine spQ ?_
  have hq9:=wy hx8
  replace hq9:=nzQ hq9
  replace hM:=ao hM;obtain ⟨x10,hx11,hM⟩:=hM
  have hcx10:=cmU hx11
  refine bp hcx10 clQ clQ ?_
  refine spQ ?_
  have hq12:=wy hx11
  replace hq12:=nzQ hq12
  replace hM:=ao hM;obtain ⟨x13,hx14,hM⟩:=hM
  have hcx13:=cmU hx14
  refine bp hcx13 clQ clQ ?_
  refine spQ ?_
  have hq15:=wy hx14
  replace hq15:=nzQ hq15
  replace hM:=ao hM;obtain ⟨x16,hx17,hM⟩:=hM
  have hcx16:=cmH hx17 (km ({Kind:=3,N:=0,B:=([]:List Int),L:=([({Kind:=2,N:=0,B:=(bc 32 v.Payee),L:=([]:List ak)}:ak),x7,x10,x13]:List ak)}:ak) (by (simp only [hgt,bK,ce,List.length_nil];omega)))
  refine bp hcx16 clQ clQ ?_
  refine spQ ?_
  subst hM
  exact aw (az h4)
set_option maxHeartbeats 2000000 in
set_option maxRecDepth 100000 in
theorem lB (r_:aN) (e_:Int):cZ En 170 [.ptr 0 0,.int .i64 e_] [.var 2 true (.agg [.sl none 1 false (r_.b.map (V.int .u8)),.int .i64 r_.e])] (.tup []) [.var 2 true (.agg [.sl none 1 false ((eP r_ e_).b.map (V.int .u8)),.int .i64 (eP r_ e_).e])] []:=by
 generalize hM:eP r_ e_=r
 rw [eP.eq_1] at hM
 refine iZ al ar noJ Tryz.func170 rfl Tryz.ntmps170 (by kernel_rfl) rfl fun ks hw hwB=>au ?_
 refine spQ ?_
 replace hw:=nzQ hw
 try simp only [fd,wfB,decide_eq_true_eq,decide_eq_false_iff_not,Bool.and_eq_true,Bool.or_eq_true,Bool.not_eq_true',Bool.not_eq_false',beq_iff_eq,bne_iff_ne,beq_eq_false_iff_ne,bne_eq_false_iff_eq,ne_eq,Int.not_lt,Int.not_le,gt_iff_lt,ge_iff_le,List.length_map,wfL,wfV,and_true,true_and,dF,gn,go,gp,gu,eX,eD,List.length_append,List.length_cons,List.length_nil,List.length_replicate,aD,eY,eZ,fb,ce,eE,gw] at hwB
 refine aB (fun h1=> ?_) (fun h1=> ?_)
 ·rw [if_pos h1] at hM
  refine aa h1 ?_
  have nh1:=nzQ h1
  try have hr2:=mpQ nh1
  subst hM
  exact cV [0] (by simp only [go_sem,aE,aF,List.length_replicate,aD,Int.toNat_natCast,↓reduceIte,Nat.reduceEqDiff,Nat.reduceAdd,Int.reduceAdd,Nat.reduceMul,Nat.reduceLeDiff,Nat.reduceLT,Int.reduceLE,Int.reduceLT,Int.reduceNeg,Int.reduceToNat,mt,mtL,aL,aK,mtZ,and_self,eq_self,or_true,true_or,br,bm,bn,Int.reduceSub,or_self,h1]) (by decide) (by simp only [go_sem,aE,aF,List.length_replicate,aD,Int.toNat_natCast,↓reduceIte,Nat.reduceEqDiff,Nat.reduceAdd,Int.reduceAdd,Nat.reduceMul,Nat.reduceLeDiff,Nat.reduceLT,Int.reduceLE,Int.reduceLT,Int.reduceNeg,Int.reduceToNat,mt,mtL,aL,aK,mtZ,and_self,eq_self,or_true,true_or,br,bm,bn,Int.reduceSub,or_self,h1])
 ·rw [if_neg (ap h1)] at hM
  refine aa h1 ?_
  have nh1:=nzQ h1
  try have hr3:=mpQ nh1
  subst hM
  exact cV [0] (by simp only [go_sem,aE,aF,List.length_replicate,aD,Int.toNat_natCast,↓reduceIte,Nat.reduceEqDiff,Nat.reduceAdd,Int.reduceAdd,Nat.reduceMul,Nat.reduceLeDiff,Nat.reduceLT,Int.reduceLE,Int.reduceLT,Int.reduceNeg,Int.reduceToNat,mt,mtL,aL,aK,mtZ,and_self,eq_self,or_true,true_or,br,bm,bn,Int.reduceSub,or_self,h1]) (by decide) (by simp only [go_sem,aE,aF,List.length_replicate,aD,Int.toNat_natCast,↓reduceIte,Nat.reduceEqDiff,Nat.reduceAdd,Int.reduceAdd,Nat.reduceMul,Nat.reduceLeDiff,Nat.reduceLT,Int.reduceLE,Int.reduceLT,Int.reduceNeg,Int.reduceToNat,mt,mtL,aL,aK,mtZ,and_self,eq_self,or_true,true_or,br,bm,bn,Int.reduceSub,or_self,h1])
set_option maxHeartbeats 2000000 in
set_option maxRecDepth 100000 in
theorem AV (r_:aN) (n_:Int) (hp0:0≤n_):cZ En 228 [.ptr 0 0,.int .i64 n_] [.var 2 true (.agg [.sl none 1 false (r_.b.map (V.int .u8)),.int .i64 r_.e])] (.sl none 1 false ((io r_ n_).1.map (V.int .u8))) [.var 2 true (.agg [.sl none 1 false ((io r_ n_).2.b.map (V.int .u8)),.int .i64 (io r_ n_).2.e])] []:=by
 generalize hM:io r_ n_=r
 rw [io.eq_1] at hM
 refine iZ al ar noJ Tryz.func228 rfl Tryz.ntmps228 (by kernel_rfl) rfl fun ks hw hwB=>au ?_
 refine spQ ?_
 replace hw:=nzQ hw
 try simp only [fd,wfB,decide_eq_true_eq,decide_eq_false_iff_not,Bool.and_eq_true,Bool.or_eq_true,Bool.not_eq_true',Bool.not_eq_false',beq_iff_eq,bne_iff_ne,beq_eq_false_iff_ne,bne_eq_false_iff_eq,ne_eq,Int.not_lt,Int.not_le,gt_iff_lt,ge_iff_le,List.length_map,wfL,wfV,and_true,true_and,dF,gn,go,gp,gu,eX,eD,List.length_append,List.length_cons,List.length_nil,List.length_replicate,aD,eY,eZ,fb,ce,eE,gw] at hwB
 refine cr (fun h1=> ?_) (fun h1=> ?_)
 ·rw [if_neg (ap h1)] at hM
  refine aa h1 ?_
  have nh1:=nzQ h1
  try have hr2:=mpQ nh1
  refine aB (fun h3=> ?_) (fun h3=> ?_)
  ·rw [if_pos h3] at hM
   refine aa h3 ?_
   have nh3:=nzQ h3
   try have hr4:=mpQ nh3
   replace hM:=ao hM;obtain ⟨x5,hx6,hM⟩:=hM
   have hcx5:=lB r_ 4
   rw [←hx6] at hcx5
   refine dc [0] hcx5 (by decide) (by simp only [go_sem,aE,aF,List.length_replicate,aD,Int.toNat_natCast,↓reduceIte,Nat.reduceEqDiff,Nat.reduceAdd,Int.reduceAdd,Nat.reduceMul,Nat.reduceLeDiff,Nat.reduceLT,Int.reduceLE,Int.reduceLT,Int.reduceNeg,Int.reduceToNat,mt,mtL,aL,aK,mtZ,and_self,eq_self,or_true,true_or]) (by simp only [go_sem,aE,aF,List.length_replicate,aD,Int.toNat_natCast,↓reduceIte,Nat.reduceEqDiff,Nat.reduceAdd,Int.reduceAdd,Nat.reduceMul,Nat.reduceLeDiff,Nat.reduceLT,Int.reduceLE,Int.reduceLT,Int.reduceNeg,Int.reduceToNat,mt,mtL,aL,aK,mtZ,and_self,eq_self,or_true,true_or]) (fun hw7=> ?_)
   replace hw7:=nzQ hw7
   refine spQ ?_
   subst hM
   exact cV [0] (by simp only [go_sem,aE,aF,List.length_replicate,aD,Int.toNat_natCast,↓reduceIte,Nat.reduceEqDiff,Nat.reduceAdd,Int.reduceAdd,Nat.reduceMul,Nat.reduceLeDiff,Nat.reduceLT,Int.reduceLE,Int.reduceLT,Int.reduceNeg,Int.reduceToNat,mt,mtL,aL,aK,mtZ,and_self,eq_self,or_true,true_or,br,bm,bn,Int.reduceSub,or_self,h1,h3]) (by decide) (by simp only [go_sem,aE,aF,List.length_replicate,aD,Int.toNat_natCast,↓reduceIte,Nat.reduceEqDiff,Nat.reduceAdd,Int.reduceAdd,Nat.reduceMul,Nat.reduceLeDiff,Nat.reduceLT,Int.reduceLE,Int.reduceLT,Int.reduceNeg,Int.reduceToNat,mt,mtL,aL,aK,mtZ,and_self,eq_self,or_true,true_or,br,bm,bn,Int.reduceSub,or_self,h1,h3])
  ·rw [if_neg (ap h3)] at hM
   refine aa h3 ?_
   have nh3:=nzQ h3
   try have hr8:=mpQ nh3
   refine aP omQ ?_
   refine spQ ?_
   refine aP omQ ?_
   refine spQ ?_
   subst hM
   exact cV [0] (by simp only [go_sem,aE,aF,List.length_replicate,aD,Int.toNat_natCast,↓reduceIte,Nat.reduceEqDiff,Nat.reduceAdd,Int.reduceAdd,Nat.reduceMul,Nat.reduceLeDiff,Nat.reduceLT,Int.reduceLE,Int.reduceLT,Int.reduceNeg,Int.reduceToNat,mt,mtL,aL,aK,mtZ,and_self,eq_self,or_true,true_or,br,bm,bn,Int.reduceSub,or_self,h1,h3]) (by decide) (by simp only [go_sem,aE,aF,List.length_replicate,aD,Int.toNat_natCast,↓reduceIte,Nat.reduceEqDiff,Nat.reduceAdd,Int.reduceAdd,Nat.reduceMul,Nat.reduceLeDiff,Nat.reduceLT,Int.reduceLE,Int.reduceLT,Int.reduceNeg,Int.reduceToNat,mt,mtL,aL,aK,mtZ,and_self,eq_self,or_true,true_or,br,bm,bn,Int.reduceSub,or_self,h1,h3])
 ·rw [if_pos h1] at hM
  refine aa h1 ?_
  have nh1:=nzQ h1
  try have hr9:=mpQ nh1
  replace hM:=ao hM;obtain ⟨x10,hx11,hM⟩:=hM
  have hcx10:=lB r_ 4
  rw [←hx11] at hcx10
  refine dc [0] hcx10 (by decide) (by simp only [go_sem,aE,aF,List.length_replicate,aD,Int.toNat_natCast,↓reduceIte,Nat.reduceEqDiff,Nat.reduceAdd,Int.reduceAdd,Nat.reduceMul,Nat.reduceLeDiff,Nat.reduceLT,Int.reduceLE,Int.reduceLT,Int.reduceNeg,Int.reduceToNat,mt,mtL,aL,aK,mtZ,and_self,eq_self,or_true,true_or]) (by simp only [go_sem,aE,aF,List.length_replicate,aD,Int.toNat_natCast,↓reduceIte,Nat.reduceEqDiff,Nat.reduceAdd,Int.reduceAdd,Nat.reduceMul,Nat.reduceLeDiff,Nat.reduceLT,Int.reduceLE,Int.reduceLT,Int.reduceNeg,Int.reduceToNat,mt,mtL,aL,aK,mtZ,and_self,eq_self,or_true,true_or]) (fun hw12=> ?_)
  replace hw12:=nzQ hw12
  refine spQ ?_
  subst hM
  exact cV [0] (by simp only [go_sem,aE,aF,List.length_replicate,aD,Int.toNat_natCast,↓reduceIte,Nat.reduceEqDiff,Nat.reduceAdd,Int.reduceAdd,Nat.reduceMul,Nat.reduceLeDiff,Nat.reduceLT,Int.reduceLE,Int.reduceLT,Int.reduceNeg,Int.reduceToNat,mt,mtL,aL,aK,mtZ,and_self,eq_self,or_true,true_or,br,bm,bn,Int.reduceSub,or_self,h1]) (by decide) (by simp only [go_sem,aE,aF,List.length_replicate,aD,Int.toNat_natCast,↓reduceIte,Nat.reduceEqDiff,Nat.reduceAdd,Int.reduceAdd,Nat.reduceMul,Nat.reduceLeDiff,Nat.reduceLT,Int.reduceLE,Int.reduceLT,Int.reduceNeg,Int.reduceToNat,mt,mtL,aL,aK,mtZ,and_self,eq_self,or_true,true_or,br,bm,bn,Int.reduceSub,or_self,h1])
set_option maxHeartbeats 2000000 in
set_option maxRecDepth 100000 in
theorem rS (r_:aN) (size:Int) (hp0:0≤size):cZ En 226 [.ptr 0 0,.int .i64 size] [.var 2 true (.agg [.sl none 1 false (r_.b.map (V.int .u8)),.int .i64 r_.e])] (.int .u64 (ff r_ size).1) [.var 2 true (.agg [.sl none 1 false ((ff r_ size).2.b.map (V.int .u8)),.int .i64 (ff r_ size).2.e])] []:=by
 generalize hM:ff r_ size=r
 rw [ff.eq_1] at hM
 refine iZ al ar noJ Tryz.func226 rfl Tryz.ntmps226 (by kernel_rfl) rfl fun ks hw hwB=>au ?_
 refine spQ ?_
 replace hw:=nzQ hw
 try simp only [fd,wfB,decide_eq_true_eq,decide_eq_false_iff_not,Bool.and_eq_true,Bool.or_eq_true,Bool.not_eq_true',Bool.not_eq_false',beq_iff_eq,bne_iff_ne,beq_eq_false_iff_ne,bne_eq_false_iff_eq,ne_eq,Int.not_lt,Int.not_le,gt_iff_lt,ge_iff_le,List.length_map,wfL,wfV,and_true,true_and,dF,gn,go,gp,gu,eX,eD,List.length_append,List.length_cons,List.length_nil,List.length_replicate,aD,eY,eZ,fb,ce,eE,gw] at hwB
 replace hM:=ao hM;obtain ⟨x1,hx2,hM⟩:=hM
 have hcx1:=AV r_ size (by (exact pfQ))
 rw [←hx2] at hcx1
 refine dc [0] hcx1 (by decide) (by simp only [go_sem,aE,aF,List.length_replicate,aD,Int.toNat_natCast,↓reduceIte,Nat.reduceEqDiff,Nat.reduceAdd,Int.reduceAdd,Nat.reduceMul,Nat.reduceLeDiff,Nat.reduceLT,Int.reduceLE,Int.reduceLT,Int.reduceNeg,Int.reduceToNat,mt,mtL,aL,aK,mtZ,and_self,eq_self,or_true,true_or]) (by simp only [go_sem,aE,aF,List.length_replicate,aD,Int.toNat_natCast,↓reduceIte,Nat.reduceEqDiff,Nat.reduceAdd,Int.reduceAdd,Nat.reduceMul,Nat.reduceLeDiff,Nat.reduceLT,Int.reduceLE,Int.reduceLT,Int.reduceNeg,Int.reduceToNat,mt,mtL,aL,aK,mtZ,and_self,eq_self,or_true,true_or]) (fun hw3=> ?_)
 replace hw3:=nzQ hw3
 refine spQ ?_
 replace hM:=aU hM;obtain ⟨f4,d4,hf4,hd4,hM⟩:=hM
 refine a6 (fun n S=> ∃p:Int×Int,S=(⟨[(0,.ptr 0 0),(5,.int .u64 p.1),(10,.sl none 1 false (x1.1.map (V.int .u8))),(11,.int .i64 (x1.1.length:Int)),(12,.int .i64 p.2)],[(0,.lent (ks 0) 2 true (.agg [.sl none 1 false (x1.2.b.map (V.int .u8)),.int .i64 x1.2.e]))],1⟩:St)∧((0≤p.2)∧(p.2≤(x1.1.length:Int)))∧((x1.1.length:Int) - p.2).toNat<n∧am n f4 d4 p=r) (((x1.1.length:Int) - 0).toNat+1) _ sbQ sbQ ⟨(0,0),rfl,⟨omQ,omQ⟩,(Nat.lt_succ_self _),hM⟩ ?_
 clear hM
 rintro n4 S ⟨p4,rfl,hfa4,hm4,hM⟩
 replace hM:=aV hM (by omega) hf4;obtain ⟨ag4,hag4,hM⟩:=hM
 replace hfa4:=nzQ hfa4
 replace hm4:=nzQ hm4
 have ha4:ax .i64 p4.2 1=p4.2+1:=aZ omQ omQ
 refine aa ha4 ?_
 refine aB (fun h5=> ?_) (fun h5=> ?_)
 ·rw [if_pos h5] at hM
  refine aa (And.intro ha4 h5) ?_
  have nh5:=nzQ h5
  try have hr6:=mpQ nh5
  have hF:=(And.intro ha4 h5)
  exact auQ
 ·rw [if_neg (ap h5)] at hM
  refine aa (And.intro ha4 h5) ?_
  have nh5:=nzQ h5
  try have hr8:=mpQ nh5
  subst hM
  exact cV [0] (by simp only [go_sem,aE,aF,List.length_replicate,aD,Int.toNat_natCast,↓reduceIte,Nat.reduceEqDiff,Nat.reduceAdd,Int.reduceAdd,Nat.reduceMul,Nat.reduceLeDiff,Nat.reduceLT,Int.reduceLE,Int.reduceLT,Int.reduceNeg,Int.reduceToNat,mt,mtL,aL,aK,mtZ,and_self,eq_self,or_true,true_or,br,ha4,bm,bn,Int.reduceSub,or_self,h5]) (by decide) (by simp only [go_sem,aE,aF,List.length_replicate,aD,Int.toNat_natCast,↓reduceIte,Nat.reduceEqDiff,Nat.reduceAdd,Int.reduceAdd,Nat.reduceMul,Nat.reduceLeDiff,Nat.reduceLT,Int.reduceLE,Int.reduceLT,Int.reduceNeg,Int.reduceToNat,mt,mtL,aL,aK,mtZ,and_self,eq_self,or_true,true_or,br,ha4,bm,bn,Int.reduceSub,or_self,h5])
set_option maxRecDepth 100000 in
theorem wL (z0:Option Bool) (s:List Int):bk En 227 [.sl z0 1 false (s.map (V.int .u8))] (.own 0) [.own 5 1 false none ((mM s).map (V.int .u8))]:=by
 show bk En 227 [.sl z0 1 false (s.map (V.int .u8))] (.own 0) [.own 5 1 false none (s.map (V.int .u8))]
 refine uB (pre:=[]) (post:=[]) (fun hl=> ?_) ?_ z0
 ·have hl:s=[]:=by cases s with|nil=>rfl|cons a s=>cases hl
  subst hl
  refine av al ar noJ Tryz.func227 rfl Tryz.ntmps227 (by kernel_rfl) fun hw=>au ?_
  simp only [go_sem,aE,aF,List.length_replicate,aD,Int.toNat_natCast,↓reduceIte,Nat.reduceEqDiff,Nat.reduceAdd,Int.reduceAdd,Nat.reduceMul,Nat.reduceLeDiff,Nat.reduceLT,Int.reduceLE,Int.reduceLT,Int.reduceNeg,Int.reduceToNat,List.nil_append]
  exact uA (by decide)
 ·refine av al ar noJ Tryz.func227 rfl Tryz.ntmps227 (by kernel_rfl) fun hw=>au ?_
  simp only [go_sem,aE,aF,List.length_replicate,aD,Int.toNat_natCast,↓reduceIte,Nat.reduceEqDiff,Nat.reduceAdd,Int.reduceAdd,Nat.reduceMul,Nat.reduceLeDiff,Nat.reduceLT,Int.reduceLE,Int.reduceLT,Int.reduceNeg,Int.reduceToNat,List.nil_append]
  have hn:s.length≤1073741824:=by have h:=hw;simp only [wfL,wfV,List.nil_append,dF,List.length_map] at h;exact h.1.1
  refine aP (by first|omega|(simp only [List.length_map,List.length_nil,List.nil_append];omega)) ?_
  refine spQ ?_
  refine uz 0 rfl clQ
set_option maxHeartbeats 2000000 in
set_option maxRecDepth 100000 in
theorem Jh (N:Nat) (ih: ∀(r_:aN) (depth:Int),(0≤depth)→(isB r_.b)→depth.toNat<N→cZ En 169 [.ptr 0 0,.int .i64 depth] [.var 2 true (.agg [.sl none 1 false (r_.b.map (V.int .u8)),.int .i64 r_.e])] (.agg [.int .i64 (cE r_ depth).1.Kind,.int .i64 (cE r_ depth).1.N,.sl none 1 false ((cE r_ depth).1.B.map (V.int .u8)),.sl none 4 true ((cE r_ depth).1.L.map a7)]) [.var 2 true (.agg [.sl none 1 false ((cE r_ depth).2.b.map (V.int .u8)),.int .i64 (cE r_ depth).2.e])] []) (r_:aN) (depth:Int) (hp0:0≤depth) (hp1:isB r_.b) (hp_:depth.toNat<N+1):cZ En 169 [.ptr 0 0,.int .i64 depth] [.var 2 true (.agg [.sl none 1 false (r_.b.map (V.int .u8)),.int .i64 r_.e])] (.agg [.int .i64 (ip r_ depth).1.Kind,.int .i64 (ip r_ depth).1.N,.sl none 1 false ((ip r_ depth).1.B.map (V.int .u8)),.sl none 4 true ((ip r_ depth).1.L.map a7)]) [.var 2 true (.agg [.sl none 1 false ((ip r_ depth).2.b.map (V.int .u8)),.int .i64 (ip r_ depth).2.e])] []:=by
 generalize hM:ip r_ depth=r
 rw [ip.eq_1] at hM
 refine iZ al ar [5,15] Tryz.func169 rfl Tryz.ntmps169 (by kernel_rfl) rfl fun ks hw hwB=>au ?_
 refine spQ ?_
 replace hw:=nzQ hw
 try simp only [fd,wfB,decide_eq_true_eq,decide_eq_false_iff_not,Bool.and_eq_true,Bool.or_eq_true,Bool.not_eq_true',Bool.not_eq_false',beq_iff_eq,bne_iff_ne,beq_eq_false_iff_ne,bne_eq_false_iff_eq,ne_eq,Int.not_lt,Int.not_le,gt_iff_lt,ge_iff_le,List.length_map,wfL,wfV,and_true,true_and,dF,gn,go,gp,gu,eX,eD,List.length_append,List.length_cons,List.length_nil,List.length_replicate,aD,eY,eZ,fb,ce,eE,gw] at hwB
 replace hM:=ao hM;obtain ⟨x1,hx2,hM⟩:=hM
 have hcx1:=rS r_ 1 (by (first|assumption|omega))
 rw [←hx2] at hcx1
 refine dc [0] hcx1 (by decide) (by simp only [go_sem,aE,aF,List.length_replicate,aD,Int.toNat_natCast,↓reduceIte,Nat.reduceEqDiff,Nat.reduceAdd,Int.reduceAdd,Nat.reduceMul,Nat.reduceLeDiff,Nat.reduceLT,Int.reduceLE,Int.reduceLT,Int.reduceNeg,Int.reduceToNat,mt,mtL,aL,aK,mtZ,and_self,eq_self,or_true,true_or]) (by simp only [go_sem,aE,aF,List.length_replicate,aD,Int.toNat_natCast,↓reduceIte,Nat.reduceEqDiff,Nat.reduceAdd,Int.reduceAdd,Nat.reduceMul,Nat.reduceLeDiff,Nat.reduceLT,Int.reduceLE,Int.reduceLT,Int.reduceNeg,Int.reduceToNat,mt,mtL,aL,aK,mtZ,and_self,eq_self,or_true,true_or]) (fun hw3=> ?_)
 replace hw3:=nzQ hw3
 refine spQ ?_
 have hq4:=rH hx2 (by assumption)
 replace hq4:=nzQ hq4
 have hq5:=rI hx2 (by assumption)
 replace hq5:=nzQ hq5
 replace hM:=nN hM;obtain ⟨j6,hj6,hM⟩:=hM
 refine nG (fun S=> ∃p:Unit,S=(⟨[(0,.ptr 0 0),(1,.int .i64 depth),(4,.ptr 1 0),(5,.int .i64 (ae .i64 x1.1))],[(0,.lent (ks 0) 2 true (.agg [.sl none 1 false (x1.2.b.map (V.int .u8)),.int .i64 x1.2.e])),(1,.var 4 true (.agg [.int .i64 0,.int .i64 0,.sl (some true) 1 false [],.sl (some true) 4 true []]))],2⟩:St)∧(((ae .i64 x1.1)≠3∨depth≠0))∧j6 p=r) ?_ (fun hcut6=> ?_)
 ·clear hM
  rintro S ⟨p6,rfl,hfa6,hM⟩
  replace hfa6:=nzQ hfa6
  replace hM:=mp hM hj6
  try refine spQ ?_
  refine aB (fun h7=> ?_) (fun h7=> ?_)
  ·rw [if_pos h7] at hM
   refine aa h7 ?_
   have nh7:=nzQ h7
   try have hr8:=mpQ nh7
   replace hM:=ao hM;obtain ⟨x9,hx10,hM⟩:=hM
   have hcx9:=rS (x1.2) 8 (by (first|assumption|omega))
   rw [←hx10] at hcx9
   refine dc [0] hcx9 (by decide) (by simp only [go_sem,aE,aF,List.length_replicate,aD,Int.toNat_natCast,↓reduceIte,Nat.reduceEqDiff,Nat.reduceAdd,Int.reduceAdd,Nat.reduceMul,Nat.reduceLeDiff,Nat.reduceLT,Int.reduceLE,Int.reduceLT,Int.reduceNeg,Int.reduceToNat,mt,mtL,aL,aK,mtZ,and_self,eq_self,or_true,true_or]) (by simp only [go_sem,aE,aF,List.length_replicate,aD,Int.toNat_natCast,↓reduceIte,Nat.reduceEqDiff,Nat.reduceAdd,Int.reduceAdd,Nat.reduceMul,Nat.reduceLeDiff,Nat.reduceLT,Int.reduceLE,Int.reduceLT,Int.reduceNeg,Int.reduceToNat,mt,mtL,aL,aK,mtZ,and_self,eq_self,or_true,true_or]) (fun hw11=> ?_)
   replace hw11:=nzQ hw11
   refine spQ ?_
   have hq12:=rH hx10 (by assumption)
   replace hq12:=nzQ hq12
   have hq13:=rI hx10 (by assumption)
   replace hq13:=nzQ hq13
   subst hM
   exact cV [0] (by simp only [go_sem,aE,aF,List.length_replicate,aD,Int.toNat_natCast,↓reduceIte,Nat.reduceEqDiff,Nat.reduceAdd,Int.reduceAdd,Nat.reduceMul,Nat.reduceLeDiff,Nat.reduceLT,Int.reduceLE,Int.reduceLT,Int.reduceNeg,Int.reduceToNat,mt,mtL,aL,aK,mtZ,and_self,eq_self,or_true,true_or,br,bm,bn,Int.reduceSub,or_self,h7]) (by decide) (by simp only [go_sem,aE,aF,List.length_replicate,aD,Int.toNat_natCast,↓reduceIte,Nat.reduceEqDiff,Nat.reduceAdd,Int.reduceAdd,Nat.reduceMul,Nat.reduceLeDiff,Nat.reduceLT,Int.reduceLE,Int.reduceLT,Int.reduceNeg,Int.reduceToNat,mt,mtL,aL,aK,mtZ,and_self,eq_self,or_true,true_or,br,bm,bn,Int.reduceSub,or_self,h7])
  ·rw [if_neg (ap h7)] at hM
   refine aa h7 ?_
   have nh7:=nzQ h7
   try have hr14:=mpQ nh7
   refine aB (fun h15=> ?_) (fun h15=> ?_)
   ·rw [if_pos h15] at hM
    refine aa h15 ?_
    have nh15:=nzQ h15
    try have hr16:=mpQ nh15
    replace hM:=ao hM;obtain ⟨x17,hx18,hM⟩:=hM
    have hcx17:=rS (x1.2) 4 (by (first|assumption|omega))
    rw [←hx18] at hcx17
    refine dc [0] hcx17 (by decide) (by simp only [go_sem,aE,aF,List.length_replicate,aD,Int.toNat_natCast,↓reduceIte,Nat.reduceEqDiff,Nat.reduceAdd,Int.reduceAdd,Nat.reduceMul,Nat.reduceLeDiff,Nat.reduceLT,Int.reduceLE,Int.reduceLT,Int.reduceNeg,Int.reduceToNat,mt,mtL,aL,aK,mtZ,and_self,eq_self,or_true,true_or]) (by simp only [go_sem,aE,aF,List.length_replicate,aD,Int.toNat_natCast,↓reduceIte,Nat.reduceEqDiff,Nat.reduceAdd,Int.reduceAdd,Nat.reduceMul,Nat.reduceLeDiff,Nat.reduceLT,Int.reduceLE,Int.reduceLT,Int.reduceNeg,Int.reduceToNat,mt,mtL,aL,aK,mtZ,and_self,eq_self,or_true,true_or]) (fun hw19=> ?_)
    replace hw19:=nzQ hw19
    refine spQ ?_
    have hq20:=rH hx18 (by assumption)
    replace hq20:=nzQ hq20
    have hq21:=rI hx18 (by assumption)
    replace hq21:=nzQ hq21
    replace hM:=ao hM;obtain ⟨x22,hx23,hM⟩:=hM
    have hcx22:=AV (x17.2) (ae .i64 x17.1) (by (first|assumption|omega))
    rw [←hx23] at hcx22
    refine dc [0] hcx22 (by decide) (by simp only [go_sem,aE,aF,List.length_replicate,aD,Int.toNat_natCast,↓reduceIte,Nat.reduceEqDiff,Nat.reduceAdd,Int.reduceAdd,Nat.reduceMul,Nat.reduceLeDiff,Nat.reduceLT,Int.reduceLE,Int.reduceLT,Int.reduceNeg,Int.reduceToNat,mt,mtL,aL,aK,mtZ,and_self,eq_self,or_true,true_or]) (by simp only [go_sem,aE,aF,List.length_replicate,aD,Int.toNat_natCast,↓reduceIte,Nat.reduceEqDiff,Nat.reduceAdd,Int.reduceAdd,Nat.reduceMul,Nat.reduceLeDiff,Nat.reduceLT,Int.reduceLE,Int.reduceLT,Int.reduceNeg,Int.reduceToNat,mt,mtL,aL,aK,mtZ,and_self,eq_self,or_true,true_or]) (fun hw24=> ?_)
    replace hw24:=nzQ hw24
    refine spQ ?_
    have hq25:=Ib hx23 (by assumption)
    replace hq25:=nzQ hq25
    replace hM:=ao hM;obtain ⟨x26,hx27,hM⟩:=hM
    have hcx26:=wL none (x22.1)
    rw [←hx27] at hcx26
    refine aH hcx26 clQ clQ (fun hw28=> ?_)
    replace hw28:=nzQ hw28
    refine spQ ?_
    have hq29:=nzQ (cfU hx27)
    subst hM
    exact cV [0] (by simp only [go_sem,aE,aF,List.length_replicate,aD,Int.toNat_natCast,↓reduceIte,Nat.reduceEqDiff,Nat.reduceAdd,Int.reduceAdd,Nat.reduceMul,Nat.reduceLeDiff,Nat.reduceLT,Int.reduceLE,Int.reduceLT,Int.reduceNeg,Int.reduceToNat,mt,mtL,aL,aK,mtZ,and_self,eq_self,or_true,true_or,br,bm,bn,Int.reduceSub,or_self,h7,h15]) (by decide) (by simp only [go_sem,aE,aF,List.length_replicate,aD,Int.toNat_natCast,↓reduceIte,Nat.reduceEqDiff,Nat.reduceAdd,Int.reduceAdd,Nat.reduceMul,Nat.reduceLeDiff,Nat.reduceLT,Int.reduceLE,Int.reduceLT,Int.reduceNeg,Int.reduceToNat,mt,mtL,aL,aK,mtZ,and_self,eq_self,or_true,true_or,br,bm,bn,Int.reduceSub,or_self,h7,h15])
   ·rw [if_neg (ap h15)] at hM
    refine aa h15 ?_
    have nh15:=nzQ h15
    try have hr30:=mpQ nh15
    refine aB (fun h31=> ?_) (fun h31=> ?_)
    ·rw [if_pos h31] at hM
     refine aa h31 ?_
     have nh31:=nzQ h31
     try have hr32:=mpQ nh31
     replace hM:=ao hM;obtain ⟨x33,hx34,hM⟩:=hM
     have hcx33:=rS (x1.2) 4 (by (first|assumption|omega))
     rw [←hx34] at hcx33
     refine dc [0] hcx33 (by decide) (by simp only [go_sem,aE,aF,List.length_replicate,aD,Int.toNat_natCast,↓reduceIte,Nat.reduceEqDiff,Nat.reduceAdd,Int.reduceAdd,Nat.reduceMul,Nat.reduceLeDiff,Nat.reduceLT,Int.reduceLE,Int.reduceLT,Int.reduceNeg,Int.reduceToNat,mt,mtL,aL,aK,mtZ,and_self,eq_self,or_true,true_or]) (by simp only [go_sem,aE,aF,List.length_replicate,aD,Int.toNat_natCast,↓reduceIte,Nat.reduceEqDiff,Nat.reduceAdd,Int.reduceAdd,Nat.reduceMul,Nat.reduceLeDiff,Nat.reduceLT,Int.reduceLE,Int.reduceLT,Int.reduceNeg,Int.reduceToNat,mt,mtL,aL,aK,mtZ,and_self,eq_self,or_true,true_or]) (fun hw35=> ?_)
     replace hw35:=nzQ hw35
     refine spQ ?_
     have hq36:=rH hx34 (by assumption)
     replace hq36:=nzQ hq36
     have hq37:=rI hx34 (by assumption)
     replace hq37:=nzQ hq37
     replace hM:=nN hM;obtain ⟨j38,hj38,hM⟩:=hM
     refine nG (fun S=> ∃p:aN,S=(⟨[(0,.ptr 0 0),(1,.int .i64 depth),(4,.ptr 1 0),(6,.ptr 2 0),(7,.int .i64 (ae .i64 x33.1))],[(0,.lent (ks 0) 2 true (.agg [.sl none 1 false (p.b.map (V.int .u8)),.int .i64 p.e])),(1,.var 4 true (.agg [.int .i64 0,.int .i64 0,.sl (some true) 1 false [],.sl (some true) 4 true []])),(2,.var 4 true (.agg [.int .i64 (ae .i64 x1.1),.int .i64 0,.sl (some true) 1 false [],.sl (some true) 4 true []]))],3⟩:St)∧((((ae .i64 x33.1)≤1000∨(p).e≠0)∧(0≤(ae .i64 x33.1)))∧(isB (p).b))∧j38 p=r) ?_ (fun hcut38=> ?_)
     ·clear hM
      rintro S ⟨p38,rfl,⟨hfa38,hF15_0⟩,hM⟩
      replace hfa38:=nzQ hfa38
      replace hM:=mp hM hj38
      try refine spQ ?_
      replace hM:=aU hM;obtain ⟨f39,d39,hf39,hd39,hM⟩:=hM
      refine fC (fun n S=> ∃p:Int×aN×List ak,S=(⟨[(0,.ptr 0 0),(1,.int .i64 depth),(4,.ptr 1 0),(6,.ptr 2 0),(55,.int .i64 (ae .i64 x33.1)),(56,.int .i64 p.1)],[(0,.lent (ks 0) 2 true (.agg [.sl none 1 false (p.2.1.b.map (V.int .u8)),.int .i64 p.2.1.e])),(1,.var 4 true (.agg [.int .i64 0,.int .i64 0,.sl (some true) 1 false [],.sl (some true) 4 true []])),(2,.var 4 true (.agg [.int .i64 (ae .i64 x1.1),.int .i64 0,.sl (some true) 1 false [],.own 3])),(3,.own 170 4 true none (p.2.2.map a7))],4⟩:St)∧(((0≤p.1)∧(p.1≤(ae .i64 x33.1))∧((ae .i64 x33.1)≤1000∨(p.2.1).e≠0)∧(((p.2.2).length:Int)≤p.1))∧(isB (p.2.1).b))∧((ae .i64 x33.1) - p.1).toNat<n∧am n f39 d39 p=r) (((ae .i64 x33.1) - 0).toNat+1) _ _ (qF 2 3 170 rfl rfl (by decide)) sbQ sbQ ⟨(0,p38,([]:List ak)),rfl,⟨⟨omQ,omQ,omQ,omQ⟩,by assumption⟩,(Nat.lt_succ_self _),hM⟩ ?_
      clear hM
      rintro n39 S ⟨p39,rfl,⟨hfa39,hF16_0⟩,hm39,hM⟩
      replace hM:=aV hM (by omega) hf39;obtain ⟨ag39,hag39,hM⟩:=hM
      replace hfa39:=nzQ hfa39
      replace hm39:=nzQ hm39
      have ha39:ax .i64 p39.1 1=p39.1+1:=aZ omQ omQ
      refine aa ha39 ?_
      refine aB (fun h40=> ?_) (fun h40=> ?_)
      ·rw [if_pos h40] at hM
       refine aa (And.intro ha39 h40) ?_
       have nh40:=nzQ h40
       try have hr41:=mpQ nh40
       refine aB (fun h42=> ?_) (fun h42=> ?_)
       ·rw [if_pos h42] at hM
        refine aa (And.intro ha39 h42) ?_
        have nh42:=nzQ h42
        try have hr43:=mpQ nh42
        subst hM
        exact cV [0] (by simp only [go_sem,aE,aF,List.length_replicate,aD,Int.toNat_natCast,↓reduceIte,Nat.reduceEqDiff,Nat.reduceAdd,Int.reduceAdd,Nat.reduceMul,Nat.reduceLeDiff,Nat.reduceLT,Int.reduceLE,Int.reduceLT,Int.reduceNeg,Int.reduceToNat,mt,mtL,aL,aK,mtZ,and_self,eq_self,or_true,true_or,br,ha39,bm,bn,Int.reduceSub,or_self,h7,h15,h31,h40,h42]) (by decide) (by simp only [go_sem,aE,aF,List.length_replicate,aD,Int.toNat_natCast,↓reduceIte,Nat.reduceEqDiff,Nat.reduceAdd,Int.reduceAdd,Nat.reduceMul,Nat.reduceLeDiff,Nat.reduceLT,Int.reduceLE,Int.reduceLT,Int.reduceNeg,Int.reduceToNat,mt,mtL,aL,aK,mtZ,and_self,eq_self,or_true,true_or,br,ha39,bm,bn,Int.reduceSub,or_self,h7,h15,h31,h40,h42])
       ·rw [if_neg (ap h42)] at hM
        refine aa (And.intro ha39 h42) ?_
        have nh42:=nzQ h42
        try have hr44:=mpQ nh42
        refine bN 74 7 [63,64,65,66,67,68,69] [] ([[],[0],[],[],[3],[2,3,4],[2,3,4,5]]++[List.range 7,List.range 8,List.range 9]) [(5,0)] (by kernel_rfl) (by exact alQ) ?_
        refine aa ha39 ?_
        have ha45:aG .i64 depth 1=(depth - 1):=dl omQ omQ
        try simp only [ha45]
        replace hM:=ao hM;obtain ⟨x46,hx47,hM⟩:=hM
        have hcx46:=ih (p39.2.1) (depth - 1) (by (first|assumption|omega)) (by (first|assumption|omega)) (by omega)
        rw [←hx47] at hcx46
        refine GI 0 hcx46 rfl rfl (by simp only [go_sem,aE,aF,List.length_replicate,aD,Int.toNat_natCast,↓reduceIte,Nat.reduceEqDiff,Nat.reduceAdd,Int.reduceAdd,Nat.reduceMul,Nat.reduceLeDiff,Nat.reduceLT,Int.reduceLE,Int.reduceLT,Int.reduceNeg,Int.reduceToNat,mt,mtL,aL,aK,mtZ,and_self,eq_self,or_true,true_or,ha39,ha45]) (by simp only [go_sem,aE,aF,List.length_replicate,aD,Int.toNat_natCast,↓reduceIte,Nat.reduceEqDiff,Nat.reduceAdd,Int.reduceAdd,Nat.reduceMul,Nat.reduceLeDiff,Nat.reduceLT,Int.reduceLE,Int.reduceLT,Int.reduceNeg,Int.reduceToNat,mt,mtL,aL,aK,mtZ,and_self,eq_self,or_true,true_or,ha39,ha45]) (by simp only [go_sem,aE,aF,List.length_replicate,aD,Int.toNat_natCast,↓reduceIte,Nat.reduceEqDiff,Nat.reduceAdd,Int.reduceAdd,Nat.reduceMul,Nat.reduceLeDiff,Nat.reduceLT,Int.reduceLE,Int.reduceLT,Int.reduceNeg,Int.reduceToNat,mt,mtL,aL,aK,mtZ,and_self,eq_self,or_true,true_or,ha39,ha45]) (by simp only [go_sem,aE,aF,List.length_replicate,aD,Int.toNat_natCast,↓reduceIte,Nat.reduceEqDiff,Nat.reduceAdd,Int.reduceAdd,Nat.reduceMul,Nat.reduceLeDiff,Nat.reduceLT,Int.reduceLE,Int.reduceLT,Int.reduceNeg,Int.reduceToNat,mt,mtL,aL,aK,mtZ,and_self,eq_self,or_true,true_or,ha39,ha45]) (by simp only [go_sem,aE,aF,List.length_replicate,aD,Int.toNat_natCast,↓reduceIte,Nat.reduceEqDiff,Nat.reduceAdd,Int.reduceAdd,Nat.reduceMul,Nat.reduceLeDiff,Nat.reduceLT,Int.reduceLE,Int.reduceLT,Int.reduceNeg,Int.reduceToNat,mt,mtL,aL,aK,mtZ,and_self,eq_self,or_true,true_or,ha39,ha45]) ?_
        refine aa (And.intro ha39 ha45) ?_
        have hq48:=Hh hx47 (by assumption)
        replace hq48:=nzQ hq48
        refine aP omQ ?_
        refine aa (And.intro ha39 ha45) ?_
        refine bM (n39 - 1) _ (by omega) sbQ sbQ ⟨((p39.1+1),x46.2,(p39.2.2++([x46.1]:List ak))),rfl,⟨⟨omQ,omQ,omQ,omQ⟩,by assumption⟩,omQ,bI hM hag39⟩
      ·rw [if_neg (ap h40)] at hM
       refine aa (And.intro ha39 h40) ?_
       have nh40:=nzQ h40
       try have hr49:=mpQ nh40
       subst hM
       exact cV [0] (by simp only [go_sem,aE,aF,List.length_replicate,aD,Int.toNat_natCast,↓reduceIte,Nat.reduceEqDiff,Nat.reduceAdd,Int.reduceAdd,Nat.reduceMul,Nat.reduceLeDiff,Nat.reduceLT,Int.reduceLE,Int.reduceLT,Int.reduceNeg,Int.reduceToNat,mt,mtL,aL,aK,mtZ,and_self,eq_self,or_true,true_or,br,ha39,bm,bn,Int.reduceSub,or_self,h7,h15,h31,h40]) (by decide) (by simp only [go_sem,aE,aF,List.length_replicate,aD,Int.toNat_natCast,↓reduceIte,Nat.reduceEqDiff,Nat.reduceAdd,Int.reduceAdd,Nat.reduceMul,Nat.reduceLeDiff,Nat.reduceLT,Int.reduceLE,Int.reduceLT,Int.reduceNeg,Int.reduceToNat,mt,mtL,aL,aK,mtZ,and_self,eq_self,or_true,true_or,br,ha39,bm,bn,Int.reduceSub,or_self,h7,h15,h31,h40])
     ·refine spQ ?_
      refine aB (fun h50=> ?_) (fun h50=> ?_)
      ·rw [if_pos h50] at hM
       refine aa h50 ?_
       have nh50:=nzQ h50
       try have hr51:=mpQ nh50
       replace hM:=ao hM;obtain ⟨x52,hx53,hM⟩:=hM
       have hcx52:=lB (x33.2) 3
       rw [←hx53] at hcx52
       refine dc [0] hcx52 (by decide) (by simp only [go_sem,aE,aF,List.length_replicate,aD,Int.toNat_natCast,↓reduceIte,Nat.reduceEqDiff,Nat.reduceAdd,Int.reduceAdd,Nat.reduceMul,Nat.reduceLeDiff,Nat.reduceLT,Int.reduceLE,Int.reduceLT,Int.reduceNeg,Int.reduceToNat,mt,mtL,aL,aK,mtZ,and_self,eq_self,or_true,true_or]) (by simp only [go_sem,aE,aF,List.length_replicate,aD,Int.toNat_natCast,↓reduceIte,Nat.reduceEqDiff,Nat.reduceAdd,Int.reduceAdd,Nat.reduceMul,Nat.reduceLeDiff,Nat.reduceLT,Int.reduceLE,Int.reduceLT,Int.reduceNeg,Int.reduceToNat,mt,mtL,aL,aK,mtZ,and_self,eq_self,or_true,true_or]) (fun hw54=> ?_)
       replace hw54:=nzQ hw54
       refine spQ ?_
       have hq55:=rG hx53 (by decide)
       replace hq55:=nzQ hq55
       have hq56:=rJ hx53 (by assumption)
       replace hq56:=nzQ hq56
       exact fA _ sbQ sbQ (hcut38 _ ⟨x52,rfl,⟨⟨omQ,omQ⟩,by assumption⟩,hM⟩)
      ·rw [if_neg (ap h50)] at hM
       refine aa h50 ?_
       have nh50:=nzQ h50
       try have hr57:=mpQ nh50
       exact fA _ sbQ sbQ (hcut38 _ ⟨x33.2,rfl,⟨⟨omQ,omQ⟩,by assumption⟩,hM⟩)
    ·rw [if_neg (ap h31)] at hM
     refine aa h31 ?_
     have nh31:=nzQ h31
     try have hr58:=mpQ nh31
     subst hM
     exact cV [0] (by simp only [go_sem,aE,aF,List.length_replicate,aD,Int.toNat_natCast,↓reduceIte,Nat.reduceEqDiff,Nat.reduceAdd,Int.reduceAdd,Nat.reduceMul,Nat.reduceLeDiff,Nat.reduceLT,Int.reduceLE,Int.reduceLT,Int.reduceNeg,Int.reduceToNat,mt,mtL,aL,aK,mtZ,and_self,eq_self,or_true,true_or,br,bm,bn,Int.reduceSub,or_self,h7,h15,h31]) (by decide) (by simp only [go_sem,aE,aF,List.length_replicate,aD,Int.toNat_natCast,↓reduceIte,Nat.reduceEqDiff,Nat.reduceAdd,Int.reduceAdd,Nat.reduceMul,Nat.reduceLeDiff,Nat.reduceLT,Int.reduceLE,Int.reduceLT,Int.reduceNeg,Int.reduceToNat,mt,mtL,aL,aK,mtZ,and_self,eq_self,or_true,true_or,br,bm,bn,Int.reduceSub,or_self,h7,h15,h31])
 ·refine spQ ?_
  refine cr (fun h59=> ?_) (fun h59=> ?_)
  ·rw [if_neg (ap h59)] at hM
   refine aa h59 ?_
   have nh59:=nzQ h59
   try have hr60:=mpQ nh59
   refine cr (fun h61=> ?_) (fun h61=> ?_)
   ·rw [if_neg (ap h61)] at hM
    refine aa h61 ?_
    have nh61:=nzQ h61
    try have hr62:=mpQ nh61
    refine gh (fun h63=> ?_) (fun h63=> ?_)
    ·rw [if_pos h63] at hM
     refine aa h63 ?_
     have nh63:=nzQ h63
     try have hr64:=mpQ nh63
     refine aB (fun h65=> ?_) (fun h65=> ?_)
     ·rw [if_pos h65] at hM
      refine aa h65 ?_
      have nh65:=nzQ h65
      try have hr66:=mpQ nh65
      replace hM:=ao hM;obtain ⟨x67,hx68,hM⟩:=hM
      have hcx67:=lB (x1.2) 3
      rw [←hx68] at hcx67
      refine dc [0] hcx67 (by decide) (by simp only [go_sem,aE,aF,List.length_replicate,aD,Int.toNat_natCast,↓reduceIte,Nat.reduceEqDiff,Nat.reduceAdd,Int.reduceAdd,Nat.reduceMul,Nat.reduceLeDiff,Nat.reduceLT,Int.reduceLE,Int.reduceLT,Int.reduceNeg,Int.reduceToNat,mt,mtL,aL,aK,mtZ,and_self,eq_self,or_true,true_or]) (by simp only [go_sem,aE,aF,List.length_replicate,aD,Int.toNat_natCast,↓reduceIte,Nat.reduceEqDiff,Nat.reduceAdd,Int.reduceAdd,Nat.reduceMul,Nat.reduceLeDiff,Nat.reduceLT,Int.reduceLE,Int.reduceLT,Int.reduceNeg,Int.reduceToNat,mt,mtL,aL,aK,mtZ,and_self,eq_self,or_true,true_or]) (fun hw69=> ?_)
      replace hw69:=nzQ hw69
      refine spQ ?_
      have hq70:=rG hx68 (by decide)
      replace hq70:=nzQ hq70
      have hq71:=rJ hx68 (by assumption)
      replace hq71:=nzQ hq71
      subst hM
      exact cV [0] (by simp only [go_sem,aE,aF,List.length_replicate,aD,Int.toNat_natCast,↓reduceIte,Nat.reduceEqDiff,Nat.reduceAdd,Int.reduceAdd,Nat.reduceMul,Nat.reduceLeDiff,Nat.reduceLT,Int.reduceLE,Int.reduceLT,Int.reduceNeg,Int.reduceToNat,mt,mtL,aL,aK,mtZ,and_self,eq_self,or_true,true_or,br,bm,bn,Int.reduceSub,or_self,h59,h61,h63,h65]) (by decide) (by simp only [go_sem,aE,aF,List.length_replicate,aD,Int.toNat_natCast,↓reduceIte,Nat.reduceEqDiff,Nat.reduceAdd,Int.reduceAdd,Nat.reduceMul,Nat.reduceLeDiff,Nat.reduceLT,Int.reduceLE,Int.reduceLT,Int.reduceNeg,Int.reduceToNat,mt,mtL,aL,aK,mtZ,and_self,eq_self,or_true,true_or,br,bm,bn,Int.reduceSub,or_self,h59,h61,h63,h65])
     ·rw [if_neg (ap h65)] at hM
      refine aa h65 ?_
      have nh65:=nzQ h65
      try have hr72:=mpQ nh65
      exact fA _ sbQ sbQ (hcut6 _ ⟨(),rfl,omQ,hM⟩)
    ·rw [if_neg (ap h63)] at hM
     refine aa h63 ?_
     have nh63:=nzQ h63
     try have hr73:=mpQ nh63
     exact fA _ sbQ sbQ (hcut6 _ ⟨(),rfl,omQ,hM⟩)
   ·rw [if_pos h61] at hM
    refine aa h61 ?_
    have nh61:=nzQ h61
    try have hr74:=mpQ nh61
    replace hM:=ao hM;obtain ⟨x75,hx76,hM⟩:=hM
    have hcx75:=lB (x1.2) 3
    rw [←hx76] at hcx75
    refine dc [0] hcx75 (by decide) (by simp only [go_sem,aE,aF,List.length_replicate,aD,Int.toNat_natCast,↓reduceIte,Nat.reduceEqDiff,Nat.reduceAdd,Int.reduceAdd,Nat.reduceMul,Nat.reduceLeDiff,Nat.reduceLT,Int.reduceLE,Int.reduceLT,Int.reduceNeg,Int.reduceToNat,mt,mtL,aL,aK,mtZ,and_self,eq_self,or_true,true_or]) (by simp only [go_sem,aE,aF,List.length_replicate,aD,Int.toNat_natCast,↓reduceIte,Nat.reduceEqDiff,Nat.reduceAdd,Int.reduceAdd,Nat.reduceMul,Nat.reduceLeDiff,Nat.reduceLT,Int.reduceLE,Int.reduceLT,Int.reduceNeg,Int.reduceToNat,mt,mtL,aL,aK,mtZ,and_self,eq_self,or_true,true_or]) (fun hw77=> ?_)
    replace hw77:=nzQ hw77
    refine spQ ?_
    have hq78:=rG hx76 (by decide)
    replace hq78:=nzQ hq78
    have hq79:=rJ hx76 (by assumption)
    replace hq79:=nzQ hq79
    subst hM
    exact cV [0] (by simp only [go_sem,aE,aF,List.length_replicate,aD,Int.toNat_natCast,↓reduceIte,Nat.reduceEqDiff,Nat.reduceAdd,Int.reduceAdd,Nat.reduceMul,Nat.reduceLeDiff,Nat.reduceLT,Int.reduceLE,Int.reduceLT,Int.reduceNeg,Int.reduceToNat,mt,mtL,aL,aK,mtZ,and_self,eq_self,or_true,true_or,br,bm,bn,Int.reduceSub,or_self,h59,h61]) (by decide) (by simp only [go_sem,aE,aF,List.length_replicate,aD,Int.toNat_natCast,↓reduceIte,Nat.reduceEqDiff,Nat.reduceAdd,Int.reduceAdd,Nat.reduceMul,Nat.reduceLeDiff,Nat.reduceLT,Int.reduceLE,Int.reduceLT,Int.reduceNeg,Int.reduceToNat,mt,mtL,aL,aK,mtZ,and_self,eq_self,or_true,true_or,br,bm,bn,Int.reduceSub,or_self,h59,h61])
  ·rw [if_pos h59] at hM
   refine aa h59 ?_
   have nh59:=nzQ h59
   try have hr80:=mpQ nh59
   replace hM:=ao hM;obtain ⟨x81,hx82,hM⟩:=hM
   have hcx81:=lB (x1.2) 3
   rw [←hx82] at hcx81
   refine dc [0] hcx81 (by decide) (by simp only [go_sem,aE,aF,List.length_replicate,aD,Int.toNat_natCast,↓reduceIte,Nat.reduceEqDiff,Nat.reduceAdd,Int.reduceAdd,Nat.reduceMul,Nat.reduceLeDiff,Nat.reduceLT,Int.reduceLE,Int.reduceLT,Int.reduceNeg,Int.reduceToNat,mt,mtL,aL,aK,mtZ,and_self,eq_self,or_true,true_or]) (by simp only [go_sem,aE,aF,List.length_replicate,aD,Int.toNat_natCast,↓reduceIte,Nat.reduceEqDiff,Nat.reduceAdd,Int.reduceAdd,Nat.reduceMul,Nat.reduceLeDiff,Nat.reduceLT,Int.reduceLE,Int.reduceLT,Int.reduceNeg,Int.reduceToNat,mt,mtL,aL,aK,mtZ,and_self,eq_self,or_true,true_or]) (fun hw83=> ?_)
   replace hw83:=nzQ hw83
   refine spQ ?_
   have hq84:=rG hx82 (by decide)
   replace hq84:=nzQ hq84
   have hq85:=rJ hx82 (by assumption)
   replace hq85:=nzQ hq85
   subst hM
   exact cV [0] (by simp only [go_sem,aE,aF,List.length_replicate,aD,Int.toNat_natCast,↓reduceIte,Nat.reduceEqDiff,Nat.reduceAdd,Int.reduceAdd,Nat.reduceMul,Nat.reduceLeDiff,Nat.reduceLT,Int.reduceLE,Int.reduceLT,Int.reduceNeg,Int.reduceToNat,mt,mtL,aL,aK,mtZ,and_self,eq_self,or_true,true_or,br,bm,bn,Int.reduceSub,or_self,h59]) (by decide) (by simp only [go_sem,aE,aF,List.length_replicate,aD,Int.toNat_natCast,↓reduceIte,Nat.reduceEqDiff,Nat.reduceAdd,Int.reduceAdd,Nat.reduceMul,Nat.reduceLeDiff,Nat.reduceLT,Int.reduceLE,Int.reduceLT,Int.reduceNeg,Int.reduceToNat,mt,mtL,aL,aK,mtZ,and_self,eq_self,or_true,true_or,br,bm,bn,Int.reduceSub,or_self,h59])
theorem Ji: ∀(N:Nat) (r_:aN) (depth:Int),(0≤depth)→(isB r_.b)→depth.toNat<N→cZ En 169 [.ptr 0 0,.int .i64 depth] [.var 2 true (.agg [.sl none 1 false (r_.b.map (V.int .u8)),.int .i64 r_.e])] (.agg [.int .i64 (cE r_ depth).1.Kind,.int .i64 (cE r_ depth).1.N,.sl none 1 false ((cE r_ depth).1.B.map (V.int .u8)),.sl none 4 true ((cE r_ depth).1.L.map a7)]) [.var 2 true (.agg [.sl none 1 false ((cE r_ depth).2.b.map (V.int .u8)),.int .i64 (cE r_ depth).2.e])] []:=by
 intro N
 induction N with
 | zero=>intro r_ depth h0 h1 h;exact absurd h (Nat.not_lt_zero _)
 | succ N ih=>
  intro r_ depth h0 h1 h
  have h9:=Jh N ih r_ depth h0 h1 h
  rw [Id h0 h1] at h9
  exact h9
theorem Jj (r_:aN) (depth:Int) (hp0:0≤depth) (hp1:isB r_.b):cZ En 169 [.ptr 0 0,.int .i64 depth] [.var 2 true (.agg [.sl none 1 false (r_.b.map (V.int .u8)),.int .i64 r_.e])] (.agg [.int .i64 (cE r_ depth).1.Kind,.int .i64 (cE r_ depth).1.N,.sl none 1 false ((cE r_ depth).1.B.map (V.int .u8)),.sl none 4 true ((cE r_ depth).1.L.map a7)]) [.var 2 true (.agg [.sl none 1 false ((cE r_ depth).2.b.map (V.int .u8)),.int .i64 (cE r_ depth).2.e])] []:=
 Ji (depth.toNat+1) r_ depth hp0 hp1 (Nat.lt_succ_self _)
instance (priority:=1001):DRD 8 34 6 [28,29,30,31,32] [] ([[],[],[1],[1,2],[1,2,3],[0]]++[List.range 6]) [(5,0)]:=⟨trivial⟩
set_option maxHeartbeats 2000000 in
set_option maxRecDepth 100000 in
instance M8 (b:(List Int)):CM En (u5 b) 106 [.sl none 1 false (b.map (V.int .u8))] (fun y=> .tup [.agg [.int .i64 y.1.Kind,.int .i64 y.1.N,.sl none 1 false (y.1.B.map (V.int .u8)),.sl none 4 true (y.1.L.map a7)],.int .i64 y.2]) (fun _=> []):=by
 refine cmQ fun r hM=> ?_
 rw [u5.eq_1] at hM
 refine av al ar [7] Tryz.func106 rfl Tryz.ntmps106 (by kernel_rfl) fun hw=>au ?_
 refine spQ ?_
 replace hw:=nzQ hw
 refine aB (fun h1=> ?_) (fun h1=> ?_)
 ·rw [if_pos h1] at hM
  refine aa h1 ?_
  subst hM
  exact aw (az h1)
 ·rw [if_neg (ap h1)] at hM
  refine aa h1 ?_
  have nh1:=nzQ h1
  try have hr3:=mpQ nh1
  replace hM:=ao hM;obtain ⟨x4,hx5,hM⟩:=hM
  have hcx4:=Jj ({b:=b,e:=0}:aN) 8 (by (first|decide|exact uY hw.2)) (by (first|decide|exact uY hw.2))
  rw [←hx5] at hcx4
  refine dc [1] hcx4 (by decide) (by simp only [go_sem,aE,aF,List.length_replicate,aD,Int.toNat_natCast,↓reduceIte,Nat.reduceEqDiff,Nat.reduceAdd,Int.reduceAdd,Nat.reduceMul,Nat.reduceLeDiff,Nat.reduceLT,Int.reduceLE,Int.reduceLT,Int.reduceNeg,Int.reduceToNat,mt,mtL,aL,aK,mtZ,and_self,eq_self,or_true,true_or]) (by simp only [go_sem,aE,aF,List.length_replicate,aD,Int.toNat_natCast,↓reduceIte,Nat.reduceEqDiff,Nat.reduceAdd,Int.reduceAdd,Nat.reduceMul,Nat.reduceLeDiff,Nat.reduceLT,Int.reduceLE,Int.reduceLT,Int.reduceNeg,Int.reduceToNat,mt,mtL,aL,aK,mtZ,and_self,eq_self,or_true,true_or]) (fun hw6=> ?_)
  replace hw6:=nzQ hw6
  refine spQ ?_
  replace hM:=nN hM;obtain ⟨j7,hj7,hM⟩:=hM
  refine nG (fun S=> ∃p:aN,S=(⟨[(2,.ptr 0 0),(4,.ptr 1 0),(5,.ptr 2 0)],[(0,.var 4 true (.agg [.int .i64 0,.int .i64 0,.sl (some true) 1 false [],.sl (some true) 4 true []])),(1,.var 2 true (.agg [.sl none 1 false (p.b.map (V.int .u8)),.int .i64 p.e])),(2,.var 4 true (.agg [.int .i64 x4.1.Kind,.int .i64 x4.1.N,.sl none 1 false (x4.1.B.map (V.int .u8)),.sl none 4 true (x4.1.L.map a7)]))],3⟩:St)∧(True)∧j7 p=r) ?_ (fun hcut7=> ?_)
  ·clear hM
   rintro S ⟨p7,rfl,hfa7,hM⟩
   replace hM:=mp hM hj7
   try refine spQ ?_
   have hF:=h1
   exact auQ
  ·refine spQ ?_
   refine aB (fun h11=> ?_) (fun h11=> ?_)
   ·rw [if_pos h11] at hM
    refine aa h11 ?_
    have nh11:=nzQ h11
    try have hr12:=mpQ nh11
    replace hM:=ao hM;obtain ⟨x13,hx14,hM⟩:=hM
    have hcx13:=lB (x4.2) 3
    rw [←hx14] at hcx13
    refine dc [1] hcx13 (by decide) (by simp only [go_sem,aE,aF,List.length_replicate,aD,Int.toNat_natCast,↓reduceIte,Nat.reduceEqDiff,Nat.reduceAdd,Int.reduceAdd,Nat.reduceMul,Nat.reduceLeDiff,Nat.reduceLT,Int.reduceLE,Int.reduceLT,Int.reduceNeg,Int.reduceToNat,mt,mtL,aL,aK,mtZ,and_self,eq_self,or_true,true_or]) (by simp only [go_sem,aE,aF,List.length_replicate,aD,Int.toNat_natCast,↓reduceIte,Nat.reduceEqDiff,Nat.reduceAdd,Int.reduceAdd,Nat.reduceMul,Nat.reduceLeDiff,Nat.reduceLT,Int.reduceLE,Int.reduceLT,Int.reduceNeg,Int.reduceToNat,mt,mtL,aL,aK,mtZ,and_self,eq_self,or_true,true_or]) (fun hw15=> ?_)
    replace hw15:=nzQ hw15
    refine spQ ?_
    exact fA _ sbQ sbQ (hcut7 _ ⟨x13,rfl,trivial,hM⟩)
   ·rw [if_neg (ap h11)] at hM
    refine aa h11 ?_
    have nh11:=nzQ h11
    try have hr16:=mpQ nh11
    exact fA _ sbQ sbQ (hcut7 _ ⟨x4.2,rfl,trivial,hM⟩)
set_option maxHeartbeats 2000000 in
set_option maxRecDepth 100000 in
instance M9 (i_:ak):CM En (mN i_) 107 [.agg [.int .i64 i_.Kind,.int .i64 i_.N,.sl none 1 false (i_.B.map (V.int .u8)),.sl none 4 true (i_.L.map a7)]] (fun y=> .tup [.sl none 1 false (y.1.map (V.int .i64)),.int .i64 y.2]) (fun _=> []):=by
 refine cmQ fun r hM=> ?_
 rw [mN.eq_1] at hM
 refine av al ar noJ Tryz.func107 rfl Tryz.ntmps107 (by kernel_rfl) fun hw=>au ?_
 refine spQ ?_
 replace hw:=nzQ hw
 replace hM:=ao hM;obtain ⟨x1,hx2,hM⟩:=hM
 have hcx1:=cmU hx2
 refine aH hcx1 clQ clQ (fun hw3=> ?_)
 replace hw3:=nzQ hw3
 refine spQ ?_
 refine aB (fun h4=> ?_) (fun h4=> ?_)
 ·rw [if_pos h4] at hM
  refine aa h4 ?_
  subst hM
  exact aw (az h4)
 ·rw [if_neg (ap h4)] at hM
  refine aa h4 ?_
  have nh4:=nzQ h4
  try have hr6:=mpQ nh4
  refine aB (fun h7=> ?_) (fun h7=> ?_)
  ·rw [if_pos h7] at hM
   refine aa h7 ?_
   subst hM
   exact aw (az (And.intro h4 h7))
  ·rw [if_neg (ap h7)] at hM
   refine aa h7 ?_
   have nh7:=nzQ h7
   try have hr9:=mpQ nh7
   replace hM:=aU hM;obtain ⟨f10,d10,hf10,hd10,hM⟩:=hM
   refine fC (fun n S=> ∃p:Int×List Int,S=(⟨[(4,.own 1),(14,.sl none 4 true (i_.L.map a7)),(15,.int .i64 (i_.L.length:Int)),(16,.int .i64 p.1)],[(1,.own 3 1 false none (p.2.map (V.int .i64)))],2⟩:St)∧((0≤p.1)∧(p.1≤(i_.L.length:Int))∧(((p.2).length:Int)≤p.1))∧((i_.L.length:Int) - p.1).toNat<n∧am n f10 d10 p=r) (((i_.L.length:Int) - 0).toNat+1) _ _ (jI 4 3 rfl (by decide)) sbQ sbQ ⟨(0,([]:List Int)),rfl,⟨omQ,omQ,omQ⟩,(Nat.lt_succ_self _),hM⟩ ?_
   clear hM
   rintro n10 S ⟨p10,rfl,hfa10,hm10,hM⟩
   replace hM:=aV hM (by omega) hf10;obtain ⟨ag10,hag10,hM⟩:=hM
   replace hfa10:=nzQ hfa10
   replace hm10:=nzQ hm10
   have ha10:ax .i64 p10.1 1=p10.1+1:=aZ omQ omQ
   refine aa ha10 ?_
   have hF:=(And.intro h4 (And.intro h7 ha10))
   exact auQ
set_option maxHeartbeats 2000000 in
set_option maxRecDepth 100000 in
instance M_ (x_:(List Int)):CM En (u6 x_) 36 [.sl none 1 false (x_.map (V.int .u8))] (fun y=> .tup [(cA y.1),.int .i64 y.2]) (fun _=> []):=by
 refine cmQ fun r hM=> ?_
 rw [u6.eq_1] at hM
 refine av al ar noJ Tryz.func36 rfl Tryz.ntmps36 (by kernel_rfl) fun hw=>au ?_
 refine spQ ?_
 replace hw:=nzQ hw
 replace hM:=ao hM;obtain ⟨x1,hx2,hM⟩:=hM
 have hcx1:=cmU hx2
 refine aH hcx1 clQ clQ (fun hw3=> ?_)
 replace hw3:=nzQ hw3
 refine spQ ?_
 refine cr (fun h4=> ?_) (fun h4=> ?_)
 ·rw [if_neg (ap h4)] at hM
  refine aa h4 ?_
  have nh4:=nzQ h4
  try have hr5:=mpQ nh4
  refine cr (fun h6=> ?_) (fun h6=> ?_)
  ·rw [if_neg (ap h6)] at hM
   refine aa h6 ?_
   have nh6:=nzQ h6
   try have hr7:=mpQ nh6
   refine cr (fun h8=> ?_) (fun h8=> ?_)
   ·rw [if_neg (ap h8)] at hM
    refine aa h8 ?_
    have nh8:=nzQ h8
    try have hr9:=mpQ nh8
    refine aP omQ ?_
    have he10: ∀d,elt (x1.1.L.map a7) 0 d=a7 (gt x1.1.L 0):=fun d=>bE (l:=x1.1.L) (f:=a7) (i:=0) omQ d
    refine aa he10 ?_
    refine cr (fun h11=> ?_) (fun h11=> ?_)
    ·rw [if_neg (ap h11)] at hM
     refine aa (And.intro he10 h11) ?_
     have nh11:=nzQ h11
     try have hr12:=mpQ nh11
     refine aP omQ ?_
     refine aa he10 ?_
     refine aB (fun h13=> ?_) (fun h13=> ?_)
     ·rw [if_pos h13] at hM
      refine aa (And.intro he10 h13) ?_
      subst hM
      exact aw (az (And.intro he10 (And.intro h4 (And.intro h6 (And.intro h8 (And.intro h11 h13))))))
     ·rw [if_neg (ap h13)] at hM
      refine aa (And.intro he10 h13) ?_
      have nh13:=nzQ h13
      try have hr15:=mpQ nh13
      refine aP omQ ?_
      refine aa he10 ?_
      replace hM:=ao hM;obtain ⟨x16,hx17,hM⟩:=hM
      have hcx16:=cmU hx17
      refine aH hcx16 (aC he10) (aC he10) (fun hw18=> ?_)
      replace hw18:=nzQ hw18
      refine aa he10 ?_
      have hq19:=Ig hx17
      replace hq19:=nzQ hq19
      refine aB (fun h20=> ?_) (fun h20=> ?_)
      ·rw [if_pos h20] at hM
       refine aa (And.intro he10 h20) ?_
       subst hM
       exact aw (az (And.intro he10 (And.intro h4 (And.intro h6 (And.intro h8 (And.intro h11 (And.intro h13 h20)))))))
      ·rw [if_neg (ap h20)] at hM
       refine aa (And.intro he10 h20) ?_
       have nh20:=nzQ h20
       try have hr22:=mpQ nh20
       refine bN 77 18 [7,55,56,57,58,59,60,61,62,63,64,65,66,67,68,69,70,71] [] ([[],[0],[0,1],[0,1,2],[0,1,2,3],[0,1,2,3,4],[0,1,2,3,4,5],[],[7],[7,8],[],[10],[10,11],[],[13],[13,14],[0,1,2,3,4,5,6,7,8,9,10,11,12,13,14,15],[]]++[List.range 18]) [] (by kernel_rfl) (by exact alQ) ?_
       refine aa he10 ?_
       refine b_ omQ ?_
       refine aa he10 ?_
       refine b_ omQ ?_
       have he23:=Gq (l:=(gt x1.1.L 0).B) (f:=(V.int .u8)) (k:=32) omQ
       refine aa (And.intro he10 he23) ?_
       have hF:=(And.intro h4 (And.intro h6 (And.intro h8 (And.intro he10 (And.intro h11 (And.intro h13 (And.intro h20 he23)))))))
       exact auQ
    ·rw [if_pos h11] at hM
     refine aa (And.intro he10 h11) ?_
     subst hM
     exact aw (az (And.intro he10 (And.intro h4 (And.intro h6 (And.intro h8 h11)))))
   ·rw [if_pos h8] at hM
    refine aa h8 ?_
    subst hM
    exact aw (az (And.intro h4 (And.intro h6 h8)))
  ·rw [if_pos h6] at hM
   refine aa h6 ?_
   subst hM
   exact aw (az (And.intro h4 h6))
 ·rw [if_pos h4] at hM
  refine aa h4 ?_
  subst hM
  exact aw (az h4)
set_option maxHeartbeats 2000000 in
set_option maxRecDepth 100000 in
instance Na:CM En (qZ) 9 [] (fun y=> .bool y) (fun _=> []):=by
 refine cmQ fun r hM=> ?_
 rw [qZ.eq_1] at hM
 refine av al ar noJ Tryz.func9 rfl Tryz.ntmps9 (by kernel_rfl) fun hw=>au ?_
 refine spQ ?_
 replace hw:=nzQ hw
 have hF:=aW
 exact auQ
set_option maxHeartbeats 2000000 in
set_option maxRecDepth 100000 in
instance Nb (s:aO):CM En (iq s) 38 [(aT s)] (fun y=> .bool y) (fun _=> []):=by
 refine cmQ fun r hM=> ?_
 rw [iq.eq_1] at hM
 refine av al ar noJ Tryz.func38 rfl Tryz.ntmps38 (by kernel_rfl) fun hw=>au ?_
 refine spQ ?_
 replace hw:=nzQ hw
 have hF:=aW
 exact auQ
set_option maxHeartbeats 2000000 in
set_option maxRecDepth 100000 in
instance Nc (s:(List aO)):CM En (q5 s) 108 [.sl none 80 true (s.map aT),.fn 38 []] (fun y=> .int .i64 y) (fun _=> []):=by
 refine cmQ fun r hM=> ?_
 rw [q5.eq_1] at hM
 refine av al ar noJ Tryz.func108 rfl Tryz.ntmps108 (by kernel_rfl) fun hw=>au ?_
 refine spQ ?_
 replace hw:=nzQ hw
 replace hM:=aU hM;obtain ⟨f1,d1,hf1,hd1,hM⟩:=hM
 refine a6 (fun n S=> ∃p:Int,S=(⟨[(0,.sl none 80 true (s.map aT)),(1,.fn 38 []),(7,.int .i64 (s.length:Int)),(8,.int .i64 p)],[],0⟩:St)∧((0≤p)∧(p≤(s.length:Int)))∧((s.length:Int) - p).toNat<n∧am n f1 d1 p=r) (((s.length:Int) - 0).toNat+1) _ sbQ sbQ ⟨0,rfl,⟨omQ,omQ⟩,(Nat.lt_succ_self _),hM⟩ ?_
 clear hM
 rintro n1 S ⟨p1,rfl,hfa1,hm1,hM⟩
 replace hM:=aV hM (by omega) hf1;obtain ⟨ag1,hag1,hM⟩:=hM
 replace hfa1:=nzQ hfa1
 replace hm1:=nzQ hm1
 have ha1:ax .i64 p1 1=p1+1:=aZ omQ omQ
 refine aa ha1 ?_
 have hF:=ha1
 exact auQ
set_option maxHeartbeats 2000000 in
set_option maxRecDepth 100000 in
instance Nd (s:(List aO)):CM En (mO s) 37 [.sl none 80 true (s.map aT),.fn 38 []] (fun y=> .bool y) (fun _=> []):=by
 refine cmQ fun r hM=> ?_
 rw [mO.eq_1] at hM
 refine av al ar noJ Tryz.func37 rfl Tryz.ntmps37 (by kernel_rfl) fun hw=>au ?_
 refine spQ ?_
 replace hw:=nzQ hw
 have hF:=aW
 exact auQ
set_option maxHeartbeats 2000000 in
set_option maxRecDepth 100000 in
instance Nf (h_:bX):CM En (li h_) 40 [(bv h_)] (fun y=> .bool y) (fun _=> []):=by
 refine cmQ fun r hM=> ?_
 rw [li.eq_1] at hM
 refine av al ar noJ Tryz.func40 rfl Tryz.ntmps40 (by kernel_rfl) fun hw=>au ?_
 refine spQ ?_
 replace hw:=nzQ hw
 have hF:=aW
 exact auQ
set_option maxHeartbeats 2000000 in
set_option maxRecDepth 100000 in
instance Ng (x_:cW):CM En (mP x_) 42 [(bG x_)] (fun y=> .bool y) (fun _=> []):=by
 refine cmQ fun r hM=> ?_
 rw [mP.eq_1] at hM
 refine av al ar noJ Tryz.func42 rfl Tryz.ntmps42 (by kernel_rfl) fun hw=>au ?_
 refine spQ ?_
 replace hw:=nzQ hw
 have hF:=aW
 exact auQ
set_option maxHeartbeats 2000000 in
set_option maxRecDepth 100000 in
instance Nh (s:(List bX)):CM En (q6 s) 109 [.sl none 81 true (s.map bv),.fn 40 []] (fun y=> .int .i64 y) (fun _=> []):=by
 refine cmQ fun r hM=> ?_
 rw [q6.eq_1] at hM
 refine av al ar noJ Tryz.func109 rfl Tryz.ntmps109 (by kernel_rfl) fun hw=>au ?_
 refine spQ ?_
 replace hw:=nzQ hw
 replace hM:=aU hM;obtain ⟨f1,d1,hf1,hd1,hM⟩:=hM
 refine a6 (fun n S=> ∃p:Int,S=(⟨[(0,.sl none 81 true (s.map bv)),(1,.fn 40 []),(7,.int .i64 (s.length:Int)),(8,.int .i64 p)],[],0⟩:St)∧((0≤p)∧(p≤(s.length:Int)))∧((s.length:Int) - p).toNat<n∧am n f1 d1 p=r) (((s.length:Int) - 0).toNat+1) _ sbQ sbQ ⟨0,rfl,⟨omQ,omQ⟩,(Nat.lt_succ_self _),hM⟩ ?_
 clear hM
 rintro n1 S ⟨p1,rfl,hfa1,hm1,hM⟩
 replace hM:=aV hM (by omega) hf1;obtain ⟨ag1,hag1,hM⟩:=hM
 replace hfa1:=nzQ hfa1
 replace hm1:=nzQ hm1
 have ha1:ax .i64 p1 1=p1+1:=aZ omQ omQ
 refine aa ha1 ?_
 have hF:=ha1
 exact auQ
set_option maxHeartbeats 2000000 in
set_option maxRecDepth 100000 in
instance Ni (s:(List bX)):CM En (oi s) 39 [.sl none 81 true (s.map bv),.fn 40 []] (fun y=> .bool y) (fun _=> []):=by
 refine cmQ fun r hM=> ?_
 rw [oi.eq_1] at hM
 refine av al ar noJ Tryz.func39 rfl Tryz.ntmps39 (by kernel_rfl) fun hw=>au ?_
 refine spQ ?_
 replace hw:=nzQ hw
 have hF:=aW
 exact auQ
set_option maxHeartbeats 2000000 in
set_option maxRecDepth 100000 in
instance Nj (s:(List cW)):CM En (q7 s) 110 [.sl none 5 true (s.map bG),.fn 42 []] (fun y=> .int .i64 y) (fun _=> []):=by
 refine cmQ fun r hM=> ?_
 rw [q7.eq_1] at hM
 refine av al ar noJ Tryz.func110 rfl Tryz.ntmps110 (by kernel_rfl) fun hw=>au ?_
 refine spQ ?_
 replace hw:=nzQ hw
 replace hM:=aU hM;obtain ⟨f1,d1,hf1,hd1,hM⟩:=hM
 refine a6 (fun n S=> ∃p:Int,S=(⟨[(0,.sl none 5 true (s.map bG)),(1,.fn 42 []),(7,.int .i64 (s.length:Int)),(8,.int .i64 p)],[],0⟩:St)∧((0≤p)∧(p≤(s.length:Int)))∧((s.length:Int) - p).toNat<n∧am n f1 d1 p=r) (((s.length:Int) - 0).toNat+1) _ sbQ sbQ ⟨0,rfl,⟨omQ,omQ⟩,(Nat.lt_succ_self _),hM⟩ ?_
 clear hM
 rintro n1 S ⟨p1,rfl,hfa1,hm1,hM⟩
 replace hM:=aV hM (by omega) hf1;obtain ⟨ag1,hag1,hM⟩:=hM
 replace hfa1:=nzQ hfa1
 replace hm1:=nzQ hm1
 have ha1:ax .i64 p1 1=p1+1:=aZ omQ omQ
 refine aa ha1 ?_
 have hF:=ha1
 exact auQ
set_option maxHeartbeats 2000000 in
set_option maxRecDepth 100000 in
instance Nk (s:(List cW)):CM En (ol s) 41 [.sl none 5 true (s.map bG),.fn 42 []] (fun y=> .bool y) (fun _=> []):=by
 refine cmQ fun r hM=> ?_
 rw [ol.eq_1] at hM
 refine av al ar noJ Tryz.func41 rfl Tryz.ntmps41 (by kernel_rfl) fun hw=>au ?_
 refine spQ ?_
 replace hw:=nzQ hw
 have hF:=aW
 exact auQ
set_option maxHeartbeats 2000000 in
set_option maxRecDepth 100000 in
instance Nl (p_:bR):CM En (jX p_) 10 [.agg [.int .i64 p_.Number,.sl none 80 true (p_.Spends.map aT),.sl none 81 true (p_.Chains.map bv),.sl none 5 true (p_.Escrow.map bG)]] (fun y=> .bool y) (fun _=> []):=by
 refine cmQ fun r hM=> ?_
 rw [jX.eq_1] at hM
 refine av al ar noJ Tryz.func10 rfl Tryz.ntmps10 (by kernel_rfl) fun hw=>au ?_
 refine spQ ?_
 replace hw:=nzQ hw
 have hF:=aW
 exact auQ
set_option maxHeartbeats 2000000 in
set_option maxRecDepth 100000 in
instance Nm (x_:Int) (low:Int) (high:Int):CM En (om x_ low high) 172 [.int .i64 x_,.int .i64 low,.int .i64 high] (fun y=> .bool y) (fun _=> []):=by
 refine cmQ fun r hM=> ?_
 rw [om.eq_1] at hM
 refine av al ar noJ Tryz.func172 rfl Tryz.ntmps172 (by kernel_rfl) fun hw=>au ?_
 refine spQ ?_
 replace hw:=nzQ hw
 have hF:=aW
 exact auQ
set_option maxHeartbeats 2000000 in
set_option maxRecDepth 100000 in
instance Nn (bank:Int) (epoch:Int) (from_:Int) (until_:Int) (final:Int):CM En (u7 bank epoch from_ until_ final) 171 [.int .i64 bank,.int .i64 epoch,.int .i64 from_,.int .i64 until_,.int .i64 final] (fun y=> .bool y) (fun _=> []):=by
 refine cmQ fun r hM=> ?_
 rw [u7.eq_1] at hM
 refine av al ar noJ Tryz.func171 rfl Tryz.ntmps171 (by kernel_rfl) fun hw=>au ?_
 refine spQ ?_
 replace hw:=nzQ hw
 have hF:=aW
 exact auQ
set_option maxHeartbeats 2000000 in
set_option maxRecDepth 100000 in
instance Np (d_:dH):CM En (gE d_) 229 [.agg [.int .i64 d_.Value,.int .i64 d_.Depth]] (fun y=> .bool y) (fun _=> []):=by
 refine cmQ fun r hM=> ?_
 rw [gE.eq_1] at hM
 refine av al ar noJ Tryz.func229 rfl Tryz.ntmps229 (by kernel_rfl) fun hw=>au ?_
 refine spQ ?_
 replace hw:=nzQ hw
 refine aB (fun h1=> ?_) (fun h1=> ?_)
 ·have kh1:(mD d_ jO)=true:=h1
  rw [if_pos kh1] at hM
  refine aa h1 ?_
  subst hM
  exact aw (az h1)
 ·have kh1:(mD d_ jO)=false:=h1
  rw [if_neg (ap kh1)] at hM
  refine aa h1 ?_
  have nh1:=nzQ kh1
  try have hr3:=mpQ nh1
  refine bN 33 24 [6,7,8,9,10,11,12,13,14,15,16,17,18,19,20,21,22,23,24,25,26,27,28,29] [] ([[],[0],[0,1],[0,1,2],[0,1,2,3],[0,1,2,3,4],[0,1,2,3,4,5],[0,1,2,3,4,5,6],[0,1,2,3,4,5,6,7],[0,1,2,3,4,5,6,7,8],[0,1,2,3,4,5,6,7,8,9],[0,1,2,3,4,5,6,7,8,9,10],[0,1,2,3,4,5,6,7,8,9,10,11],[0,1,2,3,4,5,6,7,8,9,10,11,12],[0,1,2,3,4,5,6,7,8,9,10,11,12,13],[0,1,2,3,4,5,6,7,8,9,10,11,12,13,14],[0,1,2,3,4,5,6,7,8,9,10,11,12,13,14,15],[0,1,2,3,4,5,6,7,8,9,10,11,12,13,14,15,16],[0,1,2,3,4,5,6,7,8,9,10,11,12,13,14,15,16,17],[0,1,2,3,4,5,6,7,8,9,10,11,12,13,14,15,16,17,18],[0,1,2,3,4,5,6,7,8,9,10,11,12,13,14,15,16,17,18,19],[0,1,2,3,4,5,6,7,8,9,10,11,12,13,14,15,16,17,18],[0,1,2,3,4,5,6,7,8,9,10,11,12,13,14,15,16,17,18,21],[0,1,2,3,4,5,6,7,8,9,10,11,12,13,14,15,16,17,18,21,22]]++[List.range 24,List.range 25,List.range 26,List.range 27]) [] (by kernel_rfl) (by exact alQ) ?_
  refine spQ ?_
  refine gm (fun h4=> ?_) (fun h4=> ?_)
  ·rw [if_pos h4] at hM
   refine aa h4 ?_
   have nh4:=nzQ h4
   try have hr5:=mpQ nh4
   refine gm (fun h6=> ?_) (fun h6=> ?_)
   ·rw [if_pos h6] at hM
    refine aa h6 ?_
    have nh6:=nzQ h6
    try have hr7:=mpQ nh6
    refine gm (fun h8=> ?_) (fun h8=> ?_)
    ·rw [if_pos h8] at hM
     refine aa h8 ?_
     have nh8:=nzQ h8
     try have hr9:=mpQ nh8
     refine gm (fun h10=> ?_) (fun h10=> ?_)
     ·rw [if_pos h10] at hM
      refine aa h10 ?_
      have nh10:=nzQ h10
      try have hr11:=mpQ nh10
      refine b_ omQ ?_
      refine spQ ?_
      refine aP (by (clear hM;simp only [decide_eq_true_eq] at*;rcases (show d_.Depth=0∨d_.Depth=1∨d_.Depth=2∨d_.Depth=3∨d_.Depth=4∨d_.Depth=5 by omega) with h|h|h|h|h|h<;>rw [h]<;>decide)) ?_
      refine spQ ?_
      subst hM
      exact aw (az (And.intro h1 (And.intro h4 (And.intro h6 (And.intro h8 h10)))))
     ·rw [if_neg (ap h10)] at hM
      refine aa h10 ?_
      subst hM
      exact aw (az (And.intro h1 (And.intro h4 (And.intro h6 (And.intro h8 h10)))))
    ·rw [if_neg (ap h8)] at hM
     refine aa h8 ?_
     subst hM
     exact aw (az (And.intro h1 (And.intro h4 (And.intro h6 h8))))
   ·rw [if_neg (ap h6)] at hM
    refine aa h6 ?_
    subst hM
    exact aw (az (And.intro h1 (And.intro h4 h6)))
  ·rw [if_neg (ap h4)] at hM
   refine aa h4 ?_
   subst hM
   exact aw (az (And.intro h1 h4))
end Go.Proofs.YtcbbjfckokckcaaGreatDoor
