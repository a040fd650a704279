/- Texts of this proof, one after the other: EG, U1. -/
import Derived.Test.YtlmleoeemmhboaaGreatDoorZ8
import Derived.Lib.AppendZeros
import Derived.Test.YtlmleoeemmhboaaGreatDoorZ6
import Derived.Test.YtlmleoeemmhboaaGreatDoorZ7
set_option linter.unusedVariables false
set_option linter.unusedSimpArgs false
namespace Go.Proofs.YtlmleoeemmhboaaGreatDoor
open Go.RowKit
set_option linter.unusedVariables false
set_option linter.unusedSimpArgs false
theorem Ik {n:Int} {x:List Int} (h:x=ri [] n):x.length=0:=by subst h;rfl
theorem Il: ∃i:TypeInfo,Tryz.prog.info? 5=some i∧i.zero=some (.int .u8 0)∧i.size=1∧i.bytes=1:=by
 have h:(Tryz.prog.info? 5).map (fun i=>(i.zero,i.size,i.bytes))=some (some (.int .u8 0),1,1):=by kernel_rfl
 cases hi:Tryz.prog.info? 5 with
 | none=>rw [hi] at h;cases h
 | some i=>
  rw [hi] at h
  simp only [Option.map_some,Option.some.injEq,Prod.mk.injEq] at h
  exact ⟨i,rfl,h.1,h.2.1,h.2.2⟩
set_option maxHeartbeats 4000000 in
set_option maxRecDepth 100000 in
theorem Im (n:Nat) (hn:0<n) (h9:n≤100000000) (w:World):Calls Tryz.prog 121 #[.slice none 0 0,.int .i64 (n:Int)] w fun e w'=>
  e= .returned (.slice (some ⟨w.heap.size,0,none⟩) 0 (grownCap w n 0 5))∧w'=w.drew.alloc (.cells (Builtin.zeroCells (Value.int .u8 0).cells n++Builtin.zeroCells (Value.int .u8 0).cells (grownCap w n 0 5 - n)) 5):=by
 obtain ⟨i,hi,hz,hs,hb⟩:=Il
 have hap:=fun ty=>Lib.run_append_nil_zeros (P:=Tryz.prog) w 34 3 ty 5 i (.int .u8 0) .i64 .i64 Tryz.underlying34 Tryz.underlying3 hi hz n hn (by omega) (by omega) (by rw [hb];omega)
 have hge:=grownCap_ge w n 0 5
 have hq1: ¬((n:Int)<0):=by omega
 have hq2:(0:Int)<(n:Int):=by omega
 go_enter Tryz.func121,Tryz.ntmps121
 have hb5:Tryz.t5.bytes=1:=by kernel_rfl
 have hns:Builtin.nextslicecap n 0=n:=by unfold Builtin.nextslicecap;simp;omega
 go_wp2
 all_goals first|(exfalso;rw [hb5] at*;omega)|(exfalso;omega)|skip
 refine ⟨rfl,_,results_tmp rfl _ _ _,?_,?_⟩
 ·rfl
 ·rfl
set_option maxHeartbeats 4000000 in
set_option maxRecDepth 100000 in
theorem Io (w:World):Calls Tryz.prog 121 #[.slice none 0 0,.int .i64 0] w fun e w'=>
  e= .returned (.slice none 0 0)∧w'=w:=by
 go_enter Tryz.func121,Tryz.ntmps121
 go_wp2
 exact ⟨rfl,_,results_tmp rfl _ _ _,rfl,rfl⟩
theorem Ip (z0:Option Bool) (a0:List Int) (a1:Int) (hp0:z0=some true) (hp1:a0=[]) (hp2:0≤a1) (hp3:a1≤100000000):bC En 121 [.sl z0 1 false (a0.map (V.int .u8)),.int .i64 a1] (.own 0) [.own 5 1 false none ((ri a0 a1).map (V.int .u8))]:=by
 subst hp0 hp1
 refine ⟨show∀xs w,(callFunc 121 xs).run En.P w= .ok (.enter 121 xs) w from enters_of Tryz.func121 (by kernel_rfl) rfl,fun c us _ hg hus=> ?_⟩
 simp only [rdT] at hus
 obtain ⟨u0,c0,rfl,h0,u1,c1,rfl,h1,rfl⟩:=hus
 simp only [rd,List.map_nil,List.length_nil] at h0 h1
 obtain ⟨a,cap,rfl,_,⟨rfl,rfl⟩,_⟩:=h0
 obtain ⟨rfl,_⟩:=h1
 show Calls Tryz.prog _ _ _ _
 obtain ⟨n,rfl⟩: ∃n:Nat,a1=n:=⟨a1.toNat,by omega⟩
 by_cases h9:n=0
 ·subst h9
  refine (Io c.w).mono ?_
  rintro e w' ⟨rfl,rfl⟩
  refine ⟨_,c,fun i=>if i=0 then some (.slice none 0 0) else none,rfl,rfl,Cx.le.refl c,⟨rfl,rfl⟩,?_,fun i hi=> ?_,fun i j bi bj k hij hi hj=> ?_⟩
  ·intro i b hb
   match i,hb with
   | 0,hb=>
    simp only [List.getElem?_cons_zero,Option.some.injEq] at hb
    subst hb
    exact ⟨⟨_,_,_,_,_,rfl⟩,_,rfl,Own.nil,fun k hk=>(by cases hk),fun _=>rfl,_,_,rfl,fun _=>rfl⟩
  ·exact if_neg (by simp only [List.length_cons,List.length_nil] at hi;omega)
  ·have:i=0:=by
    have:=(List.getElem?_eq_some_iff.1 hi).1
    simp at this;exact this
   have:j=0:=by
    have:=(List.getElem?_eq_some_iff.1 hj).1
    simp at this;exact this
   omega
 ·refine (Im n (by omega) (by omega) c.w).mono ?_
  rintro e w' ⟨rfl,rfl⟩
  have hge:=grownCap_ge c.w n 0 5
  have hcm:grownCap c.w n 0 5≤maxLen:=grownCap_le_maxLen c.w _ 0 5 (by unfold maxLen;omega)
  obtain ⟨c',h1,h2,h3,h4⟩:=o7 c 5 (rV ro0 1 false) [] [] (Builtin.zeroCells (Value.int .u8 0).cells n++Builtin.zeroCells (Value.int .u8 0).cells (grownCap c.w n 0 5 - n)) (grownCap c.w n 0 5) (by omega) (Nat.zero_le _) hcm (Nat.zero_le _)
   rfl (by rw [Array.size_append,size_zeroCells,size_zeroCells];show n*1+(grownCap c.w n 0 5 - n)*1=(grownCap c.w n 0 5 - 0)*1;omega) c.w.drew ⟨rfl,rfl,rfl,rfl⟩
  refine ⟨_,c',fun i=>if i=0 then some (.slice (some ⟨c.w.heap.size,0,none⟩) 0 (grownCap c.w n 0 5)) else none,rfl,by rw [h1];simp,h2,⟨rfl,rfl⟩,?_,fun i hi=> ?_,fun i j bi bj k hij hi hj=> ?_⟩
  ·intro i b hb
   match i,hb with
   | 0,hb=>
    simp only [List.getElem?_cons_zero,Option.some.injEq] at hb
    subst hb
    refine ⟨⟨_,_,_,_,_,rfl⟩,_,rfl,h3,fun k hk=> ?_,fun _=>rfl,_,_,rfl,fun h=>(by cases h)⟩
    obtain rfl:=lz hk
    exact .inl (Nat.le_refl _)
  ·exact if_neg (by simp only [List.length_cons,List.length_nil] at hi;omega)
  ·have:i=0:=by
    have:=(List.getElem?_eq_some_iff.1 hi).1
    simp at this;exact this
   have:j=0:=by
    have:=(List.getElem?_eq_some_iff.1 hj).1
    simp at this;exact this
   omega
end Go.Proofs.YtlmleoeemmhboaaGreatDoor
namespace Go.Proofs.YtlmleoeemmhboaaGreatDoor
open Go.RowKit
set_option linter.unusedSimpArgs false
set_option maxHeartbeats 2000000 in
set_option maxRecDepth 100000 in
instance MA (x_:Int):CM En (oo x_) 165 [.int .u64 x_] (fun y=> .int .i64 y) (fun _=> []):=by
 refine cmQ fun r hM=> ?_
 rw [oo.eq_1] at hM
 refine aO aA aK noJ Tryz.func165 rfl Tryz.ntmps165 (by kernel_rfl) fun hw=>aL ?_
 refine spQ ?_
 replace hw:=nzQ hw
 have h0_0:=zp (x:=bG .u64 x_ (jm .u64 x_))
 refine aB (fun h1=> ?_) (fun h1=> ?_)
 ·rw [if_pos h1] at hM
  refine aa h1 ?_
  have nh1:=nzQ h1
  try have hr2:=mpQ nh1
  subst hM
  exact ar (av h1)
 ·rw [if_neg (an h1)] at hM
  refine aa h1 ?_
  have nh1:=nzQ h1
  try have hr3:=mpQ nh1
  refine aN omQ ?_
  have he4:=og (f:=V.int .u8) (l:=jH) (n:=64) (i:=(au .u64 (aT .u64 (bG .u64 x_ (jm .u64 x_)) 285870213051353865) 58)) rfl omQ
  replace he4:=spR he4
  refine aa he4 ?_
  subst hM
  exact ar (av (And.intro he4 h1))
set_option maxHeartbeats 2000000 in
set_option maxRecDepth 100000 in
instance MB (x_:Int) (y:Int):CM En (jU x_ y) 197 [.int .u64 x_,.int .u64 y] (fun y=> .tup [.int .u64 y.1,.int .u64 y.2]) (fun _=> []):=by
 refine cmQ fun r hM=> ?_
 rw [jU.eq_1] at hM
 refine aO aA aK noJ Tryz.func197 rfl Tryz.ntmps197 (by kernel_rfl) fun hw=>aL ?_
 refine spQ ?_
 replace hw:=nzQ hw
 subst hM
 exact ar lfQ
set_option maxHeartbeats 2000000 in
set_option maxRecDepth 100000 in
instance MC (x_:Int):CM En (kX x_) 214 [.int .u64 x_] (fun y=> .int .i64 y) (fun _=> []):=by
 refine cmQ fun r hM=> ?_
 rw [kX.eq_1] at hM
 refine aO aA aK noJ Tryz.func214 rfl Tryz.ntmps214 (by kernel_rfl) fun hw=>aL ?_
 refine spQ ?_
 replace hw:=nzQ hw
 have hF:=ct
 exact auQ
instance (priority:=1001):DRD 6 135 7 [6,28,29,30,31,32,33] [] ([[],[],[0,1],[],[],[3,4],[0,1,2]]++[List.range 7]) []:=⟨trivial⟩
set_option maxHeartbeats 2000000 in
set_option maxRecDepth 100000 in
theorem Ak (hi:Int) (lo:Int) (y:Int) (hp0:hi<y):CM En (mB hi lo y) 198 [.int .u64 hi,.int .u64 lo,.int .u64 y] (fun y=> .tup [.int .u64 y.1,.int .u64 y.2]) (fun _=> []):=by
 refine cmQ fun r hM=> ?_
 rw [mB.eq_1] at hM
 refine aO aA aK [21,28] Tryz.func198 rfl Tryz.ntmps198 (by kernel_rfl) fun hw=>aL ?_
 refine spQ ?_
 replace hw:=nzQ hw
 refine aB (fun h1=> ?_) (fun h1=> ?_)
 ·rw [if_pos h1] at hM
  refine aa h1 ?_
  have nh1:=nzQ h1
  try have hr2:=mpQ nh1
  exact False.elim omQ
 ·rw [if_neg (an h1)] at hM
  refine aa h1 ?_
  have nh1:=nzQ h1
  try have hr3:=mpQ nh1
  refine aB (fun h4=> ?_) (fun h4=> ?_)
  ·rw [if_pos h4] at hM
   refine aa h4 ?_
   have nh4:=nzQ h4
   try have hr5:=mpQ nh4
   exact False.elim omQ
  ·rw [if_neg (an h4)] at hM
   refine aa h4 ?_
   have nh4:=nzQ h4
   try have hr6:=mpQ nh4
   refine aB (fun h7=> ?_) (fun h7=> ?_)
   ·rw [if_pos h7] at hM
    refine aa h7 ?_
    have nh7:=nzQ h7
    try have hr8:=mpQ nh7
    have hF:=(And.intro h1 (And.intro h4 h7))
    exact auQ
   ·rw [if_neg (an h7)] at hM
    refine aa h7 ?_
    have nh7:=nzQ h7
    try have hr9:=mpQ nh7
    have hM0:=hM;clear hM;obtain ⟨x10,hx11,hM⟩:=ay hM0;clear hM0
    have hcx10:=cmU hx11
    refine aQ hcx10 clQ clQ (fun hw12=> ?_)
    replace hw12:=nzQ hw12
    refine spQ ?_
    have hq13:=GZ hx11 (by omega) (by omega)
    replace hq13:=nzQ hq13
    refine aN (by (exact lY _)) ?_
    refine spQ ?_
    refine aN (by (exact lY _)) ?_
    refine spQ ?_
    refine aN (by (exact (ng .u64 _ _).1)) ?_
    refine spQ ?_
    refine aN (by (exact lY _)) ?_
    refine spQ ?_
    refine aN omQ ?_
    refine spQ ?_
    have hM0:=hM;clear hM;obtain ⟨j14,hj14,hM⟩:=kL hM0;clear hM0
    refine kI (fun S=> ∃p:Int,S=(⟨[(2,.int .u64 (ap .u64 y (ae .u64 x10))),(8,.int .u64 (ae .u64 x10)),(9,.int .u64 (au .u64 (ap .u64 y (ae .u64 x10)) 32)),(10,.int .u64 (bG .u64 (ap .u64 y (ae .u64 x10)) 4294967295)),(11,.int .u64 (orI .u64 (ap .u64 hi (ae .u64 x10)) (au .u64 lo (aD .u64 64 (ae .u64 x10))))),(13,.int .u64 (au .u64 (ap .u64 lo (ae .u64 x10)) 32)),(14,.int .u64 (bG .u64 (ap .u64 lo (ae .u64 x10)) 4294967295)),(15,.int .u64 p)],[],0⟩:St)∧(True)∧j14 p=r) ?_ (fun hcut14=> ?_)
    ·clear hM
     rintro S ⟨p14,rfl,hfa14,hM⟩
     have hM0:=hM;clear hM;have hM:=i0 hM0 hj14;clear hM0
     try refine spQ ?_
     refine aN omQ ?_
     refine spQ ?_
     have hM0:=hM;clear hM;obtain ⟨j15,hj15,hM⟩:=kL hM0;clear hM0
     refine kI (fun S=> ∃p:Int,S=(⟨[(2,.int .u64 (ap .u64 y (ae .u64 x10))),(8,.int .u64 (ae .u64 x10)),(14,.int .u64 (bG .u64 (ap .u64 lo (ae .u64 x10)) 4294967295)),(15,.int .u64 p14),(17,.int .u64 (aD .u64 (aq .u64 (aT .u64 (orI .u64 (ap .u64 hi (ae .u64 x10)) (au .u64 lo (aD .u64 64 (ae .u64 x10)))) 4294967296) (au .u64 (ap .u64 lo (ae .u64 x10)) 32)) (aT .u64 p14 (ap .u64 y (ae .u64 x10))))),(18,.int .u64 p)],[],0⟩:St)∧(True)∧j15 p=r) ?_ (fun hcut15=> ?_)
     ·clear hM
      rintro S ⟨p15,rfl,hfa15,hM⟩
      have hM0:=hM;clear hM;have hM:=i0 hM0 hj15;clear hM0
      try refine spQ ?_
      refine aN (by (exact lY _)) ?_
      refine spQ ?_
      subst hM
      exact ar (av (And.intro h1 (And.intro h4 h7)))
     ·refine spQ ?_
      have hM0:=hM;clear hM;obtain ⟨f16,d16,hf16,hd16,hM⟩:=bd hM0;clear hM0
      refine bF (fun n S=> ∃p:Int×Int,S=(⟨[(2,.int .u64 (ap .u64 y (ae .u64 x10))),(8,.int .u64 (ae .u64 x10)),(9,.int .u64 (au .u64 (ap .u64 y (ae .u64 x10)) 32)),(10,.int .u64 (bG .u64 (ap .u64 y (ae .u64 x10)) 4294967295)),(14,.int .u64 (bG .u64 (ap .u64 lo (ae .u64 x10)) 4294967295)),(15,.int .u64 p14),(16,.int .u64 p.1),(17,.int .u64 (aD .u64 (aq .u64 (aT .u64 (orI .u64 (ap .u64 hi (ae .u64 x10)) (au .u64 lo (aD .u64 64 (ae .u64 x10)))) 4294967296) (au .u64 (ap .u64 lo (ae .u64 x10)) 32)) (aT .u64 p14 (ap .u64 y (ae .u64 x10))))),(18,.int .u64 p.2)],[],0⟩:St)∧((0≤p.1∧p.1≤4294967295))∧(4294967296 - p.1).toNat<n∧ao n f16 d16 p=r) ((4294967296 - (aD .u64 (aD .u64 (aq .u64 (aT .u64 (orI .u64 (ap .u64 hi (ae .u64 x10)) (au .u64 lo (aD .u64 64 (ae .u64 x10)))) 4294967296) (au .u64 (ap .u64 lo (ae .u64 x10)) 32)) (aT .u64 p14 (ap .u64 y (ae .u64 x10)))) (aT .u64 (cR .u64 (aD .u64 (aq .u64 (aT .u64 (orI .u64 (ap .u64 hi (ae .u64 x10)) (au .u64 lo (aD .u64 64 (ae .u64 x10)))) 4294967296) (au .u64 (ap .u64 lo (ae .u64 x10)) 32)) (aT .u64 p14 (ap .u64 y (ae .u64 x10)))) (au .u64 (ap .u64 y (ae .u64 x10)) 32)) (au .u64 (ap .u64 y (ae .u64 x10)) 32)))).toNat+1) _ sbQ sbQ ⟨((aD .u64 (aD .u64 (aq .u64 (aT .u64 (orI .u64 (ap .u64 hi (ae .u64 x10)) (au .u64 lo (aD .u64 64 (ae .u64 x10)))) 4294967296) (au .u64 (ap .u64 lo (ae .u64 x10)) 32)) (aT .u64 p14 (ap .u64 y (ae .u64 x10)))) (aT .u64 (cR .u64 (aD .u64 (aq .u64 (aT .u64 (orI .u64 (ap .u64 hi (ae .u64 x10)) (au .u64 lo (aD .u64 64 (ae .u64 x10)))) 4294967296) (au .u64 (ap .u64 lo (ae .u64 x10)) 32)) (aT .u64 p14 (ap .u64 y (ae .u64 x10)))) (au .u64 (ap .u64 y (ae .u64 x10)) 32)) (au .u64 (ap .u64 y (ae .u64 x10)) 32))),(cR .u64 (aD .u64 (aq .u64 (aT .u64 (orI .u64 (ap .u64 hi (ae .u64 x10)) (au .u64 lo (aD .u64 64 (ae .u64 x10)))) 4294967296) (au .u64 (ap .u64 lo (ae .u64 x10)) 32)) (aT .u64 p14 (ap .u64 y (ae .u64 x10)))) (au .u64 (ap .u64 y (ae .u64 x10)) 32))),rfl,by (exact zz (Hb _ _) (by omega) (by omega)),(Nat.lt_succ_self _),hM⟩ ?_
      clear hM
      rintro n16 S ⟨p16,rfl,hF24_0,hm16,hM⟩
      have hM0:=hM;clear hM;obtain ⟨ag16,hag16,hM⟩:=bf hM0 (by omega) hf16;clear hM0
      replace hm16:=nzQ hm16
      refine spQ ?_
      refine aY (fun h17=> ?_) (fun h17=> ?_)
      ·rw [if_neg (an h17)] at hM
       refine aa h17 ?_
       have nh17:=nzQ h17
       try have hr18:=mpQ nh17
       refine aB (fun h19=> ?_) (fun h19=> ?_)
       ·rw [if_pos h19] at hM
        refine aa h19 ?_
        have nh19:=nzQ h19
        try have hr20:=mpQ nh19
        refine aB (fun h21=> ?_) (fun h21=> ?_)
        ·rw [if_pos h21] at hM
         refine aa h21 ?_
         have nh21:=nzQ h21
         try have hr22:=mpQ nh21
         exact dV _ sbQ sbQ (hcut15 _ ⟨(aD .u64 p16.2 1),rfl,trivial,hM⟩)
        ·rw [if_neg (an h21)] at hM
         refine aa h21 ?_
         have nh21:=nzQ h21
         try have hr23:=mpQ nh21
         refine b_ (n16 - 1) _ (by omega) sbQ sbQ ⟨((aq .u64 p16.1 (au .u64 (ap .u64 y (ae .u64 x10)) 32)),(aD .u64 p16.2 1)),rfl,by (have h9:=j_ (a:=p16.1) (b:=(au .u64 (ap .u64 y (ae .u64 x10)) 32)) (by omega) (by omega) (by omega) (by omega);omega),by (have h9:=j_ (a:=p16.1) (b:=(au .u64 (ap .u64 y (ae .u64 x10)) 32)) (by omega) (by omega) (by omega) (by omega);omega),ca hM hag16⟩
       ·rw [if_neg (an h19)] at hM
        refine aa h19 ?_
        have nh19:=nzQ h19
        try have hr24:=mpQ nh19
        exact dV _ sbQ sbQ (hcut15 _ ⟨p16.2,rfl,trivial,hM⟩)
      ·rw [if_pos h17] at hM
       refine aa h17 ?_
       have nh17:=nzQ h17
       try have hr25:=mpQ nh17
       refine aB (fun h26=> ?_) (fun h26=> ?_)
       ·rw [if_pos h26] at hM
        refine aa h26 ?_
        have nh26:=nzQ h26
        try have hr27:=mpQ nh26
        exact dV _ sbQ sbQ (hcut15 _ ⟨(aD .u64 p16.2 1),rfl,trivial,hM⟩)
       ·rw [if_neg (an h26)] at hM
        refine aa h26 ?_
        have nh26:=nzQ h26
        try have hr28:=mpQ nh26
        refine b_ (n16 - 1) _ (by omega) sbQ sbQ ⟨((aq .u64 p16.1 (au .u64 (ap .u64 y (ae .u64 x10)) 32)),(aD .u64 p16.2 1)),rfl,by (have h9:=j_ (a:=p16.1) (b:=(au .u64 (ap .u64 y (ae .u64 x10)) 32)) (by omega) (by omega) (by omega) (by omega);omega),by (have h9:=j_ (a:=p16.1) (b:=(au .u64 (ap .u64 y (ae .u64 x10)) 32)) (by omega) (by omega) (by omega) (by omega);omega),ca hM hag16⟩
    ·refine spQ ?_
     have hM0:=hM;clear hM;obtain ⟨f29,d29,hf29,hd29,hM⟩:=bd hM0;clear hM0
     refine bF (fun n S=> ∃p:Int×Int,S=(⟨[(2,.int .u64 (ap .u64 y (ae .u64 x10))),(8,.int .u64 (ae .u64 x10)),(9,.int .u64 (au .u64 (ap .u64 y (ae .u64 x10)) 32)),(10,.int .u64 (bG .u64 (ap .u64 y (ae .u64 x10)) 4294967295)),(11,.int .u64 (orI .u64 (ap .u64 hi (ae .u64 x10)) (au .u64 lo (aD .u64 64 (ae .u64 x10))))),(13,.int .u64 (au .u64 (ap .u64 lo (ae .u64 x10)) 32)),(14,.int .u64 (bG .u64 (ap .u64 lo (ae .u64 x10)) 4294967295)),(15,.int .u64 p.1),(16,.int .u64 p.2)],[],0⟩:St)∧((0≤p.2∧p.2≤4294967295))∧(4294967296 - p.2).toNat<n∧ao n f29 d29 p=r) ((4294967296 - (aD .u64 (orI .u64 (ap .u64 hi (ae .u64 x10)) (au .u64 lo (aD .u64 64 (ae .u64 x10)))) (aT .u64 (cR .u64 (orI .u64 (ap .u64 hi (ae .u64 x10)) (au .u64 lo (aD .u64 64 (ae .u64 x10)))) (au .u64 (ap .u64 y (ae .u64 x10)) 32)) (au .u64 (ap .u64 y (ae .u64 x10)) 32)))).toNat+1) _ sbQ sbQ ⟨((cR .u64 (orI .u64 (ap .u64 hi (ae .u64 x10)) (au .u64 lo (aD .u64 64 (ae .u64 x10)))) (au .u64 (ap .u64 y (ae .u64 x10)) 32)),(aD .u64 (orI .u64 (ap .u64 hi (ae .u64 x10)) (au .u64 lo (aD .u64 64 (ae .u64 x10)))) (aT .u64 (cR .u64 (orI .u64 (ap .u64 hi (ae .u64 x10)) (au .u64 lo (aD .u64 64 (ae .u64 x10)))) (au .u64 (ap .u64 y (ae .u64 x10)) 32)) (au .u64 (ap .u64 y (ae .u64 x10)) 32)))),rfl,by (exact zz (Ha _ _) (by omega) (by omega)),(Nat.lt_succ_self _),hM⟩ ?_
     clear hM
     rintro n29 S ⟨p29,rfl,hF17_0,hm29,hM⟩
     have hM0:=hM;clear hM;obtain ⟨ag29,hag29,hM⟩:=bf hM0 (by omega) hf29;clear hM0
     replace hm29:=nzQ hm29
     refine spQ ?_
     refine aY (fun h30=> ?_) (fun h30=> ?_)
     ·rw [if_neg (an h30)] at hM
      refine aa h30 ?_
      have nh30:=nzQ h30
      try have hr31:=mpQ nh30
      refine aB (fun h32=> ?_) (fun h32=> ?_)
      ·rw [if_pos h32] at hM
       refine aa h32 ?_
       have nh32:=nzQ h32
       try have hr33:=mpQ nh32
       refine aB (fun h34=> ?_) (fun h34=> ?_)
       ·rw [if_pos h34] at hM
        refine aa h34 ?_
        have nh34:=nzQ h34
        try have hr35:=mpQ nh34
        exact dV _ sbQ sbQ (hcut14 _ ⟨(aD .u64 p29.1 1),rfl,trivial,hM⟩)
       ·rw [if_neg (an h34)] at hM
        refine aa h34 ?_
        have nh34:=nzQ h34
        try have hr36:=mpQ nh34
        refine b_ (n29 - 1) _ (by omega) sbQ sbQ ⟨((aD .u64 p29.1 1),(aq .u64 p29.2 (au .u64 (ap .u64 y (ae .u64 x10)) 32))),rfl,by (have h9:=j_ (a:=p29.2) (b:=(au .u64 (ap .u64 y (ae .u64 x10)) 32)) (by omega) (by omega) (by omega) (by omega);omega),by (have h9:=j_ (a:=p29.2) (b:=(au .u64 (ap .u64 y (ae .u64 x10)) 32)) (by omega) (by omega) (by omega) (by omega);omega),ca hM hag29⟩
      ·rw [if_neg (an h32)] at hM
       refine aa h32 ?_
       have nh32:=nzQ h32
       try have hr37:=mpQ nh32
       exact dV _ sbQ sbQ (hcut14 _ ⟨p29.1,rfl,trivial,hM⟩)
     ·rw [if_pos h30] at hM
      refine aa h30 ?_
      have nh30:=nzQ h30
      try have hr38:=mpQ nh30
      refine aB (fun h39=> ?_) (fun h39=> ?_)
      ·rw [if_pos h39] at hM
       refine aa h39 ?_
       have nh39:=nzQ h39
       try have hr40:=mpQ nh39
       exact dV _ sbQ sbQ (hcut14 _ ⟨(aD .u64 p29.1 1),rfl,trivial,hM⟩)
      ·rw [if_neg (an h39)] at hM
       refine aa h39 ?_
       have nh39:=nzQ h39
       try have hr41:=mpQ nh39
       refine b_ (n29 - 1) _ (by omega) sbQ sbQ ⟨((aD .u64 p29.1 1),(aq .u64 p29.2 (au .u64 (ap .u64 y (ae .u64 x10)) 32))),rfl,by (have h9:=j_ (a:=p29.2) (b:=(au .u64 (ap .u64 y (ae .u64 x10)) 32)) (by omega) (by omega) (by omega) (by omega);omega),by (have h9:=j_ (a:=p29.2) (b:=(au .u64 (ap .u64 y (ae .u64 x10)) 32)) (by omega) (by omega) (by omega) (by omega);omega),ca hM hag29⟩
set_option maxHeartbeats 2000000 in
set_option maxRecDepth 100000 in
theorem rG (a_:Int) (b:Int) (n_:Int) (hp0:a_<n_):CM En (fN a_ b n_) 195 [.int .u64 a_,.int .u64 b,.int .u64 n_] (fun y=> .int .u64 y) (fun _=> []):=by
 refine cmQ fun r hM=> ?_
 rw [fN.eq_1] at hM
 refine aO aA aK noJ Tryz.func195 rfl Tryz.ntmps195 (by kernel_rfl) fun hw=>aL ?_
 refine spQ ?_
 replace hw:=nzQ hw
 have hM0:=hM;clear hM;obtain ⟨x1,hx2,hM⟩:=ay hM0;clear hM0
 have hcx1:=cmU hx2
 refine aQ hcx1 clQ clQ (fun hw3=> ?_)
 replace hw3:=nzQ hw3
 refine spQ ?_
 have hq4:=zy n_ hx2 (by omega) (by omega) (by omega) (by omega) (by omega)
 replace hq4:=nzQ hq4
 have hM0:=hM;clear hM;obtain ⟨x5,hx6,hM⟩:=ay hM0;clear hM0
 have hcx5:=cmH hx6 (Ak (x1.1) (x1.2) n_ (by (exact pfQ)))
 refine aQ hcx5 clQ clQ (fun hw7=> ?_)
 replace hw7:=nzQ hw7
 refine spQ ?_
 subst hM
 exact ar lfQ
set_option maxHeartbeats 2000000 in
set_option maxRecDepth 100000 in
theorem Iq (a_:Int) (e_:Int) (n_:Int) (hp0:a_<n_) (hp1:1<n_):CM En (oq a_ e_ n_) 194 [.int .u64 a_,.int .u64 e_,.int .u64 n_] (fun y=> .int .u64 y) (fun _=> []):=by
 refine cmQ fun r hM=> ?_
 rw [oq.eq_1] at hM
 refine aO aA aK noJ Tryz.func194 rfl Tryz.ntmps194 (by kernel_rfl) fun hw=>aL ?_
 refine spQ ?_
 replace hw:=nzQ hw
 have hM0:=hM;clear hM;obtain ⟨f1,d1,hf1,hd1,hM⟩:=bd hM0;clear hM0
 refine bF (fun n S=> ∃p:Int×Int×Int,S=(⟨[(0,.int .u64 p.1),(1,.int .u64 p.2.1),(2,.int .u64 n_),(7,.int .u64 p.2.2)],[],0⟩:St)∧((0≤p.1)∧(p.1<n_)∧(0≤p.2.1)∧(0≤p.2.2)∧(p.2.2<n_))∧p.2.1.toNat<n∧ao n f1 d1 p=r) (e_.toNat+1) _ sbQ sbQ ⟨(a_,e_,1),rfl,⟨omQ,omQ,omQ,omQ,omQ⟩,(Nat.lt_succ_self _),hM⟩ ?_
 clear hM
 rintro n1 S ⟨p1,rfl,hfa1,hm1,hM⟩
 have hM0:=hM;clear hM;obtain ⟨ag1,hag1,hM⟩:=bf hM0 (by omega) hf1;clear hM0
 replace hfa1:=nzQ hfa1
 replace hm1:=nzQ hm1
 refine spQ ?_
 refine aB (fun h2=> ?_) (fun h2=> ?_)
 ·rw [if_pos h2] at hM
  refine aa h2 ?_
  have nh2:=nzQ h2
  try have hr3:=mpQ nh2
  refine aB (fun h4=> ?_) (fun h4=> ?_)
  ·rw [if_pos h4] at hM
   refine aa h4 ?_
   have nh4:=nzQ h4
   try have hr5:=mpQ nh4
   have hM0:=hM;clear hM;obtain ⟨x6,hx7,hM⟩:=ay hM0;clear hM0
   have hcx6:=cmH hx7 (rG (p1.2.2) (p1.1) n_ (by (exact pfQ)))
   refine aQ hcx6 clQ clQ (fun hw8=> ?_)
   replace hw8:=nzQ hw8
   refine spQ ?_
   have hq9:=li hx7 (by omega) (by omega) (by omega) (by omega) (by omega)
   replace hq9:=nzQ hq9
   have hM0:=hM;clear hM;obtain ⟨x10,hx11,hM⟩:=ay hM0;clear hM0
   have hcx10:=cmH hx11 (rG (p1.1) (p1.1) n_ (by (exact pfQ)))
   refine aQ hcx10 clQ clQ (fun hw12=> ?_)
   replace hw12:=nzQ hw12
   refine spQ ?_
   have hq13:=li hx11 (by omega) (by omega) (by omega) (by omega) (by omega)
   replace hq13:=nzQ hq13
   refine b_ (n1 - 1) _ (by omega) sbQ sbQ ⟨(x10,(au .u64 p1.2.1 1),x6),rfl,⟨by (clear hM;(try dsimp only);(try rw [cK]);(try rw [cO]);omega),by (clear hM;(try dsimp only);(try rw [cK]);(try rw [cO]);omega),by (clear hM;(try dsimp only);(try rw [cK]);(try rw [cO]);omega),by (clear hM;(try dsimp only);(try rw [cK]);(try rw [cO]);omega),by (clear hM;(try dsimp only);(try rw [cK]);(try rw [cO]);omega)⟩,by (clear hM;(try dsimp only);(try rw [cK]);(try rw [cO]);omega),ca hM hag1⟩
  ·rw [if_neg (an h4)] at hM
   refine aa h4 ?_
   have nh4:=nzQ h4
   try have hr14:=mpQ nh4
   have hM0:=hM;clear hM;obtain ⟨x15,hx16,hM⟩:=ay hM0;clear hM0
   have hcx15:=cmH hx16 (rG (p1.1) (p1.1) n_ (by (exact pfQ)))
   refine aQ hcx15 clQ clQ (fun hw17=> ?_)
   replace hw17:=nzQ hw17
   refine spQ ?_
   have hq18:=li hx16 (by omega) (by omega) (by omega) (by omega) (by omega)
   replace hq18:=nzQ hq18
   refine b_ (n1 - 1) _ (by omega) sbQ sbQ ⟨(x15,(au .u64 p1.2.1 1),p1.2.2),rfl,⟨by (clear hM;(try dsimp only);(try rw [cK]);(try rw [cO]);omega),by (clear hM;(try dsimp only);(try rw [cK]);(try rw [cO]);omega),by (clear hM;(try dsimp only);(try rw [cK]);(try rw [cO]);omega),by (clear hM;(try dsimp only);(try rw [cK]);(try rw [cO]);omega),by (clear hM;(try dsimp only);(try rw [cK]);(try rw [cO]);omega)⟩,by (clear hM;(try dsimp only);(try rw [cK]);(try rw [cO]);omega),ca hM hag1⟩
 ·rw [if_neg (an h2)] at hM
  refine aa h2 ?_
  have nh2:=nzQ h2
  try have hr19:=mpQ nh2
  subst hM
  exact ar (av h2)
set_option maxHeartbeats 2000000 in
set_option maxRecDepth 100000 in
theorem Ir (a_:Int) (n_:Int) (d_:Int) (s:Int) (hp0:a_<n_) (hp1:1<n_) (hp2:0≤s) (hp3:s≤64):CM En (uQ a_ n_ d_ s) 166 [.int .u64 a_,.int .u64 n_,.int .u64 d_,.int .i64 s] (fun y=> .bool y) (fun _=> []):=by
 refine cmQ fun r hM=> ?_
 rw [uQ.eq_1] at hM
 refine aO aA aK noJ Tryz.func166 rfl Tryz.ntmps166 (by kernel_rfl) fun hw=>aL ?_
 refine spQ ?_
 replace hw:=nzQ hw
 have h0_0:=Hm (x:=s) (by omega) (by omega)
 have hM0:=hM;clear hM;obtain ⟨x1,hx2,hM⟩:=ay hM0;clear hM0
 have hcx1:=cmH hx2 (Iq a_ d_ n_ (by (exact pfQ)) (by (exact pfQ)))
 refine aQ hcx1 clQ clQ (fun hw3=> ?_)
 replace hw3:=nzQ hw3
 refine spQ ?_
 have hq4:=Hc hx2 (by omega) (by omega) (by omega) (by omega)
 replace hq4:=nzQ hq4
 refine aY (fun h5=> ?_) (fun h5=> ?_)
 ·rw [if_neg (an h5)] at hM
  refine aa h5 ?_
  have nh5:=nzQ h5
  try have hr6:=mpQ nh5
  refine aB (fun h7=> ?_) (fun h7=> ?_)
  ·rw [if_pos h7] at hM
   refine aa h7 ?_
   have nh7:=nzQ h7
   try have hr8:=mpQ nh7
   subst hM
   exact ar (av (And.intro h5 h7))
  ·rw [if_neg (an h7)] at hM
   refine aa h7 ?_
   have nh7:=nzQ h7
   try have hr9:=mpQ nh7
   have hM0:=hM;clear hM;obtain ⟨f10,d10,hf10,hd10,hM⟩:=bd hM0;clear hM0
   refine bF (fun n S=> ∃p:Int×Int,S=(⟨[(1,.int .u64 n_),(9,.int .u64 p.1),(23,.int .i64 (aD .i64 s 1)),(24,.int .i64 p.2)],[],0⟩:St)∧((0≤p.2)∧(p.2≤aD .i64 s 1∨p.2≤0)∧(0≤p.1)∧(p.1<n_))∧(aD .i64 s 1 - p.2).toNat<n∧ao n f10 d10 p=r) ((aD .i64 s 1 - 0).toNat+1) _ sbQ sbQ ⟨(x1,0),rfl,⟨omQ,omQ,omQ,omQ⟩,(Nat.lt_succ_self _),hM⟩ ?_
   clear hM
   rintro n10 S ⟨p10,rfl,hfa10,hm10,hM⟩
   have hM0:=hM;clear hM;obtain ⟨ag10,hag10,hM⟩:=bf hM0 (by omega) hf10;clear hM0
   replace hfa10:=nzQ hfa10
   replace hm10:=nzQ hm10
   have ha10:aq .i64 p10.2 1=p10.2+1:=bp omQ omQ
   refine aa ha10 ?_
   refine aB (fun h11=> ?_) (fun h11=> ?_)
   ·rw [if_pos h11] at hM
    refine aa (And.intro ha10 h11) ?_
    have nh11:=nzQ h11
    try have hr12:=mpQ nh11
    have hM0:=hM;clear hM;obtain ⟨x13,hx14,hM⟩:=ay hM0;clear hM0
    have hcx13:=cmH hx14 (rG (p10.1) (p10.1) n_ (by (exact pfQ)))
    refine aQ hcx13 (ax ha10) (ax ha10) (fun hw15=> ?_)
    replace hw15:=nzQ hw15
    refine aa ha10 ?_
    have hq16:=li hx14 (by omega) (by omega) (by omega) (by omega) (by omega)
    replace hq16:=nzQ hq16
    have hF:=(And.intro h5 (And.intro h7 (And.intro ha10 h11)))
    exact auQ
   ·rw [if_neg (an h11)] at hM
    refine aa (And.intro ha10 h11) ?_
    have nh11:=nzQ h11
    try have hr20:=mpQ nh11
    subst hM
    exact ar (av (And.intro ha10 (And.intro h5 (And.intro h7 h11))))
 ·rw [if_pos h5] at hM
  refine aa h5 ?_
  have nh5:=nzQ h5
  try have hr21:=mpQ nh5
  subst hM
  exact ar (av h5)
set_option maxHeartbeats 2000000 in
set_option maxRecDepth 100000 in
instance MD (n_:Int):CM En (rb n_) 139 [.int .i64 n_] (fun y=> .bool y) (fun _=> []):=by
 refine cmQ fun r hM=> ?_
 rw [rb.eq_1] at hM
 refine aO aA aK noJ Tryz.func139 rfl Tryz.ntmps139 (by kernel_rfl) fun hw=>aL ?_
 refine spQ ?_
 replace hw:=nzQ hw
 have h0_0:=He
 refine aB (fun h1=> ?_) (fun h1=> ?_)
 ·rw [if_pos h1] at hM
  refine aa h1 ?_
  have nh1:=nzQ h1
  try have hr2:=mpQ nh1
  subst hM
  exact ar (av h1)
 ·rw [if_neg (an h1)] at hM
  refine aa h1 ?_
  have nh1:=nzQ h1
  try have hr3:=mpQ nh1
  have hM0:=hM;clear hM;obtain ⟨f4,d4,hf4,hd4,hM⟩:=bd hM0;clear hM0
  refine bF (fun n S=> ∃p:Int,S=(⟨[(3,.int .u64 (ae .u64 n_)),(13,.agg (cU.map (V.int .u64))),(14,.int .i64 p)],[],0⟩:St)∧(((0≤p)∧(p≤12))∧(oL (ae .u64 n_) p))∧((12:Int) - p).toNat<n∧ao n f4 d4 p=r) (((12:Int) - 0).toNat+1) _ sbQ sbQ ⟨0,rfl,⟨⟨by (first|exact omQ|(clear hM;first|(have hk:=cP (j:=p4) (by omega) (by omega);exact ah))),by (first|exact omQ|(clear hM;first|(have hk:=cP (j:=p4) (by omega) (by omega);exact ah)))⟩,by (exact Hg)⟩,(Nat.lt_succ_self _),hM⟩ ?_
  clear hM
  rintro n4 S ⟨p4,rfl,⟨hfa4,hF5_0⟩,hm4,hM⟩
  have hM0:=hM;clear hM;obtain ⟨ag4,hag4,hM⟩:=bf hM0 (by omega) hf4;clear hM0
  replace hfa4:=nzQ hfa4
  replace hm4:=nzQ hm4
  have ha4:aq .i64 p4 1=p4+1:=bp (by (first|exact omQ|(clear hM;first|(have hk:=cP (j:=p4) (by omega) (by omega);exact ah)))) (by (first|exact omQ|(clear hM;first|(have hk:=cP (j:=p4) (by omega) (by omega);exact ah))))
  refine aa ha4 ?_
  refine aB (fun h5=> ?_) (fun h5=> ?_)
  ·rw [if_pos h5] at hM
   refine aa (And.intro ha4 h5) ?_
   have nh5:=nzQ h5
   try have hr6:=mpQ nh5
   have he7:=og (f:=V.int .u64) (l:=cU) (n:=12) (i:=p4) rfl (by (first|exact omQ|(clear hM;first|(have hk:=cP (j:=p4) (by omega) (by omega);exact ah))))
   replace he7:=spR he7
   refine aa (And.intro ha4 he7) ?_
   refine aN (by (first|exact omQ|(clear hM;first|(have hk:=cP (j:=p4) (by omega) (by omega);exact ah)))) ?_
   refine aa (And.intro ha4 he7) ?_
   refine aN (by (first|exact omQ|(clear hM;first|(have hk:=cP (j:=p4) (by omega) (by omega);exact ah)))) ?_
   refine aa (And.intro ha4 he7) ?_
   refine aB (fun h8=> ?_) (fun h8=> ?_)
   ·rw [if_pos h8] at hM
    refine aa (And.intro ha4 (And.intro he7 h8)) ?_
    have nh8:=nzQ h8
    try have hr9:=mpQ nh8
    subst hM
    exact ar (av (And.intro ha4 (And.intro he7 (And.intro h1 (And.intro h5 h8)))))
   ·rw [if_neg (an h8)] at hM
    refine aa (And.intro ha4 (And.intro he7 h8)) ?_
    have nh8:=nzQ h8
    try have hr10:=mpQ nh8
    refine b_ (n4 - 1) _ (by omega) sbQ sbQ ⟨(p4+1),rfl,⟨⟨by (first|exact omQ|(clear hM;first|(have hk:=cP (j:=(p4+1)) (by omega) (by omega);exact ah))),by (first|exact omQ|(clear hM;first|(have hk:=cP (j:=(p4+1)) (by omega) (by omega);exact ah)))⟩,by (clear hM;exact Hh hF5_0 (lY _) (by omega) (by omega) (by assumption))⟩,by (first|exact omQ|(clear hM;first|(have hk:=cP (j:=(p4+1)) (by omega) (by omega);exact ah))),ca hM hag4⟩
  ·rw [if_neg (an h5)] at hM
   refine aa (And.intro ha4 h5) ?_
   have nh5:=nzQ h5
   try have hr11:=mpQ nh5
   have hM0:=hM;clear hM;obtain ⟨x12,hx13,hM⟩:=ay hM0;clear hM0
   have hcx12:=cmU hx13
   refine aQ hcx12 (ax ha4) (ax ha4) (fun hw14=> ?_)
   replace hw14:=nzQ hw14
   refine aa ha4 ?_
   have hq15:=Hl hx13
   replace hq15:=nzQ hq15
   have hM0:=hM;clear hM;obtain ⟨f16,d16,hf16,hd16,hM⟩:=bd hM0;clear hM0
   refine bF (fun n S=> ∃p:Int,S=(⟨[(3,.int .u64 (ae .u64 n_)),(6,.int .i64 x12),(28,.agg (cU.map (V.int .u64))),(29,.int .i64 p)],[],0⟩:St)∧(((0≤p)∧(p≤12))∧(37<ae .u64 n_))∧((12:Int) - p).toNat<n∧ao n f16 d16 p=r) (((12:Int) - 0).toNat+1) _ sbQ sbQ ⟨0,rfl,⟨⟨by (first|exact omQ|(clear hM;first|(have hk:=cP (j:=p16) (by omega) (by omega);exact ah))),by (first|exact omQ|(clear hM;first|(have hk:=cP (j:=p16) (by omega) (by omega);exact ah)))⟩,by (clear hM;exact Hj hF5_0 (by omega) (by rw [ru (by omega) (by omega)];omega))⟩,(Nat.lt_succ_self _),hM⟩ ?_
   clear hM
   rintro n16 S ⟨p16,rfl,⟨hfa16,hF12_0⟩,hm16,hM⟩
   have hM0:=hM;clear hM;obtain ⟨ag16,hag16,hM⟩:=bf hM0 (by omega) hf16;clear hM0
   replace hfa16:=nzQ hfa16
   replace hm16:=nzQ hm16
   have ha16:aq .i64 p16 1=p16+1:=bp (by (first|exact omQ|(clear hM;first|(have hk:=cP (j:=p16) (by omega) (by omega);exact ah)))) (by (first|exact omQ|(clear hM;first|(have hk:=cP (j:=p16) (by omega) (by omega);exact ah))))
   refine aa (And.intro ha4 ha16) ?_
   refine aB (fun h17=> ?_) (fun h17=> ?_)
   ·rw [if_pos h17] at hM
    refine aa (And.intro ha4 (And.intro ha16 h17)) ?_
    have nh17:=nzQ h17
    try have hr18:=mpQ nh17
    have he19:=og (f:=V.int .u64) (l:=cU) (n:=12) (i:=p16) rfl (by (first|exact omQ|(clear hM;first|(have hk:=cP (j:=p16) (by omega) (by omega);exact ah))))
    replace he19:=spR he19
    refine aa (And.intro ha4 (And.intro ha16 he19)) ?_
    refine aN (by (first|exact omQ|(clear hM;first|(have hk:=cP (j:=p16) (by omega) (by omega);exact ah)))) ?_
    refine aa (And.intro ha4 (And.intro ha16 he19)) ?_
    refine aN (by (first|exact omQ|(clear hM;first|(have hk:=cP (j:=p16) (by omega) (by omega);exact ah)))) ?_
    refine aa (And.intro ha4 (And.intro ha16 he19)) ?_
    have hM0:=hM;clear hM;obtain ⟨x20,hx21,hM⟩:=ay hM0;clear hM0
    have hcx20:=cmH hx21 (Ir (gt cU p16) (ae .u64 n_) (au .u64 (aD .u64 (ae .u64 n_) 1) x12) x12 (by (first|omega|(have hk:=cP (j:=p16) (by omega) (by omega);omega))) (by (first|omega|(have hk:=cP (j:=p16) (by omega) (by omega);omega))) (by (first|omega|(have hk:=cP (j:=p16) (by omega) (by omega);omega))) (by (first|omega|(have hk:=cP (j:=p16) (by omega) (by omega);omega))))
    refine aQ hcx20 (ax (And.intro ha4 (And.intro ha16 he19))) (ax (And.intro ha4 (And.intro ha16 he19))) (fun hw22=> ?_)
    replace hw22:=nzQ hw22
    refine aa (And.intro ha4 (And.intro ha16 he19)) ?_
    refine aB (fun h23=> ?_) (fun h23=> ?_)
    ·subst h23
     rw [if_pos rfl] at hM
     refine aa (And.intro ha4 (And.intro ha16 he19)) ?_
     subst hM
     exact ar (av (And.intro ha4 (And.intro ha16 (And.intro he19 (And.intro h1 (And.intro h5 h17))))))
    ·subst h23
     rw [if_neg (by decide)] at hM
     refine aa (And.intro ha4 (And.intro ha16 he19)) ?_
     refine b_ (n16 - 1) _ (by omega) sbQ sbQ ⟨(p16+1),rfl,⟨⟨by (first|exact omQ|(clear hM;first|(have hk:=cP (j:=(p16+1)) (by omega) (by omega);exact ah))),by (first|exact omQ|(clear hM;first|(have hk:=cP (j:=(p16+1)) (by omega) (by omega);exact ah)))⟩,by (clear hM;exact hF12_0)⟩,by (first|exact omQ|(clear hM;first|(have hk:=cP (j:=(p16+1)) (by omega) (by omega);exact ah))),ca hM hag16⟩
   ·rw [if_neg (an h17)] at hM
    refine aa (And.intro ha4 (And.intro ha16 h17)) ?_
    have nh17:=nzQ h17
    try have hr24:=mpQ nh17
    subst hM
    exact ar (av (And.intro ha4 (And.intro ha16 (And.intro h1 (And.intro h5 h17)))))
set_option maxHeartbeats 2000000 in
set_option maxRecDepth 100000 in
instance ME (a_:Int) (m:Int):CM En (ot a_ m) 196 [.int .i64 a_,.int .i64 m] (fun y=> .bool y) (fun _=> []):=by
 refine cmQ fun r hM=> ?_
 rw [ot.eq_1] at hM
 refine aO aA aK noJ Tryz.func196 rfl Tryz.ntmps196 (by kernel_rfl) fun hw=>aL ?_
 refine spQ ?_
 replace hw:=nzQ hw
 have hF:=ct
 exact auQ
set_option maxHeartbeats 2000000 in
set_option maxRecDepth 100000 in
instance MF (a_:Int) (b:Int) (m:Int):CM En (jV a_ b m) 167 [.int .i64 a_,.int .i64 b,.int .i64 m] (fun y=> .int .i64 y) (fun _=> []):=by
 refine cmQ fun r hM=> ?_
 rw [jV.eq_1] at hM
 refine aO aA aK noJ Tryz.func167 rfl Tryz.ntmps167 (by kernel_rfl) fun hw=>aL ?_
 refine spQ ?_
 replace hw:=nzQ hw
 have hF:=ct
 exact auQ
set_option maxHeartbeats 2000000 in
set_option maxRecDepth 100000 in
theorem rH (a_:Int) (b:Int) (m:Int) (hp0:0≤a_) (hp1:a_<m) (hp2:0≤b):CM En (jd a_ b m) 168 [.int .i64 a_,.int .i64 b,.int .i64 m] (fun y=> .int .i64 y) (fun _=> []):=by
 refine cmQ fun r hM=> ?_
 rw [jd.eq_1] at hM
 refine aO aA aK noJ Tryz.func168 rfl Tryz.ntmps168 (by kernel_rfl) fun hw=>aL ?_
 refine spQ ?_
 replace hw:=nzQ hw
 have h0_0:=ru (x:=a_) (by omega) (by omega)
 have h0_1:=ru (x:=b) (by omega) (by omega)
 have h0_2:=ru (x:=m) (by omega) (by omega)
 have hM0:=hM;clear hM;obtain ⟨x1,hx2,hM⟩:=ay hM0;clear hM0
 have hcx1:=cmU hx2
 refine aQ hcx1 clQ clQ (fun hw3=> ?_)
 replace hw3:=nzQ hw3
 refine spQ ?_
 have hq4:=zy (ae .u64 m) hx2 (by omega) (by omega) (by omega) (by omega) (by omega)
 replace hq4:=nzQ hq4
 have hM0:=hM;clear hM;obtain ⟨x5,hx6,hM⟩:=ay hM0;clear hM0
 have hcx5:=cmH hx6 (Ak (x1.1) (x1.2) (ae .u64 m) (by (exact pfQ)))
 refine aQ hcx5 clQ clQ (fun hw7=> ?_)
 replace hw7:=nzQ hw7
 refine spQ ?_
 subst hM
 exact ar lfQ
set_option maxHeartbeats 2000000 in
set_option maxRecDepth 100000 in
instance MG (a_:Int) (e_:Int) (m:Int):CM En (ou a_ e_ m) 140 [.int .i64 a_,.int .i64 e_,.int .i64 m] (fun y=> .tup [.int .i64 y.1,.int .i64 y.2]) (fun _=> []):=by
 refine cmQ fun r hM=> ?_
 rw [ou.eq_1] at hM
 refine aO aA aK noJ Tryz.func140 rfl Tryz.ntmps140 (by kernel_rfl) fun hw=>aL ?_
 refine spQ ?_
 replace hw:=nzQ hw
 have hM0:=hM;clear hM;obtain ⟨x1,hx2,hM⟩:=ay hM0;clear hM0
 have hcx1:=cmU hx2
 refine aQ hcx1 clQ clQ (fun hw3=> ?_)
 replace hw3:=nzQ hw3
 refine spQ ?_
 have hq4:=nzQ (cfU hx2)
 refine aB (fun h5=> ?_) (fun h5=> ?_)
 ·rw [if_pos h5] at hM
  refine aa h5 ?_
  have nh5:=nzQ h5
  try have hr6:=mpQ nh5
  subst hM
  exact ar (av h5)
 ·rw [if_neg (an h5)] at hM
  refine aa h5 ?_
  have nh5:=nzQ h5
  try have hr7:=mpQ nh5
  refine aB (fun h8=> ?_) (fun h8=> ?_)
  ·rw [if_pos h8] at hM
   refine aa h8 ?_
   have nh8:=nzQ h8
   try have hr9:=mpQ nh8
   subst hM
   exact ar (av (And.intro h5 h8))
  ·rw [if_neg (an h8)] at hM
   refine aa h8 ?_
   have nh8:=nzQ h8
   try have hr10:=mpQ nh8
   refine aN (by (first|exact omQ|(clear hM;first|(have hk:=mR (m:=m) (by omega);exact ah)))) ?_
   refine spQ ?_
   have hM0:=hM;clear hM;obtain ⟨f11,d11,hf11,hd11,hM⟩:=bd hM0;clear hM0
   refine bF (fun n S=> ∃p:Int×Int×Int,S=(⟨[(0,.int .i64 p.1),(1,.int .i64 p.2.1),(2,.int .i64 m),(9,.int .i64 p.2.2)],[],0⟩:St)∧((0≤p.1)∧(p.1<m)∧(0≤p.2.1)∧(0≤p.2.2)∧(p.2.2<m))∧p.2.1.toNat<n∧ao n f11 d11 p=r) (e_.toNat+1) _ sbQ sbQ ⟨(a_,e_,(cD .i64 1 m)),rfl,⟨by (first|exact omQ|(clear hM;first|(have hk:=mR (m:=m) (by omega);exact ah))),by (first|exact omQ|(clear hM;first|(have hk:=mR (m:=m) (by omega);exact ah))),by (first|exact omQ|(clear hM;first|(have hk:=mR (m:=m) (by omega);exact ah))),by (first|exact omQ|(clear hM;first|(have hk:=mR (m:=m) (by omega);exact ah))),by (first|exact omQ|(clear hM;first|(have hk:=mR (m:=m) (by omega);exact ah)))⟩,(Nat.lt_succ_self _),hM⟩ ?_
   clear hM
   rintro n11 S ⟨p11,rfl,hfa11,hm11,hM⟩
   have hM0:=hM;clear hM;obtain ⟨ag11,hag11,hM⟩:=bf hM0 (by omega) hf11;clear hM0
   replace hfa11:=nzQ hfa11
   replace hm11:=nzQ hm11
   refine spQ ?_
   refine aB (fun h12=> ?_) (fun h12=> ?_)
   ·rw [if_pos h12] at hM
    refine aa h12 ?_
    have nh12:=nzQ h12
    try have hr13:=mpQ nh12
    refine aB (fun h14=> ?_) (fun h14=> ?_)
    ·rw [if_pos h14] at hM
     refine aa h14 ?_
     have nh14:=nzQ h14
     try have hr15:=mpQ nh14
     have hM0:=hM;clear hM;obtain ⟨x16,hx17,hM⟩:=ay hM0;clear hM0
     have hcx16:=cmH hx17 (rH (p11.2.2) (p11.1) m (by (exact pfQ)) (by (exact pfQ)) (by (exact pfQ)))
     refine aQ hcx16 clQ clQ (fun hw18=> ?_)
     replace hw18:=nzQ hw18
     refine spQ ?_
     have hq19:=vb hx17 (by omega) (by omega) (by omega) (by omega) (by omega)
     replace hq19:=nzQ hq19
     have hM0:=hM;clear hM;obtain ⟨x20,hx21,hM⟩:=ay hM0;clear hM0
     have hcx20:=cmH hx21 (rH (p11.1) (p11.1) m (by (exact pfQ)) (by (exact pfQ)) (by (exact pfQ)))
     refine aQ hcx20 clQ clQ (fun hw22=> ?_)
     replace hw22:=nzQ hw22
     refine spQ ?_
     have hq23:=vb hx21 (by omega) (by omega) (by omega) (by omega) (by omega)
     replace hq23:=nzQ hq23
     refine b_ (n11 - 1) _ (by omega) sbQ sbQ ⟨(x20,(au .i64 p11.2.1 1),x16),rfl,⟨by (clear hM;(try dsimp only);(try rw [cK]);(try rw [cO]);omega),by (clear hM;(try dsimp only);(try rw [cK]);(try rw [cO]);omega),by (clear hM;(try dsimp only);(try rw [cK]);(try rw [cO]);omega),by (clear hM;(try dsimp only);(try rw [cK]);(try rw [cO]);omega),by (clear hM;(try dsimp only);(try rw [cK]);(try rw [cO]);omega)⟩,by (clear hM;(try dsimp only);(try rw [cK]);(try rw [cO]);omega),ca hM hag11⟩
    ·rw [if_neg (an h14)] at hM
     refine aa h14 ?_
     have nh14:=nzQ h14
     try have hr24:=mpQ nh14
     have hM0:=hM;clear hM;obtain ⟨x25,hx26,hM⟩:=ay hM0;clear hM0
     have hcx25:=cmH hx26 (rH (p11.1) (p11.1) m (by (exact pfQ)) (by (exact pfQ)) (by (exact pfQ)))
     refine aQ hcx25 clQ clQ (fun hw27=> ?_)
     replace hw27:=nzQ hw27
     refine spQ ?_
     have hq28:=vb hx26 (by omega) (by omega) (by omega) (by omega) (by omega)
     replace hq28:=nzQ hq28
     refine b_ (n11 - 1) _ (by omega) sbQ sbQ ⟨(x25,(au .i64 p11.2.1 1),p11.2.2),rfl,⟨by (clear hM;(try dsimp only);(try rw [cK]);(try rw [cO]);omega),by (clear hM;(try dsimp only);(try rw [cK]);(try rw [cO]);omega),by (clear hM;(try dsimp only);(try rw [cK]);(try rw [cO]);omega),by (clear hM;(try dsimp only);(try rw [cK]);(try rw [cO]);omega),by (clear hM;(try dsimp only);(try rw [cK]);(try rw [cO]);omega)⟩,by (clear hM;(try dsimp only);(try rw [cK]);(try rw [cO]);omega),ca hM hag11⟩
   ·rw [if_neg (an h12)] at hM
    refine aa h12 ?_
    have nh12:=nzQ h12
    try have hr29:=mpQ nh12
    subst hM
    exact ar (av (And.intro h5 (And.intro h8 h12)))
set_option maxHeartbeats 2000000 in
set_option maxRecDepth 100000 in
instance MH (g:dL):CM En (ov g) 102 [.agg [.int .i64 g.P,.int .i64 g.Q,.int .i64 g.G]] (fun y=> .bool y) (fun _=> []):=by
 refine cmQ fun r hM=> ?_
 rw [ov.eq_1] at hM
 refine aO aA aK noJ Tryz.func102 rfl Tryz.ntmps102 (by kernel_rfl) fun hw=>aL ?_
 refine spQ ?_
 replace hw:=nzQ hw
 have hF:=ct
 exact auQ
set_option maxHeartbeats 2000000 in
set_option maxRecDepth 100000 in
instance MI (g:dL) (x_:Int):CM En (rc g x_) 141 [.agg [.int .i64 g.P,.int .i64 g.Q,.int .i64 g.G],.int .i64 x_] (fun y=> .bool y) (fun _=> []):=by
 refine cmQ fun r hM=> ?_
 rw [rc.eq_1] at hM
 refine aO aA aK noJ Tryz.func141 rfl Tryz.ntmps141 (by kernel_rfl) fun hw=>aL ?_
 refine spQ ?_
 replace hw:=nzQ hw
 have hF:=ct
 exact auQ
set_option maxHeartbeats 2000000 in
set_option maxRecDepth 100000 in
instance MJ (g:dL) (x_:Int):CM En (re g x_) 103 [.agg [.int .i64 g.P,.int .i64 g.Q,.int .i64 g.G],.int .i64 x_] (fun y=> .bool y) (fun _=> []):=by
 refine cmQ fun r hM=> ?_
 rw [re.eq_1] at hM
 refine aO aA aK noJ Tryz.func103 rfl Tryz.ntmps103 (by kernel_rfl) fun hw=>aL ?_
 refine spQ ?_
 replace hw:=nzQ hw
 have hF:=ct
 exact auQ
set_option maxHeartbeats 2000000 in
set_option maxRecDepth 100000 in
instance MK (b:dY):CM En (ow b) 62 [(ja b)] (fun y=> .bool y) (fun _=> []):=by
 refine cmQ fun r hM=> ?_
 rw [ow.eq_1] at hM
 refine aO aA aK noJ Tryz.func62 rfl Tryz.ntmps62 (by kernel_rfl) fun hw=>aL ?_
 refine spQ ?_
 replace hw:=nzQ hw
 have hM0:=hM;clear hM;obtain ⟨x1,hx2,hM⟩:=ay hM0;clear hM0
 have hcx1:=cmU hx2
 refine aQ hcx1 clQ clQ (fun hw3=> ?_)
 replace hw3:=nzQ hw3
 refine spQ ?_
 refine aB (fun h4=> ?_) (fun h4=> ?_)
 ·rw [if_pos h4] at hM
  refine aa h4 ?_
  have nh4:=nzQ h4
  try have hr5:=mpQ nh4
  subst hM
  exact ar (av h4)
 ·rw [if_neg (an h4)] at hM
  refine aa h4 ?_
  have nh4:=nzQ h4
  try have hr6:=mpQ nh4
  have hM0:=hM;clear hM;obtain ⟨f7,d7,hf7,hd7,hM⟩:=bd hM0;clear hM0
  refine bF (fun n S=> ∃p:Int,S=(⟨[(1,.ptr 0 0),(15,.own 1),(16,.int .i64 (3:Int)),(17,.int .i64 p)],[(0,.var 6 true ((ja b))),(1,.own 3 1 false (some false) (([b.G1,b.G2,b.H]:List Int).map (V.int .i64)))],2⟩:St)∧((0≤p)∧(p≤(3:Int)))∧((3:Int) - p).toNat<n∧ao n f7 d7 p=r) (((3:Int) - 0).toNat+1) _ sbQ sbQ ⟨0,rfl,⟨omQ,omQ⟩,(Nat.lt_succ_self _),hM⟩ ?_
  clear hM
  rintro n7 S ⟨p7,rfl,hfa7,hm7,hM⟩
  have hM0:=hM;clear hM;obtain ⟨ag7,hag7,hM⟩:=bf hM0 (by omega) hf7;clear hM0
  replace hfa7:=nzQ hfa7
  replace hm7:=nzQ hm7
  have ha7:aq .i64 p7 1=p7+1:=bp omQ omQ
  refine aa ha7 ?_
  have hF:=(And.intro h4 ha7)
  exact auQ
set_option maxHeartbeats 2000000 in
set_option maxRecDepth 100000 in
instance ML (g:dL) (l:(List Int)):CM En (rf g l) 142 [.agg [.int .i64 g.P,.int .i64 g.Q,.int .i64 g.G],.sl none 1 false (l.map (V.int .i64))] (fun y=> .int .i64 y) (fun _=> []):=by
 refine cmQ fun r hM=> ?_
 rw [rf.eq_1] at hM
 refine aO aA aK noJ Tryz.func142 rfl Tryz.ntmps142 (by kernel_rfl) fun hw=>aL ?_
 refine spQ ?_
 replace hw:=nzQ hw
 have hM0:=hM;clear hM;obtain ⟨x1,hx2,hM⟩:=ay hM0;clear hM0
 have hcx1:=cmU hx2
 refine aQ hcx1 clQ clQ (fun hw3=> ?_)
 replace hw3:=nzQ hw3
 refine spQ ?_
 refine aB (fun h4=> ?_) (fun h4=> ?_)
 ·rw [if_pos h4] at hM
  refine aa h4 ?_
  have nh4:=nzQ h4
  try have hr5:=mpQ nh4
  subst hM
  exact ar (av h4)
 ·rw [if_neg (an h4)] at hM
  refine aa h4 ?_
  have nh4:=nzQ h4
  try have hr6:=mpQ nh4
  have hM0:=hM;clear hM;obtain ⟨f7,d7,hf7,hd7,hM⟩:=bd hM0;clear hM0
  refine bF (fun n S=> ∃p:Int,S=(⟨[(2,.ptr 0 0),(10,.sl none 1 false (l.map (V.int .i64))),(11,.int .i64 (l.length:Int)),(12,.int .i64 p)],[(0,.var 3 true (.agg [.int .i64 g.P,.int .i64 g.Q,.int .i64 g.G]))],1⟩:St)∧((0≤p)∧(p≤(l.length:Int)))∧((l.length:Int) - p).toNat<n∧ao n f7 d7 p=r) (((l.length:Int) - 0).toNat+1) _ sbQ sbQ ⟨0,rfl,⟨omQ,omQ⟩,(Nat.lt_succ_self _),hM⟩ ?_
  clear hM
  rintro n7 S ⟨p7,rfl,hfa7,hm7,hM⟩
  have hM0:=hM;clear hM;obtain ⟨ag7,hag7,hM⟩:=bf hM0 (by omega) hf7;clear hM0
  replace hfa7:=nzQ hfa7
  replace hm7:=nzQ hm7
  have ha7:aq .i64 p7 1=p7+1:=bp omQ omQ
  refine aa ha7 ?_
  have hF:=(And.intro h4 ha7)
  exact auQ
set_option maxHeartbeats 2000000 in
set_option maxRecDepth 100000 in
instance MM (a_:Int) (m:Int):CM En (uR a_ m) 143 [.int .i64 a_,.int .i64 m] (fun y=> .tup [.int .i64 y.1,.int .i64 y.2]) (fun _=> []):=by
 refine cmQ fun r hM=> ?_
 rw [uR.eq_1] at hM
 refine aO aA aK noJ Tryz.func143 rfl Tryz.ntmps143 (by kernel_rfl) fun hw=>aL ?_
 refine spQ ?_
 replace hw:=nzQ hw
 have hF:=ct
 exact auQ
set_option maxHeartbeats 2000000 in
set_option maxRecDepth 100000 in
instance MN (g:dL) (a_:Int) (e_:Int):CM En (uS g a_ e_) 104 [.agg [.int .i64 g.P,.int .i64 g.Q,.int .i64 g.G],.int .i64 a_,.int .i64 e_] (fun y=> .tup [.int .i64 y.1,.int .i64 y.2]) (fun _=> []):=by
 refine cmQ fun r hM=> ?_
 rw [uS.eq_1] at hM
 refine aO aA aK noJ Tryz.func104 rfl Tryz.ntmps104 (by kernel_rfl) fun hw=>aL ?_
 refine spQ ?_
 replace hw:=nzQ hw
 have hF:=ct
 exact auQ
set_option maxHeartbeats 2000000 in
set_option maxRecDepth 100000 in
instance MO (a_:Int) (b:Int) (m:Int):CM En (uT a_ b m) 169 [.int .i64 a_,.int .i64 b,.int .i64 m] (fun y=> .tup [.int .i64 y.1,.int .i64 y.2]) (fun _=> []):=by
 refine cmQ fun r hM=> ?_
 rw [uT.eq_1] at hM
 refine aO aA aK noJ Tryz.func169 rfl Tryz.ntmps169 (by kernel_rfl) fun hw=>aL ?_
 refine spQ ?_
 replace hw:=nzQ hw
 have hM0:=hM;clear hM;obtain ⟨x1,hx2,hM⟩:=ay hM0;clear hM0
 have hcx1:=cmU hx2
 refine aQ hcx1 clQ clQ (fun hw3=> ?_)
 replace hw3:=nzQ hw3
 refine spQ ?_
 have hq4:=nzQ (cfU hx2)
 refine aB (fun h5=> ?_) (fun h5=> ?_)
 ·rw [if_pos h5] at hM
  refine aa h5 ?_
  have nh5:=nzQ h5
  try have hr6:=mpQ nh5
  subst hM
  exact ar (av h5)
 ·rw [if_neg (an h5)] at hM
  refine aa h5 ?_
  have nh5:=nzQ h5
  try have hr7:=mpQ nh5
  have hM0:=hM;clear hM;obtain ⟨x8,hx9,hM⟩:=ay hM0;clear hM0
  have hcx8:=cmH hx9 (rH a_ b m (by (exact pfQ)) (by (exact pfQ)) (by (exact pfQ)))
  refine aQ hcx8 clQ clQ (fun hw10=> ?_)
  replace hw10:=nzQ hw10
  refine spQ ?_
  subst hM
  exact ar (av h5)
set_option maxHeartbeats 2000000 in
set_option maxRecDepth 100000 in
instance MP (g:dL) (a_:Int) (b:Int):CM En (uU g a_ b) 144 [.agg [.int .i64 g.P,.int .i64 g.Q,.int .i64 g.G],.int .i64 a_,.int .i64 b] (fun y=> .tup [.int .i64 y.1,.int .i64 y.2]) (fun _=> []):=by
 refine cmQ fun r hM=> ?_
 rw [uU.eq_1] at hM
 refine aO aA aK noJ Tryz.func144 rfl Tryz.ntmps144 (by kernel_rfl) fun hw=>aL ?_
 refine spQ ?_
 replace hw:=nzQ hw
 have hF:=ct
 exact auQ
set_option maxHeartbeats 2000000 in
set_option maxRecDepth 100000 in
instance MQ (b:dY) (key:Int):CM En (uV b key) 105 [(ja b),.int .i64 key] (fun y=> .tup [.int .i64 y.1,.int .i64 y.2]) (fun _=> []):=by
 refine cmQ fun r hM=> ?_
 rw [uV.eq_1] at hM
 refine aO aA aK noJ Tryz.func105 rfl Tryz.ntmps105 (by kernel_rfl) fun hw=>aL ?_
 refine spQ ?_
 replace hw:=nzQ hw
 have hF:=ct
 exact auQ
set_option maxHeartbeats 2000000 in
set_option maxRecDepth 100000 in
instance MR (b:dY) (u:Int):CM En (rg b u) 63 [(ja b),.int .i64 u] (fun y=> .tup [.int .i64 y.1,.int .i64 y.2]) (fun _=> []):=by
 refine cmQ fun r hM=> ?_
 rw [rg.eq_1] at hM
 refine aO aA aK noJ Tryz.func63 rfl Tryz.ntmps63 (by kernel_rfl) fun hw=>aL ?_
 refine spQ ?_
 replace hw:=nzQ hw
 have hF:=ct
 exact auQ
set_option maxRecDepth 100000 in
theorem vo (z0:Option Bool) (s:List Int):bC En 122 [.sl z0 1 false (s.map (V.int .u8))] (.own 0) [.own 5 1 false none ((mC s).map (V.int .u8))]:=by
 show bC En 122 [.sl z0 1 false (s.map (V.int .u8))] (.own 0) [.own 5 1 false none (s.map (V.int .u8))]
 refine yp (pre:=[]) (post:=[]) (fun hl=> ?_) ?_ z0
 ·have hl:s=[]:=by cases s with|nil=>rfl|cons a s=>cases hl
  subst hl
  refine aO aA aK noJ Tryz.func122 rfl Tryz.ntmps122 (by kernel_rfl) fun hw=>aL ?_
  simp only [go_sem,aE,aF,List.length_replicate,az,Int.toNat_natCast,↓reduceIte,Nat.reduceEqDiff,Nat.reduceAdd,Int.reduceAdd,Nat.reduceMul,Nat.reduceLeDiff,Nat.reduceLT,Int.reduceLE,Int.reduceLT,Int.reduceNeg,Int.reduceToNat,List.nil_append]
  exact yo (by decide)
 ·refine aO aA aK noJ Tryz.func122 rfl Tryz.ntmps122 (by kernel_rfl) fun hw=>aL ?_
  simp only [go_sem,aE,aF,List.length_replicate,az,Int.toNat_natCast,↓reduceIte,Nat.reduceEqDiff,Nat.reduceAdd,Int.reduceAdd,Nat.reduceMul,Nat.reduceLeDiff,Nat.reduceLT,Int.reduceLE,Int.reduceLT,Int.reduceNeg,Int.reduceToNat,List.nil_append]
  have hn:s.length≤1073741824:=by have h:=hw;simp only [wfL,wfV,List.nil_append,dm,List.length_map] at h;exact h.1.1
  refine aN (by first|omega|(simp only [List.length_map,List.length_nil,List.nil_append];omega)) ?_
  refine spQ ?_
  refine yn 0 rfl clQ
set_option maxHeartbeats 2000000 in
set_option maxRecDepth 100000 in
instance MS (n_:Int):CM En (ox n_) 123 [.int .u64 n_] (fun y=> .sl none 1 false (y.map (V.int .u8))) (fun _=> []):=by
 refine cmQ fun r hM=> ?_
 rw [ox.eq_1] at hM
 refine aO aA aK noJ Tryz.func123 rfl Tryz.ntmps123 (by kernel_rfl) fun hw=>aL ?_
 refine spQ ?_
 replace hw:=nzQ hw
 have hM0:=hM;clear hM;obtain ⟨f1,d1,hf1,hd1,hM⟩:=bd hM0;clear hM0
 refine bF (fun n S=> ∃p:Int×List Int,S=(⟨[(0,.int .u64 n_),(3,.own 0),(7,.int .i64 (8:Int)),(8,.int .i64 p.1)],[(0,.own 5 1 false none (p.2.map (V.int .u8)))],1⟩:St)∧((0≤p.1)∧(p.1≤(8:Int))∧((p.2).length=(([(0:Int),(0:Int),(0:Int),(0:Int),(0:Int),(0:Int),(0:Int),(0:Int)]:List Int)).length))∧((8:Int) - p.1).toNat<n∧ao n f1 d1 p=r) (((8:Int) - 0).toNat+1) _ sbQ sbQ ⟨(0,([(0:Int),(0:Int),(0:Int),(0:Int),(0:Int),(0:Int),(0:Int),(0:Int)]:List Int)),rfl,⟨omQ,omQ,omQ⟩,(Nat.lt_succ_self _),hM⟩ ?_
 clear hM
 rintro n1 S ⟨p1,rfl,hfa1,hm1,hM⟩
 have hM0:=hM;clear hM;obtain ⟨ag1,hag1,hM⟩:=bf hM0 (by omega) hf1;clear hM0
 replace hfa1:=nzQ hfa1
 replace hm1:=nzQ hm1
 have ha1:aq .i64 p1.1 1=p1.1+1:=bp omQ omQ
 refine aa ha1 ?_
 refine aB (fun h2=> ?_) (fun h2=> ?_)
 ·rw [if_pos h2] at hM
  refine aa (And.intro ha1 h2) ?_
  have nh2:=nzQ h2
  try have hr3:=mpQ nh2
  obtain ⟨ha4,hbha4⟩:=nR (a:=8) (b:=p1.1) 8 8 64 omQ omQ omQ omQ (by decide) (by decide)
  try simp only [ha4]
  have ha5:aD .i64 56 (8*p1.1)=(56 - (8*p1.1)):=fp omQ omQ
  try simp only [ha5]
  have hF:=(And.intro ha1 (And.intro h2 ha5))
  exact auQ
 ·rw [if_neg (an h2)] at hM
  refine aa (And.intro ha1 h2) ?_
  have nh2:=nzQ h2
  try have hr7:=mpQ nh2
  subst hM
  exact ar (av (And.intro ha1 h2))
set_option maxHeartbeats 2000000 in
set_option maxRecDepth 100000 in
instance MT (x_:Int) (k_:Int):CM En (uW x_ k_) 193 [.int .u32 x_,.int .i64 k_] (fun y=> .int .u32 y) (fun _=> []):=by
 refine cmQ fun r hM=> ?_
 rw [uW.eq_1] at hM
 refine aO aA aK noJ Tryz.func193 rfl Tryz.ntmps193 (by kernel_rfl) fun hw=>aL ?_
 refine spQ ?_
 replace hw:=nzQ hw
 refine aN (by (exact (wc .u64 _ _).1)) ?_
 refine spQ ?_
 refine aN (by (exact (ng .u64 _ _).1)) ?_
 refine spQ ?_
 subst hM
 exact ar lfQ
set_option maxHeartbeats 2000000 in
set_option maxRecDepth 100000 in
instance MU (x_:Int) (n_:Int):CM En (gz x_ n_) 162 [.int .u32 x_,.int .i64 n_] (fun y=> .int .u32 y) (fun _=> []):=by
 refine cmQ fun r hM=> ?_
 rw [gz.eq_1] at hM
 refine aO aA aK noJ Tryz.func162 rfl Tryz.ntmps162 (by kernel_rfl) fun hw=>aL ?_
 refine spQ ?_
 replace hw:=nzQ hw
 have hF:=ct
 exact auQ
set_option maxHeartbeats 2000000 in
set_option maxRecDepth 100000 in
theorem Is (block:(List Int)) (hp0:block.length=64):CM En (uX block) 161 [.sl none 1 false (block.map (V.int .u8))] (fun y=>(mr y)) (fun _=> []):=by
 refine cmQ fun r hM=> ?_
 rw [uX.eq_1] at hM
 refine aO aA aK noJ Tryz.func161 rfl Tryz.ntmps161 (by kernel_rfl) fun hw=>aL ?_
 refine spQ ?_
 replace hw:=nzQ hw
 have hM0:=hM;clear hM;obtain ⟨f1,d1,hf1,hd1,hM⟩:=bd hM0;clear hM0
 refine bF (fun n S=> ∃p:Int×(List Int),S=(⟨[(0,.sl none 1 false (block.map (V.int .u8))),(2,.ptr 0 0),(3,.ptr 1 0),(12,.int .i64 p.1)],[(0,.var 64 true (qT)),(1,.var 64 true ((mr p.2)))],2⟩:St)∧((0≤p.1)∧(p.1≤16))∧((16:Int) - p.1).toNat<n∧ao n f1 d1 p=r) (((16:Int) - 0).toNat+1) _ sbQ (by simp only [go_sem,aE,aF,List.length_replicate,az,Int.toNat_natCast,↓reduceIte,Nat.reduceEqDiff,Nat.reduceAdd,Int.reduceAdd,Nat.reduceMul,Nat.reduceLeDiff,Nat.reduceLT,Int.reduceLE,Int.reduceLT,Int.reduceNeg,Int.reduceToNat,List.isEmpty_nil,a7,dI,dX,cq,cr,mtO,mtB,mt,mtL,aH,aG,ltV,ltL,ltB,eq_self,or_true,true_or,or_self,and_self,aZ,a6,Int.reduceSub]) ⟨(0,[0,0,0,0,0,0,0,0,0,0,0,0,0,0,0,0,0,0,0,0,0,0,0,0,0,0,0,0,0,0,0,0,0,0,0,0,0,0,0,0,0,0,0,0,0,0,0,0,0,0,0,0,0,0,0,0,0,0,0,0,0,0,0,0]),rfl,⟨omQ,omQ⟩,(Nat.lt_succ_self _),hM⟩ ?_
 clear hM
 rintro n1 S ⟨p1,rfl,hfa1,hm1,hM⟩
 have hM0:=hM;clear hM;obtain ⟨ag1,hag1,hM⟩:=bf hM0 (by omega) hf1;clear hM0
 replace hfa1:=nzQ hfa1
 replace hm1:=nzQ hm1
 have ha1:aq .i64 p1.1 1=p1.1+1:=bp omQ omQ
 refine aa ha1 ?_
 refine aB (fun h2=> ?_) (fun h2=> ?_)
 ·rw [if_pos h2] at hM
  refine aa (And.intro ha1 h2) ?_
  have nh2:=nzQ h2
  try have hr3:=mpQ nh2
  obtain ⟨ha4,hbha4⟩:=nR (a:=4) (b:=p1.1) 4 16 64 omQ omQ omQ omQ (by decide) (by decide)
  try simp only [ha4]
  have ha6:aq .i64 (4*p1.1) 4=((4*p1.1)+4):=gk omQ omQ
  try simp only [ha6]
  refine aN omQ ?_
  refine aa (And.intro ha1 (And.intro ha4 ha6)) ?_
  have hM0:=hM;clear hM;obtain ⟨f7,d7,hf7,hd7,hM⟩:=bd hM0;clear hM0
  refine bF (fun n S=> ∃p:Int×(List Int),S=(⟨[(0,.sl none 1 false (block.map (V.int .u8))),(2,.ptr 0 0),(3,.ptr 1 0),(4,.int .i64 p1.1),(12,.int .i64 p1.1),(21,.sl none 1 false ((sl block (4*p1.1) ((4*p1.1)+4)).map (V.int .u8))),(22,.int .i64 ((sl block (4*p1.1) ((4*p1.1)+4)).length:Int)),(23,.int .i64 p.1)],[(0,.var 64 true (qT)),(1,.var 64 true ((mr p.2)))],2⟩:St)∧((0≤p.1)∧(p.1≤((sl block (4*p1.1) ((4*p1.1)+4)).length:Int)))∧(((sl block (4*p1.1) ((4*p1.1)+4)).length:Int) - p.1).toNat<n∧ao n f7 d7 p=r) ((((sl block (4*p1.1) ((4*p1.1)+4)).length:Int) - 0).toNat+1) _ sbQ sbQ ⟨(0,p1.2),rfl,⟨omQ,omQ⟩,(Nat.lt_succ_self _),hM⟩ ?_
  clear hM
  rintro n7 S ⟨p7,rfl,hfa7,hm7,hM⟩
  have hM0:=hM;clear hM;obtain ⟨ag7,hag7,hM⟩:=bf hM0 (by omega) hf7;clear hM0
  replace hfa7:=nzQ hfa7
  replace hm7:=nzQ hm7
  have ha7:aq .i64 p7.1 1=p7.1+1:=bp omQ omQ
  refine aa (And.intro ha1 (And.intro ha4 (And.intro ha6 ha7))) ?_
  refine aB (fun h8=> ?_) (fun h8=> ?_)
  ·rw [if_pos h8] at hM
   refine aa (And.intro ha1 (And.intro ha4 (And.intro ha6 (And.intro ha7 h8)))) ?_
   have nh8:=nzQ h8
   try have hr9:=mpQ nh8
   refine aN omQ ?_
   have he10:=fun d=>aV (l:=(sl block (4*p1.1) ((4*p1.1)+4))) (f:=(V.int .u8)) (i:=p7.1) omQ d
   refine aa (And.intro ha1 (And.intro ha4 (And.intro ha6 (And.intro ha7 he10)))) ?_
   refine aN omQ ?_
   have he11:((p1.1).toNat*1+1≤64)=True:=eq_true omQ
   refine aa (And.intro ha1 (And.intro ha4 (And.intro ha6 (And.intro ha7 (And.intro he10 he11))))) ?_
   have he12:=jS (f:=(V.int .u32)) (l:=p7.2) (n:=64) (i:=p1.1) omQ
   replace he12:=spR he12
   try refine aa (And.intro ha1 (And.intro ha4 (And.intro ha6 (And.intro ha7 (And.intro he10 (And.intro he11 he12)))))) ?_
   refine aN omQ ?_
   have he13:((p1.1).toNat*1+1≤64)=True:=eq_true omQ
   refine aa (And.intro ha1 (And.intro ha4 (And.intro ha6 (And.intro ha7 (And.intro he10 (And.intro he11 (And.intro he12 he13))))))) ?_
   have he14:=oh (f:=(V.int .u32)) (l:=(aC 64 p7.2)) (n:=64) (i:=p1.1) (v:=(orI .u32 (ap .u32 (gt p7.2 p1.1) 8) (ae .u32 (gt (sl block (4*p1.1) ((4*p1.1)+4)) p7.1)))) bS omQ
   replace he14:=spR he14
   refine aa (And.intro ha1 (And.intro ha4 (And.intro ha6 (And.intro ha7 (And.intro he10 (And.intro he11 (And.intro he12 (And.intro he13 he14)))))))) ?_
   refine b_ (n7 - 1) _ (by omega) sbQ (by simp only [go_sem,aE,aF,List.length_replicate,az,Int.toNat_natCast,↓reduceIte,Nat.reduceEqDiff,Nat.reduceAdd,Int.reduceAdd,Nat.reduceMul,Nat.reduceLeDiff,Nat.reduceLT,Int.reduceLE,Int.reduceLT,Int.reduceNeg,Int.reduceToNat,List.isEmpty_nil,a7,dI,dX,cq,cr,mtO,mtB,mt,mtL,aH,aG,ltV,ltL,ltB,eq_self,or_true,true_or,or_self,and_self,aZ,a6,Int.reduceSub]) ⟨((p7.1+1),(aC 64 (st (aC 64 p7.2) p1.1 (orI .u32 (ap .u32 (gt p7.2 p1.1) 8) (ae .u32 (gt (sl block (4*p1.1) ((4*p1.1)+4)) p7.1)))))),rfl,⟨omQ,omQ⟩,omQ,ca hM hag7⟩
  ·rw [if_neg (an h8)] at hM
   refine aa (And.intro ha1 (And.intro ha4 (And.intro ha6 (And.intro ha7 h8)))) ?_
   have nh8:=nzQ h8
   try have hr15:=mpQ nh8
   refine b_ (n1 - 1) _ (by omega) sbQ sbQ ⟨((p1.1+1),p7.2),rfl,⟨omQ,omQ⟩,omQ,ca hM hag1⟩
 ·rw [if_neg (an h2)] at hM
  refine aa (And.intro ha1 h2) ?_
  have nh2:=nzQ h2
  try have hr16:=mpQ nh2
  have hM0:=hM;clear hM;obtain ⟨f17,d17,hf17,hd17,hM⟩:=bd hM0;clear hM0
  refine bF (fun n S=> ∃p:Int×(List Int),S=(⟨[(2,.ptr 0 0),(3,.ptr 1 0),(7,.int .i64 p.1)],[(0,.var 64 true (qT)),(1,.var 64 true ((mr p.2)))],2⟩:St)∧((16≤p.1)∧(p.1≤64∨p.1≤16))∧((64:Int) - p.1).toNat<n∧ao n f17 d17 p=r) (((64:Int) - 16).toNat+1) _ sbQ sbQ ⟨(16,p1.2),rfl,⟨omQ,omQ⟩,(Nat.lt_succ_self _),hM⟩ ?_
  clear hM
  rintro n17 S ⟨p17,rfl,hfa17,hm17,hM⟩
  have hM0:=hM;clear hM;obtain ⟨ag17,hag17,hM⟩:=bf hM0 (by omega) hf17;clear hM0
  replace hfa17:=nzQ hfa17
  replace hm17:=nzQ hm17
  have ha17:aq .i64 p17.1 1=p17.1+1:=bp omQ omQ
  refine aa (And.intro ha1 ha17) ?_
  refine aB (fun h18=> ?_) (fun h18=> ?_)
  ·rw [if_pos h18] at hM
   refine aa (And.intro ha1 (And.intro ha17 h18)) ?_
   have nh18:=nzQ h18
   try have hr19:=mpQ nh18
   refine cG 82 9 [8,42,43,44,45,46,47,48,49] [] ([[],[0],[0,1],[0,1,2],[],[4],[4,5],[4,5,6],[0,1,2,3]]++[List.range 9]) [] (by kernel_rfl) (by exact alQ) ?_
   refine aa (And.intro ha1 ha17) ?_
   have ha20:aD .i64 p17.1 15=(p17.1 - 15):=fp omQ omQ
   try simp only [ha20]
   refine bu omQ ?_
   have he21:(((p17.1 - 15)).toNat*1+1≤64)=True:=eq_true omQ
   refine aa (And.intro ha1 (And.intro ha17 (And.intro ha20 he21))) ?_
   have he22:=jS (f:=(V.int .u32)) (l:=p17.2) (n:=64) (i:=(p17.1 - 15)) omQ
   replace he22:=spR he22
   try refine aa (And.intro ha1 (And.intro ha17 (And.intro ha20 (And.intro he21 he22)))) ?_
   have ha23:aD .i64 p17.1 2=(p17.1 - 2):=fp omQ omQ
   try simp only [ha23]
   refine bu omQ ?_
   have he24:(((p17.1 - 2)).toNat*1+1≤64)=True:=eq_true omQ
   refine aa (And.intro ha1 (And.intro ha17 (And.intro ha20 (And.intro he21 (And.intro he22 (And.intro ha23 he24)))))) ?_
   have he25:=jS (f:=(V.int .u32)) (l:=p17.2) (n:=64) (i:=(p17.1 - 2)) omQ
   replace he25:=spR he25
   try refine aa (And.intro ha1 (And.intro ha17 (And.intro ha20 (And.intro he21 (And.intro he22 (And.intro ha23 (And.intro he24 he25))))))) ?_
   have hM0:=hM;clear hM;obtain ⟨x26,hx27,hM⟩:=ay hM0;clear hM0
   have hcx26:=cmU hx27
   refine aQ hcx26 (ax (And.intro ha1 (And.intro ha17 (And.intro ha20 (And.intro he21 (And.intro he22 (And.intro ha23 (And.intro he24 he25)))))))) (ax (And.intro ha1 (And.intro ha17 (And.intro ha20 (And.intro he21 (And.intro he22 (And.intro ha23 (And.intro he24 he25)))))))) (fun hw28=> ?_)
   replace hw28:=nzQ hw28
   refine aa (And.intro ha1 (And.intro ha17 (And.intro ha20 (And.intro he21 (And.intro he22 (And.intro ha23 (And.intro he24 he25))))))) ?_
   have hM0:=hM;clear hM;obtain ⟨x29,hx30,hM⟩:=ay hM0;clear hM0
   have hcx29:=cmU hx30
   refine aQ hcx29 (ax (And.intro ha1 (And.intro ha17 (And.intro ha20 (And.intro he21 (And.intro he22 (And.intro ha23 (And.intro he24 he25)))))))) (ax (And.intro ha1 (And.intro ha17 (And.intro ha20 (And.intro he21 (And.intro he22 (And.intro ha23 (And.intro he24 he25)))))))) (fun hw31=> ?_)
   replace hw31:=nzQ hw31
   refine aa (And.intro ha1 (And.intro ha17 (And.intro ha20 (And.intro he21 (And.intro he22 (And.intro ha23 (And.intro he24 he25))))))) ?_
   have hM0:=hM;clear hM;obtain ⟨x32,hx33,hM⟩:=ay hM0;clear hM0
   have hcx32:=cmU hx33
   refine aQ hcx32 (ax (And.intro ha1 (And.intro ha17 (And.intro ha20 (And.intro he21 (And.intro he22 (And.intro ha23 (And.intro he24 he25)))))))) (ax (And.intro ha1 (And.intro ha17 (And.intro ha20 (And.intro he21 (And.intro he22 (And.intro ha23 (And.intro he24 he25)))))))) (fun hw34=> ?_)
   replace hw34:=nzQ hw34
   refine aa (And.intro ha1 (And.intro ha17 (And.intro ha20 (And.intro he21 (And.intro he22 (And.intro ha23 (And.intro he24 he25))))))) ?_
   have hM0:=hM;clear hM;obtain ⟨x35,hx36,hM⟩:=ay hM0;clear hM0
   have hcx35:=cmU hx36
   refine aQ hcx35 (ax (And.intro ha1 (And.intro ha17 (And.intro ha20 (And.intro he21 (And.intro he22 (And.intro ha23 (And.intro he24 he25)))))))) (ax (And.intro ha1 (And.intro ha17 (And.intro ha20 (And.intro he21 (And.intro he22 (And.intro ha23 (And.intro he24 he25)))))))) (fun hw37=> ?_)
   replace hw37:=nzQ hw37
   refine aa (And.intro ha1 (And.intro ha17 (And.intro ha20 (And.intro he21 (And.intro he22 (And.intro ha23 (And.intro he24 he25))))))) ?_
   refine cG 82 14 [66,67,68,69,70,71,72,73,74,75,76,77,78,79] [] ([[],[],[1],[1,2],[1,2,3],[],[1,2,3,4,5],[],[7],[7,8],[7,8,9],[1,2,3,4,5,6,7,8,9,10],[],[1,2,3,4,5,6,7,8,9,10,11,12]]++[List.range 14,List.range 15]) [] (by kernel_rfl) (by exact alQ) ?_
   refine aa (And.intro ha1 (And.intro ha17 (And.intro ha20 (And.intro he21 (And.intro he22 (And.intro ha23 (And.intro he24 he25))))))) ?_
   have ha38:aD .i64 p17.1 16=(p17.1 - 16):=fp omQ omQ
   try simp only [ha38]
   refine bu omQ ?_
   have he39:(((p17.1 - 16)).toNat*1+1≤64)=True:=eq_true omQ
   refine aa (And.intro ha1 (And.intro ha17 (And.intro ha20 (And.intro he21 (And.intro he22 (And.intro ha23 (And.intro he24 (And.intro he25 (And.intro ha38 he39))))))))) ?_
   have he40:=jS (f:=(V.int .u32)) (l:=p17.2) (n:=64) (i:=(p17.1 - 16)) omQ
   replace he40:=spR he40
   try refine aa (And.intro ha1 (And.intro ha17 (And.intro ha20 (And.intro he21 (And.intro he22 (And.intro ha23 (And.intro he24 (And.intro he25 (And.intro ha38 (And.intro he39 he40)))))))))) ?_
   have ha41:aD .i64 p17.1 7=(p17.1 - 7):=fp omQ omQ
   try simp only [ha41]
   refine bu omQ ?_
   have he42:(((p17.1 - 7)).toNat*1+1≤64)=True:=eq_true omQ
   refine aa (And.intro ha1 (And.intro ha17 (And.intro ha20 (And.intro he21 (And.intro he22 (And.intro ha23 (And.intro he24 (And.intro he25 (And.intro ha38 (And.intro he39 (And.intro he40 (And.intro ha41 he42)))))))))))) ?_
   have he43:=jS (f:=(V.int .u32)) (l:=p17.2) (n:=64) (i:=(p17.1 - 7)) omQ
   replace he43:=spR he43
   try refine aa (And.intro ha1 (And.intro ha17 (And.intro ha20 (And.intro he21 (And.intro he22 (And.intro ha23 (And.intro he24 (And.intro he25 (And.intro ha38 (And.intro he39 (And.intro he40 (And.intro ha41 (And.intro he42 he43))))))))))))) ?_
   refine aN omQ ?_
   have he44:((p17.1).toNat*1+1≤64)=True:=eq_true omQ
   refine aa (And.intro ha1 (And.intro ha17 (And.intro ha20 (And.intro he21 (And.intro he22 (And.intro ha23 (And.intro he24 (And.intro he25 (And.intro ha38 (And.intro he39 (And.intro he40 (And.intro ha41 (And.intro he42 (And.intro he43 he44)))))))))))))) ?_
   have he45:=oh (f:=(V.int .u32)) (l:=(aC 64 p17.2)) (n:=64) (i:=p17.1) (v:=(aq .u32 (aq .u32 (aq .u32 (gt p17.2 (p17.1 - 16)) (cn .u32 (cn .u32 x26 x29) (au .u32 (gt p17.2 (p17.1 - 15)) 3))) (gt p17.2 (p17.1 - 7))) (cn .u32 (cn .u32 x32 x35) (au .u32 (gt p17.2 (p17.1 - 2)) 10)))) bS omQ
   replace he45:=spR he45
   refine aa (And.intro ha1 (And.intro ha17 (And.intro ha20 (And.intro he21 (And.intro he22 (And.intro ha23 (And.intro he24 (And.intro he25 (And.intro ha38 (And.intro he39 (And.intro he40 (And.intro ha41 (And.intro he42 (And.intro he43 (And.intro he44 he45))))))))))))))) ?_
   refine b_ (n17 - 1) _ (by omega) sbQ (by simp only [go_sem,aE,aF,List.length_replicate,az,Int.toNat_natCast,↓reduceIte,Nat.reduceEqDiff,Nat.reduceAdd,Int.reduceAdd,Nat.reduceMul,Nat.reduceLeDiff,Nat.reduceLT,Int.reduceLE,Int.reduceLT,Int.reduceNeg,Int.reduceToNat,List.isEmpty_nil,a7,dI,dX,cq,cr,mtO,mtB,mt,mtL,aH,aG,ltV,ltL,ltB,eq_self,or_true,true_or,or_self,and_self,aZ,a6,Int.reduceSub]) ⟨((p17.1+1),(aC 64 (st (aC 64 p17.2) p17.1 (aq .u32 (aq .u32 (aq .u32 (gt p17.2 (p17.1 - 16)) (cn .u32 (cn .u32 x26 x29) (au .u32 (gt p17.2 (p17.1 - 15)) 3))) (gt p17.2 (p17.1 - 7))) (cn .u32 (cn .u32 x32 x35) (au .u32 (gt p17.2 (p17.1 - 2)) 10)))))),rfl,⟨omQ,omQ⟩,omQ,ca hM hag17⟩
  ·rw [if_neg (an h18)] at hM
   refine aa (And.intro ha1 (And.intro ha17 h18)) ?_
   have nh18:=nzQ h18
   try have hr46:=mpQ nh18
   subst hM
   exact ar (av (And.intro ha1 (And.intro ha17 (And.intro h2 h18))))
set_option maxHeartbeats 2000000 in
set_option maxRecDepth 100000 in
theorem It (state:(List Int)) (block:(List Int)) (hp0:block.length=64):CM En (uY state block) 124 [(jQ state),.sl none 1 false (block.map (V.int .u8))] (fun y=>(jQ y)) (fun _=> []):=by
 refine cmQ fun r hM=> ?_
 rw [uY.eq_1] at hM
 refine aO aA aK noJ Tryz.func124 rfl Tryz.ntmps124 (by kernel_rfl) fun hw=>aL ?_
 refine spQ ?_
 replace hw:=nzQ hw
 have hM0:=hM;clear hM;obtain ⟨x1,hx2,hM⟩:=ay hM0;clear hM0
 have hcx1:=cmH hx2 (Is block (by (exact pfQ)))
 refine aQ hcx1 clQ clQ (fun hw3=> ?_)
 replace hw3:=nzQ hw3
 refine spQ ?_
 refine cG 121 23 [6,7,8,9,10,11,12,21,22,23,24,25,26,27,28,29,30,31,32,33,34,35,36] [] ([[],[0],[],[2],[],[4],[],[6],[],[8],[],[10],[],[12],[],[14],[0,1],[2,3],[4,5],[6,7],[8,9],[10,11],[12,13]]++[List.range 23]) [] (by kernel_rfl) (by exact alQ) ?_
 refine spQ ?_
 have hM0:=hM;clear hM;obtain ⟨f4,d4,hf4,hd4,hM⟩:=bd hM0;clear hM0
 refine bF (fun n S=> ∃p:Int×Int×Int×Int×Int×Int×Int×Int×Int,S=(⟨[(2,.ptr 0 0),(4,.ptr 1 0),(5,.ptr 2 0),(6,.int .u32 p.1),(7,.int .u32 p.2.1),(8,.int .u32 p.2.2.1),(9,.int .u32 p.2.2.2.1),(10,.int .u32 p.2.2.2.2.1),(11,.int .u32 p.2.2.2.2.2.1),(12,.int .u32 p.2.2.2.2.2.2.1),(13,.int .u32 p.2.2.2.2.2.2.2.1),(37,.int .i64 p.2.2.2.2.2.2.2.2)],[(0,.var 8 true ((jQ state))),(1,.var 8 true (uA)),(2,.var 64 true ((mr x1)))],26⟩:St)∧((0≤p.2.2.2.2.2.2.2.2)∧(p.2.2.2.2.2.2.2.2≤64))∧((64:Int) - p.2.2.2.2.2.2.2.2).toNat<n∧ao n f4 d4 p=r) (((64:Int) - 0).toNat+1) _ sbQ sbQ ⟨((gt state 0),(gt state 1),(gt state 2),(gt state 3),(gt state 4),(gt state 5),(gt state 6),(gt state 7),0),rfl,⟨omQ,omQ⟩,(Nat.lt_succ_self _),hM⟩ ?_
 clear hM
 rintro n4 S ⟨p4,rfl,hfa4,hm4,hM⟩
 have hM0:=hM;clear hM;obtain ⟨ag4,hag4,hM⟩:=bf hM0 (by omega) hf4;clear hM0
 replace hfa4:=nzQ hfa4
 replace hm4:=nzQ hm4
 have ha4:aq .i64 p4.2.2.2.2.2.2.2.2 1=p4.2.2.2.2.2.2.2.2+1:=bp omQ omQ
 refine aa ha4 ?_
 refine aB (fun h5=> ?_) (fun h5=> ?_)
 ·rw [if_pos h5] at hM
  refine aa (And.intro ha4 h5) ?_
  have nh5:=nzQ h5
  try have hr6:=mpQ nh5
  refine cG 121 26 [40,41,42,43,44,45,46,47,48,49,50,51,52,53,54,55,56,57,58,59,60,61,62,63,64,65] [] ([[],[],[1],[],[3],[1,2,3,4],[],[6],[1,2,3,4,5,6,7],[0,1,2,3,4,5,6,7,8],[],[],[10,11],[],[13],[],[13,14,15],[10,11,12,13,14,15,16],[0,1,2,3,4,5,6,7,8,9,10,11,12,13,14,15,16,17],[],[19],[19,20],[0,1,2,3,4,5,6,7,8,9,10,11,12,13,14,15,16,17,18,19,20,21],[],[23],[23,24]]++[List.range 26,List.range 27]) [] (by kernel_rfl) (by exact alQ) ?_
  refine aa ha4 ?_
  have hM0:=hM;clear hM;obtain ⟨x7,hx8,hM⟩:=ay hM0;clear hM0
  have hcx7:=cmU hx8
  refine dl hcx7 (ax ha4) (ax ha4) ?_
  refine aa ha4 ?_
  have hM0:=hM;clear hM;obtain ⟨x9,hx10,hM⟩:=ay hM0;clear hM0
  have hcx9:=cmU hx10
  refine dl hcx9 (ax ha4) (ax ha4) ?_
  refine aa ha4 ?_
  have hM0:=hM;clear hM;obtain ⟨x11,hx12,hM⟩:=ay hM0;clear hM0
  have hcx11:=cmU hx12
  refine dl hcx11 (ax ha4) (ax ha4) ?_
  refine aa ha4 ?_
  refine bu omQ ?_
  refine aa ha4 ?_
  have he13:=og (f:=V.int .u32) (l:=kK) (n:=64) (i:=p4.2.2.2.2.2.2.2.2) rfl omQ
  replace he13:=spR he13
  refine aa (And.intro ha4 he13) ?_
  refine bu omQ ?_
  have he14:((p4.2.2.2.2.2.2.2.2).toNat*1+1≤64)=True:=eq_true omQ
  refine aa (And.intro ha4 (And.intro he13 he14)) ?_
  have he15:=jS (f:=(V.int .u32)) (l:=x1) (n:=64) (i:=p4.2.2.2.2.2.2.2.2) omQ
  replace he15:=spR he15
  try refine aa (And.intro ha4 (And.intro he13 (And.intro he14 he15))) ?_
  have hF:=(And.intro ha4 (And.intro h5 (And.intro he13 (And.intro he14 he15))))
  exact auQ
 ·rw [if_neg (an h5)] at hM
  refine aa (And.intro ha4 h5) ?_
  have nh5:=nzQ h5
  try have hr25:=mpQ nh5
  have hM0:=hM;clear hM;obtain ⟨f26,d26,hf26,hd26,hM⟩:=bd hM0;clear hM0
  refine bF (fun n S=> ∃p:Int×(List Int),S=(⟨[(2,.ptr 0 0),(4,.ptr 1 0),(108,.agg [.int .u32 p4.1,.int .u32 p4.2.1,.int .u32 p4.2.2.1,.int .u32 p4.2.2.2.1,.int .u32 p4.2.2.2.2.1,.int .u32 p4.2.2.2.2.2.1,.int .u32 p4.2.2.2.2.2.2.1,.int .u32 p4.2.2.2.2.2.2.2.1]),(109,.int .i64 p.1)],[(0,.var 8 true ((jQ p.2))),(1,.var 8 true (uA))],26⟩:St)∧((0≤p.1)∧(p.1≤8))∧((8:Int) - p.1).toNat<n∧ao n f26 d26 p=r) (((8:Int) - 0).toNat+1) _ sbQ sbQ ⟨(0,state),rfl,⟨omQ,omQ⟩,(Nat.lt_succ_self _),hM⟩ ?_
  clear hM
  rintro n26 S ⟨p26,rfl,hfa26,hm26,hM⟩
  have hM0:=hM;clear hM;obtain ⟨ag26,hag26,hM⟩:=bf hM0 (by omega) hf26;clear hM0
  replace hfa26:=nzQ hfa26
  replace hm26:=nzQ hm26
  have ha26:aq .i64 p26.1 1=p26.1+1:=bp omQ omQ
  refine aa (And.intro ha4 ha26) ?_
  refine aB (fun h27=> ?_) (fun h27=> ?_)
  ·rw [if_pos h27] at hM
   refine aa (And.intro ha4 (And.intro ha26 h27)) ?_
   have nh27:=nzQ h27
   try have hr28:=mpQ nh27
   have he29:=og (f:=(V.int .u32)) (l:=([p4.1,p4.2.1,p4.2.2.1,p4.2.2.2.1,p4.2.2.2.2.1,p4.2.2.2.2.2.1,p4.2.2.2.2.2.2.1,p4.2.2.2.2.2.2.2.1]:List Int)) (n:=8) (i:=p26.1) rfl omQ
   replace he29:=spR he29
   refine aa (And.intro ha4 (And.intro ha26 he29)) ?_
   refine aN omQ ?_
   refine aa (And.intro ha4 (And.intro ha26 he29)) ?_
   refine aN omQ ?_
   have he30:((p26.1).toNat*1+1≤8)=True:=eq_true omQ
   refine aa (And.intro ha4 (And.intro ha26 (And.intro he29 he30))) ?_
   have he31:=jS (f:=(V.int .u32)) (l:=p26.2) (n:=8) (i:=p26.1) omQ
   replace he31:=spR he31
   try refine aa (And.intro ha4 (And.intro ha26 (And.intro he29 (And.intro he30 he31)))) ?_
   refine aN omQ ?_
   have he32:((p26.1).toNat*1+1≤8)=True:=eq_true omQ
   refine aa (And.intro ha4 (And.intro ha26 (And.intro he29 (And.intro he30 (And.intro he31 he32))))) ?_
   have he33:=oh (f:=(V.int .u32)) (l:=(aC 8 p26.2)) (n:=8) (i:=p26.1) (v:=(aq .u32 (gt p26.2 p26.1) (gt ([p4.1,p4.2.1,p4.2.2.1,p4.2.2.2.1,p4.2.2.2.2.1,p4.2.2.2.2.2.1,p4.2.2.2.2.2.2.1,p4.2.2.2.2.2.2.2.1]:List Int) p26.1))) bS omQ
   replace he33:=spR he33
   refine aa (And.intro ha4 (And.intro ha26 (And.intro he29 (And.intro he30 (And.intro he31 (And.intro he32 he33)))))) ?_
   refine b_ (n26 - 1) _ (by omega) sbQ (by simp only [go_sem,aE,aF,List.length_replicate,az,Int.toNat_natCast,↓reduceIte,Nat.reduceEqDiff,Nat.reduceAdd,Int.reduceAdd,Nat.reduceMul,Nat.reduceLeDiff,Nat.reduceLT,Int.reduceLE,Int.reduceLT,Int.reduceNeg,Int.reduceToNat,List.isEmpty_nil,a7,dI,dX,cq,cr,mtO,mtB,mt,mtL,aH,aG,ltV,ltL,ltB,eq_self,or_true,true_or,or_self,and_self,aZ,a6,Int.reduceSub]) ⟨((p26.1+1),(aC 8 (st (aC 8 p26.2) p26.1 (aq .u32 (gt p26.2 p26.1) (gt ([p4.1,p4.2.1,p4.2.2.1,p4.2.2.2.1,p4.2.2.2.2.1,p4.2.2.2.2.2.1,p4.2.2.2.2.2.2.1,p4.2.2.2.2.2.2.2.1]:List Int) p26.1))))),rfl,⟨omQ,omQ⟩,omQ,ca hM hag26⟩
  ·rw [if_neg (an h27)] at hM
   refine aa (And.intro ha4 (And.intro ha26 h27)) ?_
   have nh27:=nzQ h27
   try have hr34:=mpQ nh27
   subst hM
   exact ar (av (And.intro ha4 (And.intro ha26 (And.intro h5 h27))))
set_option maxHeartbeats 2000000 in
set_option maxRecDepth 100000 in
theorem rI (b:(List Int)) (hp0:b.length≤1000000000):CM En (gU b) 79 [.sl none 1 false (b.map (V.int .u8))] (fun y=>(bP y)) (fun _=> []):=by
 refine cmQ fun r hM=> ?_
 rw [gU.eq_1] at hM
 refine aO aA aK [6] Tryz.func79 rfl Tryz.ntmps79 (by kernel_rfl) fun hw=>aL ?_
 refine spQ ?_
 replace hw:=nzQ hw
 have hM0:=hM;clear hM;obtain ⟨x1,hx2,hM⟩:=ay hM0;clear hM0
 have hcx1:=vo none b
 rw [←hx2] at hcx1
 refine aQ hcx1 clQ clQ (fun hw3=> ?_)
 replace hw3:=nzQ hw3
 refine spQ ?_
 have hq4:=nzQ (cfU hx2)
 refine aN omQ ?_
 refine spQ ?_
 have hM0:=hM;clear hM;obtain ⟨f5,d5,hf5,hd5,hM⟩:=bd hM0;clear hM0
 refine bF (fun n S=> ∃p:List Int,S=(⟨[(0,.sl none 1 false (b.map (V.int .u8))),(2,.ptr 0 0),(3,.own 1)],[(0,.var 32 true (kV)),(1,.own 5 1 false none (p.map (V.int .u8)))],3⟩:St)∧((((p).length:Int)+(56 - ((p).length:Int))% 64≤(b.length:Int)+65))∧((56 - ((p).length:Int))% 64).toNat<n∧ao n f5 d5 p=r) (((56 - (((x1++([128]:List Int))).length:Int))% 64).toNat+1) _ sbQ sbQ ⟨(x1++([128]:List Int)),rfl,omQ,(Nat.lt_succ_self _),hM⟩ ?_
 clear hM
 rintro n5 S ⟨p5,rfl,hfa5,hm5,hM⟩
 have hM0:=hM;clear hM;obtain ⟨ag5,hag5,hM⟩:=bf hM0 (by omega) hf5;clear hM0
 replace hfa5:=nzQ hfa5
 replace hm5:=nzQ hm5
 refine spQ ?_
 refine aN omQ ?_
 refine spQ ?_
 refine aB (fun h6=> ?_) (fun h6=> ?_)
 ·rw [if_pos h6] at hM
  refine aa h6 ?_
  have nh6:=nzQ h6
  try have hr7:=mpQ nh6
  have hF:=h6
  exact auQ
 ·rw [if_neg (an h6)] at hM
  refine aa h6 ?_
  have nh6:=nzQ h6
  try have hr8:=mpQ nh6
  have hM0:=hM;clear hM;obtain ⟨x9,hx10,hM⟩:=ay hM0;clear hM0
  have hcx9:=cmU hx10
  refine aQ hcx9 clQ clQ (fun hw11=> ?_)
  replace hw11:=nzQ hw11
  refine spQ ?_
  have hq12:=nzQ (cfU hx10)
  refine aN omQ ?_
  refine spQ ?_
  refine l9 ?_
  try refine spQ ?_
  refine me _ (⟨[(2,.ptr 0 0),(3,.sl (iP (x9.map (V.int .u8))) 1 false ((p5++x9).map (V.int .u8))),(4,.ptr 3 0)],[(0,.var 32 true (kV)),(1,.pown 1 false (iP (x9.map (V.int .u8))) ((p5++x9).map (V.int .u8))),(3,.var 8 true (.agg [.int .u32 1779033703,.int .u32 3144134277,.int .u32 1013904242,.int .u32 2773480762,.int .u32 1359893119,.int .u32 2600822924,.int .u32 528734635,.int .u32 1541459225]))],4⟩:St) ((kM (S:=⟨_,_,_⟩) 1 (T:=5) (n:=1) (g:=false) (z:=(iP (x9.map (V.int .u8)))) (l:=(p5++x9).map (V.int .u8)) clQ).trans (l6 (S:=⟨_,_,_⟩) 3 1 (n:=1) (g:=false) (z:=(iP (x9.map (V.int .u8)))) (l:=(p5++x9).map (V.int .u8)) clQ clQ)) sbQ sbQ ?_
  try refine spQ ?_
  have hM0:=hM;clear hM;obtain ⟨f13,d13,hf13,hd13,hM⟩:=bd hM0;clear hM0
  refine bF (fun n S=> ∃p:List Int×(List Int),S=(⟨[(2,.ptr 0 0),(3,.sl none 1 false (p.1.map (V.int .u8))),(4,.ptr 3 0)],[(0,.var 32 true (kV)),(3,.var 8 true ((jQ p.2)))],4⟩:St)∧((((p.1).length:Int)% 64=0))∧(p.1).length<n∧ao n f13 d13 p=r) (((p5++x9)).length+1) _ sbQ (by simp only [go_sem,aE,aF,List.length_replicate,az,Int.toNat_natCast,↓reduceIte,Nat.reduceEqDiff,Nat.reduceAdd,Int.reduceAdd,Nat.reduceMul,Nat.reduceLeDiff,Nat.reduceLT,Int.reduceLE,Int.reduceLT,Int.reduceNeg,Int.reduceToNat,List.isEmpty_nil,a7,dI,dX,cq,cr,mtO,mtB,mt,mtL,aH,aG,ltV,ltL,ltB,eq_self,or_true,true_or,or_self,and_self,aZ,a6,Int.reduceSub]) ⟨((p5++x9),[1779033703,3144134277,1013904242,2773480762,1359893119,2600822924,528734635,1541459225]),rfl,omQ,(Nat.lt_succ_self _),hM⟩ ?_
  clear hM
  rintro n13 S ⟨p13,rfl,hfa13,hm13,hM⟩
  have hM0:=hM;clear hM;obtain ⟨ag13,hag13,hM⟩:=bf hM0 (by omega) hf13;clear hM0
  replace hfa13:=nzQ hfa13
  replace hm13:=nzQ hm13
  refine spQ ?_
  refine aB (fun h14=> ?_) (fun h14=> ?_)
  ·rw [if_pos h14] at hM
   refine aa h14 ?_
   have nh14:=nzQ h14
   try have hr15:=mpQ nh14
   refine cG 59 3 [33,34,35] [] ([[],[],[1]]++[List.range 3,List.range 4]) [] (by kernel_rfl) (by exact alQ) ?_
   refine spQ ?_
   refine bu omQ ?_
   refine spQ ?_
   have hM0:=hM;clear hM;obtain ⟨x16,hx17,hM⟩:=ay hM0;clear hM0
   have hcx16:=cmH hx17 (It (p13.2) (sl p13.1 0 64) (by (exact pfQ)))
   refine aQ hcx16 clQ clQ (fun hw18=> ?_)
   replace hw18:=nzQ hw18
   refine spQ ?_
   have hF:=(And.intro h6 h14)
   exact auQ
  ·rw [if_neg (an h14)] at hM
   refine aa h14 ?_
   have nh14:=nzQ h14
   try have hr19:=mpQ nh14
   have hM0:=hM;clear hM;obtain ⟨f20,d20,hf20,hd20,hM⟩:=bd hM0;clear hM0
   refine bF (fun n S=> ∃p:Int×(List Int),S=(⟨[(2,.ptr 0 0),(5,.ptr 4 0),(37,(jQ p13.2)),(38,.int .i64 p.1)],[(0,.var 32 true (kV)),(4,.var 32 true ((bP p.2)))],5⟩:St)∧((0≤p.1)∧(p.1≤8))∧((8:Int) - p.1).toNat<n∧ao n f20 d20 p=r) (((8:Int) - 0).toNat+1) _ sbQ (by simp only [go_sem,aE,aF,List.length_replicate,az,Int.toNat_natCast,↓reduceIte,Nat.reduceEqDiff,Nat.reduceAdd,Int.reduceAdd,Nat.reduceMul,Nat.reduceLeDiff,Nat.reduceLT,Int.reduceLE,Int.reduceLT,Int.reduceNeg,Int.reduceToNat,List.isEmpty_nil,a7,dI,dX,cq,cr,mtO,mtB,mt,mtL,aH,aG,ltV,ltL,ltB,eq_self,or_true,true_or,or_self,and_self,aZ,a6,Int.reduceSub]) ⟨(0,[0,0,0,0,0,0,0,0,0,0,0,0,0,0,0,0,0,0,0,0,0,0,0,0,0,0,0,0,0,0,0,0]),rfl,⟨omQ,omQ⟩,(Nat.lt_succ_self _),hM⟩ ?_
   clear hM
   rintro n20 S ⟨p20,rfl,hfa20,hm20,hM⟩
   have hM0:=hM;clear hM;obtain ⟨ag20,hag20,hM⟩:=bf hM0 (by omega) hf20;clear hM0
   replace hfa20:=nzQ hfa20
   replace hm20:=nzQ hm20
   have ha20:aq .i64 p20.1 1=p20.1+1:=bp omQ omQ
   refine aa ha20 ?_
   refine aB (fun h21=> ?_) (fun h21=> ?_)
   ·rw [if_pos h21] at hM
    refine aa (And.intro ha20 h21) ?_
    have nh21:=nzQ h21
    try have hr22:=mpQ nh21
    have he23:=GH (f:=(V.int .u32)) (l:=p13.2) (n:=8) (i:=p20.1) omQ
    replace he23:=spR he23
    refine aa (And.intro ha20 he23) ?_
    refine aN omQ ?_
    refine aa (And.intro ha20 he23) ?_
    have hM0:=hM;clear hM;obtain ⟨f24,d24,hf24,hd24,hM⟩:=bd hM0;clear hM0
    refine bF (fun n S=> ∃p:Int×(List Int),S=(⟨[(2,.ptr 0 0),(5,.ptr 4 0),(6,.int .i64 p20.1),(7,.int .u32 (gt p13.2 p20.1)),(37,(jQ p13.2)),(38,.int .i64 p20.1),(42,.int .i64 p.1)],[(0,.var 32 true (kV)),(4,.var 32 true ((bP p.2)))],5⟩:St)∧((0≤p.1)∧(p.1≤4))∧((4:Int) - p.1).toNat<n∧ao n f24 d24 p=r) (((4:Int) - 0).toNat+1) _ sbQ sbQ ⟨(0,p20.2),rfl,⟨omQ,omQ⟩,(Nat.lt_succ_self _),hM⟩ ?_
    clear hM
    rintro n24 S ⟨p24,rfl,hfa24,hm24,hM⟩
    have hM0:=hM;clear hM;obtain ⟨ag24,hag24,hM⟩:=bf hM0 (by omega) hf24;clear hM0
    replace hfa24:=nzQ hfa24
    replace hm24:=nzQ hm24
    have ha24:aq .i64 p24.1 1=p24.1+1:=bp omQ omQ
    refine aa (And.intro ha20 (And.intro he23 ha24)) ?_
    refine aB (fun h25=> ?_) (fun h25=> ?_)
    ·rw [if_pos h25] at hM
     refine aa (And.intro ha20 (And.intro he23 (And.intro ha24 h25))) ?_
     have nh25:=nzQ h25
     try have hr26:=mpQ nh25
     obtain ⟨ha27,hbha27⟩:=nR (a:=4) (b:=p20.1) 8 64 512 omQ omQ omQ omQ (by decide) (by decide)
     try simp only [ha27]
     have ha28:aq .i64 (4*p20.1) p24.1=((4*p20.1)+p24.1):=gk omQ omQ
     try simp only [ha28]
     obtain ⟨ha29,hbha29⟩:=nR (a:=8) (b:=p24.1) 8 64 512 omQ omQ omQ omQ (by decide) (by decide)
     try simp only [ha29]
     have ha30:aD .i64 24 (8*p24.1)=(24 - (8*p24.1)):=fp omQ omQ
     try simp only [ha30]
     refine aN omQ ?_
     refine aa (And.intro ha20 (And.intro he23 (And.intro ha24 (And.intro ha27 (And.intro ha28 (And.intro ha29 ha30)))))) ?_
     refine aN omQ ?_
     have he31:((((4*p20.1)+p24.1)).toNat*1+1≤32)=True:=eq_true omQ
     refine aa (And.intro ha20 (And.intro he23 (And.intro ha24 (And.intro ha27 (And.intro ha28 (And.intro ha29 (And.intro ha30 he31))))))) ?_
     have he32:=oh (f:=(V.int .u8)) (l:=(aC 32 p24.2)) (n:=32) (i:=((4*p20.1)+p24.1)) (v:=(ae .u8 (au .u32 (gt p13.2 p20.1) (24 - (8*p24.1))))) bS omQ
     replace he32:=spR he32
     refine aa (And.intro ha20 (And.intro he23 (And.intro ha24 (And.intro ha27 (And.intro ha28 (And.intro ha29 (And.intro ha30 (And.intro he31 he32)))))))) ?_
     refine b_ (n24 - 1) _ (by omega) sbQ (by simp only [go_sem,aE,aF,List.length_replicate,az,Int.toNat_natCast,↓reduceIte,Nat.reduceEqDiff,Nat.reduceAdd,Int.reduceAdd,Nat.reduceMul,Nat.reduceLeDiff,Nat.reduceLT,Int.reduceLE,Int.reduceLT,Int.reduceNeg,Int.reduceToNat,List.isEmpty_nil,a7,dI,dX,cq,cr,mtO,mtB,mt,mtL,aH,aG,ltV,ltL,ltB,eq_self,or_true,true_or,or_self,and_self,aZ,a6,Int.reduceSub]) ⟨((p24.1+1),(aC 32 (st (aC 32 p24.2) ((4*p20.1)+p24.1) (ae .u8 (au .u32 (gt p13.2 p20.1) (24 - (8*p24.1))))))),rfl,⟨omQ,omQ⟩,omQ,ca hM hag24⟩
    ·rw [if_neg (an h25)] at hM
     refine aa (And.intro ha20 (And.intro he23 (And.intro ha24 h25))) ?_
     have nh25:=nzQ h25
     try have hr33:=mpQ nh25
     refine b_ (n20 - 1) _ (by omega) sbQ sbQ ⟨((p20.1+1),p24.2),rfl,⟨omQ,omQ⟩,omQ,ca hM hag20⟩
   ·rw [if_neg (an h21)] at hM
    refine aa (And.intro ha20 h21) ?_
    have nh21:=nzQ h21
    try have hr34:=mpQ nh21
    subst hM
    exact ar (av (And.intro ha20 (And.intro h6 (And.intro h14 h21))))
set_option maxHeartbeats 2000000 in
set_option maxRecDepth 100000 in
theorem Iu (tag:(List UInt8)) (b:(List Int)) (hp0:b.length≤900000000):CM En (uZ tag b) 106 [.str tag,.sl none 1 false (b.map (V.int .u8))] (fun y=> .tup [(bP y.1),.int .i64 y.2]) (fun _=> []):=by
 refine cmQ fun r hM=> ?_
 rw [uZ.eq_1] at hM
 refine aO aA aK [4] Tryz.func106 rfl Tryz.ntmps106 (by kernel_rfl) fun hw=>aL ?_
 refine spQ ?_
 replace hw:=nzQ hw
 refine aY (fun h1=> ?_) (fun h1=> ?_)
 ·rw [if_neg (an h1)] at hM
  refine aa h1 ?_
  have nh1:=nzQ h1
  try have hr2:=mpQ nh1
  refine aB (fun h3=> ?_) (fun h3=> ?_)
  ·rw [if_pos h3] at hM
   refine aa h3 ?_
   have nh3:=nzQ h3
   try have hr4:=mpQ nh3
   subst hM
   exact ar (av (And.intro h1 h3))
  ·rw [if_neg (an h3)] at hM
   refine aa h3 ?_
   have nh3:=nzQ h3
   try have hr5:=mpQ nh3
   refine l9 ?_
   try refine spQ ?_
   have hM0:=hM;clear hM;obtain ⟨x6,hx7,hM⟩:=ay hM0;clear hM0
   have hcx6:=cmH hx7 (rI (nP tag) (by (exact pfQ)))
   refine qm hcx6 clQ clQ (fun hw8=> ?_)
   replace hw8:=nzQ hw8
   refine spQ ?_
   refine me _ (⟨[(1,.sl none 1 false (b.map (V.int .u8))),(4,.ptr 0 0),(6,.ptr 2 0)],[(0,.var 32 true (kV)),(2,.pvar 32 true ((bP x6)))],3⟩:St) (uj (S:=⟨_,_,_⟩) 2 (n:=32) (g:=true) (d:=(bP x6)) clQ clQ) sbQ sbQ ?_
   try refine spQ ?_
   refine cG 26 5 [19,20,21,22,23] [] ([[],[0],[],[0,1,2],[]]++[List.range 5,List.range 6,List.range 7,List.range 8]) [(3,4)] (by kernel_rfl) (by exact alQ) ?_
   refine spQ ?_
   have hM0:=hM;clear hM;obtain ⟨x9,hx10,hM⟩:=ay hM0;clear hM0
   have hcx9:=vo (some false) (aC 32 x6)
   rw [←hx10] at hcx9
   refine E3 hcx9 clQ clQ ?_
   refine spQ ?_
   have hq11:=nzQ (cfU hx10)
   refine qn omQ clQ ?_
   refine spQ ?_
   refine aN omQ ?_
   refine spQ ?_
   have hM0:=hM;clear hM;obtain ⟨x12,hx13,hM⟩:=ay hM0;clear hM0
   have hcx12:=cmH hx13 (rI ((x9++(aC 32 x6))++b) (by (exact pfQ)))
   refine qm hcx12 clQ clQ (fun hw14=> ?_)
   replace hw14:=nzQ hw14
   refine spQ ?_
   subst hM
   exact ar (av (And.intro h1 h3))
 ·rw [if_pos h1] at hM
  refine aa h1 ?_
  have nh1:=nzQ h1
  try have hr15:=mpQ nh1
  subst hM
  exact ar (av h1)
set_option maxHeartbeats 2000000 in
set_option maxRecDepth 100000 in
instance MV (seed:(List Int)):CM En (u4 seed) 64 [.sl none 1 false (seed.map (V.int .u8))] (fun y=> .tup [(mu y.1),.int .i64 y.2]) (fun _=> []):=by
 refine cmQ fun r hM=> ?_
 rw [u4.eq_1] at hM
 refine aO aA aK noJ Tryz.func64 rfl Tryz.ntmps64 (by kernel_rfl) fun hw=>aL ?_
 refine spQ ?_
 replace hw:=nzQ hw
 refine aB (fun h1=> ?_) (fun h1=> ?_)
 ·rw [if_pos h1] at hM
  refine aa h1 ?_
  have nh1:=nzQ h1
  try have hr2:=mpQ nh1
  subst hM
  exact ar (av h1)
 ·rw [if_neg (an h1)] at hM
  refine aa h1 ?_
  have nh1:=nzQ h1
  try have hr3:=mpQ nh1
  have hM0:=hM;clear hM;obtain ⟨x4,hx5,hM⟩:=ay hM0;clear hM0
  have hcx4:=cmH hx5 (Iu ([115,112,101,99,105,101,47,100,114,97,119]) seed (by (exact pfQ)))
  refine aQ hcx4 clQ clQ (fun hw6=> ?_)
  replace hw6:=nzQ hw6
  refine spQ ?_
  have hF:=h1
  exact auQ
set_option maxHeartbeats 2000000 in
set_option maxRecDepth 100000 in
instance MW (b:dY) (bank:Int) (u:Int) (seed:(List Int)):CM En (oy b bank u seed) 23 [(ja b),.int .i64 bank,.int .i64 u,.sl none 1 false (seed.map (V.int .u8))] (fun y=> .tup [(bw y.1),.int .i64 y.2]) (fun _=> []):=by
 refine cmQ fun r hM=> ?_
 rw [oy.eq_1] at hM
 refine aO aA aK noJ Tryz.func23 rfl Tryz.ntmps23 (by kernel_rfl) fun hw=>aL ?_
 refine spQ ?_
 replace hw:=nzQ hw
 have hF:=ct
 exact auQ
set_option maxHeartbeats 2000000 in
set_option maxRecDepth 100000 in
theorem Iv (l:(List eJ)) (p_:aP) (now:Int) (hp0:p_.Holdings.length=0):CM En (u5 l p_ now) 24 [.sl none 11 true (l.map jR),(bw p_),.int .i64 now] (fun y=> .tup [.int .i64 y.1,.int .i64 y.2]) (fun _=> []):=by
 refine cmQ fun r hM=> ?_
 rw [u5.eq_1] at hM
 refine aO aA aK noJ Tryz.func24 rfl Tryz.ntmps24 (by kernel_rfl) fun hw=>aL ?_
 refine spQ ?_
 replace hw:=nzQ hw
 refine aY (fun h1=> ?_) (fun h1=> ?_)
 ·rw [if_neg (an h1)] at hM
  refine aa h1 ?_
  have nh1:=nzQ h1
  try have hr2:=mpQ nh1
  refine aB (fun h3=> ?_) (fun h3=> ?_)
  ·rw [if_pos h3] at hM
   refine aa h3 ?_
   have nh3:=nzQ h3
   try have hr4:=mpQ nh3
   subst hM
   exact ar (av (And.intro h1 h3))
  ·rw [if_neg (an h3)] at hM
   refine aa h3 ?_
   have nh3:=nzQ h3
   try have hr5:=mpQ nh3
   have hM0:=hM;clear hM;obtain ⟨f6,d6,hf6,hd6,hM⟩:=bd hM0;clear hM0
   refine dW (fun n S=> ∃p:Int×List eJ,S=(⟨[(0,.sl none 11 true (l.map jR)),(2,.int .i64 now),(4,.ptr 0 0),(8,.own 1),(25,.sl none 46 true (p_.Holdings.map bL)),(26,.int .i64 (p_.Holdings.length:Int)),(27,.int .i64 p.1)],[(0,.var 39 true ((bw p_))),(1,.own 151 11 true none (p.2.map jR))],2⟩:St)∧((0≤p.1)∧(p.1≤(p_.Holdings.length:Int))∧(((p.2).length:Int)≤p.1))∧((p_.Holdings.length:Int) - p.1).toNat<n∧ao n f6 d6 p=r) (((p_.Holdings.length:Int) - 0).toNat+1) _ _ (jI 8 151 rfl (by decide)) sbQ sbQ ⟨(0,([]:List eJ)),rfl,⟨omQ,omQ,omQ⟩,(Nat.lt_succ_self _),hM⟩ ?_
   clear hM
   rintro n6 S ⟨p6,rfl,hfa6,hm6,hM⟩
   have hM0:=hM;clear hM;obtain ⟨ag6,hag6,hM⟩:=bf hM0 (by omega) hf6;clear hM0
   replace hfa6:=nzQ hfa6
   replace hm6:=nzQ hm6
   have ha6:aq .i64 p6.1 1=p6.1+1:=bp omQ omQ
   refine aa ha6 ?_
   refine aB (fun h7=> ?_) (fun h7=> ?_)
   ·rw [if_pos h7] at hM
    refine aa (And.intro ha6 h7) ?_
    have nh7:=nzQ h7
    try have hr8:=mpQ nh7
    exact False.elim (by (clear hM;omega))
   ·rw [if_neg (an h7)] at hM
    refine aa (And.intro ha6 h7) ?_
    have nh7:=nzQ h7
    try have hr9:=mpQ nh7
    have hM0:=hM;clear hM;obtain ⟨f10,d10,hf10,hd10,hM⟩:=bd hM0;clear hM0
    refine bF (fun n S=> ∃p:Int×Int,S=(⟨[(2,.int .i64 now),(8,.own 1),(13,.int .i64 p.1),(73,.sl none 46 true (p_.Holdings.map bL)),(74,.int .i64 (p_.Holdings.length:Int)),(75,.int .i64 p.2)],[(1,.own 151 11 true none (p6.2.map jR))],2⟩:St)∧((0≤p.2)∧(p.2≤(p_.Holdings.length:Int)))∧((p_.Holdings.length:Int) - p.2).toNat<n∧ao n f10 d10 p=r) (((p_.Holdings.length:Int) - 0).toNat+1) _ sbQ sbQ ⟨(0,0),rfl,⟨omQ,omQ⟩,(Nat.lt_succ_self _),hM⟩ ?_
    clear hM
    rintro n10 S ⟨p10,rfl,hfa10,hm10,hM⟩
    have hM0:=hM;clear hM;obtain ⟨ag10,hag10,hM⟩:=bf hM0 (by omega) hf10;clear hM0
    replace hfa10:=nzQ hfa10
    replace hm10:=nzQ hm10
    have ha10:aq .i64 p10.2 1=p10.2+1:=bp omQ omQ
    refine aa (And.intro ha6 ha10) ?_
    refine aB (fun h11=> ?_) (fun h11=> ?_)
    ·rw [if_pos h11] at hM
     refine aa (And.intro ha6 (And.intro ha10 h11)) ?_
     have nh11:=nzQ h11
     try have hr12:=mpQ nh11
     exact False.elim (by (clear hM;omega))
    ·rw [if_neg (an h11)] at hM
     refine aa (And.intro ha6 (And.intro ha10 h11)) ?_
     have nh11:=nzQ h11
     try have hr13:=mpQ nh11
     subst hM
     exact ar (av (And.intro ha6 (And.intro ha10 (And.intro h1 (And.intro h3 (And.intro h7 h11))))))
 ·rw [if_pos h1] at hM
  refine aa h1 ?_
  have nh1:=nzQ h1
  try have hr14:=mpQ nh1
  subst hM
  exact ar (av h1)
set_option maxHeartbeats 2000000 in
set_option maxRecDepth 100000 in
instance MX (d_:dZ):CM En (u6 d_) 68 [(mu d_)] (fun y=> .bool y) (fun _=> []):=by
 refine cmQ fun r hM=> ?_
 rw [u6.eq_1] at hM
 refine aO aA aK noJ Tryz.func68 rfl Tryz.ntmps68 (by kernel_rfl) fun hw=>aL ?_
 refine spQ ?_
 replace hw:=nzQ hw
 have hF:=ct
 exact auQ
set_option maxHeartbeats 2000000 in
set_option maxRecDepth 100000 in
theorem Iw (N:Nat) (ih: ∀(i_:ab) (depth:Int),hgt i_<N→bC En 119 [.agg [.int .i64 i_.Kind,.int .i64 i_.N,.sl none 1 false (i_.B.map (V.int .u8)),.sl none 4 true (i_.L.map aw)],.int .i64 depth] (.bool (a8 i_ depth)) []) (x_:ab) (c0:Int) (hp0:hgt x_<N) (hp1:0<c0):bC En 160 [.agg [.int .i64 x_.Kind,.int .i64 x_.N,.sl none 1 false (x_.B.map (V.int .u8)),.sl none 4 true (x_.L.map aw)],.pp 1 false (.int .i64 c0)] (.bool (kY x_ c0)) []:=by
 generalize hM:kY x_ c0=r
 rw [kY.eq_1] at hM
 refine aO aA aK noJ Tryz.func160 rfl Tryz.ntmps160 (by kernel_rfl) fun hw=>aL ?_
 refine spQ ?_
 replace hw:=nzQ hw
 have ha1:aD .i64 c0 1=(c0 - 1):=fp omQ omQ
 try simp only [ha1]
 have hM0:=hM;clear hM;obtain ⟨x2,hx3,hM⟩:=ay hM0;clear hM0
 have hcx2:=ih x_ (c0 - 1) (by omega)
 rw [←hx3] at hcx2
 refine aQ hcx2 (ax ha1) (ax ha1) (fun hw4=> ?_)
 replace hw4:=nzQ hw4
 refine aa ha1 ?_
 subst hM
 exact ar (av ha1)
set_option maxHeartbeats 2000000 in
set_option maxRecDepth 100000 in
theorem Ix (N:Nat) (ih: ∀(i_:ab) (depth:Int),hgt i_<N→bC En 119 [.agg [.int .i64 i_.Kind,.int .i64 i_.N,.sl none 1 false (i_.B.map (V.int .u8)),.sl none 4 true (i_.L.map aw)],.int .i64 depth] (.bool (a8 i_ depth)) []) (z0:Option Bool) (s:(List ab)) (f__c0:Int) (hp0: ∀x∈s,hgt x<N) (hp1:0<f__c0):bC En 192 [.sl z0 4 true (s.map aw),.fn 160 [.pp 1 false (.int .i64 f__c0)]] (.int .i64 (rh s f__c0)) []:=by
 generalize hM:rh s f__c0=r
 rw [rh.eq_1] at hM
 refine aO aA aK noJ Tryz.func192 rfl Tryz.ntmps192 (by kernel_rfl) fun hw=>aL ?_
 refine spQ ?_
 replace hw:=nzQ hw
 have hM0:=hM;clear hM;obtain ⟨f1,d1,hf1,hd1,hM⟩:=bd hM0;clear hM0
 refine bF (fun n S=> ∃p:Int,S=(⟨[(0,.sl z0 4 true (s.map aw)),(1,.fn 160 [.pp 1 false (.int .i64 f__c0)]),(7,.int .i64 (s.length:Int)),(8,.int .i64 p)],[],0⟩:St)∧((0≤p)∧(p≤(s.length:Int)))∧((s.length:Int) - p).toNat<n∧ao n f1 d1 p=r) (((s.length:Int) - 0).toNat+1) _ sbQ sbQ ⟨0,rfl,⟨omQ,omQ⟩,(Nat.lt_succ_self _),hM⟩ ?_
 clear hM
 rintro n1 S ⟨p1,rfl,hfa1,hm1,hM⟩
 have hM0:=hM;clear hM;obtain ⟨ag1,hag1,hM⟩:=bf hM0 (by omega) hf1;clear hM0
 replace hfa1:=nzQ hfa1
 replace hm1:=nzQ hm1
 have ha1:aq .i64 p1 1=p1+1:=bp omQ omQ
 refine aa ha1 ?_
 refine aB (fun h2=> ?_) (fun h2=> ?_)
 ·rw [if_pos h2] at hM
  refine aa (And.intro ha1 h2) ?_
  have nh2:=nzQ h2
  try have hr3:=mpQ nh2
  refine aN omQ ?_
  have he4:=fun d=>aV (l:=s) (f:=aw) (i:=p1) omQ d
  refine aa (And.intro ha1 he4) ?_
  have hM0:=hM;clear hM;obtain ⟨x5,hx6,hM⟩:=ay hM0;clear hM0
  have hcx5:=Iw N ih (gt s p1) f__c0 (by (first|exact hp1|exact hp0 _ (dN (by omega)))) (by (first|exact hp1|exact hp0 _ (dN (by omega))))
  rw [←hx6] at hcx5
  refine aQ hcx5 (ax (And.intro ha1 he4)) (ax (And.intro ha1 he4)) (fun hw7=> ?_)
  replace hw7:=nzQ hw7
  refine aa (And.intro ha1 he4) ?_
  have hF:=(And.intro ha1 (And.intro h2 he4))
  exact auQ
 ·rw [if_neg (an h2)] at hM
  refine aa (And.intro ha1 h2) ?_
  have nh2:=nzQ h2
  try have hr9:=mpQ nh2
  subst hM
  exact ar (av (And.intro ha1 h2))
set_option maxHeartbeats 2000000 in
set_option maxRecDepth 100000 in
theorem Iy (N:Nat) (ih: ∀(i_:ab) (depth:Int),hgt i_<N→bC En 119 [.agg [.int .i64 i_.Kind,.int .i64 i_.N,.sl none 1 false (i_.B.map (V.int .u8)),.sl none 4 true (i_.L.map aw)],.int .i64 depth] (.bool (a8 i_ depth)) []) (z0:Option Bool) (s:(List ab)) (f__c0:Int) (hp0: ∀x∈s,hgt x<N) (hp1:0<f__c0):bC En 159 [.sl z0 4 true (s.map aw),.fn 160 [.pp 1 false (.int .i64 f__c0)]] (.bool (mD s f__c0)) []:=by
 generalize hM:mD s f__c0=r
 rw [mD.eq_1] at hM
 refine aO aA aK noJ Tryz.func159 rfl Tryz.ntmps159 (by kernel_rfl) fun hw=>aL ?_
 refine spQ ?_
 replace hw:=nzQ hw
 have hM0:=hM;clear hM;obtain ⟨x1,hx2,hM⟩:=ay hM0;clear hM0
 have hcx1:=Ix N ih z0 s f__c0 (by (first|exact hp1|exact hp0)) (by (first|exact hp1|exact hp0))
 rw [←hx2] at hcx1
 refine aQ hcx1 clQ clQ (fun hw3=> ?_)
 replace hw3:=nzQ hw3
 refine spQ ?_
 subst hM
 exact ar lfQ
set_option maxHeartbeats 2000000 in
set_option maxRecDepth 100000 in
theorem Iz (N:Nat) (ih: ∀(i_:ab) (depth:Int),hgt i_<N→bC En 119 [.agg [.int .i64 i_.Kind,.int .i64 i_.N,.sl none 1 false (i_.B.map (V.int .u8)),.sl none 4 true (i_.L.map aw)],.int .i64 depth] (.bool (a8 i_ depth)) []) (i_:ab) (depth:Int) (hp_:hgt i_<N+1):bC En 119 [.agg [.int .i64 i_.Kind,.int .i64 i_.N,.sl none 1 false (i_.B.map (V.int .u8)),.sl none 4 true (i_.L.map aw)],.int .i64 depth] (.bool (oz i_ depth)) []:=by
 generalize hM:oz i_ depth=r
 rw [oz.eq_1] at hM
 refine aO aA aK noJ Tryz.func119 rfl Tryz.ntmps119 (by kernel_rfl) fun hw=>aL ?_
 refine spQ ?_
 replace hw:=nzQ hw
 refine aB (fun h1=> ?_) (fun h1=> ?_)
 ·rw [if_pos h1] at hM
  refine aa h1 ?_
  have nh1:=nzQ h1
  try have hr2:=mpQ nh1
  have hF:=h1
  exact auQ
 ·rw [if_neg (an h1)] at hM
  refine aa h1 ?_
  have nh1:=nzQ h1
  try have hr6:=mpQ nh1
  refine aB (fun h7=> ?_) (fun h7=> ?_)
  ·rw [if_pos h7] at hM
   refine aa h7 ?_
   have nh7:=nzQ h7
   try have hr8:=mpQ nh7
   have hF:=(And.intro h1 h7)
   exact auQ
  ·rw [if_neg (an h7)] at hM
   refine aa h7 ?_
   have nh7:=nzQ h7
   try have hr12:=mpQ nh7
   refine aB (fun h13=> ?_) (fun h13=> ?_)
   ·rw [if_pos h13] at hM
    refine aa h13 ?_
    have nh13:=nzQ h13
    try have hr14:=mpQ nh13
    refine gO (fun h15=> ?_) (fun h15=> ?_)
    ·rw [if_pos h15] at hM
     refine aa h15 ?_
     have nh15:=nzQ h15
     try have hr16:=mpQ nh15
     refine gO (fun h17=> ?_) (fun h17=> ?_)
     ·rw [if_pos h17] at hM
      refine aa h17 ?_
      have nh17:=nzQ h17
      try have hr18:=mpQ nh17
      refine gO (fun h19=> ?_) (fun h19=> ?_)
      ·rw [if_pos h19] at hM
       refine aa h19 ?_
       have nh19:=nzQ h19
       try have hr20:=mpQ nh19
       refine gO (fun h21=> ?_) (fun h21=> ?_)
       ·rw [if_pos h21] at hM
        refine aa h21 ?_
        have nh21:=nzQ h21
        try have hr22:=mpQ nh21
        have hM0:=hM;clear hM;obtain ⟨x23,hx24,hM⟩:=ay hM0;clear hM0
        have hcx23:=Iy N ih none (i_.L) depth (by (first|omega|exact fun x hx=>Nat.lt_of_lt_of_le (q6 hx) (Nat.lt_succ_iff.1 hp_))) (by (first|omega|exact fun x hx=>Nat.lt_of_lt_of_le (q6 hx) (Nat.lt_succ_iff.1 hp_)))
        rw [←hx24] at hcx23
        refine qm hcx23 clQ clQ (fun hw25=> ?_)
        replace hw25:=nzQ hw25
        refine spQ ?_
        subst hM
        exact ar (av (And.intro h1 (And.intro h7 (And.intro h13 (And.intro h15 (And.intro h17 (And.intro h19 h21)))))))
       ·rw [if_neg (an h21)] at hM
        refine aa h21 ?_
        have nh21:=nzQ h21
        try have hr26:=mpQ nh21
        subst hM
        exact ar (av (And.intro h1 (And.intro h7 (And.intro h13 (And.intro h15 (And.intro h17 (And.intro h19 h21)))))))
      ·rw [if_neg (an h19)] at hM
       refine aa h19 ?_
       have nh19:=nzQ h19
       try have hr27:=mpQ nh19
       subst hM
       exact ar (av (And.intro h1 (And.intro h7 (And.intro h13 (And.intro h15 (And.intro h17 h19))))))
     ·rw [if_neg (an h17)] at hM
      refine aa h17 ?_
      have nh17:=nzQ h17
      try have hr28:=mpQ nh17
      subst hM
      exact ar (av (And.intro h1 (And.intro h7 (And.intro h13 (And.intro h15 h17)))))
    ·rw [if_neg (an h15)] at hM
     refine aa h15 ?_
     have nh15:=nzQ h15
     try have hr29:=mpQ nh15
     subst hM
     exact ar (av (And.intro h1 (And.intro h7 (And.intro h13 h15))))
   ·rw [if_neg (an h13)] at hM
    refine aa h13 ?_
    have nh13:=nzQ h13
    try have hr30:=mpQ nh13
    subst hM
    exact ar (av (And.intro h1 (And.intro h7 h13)))
theorem IA: ∀(N:Nat) (i_:ab) (depth:Int),hgt i_<N→bC En 119 [.agg [.int .i64 i_.Kind,.int .i64 i_.N,.sl none 1 false (i_.B.map (V.int .u8)),.sl none 4 true (i_.L.map aw)],.int .i64 depth] (.bool (a8 i_ depth)) []:=by
 intro N
 induction N with
 | zero=>intro i_ depth h;exact absurd h (Nat.not_lt_zero _)
 | succ N ih=>
  intro i_ depth h
  have h9:=Iz N ih i_ depth h
  rw [Hq] at h9
  exact h9
theorem IB (i_:ab) (depth:Int):bC En 119 [.agg [.int .i64 i_.Kind,.int .i64 i_.N,.sl none 1 false (i_.B.map (V.int .u8)),.sl none 4 true (i_.L.map aw)],.int .i64 depth] (.bool (a8 i_ depth)) []:=
 IA (hgt i_+1) i_ depth (Nat.lt_succ_self _)
set_option maxHeartbeats 2000000 in
set_option maxRecDepth 100000 in
instance MY (i_:ab):CM En (gV i_) 76 [.agg [.int .i64 i_.Kind,.int .i64 i_.N,.sl none 1 false (i_.B.map (V.int .u8)),.sl none 4 true (i_.L.map aw)]] (fun y=> .bool y) (fun _=> []):=by
 refine cmQ fun r hM=> ?_
 rw [gV.eq_1] at hM
 refine aO aA aK noJ Tryz.func76 rfl Tryz.ntmps76 (by kernel_rfl) fun hw=>aL ?_
 refine spQ ?_
 replace hw:=nzQ hw
 have hM0:=hM;clear hM;obtain ⟨x1,hx2,hM⟩:=ay hM0;clear hM0
 have hcx1:=IB i_ 8
 rw [←hx2] at hcx1
 refine aQ hcx1 clQ clQ (fun hw3=> ?_)
 replace hw3:=nzQ hw3
 refine spQ ?_
 subst hM
 exact ar lfQ
end Go.Proofs.YtlmleoeemmhboaaGreatDoor
