/- Texts of this proof, one after the other: EG. -/
import Derived.Test.YteibkofekpejgaaGreatDoorZ10
import Derived.Lib.AppendZeros
set_option linter.unusedVariables false
set_option linter.unusedSimpArgs false
namespace Go.Proofs.YteibkofekpejgaaGreatDoor
open Go.RowKit
set_option linter.unusedVariables false
set_option linter.unusedSimpArgs false
theorem Mc {n:Int} {x:List Int} (h:x=tZ [] n):x.length=0:=by subst h;rfl
theorem Md: ∃i:TypeInfo,Tryz.prog.info? 5=some i∧i.zero=some (.int .u8 0)∧i.size=1∧i.bytes=1:=by
 have h:(Tryz.prog.info? 5).map (fun i=>(i.zero,i.size,i.bytes))=some (some (.int .u8 0),1,1):=by kernel_rfl
 cases hi:Tryz.prog.info? 5 with
 | none=>rw [hi] at h;cases h
 | some i=>
  rw [hi] at h
  simp only [Option.map_some,Option.some.injEq,Prod.mk.injEq] at h
  exact ⟨i,rfl,h.1,h.2.1,h.2.2⟩
set_option maxHeartbeats 4000000 in
set_option maxRecDepth 100000 in
theorem Me (n:Nat) (hn:0<n) (h9:n≤100000000) (w:World):Calls Tryz.prog 253 #[.slice none 0 0,.int .i64 (n:Int)] w fun e w'=>
  e= .returned (.slice (some ⟨w.heap.size,0,none⟩) 0 (grownCap w n 0 5))∧w'=w.drew.alloc (.cells (Builtin.zeroCells (Value.int .u8 0).cells n++Builtin.zeroCells (Value.int .u8 0).cells (grownCap w n 0 5 - n)) 5):=by
 obtain ⟨i,hi,hz,hs,hb⟩:=Md
 have hap:=fun ty=>Lib.run_append_nil_zeros (P:=Tryz.prog) w 202 3 ty 5 i (.int .u8 0) .i64 .i64 Tryz.underlying202 Tryz.underlying3 hi hz n hn (by omega) (by omega) (by rw [hb];omega)
 have hge:=grownCap_ge w n 0 5
 have hq1: ¬((n:Int)<0):=by omega
 have hq2:(0:Int)<(n:Int):=by omega
 go_enter Tryz.func253,Tryz.ntmps253
 have hb5:Tryz.t5.bytes=1:=by kernel_rfl
 have hns:Builtin.nextslicecap n 0=n:=by unfold Builtin.nextslicecap;simp;omega
 go_wp2
 all_goals first|(exfalso;rw [hb5] at*;omega)|(exfalso;omega)|skip
 refine ⟨rfl,_,results_tmp rfl _ _ _,?_,?_⟩
 ·rfl
 ·rfl
set_option maxHeartbeats 4000000 in
set_option maxRecDepth 100000 in
theorem Mf (w:World):Calls Tryz.prog 253 #[.slice none 0 0,.int .i64 0] w fun e w'=>
  e= .returned (.slice none 0 0)∧w'=w:=by
 go_enter Tryz.func253,Tryz.ntmps253
 go_wp2
 exact ⟨rfl,_,results_tmp rfl _ _ _,rfl,rfl⟩
theorem Mg (z0:Option Bool) (a0:List Int) (a1:Int) (hp0:z0=some true) (hp1:a0=[]) (hp2:0≤a1) (hp3:a1≤100000000):aW En 253 [.sl z0 1 false (a0.map (V.int .u8)),.int .i64 a1] (.own 0) [.own 5 1 false none ((tZ a0 a1).map (V.int .u8))]:=by
 subst hp0 hp1
 refine ⟨show∀xs w,(callFunc 253 xs).run En.P w= .ok (.enter 253 xs) w from enters_of Tryz.func253 (by kernel_rfl) rfl,fun c us _ hg hus=> ?_⟩
 simp only [rdT] at hus
 obtain ⟨u0,c0,rfl,h0,u1,c1,rfl,h1,rfl⟩:=hus
 simp only [rd,List.map_nil,List.length_nil] at h0 h1
 obtain ⟨a,cap,rfl,_,⟨rfl,rfl⟩,_⟩:=h0
 obtain ⟨rfl,_⟩:=h1
 show Calls Tryz.prog _ _ _ _
 obtain ⟨n,rfl⟩: ∃n:Nat,a1=n:=⟨a1.toNat,by omega⟩
 by_cases h9:n=0
 ·subst h9
  refine (Mf c.w).mono ?_
  rintro e w' ⟨rfl,rfl⟩
  refine ⟨_,c,fun i=>if i=0 then some (.slice none 0 0) else none,rfl,rfl,Cx.le.refl c,⟨rfl,rfl⟩,?_,fun i hi=> ?_,fun i j bi bj k hij hi hj=> ?_⟩
  ·intro i b hb
   match i,hb with
   | 0,hb=>
    simp only [List.getElem?_cons_zero,Option.some.injEq] at hb
    subst hb
    exact ⟨.inl ⟨_,_,_,_,_,rfl⟩,_,rfl,Own.nil,fun k hk=>(by cases hk),fun _=>rfl,_,_,rfl,fun _=>rfl⟩
  ·exact if_neg (by simp only [List.length_cons,List.length_nil] at hi;omega)
  ·have:i=0:=by
    have:=(List.getElem?_eq_some_iff.1 hi).1
    simp at this;exact this
   have:j=0:=by
    have:=(List.getElem?_eq_some_iff.1 hj).1
    simp at this;exact this
   omega
 ·refine (Me n (by omega) (by omega) c.w).mono ?_
  rintro e w' ⟨rfl,rfl⟩
  have hge:=grownCap_ge c.w n 0 5
  have hcm:grownCap c.w n 0 5≤maxLen:=grownCap_le_maxLen c.w _ 0 5 (by unfold maxLen;omega)
  obtain ⟨c',h1,h2,h3,h4⟩:=q_ c 5 (rV ro0 1 false) [] [] (Builtin.zeroCells (Value.int .u8 0).cells n++Builtin.zeroCells (Value.int .u8 0).cells (grownCap c.w n 0 5 - n)) (grownCap c.w n 0 5) (by omega) (Nat.zero_le _) hcm (Nat.zero_le _)
   rfl (by rw [Array.size_append,size_zeroCells,size_zeroCells];show n*1+(grownCap c.w n 0 5 - n)*1=(grownCap c.w n 0 5 - 0)*1;omega) c.w.drew ⟨rfl,rfl,rfl,rfl⟩
  refine ⟨_,c',fun i=>if i=0 then some (.slice (some ⟨c.w.heap.size,0,none⟩) 0 (grownCap c.w n 0 5)) else none,rfl,by rw [h1];simp,h2,⟨rfl,rfl⟩,?_,fun i hi=> ?_,fun i j bi bj k hij hi hj=> ?_⟩
  ·intro i b hb
   match i,hb with
   | 0,hb=>
    simp only [List.getElem?_cons_zero,Option.some.injEq] at hb
    subst hb
    refine ⟨.inl ⟨_,_,_,_,_,rfl⟩,_,rfl,h3,fun k hk=> ?_,fun _=>rfl,_,_,rfl,fun h=>(by cases h)⟩
    obtain rfl:=mE hk
    exact .inl (Nat.le_refl _)
  ·exact if_neg (by simp only [List.length_cons,List.length_nil] at hi;omega)
  ·have:i=0:=by
    have:=(List.getElem?_eq_some_iff.1 hi).1
    simp at this;exact this
   have:j=0:=by
    have:=(List.getElem?_eq_some_iff.1 hj).1
    simp at this;exact this
   omega
end Go.Proofs.YteibkofekpejgaaGreatDoor
