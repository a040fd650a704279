/- Texts of this proof, one after the other: EK. -/
import Derived.Test.YteibkofekpejgaaGreatDoorZ10
set_option linter.unusedVariables false
set_option linter.unusedSimpArgs false
namespace Go.Proofs.YteibkofekpejgaaGreatDoor
open Go.RowKit
theorem zH {E:Env} {S:St} (t i:Nat) {n:Nat} {g:Bool} {d:V} (h:ab S.F t=some (.ptr i 0)) (h2:ab S.H i=some (.pvar n g d)):ca E S ⟨(t,.pp n g d)::S.F,S.H,S.nx⟩:=by
 intro c0 c ρ F hs
 refine ⟨c,ρ,rfl,⟨hs.1.since,hs.1.gl,fun t' v ht=> ?_,hs.1.heap,hs.1.sep⟩,hs.2⟩
 simp only [ab] at ht
 split at ht
 ·rename_i e;subst e;cases ht
  have h3:=hs.1.slot _ _ h
  obtain ⟨b,h4,h5⟩:=hs.1.heap _ _ h2
  simp only [rd] at h3⊢
  obtain ⟨b',h6,h7⟩:=h3
  rw [h4] at h6
  simp only [Option.some.injEq,Value.pointer.injEq,Addr.mk.injEq,and_true] at h6
  subst h6
  rw [h7]
  obtain ⟨b2,o,cs,e1,e2,e3,e4,e5⟩:=h5
  exact ⟨b2,o,cs,e1,e2,e3,e4,e5⟩
 ·exact hs.1.slot _ _ ht
theorem mx {p:Cx→Value→Prop} {b:Bool} (h:oW En p [] (.bool b)) (e:Int):aW En 94 [.pp 1 false (.opq p),.pp 1 false (.int .i64 e)] (.int .i64 (if b=true then 0 else e)) []:=by
 refine ci aV bP noJ Tryz.func94 rfl Tryz.ntmps94 (by kernel_rfl) fun hw=>bR ?_
 refine spQ ?_
 refine IC h (by simp only [cU]) (by simp only [mtL]) fun hw2=> ?_
 refine spQ ?_
 cases b
 ·refine spQ ?_
  exact b9 lfQ
 ·refine spQ ?_
  exact b9 lfQ
theorem ND {f:FuncId} {n:Nat} {g:Bool} {d:V} {b:Bool} (h:aW En f [.pp n g d] (.bool b) []) (e:Int):aW En 94 [.pp 1 false (.fn f [.pp n g d]),.pp 1 false (.int .i64 e)] (.int .i64 (if b=true then 0 else e)) []:=by
 refine ci aV bP noJ Tryz.func94 rfl Tryz.ntmps94 (by kernel_rfl) fun hw=>bR ?_
 refine spQ ?_
 refine aP h (by simp [cU,dH]) (iZ _) fun hw2=> ?_
 refine spQ ?_
 cases b
 ·refine spQ ?_
  exact b9 lfQ
 ·refine spQ ?_
  exact b9 lfQ
theorem Ek {f:FuncId} {n n':Nat} {g g':Bool} {d d':V} {b:Bool} (h:aW En f [.pp n g d,.pp n' g' d'] (.bool b) []) (e:Int):aW En 94 [.pp 1 false (.fn f [.pp n g d,.pp n' g' d']),.pp 1 false (.int .i64 e)] (.int .i64 (if b=true then 0 else e)) []:=by
 refine ci aV bP noJ Tryz.func94 rfl Tryz.ntmps94 (by kernel_rfl) fun hw=>bR ?_
 refine spQ ?_
 refine aP h (by simp [cU,dH]) (iZ _) fun hw2=> ?_
 refine spQ ?_
 cases b
 ·refine spQ ?_
  exact b9 lfQ
 ·refine spQ ?_
  exact b9 lfQ
set_option maxHeartbeats 4000000 in
set_option maxRecDepth 100000 in
theorem NE (f:FuncId) (fs cs:Array Value) (e:Int) (w:World):Calls Tryz.prog 51 #[.func (.func f) fs cs,.int .i64 e] w fun r w'=>
  r= .returned (.func (.func 94) #[] #[.pointer (some ⟨w.heap.size,0,none⟩),.pointer (some ⟨w.heap.size+1,0,none⟩)])∧
  w'=(w.alloc (.cells #[.func (.func f) fs cs] 42)).alloc (.cells #[.int .i64 e] 45):=by
 go_enter Tryz.func51,Tryz.ntmps51
 go_wp2
 exact ⟨rfl,_,results_tmp rfl _ _ _,rfl,rfl⟩
theorem iJ {x:V} (hx: ∀c v,rd ro0 c x v→ ∃f fs cs,v= .func (.func f) fs cs) (e:Int):aW En 51 [x,.int .i64 e] (.fn 94 [.pp 1 false x,.pp 1 false (.int .i64 e)]) []:=by
 refine ⟨show∀xs w,(callFunc 51 xs).run En.P w= .ok (.enter 51 xs) w from enters_of Tryz.func51 (by kernel_rfl) rfl,fun c us _ hg hus=> ?_⟩
 simp only [rdT] at hus
 obtain ⟨u0,c0,rfl,h0,u1,c1,rfl,h1,rfl⟩:=hus
 obtain ⟨f,fs,cs,rfl⟩:=hx c u0 h0
 have h1':=h1
 simp only [rd] at h1
 obtain ⟨rfl,hr⟩:=h1
 refine (show Calls En.P _ _ _ _ from NE f fs cs e c.w).mono ?_
 rintro r w' ⟨rfl,rfl⟩
 have hB:Below c.w.heap.size c.w ((c.w.alloc (.cells #[.func (.func f) fs cs] 42)).alloc (.cells #[.int .i64 e] 45)):=((Below.refl _ _).alloc (Nat.le_refl _) _).alloc (by simp) _
 have hX: ∀k,c.w.heap.size≤k→k∉c.X:=fun k hk h=>absurd (c.ok k h) (by omega)
 have w0:((c.w.alloc (.cells #[.func (.func f) fs cs] 42)).alloc (.cells #[.int .i64 e] 45)).heap[c.w.heap.size]? =some (.cells #[.func (.func f) fs cs] 42):=
  (Below.heap_alloc _ _ _ (by simp)).trans (World.alloc_heap_new c.w _)
 have w1:((c.w.alloc (.cells #[.func (.func f) fs cs] 42)).alloc (.cells #[.int .i64 e] 45)).heap[c.w.heap.size+1]? =some (.cells #[.int .i64 e] 45):=by
  have:=World.alloc_heap_new (c.w.alloc (.cells #[.func (.func f) fs cs] 42)) (.cells #[.int .i64 e] 45)
  rwa [World.size_alloc] at this
 have hle:=Cx.le_at hB
 refine ⟨_,c.at _ hB.size,ro0,rfl,rfl,hle,?_,⟨fun i b hb=>by simp at hb,fun i _=>rfl,fun i j bi bj k _ hb=>by simp at hb⟩⟩
 simp only [rd]
 refine ⟨[.pointer (some ⟨c.w.heap.size,0,none⟩),.pointer (some ⟨c.w.heap.size+1,0,none⟩)],rfl,_,_,rfl,?_,_,_,rfl,?_,rfl⟩
 ·exact uC hle.pub w0 (hX _ (by omega)) rfl (bn hle.pub h0)
 ·exact uC hle.pub w1 (hX _ (by omega)) rfl (bn hle.pub h1')
theorem my {f:FuncId} {vs:List V}: ∀c v,rd ro0 c (.opq (dV f vs)) v→ ∃f fs cs,v= .func (.func f) fs cs:=by
 rintro c v h
 simp only [rd] at h
 obtain ⟨⟨cs,rfl,_⟩,_⟩:=h
 exact ⟨_,_,_,rfl⟩
theorem zI {f:FuncId} {l:List V}: ∀c v,rd ro0 c (.fn f l) v→ ∃f fs cs,v= .func (.func f) fs cs:=by
 rintro c v h
 simp only [rd] at h
 obtain ⟨cs,rfl,_⟩:=h
 exact ⟨_,_,_,rfl⟩
end Go.Proofs.YteibkofekpejgaaGreatDoor
