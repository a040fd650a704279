/- Texts of this proof, one after the other: EC. -/
import Derived.Test.YtiknkaadhomeiaaGreatDoorZ6
import Derived.TacticsInMore
import Derived.LoopNIn
import Derived.LoopIn
set_option linter.unusedVariables false
set_option linter.unusedSimpArgs false
namespace Go.Proofs.YtiknkaadhomeiaaGreatDoor
open Go.RowKit Go.Shelf
set_option linter.unusedVariables false
set_option linter.unusedSimpArgs false
attribute [local go_sem] Oper.semAt_some
set_option maxHeartbeats 4000000 in
set_option maxRecDepth 100000 in
theorem Kz (a:Option Addr) (k cap:Nat) (w:World):Calls Tryz.prog 110 #[.slice a k cap,.int .i64 2] w fun e w'=>
  e= .returned (.func (.func 169) #[] #[.pointer (some ⟨w.heap.size,0,none⟩),.pointer (some ⟨w.heap.size+1,0,none⟩)])∧
  w'=(w.alloc (.cells #[.slice a k cap] 22)).alloc (.cells #[.int .i64 2] 3):=by
 go_enter Tryz.func110,Tryz.ntmps110
 go_wp2
 exact ⟨rfl,_,results_tmp rfl _ _ _,rfl,rfl⟩
theorem xE {c c':Cx} (hp:c.pub c') {b:Nat} {v:Value} {T:TypeId} {d:V} (hb:c'.w.heap[b]? =some (.cells #[v] T)) (hX:b∉c'.X) (hv:v.oneCell'=true) (hd:rd ro0 c' d v):rd ro0 c' (.pp 1 false d) (.pointer (some ⟨b,0,none⟩)):=by
 simp only [rd]
 refine ⟨b,0,[v],rfl,(Array.getElem?_eq_some_iff.1 hb).1,hX,fun i u hi=> ?_,⟨rfl,fun _=>rfl,by simpa using hv⟩,hd⟩
 show c'.w.cell? ⟨b,0+i,none⟩=some u
 unfold World.cell?
 rw [hb]
 simpa using hi
theorem KA (z:Option Bool) (l:List Int):a8 En 110 [.sl z 1 false (l.map (V.int .i64)),.int .i64 2] (.fn 169 [.pp 1 false (.sl none 1 false (l.map (V.int .i64))),.pp 1 false (.int .i64 2)]) []:=by
 refine ⟨show∀xs w,(callFunc 110 xs).run En.P w= .ok (.enter 110 xs) w from enters_of Tryz.func110 (by kernel_rfl) rfl,fun c us _ hg hus=> ?_⟩
 simp only [rdT] at hus
 obtain ⟨u0,c0,rfl,h0,u1,c1,rfl,h1,rfl⟩:=hus
 have h0':=h0
 simp only [rd] at h0' h1
 obtain ⟨a,cap,rfl,hl,hz,_⟩:=h0'
 obtain ⟨rfl,_⟩:=h1
 have h0n:rd ro0 c (.sl none 1 false (l.map (V.int .i64))) (.slice a (l.map (V.int .i64)).length cap):=by
  simp only [rd] at h0⊢
  obtain ⟨a',cap',e,h1,h2,h3⟩:=h0
  exact ⟨a',cap',e,h1,m9 h2,h3⟩
 refine (Kz a _ cap c.w).mono ?_
 rintro e w' ⟨rfl,rfl⟩
 have hB:Below c.w.heap.size c.w ((c.w.alloc (.cells #[.slice a (l.map (V.int .i64)).length cap] 22)).alloc (.cells #[.int .i64 2] 3)):=((Below.refl _ _).alloc (Nat.le_refl _) _).alloc (by simp) _
 have hX: ∀k,c.w.heap.size≤k→k∉c.X:=fun k hk h=>absurd (c.ok k h) (by omega)
 have w0:((c.w.alloc (.cells #[.slice a (l.map (V.int .i64)).length cap] 22)).alloc (.cells #[.int .i64 2] 3)).heap[c.w.heap.size]? =some (.cells #[.slice a (l.map (V.int .i64)).length cap] 22):=
  (Below.heap_alloc _ _ _ (by simp)).trans (World.alloc_heap_new c.w _)
 have w1:((c.w.alloc (.cells #[.slice a (l.map (V.int .i64)).length cap] 22)).alloc (.cells #[.int .i64 2] 3)).heap[c.w.heap.size+1]? =some (.cells #[.int .i64 2] 3):=by
  have:=World.alloc_heap_new (c.w.alloc (.cells #[.slice a (l.map (V.int .i64)).length cap] 22)) (.cells #[.int .i64 2] 3)
  rwa [World.size_alloc] at this
 have hle:=Cx.le_at hB
 refine ⟨_,c.at _ hB.size,ro0,rfl,rfl,hle,?_,⟨fun i b hb=>by simp at hb,fun i _=>rfl,fun i j bi bj k _ hb=>by simp at hb⟩⟩
 refine ⟨[.pointer (some ⟨c.w.heap.size,0,none⟩),.pointer (some ⟨c.w.heap.size+1,0,none⟩)],rfl,_,_,rfl,?_,_,_,rfl,?_,rfl⟩
 ·exact xE hle.pub w0 (hX _ (by omega)) rfl (bA hle.pub h0n)
 ·exact xE hle.pub w1 (hX _ (by omega)) rfl ⟨rfl,by decide⟩
theorem Cv {P:Program} {K:Value→World→Prop} {F:Fm} {o:Oper} {w:World} {T:TypeId} {x:Operand} {ad:Addr} {v:Value} (ho:o.op= .load T x) (hT: ∀w,(isAgg T).run P w= .ok false w) (hx:ev F x= .pointer (some ad)) (hc:w.cell? ad=some v) (h:K v w):aB P K (run P F o w):=by
 refine yv (v:=v) (w':=w) ?_ h
 simp [run,execOp,ho,hx,Instr.loadAt,Instr.sureAddr,loadVar,hT,hc]
theorem oz {c:Cx} {W:World} {b o:Nat} {v:Value} (hlt:b<c.w.heap.size) (hX:b∉c.X) (hk:fY c c.w W) (h:c.w.cell? ⟨b,o,none⟩=some v):W.cell? ⟨b,o,none⟩=some v:=by
 unfold World.cell? at h⊢
 cases hx:c.w.heap[b]? with
 | none=>simp only [hx] at h;cases h
 | some x=>
  simp only [hx] at h
  cases x with
  | cells cs T g=>rw [show W.heap[(⟨b,o,none⟩:Addr).block]? =_ from hk.2 b hlt hX _ hx rfl];exact h
  | _=>cases h
theorem xF {c:Cx} {W:World} (h:Below c.w.heap.size c.w W):fY c c.w W:=⟨h.size,fun k hk _ o ho _=>(h.block k hk).trans ho⟩
theorem fY.trans {c:Cx} {A B C:World} (h:fY c A B) (k:fY c B C):fY c A C:=⟨Nat.le_trans h.1 k.1,fun i hi hx o ho hc=>k.2 i hi hx o (h.2 i hi hx o ho hc) hc⟩
theorem Cw {α:Type}: ∀{l:List α} {i:Nat} {y:List α},(cM l)[i]? =some y→y=(l.drop (2*i)).take 2∧2*i+2≤l.length
 | a::b::l,0,y,h=>by simp [cM] at h;subst h;simp
 | a::b::l,i+1,y,h=>by
  simp only [cM,List.getElem?_cons_succ] at h
  obtain ⟨h1,h2⟩:=Cw h
  refine ⟨?_,by simp only [List.length_cons];omega⟩
  rw [h1,show 2*(i+1)=2*i+1+1 by omega,List.drop_succ_cons,List.drop_succ_cons]
 | [],i,y,h=>by simp [cM] at h
 | [_],i,y,h=>by simp [cM] at h
theorem Cy {F:Fm} {a:Act} (h:Fr (mo:=iO) 31 F a):a={tmps:= #[F 0,F 1,F 2,F 3,F 4,F 5,F 6,F 7,F 8,F 9,F 10,F 11,F 12,F 13,F 14,F 15,F 16,F 17,F 18,F 19,F 20,F 21,F 22,F 23,F 24,F 25,F 26,F 27,F 28,F 29,F 30],defers:=[]}:=by
 obtain ⟨tm,df⟩:=a
 have h1:tm.size=31:=h.sz
 have h2:df=[]:=h.df
 subst h2
 congr 1
 refine Array.ext (by rw [h1];rfl) fun i hi hj=> ?_
 have h3:=h.sl i (by omega)
 have h4:tm.getD i undef=tm[i]:=by simp [Array.getD,hi]
 change tm.getD i undef=F i at h3
 rw [←h4,h3]
 have hi':i<31:=by omega
 have key: ∀j:Fin 31,F j.val=(#[F 0,F 1,F 2,F 3,F 4,F 5,F 6,F 7,F 8,F 9,F 10,F 11,F 12,F 13,F 14,F 15,F 16,F 17,F 18,F 19,F 20,F 21,F 22,F 23,F 24,F 25,F 26,F 27,F 28,F 29,F 30]:Array Value)[j.val]'j.isLt:=by
  intro j
  match j with
  | ⟨0,_⟩=>rfl
  | ⟨1,_⟩=>rfl
  | ⟨2,_⟩=>rfl
  | ⟨3,_⟩=>rfl
  | ⟨4,_⟩=>rfl
  | ⟨5,_⟩=>rfl
  | ⟨6,_⟩=>rfl
  | ⟨7,_⟩=>rfl
  | ⟨8,_⟩=>rfl
  | ⟨9,_⟩=>rfl
  | ⟨10,_⟩=>rfl
  | ⟨11,_⟩=>rfl
  | ⟨12,_⟩=>rfl
  | ⟨13,_⟩=>rfl
  | ⟨14,_⟩=>rfl
  | ⟨15,_⟩=>rfl
  | ⟨16,_⟩=>rfl
  | ⟨17,_⟩=>rfl
  | ⟨18,_⟩=>rfl
  | ⟨19,_⟩=>rfl
  | ⟨20,_⟩=>rfl
  | ⟨21,_⟩=>rfl
  | ⟨22,_⟩=>rfl
  | ⟨23,_⟩=>rfl
  | ⟨24,_⟩=>rfl
  | ⟨25,_⟩=>rfl
  | ⟨26,_⟩=>rfl
  | ⟨27,_⟩=>rfl
  | ⟨28,_⟩=>rfl
  | ⟨29,_⟩=>rfl
  | ⟨30,_⟩=>rfl
  | ⟨i+31,h⟩=>exact absurd (show i+31<31 from h) (by omega)
 exact key ⟨i,hi'⟩
def iI (N i:Nat):List (Fin N):=(List.finRange N).take i
theorem Cz {N i:Nat} (h:i<N):iI N (i+1)=iI N i++[⟨i,h⟩]:=by
 unfold iI
 rw [List.take_succ_eq_append_getElem (by simpa using h)]
 simp
theorem qz {N i:Nat} (h:i≤N):(iI N i).map (·.val)=List.range i:=by
 unfold iI
 rw [List.map_take]
 have:(List.finRange N).map (·.val)=List.range N:=by
  refine List.ext_getElem (by simp) fun j h1 h2=>by simp
 rw [this,List.take_range]
 congr 1;omega
theorem oA {N i:Nat} (h:i≤N):(iI N i).length=i:=by
 have:=congrArg List.length (qz h)
 simpa using this
set_option maxHeartbeats 8000000 in
set_option maxRecDepth 100000 in
theorem KB {l:List Int} (hl: ∃m,l.length=2*m):pr En 169 [.pp 1 false (.sl none 1 false (l.map (V.int .i64))),.pp 1 false (.int .i64 2)] ((cM l).map fun y=> [.sl none 1 false (y.map (V.int .i64))]):=by
 obtain ⟨m,hm⟩:=hl
 refine ⟨show∀xs w,(callFunc 169 xs).run En.P w= .ok (.enter 169 xs) w from enters_of Tryz.func169 (by kernel_rfl) rfl,fun cS us hg hus=> ?_⟩
 simp only [rdT] at hus
 obtain ⟨u1,c1,rfl,r1,u2,c2,rfl,r2,rfl⟩:=hus
 simp only [rd] at r1 r2
 obtain ⟨b1,o1,cs1,rfl,hb1,hX1,hc1,hs1,a,cap,e1,hlen,hz,hsl⟩:=r1
 obtain ⟨b2,o2,cs2,rfl,hb2,hX2,hc2,hs2,e2,_⟩:=r2
 have hN:((cM l).map fun y=> [V.sl none 1 false (y.map (V.int .i64))]).length=m:=by rw [List.length_map,BJ hm]
 have k1:cs1=[.slice a (l.map (V.int .i64)).length cap]:=by
  obtain ⟨h1,_⟩:=hs1
  match cs1,h1 with
  | [x],_=>simpa [mkV] using e1
 have k2:cs2=[.int .i64 2]:=by
  obtain ⟨h1,_⟩:=hs2
  match cs2,h1 with
  | [x],_=>simpa [mkV] using e2
 subst k1 k2
 have g1:cS.w.cell? ⟨b1,o1,none⟩=some (.slice a (l.map (V.int .i64)).length cap):=by simpa using hc1 0 _ rfl
 have g2:cS.w.cell? ⟨b2,o2,none⟩=some (.int .i64 2):=by simpa using hc2 0 _ rfl
 rw [List.length_map] at hlen g1
 refine ⟨fun i=> [.slice (a.map (·.add (2*i))) 2 2],fun i L hL=> ?_,?_⟩
 ·rw [List.getElem?_map,Option.map_eq_some_iff] at hL
  obtain ⟨y,hy,rfl⟩:=hL
  obtain ⟨hy1,hy2⟩:=Cw hy
  have hsi:kq (rV ro0 1 false) cS a (l.map (V.int .i64)):=by
   rcases hsl with h|⟨b,o,cs,e,h1,h2,h3,h4⟩
   ·exact .inl h
   ·exact .inr ⟨b,o,cs,e,h1,h2,h3,eN.1 h4⟩
  have hpt:=yX (lo:=2*i) (hi:=2*i+2) (m:=2*i+2) hsi (by omega) (by simpa using hy2) (Nat.le_refl _)
  rw [if_neg (by omega),show 2*i+2 - 2*i=2 by omega,←List.map_drop,←List.map_take,←hy1] at hpt
  simp only [show (rV ro0 1 false).n=1 from rfl,Nat.mul_one] at hpt
  have hyl:y.length=2:=by rw [hy1];simp;omega
  simp only [rdT]
  refine ⟨_,_,rfl,?_,rfl⟩
  simp only [rd,List.length_map,hyl]
  refine ⟨a.map (·.add (2*i)),2,rfl,⟨by decide,Nat.le_refl _⟩,?_,?_⟩
  ·intro h
   have:=hz (by simpa using h)
   omega
  ·rcases hpt with h|⟨b,o,cs,e,h1,h2,h3,h4⟩
   ·exact .inl h
   ·exact .inr ⟨b,o,cs,e,h1,h2,h3,eN.2 h4⟩
 ·intro lp J Jx W hW hJ hJx hY h0
  refine callsIn_wide.2 ?_
  show Calls Tryz.prog _ _ _ _
  go_enter Tryz.func169,Tryz.ntmps169
  go_wp2
  refine oG.1 (uo (mo:=iO) (P:=Tryz.prog) (fun k a9 W1=> ∃(i:Nat) (F:Nat→Value),k=m - i∧i≤m∧Fr (mo:=iO) 31 F a9∧F 0= .func (.yield lp) #[] #[]∧F 1= .pointer (some ⟨b1,o1,none⟩)∧F 2= .pointer (some ⟨b2,o2,none⟩)∧F 4= .int .i64 ((2*i:Nat):Int)∧fY cS cS.w W1∧J (iI _ i) W1) m ?start ?round)
  case start=>exact ⟨0,_,rfl,by omega,Fr.of rfl rfl (fun t=>rfl),rfl,rfl,rfl,rfl,xF hW,h0⟩
  case round=>
   rintro k a9 W1 ⟨i,F,rfl,hi,hf,e0,e1,e2,e4,hK,hJ1⟩
   refine oG.2 ?_
   rw [Cy hf,e0,e1,e2,e4]
   have q1:=oz hb1 hX1 hK g1
   have q2:=oz hb2 hX2 hK g2
   by_cases hlt:i<m
   ·have hq9:((2*i:Nat):Int)<(l.length:Int):=by omega
    go_wp2
    rename_i K9 k9 K4 k4
    let c9:Cx:=⟨[],W1,(fun k h=>(by simp at h)),[]⟩
    have cl: ∀{W:World} {b o:Nat} {v:Value},Below W1.heap.size W1 W→W1.cell? ⟨b,o,none⟩=some v→W.cell? ⟨b,o,none⟩=some v:=fun {W b o v} hB h=>by
     refine (World.cell?_of_block (hB.block b ?_)).trans h
     unfold World.cell? at h
     cases hx:W1.heap[b]? with
     | none=>simp only [hx] at h;cases h
     | some x=>exact (Array.getElem?_eq_some_iff.1 hx).1
    refine oG.1 (EZ (mo:=iO) (P:=Tryz.prog) (n:=31) (c0:=c9) 7 [13,14,15,16,17,18,5] [[],[],[],[1,2],[3,1,2],[0,4,3,1,2],[0,1,2,3,4,5]] []
     (fun j=> [Ph.eq (.int .i64 2),Ph.eq (.slice a l.length cap),Ph.eq (.int .i64 ((2*i:Nat):Int)),Ph.eq (.slice (if cap=2*i then a else a.map (·.add (2*i))) (l.length - 2*i) (cap - 2*i)),Ph.eq (.int .i64 ((l.length - 2*i:Nat):Int)),Ph.eq (.int .i64 2),Ph.eq (.int .i64 2)].getD j Ph.any)
     (by kernel_rfl) rfl (show Tryz.prog.follows .mixedOrders=true from cJ) (Fr.of rfl rfl fun t=>rfl) ⟨?o0,?o1,?o2,?o3,?o4,?o5,?o6,trivial⟩ ?oT)
    case o0=>exact ob rfl rfl fun F1 d1 hF K hK=>Cv rfl Tryz.isAgg3 (show ev F1 (.tmp 2)= .pointer (some ⟨b2,o2,none⟩) from hF.old 2 (by decide)) (cl hF.le.below q2) (hK _ d1 (Cx.le.refl _) rfl)
    case o1=>exact ob rfl rfl fun F1 d1 hF K hK=>Cv rfl Tryz.isAgg22 (show ev F1 (.tmp 1)= .pointer (some ⟨b1,o1,none⟩) from hF.old 1 (by decide)) (cl hF.le.below q1) (hK _ d1 (Cx.le.refl _) rfl)
    case o2=>exact ob rfl rfl fun F1 d1 hF K hK=>yC rfl (hK _ d1 (Cx.le.refl _) (show ev F1 (.tmp 4)=_ from hF.old 4 (by decide)))
    case o3=>exact ob rfl rfl fun F1 d1 hF K hK=>y8 (n:=1) (i:=((2*i:Nat):Int)) (j:=(l.length:Int)) rfl Tryz.underlying22 Tryz.sizeOf3 (show ev F1 (.tmp 14)= .slice a l.length cap from hF.of 1 (by decide) 14 rfl) (.inr ⟨_,.i64,rfl,(show F1 15= .int .i64 ((2*i:Nat):Int) from hF.of 2 (by decide) 15 rfl)⟩) (.inl ⟨rfl,rfl⟩) ⟨by omega,by omega,by omega⟩ hlen.2 (hK _ d1 (Cx.le.refl _) (by simp only [Int.toNat_natCast,Nat.mul_one];rfl))
    case o4=>exact ob rfl rfl fun F1 d1 hF K hK=>yv (v:= .int .i64 ((l.length - 2*i:Nat):Int)) (w':=d1.w) (by
     have e:ev F1 (.tmp 16)= .slice (if cap=2*i then a else a.map (·.add (2*i))) (l.length - 2*i) (cap - 2*i):=hF.of 3 (by decide) 16 rfl
     simp [run,execOp,resolve,invoke,builtin,Builtin.len_,underlying,Tryz.underlying22,e,goInt]) (hK _ d1 (Cx.le.refl _) rfl)
    case o5=>exact ob rfl rfl fun F1 d1 hF K hK=>y7 rfl (show ev F1 (.tmp 13)= .int .i64 2 from hF.of 0 (by decide) 13 rfl) (show ev F1 (.tmp 17)= .int .i64 ((l.length - 2*i:Nat):Int) from hF.of 4 (by decide) 17 rfl) (hK _ d1 (Cx.le.refl _) (by show Value.int .i64 (gZ 2 _)=Value.int .i64 2;congr 1;unfold gZ;split<;>omega))
    case o6=>exact ob rfl rfl fun F1 d1 hF K hK=>yD rfl (hK _ d1 (Cx.le.refl _) (show ev F1 (.tmp 18)= .int .i64 2 from hF.of 5 (by decide) 18 rfl))
    case oT=>
     intro F1 d1 hF a1 ha1
     have hBd:Below W1.heap.size W1 d1.w:=hF.le.below
     have q1':=cl hBd q1
     have q2':=cl hBd q2
     rw [Cy ha1,show F1 0= .func (.yield lp) #[] #[] from hF.old 0 (by decide),show F1 1= .pointer (some ⟨b1,o1,none⟩) from hF.old 1 (by decide),show F1 2= .pointer (some ⟨b2,o2,none⟩) from hF.old 2 (by decide),show F1 4= .int .i64 ((2*i:Nat):Int) from hF.old 4 (by decide),show F1 5= .int .i64 2 from hF.of 6 (by decide) 5 rfl]
     refine k4 _ _ ?_
     have hwr:wrap64 (2*(i:Int)+2)=2*(i:Int)+2:=(by unfold wrap64;have h9:=hlen.1;rw [io] at h9;omega)
     have hw2:(2*(i:Int)+2).toNat=2*i+2:=by omega
     have hw3:(2*(i:Int)).toNat=2*i:=by omega
     have hcp:2*i+2≤cap:=by omega
     have hJd:J (iI _ i) d1.w:=hJ _ _ _ none hJ1 (show W1.grownBy d1.w none from ⟨hBd.os,hBd.tape,hBd.output,hBd.size,fun k hk _=>hBd.block k hk⟩) (fun r e=>by cases e)
     have hi9:i<((cM l).map fun y=> [V.sl none 1 false (y.map (V.int .i64))]).length:=by rw [hN];exact hlt
     obtain ⟨fn,tmps,assign,body,hy,hR⟩:=(show YieldAt Fence.wide 1 Tryz.prog lp _ d1.w _ from hY (iI _ i) ⟨i,hi9⟩ d1.w hJd (by rw [oA (Nat.le_of_lt hi9)];exact hi9))
     rw [←Cz hi9] at hR
     refine (wpIn_wide (n:=2)).1 ?_
     gi_wp2
     refine hR.mono ?_
     rintro e W' (⟨rfl,hJ',hk'⟩|⟨rfl,hJx'⟩)
     ·gi_wp2
      have hK2:fY cS cS.w W':=(hK.trans ⟨hBd.size,fun k hk _ o ho _=>(hBd.block k (Nat.lt_of_lt_of_le hk hK.1)).trans ho⟩).trans hk'
      have q2'':=oz hb2 hX2 hK2 g2
      go_wp2
      exact ⟨m - (i+1),by omega,i+1,_,rfl,by omega,Fr.of rfl rfl (fun t=>rfl),rfl,rfl,rfl,(show Value.int .i64 _=Value.int .i64 _ by first|(congr 1;done)|(congr 1;omega)),hK2,hJ'⟩
     ·gi_wp2
      exact ⟨rfl,_,results_none rfl _ _ _,⟨_,rfl⟩,.inr ⟨_,⟨by rw [qz hi9,oA hi9],fun h9=>by have:=congrArg List.length h9;rw [oA hi9] at this;simp at this⟩,hJx'⟩⟩
   ·have hq9: ¬((2*i:Nat):Int)<(l.length:Int):=by omega
    have him:i=m:=by omega
    subst him
    go_wp2
    exact ⟨rfl,_,results_none rfl _ _ _,⟨_,rfl⟩,.inl ⟨_,by rw [qz (Nat.le_of_eq hN.symm)]<;>first|done|exact congrArg List.range hN.symm,hJ1⟩⟩
theorem KC {n:Nat} (h:n% 2=0): ∃m,n=2*m:=⟨n/2,by omega⟩
end Go.Proofs.YtiknkaadhomeiaaGreatDoor
