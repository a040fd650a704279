/- Texts of this proof, one after the other: EC, HP. -/
import Derived.Test.YteibkofekpejgaaGreatDoorZ9
import Derived.TacticsInMore
import Derived.LoopNIn
import Derived.LoopIn
set_option linter.unusedVariables false
set_option linter.unusedSimpArgs false
namespace Go.Proofs.YteibkofekpejgaaGreatDoor
open Go.RowKit Go.Shelf
set_option linter.unusedVariables false
set_option linter.unusedSimpArgs false
attribute [local go_sem] Oper.semAt_some
set_option maxHeartbeats 4000000 in
set_option maxRecDepth 100000 in
theorem LW (a:Option Addr) (k cap:Nat) (w:World):Calls Tryz.prog 251 #[.slice a k cap,.int .i64 2] w fun e w'=>
  e= .returned (.func (.func 263) #[] #[.pointer (some ⟨w.heap.size,0,none⟩),.pointer (some ⟨w.heap.size+1,0,none⟩)])∧
  w'=(w.alloc (.cells #[.slice a k cap] 67)).alloc (.cells #[.int .i64 2] 3):=by
 go_enter Tryz.func251,Tryz.ntmps251
 go_wp2
 exact ⟨rfl,_,results_tmp rfl _ _ _,rfl,rfl⟩
theorem uC {c c':Cx} (hp:c.pub c') {b:Nat} {v:Value} {T:TypeId} {d:V} (hb:c'.w.heap[b]? =some (.cells #[v] T)) (hX:b∉c'.X) (hv:v.oneCell'=true) (hd:rd ro0 c' d v):rd ro0 c' (.pp 1 false d) (.pointer (some ⟨b,0,none⟩)):=by
 simp only [rd]
 refine ⟨b,0,[v],rfl,(Array.getElem?_eq_some_iff.1 hb).1,hX,fun i u hi=> ?_,⟨rfl,fun _=>rfl,by simpa using hv⟩,hd⟩
 show c'.w.cell? ⟨b,0+i,none⟩=some u
 unfold World.cell?
 rw [hb]
 simpa using hi
theorem LX (z:Option Bool) (l:List (List Int)):aW En 251 [.sl z 32 true (l.map aH),.int .i64 2] (.fn 263 [.pp 1 false (.sl none 32 true (l.map aH)),.pp 1 false (.int .i64 2)]) []:=by
 refine ⟨show∀xs w,(callFunc 251 xs).run En.P w= .ok (.enter 251 xs) w from enters_of Tryz.func251 (by kernel_rfl) rfl,fun c us _ hg hus=> ?_⟩
 simp only [rdT] at hus
 obtain ⟨u0,c0,rfl,h0,u1,c1,rfl,h1,rfl⟩:=hus
 have h0':=h0
 simp only [rd] at h0' h1
 obtain ⟨a,cap,rfl,hl,hz,_⟩:=h0'
 obtain ⟨rfl,_⟩:=h1
 have h0n:rd ro0 c (.sl none 32 true (l.map aH)) (.slice a (l.map aH).length cap):=by
  simp only [rd] at h0⊢
  obtain ⟨a',cap',e,h1,h2,h3⟩:=h0
  exact ⟨a',cap',e,h1,kY h2,h3⟩
 refine (LW a _ cap c.w).mono ?_
 rintro e w' ⟨rfl,rfl⟩
 have hB:Below c.w.heap.size c.w ((c.w.alloc (.cells #[.slice a (l.map aH).length cap] 67)).alloc (.cells #[.int .i64 2] 3)):=((Below.refl _ _).alloc (Nat.le_refl _) _).alloc (by simp) _
 have hX: ∀k,c.w.heap.size≤k→k∉c.X:=fun k hk h=>absurd (c.ok k h) (by omega)
 have w0:((c.w.alloc (.cells #[.slice a (l.map aH).length cap] 67)).alloc (.cells #[.int .i64 2] 3)).heap[c.w.heap.size]? =some (.cells #[.slice a (l.map aH).length cap] 67):=
  (Below.heap_alloc _ _ _ (by simp)).trans (World.alloc_heap_new c.w _)
 have w1:((c.w.alloc (.cells #[.slice a (l.map aH).length cap] 67)).alloc (.cells #[.int .i64 2] 3)).heap[c.w.heap.size+1]? =some (.cells #[.int .i64 2] 3):=by
  have:=World.alloc_heap_new (c.w.alloc (.cells #[.slice a (l.map aH).length cap] 67)) (.cells #[.int .i64 2] 3)
  rwa [World.size_alloc] at this
 have hle:=Cx.le_at hB
 refine ⟨_,c.at _ hB.size,ro0,rfl,rfl,hle,?_,⟨fun i b hb=>by simp at hb,fun i _=>rfl,fun i j bi bj k _ hb=>by simp at hb⟩⟩
 refine ⟨[.pointer (some ⟨c.w.heap.size,0,none⟩),.pointer (some ⟨c.w.heap.size+1,0,none⟩)],rfl,_,_,rfl,?_,_,_,rfl,?_,rfl⟩
 ·exact uC hle.pub w0 (hX _ (by omega)) rfl (bn hle.pub h0n)
 ·exact uC hle.pub w1 (hX _ (by omega)) rfl ⟨rfl,by decide⟩
theorem DJ {P:Program} {K:Value→World→Prop} {F:Fm} {o:Oper} {w:World} {T:TypeId} {x:Operand} {ad:Addr} {v:Value} (ho:o.op= .load T x) (hT: ∀w,(isAgg T).run P w= .ok false w) (hx:ev F x= .pointer (some ad)) (hc:w.cell? ad=some v) (h:K v w):aE P K (run P F o w):=by
 refine yv (v:=v) (w':=w) ?_ h
 simp [run,execOp,ho,hx,Instr.loadAt,Instr.sureAddr,loadVar,hT,hc]
theorem zp {c:Cx} {W:World} {b o:Nat} {v:Value} (hlt:b<c.w.heap.size) (hX:b∉c.X) (hk:gE c c.w W) (h:c.w.cell? ⟨b,o,none⟩=some v):W.cell? ⟨b,o,none⟩=some v:=by
 unfold World.cell? at h⊢
 cases hx:c.w.heap[b]? with
 | none=>simp only [hx] at h;cases h
 | some x=>
  simp only [hx] at h
  cases x with
  | cells cs T g=>rw [show W.heap[(⟨b,o,none⟩:Addr).block]? =_ from hk.2 b hlt hX _ hx rfl];exact h
  | _=>cases h
theorem LY {c:Cx} {W:World} (h:Below c.w.heap.size c.w W):gE c c.w W:=⟨h.size,fun k hk _ o ho _=>(h.block k hk).trans ho⟩
theorem gE.trans {c:Cx} {A B C:World} (h:gE c A B) (k:gE c B C):gE c A C:=⟨Nat.le_trans h.1 k.1,fun i hi hx o ho hc=>k.2 i hi hx o (h.2 i hi hx o ho hc) hc⟩
theorem DK {α:Type}: ∀{l:List α} {i:Nat} {y:List α},(cE l)[i]? =some y→y=(l.drop (2*i)).take 2∧2*i+2≤l.length
 | a::b::l,0,y,h=>by simp [cE] at h;subst h;simp
 | a::b::l,i+1,y,h=>by
  simp only [cE,List.getElem?_cons_succ] at h
  obtain ⟨h1,h2⟩:=DK h
  refine ⟨?_,by simp only [List.length_cons];omega⟩
  rw [h1,show 2*(i+1)=2*i+1+1 by omega,List.drop_succ_cons,List.drop_succ_cons]
 | [],i,y,h=>by simp [cE] at h
 | [_],i,y,h=>by simp [cE] at h
theorem DL {F:Fm} {a:Act} (h:Fr (mo:=kO) 31 F a):a={tmps:= #[F 0,F 1,F 2,F 3,F 4,F 5,F 6,F 7,F 8,F 9,F 10,F 11,F 12,F 13,F 14,F 15,F 16,F 17,F 18,F 19,F 20,F 21,F 22,F 23,F 24,F 25,F 26,F 27,F 28,F 29,F 30],defers:=[]}:=by
 obtain ⟨tm,df⟩:=a
 have h1:tm.size=31:=h.sz
 have h2:df=[]:=h.df
 subst h2
 congr 1
 refine Array.ext (by rw [h1];rfl) fun i hi hj=> ?_
 have h3:=h.sl i (by omega)
 have h4:tm.getD i undef=tm[i]:=by simp [Array.getD,hi]
 change tm.getD i undef=F i at h3
 rw [←h4,h3]
 have hi':i<31:=by omega
 have key: ∀j:Fin 31,F j.val=(#[F 0,F 1,F 2,F 3,F 4,F 5,F 6,F 7,F 8,F 9,F 10,F 11,F 12,F 13,F 14,F 15,F 16,F 17,F 18,F 19,F 20,F 21,F 22,F 23,F 24,F 25,F 26,F 27,F 28,F 29,F 30]:Array Value)[j.val]'j.isLt:=by
  intro j
  match j with
  | ⟨0,_⟩=>rfl
  | ⟨1,_⟩=>rfl
  | ⟨2,_⟩=>rfl
  | ⟨3,_⟩=>rfl
  | ⟨4,_⟩=>rfl
  | ⟨5,_⟩=>rfl
  | ⟨6,_⟩=>rfl
  | ⟨7,_⟩=>rfl
  | ⟨8,_⟩=>rfl
  | ⟨9,_⟩=>rfl
  | ⟨10,_⟩=>rfl
  | ⟨11,_⟩=>rfl
  | ⟨12,_⟩=>rfl
  | ⟨13,_⟩=>rfl
  | ⟨14,_⟩=>rfl
  | ⟨15,_⟩=>rfl
  | ⟨16,_⟩=>rfl
  | ⟨17,_⟩=>rfl
  | ⟨18,_⟩=>rfl
  | ⟨19,_⟩=>rfl
  | ⟨20,_⟩=>rfl
  | ⟨21,_⟩=>rfl
  | ⟨22,_⟩=>rfl
  | ⟨23,_⟩=>rfl
  | ⟨24,_⟩=>rfl
  | ⟨25,_⟩=>rfl
  | ⟨26,_⟩=>rfl
  | ⟨27,_⟩=>rfl
  | ⟨28,_⟩=>rfl
  | ⟨29,_⟩=>rfl
  | ⟨30,_⟩=>rfl
  | ⟨i+31,h⟩=>exact absurd (show i+31<31 from h) (by omega)
 exact key ⟨i,hi'⟩
def jz (N i:Nat):List (Fin N):=(List.finRange N).take i
theorem LZ {N i:Nat} (h:i<N):jz N (i+1)=jz N i++[⟨i,h⟩]:=by
 unfold jz
 rw [List.take_succ_eq_append_getElem (by simpa using h)]
 simp
theorem zq {N i:Nat} (h:i≤N):(jz N i).map (·.val)=List.range i:=by
 unfold jz
 rw [List.map_take]
 have:(List.finRange N).map (·.val)=List.range N:=by
  refine List.ext_getElem (by simp) fun j h1 h2=>by simp
 rw [this,List.take_range]
 congr 1;omega
theorem zr {N i:Nat} (h:i≤N):(jz N i).length=i:=by
 have:=congrArg List.length (zq h)
 simpa using this
set_option maxHeartbeats 8000000 in
set_option maxRecDepth 100000 in
theorem L1 {l:List (List Int)} (hl: ∃m,l.length=2*m):wX En 263 [.pp 1 false (.sl none 32 true (l.map aH)),.pp 1 false (.int .i64 2)] ((cE l).map fun y=> [.sl none 32 true (y.map aH)]):=by
 obtain ⟨m,hm⟩:=hl
 refine ⟨show∀xs w,(callFunc 263 xs).run En.P w= .ok (.enter 263 xs) w from enters_of Tryz.func263 (by kernel_rfl) rfl,fun cS us hg hus=> ?_⟩
 simp only [rdT] at hus
 obtain ⟨u1,c1,rfl,r1,u2,c2,rfl,r2,rfl⟩:=hus
 simp only [rd] at r1 r2
 obtain ⟨b1,o1,cs1,rfl,hb1,hX1,hc1,hs1,a,cap,e1,hlen,hz,hsl⟩:=r1
 obtain ⟨b2,o2,cs2,rfl,hb2,hX2,hc2,hs2,e2,_⟩:=r2
 have hN:((cE l).map fun y=> [V.sl none 32 true (y.map aH)]).length=m:=by rw [List.length_map,tA hm]
 have k1:cs1=[.slice a (l.map aH).length cap]:=by
  obtain ⟨h1,_⟩:=hs1
  match cs1,h1 with
  | [x],_=>simpa [mkV] using e1
 have k2:cs2=[.int .i64 2]:=by
  obtain ⟨h1,_⟩:=hs2
  match cs2,h1 with
  | [x],_=>simpa [mkV] using e2
 subst k1 k2
 have g1:cS.w.cell? ⟨b1,o1,none⟩=some (.slice a (l.map aH).length cap):=by simpa using hc1 0 _ rfl
 have g2:cS.w.cell? ⟨b2,o2,none⟩=some (.int .i64 2):=by simpa using hc2 0 _ rfl
 rw [List.length_map] at hlen g1
 refine ⟨fun i=> [.slice (a.map (·.add (2*i*32))) 2 2],fun i L hL=> ?_,?_⟩
 ·rw [List.getElem?_map,Option.map_eq_some_iff] at hL
  obtain ⟨y,hy,rfl⟩:=hL
  obtain ⟨hy1,hy2⟩:=DK hy
  have hsi:kT (rV ro0 32 true) cS a (l.map aH):=by
   rcases hsl with h|⟨b,o,cs,e,h1,h2,h3,h4⟩
   ·exact .inl h
   ·exact .inr ⟨b,o,cs,e,h1,h2,h3,er.1 h4⟩
  have hpt:=Ax (lo:=2*i) (hi:=2*i+2) (m:=2*i+2) hsi (by omega) (by simpa using hy2) (Nat.le_refl _)
  rw [if_neg (by omega),show 2*i+2 - 2*i=2 by omega,←List.map_drop,←List.map_take,←hy1] at hpt
  have hyl:y.length=2:=by rw [hy1];simp;omega
  simp only [rdT]
  refine ⟨_,_,rfl,?_,rfl⟩
  simp only [rd,List.length_map,hyl]
  refine ⟨a.map (·.add (2*i*32)),2,rfl,⟨by decide,Nat.le_refl _⟩,?_,?_⟩
  ·intro h
   have:=hz (by simpa using h)
   omega
  ·rcases hpt with h|⟨b,o,cs,e,h1,h2,h3,h4⟩
   ·exact .inl h
   ·exact .inr ⟨b,o,cs,e,h1,h2,h3,er.2 h4⟩
 ·intro lp J Jx W hW hJ hJx hY h0
  refine callsIn_wide.2 ?_
  show Calls Tryz.prog _ _ _ _
  go_enter Tryz.func263,Tryz.ntmps263
  go_wp2
  refine uV.1 (vd (mo:=kO) (P:=Tryz.prog) (fun k a9 W1=> ∃(i:Nat) (F:Nat→Value),k=m - i∧i≤m∧Fr (mo:=kO) 31 F a9∧F 0= .func (.yield lp) #[] #[]∧F 1= .pointer (some ⟨b1,o1,none⟩)∧F 2= .pointer (some ⟨b2,o2,none⟩)∧F 4= .int .i64 ((2*i:Nat):Int)∧gE cS cS.w W1∧J (jz _ i) W1) m ?start ?round)
  case start=>exact ⟨0,_,rfl,by omega,Fr.of rfl rfl (fun t=>rfl),rfl,rfl,rfl,rfl,LY hW,h0⟩
  case round=>
   rintro k a9 W1 ⟨i,F,rfl,hi,hf,e0,e1,e2,e4,hK,hJ1⟩
   refine uV.2 ?_
   rw [DL hf,e0,e1,e2,e4]
   have q1:=zp hb1 hX1 hK g1
   have q2:=zp hb2 hX2 hK g2
   by_cases hlt:i<m
   ·have hq9:((2*i:Nat):Int)<(l.length:Int):=by omega
    go_wp2
    rename_i K9 k9 K4 k4
    let c9:Cx:=⟨[],W1,(fun k h=>(by simp at h)),[]⟩
    have cl: ∀{W:World} {b o:Nat} {v:Value},Below W1.heap.size W1 W→W1.cell? ⟨b,o,none⟩=some v→W.cell? ⟨b,o,none⟩=some v:=fun {W b o v} hB h=>by
     refine (World.cell?_of_block (hB.block b ?_)).trans h
     unfold World.cell? at h
     cases hx:W1.heap[b]? with
     | none=>simp only [hx] at h;cases h
     | some x=>exact (Array.getElem?_eq_some_iff.1 hx).1
    refine uV.1 (F9 (mo:=kO) (P:=Tryz.prog) (n:=31) (c0:=c9) 7 [13,14,15,16,17,18,5] [[],[],[],[1,2],[3,1,2],[0,4,3,1,2],[0,1,2,3,4,5]] []
     (fun j=> [Ph.eq (.int .i64 2),Ph.eq (.slice a l.length cap),Ph.eq (.int .i64 ((2*i:Nat):Int)),Ph.eq (.slice (if cap=2*i then a else a.map (·.add (2*i*32))) (l.length - 2*i) (cap - 2*i)),Ph.eq (.int .i64 ((l.length - 2*i:Nat):Int)),Ph.eq (.int .i64 2),Ph.eq (.int .i64 2)].getD j Ph.any)
     (by kernel_rfl) rfl (show Tryz.prog.follows .mixedOrders=true from bP) (Fr.of rfl rfl fun t=>rfl) ⟨?o0,?o1,?o2,?o3,?o4,?o5,?o6,trivial⟩ ?oT)
    case o0=>exact ob rfl rfl fun F1 d1 hF K hK=>DJ rfl Tryz.isAgg3 (show ev F1 (.tmp 2)= .pointer (some ⟨b2,o2,none⟩) from hF.old 2 (by decide)) (cl hF.le.below q2) (hK _ d1 (Cx.le.refl _) rfl)
    case o1=>exact ob rfl rfl fun F1 d1 hF K hK=>DJ rfl Tryz.isAgg67 (show ev F1 (.tmp 1)= .pointer (some ⟨b1,o1,none⟩) from hF.old 1 (by decide)) (cl hF.le.below q1) (hK _ d1 (Cx.le.refl _) rfl)
    case o2=>exact ob rfl rfl fun F1 d1 hF K hK=>Ac rfl (hK _ d1 (Cx.le.refl _) (show ev F1 (.tmp 4)=_ from hF.old 4 (by decide)))
    case o3=>exact ob rfl rfl fun F1 d1 hF K hK=>AE (n:=32) (i:=((2*i:Nat):Int)) (j:=(l.length:Int)) rfl Tryz.underlying67 Tryz.sizeOf28 (show ev F1 (.tmp 14)= .slice a l.length cap from hF.of 1 (by decide) 14 rfl) (.inr ⟨_,.i64,rfl,(show F1 15= .int .i64 ((2*i:Nat):Int) from hF.of 2 (by decide) 15 rfl)⟩) (.inl ⟨rfl,rfl⟩) ⟨by omega,by omega,by omega⟩ hlen.2 (hK _ d1 (Cx.le.refl _) (by simp only [Int.toNat_natCast];rfl))
    case o4=>exact ob rfl rfl fun F1 d1 hF K hK=>yv (v:= .int .i64 ((l.length - 2*i:Nat):Int)) (w':=d1.w) (by
     have e:ev F1 (.tmp 16)= .slice (if cap=2*i then a else a.map (·.add (2*i*32))) (l.length - 2*i) (cap - 2*i):=hF.of 3 (by decide) 16 rfl
     simp [run,execOp,resolve,invoke,builtin,Builtin.len_,underlying,Tryz.underlying67,e,goInt]) (hK _ d1 (Cx.le.refl _) rfl)
    case o5=>exact ob rfl rfl fun F1 d1 hF K hK=>AD rfl (show ev F1 (.tmp 13)= .int .i64 2 from hF.of 0 (by decide) 13 rfl) (show ev F1 (.tmp 17)= .int .i64 ((l.length - 2*i:Nat):Int) from hF.of 4 (by decide) 17 rfl) (hK _ d1 (Cx.le.refl _) (by show Value.int .i64 (eN 2 _)=Value.int .i64 2;congr 1;unfold eN;split<;>omega))
    case o6=>exact ob rfl rfl fun F1 d1 hF K hK=>Ad rfl (hK _ d1 (Cx.le.refl _) (show ev F1 (.tmp 18)= .int .i64 2 from hF.of 5 (by decide) 18 rfl))
    case oT=>
     intro F1 d1 hF a1 ha1
     have hBd:Below W1.heap.size W1 d1.w:=hF.le.below
     have q1':=cl hBd q1
     have q2':=cl hBd q2
     rw [DL ha1,show F1 0= .func (.yield lp) #[] #[] from hF.old 0 (by decide),show F1 1= .pointer (some ⟨b1,o1,none⟩) from hF.old 1 (by decide),show F1 2= .pointer (some ⟨b2,o2,none⟩) from hF.old 2 (by decide),show F1 4= .int .i64 ((2*i:Nat):Int) from hF.old 4 (by decide),show F1 5= .int .i64 2 from hF.of 6 (by decide) 5 rfl]
     refine k4 _ _ ?_
     have hwr:wrap64 (2*(i:Int)+2)=2*(i:Int)+2:=(by unfold wrap64;have h9:=hlen.1;rw [fU] at h9;omega)
     have hw2:(2*(i:Int)+2).toNat=2*i+2:=by omega
     have hw3:(2*(i:Int)).toNat=2*i:=by omega
     have hcp:2*i+2≤cap:=by omega
     have hJd:J (jz _ i) d1.w:=hJ _ _ _ none hJ1 (show W1.grownBy d1.w none from ⟨hBd.os,hBd.tape,hBd.output,hBd.size,fun k hk _=>hBd.block k hk⟩) (fun r e=>by cases e)
     have hi9:i<((cE l).map fun y=> [V.sl none 32 true (y.map aH)]).length:=by rw [hN];exact hlt
     obtain ⟨fn,tmps,assign,body,hy,hR⟩:=(show YieldAt Fence.wide 1 Tryz.prog lp _ d1.w _ from hY (jz _ i) ⟨i,hi9⟩ d1.w hJd (by rw [zr (Nat.le_of_lt hi9)];exact hi9))
     rw [←LZ hi9] at hR
     refine (wpIn_wide (n:=2)).1 ?_
     gi_wp2
     refine hR.mono ?_
     rintro e W' (⟨rfl,hJ',hk'⟩|⟨rfl,hJx'⟩)
     ·gi_wp2
      have hK2:gE cS cS.w W':=(hK.trans ⟨hBd.size,fun k hk _ o ho _=>(hBd.block k (Nat.lt_of_lt_of_le hk hK.1)).trans ho⟩).trans hk'
      have q2'':=zp hb2 hX2 hK2 g2
      go_wp2
      exact ⟨m - (i+1),by omega,i+1,_,rfl,by omega,Fr.of rfl rfl (fun t=>rfl),rfl,rfl,rfl,(show Value.int .i64 _=Value.int .i64 _ by first|(congr 1;done)|(congr 1;omega)),hK2,hJ'⟩
     ·gi_wp2
      exact ⟨rfl,_,results_none rfl _ _ _,⟨_,rfl⟩,.inr ⟨_,⟨by rw [zq hi9,zr hi9],fun h9=>by have:=congrArg List.length h9;rw [zr hi9] at this;simp at this⟩,hJx'⟩⟩
   ·have hq9: ¬((2*i:Nat):Int)<(l.length:Int):=by omega
    have him:i=m:=by omega
    subst him
    go_wp2
    exact ⟨rfl,_,results_none rfl _ _ _,⟨_,rfl⟩,.inl ⟨_,by rw [zq (Nat.le_of_eq hN.symm)]<;>first|done|exact congrArg List.range hN.symm,hJ1⟩⟩
end Go.Proofs.YteibkofekpejgaaGreatDoor
namespace Go.Proofs.YteibkofekpejgaaGreatDoor
open Go.RowKit
theorem zt {k:IntKind} {l:List Int} {i:Int}:elt (l.map (V.int k)) i.toNat (V.int k 0)=V.int k (gt l i):=by
 unfold elt gt
 simp only [List.getD_eq_getElem?_getD,List.getElem?_map]
 cases l[i.toNat]? <;>rfl
@[go_sem] theorem Rq {k:IntKind} {a b c d e f g i:Int}:elt [V.int k a,V.int k b,V.int k c,V.int k d,V.int k e,V.int k f,V.int k g] i.toNat (V.int k 0)=V.int k (gt [a,b,c,d,e,f,g] i):=zt (l:=[a,b,c,d,e,f,g])
@[go_sem] theorem Rr {k:IntKind} {a b c d e f g a' b' c' d' e' i:Int}:elt [V.int k a,V.int k b,V.int k c,V.int k d,V.int k e,V.int k f,V.int k g,V.int k a',V.int k b',V.int k c',V.int k d',V.int k e'] i.toNat (V.int k 0)=V.int k (gt [a,b,c,d,e,f,g,a',b',c',d',e'] i):=zt (l:=[a,b,c,d,e,f,g,a',b',c',d',e'])
@[go_sem] theorem Rs {k:IntKind} {a b c d e f g a' b' c' d' e' f' g' x y i:Int}:elt [V.int k a,V.int k b,V.int k c,V.int k d,V.int k e,V.int k f,V.int k g,V.int k a',V.int k b',V.int k c',V.int k d',V.int k e',V.int k f',V.int k g',V.int k x,V.int k y] i.toNat (V.int k 0)=V.int k (gt [a,b,c,d,e,f,g,a',b',c',d',e',f',g',x,y] i):=zt (l:=[a,b,c,d,e,f,g,a',b',c',d',e',f',g',x,y])
def DM (s:au):Prop:=s.Leaves.length≤100000000∧s.Path.L.length≤100000000
def okK (k:cj):Prop:=k.l.length≤100∧dC k.p
theorem fI {k:cj} (h:okK k):k.l.length≤100∧k.p.Spends.length≤60∧k.p.Chains.length≤12∧k.p.Escrow.length≤60:=⟨h.1,h.2.s.1,h.2.c.1,h.2.e.1⟩
theorem L2 {s:au} (h:fq s):s.Leaves.length≤40∧s.Path.L.length≤20:=h
theorem DN {c:bh} (h:ot c):c.L.length≤12:=h.1
theorem L3 {s:au} (h:fq s):DM s:=⟨by have:=h.1;omega,by have:=h.2;omega⟩
def qO (l:List au):Prop:=l.length≤20∧ ∀x∈l,fq x
theorem qP {l:List au} {i j:Int} (h:qO l):qO (sl l i j):=by
 have hm: ∀x∈sl l i j,x∈l:=fun x hx=>by
  unfold sl at hx
  first
   | exact List.mem_of_mem_drop (List.mem_of_mem_take hx)
   | exact List.mem_of_mem_take (List.mem_of_mem_drop hx)
 refine ⟨?_,fun x hx=>h.2 x (hm x hx)⟩
 have h1:=h.1
 unfold sl
 simp only [List.length_take,List.length_drop]
 omega
theorem DO (h:bh):go h=h.First::h.L:=rfl
theorem DP {h:bh} {x:List au} (hx:x=go h):x.length=1+h.L.length:=by rw [hx,DO];simp;omega
theorem qQ {h:bh} {x:List au} (hc:ot h) (hx:x=go h):qO x:=by
 refine ⟨by have:=DP hx;have:=hc.1;omega,fun y hy=> ?_⟩
 rw [hx,DO] at hy
 rcases List.mem_cons.1 hy with rfl|hy
 ·exact hc.2.1
 ·exact hc.2.2 y hy
theorem DQ {l:List bg} {a b c x:Int} (hx:x=nL l a b c):x<l.length:=by
 subst hx
 unfold nL tQ
 simp only [aa]
 refine fp (P:=fun a:Int=>0≤a) (Q:=fun r:Int=>r<l.length) (meas:=fun a=>((l.length:Int) - a).toNat) ?_ _ _ ?_ ?_
 rotate_left
 ·exact Int.le_refl _
 ·show ((l.length:Int) - 0).toNat<((l.length:Int) - 0).toNat+1
  omega
 intro ag p h0 ih
 by_cases hp:p<(l.length:Int)
 ·rw [if_pos (by simpa using hp)]
  split
  ·exact hp
  ·exact ih _ (by omega) (by omega)
 ·rw [if_neg (by simpa using hp)];omega
theorem zu {α β:Type} {n:Int} {f:Int→β} {F:(Int×List β→List β)→Int×List β→List β} {d:Int×List β→List β} {s:List β} (hF: ∀ag p,F ag p=if decide (p.1<n)=true then ag (p.1+1,p.2++[f p.1]) else p.2) (hn:0≤n):
  (ae ((n - 0).toNat+1) F d (0,s)).length=s.length+n.toNat:=by
 refine fp (P:=fun a:Int×List β=>0≤a.1∧a.1≤n∧(a.2.length:Int)=s.length+a.1) (Q:=fun r:List β=>r.length=s.length+n.toNat) (meas:=fun a=>(n - a.1).toNat) ?_ _ _ ?_ ?_
 rotate_left
 ·exact ⟨Int.le_refl _,hn,by simp⟩
 ·show (n - 0).toNat<(n - 0).toNat+1
  omega
 rintro ag ⟨i,l⟩ ⟨h0,h1,h2⟩ ih
 simp only at h0 h1 h2
 rw [hF]
 by_cases hp:i<n
 ·rw [if_pos (by simpa using hp)]
  exact ih _ ⟨by simp only;omega,by simp only;omega,by simp only [List.length_append,List.length_cons,List.length_nil];omega⟩ (by simp only;omega)
 ·rw [if_neg (by simpa using hp)];simp only;omega
theorem DR {k:cj} {x:List au} (h:okK k) (hx:x=nU k):x.length≤72:=by
 have h1:=fI h
 rw [hx];unfold nU
 simp only [aa]
 rw [zu (α:=Unit) (f:=fun i=>t8 (gt k.p.Chains i)) (fun ag p=>rfl) (by omega)]
 simp only [List.nil_append];omega
theorem DS {k:cj} {x:List bu} (h:okK k) (hx:x=nK k):x.length≤72:=by
 have h1:=fI h
 rw [hx];unfold nK
 refine fp (P:=fun a:Int×List bu=>0≤a.1∧a.1≤k.p.Spends.length∧(a.2.length:Int)=a.1) (Q:=fun r:List bu=>r.length≤72) (meas:=fun a=>((k.p.Spends.length:Int) - a.1).toNat) ?_ _ _ ?_ ?_
 rotate_left
 ·exact ⟨Int.le_refl _,show (0:Int)≤(k.p.Spends.length:Int) by omega,rfl⟩
 ·show ((k.p.Spends.length:Int) - 0).toNat<((k.p.Spends.length:Int) - 0).toNat+1
  omega
 rintro ag ⟨i,l⟩ ⟨g0,g1,g2⟩ ih
 simp only at g0 g1 g2⊢
 by_cases hp:i<(k.p.Spends.length:Int)
 ·rw [if_pos (by simpa using hp)]
  exact ih _ ⟨by simp only;omega,by simp only;omega,by simp only [List.length_append,List.length_cons,List.length_nil];omega⟩ (by simp only;omega)
 ·rw [if_neg (by simpa using hp)]
  rw [zu (α:=Unit) (f:=fun i=>(gt k.p.Chains i).First.Coin) (fun ag p=>rfl) (by omega)]
  omega
theorem DT {p:aK} {x:List de} (h:dC p) (hx:x=nV p):x.length≤8800:=by
 rw [hx];unfold nV
 generalize hy:kz p=y
 have hs:=Dz h hy.symm
 simp only [aa]
 refine fp (P:=fun a:Int×List de=>0≤a.1∧a.1≤y.length∧(a.2.length:Int)≤40*a.1) (Q:=fun r:List de=>r.length≤8800) (meas:=fun a=>((y.length:Int) - a.1).toNat) ?_ _ _ ?_ ?_
 rotate_left
 ·exact ⟨Int.le_refl _,show (0:Int)≤(y.length:Int) by omega,by simp⟩
 ·show ((y.length:Int) - 0).toNat<((y.length:Int) - 0).toNat+1
  omega
 rintro ag ⟨i,l⟩ ⟨g0,g1,g2⟩ ih
 simp only at g0 g1 g2⊢
 by_cases hp:i<(y.length:Int)
 ·rw [if_pos (by simpa using hp)]
  have hl:=(ou hs (i:=i) (by omega)).1
  refine fp (P:=fun a:Int×List de=>0≤a.1∧a.1≤(gt y i).Leaves.length∧(a.2.length:Int)≤40*i+a.1) (Q:=fun r:List de=>r.length≤8800) (meas:=fun a=>(((gt y i).Leaves.length:Int) - a.1).toNat) ?_ _ _ ?_ ?_
  rotate_left
  ·exact ⟨Int.le_refl _,show (0:Int)≤((gt y i).Leaves.length:Int) by omega,by simp only;omega⟩
  ·show (((gt y i).Leaves.length:Int) - 0).toNat<(((gt y i).Leaves.length:Int) - 0).toNat+1
   omega
  rintro ag2 ⟨j,m⟩ ⟨k0,k1,k2⟩ ih2
  simp only at k0 k1 k2⊢
  by_cases hq:j<((gt y i).Leaves.length:Int)
  ·rw [if_pos (by simpa using hq)]
   exact ih2 _ ⟨by simp only;omega,by simp only;omega,by simp only [List.length_append,List.length_cons,List.length_nil];omega⟩ (by simp only;omega)
  ·rw [if_neg (by simpa using hq)]
   exact ih _ ⟨by simp only;omega,by simp only;omega,by simp only;omega⟩ (by simp only;omega)
 ·rw [if_neg (by simpa using hp)]
  have:=hs.1
  (try simp only);omega
theorem DU {h:List Int} {x:am} (hx:x=jw h):hgt x=33:=by
 rw [hx];unfold jw nQ
 simp only [aa,hgt,bM,dc]
theorem L4 {a b c d x:am} (hx:x=kB [a,b,c,d]):hgt x=1+hgt a+hgt b+hgt c+hgt d:=by
 rw [hx];unfold kB
 simp only [hgt,bM,List.length_nil];omega
theorem L5 {l x:List Int} (hx:x=nQ l):x.length=l.length:=by rw [hx];rfl
theorem L6 {s:au} {x:am} (h:fq s) (hx:x=nS s):hgt x≤1000:=by
 rw [hx,LD];exact LI h
theorem L7 {g:aO} {rows:List (List Int)} {e:List Int} {x:List Int} (hx:x=qB g rows e):x.length=rows.length:=by
 rw [hx];unfold qB
 simp only [aa]
 rw [zu (α:=Unit) (f:=fun i=>uh g 1 (gt rows i) e) (fun ag p=>rfl) (by omega)]
 simp
instance Rt (d:Int) (n:fG):CF (nP d n) (fun x=>x=true→0≤d∧d≤5∧0≤n.Level∧n.Level≤d∧0≤n.Index):=⟨fun h=>by
 unfold nP at h
 repeat' (split at h)
 all_goals first|cases h|(simp only [decide_eq_true_eq] at*;omega)⟩
theorem L8 {g:aO} {x:Bool} (hx:x=iA g) (h:x=true):1≤g.Q:=by
 subst hx
 unfold iA at h
 by_cases h1:1≤g.Q
 ·exact h1
 ·exfalso
  revert h
  repeat' split
  all_goals simp_all [aa]
  all_goals omega
theorem L9 {α:Type} [Inhabited α] {l:List α} {x:α} (h:x∈l): ∃i:Nat,i<l.length∧gt l i=x:=by
 obtain ⟨i,hi,rfl⟩:=List.getElem_of_mem h
 exact ⟨i,hi,by simp [gt,List.getD_eq_getElem?_getD,hi]⟩
theorem L_ {s:List (List Int)} {n:Int} {g:aO} (h:qA s n g=false): ∀x∈s,(x.length:Int)=n:=by
 have h1: ¬(0≤nX s n g):=by
  unfold qA at h
  simp only [aa,decide_eq_false_iff_not] at h
  omega
 have h2: ¬(0≤nX s n g)→ ∀i:Nat,i<s.length→((gt s i).length:Int)=n:=by
  unfold nX
  refine fp (P:=fun a:Int=>0≤a∧a≤s.length∧ ∀i:Nat,(i:Int)<a→((gt s i).length:Int)=n) (Q:=fun r:Int=> ¬(0≤r)→ ∀i:Nat,i<s.length→((gt s i).length:Int)=n) (meas:=fun a=>((s.length:Int) - a).toNat) ?_ _ _ ?_ ?_
  rotate_left
  ·exact ⟨Int.le_refl _,show (0:Int)≤(s.length:Int) by omega,fun i hi=>absurd hi (by omega)⟩
  ·show ((s.length:Int) - 0).toNat<((s.length:Int) - 0).toNat+1
   omega
  rintro ag a ⟨g0,g1,g2⟩ ih
  by_cases hp:a<(s.length:Int)
  ·simp only [aa,if_pos (show decide (a<(s.length:Int))=true by simpa using hp)]
   cases hv:qz (gt s a) n g with
   | true=>rw [if_pos rfl];intro h3;exact absurd g0 h3
   | false=>
    rw [if_neg (by decide)]
    refine ih _ ⟨by omega,by omega,fun i hi=> ?_⟩ (by omega)
    by_cases he:(i:Int)=a
    ·rw [he]
     unfold qz at hv
     split at hv
     ·cases hv
     ·rename_i h5
      simpa using h5
    ·exact g2 i (by omega)
  ·simp only [if_neg (show¬decide (a<(s.length:Int))=true by simpa using hp)]
   intro _ i hi
   exact g2 i (by omega)
 intro x hx
 obtain ⟨i,hi,rfl⟩:=L9 hx
 exact h2 h1 i hi
def okR (g:aO) (r:cC):Prop:=1≤g.Q∧r.Bases.length=r.Y.length∧1≤r.Y.length∧r.Y.length≤8∧(∀x∈r.Bases,(x.length:Int)=gR r)∧gR r≤12
theorem DV {g:aO} {r:cC} (h:mj g r=true):okR g r:=by
 unfold mj at h
 simp only [aa] at h
 cases hg:iA g with
 | false=>rw [hg] at h;cases h
 | true=>
  rw [hg] at h
  rw [if_neg (by decide)] at h
  split at h
  ·cases h
  ·rename_i h1
   split at h
   ·cases h
   ·rename_i h2
    split at h
    ·cases h
    ·rename_i h3
     split at h
     ·cases h
     ·split at h
      ·cases h
      ·split at h
       ·cases h
       ·rename_i h5
        have h6:=L_ (by simpa using h)
        simp only [decide_eq_true_eq,bne_iff_ne,ne_eq,Decidable.not_not] at h1 h2 h3 h5
        exact ⟨L8 hg.symm rfl,by omega,by omega,by omega,h6,by unfold gR;omega⟩
instance Ru (g:aO) (r:cC):CF (mj g r) (fun x=>x=true→okR g r):=⟨fun h=>DV h⟩
instance Rv (l:List UInt8):CF (ml l) (fun x=>x=true→1≤l.length∧l.length≤24):=⟨fun h=>by
 unfold ml at h
 repeat' (split at h)
 all_goals first|cases h|(simp only [decide_eq_true_eq] at*;omega)⟩
theorem Ma {g:aO} {r:cC} {p:dP} (h:nY g r p=true):okR g r∧p.A.length=r.Y.length:=by
 unfold nY at h
 simp only [aa] at h
 cases hv:mj g r with
 | false=>rw [hv] at h;cases h
 | true=>
  refine ⟨DV hv,?_⟩
  rw [hv,if_neg (by decide)] at h
  split at h
  ·cases h
  ·rename_i h1
   simp only [bne_iff_ne,ne_eq,Decidable.not_not] at h1
   omega
instance Rw (g:aO) (r:cC) (p:dP):CF (nY g r p) (fun x=>x=true→okR g r∧p.A.length=r.Y.length):=⟨fun h=>Ma h⟩
theorem DW {g:aO} {r:cC} (h:okR g r): ∀x∈r.Bases,x.length≤12:=fun x hx=>by have:=h.2.2.2.2.1 x hx;have:=h.2.2.2.2.2;omega
theorem uD {g:aO} {r:cC} {i:Int} (h:okR g r) (hi:i.toNat<r.Bases.length):(gt r.Bases i).length≤1000:=by have:=DW h _ (bH hi);omega
theorem iH {g:aO} {r:cC} (h:okR g r):1≤g.Q∧r.Bases.length=r.Y.length∧1≤r.Y.length∧r.Y.length≤8:=⟨h.1,h.2.1,h.2.2.1,h.2.2.2.1⟩
theorem uE {g:aO} {r:cC} {z:List Int} {x:Int} (h:okR g r) (hx:x=gR r) (hz:(z.length:Int)=x): ∀x∈r.Bases,x.length≤z.length∧x.length≤1000:=fun y hy=>by have:=h.2.2.2.2.1 y hy;have:=DW h y hy;omega
theorem Mb {E:Env} {S:St} (W:Nat) {T n:Nat} {g:Bool} {z:Option Bool} {l:List V} (m:List V) (h:ab S.H W=some (.own T n g z l)) (hm:mtL l m):fi E S ⟨S.F,cT (cT S.H W (.own T n g none m)) W (.pown n g none m),S.nx⟩:=by
 refine fi.trans (S1:=⟨S.F,cT S.H W (.own T n g none m),S.nx⟩) ?_ (io (S:=⟨S.F,cT S.H W (.own T n g none m),S.nx⟩) (T:=T) W (by rw [cK,if_pos rfl]))
 intro c0 c ρ F hs
 have hlen:=jS hm
 refine ⟨c,rfl,Cx.pub.refl _,⟨hs.1.since,hs.1.gl,hs.1.slot,?_,?_⟩,hs.2⟩
 ·intro j b hb
  simp only [cK] at hb
  split at hb
  ·rename_i e;subst e;cases hb
   obtain ⟨v,h1,h2,h3,h4,a,cap,e',h5⟩:=hs.1.heap _ _ h
   refine ⟨v,h1,⟨hlen▸h2.1,?_⟩,h3,h4,a,cap,hlen▸e',lx (by cases z<;>trivial) h5⟩
   rcases h2.2 with ⟨a',e9,rfl⟩|⟨g',cp,cur,e,k1,k2,k3,k4,k5,k6⟩
   ·exact .inl ⟨a',e9,List.eq_nil_of_length_eq_zero hlen.symm⟩
   ·rw [hlen] at e k3 k6
    exact .inr ⟨g',cp,cur,e,k1,k2,k3,k4,k5,B_ hm k6⟩
  ·exact hs.1.heap _ _ hb
 ·intro a b ba bb x hab ha hb hpa hpb hx
  simp only [cK] at ha hb
  have key: ∀y by',(if W=y then some (Blk.own T n g none m) else ab S.H y)=some by'→aU by'=true→ ∃by2,ab S.H y=some by2∧aU by2=true:=by
   intro y by' hy hp
   split at hy
   ·rename_i e;subst e;exact ⟨_,h,rfl⟩
   ·exact ⟨by',hy,hp⟩
  obtain ⟨ba',ha',hpa'⟩:=key a ba ha hpa
  obtain ⟨bb',hb',hpb'⟩:=key b bb hb hpb
  exact hs.1.sep a b ba' bb' x hab ha' hb' hpa' hpb' hx
end Go.Proofs.YteibkofekpejgaaGreatDoor
