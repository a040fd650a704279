/- Texts of this proof, one after the other: EB, HC. -/
import Derived.Test.YtlmleoeemmhboaaGreatDoorZ7
import Derived.Test.YtlmleoeemmhboaaGreatDoorZ6
set_option linter.unusedVariables false
set_option linter.unusedSimpArgs false
namespace Go.Proofs.YtlmleoeemmhboaaGreatDoor
open Go.RowKit Go.Shelf
set_option linter.unusedVariables false
set_option linter.unusedSimpArgs false
def fy (l:List Int):V:=V.sl none 1 false (l.map (V.int .u8))
set_option maxHeartbeats 4000000 in
set_option maxRecDepth 100000 in
theorem HU (a:Option Addr) (k cap:Nat) (w:World):Calls Tryz.prog 43 #[.slice a k cap] w fun e w'=>
  e= .returned (.func (.func 80) #[] #[.pointer (some ⟨w.heap.size,0,none⟩)])∧
  w'=w.alloc (.cells #[.slice a k cap] 119):=by
 go_enter Tryz.func43,Tryz.ntmps43
 go_wp2
 exact ⟨rfl,_,results_tmp rfl _ _ _,rfl,rfl⟩
theorem HV (z:Option Bool) (l:List (List Int)):bC En 43 [.sl z 1 false (l.map fy)] (.fn 80 [.pp 1 false (.sl none 1 false (l.map fy))]) []:=by
 refine ⟨show∀xs w,(callFunc 43 xs).run En.P w= .ok (.enter 43 xs) w from enters_of Tryz.func43 (by kernel_rfl) rfl,fun c us _ hg hus=> ?_⟩
 simp only [rdT] at hus
 obtain ⟨u0,c0,rfl,h0,rfl⟩:=hus
 have h0':=h0
 simp only [rd] at h0'
 obtain ⟨a,cap,rfl,hl,hz,_⟩:=h0'
 have h0n:rd ro0 c (.sl none 1 false (l.map fy)) (.slice a (l.map fy).length cap):=by
  simp only [rd] at h0⊢
  obtain ⟨a',cap',e,h1,h2,h3⟩:=h0
  exact ⟨a',cap',e,h1,lB h2,h3⟩
 refine (HU a _ cap c.w).mono ?_
 rintro e w' ⟨rfl,rfl⟩
 have hB:Below c.w.heap.size c.w (c.w.alloc (.cells #[.slice a (l.map fy).length cap] 119)):=(Below.refl _ _).alloc (Nat.le_refl _) _
 have hX: ∀k,c.w.heap.size≤k→k∉c.X:=fun k hk h=>absurd (c.ok k h) (by omega)
 have w0:(c.w.alloc (.cells #[.slice a (l.map fy).length cap] 119)).heap[c.w.heap.size]? =some (.cells #[.slice a (l.map fy).length cap] 119):=World.alloc_heap_new c.w _
 have hle:=Cx.le_at hB
 refine ⟨_,c.at _ hB.size,ro0,rfl,rfl,hle,?_,⟨fun i b hb=>by simp at hb,fun i _=>rfl,fun i j bi bj k _ hb=>by simp at hb⟩⟩
 refine ⟨[.pointer (some ⟨c.w.heap.size,0,none⟩)],rfl,_,_,rfl,?_,rfl⟩
 exact vk hle.pub w0 (hX _ (by omega)) rfl (bD hle.pub h0n)
theorem vm {l:List (List Int)}:(fM l).length=l.length:=by simp [fM]
theorem Ab {l:List (List Int)} {i:Nat} {y:Int×List Int} (h:(fM l)[i]? =some y):i<l.length∧y.1=((l.length - 1 - i:Nat):Int)∧l[l.length - 1 - i]? =some y.2:=by
 have hi:i<(fM l).length:=(List.getElem?_eq_some_iff.1 h).1
 have hi':=hi
 rw [vm] at hi'
 refine ⟨hi',?_⟩
 unfold fM at h
 rw [List.getElem?_reverse (by simpa using hi')] at h
 simp only [List.length_map,List.length_zipIdx,List.getElem?_map,List.getElem?_zipIdx,Option.map_map,Option.map_eq_some_iff] at h
 obtain ⟨x,hx,rfl⟩:=h
 exact ⟨by simp,by simpa using hx⟩
theorem HW {F:Fm} {a:Act} (h:Fr (mo:=hZ) 19 F a):a={tmps:= #[F 0,F 1,F 2,F 3,F 4,F 5,F 6,F 7,F 8,F 9,F 10,F 11,F 12,F 13,F 14,F 15,F 16,F 17,F 18],defers:=[]}:=by
 obtain ⟨tm,df⟩:=a
 have h1:tm.size=19:=h.sz
 have h2:df=[]:=h.df
 subst h2
 congr 1
 refine Array.ext (by rw [h1];rfl) fun i hi hj=> ?_
 have h3:=h.sl i (by omega)
 have h4:tm.getD i undef=tm[i]:=by simp [Array.getD,hi]
 change tm.getD i undef=F i at h3
 rw [←h4,h3]
 have hi':i<19:=by omega
 have key: ∀j:Fin 19,F j.val=(#[F 0,F 1,F 2,F 3,F 4,F 5,F 6,F 7,F 8,F 9,F 10,F 11,F 12,F 13,F 14,F 15,F 16,F 17,F 18]:Array Value)[j.val]'j.isLt:=by
  intro j
  match j with
  | ⟨0,_⟩=>rfl
  | ⟨1,_⟩=>rfl
  | ⟨2,_⟩=>rfl
  | ⟨3,_⟩=>rfl
  | ⟨4,_⟩=>rfl
  | ⟨5,_⟩=>rfl
  | ⟨6,_⟩=>rfl
  | ⟨7,_⟩=>rfl
  | ⟨8,_⟩=>rfl
  | ⟨9,_⟩=>rfl
  | ⟨10,_⟩=>rfl
  | ⟨11,_⟩=>rfl
  | ⟨12,_⟩=>rfl
  | ⟨13,_⟩=>rfl
  | ⟨14,_⟩=>rfl
  | ⟨15,_⟩=>rfl
  | ⟨16,_⟩=>rfl
  | ⟨17,_⟩=>rfl
  | ⟨18,_⟩=>rfl
  | ⟨i+19,h⟩=>exact absurd (show i+19<19 from h) (by omega)
 exact key ⟨i,hi'⟩
set_option maxHeartbeats 8000000 in
set_option maxRecDepth 100000 in
theorem HX {l:List (List Int)}:nI En 80 [.pp 1 false (.sl none 1 false (l.map fy))] ((fM l).map fun y=> [V.int .i64 y.1,V.sl none 1 false (y.2.map (V.int .u8))]):=by
 refine ⟨show∀xs w,(callFunc 80 xs).run En.P w= .ok (.enter 80 xs) w from enters_of Tryz.func80 (by kernel_rfl) rfl,fun cS us hg hus=> ?_⟩
 simp only [rdT] at hus
 obtain ⟨u1,c1,rfl,r1,rfl⟩:=hus
 simp only [rd] at r1
 obtain ⟨b1,o1,cs1,rfl,hb1,hX1,hc1,hs1,a,cap,e1,hlen,hz,hsl⟩:=r1
 have hN:((fM l).map fun y=> [V.int .i64 y.1,V.sl none 1 false (y.2.map (V.int .u8))]).length=l.length:=by rw [List.length_map,vm]
 have k1:cs1=[.slice a (l.map fy).length cap]:=by
  obtain ⟨h1,_⟩:=hs1
  match cs1,h1 with
  | [x],_=>simpa [mkV] using e1
 subst k1
 have g1:cS.w.cell? ⟨b1,o1,none⟩=some (.slice a (l.map fy).length cap):=by simpa using hc1 0 _ rfl
 rw [List.length_map] at hlen g1
 have hsi:jl (rV ro0 1 false) cS a (l.map fy):=by
  rcases hsl with h|⟨b,o,cs,e,h1,h2,h3,h4⟩
  ·exact .inl h
  ·exact .inr ⟨b,o,cs,e,h1,h2,h3,et.1 h4⟩
 -- the elements
 obtain ⟨vs,hvs⟩: ∃vs:Nat→Value,∀j (hj:j<l.length),rd ro0 cS (fy l[j]) (vs j)∧ ∃b o,a=some ⟨b,o,none⟩∧b<cS.w.heap.size∧b∉cS.X∧cS.w.cell? ⟨b,o+j,none⟩=some (vs j):=by
  rcases hsi with h|⟨b,o,cs,e,h1,h2,h3,h4⟩
  ·refine ⟨fun _=>undef,fun j hj=> ?_⟩
   have:l=[]:=by simpa using h
   subst this;simp at hj
  ·refine ⟨fun j=>cs.getD j undef,fun j hj=> ?_⟩
   have hj':j<(l.map fy).length:=by simpa using hj
   have hg:=na h4 j hj'
   have hcl:=ic h4
   have hjc:j<cs.length:=by
    rw [hcl];show j<(l.map fy).length*1;omega
   have h5:(cs.drop (j*(rV ro0 1 false).n)).take (rV ro0 1 false).n=[cs[j]]:=by
    show (cs.drop (j*1)).take 1=[cs[j]]
    rw [Nat.mul_one,List.drop_eq_getElem_cons hjc];rfl
   rw [h5] at hg
   have h6:cs.getD j undef=cs[j]:=by simp [List.getD,List.getElem?_eq_getElem hjc]
   simp only [h6]
   refine ⟨?_,b,o,e,h1,h2,h3 j _ (List.getElem?_eq_getElem hjc)⟩
   have h7:=hg.2
   simpa [mkV] using h7
 refine ⟨fun i=> [.int .i64 ((l.length:Int) - 1 - (i:Int)),vs (l.length - 1 - i)],fun i L hL=> ?_,?_⟩
 ·rw [List.getElem?_map,Option.map_eq_some_iff] at hL
  obtain ⟨y,hy,rfl⟩:=hL
  obtain ⟨hy0,hy1,hy2⟩:=Ab hy
  obtain ⟨hj,e9⟩:=List.getElem?_eq_some_iff.1 hy2
  have hv:=(hvs _ hj).1
  rw [e9] at hv
  simp only [rdT]
  refine ⟨_,_,rfl,?_,_,_,rfl,hv,rfl⟩
  simp only [rd]
  refine ⟨by rw [hy1];congr 1;omega,?_⟩
  rw [hy1]
  have h9:=hlen.1
  rw [dm] at h9
  show (-9223372036854775808:Int)≤_∧_≤(9223372036854775807:Int)
  omega
 ·intro lp J Jx W hW hJ hJx hY h0
  refine callsIn_wide.2 ?_
  show Calls Tryz.prog _ _ _ _
  have hsz9:=hlen.1
  rw [dm] at hsz9
  have q0:=mW hb1 hX1 (vl hW) g1
  go_enter Tryz.func80,Tryz.ntmps80
  go_wp2
  refine m5.1 (sd (mo:=hZ) (P:=Tryz.prog) (fun k a9 W1=> ∃(i:Nat) (F:Nat→Value),k=l.length - i∧i≤l.length∧Fr (mo:=hZ) 19 F a9∧F 0= .func (.yield lp) #[] #[]∧F 1= .pointer (some ⟨b1,o1,none⟩)∧F 3= .int .i64 ((l.length:Int) - 1 - (i:Int))∧fF cS cS.w W1∧J (gZ _ i) W1) l.length ?start ?round)
  case start=>exact ⟨0,_,rfl,by omega,Fr.of rfl rfl (fun t=>rfl),rfl,rfl,(show Value.int .i64 _=Value.int .i64 _ by congr 1;first|omega|(unfold wrap64;omega)),vl hW,h0⟩
  case round=>
   rintro k a9 W1 ⟨i,F,rfl,hi,hf,e0,e1,e3,hK,hJ1⟩
   refine m5.2 ?_
   rw [HW hf,e0,e1,e3]
   have q1:=mW hb1 hX1 hK g1
   by_cases hlt:i<l.length
   ·have hq9:(l.length:Int) - 1 - (i:Int)≥0:=by omega
    have hj9:l.length - 1 - i<l.length:=by omega
    obtain ⟨_,b,o,rfl,hb,hX,hcell⟩:=hvs _ hj9
    have q2:=mW hb hX hK hcell
    have hjn:((l.length:Int) - 1 - (i:Int)).toNat=l.length - 1 - i:=by omega
    have hjl:(l.length:Int) - 1 - (i:Int)<(l.length:Int):=by omega
    have hi9:i<((fM l).map fun y=> [V.int .i64 y.1,V.sl none 1 false (y.2.map (V.int .u8))]).length:=by rw [hN];exact hlt
    obtain ⟨fn,tmps,assign,body,hy,hR⟩:=(show YieldAt Fence.wide 1 Tryz.prog lp _ W1 _ from hY (gZ _ i) ⟨i,hi9⟩ W1 hJ1 (by rw [mX (Nat.le_of_lt hi9)];exact hi9))
    rw [←Aa hi9] at hR
    refine (wpIn_wide (n:=2)).1 ?_
    gi_wp2
    refine hR.mono ?_
    rintro e W' (⟨rfl,hJ',hk'⟩|⟨rfl,hJx'⟩)
    ·gi_wp2
     have hK2:fF cS cS.w W':=hK.trans hk'
     go_wp2
     exact ⟨l.length - (i+1),by omega,i+1,_,rfl,by omega,Fr.of rfl rfl (fun t=>rfl),rfl,rfl,(show Value.int .i64 _=Value.int .i64 _ by first|(congr 1;done)|(congr 1;omega)|(congr 1;unfold wrap64;omega)),hK2,hJ'⟩
    ·gi_wp2
     exact ⟨rfl,_,results_none rfl _ _ _,⟨_,rfl⟩,.inr ⟨_,⟨by rw [oN hi9,mX hi9],fun h9=>by have:=congrArg List.length h9;rw [mX hi9] at this;simp at this⟩,hJx'⟩⟩
   ·have hq9: ¬(l.length:Int) - 1 - (i:Int)≥0:=by omega
    have him:i=l.length:=by omega
    subst him
    go_wp2
    exact ⟨rfl,_,results_none rfl _ _ _,⟨_,rfl⟩,.inl ⟨_,by rw [oN (Nat.le_of_eq hN.symm)]<;>first|done|exact congrArg List.range hN.symm,hJ1⟩⟩
theorem HY (z:Option Bool) (l:List (List Int)):bC En 43 [.sl z 1 false (l.map (fun (l:List Int)=>V.sl none 1 false (l.map (V.int .u8))))] (.fn 80 [.pp 1 false (.sl none 1 false (l.map (fun (l:List Int)=>V.sl none 1 false (l.map (V.int .u8)))))]) []:=HV z l
theorem HZ {l:List (List Int)}:nI En 80 [.pp 1 false (.sl none 1 false (l.map (fun (l:List Int)=>V.sl none 1 false (l.map (V.int .u8)))))] ((fM l).map fun y=> [V.int .i64 y.1,V.sl none 1 false (y.2.map (V.int .u8))]):=HX
end Go.Proofs.YtlmleoeemmhboaaGreatDoor
namespace Go.Proofs.YtlmleoeemmhboaaGreatDoor
open Go.RowKit
set_option linter.unusedVariables false
set_option linter.unusedSimpArgs false
instance My (j:bh):CF (eO j) (fun x=>x=true→(j.Bytes.length:Int)≤1048576∧0≤j.Durable∧j.Durable≤(j.Bytes.length:Int)∧ -1≤j.After∧j.After≤1099511627776):=⟨fun h=>by
 unfold eO at h
 repeat' (split at h)
 all_goals first|cases h|(simp only [decide_eq_true_eq] at*;omega)⟩
instance Mz (i:ab) (n:Int):CF (gA i n) (fun x=>x=true→(i.L.length:Int)=n):=⟨fun h=>by
 unfold gA at h
 split at h
 ·exact eq_of_beq h
 ·cases h⟩
theorem Ac {h:aX} (hw:wfV (bL h)):h.Secret.X.length≤1073741824∧h.Spent.length≤1073741824∧h.Chain.length≤1073741824:=by
 unfold bL at hw
 simp only [wfV,wfL,List.length_map,dm] at hw
 refine ⟨?_,?_,?_⟩<;>omega
theorem Ad {D L k:Int} (h0:0≤D) (h1:D≤L) (h2:L≤1048576) (h3:0≤k):0≤aq .i64 D (cf k (aD .i64 L D))∧aq .i64 D (cf k (aD .i64 L D))≤L∧aq .i64 D (cf k (aD .i64 L D))=D+min k (L - D):=by
 have e1:aD .i64 L D=L - D:=fp (by omega) (by omega)
 rw [e1]
 have e2:cf k (L - D)=min k (L - D):=by unfold cf;split<;>omega
 rw [e2]
 have e3:aq .i64 D (min k (L - D))=D+min k (L - D):=gk (by omega) (by omega)
 rw [e3]
 omega
theorem Ae {l:List Int} (h:isB l) (i:Int):0≤gt l i∧gt l i≤255:=by
 by_cases hi:i.toNat<l.length
 ·exact h _ (dN hi)
 ·have:gt l i=0:=by unfold gt;rw [List.getD_eq_getElem?_getD,List.getElem?_eq_none (by omega)];rfl
  rw [this];decide
theorem vn {s:Nat} {a b:Int} (hs:s≤32) (ha0:0≤a) (ha:a*2^s≤4294967296) (hb0:0≤b) (hb:b<2^s):orI .i64 (a*2^s) b=a*2^s+b:=by
 obtain ⟨a,rfl⟩:=Int.eq_ofNat_of_zero_le ha0
 obtain ⟨b,rfl⟩:=Int.eq_ofNat_of_zero_le hb0
 have hp:2^s≤2^32:=Nat.pow_le_pow_right (by decide) hs
 have e0:((a:Int)*2^s)=((a*2^s:Nat):Int):=by push_cast;rfl
 have ha':a*2^s≤4294967296:=by
  rw [e0] at ha
  generalize a*2^s=t at ha⊢
  omega
 have hb':b<2^s:=by exact_mod_cast hb
 have hb'':b<4294967296:=Nat.lt_of_lt_of_le hb' hp
 rw [e0]
 unfold orI
 have t: ∀n:Nat,n<18446744073709551616→(BitVec.ofInt IntKind.i64.bits (n:Int)).toNat=n:=by
  intro n hn
  show (BitVec.ofInt 64 (n:Int)).toNat=n
  rw [BitVec.toNat_ofInt];omega
 rw [BitVec.toNat_or,t _ (by omega),t _ (by omega),Nat.mul_comm a,←Nat.two_pow_add_eq_or_of_lt hb',IntKind.wrap_i64]
 rw [Nat.mul_comm] at ha'
 generalize 2^s*a=u at ha'⊢
 omega
def hd4 (l:List Int):Int:=orI .i64 (orI .i64 (orI .i64 (ap .i64 (ae .i64 (gt l 0)) 24) (ap .i64 (ae .i64 (gt l 1)) 16)) (ap .i64 (ae .i64 (gt l 2)) 8)) (ae .i64 (gt l 3))
theorem Af {l:List Int} (h:isB l):hd4 l=16777216*gt l 0+65536*gt l 1+256*gt l 2+gt l 3:=by
 have g:=Ae h
 have g0:=g 0
 have g1:=g 1
 have g2:=g 2
 have g3:=g 3
 have cv: ∀x:Int,0≤x∧x≤255→ae .i64 x=x:=fun x hx=>by unfold ae;rw [IntKind.wrap_i64];omega
 have sh: ∀(x n:Int) (m:Nat) (p:Int),0≤x∧x≤255→min n.toNat 64=m→(2:Int)^m=p→0≤p→p≤16777216→ap .i64 x n=x*p:=fun x n m p hx hn hp h0 h1=>by
  unfold ap
  rw [show min n.toNat IntKind.i64.bits=m from hn,hp,IntKind.wrap_i64]
  have h2:0≤x*p:=Int.mul_nonneg hx.1 h0
  have h3:x*p≤255*16777216:=Int.le_trans (Int.mul_le_mul_of_nonneg_right hx.2 h0) (Int.mul_le_mul_of_nonneg_left h1 (by decide))
  omega
 unfold hd4
 rw [cv _ g0,cv _ g1,cv _ g2,cv _ g3,sh _ 24 24 16777216 g0 (by decide) (by decide) (by decide) (by decide),sh _ 16 16 65536 g1 (by decide) (by decide) (by decide) (by decide),sh _ 8 8 256 g2 (by decide) (by decide) (by decide) (by decide)]
 have e1:orI .i64 (gt l 0*16777216) (gt l 1*65536)=gt l 0*16777216+gt l 1*65536:=vn (s:=24) (a:=gt l 0) (b:=gt l 1*65536) (by decide) g0.1 (by show gt l 0*16777216≤4294967296;omega) (by omega) (by show gt l 1*65536<16777216;omega)
 rw [e1]
 have e2:orI .i64 ((gt l 0*256+gt l 1)*65536) (gt l 2*256)=(gt l 0*256+gt l 1)*65536+gt l 2*256:=vn (s:=16) (a:=gt l 0*256+gt l 1) (b:=gt l 2*256) (by decide) (by omega) (by show (gt l 0*256+gt l 1)*65536≤4294967296;omega) (by omega) (by show gt l 2*256<65536;omega)
 rw [show gt l 0*16777216+gt l 1*65536=(gt l 0*256+gt l 1)*65536 by omega,e2]
 have e3:orI .i64 ((gt l 0*65536+gt l 1*256+gt l 2)*256) (gt l 3)=(gt l 0*65536+gt l 1*256+gt l 2)*256+gt l 3:=vn (s:=8) (a:=gt l 0*65536+gt l 1*256+gt l 2) (b:=gt l 3) (by decide) (by omega) (by show (gt l 0*65536+gt l 1*256+gt l 2)*256≤4294967296;omega) (by omega) (by show gt l 3<256;omega)
 rw [show (gt l 0*256+gt l 1)*65536+gt l 2*256=(gt l 0*65536+gt l 1*256+gt l 2)*256 by omega,e3]
 omega
theorem H3 {l:List Int} (h:isB l):0≤hd4 l∧hd4 l≤4294967295∧aq .i64 36 (hd4 l)=36+hd4 l:=by
 have e:=Af h
 have g:=Ae h
 have g0:=g 0
 have g1:=g 1
 have g2:=g 2
 have g3:=g 3
 refine ⟨by omega,by omega,gk (by omega) (by omega)⟩
theorem eh {l:List Int} (h:isB l):0≤orI .i64 (orI .i64 (orI .i64 (ap .i64 (ae .i64 (gt l 0)) 24) (ap .i64 (ae .i64 (gt l 1)) 16)) (ap .i64 (ae .i64 (gt l 2)) 8)) (ae .i64 (gt l 3))∧orI .i64 (orI .i64 (orI .i64 (ap .i64 (ae .i64 (gt l 0)) 24) (ap .i64 (ae .i64 (gt l 1)) 16)) (ap .i64 (ae .i64 (gt l 2)) 8)) (ae .i64 (gt l 3))≤4294967295∧aq .i64 36 (orI .i64 (orI .i64 (orI .i64 (ap .i64 (ae .i64 (gt l 0)) 24) (ap .i64 (ae .i64 (gt l 1)) 16)) (ap .i64 (ae .i64 (gt l 2)) 8)) (ae .i64 (gt l 3)))=36+orI .i64 (orI .i64 (orI .i64 (ap .i64 (ae .i64 (gt l 0)) 24) (ap .i64 (ae .i64 (gt l 1)) 16)) (ap .i64 (ae .i64 (gt l 2)) 8)) (ae .i64 (gt l 3)):=H3 h
def oO (h:aX):Prop:=h.Secret.X.length≤40∧h.Spent.length≤40∧h.Chain.length≤12∧ ∀s∈h.Chain,rF s
theorem Ag {h:aX} (hs:oO h):h.Secret.X.length≤40∧h.Spent.length≤40∧h.Chain.length≤12:=⟨hs.1,hs.2.1,hs.2.2.1⟩
def kb (p:aP):Prop:=p.Holdings.length≤10∧(∀h∈p.Holdings,oO h)∧p.Open.length≤6∧ ∀w∈p.Open,w.Secret.X.length≤40
theorem H4 {p:aP} (hs:kb p):p.Holdings.length≤10∧p.Open.length≤6:=⟨hs.1,hs.2.2.1⟩
theorem H5 (l:List aS):oC l=l.any mF:=by
 unfold oC rl
 exact mz (fun ag p=>rfl)
theorem H6 (l:List aX):oE l=l.any mG:=by
 unfold oE rn
 exact mz (fun ag p=>rfl)
theorem H7 (l:List bg):oD l=l.any mE:=by
 unfold oD rm
 exact mz (fun ag p=>rfl)
theorem H8 (l:List aP):lh l=l.any mH:=by
 unfold lh rq
 exact mz (fun ag p=>rfl)
theorem H_ {s:aS} (h:mF s=false):rF s:=by
 unfold mF at h
 split at h
 ·cases h
 ·rename_i h1
  simp only [decide_eq_true_eq,decide_eq_false_iff_not] at h1 h
  exact ⟨by omega,by omega⟩
theorem Ia {x:aX} (h:mG x=false):oO x:=by
 unfold mG at h
 simp only [ak,H5] at h
 split at h
 ·cases h
 split at h
 ·cases h
 split at h
 ·cases h
 ·rename_i h1 h2 h3
  simp only [decide_eq_true_eq] at h1 h2 h3
  exact ⟨by omega,by omega,by omega,fun s hs=>H_ (by simpa using List.any_eq_false.1 h s hs)⟩
theorem Ib {p:aP} (h:mH p=false):kb p:=by
 unfold mH at h
 simp only [ak,H7,H6] at h
 split at h
 ·cases h
 split at h
 ·cases h
 split at h
 ·cases h
 ·rename_i h1 h2 h3
  simp only [decide_eq_true_eq] at h1 h2
  simp only [Bool.not_eq_true] at h3
  exact ⟨by omega,fun x hx=>Ia (by simpa using List.any_eq_false.1 h x hx),by omega,fun w hw=>by
   have h4:mE w=false:=by simpa using List.any_eq_false.1 h3 w hw
   unfold mE at h4
   simp only [decide_eq_false_iff_not] at h4
   omega⟩
theorem Ah {l:List aP} (h:false=lh l): ∀p∈l,kb p:=fun p hp=>Ib (by
 rw [H8] at h
 simpa using List.any_eq_false.1 h.symm p hp)
theorem Ic (l:List ab):cY l=bK l:=rfl
def b2i (b:Bool):Int:=if b then 1 else 0
def en (h:aX):ab:=bK [cZ h.Coin,br ([h.Secret.U,h.Secret.S]++bZ h.Secret.X),br (h.Spent.map b2i),bK (h.Chain.map da)]
theorem Ai (h:aX):iE h=en h:=by
 unfold iE
 refine (zY (X:=h.Secret.X) (fun ag p=>rfl)).trans ?_
 refine (mV h.Spent (fun a i=>(i,a)) (fun a x=>a++[b2i x]) (fun q:List Int=>ao (((h.Chain.length:Int) - 0).toNat+1) (fun (ag14:(Int×List ab)→ab) (p14:Int×List ab)=>(if (decide (p14.1<(h.Chain.length:Int))) then (ak (jX (gt h.Chain p14.1)) (fun (x18:ab)=>(ag14 ((p14.1+1),(p14.2++([x18]:List ab)))))) else (ak (jg (h.Coin)) (fun (x22:ab)=>(ak (c_ ([h.Secret.U,h.Secret.S]++bZ h.Secret.X)) (fun (x25:ab)=>(ak (c_ q) (fun (x28:ab)=>(ak (cY (p14.2)) (fun (x31:ab)=>(ak (cY ([x22,x25,x28,x31]:List ab)) (fun (x34:ab)=>x34)))))))))))) (fun _=>default) (0,([]:List ab))) ?_ ?_).trans ?_
 ·intro ag a i h0 h1
  dsimp only
  rw [if_pos (by simpa using h1)]
  cases gt h.Spent i<;>rfl
 ·intro ag a
  dsimp only
  rw [if_neg (by simp)]
 rw [lk]
 refine (vj (l:=h.Chain) jX (fun q:List ab=>bK [jg h.Coin,c_ ([h.Secret.U,h.Secret.S]++bZ h.Secret.X),c_ ([]++h.Spent.map b2i),bK q]) (fun ag i a=>rfl)).trans ?_
 rw [vf,lj,lj,List.nil_append,List.nil_append,show jX=da from funext HD]
 rfl
theorem Id {h:aX} {x:ab} (hs:oO h) (hx:x=iE h):hgt x≤20000:=by
 rw [hx,Ai]
 have h1:=zU h.Coin
 have h2:=zR (f:=da) (B:=1000) (l:=h.Chain) (fun x hx=>HH (hs.2.2.2 x hx))
 have h3:=Ag hs
 have h4:h.Chain.length*1000≤12*1000:=Nat.mul_le_mul_right _ h3.2.2
 have h5:=mU h.Secret.X
 simp only [en,rD,bX,rE,List.length_append,List.length_cons,List.length_nil,List.length_map]
 omega
theorem Ie {w:bg} {x:ab} (hs:w.Secret.X.length≤40) (hx:x=iF w):hgt x≤2000:=by
 rw [hx,zZ]
 have h1:=zU w.Coin
 have h5:=mU w.Secret.X
 simp only [wI,rD,bX,rE,List.length_append,List.length_cons,List.length_nil]
 omega
theorem Ig {x a b c d:ab} {l:List Int} {H O S:List ab} (h:x=cY [a,b,c,d]) (ha:a=c_ l) (hb:b=cY H) (hc:c=cY O) (hd:d=cY S) (h4:l.length≤10) (hH:bX H≤200000) (hO:bX O≤12000) (hS:bX S≤100):hgt x≤500000000:=by
 subst h ha hb hc hd
 simp only [Ic,rD,bX,lj,rE]
 omega
theorem Aj {b x:List Int} (hx:x=jY ([]:List Int) b):x.length=36+b.length:=by
 rw [hx];unfold jY
 simp only [ak,List.length_append,List.length_cons,List.length_nil,bS]
theorem kc (a b:Int):(cf a b=a∨cf a b=b)∧cf a b≤a∧cf a b≤b:=by unfold cf;split<;>omega
theorem Ih {b:dY} {k u:Int} {s:List Int} {x:aP×Int} (hx:x=oy b k u s):x.1.Holdings.length=0∧x.1.Open.length=0:=by
 rw [hx];unfold oy
 simp only [ak]
 repeat' split
 all_goals exact ⟨rfl,rfl⟩
theorem cb {d:Int} (h0:0≤d) (h1:d≤1000):0≤er 0 (aD .i64 d 1)∧er 0 (aD .i64 d 1)≤d∧er 0 (aD .i64 d 1)=max 0 (d - 1):=by
 rw [show aD .i64 d 1=d - 1 from fp (by omega) (by omega)]
 unfold er;split<;>omega
theorem Ii {α:Type} {l:List α} {i j:Int}:(sl l i j).length≤l.length:=by
 unfold sl
 simp only [List.length_drop,List.length_take]
 omega
theorem Ij {l:List Int} (h:l.length% 2=0) (h2:2≤l.length): ∃m,(sl l 2 (l.length:Int)).length=2*m:=by
 refine ⟨(l.length - 2)/2,?_⟩
 unfold sl
 simp only [List.length_drop,List.length_take]
 omega
end Go.Proofs.YtlmleoeemmhboaaGreatDoor
