/- Texts of this proof, one after the other: EB, HC, HO, HR, U1. -/
import Derived.Test.YtiknkaadhomeiaaGreatDoorZ7
import Derived.Test.YtiknkaadhomeiaaGreatDoorZ6
set_option linter.unusedVariables false
set_option linter.unusedSimpArgs false
namespace Go.Proofs.YtiknkaadhomeiaaGreatDoor
open Go.RowKit Go.Shelf
set_option linter.unusedVariables false
set_option linter.unusedSimpArgs false
def fR (l:List Int):V:=V.sl none 1 false (l.map (V.int .u8))
set_option maxHeartbeats 4000000 in
set_option maxRecDepth 100000 in
theorem KD (a:Option Addr) (k cap:Nat) (w:World):Calls Tryz.prog 62 #[.slice a k cap] w fun e w'=>
  e= .returned (.func (.func 119) #[] #[.pointer (some ⟨w.heap.size,0,none⟩)])∧
  w'=w.alloc (.cells #[.slice a k cap] 157):=by
 go_enter Tryz.func62,Tryz.ntmps62
 go_wp2
 exact ⟨rfl,_,results_tmp rfl _ _ _,rfl,rfl⟩
theorem KE (z:Option Bool) (l:List (List Int)):a8 En 62 [.sl z 1 false (l.map fR)] (.fn 119 [.pp 1 false (.sl none 1 false (l.map fR))]) []:=by
 refine ⟨show∀xs w,(callFunc 62 xs).run En.P w= .ok (.enter 62 xs) w from enters_of Tryz.func62 (by kernel_rfl) rfl,fun c us _ hg hus=> ?_⟩
 simp only [rdT] at hus
 obtain ⟨u0,c0,rfl,h0,rfl⟩:=hus
 have h0':=h0
 simp only [rd] at h0'
 obtain ⟨a,cap,rfl,hl,hz,_⟩:=h0'
 have h0n:rd ro0 c (.sl none 1 false (l.map fR)) (.slice a (l.map fR).length cap):=by
  simp only [rd] at h0⊢
  obtain ⟨a',cap',e,h1,h2,h3⟩:=h0
  exact ⟨a',cap',e,h1,m9 h2,h3⟩
 refine (KD a _ cap c.w).mono ?_
 rintro e w' ⟨rfl,rfl⟩
 have hB:Below c.w.heap.size c.w (c.w.alloc (.cells #[.slice a (l.map fR).length cap] 157)):=(Below.refl _ _).alloc (Nat.le_refl _) _
 have hX: ∀k,c.w.heap.size≤k→k∉c.X:=fun k hk h=>absurd (c.ok k h) (by omega)
 have w0:(c.w.alloc (.cells #[.slice a (l.map fR).length cap] 157)).heap[c.w.heap.size]? =some (.cells #[.slice a (l.map fR).length cap] 157):=World.alloc_heap_new c.w _
 have hle:=Cx.le_at hB
 refine ⟨_,c.at _ hB.size,ro0,rfl,rfl,hle,?_,⟨fun i b hb=>by simp at hb,fun i _=>rfl,fun i j bi bj k _ hb=>by simp at hb⟩⟩
 refine ⟨[.pointer (some ⟨c.w.heap.size,0,none⟩)],rfl,_,_,rfl,?_,rfl⟩
 exact xE hle.pub w0 (hX _ (by omega)) rfl (bA hle.pub h0n)
theorem xG {l:List (List Int)}:(fL l).length=l.length:=by simp [fL]
theorem CA {l:List (List Int)} {i:Nat} {y:Int×List Int} (h:(fL l)[i]? =some y):i<l.length∧y.1=((l.length - 1 - i:Nat):Int)∧l[l.length - 1 - i]? =some y.2:=by
 have hi:i<(fL l).length:=(List.getElem?_eq_some_iff.1 h).1
 have hi':=hi
 rw [xG] at hi'
 refine ⟨hi',?_⟩
 unfold fL at h
 rw [List.getElem?_reverse (by simpa using hi')] at h
 simp only [List.length_map,List.length_zipIdx,List.getElem?_map,List.getElem?_zipIdx,Option.map_map,Option.map_eq_some_iff] at h
 obtain ⟨x,hx,rfl⟩:=h
 exact ⟨by simp,by simpa using hx⟩
theorem KF {F:Fm} {a:Act} (h:Fr (mo:=iO) 19 F a):a={tmps:= #[F 0,F 1,F 2,F 3,F 4,F 5,F 6,F 7,F 8,F 9,F 10,F 11,F 12,F 13,F 14,F 15,F 16,F 17,F 18],defers:=[]}:=by
 obtain ⟨tm,df⟩:=a
 have h1:tm.size=19:=h.sz
 have h2:df=[]:=h.df
 subst h2
 congr 1
 refine Array.ext (by rw [h1];rfl) fun i hi hj=> ?_
 have h3:=h.sl i (by omega)
 have h4:tm.getD i undef=tm[i]:=by simp [Array.getD,hi]
 change tm.getD i undef=F i at h3
 rw [←h4,h3]
 have hi':i<19:=by omega
 have key: ∀j:Fin 19,F j.val=(#[F 0,F 1,F 2,F 3,F 4,F 5,F 6,F 7,F 8,F 9,F 10,F 11,F 12,F 13,F 14,F 15,F 16,F 17,F 18]:Array Value)[j.val]'j.isLt:=by
  intro j
  match j with
  | ⟨0,_⟩=>rfl
  | ⟨1,_⟩=>rfl
  | ⟨2,_⟩=>rfl
  | ⟨3,_⟩=>rfl
  | ⟨4,_⟩=>rfl
  | ⟨5,_⟩=>rfl
  | ⟨6,_⟩=>rfl
  | ⟨7,_⟩=>rfl
  | ⟨8,_⟩=>rfl
  | ⟨9,_⟩=>rfl
  | ⟨10,_⟩=>rfl
  | ⟨11,_⟩=>rfl
  | ⟨12,_⟩=>rfl
  | ⟨13,_⟩=>rfl
  | ⟨14,_⟩=>rfl
  | ⟨15,_⟩=>rfl
  | ⟨16,_⟩=>rfl
  | ⟨17,_⟩=>rfl
  | ⟨18,_⟩=>rfl
  | ⟨i+19,h⟩=>exact absurd (show i+19<19 from h) (by omega)
 exact key ⟨i,hi'⟩
set_option maxHeartbeats 8000000 in
set_option maxRecDepth 100000 in
theorem KG {l:List (List Int)}:pr En 119 [.pp 1 false (.sl none 1 false (l.map fR))] ((fL l).map fun y=> [V.int .i64 y.1,V.sl none 1 false (y.2.map (V.int .u8))]):=by
 refine ⟨show∀xs w,(callFunc 119 xs).run En.P w= .ok (.enter 119 xs) w from enters_of Tryz.func119 (by kernel_rfl) rfl,fun cS us hg hus=> ?_⟩
 simp only [rdT] at hus
 obtain ⟨u1,c1,rfl,r1,rfl⟩:=hus
 simp only [rd] at r1
 obtain ⟨b1,o1,cs1,rfl,hb1,hX1,hc1,hs1,a,cap,e1,hlen,hz,hsl⟩:=r1
 have hN:((fL l).map fun y=> [V.int .i64 y.1,V.sl none 1 false (y.2.map (V.int .u8))]).length=l.length:=by rw [List.length_map,xG]
 have k1:cs1=[.slice a (l.map fR).length cap]:=by
  obtain ⟨h1,_⟩:=hs1
  match cs1,h1 with
  | [x],_=>simpa [mkV] using e1
 subst k1
 have g1:cS.w.cell? ⟨b1,o1,none⟩=some (.slice a (l.map fR).length cap):=by simpa using hc1 0 _ rfl
 rw [List.length_map] at hlen g1
 have hsi:kq (rV ro0 1 false) cS a (l.map fR):=by
  rcases hsl with h|⟨b,o,cs,e,h1,h2,h3,h4⟩
  ·exact .inl h
  ·exact .inr ⟨b,o,cs,e,h1,h2,h3,eN.1 h4⟩
 -- the elements
 obtain ⟨vs,hvs⟩: ∃vs:Nat→Value,∀j (hj:j<l.length),rd ro0 cS (fR l[j]) (vs j)∧ ∃b o,a=some ⟨b,o,none⟩∧b<cS.w.heap.size∧b∉cS.X∧cS.w.cell? ⟨b,o+j,none⟩=some (vs j):=by
  rcases hsi with h|⟨b,o,cs,e,h1,h2,h3,h4⟩
  ·refine ⟨fun _=>undef,fun j hj=> ?_⟩
   have:l=[]:=by simpa using h
   subst this;simp at hj
  ·refine ⟨fun j=>cs.getD j undef,fun j hj=> ?_⟩
   have hj':j<(l.map fR).length:=by simpa using hj
   have hg:=oM h4 j hj'
   have hcl:=iR h4
   have hjc:j<cs.length:=by
    rw [hcl];show j<(l.map fR).length*1;omega
   have h5:(cs.drop (j*(rV ro0 1 false).n)).take (rV ro0 1 false).n=[cs[j]]:=by
    show (cs.drop (j*1)).take 1=[cs[j]]
    rw [Nat.mul_one,List.drop_eq_getElem_cons hjc];rfl
   rw [h5] at hg
   have h6:cs.getD j undef=cs[j]:=by simp [List.getD,List.getElem?_eq_getElem hjc]
   simp only [h6]
   refine ⟨?_,b,o,e,h1,h2,h3 j _ (List.getElem?_eq_getElem hjc)⟩
   have h7:=hg.2
   simpa [mkV] using h7
 refine ⟨fun i=> [.int .i64 ((l.length:Int) - 1 - (i:Int)),vs (l.length - 1 - i)],fun i L hL=> ?_,?_⟩
 ·rw [List.getElem?_map,Option.map_eq_some_iff] at hL
  obtain ⟨y,hy,rfl⟩:=hL
  obtain ⟨hy0,hy1,hy2⟩:=CA hy
  obtain ⟨hj,e9⟩:=List.getElem?_eq_some_iff.1 hy2
  have hv:=(hvs _ hj).1
  rw [e9] at hv
  simp only [rdT]
  refine ⟨_,_,rfl,?_,_,_,rfl,hv,rfl⟩
  simp only [rd]
  refine ⟨by rw [hy1];congr 1;omega,?_⟩
  rw [hy1]
  have h9:=hlen.1
  rw [io] at h9
  show (-9223372036854775808:Int)≤_∧_≤(9223372036854775807:Int)
  omega
 ·intro lp J Jx W hW hJ hJx hY h0
  refine callsIn_wide.2 ?_
  show Calls Tryz.prog _ _ _ _
  have hsz9:=hlen.1
  rw [io] at hsz9
  have q0:=oz hb1 hX1 (xF hW) g1
  go_enter Tryz.func119,Tryz.ntmps119
  go_wp2
  refine oG.1 (uo (mo:=iO) (P:=Tryz.prog) (fun k a9 W1=> ∃(i:Nat) (F:Nat→Value),k=l.length - i∧i≤l.length∧Fr (mo:=iO) 19 F a9∧F 0= .func (.yield lp) #[] #[]∧F 1= .pointer (some ⟨b1,o1,none⟩)∧F 3= .int .i64 ((l.length:Int) - 1 - (i:Int))∧fY cS cS.w W1∧J (iI _ i) W1) l.length ?start ?round)
  case start=>exact ⟨0,_,rfl,by omega,Fr.of rfl rfl (fun t=>rfl),rfl,rfl,(show Value.int .i64 _=Value.int .i64 _ by congr 1;first|omega|(unfold wrap64;omega)),xF hW,h0⟩
  case round=>
   rintro k a9 W1 ⟨i,F,rfl,hi,hf,e0,e1,e3,hK,hJ1⟩
   refine oG.2 ?_
   rw [KF hf,e0,e1,e3]
   have q1:=oz hb1 hX1 hK g1
   by_cases hlt:i<l.length
   ·have hq9:(l.length:Int) - 1 - (i:Int)≥0:=by omega
    have hj9:l.length - 1 - i<l.length:=by omega
    obtain ⟨_,b,o,rfl,hb,hX,hcell⟩:=hvs _ hj9
    have q2:=oz hb hX hK hcell
    have hjn:((l.length:Int) - 1 - (i:Int)).toNat=l.length - 1 - i:=by omega
    have hjl:(l.length:Int) - 1 - (i:Int)<(l.length:Int):=by omega
    have hi9:i<((fL l).map fun y=> [V.int .i64 y.1,V.sl none 1 false (y.2.map (V.int .u8))]).length:=by rw [hN];exact hlt
    obtain ⟨fn,tmps,assign,body,hy,hR⟩:=(show YieldAt Fence.wide 1 Tryz.prog lp _ W1 _ from hY (iI _ i) ⟨i,hi9⟩ W1 hJ1 (by rw [oA (Nat.le_of_lt hi9)];exact hi9))
    rw [←Cz hi9] at hR
    refine (wpIn_wide (n:=2)).1 ?_
    gi_wp2
    refine hR.mono ?_
    rintro e W' (⟨rfl,hJ',hk'⟩|⟨rfl,hJx'⟩)
    ·gi_wp2
     have hK2:fY cS cS.w W':=hK.trans hk'
     go_wp2
     exact ⟨l.length - (i+1),by omega,i+1,_,rfl,by omega,Fr.of rfl rfl (fun t=>rfl),rfl,rfl,(show Value.int .i64 _=Value.int .i64 _ by first|(congr 1;done)|(congr 1;omega)|(congr 1;unfold wrap64;omega)),hK2,hJ'⟩
    ·gi_wp2
     exact ⟨rfl,_,results_none rfl _ _ _,⟨_,rfl⟩,.inr ⟨_,⟨by rw [qz hi9,oA hi9],fun h9=>by have:=congrArg List.length h9;rw [oA hi9] at this;simp at this⟩,hJx'⟩⟩
   ·have hq9: ¬(l.length:Int) - 1 - (i:Int)≥0:=by omega
    have him:i=l.length:=by omega
    subst him
    go_wp2
    exact ⟨rfl,_,results_none rfl _ _ _,⟨_,rfl⟩,.inl ⟨_,by rw [qz (Nat.le_of_eq hN.symm)]<;>first|done|exact congrArg List.range hN.symm,hJ1⟩⟩
theorem KH (z:Option Bool) (l:List (List Int)):a8 En 62 [.sl z 1 false (l.map (fun (l:List Int)=>V.sl none 1 false (l.map (V.int .u8))))] (.fn 119 [.pp 1 false (.sl none 1 false (l.map (fun (l:List Int)=>V.sl none 1 false (l.map (V.int .u8)))))]) []:=KE z l
theorem KI {l:List (List Int)}:pr En 119 [.pp 1 false (.sl none 1 false (l.map (fun (l:List Int)=>V.sl none 1 false (l.map (V.int .u8)))))] ((fL l).map fun y=> [V.int .i64 y.1,V.sl none 1 false (y.2.map (V.int .u8))]):=KG
end Go.Proofs.YtiknkaadhomeiaaGreatDoor
namespace Go.Proofs.YtiknkaadhomeiaaGreatDoor
open Go.RowKit
set_option linter.unusedVariables false
set_option linter.unusedSimpArgs false
instance PW (j:cy):CF (gP j) (fun x=>x=true→(j.Bytes.length:Int)≤1048576∧0≤j.Durable∧j.Durable≤(j.Bytes.length:Int)∧ -1≤j.After∧j.After≤1099511627776):=⟨fun h=>by
 unfold gP at h
 repeat' (split at h)
 all_goals first|cases h|(simp only [decide_eq_true_eq] at*;omega)⟩
instance PX (i:aa) (n:Int):CF (fO i n) (fun x=>x=true→(i.L.length:Int)=n):=⟨fun h=>by
 unfold fO at h
 split at h
 ·exact eq_of_beq h
 ·cases h⟩
theorem CB {h:ay} (hw:wfV (bD h)):h.Secret.X.length≤1073741824∧h.Spent.length≤1073741824∧h.Chain.length≤1073741824:=by
 unfold bD at hw
 simp only [wfV,wfL,List.length_map,io] at hw
 refine ⟨?_,?_,?_⟩<;>omega
theorem CC {l:List Int} (h:isB l) (i:Int):0≤gt l i∧gt l i≤255:=by
 by_cases hi:i.toNat<l.length
 ·exact h _ (cm hi)
 ·have:gt l i=0:=by unfold gt;rw [List.getD_eq_getElem?_getD,List.getElem?_eq_none (by omega)];rfl
  rw [this];decide
theorem xH {s:Nat} {a b:Int} (hs:s≤32) (ha0:0≤a) (ha:a*2^s≤4294967296) (hb0:0≤b) (hb:b<2^s):orI .i64 (a*2^s) b=a*2^s+b:=by
 obtain ⟨a,rfl⟩:=Int.eq_ofNat_of_zero_le ha0
 obtain ⟨b,rfl⟩:=Int.eq_ofNat_of_zero_le hb0
 have hp:2^s≤2^32:=Nat.pow_le_pow_right (by decide) hs
 have e0:((a:Int)*2^s)=((a*2^s:Nat):Int):=by push_cast;rfl
 have ha':a*2^s≤4294967296:=by
  rw [e0] at ha
  generalize a*2^s=t at ha⊢
  omega
 have hb':b<2^s:=by exact_mod_cast hb
 have hb'':b<4294967296:=Nat.lt_of_lt_of_le hb' hp
 rw [e0]
 unfold orI
 have t: ∀n:Nat,n<18446744073709551616→(BitVec.ofInt IntKind.i64.bits (n:Int)).toNat=n:=by
  intro n hn
  show (BitVec.ofInt 64 (n:Int)).toNat=n
  rw [BitVec.toNat_ofInt];omega
 rw [BitVec.toNat_or,t _ (by omega),t _ (by omega),Nat.mul_comm a,←Nat.two_pow_add_eq_or_of_lt hb',IntKind.wrap_i64]
 rw [Nat.mul_comm] at ha'
 generalize 2^s*a=u at ha'⊢
 omega
def hd4 (l:List Int):Int:=orI .i64 (orI .i64 (orI .i64 (ao .i64 (ae .i64 (gt l 0)) 24) (ao .i64 (ae .i64 (gt l 1)) 16)) (ao .i64 (ae .i64 (gt l 2)) 8)) (ae .i64 (gt l 3))
theorem KJ {l:List Int} (h:isB l):hd4 l=16777216*gt l 0+65536*gt l 1+256*gt l 2+gt l 3:=by
 have g:=CC h
 have g0:=g 0
 have g1:=g 1
 have g2:=g 2
 have g3:=g 3
 have cv: ∀x:Int,0≤x∧x≤255→ae .i64 x=x:=fun x hx=>by unfold ae;rw [IntKind.wrap_i64];omega
 have sh: ∀(x n:Int) (m:Nat) (p:Int),0≤x∧x≤255→min n.toNat 64=m→(2:Int)^m=p→0≤p→p≤16777216→ao .i64 x n=x*p:=fun x n m p hx hn hp h0 h1=>by
  unfold ao
  rw [show min n.toNat IntKind.i64.bits=m from hn,hp,IntKind.wrap_i64]
  have h2:0≤x*p:=Int.mul_nonneg hx.1 h0
  have h3:x*p≤255*16777216:=Int.le_trans (Int.mul_le_mul_of_nonneg_right hx.2 h0) (Int.mul_le_mul_of_nonneg_left h1 (by decide))
  omega
 unfold hd4
 rw [cv _ g0,cv _ g1,cv _ g2,cv _ g3,sh _ 24 24 16777216 g0 (by decide) (by decide) (by decide) (by decide),sh _ 16 16 65536 g1 (by decide) (by decide) (by decide) (by decide),sh _ 8 8 256 g2 (by decide) (by decide) (by decide) (by decide)]
 have e1:orI .i64 (gt l 0*16777216) (gt l 1*65536)=gt l 0*16777216+gt l 1*65536:=xH (s:=24) (a:=gt l 0) (b:=gt l 1*65536) (by decide) g0.1 (by show gt l 0*16777216≤4294967296;omega) (by omega) (by show gt l 1*65536<16777216;omega)
 rw [e1]
 have e2:orI .i64 ((gt l 0*256+gt l 1)*65536) (gt l 2*256)=(gt l 0*256+gt l 1)*65536+gt l 2*256:=xH (s:=16) (a:=gt l 0*256+gt l 1) (b:=gt l 2*256) (by decide) (by omega) (by show (gt l 0*256+gt l 1)*65536≤4294967296;omega) (by omega) (by show gt l 2*256<65536;omega)
 rw [show gt l 0*16777216+gt l 1*65536=(gt l 0*256+gt l 1)*65536 by omega,e2]
 have e3:orI .i64 ((gt l 0*65536+gt l 1*256+gt l 2)*256) (gt l 3)=(gt l 0*65536+gt l 1*256+gt l 2)*256+gt l 3:=xH (s:=8) (a:=gt l 0*65536+gt l 1*256+gt l 2) (b:=gt l 3) (by decide) (by omega) (by show (gt l 0*65536+gt l 1*256+gt l 2)*256≤4294967296;omega) (by omega) (by show gt l 3<256;omega)
 rw [show (gt l 0*256+gt l 1)*65536+gt l 2*256=(gt l 0*65536+gt l 1*256+gt l 2)*256 by omega,e3]
 omega
theorem xI {l:List Int} (h:isB l):0≤hd4 l∧hd4 l≤4294967295∧ak .i64 36 (hd4 l)=36+hd4 l:=by
 have e:=KJ h
 have g:=CC h
 have g0:=g 0
 have g1:=g 1
 have g2:=g 2
 have g3:=g 3
 refine ⟨by omega,by omega,eY (by omega) (by omega)⟩
theorem bZ {l:List Int} (h:isB l):0≤orI .i64 (orI .i64 (orI .i64 (ao .i64 (ae .i64 (gt l 0)) 24) (ao .i64 (ae .i64 (gt l 1)) 16)) (ao .i64 (ae .i64 (gt l 2)) 8)) (ae .i64 (gt l 3))∧orI .i64 (orI .i64 (orI .i64 (ao .i64 (ae .i64 (gt l 0)) 24) (ao .i64 (ae .i64 (gt l 1)) 16)) (ao .i64 (ae .i64 (gt l 2)) 8)) (ae .i64 (gt l 3))≤4294967295∧ak .i64 36 (orI .i64 (orI .i64 (orI .i64 (ao .i64 (ae .i64 (gt l 0)) 24) (ao .i64 (ae .i64 (gt l 1)) 16)) (ao .i64 (ae .i64 (gt l 2)) 8)) (ae .i64 (gt l 3)))=36+orI .i64 (orI .i64 (orI .i64 (ao .i64 (ae .i64 (gt l 0)) 24) (ao .i64 (ae .i64 (gt l 1)) 16)) (ao .i64 (ae .i64 (gt l 2)) 8)) (ae .i64 (gt l 3)):=xI h
def oB (h:ay):Prop:=h.Secret.X.length≤40∧h.Spent.length≤40∧h.Chain.length≤12∧ ∀s∈h.Chain,tC s
theorem xJ {h:ay} (hs:oB h):h.Secret.X.length≤40∧h.Spent.length≤40∧h.Chain.length≤12:=⟨hs.1,hs.2.1,hs.2.2.1⟩
def kj (p:av):Prop:=p.Holdings.length≤10∧(∀h∈p.Holdings,oB h)∧p.Open.length≤6∧ ∀w∈p.Open,w.Secret.X.length≤40
theorem CD {p:av} (hs:kj p):p.Holdings.length≤10∧p.Open.length≤6:=⟨hs.1,hs.2.2.1⟩
theorem KK (l:List aA):qe l=l.any ol:=by
 unfold qe tg
 exact sR (fun ag p=>rfl)
theorem KL (l:List ay):qg l=l.any om:=by
 unfold qg tj
 exact sR (fun ag p=>rfl)
theorem KM (l:List aL):qf l=l.any oi:=by
 unfold qf th
 exact sR (fun ag p=>rfl)
theorem KN {s:aA} (h:ol s=false):tC s:=by
 unfold ol at h
 split at h
 ·cases h
 ·rename_i h1
  simp only [decide_eq_true_eq,decide_eq_false_iff_not] at h1 h
  exact ⟨by omega,by omega⟩
theorem KO {x:ay} (h:om x=false):oB x:=by
 unfold om at h
 simp only [ab,KK] at h
 split at h
 ·cases h
 split at h
 ·cases h
 split at h
 ·cases h
 ·rename_i h1 h2 h3
  simp only [decide_eq_true_eq] at h1 h2 h3
  exact ⟨by omega,by omega,by omega,fun s hs=>KN (by simpa using List.any_eq_false.1 h s hs)⟩
theorem CE {p:av} (h:mK p=false):kj p:=by
 unfold mK at h
 simp only [ab,KM,KL] at h
 split at h
 ·cases h
 split at h
 ·cases h
 split at h
 ·cases h
 ·rename_i h1 h2 h3
  simp only [decide_eq_true_eq] at h1 h2
  simp only [Bool.not_eq_true] at h3
  exact ⟨by omega,fun x hx=>KO (by simpa using List.any_eq_false.1 h x hx),by omega,fun w hw=>by
   have h4:oi w=false:=by simpa using List.any_eq_false.1 h3 w hw
   unfold oi at h4
   simp only [decide_eq_false_iff_not] at h4
   omega⟩
theorem KP (l:List aa):dc l=bc l:=rfl
def b2i (b:Bool):Int:=if b then 1 else 0
def dt (h:ay):aa:=bc [cb h.Coin,aS ([h.Secret.U,h.Secret.S]++bY h.Secret.X),aS (h.Spent.map b2i),bc (h.Chain.map cT)]
theorem xK (h:ay):ji h=dt h:=by
 unfold ji
 refine (tF (X:=h.Secret.X) (fun ag p=>rfl)).trans ?_
 refine (oy h.Spent (fun a i=>(i,a)) (fun a x=>a++[b2i x]) (fun q:List Int=>ah (((h.Chain.length:Int) - 0).toNat+1) (fun (ag14:(Int×List aa)→aa) (p14:Int×List aa)=>(if (decide (p14.1<(h.Chain.length:Int))) then (ab (lu (gt h.Chain p14.1)) (fun (x18:aa)=>(ag14 ((p14.1+1),(p14.2++([x18]:List aa)))))) else (ab (kd (h.Coin)) (fun (x22:aa)=>(ab (dp ([h.Secret.U,h.Secret.S]++bY h.Secret.X)) (fun (x25:aa)=>(ab (dp q) (fun (x28:aa)=>(ab (dc (p14.2)) (fun (x31:aa)=>(ab (dc ([x22,x25,x28,x31]:List aa)) (fun (x34:aa)=>x34)))))))))))) (fun _=>default) (0,([]:List aa))) ?_ ?_).trans ?_
 ·intro ag a i h0 h1
  dsimp only
  rw [if_pos (by simpa using h1)]
  cases gt h.Spent i<;>rfl
 ·intro ag a
  dsimp only
  rw [if_neg (by simp)]
 rw [mS]
 refine (mT (l:=h.Chain) lu (fun q:List aa=>bc [kd h.Coin,dp ([h.Secret.U,h.Secret.S]++bY h.Secret.X),dp ([]++h.Spent.map b2i),bc q]) (fun ag i a=>rfl)).trans ?_
 rw [xp,mR,mR,List.nil_append,List.nil_append,show lu=cT from funext Kd]
 rfl
theorem CG {h:ay} {x:aa} (hs:oB h) (hx:x=ji h):hgt x≤20000:=by
 rw [hx,xK]
 have h1:=Cq h.Coin
 have h2:=tB (f:=cT) (B:=1000) (l:=h.Chain) (fun x hx=>Kg (hs.2.2.2 x hx))
 have h3:=xJ hs
 have h4:h.Chain.length*1000≤12*1000:=Nat.mul_le_mul_right _ h3.2.2
 have h5:=ox h.Secret.X
 simp only [dt,qv,bC,qw,List.length_append,List.length_cons,List.length_nil,List.length_map]
 omega
theorem CH {w:aL} {x:aa} (hs:w.Secret.X.length≤40) (hx:x=jj w):hgt x≤2000:=by
 rw [hx,xD]
 have h1:=Cq w.Coin
 have h5:=ox w.Secret.X
 simp only [wI,qv,bC,qw,List.length_append,List.length_cons,List.length_nil]
 omega
theorem KQ {x a b c d:aa} {l:List Int} {H O S:List aa} (h:x=dc [a,b,c,d]) (ha:a=dp l) (hb:b=dc H) (hc:c=dc O) (hd:d=dc S) (h4:l.length≤10) (hH:bC H≤200000) (hO:bC O≤12000) (hS:bC S≤100):hgt x≤500000000:=by
 subst h ha hb hc hd
 simp only [KP,qv,bC,mR,qw]
 omega
theorem KR {b:eH} {k u:Int} {s:List Int} {x:av×Int} (hx:x=qb b k u s):x.1.Holdings.length=0∧x.1.Open.length=0:=by
 rw [hx];unfold qb
 simp only [ab]
 repeat' split
 all_goals exact ⟨rfl,rfl⟩
theorem xL {α:Type} {l:List α} {i j:Int}:(sl l i j).length≤l.length:=by
 unfold sl
 simp only [List.length_drop,List.length_take]
 omega
theorem KS {l:List Int} (h:l.length% 2=0) (h2:2≤l.length): ∃m,(sl l 2 (l.length:Int)).length=2*m:=by
 refine ⟨(l.length - 2)/2,?_⟩
 unfold sl
 simp only [List.length_drop,List.length_take]
 omega
end Go.Proofs.YtiknkaadhomeiaaGreatDoor
namespace Go.Proofs.YtiknkaadhomeiaaGreatDoor
open Go.RowKit
set_option linter.unusedVariables false
set_option linter.unusedSimpArgs false
def b9 (p:av):aa:=bc [aS [p.Bank,p.U,p.Key,p.Next],bc (p.Holdings.map dt),bc (p.Open.map wI),bc [bE (au 32 p.Source.Seed),cR p.Source.Counter]]
def CI (p_:av) (H9:List aa):aa:=
 (ah (((p_.Open.length:Int) - 0).toNat+1) (fun (ag9:(Int×List aa)→aa) (p9:Int×List aa)=>(if (decide (p9.1<(p_.Open.length:Int))) then (ab (ly (gt p_.Open p9.1)) (fun (x13:aa)=>(ag9 ((p9.1+1),(p9.2++([x13]:List aa)))))) else (ab (jk (p_.Source.Seed)) (fun (x17:aa)=>(ab (dq ([x17,({Kind:=1,N:=p_.Source.Counter,B:=([]:List Int),L:=([]:List aa)}:aa)]:List aa)) (fun (x19:aa)=>(ab (dM ([p_.Bank,p_.U,p_.Key,p_.Next]:List Int)) (fun (x21:aa)=>(ab (dq (H9)) (fun (x23:aa)=>(ab (dq (p9.2)) (fun (x25:aa)=>(ab (dq ([x21,x23,x25,x19]:List aa)) (fun (x27:aa)=>x27)))))))))))))) (fun _=>default) (0,([]:List aa)))
def CJ (p_:av) (H9 O9:List aa):aa:=
 (ab (jk (p_.Source.Seed)) (fun (x17:aa)=>(ab (dq ([x17,({Kind:=1,N:=p_.Source.Counter,B:=([]:List Int),L:=([]:List aa)}:aa)]:List aa)) (fun (x19:aa)=>(ab (dM ([p_.Bank,p_.U,p_.Key,p_.Next]:List Int)) (fun (x21:aa)=>(ab (dq (H9)) (fun (x23:aa)=>(ab (dq (O9)) (fun (x25:aa)=>(ab (dq ([x21,x23,x25,x19]:List aa)) (fun (x27:aa)=>x27))))))))))))
def xM (h_:ay) (X9:List Int):aa:=
 (ah (((h_.Spent.length:Int) - 0).toNat+1) (fun (ag6:(Int×List Int)→aa) (p6:Int×List Int)=>(if (decide (p6.1<(h_.Spent.length:Int))) then (if (gt h_.Spent p6.1) then (ag6 ((p6.1+1),(p6.2++([1]:List Int)))) else (ag6 ((p6.1+1),(p6.2++([0]:List Int))))) else (ah (((h_.Chain.length:Int) - 0).toNat+1) (fun (ag14:(Int×List aa)→aa) (p14:Int×List aa)=>(if (decide (p14.1<(h_.Chain.length:Int))) then (ab (ke (gt h_.Chain p14.1)) (fun (x18:aa)=>(ag14 ((p14.1+1),(p14.2++([x18]:List aa)))))) else (ab (jl (h_.Coin)) (fun (x22:aa)=>(ab (dM (X9)) (fun (x25:aa)=>(ab (dM (p6.2)) (fun (x28:aa)=>(ab (dq (p14.2)) (fun (x31:aa)=>(ab (dq ([x22,x25,x28,x31]:List aa)) (fun (x34:aa)=>x34)))))))))))) (fun _=>default) (0,([]:List aa))))) (fun _=>default) (0,([]:List Int)))
def xN (h_:ay) (X9 F9:List Int):aa:=
 (ah (((h_.Chain.length:Int) - 0).toNat+1) (fun (ag14:(Int×List aa)→aa) (p14:Int×List aa)=>(if (decide (p14.1<(h_.Chain.length:Int))) then (ab (ke (gt h_.Chain p14.1)) (fun (x18:aa)=>(ag14 ((p14.1+1),(p14.2++([x18]:List aa)))))) else (ab (jl (h_.Coin)) (fun (x22:aa)=>(ab (dM (X9)) (fun (x25:aa)=>(ab (dM (F9)) (fun (x28:aa)=>(ab (dq (p14.2)) (fun (x31:aa)=>(ab (dq ([x22,x25,x28,x31]:List aa)) (fun (x34:aa)=>x34)))))))))))) (fun _=>default) (0,([]:List aa)))
def xO (h_:ay) (X9 F9:List Int) (C9:List aa):aa:=
 (ab (jl (h_.Coin)) (fun (x22:aa)=>(ab (dM (X9)) (fun (x25:aa)=>(ab (dM (F9)) (fun (x28:aa)=>(ab (dq (C9)) (fun (x31:aa)=>(ab (dq ([x22,x25,x28,x31]:List aa)) (fun (x34:aa)=>x34))))))))))
theorem KU (h:ay) (X F:List Int) (C:List aa):xO h X F C=bc [cb h.Coin,aS X,aS F,bc C]:=by
 unfold xO
 rw [aG,aG,aG,aG,aG,xy,qy,qy]
 rfl
theorem KV (h:ay) (X F:List Int):xN h X F=bc [cb h.Coin,aS X,aS F,bc (h.Chain.map cT)]:=by
 unfold xN
 refine (mT (l:=h.Chain) ke (xO h X F) (fun ag i a=>rfl)).trans ?_
 rw [KU,List.nil_append,show ke=cT from funext Kq]
theorem KW (h:ay) (X:List Int):xM h X=bc [cb h.Coin,aS X,aS (h.Spent.map b2i),bc (h.Chain.map cT)]:=by
 unfold xM
 refine (mT (l:=h.Spent) b2i (xN h X) (fun ag i a=> ?_)).trans ?_
 ·cases gt h.Spent i<;>rfl
 rw [KV,List.nil_append]
theorem KX (h:ay):lw h=dt h:=by
 unfold lw
 refine (tF (X:=h.Secret.X) (E:=fun p=>xM h p.2) (fun ag p=>rfl)).trans ?_
 exact KW h _
theorem CK (p:av):oo p=b9 p:=by
 unfold oo
 refine (mT (l:=p.Holdings) lw (CI p) (fun ag i a=>rfl)).trans ?_
 unfold CI
 refine (mT (l:=p.Open) ly (CJ p ([]++p.Holdings.map lw)) (fun ag i a=>rfl)).trans ?_
 unfold CJ
 rw [aG,aG,aG,aG,aG,aG,xx,qy,List.nil_append,List.nil_append,show lw=dt from funext KX,show ly=wI from funext Ky]
 rfl
theorem KY {p:av} {x:aa} (hs:kj p) (hx:x=oo p):hgt x≤50000000:=by
 rw [hx,CK]
 have h1:bC (p.Holdings.map dt)≤p.Holdings.length*20000:=tB (fun h hh=>CG (hs.2.1 h hh) (xK h).symm)
 have h2:bC (p.Open.map wI)≤p.Open.length*2000:=tB (fun w hw=>CH (hs.2.2.2 w hw) (xD w).symm)
 have e1:bC (p.Holdings.map dt)≤10*20000:=Nat.le_trans h1 (Nat.mul_le_mul_right _ hs.1)
 have e2:bC (p.Open.map wI)≤6*2000:=Nat.le_trans h2 (Nat.mul_le_mul_right _ hs.2.2.1)
 unfold b9
 simp only [qv,bC,qw,xr,Cb,cq,List.length_cons,List.length_nil]
 generalize bC (p.Holdings.map dt)=a at e1⊢
 generalize bC (p.Open.map wI)=b at e2⊢
 omega
theorem CL {p:av} {x:Bool} (hx:x=mK p) (h:x=false):kj p:=CE (by rw [←hx];exact h)
end Go.Proofs.YtiknkaadhomeiaaGreatDoor
namespace Go.Proofs.YtiknkaadhomeiaaGreatDoor
open Go.RowKit
theorem CN {R:Type} {E:List Int→R} {F:(List Int→R)→List Int→R} {d:List Int→R} (hF: ∀ag p,F ag p=if (bJ .i64 (p.length:Int) 64 !=56)=true then ag (p++[0]) else E p):
  ∀(r fuel:Nat) (l:List Int),((56 - (l.length:Int))% 64).toNat=r→r<fuel→ah fuel F d l=E (l++List.replicate r 0)
 | 0,fuel,l,hr,hf=>by
  obtain ⟨f,rfl⟩: ∃f,fuel=f+1:=⟨fuel - 1,by omega⟩
  rw [ah,hF,jM,if_neg]
  ·simp
  ·have:(l.length:Int)% 64=56:=by omega
   simp [this]
 | r+1,fuel,l,hr,hf=>by
  obtain ⟨f,rfl⟩: ∃f,fuel=f+1:=⟨fuel - 1,by omega⟩
  rw [ah,hF,jM,if_pos]
  ·rw [CN hF r f (l++[0]) (by simp;omega) (by omega)]
   simp [List.replicate_succ]
  ·have:(l.length:Int)% 64≠56:=by omega
   simp [this]
theorem CO {R:Type} {E:List Int→R} {F:(List Int→R)→List Int→R} {d:List Int→R} {l:List Int} (hF: ∀ag p,F ag p=if (bJ .i64 (p.length:Int) 64 !=56)=true then ag (p++[0]) else E p):
  ah (((56 - (l.length:Int))% 64).toNat+1) F d l=E (l++List.replicate ((56 - (l.length:Int))% 64).toNat 0):=CN hF _ _ l rfl (Nat.lt_succ_self _)
theorem tG (n:Int):lH n=[ae .u8 (ar .i64 n 56),ae .u8 (ar .i64 n 48),ae .u8 (ar .i64 n 40),ae .u8 (ar .i64 n 32),ae .u8 (ar .i64 n 24),ae .u8 (ar .i64 n 16),ae .u8 (ar .i64 n 8),ae .u8 (ar .i64 n 0)]:=by kernel_rfl
def pad (b:List Int):List Int:=((b++[128])++List.replicate ((56 - ((b++[(128:Int)]).length:Int))% 64).toNat 0)
theorem tH (b:List Int):jq b=pad b++lH (aK .i64 8 (b.length:Int)):=by
 unfold jq pad
 refine (CO (fun ag p=>rfl)).trans ?_
 simp only [ab,List.nil_append]
theorem CP (b:List Int):((jq b).length:Int)% 64=0:=by
 rw [tH,tG]
 simp only [pad,List.length_append,List.length_replicate,List.length_cons,List.length_nil]
 omega
theorem KZ (b:List Int):(lI b).length=64:=by
 unfold lI
 refine mQ (fun (a:Int×List Int)=>0≤a.1∧a.1≤16∧(a.2.length:Int)=a.1) (fun r:List Int=>r.length=64) (fun a=>(16 - a.1).toNat) ?_ _ _ ⟨show (0:Int)≤0 by decide,show (0:Int)≤16 by decide,rfl⟩ (show ((16:Int) - 0).toNat<((16:Int) - 0).toNat+1 by decide)
 rintro ag ⟨i,q⟩ ⟨g0,g1,g2⟩ hag
 simp only at g0 g1 g2 hag
 by_cases hi:i<16
 ·simp only [hi,decide_true,if_true]
  refine mQ (fun (a:Int×Int)=>True) (fun r:List Int=>r.length=64) (fun a=>(4 - a.2).toNat) ?_ _ _ trivial (show ((4:Int) - 0).toNat<((4:Int) - 0).toNat+1 by decide)
  rintro ag2 ⟨x,k⟩ _ hag2
  simp only at hag2
  by_cases hk:k<4
  ·simp only [hk,decide_true,if_true]
   exact hag2 _ trivial (by simp only;omega)
  ·simp only [hk,decide_false,Bool.false_eq_true,if_false]
   exact hag _ ⟨by simp only;omega,by simp only;omega,by simp;omega⟩ (by simp only;omega)
 ·simp only [hi,decide_false,Bool.false_eq_true,if_false]
  refine mQ (fun (a:Int×List Int)=>16≤a.1∧a.1≤64∧(a.2.length:Int)=a.1) (fun r:List Int=>r.length=64) (fun a=>(64 - a.1).toNat) ?_ _ _ ⟨show (16:Int)≤16 by decide,show (16:Int)≤64 by decide,by simp only;omega⟩ (show ((64:Int) - 16).toNat<((64:Int) - 16).toNat+1 by decide)
  rintro ag2 ⟨t,p⟩ ⟨h0,h1,h2⟩ hag2
  simp only at h0 h1 h2 hag2
  by_cases ht:t<64
  ·simp only [ht,decide_true,if_true,ab]
   exact hag2 _ ⟨by simp only;omega,by simp only;omega,by simp;omega⟩ (by simp only;omega)
  ·simp only [ht,decide_false,Bool.false_eq_true,if_false]
   omega
instance PY {n:Int}:CF (lH n) (fun x=>x.length=8):=⟨by rw [tG];rfl⟩
instance PZ {b:List Int}:CF (jq b) (fun x=>(x.length:Int)% 64=0∧(x.length:Int)≤b.length+73):=⟨CP b,by
 rw [tH,tG]
 simp only [pad,List.length_append,List.length_replicate,List.length_cons,List.length_nil]
 omega⟩
instance P0 {b:List Int}:CF (lI b) (fun x=>x.length=64):=⟨KZ b⟩
instance P3 (j:cy):CF (fQ j) (fun x=>x=true→(j.Bytes.length:Int)≤1048576∧0≤j.Durable∧j.Durable≤(j.Bytes.length:Int)∧ -1≤j.After∧j.After≤1099511627776):=⟨fun h=>by
 unfold fQ at h
 repeat' (split at h)
 all_goals first|cases h|(simp only [decide_eq_true_eq] at*;omega)⟩
theorem K0 {x b:List Int} {n:Int} (hx:x=lG b n) (h0:0≤n) (h1:n≤16384):x.length≤16384:=by
 rw [hx]
 unfold lG
 refine mQ (fun (a:Int×List Int)=>0≤a.1∧a.1≤n∧(a.2.length:Int)=a.1) (fun r:List Int=>r.length≤16384) (fun a=>(n - a.1).toNat) ?_ _ _ ⟨show (0:Int)≤0 by decide,h0,rfl⟩ (Nat.lt_succ_self _)
 rintro ag ⟨i,q⟩ ⟨g0,g1,g2⟩ hag
 simp only at g0 g1 g2 hag
 by_cases hi:i<n
 ·simp only [hi,decide_true,if_true]
  exact hag _ ⟨by simp only;omega,by simp only;omega,by simp;omega⟩ (by simp only;omega)
 ·simp only [hi,decide_false,Bool.false_eq_true,if_false]
  omega
instance P4:CF mO (fun x=>x.length=64):=⟨rfl⟩
end Go.Proofs.YtiknkaadhomeiaaGreatDoor
namespace Go.Proofs.YtiknkaadhomeiaaGreatDoor
open Go.RowKit
set_option linter.unusedSimpArgs false
theorem enQ {α:Type} {m m':α} {f:FuncId} {fn:Func} {code:Code} {ws:List V} {R:α→V} {Hs:α→List Blk} {n:Nat} {W:Prop} {Q:α→Prop} (J:cC) (hf:En.P.funcs[f]? =some fn) (hnt:fn.ntmps=n) (hm:m=m') (k: ∀r,W→Q r)
  (hb:fn.body=some code:=by exact rfl) (hsl:(fr n code&&decide (ws.length≤n)&& !(fn.name== "runtime.NumGoroutine"))=true:=by kernel_rfl) (hw:wfL ws→W:=by intro h;exact nzQ h)
  (h: ∀r,Q r→True→m'=r→aE En J [.code code,.fin (pu En fn.results.toList (R r) (Hs r))] .normal ⟨ia 0 ws,[],0⟩:=by
   intro r k hF hM;(refine spQ ?_);revert hM;revert hF;exact k):CM En m f ws R Hs:=
 cmQ fun r hM=>ef bn cJ J hf hb hnt hsl fun hw'=>cO (h r (k r (hw hw')) trivial (hm▸hM))
theorem K1 {α:Type} {m m':α} {f:FuncId} {fn:Func} {code:Code} {ws:List V} {R:α→V} {Hs:α→List Blk} {n:Nat} {W:Prop} {Q:α→Prop} (J:cC) (hf:En.P.funcs[f]? =some fn) (hnt:fn.ntmps=n) (hm:m=m') (k: ∀r,W→Q r)
  (hb:fn.body=some code:=by exact rfl) (hsl:(fr n code&&decide (ws.length≤n)&& !(fn.name== "runtime.NumGoroutine"))=true:=by kernel_rfl) (hw:wfL ws→W:=by intro h;exact cF h)
  (h: ∀r,Q r→True→m'=r→aE En J [.code code,.fin (pu En fn.results.toList (R r) (Hs r))] .normal ⟨ia 0 ws,[],0⟩:=by
   intro r k hF hM;(refine spQ ?_);revert hM;revert hF;exact k):CM En m f ws R Hs:=
 cmQ fun r hM=>ef bn cJ J hf hb hnt hsl fun hw'=>cO (h r (k r (hw hw')) trivial (hm▸hM))
set_option maxHeartbeats 2000000 in
set_option maxRecDepth 100000 in
instance P5 (x_:Int):CM En (pV x_) 218 [.int .u64 x_] (fun y=> .int .i64 y) (fun _=> []):=by
 refine cmQ fun r hM=> ?_
 rw [pV.eq_1] at hM
 refine ef bn cJ noJ Tryz.func218 rfl Tryz.ntmps218 (by kernel_rfl) fun hw=>cO ?_
 refine spQ ?_
 replace hw:=nzQ hw
 have h0_0:=BK (x:=aX .u64 x_ (kr .u64 x_))
 refine bR (fun h1=> ?_) (fun h1=> ?_)
 ·rw [if_pos h1] at hM
  refine aq h1 ?_
  have nh1:=nzQ h1
  try have hr2:=mpQ nh1
  subst hM
  exact cI (cK h1)
 ·rw [if_neg (bH h1)] at hM
  refine aq h1 ?_
  have nh1:=nzQ h1
  try have hr3:=mpQ nh1
  refine bM omQ ?_
  have he4:=pP (f:=V.int .u8) (l:=kP) (n:=64) (i:=(ar .u64 (aK .u64 (aX .u64 x_ (kr .u64 x_)) 285870213051353865) 58)) rfl omQ
  replace he4:=spR he4
  refine aq he4 ?_
  subst hM
  exact cI (cK (And.intro he4 h1))
set_option maxHeartbeats 2000000 in
set_option maxRecDepth 100000 in
instance P6 (x_:Int) (y:Int):CM En (lm x_ y) 259 [.int .u64 x_,.int .u64 y] (fun y=> .tup [.int .u64 y.1,.int .u64 y.2]) (fun _=> []):=by
 refine enQ noJ Tryz.func259 Tryz.ntmps259 (lm.eq_1 ..) fun r hw=> ?_
 exact auR
set_option maxHeartbeats 2000000 in
set_option maxRecDepth 100000 in
instance P7 (x_:Int):CM En (mG x_) 284 [.int .u64 x_] (fun y=> .int .i64 y) (fun _=> []):=by
 refine enQ noJ Tryz.func284 Tryz.ntmps284 (mG.eq_1 ..) fun r hw=> ?_
 exact auR
instance (priority:=1001):DRD 6 135 7 [6,28,29,30,31,32,33] [] ([[],[],[0,1],[],[],[3,4],[0,1,2]]++[List.range 7]) []:=⟨trivial⟩
set_option maxHeartbeats 2000000 in
set_option maxRecDepth 100000 in
theorem CQ (hi:Int) (lo:Int) (y:Int) (hp0:hi<y):CM En (og hi lo y) 260 [.int .u64 hi,.int .u64 lo,.int .u64 y] (fun y=> .tup [.int .u64 y.1,.int .u64 y.2]) (fun _=> []):=by
 refine enQ [21,28] Tryz.func260 Tryz.ntmps260 (og.eq_1 ..) fun r hw=> ?_
 refine cdQ (fun _ _ _=> ?_) (fun _ _ _=> ?_)
 ·intro hF hM
  exact False.elim omQ
 ·refine cdQ (fun _ _ _=> ?_) (fun _ _ _=> ?_)
  ·intro hF hM
   exact False.elim omQ
  ·refine aJ fun _ _ _=> ?_
   refine aF fun x10 hx11 _ _=> ?_
   have hq13:=JE hx11 (by omega) (by omega)
   replace hq13:=nzQ hq13
   intro hF hM
   try refine bM (by (exact nD _)) ?_
   revert hM;revert hF
   refine slQ ?_
   intro hF hM
   try refine bM (by (exact nD _)) ?_
   revert hM;revert hF
   refine slQ ?_
   intro hF hM
   try refine bM (by (exact (oS .u64 _ _).1)) ?_
   revert hM;revert hF
   refine slQ ?_
   intro hF hM
   try refine bM (by (exact nD _)) ?_
   revert hM;revert hF
   refine slQ ?_
   intro hF hM
   have hM0:=hM;clear hM;obtain ⟨j14,hj14,hM⟩:=nJ hM0;clear hM0
   refine nB (fun S=> ∃p:Int,S=(⟨[(2,.int .u64 (ao .u64 y (ae .u64 x10))),(8,.int .u64 (ae .u64 x10)),(9,.int .u64 (ar .u64 (ao .u64 y (ae .u64 x10)) 32)),(10,.int .u64 (aX .u64 (ao .u64 y (ae .u64 x10)) 4294967295)),(11,.int .u64 (orI .u64 (ao .u64 hi (ae .u64 x10)) (ar .u64 lo (az .u64 64 (ae .u64 x10))))),(13,.int .u64 (ar .u64 (ao .u64 lo (ae .u64 x10)) 32)),(14,.int .u64 (aX .u64 (ao .u64 lo (ae .u64 x10)) 4294967295)),(15,.int .u64 p)],[],0⟩:St)∧(True)∧j14 p=r) ?_ (fun hcut14=> ?_)
   ·clear hM
    rintro S ⟨p14,rfl,hfa14,hM⟩
    have hM0:=hM;clear hM;have hM:=kQ hM0 hj14;clear hM0
    revert hM;revert hF
    refine slQ ?_
    intro hF hM
    have hM0:=hM;clear hM;obtain ⟨j15,hj15,hM⟩:=nJ hM0;clear hM0
    refine nB (fun S=> ∃p:Int,S=(⟨[(2,.int .u64 (ao .u64 y (ae .u64 x10))),(8,.int .u64 (ae .u64 x10)),(14,.int .u64 (aX .u64 (ao .u64 lo (ae .u64 x10)) 4294967295)),(15,.int .u64 p14),(17,.int .u64 (az .u64 (ak .u64 (aK .u64 (orI .u64 (ao .u64 hi (ae .u64 x10)) (ar .u64 lo (az .u64 64 (ae .u64 x10)))) 4294967296) (ar .u64 (ao .u64 lo (ae .u64 x10)) 32)) (aK .u64 p14 (ao .u64 y (ae .u64 x10))))),(18,.int .u64 p)],[],0⟩:St)∧(True)∧j15 p=r) ?_ (fun hcut15=> ?_)
    ·clear hM
     rintro S ⟨p15,rfl,hfa15,hM⟩
     have hM0:=hM;clear hM;have hM:=kQ hM0 hj15;clear hM0
     revert hM;revert hF
     refine slQ ?_
     intro hF hM
     try refine bM (by (exact nD _)) ?_
     exact auP
    ·revert hM;revert hF
     refine slQ ?_
     intro hF hM
     have hM0:=hM;clear hM;obtain ⟨f16,d16,hf16,hd16,hM⟩:=aH hM0;clear hM0
     refine bm (fun n S=> ∃p:Int×Int,S=(⟨[(2,.int .u64 (ao .u64 y (ae .u64 x10))),(8,.int .u64 (ae .u64 x10)),(9,.int .u64 (ar .u64 (ao .u64 y (ae .u64 x10)) 32)),(10,.int .u64 (aX .u64 (ao .u64 y (ae .u64 x10)) 4294967295)),(14,.int .u64 (aX .u64 (ao .u64 lo (ae .u64 x10)) 4294967295)),(15,.int .u64 p14),(16,.int .u64 p.1),(17,.int .u64 (az .u64 (ak .u64 (aK .u64 (orI .u64 (ao .u64 hi (ae .u64 x10)) (ar .u64 lo (az .u64 64 (ae .u64 x10)))) 4294967296) (ar .u64 (ao .u64 lo (ae .u64 x10)) 32)) (aK .u64 p14 (ao .u64 y (ae .u64 x10))))),(18,.int .u64 p.2)],[],0⟩:St)∧((0≤p.1∧p.1≤4294967295))∧(4294967296 - p.1).toNat<n∧ah n f16 d16 p=r) ((4294967296 - (az .u64 (az .u64 (ak .u64 (aK .u64 (orI .u64 (ao .u64 hi (ae .u64 x10)) (ar .u64 lo (az .u64 64 (ae .u64 x10)))) 4294967296) (ar .u64 (ao .u64 lo (ae .u64 x10)) 32)) (aK .u64 p14 (ao .u64 y (ae .u64 x10)))) (aK .u64 (cc .u64 (az .u64 (ak .u64 (aK .u64 (orI .u64 (ao .u64 hi (ae .u64 x10)) (ar .u64 lo (az .u64 64 (ae .u64 x10)))) 4294967296) (ar .u64 (ao .u64 lo (ae .u64 x10)) 32)) (aK .u64 p14 (ao .u64 y (ae .u64 x10)))) (ar .u64 (ao .u64 y (ae .u64 x10)) 32)) (ar .u64 (ao .u64 y (ae .u64 x10)) 32)))).toNat+1) _ sbQ sbQ ⟨((az .u64 (az .u64 (ak .u64 (aK .u64 (orI .u64 (ao .u64 hi (ae .u64 x10)) (ar .u64 lo (az .u64 64 (ae .u64 x10)))) 4294967296) (ar .u64 (ao .u64 lo (ae .u64 x10)) 32)) (aK .u64 p14 (ao .u64 y (ae .u64 x10)))) (aK .u64 (cc .u64 (az .u64 (ak .u64 (aK .u64 (orI .u64 (ao .u64 hi (ae .u64 x10)) (ar .u64 lo (az .u64 64 (ae .u64 x10)))) 4294967296) (ar .u64 (ao .u64 lo (ae .u64 x10)) 32)) (aK .u64 p14 (ao .u64 y (ae .u64 x10)))) (ar .u64 (ao .u64 y (ae .u64 x10)) 32)) (ar .u64 (ao .u64 y (ae .u64 x10)) 32))),(cc .u64 (az .u64 (ak .u64 (aK .u64 (orI .u64 (ao .u64 hi (ae .u64 x10)) (ar .u64 lo (az .u64 64 (ae .u64 x10)))) 4294967296) (ar .u64 (ao .u64 lo (ae .u64 x10)) 32)) (aK .u64 p14 (ao .u64 y (ae .u64 x10)))) (ar .u64 (ao .u64 y (ae .u64 x10)) 32))),rfl,by (exact BS (JP _ _) (by omega) (by omega)),(Nat.lt_succ_self _),hM⟩ ?_
     clear hM
     rintro n16 S ⟨p16,rfl,hF24_0,hm16,hM⟩
     have hM0:=hM;clear hM;obtain ⟨ag16,hag16,hM⟩:=aI hM0 (by omega) hf16;clear hM0
     replace hm16:=nzQ hm16
     revert hM;revert hF
     refine slQ ?_
     refine cdQ (fun _ _ _=> ?_) (fun _ _ _=> ?_)
     ·refine cdQ (fun _ _ _=> ?_) (fun _ _ _=> ?_)
      ·refine cdQ (fun _ _ _=> ?_) (fun _ _ _=> ?_)
       ·intro hF hM
        exact eV _ sbQ sbQ (hcut15 _ ⟨(az .u64 p16.2 1),rfl,trivial,hM⟩)
       ·intro hF hM
        refine aO (n16 - 1) _ (by omega) sbQ sbQ ⟨((ak .u64 p16.1 (ar .u64 (ao .u64 y (ae .u64 x10)) 32)),(az .u64 p16.2 1)),rfl,by (have h9:=lK (a:=p16.1) (b:=(ar .u64 (ao .u64 y (ae .u64 x10)) 32)) (by omega) (by omega) (by omega) (by omega);omega),by (have h9:=lK (a:=p16.1) (b:=(ar .u64 (ao .u64 y (ae .u64 x10)) 32)) (by omega) (by omega) (by omega) (by omega);omega),aM hM hag16⟩
      ·intro hF hM
       exact eV _ sbQ sbQ (hcut15 _ ⟨p16.2,rfl,trivial,hM⟩)
     ·refine cdQ (fun _ _ _=> ?_) (fun _ _ _=> ?_)
      ·intro hF hM
       exact eV _ sbQ sbQ (hcut15 _ ⟨(az .u64 p16.2 1),rfl,trivial,hM⟩)
      ·intro hF hM
       refine aO (n16 - 1) _ (by omega) sbQ sbQ ⟨((ak .u64 p16.1 (ar .u64 (ao .u64 y (ae .u64 x10)) 32)),(az .u64 p16.2 1)),rfl,by (have h9:=lK (a:=p16.1) (b:=(ar .u64 (ao .u64 y (ae .u64 x10)) 32)) (by omega) (by omega) (by omega) (by omega);omega),by (have h9:=lK (a:=p16.1) (b:=(ar .u64 (ao .u64 y (ae .u64 x10)) 32)) (by omega) (by omega) (by omega) (by omega);omega),aM hM hag16⟩
   ·revert hM;revert hF
    refine slQ ?_
    intro hF hM
    have hM0:=hM;clear hM;obtain ⟨f29,d29,hf29,hd29,hM⟩:=aH hM0;clear hM0
    refine bm (fun n S=> ∃p:Int×Int,S=(⟨[(2,.int .u64 (ao .u64 y (ae .u64 x10))),(8,.int .u64 (ae .u64 x10)),(9,.int .u64 (ar .u64 (ao .u64 y (ae .u64 x10)) 32)),(10,.int .u64 (aX .u64 (ao .u64 y (ae .u64 x10)) 4294967295)),(11,.int .u64 (orI .u64 (ao .u64 hi (ae .u64 x10)) (ar .u64 lo (az .u64 64 (ae .u64 x10))))),(13,.int .u64 (ar .u64 (ao .u64 lo (ae .u64 x10)) 32)),(14,.int .u64 (aX .u64 (ao .u64 lo (ae .u64 x10)) 4294967295)),(15,.int .u64 p.1),(16,.int .u64 p.2)],[],0⟩:St)∧((0≤p.2∧p.2≤4294967295))∧(4294967296 - p.2).toNat<n∧ah n f29 d29 p=r) ((4294967296 - (az .u64 (orI .u64 (ao .u64 hi (ae .u64 x10)) (ar .u64 lo (az .u64 64 (ae .u64 x10)))) (aK .u64 (cc .u64 (orI .u64 (ao .u64 hi (ae .u64 x10)) (ar .u64 lo (az .u64 64 (ae .u64 x10)))) (ar .u64 (ao .u64 y (ae .u64 x10)) 32)) (ar .u64 (ao .u64 y (ae .u64 x10)) 32)))).toNat+1) _ sbQ sbQ ⟨((cc .u64 (orI .u64 (ao .u64 hi (ae .u64 x10)) (ar .u64 lo (az .u64 64 (ae .u64 x10)))) (ar .u64 (ao .u64 y (ae .u64 x10)) 32)),(az .u64 (orI .u64 (ao .u64 hi (ae .u64 x10)) (ar .u64 lo (az .u64 64 (ae .u64 x10)))) (aK .u64 (cc .u64 (orI .u64 (ao .u64 hi (ae .u64 x10)) (ar .u64 lo (az .u64 64 (ae .u64 x10)))) (ar .u64 (ao .u64 y (ae .u64 x10)) 32)) (ar .u64 (ao .u64 y (ae .u64 x10)) 32)))),rfl,by (exact BS (JO _ _) (by omega) (by omega)),(Nat.lt_succ_self _),hM⟩ ?_
    clear hM
    rintro n29 S ⟨p29,rfl,hF17_0,hm29,hM⟩
    have hM0:=hM;clear hM;obtain ⟨ag29,hag29,hM⟩:=aI hM0 (by omega) hf29;clear hM0
    replace hm29:=nzQ hm29
    revert hM;revert hF
    refine slQ ?_
    refine cdQ (fun _ _ _=> ?_) (fun _ _ _=> ?_)
    ·refine cdQ (fun _ _ _=> ?_) (fun _ _ _=> ?_)
     ·refine cdQ (fun _ _ _=> ?_) (fun _ _ _=> ?_)
      ·intro hF hM
       exact eV _ sbQ sbQ (hcut14 _ ⟨(az .u64 p29.1 1),rfl,trivial,hM⟩)
      ·intro hF hM
       refine aO (n29 - 1) _ (by omega) sbQ sbQ ⟨((az .u64 p29.1 1),(ak .u64 p29.2 (ar .u64 (ao .u64 y (ae .u64 x10)) 32))),rfl,by (have h9:=lK (a:=p29.2) (b:=(ar .u64 (ao .u64 y (ae .u64 x10)) 32)) (by omega) (by omega) (by omega) (by omega);omega),by (have h9:=lK (a:=p29.2) (b:=(ar .u64 (ao .u64 y (ae .u64 x10)) 32)) (by omega) (by omega) (by omega) (by omega);omega),aM hM hag29⟩
     ·intro hF hM
      exact eV _ sbQ sbQ (hcut14 _ ⟨p29.1,rfl,trivial,hM⟩)
    ·refine cdQ (fun _ _ _=> ?_) (fun _ _ _=> ?_)
     ·intro hF hM
      exact eV _ sbQ sbQ (hcut14 _ ⟨(az .u64 p29.1 1),rfl,trivial,hM⟩)
     ·intro hF hM
      refine aO (n29 - 1) _ (by omega) sbQ sbQ ⟨((az .u64 p29.1 1),(ak .u64 p29.2 (ar .u64 (ao .u64 y (ae .u64 x10)) 32))),rfl,by (have h9:=lK (a:=p29.2) (b:=(ar .u64 (ao .u64 y (ae .u64 x10)) 32)) (by omega) (by omega) (by omega) (by omega);omega),by (have h9:=lK (a:=p29.2) (b:=(ar .u64 (ao .u64 y (ae .u64 x10)) 32)) (by omega) (by omega) (by omega) (by omega);omega),aM hM hag29⟩
set_option maxHeartbeats 2000000 in
set_option maxRecDepth 100000 in
theorem tI (a_:Int) (b:Int) (n_:Int) (hp0:a_<n_):CM En (gg a_ b n_) 257 [.int .u64 a_,.int .u64 b,.int .u64 n_] (fun y=> .int .u64 y) (fun _=> []):=by
 refine enQ noJ Tryz.func257 Tryz.ntmps257 (gg.eq_1 ..) fun r hw=> ?_
 refine aF fun x1 hx2 _ _=> ?_
 have hq4:=BR n_ hx2 (by omega) (by omega) (by omega) (by omega) (by omega)
 replace hq4:=nzQ hq4
 intro hF hM
 have hM0:=hM;clear hM;obtain ⟨x5,hx6,hM⟩:=aC hM0;clear hM0
 have hcx5:=cmH hx6 (CQ (x1.1) (x1.2) n_ (by (exact pfQ)))
 refine bl hcx5 clQ clQ (fun hw7=> ?_)
 replace hw7:=nzQ hw7
 exact auP
set_option maxHeartbeats 2000000 in
set_option maxRecDepth 100000 in
theorem K2 (a_:Int) (e_:Int) (n_:Int) (hp0:a_<n_) (hp1:1<n_):CM En (pW a_ e_ n_) 256 [.int .u64 a_,.int .u64 e_,.int .u64 n_] (fun y=> .int .u64 y) (fun _=> []):=by
 refine enQ noJ Tryz.func256 Tryz.ntmps256 (pW.eq_1 ..) fun r hw=> ?_
 intro hF hM
 have hM0:=hM;clear hM;obtain ⟨f1,d1,hf1,hd1,hM⟩:=aH hM0;clear hM0
 refine bm (fun n S=> ∃p:Int×Int×Int,S=(⟨[(0,.int .u64 p.1),(1,.int .u64 p.2.1),(2,.int .u64 n_),(7,.int .u64 p.2.2)],[],0⟩:St)∧((0≤p.1)∧(p.1<n_)∧(0≤p.2.1)∧(0≤p.2.2)∧(p.2.2<n_))∧p.2.1.toNat<n∧ah n f1 d1 p=r) (e_.toNat+1) _ sbQ sbQ ⟨(a_,e_,1),rfl,⟨omQ,omQ,omQ,omQ,omQ⟩,(Nat.lt_succ_self _),hM⟩ ?_
 clear hM
 rintro n1 S ⟨p1,rfl,hfa1,hm1,hM⟩
 have hM0:=hM;clear hM;obtain ⟨ag1,hag1,hM⟩:=aI hM0 (by omega) hf1;clear hM0
 replace hfa1:=nzQ hfa1
 replace hm1:=nzQ hm1
 revert hM;revert hF
 refine slQ ?_
 refine ax fun _ _ _=> ?_
 refine cdQ (fun _ _ _=> ?_) (fun _ _ _=> ?_)
 ·intro hF hM
  have hM0:=hM;clear hM;obtain ⟨x6,hx7,hM⟩:=aC hM0;clear hM0
  have hcx6:=cmH hx7 (tI (p1.2.2) (p1.1) n_ (by (exact pfQ)))
  refine bl hcx6 clQ clQ (fun hw8=> ?_)
  replace hw8:=nzQ hw8
  revert hM;revert hF
  refine slQ ?_
  have hq9:=mP hx7 (by omega) (by omega) (by omega) (by omega) (by omega)
  replace hq9:=nzQ hq9
  intro hF hM
  have hM0:=hM;clear hM;obtain ⟨x10,hx11,hM⟩:=aC hM0;clear hM0
  have hcx10:=cmH hx11 (tI (p1.1) (p1.1) n_ (by (exact pfQ)))
  refine bl hcx10 clQ clQ (fun hw12=> ?_)
  replace hw12:=nzQ hw12
  revert hM;revert hF
  refine slQ ?_
  have hq13:=mP hx11 (by omega) (by omega) (by omega) (by omega) (by omega)
  replace hq13:=nzQ hq13
  intro hF hM
  refine aO (n1 - 1) _ (by omega) sbQ sbQ ⟨(x10,(ar .u64 p1.2.1 1),x6),rfl,⟨by (clear hM;(try dsimp only);(try rw [cV]);(try rw [cX]);omega),by (clear hM;(try dsimp only);(try rw [cV]);(try rw [cX]);omega),by (clear hM;(try dsimp only);(try rw [cV]);(try rw [cX]);omega),by (clear hM;(try dsimp only);(try rw [cV]);(try rw [cX]);omega),by (clear hM;(try dsimp only);(try rw [cV]);(try rw [cX]);omega)⟩,by (clear hM;(try dsimp only);(try rw [cV]);(try rw [cX]);omega),aM hM hag1⟩
 ·intro hF hM
  have hM0:=hM;clear hM;obtain ⟨x15,hx16,hM⟩:=aC hM0;clear hM0
  have hcx15:=cmH hx16 (tI (p1.1) (p1.1) n_ (by (exact pfQ)))
  refine bl hcx15 clQ clQ (fun hw17=> ?_)
  replace hw17:=nzQ hw17
  revert hM;revert hF
  refine slQ ?_
  have hq18:=mP hx16 (by omega) (by omega) (by omega) (by omega) (by omega)
  replace hq18:=nzQ hq18
  intro hF hM
  refine aO (n1 - 1) _ (by omega) sbQ sbQ ⟨(x15,(ar .u64 p1.2.1 1),p1.2.2),rfl,⟨by (clear hM;(try dsimp only);(try rw [cV]);(try rw [cX]);omega),by (clear hM;(try dsimp only);(try rw [cV]);(try rw [cX]);omega),by (clear hM;(try dsimp only);(try rw [cV]);(try rw [cX]);omega),by (clear hM;(try dsimp only);(try rw [cV]);(try rw [cX]);omega),by (clear hM;(try dsimp only);(try rw [cV]);(try rw [cX]);omega)⟩,by (clear hM;(try dsimp only);(try rw [cV]);(try rw [cX]);omega),aM hM hag1⟩
set_option maxHeartbeats 2000000 in
set_option maxRecDepth 100000 in
theorem K3 (a_:Int) (n_:Int) (d_:Int) (s:Int) (hp0:a_<n_) (hp1:1<n_) (hp2:0≤s) (hp3:s≤64):CM En (w8 a_ n_ d_ s) 219 [.int .u64 a_,.int .u64 n_,.int .u64 d_,.int .i64 s] (fun y=> .bool y) (fun _=> []):=by
 refine enQ noJ Tryz.func219 Tryz.ntmps219 (w8.eq_1 ..) fun r hw=> ?_
 have h0_0:=J0 (x:=s) (by omega) (by omega)
 intro hF hM
 have hM0:=hM;clear hM;obtain ⟨x1,hx2,hM⟩:=aC hM0;clear hM0
 have hcx1:=cmH hx2 (K2 a_ d_ n_ (by (exact pfQ)) (by (exact pfQ)))
 refine bl hcx1 clQ clQ (fun hw3=> ?_)
 replace hw3:=nzQ hw3
 revert hM;revert hF
 refine slQ ?_
 have hq4:=JQ hx2 (by omega) (by omega) (by omega) (by omega)
 replace hq4:=nzQ hq4
 refine ax fun _ _ _=> ?_
 refine aJ fun _ _ _=> ?_
 intro hF hM
 have hM0:=hM;clear hM;obtain ⟨f10,d10,hf10,hd10,hM⟩:=aH hM0;clear hM0
 refine bm (fun n S=> ∃p:Int×Int,S=(⟨[(1,.int .u64 n_),(9,.int .u64 p.1),(23,.int .i64 (az .i64 s 1)),(24,.int .i64 p.2)],[],0⟩:St)∧((0≤p.2)∧(p.2≤az .i64 s 1∨p.2≤0)∧(0≤p.1)∧(p.1<n_))∧(az .i64 s 1 - p.2).toNat<n∧ah n f10 d10 p=r) ((az .i64 s 1 - 0).toNat+1) _ sbQ sbQ ⟨(x1,0),rfl,⟨omQ,omQ,omQ,omQ⟩,(Nat.lt_succ_self _),hM⟩ ?_
 clear hM
 rintro n10 S ⟨p10,rfl,hfa10,hm10,hM⟩
 have hM0:=hM;clear hM;obtain ⟨ag10,hag10,hM⟩:=aI hM0 (by omega) hf10;clear hM0
 replace hfa10:=nzQ hfa10
 replace hm10:=nzQ hm10
 have ha10:ak .i64 p10.2 1=p10.2+1:=aR omQ omQ
 replace hF:=(And.intro ha10 hF)
 revert hM;revert hF
 refine slQ ?_
 refine ax fun _ _ _=> ?_
 intro hF hM
 have hM0:=hM;clear hM;obtain ⟨x13,hx14,hM⟩:=aC hM0;clear hM0
 have hcx13:=cmH hx14 (tI (p10.1) (p10.1) n_ (by (exact pfQ)))
 refine bl hcx13 (an hF) (an hF) (fun hw15=> ?_)
 replace hw15:=nzQ hw15
 revert hM;revert hF
 refine slQ ?_
 have hq16:=mP hx14 (by omega) (by omega) (by omega) (by omega) (by omega)
 replace hq16:=nzQ hq16
 refine aJ fun _ _ _=> ?_
 intro hF hM
 refine aO (n10 - 1) _ (by omega) sbQ sbQ ⟨(x13,(p10.2+1)),rfl,⟨omQ,omQ,omQ,omQ⟩,omQ,aM hM hag10⟩
set_option maxHeartbeats 2000000 in
set_option maxRecDepth 100000 in
instance P8 (n_:Int):CM En (s6 n_) 180 [.int .i64 n_] (fun y=> .bool y) (fun _=> []):=by
 refine cmQ fun r hM=> ?_
 rw [s6.eq_1] at hM
 refine ef bn cJ noJ Tryz.func180 rfl Tryz.ntmps180 (by kernel_rfl) fun hw=>cO ?_
 refine spQ ?_
 replace hw:=nzQ hw
 have h0_0:=JS
 refine bR (fun h1=> ?_) (fun h1=> ?_)
 ·rw [if_pos h1] at hM
  refine aq h1 ?_
  have nh1:=nzQ h1
  try have hr2:=mpQ nh1
  subst hM
  exact cI (cK h1)
 ·rw [if_neg (bH h1)] at hM
  refine aq h1 ?_
  have nh1:=nzQ h1
  try have hr3:=mpQ nh1
  have hM0:=hM;clear hM;obtain ⟨f4,d4,hf4,hd4,hM⟩:=aH hM0;clear hM0
  refine bm (fun n S=> ∃p:Int,S=(⟨[(3,.int .u64 (ae .u64 n_)),(13,.agg (da.map (V.int .u64))),(14,.int .i64 p)],[],0⟩:St)∧(((0≤p)∧(p≤12))∧(qq (ae .u64 n_) p))∧((12:Int) - p).toNat<n∧ah n f4 d4 p=r) (((12:Int) - 0).toNat+1) _ sbQ sbQ ⟨0,rfl,⟨⟨by (first|exact omQ|(clear hM;first|(have hk:=cY (j:=p4) (by omega) (by omega);exact ap))),by (first|exact omQ|(clear hM;first|(have hk:=cY (j:=p4) (by omega) (by omega);exact ap)))⟩,by (exact JU)⟩,(Nat.lt_succ_self _),hM⟩ ?_
  clear hM
  rintro n4 S ⟨p4,rfl,⟨hfa4,hF5_0⟩,hm4,hM⟩
  have hM0:=hM;clear hM;obtain ⟨ag4,hag4,hM⟩:=aI hM0 (by omega) hf4;clear hM0
  replace hfa4:=nzQ hfa4
  replace hm4:=nzQ hm4
  have ha4:ak .i64 p4 1=p4+1:=aR (by (first|exact omQ|(clear hM;first|(have hk:=cY (j:=p4) (by omega) (by omega);exact ap)))) (by (first|exact omQ|(clear hM;first|(have hk:=cY (j:=p4) (by omega) (by omega);exact ap))))
  refine aq ha4 ?_
  refine bR (fun h5=> ?_) (fun h5=> ?_)
  ·rw [if_pos h5] at hM
   refine aq (And.intro ha4 h5) ?_
   have nh5:=nzQ h5
   try have hr6:=mpQ nh5
   have he7:=pP (f:=V.int .u64) (l:=da) (n:=12) (i:=p4) rfl (by (first|exact omQ|(clear hM;first|(have hk:=cY (j:=p4) (by omega) (by omega);exact ap))))
   replace he7:=spR he7
   refine aq (And.intro ha4 he7) ?_
   refine bM (by (first|exact omQ|(clear hM;first|(have hk:=cY (j:=p4) (by omega) (by omega);exact ap)))) ?_
   refine aq (And.intro ha4 he7) ?_
   refine bM (by (first|exact omQ|(clear hM;first|(have hk:=cY (j:=p4) (by omega) (by omega);exact ap)))) ?_
   refine aq (And.intro ha4 he7) ?_
   refine bR (fun h8=> ?_) (fun h8=> ?_)
   ·rw [if_pos h8] at hM
    refine aq (And.intro ha4 (And.intro he7 h8)) ?_
    have nh8:=nzQ h8
    try have hr9:=mpQ nh8
    subst hM
    exact cI (cK (And.intro ha4 (And.intro he7 (And.intro h1 (And.intro h5 h8)))))
   ·rw [if_neg (bH h8)] at hM
    refine aq (And.intro ha4 (And.intro he7 h8)) ?_
    have nh8:=nzQ h8
    try have hr10:=mpQ nh8
    refine aO (n4 - 1) _ (by omega) sbQ sbQ ⟨(p4+1),rfl,⟨⟨by (first|exact omQ|(clear hM;first|(have hk:=cY (j:=(p4+1)) (by omega) (by omega);exact ap))),by (first|exact omQ|(clear hM;first|(have hk:=cY (j:=(p4+1)) (by omega) (by omega);exact ap)))⟩,by (clear hM;exact JV hF5_0 (nD _) (by omega) (by omega) (by assumption))⟩,by (first|exact omQ|(clear hM;first|(have hk:=cY (j:=(p4+1)) (by omega) (by omega);exact ap))),aM hM hag4⟩
  ·rw [if_neg (bH h5)] at hM
   refine aq (And.intro ha4 h5) ?_
   have nh5:=nzQ h5
   try have hr11:=mpQ nh5
   have hM0:=hM;clear hM;obtain ⟨x12,hx13,hM⟩:=aC hM0;clear hM0
   have hcx12:=cmU hx13
   refine bl hcx12 (an ha4) (an ha4) (fun hw14=> ?_)
   replace hw14:=nzQ hw14
   refine aq ha4 ?_
   have hq15:=JZ hx13
   replace hq15:=nzQ hq15
   have hM0:=hM;clear hM;obtain ⟨f16,d16,hf16,hd16,hM⟩:=aH hM0;clear hM0
   refine bm (fun n S=> ∃p:Int,S=(⟨[(3,.int .u64 (ae .u64 n_)),(6,.int .i64 x12),(28,.agg (da.map (V.int .u64))),(29,.int .i64 p)],[],0⟩:St)∧(((0≤p)∧(p≤12))∧(37<ae .u64 n_))∧((12:Int) - p).toNat<n∧ah n f16 d16 p=r) (((12:Int) - 0).toNat+1) _ sbQ sbQ ⟨0,rfl,⟨⟨by (first|exact omQ|(clear hM;first|(have hk:=cY (j:=p16) (by omega) (by omega);exact ap))),by (first|exact omQ|(clear hM;first|(have hk:=cY (j:=p16) (by omega) (by omega);exact ap)))⟩,by (clear hM;exact JX hF5_0 (by omega) (by rw [tn (by omega) (by omega)];omega))⟩,(Nat.lt_succ_self _),hM⟩ ?_
   clear hM
   rintro n16 S ⟨p16,rfl,⟨hfa16,hF12_0⟩,hm16,hM⟩
   have hM0:=hM;clear hM;obtain ⟨ag16,hag16,hM⟩:=aI hM0 (by omega) hf16;clear hM0
   replace hfa16:=nzQ hfa16
   replace hm16:=nzQ hm16
   have ha16:ak .i64 p16 1=p16+1:=aR (by (first|exact omQ|(clear hM;first|(have hk:=cY (j:=p16) (by omega) (by omega);exact ap)))) (by (first|exact omQ|(clear hM;first|(have hk:=cY (j:=p16) (by omega) (by omega);exact ap))))
   refine aq (And.intro ha4 ha16) ?_
   refine bR (fun h17=> ?_) (fun h17=> ?_)
   ·rw [if_pos h17] at hM
    refine aq (And.intro ha4 (And.intro ha16 h17)) ?_
    have nh17:=nzQ h17
    try have hr18:=mpQ nh17
    have he19:=pP (f:=V.int .u64) (l:=da) (n:=12) (i:=p16) rfl (by (first|exact omQ|(clear hM;first|(have hk:=cY (j:=p16) (by omega) (by omega);exact ap))))
    replace he19:=spR he19
    refine aq (And.intro ha4 (And.intro ha16 he19)) ?_
    refine bM (by (first|exact omQ|(clear hM;first|(have hk:=cY (j:=p16) (by omega) (by omega);exact ap)))) ?_
    refine aq (And.intro ha4 (And.intro ha16 he19)) ?_
    refine bM (by (first|exact omQ|(clear hM;first|(have hk:=cY (j:=p16) (by omega) (by omega);exact ap)))) ?_
    refine aq (And.intro ha4 (And.intro ha16 he19)) ?_
    have hM0:=hM;clear hM;obtain ⟨x20,hx21,hM⟩:=aC hM0;clear hM0
    have hcx20:=cmH hx21 (K3 (gt da p16) (ae .u64 n_) (ar .u64 (az .u64 (ae .u64 n_) 1) x12) x12 (by (first|omega|(have hk:=cY (j:=p16) (by omega) (by omega);omega))) (by (first|omega|(have hk:=cY (j:=p16) (by omega) (by omega);omega))) (by (first|omega|(have hk:=cY (j:=p16) (by omega) (by omega);omega))) (by (first|omega|(have hk:=cY (j:=p16) (by omega) (by omega);omega))))
    refine bl hcx20 (an (And.intro ha4 (And.intro ha16 he19))) (an (And.intro ha4 (And.intro ha16 he19))) (fun hw22=> ?_)
    replace hw22:=nzQ hw22
    refine aq (And.intro ha4 (And.intro ha16 he19)) ?_
    refine bR (fun h23=> ?_) (fun h23=> ?_)
    ·subst h23
     rw [if_pos rfl] at hM
     refine aq (And.intro ha4 (And.intro ha16 he19)) ?_
     subst hM
     exact cI (cK (And.intro ha4 (And.intro ha16 (And.intro he19 (And.intro h1 (And.intro h5 h17))))))
    ·subst h23
     rw [if_neg (by decide)] at hM
     refine aq (And.intro ha4 (And.intro ha16 he19)) ?_
     refine aO (n16 - 1) _ (by omega) sbQ sbQ ⟨(p16+1),rfl,⟨⟨by (first|exact omQ|(clear hM;first|(have hk:=cY (j:=(p16+1)) (by omega) (by omega);exact ap))),by (first|exact omQ|(clear hM;first|(have hk:=cY (j:=(p16+1)) (by omega) (by omega);exact ap)))⟩,by (clear hM;exact hF12_0)⟩,by (first|exact omQ|(clear hM;first|(have hk:=cY (j:=(p16+1)) (by omega) (by omega);exact ap))),aM hM hag16⟩
   ·rw [if_neg (bH h17)] at hM
    refine aq (And.intro ha4 (And.intro ha16 h17)) ?_
    have nh17:=nzQ h17
    try have hr24:=mpQ nh17
    subst hM
    exact cI (cK (And.intro ha4 (And.intro ha16 (And.intro h1 (And.intro h5 h17)))))
set_option maxHeartbeats 2000000 in
set_option maxRecDepth 100000 in
instance P9 (a_:Int) (m:Int):CM En (pX a_ m) 258 [.int .i64 a_,.int .i64 m] (fun y=> .bool y) (fun _=> []):=by
 refine enQ noJ Tryz.func258 Tryz.ntmps258 (pX.eq_1 ..) fun r hw=> ?_
 exact auR
set_option maxHeartbeats 2000000 in
set_option maxRecDepth 100000 in
instance P_ (a_:Int) (b:Int) (m:Int):CM En (ln a_ b m) 220 [.int .i64 a_,.int .i64 b,.int .i64 m] (fun y=> .int .i64 y) (fun _=> []):=by
 refine enQ noJ Tryz.func220 Tryz.ntmps220 (ln.eq_1 ..) fun r hw=> ?_
 exact auR
set_option maxHeartbeats 2000000 in
set_option maxRecDepth 100000 in
theorem tJ (a_:Int) (b:Int) (m:Int) (hp0:0≤a_) (hp1:a_<m) (hp2:0≤b):CM En (j_ a_ b m) 221 [.int .i64 a_,.int .i64 b,.int .i64 m] (fun y=> .int .i64 y) (fun _=> []):=by
 refine enQ noJ Tryz.func221 Tryz.ntmps221 (j_.eq_1 ..) fun r hw=> ?_
 have h0_0:=tn (x:=a_) (by omega) (by omega)
 have h0_1:=tn (x:=b) (by omega) (by omega)
 have h0_2:=tn (x:=m) (by omega) (by omega)
 refine aF fun x1 hx2 _ _=> ?_
 have hq4:=BR (ae .u64 m) hx2 (by omega) (by omega) (by omega) (by omega) (by omega)
 replace hq4:=nzQ hq4
 intro hF hM
 have hM0:=hM;clear hM;obtain ⟨x5,hx6,hM⟩:=aC hM0;clear hM0
 have hcx5:=cmH hx6 (CQ (x1.1) (x1.2) (ae .u64 m) (by (exact pfQ)))
 refine bl hcx5 clQ clQ (fun hw7=> ?_)
 replace hw7:=nzQ hw7
 exact auP
set_option maxHeartbeats 2000000 in
set_option maxRecDepth 100000 in
instance Qa (a_:Int) (e_:Int) (m:Int):CM En (pY a_ e_ m) 181 [.int .i64 a_,.int .i64 e_,.int .i64 m] (fun y=> .tup [.int .i64 y.1,.int .i64 y.2]) (fun _=> []):=by
 refine enQ noJ Tryz.func181 Tryz.ntmps181 (pY.eq_1 ..) fun r hw=> ?_
 have hA0:=fun a0=>J1 (m:=m) a0
 refine aF fun _ _ _ _=> ?_
 refine aJ fun _ _ _=> ?_
 refine aJ fun _ _ _=> ?_
 intro hF hM
 have hM0:=hM;clear hM;obtain ⟨f11,d11,hf11,hd11,hM⟩:=aH hM0;clear hM0
 refine bm (fun n S=> ∃p:Int×Int×Int,S=(⟨[(0,.int .i64 p.1),(1,.int .i64 p.2.1),(2,.int .i64 m),(9,.int .i64 p.2.2)],[],0⟩:St)∧((0≤p.1)∧(p.1<m)∧(0≤p.2.1)∧(0≤p.2.2)∧(p.2.2<m))∧p.2.1.toNat<n∧ah n f11 d11 p=r) (e_.toNat+1) _ sbQ sbQ ⟨(a_,e_,(bJ .i64 1 m)),rfl,⟨by exact omA,by exact omA,by exact omA,by exact omA,by exact omA⟩,(Nat.lt_succ_self _),hM⟩ ?_
 clear hM
 rintro n11 S ⟨p11,rfl,hfa11,hm11,hM⟩
 have hM0:=hM;clear hM;obtain ⟨ag11,hag11,hM⟩:=aI hM0 (by omega) hf11;clear hM0
 replace hfa11:=nzQ hfa11
 replace hm11:=nzQ hm11
 revert hM;revert hF
 refine slQ ?_
 refine ax fun _ _ _=> ?_
 refine cdQ (fun _ _ _=> ?_) (fun _ _ _=> ?_)
 ·intro hF hM
  have hM0:=hM;clear hM;obtain ⟨x16,hx17,hM⟩:=aC hM0;clear hM0
  have hcx16:=cmH hx17 (tJ (p11.2.2) (p11.1) m (by (exact pfQ)) (by (exact pfQ)) (by (exact pfQ)))
  refine bl hcx16 clQ clQ (fun hw18=> ?_)
  replace hw18:=nzQ hw18
  revert hM;revert hF
  refine slQ ?_
  have hq19:=xl hx17 (by omega) (by omega) (by omega) (by omega) (by omega)
  replace hq19:=nzQ hq19
  intro hF hM
  have hM0:=hM;clear hM;obtain ⟨x20,hx21,hM⟩:=aC hM0;clear hM0
  have hcx20:=cmH hx21 (tJ (p11.1) (p11.1) m (by (exact pfQ)) (by (exact pfQ)) (by (exact pfQ)))
  refine bl hcx20 clQ clQ (fun hw22=> ?_)
  replace hw22:=nzQ hw22
  revert hM;revert hF
  refine slQ ?_
  have hq23:=xl hx21 (by omega) (by omega) (by omega) (by omega) (by omega)
  replace hq23:=nzQ hq23
  intro hF hM
  refine aO (n11 - 1) _ (by omega) sbQ sbQ ⟨(x20,(ar .i64 p11.2.1 1),x16),rfl,⟨by (clear hM;(try dsimp only);(try rw [cV]);(try rw [cX]);omega),by (clear hM;(try dsimp only);(try rw [cV]);(try rw [cX]);omega),by (clear hM;(try dsimp only);(try rw [cV]);(try rw [cX]);omega),by (clear hM;(try dsimp only);(try rw [cV]);(try rw [cX]);omega),by (clear hM;(try dsimp only);(try rw [cV]);(try rw [cX]);omega)⟩,by (clear hM;(try dsimp only);(try rw [cV]);(try rw [cX]);omega),aM hM hag11⟩
 ·intro hF hM
  have hM0:=hM;clear hM;obtain ⟨x25,hx26,hM⟩:=aC hM0;clear hM0
  have hcx25:=cmH hx26 (tJ (p11.1) (p11.1) m (by (exact pfQ)) (by (exact pfQ)) (by (exact pfQ)))
  refine bl hcx25 clQ clQ (fun hw27=> ?_)
  replace hw27:=nzQ hw27
  revert hM;revert hF
  refine slQ ?_
  have hq28:=xl hx26 (by omega) (by omega) (by omega) (by omega) (by omega)
  replace hq28:=nzQ hq28
  intro hF hM
  refine aO (n11 - 1) _ (by omega) sbQ sbQ ⟨(x25,(ar .i64 p11.2.1 1),p11.2.2),rfl,⟨by (clear hM;(try dsimp only);(try rw [cV]);(try rw [cX]);omega),by (clear hM;(try dsimp only);(try rw [cV]);(try rw [cX]);omega),by (clear hM;(try dsimp only);(try rw [cV]);(try rw [cX]);omega),by (clear hM;(try dsimp only);(try rw [cV]);(try rw [cX]);omega),by (clear hM;(try dsimp only);(try rw [cV]);(try rw [cX]);omega)⟩,by (clear hM;(try dsimp only);(try rw [cV]);(try rw [cX]);omega),aM hM hag11⟩
set_option maxHeartbeats 2000000 in
set_option maxRecDepth 100000 in
instance Qb (g:en):CM En (pZ g) 125 [.agg [.int .i64 g.P,.int .i64 g.Q,.int .i64 g.G]] (fun y=> .bool y) (fun _=> []):=by
 refine enQ noJ Tryz.func125 Tryz.ntmps125 (pZ.eq_1 ..) fun r hw=> ?_
 exact auR
set_option maxHeartbeats 2000000 in
set_option maxRecDepth 100000 in
instance Qc (g:en) (x_:Int):CM En (s7 g x_) 194 [.agg [.int .i64 g.P,.int .i64 g.Q,.int .i64 g.G],.int .i64 x_] (fun y=> .bool y) (fun _=> []):=by
 refine enQ noJ Tryz.func194 Tryz.ntmps194 (s7.eq_1 ..) fun r hw=> ?_
 exact auR
set_option maxHeartbeats 2000000 in
set_option maxRecDepth 100000 in
instance Qd (g:en) (x_:Int):CM En (s8 g x_) 145 [.agg [.int .i64 g.P,.int .i64 g.Q,.int .i64 g.G],.int .i64 x_] (fun y=> .bool y) (fun _=> []):=by
 refine enQ noJ Tryz.func145 Tryz.ntmps145 (s8.eq_1 ..) fun r hw=> ?_
 exact auR
set_option maxHeartbeats 2000000 in
set_option maxRecDepth 100000 in
instance Qe (b:eH):CM En (qa b) 84 [(jX b)] (fun y=> .bool y) (fun _=> []):=by
 refine enQ noJ Tryz.func84 Tryz.ntmps84 (qa.eq_1 ..) fun r hw=> ?_
 refine aF fun _ _ _ _=> ?_
 refine aJ fun _ _ _=> ?_
 intro hF hM
 have hM0:=hM;clear hM;obtain ⟨f7,d7,hf7,hd7,hM⟩:=aH hM0;clear hM0
 refine bm (fun n S=> ∃p:Int,S=(⟨[(1,.ptr 0 0),(15,.own 1),(16,.int .i64 (3:Int)),(17,.int .i64 p)],[(0,.var 6 true ((jX b))),(1,.own 3 1 false (some false) (([b.G1,b.G2,b.H]:List Int).map (V.int .i64)))],2⟩:St)∧((0≤p)∧(p≤(3:Int)))∧((3:Int) - p).toNat<n∧ah n f7 d7 p=r) (((3:Int) - 0).toNat+1) _ sbQ sbQ ⟨0,rfl,⟨omQ,omQ⟩,(Nat.lt_succ_self _),hM⟩ ?_
 clear hM
 rintro n7 S ⟨p7,rfl,hfa7,hm7,hM⟩
 have hM0:=hM;clear hM;obtain ⟨ag7,hag7,hM⟩:=aI hM0 (by omega) hf7;clear hM0
 replace hfa7:=nzQ hfa7
 replace hm7:=nzQ hm7
 have ha7:ak .i64 p7 1=p7+1:=aR omQ omQ
 replace hF:=(And.intro ha7 hF)
 revert hM;revert hF
 refine slQ ?_
 refine ax fun _ _ _=> ?_
 refine ax fun _ _ _=> ?_
 refine aF fun _ _ _ _=> ?_
 refine aJ fun _ _ _=> ?_
 intro hF hM
 refine aO (n7 - 1) _ (by omega) sbQ sbQ ⟨(p7+1),rfl,⟨omQ,omQ⟩,omQ,aM hM hag7⟩
set_option maxHeartbeats 2000000 in
set_option maxRecDepth 100000 in
instance Qf (g:en) (l:(List Int)):CM En (s_ g l) 195 [.agg [.int .i64 g.P,.int .i64 g.Q,.int .i64 g.G],.sl none 1 false (l.map (V.int .i64))] (fun y=> .int .i64 y) (fun _=> []):=by
 refine enQ noJ Tryz.func195 Tryz.ntmps195 (s_.eq_1 ..) fun r hw=> ?_
 refine aF fun _ _ _ _=> ?_
 refine aJ fun _ _ _=> ?_
 intro hF hM
 have hM0:=hM;clear hM;obtain ⟨f7,d7,hf7,hd7,hM⟩:=aH hM0;clear hM0
 refine bm (fun n S=> ∃p:Int,S=(⟨[(2,.ptr 0 0),(10,.sl none 1 false (l.map (V.int .i64))),(11,.int .i64 (l.length:Int)),(12,.int .i64 p)],[(0,.var 3 true (.agg [.int .i64 g.P,.int .i64 g.Q,.int .i64 g.G]))],1⟩:St)∧((0≤p)∧(p≤(l.length:Int)))∧((l.length:Int) - p).toNat<n∧ah n f7 d7 p=r) (((l.length:Int) - 0).toNat+1) _ sbQ sbQ ⟨0,rfl,⟨omQ,omQ⟩,(Nat.lt_succ_self _),hM⟩ ?_
 clear hM
 rintro n7 S ⟨p7,rfl,hfa7,hm7,hM⟩
 have hM0:=hM;clear hM;obtain ⟨ag7,hag7,hM⟩:=aI hM0 (by omega) hf7;clear hM0
 replace hfa7:=nzQ hfa7
 replace hm7:=nzQ hm7
 have ha7:ak .i64 p7 1=p7+1:=aR omQ omQ
 replace hF:=(And.intro ha7 hF)
 revert hM;revert hF
 refine slQ ?_
 refine ax fun _ _ _=> ?_
 refine aF fun _ _ _ _=> ?_
 refine aJ fun _ _ _=> ?_
 intro hF hM
 refine aO (n7 - 1) _ (by omega) sbQ sbQ ⟨(p7+1),rfl,⟨omQ,omQ⟩,omQ,aM hM hag7⟩
set_option maxHeartbeats 2000000 in
set_option maxRecDepth 100000 in
instance Qg (a_:Int) (m:Int):CM En (w9 a_ m) 196 [.int .i64 a_,.int .i64 m] (fun y=> .tup [.int .i64 y.1,.int .i64 y.2]) (fun _=> []):=by
 refine enQ noJ Tryz.func196 Tryz.ntmps196 (w9.eq_1 ..) fun r hw=> ?_
 exact auR
set_option maxHeartbeats 2000000 in
set_option maxRecDepth 100000 in
instance Qh (g:en) (a_:Int) (e_:Int):CM En (xa g a_ e_) 146 [.agg [.int .i64 g.P,.int .i64 g.Q,.int .i64 g.G],.int .i64 a_,.int .i64 e_] (fun y=> .tup [.int .i64 y.1,.int .i64 y.2]) (fun _=> []):=by
 refine enQ noJ Tryz.func146 Tryz.ntmps146 (xa.eq_1 ..) fun r hw=> ?_
 exact auR
set_option maxHeartbeats 2000000 in
set_option maxRecDepth 100000 in
instance Qi (a_:Int) (b:Int) (m:Int):CM En (xb a_ b m) 232 [.int .i64 a_,.int .i64 b,.int .i64 m] (fun y=> .tup [.int .i64 y.1,.int .i64 y.2]) (fun _=> []):=by
 refine enQ noJ Tryz.func232 Tryz.ntmps232 (xb.eq_1 ..) fun r hw=> ?_
 refine aF fun _ _ _ _=> ?_
 refine aJ fun _ _ _=> ?_
 intro hF hM
 have hM0:=hM;clear hM;obtain ⟨x8,hx9,hM⟩:=aC hM0;clear hM0
 have hcx8:=cmH hx9 (tJ a_ b m (by (exact pfQ)) (by (exact pfQ)) (by (exact pfQ)))
 refine bl hcx8 clQ clQ (fun hw10=> ?_)
 replace hw10:=nzQ hw10
 exact auP
set_option maxHeartbeats 2000000 in
set_option maxRecDepth 100000 in
instance Qj (g:en) (a_:Int) (b:Int):CM En (xc g a_ b) 197 [.agg [.int .i64 g.P,.int .i64 g.Q,.int .i64 g.G],.int .i64 a_,.int .i64 b] (fun y=> .tup [.int .i64 y.1,.int .i64 y.2]) (fun _=> []):=by
 refine enQ noJ Tryz.func197 Tryz.ntmps197 (xc.eq_1 ..) fun r hw=> ?_
 exact auR
set_option maxHeartbeats 2000000 in
set_option maxRecDepth 100000 in
instance Qk (b:eH) (key:Int):CM En (xd b key) 147 [(jX b),.int .i64 key] (fun y=> .tup [.int .i64 y.1,.int .i64 y.2]) (fun _=> []):=by
 refine enQ noJ Tryz.func147 Tryz.ntmps147 (xd.eq_1 ..) fun r hw=> ?_
 exact auR
set_option maxHeartbeats 2000000 in
set_option maxRecDepth 100000 in
instance Ql (b:eH) (u:Int):CM En (tc b u) 85 [(jX b),.int .i64 u] (fun y=> .tup [.int .i64 y.1,.int .i64 y.2]) (fun _=> []):=by
 refine enQ noJ Tryz.func85 Tryz.ntmps85 (tc.eq_1 ..) fun r hw=> ?_
 exact auR
set_option maxRecDepth 100000 in
theorem xP (z0:Option Bool) (s:List Int):a8 En 167 [.sl z0 1 false (s.map (V.int .u8))] (.own 0) [.own 5 1 false none ((mH s).map (V.int .u8))]:=by
 show a8 En 167 [.sl z0 1 false (s.map (V.int .u8))] (.own 0) [.own 5 1 false none (s.map (V.int .u8))]
 refine AQ (pre:=[]) (post:=[]) (fun hl=> ?_) ?_ z0
 ·have hl:s=[]:=by cases s with|nil=>rfl|cons a s=>cases hl
  subst hl
  refine ef bn cJ noJ Tryz.func167 rfl Tryz.ntmps167 (by kernel_rfl) fun hw=>cO ?_
  simp only [go_sem,eZ,fb,List.length_replicate,dl,Int.toNat_natCast,↓reduceIte,Nat.reduceEqDiff,Nat.reduceAdd,Int.reduceAdd,Nat.reduceMul,Nat.reduceLeDiff,Nat.reduceLT,Int.reduceLE,Int.reduceLT,Int.reduceNeg,Int.reduceToNat,List.nil_append]
  exact AP (by decide)
 ·refine ef bn cJ noJ Tryz.func167 rfl Tryz.ntmps167 (by kernel_rfl) fun hw=>cO ?_
  simp only [go_sem,eZ,fb,List.length_replicate,dl,Int.toNat_natCast,↓reduceIte,Nat.reduceEqDiff,Nat.reduceAdd,Int.reduceAdd,Nat.reduceMul,Nat.reduceLeDiff,Nat.reduceLT,Int.reduceLE,Int.reduceLT,Int.reduceNeg,Int.reduceToNat,List.nil_append]
  have hn:s.length≤1073741824:=by have h:=hw;simp only [wfL,wfV,List.nil_append,io,List.length_map] at h;exact h.1.1
  refine bM (by first|omega|(simp only [List.length_map,List.length_nil,List.nil_append];omega)) ?_
  refine spQ ?_
  refine AO 0 rfl clQ
set_option maxHeartbeats 2000000 in
set_option maxRecDepth 100000 in
instance Qm (n_:Int):CM En (mI n_) 174 [.int .u64 n_] (fun y=> .sl none 1 false (y.map (V.int .u8))) (fun _=> []):=by
 refine enQ noJ Tryz.func174 Tryz.ntmps174 (mI.eq_1 ..) fun r hw=> ?_
 intro hF hM
 have hM0:=hM;clear hM;obtain ⟨f1,d1,hf1,hd1,hM⟩:=aH hM0;clear hM0
 refine bm (fun n S=> ∃p:Int×List Int,S=(⟨[(0,.int .u64 n_),(3,.own 0),(7,.int .i64 (8:Int)),(8,.int .i64 p.1)],[(0,.own 5 1 false none (p.2.map (V.int .u8)))],1⟩:St)∧((0≤p.1)∧(p.1≤(8:Int))∧((p.2).length=(([(0:Int),(0:Int),(0:Int),(0:Int),(0:Int),(0:Int),(0:Int),(0:Int)]:List Int)).length))∧((8:Int) - p.1).toNat<n∧ah n f1 d1 p=r) (((8:Int) - 0).toNat+1) _ sbQ sbQ ⟨(0,([(0:Int),(0:Int),(0:Int),(0:Int),(0:Int),(0:Int),(0:Int),(0:Int)]:List Int)),rfl,⟨omQ,omQ,omQ⟩,(Nat.lt_succ_self _),hM⟩ ?_
 clear hM
 rintro n1 S ⟨p1,rfl,hfa1,hm1,hM⟩
 have hM0:=hM;clear hM;obtain ⟨ag1,hag1,hM⟩:=aI hM0 (by omega) hf1;clear hM0
 replace hfa1:=nzQ hfa1
 replace hm1:=nzQ hm1
 have ha1:ak .i64 p1.1 1=p1.1+1:=aR omQ omQ
 replace hF:=(And.intro ha1 hF)
 revert hM;revert hF
 refine slQ ?_
 refine ax fun _ _ _=> ?_
 obtain ⟨ha4,hbha4⟩:=kU (a:=8) (b:=p1.1) 8 8 64 ap ap ap ap (by decide) (by decide)
 intro hF hM
 try simp only [ha4]
 have ha5:az .i64 56 (8*p1.1)=(56 - (8*p1.1)):=cE omQ omQ
 try simp only [ha5]
 replace hF:=(And.intro ha4 (And.intro ha5 hF))
 revert hM;revert hF
 refine slQ ?_
 intro hF hM
 refine aO (n1 - 1) _ (by omega) sbQ sbQ ⟨((p1.1+1),(st p1.2 p1.1 (ae .u8 (ar .u64 n_ (56 - (8*p1.1)))))),rfl,⟨omQ,omQ,omQ⟩,omQ,aM hM hag1⟩
set_option maxHeartbeats 2000000 in
set_option maxRecDepth 100000 in
instance Qn (x_:Int) (k_:Int):CM En (td x_ k_) 255 [.int .u32 x_,.int .i64 k_] (fun y=> .int .u32 y) (fun _=> []):=by
 refine enQ noJ Tryz.func255 Tryz.ntmps255 (td.eq_1 ..) fun r hw=> ?_
 intro hF hM
 try refine bM (by (exact (yN .u64 _ _).1)) ?_
 revert hM;revert hF
 refine slQ ?_
 intro hF hM
 try refine bM (by (exact (oS .u64 _ _).1)) ?_
 exact auP
set_option maxHeartbeats 2000000 in
set_option maxRecDepth 100000 in
instance Qo (x_:Int) (n_:Int):CM En (fM x_ n_) 216 [.int .u32 x_,.int .i64 n_] (fun y=> .int .u32 y) (fun _=> []):=by
 refine enQ noJ Tryz.func216 Tryz.ntmps216 (fM.eq_1 ..) fun r hw=> ?_
 exact auR
instance (priority:=1002):DRD 14 82 9 [8,42,43,44,45,46,47,48,49] [] ([[],[0],[0,1],[0,1,2],[],[4],[4,5],[4,5,6],[0,1,2,3]]++[List.range 9]) []:=⟨trivial⟩
instance (priority:=1003):DRD 17 82 14 [66,67,68,69,70,71,72,73,74,75,76,77,78,79] [] ([[],[],[1],[1,2],[1,2,3],[],[1,2,3,4,5],[],[7],[7,8],[7,8,9],[1,2,3,4,5,6,7,8,9,10],[],[1,2,3,4,5,6,7,8,9,10,11,12]]++[List.range 14,List.range 15]) []:=⟨trivial⟩
set_option maxHeartbeats 2000000 in
set_option maxRecDepth 100000 in
theorem K6 (block:(List Int)) (hp0:block.length=64):CM En (lq block) 215 [.sl none 1 false (block.map (V.int .u8))] (fun y=>(nY y)) (fun _=> []):=by
 refine enQ noJ Tryz.func215 Tryz.ntmps215 (lq.eq_1 ..) fun r hw=> ?_
 intro hF hM
 have hM0:=hM;clear hM;obtain ⟨f1,d1,hf1,hd1,hM⟩:=aH hM0;clear hM0
 refine bm (fun n S=> ∃p:Int×(List Int),S=(⟨[(0,.sl none 1 false (block.map (V.int .u8))),(2,.ptr 0 0),(3,.ptr 1 0),(12,.int .i64 p.1)],[(0,.var 64 true (sL)),(1,.var 64 true ((nY p.2)))],2⟩:St)∧((0≤p.1)∧(p.1≤16))∧((16:Int) - p.1).toNat<n∧ah n f1 d1 p=r) (((16:Int) - 0).toNat+1) _ sbQ sbG ⟨(0,[0,0,0,0,0,0,0,0,0,0,0,0,0,0,0,0,0,0,0,0,0,0,0,0,0,0,0,0,0,0,0,0,0,0,0,0,0,0,0,0,0,0,0,0,0,0,0,0,0,0,0,0,0,0,0,0,0,0,0,0,0,0,0,0]),rfl,⟨omQ,omQ⟩,(Nat.lt_succ_self _),hM⟩ ?_
 clear hM
 rintro n1 S ⟨p1,rfl,hfa1,hm1,hM⟩
 have hM0:=hM;clear hM;obtain ⟨ag1,hag1,hM⟩:=aI hM0 (by omega) hf1;clear hM0
 replace hfa1:=nzQ hfa1
 replace hm1:=nzQ hm1
 have ha1:ak .i64 p1.1 1=p1.1+1:=aR omQ omQ
 replace hF:=(And.intro ha1 hF)
 revert hM;revert hF
 refine slQ ?_
 refine cdQ (fun _ _ _=> ?_) (fun _ _ _=> ?_)
 ·obtain ⟨ha4,hbha4⟩:=kU (a:=4) (b:=p1.1) 4 16 64 ap ap ap ap (by decide) (by decide)
  intro hF hM
  try simp only [ha4]
  have ha6:ak .i64 (4*p1.1) 4=((4*p1.1)+4):=eY omQ omQ
  try simp only [ha6]
  replace hF:=(And.intro ha4 (And.intro ha6 hF))
  revert hM;revert hF
  refine slQ ?_
  intro hF hM
  have hM0:=hM;clear hM;obtain ⟨f7,d7,hf7,hd7,hM⟩:=aH hM0;clear hM0
  refine bm (fun n S=> ∃p:Int×(List Int),S=(⟨[(0,.sl none 1 false (block.map (V.int .u8))),(2,.ptr 0 0),(3,.ptr 1 0),(4,.int .i64 p1.1),(12,.int .i64 p1.1),(21,.sl none 1 false ((sl block (4*p1.1) ((4*p1.1)+4)).map (V.int .u8))),(22,.int .i64 ((sl block (4*p1.1) ((4*p1.1)+4)).length:Int)),(23,.int .i64 p.1)],[(0,.var 64 true (sL)),(1,.var 64 true ((nY p.2)))],2⟩:St)∧((0≤p.1)∧(p.1≤((sl block (4*p1.1) ((4*p1.1)+4)).length:Int)))∧(((sl block (4*p1.1) ((4*p1.1)+4)).length:Int) - p.1).toNat<n∧ah n f7 d7 p=r) ((((sl block (4*p1.1) ((4*p1.1)+4)).length:Int) - 0).toNat+1) _ sbQ sbQ ⟨(0,p1.2),rfl,⟨omQ,omQ⟩,(Nat.lt_succ_self _),hM⟩ ?_
  clear hM
  rintro n7 S ⟨p7,rfl,hfa7,hm7,hM⟩
  have hM0:=hM;clear hM;obtain ⟨ag7,hag7,hM⟩:=aI hM0 (by omega) hf7;clear hM0
  replace hfa7:=nzQ hfa7
  replace hm7:=nzQ hm7
  have ha7:ak .i64 p7.1 1=p7.1+1:=aR omQ omQ
  replace hF:=(And.intro ha7 hF)
  revert hM;revert hF
  refine slQ ?_
  refine cdQ (fun _ _ _=> ?_) (fun _ _ _=> ?_)
  ·have he11:((p1.1).toNat*1≤63)=True:=eq_true ap
   refine slA he11 ?_
   have he12:=jg (f:=(V.int .u32)) (l:=p7.2) (n:=64) (i:=p1.1) ap
   replace he12:=spR he12
   refine slA he12 ?_
   have he13:((p1.1).toNat*1≤63)=True:=eq_true ap
   refine slA he13 ?_
   have he14:=mE (f:=(V.int .u32)) (l:=(au 64 p7.2)) (n:=64) (i:=p1.1) (v:=(orI .u32 (ao .u32 (gt p7.2 p1.1) 8) (ae .u32 (gt (sl block (4*p1.1) ((4*p1.1)+4)) p7.1)))) cq ap
   replace he14:=spR he14
   refine slA he14 ?_
   intro hF hM
   refine aO (n7 - 1) _ (by omega) sbQ sbG ⟨((p7.1+1),(au 64 (st (au 64 p7.2) p1.1 (orI .u32 (ao .u32 (gt p7.2 p1.1) 8) (ae .u32 (gt (sl block (4*p1.1) ((4*p1.1)+4)) p7.1)))))),rfl,⟨omQ,omQ⟩,omQ,aM hM hag7⟩
  ·intro hF hM
   refine aO (n1 - 1) _ (by omega) sbQ sbQ ⟨((p1.1+1),p7.2),rfl,⟨omQ,omQ⟩,omQ,aM hM hag1⟩
 ·intro hF hM
  have hM0:=hM;clear hM;obtain ⟨f17,d17,hf17,hd17,hM⟩:=aH hM0;clear hM0
  refine bm (fun n S=> ∃p:Int×(List Int),S=(⟨[(2,.ptr 0 0),(3,.ptr 1 0),(7,.int .i64 p.1)],[(0,.var 64 true (sL)),(1,.var 64 true ((nY p.2)))],2⟩:St)∧((16≤p.1)∧(p.1≤64∨p.1≤16))∧((64:Int) - p.1).toNat<n∧ah n f17 d17 p=r) (((64:Int) - 16).toNat+1) _ sbQ sbQ ⟨(16,p1.2),rfl,⟨omQ,omQ⟩,(Nat.lt_succ_self _),hM⟩ ?_
  clear hM
  rintro n17 S ⟨p17,rfl,hfa17,hm17,hM⟩
  have hM0:=hM;clear hM;obtain ⟨ag17,hag17,hM⟩:=aI hM0 (by omega) hf17;clear hM0
  replace hfa17:=nzQ hfa17
  replace hm17:=nzQ hm17
  have ha17:ak .i64 p17.1 1=p17.1+1:=aR omQ omQ
  replace hF:=(And.intro ha17 hF)
  revert hM;revert hF
  refine slQ ?_
  refine ax fun _ _ _=> ?_
  have ha20:az .i64 p17.1 15=(p17.1 - 15):=cE ap ap
  intro hF hM
  try simp only [ha20]
  revert hM;revert hF
  refine slQ ?_
  have he21:(((p17.1 - 15)).toNat*1≤63)=True:=eq_true ap
  refine slA (And.intro ha20 he21) ?_
  have he22:=jg (f:=(V.int .u32)) (l:=p17.2) (n:=64) (i:=(p17.1 - 15)) ap
  replace he22:=spR he22
  refine slA he22 ?_
  have ha23:az .i64 p17.1 2=(p17.1 - 2):=cE ap ap
  intro hF hM
  try simp only [ha23]
  revert hM;revert hF
  refine slQ ?_
  have he24:(((p17.1 - 2)).toNat*1≤63)=True:=eq_true ap
  refine slA (And.intro ha23 he24) ?_
  have he25:=jg (f:=(V.int .u32)) (l:=p17.2) (n:=64) (i:=(p17.1 - 2)) ap
  replace he25:=spR he25
  refine slA he25 ?_
  refine aF fun x26 _ _ _=> ?_
  refine aF fun x29 _ _ _=> ?_
  refine aF fun x32 _ _ _=> ?_
  refine aF fun x35 _ _ _=> ?_
  have ha38:az .i64 p17.1 16=(p17.1 - 16):=cE ap ap
  intro hF hM
  try simp only [ha38]
  revert hM;revert hF
  refine slQ ?_
  have he39:(((p17.1 - 16)).toNat*1≤63)=True:=eq_true ap
  refine slA (And.intro ha38 he39) ?_
  have he40:=jg (f:=(V.int .u32)) (l:=p17.2) (n:=64) (i:=(p17.1 - 16)) ap
  replace he40:=spR he40
  refine slA he40 ?_
  have ha41:az .i64 p17.1 7=(p17.1 - 7):=cE ap ap
  intro hF hM
  try simp only [ha41]
  revert hM;revert hF
  refine slQ ?_
  have he42:(((p17.1 - 7)).toNat*1≤63)=True:=eq_true ap
  refine slA (And.intro ha41 he42) ?_
  have he43:=jg (f:=(V.int .u32)) (l:=p17.2) (n:=64) (i:=(p17.1 - 7)) ap
  replace he43:=spR he43
  refine slA he43 ?_
  have he44:((p17.1).toNat*1≤63)=True:=eq_true ap
  refine slA he44 ?_
  have he45:=mE (f:=(V.int .u32)) (l:=(au 64 p17.2)) (n:=64) (i:=p17.1) (v:=(ak .u32 (ak .u32 (ak .u32 (gt p17.2 (p17.1 - 16)) (aU .u32 (aU .u32 x26 x29) (ar .u32 (gt p17.2 (p17.1 - 15)) 3))) (gt p17.2 (p17.1 - 7))) (aU .u32 (aU .u32 x32 x35) (ar .u32 (gt p17.2 (p17.1 - 2)) 10)))) cq ap
  replace he45:=spR he45
  refine slA he45 ?_
  intro hF hM
  refine aO (n17 - 1) _ (by omega) sbQ sbG ⟨((p17.1+1),(au 64 (st (au 64 p17.2) p17.1 (ak .u32 (ak .u32 (ak .u32 (gt p17.2 (p17.1 - 16)) (aU .u32 (aU .u32 x26 x29) (ar .u32 (gt p17.2 (p17.1 - 15)) 3))) (gt p17.2 (p17.1 - 7))) (aU .u32 (aU .u32 x32 x35) (ar .u32 (gt p17.2 (p17.1 - 2)) 10)))))),rfl,⟨omQ,omQ⟩,omQ,aM hM hag17⟩
set_option maxHeartbeats 2000000 in
set_option maxRecDepth 100000 in
theorem K7 (state:(List Int)) (block:(List Int)) (hp0:block.length=64):CM En (ka state block) 175 [(lc state),.sl none 1 false (block.map (V.int .u8))] (fun y=>(lc y)) (fun _=> []):=by
 refine cmQ fun r hM=> ?_
 rw [ka.eq_1] at hM
 refine ef bn cJ noJ Tryz.func175 rfl Tryz.ntmps175 (by kernel_rfl) fun hw=>cO ?_
 refine spQ ?_
 replace hw:=nzQ hw
 have hM0:=hM;clear hM;obtain ⟨x1,hx2,hM⟩:=aC hM0;clear hM0
 have hcx1:=cmH hx2 (K6 block (by (exact pfQ)))
 refine bl hcx1 clQ clQ (fun hw3=> ?_)
 replace hw3:=nzQ hw3
 refine spQ ?_
 refine jL 121 23 [6,7,8,9,10,11,12,21,22,23,24,25,26,27,28,29,30,31,32,33,34,35,36] [] ([[],[0],[],[2],[],[4],[],[6],[],[8],[],[10],[],[12],[],[14],[0,1],[2,3],[4,5],[6,7],[8,9],[10,11],[12,13]]++[List.range 23]) [] (by kernel_rfl) (by exact alQ) ?_
 refine spQ ?_
 have hM0:=hM;clear hM;obtain ⟨f4,d4,hf4,hd4,hM⟩:=aH hM0;clear hM0
 refine bm (fun n S=> ∃p:Int×Int×Int×Int×Int×Int×Int×Int×Int,S=(⟨[(2,.ptr 0 0),(4,.ptr 1 0),(5,.ptr 2 0),(6,.int .u32 p.1),(7,.int .u32 p.2.1),(8,.int .u32 p.2.2.1),(9,.int .u32 p.2.2.2.1),(10,.int .u32 p.2.2.2.2.1),(11,.int .u32 p.2.2.2.2.2.1),(12,.int .u32 p.2.2.2.2.2.2.1),(13,.int .u32 p.2.2.2.2.2.2.2.1),(37,.int .i64 p.2.2.2.2.2.2.2.2)],[(0,.var 8 true ((lc state))),(1,.var 8 true (wM)),(2,.var 64 true ((nY x1)))],26⟩:St)∧((0≤p.2.2.2.2.2.2.2.2)∧(p.2.2.2.2.2.2.2.2≤64))∧((64:Int) - p.2.2.2.2.2.2.2.2).toNat<n∧ah n f4 d4 p=r) (((64:Int) - 0).toNat+1) _ sbQ sbQ ⟨((gt state 0),(gt state 1),(gt state 2),(gt state 3),(gt state 4),(gt state 5),(gt state 6),(gt state 7),0),rfl,⟨omQ,omQ⟩,(Nat.lt_succ_self _),hM⟩ ?_
 clear hM
 rintro n4 S ⟨p4,rfl,hfa4,hm4,hM⟩
 have hM0:=hM;clear hM;obtain ⟨ag4,hag4,hM⟩:=aI hM0 (by omega) hf4;clear hM0
 replace hfa4:=nzQ hfa4
 replace hm4:=nzQ hm4
 have ha4:ak .i64 p4.2.2.2.2.2.2.2.2 1=p4.2.2.2.2.2.2.2.2+1:=aR omQ omQ
 refine aq ha4 ?_
 refine bR (fun h5=> ?_) (fun h5=> ?_)
 ·rw [if_pos h5] at hM
  refine aq (And.intro ha4 h5) ?_
  have nh5:=nzQ h5
  try have hr6:=mpQ nh5
  refine jL 121 26 [40,41,42,43,44,45,46,47,48,49,50,51,52,53,54,55,56,57,58,59,60,61,62,63,64,65] [] ([[],[],[1],[],[3],[1,2,3,4],[],[6],[1,2,3,4,5,6,7],[0,1,2,3,4,5,6,7,8],[],[],[10,11],[],[13],[],[13,14,15],[10,11,12,13,14,15,16],[0,1,2,3,4,5,6,7,8,9,10,11,12,13,14,15,16,17],[],[19],[19,20],[0,1,2,3,4,5,6,7,8,9,10,11,12,13,14,15,16,17,18,19,20,21],[],[23],[23,24]]++[List.range 26,List.range 27]) [] (by kernel_rfl) (by exact alQ) ?_
  refine aq ha4 ?_
  have hM0:=hM;clear hM;obtain ⟨x7,hx8,hM⟩:=aC hM0;clear hM0
  have hcx7:=cmU hx8
  refine c_ hcx7 (an ha4) (an ha4) ?_
  refine aq ha4 ?_
  have hM0:=hM;clear hM;obtain ⟨x9,hx10,hM⟩:=aC hM0;clear hM0
  have hcx9:=cmU hx10
  refine c_ hcx9 (an ha4) (an ha4) ?_
  refine aq ha4 ?_
  have hM0:=hM;clear hM;obtain ⟨x11,hx12,hM⟩:=aC hM0;clear hM0
  have hcx11:=cmU hx12
  refine c_ hcx11 (an ha4) (an ha4) ?_
  refine aq ha4 ?_
  refine c8 omQ ?_
  refine aq ha4 ?_
  have he13:=pP (f:=V.int .u32) (l:=kO) (n:=64) (i:=p4.2.2.2.2.2.2.2.2) rfl omQ
  replace he13:=spR he13
  refine aq (And.intro ha4 he13) ?_
  refine c8 omQ ?_
  have he14:((p4.2.2.2.2.2.2.2.2).toNat*1≤63)=True:=eq_true omQ
  refine aq (And.intro ha4 (And.intro he13 he14)) ?_
  have he15:=jg (f:=(V.int .u32)) (l:=x1) (n:=64) (i:=p4.2.2.2.2.2.2.2.2) omQ
  replace he15:=spR he15
  try refine aq (And.intro ha4 (And.intro he13 (And.intro he14 he15))) ?_
  have hF:=(And.intro ha4 (And.intro h5 (And.intro he13 (And.intro he14 he15))))
  exact auQ
 ·rw [if_neg (bH h5)] at hM
  refine aq (And.intro ha4 h5) ?_
  have nh5:=nzQ h5
  try have hr25:=mpQ nh5
  have hM0:=hM;clear hM;obtain ⟨f26,d26,hf26,hd26,hM⟩:=aH hM0;clear hM0
  refine bm (fun n S=> ∃p:Int×(List Int),S=(⟨[(2,.ptr 0 0),(4,.ptr 1 0),(108,.agg [.int .u32 p4.1,.int .u32 p4.2.1,.int .u32 p4.2.2.1,.int .u32 p4.2.2.2.1,.int .u32 p4.2.2.2.2.1,.int .u32 p4.2.2.2.2.2.1,.int .u32 p4.2.2.2.2.2.2.1,.int .u32 p4.2.2.2.2.2.2.2.1]),(109,.int .i64 p.1)],[(0,.var 8 true ((lc p.2))),(1,.var 8 true (wM))],26⟩:St)∧((0≤p.1)∧(p.1≤8))∧((8:Int) - p.1).toNat<n∧ah n f26 d26 p=r) (((8:Int) - 0).toNat+1) _ sbQ sbQ ⟨(0,state),rfl,⟨omQ,omQ⟩,(Nat.lt_succ_self _),hM⟩ ?_
  clear hM
  rintro n26 S ⟨p26,rfl,hfa26,hm26,hM⟩
  have hM0:=hM;clear hM;obtain ⟨ag26,hag26,hM⟩:=aI hM0 (by omega) hf26;clear hM0
  replace hfa26:=nzQ hfa26
  replace hm26:=nzQ hm26
  have ha26:ak .i64 p26.1 1=p26.1+1:=aR omQ omQ
  refine aq (And.intro ha4 ha26) ?_
  refine bR (fun h27=> ?_) (fun h27=> ?_)
  ·rw [if_pos h27] at hM
   refine aq (And.intro ha4 (And.intro ha26 h27)) ?_
   have nh27:=nzQ h27
   try have hr28:=mpQ nh27
   have he29:=pP (f:=(V.int .u32)) (l:=([p4.1,p4.2.1,p4.2.2.1,p4.2.2.2.1,p4.2.2.2.2.1,p4.2.2.2.2.2.1,p4.2.2.2.2.2.2.1,p4.2.2.2.2.2.2.2.1]:List Int)) (n:=8) (i:=p26.1) rfl omQ
   replace he29:=spR he29
   refine aq (And.intro ha4 (And.intro ha26 he29)) ?_
   refine bM omQ ?_
   refine aq (And.intro ha4 (And.intro ha26 he29)) ?_
   refine bM omQ ?_
   have he30:((p26.1).toNat*1≤7)=True:=eq_true omQ
   refine aq (And.intro ha4 (And.intro ha26 (And.intro he29 he30))) ?_
   have he31:=jg (f:=(V.int .u32)) (l:=p26.2) (n:=8) (i:=p26.1) omQ
   replace he31:=spR he31
   try refine aq (And.intro ha4 (And.intro ha26 (And.intro he29 (And.intro he30 he31)))) ?_
   refine bM omQ ?_
   have he32:((p26.1).toNat*1≤7)=True:=eq_true omQ
   refine aq (And.intro ha4 (And.intro ha26 (And.intro he29 (And.intro he30 (And.intro he31 he32))))) ?_
   have he33:=mE (f:=(V.int .u32)) (l:=(au 8 p26.2)) (n:=8) (i:=p26.1) (v:=(ak .u32 (gt p26.2 p26.1) (gt ([p4.1,p4.2.1,p4.2.2.1,p4.2.2.2.1,p4.2.2.2.2.1,p4.2.2.2.2.2.1,p4.2.2.2.2.2.2.1,p4.2.2.2.2.2.2.2.1]:List Int) p26.1))) cq omQ
   replace he33:=spR he33
   refine aq (And.intro ha4 (And.intro ha26 (And.intro he29 (And.intro he30 (And.intro he31 (And.intro he32 he33)))))) ?_
   refine aO (n26 - 1) _ (by omega) sbQ sbG ⟨((p26.1+1),(au 8 (st (au 8 p26.2) p26.1 (ak .u32 (gt p26.2 p26.1) (gt ([p4.1,p4.2.1,p4.2.2.1,p4.2.2.2.1,p4.2.2.2.2.1,p4.2.2.2.2.2.1,p4.2.2.2.2.2.2.1,p4.2.2.2.2.2.2.2.1]:List Int) p26.1))))),rfl,⟨omQ,omQ⟩,omQ,aM hM hag26⟩
  ·rw [if_neg (bH h27)] at hM
   refine aq (And.intro ha4 (And.intro ha26 h27)) ?_
   have nh27:=nzQ h27
   try have hr34:=mpQ nh27
   subst hM
   exact cI (cK (And.intro ha4 (And.intro ha26 (And.intro h5 h27))))
instance (priority:=1004):DRD 8 59 3 [33,34,35] [] ([[],[],[1]]++[List.range 3,List.range 4]) []:=⟨trivial⟩
set_option maxHeartbeats 2000000 in
set_option maxRecDepth 100000 in
theorem xQ (b:(List Int)) (hp0:b.length≤1000000000):CM En (lr b) 121 [.sl none 1 false (b.map (V.int .u8))] (fun y=>(bI y)) (fun _=> []):=by
 refine enQ [6] Tryz.func121 Tryz.ntmps121 (lr.eq_1 ..) fun r hw=> ?_
 intro hF hM
 have hM0:=hM;clear hM;obtain ⟨x1,hx2,hM⟩:=aC hM0;clear hM0
 have hcx1:=xP none b
 rw [←hx2] at hcx1
 refine bl hcx1 clQ clQ (fun hw3=> ?_)
 replace hw3:=nzQ hw3
 revert hM;revert hF
 refine slQ ?_
 have hq4:=nzQ (cfU hx2)
 refine slQ ?_
 intro hF hM
 have hM0:=hM;clear hM;obtain ⟨f5,d5,hf5,hd5,hM⟩:=aH hM0;clear hM0
 refine bm (fun n S=> ∃p:List Int,S=(⟨[(0,.sl none 1 false (b.map (V.int .u8))),(2,.ptr 0 0),(3,.own 1)],[(0,.var 32 true (gL)),(1,.own 5 1 false none (p.map (V.int .u8)))],3⟩:St)∧((((p).length:Int)+(56 - ((p).length:Int))% 64≤(b.length:Int)+65))∧((56 - ((p).length:Int))% 64).toNat<n∧ah n f5 d5 p=r) (((56 - (((x1++([128]:List Int))).length:Int))% 64).toNat+1) _ sbQ sbQ ⟨(x1++([128]:List Int)),rfl,omQ,(Nat.lt_succ_self _),hM⟩ ?_
 clear hM
 rintro n5 S ⟨p5,rfl,hfa5,hm5,hM⟩
 have hM0:=hM;clear hM;obtain ⟨ag5,hag5,hM⟩:=aI hM0 (by omega) hf5;clear hM0
 replace hfa5:=nzQ hfa5
 replace hm5:=nzQ hm5
 revert hM;revert hF
 refine slQ ?_
 refine cdQ (fun _ _ _=> ?_) (fun _ _ _=> ?_)
 ·intro hF hM
  refine aO (n5 - 1) _ (by omega) sbQ sbQ ⟨(p5++([0]:List Int)),rfl,omQ,omQ,aM hM hag5⟩
 ·refine aF fun x9 _ _ _=> ?_
  intro hF hM
  refine jN ?_
  revert hM;revert hF
  refine slQ ?_
  intro hF hM
  refine jO _ (⟨[(2,.ptr 0 0),(3,.sl (jC (x9.map (V.int .u8))) 1 false ((p5++x9).map (V.int .u8))),(4,.ptr 3 0)],[(0,.var 32 true (gL)),(1,.pown 1 false (jC (x9.map (V.int .u8))) ((p5++x9).map (V.int .u8))),(3,.var 8 true (.agg [.int .u32 1779033703,.int .u32 3144134277,.int .u32 1013904242,.int .u32 2773480762,.int .u32 1359893119,.int .u32 2600822924,.int .u32 528734635,.int .u32 1541459225]))],4⟩:St) ((gE (S:=⟨_,_,_⟩) 1 (T:=5) (n:=1) (g:=false) (z:=(jC (x9.map (V.int .u8)))) (l:=(p5++x9).map (V.int .u8)) clQ).trans (iq (S:=⟨_,_,_⟩) 3 1 (n:=1) (g:=false) (z:=(jC (x9.map (V.int .u8)))) (l:=(p5++x9).map (V.int .u8)) clQ clQ)) sbQ sbQ ?_
  revert hM;revert hF
  refine slQ ?_
  intro hF hM
  have hM0:=hM;clear hM;obtain ⟨f13,d13,hf13,hd13,hM⟩:=aH hM0;clear hM0
  refine bm (fun n S=> ∃p:List Int×(List Int),S=(⟨[(2,.ptr 0 0),(3,.sl none 1 false (p.1.map (V.int .u8))),(4,.ptr 3 0)],[(0,.var 32 true (gL)),(3,.var 8 true ((lc p.2)))],4⟩:St)∧((((p.1).length:Int)% 64=0))∧(p.1).length<n∧ah n f13 d13 p=r) (((p5++x9)).length+1) _ sbQ sbG ⟨((p5++x9),[1779033703,3144134277,1013904242,2773480762,1359893119,2600822924,528734635,1541459225]),rfl,omQ,(Nat.lt_succ_self _),hM⟩ ?_
  clear hM
  rintro n13 S ⟨p13,rfl,hfa13,hm13,hM⟩
  have hM0:=hM;clear hM;obtain ⟨ag13,hag13,hM⟩:=aI hM0 (by omega) hf13;clear hM0
  replace hfa13:=nzQ hfa13
  replace hm13:=nzQ hm13
  revert hM;revert hF
  refine slQ ?_
  refine cdQ (fun _ _ _=> ?_) (fun _ _ _=> ?_)
  ·intro hF hM
   have hM0:=hM;clear hM;obtain ⟨x16,hx17,hM⟩:=aC hM0;clear hM0
   have hcx16:=cmH hx17 (K7 (p13.2) (sl p13.1 0 64) (by (exact pfQ)))
   refine bl hcx16 clQ clQ (fun hw18=> ?_)
   replace hw18:=nzQ hw18
   revert hM;revert hF
   refine slQ ?_
   intro hF hM
   refine aO (n13 - 1) _ (by omega) sbQ sbQ ⟨((sl p13.1 64 (p13.1.length:Int)),x16),rfl,omQ,omQ,aM hM hag13⟩
  ·intro hF hM
   have hM0:=hM;clear hM;obtain ⟨f20,d20,hf20,hd20,hM⟩:=aH hM0;clear hM0
   refine bm (fun n S=> ∃p:Int×(List Int),S=(⟨[(2,.ptr 0 0),(5,.ptr 4 0),(37,(lc p13.2)),(38,.int .i64 p.1)],[(0,.var 32 true (gL)),(4,.var 32 true ((bI p.2)))],5⟩:St)∧((0≤p.1)∧(p.1≤8))∧((8:Int) - p.1).toNat<n∧ah n f20 d20 p=r) (((8:Int) - 0).toNat+1) _ sbQ sbG ⟨(0,[0,0,0,0,0,0,0,0,0,0,0,0,0,0,0,0,0,0,0,0,0,0,0,0,0,0,0,0,0,0,0,0]),rfl,⟨omQ,omQ⟩,(Nat.lt_succ_self _),hM⟩ ?_
   clear hM
   rintro n20 S ⟨p20,rfl,hfa20,hm20,hM⟩
   have hM0:=hM;clear hM;obtain ⟨ag20,hag20,hM⟩:=aI hM0 (by omega) hf20;clear hM0
   replace hfa20:=nzQ hfa20
   replace hm20:=nzQ hm20
   have ha20:ak .i64 p20.1 1=p20.1+1:=aR omQ omQ
   replace hF:=(And.intro ha20 hF)
   revert hM;revert hF
   refine slQ ?_
   refine ax fun _ _ _=> ?_
   have he23:=Jm (f:=(V.int .u32)) (l:=p13.2) (n:=8) (i:=p20.1) ap
   replace he23:=spR he23
   refine slA he23 ?_
   intro hF hM
   have hM0:=hM;clear hM;obtain ⟨f24,d24,hf24,hd24,hM⟩:=aH hM0;clear hM0
   refine bm (fun n S=> ∃p:Int×(List Int),S=(⟨[(2,.ptr 0 0),(5,.ptr 4 0),(6,.int .i64 p20.1),(7,.int .u32 (gt p13.2 p20.1)),(37,(lc p13.2)),(38,.int .i64 p20.1),(42,.int .i64 p.1)],[(0,.var 32 true (gL)),(4,.var 32 true ((bI p.2)))],5⟩:St)∧((0≤p.1)∧(p.1≤4))∧((4:Int) - p.1).toNat<n∧ah n f24 d24 p=r) (((4:Int) - 0).toNat+1) _ sbQ sbQ ⟨(0,p20.2),rfl,⟨omQ,omQ⟩,(Nat.lt_succ_self _),hM⟩ ?_
   clear hM
   rintro n24 S ⟨p24,rfl,hfa24,hm24,hM⟩
   have hM0:=hM;clear hM;obtain ⟨ag24,hag24,hM⟩:=aI hM0 (by omega) hf24;clear hM0
   replace hfa24:=nzQ hfa24
   replace hm24:=nzQ hm24
   have ha24:ak .i64 p24.1 1=p24.1+1:=aR omQ omQ
   replace hF:=(And.intro ha24 hF)
   revert hM;revert hF
   refine slQ ?_
   refine cdQ (fun _ _ _=> ?_) (fun _ _ _=> ?_)
   ·obtain ⟨ha27,hbha27⟩:=kU (a:=4) (b:=p20.1) 8 64 512 ap ap ap ap (by decide) (by decide)
    intro hF hM
    try simp only [ha27]
    have ha28:ak .i64 (4*p20.1) p24.1=((4*p20.1)+p24.1):=eY omQ omQ
    try simp only [ha28]
    obtain ⟨ha29,hbha29⟩:=kU (a:=8) (b:=p24.1) 8 64 512 omQ omQ omQ omQ (by decide) (by decide)
    try simp only [ha29]
    have ha30:az .i64 24 (8*p24.1)=(24 - (8*p24.1)):=cE omQ omQ
    try simp only [ha30]
    replace hF:=(And.intro ha27 (And.intro ha28 (And.intro ha29 (And.intro ha30 hF))))
    revert hM;revert hF
    refine slQ ?_
    have he31:((((4*p20.1)+p24.1)).toNat*1≤31)=True:=eq_true ap
    refine slA he31 ?_
    have he32:=mE (f:=(V.int .u8)) (l:=(au 32 p24.2)) (n:=32) (i:=((4*p20.1)+p24.1)) (v:=(ae .u8 (ar .u32 (gt p13.2 p20.1) (24 - (8*p24.1))))) cq ap
    replace he32:=spR he32
    refine slA he32 ?_
    intro hF hM
    refine aO (n24 - 1) _ (by omega) sbQ sbG ⟨((p24.1+1),(au 32 (st (au 32 p24.2) ((4*p20.1)+p24.1) (ae .u8 (ar .u32 (gt p13.2 p20.1) (24 - (8*p24.1))))))),rfl,⟨omQ,omQ⟩,omQ,aM hM hag24⟩
   ·intro hF hM
    refine aO (n20 - 1) _ (by omega) sbQ sbQ ⟨((p20.1+1),p24.2),rfl,⟨omQ,omQ⟩,omQ,aM hM hag20⟩
instance (priority:=1005):DRD 4 26 5 [19,20,21,22,23] [] ([[],[0],[],[0,1,2],[]]++[List.range 5,List.range 6,List.range 7,List.range 8]) [(3,4)]:=⟨trivial⟩
set_option maxHeartbeats 2000000 in
set_option maxRecDepth 100000 in
theorem K8 (tag:(List UInt8)) (b:(List Int)) (hp0:b.length≤900000000):CM En (xe tag b) 148 [.str tag,.sl none 1 false (b.map (V.int .u8))] (fun y=> .tup [(bI y.1),.int .i64 y.2]) (fun _=> []):=by
 refine enQ [4] Tryz.func148 Tryz.ntmps148 (xe.eq_1 ..) fun r hw=> ?_
 refine ax fun _ _ _=> ?_
 refine aJ fun _ _ _=> ?_
 intro hF hM
 refine jN ?_
 revert hM;revert hF
 refine slQ ?_
 intro hF hM
 have hM0:=hM;clear hM;obtain ⟨x6,hx7,hM⟩:=aC hM0;clear hM0
 have hcx6:=cmH hx7 (xQ (pC tag) (by (exact pfQ)))
 refine nC hcx6 clQ clQ (fun hw8=> ?_)
 replace hw8:=nzQ hw8
 revert hM;revert hF
 refine slQ ?_
 intro hF hM
 refine jO _ (⟨[(1,.sl none 1 false (b.map (V.int .u8))),(4,.ptr 0 0),(6,.ptr 2 0)],[(0,.var 32 true (gL)),(2,.pvar 32 true ((bI x6)))],3⟩:St) (wu (S:=⟨_,_,_⟩) 2 (n:=32) (g:=true) (d:=(bI x6)) clQ clQ) sbQ sbQ ?_
 revert hM;revert hF
 refine slQ ?_
 intro hF hM
 have hM0:=hM;clear hM;obtain ⟨x9,hx10,hM⟩:=aC hM0;clear hM0
 have hcx9:=xP (some false) (au 32 x6)
 rw [←hx10] at hcx9
 refine HN hcx9 clQ clQ ?_
 revert hM;revert hF
 refine slQ ?_
 have hq11:=nzQ (cfU hx10)
 refine slQ ?_
 intro hF hM
 have hM0:=hM;clear hM;obtain ⟨x12,hx13,hM⟩:=aC hM0;clear hM0
 have hcx12:=cmH hx13 (xQ ((x9++(au 32 x6))++b) (by (exact pfQ)))
 refine nC hcx12 clQ clQ (fun hw14=> ?_)
 replace hw14:=nzQ hw14
 exact auP
set_option maxHeartbeats 2000000 in
set_option maxRecDepth 100000 in
instance Qp (seed:(List Int)):CM En (xf seed) 86 [.sl none 1 false (seed.map (V.int .u8))] (fun y=> .tup [(nZ y.1),.int .i64 y.2]) (fun _=> []):=by
 refine enQ noJ Tryz.func86 Tryz.ntmps86 (xf.eq_1 ..) fun r hw=> ?_
 refine aJ fun _ _ _=> ?_
 intro hF hM
 have hM0:=hM;clear hM;obtain ⟨x4,hx5,hM⟩:=aC hM0;clear hM0
 have hcx4:=cmH hx5 (K8 ([115,112,101,99,105,101,47,100,114,97,119]) seed (by (exact pfQ)))
 refine bl hcx4 clQ clQ (fun hw6=> ?_)
 replace hw6:=nzQ hw6
 exact auP
set_option maxHeartbeats 2000000 in
set_option maxRecDepth 100000 in
instance Qq (b:eH) (bank:Int) (u:Int) (seed:(List Int)):CM En (qb b bank u seed) 32 [(jX b),.int .i64 bank,.int .i64 u,.sl none 1 false (seed.map (V.int .u8))] (fun y=> .tup [(bL y.1),.int .i64 y.2]) (fun _=> []):=by
 refine enQ noJ Tryz.func32 Tryz.ntmps32 (qb.eq_1 ..) fun r hw=> ?_
 exact auR
set_option maxHeartbeats 2000000 in
set_option maxRecDepth 100000 in
theorem K_ (l:(List ff)) (p_:av) (now:Int) (hp0:p_.Holdings.length=0):CM En (xg l p_ now) 33 [.sl none 11 true (l.map ld),(bL p_),.int .i64 now] (fun y=> .tup [.int .i64 y.1,.int .i64 y.2]) (fun _=> []):=by
 refine enQ noJ Tryz.func33 Tryz.ntmps33 (xg.eq_1 ..) fun r hw=> ?_
 refine ax fun _ _ _=> ?_
 refine aJ fun _ _ _=> ?_
 intro hF hM
 have hM0:=hM;clear hM;obtain ⟨f6,d6,hf6,hd6,hM⟩:=aH hM0;clear hM0
 refine bN (fun n S=> ∃p:Int×List ff,S=(⟨[(0,.sl none 11 true (l.map ld)),(2,.int .i64 now),(4,.ptr 0 0),(8,.own 1),(25,.sl none 46 true (p_.Holdings.map bD)),(26,.int .i64 (p_.Holdings.length:Int)),(27,.int .i64 p.1)],[(0,.var 39 true ((bL p_))),(1,.own 181 11 true none (p.2.map ld))],2⟩:St)∧((0≤p.1)∧(p.1≤(p_.Holdings.length:Int))∧(((p.2).length:Int)≤p.1))∧((p_.Holdings.length:Int) - p.1).toNat<n∧ah n f6 d6 p=r) (((p_.Holdings.length:Int) - 0).toNat+1) _ _ (dV 8 181 rfl (by decide)) sbQ sbQ ⟨(0,([]:List ff)),rfl,⟨omQ,omQ,omQ⟩,(Nat.lt_succ_self _),hM⟩ ?_
 clear hM
 rintro n6 S ⟨p6,rfl,hfa6,hm6,hM⟩
 have hM0:=hM;clear hM;obtain ⟨ag6,hag6,hM⟩:=aI hM0 (by omega) hf6;clear hM0
 replace hfa6:=nzQ hfa6
 replace hm6:=nzQ hm6
 have ha6:ak .i64 p6.1 1=p6.1+1:=aR omQ omQ
 replace hF:=(And.intro ha6 hF)
 revert hM;revert hF
 refine slQ ?_
 refine cdQ (fun _ _ _=> ?_) (fun _ _ _=> ?_)
 ·intro hF hM
  exact False.elim (by (clear hM;omega))
 ·intro hF hM
  have hM0:=hM;clear hM;obtain ⟨f10,d10,hf10,hd10,hM⟩:=aH hM0;clear hM0
  refine bm (fun n S=> ∃p:Int×Int,S=(⟨[(2,.int .i64 now),(8,.own 1),(13,.int .i64 p.1),(73,.sl none 46 true (p_.Holdings.map bD)),(74,.int .i64 (p_.Holdings.length:Int)),(75,.int .i64 p.2)],[(1,.own 181 11 true none (p6.2.map ld))],2⟩:St)∧((0≤p.2)∧(p.2≤(p_.Holdings.length:Int)))∧((p_.Holdings.length:Int) - p.2).toNat<n∧ah n f10 d10 p=r) (((p_.Holdings.length:Int) - 0).toNat+1) _ sbQ sbQ ⟨(0,0),rfl,⟨omQ,omQ⟩,(Nat.lt_succ_self _),hM⟩ ?_
  clear hM
  rintro n10 S ⟨p10,rfl,hfa10,hm10,hM⟩
  have hM0:=hM;clear hM;obtain ⟨ag10,hag10,hM⟩:=aI hM0 (by omega) hf10;clear hM0
  replace hfa10:=nzQ hfa10
  replace hm10:=nzQ hm10
  have ha10:ak .i64 p10.2 1=p10.2+1:=aR omQ omQ
  replace hF:=(And.intro ha10 hF)
  revert hM;revert hF
  refine slQ ?_
  refine ax fun _ _ _=> ?_
  intro hF hM
  exact False.elim (by (clear hM;omega))
set_option maxHeartbeats 2000000 in
set_option maxRecDepth 100000 in
instance Qr (d_:dD):CM En (xh d_) 90 [(nZ d_)] (fun y=> .bool y) (fun _=> []):=by
 refine enQ noJ Tryz.func90 Tryz.ntmps90 (xh.eq_1 ..) fun r hw=> ?_
 exact auR
set_option maxHeartbeats 2000000 in
set_option maxRecDepth 100000 in
theorem La (N:Nat) (ih: ∀(i_:aa) (depth:Int),hgt i_<N→a8 En 161 [.agg [.int .i64 i_.Kind,.int .i64 i_.N,.sl none 1 false (i_.B.map (V.int .u8)),.sl none 4 true (i_.L.map aw)],.int .i64 depth] (.bool (aQ i_ depth)) []) (x_:aa) (c0:Int) (hp0:hgt x_<N) (hp1:0<c0):a8 En 213 [.agg [.int .i64 x_.Kind,.int .i64 x_.N,.sl none 1 false (x_.B.map (V.int .u8)),.sl none 4 true (x_.L.map aw)],.pp 1 false (.int .i64 c0)] (.bool (mJ x_ c0)) []:=by
 generalize hM:mJ x_ c0=r
 rw [mJ.eq_1] at hM
 refine ef bn cJ noJ Tryz.func213 rfl Tryz.ntmps213 (by kernel_rfl) fun hw=>cO ?_
 refine spQ ?_
 replace hw:=nzQ hw
 have ha1:az .i64 c0 1=(c0 - 1):=cE omQ omQ
 try simp only [ha1]
 have hM0:=hM;clear hM;obtain ⟨x2,hx3,hM⟩:=aC hM0;clear hM0
 have hcx2:=ih x_ (c0 - 1) (by omega)
 rw [←hx3] at hcx2
 have hF:=ha1
 refine bl hcx2 (an hF) (an hF) (fun hw4=> ?_)
 replace hw4:=nzQ hw4
 exact auP
set_option maxHeartbeats 2000000 in
set_option maxRecDepth 100000 in
theorem Lb (N:Nat) (ih: ∀(i_:aa) (depth:Int),hgt i_<N→a8 En 161 [.agg [.int .i64 i_.Kind,.int .i64 i_.N,.sl none 1 false (i_.B.map (V.int .u8)),.sl none 4 true (i_.L.map aw)],.int .i64 depth] (.bool (aQ i_ depth)) []) (z0:Option Bool) (s:(List aa)) (f__c0:Int) (hp0: ∀x∈s,hgt x<N) (hp1:0<f__c0):a8 En 254 [.sl z0 4 true (s.map aw),.fn 213 [.pp 1 false (.int .i64 f__c0)]] (.int .i64 (te s f__c0)) []:=by
 generalize hM:te s f__c0=r
 rw [te.eq_1] at hM
 refine ef bn cJ noJ Tryz.func254 rfl Tryz.ntmps254 (by kernel_rfl) fun hw=>cO ?_
 refine spQ ?_
 replace hw:=nzQ hw
 have hM0:=hM;clear hM;obtain ⟨f1,d1,hf1,hd1,hM⟩:=aH hM0;clear hM0
 refine bm (fun n S=> ∃p:Int,S=(⟨[(0,.sl z0 4 true (s.map aw)),(1,.fn 213 [.pp 1 false (.int .i64 f__c0)]),(7,.int .i64 (s.length:Int)),(8,.int .i64 p)],[],0⟩:St)∧((0≤p)∧(p≤(s.length:Int)))∧((s.length:Int) - p).toNat<n∧ah n f1 d1 p=r) (((s.length:Int) - 0).toNat+1) _ sbQ sbQ ⟨0,rfl,⟨omQ,omQ⟩,(Nat.lt_succ_self _),hM⟩ ?_
 clear hM
 rintro n1 S ⟨p1,rfl,hfa1,hm1,hM⟩
 have hM0:=hM;clear hM;obtain ⟨ag1,hag1,hM⟩:=aI hM0 (by omega) hf1;clear hM0
 replace hfa1:=nzQ hfa1
 replace hm1:=nzQ hm1
 have ha1:ak .i64 p1 1=p1+1:=aR omQ omQ
 have hF:=ha1
 revert hM;revert hF
 refine slQ ?_
 refine ax fun _ _ _=> ?_
 intro hF hM
 have hM0:=hM;clear hM;obtain ⟨x5,hx6,hM⟩:=aC hM0;clear hM0
 have hcx5:=La N ih (gt s p1) f__c0 (by (first|exact hp1|exact hp0 _ (cm (by omega)))) (by (first|exact hp1|exact hp0 _ (cm (by omega))))
 rw [←hx6] at hcx5
 refine bl hcx5 (an hF) (an hF) (fun hw7=> ?_)
 replace hw7:=nzQ hw7
 revert hM;revert hF
 refine slQ ?_
 refine aJ fun _ _ _=> ?_
 intro hF hM
 refine aO (n1 - 1) _ (by omega) sbQ sbQ ⟨(p1+1),rfl,⟨omQ,omQ⟩,omQ,aM hM hag1⟩
set_option maxHeartbeats 2000000 in
set_option maxRecDepth 100000 in
theorem Lc (N:Nat) (ih: ∀(i_:aa) (depth:Int),hgt i_<N→a8 En 161 [.agg [.int .i64 i_.Kind,.int .i64 i_.N,.sl none 1 false (i_.B.map (V.int .u8)),.sl none 4 true (i_.L.map aw)],.int .i64 depth] (.bool (aQ i_ depth)) []) (z0:Option Bool) (s:(List aa)) (f__c0:Int) (hp0: ∀x∈s,hgt x<N) (hp1:0<f__c0):a8 En 212 [.sl z0 4 true (s.map aw),.fn 213 [.pp 1 false (.int .i64 f__c0)]] (.bool (oh s f__c0)) []:=by
 generalize hM:oh s f__c0=r
 rw [oh.eq_1] at hM
 refine ef bn cJ noJ Tryz.func212 rfl Tryz.ntmps212 (by kernel_rfl) fun hw=>cO ?_
 refine spQ ?_
 replace hw:=nzQ hw
 have hM0:=hM;clear hM;obtain ⟨x1,hx2,hM⟩:=aC hM0;clear hM0
 have hcx1:=Lb N ih z0 s f__c0 (by (first|exact hp1|exact hp0)) (by (first|exact hp1|exact hp0))
 rw [←hx2] at hcx1
 refine bl hcx1 clQ clQ (fun hw3=> ?_)
 replace hw3:=nzQ hw3
 have hF:=gI
 exact auP
set_option maxHeartbeats 2000000 in
set_option maxRecDepth 100000 in
theorem Ld (N:Nat) (ih: ∀(i_:aa) (depth:Int),hgt i_<N→a8 En 161 [.agg [.int .i64 i_.Kind,.int .i64 i_.N,.sl none 1 false (i_.B.map (V.int .u8)),.sl none 4 true (i_.L.map aw)],.int .i64 depth] (.bool (aQ i_ depth)) []) (i_:aa) (depth:Int) (hp_:hgt i_<N+1):a8 En 161 [.agg [.int .i64 i_.Kind,.int .i64 i_.N,.sl none 1 false (i_.B.map (V.int .u8)),.sl none 4 true (i_.L.map aw)],.int .i64 depth] (.bool (qc i_ depth)) []:=by
 generalize hM:qc i_ depth=r
 rw [qc.eq_1] at hM
 refine ef bn cJ noJ Tryz.func161 rfl Tryz.ntmps161 (by kernel_rfl) fun hw=>cO ?_
 refine spQ ?_
 replace hw:=nzQ hw
 have hF:=gI
 revert hM;revert hF
 refine aJ fun _ _ _=> ?_
 refine aJ fun _ _ _=> ?_
 refine ax fun _ _ _=> ?_
 refine ax fun _ _ _=> ?_
 refine ax fun _ _ _=> ?_
 refine ax fun _ _ _=> ?_
 refine ax fun _ _ _=> ?_
 intro hF hM
 have hM0:=hM;clear hM;obtain ⟨x23,hx24,hM⟩:=aC hM0;clear hM0
 have hcx23:=Lc N ih none (i_.L) depth (by (first|omega|exact fun x hx=>Nat.lt_of_lt_of_le (gd hx) (Nat.lt_succ_iff.1 hp_))) (by (first|omega|exact fun x hx=>Nat.lt_of_lt_of_le (gd hx) (Nat.lt_succ_iff.1 hp_)))
 rw [←hx24] at hcx23
 refine nC hcx23 clQ clQ (fun hw25=> ?_)
 replace hw25:=nzQ hw25
 exact auP
theorem Le: ∀(N:Nat) (i_:aa) (depth:Int),hgt i_<N→a8 En 161 [.agg [.int .i64 i_.Kind,.int .i64 i_.N,.sl none 1 false (i_.B.map (V.int .u8)),.sl none 4 true (i_.L.map aw)],.int .i64 depth] (.bool (aQ i_ depth)) []:=by
 intro N
 induction N with
 | zero=>intro i_ depth h;exact absurd h (Nat.not_lt_zero _)
 | succ N ih=>
  intro i_ depth h
  have h9:=Ld N ih i_ depth h
  rw [J5] at h9
  exact h9
theorem Lf (i_:aa) (depth:Int):a8 En 161 [.agg [.int .i64 i_.Kind,.int .i64 i_.N,.sl none 1 false (i_.B.map (V.int .u8)),.sl none 4 true (i_.L.map aw)],.int .i64 depth] (.bool (aQ i_ depth)) []:=
 Le (hgt i_+1) i_ depth (Nat.lt_succ_self _)
set_option maxHeartbeats 2000000 in
set_option maxRecDepth 100000 in
instance Qt (i_:aa):CM En (iA i_) 98 [.agg [.int .i64 i_.Kind,.int .i64 i_.N,.sl none 1 false (i_.B.map (V.int .u8)),.sl none 4 true (i_.L.map aw)]] (fun y=> .bool y) (fun _=> []):=by
 refine enQ noJ Tryz.func98 Tryz.ntmps98 (iA.eq_1 ..) fun r hw=> ?_
 intro hF hM
 have hM0:=hM;clear hM;obtain ⟨x1,hx2,hM⟩:=aC hM0;clear hM0
 have hcx1:=Lf i_ 8
 rw [←hx2] at hcx1
 refine bl hcx1 clQ clQ (fun hw3=> ?_)
 replace hw3:=nzQ hw3
 exact auP
set_option maxHeartbeats 2000000 in
set_option maxRecDepth 100000 in
theorem xR (z0:Option Bool) (out:(List Int)) (n_:Int) (size:Int) (hp0:size≤8) (hp1:out.length≤1000000000) (hp2:0≤size):dB En 162 [.own 0,.int .u64 n_,.int .i64 size] [.own 5 1 false z0 (out.map (V.int .u8))] (.own 0) [.own 5 1 false none ((kb out n_ size).map (V.int .u8))] []:=by
 generalize hM:kb out n_ size=r
 rw [kb.eq_1] at hM
 refine kZ bn cJ noJ Tryz.func162 rfl Tryz.ntmps162 (by kernel_rfl) rfl fun ks hw hwB=>cO ?_
 refine spQ ?_
 replace hw:=nzQ hw
 replace hwB:=nzB hwB
 have ha1:az .i64 size 1=(size - 1):=cE omQ omQ
 try simp only [ha1]
 have hM0:=hM;clear hM;obtain ⟨f2,d2,hf2,hd2,hM⟩:=aH hM0;clear hM0
 refine bm (fun n S=> ∃p:Int×List Int,S=(⟨[(0,.own 0),(1,.int .u64 n_),(7,.int .i64 p.1)],[(0,.own 5 1 false none (p.2.map (V.int .u8)))],1⟩:St)∧((-1≤p.1)∧(p.1<8)∧(((p.2).length:Int)+p.1≤1000000020))∧(p.1+1).toNat<n∧ah n f2 d2 p=r) (((size - 1)+1).toNat+1) _ sbQ sbQ ⟨((size - 1),out),rfl,⟨omQ,omQ,omQ⟩,(Nat.lt_succ_self _),hM⟩ ?_
 clear hM
 rintro n2 S ⟨p2,rfl,hfa2,hm2,hM⟩
 have hM0:=hM;clear hM;obtain ⟨ag2,hag2,hM⟩:=aI hM0 (by omega) hf2;clear hM0
 replace hfa2:=nzQ hfa2
 replace hm2:=nzQ hm2
 have hF:=ha1
 revert hM;revert hF
 refine slQ ?_
 refine cdQ (fun _ _ _=> ?_) (fun _ _ _=> ?_)
 ·obtain ⟨ha5,hbha5⟩:=kU (a:=8) (b:=p2.1) 8 8 64 ap ap ap ap (by decide) (by decide)
  intro hF hM
  try simp only [ha5]
  replace hF:=(And.intro ha5 hF)
  revert hM;revert hF
  refine slQ ?_
  have ha6:az .i64 p2.1 1=(p2.1 - 1):=cE ap ap
  intro hF hM
  try simp only [ha6]
  refine aO (n2 - 1) _ (by omega) sbQ sbQ ⟨((p2.1 - 1),(p2.2++([(ae .u8 (ar .u64 n_ (8*p2.1)))]:List Int))),rfl,⟨omQ,omQ,omQ⟩,omQ,aM hM hag2⟩
 ·intro hF hM
  subst hM
  exact dC [0] (bB hF) (by decide) (bB hF)
instance (priority:=1006):DRD 8 55 8 [28,29,30,31,32,33,34,35] [] ([[],[],[1],[1,2],[1,2,3],[0,1,2,3,4],[],[6]]++[List.range 8,List.range 9]) [(5,0)]:=⟨trivial⟩
set_option maxHeartbeats 2000000 in
set_option maxRecDepth 100000 in
theorem Lg (N:Nat) (ih: ∀(z0:Option Bool) (out:(List Int)) (i_:aa),(hgt i_≤500000000)→hgt i_<N→dB En 99 [.own 0,.agg [.int .i64 i_.Kind,.int .i64 i_.N,.sl none 1 false (i_.B.map (V.int .u8)),.sl none 4 true (i_.L.map aw)]] [.own 5 1 false z0 (out.map (V.int .u8))] (.own 0) [.own 5 1 false none ((fi out i_).map (V.int .u8))] []) (z0:Option Bool) (out:(List Int)) (i_:aa) (hp0:hgt i_≤500000000) (hp_:hgt i_<N+1):dB En 99 [.own 0,.agg [.int .i64 i_.Kind,.int .i64 i_.N,.sl none 1 false (i_.B.map (V.int .u8)),.sl none 4 true (i_.L.map aw)]] [.own 5 1 false z0 (out.map (V.int .u8))] (.own 0) [.own 5 1 false none ((qd out i_).map (V.int .u8))] []:=by
 generalize hM:qd out i_=r
 rw [qd.eq_1] at hM
 refine kZ bn cJ noJ Tryz.func99 rfl Tryz.ntmps99 (by kernel_rfl) rfl fun ks hw hwB=>cO ?_
 refine spQ ?_
 replace hw:=nzQ hw
 replace hwB:=nzB hwB
 have hG0:=oc i_
 have hF:=gI
 revert hM;revert hF
 refine cdQ (fun _ _ _=> ?_) (fun _ _ _=> ?_)
 ·intro hF hM
  subst hM
  exact dC [0] (bB hF) (by decide) (bB hF)
 ·refine cdQ (fun _ _ _=> ?_) (fun _ _ _=> ?_)
  ·intro hF hM
   have hM0:=hM;clear hM;obtain ⟨x6,hx7,hM⟩:=aC hM0;clear hM0
   have hcx6:=xR (some false) (out++([(ae .u8 i_.Kind)]:List Int)) (ae .u64 i_.N) 8 (by (exact pfQ)) (by (exact pfQ)) (by (exact pfQ))
   rw [←hx7] at hcx6
   refine eh [0] hcx6 (by decide) lsQ lsQ (fun hw8=> ?_)
   replace hw8:=nzQ hw8
   revert hM;revert hF
   refine slQ ?_
   have hq9:=xm hx7
   replace hq9:=nzQ hq9
   intro hF hM
   subst hM
   exact dC [0] (bB hF) (by decide) (bB hF)
  ·refine cdQ (fun _ _ _=> ?_) (fun _ _ _=> ?_)
   ·intro hF hM
    have hM0:=hM;clear hM;obtain ⟨x13,hx14,hM⟩:=aC hM0;clear hM0
    have hcx13:=xR (some false) (out++([(ae .u8 i_.Kind)]:List Int)) (ae .u64 (i_.B.length:Int)) 4 (by (exact pfQ)) (by (exact pfQ)) (by (exact pfQ))
    rw [←hx14] at hcx13
    refine I6 0 hcx13 lsQ lsQ lsQ (Ba fun _=>lsQ) ?_
    revert hM;revert hF
    refine slQ ?_
    have hq15:=xm hx14
    replace hq15:=nzQ hq15
    refine slQ ?_
    intro hF hM
    subst hM
    exact dC [8] (bB hF) (by decide) (bB hF)
   ·intro hF hM
    have hM0:=hM;clear hM;obtain ⟨x17,hx18,hM⟩:=aC hM0;clear hM0
    have hcx17:=xR (some false) (out++([(ae .u8 i_.Kind)]:List Int)) (ae .u64 (i_.L.length:Int)) 4 (by (exact pfQ)) (by (exact pfQ)) (by (exact pfQ))
    rw [←hx18] at hcx17
    refine eh [0] hcx17 (by decide) lsQ lsQ (fun hw19=> ?_)
    replace hw19:=nzQ hw19
    revert hM;revert hF
    refine slQ ?_
    have hq20:=xm hx18
    replace hq20:=nzQ hq20
    intro hF hM
    have hM0:=hM;clear hM;obtain ⟨f21,d21,hf21,hd21,hM⟩:=aH hM0;clear hM0
    refine bm (fun n S=> ∃p:Int×List Int,S=(⟨[(0,.own 0),(44,.sl none 4 true (i_.L.map aw)),(45,.int .i64 (i_.L.length:Int)),(46,.int .i64 p.1)],[(0,.own 5 1 false none (p.2.map (V.int .u8)))],3⟩:St)∧((0≤p.1)∧(p.1≤(i_.L.length:Int)))∧((i_.L.length:Int) - p.1).toNat<n∧ah n f21 d21 p=r) (((i_.L.length:Int) - 0).toNat+1) _ sbQ sbQ ⟨(0,x17),rfl,⟨by exact omA,by exact omA⟩,(Nat.lt_succ_self _),hM⟩ ?_
    clear hM
    rintro n21 S ⟨p21,rfl,hfa21,hm21,hM⟩
    have hM0:=hM;clear hM;obtain ⟨ag21,hag21,hM⟩:=aI hM0 (by omega) hf21;clear hM0
    replace hfa21:=nzQ hfa21
    replace hm21:=nzQ hm21
    have ha21:ak .i64 p21.1 1=p21.1+1:=aR (by exact omA) (by exact omA)
    replace hF:=(And.intro ha21 hF)
    revert hM;revert hF
    refine slQ ?_
    refine cdQ (fun _ _ _=> ?_) (fun _ _ _=> ?_)
    ·intro hF hM
     have hM0:=hM;clear hM;obtain ⟨x25,hx26,hM⟩:=aC hM0;clear hM0
     have hcx25:=ih none (p21.2) (gt i_.L p21.1) (by (have h9:=gd (i:=i_) (cm (l:=i_.L) (i:=p21.1) (by omega));omega)) (by (have h9:=gd (i:=i_) (cm (l:=i_.L) (i:=p21.1) (by omega));omega))
     rw [←hx26] at hcx25
     refine eh [0] hcx25 (by decide) (bB hF) (bB hF) (fun hw27=> ?_)
     replace hw27:=nzQ hw27
     exact auP
    ·intro hF hM
     subst hM
     exact dC [0] (bB hF) (by decide) (bB hF)
theorem Lh: ∀(N:Nat) (z0:Option Bool) (out:(List Int)) (i_:aa),(hgt i_≤500000000)→hgt i_<N→dB En 99 [.own 0,.agg [.int .i64 i_.Kind,.int .i64 i_.N,.sl none 1 false (i_.B.map (V.int .u8)),.sl none 4 true (i_.L.map aw)]] [.own 5 1 false z0 (out.map (V.int .u8))] (.own 0) [.own 5 1 false none ((fi out i_).map (V.int .u8))] []:=by
 intro N
 induction N with
 | zero=>intro z0 out i_ h0 h;exact absurd h (Nat.not_lt_zero _)
 | succ N ih=>
  intro z0 out i_ h0 h
  have h9:=Lg N ih z0 out i_ h0 h
  rw [J6] at h9
  exact h9
theorem Li (z0:Option Bool) (out:(List Int)) (i_:aa) (hp0:hgt i_≤500000000):dB En 99 [.own 0,.agg [.int .i64 i_.Kind,.int .i64 i_.N,.sl none 1 false (i_.B.map (V.int .u8)),.sl none 4 true (i_.L.map aw)]] [.own 5 1 false z0 (out.map (V.int .u8))] (.own 0) [.own 5 1 false none ((fi out i_).map (V.int .u8))] []:=
 Lh (hgt i_+1) z0 out i_ hp0 (Nat.lt_succ_self _)
set_option maxHeartbeats 2000000 in
set_option maxRecDepth 100000 in
theorem Lj (i_:aa) (hp0:hgt i_≤500000000):CM En (iB i_) 43 [.agg [.int .i64 i_.Kind,.int .i64 i_.N,.sl none 1 false (i_.B.map (V.int .u8)),.sl none 4 true (i_.L.map aw)]] (fun y=> .tup [.sl none 1 false (y.1.map (V.int .u8)),.int .i64 y.2]) (fun _=> []):=by
 refine enQ noJ Tryz.func43 Tryz.ntmps43 (iB.eq_1 ..) fun r hw=> ?_
 refine aF fun _ _ _ _=> ?_
 refine aJ fun _ _ _=> ?_
 intro hF hM
 have hM0:=hM;clear hM;obtain ⟨x7,hx8,hM⟩:=aC hM0;clear hM0
 have hcx7:=Jc (pre:=[]) (post:=[_]) (Li (some true) ([]:List Int) i_ (by (exact pfQ))) (by decide)
 rw [←hx8] at hcx7
 simp only [List.nil_append,List.cons_append] at hcx7
 refine IU hcx7 clQ (fun hw9=> ?_)
 replace hw9:=nzQ hw9
 exact auP
set_option maxHeartbeats 2000000 in
set_option maxRecDepth 100000 in
theorem Lk (b:eH) (l:(List ff)) (p_:av) (hp0:p_.Holdings.length=0) (hp1:p_.Open.length=0):CM En (xi b l p_) 34 [(jX b),.sl none 11 true (l.map ld),(bL p_)] (fun y=> .bool y) (fun _=> []):=by
 refine enQ noJ Tryz.func34 Tryz.ntmps34 (xi.eq_1 ..) fun r hw=> ?_
 refine aF fun _ _ _ _=> ?_
 refine ax fun _ _ _=> ?_
 refine ax fun _ _ _=> ?_
 refine ax fun _ _ _=> ?_
 refine ax fun _ _ _=> ?_
 refine ax fun _ _ _=> ?_
 refine ax fun _ _ _=> ?_
 refine aF fun _ _ _ _=> ?_
 refine ax fun _ _ _=> ?_
 refine ax fun _ _ _=> ?_
 refine aJ fun _ _ _=> ?_
 intro hF hM
 have hM0:=hM;clear hM;obtain ⟨f26,d26,hf26,hd26,hM⟩:=aH hM0;clear hM0
 refine bm (fun n S=> ∃p:Int×List (List Int),S=(⟨[(1,.sl none 11 true (l.map ld)),(3,.ptr 0 0),(5,.ptr 1 0),(9,.own 2),(69,.sl none 46 true (p_.Holdings.map bD)),(70,.int .i64 (p_.Holdings.length:Int)),(71,.int .i64 p.1)],[(0,.var 6 true ((jX b))),(1,.var 39 true ((bL p_))),(2,.kset false .i64 1 p.2)],3⟩:St)∧((0≤p.1)∧(p.1≤(p_.Holdings.length:Int)))∧((p_.Holdings.length:Int) - p.1).toNat<n∧ah n f26 d26 p=r) (((p_.Holdings.length:Int) - 0).toNat+1) _ sbQ sbQ ⟨(0,([]:List (List Int))),rfl,⟨omQ,omQ⟩,(Nat.lt_succ_self _),hM⟩ ?_
 clear hM
 rintro n26 S ⟨p26,rfl,hfa26,hm26,hM⟩
 have hM0:=hM;clear hM;obtain ⟨ag26,hag26,hM⟩:=aI hM0 (by omega) hf26;clear hM0
 replace hfa26:=nzQ hfa26
 replace hm26:=nzQ hm26
 have ha26:ak .i64 p26.1 1=p26.1+1:=aR omQ omQ
 replace hF:=(And.intro ha26 hF)
 revert hM;revert hF
 refine slQ ?_
 refine cdQ (fun _ _ _=> ?_) (fun _ _ _=> ?_)
 ·intro hF hM
  exact False.elim (by (clear hM;omega))
 ·intro hF hM
  have hM0:=hM;clear hM;obtain ⟨f30,d30,hf30,hd30,hM⟩:=aH hM0;clear hM0
  refine bm (fun n S=> ∃p:Int,S=(⟨[(1,.sl none 11 true (l.map ld)),(3,.ptr 0 0),(5,.ptr 1 0),(95,.sl none 59 true (p_.Open.map bU)),(96,.int .i64 (p_.Open.length:Int)),(97,.int .i64 p)],[(0,.var 6 true ((jX b))),(1,.var 39 true ((bL p_)))],3⟩:St)∧((0≤p)∧(p≤(p_.Open.length:Int)))∧((p_.Open.length:Int) - p).toNat<n∧ah n f30 d30 p=r) (((p_.Open.length:Int) - 0).toNat+1) _ sbQ sbQ ⟨0,rfl,⟨omQ,omQ⟩,(Nat.lt_succ_self _),hM⟩ ?_
  clear hM
  rintro n30 S ⟨p30,rfl,hfa30,hm30,hM⟩
  have hM0:=hM;clear hM;obtain ⟨ag30,hag30,hM⟩:=aI hM0 (by omega) hf30;clear hM0
  replace hfa30:=nzQ hfa30
  replace hm30:=nzQ hm30
  have ha30:ak .i64 p30 1=p30+1:=aR omQ omQ
  replace hF:=(And.intro ha30 hF)
  revert hM;revert hF
  refine slQ ?_
  refine ax fun _ _ _=> ?_
  intro hF hM
  exact False.elim (by (clear hM;omega))
set_option maxHeartbeats 2000000 in
set_option maxRecDepth 100000 in
instance Qu:CM En (tf) 10 [] (fun y=> .bool y) (fun _=> []):=by
 refine enQ noJ Tryz.func10 Tryz.ntmps10 (tf.eq_1 ..) fun r hw=> ?_
 refine aF fun x1 hx2 _ _=> ?_
 have hq4:=KR hx2
 replace hq4:=nzQ hq4
 intro hF hM
 have hM0:=hM;clear hM;obtain ⟨x5,hx6,hM⟩:=aC hM0;clear hM0
 have hcx5:=cmH hx6 (K_ ([]:List ff) (x1.1) 0 (by (exact pfQ)))
 refine bl hcx5 clQ clQ (fun hw7=> ?_)
 replace hw7:=nzQ hw7
 revert hM;revert hF
 refine slQ ?_
 refine ax fun _ _ _=> ?_
 refine ax fun _ _ _=> ?_
 refine ax fun _ _ _=> ?_
 refine ax fun _ _ _=> ?_
 refine ax fun _ _ _=> ?_
 intro hF hM
 have hM0:=hM;clear hM;obtain ⟨x18,hx19,hM⟩:=aC hM0;clear hM0
 have hcx18:=cmH hx19 (Lk ({Group:=({P:=23,Q:=11,G:=4}:en),G1:=2,G2:=3,H:=6}:eH) ([]:List ff) (x1.1) (by (exact pfQ)) (by (exact pfQ)))
 refine bl hcx18 clQ clQ (fun hw20=> ?_)
 replace hw20:=nzQ hw20
 exact auP
set_option maxHeartbeats 2000000 in
set_option maxRecDepth 100000 in
instance Qv (w:aL):CM En (oi w) 36 [(bU w)] (fun y=> .bool y) (fun _=> []):=by
 refine enQ noJ Tryz.func36 Tryz.ntmps36 (oi.eq_1 ..) fun r hw=> ?_
 exact auR
set_option maxHeartbeats 2000000 in
set_option maxRecDepth 100000 in
instance Qw (s:aA):CM En (ol s) 40 [(bX s)] (fun y=> .bool y) (fun _=> []):=by
 refine enQ noJ Tryz.func40 Tryz.ntmps40 (ol.eq_1 ..) fun r hw=> ?_
 exact auR
set_option maxHeartbeats 2000000 in
set_option maxRecDepth 100000 in
instance Qx (s:(List aA)):CM En (tg s) 95 [.sl none 80 true (s.map bX),.fn 40 []] (fun y=> .int .i64 y) (fun _=> []):=by
 refine enQ noJ Tryz.func95 Tryz.ntmps95 (tg.eq_1 ..) fun r hw=> ?_
 intro hF hM
 have hM0:=hM;clear hM;obtain ⟨f1,d1,hf1,hd1,hM⟩:=aH hM0;clear hM0
 refine bm (fun n S=> ∃p:Int,S=(⟨[(0,.sl none 80 true (s.map bX)),(1,.fn 40 []),(7,.int .i64 (s.length:Int)),(8,.int .i64 p)],[],0⟩:St)∧((0≤p)∧(p≤(s.length:Int)))∧((s.length:Int) - p).toNat<n∧ah n f1 d1 p=r) (((s.length:Int) - 0).toNat+1) _ sbQ sbQ ⟨0,rfl,⟨omQ,omQ⟩,(Nat.lt_succ_self _),hM⟩ ?_
 clear hM
 rintro n1 S ⟨p1,rfl,hfa1,hm1,hM⟩
 have hM0:=hM;clear hM;obtain ⟨ag1,hag1,hM⟩:=aI hM0 (by omega) hf1;clear hM0
 replace hfa1:=nzQ hfa1
 replace hm1:=nzQ hm1
 have ha1:ak .i64 p1 1=p1+1:=aR omQ omQ
 replace hF:=(And.intro ha1 hF)
 revert hM;revert hF
 refine slQ ?_
 refine ax fun _ _ _=> ?_
 refine aF fun _ _ _ _=> ?_
 refine aJ fun _ _ _=> ?_
 intro hF hM
 refine aO (n1 - 1) _ (by omega) sbQ sbQ ⟨(p1+1),rfl,⟨omQ,omQ⟩,omQ,aM hM hag1⟩
set_option maxHeartbeats 2000000 in
set_option maxRecDepth 100000 in
instance Qy (s:(List aA)):CM En (qe s) 39 [.sl none 80 true (s.map bX),.fn 40 []] (fun y=> .bool y) (fun _=> []):=by
 refine enQ noJ Tryz.func39 Tryz.ntmps39 (qe.eq_1 ..) fun r hw=> ?_
 exact auR
set_option maxHeartbeats 2000000 in
set_option maxRecDepth 100000 in
instance Qz (h_:ay):CM En (om h_) 38 [(bD h_)] (fun y=> .bool y) (fun _=> []):=by
 refine enQ noJ Tryz.func38 Tryz.ntmps38 (om.eq_1 ..) fun r hw=> ?_
 exact auR
set_option maxHeartbeats 2000000 in
set_option maxRecDepth 100000 in
instance QA (s:(List aL)):CM En (th s) 93 [.sl none 59 true (s.map bU),.fn 36 []] (fun y=> .int .i64 y) (fun _=> []):=by
 refine enQ noJ Tryz.func93 Tryz.ntmps93 (th.eq_1 ..) fun r hw=> ?_
 intro hF hM
 have hM0:=hM;clear hM;obtain ⟨f1,d1,hf1,hd1,hM⟩:=aH hM0;clear hM0
 refine bm (fun n S=> ∃p:Int,S=(⟨[(0,.sl none 59 true (s.map bU)),(1,.fn 36 []),(7,.int .i64 (s.length:Int)),(8,.int .i64 p)],[],0⟩:St)∧((0≤p)∧(p≤(s.length:Int)))∧((s.length:Int) - p).toNat<n∧ah n f1 d1 p=r) (((s.length:Int) - 0).toNat+1) _ sbQ sbQ ⟨0,rfl,⟨omQ,omQ⟩,(Nat.lt_succ_self _),hM⟩ ?_
 clear hM
 rintro n1 S ⟨p1,rfl,hfa1,hm1,hM⟩
 have hM0:=hM;clear hM;obtain ⟨ag1,hag1,hM⟩:=aI hM0 (by omega) hf1;clear hM0
 replace hfa1:=nzQ hfa1
 replace hm1:=nzQ hm1
 have ha1:ak .i64 p1 1=p1+1:=aR omQ omQ
 replace hF:=(And.intro ha1 hF)
 revert hM;revert hF
 refine slQ ?_
 refine ax fun _ _ _=> ?_
 refine aF fun _ _ _ _=> ?_
 refine aJ fun _ _ _=> ?_
 intro hF hM
 refine aO (n1 - 1) _ (by omega) sbQ sbQ ⟨(p1+1),rfl,⟨omQ,omQ⟩,omQ,aM hM hag1⟩
set_option maxHeartbeats 2000000 in
set_option maxRecDepth 100000 in
instance QB (s:(List aL)):CM En (qf s) 35 [.sl none 59 true (s.map bU),.fn 36 []] (fun y=> .bool y) (fun _=> []):=by
 refine enQ noJ Tryz.func35 Tryz.ntmps35 (qf.eq_1 ..) fun r hw=> ?_
 exact auR
set_option maxHeartbeats 2000000 in
set_option maxRecDepth 100000 in
instance QD (s:(List ay)):CM En (tj s) 94 [.sl none 46 true (s.map bD),.fn 38 []] (fun y=> .int .i64 y) (fun _=> []):=by
 refine enQ noJ Tryz.func94 Tryz.ntmps94 (tj.eq_1 ..) fun r hw=> ?_
 intro hF hM
 have hM0:=hM;clear hM;obtain ⟨f1,d1,hf1,hd1,hM⟩:=aH hM0;clear hM0
 refine bm (fun n S=> ∃p:Int,S=(⟨[(0,.sl none 46 true (s.map bD)),(1,.fn 38 []),(7,.int .i64 (s.length:Int)),(8,.int .i64 p)],[],0⟩:St)∧((0≤p)∧(p≤(s.length:Int)))∧((s.length:Int) - p).toNat<n∧ah n f1 d1 p=r) (((s.length:Int) - 0).toNat+1) _ sbQ sbQ ⟨0,rfl,⟨omQ,omQ⟩,(Nat.lt_succ_self _),hM⟩ ?_
 clear hM
 rintro n1 S ⟨p1,rfl,hfa1,hm1,hM⟩
 have hM0:=hM;clear hM;obtain ⟨ag1,hag1,hM⟩:=aI hM0 (by omega) hf1;clear hM0
 replace hfa1:=nzQ hfa1
 replace hm1:=nzQ hm1
 have ha1:ak .i64 p1 1=p1+1:=aR omQ omQ
 replace hF:=(And.intro ha1 hF)
 revert hM;revert hF
 refine slQ ?_
 refine ax fun _ _ _=> ?_
 refine aF fun _ _ _ _=> ?_
 refine aJ fun _ _ _=> ?_
 intro hF hM
 refine aO (n1 - 1) _ (by omega) sbQ sbQ ⟨(p1+1),rfl,⟨omQ,omQ⟩,omQ,aM hM hag1⟩
set_option maxHeartbeats 2000000 in
set_option maxRecDepth 100000 in
instance QE (s:(List ay)):CM En (qg s) 37 [.sl none 46 true (s.map bD),.fn 38 []] (fun y=> .bool y) (fun _=> []):=by
 refine enQ noJ Tryz.func37 Tryz.ntmps37 (qg.eq_1 ..) fun r hw=> ?_
 exact auR
set_option maxHeartbeats 2000000 in
set_option maxRecDepth 100000 in
instance QF (p_:av):CM En (mK p_) 11 [(bL p_)] (fun y=> .bool y) (fun _=> []):=by
 refine enQ noJ Tryz.func11 Tryz.ntmps11 (mK.eq_1 ..) fun r hw=> ?_
 exact auR
set_option maxRecDepth 100000 in
theorem xS (z0:Option Bool) (s:List Int):a8 En 122 [.sl z0 1 false (s.map (V.int .u8))] (.own 0) [.own 5 1 false none ((qh s).map (V.int .u8))]:=by
 show a8 En 122 [.sl z0 1 false (s.map (V.int .u8))] (.own 0) [.own 5 1 false none (s.map (V.int .u8))]
 refine AQ (pre:=[]) (post:=[]) (fun hl=> ?_) ?_ z0
 ·have hl:s=[]:=by cases s with|nil=>rfl|cons a s=>cases hl
  subst hl
  refine ef bn cJ noJ Tryz.func122 rfl Tryz.ntmps122 (by kernel_rfl) fun hw=>cO ?_
  simp only [go_sem,eZ,fb,List.length_replicate,dl,Int.toNat_natCast,↓reduceIte,Nat.reduceEqDiff,Nat.reduceAdd,Int.reduceAdd,Nat.reduceMul,Nat.reduceLeDiff,Nat.reduceLT,Int.reduceLE,Int.reduceLT,Int.reduceNeg,Int.reduceToNat,List.nil_append]
  exact AP (by decide)
 ·refine ef bn cJ noJ Tryz.func122 rfl Tryz.ntmps122 (by kernel_rfl) fun hw=>cO ?_
  simp only [go_sem,eZ,fb,List.length_replicate,dl,Int.toNat_natCast,↓reduceIte,Nat.reduceEqDiff,Nat.reduceAdd,Int.reduceAdd,Nat.reduceMul,Nat.reduceLeDiff,Nat.reduceLT,Int.reduceLE,Int.reduceLT,Int.reduceNeg,Int.reduceToNat,List.nil_append]
  have hn:s.length≤1073741824:=by have h:=hw;simp only [wfL,wfV,List.nil_append,io,List.length_map] at h;exact h.1.1
  refine bM (by first|omega|(simp only [List.length_map,List.length_nil,List.nil_append];omega)) ?_
  refine spQ ?_
  refine AO 0 rfl clQ
set_option maxHeartbeats 2000000 in
set_option maxRecDepth 100000 in
instance QG (h_:(List Int)):CM En (qi h_) 157 [(bI h_)] (fun y=> .agg [.int .i64 y.Kind,.int .i64 y.N,.sl none 1 false (y.B.map (V.int .u8)),.sl none 4 true (y.L.map aw)]) (fun _=> []):=by
 refine enQ noJ Tryz.func157 Tryz.ntmps157 (qi.eq_1 ..) fun r hw=> ?_
 intro hF hM
 have hM0:=hM;clear hM;obtain ⟨x1,hx2,hM⟩:=aC hM0;clear hM0
 have hcx1:=xS (some false) (au 32 h_)
 rw [←hx2] at hcx1
 refine bl hcx1 clQ clQ (fun hw3=> ?_)
 replace hw3:=nzQ hw3
 exact auP
set_option maxHeartbeats 2000000 in
set_option maxRecDepth 100000 in
instance QH (l:(List Int)):CM En (dp l) 45 [.sl none 1 false (l.map (V.int .i64))] (fun y=> .agg [.int .i64 y.Kind,.int .i64 y.N,.sl none 1 false (y.B.map (V.int .u8)),.sl none 4 true (y.L.map aw)]) (fun _=> []):=by
 refine enQ noJ Tryz.func45 Tryz.ntmps45 (dp.eq_1 ..) fun r hw=> ?_
 intro hF hM
 have hM0:=hM;clear hM;obtain ⟨f1,d1,hf1,hd1,hM⟩:=aH hM0;clear hM0
 refine bN (fun n S=> ∃p:Int×List aa,S=(⟨[(2,.ptr 0 0),(3,.ptr 1 0),(7,.sl none 1 false (l.map (V.int .i64))),(8,.int .i64 (l.length:Int)),(9,.int .i64 p.1)],[(0,.var 4 true (.agg [.int .i64 0,.int .i64 0,.sl (some true) 1 false [],.sl (some true) 4 true []])),(1,.var 4 true (.agg [.int .i64 3,.int .i64 0,.sl (some true) 1 false [],.own 2])),(2,.own 126 4 true none (p.2.map aw))],3⟩:St)∧((0≤p.1)∧(p.1≤(l.length:Int))∧(((p.2).length:Int)≤p.1))∧((l.length:Int) - p.1).toNat<n∧ah n f1 d1 p=r) (((l.length:Int) - 0).toNat+1) _ _ (dm 1 3 126 rfl rfl (by decide)) sbQ sbQ ⟨(0,([]:List aa)),rfl,⟨omQ,omQ,omQ⟩,(Nat.lt_succ_self _),hM⟩ ?_
 clear hM
 rintro n1 S ⟨p1,rfl,hfa1,hm1,hM⟩
 have hM0:=hM;clear hM;obtain ⟨ag1,hag1,hM⟩:=aI hM0 (by omega) hf1;clear hM0
 replace hfa1:=nzQ hfa1
 replace hm1:=nzQ hm1
 have ha1:ak .i64 p1.1 1=p1.1+1:=aR omQ omQ
 replace hF:=(And.intro ha1 hF)
 revert hM;revert hF
 refine slQ ?_
 refine ax fun _ _ _=> ?_
 intro hF hM
 refine aO (n1 - 1) _ (by omega) sbQ sbQ ⟨((p1.1+1),(p1.2++([({Kind:=1,N:=(gt l p1.1),B:=([]:List Int),L:=([]:List aa)}:aa)]:List aa))),rfl,⟨omQ,omQ,omQ⟩,omQ,aM hM hag1⟩
instance (priority:=1007):DRD 0 16 14 [4,5,6,7,8,9,10,11,12,13,14,15] [] [[],[0],[0,1],[0,1,2],[],[4],[0,1,2,3],[],[0,1,2,3,6,7],[0,1,2,3,6,7,8],[0,1,2,3,4,5,6,7,8,9],[0],[0,11],[0,1,2,3,7,8,11,12]] [(8,1),(10,10),(13,0)]:=⟨trivial⟩
set_option maxHeartbeats 2000000 in
set_option maxRecDepth 100000 in
theorem CR (z0_1:Option Bool) (z1:Option Bool) (w_:eI) (l_:(List Int)) (hp0:w_.l.length≤1000):dB En 159 [.ptr 0 0,.sl z1 1 false (l_.map (V.int .i64))] [.var 1 true (.agg [.own 1]),.own 126 4 true z0_1 (w_.l.map aw)] (.tup []) [.var 1 true (.agg [.own 1]),.own 126 4 true none ((kc w_ l_).l.map aw)] []:=by
 generalize hM:kc w_ l_=r
 rw [kc.eq_1] at hM
 refine kZ bn cJ noJ Tryz.func159 rfl Tryz.ntmps159 (by kernel_rfl) rfl fun ks hw hwB=>cO ?_
 refine spQ ?_
 replace hw:=nzQ hw
 replace hwB:=nzB hwB
 have hF:=gI
 revert hM;revert hF
 refine slQ ?_
 refine aF fun _ _ _ _=> ?_
 intro hF hM
 subst hM
 exact dC [0,10] (bB hF) (by decide) (bB hF)
end Go.Proofs.YtiknkaadhomeiaaGreatDoor
