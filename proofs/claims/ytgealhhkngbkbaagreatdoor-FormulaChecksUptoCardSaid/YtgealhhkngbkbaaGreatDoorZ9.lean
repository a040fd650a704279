/- Texts of this proof, one after the other: HG, HT, HK, A1, A2, LX, HL. -/
import Derived.Test.YtgealhhkngbkbaaGreatDoorZ8
import Derived.Lib.ItoaLen
import Derived.Lib.SplitLaws
import Derived.Lib.ItoaMem
set_option linter.unusedVariables false
set_option linter.unusedSimpArgs false
namespace Go.Proofs.YtgealhhkngbkbaaGreatDoor
open Go.RowKit
set_option linter.unusedVariables false
set_option linter.unusedSimpArgs false
def okX (x:Int):Prop:=1≤x∧x<2305843009213693952
def fT (r:aH):Prop:=r.Y.length≤8∧r.Bases.length=r.Y.length∧(∀x∈r.Bases,x.length≤12)∧(∀y∈r.Y,okX y)∧ ∀x∈r.Bases,∀y∈x,okX y
mutual
def okT:aa→Prop
 | ⟨k,r,l⟩=>fT r∧l.length≤8∧fg l
def fg:List aa→Prop
 | []=>True
 | f::l=>okT f∧fg l
end
theorem Br: ∀{l:List aa},fg l→ ∀x∈l,okT x
 | f::l,h,x,hx=>by
  rw [fg] at h
  rcases List.mem_cons.1 hx with rfl|hx
  ·exact h.1
  ·exact Br h.2 x hx
theorem cT {f:aa} (h:okT f):fT f.Relation∧f.L.length≤8∧ ∀x∈f.L,okT x:=by
 obtain ⟨k,r,l⟩:=f
 rw [okT] at h;exact ⟨h.1,h.2.1,Br h.2.2⟩
theorem Bs (a b:List (List UInt8)):cC (a++b)=cC a+cC b:=by simp [cC]
theorem Bt (a:List UInt8):cC [a]=a.length:=by simp [cC]
theorem wY {l:List (List UInt8)} {n m:Nat} (h1:cC l≤n) (h2:l.length≤m) (h:n+m*2≤1000000):(Lib.join l [44,32]).length≤1000000:=by
 have:=A8 l [44,32]
 simp only [List.length_cons,List.length_nil] at this
 omega
theorem pZ {x:List UInt8} {l:List (List UInt8)} (h:x=strings_Join l [44,32]):x.length≤cC l+l.length*2:=by
 rw [h];exact A8 l [44,32]
theorem Bu: ∀l:List aa,du l=l.map cN
 | []=>rfl
 | f::l=>by rw [du,Bu l];rfl
theorem KN {α β R:Type} [Inhabited α] {l:List α} (f:α→β) (E:List β→R) {F:(Int×List β→R)→Int×List β→R} {d:Int×List β→R} (hF: ∀ag p,F ag p=if decide (p.1<(l.length:Int))=true then ag (p.1+1,p.2++[f (gt l p.1)]) else E p.2):
  ae (((l.length:Int) - 0).toNat+1) F d (0,[])=E (l.map f):=by
 have key: ∀(m k:Nat) (a:List β),l.length - k=m→k≤l.length→ ∀fuel,m<fuel→ae fuel F d ((k:Int),a)=E (a++(l.drop k).map f):=by
  intro m
  induction m with
  | zero=>
   intro k a e1 e2 fuel hf
   obtain ⟨g,rfl⟩: ∃g,fuel=g+1:=⟨fuel - 1,by omega⟩
   rw [ae,hF,if_neg (by simp;omega),List.drop_of_length_le (by omega)]
   simp
  | succ m ih=>
   intro k a e1 e2 fuel hf
   obtain ⟨g,rfl⟩: ∃g,fuel=g+1:=⟨fuel - 1,by omega⟩
   have hk:k<l.length:=by omega
   rw [ae,hF,if_pos (by simp;omega),List.drop_eq_getElem_cons hk,List.map_cons]
   dsimp only
   rw [g_ hk]
   have:=ih (k+1) (a++[f l[k]]) (by omega) (by omega) g (by omega)
   rw [show ((k:Int)+1)=((k+1:Nat):Int) by omega,this]
   simp
 have h5:=key l.length 0 [] (by omega) (by omega) (((l.length:Int) - 0).toNat+1) (by omega)
 simpa using h5
theorem KO (f:aa):pI f=cN f:=by
 obtain ⟨k,r,l⟩:=f
 unfold pI
 by_cases h:k=1
 ·subst h;rw [if_pos (show ((1:Int)==1)=true from rfl),cN,if_pos rfl,az]
 ·rw [if_neg (by simpa using h),cN,if_neg h]
  refine (KN (l:=l) cN (fun L=>if (k==3)=true then (([111,114]++[40])++strings_Join L [44,32])++[41] else (([97,110,100]++[40])++strings_Join L [44,32])++[41]) (fun ag p=>rfl)).trans ?_
  rw [Bu]
  by_cases h3:k=3<;>simp [h3]
def bd (b:Bool):Nat:=if b=true then 1 else 0
theorem s4 {b:Bool}:b=false→bd b=0:=fun h=>by rw [h];rfl
theorem hO (b:Bool):b=false→bd b=0:=s4
theorem Bv (b:Bool):bd b≤1:=by cases b<;>decide
instance PT (s t:List UInt8):CF (lZ s t) (fun x=>x=true→(t.length:Int)≤(s.length:Int)):=⟨fun h=>by
 unfold lZ at h
 split at h
 ·rename_i h1;have:=of_decide_eq_true h1;omega
 ·cases h⟩
theorem KP (s t:List UInt8):pi s t=if t.isPrefixOf s=true then (s.drop t.length,true) else (s,false):=by
 have hh:lZ s t=t.isPrefixOf s:=by
  unfold lZ
  by_cases hl:(s.length:Int)≥(t.length:Int)
  ·rw [if_pos (by simpa using hl)]
   have e:(s.drop (0:Int).toNat).take ((t.length:Int).toNat - (0:Int).toNat)=s.take t.length:=by simp
   rw [e]
   by_cases hp:t.isPrefixOf s=true
   ·rw [hp]
    obtain ⟨u,rfl⟩:=List.isPrefixOf_iff_prefix.1 hp
    simp
   ·rw [Bool.not_eq_true] at hp
    rw [hp]
    refine beq_eq_false_iff_ne.2 fun he=> ?_
    have:t.isPrefixOf s=true:=List.isPrefixOf_iff_prefix.2 ⟨s.drop t.length,(congrArg (· ++s.drop t.length) he.symm).trans (List.take_append_drop _ _)⟩
    rw [hp] at this;cases this
  ·rw [if_neg (by simpa using hl)]
   cases hp:t.isPrefixOf s with
   | false=>rfl
   | true=>
    obtain ⟨u,rfl⟩:=List.isPrefixOf_iff_prefix.1 hp
    simp at hl
    omega
 unfold pi su
 rw [az,az,hh]
 by_cases hp:t.isPrefixOf s=true
 ·rw [hp,if_neg (by decide),if_pos rfl]
  have e:(s.drop (t.length:Int).toNat).take ((s.length:Int).toNat - (t.length:Int).toNat)=s.drop t.length:=by
   rw [Int.toNat_natCast,Int.toNat_natCast,List.take_of_length_le (by rw [List.length_drop];exact Nat.le_refl _)]
  rw [e]
 ·rw [Bool.not_eq_true] at hp
  rw [hp,if_pos (by decide),if_neg (by decide)]
theorem wZ (p:ay) (t:List UInt8):bc p t=if t.isPrefixOf p.s=true then (true,{s:=p.s.drop t.length,bad:=p.bad}) else (false,p):=by
 unfold bc
 rw [az,KP]
 by_cases hp:t.isPrefixOf p.s=true
 ·rw [if_pos hp,if_pos hp]
 ·rw [if_neg hp,if_neg hp]
theorem eC {x:Bool×ay} {p:ay} {t:List UInt8} (h:x=bc p t):x.2.s.length≤p.s.length∧bd x.2.bad=bd p.bad:=by
 rw [h,wZ]
 split
 ·exact ⟨by simp,rfl⟩
 ·exact ⟨Nat.le_refl _,rfl⟩
theorem gG {x:Bool×ay} {p:ay} {t:List UInt8} (h:x=bc p t) (ht:1≤t.length):x.1=true→x.2.s.length<p.s.length:=by
 rw [h,wZ]
 split
 ·rename_i hp
  intro _
  obtain ⟨u,e⟩:=List.isPrefixOf_iff_prefix.1 hp
  simp only [←e,List.length_drop,List.length_append]
  omega
 ·intro h;cases h
theorem KQ (p:ay) (t:List UInt8):cG p t=if t.isPrefixOf p.s=true then {s:=p.s.drop t.length,bad:=p.bad} else {s:=p.s,bad:=true}:=by
 unfold cG
 rw [az,wZ]
 by_cases hp:t.isPrefixOf p.s=true
 ·rw [if_pos hp,if_pos hp];rfl
 ·rw [if_neg hp,if_neg hp];rfl
theorem iL {x p:ay} {t:List UInt8} (h:x=cG p t):x.s.length≤p.s.length∧bd p.bad≤bd x.bad:=by
 rw [h,KQ]
 split
 ·exact ⟨by simp,Nat.le_refl _⟩
 ·exact ⟨Nat.le_refl _,by have:=Bv p.bad;show _≤1;omega⟩
def pF (y p:ay):Prop:=y.s.length≤p.s.length∧y.s.length+1≤p.s.length+bd y.bad∧bd p.bad≤bd y.bad
theorem w3 {y p:ay} (h:y.s.length≤p.s.length) (hb:y.bad=true):pF y p:=by
 have:=Bv p.bad
 have e:bd y.bad=1:=by rw [hb];rfl
 refine ⟨h,by omega,by omega⟩
theorem w4 {y p:ay} (h:y.s.length<p.s.length) (hb:bd p.bad≤bd y.bad):pF y p:=⟨by omega,by omega,hb⟩
theorem s5 {σ R:Type} {F:(σ→R)→σ→R} {d:σ→R} (I:σ→Prop) (Q:R→Prop) (meas:σ→Nat) (h: ∀f p,I p→(∀q,I q→meas q<meas p→Q (f q))→Q (F f p)): ∀(n:Nat) (p:σ),I p→meas p<n→Q (ae n F d p)
 | 0,p,_,hn=>absurd hn (Nat.not_lt_zero _)
 | n+1,p,hp,hn=>by
  rw [ae]
  exact h _ p hp (fun q hq hm=>s5 I Q meas h n q hq (by omega))
theorem s6 {x:Int×ay} {p:ay} (h:x=dO p):pF x.2 p:=by
 rw [h]
 unfold dO
 refine s5 (R:=Int×ay) (fun k:Int=>0≤k∧k≤(p.s.length:Int)) (fun r=>pF r.2 p) (fun k=>((p.s.length:Int) - k).toNat) (fun f k hk hf=> ?_) _ 0 ⟨by omega,by omega⟩ (by omega)
 have hd:((p.s.drop k.toNat).take (p.s.length - k.toNat)).length≤p.s.length:=by
  rw [List.length_take,List.length_drop];omega
 have hd1:k≠0→((p.s.drop k.toNat).take (p.s.length - k.toNat)).length<p.s.length:=fun h0=>by
  rw [List.length_take,List.length_drop];omega
 have hgood: ∀(b:Bool) (v:Int),k≠0→pF ((v,({s:=(p.s.drop k.toNat).take (p.s.length - k.toNat),bad:=p.bad}:ay)):Int×ay).2 p:=fun b v h0=>w4 (hd1 h0) (Nat.le_refl _)
 have hbad:pF ((0,({s:=(p.s.drop k.toNat).take (p.s.length - k.toNat),bad:=true}:ay)):Int×ay).2 p:=w3 hd rfl
 have htail:pF (if (k==0)=true then ((0,{s:=(p.s.drop k.toNat).take (p.s.length - k.toNat),bad:=true}):Int×ay) else (if (decide (k>1))=true then (if ((((p.s.take k.toNat).getD 0 0).toNat:Int)==48)=true then (0,{s:=(p.s.drop k.toNat).take (p.s.length - k.toNat),bad:=true}) else (ab (gx (p.s.take k.toNat)) (fun x=>if (!x.2)=true then (0,{s:=(p.s.drop k.toNat).take (p.s.length - k.toNat),bad:=p.bad}) else (x.1,{s:=(p.s.drop k.toNat).take (p.s.length - k.toNat),bad:=p.bad})))) else (ab (gx (p.s.take k.toNat)) (fun x=>if (!x.2)=true then (0,{s:=(p.s.drop k.toNat).take (p.s.length - k.toNat),bad:=p.bad}) else (x.1,{s:=(p.s.drop k.toNat).take (p.s.length - k.toNat),bad:=p.bad}))))).2 p:=by
  by_cases h0:k=0
  ·rw [if_pos (by simpa using h0)];exact hbad
  ·rw [if_neg (by simpa using h0)]
   split
   ·split
    ·exact hbad
    ·rw [az];split
     ·exact hgood true 0 h0
     ·exact hgood true _ h0
   ·rw [az];split
    ·exact hgood true 0 h0
    ·exact hgood true _ h0
 try dsimp only
 by_cases c0:k<(p.s.length:Int)
 ·rw [if_pos (by simpa using c0)]
  by_cases c1:((p.s.getD k.toNat 0).toNat:Int)≥48
  ·rw [if_pos (by simpa using c1)]
   by_cases c2:((p.s.getD k.toNat 0).toNat:Int)≤57
   ·rw [if_pos (by simpa using c2)]
    exact hf _ ⟨by omega,by omega⟩ (by omega)
   ·rw [if_neg (by simpa using c2)];exact htail
  ·rw [if_neg (by simpa using c1)];exact htail
 ·rw [if_neg (by simpa using c0)];exact htail
theorem w5 {x:Int×ay} {p:ay} (h:x=dO p):x.2.s.length≤p.s.length∧x.2.s.length+1≤p.s.length+bd x.2.bad∧bd p.bad≤bd x.2.bad:=s6 h
theorem Bw {y p q:ay} (h:pF y q) (h1:q.s.length≤p.s.length) (h2:bd p.bad≤bd q.bad):pF y p:=⟨Nat.le_trans h.1 h1,by have:=h.2.1;omega,Nat.le_trans h2 h.2.2⟩
theorem nQ {y q p:ay} (h:pF q p) (h1:y.s.length≤q.s.length) (h2:bd q.bad≤bd y.bad):pF y p:=⟨Nat.le_trans h1 h.1,by have:=h.2.1;omega,Nat.le_trans h.2.2 h2⟩
theorem Bx {x:aH×ay} {p:ay} (h:x=fO p):pF x.2 p:=by
 rw [h]
 unfold fO
 refine s5 (σ:=ay×aH×List Int×List (List Int)) (R:=aH×ay) (fun q=>q.1.s.length≤p.s.length∧bd p.bad≤bd q.1.bad) (fun r=>pF r.2 p) (fun q=>q.1.s.length) (fun f q hq hf=> ?_) _ _ ⟨Nat.le_refl _,Nat.le_refl _⟩ (Nat.lt_succ_self _)
 try dsimp only
 rw [az,az,az,az]
 have a1:=s6 (x:=dO q.1) rfl
 have a2:=iL (x:=cG (dO q.1).2 [32,61]) rfl
 have a3:=iL (x:=cG (cG (dO q.1).2 [32,61]) [32]) rfl
 have a4:=s6 (x:=dO (cG (cG (dO q.1).2 [32,61]) [32])) rfl
 have a5:pF (dO (cG (cG (dO q.1).2 [32,61]) [32])).2 q.1:=by
  refine nQ (nQ (nQ a1 a2.1 a2.2) a3.1 a3.2) a4.1 a4.2.2
 have tail: ∀(w:ay) (v s2:aH) (Y:List Int) (B:List (List Int)),pF w q.1→pF (if w.bad=true then ((v,{s:=w.s,bad:=true}):aH×ay) else ab (bc {s:=w.s,bad:=false} [93]) (fun x27=>if x27.1=true then (v,x27.2) else ab (cG x27.2 [44,32]) (fun x33=>f (x33,s2,Y,B)))).2 p:=by
  intro w v s2 Y B hw
  by_cases hb:w.bad=true
  ·rw [if_pos hb];exact w3 (Nat.le_trans hw.1 hq.1) rfl
  ·rw [if_neg hb,az]
   have hb':w.bad=false:=by simpa using hb
   have e:({s:=w.s,bad:=false}:ay)=w:=by rw [←hb']
   rw [e]
   have t1:=eC (x:=bc w [93]) rfl
   have hwp:pF (bc w [93]).2 q.1:=nQ hw t1.1 (by omega)
   split
   ·exact Bw hwp hq.1 hq.2
   ·rw [az]
    have n1:=iL (x:=cG (bc w [93]).2 [44,32]) rfl
    have hw0:bd w.bad=0:=by rw [hb'];rfl
    have hs:=hw.2.1
    refine hf _ ⟨?_,?_⟩ ?_
    ·have:=hwp.1;dsimp only;omega
    ·have:=hwp.2.2;dsimp only;omega
    ·dsimp only;omega
 refine s5 (σ:=ay×List Int) (R:=aH×ay) (fun z=>pF z.1 q.1) (fun r=>pF r.2 p) (fun z=>z.1.s.length) (fun g z hz hg=> ?_) _ _ a5 (Nat.lt_succ_self _)
 try dsimp only
 split
 ·rename_i hb
  rw [az]
  have t1:=eC (x:=bc z.1 [32]) rfl
  have hz1:pF (bc z.1 [32]).2 q.1:=nQ hz t1.1 (by omega)
  split
  ·rename_i hx
   have t2:=gG (x:=bc z.1 [32]) rfl (by decide) hx
   rw [az]
   have n1:=s6 (x:=dO (bc z.1 [32]).2) rfl
   refine hg _ (nQ hz1 n1.1 n1.2.2) ?_
   have:=n1.1
   dsimp only
   omega
  ·exact tail _ _ _ _ _ hz1
 ·exact tail _ _ _ _ _ hz
theorem KR {x:aH×ay} {p:ay} (h:x=fO p):x.2.s.length≤p.s.length∧x.2.s.length+1≤p.s.length+bd x.2.bad∧bd p.bad≤bd x.2.bad:=Bx h
theorem w6 {R:ay→aa×ay} {k:Int} {m:Nat} (hR: ∀q,q.s.length<m→pF (R q).2 q): ∀(n:Nat) (q:ay) (L:List aa),q.s.length<n→q.s.length<m→(gy R k n q L).2.s.length≤q.s.length∧bd q.bad≤bd (gy R k n q L).2.bad
 | 0,q,L,h,_=>absurd h (Nat.not_lt_zero _)
 | n+1,q,L,h,hm=>by
  have h1:=hR q hm
  rw [gy]
  by_cases hb:(R q).2.bad=true
  ·rw [if_pos hb];exact ⟨h1.1,h1.2.2⟩
  ·rw [if_neg hb]
   have hb0:bd (R q).2.bad=0:=s4 (by simpa using hb)
   have h2:=h1.2.1
   have t1:=eC (x:=bc (R q).2 [41]) rfl
   split
   ·have:=h1.2.2;exact ⟨by dsimp only;omega,by dsimp only;omega⟩
   ·have n1:=iL (x:=cG (bc (R q).2 [41]).2 [44,32]) rfl
    have h3:=w6 (k:=k) hR n (cG (bc (R q).2 [41]).2 [44,32]) (L++[(R q).1]) (by omega) (by omega)
    have:=h1.2.2
    exact ⟨by omega,by omega⟩
theorem KS {R:ay→aa×ay} {p:ay} (hR: ∀q,q.s.length<p.s.length→pF (R q).2 q):pF (kA R p).2 p:=by
 unfold kA
 have t1:=eC (x:=bc p [91]) rfl
 split
 ·rename_i h
  have r1:=Bx (x:=fO (bc p [91]).2) rfl
  exact Bw r1 t1.1 (by omega)
 ·generalize bc p [91]=x1 at t1⊢
  have t2:=eC (x:=bc x1.2 [97,110,100,40]) rfl
  split
  ·rename_i h
   have t2':=gG (x:=bc x1.2 [97,110,100,40]) rfl (by decide) h
   have l1:=w6 (k:=2) hR ((bc x1.2 [97,110,100,40]).2.s.length+1) (bc x1.2 [97,110,100,40]).2 [] (by omega) (by omega)
   exact w4 (by omega) (by omega)
  ·generalize bc x1.2 [97,110,100,40]=x2 at t2⊢
   have t3:=eC (x:=bc x2.2 [111,114,40]) rfl
   split
   ·rename_i h
    have t3':=gG (x:=bc x2.2 [111,114,40]) rfl (by decide) h
    have l1:=w6 (k:=3) hR ((bc x2.2 [111,114,40]).2.s.length+1) (bc x2.2 [111,114,40]).2 [] (by omega) (by omega)
    exact w4 (by omega) (by omega)
   ·exact w3 (by dsimp only;omega) rfl
theorem w7: ∀(n:Nat) (p:ay),p.s.length<n→pF (ju n p).2 p
 | 0,p,h=>absurd h (Nat.not_lt_zero _)
 | n+1,p,h=>by
  rw [ju]
  exact KS (fun q hq=>w7 n q (by omega))
theorem Bz {x:aa×ay} {p:ay} (h:x=bX p):pF x.2 p:=by
 rw [h];exact w7 _ p (Nat.lt_succ_self _)
theorem KU {x:aa×ay} {p:ay} (h:x=bX p):x.2.s.length≤p.s.length∧x.2.s.length+1≤p.s.length+bd x.2.bad∧bd p.bad≤bd x.2.bad:=Bz h
theorem w8 {R R':ay→aa×ay} {k:Int} {m:Nat} (hR: ∀q,q.s.length<m→pF (R q).2 q) (he: ∀q,q.s.length<m→R q=R' q): ∀(n:Nat) (q:ay) (L:List aa),q.s.length<m→gy R k n q L=gy R' k n q L
 | 0,q,L,_=>rfl
 | n+1,q,L,hm=>by
  have h1:=hR q hm
  rw [gy,gy,←he q hm]
  have t1:=eC (x:=bc (R q).2 [41]) rfl
  have n1:=iL (x:=cG (bc (R q).2 [41]).2 [44,32]) rfl
  rw [w8 hR he n _ _ (by have:=h1.1;omega)]
theorem BA {R R':ay→aa×ay} {p:ay} (hR: ∀q,q.s.length<p.s.length→pF (R q).2 q) (he: ∀q,q.s.length<p.s.length→R q=R' q):kA R p=kA R' p:=by
 unfold kA
 have t1:=eC (x:=bc p [91]) rfl
 split
 ·rfl
 ·generalize bc p [91]=x1 at t1⊢
  have t2:=eC (x:=bc x1.2 [97,110,100,40]) rfl
  split
  ·rename_i h
   have t2':=gG (x:=bc x1.2 [97,110,100,40]) rfl (by decide) h
   exact w8 hR he _ _ _ (by omega)
  ·generalize bc x1.2 [97,110,100,40]=x2 at t2⊢
   have t3:=eC (x:=bc x2.2 [111,114,40]) rfl
   split
   ·rename_i h
    have t3':=gG (x:=bc x2.2 [111,114,40]) rfl (by decide) h
    exact w8 hR he _ _ _ (by omega)
   ·rfl
theorem BB: ∀(n m:Nat) (p:ay),p.s.length<n→p.s.length<m→ju n p=ju m p
 | 0,m,p,h,_=>absurd h (Nat.not_lt_zero _)
 | n+1,0,p,_,h=>absurd h (Nat.not_lt_zero _)
 | n+1,m+1,p,h1,h2=>by
  rw [ju,ju]
  exact BA (fun q hq=>w7 n q (by omega)) (fun q hq=>BB n m q (by omega) (by omega))
theorem KV (p:ay):kA bX p=bX p:=by
 conv=>rhs;unfold bX;rw [ju]
 exact BA (fun q _=>Bz rfl) (fun q hq=>BB _ _ q (Nat.lt_succ_self _) hq)
theorem KW (p:ay):iB p=bX p:=by
 rw [←KV]
 unfold iB kA
 have hl: ∀(k:Int) (n:Nat) (q:ay) (L:List aa) (F:(ay×Int×List Int×List (List Int)×List aa×List aa→aa×ay)→ay×Int×List Int×List (List Int)×List aa×List aa→aa×ay),
   (∀ag p2,F ag p2=ab (bX p2.1) (fun x3=>if x3.2.bad=true then (({Kind:=k,Relation:=eZ,L:=p2.2.2.2.2.2++[x3.1]}:aa),({s:=x3.2.s,bad:=true}:ay)) else ab (bc {s:=x3.2.s,bad:=false} [41]) (fun x7=>if x7.1=true then ({Kind:=k,Relation:=eZ,L:=p2.2.2.2.2.2++[x3.1]},x7.2) else ab (cG x7.2 [44,32]) (fun x13=>ag (x13,p2.2.1,p2.2.2.1,p2.2.2.2.1,p2.2.2.2.2.1,p2.2.2.2.2.2++[x3.1])))))→
   ae n F (fun _=>default) (q,0,[],[],[],L)=gy bX k n q L:=by
  intro k n
  induction n with
  | zero=>intro q L F hF;rfl
  | succ n ih=>
   intro q L F hF
   rw [ae,hF,az,gy]
   dsimp only
   by_cases hb:(bX q).2.bad=true
   ·have e:({s:=(bX q).2.s,bad:=true}:ay)=(bX q).2:=by
     generalize (bX q).2=w at hb⊢
     obtain ⟨s,b⟩:=w
     simp only at hb
     rw [hb]
    rw [if_pos hb,if_pos hb,e]
   ·have e:({s:=(bX q).2.s,bad:=false}:ay)=(bX q).2:=by
     generalize (bX q).2=w at hb⊢
     obtain ⟨s,b⟩:=w
     simp only [Bool.not_eq_true] at hb
     rw [hb]
    rw [if_neg hb,if_neg hb,e,az]
    split
    ·rfl
    ·rw [az]
     exact ih _ _ F hF
 unfold gn
 dsimp only
 rw [az]
 split
 ·rw [az]
 ·rw [az]
  split
  ·exact hl 2 _ _ _ _ (fun ag p2=>rfl)
  ·rw [az]
   split
   ·exact hl 3 _ _ _ _ (fun ag p2=>rfl)
   ·rfl
mutual
def okU (n:Nat):aa→Prop
 | ⟨k,r,l⟩=>if k=1 then 1≤r.Bases.length∧(gt r.Bases 0).length≤n else mq n l
def mq (n:Nat):List aa→Prop
 | []=>True
 | f::l=>okU n f∧mq n l
end
theorem BC {n:Nat}: ∀{l:List aa},mq n l→ ∀x∈l,okU n x
 | f::l,h,x,hx=>by
  rw [mq] at h
  rcases List.mem_cons.1 hx with rfl|hx
  ·exact h.1
  ·exact BC h.2 x hx
theorem s9 {n:Nat} {f x:aa} (h:okU n f) (hk: ¬f.Kind=1) (hx:x∈f.L):okU n x:=by
 obtain ⟨k,r,l⟩:=f
 rw [okU,if_neg hk] at h;exact BC h x hx
mutual
theorem BD {n:Nat}: ∀{f:aa},okU n f→okF f
 | ⟨k,r,l⟩,h=>by
  rw [okU] at h
  rw [okF]
  split
  ·rename_i hk;rw [if_pos hk] at h;exact h.1
  ·rename_i hk;rw [if_neg hk] at h;exact BE h
theorem BE {n:Nat}: ∀{l:List aa},mq n l→kV l
 | [],_=>trivial
 | f::l,h=>by
  rw [mq] at h
  exact ⟨BD h.1,BE h.2⟩
end
theorem KX {f:aa} (hk:f.Kind=1):cX f=((gt f.Relation.Bases 0).length:Int):=by
 obtain ⟨k,r,l⟩:=f
 rw [cX,if_pos hk]
theorem KY {n:Nat} {f:aa} (h:okU n f) (hk:f.Kind=1):0≤cX f∧cX f≤(n:Int):=by
 rw [KX hk]
 obtain ⟨k,r,l⟩:=f
 rw [okU,if_pos hk] at h
 exact ⟨by omega,by have:=h.2;simp only;omega⟩
theorem BF (g:ao) (x:List Int): ∀l:List aa,sy g l x=l.all (fun f=>cY g f x)
 | []=>rfl
 | f::l=>by rw [sy,List.all_cons,BF g x l];cases cY g f x<;>rfl
theorem BG (g:ao) (x:List Int): ∀l:List aa,sA g l x=l.any (fun f=>cY g f x)
 | []=>rfl
 | f::l=>by rw [sA,List.any_cons,BG g x l];cases cY g f x<;>rfl
theorem KZ (l:List aa) (g:ao) (x:List Int):pt l g x=l.any (fun f=>cY g f x):=
 hJ (fun f=>cY g f x) (fun ag p=>rfl)
theorem K0 (l:List aa) (g:ao) (x:List Int):pr l g x=l.any (fun f=> !cY g f x):=
 hJ (fun f=> !cY g f x) (fun ag p=>rfl)
theorem K1 (g:ao) (f:aa) (x:List Int):pu g f x=cY g f x:=by
 obtain ⟨k,r,l⟩:=f
 unfold pu
 rw [cY,BF,BG,az,az,az,az,KZ,K0]
 by_cases h1:k=1
 ·simp [h1]
 ·by_cases h2:k=2
  ·simp [h1,h2,List.any_eq_not_all_not]
  ·simp [h1,h2]
mutual
def mr (G:aa→Bool):aa→Prop
 | ⟨k,r,l⟩=>G ⟨k,r,l⟩=true∧mv G l
def mv (G:aa→Bool):List aa→Prop
 | []=>True
 | f::l=>mr G f∧mv G l
end
mutual
theorem w9 (G:aa→Bool): ∀(f:aa) (d n:Int),0≤n→n≤1000→(bS G f d n).1=true→0≤(bS G f d n).2∧(bS G f d n).2+ax f≤n∧mr G f
 | ⟨k,r,l⟩,d,n,h0,h1,h=>by
  have hs:av .i64 n 1=n - 1:=dc (by omega) (by omega)
  rw [bS,hs] at h⊢
  by_cases c0:n - 1<0
  ·rw [if_pos c0] at h;cases h
  ·rw [if_neg c0] at h⊢
   by_cases c1:d>6
   ·rw [if_pos c1] at h;cases h
   ·rw [if_neg c1] at h⊢
    by_cases c2:G ⟨k,r,l⟩=false
    ·rw [if_pos c2] at h;cases h
    ·rw [if_neg c2] at h⊢
     have h2:=BH G l (al .i64 d 1) (n - 1) (by omega) (by omega) h
     refine ⟨h2.1,?_,by simpa using c2,h2.2.2⟩
     rw [ax]
     have:=h2.2.1
     omega
theorem BH (G:aa→Bool): ∀(l:List aa) (d n:Int),0≤n→n≤1000→(fb G l d n).1=true→0≤(fb G l d n).2∧(fb G l d n).2+cR l≤n∧mv G l
 | [],d,n,h0,h1,h=>⟨h0,by simp [fb,cR],trivial⟩
 | f::l,d,n,h0,h1,h=>by
  rw [wX] at h⊢
  by_cases c:(bS G f d n).1=true
  ·rw [if_pos c] at h⊢
   have h2:=w9 G f d n h0 h1 c
   have h3:=BH G l d (bS G f d n).2 h2.1 (by have:=h2.2.1;omega) h
   refine ⟨h3.1,?_,h2.2.2,h3.2.2⟩
   rw [cR]
   have:=h2.2.1
   have:=h3.2.1
   omega
  ·rw [if_neg c] at h;cases h
end
def okA (r:aH):Prop:=1≤r.Y.length∧r.Y.length≤8∧r.Bases.length=r.Y.length∧(∀x∈r.Y,okX x)∧ ∃n,1≤n∧n≤12∧ ∀row∈r.Bases,row.length=n∧ ∀x∈row,okX x
def BI (f:aa):Prop:=(f.Kind=1∧f.L=[]∧okA f.Relation)∨((f.Kind=2∨f.Kind=3)∧1≤f.L.length∧f.L.length≤8∧f.Relation.Y=[]∧f.Relation.Bases=[])
theorem BJ {l:List Int} (h:jv l=true): ∀x∈l,okX x:=by
 unfold jv at h
 rw [az] at h
 have e:pj l=l.any gZ:=hJ gZ (fun ag p=>rfl)
 rw [e] at h
 intro x hx
 have h2:l.any gZ=false:=by simpa using h
 have h3:=List.any_eq_false.1 h2 x hx
 unfold gZ at h3
 unfold okX
 by_cases c:x<1
 ·simp [c] at h3
 ·simp [c] at h3
  omega
theorem K2 {r:aH} (h:iC r=true):okA r:=by
 unfold iC at h
 simp only [az] at h
 by_cases c0:(r.Y.length:Int)<1
 ·rw [if_pos (by simpa using c0)] at h;cases h
 rw [if_neg (by simpa using c0)] at h
 by_cases c1:(r.Y.length:Int)>8
 ·rw [if_pos (by simpa using c1)] at h;cases h
 rw [if_neg (by simpa using c1)] at h
 by_cases c2:(r.Bases.length:Int)=(r.Y.length:Int)
 case neg=>rw [if_pos (by simpa using c2)] at h;cases h
 rw [if_neg (by simpa using c2)] at h
 by_cases c3:jv r.Y=true
 case neg=>rw [if_pos (by simpa using c3)] at h;cases h
 rw [if_neg (by simpa using c3)] at h
 by_cases c4:((gt r.Bases 0).length:Int)≥1
 case neg=>rw [if_neg (by simpa using c4)] at h;cases h
 rw [if_pos (by simpa using c4)] at h
 by_cases c5:((gt r.Bases 0).length:Int)≤12
 case neg=>rw [if_neg (by simpa using c5)] at h;cases h
 rw [if_pos (by simpa using c5)] at h
 have e:pk r.Bases ((gt r.Bases 0).length:Int)=r.Bases.any (fun row=>g7 row ((gt r.Bases 0).length:Int)):=hJ (fun row=>g7 row ((gt r.Bases 0).length:Int)) (fun ag p=>rfl)
 rw [e] at h
 have h2:r.Bases.any (fun row=>g7 row ((gt r.Bases 0).length:Int))=false:=by simpa using h
 refine ⟨by omega,by omega,by omega,BJ c3,(gt r.Bases 0).length,by omega,by omega,fun row hr=> ?_⟩
 have h3:=List.any_eq_false.1 h2 row hr
 unfold g7 at h3
 rw [az] at h3
 by_cases c:(row.length:Int)=((gt r.Bases 0).length:Int)
 ·rw [if_neg (by simpa using c)] at h3
  exact ⟨by omega,BJ (by simpa using h3)⟩
 ·rw [if_pos (by simpa using c)] at h3
  exact absurd rfl h3
theorem BK {f:aa} (h:cS f=true):BI f:=by
 unfold cS at h
 by_cases k1:f.Kind=1
 ·rw [if_pos (by simpa using k1)] at h
  by_cases k2:f.L.length=0
  ·rw [if_pos (by simpa using k2),az] at h
   exact .inl ⟨k1,List.length_eq_zero_iff.1 k2,K2 h⟩
  ·rw [if_neg (by simpa using k2)] at h;cases h
 ·rw [if_neg (by simpa using k1)] at h
  have key: ∀b:Bool,(if b=true then (if (decide ((f.L.length:Int)≥1))=true then (if (decide ((f.L.length:Int)≤8))=true then (if ((f.Relation.Y.length:Int)==0)=true then ((f.Relation.Bases.length:Int)==0) else false) else false) else false) else false)=true→b=true∧1≤f.L.length∧f.L.length≤8∧f.Relation.Y=[]∧f.Relation.Bases=[]:=by
   intro b hb
   cases b with
   | false=>cases hb
   | true=>
    rw [if_pos rfl] at hb
    split at hb
    ·split at hb
     ·split at hb
      ·rename_i g1 g2 g3
       refine ⟨rfl,by have:=of_decide_eq_true g1;omega,by have:=of_decide_eq_true g2;omega,?_,?_⟩
       ·have:=of_decide_eq_true g3;exact List.length_eq_zero_iff.1 (by omega)
       ·have:=of_decide_eq_true hb;exact List.length_eq_zero_iff.1 (by omega)
      ·cases hb
     ·cases hb
    ·cases hb
  by_cases k2:f.Kind=2
  ·have h':=key true (by
    have:=h
    simp only [gn,k2] at this
    exact this)
   exact .inr ⟨.inl k2,h'.2⟩
  ·have h':=key (f.Kind==3) (by
    have:=h
    simp only [gn] at this
    rw [if_neg (by simpa using k2)] at this
    exact this)
   exact .inr ⟨.inr (by simpa using h'.1),h'.2⟩
theorem BL {r:aH} (h:okA r):fT r:=by
 obtain ⟨h1,h2,h3,h4,n,h5,h6,h7⟩:=h
 exact ⟨h2,h3,fun x hx=>(by have:=(h7 x hx).1;omega),h4,fun x hx=>(h7 x hx).2⟩
theorem K3 {f:aa} (h:BI f):fT f.Relation∧f.L.length≤8:=by
 rcases h with ⟨_,h2,h3⟩|⟨_,h2,h3,h4,h5⟩
 ·exact ⟨BL h3,by rw [h2];decide⟩
 ·refine ⟨⟨by rw [h4];decide,by rw [h4,h5];rfl,fun x hx=>(by rw [h5] at hx;cases hx),fun x hx=>(by rw [h4] at hx;cases hx),fun x hx=>(by rw [h5] at hx;cases hx)⟩,h3⟩
mutual
theorem BM: ∀{f:aa},mr cS f→okT f
 | ⟨k,r,l⟩,h=>by
  rw [mr] at h
  have:=K3 (BK h.1)
  exact ⟨this.1,this.2,BN h.2⟩
theorem BN: ∀{l:List aa},mv cS l→fg l
 | [],_=>trivial
 | f::l,h=>by
  rw [mv] at h
  exact ⟨BM h.1,BN h.2⟩
end
mutual
theorem w_ {G:aa→Bool} (hG: ∀f,G f=true→f.Kind=1→1≤f.Relation.Bases.length): ∀{f:aa},mr G f→okF f
 | ⟨k,r,l⟩,h=>by
  rw [mr] at h
  rw [okF]
  split
  ·rename_i hk;exact hG _ h.1 hk
  ·exact BO hG h.2
theorem BO {G:aa→Bool} (hG: ∀f,G f=true→f.Kind=1→1≤f.Relation.Bases.length): ∀{l:List aa},mv G l→kV l
 | [],_=>trivial
 | f::l,h=>by
  rw [mv] at h
  exact ⟨w_ hG h.1,BO hG h.2⟩
end
theorem K4 {f:aa} (h:cS f=true) (hk:f.Kind=1):1≤f.Relation.Bases.length:=by
 rcases BK h with ⟨_,_,h3⟩|⟨h1,_⟩
 ·have:=h3.1;have:=h3.2.2.1;omega
 ·omega
theorem BP (f:aa):iD f=(bS cS f 1 30).1:=rfl
theorem xa {f:aa} (h:iD f=true):mr cS f∧ax f≤30:=by
 rw [BP] at h
 have w:=w9 _ f 1 30 (by decide) (by decide) h
 exact ⟨w.2.2,by have:=w.1;have:=w.2.1;omega⟩
theorem K5 {f:aa} (h:iD f=true):okT f∧ax f≤30∧okF f:=
 ⟨BM (xa h).1,(xa h).2,w_ (fun f=>K4) (xa h).1⟩
instance PU (f:aa):CF (iD f) (fun x=>x=true→okT f∧ax f≤30∧okF f):=⟨fun h=>K5 h⟩
theorem K6 {g:ao} {f:aa} (h:di f g=true) (hk:f.Kind=1):1≤f.Relation.Bases.length:=by
 unfold di at h
 rw [if_pos (by simpa using hk)] at h
 split at h
 ·rw [az] at h
  have h1:fy g f.Relation=true:=h
  have:=sU h1
  have:=this.2.1;have:=(sU h1).2.2.1
  omega
 ·cases h
theorem BQ {g:ao} {f:aa} (h:fP g f=true):okF f:=by
 have h1:(bS (fun f=>di f g) f 1 30).1=true:=by
  unfold fP at h
  rw [az] at h
  split at h
  ·exact h
  ·cases h
 exact w_ (fun f h hk=>K6 h hk) (w9 _ f 1 30 (by decide) (by decide) h1).2.2
instance PV (g:ao) (f:aa):CF (fP g f) (fun x=>x=true→okF f):=⟨fun h=>BQ h⟩
theorem K7 (a b:Int):a≤ca a b∧b≤ca a b:=by unfold ca;split<;>omega
theorem BR: ∀(l:List aa) (a:Int),a≤lY l a∧ ∀x∈l,cX x≤lY l a
 | [],a=>⟨Int.le_refl _,fun x h=>by cases h⟩
 | f::l,a=>by
  rw [lY]
  have h:=BR l (ca a (cX f))
  have m:=K7 a (cX f)
  refine ⟨by omega,fun x hx=> ?_⟩
  rcases List.mem_cons.1 hx with rfl|hx
  ·omega
  ·exact h.2 x hx
mutual
theorem BS {n:Nat}: ∀{f:aa},okF f→cX f≤(n:Int)→okU n f
 | ⟨k,r,l⟩,h,hu=>by
  rw [okF] at h
  rw [okU]
  rw [cX] at hu
  by_cases hk:k=1
  ·rw [if_pos hk] at h hu⊢;exact ⟨h,by omega⟩
  ·rw [if_neg hk] at h hu⊢
   exact BT h (fun x hx=>by have:=(BR l 0).2 x hx;omega)
theorem BT {n:Nat}: ∀{l:List aa},kV l→(∀x∈l,cX x≤(n:Int))→mq n l
 | [],_,_=>trivial
 | f::l,h,hu=>by
  rw [kV] at h
  exact ⟨BS h.1 (hu f (by simp)),BT h.2 (fun x hx=>hu x (by simp [hx]))⟩
end
end Go.Proofs.YtgealhhkngbkbaaGreatDoor
namespace Go.Proofs.YtgealhhkngbkbaaGreatDoor
open Go.RowKit Go.Lib
set_option linter.unusedVariables false
set_option linter.unusedSimpArgs false
def qa (row:List Int):List UInt8:=row.flatMap (fun b=>32::strconv_Itoa b)
def eqT (y:Int) (row:List Int):List UInt8:=strconv_Itoa y++([32,61]++qa row)
def eqs:List Int→List (List Int)→List (List UInt8)
 | y::Y,B=>eqT y (gt B 0)::eqs Y (B.drop 1)
 | [],_=> []
theorem BU {α:Type} [Inhabited α] {l:List α} {R:Type} (f:α→List UInt8) (E:List UInt8→R) {F:(List UInt8×Int→R)→List UInt8×Int→R} {d:List UInt8×Int→R} (hF: ∀ag p,F ag p=if decide (p.2<(l.length:Int))=true then ag (p.1++f (gt l p.2),p.2+1) else E p.1) (a:List UInt8):
  ae (((l.length:Int) - 0).toNat+1) F d (a,0)=E (a++l.flatMap f):=by
 have key: ∀(m k:Nat) (a:List UInt8),l.length - k=m→k≤l.length→ ∀fuel,m<fuel→ae fuel F d (a,(k:Int))=E (a++(l.drop k).flatMap f):=by
  intro m
  induction m with
  | zero=>
   intro k a e1 e2 fuel hf
   obtain ⟨g,rfl⟩: ∃g,fuel=g+1:=⟨fuel - 1,by omega⟩
   rw [ae,hF,if_neg (by simp;omega),List.drop_of_length_le (by omega)]
   simp
  | succ m ih=>
   intro k a e1 e2 fuel hf
   obtain ⟨g,rfl⟩: ∃g,fuel=g+1:=⟨fuel - 1,by omega⟩
   have hk:k<l.length:=by omega
   rw [ae,hF,if_pos (by simp;omega),List.drop_eq_getElem_cons hk,List.flatMap_cons]
   dsimp only
   rw [g_ hk]
   have:=ih (k+1) (a++f l[k]) (by omega) (by omega) g (by omega)
   rw [show ((k:Int)+1)=((k+1:Nat):Int) by omega,this,List.append_assoc]
 have h5:=key l.length 0 a (by omega) (by omega) (((l.length:Int) - 0).toNat+1) (by omega)
 simpa using h5
theorem BV (r:aH):jC r=([91]++strings_Join (eqs r.Y r.Bases) [44,32])++[93]:=by
 unfold jC
 have key: ∀(m k:Nat) (a:List (List UInt8)),r.Y.length - k=m→k≤r.Y.length→ ∀fuel,m<fuel→ ∀(F:(Int×List (List UInt8)→List UInt8)→Int×List (List UInt8)→List UInt8) (d:Int×List (List UInt8)→List UInt8),
   (∀ag p,F ag p=if decide (p.1<(r.Y.length:Int))=true then ag (p.1+1,p.2++[eqT (gt r.Y p.1) (gt r.Bases p.1)]) else ([91]++strings_Join p.2 [44,32])++[93])→
   ae fuel F d ((k:Int),a)=([91]++strings_Join (a++eqs (r.Y.drop k) (r.Bases.drop k)) [44,32])++[93]:=by
  intro m
  induction m with
  | zero=>
   intro k a e1 e2 fuel hf F d hF
   obtain ⟨g,rfl⟩: ∃g,fuel=g+1:=⟨fuel - 1,by omega⟩
   rw [ae,hF,if_neg (by simp;omega),List.drop_of_length_le (show r.Y.length≤k by omega),eqs,List.append_nil]
  | succ m ih=>
   intro k a e1 e2 fuel hf F d hF
   obtain ⟨g,rfl⟩: ∃g,fuel=g+1:=⟨fuel - 1,by omega⟩
   have hk:k<r.Y.length:=by omega
   have e:gt (r.Bases.drop k) 0=gt r.Bases (k:Int):=by simp [gt,List.getD_eq_getElem?_getD]
   rw [ae,hF,if_pos (by simp;omega),List.drop_eq_getElem_cons hk,eqs,e,List.drop_drop]
   dsimp only
   rw [g_ hk]
   have:=ih (k+1) (a++[eqT r.Y[k] (gt r.Bases (k:Int))]) (by omega) (by omega) g (by omega) F d hF
   rw [show ((k:Int)+1)=((k+1:Nat):Int) by omega,this,List.append_assoc a]
   rfl
 refine (key r.Y.length 0 [] (by omega) (by omega) (((r.Y.length:Int) - 0).toNat+1) (by omega) _ (fun _=>default) (fun ag p=> ?_)).trans ?_
 ·try dsimp only
  split
  ·rw [az]
   have h:=BU (l:=gt r.Bases p.1) (fun b=> [32]++strconv_Itoa b) (fun s=>ag (p.1+1,p.2++[s])) (d:=fun _=>default) (F:=fun (ag9:(List UInt8×Int)→(List UInt8)) (p9:List UInt8×Int)=>(if (decide (p9.2<((gt r.Bases p.1).length:Int))) then (ab (strconv_Itoa (gt (gt r.Bases p.1) p9.2)) (fun (x13:(List UInt8))=>(ag9 ((p9.1++([32]++x13)),(p9.2+1))))) else (ag (p.1+1,p.2++[p9.1])))) (fun ag9 p9=>rfl) (strconv_Itoa (gt r.Y p.1)++[32,61])
   refine h.trans ?_
   rw [List.append_assoc]
   rfl
  ·rw [az]
 ·rw [List.nil_append,List.drop_zero,List.drop_zero]
theorem K8 {g:ao} {r:aH} (h:okR g r): ∀x∈r.Bases,x.length≤12:=fun x hx=>by have:=h.2.2.2.2.1 x hx;have:=h.2.2.2.2.2;omega
theorem jL {g:ao} {r:aH} (h:okR g r):1≤g.Q∧r.Bases.length=r.Y.length∧1≤r.Y.length∧r.Y.length≤8:=⟨h.1,h.2.1,h.2.2.1,h.2.2.2.1⟩
theorem nR {g:ao} {r:aH} {z:List Int} {x:Int} (h:okR g r) (hx:x=fc r) (hz:(z.length:Int)=x): ∀x∈r.Bases,x.length≤z.length∧x.length≤1000:=fun y hy=>by have:=h.2.2.2.2.1 y hy;have:=K8 h y hy;omega
theorem tc {n:Int} {x:List UInt8} (h:x=strconv_Itoa n) (hn:okX n):x.length≤21:=by
 rw [h];exact Lib.itoa_length_le n (by have:=hn.1;omega) (by have:=hn.2;omega)
theorem BW {r:aH} {i:Int} {x:List UInt8} (hr:fT r) (h:x=strconv_Itoa (gt r.Y i)) (hi:i.toNat<r.Y.length):x.length≤21:=tc h (hr.2.2.2.1 _ (aI hi))
theorem BX {r:aH} {i j:Int} {x:List UInt8} (hr:fT r) (h:x=strconv_Itoa (gt (gt r.Bases i) j)) (hi:i.toNat<r.Bases.length) (hj:j.toNat<(gt r.Bases i).length):x.length≤21:=tc h (hr.2.2.2.2 _ (aI hi) _ (aI hj))
theorem fB {r:aH} (h:fT r) {i:Int} (hi:i.toNat<r.Bases.length):(gt r.Bases i).length≤12:=h.2.2.1 _ (aI hi)
theorem BZ: ∀{l:List Int},(∀x∈l,okX x)→(qa l).length≤22*l.length
 | [],_=>Nat.le_refl _
 | a::l,h=>by
  have h1:=BZ (l:=l) (fun x hx=>h x (List.mem_cons_of_mem _ hx))
  have h2:=tc rfl (h a List.mem_cons_self)
  unfold qa at h1⊢
  rw [List.flatMap_cons,List.length_append,List.length_cons,List.length_cons]
  omega
theorem B0: ∀(Y:List Int) (B:List (List Int)),(∀y∈Y,okX y)→(∀x∈B,x.length≤12∧ ∀y∈x,okX y)→B.length=Y.length→cC (eqs Y B)≤290*Y.length∧(eqs Y B).length=Y.length
 | [],_,_,_,_=>⟨by simp [eqs,cC],rfl⟩
 | y::Y,[],_,_,h=>by cases h
 | y::Y,b::B,h1,h2,h3=>by
  have ih:=B0 Y B (fun x hx=>h1 x (List.mem_cons_of_mem _ hx)) (fun x hx=>h2 x (List.mem_cons_of_mem _ hx)) (by simpa using h3)
  have hb:=h2 b List.mem_cons_self
  have h4:=BZ hb.2
  have h5:=tc rfl (h1 y List.mem_cons_self)
  have e:gt (b::B) 0=b:=rfl
  rw [eqs,e,List.drop_one,List.tail_cons,List.length_cons,List.length_cons]
  refine ⟨?_,by rw [ih.2]⟩
  have e2:cC (eqT y b::eqs Y B)=(eqT y b).length+cC (eqs Y B):=by simp [cC]
  rw [e2]
  have e3:(eqT y b).length=(strconv_Itoa y).length+(2+(qa b).length):=by simp only [eqT,List.length_append,List.length_cons,List.length_nil]
  have:=ih.1;have:=hb.1
  omega
theorem B_ {r:aH} (h:fT r):(jC r).length≤2400:=by
 rw [BV]
 have h1:=B0 r.Y r.Bases h.2.2.2.1 (fun x hx=>⟨h.2.2.1 x hx,h.2.2.2.2 x hx⟩) h.2.1
 have h2:=pZ (x:=strings_Join (eqs r.Y r.Bases) [44,32]) rfl
 have:=h.1
 simp only [List.length_append,List.length_cons,List.length_nil]
 omega
theorem K9 {r:aH} {x:List UInt8} (hx:x=jC r) (h:fT r):x.length≤2400:=by rw [hx];exact B_ h
theorem Ca: ∀l:List aa,(du l).length=l.length
 | []=>rfl
 | f::l=>by rw [du,List.length_cons,List.length_cons,Ca l]
mutual
theorem Cb: ∀{f:aa},okT f→(cN f).length≤2600*ax f
 | ⟨k,r,l⟩,h=>by
  rw [okT] at h
  have h1:=B_ h.1
  have h2:=Cc h.2.2
  have h3:=pZ (x:=strings_Join (du l) [44,32]) rfl
  rw [Ca] at h3
  have:=h.2.1
  rw [cN,ax]
  split
  ·omega
  ·split<;>(simp only [List.length_append,List.length_cons,List.length_nil];omega)
theorem Cc: ∀{l:List aa},fg l→cC (du l)≤2600*cR l
 | [],_=>by simp [du,cC]
 | f::l,h=>by
  rw [fg] at h
  have h1:=Cb h.1
  have h2:=Cc h.2
  have e2:cC (cN f::du l)=(cN f).length+cC (du l):=by simp [cC]
  rw [du,cR,e2]
  omega
end
theorem Cd {f:aa} {x:List UInt8} (hx:x=cN f) (h:okT f) (hh:ax f≤30):x.length≤78000:=by
 have:=Cb h
 rw [hx];omega
end Go.Proofs.YtgealhhkngbkbaaGreatDoor
namespace Go.Proofs.YtgealhhkngbkbaaGreatDoor
open Go.RowKit
set_option linter.unusedVariables false
set_option linter.unusedSimpArgs false
theorem K_ (a b:Int):dG a b≤a∧dG a b≤b∧(dG a b=a∨dG a b=b):=by unfold dG;split<;>omega
theorem Ce (a b:Int):a≤ca a b∧b≤ca a b∧(ca a b=a∨ca a b=b):=by unfold ca;split<;>omega
theorem Cf: ∀l:List aa,l.length≤cR l
 | []=>Nat.zero_le _
 | f::l=>by rw [cR,List.length_cons,wW f];have:=Cf l;omega
mutual
theorem td: ∀f:aa,fz f=min (ax f:Int) 31
 | ⟨k,r,l⟩=>by
  have h:=Cg l 1 (by decide) (by decide)
  have h2:=K_ (gA l 1) 31
  rw [fz,ax]
  rcases h with h|h<;>omega
theorem Cg: ∀(l:List aa) (n:Int),1≤n→n≤61→(gA l n=n+(cR l:Int)∧gA l n≤61)∨(31≤gA l n∧gA l n≤61∧31≤n+(cR l:Int))
 | [],n,h,h1=>by rw [gA,cR];left;omega
 | f::l,n,h,h1=>by
  have hf:=td f
  rw [gA,cR]
  split
  ·rename_i hn
   have:=Cg l (n+fz f) (by omega) (by omega)
   rcases this with ⟨h3,h4⟩|⟨h3,h4,h5⟩
   ·by_cases c:ax f≤31
    ·left;omega
    ·right;omega
   ·right;omega
  ·right;omega
end
mutual
def dpt:aa→Nat
 | ⟨_,_,l⟩=>iM l+1
def iM:List aa→Nat
 | []=>0
 | f::l=>max (dpt f) (iM l)
end
mutual
theorem xb: ∀f:aa,fQ f=(dpt f:Int)
 | ⟨k,r,l⟩=>by
  have h:=Ch l 0 (by decide)
  rw [fQ,dpt,h]
  omega
theorem Ch: ∀(l:List aa) (n:Int),0≤n→kH l n=max n (iM l:Int)
 | [],n,h=>by rw [kH,iM];omega
 | f::l,n,h=>by
  have hf:=xb f
  have hm:=Ce n (fQ f)
  rw [kH,iM,Ch l _ (by omega)]
  omega
end
mutual
theorem Ci: ∀f:aa,dpt f≤ax f
 | ⟨k,r,l⟩=>by have:=Cj l;rw [dpt,ax];omega
theorem Cj: ∀l:List aa,iM l≤cR l
 | []=>Nat.le_refl _
 | f::l=>by have:=Ci f;have:=Cj l;rw [iM,cR];omega
end
mutual
def nS (G:aa→Bool):aa→Bool
 | ⟨k,r,l⟩=>G ⟨k,r,l⟩&&kW G l
def kW (G:aa→Bool):List aa→Bool
 | []=>true
 | f::l=>nS G f&&kW G l
end
mutual
theorem te (G:aa→Bool): ∀(f:aa) (d n:Int),0≤n→n≤1000→1≤d→d≤7→((bS G f d n).1=true↔((ax f:Int)≤n∧d+(dpt f:Int)≤7∧nS G f=true))∧((bS G f d n).1=true→(bS G f d n).2=n - (ax f:Int))
 | ⟨k,r,l⟩,d,n,h0,h1,h2,h3=>by
  have e1:av .i64 n 1=n - 1:=dc (by omega) (by omega)
  have e2:al .i64 d 1=d+1:=dq (by omega) (by omega)
  rw [bS,e1,e2,ax,dpt,nS]
  by_cases c1:n - 1<0
  ·rw [if_pos c1]
   refine ⟨⟨fun h=>(by cases h),fun h=>(by omega)⟩,fun h=>(by cases h)⟩
  ·rw [if_neg c1]
   by_cases c2:d>6
   ·rw [if_pos c2]
    refine ⟨⟨fun h=>(by cases h),fun h=>(by omega)⟩,fun h=>(by cases h)⟩
   ·rw [if_neg c2]
    cases c3:G ⟨k,r,l⟩ with
    | false=>
     rw [if_pos rfl]
     refine ⟨⟨fun h=>(by cases h),fun h=>(by simp at h)⟩,fun h=>by cases h⟩
    | true=>
     rw [if_neg (by decide)]
     have h:=Ck G l (d+1) (n - 1) (by omega) (by omega) (by omega) (by omega)
     refine ⟨h.1.trans ⟨fun x=>⟨by omega,by omega,by simpa using x.2.2⟩,fun x=>⟨by omega,by omega,by simpa using x.2.2⟩⟩,fun x=> ?_⟩
     rw [h.2 x];omega
theorem Ck (G:aa→Bool): ∀(l:List aa) (d n:Int),0≤n→n≤1000→1≤d→d≤7→((fb G l d n).1=true↔((cR l:Int)≤n∧d+(iM l:Int)≤7∧kW G l=true))∧((fb G l d n).1=true→(fb G l d n).2=n - (cR l:Int))
 | [],d,n,h0,h1,h2,h3=>by
  rw [fb,cR,iM,kW]
  exact ⟨⟨fun _=>⟨by omega,by omega,rfl⟩,fun _=>rfl⟩,fun _=>by show n=_;omega⟩
 | f::l,d,n,h0,h1,h2,h3=>by
  have hf:=te G f d n h0 h1 h2 h3
  rw [wX,cR,iM,kW]
  by_cases c:(bS G f d n).1=true
  ·rw [if_pos c,hf.2 c]
   have hc:=hf.1.1 c
   have hl:=Ck G l d (n - (ax f:Int)) (by omega) (by omega) h2 h3
   refine ⟨hl.1.trans ⟨fun x=>⟨by omega,by omega,by rw [hc.2.2,x.2.2];rfl⟩,fun x=>⟨by omega,by omega,?_⟩⟩,fun x=> ?_⟩
   ·have:=x.2.2;rw [hc.2.2] at this;exact this
   ·rw [hl.2 x];omega
  ·rw [if_neg c]
   refine ⟨⟨fun h=>(by cases h),fun x=>absurd (hf.1.2 ⟨by omega,by omega,?_⟩) c⟩,fun h=>by cases h⟩
   have:=x.2.2
   rw [Bool.and_eq_true] at this
   exact this.1
end
def ND (EQ:aH→Bool):aa→Bool
 | ⟨k,r,l⟩=>if k=1 then (if l.length=0 then EQ r else false) else if (k=2∨k=3)∧r.Y.length=0∧r.Bases.length=0∧1≤l.length∧l.length≤8 then true else false
mutual
theorem xc (EQ:aH→Bool): ∀f:aa,nS (ND EQ) f=eP EQ f
 | ⟨k,r,l⟩=>by
  have h:=Cl EQ l
  rw [nS,eP,ND]
  by_cases k1:k=1
  ·rw [if_pos k1,if_pos k1]
   by_cases k2:l.length=0
   ·rw [if_pos k2,List.length_eq_zero_iff.1 k2,kW,Bool.and_true]
   ·rw [if_neg k2];rfl
  ·rw [if_neg k1,if_neg k1]
   split
   ·rw [h];rfl
   ·rfl
theorem Cl (EQ:aH→Bool): ∀l:List aa,kW (ND EQ) l=dP EQ l
 | []=>rfl
 | f::l=>by
  rw [kW,dP,xc EQ f,Cl EQ l]
  cases eP EQ f<;>rfl
end
mutual
theorem Cm {EQ LV:aH→Bool} (h: ∀r,LV r=true→EQ r=true): ∀f:aa,eP LV f=(eP EQ f&&nF LV f)
 | ⟨k,r,l⟩=>by
  have hl:=Cn h l
  rw [eP,eP,nF]
  by_cases k1:k=1
  ·rw [if_pos k1,if_pos k1,if_pos k1]
   by_cases k2:l.length=0
   ·rw [if_pos k2,if_pos k2]
    cases c:LV r with
    | false=>rw [Bool.and_false]
    | true=>rw [h r c];rfl
   ·rw [if_neg k2,if_neg k2];rfl
  ·rw [if_neg k1,if_neg k1,if_neg k1]
   split
   ·exact hl
   ·rfl
theorem Cn {EQ LV:aH→Bool} (h: ∀r,LV r=true→EQ r=true): ∀l:List aa,dP LV l=(dP EQ l&&kI LV l)
 | []=>rfl
 | f::l=>by
  rw [dP,dP,kI,Cm h f,Cn h l]
  cases eP EQ f<;>cases nF LV f<;>cases dP EQ l<;>cases kI LV l<;>rfl
end
mutual
theorem Co {C1 C2:aH→cu→Bool} (h: ∀r p,C1 r p=C2 r p) (q:Int): ∀(f:aa) (t:aG),eN C1 q f t=eN C2 q f t
 | ⟨k,r,l⟩,t=>by
  rw [eN,eN,h,Cp h q k t.C l t.L 0]
theorem Cp {C1 C2:aH→cu→Bool} (h: ∀r p,C1 r p=C2 r p) (q k c:Int): ∀(l:List aa) (m:List aG) (s:Int),eO C1 q k c l m s=eO C2 q k c l m s
 | [],_,_=>by rw [eO,eO]
 | f::l,m,s=>by
  rw [eO,eO,Co h q f (gt m 0),Cp h q k c l (m.drop 1) _]
end
mutual
def shp:aa→aG→Prop
 | ⟨k,_,l⟩,t=>if k=1 then t.P.A.length≤8 else t.L.length=l.length∧iN l t.L
def iN:List aa→List aG→Prop
 | [],_=>True
 | f::l,m=>shp f (gt m 0)∧iN l (m.drop 1)
end
mutual
theorem xd {C:aH→cu→Bool} (hC: ∀r p,C r p=true→p.A.length≤8) {q:Int}: ∀{f:aa} {t:aG},eN C q f t=true→shp f t
 | ⟨k,r,l⟩,t,h=>by
  rw [eN] at h
  rw [shp]
  split at h
  ·cases h
  ·split at h
   ·rename_i k1
    rw [if_pos k1]
    split at h
    ·exact hC _ _ h
    ·cases h
   ·rename_i k1
    rw [if_neg k1]
    split at h
    ·rename_i k2
     exact ⟨k2.2.2.2,Cq hC h⟩
    ·cases h
theorem Cq {C:aH→cu→Bool} (hC: ∀r p,C r p=true→p.A.length≤8) {q k c:Int}: ∀{l:List aa} {m:List aG} {s:Int},eO C q k c l m s=true→iN l m
 | [],_,_,_=>by rw [iN];trivial
 | f::l,m,s,h=>by
  rw [eO] at h
  rw [iN]
  split at h
  ·cases h
  ·rename_i k1
   split at h
   ·cases h
   ·exact ⟨xd hC (by simpa using k1),Cq hC h⟩
end
mutual
theorem tf: ∀{f:aa} {t:aG},shp f t→(b9 f t).length≤ax f∧ ∀x∈b9 f t,x.length≤8
 | ⟨k,r,l⟩,t,h=>by
  rw [shp] at h
  rw [b9,ax]
  split
  ·rename_i k1
   rw [if_pos k1] at h
   exact ⟨by simp,fun x hx=>by simp only [List.mem_cons,List.not_mem_nil,or_false] at hx;rw [hx];exact h⟩
  ·rename_i k1
   rw [if_neg k1] at h
   have:=Cr h.2
   exact ⟨by omega,this.2⟩
theorem Cr: ∀{l:List aa} {m:List aG},iN l m→(fd l m).length≤cR l∧ ∀x∈fd l m,x.length≤8
 | [],m,h=>by rw [fd];exact ⟨Nat.zero_le _,fun x hx=>by cases hx⟩
 | f::l,m,h=>by
  rw [iN] at h
  have h1:=tf h.1
  have h2:=Cr h.2
  rw [fd,cR,List.length_append]
  refine ⟨by omega,fun x hx=> ?_⟩
  rcases List.mem_append.1 hx with hx|hx
  ·exact h1.2 x hx
  ·exact h2.2 x hx
end
theorem Cs: ∀{l:List aa} {m:List aG},iN l m→ ∀i:Nat,i<l.length→shp (gt l (i:Int)) (gt m (i:Int))
 | f::l,m,h,0,hi=>by rw [iN] at h;exact h.1
 | f::l,m,h,i+1,hi=>by
  rw [iN] at h
  have:=Cs h.2 i (by simpa using hi)
  have e1:gt (f::l) ((i+1:Nat):Int)=gt l (i:Int):=by simp [gt,List.getD_eq_getElem?_getD]
  have e2:gt m ((i+1:Nat):Int)=gt (m.drop 1) (i:Int):=by simp [gt,List.getD_eq_getElem?_getD,Nat.add_comm]
  rw [e1,e2];exact this
end Go.Proofs.YtgealhhkngbkbaaGreatDoor
namespace Go.Proofs.YtgealhhkngbkbaaGreatDoor
open Go.RowKit Go.Lib
end Go.Proofs.YtgealhhkngbkbaaGreatDoor
namespace Go.Proofs.YtgealhhkngbkbaaGreatDoor
open Go.RowKit Go.Lib
theorem La {n:Int} (h0:0≤n):strconv_Itoa n=decDigits n.toNat:=by
 obtain ⟨u,rfl⟩:=Int.eq_ofNat_of_zero_le h0
 unfold strconv_Itoa
 rw [itoa_nonneg,Int.toNat_natCast]
end Go.Proofs.YtgealhhkngbkbaaGreatDoor
namespace Go.Proofs.YtgealhhkngbkbaaGreatDoor
open Go.RowKit
set_option linter.unusedVariables false
set_option linter.unusedSimpArgs false
theorem xe {n:Int} (h:0≤n):dD n=strconv_Itoa n:=by rw [La h];rfl
theorem Cu {l:List Int} (h: ∀x∈l,okX x):l.flatMap (fun b=>32::dD b)=qa l:=by
 induction l with
 | nil=>rfl
 | cons a l ih=>
  rw [List.flatMap_cons,ih (fun x hx=>h x (List.mem_cons_of_mem _ hx)),xe (by have:=(h a List.mem_cons_self).1;omega)]
  rfl
theorem Cv {B:List (List Int)} (h: ∀x∈B,∀y∈x,okX y): ∀y∈gt B 0,okX y:=by
 cases B with
 | nil=>intro y hy;cases hy
 | cons b B=>exact h b List.mem_cons_self
theorem Cw: ∀(Y:List Int) (B:List (List Int)) (i:Int) (s:List UInt8),0<i→(∀y∈Y,okX y)→(∀x∈B,∀y∈x,okX y)→iJ Y B i s=s++Lib.joinTail [44,32] (eqs Y B)
 | [],B,i,s,_,_,_=>by simp [iJ,eqs,Lib.joinTail]
 | y::Y,B,i,s,h,h1,h2=>by
  rw [iJ,if_pos h,Cu (Cv h2),xe (by have:=(h1 y List.mem_cons_self).1;omega)]
  rw [Cw Y (B.drop 1) (i+1) _ (by omega) (fun x hx=>h1 x (List.mem_cons_of_mem _ hx)) (fun x hx=>h2 x (List.mem_of_mem_drop hx)),eqs]
  simp [Lib.joinTail,eqT]
theorem Lb {r:aH} (h:fT r):sN r=jC r:=by
 rw [BV,sN]
 congr 1
 obtain ⟨Y,B⟩:=r
 cases Y with
 | nil=>rfl
 | cons y Y=>
  have h1:=h.2.2.2.1
  have h2:=h.2.2.2.2
  show iJ (y::Y) B 0 [91]=_
  rw [iJ,if_neg (by decide),Cu (Cv h2),xe (by have:=(h1 y List.mem_cons_self).1;omega)]
  rw [Cw Y (B.drop 1) (0+1) _ (by omega) (fun x hx=>h1 x (List.mem_cons_of_mem _ hx)) (fun x hx=>h2 x (List.mem_of_mem_drop hx))]
  show _=[91]++Lib.join (eqs (y::Y) B) [44,32]
  rw [eqs,Lib.join_cons]
  simp [eqT]
mutual
theorem tg: ∀{f:aa},okT f→cj f=cN f
 | ⟨k,r,l⟩,h=>by
  rw [okT] at h
  rw [cj,cN]
  by_cases k1:k=1
  ·rw [if_pos k1,if_pos k1];exact Lb h.1
  ·rw [if_neg k1,if_neg k1,Lc h.2.2]
   show _=if k=3 then (([111,114]++[40])++Lib.join (du l) [44,32])++[41] else (([97,110,100]++[40])++Lib.join (du l) [44,32])++[41]
   split<;>simp
theorem Lc: ∀{l:List aa},fg l→ ∀s:List UInt8,gE l 0 s=s++Lib.join (du l) [44,32]
 | [],h,s=>by simp [gE,du,Lib.join_nil]
 | f::l,h,s=>by
  rw [fg] at h
  rw [gE,if_neg (by decide),tg h.1,Cy h.2 (0+1) _ (by omega),du,Lib.join_cons]
  simp
theorem Cy: ∀{l:List aa},fg l→ ∀(i:Int) (s:List UInt8),0<i→gE l i s=s++Lib.joinTail [44,32] (du l)
 | [],h,i,s,hi=>by simp [gE,du,Lib.joinTail]
 | f::l,h,i,s,hi=>by
  rw [fg] at h
  rw [gE,if_pos hi,tg h.1,Cy h.2 (i+1) _ (by omega),du]
  simp [Lib.joinTail]
end
end Go.Proofs.YtgealhhkngbkbaaGreatDoor
namespace Go.Proofs.YtgealhhkngbkbaaGreatDoor
open Go.RowKit
set_option linter.unusedVariables false
set_option linter.unusedSimpArgs false
theorem fC {α σ τ R:Type} [Inhabited α] {l:List α} (mk:σ→Int→τ) (L:List α→Int→σ→R) (stp:α→Int→σ→(σ→R)→R) (h1: ∀a l i s,0≤i→L (a::l) i s=stp a i s (L l (i+1)))
  {F:(τ→R)→τ→R} {d:τ→R} (hF: ∀ag s (i:Int),i<(l.length:Int)→F ag (mk s i)=stp (gt l i) i s (fun s'=>ag (mk s' (i+1)))) (hE: ∀ag s (i:Int),¬i<(l.length:Int)→F ag (mk s i)=L [] i s) (s:σ):
  ae (((l.length:Int) - 0).toNat+1) F d (mk s 0)=L l 0 s:=by
 have key: ∀(m k:Nat) (s:σ),l.length - k=m→k≤l.length→ ∀fuel,m<fuel→ae fuel F d (mk s (k:Int))=L (l.drop k) (k:Int) s:=by
  intro m
  induction m with
  | zero=>
   intro k s e1 e2 fuel hf
   obtain ⟨g,rfl⟩: ∃g,fuel=g+1:=⟨fuel - 1,by omega⟩
   rw [ae,hE _ _ _ (by omega),List.drop_of_length_le (by omega)]
  | succ m ih=>
   intro k s e1 e2 fuel hf
   obtain ⟨g,rfl⟩: ∃g,fuel=g+1:=⟨fuel - 1,by omega⟩
   have hk:k<l.length:=by omega
   rw [ae,hF _ _ _ (by omega),List.drop_eq_getElem_cons hk,h1 _ _ _ _ (by omega),g_ hk]
   congr 1
   funext s'
   have:=ih (k+1) s' (by omega) (by omega) g (by omega)
   rw [show ((k:Int)+1)=((k+1:Nat):Int) by omega]
   exact this
 have h5:=key l.length 0 s (by omega) (by omega) (((l.length:Int) - 0).toNat+1) (by omega)
 simpa using h5
theorem dT {i n:Int} (h:i<n):decide (i<n)=true:=by simpa using h
theorem dN {i n:Int} (h: ¬i<n): ¬(decide (i<n)=true):=by simpa using h
theorem qb {α:Type} [Inhabited α] {m:List α} {i:Int} (h:0≤i):gt (m.drop i.toNat) 0=gt m i:=by simp [gt,List.getD_eq_getElem?_getD]
theorem qc {α:Type} {m:List α} {i:Int} (h:0≤i):(m.drop i.toNat).drop 1=m.drop (i+1).toNat:=by rw [List.drop_drop];congr 1;omega
theorem Ld (f:aa):pC f=fz f:=by
 obtain ⟨k,r,l⟩:=f
 unfold pC
 rw [fz]
 refine fC (l:=l) (fun (s:Int) i=>(s,i)) (fun l _ s=>dG (gA l s) 31) (fun a _ s K=>if s≤30 then K (s+fz a) else dG s 31) (fun a l i s _=> ?_) (fun ag s i h=> ?_) (fun ag s i h=> ?_) 1
 ·dsimp only
  rw [gA]
  split<;>rfl
 ·dsimp only
  rw [if_pos (dT h)]
  simp only [az,decide_eq_true_eq]
 ·simp only [if_neg (dN h),gA]
theorem Le (f:aa):pD f=fQ f:=by
 obtain ⟨k,r,l⟩:=f
 unfold pD
 rw [fQ]
 refine fC (l:=l) (fun (s:Int) i=>(s,i)) (fun l _ s=>kH l s+1) (fun a _ s K=>K (ca s (fQ a))) (fun a l i s _=> ?_) (fun ag s i h=> ?_) (fun ag s i h=> ?_) 0
 ·dsimp only
  rw [kH]
 ·simp only [if_pos (dT h),az]
 ·simp only [if_neg (dN h),kH]
theorem Lf {f:aa} {l:List aa} {F:(Int→Bool)→Int→Bool} {d:Int→Bool} (hF: ∀ag p,F ag p=if decide (p<(l.length:Int))=true then (if (!fR (gt l p))=true then false else ag (p+1)) else true):
  ae (((l.length:Int) - 0).toNat+1) F d 0=dP gB l:=by
 refine fC (l:=l) (fun (_:Unit) i=>i) (fun l _ _=>dP gB l) (fun a _ s K=>if fR a=false then false else K ()) (fun a l i s _=> ?_) (fun ag s i h=> ?_) (fun ag s i h=> ?_) ()
 ·dsimp only
  rw [dP];rfl
 ·rw [hF,if_pos (dT h)]
  simp only [Bool.not_eq_true']
 ·rw [hF,if_neg (dN h),dP]
theorem Lg (f:aa):pE f=fR f:=by
 obtain ⟨k,r,l⟩:=f
 unfold pE fR
 rw [eP]
 by_cases k1:k=1
 ·rw [if_pos (by simpa using k1),if_pos k1]
  by_cases k2:l.length=0
  ·rw [if_pos (by simpa using k2),if_pos k2];rfl
  ·rw [if_neg (by simpa using k2),if_neg k2]
 ·rw [if_neg (by simpa using k1),if_neg k1]
  have key: ∀F:(Int→Bool)→Int→Bool,∀d,(∀ag p,F ag p=if decide (p<(l.length:Int))=true then (if (!fR (gt l p))=true then false else ag (p+1)) else true)→
    (if decide ((r.Y.length:Int)>0)=true then false else if decide ((r.Bases.length:Int)>0)=true then false else if decide ((l.length:Int)<1)=true then false else if decide ((l.length:Int)>8)=true then false else ae (((l.length:Int) - 0).toNat+1) F d 0)=
    if r.Y.length=0∧r.Bases.length=0∧1≤l.length∧l.length≤8 then dP gB l else false:=by
   intro F d hF
   rw [Lf (f:=⟨k,r,l⟩) hF]
   simp only [decide_eq_true_eq]
   by_cases c1:r.Y.length=0
   ·rw [if_neg (by omega)]
    by_cases c2:r.Bases.length=0
    ·rw [if_neg (by omega)]
     by_cases c3:1≤l.length
     ·rw [if_neg (by omega)]
      by_cases c4:l.length≤8
      ·rw [if_neg (by omega),if_pos ⟨c1,c2,c3,c4⟩]
      ·rw [if_pos (by omega),if_neg (fun h=>c4 h.2.2.2)]
     ·rw [if_pos (by omega),if_neg (fun h=>c3 h.2.2.1)]
    ·rw [if_pos (by omega),if_neg (fun h=>c2 h.2.1)]
   ·rw [if_pos (by omega),if_neg (fun h=>c1 h.1)]
  by_cases k2:k=2
  ·rw [if_neg (by simpa using k2)]
   refine (key _ _ (fun ag p=>rfl)).trans ?_
   simp only [k2,true_or,true_and]
  ·rw [if_pos (by simpa using k2)]
   by_cases k3:k=3
   ·rw [if_neg (by simpa using k3)]
    refine (key _ _ (fun ag p=>rfl)).trans ?_
    simp only [k3,or_true,true_and]
   ·rw [if_pos (by simpa using k3),if_neg (fun h=>h.1.elim k2 k3)]
theorem Lh (g:ao) (f:aa):pG g f=iG g f:=by
 obtain ⟨k,r,l⟩:=f
 unfold pG iG
 rw [nF]
 by_cases k1:k=1
 ·rw [if_pos (by simpa using k1),if_pos k1];rfl
 ·rw [if_neg (by simpa using k1),if_neg k1]
  refine fC (l:=l) (fun (_:Unit) i=>i) (fun l _ _=>kI (eg g) l) (fun a _ s K=>if iG g a=false then false else K ()) (fun a l i s _=> ?_) (fun ag s i h=> ?_) (fun ag s i h=> ?_) ()
  ·dsimp only
   rw [kI];rfl
  ·dsimp only
   rw [if_pos (dT h),az]
   simp only [Bool.not_eq_true']
   rfl
  ·simp only [if_neg (dN h),kI]
theorem Cz {CK:aH→cu→Bool} {q k c:Int} {l:List aa} {m:List aG} {F:(Int×Int→Bool)→Int×Int→Bool} {d:Int×Int→Bool}
  (hF: ∀ag p,F ag p=if decide (p.2<(l.length:Int))=true then (if (!eN CK q (gt l p.2) (gt m p.2))=true then false else if (k==2)=true then (if ((gt m p.2).C !=c)=true then false else ag (aQ .i64 (al .i64 p.1 (gt m p.2).C) q,p.2+1)) else ag (aQ .i64 (al .i64 p.1 (gt m p.2).C) q,p.2+1)) else (if (k==2)=true then true else (p.1==c))):
  ae (((l.length:Int) - 0).toNat+1) F d (0,0)=eO CK q k c l m 0:=by
 have h:=fC (l:=l) (F:=F) (d:=d) (fun (s:Int) i=>(s,i)) (fun l i s=>eO CK q k c l (m.drop i.toNat) s) (fun a i s K=>if eN CK q a (gt m i)=false then false else if k=2∧(gt m i).C≠c then false else K (aQ .i64 (al .i64 s (gt m i).C) q)) (fun a l i s hi=> ?_) (fun ag s i h=> ?_) (fun ag s i h=> ?_) 0
 ·rw [h];rfl
 ·dsimp only
  rw [eO,qb hi,qc hi]
 ·rw [hF]
  dsimp only
  rw [if_pos (dT h)]
  simp only [Bool.not_eq_true',beq_iff_eq,bne_iff_ne,ne_eq]
  by_cases h1:eN CK q (gt l i) (gt m i)=false
  ·rw [if_pos h1,if_pos h1]
  ·rw [if_neg h1,if_neg h1]
   by_cases h2:k=2
   ·rw [if_pos h2]
    by_cases h3:(gt m i).C=c
    ·rw [if_neg (fun h=>h h3),if_neg (fun h=>h.2 h3)]
    ·rw [if_pos h3,if_pos ⟨h2,h3⟩]
   ·rw [if_neg h2,if_neg (fun h=>h2 h.1)]
 ·rw [hF]
  dsimp only
  rw [if_neg (dN h),eO]
  simp only [beq_iff_eq]
theorem Li (g:ao) (f:aa) (t:aG):pA g f t=kG g f t:=by
 obtain ⟨k,r,l⟩:=f
 unfold pA kG
 rw [eN,az]
 have hs:kE g t.C=(if t.C≥0 then decide (t.C<g.Q) else false):=by
  unfold kE
  simp only [decide_eq_true_eq]
 by_cases c:t.C<0∨g.Q≤t.C
 ·have:kE g t.C=false:=by
   rw [hs]
   split
   ·simp only [decide_eq_false_iff_not];omega
   ·rfl
  rw [this,if_pos c];rfl
 ·have:kE g t.C=true:=by
   rw [hs,if_pos (by omega)]
   simp only [decide_eq_true_eq];omega
  rw [this,if_neg c,if_neg (by decide)]
  by_cases k1:k=1
  ·rw [if_pos (by simpa using k1),if_pos k1]
   by_cases k2:t.L.length=0
   ·rw [if_pos (by simpa using k2)]
    by_cases k3:t.P.C=t.C
    ·rw [if_pos (by simpa using k3),if_pos ⟨k2,k3⟩];rfl
    ·rw [if_neg (by simpa using k3),if_neg (fun h=>k3 h.2)]
   ·rw [if_neg (by simpa using k2),if_neg (fun h=>k2 h.1)]
  ·rw [if_neg (by simpa using k1),if_neg k1,az]
   have he:l7 t.P=true↔(t.P.A.length=0∧t.P.C=0∧t.P.Z.length=0):=by
    unfold l7
    by_cases e1:t.P.A.length=0
    ·rw [if_pos (by simpa using e1)]
     by_cases e2:t.P.C=0
     ·rw [if_pos (by simpa using e2)]
      simp only [beq_iff_eq,e1,e2,true_and];omega
     ·rw [if_neg (by simpa using e2)];simp [e2]
    ·rw [if_neg (by simpa using e1)];simp [e1]
   by_cases e:l7 t.P=true
   ·rw [e,if_neg (by decide)]
    have e':=he.1 e
    by_cases k4:t.L.length=l.length
    ·rw [if_neg (by simp;omega),if_pos ⟨e'.1,e'.2.1,e'.2.2,k4⟩]
     exact Cz (fun ag p=>rfl)
    ·rw [if_pos (by simp;omega),if_neg (fun h=>k4 h.2.2.2)]
   ·have e2:l7 t.P=false:=by simpa using e
    rw [e2,if_pos (show (!false)=true from rfl),if_neg (fun h=>e (he.2 ⟨h.1,h.2.1,h.2.2.1⟩))]
theorem Lj (g:ao) (f:aa) (t:aG):pH g f t=kJ g f t:=by
 obtain ⟨k,r,l⟩:=f
 unfold pH kJ
 rw [eN]
 by_cases c1:t.C<0
 ·rw [if_pos (show decide (t.C<0)=true by simpa using c1),if_pos (show t.C<0∨g.Q≤t.C from .inl c1)]
 rw [if_neg (show¬(decide (t.C<0)=true) by simpa using c1)]
 by_cases c2:t.C≥g.Q
 ·rw [if_pos (show decide (t.C≥g.Q)=true by simpa using c2),if_pos (show t.C<0∨g.Q≤t.C from .inr c2)]
 rw [if_neg (show¬(decide (t.C≥g.Q)=true) by simpa using c2),if_neg (show¬(t.C<0∨g.Q≤t.C) from fun h=>h.elim c1 c2)]
 by_cases k1:k=1
 ·rw [if_pos (by simpa using k1),if_pos k1]
  by_cases k2:t.L.length=0
  ·rw [if_pos (by simpa using k2)]
   by_cases k3:t.P.C=t.C
   ·rw [if_pos (by simpa using k3),if_pos ⟨k2,k3⟩];rfl
   ·rw [if_neg (by simpa using k3),if_neg (fun h=>k3 h.2)]
  ·rw [if_neg (by simpa using k2),if_neg (fun h=>k2 h.1)]
 ·rw [if_neg (by simpa using k1),if_neg k1,az]
  have he:l9 t.P=true↔(t.P.A.length=0∧t.P.C=0∧t.P.Z.length=0):=by
   unfold l9
   by_cases e1:t.P.A.length=0
   ·rw [if_pos (by simpa using e1)]
    by_cases e2:t.P.C=0
    ·rw [if_pos (by simpa using e2)]
     simp only [beq_iff_eq,e1,e2,true_and];omega
    ·rw [if_neg (by simpa using e2)];simp [e2]
   ·rw [if_neg (by simpa using e1)];simp [e1]
  by_cases e:l9 t.P=true
  ·rw [e,if_neg (by decide)]
   have e':=he.1 e
   by_cases k4:t.L.length=l.length
   ·rw [if_neg (by simp;omega),if_pos ⟨e'.1,e'.2.1,e'.2.2,k4⟩]
    exact Cz (fun ag p=>rfl)
   ·rw [if_pos (by simp;omega),if_neg (fun h=>k4 h.2.2.2)]
  ·have e2:l9 t.P=false:=by simpa using e
   rw [e2,if_pos (show (!false)=true from rfl),if_neg (fun h=>e (he.2 ⟨h.1,h.2.1,h.2.2.1⟩))]
theorem Lk (f:aa) (t:aG):pJ f t=b9 f t:=by
 obtain ⟨k,r,l⟩:=f
 unfold pJ
 rw [b9]
 by_cases k1:k=1
 ·rw [if_pos (by simpa using k1),if_pos k1]
 ·rw [if_neg (by simpa using k1),if_neg k1]
  have h:=fC (l:=l) (F:=fun (ag4:(Int×List (List Int))→List (List Int)) (p4:Int×List (List Int))=>(if (decide (p4.1<(l.length:Int))) then (ab (b9 (gt l p4.1) (gt t.L p4.1)) (fun (x9:(List (List Int)))=>(ag4 ((p4.1+1),(p4.2++x9))))) else p4.2)) (d:=fun _=>default)
   (fun (s:List (List Int)) i=>(i,s)) (fun l i s=>s++fd l (t.L.drop i.toNat)) (fun a i s K=>K (s++b9 a (gt t.L i))) (fun a l i s hi=> ?_) (fun ag s i h=> ?_) (fun ag s i h=> ?_) []
  ·refine h.trans ?_
   rfl
  ·dsimp only
   rw [fd,qb hi,qc hi,List.append_assoc]
  ·simp only [if_pos (dT h),az]
  ·simp only [if_neg (dN h),fd,List.append_nil]
theorem Ll {α R:Type} [Inhabited α] {l:List α} (E:List α→R) {F:(Int×List α→R)→Int×List α→R} {d:Int×List α→R} (hF: ∀ag p,F ag p=if decide (p.1<(l.length:Int))=true then ag (p.1+1,p.2++[gt l p.1]) else E p.2) (a:List α):
  ae (((l.length:Int) - 0).toNat+1) F d (0,a)=E (a++l):=by
 refine fC (l:=l) (fun (s:List α) i=>(i,s)) (fun l _ s=>E (s++l)) (fun a _ s K=>K (s++[a])) (fun a l i s _=> ?_) (fun ag s i h=> ?_) (fun ag s i h=> ?_) a
 ·simp
 ·rw [hF];simp only [if_pos (dT h)]
 ·rw [hF];simp only [if_neg (dN h),List.append_nil]
theorem Lm (f:aa) (t:aG):pT f t=b9 f t:=by
 obtain ⟨k,r,l⟩:=f
 unfold pT
 rw [b9]
 by_cases k1:k=1
 ·rw [if_pos (by simpa using k1),if_pos k1]
 ·rw [if_neg (by simpa using k1),if_neg k1]
  refine (fC (l:=l) (fun (s:List (List Int)) i=>(i,s)) (fun l i s=>s++fd l (t.L.drop i.toNat)) (fun a i s K=>K (s++b9 a (gt t.L i))) (fun a l i s hi=> ?_) (fun ag s i h=> ?_) (fun ag s i h=> ?_) []).trans ?_
  ·dsimp only
   rw [fd,qb hi,qc hi,List.append_assoc]
  ·dsimp only
   rw [if_pos (dT h),az]
   exact Ll (fun z=>ag (i+1,z)) (fun ag p=>rfl) s
  ·simp only [if_neg (dN h),fd,List.append_nil]
  ·rfl
theorem Ln {n:Int} (h0:0≤n) (h1:n≤9223372036854775807):pO n=dD n:=by
 unfold pO dD
 have one: ∀k:Int,0≤k→k<10→([ah .u8 (48+k)]:List Int).map u8N=[UInt8.ofNat (48+k.toNat)]:=by
  intro k g0 g1
  have e:ah .u8 (48+k)=48+k:=by
   unfold ah
   rw [show IntKind.wrap .u8 (48+k)=(48+k)% 256 by simp [IntKind.wrap,IntKind.bits,IntKind.signed]]
   omega
  rw [e]
  show [u8N (48+k)]=_
  unfold u8N
  congr 2
  omega
 rw [one (n% 10) (by omega) (by omega)]
 by_cases h:n≥10
 ·rw [if_pos (by simpa using h)]
  simp only [az]
  have e1:(n/10).toNat=n.toNat/10:=by omega
  have e2:(n% 10).toNat=n.toNat% 10:=by omega
  rw [e1,e2,Lib.decDigits.eq_1 n.toNat,dif_neg (by omega)]
 ·rw [if_neg (by simpa using h),Lib.decDigits_one (by omega)]
  congr 3
  omega
theorem qd {n:Int} {x:List UInt8} (h:x=dD n) (hn:0≤n∧n≤9223372036854775807):x.length≤21:=by
 obtain ⟨u,hu⟩:=Int.eq_ofNat_of_zero_le hn.1
 have h1:=Lib.itoa_length_le n (by omega) hn.2
 rw [hu,Lib.itoa_nonneg] at h1
 rw [h,hu]
 exact h1
@[go_sem] theorem PX {k:IntKind} {n:Int}:iY (V.int k n)=n:=by rfl
theorem Lo {f:aa} {x:Int} (h:x=fz f):0≤x∧x≤31:=by rw [h,td];omega
theorem CA {f:aa} {x:Int} (h:x=fz f):x≤30→ax f≤30:=by rw [h,td];omega
theorem Lp {f:aa} {x:Int} {n:Nat} (h:x=fQ f) (hn:ax f<n):0≤x∧x<(n:Int):=by rw [h,xb];have:=Ci f;omega
theorem CB {f:aa} (h:ax f≤30):f.L.length≤30:=by rw [wW] at h;have:=Cf f.L;omega
theorem kX {f:aa} {i:Int} (h:ax f≤30) (hi:i.toNat<f.L.length):ax (gt f.L i)≤30:=by have:=b_ (f:=f) (aI hi);omega
theorem CC {f:aa} {t:aG} (h:shp f t): ¬f.Kind=1→t.L.length=f.L.length:=by
 obtain ⟨k,r,l⟩:=f
 intro hk
 rw [shp,if_neg hk] at h
 exact h.1
theorem nT {f:aa} {t:aG} {i:Int} (h:shp f t) (hk: ¬f.Kind=1) (h0:0≤i) (hi:i.toNat<f.L.length):shp (gt f.L i) (gt t.L i):=by
 obtain ⟨k,r,l⟩:=f
 rw [shp,if_neg hk] at h
 have:=Cs h.2 i.toNat hi
 rwa [Int.toNat_of_nonneg h0] at this
theorem th {f:aa} {t:aG} {x:List (List Int)} (h:x=b9 f t) (hs:shp f t) (hh:ax f≤30):x.length≤30:=by
 have:=(tf hs).1
 rw [h];omega
theorem xf {l:List (List Int)} (h: ∀x∈l,x.length≤8) (i:Int):(gt l i).length≤8:=by
 by_cases hi:i.toNat<l.length
 ·exact h _ (aI hi)
 ·have:gt l i=[]:=by simp [gt,List.getD_eq_getElem?_getD,List.getElem?_eq_none (Nat.not_lt.1 hi)];rfl
  rw [this];decide
def iO (M:Int→Bool) (n:Int):List Int→List (List Int)→Bool
 | [],_=>true
 | y::Y,B=>if M y=false then false else if ((gt B 0).length:Int)≠n then false else if (gt B 0).all M=false then false else iO M n Y (B.drop 1)
theorem nU (M:Int→Bool) (n:Int): ∀(Y:List Int) (B:List (List Int)),B.length=Y.length→(iO M n Y B=true↔((∀y∈Y,M y=true)∧ ∀row∈B,(row.length:Int)=n∧ ∀x∈row,M x=true))
 | [],B,h=>by
  have:B=[]:=List.length_eq_zero_iff.1 h
  subst this
  rw [iO]
  exact ⟨fun _=>⟨fun y hy=>(by cases hy),fun y hy=>(by cases hy)⟩,fun _=>rfl⟩
 | y::Y,[],h=>by cases h
 | y::Y,b::B,h=>by
  have ih:=nU M n Y B (by simpa using h)
  have e:gt (b::B) 0=b:=rfl
  rw [iO,e,List.drop_one,List.tail_cons]
  by_cases c1:M y=true
  ·rw [if_neg (by rw [c1];decide)]
   by_cases c2:(b.length:Int)=n
   ·rw [if_neg (fun h=>h c2)]
    by_cases c3:b.all M=true
    ·rw [if_neg (by rw [c3];decide),ih]
     rw [List.all_eq_true] at c3
     refine ⟨fun h=>⟨fun x hx=> ?_,fun row hr=> ?_⟩,fun h=>⟨fun x hx=>h.1 x (List.mem_cons_of_mem _ hx),fun row hr=>h.2 row (List.mem_cons_of_mem _ hr)⟩⟩
     ·rcases List.mem_cons.1 hx with rfl|hx
      ·exact c1
      ·exact h.1 x hx
     ·rcases List.mem_cons.1 hr with rfl|hr
      ·exact ⟨c2,c3⟩
      ·exact h.2 row hr
    ·have c4:b.all M=false:=by simpa using c3
     rw [if_pos c4]
     refine ⟨fun h=>(by cases h),fun h=>absurd (List.all_eq_true.2 (h.2 b List.mem_cons_self).2) c3⟩
   ·rw [if_pos c2]
    exact ⟨fun h=>(by cases h),fun h=>absurd (h.2 b List.mem_cons_self).1 c2⟩
  ·have c4:M y=false:=by simpa using c1
   rw [if_pos c4]
   exact ⟨fun h=>(by cases h),fun h=>absurd (h.1 y List.mem_cons_self) c1⟩
theorem qe {R:Type} {l:List Int} (M:Int→Bool) (E O:R) {F:(Int→R)→Int→R} {d:Int→R} (hF: ∀ag p,F ag p=if decide (p<(l.length:Int))=true then (if M (gt l p)=false then O else ag (p+1)) else E):
  ae (((l.length:Int) - 0).toNat+1) F d 0=if l.all M=false then O else E:=by
 refine fC (l:=l) (fun (_:Unit) i=>i) (fun l _ _=>if l.all M=false then O else E) (fun a _ _ K=>if M a=false then O else K ()) (fun a l i s _=> ?_) (fun ag s i h=> ?_) (fun ag s i h=> ?_) ()
 ·dsimp only
  rw [List.all_cons]
  cases M a<;>rfl
 ·rw [hF,if_pos (dT h)]
 ·rw [hF,if_neg (dN h)];rfl
theorem CD (M:Int→Bool) (n:Int) {Y:List Int} {B:List (List Int)} {F:(Int→Bool)→Int→Bool} {d:Int→Bool} (hF: ∀ag p,F ag p=if decide (p<(Y.length:Int))=true then (if M (gt Y p)=false then false else if ((gt B p).length:Int)≠n then false else if (gt B p).all M=false then false else ag (p+1)) else true):
  ae (((Y.length:Int) - 0).toNat+1) F d 0=iO M n Y B:=by
 have h:=fC (l:=Y) (F:=F) (d:=d) (fun (_:Unit) i=>i) (fun l i _=>iO M n l (B.drop i.toNat)) (fun a i _ K=>if M a=false then false else if ((gt B i).length:Int)≠n then false else if (gt B i).all M=false then false else K ()) (fun a l i s hi=> ?_) (fun ag s i h=> ?_) (fun ag s i h=> ?_) ()
 ·rw [h];rfl
 ·dsimp only
  rw [iO,qb hi,qc hi]
 ·rw [hF,if_pos (dT h)]
 ·rw [hF,if_neg (dN h)];rfl
def inX (x:Int):Bool:=decide (1≤x∧x<2305843009213693952)
theorem tj {x:Int}:inX x=true↔okX x:=by unfold inX okX;rw [decide_eq_true_eq]
theorem CE {α:Type} {x:Int} {a b:α}:(if decide (x<1)=true then a else if decide (x≥2305843009213693952)=true then a else b)=if inX x=false then a else b:=by
 unfold inX
 simp only [decide_eq_true_eq,decide_eq_false_iff_not]
 by_cases h1:x<1
 ·rw [if_pos h1,if_pos (by omega)]
 ·rw [if_neg h1]
  by_cases h2:x≥2305843009213693952
  ·rw [if_pos h2,if_pos (by omega)]
  ·rw [if_neg h2,if_neg (by omega)]
theorem CG (r:aH):gB r=if r.Y.length<1∨8<r.Y.length∨r.Bases.length≠r.Y.length∨(gt r.Bases 0).length<1∨12<(gt r.Bases 0).length then false else iO inX ((gt r.Bases 0).length:Int) r.Y r.Bases:=by
 unfold gB
 by_cases c1:r.Y.length<1
 ·rw [if_pos (by simp;omega),if_pos (.inl c1)]
 rw [if_neg (by simp;omega)]
 by_cases c2:8<r.Y.length
 ·rw [if_pos (by simp;omega),if_pos (.inr (.inl c2))]
 rw [if_neg (by simp;omega)]
 by_cases c3:r.Bases.length≠r.Y.length
 ·rw [if_pos (by simp;omega),if_pos (.inr (.inr (.inl c3)))]
 rw [if_neg (by simp;omega)]
 by_cases c4:(gt r.Bases 0).length<1
 ·rw [if_pos (by simp;omega),if_pos (.inr (.inr (.inr (.inl c4))))]
 rw [if_neg (by simp;omega)]
 by_cases c5:12<(gt r.Bases 0).length
 ·rw [if_pos (by simp;omega),if_pos (.inr (.inr (.inr (.inr c5))))]
 rw [if_neg (by simp;omega),if_neg (fun h=>by omega)]
 refine CD inX ((gt r.Bases 0).length:Int) (fun ag p=> ?_)
 congr 1
 rw [CE]
 congr 1
 simp only [bne_iff_ne]
 congr 1
 refine qe inX (ag (p+1)) false (fun ag2 p2=> ?_)
 congr 1
 exact CE
theorem CH {r:aH} (h:gB r=true):okA r:=by
 rw [CG] at h
 split at h
 ·cases h
 ·rename_i hc
  have h3:r.Bases.length=r.Y.length:=by omega
  rw [nU _ _ _ _ h3] at h
  exact ⟨by omega,by omega,h3,fun x hx=>tj.1 (h.1 x hx),(gt r.Bases 0).length,by omega,by omega,fun row hr=>⟨by have:=(h.2 row hr).1;omega,fun x hx=>tj.1 ((h.2 row hr).2 x hx)⟩⟩
mutual
theorem CI {EQ:aH→Bool} (hE: ∀r,EQ r=true→fT r): ∀{f:aa},eP EQ f=true→okT f
 | ⟨k,r,l⟩,h=>by
  rw [eP] at h
  rw [okT]
  by_cases k1:k=1
  ·rw [if_pos k1] at h
   split at h
   ·rename_i k2
    have:l=[]:=List.length_eq_zero_iff.1 k2
    subst this
    exact ⟨hE r h,by decide,by rw [fg];trivial⟩
   ·cases h
  ·rw [if_neg k1] at h
   split at h
   ·rename_i k2
    have e1:r.Y=[]:=List.length_eq_zero_iff.1 k2.2.1
    have e2:r.Bases=[]:=List.length_eq_zero_iff.1 k2.2.2.1
    refine ⟨⟨by rw [e1];decide,by rw [e1,e2];rfl,fun x hx=>(by rw [e2] at hx;cases hx),fun x hx=>(by rw [e1] at hx;cases hx),fun x hx=>(by rw [e2] at hx;cases hx)⟩,k2.2.2.2.2,CJ hE h⟩
   ·cases h
theorem CJ {EQ:aH→Bool} (hE: ∀r,EQ r=true→fT r): ∀{l:List aa},dP EQ l=true→fg l
 | [],_=>by rw [fg];trivial
 | f::l,h=>by
  rw [dP] at h
  rw [fg]
  split at h
  ·cases h
  ·rename_i k1
   exact ⟨CI hE (by simpa using k1),CJ hE h⟩
end
theorem CL {f:aa} (h:iF f=true):okT f∧ax f≤30:=by
 unfold iF at h
 rw [az] at h
 split at h
 ·rename_i h1
  rw [az] at h
  split at h
  ·rw [az] at h
   exact ⟨CI (fun r hr=>BL (CH hr)) h,CA rfl (by simpa using h1)⟩
  ·cases h
 ·cases h
instance PY (f:aa):CF (iF f) (fun x=>x=true→okT f∧ax f≤30):=⟨CL⟩
theorem CN {g:ao} {f:aa} (h:jB g f=true):1≤g.Q∧okT f∧ax f≤30:=by
 unfold jB at h
 rw [az] at h
 split at h
 ·rename_i h1
  rw [az] at h
  split at h
  ·rename_i h2
   have:=(wU g).1 h1
   exact ⟨by omega,CL h2⟩
  ·cases h
 ·cases h
instance PZ (g:ao) (f:aa):CF (jB g f) (fun x=>x=true→1≤g.Q∧okT f∧ax f≤30):=⟨CN⟩
theorem qf (g:ao) (r:aH):eg g r=if ef g=false∨r.Y.length<1∨8<r.Y.length∨r.Bases.length≠r.Y.length∨(gt r.Bases 0).length<1∨12<(gt r.Bases 0).length then false else iO (cv g) ((gt r.Bases 0).length:Int) r.Y r.Bases:=by
 unfold eg eQ
 rw [az]
 by_cases c0:ef g=false
 ·rw [if_pos (by rw [c0];rfl),if_pos (.inl c0)]
 rw [if_neg (by simpa using c0)]
 by_cases c1:r.Y.length<1
 ·rw [if_pos (by simp;omega),if_pos (.inr (.inl c1))]
 rw [if_neg (by simp;omega)]
 by_cases c2:8<r.Y.length
 ·rw [if_pos (by simp;omega),if_pos (.inr (.inr (.inl c2)))]
 rw [if_neg (by simp;omega)]
 by_cases c3:r.Bases.length≠r.Y.length
 ·rw [if_pos (by simp;omega),if_pos (.inr (.inr (.inr (.inl c3))))]
 rw [if_neg (by simp;omega),az]
 by_cases c4:(gt r.Bases 0).length<1
 ·rw [if_pos (by simp;omega),if_pos (.inr (.inr (.inr (.inr (.inl c4)))))]
 rw [if_neg (by simp;omega)]
 by_cases c5:12<(gt r.Bases 0).length
 ·rw [if_pos (by simp;omega),if_pos (.inr (.inr (.inr (.inr (.inr c5)))))]
 rw [if_neg (by simp;omega),if_neg (fun h=>by rcases h with h|h|h|h|h|h<;>contradiction)]
 refine CD (cv g) ((gt r.Bases 0).length:Int) (fun ag p=> ?_)
 congr 1
 rw [az]
 simp only [Bool.not_eq_true',bne_iff_ne]
 congr 1
 by_cases h9:((gt r.Bases p).length:Int)=((gt r.Bases 0).length:Int)
 ·rw [if_neg (fun h=>h h9),if_neg (fun h=>h h9),←h9]
  refine qe (cv g) (ag (p+1)) false (fun ag2 p2=> ?_)
  congr 1
 ·rw [if_pos h9,if_pos h9]
def bw (g:ao) (r:aH):Prop:=(3≤g.Q∧3≤g.P∧g.P<2305843009213693952∧g.Q<g.P)∧1≤r.Y.length∧r.Y.length≤8∧r.Bases.length=r.Y.length∧(∀y∈r.Y,1≤y∧y<g.P)∧ ∀row∈r.Bases,row.length=(gt r.Bases 0).length∧ ∀x∈row,1≤x∧x<g.P
theorem qg {g:ao} {r:aH} (h:eg g r=true):bw g r:=by
 rw [qf] at h
 split at h
 ·cases h
 ·rename_i hc
  have c0:ef g=true:=by
   cases e:ef g with
   | true=>rfl
   | false=>exact absurd (.inl e) hc
  have hg:=(wU g).1 c0
  have c3:r.Bases.length=r.Y.length:=Decidable.byContradiction fun e=>hc (.inr (.inr (.inr (.inl e))))
  have c1: ¬r.Y.length<1:=fun e=>hc (.inr (.inl e))
  have c2: ¬8<r.Y.length:=fun e=>hc (.inr (.inr (.inl e)))
  rw [nU _ _ _ _ c3] at h
  exact ⟨⟨by omega,by omega,by omega,by omega⟩,by omega,by omega,c3,fun y hy=>(wV g y).1 (h.1 y hy),fun row hr=>⟨by have:=(h.2 row hr).1;omega,fun x hx=>(wV g x).1 ((h.2 row hr).2 x hx)⟩⟩
instance rv_cf (g:ao) (r:aH):CF (eg g r) (fun x=>x=true→bw g r):=⟨qg⟩
theorem cg {g:ao} {r:aH} (h:bw g r):3≤g.Q∧3≤g.P∧g.P<2305843009213693952∧g.Q<g.P∧1≤r.Y.length∧r.Y.length≤8∧r.Bases.length=r.Y.length:=⟨h.1.1,h.1.2.1,h.1.2.2.1,h.1.2.2.2,h.2.1,h.2.2.1,h.2.2.2.1⟩
theorem iP {g:ao} {r:aH} {i:Int} (h:bw g r) (hi:i.toNat<r.Y.length):0≤gt r.Y i∧gt r.Y i<g.P:=by have:=h.2.2.2.2.1 _ (aI hi);omega
theorem qh {g:ao} {r:aH} {i:Int} (h:bw g r) (hi:i.toNat<r.Y.length): ∀x∈gt r.Bases i,0≤x∧x<g.P:=fun x hx=>by
 have h2:=h.2.2.2.1
 have:=(h.2.2.2.2.2 _ (aI (l:=r.Bases) (i:=i) (by omega))).2 x hx;omega
theorem qi {g:ao} {r:aH} {i x n:Int} (h:bw g r) (hi:i.toNat<r.Y.length) (hx:x=eQ r) (hn:n=x):((gt r.Bases i).length:Int)≤n:=by
 have h2:=h.2.2.2.1
 have:=(h.2.2.2.2.2 _ (aI (l:=r.Bases) (i:=i) (by omega))).1
 unfold eQ at hx;omega
theorem xg {g:ao} {l:List Int} (h:gC g l=true): ∀x∈l,0≤x∧x<g.Q:=by
 unfold gC at h
 rw [qe (l:=l) (fun x=>decide (0≤x∧x<g.Q)) true false (fun ag p=> ?_)] at h
 ·split at h
  ·cases h
  ·rename_i h1
   intro x hx
   have h2:l.all (fun x=>decide (0≤x∧x<g.Q))=true:=by simpa using h1
   have:=List.all_eq_true.1 h2 x hx
   simpa using this
 ·congr 1
  simp only [decide_eq_true_eq,decide_eq_false_iff_not]
  by_cases c1:gt l p<0
  ·rw [if_pos c1,if_pos (by omega)]
  ·rw [if_neg c1]
   by_cases c2:gt l p≥g.Q
   ·rw [if_pos c2,if_pos (by omega)]
   ·rw [if_neg c2,if_neg (by omega)]
instance P0 (g:ao) (l:List Int):CF (gC g l) (fun x=>x=true→ ∀x∈l,0≤x∧x<g.Q):=⟨xg⟩
theorem qj {l:List Int} {q:Int} (h: ∀x∈l,0≤x∧x<q): ∀x∈l,0≤x:=fun x hx=>(h x hx).1
theorem tk {x q:Int} (h: ∀y∈ [x],0≤y∧y<q):0≤x:=(h x List.mem_cons_self).1
theorem Lq {g:ao} {r:aH} (h:eg g r=true):r.Y.length≤8:=(qg h).2.2.1
theorem CO {g:ao} {r:aH} {p:cu} (h:iH g r p=true):p.A.length≤8:=by
 unfold iH at h
 rw [az] at h
 split at h
 ·cases h
 ·rename_i h0
  have h9:=Lq (by simpa using h0)
  split at h
  ·cases h
  ·rename_i h1
   simp only [bne_iff_ne,ne_eq,Decidable.not_not] at h1
   omega
theorem CP {g:ao} {f:aa} {t:aG} (h:g8 g f t=true):1≤g.Q∧okT f∧ax f≤30∧shp f t:=by
 unfold g8 at h
 rw [az] at h
 split at h
 ·rename_i h1
  rw [az] at h
  have:=CN h1
  exact ⟨this.1,this.2.1,this.2.2,xd (fun r p hp=>CO hp) h⟩
 ·cases h
instance P1 (g:ao) (f:aa) (t:aG):CF (g8 g f t) (fun x=>x=true→1≤g.Q∧okT f∧ax f≤30∧shp f t):=⟨CP⟩
theorem Lr {g:ao} {f:aa} {x:Bool} (hx:x=fP g f):x=true→1≤g.Q:=by
 intro h
 rw [hx] at h
 unfold fP at h
 rw [az] at h
 split at h
 ·rename_i h1
  exact A9 rfl h1
 ·cases h
theorem Ls {g:ao} {f:aa} (h:fP g f=true):ax f≤30:=by
 have h1:(bS (fun f=>di f g) f 1 30).1=true:=by
  unfold fP at h
  rw [az] at h
  split at h
  ·exact h
  ·cases h
 have:=((te _ f 1 30 (by decide) (by decide) (by decide) (by decide)).1.1 h1).1
 omega
theorem Lt {g:ao} {f:aa} {t:aG} (h:jA g f t=true):shp f t∧okF f∧ax f≤30:=by
 unfold jA at h
 rw [az] at h
 split at h
 ·rename_i h1
  rw [az] at h
  refine ⟨xd (fun r p hp=> ?_) h,BQ h1,Ls h1⟩
  have h2:=(Kv g r p).1 hp
  have:=(jL h2.1).2.2.2
  omega
 ·cases h
instance P2 (g:ao) (f:aa) (t:aG):CF (jA g f t) (fun x=>x=true→shp f t∧okF f∧ax f≤30):=⟨Lt⟩
instance P3 (f:aa):CF (l_ f) (fun x=>x.1.length≤8000):=⟨by
 unfold l_
 rw [az]
 split
 ·exact Nat.zero_le _
 ·rw [az]
  split
  ·exact Nat.zero_le _
  ·rename_i h1
   simp only [decide_eq_true_eq] at h1
   dsimp only
   omega⟩
theorem CQ {f:aa} {t:aG} {x:List (List Int)} (h:x=b9 f t) (hs:shp f t): ∀y∈x,y.length≤8:=by rw [h];exact (tf hs).2
theorem xh {f:aa} {t:aG} {x:List (List Int)} (h:x=b9 f t) (hs:shp f t): ∀i:Int,(gt x i).length≤8:=xf (CQ h hs)
instance Lu (s:List UInt8):CF (dC s) (fun x=>x=true→1≤s.length∧s.length≤24):=⟨fun h=>by
 unfold dC at h
 split at h
 ·cases h
 ·split at h
  ·cases h
  ·rename_i h1 h2
   simp only [decide_eq_true_eq] at h1 h2
   omega⟩
theorem Lv {t:aV} {label:List UInt8} {i x:aq} (h:x=cF t label [i]):hgt x≤40+label.length+hgt i:=by
 rw [h]
 simp only [cF,hgt,bO,List.length_nil,List.cons_append,List.nil_append,dL,cL]
 omega
theorem Lw {t:aV} {label:List UInt8} {x:aq} (h:x=cF t label []):hgt x≤40+label.length:=by
 rw [h]
 simp only [cF,hgt,bO,List.length_nil,List.cons_append,List.nil_append,dL,cL]
 omega
theorem CR (l:List Int):nN l=⟨3,0,[],l.map (fun n=>⟨1,n,[],[]⟩)⟩:=by
 unfold nN
 refine (fC (l:=l) (fun (s:List aq) i=>(i,s)) (fun l _ s=>(⟨3,0,[],s++l.map (fun n=>⟨1,n,[],[]⟩)⟩:aq)) (fun a _ s K=>K (s++[⟨1,a,[],[]⟩])) (fun a l i s _=> ?_) (fun ag s i h=> ?_) (fun ag s i h=> ?_) []).trans ?_
 ·simp
 ·simp only [if_pos (dT h)]
 ·simp only [if_neg (dN h),List.map_nil,List.append_nil]
 ·rfl
theorem CS: ∀l:List Int,bO (l.map (fun n=>(⟨1,n,[],[]⟩:aq)))=l.length
 | []=>rfl
 | a::l=>by rw [List.map_cons,bO,CS l,List.length_cons,hgt,bO,List.length_nil];omega
theorem Lx {l:List Int} {x:aq} (h:x=nN l):hgt x=1+l.length:=by rw [h,CR,hgt,CS,List.length_nil]
theorem Ly {f:aa} {x:List UInt8} (h:x=cj f) (hl:(cj f).length≤8000):x.length≤8000:=by rw [h];exact hl
theorem fh {m a b:Int} (h:m=ca a b):a≤m∧b≤m∧(m=a∨m=b):=by rw [h];exact Ce a b
theorem tl {l:List Int} {x:aq} (hx:x=iI l) (h:l.length≤8):hgt x≤9:=by rw [Kr hx];omega
theorem CT {f:aa} {x:List UInt8} (hx:x=cj f) (h:okT f) (hh:ax f≤30):x.length≤78000:=by
 rw [hx,tg h];exact Cd rfl h hh
theorem ry {f:aa} {i:Int} (h:okT f) (hi:i.toNat<f.Relation.Y.length):0≤gt f.Relation.Y i∧gt f.Relation.Y i≤9223372036854775807:=by
 have:=(cT h).1.2.2.2.1 _ (aI hi)
 unfold okX at this;omega
theorem rb {f:aa} {i j:Int} (h:okT f) (hi:i.toNat<f.Relation.Bases.length) (hj:j.toNat<(gt f.Relation.Bases i).length):0≤gt (gt f.Relation.Bases i) j∧gt (gt f.Relation.Bases i) j≤9223372036854775807:=by
 have:=(cT h).1.2.2.2.2 _ (aI hi) _ (aI hj)
 unfold okX at this;omega
theorem Lz (f:aa):pP f=cj f:=by
 obtain ⟨k,r,l⟩:=f
 unfold pP
 rw [cj]
 by_cases k1:k=1
 ·rw [if_pos (by simpa using k1),if_pos k1]
  unfold sN
  refine (fC (l:=r.Y) (fun (s:List UInt8) i=>(s,i)) (fun l i s=>iJ l (r.Bases.drop i.toNat) i s++[93]) (fun a i s K=>K (((if 0<i then s++[44,32] else s)++dD a++[32,61])++(gt r.Bases i).flatMap (fun b=>32::dD b))) (fun a l i s hi=> ?_) (fun ag s i h=> ?_) (fun ag s i h=> ?_) [91]).trans ?_
  ·dsimp only
   rw [iJ,qb hi,qc hi]
  ·dsimp only
   rw [if_pos (dT h)]
   have key: ∀p6:List UInt8,(ab (dD (gt r.Y i)) (fun (x8:(List UInt8))=>(ae ((((gt r.Bases i).length:Int) - 0).toNat+1) (fun (ag11:(List UInt8×Int)→(List UInt8)) (p11:List UInt8×Int)=>(if (decide (p11.2<((gt r.Bases i).length:Int))) then (ab (dD (gt (gt r.Bases i) p11.2)) (fun (x16:(List UInt8))=>(ag11 (((p11.1++[32])++x16),(p11.2+1))))) else (ag (p11.1,(i+1))))) (fun _=>default) (((p6++x8)++[32,61]),0))))=ag ((p6++dD (gt r.Y i)++[32,61])++(gt r.Bases i).flatMap (fun b=>32::dD b),i+1):=by
    intro p6
    rw [az]
    refine BU (l:=gt r.Bases i) (fun b=>32::dD b) (fun s=>ag (s,i+1)) (fun ag2 p=> ?_) _
    rw [az,List.append_assoc];rfl
   show (if decide (i>0)=true then _ else _)=_
   by_cases hi:0<i
   ·rw [if_pos (by simpa using hi),if_pos hi];exact key _
   ·rw [if_neg (by simpa using hi),if_neg hi];exact key _
  ·dsimp only
   rw [if_neg (dN h),iJ]
  ·rfl
 ·rw [if_neg (by simpa using k1),if_neg k1]
  have key: ∀p25:List UInt8,(ae (((l.length:Int) - 0).toNat+1) (fun (ag26:(List UInt8×Int)→(List UInt8)) (p26:List UInt8×Int)=>(if (decide (p26.2<(l.length:Int))) then (if (decide (p26.2>0)) then (ab (cj (gt l p26.2)) (fun (x32:(List UInt8))=>(ag26 (((p26.1++[44,32])++x32),(p26.2+1))))) else (ab (cj (gt l p26.2)) (fun (x37:(List UInt8))=>(ag26 ((p26.1++x37),(p26.2+1)))))) else (p26.1++[41]))) (fun _=>default) (p25,0))=gE l 0 p25++[41]:=by
   intro p25
   refine fC (l:=l) (fun (s:List UInt8) i=>(s,i)) (fun l i s=>gE l i s++[41]) (fun a i s K=>K ((if 0<i then s++[44,32] else s)++cj a)) (fun a l i s hi=> ?_) (fun ag s i h=> ?_) (fun ag s i h=> ?_) p25
   ·dsimp only
    rw [gE]
   ·dsimp only
    rw [if_pos (dT h)]
    by_cases hi:0<i
    ·rw [if_pos (by simpa using hi),if_pos hi,az]
    ·rw [if_neg (by simpa using hi),if_neg hi,az]
   ·dsimp only
    rw [if_neg (dN h),gE]
  by_cases k3:k=3
  ·rw [if_pos k3]
   show (if (k==3)=true then _ else _)=_
   rw [if_pos (by simpa using k3)];exact key _
  ·rw [if_neg k3]
   show (if (k==3)=true then _ else _)=_
   rw [if_neg (by simpa using k3)];exact key _
end Go.Proofs.YtgealhhkngbkbaaGreatDoor
