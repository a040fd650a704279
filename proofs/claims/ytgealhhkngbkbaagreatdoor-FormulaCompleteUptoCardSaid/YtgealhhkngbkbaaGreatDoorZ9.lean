/- Texts of this proof, one after the other: HG, HT, HK, A1, A2, LX, HL, RV, HW, HC, HD. -/
import Derived.Test.YtgealhhkngbkbaaGreatDoorZ8
import Derived.Lib.ItoaLen
import Derived.Lib.SplitLaws
import Derived.Lib.ItoaMem
import Derived.Test.YtgealhhkngbkbaaGreatDoorZ5
set_option linter.unusedSimpArgs false
set_option linter.unusedVariables false
namespace Go.Proofs.YtgealhhkngbkbaaGreatDoor
open Go.RowKit
def okX (x:Int):Prop:=1≤x∧x<2305843009213693952
def g9 (r:aF):Prop:=r.Y.length≤8∧r.Bases.length=r.Y.length∧(∀x∈r.Bases,x.length≤12)∧(∀y∈r.Y,okX y)∧ ∀x∈r.Bases,∀y∈x,okX y
mutual
def okT:aa→Prop
 | ⟨k,r,l⟩=>g9 r∧l.length≤8∧iH l
def iH:List aa→Prop
 | []=>True
 | f::l=>okT f∧iH l
end
theorem Cl: ∀{l:List aa},iH l→ ∀x∈l,okT x
 | f::l,h,x,hx=>by
  rw [iH] at h
  rcases List.mem_cons.1 hx with rfl|hx
  ·exact h.1
  ·exact Cl h.2 x hx
theorem ot {f:aa} (h:okT f):g9 f.Relation∧f.L.length≤8∧ ∀x∈f.L,okT x:=by
 obtain ⟨k,r,l⟩:=f
 rw [okT] at h;exact ⟨h.1,h.2.1,Cl h.2.2⟩
theorem Cm (a b:List (List UInt8)):cJ (a++b)=cJ a+cJ b:=by simp [cJ]
theorem Cn (a:List UInt8):cJ [a]=a.length:=by simp [cJ]
theorem xD {l:List (List UInt8)} {n m:Nat} (h1:cJ l≤n) (h2:l.length≤m) (h:n+m*2≤1000000):(Lib.join l [44,32]).length≤1000000:=by
 have:=B0 l [44,32]
 simp only [List.length_cons,List.length_nil] at this
 omega
theorem qo {x:List UInt8} {l:List (List UInt8)} (h:x=strings_Join l [44,32]):x.length≤cJ l+l.length*2:=by
 rw [h];exact B0 l [44,32]
theorem Co: ∀l:List aa,gp l=l.map di
 | []=>rfl
 | f::l=>by rw [gp,Co l];rfl
theorem Lb {α β R:Type} [Inhabited α] {l:List α} (f:α→β) (E:List β→R) {F:(Int×List β→R)→Int×List β→R} {d:Int×List β→R} (hF: ∀ag p,F ag p=if decide (p.1<(l.length:Int))=true then ag (p.1+1,p.2++[f (gt l p.1)]) else E p.2):
  ah (((l.length:Int) - 0).toNat+1) F d (0,[])=E (l.map f):=by
 have key: ∀(m k:Nat) (a:List β),l.length - k=m→k≤l.length→ ∀fuel,m<fuel→ah fuel F d ((k:Int),a)=E (a++(l.drop k).map f):=by
  intro m
  induction m with
  | zero=>
   intro k a e1 e2 fuel hf
   obtain ⟨g,rfl⟩: ∃g,fuel=g+1:=⟨fuel - 1,by omega⟩
   rw [ah,hF,if_neg (by simp;omega),List.drop_of_length_le (by omega)]
   simp
  | succ m ih=>
   intro k a e1 e2 fuel hf
   obtain ⟨g,rfl⟩: ∃g,fuel=g+1:=⟨fuel - 1,by omega⟩
   have hk:k<l.length:=by omega
   rw [ah,hF,if_pos (by simp;omega),List.drop_eq_getElem_cons hk,List.map_cons]
   dsimp only
   rw [iF hk]
   have:=ih (k+1) (a++[f l[k]]) (by omega) (by omega) g (by omega)
   rw [show ((k:Int)+1)=((k+1:Nat):Int) by omega,this]
   simp
 have h5:=key l.length 0 [] (by omega) (by omega) (((l.length:Int) - 0).toNat+1) (by omega)
 simpa using h5
theorem Lc (f:aa):qc f=di f:=by
 obtain ⟨k,r,l⟩:=f
 unfold qc
 by_cases h:k=1
 ·subst h;rw [if_pos (show ((1:Int)==1)=true from rfl),di,if_pos rfl,aq]
 ·rw [if_neg (by simpa using h),di,if_neg h]
  refine (Lb (l:=l) di (fun L=>if (k==3)=true then (([111,114]++[40])++strings_Join L [44,32])++[41] else (([97,110,100]++[40])++strings_Join L [44,32])++[41]) (fun ag p=>rfl)).trans ?_
  rw [Co]
  by_cases h3:k=3<;>simp [h3]
def bd (b:Bool):Nat:=if b=true then 1 else 0
theorem tn {b:Bool}:b=false→bd b=0:=fun h=>by rw [h];rfl
theorem iI (b:Bool):b=false→bd b=0:=tn
theorem Cp (b:Bool):bd b≤1:=by cases b<;>decide
instance QG (s t:List UInt8):CF (mz s t) (fun x=>x=true→(t.length:Int)≤(s.length:Int)):=⟨fun h=>by
 unfold mz at h
 split at h
 ·rename_i h1;have:=of_decide_eq_true h1;omega
 ·cases h⟩
theorem Ld (s t:List UInt8):pD s t=if t.isPrefixOf s=true then (s.drop t.length,true) else (s,false):=by
 have hh:mz s t=t.isPrefixOf s:=by
  unfold mz
  by_cases hl:(s.length:Int)≥(t.length:Int)
  ·rw [if_pos (by simpa using hl)]
   have e:(s.drop (0:Int).toNat).take ((t.length:Int).toNat - (0:Int).toNat)=s.take t.length:=by simp
   rw [e]
   by_cases hp:t.isPrefixOf s=true
   ·rw [hp]
    obtain ⟨u,rfl⟩:=List.isPrefixOf_iff_prefix.1 hp
    simp
   ·rw [Bool.not_eq_true] at hp
    rw [hp]
    refine beq_eq_false_iff_ne.2 fun he=> ?_
    have:t.isPrefixOf s=true:=List.isPrefixOf_iff_prefix.2 ⟨s.drop t.length,(congrArg (· ++s.drop t.length) he.symm).trans (List.take_append_drop _ _)⟩
    rw [hp] at this;cases this
  ·rw [if_neg (by simpa using hl)]
   cases hp:t.isPrefixOf s with
   | false=>rfl
   | true=>
    obtain ⟨u,rfl⟩:=List.isPrefixOf_iff_prefix.1 hp
    simp at hl
    omega
 unfold pD sR
 rw [aq,aq,hh]
 by_cases hp:t.isPrefixOf s=true
 ·rw [hp,if_neg (by decide),if_pos rfl]
  have e:(s.drop (t.length:Int).toNat).take ((s.length:Int).toNat - (t.length:Int).toNat)=s.drop t.length:=by
   rw [Int.toNat_natCast,Int.toNat_natCast,List.take_of_length_le (by rw [List.length_drop];exact Nat.le_refl _)]
  rw [e]
 ·rw [Bool.not_eq_true] at hp
  rw [hp,if_pos (by decide),if_neg (by decide)]
theorem xE (p:az) (t:List UInt8):bh p t=if t.isPrefixOf p.s=true then (true,{s:=p.s.drop t.length,bad:=p.bad}) else (false,p):=by
 unfold bh
 rw [aq,Ld]
 by_cases hp:t.isPrefixOf p.s=true
 ·rw [if_pos hp,if_pos hp]
 ·rw [if_neg hp,if_neg hp]
theorem eV {x:Bool×az} {p:az} {t:List UInt8} (h:x=bh p t):x.2.s.length≤p.s.length∧bd x.2.bad=bd p.bad:=by
 rw [h,xE]
 split
 ·exact ⟨by simp,rfl⟩
 ·exact ⟨Nat.le_refl _,rfl⟩
theorem g_ {x:Bool×az} {p:az} {t:List UInt8} (h:x=bh p t) (ht:1≤t.length):x.1=true→x.2.s.length<p.s.length:=by
 rw [h,xE]
 split
 ·rename_i hp
  intro _
  obtain ⟨u,e⟩:=List.isPrefixOf_iff_prefix.1 hp
  simp only [←e,List.length_drop,List.length_append]
  omega
 ·intro h;cases h
theorem Le (p:az) (t:List UInt8):cQ p t=if t.isPrefixOf p.s=true then {s:=p.s.drop t.length,bad:=p.bad} else {s:=p.s,bad:=true}:=by
 unfold cQ
 rw [aq,xE]
 by_cases hp:t.isPrefixOf p.s=true
 ·rw [if_pos hp,if_pos hp];rfl
 ·rw [if_neg hp,if_neg hp];rfl
theorem jy {x p:az} {t:List UInt8} (h:x=cQ p t):x.s.length≤p.s.length∧bd p.bad≤bd x.bad:=by
 rw [h,Le]
 split
 ·exact ⟨by simp,Nat.le_refl _⟩
 ·exact ⟨Nat.le_refl _,by have:=Cp p.bad;show _≤1;omega⟩
def pF (y p:az):Prop:=y.s.length≤p.s.length∧y.s.length+1≤p.s.length+bd y.bad∧bd p.bad≤bd y.bad
theorem xF {y p:az} (h:y.s.length≤p.s.length) (hb:y.bad=true):pF y p:=by
 have:=Cp p.bad
 have e:bd y.bad=1:=by rw [hb];rfl
 refine ⟨h,by omega,by omega⟩
theorem xG {y p:az} (h:y.s.length<p.s.length) (hb:bd p.bad≤bd y.bad):pF y p:=⟨by omega,by omega,hb⟩
theorem tp {σ R:Type} {F:(σ→R)→σ→R} {d:σ→R} (I:σ→Prop) (Q:R→Prop) (meas:σ→Nat) (h: ∀f p,I p→(∀q,I q→meas q<meas p→Q (f q))→Q (F f p)): ∀(n:Nat) (p:σ),I p→meas p<n→Q (ah n F d p)
 | 0,p,_,hn=>absurd hn (Nat.not_lt_zero _)
 | n+1,p,hp,hn=>by
  rw [ah]
  exact h _ p hp (fun q hq hm=>tp I Q meas h n q hq (by omega))
theorem tq {x:Int×az} {p:az} (h:x=ee p):pF x.2 p:=by
 rw [h]
 unfold ee
 refine tp (R:=Int×az) (fun k:Int=>0≤k∧k≤(p.s.length:Int)) (fun r=>pF r.2 p) (fun k=>((p.s.length:Int) - k).toNat) (fun f k hk hf=> ?_) _ 0 ⟨by omega,by omega⟩ (by omega)
 have hd:((p.s.drop k.toNat).take (p.s.length - k.toNat)).length≤p.s.length:=by
  rw [List.length_take,List.length_drop];omega
 have hd1:k≠0→((p.s.drop k.toNat).take (p.s.length - k.toNat)).length<p.s.length:=fun h0=>by
  rw [List.length_take,List.length_drop];omega
 have hgood: ∀(b:Bool) (v:Int),k≠0→pF ((v,({s:=(p.s.drop k.toNat).take (p.s.length - k.toNat),bad:=p.bad}:az)):Int×az).2 p:=fun b v h0=>xG (hd1 h0) (Nat.le_refl _)
 have hbad:pF ((0,({s:=(p.s.drop k.toNat).take (p.s.length - k.toNat),bad:=true}:az)):Int×az).2 p:=xF hd rfl
 have htail:pF (if (k==0)=true then ((0,{s:=(p.s.drop k.toNat).take (p.s.length - k.toNat),bad:=true}):Int×az) else (if (decide (k>1))=true then (if ((((p.s.take k.toNat).getD 0 0).toNat:Int)==48)=true then (0,{s:=(p.s.drop k.toNat).take (p.s.length - k.toNat),bad:=true}) else (ab (gS (p.s.take k.toNat)) (fun x=>if (!x.2)=true then (0,{s:=(p.s.drop k.toNat).take (p.s.length - k.toNat),bad:=p.bad}) else (x.1,{s:=(p.s.drop k.toNat).take (p.s.length - k.toNat),bad:=p.bad})))) else (ab (gS (p.s.take k.toNat)) (fun x=>if (!x.2)=true then (0,{s:=(p.s.drop k.toNat).take (p.s.length - k.toNat),bad:=p.bad}) else (x.1,{s:=(p.s.drop k.toNat).take (p.s.length - k.toNat),bad:=p.bad}))))).2 p:=by
  by_cases h0:k=0
  ·rw [if_pos (by simpa using h0)];exact hbad
  ·rw [if_neg (by simpa using h0)]
   split
   ·split
    ·exact hbad
    ·rw [aq];split
     ·exact hgood true 0 h0
     ·exact hgood true _ h0
   ·rw [aq];split
    ·exact hgood true 0 h0
    ·exact hgood true _ h0
 try dsimp only
 by_cases c0:k<(p.s.length:Int)
 ·rw [if_pos (by simpa using c0)]
  by_cases c1:((p.s.getD k.toNat 0).toNat:Int)≥48
  ·rw [if_pos (by simpa using c1)]
   by_cases c2:((p.s.getD k.toNat 0).toNat:Int)≤57
   ·rw [if_pos (by simpa using c2)]
    exact hf _ ⟨by omega,by omega⟩ (by omega)
   ·rw [if_neg (by simpa using c2)];exact htail
  ·rw [if_neg (by simpa using c1)];exact htail
 ·rw [if_neg (by simpa using c0)];exact htail
theorem xH {x:Int×az} {p:az} (h:x=ee p):x.2.s.length≤p.s.length∧x.2.s.length+1≤p.s.length+bd x.2.bad∧bd p.bad≤bd x.2.bad:=tq h
theorem Cq {y p q:az} (h:pF y q) (h1:q.s.length≤p.s.length) (h2:bd p.bad≤bd q.bad):pF y p:=⟨Nat.le_trans h.1 h1,by have:=h.2.1;omega,Nat.le_trans h2 h.2.2⟩
theorem ou {y q p:az} (h:pF q p) (h1:y.s.length≤q.s.length) (h2:bd q.bad≤bd y.bad):pF y p:=⟨Nat.le_trans h1 h.1,by have:=h.2.1;omega,Nat.le_trans h.2.2 h2⟩
theorem Cr {x:aF×az} {p:az} (h:x=gd p):pF x.2 p:=by
 rw [h]
 unfold gd
 refine tp (σ:=az×aF×List Int×List (List Int)) (R:=aF×az) (fun q=>q.1.s.length≤p.s.length∧bd p.bad≤bd q.1.bad) (fun r=>pF r.2 p) (fun q=>q.1.s.length) (fun f q hq hf=> ?_) _ _ ⟨Nat.le_refl _,Nat.le_refl _⟩ (Nat.lt_succ_self _)
 try dsimp only
 rw [aq,aq,aq,aq]
 have a1:=tq (x:=ee q.1) rfl
 have a2:=jy (x:=cQ (ee q.1).2 [32,61]) rfl
 have a3:=jy (x:=cQ (cQ (ee q.1).2 [32,61]) [32]) rfl
 have a4:=tq (x:=ee (cQ (cQ (ee q.1).2 [32,61]) [32])) rfl
 have a5:pF (ee (cQ (cQ (ee q.1).2 [32,61]) [32])).2 q.1:=by
  refine ou (ou (ou a1 a2.1 a2.2) a3.1 a3.2) a4.1 a4.2.2
 have tail: ∀(w:az) (v s2:aF) (Y:List Int) (B:List (List Int)),pF w q.1→pF (if w.bad=true then ((v,{s:=w.s,bad:=true}):aF×az) else ab (bh {s:=w.s,bad:=false} [93]) (fun x27=>if x27.1=true then (v,x27.2) else ab (cQ x27.2 [44,32]) (fun x33=>f (x33,s2,Y,B)))).2 p:=by
  intro w v s2 Y B hw
  by_cases hb:w.bad=true
  ·rw [if_pos hb];exact xF (Nat.le_trans hw.1 hq.1) rfl
  ·rw [if_neg hb,aq]
   have hb':w.bad=false:=by simpa using hb
   have e:({s:=w.s,bad:=false}:az)=w:=by rw [←hb']
   rw [e]
   have t1:=eV (x:=bh w [93]) rfl
   have hwp:pF (bh w [93]).2 q.1:=ou hw t1.1 (by omega)
   split
   ·exact Cq hwp hq.1 hq.2
   ·rw [aq]
    have n1:=jy (x:=cQ (bh w [93]).2 [44,32]) rfl
    have hw0:bd w.bad=0:=by rw [hb'];rfl
    have hs:=hw.2.1
    refine hf _ ⟨?_,?_⟩ ?_
    ·have:=hwp.1;dsimp only;omega
    ·have:=hwp.2.2;dsimp only;omega
    ·dsimp only;omega
 refine tp (σ:=az×List Int) (R:=aF×az) (fun z=>pF z.1 q.1) (fun r=>pF r.2 p) (fun z=>z.1.s.length) (fun g z hz hg=> ?_) _ _ a5 (Nat.lt_succ_self _)
 try dsimp only
 split
 ·rename_i hb
  rw [aq]
  have t1:=eV (x:=bh z.1 [32]) rfl
  have hz1:pF (bh z.1 [32]).2 q.1:=ou hz t1.1 (by omega)
  split
  ·rename_i hx
   have t2:=g_ (x:=bh z.1 [32]) rfl (by decide) hx
   rw [aq]
   have n1:=tq (x:=ee (bh z.1 [32]).2) rfl
   refine hg _ (ou hz1 n1.1 n1.2.2) ?_
   have:=n1.1
   dsimp only
   omega
  ·exact tail _ _ _ _ _ hz1
 ·exact tail _ _ _ _ _ hz
theorem Lf {x:aF×az} {p:az} (h:x=gd p):x.2.s.length≤p.s.length∧x.2.s.length+1≤p.s.length+bd x.2.bad∧bd p.bad≤bd x.2.bad:=Cr h
theorem xI {R:az→aa×az} {k:Int} {m:Nat} (hR: ∀q,q.s.length<m→pF (R q).2 q): ∀(n:Nat) (q:az) (L:List aa),q.s.length<n→q.s.length<m→(gT R k n q L).2.s.length≤q.s.length∧bd q.bad≤bd (gT R k n q L).2.bad
 | 0,q,L,h,_=>absurd h (Nat.not_lt_zero _)
 | n+1,q,L,h,hm=>by
  have h1:=hR q hm
  rw [gT]
  by_cases hb:(R q).2.bad=true
  ·rw [if_pos hb];exact ⟨h1.1,h1.2.2⟩
  ·rw [if_neg hb]
   have hb0:bd (R q).2.bad=0:=tn (by simpa using hb)
   have h2:=h1.2.1
   have t1:=eV (x:=bh (R q).2 [41]) rfl
   split
   ·have:=h1.2.2;exact ⟨by dsimp only;omega,by dsimp only;omega⟩
   ·have n1:=jy (x:=cQ (bh (R q).2 [41]).2 [44,32]) rfl
    have h3:=xI (k:=k) hR n (cQ (bh (R q).2 [41]).2 [44,32]) (L++[(R q).1]) (by omega) (by omega)
    have:=h1.2.2
    exact ⟨by omega,by omega⟩
theorem Lg {R:az→aa×az} {p:az} (hR: ∀q,q.s.length<p.s.length→pF (R q).2 q):pF (lj R p).2 p:=by
 unfold lj
 have t1:=eV (x:=bh p [91]) rfl
 split
 ·rename_i h
  have r1:=Cr (x:=gd (bh p [91]).2) rfl
  exact Cq r1 t1.1 (by omega)
 ·generalize bh p [91]=x1 at t1⊢
  have t2:=eV (x:=bh x1.2 [97,110,100,40]) rfl
  split
  ·rename_i h
   have t2':=g_ (x:=bh x1.2 [97,110,100,40]) rfl (by decide) h
   have l1:=xI (k:=2) hR ((bh x1.2 [97,110,100,40]).2.s.length+1) (bh x1.2 [97,110,100,40]).2 [] (by omega) (by omega)
   exact xG (by omega) (by omega)
  ·generalize bh x1.2 [97,110,100,40]=x2 at t2⊢
   have t3:=eV (x:=bh x2.2 [111,114,40]) rfl
   split
   ·rename_i h
    have t3':=g_ (x:=bh x2.2 [111,114,40]) rfl (by decide) h
    have l1:=xI (k:=3) hR ((bh x2.2 [111,114,40]).2.s.length+1) (bh x2.2 [111,114,40]).2 [] (by omega) (by omega)
    exact xG (by omega) (by omega)
   ·exact xF (by dsimp only;omega) rfl
theorem xJ: ∀(n:Nat) (p:az),p.s.length<n→pF (kj n p).2 p
 | 0,p,h=>absurd h (Nat.not_lt_zero _)
 | n+1,p,h=>by
  rw [kj]
  exact Lg (fun q hq=>xJ n q (by omega))
theorem Cs {x:aa×az} {p:az} (h:x=ce p):pF x.2 p:=by
 rw [h];exact xJ _ p (Nat.lt_succ_self _)
theorem Lh {x:aa×az} {p:az} (h:x=ce p):x.2.s.length≤p.s.length∧x.2.s.length+1≤p.s.length+bd x.2.bad∧bd p.bad≤bd x.2.bad:=Cs h
theorem xK {R R':az→aa×az} {k:Int} {m:Nat} (hR: ∀q,q.s.length<m→pF (R q).2 q) (he: ∀q,q.s.length<m→R q=R' q): ∀(n:Nat) (q:az) (L:List aa),q.s.length<m→gT R k n q L=gT R' k n q L
 | 0,q,L,_=>rfl
 | n+1,q,L,hm=>by
  have h1:=hR q hm
  rw [gT,gT,←he q hm]
  have t1:=eV (x:=bh (R q).2 [41]) rfl
  have n1:=jy (x:=cQ (bh (R q).2 [41]).2 [44,32]) rfl
  rw [xK hR he n _ _ (by have:=h1.1;omega)]
theorem Cu {R R':az→aa×az} {p:az} (hR: ∀q,q.s.length<p.s.length→pF (R q).2 q) (he: ∀q,q.s.length<p.s.length→R q=R' q):lj R p=lj R' p:=by
 unfold lj
 have t1:=eV (x:=bh p [91]) rfl
 split
 ·rfl
 ·generalize bh p [91]=x1 at t1⊢
  have t2:=eV (x:=bh x1.2 [97,110,100,40]) rfl
  split
  ·rename_i h
   have t2':=g_ (x:=bh x1.2 [97,110,100,40]) rfl (by decide) h
   exact xK hR he _ _ _ (by omega)
  ·generalize bh x1.2 [97,110,100,40]=x2 at t2⊢
   have t3:=eV (x:=bh x2.2 [111,114,40]) rfl
   split
   ·rename_i h
    have t3':=g_ (x:=bh x2.2 [111,114,40]) rfl (by decide) h
    exact xK hR he _ _ _ (by omega)
   ·rfl
theorem Cv: ∀(n m:Nat) (p:az),p.s.length<n→p.s.length<m→kj n p=kj m p
 | 0,m,p,h,_=>absurd h (Nat.not_lt_zero _)
 | n+1,0,p,_,h=>absurd h (Nat.not_lt_zero _)
 | n+1,m+1,p,h1,h2=>by
  rw [kj,kj]
  exact Cu (fun q hq=>xJ n q (by omega)) (fun q hq=>Cv n m q (by omega) (by omega))
theorem Li (p:az):lj ce p=ce p:=by
 conv=>rhs;unfold ce;rw [kj]
 exact Cu (fun q _=>Cs rfl) (fun q hq=>Cv _ _ q (Nat.lt_succ_self _) hq)
theorem Lj (p:az):jl p=ce p:=by
 rw [←Li]
 unfold jl lj
 have hl: ∀(k:Int) (n:Nat) (q:az) (L:List aa) (F:(az×Int×List Int×List (List Int)×List aa×List aa→aa×az)→az×Int×List Int×List (List Int)×List aa×List aa→aa×az),
   (∀ag p2,F ag p2=ab (ce p2.1) (fun x3=>if x3.2.bad=true then (({Kind:=k,Relation:=fw,L:=p2.2.2.2.2.2++[x3.1]}:aa),({s:=x3.2.s,bad:=true}:az)) else ab (bh {s:=x3.2.s,bad:=false} [41]) (fun x7=>if x7.1=true then ({Kind:=k,Relation:=fw,L:=p2.2.2.2.2.2++[x3.1]},x7.2) else ab (cQ x7.2 [44,32]) (fun x13=>ag (x13,p2.2.1,p2.2.2.1,p2.2.2.2.1,p2.2.2.2.2.1,p2.2.2.2.2.2++[x3.1])))))→
   ah n F (fun _=>default) (q,0,[],[],[],L)=gT ce k n q L:=by
  intro k n
  induction n with
  | zero=>intro q L F hF;rfl
  | succ n ih=>
   intro q L F hF
   rw [ah,hF,aq,gT]
   dsimp only
   by_cases hb:(ce q).2.bad=true
   ·have e:({s:=(ce q).2.s,bad:=true}:az)=(ce q).2:=by
     generalize (ce q).2=w at hb⊢
     obtain ⟨s,b⟩:=w
     simp only at hb
     rw [hb]
    rw [if_pos hb,if_pos hb,e]
   ·have e:({s:=(ce q).2.s,bad:=false}:az)=(ce q).2:=by
     generalize (ce q).2=w at hb⊢
     obtain ⟨s,b⟩:=w
     simp only [Bool.not_eq_true] at hb
     rw [hb]
    rw [if_neg hb,if_neg hb,e,aq]
    split
    ·rfl
    ·rw [aq]
     exact ih _ _ F hF
 unfold dD
 dsimp only
 rw [aq]
 split
 ·rw [aq]
 ·rw [aq]
  split
  ·exact hl 2 _ _ _ _ (fun ag p2=>rfl)
  ·rw [aq]
   split
   ·exact hl 3 _ _ _ _ (fun ag p2=>rfl)
   ·rfl
mutual
def okU (n:Nat):aa→Prop
 | ⟨k,r,l⟩=>if k=1 then 1≤r.Bases.length∧(gt r.Bases 0).length≤n else jz n l
def jz (n:Nat):List aa→Prop
 | []=>True
 | f::l=>okU n f∧jz n l
end
theorem Cw {n:Nat}: ∀{l:List aa},jz n l→ ∀x∈l,okU n x
 | f::l,h,x,hx=>by
  rw [jz] at h
  rcases List.mem_cons.1 hx with rfl|hx
  ·exact h.1
  ·exact Cw h.2 x hx
theorem eI {n:Nat} {f x:aa} (h:okU n f) (hk: ¬f.Kind=1) (hx:x∈f.L):okU n x:=by
 obtain ⟨k,r,l⟩:=f
 rw [okU,if_neg hk] at h;exact Cw h x hx
mutual
theorem mR {n:Nat}: ∀{f:aa},okU n f→okF f
 | ⟨k,r,l⟩,h=>by
  rw [okU] at h
  rw [okF]
  split
  ·rename_i hk;rw [if_pos hk] at h;exact h.1
  ·rename_i hk;rw [if_neg hk] at h;exact Cy h
theorem Cy {n:Nat}: ∀{l:List aa},jz n l→iG l
 | [],_=>trivial
 | f::l,h=>by
  rw [jz] at h
  exact ⟨mR h.1,Cy h.2⟩
end
theorem Cz {f:aa} (hk:f.Kind=1):bf f=((gt f.Relation.Bases 0).length:Int):=by
 obtain ⟨k,r,l⟩:=f
 rw [bf,if_pos hk]
theorem tr {n:Nat} {f:aa} (h:okU n f) (hk:f.Kind=1):0≤bf f∧bf f≤(n:Int):=by
 rw [Cz hk]
 obtain ⟨k,r,l⟩:=f
 rw [okU,if_pos hk] at h
 exact ⟨by omega,by have:=h.2;simp only;omega⟩
theorem xL (g:ak) (x:List Int): ∀l:List aa,nW g l x=l.all (fun f=>bR g f x)
 | []=>rfl
 | f::l=>by rw [nW,List.all_cons,xL g x l];cases bR g f x<;>rfl
theorem xM (g:ak) (x:List Int): ∀l:List aa,mF g l x=l.any (fun f=>bR g f x)
 | []=>rfl
 | f::l=>by rw [mF,List.any_cons,xM g x l];cases bR g f x<;>rfl
theorem Lk (l:List aa) (g:ak) (x:List Int):pM l g x=l.any (fun f=>bR g f x):=
 g8 (fun f=>bR g f x) (fun ag p=>rfl)
theorem Ll (l:List aa) (g:ak) (x:List Int):pL l g x=l.any (fun f=> !bR g f x):=
 g8 (fun f=> !bR g f x) (fun ag p=>rfl)
theorem Lm (g:ak) (f:aa) (x:List Int):pN g f x=bR g f x:=by
 obtain ⟨k,r,l⟩:=f
 unfold pN
 rw [bR,xL,xM,aq,aq,aq,aq,Lk,Ll]
 by_cases h1:k=1
 ·simp [h1]
 ·by_cases h2:k=2
  ·simp [h1,h2,List.any_eq_not_all_not]
  ·simp [h1,h2]
mutual
def mS (G:aa→Bool):aa→Prop
 | ⟨k,r,l⟩=>G ⟨k,r,l⟩=true∧mT G l
def mT (G:aa→Bool):List aa→Prop
 | []=>True
 | f::l=>mS G f∧mT G l
end
mutual
theorem tt (G:aa→Bool): ∀(f:aa) (d n:Int),0≤n→n≤1000→(cb G f d n).1=true→0≤(cb G f d n).2∧(cb G f d n).2+ay f≤n∧mS G f
 | ⟨k,r,l⟩,d,n,h0,h1,h=>by
  have hs:ap .i64 n 1=n - 1:=ff (by omega) (by omega)
  rw [cb,hs] at h⊢
  by_cases c0:n - 1<0
  ·rw [if_pos c0] at h;cases h
  ·rw [if_neg c0] at h⊢
   by_cases c1:d>6
   ·rw [if_pos c1] at h;cases h
   ·rw [if_neg c1] at h⊢
    by_cases c2:G ⟨k,r,l⟩=false
    ·rw [if_pos c2] at h;cases h
    ·rw [if_neg c2] at h⊢
     have h2:=CA G l (ao .i64 d 1) (n - 1) (by omega) (by omega) h
     refine ⟨h2.1,?_,by simpa using c2,h2.2.2⟩
     rw [ay]
     have:=h2.2.1
     omega
theorem CA (G:aa→Bool): ∀(l:List aa) (d n:Int),0≤n→n≤1000→(fz G l d n).1=true→0≤(fz G l d n).2∧(fz G l d n).2+cP l≤n∧mT G l
 | [],d,n,h0,h1,h=>⟨h0,by simp [fz,cP],trivial⟩
 | f::l,d,n,h0,h1,h=>by
  rw [xB] at h⊢
  by_cases c:(cb G f d n).1=true
  ·rw [if_pos c] at h⊢
   have h2:=tt G f d n h0 h1 c
   have h3:=CA G l d (cb G f d n).2 h2.1 (by have:=h2.2.1;omega) h
   refine ⟨h3.1,?_,h2.2.2,h3.2.2⟩
   rw [cP]
   have:=h2.2.1
   have:=h3.2.1
   omega
  ·rw [if_neg c] at h;cases h
end
def okA (r:aF):Prop:=1≤r.Y.length∧r.Y.length≤8∧r.Bases.length=r.Y.length∧(∀x∈r.Y,okX x)∧ ∃n,1≤n∧n≤12∧ ∀row∈r.Bases,row.length=n∧ ∀x∈row,okX x
def CB (f:aa):Prop:=(f.Kind=1∧f.L=[]∧okA f.Relation)∨((f.Kind=2∨f.Kind=3)∧1≤f.L.length∧f.L.length≤8∧f.Relation.Y=[]∧f.Relation.Bases=[])
theorem CC {l:List Int} (h:kl l=true): ∀x∈l,okX x:=by
 unfold kl at h
 rw [aq] at h
 have e:pE l=l.any ix:=g8 ix (fun ag p=>rfl)
 rw [e] at h
 intro x hx
 have h2:l.any ix=false:=by simpa using h
 have h3:=List.any_eq_false.1 h2 x hx
 unfold ix at h3
 unfold okX
 by_cases c:x<1
 ·simp [c] at h3
 ·simp [c] at h3
  omega
theorem Ln {r:aF} (h:jm r=true):okA r:=by
 unfold jm at h
 simp only [aq] at h
 by_cases c0:(r.Y.length:Int)<1
 ·rw [if_pos (by simpa using c0)] at h;cases h
 rw [if_neg (by simpa using c0)] at h
 by_cases c1:(r.Y.length:Int)>8
 ·rw [if_pos (by simpa using c1)] at h;cases h
 rw [if_neg (by simpa using c1)] at h
 by_cases c2:(r.Bases.length:Int)=(r.Y.length:Int)
 case neg=>rw [if_pos (by simpa using c2)] at h;cases h
 rw [if_neg (by simpa using c2)] at h
 by_cases c3:kl r.Y=true
 case neg=>rw [if_pos (by simpa using c3)] at h;cases h
 rw [if_neg (by simpa using c3)] at h
 by_cases c4:((gt r.Bases 0).length:Int)≥1
 case neg=>rw [if_neg (by simpa using c4)] at h;cases h
 rw [if_pos (by simpa using c4)] at h
 by_cases c5:((gt r.Bases 0).length:Int)≤12
 case neg=>rw [if_neg (by simpa using c5)] at h;cases h
 rw [if_pos (by simpa using c5)] at h
 have e:pG r.Bases ((gt r.Bases 0).length:Int)=r.Bases.any (fun row=>iy row ((gt r.Bases 0).length:Int)):=g8 (fun row=>iy row ((gt r.Bases 0).length:Int)) (fun ag p=>rfl)
 rw [e] at h
 have h2:r.Bases.any (fun row=>iy row ((gt r.Bases 0).length:Int))=false:=by simpa using h
 refine ⟨by omega,by omega,by omega,CC c3,(gt r.Bases 0).length,by omega,by omega,fun row hr=> ?_⟩
 have h3:=List.any_eq_false.1 h2 row hr
 unfold iy at h3
 rw [aq] at h3
 by_cases c:(row.length:Int)=((gt r.Bases 0).length:Int)
 ·rw [if_neg (by simpa using c)] at h3
  exact ⟨by omega,CC (by simpa using h3)⟩
 ·rw [if_pos (by simpa using c)] at h3
  exact absurd rfl h3
theorem CD {f:aa} (h:c7 f=true):CB f:=by
 unfold c7 at h
 by_cases k1:f.Kind=1
 ·rw [if_pos (by simpa using k1)] at h
  by_cases k2:f.L.length=0
  ·rw [if_pos (by simpa using k2),aq] at h
   exact .inl ⟨k1,List.length_eq_zero_iff.1 k2,Ln h⟩
  ·rw [if_neg (by simpa using k2)] at h;cases h
 ·rw [if_neg (by simpa using k1)] at h
  have key: ∀b:Bool,(if b=true then (if (decide ((f.L.length:Int)≥1))=true then (if (decide ((f.L.length:Int)≤8))=true then (if ((f.Relation.Y.length:Int)==0)=true then ((f.Relation.Bases.length:Int)==0) else false) else false) else false) else false)=true→b=true∧1≤f.L.length∧f.L.length≤8∧f.Relation.Y=[]∧f.Relation.Bases=[]:=by
   intro b hb
   cases b with
   | false=>cases hb
   | true=>
    rw [if_pos rfl] at hb
    split at hb
    ·split at hb
     ·split at hb
      ·rename_i g1 g2 g3
       refine ⟨rfl,by have:=of_decide_eq_true g1;omega,by have:=of_decide_eq_true g2;omega,?_,?_⟩
       ·have:=of_decide_eq_true g3;exact List.length_eq_zero_iff.1 (by omega)
       ·have:=of_decide_eq_true hb;exact List.length_eq_zero_iff.1 (by omega)
      ·cases hb
     ·cases hb
    ·cases hb
  by_cases k2:f.Kind=2
  ·have h':=key true (by
    have:=h
    simp only [dD,k2] at this
    exact this)
   exact .inr ⟨.inl k2,h'.2⟩
  ·have h':=key (f.Kind==3) (by
    have:=h
    simp only [dD] at this
    rw [if_neg (by simpa using k2)] at this
    exact this)
   exact .inr ⟨.inr (by simpa using h'.1),h'.2⟩
theorem CE {r:aF} (h:okA r):g9 r:=by
 obtain ⟨h1,h2,h3,h4,n,h5,h6,h7⟩:=h
 exact ⟨h2,h3,fun x hx=>(by have:=(h7 x hx).1;omega),h4,fun x hx=>(h7 x hx).2⟩
theorem Lo {f:aa} (h:CB f):g9 f.Relation∧f.L.length≤8:=by
 rcases h with ⟨_,h2,h3⟩|⟨_,h2,h3,h4,h5⟩
 ·exact ⟨CE h3,by rw [h2];decide⟩
 ·refine ⟨⟨by rw [h4];decide,by rw [h4,h5];rfl,fun x hx=>(by rw [h5] at hx;cases hx),fun x hx=>(by rw [h4] at hx;cases hx),fun x hx=>(by rw [h5] at hx;cases hx)⟩,h3⟩
mutual
theorem CG: ∀{f:aa},mS c7 f→okT f
 | ⟨k,r,l⟩,h=>by
  rw [mS] at h
  have:=Lo (CD h.1)
  exact ⟨this.1,this.2,CH h.2⟩
theorem CH: ∀{l:List aa},mT c7 l→iH l
 | [],_=>trivial
 | f::l,h=>by
  rw [mT] at h
  exact ⟨CG h.1,CH h.2⟩
end
mutual
theorem xN {G:aa→Bool} (hG: ∀f,G f=true→f.Kind=1→1≤f.Relation.Bases.length): ∀{f:aa},mS G f→okF f
 | ⟨k,r,l⟩,h=>by
  rw [mS] at h
  rw [okF]
  split
  ·rename_i hk;exact hG _ h.1 hk
  ·exact CI hG h.2
theorem CI {G:aa→Bool} (hG: ∀f,G f=true→f.Kind=1→1≤f.Relation.Bases.length): ∀{l:List aa},mT G l→iG l
 | [],_=>trivial
 | f::l,h=>by
  rw [mT] at h
  exact ⟨xN hG h.1,CI hG h.2⟩
end
theorem Lp {f:aa} (h:c7 f=true) (hk:f.Kind=1):1≤f.Relation.Bases.length:=by
 rcases CD h with ⟨_,_,h3⟩|⟨h1,_⟩
 ·have:=h3.1;have:=h3.2.2.1;omega
 ·omega
theorem CJ (f:aa):jn f=(cb c7 f 1 30).1:=rfl
theorem xO {f:aa} (h:jn f=true):mS c7 f∧ay f≤30:=by
 rw [CJ] at h
 have w:=tt _ f 1 30 (by decide) (by decide) h
 exact ⟨w.2.2,by have:=w.1;have:=w.2.1;omega⟩
theorem Lq {f:aa} (h:jn f=true):okT f∧ay f≤30∧okF f:=
 ⟨CG (xO h).1,(xO h).2,xN (fun f=>Lp) (xO h).1⟩
instance QH (f:aa):CF (jn f) (fun x=>x=true→okT f∧ay f≤30∧okF f):=⟨fun h=>Lq h⟩
theorem Lr {g:ak} {f:aa} (h:dh f g=true) (hk:f.Kind=1):1≤f.Relation.Bases.length:=by
 unfold dh at h
 rw [if_pos (by simpa using hk)] at h
 split at h
 ·rw [aq] at h
  have h1:bU g f.Relation=true:=h
  have:=qn h1
  have:=this.2.1;have:=(qn h1).2.2.1
  omega
 ·cases h
theorem xP {g:ak} {f:aa} (h:bD g f=true):okF f:=by
 have h1:(cb (fun f=>dh f g) f 1 30).1=true:=by
  unfold bD at h
  rw [aq] at h
  split at h
  ·exact h
  ·cases h
 exact xN (fun f h hk=>Lr h hk) (tt _ f 1 30 (by decide) (by decide) h1).2.2
instance QI (g:ak) (f:aa):CF (bD g f) (fun x=>x=true→okF f):=⟨fun h=>xP h⟩
theorem Ls (a b:Int):a≤b_ a b∧b≤b_ a b:=by unfold b_;split<;>omega
theorem xQ: ∀(l:List aa) (a:Int),a≤jk l a∧ ∀x∈l,bf x≤jk l a
 | [],a=>⟨Int.le_refl _,fun x h=>by cases h⟩
 | f::l,a=>by
  rw [jk]
  have h:=xQ l (b_ a (bf f))
  have m:=Ls a (bf f)
  refine ⟨by omega,fun x hx=> ?_⟩
  rcases List.mem_cons.1 hx with rfl|hx
  ·omega
  ·exact h.2 x hx
mutual
theorem da {n:Nat}: ∀{f:aa},okF f→bf f≤(n:Int)→okU n f
 | ⟨k,r,l⟩,h,hu=>by
  rw [okF] at h
  rw [okU]
  rw [bf] at hu
  by_cases hk:k=1
  ·rw [if_pos hk] at h hu⊢;exact ⟨h,by omega⟩
  ·rw [if_neg hk] at h hu⊢
   exact CL h (fun x hx=>by have:=(xQ l 0).2 x hx;omega)
theorem CL {n:Nat}: ∀{l:List aa},iG l→(∀x∈l,bf x≤(n:Int))→jz n l
 | [],_,_=>trivial
 | f::l,h,hu=>by
  rw [iG] at h
  exact ⟨da h.1 (hu f (by simp)),CL h.2 (fun x hx=>hu x (by simp [hx]))⟩
end
end Go.Proofs.YtgealhhkngbkbaaGreatDoor
namespace Go.Proofs.YtgealhhkngbkbaaGreatDoor
open Go.RowKit Go.Lib
def tu (row:List Int):List UInt8:=row.flatMap (fun b=>32::strconv_Itoa b)
def eqT (y:Int) (row:List Int):List UInt8:=strconv_Itoa y++([32,61]++tu row)
def eqs:List Int→List (List Int)→List (List UInt8)
 | y::Y,B=>eqT y (gt B 0)::eqs Y (B.drop 1)
 | [],_=> []
theorem Lt {α:Type} [Inhabited α] {l:List α} {R:Type} (f:α→List UInt8) (E:List UInt8→R) {F:(List UInt8×Int→R)→List UInt8×Int→R} {d:List UInt8×Int→R} (hF: ∀ag p,F ag p=if decide (p.2<(l.length:Int))=true then ag (p.1++f (gt l p.2),p.2+1) else E p.1) (a:List UInt8):
  ah (((l.length:Int) - 0).toNat+1) F d (a,0)=E (a++l.flatMap f):=by
 have key: ∀(m k:Nat) (a:List UInt8),l.length - k=m→k≤l.length→ ∀fuel,m<fuel→ah fuel F d (a,(k:Int))=E (a++(l.drop k).flatMap f):=by
  intro m
  induction m with
  | zero=>
   intro k a e1 e2 fuel hf
   obtain ⟨g,rfl⟩: ∃g,fuel=g+1:=⟨fuel - 1,by omega⟩
   rw [ah,hF,if_neg (by simp;omega),List.drop_of_length_le (by omega)]
   simp
  | succ m ih=>
   intro k a e1 e2 fuel hf
   obtain ⟨g,rfl⟩: ∃g,fuel=g+1:=⟨fuel - 1,by omega⟩
   have hk:k<l.length:=by omega
   rw [ah,hF,if_pos (by simp;omega),List.drop_eq_getElem_cons hk,List.flatMap_cons]
   dsimp only
   rw [iF hk]
   have:=ih (k+1) (a++f l[k]) (by omega) (by omega) g (by omega)
   rw [show ((k:Int)+1)=((k+1:Nat):Int) by omega,this,List.append_assoc]
 have h5:=key l.length 0 a (by omega) (by omega) (((l.length:Int) - 0).toNat+1) (by omega)
 simpa using h5
theorem Lu (r:aF):lu r=([91]++strings_Join (eqs r.Y r.Bases) [44,32])++[93]:=by
 unfold lu
 have key: ∀(m k:Nat) (a:List (List UInt8)),r.Y.length - k=m→k≤r.Y.length→ ∀fuel,m<fuel→ ∀(F:(Int×List (List UInt8)→List UInt8)→Int×List (List UInt8)→List UInt8) (d:Int×List (List UInt8)→List UInt8),
   (∀ag p,F ag p=if decide (p.1<(r.Y.length:Int))=true then ag (p.1+1,p.2++[eqT (gt r.Y p.1) (gt r.Bases p.1)]) else ([91]++strings_Join p.2 [44,32])++[93])→
   ah fuel F d ((k:Int),a)=([91]++strings_Join (a++eqs (r.Y.drop k) (r.Bases.drop k)) [44,32])++[93]:=by
  intro m
  induction m with
  | zero=>
   intro k a e1 e2 fuel hf F d hF
   obtain ⟨g,rfl⟩: ∃g,fuel=g+1:=⟨fuel - 1,by omega⟩
   rw [ah,hF,if_neg (by simp;omega),List.drop_of_length_le (show r.Y.length≤k by omega),eqs,List.append_nil]
  | succ m ih=>
   intro k a e1 e2 fuel hf F d hF
   obtain ⟨g,rfl⟩: ∃g,fuel=g+1:=⟨fuel - 1,by omega⟩
   have hk:k<r.Y.length:=by omega
   have e:gt (r.Bases.drop k) 0=gt r.Bases (k:Int):=by simp [gt,List.getD_eq_getElem?_getD]
   rw [ah,hF,if_pos (by simp;omega),List.drop_eq_getElem_cons hk,eqs,e,List.drop_drop]
   dsimp only
   rw [iF hk]
   have:=ih (k+1) (a++[eqT r.Y[k] (gt r.Bases (k:Int))]) (by omega) (by omega) g (by omega) F d hF
   rw [show ((k:Int)+1)=((k+1:Nat):Int) by omega,this,List.append_assoc a]
   rfl
 refine (key r.Y.length 0 [] (by omega) (by omega) (((r.Y.length:Int) - 0).toNat+1) (by omega) _ (fun _=>default) (fun ag p=> ?_)).trans ?_
 ·try dsimp only
  split
  ·rw [aq]
   have h:=Lt (l:=gt r.Bases p.1) (fun b=> [32]++strconv_Itoa b) (fun s=>ag (p.1+1,p.2++[s])) (d:=fun _=>default) (F:=fun (ag9:(List UInt8×Int)→(List UInt8)) (p9:List UInt8×Int)=>(if (decide (p9.2<((gt r.Bases p.1).length:Int))) then (ab (strconv_Itoa (gt (gt r.Bases p.1) p9.2)) (fun (x13:(List UInt8))=>(ag9 ((p9.1++([32]++x13)),(p9.2+1))))) else (ag (p.1+1,p.2++[p9.1])))) (fun ag9 p9=>rfl) (strconv_Itoa (gt r.Y p.1)++[32,61])
   refine h.trans ?_
   rw [List.append_assoc]
   rfl
  ·rw [aq]
 ·rw [List.nil_append,List.drop_zero,List.drop_zero]
theorem Lv {g:ak} {r:aF} (h:okR g r): ∀x∈r.Bases,x.length≤12:=fun x hx=>by have:=h.2.2.2.2.1 x hx;have:=h.2.2.2.2.2;omega
theorem eJ {g:ak} {r:aF} (h:okR g r):1≤g.Q∧r.Bases.length=r.Y.length∧1≤r.Y.length∧r.Y.length≤8:=⟨h.1,h.2.1,h.2.2.1,h.2.2.2.1⟩
theorem hJ {g:ak} {r:aF} {z:List Int} {x:Int} (h:okR g r) (hx:x=cv r) (hz:(z.length:Int)=x): ∀x∈r.Bases,x.length≤z.length∧x.length≤1000:=fun y hy=>by have:=h.2.2.2.2.1 y hy;have:=Lv h y hy;omega
theorem tv {n:Int} {x:List UInt8} (h:x=strconv_Itoa n) (hn:okX n):x.length≤21:=by
 rw [h];exact Lib.itoa_length_le n (by have:=hn.1;omega) (by have:=hn.2;omega)
theorem CN {r:aF} {i:Int} {x:List UInt8} (hr:g9 r) (h:x=strconv_Itoa (gt r.Y i)) (hi:i.toNat<r.Y.length):x.length≤21:=tv h (hr.2.2.2.1 _ (aK hi))
theorem CO {r:aF} {i j:Int} {x:List UInt8} (hr:g9 r) (h:x=strconv_Itoa (gt (gt r.Bases i) j)) (hi:i.toNat<r.Bases.length) (hj:j.toNat<(gt r.Bases i).length):x.length≤21:=tv h (hr.2.2.2.2 _ (aK hi) _ (aK hj))
theorem mU {r:aF} (h:g9 r) {i:Int} (hi:i.toNat<r.Bases.length):(gt r.Bases i).length≤12:=h.2.2.1 _ (aK hi)
theorem CP: ∀{l:List Int},(∀x∈l,okX x)→(tu l).length≤22*l.length
 | [],_=>Nat.le_refl _
 | a::l,h=>by
  have h1:=CP (l:=l) (fun x hx=>h x (List.mem_cons_of_mem _ hx))
  have h2:=tv rfl (h a List.mem_cons_self)
  unfold tu at h1⊢
  rw [List.flatMap_cons,List.length_append,List.length_cons,List.length_cons]
  omega
theorem CQ: ∀(Y:List Int) (B:List (List Int)),(∀y∈Y,okX y)→(∀x∈B,x.length≤12∧ ∀y∈x,okX y)→B.length=Y.length→cJ (eqs Y B)≤290*Y.length∧(eqs Y B).length=Y.length
 | [],_,_,_,_=>⟨by simp [eqs,cJ],rfl⟩
 | y::Y,[],_,_,h=>by cases h
 | y::Y,b::B,h1,h2,h3=>by
  have ih:=CQ Y B (fun x hx=>h1 x (List.mem_cons_of_mem _ hx)) (fun x hx=>h2 x (List.mem_cons_of_mem _ hx)) (by simpa using h3)
  have hb:=h2 b List.mem_cons_self
  have h4:=CP hb.2
  have h5:=tv rfl (h1 y List.mem_cons_self)
  have e:gt (b::B) 0=b:=rfl
  rw [eqs,e,List.drop_one,List.tail_cons,List.length_cons,List.length_cons]
  refine ⟨?_,by rw [ih.2]⟩
  have e2:cJ (eqT y b::eqs Y B)=(eqT y b).length+cJ (eqs Y B):=by simp [cJ]
  rw [e2]
  have e3:(eqT y b).length=(strconv_Itoa y).length+(2+(tu b).length):=by simp only [eqT,List.length_append,List.length_cons,List.length_nil]
  have:=ih.1;have:=hb.1
  omega
theorem CR {r:aF} (h:g9 r):(lu r).length≤2400:=by
 rw [Lu]
 have h1:=CQ r.Y r.Bases h.2.2.2.1 (fun x hx=>⟨h.2.2.1 x hx,h.2.2.2.2 x hx⟩) h.2.1
 have h2:=qo (x:=strings_Join (eqs r.Y r.Bases) [44,32]) rfl
 have:=h.1
 simp only [List.length_append,List.length_cons,List.length_nil]
 omega
theorem Lw {r:aF} {x:List UInt8} (hx:x=lu r) (h:g9 r):x.length≤2400:=by rw [hx];exact CR h
theorem CS: ∀l:List aa,(gp l).length=l.length
 | []=>rfl
 | f::l=>by rw [gp,List.length_cons,List.length_cons,CS l]
mutual
theorem CT: ∀{f:aa},okT f→(di f).length≤2600*ay f
 | ⟨k,r,l⟩,h=>by
  rw [okT] at h
  have h1:=CR h.1
  have h2:=CU h.2.2
  have h3:=qo (x:=strings_Join (gp l) [44,32]) rfl
  rw [CS] at h3
  have:=h.2.1
  rw [di,ay]
  split
  ·omega
  ·split<;>(simp only [List.length_append,List.length_cons,List.length_nil];omega)
theorem CU: ∀{l:List aa},iH l→cJ (gp l)≤2600*cP l
 | [],_=>by simp [gp,cJ]
 | f::l,h=>by
  rw [iH] at h
  have h1:=CT h.1
  have h2:=CU h.2
  have e2:cJ (di f::gp l)=(di f).length+cJ (gp l):=by simp [cJ]
  rw [gp,cP,e2]
  omega
end
theorem Lx {f:aa} {x:List UInt8} (hx:x=di f) (h:okT f) (hh:ay f≤30):x.length≤78000:=by
 have:=CT h
 rw [hx];omega
end Go.Proofs.YtgealhhkngbkbaaGreatDoor
namespace Go.Proofs.YtgealhhkngbkbaaGreatDoor
open Go.RowKit
theorem Ly (a b:Int):dS a b≤a∧dS a b≤b∧(dS a b=a∨dS a b=b):=by unfold dS;split<;>omega
theorem CV (a b:Int):a≤b_ a b∧b≤b_ a b∧(b_ a b=a∨b_ a b=b):=by unfold b_;split<;>omega
theorem CW: ∀l:List aa,l.length≤cP l
 | []=>Nat.zero_le _
 | f::l=>by rw [cP,List.length_cons,xA f];have:=CW l;omega
mutual
theorem tw: ∀f:aa,fR f=min (ay f:Int) 31
 | ⟨k,r,l⟩=>by
  have h:=CX l 1 (by decide) (by decide)
  have h2:=Ly (gW l 1) 31
  rw [fR,ay]
  rcases h with h|h<;>omega
theorem CX: ∀(l:List aa) (n:Int),1≤n→n≤61→(gW l n=n+(cP l:Int)∧gW l n≤61)∨(31≤gW l n∧gW l n≤61∧31≤n+(cP l:Int))
 | [],n,h,h1=>by rw [gW,cP];left;omega
 | f::l,n,h,h1=>by
  have hf:=tw f
  rw [gW,cP]
  split
  ·rename_i hn
   have:=CX l (n+fR f) (by omega) (by omega)
   rcases this with ⟨h3,h4⟩|⟨h3,h4,h5⟩
   ·by_cases c:ay f≤31
    ·left;omega
    ·right;omega
   ·right;omega
  ·right;omega
end
mutual
def dpt:aa→Nat
 | ⟨_,_,l⟩=>jA l+1
def jA:List aa→Nat
 | []=>0
 | f::l=>max (dpt f) (jA l)
end
mutual
theorem xR: ∀f:aa,gh f=(dpt f:Int)
 | ⟨k,r,l⟩=>by
  have h:=CY l 0 (by decide)
  rw [gh,dpt,h]
  omega
theorem CY: ∀(l:List aa) (n:Int),0≤n→lr l n=max n (jA l:Int)
 | [],n,h=>by rw [lr,jA];omega
 | f::l,n,h=>by
  have hf:=xR f
  have hm:=CV n (gh f)
  rw [lr,jA,CY l _ (by omega)]
  omega
end
mutual
theorem CZ: ∀f:aa,dpt f≤ay f
 | ⟨k,r,l⟩=>by have:=C1 l;rw [dpt,ay];omega
theorem C1: ∀l:List aa,jA l≤cP l
 | []=>Nat.le_refl _
 | f::l=>by have:=CZ f;have:=C1 l;rw [jA,cP];omega
end
mutual
def ov (G:aa→Bool):aa→Bool
 | ⟨k,r,l⟩=>G ⟨k,r,l⟩&&lD G l
def lD (G:aa→Bool):List aa→Bool
 | []=>true
 | f::l=>ov G f&&lD G l
end
mutual
theorem tx (G:aa→Bool): ∀(f:aa) (d n:Int),0≤n→n≤1000→1≤d→d≤7→((cb G f d n).1=true↔((ay f:Int)≤n∧d+(dpt f:Int)≤7∧ov G f=true))∧((cb G f d n).1=true→(cb G f d n).2=n - (ay f:Int))
 | ⟨k,r,l⟩,d,n,h0,h1,h2,h3=>by
  have e1:ap .i64 n 1=n - 1:=ff (by omega) (by omega)
  have e2:ao .i64 d 1=d+1:=dM (by omega) (by omega)
  rw [cb,e1,e2,ay,dpt,ov]
  by_cases c1:n - 1<0
  ·rw [if_pos c1]
   refine ⟨⟨fun h=>(by cases h),fun h=>(by omega)⟩,fun h=>(by cases h)⟩
  ·rw [if_neg c1]
   by_cases c2:d>6
   ·rw [if_pos c2]
    refine ⟨⟨fun h=>(by cases h),fun h=>(by omega)⟩,fun h=>(by cases h)⟩
   ·rw [if_neg c2]
    cases c3:G ⟨k,r,l⟩ with
    | false=>
     rw [if_pos rfl]
     refine ⟨⟨fun h=>(by cases h),fun h=>(by simp at h)⟩,fun h=>by cases h⟩
    | true=>
     rw [if_neg (by decide)]
     have h:=C2 G l (d+1) (n - 1) (by omega) (by omega) (by omega) (by omega)
     refine ⟨h.1.trans ⟨fun x=>⟨by omega,by omega,by simpa using x.2.2⟩,fun x=>⟨by omega,by omega,by simpa using x.2.2⟩⟩,fun x=> ?_⟩
     rw [h.2 x];omega
theorem C2 (G:aa→Bool): ∀(l:List aa) (d n:Int),0≤n→n≤1000→1≤d→d≤7→((fz G l d n).1=true↔((cP l:Int)≤n∧d+(jA l:Int)≤7∧lD G l=true))∧((fz G l d n).1=true→(fz G l d n).2=n - (cP l:Int))
 | [],d,n,h0,h1,h2,h3=>by
  rw [fz,cP,jA,lD]
  exact ⟨⟨fun _=>⟨by omega,by omega,rfl⟩,fun _=>rfl⟩,fun _=>by show n=_;omega⟩
 | f::l,d,n,h0,h1,h2,h3=>by
  have hf:=tx G f d n h0 h1 h2 h3
  rw [xB,cP,jA,lD]
  by_cases c:(cb G f d n).1=true
  ·rw [if_pos c,hf.2 c]
   have hc:=hf.1.1 c
   have hl:=C2 G l d (n - (ay f:Int)) (by omega) (by omega) h2 h3
   refine ⟨hl.1.trans ⟨fun x=>⟨by omega,by omega,by rw [hc.2.2,x.2.2];rfl⟩,fun x=>⟨by omega,by omega,?_⟩⟩,fun x=> ?_⟩
   ·have:=x.2.2;rw [hc.2.2] at this;exact this
   ·rw [hl.2 x];omega
  ·rw [if_neg c]
   refine ⟨⟨fun h=>(by cases h),fun x=>absurd (hf.1.2 ⟨by omega,by omega,?_⟩) c⟩,fun h=>by cases h⟩
   have:=x.2.2
   rw [Bool.and_eq_true] at this
   exact this.1
end
def ND (EQ:aF→Bool):aa→Bool
 | ⟨k,r,l⟩=>if k=1 then (if l.length=0 then EQ r else false) else if (k=2∨k=3)∧r.Y.length=0∧r.Bases.length=0∧1≤l.length∧l.length≤8 then true else false
mutual
theorem xS (EQ:aF→Bool): ∀f:aa,ov (ND EQ) f=co EQ f
 | ⟨k,r,l⟩=>by
  have h:=C3 EQ l
  rw [ov,co,ND]
  by_cases k1:k=1
  ·rw [if_pos k1,if_pos k1]
   by_cases k2:l.length=0
   ·rw [if_pos k2,List.length_eq_zero_iff.1 k2,lD,Bool.and_true]
   ·rw [if_neg k2];rfl
  ·rw [if_neg k1,if_neg k1]
   split
   ·rw [h];rfl
   ·rfl
theorem C3 (EQ:aF→Bool): ∀l:List aa,lD (ND EQ) l=cj EQ l
 | []=>rfl
 | f::l=>by
  rw [lD,cj,xS EQ f,C3 EQ l]
  cases co EQ f<;>rfl
end
mutual
theorem xT {EQ LV:aF→Bool} (h: ∀r,LV r=true→EQ r=true): ∀f:aa,co LV f=(co EQ f&&oa LV f)
 | ⟨k,r,l⟩=>by
  have hl:=C4 h l
  rw [co,co,oa]
  by_cases k1:k=1
  ·rw [if_pos k1,if_pos k1,if_pos k1]
   by_cases k2:l.length=0
   ·rw [if_pos k2,if_pos k2]
    cases c:LV r with
    | false=>rw [Bool.and_false]
    | true=>rw [h r c];rfl
   ·rw [if_neg k2,if_neg k2];rfl
  ·rw [if_neg k1,if_neg k1,if_neg k1]
   split
   ·exact hl
   ·rfl
theorem C4 {EQ LV:aF→Bool} (h: ∀r,LV r=true→EQ r=true): ∀l:List aa,cj LV l=(cj EQ l&&ls LV l)
 | []=>rfl
 | f::l=>by
  rw [cj,cj,ls,xT h f,C4 h l]
  cases co EQ f<;>cases oa LV f<;>cases cj EQ l<;>cases ls LV l<;>rfl
end
theorem C5 {C:aF→dg→Bool} {q:Int} {f:aa} {t:av} (h:fm C q f t=true):0≤t.C∧t.C<q:=by
 obtain ⟨k,r,l⟩:=f
 rw [fm] at h
 split at h
 ·cases h
 ·omega
mutual
def shp:aa→av→Prop
 | ⟨k,_,l⟩,t=>if k=1 then t.P.A.length≤8 else t.L.length=l.length∧fT l t.L
def fT:List aa→List av→Prop
 | [],_=>True
 | f::l,m=>shp f (gt m 0)∧fT l (m.drop 1)
end
mutual
theorem C6 {C:aF→dg→Bool} (hC: ∀r p,C r p=true→p.A.length≤8) {q:Int}: ∀{f:aa} {t:av},fm C q f t=true→shp f t
 | ⟨k,r,l⟩,t,h=>by
  rw [fm] at h
  rw [shp]
  split at h
  ·cases h
  ·split at h
   ·rename_i k1
    rw [if_pos k1]
    split at h
    ·exact hC _ _ h
    ·cases h
   ·rename_i k1
    rw [if_neg k1]
    split at h
    ·rename_i k2
     exact ⟨k2.2.2.2,C7 hC h⟩
    ·cases h
theorem C7 {C:aF→dg→Bool} (hC: ∀r p,C r p=true→p.A.length≤8) {q k c:Int}: ∀{l:List aa} {m:List av} {s:Int},eT C q k c l m s=true→fT l m
 | [],_,_,_=>by rw [fT];trivial
 | f::l,m,s,h=>by
  rw [eT] at h
  rw [fT]
  split at h
  ·cases h
  ·rename_i k1
   split at h
   ·cases h
   ·exact ⟨C6 hC (by simpa using k1),C7 hC h⟩
end
mutual
theorem tz: ∀{f:aa} {t:av},shp f t→(dv f t).length≤ay f∧ ∀x∈dv f t,x.length≤8
 | ⟨k,r,l⟩,t,h=>by
  rw [shp] at h
  rw [dv,ay]
  split
  ·rename_i k1
   rw [if_pos k1] at h
   exact ⟨by simp,fun x hx=>by simp only [List.mem_cons,List.not_mem_nil,or_false] at hx;rw [hx];exact h⟩
  ·rename_i k1
   rw [if_neg k1] at h
   have:=C8 h.2
   exact ⟨by omega,this.2⟩
theorem C8: ∀{l:List aa} {m:List av},fT l m→(fC l m).length≤cP l∧ ∀x∈fC l m,x.length≤8
 | [],m,h=>by rw [fC];exact ⟨Nat.zero_le _,fun x hx=>by cases hx⟩
 | f::l,m,h=>by
  rw [fT] at h
  have h1:=tz h.1
  have h2:=C8 h.2
  rw [fC,cP,List.length_append]
  refine ⟨by omega,fun x hx=> ?_⟩
  rcases List.mem_append.1 hx with hx|hx
  ·exact h1.2 x hx
  ·exact h2.2 x hx
end
theorem C9: ∀{l:List aa} {m:List av},fT l m→ ∀i:Nat,i<l.length→shp (gt l (i:Int)) (gt m (i:Int))
 | f::l,m,h,0,hi=>by rw [fT] at h;exact h.1
 | f::l,m,h,i+1,hi=>by
  rw [fT] at h
  have:=C9 h.2 i (by simpa using hi)
  have e1:gt (f::l) ((i+1:Nat):Int)=gt l (i:Int):=by simp [gt,List.getD_eq_getElem?_getD]
  have e2:gt m ((i+1:Nat):Int)=gt (m.drop 1) (i:Int):=by simp [gt,List.getD_eq_getElem?_getD,Nat.add_comm]
  rw [e1,e2];exact this
end Go.Proofs.YtgealhhkngbkbaaGreatDoor
namespace Go.Proofs.YtgealhhkngbkbaaGreatDoor
open Go.RowKit Go.Lib
end Go.Proofs.YtgealhhkngbkbaaGreatDoor
namespace Go.Proofs.YtgealhhkngbkbaaGreatDoor
open Go.RowKit Go.Lib
end Go.Proofs.YtgealhhkngbkbaaGreatDoor
namespace Go.Proofs.YtgealhhkngbkbaaGreatDoor
open Go.RowKit
end Go.Proofs.YtgealhhkngbkbaaGreatDoor
namespace Go.Proofs.YtgealhhkngbkbaaGreatDoor
open Go.RowKit
theorem eW {α σ τ R:Type} [Inhabited α] {l:List α} (mk:σ→Int→τ) (L:List α→Int→σ→R) (stp:α→Int→σ→(σ→R)→R) (h1: ∀a l i s,0≤i→L (a::l) i s=stp a i s (L l (i+1)))
  {F:(τ→R)→τ→R} {d:τ→R} (hF: ∀ag s (i:Int),i<(l.length:Int)→F ag (mk s i)=stp (gt l i) i s (fun s'=>ag (mk s' (i+1)))) (hE: ∀ag s (i:Int),¬i<(l.length:Int)→F ag (mk s i)=L [] i s) (s:σ):
  ah (((l.length:Int) - 0).toNat+1) F d (mk s 0)=L l 0 s:=by
 have key: ∀(m k:Nat) (s:σ),l.length - k=m→k≤l.length→ ∀fuel,m<fuel→ah fuel F d (mk s (k:Int))=L (l.drop k) (k:Int) s:=by
  intro m
  induction m with
  | zero=>
   intro k s e1 e2 fuel hf
   obtain ⟨g,rfl⟩: ∃g,fuel=g+1:=⟨fuel - 1,by omega⟩
   rw [ah,hE _ _ _ (by omega),List.drop_of_length_le (by omega)]
  | succ m ih=>
   intro k s e1 e2 fuel hf
   obtain ⟨g,rfl⟩: ∃g,fuel=g+1:=⟨fuel - 1,by omega⟩
   have hk:k<l.length:=by omega
   rw [ah,hF _ _ _ (by omega),List.drop_eq_getElem_cons hk,h1 _ _ _ _ (by omega),iF hk]
   congr 1
   funext s'
   have:=ih (k+1) s' (by omega) (by omega) g (by omega)
   rw [show ((k:Int)+1)=((k+1:Nat):Int) by omega]
   exact this
 have h5:=key l.length 0 s (by omega) (by omega) (((l.length:Int) - 0).toNat+1) (by omega)
 simpa using h5
theorem dT {i n:Int} (h:i<n):decide (i<n)=true:=by simpa using h
theorem dN {i n:Int} (h: ¬i<n): ¬(decide (i<n)=true):=by simpa using h
theorem xU {α:Type} [Inhabited α] {m:List α} {i:Int} (h:0≤i):gt (m.drop i.toNat) 0=gt m i:=by simp [gt,List.getD_eq_getElem?_getD]
theorem xV {α:Type} {m:List α} {i:Int} (h:0≤i):(m.drop i.toNat).drop 1=m.drop (i+1).toNat:=by rw [List.drop_drop];congr 1;omega
theorem Lz (f:aa):pT f=fR f:=by
 obtain ⟨k,r,l⟩:=f
 unfold pT
 rw [fR]
 refine eW (l:=l) (fun (s:Int) i=>(s,i)) (fun l _ s=>dS (gW l s) 31) (fun a _ s K=>if s≤30 then K (s+fR a) else dS s 31) (fun a l i s _=> ?_) (fun ag s i h=> ?_) (fun ag s i h=> ?_) 1
 ·dsimp only
  rw [gW]
  split<;>rfl
 ·dsimp only
  rw [if_pos (dT h)]
  simp only [aq,decide_eq_true_eq]
 ·simp only [if_neg (dN h),gW]
theorem LA (f:aa):pU f=gh f:=by
 obtain ⟨k,r,l⟩:=f
 unfold pU
 rw [gh]
 refine eW (l:=l) (fun (s:Int) i=>(s,i)) (fun l _ s=>lr l s+1) (fun a _ s K=>K (b_ s (gh a))) (fun a l i s _=> ?_) (fun ag s i h=> ?_) (fun ag s i h=> ?_) 0
 ·dsimp only
  rw [lr]
 ·simp only [if_pos (dT h),aq]
 ·simp only [if_neg (dN h),lr]
theorem LB {f:aa} {l:List aa} {F:(Int→Bool)→Int→Bool} {d:Int→Bool} (hF: ∀ag p,F ag p=if decide (p<(l.length:Int))=true then (if (!gj (gt l p))=true then false else ag (p+1)) else true):
  ah (((l.length:Int) - 0).toNat+1) F d 0=cj gi l:=by
 refine eW (l:=l) (fun (_:Unit) i=>i) (fun l _ _=>cj gi l) (fun a _ s K=>if gj a=false then false else K ()) (fun a l i s _=> ?_) (fun ag s i h=> ?_) (fun ag s i h=> ?_) ()
 ·dsimp only
  rw [cj];rfl
 ·rw [hF,if_pos (dT h)]
  simp only [Bool.not_eq_true']
 ·rw [hF,if_neg (dN h),cj]
theorem LC (f:aa):pV f=gj f:=by
 obtain ⟨k,r,l⟩:=f
 unfold pV gj
 rw [co]
 by_cases k1:k=1
 ·rw [if_pos (by simpa using k1),if_pos k1]
  by_cases k2:l.length=0
  ·rw [if_pos (by simpa using k2),if_pos k2];rfl
  ·rw [if_neg (by simpa using k2),if_neg k2]
 ·rw [if_neg (by simpa using k1),if_neg k1]
  have key: ∀F:(Int→Bool)→Int→Bool,∀d,(∀ag p,F ag p=if decide (p<(l.length:Int))=true then (if (!gj (gt l p))=true then false else ag (p+1)) else true)→
    (if decide ((r.Y.length:Int)>0)=true then false else if decide ((r.Bases.length:Int)>0)=true then false else if decide ((l.length:Int)<1)=true then false else if decide ((l.length:Int)>8)=true then false else ah (((l.length:Int) - 0).toNat+1) F d 0)=
    if r.Y.length=0∧r.Bases.length=0∧1≤l.length∧l.length≤8 then cj gi l else false:=by
   intro F d hF
   rw [LB (f:=⟨k,r,l⟩) hF]
   simp only [decide_eq_true_eq]
   by_cases c1:r.Y.length=0
   ·rw [if_neg (by omega)]
    by_cases c2:r.Bases.length=0
    ·rw [if_neg (by omega)]
     by_cases c3:1≤l.length
     ·rw [if_neg (by omega)]
      by_cases c4:l.length≤8
      ·rw [if_neg (by omega),if_pos ⟨c1,c2,c3,c4⟩]
      ·rw [if_pos (by omega),if_neg (fun h=>c4 h.2.2.2)]
     ·rw [if_pos (by omega),if_neg (fun h=>c3 h.2.2.1)]
    ·rw [if_pos (by omega),if_neg (fun h=>c2 h.2.1)]
   ·rw [if_pos (by omega),if_neg (fun h=>c1 h.1)]
  by_cases k2:k=2
  ·rw [if_neg (by simpa using k2)]
   refine (key _ _ (fun ag p=>rfl)).trans ?_
   simp only [k2,true_or,true_and]
  ·rw [if_pos (by simpa using k2)]
   by_cases k3:k=3
   ·rw [if_neg (by simpa using k3)]
    refine (key _ _ (fun ag p=>rfl)).trans ?_
    simp only [k3,or_true,true_and]
   ·rw [if_pos (by simpa using k3),if_neg (fun h=>h.1.elim k2 k3)]
theorem LD (g:ak) (f:aa):pW g f=jq g f:=by
 obtain ⟨k,r,l⟩:=f
 unfold pW jq
 rw [oa]
 by_cases k1:k=1
 ·rw [if_pos (by simpa using k1),if_pos k1];rfl
 ·rw [if_neg (by simpa using k1),if_neg k1]
  refine eW (l:=l) (fun (_:Unit) i=>i) (fun l _ _=>ls (eR g) l) (fun a _ s K=>if jq g a=false then false else K ()) (fun a l i s _=> ?_) (fun ag s i h=> ?_) (fun ag s i h=> ?_) ()
  ·dsimp only
   rw [ls];rfl
  ·dsimp only
   rw [if_pos (dT h),aq]
   simp only [Bool.not_eq_true']
   rfl
  ·simp only [if_neg (dN h),ls]
theorem LE {CK:aF→dg→Bool} {q k c:Int} {l:List aa} {m:List av} {F:(Int×Int→Bool)→Int×Int→Bool} {d:Int×Int→Bool}
  (hF: ∀ag p,F ag p=if decide (p.2<(l.length:Int))=true then (if (!fm CK q (gt l p.2) (gt m p.2))=true then false else if (k==2)=true then (if ((gt m p.2).C !=c)=true then false else ag (aO .i64 (ao .i64 p.1 (gt m p.2).C) q,p.2+1)) else ag (aO .i64 (ao .i64 p.1 (gt m p.2).C) q,p.2+1)) else (if (k==2)=true then true else (p.1==c))):
  ah (((l.length:Int) - 0).toNat+1) F d (0,0)=eT CK q k c l m 0:=by
 have h:=eW (l:=l) (F:=F) (d:=d) (fun (s:Int) i=>(s,i)) (fun l i s=>eT CK q k c l (m.drop i.toNat) s) (fun a i s K=>if fm CK q a (gt m i)=false then false else if k=2∧(gt m i).C≠c then false else K (aO .i64 (ao .i64 s (gt m i).C) q)) (fun a l i s hi=> ?_) (fun ag s i h=> ?_) (fun ag s i h=> ?_) 0
 ·rw [h];rfl
 ·dsimp only
  rw [eT,xU hi,xV hi]
 ·rw [hF]
  dsimp only
  rw [if_pos (dT h)]
  simp only [Bool.not_eq_true',beq_iff_eq,bne_iff_ne,ne_eq]
  by_cases h1:fm CK q (gt l i) (gt m i)=false
  ·rw [if_pos h1,if_pos h1]
  ·rw [if_neg h1,if_neg h1]
   by_cases h2:k=2
   ·rw [if_pos h2]
    by_cases h3:(gt m i).C=c
    ·rw [if_neg (fun h=>h h3),if_neg (fun h=>h.2 h3)]
    ·rw [if_pos h3,if_pos ⟨h2,h3⟩]
   ·rw [if_neg h2,if_neg (fun h=>h2 h.1)]
 ·rw [hF]
  dsimp only
  rw [if_neg (dN h),eT]
  simp only [beq_iff_eq]
theorem LF (g:ak) (f:aa) (t:av):qb g f t=eU g f t:=by
 obtain ⟨k,r,l⟩:=f
 unfold qb eU
 rw [fm,aq]
 have hs:gU g t.C=(if t.C≥0 then decide (t.C<g.Q) else false):=by
  unfold gU
  simp only [decide_eq_true_eq]
 by_cases c:t.C<0∨g.Q≤t.C
 ·have:gU g t.C=false:=by
   rw [hs]
   split
   ·simp only [decide_eq_false_iff_not];omega
   ·rfl
  rw [this,if_pos c];rfl
 ·have:gU g t.C=true:=by
   rw [hs,if_pos (by omega)]
   simp only [decide_eq_true_eq];omega
  rw [this,if_neg c,if_neg (by decide)]
  by_cases k1:k=1
  ·rw [if_pos (by simpa using k1),if_pos k1]
   by_cases k2:t.L.length=0
   ·rw [if_pos (by simpa using k2)]
    by_cases k3:t.P.C=t.C
    ·rw [if_pos (by simpa using k3),if_pos ⟨k2,k3⟩];rfl
    ·rw [if_neg (by simpa using k3),if_neg (fun h=>k3 h.2)]
   ·rw [if_neg (by simpa using k2),if_neg (fun h=>k2 h.1)]
  ·rw [if_neg (by simpa using k1),if_neg k1,aq]
   have he:mG t.P=true↔(t.P.A.length=0∧t.P.C=0∧t.P.Z.length=0):=by
    unfold mG
    by_cases e1:t.P.A.length=0
    ·rw [if_pos (by simpa using e1)]
     by_cases e2:t.P.C=0
     ·rw [if_pos (by simpa using e2)]
      simp only [beq_iff_eq,e1,e2,true_and];omega
     ·rw [if_neg (by simpa using e2)];simp [e2]
    ·rw [if_neg (by simpa using e1)];simp [e1]
   by_cases e:mG t.P=true
   ·rw [e,if_neg (by decide)]
    have e':=he.1 e
    by_cases k4:t.L.length=l.length
    ·rw [if_neg (by simp;omega),if_pos ⟨e'.1,e'.2.1,e'.2.2,k4⟩]
     exact LE (fun ag p=>rfl)
    ·rw [if_pos (by simp;omega),if_neg (fun h=>k4 h.2.2.2)]
   ·have e2:mG t.P=false:=by simpa using e
    rw [e2,if_pos (show (!false)=true from rfl),if_neg (fun h=>e (he.2 ⟨h.1,h.2.1,h.2.2.1⟩))]
theorem LG (f:aa) (t:av):qd f t=dv f t:=by
 obtain ⟨k,r,l⟩:=f
 unfold qd
 rw [dv]
 by_cases k1:k=1
 ·rw [if_pos (by simpa using k1),if_pos k1]
 ·rw [if_neg (by simpa using k1),if_neg k1]
  have h:=eW (l:=l) (F:=fun (ag4:(Int×List (List Int))→List (List Int)) (p4:Int×List (List Int))=>(if (decide (p4.1<(l.length:Int))) then (ab (dv (gt l p4.1) (gt t.L p4.1)) (fun (x9:(List (List Int)))=>(ag4 ((p4.1+1),(p4.2++x9))))) else p4.2)) (d:=fun _=>default)
   (fun (s:List (List Int)) i=>(i,s)) (fun l i s=>s++fC l (t.L.drop i.toNat)) (fun a i s K=>K (s++dv a (gt t.L i))) (fun a l i s hi=> ?_) (fun ag s i h=> ?_) (fun ag s i h=> ?_) []
  ·refine h.trans ?_
   rfl
  ·dsimp only
   rw [fC,xU hi,xV hi,List.append_assoc]
  ·simp only [if_pos (dT h),aq]
  ·simp only [if_neg (dN h),fC,List.append_nil]
@[go_sem] theorem QJ {k:IntKind} {n:Int}:jI (V.int k n)=n:=by rfl
theorem LH {f:aa} {x:Int} (h:x=fR f):0≤x∧x≤31:=by rw [h,tw];omega
theorem C_ {f:aa} {x:Int} (h:x=fR f):x≤30→ay f≤30:=by rw [h,tw];omega
theorem LI {f:aa} {x:Int} {n:Nat} (h:x=gh f) (hn:ay f<n):0≤x∧x<(n:Int):=by rw [h,xR];have:=CZ f;omega
theorem tA {f:aa} (h:ay f≤30):f.L.length≤30:=by rw [xA] at h;have:=CW f.L;omega
theorem fp {f:aa} {i:Int} (h:ay f≤30) (hi:i.toNat<f.L.length):ay (gt f.L i)≤30:=by have:=cU (f:=f) (aK hi);omega
theorem LJ {f:aa} {t:av} (h:shp f t): ¬f.Kind=1→t.L.length=f.L.length:=by
 obtain ⟨k,r,l⟩:=f
 intro hk
 rw [shp,if_neg hk] at h
 exact h.1
theorem xW {f:aa} {t:av} {i:Int} (h:shp f t) (hk: ¬f.Kind=1) (h0:0≤i) (hi:i.toNat<f.L.length):shp (gt f.L i) (gt t.L i):=by
 obtain ⟨k,r,l⟩:=f
 rw [shp,if_neg hk] at h
 have:=C9 h.2 i.toNat hi
 rwa [Int.toNat_of_nonneg h0] at this
theorem Da {f:aa} {t:av} {x:List (List Int)} (h:x=dv f t) (hs:shp f t) (hh:ay f≤30):x.length≤30:=by
 have:=(tz hs).1
 rw [h];omega
theorem Db {l:List (List Int)} (h: ∀x∈l,x.length≤8) (i:Int):(gt l i).length≤8:=by
 by_cases hi:i.toNat<l.length
 ·exact h _ (aK hi)
 ·have:gt l i=[]:=by simp [gt,List.getD_eq_getElem?_getD,List.getElem?_eq_none (Nat.not_lt.1 hi)];rfl
  rw [this];decide
def jB (M:Int→Bool) (n:Int):List Int→List (List Int)→Bool
 | [],_=>true
 | y::Y,B=>if M y=false then false else if ((gt B 0).length:Int)≠n then false else if (gt B 0).all M=false then false else jB M n Y (B.drop 1)
theorem ow (M:Int→Bool) (n:Int): ∀(Y:List Int) (B:List (List Int)),B.length=Y.length→(jB M n Y B=true↔((∀y∈Y,M y=true)∧ ∀row∈B,(row.length:Int)=n∧ ∀x∈row,M x=true))
 | [],B,h=>by
  have:B=[]:=List.length_eq_zero_iff.1 h
  subst this
  rw [jB]
  exact ⟨fun _=>⟨fun y hy=>(by cases hy),fun y hy=>(by cases hy)⟩,fun _=>rfl⟩
 | y::Y,[],h=>by cases h
 | y::Y,b::B,h=>by
  have ih:=ow M n Y B (by simpa using h)
  have e:gt (b::B) 0=b:=rfl
  rw [jB,e,List.drop_one,List.tail_cons]
  by_cases c1:M y=true
  ·rw [if_neg (by rw [c1];decide)]
   by_cases c2:(b.length:Int)=n
   ·rw [if_neg (fun h=>h c2)]
    by_cases c3:b.all M=true
    ·rw [if_neg (by rw [c3];decide),ih]
     rw [List.all_eq_true] at c3
     refine ⟨fun h=>⟨fun x hx=> ?_,fun row hr=> ?_⟩,fun h=>⟨fun x hx=>h.1 x (List.mem_cons_of_mem _ hx),fun row hr=>h.2 row (List.mem_cons_of_mem _ hr)⟩⟩
     ·rcases List.mem_cons.1 hx with rfl|hx
      ·exact c1
      ·exact h.1 x hx
     ·rcases List.mem_cons.1 hr with rfl|hr
      ·exact ⟨c2,c3⟩
      ·exact h.2 row hr
    ·have c4:b.all M=false:=by simpa using c3
     rw [if_pos c4]
     refine ⟨fun h=>(by cases h),fun h=>absurd (List.all_eq_true.2 (h.2 b List.mem_cons_self).2) c3⟩
   ·rw [if_pos c2]
    exact ⟨fun h=>(by cases h),fun h=>absurd (h.2 b List.mem_cons_self).1 c2⟩
  ·have c4:M y=false:=by simpa using c1
   rw [if_pos c4]
   exact ⟨fun h=>(by cases h),fun h=>absurd (h.1 y List.mem_cons_self) c1⟩
theorem mV {R:Type} {l:List Int} (M:Int→Bool) (E O:R) {F:(Int→R)→Int→R} {d:Int→R} (hF: ∀ag p,F ag p=if decide (p<(l.length:Int))=true then (if M (gt l p)=false then O else ag (p+1)) else E):
  ah (((l.length:Int) - 0).toNat+1) F d 0=if l.all M=false then O else E:=by
 refine eW (l:=l) (fun (_:Unit) i=>i) (fun l _ _=>if l.all M=false then O else E) (fun a _ _ K=>if M a=false then O else K ()) (fun a l i s _=> ?_) (fun ag s i h=> ?_) (fun ag s i h=> ?_) ()
 ·dsimp only
  rw [List.all_cons]
  cases M a<;>rfl
 ·rw [hF,if_pos (dT h)]
 ·rw [hF,if_neg (dN h)];rfl
theorem Dc (M:Int→Bool) (n:Int) {Y:List Int} {B:List (List Int)} {F:(Int→Bool)→Int→Bool} {d:Int→Bool} (hF: ∀ag p,F ag p=if decide (p<(Y.length:Int))=true then (if M (gt Y p)=false then false else if ((gt B p).length:Int)≠n then false else if (gt B p).all M=false then false else ag (p+1)) else true):
  ah (((Y.length:Int) - 0).toNat+1) F d 0=jB M n Y B:=by
 have h:=eW (l:=Y) (F:=F) (d:=d) (fun (_:Unit) i=>i) (fun l i _=>jB M n l (B.drop i.toNat)) (fun a i _ K=>if M a=false then false else if ((gt B i).length:Int)≠n then false else if (gt B i).all M=false then false else K ()) (fun a l i s hi=> ?_) (fun ag s i h=> ?_) (fun ag s i h=> ?_) ()
 ·rw [h];rfl
 ·dsimp only
  rw [jB,xU hi,xV hi]
 ·rw [hF,if_pos (dT h)]
 ·rw [hF,if_neg (dN h)];rfl
def inX (x:Int):Bool:=decide (1≤x∧x<2305843009213693952)
theorem tB {x:Int}:inX x=true↔okX x:=by unfold inX okX;rw [decide_eq_true_eq]
theorem Dd {α:Type} {x:Int} {a b:α}:(if decide (x<1)=true then a else if decide (x≥2305843009213693952)=true then a else b)=if inX x=false then a else b:=by
 unfold inX
 simp only [decide_eq_true_eq,decide_eq_false_iff_not]
 by_cases h1:x<1
 ·rw [if_pos h1,if_pos (by omega)]
 ·rw [if_neg h1]
  by_cases h2:x≥2305843009213693952
  ·rw [if_pos h2,if_pos (by omega)]
  ·rw [if_neg h2,if_neg (by omega)]
theorem De (r:aF):gi r=if r.Y.length<1∨8<r.Y.length∨r.Bases.length≠r.Y.length∨(gt r.Bases 0).length<1∨12<(gt r.Bases 0).length then false else jB inX ((gt r.Bases 0).length:Int) r.Y r.Bases:=by
 unfold gi
 by_cases c1:r.Y.length<1
 ·rw [if_pos (by simp;omega),if_pos (.inl c1)]
 rw [if_neg (by simp;omega)]
 by_cases c2:8<r.Y.length
 ·rw [if_pos (by simp;omega),if_pos (.inr (.inl c2))]
 rw [if_neg (by simp;omega)]
 by_cases c3:r.Bases.length≠r.Y.length
 ·rw [if_pos (by simp;omega),if_pos (.inr (.inr (.inl c3)))]
 rw [if_neg (by simp;omega)]
 by_cases c4:(gt r.Bases 0).length<1
 ·rw [if_pos (by simp;omega),if_pos (.inr (.inr (.inr (.inl c4))))]
 rw [if_neg (by simp;omega)]
 by_cases c5:12<(gt r.Bases 0).length
 ·rw [if_pos (by simp;omega),if_pos (.inr (.inr (.inr (.inr c5))))]
 rw [if_neg (by simp;omega),if_neg (fun h=>by omega)]
 refine Dc inX ((gt r.Bases 0).length:Int) (fun ag p=> ?_)
 congr 1
 rw [Dd]
 congr 1
 simp only [bne_iff_ne]
 congr 1
 refine mV inX (ag (p+1)) false (fun ag2 p2=> ?_)
 congr 1
 exact Dd
theorem xX {r:aF} (h:gi r=true):okA r:=by
 rw [De] at h
 split at h
 ·cases h
 ·rename_i hc
  have h3:r.Bases.length=r.Y.length:=by omega
  rw [ow _ _ _ _ h3] at h
  exact ⟨by omega,by omega,h3,fun x hx=>tB.1 (h.1 x hx),(gt r.Bases 0).length,by omega,by omega,fun row hr=>⟨by have:=(h.2 row hr).1;omega,fun x hx=>tB.1 ((h.2 row hr).2 x hx)⟩⟩
mutual
theorem Df {EQ:aF→Bool} (hE: ∀r,EQ r=true→g9 r): ∀{f:aa},co EQ f=true→okT f
 | ⟨k,r,l⟩,h=>by
  rw [co] at h
  rw [okT]
  by_cases k1:k=1
  ·rw [if_pos k1] at h
   split at h
   ·rename_i k2
    have:l=[]:=List.length_eq_zero_iff.1 k2
    subst this
    exact ⟨hE r h,by decide,by rw [iH];trivial⟩
   ·cases h
  ·rw [if_neg k1] at h
   split at h
   ·rename_i k2
    have e1:r.Y=[]:=List.length_eq_zero_iff.1 k2.2.1
    have e2:r.Bases=[]:=List.length_eq_zero_iff.1 k2.2.2.1
    refine ⟨⟨by rw [e1];decide,by rw [e1,e2];rfl,fun x hx=>(by rw [e2] at hx;cases hx),fun x hx=>(by rw [e1] at hx;cases hx),fun x hx=>(by rw [e2] at hx;cases hx)⟩,k2.2.2.2.2,Dh hE h⟩
   ·cases h
theorem Dh {EQ:aF→Bool} (hE: ∀r,EQ r=true→g9 r): ∀{l:List aa},cj EQ l=true→iH l
 | [],_=>by rw [iH];trivial
 | f::l,h=>by
  rw [cj] at h
  rw [iH]
  split at h
  ·cases h
  ·rename_i k1
   exact ⟨Df hE (by simpa using k1),Dh hE h⟩
end
theorem Di {f:aa} (h:gk f=true):okT f∧ay f≤30:=by
 unfold gk at h
 rw [aq] at h
 split at h
 ·rename_i h1
  rw [aq] at h
  split at h
  ·rw [aq] at h
   exact ⟨Df (fun r hr=>CE (xX hr)) h,C_ rfl (by simpa using h1)⟩
  ·cases h
 ·cases h
instance QK (f:aa):CF (gk f) (fun x=>x=true→okT f∧ay f≤30):=⟨Di⟩
theorem LK {g:ak} {f:aa} (h:dI g f=true):1≤g.Q∧okT f∧ay f≤30:=by
 unfold dI at h
 rw [aq] at h
 split at h
 ·rename_i h1
  rw [aq] at h
  split at h
  ·rename_i h2
   have:=(xy g).1 h1
   exact ⟨by omega,Di h2⟩
  ·cases h
 ·cases h
instance QL (g:ak) (f:aa):CF (dI g f) (fun x=>x=true→1≤g.Q∧okT f∧ay f≤30):=⟨LK⟩
theorem tC (g:ak) (r:aF):eR g r=if eF g=false∨r.Y.length<1∨8<r.Y.length∨r.Bases.length≠r.Y.length∨(gt r.Bases 0).length<1∨12<(gt r.Bases 0).length then false else jB (dH g) ((gt r.Bases 0).length:Int) r.Y r.Bases:=by
 unfold eR dG
 rw [aq]
 by_cases c0:eF g=false
 ·rw [if_pos (by rw [c0];rfl),if_pos (.inl c0)]
 rw [if_neg (by simpa using c0)]
 by_cases c1:r.Y.length<1
 ·rw [if_pos (by simp;omega),if_pos (.inr (.inl c1))]
 rw [if_neg (by simp;omega)]
 by_cases c2:8<r.Y.length
 ·rw [if_pos (by simp;omega),if_pos (.inr (.inr (.inl c2)))]
 rw [if_neg (by simp;omega)]
 by_cases c3:r.Bases.length≠r.Y.length
 ·rw [if_pos (by simp;omega),if_pos (.inr (.inr (.inr (.inl c3))))]
 rw [if_neg (by simp;omega),aq]
 by_cases c4:(gt r.Bases 0).length<1
 ·rw [if_pos (by simp;omega),if_pos (.inr (.inr (.inr (.inr (.inl c4)))))]
 rw [if_neg (by simp;omega)]
 by_cases c5:12<(gt r.Bases 0).length
 ·rw [if_pos (by simp;omega),if_pos (.inr (.inr (.inr (.inr (.inr c5)))))]
 rw [if_neg (by simp;omega),if_neg (fun h=>by rcases h with h|h|h|h|h|h<;>contradiction)]
 refine Dc (dH g) ((gt r.Bases 0).length:Int) (fun ag p=> ?_)
 congr 1
 rw [aq]
 simp only [Bool.not_eq_true',bne_iff_ne]
 congr 1
 by_cases h9:((gt r.Bases p).length:Int)=((gt r.Bases 0).length:Int)
 ·rw [if_neg (fun h=>h h9),if_neg (fun h=>h h9),←h9]
  refine mV (dH g) (ag (p+1)) false (fun ag2 p2=> ?_)
  congr 1
 ·rw [if_pos h9,if_pos h9]
def jC (g:ak) (r:aF):Prop:=(3≤g.Q∧3≤g.P∧g.P<2305843009213693952∧g.Q<g.P)∧1≤r.Y.length∧r.Y.length≤8∧r.Bases.length=r.Y.length∧(∀y∈r.Y,1≤y∧y<g.P)∧ ∀row∈r.Bases,row.length=(gt r.Bases 0).length∧ ∀x∈row,1≤x∧x<g.P
theorem xY {g:ak} {r:aF} (h:eR g r=true):jC g r:=by
 rw [tC] at h
 split at h
 ·cases h
 ·rename_i hc
  have c0:eF g=true:=by
   cases e:eF g with
   | true=>rfl
   | false=>exact absurd (.inl e) hc
  have hg:=(xy g).1 c0
  have c3:r.Bases.length=r.Y.length:=Decidable.byContradiction fun e=>hc (.inr (.inr (.inr (.inl e))))
  have c1: ¬r.Y.length<1:=fun e=>hc (.inr (.inl e))
  have c2: ¬8<r.Y.length:=fun e=>hc (.inr (.inr (.inl e)))
  rw [ow _ _ _ _ c3] at h
  exact ⟨⟨by omega,by omega,by omega,by omega⟩,by omega,by omega,c3,fun y hy=>(Cd g y).1 (h.1 y hy),fun row hr=>⟨by have:=(h.2 row hr).1;omega,fun x hx=>(Cd g x).1 ((h.2 row hr).2 x hx)⟩⟩
instance rv_cf (g:ak) (r:aF):CF (eR g r) (fun x=>x=true→jC g r):=⟨xY⟩
theorem tD {g:ak} {r:aF} (h:jC g r):3≤g.Q∧3≤g.P∧g.P<2305843009213693952∧g.Q<g.P∧1≤r.Y.length∧r.Y.length≤8∧r.Bases.length=r.Y.length:=⟨h.1.1,h.1.2.1,h.1.2.2.1,h.1.2.2.2,h.2.1,h.2.2.1,h.2.2.2.1⟩
theorem qp {g:ak} {r:aF} {i:Int} (h:jC g r) (hi:i.toNat<r.Y.length): ∀x∈gt r.Bases i,0≤x∧x<g.P:=fun x hx=>by
 have h2:=h.2.2.2.1
 have:=(h.2.2.2.2.2 _ (aK (l:=r.Bases) (i:=i) (by omega))).2 x hx;omega
theorem qq {g:ak} {r:aF} {i x n:Int} (h:jC g r) (hi:i.toNat<r.Y.length) (hx:x=dG r) (hn:n=x):((gt r.Bases i).length:Int)≤n:=by
 have h2:=h.2.2.2.1
 have:=(h.2.2.2.2.2 _ (aK (l:=r.Bases) (i:=i) (by omega))).1
 unfold dG at hx;omega
theorem xZ {g:ak} {l:List Int} (h:fo g l=true): ∀x∈l,0≤x∧x<g.Q:=by
 unfold fo at h
 rw [mV (l:=l) (fun x=>decide (0≤x∧x<g.Q)) true false (fun ag p=> ?_)] at h
 ·split at h
  ·cases h
  ·rename_i h1
   intro x hx
   have h2:l.all (fun x=>decide (0≤x∧x<g.Q))=true:=by simpa using h1
   have:=List.all_eq_true.1 h2 x hx
   simpa using this
 ·congr 1
  simp only [decide_eq_true_eq,decide_eq_false_iff_not]
  by_cases c1:gt l p<0
  ·rw [if_pos c1,if_pos (by omega)]
  ·rw [if_neg c1]
   by_cases c2:gt l p≥g.Q
   ·rw [if_pos c2,if_pos (by omega)]
   ·rw [if_neg c2,if_neg (by omega)]
instance QM (g:ak) (l:List Int):CF (fo g l) (fun x=>x=true→ ∀x∈l,0≤x∧x<g.Q):=⟨xZ⟩
theorem ya {l:List Int} {q:Int} (h: ∀x∈l,0≤x∧x<q): ∀x∈l,0≤x:=fun x hx=>(h x hx).1
theorem tE {g:ak} {f:aa} {x:Bool} (hx:x=bD g f):x=true→1≤g.Q:=by
 intro h
 rw [hx] at h
 unfold bD at h
 rw [aq] at h
 split at h
 ·rename_i h1
  exact xu rfl h1
 ·cases h
theorem LL {g:ak} {f:aa} (h:bD g f=true):ay f≤30:=by
 have h1:(cb (fun f=>dh f g) f 1 30).1=true:=by
  unfold bD at h
  rw [aq] at h
  split at h
  ·exact h
  ·cases h
 have:=((tx _ f 1 30 (by decide) (by decide) (by decide) (by decide)).1.1 h1).1
 omega
theorem LM {g:ak} {f:aa} {t:av} (h:gn g f t=true):shp f t∧okF f∧ay f≤30:=by
 unfold gn at h
 rw [aq] at h
 split at h
 ·rename_i h1
  rw [aq] at h
  refine ⟨C6 (fun r p hp=> ?_) h,xP h1,LL h1⟩
  have h2:=(KW g r p).1 hp
  have:=(eJ h2.1).2.2.2
  omega
 ·cases h
instance QN (g:ak) (f:aa) (t:av):CF (gn g f t) (fun x=>x=true→shp f t∧okF f∧ay f≤30):=⟨LM⟩
instance QO (f:aa):CF (lv f) (fun x=>x.1.length≤8000):=⟨by
 unfold lv
 rw [aq]
 split
 ·exact Nat.zero_le _
 ·rw [aq]
  split
  ·exact Nat.zero_le _
  ·rename_i h1
   simp only [decide_eq_true_eq] at h1
   dsimp only
   omega⟩
theorem LN {f:aa} {t:av} {x:List (List Int)} (h:x=dv f t) (hs:shp f t): ∀y∈x,y.length≤8:=by rw [h];exact (tz hs).2
instance QP (s:List UInt8):CF (g7 s) (fun x=>x=true→1≤s.length∧s.length≤24):=⟨fun h=>by
 unfold g7 at h
 split at h
 ·cases h
 ·split at h
  ·cases h
  ·rename_i h1 h2
   simp only [decide_eq_true_eq] at h1 h2
   omega⟩
theorem fF {m a b:Int} (h:m=b_ a b):a≤m∧b≤m∧(m=a∨m=b):=by rw [h];exact CV a b
theorem tF {l:List Int} {x:aJ} (hx:x=jv l) (h:l.length≤8):hgt x≤9:=by rw [KS hx];omega
end Go.Proofs.YtgealhhkngbkbaaGreatDoor
namespace Go.Proofs.YtgealhhkngbkbaaGreatDoor
open Go.RowKit
theorem Dj {i:Nat}: ∀{l:List V} {o:Nat},(dJ i l)[o]? =(l[o]?).map (dV i)
 | [],_=>by simp [dJ]
 | _::_,0=>by simp [dJ]
 | _::l,o+1=>by simp only [dJ,List.getElem?_cons_succ];exact Dj
theorem yb {E:Env} {S:St} (k o i j:Nat) {T n' n:Nat} {g:Bool} {z:Option Bool} {l m:List V} (h:ae S.H k=some (.var n' true (.agg l))) (ho:l[o]? =some (.own j)) (h2:ae S.H j=some (.own T n g z m)) (hi:i<S.nx) (hij:i≠j) (hik:i≠k):
  cC E S ⟨nf i S.F,(i,.own T n g z m)::lf j (dc (kM i S.H) k (.var n' true (.agg ((dJ i l).set o (.own i))))),S.nx⟩:=by
 intro c0 c ρ F hs
 obtain ⟨v,hv,hown,hge,hone,a,cap,es,hz⟩:=hs.1.heap _ _ h2
 have hro: ∀k,k≠i→dn ρ i v k=ρ k:=fun k hk=>iT hk
 have hbi:am (dn ρ i v) i=am ρ j:=by unfold am;rw [dB,hv]
 have hbk: ∀k,k≠i→am (dn ρ i v) k=am ρ k:=fun k hk=>by unfold am;rw [hro k hk]
 have hold: ∀x b,i≠x→ae (lf j (dc (kM i S.H) k (.var n' true (.agg ((dJ i l).set o (.own i)))))) x=some b→x≠j∧((x=k∧b= .var n' true (.agg ((dJ i l).set o (.own i))))∨ ∃b0,ae S.H x=some b0∧b=lW i b0):=by
  intro x b hx hb
  obtain ⟨h3,h4⟩:=wU hb
  rw [cV] at h4
  split at h4
  ·rename_i e;cases h4;exact ⟨h3,.inl ⟨e.symm,rfl⟩⟩
  ·rw [rH] at h4
   cases h5:ae S.H x with
   | none=>rw [h5] at h4;cases h4
   | some b0=>rw [h5] at h4;cases h4;exact ⟨h3,.inr ⟨b0,rfl,rfl⟩⟩
 have hpriv: ∀x b,i≠x→ae (lf j (dc (kM i S.H) k (.var n' true (.agg ((dJ i l).set o (.own i)))))) x=some b→aY b=true→x≠j∧ ∃b0,ae S.H x=some b0∧aY b0=true:=by
  intro x b hx hb hp
  obtain ⟨h3,h4⟩:=hold x b hx hb
  rcases h4 with ⟨rfl,_⟩|⟨b0,h5,rfl⟩
  ·exact ⟨h3,_,h,rfl⟩
  ·exact ⟨h3,b0,h5,by rw [rI] at hp;exact hp⟩
 refine ⟨c,dn ρ i v,rfl,⟨hs.1.since,hs.1.gl,fun t' x ht=> ?_,?_,?_⟩,fun k hk=> ?_⟩
 ·rw [vu] at ht
  cases h5:ae S.F t' with
  | none=>rw [h5] at ht;cases ht
  | some y=>rw [h5] at ht;cases ht;exact l3 hro (hs.1.slot _ _ h5)
 ·intro x b hb
  simp only [ae] at hb
  split at hb
  ·rename_i e;subst e;cases hb
   exact ⟨v,dB,hown,hge,hone,a,cap,es,hz⟩
  ·rename_i hk
   obtain ⟨_,h6⟩:=hold x b hk hb
   rcases h6 with ⟨rfl,rfl⟩|⟨b0,h6,rfl⟩
   ·have hp:=vw hro (Ne.symm hk) (hs.1.heap _ _ h)
    obtain ⟨b0,g1,g2,hX,T',cs,hh,hsh,hrd⟩:=hp
    refine ⟨b0,g1,g2,hX,T',cs,hh,hsh,?_⟩
    simp only [mkV,rd,dV] at hrd⊢
    obtain ⟨cs',e1,e2⟩:=hrd
    refine ⟨cs',e1,Bz (x:= .own j) (fun u hu=> ?_) e2 ?_⟩
    ·simp only [rd] at hu⊢
     rw [hro j (Ne.symm hij),hv] at hu
     exact ⟨by rw [dB];exact hu.1,hu.2⟩
    ·rw [Dj,ho]
     simp [dV,Ne.symm hij]
   ·exact vw hro (Ne.symm hk) (hs.1.heap _ _ h6)
 ·intro x y bx bb q hxy hx hy hpx hpy hbx
  simp only [ae] at hx hy
  split at hx
  ·rename_i e;subst e
   rw [if_neg hxy] at hy
   obtain ⟨hyj,b0,h6,h7⟩:=hpriv y bb hxy hy hpy
   rw [hbk y (Ne.symm hxy)]
   rw [hbi] at hbx
   exact hs.1.sep j y _ b0 q (Ne.symm hyj) h2 h6 rfl h7 hbx
  ·rename_i hix
   obtain ⟨hxj,b0,h6,h8⟩:=hpriv x bx hix hx hpx
   rw [hbk x (Ne.symm hix)] at hbx
   split at hy
   ·rename_i e;subst e
    rw [hbi]
    exact hs.1.sep x j b0 _ q hxj h6 h2 h8 rfl hbx
   ·rename_i hiy
    obtain ⟨hyj,b1,h7,h9⟩:=hpriv y bb hiy hy hpy
    rw [hbk y (Ne.symm hiy)]
    exact hs.1.sep x y b0 b1 q hxy h6 h7 h8 h9 hbx
 ·have hk':S.nx≤k:=hk
  rw [hro k (by omega)];exact hs.2 k hk
end Go.Proofs.YtgealhhkngbkbaaGreatDoor
namespace Go.Proofs.YtgealhhkngbkbaaGreatDoor
open Go.RowKit
theorem LO {k:IntKind} {l:List Int} {i:Int}:elt (l.map (V.int k)) i.toNat (V.int k 0)=V.int k (gt l i):=by
 unfold elt gt
 simp only [List.getD_eq_getElem?_getD,List.getElem?_map]
 cases l[i.toNat]? <;>rfl
@[go_sem] theorem QQ {k:IntKind} {a b c d e f g a' i:Int}:elt [V.int k a,V.int k b,V.int k c,V.int k d,V.int k e,V.int k f,V.int k g,V.int k a'] i.toNat (V.int k 0)=V.int k (gt [a,b,c,d,e,f,g,a'] i):=LO (l:=[a,b,c,d,e,f,g,a'])
theorem LP {d:bm} {x:List Int} (hx:x=pX d):x.length≤40:=by
 subst hx
 unfold pX
 refine eP (P:=fun (a:Int×List Int)=> -8≤a.1∧a.1≤56∧8*(a.2.length:Int)+a.1=312) (Q:=fun r:List Int=>r.length≤40) (meas:=fun a=>(a.1+8).toNat) ?_ _ _ ⟨(by decide:(-8:Int)≤56),(by decide:(56:Int)≤56),?_⟩ (show ((56:Int)+8).toNat<((56:Int)+8).toNat+1 by decide)
 ·rintro ag ⟨i,l⟩ ⟨g0,g1,g2⟩ hag
  simp only at g0 g1 g2 hag⊢
  by_cases hi:i≥0
  ·rw [if_pos (by simpa using hi)]
   exact hag _ ⟨by simp only;omega,by simp only;omega,by simp only [List.length_append,List.length_cons,List.length_nil];omega⟩ (by simp only;omega)
  ·rw [if_neg (by simpa using hi)];omega
 ·simp only [List.length_append,gK,List.length_nil];omega
theorem yc {d:bm} {n low high x:Int} (hx:x=jr d n low high):x≠0∨(0≤d.Counter∧d.Counter≤1099511627776∧low≤n∧n≤high):=by
 subst hx
 unfold jr gm
 simp only [ab]
 repeat' split
 all_goals first|(left;decide)|(right;simp_all)|(right;simp_all;omega)
theorem LQ {x y:Int} (hx:x=kh y):0≤x:=by subst hx;unfold kh;omega
end Go.Proofs.YtgealhhkngbkbaaGreatDoor
namespace Go.Proofs.YtgealhhkngbkbaaGreatDoor
open Go.RowKit
theorem LR (w:aG):qe w=dj w:=by
 obtain ⟨f,t,k,l,c,d⟩:=w
 unfold qe
 rw [dj]
 cases d with
 | true=>rfl
 | false=>
  by_cases hk:f.Kind=1
  ·simp [hk]
  ·rw [if_neg (by simp),if_neg (by simpa using hk),if_neg (by decide),if_neg hk]
   refine (eW (l:=l) (fun (s:List (List Int)) i=>(i,s)) (fun l _ s=>s++fE l) (fun a _ s K=>K (s++dj a)) (fun a l i s _=> ?_) (fun ag s i h=> ?_) (fun ag s i h=> ?_) []).trans (List.nil_append _)
   ·dsimp only
    rw [fE,List.append_assoc]
   ·simp only [if_pos (dT h),aq]
   ·simp only [if_neg (dN h),fE,List.append_nil]
theorem LS (v:ar) (f:aa) (c:Int):js v f c=bn v f c:=by
 obtain ⟨k,r,l⟩:=f
 unfold js
 rw [bn]
 by_cases hk:k=1
 ·subst hk
  simp [aq]
 ·rw [if_neg (by simpa using hk),if_neg hk]
  refine eW (l:=l) (fun (s:Int×ar×List av) i=>(s.1,i,s.2)) (fun m i s=>((⟨c,dZ,(du s.2.1 k m c s.1 s.2.2 i (l.length:Int)).1⟩,(du s.2.1 k m c s.1 s.2.2 i (l.length:Int)).2):av×ar))
   (fun a i s K=>if k=3 then (if i<(l.length:Int) - 1 then K (aO .i64 (ao .i64 (ap .i64 s.1 (br s.2.1).1) (br s.2.1).2.g.Q) (br s.2.1).2.g.Q,(bn (br s.2.1).2 a (br s.2.1).1).2,s.2.2++[(bn (br s.2.1).2 a (br s.2.1).1).1])
    else K (aO .i64 (ao .i64 (ap .i64 s.1 s.1) s.2.1.g.Q) s.2.1.g.Q,(bn s.2.1 a s.1).2,s.2.2++[(bn s.2.1 a s.1).1])) else K (s.1,(bn s.2.1 a c).2,s.2.2++[(bn s.2.1 a c).1])) ?_ (fun ag s i h=> ?_) (fun ag s i h=> ?_) (c,v,[])
  ·intro a m i s h0
   dsimp only
   rw [du]
   by_cases h3:k=3
   ·rw [if_pos h3,if_pos h3]
    by_cases h4:i<(l.length:Int) - 1
    ·rw [if_pos h4,if_pos h4]
    ·rw [if_neg h4,if_neg h4]
   ·rw [if_neg h3,if_neg h3]
  ·simp only [if_pos (dT h),aq,dD]
   by_cases h3:k=3
   ·simp only [h3,beq_self_eq_true,if_true,decide_eq_true_eq]
   ·have:(k==3)=false:=by simpa using h3
    simp only [this,h3,Bool.false_eq_true,if_false]
  ·simp only [if_neg (dN h),du]
theorem LT {R:Type} {q c0:Int} {l:List aG} {ch:Int} {E:Int→R} {F:(Int×Int→R)→Int×Int→R} {d:Int×Int→R}
  (hF: ∀ag p,F ag p=if decide (p.2<(l.length:Int))=true then (if (p.2 !=ch)=true then ag (aO .i64 (ao .i64 (ap .i64 p.1 (gt l p.2).t.C) q) q,p.2+1) else ag (p.1,p.2+1)) else E p.1):
  ah (((l.length:Int) - 0).toNat+1) F d (c0,0)=E (iD q l 0 ch c0):=by
 refine eW (l:=l) (fun (s:Int) i=>(s,i)) (fun m i s=>E (iD q m i ch s)) (fun a i s K=>if i≠ch then K (aO .i64 (ao .i64 (ap .i64 s a.t.C) q) q) else K s) (fun a m i s _=> ?_) (fun ag s i h=> ?_) (fun ag s i h=> ?_) c0
 ·dsimp only
  rw [iD]
  by_cases h:i≠ch
  ·rw [if_pos h,if_pos h]
  ·rw [if_neg h,if_neg h]
 ·rw [hF,if_pos (dT h)]
  by_cases h:i=ch<;>simp [h]
 ·rw [hF,if_neg (dN h),iD]
theorem Dk {R:Type} {c:Int} {x:List Int} {l:List aG} {v:ar} {E:List av→ar→R} {F:(Int×ar×List av→R)→Int×ar×List av→R} {d:Int×ar×List av→R}
  (hF: ∀ag p,F ag p=if decide (p.1<(l.length:Int))=true then ag (p.1+1,(bH p.2.1 (gt l p.1) c x).2,p.2.2++[(bH p.2.1 (gt l p.1) c x).1]) else E p.2.2 p.2.1):
  ah (((l.length:Int) - 0).toNat+1) F d (0,v,[])=E (c8 v l c x []).1 (c8 v l c x []).2:=by
 refine eW (l:=l) (fun (s:ar×List av) i=>(i,s)) (fun m _ s=>E (c8 s.1 m c x s.2).1 (c8 s.1 m c x s.2).2) (fun a _ s K=>K ((bH s.1 a c x).2,s.2++[(bH s.1 a c x).1])) (fun a m i s _=> ?_) (fun ag s i h=> ?_) (fun ag s i h=> ?_) (v,[])
 ·dsimp only
  rw [c8]
 ·rw [hF,if_pos (dT h)]
 ·rw [hF,if_neg (dN h),c8]
theorem LU (v:ar) (w:aG) (c:Int) (x:List Int):jw v w c x=bH v w c x:=by
 obtain ⟨f,t,k,l,ch,d⟩:=w
 unfold jw
 rw [bH]
 cases d with
 | true=>rfl
 | false=>
  rw [if_neg (by simp)]
  by_cases h1:f.Kind=1
  ·by_cases h2:v.e=0
   ·rw [if_pos (by simpa using h1),if_pos (by simpa using h2),if_neg (by decide),if_pos h1,if_pos h2];rfl
   ·rw [if_pos (by simpa using h1),if_neg (by simpa using h2),if_neg (by decide),if_pos h1,if_neg h2]
  ·rw [if_neg (by simpa using h1)]
   by_cases h2:f.Kind=2
   ·rw [if_pos (by simpa using h2),if_neg (by decide),if_neg h1,if_pos h2]
    exact Dk (E:=fun m u=>((⟨c,dZ,m⟩,u):av×ar)) (fun ag p=>by simp only [aq])
   ·rw [if_neg (by simpa using h2),if_neg (by decide),if_neg h1,if_neg h2]
    refine (LT (q:=v.g.Q) (ch:=ch) (E:=fun a=>((⟨c,dZ,(c8 v l a x []).1⟩,(c8 v l a x []).2):av×ar)) (fun ag p=> ?_))
    congr 1
    exact Dk (E:=fun m u=>((⟨c,dZ,m⟩,u):av×ar)) (fun ag p=>by simp only [aq])
theorem Dl (l:List aa) (v:ar) (x:List Int):lw l v x=(eg v.g l x 0,v):=by
 unfold lw
 refine eW (l:=l) (fun (s:ar) i=>(i,s)) (fun m i s=>(eg s.g m x i,s)) (fun a i s K=>if bR s.g a x=true then (i,s) else K s) (fun a m i s _=> ?_) (fun ag s i h=> ?_) (fun ag s i h=> ?_) v
 ·dsimp only
  rw [eg]
  split<;>rfl
 ·rw [if_pos (dT h)]
  unfold od
  simp only [aq]
 ·rw [if_neg (dN h),eg]
theorem LW {R:Type} {x:List Int} {l:List aa} {v:ar} {E:List aG→ar→R} {F:(Int×ar×List aG→R)→Int×ar×List aG→R} {d:Int×ar×List aG→R}
  (hF: ∀ag p,F ag p=if decide (p.1<(l.length:Int))=true then ag (p.1+1,(aL p.2.1 (gt l p.1) x).2,p.2.2++[(aL p.2.1 (gt l p.1) x).1]) else E p.2.2 p.2.1):
  ah (((l.length:Int) - 0).toNat+1) F d (0,v,[])=E (eG v l x []).1 (eG v l x []).2:=by
 refine eW (l:=l) (fun (s:ar×List aG) i=>(i,s)) (fun m _ s=>E (eG s.1 m x s.2).1 (eG s.1 m x s.2).2) (fun a _ s K=>K ((aL s.1 a x).2,s.2++[(aL s.1 a x).1])) (fun a m i s _=> ?_) (fun ag s i h=> ?_) (fun ag s i h=> ?_) (v,[])
 ·dsimp only
  rw [eG]
 ·rw [hF,if_pos (dT h)]
 ·rw [hF,if_neg (dN h),eG]
theorem LY {R:Type} {x:List Int} {l:List aa} {v:ar} {j:Int} {E:List aG→ar→R} {F:(Int×ar×List aG→R)→Int×ar×List aG→R} {d:Int×ar×List aG→R}
  (hF: ∀ag p,F ag p=if decide (p.1<(l.length:Int))=true then (if (p.1==j)=true then ag (p.1+1,(aL p.2.1 (gt l p.1) x).2,p.2.2++[(aL p.2.1 (gt l p.1) x).1])
   else ag (p.1+1,(bn (br p.2.1).2 (gt l p.1) (br p.2.1).1).2,p.2.2++[⟨gt l p.1,(bn (br p.2.1).2 (gt l p.1) (br p.2.1).1).1,[],[],0,true⟩])) else E p.2.2 p.2.1):
  ah (((l.length:Int) - 0).toNat+1) F d (0,v,[])=E (eh v l x j 0 []).1 (eh v l x j 0 []).2:=by
 refine eW (l:=l) (fun (s:ar×List aG) i=>(i,s)) (fun m i s=>E (eh s.1 m x j i s.2).1 (eh s.1 m x j i s.2).2) (fun a i s K=>if i=j then K ((aL s.1 a x).2,s.2++[(aL s.1 a x).1]) else K ((bn (br s.1).2 a (br s.1).1).2,s.2++[⟨a,(bn (br s.1).2 a (br s.1).1).1,[],[],0,true⟩])) (fun a m i s _=> ?_) (fun ag s i h=> ?_) (fun ag s i h=> ?_) (v,[])
 ·dsimp only
  rw [eh]
  by_cases hj:i=j
  ·rw [if_pos hj,if_pos hj]
  ·rw [if_neg hj,if_neg hj]
 ·rw [hF,if_pos (dT h)]
  by_cases hj:i=j
  ·rw [if_pos (by simpa using hj),if_pos hj]
  ·rw [if_neg (by simpa using hj),if_neg hj]
 ·rw [hF,if_neg (dN h),eh]
theorem LZ (v:ar) (f:aa) (x:List Int):eH v f x=aL v f x:=by
 obtain ⟨k,r,l⟩:=f
 unfold eH
 rw [aL]
 by_cases hk:k=1
 ·subst hk
  simp only [aq]
  rw [if_pos (show ((1:Int)==1)=true from rfl)]
  by_cases he:(bV v (bf ⟨1,r,l⟩)).2.e=0
  ·rw [if_pos (by simpa using he),if_pos he,if_pos trivial]
  ·rw [if_neg (by simpa using he),if_neg he,if_pos trivial]
 ·rw [if_neg (by simpa using hk),if_neg hk]
  by_cases h2:k=2
  ·rw [if_pos (by simpa using h2),if_pos h2]
   exact LW (E:=fun m u=>((⟨⟨k,r,l⟩,eE,[],m,0,false⟩,u):aG×ar)) (fun ag p=>by simp only [aq])
  ·rw [if_neg (by simpa using h2),if_neg h2,aq,Dl]
   exact LY (E:=fun m u=>((⟨⟨k,r,l⟩,eE,[],m,eg v.g l x 0,false⟩,u):aG×ar)) (fun ag p=>by simp only [aq])
theorem L8 (f:aa):qh f=bf f:=by
 obtain ⟨k,r,l⟩:=f
 unfold qh
 rw [bf]
 by_cases hk:k=1
 ·rw [if_pos (by simpa using hk),if_pos hk];rfl
 ·rw [if_neg (by simpa using hk),if_neg hk]
  refine eW (l:=l) (fun (s:Int) i=>(s,i)) (fun m i s=>jk m s) (fun a i s K=>K (b_ s (bf a))) (fun a m i s _=> ?_) (fun ag s i h=> ?_) (fun ag s i h=> ?_) 0
  ·dsimp only
   rw [jk]
  ·simp only [if_pos (dT h),aq]
  ·simp only [if_neg (dN h),jk]
theorem L9 (g:ak) (f:aa) (x:List Int):qk g f x=gZ g f x:=by
 obtain ⟨k,r,l⟩:=f
 unfold qk
 rw [gZ]
 by_cases hk:k=1
 ·rw [if_pos (by simpa using hk),if_pos hk];rfl
 ·rw [if_neg (by simpa using hk),if_neg hk]
  refine eW (l:=l) (fun (s:Bool×Bool) i=>(s.1,s.2,i)) (fun m i s=>if k=2 then (iE g m x s.1 s.2).2 else (iE g m x s.1 s.2).1) (fun a i s K=>if gZ g a x=true then K (true,s.2) else K (s.1,false)) (fun a m i s _=> ?_) (fun ag s i h=> ?_) (fun ag s i h=> ?_) (false,true)
  ·dsimp only
   rw [iE]
   by_cases ha:gZ g a x=true
   ·rw [if_pos ha,if_pos ha]
   ·rw [if_neg ha,if_neg ha]
  ·simp only [if_pos (dT h),aq]
  ·simp only [if_neg (dN h),iE]
   by_cases h2:k=2
   ·rw [if_pos (by simpa using h2),if_pos h2]
   ·rw [if_neg (by simpa using h2),if_neg h2]
end Go.Proofs.YtgealhhkngbkbaaGreatDoor
namespace Go.Proofs.YtgealhhkngbkbaaGreatDoor
open Go.RowKit
theorem lE {g:ak} {r:aF} {l o:List Int} {x:Int} (hx:x=fS g r l o) (h0:x=0):okR g r∧(l.length:Int)=cv r:=by
 subst hx
 unfold fS at h0
 simp only [aq] at h0
 split at h0
 ·exact absurd h0 (by decide)
 rename_i hv
 split at h0
 ·exact absurd h0 (by decide)
 rename_i hl
 exact ⟨qn (by simpa using hv),by simpa using hl⟩
theorem L_ {g:ak} {r:aF} {c:Int} {z:List Int}:(fB g r c z).length=(dF g r.Bases z).length:=by
 unfold fB
 rw [aq]
 refine eP (P:=fun (p:Int×List Int)=>0≤p.1∧p.1≤(r.Y.length:Int)∧p.2.length=(dF g r.Bases z).length) (Q:=fun s:List Int=>s.length=(dF g r.Bases z).length) (meas:=fun p=>((r.Y.length:Int) - p.1).toNat) ?_ _ _ ⟨Int.le_refl 0,by show (0:Int)≤_;omega,rfl⟩ (Nat.lt_succ_self _)
 rintro ag ⟨i,s⟩ ⟨g0,g1,g2⟩ hag
 simp only at g0 g1 g2 hag⊢
 by_cases hi:i<(r.Y.length:Int)
 ·rw [if_pos (dT hi),aq,aq]
  exact hag _ ⟨by simp only;omega,by simp only;omega,by simp [st,g2]⟩ (by simp only;omega)
 ·rw [if_neg (dN hi)];exact g2
theorem Ma (g:ak) (r:aF) (c:Int) (z:List Int):(ko g r c z).1.A.length≤8:=by
 unfold ko
 simp only [aq]
 split
 ·exact Nat.zero_le _
 ·rename_i h
  have:=(lE rfl (by simpa using h)).1
  show (fB g r c z).length≤8
  rw [L_,xz rfl]
  have h2:=eJ this
  omega
theorem Mb (g:ak) (r:aF) (k:List Int):(kq g r k).1.length≤8:=by
 unfold kq
 simp only [aq]
 split
 ·exact Nat.zero_le _
 ·rename_i h
  have:=(lE rfl (by simpa using h)).1
  show (dF g r.Bases k).length≤8
  rw [xz rfl]
  have h2:=eJ this
  omega
theorem Mc (d:bm) (q n:Int):(fA d q n).2.1.length≤n.toNat:=by
 unfold fA
 show (fun r:bm×List Int×Int=>r.2.1.length≤n.toNat) (dD _ _)
 generalize jr d q 1 2305843009213693951=x1
 have hj: ∀p5:Int,(fun r:bm×List Int×Int=>r.2.1.length≤n.toNat) (if (p5 !=0)=true then (fx,([]:List Int),p5) else (ah ((n - 0).toNat+1) (fun (ag9:(Int×bM×List Int)→(bm×(List Int)×Int)) (p9:Int×bM×List Int)=>(if (decide (p9.1<n))=true then (ab (fk (p9.2.1) q) (fun (x12:(Int×bM))=>(ag9 ((p9.1+1),x12.2,(p9.2.2++([x12.1]:List Int)))))) else (ab (bS (p9.2.1)) (fun (x16:(bm×Int×bM))=>(if (x16.2.1 !=0)=true then (fx,([]:List Int),x16.2.1) else (x16.1,p9.2.2,0)))))) (fun _=>default) (0,({d:=d,full:=false}:bM),([]:List Int)))):=by
  intro p5
  split
  ·exact Nat.zero_le _
  ·refine eP (P:=fun (a:Int×bM×List Int)=>0≤a.1∧a.1≤max n 0∧(a.2.2.length:Int)=a.1) (Q:=fun r:bm×List Int×Int=>r.2.1.length≤n.toNat) (meas:=fun a=>(n - a.1).toNat) ?_ _ _ ⟨Int.le_refl _,by show (0:Int)≤_;omega,rfl⟩ (Nat.lt_succ_self _)
   rintro ag ⟨i,s,l⟩ ⟨g0,g1,g2⟩ hag
   simp only at g0 g1 g2 hag⊢
   by_cases hi:i<n
   ·rw [if_pos (by simpa using hi),aq]
    exact hag _ ⟨by simp only;omega,by simp only;omega,by simp only [List.length_append,List.length_cons,List.length_nil];omega⟩ (by simp only;omega)
   ·rw [if_neg (by simpa using hi),aq]
    split
    ·exact Nat.zero_le _
    ·simp only;omega
 by_cases hx:(x1==0)=true
 ·show (fun r:bm×List Int×Int=>r.2.1.length≤n.toNat) (if (x1==0)=true then _ else _)
  rw [if_pos hx]
  exact hj _
 ·show (fun r:bm×List Int×Int=>r.2.1.length≤n.toNat) (if (x1==0)=true then _ else _)
  rw [if_neg hx]
  exact hj _
theorem Md (v:ar) (n:Int):(bV v n).1.length≤n.toNat:=by
 unfold bV
 split
 ·exact Nat.zero_le _
 ·rw [aq];exact Mc _ _ _
theorem tG (v:ar) (n:Int):(bV v n).2.g=v.g:=by
 unfold bV
 split<;>rfl
theorem yd (v:ar):(br v).2.g=v.g:=by
 unfold br
 split<;>rfl
mutual
theorem qr: ∀(f:aa) (v:ar) (c:Int),(bn v f c).2.g=v.g
 | ⟨k,r,l⟩,v,c=>by
  rw [bn]
  split
  ·split<;>exact tG _ _
  ·exact tH l v k c c [] 0 _
theorem tH: ∀(l:List aa) (v:ar) (k c a:Int) (m:List av) (i n:Int),(du v k l c a m i n).2.g=v.g
 | [],v,k,c,a,m,i,n=>by rw [du]
 | f::l,v,k,c,a,m,i,n=>by
  rw [du]
  split
  ·split
   ·rw [tH l,qr f,yd]
   ·rw [tH l,qr f]
  ·rw [tH l,qr f]
end
mutual
theorem tI: ∀(f:aa) (v:ar) (c:Int),shp f (bn v f c).1
 | ⟨k,r,l⟩,v,c=>by
  rw [bn,shp]
  by_cases hk:k=1
  ·rw [if_pos hk,if_pos hk]
   split
   ·exact Ma _ _ _ _
   ·exact Nat.zero_le _
  ·rw [if_neg hk,if_neg hk]
   obtain ⟨ts,e,h1,h2⟩:=Dm l v k c c [] 0 (l.length:Int)
   dsimp only
   rw [e,List.nil_append]
   exact ⟨h1,h2⟩
theorem Dm: ∀(l:List aa) (v:ar) (k c a:Int) (m:List av) (i n:Int),∃ts:List av,(du v k l c a m i n).1=m++ts∧ts.length=l.length∧fT l ts
 | [],v,k,c,a,m,i,n=>by
  rw [du]
  exact ⟨[],(List.append_nil _).symm,rfl,by rw [fT];trivial⟩
 | f::l,v,k,c,a,m,i,n=>by
  have key: ∀(t:av) (v':ar) (a':Int),shp f t→ ∃ts:List av,(du v' k l c a' (m++[t]) (i+1) n).1=m++ts∧ts.length=(f::l).length∧fT (f::l) ts:=fun t v' a' ht=>by
   obtain ⟨ts,e,h1,h2⟩:=Dm l v' k c a' (m++[t]) (i+1) n
   refine ⟨t::ts,by rw [e,List.append_assoc];rfl,by rw [List.length_cons,List.length_cons,h1],?_⟩
   rw [fT]
   exact ⟨ht,h2⟩
  rw [du]
  split
  ·split
   ·exact key _ _ _ (tI f _ _)
   ·exact key _ _ _ (tI f _ _)
  ·exact key _ _ _ (tI f _ _)
end
mutual
def okW (n:Nat):aG→aa→Prop
 | ⟨f,t,k,l,_,d⟩,F=>f=F∧k.length≤n∧(if d=true then shp F t else if F.Kind=1 then t.P.A.length≤8 else fq n l F.L)
def fq (n:Nat):List aG→List aa→Prop
 | [],m=>m=[]
 | w::l,m=> ∃F M,m=F::M∧okW n w F∧fq n l M
end
theorem Dn {n:Nat}: ∀{l:List aG} {m:List aa},fq n l m→l.length=m.length
 | [],m,e=>by rw [fq] at e;rw [e];rfl
 | w::l,m,e=>by
  rw [fq] at e
  obtain ⟨F,M,rfl,_,e⟩:=e
  rw [List.length_cons,List.length_cons,Dn e]
theorem ye {n:Nat} {w:aG} {F:aa} (h:okW n w F):w.f=F∧w.k.length≤n:=by
 obtain ⟨f,t,k,l,c,d⟩:=w
 rw [okW] at h
 exact ⟨h.1,h.2.1⟩
theorem Do {n:Nat}: ∀{l:List aG} {m:List aa},fq n l m→ ∀w∈l,okW n w w.f∧w.f∈m
 | w::l,m,e,y,hy=>by
  rw [fq] at e
  obtain ⟨F,M,rfl,h1,e⟩:=e
  rcases List.mem_cons.1 hy with rfl|hy
  ·have:=(ye h1).1
   exact ⟨by rw [this];exact h1,by rw [this];exact List.mem_cons_self⟩
  ·have:=Do e y hy
   exact ⟨this.1,List.mem_cons_of_mem _ this.2⟩
theorem Me {n:Nat} {w:aG} (h:okW n w w.f):w.k.length≤n:=(ye h).2
theorem Dp {n:Nat} {w:aG} (h:okW n w w.f) (hd:w.done=true):shp w.f w.t:=by
 obtain ⟨f,t,k,l,c,d⟩:=w
 rw [okW] at h
 dsimp only at hd
 rw [if_pos hd] at h
 exact h.2.2
theorem qt {n:Nat} {w y:aG} (h:okW n w w.f) (hd:w.done=false) (hk: ¬w.f.Kind=1) (hy:y∈w.parts):okW n y y.f∧y.f∈w.f.L:=by
 obtain ⟨f,t,k,l,c,d⟩:=w
 rw [okW] at h
 dsimp only at hd hk hy
 rw [if_neg (by rw [hd];decide),if_neg hk] at h
 exact Do h.2.2 y hy
theorem Mf {n:Nat} {w:aG} (h:okW n w w.f) (hd:w.done=false) (hk: ¬w.f.Kind=1):w.parts.length=w.f.L.length:=by
 obtain ⟨f,t,k,l,c,d⟩:=w
 rw [okW] at h
 dsimp only at hd hk
 rw [if_neg (by rw [hd];decide),if_neg hk] at h
 exact Dn h.2.2
theorem Dq: ∀{l:List aG} {y:aG},y∈l→fD y≤tc l
 | w::l,y,hy=>by
  rw [tc]
  rcases List.mem_cons.1 hy with rfl|hy
  ·omega
  ·have:=Dq hy;omega
theorem Mg {w y:aG} (hy:y∈w.parts):fD y<fD w:=by
 obtain ⟨f,t,k,l,c,d⟩:=w
 rw [fD]
 have:=Dq hy
 dsimp only at*
 omega
mutual
theorem Ds {n:Nat}: ∀{w:aG} {F:aa},okW n w F→(dj w).length≤ay F∧ ∀x∈dj w,x.length≤8
 | ⟨f,t,k,l,c,d⟩,F,h=>by
  rw [okW] at h
  obtain ⟨rfl,_,h⟩:=h
  rw [dj]
  by_cases hd:d=true
  ·rw [if_pos hd] at h⊢
   exact tz h
  ·rw [if_neg hd] at h⊢
   obtain ⟨kk,r,L⟩:=f
   by_cases hk:kk=1
   ·rw [if_pos hk] at h⊢
    refine ⟨by rw [ay,List.length_singleton];omega,fun x hx=> ?_⟩
    rw [List.mem_singleton] at hx
    rw [hx];exact h
   ·rw [if_neg hk] at h⊢
    have:=Dt h
    refine ⟨by rw [ay];have:=this.1;dsimp only at this;omega,this.2⟩
theorem Dt {n:Nat}: ∀{l:List aG} {M:List aa},fq n l M→(fE l).length≤cP M∧ ∀x∈fE l,x.length≤8
 | [],M,h=>by
  rw [fE]
  exact ⟨Nat.zero_le _,fun x hx=>(by cases hx)⟩
 | w::l,M,h=>by
  rw [fq] at h
  obtain ⟨F,N,rfl,h1,h2⟩:=h
  have a1:=Ds h1
  have a2:=Dt h2
  rw [fE,cP,List.length_append]
  refine ⟨by omega,fun x hx=> ?_⟩
  rcases List.mem_append.1 hx with hx|hx
  ·exact a1.2 x hx
  ·exact a2.2 x hx
end
mutual
theorem tJ {x:List Int}: ∀{f:aa} {v:ar},okU x.length f→okW x.length (aL v f x).1 f∧(aL v f x).2.g=v.g
 | ⟨k,r,l⟩,v,hu=>by
  have hu0:=hu
  rw [aL]
  by_cases hk:k=1
  ·have h1:=tr hu hk
   have h2:=Md v (bf ⟨k,r,l⟩)
   rw [if_pos hk]
   split
   ·refine ⟨?_,tG _ _⟩
    rw [okW,if_neg (by decide),if_pos hk]
    exact ⟨rfl,by omega,Mb _ _ _⟩
   ·refine ⟨?_,tG _ _⟩
    rw [okW,if_neg (by decide),if_pos hk]
    exact ⟨rfl,by omega,Nat.zero_le _⟩
  ·rw [if_neg hk]
   have hk2: ∀y∈l,okU x.length y:=fun y hy=>eI (f:=⟨k,r,l⟩) hu hk hy
   split
   ·obtain ⟨ts,e1,e2,e3⟩:=Du (x:=x) (l:=l) (v:=v) (m:=[]) hk2
    refine ⟨?_,e3⟩
    rw [okW,if_neg (by decide),if_neg hk,e1]
    exact ⟨rfl,Nat.zero_le _,e2⟩
   ·obtain ⟨ts,e1,e2,e3⟩:=yf (x:=x) (l:=l) (v:=v) (j:=eg v.g l x 0) (i:=0) (m:=[]) hk2
    refine ⟨?_,e3⟩
    rw [okW,if_neg (by decide),if_neg hk,e1]
    exact ⟨rfl,Nat.zero_le _,e2⟩
theorem Du {x:List Int}: ∀{l:List aa} {v:ar} {m:List aG},(∀y∈l,okU x.length y)→ ∃ts,(eG v l x m).1=m++ts∧fq x.length ts l∧(eG v l x m).2.g=v.g
 | [],v,m,h=>by
  rw [eG]
  exact ⟨[],(List.append_nil _).symm,by rw [fq],rfl⟩
 | f::l,v,m,h=>by
  rw [eG]
  have h1:=tJ (x:=x) (f:=f) (v:=v) (h f List.mem_cons_self)
  obtain ⟨ts,e1,e2,e3⟩:=Du (x:=x) (l:=l) (v:=(aL v f x).2) (m:=m++[(aL v f x).1]) (fun y hy=>h y (List.mem_cons_of_mem _ hy))
  refine ⟨(aL v f x).1::ts,by rw [e1,List.append_assoc];rfl,?_,by rw [e3,h1.2]⟩
  rw [fq]
  exact ⟨f,l,rfl,h1.1,e2⟩
theorem yf {x:List Int}: ∀{l:List aa} {v:ar} {j i:Int} {m:List aG},(∀y∈l,okU x.length y)→ ∃ts,(eh v l x j i m).1=m++ts∧fq x.length ts l∧(eh v l x j i m).2.g=v.g
 | [],v,j,i,m,h=>by
  rw [eh]
  exact ⟨[],(List.append_nil _).symm,by rw [fq],rfl⟩
 | f::l,v,j,i,m,h=>by
  rw [eh]
  split
  ·have h1:=tJ (x:=x) (f:=f) (v:=v) (h f List.mem_cons_self)
   obtain ⟨ts,e1,e2,e3⟩:=yf (x:=x) (l:=l) (v:=(aL v f x).2) (j:=j) (i:=i+1) (m:=m++[(aL v f x).1]) (fun y hy=>h y (List.mem_cons_of_mem _ hy))
   refine ⟨(aL v f x).1::ts,by rw [e1,List.append_assoc];rfl,?_,by rw [e3,h1.2]⟩
   rw [fq]
   exact ⟨f,l,rfl,h1.1,e2⟩
  ·obtain ⟨ts,e1,e2,e3⟩:=yf (x:=x) (l:=l) (v:=(bn (br v).2 f (br v).1).2) (j:=j) (i:=i+1) (m:=m++[⟨f,(bn (br v).2 f (br v).1).1,[],[],0,true⟩]) (fun y hy=>h y (List.mem_cons_of_mem _ hy))
   refine ⟨⟨f,(bn (br v).2 f (br v).1).1,[],[],0,true⟩::ts,by rw [e1,List.append_assoc];rfl,?_,by rw [e3,qr,yd]⟩
   rw [fq]
   refine ⟨f,l,rfl,?_,e2⟩
   rw [okW,if_pos rfl]
   exact ⟨rfl,Nat.zero_le _,tI _ _ _⟩
end
mutual
theorem Dv {x:List Int}: ∀(w:aG) (v:ar) (c:Int),(bH v w c x).2.g=v.g
 | ⟨f,t,k,l,h,d⟩,v,c=>by
  rw [bH]
  split
  ·rfl
  ·split
   ·split<;>rfl
   ·split<;>exact Dw l v _ []
theorem Dw {x:List Int}: ∀(l:List aG) (v:ar) (c:Int) (m:List av),(c8 v l c x m).2.g=v.g
 | [],v,c,m=>by rw [c8]
 | w::l,v,c,m=>by rw [c8,Dw l,Dv w]
end
theorem dP {f:aa} {N:Nat} {i:Int} (h:ay f<N+1) (hi:i.toNat<f.L.length):ay (gt f.L i)<N:=by have:=cU (f:=f) (aK hi);omega
theorem ku {w:aG} {N:Nat} {i:Int} (h:fD w<N+1) (hi:i.toNat<w.parts.length):fD (gt w.parts i)<N:=by have:=Mg (w:=w) (aK hi);omega
theorem Dx {v:ar} {x:Int×ar} (hx:x=br v):x.2.g.Q=v.g.Q:=by rw [hx,yd]
theorem Dy {v:ar} {n:Int} {x:List Int×ar} (hx:x=bV v n):x.2.g.Q=v.g.Q:=by rw [hx,tG]
theorem yg {v:ar} {f:aa} {c:Int} {x:av×ar} (hx:x=bn v f c):x.2.g.Q=v.g.Q:=by rw [hx,qr]
theorem Dz {v:ar} {w:aG} {c:Int} {y:List Int} {x:av×ar} (hx:x=bH v w c y):x.2.g.Q=v.g.Q:=by rw [hx,Dv]
theorem Mh {l:List aa} {v:ar} {y:List Int} {x:Int×ar} (hx:x=lw l v y):x.2.g.Q=v.g.Q:=by rw [hx,Dl]
theorem tK {v:ar} {f:aa} {y:List Int} {x:aG×ar} (hx:x=aL v f y) (hu:okU y.length f):x.2.g.Q=v.g.Q:=by rw [hx,(tJ hu).2]
theorem kv {v:ar} {f:aa} {y:List Int} {x:aG×ar} (hx:x=aL v f y) (hu:okU y.length f):okW y.length x.1 x.1.f∧x.1.f=f:=by
 have h:=(tJ (x:=y) (v:=v) hu).1
 rw [←hx] at h
 have:=(ye h).1
 exact ⟨by rw [this];exact h,this⟩
theorem qu {w:aG} {x:List (List Int)} (hx:x=dj w) (h: ∃n,okW n w w.f) (h3:ay w.f≤30):x.length≤30∧ ∀y∈x,y.length≤8:=by
 obtain ⟨n,h⟩:=h
 have:=Ds h
 rw [←hx] at this
 exact ⟨by omega,this.2⟩
theorem ox {w:aG} (h: ∃n,okW n w w.f) (h3:ay w.f≤30) (hd:w.done=false) (hk: ¬w.f.Kind=1) {i:Int} (hi:i.toNat<w.parts.length):(∃n,okW n (gt w.parts i) (gt w.parts i).f)∧ay (gt w.parts i).f≤30:=by
 obtain ⟨n,h⟩:=h
 have:=qt h hd hk (aK hi)
 have h2:=cU this.2
 exact ⟨⟨n,this.1⟩,by omega⟩
theorem Mi {w:aG} (h: ∃n,okW n w w.f) (h3:ay w.f≤30) (hd:w.done=false) (hk: ¬w.f.Kind=1):w.parts.length≤30:=by
 obtain ⟨n,h⟩:=h
 have:=Mf h hd hk
 have h2:=tA h3
 omega
theorem Mj {g:ak} {f:aa} {x:Bool} (hx:x=bD g f):x=true→ay f≤30:=by
 subst hx
 unfold bD
 rw [aq]
 split
 ·intro h
  have:=tt (fun f=>dh f g) f 1 30 (by decide) (by decide) h
  omega
 ·intro h;cases h
mutual
theorem DA {EQ:aF→Bool} (hE: ∀r,EQ r=true→1≤r.Bases.length): ∀{f:aa},co EQ f=true→okF f
 | ⟨k,r,l⟩,h=>by
  rw [co] at h
  rw [okF]
  by_cases hk:k=1
  ·rw [if_pos hk] at h⊢
   split at h
   ·exact hE r h
   ·cases h
  ·rw [if_neg hk] at h⊢
   split at h
   ·exact DB hE h
   ·cases h
theorem DB {EQ:aF→Bool} (hE: ∀r,EQ r=true→1≤r.Bases.length): ∀{l:List aa},cj EQ l=true→iG l
 | [],_=>by rw [iG];trivial
 | f::l,h=>by
  rw [cj] at h
  rw [iG]
  split at h
  ·cases h
  ·rename_i k1
   exact ⟨DA hE (by simpa using k1),DB hE h⟩
end
theorem DC {g:ak} {f:aa} (h:dI g f=true):okF f:=by
 unfold dI at h
 rw [aq] at h
 split at h
 ·rw [aq] at h
  split at h
  ·rename_i h2
   unfold gk at h2
   rw [aq] at h2
   split at h2
   ·rw [aq] at h2
    split at h2
    ·rw [aq] at h2
     exact DA (fun r hr=>by have:=xX hr;unfold okA at this;omega) h2
    ·cases h2
   ·cases h2
  ·cases h
 ·cases h
theorem Mk {g:ak} {f:aa} {x:Bool} (hx:x=bD g f):x=true→okF f:=fun h=>xP (hx▸h)
theorem yh {g:ak} {f:aa} {x:Bool} (hx:x=dI g f):x=true→okF f:=fun h=>DC (hx▸h)
theorem tL {f:aa} {n:Nat} {x:Int} (hx:x=dG f.Relation) (hu:okU n f) (hk:f.Kind=1):0≤x∧x≤(n:Int):=by
 have h9:=tr hu hk
 have h8:=Cz hk
 unfold dG at hx
 omega
theorem bY {g:ak} {f:aa} {x:Bool} (hx:x=bD g f) (h:x=true):okF f∧ay f≤30∧1≤g.Q:=⟨Mk hx h,Mj hx h,tE hx h⟩
theorem oy {v:ar} {f:aa} {y:List Int} {x:aG×ar} (hx:x=aL v f y) (hu:okU y.length f) (h:ay f≤30):ay x.1.f≤30:=by rw [(kv hx hu).2];exact h
end Go.Proofs.YtgealhhkngbkbaaGreatDoor
