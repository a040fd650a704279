/- Texts of this proof, one after the other: N1, L3, L4, L5, L6, L7, N2, N3, N4, N5, N6. -/
import Derived.Test.YtgealhhkngbkbaaGreatDoorZ12
import Derived.Test.YtgealhhkngbkbaaGreatDoorZ9
set_option linter.unusedSimpArgs false
set_option linter.unusedVariables false
namespace Go.Proofs.YtgealhhkngbkbaaGreatDoor
open Go.RowKit
theorem Ol {P:Int} (hP:1<P) {q:Nat} {b:Int} (h:El0 P q b) (m:Nat):b^m% P=b^(m% q)% P:=by
 unfold El0 at h
 have e:b^m=b^(m% q)*(b^q)^(m/q):=by rw [←qx,←oB,Nat.mod_add_div]
 rw [e,Int.mul_emod,←oA (b^q) P (m/q),h,qy,Int.emod_eq_of_lt (by decide) hP,Int.mul_one,Int.emod_emod_of_dvd _ (Int.dvd_refl P)]
theorem Om {P Q:Int} (hP:1<P) (hQ:0<Q) {c:Int} (hc:0≤c) {b k x:Int} (hb:El0 P Q.toNat b) (hk:0≤k) (hx:0≤x):b^((k+c*x% Q)% Q).toNat% P=b^k.toNat*(b^x.toNat)^c.toNat% P:=by
 have e:((k+c*x% Q)% Q).toNat=(k.toNat+x.toNat*c.toNat)% Q.toNat:=by
  obtain ⟨k,rfl⟩:=Int.eq_ofNat_of_zero_le hk
  obtain ⟨x,rfl⟩:=Int.eq_ofNat_of_zero_le hx
  obtain ⟨c,rfl⟩:=Int.eq_ofNat_of_zero_le hc
  obtain ⟨Q,rfl⟩:=Int.eq_ofNat_of_zero_le (Int.le_of_lt hQ)
  rw [Int.add_emod,Int.emod_emod_of_dvd _ (Int.dvd_refl _),←Int.add_emod,←Int.natCast_mul,←Int.natCast_add,←Int.natCast_emod,Nat.mul_comm c x]
  rfl
 rw [e,←Ol hP hb,oB,qx]
theorem D7 {P Q:Int} (hP:1<P) (hQ:0<Q) {c:Int} (hc:0≤c) {z k x:List Int}: ∀(row:List Int) (i a0 a1 a2:Int),(∀b∈row,El0 P Q.toNat b)→(∀j:Int,i≤j→j<i+(row.length:Int)→0≤gt k j∧0≤gt x j∧gt z j=(gt k j+c*gt x j% Q)% Q)→a0% P=a1*a2^c.toNat% P→
  eX (fun b i a=>a*(b^(gt z i).toNat% P)% P) row i a0% P=eX (fun b i a=>a*(b^(gt k i).toNat% P)% P) row i a1*eX (fun b i a=>a*(b^(gt x i).toNat% P)% P) row i a2^c.toNat% P
 | [],i,a0,a1,a2,_,_,h=>h
 | b::row,i,a0,a1,a2,hb,hz,h=>by
  rw [eX,eX,eX]
  refine D7 hP hQ hc row (i+1) _ _ _ (fun b hb2=>hb b (List.mem_cons_of_mem _ hb2)) (fun j h1 h2=>hz j (by omega) (by rw [List.length_cons];omega)) ?_
  obtain ⟨h1,h2,h3⟩:=hz i (by omega) (by rw [List.length_cons];omega)
  have hs:=Om hP hQ hc (hb b List.mem_cons_self) h1 h2
  rw [←h3] at hs
  have e1:(a2*(b^(gt x i).toNat% P)% P)^c.toNat% P=(a2*b^(gt x i).toNat)^c.toNat% P:=by rw [kw,oA]
  rw [Int.emod_emod_of_dvd _ (Int.dvd_refl P),kw,Int.mul_emod,h,hs,tQ,Int.mul_emod (a1*(b^(gt k i).toNat% P)% P),e1,Int.emod_emod_of_dvd _ (Int.dvd_refl P),kw a1,tQ,tS]
  congr 1
  ac_rfl
theorem On {P Q:Int} (hP:1<P) (hQ:0<Q) {c:Int} (hc:0≤c) {z k x row:List Int} (hb: ∀b∈row,El0 P Q.toNat b) (hz: ∀j:Int,0≤j→j<(row.length:Int)→0≤gt k j∧0≤gt x j∧gt z j=(gt k j+c*gt x j% Q)% Q):ct P z row=ct P k row*(ct P x row^c.toNat% P)% P:=by
 have h:=D7 hP hQ hc (z:=z) (k:=k) (x:=x) row 0 1 1 1 hb (fun j h1 h2=>hz j h1 (by omega)) (by rw [qy,Int.mul_one])
 have h2:=(qB (q:=Q.toNat) hP (z:=z) hb).2
 rw [kw,←Int.emod_eq_of_lt h2.1 h2.2]
 exact h
theorem Oo (l:List Int):jp l l=true:=by
 rw [D6 (n:=l.length) (V:=fun j=>gt l j) rfl rfl (fun j _ _=>rfl) (Y:=l) rfl]
 have: ∀(m:List Int) (i:Int),chk (fun i=>gt l i==gt l i) m i=true:=by
  intro m
  induction m with
  | nil=>intro i;rfl
  | cons a m ih=>intro i;rw [chk,if_pos (beq_self_eq_true _)];exact ih _
 exact this l 0
theorem mW {g:ak} {l:List Int} (h: ∀x∈l,0≤x∧x<g.Q):fo g l=true:=by
 unfold fo
 rw [mV (l:=l) (fun x=>decide (0≤x∧x<g.Q)) true false (fun ag p=> ?_)]
 ·have:l.all (fun x=>decide (0≤x∧x<g.Q))=true:=List.all_eq_true.2 (fun x hx=>by simpa using h x hx)
  rw [this,if_neg (by decide)]
 ·congr 1
  simp only [decide_eq_true_eq,decide_eq_false_iff_not]
  by_cases c1:gt l p<0
  ·rw [if_pos c1,if_pos (by omega)]
  ·rw [if_neg c1]
   by_cases c2:gt l p≥g.Q
   ·rw [if_pos c2,if_pos (by omega)]
   ·rw [if_neg c2,if_neg (by omega)]
def ElR (g:ak) (x:Int):Prop:=El0 g.P g.Q.toNat x∧0≤x∧x<g.P
def qC (g:ak) (r:aF):Prop:=okG g∧1≤r.Y.length∧r.Y.length≤8∧r.Bases.length=r.Y.length∧(∀y∈r.Y,ElR g y)∧(∀row∈r.Bases,(row.length:Int)=cv r∧ ∀b∈row,ElR g b)∧1≤cv r∧cv r≤12
theorem qD {g:ak} {r:aF} (hv:bU g r=true):qC g r:=by
 rw [tV] at hv
 have hb:=tD (xY hv)
 rw [tC] at hv
 split at hv
 ·cases hv
 rename_i hc
 have hG:eF g=true:=by
  cases e:eF g with
  | true=>rfl
  | false=>exact absurd (.inl e) hc
 have hg:=yt hG
 have h9:=(ow _ _ _ _ hb.2.2.2.2.2.2).1 hv
 have hel: ∀x:Int,dH g x=true→ElR g x:=fun x hx=>by
  have:=(Oe hg x).1 hx
  exact ⟨this.2.2,by have:=this.1;omega,this.2.1⟩
 have hu:cv r=((gt r.Bases 0).length:Int):=rfl
 refine ⟨hg,hb.2.2.2.2.1,hb.2.2.2.2.2.1,hb.2.2.2.2.2.2,fun y hy=>hel y (h9.1 y hy),fun row hr=>⟨by rw [hu];exact (h9.2 row hr).1,fun b hb2=>hel b ((h9.2 row hr).2 b hb2)⟩,?_,?_⟩
 ·rw [hu]
  have: ¬(gt r.Bases 0).length<1:=fun h=>hc (.inr (.inr (.inr (.inr (.inl h)))))
  omega
 ·rw [hu]
  have: ¬12<(gt r.Bases 0).length:=fun h=>hc (.inr (.inr (.inr (.inr (.inr h)))))
  omega
theorem D8 {g:ak} {r:aF} (h:qC g r) {c:Int} {z:List Int} (hc:0≤c∧c<g.Q) (hz: ∀x∈z,0≤x∧x<g.Q):
  (fB g r c z).length=r.Y.length∧ ∀j:Int,0≤j→j.toNat<r.Y.length→gt (fB g r c z) j=ct g.P z (gt r.Bases j)*(gt r.Y j^((g.Q - c)% g.Q).toNat% g.P)% g.P:=
 Ok h.1 hc (fun y hy=>(h.2.2.2.2.1 y hy).2) h.2.2.2.1 (fun row hr b hb=>(h.2.2.2.2.2.1 row hr).2 b hb) hz
theorem yx {g:ak} {r:aF} (h:qC g r) {k:List Int} (hk: ∀x∈k,0≤x∧x<g.Q):dF g r.Bases k=r.Bases.map (ct g.P k):=
 D4 h.1 (fun row hr b hb=>((h.2.2.2.2.2.1 row hr).2 b hb).2) hk
theorem D9 {g:ak} {r:aF} (hv:bU g r=true) {c:Int} {A z:List Int} (hn:(z.length:Int)=cv r) (hc:0≤c∧c<g.Q) (hz: ∀x∈z,0≤x∧x<g.Q) (hA:fB g r c z=A):gY g r ⟨A,c,z⟩=true:=by
 have h:=qD hv
 have hs:=(D8 h hc hz).1
 unfold gY
 simp only [aq]
 rw [hv,if_neg (by decide),if_neg (by rw [←hA,hs];simp),if_neg (by rw [hn];simp),lG,lG,mW hz,mW (l:=[c]) (fun x hx=>by rw [List.mem_singleton] at hx;rw [hx];exact hc),hA]
 exact Oo A
theorem Oq {g:ak} {r:aF} (h:qC g r) {c:Int} {z k x:List Int} (hc:0≤c∧c<g.Q) (hk: ∀a∈k,0≤a∧a<g.Q) (hx: ∀a∈x,0≤a∧a<g.Q) (hkn:(k.length:Int)=cv r) (hxn:x.length=k.length) (hz: ∀a∈z,0≤a∧a<g.Q)
  (hzk: ∀j:Int,0≤j→j<(k.length:Int)→gt z j=(gt k j+c*gt x j% g.Q)% g.Q) (hY:dF g r.Bases x=r.Y):fB g r c z=dF g r.Bases k:=by
 have hs:=D8 h hc hz
 rw [yx h hx] at hY
 rw [yx h hk]
 refine BA (by rw [hs.1,List.length_map,h.2.2.2.1]) (fun j h0 hj=> ?_)
 have hj':j.toNat<r.Y.length:=by rw [←hs.1];omega
 have hjb:j.toNat<r.Bases.length:=by rw [h.2.2.2.1];exact hj'
 have hG:=h.1
 obtain ⟨g1,g2,g3,g4,g5,g6⟩:=hG
 have hrow:=h.2.2.2.2.2.1 _ (aK (l:=r.Bases) (i:=j) hjb)
 have hm: ∀w:List Int,gt (r.Bases.map (ct g.P w)) j=ct g.P w (gt r.Bases j):=fun w=>by simp [gt,List.getD_eq_getElem?_getD,hjb]
 have hyj:gt r.Y j=ct g.P x (gt r.Bases j):=by rw [←hY,hm x]
 rw [hs.2 j h0 hj',hm k]
 have hel:=qB (P:=g.P) (q:=g.Q.toNat) (by omega) (z:=k) (row:=gt r.Bases j) (fun b hb=>(hrow.2 b hb).1)
 have hez:=qB (P:=g.P) (q:=g.Q.toNat) (by omega) (z:=z) (row:=gt r.Bases j) (fun b hb=>(hrow.2 b hb).1)
 have hey:=qB (P:=g.P) (q:=g.Q.toNat) (by omega) (z:=x) (row:=gt r.Bases j) (fun b hb=>(hrow.2 b hb).1)
 have hgn: ∀(l:List Int),(∀a∈l,0≤a∧a<g.Q)→ ∀i:Int,0≤gt l i:=fun l hl i=>by
  by_cases hi:i.toNat<l.length
  ·exact (hl _ (aK hi)).1
  ·have:gt l i=0:=by simp [gt,List.getD_eq_getElem?_getD,List.getElem?_eq_none (Nat.not_lt.1 hi)]
   omega
 have hp:=On (P:=g.P) (Q:=g.Q) (by omega) (by omega) hc.1 (z:=z) (k:=k) (x:=x) (row:=gt r.Bases j) (fun b hb=>(hrow.2 b hb).1) (fun i h1 h2=>⟨hgn k hk i,hgn x hx i,hzk i h1 (by have:=hrow.1;omega)⟩)
 refine ((NZ (P:=g.P) (Q:=g.Q) (c:=c) (by omega) hc (A:=ct g.P k (gt r.Bases j)) (by rw [hyj];exact hey.1) hez.1 hez.2.1 hez.2.2).2 ⟨⟨?_,hel.2.2,hel.1⟩,by rw [hyj];exact hp⟩).symm
 have:=DV (q:=g.Q.toNat) (by omega) hel.1
 omega
end Go.Proofs.YtgealhhkngbkbaaGreatDoor
namespace Go.Proofs.YtgealhhkngbkbaaGreatDoor
open Go.RowKit
theorem tW (b:Bool) (r:aF) (l:List aa):(if b=true then (if (decide ((l.length:Int)≥1))=true then (if (decide ((l.length:Int)≤8))=true then (if ((r.Y.length:Int)==0)=true then ((r.Bases.length:Int)==0) else false) else false) else false) else false)=(if b=true∧r.Y.length=0∧r.Bases.length=0∧1≤l.length∧l.length≤8 then true else false):=by
 rw [Bool.eq_iff_iff]
 constructor
 ·intro h
  split at h
  ·split at h
   ·split at h
    ·split at h
     ·rename_i h1 h2 h3 h4
      simp only [decide_eq_true_eq,beq_iff_eq] at h h2 h3 h4
      rw [if_pos ⟨h1,by omega,by omega,by omega,by omega⟩]
     ·cases h
    ·cases h
   ·cases h
  ·cases h
 ·intro h
  split at h
  ·rename_i h1
   rw [if_pos h1.1,if_pos (by simp;omega),if_pos (by simp;omega),if_pos (by simp [h1.2.1])]
   simp [h1.2.2.1]
  ·cases h
theorem Ot (g:ak) (f:aa):dh f g=ND (bU g) f:=by
 obtain ⟨k,r,l⟩:=f
 unfold dh
 rw [ND]
 by_cases k1:k=1
 ·rw [if_pos (by simpa using k1),if_pos k1]
  by_cases k2:l.length=0
  ·rw [if_pos (by simpa using k2),if_pos k2];rfl
  ·rw [if_neg (by simpa using k2),if_neg k2]
 ·rw [if_neg (by simpa using k1),if_neg k1]
  show (if (k==2)=true then _ else _)=_
  by_cases k2:k=2
  ·rw [if_pos (by simpa using k2)]
   refine (tW true r l).trans ?_
   simp only [k2,true_or,true_and]
  ·rw [if_neg (by simpa using k2)]
   refine (tW (k==3) r l).trans ?_
   by_cases k3:k=3
   ·simp only [k3,or_true,true_and,beq_self_eq_true]
   ·have:(k==3)=false:=by simpa using k3
    rw [this,if_neg (fun h=>by cases h.1),if_neg (fun h=>h.1.elim k2 k3)]
theorem Ou (f:aa):c7 f=ND jm f:=by
 obtain ⟨k,r,l⟩:=f
 unfold c7
 rw [ND]
 by_cases k1:k=1
 ·rw [if_pos (by simpa using k1),if_pos k1]
  by_cases k2:l.length=0
  ·rw [if_pos (by simpa using k2),if_pos k2];rfl
  ·rw [if_neg (by simpa using k2),if_neg k2]
 ·rw [if_neg (by simpa using k1),if_neg k1]
  show (if (k==2)=true then _ else _)=_
  by_cases k2:k=2
  ·rw [if_pos (by simpa using k2)]
   refine (tW true r l).trans ?_
   simp only [k2,true_or,true_and]
  ·rw [if_neg (by simpa using k2)]
   refine (tW (k==3) r l).trans ?_
   by_cases k3:k=3
   ·simp only [k3,or_true,true_and,beq_self_eq_true]
   ·have:(k==3)=false:=by simpa using k3
    rw [this,if_neg (fun h=>by cases h.1),if_neg (fun h=>h.1.elim k2 k3)]
theorem D_ {g:ak} {r:aF} (h:eR g r=true):gi r=true:=by
 have hr:=xY h
 have hb:=tD hr
 rw [tC] at h
 split at h
 ·cases h
 ·rename_i hc
  rw [De,if_neg (fun e=>hc (.inr (by rcases e with e|e|e|e|e<;>simp [e])))]
  rw [ow _ _ _ _ hb.2.2.2.2.2.2] at h⊢
  exact ⟨fun y hy=>tB.2 (by have:=hr.2.2.2.2.1 y hy;unfold okX;omega),fun row hrow=>⟨(h.2 row hrow).1,fun x hx=>tB.2 (by have:=(hr.2.2.2.2.2 row hrow).2 x hx;unfold okX;omega)⟩⟩
theorem tX (f:aa):gk f=true↔(ay f≤30∧dpt f≤6∧gj f=true):=by
 unfold gk
 simp only [aq,tw,xR]
 by_cases c1:ay f≤30
 ·rw [if_pos (by simp;omega)]
  by_cases c2:dpt f≤6
  ·rw [if_pos (by simp;omega)]
   exact ⟨fun h=>⟨c1,c2,h⟩,fun h=>h.2.2⟩
  ·rw [if_neg (by simp;omega)]
   exact ⟨fun h=>(by cases h),fun h=>absurd h.2.1 c2⟩
 ·rw [if_neg (by simp;omega)]
  exact ⟨fun h=>(by cases h),fun h=>absurd h.1 c1⟩
theorem yy (g:ak) (f:aa):bD g f=dI g f:=by
 unfold bD dI
 rw [aq,aq,D1]
 cases hG:eF g with
 | false=>rfl
 | true=>
  show _=(ab (gk f) (fun (x5:Bool)=>(if x5 then (ab (jq g f) (fun (x9:Bool)=>x9)) else false)))
  show (cb (fun f=>dh f g) f 1 30).1=_
  have e1:(fun f=>dh f g)=ND (eR g):=by
   funext f
   rw [Ot,show bU g=eR g from funext (tV g)]
  rw [e1,Bool.eq_iff_iff]
  have hw:=(tx (ND (eR g)) f 1 30 (by decide) (by decide) (by decide) (by decide)).1
  have hs:ov (ND (eR g)) f=(gj f&&jq g f):=by
   rw [xS]
   exact xT (EQ:=gi) (fun r hr=>D_ hr) f
  rw [hw,hs,Bool.and_eq_true]
  simp only [aq]
  constructor
  ·rintro ⟨h1,h2,h3,h4⟩
   rw [if_pos ((tX f).2 ⟨by omega,by omega,h3⟩)];exact h4
  ·intro h
   split at h
   ·rename_i hf
    have:=(tX f).1 hf
    exact ⟨by omega,by omega,this.2.2,h⟩
   ·cases h
end Go.Proofs.YtgealhhkngbkbaaGreatDoor
namespace Go.Proofs.YtgealhhkngbkbaaGreatDoor
open Go.RowKit
end Go.Proofs.YtgealhhkngbkbaaGreatDoor
namespace Go.Proofs.YtgealhhkngbkbaaGreatDoor
open Go.RowKit
theorem Ov (s:List UInt8):g7 s=if s.length<1∨24<s.length then false else (cX s).all (fun c=>decide (33≤c∧c≤126)):=by
 unfold g7
 by_cases c1:s.length<1
 ·rw [if_pos (by simp;omega),if_pos (.inl c1)]
 rw [if_neg (by simp;omega)]
 by_cases c2:24<s.length
 ·rw [if_pos (by simp;omega),if_pos (.inr c2)]
 rw [if_neg (by simp;omega),if_neg (fun h=>h.elim c1 c2)]
 have e:(s.length:Int)=((cX s).length:Int):=by rw [je]
 rw [e,mV (l:=cX s) (fun c=>decide (33≤c∧c≤126)) true false (fun ag p=> ?_)]
 ·cases (cX s).all (fun c=>decide (33≤c∧c≤126))<;>rfl
 ·congr 1
  have e2:((s.getD p.toNat 0).toNat:Int)=gt (cX s) p:=by
   unfold cX gt
   simp only [List.getD_eq_getElem?_getD,List.getElem?_map]
   cases s[p.toNat]? <;>rfl
  rw [e2]
  simp only [decide_eq_true_eq,decide_eq_false_iff_not]
  by_cases h1:gt (cX s) p<33
  ·rw [if_pos h1,if_pos (by omega)]
  ·rw [if_neg h1]
   by_cases h2:gt (cX s) p>126
   ·rw [if_pos h2,if_pos (by omega)]
   ·rw [if_neg h2,if_neg (by omega)]
theorem Ow (s:List UInt8):kp s=g7 s:=by
 rw [Ov]
 unfold kp
 by_cases c1:s.length<1
 ·rw [if_neg (by simp;omega),if_pos (.inl c1)]
 rw [if_pos (by simp;omega)]
 by_cases c2:24<s.length
 ·rw [if_neg (by simp;omega),if_pos (.inr c2)]
 rw [if_pos (by simp;omega),if_neg (fun h=>h.elim c1 c2),aq]
 have e:s9 (cX s)=(cX s).any ob:=g8 ob (fun ag p=>rfl)
 rw [e]
 generalize cX s=l
 clear e
 induction l with
 | nil=>rfl
 | cons a l ih=>
  rw [List.any_cons,List.all_cons,Bool.not_or,ih]
  congr 1
  unfold ob
  by_cases h1:a<33
  ·rw [if_pos (by simpa using h1)];simp;omega
  ·rw [if_neg (by simpa using h1)]
   by_cases h2:a>126
   ·first|(simp [h2];done)|(simp [h2];omega)
   ·first|(simp [h2];done)|(simp [h2];omega)
end Go.Proofs.YtgealhhkngbkbaaGreatDoor
namespace Go.Proofs.YtgealhhkngbkbaaGreatDoor
open Go.RowKit
end Go.Proofs.YtgealhhkngbkbaaGreatDoor
namespace Go.Proofs.YtgealhhkngbkbaaGreatDoor
open Go.RowKit
theorem Ea {l:List Int} (h: ∀x∈l,okX x):kl l=true:=by
 unfold kl
 rw [aq]
 have e:pE l=l.any ix:=g8 ix (fun ag p=>rfl)
 rw [e]
 have:l.any ix=false:=by
  rw [List.any_eq_false]
  intro x hx
  have:=h x hx
  unfold okX at this
  unfold ix
  rw [if_neg (by simp;omega)]
  simp;omega
 rw [this];rfl
theorem Ox {r:aF} (h:okA r):jm r=true:=by
 obtain ⟨h1,h2,h3,h4,n,h5,h6,h7⟩:=h
 have h0:(gt r.Bases 0).length=n:=(h7 _ (aK (l:=r.Bases) (i:=0) (by show (0:Nat)<_;omega))).1
 unfold jm
 simp only [aq]
 rw [if_neg (by simp;omega),if_neg (by simp;omega),if_neg (by simp;omega),Ea h4,if_neg (by decide),if_pos (by simp;omega),if_pos (by simp;omega)]
 have e:pG r.Bases ((gt r.Bases 0).length:Int)=r.Bases.any (fun row=>iy row ((gt r.Bases 0).length:Int)):=g8 (fun row=>iy row ((gt r.Bases 0).length:Int)) (fun ag p=>rfl)
 rw [e]
 have:r.Bases.any (fun row=>iy row ((gt r.Bases 0).length:Int))=false:=by
  rw [List.any_eq_false]
  intro row hr
  have:=h7 row hr
  unfold iy
  rw [if_neg (by simp;omega),aq,Ea this.2]
  decide
 rw [this];rfl
mutual
theorem Eb {E1 E2:aF→Bool} (h: ∀r,E1 r=true→E2 r=true): ∀{f:aa},co E1 f=true→co E2 f=true
 | ⟨k,r,l⟩,hf=>by
  rw [co] at hf⊢
  by_cases k1:k=1
  ·rw [if_pos k1] at hf⊢
   split at hf
   ·rename_i k2
    rw [if_pos k2];exact h r hf
   ·cases hf
  ·rw [if_neg k1] at hf⊢
   split at hf
   ·rename_i k2
    rw [if_pos k2];exact Ec h hf
   ·cases hf
theorem Ec {E1 E2:aF→Bool} (h: ∀r,E1 r=true→E2 r=true): ∀{l:List aa},cj E1 l=true→cj E2 l=true
 | [],_=>rfl
 | f::l,hf=>by
  rw [cj] at hf⊢
  split at hf
  ·cases hf
  ·rename_i k1
   rw [if_neg (by rw [Eb h (by simpa using k1)];decide)]
   exact Ec h hf
end
theorem Oy {f:aa} (h:gk f=true):jn f=true:=by
 have h1:=(tX f).1 h
 rw [CJ]
 have e:c7=ND jm:=funext Ou
 rw [e,(tx (ND jm) f 1 30 (by decide) (by decide) (by decide) (by decide)).1,xS]
 exact ⟨by omega,by omega,Eb (fun r hr=>Ox (xX hr)) h1.2.2⟩
theorem Ed {c:Int→Bool}: ∀{l:List Int} {i:Int},chk c l i=true→ ∀j:Int,i≤j→j<i+l.length→c j=true
 | [],i,_,j,h1,h2=>by simp at h2;omega
 | a::l,i,h,j,h1,h2=>by
  rw [chk] at h
  split at h
  ·rename_i hc
   by_cases e:j=i
   ·rw [e];exact hc
   ·exact Ed h j (by omega) (by simp at h2;omega)
  ·cases h
end Go.Proofs.YtgealhhkngbkbaaGreatDoor
namespace Go.Proofs.YtgealhhkngbkbaaGreatDoor
open Go.RowKit
theorem Oz {s:bM} (h0:0≤s.d.Counter) (h1:s.d.Counter≤1099511627776):s.d.Counter≤(bN s).2.d.Counter∧(bN s).2.d.Counter≤1099511627776∧((bN s).2.full=false→s.full=false∧s.d.Counter<(bN s).2.d.Counter):=by
 unfold bN
 by_cases h:s.d.Counter=1099511627776
 ·rw [if_pos (by simpa using h)]
  exact ⟨Int.le_refl _,h1,fun e=>(by cases e)⟩
 ·rw [if_neg (by simpa using h)]
  simp only [aq]
  have e:ao .i64 s.d.Counter 1=s.d.Counter+1:=dM (by omega) (by omega)
  rw [e]
  exact ⟨by omega,by omega,fun h=>⟨h,by omega⟩⟩
theorem Ee {s:bM} {q:Int} (hq:1≤q) (hq1:q<2305843009213693952) (h0:0≤s.d.Counter) (h1:s.d.Counter≤1099511627776):
  0≤(fk s q).1∧(fk s q).1<q∧s.d.Counter≤(fk s q).2.d.Counter∧(fk s q).2.d.Counter≤1099511627776∧((fk s q).2.full=false→s.full=false∧s.d.Counter<(fk s q).2.d.Counter):=by
 have hcq:al .u64 q=q:=kV (by omega) (by omega)
 unfold fk
 rw [aq,hcq]
 refine eP (P:=fun (p:Int×Int×bM)=>0≤p.1∧0≤p.2.1∧p.2.1≤256∧s.d.Counter≤p.2.2.d.Counter∧p.2.2.d.Counter≤1099511627776∧(p.2.2.full=false→s.full=false)∧(0<p.2.1→s.d.Counter<p.2.2.d.Counter))
  (Q:=fun r:Int×bM=>0≤r.1∧r.1<q∧s.d.Counter≤r.2.d.Counter∧r.2.d.Counter≤1099511627776∧(r.2.full=false→s.full=false∧s.d.Counter<r.2.d.Counter)) (meas:=fun p=>(256 - p.2.1).toNat) ?_ _ _ ⟨Int.le_refl _,Int.le_refl _,(by decide:(0:Int)≤256),Int.le_refl _,h1,fun h=>h,fun h=>absurd h (Int.lt_irrefl 0)⟩ (Nat.lt_succ_self _)
 rintro ag ⟨x,i,t⟩ ⟨g0,g1,g2,g3,g4,g5,g6⟩ hag
 simp only at g0 g1 g2 g3 g4 g5 g6 hag⊢
 by_cases hi:i<256
 ·rw [if_pos (by simpa using hi),aq]
  have hb:=Oz (s:=t) (by omega) g4
  by_cases hf:(bN t).2.full=true
  ·rw [if_pos hf]
   exact ⟨Int.le_refl _,by show (0:Int)<q;omega,by show s.d.Counter≤(bN t).2.d.Counter;omega,hb.2.1,fun e=>(by cases e)⟩
  ·have hf2:(bN t).2.full=false:=by simpa using hf
   rw [if_neg hf,aq]
   have hb2:=hb.2.2 hf2
   have ha:=um .u64 (qa (bN t).1) (ap .u64 (aC .u64 1 (kh (al .u64 (ap .i64 q 1)))) 1)
   generalize bE .u64 (qa (bN t).1) (ap .u64 (aC .u64 1 (kh (al .u64 (ap .i64 q 1)))) 1)=y at ha⊢
   have ha0:0≤y:=ha.1
   by_cases hy:y<q
   ·rw [if_pos (by simpa using hy)]
    have e:al .i64 y=y:=nD (by omega) (by omega)
    rw [e]
    exact ⟨ha0,hy,by show s.d.Counter≤(bN t).2.d.Counter;omega,hb.2.1,fun _=>⟨g5 hb2.1,by show s.d.Counter<(bN t).2.d.Counter;omega⟩⟩
   ·rw [if_neg (by simpa using hy)]
    exact hag _ ⟨ha0,by simp only;omega,by simp only;omega,by simp only;omega,hb.2.1,fun _=>g5 hb2.1,fun _=>by simp only;omega⟩ (by simp only;omega)
 ·rw [if_neg (by simpa using hi)]
  have hr:aO .u64 x q=x% q:=Int.tmod_eq_emod_of_nonneg g0
  have hm:=en (x:=x) (m:=q) (by omega)
  have e:al .i64 (x% q)=x% q:=nD (by omega) (by omega)
  rw [hr,e]
  exact ⟨hm.1,hm.2,g3,g4,fun h=>⟨g5 h,g6 (by omega)⟩⟩
theorem yz {d:bm} {n low high:Int} (h0:0≤d.Counter) (h1:d.Counter≤1099511627776) (h2:low≤n) (h3:n≤high):jr d n low high=0:=by
 have hv:gm d=true:=by
  unfold gm
  rw [if_pos (by simpa using h0)]
  simpa using h1
 unfold jr
 rw [aq,hv,if_neg (by decide),if_neg (by simpa using h2),if_neg (by simpa using h3)]
theorem Ef (s:bM):(bS s).2.1=(if s.full=true then 5 else 0)∧(s.full=false→(bS s).1=s.d):=by
 unfold bS
 cases s.full with
 | true=>exact ⟨rfl,fun e=>(by cases e)⟩
 | false=>exact ⟨rfl,fun _=>rfl⟩
theorem OA {d:bm} {q:Int} (hq:1≤q) (hq1:q<2305843009213693952) (h0:0≤d.Counter) (h1:d.Counter≤1099511627776):
  ((iA d q).2.2=0∨(iA d q).2.2=5)∧((iA d q).2.2=0→0≤(iA d q).2.1∧(iA d q).2.1<q∧d.Counter<(iA d q).1.Counter∧(iA d q).1.Counter≤1099511627776):=by
 have hn:=Ee (s:={d:=d,full:=false}) (q:=q) hq hq1 h0 h1
 unfold iA
 rw [aq,yz h0 h1 hq (by omega),if_neg (by decide),aq,aq]
 have hr:=Ef (fk {d:=d,full:=false} q).2
 dsimp only
 cases hf:(fk {d:=d,full:=false} q).2.full with
 | true=>
  rw [hf,if_pos rfl] at hr
  exact ⟨.inr hr.1,fun e=>by rw [hr.1] at e;exact absurd e (by decide)⟩
 | false=>
  rw [hf,if_neg (by decide)] at hr
  refine ⟨.inl hr.1,fun _=> ?_⟩
  rw [hr.2 rfl]
  exact ⟨hn.1,hn.2.1,(hn.2.2.2.2 hf).2,hn.2.2.2.1⟩
theorem OB {d:bm} {q n:Int} (hq:1≤q) (hq1:q<2305843009213693952) (h0:0≤d.Counter) (h1:d.Counter≤1099511627776) (hn0:0≤n) (hn1:n≤1000):
  ((fA d q n).2.2=0∨(fA d q n).2.2=5)∧((fA d q n).2.2=0→((fA d q n).2.1.length:Int)=n∧(∀x∈(fA d q n).2.1,0≤x∧x<q)∧d.Counter≤(fA d q n).1.Counter∧(fA d q n).1.Counter≤1099511627776∧(1≤n→d.Counter<(fA d q n).1.Counter)):=by
 show (fun r:bm×List Int×Int=>(r.2.2=0∨r.2.2=5)∧(r.2.2=0→(r.2.1.length:Int)=n∧(∀x∈r.2.1,0≤x∧x<q)∧d.Counter≤r.1.Counter∧r.1.Counter≤1099511627776∧(1≤n→d.Counter<r.1.Counter))) (fA d q n)
 unfold fA
 show (fun r:bm×List Int×Int=>(r.2.2=0∨r.2.2=5)∧(r.2.2=0→(r.2.1.length:Int)=n∧(∀x∈r.2.1,0≤x∧x<q)∧d.Counter≤r.1.Counter∧r.1.Counter≤1099511627776∧(1≤n→d.Counter<r.1.Counter))) (ab _ _)
 rw [aq,yz h0 h1 hq (by omega)]
 show (fun r:bm×List Int×Int=>(r.2.2=0∨r.2.2=5)∧(r.2.2=0→(r.2.1.length:Int)=n∧(∀x∈r.2.1,0≤x∧x<q)∧d.Counter≤r.1.Counter∧r.1.Counter≤1099511627776∧(1≤n→d.Counter<r.1.Counter))) (dD _ _)
 unfold dD
 dsimp only
 rw [if_pos (show ((0:Int)==0)=true from rfl),aq,yz h0 h1 hn0 hn1,if_neg (show¬((0:Int) !=0)=true by decide)]
 refine eP (P:=fun (p:Int×bM×List Int)=>0≤p.1∧p.1≤n∧(p.2.2.length:Int)=p.1∧(∀x∈p.2.2,0≤x∧x<q)∧d.Counter≤p.2.1.d.Counter∧p.2.1.d.Counter≤1099511627776∧(p.2.1.full=false→0<p.1→d.Counter<p.2.1.d.Counter))
  (Q:=(fun r:bm×List Int×Int=>(r.2.2=0∨r.2.2=5)∧(r.2.2=0→(r.2.1.length:Int)=n∧(∀x∈r.2.1,0≤x∧x<q)∧d.Counter≤r.1.Counter∧r.1.Counter≤1099511627776∧(1≤n→d.Counter<r.1.Counter)))) (meas:=fun p=>(n - p.1).toNat) ?_ _ _ ⟨Int.le_refl _,hn0,rfl,fun x hx=>(by cases hx),Int.le_refl _,h1,fun _ h=>absurd h (Int.lt_irrefl 0)⟩ (Nat.lt_succ_self _)
 rintro ag ⟨i,s,l⟩ ⟨g0,g1,g2,g3,g4,g5,g6⟩ hag
 simp only at g0 g1 g2 g3 g4 g5 g6 hag⊢
 by_cases hi:i<n
 ·rw [if_pos (by simpa using hi),aq]
  have hn:=Ee (s:=s) hq hq1 (by omega) g5
  refine hag _ ⟨by simp only;omega,by simp only;omega,by simp only [List.length_append,List.length_cons,List.length_nil];omega,fun x hx=> ?_,by simp only;omega,hn.2.2.2.1,fun hf _=>by have:=(hn.2.2.2.2 hf).2;simp only;omega⟩ (by simp only;omega)
  rcases List.mem_append.1 hx with hx|hx
  ·exact g3 x hx
  ·rw [List.mem_singleton] at hx;rw [hx];exact ⟨hn.1,hn.2.1⟩
 ·rw [if_neg (by simpa using hi),aq]
  have hr:=Ef s
  cases hf:s.full with
  | true=>
   rw [hf,if_pos rfl] at hr
   rw [if_pos (by rw [hr.1];decide)]
   exact ⟨.inr hr.1,fun e=>by dsimp only at e;rw [hr.1] at e;exact absurd e (by decide)⟩
  | false=>
   rw [hf,if_neg (by decide)] at hr
   rw [if_neg (by rw [hr.1];decide),hr.2 rfl]
   exact ⟨.inl rfl,fun _=>⟨by simp only;omega,g3,g4,g5,fun h=>g6 hf (by omega)⟩⟩
def okv (v:ar):Prop:=(v.e=0→0≤v.d.Counter∧v.d.Counter≤1099511627776)∧(v.e=0∨v.e=5)
def stp (v w:ar):Prop:=w.g=v.g∧okv w∧(w.e=0→v.e=0∧v.d.Counter≤w.d.Counter)
theorem qE {v:ar} (h:okv v):stp v v:=⟨rfl,h,fun e=>⟨e,Int.le_refl _⟩⟩
theorem lH {u v w:ar} (h1:stp u v) (h2:stp v w):stp u w:=⟨h2.1.trans h1.1,h2.2.1,fun e=>by
 have a:=h2.2.2 e
 have b:=h1.2.2 a.1
 exact ⟨b.1,by omega⟩⟩
theorem Eg {v w:ar} (h:stp v w) (he:w.e=0):stp v {w with e:=0}:=by
 have:({w with e:=0}:ar)=w:=by cases w;simp only at he;subst he;rfl
 rw [this];exact h
theorem Eh {v:ar} (ho:okv v) (hg:okG v.g) {n:Int} (hn:0≤n∧n≤12):stp v (bV v n).2∧((bV v n).2.e=0→((bV v n).1.length:Int)=n∧(∀x∈(bV v n).1,0≤x∧x<v.g.Q)∧(1≤n→v.d.Counter<(bV v n).2.d.Counter)):=by
 obtain ⟨h1,h2,h3,h4,h5,h6⟩:=hg
 unfold bV
 by_cases he:v.e=0
 ·have hd:=ho.1 he
  have hl:=OB (d:=v.d) (q:=v.g.Q) (n:=n) (by omega) (by omega) hd.1 hd.2 hn.1 (by omega)
  rw [if_neg (by simpa using he),aq]
  exact ⟨⟨rfl,⟨fun e=>by have:=hl.2 e;dsimp only;omega,hl.1⟩,fun e=>⟨he,(hl.2 e).2.2.1⟩⟩,fun e=>⟨(hl.2 e).1,(hl.2 e).2.1,(hl.2 e).2.2.2.2⟩⟩
 ·rw [if_pos (by simpa using he)]
  exact ⟨qE ho,fun e=>absurd e he⟩
theorem Ei {v:ar} (ho:okv v) (hg:okG v.g):stp v (br v).2∧((br v).2.e=0→0≤(br v).1∧(br v).1<v.g.Q):=by
 obtain ⟨h1,h2,h3,h4,h5,h6⟩:=hg
 unfold br
 by_cases he:v.e=0
 ·have hd:=ho.1 he
  have hl:=OA (d:=v.d) (q:=v.g.Q) (by omega) (by omega) hd.1 hd.2
  rw [if_neg (by simpa using he),aq]
  exact ⟨⟨rfl,⟨fun e=>by have:=hl.2 e;dsimp only;omega,hl.1⟩,fun e=>⟨he,by have:=hl.2 e;dsimp only;omega⟩⟩,fun e=>⟨(hl.2 e).1,(hl.2 e).2.1⟩⟩
 ·rw [if_pos (by simpa using he)]
  exact ⟨qE ho,fun e=>absurd e he⟩
theorem Ej {g:ak} {r:aF} {l o:List Int} (hv:bU g r=true) (hl:(l.length:Int)=cv r) (h1: ∀x∈l,0≤x∧x<g.Q) (h2: ∀x∈o,0≤x∧x<g.Q):fS g r l o=0:=by
 unfold fS
 rw [aq,hv,if_neg (by decide),aq,if_neg (by rw [hl];simp),aq,lG,mW h1,if_neg (by decide),aq,lG,mW h2,if_neg (by decide)]
theorem OC {g:ak} {r:aF} {c:Int} {z:List Int} (hv:bU g r=true) (hl:(z.length:Int)=cv r) (hc:0≤c∧c<g.Q) (hz: ∀x∈z,0≤x∧x<g.Q):ko g r c z=(⟨fB g r c z,c,z⟩,0):=by
 unfold ko
 rw [aq,Ej hv hl hz (fun x hx=>by rw [List.mem_singleton] at hx;rw [hx];exact hc),if_neg (by decide),aq,aq]
 rfl
theorem OD {g:ak} {r:aF} {k:List Int} (hv:bU g r=true) (hl:(k.length:Int)=cv r) (hk: ∀x∈k,0≤x∧x<g.Q):kq g r k=(dF g r.Bases k,0):=by
 unfold kq
 rw [aq,Ej hv hl hk (fun x hx=>(by cases hx)),if_neg (by decide),aq]
theorem OE {l m:List Int} (h:jp l m=true):l=m:=by
 by_cases hl:l.length=m.length
 ·rw [D6 (n:=l.length) (V:=fun j=>gt l j) rfl hl.symm (fun j _ _=>rfl) (Y:=l) rfl] at h
  refine BA hl (fun j h0 hj=> ?_)
  have:=Ed h j h0 (by omega)
  simpa using this
 ·unfold jp at h
  rw [if_pos (by simp;omega)] at h
  cases h
theorem OG {g:ak} {r:aF} {x:List Int} (h:lq g r x=true):dF g r.Bases x=r.Y:=by
 unfold lq at h
 simp only [aq] at h
 split at h
 ·split at h
  ·split at h
   ·exact OE h
   ·cases h
  ·cases h
 ·cases h
theorem OH {g:ak} (hg:okG g) (hG:gg g=true) {k x:List Int} {c:Int} (hk: ∀a∈k,0≤a∧a<g.Q) (hc:0≤c∧c<g.Q) (hx: ∀a∈x,0≤a∧a<g.Q) (hl:x.length=k.length) (h1:1≤(k.length:Int)) (h2:(k.length:Int)≤12):
  ∃z:List Int,mM g k c x=(z,0)∧z.length=k.length∧(∀a∈z,0≤a∧a<g.Q)∧ ∀j:Int,0≤j→j<(k.length:Int)→gt z j=(gt k j+c*gt x j% g.Q)% g.Q:=by
 obtain ⟨g1,g2,g3,g4,g5,g6⟩:=hg
 unfold mM
 rw [aq,hG,if_neg (by decide),if_neg (by simp;omega),if_neg (by simp;omega),if_neg (by simp;omega),aq,lG,mW hk,if_neg (by decide),aq,lG,mW hx,if_neg (by decide),aq,lG,mW (l:=[c]) (fun y hy=>by rw [List.mem_singleton] at hy;rw [hy];exact hc),if_neg (by decide)]
 refine eP (P:=fun (p:Int×List Int)=>0≤p.1∧p.1≤(k.length:Int)∧(p.2.length:Int)=p.1∧(∀a∈p.2,0≤a∧a<g.Q)∧ ∀j:Int,0≤j→j<p.1→gt p.2 j=(gt k j+c*gt x j% g.Q)% g.Q)
  (Q:=fun r:List Int×Int=> ∃z:List Int,r=(z,0)∧z.length=k.length∧(∀a∈z,0≤a∧a<g.Q)∧ ∀j:Int,0≤j→j<(k.length:Int)→gt z j=(gt k j+c*gt x j% g.Q)% g.Q) (meas:=fun p=>((k.length:Int) - p.1).toNat) ?_ _ _ ⟨Int.le_refl _,by show (0:Int)≤_;omega,rfl,fun a ha=>(by cases ha),fun j a b=>by simp only at b;omega⟩ (Nat.lt_succ_self _)
 rintro ag ⟨i,s⟩ ⟨p0,p1,p2,p3,p4⟩ hag
 simp only at p0 p1 p2 p3 p4 hag⊢
 by_cases hi:i<(k.length:Int)
 ·rw [if_pos (dT hi),aq]
  have hki:=hk _ (aK (l:=k) (i:=i) (by omega))
  have hxi:=hx _ (aK (l:=x) (i:=i) (by omega))
  have hm:=en (x:=c*gt x i) (m:=g.Q) (by omega)
  rw [yu hc hxi (by omega)]
  dsimp only
  rw [dM (by omega) (by omega),gu (by omega)]
  have hr:=en (x:=gt k i+c*gt x i% g.Q) (m:=g.Q) (by omega)
  refine hag _ ⟨by simp only;omega,by simp only;omega,by simp only [List.length_append,List.length_cons,List.length_nil];omega,fun a ha=> ?_,fun j a b=> ?_⟩ (by simp only;omega)
  ·rcases List.mem_append.1 ha with h|h
   ·exact p3 a h
   ·rw [List.mem_singleton] at h;rw [h];exact hr
  ·simp only at b⊢
   by_cases e:j=i
   ·subst e
    have:gt (s++[(gt k j+c*gt x j% g.Q)% g.Q]) j=(gt k j+c*gt x j% g.Q)% g.Q:=by
     have hj:j.toNat=s.length:=by omega
     simp [gt,List.getD_eq_getElem?_getD,hj]
    exact this
   ·have:gt (s++[(gt k i+c*gt x i% g.Q)% g.Q]) j=gt s j:=by
     simp only [gt,List.getD_eq_getElem?_getD]
     rw [List.getElem?_append_left (by omega)]
    rw [this];exact p4 j a (by omega)
 ·rw [if_neg (dN hi)]
  exact ⟨s,rfl,by omega,p3,fun j a b=>p4 j a (by omega)⟩
theorem OI {a b m:Int} (hm:1≤m):0≤(mK a b m).1∧(mK a b m).1<m:=by
 unfold mK
 rw [aq]
 split
 ·exact ⟨Int.le_refl _,by show (0:Int)<m;omega⟩
 ·rename_i h
  have h2:=BW (by simpa using h)
  dsimp only
  rw [dM (by omega) (by omega),gu (by omega)]
  exact en (by omega)
theorem OJ {h:List Int} {m:Int} (hm:1≤m) (hm1:m<2305843009213693952):(mL h m).2=0∧0≤(mL h m).1∧(mL h m).1<m:=by
 unfold mL
 rw [if_neg (by simp;omega),if_neg (by simp;omega)]
 refine eP (P:=fun (p:Int×Int)=>0≤p.1∧p.1<m∧0≤p.2∧p.2≤16) (Q:=fun r:Int×Int=>r.2=0∧0≤r.1∧r.1<m) (meas:=fun p=>(16 - p.2).toNat) ?_ _ _ ⟨Int.le_refl _,by show (0:Int)<m;omega,Int.le_refl _,(by decide:(0:Int)≤16)⟩ (Nat.lt_succ_self _)
 rintro ag ⟨x,i⟩ ⟨g0,g1,g2,g3⟩ hag
 simp only at g0 g1 g2 g3 hag⊢
 by_cases hi:i<16
 ·rw [if_pos (by simpa using hi)]
  refine eP (P:=fun (p:Int×Int)=>0≤p.2∧p.2≤8) (Q:=fun r:Int×Int=>r.2=0∧0≤r.1∧r.1<m) (meas:=fun p=>(8 - p.2).toNat) ?_ _ _ ⟨Int.le_refl _,(by decide:(0:Int)≤8)⟩ (Nat.lt_succ_self _)
  rintro ag2 ⟨y,j⟩ ⟨k2,k3⟩ hag2
  simp only at k2 k3 hag2⊢
  by_cases hj:j<8
  ·rw [if_pos (by simpa using hj),aq]
   exact hag2 _ ⟨by simp only;omega,by simp only;omega⟩ (by simp only;omega)
  ·rw [if_neg (by simpa using hj),aq]
   have:=OI (a:=y) (b:=aO .i64 (al .i64 (gt [gt h 0,gt h 1,gt h 2,gt h 3,gt h 4,gt h 5,gt h 6,gt h 7,gt h 8,gt h 9,gt h 10,gt h 11,gt h 12,gt h 13,gt h 14,gt h 15] i)) m) hm
   exact hag _ ⟨this.1,this.2,by simp only;omega,by simp only;omega⟩ (by simp only;omega)
 ·rw [if_neg (by simpa using hi)]
  exact ⟨rfl,g0,g1⟩
def okE (e:Int):Prop:=e=0∨e=1∨e=5
theorem Ek (t:cc) (l:List UInt8) (i:aJ):okE (oh t l i).2:=by
 unfold oh
 simp only [aq]
 repeat' split
 all_goals first|exact .inl rfl|exact .inr (.inl rfl)|exact .inr (.inr rfl)
theorem yA {t:cc} {l:List UInt8} {i:aJ} {e:Int} (he:okE e):okE (ju l i e t).1:=by
 unfold ju
 split
 ·rw [aq];exact Ek _ _ _
 ·exact he
theorem OK (i:aJ):okE (mI i).2:=by
 unfold mI
 simp only [aq]
 repeat' split
 all_goals first|exact .inl rfl|exact .inr (.inl rfl)|exact .inr (.inr rfl)
theorem OL {tag:List UInt8} {b:List Int} (h1:1≤tag.length) (h2:tag.length≤100):(oc tag b).2=0:=by
 unfold oc
 rw [if_neg (by simp;omega),if_neg (by simp;omega),aq,aq,aq]
theorem OM {tag:List UInt8} {t:cc} {l:List UInt8} {m:List aJ} (h1:1≤tag.length) (h2:tag.length≤100):okE (mJ tag t l m).2:=by
 unfold mJ
 simp only [aq]
 split
 ·exact OK _
 ·exact .inl (OL h1 h2)
theorem ON {t:cc} {l:List UInt8} {q:Int} (hq:2≤q) (hq1:q<2305843009213693952):okE (lx t l q).2.2∧((lx t l q).2.2=0→0≤(lx t l q).2.1∧(lx t l q).2.1<q):=by
 have hz:0≤(0:Int)∧(0:Int)<q:=⟨Int.le_refl _,by omega⟩
 unfold lx
 rw [aq]
 split
 ·exact ⟨.inr (.inl rfl),fun _=>hz⟩
 rw [aq]
 split
 ·exact ⟨.inr (.inl rfl),fun _=>hz⟩
 rw [if_neg (by simp;omega),if_neg (by simp;omega)]
 split
 ·exact ⟨.inr (.inr rfl),fun _=>hz⟩
 rw [aq]
 have hh:=OM (tag:=[115,112,101,99,105,101,47,99,104,97,108,108,101,110,103,101]) (t:=t) (l:=l) (m:=[]) (by decide) (by decide)
 split
 ·exact ⟨hh,fun _=>hz⟩
 rw [aq]
 have hn:=OJ (h:=(mJ [115,112,101,99,105,101,47,99,104,97,108,108,101,110,103,101] t l []).1) (m:=q) (by omega) hq1
 split
 ·exact ⟨.inl hn.1,fun _=>hz⟩
 rw [aq]
 split
 ·exact ⟨Ek _ _ _,fun _=>hz⟩
 ·exact ⟨.inl rfl,fun _=>hn.2⟩
theorem OO {g:ak} (hg:okG g) {text label:List UInt8} {l:List (List Int)} (hN:(jt label).2=0):okE (iC g text label l).2∧((iC g text label l).2=0→0≤(iC g text label l).1∧(iC g text label l).1<g.Q):=by
 obtain ⟨g1,g2,g3,g4,g5,g6⟩:=hg
 unfold iC
 rw [aq,hN,aq,aq,aq]
 have h1:=yA (t:=(jt label).1) (l:=[103,114,111,117,112]) (i:=jv [g.P,g.Q,g.G]) (e:=0) (.inl rfl)
 have h2:=yA (t:=(ju [103,114,111,117,112] (jv [g.P,g.Q,g.G]) 0 (jt label).1).2) (l:=[102,111,114,109,117,108,97]) (i:=⟨2,0,cX text,[]⟩) h1
 refine eP (P:=fun (p:Int×cc×Int)=>okE p.2.2∧0≤p.1∧p.1≤(l.length:Int)) (Q:=fun r:Int×Int=>okE r.2∧(r.2=0→0≤r.1∧r.1<g.Q)) (meas:=fun p=>((l.length:Int) - p.1).toNat) ?_ _ _ ⟨h2,Int.le_refl _,by show (0:Int)≤_;omega⟩ (Nat.lt_succ_self _)
 rintro ag ⟨i,t,e⟩ ⟨k0,k1,k2⟩ hag
 simp only at k0 k1 k2 hag⊢
 by_cases hi:i<(l.length:Int)
 ·rw [if_pos (dT hi),aq,aq]
  exact hag _ ⟨yA k0,by simp only;omega,by simp only;omega⟩ (by simp only;omega)
 ·rw [if_neg (dN hi)]
  split
  ·exact ⟨k0,fun h=>⟨Int.le_refl _,by show (0:Int)<g.Q;omega⟩⟩
  ·rw [aq];exact ON (by omega) (by omega)
end Go.Proofs.YtgealhhkngbkbaaGreatDoor
namespace Go.Proofs.YtgealhhkngbkbaaGreatDoor
open Go.RowKit
theorem OP {Q s p a:Int} (hQ:0<Q):((s+p)% Q+(a - p+Q)% Q)% Q=(s+a)% Q:=by
 rw [←Int.add_emod,show s+p+(a - p+Q)=s+a+Q by omega,Int.add_emod_right]
theorem tY {g:ak} (hg:okG g) {a p:Int} (ha:0≤a∧a<g.Q) (hp:0≤p∧p<g.Q):aO .i64 (ao .i64 (ap .i64 a p) g.Q) g.Q=(a - p+g.Q)% g.Q:=by
 obtain ⟨h1,h2,h3,h4,h5,h6⟩:=hg
 rw [ff (by omega) (by omega),dM (by omega) (by omega),gu (by omega)]
theorem yB {g:ak} (hg:okG g) {s p:Int} (hs:0≤s∧s<g.Q) (hp:0≤p∧p<g.Q):aO .i64 (ao .i64 s p) g.Q=(s+p)% g.Q:=by
 obtain ⟨h1,h2,h3,h4,h5,h6⟩:=hg
 rw [dM (by omega) (by omega),gu (by omega)]
theorem qF {C:aF→dg→Bool} {q k c:Int} {f:aa} {l:List aa} {t:av} {ts:List av} {s:Int} (h1:fm C q f t=true) (h2:k=2→t.C=c) (h3:eT C q k c l ts (aO .i64 (ao .i64 s t.C) q)=true):eT C q k c (f::l) (t::ts) s=true:=by
 rw [eT,show gt (t::ts) 0=t from rfl,if_neg (by rw [h1];decide),if_neg (by rintro ⟨a,b⟩;exact b (h2 a)),show (t::ts).drop 1=ts from rfl]
 exact h3
mutual
theorem qG {g:ak} (hg:okG g): ∀(f:aa) (v:ar) (c:Int),v.g=g→okv v→co (bU g) f=true→(v.e=0→0≤c∧c<g.Q)→
  stp v (bn v f c).2∧(bn v f c).1.C=c∧((bn v f c).2.e=0→v.d.Counter<(bn v f c).2.d.Counter∧eU g f (bn v f c).1=true)
 | ⟨k,r,l⟩,v,c,hv,ho,hf,hc=>by
  rw [co] at hf
  rw [bn]
  by_cases hk:k=1
  ·subst hk
   rw [if_pos rfl] at hf⊢
   split at hf
   case isFalse=>cases hf
   rename_i hl
   have hl0:l=[]:=List.eq_nil_of_length_eq_zero hl
   subst hl0
   have hu:=(qD hf).2.2.2.2.2.2
   have eu:bf ⟨1,r,[]⟩=cv r:=by rw [bf,if_pos rfl];rfl
   have hs:=Eh ho (by rw [hv];exact hg) (n:=bf ⟨1,r,[]⟩) (by rw [eu];omega)
   have hgS:(bV v (bf ⟨1,r,[]⟩)).2.g=g:=by rw [hs.1.1,hv]
   by_cases he:(bV v (bf ⟨1,r,[]⟩)).2.e=0
   ·rw [if_pos he,hgS]
    have h2:=hs.2 he
    rw [hv] at h2
    have hlen:((bV v (bf ⟨1,r,[]⟩)).1.length:Int)=cv r:=by rw [h2.1,eu]
    have hc:=hc (hs.1.2.2 he).1
    rw [OC hf hlen hc h2.2.1]
    refine ⟨Eg hs.1 he,rfl,fun _=>⟨h2.2.2 (by rw [eu];omega),?_⟩⟩
    unfold eU
    rw [fm,if_neg (by dsimp only;omega),if_pos rfl,if_pos ⟨rfl,rfl⟩]
    exact D9 hf hlen hc h2.2.1 rfl
   ·rw [if_neg he]
    exact ⟨hs.1,rfl,fun h=>absurd h he⟩
  ·rw [if_neg hk] at hf⊢
   split at hf
   case isFalse=>cases hf
   rename_i hl
   obtain ⟨ts,e1,e2,e3,e4⟩:=tZ hg l v k c c [] 0 (l.length:Int) hv ho hf hl.1 (fun e=>⟨hc e,fun _=>⟨hc e,by omega⟩⟩)
   refine ⟨e3,rfl,fun h=> ?_⟩
   have h4:=e4 h
   have hc:=hc (e3.2.2 h).1
   refine ⟨h4.1 (by intro e;have:=hl.2.2.2.1;rw [e] at this;exact absurd this (by decide)),?_⟩
   rw [e1,List.nil_append]
   unfold eU
   rw [fm,if_neg (by dsimp only;omega),if_neg hk,if_pos ⟨rfl,rfl,rfl,e2⟩]
   exact h4.2 0 (fun _=>⟨Int.le_refl _,by have:=hg.1;omega,fun _=>by rw [Int.zero_add];exact Int.emod_eq_of_lt hc.1 hc.2,fun e=>by have:=hl.2.2.2.1;rw [e] at this;exact absurd this (by decide)⟩)
theorem tZ {g:ak} (hg:okG g): ∀(l:List aa) (v:ar) (k c a:Int) (m:List av) (i n:Int),v.g=g→okv v→cj (bU g) l=true→(k=2∨k=3)→(v.e=0→(0≤c∧c<g.Q)∧(k=3→(0≤a∧a<g.Q)∧i+(l.length:Int)=n))→
  ∃ts:List av,(du v k l c a m i n).1=m++ts∧ts.length=l.length∧stp v (du v k l c a m i n).2∧((du v k l c a m i n).2.e=0→(l≠[]→v.d.Counter<(du v k l c a m i n).2.d.Counter)∧
   ∀s:Int,(k=3→0≤s∧s<g.Q∧(l≠[]→(s+a)% g.Q=c)∧(l=[]→s=c))→eT (gY g) g.Q k c l ts s=true)
 | [],v,k,c,a,m,i,n,hv,ho,hf,hk,hc=>by
  rw [du]
  refine ⟨[],(List.append_nil _).symm,rfl,qE ho,fun he=>⟨fun h=>absurd rfl h,fun s hs=> ?_⟩⟩
  rw [eT]
  rcases hk with h|h
  ·rw [if_pos h]
  ·rw [if_neg (by omega),(hs h).2.2.2 rfl];exact beq_self_eq_true _
 | f::l,v,k,c,a,m,i,n,hv,ho,hf,hk,hc=>by
  rw [cj] at hf
  split at hf
  case isTrue=>cases hf
  rename_i hf1
  have hf1:co (bU g) f=true:=by simpa using hf1
  rw [du]
  by_cases h3:k=3
  ·subst h3
   rw [if_pos rfl]
   by_cases hi:i<n - 1
   ·rw [if_pos hi]
    have hq:=Ei ho (by rw [hv];exact hg)
    rw [hv] at hq
    have hgq:(br v).2.g.Q=g.Q:=by rw [hq.1.1,hv]
    have h1:=qG hg f (br v).2 (br v).1 (by rw [hq.1.1,hv]) hq.1.2.1 hf1 hq.2
    rw [hgq]
    have hlen:i+((f::l).length:Int)=n→i+1+(l.length:Int)=n:=fun h=>by rw [List.length_cons] at h;omega
    obtain ⟨ts,e1,e2,e3,e4⟩:=tZ hg l (bn (br v).2 f (br v).1).2 3 c (aO .i64 (ao .i64 (ap .i64 a (br v).1) g.Q) g.Q) (m++[(bn (br v).2 f (br v).1).1]) (i+1) n (by rw [h1.1.1,hq.1.1,hv]) h1.1.2.1 hf (.inr rfl) (fun e=>by
     have e5:=(h1.1.2.2 e).1
     have e6:=hc (hq.1.2.2 e5).1
     have e7:=e6.2 rfl
     refine ⟨e6.1,fun _=>⟨?_,hlen e7.2⟩⟩
     rw [tY hg e7.1 (hq.2 e5)]
     exact en (by have:=hg.1;omega))
    refine ⟨(bn (br v).2 f (br v).1).1::ts,by rw [e1,List.append_assoc];rfl,by rw [List.length_cons,List.length_cons,e2],lH hq.1 (lH h1.1 e3),fun he=> ?_⟩
    have h2:=e3.2.2 he
    have h5:=h1.2.2 h2.1
    have h6:=h1.1.2.2 h2.1
    have h7:=hq.1.2.2 h6.1
    have h8:=hq.2 h6.1
    have h9:=e4 he
    have hcc:=hc h7.1
    have ha:=hcc.2 rfl
    refine ⟨fun _=>by omega,fun s hs=> ?_⟩
    obtain ⟨hs0,hs1,hs2,hs3⟩:=hs rfl
    rw [tY hg ha.1 h8] at h9
    refine qF h5.2 (fun e=>absurd e (by decide)) (h9.2 _ (fun _=> ?_))
    rw [h1.2.1,yB hg ⟨hs0,hs1⟩ h8]
    have hr2:=en (x:=s+(br v).1) (m:=g.Q) (by have:=hg.1;omega)
    refine ⟨hr2.1,hr2.2,fun _=> ?_,fun e=> ?_⟩
    ·rw [OP (by have:=hg.1;omega)];exact hs2 (by simp)
    ·have:=hlen ha.2;rw [e] at this;simp only [List.length_nil] at this;omega
   ·rw [if_neg hi]
    have h1:=qG hg f v a hv ho hf1 (fun e=>((hc e).2 rfl).1)
    have hlen:i+((f::l).length:Int)=n→l=[]:=fun h=>by
     rw [List.length_cons] at h
     exact List.eq_nil_of_length_eq_zero (by omega)
    obtain ⟨ts,e1,e2,e3,e4⟩:=tZ hg l (bn v f a).2 3 c (aO .i64 (ao .i64 (ap .i64 a a) v.g.Q) v.g.Q) (m++[(bn v f a).1]) (i+1) n (by rw [h1.1.1,hv]) h1.1.2.1 hf (.inr rfl) (fun e=>by
     have e6:=hc (h1.1.2.2 e).1
     have e7:=e6.2 rfl
     refine ⟨e6.1,fun _=>⟨?_,by have:=e7.2;rw [List.length_cons] at this;omega⟩⟩
     rw [hv,tY hg e7.1 e7.1]
     exact en (by have:=hg.1;omega))
    refine ⟨(bn v f a).1::ts,by rw [e1,List.append_assoc];rfl,by rw [List.length_cons,List.length_cons,e2],lH h1.1 e3,fun he=> ?_⟩
    have h2:=e3.2.2 he
    have h5:=h1.2.2 h2.1
    have h9:=e4 he
    have hcc:=hc (h1.1.2.2 h2.1).1
    have ha:=hcc.2 rfl
    have hl:=hlen ha.2
    refine ⟨fun _=>by omega,fun s hs=> ?_⟩
    obtain ⟨hs0,hs1,hs2,hs3⟩:=hs rfl
    refine qF h5.2 (fun e=>absurd e (by decide)) (h9.2 _ (fun _=> ?_))
    rw [h1.2.1,yB hg ⟨hs0,hs1⟩ ha.1,hs2 (by simp)]
    exact ⟨hcc.1.1,hcc.1.2,fun e=>absurd hl e,fun _=>rfl⟩
  ·rw [if_neg h3]
   have h1:=qG hg f v c hv ho hf1 (fun e=>(hc e).1)
   obtain ⟨ts,e1,e2,e3,e4⟩:=tZ hg l (bn v f c).2 k c a (m++[(bn v f c).1]) (i+1) n (by rw [h1.1.1,hv]) h1.1.2.1 hf hk (fun e=>⟨(hc (h1.1.2.2 e).1).1,fun e3=>absurd e3 h3⟩)
   refine ⟨(bn v f c).1::ts,by rw [e1,List.append_assoc];rfl,by rw [List.length_cons,List.length_cons,e2],lH h1.1 e3,fun he=> ?_⟩
   have h2:=e3.2.2 he
   have h5:=h1.2.2 h2.1
   have h9:=e4 he
   refine ⟨fun _=>by omega,fun s hs=> ?_⟩
   exact qF h5.2 (fun _=>h1.2.1) (h9.2 _ (fun e=>absurd e h3))
end
end Go.Proofs.YtgealhhkngbkbaaGreatDoor
namespace Go.Proofs.YtgealhhkngbkbaaGreatDoor
open Go.RowKit
theorem OQ {g:ak} {r:aF} (h:bU g r=true):gg g=true:=by
 unfold bU at h
 rw [aq] at h
 cases e:gg g with
 | true=>rfl
 | false=>rw [e] at h;cases h
mutual
def lI (g:ak) (x:List Int):aG→aa→Prop
 | ⟨f,t,k,l,h,d⟩,F=>d=false∧f=F∧(if F.Kind=1 then F.L=[]∧bU g F.Relation=true∧t.P.A=dF g F.Relation.Bases k∧(k.length:Int)=cv F.Relation∧(∀a∈k,0≤a∧a<g.Q)∧k.length≤x.length∧dF g F.Relation.Bases (sl x 0 (k.length:Int))=F.Relation.Y
   else if F.Kind=2 then lJ g x l F.L else F.Kind=3∧0≤h∧h<(F.L.length:Int)∧fU g x l F.L h 0)
def lJ (g:ak) (x:List Int):List aG→List aa→Prop
 | [],m=>m=[]
 | w::l,m=> ∃F M,m=F::M∧lI g x w F∧lJ g x l M
def fU (g:ak) (x:List Int):List aG→List aa→Int→Int→Prop
 | [],m,_,_=>m=[]
 | w::l,m,h,i=> ∃F M,m=F::M∧(i=h→lI g x w F)∧(i≠h→w.done=true∧w.f=F∧eU g F w.t=true)∧fU g x l M h (i+1)
end
theorem Em {g:ak} {x:List Int}: ∀{l:List aG} {m:List aa} {h i:Int},fU g x l m h i→l.length=m.length
 | [],m,h,i,e=>by rw [fU] at e;rw [e];rfl
 | w::l,m,h,i,e=>by
  rw [fU] at e
  obtain ⟨F,M,rfl,_,_,e⟩:=e
  rw [List.length_cons,List.length_cons,Em e]
def eo (h:Int):List aG→Int→Int
 | [],_=>0
 | w::l,i=>(if i=h then 0 else w.t.C)+eo h l (i+1)
theorem yC {g:ak} (hg:okG g) {x:List Int} {h:Int}: ∀{l:List aG} {m:List aa} {i a:Int},fU g x l m h i→0≤a→a<g.Q→iD g.Q l i h a=(a - eo h l i)% g.Q
 | [],m,i,a,e,h0,h1=>by rw [iD,eo,Int.sub_zero,Int.emod_eq_of_lt h0 h1]
 | w::l,m,i,a,e,h0,h1=>by
  rw [fU] at e
  obtain ⟨F,M,rfl,e1,e2,e⟩:=e
  rw [iD,eo]
  by_cases hi:i=h
  ·rw [if_neg (by simpa using hi),if_pos hi,yC hg e h0 h1,Int.zero_add]
  ·have hc:=C5 (e2 hi).2.2
   rw [if_pos (by simpa using hi),if_neg hi,tY hg ⟨h0,h1⟩ hc]
   have hr:=en (x:=a - w.t.C+g.Q) (m:=g.Q) (by have:=hg.1;omega)
   rw [yC hg e hr.1 hr.2,←Int.emod_sub_emod,Int.emod_emod_of_dvd _ (Int.dvd_refl _),Int.emod_sub_emod,show a - w.t.C+g.Q - eo h l (i+1)=a - (w.t.C+eo h l (i+1))+g.Q by omega,Int.add_emod_right]
mutual
theorem yD {g:ak} (hg:okG g) {x:List Int} (hx: ∀a∈x,0≤a∧a<g.Q): ∀(w:aG) (F:aa) (v:ar) (c:Int),v.g=g→v.e=0→co (bU g) F=true→lI g x w F→0≤c→c<g.Q→
  (bH v w c x).2=v∧(bH v w c x).1.C=c∧eU g F (bH v w c x).1=true∧dv F (bH v w c x).1=dj w
 | ⟨f,t,k,l,h,d⟩,F,v,c,hv,he,hF,ha,h0,h1=>by
  rw [lI] at ha
  obtain ⟨rfl,rfl,ha⟩:=ha
  rw [bH,dj,if_neg (show¬(false=true) by decide),if_neg (show¬(false=true) by decide)]
  obtain ⟨kk,r,L⟩:=f
  dsimp only
  rw [co] at hF
  by_cases hk:kk=1
  ·subst hk
   rw [if_pos rfl] at ha hF
   obtain ⟨a1,a2,a3,a4,a5,a6,a7⟩:=ha
   dsimp only at a1 a2 a3 a4 a7
   rw [if_pos rfl,if_pos rfl,if_pos he,hv]
   have hxl:(sl x 0 (k.length:Int)).length=k.length:=by simp only [sl];simp;omega
   have hxs: ∀a∈sl x 0 (k.length:Int),0≤a∧a<g.Q:=fun a h=>hx a (List.mem_of_mem_drop (List.mem_of_mem_take h))
   have hu:=qD a2
   obtain ⟨z,ez,z1,z2,z3⟩:=OH hg (OQ a2) a5 ⟨h0,h1⟩ hxs hxl (by have:=hu.2.2.2.2.2.2;omega) (by have:=hu.2.2.2.2.2.2;omega)
   rw [ez]
   have hv':({g:=g,d:=v.d,e:=0}:ar)=v:=by cases v;simp only at he hv;subst he;subst hv;rfl
   refine ⟨hv',rfl,?_,?_⟩
   ·unfold eU
    rw [fm,if_neg (by dsimp only;omega),if_pos rfl,if_pos ⟨rfl,rfl⟩]
    exact D9 a2 (by rw [z1];exact a4) ⟨h0,h1⟩ z2 (by rw [Oq hu ⟨h0,h1⟩ a5 hxs a4 hxl z2 z3 a7,a3])
   ·rw [dv,if_pos rfl]
  ·rw [if_neg hk] at ha hF
   split at hF
   case isFalse=>cases hF
   rename_i hl
   dsimp only at ha
   rw [if_neg hk,if_neg hk]
   by_cases h2:kk=2
   ·subst h2
    rw [if_pos rfl] at ha⊢
    obtain ⟨ts,e1,e2,e3,e4,e5⟩:=Eo hg hx l L v c [] hv he hF ha h0 h1
    refine ⟨e2,rfl,?_,?_⟩
    ·rw [e1,List.nil_append]
     unfold eU
     rw [fm,if_neg (by dsimp only;omega),if_neg (by decide),if_pos ⟨rfl,rfl,rfl,e3⟩]
     exact e4 0
    ·rw [e1,List.nil_append,dv,if_neg (by decide)];exact e5
   ·rw [if_neg h2] at ha⊢
    obtain ⟨h3,b0,b1,ha⟩:=ha
    subst h3
    rw [hv]
    have hL:=yC hg ha h0 h1
    have hr:=en (x:=c - eo h l 0) (m:=g.Q) (by have:=hg.1;omega)
    rw [←hL] at hr
    obtain ⟨ts,e1,e2,e3,e4,e5⟩:=Ep hg hx l L v (iD g.Q l 0 h c) c h 0 [] hv he hF ha hr.1 hr.2
    refine ⟨e2,rfl,?_,?_⟩
    ·rw [e1,List.nil_append]
     unfold eU
     rw [fm,if_neg (by dsimp only;omega),if_neg (by decide),if_pos ⟨rfl,rfl,rfl,e3⟩]
     refine e4 0 (by decide) (by have:=hg.1;omega) (fun hh=>by rw [Em ha];omega) ?_
     rw [if_pos b0,hL,Int.zero_add,Int.emod_add_emod,show c - eo h l 0+eo h l 0=c by omega]
     exact Int.emod_eq_of_lt h0 h1
    ·rw [e1,List.nil_append,dv,if_neg (by decide)];exact e5
theorem Eo {g:ak} (hg:okG g) {x:List Int} (hx: ∀a∈x,0≤a∧a<g.Q): ∀(l:List aG) (L:List aa) (v:ar) (c:Int) (m:List av),v.g=g→v.e=0→cj (bU g) L=true→lJ g x l L→0≤c→c<g.Q→
  ∃ts:List av,(c8 v l c x m).1=m++ts∧(c8 v l c x m).2=v∧ts.length=L.length∧(∀s,eT (gY g) g.Q 2 c L ts s=true)∧fC L ts=fE l
 | [],L,v,c,m,hv,he,hF,ha,h0,h1=>by
  rw [lJ] at ha
  subst ha
  rw [c8,fE]
  exact ⟨[],(List.append_nil _).symm,rfl,rfl,fun s=>by rw [eT,if_pos rfl],by rw [fC]⟩
 | w::l,L,v,c,m,hv,he,hF,ha,h0,h1=>by
  rw [lJ] at ha
  obtain ⟨F,M,rfl,ha1,ha2⟩:=ha
  rw [cj] at hF
  split at hF
  case isTrue=>cases hF
  rename_i hf1
  have hf1:co (bU g) F=true:=by simpa using hf1
  rw [c8,fE]
  obtain ⟨e1,e2,e3,e4⟩:=yD hg hx w F v c hv he hf1 ha1 h0 h1
  rw [e1]
  obtain ⟨ts,i1,i2,i3,i4,i5⟩:=Eo hg hx l M v c (m++[(bH v w c x).1]) hv he hF ha2 h0 h1
  refine ⟨(bH v w c x).1::ts,by rw [i1,List.append_assoc];rfl,i2,by rw [List.length_cons,List.length_cons,i3],fun s=>qF e3 (fun _=>e2) (i4 _),?_⟩
  rw [fC,show gt ((bH v w c x).1::ts) 0=(bH v w c x).1 from rfl,show ((bH v w c x).1::ts).drop 1=ts from rfl,e4,i5]
theorem Ep {g:ak} (hg:okG g) {x:List Int} (hx: ∀a∈x,0≤a∧a<g.Q): ∀(l:List aG) (L:List aa) (v:ar) (a c h i:Int) (m:List av),v.g=g→v.e=0→cj (bU g) L=true→fU g x l L h i→0≤a→a<g.Q→
  ∃ts:List av,(c8 v l a x m).1=m++ts∧(c8 v l a x m).2=v∧ts.length=L.length∧(∀s,0≤s→s<g.Q→(i≤h→h<i+(l.length:Int))→(if i≤h then (s+a+eo h l i)% g.Q=c else (s+eo h l i)% g.Q=c)→eT (gY g) g.Q 3 c L ts s=true)∧fC L ts=fE l
 | [],L,v,a,c,h,i,m,hv,he,hF,ha,h0,h1=>by
  rw [fU] at ha
  subst ha
  rw [c8,fE]
  refine ⟨[],(List.append_nil _).symm,rfl,rfl,fun s s0 s1 s2 s3=> ?_,by rw [fC]⟩
  rw [eT,if_neg (by decide)]
  by_cases hh:i≤h
  ·have:=s2 hh;simp only [List.length_nil] at this;omega
  ·rw [if_neg hh,eo,Int.add_zero,Int.emod_eq_of_lt s0 s1] at s3
   rw [s3];exact beq_self_eq_true _
 | w::l,L,v,a,c,h,i,m,hv,he,hF,ha,h0,h1=>by
  rw [fU] at ha
  obtain ⟨F,M,rfl,ha1,ha2,ha3⟩:=ha
  rw [cj] at hF
  split at hF
  case isTrue=>cases hF
  rename_i hf1
  have hf1:co (bU g) F=true:=by simpa using hf1
  rw [c8,fE]
  have hQ:0<g.Q:=by have:=hg.1;omega
  have key:(bH v w a x).2=v∧(bH v w a x).1.C=(if i=h then a else w.t.C)∧eU g F (bH v w a x).1=true∧dv F (bH v w a x).1=dj w:=by
   by_cases hi:i=h
   ·rw [if_pos hi];exact yD hg hx w F v a hv he hf1 (ha1 hi) h0 h1
   ·rw [if_neg hi]
    obtain ⟨b1,b2,b3⟩:=ha2 hi
    obtain ⟨f,t,k,l',h',d⟩:=w
    dsimp only at b1 b2 b3
    rw [bH,dj,b1,if_pos rfl,if_pos rfl]
    exact ⟨rfl,rfl,b3,by rw [b2]⟩
  obtain ⟨e1,e2,e3,e4⟩:=key
  have hc:=C5 e3
  rw [e1]
  obtain ⟨ts,i1,i2,i3,i4,i5⟩:=Ep hg hx l M v a c h (i+1) (m++[(bH v w a x).1]) hv he hF ha3 h0 h1
  refine ⟨(bH v w a x).1::ts,by rw [i1,List.append_assoc];rfl,i2,by rw [List.length_cons,List.length_cons,i3],fun s s0 s1 s2 s3=> ?_,?_⟩
  ·refine qF e3 (fun e=>absurd e (by decide)) ?_
   rw [yB hg ⟨s0,s1⟩ hc]
   have hr:=en (x:=s+(bH v w a x).1.C) (m:=g.Q) hQ
   rw [List.length_cons] at s2
   refine i4 _ hr.1 hr.2 (fun hh=>by have:=s2 (by omega);omega) ?_
   rw [eo] at s3
   by_cases hi:i=h
   ·rw [if_pos hi] at e2 s3
    rw [if_pos (by omega),Int.zero_add] at s3
    rw [if_neg (by omega),e2,Int.emod_add_emod];exact s3
   ·rw [if_neg hi] at e2 s3
    by_cases hh:i≤h
    ·rw [if_pos hh] at s3
     rw [if_pos (by omega),e2,show (s+w.t.C)% g.Q+a+eo h l (i+1)=(s+w.t.C)% g.Q+(a+eo h l (i+1)) by omega,Int.emod_add_emod,show s+w.t.C+(a+eo h l (i+1))=s+a+(w.t.C+eo h l (i+1)) by omega]
     exact s3
    ·rw [if_neg hh] at s3
     rw [if_neg (by omega),e2,Int.emod_add_emod,show s+w.t.C+eo h l (i+1)=s+(w.t.C+eo h l (i+1)) by omega]
     exact s3
  ·rw [fC,show gt ((bH v w a x).1::ts) 0=(bH v w a x).1 from rfl,show ((bH v w a x).1::ts).drop 1=ts from rfl,e4,i5]
end
end Go.Proofs.YtgealhhkngbkbaaGreatDoor
namespace Go.Proofs.YtgealhhkngbkbaaGreatDoor
open Go.RowKit
theorem Er {g:ak} {x:List Int}: ∀{l:List aa} {i:Int},mF g l x=true→i≤eg g l x i∧eg g l x i<i+(l.length:Int)∧bR g (gt l (eg g l x i - i)) x=true
 | [],i,h=>by rw [mF] at h;cases h
 | f::l,i,h=>by
  rw [mF] at h
  rw [eg,List.length_cons]
  by_cases hf:bR g f x=true
  ·rw [if_pos hf]
   exact ⟨Int.le_refl _,by omega,by rw [Int.sub_self];exact hf⟩
  ·rw [if_neg hf] at h⊢
   have:=Er (i:=i+1) h
   refine ⟨by omega,by omega,?_⟩
   have e:gt (f::l) (eg g l x (i+1) - i)=gt l (eg g l x (i+1) - (i+1)):=by
    obtain ⟨n,hn⟩:=Int.eq_ofNat_of_zero_le (show 0≤eg g l x (i+1) - (i+1) by omega)
    rw [hn,show eg g l x (i+1) - i=((n+1:Nat):Int) by omega]
    simp [gt,List.getD_eq_getElem?_getD]
   rw [e];exact this.2.2
theorem OR {g:ak} {x:List Int} (hx: ∀a∈x,0≤a∧a<g.Q) (n:Int): ∀a∈sl x 0 n,0≤a∧a<g.Q:=fun a h=>hx a (List.mem_of_mem_drop (List.mem_of_mem_take h))
mutual
theorem yE {g:ak} (hg:okG g) {x:List Int} (hx: ∀a∈x,0≤a∧a<g.Q): ∀(f:aa) (v:ar),v.g=g→okv v→co (bU g) f=true→bR g f x=true→bf f≤(x.length:Int)→
  stp v (aL v f x).2∧((aL v f x).2.e=0→lI g x (aL v f x).1 f)
 | ⟨k,r,l⟩,v,hv,ho,hf,hh,hu=>by
  have hf0:=hf
  rw [co] at hf
  rw [bR] at hh
  rw [aL]
  by_cases hk:k=1
  ·subst hk
   rw [if_pos rfl] at hf hh⊢
   split at hf
   case isFalse=>cases hf
   rename_i hl
   have hl0:l=[]:=List.eq_nil_of_length_eq_zero hl
   subst hl0
   have hL:=qD hf
   have hub:=hL.2.2.2.2.2.2
   have eu:bf ⟨1,r,[]⟩=cv r:=by rw [bf,if_pos rfl];rfl
   have hs:=Eh ho (by rw [hv];exact hg) (n:=bf ⟨1,r,[]⟩) (by rw [eu];omega)
   have hgS:(bV v (bf ⟨1,r,[]⟩)).2.g=g:=by rw [hs.1.1,hv]
   by_cases he:(bV v (bf ⟨1,r,[]⟩)).2.e=0
   ·rw [if_pos he,hgS]
    have h2:=hs.2 he
    rw [hv] at h2
    have hlen:((bV v (bf ⟨1,r,[]⟩)).1.length:Int)=cv r:=by rw [h2.1,eu]
    rw [OD hf hlen h2.2.1]
    refine ⟨Eg hs.1 he,fun _=> ?_⟩
    rw [lI]
    refine ⟨rfl,rfl,?_⟩
    rw [if_pos rfl]
    refine ⟨rfl,hf,rfl,hlen,h2.2.1,by rw [eu] at hu;omega,?_⟩
    rw [hlen,←eu]
    exact OG hh
   ·rw [if_neg he]
    exact ⟨hs.1,fun h=>absurd h he⟩
  ·rw [if_neg hk] at hf hh⊢
   split at hf
   case isFalse=>cases hf
   rename_i hl
   have hul: ∀y∈l,bf y≤(x.length:Int):=fun y hy=>by
    rw [bf,if_neg hk] at hu
    have:=(xQ l 0).2 y hy
    omega
   by_cases h2:k=2
   ·subst h2
    rw [if_pos rfl] at hh⊢
    have h9:=Es hg hx l v [] hv ho hf hh hul
    refine ⟨h9.1,fun he=> ?_⟩
    obtain ⟨ts,e1,e2⟩:=h9.2 he
    rw [lI]
    refine ⟨rfl,rfl,?_⟩
    dsimp only
    rw [if_neg (show¬((2:Int)=1) by decide),if_pos rfl,e1]
    exact e2
   ·rw [if_neg h2] at hh⊢
    have h3:k=3:=by have:=hl.1;omega
    subst h3
    rw [hv]
    have hi:=Er (i:=0) hh
    rw [Int.sub_zero] at hi
    have h9:=yF hg hx l v (eg g l x 0) 0 [] hv ho hf hul (fun _ _=>by rw [Int.sub_zero];exact hi.2.2)
    refine ⟨h9.1,fun he=> ?_⟩
    obtain ⟨ts,e1,e2⟩:=h9.2 he
    rw [lI]
    refine ⟨rfl,rfl,?_⟩
    dsimp only
    rw [if_neg (show¬((3:Int)=1) by decide),if_neg (show¬((3:Int)=2) by decide),e1]
    exact ⟨rfl,hi.1,by have:=hi.2.1;omega,e2⟩
theorem Es {g:ak} (hg:okG g) {x:List Int} (hx: ∀a∈x,0≤a∧a<g.Q): ∀(l:List aa) (v:ar) (m:List aG),v.g=g→okv v→cj (bU g) l=true→nW g l x=true→(∀y∈l,bf y≤(x.length:Int))→
  stp v (eG v l x m).2∧((eG v l x m).2.e=0→ ∃ts,(eG v l x m).1=m++ts∧lJ g x ts l)
 | [],v,m,hv,ho,hf,hh,hu=>by
  rw [eG]
  exact ⟨qE ho,fun _=>⟨[],(List.append_nil _).symm,by rw [lJ]⟩⟩
 | f::l,v,m,hv,ho,hf,hh,hu=>by
  rw [cj] at hf
  split at hf
  case isTrue=>cases hf
  rename_i hf1
  have hf1:co (bU g) f=true:=by simpa using hf1
  rw [nW] at hh
  split at hh
  case isTrue=>cases hh
  rename_i hh1
  have hh1:bR g f x=true:=by simpa using hh1
  rw [eG]
  have h1:=yE hg hx f v hv ho hf1 hh1 (hu f List.mem_cons_self)
  have h2:=Es hg hx l (aL v f x).2 (m++[(aL v f x).1]) (by rw [h1.1.1,hv]) h1.1.2.1 hf hh (fun y hy=>hu y (List.mem_cons_of_mem _ hy))
  refine ⟨lH h1.1 h2.1,fun he=> ?_⟩
  obtain ⟨ts,e1,e2⟩:=h2.2 he
  have h3:=h1.2 (h2.1.2.2 he).1
  refine ⟨(aL v f x).1::ts,by rw [e1,List.append_assoc];rfl,?_⟩
  rw [lJ]
  exact ⟨f,l,rfl,h3,e2⟩
theorem yF {g:ak} (hg:okG g) {x:List Int} (hx: ∀a∈x,0≤a∧a<g.Q): ∀(l:List aa) (v:ar) (j i:Int) (m:List aG),v.g=g→okv v→cj (bU g) l=true→(∀y∈l,bf y≤(x.length:Int))→(i≤j→j<i+(l.length:Int)→bR g (gt l (j - i)) x=true)→
  stp v (eh v l x j i m).2∧((eh v l x j i m).2.e=0→ ∃ts,(eh v l x j i m).1=m++ts∧fU g x ts l j i)
 | [],v,j,i,m,hv,ho,hf,hu,hj=>by
  rw [eh]
  exact ⟨qE ho,fun _=>⟨[],(List.append_nil _).symm,by rw [fU]⟩⟩
 | f::l,v,j,i,m,hv,ho,hf,hu,hj=>by
  rw [cj] at hf
  split at hf
  case isTrue=>cases hf
  rename_i hf1
  have hf1:co (bU g) f=true:=by simpa using hf1
  rw [eh]
  have hj':i+1≤j→j<i+1+(l.length:Int)→bR g (gt l (j - (i+1))) x=true:=fun a b=>by
   have:=hj (by omega) (by rw [List.length_cons];omega)
   obtain ⟨n,hn⟩:=Int.eq_ofNat_of_zero_le (show 0≤j - (i+1) by omega)
   rw [show j - i=((n+1:Nat):Int) by omega] at this
   rw [hn]
   simpa [gt,List.getD_eq_getElem?_getD] using this
  by_cases hi:i=j
  ·rw [if_pos hi]
   have hh1:bR g f x=true:=by
    have:=hj (by omega) (by rw [List.length_cons];omega)
    rw [hi,Int.sub_self] at this;exact this
   have h1:=yE hg hx f v hv ho hf1 hh1 (hu f List.mem_cons_self)
   have h2:=yF hg hx l (aL v f x).2 j (i+1) (m++[(aL v f x).1]) (by rw [h1.1.1,hv]) h1.1.2.1 hf (fun y hy=>hu y (List.mem_cons_of_mem _ hy)) hj'
   refine ⟨lH h1.1 h2.1,fun he=> ?_⟩
   obtain ⟨ts,e1,e2⟩:=h2.2 he
   have h3:=h1.2 (h2.1.2.2 he).1
   refine ⟨(aL v f x).1::ts,by rw [e1,List.append_assoc];rfl,?_⟩
   rw [fU]
   exact ⟨f,l,rfl,fun _=>h3,fun e=>absurd hi e,e2⟩
  ·rw [if_neg hi]
   have hc:=Ei ho (by rw [hv];exact hg)
   have h1:=qG hg f (br v).2 (br v).1 (by rw [hc.1.1,hv]) hc.1.2.1 hf1 (by have:=hc.2;rw [hv] at this;exact this)
   have h2:=yF hg hx l (bn (br v).2 f (br v).1).2 j (i+1) (m++[⟨f,(bn (br v).2 f (br v).1).1,[],[],0,true⟩]) (by rw [h1.1.1,hc.1.1,hv]) h1.1.2.1 hf (fun y hy=>hu y (List.mem_cons_of_mem _ hy)) hj'
   refine ⟨lH hc.1 (lH h1.1 h2.1),fun he=> ?_⟩
   obtain ⟨ts,e1,e2⟩:=h2.2 he
   have h3:=(h2.1.2.2 he).1
   have h4:=hc.2 (h1.1.2.2 h3).1
   rw [hv] at h4
   refine ⟨⟨f,(bn (br v).2 f (br v).1).1,[],[],0,true⟩::ts,by rw [e1,List.append_assoc];rfl,?_⟩
   rw [fU]
   exact ⟨f,l,rfl,fun e=>absurd e hi,fun _=>⟨rfl,rfl,(h1.2.2 h3).2⟩,e2⟩
end
end Go.Proofs.YtgealhhkngbkbaaGreatDoor
namespace Go.Proofs.YtgealhhkngbkbaaGreatDoor
open Go.RowKit
theorem t6 {g:ak} {f:aa} (h:dI g f=true):okG g∧co (bU g) f=true∧gk f=true∧okF f:=by
  refine ⟨?_,?_,?_,DC h⟩<;>
  · unfold dI at h
    rw [aq] at h
    split at h
    case isFalse=>cases h
    rename_i hG
    rw [aq] at h
    split at h
    case isFalse=>cases h
    rename_i hF
    rw [aq] at h
    first
      | exact yt hG
      | exact hF
      | (rw [show bU g=eR g from funext (tV g),xT (EQ:=gi) (fun r hr=>D_ hr) f,Bool.and_eq_true]
         exact ⟨((tX f).1 hF).2.2,h⟩)
theorem OS (a b:List Int):tf a b=jp a b:=rfl
theorem OT {x:List Int} {n:Int} (h0:0≤n) (h1:n≤(x.length:Int)):ol x n=sl x 0 n:=by
  have e:sl x 0 n=x.take n.toNat:=by simp [sl]
  rw [e]
  unfold ol
  refine eP (P:=fun (p:Int×List Int)=>0≤p.1∧p.1≤n∧p.2=x.take p.1.toNat) (Q:=fun r:List Int=>r=x.take n.toNat) (meas:=fun p=>(n - p.1).toNat) ?_ _ _ ⟨Int.le_refl _,h0,by simp⟩ (Nat.lt_succ_self _)
  rintro ag ⟨i,l⟩ ⟨g0,g1,g2⟩ hag
  simp only at g0 g1 g2 hag⊢
  by_cases hi:i<n
  · rw [if_pos (by simpa using hi)]
    refine hag _ ⟨by simp only;omega,by simp only;omega,?_⟩ (by simp only;omega)
    simp only
    obtain ⟨k,rfl⟩:=Int.eq_ofNat_of_zero_le g0
    have hk:k<x.length:=by omega
    rw [show ((k:Int)+1).toNat=k+1 by omega,List.take_succ_eq_append_getElem hk,g2,iF hk]
    rfl
  · rw [if_neg (by simpa using hi),g2,show i=n by omega]
theorem OU {g:ak} {r:aF} (h:qC g r) {y:List Int} (hy: ∀a∈y,0≤a∧a<g.Q):qj g r y=dF g r.Bases y:=by
  rw [yx h hy]
  have hb:=h.2.2.2.1
  unfold qj
  refine eP (P:=fun (p:Int×List Int)=>0≤p.1∧p.1≤(r.Y.length:Int)∧p.2=(r.Bases.take p.1.toNat).map (ct g.P y)) (Q:=fun s:List Int=>s=r.Bases.map (ct g.P y)) (meas:=fun p=>((r.Y.length:Int) - p.1).toNat) ?_ _ _ ⟨Int.le_refl _,by show (0:Int)≤_;omega,by simp⟩ (Nat.lt_succ_self _)
  rintro ag ⟨i,s⟩ ⟨g0,g1,g2⟩ hag
  simp only at g0 g1 g2 hag⊢
  by_cases hi:i<(r.Y.length:Int)
  · rw [if_pos (dT hi),aq]
    obtain ⟨k,rfl⟩:=Int.eq_ofNat_of_zero_le g0
    have hk:k<r.Bases.length:=by omega
    refine hag _ ⟨by simp only;omega,by simp only;omega,?_⟩ (by simp only;omega)
    simp only
    rw [iF hk,Oi h.1 (fun b hb2=>((h.2.2.2.2.2.1 _ (List.getElem_mem hk)).2 b hb2).2) hy,show ((k:Int)+1).toNat=k+1 by omega,List.take_succ_eq_append_getElem hk,List.map_append,g2]
    rfl
  · rw [if_neg (dN hi),g2,show i=(r.Y.length:Int) by omega,List.take_of_length_le (by omega)]
theorem OV {g:ak} {r:aF} (hv:bU g r=true) {y:List Int} (hy: ∀a∈y,0≤a∧a<g.Q):om g r y=lq g r y:=by
  unfold om lq
  simp only [aq]
  rw [←tV,OU (qD hv) hy,lG]
  simp only [OS]
  rfl
mutual
theorem Et {g:ak} {x:List Int} (hx: ∀a∈x,0≤a∧a<g.Q): ∀{f:aa},co (bU g) f=true→okU x.length f→gZ g f x=bR g f x
  | ⟨k,r,l⟩,hf,hu=>by
    rw [co] at hf
    rw [gZ,bR]
    by_cases hk:k=1
    · subst hk
      have h2:=tr hu rfl
      rw [if_pos rfl] at hf
      split at hf
      case isFalse=>cases hf
      have e:dG r=bf ⟨1,r,l⟩:=by rw [bf,if_pos rfl];rfl
      rw [if_pos rfl,if_pos rfl,e,OT h2.1 h2.2]
      exact OV hf (OR hx _)
    · rw [if_neg hk] at hf
      split at hf
      case isFalse=>cases hf
      rename_i hl
      rw [if_neg hk,if_neg hk]
      have hu2:jz x.length l:=by rw [okU,if_neg hk] at hu;exact hu
      have h3:=yG hx hf hu2 false true
      rw [h3]
      by_cases h2:k=2
      · rw [if_pos h2,if_pos h2,xL,Bool.true_and]
      · rw [if_neg h2,if_neg h2,xM,Bool.false_or]
theorem yG {g:ak} {x:List Int} (hx: ∀a∈x,0≤a∧a<g.Q): ∀{l:List aa},cj (bU g) l=true→jz x.length l→ ∀a b:Bool,iE g l x a b=(a||l.any (fun f=>bR g f x),b&&l.all (fun f=>bR g f x))
  | [],_,_,a,b=>by rw [iE,List.any_nil,List.all_nil,Bool.or_false,Bool.and_true]
  | f::l,hf,hu,a,b=>by
    rw [cj] at hf
    split at hf
    case isTrue=>cases hf
    rename_i hf1
    rw [jz] at hu
    rw [iE,Et hx (by simpa using hf1) hu.1,List.any_cons,List.all_cons]
    cases bR g f x with
    | true=>rw [if_pos rfl,yG hx hf hu.2];simp
    | false=>rw [if_neg (by decide),yG hx hf hu.2];simp
end
theorem OW (g:ak) (l:List Int):nT g l=fo g l:=by
  unfold nT fo
  have e:sT l g=l.any (fun x=>nS x g):=g8 (fun x=>nS x g) (fun ag p=>rfl)
  rw [aq,e,mV (l:=l) (fun x=>decide (0≤x∧x<g.Q)) true false (fun ag p=> ?_)]
  · clear e
    induction l with
    | nil=>rfl
    | cons a l ih=>
      rw [List.any_cons,List.all_cons,Bool.not_or,ih]
      unfold nS gU
      rw [aq]
      by_cases c1:0≤a
      · rw [if_pos (by simpa using c1)]
        by_cases c2:a<g.Q
        · rw [show decide (a<g.Q)=true by simpa using c2,show decide (0≤a∧a<g.Q)=true by simp;omega]
          cases l.all (fun x=>decide (0≤x∧x<g.Q))<;>rfl
        · rw [show decide (a<g.Q)=false by simpa using c2,show decide (0≤a∧a<g.Q)=false by simp;omega];rfl
      · rw [if_neg (by simpa using c1),show decide (0≤a∧a<g.Q)=false by simp;omega];rfl
  · congr 1
    simp only [decide_eq_true_eq,decide_eq_false_iff_not]
    by_cases c1:gt l p<0
    · rw [if_pos c1,if_pos (by omega)]
    · rw [if_neg c1]
      by_cases c2:gt l p≥g.Q
      · rw [if_pos c2,if_pos (by omega)]
      · rw [if_neg c2,if_neg (by omega)]
theorem Eu {g:ak} {f:aa} {t:av} (hv:dI g f=true) (h:eU g f t=true):gn g f t=true:=by
  unfold gn
  rw [aq,yy,hv,if_pos rfl,aq,h]
theorem OX {d:bm} (h:gm d=true):0≤d.Counter∧d.Counter≤1099511627776:=by
  unfold gm at h
  split at h
  · rename_i h2
    exact ⟨by simpa using h2,by simpa using h⟩
  · cases h
theorem Ev {g:ak} {d:bm} (h:gm d=true):okv ⟨g,d,0⟩:=⟨fun _=>OX h,.inl rfl⟩
theorem OY {g:ak} {f:aa} {n:Int} {d:bm} (hv:dI g f=true) (hn:0≤n∧n<g.Q):
    (iB g f n d).2.2=1∨(iB g f n d).2.2=5∨((iB g f n d).2.2=0∧(iB g f n d).1.C=n∧gn g f (iB g f n d).1=true∧d.Counter<(iB g f n d).2.1.Counter):=by
  have hsc:gU g n=true:=by
    unfold gU
    rw [if_pos (by simpa using hn.1)];simpa using hn.2
  have hV:=t6 hv
  unfold iB dD
  simp only [aq,yy,hv,hsc,Bool.not_true,Bool.false_eq_true,if_false]
  cases hd:gm d with
  | false=>exact .inl rfl
  | true=>
    have hs:=qG hV.1 f ⟨g,d,0⟩ n rfl (Ev hd) hV.2.1 (fun _=>hn)
    simp only [Bool.not_true,Bool.false_eq_true,if_false]
    rw [if_pos (show ((0:Int)==0)=true from rfl)]
    by_cases he:(bn ⟨g,d,0⟩ f n).2.e=0
    · rw [if_neg (by rw [he];decide)]
      have h2:=hs.2.2 he
      exact .inr (.inr ⟨rfl,hs.2.1,Eu hv h2.2,h2.1⟩)
    · rw [if_pos (by simpa using he)]
      rcases hs.1.2.1.2 with h|h
      · exact absurd h he
      · exact .inr (.inl h)
theorem OZ {label:List UInt8} (h:(jt label).2=0):g7 label=true:=by
  unfold jt at h
  rw [aq,Ow] at h
  cases e:g7 label with
  | true=>rfl
  | false=>rw [e,if_pos (show (!false)=true from rfl)] at h;exact absurd h (show¬((1:Int)=0) by decide)
theorem O0 {g:ak} {f:aa} {x:List Int} (hv:dI g f=true):jx g f x=if (x.length:Int)=bf f∧fo g x=true∧bR g f x=true then true else false:=by
  have hV:=t6 hv
  unfold jx
  rw [aq,hv,if_pos rfl,aq]
  by_cases h1:(x.length:Int)=bf f
  · rw [if_pos (by simpa using h1),aq]
    cases h2:fo g x with
    | false=>rw [if_neg (by decide),if_neg (by rintro ⟨_,h,_⟩;cases h)]
    | true=>
      rw [if_pos rfl,aq,Et (xZ h2) hV.2.1 (da hV.2.2.2 (by omega))]
      cases bR g f x with
      | true=>rw [if_pos ⟨h1,rfl,rfl⟩]
      | false=>rw [if_neg (by rintro ⟨_,_,h⟩;cases h)]
  · rw [if_neg (by simpa using h1),if_neg (fun h=>h1 h.1)]
theorem Ew {f:aa} (hF:gk f=true):lv f=if (di f).length≤8000 then (di f,0) else ([],5):=by
  unfold lv
  rw [aq,Oy hF,if_neg (by decide),aq]
  by_cases c:(di f).length≤8000
  · rw [if_neg (by simp;omega),if_pos c]
  · rw [if_pos (by simp;omega),if_neg c]
theorem O1 {g:ak} {f:aa} {x:List Int} {label:List UInt8} {d:bm} (hv:dI g f=true):
    (fun r:av×bm×Int=>r.2.2=1∨r.2.2=5∨(r.2.2≠0∧jx g f x=false)∨(r.2.2=0∧jx g f x=true∧g7 label=true∧gn g f r.1=true∧oo g f label r.1=true)) (oi g f x label d):=by
  have hV:=t6 hv
  have hR:=O0 (x:=x) hv
  unfold oi go
  simp only [aq,yy,hv,Bool.not_true,Bool.false_eq_true,if_false,OW]
  by_cases h1:(jt label).2=0
  case neg=>rw [if_pos (by simpa using h1)];exact .inl rfl
  rw [if_neg (by rw [h1];decide)]
  cases hd:gm d with
  | false=>exact .inl rfl
  | true=>
  simp only [Bool.not_true,Bool.false_eq_true,if_false]
  by_cases h2:(x.length:Int)=bf f
  case neg=>rw [if_pos (by simpa using h2)];exact .inl rfl
  rw [if_neg (by rw [h2];simp)]
  cases h3:fo g x with
  | false=>exact .inr (.inr (.inl ⟨show (2:Int)≠0 by decide,by rw [hR,if_neg (by rw [h3];rintro ⟨_,h,_⟩;cases h)]⟩))
  | true=>
  simp only [Bool.not_true,Bool.false_eq_true,if_false]
  cases h4:bR g f x with
  | false=>exact .inr (.inr (.inl ⟨show (11:Int)≠0 by decide,by rw [hR,if_neg (by rw [h4];rintro ⟨_,_,h⟩;cases h)]⟩))
  | true=>
  simp only [Bool.not_true,Bool.false_eq_true,if_false]
  rw [Ew hV.2.2.1]
  by_cases h5:(di f).length≤8000
  case neg=>rw [if_neg h5];exact .inr (.inl rfl)
  rw [if_pos h5]
  dsimp only
  rw [if_neg (show¬(((0:Int) !=0)=true) by decide)]
  have hx:=xZ h3
  have hc:=yE hV.1 hx f ⟨g,d,0⟩ rfl (Ev hd) hV.2.1 h4 (by omega)
  by_cases h6:(aL ⟨g,d,0⟩ f x).2.e=0
  case neg=>
    rw [if_pos (by simpa using h6)]
    rcases hc.1.2.1.2 with h|h
    · exact absurd h h6
    · exact .inr (.inl h)
  rw [if_neg (by rw [h6];decide)]
  have ha:=hc.2 h6
  have hch:=OO hV.1 (text:=di f) (label:=label) (l:=dj (aL ⟨g,d,0⟩ f x).1) h1
  by_cases h7:(iC g (di f) label (dj (aL ⟨g,d,0⟩ f x).1)).2=0
  case neg=>
    rw [if_pos (by simpa using h7)]
    rcases hch.1 with h|h|h
    · exact absurd h h7
    · exact .inl h
    · exact .inr (.inl h)
  rw [if_neg (by rw [h7];decide)]
  have hq:=hch.2 h7
  obtain ⟨r1,r2,r3,r4⟩:=yD hV.1 hx (aL ⟨g,d,0⟩ f x).1 f (aL ⟨g,d,0⟩ f x).2 (iC g (di f) label (dj (aL ⟨g,d,0⟩ f x).1)).1 hc.1.1 h6 hV.2.1 ha hq.1 hq.2
  rw [r1,if_neg (by rw [h6];decide)]
  have hck:=Eu hv r3
  refine .inr (.inr (.inr ⟨rfl,by rw [hR,if_pos ⟨h2,h3,h4⟩],OZ h1,hck,?_⟩))
  unfold oo
  simp only [aq]
  rw [hck,if_neg (by decide),Ew hV.2.2.1,if_pos h5]
  dsimp only
  rw [if_neg (show¬(((0:Int) !=0)=true) by decide),r4,h7,if_pos (show ((0:Int)==0)=true from rfl),r2]
  exact beq_self_eq_true _
theorem O2:sZ=true:=by decide+kernel
theorem O3 (g:ak) (f:aa) (x:List Int) (c:Int) (label:List UInt8) (d:bm) {v0 v1 v2 v4 v5:V} (hw:wfL [v0,v1,v2,.int .u32 c,v4,v5]):tg g f x c label d=true:=by
  have hc:0≤c∧c≤4294967295:=hw.2.2.2.1
  unfold tg
  rw [aq,O2,if_neg (by decide),aq]
  split
  · rfl
  split
  · rfl
  split
  · rfl
  rw [aq]
  by_cases hv:dI g f=true
  case neg=>rw [if_pos (by simpa using hv)]
  rw [if_neg (by rw [hv];decide),aq]
  have hV:=t6 hv
  have hn:0≤aO .i64 (al .i64 c) g.Q∧aO .i64 (al .i64 c) g.Q<g.Q:=by
    have h3:=hV.1.1
    rw [nD (by omega) (by omega),gu hc.1]
    exact en (by omega)
  have hs:=OY (d:=d) hv hn
  have hp:=O1 (x:=x) (label:=label) (d:=d) hv
  generalize aO .i64 (al .i64 c) g.Q=n at hs⊢
  generalize iB g f n d=r at hs⊢
  generalize oi g f x label d=q at hp⊢
  have hj:(ab q (fun (x27:(av×bm×Int))=>(if (x27.2.2 !=0)=true then (if (x27.2.2==1)=true then true else (if (x27.2.2==5)=true then true else (ab (jx g f x) (fun (x36:Bool)=>(!x36))))) else (ab (jx g f x) (fun (x42:Bool)=>(if x42=true then (ab (g7 label) (fun (x46:Bool)=>(if x46=true then (ab (gn g f (x27.1)) (fun (x52:Bool)=>(if x52=true then (ab (oo g f label (x27.1)) (fun (x58:Bool)=>x58)) else false))) else false))) else false))))))=true:=by
    simp only [aq]
    rcases hp with h|h|h|h
    · rw [h];rfl
    · rw [h];rfl
    · rw [h.2]
      split
      · split
        · rfl
        · split
          · rfl
          · rfl
      · rename_i h9;exact absurd (by simpa using h9) h.1
    · rw [h.1,h.2.1,h.2.2.1,h.2.2.2.1,h.2.2.2.2];rfl
  unfold dD
  dsimp only
  rcases hs with h|h|h
  · rw [if_neg (by rw [h];decide),if_neg (by rw [h];decide)]
    exact hj
  · rw [if_neg (by rw [h];decide),if_pos (by rw [h];decide),if_neg (by rw [h];decide)]
    exact hj
  · obtain ⟨k1,k2,k3,k4⟩:=h
    rw [if_pos (by rw [k1];rfl),if_neg (by rw [k2];simp),aq,k3,if_neg (by decide),if_neg (by simp;omega)]
    exact hj
end Go.Proofs.YtgealhhkngbkbaaGreatDoor
