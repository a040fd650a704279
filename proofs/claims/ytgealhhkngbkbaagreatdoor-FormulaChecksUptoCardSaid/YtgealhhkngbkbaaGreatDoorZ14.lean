/- Texts of this proof, one after the other: L3, L4, L5, L6, L7. -/
import Derived.Test.YtgealhhkngbkbaaGreatDoorZ13
set_option linter.unusedVariables false
set_option linter.unusedSimpArgs false
namespace Go.Proofs.YtgealhhkngbkbaaGreatDoor
open Go.RowKit
set_option linter.unusedVariables false
set_option linter.unusedSimpArgs false
theorem tA (b:Bool) (r:aH) (l:List aa):(if b=true then (if (decide ((l.length:Int)≥1))=true then (if (decide ((l.length:Int)≤8))=true then (if ((r.Y.length:Int)==0)=true then ((r.Bases.length:Int)==0) else false) else false) else false) else false)=(if b=true∧r.Y.length=0∧r.Bases.length=0∧1≤l.length∧l.length≤8 then true else false):=by
 rw [Bool.eq_iff_iff]
 constructor
 ·intro h
  split at h
  ·split at h
   ·split at h
    ·split at h
     ·rename_i h1 h2 h3 h4
      simp only [decide_eq_true_eq,beq_iff_eq] at h h2 h3 h4
      rw [if_pos ⟨h1,by omega,by omega,by omega,by omega⟩]
     ·cases h
    ·cases h
   ·cases h
  ·cases h
 ·intro h
  split at h
  ·rename_i h1
   rw [if_pos h1.1,if_pos (by simp;omega),if_pos (by simp;omega),if_pos (by simp [h1.2.1])]
   simp [h1.2.2.1]
  ·cases h
theorem N8 (g:ao) (f:aa):di f g=ND (fy g) f:=by
 obtain ⟨k,r,l⟩:=f
 unfold di
 rw [ND]
 by_cases k1:k=1
 ·rw [if_pos (by simpa using k1),if_pos k1]
  by_cases k2:l.length=0
  ·rw [if_pos (by simpa using k2),if_pos k2];rfl
  ·rw [if_neg (by simpa using k2),if_neg k2]
 ·rw [if_neg (by simpa using k1),if_neg k1]
  show (if (k==2)=true then _ else _)=_
  by_cases k2:k=2
  ·rw [if_pos (by simpa using k2)]
   refine (tA true r l).trans ?_
   simp only [k2,true_or,true_and]
  ·rw [if_neg (by simpa using k2)]
   refine (tA (k==3) r l).trans ?_
   by_cases k3:k=3
   ·simp only [k3,or_true,true_and,beq_self_eq_true]
   ·have:(k==3)=false:=by simpa using k3
    rw [this,if_neg (fun h=>by cases h.1),if_neg (fun h=>h.1.elim k2 k3)]
theorem N9 (f:aa):cS f=ND iC f:=by
 obtain ⟨k,r,l⟩:=f
 unfold cS
 rw [ND]
 by_cases k1:k=1
 ·rw [if_pos (by simpa using k1),if_pos k1]
  by_cases k2:l.length=0
  ·rw [if_pos (by simpa using k2),if_pos k2];rfl
  ·rw [if_neg (by simpa using k2),if_neg k2]
 ·rw [if_neg (by simpa using k1),if_neg k1]
  show (if (k==2)=true then _ else _)=_
  by_cases k2:k=2
  ·rw [if_pos (by simpa using k2)]
   refine (tA true r l).trans ?_
   simp only [k2,true_or,true_and]
  ·rw [if_neg (by simpa using k2)]
   refine (tA (k==3) r l).trans ?_
   by_cases k3:k=3
   ·simp only [k3,or_true,true_and,beq_self_eq_true]
   ·have:(k==3)=false:=by simpa using k3
    rw [this,if_neg (fun h=>by cases h.1),if_neg (fun h=>h.1.elim k2 k3)]
theorem N_ {g:ao} {r:aH} (h:eg g r=true):gB r=true:=by
 have hr:=qg h
 have hb:=cg hr
 rw [qf] at h
 split at h
 ·cases h
 ·rename_i hc
  rw [CG,if_neg (fun e=>hc (.inr (by rcases e with e|e|e|e|e<;>simp [e])))]
  rw [nU _ _ _ _ hb.2.2.2.2.2.2] at h⊢
  exact ⟨fun y hy=>tj.2 (by have:=hr.2.2.2.2.1 y hy;unfold okX;omega),fun row hrow=>⟨(h.2 row hrow).1,fun x hx=>tj.2 (by have:=(hr.2.2.2.2.2 row hrow).2 x hx;unfold okX;omega)⟩⟩
theorem xC (f:aa):iF f=true↔(ax f≤30∧dpt f≤6∧fR f=true):=by
 unfold iF
 simp only [az,td,xb]
 by_cases c1:ax f≤30
 ·rw [if_pos (by simp;omega)]
  by_cases c2:dpt f≤6
  ·rw [if_pos (by simp;omega)]
   exact ⟨fun h=>⟨c1,c2,h⟩,fun h=>h.2.2⟩
  ·rw [if_neg (by simp;omega)]
   exact ⟨fun h=>(by cases h),fun h=>absurd h.2.1 c2⟩
 ·rw [if_neg (by simp;omega)]
  exact ⟨fun h=>(by cases h),fun h=>absurd h.1 c1⟩
theorem Oa (g:ao) (f:aa):fP g f=jB g f:=by
 unfold fP jB
 rw [az,az,Dx]
 cases hG:ef g with
 | false=>rfl
 | true=>
  show _=(ab (iF f) (fun (x5:Bool)=>(if x5 then (ab (iG g f) (fun (x9:Bool)=>x9)) else false)))
  show (bS (fun f=>di f g) f 1 30).1=_
  have e1:(fun f=>di f g)=ND (eg g):=by
   funext f
   rw [N8,show fy g=eg g from funext (DD g)]
  rw [e1,Bool.eq_iff_iff]
  have hw:=(te (ND (eg g)) f 1 30 (by decide) (by decide) (by decide) (by decide)).1
  have hs:nS (ND (eg g)) f=(fR f&&iG g f):=by
   rw [xc]
   exact Cm (EQ:=gB) (fun r hr=>N_ hr) f
  rw [hw,hs,Bool.and_eq_true]
  simp only [az]
  constructor
  ·rintro ⟨h1,h2,h3,h4⟩
   rw [if_pos ((xC f).2 ⟨by omega,by omega,h3⟩)];exact h4
  ·intro h
   split at h
   ·rename_i hf
    have:=(xC f).1 hf
    exact ⟨by omega,by omega,this.2.2,h⟩
   ·cases h
theorem DI (g:ao) (f:aa) (t:aG):jA g f t=g8 g f t:=by
 unfold jA g8
 rw [az,az,Oa]
 have:kG g f t=kJ g f t:=Co (fun r p=>N7 g r p) g.Q f t
 rw [az,az,this]
end Go.Proofs.YtgealhhkngbkbaaGreatDoor
namespace Go.Proofs.YtgealhhkngbkbaaGreatDoor
open Go.RowKit
set_option linter.unusedVariables false
set_option linter.unusedSimpArgs false
theorem DJ {t:aV} {label:List UInt8} {more:List aq} (h:fw more 7=true) (hl:more.length≤10):cc (cF t label more) 8=true:=by
 have h2:more.length+2≤1000:=by omega
 simp [cF,cc,fw,h]
 omega
theorem DK (t:aV) (label:List UInt8) (more:List aq):(bB (cF t label more)).length=47+label.length+(cM more).length:=by
 simp [cF,bB,cM,gY,cL,dL]
 omega
theorem Ob {t:aV} {label:List UInt8} {more:List aq} (ht:isB (br 32 t.State)) (hl:label.length≤24) (hm:okL more):okI (cF t label more):=by
 unfold cF
 rw [okI]
 refine ⟨by decide,fun x hx=>(by cases hx),by decide,?_⟩
 show okL (_::_::more)
 rw [okL,okL,okI,okI]
 exact ⟨⟨by decide,ht,by rw [dL];decide,by rw [okL];trivial⟩,⟨by decide,tw _,by rw [cL];omega,by rw [okL];trivial⟩,hm⟩
theorem DL {tag:List UInt8} {t:aV} {label:List UInt8} {more:List aq} (h1:1≤tag.length) (h2:tag.length≤100) (ht:isB (br 32 t.State)) (hl:label.length≤24) (hw:fw more 7=true) (hn:more.length≤10) (hm:okL more) (hb:(cM more).length≤16000):
  mh tag t label more=(eB tag (bB (cF t label more)),0):=by
 have hlen:=DK t label more
 unfold mh
 show ab (jF (cF t label more)) _=_
 have e:jF (cF t label more)=(bB (cF t label more),0):=by
  rw [NW,if_neg (by rw [DJ hw hn];decide),if_neg (by omega)]
 rw [az,e]
 show (if ((0:Int) !=0)=true then _ else _)=_
 rw [if_neg (by decide),az,Dq h1 h2 (DA _ (Ob ht hl hm)) (by show (bB _).length≤_;omega)]
def fD (t:aV):Prop:=isB (br 32 t.State)∧0≤t.Count∧t.Count<1000
def dQ (tag:List UInt8) (t:aV) (label:List UInt8) (i:aq):aV:={State:=eB tag (bB (cF t label [i])),Count:=al .i64 t.Count 1}
def dR:List UInt8:=[115,112,101,99,105,101,47,97,98,115,111,114,98]
theorem DM {t:aV} {label:List UInt8} {i:aq} (ht:fD t) (hv:gD label=true) (hl:label.length≤24) (hw:cc i 7=true) (ho:okI i) (hb:(bB i).length≤16000):mi t label i=(dQ dR t label i,0):=by
 have hV:kL t=true:=by
  unfold kL
  have:=ht.2
  rw [if_pos (by simp;omega)];simp;omega
 unfold mi
 rw [az,hV,if_neg (by decide),az,hv,if_neg (by decide),az,DL (by decide) (by decide) ht.1 hl (by rw [fw,hw];rfl) (Nat.le_of_ble_eq_true rfl) (by rw [okL];exact ⟨ho,by rw [okL];trivial⟩) (by rw [cM,cM,List.append_nil];exact hb)]
 show (if ((0:Int)==1)=true then _ else if ((0:Int) !=0)=true then _ else _)=_
 rw [if_neg (by decide),if_neg (by decide),if_neg (by have:=ht.2;simp;omega)]
 simp only [dQ,dR]
theorem DN {t:aV} {label:List UInt8} {i:aq} (ht:fD t) (hv:dC label=true) (hl:label.length≤24) (hw:cc i 7=true) (ho:okI i) (hb:(bB i).length≤16000):jH t label i=(dQ dR t label i,0):=by
 have hV:kO t=true:=by
  unfold kO
  have:=ht.2
  rw [if_pos (by simp;omega)];simp;omega
 have hlen:=DK t label [i]
 have he:(cM [i]).length≤16000:=by rw [cM,cM,List.append_nil];exact hb
 unfold jH
 rw [az,hV,if_neg (by decide),az,hv,if_neg (by decide),az,az,NU,DJ (by rw [fw,hw];rfl) (Nat.le_of_ble_eq_true rfl),if_neg (by decide),az,if_neg (by have:=ht.2;simp;omega),if_neg (by simp;omega),az]
 simp only [dQ,dR]
theorem nW {tag:List UInt8} {t:aV} {label:List UInt8} {i:aq} (ht:fD t) (hc:t.Count<999):fD (dQ tag t label i)∧(dQ tag t label i).Count=t.Count+1:=by
 have e:al .i64 t.Count 1=t.Count+1:=dq (by have:=ht.2;omega) (by omega)
 have hT:=xv tag (bB (cF t label [i]))
 have hs:(dQ tag t label i).State=eB tag (bB (cF t label [i])):=by simp only [dQ]
 have hc2:(dQ tag t label i).Count=t.Count+1:=by simp only [dQ];exact e
 unfold fD
 refine ⟨⟨by rw [hs,nj hT.1];exact hT.2,by rw [hc2];have:=ht.2;omega⟩,hc2⟩
end Go.Proofs.YtgealhhkngbkbaaGreatDoor
namespace Go.Proofs.YtgealhhkngbkbaaGreatDoor
open Go.RowKit
set_option linter.unusedVariables false
set_option linter.unusedSimpArgs false
theorem xD {α σ τ R:Type} [Inhabited α] {l:List α} (mk:σ→Int→τ) (nx:α→Int→σ→σ) (I:σ→Int→Prop) (E:σ→R) {F:(τ→R)→τ→R} {d:τ→R}
  (hI: ∀s (i:Int),I s i→0≤i→i.toNat<l.length→I (nx (gt l i) i s) (i+1)) (hF: ∀ag s (i:Int),I s i→0≤i→i.toNat<l.length→F ag (mk s i)=ag (mk (nx (gt l i) i s) (i+1))) (hE: ∀ag s,I s (l.length:Int)→F ag (mk s (l.length:Int))=E s) (s:σ) (hs:I s 0):
  ae (((l.length:Int) - 0).toNat+1) F d (mk s 0)=E (eh nx l 0 s)∧I (eh nx l 0 s) (l.length:Int):=by
 have key: ∀(m k:Nat) (s:σ),I s (k:Int)→l.length - k=m→k≤l.length→ ∀fuel,m<fuel→ae fuel F d (mk s (k:Int))=E (eh nx (l.drop k) (k:Int) s)∧I (eh nx (l.drop k) (k:Int) s) (l.length:Int):=by
  intro m
  induction m with
  | zero=>
   intro k s hs e1 e2 fuel hf
   obtain ⟨g,rfl⟩: ∃g,fuel=g+1:=⟨fuel - 1,by omega⟩
   have e:(k:Int)=(l.length:Int):=by omega
   rw [e] at hs⊢
   rw [ae,hE _ _ hs,List.drop_of_length_le (by omega),eh]
   exact ⟨rfl,hs⟩
  | succ m ih=>
   intro k s hs e1 e2 fuel hf
   obtain ⟨g,rfl⟩: ∃g,fuel=g+1:=⟨fuel - 1,by omega⟩
   have hk:k<l.length:=by omega
   have h1:=hI s (k:Int) hs (by omega) (by simpa using hk)
   rw [show ((k:Int)+1)=((k+1:Nat):Int) by omega] at h1
   have:=ih (k+1) _ h1 (by omega) (by omega) g (by omega)
   rw [ae,hF _ _ _ hs (by omega) (by simpa using hk),List.drop_eq_getElem_cons hk,eh,show ((k:Int)+1)=((k+1:Nat):Int) by omega,←g_ hk]
   exact this
 have h5:=key l.length 0 s hs (by omega) (by omega) (((l.length:Int) - 0).toNat+1) (by omega)
 simpa using h5
theorem Oc (s:List UInt8):dC s=if s.length<1∨24<s.length then false else (bK s).all (fun c=>decide (33≤c∧c≤126)):=by
 unfold dC
 by_cases c1:s.length<1
 ·rw [if_pos (by simp;omega),if_pos (.inl c1)]
 rw [if_neg (by simp;omega)]
 by_cases c2:24<s.length
 ·rw [if_pos (by simp;omega),if_pos (.inr c2)]
 rw [if_neg (by simp;omega),if_neg (fun h=>h.elim c1 c2)]
 have e:(s.length:Int)=((bK s).length:Int):=by rw [cL]
 rw [e,qe (l:=bK s) (fun c=>decide (33≤c∧c≤126)) true false (fun ag p=> ?_)]
 ·cases (bK s).all (fun c=>decide (33≤c∧c≤126))<;>rfl
 ·congr 1
  have e2:((s.getD p.toNat 0).toNat:Int)=gt (bK s) p:=by
   unfold bK gt
   simp only [List.getD_eq_getElem?_getD,List.getElem?_map]
   cases s[p.toNat]? <;>rfl
  rw [e2]
  simp only [decide_eq_true_eq,decide_eq_false_iff_not]
  by_cases h1:gt (bK s) p<33
  ·rw [if_pos h1,if_pos (by omega)]
  ·rw [if_neg h1]
   by_cases h2:gt (bK s) p>126
   ·rw [if_pos h2,if_pos (by omega)]
   ·rw [if_neg h2,if_neg (by omega)]
theorem DO (s:List UInt8):gD s=dC s:=by
 rw [Oc]
 unfold gD
 by_cases c1:s.length<1
 ·rw [if_neg (by simp;omega),if_pos (.inl c1)]
 rw [if_pos (by simp;omega)]
 by_cases c2:24<s.length
 ·rw [if_neg (by simp;omega),if_pos (.inr c2)]
 rw [if_pos (by simp;omega),if_neg (fun h=>h.elim c1 c2),az]
 have e:sJ (bK s)=(bK s).any nG:=hJ nG (fun ag p=>rfl)
 rw [e]
 generalize bK s=l
 clear e
 induction l with
 | nil=>rfl
 | cons a l ih=>
  rw [List.any_cons,List.all_cons,Bool.not_or,ih]
  congr 1
  unfold nG
  by_cases h1:a<33
  ·rw [if_pos (by simpa using h1)];simp;omega
  ·rw [if_neg (by simpa using h1)]
   by_cases h2:a>126
   ·first|(simp [h2];done)|(simp [h2];omega)
   ·first|(simp [h2];done)|(simp [h2];omega)
def cK (l:List Int):aq:=⟨3,0,[],l.map (fun n=>⟨1,n,[],[]⟩)⟩
theorem DP (l:List Int):iI l=cK l:=by
 unfold iI cK
 refine (fC (l:=l) (fun (s:List aq) i=>(i,s)) (fun l _ s=>(⟨3,0,[],s++l.map (fun n=>⟨1,n,[],[]⟩)⟩:aq)) (fun a _ s K=>K (s++[⟨1,a,[],[]⟩])) (fun a l i s _=> ?_) (fun ag s i h=> ?_) (fun ag s i h=> ?_) []).trans ?_
 ·simp
 ·simp only [if_pos (dT h)]
 ·simp only [if_neg (dN h),List.map_nil,List.append_nil]
 ·rfl
theorem DQ: ∀l:List Int,fw (l.map (fun n=>(⟨1,n,[],[]⟩:aq))) 6=true
 | []=>rfl
 | a::l=>by rw [List.map_cons,fw,DQ l];rfl
theorem DR: ∀{l:List Int},(∀x∈l, -9223372036854775808≤x∧x≤9223372036854775807)→okL (l.map (fun n=>(⟨1,n,[],[]⟩:aq)))
 | [],_=>by rw [List.map_nil,okL];trivial
 | a::l,h=>by
  rw [List.map_cons,okL,okI]
  exact ⟨⟨h a List.mem_cons_self,fun x hx=>(by cases hx),by decide,by rw [okL];trivial⟩,DR fun x hx=>h x (List.mem_cons_of_mem _ hx)⟩
theorem DS: ∀l:List Int,(cM (l.map (fun n=>(⟨1,n,[],[]⟩:aq)))).length=9*l.length
 | []=>rfl
 | a::l=>by
  rw [List.map_cons,cM,List.length_append,DS l,bB,List.length_cons]
  simp only [List.length_cons,gY,beq_self_eq_true,if_true]
  omega
theorem tB {l:List Int} (hl:l.length≤8) (h: ∀x∈l, -9223372036854775808≤x∧x≤9223372036854775807):cc (cK l) 7=true∧okI (cK l)∧(bB (cK l)).length≤16000:=by
 refine ⟨?_,?_,?_⟩
 ·unfold cK
  have:=DQ l
  simp [cc,this];omega
 ·unfold cK
  rw [okI]
  exact ⟨by decide,fun x hx=>(by cases hx),by decide,DR h⟩
 ·have:=DS l
  unfold cK
  simp [bB,gY,this];omega
theorem DT {s:List UInt8} (hl:s.length≤8000):cc ⟨2,0,bK s,[]⟩ 7=true∧okI ⟨2,0,bK s,[]⟩∧(bB ⟨2,0,bK s,[]⟩).length≤16000:=by
 refine ⟨by simp [cc],?_,?_⟩
 ·rw [okI];exact ⟨by decide,tw _,by rw [cL];omega,by rw [okL];trivial⟩
 ·simp [bB,gY,cL];omega
theorem xE {t:aV} {name:List UInt8} {i:aq} (ht:fD t) (hv:gD name=true) (hl:name.length≤24) (hw:cc i 7=true∧okI i∧(bB i).length≤16000):bH name i 0 t=(0,dQ dR t name i):=by
 unfold bH
 rw [if_pos (show ((0:Int)==0)=true from rfl),az,DM ht hv hl hw.1 hw.2.1 hw.2.2]
end Go.Proofs.YtgealhhkngbkbaaGreatDoor
namespace Go.Proofs.YtgealhhkngbkbaaGreatDoor
open Go.RowKit
set_option linter.unusedVariables false
set_option linter.unusedSimpArgs false
theorem gtB {l:List Int} (h:isB l) (i:Int):0≤gt l i∧gt l i≤255:=by
 by_cases hi:i.toNat<l.length
 ·exact h _ (aI hi)
 ·have:gt l i=0:=by simp [gt,List.getD_eq_getElem?_getD,List.getElem?_eq_none (Nat.not_lt.1 hi)]
  rw [this];decide
theorem xF {label:List UInt8} (hv:dC label=true):mf label=(ff label,0)∧fD (ff label)∧(ff label).Count=0:=by
 have hl:=(Lu label).1 hv
 have hT:=xv [115,112,101,99,105,101,47,116,114,97,110,115,99,114,105,112,116] (bK label)
 refine ⟨?_,?_,?_⟩
 ·unfold mf ff
  rw [az,DO,hv,if_neg (by decide),az,az,Dq (by decide) (by decide) (tw _) (by rw [cL];omega)]
 ·unfold fD ff
  rw [az]
  dsimp only
  rw [nj hT.1]
  exact ⟨hT.2,by decide,by decide⟩
 ·unfold ff
  rw [az]
def mx:List UInt8:=[115,112,101,99,105,101,47,99,104,97,108,108,101,110,103,101]
def chN:List UInt8:=[99,104,97,108,108,101,110,103,101]
def fV (s:aV) (q:Int):Int:=kR (eB mx (bB (cF s chN []))) q
theorem xG {c:Int} (h: -9223372036854775808≤c∧c≤9223372036854775807):cc ⟨1,c,[],[]⟩ 7=true∧okI ⟨1,c,[],[]⟩∧(bB ⟨1,c,[],[]⟩).length≤16000:=by
 refine ⟨rfl,?_,?_⟩
 ·rw [okI];exact ⟨h,fun x hx=>(by cases hx),by decide,by rw [okL];trivial⟩
 ·simp [bB,gY]
theorem Od {s:aV} {q:Int} (hs:fD s) (hq:2≤q) (hq1:q<2305843009213693952):(pM s chN q).2=(fV s q,0):=by
 have hV:kL s=true:=by
  unfold kL
  have:=hs.2
  rw [if_pos (by simp;omega)];simp;omega
 have hv:gD chN=true:=by decide+kernel
 have hh:=DL (tag:=mx) (label:=chN) (more:=[]) (by decide) (by decide) hs.1 (by decide) rfl (by decide) (by rw [okL];trivial) (by rw [cM];decide)
 have hT:=xv mx (bB (cF s chN []))
 have hN:=NT (h:=eB mx (bB (cF s chN []))) (m:=q) (by omega) hq1 (gtB hT.2)
 have hr:=NX (x:=fV s q) (h:=eB mx (bB (cF s chN []))) (m:=q) rfl (by omega) hq1
 have hA:=DM (label:=chN) hs hv (by decide) (xG (c:=fV s q) (by omega)).1 (xG (c:=fV s q) (by omega)).2.1 (xG (c:=fV s q) (by omega)).2.2
 unfold pM
 rw [az,hV,if_neg (by decide),az,hv,if_neg (by decide),if_neg (by simp;omega),if_neg (by simp;omega),if_neg (by have:=hs.2;simp;omega),az]
 rw [show mh [115,112,101,99,105,101,47,99,104,97,108,108,101,110,103,101] s chN []=_ from hh]
 show (if ((0:Int) !=0)=true then _ else _:aV×Int×Int).2=_
 rw [if_neg (by decide),az]
 rw [show nM (eB mx (bB (cF s chN []))) q=(fV s q,0) from hN]
 show (if ((0:Int) !=0)=true then _ else _:aV×Int×Int).2=_
 rw [if_neg (by decide),az]
 rw [show mi s chN ⟨1,fV s q,[],[]⟩=_ from hA]
 show (if ((0:Int) !=0)=true then _ else _:aV×Int×Int).2=_
 rw [if_neg (by decide)]
theorem Oe {s:aV} {q:Int} (hs:fD s) (hq:2≤q) (hq1:q<2305843009213693952):(pU s chN q).2.1=fV s q:=by
 have hV:kO s=true:=by
  unfold kO
  have:=hs.2
  rw [if_pos (by simp;omega)];simp;omega
 have hv:dC chN=true:=by decide+kernel
 unfold pU
 rw [az,hV,if_neg (by decide),az,hv,if_neg (by decide),if_neg (by simp;omega),if_neg (by simp;omega),if_neg (by have:=hs.2;simp;omega),az,az,az,az,az]
 simp only [fV,mx]
def gnN:List UInt8:=[103,114,111,117,112]
def fnN:List UInt8:=[102,111,114,109,117,108,97]
def cnN:List UInt8:=[99,111,109,109,105,116]
def nX (g:ao) (text label:List UInt8):aV:=dQ dR (dQ dR (ff label) gnN (cK [g.P,g.Q,g.G])) fnN ⟨2,0,bK text,[]⟩
def DU (g:ao) (text label:List UInt8) (l:List (List Int)):aV:=eh (fun x _ s=>dQ dR s cnN (cK x)) l 0 (nX g text label)
def okC (l:List (List Int)):Prop:=l.length≤30∧ ∀x∈l,x.length≤8∧ ∀a∈x, -9223372036854775808≤a∧a≤9223372036854775807
theorem DV {g:ao} {text label:List UInt8} (hl:dC label=true):fD (nX g text label)∧(nX g text label).Count=2:=by
 obtain ⟨_,h2,h3⟩:=xF hl
 have h4:=nW (tag:=dR) (label:=gnN) (i:=cK [g.P,g.Q,g.G]) h2 (by omega)
 have h5:=nW (tag:=dR) (label:=fnN) (i:=⟨2,0,bK text,[]⟩) h4.1 (by omega)
 exact ⟨h5.1,by unfold nX;omega⟩
theorem Of {g:ao} {text label:List UInt8} {l:List (List Int)} (hl:dC label=true) (hx:text.length≤8000) (hg:okG g) (hC:okC l):mj g text label l=(fV (DU g text label l) g.Q,0):=by
 obtain ⟨h1,h2,h3⟩:=xF hl
 obtain ⟨g1,g2,g3,g4,g5,g6⟩:=hg
 have hnum:=tB (l:=[g.P,g.Q,g.G]) (Nat.le_of_ble_eq_true rfl) (fun x hx=>by simp only [List.mem_cons,List.not_mem_nil,or_false] at hx;rcases hx with rfl|rfl|rfl<;>omega)
 have hp:=DV (g:=g) (text:=text) hl
 have h4:=nW (tag:=dR) (label:=gnN) (i:=cK [g.P,g.Q,g.G]) h2 (by omega)
 unfold mj
 rw [az,h1,az,DP]
 rw [show bH [103,114,111,117,112] (cK [g.P,g.Q,g.G]) ((ff label,(0:Int)).2) ((ff label,(0:Int)).1)=_ from xE (name:=gnN) h2 (by decide+kernel) (by decide) hnum,az]
 rw [show bH [102,111,114,109,117,108,97] (⟨2,0,bK text,[]⟩:aq) (0:Int) (dQ dR (ff label) gnN (cK [g.P,g.Q,g.G]))=_ from xE (name:=fnN) h4.1 (by decide+kernel) (by decide) (DT hx),az]
 refine ((xD (l:=l) (fun s i=>(i,s,(0:Int))) (fun x _ s=>dQ dR s cnN (cK x)) (fun s i=>fD s∧s.Count=2+i) (fun s=>(fV s g.Q,(0:Int))) (fun s i hs h0 hi=> ?_) (fun ag s i hs h0 hi=> ?_) (fun ag s hs=> ?_) (nX g text label) ⟨hp.1,by rw [hp.2];rfl⟩).1).trans rfl
 ·have:=nW (tag:=dR) (label:=cnN) (i:=cK (gt l i)) hs.1 (by have:=hC.1;omega)
  exact ⟨this.1,by rw [this.2];omega⟩
 ·have hr:=hC.2 _ (aI hi)
  dsimp only
  rw [if_pos (dT (by omega)),az,DP]
  rw [show bH [99,111,109,109,105,116] (cK (gt l i)) (0:Int) s=_ from xE (name:=cnN) hs.1 (by decide+kernel) (by decide) (tB hr.1 hr.2),az]
 ·dsimp only
  rw [if_neg (by simp),if_neg (by decide),az]
  have:=Od hs.1 (q:=g.Q) (by omega) (by omega)
  exact this
theorem Og {g:ao} {f:aa} {label:List UInt8} {t:aG} (hl:dC label=true) (hx:(cj f).length≤8000) (hg:okG g) (hC:okC (b9 f t)):pV g f label t=fV (DU g (cj f) label (b9 f t)) g.Q:=by
 obtain ⟨h1,h2,h3⟩:=xF hl
 obtain ⟨g1,g2,g3,g4,g5,g6⟩:=hg
 have hnum:=tB (l:=[g.P,g.Q,g.G]) (Nat.le_of_ble_eq_true rfl) (fun x hx=>by simp only [List.mem_cons,List.not_mem_nil,or_false] at hx;rcases hx with rfl|rfl|rfl<;>omega)
 have hp:=DV (g:=g) (text:=cj f) hl
 have h4:=nW (tag:=dR) (label:=gnN) (i:=cK [g.P,g.Q,g.G]) h2 (by omega)
 have hI: ∀(s:aV) (name:List UInt8) (l:List Int),fD s→dC name=true→name.length≤24→(cc (cK l) 7=true∧okI (cK l)∧(bB (cK l)).length≤16000)→kQ s name l=(dQ dR s name (cK l),0):=by
  intro s name l hs hv hn hw
  unfold kQ
  rw [az,CR,az,show jH s name ⟨3,0,[],l.map (fun n=>⟨1,n,[],[]⟩)⟩=_ from DN (i:=cK l) hs hv hn hw.1 hw.2.1 hw.2.2]
 have ht:=DT hx
 unfold pV
 rw [az,show kQ (ff label) [103,114,111,117,112] [g.P,g.Q,g.G]=_ from hI _ gnN _ h2 (by decide+kernel) (by decide) hnum,az,az]
 rw [show jH (dQ dR (ff label) gnN (cK [g.P,g.Q,g.G])) [102,111,114,109,117,108,97] (⟨2,0,bK (cj f),[]⟩:aq)=_ from DN (label:=fnN) h4.1 (by decide+kernel) (by decide) ht.1 ht.2.1 ht.2.2,az,az]
 refine ((xD (l:=b9 f t) (fun s i=>(i,s)) (fun x _ s=>dQ dR s cnN (cK x)) (fun s i=>fD s∧s.Count=2+i) (fun s=>fV s g.Q) (fun s i hs h0 hi=> ?_) (fun ag s i hs h0 hi=> ?_) (fun ag s hs=> ?_) (nX g (cj f) label) ⟨hp.1,by rw [hp.2];rfl⟩).1).trans rfl
 ·have:=nW (tag:=dR) (label:=cnN) (i:=cK (gt (b9 f t) i)) hs.1 (by have:=hC.1;omega)
  exact ⟨this.1,by rw [this.2];omega⟩
 ·have hr:=hC.2 _ (aI hi)
  dsimp only
  rw [if_pos (dT (by omega)),show kQ s [99,111,109,109,105,116] (gt (b9 f t) i)=_ from hI _ cnN _ hs.1 (by decide+kernel) (by decide) (tB hr.1 hr.2),az]
 ·dsimp only
  rw [if_neg (by simp),az]
  exact Oe hs.1 (q:=g.Q) (by omega) (by omega)
end Go.Proofs.YtgealhhkngbkbaaGreatDoor
namespace Go.Proofs.YtgealhhkngbkbaaGreatDoor
open Go.RowKit
set_option linter.unusedVariables false
set_option linter.unusedSimpArgs false
theorem DW {l:List Int} (h: ∀x∈l,okX x):jv l=true:=by
 unfold jv
 rw [az]
 have e:pj l=l.any gZ:=hJ gZ (fun ag p=>rfl)
 rw [e]
 have:l.any gZ=false:=by
  rw [List.any_eq_false]
  intro x hx
  have:=h x hx
  unfold okX at this
  unfold gZ
  rw [if_neg (by simp;omega)]
  simp;omega
 rw [this];rfl
theorem Oh {r:aH} (h:okA r):iC r=true:=by
 obtain ⟨h1,h2,h3,h4,n,h5,h6,h7⟩:=h
 have h0:(gt r.Bases 0).length=n:=(h7 _ (aI (l:=r.Bases) (i:=0) (by show (0:Nat)<_;omega))).1
 unfold iC
 simp only [az]
 rw [if_neg (by simp;omega),if_neg (by simp;omega),if_neg (by simp;omega),DW h4,if_neg (by decide),if_pos (by simp;omega),if_pos (by simp;omega)]
 have e:pk r.Bases ((gt r.Bases 0).length:Int)=r.Bases.any (fun row=>g7 row ((gt r.Bases 0).length:Int)):=hJ (fun row=>g7 row ((gt r.Bases 0).length:Int)) (fun ag p=>rfl)
 rw [e]
 have:r.Bases.any (fun row=>g7 row ((gt r.Bases 0).length:Int))=false:=by
  rw [List.any_eq_false]
  intro row hr
  have:=h7 row hr
  unfold g7
  rw [if_neg (by simp;omega),az,DW this.2]
  decide
 rw [this];rfl
mutual
theorem DX {E1 E2:aH→Bool} (h: ∀r,E1 r=true→E2 r=true): ∀{f:aa},eP E1 f=true→eP E2 f=true
 | ⟨k,r,l⟩,hf=>by
  rw [eP] at hf⊢
  by_cases k1:k=1
  ·rw [if_pos k1] at hf⊢
   split at hf
   ·rename_i k2
    rw [if_pos k2];exact h r hf
   ·cases hf
  ·rw [if_neg k1] at hf⊢
   split at hf
   ·rename_i k2
    rw [if_pos k2];exact DY h hf
   ·cases hf
theorem DY {E1 E2:aH→Bool} (h: ∀r,E1 r=true→E2 r=true): ∀{l:List aa},dP E1 l=true→dP E2 l=true
 | [],_=>rfl
 | f::l,hf=>by
  rw [dP] at hf⊢
  split at hf
  ·cases hf
  ·rename_i k1
   rw [if_neg (by rw [DX h (by simpa using k1)];decide)]
   exact DY h hf
end
theorem Oi {f:aa} (h:iF f=true):iD f=true:=by
 have h1:=(xC f).1 h
 rw [BP]
 have e:cS=ND iC:=funext N9
 rw [e,(te (ND iC) f 1 30 (by decide) (by decide) (by decide) (by decide)).1,xc]
 exact ⟨by omega,by omega,DX (fun r hr=>Oh (CH hr)) h1.2.2⟩
mutual
theorem DZ {C:aH→cu→Bool} {Pz:List Int→Prop} (hC: ∀r p,C r p=true→Pz p.A) {q:Int}: ∀{f:aa} {t:aG},eN C q f t=true→ ∀x∈b9 f t,Pz x
 | ⟨k,r,l⟩,t,h=>by
  rw [eN] at h
  rw [b9]
  split at h
  ·cases h
  ·split at h
   ·rename_i k1
    rw [if_pos k1]
    split at h
    ·intro x hx
     simp only [List.mem_cons,List.not_mem_nil,or_false] at hx
     rw [hx];exact hC _ _ h
    ·cases h
   ·rename_i k1
    rw [if_neg k1]
    split at h
    ·exact D0 hC h
    ·cases h
theorem D0 {C:aH→cu→Bool} {Pz:List Int→Prop} (hC: ∀r p,C r p=true→Pz p.A) {q k c:Int}: ∀{l:List aa} {m:List aG} {s:Int},eO C q k c l m s=true→ ∀x∈fd l m,Pz x
 | [],_,_,_=>by intro x hx;rw [fd] at hx;cases hx
 | f::l,m,s,h=>by
  rw [eO] at h
  rw [fd]
  split at h
  ·cases h
  ·rename_i k1
   split at h
   ·cases h
   ·intro x hx
    rcases List.mem_append.1 hx with hx|hx
    ·exact DZ hC (by simpa using k1) x hx
    ·exact D0 hC h x hx
end
theorem D1 {c:Int→Bool}: ∀{l:List Int} {i:Int},chk c l i=true→ ∀j:Int,i≤j→j<i+l.length→c j=true
 | [],i,_,j,h1,h2=>by simp at h2;omega
 | a::l,i,h,j,h1,h2=>by
  rw [chk] at h
  split at h
  ·rename_i hc
   by_cases e:j=i
   ·rw [e];exact hc
   ·exact D1 h j (by omega) (by simp at h2;omega)
  ·cases h
theorem Oj {g:ao} {r:aH} {p:cu} (h:iH g r p=true):p.A.length≤8∧ ∀a∈p.A, -9223372036854775808≤a∧a≤9223372036854775807:=by
 have h8:=CO h
 unfold iH at h
 simp only [az] at h
 split at h
 ·cases h
 rename_i h0
 have hb:=cg (qg (by simpa using h0))
 split at h
 ·cases h
 rename_i h1
 have h1':p.A.length=r.Y.length:=by simp only [bne_iff_ne,ne_eq,Decidable.not_not] at h1;omega
 split at h
 ·cases h
 split at h
 ·cases h
 split at h
 ·cases h
 rw [xB (l:=r.Y) (fun i=>cv g (gt p.A i)&&(l8 g (gt r.Bases i) p.Z==dt (gt p.A i) (dj (gt r.Y i) p.C g.P) g.P)) (fun ag i h0 h=> ?_) (fun ag i h=> ?_)] at h
 ·refine ⟨h8,fun a ha=> ?_⟩
  obtain ⟨i,hi,rfl⟩:=List.getElem_of_mem ha
  have:=D1 h (i:Int) (by omega) (by omega)
  rw [Bool.and_eq_true] at this
  have hm:=(wV g (gt p.A (i:Int))).1 this.1
  rw [g_ hi] at hm
  omega
 ·rw [if_pos (dT h)]
  cases cv g (gt p.A i) with
  | false=>rfl
  | true=>
   rw [if_neg (by decide),Bool.true_and]
   by_cases e:l8 g (gt r.Bases i) p.Z=dt (gt p.A i) (dj (gt r.Y i) p.C g.P) g.P
   ·rw [if_neg (by simpa using e),if_pos (by simpa using e)]
   ·rw [if_pos (by simpa using e),if_neg (by simpa using e)]
 ·rw [if_neg (dN h)]
theorem xH (name:List UInt8) (i:aq) (t:aV):bH name i 1 t=(1,t):=by
 unfold bH
 rw [if_neg (by decide)]
theorem Ok {g:ao} {text label:List UInt8} {l:List (List Int)} (hv:dC label=false):mj g text label l=(0,1):=by
 have hN:mf label=(cr,1):=by
  unfold mf
  rw [az,DO,hv,if_pos (by rfl)]
 unfold mj
 rw [az,hN,az]
 dsimp only
 rw [xH,az]
 dsimp only
 rw [xH,az]
 refine (xD (l:=l) (fun (s:aV) i=>(i,s,(1:Int))) (fun _ _ s=>s) (fun _ _=>True) (fun _=>((0:Int),(1:Int))) (fun s i hs h0 hi=>trivial) (fun ag s i hs h0 hi=> ?_) (fun ag s hs=> ?_) cr trivial).1
 ·dsimp only
  rw [if_pos (dT (by omega)),az,xH,az]
 ·dsimp only
  rw [if_neg (by simp),if_pos (by decide)]
theorem Ol (g:ao) (f:aa) (label:List UInt8) (t:aG):pN g f label t=pW g f label t:=by
 unfold pN pW
 simp only [az]
 rw [DI]
 cases hc:g8 g f t with
 | false=>rfl
 | true=>
  rw [if_neg (show¬((!true)=true) by decide),if_pos (show true=true from rfl)]
  have hok:=CP hc
  unfold g8 at hc
  rw [az] at hc
  split at hc
  case isFalse=>cases hc
  rename_i hv
  rw [az] at hc
  unfold jB at hv
  rw [az] at hv
  split at hv
  case isFalse=>cases hv
  rename_i hG
  rw [az] at hv
  split at hv
  case isFalse=>cases hv
  rename_i hF
  have hT:cj f=cN f:=tg hok.2.1
  have hform:=Oi hF
  have hC:okC (b9 f t):=⟨by have:=(tf hok.2.2.2).1;have:=hok.2.2.1;omega,fun x hx=>DZ (Pz:=fun l=>l.length≤8∧ ∀a∈l, -9223372036854775808≤a∧a≤9223372036854775807) (fun r p hp=>Oj hp) hc x hx⟩
  have hX:l_ f=if (cN f).length≤8000 then (cN f,0) else ([],5):=by
   unfold l_
   rw [az,hform,if_neg (by decide),az]
   by_cases c:(cN f).length≤8000
   ·rw [if_neg (by simp;omega),if_pos c]
   ·rw [if_pos (by simp;omega),if_neg c]
  rw [hX,hT]
  by_cases c:(cN f).length≤8000
  ·rw [if_pos c]
   dsimp only
   rw [if_neg (show¬(((0:Int) !=0)=true) by decide)]
   cases hL:dC label with
   | true=>
    rw [if_pos (show true=true from rfl),if_pos (show decide (((cN f).length:Int)≤8000)=true by simp;omega)]
    rw [Of hL c (tz hG) hC,Og hL (by rw [hT];exact c) (tz hG) hC,hT]
    dsimp only
    rw [if_pos (show ((0:Int)==0)=true from rfl)]
    exact Bool.eq_iff_iff.2 (by simp only [beq_iff_eq];exact ⟨fun h=>h.symm,fun h=>h.symm⟩)
   | false=>
    rw [if_neg (show¬(false=true) by decide),Ok hL]
    rfl
  ·rw [if_neg c]
   dsimp only
   rw [if_pos (show ((5:Int) !=0)=true by decide)]
   cases dC label with
   | true=>rw [if_pos (show true=true from rfl),if_neg (show¬(decide (((cN f).length:Int)≤8000)=true) by simp;omega)]
   | false=>rfl
theorem Om:sF=true:=by decide+kernel
theorem On (g:ao) (f:aa) (label:List UInt8) (t:aG):sO g f label t=true:=by
 unfold sO
 rw [az,Om,if_neg (by decide),az]
 by_cases c1:sI f [t]=true
 case neg=>rw [if_pos (by simpa using c1)]
 rw [if_neg (by simpa using c1)]
 by_cases c2:(label.length:Int)>60
 ·rw [if_pos (by simpa using c2)]
 rw [if_neg (by simpa using c2),az,az,DI,if_pos (by simp),az,az,Ol]
 simp
end Go.Proofs.YtgealhhkngbkbaaGreatDoor
