/- Texts of this proof, one after the other: VI, VJ, VK, VT, VA, T, L0, R0, R1. -/
import Derived.Test.YtgealhhkngbkbaaGreatDoorZ4
set_option linter.unusedSimpArgs false
set_option linter.unusedVariables false
namespace Go.Proofs.YtgealhhkngbkbaaGreatDoor
open Go.RowKit
section
variable {E:Env} {J:cM} {k:List Ct} {S S1:St} {c0 c:Cx} {ρ:Ro} {F:Fm}
mutual
def ren (s:Nat→Nat):V→V
 | .own i=> .own (s i)
 | .ptr i o=> .ptr (s i) o
 | .optr i m k o=> .optr (s i) m k o
 | .osub i m k o=> .osub (s i) m k o
 | .agg l=> .agg (ka s l)
 | .tup l=> .tup (ka s l)
 | .fn f l=> .fn f (ka s l)
 | v=>v
def ka (s:Nat→Nat):List V→List V
 | []=> []
 | d::l=>ren s d::ka s l
end
mutual
theorem sE {ρ':Ro} {s:Nat→Nat} (k: ∀i v,ρ i=some v→ρ' (s i)=some v): ∀{d:V} {v:Value},rd ρ c d v→rd ρ' c (ren s d) v
 | .int _ _,_,h=>h
 | .bool _,_,h=>h
 | .ifc _,_,h=>h
 | .str _,_,h=>h
 | .agg l,v,h=>by
  simp only [rd,ren] at h⊢
  obtain ⟨cs,e,h⟩:=h
  exact ⟨cs,e,Bf k h⟩
 | .sl z n g l,v,h=>h
 | .pp n g d,v,h=>h
 | .own _,_,h=>⟨k _ _ h.1,h.2⟩
 | .ptr _ _,_,h=>by
  simp only [rd,ren] at h⊢
  obtain ⟨b,h1,h2⟩:=h
  exact ⟨b,k _ _ h1,h2⟩
 | .optr _ _ _ _,_,h=>by
  simp only [rd,ren] at h⊢
  obtain ⟨u,h1,h2⟩:=h
  exact ⟨u,k _ _ h1,h2⟩
 | .osub _ _ _ _,_,h=>by
  simp only [rd,ren] at h⊢
  obtain ⟨u,h1,h2⟩:=h
  exact ⟨u,k _ _ h1,h2⟩
 | .tup l,v,h=>by
  simp only [rd,ren] at h⊢
  obtain ⟨cs,e,h⟩:=h
  exact ⟨cs,e,wG k h⟩
 | .fn f l,v,h=>by
  simp only [rd,ren] at h⊢
  obtain ⟨cs,e,h⟩:=h
  exact ⟨cs,e,wG k h⟩
 | .opq p,v,h=>h
 | .un,_,_=>trivial
theorem Bf {ρ':Ro} {s:Nat→Nat} (k: ∀i v,ρ i=some v→ρ' (s i)=some v): ∀{l:List V} {cs:List Value},rdC ρ c l cs→rdC ρ' c (ka s l) cs
 | [],_,h=>h
 | d::l,cs,h=>by
  simp only [rdC,ka] at h⊢
  obtain ⟨u,c2,e,h1,h2,h3⟩:=h
  exact ⟨u,c2,e,h1,sE k h2,Bf k h3⟩
theorem wG {ρ':Ro} {s:Nat→Nat} (k: ∀i v,ρ i=some v→ρ' (s i)=some v): ∀{l:List V} {cs:List Value},rdT ρ c l cs→rdT ρ' c (ka s l) cs
 | [],_,h=>h
 | d::l,cs,h=>by
  simp only [rdT,ka] at h⊢
  obtain ⟨u,c2,e,h2,h3⟩:=h
  exact ⟨u,c2,e,sE k h2,wG k h3⟩
end
def jf (s:Nat→Nat):Blk→Blk
 | .var n g d=> .var n g (ren s d)
 | b=>b
def fP (s:Nat→Nat):List Blk→List Blk
 | []=> []
 | b::l=>jf s b::fP s l
theorem wH {s:Nat→Nat}: ∀{l:List Blk} {j:Nat},(fP s l)[j]? =(l[j]?).map (jf s)
 | [],j=>by simp [fP]
 | b::l,0=>by simp [fP]
 | b::l,j+1=>by simp [fP,wH (l:=l)]
mutual
def prV (p:Nat→Bool):V→V
 | .own i=>bif p i then .un else .own i
 | .ptr i o=>bif p i then .un else .ptr i o
 | .optr i n k o=>bif p i then .un else .optr i n k o
 | .osub i n k o=>bif p i then .un else .osub i n k o
 | .agg l=> .agg (prL p l)
 | .tup l=> .tup (prL p l)
 | .fn f l=> .fn f (prL p l)
 | v=>v
def prL (p:Nat→Bool):List V→List V
 | []=> []
 | d::l=>prV p d::prL p l
end
mutual
theorem nE {ρ':Ro} {p:Nat→Bool} (k: ∀i v,p i=false→ρ i=some v→ρ' i=some v): ∀{d:V} {v:Value},rd ρ c d v→rd ρ' c (prV p d) v
 | .int _ _,_,h=>h
 | .bool _,_,h=>h
 | .ifc _,_,h=>h
 | .str _,_,h=>h
 | .agg l,v,h=>by
  simp only [rd,prV] at h⊢
  obtain ⟨cs,e,h⟩:=h
  exact ⟨cs,e,Bg k h⟩
 | .sl z n g l,v,h=>h
 | .pp n g d,v,h=>h
 | .own i,v,h=>by
  simp only [prV]
  cases hp:p i with
  | true=>trivial
  | false=>exact ⟨k _ _ hp h.1,h.2⟩
 | .ptr i o,v,h=>by
  simp only [prV]
  cases hp:p i with
  | true=>trivial
  | false=>
   simp only [cond_false,rd] at h⊢
   obtain ⟨b,h1,h2⟩:=h
   exact ⟨b,k _ _ hp h1,h2⟩
 | .optr i n j o,v,h=>by
  simp only [prV]
  cases hp:p i with
  | true=>trivial
  | false=>
   simp only [cond_false,rd] at h⊢
   obtain ⟨u,h1,h2⟩:=h
   exact ⟨u,k _ _ hp h1,h2⟩
 | .osub i n j o,v,h=>by
  simp only [prV]
  cases hp:p i with
  | true=>trivial
  | false=>
   simp only [cond_false,rd] at h⊢
   obtain ⟨u,h1,h2⟩:=h
   exact ⟨u,k _ _ hp h1,h2⟩
 | .tup l,v,h=>by
  simp only [rd,prV] at h⊢
  obtain ⟨cs,e,h⟩:=h
  exact ⟨cs,e,wI k h⟩
 | .fn f l,v,h=>by
  simp only [rd,prV] at h⊢
  obtain ⟨cs,e,h⟩:=h
  exact ⟨cs,e,wI k h⟩
 | .opq p,v,h=>h
 | .un,_,_=>trivial
theorem Bg {ρ':Ro} {p:Nat→Bool} (k: ∀i v,p i=false→ρ i=some v→ρ' i=some v): ∀{l:List V} {cs:List Value},rdC ρ c l cs→rdC ρ' c (prL p l) cs
 | [],_,h=>h
 | d::l,cs,h=>by
  simp only [rdC,prL] at h⊢
  obtain ⟨u,c2,e,h1,h2,h3⟩:=h
  exact ⟨u,c2,e,h1,nE k h2,Bg k h3⟩
theorem wI {ρ':Ro} {p:Nat→Bool} (k: ∀i v,p i=false→ρ i=some v→ρ' i=some v): ∀{l:List V} {cs:List Value},rdT ρ c l cs→rdT ρ' c (prL p l) cs
 | [],_,h=>h
 | d::l,cs,h=>by
  simp only [rdT,prL] at h⊢
  obtain ⟨u,c2,e,h2,h3⟩:=h
  exact ⟨u,c2,e,nE k h2,wI k h3⟩
end
theorem Bh {p:Nat→Bool}: ∀{l:List V},prL p l=l.map (prV p)
 | []=>rfl
 | d::l=>by simp only [prL,List.map_cons,Bh]
def prB (p:Nat→Bool):Blk→Blk
 | .var n g d=> .var n g (prV p d)
 | .lent k n g d=> .lent k n g (prV p d)
 | .ownI E n g z l=> .ownI E n g z (prL p l)
 | b=>b
def prF (p:Nat→Bool):List (Nat×V)→List (Nat×V)
 | []=> []
 | (t,v)::l=>(t,prV p v)::prF p l
def prH (p:Nat→Bool):List (Nat×Blk)→List (Nat×Blk)
 | []=> []
 | (t,b)::l=>(t,prB p b)::prH p l
theorem Bi {p:Nat→Bool}: ∀{l:List (Nat×V)} {t:Nat},ae (prF p l) t=(ae l t).map (prV p)
 | [],_=>rfl
 | (k,v)::l,t=>by
  simp only [prF,ae]
  split
  ·rfl
  ·exact Bi
theorem Bj {p:Nat→Bool}: ∀{l:List (Nat×Blk)} {t:Nat},ae (prH p l) t=(ae l t).map (prB p)
 | [],_=>rfl
 | (k,v)::l,t=>by
  simp only [prH,ae]
  split
  ·rfl
  ·exact Bj
theorem JL {p:Nat→Bool} {b:Blk}:aY (prB p b)=aY b:=by cases b<;>rfl
theorem Bk {i:Nat} {b:Blk} (h:blkOk c0 c ρ i b): ∃v,ρ i=some v:=by
 cases b with
 | var n g d=>obtain ⟨b,h1,_⟩:=h;exact ⟨_,h1⟩
 | own E n g z l=>obtain ⟨v,h1,_⟩:=h;exact ⟨_,h1⟩
 | ownI E n g z l=>obtain ⟨v,h1,_⟩:=h;exact ⟨_,h1⟩
 | pvar n g d=>obtain ⟨b,h1,_⟩:=h;exact ⟨_,h1⟩
 | kset g k n l=>obtain ⟨r,h1,_⟩:=h;exact ⟨_,h1⟩
 | pown n g z l=>obtain ⟨v,h1,_⟩:=h;exact ⟨_,h1⟩
 | lent k n g d=>exact ⟨_,h.1⟩
def gM (k:Nat):Blk→Blk
 | .var n g d=> .lent k n g d
 | b=>b
def cr (ks:Nat→Nat):Nat→List Blk→List Blk
 | _,[]=> []
 | i,b::l=>gM (ks i) b::cr ks (i+1) l
theorem nF {ks:Nat→Nat}: ∀{l:List Blk} {i j:Nat},(cr ks i l)[j]? =(l[j]?).map (gM (ks (i+j)))
 | [],i,j=>by simp [cr]
 | b::l,i,0=>by simp [cr]
 | b::l,i,j+1=>by simp [cr,nF (l:=l),Nat.add_comm,Nat.add_left_comm,Nat.add_assoc]
theorem sF {ks:Nat→Nat}: ∀{l:List Blk} {i:Nat},(cr ks i l).length=l.length
 | [],i=>rfl
 | b::l,i=>by simp [cr,sF (l:=l)]
def pt (c0 c:Cx) (ρ:Ro) (H:List Blk):Prop:=
 (∀i b,H[i]? =some b→blkOk c0 c ρ i b)∧(∀i,H.length≤i→ρ i=none)∧
  ∀i j bi bj k,i≠j→H[i]? =some bi→H[j]? =some bj→am ρ i=some k→am ρ j≠some k
def jg:List Blk→List Blk→Bool
 | [],[]=>true
 | .var _ _ _::l,.var _ _ _::m=>jg l m
 | .own _ _ _ _ _::l,.own _ _ _ _ _::m=>jg l m
 | _,_=>false
def mm:List Blk→Bool
 | []=>true
 | .own _ _ _ _ _::l=>mm l
 | _=>false
def kb:Blk→Prop
 | .var _ _ _=>True
 | _=>False
def fi:Blk→Prop
 | .own _ _ _ _ _=>True
 | _=>False
theorem wJ: ∀{l m:List Blk},jg l m=true→l.length=m.length∧ ∀(j:Nat) (b b':Blk),l[j]? =some b→m[j]? =some b'→(kb b∧kb b')∨(fi b∧fi b')
 | [],[],_=>⟨rfl,by simp⟩
 | a::l,a'::m,h=>by
  have key:jg l m=true∧((kb a∧kb a')∨(fi a∧fi a')):=by
   cases a<;>cases a'<;>simp only [jg] at h<;>first
    | exact ⟨h,.inl ⟨trivial,trivial⟩⟩
    | exact ⟨h,.inr ⟨trivial,trivial⟩⟩
    | cases h
  obtain ⟨h1,h2⟩:=wJ key.1
  refine ⟨by simp [h1],fun j b b' hb hb'=> ?_⟩
  cases j with
  | zero=>simp at hb hb';subst hb hb';exact key.2
  | succ j=>exact h2 j b b' (by simpa using hb) (by simpa using hb')
 | [],_::_,h=>by simp [jg] at h
 | a::_,[],h=>by cases a<;>simp [jg] at h
theorem wK: ∀{l:List Blk},mm l=true→ ∀(j:Nat) (b:Blk),l[j]? =some b→fi b
 | [],_,j,b,hb=>by simp at hb
 | a::l,h,j,b,hb=>by
  have key:mm l=true∧fi a:=by
   cases a<;>simp only [mm] at h<;>first
    | exact ⟨h,trivial⟩
    | cases h
  cases j with
  | zero=>simp at hb;subst hb;exact key.2
  | succ j=>exact wK key.1 j b (by simpa using hb)
def JM (E:Env) (c:Cx) (r:V) (H:List Blk):Ending→World→Prop:=fun e w'=> ∃v c' ρ,e= .returned v∧c'.w=w'∧c.leY c'∧rd ρ c' r v∧pt c c' ρ H
def bp (E:Env) (f:FuncId) (ws:List V) (Hin:List Blk) (r:V) (Hout Hnew:List Blk):Prop:=
 (∀aas w,(callFunc f aas).run E.P w= .ok (.enter f aas) w)∧(jg Hin Hout&&mm Hnew)=true∧
  ∀(c:Cx) (us:List Value) (ρ0:Ro) (ks:Nat→Nat),Gl E c→pt c c ρ0 (cr ks 0 Hin)→rdT ρ0 c ws us→Calls E.P f us.toArray c.w (JM E c r (cr ks 0 Hout++Hnew))
mutual
def inV (H:List (Nat×Blk)) (ids:List Nat):V→V
 | .own i=>match dp ids i 0 with
  | some j=> .own j
  | none=>wB (ae H i)
 | .ptr i o=>match dp ids i 0 with
  | some j=> .ptr j o
  | none=>sy o (ae H i)
 | .optr _ _ _ _=> .un
 | .osub _ _ _ _=> .un
 | .agg l=> .agg (gN H ids l)
 | .tup l=> .tup (gN H ids l)
 | .fn f l=> .fn f (gN H ids l)
 | v=>v
def gN (H:List (Nat×Blk)) (ids:List Nat):List V→List V
 | []=> []
 | d::l=>inV H ids d::gN H ids l
end
theorem sG {i:Nat} {v:Value} (h:ro0 i=some v):False:=by cases h
mutual
theorem sH {ids:List Nat} (h:Sim E c0 c ρ S F): ∀{d:V} {v:Value},rd ρ c d v→rd (cf ρ ids) c (inV S.H ids d) v
 | .int _ _,_,hr=>hr
 | .bool _,_,hr=>hr
 | .ifc _,_,hr=>hr
 | .str _,_,hr=>hr
 | .agg l,v,hr=>by
  simp only [rd,inV] at hr⊢
  obtain ⟨cs,e,hr⟩:=hr
  exact ⟨cs,e,Bl h hr⟩
 | .sl z n g l,v,hr=>hr
 | .pp n g d,v,hr=>hr
 | .own i,v,hr=>by
  simp only [inV]
  cases hp:dp ids i 0 with
  | some j=>
   simp only [rd] at hr⊢
   obtain ⟨_,h2⟩:=ml hp
   exact ⟨by simp only [cf];rw [show j - 0=j from rfl] at h2;rw [h2];exact hr.1,hr.2⟩
  | none=>exact dz (fun i v hi=>(sG hi).elim) (sA (d:= .own i) h hr)
 | .ptr i o,v,hr=>by
  simp only [inV]
  cases hp:dp ids i 0 with
  | some j=>
   simp only [rd] at hr⊢
   obtain ⟨b,h1,h3⟩:=hr
   obtain ⟨_,h2⟩:=ml hp
   exact ⟨b,by simp only [cf];rw [show j - 0=j from rfl] at h2;rw [h2];exact h1,h3⟩
  | none=>exact dz (fun i v hi=>(sG hi).elim) (sA (d:= .ptr i o) h hr)
 | .optr _ _ _ _,_,_=>trivial
 | .osub _ _ _ _,_,_=>trivial
 | .tup l,v,hr=>by
  simp only [rd,inV] at hr⊢
  obtain ⟨cs,e,hr⟩:=hr
  exact ⟨cs,e,nG h hr⟩
 | .fn f l,v,hr=>by
  simp only [rd,inV] at hr⊢
  obtain ⟨cs,e,hr⟩:=hr
  exact ⟨cs,e,nG h hr⟩
 | .opq p,v,hr=>hr
 | .un,_,_=>trivial
theorem Bl {ids:List Nat} (h:Sim E c0 c ρ S F): ∀{l:List V} {cs:List Value},rdC ρ c l cs→rdC (cf ρ ids) c (gN S.H ids l) cs
 | [],_,hr=>hr
 | d::l,cs,hr=>by
  simp only [rdC,gN] at hr⊢
  obtain ⟨u,c2,e,h1,h2,h3⟩:=hr
  exact ⟨u,c2,e,h1,sH h h2,Bl h h3⟩
theorem nG {ids:List Nat} (h:Sim E c0 c ρ S F): ∀{l:List V} {cs:List Value},rdT ρ c l cs→rdT (cf ρ ids) c (gN S.H ids l) cs
 | [],_,hr=>hr
 | d::l,cs,hr=>by
  simp only [rdT,gN] at hr⊢
  obtain ⟨u,c2,e,h2,h3⟩:=hr
  exact ⟨u,c2,e,sH h h2,nG h h3⟩
end
theorem Bm {T n:Nat} {g:Bool} {l l':List V} {v:Value} (h:Own c T v (rV ro0 n g) l) (hm:mtL l l'):Own c T v (rV ro0 n g) l':=by
 have e:=jP hm
 refine ⟨by rw [←e];exact h.1,?_⟩
 rcases h.2 with ⟨a,h1,h2⟩|⟨g',cp,cur,h1,h2,h3,h4,h5,h6,h7⟩
 ·subst h2
  cases l' with
  | nil=>exact .inl ⟨a,h1,rfl⟩
  | cons x l'=>simp [mtL] at hm
 ·exact .inr ⟨g',cp,cur,by rw [←e];exact h1,h2,h3,by rw [←e];exact h4,h5,h6,by rw [←e];exact fX.1 (sf hm (fX.2 h7))⟩
def inO (H:List (Nat×Blk)) (ids:List Nat):Option Blk→Blk→Prop
 | some (.own T n g z l),.own T' n' g' z' l'=>T=T'∧n=n'∧g=g'∧mtZ z z'∧mtL l l'
 | some (.var n g d),.var n' g' d'=>n=n'∧g=g'∧mt (inV H ids d) d'
 | some (.lent _ n g d),.var n' g' d'=>n=n'∧g=g'∧mt (inV H ids d) d'
 | _,_=>False
def gO (H:List (Nat×Blk)) (ids:List Nat):List Nat→List Blk→Prop
 | [],[]=>True
 | i::l,b::m=>inO H ids (ae H i) b∧gO H ids l m
 | _,_=>False
theorem nH {H:List (Nat×Blk)} {ids:List Nat}: ∀{l:List Nat} {m:List Blk},gO H ids l m→l.length=m.length∧ ∀(j i:Nat) (b:Blk),l[j]? =some i→m[j]? =some b→inO H ids (ae H i) b
 | [],[],_=>⟨rfl,by simp⟩
 | i::l,b::m,h=>by
  simp only [gO] at h
  obtain ⟨h1,h2⟩:=nH h.2
  refine ⟨by simp [h1],fun j i' b' hi hb=> ?_⟩
  cases j with
  | zero=>simp at hi hb;subst hi hb;exact h.1
  | succ j=>exact h2 j i' b' (by simpa using hi) (by simpa using hb)
 | [],_::_,h=>by simp [gO] at h
 | _::_,[],h=>by simp [gO] at h
def fj (H:List (Nat×Blk)):List Nat→List Nat
 | []=> []
 | i::l=>ownI1 (ae H i) i (fj H l)
where ownI1:Option Blk→Nat→List Nat→List Nat
 | some (.own _ _ _ _ _),i,l=>i::l
 | _,_,l=>l
theorem Bn {H:List (Nat×Blk)} {i:Nat} {T n:Nat} {g:Bool} {z:Option Bool} {m:List V} (hb:ae H i=some (.own T n g z m)): ∀{l:List Nat},i∈l→i∈fj H l
 | j::l,h=>by
  simp only [fj]
  rcases List.mem_cons.1 h with rfl|h
  ·rw [hb];simp [fj.ownI1]
  ·have:=Bn hb h
   unfold fj.ownI1
   split
   ·exact List.mem_cons_of_mem _ this
   ·exact this
def sg (ids:List Nat) (nx j:Nat):Nat:=match ids[j]? with
 | some i=>i
 | none=>nx+(j - ids.length)
def jh:Option Blk→Blk→Blk
 | some (.lent k _ _ _),.var n g d=> .lent k n g d
 | _,b=>b
def iu (H0:List (Nat×Blk)):List (Nat×Blk)→List Nat→List Blk→List (Nat×Blk)
 | h,i::l,b::m=>iu H0 (dc h i (jh (ae H0 i) b)) l m
 | h,_,_=>h
theorem wL {H0:List (Nat×Blk)} {i:Nat}: ∀{l:List Nat} {m:List Blk} {h:List (Nat×Blk)},i∉l→ae (iu H0 h l m) i=ae h i
 | [],[],_,_=>rfl
 | [],_::_,_,_=>rfl
 | _::_,[],_,_=>rfl
 | j::l,b::m,h,hi=>by
  simp only [List.mem_cons,not_or] at hi
  simp only [iu]
  rw [wL hi.2,cV,if_neg (Ne.symm hi.1)]
theorem Bo {H0:List (Nat×Blk)} {i:Nat} {b:Blk}: ∀{l:List Nat} {m:List Blk} {h:List (Nat×Blk)} {j:Nat},l.Nodup→l[j]? =some i→m[j]? =some b→ae (iu H0 h l m) i=some (jh (ae H0 i) b)
 | [],_,_,j,_,hi,_=>by simp at hi
 | _::_,[],_,j,_,_,hb=>by simp at hb
 | x::l,y::m,h,0,hd,hi,hb=>by
  simp at hi hb
  subst hi hb
  simp only [iu]
  rw [wL (List.nodup_cons.1 hd).1,cV,if_pos rfl]
 | x::l,y::m,h,j+1,hd,hi,hb=>by
  simp only [iu]
  exact Bo (List.nodup_cons.1 hd).2 (by simpa using hi) (by simpa using hb)
def St.afterI (S:St) (ids:List Nat) (Hout Hnew:List Blk) (d:Option Nat) (r:V):St:=
 St.put ⟨prF (bF (fj S.H ids)) S.F,ig S.nx 0 (fP (sg ids S.nx) Hnew)++iu S.H (prH (bF (fj S.H ids)) S.H) ids (fP (sg ids S.nx) Hout),S.nx+Hnew.length⟩ d (ren (sg ids S.nx) r)
def ro2 (ids:List Nat) (nx:Nat) (ρ ρr:Ro):Ro:=fun i=>match dp ids i 0 with
 | some j=>ρr j
 | none=>if i<nx then ρ i else ρr (ids.length+(i - nx))
theorem JN {ids:List Nat} {i j:Nat} (hd:ids.Nodup) (h:ids[j]? =some i):dp ids i 0=some j:=by
 cases hp:dp ids i 0 with
 | none=>exact absurd (List.mem_of_getElem? h) (po hp)
 | some q=>
  obtain ⟨_,h2⟩:=ml hp
  rw [pr hd h h2]
  rfl
theorem Bp {ids:List Nat} {i:Nat} (h:i∉ids):dp ids i 0=none:=by
 cases hp:dp ids i 0 with
 | none=>rfl
 | some q=>
  obtain ⟨_,h2⟩:=ml hp
  exact absurd (List.mem_of_getElem? h2) h
theorem sI {ids:List Nat} {nx i j:Nat} {ρr:Ro} (hd:ids.Nodup) (h:ids[j]? =some i):ro2 ids nx ρ ρr i=ρr j:=by
 simp only [ro2,JN hd h]
theorem nI {ids:List Nat} {nx i:Nat} {ρr:Ro} (h:i∉ids) (hi:i<nx):ro2 ids nx ρ ρr i=ρ i:=by
 simp only [ro2,Bp h,if_pos hi]
theorem Bq {ids:List Nat} {nx i:Nat} {ρr:Ro} (h: ∀j∈ids,j<nx) (hi:nx≤i):ro2 ids nx ρ ρr i=ρr (ids.length+(i - nx)):=by
 have:i∉ids:=fun e=>by have:=h i e;omega
 simp only [ro2,Bp this,if_neg (Nat.not_lt.2 hi)]
theorem JO {ids:List Nat} {nx:Nat} {ρr:Ro} (hd:ids.Nodup) (h: ∀j∈ids,j<nx) (j:Nat):ro2 ids nx ρ ρr (sg ids nx j)=ρr j:=by
 unfold sg
 cases hj:ids[j]? with
 | some i=>exact sI hd hj
 | none=>
  have hle:=List.getElem?_eq_none_iff.1 hj
  rw [Bq h (Nat.le_add_right _ _)]
  congr 1;omega
theorem Var.leY {α:Type} {c c':Cx} {b:Nat} {r:Rep α} {d:α} (h:c.leY c') (hp:c.pub c') (hb:b∉c.Y) (hv:Var c b r d):Var c' b r d:=by
 obtain ⟨h1,T,cs,h2,h3⟩:=hv
 have hlt:=c.ok b h1
 exact ⟨(h.old b hlt hb).2 h1,T,cs,(h.below.block b hlt hb).trans h2,r.mono h3 hp⟩
theorem Own.leY {α:Type} {c c':Cx} {E:TypeId} {v:Value} {r:Rep α} {l:List α} (ho:Own c E v r l) (h:c.leY c') (hp:c.pub c') (hb: ∀i,blk v=some i→i∉c.Y):Own c' E v r l:=by
 refine ⟨ho.1,?_⟩
 rcases ho.2 with h'|⟨g',cap,cur,rfl,h1,h2,h3,h4,h5,h6⟩
 ·exact .inl h'
 ·have hlt:=c.ok g' h1
  exact .inr ⟨g',cap,cur,rfl,(h.old g' hlt (hb g' rfl)).2 h1,(h.below.block g' hlt (hb g' rfl)).trans h2,h3,h4,h5,dl hp h6⟩
theorem fr.leY {c c':Cx} {r:Nat} {g:Bool} {k:IntKind} {n:Nat} {l:List (List Int)} (h:c.leY c') (hb:r∉c.Y) (hv:fr c r g k n l):fr c' r g k n l:=by
 obtain ⟨h1,h2,es,clock,h3,h4⟩:=hv
 have hlt:=c.ok r h1
 exact ⟨(h.old r hlt hb).2 h1,h2,es,clock,(h.below.block r hlt hb).trans h3,h4⟩
theorem JP {Y:List Nat} {c':Cx} (h:(c.lend Y).leY c') (hp:c.pub c') {i:Nat} {b:Blk} (hne:aY b=true→ ∀x,am ρ i=some x→x∉Y) (hb:blkOk c0 c ρ i b):blkOk c0 c' ρ i b:=by
 have hp':(c.lend Y).pub c':=⟨hp.size,fun k hk hx=>hp.keep k hk hx⟩
 cases b with
 | var n g d=>
  obtain ⟨b,h1,h2,h3⟩:=hb
  exact ⟨b,h1,h2,Var.leY h hp' (hne rfl b (by simp [am,h1])) ((c.chg_lend Y).var (by simp) h3)⟩
 | own E n g z l=>
  obtain ⟨v,h1,h2,h3,h4,a,cap,e,h5⟩:=hb
  exact ⟨v,h1,(h2.chg (c.chg_lend Y) (by simp)).leY h hp' (fun x hx=>hne rfl x (by rw [eZ h1 e];exact hx)),h3,h4,a,cap,e,h5⟩
 | ownI E n g z l=>
  obtain ⟨v,h1,h2,h3,h4,a,cap,e,h5⟩:=hb
  exact ⟨v,h1,(h2.chg (c.chg_lend Y) (by simp)).leY h hp' (fun x hx=>hne rfl x (by rw [eZ h1 e];exact hx)),h3,h4,a,cap,e,h5⟩
 | kset g k' n l=>
  obtain ⟨r,h1,h2,h3⟩:=hb
  exact ⟨r,h1,h2,fr.leY h (hne rfl r (by simp [am,h1,blk])) (h3.chg (c.chg_lend Y) (by simp))⟩
 | pvar n g d=>
  obtain ⟨b,h1,h2⟩:=hb
  exact ⟨b,h1,(kz _).mono h2 hp⟩
 | pown n g z l=>
  obtain ⟨v,h1,h2⟩:=hb
  exact ⟨v,h1,bI hp h2⟩
 | lent k' n g d=>
  obtain ⟨h1,h2,h3⟩:=hb
  exact ⟨h1,h2,Var.leY h hp' (hne rfl k' (by simp [am,h1])) ((c.chg_lend Y).var (by simp) h3)⟩
theorem JQ {ρ':Ro} {p:Nat→Bool} {i:Nat} {b:Blk} (k: ∀i v,p i=false→ρ i=some v→ρ' i=some v) (hi: ∀v,ρ i=some v→ρ' i=some v) (h:blkOk c0 c ρ i b):blkOk c0 c ρ' i (prB p b):=by
 cases b with
 | var n g d=>
  obtain ⟨b,h1,h2,h3,T,cs,h4,h5,h6⟩:=h
  exact ⟨b,hi _ h1,h2,h3,T,cs,h4,h5,nE k h6⟩
 | own E n g z l=>
  obtain ⟨v,h1,h2⟩:=h
  exact ⟨v,hi _ h1,h2⟩
 | ownI E n g z l=>
  obtain ⟨v,h1,h2,h3,h4,h5⟩:=h
  simp only [prB,blkOk,Bh]
  exact ⟨v,hi _ h1,Own.rep (f:=prV p) (r:=rV ρ n g) (s:=rV ρ' n g) (fun {cs d} (h1:iN n g cs∧rd ρ c d (mkV g cs))=>⟨h1.1,nE k h1.2⟩) rfl h2,h3,h4,by simpa using h5⟩
 | kset g k' n l=>
  obtain ⟨r,h1,h2⟩:=h
  exact ⟨r,hi _ h1,h2⟩
 | pvar n g d=>
  obtain ⟨b,h1,h2⟩:=h
  exact ⟨b,hi _ h1,h2⟩
 | pown n g z l=>
  obtain ⟨v,h1,h2⟩:=h
  exact ⟨v,hi _ h1,h2⟩
 | lent k' n g d=>
  obtain ⟨h1,h2,h3,T,cs,h4,h5,h6⟩:=h
  exact ⟨hi _ h1,h2,h3,T,cs,h4,h5,nE k h6⟩
def cG (ρ:Ro) (ids:List Nat):List Nat:=ids.filterMap (am ρ)
def dq (ρ:Ro) (ids:List Nat) (j:Nat):Nat:=match ids[j]? with
 | some i=>(am ρ i).getD 0
 | none=>0
theorem pu {H:List (Nat×Blk)} {ids:List Nat} {o:Option Blk} {b:Blk} (h:inO H ids o b): ∃a,o=some a∧aY a=true∧(kb b∨fi b):=by
 unfold inO at h
 split at h
 ·exact ⟨_,rfl,rfl,.inr trivial⟩
 ·exact ⟨_,rfl,rfl,.inl trivial⟩
 ·exact ⟨_,rfl,rfl,.inl trivial⟩
 ·exact h.elim
theorem wM (h:Sim E c0 c ρ S F) {ids:List Nat} {Hin:List Blk} (hd:ids.Nodup) (hi:gO S.H ids ids Hin):
  pt (c.lend (cG ρ ids)) (c.lend (cG ρ ids)) (cf ρ ids) (cr (dq ρ ids) 0 Hin):=by
 obtain ⟨hlen,hget⟩:=nH hi
 have hro: ∀{j i:Nat},ids[j]? =some i→cf ρ ids j=ρ i:=fun {j i} hj=>by simp only [cf,hj]
 refine ⟨?_,?_,?_⟩
 ·intro j b hb
  rw [nF,Nat.zero_add] at hb
  cases hj:Hin[j]? with
  | none=>rw [hj] at hb;cases hb
  | some b0=>
   rw [hj] at hb
   simp only [Option.map_some,Option.some.injEq] at hb
   subst hb
   have hjl:j<ids.length:=by rw [hlen];exact (List.getElem?_eq_some_iff.1 hj).1
   obtain ⟨i,hji⟩: ∃i,ids[j]? =some i:=⟨_,List.getElem?_eq_getElem hjl⟩
   have hin:=hget j i b0 hji hj
   have hmem:i∈ids:=List.mem_of_getElem? hji
   have hY: ∀k,am ρ i=some k→k∈cG ρ ids:=fun k hk=>List.mem_filterMap.2 ⟨i,hmem,hk⟩
   cases hS:ae S.H i with
   | none=>rw [hS] at hin;unfold inO at hin;exact hin.elim
   | some a=>
    have hblk:=h.heap i a hS
    rw [hS] at hin
    have hmy: ∀k,am ρ i=some k→(c.lend (cG ρ ids)).mine k:=fun k hk=> .inr (hY k hk)
    unfold inO at hin
    split at hin
    ·rename_i T n g z l T' n' g' z' l' e
     cases e
     obtain ⟨rfl,rfl,rfl,hz,hml⟩:=hin
     obtain ⟨v,h1,h2,h3,h4,a,cap,es,h5⟩:=hblk
     exact ⟨v,(hro hji).trans h1,Bm (h2.chg (c.chg_lend _) (by simp)) hml,fun k hk=>hmy k (by rw [eZ h1 es];exact hk),h4,a,cap,by rw [←jP hml];exact es,kP hz h5⟩
    ·rename_i n g d n' g' d' e
     cases e
     obtain ⟨rfl,rfl,hm⟩:=hin
     obtain ⟨b,h1,h2,h3⟩:=hblk
     have hb:am ρ i=some b:=by simp [am,h1]
     have hk:dq ρ ids j=b:=by simp [dq,hji,hb]
     simp only [gM,hk]
     obtain ⟨q1,T0,cs0,q2,q3,q4⟩:=h3
     exact ⟨(hro hji).trans h1,hmy b hb,q1,T0,cs0,q2,q3,bI (c.pub_lend _) (fb hm (sH h q4))⟩
    ·rename_i k0 n g d n' g' d' e
     cases e
     obtain ⟨rfl,rfl,hm⟩:=hin
     obtain ⟨h1,h2,h3⟩:=hblk
     have hb:am ρ i=some k0:=by simp [am,h1]
     have hk:dq ρ ids j=k0:=by simp [dq,hji,hb]
     simp only [gM,hk]
     obtain ⟨q1,T0,cs0,q2,q3,q4⟩:=h3
     exact ⟨(hro hji).trans h1,hmy k0 hb,q1,T0,cs0,q2,q3,bI (c.pub_lend _) (fb hm (sH h q4))⟩
    ·exact hin.elim
 ·intro j hj
  rw [sF] at hj
  simp only [cf]
  rw [List.getElem?_eq_none (by omega)]
 ·intro j j' b b' k hne hj hj' hk hk'
  rw [nF] at hj hj'
  have get: ∀{q:Nat} {x:Blk},(Hin[q]?).map (gM (dq ρ ids (0+q)))=some x→ ∃i a,ids[q]? =some i∧ae S.H i=some a∧aY a=true:=by
   intro q x hq
   cases hj:Hin[q]? with
   | none=>rw [hj] at hq;cases hq
   | some b0=>
    have hjl:q<ids.length:=by rw [hlen];exact (List.getElem?_eq_some_iff.1 hj).1
    have hji:ids[q]? =some ids[q]:=List.getElem?_eq_getElem hjl
    obtain ⟨a,h1,h2,_⟩:=pu (hget q _ b0 hji hj)
    exact ⟨_,a,hji,h1,h2⟩
  obtain ⟨i,a,g1,g2,g3⟩:=get hj
  obtain ⟨i',a',g1',g2',g3'⟩:=get hj'
  have hii:i≠i':=by
   rintro rfl
   exact hne (pr hd g1 g1')
  have e1:am (cf ρ ids) j=am ρ i:=blkOf_eq' (hro g1)
  have e2:am (cf ρ ids) j'=am ρ i':=blkOf_eq' (hro g1')
  rw [e1] at hk
  rw [e2] at hk'
  exact h.sep i i' a a' k hii g2 g2' g3 g3' hk hk'
where blkOf_eq' {ρ ρ':Ro} {i j:Nat} (h:ρ' j=ρ i):am ρ' j=am ρ i:=by unfold am;rw [h]
end
end Go.Proofs.YtgealhhkngbkbaaGreatDoor
namespace Go.Proofs.YtgealhhkngbkbaaGreatDoor
open Go.RowKit
section
variable {E:Env} {J:cM} {k:List Ct} {S S1:St} {c0 c:Cx} {ρ:Ro} {F:Fm}
theorem mn (h:Sim E c0 c ρ S F) {ids:List Nat} {Hin:List Blk} (hi:gO S.H ids ids Hin) {x:Nat} (hx:x∈cG ρ ids): ∃i a,i∈ids∧ae S.H i=some a∧aY a=true∧am ρ i=some x:=by
 obtain ⟨hlen,hget⟩:=nH hi
 obtain ⟨i,hm,hb⟩:=List.mem_filterMap.1 hx
 obtain ⟨j,hj,e⟩:=List.getElem_of_mem hm
 have hjH:j<Hin.length:=by omega
 obtain ⟨a,h1,h2,_⟩:=pu (hget j i Hin[j] (by rw [List.getElem?_eq_getElem hj,e]) (List.getElem?_eq_getElem hjH))
 exact ⟨i,a,hm,h1,h2,hb⟩
theorem JR (h:bw E c0 c ρ S F) {ids:List Nat} {Hin Hout Hnew:List Blk} (hd:ids.Nodup) (hi:gO S.H ids ids Hin) (hk:jg Hin Hout=true) (hn:mm Hnew=true) {c':Cx} {ρr:Ro} {r:V} {v:Value}
  (hle:(c.lend (cG ρ ids)).leY c') (hr:rd ρr c' r v) (hH:pt (c.lend (cG ρ ids)) c' ρr (cr (dq ρ ids) 0 Hout++Hnew)) (d:Option Nat):
  bw E c0 c' (ro2 ids S.nx ρ ρr) (S.afterI ids Hout Hnew d r) (cu F d v):=by
 obtain ⟨hlen,hget⟩:=nH hi
 obtain ⟨hkl,hkk⟩:=wJ hk
 have hlO:(cr (dq ρ ids) 0 Hout).length=ids.length:=by rw [sF];omega
 have hlt: ∀i∈ids,i<S.nx:=by
  intro i hm
  obtain ⟨j,hj,e⟩:=List.getElem_of_mem hm
  obtain ⟨a,h1,_⟩:=pu (hget j i Hin[j] (by rw [List.getElem?_eq_getElem hj,e]) (List.getElem?_eq_getElem (by omega)))
  obtain ⟨x,hx⟩:=Bk (h.1.heap i a h1)
  rcases Nat.lt_or_ge i S.nx with h2|h2
  ·exact h2
  ·rw [h.2 i h2] at hx;cases hx
 have hYX: ∀x,x∈cG ρ ids→c0.mine x:=by
  intro x hx
  obtain ⟨i,a,_,h2,h3,h4⟩:=mn h.1 hi hx
  exact iR h.1 h2 h3 x h4
 have hYlt: ∀x,x∈cG ρ ids→x<c.w.heap.size:=by
  intro x hx
  obtain ⟨i,a,_,h2,h3,h4⟩:=mn h.1 hi hx
  exact fI h3 (h.1.heap i a h2) x h4
 have hYp: ∀x,x∈cG ρ ids→x∈c.X:=by
  intro x hx
  obtain ⟨i,a,_,h2,h3,h4⟩:=mn h.1 hi hx
  have hb:=h.1.heap i a h2
  cases a with
  | var n g d=>obtain ⟨b,g1,_,g3⟩:=hb;simp only [am,g1,Option.some.injEq] at h4;subst h4;exact g3.1
  | lent b n g d=>obtain ⟨g1,_,g3⟩:=hb;simp only [am,g1,Option.some.injEq] at h4;subst h4;exact g3.1
  | own T n g z l=>obtain ⟨u,g1,g2,_,_,a,cap,e,_⟩:=hb;rw [eZ g1 e] at h4;exact g2.isX x h4
  | ownI T n g z l=>obtain ⟨u,g1,g2,_,_,a,cap,e,_⟩:=hb;rw [eZ g1 e] at h4;exact g2.isX x h4
  | kset g k' n l=>obtain ⟨r,g1,_,g3⟩:=hb;simp only [am,g1,blk,Option.some.injEq] at h4;subst h4;exact g3.1
  | pvar n g d=>cases h3
  | pown n g z l=>cases h3
 have hpub:c.pub c':=⟨hle.below.size,fun x hx hnX=>⟨fun h'=>hnX ((hle.old x hx (fun hy=>hnX (hYp x hy))).1 h'),fun o ho _=>(hle.below.block x hx (fun hy=>hnX (hYp x hy))).trans ho⟩⟩
 have hsince:cB c0 c':=by
  refine ⟨⟨hle.below.os.trans h.1.since.below.os,hle.below.tape.trans h.1.since.below.tape,hle.below.output.trans h.1.since.below.output,Nat.le_trans h.1.since.size hle.below.size,?_⟩,?_,fun x hx hnX h'=>(h.1.since.Xn x hx hnX) (by
   by_cases hY:x∈cG ρ ids
   ·exact hYp x hY
   ·exact (hle.old x (Nat.lt_of_lt_of_le hx h.1.since.size) hY).1 h')⟩
  ·intro x hx hy
   refine (hle.below.block x (Nat.lt_of_lt_of_le hx h.1.since.size) (fun hY=> ?_)).trans (h.1.since.below.block x hx hy)
   rcases hYX x hY with h1|h1
   ·omega
   ·exact hy h1
  ·intro x hx hy
   have hxX:=h.1.since.X x hx hy
   refine (hle.old x (c.ok x hxX) (fun hY=> ?_)).2 hxX
   rcases hYX x hY with h1|h1
   ·have:=c0.ok x hx;omega
   ·exact hy h1
 have hmine: ∀x,(c.lend (cG ρ ids)).mine x→c0.mine x:=by
  rintro x (h1|h1)
  ·exact .inl (Nat.le_trans h.1.since.size h1)
  ·exact hYX x h1
 -- names
 have hsg: ∀j x,ρr j=some x→ro2 ids S.nx ρ ρr (sg ids S.nx j)=some x:=fun j x hx=>(JO hd hlt j).trans hx
 have hnew: ∀i,S.nx≤i→ro2 ids S.nx ρ ρr i=ρr (ids.length+(i - S.nx)):=fun i hi=>Bq hlt hi
 have hold: ∀i b,ae S.H i=some b→i<S.nx:=by
  intro i b hb
  obtain ⟨x,hx⟩:=Bk (h.1.heap i b hb)
  rcases Nat.lt_or_ge i S.nx with h2|h2
  ·exact h2
  ·rw [h.2 i h2] at hx;cases hx
 -- what the call gives back under a lent name
 have hback: ∀j i,ids[j]? =some i→ ∃b a,Hout[j]? =some b∧ae S.H i=some a∧((kb b∧ ∀x,ρ i=some x→ρr j=some x)∨(fi b∧ ∃T n g z l,a= .own T n g z l))∧blkOk c0 c' (ro2 ids S.nx ρ ρr) i (jh (ae S.H i) (jf (sg ids S.nx) b)):=by
  intro j i hj
  have hjl:=(List.getElem?_eq_some_iff.1 hj).1
  have hHi:Hin[j]? =some Hin[j]:=List.getElem?_eq_getElem (by omega)
  have hHo:Hout[j]? =some Hout[j]:=List.getElem?_eq_getElem (by omega)
  have hin:=hget j i _ hj hHi
  have hkj:=hkk j _ _ hHi hHo
  generalize Hin[j]=bi at hin hkj hHi
  generalize Hout[j]=bo at hkj hHo
  have hblk:blkOk (c.lend (cG ρ ids)) c' ρr j (gM (dq ρ ids j) bo):=by
   refine hH.1 j _ ?_
   rw [List.getElem?_append_left (by omega),nF,Nat.zero_add,hHo];rfl
  have hro:ro2 ids S.nx ρ ρr i=ρr j:=sI hd hj
  cases hS:ae S.H i with
  | none=>rw [hS] at hin;unfold inO at hin;exact hin.elim
  | some a=>
   have hold:=h.1.heap i a hS
   rw [hS] at hin
   have var: ∀{n g d} {b:Nat},bo= .var n g d→dq ρ ids j=b→ρ i=some (.pointer (some ⟨b,0,none⟩))→am ρ i=some b→c0.mine b∧ρr j=some (.pointer (some ⟨b,0,none⟩))∧Var c' b (rV (ro2 ids S.nx ρ ρr) n g) (ren (sg ids S.nx) d):=by
    intro n g d b e hb hp hbo
    subst e
    simp only [gM,hb] at hblk
    obtain ⟨g1,g2,g3,T,cs,g4,g5,g6⟩:=hblk
    exact ⟨hmine b g2,g1,g3,T,cs,g4,g5,sE hsg g6⟩
   unfold inO at hin
   split at hin
   ·rename_i T n g z l T' n' g' z' l' e
    cases e
    rcases hkj with ⟨h1,_⟩|⟨_,h1⟩
    ·exact h1.elim
    ·refine ⟨bo,_,hHo,rfl,.inr ⟨h1,_,_,_,_,_,rfl⟩,?_⟩
     cases bo<;>simp only [fi] at h1
     simp only [gM] at hblk
     obtain ⟨x,g1,g2,g3,g4,g5⟩:=hblk
     simp only [jf,jh]
     exact ⟨x,hro.trans g1,g2,fun k hk=>hmine k (g3 k hk),g4,g5⟩
   ·rename_i n g d n' g' d' e
    cases e
    rcases hkj with ⟨_,h1⟩|⟨h1,_⟩
    ·obtain ⟨b,g1,_⟩:=hold
     have hbo:am ρ i=some b:=by simp [am,g1]
     cases bo<;>simp only [kb] at h1
     obtain ⟨k1,k2,k3⟩:=var rfl (by simp [dq,hj,hbo]) g1 hbo
     refine ⟨_,_,hHo,rfl,.inl ⟨trivial,fun x hx=> ?_⟩,?_⟩
     ·rw [g1] at hx;cases hx;exact k2
     ·simp only [jf,jh]
      exact ⟨b,hro.trans k2,k1,k3⟩
    ·exact h1.elim
   ·rename_i k0 n g d n' g' d' e
    cases e
    rcases hkj with ⟨_,h1⟩|⟨h1,_⟩
    ·obtain ⟨g1,_⟩:=hold
     have hbo:am ρ i=some k0:=by simp [am,g1]
     cases bo<;>simp only [kb] at h1
     obtain ⟨k1,k2,k3⟩:=var rfl (by simp [dq,hj,hbo]) g1 hbo
     refine ⟨_,_,hHo,rfl,.inl ⟨trivial,fun x hx=> ?_⟩,?_⟩
     ·rw [g1] at hx;cases hx;exact k2
     ·simp only [jf,jh]
      exact ⟨hro.trans k2,k1,k3⟩
    ·exact h1.elim
   ·exact hin.elim
 have hpr: ∀i x,bF (fj S.H ids) i=false→ρ i=some x→ro2 ids S.nx ρ ρr i=some x:=by
  intro i x hp hx
  have hilt:i<S.nx:=by
   rcases Nat.lt_or_ge i S.nx with h2|h2
   ·exact h2
   ·rw [h.2 i h2] at hx;cases hx
  by_cases hm:i∈ids
  ·obtain ⟨j,hj,e⟩:=List.getElem_of_mem hm
   have hj':ids[j]? =some i:=by rw [List.getElem?_eq_getElem hj,e]
   obtain ⟨b,a,_,h2,h3,_⟩:=hback j i hj'
   rcases h3 with ⟨_,h3⟩|⟨_,T,n,g,z,l,rfl⟩
   ·rw [sI hd hj'];exact h3 x hx
   ·have:=fu.2 (Bn h2 hm)
    rw [hp] at this;cases this
  ·rw [nI hm hilt];exact hx
 -- the blocks behind the call
 have hcase: ∀i b,ae (ig S.nx 0 (fP (sg ids S.nx) Hnew)++iu S.H (prH (bF (fj S.H ids)) S.H) ids (fP (sg ids S.nx) Hout)) i=some b→
   (∃(q:Nat) (b0:Blk),i=S.nx+q∧Hnew[q]? =some b0∧b=jf (sg ids S.nx) b0)∨(∃(j:Nat) (b0:Blk),ids[j]? =some i∧Hout[j]? =some b0∧b=jh (ae S.H i) (jf (sg ids S.nx) b0))∨(i∉ids∧ ∃b0,ae S.H i=some b0∧b=prB (bF (fj S.H ids)) b0):=by
  intro i b hb
  have rest:ae (iu S.H (prH (bF (fj S.H ids)) S.H) ids (fP (sg ids S.nx) Hout)) i=some b→(∃(j:Nat) (b0:Blk),ids[j]? =some i∧Hout[j]? =some b0∧b=jh (ae S.H i) (jf (sg ids S.nx) b0))∨(i∉ids∧ ∃b0,ae S.H i=some b0∧b=prB (bF (fj S.H ids)) b0):=by
   intro hb
   by_cases hm:i∈ids
   ·obtain ⟨j,hj,e⟩:=List.getElem_of_mem hm
    have hj':ids[j]? =some i:=by rw [List.getElem?_eq_getElem hj,e]
    obtain ⟨b0,_,h1,_⟩:=hback j i hj'
    have:=Bo (H0:=S.H) (h:=prH (bF (fj S.H ids)) S.H) (m:=fP (sg ids S.nx) Hout) hd hj' (by rw [wH,h1];rfl)
    rw [this] at hb
    cases hb
    exact .inl ⟨j,b0,hj',h1,rfl⟩
   ·rw [wL hm,Bj] at hb
    cases hS:ae S.H i with
    | none=>rw [hS] at hb;cases hb
    | some b0=>rw [hS] at hb;cases hb;exact .inr ⟨hm,b0,rfl,rfl⟩
  simp only [nk,rU,Nat.add_zero] at hb
  by_cases h1:S.nx≤i
  ·rw [if_pos h1,wH] at hb
   cases hq:Hnew[i - S.nx]? with
   | some x=>rw [hq] at hb;simp only [Option.map_some,Option.some.injEq] at hb;exact .inl ⟨i - S.nx,x,by omega,hq,hb.symm⟩
   | none=>rw [hq] at hb;exact .inr (rest hb)
  ·rw [if_neg h1] at hb;exact .inr (rest hb)
 have hnewOk: ∀q b,Hnew[q]? =some b→(∃T n g z l,b= .own T n g z l)∧blkOk (c.lend (cG ρ ids)) c' ρr (ids.length+q) b:=by
  intro q b hq
  have h1:=wK hn q b hq
  refine ⟨?_,hH.1 (ids.length+q) b ?_⟩
  ·cases b<;>simp only [fi] at h1
   exact ⟨_,_,_,_,_,rfl⟩
  ·rw [List.getElem?_append_right (by omega),hlO,Nat.add_sub_cancel_left];exact hq
 have hput: ∀(S':St),bw E c0 c' (ro2 ids S.nx ρ ρr) S' F→bw E c0 c' (ro2 ids S.nx ρ ρr) (S'.put d (ren (sg ids S.nx) r)) (cu F d v):=
  fun S' hS=>o5 hS (sE hsg hr)
 refine hput _ ⟨⟨hsince,h.1.gl.mono hpub,?_,?_,?_⟩,?_⟩
 ·intro t x ht
  simp only [Bi,Option.map_eq_some_iff] at ht
  obtain ⟨x0,hx0,rfl⟩:=ht
  exact nE hpr (bI hpub (h.1.slot t x0 hx0))
 ·intro i b hb
  rcases hcase i b hb with ⟨q,b0,rfl,hq,rfl⟩|⟨j,b0,hj,hb0,rfl⟩|⟨hm,b0,hS,rfl⟩
  ·obtain ⟨⟨T,n,g,z,l,rfl⟩,x,g1,g2,g3,g4⟩:=hnewOk q _ hq
   refine ⟨x,?_,g2,fun k hk=>hmine k (g3 k hk),g4⟩
   rw [hnew _ (Nat.le_add_right _ _),Nat.add_sub_cancel_left];exact g1
  ·obtain ⟨b1,a,h1,_,_,h4⟩:=hback j i hj
   rw [hb0] at h1;cases h1
   exact h4
  ·refine JQ hpr (fun x hx=> ?_) (JP hle hpub (fun hp x hx hY=> ?_) (h.1.heap i b0 hS))
   ·rw [nI hm (hold i b0 hS)];exact hx
   ·obtain ⟨i',a,h1,h2,h3,h4⟩:=mn h.1 hi hY
    exact h.1.sep i i' b0 a x (fun e=>hm (e▸h1)) hS h2 hp h3 hx h4
 · -- apart
  have hname: ∀i b,ae (ig S.nx 0 (fP (sg ids S.nx) Hnew)++iu S.H (prH (bF (fj S.H ids)) S.H) ids (fP (sg ids S.nx) Hout)) i=some b→aY b=true→
    (∃(q:Nat) (bq:Blk),(cr (dq ρ ids) 0 Hout++Hnew)[q]? =some bq∧ro2 ids S.nx ρ ρr i=ρr q∧i=sg ids S.nx q∧ ∀x,am ρr q=some x→(c.lend (cG ρ ids)).mine x)∨(i∉ids∧i<S.nx∧ ∃b0,ae S.H i=some b0∧aY b0=true):=by
   intro i b hb hp
   have hm9: ∀q bq,(cr (dq ρ ids) 0 Hout++Hnew)[q]? =some bq→aY bq=true→ ∀x,am ρr q=some x→(c.lend (cG ρ ids)).mine x:=by
    intro q bq hq hpq x hx
    have hb:=hH.1 q bq hq
    cases bq with
    | var n g d=>obtain ⟨b,g1,g2,_⟩:=hb;simp only [am,g1,Option.some.injEq] at hx;subst hx;exact g2
    | lent b n g d=>obtain ⟨g1,g2,_⟩:=hb;simp only [am,g1,Option.some.injEq] at hx;subst hx;exact g2
    | own T n g z l=>obtain ⟨u,g1,g2,g3,_,a,cap,e,_⟩:=hb;rw [eZ g1 e] at hx;exact g3 x hx
    | ownI T n g z l=>obtain ⟨u,g1,g2,g3,_,a,cap,e,_⟩:=hb;rw [eZ g1 e] at hx;exact g3 x hx
    | kset g k' n l=>obtain ⟨r,g1,g2,_⟩:=hb;simp only [am,g1,blk,Option.some.injEq] at hx;subst hx;exact g2
    | pvar n g d=>cases hpq
    | pown n g z l=>cases hpq
   rcases hcase i b hb with ⟨q,b0,rfl,hq,rfl⟩|⟨j,b0,hj,hb0,rfl⟩|⟨hm,b0,hS,rfl⟩
   ·obtain ⟨⟨T,n,g,z,l,rfl⟩,_⟩:=hnewOk q b0 hq
    have hq':(cr (dq ρ ids) 0 Hout++Hnew)[ids.length+q]? =some (.own T n g z l):=by
     rw [List.getElem?_append_right (by omega),hlO,Nat.add_sub_cancel_left];exact hq
    refine .inl ⟨ids.length+q,_,hq',?_,?_,hm9 _ _ hq' rfl⟩
    ·rw [hnew _ (Nat.le_add_right _ _),Nat.add_sub_cancel_left]
    ·simp only [sg,List.getElem?_eq_none (Nat.le_add_right _ _),Nat.add_sub_cancel_left]
   ·have hjl:=(List.getElem?_eq_some_iff.1 hj).1
    have hq':(cr (dq ρ ids) 0 Hout++Hnew)[j]? =some (gM (dq ρ ids j) b0):=by
     rw [List.getElem?_append_left (by omega),nF,Nat.zero_add,hb0];rfl
    refine .inl ⟨j,_,hq',sI hd hj,by simp only [sg,hj],hm9 _ _ hq' ?_⟩
    obtain ⟨b1,a,h1,_,h3,_⟩:=hback j i hj
    rw [hb0] at h1;cases h1
    rcases h3 with ⟨h3,_⟩|⟨h3,_⟩<;>cases b0<;>simp only [kb,fi] at h3<;>rfl
   ·exact .inr ⟨hm,hold i b0 hS,b0,hS,by rw [JL] at hp;exact hp⟩
  intro i j bi bj x hij hbi hbj hpi hpj hx hx'
  rcases hname i bi hbi hpi with ⟨q,bq,hq,e,ei,hmq⟩|⟨hm,hl,b0,hS,hp0⟩<;>rcases hname j bj hbj hpj with ⟨q',bq',hq',e',ej,hmq'⟩|⟨hm',hl',b0',hS',hp0'⟩
  ·rw [blkOf_eq2 e] at hx
   rw [blkOf_eq2 e'] at hx'
   exact hH.2.2 q q' bq bq' x (fun eq=>hij (by rw [ei,ej,eq])) hq hq' hx hx'
  ·rw [blkOf_eq2 e] at hx
   rw [cZ (nI hm' hl')] at hx'
   have hlt':=fI hp0' (h.1.heap j b0' hS') x hx'
   rcases hmq x hx with h1|h1
   ·have h1:c.w.heap.size≤x:=h1
    omega
   ·obtain ⟨i',a,h1,h2,h3,h4⟩:=mn h.1 hi h1
    exact h.1.sep i' j a b0' x (fun e=>hm' (e▸h1)) h2 hS' h3 hp0' h4 hx'
  ·rw [blkOf_eq2 e'] at hx'
   rw [cZ (nI hm hl)] at hx
   have hlt':=fI hp0 (h.1.heap i b0 hS) x hx
   rcases hmq' x hx' with h1|h1
   ·have h1:c.w.heap.size≤x:=h1
    omega
   ·obtain ⟨i',a,h1,h2,h3,h4⟩:=mn h.1 hi h1
    exact h.1.sep i' i a b0 x (fun e=>hm (e▸h1)) h2 hS h3 hp0 h4 hx
  ·rw [cZ (nI hm hl)] at hx
   rw [cZ (nI hm' hl')] at hx'
   exact h.1.sep i j b0 b0' x hij hS hS' hp0 hp0' hx hx'
 ·intro i hi'
  simp only at hi'
  rw [hnew i (by omega)]
  exact hH.2.1 _ (by rw [List.length_append,hlO];omega)
where blkOf_eq2 {ρ ρ':Ro} {i j:Nat} (h:ρ' i=ρ j):am ρ' i=am ρ j:=by unfold am;rw [h]
theorem bL {f:FuncId} {caps vs:List V} {d:Option Nat} {ws:List V} {r:V} {Hin Hout Hnew:List Blk} (ids:List Nat) (hc:bp E f ws Hin r Hout Hnew) (hd:ids.Nodup) (hi:gO S.H ids ids Hin) (hm:mtL (gN S.H ids (vs++caps)) ws)
  (h:wfV r→aM E J k .normal (S.afterI ids Hout Hnew d r)):ja E J (some (.fn f caps)) (some vs) S d k:=by
 refine .inr ⟨hc.1,_,r,?_,h⟩
 intro c0 c ρ F us hs hus
 have hk:=hc.2.1
 simp only [Bool.and_eq_true] at hk
 have hrd:=iY hm (nG (ids:=ids) hs.1 hus)
 refine (show Calls E.P f us.toArray c.w _ from hc.2.2 (c.lend (cG ρ ids)) us (cf ρ ids) (dq ρ ids) (hs.1.gl.mono (c.pub_lend _)) (wM hs.1 hd hi) (fW (c.pub_lend _) hrd)).mono ?_
 rintro e w' ⟨v,c',ρr,rfl,rfl,hle,hr,hH⟩
 exact ⟨v,c',_,rfl,rfl,JR hs hd hi hk.1 hk.2 hle hr hH d,kF hr⟩
theorem Br {c c':Cx} {n:Nat} {g:Bool}: ∀{l:List V} {cs:List Value},gD l→bv (rV ro0 n g) c cs l→bv (rV ro0 n g) c' cs l
 | [],_,_,h=>h
 | a::l,cs,hf,h=>by
  simp only [gD,bv] at hf h⊢
  obtain ⟨c1,c2,e,⟨h1,h2⟩,h3⟩:=h
  exact ⟨c1,c2,e,⟨h1,o6 hf.1 h2⟩,Br hf.2 h3⟩
theorem Bs {α:Type} {f:α→V} (h: ∀x,dC (f x)): ∀{l:List α},gD (l.map f)
 | []=>trivial
 | a::l=>⟨h a,Bs h⟩
section
variable {D:Dr} {m i:Nat} {ll:List Oper} {R:List (Nat×bu)}
theorem JS {f:FuncId} {caps vs ws:List V} {d:Option Nat} {T n:Nat} {g:Bool} {z z':Option Bool} {l l':List V} (id:Nat) (hc:bp E f ws [.own T n g z l] (.own 0) [.own T n g z' l'] []) (hm:(bO D.ub i id&& !decide (id=S.nx))=true) (hi:gO S.H [id] [id] [.own T n g z l]) (ha:mtL (gN S.H [id] (vs++caps)) ws) (hfl:gD l')
  (h:ca E D m (i+1) ll ((i,⟨d,.own S.nx,some (S.nx,.own T n g z' l')⟩)::R)):gI E D m i ll R d S (some (.fn f caps)) (some vs):=by
 obtain ⟨hlen,hget⟩:=nH hi
 obtain ⟨b0,hb0,hp0,_⟩:=pu (hget 0 id _ rfl rfl)
 refine .inr (.inr ⟨hc.1,id,T,n,g,z',l',hm,⟨b0,hb0,hp0⟩,fun c0 c ρ F us hs hus=> ?_,h⟩)
 have hrd:=iY ha (nG (ids:=[id]) hs hus)
 refine (show Calls E.P f us.toArray c.w _ from hc.2.2 (c.lend (cG ρ [id])) us (cf ρ [id]) (dq ρ [id]) (hs.gl.mono (c.pub_lend _)) (wM hs (by simp) hi) (fW (c.pub_lend _) hrd)).mono ?_
 rintro e w' ⟨v,c',ρr,rfl,rfl,hle,hr,hH⟩
 obtain ⟨v',e1,hown,hge,hone,a,cap,es,hz⟩:=hH.1 0 _ rfl
 simp only [rd] at hr
 have ev:v'=v:=by rw [hr.1] at e1;exact (Option.some.inj e1).symm
 subst ev
 have hY: ∀k,k∈cG ρ [id]↔am ρ id=some k:=by
  intro k
  simp only [cG,List.mem_filterMap,List.mem_singleton]
  exact ⟨fun ⟨i,hi,hb⟩=>hi▸hb,fun hb=>⟨id,rfl,hb⟩⟩
 have hYlt: ∀k,k∈cG ρ [id]→k<c.w.heap.size:=fun k hk=>fI hp0 (hs.heap id b0 hb0) k ((hY k).1 hk)
 have hYX: ∀k,k∈cG ρ [id]→k∈c.X:=by
  intro k hk
  obtain ⟨i',a,h1,h2,h3,h4⟩:=mn hs hi hk
  have hb:=hs.heap i' a h2
  cases a with
  | var n g d=>obtain ⟨b,g1,_,g3⟩:=hb;simp only [am,g1,Option.some.injEq] at h4;subst h4;exact g3.1
  | lent b n g d=>obtain ⟨g1,_,g3⟩:=hb;simp only [am,g1,Option.some.injEq] at h4;subst h4;exact g3.1
  | own T n g z l=>obtain ⟨u,g1,g2,_,_,a,cap,e,_⟩:=hb;rw [eZ g1 e] at h4;exact g2.isX k h4
  | ownI T n g z l=>obtain ⟨u,g1,g2,_,_,a,cap,e,_⟩:=hb;rw [eZ g1 e] at h4;exact g2.isX k h4
  | kset g k' n l=>obtain ⟨r,g1,_,g3⟩:=hb;simp only [am,g1,blk,Option.some.injEq] at h4;subst h4;exact g3.1
  | pvar n g d=>cases h3
  | pown n g z l=>cases h3
 refine ⟨v',{X:=cG ρ [id]++c'.X,w:=c'.w,ok:=fun k hk=> ?_},rfl,rfl,⟨hle.below.os,hle.below.tape,hle.below.output,hle.below.size,fun k hk hne=>hle.below.block k hk (fun hy=>hne ((hY k).1 hy)),fun k hk=> ?_,fun k hk=>hYX k ((hY k).2 hk)⟩,⟨hown.1,?_⟩,fun k hk=> ?_,hone,a,cap,es,hz⟩
 ·rcases List.mem_append.1 hk with hk|hk
  ·exact Nat.lt_of_lt_of_le (hYlt k hk) hle.below.size
  ·exact c'.ok k hk
 ·simp only [List.mem_append]
  by_cases hy:k∈cG ρ [id]
  ·exact ⟨fun _=>hYX k hy,fun _=> .inl hy⟩
  ·exact ⟨fun h'=>(hle.old k hk hy).1 (h'.resolve_left hy),fun h'=> .inr ((hle.old k hk hy).2 h')⟩
 ·rcases hown.2 with h'|⟨g',cp,cur,e,k1,k2,k3,k4,k5,k6⟩
  ·exact .inl h'
  ·exact .inr ⟨g',cp,cur,e,List.mem_append.2 (.inr k1),k2,k3,k4,k5,Br hfl k6⟩
 ·rcases hge k hk with h'|h'
  ·exact .inr h'
  ·exact .inl ((hY k).1 h')
theorem iv {f:FuncId} {caps vs ws:List V} {d:Option Nat} {n:Nat} {g:Bool} {d0 d1 r:V} (id:Nat) {b0 b1:Blk} (hc:bp E f ws [.var n g d0] r [.var n g d1] []) (hb0:ae S.H id=some b0) (hb1:jh (some b0) (.var n g d1)=b1) (hm:bO D.ub i id=true) (hi:gO S.H [id] [id] [.var n g d0]) (ha:mtL (gN S.H [id] (vs++caps)) ws) (hpr:dA r) (hpd:dA d1)
  (h:ca E D m (i+1) ll ((i,⟨d,r,some (id,b1)⟩)::R)):gI E D m i ll R d S (some (.fn f caps)) (some vs):=by
 obtain ⟨hlen,hget⟩:=nH hi
 have hin:=hget 0 id _ rfl rfl
 rw [hb0] at hin
 have hk:aY b1=true:=by
  subst hb1
  cases b0<;>rfl
 refine .inr (.inl ⟨hc.1,r,id,b1,hm,hk,⟨b0,hb0,?_⟩,fun c0 c ρ F us hs hus=> ?_,h⟩)
 ·obtain ⟨a,e,h1,_⟩:=pu hin
  cases e;exact h1
 have hrd:=iY ha (nG (ids:=[id]) hs hus)
 refine (show Calls E.P f us.toArray c.w _ from hc.2.2 (c.lend (cG ρ [id])) us (cf ρ [id]) (dq ρ [id]) (hs.gl.mono (c.pub_lend _)) (wM hs (by simp) hi) (fW (c.pub_lend _) hrd)).mono ?_
 rintro e w' ⟨v,c',ρr,rfl,rfl,hle,hr,hH⟩
 obtain ⟨e1,hmi,hv1,T,cs,g4,g5,g6⟩:=hH.1 0 _ rfl
 have hblk:=hs.heap id b0 hb0
 have key: ∃k,ρ id=some (.pointer (some ⟨k,0,none⟩))∧c0.mine k∧k∈c.X∧(∀q,b0= .lent q n g d0→True):=by
  cases b0 with
  | var n' g' d'=>
   obtain ⟨b,h1,h2,h3⟩:=hblk
   exact ⟨b,h1,h2,h3.1,fun _ _=>trivial⟩
  | lent q n' g' d'=>
   obtain ⟨h1,h2,h3⟩:=hblk
   exact ⟨_,h1,h2,h3.1,fun _ _=>trivial⟩
  | _=>simp only [inO] at hin
 obtain ⟨k,hk1,hk2,hk3,_⟩:=key
 have hbo:am ρ id=some k:=by simp [am,hk1]
 have hK:dq ρ [id] 0=k:=by simp [dq,hbo]
 rw [hK] at e1 hmi hv1 g4
 have hY: ∀q,q∈cG ρ [id]↔q=k:=by
  intro q
  simp only [cG,List.mem_filterMap,List.mem_singleton]
  constructor
  ·rintro ⟨i,rfl,hb⟩;rw [hbo] at hb;exact (Option.some.inj hb).symm
  ·rintro rfl;exact ⟨id,rfl,hbo⟩
 refine ⟨v,c',rfl,rfl,⟨hle.below.os,hle.below.tape,hle.below.output,hle.below.size,fun q hq hne=>hle.below.block q hq (fun hy=>hne (by rw [hbo,(hY q).1 hy])),fun q hq=> ?_,fun q hq=> ?_⟩,?_,jK hpr hr⟩
 ·by_cases hq':q=k
  ·subst hq';exact ⟨fun _=>hk3,fun _=>hv1⟩
  ·exact hle.old q hq (fun hy=>hq' ((hY q).1 hy))
 ·rw [hbo] at hq;cases hq;exact hk3
 ·have hvar:Var c' k (rV ρ n g) d1:=⟨hv1,T,cs,g4,g5,jK hpd g6⟩
  subst hb1
  cases b0 with
  | var n' g' d'=>exact ⟨k,hk1,hk2,hvar⟩
  | lent q n' g' d'=>
   obtain ⟨h1,_⟩:=hblk
   rw [hk1] at h1
   cases h1
   exact ⟨hk1,hk2,hvar⟩
  | _=>simp only [inO] at hin
end
def sJ (E:Env) (S:St) (ks:Nat→Nat) (v r:V) (Hout Hnew:List Blk):Prop:=
 ∀c0 c ρ F u,bw E c0 c ρ S F→rd ρ c v u→ ∃c1 ρ1,c1.w=c.w∧c0.leY c1∧rd ρ1 c1 r u∧pt c0 c1 ρ1 (cr ks 0 Hout++Hnew)
def pw (E:Env) (rs:List ResultVar) (ks:Nat→Nat) (r:V) (Hout Hnew:List Blk):Exit→St→Prop
 | .ret,S=>match gG E.tb S rs with
  | some vs=>sJ E S ks (fL vs) r Hout Hnew
  | none=>False
 | .normal,S=>match gG E.tb S rs with
  | some vs=>sJ E S ks (fL vs) r Hout Hnew
  | none=>False
 | _,_=>False
def wN (E:Env) (S:St) (ks:Nat→Nat) (r:V) (Hout Hnew:List Blk):Option (List V)→Prop
 | some vs=>sJ E S ks (fL vs) r Hout Hnew
 | none=>False
theorem JT {rs:List ResultVar} {ks:Nat→Nat} {r:V} {Hout Hnew:List Blk}:pw E rs ks r Hout Hnew .ret S=wN E S ks r Hout Hnew (gG E.tb S rs):=Eq.trans rfl rfl
theorem JU {rs:List ResultVar} {ks:Nat→Nat} {r:V} {Hout Hnew:List Blk}:pw E rs ks r Hout Hnew .normal S=wN E S ks r Hout Hnew (gG E.tb S rs):=Eq.trans rfl rfl
def mp (H:List (Nat×Blk)) (ids:List Nat):Option Blk→Blk→Prop
 | some (.own T n g z l),.own T' n' g' z' l'=>T=T'∧n=n'∧g=g'∧mtZ z z'∧mtL l l'
 | some (.lent k n g d),.lent k' n' g' d'=>k=k'∧n=n'∧g=g'∧mt (fO H ids d) d'
 | _,_=>False
def k9 (H:List (Nat×Blk)) (ids:List Nat):List Nat→List Blk→Prop
 | [],[]=>True
 | i::l,b::m=>mp H ids (ae H i) b∧k9 H ids l m
 | _,_=>False
theorem Bt {H:List (Nat×Blk)} {ids:List Nat}: ∀{l:List Nat} {m:List Blk},k9 H ids l m→l.length=m.length∧ ∀(j i:Nat) (b:Blk),l[j]? =some i→m[j]? =some b→mp H ids (ae H i) b
 | [],[],_=>⟨rfl,by simp⟩
 | i::l,b::m,h=>by
  simp only [k9] at h
  obtain ⟨h1,h2⟩:=Bt h.2
  refine ⟨by simp [h1],fun j i' b' hi hb=> ?_⟩
  cases j with
  | zero=>simp at hi hb;subst hi hb;exact h.1
  | succ j=>exact h2 j i' b' (by simpa using hi) (by simpa using hb)
 | [],_::_,h=>by simp [k9] at h
 | _::_,[],h=>by simp [k9] at h
theorem JV {H:List (Nat×Blk)} {ids:List Nat} {o:Option Blk} {b:Blk} (h:mp H ids o b): ∃a,o=some a∧aY a=true:=by
 unfold mp at h
 split at h
 ·exact ⟨_,rfl,rfl⟩
 ·exact ⟨_,rfl,rfl⟩
 ·exact h.elim
def Cx.giveI (c0 c:Cx) (L:List Nat) (h0:c0.w.heap.size≤c.w.heap.size) (h: ∀k∈L,k<c.w.heap.size):Cx:=
 {X:=c0.X.filter (fun k=>k∉c0.Y)++L,w:=c.w,ok:=fun k hk=>(by
  rcases List.mem_append.1 hk with hk|hk
  ·exact Nat.lt_of_lt_of_le (c0.ok k (List.mem_filter.1 hk).1) h0
  ·exact h k hk)}
theorem JW {c0 c:Cx} {L:List Nat} {h0:c0.w.heap.size≤c.w.heap.size} {h: ∀k∈L,k<c.w.heap.size} {x:Nat}:x∈(Cx.giveI c0 c L h0 h).X↔(x∈c0.X∧x∉c0.Y)∨x∈L:=by
 simp [Cx.giveI]
theorem JX {ks:Nat→Nat} {v r:V} {Hout Hnew:List Blk} (ids:List Nat) (ho:k9 S.H ids ids (cr ks 0 Hout++Hnew)) (hd:ids.Nodup) (hm:mt (fO S.H ids v) r):sJ E S ks v r Hout Hnew:=by
 intro c0 c ρ F u h hr
 obtain ⟨hlen,hget⟩:=Bt ho
 have hpriv: ∀i∈ids,∃a,ae S.H i=some a∧aY a=true:=by
  intro i hi
  obtain ⟨j,hj,e⟩:=List.getElem_of_mem hi
  exact JV (hget j i (cr ks 0 Hout++Hnew)[j] (by rw [List.getElem?_eq_getElem hj,e]) (List.getElem?_eq_getElem (by omega)))
 have hL: ∀x∈ids.filterMap (am ρ),x<c.w.heap.size∧c0.mine x∧x∈c.X∧ ∃i∈ids,am ρ i=some x:=by
  intro x hx
  obtain ⟨i,hi,hb⟩:=List.mem_filterMap.1 hx
  obtain ⟨a,h1,h2⟩:=hpriv i hi
  refine ⟨fI h2 (h.1.heap i a h1) x hb,iR h.1 h1 h2 x hb,?_,i,hi,hb⟩
  have hbk:=h.1.heap i a h1
  cases a with
  | var n g d=>obtain ⟨b,g1,_,g3⟩:=hbk;simp only [am,g1,Option.some.injEq] at hb;subst hb;exact g3.1
  | lent b n g d=>obtain ⟨g1,_,g3⟩:=hbk;simp only [am,g1,Option.some.injEq] at hb;subst hb;exact g3.1
  | own T n g z l=>obtain ⟨u,g1,g2,_,_,a,cap,e,_⟩:=hbk;rw [eZ g1 e] at hb;exact g2.isX x hb
  | ownI T n g z l=>obtain ⟨u,g1,g2,_,_,a,cap,e,_⟩:=hbk;rw [eZ g1 e] at hb;exact g2.isX x hb
  | kset g k' n l=>obtain ⟨r,g1,_,g3⟩:=hbk;simp only [am,g1,blk,Option.some.injEq] at hb;subst hb;exact g3.1
  | pvar n g d=>cases h2
  | pown n g z l=>cases h2
 generalize hc1:Cx.giveI c0 c (ids.filterMap (am ρ)) h.1.since.size (fun k hk=>(hL k hk).1)=c1
 have hw:c1.w=c.w:=by subst hc1;rfl
 have hX: ∀x,x∈c1.X↔(x∈c0.X∧x∉c0.Y)∨x∈ids.filterMap (am ρ):=by subst hc1;intro x;exact JW
 have hpub:c.pub c1:=by
  refine ⟨by rw [hw];exact Nat.le_refl _,fun k hk hx=>⟨fun h'=> ?_,by rw [hw];exact fun _ h _=>h⟩⟩
  rcases (hX k).1 h' with h'|h'
  ·exact hx (h.1.since.X k h'.1 h'.2)
  ·exact hx (hL k h').2.2.1
 have hle:c0.leY c1:=by
  refine ⟨by rw [hw];exact h.1.since.below,fun k hk hy=>⟨fun h'=> ?_,fun h'=>(hX k).2 (.inl ⟨h',hy⟩)⟩⟩
  rcases (hX k).1 h' with h'|h'
  ·exact h'.1
  ·rcases (hL k h').2.1 with h1|h1
   ·omega
   ·exact absurd h1 hy
 have hn: ∀i b,i∉ids→ae S.H i=some b→aY b=true→ ∀k,am ρ i=some k→k∉c1.X:=by
  intro i b hi hb hp k hk hmem
  rcases (hX k).1 hmem with h'|h'
  ·rcases iR h.1 hb hp k hk with h1|h1
   ·have:=c0.ok k h'.1;omega
   ·exact h'.2 h1
  ·obtain ⟨_,_,_,j,hj,hb'⟩:=hL k h'
   obtain ⟨a,h1,h2⟩:=hpriv j hj
   exact h.1.sep i j b a k (fun e=>hi (e▸hj)) hb h1 hp h2 hk hb'
 refine ⟨c1,cf ρ ids,hw,hle,fb hm (pq hw hpub h.1 hn hr),?_,?_,?_⟩
 ·intro q b hq
  have hql:q<ids.length:=by rw [hlen];exact (List.getElem?_eq_some_iff.1 hq).1
  obtain ⟨i,hi⟩: ∃i,ids[q]? =some i:=⟨_,List.getElem?_eq_getElem hql⟩
  have ho':=hget q i b hi hq
  have hmem:i∈ids:=List.mem_of_getElem? hi
  have hro:cf ρ ids q=ρ i:=by simp only [cf,hi]
  have hmemX: ∀x,am ρ i=some x→x∈c1.X:=fun x hx=>(hX x).2 (.inr (List.mem_filterMap.2 ⟨i,hmem,hx⟩))
  cases hS:ae S.H i with
  | none=>rw [hS] at ho';unfold mp at ho';exact ho'.elim
  | some a=>
   have hbk:=h.1.heap i a hS
   rw [hS] at ho'
   unfold mp at ho'
   split at ho'
   ·rename_i T n g z l T' n' g' z' l' e
    cases e
    obtain ⟨rfl,rfl,rfl,hz,hml⟩:=ho'
    obtain ⟨x,h1,h2,h3,h4,a,cap,e,h5⟩:=hbk
    refine ⟨x,hro.trans h1,Bm ⟨h2.1,?_⟩ hml,h3,h4,a,cap,by rw [←jP hml];exact e,kP hz h5⟩
    rcases h2.2 with h'|⟨g',cp,cur,e2,k1,k2,k3,k4,k5,k6⟩
    ·exact .inl h'
    ·exact .inr ⟨g',cp,cur,e2,hmemX g' (by rw [eZ h1 e,e2];rfl),by rw [hw];exact k2,k3,k4,k5,dl hpub k6⟩
   ·rename_i k n g d k' n' g' d' e
    cases e
    obtain ⟨rfl,rfl,rfl,hm⟩:=ho'
    obtain ⟨h1,h2,h3,T,cs,h4,h5,h6⟩:=hbk
    exact ⟨hro.trans h1,h2,hmemX k (by simp [am,h1]),T,cs,by rw [hw];exact h4,h5,fb hm (pq hw hpub h.1 hn h6)⟩
   ·exact ho'.elim
 ·intro q hq
  simp only [cf]
  rw [List.getElem?_eq_none (by omega)]
 ·intro q q' bq bq' x hne hq hq' hk hk'
  have get: ∀{q:Nat} {b:Blk},(cr ks 0 Hout++Hnew)[q]? =some b→ ∃i a,ids[q]? =some i∧ae S.H i=some a∧aY a=true:=by
   intro q b hq
   have hql:q<ids.length:=by rw [hlen];exact (List.getElem?_eq_some_iff.1 hq).1
   have hi:ids[q]? =some ids[q]:=List.getElem?_eq_getElem hql
   obtain ⟨a,h1,h2⟩:=hpriv ids[q] (List.getElem_mem hql)
   exact ⟨_,a,hi,h1,h2⟩
  obtain ⟨i,a,g1,g2,g3⟩:=get hq
  obtain ⟨i',a',g1',g2',g3'⟩:=get hq'
  have hii:i≠i':=by
   rintro rfl
   exact hne (pr hd g1 g1')
  rw [blkOf_eq3 (show cf ρ ids q=ρ i by simp only [cf,g1])] at hk
  rw [blkOf_eq3 (show cf ρ ids q'=ρ i' by simp only [cf,g1'])] at hk'
  exact h.1.sep i i' a a' x hii g2 g2' g3 g3' hk hk'
where blkOf_eq3 {ρ ρ':Ro} {i j:Nat} (h:ρ' i=ρ j):am ρ' i=am ρ j:=by unfold am;rw [h]
theorem aU {ks:Nat→Nat} {vs:List V} {r:V} {Hout Hnew:List Blk} (ids:List Nat) (ho:k9 S.H ids ids (cr ks 0 Hout++Hnew)) (hd:ids.Nodup) (hm:mt (fO S.H ids (fL vs)) r):wN E S ks r Hout Hnew (some vs):=JX ids ho hd hm
def mq:Nat→List Blk→List (Nat×Blk)
 | _,[]=> []
 | i,b::l=>(i,b)::mq (i+1) l
theorem wO: ∀{l:List Blk} {i t:Nat},ae (mq i l) t=if i≤t then l[t - i]? else none
 | [],i,t=>by simp [mq,ae]
 | v::l,i,t=>by
  simp only [mq,ae,wO]
  by_cases h:i=t
  ·subst h;simp
  ·rw [if_neg h]
   by_cases h1:i≤t
   ·rw [if_pos h1,if_pos (by omega)]
    have:t - i=(t - (i+1))+1:=by omega
    rw [this,List.getElem?_cons_succ]
   ·rw [if_neg h1,if_neg (by omega)]
def wfB:Blk→Prop
 | .var _ _ d=>wfV d
 | .own _ _ _ _ l=>l.length≤LEN∧wfL l
 | _=>True
def px:List Blk→Prop
 | []=>True
 | b::l=>wfB b∧px l
theorem Bu: ∀{l:List Blk},(∀(j:Nat) (b:Blk),l[j]? =some b→wfB b)→px l
 | [],_=>trivial
 | b::l,h=>⟨h 0 b rfl,Bu fun j b' hb=>h (j+1) b' (by simpa using hb)⟩
theorem cE (hE:bC E) (hmo:E.P.follows .mixedOrders=true) {f:FuncId} {fn:Func} {code:Code} {ws:List V} {r:V} {Hin Hout Hnew:List Blk} {n:Nat} (J:cM) (hf:E.P.funcs[f]? =some fn) (hb:fn.body=some code) (hnt:fn.ntmps=n)
  (hsl:(fa n code&&decide (ws.length≤n)&& !(fn.name== "runtime.NumGoroutine"))=true) (hkn:(jg Hin Hout&&mm Hnew)=true)
  (h: ∀ks:Nat→Nat,wfL ws→px Hin→wpA E J code (pw E fn.results.toList ks r Hout Hnew) ⟨iX 0 ws,mq 0 (cr ks 0 Hin),Hin.length⟩):bp E f ws Hin r Hout Hnew:=by
 simp only [Bool.and_eq_true,Bool.not_eq_true',decide_eq_true_eq] at hsl
 refine ⟨fun aas w=> ?_,hkn,fun c us ρ0 ks hg hin hus=> ?_⟩
 ·have hn: ¬fn.name= "runtime.NumGoroutine" :=by simpa using hsl.2
  simp [callFunc,hf,hb,hn]
 have hlen:us.length=ws.length:=by
  have: ∀{l:List V} {cs:List Value},rdT ρ0 c l cs→cs.length=l.length:=by
   intro l
   induction l with
   | nil=>intro cs hc;simp only [rdT] at hc;subst hc;rfl
   | cons d l ih=>
    intro cs hc
    simp only [rdT] at hc
    obtain ⟨u,c2,rfl,_,h3⟩:=hc
    simp [ih h3]
  exact this hus
 have hwfB:px Hin:=by
  refine Bu fun j b hb=> ?_
  have h1:=hin.1 j (gM (ks j) b) (by rw [nF,Nat.zero_add,hb];rfl)
  cases b with
  | var n g d=>
   obtain ⟨_,_,_,T,cs,_,_,h6⟩:=h1
   exact kF h6
  | own T n g z l=>
   obtain ⟨v,_,h2,_⟩:=h1
   refine ⟨h2.1,?_⟩
   rcases h2.2 with ⟨_,_,rfl⟩|⟨g',cp,cur,e2,k1,k2,k3,k4,k5,k6⟩
   ·trivial
   ·exact uF (fX.2 k6)
  | _=>trivial
 have hall:=h ks (kG hus) hwfB
 refine (callsIn_wide (n:=1)).1 (callsIn_of_wp_marks hf hb trivial ?_ rfl)
 have hfr:Fr (mo:=yL) n (fun t=>(us.toArray++Array.replicate (n - us.toArray.size) undef).getD t undef) {tmps:=us.toArray++Array.replicate (fn.ntmps - us.toArray.size) undef,defers:=[]}:=by
  refine Fr.of ?_ rfl fun t=>by rw [hnt]
  simp [hnt];omega
 have hS:bw E c c ρ0 ⟨iX 0 ws,mq 0 (cr ks 0 Hin),Hin.length⟩ (fun t=>(us.toArray++Array.replicate (n - us.toArray.size) undef).getD t undef):=by
  refine ⟨⟨cB.refl c,hg,?_,?_,?_⟩,fun i hi=>hin.2.1 i (by rw [sF];exact hi)⟩
  ·intro t v ht
   rw [we] at ht
   simp only [Nat.zero_le,if_true,Nat.sub_zero] at ht
   obtain ⟨u,hu,hr⟩:=vz hus ht
   have hlt:t<us.length:=(List.getElem?_eq_some_iff.1 hu).1
   have:(us.toArray++Array.replicate (n - us.toArray.size) undef).getD t undef=u:=by
    have he:us[t]=u:=by simpa [List.getElem?_eq_getElem hlt] using hu
    simp [Array.getD_eq_getD_getElem?,Array.getElem?_append,hlt,he]
   rw [this];exact hr
  ·intro i b hb
   rw [wO] at hb
   simp only [Nat.zero_le,if_true,Nat.sub_zero] at hb
   exact hin.1 i b hb
  ·intro i j bi bj x hij hbi hbj _ _ hx
   rw [wO] at hbi hbj
   simp only [Nat.zero_le,if_true,Nat.sub_zero] at hbi hbj
   exact hin.2.2 i j bi bj x hij hbi hbj hx
 refine AH hE hmo code none _ c _ _ hsl.1.1 (.inl ⟨rfl,rfl⟩) ?_ c ρ0 _ _ _ [] hS hfr trivial hall
 rintro e a w ⟨c',ρ',S',F',ds,rfl,hS,hf',hd,hk⟩
 cases e with
 | ret=>
  simp only [pw] at hk
  split at hk
  ·rename_i vs hvs
   show LeavesInM _ _ _ _ _ _ a.defers .returning c'.w
   rw [hf'.df]
   refine sb hS hd fun c2 hS2=> ?_
   obtain ⟨u,hu,hr⟩:=wd hE hS2.1 hf' rfl hvs
   obtain ⟨c1,ρ1,e1,hle,hr1,hH⟩:=hk c c2 ρ' F' u hS2 hr
   exact ⟨u,hu,u,c1,ρ1,rfl,e1,hle,hr1,hH⟩
  ·exact hk.elim
 | normal=>
  simp only [pw] at hk
  split at hk
  ·rename_i vs hvs
   show LeavesInM _ _ _ _ _ _ a.defers .returning c'.w
   rw [hf'.df]
   refine sb hS hd fun c2 hS2=> ?_
   obtain ⟨u,hu,hr⟩:=wd hE hS2.1 hf' rfl hvs
   obtain ⟨c1,ρ1,e1,hle,hr1,hH⟩:=hk c c2 ρ' F' u hS2 hr
   exact ⟨u,hu,u,c1,ρ1,rfl,e1,hle,hr1,hH⟩
  ·exact hk.elim
 | _=>exact hk.elim
end
end Go.Proofs.YtgealhhkngbkbaaGreatDoor
namespace Go.Proofs.YtgealhhkngbkbaaGreatDoor
open Go.RowKit
attribute [go_sem] St.afterI prF prV prL prH prB fj fj.ownI1 sg iu jh fP jf ren ka cr gM mq gO inO k9 mp inV gN JT JU ig cond_true cond_false Nat.sub_self List.getElem?_nil Nat.reduceSub
theorem Bv {c:Cx} {ρ:Ro} {n:Nat} {g:Bool} {post:List V} (h0:ρ 0=some (.slice none 0 0)): ∀{pre:List V} {us:List Value},rdT ro0 c (pre++ .sl (some true) n g []::post) us→rdT ρ c (pre++ .own 0::post) us
 | [],us,h=>by
  simp only [List.nil_append,rdT] at h⊢
  obtain ⟨u,c2,e,h1,h2⟩:=h
  have e2:u= .slice none 0 0:=by
   simp only [rd,zOk] at h1
   obtain ⟨a,cap,e,_,⟨rfl,rfl⟩,_⟩:=h1
   exact e
  subst e2
  refine ⟨_,c2,e,?_,?_⟩
  ·simp only [rd];exact ⟨h0,rfl⟩
  ·exact oR (fun i v hi=>(sG hi).elim) h2
 | d::pre,us,h=>by
  simp only [List.cons_append,rdT] at h⊢
  obtain ⟨u,c2,e,h1,h2⟩:=h
  exact ⟨u,c2,e,dz (fun i v hi=>(sG hi).elim) h1,Bv h0 h2⟩
theorem JY {E:Env} {f:FuncId} {pre post:List V} {T n:Nat} {g:Bool} {r:V} {Hout Hnew:List Blk} (h:bp E f (pre++ .own 0::post) [.own T n g (some true) []] r Hout Hnew) (hone:g=false→n=1):aI E f (pre++ .sl (some true) n g []::post) r (Hout++Hnew):=by
 refine ⟨h.1,fun c us hY hg hus=> ?_⟩
 have hk:=h.2.1
 simp only [Bool.and_eq_true] at hk
 obtain ⟨hkl,hkk⟩:=wJ hk.1
 have hall: ∀(q:Nat) (b:Blk),Hout[q]? =some b→fi b:=by
  intro q b hb
  have hq:q<1:=by have:=(List.getElem?_eq_some_iff.1 hb).1;simp at hkl;omega
  have e:q=0:=by omega
  subst e
  rcases hkk 0 _ b rfl hb with ⟨h1,_⟩|⟨_,h1⟩
  ·exact h1.elim
  ·exact h1
 have hlent: ∀{l:List Blk} {i:Nat},(∀(q:Nat) (b:Blk),l[q]? =some b→fi b)→cr (fun _=>0) i l=l:=by
  intro l
  induction l with
  | nil=>intro i _;rfl
  | cons b l ih=>
   intro i hb
   have h1:=hb 0 b rfl
   simp only [cr]
   rw [ih fun q b hq=>hb (q+1) b (by simpa using hq)]
   cases b<;>simp only [fi] at h1<;>rfl
 refine (h.2.2 c us (fun i=>if i=0 then some (.slice none 0 0) else none) (fun _=>0) hg ?_ (Bv (by simp) hus)).mono ?_
 ·refine ⟨fun i b hb=> ?_,fun i hi=> ?_,fun i j bi bj k hij hi hj=> ?_⟩
  ·cases i with
   | zero=>
    simp [cr,gM] at hb;subst hb
    exact ⟨.slice none 0 0,by simp,Own.nil,fun k hk=>by simp [blk] at hk,hone,none,0,rfl,rfl,rfl⟩
   | succ i=>simp [cr] at hb
  ·have:i≠0:=by simp [cr] at hi;omega
   simp [this]
  ·cases i with
   | zero=>cases j with
    | zero=>exact absurd rfl hij
    | succ j=>simp [cr] at hj
   | succ i=>simp [cr] at hi
 ·rintro e w' ⟨v,c',ρ,rfl,rfl,hle,hr,hH⟩
  rw [hlent hall] at hH
  refine ⟨v,c',ρ,rfl,rfl,hle.le hY,hr,fun i b hb=>⟨?_,hH.1 i b hb⟩,hH.2.1,hH.2.2⟩
  have hb':fi b:=by
   rcases Nat.lt_or_ge i Hout.length with h1|h1
   ·rw [List.getElem?_append_left h1] at hb;exact hall i b hb
   ·rw [List.getElem?_append_right h1] at hb;exact wK hk.2 _ b hb
  cases b<;>simp only [fi] at hb'
  exact .inl ⟨_,_,_,_,_,rfl⟩
end Go.Proofs.YtgealhhkngbkbaaGreatDoor
namespace Go.Proofs.YtgealhhkngbkbaaGreatDoor
open Go.RowKit
section
variable {E:Env}
end
end Go.Proofs.YtgealhhkngbkbaaGreatDoor
namespace Go.Proofs.YtgealhhkngbkbaaGreatDoor
open Go.RowKit
class CM (E:outParam Env) {α:Type} (m:α) (f:outParam FuncId) (ws:outParam (List V)) (R:outParam (α→V)) (Hs:outParam (α→List Blk)):Prop where
  ok:aI E f ws (R m) (Hs m)
class DRD (id:Nat) (n m:outParam Nat) (wr:outParam (List Nat)) (wl:outParam (List (Nat×Nat))) (need:outParam (List (List Nat))) (ub:outParam (List (Nat×Nat))):Prop where
  ok:True
class CF {α:Type} (m:α) (P:outParam (α→Prop)):Prop where
  ok:P m
theorem cfU {α:Type} {x m:α} {P:α→Prop} (hx:x=m) [h:CF m P]:P x:=by subst hx;exact h.ok
theorem mpQ {a b:Prop} (h:a) (f:a→b:=by assumption):b:=f h
section
variable {E:Env} {J:cM} {k:List Ct} {S:St} {α:Type} {f:FuncId} {ws:List V} {R:α→V} {Hs:α→List Blk}
theorem cmQ {m:α} (h: ∀r,m=r→aI E f ws (R r) (Hs r)):CM E m f ws R Hs:=⟨h m rfl⟩
theorem cmU {x m:α} (hx:x=m) [h:CM E m f ws R Hs]:aI E f ws (R x) (Hs x):=by subst hx;exact h.ok
theorem cmH {x m:α} (hx:x=m) (h:CM E m f ws R Hs):aI E f ws (R x) (Hs x):=by subst hx;exact h.ok
theorem mr {β:Type} {c:Bool} {a b r:β} (hM:(if c=true then a else b)=r) (h:c=true):a=r:=by rw [if_pos h] at hM;exact hM
theorem mv {β:Type} {c:Bool} {a b r:β} (hM:(if c=true then a else b)=r) (h:c=false):b=r:=by rw [if_neg (by rw [h];decide)] at hM;exact hM
theorem kc {r:Res} {d:Option Nat} (h:kR E J r S d k):kR E J r S d k:=h
theorem Bw {v:Option V} {vs:Option (List V)} {d:Option Nat} (h:ja E J v vs S d k):ja E J v vs S d k:=h
theorem JZ {r:V} {H:List Blk} {o:Option (List V)} (h:l_ E S r H o):l_ E S r H o:=h
theorem lpP {K:St→Prop} (h:aM E J (.lp K::k) .normal S):aM E J (.lp K::k) .normal S:=h
theorem kd {id:Nat} {ops:Array Oper} (h:aM E J (.code (.region id ops true)::k) .normal S):aM E J (.code (.region id ops true)::k) .normal S:=h
theorem ke {id:Nat} {ops:Array Oper} {n m:Nat} {wr:List Nat} {wl:List (Nat×Nat)} {need:List (List Nat)} {ub:List (Nat×Nat)} [DRD id n m wr wl need ub] (hB:(wlB ops m wl&&ky n m ops wr need&&((List.range m).all fun i=>(need.getD i []).all fun j=>decide (j<i)))=true) (hU:ubB m need ub S.nx=true)
    (h:ca E ⟨J,S,wr,wl,need,ub,k⟩ m 0 ops.toList []):aM E J (.code (.region id ops true)::k) .normal S:=wp n m wr wl need ub hB hU h
section
variable {D:Dr} {m i:Nat} {l:List Oper} {L:List (Nat×bu)} {d:Option Nat}
theorem kf {nid:Nat} {r:Res} (h:cD E D m i l L d nid r):cD E D m i l L d nid r:=h
theorem Bx {v:Option V} {vs:Option (List V)} (h:gI E D m i l L d S v vs):gI E D m i l L d S v vs:=h
end
theorem Bz {ρ:Ro} {c:Cx} {x y:V} (hx: ∀u,rd ρ c x u→rd ρ c y u): ∀{l:List V} {q:Nat} {cs:List Value},rdC ρ c l cs→l[q]? =some x→rdC ρ c (l.set q y) cs
  | [],_,_,h,_=>h
  | a::l,0,cs,h,e=>by
    obtain ⟨u,c2,rfl,h1,h2,h3⟩:=h
    simp only [List.getElem?_cons_zero,Option.some.injEq] at e
    subst e
    exact ⟨u,c2,rfl,h1,hx u h2,h3⟩
  | a::l,q+1,cs,h,e=>by
    obtain ⟨u,c2,rfl,h1,h2,h3⟩:=h
    exact ⟨u,c2,rfl,h1,h2,Bz hx h3 (by simpa using e)⟩
theorem bT:True:=trivial
theorem mw {a b:Int} (h:0≤a∧a≤9223372036854775807) (hb:0<b):cm .i64 a b=a/b:=by
  have h1:a.tdiv b=a/b:=Int.tdiv_eq_ediv_of_nonneg h.1
  have h2:0≤a/b:=Int.ediv_nonneg h.1 (by omega)
  have h3:a/b≤a:=Int.ediv_le_self _ h.1
  have:=dM (a:=a/b) (b:=0) (by omega) (by omega)
  unfold cm
  rw [h1]
  simpa [ao] using this
theorem sK {a b:Int} (h:0≤a∧a≤9223372036854775807) (hb:0<b):aO .i64 a b=a% b:=Int.tmod_eq_emod_of_nonneg h.1
theorem eD {β:Type} [Inhabited β] {l:List β} {g:β→V} {i:Nat} (h:i<l.length) (d:V):elt (l.map g) i d=g (gt l (i:Int)):=c6 (i:=(i:Int)) h d
end
theorem omA {P:Prop} (h:P:=by
  first
    | exact omQ
    | (clear hM;first
      | (have h9:=hA0 (by first|assumption|omega);exact ax)
      | (have h9:=hA0 (by first|assumption|omega) (by first|assumption|omega);exact ax)
      | (have h9:=hA0 (by first|assumption|omega) (by first|assumption|omega) (by first|assumption|omega);exact ax)
      | (have h9:=hA0 (by first|assumption|omega) (by first|assumption|omega) (by first|assumption|omega) (by first|assumption|omega);exact ax)
      | (have h9:=hA1 (by first|assumption|omega);exact ax)
      | (have h9:=hA1 (by first|assumption|omega) (by first|assumption|omega);exact ax)
      | (have h9:=hA1 (by first|assumption|omega) (by first|assumption|omega) (by first|assumption|omega);exact ax))):P:=h
theorem auQ {P:Prop} (h:P:=by
  repeat' (first
    | ((first|(with_reducible refine cn ?_ ?_)|(with_reducible refine jT ?_ ?_)|(with_reducible refine kS ?_ ?_)|(with_reducible refine sn ?_ ?_)|(with_reducible refine so ?_ ?_))<;>(intro h0;(first|replace hM:=mr hM h0|replace hM:=mv hM h0);replace hF:=And.intro h0 hF;replace h0:=nzQ h0;(try have h1:=mpQ h0);(first|refine aA hF ?_|skip)))
    | (with_reducible refine kc ?_
       refine bP ?h9 ?_
       case h9=>exact omA
       first
         | (rw [c6 ?h9];case h9=>exact omA)
         | (rw [eD ?h9];case h9=>exact omA)
         | skip
       refine aA hF ?_)
    | (with_reducible refine kf ?_
       first
         | (refine iq ?h9 ?_;case h9=>exact omA)
         | (refine jU ?h9 (aD hF) ?_;case h9=>exact omA)
         | (refine jV ?h9 (aD hF) ?_;case h9=>exact omA)
         | (refine jY ?h9 (aD hF) ?_;case h9=>exact omA)
         | (refine jW ?h9 (aD hF) ?_;case h9=>exact omA)
         | (refine jX ?h9 (aD hF) ?_;case h9=>exact omA)
       first
         | (rw [c6 ?h9];case h9=>exact omA)
         | (rw [eD ?h9];case h9=>exact omA)
         | skip
       refine aA hF ?_)
    | (with_reducible refine Bw ?_
       replace hM:=au hM;obtain ⟨x0,hx0,hM⟩:=hM
       first
         | refine aV (cmU hx0) (aD hF) (aD hF) (fun hw0=> ?_)
         | refine io (cmU hx0) (aD hF) (aD hF) (fun hw0=> ?_)
       replace hw0:=nzQ hw0
       try have hq0:=nzQ (cfU hx0)
       refine aA hF ?_)
    | (with_reducible refine Bx ?_
       replace hM:=au hM;obtain ⟨x0,hx0,hM⟩:=hM
       first
         | refine cN (cmU hx0) (aD hF) (aD hF) ?_
         | refine cN (aI.pub (cmU hx0)) (aD hF) (aD hF) ?_
         | refine AU (cmU hx0) (aD hF) (aD hF) ?_
       try have hq0:=nzQ (cfU hx0)
       refine aA hF ?_)
    | (with_reducible refine kd ?_
       refine ke (by kernel_rfl) (by exact alQ) ?_
       refine aA hF ?_)
    | (with_reducible refine JZ ?_
       subst hM
       exact fc (eC hF))
    | (with_reducible refine lpP ?_
       refine aP ?_ _ ?h1 ?h2 ?h3 ⟨_,rfl,?h4,?h5,aN hM ?h6⟩
       case h6=>assumption
       case h1=>omega
       case h2=>first|exact sbQ|exact k8 (And.intro @kT (And.intro @kU hF))
       case h3=>first|exact sbQ|exact k8 (And.intro @kT (And.intro @kU hF))
       case h4=>first|trivial|exact omA|(repeat' (first|exact omA|apply And.intro))
       case h5=>exact omA))):P:=h
structure Hid (p:Prop):Prop where
  out:p
theorem slQ {P Q:Prop} (k:Q) (h:Hid Q→P:=by
  intro k hF hM
  (first|refine aA hF ?_|skip)
  repeat (first
      | (with_reducible refine kc ?_
         refine bP ?h9 ?_
         case h9=>exact omA
         first
           | (rw [c6 ?h9];case h9=>exact omA)
           | (rw [eD ?h9];case h9=>exact omA)
           | skip
         refine aA hF ?_)
      | (with_reducible refine kf ?_
         first
           | (refine iq ?h9 ?_;case h9=>exact omA)
           | (refine jU ?h9 (aD hF) ?_;case h9=>exact omA)
           | (refine jV ?h9 (aD hF) ?_;case h9=>exact omA)
           | (refine jY ?h9 (aD hF) ?_;case h9=>exact omA)
           | (refine jW ?h9 (aD hF) ?_;case h9=>exact omA)
           | (refine jX ?h9 (aD hF) ?_;case h9=>exact omA)
         first
           | (rw [c6 ?h9];case h9=>exact omA)
           | (rw [eD ?h9];case h9=>exact omA)
           | skip
         refine aA hF ?_)
      | (with_reducible refine kd ?_
         refine ke (by kernel_rfl) (by exact alQ) ?_
         refine aA hF ?_))
  revert hM;revert hF
  exact k.out):P:=h ⟨k⟩
theorem slA {A P Q:Prop} (a:A) (k:Q) (h:A→Hid Q→P:=by
  intro hA k hF hM
  replace hF:=And.intro hA hF
  (first|refine aA hF ?_|skip)
  repeat (first
      | (with_reducible refine kc ?_
         refine bP ?h9 ?_
         case h9=>exact omA
         first
           | (rw [c6 ?h9];case h9=>exact omA)
           | (rw [eD ?h9];case h9=>exact omA)
           | skip
         refine aA hF ?_)
      | (with_reducible refine kf ?_
         first
           | (refine iq ?h9 ?_;case h9=>exact omA)
           | (refine jU ?h9 (aD hF) ?_;case h9=>exact omA)
           | (refine jV ?h9 (aD hF) ?_;case h9=>exact omA)
           | (refine jY ?h9 (aD hF) ?_;case h9=>exact omA)
           | (refine jW ?h9 (aD hF) ?_;case h9=>exact omA)
           | (refine jX ?h9 (aD hF) ?_;case h9=>exact omA)
         first
           | (rw [c6 ?h9];case h9=>exact omA)
           | (rw [eD ?h9];case h9=>exact omA)
           | skip
         refine aA hF ?_)
      | (with_reducible refine kd ?_
         refine ke (by kernel_rfl) (by exact alQ) ?_
         refine aA hF ?_))
  revert hM;revert hF
  exact k.out):P:=h a ⟨k⟩
theorem aQ {P:Prop} {α:Type} {H W V Q:α→Prop} (k: ∀x,H x→W x→V x→Q x) (h:Hid (∀x,H x→W x→V x→Q x)→P:=by
  intro k hF hM
  replace hM:=au hM;obtain ⟨x0,hx0,hM⟩:=hM
  first
    | (with_reducible refine Bw ?_
       first
         | refine aV (cmU hx0) (aD hF) (aD hF) (fun hw0=> ?_)
         | refine io (cmU hx0) (aD hF) (aD hF) (fun hw0=> ?_)
       replace hw0:=nzQ hw0
       try have hq0:=nzQ (cfU hx0)
       (first|refine aA hF ?_|skip)
       repeat (first
           | (with_reducible refine kc ?_
              refine bP ?h9 ?_
              case h9=>exact omA
              first
                | (rw [c6 ?h9];case h9=>exact omA)
                | (rw [eD ?h9];case h9=>exact omA)
                | skip
              refine aA hF ?_)
           | (with_reducible refine kf ?_
              first
                | (refine iq ?h9 ?_;case h9=>exact omA)
                | (refine jU ?h9 (aD hF) ?_;case h9=>exact omA)
                | (refine jV ?h9 (aD hF) ?_;case h9=>exact omA)
                | (refine jY ?h9 (aD hF) ?_;case h9=>exact omA)
                | (refine jW ?h9 (aD hF) ?_;case h9=>exact omA)
                | (refine jX ?h9 (aD hF) ?_;case h9=>exact omA)
              first
                | (rw [c6 ?h9];case h9=>exact omA)
                | (rw [eD ?h9];case h9=>exact omA)
                | skip
              refine aA hF ?_)
           | (with_reducible refine kd ?_
              refine ke (by kernel_rfl) (by exact alQ) ?_
              refine aA hF ?_))
       revert hM;revert hF
       first|exact k.out x0 hx0 hw0 hq0|exact k.out x0 hx0 hw0 trivial)
    | (with_reducible refine Bx ?_
       first
         | refine cN (cmU hx0) (aD hF) (aD hF) ?_
         | refine cN (aI.pub (cmU hx0)) (aD hF) (aD hF) ?_
         | refine AU (cmU hx0) (aD hF) (aD hF) ?_
       try have hq0:=nzQ (cfU hx0)
       (first|refine aA hF ?_|skip)
       repeat (first
           | (with_reducible refine kc ?_
              refine bP ?h9 ?_
              case h9=>exact omA
              first
                | (rw [c6 ?h9];case h9=>exact omA)
                | (rw [eD ?h9];case h9=>exact omA)
                | skip
              refine aA hF ?_)
           | (with_reducible refine kf ?_
              first
                | (refine iq ?h9 ?_;case h9=>exact omA)
                | (refine jU ?h9 (aD hF) ?_;case h9=>exact omA)
                | (refine jV ?h9 (aD hF) ?_;case h9=>exact omA)
                | (refine jY ?h9 (aD hF) ?_;case h9=>exact omA)
                | (refine jW ?h9 (aD hF) ?_;case h9=>exact omA)
                | (refine jX ?h9 (aD hF) ?_;case h9=>exact omA)
              first
                | (rw [c6 ?h9];case h9=>exact omA)
                | (rw [eD ?h9];case h9=>exact omA)
                | skip
              refine aA hF ?_)
           | (with_reducible refine kd ?_
              refine ke (by kernel_rfl) (by exact alQ) ?_
              refine aA hF ?_))
       revert hM;revert hF
       first|exact k.out x0 hx0 trivial hq0|exact k.out x0 hx0 trivial trivial)):P:=h ⟨k⟩
theorem cdQ {P H1 N1 R1 Q1 H2 N2 R2 Q2:Prop} (k1:H1→N1→R1→Q1) (k2:H2→N2→R2→Q2) (h:Hid (H1→N1→R1→Q1)→Hid (H2→N2→R2→Q2)→P:=by
  intro k1 k2 hF hM
  (first|(with_reducible refine cn ?_ ?_)|(with_reducible refine jT ?_ ?_)|(with_reducible refine kS ?_ ?_)|(with_reducible refine sn ?_ ?_)|(with_reducible refine so ?_ ?_))
  · intro h0
    (first|replace hM:=mr hM h0|replace hM:=mv hM h0)
    replace hF:=And.intro h0 hF
    have hn:=nzQ h0
    try have h1:=mpQ hn
    (first|refine aA hF ?_|skip)
    repeat (first
        | (with_reducible refine kc ?_
           refine bP ?h9 ?_
           case h9=>exact omA
           first
             | (rw [c6 ?h9];case h9=>exact omA)
             | (rw [eD ?h9];case h9=>exact omA)
             | skip
           refine aA hF ?_)
        | (with_reducible refine kf ?_
           first
             | (refine iq ?h9 ?_;case h9=>exact omA)
             | (refine jU ?h9 (aD hF) ?_;case h9=>exact omA)
             | (refine jV ?h9 (aD hF) ?_;case h9=>exact omA)
             | (refine jY ?h9 (aD hF) ?_;case h9=>exact omA)
             | (refine jW ?h9 (aD hF) ?_;case h9=>exact omA)
             | (refine jX ?h9 (aD hF) ?_;case h9=>exact omA)
           first
             | (rw [c6 ?h9];case h9=>exact omA)
             | (rw [eD ?h9];case h9=>exact omA)
             | skip
           refine aA hF ?_)
        | (with_reducible refine kd ?_
           refine ke (by kernel_rfl) (by exact alQ) ?_
           refine aA hF ?_))
    revert hM;revert hF
    first|exact k1.out h0 hn h1|exact k1.out h0 hn trivial
  · intro h0
    (first|replace hM:=mr hM h0|replace hM:=mv hM h0)
    replace hF:=And.intro h0 hF
    have hn:=nzQ h0
    try have h1:=mpQ hn
    (first|refine aA hF ?_|skip)
    repeat (first
        | (with_reducible refine kc ?_
           refine bP ?h9 ?_
           case h9=>exact omA
           first
             | (rw [c6 ?h9];case h9=>exact omA)
             | (rw [eD ?h9];case h9=>exact omA)
             | skip
           refine aA hF ?_)
        | (with_reducible refine kf ?_
           first
             | (refine iq ?h9 ?_;case h9=>exact omA)
             | (refine jU ?h9 (aD hF) ?_;case h9=>exact omA)
             | (refine jV ?h9 (aD hF) ?_;case h9=>exact omA)
             | (refine jY ?h9 (aD hF) ?_;case h9=>exact omA)
             | (refine jW ?h9 (aD hF) ?_;case h9=>exact omA)
             | (refine jX ?h9 (aD hF) ?_;case h9=>exact omA)
           first
             | (rw [c6 ?h9];case h9=>exact omA)
             | (rw [eD ?h9];case h9=>exact omA)
             | skip
           refine aA hF ?_)
        | (with_reducible refine kd ?_
           refine ke (by kernel_rfl) (by exact alQ) ?_
           refine aA hF ?_))
    revert hM;revert hF
    first|exact k2.out h0 hn h1|exact k2.out h0 hn trivial):P:=h ⟨k1⟩ ⟨k2⟩
theorem aW {P H2 N2 R2 Q2:Prop} (k2:H2→N2→R2→Q2) (h:Hid (H2→N2→R2→Q2)→P:=by
  intro k2 hF hM
  (first|(with_reducible refine cn ?_ ?_)|(with_reducible refine jT ?_ ?_)|(with_reducible refine kS ?_ ?_)|(with_reducible refine sn ?_ ?_)|(with_reducible refine so ?_ ?_))
  · clear k2
    intro h0
    (first|replace hM:=mr hM h0|replace hM:=mv hM h0)
    replace hF:=And.intro h0 hF
    replace h0:=nzQ h0
    (try have h1:=mpQ h0)
    (first|refine aA hF ?_|skip)
    exact auQ
  · intro h0
    (first|replace hM:=mr hM h0|replace hM:=mv hM h0)
    replace hF:=And.intro h0 hF
    have hn:=nzQ h0
    try have h1:=mpQ hn
    (first|refine aA hF ?_|skip)
    repeat (first
        | (with_reducible refine kc ?_
           refine bP ?h9 ?_
           case h9=>exact omA
           first
             | (rw [c6 ?h9];case h9=>exact omA)
             | (rw [eD ?h9];case h9=>exact omA)
             | skip
           refine aA hF ?_)
        | (with_reducible refine kf ?_
           first
             | (refine iq ?h9 ?_;case h9=>exact omA)
             | (refine jU ?h9 (aD hF) ?_;case h9=>exact omA)
             | (refine jV ?h9 (aD hF) ?_;case h9=>exact omA)
             | (refine jY ?h9 (aD hF) ?_;case h9=>exact omA)
             | (refine jW ?h9 (aD hF) ?_;case h9=>exact omA)
             | (refine jX ?h9 (aD hF) ?_;case h9=>exact omA)
           first
             | (rw [c6 ?h9];case h9=>exact omA)
             | (rw [eD ?h9];case h9=>exact omA)
             | skip
           refine aA hF ?_)
        | (with_reducible refine kd ?_
           refine ke (by kernel_rfl) (by exact alQ) ?_
           refine aA hF ?_))
    revert hM;revert hF
    first|exact k2.out h0 hn h1|exact k2.out h0 hn trivial):P:=h ⟨k2⟩
theorem aE {P H1 N1 R1 Q1:Prop} (k1:H1→N1→R1→Q1) (h:Hid (H1→N1→R1→Q1)→P:=by
  intro k1 hF hM
  (first|(with_reducible refine cn ?_ ?_)|(with_reducible refine jT ?_ ?_)|(with_reducible refine kS ?_ ?_)|(with_reducible refine sn ?_ ?_)|(with_reducible refine so ?_ ?_))
  · intro h0
    (first|replace hM:=mr hM h0|replace hM:=mv hM h0)
    replace hF:=And.intro h0 hF
    have hn:=nzQ h0
    try have h1:=mpQ hn
    (first|refine aA hF ?_|skip)
    repeat (first
        | (with_reducible refine kc ?_
           refine bP ?h9 ?_
           case h9=>exact omA
           first
             | (rw [c6 ?h9];case h9=>exact omA)
             | (rw [eD ?h9];case h9=>exact omA)
             | skip
           refine aA hF ?_)
        | (with_reducible refine kf ?_
           first
             | (refine iq ?h9 ?_;case h9=>exact omA)
             | (refine jU ?h9 (aD hF) ?_;case h9=>exact omA)
             | (refine jV ?h9 (aD hF) ?_;case h9=>exact omA)
             | (refine jY ?h9 (aD hF) ?_;case h9=>exact omA)
             | (refine jW ?h9 (aD hF) ?_;case h9=>exact omA)
             | (refine jX ?h9 (aD hF) ?_;case h9=>exact omA)
           first
             | (rw [c6 ?h9];case h9=>exact omA)
             | (rw [eD ?h9];case h9=>exact omA)
             | skip
           refine aA hF ?_)
        | (with_reducible refine kd ?_
           refine ke (by kernel_rfl) (by exact alQ) ?_
           refine aA hF ?_))
    revert hM;revert hF
    first|exact k1.out h0 hn h1|exact k1.out h0 hn trivial
  · clear k1
    intro h0
    (first|replace hM:=mr hM h0|replace hM:=mv hM h0)
    replace hF:=And.intro h0 hF
    replace h0:=nzQ h0
    (try have h1:=mpQ h0)
    (first|refine aA hF ?_|skip)
    exact auQ):P:=h ⟨k1⟩
theorem auP {P:Prop} (h:P:=by (first|refine aA hF ?_|skip);exact auQ):P:=h
theorem auR {P:Prop} (h:P:=by intro hF hM;(first|refine aA hF ?_|skip);exact auQ):P:=h
theorem lsQ {P:Prop} (h:P:=by (simp only [go_sem,fg,fh,List.length_replicate,dE,Int.toNat_natCast,↓reduceIte,Nat.reduceEqDiff,Nat.reduceAdd,Int.reduceAdd,Nat.reduceMul,Nat.reduceLeDiff,Nat.reduceLT,Int.reduceLE,Int.reduceLT,Int.reduceNeg,Int.reduceToNat,mt,mtL,nu,nt,mtZ,and_self,eq_self,or_true,true_or,pj,kT,kU,Int.reduceSub,or_self]<;>fail)):P:=h
theorem an {A P:Prop} (a:A) (h:A→P:=by (intro hA;simp only [go_sem,fg,fh,List.length_replicate,dE,Int.toNat_natCast,↓reduceIte,Nat.reduceEqDiff,Nat.reduceAdd,Int.reduceAdd,Nat.reduceMul,Nat.reduceLeDiff,Nat.reduceLT,Int.reduceLE,Int.reduceLT,Int.reduceNeg,Int.reduceToNat,mt,mtL,nu,nt,mtZ,and_self,eq_self,or_true,true_or,pj,kT,kU,Int.reduceSub,or_self,hA]<;>fail)):P:=h a
theorem sbG {P:Prop} (h:P:=by (simp only [go_sem,fg,fh,List.length_replicate,dE,Int.toNat_natCast,↓reduceIte,Nat.reduceEqDiff,Nat.reduceAdd,Int.reduceAdd,Nat.reduceMul,Nat.reduceLeDiff,Nat.reduceLT,Int.reduceLE,Int.reduceLT,Int.reduceNeg,Int.reduceToNat,List.isEmpty_nil,pj,sx,wA,fM,fN,mtO,mtB,mt,mtL,nu,nt,ltV,ltL,ltB,eq_self,or_true,true_or,or_self,and_self,kT,kU,Int.reduceSub]<;>fail)):P:=h
theorem nzB {P Q:Prop} (h:P) (e:P=Q:=by first|(simp only [px,wfB,decide_eq_true_eq,decide_eq_false_iff_not,Bool.and_eq_true,Bool.or_eq_true,Bool.not_eq_true',Bool.not_eq_false',beq_iff_eq,bne_iff_ne,beq_eq_false_iff_ne,bne_eq_false_iff_eq,ne_eq,Int.not_lt,Int.not_le,gt_iff_lt,ge_iff_le,List.length_map,wfL,wfV,and_true,true_and,mh,pg,wt,wu,wv,ph,nC,List.length_append,List.length_cons,List.length_nil,List.length_replicate,dE,pi,pk,pm,gK,je,ww,JA];rfl)|rfl):Q:=e▸h
end Go.Proofs.YtgealhhkngbkbaaGreatDoor
namespace Go.Proofs.YtgealhhkngbkbaaGreatDoor
open Go.RowKit
structure az where
 s:(List UInt8)
 bad:Bool
def wP:az:={s:=[],bad:=false}
instance:Inhabited az:=⟨wP⟩
@[go_sem] theorem PX:wP.s=[]:=Eq.trans rfl rfl
@[go_sem] theorem PY:wP.bad=false:=Eq.trans rfl rfl
structure aF where
 Y:(List Int)
 Bases:(List (List Int))
def fw:aF:={Y:=[],Bases:=[]}
instance:Inhabited aF:=⟨fw⟩
@[go_sem] theorem PZ:fw.Y=[]:=Eq.trans rfl rfl
@[go_sem] theorem P0:fw.Bases=[]:=Eq.trans rfl rfl
structure aa where
 Kind:Int
 Relation:aF
 L:(List aa)
def ji:aa:={Kind:=(0:Int),Relation:=fw,L:=[]}
instance:Inhabited aa:=⟨ji⟩
@[go_sem] theorem P1:ji.Kind=(0:Int):=Eq.trans rfl rfl
@[go_sem] theorem P2:ji.Relation=fw:=Eq.trans rfl rfl
@[go_sem] theorem P3:ji.L=[]:=Eq.trans rfl rfl
structure ak where
 P:Int
 Q:Int
 G:Int
def nJ:ak:={P:=(0:Int),Q:=(0:Int),G:=(0:Int)}
instance:Inhabited ak:=⟨nJ⟩
@[go_sem] theorem P4:nJ.P=(0:Int):=Eq.trans rfl rfl
@[go_sem] theorem P5:nJ.Q=(0:Int):=Eq.trans rfl rfl
@[go_sem] theorem P6:nJ.G=(0:Int):=Eq.trans rfl rfl
structure dg where
 A:(List Int)
 C:Int
 Z:(List Int)
def dZ:dg:={A:=[],C:=(0:Int),Z:=[]}
instance:Inhabited dg:=⟨dZ⟩
@[go_sem] theorem P7:dZ.A=[]:=Eq.trans rfl rfl
@[go_sem] theorem P8:dZ.C=(0:Int):=Eq.trans rfl rfl
@[go_sem] theorem P9:dZ.Z=[]:=Eq.trans rfl rfl
structure av where
 C:Int
 P:dg
 L:(List av)
def eE:av:={C:=(0:Int),P:=dZ,L:=[]}
instance:Inhabited av:=⟨eE⟩
@[go_sem] theorem P_:eE.C=(0:Int):=Eq.trans rfl rfl
@[go_sem] theorem Qa:eE.P=dZ:=Eq.trans rfl rfl
@[go_sem] theorem Qb:eE.L=[]:=Eq.trans rfl rfl
structure bm where
 Seed:(List Int)
 Counter:Int
def fx:bm:={Seed:=[0,0,0,0,0,0,0,0,0,0,0,0,0,0,0,0,0,0,0,0,0,0,0,0,0,0,0,0,0,0,0,0],Counter:=(0:Int)}
instance:Inhabited bm:=⟨fx⟩
@[go_sem] theorem Qc:fx.Seed=[0,0,0,0,0,0,0,0,0,0,0,0,0,0,0,0,0,0,0,0,0,0,0,0,0,0,0,0,0,0,0,0]:=Eq.trans rfl rfl
@[go_sem] theorem Qd:fx.Counter=(0:Int):=Eq.trans rfl rfl
structure bM where
 d:bm
 full:Bool
def wQ:bM:={d:=fx,full:=false}
instance:Inhabited bM:=⟨wQ⟩
@[go_sem] theorem Qe:wQ.d=fx:=Eq.trans rfl rfl
@[go_sem] theorem Qf:wQ.full=false:=Eq.trans rfl rfl
structure ar where
 g:ak
 d:bm
 e:Int
def sL:ar:={g:=nJ,d:=fx,e:=(0:Int)}
instance:Inhabited ar:=⟨sL⟩
@[go_sem] theorem Qg:sL.g=nJ:=Eq.trans rfl rfl
@[go_sem] theorem Qh:sL.d=fx:=Eq.trans rfl rfl
@[go_sem] theorem Qi:sL.e=(0:Int):=Eq.trans rfl rfl
structure cc where
 State:(List Int)
 Count:Int
def eO:cc:={State:=[0,0,0,0,0,0,0,0,0,0,0,0,0,0,0,0,0,0,0,0,0,0,0,0,0,0,0,0,0,0,0,0],Count:=(0:Int)}
instance:Inhabited cc:=⟨eO⟩
@[go_sem] theorem Qj:eO.State=[0,0,0,0,0,0,0,0,0,0,0,0,0,0,0,0,0,0,0,0,0,0,0,0,0,0,0,0,0,0,0,0]:=Eq.trans rfl rfl
@[go_sem] theorem Qk:eO.Count=(0:Int):=Eq.trans rfl rfl
structure aG where
 f:aa
 t:av
 k:(List Int)
 parts:(List aG)
 chosen:Int
 done:Bool
def mx:aG:={f:=ji,t:=eE,k:=[],parts:=[],chosen:=(0:Int),done:=false}
instance:Inhabited aG:=⟨mx⟩
@[go_sem] theorem Ql:mx.f=ji:=Eq.trans rfl rfl
@[go_sem] theorem Qm:mx.t=eE:=Eq.trans rfl rfl
@[go_sem] theorem Qn:mx.k=[]:=Eq.trans rfl rfl
@[go_sem] theorem Qo:mx.parts=[]:=Eq.trans rfl rfl
@[go_sem] theorem Qp:mx.chosen=(0:Int):=Eq.trans rfl rfl
@[go_sem] theorem Qq:mx.done=false:=Eq.trans rfl rfl
structure aJ where
 Kind:Int
 N:Int
 B:(List Int)
 L:(List aJ)
def py:aJ:={Kind:=(0:Int),N:=(0:Int),B:=[],L:=[]}
instance:Inhabited aJ:=⟨py⟩
@[go_sem] theorem Qr:py.Kind=(0:Int):=Eq.trans rfl rfl
@[go_sem] theorem Qt:py.N=(0:Int):=Eq.trans rfl rfl
@[go_sem] theorem Qu:py.B=[]:=Eq.trans rfl rfl
@[go_sem] theorem Qv:py.L=[]:=Eq.trans rfl rfl
def aw (x:aa):V:= .agg [.int .i64 x.Kind,.sl none 1 false (x.Relation.Y.map (V.int .i64)),.sl none 1 false (x.Relation.Bases.map (fun (l:List Int)=>V.sl none 1 false (l.map (V.int .i64)))),.sl none 4 true (x.L.map aw)]
termination_by SizeOf.sizeOf x
decreasing_by
 rename_i y h
 have:=List.sizeOf_lt_of_mem h
 cases x
 simp at*
 omega
attribute [go_sem] aw
def wR (x:aF):V:= .agg [.sl none 1 false (x.Y.map (V.int .i64)),.sl none 1 false (x.Bases.map (fun (l:List Int)=>V.sl none 1 false (l.map (V.int .i64))))]
attribute [go_sem] wR
def bB (x:av):V:= .agg [.int .i64 x.C,.sl none 1 false (x.P.A.map (V.int .i64)),.int .i64 x.P.C,.sl none 1 false (x.P.Z.map (V.int .i64)),.sl none 5 true (x.L.map bB)]
termination_by SizeOf.sizeOf x
decreasing_by
 rename_i y h
 have:=List.sizeOf_lt_of_mem h
 cases x
 simp at*
 omega
attribute [go_sem] bB
def J0 (x:dg):V:= .agg [.sl none 1 false (x.A.map (V.int .i64)),.int .i64 x.C,.sl none 1 false (x.Z.map (V.int .i64))]
attribute [go_sem] J0
def dO (x:bm):V:= .agg (.int .u8 (gt x.Seed 0):: .int .u8 (gt x.Seed 1):: .int .u8 (gt x.Seed 2):: .int .u8 (gt x.Seed 3):: .int .u8 (gt x.Seed 4):: .int .u8 (gt x.Seed 5):: .int .u8 (gt x.Seed 6):: .int .u8 (gt x.Seed 7):: .int .u8 (gt x.Seed 8):: .int .u8 (gt x.Seed 9):: .int .u8 (gt x.Seed 10):: .int .u8 (gt x.Seed 11):: .int .u8 (gt x.Seed 12):: .int .u8 (gt x.Seed 13):: .int .u8 (gt x.Seed 14):: .int .u8 (gt x.Seed 15):: .int .u8 (gt x.Seed 16):: .int .u8 (gt x.Seed 17):: .int .u8 (gt x.Seed 18):: .int .u8 (gt x.Seed 19):: .int .u8 (gt x.Seed 20):: .int .u8 (gt x.Seed 21):: .int .u8 (gt x.Seed 22):: .int .u8 (gt x.Seed 23):: .int .u8 (gt x.Seed 24):: .int .u8 (gt x.Seed 25):: .int .u8 (gt x.Seed 26):: .int .u8 (gt x.Seed 27):: .int .u8 (gt x.Seed 28):: .int .u8 (gt x.Seed 29):: .int .u8 (gt x.Seed 30):: .int .u8 (gt x.Seed 31):: .int .i64 x.Counter::[])
attribute [go_sem] dO
def sM:V:= .agg (.int .u32 0:: .int .u32 0:: .int .u32 0:: .int .u32 0:: .int .u32 0:: .int .u32 0:: .int .u32 0:: .int .u32 0:: .int .u32 0:: .int .u32 0:: .int .u32 0:: .int .u32 0:: .int .u32 0:: .int .u32 0:: .int .u32 0:: .int .u32 0:: .int .u32 0:: .int .u32 0:: .int .u32 0:: .int .u32 0:: .int .u32 0:: .int .u32 0:: .int .u32 0:: .int .u32 0:: .int .u32 0:: .int .u32 0:: .int .u32 0:: .int .u32 0:: .int .u32 0:: .int .u32 0:: .int .u32 0:: .int .u32 0:: .int .u32 0:: .int .u32 0:: .int .u32 0:: .int .u32 0:: .int .u32 0:: .int .u32 0:: .int .u32 0:: .int .u32 0:: .int .u32 0:: .int .u32 0:: .int .u32 0:: .int .u32 0:: .int .u32 0:: .int .u32 0:: .int .u32 0:: .int .u32 0:: .int .u32 0:: .int .u32 0:: .int .u32 0:: .int .u32 0:: .int .u32 0:: .int .u32 0:: .int .u32 0:: .int .u32 0:: .int .u32 0:: .int .u32 0:: .int .u32 0:: .int .u32 0:: .int .u32 0:: .int .u32 0:: .int .u32 0:: .int .u32 0::[])
attribute [go_sem] sM
def nK (l:(List Int)):V:= .agg (.int .u32 (gt l 0):: .int .u32 (gt l 1):: .int .u32 (gt l 2):: .int .u32 (gt l 3):: .int .u32 (gt l 4):: .int .u32 (gt l 5):: .int .u32 (gt l 6):: .int .u32 (gt l 7):: .int .u32 (gt l 8):: .int .u32 (gt l 9):: .int .u32 (gt l 10):: .int .u32 (gt l 11):: .int .u32 (gt l 12):: .int .u32 (gt l 13):: .int .u32 (gt l 14):: .int .u32 (gt l 15):: .int .u32 (gt l 16):: .int .u32 (gt l 17):: .int .u32 (gt l 18):: .int .u32 (gt l 19):: .int .u32 (gt l 20):: .int .u32 (gt l 21):: .int .u32 (gt l 22):: .int .u32 (gt l 23):: .int .u32 (gt l 24):: .int .u32 (gt l 25):: .int .u32 (gt l 26):: .int .u32 (gt l 27):: .int .u32 (gt l 28):: .int .u32 (gt l 29):: .int .u32 (gt l 30):: .int .u32 (gt l 31):: .int .u32 (gt l 32):: .int .u32 (gt l 33):: .int .u32 (gt l 34):: .int .u32 (gt l 35):: .int .u32 (gt l 36):: .int .u32 (gt l 37):: .int .u32 (gt l 38):: .int .u32 (gt l 39):: .int .u32 (gt l 40):: .int .u32 (gt l 41):: .int .u32 (gt l 42):: .int .u32 (gt l 43):: .int .u32 (gt l 44):: .int .u32 (gt l 45):: .int .u32 (gt l 46):: .int .u32 (gt l 47):: .int .u32 (gt l 48):: .int .u32 (gt l 49):: .int .u32 (gt l 50):: .int .u32 (gt l 51):: .int .u32 (gt l 52):: .int .u32 (gt l 53):: .int .u32 (gt l 54):: .int .u32 (gt l 55):: .int .u32 (gt l 56):: .int .u32 (gt l 57):: .int .u32 (gt l 58):: .int .u32 (gt l 59):: .int .u32 (gt l 60):: .int .u32 (gt l 61):: .int .u32 (gt l 62):: .int .u32 (gt l 63)::[])
attribute [go_sem] nK
def lc (l:(List Int)):V:= .agg [.int .u32 (gt l 0),.int .u32 (gt l 1),.int .u32 (gt l 2),.int .u32 (gt l 3),.int .u32 (gt l 4),.int .u32 (gt l 5),.int .u32 (gt l 6),.int .u32 (gt l 7)]
attribute [go_sem] lc
def wS:V:= .agg [.int .u32 0,.int .u32 0,.int .u32 0,.int .u32 0,.int .u32 0,.int .u32 0,.int .u32 0,.int .u32 0]
attribute [go_sem] wS
def my:V:= .agg (.int .u8 0:: .int .u8 0:: .int .u8 0:: .int .u8 0:: .int .u8 0:: .int .u8 0:: .int .u8 0:: .int .u8 0:: .int .u8 0:: .int .u8 0:: .int .u8 0:: .int .u8 0:: .int .u8 0:: .int .u8 0:: .int .u8 0:: .int .u8 0:: .int .u8 0:: .int .u8 0:: .int .u8 0:: .int .u8 0:: .int .u8 0:: .int .u8 0:: .int .u8 0:: .int .u8 0:: .int .u8 0:: .int .u8 0:: .int .u8 0:: .int .u8 0:: .int .u8 0:: .int .u8 0:: .int .u8 0:: .int .u8 0::[])
attribute [go_sem] my
def gP (l:(List Int)):V:= .agg (.int .u8 (gt l 0):: .int .u8 (gt l 1):: .int .u8 (gt l 2):: .int .u8 (gt l 3):: .int .u8 (gt l 4):: .int .u8 (gt l 5):: .int .u8 (gt l 6):: .int .u8 (gt l 7):: .int .u8 (gt l 8):: .int .u8 (gt l 9):: .int .u8 (gt l 10):: .int .u8 (gt l 11):: .int .u8 (gt l 12):: .int .u8 (gt l 13):: .int .u8 (gt l 14):: .int .u8 (gt l 15):: .int .u8 (gt l 16):: .int .u8 (gt l 17):: .int .u8 (gt l 18):: .int .u8 (gt l 19):: .int .u8 (gt l 20):: .int .u8 (gt l 21):: .int .u8 (gt l 22):: .int .u8 (gt l 23):: .int .u8 (gt l 24):: .int .u8 (gt l 25):: .int .u8 (gt l 26):: .int .u8 (gt l 27):: .int .u8 (gt l 28):: .int .u8 (gt l 29):: .int .u8 (gt l 30):: .int .u8 (gt l 31)::[])
attribute [go_sem] gP
def kg (x:bM):V:= .agg (.int .u8 (gt x.d.Seed 0):: .int .u8 (gt x.d.Seed 1):: .int .u8 (gt x.d.Seed 2):: .int .u8 (gt x.d.Seed 3):: .int .u8 (gt x.d.Seed 4):: .int .u8 (gt x.d.Seed 5):: .int .u8 (gt x.d.Seed 6):: .int .u8 (gt x.d.Seed 7):: .int .u8 (gt x.d.Seed 8):: .int .u8 (gt x.d.Seed 9):: .int .u8 (gt x.d.Seed 10):: .int .u8 (gt x.d.Seed 11):: .int .u8 (gt x.d.Seed 12):: .int .u8 (gt x.d.Seed 13):: .int .u8 (gt x.d.Seed 14):: .int .u8 (gt x.d.Seed 15):: .int .u8 (gt x.d.Seed 16):: .int .u8 (gt x.d.Seed 17):: .int .u8 (gt x.d.Seed 18):: .int .u8 (gt x.d.Seed 19):: .int .u8 (gt x.d.Seed 20):: .int .u8 (gt x.d.Seed 21):: .int .u8 (gt x.d.Seed 22):: .int .u8 (gt x.d.Seed 23):: .int .u8 (gt x.d.Seed 24):: .int .u8 (gt x.d.Seed 25):: .int .u8 (gt x.d.Seed 26):: .int .u8 (gt x.d.Seed 27):: .int .u8 (gt x.d.Seed 28):: .int .u8 (gt x.d.Seed 29):: .int .u8 (gt x.d.Seed 30):: .int .u8 (gt x.d.Seed 31):: .int .i64 x.d.Counter:: .bool x.full::[])
attribute [go_sem] kg
def pz:V:= .agg (.int .u8 0:: .int .u8 0:: .int .u8 0:: .int .u8 0:: .int .u8 0:: .int .u8 0:: .int .u8 0:: .int .u8 0:: .int .u8 0:: .int .u8 0:: .int .u8 0:: .int .u8 0:: .int .u8 0:: .int .u8 0:: .int .u8 0:: .int .u8 0:: .int .u8 0:: .int .u8 0:: .int .u8 0:: .int .u8 0:: .int .u8 0:: .int .u8 0:: .int .u8 0:: .int .u8 0:: .int .u8 0:: .int .u8 0:: .int .u8 0:: .int .u8 0:: .int .u8 0:: .int .u8 0:: .int .u8 0:: .int .u8 0:: .int .i64 0::[])
attribute [go_sem] pz
def bQ (x:ar):V:= .agg (.int .i64 x.g.P:: .int .i64 x.g.Q:: .int .i64 x.g.G:: .int .u8 (gt x.d.Seed 0):: .int .u8 (gt x.d.Seed 1):: .int .u8 (gt x.d.Seed 2):: .int .u8 (gt x.d.Seed 3):: .int .u8 (gt x.d.Seed 4):: .int .u8 (gt x.d.Seed 5):: .int .u8 (gt x.d.Seed 6):: .int .u8 (gt x.d.Seed 7):: .int .u8 (gt x.d.Seed 8):: .int .u8 (gt x.d.Seed 9):: .int .u8 (gt x.d.Seed 10):: .int .u8 (gt x.d.Seed 11):: .int .u8 (gt x.d.Seed 12):: .int .u8 (gt x.d.Seed 13):: .int .u8 (gt x.d.Seed 14):: .int .u8 (gt x.d.Seed 15):: .int .u8 (gt x.d.Seed 16):: .int .u8 (gt x.d.Seed 17):: .int .u8 (gt x.d.Seed 18):: .int .u8 (gt x.d.Seed 19):: .int .u8 (gt x.d.Seed 20):: .int .u8 (gt x.d.Seed 21):: .int .u8 (gt x.d.Seed 22):: .int .u8 (gt x.d.Seed 23):: .int .u8 (gt x.d.Seed 24):: .int .u8 (gt x.d.Seed 25):: .int .u8 (gt x.d.Seed 26):: .int .u8 (gt x.d.Seed 27):: .int .u8 (gt x.d.Seed 28):: .int .u8 (gt x.d.Seed 29):: .int .u8 (gt x.d.Seed 30):: .int .u8 (gt x.d.Seed 31):: .int .i64 x.d.Counter:: .int .i64 x.e::[])
attribute [go_sem] bQ
def iw (x:cc):V:= .agg (.int .u8 (gt x.State 0):: .int .u8 (gt x.State 1):: .int .u8 (gt x.State 2):: .int .u8 (gt x.State 3):: .int .u8 (gt x.State 4):: .int .u8 (gt x.State 5):: .int .u8 (gt x.State 6):: .int .u8 (gt x.State 7):: .int .u8 (gt x.State 8):: .int .u8 (gt x.State 9):: .int .u8 (gt x.State 10):: .int .u8 (gt x.State 11):: .int .u8 (gt x.State 12):: .int .u8 (gt x.State 13):: .int .u8 (gt x.State 14):: .int .u8 (gt x.State 15):: .int .u8 (gt x.State 16):: .int .u8 (gt x.State 17):: .int .u8 (gt x.State 18):: .int .u8 (gt x.State 19):: .int .u8 (gt x.State 20):: .int .u8 (gt x.State 21):: .int .u8 (gt x.State 22):: .int .u8 (gt x.State 23):: .int .u8 (gt x.State 24):: .int .u8 (gt x.State 25):: .int .u8 (gt x.State 26):: .int .u8 (gt x.State 27):: .int .u8 (gt x.State 28):: .int .u8 (gt x.State 29):: .int .u8 (gt x.State 30):: .int .u8 (gt x.State 31):: .int .i64 x.Count::[])
attribute [go_sem] iw
def sN (x:aG):V:= .agg [.int .i64 x.f.Kind,.sl none 1 false (x.f.Relation.Y.map (V.int .i64)),.sl none 1 false (x.f.Relation.Bases.map (fun (l:List Int)=>V.sl none 1 false (l.map (V.int .i64)))),.sl none 4 true (x.f.L.map aw),.int .i64 x.t.C,.sl none 1 false (x.t.P.A.map (V.int .i64)),.int .i64 x.t.P.C,.sl none 1 false (x.t.P.Z.map (V.int .i64)),.sl none 5 true (x.t.L.map bB),.sl none 1 false (x.k.map (V.int .i64)),.sl none 1 false (x.parts.map (fun y=>V.pp 13 true (sN y))),.int .i64 x.chosen,.bool x.done]
termination_by SizeOf.sizeOf x
decreasing_by
 rename_i h
 have:=List.sizeOf_lt_of_mem h
 cases x
 simp at*
 omega
def cH (x:aG):V:= .pp 13 true (sN x)
attribute [go_sem] cH
@[go_sem] theorem Qw (x:aG):sN x= .agg [.int .i64 x.f.Kind,.sl none 1 false (x.f.Relation.Y.map (V.int .i64)),.sl none 1 false (x.f.Relation.Bases.map (fun (l:List Int)=>V.sl none 1 false (l.map (V.int .i64)))),.sl none 4 true (x.f.L.map aw),.int .i64 x.t.C,.sl none 1 false (x.t.P.A.map (V.int .i64)),.int .i64 x.t.P.C,.sl none 1 false (x.t.P.Z.map (V.int .i64)),.sl none 5 true (x.t.L.map bB),.sl none 1 false (x.k.map (V.int .i64)),.sl none 1 false (x.parts.map cH),.int .i64 x.chosen,.bool x.done]:=by rw [sN];rfl
def cO (x:aJ):V:= .agg [.int .i64 x.Kind,.int .i64 x.N,.sl none 1 false (x.B.map (V.int .u8)),.sl none 4 true (x.L.map cO)]
termination_by SizeOf.sizeOf x
decreasing_by
 rename_i y h
 have:=List.sizeOf_lt_of_mem h
 cases x
 simp at*
 omega
attribute [go_sem] cO
def wT (x:ak):V:= .agg [.int .i64 x.P,.int .i64 x.Q,.int .i64 x.G]
attribute [go_sem] wT
end Go.Proofs.YtgealhhkngbkbaaGreatDoor
namespace Go.Proofs.YtgealhhkngbkbaaGreatDoor
open Go.RowKit
theorem J1 {C:Int→Bool} {n:Int} {F:(Int→Int)→Int→Int} (hF: ∀ag p,F ag p=if p<n then (if C p=true then p else ag (p+1)) else -1) {d:Int→Int}:
  ∀(fuel:Nat) (i:Int),0≤i→(n - i).toNat<fuel→(ah fuel F d i= -1∧ ∀j,i≤j→j<n→C j=false)∨(i≤ah fuel F d i∧ah fuel F d i<n∧C (ah fuel F d i)=true∧ ∀j,i≤j→j<ah fuel F d i→C j=false):=by
 intro fuel
 induction fuel with
 | zero=>intro i _ h;omega
 | succ k ih=>
  intro i h0 h
  rw [ah,hF]
  by_cases hi:i<n
  ·rw [if_pos hi]
   by_cases hc:C i=true
   ·rw [if_pos hc]
    exact .inr ⟨Int.le_refl _,hi,hc,fun j h1 h2=>by omega⟩
   ·rw [if_neg hc]
    have hc':C i=false:=by simpa using hc
    rcases ih (i+1) (by omega) (by omega) with ⟨h1,h2⟩|⟨h1,h2,h3,h4⟩
    ·refine .inl ⟨h1,fun j g1 g2=> ?_⟩
     by_cases e:j=i
     ·subst e;exact hc'
     ·exact h2 j (by omega) g2
    ·refine .inr ⟨by omega,h2,h3,fun j g1 g2=> ?_⟩
     by_cases e:j=i
     ·subst e;exact hc'
     ·exact h4 j (by omega) g2
  ·rw [if_neg hi]
   exact .inl ⟨rfl,fun j h1 h2=>by omega⟩
theorem aq {α β:Type} {a:α} {f:α→β}:ab a f=f a:=rfl
theorem aK {α:Type} [Inhabited α] {l:List α} {i:Int} (h:i.toNat<l.length):gt l i∈l:=by
 simp [gt,List.getD_eq_getElem?_getD,h]
theorem BA {α:Type} [Inhabited α] {l m:List α} (hl:l.length=m.length) (h: ∀i:Int,0≤i→i<l.length→gt l i=gt m i):l=m:=by
 refine List.ext_getElem hl fun i h1 h2=> ?_
 have:=h i (by omega) (by omega)
 simpa [gt,List.getD_eq_getElem?_getD,h1,h2] using this
theorem J2 {α β R:Type} [Inhabited α] {f:α→β} {E:Int×List β→R} {l:List α} {F:(Int×List β→R)→Int×List β→R} {d:Int×List β→R}
  (hF: ∀ag p,F ag p=if decide (p.1<(l.length:Int))=true then ag (p.1+1,p.2++[f (gt l p.1)]) else E p):
  ∀(fuel k:Nat) (a:List β),k≤l.length→l.length - k<fuel→ah fuel F d ((k:Int),a)=E ((l.length:Int),a++(l.drop k).map f):=by
 intro fuel
 induction fuel with
 | zero=>intro k a _ h;omega
 | succ n ih=>
  intro k a hl h
  rw [ah,hF]
  by_cases hk:k<l.length
  ·rw [if_pos (decide_eq_true (show (k:Int)<_ by omega))]
   have:=ih (k+1) (a++[f (gt l k)]) (by omega) (by omega)
   rw [show ((k+1:Nat):Int)=(k:Int)+1 by omega] at this
   have hg:gt l (k:Int)=l[k]:=by simp [gt,List.getD_eq_getElem?_getD,hk]
   show ah n F d ((k:Int)+1,a++[f (gt l (k:Int))])=_
   rw [this,List.drop_eq_getElem_cons hk,hg]
   simp only [List.map_cons,List.append_assoc,List.singleton_append]
  ·obtain rfl:k=l.length:=by omega
   rw [if_neg (by simp),List.drop_eq_nil_of_le (by omega)]
   simp
theorem J3 {α β R:Type} [Inhabited α] (f:α→β) {E:Int×List β→R} {l:List α} {F:(Int×List β→R)→Int×List β→R} {d:Int×List β→R}
  (hF: ∀ag p,F ag p=if decide (p.1<(l.length:Int))=true then ag (p.1+1,p.2++[f (gt l p.1)]) else E p):
  ah (((l.length:Int) - 0).toNat+1) F d (0,[])=E ((l.length:Int),l.map f):=by
 have:=J2 (d:=d) hF (((l.length:Int) - 0).toNat+1) 0 [] (by omega) (by omega)
 simpa using this
theorem J4 {α:Type} [Inhabited α] {l:List α} {C:α→Bool} {F:(Int→Int)→Int→Int} {d:Int→Int}
  (hF: ∀ag p,F ag p=if decide (p<(l.length:Int))=true then (if C (gt l p)=true then p else ag (p+1)) else -1):
  decide (ah (((l.length:Int) - 0).toNat+1) F d 0≥0)=l.any C:=by
 have hg: ∀(j:Int),0≤j→j<l.length→gt l j∈l:=fun j h0 h1=>aK (by omega)
 rcases J1 (C:=fun p=>C (gt l p)) (n:=(l.length:Int)) (F:=F) (d:=d) (fun ag p=>by rw [hF];by_cases hp:p<(l.length:Int)<;>simp [hp]) (((l.length:Int) - 0).toNat+1) 0 (by omega) (by omega) with ⟨h1,h2⟩|⟨h1,h2,h3,_⟩
 ·rw [h1]
  symm
  rw [show decide ((-1:Int)≥0)=false by decide,List.any_eq_false]
  intro x hx
  obtain ⟨i,hi,rfl⟩:=List.mem_iff_getElem.1 hx
  have:=h2 (i:Int) (by omega) (by omega)
  simpa [gt,List.getD_eq_getElem?_getD,hi] using this
 ·rw [decide_eq_true h1]
  symm
  exact List.any_eq_true.2 ⟨_,hg _ h1 h2,h3⟩
theorem eP {α R:Type} {P:α→Prop} {Q:R→Prop} {meas:α→Nat} {F:(α→R)→α→R} {d:α→R}
  (hs: ∀ag p,P p→(∀q,P q→meas q<meas p→Q (ag q))→Q (F ag p)): ∀(fuel:Nat) (p:α),P p→meas p<fuel→Q (ah fuel F d p):=by
 intro fuel
 induction fuel with
 | zero=>intro p _ h;omega
 | succ k ih=>
  intro p hp hm
  rw [ah]
  exact hs _ p hp fun q hq hlt=>ih q hq (by omega)
def nL {α σ R:Type} (st:α→σ→σ⊕R) (E:σ→R):List α→σ→R
 | [],s=>E s
 | a::l,s=>match st a s with
  | .inl s'=>nL st E l s'
  | .inr r=>r
theorem J5 {α σ R:Type} [Inhabited α] {l:List α} {st:α→σ→σ⊕R} {E:σ→R} {F:(Int×σ→R)→Int×σ→R} {d:Int×σ→R}
  (hF: ∀ag i s,F ag (i,s)=if i<(l.length:Int) then (match st (gt l i) s with| .inl s'=>ag (i+1,s')| .inr r=>r) else E s):
  ∀(fuel k:Nat) (s:σ),k≤l.length→l.length - k<fuel→ah fuel F d ((k:Int),s)=nL st E (l.drop k) s:=by
 intro fuel
 induction fuel with
 | zero=>intro k s _ h;omega
 | succ n ih=>
  intro k s hl h
  rw [ah,hF]
  by_cases hk:k<l.length
  ·rw [if_pos (by omega),List.drop_eq_getElem_cons hk]
   have hg:gt l (k:Int)=l[k]:=by simp [gt,List.getD_eq_getElem?_getD,hk]
   rw [hg]
   simp only [nL]
   cases st l[k] s with
   | inl s'=>
    have:=ih (k+1) s' (by omega) (by omega)
    rw [show ((k+1:Nat):Int)=(k:Int)+1 by omega] at this
    exact this
   | inr r=>rfl
  ·obtain rfl:k=l.length:=by omega
   rw [if_neg (by simp),List.drop_eq_nil_of_le (by omega)];rfl
theorem J6 {α σ R:Type} [Inhabited α] {l:List α} (st:α→σ→σ⊕R) (E:σ→R) {F:(Int×σ→R)→Int×σ→R} {d:Int×σ→R} {s:σ}
  (hF: ∀ag i s,F ag (i,s)=if i<(l.length:Int) then (match st (gt l i) s with| .inl s'=>ag (i+1,s')| .inr r=>r) else E s):
  ah (((l.length:Int) - 0).toNat+1) F d (0,s)=nL st E l s:=by
 have:=J5 (d:=d) hF (((l.length:Int) - 0).toNat+1) 0 s (by omega) (by omega)
 simpa using this
theorem BB {α σ R:Type} {g:α→σ→σ} {E:σ→R}: ∀{l:List α} {s:σ},nL (fun a s=> .inl (g a s)) E l s=E (l.foldl (fun s a=>g a s) s)
 | [],_=>rfl
 | a::l,s=>by simp only [nL,List.foldl_cons];exact BB
theorem BC {α:Type} [Inhabited α]: ∀{k:Nat} {i:Nat} {l:List α},l.length=i+k→gJ l k i=l.drop i
 | 0,i,l,h=>by simp [gJ,h]
 | k+1,i,l,h=>by
  have hi:i<l.length:=by omega
  rw [List.drop_eq_getElem_cons hi]
  simp only [gJ]
  have:=BC (k:=k) (i:=i+1) (l:=l) (by omega)
  rw [show ((i+1:Nat):Int)=(i:Int)+1 by omega] at this
  rw [this]
  simp [gt,List.getD_eq_getElem?_getD,hi]
theorem J7 {α:Type} [Inhabited α] {l:List α} {n:Nat} (h:l.length=n):bX n l=l:=by
 have:=BC (k:=n) (i:=0) (l:=l) (by omega)
 simpa [bX] using this
theorem BD {α:Type} [Inhabited α] {l:List α}: ∀{k:Nat} {i j:Nat},j<k→(gJ l k i).getD j default=gt l ((i+j:Nat):Int)
 | k+1,i,0,_=>by simp [gJ]
 | k+1,i,j+1,h=>by
  have:=BD (l:=l) (k:=k) (i:=i+1) (j:=j) (by omega)
  simp only [gJ,List.getD_cons_succ]
  rw [show ((i:Int)+1)=((i+1:Nat):Int) from rfl,this]
  congr 1;omega
theorem ld {α:Type} [Inhabited α] {f:α→V} {n:Nat} {l:List α} {i:Int} (h:0≤i∧i.toNat<n):((bX n l).map f).getD (0+i.toNat*1) .un=f (gt l i):=by
 have h1:(bX n l).length=n:=gK
 have h2:=BD (l:=l) (k:=n) (i:=0) (j:=i.toNat) h.2
 have h3:gt (bX n l) i=gt l i:=by
  rw [show gt (bX n l) i=(gJ l n ((0:Nat):Int)).getD i.toNat default from rfl,h2]
  congr 1;omega
 rw [←h3]
 simp [gt,List.getD_eq_getElem?_getD,h1,h.2]
theorem J8 {α:Type} [Inhabited α] {f:α→V} {n:Nat} {l:List α} {i:Int} (h:0≤i∧i.toNat<n):((bX n l).map f).getD (i.toNat*1) .un=f (gt l i):=by
 have:=ld (f:=f) (n:=n) (l:=l) (i:=i) h
 rwa [Nat.zero_add] at this
theorem pA {α:Type} [Inhabited α] {f:α→V} {l:List α} {n:Nat} {i:Int} (hl:l.length=n) (h:0≤i∧i.toNat<n):(l.map f).getD (i.toNat*1) .un=f (gt l i):=by
 subst hl
 simp [gt,List.getD_eq_getElem?_getD,h.2]
theorem sO {α:Type} [Inhabited α] {f:α→V} {n:Nat} {l:List α} {i:Int} {v:α} (hl:l.length=n) (h:0≤i∧i.toNat<n):(l.map f).take (0+i.toNat*1)++[f v]++(l.map f).drop (0+i.toNat*1+1)=(bX n (st l i v)).map f:=by
 rw [J7 (by rw [nC];exact hl)]
 unfold st
 rw [List.set_eq_take_append_cons_drop,if_pos (by omega)]
 simp [List.map_take,List.map_drop]
def lf {β:Type} (i:Nat):List (Nat×β)→List (Nat×β)
 | []=> []
 | (k,b)::l=>if k=i then lf i l else (k,b)::lf i l
attribute [go_sem] lf
theorem wU {β:Type} {i t:Nat} {b:β}: ∀{l:List (Nat×β)},ae (lf i l) t=some b→t≠i∧ae l t=some b
 | [],h=>by cases h
 | (k,x)::l,h=>by
  simp only [lf] at h
  split at h
  ·rename_i e
   obtain ⟨h1,h2⟩:=wU h
   exact ⟨h1,by simp only [ae];rw [if_neg (by omega)];exact h2⟩
  ·rename_i e
   simp only [ae] at h⊢
   split at h
   ·rename_i e2;exact ⟨by omega,by rw [if_pos e2];exact h⟩
   ·rename_i e2
    obtain ⟨h1,h2⟩:=wU h
    exact ⟨h1,by rw [if_neg e2];exact h2⟩
end Go.Proofs.YtgealhhkngbkbaaGreatDoor
namespace Go.Proofs.YtgealhhkngbkbaaGreatDoor
open Go.RowKit
def be:Nat→Int→List Int
 | 0,_=> []
 | k+1,n=>be k (n/256)++[n% 256]
theorem BE: ∀{k:Nat} {n:Int},(be k n).length=k
 | 0,_=>rfl
 | k+1,n=>by simp [be,BE (k:=k)]
theorem BF (n m:Int) (h:0<m):n% (256*m)=256*(n/256% m)+n% 256:=by
 have h1:=Int.mul_ediv_add_emod n 256
 have h2:=Int.mul_ediv_add_emod (n/256) m
 have h3:=Int.emod_nonneg (n/256) (show m≠0 by omega)
 have h4:=Int.emod_lt_of_pos (n/256) h
 generalize n/256% m=s at*
 generalize hq:n/256/m=t at*
 have e:n=(256*s+n% 256)+256*m*t:=by
  have:256*m*t=256*(m*t):=by rw [Int.mul_assoc]
  omega
 have e2:n% (256*m)=(256*s+n% 256)% (256*m):=by
  conv=>lhs;rw [e]
  rw [Int.add_mul_emod_self_left]
 rw [e2]
 exact Int.emod_eq_of_lt (by omega) (by omega)
theorem wV: ∀{k:Nat} {n m:Int},n% 256^k=m% 256^k→be k n=be k m
 | 0,_,_,_=>rfl
 | k+1,n,m,h=>by
  have hp:(0:Int)<256^k:=Int.pow_pos (by omega)
  rw [show (256:Int)^(k+1)=256*256^k by rw [Int.pow_succ,Int.mul_comm],BF _ _ hp,BF _ _ hp] at h
  have h1:=Int.emod_nonneg (n/256) (show (256:Int)^k≠0 by omega)
  have h2:=Int.emod_nonneg (m/256) (show (256:Int)^k≠0 by omega)
  simp only [be]
  rw [show n% 256=m% 256 by omega,wV (k:=k) (show n/256% 256^k=m/256% 256^k by omega)]
mutual
def hgt:aJ→Nat
 | ⟨_,_,b,l⟩=>1+b.length+cI l
def cI:List aJ→Nat
 | []=>0
 | x::l=>hgt x+cI l
end
theorem BG: ∀{l:List aJ} {x:aJ},x∈l→hgt x≤cI l
 | y::l,x,h=>by
  simp only [cI]
  rcases List.mem_cons.1 h with rfl|h
  ·omega
  ·have:=BG h;omega
theorem BH (i:aJ):hgt i=1+i.B.length+cI i.L:=by cases i;rfl
theorem sP {i x:aJ} (h:x∈i.L):hgt x<hgt i:=by
 have:=BG h
 rw [BH i];omega
mutual
def gQ:aJ→Int→Bool
 | ⟨k,n,b,l⟩,d=>if k==1 then b.isEmpty&&l.isEmpty else if k==2 then n==0&&l.isEmpty else if k==3 then n==0&&(b.isEmpty&&(decide (0<d)&&(decide (l.length≤1000)&&pB l (d - 1)))) else false
def pB:List aJ→Int→Bool
 | [],_=>true
 | x::l,d=>gQ x d&&pB l d
end
theorem BI: ∀{l:List aJ} {d:Int},pB l d=l.all (fun x=>gQ x d)
 | [],_=>rfl
 | x::l,d=>by simp only [pB,List.all_cons,BI (l:=l)]
theorem wrap_u64 {a:Int} (h0:0≤a) (h1:a<18446744073709551616):IntKind.wrap .u64 a=a:=by
 simp only [IntKind.wrap,IntKind.bits,IntKind.signed];simp;omega
mutual
def gR:List Int→aJ→List Int
 | out,⟨k,n,b,l⟩=>if out.length>16384 then out else if k==1 then out++(1::be 8 n) else if k==2 then out++(2::be 4 b.length)++b else sQ (out++(k% 256::be 4 l.length)) l
def sQ:List Int→List aJ→List Int
 | out,[]=>out
 | out,x::l=>sQ (gR out x) l
end
end Go.Proofs.YtgealhhkngbkbaaGreatDoor
namespace Go.Proofs.YtgealhhkngbkbaaGreatDoor
open Go.RowKit
end Go.Proofs.YtgealhhkngbkbaaGreatDoor
