/- Texts of this proof, one after the other: F, G1. -/
import Derived.Test.YtgealhhkngbkbaaGreatDoorZ4
import Derived.Test.YtgealhhkngbkbaaGreatDoorRows
import Derived.WalkKit
import Derived.ProofKit
import Derived.OpenShut
import Derived.JoinedCond
import Derived.WideKeyArgs
import Derived.Deep.Slices
import Derived.Test.YtgealhhkngbkbaaGreatDoorTie
import Derived.Lib.LaidTab
import Derived.MakeChecks
import Derived.Stop.LaidErr
import Derived.Shelf.Vars
set_option linter.unusedSimpArgs false
set_option linter.unusedVariables false
namespace Go.Proofs.YtgealhhkngbkbaaGreatDoor
open Go.ChangeShapes Go.WideShapes Go.ChangeAt Go.RowKit
def hO (w:World):Cx:=⟨[],w,(fun _ h=>by cases h),[]⟩
def dQ (E:Env) (Q:V→Prop) (T:TypeId) (B:Nat):Prop:=
 ∀(H:Type) (enc:TypeId×Value→H) (w:World) (fuel:Nat) (cs:List Value) (x:DataW H×List MemPlace),DataW.trod enc E.P w 0 (fun _=>true) true fuel T cs=some x→Rows.uptoBulk x.1≤B→
  ∃v,Q v∧iN (E.tb T).n (E.tb T).g cs∧rd ro0 (hO w) v (mkV (E.tb T).g cs)
abbrev dw (E:Env) (Q:V→Prop) (T:TypeId):Prop:=dQ E Q T 1048576
theorem dQ.le {E:Env} {Q:V→Prop} {T:TypeId} {B B':Nat} (h:dQ E Q T B) (hB:B'≤B):dQ E Q T B':=
 fun H enc w fuel cs x hx hb=>h H enc w fuel cs x hx (Nat.le_trans hb hB)
theorem dQ.zero {E:Env} {Q:V→Prop} {T:TypeId}:dQ E Q T 0:=fun H enc w fuel cs x hx hb=>by
 exfalso
 obtain ⟨x1,x2⟩:=x
 cases x1 with
 | lit l=>cases l<;>simp [Rows.uptoBulk] at hb
 | _=>simp [Rows.uptoBulk] at hb
theorem dQ.mono {E:Env} {Q Q':V→Prop} {T:TypeId} {B:Nat} (h:dQ E Q T B) (hq: ∀v,Q v→Q' v):dQ E Q' T B:=by
 intro H enc w fuel cs x hx hb
 obtain ⟨v,h1,h2⟩:=h H enc w fuel cs x hx hb
 exact ⟨v,hq v h1,h2⟩
theorem dw.mono {E:Env} {Q Q':V→Prop} {T:TypeId} (h:dw E Q T) (hq: ∀v,Q v→Q' v):dw E Q' T:=by
 intro H enc w fuel cs x hx hb
 obtain ⟨v,h1,h2⟩:=h H enc w fuel cs x hx hb
 exact ⟨v,hq v h1,h2⟩
theorem O4 {k:IntKind} {n:Int} (h:(Lit.int k n).wf=true):Rng k n:=by
 cases k<;>simpa [Lit.wf,Rng,IntKind.min,IntKind.max,IntKind.signed,IntKind.bits] using h
theorem qH {u:Value} (hu:u.oneCell'=true):iN 1 false [u]:=⟨rfl,fun _=>rfl,by simpa using hu⟩
section
variable {E:Env} (hE:bC E)
include hE
theorem yH {T:TypeId} (h:(E.tb T).ok=true) (hk:(E.tb T).k≤3):(E.tb T).g=false∧(E.tb T).n=1:=by
 obtain ⟨d,hd,hb⟩:=(hE.t T h).kind
 have hg:(E.tb T).g=false:=by
  cases d<;>simp only [bW,Bool.and_eq_true,decide_eq_true_eq,Bool.not_eq_true'] at hb<;>first|exact hb.2|omega
 exact ⟨hg,(hE.t T h).one hg⟩
theorem qI {T:TypeId} (h:(E.tb T).ok=true):E.P.cellsOf T=(E.tb T).n:=by
 obtain ⟨i,zv,h1,_,h2,_⟩:=(hE.t T h).info
 simp [Program.cellsOf,h1,h2]
theorem O5 {B:Nat} (hB:B≤1048576) {T:TypeId} (h:(E.tb T).ok=true) (hk:(E.tb T).k=0):dQ E (fun v=> ∃n,v= .int (E.tb T).ik n) T B:=by
 intro H enc w fuel cs x hx hb
 obtain ⟨n,rfl,_,hw⟩:=DataW.trod_int (iS hE h hk) hx
 obtain ⟨e1,e2⟩:=yH hE h (by omega)
 rw [e1,e2]
 exact ⟨_,⟨n,rfl⟩,qH rfl,⟨rfl,O4 hw⟩⟩
theorem O6 {B:Nat} (hB:B≤1048576) {T:TypeId} (h:(E.tb T).ok=true) (hk:(E.tb T).k=2):dQ E (fun v=> ∃s,v= .str s) T B:=by
 intro H enc w fuel cs x hx hb
 obtain ⟨s,rfl,rfl,_⟩:=DataW.trod_string (ie hE h hk) hx
 obtain ⟨e1,e2⟩:=yH hE h (by omega)
 rw [e1,e2]
 simp only [Rows.uptoBulk] at hb
 exact ⟨_,⟨s.data.toList,rfl⟩,qH rfl,rfl,by unfold LEN;omega⟩
omit hE in
theorem Ex {H:Type} {d:DataW H} {l:List (DataW H)} (h:d∈l):Rows.uptoBulk d≤Rows.uptoBulkAll l:=by
 induction l with
 | nil=>cases h
 | cons x r ih=>
  simp only [Rows.uptoBulkAll]
  cases List.mem_cons.1 h with
  | inl e=>subst e;omega
  | inr e=>have:=ih e;omega
omit hE in
theorem O7 {H:Type} (d:DataW H):1≤Rows.uptoBulk d:=by
 cases d with
 | lit l=>cases l<;>simp [Rows.uptoBulk]
 | _=>simp [Rows.uptoBulk]
omit hE in
theorem O8 {H:Type} (l:List (DataW H)):l.length≤Rows.uptoBulkAll l:=by
 induction l with
 | nil=>simp [Rows.uptoBulkAll]
 | cons x r ih=>have:=O7 x;simp only [Rows.uptoBulkAll,List.length_cons];omega
omit hE in
theorem O9 {a:Addr} {j:Nat} {w:World} {u:Value} (h:w.cell? (a.add j)=some u):(a.add j).spot=none:=by
 unfold World.cell? at h
 split at h
 ·split at h
  ·cases h
  ·rename_i hs;simpa using hs
 ·cases h
omit hE in
theorem O_ {a:Addr} {w:World} {u:Value} (h:w.cell? a=some u):a.block<w.heap.size:=by
 unfold World.cell? at h
 split at h
 ·rename_i hh;exact (Array.getElem?_eq_some_iff.1 hh).1
 ·cases h
omit hE in
theorem Pa (a:Addr) (i j:Nat):(a.add i).add j=a.add (i+j):=by
 unfold Addr.add
 by_cases h1:i=0
 ·subst h1;simp
 ·by_cases h2:j=0
  ·subst h2;simp
  ·simp [h1,h2,Nat.add_assoc]
theorem Ey {B:Nat} (hB:B≤1048576) {T:TypeId} {Q:V→Prop} (h:(E.tb T).ok=true) (hk:(E.tb T).k=3) (he:dQ E Q (E.tb T).el (B - 1)):
  dQ E (fun v=> ∃l:List V,(∀d∈l,Q d)∧v= .sl none (E.tb (E.tb T).el).n (E.tb (E.tb T).el).g l) T B:=by
 intro H enc w fuel cs x hx hb
 obtain ⟨hu,hel⟩:=dm hE h hk
 obtain ⟨e1,e2⟩:=yH hE h (by omega)
 have hc:=qI hE hel
 have hone:=(hE.t _ hel).one
 have hpos:=(hE.t _ hel).pos
 rw [e1,e2]
 rcases Go.Deep.open_slice hu hx with ⟨rfl,rfl⟩|⟨a,len,cap,m,n,D,Pl,rfl,_,hlc,hcm,hm,rfl,hel'⟩
 ·refine ⟨_,⟨[],by simp,rfl⟩,qH rfl,?_⟩
  exact dx.2 ⟨none,0,rfl,⟨Nat.zero_le _,Nat.zero_le _⟩,fun _=>rfl,.inl rfl⟩
 ·have hlm:len≤m:=by rw [hm];split<;>omega
  simp only [Rows.uptoBulk] at hb
  have hlen:len≤1048576:=by
   have:=O8 ((List.range len).map D)
   simp at this;omega
  rw [hc] at hel'
  have build: ∀k,k≤len→ ∃(l:List V) (us:List Value),l.length=k∧(∀d∈l,Q d)∧bv (rV ro0 (E.tb (E.tb T).el).n (E.tb (E.tb T).el).g) (hO w) us l∧us.length=k*(E.tb (E.tb T).el).n∧ ∀j u,us[j]? =some u→w.cell? (a.add j)=some u:=by
   intro k
   induction k with
   | zero=>intro _;exact ⟨[],[],rfl,by simp,rfl,by simp,by simp⟩
   | succ k ih=>
    intro hk1
    obtain ⟨l,us,h1,h2,h3,h4,h5⟩:=ih (by omega)
    obtain ⟨cs',g1,g2⟩:=hel' k (by omega)
    obtain ⟨_,g3,g4⟩:=World.cells?_some g1
    have hbk:Rows.uptoBulk (D k)≤B - 1:=by
     have:=Ex (H:=H) (d:=D k) (l:=(List.range len).map D) (List.mem_map.2 ⟨k,List.mem_range.2 (by omega),rfl⟩)
     omega
    obtain ⟨v,q1,q2,q3⟩:=he H enc w n cs' (D k,Pl k) g2 hbk
    refine ⟨l++[v],us++cs',by simp [h1],?_,mZ h3 ⟨cs',[],by simp,⟨q2,q3⟩,rfl⟩,by rw [List.length_append,h4,g3,Nat.add_mul,Nat.one_mul],?_⟩
    ·intro d hd
     rcases List.mem_append.1 hd with hd|hd
     ·exact h2 d hd
     ·simp at hd;subst hd;exact q1
    ·intro j u hj
     by_cases hlt:j<us.length
     ·rw [List.getElem?_append_left hlt] at hj;exact h5 j u hj
     ·rw [List.getElem?_append_right (by omega)] at hj
      have hjl:j - us.length<cs'.length:=(List.getElem?_eq_some_iff.1 hj).1
      have:=g4 (j - us.length) (by omega)
      rw [Pa,hj] at this
      rwa [show k*(E.tb (E.tb T).el).n+(j - us.length)=j by rw [←h4];omega] at this
  obtain ⟨l,us,h1,h2,h3,h4,h5⟩:=build len (Nat.le_refl _)
  refine ⟨_,⟨l,h2,rfl⟩,qH rfl,dx.2 ⟨some a,cap,by rw [h1];rfl,⟨by rw [h1];unfold LEN;omega,by rw [h1];exact hlc⟩,fun e=>(by cases e),?_⟩⟩
  by_cases h0:len=0
  ·exact .inl (List.eq_nil_of_length_eq_zero (by omega))
  ·have hus:0<us.length:=by rw [h4];exact Nat.mul_pos (by omega) hpos
   have hc0:=h5 0 us[0] (List.getElem?_eq_getElem hus)
   have hsp:=O9 hc0
   have ha0:a.add 0=a:=by simp [Addr.add]
   rw [ha0] at hsp hc0
   have hlt:=O_ hc0
   obtain ⟨b,o,sp⟩:=a
   simp only at hsp
   subst hsp
   refine .inr ⟨b,o,us,rfl,hlt,(fun hx=>by cases hx),?_,h3⟩
   intro j u hj
   have:=h5 j u hj
   have hadd:(⟨b,o,none⟩:Addr).add j=⟨b,o+j,none⟩:=by unfold Addr.add;split<;>simp_all
   rwa [hadd] at this
omit hE in
def gw (E:Env) (l0:List (Nat×TypeId)) (Q0:List (V→Prop)) (B:Nat:=1048576):Prop:=match l0,Q0 with
 | [],[]=>True
 | (_,U)::l,Q::Qs=>dQ E Q U B∧gw E l Qs B
 | _,_=>False
omit hE in
def FQ:List (V→Prop)→List V→Prop
 | [],[]=>True
 | Q::Qs,v::vs=>Q v∧FQ Qs vs
 | _,_=>False
omit hE in
def kx (tb:TypeId→TI):List (Nat×TypeId)→List V→List V
 | (_,U)::l,v::vs=>kD (tb U).n (tb U).g v++kx tb l vs
 | _,_=> []
theorem Ez {B:Nat} {H:Type} {enc:TypeId×Value→H} {w:World} {n:Nat} {cs:List Value} {N:Nat} (hN:cs.length=N):
  ∀(l:List (Nat×TypeId)) (fl:List Field) (Qs:List (V→Prop)) (xs:List (DataW H×List MemPlace)) (off:Nat),cK E.tb N off l fl=true→gw E l Qs B→xs.length=fl.length→
   (∀(i:Nat) (f:Field),fl[i]? =some f→DataW.trod enc E.P w 0 (fun _=>true) true n f.type ((cs.drop f.offset).take (E.P.cellsOf f.type))=xs[i]?)→Rows.uptoBulkAll (xs.map (·.1))≤B→
   ∃vs,FQ Qs vs∧rdC ro0 (hO w) (kx E.tb l vs) (cs.drop off)
 | [],[],[],xs,off,hf,_,_,_,_=>by
  simp only [cK,decide_eq_true_eq] at hf
  refine ⟨[],trivial,?_⟩
  rw [List.drop_eq_nil_of_le (by omega)]
  rfl
 | (o,U)::l,f::fl,Q::Qs,x::xs,off,hf,hq,hl,hx,hb=>by
  simp only [cK,Bool.and_eq_true,decide_eq_true_eq] at hf
  obtain ⟨⟨⟨⟨⟨rfl,hfo⟩,hft⟩,hok⟩,hname⟩,hrest⟩:=hf
  have hle:=(ni hrest).1
  have h0:=hx 0 f rfl
  simp only [List.getElem?_cons_zero] at h0
  simp only [List.map_cons,Rows.uptoBulkAll] at hb
  rw [hft,hfo,qI hE hok] at h0
  obtain ⟨v,q1,q2,q3⟩:=hq.1 H enc w n _ x h0 (by omega)
  obtain ⟨vs,r1,r2⟩:=Ez hN l fl Qs xs _ hrest hq.2 (by simpa using hl) (fun i g hg=>by simpa using hx (i+1) g (by simpa using hg)) (by omega)
  refine ⟨v::vs,⟨q1,r1⟩,?_⟩
  simp only [kx]
  have:=oQ (uE q2 q3) r2
  rw [←List.drop_drop,List.take_append_drop] at this
  exact this
 | [],_::_,_,_,_,hf,_,_,_,_=>by simp [cK] at hf
 | _::_,[],_,_,_,hf,_,_,_,_=>by simp [cK] at hf
 | [],[],_::_,_,_,_,hq,_,_,_=>hq.elim
 | _::_,_::_,[],_,_,_,hq,_,_,_=>hq.elim
 | _::_,_::_,_::_,[],_,_,_,hl,_,_=>by simp at hl
theorem EA {B:Nat} (hB:B≤1048576) {T:TypeId} (h:(E.tb T).ok=true) (hk:(E.tb T).k=5) (Qs:List (V→Prop)) (hq:gw E (E.tb T).fs Qs (B - 1)):dQ E (fun v=> ∃vs,FQ Qs vs∧v= .agg (kx E.tb (E.tb T).fs vs)) T B:=by
 intro H enc w fuel cs x hx hb
 obtain ⟨d,hd,hkb⟩:=(hE.t T h).kind
 cases d with
 | struct fs=>
  simp only [bW,Bool.and_eq_true] at hkb
  obtain ⟨xs,n,_,rfl,hlen,hxl,hf⟩:=DataW.trod_struct hd hx
  rw [qI hE h] at hlen
  simp only [Rows.uptoBulk] at hb
  obtain ⟨vs,h1,h2⟩:=Ez hE hlen _ _ Qs xs 0 hkb.1.2 hq (by simpa using hxl) (fun i f hfi=>hf i f (by simpa using hfi)) (by omega)
  refine ⟨_,⟨vs,h1,rfl⟩,⟨hlen,(fun hg=>by rw [hkb.1.1.2] at hg;cases hg),?_⟩,?_⟩
  ·exact m8 (by simpa using h2)
  ·rw [hkb.1.1.2]
   simp only [mkV,if_true,rd]
   exact ⟨cs,rfl,by simpa using h2⟩
 | _=>simp_all [bW]
theorem Pb {B:Nat} (hB:B≤1048576) {T:TypeId} {Q:V→Prop} (h:(E.tb T).ok=true) (hk:(E.tb T).k=4) (he:dQ E Q (E.tb T).el (B - 1)):dQ E (fun v=> ∃vs:List V,vs.length=(E.tb T).len∧(∀d∈vs,Q d)∧v= .agg (vs.flatMap (kD (E.tb (E.tb T).el).n (E.tb (E.tb T).el).g))) T B:=by
 intro H enc w fuel cs x hx hb
 obtain ⟨hu,hel⟩:=jL hE h hk
 obtain ⟨d,hd,hkb⟩:=(hE.t T h).kind
 rw [hu] at hd;cases hd
 simp only [bW,Bool.and_eq_true,decide_eq_true_eq] at hkb
 obtain ⟨xs,m,_,rfl,hlen,hxl,hf⟩:=DataW.trod_array hu hx
 rw [qI hE h] at hlen
 rw [qI hE hel] at hf
 simp only [Rows.uptoBulk] at hb
 have build: ∀k,k≤(E.tb T).len→ ∃vs:List V,vs.length=k∧(∀d∈vs,Q d)∧rdC ro0 (hO w) (vs.flatMap (kD (E.tb (E.tb T).el).n (E.tb (E.tb T).el).g)) (cs.take (k*(E.tb (E.tb T).el).n)):=by
  intro k
  induction k with
  | zero=>intro _;exact ⟨[],rfl,by simp,by simp [rdC]⟩
  | succ k ih=>
   intro hk1
   obtain ⟨vs,h1,h2,h3⟩:=ih (by omega)
   have hk2:=hf k (by omega)
   have hxk:xs[k]? =some xs[k]:=List.getElem?_eq_getElem (by omega)
   rw [hxk] at hk2
   have hbk:Rows.uptoBulk xs[k].1≤B - 1:=by
    have:=Ex (H:=H) (d:=xs[k].1) (l:=xs.map (·.1)) (List.mem_map.2 ⟨xs[k],List.getElem_mem _,rfl⟩)
    omega
   obtain ⟨v,q1,q2,q3⟩:=he H enc w m _ xs[k] hk2 hbk
   refine ⟨vs++[v],by simp [h1],?_,?_⟩
   ·intro d hd
    rcases List.mem_append.1 hd with hd|hd
    ·exact h2 d hd
    ·simp at hd;subst hd;exact q1
   ·rw [List.flatMap_append,Nat.add_mul,Nat.one_mul,List.take_add]
    exact oQ h3 (by simpa using uE q2 q3)
 obtain ⟨vs,h1,h2,h3⟩:=build _ (Nat.le_refl _)
 have htk:cs.take ((E.tb T).len*(E.tb (E.tb T).el).n)=cs:=List.take_of_length_le (by rw [hlen,hkb.2];exact Nat.le_refl _)
 rw [htk] at h3
 refine ⟨_,⟨vs,h1,h2,rfl⟩,⟨hlen,(fun hg=>by rw [hkb.1.2] at hg;cases hg),m8 h3⟩,?_⟩
 rw [hkb.1.2]
 simp only [mkV,if_true,rd]
 exact ⟨cs,rfl,h3⟩
omit hE in
theorem gw.le {B B':Nat} (hB:B'≤B): ∀{l:List (Nat×TypeId)} {Qs:List (V→Prop)},gw E l Qs B→gw E l Qs B'
 | [],[],_=>by unfold gw;trivial
 | (_,U)::l,Q::Qs,h=>by unfold gw at h⊢;exact ⟨h.1.le hB,gw.le hB h.2⟩
 | [],_::_,h=>by unfold gw at h;exact h.elim
 | _::_,[],h=>by unfold gw at h;exact h.elim
theorem yI {T:TypeId} (h:(E.tb T).ok=true) (hk:(E.tb T).k=0):dw E (fun v=> ∃n,v= .int (E.tb T).ik n) T:=O5 hE (Nat.le_refl _) h hk
theorem Pc {T:TypeId} (h:(E.tb T).ok=true) (hk:(E.tb T).k=2):dw E (fun v=> ∃s,v= .str s) T:=O6 hE (Nat.le_refl _) h hk
theorem EB {T:TypeId} {Q:V→Prop} (h:(E.tb T).ok=true) (hk:(E.tb T).k=3) (he:dw E Q (E.tb T).el):
  dw E (fun v=> ∃l:List V,(∀d∈l,Q d)∧v= .sl none (E.tb (E.tb T).el).n (E.tb (E.tb T).el).g l) T:=Ey hE (Nat.le_refl _) h hk (he.le (by omega))
theorem yJ {T:TypeId} (h:(E.tb T).ok=true) (hk:(E.tb T).k=5) (Qs:List (V→Prop)) (hq:gw E (E.tb T).fs Qs):dw E (fun v=> ∃vs,FQ Qs vs∧v= .agg (kx E.tb (E.tb T).fs vs)) T:=EA hE (Nat.le_refl _) h hk Qs (gw.le (by omega) hq)
theorem Pd {T:TypeId} {Q:V→Prop} (h:(E.tb T).ok=true) (hk:(E.tb T).k=4) (he:dw E Q (E.tb T).el):dw E (fun v=> ∃vs:List V,vs.length=(E.tb T).len∧(∀d∈vs,Q d)∧v= .agg (vs.flatMap (kD (E.tb (E.tb T).el).n (E.tb (E.tb T).el).g))) T:=Pb hE (Nat.le_refl _) h hk (he.le (by omega))
theorem Pe {T:TypeId} (h:(E.tb T).ok=true) (hk:(E.tb T).k≤5) {w:World} {r:Reach} {b:Nat} {v:Value} (hv:Value.okWide E.P w r b T v):v=mkV (E.tb T).g v.cells.toList:=by
 obtain ⟨d,hd,hkb⟩:=(hE.t T h).kind
 have hk6:d= .bool∨(∃k,d= .int k)∨d= .string∨(∃e,d= .slice e)∨(∃m e,d= .array m e)∨ ∃fs,d= .struct fs:=by
  cases d<;>simp only [bW,Bool.and_eq_true,Bool.or_eq_true,decide_eq_true_eq] at hkb<;>first|(simp;done)|(exfalso;omega)
 rcases hk6 with rfl|⟨k,rfl⟩|rfl|⟨e,rfl⟩|⟨m,e,rfl⟩|⟨fs,rfl⟩
 ·obtain ⟨x,rfl⟩:=okWide_bool hd hv
  simp only [bW,Bool.and_eq_true,Bool.not_eq_true'] at hkb
  rw [hkb.2];rfl
 ·obtain ⟨x,rfl⟩:=okWide_int hd hv
  simp only [bW,Bool.and_eq_true,Bool.not_eq_true'] at hkb
  rw [hkb.2];rfl
 ·obtain ⟨x,rfl⟩:=okWide_string hd hv
  simp only [bW,Bool.and_eq_true,Bool.not_eq_true'] at hkb
  rw [hkb.2];rfl
 ·obtain ⟨x,y,z,rfl⟩:=okWide_slice hd hv
  simp only [bW,Bool.and_eq_true,Bool.not_eq_true'] at hkb
  rw [hkb.2];rfl
 ·simp only [bW,Bool.and_eq_true] at hkb
  unfold Value.okWide at hv
  rw [hd] at hv
  obtain ⟨cs,rfl,_⟩:=hv
  rw [hkb.1.2];rfl
 ·simp only [bW,Bool.and_eq_true] at hkb
  obtain ⟨cs,rfl,_⟩:=okWide_struct hd hv
  rw [hkb.1.1.2];rfl
theorem oD {T:TypeId} {Q:V→Prop} (h:(E.tb T).ok=true) (hk:(E.tb T).k≤5) (hq:dw E Q T) {H:Type} {enc:TypeId×Value→H} {w:World} {r:Reach} {b:Nat} {v:Value} {d:DataW H} {ps:List MemPlace} (hv:Value.okWide E.P w r b T v)
  (hd:DataW.Trod enc E.P w 0 (fun _=>true) true T v d ps) (hb:Rows.uptoBulk d≤1048576): ∃u,Q u∧rd ro0 (hO w) u v:=by
 obtain ⟨fuel,hf⟩:=hd
 obtain ⟨u,h1,h2,h3⟩:=hq H enc w fuel _ (d,ps) hf hb
 rw [←Pe hE h hk hv] at h3
 exact ⟨u,h1,h3⟩
end
theorem qJ {α:Type} {f:α→V}: ∀{l:List V},(∀d∈l,∃x,d=f x)→ ∃m:List α,l=m.map f
 | [],_=>⟨[],rfl⟩
 | d::l,h=>by
  obtain ⟨x,hx⟩:=h d (by simp)
  obtain ⟨m,hm⟩:=qJ (l:=l) fun e he=>h e (by simp [he])
  exact ⟨x::m,by rw [hx,hm];rfl⟩
section
variable {H:Type} {enc:TypeId×Value→H} {P:Program}
theorem Pf {f:Func} {s:ChangeSpec} {apart fresh handsOn again:Bool} {W W':World} {args:Array Value} {v:Value} {ds gs:List (DataW H)} {before pa pv:List MemPlace}
  (hW:DataW.Whole enc P f.params.toList s.vars apart W args.toList ds gs before)
  (hres: ∀(b:Nat) (sp:Nat→Bool) (hd:Bool),DataW.TrodAll enc P W' b sp hd f.resultTypes.toList (v.resultList f.resultTypes.size) (s.fn H (ds++gs)).results [])
  (hargs: ∀sp:Nat→Bool,(∀p∈before,sp p.block=true)→DataW.TrodAll enc P W' 0 sp true f.params.toList args.toList (s.fn H (ds++gs)).args pa)
  (hvars: ∀sp:Nat→Bool,(∀p∈before,sp p.block=true)→DataW.TrodVars enc P W' sp s.vars (s.fn H (ds++gs)).vars pv)
  (hps:before=pa++pv) (hb:Below W.heap.size W W')
  (hok: ∀(j:Nat) (t:TypeId) (r:Value),f.resultTypes[j]? =some t→(v.resultList f.resultTypes.size)[j]? =some r→Value.okWide P W' .any 0 t r):
  s.post enc P f apart fresh handsOn again W args v W':=by
 have hlt: ∀p∈before,p.block<W.heap.size:=fun p hp=>hW.lt p hp
 have hold: ∀p∈before,(fun b=>decide (b<W.heap.size)) p.block=true:=fun p hp=>by simpa using hlt p hp
 refine ⟨ds,gs,before,[],pa,pv,hW,hres _ _ _,hargs _ hold,hvars _ hold,World.keptBut_mono (fun p hp=>⟨hp,?_⟩) (hb.frame (· ∈before)),fun _=> ?_⟩
 ·rw [hps,List.mem_append] at hp
  exact Or.inr hp
 ·obtain ⟨_,_,_,_,_,hz,hn⟩:=hW
  refine ⟨hok,_,_,([]++pa)++pv,⟨[]++pa,pv,trodAll_append (hargs _ (fun _ _=>rfl)) (hres _ _ _),hvars _ (fun _ _=>rfl),rfl,?_,?_⟩,?_⟩
  ·intro b off hp
   have hin:MemPlace.cell b off∈before:=by rw [hps];simpa using hp
   rw [hb.frozen (hlt _ hin)]
   exact hz b off hin
  ·intro ha
   have:=hn ha
   rw [hps] at this
   simpa using this
  ·intro p hp _
   rw [hps]
   simpa using hp
end
section
variable {H:Type} {enc:TypeId×Value→H} {P:Program}
theorem EC (hl:laidOutB P=true) {W W':World} (hb:Below W.heap.size W W') (sp:Nat→Bool): ∀{ts:List TypeId} {vs:List Value} {ds:List (DataW H)} {ps:List MemPlace},(∀t∈ts,P.readableRec t=true∧t<P.types.size)→
  DataW.TrodAll enc P W 0 (fun _=>true) true ts vs ds ps→(∀x∈ps,x.block<W.heap.size)→(∀p∈ps,sp p.block=true)→DataW.TrodAll enc P W' 0 sp true ts vs ds ps
 | [],[],[],_,_,h,_,_=>h
 | t::ts,v::vs,d::ds,ps,ht,h,hlt,hsp=>by
  obtain ⟨p,q,h1,h2,rfl⟩:=h
  obtain ⟨r1,r2⟩:=ht t (by simp)
  refine ⟨p,q,WideElems.Trod_stays hl r1 r2 h1 (fun x hx=>hb.same (hlt x (by simp [hx]))) (fun x hx=>hsp x (by simp [hx])),?_,rfl⟩
  exact EC hl hb sp (fun t' h'=>ht t' (by simp [h'])) h2 (fun x hx=>hlt x (by simp [hx])) (fun x hx=>hsp x (by simp [hx]))
 | [],[],_::_,_,_,h,_,_=>h.elim
 | [],_::_,_,_,_,h,_,_=>h.elim
 | _::_,[],_,_,_,h,_,_=>h.elim
 | _::_,_::_,[],_,_,h,_,_=>h.elim
theorem ED {W:World}: ∀{ts:List TypeId} {vs:List Value} {ds:List (DataW H)} {ps:List MemPlace},DataW.TrodAll enc P W 0 (fun _=>true) true ts vs ds ps→ds.length=ts.length
 | [],[],[],_,_=>rfl
 | t::ts,v::vs,d::ds,ps,h=>by
  obtain ⟨p,q,_,h2,_⟩:=h
  simp [ED h2]
 | [],[],_::_,_,h=>h.elim
 | [],_::_,_,_,h=>h.elim
 | _::_,[],_,_,h=>h.elim
 | _::_,_::_,[],_,h=>h.elim
end
theorem Pg {E:Env} {f:FuncId} {fn:Func} {s:ChangeSpec} {bt:TypeId} (hbt:E.P.underlying bt=some .bool) (hrt:fn.resultTypes= #[bt]) (hvars:s.vars=[]) (hl:laidOutB E.P=true)
  (hts: ∀t∈fn.params.toList,E.P.readableRec t=true∧t<E.P.types.size) (hs: ∀(H:Type) (ds:List (DataW H)),ds.length=fn.params.toList.length→s.fn H ds={results:=[.lit (.bool true)],args:=ds})
  (hcall: ∀(H:Type) (enc:TypeId×Value→H) (W:World) (base:Nat) (args:Array Value) (ds:List (DataW H)) (ps:List MemPlace),DataW.TrodAll enc E.P W 0 (fun _=>true) true fn.params.toList args.toList ds ps→
   (∀(j:Nat) t v,fn.params[j]? =some t→args[j]? =some v→Value.okWide E.P W .any base t v)→Rows.uptoBulkAll ds≤1048576→ ∃ws,rdT ro0 (hO W) ws args.toList∧aI E f ws (.bool true) [])
  (H:Type) (enc:TypeId×Value→H) (W:World) (base:Nat) (args:Array Value) (ds gs:List (DataW H)) (before:List MemPlace)
  (hval: ∀(j:Nat) t v,fn.params[j]? =some t→args[j]? =some v→Value.okWide E.P W .any base t v)
  (hW:DataW.Whole enc E.P fn.params.toList s.vars false W args.toList ds gs before) (hk:Rows.uptoSmall H (ds++gs)=true) {apart fresh handsOn again:Bool} (ha:apart=false) (hG:Gl E (hO W)):
  Calls E.P f args W fun e W'=> ∃v,e= .returned v∧s.post enc E.P fn apart fresh handsOn again W args v W':=by
 subst ha
 have hW':=hW
 obtain ⟨p,q,hA,hV,rfl,hfz,hnd⟩:=hW
 rw [hvars] at hV
 obtain ⟨rfl,rfl⟩:gs=[]∧q=[]:=by
  cases gs with
  | nil=>exact ⟨rfl,hV⟩
  | cons g gs=>exact hV.elim
 simp only [List.append_nil] at hk hW'
 have hk':Rows.uptoBulkAll ds≤1048576:=of_decide_eq_true hk
 obtain ⟨ws,hrd,hc⟩:=hcall H enc W base args ds p hA hval hk'
 have:=hc.2 (hO W) args.toList rfl hG hrd
 refine (show Calls E.P f args W _ from this).mono ?_
 rintro e W' ⟨v,c',ρ,rfl,rfl,hle,hr,_⟩
 simp only [rd] at hr
 subst hr
 have hb:Below W.heap.size W c'.w:=hle.below
 have hfn:=hs H ds (ED hA)
 have hlt: ∀x∈p,x.block<W.heap.size:=fun x hx=>hW'.lt x hx
 refine ⟨_,rfl,Pf (pa:=p) (pv:=[]) hW' ?_ ?_ ?_ (by simp) hb ?_⟩
 ·intro b sp hd
  rw [List.append_nil,hfn,hrt]
  exact trodAll_cons_mk (shut_bool hbt true) trodAll_mk0
 ·intro sp hsp
  rw [List.append_nil,hfn]
  exact EC hl hb sp hts hA hlt hsp
 ·intro sp _
  rw [List.append_nil,hfn,hvars]
  rfl
 ·rw [hrt]
  intro j t r hj hv
  match j with
  | 0=>
   simp [Value.resultList] at hj hv
   subst hj;subst hv
   exact okWide_bool_mk hbt true
  | j+1=>simp at hj
theorem Pi {α β:Type} [Inhabited α] {f:α→β} {m:List α} {n:Nat} (h:m.length=n):m.map f=(List.range n).map fun i:Nat=>f (gt m (i:Int)):=by
 subst h
 refine List.ext_getElem (by simp) fun i h1 h2=> ?_
 have hi:i<m.length:=by simpa using h1
 simp [gt,List.getD_eq_getElem?_getD,hi]
theorem jD {q:V→Prop} {qs:List (V→Prop)} {vs:List V} (h:FQ (q::qs) vs): ∃v vs',vs=v::vs'∧q v∧FQ qs vs':=by
 match vs,h with
 | v::vs',⟨h1,h2⟩=>exact ⟨v,vs',rfl,h1,h2⟩
theorem t7 {vs:List V} (h:FQ [] vs):vs=[]:=by
 match vs,h with
 | [],_=>rfl
end Go.Proofs.YtgealhhkngbkbaaGreatDoor
namespace Go.Proofs.YtgealhhkngbkbaaGreatDoor
open Go.RowKit
theorem EE {ρ:Ro} {c:Cx} {k:IntKind}: ∀{zs:List Int},(zs.all fun z=>decide (k.min≤z)&&decide (z≤k.max))=true→rdC ρ c (zs.map (V.int k)) (zs.map (Value.int k))
 | [],_=>rfl
 | z::zs,h=>by
  rw [List.all_cons,Bool.and_eq_true,Bool.and_eq_true,decide_eq_true_eq,decide_eq_true_eq] at h
  exact ⟨_,_,rfl,rfl,⟨rfl,h.1⟩,EE h.2⟩
theorem t8 {W:World} {name:String} {k:IntKind} {zs:List Int} {g:Nat} (hg:Tryz.prog.globalNamed name=some g) (h:Lib.TabIs Tryz.prog W name k zs) (hz:0<zs.length)
  (hr:(zs.all fun z=>decide (k.min≤z)&&decide (z≤k.max))=true):rd ro0 (hO W) (.pp zs.length true (.agg (zs.map (V.int k)))) (.pointer (some ⟨g,0,none⟩)):=by
 simp only [rd]
 have hlt:g<W.heap.size:=by
  have h0:=h.cell hg 0 hz
  rcases Nat.lt_or_ge g W.heap.size with h1|h1
  ·exact h1
  ·simp [World.cell?,Array.getElem?_eq_none h1] at h0
 refine ⟨g,0,zs.map (Value.int k),rfl,hlt,(show g∉([]:List Nat) from List.not_mem_nil),?_,⟨by simp,(fun e=>by cases e),?_⟩,⟨zs.map (Value.int k),rfl,EE hr⟩⟩
 ·intro j u hj
  obtain ⟨hj1,hj2⟩:=List.getElem?_eq_some_iff.1 hj
  have hj3:j<zs.length:=by simpa using hj1
  show W.cell? ⟨g,0+j,none⟩=some u
  rw [Nat.zero_add,h.cell hg j hj3,←hj2]
  simp [List.getD_eq_getElem?_getD,hj3]
 ·intro u hu
  obtain ⟨z,_,rfl⟩:=List.mem_map.1 hu
  rfl
theorem EG: "*" ++ "errors.errorString" = "*errors.errorString" :=by decide
theorem EH (u:TypeId) (h:Tryz.prog.typeName? 3 u=some "*errors.errorString"):u=260:=
 typeName_ptr_named (nm:= "errors.errorString") (by rw [EG];kernel_rfl) (by kernel_rfl) (by decide) u (by rw [EG];exact h)
theorem Pj {W:World} (hL:laidMetH Tryz.prog [("math/bits.deBruijn32tab",Rows.laid_math_bits_deBruijn32tab),("math/bits.deBruijn64tab",Rows.laid_math_bits_deBruijn64tab),("internal/strconv.uint64pow10",Rows.laid_internal_strconv_uint64pow10),("specie/prime.bases",Rows.laid_specie_prime_bases),("strconv.ErrRange",Rows.laid_strconv_ErrRange),("strconv.ErrSyntax",Rows.laid_strconv_ErrSyntax),("specie/digest.constants",Rows.laid_specie_digest_constants),("specie/digest.start",Rows.laid_specie_digest_start)] W) (hsh:W.ShapedOpen Tryz.prog):Gl En (hO W):=by
 rw [MakeChecks.laidMetH_plain _ _ _ (by kernel_rfl)] at hL
 have h0:Lib.TabIs Tryz.prog W "specie/prime.bases" .u64 cF:=
  Lib.tabIs_of_head (g:=0) (t:=171) (e:=170) (n:=12) (rest:=[]) (by kernel_rfl) (by kernel_rfl) Tryz.underlying171 Tryz.underlying170 (by kernel_rfl) (by kernel_rfl)
   (show laidMet Tryz.prog _ W from cast (congrArg (fun l=>laidMet Tryz.prog l W) (by kernel_rfl)) (hL.filter fun x=>x.1== "specie/prime.bases"))
 have h1:Lib.TabIs Tryz.prog W "specie/digest.start" .u32 [1779033703,3144134277,1013904242,2773480762,1359893119,2600822924,528734635,1541459225]:=
  Lib.tabIs_of_head (g:=1) (t:=206) (e:=40) (n:=8) (rest:=[]) (by kernel_rfl) (by kernel_rfl) Tryz.underlying206 Tryz.underlying40 (by kernel_rfl) (by kernel_rfl)
   (show laidMet Tryz.prog _ W from cast (congrArg (fun l=>laidMet Tryz.prog l W) (by kernel_rfl)) (hL.filter fun x=>x.1== "specie/digest.start"))
 have h2:Lib.TabIs Tryz.prog W "math/bits.deBruijn64tab" .u8 jb:=
  Lib.tabIs_of_head (g:=2) (t:=209) (e:=5) (n:=64) (rest:=[]) (by kernel_rfl) (by kernel_rfl) Tryz.underlying209 Tryz.underlying5 (by kernel_rfl) (by kernel_rfl)
   (show laidMet Tryz.prog _ W from cast (congrArg (fun l=>laidMet Tryz.prog l W) (by kernel_rfl)) (hL.filter fun x=>x.1== "math/bits.deBruijn64tab"))
 have h3:Lib.TabIs Tryz.prog W "specie/digest.constants" .u32 me:=
  Lib.tabIs_of_head (g:=3) (t:=226) (e:=40) (n:=64) (rest:=[]) (by kernel_rfl) (by kernel_rfl) Tryz.underlying226 Tryz.underlying40 (by kernel_rfl) (by kernel_rfl)
   (show laidMet Tryz.prog _ W from cast (congrArg (fun l=>laidMet Tryz.prog l W) (by kernel_rfl)) (hL.filter fun x=>x.1== "specie/digest.constants"))
 obtain ⟨m6,h6⟩:=cell_of_shapedOpen_int (P:=Tryz.prog) (g:=6) (t:=3) (zero:= #[.int .i64 0]) hsh (of_decide_eq_true (by kernel_rfl)) (by kernel_rfl) rfl (by kernel_rfl) (by kernel_rfl) Tryz.underlying3
 have hlt6:6<W.heap.size:=by
  rcases Nat.lt_or_ge 6 W.heap.size with hq|hq
  ·exact hq
  ·simp [World.cell?,Array.getElem?_eq_none hq] at h6
 have n7:Tryz.prog.globalNamed "strconv.ErrSyntax" =some 7:=by kernel_rfl
 obtain ⟨a7,s7,h7,_⟩:=laid_sentinel (r:=[]) (text:=[105,110,118,97,108,105,100,32,115,121,110,116,97,120]) (show laidMet Tryz.prog _ W from cast (congrArg (fun l=>laidMet Tryz.prog l W) (by kernel_rfl)) (hL.filter fun x=>x.1== "strconv.ErrSyntax")) n7 (by kernel_rfl) Tryz.underlying181 EH Tryz.underlying260 Tryz.underlying262 rfl rfl Tryz.underlying9 (by kernel_rfl) (by kernel_rfl)
 have hlt7:7<W.heap.size:=by
  rcases Nat.lt_or_ge 7 W.heap.size with hq|hq
  ·exact hq
  ·simp [World.var?,n7,Array.getElem?_eq_none hq] at h7
 have n8:Tryz.prog.globalNamed "strconv.ErrRange" =some 8:=by kernel_rfl
 obtain ⟨a8,s8,h8,_⟩:=laid_sentinel (r:=[]) (text:=[118,97,108,117,101,32,111,117,116,32,111,102,32,114,97,110,103,101]) (show laidMet Tryz.prog _ W from cast (congrArg (fun l=>laidMet Tryz.prog l W) (by kernel_rfl)) (hL.filter fun x=>x.1== "strconv.ErrRange")) n8 (by kernel_rfl) Tryz.underlying181 EH Tryz.underlying260 Tryz.underlying262 rfl rfl Tryz.underlying9 (by kernel_rfl) (by kernel_rfl)
 have hlt8:8<W.heap.size:=by
  rcases Nat.lt_or_ge 8 W.heap.size with hq|hq
  ·exact hq
  ·simp [World.var?,n8,Array.getElem?_eq_none hq] at h8
 have n9:Tryz.prog.globalNamed "internal/strconv.uint64pow10" =some 9:=by kernel_rfl
 have h9:Lib.TabIs Tryz.prog W "internal/strconv.uint64pow10" .u64 Lib.pow10Tab:=
  Lib.tabIs_of_head (g:=9) (t:=255) (e:=170) (n:=20) (rest:=[]) n9 (by kernel_rfl) Tryz.underlying255 Tryz.underlying170 (by kernel_rfl) (by kernel_rfl)
   (show laidMet Tryz.prog _ W from cast (congrArg (fun l=>laidMet Tryz.prog l W) (by kernel_rfl)) (hL.filter fun x=>x.1== "internal/strconv.uint64pow10"))
 unfold Lib.TabIs at h9
 have hlt9:9<W.heap.size:=by
  rcases Nat.lt_or_ge 9 W.heap.size with hq|hq
  ·exact hq
  ·simp [World.var?,n9,Array.getElem?_eq_none hq] at h9
 intro g v hg
 have hg':(if g=0 then some (V.pp 12 true (.agg ((cF:List Int).map (V.int .u64)))) else if g=1 then some (V.pp 8 true (.agg (([1779033703,3144134277,1013904242,2773480762,1359893119,2600822924,528734635,1541459225]:List Int).map (V.int .u32)))) else if g=2 then some (V.pp 64 true (.agg ((jb:List Int).map (V.int .u8)))) else if g=3 then some (V.pp 64 true (.agg ((me:List Int).map (V.int .u32)))) else if g=6 then some (V.pp 1 false (.opq AZ)) else if g=7 then some (V.opq (sq Tryz.prog 7 "strconv.ErrSyntax")) else if g=8 then some (V.opq (sq Tryz.prog 8 "strconv.ErrRange")) else if g=9 then some (V.opq (AY Tryz.prog 9 "internal/strconv.uint64pow10" .u64 Lib.pow10Tab)) else none)=some v:=hg
 split at hg'
 ·rename_i e;subst e;cases hg'
  exact ⟨trivial,t8 (by kernel_rfl) h0 (by decide) (by decide)⟩
 split at hg'
 ·rename_i e;subst e;cases hg'
  exact ⟨trivial,t8 (by kernel_rfl) h1 (by decide) (by decide)⟩
 split at hg'
 ·rename_i e;subst e;cases hg'
  exact ⟨trivial,t8 (by kernel_rfl) h2 (by decide) (by decide)⟩
 split at hg'
 ·rename_i e;subst e;cases hg'
  exact ⟨trivial,t8 (by kernel_rfl) h3 (by decide) (by decide)⟩
 split at hg'
 ·rename_i e;subst e;cases hg'
  refine ⟨trivial,?_⟩
  simp only [rd]
  refine ⟨6,0,[.int .i64 m6],rfl,hlt6,(show 6∉([]:List Nat) from List.not_mem_nil),?_,qH rfl,⟨m6,rfl⟩,rfl,?_⟩
  rotate_left
  ·intros;intro _ _;intros;assumption
  intro j u hj
  match j,hj with
  | 0,hj=>cases hj;exact h6
 split at hg'
 ·rename_i e;subst e;cases hg'
  refine ⟨trivial,?_⟩
  simp only [rd]
  refine ⟨⟨rfl,hlt7,(show 7∉([]:List Nat) from List.not_mem_nil),n7,⟨_,_,h7⟩⟩,rfl,?_⟩
  rintro c c' v ⟨rfl,g1,g2,g3,g4⟩ k
  obtain ⟨k1,k2⟩:=k.keep _ g1 g2
  refine ⟨rfl,Nat.lt_of_lt_of_le g1 k.size,k1,g3,?_⟩
  simp only [Lib.TabIs,World.var?,g3,Option.bind_some] at g4⊢
  cases hc:c.w.heap[7]? with
  | none=>rw [hc] at g4;simp at g4
  | some o=>
   rw [hc] at g4
   cases o with
   | cells _ _ _=>rw [k2 _ hc rfl];exact g4
   | _=>simp at g4
 split at hg'
 ·rename_i e;subst e;cases hg'
  refine ⟨trivial,?_⟩
  simp only [rd]
  refine ⟨⟨rfl,hlt8,(show 8∉([]:List Nat) from List.not_mem_nil),n8,⟨_,_,h8⟩⟩,rfl,?_⟩
  rintro c c' v ⟨rfl,g1,g2,g3,g4⟩ k
  obtain ⟨k1,k2⟩:=k.keep _ g1 g2
  refine ⟨rfl,Nat.lt_of_lt_of_le g1 k.size,k1,g3,?_⟩
  simp only [Lib.TabIs,World.var?,g3,Option.bind_some] at g4⊢
  cases hc:c.w.heap[8]? with
  | none=>rw [hc] at g4;simp at g4
  | some o=>
   rw [hc] at g4
   cases o with
   | cells _ _ _=>rw [k2 _ hc rfl];exact g4
   | _=>simp at g4
 split at hg'
 ·rename_i e;subst e;cases hg'
  refine ⟨trivial,?_⟩
  simp only [rd]
  refine ⟨⟨rfl,hlt9,(show 9∉([]:List Nat) from List.not_mem_nil),n9,h9⟩,rfl,?_⟩
  rintro c c' v ⟨rfl,g1,g2,g3,g4⟩ k
  obtain ⟨k1,k2⟩:=k.keep _ g1 g2
  refine ⟨rfl,Nat.lt_of_lt_of_le g1 k.size,k1,g3,?_⟩
  simp only [Lib.TabIs,World.var?,g3,Option.bind_some] at g4⊢
  cases hc:c.w.heap[9]? with
  | none=>rw [hc] at g4;simp at g4
  | some o=>
   rw [hc] at g4
   cases o with
   | cells _ _ _=>rw [k2 _ hc rfl];exact g4
   | _=>simp at g4
 cases hg'
end Go.Proofs.YtgealhhkngbkbaaGreatDoor
