/- Texts of this proof, one after the other: VY, K, VZ, VP, VO, VS, VI. -/
import Derived.Test.YtgealhhkngbkbaaGreatDoorZ3
import Derived.Test.YtgealhhkngbkbaaGreatDoorProg
import Derived.KernelRfl
import Derived.Lib.LaidTab
import Derived.Lib.ItoaNum
set_option linter.unusedVariables false
set_option linter.unusedSimpArgs false
namespace Go.Proofs.YtgealhhkngbkbaaGreatDoor
open Go.RowKit
inductive Ct where
 | code (c:Code)
 | ops (i:Nat) (ds:List (Nat×Nat)) (l:List Oper)
 | blk (id:Nat)
 | lp (K:St→Prop)
 | fin (Q:Exit→St→Prop)
def aK (E:Env) (J:cq):List Ct→Exit→St→Prop
 | [],_,_=>False
 | .code c::k,.normal,S=>wpA E J c (aK E J k) S
 | .code _::k,e,S=>aK E J k e S
 | .ops i ds l::k,.normal,S=>gg E i ds l (aK E J k .normal) S
 | .ops _ _ _::k,e,S=>aK E J k e S
 | .blk id::k,e,S=>vD (aK E J k) id e S
 | .lp K::k,e,S=>mY (aK E J k) K e S
 | .fin Q::_,e,S=>Q e S
section
variable {E:Env} {J:cq} {k:List Ct} {S:St}
theorem bu {c:Code} {Q:Exit→St→Prop} (h:aK E J [.code c,.fin Q] .normal S):wpA E J c Q S:=h
def lD (E:Env) (J:cq) (M:Bool) (a b:Code) (k:List Ct) (S:St):Prop:=match M with
 | false=>aK E J (.code a:: .code b::k) .normal S
 | true=>aK E J (.code a:: .lp (mX E (aK E J (.code b::k) .normal))::k) .normal S
theorem G_ {b:Code}:mY (aK E J k) (wpA E J b (aK E J k))=aK E J (.code b::k):=by funext e S';cases e<;>rfl
theorem Ha {K:St→Prop}:mY (aK E J k) K=aK E J (.lp K::k):=by funext e S';cases e<;>rfl
theorem Hb {a b:Code}:aK E J (.code (.seq a b)::k) .normal S=lD E J (ly J b) a b k S:=by
 simp only [aK,wpA,lD]
 cases ly J b with
 | false=>simp only [G_]
 | true=>rw [Ha]
theorem Hc {a b:Code}:lD E J false a b k S=aK E J (.code a:: .code b::k) .normal S:=Eq.trans rfl rfl
theorem lE {a b:Code} (M:St→Prop) (h2: ∀S1,M S1→aK E J (.code b::k) .normal S1)
  (h1:(∀S1,M S1→aK E J (.code b::k) .normal S1)→aK E J (.code a:: .lp (mX E (aK E J (.code b::k) .normal))::k) .normal S):lD E J true a b k S:=h1 h2
theorem eH {M:St→Prop} (S1:St) (hF:fr S.F S1.nx S1.F) (hH:ft S.H S1.nx S1.H) (hM:M S1):aK E J (.lp (mX E M)::k) .normal S:=⟨S1,m4 hF hH,hM⟩
theorem Hd {M M':Bool} {a b:Code} (h:M=M'):lD E J M a b k S=lD E J M' a b k S:=by rw [h]
theorem He:aK E J (.code .skip::k) .normal S=aK E J k .normal S:=Eq.trans rfl rfl
theorem Hf:aK E J (.code .ret::k) .normal S=aK E J k .ret S:=Eq.trans rfl rfl
theorem Hg {id:Nat}:aK E J (.code (.exit id)::k) .normal S=aK E J k (.exit id) S:=Eq.trans rfl rfl
theorem Hh {c:Code}:aK E J (.code c::k) .ret S=aK E J k .ret S:=Eq.trans rfl rfl
theorem Hi {c:Code} {i:Nat}:aK E J (.code c::k) (.exit i) S=aK E J k (.exit i) S:=Eq.trans rfl rfl
theorem Hj {i:Nat}:aK E J (.blk i::k) .ret S=aK E J k .ret S:=Eq.trans rfl rfl
theorem Hk {i:Nat}:aK E J (.blk i::k) .normal S=aK E J k .normal S:=Eq.trans rfl rfl
theorem Hl {i j:Nat}:aK E J (.blk i::k) (.exit j) S=if j=i then aK E J k .normal S else aK E J k (.exit j) S:=Eq.trans rfl rfl
theorem Hm {K:St→Prop}:aK E J (.lp K::k) .ret S=aK E J k .ret S:=Eq.trans rfl rfl
theorem Hn {K:St→Prop} {i:Nat}:aK E J (.lp K::k) (.exit i) S=aK E J k (.exit i) S:=Eq.trans rfl rfl
theorem Ho {Q:Exit→St→Prop} {e:Exit}:aK E J (.fin Q::k) e S=Q e S:=by cases e<;>rfl
theorem Hp {id:Nat} {a:Code}:aK E J (.code (.block id a)::k) .normal S=aK E J (.code a:: .blk id::k) .normal S:=Eq.trans rfl rfl
theorem Hq {id:Nat} {ops:Array Oper}:aK E J (.code (.region id ops false)::k) .normal S=aK E J (.ops 0 [] ops.toList::k) .normal S:=Eq.trans rfl rfl
noncomputable def noJ:cq:=[]
def vK (J:cq):Option Nat→Bool
 | some i=>bz J i
 | none=>false
theorem Hr {p:Nat} {L:cq} {b:Code}:ly (p::L) b=vK (p::L) (io b):=by
 unfold ly vK;cases io b<;>rfl
theorem Ht {b:Code}:ly noJ b=false:=by unfold ly;split<;>rfl
def kc (E:Env) (J:cq) (v:Option V) (a b:Code) (k:List Ct) (S:St):Prop:=oV v (aK E J (.code a::k) .normal S) (aK E J (.code b::k) .normal S)
theorem Hu {x:Operand} {a b:Code}:aK E J (.code (.cond x a b)::k) .normal S=kc E J (S.ev E.gv x) a b k S:=Eq.trans rfl rfl
theorem Hv {a b:Code}:kc E J (some (.bool true)) a b k S=aK E J (.code a::k) .normal S:=by simp [kc,oV,gd]
theorem Hw {a b:Code}:kc E J (some (.bool false)) a b k S=aK E J (.code b::k) .normal S:=by simp [kc,oV,gd]
theorem bY {c:Bool} {a b:Code} (h1:c=true→aK E J (.code a::k) .normal S) (h2:c=false→aK E J (.code b::k) .normal S):kc E J (some (.bool c)) a b k S:=⟨h1,h2⟩
def kd (E:Env) (J:cq) (r:Res) (S:St) (d:Option Nat) (k:List Ct):Prop:=oJ S S.nx d (aK E J k .normal) r
theorem Hx {v:V} {e:Eff} {d:Option Nat}:kd E J (some (True,v,e)) S d k=aK E J k .normal ((S.eff S.nx e).put d v):=by simp [kd,oJ]
theorem bF {c:Prop} {v:V} {e:Eff} {d:Option Nat} (h1:c) (h2:aK E J k .normal ((S.eff S.nx e).put d v)):kd E J (some (c,v,e)) S d k:=⟨h1,fun _=>h2⟩
def ir (E:Env) (J:cq) (v:Option V) (vs:Option (List V)) (S:St) (d:Option Nat) (k:List Ct):Prop:=vh E S d (aK E J k .normal) v vs
def opC (E:Env) (J:cq) (op:Op) (T:TypeId) (S:St) (d:Option Nat) (k:List Ct):Prop:=
 match gN op with
 | some (x,l,Ts)=>ir E J (S.ev E.gv x) (evs E S l Ts) S d k
 | none=>kd E J (opF E S S.nx T op) S d k
def eV (E:Env) (J:cq) (v:Option V) (op:Op) (T:TypeId) (want:Bool) (S:St) (d:Option Nat) (k:List Ct):Prop:=
 eE v want (opC E J op T S d k) (aK E J k .normal (S.put d (.tup [])))
def rR (E:Env) (J:cq) (t:Option Nat) (op:Op) (T:TypeId) (want:Bool) (S:St) (d:Option Nat) (k:List Ct):Prop:=
 match t with
 | some t=>eV E J (ak S.F t) op T want S d k
 | none=>False
theorem Hy {i:Nat} {ds:List (Nat×Nat)}:aK E J (.ops i ds []::k) .normal S=aK E J k .normal S:=Eq.trans rfl rfl
theorem Hz {i:Nat} {ds:List (Nat×Nat)} {l:List Oper} {d:Option Nat} {op:Op} {T:TypeId} {pos:String} {af:Array Edge}:aK E J (.ops i ds ({dst:=d,op:=op,type:=T,pos:=pos,after:=af,guard:=none}::l)::k) .normal S=opC E J op T S d (.ops (i+1) (gO i d ds) l::k):=Eq.trans rfl rfl
theorem HA {i:Nat} {ds:List (Nat×Nat)} {l:List Oper} {d:Option Nat} {op:Op} {T:TypeId} {pos:String} {af:Array Edge} {j:Nat} {want:Bool}:aK E J (.ops i ds ({dst:=d,op:=op,type:=T,pos:=pos,after:=af,guard:=some (j,want)}::l)::k) .normal S=rR E J (ak ds j) op T want S d (.ops (i+1) (gO i d ds) l::k):=Eq.trans rfl rfl
theorem HB {op:Op} {T:TypeId} {d:Option Nat}:eV E J (some (.bool true)) op T true S d k=opC E J op T S d k:=by simp [eV,eE,gd]
theorem HC {op:Op} {T:TypeId} {d:Option Nat}:eV E J (some (.bool false)) op T false S d k=opC E J op T S d k:=by simp [eV,eE,gd]
theorem HD {op:Op} {T:TypeId} {d:Option Nat}:eV E J (some (.bool true)) op T false S d k=aK E J k .normal (S.put d (.tup [])):=by simp [eV,eE,gd]
theorem HE {op:Op} {T:TypeId} {d:Option Nat}:eV E J (some (.bool false)) op T true S d k=aK E J k .normal (S.put d (.tup [])):=by simp [eV,eE,gd]
theorem HH {op:Op} {T:TypeId} {d:Option Nat} {w:Bool}:eV E J (some (.tup [])) op T w S d k=aK E J k .normal (S.put d (.tup [])):=by simp [eV,eE]
theorem jf {op:Op} {T:TypeId} {d:Option Nat} {b:Bool} (h1:b=true→opC E J op T S d k) (h2:b=false→aK E J k .normal (S.put d (.tup []))):eV E J (some (.bool b)) op T true S d k:=⟨h1,h2⟩
theorem ke {op:Op} {T:TypeId} {d:Option Nat} {b:Bool} (h1:b=false→opC E J op T S d k) (h2:b=true→aK E J k .normal (S.put d (.tup []))):eV E J (some (.bool b)) op T false S d k:=⟨h1,h2⟩
theorem aJ {f:FuncId} {caps vs:List V} {d:Option Nat} {ws:List V} {r:V} {H:List Blk} (hc:aE E f ws r H) (hp:dI (vs++caps)) (hm:mtL (vs++caps) ws) (h:wfV r→aK E J k .normal (S.after d r H)):ir E J (some (.fn f caps)) (some vs) S d k:=
 .inl ⟨ws,r,H,hc,.inl ⟨S,G8 hp hm,h⟩⟩
theorem eW {f:FuncId} {caps vs:List V} {d:Option Nat} {ws:List V} {r:V} (hc:aE E f ws r []) (hf:dp r) (hm:mtL (je S.H (vs++caps)) ws) (h:wfV r→aK E J k .normal (S.put d r)):ir E J (some (.fn f caps)) (some vs) S d k:=
 .inl ⟨ws,r,[],hc,.inr ⟨hf,rfl,zT hm,h⟩⟩
theorem aS {a:Code} (I:Nat→St→Prop) (k0:Nat) (S1:St) (hF:fr S.F S1.nx S1.F) (hH:ft S.H S1.nx S1.H) (h0:I k0 S1)
  (h: ∀n S',I n S'→aK E J (.code a:: .lp (fun S2=> ∃n',n'<n∧ ∃S3,cw E S2 S3∧I n' S3)::k) .normal S'):aK E J (.code (.loop a)::k) .normal S:=
 ⟨I,k0,⟨S1,m4 hF hH,h0⟩,h⟩
theorem aM {I:Nat→St→Prop} {n:Nat} (n':Nat) (S3:St) (hlt:n'<n) (hF:fr S.F S3.nx S3.F) (hH:ft S.H S3.nx S3.H) (hI:I n' S3):aK E J (.lp (fun S2=> ∃n',n'<n∧ ∃S3,cw E S2 S3∧I n' S3)::k) .normal S:=
 ⟨n',hlt,S3,m4 hF hH,hI⟩
def lF (E:Env) (S:St) (r:V) (H:List Blk):Option (List V)→Prop
 | some vs=>rK E S (fq vs) r H
 | none=>False
theorem HI {rs:List ResultVar} {r:V} {H:List Blk}:mZ E rs r H .ret S=lF E S r H (gi E.tb S rs):=Eq.trans rfl rfl
theorem cW {vs:List V} {r:V} (hm:mt (gk S.H (fq vs)) r):lF E S r [] (some vs):=G9 hm
structure Dr where
 J:cq
 S0:St
 wr:List Nat
 wl:List (Nat×Nat)
 need:List (List Nat)
 ub:List (Nat×Nat)
 k:List Ct
def bV (E:Env) (D:Dr) (m i:Nat) (l:List Oper) (R:List (Nat×bk)):Prop:=gQ E D.S0 D.wr D.wl D.need D.ub (aK E D.J D.k .normal) m i l R
theorem lG {id:Nat} {ops:Array Oper} (n m:Nat) (wr:List Nat) (wl:List (Nat×Nat)) (need:List (List Nat)) (ub:List (Nat×Nat)) (hB:(wlB ops m wl&&jN n m ops wr need&&((List.range m).all fun i=>(need.getD i []).all fun j=>decide (j<i)))=true) (hU:ubB m need ub S.nx=true)
  (h:bV E ⟨J,S,wr,wl,need,ub,k⟩ m 0 ops.toList []):aK E J (.code (.region id ops true)::k) .normal S:=by
 exact ⟨n,m,wr,wl,need,ub,hB,hU,h⟩
section
variable {D:Dr} {m i:Nat} {l:List Oper} {R:List (Nat×bk)} {d:Option Nat} {op:Op} {T:TypeId}
theorem HJ:bV E D 0 i l R=aK E D.J (.ops i (dsR R) l::D.k) .normal (co D.S0 D.wr j_ (fo D.ub R) R i):=Eq.trans rfl rfl
def ct (E:Env) (D:Dr) (m i:Nat) (l:List Oper) (R:List (Nat×bk)) (d:Option Nat) (nid:Nat) (r:Res):Prop:=fL D.ub i nid d (fun r=>bV E D m (i+1) l ((i,r)::R)) r
def gm (E:Env) (D:Dr) (m i:Nat) (l:List Oper) (R:List (Nat×bk)) (d:Option Nat) (S:St) (v:Option V) (vs:Option (List V)):Prop:=vl E S D.ub i d (fun r=>bV E D m (i+1) l ((i,r)::R)) v vs
def gT (E:Env) (D:Dr) (m i:Nat) (l:List Oper) (R:List (Nat×bk)) (d:Option Nat) (op:Op) (T:TypeId) (S:St):Prop:=
 match gN op with
 | some (x,xs,Ts)=>gm E D m i l R d S (S.ev E.gv x) (evs E S xs Ts)
 | none=>ct E D m i l R d S.nx (opH E S S.nx T op)
def eI (E:Env) (D:Dr) (m i:Nat) (l:List Oper) (R:List (Nat×bk)) (d:Option Nat) (op:Op) (T:TypeId) (want:Bool):Bool→Option bk→Prop
 | true,some ⟨some _,v,_⟩=>eE (some v) want (gT E D m i l R d op T (co D.S0 (wrF D.wl D.need i D.wr) (bz (D.need.getD i [])) (ce D.ub D.need i R) R i)) (bV E D m (i+1) l ((i,⟨d,.tup [],none⟩)::R))
 | _,_=>False
theorem HM {pos:String} {af:Array Edge}:bV E D (m+1) i ({dst:=d,op:=op,type:=T,pos:=pos,after:=af,guard:=none}::l) R=gT E D m i l R d op T (co D.S0 (wrF D.wl D.need i D.wr) (bz (D.need.getD i [])) (ce D.ub D.need i R) R i):=by
 simp only [bV,gQ,oQ,oP,gT,gm,ct]
 all_goals cases gN op<;>rfl
theorem HN {pos:String} {af:Array Edge} {j:Nat} {want:Bool}:bV E D (m+1) i ({dst:=d,op:=op,type:=T,pos:=pos,after:=af,guard:=some (j,want)}::l) R=eI E D m i l R d op T want (bz (D.need.getD i []) j) (ak R j):=by
 simp only [bV,gQ,oQ]
 cases bz (D.need.getD i []) j<;>cases ak R j with
 | none=>rfl
 | some r=>
  obtain ⟨t,v,b⟩:=r
  cases t<;>first|rfl|(simp only [eI,oP,gT,gm,ct,bV];cases gN op<;>rfl)
theorem HO {t:Nat} {b:Option (Nat×Blk)}:eI E D m i l R d op T true true (some ⟨some t,.bool true,b⟩)=gT E D m i l R d op T (co D.S0 (wrF D.wl D.need i D.wr) (bz (D.need.getD i [])) (ce D.ub D.need i R) R i):=by simp [eI,eE,gd]
theorem HP {t:Nat} {b:Option (Nat×Blk)}:eI E D m i l R d op T false true (some ⟨some t,.bool false,b⟩)=gT E D m i l R d op T (co D.S0 (wrF D.wl D.need i D.wr) (bz (D.need.getD i [])) (ce D.ub D.need i R) R i):=by simp [eI,eE,gd]
theorem HQ {t:Nat} {b:Option (Nat×Blk)}:eI E D m i l R d op T true true (some ⟨some t,.bool false,b⟩)=bV E D m (i+1) l ((i,⟨d,.tup [],none⟩)::R):=by simp [eI,eE,gd]
theorem HR {t:Nat} {b:Option (Nat×Blk)}:eI E D m i l R d op T false true (some ⟨some t,.bool true,b⟩)=bV E D m (i+1) l ((i,⟨d,.tup [],none⟩)::R):=by simp [eI,eE,gd]
theorem HU {t:Nat} {w:Bool} {b:Option (Nat×Blk)}:eI E D m i l R d op T w true (some ⟨some t,.tup [],b⟩)=bV E D m (i+1) l ((i,⟨d,.tup [],none⟩)::R):=by simp [eI,eE]
theorem rS {t:Nat} {b:Option (Nat×Blk)} {x:Bool} (h1:x=true→gT E D m i l R d op T (co D.S0 (wrF D.wl D.need i D.wr) (bz (D.need.getD i [])) (ce D.ub D.need i R) R i)) (h2:x=false→bV E D m (i+1) l ((i,⟨d,.tup [],none⟩)::R)):eI E D m i l R d op T true true (some ⟨some t,.bool x,b⟩):=⟨h1,h2⟩
theorem kf {t:Nat} {b:Option (Nat×Blk)} {x:Bool} (h1:x=false→gT E D m i l R d op T (co D.S0 (wrF D.wl D.need i D.wr) (bz (D.need.getD i [])) (ce D.ub D.need i R) R i)) (h2:x=true→bV E D m (i+1) l ((i,⟨d,.tup [],none⟩)::R)):eI E D m i l R d op T false true (some ⟨some t,.bool x,b⟩):=⟨h1,h2⟩
section
variable {nid:Nat}
theorem HV {v:V}:ct E D m i l R d nid (some (True,v,.none))=bV E D m (i+1) l ((i,⟨d,v,none⟩)::R):=by simp [ct,fL]
theorem HW {v x:V} {n:Nat} {g:Bool}:ct E D m i l R d nid (some (True,v,.new (.var n g x)))=(match bI D.ub i nid with|true=>False|false=>bV E D m (i+1) l ((i,⟨d,v,some (nid,.var n g x)⟩)::R)):=by
 simp only [ct,fL];cases bI D.ub i nid<;>simp [oO,aZ]
theorem HX {k:Nat} {U:TypeId} {n:Nat} {g:Bool} {z:Option Bool} {ll:List V}:ct E D m i l R d nid (some (True,.own k,.new (.own U n g z ll)))=(match bI D.ub i nid with|true=>(match decide (k=nid) with|true=>bV E D m (i+1) l ((i,⟨d,.sl z n g ll,none⟩)::R)|false=>False)|false=>bV E D m (i+1) l ((i,⟨d,.own k,some (nid,.own U n g z ll)⟩)::R)):=by
 simp only [ct,fL];cases bI D.ub i nid
 ·simp [aZ]
 ·by_cases hk:k=nid<;>simp [oO,hk]
theorem HY {k:Nat} {n:Nat} {g:Bool} {z:Option Bool} {ll:List V}:ct E D m i l R d nid (some (True,.own k,.new (.pown n g z ll)))=(match bI D.ub i nid&&decide (k=nid) with|true=>bV E D m (i+1) l ((i,⟨d,.sl z n g ll,none⟩)::R)|false=>False):=by
 simp only [ct,fL];cases bI D.ub i nid
 ·simp [aZ]
 ·by_cases hk:k=nid<;>simp [oO,hk]
theorem HZ {v:V} {id:Nat} {b:Blk}:ct E D m i l R d nid (some (True,v,.upd id b))=(match bI D.ub i id&&aZ b with|true=>bV E D m (i+1) l ((i,⟨d,v,some (id,b)⟩)::R)|false=>False):=by
 simp only [ct,fL];cases bI D.ub i id&&aZ b<;>simp
theorem eX {c:Prop} {v:V} (h1:c) (h2:bV E D m (i+1) l ((i,⟨d,v,none⟩)::R)):ct E D m i l R d nid (some (c,v,.none)):=⟨h1,fun _=>h2⟩
theorem jg {c:Prop} {v:V} {U:TypeId} {n:Nat} {g:Bool} {z:Option Bool} {ll:List V} (h1:c) (hm:bI D.ub i nid=false) (h2:bV E D m (i+1) l ((i,⟨d,v,some (nid,.own U n g z ll)⟩)::R)):ct E D m i l R d nid (some (c,v,.new (.own U n g z ll))):=by
 simp only [ct,fL,hm];exact ⟨h1,fun _=>h2⟩
theorem jh {c:Prop} {k:Nat} {U:TypeId} {n:Nat} {g:Bool} {z:Option Bool} {ll:List V} (h1:c) (hm:(bI D.ub i nid&&decide (k=nid))=true) (h2:bV E D m (i+1) l ((i,⟨d,.sl z n g ll,none⟩)::R)):ct E D m i l R d nid (some (c,.own k,.new (.own U n g z ll))):=by
 simp only [Bool.and_eq_true] at hm
 simp only [ct,fL,hm.1];exact ⟨hm.2,h1,fun _=>h2⟩
theorem ji {c:Prop} {v x:V} {n:Nat} {g:Bool} (h1:c) (hm:bI D.ub i nid=false) (h2:bV E D m (i+1) l ((i,⟨d,v,some (nid,.var n g x)⟩)::R)):ct E D m i l R d nid (some (c,v,.new (.var n g x))):=by
 simp only [ct,fL,hm];exact ⟨h1,fun _=>h2⟩
theorem jj {c:Prop} {v:V} {id:Nat} {b:Blk} (h1:c) (hm:(bI D.ub i id&&aZ b)=true) (h2:bV E D m (i+1) l ((i,⟨d,v,some (id,b)⟩)::R)):ct E D m i l R d nid (some (c,v,.upd id b)):=by
 simp only [ct,fL,hm];exact ⟨h1,fun _=>h2⟩
end
theorem bN {f:FuncId} {caps vs ws:List V} {r:V} (hc:aE E f ws r []) (hp:dI (vs++caps)) (hm:mtL (vs++caps) ws) (h:bV E D m (i+1) l ((i,⟨d,r,none⟩)::R)):gm E D m i l R d S (some (.fn f caps)) (some vs):=
 .inl (.inl ⟨ws,r,hc,.inl (zU hp hm),h⟩)
theorem zV {f:FuncId} {caps vs ws:List V} {r:V} (hc:aE E f ws r []) (hf:dp r) (hm:mtL (je S.H (vs++caps)) ws) (h:bV E D m (i+1) l ((i,⟨d,r,none⟩)::R)):gm E D m i l R d S (some (.fn f caps)) (some vs):=
 .inl (.inl ⟨ws,r,hc,.inr ⟨hf,zT hm⟩,h⟩)
theorem zW {f:FuncId} {caps vs ws:List V} {U:TypeId} {n:Nat} {g:Bool} {z:Option Bool} {ll:List V} (hc:aE E f ws (.own 0) [.own U n g z ll]) (hp:dI (vs++caps)) (hm:mtL (vs++caps) ws) (h:bV E D m (i+1) l ((i,⟨d,.own S.nx,some (S.nx,.own U n g z ll)⟩)::R)):gm E D m i l R d S (some (.fn f caps)) (some vs):=
 .inl (.inr ⟨ws,U,n,g,z,ll,hc,zU hp hm,h⟩)
theorem jk {c:Prop} {id nid:Nat} {U:TypeId} {n:Nat} {g:Bool} {z:Option Bool} {ll:List V} (h1:c) (hm:(bI D.ub i id&& !decide (id=nid))=true) (h2:bV E D m (i+1) l ((i,⟨d,.own nid,some (nid,.own U n g z ll)⟩)::R)):ct E D m i l R d nid (some (c,.own id,.app id (.own U n g z ll))):=by
 simp only [ct,fL,decide_true,Bool.true_and,hm]
 exact ⟨h1,fun _=>h2⟩
theorem H3 {need:List (List Nat)} {i:Nat}:ce [] need i R=j7:=Eq.trans rfl rfl
theorem H4:fo [] R=j7:=Eq.trans rfl rfl
theorem H5 {p:Nat×Nat} {ub:List (Nat×Nat)} {need:List (List Nat)} {i k:Nat}:ce (p::ub) need i R k=(ja (p::ub) need i k||et (p::ub) (bz (need.getD i [])) R k):=Eq.trans rfl rfl
theorem H6 {p:Nat×Nat} {ub:List (Nat×Nat)} {k:Nat}:fo (p::ub) R k=et (p::ub) j_ R k:=Eq.trans rfl rfl
theorem H7 {ub:List (Nat×Nat)} {ns:Nat→Bool} {j k:Nat} {t:Option Nat} {v:V} {b:Option (Nat×Blk)}:et ub ns ((j,⟨t,v,b⟩)::R) k=((ns j&&fm ub j b k)||et ub ns R k):=Eq.trans rfl rfl
theorem H8 {ub:List (Nat×Nat)} {ns:Nat→Bool} {k:Nat}:et ub ns [] k=false:=Eq.trans rfl rfl
theorem H9 {ub:List (Nat×Nat)} {j k:Nat}:fm ub j none k=false:=Eq.trans rfl rfl
theorem H_ {ub:List (Nat×Nat)} {j k k':Nat} {b:Blk}:fm ub j (some (k',b)) k=(bI ub j k&& !decide (k'=k)):=Eq.trans rfl rfl
theorem Ia {ub:List (Nat×Nat)} {p:Nat×Nat} {need:List (List Nat)} {i k:Nat} {b:Blk} {H:List (Nat×Blk)}:dW (ce (p::ub) need i R) ((k,b)::H)=if ce (p::ub) need i R k=true then dW (ce (p::ub) need i R) H else (k,b)::dW (ce (p::ub) need i R) H:=by
 simp only [dW];cases ce (p::ub) need i R k<;>rfl
theorem Ib {ub:List (Nat×Nat)} {p:Nat×Nat} {k:Nat} {b:Blk} {H:List (Nat×Blk)}:dW (fo (p::ub) R) ((k,b)::H)=if fo (p::ub) R k=true then dW (fo (p::ub) R) H else (k,b)::dW (fo (p::ub) R) H:=by
 simp only [dW];cases fo (p::ub) R k<;>rfl
theorem Ic {ns:Nat→Bool} {j t:Nat} {v:V} {b:Option (Nat×Blk)}:ep ns ((j,⟨some t,v,b⟩)::R)=if ns j=true then (t,v)::ep ns R else ep ns R:=by
 simp only [ep];cases ns j<;>rfl
theorem Id {ns:Nat→Bool} {j:Nat} {v:V} {b:Option (Nat×Blk)}:ep ns ((j,⟨none,v,b⟩)::R)=ep ns R:=by
 simp only [ep];cases ns j<;>rfl
theorem Ie {ns:Nat→Bool} {j:Nat} {t:Option Nat} {v:V} {b:Nat×Blk}:cV ns ((j,⟨t,v,some b⟩)::R)=if ns j=true then b::cV ns R else cV ns R:=by
 simp only [cV];cases ns j<;>rfl
theorem Ig {ns:Nat→Bool} {j:Nat} {t:Option Nat} {v:V}:cV ns ((j,⟨t,v,none⟩)::R)=cV ns R:=by
 simp only [cV];cases ns j<;>rfl
theorem Ih {ns:Nat→Bool}:ep ns []=[]:=Eq.trans rfl rfl
theorem Ii {ns:Nat→Bool}:cV ns []=[]:=Eq.trans rfl rfl
theorem zX {need:List (List Nat)} {i:Nat}: ∀{l:List Nat},wrF [] need i l=l
 | []=>rfl
 | t::l=>congrArg (t:: ·) (zX (l:=l))
theorem Ij {w k i:Nat} {wl:List (Nat×Nat)} {need:List (List Nat)}:wrF ((w,k)::wl) need i []=[]:=Eq.trans rfl rfl
theorem Ik {w k i t:Nat} {wl:List (Nat×Nat)} {need:List (List Nat)} {l:List Nat}:wrF ((w,k)::wl) need i (t::l)=if jb ((w,k)::wl) need i t=true then wrF ((w,k)::wl) need i l else t::wrF ((w,k)::wl) need i l:=by
 rw [wrF];cases jb ((w,k)::wl) need i t<;>rfl
theorem Il {w k i t:Nat} {wl:List (Nat×Nat)} {need:List (List Nat)}:jb ((w,k)::wl) need i t=((decide (k=t)&&bz (need.getD w []) i)||jb wl need i t):=Eq.trans rfl rfl
theorem Im {i t:Nat} {need:List (List Nat)}:jb [] need i t=false:=Eq.trans rfl rfl
theorem Io {need:List (List Nat)} {i:Nat}:ja [] need i=j7:=by funext k;rfl
theorem zY: ∀{H:List (Nat×Blk)},dW j7 H=H
 | []=>rfl
 | (k,b)::H=>by simp only [dW,j7,zY]
theorem Ip {ban:Nat→Bool}:dW ban []=[]:=Eq.trans rfl rfl
theorem Iq {w k i id:Nat} {ub:List (Nat×Nat)} {need:List (List Nat)}:ja ((w,k)::ub) need i id=((decide (k=id)&&(!decide (w=i)&&(!bz (need.getD i []) w&& !bz (need.getD w []) i)))||ja ub need i id):=Eq.trans rfl rfl
theorem Ir {id:Nat}:j7 id=false:=Eq.trans rfl rfl
theorem Is {j t:Nat} {v:V} {b:Option (Nat×Blk)}:dsR ((j,⟨some t,v,b⟩)::R)=(j,t)::dsR R:=Eq.trans rfl rfl
theorem It {j:Nat} {v:V} {b:Option (Nat×Blk)}:dsR ((j,⟨none,v,b⟩)::R)=dsR R:=Eq.trans rfl rfl
theorem Iu:dsR []=[]:=Eq.trans rfl rfl
theorem Iv {R':List (Nat×bk)} (h:R=R'):bV E D m i l R=bV E D m i l R':=by rw [h]
theorem Iw {nid nid':Nat} {r r':Res} (h0:nid=nid') (h:r=r'):ct E D m i l R d nid r=ct E D m i l R d nid' r':=by rw [h,h0]
theorem Ix {v v':Option V} {vs vs':Option (List V)} (h1:v=v') (h2:vs=vs'):gm E D m i l R d S v vs=gm E D m i l R d S v' vs':=by rw [h1,h2]
theorem Iy {S S':St} (h:S=S'):gT E D m i l R d op T S=gT E D m i l R d op T S':=by rw [h]
theorem Iz {w b b':Bool} {r r':Option bk} (h1:b=b') (h2:r=r'):eI E D m i l R d op T w b r=eI E D m i l R d op T w b' r':=by rw [h1,h2]
end
theorem IA {e:Exit} {S S':St} (h:S=S'):aK E J k e S=aK E J k e S':=by rw [h]
theorem IB {r r':Res} {d:Option Nat} (h:r=r'):kd E J r S d k=kd E J r' S d k:=by rw [h]
theorem IC {v v':Option V} {a b:Code} (h:v=v'):kc E J v a b k S=kc E J v' a b k S:=by rw [h]
theorem ID {v v':Option V} {vs vs':Option (List V)} {d:Option Nat} (h1:v=v') (h2:vs=vs'):ir E J v vs S d k=ir E J v' vs' S d k:=by rw [h1,h2]
theorem IE {v v':Option V} {op:Op} {T:TypeId} {w:Bool} {d:Option Nat} (h:v=v'):eV E J v op T w S d k=eV E J v' op T w S d k:=by rw [h]
theorem IF {t t':Option Nat} {op:Op} {T:TypeId} {w:Bool} {d:Option Nat} (h:t=t'):rR E J t op T w S d k=rR E J t' op T w S d k:=by rw [h]
end
attribute [congr] IA IB IC ID IE IF Hd Iv Iw Ix Iy Iz
theorem IG:(false==true)=false:=Eq.trans rfl rfl
theorem IH:(true==false)=false:=Eq.trans rfl rfl
theorem II:(true==true)=true:=Eq.trans rfl rfl
theorem IJ:(false==false)=true:=Eq.trans rfl rfl
theorem IK {α:Type} {f:α→V} {l:List α} {i j:Nat}:lh (l.map f) i j=(lh l i j).map f:=by simp [lh,List.map_take,List.map_drop]
theorem IL {α:Type} {f:α→V} {l m:List α} {i k:Nat}:spl (l.map f) i k (m.map f)=(spl l i k m).map f:=by simp [spl,List.map_take,List.map_drop]
theorem IM {α:Type} {f:α→V} {l:List α} {i j:Int}:q8 (l.map f) i j=(sl l i j).map f:=by simp [q8,sl,List.map_take,List.map_drop]
theorem IO {z:Option Bool}:mtZ z z=True:=by cases z<;>simp [mtZ]
theorem IP {z:Option Bool}:mtZ z none=True:=by cases z<;>simp [mtZ]
theorem IQ {a b:Bool}:mtZ (some a) (some b)=(a=b):=by simp [mtZ]
theorem zZ {H:List (Nat×Blk)} {k:IntKind}: ∀{l:List Int},lg H (l.map (V.int k))=l.map (V.int k)
 | []=>rfl
 | a::l=>by simp only [List.map_cons,lg,pvw,zZ (l:=l)]
attribute [go_sem] pvw lg pvO zZ
attribute [go_sem] rc re uN rf uO mK oC oD lj zF
theorem IR (x:Int):([x].length=1)=True:=by simp
attribute [go_sem] IR
attribute [go_sem] HJ HM HN gT HU HO HP HQ HR HV HW HX HY Ic Id Ie Ig Ih Ii Is It Iu co lx bz j_ zX Ij Ik Il Im Io zY Ip H3 H4 H5 H6 H7 H8 H9 H_ Ia Ib Iq Ir HZ bI aZ ubB
 Hb He Hf Hg Hh Hi Hj Hk Hl Hm Hn Ho Hp Hq Hc Ht Hr vK io Hu Hv Hw Hy Hz HA rR HH HB HC HD HE opC gN Hx
 opH uQ rg uP uR opF ra evL evL.consO uM jZ yE St.ev St.evT qG ui qF ug mF qH ak dH qI uj uk jV qJ ul uo qK uq qL ur qM ut qN qO uu qP uv eqC ox ow jW uw unF oz uy uz uA qQ qR mI uh zrB zrC Value.oneCell' qS qT qU qV uB qW qX mG lf qY jX qZ q5 q7 f0 uE iZ uG mH isC loB hiB bound jY q9 rOk rIf rB
 St.eff St.put St.after shift i7 gM eD ga lm mL ln part ou jS gO evs eo dU dI dp gc HI gi rJ fq
 gk je jd iq kb m5 mt mtL lB lC G6 IO IP IQ fr ft mtO mtB ltV ltL ltB
 IG IH II IJ IM
 gj q6 uD Bool.or_true Bool.true_or Bool.or_false Bool.false_or Nat.sub_zero IK IL mJ uK uL oB yF uC uF uH uJ li uI q_ um Option.map_some Option.map_none Bool.and_true Bool.true_and Bool.false_and Bool.and_false Bool.not_true Bool.not_false decide_true decide_false true_and and_true false_and and_false true_implies false_implies implies_true and_self not_true_eq_false not_false_eq_true
 List.getElem?_cons_zero List.getElem?_cons_succ List.getD_cons_zero List.getD_cons_succ List.take_succ_cons List.take_zero List.take_nil List.drop_succ_cons List.drop_zero List.drop_nil List.cons_append List.nil_append List.append_nil List.length_cons List.length_nil List.set_cons_zero List.set_cons_succ List.replicate_zero List.replicate_succ List.map_cons List.map_nil List.map_append List.length_map List.map_set List.map_replicate List.tail_cons List.tail_nil List.headD_cons List.headD_nil
 Nat.add_zero Nat.zero_add ne_eq Prod.mk.injEq reduceCtorEq
theorem ap {α β:Type} {a:α} {f:α→β} {R:β} (h:ab a f=R): ∃x,x=a∧f x=R:=⟨a,rfl,h⟩
theorem m7 (a:Int):0≤ah .u64 a:=(om .u64 a).1
end Go.Proofs.YtgealhhkngbkbaaGreatDoor
namespace Go.Proofs.YtgealhhkngbkbaaGreatDoor
open Go.RowKit
def z6 (P:Program) (g:Nat) (name:String) (k:IntKind) (zs:List Int) (c:Cx) (v:Value):Prop:=v= .pointer (some ⟨g,0,none⟩)∧g<c.w.heap.size∧g∉c.X∧P.globalNamed name=some g∧Lib.TabIs P c.w name k zs
def rT (P:Program) (g:Nat) (name:String) (c:Cx) (v:Value):Prop:=v= .pointer (some ⟨g,0,none⟩)∧g<c.w.heap.size∧g∉c.X∧P.globalNamed name=some g∧ ∃t p,c.w.var? P name=some #[.iface t p]
def z7 (_:Cx) (v:Value):Prop:= ∃m,v= .int .i64 m
def cA:List Int:=[2,3,5,7,11,13,17,19,23,29,31,37]
def iu:List Int:=[0,1,56,2,57,49,28,3,61,58,42,50,38,29,17,4,62,47,59,36,45,43,51,22,53,39,33,30,24,18,12,5,63,55,48,27,60,41,37,16,46,35,44,21,52,32,23,11,54,26,40,15,34,20,31,10,25,14,19,9,13,8,7,6]
def kg:List Int:=[1116352408,1899447441,3049323471,3921009573,961987163,1508970993,2453635748,2870763221,3624381080,310598401,607225278,1426881987,1925078388,2162078206,2614888103,3248222580,3835390401,4022224774,264347078,604807628,770255983,1249150122,1555081692,1996064986,2554220882,2821834349,2952996808,3210313671,3336571891,3584528711,113926993,338241895,666307205,773529912,1294757372,1396182291,1695183700,1986661051,2177026350,2456956037,2730485921,2820302411,3259730800,3345764771,3516065817,3600352804,4094571909,275423344,430227734,506948616,659060556,883997877,958139571,1322822218,1537002063,1747873779,1955562222,2024104815,2227730452,2361852424,2428436474,2756734187,3204031479,3329325298]
noncomputable def tbl:List (TypeId×TI):=[(1,{n:=1,g:=false,by':=8,ok:=true,z:= .un,k:=6}),
 (2,{n:=1,g:=false,by':=8,ok:=true,z:= .int .i64 0,k:=0,ik:= .i64}),
 (3,{n:=1,g:=false,by':=8,ok:=true,z:= .int .i64 0,k:=0,ik:= .i64}),
 (4,{n:=1,g:=false,by':=1,ok:=true,z:= .bool false,k:=1}),
 (5,{n:=1,g:=false,by':=1,ok:=true,z:= .int .u8 0,k:=0,ik:= .u8}),
 (9,{n:=1,g:=false,by':=16,ok:=true,z:= .str [],k:=2}),
 (12,{n:=1,g:=false,by':=8,ok:=true,z:= .int .u64 0,k:=0,ik:= .u64}),
 (15,{n:=1,g:=false,by':=8,ok:=true,z:= .un,k:=6}),
 (16,{n:=1,g:=false,by':=8,ok:=true,z:= .un,k:=6}),
 (17,{n:=1,g:=false,by':=8,ok:=true,z:= .un,k:=6}),
 (20,{n:=1,g:=false,by':=16,ok:=true,z:= .un,k:=8}),
 (21,{n:=1,g:=false,by':=4,ok:=true,z:= .int .i32 0,k:=0,ik:= .i32}),
 (23,{n:=3,g:=true,by':=24,ok:=true,z:= .agg [.int .i64 0,.int .i64 0,.int .i64 0],k:=5,fs:=[(0,3),(1,3),(2,3)],cmp:=true,ck:=[0,0,0]}),
 (24,{n:=1,g:=false,by':=24,ok:=true,z:= .sl (some true) 1 false [],k:=3,el:=3}),
 (25,{n:=1,g:=false,by':=24,ok:=true,z:= .sl (some true) 1 false [],k:=3,el:=24}),
 (27,{n:=2,g:=true,by':=48,ok:=true,z:= .agg [.sl (some true) 1 false [],.sl (some true) 1 false []],k:=5,fs:=[(0,24),(1,25)]}),
 (28,{n:=1,g:=false,by':=24,ok:=true,z:= .sl (some true) 4 true [],k:=3,el:=30}),
 (30,{n:=4,g:=true,by':=80,ok:=true,z:= .agg [.int .i64 0,.sl (some true) 1 false [],.sl (some true) 1 false [],.sl (some true) 4 true []],k:=5,fs:=[(0,3),(1,27),(3,28)]}),
 (32,{n:=3,g:=true,by':=56,ok:=true,z:= .agg [.sl (some true) 1 false [],.int .i64 0,.sl (some true) 1 false []],k:=5,fs:=[(0,24),(1,3),(2,24)]}),
 (33,{n:=1,g:=false,by':=24,ok:=true,z:= .sl (some true) 5 true [],k:=3,el:=35}),
 (35,{n:=5,g:=true,by':=88,ok:=true,z:= .agg [.int .i64 0,.sl (some true) 1 false [],.int .i64 0,.sl (some true) 1 false [],.sl (some true) 5 true []],k:=5,fs:=[(0,3),(1,32),(4,33)]}),
 (36,{n:=1,g:=false,by':=8,ok:=true,z:= .un,k:=6}),
 (37,{n:=1,g:=false,by':=8,ok:=true,z:= .un,k:=6}),
 (38,{n:=1,g:=false,by':=8,ok:=true,z:= .un,k:=6}),
 (39,{n:=1,g:=false,by':=8,ok:=true,z:= .un,k:=6}),
 (40,{n:=1,g:=false,by':=4,ok:=true,z:= .int .u32 0,k:=0,ik:= .u32}),
 (41,{n:=32,g:=true,by':=32,ok:=true,z:= .agg [.int .u8 0,.int .u8 0,.int .u8 0,.int .u8 0,.int .u8 0,.int .u8 0,.int .u8 0,.int .u8 0,.int .u8 0,.int .u8 0,.int .u8 0,.int .u8 0,.int .u8 0,.int .u8 0,.int .u8 0,.int .u8 0,.int .u8 0,.int .u8 0,.int .u8 0,.int .u8 0,.int .u8 0,.int .u8 0,.int .u8 0,.int .u8 0,.int .u8 0,.int .u8 0,.int .u8 0,.int .u8 0,.int .u8 0,.int .u8 0,.int .u8 0,.int .u8 0],k:=4,el:=5,len:=32,cmp:=true,ck:=[0,0,0,0,0,0,0,0,0,0,0,0,0,0,0,0,0,0,0,0,0,0,0,0,0,0,0,0,0,0,0,0]}),
 (42,{n:=32,g:=true,by':=32,ok:=true,z:= .agg [.int .u8 0,.int .u8 0,.int .u8 0,.int .u8 0,.int .u8 0,.int .u8 0,.int .u8 0,.int .u8 0,.int .u8 0,.int .u8 0,.int .u8 0,.int .u8 0,.int .u8 0,.int .u8 0,.int .u8 0,.int .u8 0,.int .u8 0,.int .u8 0,.int .u8 0,.int .u8 0,.int .u8 0,.int .u8 0,.int .u8 0,.int .u8 0,.int .u8 0,.int .u8 0,.int .u8 0,.int .u8 0,.int .u8 0,.int .u8 0,.int .u8 0,.int .u8 0],k:=4,el:=5,len:=32,cmp:=true,ck:=[0,0,0,0,0,0,0,0,0,0,0,0,0,0,0,0,0,0,0,0,0,0,0,0,0,0,0,0,0,0,0,0]}),
 (44,{n:=33,g:=true,by':=40,ok:=true,z:= .agg [.int .u8 0,.int .u8 0,.int .u8 0,.int .u8 0,.int .u8 0,.int .u8 0,.int .u8 0,.int .u8 0,.int .u8 0,.int .u8 0,.int .u8 0,.int .u8 0,.int .u8 0,.int .u8 0,.int .u8 0,.int .u8 0,.int .u8 0,.int .u8 0,.int .u8 0,.int .u8 0,.int .u8 0,.int .u8 0,.int .u8 0,.int .u8 0,.int .u8 0,.int .u8 0,.int .u8 0,.int .u8 0,.int .u8 0,.int .u8 0,.int .u8 0,.int .u8 0,.int .i64 0],k:=5,fs:=[(0,42),(32,3)],cmp:=true,ck:=[0,0,0,0,0,0,0,0,0,0,0,0,0,0,0,0,0,0,0,0,0,0,0,0,0,0,0,0,0,0,0,0,0]}),
 (45,{n:=1,g:=false,by':=8,ok:=true,z:= .un,k:=6}),
 (46,{n:=1,g:=false,by':=8,ok:=true,z:= .int .i64 0,k:=0,ik:= .i64}),
 (48,{n:=1,g:=false,by':=8,ok:=true,z:= .un,k:=6}),
 (49,{n:=1,g:=false,by':=8,ok:=true,z:= .un,k:=6}),
 (50,{n:=1,g:=false,by':=8,ok:=true,z:= .un,k:=6}),
 (51,{n:=1,g:=false,by':=8,ok:=true,z:= .un,k:=6}),
 (52,{n:=1,g:=false,by':=8,ok:=true,z:= .un,k:=6}),
 (54,{n:=1,g:=false,by':=8,ok:=true,z:= .un,k:=6}),
 (55,{n:=1,g:=false,by':=8,ok:=true,z:= .un,k:=6}),
 (56,{n:=1,g:=false,by':=8,ok:=true,z:= .un,k:=6}),
 (57,{n:=1,g:=false,by':=8,ok:=true,z:= .un,k:=6}),
 (58,{n:=1,g:=false,by':=8,ok:=true,z:= .un,k:=6}),
 (59,{n:=1,g:=false,by':=8,ok:=true,z:= .un,k:=6}),
 (60,{n:=1,g:=false,by':=8,ok:=true,z:= .un,k:=6}),
 (62,{n:=1,g:=false,by':=8,ok:=true,z:= .un,k:=6}),
 (64,{n:=1,g:=false,by':=8,ok:=true,z:= .un,k:=6}),
 (65,{n:=1,g:=false,by':=8,ok:=true,z:= .un,k:=6}),
 (66,{n:=1,g:=false,by':=8,ok:=true,z:= .un,k:=6}),
 (67,{n:=1,g:=false,by':=8,ok:=true,z:= .un,k:=6}),
 (68,{n:=1,g:=false,by':=8,ok:=true,z:= .un,k:=6}),
 (69,{n:=1,g:=false,by':=8,ok:=true,z:= .un,k:=6}),
 (70,{n:=1,g:=false,by':=8,ok:=true,z:= .un,k:=6}),
 (72,{n:=37,g:=true,by':=72,ok:=true,z:= .agg [.int .i64 0,.int .i64 0,.int .i64 0,.int .u8 0,.int .u8 0,.int .u8 0,.int .u8 0,.int .u8 0,.int .u8 0,.int .u8 0,.int .u8 0,.int .u8 0,.int .u8 0,.int .u8 0,.int .u8 0,.int .u8 0,.int .u8 0,.int .u8 0,.int .u8 0,.int .u8 0,.int .u8 0,.int .u8 0,.int .u8 0,.int .u8 0,.int .u8 0,.int .u8 0,.int .u8 0,.int .u8 0,.int .u8 0,.int .u8 0,.int .u8 0,.int .u8 0,.int .u8 0,.int .u8 0,.int .u8 0,.int .i64 0,.int .i64 0],k:=5,fs:=[(0,23),(3,44),(36,46)],cmp:=true,ck:=[0,0,0,0,0,0,0,0,0,0,0,0,0,0,0,0,0,0,0,0,0,0,0,0,0,0,0,0,0,0,0,0,0,0,0,0,0]}),
 (73,{n:=1,g:=false,by':=8,ok:=true,z:= .un,k:=6}),
 (74,{n:=1,g:=false,by':=8,ok:=true,z:= .un,k:=6}),
 (75,{n:=1,g:=false,by':=8,ok:=true,z:= .un,k:=6}),
 (76,{n:=1,g:=false,by':=8,ok:=true,z:= .un,k:=6}),
 (78,{n:=33,g:=true,by':=40,ok:=true,z:= .agg [.int .u8 0,.int .u8 0,.int .u8 0,.int .u8 0,.int .u8 0,.int .u8 0,.int .u8 0,.int .u8 0,.int .u8 0,.int .u8 0,.int .u8 0,.int .u8 0,.int .u8 0,.int .u8 0,.int .u8 0,.int .u8 0,.int .u8 0,.int .u8 0,.int .u8 0,.int .u8 0,.int .u8 0,.int .u8 0,.int .u8 0,.int .u8 0,.int .u8 0,.int .u8 0,.int .u8 0,.int .u8 0,.int .u8 0,.int .u8 0,.int .u8 0,.int .u8 0,.int .i64 0],k:=5,fs:=[(0,42),(32,3)],cmp:=true,ck:=[0,0,0,0,0,0,0,0,0,0,0,0,0,0,0,0,0,0,0,0,0,0,0,0,0,0,0,0,0,0,0,0,0]}),
 (80,{n:=1,g:=false,by':=8,ok:=true,z:= .un,k:=6}),
 (81,{n:=1,g:=false,by':=8,ok:=true,z:= .un,k:=6}),
 (82,{n:=1,g:=false,by':=8,ok:=true,z:= .un,k:=6}),
 (83,{n:=1,g:=false,by':=8,ok:=true,z:= .un,k:=6}),
 (84,{n:=1,g:=false,by':=8,ok:=true,z:= .un,k:=6}),
 (85,{n:=1,g:=false,by':=8,ok:=true,z:= .un,k:=6}),
 (86,{n:=1,g:=false,by':=8,ok:=true,z:= .un,k:=6}),
 (88,{n:=2,g:=true,by':=24,ok:=true,z:= .agg [.str [],.bool false],k:=5,fs:=[(0,9),(1,4)],cmp:=true,ck:=[2,1]}),
 (89,{n:=1,g:=false,by':=8,ok:=true,z:= .un,k:=6}),
 (90,{n:=1,g:=false,by':=8,ok:=true,z:= .un,k:=6}),
 (91,{n:=1,g:=false,by':=8,ok:=true,z:= .un,k:=6}),
 (92,{n:=1,g:=false,by':=8,ok:=true,z:= .un,k:=6}),
 (93,{n:=1,g:=false,by':=8,ok:=true,z:= .un,k:=6}),
 (94,{n:=1,g:=false,by':=8,ok:=true,z:= .un,k:=6}),
 (95,{n:=1,g:=false,by':=8,ok:=true,z:= .un,k:=6}),
 (96,{n:=1,g:=false,by':=8,ok:=true,z:= .un,k:=6}),
 (97,{n:=1,g:=false,by':=8,ok:=true,z:= .un,k:=6}),
 (98,{n:=1,g:=false,by':=8,ok:=true,z:= .un,k:=6}),
 (99,{n:=1,g:=false,by':=24,ok:=true,z:= .sl (some true) 1 false [],k:=3,el:=5}),
 (100,{n:=1,g:=false,by':=24,ok:=true,z:= .sl (some true) 4 true [],k:=3,el:=102}),
 (102,{n:=4,g:=true,by':=64,ok:=true,z:= .agg [.int .i64 0,.int .i64 0,.sl (some true) 1 false [],.sl (some true) 4 true []],k:=5,fs:=[(0,3),(1,3),(2,99),(3,100)]}),
 (103,{n:=1,g:=false,by':=8,ok:=true,z:= .un,k:=6}),
 (104,{n:=1,g:=false,by':=8,ok:=true,z:= .un,k:=6}),
 (105,{n:=1,g:=false,by':=8,ok:=true,z:= .un,k:=6}),
 (107,{n:=1,g:=false,by':=8,ok:=true,z:= .un,k:=6}),
 (108,{n:=1,g:=false,by':=8,ok:=true,z:= .un,k:=6}),
 (109,{n:=1,g:=false,by':=8,ok:=true,z:= .un,k:=6}),
 (111,{n:=1,g:=false,by':=8,ok:=true,z:= .un,k:=6}),
 (112,{n:=1,g:=false,by':=8,ok:=true,z:= .un,k:=6}),
 (114,{n:=1,g:=false,by':=8,ok:=true,z:= .un,k:=6}),
 (115,{n:=1,g:=false,by':=8,ok:=true,z:= .un,k:=6}),
 (116,{n:=1,g:=false,by':=8,ok:=true,z:= .un,k:=6}),
 (117,{n:=1,g:=false,by':=8,ok:=true,z:= .un,k:=6}),
 (119,{n:=1,g:=false,by':=8,ok:=true,z:= .un,k:=6}),
 (120,{n:=1,g:=false,by':=8,ok:=true,z:= .un,k:=6}),
 (122,{n:=1,g:=false,by':=8,ok:=true,z:= .un,k:=6}),
 (123,{n:=1,g:=false,by':=8,ok:=true,z:= .un,k:=6}),
 (124,{n:=1,g:=false,by':=8,ok:=true,z:= .un,k:=6}),
 (125,{n:=1,g:=false,by':=24,ok:=true,z:= .sl (some true) 1 false [],k:=3,el:=82}),
 (127,{n:=13,g:=true,by':=232,ok:=true,z:= .agg [.int .i64 0,.sl (some true) 1 false [],.sl (some true) 1 false [],.sl (some true) 4 true [],.int .i64 0,.sl (some true) 1 false [],.int .i64 0,.sl (some true) 1 false [],.sl (some true) 5 true [],.sl (some true) 1 false [],.sl (some true) 1 false [],.int .i64 0,.bool false],k:=5,fs:=[(0,30),(4,35),(9,24),(10,125),(11,3),(12,4)]}),
 (129,{n:=1,g:=false,by':=8,ok:=true,z:= .un,k:=6}),
 (130,{n:=1,g:=false,by':=8,ok:=true,z:= .un,k:=6}),
 (131,{n:=1,g:=false,by':=8,ok:=true,z:= .un,k:=6}),
 (132,{n:=1,g:=false,by':=8,ok:=true,z:= .un,k:=6}),
 (133,{n:=1,g:=false,by':=8,ok:=true,z:= .un,k:=6}),
 (134,{n:=1,g:=false,by':=8,ok:=true,z:= .un,k:=6}),
 (135,{n:=1,g:=false,by':=8,ok:=true,z:= .un,k:=6}),
 (136,{n:=1,g:=false,by':=8,ok:=true,z:= .un,k:=6}),
 (137,{n:=1,g:=false,by':=8,ok:=true,z:= .un,k:=6}),
 (138,{n:=1,g:=false,by':=8,ok:=true,z:= .un,k:=6}),
 (139,{n:=1,g:=false,by':=8,ok:=true,z:= .un,k:=6}),
 (140,{n:=1,g:=false,by':=8,ok:=true,z:= .un,k:=6}),
 (141,{n:=1,g:=false,by':=8,ok:=true,z:= .un,k:=6}),
 (142,{n:=1,g:=false,by':=8,ok:=true,z:= .un,k:=6}),
 (143,{n:=1,g:=false,by':=8,ok:=true,z:= .un,k:=6}),
 (144,{n:=1,g:=false,by':=24,ok:=true,z:= .sl (some true) 1 false [],k:=3,el:=9}),
 (145,{n:=1,g:=false,by':=8,ok:=true,z:= .un,k:=6}),
 (146,{n:=1,g:=false,by':=8,ok:=true,z:= .un,k:=6}),
 (147,{n:=1,g:=false,by':=8,ok:=true,z:= .un,k:=6}),
 (148,{n:=1,g:=false,by':=8,ok:=true,z:= .un,k:=6}),
 (149,{n:=1,g:=false,by':=8,ok:=true,z:= .un,k:=6}),
 (150,{n:=1,g:=false,by':=8,ok:=true,z:= .un,k:=6}),
 (151,{n:=1,g:=false,by':=8,ok:=true,z:= .un,k:=6}),
 (152,{n:=1,g:=false,by':=8,ok:=true,z:= .un,k:=6}),
 (153,{n:=1,g:=false,by':=8,ok:=true,z:= .un,k:=6}),
 (154,{n:=1,g:=false,by':=8,ok:=true,z:= .un,k:=6}),
 (156,{n:=1,g:=false,by':=8,ok:=true,z:= .un,k:=6}),
 (157,{n:=1,g:=false,by':=8,ok:=true,z:= .un,k:=6}),
 (158,{n:=1,g:=false,by':=8,ok:=true,z:= .un,k:=6}),
 (160,{n:=1,g:=false,by':=8,ok:=true,z:= .un,k:=6}),
 (161,{n:=1,g:=false,by':=8,ok:=true,z:= .un,k:=6}),
 (162,{n:=1,g:=false,by':=8,ok:=true,z:= .un,k:=6}),
 (163,{n:=1,g:=false,by':=8,ok:=true,z:= .un,k:=6}),
 (164,{n:=1,g:=false,by':=8,ok:=true,z:= .un,k:=6}),
 (165,{n:=1,g:=false,by':=8,ok:=true,z:= .un,k:=6}),
 (166,{n:=1,g:=false,by':=8,ok:=true,z:= .un,k:=6}),
 (167,{n:=1,g:=false,by':=8,ok:=true,z:= .un,k:=6}),
 (169,{n:=1,g:=false,by':=8,ok:=true,z:= .un,k:=6}),
 (170,{n:=1,g:=false,by':=8,ok:=true,z:= .int .u64 0,k:=0,ik:= .u64}),
 (171,{n:=12,g:=true,by':=96,ok:=true,z:= .agg [.int .u64 0,.int .u64 0,.int .u64 0,.int .u64 0,.int .u64 0,.int .u64 0,.int .u64 0,.int .u64 0,.int .u64 0,.int .u64 0,.int .u64 0,.int .u64 0],k:=4,el:=170,len:=12,cmp:=true,ck:=[0,0,0,0,0,0,0,0,0,0,0,0]}),
 (172,{n:=1,g:=false,by':=8,ok:=true,z:= .un,k:=6}),
 (173,{n:=1,g:=false,by':=8,ok:=true,z:= .un,k:=6}),
 (174,{n:=1,g:=false,by':=8,ok:=true,z:= .un,k:=6}),
 (175,{n:=1,g:=false,by':=8,ok:=true,z:= .int .u64 0,k:=0,ik:= .u64}),
 (176,{n:=1,g:=false,by':=8,ok:=true,z:= .un,k:=6}),
 (179,{n:=1,g:=false,by':=8,ok:=true,z:= .un,k:=6}),
 (180,{n:=1,g:=false,by':=16,ok:=true,z:= .un,k:=8}),
 (181,{n:=1,g:=false,by':=16,ok:=true,z:= .un,k:=8}),
 (183,{n:=1,g:=false,by':=8,ok:=true,z:= .un,k:=6}),
 (184,{n:=1,g:=false,by':=8,ok:=true,z:= .un,k:=6}),
 (186,{n:=1,g:=false,by':=8,ok:=true,z:= .un,k:=6}),
 (187,{n:=1,g:=false,by':=8,ok:=true,z:= .un,k:=6}),
 (188,{n:=1,g:=false,by':=8,ok:=true,z:= .un,k:=6}),
 (189,{n:=1,g:=false,by':=8,ok:=true,z:= .un,k:=6}),
 (190,{n:=1,g:=false,by':=8,ok:=true,z:= .un,k:=6}),
 (191,{n:=1,g:=false,by':=24,ok:=true,z:= .sl (some true) 1 false [],k:=3,el:=40}),
 (193,{n:=1,g:=true,by':=24,ok:=true,z:= .agg [.sl (some true) 1 false []],k:=5,fs:=[(0,191)]}),
 (194,{n:=1,g:=false,by':=8,ok:=true,z:= .un,k:=6}),
 (195,{n:=1,g:=false,by':=8,ok:=true,z:= .un,k:=6}),
 (196,{n:=1,g:=false,by':=8,ok:=true,z:= .un,k:=6}),
 (197,{n:=1,g:=false,by':=8,ok:=true,z:= .un,k:=6}),
 (198,{n:=1,g:=false,by':=8,ok:=true,z:= .un,k:=6}),
 (200,{n:=34,g:=true,by':=48,ok:=true,z:= .agg [.int .u8 0,.int .u8 0,.int .u8 0,.int .u8 0,.int .u8 0,.int .u8 0,.int .u8 0,.int .u8 0,.int .u8 0,.int .u8 0,.int .u8 0,.int .u8 0,.int .u8 0,.int .u8 0,.int .u8 0,.int .u8 0,.int .u8 0,.int .u8 0,.int .u8 0,.int .u8 0,.int .u8 0,.int .u8 0,.int .u8 0,.int .u8 0,.int .u8 0,.int .u8 0,.int .u8 0,.int .u8 0,.int .u8 0,.int .u8 0,.int .u8 0,.int .u8 0,.int .i64 0,.bool false],k:=5,fs:=[(0,44),(33,4)],cmp:=true,ck:=[0,0,0,0,0,0,0,0,0,0,0,0,0,0,0,0,0,0,0,0,0,0,0,0,0,0,0,0,0,0,0,0,0,1]}),
 (203,{n:=1,g:=false,by':=8,ok:=true,z:= .un,k:=6}),
 (204,{n:=1,g:=false,by':=8,ok:=true,z:= .un,k:=6}),
 (205,{n:=1,g:=false,by':=8,ok:=true,z:= .un,k:=6}),
 (206,{n:=8,g:=true,by':=32,ok:=true,z:= .agg [.int .u32 0,.int .u32 0,.int .u32 0,.int .u32 0,.int .u32 0,.int .u32 0,.int .u32 0,.int .u32 0],k:=4,el:=40,len:=8,cmp:=true,ck:=[0,0,0,0,0,0,0,0]}),
 (207,{n:=1,g:=false,by':=8,ok:=true,z:= .un,k:=6}),
 (208,{n:=1,g:=false,by':=8,ok:=true,z:= .un,k:=6}),
 (209,{n:=64,g:=true,by':=64,ok:=true,z:= .agg [.int .u8 0,.int .u8 0,.int .u8 0,.int .u8 0,.int .u8 0,.int .u8 0,.int .u8 0,.int .u8 0,.int .u8 0,.int .u8 0,.int .u8 0,.int .u8 0,.int .u8 0,.int .u8 0,.int .u8 0,.int .u8 0,.int .u8 0,.int .u8 0,.int .u8 0,.int .u8 0,.int .u8 0,.int .u8 0,.int .u8 0,.int .u8 0,.int .u8 0,.int .u8 0,.int .u8 0,.int .u8 0,.int .u8 0,.int .u8 0,.int .u8 0,.int .u8 0,.int .u8 0,.int .u8 0,.int .u8 0,.int .u8 0,.int .u8 0,.int .u8 0,.int .u8 0,.int .u8 0,.int .u8 0,.int .u8 0,.int .u8 0,.int .u8 0,.int .u8 0,.int .u8 0,.int .u8 0,.int .u8 0,.int .u8 0,.int .u8 0,.int .u8 0,.int .u8 0,.int .u8 0,.int .u8 0,.int .u8 0,.int .u8 0,.int .u8 0,.int .u8 0,.int .u8 0,.int .u8 0,.int .u8 0,.int .u8 0,.int .u8 0,.int .u8 0],k:=4,el:=5,len:=64,cmp:=true,ck:=[0,0,0,0,0,0,0,0,0,0,0,0,0,0,0,0,0,0,0,0,0,0,0,0,0,0,0,0,0,0,0,0,0,0,0,0,0,0,0,0,0,0,0,0,0,0,0,0,0,0,0,0,0,0,0,0,0,0,0,0,0,0,0,0]}),
 (210,{n:=1,g:=false,by':=8,ok:=true,z:= .un,k:=6}),
 (212,{n:=1,g:=false,by':=8,ok:=true,z:= .un,k:=6}),
 (213,{n:=1,g:=false,by':=8,ok:=true,z:= .un,k:=6}),
 (214,{n:=1,g:=false,by':=8,ok:=true,z:= .un,k:=6}),
 (215,{n:=1,g:=false,by':=8,ok:=true,z:= .un,k:=6}),
 (216,{n:=1,g:=false,by':=8,ok:=true,z:= .un,k:=6}),
 (217,{n:=1,g:=false,by':=8,ok:=true,z:= .un,k:=6}),
 (218,{n:=1,g:=false,by':=8,ok:=true,z:= .un,k:=6}),
 (219,{n:=1,g:=false,by':=8,ok:=true,z:= .un,k:=6}),
 (221,{n:=1,g:=false,by':=8,ok:=true,z:= .un,k:=6}),
 (222,{n:=1,g:=false,by':=8,ok:=true,z:= .un,k:=6}),
 (223,{n:=1,g:=false,by':=8,ok:=true,z:= .un,k:=6}),
 (224,{n:=1,g:=false,by':=8,ok:=true,z:= .un,k:=6}),
 (225,{n:=1,g:=false,by':=8,ok:=true,z:= .un,k:=6}),
 (226,{n:=64,g:=true,by':=256,ok:=true,z:= .agg [.int .u32 0,.int .u32 0,.int .u32 0,.int .u32 0,.int .u32 0,.int .u32 0,.int .u32 0,.int .u32 0,.int .u32 0,.int .u32 0,.int .u32 0,.int .u32 0,.int .u32 0,.int .u32 0,.int .u32 0,.int .u32 0,.int .u32 0,.int .u32 0,.int .u32 0,.int .u32 0,.int .u32 0,.int .u32 0,.int .u32 0,.int .u32 0,.int .u32 0,.int .u32 0,.int .u32 0,.int .u32 0,.int .u32 0,.int .u32 0,.int .u32 0,.int .u32 0,.int .u32 0,.int .u32 0,.int .u32 0,.int .u32 0,.int .u32 0,.int .u32 0,.int .u32 0,.int .u32 0,.int .u32 0,.int .u32 0,.int .u32 0,.int .u32 0,.int .u32 0,.int .u32 0,.int .u32 0,.int .u32 0,.int .u32 0,.int .u32 0,.int .u32 0,.int .u32 0,.int .u32 0,.int .u32 0,.int .u32 0,.int .u32 0,.int .u32 0,.int .u32 0,.int .u32 0,.int .u32 0,.int .u32 0,.int .u32 0,.int .u32 0,.int .u32 0],k:=4,el:=40,len:=64,cmp:=true,ck:=[0,0,0,0,0,0,0,0,0,0,0,0,0,0,0,0,0,0,0,0,0,0,0,0,0,0,0,0,0,0,0,0,0,0,0,0,0,0,0,0,0,0,0,0,0,0,0,0,0,0,0,0,0,0,0,0,0,0,0,0,0,0,0,0]}),
 (227,{n:=1,g:=false,by':=8,ok:=true,z:= .un,k:=6}),
 (228,{n:=1,g:=false,by':=8,ok:=true,z:= .un,k:=6}),
 (229,{n:=1,g:=false,by':=8,ok:=true,z:= .un,k:=6}),
 (230,{n:=1,g:=false,by':=8,ok:=true,z:= .un,k:=6}),
 (231,{n:=1,g:=false,by':=8,ok:=true,z:= .un,k:=6}),
 (232,{n:=1,g:=false,by':=8,ok:=true,z:= .un,k:=6}),
 (233,{n:=1,g:=false,by':=8,ok:=true,z:= .un,k:=6}),
 (234,{n:=1,g:=false,by':=8,ok:=true,z:= .un,k:=6}),
 (235,{n:=1,g:=false,by':=8,ok:=true,z:= .un,k:=6}),
 (238,{n:=1,g:=false,by':=8,ok:=true,z:= .un,k:=6}),
 (239,{n:=1,g:=false,by':=8,ok:=true,z:= .un,k:=6}),
 (240,{n:=1,g:=false,by':=8,ok:=true,z:= .un,k:=6}),
 (241,{n:=1,g:=false,by':=8,ok:=true,z:= .un,k:=6}),
 (242,{n:=24,g:=true,by':=24,ok:=true,z:= .agg [.int .u8 0,.int .u8 0,.int .u8 0,.int .u8 0,.int .u8 0,.int .u8 0,.int .u8 0,.int .u8 0,.int .u8 0,.int .u8 0,.int .u8 0,.int .u8 0,.int .u8 0,.int .u8 0,.int .u8 0,.int .u8 0,.int .u8 0,.int .u8 0,.int .u8 0,.int .u8 0,.int .u8 0,.int .u8 0,.int .u8 0,.int .u8 0],k:=4,el:=5,len:=24,cmp:=true,ck:=[0,0,0,0,0,0,0,0,0,0,0,0,0,0,0,0,0,0,0,0,0,0,0,0]}),
 (243,{n:=1,g:=false,by':=8,ok:=true,z:= .un,k:=6}),
 (255,{n:=20,g:=true,by':=160,ok:=true,z:= .agg [.int .u64 0,.int .u64 0,.int .u64 0,.int .u64 0,.int .u64 0,.int .u64 0,.int .u64 0,.int .u64 0,.int .u64 0,.int .u64 0,.int .u64 0,.int .u64 0,.int .u64 0,.int .u64 0,.int .u64 0,.int .u64 0,.int .u64 0,.int .u64 0,.int .u64 0,.int .u64 0],k:=4,el:=170,len:=20,cmp:=true,ck:=[0,0,0,0,0,0,0,0,0,0,0,0,0,0,0,0,0,0,0,0]}),
 (256,{n:=65,g:=true,by':=65,ok:=true,z:= .agg [.int .u8 0,.int .u8 0,.int .u8 0,.int .u8 0,.int .u8 0,.int .u8 0,.int .u8 0,.int .u8 0,.int .u8 0,.int .u8 0,.int .u8 0,.int .u8 0,.int .u8 0,.int .u8 0,.int .u8 0,.int .u8 0,.int .u8 0,.int .u8 0,.int .u8 0,.int .u8 0,.int .u8 0,.int .u8 0,.int .u8 0,.int .u8 0,.int .u8 0,.int .u8 0,.int .u8 0,.int .u8 0,.int .u8 0,.int .u8 0,.int .u8 0,.int .u8 0,.int .u8 0,.int .u8 0,.int .u8 0,.int .u8 0,.int .u8 0,.int .u8 0,.int .u8 0,.int .u8 0,.int .u8 0,.int .u8 0,.int .u8 0,.int .u8 0,.int .u8 0,.int .u8 0,.int .u8 0,.int .u8 0,.int .u8 0,.int .u8 0,.int .u8 0,.int .u8 0,.int .u8 0,.int .u8 0,.int .u8 0,.int .u8 0,.int .u8 0,.int .u8 0,.int .u8 0,.int .u8 0,.int .u8 0,.int .u8 0,.int .u8 0,.int .u8 0,.int .u8 0],k:=4,el:=5,len:=65,cmp:=true,ck:=[0,0,0,0,0,0,0,0,0,0,0,0,0,0,0,0,0,0,0,0,0,0,0,0,0,0,0,0,0,0,0,0,0,0,0,0,0,0,0,0,0,0,0,0,0,0,0,0,0,0,0,0,0,0,0,0,0,0,0,0,0,0,0,0,0]}),
 (260,{n:=1,g:=false,by':=8,ok:=true,z:= .un,k:=6}),
 (271,{n:=1,g:=false,by':=8,ok:=true,z:= .un,k:=6})]
noncomputable def En:Env:={P:=Tryz.prog,tb:=lr tbl,gv:=fun g=>if g=0 then some (.pp 12 true (.agg (cA.map (V.int .u64)))) else if g=1 then some (.pp 8 true (.agg [.int .u32 1779033703,.int .u32 3144134277,.int .u32 1013904242,.int .u32 2773480762,.int .u32 1359893119,.int .u32 2600822924,.int .u32 528734635,.int .u32 1541459225])) else if g=2 then some (.pp 64 true (.agg (iu.map (V.int .u8)))) else if g=3 then some (.pp 64 true (.agg (kg.map (V.int .u32)))) else if g=6 then some (.pp 1 false (.opq z7)) else if g=7 then some (.opq (rT Tryz.prog 7 "strconv.ErrSyntax")) else if g=8 then some (.opq (rT Tryz.prog 8 "strconv.ErrRange")) else if g=9 then some (.opq (z6 Tryz.prog 9 "internal/strconv.uint64pow10" .u64 Lib.pow10Tab)) else none}
@[go_sem] theorem gv0:En.gv 0=some (.pp 12 true (.agg (cA.map (V.int .u64)))):=Eq.trans rfl rfl
@[go_sem] theorem gv1:En.gv 1=some (.pp 8 true (.agg [.int .u32 1779033703,.int .u32 3144134277,.int .u32 1013904242,.int .u32 2773480762,.int .u32 1359893119,.int .u32 2600822924,.int .u32 528734635,.int .u32 1541459225])):=Eq.trans rfl rfl
@[go_sem] theorem gv2:En.gv 2=some (.pp 64 true (.agg (iu.map (V.int .u8)))):=Eq.trans rfl rfl
@[go_sem] theorem gv3:En.gv 3=some (.pp 64 true (.agg (kg.map (V.int .u32)))):=Eq.trans rfl rfl
set_option maxRecDepth 100000
theorem IU:yJ Tryz.prog tbl=true:=by kernel_rfl
theorem bf:bn En:=⟨fun _ h=>tOk (l:=tbl) IU h⟩
theorem bv:En.P.follows .mixedOrders=true:=by kernel_rfl
@[go_sem] theorem tb1:En.tb 1={n:=1,g:=false,by':=8,ok:=true,z:= .un,k:=6}:=rfl
@[go_sem] theorem tb2:En.tb 2={n:=1,g:=false,by':=8,ok:=true,z:= .int .i64 0,k:=0,ik:= .i64}:=rfl
@[go_sem] theorem tb3:En.tb 3={n:=1,g:=false,by':=8,ok:=true,z:= .int .i64 0,k:=0,ik:= .i64}:=rfl
@[go_sem] theorem tb4:En.tb 4={n:=1,g:=false,by':=1,ok:=true,z:= .bool false,k:=1}:=rfl
@[go_sem] theorem tb5:En.tb 5={n:=1,g:=false,by':=1,ok:=true,z:= .int .u8 0,k:=0,ik:= .u8}:=rfl
@[go_sem] theorem tb9:En.tb 9={n:=1,g:=false,by':=16,ok:=true,z:= .str [],k:=2}:=rfl
@[go_sem] theorem tb12:En.tb 12={n:=1,g:=false,by':=8,ok:=true,z:= .int .u64 0,k:=0,ik:= .u64}:=rfl
@[go_sem] theorem tb15:En.tb 15={n:=1,g:=false,by':=8,ok:=true,z:= .un,k:=6}:=rfl
@[go_sem] theorem tb16:En.tb 16={n:=1,g:=false,by':=8,ok:=true,z:= .un,k:=6}:=rfl
@[go_sem] theorem tb17:En.tb 17={n:=1,g:=false,by':=8,ok:=true,z:= .un,k:=6}:=rfl
@[go_sem] theorem tb20:En.tb 20={n:=1,g:=false,by':=16,ok:=true,z:= .un,k:=8}:=rfl
@[go_sem] theorem tb21:En.tb 21={n:=1,g:=false,by':=4,ok:=true,z:= .int .i32 0,k:=0,ik:= .i32}:=rfl
@[go_sem] theorem m8:En.tb 23={n:=3,g:=true,by':=24,ok:=true,z:= .agg [.int .i64 0,.int .i64 0,.int .i64 0],k:=5,fs:=[(0,3),(1,3),(2,3)],cmp:=true,ck:=[0,0,0]}:=rfl
@[go_sem] theorem oW:En.tb 24={n:=1,g:=false,by':=24,ok:=true,z:= .sl (some true) 1 false [],k:=3,el:=3}:=rfl
@[go_sem] theorem rU:En.tb 25={n:=1,g:=false,by':=24,ok:=true,z:= .sl (some true) 1 false [],k:=3,el:=24}:=rfl
@[go_sem] theorem rW:En.tb 27={n:=2,g:=true,by':=48,ok:=true,z:= .agg [.sl (some true) 1 false [],.sl (some true) 1 false []],k:=5,fs:=[(0,24),(1,25)]}:=rfl
@[go_sem] theorem rX:En.tb 28={n:=1,g:=false,by':=24,ok:=true,z:= .sl (some true) 4 true [],k:=3,el:=30}:=rfl
@[go_sem] theorem lH:En.tb 30={n:=4,g:=true,by':=80,ok:=true,z:= .agg [.int .i64 0,.sl (some true) 1 false [],.sl (some true) 1 false [],.sl (some true) 4 true []],k:=5,fs:=[(0,3),(1,27),(3,28)]}:=rfl
@[go_sem] theorem rY:En.tb 32={n:=3,g:=true,by':=56,ok:=true,z:= .agg [.sl (some true) 1 false [],.int .i64 0,.sl (some true) 1 false []],k:=5,fs:=[(0,24),(1,3),(2,24)]}:=rfl
@[go_sem] theorem rZ:En.tb 33={n:=1,g:=false,by':=24,ok:=true,z:= .sl (some true) 5 true [],k:=3,el:=35}:=rfl
@[go_sem] theorem lI:En.tb 35={n:=5,g:=true,by':=88,ok:=true,z:= .agg [.int .i64 0,.sl (some true) 1 false [],.int .i64 0,.sl (some true) 1 false [],.sl (some true) 5 true []],k:=5,fs:=[(0,3),(1,32),(4,33)]}:=rfl
@[go_sem] theorem tb36:En.tb 36={n:=1,g:=false,by':=8,ok:=true,z:= .un,k:=6}:=rfl
@[go_sem] theorem tb37:En.tb 37={n:=1,g:=false,by':=8,ok:=true,z:= .un,k:=6}:=rfl
@[go_sem] theorem tb38:En.tb 38={n:=1,g:=false,by':=8,ok:=true,z:= .un,k:=6}:=rfl
@[go_sem] theorem tb39:En.tb 39={n:=1,g:=false,by':=8,ok:=true,z:= .un,k:=6}:=rfl
@[go_sem] theorem tb40:En.tb 40={n:=1,g:=false,by':=4,ok:=true,z:= .int .u32 0,k:=0,ik:= .u32}:=rfl
@[go_sem] theorem tb41:En.tb 41={n:=32,g:=true,by':=32,ok:=true,z:= .agg [.int .u8 0,.int .u8 0,.int .u8 0,.int .u8 0,.int .u8 0,.int .u8 0,.int .u8 0,.int .u8 0,.int .u8 0,.int .u8 0,.int .u8 0,.int .u8 0,.int .u8 0,.int .u8 0,.int .u8 0,.int .u8 0,.int .u8 0,.int .u8 0,.int .u8 0,.int .u8 0,.int .u8 0,.int .u8 0,.int .u8 0,.int .u8 0,.int .u8 0,.int .u8 0,.int .u8 0,.int .u8 0,.int .u8 0,.int .u8 0,.int .u8 0,.int .u8 0],k:=4,el:=5,len:=32,cmp:=true,ck:=[0,0,0,0,0,0,0,0,0,0,0,0,0,0,0,0,0,0,0,0,0,0,0,0,0,0,0,0,0,0,0,0]}:=rfl
@[go_sem] theorem tb42:En.tb 42={n:=32,g:=true,by':=32,ok:=true,z:= .agg [.int .u8 0,.int .u8 0,.int .u8 0,.int .u8 0,.int .u8 0,.int .u8 0,.int .u8 0,.int .u8 0,.int .u8 0,.int .u8 0,.int .u8 0,.int .u8 0,.int .u8 0,.int .u8 0,.int .u8 0,.int .u8 0,.int .u8 0,.int .u8 0,.int .u8 0,.int .u8 0,.int .u8 0,.int .u8 0,.int .u8 0,.int .u8 0,.int .u8 0,.int .u8 0,.int .u8 0,.int .u8 0,.int .u8 0,.int .u8 0,.int .u8 0,.int .u8 0],k:=4,el:=5,len:=32,cmp:=true,ck:=[0,0,0,0,0,0,0,0,0,0,0,0,0,0,0,0,0,0,0,0,0,0,0,0,0,0,0,0,0,0,0,0]}:=rfl
@[go_sem] theorem tb44:En.tb 44={n:=33,g:=true,by':=40,ok:=true,z:= .agg [.int .u8 0,.int .u8 0,.int .u8 0,.int .u8 0,.int .u8 0,.int .u8 0,.int .u8 0,.int .u8 0,.int .u8 0,.int .u8 0,.int .u8 0,.int .u8 0,.int .u8 0,.int .u8 0,.int .u8 0,.int .u8 0,.int .u8 0,.int .u8 0,.int .u8 0,.int .u8 0,.int .u8 0,.int .u8 0,.int .u8 0,.int .u8 0,.int .u8 0,.int .u8 0,.int .u8 0,.int .u8 0,.int .u8 0,.int .u8 0,.int .u8 0,.int .u8 0,.int .i64 0],k:=5,fs:=[(0,42),(32,3)],cmp:=true,ck:=[0,0,0,0,0,0,0,0,0,0,0,0,0,0,0,0,0,0,0,0,0,0,0,0,0,0,0,0,0,0,0,0,0]}:=rfl
@[go_sem] theorem tb45:En.tb 45={n:=1,g:=false,by':=8,ok:=true,z:= .un,k:=6}:=rfl
@[go_sem] theorem tb46:En.tb 46={n:=1,g:=false,by':=8,ok:=true,z:= .int .i64 0,k:=0,ik:= .i64}:=rfl
@[go_sem] theorem tb48:En.tb 48={n:=1,g:=false,by':=8,ok:=true,z:= .un,k:=6}:=rfl
@[go_sem] theorem tb49:En.tb 49={n:=1,g:=false,by':=8,ok:=true,z:= .un,k:=6}:=rfl
@[go_sem] theorem tb50:En.tb 50={n:=1,g:=false,by':=8,ok:=true,z:= .un,k:=6}:=rfl
@[go_sem] theorem tb51:En.tb 51={n:=1,g:=false,by':=8,ok:=true,z:= .un,k:=6}:=rfl
@[go_sem] theorem tb52:En.tb 52={n:=1,g:=false,by':=8,ok:=true,z:= .un,k:=6}:=rfl
@[go_sem] theorem tb54:En.tb 54={n:=1,g:=false,by':=8,ok:=true,z:= .un,k:=6}:=rfl
@[go_sem] theorem tb55:En.tb 55={n:=1,g:=false,by':=8,ok:=true,z:= .un,k:=6}:=rfl
@[go_sem] theorem tb56:En.tb 56={n:=1,g:=false,by':=8,ok:=true,z:= .un,k:=6}:=rfl
@[go_sem] theorem tb57:En.tb 57={n:=1,g:=false,by':=8,ok:=true,z:= .un,k:=6}:=rfl
@[go_sem] theorem tb58:En.tb 58={n:=1,g:=false,by':=8,ok:=true,z:= .un,k:=6}:=rfl
@[go_sem] theorem tb59:En.tb 59={n:=1,g:=false,by':=8,ok:=true,z:= .un,k:=6}:=rfl
@[go_sem] theorem tb60:En.tb 60={n:=1,g:=false,by':=8,ok:=true,z:= .un,k:=6}:=rfl
@[go_sem] theorem tb62:En.tb 62={n:=1,g:=false,by':=8,ok:=true,z:= .un,k:=6}:=rfl
@[go_sem] theorem tb64:En.tb 64={n:=1,g:=false,by':=8,ok:=true,z:= .un,k:=6}:=rfl
@[go_sem] theorem tb65:En.tb 65={n:=1,g:=false,by':=8,ok:=true,z:= .un,k:=6}:=rfl
@[go_sem] theorem tb66:En.tb 66={n:=1,g:=false,by':=8,ok:=true,z:= .un,k:=6}:=rfl
@[go_sem] theorem tb67:En.tb 67={n:=1,g:=false,by':=8,ok:=true,z:= .un,k:=6}:=rfl
@[go_sem] theorem tb68:En.tb 68={n:=1,g:=false,by':=8,ok:=true,z:= .un,k:=6}:=rfl
@[go_sem] theorem tb69:En.tb 69={n:=1,g:=false,by':=8,ok:=true,z:= .un,k:=6}:=rfl
@[go_sem] theorem tb70:En.tb 70={n:=1,g:=false,by':=8,ok:=true,z:= .un,k:=6}:=rfl
@[go_sem] theorem tb72:En.tb 72={n:=37,g:=true,by':=72,ok:=true,z:= .agg [.int .i64 0,.int .i64 0,.int .i64 0,.int .u8 0,.int .u8 0,.int .u8 0,.int .u8 0,.int .u8 0,.int .u8 0,.int .u8 0,.int .u8 0,.int .u8 0,.int .u8 0,.int .u8 0,.int .u8 0,.int .u8 0,.int .u8 0,.int .u8 0,.int .u8 0,.int .u8 0,.int .u8 0,.int .u8 0,.int .u8 0,.int .u8 0,.int .u8 0,.int .u8 0,.int .u8 0,.int .u8 0,.int .u8 0,.int .u8 0,.int .u8 0,.int .u8 0,.int .u8 0,.int .u8 0,.int .u8 0,.int .i64 0,.int .i64 0],k:=5,fs:=[(0,23),(3,44),(36,46)],cmp:=true,ck:=[0,0,0,0,0,0,0,0,0,0,0,0,0,0,0,0,0,0,0,0,0,0,0,0,0,0,0,0,0,0,0,0,0,0,0,0,0]}:=rfl
@[go_sem] theorem tb73:En.tb 73={n:=1,g:=false,by':=8,ok:=true,z:= .un,k:=6}:=rfl
@[go_sem] theorem tb74:En.tb 74={n:=1,g:=false,by':=8,ok:=true,z:= .un,k:=6}:=rfl
@[go_sem] theorem tb75:En.tb 75={n:=1,g:=false,by':=8,ok:=true,z:= .un,k:=6}:=rfl
@[go_sem] theorem tb76:En.tb 76={n:=1,g:=false,by':=8,ok:=true,z:= .un,k:=6}:=rfl
@[go_sem] theorem tb78:En.tb 78={n:=33,g:=true,by':=40,ok:=true,z:= .agg [.int .u8 0,.int .u8 0,.int .u8 0,.int .u8 0,.int .u8 0,.int .u8 0,.int .u8 0,.int .u8 0,.int .u8 0,.int .u8 0,.int .u8 0,.int .u8 0,.int .u8 0,.int .u8 0,.int .u8 0,.int .u8 0,.int .u8 0,.int .u8 0,.int .u8 0,.int .u8 0,.int .u8 0,.int .u8 0,.int .u8 0,.int .u8 0,.int .u8 0,.int .u8 0,.int .u8 0,.int .u8 0,.int .u8 0,.int .u8 0,.int .u8 0,.int .u8 0,.int .i64 0],k:=5,fs:=[(0,42),(32,3)],cmp:=true,ck:=[0,0,0,0,0,0,0,0,0,0,0,0,0,0,0,0,0,0,0,0,0,0,0,0,0,0,0,0,0,0,0,0,0]}:=rfl
@[go_sem] theorem tb80:En.tb 80={n:=1,g:=false,by':=8,ok:=true,z:= .un,k:=6}:=rfl
@[go_sem] theorem tb81:En.tb 81={n:=1,g:=false,by':=8,ok:=true,z:= .un,k:=6}:=rfl
@[go_sem] theorem tb82:En.tb 82={n:=1,g:=false,by':=8,ok:=true,z:= .un,k:=6}:=rfl
@[go_sem] theorem tb83:En.tb 83={n:=1,g:=false,by':=8,ok:=true,z:= .un,k:=6}:=rfl
@[go_sem] theorem tb84:En.tb 84={n:=1,g:=false,by':=8,ok:=true,z:= .un,k:=6}:=rfl
@[go_sem] theorem tb85:En.tb 85={n:=1,g:=false,by':=8,ok:=true,z:= .un,k:=6}:=rfl
@[go_sem] theorem tb86:En.tb 86={n:=1,g:=false,by':=8,ok:=true,z:= .un,k:=6}:=rfl
@[go_sem] theorem tb88:En.tb 88={n:=2,g:=true,by':=24,ok:=true,z:= .agg [.str [],.bool false],k:=5,fs:=[(0,9),(1,4)],cmp:=true,ck:=[2,1]}:=rfl
@[go_sem] theorem tb89:En.tb 89={n:=1,g:=false,by':=8,ok:=true,z:= .un,k:=6}:=rfl
@[go_sem] theorem tb90:En.tb 90={n:=1,g:=false,by':=8,ok:=true,z:= .un,k:=6}:=rfl
@[go_sem] theorem tb91:En.tb 91={n:=1,g:=false,by':=8,ok:=true,z:= .un,k:=6}:=rfl
@[go_sem] theorem tb92:En.tb 92={n:=1,g:=false,by':=8,ok:=true,z:= .un,k:=6}:=rfl
@[go_sem] theorem tb93:En.tb 93={n:=1,g:=false,by':=8,ok:=true,z:= .un,k:=6}:=rfl
@[go_sem] theorem tb94:En.tb 94={n:=1,g:=false,by':=8,ok:=true,z:= .un,k:=6}:=rfl
@[go_sem] theorem tb95:En.tb 95={n:=1,g:=false,by':=8,ok:=true,z:= .un,k:=6}:=rfl
@[go_sem] theorem tb96:En.tb 96={n:=1,g:=false,by':=8,ok:=true,z:= .un,k:=6}:=rfl
@[go_sem] theorem tb97:En.tb 97={n:=1,g:=false,by':=8,ok:=true,z:= .un,k:=6}:=rfl
@[go_sem] theorem tb98:En.tb 98={n:=1,g:=false,by':=8,ok:=true,z:= .un,k:=6}:=rfl
@[go_sem] theorem tb99:En.tb 99={n:=1,g:=false,by':=24,ok:=true,z:= .sl (some true) 1 false [],k:=3,el:=5}:=rfl
@[go_sem] theorem tb100:En.tb 100={n:=1,g:=false,by':=24,ok:=true,z:= .sl (some true) 4 true [],k:=3,el:=102}:=rfl
@[go_sem] theorem tb102:En.tb 102={n:=4,g:=true,by':=64,ok:=true,z:= .agg [.int .i64 0,.int .i64 0,.sl (some true) 1 false [],.sl (some true) 4 true []],k:=5,fs:=[(0,3),(1,3),(2,99),(3,100)]}:=rfl
@[go_sem] theorem tb103:En.tb 103={n:=1,g:=false,by':=8,ok:=true,z:= .un,k:=6}:=rfl
@[go_sem] theorem tb104:En.tb 104={n:=1,g:=false,by':=8,ok:=true,z:= .un,k:=6}:=rfl
@[go_sem] theorem tb105:En.tb 105={n:=1,g:=false,by':=8,ok:=true,z:= .un,k:=6}:=rfl
@[go_sem] theorem tb107:En.tb 107={n:=1,g:=false,by':=8,ok:=true,z:= .un,k:=6}:=rfl
@[go_sem] theorem tb108:En.tb 108={n:=1,g:=false,by':=8,ok:=true,z:= .un,k:=6}:=rfl
@[go_sem] theorem tb109:En.tb 109={n:=1,g:=false,by':=8,ok:=true,z:= .un,k:=6}:=rfl
@[go_sem] theorem tb111:En.tb 111={n:=1,g:=false,by':=8,ok:=true,z:= .un,k:=6}:=rfl
@[go_sem] theorem tb112:En.tb 112={n:=1,g:=false,by':=8,ok:=true,z:= .un,k:=6}:=rfl
@[go_sem] theorem tb114:En.tb 114={n:=1,g:=false,by':=8,ok:=true,z:= .un,k:=6}:=rfl
@[go_sem] theorem tb115:En.tb 115={n:=1,g:=false,by':=8,ok:=true,z:= .un,k:=6}:=rfl
@[go_sem] theorem tb116:En.tb 116={n:=1,g:=false,by':=8,ok:=true,z:= .un,k:=6}:=rfl
@[go_sem] theorem tb117:En.tb 117={n:=1,g:=false,by':=8,ok:=true,z:= .un,k:=6}:=rfl
@[go_sem] theorem tb119:En.tb 119={n:=1,g:=false,by':=8,ok:=true,z:= .un,k:=6}:=rfl
@[go_sem] theorem tb120:En.tb 120={n:=1,g:=false,by':=8,ok:=true,z:= .un,k:=6}:=rfl
@[go_sem] theorem tb122:En.tb 122={n:=1,g:=false,by':=8,ok:=true,z:= .un,k:=6}:=rfl
@[go_sem] theorem tb123:En.tb 123={n:=1,g:=false,by':=8,ok:=true,z:= .un,k:=6}:=rfl
@[go_sem] theorem tb124:En.tb 124={n:=1,g:=false,by':=8,ok:=true,z:= .un,k:=6}:=rfl
@[go_sem] theorem tb125:En.tb 125={n:=1,g:=false,by':=24,ok:=true,z:= .sl (some true) 1 false [],k:=3,el:=82}:=rfl
@[go_sem] theorem tb127:En.tb 127={n:=13,g:=true,by':=232,ok:=true,z:= .agg [.int .i64 0,.sl (some true) 1 false [],.sl (some true) 1 false [],.sl (some true) 4 true [],.int .i64 0,.sl (some true) 1 false [],.int .i64 0,.sl (some true) 1 false [],.sl (some true) 5 true [],.sl (some true) 1 false [],.sl (some true) 1 false [],.int .i64 0,.bool false],k:=5,fs:=[(0,30),(4,35),(9,24),(10,125),(11,3),(12,4)]}:=rfl
@[go_sem] theorem tb129:En.tb 129={n:=1,g:=false,by':=8,ok:=true,z:= .un,k:=6}:=rfl
@[go_sem] theorem tb130:En.tb 130={n:=1,g:=false,by':=8,ok:=true,z:= .un,k:=6}:=rfl
@[go_sem] theorem tb131:En.tb 131={n:=1,g:=false,by':=8,ok:=true,z:= .un,k:=6}:=rfl
@[go_sem] theorem tb132:En.tb 132={n:=1,g:=false,by':=8,ok:=true,z:= .un,k:=6}:=rfl
@[go_sem] theorem tb133:En.tb 133={n:=1,g:=false,by':=8,ok:=true,z:= .un,k:=6}:=rfl
@[go_sem] theorem tb134:En.tb 134={n:=1,g:=false,by':=8,ok:=true,z:= .un,k:=6}:=rfl
@[go_sem] theorem tb135:En.tb 135={n:=1,g:=false,by':=8,ok:=true,z:= .un,k:=6}:=rfl
@[go_sem] theorem tb136:En.tb 136={n:=1,g:=false,by':=8,ok:=true,z:= .un,k:=6}:=rfl
@[go_sem] theorem tb137:En.tb 137={n:=1,g:=false,by':=8,ok:=true,z:= .un,k:=6}:=rfl
@[go_sem] theorem tb138:En.tb 138={n:=1,g:=false,by':=8,ok:=true,z:= .un,k:=6}:=rfl
@[go_sem] theorem tb139:En.tb 139={n:=1,g:=false,by':=8,ok:=true,z:= .un,k:=6}:=rfl
@[go_sem] theorem tb140:En.tb 140={n:=1,g:=false,by':=8,ok:=true,z:= .un,k:=6}:=rfl
@[go_sem] theorem tb141:En.tb 141={n:=1,g:=false,by':=8,ok:=true,z:= .un,k:=6}:=rfl
@[go_sem] theorem tb142:En.tb 142={n:=1,g:=false,by':=8,ok:=true,z:= .un,k:=6}:=rfl
@[go_sem] theorem tb143:En.tb 143={n:=1,g:=false,by':=8,ok:=true,z:= .un,k:=6}:=rfl
@[go_sem] theorem tb144:En.tb 144={n:=1,g:=false,by':=24,ok:=true,z:= .sl (some true) 1 false [],k:=3,el:=9}:=rfl
@[go_sem] theorem tb145:En.tb 145={n:=1,g:=false,by':=8,ok:=true,z:= .un,k:=6}:=rfl
@[go_sem] theorem tb146:En.tb 146={n:=1,g:=false,by':=8,ok:=true,z:= .un,k:=6}:=rfl
@[go_sem] theorem tb147:En.tb 147={n:=1,g:=false,by':=8,ok:=true,z:= .un,k:=6}:=rfl
@[go_sem] theorem tb148:En.tb 148={n:=1,g:=false,by':=8,ok:=true,z:= .un,k:=6}:=rfl
@[go_sem] theorem tb149:En.tb 149={n:=1,g:=false,by':=8,ok:=true,z:= .un,k:=6}:=rfl
@[go_sem] theorem tb150:En.tb 150={n:=1,g:=false,by':=8,ok:=true,z:= .un,k:=6}:=rfl
@[go_sem] theorem tb151:En.tb 151={n:=1,g:=false,by':=8,ok:=true,z:= .un,k:=6}:=rfl
@[go_sem] theorem tb152:En.tb 152={n:=1,g:=false,by':=8,ok:=true,z:= .un,k:=6}:=rfl
@[go_sem] theorem tb153:En.tb 153={n:=1,g:=false,by':=8,ok:=true,z:= .un,k:=6}:=rfl
@[go_sem] theorem tb154:En.tb 154={n:=1,g:=false,by':=8,ok:=true,z:= .un,k:=6}:=rfl
@[go_sem] theorem tb156:En.tb 156={n:=1,g:=false,by':=8,ok:=true,z:= .un,k:=6}:=rfl
@[go_sem] theorem tb157:En.tb 157={n:=1,g:=false,by':=8,ok:=true,z:= .un,k:=6}:=rfl
@[go_sem] theorem tb158:En.tb 158={n:=1,g:=false,by':=8,ok:=true,z:= .un,k:=6}:=rfl
@[go_sem] theorem tb160:En.tb 160={n:=1,g:=false,by':=8,ok:=true,z:= .un,k:=6}:=rfl
@[go_sem] theorem tb161:En.tb 161={n:=1,g:=false,by':=8,ok:=true,z:= .un,k:=6}:=rfl
@[go_sem] theorem tb162:En.tb 162={n:=1,g:=false,by':=8,ok:=true,z:= .un,k:=6}:=rfl
@[go_sem] theorem tb163:En.tb 163={n:=1,g:=false,by':=8,ok:=true,z:= .un,k:=6}:=rfl
@[go_sem] theorem tb164:En.tb 164={n:=1,g:=false,by':=8,ok:=true,z:= .un,k:=6}:=rfl
@[go_sem] theorem tb165:En.tb 165={n:=1,g:=false,by':=8,ok:=true,z:= .un,k:=6}:=rfl
@[go_sem] theorem tb166:En.tb 166={n:=1,g:=false,by':=8,ok:=true,z:= .un,k:=6}:=rfl
@[go_sem] theorem tb167:En.tb 167={n:=1,g:=false,by':=8,ok:=true,z:= .un,k:=6}:=rfl
@[go_sem] theorem tb169:En.tb 169={n:=1,g:=false,by':=8,ok:=true,z:= .un,k:=6}:=rfl
@[go_sem] theorem tb170:En.tb 170={n:=1,g:=false,by':=8,ok:=true,z:= .int .u64 0,k:=0,ik:= .u64}:=rfl
@[go_sem] theorem tb171:En.tb 171={n:=12,g:=true,by':=96,ok:=true,z:= .agg [.int .u64 0,.int .u64 0,.int .u64 0,.int .u64 0,.int .u64 0,.int .u64 0,.int .u64 0,.int .u64 0,.int .u64 0,.int .u64 0,.int .u64 0,.int .u64 0],k:=4,el:=170,len:=12,cmp:=true,ck:=[0,0,0,0,0,0,0,0,0,0,0,0]}:=rfl
@[go_sem] theorem tb172:En.tb 172={n:=1,g:=false,by':=8,ok:=true,z:= .un,k:=6}:=rfl
@[go_sem] theorem tb173:En.tb 173={n:=1,g:=false,by':=8,ok:=true,z:= .un,k:=6}:=rfl
@[go_sem] theorem tb174:En.tb 174={n:=1,g:=false,by':=8,ok:=true,z:= .un,k:=6}:=rfl
@[go_sem] theorem tb175:En.tb 175={n:=1,g:=false,by':=8,ok:=true,z:= .int .u64 0,k:=0,ik:= .u64}:=rfl
@[go_sem] theorem tb176:En.tb 176={n:=1,g:=false,by':=8,ok:=true,z:= .un,k:=6}:=rfl
@[go_sem] theorem tb179:En.tb 179={n:=1,g:=false,by':=8,ok:=true,z:= .un,k:=6}:=rfl
@[go_sem] theorem tb180:En.tb 180={n:=1,g:=false,by':=16,ok:=true,z:= .un,k:=8}:=rfl
@[go_sem] theorem tb181:En.tb 181={n:=1,g:=false,by':=16,ok:=true,z:= .un,k:=8}:=rfl
@[go_sem] theorem tb183:En.tb 183={n:=1,g:=false,by':=8,ok:=true,z:= .un,k:=6}:=rfl
@[go_sem] theorem tb184:En.tb 184={n:=1,g:=false,by':=8,ok:=true,z:= .un,k:=6}:=rfl
@[go_sem] theorem tb186:En.tb 186={n:=1,g:=false,by':=8,ok:=true,z:= .un,k:=6}:=rfl
@[go_sem] theorem tb187:En.tb 187={n:=1,g:=false,by':=8,ok:=true,z:= .un,k:=6}:=rfl
@[go_sem] theorem tb188:En.tb 188={n:=1,g:=false,by':=8,ok:=true,z:= .un,k:=6}:=rfl
@[go_sem] theorem tb189:En.tb 189={n:=1,g:=false,by':=8,ok:=true,z:= .un,k:=6}:=rfl
@[go_sem] theorem tb190:En.tb 190={n:=1,g:=false,by':=8,ok:=true,z:= .un,k:=6}:=rfl
@[go_sem] theorem tb191:En.tb 191={n:=1,g:=false,by':=24,ok:=true,z:= .sl (some true) 1 false [],k:=3,el:=40}:=rfl
@[go_sem] theorem tb193:En.tb 193={n:=1,g:=true,by':=24,ok:=true,z:= .agg [.sl (some true) 1 false []],k:=5,fs:=[(0,191)]}:=rfl
@[go_sem] theorem tb194:En.tb 194={n:=1,g:=false,by':=8,ok:=true,z:= .un,k:=6}:=rfl
@[go_sem] theorem tb195:En.tb 195={n:=1,g:=false,by':=8,ok:=true,z:= .un,k:=6}:=rfl
@[go_sem] theorem tb196:En.tb 196={n:=1,g:=false,by':=8,ok:=true,z:= .un,k:=6}:=rfl
@[go_sem] theorem tb197:En.tb 197={n:=1,g:=false,by':=8,ok:=true,z:= .un,k:=6}:=rfl
@[go_sem] theorem tb198:En.tb 198={n:=1,g:=false,by':=8,ok:=true,z:= .un,k:=6}:=rfl
@[go_sem] theorem tb200:En.tb 200={n:=34,g:=true,by':=48,ok:=true,z:= .agg [.int .u8 0,.int .u8 0,.int .u8 0,.int .u8 0,.int .u8 0,.int .u8 0,.int .u8 0,.int .u8 0,.int .u8 0,.int .u8 0,.int .u8 0,.int .u8 0,.int .u8 0,.int .u8 0,.int .u8 0,.int .u8 0,.int .u8 0,.int .u8 0,.int .u8 0,.int .u8 0,.int .u8 0,.int .u8 0,.int .u8 0,.int .u8 0,.int .u8 0,.int .u8 0,.int .u8 0,.int .u8 0,.int .u8 0,.int .u8 0,.int .u8 0,.int .u8 0,.int .i64 0,.bool false],k:=5,fs:=[(0,44),(33,4)],cmp:=true,ck:=[0,0,0,0,0,0,0,0,0,0,0,0,0,0,0,0,0,0,0,0,0,0,0,0,0,0,0,0,0,0,0,0,0,1]}:=rfl
@[go_sem] theorem tb203:En.tb 203={n:=1,g:=false,by':=8,ok:=true,z:= .un,k:=6}:=rfl
@[go_sem] theorem tb204:En.tb 204={n:=1,g:=false,by':=8,ok:=true,z:= .un,k:=6}:=rfl
@[go_sem] theorem tb205:En.tb 205={n:=1,g:=false,by':=8,ok:=true,z:= .un,k:=6}:=rfl
@[go_sem] theorem tb206:En.tb 206={n:=8,g:=true,by':=32,ok:=true,z:= .agg [.int .u32 0,.int .u32 0,.int .u32 0,.int .u32 0,.int .u32 0,.int .u32 0,.int .u32 0,.int .u32 0],k:=4,el:=40,len:=8,cmp:=true,ck:=[0,0,0,0,0,0,0,0]}:=rfl
@[go_sem] theorem tb207:En.tb 207={n:=1,g:=false,by':=8,ok:=true,z:= .un,k:=6}:=rfl
@[go_sem] theorem tb208:En.tb 208={n:=1,g:=false,by':=8,ok:=true,z:= .un,k:=6}:=rfl
@[go_sem] theorem tb209:En.tb 209={n:=64,g:=true,by':=64,ok:=true,z:= .agg [.int .u8 0,.int .u8 0,.int .u8 0,.int .u8 0,.int .u8 0,.int .u8 0,.int .u8 0,.int .u8 0,.int .u8 0,.int .u8 0,.int .u8 0,.int .u8 0,.int .u8 0,.int .u8 0,.int .u8 0,.int .u8 0,.int .u8 0,.int .u8 0,.int .u8 0,.int .u8 0,.int .u8 0,.int .u8 0,.int .u8 0,.int .u8 0,.int .u8 0,.int .u8 0,.int .u8 0,.int .u8 0,.int .u8 0,.int .u8 0,.int .u8 0,.int .u8 0,.int .u8 0,.int .u8 0,.int .u8 0,.int .u8 0,.int .u8 0,.int .u8 0,.int .u8 0,.int .u8 0,.int .u8 0,.int .u8 0,.int .u8 0,.int .u8 0,.int .u8 0,.int .u8 0,.int .u8 0,.int .u8 0,.int .u8 0,.int .u8 0,.int .u8 0,.int .u8 0,.int .u8 0,.int .u8 0,.int .u8 0,.int .u8 0,.int .u8 0,.int .u8 0,.int .u8 0,.int .u8 0,.int .u8 0,.int .u8 0,.int .u8 0,.int .u8 0],k:=4,el:=5,len:=64,cmp:=true,ck:=[0,0,0,0,0,0,0,0,0,0,0,0,0,0,0,0,0,0,0,0,0,0,0,0,0,0,0,0,0,0,0,0,0,0,0,0,0,0,0,0,0,0,0,0,0,0,0,0,0,0,0,0,0,0,0,0,0,0,0,0,0,0,0,0]}:=rfl
@[go_sem] theorem tb210:En.tb 210={n:=1,g:=false,by':=8,ok:=true,z:= .un,k:=6}:=rfl
@[go_sem] theorem tb212:En.tb 212={n:=1,g:=false,by':=8,ok:=true,z:= .un,k:=6}:=rfl
@[go_sem] theorem tb213:En.tb 213={n:=1,g:=false,by':=8,ok:=true,z:= .un,k:=6}:=rfl
@[go_sem] theorem tb214:En.tb 214={n:=1,g:=false,by':=8,ok:=true,z:= .un,k:=6}:=rfl
@[go_sem] theorem tb215:En.tb 215={n:=1,g:=false,by':=8,ok:=true,z:= .un,k:=6}:=rfl
@[go_sem] theorem tb216:En.tb 216={n:=1,g:=false,by':=8,ok:=true,z:= .un,k:=6}:=rfl
@[go_sem] theorem tb217:En.tb 217={n:=1,g:=false,by':=8,ok:=true,z:= .un,k:=6}:=rfl
@[go_sem] theorem tb218:En.tb 218={n:=1,g:=false,by':=8,ok:=true,z:= .un,k:=6}:=rfl
@[go_sem] theorem tb219:En.tb 219={n:=1,g:=false,by':=8,ok:=true,z:= .un,k:=6}:=rfl
@[go_sem] theorem tb221:En.tb 221={n:=1,g:=false,by':=8,ok:=true,z:= .un,k:=6}:=rfl
@[go_sem] theorem tb222:En.tb 222={n:=1,g:=false,by':=8,ok:=true,z:= .un,k:=6}:=rfl
@[go_sem] theorem tb223:En.tb 223={n:=1,g:=false,by':=8,ok:=true,z:= .un,k:=6}:=rfl
@[go_sem] theorem tb224:En.tb 224={n:=1,g:=false,by':=8,ok:=true,z:= .un,k:=6}:=rfl
@[go_sem] theorem tb225:En.tb 225={n:=1,g:=false,by':=8,ok:=true,z:= .un,k:=6}:=rfl
@[go_sem] theorem tb226:En.tb 226={n:=64,g:=true,by':=256,ok:=true,z:= .agg [.int .u32 0,.int .u32 0,.int .u32 0,.int .u32 0,.int .u32 0,.int .u32 0,.int .u32 0,.int .u32 0,.int .u32 0,.int .u32 0,.int .u32 0,.int .u32 0,.int .u32 0,.int .u32 0,.int .u32 0,.int .u32 0,.int .u32 0,.int .u32 0,.int .u32 0,.int .u32 0,.int .u32 0,.int .u32 0,.int .u32 0,.int .u32 0,.int .u32 0,.int .u32 0,.int .u32 0,.int .u32 0,.int .u32 0,.int .u32 0,.int .u32 0,.int .u32 0,.int .u32 0,.int .u32 0,.int .u32 0,.int .u32 0,.int .u32 0,.int .u32 0,.int .u32 0,.int .u32 0,.int .u32 0,.int .u32 0,.int .u32 0,.int .u32 0,.int .u32 0,.int .u32 0,.int .u32 0,.int .u32 0,.int .u32 0,.int .u32 0,.int .u32 0,.int .u32 0,.int .u32 0,.int .u32 0,.int .u32 0,.int .u32 0,.int .u32 0,.int .u32 0,.int .u32 0,.int .u32 0,.int .u32 0,.int .u32 0,.int .u32 0,.int .u32 0],k:=4,el:=40,len:=64,cmp:=true,ck:=[0,0,0,0,0,0,0,0,0,0,0,0,0,0,0,0,0,0,0,0,0,0,0,0,0,0,0,0,0,0,0,0,0,0,0,0,0,0,0,0,0,0,0,0,0,0,0,0,0,0,0,0,0,0,0,0,0,0,0,0,0,0,0,0]}:=rfl
@[go_sem] theorem tb227:En.tb 227={n:=1,g:=false,by':=8,ok:=true,z:= .un,k:=6}:=rfl
@[go_sem] theorem tb228:En.tb 228={n:=1,g:=false,by':=8,ok:=true,z:= .un,k:=6}:=rfl
@[go_sem] theorem tb229:En.tb 229={n:=1,g:=false,by':=8,ok:=true,z:= .un,k:=6}:=rfl
@[go_sem] theorem tb230:En.tb 230={n:=1,g:=false,by':=8,ok:=true,z:= .un,k:=6}:=rfl
@[go_sem] theorem tb231:En.tb 231={n:=1,g:=false,by':=8,ok:=true,z:= .un,k:=6}:=rfl
@[go_sem] theorem tb232:En.tb 232={n:=1,g:=false,by':=8,ok:=true,z:= .un,k:=6}:=rfl
@[go_sem] theorem tb233:En.tb 233={n:=1,g:=false,by':=8,ok:=true,z:= .un,k:=6}:=rfl
@[go_sem] theorem tb234:En.tb 234={n:=1,g:=false,by':=8,ok:=true,z:= .un,k:=6}:=rfl
@[go_sem] theorem tb235:En.tb 235={n:=1,g:=false,by':=8,ok:=true,z:= .un,k:=6}:=rfl
@[go_sem] theorem tb238:En.tb 238={n:=1,g:=false,by':=8,ok:=true,z:= .un,k:=6}:=rfl
@[go_sem] theorem tb239:En.tb 239={n:=1,g:=false,by':=8,ok:=true,z:= .un,k:=6}:=rfl
@[go_sem] theorem tb240:En.tb 240={n:=1,g:=false,by':=8,ok:=true,z:= .un,k:=6}:=rfl
@[go_sem] theorem tb241:En.tb 241={n:=1,g:=false,by':=8,ok:=true,z:= .un,k:=6}:=rfl
@[go_sem] theorem tb242:En.tb 242={n:=24,g:=true,by':=24,ok:=true,z:= .agg [.int .u8 0,.int .u8 0,.int .u8 0,.int .u8 0,.int .u8 0,.int .u8 0,.int .u8 0,.int .u8 0,.int .u8 0,.int .u8 0,.int .u8 0,.int .u8 0,.int .u8 0,.int .u8 0,.int .u8 0,.int .u8 0,.int .u8 0,.int .u8 0,.int .u8 0,.int .u8 0,.int .u8 0,.int .u8 0,.int .u8 0,.int .u8 0],k:=4,el:=5,len:=24,cmp:=true,ck:=[0,0,0,0,0,0,0,0,0,0,0,0,0,0,0,0,0,0,0,0,0,0,0,0]}:=rfl
@[go_sem] theorem tb243:En.tb 243={n:=1,g:=false,by':=8,ok:=true,z:= .un,k:=6}:=rfl
@[go_sem] theorem tb255:En.tb 255={n:=20,g:=true,by':=160,ok:=true,z:= .agg [.int .u64 0,.int .u64 0,.int .u64 0,.int .u64 0,.int .u64 0,.int .u64 0,.int .u64 0,.int .u64 0,.int .u64 0,.int .u64 0,.int .u64 0,.int .u64 0,.int .u64 0,.int .u64 0,.int .u64 0,.int .u64 0,.int .u64 0,.int .u64 0,.int .u64 0,.int .u64 0],k:=4,el:=170,len:=20,cmp:=true,ck:=[0,0,0,0,0,0,0,0,0,0,0,0,0,0,0,0,0,0,0,0]}:=rfl
@[go_sem] theorem tb256:En.tb 256={n:=65,g:=true,by':=65,ok:=true,z:= .agg [.int .u8 0,.int .u8 0,.int .u8 0,.int .u8 0,.int .u8 0,.int .u8 0,.int .u8 0,.int .u8 0,.int .u8 0,.int .u8 0,.int .u8 0,.int .u8 0,.int .u8 0,.int .u8 0,.int .u8 0,.int .u8 0,.int .u8 0,.int .u8 0,.int .u8 0,.int .u8 0,.int .u8 0,.int .u8 0,.int .u8 0,.int .u8 0,.int .u8 0,.int .u8 0,.int .u8 0,.int .u8 0,.int .u8 0,.int .u8 0,.int .u8 0,.int .u8 0,.int .u8 0,.int .u8 0,.int .u8 0,.int .u8 0,.int .u8 0,.int .u8 0,.int .u8 0,.int .u8 0,.int .u8 0,.int .u8 0,.int .u8 0,.int .u8 0,.int .u8 0,.int .u8 0,.int .u8 0,.int .u8 0,.int .u8 0,.int .u8 0,.int .u8 0,.int .u8 0,.int .u8 0,.int .u8 0,.int .u8 0,.int .u8 0,.int .u8 0,.int .u8 0,.int .u8 0,.int .u8 0,.int .u8 0,.int .u8 0,.int .u8 0,.int .u8 0,.int .u8 0],k:=4,el:=5,len:=65,cmp:=true,ck:=[0,0,0,0,0,0,0,0,0,0,0,0,0,0,0,0,0,0,0,0,0,0,0,0,0,0,0,0,0,0,0,0,0,0,0,0,0,0,0,0,0,0,0,0,0,0,0,0,0,0,0,0,0,0,0,0,0,0,0,0,0,0,0,0,0]}:=rfl
@[go_sem] theorem tb260:En.tb 260={n:=1,g:=false,by':=8,ok:=true,z:= .un,k:=6}:=rfl
@[go_sem] theorem tb271:En.tb 271={n:=1,g:=false,by':=8,ok:=true,z:= .un,k:=6}:=rfl
end Go.Proofs.YtgealhhkngbkbaaGreatDoor
namespace Go.Proofs.YtgealhhkngbkbaaGreatDoor
open Go.RowKit
section
variable {E:Env} {J:cq} {k:List Ct} {S S1 S2:St}
theorem cw.trans (h:cw E S S1) (h':cw E S1 S2):cw E S S2:=by
 intro c0 c ρ F hs
 obtain ⟨c1,ρ1,e,h1⟩:=h c0 c ρ F hs
 obtain ⟨c2,ρ2,e2,h2⟩:=h' c0 c1 ρ1 F h1
 exact ⟨c2,ρ2,e2.trans e,h2⟩
theorem lJ (t T:Nat) {n:Nat} {g:Bool} (h:ak S.F t=some (.sl (some true) n g [])) (hg:g=false→n=1):cw E S ⟨(t,.own S.nx)::S.F,(S.nx,.own T n g (some true) [])::S.H,S.nx+1⟩:=by
 intro c0 c ρ F hs
 have hf:ρ S.nx=none:=hs.2 _ (Nat.le_refl _)
 have hrd:=hs.1.slot _ _ h
 have e:F t= .slice none 0 0:=by
  simp only [rd,zOk] at hrd
  obtain ⟨a,cap,e,_,⟨rfl,rfl⟩,_⟩:=hrd
  exact e
 have hro:ii ρ (fun i=>if i=S.nx then some (.slice none 0 0) else ρ i):=oE hf fun i hi=>by simp [hi]
 have hat:(fun i=>if i=S.nx then some (Value.slice none 0 0) else ρ i) S.nx=some (.slice none 0 0):=by simp
 have hoth: ∀i,i≠S.nx→(fun i=>if i=S.nx then some (Value.slice none 0 0) else ρ i) i=ρ i:=fun i hi=>by simp [hi]
 generalize (fun i=>if i=S.nx then some (Value.slice none 0 0) else ρ i)=ρ' at hro hat hoth
 refine ⟨c,ρ',rfl,⟨hs.1.since,hs.1.gl,?_,?_,?_⟩,?_⟩
 ·intro t' v ht
  simp only [ak] at ht
  split at ht
  ·rename_i e';subst e';cases ht
   simp only [rd]
   exact ⟨e▸hat,by rw [e];rfl⟩
  ·exact dl hro (hs.1.slot t' v ht)
 ·intro i b hb
  simp only [ak] at hb
  split at hb
  ·rename_i e';subst e';cases hb
   refine ⟨_,hat,Own.nil,fun k hk=>by simp [blk] at hk,hg,none,0,rfl,rfl,rfl⟩
  ·exact mM hro (hs.1.heap i b hb)
 ·intro i j bi bj k hij hbi hbj hpi hpj hk hk'
  have hn:an ρ' S.nx=none:=by simp [an,hat,blk]
  have hi:i≠S.nx:=fun e'=>by rw [e',hn] at hk;cases hk
  have hj:j≠S.nx:=fun e'=>by rw [e',hn] at hk';cases hk'
  simp only [ak,Ne.symm hi,Ne.symm hj,if_false] at hbi hbj
  rw [cP (hoth i hi)] at hk
  rw [cP (hoth j hj)] at hk'
  exact hs.1.sep i j bi bj k hij hbi hbj hpi hpj hk hk'
 ·intro i hi
  have hi':S.nx+1≤i:=hi
  rw [hoth i (by omega)]
  exact hs.2 i (by omega)
theorem gU {a:Code} (I:Nat→St→Prop) (k0:Nat) (S1 S2:St) (hW:cw E S S1) (hF:fr S1.F S2.nx S2.F) (hH:ft S1.H S2.nx S2.H) (h0:I k0 S2)
  (h: ∀n S',I n S'→aK E J (.code a:: .lp (fun S2=> ∃n',n'<n∧ ∃S3,cw E S2 S3∧I n' S3)::k) .normal S'):aK E J (.code (.loop a)::k) .normal S:=
 ⟨I,k0,⟨S2,hW.trans (m4 hF hH),h0⟩,h⟩
end
def ae {α R:Type}:Nat→((α→R)→α→R)→(α→R)→α→R
 | 0,_,d,a=>d a
 | n+1,f,d,a=>f (ae n f d) a
theorem aO {α R:Type} {n:Nat} {f:(α→R)→α→R} {d:α→R} {a:α} {r:R} (h:ae n f d a=r): ∃g e,g=f∧e=d∧ae n g e a=r:=⟨f,d,rfl,rfl,h⟩
theorem aP {α R:Type} {n:Nat} {f g:(α→R)→α→R} {d:α→R} {a:α} {r:R} (h:ae n f d a=r) (hn:0<n) (hf:f=g): ∃ag,ag=ae (n - 1) f d∧g ag a=r:=by
 subst hf
 cases n with
 | zero=>omega
 | succ m=>exact ⟨_,rfl,h⟩
theorem aL {α R:Type} {n:Nat} {f:(α→R)→α→R} {d ag:α→R} {a:α} {r:R} (h:ag a=r) (e:ag=ae n f d):ae n f d a=r:=e▸h
def gn {α R:Type} (j:α→R) (f:(α→R)→R):R:=f j
theorem lK {α R:Type} {j:α→R} {f:(α→R)→R} {r:R} (h:gn j f=r): ∃g,g=j∧f g=r:=⟨j,rfl,h⟩
theorem lL {α R:Type} {g j:α→R} {a:α} {r:R} (h:g a=r) (e:g=j):j a=r:=e▸h
theorem aY {i:Int} (h0: -9223372036854775808≤i) (h:i+1≤9223372036854775807):al .i64 i 1=i+1:=by
 unfold al;rw [IntKind.wrap_i64];omega
theorem kh:LEN=1073741824:=rfl
theorem oX {d:Int}:Rng .i64 d=(-9223372036854775808≤d∧d≤9223372036854775807):=by simp [Rng,IntKind.min,IntKind.max,IntKind.bits,IntKind.signed]
theorem r5 {d:Int}:Rng .u64 d=(0≤d∧d≤18446744073709551615):=by simp [Rng,IntKind.min,IntKind.max,IntKind.bits,IntKind.signed]
theorem r6 {d:Int}:Rng .u8 d=(0≤d∧d≤255):=by simp [Rng,IntKind.min,IntKind.max,IntKind.bits,IntKind.signed]
theorem r7 {d:Int}:Rng .u32 d=(0≤d∧d≤4294967295):=by simp [Rng,IntKind.min,IntKind.max,IntKind.bits,IntKind.signed]
theorem vL {d:Int}:Rng .i32 d=(-2147483648≤d∧d≤2147483647):=by simp [Rng,IntKind.min,IntKind.max,IntKind.bits,IntKind.signed]
theorem lM {α:Type} {l:List α} {i j:Int}:(sl l i j).length=min (j.toNat - i.toNat) (l.length - i.toNat):=by simp [sl]
theorem kj {α:Type} {l:List α} {i:Int} {x:α}:(st l i x).length=l.length:=by simp [st]
theorem cE {α:Type} [Inhabited α] {l:List α} {f:α→V} {i:Int} (h:i.toNat<l.length) (d:V):elt (l.map f) i.toNat d=f (gt l i):=by
 simp [elt,gt,List.getD,h]
theorem dq {a b:Int} (h0: -9223372036854775808≤a+b) (h:a+b≤9223372036854775807):al .i64 a b=a+b:=by
 unfold al;rw [IntKind.wrap_i64];omega
theorem dc {a b:Int} (h0: -9223372036854775808≤a - b) (h:a - b≤9223372036854775807):av .i64 a b=a - b:=by
 unfold av;rw [IntKind.wrap_i64];omega
theorem kl {α:Type} [Inhabited α] {a:α} {l:List α}:gt (a::l) 0=a:=rfl
theorem km {α:Type} [Inhabited α] {a:α} {l:List α} {i:Int} (h:0<i):gt (a::l) i=gt l (i - 1):=by
 obtain ⟨n,rfl⟩: ∃n:Nat,i=((n+1:Nat):Int):=⟨(i - 1).toNat,by omega⟩
 simp [gt]
theorem oY {k:IntKind} {n:Nat} {b:Int}:aQ k ((n:Nat):Int) b=((n:Nat):Int)% b:=Int.tmod_eq_emod_of_nonneg (by omega)
theorem z8: ∀{B:List Int},oy (B.map (V.int .u8))
 | []=>trivial
 | _::B=>⟨trivial,z8 (B:=B)⟩
@[go_sem] theorem IV: ∀{B:List Int},(B.map (V.int .u8)).map (fun d=>u8N (iY d))=B.map u8N
 | []=>rfl
 | x::B=>by rw [List.map_cons,List.map_cons,IV (B:=B)];rfl
def bK (a:List UInt8):List Int:=a.map fun b=>(b.toNat:Int)
theorem cL {a:List UInt8}:(bK a).length=a.length:=by simp [bK]
@[go_sem] theorem IW: ∀{a:List UInt8},a.map u8V=(bK a).map (V.int .u8)
 | []=>rfl
 | x::B=>by rw [List.map_cons,IW (a:=B)];rfl
def Aa {α:Type} [Inhabited α] (f:α→V) (l:List α):Nat→Int→List V
 | 0,_=> []
 | k+1,i=>f (gt l i)::Aa f l k (i+1)
def eY {α:Type} [Inhabited α] (l:List α):Nat→Int→List α
 | 0,_=> []
 | k+1,i=>gt l i::eY l k (i+1)
def br {α:Type} [Inhabited α] (n:Nat) (l:List α):List α:=eY l n 0
theorem Ab {α:Type} [Inhabited α] {l:List α}: ∀{k:Nat} {i:Int},(eY l k i).length=k
 | 0,_=>rfl
 | k+1,i=>by simp [eY,Ab (k:=k)]
theorem dL {α:Type} [Inhabited α] {l:List α} {n:Nat}:(br n l).length=n:=Ab
@[go_sem] theorem Pb {α β:Type} {l:List α} {f:α→β} {a b:β}:(l.map f++[a]).set l.length b=l.map f++[b]:=by
 rw [List.set_append_right _ _ (by simp)];simp
attribute [go_sem] Aa br eY
end Go.Proofs.YtgealhhkngbkbaaGreatDoor
namespace Go.Proofs.YtgealhhkngbkbaaGreatDoor
open Go.RowKit
section
variable {E:Env} {J:cq} {k:List Ct} {S S1 S2:St} {c0 c:Cx} {ρ:Ro} {F:Fm}
theorem oZ (i:Nat) {T n:Nat} {g:Bool} {z:Option Bool} {l:List V} (h:ak S.H i=some (.own T n g z l)):cw E S ⟨S.F,dH S.H i (.pown n g z l),S.nx⟩:=by
 intro c0 c ρ F hs
 obtain ⟨v,hv,hown,hge,hone,a,cap,es,hz⟩:=hs.1.heap _ _ h
 have hpd:=c.pub_dropv v
 have hbo:an ρ i=blk v:=by unfold an;rw [hv,es]
 have hsep: ∀j b,i≠j→ak S.H j=some b→aZ b=true→ ∀x,an ρ j=some x→blk v≠some x:=by
  intro j b hij hb hp x hx hx'
  exact hs.1.sep i j _ b x hij h hb rfl hp (hbo▸hx') hx
 refine ⟨c.dropv v,ρ,rfl,⟨hs.1.since.dropv hge,hs.1.gl.mono hpd,fun t x ht=>bE hpd (hs.1.slot t x ht),?_,?_⟩,hs.2⟩
 ·intro j b hb
  simp only [c8] at hb
  split at hb
  ·rename_i e;subst e;cases hb
   refine ⟨v,hv,?_⟩
   obtain ⟨a',cap',e1,h1,h2⟩:=fG.1 hown.val
   rw [es] at e1;cases e1
   exact dk.2 ⟨a,cap,es,h1,hz,h2⟩
  ·rename_i hij
   have hb0:=hs.1.heap _ _ hb
   have hsp:=hsep j b hij hb
   cases b with
   | var n' g' d=>
    obtain ⟨b',h1,h2,h3⟩:=hb0
    exact ⟨b',h1,h2,Cx.dropv_var h3 (hsp rfl b' (by simp [an,h1]))⟩
   | own E' n' g' z' l'=>
    obtain ⟨v',h1,h2,h3,h4,a',cap',e',h5⟩:=hb0
    exact ⟨v',h1,Cx.dropv_own h2 (fun x hx=>hsp rfl x (by unfold an;rw [h1,e'];rw [e'] at hx;exact hx)),h3,h4,a',cap',e',h5⟩
   | ownI E' n' g' z' l'=>
    obtain ⟨v',h1,h2,h3,h4,a',cap',e',h5⟩:=hb0
    exact ⟨v',h1,Cx.dropv_own h2 (fun x hx=>hsp rfl x (by unfold an;rw [h1,e'];rw [e'] at hx;exact hx)),h3,h4,a',cap',e',h5⟩
   | pvar n' g' d=>
    obtain ⟨b',h1,h2⟩:=hb0
    exact ⟨b',h1,(jO _).mono h2 hpd⟩
   | pown n' g' z' l'=>
    obtain ⟨v',h1,h2⟩:=hb0
    exact ⟨v',h1,bE hpd h2⟩
   | lent k' n' g' d=>
    obtain ⟨h1,h2,h3⟩:=hb0
    exact ⟨h1,h2,Cx.dropv_var h3 (hsp rfl k' (by simp [an,h1]))⟩
   | kset g' k' n' l'=>
    obtain ⟨r,h1,h2,h3⟩:=hb0
    exact ⟨r,h1,h2,Cx.dropv_set h3 (hsp rfl r (by simp [an,h1,blk]))⟩
 ·intro a b ba bb x hab ha hb hpa hpb hx
  simp only [c8] at ha hb
  split at ha
  ·cases ha;cases hpa
  ·split at hb
   ·cases hb;cases hpb
   ·exact hs.1.sep a b ba bb x hab ha hb hpa hpb hx
theorem vM (t i:Nat) {n:Nat} {g:Bool} {z:Option Bool} {l:List V} (h:ak S.F t=some (.own i)) (h2:ak S.H i=some (.pown n g z l)):cw E S ⟨(t,.sl z n g l)::S.F,S.H,S.nx⟩:=by
 intro c0 c ρ F hs
 refine ⟨c,ρ,rfl,⟨hs.1.since,hs.1.gl,fun t' v ht=> ?_,hs.1.heap,hs.1.sep⟩,hs.2⟩
 simp only [ak] at ht
 split at ht
 ·rename_i e;subst e;cases ht
  have h3:=hs.1.slot _ _ h
  obtain ⟨v,h4,h5⟩:=hs.1.heap _ _ h2
  simp only [rd] at h3
  rw [h3.1] at h4;cases h4
  simpa only [rd] using h5
 ·exact hs.1.slot _ _ ht
theorem m9 (i:Nat) {n:Nat} {g:Bool} {d:V} (h:ak S.H i=some (.var n g d)) (hpu:dU d):cw E S ⟨S.F,dH S.H i (.pvar n g d),S.nx⟩:=by
 intro c0 c ρ F hs
 obtain ⟨b,hv,hge,hvar⟩:=hs.1.heap _ _ h
 have hbv:blk (.slice (some ⟨b,0,none⟩) 0 1)=some b:=rfl
 have hpd:=c.pub_dropv (.slice (some ⟨b,0,none⟩) 0 1)
 have hbo:an ρ i=some b:=by unfold an;rw [hv]
 have hsep: ∀j b',i≠j→ak S.H j=some b'→aZ b'=true→ ∀x,an ρ j=some x→blk (.slice (some ⟨b,0,none⟩) 0 1)≠some x:=by
  intro j b' hij hb hp x hx hx'
  exact hs.1.sep i j _ b' x hij h hb rfl hp (hbo▸hx') hx
 refine ⟨c.dropv (.slice (some ⟨b,0,none⟩) 0 1),ρ,rfl,⟨hs.1.since.dropv (fun k hk=>by rw [hbv] at hk;cases hk;exact hge),hs.1.gl.mono hpd,fun t x ht=>bE hpd (hs.1.slot t x ht),?_,?_⟩,hs.2⟩
 ·intro j b' hb
  simp only [c8] at hb
  split at hb
  ·rename_i e;subst e;cases hb
   obtain ⟨h1,T,cs,h2,h3⟩:=hvar
   refine ⟨b,hv,b,0,cs.toList,rfl,c.ok b h1,?_,?_,?_⟩
   ·simp only [Cx.dropv,List.mem_filter,hbv];simp
   ·intro j u hj
    show (c.dropv _).w.cell? _=_
    simp only [Cx.dropv,World.cell?,h2]
    simpa using hj
   ·exact ⟨h3.1,bE hpd (j4 hpu h3.2)⟩
  ·rename_i hij
   have hb0:=hs.1.heap _ _ hb
   have hsp:=hsep j b' hij hb
   cases b' with
   | var n' g' d=>
    obtain ⟨b',h1,h2,h3⟩:=hb0
    exact ⟨b',h1,h2,Cx.dropv_var h3 (hsp rfl b' (by simp [an,h1]))⟩
   | own E' n' g' z' l'=>
    obtain ⟨v',h1,h2,h3,h4,a',cap',e',h5⟩:=hb0
    exact ⟨v',h1,Cx.dropv_own h2 (fun x hx=>hsp rfl x (by unfold an;rw [h1,e'];rw [e'] at hx;exact hx)),h3,h4,a',cap',e',h5⟩
   | ownI E' n' g' z' l'=>
    obtain ⟨v',h1,h2,h3,h4,a',cap',e',h5⟩:=hb0
    exact ⟨v',h1,Cx.dropv_own h2 (fun x hx=>hsp rfl x (by unfold an;rw [h1,e'];rw [e'] at hx;exact hx)),h3,h4,a',cap',e',h5⟩
   | pvar n' g' d=>
    obtain ⟨b',h1,h2⟩:=hb0
    exact ⟨b',h1,(jO _).mono h2 hpd⟩
   | pown n' g' z' l'=>
    obtain ⟨v',h1,h2⟩:=hb0
    exact ⟨v',h1,bE hpd h2⟩
   | lent k' n' g' d=>
    obtain ⟨h1,h2,h3⟩:=hb0
    exact ⟨h1,h2,Cx.dropv_var h3 (hsp rfl k' (by simp [an,h1]))⟩
   | kset g' k' n' l'=>
    obtain ⟨r,h1,h2,h3⟩:=hb0
    exact ⟨r,h1,h2,Cx.dropv_set h3 (hsp rfl r (by simp [an,h1,blk]))⟩
 ·intro a b1 ba bb x hab ha hb hpa hpb hx
  simp only [c8] at ha hb
  split at ha
  ·cases ha;cases hpa
  ·split at hb
   ·cases hb;cases hpb
   ·exact hs.1.sep a b1 ba bb x hab ha hb hpa hpb hx
def r8 {α:Type} (f:α→V) (l:List α) (k:Int) (i:Nat):List V:=(l.map f).set k.toNat (.own i)
section
variable {α:Type} {f:α→V} {l:List α} {i:Nat} {q:Int}
theorem eJ:(l.map f).set q.toNat (.own i)=r8 f l q i:=rfl
theorem eK:(l.map f).set 0 (.own i)=r8 f l 0 i:=rfl
theorem o0:(r8 f l q i).length=l.length:=by simp [r8]
end
theorem o3 {α:Type} {f:α→V} {l:List α} {i:Int} {x:α}:(st l i x).map f=(l.map f).set i.toNat (f x):=by simp [st,List.map_set]
theorem o4 {α:Type} {l m:List α} {i k:Nat}:(spl l i k m).length=min i l.length+min k m.length+(l.length - (i+k)):=by simp only [spl,List.length_append,List.length_take,List.length_drop]
theorem o5 {α:Type} {l:List α} {i j:Nat}:(lh l i j).length=min (j - i) (l.length - i):=by simp [lh]
theorem kn {a b:Int} (A B C:Int) (h1:0≤a) (h2:a≤A) (h3:0≤b) (h4:b≤B) (h5:A*B=C) (h6:C≤9223372036854775807):aN .i64 a b=a*b∧(0≤a*b∧a*b≤C):=by
 have e1:=Int.mul_nonneg h1 h3
 have e2:a*b≤A*B:=Int.mul_le_mul h2 h4 h3 (Int.le_trans h1 h2)
 rw [h5] at e2
 refine ⟨?_,e1,e2⟩
 unfold aN;rw [IntKind.wrap_i64];omega
theorem o6 {a:Int} (h0: -9223372036854775808≤a) (h:a≤9223372036854775807):ah .i64 a=a:=by
 unfold ah;rw [IntKind.wrap_i64];omega
theorem lN {a:Int} (h0:0≤a) (h:a≤18446744073709551615):ah .u64 a=a:=by
 unfold ah;rw [IntKind.wrap_u64];omega
theorem lO {a b:Code} (h:aK E J (.code a:: .lp (mX E (aK E J (.code b::k) .normal))::k) .normal S):lD E J true a b k S:=h
theorem ko {b:Code} (S2 S1:St) (hW:cw E S S2) (hF:fr S2.F S1.nx S1.F) (hH:ft S2.H S1.nx S1.H) (h:aK E J (.code b::k) .normal S1):aK E J (.lp (mX E (aK E J (.code b::k) .normal))::k) .normal S:=⟨S1,hW.trans (m4 hF hH),h⟩
theorem IX {I:Nat→St→Prop} {n:Nat} (n':Nat) (S2 S3:St) (hlt:n'<n) (hW:cw E S S2) (hF:fr S2.F S3.nx S3.F) (hH:ft S2.H S3.nx S3.H) (hI:I n' S3):aK E J (.lp (fun S2=> ∃n',n'<n∧ ∃S3,cw E S2 S3∧I n' S3)::k) .normal S:=
 ⟨n',hlt,S3,hW.trans (m4 hF hH),hI⟩
theorem IY {n:Nat} {a b:V} (h:mt a b):mtL (List.replicate n a) (List.replicate n b):=by
 induction n with
 | zero=>trivial
 | succ n ih=>simp only [List.replicate_succ,mtL];exact ⟨h,ih⟩
def rep {α:Type} (n:Nat) (a:α):List α:=List.replicate n a
theorem dr {α:Type} {n:Nat} {a:α}:(rep n a).length=n:=by simp [rep]
theorem r9 {n:Nat} {a b:V}:mtL (List.replicate n a) (List.replicate n b)=(n=0∨mt a b):=by
 refine propext ⟨fun h=> ?_,fun h=> ?_⟩
 ·cases n with
  | zero=>exact .inl rfl
  | succ n=>simp only [List.replicate_succ,mtL] at h;exact .inr h.1
 ·rcases h with rfl|h
  ·trivial
  ·exact IY h
theorem vN {α:Type} {n:Nat} {a:V} {f:α→V} {x:α}:mtL (List.replicate n a) ((rep n x).map f)=(n=0∨mt a (f x)):=by
 unfold rep;rw [List.map_replicate];exact r9
end
end Go.Proofs.YtgealhhkngbkbaaGreatDoor
namespace Go.Proofs.YtgealhhkngbkbaaGreatDoor
open Go.RowKit
section
variable {E:Env} {J:cq} {k:List Ct} {S S1 S2:St} {c0 c:Cx} {ρ:Ro} {F:Fm}
def vO:Option Blk→V
 | some (.pown n g z l)=> .sl z n g l
 | _=> .un
def sa (off:Nat):Option Blk→V
 | some (.pvar n g d)=>if off=0 then .pp n g d else .un
 | _=> .un
mutual
def kp (H:List (Nat×Blk)):V→V
 | .own i=>vO (ak H i)
 | .ptr i o=>sa o (ak H i)
 | .optr _ _ _ _=> .un
 | .osub _ _ _ _=> .un
 | .agg l=> .agg (go H l)
 | .tup l=> .tup (go H l)
 | .fn f l=> .fn f (go H l)
 | v=>v
def go (H:List (Nat×Blk)):List V→List V
 | []=> []
 | d::l=>kp H d::go H l
end
mutual
theorem sb (h:Sim E c0 c ρ S F): ∀{d:V} {v:Value},rd ρ c d v→rd ro0 c (kp S.H d) v
 | .int _ _,_,hr=>hr
 | .bool _,_,hr=>hr
 | .ifc _,_,hr=>hr
 | .str _,_,hr=>hr
 | .agg l,v,hr=>by
  simp only [rd,kp] at hr⊢
  obtain ⟨cs,e,hr⟩:=hr
  exact ⟨cs,e,Ac h hr⟩
 | .sl z n g l,v,hr=>hr
 | .pp n g d,v,hr=>hr
 | .own i,v,hr=>by
  simp only [rd] at hr
  simp only [kp]
  cases hb:ak S.H i with
  | none=>trivial
  | some b=>
   cases b with
   | pown n g z l=>
    obtain ⟨v',h1,h2⟩:=h.heap _ _ hb
    rw [hr.1] at h1;cases h1
    exact h2
   | _=>trivial
 | .ptr i o,v,hr=>by
  simp only [rd] at hr
  simp only [kp]
  obtain ⟨b0,hb0,he⟩:=hr
  cases hb:ak S.H i with
  | none=>trivial
  | some b=>
   cases b with
   | pvar n g d=>
    obtain ⟨b',h1,h2⟩:=h.heap _ _ hb
    rw [hb0] at h1;cases h1
    simp only [sa]
    split
    ·rename_i e;subst e;subst he
     exact gK.2 h2
    ·trivial
   | _=>trivial
 | .optr _ _ _ _,_,_=>trivial
 | .osub _ _ _ _,_,_=>trivial
 | .tup l,v,hr=>by
  simp only [rd,kp] at hr⊢
  obtain ⟨cs,e,hr⟩:=hr
  exact ⟨cs,e,sc h hr⟩
 | .fn f l,v,hr=>by
  simp only [rd,kp] at hr⊢
  obtain ⟨cs,e,hr⟩:=hr
  exact ⟨cs,e,sc h hr⟩
 | .opq p,v,hr=>hr
 | .un,_,_=>trivial
theorem Ac (h:Sim E c0 c ρ S F): ∀{l:List V} {cs:List Value},rdC ρ c l cs→rdC ro0 c (go S.H l) cs
 | [],_,hr=>hr
 | d::l,cs,hr=>by
  simp only [rdC,go] at hr⊢
  obtain ⟨u,c2,e,h1,h2,h3⟩:=hr
  exact ⟨u,c2,e,h1,sb h h2,Ac h h3⟩
theorem sc (h:Sim E c0 c ρ S F): ∀{l:List V} {cs:List Value},rdT ρ c l cs→rdT ro0 c (go S.H l) cs
 | [],_,hr=>hr
 | d::l,cs,hr=>by
  simp only [rdT,go] at hr⊢
  obtain ⟨u,c2,e,h2,h3⟩:=hr
  exact ⟨u,c2,e,sb h h2,sc h h3⟩
end
theorem Ad {vs ws:List V} (hm:mtL (go S.H vs) ws):oI E S vs S ws:=
 fun _ c ρ _ _ h hr=>⟨c,ρ,rfl,Cx.pub.refl _,h,ip hm (sc h.1 hr)⟩
def gV (E:Env) (S S1:St):Prop:= ∀c0 c ρ F,bl E c0 c ρ S F→ ∃c1,c1.w=c.w∧c.pub c1∧bl E c0 c1 ρ S1 F
theorem gV.weak (h:gV E S S1):cw E S S1:=by
 intro c0 c ρ F hs
 obtain ⟨c1,e,_,h1⟩:=h c0 c ρ F hs
 exact ⟨c1,ρ,e,h1⟩
theorem gV.trans (h:gV E S S1) (h':gV E S1 S2):gV E S S2:=by
 intro c0 c ρ F hs
 obtain ⟨c1,e,p1,h1⟩:=h c0 c ρ F hs
 obtain ⟨c2,e2,p2,h2⟩:=h' c0 c1 ρ F h1
 exact ⟨c2,e2.trans e,p1.trans p2,h2⟩
def lP (E:Env) (S S1:St):Prop:= ∀c0 c ρ F,bl E c0 c ρ S F→ ∃c1 ρ1,c1.w=c.w∧c.pub c1∧ii ρ ρ1∧bl E c0 c1 ρ1 S1 F
theorem lP.weak (h:lP E S S1):cw E S S1:=by
 intro c0 c ρ F hs
 obtain ⟨c1,ρ1,e,_,_,h1⟩:=h c0 c ρ F hs
 exact ⟨c1,ρ1,e,h1⟩
theorem lP.trans (h:lP E S S1) (h':lP E S1 S2):lP E S S2:=by
 intro c0 c ρ F hs
 obtain ⟨c1,ρ1,e,p1,r1,h1⟩:=h c0 c ρ F hs
 obtain ⟨c2,ρ2,e2,p2,r2,h2⟩:=h' c0 c1 ρ1 F h1
 exact ⟨c2,ρ2,e2.trans e,p1.trans p2,fun i v hi=>r2 i v (r1 i v hi),h2⟩
theorem IZ {vs ws:List V} (h:gV E S S1) (hg:oI E S1 vs S2 ws):oI E S vs S2 ws:=by
 intro c0 c ρ F us hs hr
 obtain ⟨c1,e,p1,h1⟩:=h c0 c ρ F hs
 obtain ⟨c2,ρ2,e2,p2,h2,h3⟩:=hg c0 c1 ρ F us h1 (fH p1 hr)
 exact ⟨c2,ρ2,e2.trans e,p1.trans p2,h2,h3⟩
theorem vP {f:FuncId} {caps vs:List V} {d:Option Nat} {ws:List V} {r:V} {H:List Blk} (hc:aE E f ws r H) (hw:gV E S S1) (hm:mtL (go S1.H (vs++caps)) ws) (h:wfV r→aK E J k .normal (S1.after d r H)):ir E J (some (.fn f caps)) (some vs) S d k:=
 .inl ⟨ws,r,H,hc,.inl ⟨S1,IZ hw (Ad hm),h⟩⟩
theorem I0 {f:FuncId} {caps vs:List V} {d:Option Nat} {ws:List V} {r:V} {H:List Blk} (hc:aE E f ws r H) (hm:mtL (go S.H (vs++caps)) ws) (h:wfV r→aK E J k .normal (S.after d r H)):ir E J (some (.fn f caps)) (some vs) S d k:=
 .inl ⟨ws,r,H,hc,.inl ⟨S,Ad hm,h⟩⟩
theorem vQ (i:Nat) {T n:Nat} {g:Bool} {z:Option Bool} {l:List V} (h:ak S.H i=some (.own T n g z l)):gV E S ⟨S.F,dH S.H i (.pown n g z l),S.nx⟩:=by
 intro c0 c ρ F hs
 obtain ⟨v,hv,hown,hge,hone,a,cap,es,hz⟩:=hs.1.heap _ _ h
 obtain ⟨c1,ρ1,e,h1⟩:=oZ i h c0 c ρ F hs
 have hpd:=c.pub_dropv v
 have hbo:an ρ i=blk v:=by unfold an;rw [hv,es]
 have hsep: ∀j b,i≠j→ak S.H j=some b→aZ b=true→ ∀x,an ρ j=some x→blk v≠some x:=by
  intro j b hij hb hp x hx hx'
  exact hs.1.sep i j _ b x hij h hb rfl hp (hbo▸hx') hx
 refine ⟨c.dropv v,rfl,hpd,⟨hs.1.since.dropv hge,hs.1.gl.mono hpd,fun t x ht=>bE hpd (hs.1.slot t x ht),?_,?_⟩,hs.2⟩
 ·intro j b hb
  simp only [c8] at hb
  split at hb
  ·rename_i e;subst e;cases hb
   refine ⟨v,hv,?_⟩
   obtain ⟨a',cap',e1,h1,h2⟩:=fG.1 hown.val
   rw [es] at e1;cases e1
   exact dk.2 ⟨a,cap,es,h1,hz,h2⟩
  ·rename_i hij
   have hb0:=hs.1.heap _ _ hb
   have hsp:=hsep j b hij hb
   cases b with
   | var n' g' d=>
    obtain ⟨b',h1,h2,h3⟩:=hb0
    exact ⟨b',h1,h2,Cx.dropv_var h3 (hsp rfl b' (by simp [an,h1]))⟩
   | own E' n' g' z' l'=>
    obtain ⟨v',h1,h2,h3,h4,a',cap',e',h5⟩:=hb0
    exact ⟨v',h1,Cx.dropv_own h2 (fun x hx=>hsp rfl x (by unfold an;rw [h1,e'];rw [e'] at hx;exact hx)),h3,h4,a',cap',e',h5⟩
   | ownI E' n' g' z' l'=>
    obtain ⟨v',h1,h2,h3,h4,a',cap',e',h5⟩:=hb0
    exact ⟨v',h1,Cx.dropv_own h2 (fun x hx=>hsp rfl x (by unfold an;rw [h1,e'];rw [e'] at hx;exact hx)),h3,h4,a',cap',e',h5⟩
   | pvar n' g' d=>
    obtain ⟨b',h1,h2⟩:=hb0
    exact ⟨b',h1,(jO _).mono h2 hpd⟩
   | pown n' g' z' l'=>
    obtain ⟨v',h1,h2⟩:=hb0
    exact ⟨v',h1,bE hpd h2⟩
   | lent k' n' g' d=>
    obtain ⟨h1,h2,h3⟩:=hb0
    exact ⟨h1,h2,Cx.dropv_var h3 (hsp rfl k' (by simp [an,h1]))⟩
   | kset g' k' n' l'=>
    obtain ⟨r,h1,h2,h3⟩:=hb0
    exact ⟨r,h1,h2,Cx.dropv_set h3 (hsp rfl r (by simp [an,h1,blk]))⟩
 ·intro a b ba bb x hab ha hb hpa hpb hx
  simp only [c8] at ha hb
  split at ha
  ·cases ha;cases hpa
  ·split at hb
   ·cases hb;cases hpb
   ·exact hs.1.sep a b ba bb x hab ha hb hpa hpb hx
def dA:List Nat→Nat→Nat→Option Nat
 | [],_,_=>none
 | j::l,i,k=>if j=i then some k else dA l i (k+1)
def sd (H:List (Nat×Blk)) (i:Nat):Option Nat→V
 | some k=> .own k
 | none=>kb (ak H i)
mutual
def fu (H:List (Nat×Blk)) (ids:List Nat):V→V
 | .own i=>sd H i (dA ids i 0)
 | .ptr i o=>match dA ids i 0 with
  | some k=> .ptr k o
  | none=> .un
 | .optr _ _ _ _=> .un
 | .osub _ _ _ _=> .un
 | .agg l=> .agg (jl H ids l)
 | .tup l=> .tup (jl H ids l)
 | .fn f l=> .fn f (jl H ids l)
 | v=>v
def jl (H:List (Nat×Blk)) (ids:List Nat):List V→List V
 | []=> []
 | d::l=>fu H ids d::jl H ids l
end
theorem lQ: ∀{l:List Nat} {i k q:Nat},dA l i k=some q→k≤q∧l[q - k]? =some i
 | [],_,_,_,h=>by simp [dA] at h
 | j::l,i,k,q,h=>by
  simp only [dA] at h
  split at h
  ·rename_i e;subst e;cases h;simp
  ·obtain ⟨h1,h2⟩:=lQ h
   refine ⟨by omega,?_⟩
   rw [show q - k=(q - (k+1))+1 by omega,List.getElem?_cons_succ]
   exact h2
theorem vR: ∀{l:List Nat} {i k:Nat},dA l i k=none→i∉l
 | [],_,_,_=>by simp
 | j::l,i,k,h=>by
  simp only [dA] at h
  split at h
  ·cases h
  ·rename_i e
   simp only [List.mem_cons,not_or]
   exact ⟨fun e'=>e e'.symm,vR h⟩
def bZ (ρ:Ro) (ids:List Nat):Ro:=fun k=>match ids[k]? with
 | some i=>ρ i
 | none=>none
def Cx.give (c0 c:Cx) (ρ:Ro) (ids:List Nat) (h0:c0.w.heap.size≤c.w.heap.size) (h: ∀i∈ids,∀k,an ρ i=some k→k<c.w.heap.size):Cx:=
 {X:=c0.X++ids.filterMap (an ρ),w:=c.w,ok:=fun k hk=>(by
  rcases List.mem_append.1 hk with hk|hk
  ·exact Nat.lt_of_lt_of_le (c0.ok k hk) h0
  ·obtain ⟨i,hi,hb⟩:=List.mem_filterMap.1 hk
   exact h i hi k hb)}
def kq (H:List (Nat×Blk)):List Nat→List Blk→Prop
 | [],[]=>True
 | i::ids,b::bs=>ak H i=some b∧(match b with| .own _ _ _ _ _=>True|_=>False)∧kq H ids bs
 | _,_=>False
theorem Ae {H:List (Nat×Blk)}: ∀{ids:List Nat} {bs:List Blk},kq H ids bs→ids.length=bs.length∧(∀(k:Nat) (b:Blk),bs[k]? =some b→ ∃i,ids[k]? =some i∧ak H i=some b∧ ∃T n g z l,b= .own T n g z l)∧ ∀i∈ids,∃b,ak H i=some b∧ ∃T n g z l,b= .own T n g z l
 | [],[],_=>⟨rfl,by simp,by simp⟩
 | i::ids,b::bs,h=>by
  simp only [kq] at h
  obtain ⟨h1,h2,h3⟩:=h
  obtain ⟨g1,g2,g3⟩:=Ae h3
  have hb: ∃T n g z l,b= .own T n g z l:=by
   cases b<;>first|exact ⟨_,_,_,_,_,rfl⟩|exact h2.elim
  refine ⟨by simp [g1],?_,?_⟩
  ·intro k b' hk
   cases k with
   | zero=>simp at hk;subst hk;exact ⟨i,by simp,h1,hb⟩
   | succ k=>obtain ⟨j,e,g⟩:=g2 k b' (by simpa using hk);exact ⟨j,by simpa using e,g⟩
  ·intro j hj
   rcases List.mem_cons.1 hj with rfl|hj
   ·exact ⟨b,h1,hb⟩
   ·exact g3 j hj
 | [],_::_,h=>by simp [kq] at h
 | _::_,[],h=>by simp [kq] at h
theorem I1 {c1:Cx} (hw:c1.w=c.w) (hpb:c.pub c1) (h:Sim E c0 c ρ S F) {i:Nat} {b:Blk} {v:Value} (hb:ak S.H i=some b) (hv:ρ i=some v) (hn:aZ b=true→ ∀k,an ρ i=some k→k∉c1.X):rd ro0 c1 (kb (some b)) v:=by
 have hblk:=h.heap i b hb
 cases b with
 | own T n g z l=>
  obtain ⟨v',h1,h2,h3,h4,a,cap,e,hz⟩:=hblk
  rw [hv] at h1;cases h1
  simp only [kb]
  refine dk.2 ⟨a,cap,e,⟨h2.1,?_⟩,hz,?_⟩
  ·rcases h2.2 with ⟨a',_,rfl⟩|⟨g',cp,cur,e2,_,_,k3,_⟩
   ·simp
   ·rw [e] at e2;cases e2;exact k3
  ·rcases h2.2 with ⟨a',_,rfl⟩|⟨g',cp,cur,e2,k1,k2,k3,k4,k5,k6⟩
   ·exact .inl rfl
   ·rw [e] at e2;cases e2
    refine .inr ⟨g',0,_,rfl,by rw [hw];exact c.ok g' k1,hn rfl g' (by unfold an;rw [hv,e];rfl),?_,c7 hpb k6⟩
    intro j u hj
    rw [List.getElem?_take] at hj
    split at hj
    ·simp only [Nat.zero_add]
     show c1.w.cell? _=_
     rw [hw]
     simp only [World.cell?,k2]
     simpa using hj
    ·cases hj
 | pown n g z l=>
  obtain ⟨v',h1,h2⟩:=hblk
  rw [hv] at h1;cases h1
  exact bE hpb h2
 | _=>trivial
mutual
theorem o7 {c1:Cx} {ids:List Nat} (hw:c1.w=c.w) (hpb:c.pub c1) (h:Sim E c0 c ρ S F) (hn: ∀i b,i∉ids→ak S.H i=some b→aZ b=true→ ∀k,an ρ i=some k→k∉c1.X): ∀{d:V} {v:Value},rd ρ c d v→rd (bZ ρ ids) c1 (fu S.H ids d) v
 | .int _ _,_,hr=>hr
 | .bool _,_,hr=>hr
 | .ifc _,_,hr=>hr
 | .str _,_,hr=>hr
 | .agg l,v,hr=>by
  simp only [rd,fu] at hr⊢
  obtain ⟨cs,e,hr⟩:=hr
  exact ⟨cs,e,Af hw hpb h hn hr⟩
 | .sl z n g l,v,hr=>bE hpb (show rd ro0 c (.sl z n g l) v from hr)
 | .pp n g d,v,hr=>bE hpb (show rd ro0 c (.pp n g d) v from hr)
 | .own i,v,hr=>by
  simp only [rd] at hr
  simp only [fu]
  cases hp:dA ids i 0 with
  | some q=>
   obtain ⟨_,h2⟩:=lQ hp
   simp only [sd,rd]
   exact ⟨by simp only [bZ];rw [show q - 0=q from rfl] at h2;rw [h2];exact hr.1,hr.2⟩
  | none=>
   simp only [sd]
   cases hb:ak S.H i with
   | none=>trivial
   | some b=>exact rd0 (I1 hw hpb h hb hr.1 (fun hp'=>hn i b (vR hp) hb hp'))
 | .ptr i o,v,hr=>by
  simp only [rd] at hr
  simp only [fu]
  cases hp:dA ids i 0 with
  | some q=>
   obtain ⟨_,h2⟩:=lQ hp
   obtain ⟨b,h3,h4⟩:=hr
   simp only [rd]
   exact ⟨b,by simp only [bZ];rw [show q - 0=q from rfl] at h2;rw [h2];exact h3,h4⟩
  | none=>trivial
 | .optr _ _ _ _,_,_=>trivial
 | .osub _ _ _ _,_,_=>trivial
 | .tup l,v,hr=>by
  simp only [rd,fu] at hr⊢
  obtain ⟨cs,e,hr⟩:=hr
  exact ⟨cs,e,vS hw hpb h hn hr⟩
 | .fn f l,v,hr=>by
  simp only [rd,fu] at hr⊢
  obtain ⟨cs,e,hr⟩:=hr
  exact ⟨cs,e,vS hw hpb h hn hr⟩
 | .opq p,v,hr=>bE hpb (show rd ro0 c (.opq p) v from hr)
 | .un,_,_=>trivial
theorem Af {c1:Cx} {ids:List Nat} (hw:c1.w=c.w) (hpb:c.pub c1) (h:Sim E c0 c ρ S F) (hn: ∀i b,i∉ids→ak S.H i=some b→aZ b=true→ ∀k,an ρ i=some k→k∉c1.X): ∀{l:List V} {cs:List Value},rdC ρ c l cs→rdC (bZ ρ ids) c1 (jl S.H ids l) cs
 | [],_,hr=>hr
 | d::l,cs,hr=>by
  simp only [rdC,jl] at hr⊢
  obtain ⟨u,c2,e,h1,h2,h3⟩:=hr
  exact ⟨u,c2,e,h1,o7 hw hpb h hn h2,Af hw hpb h hn h3⟩
theorem vS {c1:Cx} {ids:List Nat} (hw:c1.w=c.w) (hpb:c.pub c1) (h:Sim E c0 c ρ S F) (hn: ∀i b,i∉ids→ak S.H i=some b→aZ b=true→ ∀k,an ρ i=some k→k∉c1.X): ∀{l:List V} {cs:List Value},rdT ρ c l cs→rdT (bZ ρ ids) c1 (jl S.H ids l) cs
 | [],_,hr=>hr
 | d::l,cs,hr=>by
  simp only [rdT,jl] at hr⊢
  obtain ⟨u,c2,e,h2,h3⟩:=hr
  exact ⟨u,c2,e,o7 hw hpb h hn h2,vS hw hpb h hn h3⟩
end
theorem o8: ∀{l:List Nat} {i q q':Nat},l.Nodup→l[q]? =some i→l[q']? =some i→q=q'
 | [],_,_,_,_,h,_=>by simp at h
 | a::l,i,0,0,_,_,_=>rfl
 | a::l,i,0,q'+1,hd,h,h'=>by
  simp at h h';subst h
  exact absurd (List.mem_of_getElem? h') (List.nodup_cons.1 hd).1
 | a::l,i,q+1,0,hd,h,h'=>by
  simp at h h';subst h'
  exact absurd (List.mem_of_getElem? h) (List.nodup_cons.1 hd).1
 | a::l,i,q+1,q'+1,hd,h,h'=>by
  simp only [List.getElem?_cons_succ] at h h'
  rw [o8 (List.nodup_cons.1 hd).2 h h']
theorem I2 {v r:V} (ids:List Nat) {bs:List Blk} (ho:kq S.H ids bs) (hd:ids.Nodup) (hm:mt (fu S.H ids v) r):rK E S v r bs:=by
 intro c0 c ρ F u hY h hr
 obtain ⟨hlen,hget,hall⟩:=Ae ho
 have hlt: ∀i∈ids,∀k,an ρ i=some k→k<c.w.heap.size:=by
  intro i hi k hk
  obtain ⟨b,hb,T,n,g,z,l,rfl⟩:=hall i hi
  exact fk rfl (h.1.heap _ _ hb) k hk
 have hge: ∀i∈ids,∀k,an ρ i=some k→c0.w.heap.size≤k:=by
  intro i hi k hk
  obtain ⟨b,hb,T,n,g,z,l,rfl⟩:=hall i hi
  exact Cx.mine_of hY (il h.1 hb rfl k hk)
 have hX: ∀i∈ids,∀k,an ρ i=some k→k∈c.X:=by
  intro i hi k hk
  obtain ⟨b,hb,T,n,g,z,l,rfl⟩:=hall i hi
  obtain ⟨v,h1,h2,_,_,a,cap,e,_⟩:=h.1.heap _ _ hb
  refine h2.isX k ?_
  unfold an at hk
  rw [h1,e] at hk
  rw [e];exact hk
 have hpub:c.pub (Cx.give c0 c ρ ids h.1.since.size hlt):=by
  refine ⟨Nat.le_refl _,fun k hk hx=>⟨fun h'=> ?_,fun _ h _=>h⟩⟩
  rcases List.mem_append.1 h' with h'|h'
  ·exact hx (h.1.since.X k h' (by rw [hY];simp))
  ·obtain ⟨i,hi,hb⟩:=List.mem_filterMap.1 h'
   exact hx (hX i hi k hb)
 have hle:c0.le (Cx.give c0 c ρ ids h.1.since.size hlt):=by
  refine Cx.leY.le ⟨h.1.since.below,fun k hk _=>⟨fun h'=> ?_,fun h'=>List.mem_append.2 (.inl h')⟩⟩ hY
  rcases List.mem_append.1 h' with h'|h'
  ·exact h'
  ·obtain ⟨i,hi,hb⟩:=List.mem_filterMap.1 h'
   have:=hge i hi k hb
   omega
 refine ⟨Cx.give c0 c ρ ids h.1.since.size hlt,bZ ρ ids,rfl,hle,eG hm (o7 (c:=c) (c1:=Cx.give c0 c ρ ids h.1.since.size hlt) (ids:=ids) rfl hpub h.1 ?_ hr),?_,?_,?_⟩
 ·intro i b hi hb hp k hk hmem
  rcases List.mem_append.1 hmem with h'|h'
  ·have h1:=Cx.mine_of hY (il h.1 hb hp k hk)
   have h2:=c0.ok k h'
   omega
  ·obtain ⟨j,hj,hb'⟩:=List.mem_filterMap.1 h'
   obtain ⟨bj,hbj,T,n,g,z,l,rfl⟩:=hall j hj
   exact h.1.sep i j b _ k (fun e=>hi (e▸hj)) hb hbj hp rfl hk hb'
 ·intro q b hq
  obtain ⟨i,hi,hb,T,n,g,z,l,rfl⟩:=hget q b hq
  refine ⟨.inl ⟨T,n,g,z,l,rfl⟩,?_⟩
  obtain ⟨v,h1,h2,h3,h4,a,cap,e,h5⟩:=h.1.heap _ _ hb
  have hmem:i∈ids:=List.mem_of_getElem? hi
  refine ⟨v,by simp only [bZ,hi];exact h1,⟨h2.1,?_⟩,h3,h4,a,cap,e,h5⟩
  rcases h2.2 with h'|⟨g',cp,cur,e2,k1,k2,k3,k4,k5,k6⟩
  ·exact .inl h'
  ·refine .inr ⟨g',cp,cur,e2,List.mem_append.2 (.inr (List.mem_filterMap.2 ⟨i,hmem,?_⟩)),k2,k3,k4,k5,c7 hpub k6⟩
   unfold an;rw [h1,e2];rfl
 ·intro q hq
  simp only [bZ]
  rw [List.getElem?_eq_none (by omega)]
 ·intro q q' bq bq' k hne hq hq' hk hk'
  obtain ⟨i,hi,hb,T,n,g,z,l,rfl⟩:=hget q bq hq
  obtain ⟨i',hi',hb',T',n',g',z',l',rfl⟩:=hget q' bq' hq'
  have hii:i≠i':=by
   rintro rfl
   exact hne (o8 hd hi hi')
  have e1:an (bZ ρ ids) q=an ρ i:=by simp only [an,bZ,hi]
  have e2:an (bZ ρ ids) q'=an ρ i':=by simp only [an,bZ,hi']
  rw [e1] at hk
  rw [e2] at hk'
  exact h.1.sep i i' _ _ k hii hb hb' rfl rfl hk hk'
def zN:Blk→Blk
 | .own T n g _ l=> .own T n g none l
 | b=>b
theorem I3 {c0 c:Cx} {ρ:Ro} {i:Nat} {b:Blk} (h:blkOk c0 c ρ i b):blkOk c0 c ρ i (zN b):=by
 cases b with
 | own T n g z l=>
  obtain ⟨v,g1,g2,g3,g4,a,cap,e,g5⟩:=h
  exact ⟨v,g1,g2,g3,g4,a,cap,e,qD g5⟩
 | _=>exact h
theorem I4 {c':Cx} {H:List Blk} (h:HOk c c' ρ H):HOk c c' ρ (H.map zN):=by
 obtain ⟨h1,h2,h3⟩:=h
 have key: ∀(i:Nat) (b:Blk),(H.map zN)[i]? =some b→ ∃b0,H[i]? =some b0∧b=zN b0:=by
  intro i b hb
  rw [List.getElem?_map] at hb
  cases hi:H[i]? with
  | none=>rw [hi] at hb;cases hb
  | some b0=>
   rw [hi] at hb
   cases hb
   exact ⟨b0,rfl,rfl⟩
 refine ⟨fun i b hb=> ?_,fun i hi=>h2 i (by simpa using hi),fun i j bi bj k hij hi hj=> ?_⟩
 ·obtain ⟨b0,hi,rfl⟩:=key i b hb
  obtain ⟨hg,hk⟩:=h1 i _ hi
  refine ⟨?_,I3 hk⟩
  rcases hg with ⟨T,n,g,z,l,rfl⟩|⟨g,k,n,l,rfl⟩
  ·exact .inl ⟨T,n,g,none,l,rfl⟩
  ·exact .inr ⟨g,k,n,l,rfl⟩
 ·obtain ⟨b0,hi',rfl⟩:=key i bi hi
  obtain ⟨b1,hj',rfl⟩:=key j bj hj
  exact h3 i j _ _ k hij hi' hj'
theorem vT {vs:List V} {r:V} (ids:List Nat) {bs:List Blk} (ho:kq S.H ids bs) (hd:ids.Nodup) (hm:mt (fu S.H ids (fq vs)) r):lF E S r (bs.map zN) (some vs):=by
 intro c0 c ρ F u hY hs hr
 obtain ⟨c1,ρ1,e,hle,h1,h2⟩:=I2 ids ho hd hm c0 c ρ F u hY hs hr
 exact ⟨c1,ρ1,e,hle,h1,I4 h2⟩
theorem I5 {vs:List V} {T n:Nat} {g:Bool} {z:Option Bool} {l:List V} (i:Nat) (h:ak S.H i=some (.own T n g z l)) (hm:mt (fu S.H [i] (fq vs)) (.own 0)):lF E S (.own 0) [.own T n g none l] (some vs):=
 vT [i] (bs:=[.own T n g z l]) ⟨h,trivial,trivial⟩ (by simp) hm
theorem I6 {T n:Nat} {g:Bool} (hone:g=false→n=1):lF E S (.own 0) [.own T n g none []] (some [.sl (some true) n g []]):=by
 intro c0 c ρ F u hY h hr
 have e:u= .slice none 0 0:=by
  simp only [fq,rd,zOk] at hr
  obtain ⟨a,cap,e,_,⟨rfl,rfl⟩,_⟩:=hr
  exact e
 subst e
 refine ⟨c0.base c h.1.since.size,fun i=>if i=0 then some (.slice none 0 0) else none,rfl,Cx.leY.le ⟨h.1.since.below,fun k hk hy=>by rw [oH];exact ⟨fun h=>h.1,fun h=>⟨h,hy⟩⟩⟩ hY,⟨rfl,rfl⟩,?_,?_,?_⟩
 ·intro i b hb
  cases i with
  | zero=>
   simp at hb;subst hb
   exact ⟨.inl ⟨_,_,_,_,_,rfl⟩,.slice none 0 0,rfl,Own.nil,fun k hk=>by simp [blk] at hk,hone,none,0,rfl,fun _=>rfl⟩
  | succ i=>simp at hb
 ·intro i hi
  have:i≠0:=by simp at hi;omega
  simp [this]
 ·intro i j bi bj k hij hi hj
  cases i with
  | zero=>cases j with
   | zero=>exact absurd rfl hij
   | succ j=>simp at hj
  | succ i=>simp at hi
theorem I7 {f:FuncId} {pre post:List V} {n:Nat} {g:Bool} {l:List V} {r:V} {H:List Blk} (h1:l=[]→aE E f (pre++ .sl (some true) n g []::post) r H) (h2:aE E f (pre++ .sl (some false) n g l::post) r H) (z:Option Bool):aE E f (pre++ .sl z n g l::post) r H:=by
 refine ⟨h2.1,fun c us hY hg hus=> ?_⟩
 have key: ∀{pre:List V} {us:List Value},rdT ro0 c (pre++ .sl z n g l::post) us→(l=[]∧rdT ro0 c (pre++ .sl (some true) n g []::post) us)∨rdT ro0 c (pre++ .sl (some false) n g l::post) us:=by
  intro pre
  induction pre with
  | nil=>
   intro us h
   simp only [List.nil_append,rdT] at h⊢
   obtain ⟨u,c2,rfl,hu,h3⟩:=h
   obtain ⟨a,cap,e,hl,hz,hs⟩:=dk.1 hu
   cases a with
   | some a=>exact .inr ⟨u,c2,rfl,dk.2 ⟨_,cap,e,hl,by simp [zOk],hs⟩,h3⟩
   | none=>
    rcases hs with rfl|⟨b,o,cs,e',_⟩
    ·have hc:=qD hz rfl
     subst hc
     exact .inl ⟨rfl,u,c2,rfl,dk.2 ⟨none,0,e,⟨Nat.zero_le _,Nat.zero_le _⟩,⟨rfl,rfl⟩,.inl rfl⟩,h3⟩
    ·cases e'
  | cons d pre ih=>
   intro us h
   simp only [List.cons_append,rdT] at h⊢
   obtain ⟨u,c2,rfl,hu,h3⟩:=h
   rcases ih h3 with ⟨e,h4⟩|h4
   ·exact .inl ⟨e,u,c2,rfl,hu,h4⟩
   ·exact .inr ⟨u,c2,rfl,hu,h4⟩
 rcases key hus with ⟨e,h⟩|h
 ·exact (h1 e).2 c us hY hg h
 ·exact h2.2 c us hY hg h
end
attribute [go_sem] kp go vO sa kq fu jl dA sd
theorem aE.pub {E:Env} {f:FuncId} {ws:List V} {T n:Nat} {g:Bool} {z:Option Bool} {l:List V} (h:aE E f ws (.own 0) [.own T n g z l]):aE E f ws (.sl z n g l) []:=by
 refine ⟨h.1,fun c us hY hg hus=>(h.2 c us hY hg hus).mono ?_⟩
 rintro e w' ⟨v,c',ρ,rfl,rfl,hle,hrd,hH⟩
 obtain ⟨v',hv,hown,hge,hone,a,cap,es,hz⟩:=(hH.1 0 _ rfl).2
 have e:v=v':=by
  simp only [rd] at hrd
  rw [hv] at hrd
  exact (Option.some.inj hrd.1).symm
 subst e
 refine ⟨v,c'.dropv v,ro0,rfl,rfl,yt hle (fun g hg=>Cx.mine_of hY (hge g hg)),?_,fun i b hb=>by simp at hb,fun _ _=>rfl,fun i j bi bj k _ hb=>by simp at hb⟩
 obtain ⟨a',cap',e1,h1,h2⟩:=fG.1 hown.val
 rw [es] at e1;cases e1
 exact dk.2 ⟨a,cap,es,h1,hz,h2⟩
theorem Ag {ρ ρ':Ro} {c:Cx} (hro:ii ρ ρ') {k:Nat} (hat:ρ' k=some (.slice none 0 0)): ∀{l:List V} {cs:List Value} {o n:Nat} {g:Bool},rdC ρ c l cs→l[o]? =some (.sl (some true) n g [])→rdC ρ' c (l.set o (.own k)) cs
 | [],cs,o,n,g,h,ho=>by simp at ho
 | d::l,cs,0,n,g,h,ho=>by
  simp only [List.getElem?_cons_zero,Option.some.injEq] at ho
  subst ho
  simp only [rdC] at h
  obtain ⟨u,c2,rfl,h1,h2,h3⟩:=h
  simp only [List.set_cons_zero,rdC]
  have e:u= .slice none 0 0:=by
   simp only [rd,zOk] at h2
   obtain ⟨a,cap,e,_,⟨rfl,rfl⟩,_⟩:=h2
   exact e
  subst e
  exact ⟨_,c2,rfl,h1,by simp only [rd];exact ⟨hat,rfl⟩,uf hro h3⟩
 | d::l,cs,o+1,n,g,h,ho=>by
  simp only [List.getElem?_cons_succ] at ho
  simp only [rdC] at h
  obtain ⟨u,c2,rfl,h1,h2,h3⟩:=h
  simp only [List.set_cons_succ,rdC]
  exact ⟨u,c2,rfl,h1,dl hro h2,Ag hro hat h3 ho⟩
theorem I8 {E:Env} {S:St} (j o T:Nat) {n' n:Nat} {g:Bool} {l:List V} (h:ak S.H j=some (.var n' true (.agg l))) (ho:l[o]? =some (.sl (some true) n g [])) (hg:g=false→n=1):
  lP E S ⟨S.F,(S.nx,.own T n g (some true) [])::dH S.H j (.var n' true (.agg (l.set o (.own S.nx)))),S.nx+1⟩:=by
 intro c0 c ρ F hs
 have hf:ρ S.nx=none:=hs.2 _ (Nat.le_refl _)
 have hro:ii ρ (fun i=>if i=S.nx then some (.slice none 0 0) else ρ i):=oE hf fun i hi=>by simp [hi]
 have hat:(fun i=>if i=S.nx then some (Value.slice none 0 0) else ρ i) S.nx=some (.slice none 0 0):=by simp
 have hoth: ∀i,i≠S.nx→(fun i=>if i=S.nx then some (Value.slice none 0 0) else ρ i) i=ρ i:=fun i hi=>by simp [hi]
 generalize (fun i=>if i=S.nx then some (Value.slice none 0 0) else ρ i)=ρ' at hro hat hoth
 obtain ⟨b0,g1,g2,g3⟩:=hs.1.heap _ _ h
 have hjn:j≠S.nx:=fun e=>by rw [e,hf] at g1;cases g1
 refine ⟨c,ρ',rfl,Cx.pub.refl _,hro,⟨hs.1.since,hs.1.gl,fun t v ht=>dl hro (hs.1.slot t v ht),?_,?_⟩,?_⟩
 ·intro i b hb
  simp only [ak] at hb
  split at hb
  ·rename_i e';subst e';cases hb
   exact ⟨_,hat,Own.nil,fun k hk=>by simp [blk] at hk,hg,none,0,rfl,rfl,rfl⟩
  ·rename_i hin
   rw [c8] at hb
   split at hb
   ·rename_i e';subst e';cases hb
    obtain ⟨hX,T',cs,hh,hsh,hrd⟩:=g3
    refine ⟨b0,by rw [hoth _ hjn];exact g1,g2,hX,T',cs,hh,hsh,?_⟩
    simp only [mkV,rd] at hrd⊢
    obtain ⟨cs',e1,e2⟩:=hrd
    exact ⟨cs',e1,Ag hro hat e2 ho⟩
   ·exact mM hro (hs.1.heap i b hb)
 ·intro a b ba bb k hab hba hbb hpa hpb hk hk'
  have hn:an ρ' S.nx=none:=by simp [an,hat,blk]
  have hi:a≠S.nx:=fun e'=>by rw [e',hn] at hk;cases hk
  have hj:b≠S.nx:=fun e'=>by rw [e',hn] at hk';cases hk'
  simp only [ak,Ne.symm hi,Ne.symm hj,if_false,c8] at hba hbb
  rw [cP (hoth a hi)] at hk
  rw [cP (hoth b hj)] at hk'
  have back: ∀{x:Nat} {bx:Blk},(if j=x then some (Blk.var n' true (.agg (l.set o (.own S.nx)))) else ak S.H x)=some bx→aZ bx=true→ ∃b',ak S.H x=some b'∧aZ b'=true:=by
   intro x bx hx hp
   split at hx
   ·rename_i e;subst e;exact ⟨_,h,rfl⟩
   ·exact ⟨bx,hx,hp⟩
  obtain ⟨ba',h1,h2⟩:=back hba hpa
  obtain ⟨bb',h3,h4⟩:=back hbb hpb
  exact hs.1.sep a b ba' bb' k hab h1 h3 h2 h4 hk hk'
 ·intro i hi
  have:i≠S.nx:=fun e=>by subst e;simp only at hi;omega
  rw [hoth i this]
  exact hs.2 i (by simp only at hi;omega)
theorem o9 {E:Env} {S:St} (j o T:Nat) {n' n:Nat} {g:Bool} {l:List V} (h:ak S.H j=some (.var n' true (.agg l))) (ho:l[o]? =some (.sl (some true) n g [])) (hg:g=false→n=1):
  cw E S ⟨S.F,(S.nx,.own T n g (some true) [])::dH S.H j (.var n' true (.agg (l.set o (.own S.nx)))),S.nx+1⟩:=(I8 j o T h ho hg).weak
end Go.Proofs.YtgealhhkngbkbaaGreatDoor
namespace Go.Proofs.YtgealhhkngbkbaaGreatDoor
open Go.RowKit
@[go_sem] theorem Pc {α:Type} {a:α} {l m:List α}:List.append (a::l) m=a::List.append l m:=Eq.trans rfl rfl
@[go_sem] theorem Pd {α:Type} {m:List α}:List.append [] m=m:=Eq.trans rfl rfl
attribute [go_sem] Int.cast_ofNat_Int
@[go_sem] theorem Pe {l:List UInt8}:(l.toArray.size≤LEN)=(l.length≤1073741824):=by rw [List.size_toArray];rfl
theorem spQ {P Q:Prop} (h:Q) (e:P=Q:=by (simp only [go_sem,eJ,eK,List.length_replicate,dr,Int.toNat_natCast,↓reduceIte,Nat.reduceEqDiff,Nat.reduceAdd,Int.reduceAdd,Nat.reduceMul,Nat.reduceLeDiff,Nat.reduceLT,Int.reduceLE,Int.reduceLT,Int.reduceNeg,Int.reduceToNat];rfl)):P:=e▸h
theorem au {A P Q:Prop} (a:A) (h:Q) (e:A→P=Q:=by (intro hA;simp only [go_sem,eJ,eK,List.length_replicate,dr,Int.toNat_natCast,↓reduceIte,Nat.reduceEqDiff,Nat.reduceAdd,Int.reduceAdd,Nat.reduceMul,Nat.reduceLeDiff,Nat.reduceLT,Int.reduceLE,Int.reduceLT,Int.reduceNeg,Int.reduceToNat,hA];rfl)):P:=e a▸h
theorem clQ {P:Prop} (h:P:=by (simp only [go_sem,eJ,eK,List.length_replicate,dr,Int.toNat_natCast,↓reduceIte,Nat.reduceEqDiff,Nat.reduceAdd,Int.reduceAdd,Nat.reduceMul,Nat.reduceLeDiff,Nat.reduceLT,Int.reduceLE,Int.reduceLT,Int.reduceNeg,Int.reduceToNat,kl,km,Int.reduceSub,or_self,or_true,true_or]<;>fail)):P:=h
theorem ar {A P:Prop} (a:A) (h:A→P:=by (intro hA;simp only [go_sem,eJ,eK,List.length_replicate,dr,Int.toNat_natCast,↓reduceIte,Nat.reduceEqDiff,Nat.reduceAdd,Int.reduceAdd,Nat.reduceMul,Nat.reduceLeDiff,Nat.reduceLT,Int.reduceLE,Int.reduceLT,Int.reduceNeg,Int.reduceToNat,kl,km,Int.reduceSub,or_self,or_true,true_or,hA]<;>fail)):P:=h a
theorem cQ {A P:Prop} (a:A) (h:A→P:=by (intro hA;simp only [go_sem,eJ,eK,List.length_replicate,dr,Int.toNat_natCast,↓reduceIte,Nat.reduceEqDiff,Nat.reduceAdd,Int.reduceAdd,Nat.reduceMul,Nat.reduceLeDiff,Nat.reduceLT,Int.reduceLE,Int.reduceLT,Int.reduceNeg,Int.reduceToNat,kl,km,Int.reduceSub,or_self,or_true,true_or,hA]<;>fail)):P:=h a
theorem sbQ {P:Prop} (h:P:=by (simp only [go_sem,eJ,eK,List.length_replicate,dr,Int.toNat_natCast,↓reduceIte,Nat.reduceEqDiff,Nat.reduceAdd,Int.reduceAdd,Nat.reduceMul,Nat.reduceLeDiff,Nat.reduceLT,Int.reduceLE,Int.reduceLT,Int.reduceNeg,Int.reduceToNat,o3,r9,vN,fr,ft,mtO,mtB,mt,mtL,lC,lB,ltV,ltL,ltB,eq_self,or_true,true_or,or_self,and_self]<;>fail)):P:=h
theorem Ah {A P:Prop} (a:A) (h:A→P:=by (intro hA;simp only [go_sem,eJ,eK,List.length_replicate,dr,Int.toNat_natCast,↓reduceIte,Nat.reduceEqDiff,Nat.reduceAdd,Int.reduceAdd,Nat.reduceMul,Nat.reduceLeDiff,Nat.reduceLT,Int.reduceLE,Int.reduceLT,Int.reduceNeg,Int.reduceToNat,o3,r9,vN,fr,ft,mtO,mtB,mt,mtL,lC,lB,ltV,ltL,ltB,eq_self,or_true,true_or,or_self,and_self,hA]<;>fail)):P:=h a
theorem alQ {P:Prop} (h:P:=by first|(simp only [go_sem,eJ,eK,List.length_replicate,dr,Int.toNat_natCast,↓reduceIte,Nat.reduceEqDiff,Nat.reduceAdd,Int.reduceAdd,Nat.reduceMul,Nat.reduceLeDiff,Nat.reduceLT,Int.reduceLE,Int.reduceLT,Int.reduceNeg,Int.reduceToNat,List.all_nil,List.all_cons];done)|rfl):P:=h
theorem nzQ {P Q:Prop} (h:P) (e:P=Q:=by first|(simp only [decide_eq_true_eq,decide_eq_false_iff_not,Bool.and_eq_true,Bool.or_eq_true,Bool.not_eq_true',Bool.not_eq_false',beq_iff_eq,bne_iff_ne,beq_eq_false_iff_ne,bne_eq_false_iff_eq,ne_eq,Int.not_lt,Int.not_le,gt_iff_lt,ge_iff_le,List.length_map,wfL,wfV,and_true,true_and,kh,oX,r5,r7,vL,lM,kj,List.length_append,List.length_cons,List.length_nil,List.length_replicate,dr,o0,o4,o5,dL,cL,oY];rfl)|rfl):Q:=e▸h
theorem omQ {P:Prop} (h:P:=by (clear hM;(try simp only [List.length_map,List.length_set,lM,kj,List.length_append,List.length_cons,List.length_nil,List.length_replicate,dr,o0,o4,o5,dL,cL,decide_eq_true_eq])<;>omega)):P:=h
theorem am {P:Prop} (h:P:=by ((try simp only [List.length_map,List.length_set,lM,kj,List.length_append,List.length_cons,List.length_nil,List.length_replicate,dr,o0,o4,o5,dL,cL,decide_eq_true_eq])<;>omega)):P:=h
theorem pfQ {P:Prop} (h:P:=by (clear hM;first|omega|(simp only [decide_eq_true_eq,decide_eq_false_iff_not,Bool.and_eq_true,Bool.or_eq_true,Bool.not_eq_true',Bool.not_eq_false',beq_iff_eq,bne_iff_ne,beq_eq_false_iff_ne,bne_eq_false_iff_eq,ne_eq,Int.not_lt,Int.not_le,gt_iff_lt,ge_iff_le,List.length_map,wfL,wfV,and_true,true_and,kh,oX,r5,r7,vL,lM,kj,List.length_append,List.length_cons,List.length_nil,List.length_replicate,dr,o0,o4,o5,dL,cL,oY] at*;omega))):P:=h
theorem spR {P Q:Prop} (h:P) (e:P=Q:=by first|(simp only [go_sem,eJ,eK,List.length_replicate,dr,Int.toNat_natCast,↓reduceIte,Nat.reduceEqDiff,Nat.reduceAdd,Int.reduceAdd,Nat.reduceMul,Nat.reduceLeDiff,Nat.reduceLT,Int.reduceLE,Int.reduceLT,Int.reduceNeg,Int.reduceToNat];rfl)|rfl):Q:=e▸h
end Go.Proofs.YtgealhhkngbkbaaGreatDoor
namespace Go.Proofs.YtgealhhkngbkbaaGreatDoor
open Go.RowKit
section
variable {E:Env} {J:cq} {k:List Ct} {S S1:St} {c0 c:Cx} {ρ:Ro} {F:Fm}
mutual
def ren (s:Nat→Nat):V→V
 | .own i=> .own (s i)
 | .ptr i o=> .ptr (s i) o
 | .optr i m k o=> .optr (s i) m k o
 | .osub i m k o=> .osub (s i) m k o
 | .agg l=> .agg (jm s l)
 | .tup l=> .tup (jm s l)
 | .fn f l=> .fn f (jm s l)
 | v=>v
def jm (s:Nat→Nat):List V→List V
 | []=> []
 | d::l=>ren s d::jm s l
end
mutual
theorem se {ρ':Ro} {s:Nat→Nat} (k: ∀i v,ρ i=some v→ρ' (s i)=some v): ∀{d:V} {v:Value},rd ρ c d v→rd ρ' c (ren s d) v
 | .int _ _,_,h=>h
 | .bool _,_,h=>h
 | .ifc _,_,h=>h
 | .str _,_,h=>h
 | .agg l,v,h=>by
  simp only [rd,ren] at h⊢
  obtain ⟨cs,e,h⟩:=h
  exact ⟨cs,e,Ai k h⟩
 | .sl z n g l,v,h=>h
 | .pp n g d,v,h=>h
 | .own _,_,h=>⟨k _ _ h.1,h.2⟩
 | .ptr _ _,_,h=>by
  simp only [rd,ren] at h⊢
  obtain ⟨b,h1,h2⟩:=h
  exact ⟨b,k _ _ h1,h2⟩
 | .optr _ _ _ _,_,h=>by
  simp only [rd,ren] at h⊢
  obtain ⟨u,h1,h2⟩:=h
  exact ⟨u,k _ _ h1,h2⟩
 | .osub _ _ _ _,_,h=>by
  simp only [rd,ren] at h⊢
  obtain ⟨u,h1,h2⟩:=h
  exact ⟨u,k _ _ h1,h2⟩
 | .tup l,v,h=>by
  simp only [rd,ren] at h⊢
  obtain ⟨cs,e,h⟩:=h
  exact ⟨cs,e,vU k h⟩
 | .fn f l,v,h=>by
  simp only [rd,ren] at h⊢
  obtain ⟨cs,e,h⟩:=h
  exact ⟨cs,e,vU k h⟩
 | .opq p,v,h=>h
 | .un,_,_=>trivial
theorem Ai {ρ':Ro} {s:Nat→Nat} (k: ∀i v,ρ i=some v→ρ' (s i)=some v): ∀{l:List V} {cs:List Value},rdC ρ c l cs→rdC ρ' c (jm s l) cs
 | [],_,h=>h
 | d::l,cs,h=>by
  simp only [rdC,jm] at h⊢
  obtain ⟨u,c2,e,h1,h2,h3⟩:=h
  exact ⟨u,c2,e,h1,se k h2,Ai k h3⟩
theorem vU {ρ':Ro} {s:Nat→Nat} (k: ∀i v,ρ i=some v→ρ' (s i)=some v): ∀{l:List V} {cs:List Value},rdT ρ c l cs→rdT ρ' c (jm s l) cs
 | [],_,h=>h
 | d::l,cs,h=>by
  simp only [rdT,jm] at h⊢
  obtain ⟨u,c2,e,h2,h3⟩:=h
  exact ⟨u,c2,e,se k h2,vU k h3⟩
end
def iv (s:Nat→Nat):Blk→Blk
 | .var n g d=> .var n g (ren s d)
 | b=>b
def fv (s:Nat→Nat):List Blk→List Blk
 | []=> []
 | b::l=>iv s b::fv s l
theorem vV {s:Nat→Nat}: ∀{l:List Blk} {j:Nat},(fv s l)[j]? =(l[j]?).map (iv s)
 | [],j=>by simp [fv]
 | b::l,0=>by simp [fv]
 | b::l,j+1=>by simp [fv,vV (l:=l)]
mutual
def prV (p:Nat→Bool):V→V
 | .own i=>bif p i then .un else .own i
 | .ptr i o=>bif p i then .un else .ptr i o
 | .optr i n k o=>bif p i then .un else .optr i n k o
 | .osub i n k o=>bif p i then .un else .osub i n k o
 | .agg l=> .agg (prL p l)
 | .tup l=> .tup (prL p l)
 | .fn f l=> .fn f (prL p l)
 | v=>v
def prL (p:Nat→Bool):List V→List V
 | []=> []
 | d::l=>prV p d::prL p l
end
mutual
theorem m_ {ρ':Ro} {p:Nat→Bool} (k: ∀i v,p i=false→ρ i=some v→ρ' i=some v): ∀{d:V} {v:Value},rd ρ c d v→rd ρ' c (prV p d) v
 | .int _ _,_,h=>h
 | .bool _,_,h=>h
 | .ifc _,_,h=>h
 | .str _,_,h=>h
 | .agg l,v,h=>by
  simp only [rd,prV] at h⊢
  obtain ⟨cs,e,h⟩:=h
  exact ⟨cs,e,Aj k h⟩
 | .sl z n g l,v,h=>h
 | .pp n g d,v,h=>h
 | .own i,v,h=>by
  simp only [prV]
  cases hp:p i with
  | true=>trivial
  | false=>exact ⟨k _ _ hp h.1,h.2⟩
 | .ptr i o,v,h=>by
  simp only [prV]
  cases hp:p i with
  | true=>trivial
  | false=>
   simp only [cond_false,rd] at h⊢
   obtain ⟨b,h1,h2⟩:=h
   exact ⟨b,k _ _ hp h1,h2⟩
 | .optr i n j o,v,h=>by
  simp only [prV]
  cases hp:p i with
  | true=>trivial
  | false=>
   simp only [cond_false,rd] at h⊢
   obtain ⟨u,h1,h2⟩:=h
   exact ⟨u,k _ _ hp h1,h2⟩
 | .osub i n j o,v,h=>by
  simp only [prV]
  cases hp:p i with
  | true=>trivial
  | false=>
   simp only [cond_false,rd] at h⊢
   obtain ⟨u,h1,h2⟩:=h
   exact ⟨u,k _ _ hp h1,h2⟩
 | .tup l,v,h=>by
  simp only [rd,prV] at h⊢
  obtain ⟨cs,e,h⟩:=h
  exact ⟨cs,e,vW k h⟩
 | .fn f l,v,h=>by
  simp only [rd,prV] at h⊢
  obtain ⟨cs,e,h⟩:=h
  exact ⟨cs,e,vW k h⟩
 | .opq p,v,h=>h
 | .un,_,_=>trivial
theorem Aj {ρ':Ro} {p:Nat→Bool} (k: ∀i v,p i=false→ρ i=some v→ρ' i=some v): ∀{l:List V} {cs:List Value},rdC ρ c l cs→rdC ρ' c (prL p l) cs
 | [],_,h=>h
 | d::l,cs,h=>by
  simp only [rdC,prL] at h⊢
  obtain ⟨u,c2,e,h1,h2,h3⟩:=h
  exact ⟨u,c2,e,h1,m_ k h2,Aj k h3⟩
theorem vW {ρ':Ro} {p:Nat→Bool} (k: ∀i v,p i=false→ρ i=some v→ρ' i=some v): ∀{l:List V} {cs:List Value},rdT ρ c l cs→rdT ρ' c (prL p l) cs
 | [],_,h=>h
 | d::l,cs,h=>by
  simp only [rdT,prL] at h⊢
  obtain ⟨u,c2,e,h2,h3⟩:=h
  exact ⟨u,c2,e,m_ k h2,vW k h3⟩
end
theorem Ak {p:Nat→Bool}: ∀{l:List V},prL p l=l.map (prV p)
 | []=>rfl
 | d::l=>by simp only [prL,List.map_cons,Ak]
def prB (p:Nat→Bool):Blk→Blk
 | .var n g d=> .var n g (prV p d)
 | .lent k n g d=> .lent k n g (prV p d)
 | .ownI E n g z l=> .ownI E n g z (prL p l)
 | b=>b
def prF (p:Nat→Bool):List (Nat×V)→List (Nat×V)
 | []=> []
 | (t,v)::l=>(t,prV p v)::prF p l
def prH (p:Nat→Bool):List (Nat×Blk)→List (Nat×Blk)
 | []=> []
 | (t,b)::l=>(t,prB p b)::prH p l
theorem Al {p:Nat→Bool}: ∀{l:List (Nat×V)} {t:Nat},ak (prF p l) t=(ak l t).map (prV p)
 | [],_=>rfl
 | (k,v)::l,t=>by
  simp only [prF,ak]
  split
  ·rfl
  ·exact Al
theorem Am {p:Nat→Bool}: ∀{l:List (Nat×Blk)} {t:Nat},ak (prH p l) t=(ak l t).map (prB p)
 | [],_=>rfl
 | (k,v)::l,t=>by
  simp only [prH,ak]
  split
  ·rfl
  ·exact Am
theorem I9 {p:Nat→Bool} {b:Blk}:aZ (prB p b)=aZ b:=by cases b<;>rfl
theorem An {i:Nat} {b:Blk} (h:blkOk c0 c ρ i b): ∃v,ρ i=some v:=by
 cases b with
 | var n g d=>obtain ⟨b,h1,_⟩:=h;exact ⟨_,h1⟩
 | own E n g z l=>obtain ⟨v,h1,_⟩:=h;exact ⟨_,h1⟩
 | ownI E n g z l=>obtain ⟨v,h1,_⟩:=h;exact ⟨_,h1⟩
 | pvar n g d=>obtain ⟨b,h1,_⟩:=h;exact ⟨_,h1⟩
 | kset g k n l=>obtain ⟨r,h1,_⟩:=h;exact ⟨_,h1⟩
 | pown n g z l=>obtain ⟨v,h1,_⟩:=h;exact ⟨_,h1⟩
 | lent k n g d=>exact ⟨_,h.1⟩
def gp (k:Nat):Blk→Blk
 | .var n g d=> .lent k n g d
 | b=>b
def cf (ks:Nat→Nat):Nat→List Blk→List Blk
 | _,[]=> []
 | i,b::l=>gp (ks i) b::cf ks (i+1) l
theorem na {ks:Nat→Nat}: ∀{l:List Blk} {i j:Nat},(cf ks i l)[j]? =(l[j]?).map (gp (ks (i+j)))
 | [],i,j=>by simp [cf]
 | b::l,i,0=>by simp [cf]
 | b::l,i,j+1=>by simp [cf,na (l:=l),Nat.add_comm,Nat.add_left_comm,Nat.add_assoc]
theorem sf {ks:Nat→Nat}: ∀{l:List Blk} {i:Nat},(cf ks i l).length=l.length
 | [],i=>rfl
 | b::l,i=>by simp [cf,sf (l:=l)]
def o_ (c0 c:Cx) (ρ:Ro) (H:List Blk):Prop:=
 (∀i b,H[i]? =some b→blkOk c0 c ρ i b)∧(∀i,H.length≤i→ρ i=none)∧
  ∀i j bi bj k,i≠j→H[i]? =some bi→H[j]? =some bj→an ρ i=some k→an ρ j≠some k
def iw:List Blk→List Blk→Bool
 | [],[]=>true
 | .var _ _ _::l,.var _ _ _::m=>iw l m
 | .own _ _ _ _ _::l,.own _ _ _ _ _::m=>iw l m
 | _,_=>false
def lR:List Blk→Bool
 | []=>true
 | .own _ _ _ _ _::l=>lR l
 | _=>false
def jn:Blk→Prop
 | .var _ _ _=>True
 | _=>False
def eL:Blk→Prop
 | .own _ _ _ _ _=>True
 | _=>False
theorem vX: ∀{l m:List Blk},iw l m=true→l.length=m.length∧ ∀(j:Nat) (b b':Blk),l[j]? =some b→m[j]? =some b'→(jn b∧jn b')∨(eL b∧eL b')
 | [],[],_=>⟨rfl,by simp⟩
 | a::l,a'::m,h=>by
  have key:iw l m=true∧((jn a∧jn a')∨(eL a∧eL a')):=by
   cases a<;>cases a'<;>simp only [iw] at h<;>first
    | exact ⟨h,.inl ⟨trivial,trivial⟩⟩
    | exact ⟨h,.inr ⟨trivial,trivial⟩⟩
    | cases h
  obtain ⟨h1,h2⟩:=vX key.1
  refine ⟨by simp [h1],fun j b b' hb hb'=> ?_⟩
  cases j with
  | zero=>simp at hb hb';subst hb hb';exact key.2
  | succ j=>exact h2 j b b' (by simpa using hb) (by simpa using hb')
 | [],_::_,h=>by simp [iw] at h
 | a::_,[],h=>by cases a<;>simp [iw] at h
theorem vY: ∀{l:List Blk},lR l=true→ ∀(j:Nat) (b:Blk),l[j]? =some b→eL b
 | [],_,j,b,hb=>by simp at hb
 | a::l,h,j,b,hb=>by
  have key:lR l=true∧eL a:=by
   cases a<;>simp only [lR] at h<;>first
    | exact ⟨h,trivial⟩
    | cases h
  cases j with
  | zero=>simp at hb;subst hb;exact key.2
  | succ j=>exact vY key.1 j b (by simpa using hb)
def I_ (E:Env) (c:Cx) (r:V) (H:List Blk):Ending→World→Prop:=fun e w'=> ∃v c' ρ,e= .returned v∧c'.w=w'∧c.leY c'∧rd ρ c' r v∧o_ c c' ρ H
def bG (E:Env) (f:FuncId) (ws:List V) (Hin:List Blk) (r:V) (Hout Hnew:List Blk):Prop:=
 (∀aas w,(callFunc f aas).run E.P w= .ok (.enter f aas) w)∧(iw Hin Hout&&lR Hnew)=true∧
  ∀(c:Cx) (us:List Value) (ρ0:Ro) (ks:Nat→Nat),Gl E c→o_ c c ρ0 (cf ks 0 Hin)→rdT ρ0 c ws us→Calls E.P f us.toArray c.w (I_ E c r (cf ks 0 Hout++Hnew))
mutual
def inV (H:List (Nat×Blk)) (ids:List Nat):V→V
 | .own i=>match dA ids i 0 with
  | some j=> .own j
  | none=>vO (ak H i)
 | .ptr i o=>match dA ids i 0 with
  | some j=> .ptr j o
  | none=>sa o (ak H i)
 | .optr _ _ _ _=> .un
 | .osub _ _ _ _=> .un
 | .agg l=> .agg (gu H ids l)
 | .tup l=> .tup (gu H ids l)
 | .fn f l=> .fn f (gu H ids l)
 | v=>v
def gu (H:List (Nat×Blk)) (ids:List Nat):List V→List V
 | []=> []
 | d::l=>inV H ids d::gu H ids l
end
theorem si {i:Nat} {v:Value} (h:ro0 i=some v):False:=by cases h
mutual
theorem sj {ids:List Nat} (h:Sim E c0 c ρ S F): ∀{d:V} {v:Value},rd ρ c d v→rd (bZ ρ ids) c (inV S.H ids d) v
 | .int _ _,_,hr=>hr
 | .bool _,_,hr=>hr
 | .ifc _,_,hr=>hr
 | .str _,_,hr=>hr
 | .agg l,v,hr=>by
  simp only [rd,inV] at hr⊢
  obtain ⟨cs,e,hr⟩:=hr
  exact ⟨cs,e,Ao h hr⟩
 | .sl z n g l,v,hr=>hr
 | .pp n g d,v,hr=>hr
 | .own i,v,hr=>by
  simp only [inV]
  cases hp:dA ids i 0 with
  | some j=>
   simp only [rd] at hr⊢
   obtain ⟨_,h2⟩:=lQ hp
   exact ⟨by simp only [bZ];rw [show j - 0=j from rfl] at h2;rw [h2];exact hr.1,hr.2⟩
  | none=>exact dl (fun i v hi=>(si hi).elim) (sb (d:= .own i) h hr)
 | .ptr i o,v,hr=>by
  simp only [inV]
  cases hp:dA ids i 0 with
  | some j=>
   simp only [rd] at hr⊢
   obtain ⟨b,h1,h3⟩:=hr
   obtain ⟨_,h2⟩:=lQ hp
   exact ⟨b,by simp only [bZ];rw [show j - 0=j from rfl] at h2;rw [h2];exact h1,h3⟩
  | none=>exact dl (fun i v hi=>(si hi).elim) (sb (d:= .ptr i o) h hr)
 | .optr _ _ _ _,_,_=>trivial
 | .osub _ _ _ _,_,_=>trivial
 | .tup l,v,hr=>by
  simp only [rd,inV] at hr⊢
  obtain ⟨cs,e,hr⟩:=hr
  exact ⟨cs,e,nb h hr⟩
 | .fn f l,v,hr=>by
  simp only [rd,inV] at hr⊢
  obtain ⟨cs,e,hr⟩:=hr
  exact ⟨cs,e,nb h hr⟩
 | .opq p,v,hr=>hr
 | .un,_,_=>trivial
theorem Ao {ids:List Nat} (h:Sim E c0 c ρ S F): ∀{l:List V} {cs:List Value},rdC ρ c l cs→rdC (bZ ρ ids) c (gu S.H ids l) cs
 | [],_,hr=>hr
 | d::l,cs,hr=>by
  simp only [rdC,gu] at hr⊢
  obtain ⟨u,c2,e,h1,h2,h3⟩:=hr
  exact ⟨u,c2,e,h1,sj h h2,Ao h h3⟩
theorem nb {ids:List Nat} (h:Sim E c0 c ρ S F): ∀{l:List V} {cs:List Value},rdT ρ c l cs→rdT (bZ ρ ids) c (gu S.H ids l) cs
 | [],_,hr=>hr
 | d::l,cs,hr=>by
  simp only [rdT,gu] at hr⊢
  obtain ⟨u,c2,e,h2,h3⟩:=hr
  exact ⟨u,c2,e,sj h h2,nb h h3⟩
end
theorem Ap {T n:Nat} {g:Bool} {l l':List V} {v:Value} (h:Own c T v (rV ro0 n g) l) (hm:mtL l l'):Own c T v (rV ro0 n g) l':=by
 have e:=ka hm
 refine ⟨by rw [←e];exact h.1,?_⟩
 rcases h.2 with ⟨a,h1,h2⟩|⟨g',cp,cur,h1,h2,h3,h4,h5,h6,h7⟩
 ·subst h2
  cases l' with
  | nil=>exact .inl ⟨a,h1,rfl⟩
  | cons x l'=>simp [mtL] at hm
 ·exact .inr ⟨g',cp,cur,by rw [←e];exact h1,h2,h3,by rw [←e];exact h4,h5,h6,by rw [←e];exact fI.1 (rN hm (fI.2 h7))⟩
def inO (H:List (Nat×Blk)) (ids:List Nat):Option Blk→Blk→Prop
 | some (.own T n g z l),.own T' n' g' z' l'=>T=T'∧n=n'∧g=g'∧mtZ z z'∧mtL l l'
 | some (.var n g d),.var n' g' d'=>n=n'∧g=g'∧mt (inV H ids d) d'
 | some (.lent _ n g d),.var n' g' d'=>n=n'∧g=g'∧mt (inV H ids d) d'
 | _,_=>False
def gw (H:List (Nat×Blk)) (ids:List Nat):List Nat→List Blk→Prop
 | [],[]=>True
 | i::l,b::m=>inO H ids (ak H i) b∧gw H ids l m
 | _,_=>False
theorem nc {H:List (Nat×Blk)} {ids:List Nat}: ∀{l:List Nat} {m:List Blk},gw H ids l m→l.length=m.length∧ ∀(j i:Nat) (b:Blk),l[j]? =some i→m[j]? =some b→inO H ids (ak H i) b
 | [],[],_=>⟨rfl,by simp⟩
 | i::l,b::m,h=>by
  simp only [gw] at h
  obtain ⟨h1,h2⟩:=nc h.2
  refine ⟨by simp [h1],fun j i' b' hi hb=> ?_⟩
  cases j with
  | zero=>simp at hi hb;subst hi hb;exact h.1
  | succ j=>exact h2 j i' b' (by simpa using hi) (by simpa using hb)
 | [],_::_,h=>by simp [gw] at h
 | _::_,[],h=>by simp [gw] at h
def eM (H:List (Nat×Blk)):List Nat→List Nat
 | []=> []
 | i::l=>ownI1 (ak H i) i (eM H l)
where ownI1:Option Blk→Nat→List Nat→List Nat
 | some (.own _ _ _ _ _),i,l=>i::l
 | _,_,l=>l
theorem Aq {H:List (Nat×Blk)} {i:Nat} {T n:Nat} {g:Bool} {z:Option Bool} {m:List V} (hb:ak H i=some (.own T n g z m)): ∀{l:List Nat},i∈l→i∈eM H l
 | j::l,h=>by
  simp only [eM]
  rcases List.mem_cons.1 h with rfl|h
  ·rw [hb];simp [eM.ownI1]
  ·have:=Aq hb h
   unfold eM.ownI1
   split
   ·exact List.mem_cons_of_mem _ this
   ·exact this
def sg (ids:List Nat) (nx j:Nat):Nat:=match ids[j]? with
 | some i=>i
 | none=>nx+(j - ids.length)
def ix:Option Blk→Blk→Blk
 | some (.lent k _ _ _),.var n g d=> .lent k n g d
 | _,b=>b
def gW (H0:List (Nat×Blk)):List (Nat×Blk)→List Nat→List Blk→List (Nat×Blk)
 | h,i::l,b::m=>gW H0 (dH h i (ix (ak H0 i) b)) l m
 | h,_,_=>h
theorem vZ {H0:List (Nat×Blk)} {i:Nat}: ∀{l:List Nat} {m:List Blk} {h:List (Nat×Blk)},i∉l→ak (gW H0 h l m) i=ak h i
 | [],[],_,_=>rfl
 | [],_::_,_,_=>rfl
 | _::_,[],_,_=>rfl
 | j::l,b::m,h,hi=>by
  simp only [List.mem_cons,not_or] at hi
  simp only [gW]
  rw [vZ hi.2,c8,if_neg (Ne.symm hi.1)]
theorem Ar {H0:List (Nat×Blk)} {i:Nat} {b:Blk}: ∀{l:List Nat} {m:List Blk} {h:List (Nat×Blk)} {j:Nat},l.Nodup→l[j]? =some i→m[j]? =some b→ak (gW H0 h l m) i=some (ix (ak H0 i) b)
 | [],_,_,j,_,hi,_=>by simp at hi
 | _::_,[],_,j,_,_,hb=>by simp at hb
 | x::l,y::m,h,0,hd,hi,hb=>by
  simp at hi hb
  subst hi hb
  simp only [gW]
  rw [vZ (List.nodup_cons.1 hd).1,c8,if_pos rfl]
 | x::l,y::m,h,j+1,hd,hi,hb=>by
  simp only [gW]
  exact Ar (List.nodup_cons.1 hd).2 (by simpa using hi) (by simpa using hb)
def St.afterI (S:St) (ids:List Nat) (Hout Hnew:List Blk) (d:Option Nat) (r:V):St:=
 St.put ⟨prF (bz (eM S.H ids)) S.F,gM S.nx 0 (fv (sg ids S.nx) Hnew)++gW S.H (prH (bz (eM S.H ids)) S.H) ids (fv (sg ids S.nx) Hout),S.nx+Hnew.length⟩ d (ren (sg ids S.nx) r)
def ro2 (ids:List Nat) (nx:Nat) (ρ ρr:Ro):Ro:=fun i=>match dA ids i 0 with
 | some j=>ρr j
 | none=>if i<nx then ρ i else ρr (ids.length+(i - nx))
theorem Ja {ids:List Nat} {i j:Nat} (hd:ids.Nodup) (h:ids[j]? =some i):dA ids i 0=some j:=by
 cases hp:dA ids i 0 with
 | none=>exact absurd (List.mem_of_getElem? h) (vR hp)
 | some q=>
  obtain ⟨_,h2⟩:=lQ hp
  rw [o8 hd h h2]
  rfl
theorem As {ids:List Nat} {i:Nat} (h:i∉ids):dA ids i 0=none:=by
 cases hp:dA ids i 0 with
 | none=>rfl
 | some q=>
  obtain ⟨_,h2⟩:=lQ hp
  exact absurd (List.mem_of_getElem? h2) h
theorem sk {ids:List Nat} {nx i j:Nat} {ρr:Ro} (hd:ids.Nodup) (h:ids[j]? =some i):ro2 ids nx ρ ρr i=ρr j:=by
 simp only [ro2,Ja hd h]
theorem nd {ids:List Nat} {nx i:Nat} {ρr:Ro} (h:i∉ids) (hi:i<nx):ro2 ids nx ρ ρr i=ρ i:=by
 simp only [ro2,As h,if_pos hi]
theorem At {ids:List Nat} {nx i:Nat} {ρr:Ro} (h: ∀j∈ids,j<nx) (hi:nx≤i):ro2 ids nx ρ ρr i=ρr (ids.length+(i - nx)):=by
 have:i∉ids:=fun e=>by have:=h i e;omega
 simp only [ro2,As this,if_neg (Nat.not_lt.2 hi)]
theorem Jb {ids:List Nat} {nx:Nat} {ρr:Ro} (hd:ids.Nodup) (h: ∀j∈ids,j<nx) (j:Nat):ro2 ids nx ρ ρr (sg ids nx j)=ρr j:=by
 unfold sg
 cases hj:ids[j]? with
 | some i=>exact sk hd hj
 | none=>
  have hle:=List.getElem?_eq_none_iff.1 hj
  rw [At h (Nat.le_add_right _ _)]
  congr 1;omega
theorem Var.leY {α:Type} {c c':Cx} {b:Nat} {r:Rep α} {d:α} (h:c.leY c') (hp:c.pub c') (hb:b∉c.Y) (hv:Var c b r d):Var c' b r d:=by
 obtain ⟨h1,T,cs,h2,h3⟩:=hv
 have hlt:=c.ok b h1
 exact ⟨(h.old b hlt hb).2 h1,T,cs,(h.below.block b hlt hb).trans h2,r.mono h3 hp⟩
theorem Own.leY {α:Type} {c c':Cx} {E:TypeId} {v:Value} {r:Rep α} {l:List α} (ho:Own c E v r l) (h:c.leY c') (hp:c.pub c') (hb: ∀i,blk v=some i→i∉c.Y):Own c' E v r l:=by
 refine ⟨ho.1,?_⟩
 rcases ho.2 with h'|⟨g',cap,cur,rfl,h1,h2,h3,h4,h5,h6⟩
 ·exact .inl h'
 ·have hlt:=c.ok g' h1
  exact .inr ⟨g',cap,cur,rfl,(h.old g' hlt (hb g' rfl)).2 h1,(h.below.block g' hlt (hb g' rfl)).trans h2,h3,h4,h5,c7 hp h6⟩
theorem eT.leY {c c':Cx} {r:Nat} {g:Bool} {k:IntKind} {n:Nat} {l:List (List Int)} (h:c.leY c') (hb:r∉c.Y) (hv:eT c r g k n l):eT c' r g k n l:=by
 obtain ⟨h1,h2,es,clock,h3,h4⟩:=hv
 have hlt:=c.ok r h1
 exact ⟨(h.old r hlt hb).2 h1,h2,es,clock,(h.below.block r hlt hb).trans h3,h4⟩
theorem Jc {Y:List Nat} {c':Cx} (h:(c.lend Y).leY c') (hp:c.pub c') {i:Nat} {b:Blk} (hne:aZ b=true→ ∀x,an ρ i=some x→x∉Y) (hb:blkOk c0 c ρ i b):blkOk c0 c' ρ i b:=by
 have hp':(c.lend Y).pub c':=⟨hp.size,fun k hk hx=>hp.keep k hk hx⟩
 cases b with
 | var n g d=>
  obtain ⟨b,h1,h2,h3⟩:=hb
  exact ⟨b,h1,h2,Var.leY h hp' (hne rfl b (by simp [an,h1])) ((c.chg_lend Y).var (by simp) h3)⟩
 | own E n g z l=>
  obtain ⟨v,h1,h2,h3,h4,a,cap,e,h5⟩:=hb
  exact ⟨v,h1,(h2.chg (c.chg_lend Y) (by simp)).leY h hp' (fun x hx=>hne rfl x (by rw [eF h1 e];exact hx)),h3,h4,a,cap,e,h5⟩
 | ownI E n g z l=>
  obtain ⟨v,h1,h2,h3,h4,a,cap,e,h5⟩:=hb
  exact ⟨v,h1,(h2.chg (c.chg_lend Y) (by simp)).leY h hp' (fun x hx=>hne rfl x (by rw [eF h1 e];exact hx)),h3,h4,a,cap,e,h5⟩
 | kset g k' n l=>
  obtain ⟨r,h1,h2,h3⟩:=hb
  exact ⟨r,h1,h2,eT.leY h (hne rfl r (by simp [an,h1,blk])) (h3.chg (c.chg_lend Y) (by simp))⟩
 | pvar n g d=>
  obtain ⟨b,h1,h2⟩:=hb
  exact ⟨b,h1,(jO _).mono h2 hp⟩
 | pown n g z l=>
  obtain ⟨v,h1,h2⟩:=hb
  exact ⟨v,h1,bE hp h2⟩
 | lent k' n g d=>
  obtain ⟨h1,h2,h3⟩:=hb
  exact ⟨h1,h2,Var.leY h hp' (hne rfl k' (by simp [an,h1])) ((c.chg_lend Y).var (by simp) h3)⟩
theorem Jd {ρ':Ro} {p:Nat→Bool} {i:Nat} {b:Blk} (k: ∀i v,p i=false→ρ i=some v→ρ' i=some v) (hi: ∀v,ρ i=some v→ρ' i=some v) (h:blkOk c0 c ρ i b):blkOk c0 c ρ' i (prB p b):=by
 cases b with
 | var n g d=>
  obtain ⟨b,h1,h2,h3,T,cs,h4,h5,h6⟩:=h
  exact ⟨b,hi _ h1,h2,h3,T,cs,h4,h5,m_ k h6⟩
 | own E n g z l=>
  obtain ⟨v,h1,h2⟩:=h
  exact ⟨v,hi _ h1,h2⟩
 | ownI E n g z l=>
  obtain ⟨v,h1,h2,h3,h4,h5⟩:=h
  simp only [prB,blkOk,Ak]
  exact ⟨v,hi _ h1,Own.rep (f:=prV p) (r:=rV ρ n g) (s:=rV ρ' n g) (fun {cs d} (h1:ie n g cs∧rd ρ c d (mkV g cs))=>⟨h1.1,m_ k h1.2⟩) rfl h2,h3,h4,by simpa using h5⟩
 | kset g k' n l=>
  obtain ⟨r,h1,h2⟩:=h
  exact ⟨r,hi _ h1,h2⟩
 | pvar n g d=>
  obtain ⟨b,h1,h2⟩:=h
  exact ⟨b,hi _ h1,h2⟩
 | pown n g z l=>
  obtain ⟨v,h1,h2⟩:=h
  exact ⟨v,hi _ h1,h2⟩
 | lent k' n g d=>
  obtain ⟨h1,h2,h3,T,cs,h4,h5,h6⟩:=h
  exact ⟨hi _ h1,h2,h3,T,cs,h4,h5,m_ k h6⟩
def cB (ρ:Ro) (ids:List Nat):List Nat:=ids.filterMap (an ρ)
def de (ρ:Ro) (ids:List Nat) (j:Nat):Nat:=match ids[j]? with
 | some i=>(an ρ i).getD 0
 | none=>0
theorem pb {H:List (Nat×Blk)} {ids:List Nat} {o:Option Blk} {b:Blk} (h:inO H ids o b): ∃a,o=some a∧aZ a=true∧(jn b∨eL b):=by
 unfold inO at h
 split at h
 ·exact ⟨_,rfl,rfl,.inr trivial⟩
 ·exact ⟨_,rfl,rfl,.inl trivial⟩
 ·exact ⟨_,rfl,rfl,.inl trivial⟩
 ·exact h.elim
theorem v6 (h:Sim E c0 c ρ S F) {ids:List Nat} {Hin:List Blk} (hd:ids.Nodup) (hi:gw S.H ids ids Hin):
  o_ (c.lend (cB ρ ids)) (c.lend (cB ρ ids)) (bZ ρ ids) (cf (de ρ ids) 0 Hin):=by
 obtain ⟨hlen,hget⟩:=nc hi
 have hro: ∀{j i:Nat},ids[j]? =some i→bZ ρ ids j=ρ i:=fun {j i} hj=>by simp only [bZ,hj]
 refine ⟨?_,?_,?_⟩
 ·intro j b hb
  rw [na,Nat.zero_add] at hb
  cases hj:Hin[j]? with
  | none=>rw [hj] at hb;cases hb
  | some b0=>
   rw [hj] at hb
   simp only [Option.map_some,Option.some.injEq] at hb
   subst hb
   have hjl:j<ids.length:=by rw [hlen];exact (List.getElem?_eq_some_iff.1 hj).1
   obtain ⟨i,hji⟩: ∃i,ids[j]? =some i:=⟨_,List.getElem?_eq_getElem hjl⟩
   have hin:=hget j i b0 hji hj
   have hmem:i∈ids:=List.mem_of_getElem? hji
   have hY: ∀k,an ρ i=some k→k∈cB ρ ids:=fun k hk=>List.mem_filterMap.2 ⟨i,hmem,hk⟩
   cases hS:ak S.H i with
   | none=>rw [hS] at hin;unfold inO at hin;exact hin.elim
   | some a=>
    have hblk:=h.heap i a hS
    rw [hS] at hin
    have hmy: ∀k,an ρ i=some k→(c.lend (cB ρ ids)).mine k:=fun k hk=> .inr (hY k hk)
    unfold inO at hin
    split at hin
    ·rename_i T n g z l T' n' g' z' l' e
     cases e
     obtain ⟨rfl,rfl,rfl,hz,hml⟩:=hin
     obtain ⟨v,h1,h2,h3,h4,a,cap,es,h5⟩:=hblk
     exact ⟨v,(hro hji).trans h1,Ap (h2.chg (c.chg_lend _) (by simp)) hml,fun k hk=>hmy k (by rw [eF h1 es];exact hk),h4,a,cap,by rw [←ka hml];exact es,lz hz h5⟩
    ·rename_i n g d n' g' d' e
     cases e
     obtain ⟨rfl,rfl,hm⟩:=hin
     obtain ⟨b,h1,h2,h3⟩:=hblk
     have hb:an ρ i=some b:=by simp [an,h1]
     have hk:de ρ ids j=b:=by simp [de,hji,hb]
     simp only [gp,hk]
     obtain ⟨q1,T0,cs0,q2,q3,q4⟩:=h3
     exact ⟨(hro hji).trans h1,hmy b hb,q1,T0,cs0,q2,q3,bE (c.pub_lend _) (eG hm (sj h q4))⟩
    ·rename_i k0 n g d n' g' d' e
     cases e
     obtain ⟨rfl,rfl,hm⟩:=hin
     obtain ⟨h1,h2,h3⟩:=hblk
     have hb:an ρ i=some k0:=by simp [an,h1]
     have hk:de ρ ids j=k0:=by simp [de,hji,hb]
     simp only [gp,hk]
     obtain ⟨q1,T0,cs0,q2,q3,q4⟩:=h3
     exact ⟨(hro hji).trans h1,hmy k0 hb,q1,T0,cs0,q2,q3,bE (c.pub_lend _) (eG hm (sj h q4))⟩
    ·exact hin.elim
 ·intro j hj
  rw [sf] at hj
  simp only [bZ]
  rw [List.getElem?_eq_none (by omega)]
 ·intro j j' b b' k hne hj hj' hk hk'
  rw [na] at hj hj'
  have get: ∀{q:Nat} {x:Blk},(Hin[q]?).map (gp (de ρ ids (0+q)))=some x→ ∃i a,ids[q]? =some i∧ak S.H i=some a∧aZ a=true:=by
   intro q x hq
   cases hj:Hin[q]? with
   | none=>rw [hj] at hq;cases hq
   | some b0=>
    have hjl:q<ids.length:=by rw [hlen];exact (List.getElem?_eq_some_iff.1 hj).1
    have hji:ids[q]? =some ids[q]:=List.getElem?_eq_getElem hjl
    obtain ⟨a,h1,h2,_⟩:=pb (hget q _ b0 hji hj)
    exact ⟨_,a,hji,h1,h2⟩
  obtain ⟨i,a,g1,g2,g3⟩:=get hj
  obtain ⟨i',a',g1',g2',g3'⟩:=get hj'
  have hii:i≠i':=by
   rintro rfl
   exact hne (o8 hd g1 g1')
  have e1:an (bZ ρ ids) j=an ρ i:=blkOf_eq' (hro g1)
  have e2:an (bZ ρ ids) j'=an ρ i':=blkOf_eq' (hro g1')
  rw [e1] at hk
  rw [e2] at hk'
  exact h.sep i i' a a' k hii g2 g2' g3 g3' hk hk'
where blkOf_eq' {ρ ρ':Ro} {i j:Nat} (h:ρ' j=ρ i):an ρ' j=an ρ i:=by unfold an;rw [h]
end
end Go.Proofs.YtgealhhkngbkbaaGreatDoor
