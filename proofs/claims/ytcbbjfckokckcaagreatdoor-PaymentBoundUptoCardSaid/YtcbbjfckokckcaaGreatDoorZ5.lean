/- Texts of this proof, one after the other: VT, VA, T, L0, R0, R1, RT. -/
import Derived.Test.YtcbbjfckokckcaaGreatDoorZ4
set_option linter.unusedVariables false
set_option linter.unusedSimpArgs false
namespace Go.Proofs.YtcbbjfckokckcaaGreatDoor
open Go.RowKit
section
variable {E:Env}
def uy (E:Env) (f:FuncId) (T n:Nat) (g:Bool) (z:Option Bool) (l l':List V):Prop:=
 (∀aas w,(callFunc f aas).run E.P w= .ok (.enter f aas) w)∧ ∀(c:Cx) (v:Value),Gl E c→Own c T v (rV ro0 n g) l→(g=false→n=1)→(∃a cap,v= .slice a l.length cap∧zOk z a cap)→
  Calls E.P f #[v] c.w fun e w'=> ∃u c',e= .returned u∧rd ro0 c' (.tup []) u∧c'.w=w'∧c.chg (blk v) c'∧Own c' T v (rV ro0 n g) l'∧ ∃a cap,v= .slice a l'.length cap∧zOk none a cap
def atK (T n:Nat) (g:Bool) (l':List V):Exit→St→Prop
 | .ret,S=>ah S.F bN=some (.own 0)∧ ∃z,ah S.H 0=some (.own T n g z l')
 | .normal,S=>ah S.F bN=some (.own 0)∧ ∃z,ah S.H 0=some (.own T n g z l')
 | _,_=>False
theorem zy {T n:Nat} {g:Bool} {z:Option Bool} {l' l2:List V} {e:Exit} {S:St} (he:e= .ret∨e= .normal) (h1:ah S.F bN=some (.own 0)) (h2:ah S.H 0=some (.own T n g z l2)) (h3:l2=l'):atK T n g l' e S:=by
 subst h3
 rcases he with rfl|rfl<;>exact ⟨h1,z,h2⟩
theorem GE (hE:bk E) (hmo:E.P.follows .mixedOrders=true) {f:FuncId} {fn:Func} {code:Code} {T n0:Nat} {g:Bool} {z:Option Bool} {l l':List V} {n:Nat} (J:co) (hf:E.P.funcs[f]? =some fn) (hb:fn.body=some code) (hnt:fn.ntmps=n)
  (hsl:(er n code&&fu code&&decide (1≤n∧n≤bN)&&fn.results.isEmpty&& !(fn.name== "runtime.NumGoroutine"))=true)
  (h:l.length≤LEN→wfL l→wpA E J code (atK T n0 g l') ⟨[(0,.own 0),(bN,.own 0)],[(0,.own T n0 g z l)],1⟩):uy E f T n0 g z l l':=by
 simp only [Bool.and_eq_true,Bool.not_eq_true',decide_eq_true_eq] at hsl
 obtain ⟨⟨⟨⟨hs1,hs2⟩,hs3,hs4⟩,hs5⟩,hs6⟩:=hsl
 refine ⟨fun aas w=> ?_,fun c v hg ho h1 hz=> ?_⟩
 ·have hn: ¬fn.name= "runtime.NumGoroutine" :=by simpa using hs6
  simp [callFunc,hf,hb,hn]
 have hwf:wfL l:=by
  rcases ho.2 with ⟨_,_,rfl⟩|⟨g',cp,cur,e2,k1,k2,k3,k4,k5,k6⟩
  ·trivial
  ·exact oM (dG.2 k6)
 have hall:=h ho.1 hwf
 refine (callsIn_wide (n:=1)).1 (callsIn_of_wp_marks hf hb trivial ?_ rfl)
 -- the start
 let ys:List Nat:=(blk v).toList
 have hys: ∀k,blk v=some k↔k∈ys:=fun k=>by cases hv:blk v<;>simp [ys,hv,eq_comm]
 let c0:=c.lend ys
 let ρ0:Ro:=fun i=>if i=0 then some v else none
 have hv1:v.oneCell'=true:=by obtain ⟨a,cap,rfl,_⟩:=hz;rfl
 let hi:Nat→Value:=fun t=>if t=bN then v else undef
 let F0:Fm:=fun t=>if t<n then (#[v]++Array.replicate (n - 1) undef).getD t undef else hi t
 have hsz:(#[v]++Array.replicate (fn.ntmps - #[v].size) undef).size=n:=by simp [hnt];omega
 have hF0:F0 0=v:=by
  show (if 0<n then _ else _)=v
  rw [if_pos (by omega)]
  simp [Array.getD_eq_getD_getElem?,Array.getElem?_append]
 have hbk:blkOk c0 c0 ρ0 0 (.own T n0 g z l):=⟨v,rfl,ho.chg (c.chg_lend ys) (by simp),fun k hk=> .inr ((hys k).1 hk),h1,hz⟩
 have hS:bg E c0 c0 ρ0 ⟨[(0,.own 0),(bN,.own 0)],[(0,.own T n0 g z l)],1⟩ F0:=by
  refine ⟨⟨cm.refl _,hg.mono (c.pub_lend ys),fun t d ht=> ?_,fun i b hb=> ?_,fun i j bi bj k hij hi hj=> ?_⟩,fun i hi=> ?_⟩
  ·simp only [ah] at ht
   split at ht
   ·rename_i e;subst e;cases ht
    rw [hF0];exact ⟨rfl,hv1⟩
   ·split at ht
    ·rename_i e2 e;subst e;cases ht
     have:F0 bN=v:=by
      show (if bN<n then _ else if bN=bN then v else undef)=v
      rw [if_neg (by omega),if_pos rfl]
     rw [this];exact ⟨rfl,hv1⟩
    ·cases ht
  ·simp only [ah] at hb
   split at hb
   ·rename_i e;subst e;cases hb;exact hbk
   ·cases hb
  ·simp only [ah] at hi hj
   split at hi
   ·split at hj
    ·omega
    ·cases hj
   ·cases hi
  ·show (if i=0 then some v else none)=none
   have hi':1≤i:=hi
   rw [if_neg (by omega)]
 have hfr:Fr (mo:=⟨[],none,hi⟩) n F0 {tmps:= #[v]++Array.replicate (fn.ntmps - #[v].size) undef,defers:=[]}:=by
  refine @Fr.mk ⟨[],none,hi⟩ n F0 _ hsz rfl (fun t ht=> ?_) (fun t ht=> ?_)
  ·show _=(if t<n then _ else _)
   rw [if_pos ht];simp only [hnt];rfl
  ·show (if t<n then _ else hi t)=hi t
   rw [if_neg (by omega)]
 refine tX hE hmo code none hi c0 _ _ hs1 (.inr hs2) ?_ c0 ρ0 _ F0 _ [] hS hfr trivial hall
 rintro e a w ⟨c',ρ',S',F',ds,rfl,hS',hf',hd,hk⟩
 have key:ah S'.F bN=some (.own 0)→(∃z,ah S'.H 0=some (.own T n0 g z l'))→LeavesInM Fence.wide 1 E.P fn a.tmps (fun e w'=> ∃u c',e= .returned u∧rd ro0 c' (.tup []) u∧c'.w=w'∧c.chg (blk v) c'∧Own c' T v (rV ro0 n0 g) l'∧ ∃a cap,v= .slice a l'.length cap∧zOk none a cap) a.defers .returning c'.w:=by
  rintro hF ⟨z',hH⟩
  rw [hf'.df]
  refine nl hS' hd fun c2 hS2=> ?_
  have h3:=hS2.1.slot _ _ hF
  have h4:F' bN=v:=by rw [hf'.hg bN hs4];show (if bN=bN then v else undef)=v;rw [if_pos rfl]
  rw [h4] at h3
  obtain ⟨h5,_⟩:=(show _∧_ from h3)
  obtain ⟨v2,g1,g2,g3,g4,g5⟩:=hS2.1.heap 0 _ hH
  rw [h5] at g1;cases g1
  refine ⟨.tuple #[],?_,_,c2,rfl,⟨[],rfl,rfl⟩,rfl,?_,g2,by obtain ⟨a,cap,e,hz'⟩:=g5;exact ⟨a,cap,e,lq hz'⟩⟩
  ·have he:fn.results= #[]:=by simpa using hs5
   simp [results,he]
  ·have hs:=hS2.1.since
   refine ⟨hs.below.os,hs.below.tape,hs.below.output,hs.size,fun k hk hne=>hs.below.block k hk fun hy=>hne ((hys k).2 hy),fun k hk=>⟨fun h'=> ?_,fun h'=> ?_⟩,fun k hk=>ho.isX k hk⟩
   ·by_cases hX:k∈c.X
    ·exact hX
    ·exact absurd h' (hs.Xn k hk hX)
   ·by_cases hy:k∈ys
    ·exact g2.isX k ((hys k).2 hy)
    ·exact hs.X k h' hy
 cases e with
 | ret=>exact key hk.1 hk.2
 | normal=>exact key hk.1 hk.2
 | _=>exact hk.elim
theorem GF {J:co} {k:List Ct} {S:St} {f:FuncId} {d:Option Nat} {id T n:Nat} {g:Bool} {z:Option Bool} {l l':List V} (hc:uy E f T n g z l l') (hH:ah S.H id=some (.own T n g z l)) (h:aM E J k .normal (St.put {S with H:=cO S.H id (.own T n g none l')} d (.tup []))):ez E J (some (.fn f [])) (some [.own id]) S d k:=by
 refine .inr ⟨hc.1,_,.tup [],?_,fun _=>h⟩
 intro c0 c ρ F us hs hus
 simp only [List.append_nil,rdT] at hus
 obtain ⟨u,us',rfl,h1,rfl⟩:=hus
 obtain ⟨v,g1,g2,g3,g4,g5⟩:=hs.1.heap _ _ hH
 obtain ⟨h2,_⟩:=(show _∧_ from h1)
 rw [g1] at h2;cases h2
 refine (hc.2 c _ hs.1.gl g2 g4 g5).mono ?_
 rintro e w' ⟨x,c',rfl,hr,rfl,hch,ho,a,cap,e1,hz⟩
 have hbk:=dz g1 e1
 have:=yf hs (e:= .upd id (.own T n g none l')) (c':=c') (ρ':=ρ) ⟨_,hH,rfl,rfl⟩ ⟨by rw [hbk];exact hch,rfl,⟨_,g1,ho,g3,g4,a,cap,e1,hz⟩⟩
 exact ⟨x,c',ρ,rfl,rfl,lH this (cN (fun i v h=>by cases h) hr),trivial⟩
end
end Go.Proofs.YtcbbjfckokckcaaGreatDoor
namespace Go.Proofs.YtcbbjfckokckcaaGreatDoor
open Go.RowKit
class CM (E:outParam Env) {α:Type} (m:α) (f:outParam FuncId) (ws:outParam (List V)) (R:outParam (α→V)) (Hs:outParam (α→List Blk)):Prop where
  ok:bn E f ws (R m) (Hs m)
class DRD (id:Nat) (n m:outParam Nat) (wr:outParam (List Nat)) (wl:outParam (List (Nat×Nat))) (need:outParam (List (List Nat))) (ub:outParam (List (Nat×Nat))):Prop where
  ok:True
class CF {α:Type} (m:α) (P:outParam (α→Prop)):Prop where
  ok:P m
theorem cfU {α:Type} {x m:α} {P:α→Prop} (hx:x=m) [h:CF m P]:P x:=by subst hx;exact h.ok
theorem mpQ {a b:Prop} (h:a) (f:a→b:=by assumption):b:=f h
section
variable {E:Env} {J:co} {k:List Ct} {S:St} {α:Type} {f:FuncId} {ws:List V} {R:α→V} {Hs:α→List Blk}
theorem cmQ {m:α} (h: ∀r,m=r→bn E f ws (R r) (Hs r)):CM E m f ws R Hs:=⟨h m rfl⟩
theorem cmU {x m:α} (hx:x=m) [h:CM E m f ws R Hs]:bn E f ws (R x) (Hs x):=by subst hx;exact h.ok
theorem cmH {x m:α} (hx:x=m) (h:CM E m f ws R Hs):bn E f ws (R x) (Hs x):=by subst hx;exact h.ok
theorem GG {β:Type} {c:Bool} {a b r:β} (hM:(if c=true then a else b)=r) (h:c=true):a=r:=by rw [if_pos h] at hM;exact hM
theorem GH {β:Type} {c:Bool} {a b r:β} (hM:(if c=true then a else b)=r) (h:c=false):b=r:=by rw [if_neg (by rw [h];decide)] at hM;exact hM
theorem GI {r:Res} {d:Option Nat} (h:jr E J r S d k):jr E J r S d k:=h
theorem GJ {v:Option V} {vs:Option (List V)} {d:Option Nat} (h:ez E J v vs S d k):ez E J v vs S d k:=h
theorem GK {r:V} {H:List Blk} {o:Option (List V)} (h:kx E S r H o):kx E S r H o:=h
theorem lpP {K:St→Prop} (h:aM E J (.lp K::k) .normal S):aM E J (.lp K::k) .normal S:=h
theorem GL {id:Nat} {ops:Array Oper} (h:aM E J (.code (.region id ops true)::k) .normal S):aM E J (.code (.region id ops true)::k) .normal S:=h
theorem GM {id:Nat} {ops:Array Oper} {n m:Nat} {wr:List Nat} {wl:List (Nat×Nat)} {need:List (List Nat)} {ub:List (Nat×Nat)} [DRD id n m wr wl need ub] (hB:(wlB ops m wl&&iv n m ops wr need&&((List.range m).all fun i=>(need.getD i []).all fun j=>decide (j<i)))=true) (hU:ubB m need ub S.nx=true)
    (h:bW E ⟨J,S,wr,wl,need,ub,k⟩ m 0 ops.toList []):aM E J (.code (.region id ops true)::k) .normal S:=bO n m wr wl need ub hB hU h
section
variable {D:Dr} {m i:Nat} {l:List Oper} {L:List (Nat×bc)} {d:Option Nat}
theorem GN {nid:Nat} {r:Res} (h:cq E D m i l L d nid r):cq E D m i l L d nid r:=h
theorem GO {v:Option V} {vs:Option (List V)} (h:fy E D m i l L d S v vs):fy E D m i l L d S v vs:=h
end
theorem GP (k i:Nat) {n:Nat} {g:Bool} {z:Option Bool} {m:List V} (h:ah S.H k=some (.var 1 false (.own i))) (h2:ah S.H i=some (.pown n g z m)):
    ca E S ⟨S.F,cO S.H k (.var 1 false (.sl z n g m)),S.nx⟩:=by
  intro c0 c ρ F hs
  obtain ⟨v,h4,h5⟩:=hs.1.heap _ _ h2
  have hx: ∀u,rd ρ c (.own i) u→rd ρ c (.sl z n g m) u:=fun u hu=>by
    simp only [rd] at hu
    rw [hu.1] at h4;cases h4
    simpa only [rd] using h5
  obtain ⟨b0,g1,g2,g3⟩:=hs.1.heap _ _ h
  refine ⟨c,ρ,rfl,⟨hs.1.since,hs.1.gl,hs.1.slot,fun a b hb=> ?_,?_⟩,hs.2⟩
  · rw [cG] at hb
    split at hb
    · rename_i e';subst e';cases hb
      obtain ⟨hX,T',cs,hh,hsh,hrd⟩:=g3
      refine ⟨b0,g1,g2,hX,T',cs,hh,hsh,?_⟩
      exact hx _ hrd
    · exact hs.1.heap a b hb
  · intro a b ba bb q hab hba hbb hpa hpb hk hk'
    have back: ∀{x:Nat} {bx:Blk},ah (cO S.H k (.var 1 false (.sl z n g m))) x=some bx→aW bx=true→ ∃b',ah S.H x=some b'∧aW b'=true:=by
      intro x bx hx hp
      rw [cG] at hx
      split at hx
      · rename_i e;subst e;exact ⟨_,h,rfl⟩
      · exact ⟨bx,hx,hp⟩
    obtain ⟨ba',h1,h2'⟩:=back hba hpa
    obtain ⟨bb',h3,h4'⟩:=back hbb hpb
    exact hs.1.sep a b ba' bb' q hab h1 h3 h2' h4' hk hk'
theorem aV:True:=trivial
theorem zz {β:Type} [Inhabited β] {l:List β} {g:β→V} {i:Nat} (h:i<l.length) (d:V):elt (l.map g) i d=g (gt l (i:Int)):=bG (i:=(i:Int)) h d
end
theorem auQ {P:Prop} (h:P:=by
  repeat' (first
    | ((first|(with_reducible refine aB ?_ ?_)|(with_reducible refine dK ?_ ?_)|(with_reducible refine bK ?_ ?_)|(with_reducible refine gg ?_ ?_)|(with_reducible refine dM ?_ ?_))<;>(intro h0;(first|replace hM:=GG hM h0|replace hM:=GH hM h0);replace hF:=And.intro h0 hF;replace h0:=nzQ h0;(try have h1:=mpQ h0);(first|refine aa hF ?_|skip)))
    | (with_reducible refine GI ?_
       refine aO ?h9 ?_
       case h9=>exact omQ
       first
         | (rw [bG ?h9];case h9=>exact omQ)
         | (rw [zz ?h9];case h9=>exact omQ)
         | skip
       refine aa hF ?_)
    | (with_reducible refine GN ?_
       first
         | (refine cv ?h9 ?_;case h9=>exact omQ)
         | (refine E4 ?h9 (aC hF) ?_;case h9=>exact omQ)
         | (refine E5 ?h9 (aC hF) ?_;case h9=>exact omQ)
         | (refine np ?h9 (aC hF) ?_;case h9=>exact omQ)
         | (refine E6 ?h9 (aC hF) ?_;case h9=>exact omQ)
         | (refine pY ?h9 (aC hF) ?_;case h9=>exact omQ)
       first
         | (rw [bG ?h9];case h9=>exact omQ)
         | (rw [zz ?h9];case h9=>exact omQ)
         | skip
       refine aa hF ?_)
    | (with_reducible refine GJ ?_
       have hM0:=hM;clear hM;obtain ⟨x0,hx0,hM⟩:=ao hM0;clear hM0
       first
         | refine aH (cmU hx0) (aC hF) (aC hF) (fun hw0=> ?_)
         | refine gT (cmU hx0) (aC hF) (aC hF) (fun hw0=> ?_)
       replace hw0:=nzQ hw0
       try have hq0:=nzQ (cfU hx0)
       refine aa hF ?_)
    | (with_reducible refine GO ?_
       have hM0:=hM;clear hM;obtain ⟨x0,hx0,hM⟩:=ao hM0;clear hM0
       first
         | refine br (cmU hx0) (aC hF) (aC hF) ?_
         | refine br (bn.pub (cmU hx0)) (aC hF) (aC hF) ?_
         | refine yS (cmU hx0) (aC hF) (aC hF) ?_
       try have hq0:=nzQ (cfU hx0)
       refine aa hF ?_)
    | (with_reducible refine GL ?_
       refine GM (by kernel_rfl) (by exact alQ) ?_
       refine aa hF ?_)
    | (with_reducible refine GK ?_
       subst hM
       exact av (ax hF))
    | (with_reducible refine lpP ?_
       refine bT ?_ _ ?h1 ?h2 ?h3 ⟨_,rfl,?h4,?h5,bP hM ?h6⟩
       case h6=>assumption
       case h1=>omega
       case h2=>first|exact sbQ|exact zb (And.intro @bl (And.intro @bm hF))
       case h3=>first|exact sbQ|exact zb (And.intro @bl (And.intro @bm hF))
       case h4=>first|trivial|exact omQ
       case h5=>exact omQ))):P:=h
end Go.Proofs.YtcbbjfckokckcaaGreatDoor
namespace Go.Proofs.YtcbbjfckokckcaaGreatDoor
open Go.RowKit
structure bL where
 Payee:(List Int)
 Amount:Int
 Time:Int
 Number:Int
def eH:bL:={Payee:=[0,0,0,0,0,0,0,0,0,0,0,0,0,0,0,0,0,0,0,0,0,0,0,0,0,0,0,0,0,0,0,0],Amount:=(0:Int),Time:=(0:Int),Number:=(0:Int)}
instance:Inhabited bL:=⟨eH⟩
@[go_sem] theorem KZ:eH.Payee=[0,0,0,0,0,0,0,0,0,0,0,0,0,0,0,0,0,0,0,0,0,0,0,0,0,0,0,0,0,0,0,0]:=Eq.trans rfl rfl
@[go_sem] theorem K0:eH.Amount=(0:Int):=Eq.trans rfl rfl
@[go_sem] theorem K1:eH.Time=(0:Int):=Eq.trans rfl rfl
@[go_sem] theorem K2:eH.Number=(0:Int):=Eq.trans rfl rfl
structure ak where
 Kind:Int
 N:Int
 B:(List Int)
 L:(List ak)
def dB:ak:={Kind:=(0:Int),N:=(0:Int),B:=[],L:=[]}
instance:Inhabited ak:=⟨dB⟩
@[go_sem] theorem K3:dB.Kind=(0:Int):=Eq.trans rfl rfl
@[go_sem] theorem K6:dB.N=(0:Int):=Eq.trans rfl rfl
@[go_sem] theorem K7:dB.B=[]:=Eq.trans rfl rfl
@[go_sem] theorem K8:dB.L=[]:=Eq.trans rfl rfl
structure aN where
 b:(List Int)
 e:Int
def uz:aN:={b:=[],e:=(0:Int)}
instance:Inhabited aN:=⟨uz⟩
@[go_sem] theorem K_:uz.b=[]:=Eq.trans rfl rfl
@[go_sem] theorem La:uz.e=(0:Int):=Eq.trans rfl rfl
structure g8 where
 Z:Int
 A:Int
 B:Int
 R:Int
def kE:g8:={Z:=(0:Int),A:=(0:Int),B:=(0:Int),R:=(0:Int)}
instance:Inhabited g8:=⟨kE⟩
@[go_sem] theorem Lb:kE.Z=(0:Int):=Eq.trans rfl rfl
@[go_sem] theorem Lc:kE.A=(0:Int):=Eq.trans rfl rfl
@[go_sem] theorem Ld:kE.B=(0:Int):=Eq.trans rfl rfl
@[go_sem] theorem Le:kE.R=(0:Int):=Eq.trans rfl rfl
structure bD where
 Bank:Int
 Epoch:Int
 Denom:Int
 Depth:Int
 A:Int
 Root:(List Int)
 Sign:g8
def g9:bD:={Bank:=(0:Int),Epoch:=(0:Int),Denom:=(0:Int),Depth:=(0:Int),A:=(0:Int),Root:=[0,0,0,0,0,0,0,0,0,0,0,0,0,0,0,0,0,0,0,0,0,0,0,0,0,0,0,0,0,0,0,0],Sign:=kE}
instance:Inhabited bD:=⟨g9⟩
@[go_sem] theorem Lf:g9.Bank=(0:Int):=Eq.trans rfl rfl
@[go_sem] theorem Lg:g9.Epoch=(0:Int):=Eq.trans rfl rfl
@[go_sem] theorem Lh:g9.Denom=(0:Int):=Eq.trans rfl rfl
@[go_sem] theorem Li:g9.Depth=(0:Int):=Eq.trans rfl rfl
@[go_sem] theorem Lj:g9.A=(0:Int):=Eq.trans rfl rfl
@[go_sem] theorem Lk:g9.Root=[0,0,0,0,0,0,0,0,0,0,0,0,0,0,0,0,0,0,0,0,0,0,0,0,0,0,0,0,0,0,0,0]:=Eq.trans rfl rfl
@[go_sem] theorem Ll:g9.Sign=kE:=Eq.trans rfl rfl
structure gy where
 Level:Int
 Index:Int
def nH:gy:={Level:=(0:Int),Index:=(0:Int)}
instance:Inhabited gy:=⟨nH⟩
@[go_sem] theorem Lm:nH.Level=(0:Int):=Eq.trans rfl rfl
@[go_sem] theorem Ln:nH.Index=(0:Int):=Eq.trans rfl rfl
structure dZ where
 Payee:(List Int)
 Time:Int
 Number:Int
def kF:dZ:={Payee:=[0,0,0,0,0,0,0,0,0,0,0,0,0,0,0,0,0,0,0,0,0,0,0,0,0,0,0,0,0,0,0,0],Time:=(0:Int),Number:=(0:Int)}
instance:Inhabited dZ:=⟨kF⟩
@[go_sem] theorem Lo:kF.Payee=[0,0,0,0,0,0,0,0,0,0,0,0,0,0,0,0,0,0,0,0,0,0,0,0,0,0,0,0,0,0,0,0]:=Eq.trans rfl rfl
@[go_sem] theorem Lp:kF.Time=(0:Int):=Eq.trans rfl rfl
@[go_sem] theorem Lq:kF.Number=(0:Int):=Eq.trans rfl rfl
structure fE where
 B:Int
 R1:Int
 R2:Int
def qB:fE:={B:=(0:Int),R1:=(0:Int),R2:=(0:Int)}
instance:Inhabited fE:=⟨qB⟩
@[go_sem] theorem Lr:qB.B=(0:Int):=Eq.trans rfl rfl
@[go_sem] theorem Ls:qB.R1=(0:Int):=Eq.trans rfl rfl
@[go_sem] theorem Lt:qB.R2=(0:Int):=Eq.trans rfl rfl
structure g_ where
 Index:Int
 L:(List (List Int))
def nI:g_:={Index:=(0:Int),L:=[]}
instance:Inhabited g_:=⟨nI⟩
@[go_sem] theorem Lu:nI.Index=(0:Int):=Eq.trans rfl rfl
@[go_sem] theorem Lv:nI.L=[]:=Eq.trans rfl rfl
structure aR where
 Coin:bD
 Node:gy
 Context:dZ
 Leaves:(List fE)
 Path:g_
def hO:aR:={Coin:=g9,Node:=nH,Context:=kF,Leaves:=[],Path:=nI}
instance:Inhabited aR:=⟨hO⟩
@[go_sem] theorem Lw:hO.Coin=g9:=Eq.trans rfl rfl
@[go_sem] theorem Lx:hO.Node=nH:=Eq.trans rfl rfl
@[go_sem] theorem Ly:hO.Context=kF:=Eq.trans rfl rfl
@[go_sem] theorem Lz:hO.Leaves=[]:=Eq.trans rfl rfl
@[go_sem] theorem LA:hO.Path=nI:=Eq.trans rfl rfl
structure ce where
 First:aR
 L:(List aR)
def uA:ce:={First:=hO,L:=[]}
instance:Inhabited ce:=⟨uA⟩
@[go_sem] theorem LB:uA.First=hO:=Eq.trans rfl rfl
@[go_sem] theorem LC:uA.L=[]:=Eq.trans rfl rfl
structure fF where
 A:(List Int)
 C:Int
 Z:(List Int)
def l3:fF:={A:=[],C:=(0:Int),Z:=[]}
instance:Inhabited fF:=⟨l3⟩
@[go_sem] theorem LD:l3.A=[]:=Eq.trans rfl rfl
@[go_sem] theorem LE:l3.C=(0:Int):=Eq.trans rfl rfl
@[go_sem] theorem LF:l3.Z=[]:=Eq.trans rfl rfl
structure cU where
 E1:Int
 E2:Int
 Proof:fF
def qC:cU:={E1:=(0:Int),E2:=(0:Int),Proof:=l3}
instance:Inhabited cU:=⟨qC⟩
@[go_sem] theorem LG:qC.E1=(0:Int):=Eq.trans rfl rfl
@[go_sem] theorem LH:qC.E2=(0:Int):=Eq.trans rfl rfl
@[go_sem] theorem LI:qC.Proof=l3:=Eq.trans rfl rfl
structure b9 where
 Number:Int
 Spends:(List aR)
 Chains:(List ce)
 Escrow:(List cU)
def kG:b9:={Number:=(0:Int),Spends:=[],Chains:=[],Escrow:=[]}
instance:Inhabited b9:=⟨kG⟩
@[go_sem] theorem LJ:kG.Number=(0:Int):=Eq.trans rfl rfl
@[go_sem] theorem LK:kG.Spends=[]:=Eq.trans rfl rfl
@[go_sem] theorem LL:kG.Chains=[]:=Eq.trans rfl rfl
@[go_sem] theorem LM:kG.Escrow=[]:=Eq.trans rfl rfl
structure eI where
 Value:Int
 Depth:Int
def kH:eI:={Value:=(0:Int),Depth:=(0:Int)}
instance:Inhabited eI:=⟨kH⟩
@[go_sem] theorem LN:kH.Value=(0:Int):=Eq.trans rfl rfl
@[go_sem] theorem LO:kH.Depth=(0:Int):=Eq.trans rfl rfl
structure aP where
 P:Int
 Q:Int
 G:Int
def l4:aP:={P:=(0:Int),Q:=(0:Int),G:=(0:Int)}
instance:Inhabited aP:=⟨l4⟩
@[go_sem] theorem LP:l4.P=(0:Int):=Eq.trans rfl rfl
@[go_sem] theorem LQ:l4.Q=(0:Int):=Eq.trans rfl rfl
@[go_sem] theorem LR:l4.G=(0:Int):=Eq.trans rfl rfl
structure bd where
 Group:aP
 G1:Int
 G2:Int
 H:Int
def kI:bd:={Group:=l4,G1:=(0:Int),G2:=(0:Int),H:=(0:Int)}
instance:Inhabited bd:=⟨kI⟩
@[go_sem] theorem LS:kI.Group=l4:=Eq.trans rfl rfl
@[go_sem] theorem LT:kI.G1=(0:Int):=Eq.trans rfl rfl
@[go_sem] theorem LU:kI.G2=(0:Int):=Eq.trans rfl rfl
@[go_sem] theorem LV:kI.H=(0:Int):=Eq.trans rfl rfl
structure hP where
 H:Int
 H1:Int
 H2:Int
def l5:hP:={H:=(0:Int),H1:=(0:Int),H2:=(0:Int)}
instance:Inhabited hP:=⟨l5⟩
@[go_sem] theorem LW:l5.H=(0:Int):=Eq.trans rfl rfl
@[go_sem] theorem LX:l5.H1=(0:Int):=Eq.trans rfl rfl
@[go_sem] theorem LY:l5.H2=(0:Int):=Eq.trans rfl rfl
structure bB where
 Bank:Int
 Epoch:Int
 Denom:Int
 Value:Int
 Depth:Int
 Key:hP
 From:Int
 Until:Int
 Final:Int
def fG:bB:={Bank:=(0:Int),Epoch:=(0:Int),Denom:=(0:Int),Value:=(0:Int),Depth:=(0:Int),Key:=l5,From:=(0:Int),Until:=(0:Int),Final:=(0:Int)}
instance:Inhabited bB:=⟨fG⟩
@[go_sem] theorem LZ:fG.Bank=(0:Int):=Eq.trans rfl rfl
@[go_sem] theorem L2:fG.Epoch=(0:Int):=Eq.trans rfl rfl
@[go_sem] theorem L3:fG.Denom=(0:Int):=Eq.trans rfl rfl
@[go_sem] theorem L4:fG.Value=(0:Int):=Eq.trans rfl rfl
@[go_sem] theorem L5:fG.Depth=(0:Int):=Eq.trans rfl rfl
@[go_sem] theorem L6:fG.Key=l5:=Eq.trans rfl rfl
@[go_sem] theorem L7:fG.From=(0:Int):=Eq.trans rfl rfl
@[go_sem] theorem L8:fG.Until=(0:Int):=Eq.trans rfl rfl
@[go_sem] theorem L9:fG.Final=(0:Int):=Eq.trans rfl rfl
structure bU where
 b:bd
 l:(List bB)
 y:Int
 v:bL
 p:b9
def l6:bU:={b:=kI,l:=[],y:=(0:Int),v:=eH,p:=kG}
instance:Inhabited bU:=⟨l6⟩
@[go_sem] theorem L_:l6.b=kI:=Eq.trans rfl rfl
@[go_sem] theorem Ma:l6.l=[]:=Eq.trans rfl rfl
@[go_sem] theorem Mb:l6.y=(0:Int):=Eq.trans rfl rfl
@[go_sem] theorem Mc:l6.v=eH:=Eq.trans rfl rfl
@[go_sem] theorem Md:l6.p=kG:=Eq.trans rfl rfl
structure dC where
 l:(List ak)
def kJ:dC:={l:=[]}
instance:Inhabited dC:=⟨kJ⟩
@[go_sem] theorem Me:kJ.l=[]:=Eq.trans rfl rfl
structure cJ where
 A:Int
 B:Int
 Spend:aR
 Leaf:Int
def nJ:cJ:={A:=(0:Int),B:=(0:Int),Spend:=hO,Leaf:=(0:Int)}
instance:Inhabited cJ:=⟨nJ⟩
@[go_sem] theorem Mf:nJ.A=(0:Int):=Eq.trans rfl rfl
@[go_sem] theorem Mg:nJ.B=(0:Int):=Eq.trans rfl rfl
@[go_sem] theorem Mh:nJ.Spend=hO:=Eq.trans rfl rfl
@[go_sem] theorem Mi:nJ.Leaf=(0:Int):=Eq.trans rfl rfl
structure ct where
 Y:(List Int)
 Bases:(List (List Int))
def jA:ct:={Y:=[],Bases:=[]}
instance:Inhabited ct:=⟨jA⟩
@[go_sem] theorem Mj:jA.Y=[]:=Eq.trans rfl rfl
@[go_sem] theorem Mk:jA.Bases=[]:=Eq.trans rfl rfl
structure bY where
 State:(List Int)
 Count:Int
def dD:bY:={State:=[0,0,0,0,0,0,0,0,0,0,0,0,0,0,0,0,0,0,0,0,0,0,0,0,0,0,0,0,0,0,0,0],Count:=(0:Int)}
instance:Inhabited bY:=⟨dD⟩
@[go_sem] theorem Ml:dD.State=[0,0,0,0,0,0,0,0,0,0,0,0,0,0,0,0,0,0,0,0,0,0,0,0,0,0,0,0,0,0,0,0]:=Eq.trans rfl rfl
@[go_sem] theorem Mm:dD.Count=(0:Int):=Eq.trans rfl rfl
def cA (x:bL):V:= .agg (.int .u8 (gt x.Payee 0):: .int .u8 (gt x.Payee 1):: .int .u8 (gt x.Payee 2):: .int .u8 (gt x.Payee 3):: .int .u8 (gt x.Payee 4):: .int .u8 (gt x.Payee 5):: .int .u8 (gt x.Payee 6):: .int .u8 (gt x.Payee 7):: .int .u8 (gt x.Payee 8):: .int .u8 (gt x.Payee 9):: .int .u8 (gt x.Payee 10):: .int .u8 (gt x.Payee 11):: .int .u8 (gt x.Payee 12):: .int .u8 (gt x.Payee 13):: .int .u8 (gt x.Payee 14):: .int .u8 (gt x.Payee 15):: .int .u8 (gt x.Payee 16):: .int .u8 (gt x.Payee 17):: .int .u8 (gt x.Payee 18):: .int .u8 (gt x.Payee 19):: .int .u8 (gt x.Payee 20):: .int .u8 (gt x.Payee 21):: .int .u8 (gt x.Payee 22):: .int .u8 (gt x.Payee 23):: .int .u8 (gt x.Payee 24):: .int .u8 (gt x.Payee 25):: .int .u8 (gt x.Payee 26):: .int .u8 (gt x.Payee 27):: .int .u8 (gt x.Payee 28):: .int .u8 (gt x.Payee 29):: .int .u8 (gt x.Payee 30):: .int .u8 (gt x.Payee 31):: .int .i64 x.Amount:: .int .i64 x.Time:: .int .i64 x.Number::[])
attribute [go_sem] cA
def a6 (x:ak):V:= .agg [.int .i64 x.Kind,.int .i64 x.N,.sl none 1 false (x.B.map (V.int .u8)),.sl none 4 true (x.L.map a6)]
termination_by SizeOf.sizeOf x
decreasing_by
 rename_i y h
 have:=List.sizeOf_lt_of_mem h
 cases x
 simp at*
 omega
attribute [go_sem] a6
def dE (a b:bL):Bool:=((gt a.Payee 0)==(gt b.Payee 0)&&((gt a.Payee 1)==(gt b.Payee 1)&&((gt a.Payee 2)==(gt b.Payee 2)&&((gt a.Payee 3)==(gt b.Payee 3)&&((gt a.Payee 4)==(gt b.Payee 4)&&((gt a.Payee 5)==(gt b.Payee 5)&&((gt a.Payee 6)==(gt b.Payee 6)&&((gt a.Payee 7)==(gt b.Payee 7)&&((gt a.Payee 8)==(gt b.Payee 8)&&((gt a.Payee 9)==(gt b.Payee 9)&&((gt a.Payee 10)==(gt b.Payee 10)&&((gt a.Payee 11)==(gt b.Payee 11)&&((gt a.Payee 12)==(gt b.Payee 12)&&((gt a.Payee 13)==(gt b.Payee 13)&&((gt a.Payee 14)==(gt b.Payee 14)&&((gt a.Payee 15)==(gt b.Payee 15)&&((gt a.Payee 16)==(gt b.Payee 16)&&((gt a.Payee 17)==(gt b.Payee 17)&&((gt a.Payee 18)==(gt b.Payee 18)&&((gt a.Payee 19)==(gt b.Payee 19)&&((gt a.Payee 20)==(gt b.Payee 20)&&((gt a.Payee 21)==(gt b.Payee 21)&&((gt a.Payee 22)==(gt b.Payee 22)&&((gt a.Payee 23)==(gt b.Payee 23)&&((gt a.Payee 24)==(gt b.Payee 24)&&((gt a.Payee 25)==(gt b.Payee 25)&&((gt a.Payee 26)==(gt b.Payee 26)&&((gt a.Payee 27)==(gt b.Payee 27)&&((gt a.Payee 28)==(gt b.Payee 28)&&((gt a.Payee 29)==(gt b.Payee 29)&&((gt a.Payee 30)==(gt b.Payee 30)&&((gt a.Payee 31)==(gt b.Payee 31)&&(a.Amount==b.Amount&&(a.Time==b.Time&&a.Number==b.Number))))))))))))))))))))))))))))))))))
attribute [go_sem] dE
def eJ (x:fE):V:= .agg [.int .i64 x.B,.int .i64 x.R1,.int .i64 x.R2]
attribute [go_sem] eJ
def aI (l:(List Int)):V:= .agg (.int .u8 (gt l 0):: .int .u8 (gt l 1):: .int .u8 (gt l 2):: .int .u8 (gt l 3):: .int .u8 (gt l 4):: .int .u8 (gt l 5):: .int .u8 (gt l 6):: .int .u8 (gt l 7):: .int .u8 (gt l 8):: .int .u8 (gt l 9):: .int .u8 (gt l 10):: .int .u8 (gt l 11):: .int .u8 (gt l 12):: .int .u8 (gt l 13):: .int .u8 (gt l 14):: .int .u8 (gt l 15):: .int .u8 (gt l 16):: .int .u8 (gt l 17):: .int .u8 (gt l 18):: .int .u8 (gt l 19):: .int .u8 (gt l 20):: .int .u8 (gt l 21):: .int .u8 (gt l 22):: .int .u8 (gt l 23):: .int .u8 (gt l 24):: .int .u8 (gt l 25):: .int .u8 (gt l 26):: .int .u8 (gt l 27):: .int .u8 (gt l 28):: .int .u8 (gt l 29):: .int .u8 (gt l 30):: .int .u8 (gt l 31)::[])
attribute [go_sem] aI
def aY (x:aR):V:= .agg (.int .i64 x.Coin.Bank:: .int .i64 x.Coin.Epoch:: .int .i64 x.Coin.Denom:: .int .i64 x.Coin.Depth:: .int .i64 x.Coin.A:: .int .u8 (gt x.Coin.Root 0):: .int .u8 (gt x.Coin.Root 1):: .int .u8 (gt x.Coin.Root 2):: .int .u8 (gt x.Coin.Root 3):: .int .u8 (gt x.Coin.Root 4):: .int .u8 (gt x.Coin.Root 5):: .int .u8 (gt x.Coin.Root 6):: .int .u8 (gt x.Coin.Root 7):: .int .u8 (gt x.Coin.Root 8):: .int .u8 (gt x.Coin.Root 9):: .int .u8 (gt x.Coin.Root 10):: .int .u8 (gt x.Coin.Root 11):: .int .u8 (gt x.Coin.Root 12):: .int .u8 (gt x.Coin.Root 13):: .int .u8 (gt x.Coin.Root 14):: .int .u8 (gt x.Coin.Root 15):: .int .u8 (gt x.Coin.Root 16):: .int .u8 (gt x.Coin.Root 17):: .int .u8 (gt x.Coin.Root 18):: .int .u8 (gt x.Coin.Root 19):: .int .u8 (gt x.Coin.Root 20):: .int .u8 (gt x.Coin.Root 21):: .int .u8 (gt x.Coin.Root 22):: .int .u8 (gt x.Coin.Root 23):: .int .u8 (gt x.Coin.Root 24):: .int .u8 (gt x.Coin.Root 25):: .int .u8 (gt x.Coin.Root 26):: .int .u8 (gt x.Coin.Root 27):: .int .u8 (gt x.Coin.Root 28):: .int .u8 (gt x.Coin.Root 29):: .int .u8 (gt x.Coin.Root 30):: .int .u8 (gt x.Coin.Root 31):: .int .i64 x.Coin.Sign.Z:: .int .i64 x.Coin.Sign.A:: .int .i64 x.Coin.Sign.B:: .int .i64 x.Coin.Sign.R:: .int .i64 x.Node.Level:: .int .i64 x.Node.Index:: .int .u8 (gt x.Context.Payee 0):: .int .u8 (gt x.Context.Payee 1):: .int .u8 (gt x.Context.Payee 2):: .int .u8 (gt x.Context.Payee 3):: .int .u8 (gt x.Context.Payee 4):: .int .u8 (gt x.Context.Payee 5):: .int .u8 (gt x.Context.Payee 6):: .int .u8 (gt x.Context.Payee 7):: .int .u8 (gt x.Context.Payee 8):: .int .u8 (gt x.Context.Payee 9):: .int .u8 (gt x.Context.Payee 10):: .int .u8 (gt x.Context.Payee 11):: .int .u8 (gt x.Context.Payee 12):: .int .u8 (gt x.Context.Payee 13):: .int .u8 (gt x.Context.Payee 14):: .int .u8 (gt x.Context.Payee 15):: .int .u8 (gt x.Context.Payee 16):: .int .u8 (gt x.Context.Payee 17):: .int .u8 (gt x.Context.Payee 18):: .int .u8 (gt x.Context.Payee 19):: .int .u8 (gt x.Context.Payee 20):: .int .u8 (gt x.Context.Payee 21):: .int .u8 (gt x.Context.Payee 22):: .int .u8 (gt x.Context.Payee 23):: .int .u8 (gt x.Context.Payee 24):: .int .u8 (gt x.Context.Payee 25):: .int .u8 (gt x.Context.Payee 26):: .int .u8 (gt x.Context.Payee 27):: .int .u8 (gt x.Context.Payee 28):: .int .u8 (gt x.Context.Payee 29):: .int .u8 (gt x.Context.Payee 30):: .int .u8 (gt x.Context.Payee 31):: .int .i64 x.Context.Time:: .int .i64 x.Context.Number:: .sl none 3 true (x.Leaves.map eJ):: .int .i64 x.Path.Index:: .sl none 32 true (x.Path.L.map aI)::[])
attribute [go_sem] aY
def uB (x:g8):V:= .agg [.int .i64 x.Z,.int .i64 x.A,.int .i64 x.B,.int .i64 x.R]
attribute [go_sem] uB
def dj (x:bD):V:= .agg (.int .i64 x.Bank:: .int .i64 x.Epoch:: .int .i64 x.Denom:: .int .i64 x.Depth:: .int .i64 x.A:: .int .u8 (gt x.Root 0):: .int .u8 (gt x.Root 1):: .int .u8 (gt x.Root 2):: .int .u8 (gt x.Root 3):: .int .u8 (gt x.Root 4):: .int .u8 (gt x.Root 5):: .int .u8 (gt x.Root 6):: .int .u8 (gt x.Root 7):: .int .u8 (gt x.Root 8):: .int .u8 (gt x.Root 9):: .int .u8 (gt x.Root 10):: .int .u8 (gt x.Root 11):: .int .u8 (gt x.Root 12):: .int .u8 (gt x.Root 13):: .int .u8 (gt x.Root 14):: .int .u8 (gt x.Root 15):: .int .u8 (gt x.Root 16):: .int .u8 (gt x.Root 17):: .int .u8 (gt x.Root 18):: .int .u8 (gt x.Root 19):: .int .u8 (gt x.Root 20):: .int .u8 (gt x.Root 21):: .int .u8 (gt x.Root 22):: .int .u8 (gt x.Root 23):: .int .u8 (gt x.Root 24):: .int .u8 (gt x.Root 25):: .int .u8 (gt x.Root 26):: .int .u8 (gt x.Root 27):: .int .u8 (gt x.Root 28):: .int .u8 (gt x.Root 29):: .int .u8 (gt x.Root 30):: .int .u8 (gt x.Root 31):: .int .i64 x.Sign.Z:: .int .i64 x.Sign.A:: .int .i64 x.Sign.B:: .int .i64 x.Sign.R::[])
attribute [go_sem] dj
def uC (x:gy):V:= .agg [.int .i64 x.Level,.int .i64 x.Index]
attribute [go_sem] uC
def kK (x:dZ):V:= .agg (.int .u8 (gt x.Payee 0):: .int .u8 (gt x.Payee 1):: .int .u8 (gt x.Payee 2):: .int .u8 (gt x.Payee 3):: .int .u8 (gt x.Payee 4):: .int .u8 (gt x.Payee 5):: .int .u8 (gt x.Payee 6):: .int .u8 (gt x.Payee 7):: .int .u8 (gt x.Payee 8):: .int .u8 (gt x.Payee 9):: .int .u8 (gt x.Payee 10):: .int .u8 (gt x.Payee 11):: .int .u8 (gt x.Payee 12):: .int .u8 (gt x.Payee 13):: .int .u8 (gt x.Payee 14):: .int .u8 (gt x.Payee 15):: .int .u8 (gt x.Payee 16):: .int .u8 (gt x.Payee 17):: .int .u8 (gt x.Payee 18):: .int .u8 (gt x.Payee 19):: .int .u8 (gt x.Payee 20):: .int .u8 (gt x.Payee 21):: .int .u8 (gt x.Payee 22):: .int .u8 (gt x.Payee 23):: .int .u8 (gt x.Payee 24):: .int .u8 (gt x.Payee 25):: .int .u8 (gt x.Payee 26):: .int .u8 (gt x.Payee 27):: .int .u8 (gt x.Payee 28):: .int .u8 (gt x.Payee 29):: .int .u8 (gt x.Payee 30):: .int .u8 (gt x.Payee 31):: .int .i64 x.Time:: .int .i64 x.Number::[])
attribute [go_sem] kK
def uD (x:g_):V:= .agg [.int .i64 x.Index,.sl none 32 true (x.L.map aI)]
attribute [go_sem] uD
def bz (x:ce):V:= .agg (.int .i64 x.First.Coin.Bank:: .int .i64 x.First.Coin.Epoch:: .int .i64 x.First.Coin.Denom:: .int .i64 x.First.Coin.Depth:: .int .i64 x.First.Coin.A:: .int .u8 (gt x.First.Coin.Root 0):: .int .u8 (gt x.First.Coin.Root 1):: .int .u8 (gt x.First.Coin.Root 2):: .int .u8 (gt x.First.Coin.Root 3):: .int .u8 (gt x.First.Coin.Root 4):: .int .u8 (gt x.First.Coin.Root 5):: .int .u8 (gt x.First.Coin.Root 6):: .int .u8 (gt x.First.Coin.Root 7):: .int .u8 (gt x.First.Coin.Root 8):: .int .u8 (gt x.First.Coin.Root 9):: .int .u8 (gt x.First.Coin.Root 10):: .int .u8 (gt x.First.Coin.Root 11):: .int .u8 (gt x.First.Coin.Root 12):: .int .u8 (gt x.First.Coin.Root 13):: .int .u8 (gt x.First.Coin.Root 14):: .int .u8 (gt x.First.Coin.Root 15):: .int .u8 (gt x.First.Coin.Root 16):: .int .u8 (gt x.First.Coin.Root 17):: .int .u8 (gt x.First.Coin.Root 18):: .int .u8 (gt x.First.Coin.Root 19):: .int .u8 (gt x.First.Coin.Root 20):: .int .u8 (gt x.First.Coin.Root 21):: .int .u8 (gt x.First.Coin.Root 22):: .int .u8 (gt x.First.Coin.Root 23):: .int .u8 (gt x.First.Coin.Root 24):: .int .u8 (gt x.First.Coin.Root 25):: .int .u8 (gt x.First.Coin.Root 26):: .int .u8 (gt x.First.Coin.Root 27):: .int .u8 (gt x.First.Coin.Root 28):: .int .u8 (gt x.First.Coin.Root 29):: .int .u8 (gt x.First.Coin.Root 30):: .int .u8 (gt x.First.Coin.Root 31):: .int .i64 x.First.Coin.Sign.Z:: .int .i64 x.First.Coin.Sign.A:: .int .i64 x.First.Coin.Sign.B:: .int .i64 x.First.Coin.Sign.R:: .int .i64 x.First.Node.Level:: .int .i64 x.First.Node.Index:: .int .u8 (gt x.First.Context.Payee 0):: .int .u8 (gt x.First.Context.Payee 1):: .int .u8 (gt x.First.Context.Payee 2):: .int .u8 (gt x.First.Context.Payee 3):: .int .u8 (gt x.First.Context.Payee 4):: .int .u8 (gt x.First.Context.Payee 5):: .int .u8 (gt x.First.Context.Payee 6):: .int .u8 (gt x.First.Context.Payee 7):: .int .u8 (gt x.First.Context.Payee 8):: .int .u8 (gt x.First.Context.Payee 9):: .int .u8 (gt x.First.Context.Payee 10):: .int .u8 (gt x.First.Context.Payee 11):: .int .u8 (gt x.First.Context.Payee 12):: .int .u8 (gt x.First.Context.Payee 13):: .int .u8 (gt x.First.Context.Payee 14):: .int .u8 (gt x.First.Context.Payee 15):: .int .u8 (gt x.First.Context.Payee 16):: .int .u8 (gt x.First.Context.Payee 17):: .int .u8 (gt x.First.Context.Payee 18):: .int .u8 (gt x.First.Context.Payee 19):: .int .u8 (gt x.First.Context.Payee 20):: .int .u8 (gt x.First.Context.Payee 21):: .int .u8 (gt x.First.Context.Payee 22):: .int .u8 (gt x.First.Context.Payee 23):: .int .u8 (gt x.First.Context.Payee 24):: .int .u8 (gt x.First.Context.Payee 25):: .int .u8 (gt x.First.Context.Payee 26):: .int .u8 (gt x.First.Context.Payee 27):: .int .u8 (gt x.First.Context.Payee 28):: .int .u8 (gt x.First.Context.Payee 29):: .int .u8 (gt x.First.Context.Payee 30):: .int .u8 (gt x.First.Context.Payee 31):: .int .i64 x.First.Context.Time:: .int .i64 x.First.Context.Number:: .sl none 3 true (x.First.Leaves.map eJ):: .int .i64 x.First.Path.Index:: .sl none 32 true (x.First.Path.L.map aI):: .sl none 80 true (x.L.map aY)::[])
attribute [go_sem] bz
def bH (x:cU):V:= .agg [.int .i64 x.E1,.int .i64 x.E2,.sl none 1 false (x.Proof.A.map (V.int .i64)),.int .i64 x.Proof.C,.sl none 1 false (x.Proof.Z.map (V.int .i64))]
attribute [go_sem] bH
def uE (x:fF):V:= .agg [.sl none 1 false (x.A.map (V.int .i64)),.int .i64 x.C,.sl none 1 false (x.Z.map (V.int .i64))]
attribute [go_sem] uE
def jB (x:b9):V:= .agg [.int .i64 x.Number,.sl none 80 true (x.Spends.map aY),.sl none 81 true (x.Chains.map bz),.sl none 5 true (x.Escrow.map bH)]
attribute [go_sem] jB
def nK (a b:eI):Bool:=(a.Value==b.Value&&a.Depth==b.Depth)
attribute [go_sem] nK
def nL (x:eI):V:= .agg [.int .i64 x.Value,.int .i64 x.Depth]
attribute [go_sem] nL
def bQ (x:bd):V:= .agg [.int .i64 x.Group.P,.int .i64 x.Group.Q,.int .i64 x.Group.G,.int .i64 x.G1,.int .i64 x.G2,.int .i64 x.H]
attribute [go_sem] bQ
def bR (x:bB):V:= .agg [.int .i64 x.Bank,.int .i64 x.Epoch,.int .i64 x.Denom,.int .i64 x.Value,.int .i64 x.Depth,.int .i64 x.Key.H,.int .i64 x.Key.H1,.int .i64 x.Key.H2,.int .i64 x.From,.int .i64 x.Until,.int .i64 x.Final]
attribute [go_sem] bR
def cf (x:bU):V:= .agg (.int .i64 x.b.Group.P:: .int .i64 x.b.Group.Q:: .int .i64 x.b.Group.G:: .int .i64 x.b.G1:: .int .i64 x.b.G2:: .int .i64 x.b.H:: .sl none 11 true (x.l.map bR):: .int .i64 x.y:: .int .u8 (gt x.v.Payee 0):: .int .u8 (gt x.v.Payee 1):: .int .u8 (gt x.v.Payee 2):: .int .u8 (gt x.v.Payee 3):: .int .u8 (gt x.v.Payee 4):: .int .u8 (gt x.v.Payee 5):: .int .u8 (gt x.v.Payee 6):: .int .u8 (gt x.v.Payee 7):: .int .u8 (gt x.v.Payee 8):: .int .u8 (gt x.v.Payee 9):: .int .u8 (gt x.v.Payee 10):: .int .u8 (gt x.v.Payee 11):: .int .u8 (gt x.v.Payee 12):: .int .u8 (gt x.v.Payee 13):: .int .u8 (gt x.v.Payee 14):: .int .u8 (gt x.v.Payee 15):: .int .u8 (gt x.v.Payee 16):: .int .u8 (gt x.v.Payee 17):: .int .u8 (gt x.v.Payee 18):: .int .u8 (gt x.v.Payee 19):: .int .u8 (gt x.v.Payee 20):: .int .u8 (gt x.v.Payee 21):: .int .u8 (gt x.v.Payee 22):: .int .u8 (gt x.v.Payee 23):: .int .u8 (gt x.v.Payee 24):: .int .u8 (gt x.v.Payee 25):: .int .u8 (gt x.v.Payee 26):: .int .u8 (gt x.v.Payee 27):: .int .u8 (gt x.v.Payee 28):: .int .u8 (gt x.v.Payee 29):: .int .u8 (gt x.v.Payee 30):: .int .u8 (gt x.v.Payee 31):: .int .i64 x.v.Amount:: .int .i64 x.v.Time:: .int .i64 x.v.Number:: .int .i64 x.p.Number:: .sl none 80 true (x.p.Spends.map aY):: .sl none 81 true (x.p.Chains.map bz):: .sl none 5 true (x.p.Escrow.map bH)::[])
attribute [go_sem] cf
def qD:V:= .agg (.int .u32 0:: .int .u32 0:: .int .u32 0:: .int .u32 0:: .int .u32 0:: .int .u32 0:: .int .u32 0:: .int .u32 0:: .int .u32 0:: .int .u32 0:: .int .u32 0:: .int .u32 0:: .int .u32 0:: .int .u32 0:: .int .u32 0:: .int .u32 0:: .int .u32 0:: .int .u32 0:: .int .u32 0:: .int .u32 0:: .int .u32 0:: .int .u32 0:: .int .u32 0:: .int .u32 0:: .int .u32 0:: .int .u32 0:: .int .u32 0:: .int .u32 0:: .int .u32 0:: .int .u32 0:: .int .u32 0:: .int .u32 0:: .int .u32 0:: .int .u32 0:: .int .u32 0:: .int .u32 0:: .int .u32 0:: .int .u32 0:: .int .u32 0:: .int .u32 0:: .int .u32 0:: .int .u32 0:: .int .u32 0:: .int .u32 0:: .int .u32 0:: .int .u32 0:: .int .u32 0:: .int .u32 0:: .int .u32 0:: .int .u32 0:: .int .u32 0:: .int .u32 0:: .int .u32 0:: .int .u32 0:: .int .u32 0:: .int .u32 0:: .int .u32 0:: .int .u32 0:: .int .u32 0:: .int .u32 0:: .int .u32 0:: .int .u32 0:: .int .u32 0:: .int .u32 0::[])
attribute [go_sem] qD
def l7 (l:(List Int)):V:= .agg (.int .u32 (gt l 0):: .int .u32 (gt l 1):: .int .u32 (gt l 2):: .int .u32 (gt l 3):: .int .u32 (gt l 4):: .int .u32 (gt l 5):: .int .u32 (gt l 6):: .int .u32 (gt l 7):: .int .u32 (gt l 8):: .int .u32 (gt l 9):: .int .u32 (gt l 10):: .int .u32 (gt l 11):: .int .u32 (gt l 12):: .int .u32 (gt l 13):: .int .u32 (gt l 14):: .int .u32 (gt l 15):: .int .u32 (gt l 16):: .int .u32 (gt l 17):: .int .u32 (gt l 18):: .int .u32 (gt l 19):: .int .u32 (gt l 20):: .int .u32 (gt l 21):: .int .u32 (gt l 22):: .int .u32 (gt l 23):: .int .u32 (gt l 24):: .int .u32 (gt l 25):: .int .u32 (gt l 26):: .int .u32 (gt l 27):: .int .u32 (gt l 28):: .int .u32 (gt l 29):: .int .u32 (gt l 30):: .int .u32 (gt l 31):: .int .u32 (gt l 32):: .int .u32 (gt l 33):: .int .u32 (gt l 34):: .int .u32 (gt l 35):: .int .u32 (gt l 36):: .int .u32 (gt l 37):: .int .u32 (gt l 38):: .int .u32 (gt l 39):: .int .u32 (gt l 40):: .int .u32 (gt l 41):: .int .u32 (gt l 42):: .int .u32 (gt l 43):: .int .u32 (gt l 44):: .int .u32 (gt l 45):: .int .u32 (gt l 46):: .int .u32 (gt l 47):: .int .u32 (gt l 48):: .int .u32 (gt l 49):: .int .u32 (gt l 50):: .int .u32 (gt l 51):: .int .u32 (gt l 52):: .int .u32 (gt l 53):: .int .u32 (gt l 54):: .int .u32 (gt l 55):: .int .u32 (gt l 56):: .int .u32 (gt l 57):: .int .u32 (gt l 58):: .int .u32 (gt l 59):: .int .u32 (gt l 60):: .int .u32 (gt l 61):: .int .u32 (gt l 62):: .int .u32 (gt l 63)::[])
attribute [go_sem] l7
def jC (l:(List Int)):V:= .agg [.int .u32 (gt l 0),.int .u32 (gt l 1),.int .u32 (gt l 2),.int .u32 (gt l 3),.int .u32 (gt l 4),.int .u32 (gt l 5),.int .u32 (gt l 6),.int .u32 (gt l 7)]
attribute [go_sem] jC
def uF:V:= .agg [.int .u32 0,.int .u32 0,.int .u32 0,.int .u32 0,.int .u32 0,.int .u32 0,.int .u32 0,.int .u32 0]
attribute [go_sem] uF
def fH:V:= .agg (.int .u8 0:: .int .u8 0:: .int .u8 0:: .int .u8 0:: .int .u8 0:: .int .u8 0:: .int .u8 0:: .int .u8 0:: .int .u8 0:: .int .u8 0:: .int .u8 0:: .int .u8 0:: .int .u8 0:: .int .u8 0:: .int .u8 0:: .int .u8 0:: .int .u8 0:: .int .u8 0:: .int .u8 0:: .int .u8 0:: .int .u8 0:: .int .u8 0:: .int .u8 0:: .int .u8 0:: .int .u8 0:: .int .u8 0:: .int .u8 0:: .int .u8 0:: .int .u8 0:: .int .u8 0:: .int .u8 0:: .int .u8 0::[])
attribute [go_sem] fH
def uG (a b:(List Int)):Bool:=((gt a 0)==(gt b 0)&&((gt a 1)==(gt b 1)&&((gt a 2)==(gt b 2)&&((gt a 3)==(gt b 3)&&((gt a 4)==(gt b 4)&&((gt a 5)==(gt b 5)&&((gt a 6)==(gt b 6)&&((gt a 7)==(gt b 7)&&((gt a 8)==(gt b 8)&&((gt a 9)==(gt b 9)&&((gt a 10)==(gt b 10)&&((gt a 11)==(gt b 11)&&((gt a 12)==(gt b 12)&&((gt a 13)==(gt b 13)&&((gt a 14)==(gt b 14)&&((gt a 15)==(gt b 15)&&((gt a 16)==(gt b 16)&&((gt a 17)==(gt b 17)&&((gt a 18)==(gt b 18)&&((gt a 19)==(gt b 19)&&((gt a 20)==(gt b 20)&&((gt a 21)==(gt b 21)&&((gt a 22)==(gt b 22)&&((gt a 23)==(gt b 23)&&((gt a 24)==(gt b 24)&&((gt a 25)==(gt b 25)&&((gt a 26)==(gt b 26)&&((gt a 27)==(gt b 27)&&((gt a 28)==(gt b 28)&&((gt a 29)==(gt b 29)&&((gt a 30)==(gt b 30)&&(gt a 31)==(gt b 31))))))))))))))))))))))))))))))))
attribute [go_sem] uG
def l8 (a b:dZ):Bool:=((gt a.Payee 0)==(gt b.Payee 0)&&((gt a.Payee 1)==(gt b.Payee 1)&&((gt a.Payee 2)==(gt b.Payee 2)&&((gt a.Payee 3)==(gt b.Payee 3)&&((gt a.Payee 4)==(gt b.Payee 4)&&((gt a.Payee 5)==(gt b.Payee 5)&&((gt a.Payee 6)==(gt b.Payee 6)&&((gt a.Payee 7)==(gt b.Payee 7)&&((gt a.Payee 8)==(gt b.Payee 8)&&((gt a.Payee 9)==(gt b.Payee 9)&&((gt a.Payee 10)==(gt b.Payee 10)&&((gt a.Payee 11)==(gt b.Payee 11)&&((gt a.Payee 12)==(gt b.Payee 12)&&((gt a.Payee 13)==(gt b.Payee 13)&&((gt a.Payee 14)==(gt b.Payee 14)&&((gt a.Payee 15)==(gt b.Payee 15)&&((gt a.Payee 16)==(gt b.Payee 16)&&((gt a.Payee 17)==(gt b.Payee 17)&&((gt a.Payee 18)==(gt b.Payee 18)&&((gt a.Payee 19)==(gt b.Payee 19)&&((gt a.Payee 20)==(gt b.Payee 20)&&((gt a.Payee 21)==(gt b.Payee 21)&&((gt a.Payee 22)==(gt b.Payee 22)&&((gt a.Payee 23)==(gt b.Payee 23)&&((gt a.Payee 24)==(gt b.Payee 24)&&((gt a.Payee 25)==(gt b.Payee 25)&&((gt a.Payee 26)==(gt b.Payee 26)&&((gt a.Payee 27)==(gt b.Payee 27)&&((gt a.Payee 28)==(gt b.Payee 28)&&((gt a.Payee 29)==(gt b.Payee 29)&&((gt a.Payee 30)==(gt b.Payee 30)&&((gt a.Payee 31)==(gt b.Payee 31)&&(a.Time==b.Time&&a.Number==b.Number)))))))))))))))))))))))))))))))))
attribute [go_sem] l8
def nM (x:cJ):V:= .agg (.int .i64 x.A:: .int .i64 x.B:: .int .i64 x.Spend.Coin.Bank:: .int .i64 x.Spend.Coin.Epoch:: .int .i64 x.Spend.Coin.Denom:: .int .i64 x.Spend.Coin.Depth:: .int .i64 x.Spend.Coin.A:: .int .u8 (gt x.Spend.Coin.Root 0):: .int .u8 (gt x.Spend.Coin.Root 1):: .int .u8 (gt x.Spend.Coin.Root 2):: .int .u8 (gt x.Spend.Coin.Root 3):: .int .u8 (gt x.Spend.Coin.Root 4):: .int .u8 (gt x.Spend.Coin.Root 5):: .int .u8 (gt x.Spend.Coin.Root 6):: .int .u8 (gt x.Spend.Coin.Root 7):: .int .u8 (gt x.Spend.Coin.Root 8):: .int .u8 (gt x.Spend.Coin.Root 9):: .int .u8 (gt x.Spend.Coin.Root 10):: .int .u8 (gt x.Spend.Coin.Root 11):: .int .u8 (gt x.Spend.Coin.Root 12):: .int .u8 (gt x.Spend.Coin.Root 13):: .int .u8 (gt x.Spend.Coin.Root 14):: .int .u8 (gt x.Spend.Coin.Root 15):: .int .u8 (gt x.Spend.Coin.Root 16):: .int .u8 (gt x.Spend.Coin.Root 17):: .int .u8 (gt x.Spend.Coin.Root 18):: .int .u8 (gt x.Spend.Coin.Root 19):: .int .u8 (gt x.Spend.Coin.Root 20):: .int .u8 (gt x.Spend.Coin.Root 21):: .int .u8 (gt x.Spend.Coin.Root 22):: .int .u8 (gt x.Spend.Coin.Root 23):: .int .u8 (gt x.Spend.Coin.Root 24):: .int .u8 (gt x.Spend.Coin.Root 25):: .int .u8 (gt x.Spend.Coin.Root 26):: .int .u8 (gt x.Spend.Coin.Root 27):: .int .u8 (gt x.Spend.Coin.Root 28):: .int .u8 (gt x.Spend.Coin.Root 29):: .int .u8 (gt x.Spend.Coin.Root 30):: .int .u8 (gt x.Spend.Coin.Root 31):: .int .i64 x.Spend.Coin.Sign.Z:: .int .i64 x.Spend.Coin.Sign.A:: .int .i64 x.Spend.Coin.Sign.B:: .int .i64 x.Spend.Coin.Sign.R:: .int .i64 x.Spend.Node.Level:: .int .i64 x.Spend.Node.Index:: .int .u8 (gt x.Spend.Context.Payee 0):: .int .u8 (gt x.Spend.Context.Payee 1):: .int .u8 (gt x.Spend.Context.Payee 2):: .int .u8 (gt x.Spend.Context.Payee 3):: .int .u8 (gt x.Spend.Context.Payee 4):: .int .u8 (gt x.Spend.Context.Payee 5):: .int .u8 (gt x.Spend.Context.Payee 6):: .int .u8 (gt x.Spend.Context.Payee 7):: .int .u8 (gt x.Spend.Context.Payee 8):: .int .u8 (gt x.Spend.Context.Payee 9):: .int .u8 (gt x.Spend.Context.Payee 10):: .int .u8 (gt x.Spend.Context.Payee 11):: .int .u8 (gt x.Spend.Context.Payee 12):: .int .u8 (gt x.Spend.Context.Payee 13):: .int .u8 (gt x.Spend.Context.Payee 14):: .int .u8 (gt x.Spend.Context.Payee 15):: .int .u8 (gt x.Spend.Context.Payee 16):: .int .u8 (gt x.Spend.Context.Payee 17):: .int .u8 (gt x.Spend.Context.Payee 18):: .int .u8 (gt x.Spend.Context.Payee 19):: .int .u8 (gt x.Spend.Context.Payee 20):: .int .u8 (gt x.Spend.Context.Payee 21):: .int .u8 (gt x.Spend.Context.Payee 22):: .int .u8 (gt x.Spend.Context.Payee 23):: .int .u8 (gt x.Spend.Context.Payee 24):: .int .u8 (gt x.Spend.Context.Payee 25):: .int .u8 (gt x.Spend.Context.Payee 26):: .int .u8 (gt x.Spend.Context.Payee 27):: .int .u8 (gt x.Spend.Context.Payee 28):: .int .u8 (gt x.Spend.Context.Payee 29):: .int .u8 (gt x.Spend.Context.Payee 30):: .int .u8 (gt x.Spend.Context.Payee 31):: .int .i64 x.Spend.Context.Time:: .int .i64 x.Spend.Context.Number:: .sl none 3 true (x.Spend.Leaves.map eJ):: .int .i64 x.Spend.Path.Index:: .sl none 32 true (x.Spend.Path.L.map aI):: .int .i64 x.Leaf::[])
attribute [go_sem] nM
def fI (x:bY):V:= .agg (.int .u8 (gt x.State 0):: .int .u8 (gt x.State 1):: .int .u8 (gt x.State 2):: .int .u8 (gt x.State 3):: .int .u8 (gt x.State 4):: .int .u8 (gt x.State 5):: .int .u8 (gt x.State 6):: .int .u8 (gt x.State 7):: .int .u8 (gt x.State 8):: .int .u8 (gt x.State 9):: .int .u8 (gt x.State 10):: .int .u8 (gt x.State 11):: .int .u8 (gt x.State 12):: .int .u8 (gt x.State 13):: .int .u8 (gt x.State 14):: .int .u8 (gt x.State 15):: .int .u8 (gt x.State 16):: .int .u8 (gt x.State 17):: .int .u8 (gt x.State 18):: .int .u8 (gt x.State 19):: .int .u8 (gt x.State 20):: .int .u8 (gt x.State 21):: .int .u8 (gt x.State 22):: .int .u8 (gt x.State 23):: .int .u8 (gt x.State 24):: .int .u8 (gt x.State 25):: .int .u8 (gt x.State 26):: .int .u8 (gt x.State 27):: .int .u8 (gt x.State 28):: .int .u8 (gt x.State 29):: .int .u8 (gt x.State 30):: .int .u8 (gt x.State 31):: .int .i64 x.Count::[])
attribute [go_sem] fI
def uH (x:aP):V:= .agg [.int .i64 x.P,.int .i64 x.Q,.int .i64 x.G]
attribute [go_sem] uH
def uI (x:hP):V:= .agg [.int .i64 x.H,.int .i64 x.H1,.int .i64 x.H2]
attribute [go_sem] uI
end Go.Proofs.YtcbbjfckokckcaaGreatDoor
namespace Go.Proofs.YtcbbjfckokckcaaGreatDoor
open Go.RowKit
theorem GQ {C:Int→Bool} {n:Int} {F:(Int→Int)→Int→Int} (hF: ∀ag p,F ag p=if p<n then (if C p=true then p else ag (p+1)) else -1) {d:Int→Int}:
  ∀(fuel:Nat) (i:Int),0≤i→(n - i).toNat<fuel→(aq fuel F d i= -1∧ ∀j,i≤j→j<n→C j=false)∨(i≤aq fuel F d i∧aq fuel F d i<n∧C (aq fuel F d i)=true∧ ∀j,i≤j→j<aq fuel F d i→C j=false):=by
 intro fuel
 induction fuel with
 | zero=>intro i _ h;omega
 | succ k ih=>
  intro i h0 h
  rw [aq,hF]
  by_cases hi:i<n
  ·rw [if_pos hi]
   by_cases hc:C i=true
   ·rw [if_pos hc]
    exact .inr ⟨Int.le_refl _,hi,hc,fun j h1 h2=>by omega⟩
   ·rw [if_neg hc]
    have hc':C i=false:=by simpa using hc
    rcases ih (i+1) (by omega) (by omega) with ⟨h1,h2⟩|⟨h1,h2,h3,h4⟩
    ·refine .inl ⟨h1,fun j g1 g2=> ?_⟩
     by_cases e:j=i
     ·subst e;exact hc'
     ·exact h2 j (by omega) g2
    ·refine .inr ⟨by omega,h2,h3,fun j g1 g2=> ?_⟩
     by_cases e:j=i
     ·subst e;exact hc'
     ·exact h4 j (by omega) g2
  ·rw [if_neg hi]
   exact .inl ⟨rfl,fun j h1 h2=>by omega⟩
theorem cg {α:Type} [Inhabited α] {l:List α} {i:Int} (h:i.toNat<l.length):gt l i∈l:=by
 simp [gt,List.getD_eq_getElem?_getD,h]
theorem GR {α β R:Type} [Inhabited α] {f:α→β} {E:Int×List β→R} {l:List α} {F:(Int×List β→R)→Int×List β→R} {d:Int×List β→R}
  (hF: ∀ag p,F ag p=if decide (p.1<(l.length:Int))=true then ag (p.1+1,p.2++[f (gt l p.1)]) else E p):
  ∀(fuel k:Nat) (a:List β),k≤l.length→l.length - k<fuel→aq fuel F d ((k:Int),a)=E ((l.length:Int),a++(l.drop k).map f):=by
 intro fuel
 induction fuel with
 | zero=>intro k a _ h;omega
 | succ n ih=>
  intro k a hl h
  rw [aq,hF]
  by_cases hk:k<l.length
  ·rw [if_pos (decide_eq_true (show (k:Int)<_ by omega))]
   have:=ih (k+1) (a++[f (gt l k)]) (by omega) (by omega)
   rw [show ((k+1:Nat):Int)=(k:Int)+1 by omega] at this
   have hg:gt l (k:Int)=l[k]:=by simp [gt,List.getD_eq_getElem?_getD,hk]
   show aq n F d ((k:Int)+1,a++[f (gt l (k:Int))])=_
   rw [this,List.drop_eq_getElem_cons hk,hg]
   simp only [List.map_cons,List.append_assoc,List.singleton_append]
  ·obtain rfl:k=l.length:=by omega
   rw [if_neg (by simp),List.drop_eq_nil_of_le (by omega)]
   simp
theorem GS {α β R:Type} [Inhabited α] (f:α→β) {E:Int×List β→R} {l:List α} {F:(Int×List β→R)→Int×List β→R} {d:Int×List β→R}
  (hF: ∀ag p,F ag p=if decide (p.1<(l.length:Int))=true then ag (p.1+1,p.2++[f (gt l p.1)]) else E p):
  aq (((l.length:Int) - 0).toNat+1) F d (0,[])=E ((l.length:Int),l.map f):=by
 have:=GR (d:=d) hF (((l.length:Int) - 0).toNat+1) 0 [] (by omega) (by omega)
 simpa using this
theorem qE {α:Type} [Inhabited α] {l:List α} {C:α→Bool} {F:(Int→Int)→Int→Int} {d:Int→Int}
  (hF: ∀ag p,F ag p=if decide (p<(l.length:Int))=true then (if C (gt l p)=true then p else ag (p+1)) else -1):
  decide (aq (((l.length:Int) - 0).toNat+1) F d 0≥0)=l.any C:=by
 have hg: ∀(j:Int),0≤j→j<l.length→gt l j∈l:=fun j h0 h1=>cg (by omega)
 rcases GQ (C:=fun p=>C (gt l p)) (n:=(l.length:Int)) (F:=F) (d:=d) (fun ag p=>by rw [hF];by_cases hp:p<(l.length:Int)<;>simp [hp]) (((l.length:Int) - 0).toNat+1) 0 (by omega) (by omega) with ⟨h1,h2⟩|⟨h1,h2,h3,_⟩
 ·rw [h1]
  symm
  rw [show decide ((-1:Int)≥0)=false by decide,List.any_eq_false]
  intro x hx
  obtain ⟨i,hi,rfl⟩:=List.mem_iff_getElem.1 hx
  have:=h2 (i:Int) (by omega) (by omega)
  simpa [gt,List.getD_eq_getElem?_getD,hi] using this
 ·rw [decide_eq_true h1]
  symm
  exact List.any_eq_true.2 ⟨_,hg _ h1 h2,h3⟩
theorem hZ {α R:Type} {P:α→Prop} {Q:R→Prop} {meas:α→Nat} {F:(α→R)→α→R} {d:α→R}
  (hs: ∀ag p,P p→(∀q,P q→meas q<meas p→Q (ag q))→Q (F ag p)): ∀(fuel:Nat) (p:α),P p→meas p<fuel→Q (aq fuel F d p):=by
 intro fuel
 induction fuel with
 | zero=>intro p _ h;omega
 | succ k ih=>
  intro p hp hm
  rw [aq]
  exact hs _ p hp fun q hq hlt=>ih q hq (by omega)
def eK {α σ R:Type} (st:α→σ→σ⊕R) (E:σ→R):List α→σ→R
 | [],s=>E s
 | a::l,s=>match st a s with
  | .inl s'=>eK st E l s'
  | .inr r=>r
theorem GT {α σ R:Type} [Inhabited α] {l:List α} {st:α→σ→σ⊕R} {E:σ→R} {F:(Int×σ→R)→Int×σ→R} {d:Int×σ→R}
  (hF: ∀ag i s,F ag (i,s)=if i<(l.length:Int) then (match st (gt l i) s with| .inl s'=>ag (i+1,s')| .inr r=>r) else E s):
  ∀(fuel k:Nat) (s:σ),k≤l.length→l.length - k<fuel→aq fuel F d ((k:Int),s)=eK st E (l.drop k) s:=by
 intro fuel
 induction fuel with
 | zero=>intro k s _ h;omega
 | succ n ih=>
  intro k s hl h
  rw [aq,hF]
  by_cases hk:k<l.length
  ·rw [if_pos (by omega),List.drop_eq_getElem_cons hk]
   have hg:gt l (k:Int)=l[k]:=by simp [gt,List.getD_eq_getElem?_getD,hk]
   rw [hg]
   simp only [eK]
   cases st l[k] s with
   | inl s'=>
    have:=ih (k+1) s' (by omega) (by omega)
    rw [show ((k+1:Nat):Int)=(k:Int)+1 by omega] at this
    exact this
   | inr r=>rfl
  ·obtain rfl:k=l.length:=by omega
   rw [if_neg (by simp),List.drop_eq_nil_of_le (by omega)];rfl
theorem nN {α σ R:Type} [Inhabited α] {l:List α} (st:α→σ→σ⊕R) (E:σ→R) {F:(Int×σ→R)→Int×σ→R} {d:Int×σ→R} {s:σ}
  (hF: ∀ag i s,F ag (i,s)=if i<(l.length:Int) then (match st (gt l i) s with| .inl s'=>ag (i+1,s')| .inr r=>r) else E s):
  aq (((l.length:Int) - 0).toNat+1) F d (0,s)=eK st E l s:=by
 have:=GT (d:=d) hF (((l.length:Int) - 0).toNat+1) 0 s (by omega) (by omega)
 simpa using this
theorem GU {α σ R:Type} [Inhabited α] {l:List α} {st:α→σ→σ⊕R} {E:σ→R} {F:(σ×Int→R)→σ×Int→R} {d:σ×Int→R}
  (hF: ∀ag i s,F ag (s,i)=if i<(l.length:Int) then (match st (gt l i) s with| .inl s'=>ag (s',i+1)| .inr r=>r) else E s):
  ∀(fuel k:Nat) (s:σ),k≤l.length→l.length - k<fuel→aq fuel F d (s,(k:Int))=eK st E (l.drop k) s:=by
 intro fuel
 induction fuel with
 | zero=>intro k s _ h;omega
 | succ n ih=>
  intro k s hl h
  rw [aq,hF]
  by_cases hk:k<l.length
  ·rw [if_pos (by omega),List.drop_eq_getElem_cons hk]
   have hg:gt l (k:Int)=l[k]:=by simp [gt,List.getD_eq_getElem?_getD,hk]
   rw [hg]
   simp only [eK]
   cases st l[k] s with
   | inl s'=>
    have:=ih (k+1) s' (by omega) (by omega)
    rw [show ((k+1:Nat):Int)=(k:Int)+1 by omega] at this
    exact this
   | inr r=>rfl
  ·obtain rfl:k=l.length:=by omega
   rw [if_neg (by simp),List.drop_eq_nil_of_le (by omega)];rfl
theorem GV {α σ R:Type} [Inhabited α] {l:List α} (st:α→σ→σ⊕R) (E:σ→R) {F:(σ×Int→R)→σ×Int→R} {d:σ×Int→R} {s:σ}
  (hF: ∀ag i s,F ag (s,i)=if i<(l.length:Int) then (match st (gt l i) s with| .inl s'=>ag (s',i+1)| .inr r=>r) else E s):
  aq (((l.length:Int) - 0).toNat+1) F d (s,0)=eK st E l s:=by
 have:=GU (d:=d) hF (((l.length:Int) - 0).toNat+1) 0 s (by omega) (by omega)
 simpa using this
theorem l9 {α σ R:Type} {g:α→σ→σ} {E:σ→R}: ∀{l:List α} {s:σ},eK (fun a s=> .inl (g a s)) E l s=E (l.foldl (fun s a=>g a s) s)
 | [],_=>rfl
 | a::l,s=>by simp only [eK,List.foldl_cons];exact l9
theorem zA {α:Type} [Inhabited α]: ∀{k:Nat} {i:Nat} {l:List α},l.length=i+k→fB l k i=l.drop i
 | 0,i,l,h=>by simp [fB,h]
 | k+1,i,l,h=>by
  have hi:i<l.length:=by omega
  rw [List.drop_eq_getElem_cons hi]
  simp only [fB]
  have:=zA (k:=k) (i:=i+1) (l:=l) (by omega)
  rw [show ((i+1:Nat):Int)=(i:Int)+1 by omega] at this
  rw [this]
  simp [gt,List.getD_eq_getElem?_getD,hi]
theorem GW {α:Type} [Inhabited α] {l:List α} {n:Nat} (h:l.length=n):a8 n l=l:=by
 have:=zA (k:=n) (i:=0) (l:=l) (by omega)
 simpa [a8] using this
theorem zB {α:Type} [Inhabited α] {l:List α}: ∀{k:Nat} {i j:Nat},j<k→(fB l k i).getD j default=gt l ((i+j:Nat):Int)
 | k+1,i,0,_=>by simp [fB]
 | k+1,i,j+1,h=>by
  have:=zB (l:=l) (k:=k) (i:=i+1) (j:=j) (by omega)
  simp only [fB,List.getD_cons_succ]
  rw [show ((i:Int)+1)=((i+1:Nat):Int) from rfl,this]
  congr 1;omega
theorem jD {α:Type} [Inhabited α] {f:α→V} {n:Nat} {l:List α} {i:Int} (h:0≤i∧i.toNat<n):((a8 n l).map f).getD (0+i.toNat*1) .un=f (gt l i):=by
 have h1:(a8 n l).length=n:=cb
 have h2:=zB (l:=l) (k:=n) (i:=0) (j:=i.toNat) h.2
 have h3:gt (a8 n l) i=gt l i:=by
  rw [show gt (a8 n l) i=(fB l n ((0:Nat):Int)).getD i.toNat default from rfl,h2]
  congr 1;omega
 rw [←h3]
 simp [gt,List.getD_eq_getElem?_getD,h1,h.2]
theorem GX {α:Type} [Inhabited α] {f:α→V} {n:Nat} {l:List α} {i:Int} (h:0≤i∧i.toNat<n):((a8 n l).map f).getD (i.toNat*1) .un=f (gt l i):=by
 have:=jD (f:=f) (n:=n) (l:=l) (i:=i) h
 rwa [Nat.zero_add] at this
theorem nO {α:Type} [Inhabited α] {f:α→V} {l:List α} {n:Nat} {i:Int} (hl:l.length=n) (h:0≤i∧i.toNat<n):(l.map f).getD (i.toNat*1) .un=f (gt l i):=by
 subst hl
 simp [gt,List.getD_eq_getElem?_getD,h.2]
theorem qF {α:Type} [Inhabited α] {f:α→V} {n:Nat} {l:List α} {i:Int} {v:α} (hl:l.length=n) (h:0≤i∧i.toNat<n):(l.map f).take (0+i.toNat*1)++[f v]++(l.map f).drop (0+i.toNat*1+1)=(a8 n (st l i v)).map f:=by
 rw [GW (by rw [eB];exact hl)]
 unfold st
 rw [List.set_eq_take_append_cons_drop,if_pos (by omega)]
 simp [List.map_take,List.map_drop]
def kL {β:Type} (i:Nat):List (Nat×β)→List (Nat×β)
 | []=> []
 | (k,b)::l=>if k=i then kL i l else (k,b)::kL i l
attribute [go_sem] kL
theorem uJ {β:Type} {i t:Nat} {b:β}: ∀{l:List (Nat×β)},ah (kL i l) t=some b→t≠i∧ah l t=some b
 | [],h=>by cases h
 | (k,x)::l,h=>by
  simp only [kL] at h
  split at h
  ·rename_i e
   obtain ⟨h1,h2⟩:=uJ h
   exact ⟨h1,by simp only [ah];rw [if_neg (by omega)];exact h2⟩
  ·rename_i e
   simp only [ah] at h⊢
   split at h
   ·rename_i e2;exact ⟨by omega,by rw [if_pos e2];exact h⟩
   ·rename_i e2
    obtain ⟨h1,h2⟩:=uJ h
    exact ⟨h1,by rw [if_neg e2];exact h2⟩
theorem GY {E:Env} {S:St} (t i j:Nat) {T n:Nat} {g:Bool} {z:Option Bool} {l:List V} (h:ah S.F t=some (.own j)) (h2:ah S.H j=some (.own T n g z l)) (hi:i<S.nx) (hij:i≠j):
  ca E S ⟨(t,.own i)::lB i S.F,(i,.own T n g z l)::kL j (kg i S.H),S.nx⟩:=by
 intro c0 c ρ F hs
 obtain ⟨v,hv,hown,hge,hone,a,cap,es,hz⟩:=hs.1.heap _ _ h2
 have hro: ∀k,k≠i→cW ρ i v k=ρ k:=fun k hk=>gN hk
 have hbi:am (cW ρ i v) i=am ρ j:=by unfold am;rw [c8,hv]
 have hbk: ∀k,k≠i→am (cW ρ i v) k=am ρ k:=fun k hk=>by unfold am;rw [hro k hk]
 have hold: ∀k b,i≠k→ah (kL j (kg i S.H)) k=some b→k≠j∧ ∃b0,ah S.H k=some b0∧b=kf i b0:=by
  intro k b hk hb
  obtain ⟨h3,h4⟩:=uJ hb
  rw [pw] at h4
  cases h5:ah S.H k with
  | none=>rw [h5] at h4;cases h4
  | some b0=>rw [h5] at h4;cases h4;exact ⟨h3,b0,rfl,rfl⟩
 refine ⟨c,cW ρ i v,rfl,⟨hs.1.since,hs.1.gl,fun t' x ht=> ?_,?_,?_⟩,fun k hk=> ?_⟩
 ·simp only [ah] at ht
  split at ht
  ·rename_i e;subst e;cases ht
   have h3:=hs.1.slot _ _ h
   simp only [rd] at h3⊢
   rw [hv] at h3
   exact ⟨by rw [c8];exact h3.1,h3.2⟩
  ·rw [th] at ht
   cases h5:ah S.F t' with
   | none=>rw [h5] at ht;cases ht
   | some y=>rw [h5] at ht;cases ht;exact kn hro (hs.1.slot _ _ h5)
 ·intro k b hb
  simp only [ah] at hb
  split at hb
  ·rename_i e;subst e;cases hb
   exact ⟨v,c8,hown,hge,hone,a,cap,es,hz⟩
  ·rename_i hk
   obtain ⟨_,b0,h6,rfl⟩:=hold k b hk hb
   exact xG hro (Ne.symm hk) (hs.1.heap _ _ h6)
 ·intro x y bx bb k hxy hx hy hpx hpy hbx
  simp only [ah] at hx hy
  split at hx
  ·rename_i e;subst e
   rw [if_neg hxy] at hy
   obtain ⟨hyj,b0,h6,rfl⟩:=hold y bb hxy hy
   rw [lD] at hpy
   rw [hbk y (Ne.symm hxy)]
   rw [hbi] at hbx
   exact hs.1.sep j y _ b0 k (Ne.symm hyj) h2 h6 rfl hpy hbx
  ·rename_i hix
   obtain ⟨hxj,b0,h6,rfl⟩:=hold x bx hix hx
   rw [lD] at hpx
   rw [hbk x (Ne.symm hix)] at hbx
   split at hy
   ·rename_i e;subst e
    rw [hbi]
    exact hs.1.sep x j b0 _ k hxj h6 h2 hpx rfl hbx
   ·rename_i hiy
    obtain ⟨hyj,b1,h7,rfl⟩:=hold y bb hiy hy
    rw [lD] at hpy
    rw [hbk y (Ne.symm hiy)]
    exact hs.1.sep x y b0 b1 k hxy h6 h7 hpx hpy hbx
 ·have hk':S.nx≤k:=hk
  rw [hro k (by omega)];exact hs.2 k hk
end Go.Proofs.YtcbbjfckokckcaaGreatDoor
namespace Go.Proofs.YtcbbjfckokckcaaGreatDoor
open Go.RowKit
set_option linter.unusedVariables false
set_option linter.unusedSimpArgs false
def ia:Int→List Int→Int
 | a,[]=>a
 | a,x::l=>ia (256*a+x) l
def be:Nat→Int→List Int
 | 0,_=> []
 | k+1,n=>be k (n/256)++[n% 256]
def isB (l:List Int):Prop:= ∀x∈l,0≤x∧x≤255
theorem zC: ∀{k:Nat} {n:Int},(be k n).length=k
 | 0,_=>rfl
 | k+1,n=>by simp [be,zC (k:=k)]
theorem zD (n m:Int) (h:0<m):n% (256*m)=256*(n/256% m)+n% 256:=by
 have h1:=Int.mul_ediv_add_emod n 256
 have h2:=Int.mul_ediv_add_emod (n/256) m
 have h3:=Int.emod_nonneg (n/256) (show m≠0 by omega)
 have h4:=Int.emod_lt_of_pos (n/256) h
 generalize n/256% m=s at*
 generalize hq:n/256/m=t at*
 have e:n=(256*s+n% 256)+256*m*t:=by
  have:256*m*t=256*(m*t):=by rw [Int.mul_assoc]
  omega
 have e2:n% (256*m)=(256*s+n% 256)% (256*m):=by
  conv=>lhs;rw [e]
  rw [Int.add_mul_emod_self_left]
 rw [e2]
 exact Int.emod_eq_of_lt (by omega) (by omega)
theorem zE: ∀{l:List Int},isB l→ ∀{a m:Int},0≤a→a<m→0≤ia a l∧ia a l<m*256^l.length
 | [],_,a,m,h0,h1=>by simpa [ia] using ⟨h0,h1⟩
 | x::l,h,a,m,h0,h1=>by
  have hx:=h x (by simp)
  have h2:=zE (l:=l) (fun y hy=>h y (by simp [hy])) (a:=256*a+x) (m:=m*256) (by omega) (by omega)
  simp only [ia,List.length_cons]
  rw [Int.pow_succ,Int.mul_comm (256^l.length),←Int.mul_assoc]
  exact h2
theorem GZ {l:List Int} (h:isB l):0≤ia 0 l∧ia 0 l<256^l.length:=by
 have:=zE h (a:=0) (m:=1) (by omega) (by omega)
 simpa using this
theorem uK: ∀{k:Nat} {n m:Int},n% 256^k=m% 256^k→be k n=be k m
 | 0,_,_,_=>rfl
 | k+1,n,m,h=>by
  have hp:(0:Int)<256^k:=Int.pow_pos (by omega)
  rw [show (256:Int)^(k+1)=256*256^k by rw [Int.pow_succ,Int.mul_comm],zD _ _ hp,zD _ _ hp] at h
  have h1:=Int.emod_nonneg (n/256) (show (256:Int)^k≠0 by omega)
  have h2:=Int.emod_nonneg (m/256) (show (256:Int)^k≠0 by omega)
  simp only [be]
  rw [show n% 256=m% 256 by omega,uK (k:=k) (show n/256% 256^k=m/256% 256^k by omega)]
mutual
def hgt:ak→Nat
 | ⟨_,_,b,l⟩=>1+b.length+bI l
def bI:List ak→Nat
 | []=>0
 | x::l=>hgt x+bI l
end
theorem zG: ∀{l:List ak} {x:ak},x∈l→hgt x≤bI l
 | y::l,x,h=>by
  simp only [bI]
  rcases List.mem_cons.1 h with rfl|h
  ·omega
  ·have:=zG h;omega
theorem fJ (i:ak):hgt i=1+i.B.length+bI i.L:=by cases i;rfl
theorem qG {i x:ak} (h:x∈i.L):hgt x<hgt i:=by
 have:=zG h
 rw [fJ i];omega
mutual
def fK:ak→Int→Bool
 | ⟨k,n,b,l⟩,d=>if k==1 then b.isEmpty&&l.isEmpty else if k==2 then n==0&&l.isEmpty else if k==3 then n==0&&(b.isEmpty&&(decide (0<d)&&(decide (l.length≤1000)&&nP l (d - 1)))) else false
def nP:List ak→Int→Bool
 | [],_=>true
 | x::l,d=>fK x d&&nP l d
end
theorem zH: ∀{l:List ak} {d:Int},nP l d=l.all (fun x=>fK x d)
 | [],_=>rfl
 | x::l,d=>by simp only [nP,List.all_cons,zH (l:=l)]
def jE (r:aN) (e:Int):aN:=if r.e==0 then {b:=r.b,e:=e} else r
def fL (r:aN) (n:Int):List Int×aN:=
 if r.e≠0∨n>r.b.length then ([],jE r 4) else (r.b.take n.toNat,{b:=r.b.drop n.toNat,e:=r.e})
def zI (l:List Int):Int:=l.foldl (fun a x=>orI .u64 (aA .u64 a 8) (ae .u64 x)) 0
def eL (r:aN) (n:Int):Int×aN:=(zI (fL r n).1,(fL r n).2)
theorem wrap_u64 {a:Int} (h0:0≤a) (h1:a<18446744073709551616):IntKind.wrap .u64 a=a:=by
 simp only [IntKind.wrap,IntKind.bits,IntKind.signed];simp;omega
theorem G0 {a x:Int} (h0:0≤a) (h1:a<72057594037927936) (h2:0≤x) (h3:x≤255):orI .u64 (aA .u64 a 8) (ae .u64 x)=256*a+x:=by
 obtain ⟨n,rfl⟩: ∃n:Nat,a=n:=⟨a.toNat,by omega⟩
 obtain ⟨m,rfl⟩: ∃m:Nat,x=m:=⟨x.toNat,by omega⟩
 have e1:aA .u64 (n:Int) 8=((n*256:Nat):Int):=by
  unfold aA
  rw [show (2:Int)^min (8:Int).toNat (IntKind.bits .u64)=256 by decide,wrap_u64 (by omega) (by omega)];omega
 have e2:ae .u64 (m:Int)=m:=wrap_u64 (by omega) (by omega)
 rw [e1,e2]
 unfold orI
 have e3: ∀k:Nat,k<18446744073709551616→(BitVec.ofInt (IntKind.bits .u64) (k:Int)).toNat=k:=by
  intro k hk
  rw [BitVec.toNat_ofInt]
  have:(((2^IntKind.bits .u64:Nat)):Int)=18446744073709551616:=rfl
  rw [this];omega
 have e4:((BitVec.ofInt (IntKind.bits .u64) ((n*256:Nat):Int))|||(BitVec.ofInt (IntKind.bits .u64) ((m:Nat):Int))).toNat=256*n+m:=by
  rw [BitVec.toNat_or,e3 _ (by omega),e3 _ (by omega)]
  have:=Nat.shiftLeft_add_eq_or_of_lt (i:=8) (b:=m) (by show m<256;omega) n
  rw [Nat.shiftLeft_eq,show (2:Nat)^8=256 from rfl] at this
  rw [←this,Nat.mul_comm]
 rw [e4,wrap_u64 (by omega) (by omega)];omega
theorem zJ: ∀{l:List Int},isB l→ ∀{a:Int} {k:Nat},0≤a→a<256^k→k+l.length≤8→l.foldl (fun a x=>orI .u64 (aA .u64 a 8) (ae .u64 x)) a=ia a l
 | [],_,a,k,_,_,_=>rfl
 | x::l,h,a,k,h0,h1,h2=>by
  have hx:=h x (by simp)
  simp only [List.length_cons] at h2
  have h3:(256:Int)^k≤256^7:=(by decide: ∀k,k<8→(256:Int)^k≤256^7) k (by omega)
  have h4:(256:Int)^7=72057594037927936:=by decide
  simp only [List.foldl_cons,ia]
  rw [G0 h0 (by omega) hx.1 hx.2]
  exact zJ (k:=k+1) (fun y hy=>h y (by simp [hy])) (by omega) (by rw [Int.pow_succ];omega) (by omega)
theorem G3 {l:List Int} (h:isB l) (hl:l.length≤8):zI l=ia 0 l:=zJ h (k:=0) (by omega) (by decide) (by omega)
def gz (f:aN→ak×aN):Nat→List ak→aN→List ak×aN
 | 0,l,r=>(l,r)
 | n+1,l,r=>if r.e≠0 then (l,r) else gz f n (l++[(f r).1]) (f r).2
def me (f:Option (aN→ak×aN)) (r:aN):ak×aN:=
 let a:=eL r 1
 if ae .i64 a.1<1∨ae .i64 a.1>3∨(ae .i64 a.1=3∧f.isNone=true) then (dB,jE a.2 3)
 else if ae .i64 a.1=1 then (⟨ae .i64 a.1,ae .i64 (eL a.2 8).1,[],[]⟩,(eL a.2 8).2)
 else if ae .i64 a.1=2 then (⟨ae .i64 a.1,0,(fL (eL a.2 4).2 (ae .i64 (eL a.2 4).1)).1,[]⟩,(fL (eL a.2 4).2 (ae .i64 (eL a.2 4).1)).2)
 else match f with
  | none=>default
  | some f=>
   let b:=eL a.2 4
   let x:=gz f (ae .i64 b.1).toNat [] (if ae .i64 b.1>1000 then jE b.2 3 else b.2)
   (⟨ae .i64 a.1,0,[],x.1⟩,x.2)
def ib:Nat→aN→ak×aN
 | 0=>me none
 | d+1=>me (some (ib d))
def cD (r:aN) (depth:Int):ak×aN:=ib depth.toNat r
theorem G4 {f:aN→ak×aN} {n:Nat} {l:List ak} {r:aN} (h:r.e≠0):gz f n l r=(l,r):=by
 cases n with
 | zero=>rfl
 | succ n=>simp only [gz];rw [if_pos h]
theorem G5 {b:List Int} (h:isB b) (n:Nat):isB (b.take n):=fun x hx=>h x (List.mem_of_mem_take hx)
theorem G6 {b:List Int} (h:isB b) (n:Nat):isB (b.drop n):=fun x hx=>h x (List.mem_of_mem_drop hx)
theorem jF {r:aN} {n:Int} (h:isB r.b):isB (fL r n).2.b:=by
 unfold fL
 split
 ·unfold jE;split<;>exact h
 ·exact G6 h _
theorem uL {r:aN} {e:Int} (h:isB r.b):isB (jE r e).b:=by unfold jE;split<;>exact h
theorem zK {f:aN→ak×aN} (hf: ∀r,isB r.b→isB (f r).2.b): ∀{n:Nat} {l:List ak} {r:aN},isB r.b→isB (gz f n l r).2.b
 | 0,_,_,h=>h
 | n+1,l,r,h=>by
  simp only [gz]
  split
  ·exact h
  ·exact zK hf (hf r h)
theorem zL {f:Option (aN→ak×aN)} (hf: ∀g,f=some g→ ∀r,isB r.b→isB (g r).2.b) {r:aN} (h:isB r.b):isB (me f r).2.b:=by
 have h1:isB (eL r 1).2.b:=jF h
 simp only [me]
 split
 ·exact uL h1
 split
 ·exact jF h1
 split
 ·exact jF (jF h1)
 cases f with
 | none=>intro x hx;cases hx
 | some g=>
  refine zK (hf g rfl) ?_
  split
  ·exact uL (jF h1)
  ·exact jF h1
theorem zM: ∀{d:Nat} {r:aN},isB r.b→isB (ib d r).2.b
 | 0,_,h=>zL (fun g e=>by cases e) h
 | d+1,_,h=>zL (fun g e r hr=>by cases e;exact zM hr) h
theorem G7 {r:aN} {x:ak×aN} {d:Int} (e:x=cD r d) (h:isB r.b):isB x.2.b:=by rw [e];exact zM h
theorem uM: ∀{l:List Int},wfL (l.map (V.int .u8))→isB l
 | [],_=>by simp [isB]
 | a::l,h=>by
  simp only [List.map_cons,wfL,wfV,yW] at h
  intro x hx
  rcases List.mem_cons.1 hx with rfl|hx
  ·exact h.1
  ·exact uM h.2 x hx
mutual
def fM:List Int→ak→List Int
 | out,⟨k,n,b,l⟩=>if out.length>16384 then out else if k==1 then out++(1::be 8 n) else if k==2 then out++(2::be 4 b.length)++b else qH (out++(k% 256::be 4 l.length)) l
def qH:List Int→List ak→List Int
 | out,[]=>out
 | out,x::l=>qH (fM out x) l
end
end Go.Proofs.YtcbbjfckokckcaaGreatDoor
namespace Go.Proofs.YtcbbjfckokckcaaGreatDoor
open Go.RowKit
end Go.Proofs.YtcbbjfckokckcaaGreatDoor
namespace Go.Proofs.YtcbbjfckokckcaaGreatDoor
open Go.RowKit
def jG (I:List Int→List Int→List Int):List (List Int)→List (List Int)
 | a::b::l=>I a b::jG I l
 | _=> []
def jH (l:List (List Int)):Prop:= ∃d:Nat,d≤10∧l.length=2^d
theorem zO {v:Int} (h0:0≤v) (h1:v≤10):aA .i64 1 v=2^v.toNat:=by
 have:v=0∨v=1∨v=2∨v=3∨v=4∨v=5∨v=6∨v=7∨v=8∨v=9∨v=10:=by omega
 rcases this with rfl|rfl|rfl|rfl|rfl|rfl|rfl|rfl|rfl|rfl|rfl<;>decide
def cu {α:Type}:List α→List (List α)
 | a::b::l=> [a,b]::cu l
 | _=> []
theorem zP {α:Type} {y:List α}: ∀{l:List α},y∈cu l→y.length=2
 | a::b::l,h=>by
  simp only [cu,List.mem_cons] at h
  rcases h with rfl|h
  ·rfl
  ·exact zP h
 | [],h=>by simp [cu] at h
 | [_],h=>by simp [cu] at h
theorem qI {α:Type}: ∀{k:Nat} {l:List α},l.length=2*k→(cu l).length=k
 | 0,l,h=>by
  have:l=[]:=List.length_eq_zero_iff.1 (by omega)
  subst this;rfl
 | k+1,a::b::l,h=>by
  simp only [cu,List.length_cons] at h⊢
  rw [qI (k:=k) (by omega)]
 | k+1,[],h=>by simp at h
 | k+1,[a],h=>by simp at h;omega
theorem uN {l:List (List Int)} (h:jH l) (h1:1<l.length): ∃d:Nat,d+1≤10∧l.length=2*2^d:=by
 obtain ⟨d,hd,e⟩:=h
 cases d with
 | zero=>rw [e] at h1;simp at h1
 | succ d=>exact ⟨d,hd,by rw [e,Nat.pow_succ];omega⟩
theorem G8 {l:List (List Int)} (h:jH l) (h1:1<l.length): ∃m,l.length=2*m:=by
 obtain ⟨d,_,e⟩:=uN h h1
 exact ⟨_,e⟩
theorem G9 {l p:List (List Int)} (h:jH l) (h1:1<l.length) (hp:p.length=(cu l).length):jH p:=by
 obtain ⟨d,hd,e⟩:=uN h h1
 exact ⟨d,by omega,by rw [hp,qI e]⟩
theorem zQ {l p:List (List Int)} (h:jH l) (h1:1<l.length) (hp:p.length=(cu l).length):p.length<l.length:=by
 obtain ⟨d,hd,e⟩:=uN h h1
 have:0<2^d:=Nat.pow_pos (by decide)
 rw [hp,qI e];omega
end Go.Proofs.YtcbbjfckokckcaaGreatDoor
