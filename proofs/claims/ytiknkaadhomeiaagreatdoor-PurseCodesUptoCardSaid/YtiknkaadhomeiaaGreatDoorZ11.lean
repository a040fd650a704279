/- Texts of this proof, one after the other: LN, P1, P2, Q1, S1, S2, S3, Q2, Q3. -/
import Derived.Test.YtiknkaadhomeiaaGreatDoorZ8
import Derived.Test.YtiknkaadhomeiaaGreatDoorZ6
import Derived.KernelRfl
set_option linter.unusedVariables false
set_option linter.unusedSimpArgs false
namespace Go.Proofs.YtiknkaadhomeiaaGreatDoor
open Go.RowKit
set_option linter.unusedVariables false
set_option linter.unusedSimpArgs false
theorem xU {α:Type} {f:aa→Option α} {g:α→aa} {n:α→α}: ∀{m:List α},(∀a∈m,f (g a)=some (n a))→dg f (m.map g)=some (m.map n)
  | [],_=>rfl
  | a::m,h=>by
    have:=xU (m:=m) (fun b hb=>h b (by simp [hb]))
    simp only [List.map_cons,dg,h a (by simp),this]
theorem iJ {l:List Int} (h:aQ (aS l) 8=true):aN (aS l)=(l,0):=by
  rw [qu,h]
  have:dg gQ (l.map cR)=some (l.map id):=xU (fun a _=>by simp [gQ,cR])
  simp [aS] at this⊢
  rw [this];rfl
theorem CT {α:Type} [Inhabited α] {l:List α} {n:Nat}:au n (au n l)=au n l:=lj cq
def gR (c:br):br:={c with Root:=au 32 c.Root}
theorem xV {c:br} (h:aQ (cb c) 8=true):cU (cb c)=(gR c,0):=by
  have hs:=lL h (by omega)
  have n0:=iJ (hs _ (by simp:aS [c.Bank,c.Epoch,c.Denom,c.Depth,c.A]∈_))
  have n2:=iJ (hs _ (by simp:aS [c.Sign.Z,c.Sign.A,c.Sign.B,c.Sign.R]∈_))
  unfold cU
  simp only [ab,iH,h]
  have g0:gt (cb c).L 0=aS [c.Bank,c.Epoch,c.Denom,c.Depth,c.A]:=rfl
  have g1:gt (cb c).L 1=bE (au 32 c.Root):=rfl
  have g2:gt (cb c).L 2=aS [c.Sign.Z,c.Sign.A,c.Sign.B,c.Sign.R]:=rfl
  simp only [g0,g1,g2,n0,n2]
  simp [cb,bc,bE,cq,CT,gR,gt]
def kl:List Int→List bS
  | a::b::c::l=>⟨a,b,c⟩::kl l
  | _=> []
theorem CU: ∀{l:List bS},kl (fj l)=l
  | []=>rfl
  | x::l=>by
    simp only [fj,List.flatMap_cons,List.cons_append,List.nil_append,kl]
    rw [show (l.flatMap fun x=> [x.B,x.R1,x.R2])=fj l from rfl,CU (l:=l)]
theorem xW {R:Type} {l:List Int} {E:Int×List bS→R} {F:(Int×List bS→R)→Int×List bS→R} {d:Int×List bS→R} {m:Nat} (hm:l.length=3*m)
    (hF: ∀ag p,F ag p=if decide (p.1<(l.length:Int))=true then ag (p.1+3,p.2++[⟨gt l p.1,gt l (p.1+1),gt l (p.1+2)⟩]) else E p):
    ∀(fuel k:Nat) (a:List bS),k≤m→l.length - 3*k<fuel→ah fuel F d (((3*k:Nat):Int),a)=E ((l.length:Int),a++kl (l.drop (3*k))):=by
  intro fuel
  induction fuel with
  | zero=>intro k a _ h;omega
  | succ n ih=>
    intro k a hl h
    rw [ah,hF]
    by_cases hk:k<m
    · rw [if_pos (decide_eq_true (show ((3*k:Nat):Int)<_ by omega))]
      have:=ih (k+1) (a++[⟨gt l ((3*k:Nat):Int),gt l (((3*k:Nat):Int)+1),gt l (((3*k:Nat):Int)+2)⟩]) (by omega) (by omega)
      rw [show ((3*(k+1):Nat):Int)=((3*k:Nat):Int)+3 by omega] at this
      show ah n F d (((3*k:Nat):Int)+3,_)=_
      rw [this]
      have h0:3*k<l.length:=by omega
      have h1:3*k+1<l.length:=by omega
      have h2:3*k+2<l.length:=by omega
      have e0:gt l ((3*k:Nat):Int)=l[3*k]:=by rw [oR];simp [List.getD_eq_getElem?_getD,h0]
      have e1:gt l (((3*k:Nat):Int)+1)=l[3*k+1]:=by rw [show ((3*k:Nat):Int)+1=((3*k+1:Nat):Int) by omega,oR];simp [List.getD_eq_getElem?_getD,h1]
      have e2:gt l (((3*k:Nat):Int)+2)=l[3*k+2]:=by rw [show ((3*k:Nat):Int)+2=((3*k+2:Nat):Int) by omega,oR];simp [List.getD_eq_getElem?_getD,h2]
      rw [List.drop_eq_getElem_cons h0,List.drop_eq_getElem_cons h1,List.drop_eq_getElem_cons h2,e0,e1,e2]
      simp only [kl,List.append_assoc,List.singleton_append]
      rw [show 3*k+2+1=3*(k+1) by omega]
    · have e:k=m:=by omega
      subst e
      rw [if_neg (by simp;omega),List.drop_eq_nil_of_le (by omega)]
      rw [show ((3*k:Nat):Int)=(l.length:Int) by omega]
      simp [kl]
theorem xX {α τ R:Type} {f:aa→Option α} {E:τ×List α→R} {z:R} {t:τ}: ∀{l:List aa} {s:List α},
    cP (fun a (s:τ×List α)=>ct (.inr z) (fun y=> .inl (s.1,s.2++[y])) (f a)) E l (t,s)=ct z (fun m=>E (t,s++m)) (dg f l)
  | [],s=>by simp [cP,dg,ct]
  | a::l,s=>by
    simp only [cP,dg]
    cases f a with
    | none=>rfl
    | some y=>
      have ih:=xX (f:=f) (E:=E) (z:=z) (t:=t) (l:=l) (s:=s++[y])
      refine ih.trans ?_
      cases dg f l<;>simp [ct]
theorem xY (i:aa):dr i=if i.Kind==2&&decide (i.B.length=32) then (au 32 i.B,true) else ([0,0,0,0,0,0,0,0,0,0,0,0,0,0,0,0,0,0,0,0,0,0,0,0,0,0,0,0,0,0,0,0],false):=by
  unfold dr
  by_cases h1:i.Kind=2
  · by_cases h2:i.B.length=32
    · have h3:spl ([0,0,0,0,0,0,0,0,0,0,0,0,0,0,0,0,0,0,0,0,0,0,0,0,0,0,0,0,0,0,0,0]:List Int) 0 (min 32 i.B.length) i.B=i.B:=by
        rw [h2];simp only [spl,Nat.min_self,List.take_zero,List.nil_append,Nat.zero_add]
        rw [←h2,List.take_length,h2];simp
      rw [h3];simp [h1,h2]
    · have h4: ¬(i.B.length:Int)=32:=by omega
      simp [h1,h2,h4]
  · simp [h1]
def iK (a:aa):Option (List Int):=if (dr a).2=true then some (dr a).1 else none
theorem CV {h:List Int}:iK (bE (au 32 h))=some (au 32 h):=by
  simp [iK,xY,bE,cq,CT]
theorem CW {a b:Int} (h:aQ (aS [a,b]) 8=true):lA (aS [a,b])=(a,b,true):=by
  unfold lA
  simp only [ab,iJ h]
  simp [gt]
theorem CX {α:Type} {l:List α}:sl l 1 (l.length:Int)=l.drop 1:=by
  simp only [sl,Int.toNat_natCast]
  exact List.take_of_length_le (by simp)
theorem CY {t:List aa} {q:aA} {E:aA×List (List Int)→aA×Int}:
    ah (((t.length:Int) - 0).toNat+1) (fun (ag:(Int×aA×List (List Int))→(aA×Int)) p=>if decide (p.1<(t.length:Int))=true then (if (!(dr (gt t p.1)).2)=true then (bG,3) else ag (p.1+1,p.2.1,p.2.2++[(dr (gt t p.1)).1])) else E p.2) (fun _=>default) (0,q,[])=ct (bG,(3:Int)) (fun m=>E (q,m)) (dg iK t):=by
  have:=jf (l:=t) (d:=fun _=>default) (F:=fun (ag:(Int×aA×List (List Int))→(aA×Int)) p=>if decide (p.1<(t.length:Int))=true then (if (!(dr (gt t p.1)).2)=true then (bG,3) else ag (p.1+1,p.2.1,p.2.2++[(dr (gt t p.1)).1])) else E p.2) (s:=(q,[]))
    (fun a (s:aA×List (List Int))=>ct (.inr (bG,(3:Int))) (fun y=> .inl (s.1,s.2++[y])) (iK a)) E (fun ag j s=>by
      by_cases h:j<(t.length:Int)
      · cases h2:(dr (gt t j)).2<;>simp [h,h2,iK,ct]
      · simp [h])
  refine this.trans (xX.trans ?_)
  simp
theorem n33: ¬(((3:Int) !=3)=true):=by decide
theorem n66: ¬(((6:Int) !=6)=true):=by decide
theorem fS {α β:Type} {a:α} {f:α→β} {r:β} (h: ∀x,x=a→f x=r):ab a f=r:=h a rfl
theorem ifn {α:Type} {c:Prop} [Decidable c] {a b r:α} (hc: ¬c) (h:b=r):(if c then a else b)=r:=by rw [if_neg hc];exact h
def CZ (x:iz):iz:={x with Payee:=au 32 x.Payee}
def eB (s:aA):aA:={s with Coin:=gR s.Coin,Context:=CZ s.Context,Path:={s.Path with L:=s.Path.L.map (au 32)}}
theorem LM {s:aA} (h:aQ (cT s) 8=true):de (cT s)=(eB s,0):=by
  have hs:=lL h (by omega)
  have w0:=hs _ (by simp:cb s.Coin∈_)
  have w1:=hs _ (by simp:aS [s.Node.Level,s.Node.Index]∈_)
  have w3:=hs _ (by simp:aS [s.Context.Time,s.Context.Number]∈_)
  have w4:=hs _ (by simp:aS (fj s.Leaves)∈_)
  have hm:(fj s.Leaves).length=3*s.Leaves.length:=by
    unfold fj
    induction s.Leaves with
    | nil=>rfl
    | cons a l ih=>rw [List.flatMap_cons,List.length_append,ih];simp;omega
  unfold de
  refine fS fun x1 e1=> ?_
  rw [iH,h] at e1
  subst e1
  refine ifn (by decide) (ifn n33 (ifn n66 ?_))
  refine fS fun x8 e8=> ?_
  refine fS fun x12 e12=> ?_
  refine fS fun x16 e16=> ?_
  refine fS fun x20 e20=> ?_
  refine fS fun x24 e24=> ?_
  have f8:x8=(gR s.Coin,0):=e8.trans (xV w0)
  have f12:x12=(s.Node.Level,s.Node.Index,true):=e12.trans (CW w1)
  have f20:x20=(s.Context.Time,s.Context.Number,true):=e20.trans (CW w3)
  have f24:x24=(fj s.Leaves,0):=e24.trans (iJ w4)
  have f16:x16=(au 32 s.Context.Payee,true):=by
    have:=CV (h:=s.Context.Payee)
    unfold iK at this
    have g2:gt (cT s).L 2=bE (au 32 s.Context.Payee):=rfl
    rw [g2] at e16
    rw [←e16] at this
    split at this
    · rename_i h2
      exact Prod.ext (Option.some.inj this) h2
    · cases this
  clear e8 e12 e16 e20 e24
  subst f8 f12 f16 f20 f24
  refine ifn (by simp) (ifn (by simp) (ifn (by simp) (ifn (by simp) (ifn (by simp) (ifn ?_ (ifn n33 (ifn ?_ (ifn n11 ?_))))))))
  · simp only [hm,jM];simp
  · have g5:gt (cT s).L 5=bc (cR s.Path.Index::s.Path.L.map fun h=>bE (au 32 h)):=rfl
    rw [g5];simp [bc];omega
  have g5:gt (cT s).L 5=bc (cR s.Path.Index::s.Path.L.map fun h=>bE (au 32 h)):=rfl
  rw [g5]
  simp only [CX]
  refine (xW (l:=fj s.Leaves) (m:=s.Leaves.length) hm (d:=fun _=>default) (fun ag p=>rfl) (((fj s.Leaves).length:Int) - 0|>.toNat.succ) 0 [] (by omega) (by omega)).trans ?_
  simp only [List.nil_append,Nat.mul_zero,List.drop_zero,CU]
  have hr:dg iK (s.Path.L.map fun h=>bE (au 32 h))=some (s.Path.L.map (au 32)):=xU (g:=fun h=>bE (au 32 h)) (fun a _=>CV)
  refine (CY (t:=(bc (cR s.Path.Index::s.Path.L.map fun h=>bE (au 32 h))).L.drop 1) (q:=bG) (E:=fun p=>(⟨gR s.Coin,⟨s.Node.Level,s.Node.Index⟩,⟨au 32 s.Context.Payee,s.Context.Time,s.Context.Number⟩,s.Leaves,⟨s.Path.Index,p.2⟩⟩,0))).trans ?_
  have e:(bc (cR s.Path.Index::s.Path.L.map fun h=>bE (au 32 h))).L.drop 1=s.Path.L.map fun h=>bE (au 32 h):=rfl
  rw [e,hr]
  rfl
theorem xZ (i:aa):iB i=if aQ i 8=false then ([],1) else if (bz i).length>16384 then ([],5) else (bz i,0):=by
  unfold iB
  refine fS fun x1 e1=> ?_
  rw [iH] at e1
  subst e1
  by_cases hv:aQ i 8=true
  · simp only [hv,Bool.not_true,Bool.false_eq_true,if_false,ab]
    rcases BG i [] 8 hv with e|⟨e1,e2⟩
    · rw [e]
      simp only [List.nil_append]
      by_cases h:(bz i).length>16384
      · have:((bz i).length:Int)>16384:=by omega
        simp [h,this]
      · have: ¬((bz i).length:Int)>16384:=by omega
        simp [h,this]
    · simp only [List.nil_append] at e2
      have h1:((fi [] i).length:Int)>16384:=by omega
      have h2:(bz i).length>16384:=e2
      simp [h1,h2]
  · have hv':aQ i 8=false:=by simpa using hv
    simp [hv']
theorem C0 {b:List Int} (hb:isB b):(∃i,gi b=(i,0)∧rdI 8 b= .ok (i,[])∧b.length≤16384)∨((gi b).2≠0∧(b.length≤16384→ ∀i,rdI 8 b≠ .ok (i,[]))):=by
  unfold gi
  by_cases hl:(b.length:Int)>16384
  · right
    rw [if_pos (by simpa using hl)]
    exact ⟨by simp,fun h=>by omega⟩
  rw [if_neg (by simpa using hl)]
  have h8:cQ ⟨b,0⟩ 8=fv 8 ⟨b,0⟩:=rfl
  have hr:=w6 8 b hb
  simp only [ab,im,h8,qr]
  cases hd:rdI 8 b with
  | error e=>
    rw [hd] at hr
    simp only [dL] at hr
    right
    refine ⟨?_,fun _ i h=>by cases h⟩
    have hne:(fv 8 ⟨b,0⟩).2.e≠0:=by rw [hr.1];exact hr.2
    have hf:(er (fv 8 ⟨b,0⟩).2 3).e≠0:=by unfold er;simp [hne]
    split<;>simp [hne,hf]
  | ok p=>
    obtain ⟨i,r⟩:=p
    rw [hd] at hr
    simp only [dL] at hr
    rw [hr]
    cases r with
    | nil=>left;exact ⟨i,by simp,rfl,by omega⟩
    | cons x r=>
      right
      refine ⟨?_,fun _ j h=>by cases h⟩
      simp [er]
theorem LO {i:aa} (hw:aQ i 8=true) (ho:okI i):rdI 8 (bz i)= .ok (i,[]):=by
  have:=Jr 8 i [] hw ho
  simpa using this
theorem C1 {B:List Int} (hB:B.length=32) {F:(Int×List Int→List Int×Bool)→Int×List Int→List Int×Bool} {d:Int×List Int→List Int×Bool}
    (hF: ∀ag p,F ag p=if decide (p.1<32)=true then ag (p.1+1,au 32 (st (au 32 p.2) p.1 (gt B p.1))) else (p.2,true)):
    ∀(m fuel k:Nat),k+m=32→m<fuel→ ∀a:List Int,a.length=32→a.take k=B.take k→ah fuel F d ((k:Int),a)=(B,true)
  | 0,fuel,k,hk,hf,a,ha,he=>by
    obtain ⟨f,rfl⟩: ∃f,fuel=f+1:=⟨fuel - 1,by omega⟩
    have: ¬(k:Int)<32:=by omega
    rw [ah,hF]
    rw [List.take_of_length_le (by omega),List.take_of_length_le (by omega)] at he
    simp [this,he]
  | m+1,fuel,k,hk,hf,a,ha,he=>by
    obtain ⟨f,rfl⟩: ∃f,fuel=f+1:=⟨fuel - 1,by omega⟩
    have:(k:Int)<32:=by omega
    rw [ah,hF,if_pos (by simpa using this)]
    have e:au 32 (st (au 32 a) (k:Int) (gt B (k:Int)))=a.set k (gt B (k:Int)):=by
      rw [lj ha,lj (by rw [ja];exact ha)];rfl
    simp only [e]
    rw [show ((k:Int)+1)=((k+1:Nat):Int) from rfl]
    refine C1 hB hF m f (k+1) (by omega) (by omega) _ (by simp [ha]) ?_
    have hkB:k<B.length:=by omega
    have hka:k<a.length:=by omega
    rw [List.take_succ_eq_append_getElem hkB,List.take_succ_eq_append_getElem (by simp [hka])]
    rw [List.take_set_of_le (Nat.le_refl k),he]
    simp [gt,List.getD_eq_getElem?_getD,hkB]
theorem tL (i:aa):lD i=dr i:=by
  rw [xY]
  unfold lD
  by_cases h1:i.Kind=2
  · by_cases h2:i.B.length=32
    · have h3: ¬((i.B.length:Int) !=32)=true:=by simp [h2]
      rw [if_neg (by simp [h1]),if_neg h3]
      have:=C1 (d:=fun _=>default) h2 (fun ag p=>rfl) 32 33 0 rfl (by omega) [0,0,0,0,0,0,0,0,0,0,0,0,0,0,0,0,0,0,0,0,0,0,0,0,0,0,0,0,0,0,0,0] rfl (by simp)
      rw [show (((32:Int) - 0).toNat+1)=33 from rfl]
      refine Eq.trans this ?_
      simp [h1,h2,lj h2]
    · have: ¬(i.B.length:Int)=32:=by omega
      simp [h1,h2,this]
  · simp [h1]
theorem oC {i:aa} (n:Int) (hv:aQ i 8=true):dF i n=if (aN i).2=0∧((aN i).1.length:Int)=n then ((aN i).1,true) else ([],false):=by
  have hs:(fun (x:aa) (o:List Int)=>if x.Kind≠1 then Sum.inr (([]:List Int),false) else Sum.inl (o++[x.N]))=(fun a s=>ct (.inr (([]:List Int),false)) (fun y=> .inl (s++[y])) (gQ a)):=by
    funext a s
    unfold gQ
    by_cases h:a.Kind=1<;>simp [h,ct]
  rw [Co,qu,hv,hs,tA]
  by_cases h1:i.Kind=3
  · cases hr:dg gQ i.L with
    | none=>simp [h1,ct]
    | some m=>
      have:=xz hr
      simp only [h1,ct,List.nil_append]
      by_cases h2:(i.L.length:Int)=n
      · simp [h2,this]
      · simp [h2,this]
  · simp [h1]
theorem gS {i:aa} (hv:aQ i 8=true) (h1:i.Kind=3) {j:Int} (hj:j.toNat<i.L.length):aQ (gt i.L j) 8=true:=by
  have ei:=tz hv h1
  exact tw _ (by omega) ((tx (ei▸hv)).2 _ (cm hj))
theorem ya {i:aa} (hv:aQ i 8=true):mN i=((cU i).1,decide ((cU i).2=0)):=by
  unfold mN cU
  simp only [ab,iH,hv,tL,xY]
  by_cases h1:i.Kind=3
  · by_cases h2:(i.L.length:Int)=3
    · have v0:=gS hv h1 (j:=0) (by omega)
      have v2:=gS hv h1 (j:=2) (by omega)
      rw [oC 5 v0,oC 4 v2]
      generalize aN (gt i.L 0)=P
      generalize aN (gt i.L 2)=Q
      obtain ⟨p,e⟩:=P
      obtain ⟨q,f⟩:=Q
      by_cases a1:e=0
      · by_cases a2:(p.length:Int)=5
        · by_cases a3:(gt i.L 1).Kind=2
          · by_cases a4:(gt i.L 1).B.length=32
            · by_cases a5:f=0
              · by_cases a6:(q.length:Int)=4
                · simp [h1,h2,a1,a2,a3,a4,a5,a6]
                · simp [h1,h2,a1,a2,a3,a4,a5,a6]
              · simp [h1,h2,a1,a2,a3,a4,a5]
            · have: ¬((gt i.L 1).B.length:Int)=32:=by omega
              by_cases a5:f=0<;>by_cases a6:(q.length:Int)=4<;>simp [h1,h2,a1,a2,a3,a4,a5,a6,this]
          · by_cases a5:f=0<;>by_cases a6:(q.length:Int)=4<;>simp [h1,h2,a1,a2,a3,a5,a6]
        · by_cases a5:f=0<;>simp [h1,h2,a1,a2,a5]
      · simp [h1,h2,a1]
    · simp [h1,h2]
  · simp [h1]
theorem C2 {i:aa} (hv:aQ i 8=true):lA i=(gt (dF i 2).1 0,gt (dF i 2).1 1,(dF i 2).2):=by
  rw [oC 2 hv]
  unfold lA
  simp only [ab]
  generalize aN i=P
  obtain ⟨p,e⟩:=P
  by_cases a1:e=0
  · by_cases a2:(p.length:Int)=2
    · simp [a1,a2]
    · simp [a1,a2];exact ⟨rfl,rfl⟩
  · simp [a1];exact ⟨rfl,rfl⟩
theorem LP {L:List aa} (hL:1≤L.length) {q:aA} {E:aA×List (List Int)→aA×Bool} {F:(Int×aA×List (List Int)→aA×Bool)→Int×aA×List (List Int)→aA×Bool} {d:Int×aA×List (List Int)→aA×Bool}
    (hF: ∀ag p,F ag p=if decide (p.1<(L.length:Int))=true then (if (!(dr (gt L p.1)).2)=true then (bG,false) else ag (p.1+1,p.2.1,p.2.2++[(dr (gt L p.1)).1])) else E p.2):
    ah (((L.length:Int) - 1).toNat+1) F d (1,q,[])=ct (bG,false) (fun m=>E (q,m)) (dg iK (L.drop 1)):=by
  have:=Bi (l:=L) (d:=d) (F:=F) (E:=E) (st:=fun a (s:aA×List (List Int))=>ct (.inr (bG,false)) (fun y=> .inl (s.1,s.2++[y])) (iK a)) (fun ag j s=>by
      rw [hF]
      by_cases h:j<(L.length:Int)
      · cases h2:(dr (gt L j)).2<;>simp [h,h2,iK,ct]
      · simp [h]) (((L.length:Int) - 1).toNat+1) 1 (q,[]) hL (by omega)
  refine Eq.trans this (xX.trans ?_)
  simp
theorem LQ {α β:Type} {A:α×Bool} {B:α×Int} {o:Option β} {z:α} {g:β→α} (hA:A=ct (z,false) (fun m=>(g m,true)) o) (hB:B=ct (z,(3:Int)) (fun m=>(g m,(0:Int))) o):A=(B.1,decide (B.2=0)):=by
  rw [hA,hB]
  cases o<;>simp [ct]
theorem C3 {i:aa} (h:i.Kind≠3):(aN i).2≠0:=by
  rw [qu]
  split
  · simp
  · simp [h]
theorem LR {i:aa} (hv:aQ i 8=true):kg i=((de i).1,decide ((de i).2=0)):=by
  by_cases h1:i.Kind=3
  rotate_left
  · unfold kg de
    simp [ab,iH,hv,h1]
  by_cases h2:(i.L.length:Int)=6
  rotate_left
  · unfold kg de
    simp [ab,iH,hv,h1,h2]
  have v0:=gS hv h1 (j:=0) (by omega)
  have v1:=gS hv h1 (j:=1) (by omega)
  have v3:=gS hv h1 (j:=3) (by omega)
  have v4:=gS hv h1 (j:=4) (by omega)
  unfold kg de
  simp only [ab,iH,hv,tL,ya v0,C2 v1,C2 v3,oC _ v4]
  have k4:=C3 (i:=gt i.L 4)
  have l4:=qt (i:=gt i.L 4) rfl
  generalize cU (gt i.L 0)=C
  generalize dF (gt i.L 1) 2=N1
  generalize dr (gt i.L 2)=H
  generalize dF (gt i.L 3) 2=N3
  generalize aN (gt i.L 4)=P at k4 l4
  obtain ⟨c,ce⟩:=C
  obtain ⟨n1,b1⟩:=N1
  obtain ⟨h,hb⟩:=H
  obtain ⟨n3,b3⟩:=N3
  obtain ⟨p,e⟩:=P
  simp only at k4 l4
  by_cases a0:ce=0
  rotate_left
  · simp [h1,h2,a0]
  cases b1
  · simp [h1,h2,a0]
  cases hb
  · simp [h1,h2,a0]
  cases b3
  · simp [h1,h2,a0]
  by_cases a1:e=0
  rotate_left
  · by_cases g1:(gt i.L 4).Kind=3<;>by_cases g2:bJ .i64 ((gt i.L 4).L.length:Int) 3=0<;>simp [h1,h2,a0,a1,g1,g2]
  have g1:(gt i.L 4).Kind=3:=Classical.byContradiction fun hk=>k4 hk a1
  have g2:(p.length:Int)=((gt i.L 4).L.length:Int):=l4.resolve_left (fun hk=>hk a1)
  rw [←g2]
  by_cases a2:bJ .i64 (p.length:Int) 3=0
  rotate_left
  · simp [h1,h2,a0,a1,g1,a2]
  by_cases a3:(gt i.L 5).Kind=3
  rotate_left
  · simp [h1,h2,a0,a1,g1,a2,a3]
  by_cases a4:(gt i.L 5).L.length=0
  · simp [h1,h2,a0,a1,g1,a2,a3,a4]
  have a4': ¬((gt i.L 5).L.length:Int)=0:=by omega
  have a4'': ¬((gt i.L 5).L.length:Int)<1:=by omega
  by_cases a5:(gt (gt i.L 5).L 0).Kind=1
  rotate_left
  · simp [h1,h2,a0,a1,g1,a2,a3,a4',a4'',a5]
  have hm: ∃m,p.length=3*m:=⟨p.length/3,by rw [jM] at a2;omega⟩
  obtain ⟨m,hm⟩:=hm
  simp only [h1,h2,a0,a1,g1,a2,a3,a4',a4'',a5,CX]
  simp only [bne_self_eq_false,Bool.not_true,Bool.false_eq_true,if_false,decide_true,decide_false,and_self,if_true,beq_iff_eq,a4']
  refine LQ (z:=bG) (o:=dg iK ((gt i.L 5).L.drop 1)) (g:=fun mm=>⟨c,⟨gt n1 0,gt n1 1⟩,⟨h,gt n3 0,gt n3 1⟩,[]++kl (p.drop (3*0)),⟨(gt (gt i.L 5).L 0).N,mm⟩⟩) ?_ ?_
  · refine (xW (m:=m) hm (fun ag q=>rfl) _ 0 [] (Nat.zero_le _) (by omega)).trans ?_
    exact LP (by omega) (E:=fun s=>(⟨c,⟨gt n1 0,gt n1 1⟩,⟨h,gt n3 0,gt n3 1⟩,[]++kl (p.drop (3*0)),⟨(gt (gt i.L 5).L 0).N,s.2⟩⟩,true)) (fun ag q=>rfl)
  · refine (xW (m:=m) hm (fun ag q=>rfl) _ 0 [] (Nat.zero_le _) (by omega)).trans ?_
    exact CY (t:=(gt i.L 5).L.drop 1) (E:=fun s=>(⟨c,⟨gt n1 0,gt n1 1⟩,⟨h,gt n3 0,gt n3 1⟩,[]++kl (p.drop (3*0)),⟨(gt (gt i.L 5).L 0).N,s.2⟩⟩,0))
theorem C4 {i:aa} (hv:aQ i 8=true) (h1:i.Kind=3): ∀x∈i.L,aQ x 8=true:=by
  have ei:=tz hv h1
  exact fun x hx=>tw x (by omega) ((tx (ei▸hv)).2 x hx)
theorem yb {b:List Int}:ca b 0=match rdI 8 b with| .ok (i,r)=>(i,r,0)| .error e=>(bT,[],e):=rfl
theorem LS {b:List Int} (hb:isB b):(∃i,gi b=(i,0)∧mM b=(i,0)∧aQ i 8=true)∨((gi b).2≠0∧(mM b).2≠0):=by
  rcases C0 hb with ⟨i,h1,h2,h3⟩|⟨h1,h2⟩
  · left
    refine ⟨i,h1,?_,(sV 8 b i [] hb h2).2.1⟩
    unfold mM
    rw [if_neg (by simp;omega)]
    simp [ab,yb,h2]
  · right
    refine ⟨h1,?_⟩
    unfold mM
    by_cases hl:b.length≤16384
    · rw [if_neg (by simp;omega)]
      simp only [ab]
      cases hd:rdI 8 b with
      | error e=>
        have:=Ck hb hd;have hx:ca b 0=(bT,[],e):=by rw [yb,hd]
        simp [hx,this]
      | ok p=>
        obtain ⟨i,r⟩:=p
        cases r with
        | nil=>exact absurd hd (h2 hl i)
        | cons x r=>
          have hx:ca b 0=(i,x::r,0):=by rw [yb,hd]
          simp [hx]
    · rw [if_pos (by simp;omega)]
      simp
theorem qA {α:Type} [Inhabited α] {l:List α} {n:Nat} {i:Int} (h0:0≤i) (h:i.toNat<n):gt (au n l) i=gt l i:=by
  have:=sS (l:=l) (k:=n) (i:=0) (j:=i.toNat) h
  unfold au
  rw [show gt (eG l n 0) i=(eG l n ((0:Nat):Int)).getD i.toNat default from rfl,this]
  congr 1;omega
theorem fy {n:Int} {C:Int→Bool} {X:Bool} {F:(Int→Bool)→Int→Bool} {d:Int→Bool} (hF: ∀ag p,F ag p=if decide (p<n)=true then (if C p=true then ag (p+1) else false) else X)
    (hC: ∀p,0≤p→p<n→C p=true) (hX:X=true):ah ((n - 0).toNat+1) F d 0=true:=
  (Bh hF _ 0 (by omega)).2 ⟨hC,hX⟩
theorem yc {x:Int} {l:List Int} (h1:0≤x∧x≤255) (h2:isB l):isB (x::l):=fun y hy=>by
  rcases List.mem_cons.1 hy with rfl|h
  · exact h1
  · exact h2 y h
mutual
theorem C5: ∀(i:aa),okI i→isB (bz i)
  | ⟨k,n,b,l⟩,h=>by
    simp only [okI] at h
    simp only [bz]
    split
    · exact yc (by omega) sT
    split
    · exact yc (by omega) (ov sT h.2.1)
    · exact yc (by omega) (ov sT (C6 l h.2.2.2))
theorem C6: ∀(l:List aa),okL l→isB (ep l)
  | [],_=>fun x hx=>by cases hx
  | x::l,h=>by
    simp only [okL] at h
    simp only [ep]
    exact ov (C5 x h.1) (C6 l h.2)
end
theorem C7: ∀{l:List aa},(∀x∈l,okI x)→okL l
  | [],_=>trivial
  | x::l,h=>⟨h x (by simp),C7 (fun y hy=>h y (by simp [hy]))⟩
theorem C8:isB []:=fun x hx=>by cases hx
def r64 (n:Int):Prop:= -9223372036854775808≤n∧n≤9223372036854775807
theorem yd {n:Int} (h:r64 n):okI (cR n):=⟨h,C8,by decide,trivial⟩
theorem iL {l:List aa} (h: ∀x∈l,okI x):okI (bc l):=⟨by omega,C8,by simp,C7 h⟩
theorem gT {l:List Int} (h: ∀x∈l,r64 x):okI (aS l):=iL (fun x hx=>by
  obtain ⟨n,hn,rfl⟩:=List.mem_map.1 hx
  exact yd (h n hn))
theorem tM {b:List Int} (h:isB b) (hl:b.length=32):okI (bE b):=⟨by omega,h,by omega,trivial⟩
theorem mV {α:Type} {f:α→V}: ∀{l:List α},wfL (l.map f)→ ∀x∈l,wfV (f x)
  | a::l,h,x,hx=>by
    simp only [List.map_cons,wfL] at h
    rcases List.mem_cons.1 hx with rfl|h1
    · exact h.1
    · exact mV h.2 x h1
theorem tN {l:List Int} (h:wfV (bI l)):isB (au 32 l):=by
  refine fw ?_
  simp only [bI,wfV,wfL] at h
  simp only [au,eG,List.map_cons,List.map_nil,wfL,wfV,Int.zero_add,Int.reduceAdd]
  exact h
theorem ye {c:br} (h:wfV (dJ c)):okI (cb c):=by
  have ha:wfV (bI c.Root):=by
    simp only [dJ,bI,wfV,wfL] at h⊢
    simp only [h,and_self]
  simp only [dJ,wfV,wfL,ip] at h
  refine iL (fun x hx=> ?_)
  simp only [List.mem_cons,List.not_mem_nil,or_false] at hx
  rcases hx with rfl|rfl|rfl
  · refine gT (fun x hx=> ?_)
    simp only [List.mem_cons,List.not_mem_nil,or_false] at hx
    rcases hx with rfl|rfl|rfl|rfl|rfl<;>simp only [r64,h,and_self]
  · exact tM (tN ha) cq
  · refine gT (fun x hx=> ?_)
    simp only [List.mem_cons,List.not_mem_nil,or_false] at hx
    rcases hx with rfl|rfl|rfl|rfl<;>simp only [r64,h,and_self]
theorem LT {l:List bS} (h:wfL (l.map eJ)): ∀x∈fj l,r64 x:=by
  intro x hx
  obtain ⟨y,hy,hx⟩:=List.mem_flatMap.1 hx
  have:=mV h y hy
  simp only [eJ,wfV,wfL,ip] at this
  simp only [List.mem_cons,List.not_mem_nil,or_false] at hx
  rcases hx with rfl|rfl|rfl<;>simp only [r64,this,and_self]
theorem LU {s:aA} (h:wfV (bX s)):okI (cT s):=by
  have hc:wfV (dJ s.Coin):=by
    simp only [bX,dJ,wfV,wfL] at h⊢
    simp only [h,and_self]
  have hp:wfV (bI s.Context.Payee):=by
    simp only [bX,bI,wfV,wfL] at h⊢
    simp only [h,and_self]
  have hn:r64 s.Node.Level∧r64 s.Node.Index∧r64 s.Context.Time∧r64 s.Context.Number∧r64 s.Path.Index∧wfL (s.Leaves.map eJ)∧wfL (s.Path.L.map bI):=by
    simp only [bX,wfV,wfL,ip] at h
    simp only [r64,h,and_self]
  obtain ⟨n1,n2,n3,n4,n5,n6,n7⟩:=hn
  refine iL (fun x hx=> ?_)
  simp only [List.mem_cons,List.not_mem_nil,or_false] at hx
  rcases hx with rfl|rfl|rfl|rfl|rfl|rfl
  · exact ye hc
  · exact gT (fun x hx=>by simp only [List.mem_cons,List.not_mem_nil,or_false] at hx;rcases hx with rfl|rfl<;>assumption)
  · exact tM (tN hp) cq
  · exact gT (fun x hx=>by simp only [List.mem_cons,List.not_mem_nil,or_false] at hx;rcases hx with rfl|rfl<;>assumption)
  · exact gT (LT n6)
  · refine iL (fun x hx=> ?_)
    rcases List.mem_cons.1 hx with rfl|hx
    · exact yd n5
    · obtain ⟨y,hy,rfl⟩:=List.mem_map.1 hx
      exact tM (tN (mV n7 y hy)) cq
theorem LV {l:List aA} (h:wfL (l.map bX)):okI (bc (l.map cT)):=iL (fun x hx=>by
  obtain ⟨y,hy,rfl⟩:=List.mem_map.1 hx
  exact LU (mV h y hy))
theorem C_: ∀X:List (List Int),ez (bY X)=X.map fun p=> [gt p 0,gt p 1]
  | []=>rfl
  | p::X=>by
    have:=C_ X
    simp only [bY,List.flatMap_cons] at this⊢
    simp only [List.cons_append,List.nil_append,ez,List.map_cons,this]
theorem LW {i:aa} (hv:aQ i 8=true):jp i=((aN i).1,decide ((aN i).2=0)):=by
  have hs:(fun (x:aa) (o:List Int)=>if x.Kind≠1 then Sum.inr (([]:List Int),false) else Sum.inl (o++[x.N]))=(fun a s=>ct (.inr (([]:List Int),false)) (fun y=> .inl (s++[y])) (gQ a)):=by
    funext a s
    unfold gQ
    by_cases h:a.Kind=1<;>simp [h,ct]
  rw [qu,hv]
  unfold jp
  by_cases h1:i.Kind=3
  · have:=jf (l:=i.L) (d:=fun _=>default) (fun x o=>if x.Kind≠1 then .inr (([]:List Int),false) else .inl (o++[x.N])) (fun o=>(o,true)) (F:=fun (ag3:(Int×List Int)→((List Int)×Bool)) (p3:Int×List Int)=>(if (decide (p3.1<(i.L.length:Int))) then (if ((gt i.L p3.1).Kind !=1) then (([]:List Int),false) else (ag3 ((p3.1+1),(p3.2++([(gt i.L p3.1).N]:List Int))))) else (p3.2,true))) (s:=[]) (fun ag j s=>by
        simp only [decide_eq_true_eq,bne_iff_ne,ne_eq]
        by_cases hj:j<(i.L.length:Int)
        · by_cases hk:(gt i.L j).Kind=1<;>simp [hj,hk]
        · simp [hj])
    simp only [h1,bne_self_eq_false,Bool.false_eq_true,if_false]
    rw [this,hs,tA]
    cases hr:dg gQ i.L with
    | none=>simp [ct]
    | some m=>simp [ct]
  · simp [h1]
theorem Da {s:List Int} {R:Type} {E:Int×List (List Int)→R} {F:(Int×List (List Int)→R)→Int×List (List Int)→R} {d:Int×List (List Int)→R} (he:s.length% 2=0) (h2:2≤s.length)
    (hF: ∀ag p,F ag p=if decide (p.1<(s.length:Int))=true then ag (p.1+2,p.2++([[gt s p.1,gt s (p.1+1)]]:List (List Int))) else E p):
    ah (((s.length:Int) - 2).toNat+1) F d (2,[])=E ((s.length:Int),ez (s.drop 2)):=by
  have key: ∀(n:Nat) (k:Nat) (o:List (List Int)),s.length=2*n+k→ ∀fuel,n<fuel→ah fuel F d ((k:Int),o)=E ((s.length:Int),o++ez (s.drop k)):=by
    intro n
    induction n with
    | zero=>
      intro k o h1 fuel hf
      obtain ⟨f,rfl⟩: ∃f,fuel=f+1:=⟨fuel - 1,by omega⟩
      have:k=s.length:=by omega
      subst this
      rw [ah,hF,if_neg (by simp)]
      simp [ez]
    | succ n ih=>
      intro k o h1 fuel hf
      obtain ⟨f,rfl⟩: ∃f,fuel=f+1:=⟨fuel - 1,by omega⟩
      rw [ah,hF,if_pos (by simp;omega)]
      have:=ih (k+2) (o++[[gt s k,gt s (k+1)]]) (by omega) f (by omega)
      simp only [Int.natCast_add] at this
      refine this.trans ?_
      have hk:k<s.length:=by omega
      have hk1:k+1<s.length:=by omega
      rw [List.drop_eq_getElem_cons hk,List.drop_eq_getElem_cons hk1]
      have e:gt s (k:Int)=s[k]:=by simp [gt,List.getD_eq_getElem?_getD,hk]
      have e1:gt s ((k:Int)+1)=s[k+1]:=by
        have:((k:Int)+1).toNat=k+1:=by omega
        simp [gt,List.getD_eq_getElem?_getD,this,hk1]
      simp only [ez,e,e1,List.append_assoc,List.singleton_append]
  have:=key ((s.length - 2)/2) 2 [] (by omega) (((s.length:Int) - 2).toNat+1) (by omega)
  simpa using this
theorem LX {R:Type} {F:(Int×aL×List (List Int)→R)→Int×aL×List (List Int)→R} {d:Int×aL×List (List Int)→R} {N:Int→List Int×Int} {z:R} {E:List (List Int)→R} {w0:aL}
    (hF: ∀ag p,F ag p=if decide (p.1<4)=true then (ab (N p.1) fun x=>if (x.2 !=0)=true then z else ag (p.1+1,p.2.1,au 4 (st (au 4 p.2.2) p.1 x.1))) else E p.2.2):
    ah (((4:Int) - 0).toNat+1) F d (0,w0,[([]:List Int),([]:List Int),([]:List Int),([]:List Int)])=
      if (N 0).2≠0 then z else if (N 1).2≠0 then z else if (N 2).2≠0 then z else if (N 3).2≠0 then z else E [(N 0).1,(N 1).1,(N 2).1,(N 3).1]:=by
  show ah 5 F d _=_
  have r0: ∀a,ah 5 F d a=F (ah 4 F d) a:=fun _=>rfl
  have r1: ∀a,ah 4 F d a=F (ah 3 F d) a:=fun _=>rfl
  have r2: ∀a,ah 3 F d a=F (ah 2 F d) a:=fun _=>rfl
  have r3: ∀a,ah 2 F d a=F (ah 1 F d) a:=fun _=>rfl
  have r4: ∀a,ah 1 F d a=F (ah 0 F d) a:=fun _=>rfl
  have e0:au 4 (st (au 4 [([]:List Int),[],[],[]]) 0 (N 0).1)=[(N 0).1,[],[],[]]:=rfl
  have e1:au 4 (st (au 4 [(N 0).1,[],[],[]]) 1 (N 1).1)=[(N 0).1,(N 1).1,[],[]]:=rfl
  have e2:au 4 (st (au 4 [(N 0).1,(N 1).1,[],[]]) 2 (N 2).1)=[(N 0).1,(N 1).1,(N 2).1,[]]:=rfl
  have e3:au 4 (st (au 4 [(N 0).1,(N 1).1,(N 2).1,[]]) 3 (N 3).1)=[(N 0).1,(N 1).1,(N 2).1,(N 3).1]:=rfl
  rw [r0,hF,if_pos (show decide ((0:Int)<4)=true from rfl)]
  simp only [ab,bne_iff_ne]
  split
  · rfl
  rw [e0,show (0:Int)+1=1 from rfl,r1,hF,if_pos (show decide ((1:Int)<4)=true from rfl)]
  simp only [ab,bne_iff_ne]
  split
  · rfl
  rw [e1,show (1:Int)+1=2 from rfl,r2,hF,if_pos (show decide ((2:Int)<4)=true from rfl)]
  simp only [ab,bne_iff_ne]
  split
  · rfl
  rw [e2,show (2:Int)+1=3 from rfl,r3,hF,if_pos (show decide ((3:Int)<4)=true from rfl)]
  simp only [ab,bne_iff_ne]
  split
  · rfl
  rw [e3,show (3:Int)+1=4 from rfl,r4,hF,if_neg (show¬decide ((4:Int)<4)=true by decide)]
theorem oD (n:Nat):bJ .i64 (n:Int) 2=((n% 2:Nat):Int):=by rw [jM];omega
theorem Db {a s f v:List Int} {c:br} {o:Bool} {F:(Int×List (List Int)→aL×Int)→Int×List (List Int)→aL×Int} {d:Int×List (List Int)→aL×Int}
    (hF: ∀ag p,F ag p=if decide (p.1<(s.length:Int))=true then ag (p.1+2,p.2++([[gt s p.1,gt s (p.1+1)]]:List (List Int))) else (fin a s f v c p.2,0)):
    (if (!o)=true then (bw,3) else if ((a.length:Int) !=6)=true then (bw,3) else if decide ((s.length:Int)<2)=true then (bw,3) else if (bJ .i64 (s.length:Int) 2 !=0)=true then (bw,3) else if ((f.length:Int) !=3)=true then (bw,3) else if ((v.length:Int) !=6)=true then (bw,3) else ah (((s.length:Int) - 2).toNat+1) F d (2,[]))=ow a s f v c o:=by
  unfold ow
  cases o
  · simp
  by_cases h1:a.length=6
  · by_cases h2:2≤s.length
    · by_cases h3:s.length% 2=0
      · by_cases h4:f.length=3
        · by_cases h5:v.length=6
          · rw [if_neg (by decide),if_neg (by simp [h1]),if_neg (by simp;omega),if_neg (by rw [oD,h3];decide),if_neg (by simp [h4]),if_neg (by simp [h5]),Da (E:=fun p=>(fin a s f v c p.2,0)) h3 h2 hF,if_pos ⟨rfl,h1,h2,h3,h4,h5⟩]
          · rw [if_neg (by decide),if_neg (by simp [h1]),if_neg (by simp;omega),if_neg (by rw [oD,h3];decide),if_neg (by simp [h4]),if_pos (by simp;omega),if_neg (by simp [h5])]
        · rw [if_neg (by decide),if_neg (by simp [h1]),if_neg (by simp;omega),if_neg (by rw [oD,h3];decide),if_pos (by simp;omega),if_neg (by simp [h4])]
      · rw [if_neg (by decide),if_neg (by simp [h1]),if_neg (by simp;omega),if_pos (by rw [oD];simp;omega),if_neg (by simp [h3])]
    · rw [if_neg (by decide),if_neg (by simp [h1]),if_pos (by simp;omega),if_neg (by simp [h2])]
  · rw [if_neg (by decide),if_pos (by simp;omega),if_neg (by simp [h1])]
def km (i:aa):aL×Int:=
  if aQ i 8=false then (bw,1) else if i.Kind≠3∨i.L.length≠5 then (bw,3) else
  if (aN (gt i.L 0)).2≠0∨(aN (gt i.L 1)).2≠0∨(aN (gt i.L 2)).2≠0∨(aN (gt i.L 3)).2≠0 then (bw,3) else
  ow (aN (gt i.L 0)).1 (aN (gt i.L 1)).1 (aN (gt i.L 2)).1 (aN (gt i.L 3)).1 (cU (gt i.L 4)).1 (decide ((cU (gt i.L 4)).2=0))
theorem LY {e:Int}:(e !=0)= !decide (e=0):=by by_cases h:e=0<;>simp [h]
theorem Dc {i:aa} (hv:aQ i 8=false):km i=(bw,1):=by
  unfold km
  rw [if_pos hv]
theorem tO {i:aa} (hv:aQ i 8=true) (h:i.Kind≠3∨i.L.length≠5):km i=(bw,3):=by
  unfold km
  rw [if_neg (by rw [hv];decide),if_pos h]
theorem Dd {i:aa} (hv:aQ i 8=true) (hk:i.Kind=3) (hl:i.L.length=5):km i=if (aN (gt i.L 0)).2≠0∨(aN (gt i.L 1)).2≠0∨(aN (gt i.L 2)).2≠0∨(aN (gt i.L 3)).2≠0 then (bw,3) else
  ow (aN (gt i.L 0)).1 (aN (gt i.L 1)).1 (aN (gt i.L 2)).1 (aN (gt i.L 3)).1 (cU (gt i.L 4)).1 (decide ((cU (gt i.L 4)).2=0)):=by
  unfold km
  rw [if_neg (by rw [hv];decide),if_neg (by simp [hk,hl])]
theorem LZ {a b c d:Int} {α:Type} {z e:α}:(if a≠0 then z else if b≠0 then z else if c≠0 then z else if d≠0 then z else e)=if a≠0∨b≠0∨c≠0∨d≠0 then z else e:=by
  by_cases h0:a=0<;>by_cases h1:b=0<;>by_cases h2:c=0<;>by_cases h3:d=0<;>simp [h0,h1,h2,h3]
theorem De (i:aa):dN i=km i:=by
  unfold dN
  refine fS fun x1 h1=> ?_
  rw [iH] at h1
  subst h1
  cases hv:aQ i 8 with
  | false=>rw [if_pos (by decide),Dc hv]
  | true=>
  rw [if_neg (by decide)]
  by_cases hk:i.Kind=3
  · by_cases hl:i.L.length=5
    · rw [if_neg (by simp [hk]),if_neg (by simp;omega),Dd hv hk hl]
      refine (LX (N:=fun k=>aN (gt i.L k)) (z:=(bw,3)) (E:=fun L=>ow (gt L 0) (gt L 1) (gt L 2) (gt L 3) (cU (gt i.L 4)).1 (decide ((cU (gt i.L 4)).2=0))) ?_).trans LZ
      intro ag p
      by_cases hp:decide (p.1<4)=true
      · rw [if_pos hp,if_pos hp]
      · rw [if_neg hp,if_neg hp]
        simp only [ab]
        rw [LY]
        exact Db (fun ag p=>rfl)
    · rw [if_neg (by simp [hk]),if_pos (by simp;omega),tO hv (.inr hl)]
  · rw [if_pos (by simp [hk]),tO hv (.inl hk)]
theorem L1 (i:aa):lF i=km i:=by
  unfold lF
  refine fS fun x1 h1=> ?_
  rw [xB] at h1
  subst h1
  cases hv:aQ i 8 with
  | false=>rw [if_pos (by decide),Dc hv]
  | true=>
  rw [if_neg (by decide)]
  by_cases hk:i.Kind=3
  · by_cases hl:i.L.length=5
    · rw [if_neg (by simp [hk]),if_neg (by simp;omega),Dd hv hk hl]
      refine fS fun x13 h13=> ?_
      refine fS fun x17 h17=> ?_
      refine fS fun x21 h21=> ?_
      refine fS fun x25 h25=> ?_
      refine fS fun x29 h29=> ?_
      rw [LW (gS hv hk (by show (_:Nat)<_;omega))] at h13 h17 h21 h25
      rw [ya (gS hv hk (by show (_:Nat)<_;omega))] at h29
      subst h13 h17 h21 h25 h29
      simp only
      by_cases n0:(aN (gt i.L 0)).2=0
      · by_cases n1:(aN (gt i.L 1)).2=0
        · by_cases n2:(aN (gt i.L 2)).2=0
          · by_cases n3:(aN (gt i.L 3)).2=0
            · rw [if_neg (by simp [n0]),if_neg (by simp [n1]),if_neg (by simp [n2]),if_neg (by simp [n3]),if_neg (c:=_∨_) (by simp [n0,n1,n2,n3])]
              exact Db (fun ag p=>rfl)
            · simp [n0,n1,n2,n3]
          · simp [n0,n1,n2]
        · simp [n0,n1]
      · simp [n0]
    · rw [if_neg (by simp [hk]),if_pos (by simp;omega),tO hv (.inr hl)]
  · rw [if_pos (by simp [hk]),tO hv (.inl hk)]
theorem Df (p:List Int):fg [gt p 0,gt p 1] p=true:=by
  simp only [fg]
  rw [show gt [gt p 0,gt p 1] 0=gt p 0 from rfl,show gt [gt p 0,gt p 1] 1=gt p 1 from rfl]
  simp
theorem L2 {α:Type} {c:Bool} {x y:α}:(if (!c)=true then x else y)=if c=true then y else x:=by cases c<;>rfl
theorem Dh {a b:aL} (h0:a.Secret.X.length=b.Secret.X.length) (h1: ∀j:Int,0≤j→j<a.Secret.X.length→fg (gt a.Secret.X j) (gt b.Secret.X j)=true)
    (h2:a.Phase=b.Phase∧a.Number=b.Number∧a.Bank=b.Bank∧a.Epoch=b.Epoch∧a.Denom=b.Denom∧a.Depth=b.Depth∧a.Secret.U=b.Secret.U∧a.Secret.S=b.Secret.S∧a.Factors=b.Factors∧a.View=b.View) (h3:dE a.Coin b.Coin=true):gN a b=true:=by
  unfold gN
  rw [if_neg (by simp [h0])]
  refine fy (C:=fun p=>fg (gt a.Secret.X p) (gt b.Secret.X p)) (X:=(if (a.Phase==b.Phase) then (if (a.Number==b.Number) then (if (a.Bank==b.Bank) then (if (a.Epoch==b.Epoch) then (if (a.Denom==b.Denom) then (if (a.Depth==b.Depth) then (if (a.Secret.U==b.Secret.U) then (if (a.Secret.S==b.Secret.S) then (if (sO (a.Factors) (b.Factors)) then (if (sP (a.View) (b.View)) then (dE (a.Coin) (b.Coin)) else false) else false) else false) else false) else false) else false) else false) else false) else false) else false)) (fun ag p=>by simp only [L2]) h1 ?_
  obtain ⟨p1,p2,p3,p4,p5,p6,p7,p8,p9,p10⟩:=h2
  rw [if_pos (beq_iff_eq.2 p1),if_pos (beq_iff_eq.2 p2),if_pos (beq_iff_eq.2 p3),if_pos (beq_iff_eq.2 p4),if_pos (beq_iff_eq.2 p5),if_pos (beq_iff_eq.2 p6),if_pos (beq_iff_eq.2 p7),if_pos (beq_iff_eq.2 p8),p9,p10]
  rw [if_pos (by simp [sO]),if_pos (by simp [sP])]
  exact h3
theorem L3 (c:br):dE (gR c) c=true:=by simp [dE,gR,qA]
theorem tP {l:List Int} (h:l.length≤1000) {d:Int} (hd:2≤d):aQ (aS l) d=true:=by
  simp only [aS,aQ,pR,List.length_map,List.all_map]
  simp
  refine ⟨by omega,by omega,fun x hx=> ?_⟩
  simp [cR,aQ]
theorem L4 {w:aL} (h:w.Secret.X.length≤40):aQ (wI w) 8=true:=by
  have hf:=ox w.Secret.X
  have h1:=tP (l:=[w.Phase,w.Number,w.Bank,w.Epoch,w.Denom,w.Depth]) (by simp) (d:=7) (by decide)
  have h2:=tP (l:=[w.Secret.U,w.Secret.S]++bY w.Secret.X) (by simp;omega) (d:=7) (by decide)
  have h3:=tP (l:=[w.Factors.S,w.Factors.U,w.Factors.V]) (by simp) (d:=7) (by decide)
  have h4:=tP (l:=[w.View.M,w.View.Z,w.View.A,w.View.B,w.View.C,w.View.R]) (by simp) (d:=7) (by decide)
  have h5:aQ (cb w.Coin) 7=true:=by simp [cb,bc,aS,cR,bE,aQ,eK]
  unfold wI bc
  simp only [aQ,eK,show (8:Int) - 1=7 from rfl,h1,h2,h3,h4,h5]
  simp
theorem L5 {α β:Type} [Inhabited α] [Inhabited β] {l:List α} {f:α→β} {i:Int} (h0:0≤i) (h:i<l.length):gt (l.map f) i=f (gt l i):=oa (by omega)
theorem Di {w:aL} (h:w.Secret.X.length≤40): ∃x,dN (wI w)=(x,0)∧gN x w=true:=by
  have hv:=L4 h
  have hf:=ox w.Secret.X
  have hs:=lL hv (by omega)
  have n0:=iJ (hs _ (by simp:aS [w.Phase,w.Number,w.Bank,w.Epoch,w.Denom,w.Depth]∈_))
  have n1:=iJ (hs _ (by simp:aS ([w.Secret.U,w.Secret.S]++bY w.Secret.X)∈_))
  have n2:=iJ (hs _ (by simp:aS [w.Factors.S,w.Factors.U,w.Factors.V]∈_))
  have n3:=iJ (hs _ (by simp:aS [w.View.M,w.View.Z,w.View.A,w.View.B,w.View.C,w.View.R]∈_))
  have n4:=xV (c:=w.Coin) (hs _ (by simp:cb w.Coin∈_))
  refine ⟨fin [w.Phase,w.Number,w.Bank,w.Epoch,w.Denom,w.Depth] ([w.Secret.U,w.Secret.S]++bY w.Secret.X) [w.Factors.S,w.Factors.U,w.Factors.V] [w.View.M,w.View.Z,w.View.A,w.View.B,w.View.C,w.View.R] (gR w.Coin) (ez (([w.Secret.U,w.Secret.S]++bY w.Secret.X).drop 2)),?_,?_⟩
  · rw [De]
    unfold km
    have g0:gt (wI w).L 0=aS [w.Phase,w.Number,w.Bank,w.Epoch,w.Denom,w.Depth]:=rfl
    have g1:gt (wI w).L 1=aS ([w.Secret.U,w.Secret.S]++bY w.Secret.X):=rfl
    have g2:gt (wI w).L 2=aS [w.Factors.S,w.Factors.U,w.Factors.V]:=rfl
    have g3:gt (wI w).L 3=aS [w.View.M,w.View.Z,w.View.A,w.View.B,w.View.C,w.View.R]:=rfl
    have g4:gt (wI w).L 4=cb w.Coin:=rfl
    have k3:(wI w).Kind=3:=rfl
    have l5:(wI w).L.length=5:=rfl
    rw [if_neg (by rw [hv];decide),if_neg (by rw [k3,l5];decide),g0,g1,g2,g3,g4,n0,n1,n2,n3,n4,if_neg (by simp)]
    unfold ow
    refine if_pos ⟨rfl,rfl,by simp,?_,rfl,rfl⟩
    simp only [List.length_append,List.length_cons,List.length_nil,hf];omega
  · have hp:ez (([w.Secret.U,w.Secret.S]++bY w.Secret.X).drop 2)=w.Secret.X.map fun p=> [gt p 0,gt p 1]:=C_ _
    refine Dh ?_ ?_ ⟨rfl,rfl,rfl,rfl,rfl,rfl,rfl,rfl,rfl,rfl⟩ (L3 _)
    · show (ez _).length=_
      rw [hp,List.length_map]
    · intro j h0 h1
      have h1':j<((ez (([w.Secret.U,w.Secret.S]++bY w.Secret.X).drop 2)).length:Int):=h1
      show fg (gt (ez _) j) _=true
      rw [hp,List.length_map] at h1'
      rw [hp,L5 h0 h1']
      exact Df _
end Go.Proofs.YtiknkaadhomeiaaGreatDoor
namespace Go.Proofs.YtiknkaadhomeiaaGreatDoor
open Go.RowKit
set_option linter.unusedVariables false
set_option linter.unusedSimpArgs false
theorem oE {α:Type} [Inhabited α] {l:List α} {i:Int} (h0:0≤i) (h1:i<l.length):gt l i∈l:=cm (by omega)
theorem yf {β γ α:Type} (f:β→γ) {d:List γ→α}: ∀(ys:List β) (p:List γ),eX ys (fun (ag:List γ→α) (y:β) (p:List γ)=>ag (p++[f y])) d p=d (p++ys.map f)
 | [],p=>by simp [eX]
 | y::ys,p=>by
  rw [eX,yf f ys,List.append_assoc];rfl
def Dj (p_:av) (H9:List aa):List Int×Int:=
 (ah (((p_.Open.length:Int) - 0).toNat+1) (fun (ag9:(Int×List aa)→((List Int)×Int)) (p9:Int×List aa)=>(if (decide (p9.1<(p_.Open.length:Int))) then (ab (jj (gt p_.Open p9.1)) (fun (x13:aa)=>(ag9 ((p9.1+1),(p9.2++([x13]:List aa)))))) else (ab (dp ([p_.Bank,p_.U,p_.Key,p_.Next]:List Int)) (fun (x17:aa)=>(ab (dc (H9)) (fun (x19:aa)=>(ab (dc (p9.2)) (fun (x21:aa)=>(ab (dc ([({Kind:=2,N:=0,B:=(au 32 p_.Source.Seed),L:=([]:List aa)}:aa),({Kind:=1,N:=p_.Source.Counter,B:=([]:List Int),L:=([]:List aa)}:aa)]:List aa)) (fun (x23:aa)=>(ab (dc ([x17,x19,x21,x23]:List aa)) (fun (x25:aa)=>(ab (iB x25) (fun (x27:((List Int)×Int))=>(if (x27.2 !=0) then (([]:List Int),5) else (x27.1,0)))))))))))))))) (fun _=>default) (0,([]:List aa)))
def yg (p_:av) (H9 O9:List aa):List Int×Int:=
 (ab (dp ([p_.Bank,p_.U,p_.Key,p_.Next]:List Int)) (fun (x17:aa)=>(ab (dc (H9)) (fun (x19:aa)=>(ab (dc (O9)) (fun (x21:aa)=>(ab (dc ([({Kind:=2,N:=0,B:=(au 32 p_.Source.Seed),L:=([]:List aa)}:aa),({Kind:=1,N:=p_.Source.Counter,B:=([]:List Int),L:=([]:List aa)}:aa)]:List aa)) (fun (x23:aa)=>(ab (dc ([x17,x19,x21,x23]:List aa)) (fun (x25:aa)=>(ab (iB x25) (fun (x27:((List Int)×Int))=>(if (x27.2 !=0) then (([]:List Int),5) else (x27.1,0))))))))))))))
theorem L6 (p:av) (H O:List aa):yg p H O=if ((iB (bc [aS [p.Bank,p.U,p.Key,p.Next],bc H,bc O,bc [bE (au 32 p.Source.Seed),cR p.Source.Counter]])).2 !=0)=true then ([],5) else ((iB (bc [aS [p.Bank,p.U,p.Key,p.Next],bc H,bc O,bc [bE (au 32 p.Source.Seed),cR p.Source.Counter]])).1,0):=by
 unfold yg
 rw [aG,aG,aG,aG,aG,aG,mR]
 rfl
theorem yh (p:av):lv p=if ((iB (b9 p)).2 !=0)=true then ([],5) else ((iB (b9 p)).1,0):=by
 unfold lv
 refine (mT (l:=p.Holdings) ji (Dj p) (fun ag i a=>rfl)).trans ?_
 unfold Dj
 refine (mT (l:=p.Open) jj (yg p ([]++p.Holdings.map ji)) (fun ag i a=>rfl)).trans ?_
 rw [L6,List.nil_append,List.nil_append,show ji=dt from funext xK,show jj=wI from funext xD]
 rfl
def kn (i_:aa) (c9:br) (n9:List Int) (X9:List (List Int)):ay×Bool:=
 (ab (aN (gt i_.L 2)) (fun (x32:((List Int)×Int))=>(if (x32.2 !=0) then (({Coin:=c9,Secret:=({U:=(gt n9 0),S:=(gt n9 1),X:=X9}:cj),Spent:=([]:List Bool),Chain:=([]:List aA)}:ay),false) else (if ((gt i_.L 3).Kind !=3) then (({Coin:=c9,Secret:=({U:=(gt n9 0),S:=(gt n9 1),X:=X9}:cj),Spent:=([]:List Bool),Chain:=([]:List aA)}:ay),false) else (ah (((x32.1.length:Int) - 0).toNat+1) (fun (ag41:(Int×List Bool)→(ay×Bool)) (p41:Int×List Bool)=>(if (decide (p41.1<(x32.1.length:Int))) then (if ((gt x32.1 p41.1) !=0) then (if ((gt x32.1 p41.1) !=1) then (({Coin:=c9,Secret:=({U:=(gt n9 0),S:=(gt n9 1),X:=X9}:cj),Spent:=p41.2,Chain:=([]:List aA)}:ay),false) else (ag41 ((p41.1+1),(p41.2++([((gt x32.1 p41.1)==1)]:List Bool))))) else (ag41 ((p41.1+1),(p41.2++([((gt x32.1 p41.1)==1)]:List Bool))))) else (ah ((((gt i_.L 3).L.length:Int) - 0).toNat+1) (fun (ag52:(Int×List aA)→(ay×Bool)) (p52:Int×List aA)=>(if (decide (p52.1<((gt i_.L 3).L.length:Int))) then (ab (de (gt (gt i_.L 3).L p52.1)) (fun (x56:(aA×Int))=>(if (x56.2 !=0) then (({Coin:=c9,Secret:=({U:=(gt n9 0),S:=(gt n9 1),X:=X9}:cj),Spent:=p41.2,Chain:=p52.2}:ay),false) else (ag52 ((p52.1+1),(p52.2++([x56.1]:List aA))))))) else (({Coin:=c9,Secret:=({U:=(gt n9 0),S:=(gt n9 1),X:=X9}:cj),Spent:=p41.2,Chain:=p52.2}:ay),true))) (fun _=>default) (0,([]:List aA))))) (fun _=>default) (0,([]:List Bool)))))))
def qB (i_:aa) (c9:br) (n9:List Int) (X9:List (List Int)) (F9:List Bool):ay×Bool:=
 (ah ((((gt i_.L 3).L.length:Int) - 0).toNat+1) (fun (ag52:(Int×List aA)→(ay×Bool)) (p52:Int×List aA)=>(if (decide (p52.1<((gt i_.L 3).L.length:Int))) then (ab (de (gt (gt i_.L 3).L p52.1)) (fun (x56:(aA×Int))=>(if (x56.2 !=0) then (({Coin:=c9,Secret:=({U:=(gt n9 0),S:=(gt n9 1),X:=X9}:cj),Spent:=F9,Chain:=p52.2}:ay),false) else (ag52 ((p52.1+1),(p52.2++([x56.1]:List aA))))))) else (({Coin:=c9,Secret:=({U:=(gt n9 0),S:=(gt n9 1),X:=X9}:cj),Spent:=F9,Chain:=p52.2}:ay),true))) (fun _=>default) (0,([]:List aA)))
def tQ (c9:br) (n9:List Int) (X9:List (List Int)) (F9:List Bool) (C9:List aA):ay×Bool:=
 (({Coin:=c9,Secret:=({U:=(gt n9 0),S:=(gt n9 1),X:=X9}:cj),Spent:=F9,Chain:=C9}:ay),true)
def gU (h:ay):ay:={Coin:=gR h.Coin,Secret:={U:=h.Secret.U,S:=h.Secret.S,X:=(cM (bY h.Secret.X)).map (au 2)},Spent:=h.Spent,Chain:=h.Chain.map eB}
theorem L7 {i:aa} {c:br} {n:List Int} {X:List (List Int)} {F:List Bool} {l:List aA} (h:(gt i.L 3).L=l.map cT) (hs: ∀s∈l,de (cT s)=(eB s,0)):qB i c n X F=tQ c n X F (l.map eB):=by
 unfold qB
 rw [h]
 have hk:(l.map cT).map (fun s=>(de s).1)=l.map eB:=by
  rw [List.map_map]
  exact List.map_congr_left fun s hs'=>by simp only [Function.comp,hs s hs']
 refine (oy (l.map cT) (fun a i=>(i,a)) (fun a s=>a++[(de s).1]) (tQ c n X F) ?_ ?_).trans ?_
 ·intro ag a i h0 h1
  obtain ⟨s,hs1,hs2⟩:=List.mem_map.1 (oE h0 h1)
  dsimp only
  rw [if_pos (by simpa using h1),aG,if_neg (by rw [←hs2,hs s hs1];simp)]
 ·intro ag a
  dsimp only
  rw [if_neg (by simp)]
  rfl
 ·rw [mS,List.nil_append,hk]
theorem L8 {i:aa} {c:br} {n:List Int} {X:List (List Int)} {F:List Bool} {l:List aA} (h2:aN (gt i.L 2)=(F.map b2i,0)) (hk:(gt i.L 3).Kind=3) (h:(gt i.L 3).L=l.map cT) (hs: ∀s∈l,de (cT s)=(eB s,0)):kn i c n X=tQ c n X F (l.map eB):=by
 unfold kn
 rw [aG,h2,if_neg (by simp),if_neg (by rw [hk];decide)]
 have hm:(F.map b2i).map (fun x=>x==(1:Int))=F:=by
  rw [List.map_map]
  conv=>rhs;rw [←List.map_id F]
  exact List.map_congr_left fun b _=>by cases b<;>rfl
 refine (oy (F.map b2i) (fun a i=>(i,a)) (fun a x=>a++[x==(1:Int)]) (qB i c n X) ?_ ?_).trans ?_
 ·intro ag a j h0 h1
  obtain ⟨b,hb1,hb2⟩:=List.mem_map.1 (oE h0 h1)
  dsimp only
  rw [if_pos (by simpa using h1)]
  rw [←hb2]
  cases b<;>rfl
 ·intro ag a
  dsimp only
  rw [if_neg (by simp)]
  rfl
 ·rw [mS,List.nil_append,hm]
  exact L7 h hs
theorem Dk {h:ay} (hw:aQ (dt h) 8=true):gM (dt h)=(gU h,true):=by
 have hs:=lL hw (by omega)
 have hf:=ox h.Secret.X
 have n1:=iJ (hs _ (by simp:aS ([h.Secret.U,h.Secret.S]++bY h.Secret.X)∈_))
 have n2:=iJ (hs _ (by simp:aS (h.Spent.map b2i)∈_))
 have n0:=xV (c:=h.Coin) (hs _ (by simp:cb h.Coin∈_))
 have hc:=lL (hs _ (by simp:bc (h.Chain.map cT)∈_)) (by omega)
 have g0:gt (dt h).L 0=cb h.Coin:=rfl
 have g1:gt (dt h).L 1=aS ([h.Secret.U,h.Secret.S]++bY h.Secret.X):=rfl
 have g2:gt (dt h).L 2=aS (h.Spent.map b2i):=rfl
 have g3:gt (dt h).L 3=bc (h.Chain.map cT):=rfl
 have hl:(([h.Secret.U,h.Secret.S]++bY h.Secret.X).length:Int)=2+2*h.Secret.X.length:=by
  simp only [List.length_append,List.length_cons,List.length_nil,hf];omega
 unfold gM
 rw [aG,if_neg (show¬(!fO (dt h) 4)=true by show¬(!true)=true;decide),aG,g0,n0,if_neg (by simp),aG,g1,n1,if_neg (by simp),if_neg (by rw [decide_eq_true_eq];dsimp only;omega),if_neg (by
  dsimp only
  rw [hl]
  have:bJ .i64 (2+2*(h.Secret.X.length:Int)) 2=0:=by
   show (2+2*(h.Secret.X.length:Int)).tmod 2=0
   rw [Int.tmod_eq_emod_of_nonneg (by omega)];omega
  simp [this])]
 refine (yf (au 2) (d:=kn (dt h) (gR h.Coin) ([h.Secret.U,h.Secret.S]++bY h.Secret.X)) _ _).trans ?_
 rw [L8 (F:=h.Spent) (l:=h.Chain) (by rw [g2];exact n2) rfl rfl (fun s hs'=>LM (hc _ (List.mem_map_of_mem hs')))]
 unfold tQ gU
 have hsl:sl ([h.Secret.U,h.Secret.S]++bY h.Secret.X) 2 (([h.Secret.U,h.Secret.S]++bY h.Secret.X).length:Int)=bY h.Secret.X:=by
  unfold sl
  rw [Int.toNat_natCast,show List.drop (Int.toNat 2) ([h.Secret.U,h.Secret.S]++bY h.Secret.X)=bY h.Secret.X from rfl,List.take_of_length_le]
  simp
 rw [List.nil_append,hsl]
 rfl
theorem Dl: ∀X:List (List Int),(cM (bY X)).map (au 2)=X.map fun p=> [gt p 0,gt p 1]
 | []=>rfl
 | p::X=>by
  have ih:=Dl X
  have e:bY (p::X)=gt p 0::gt p 1::bY X:=by simp [bY]
  rw [e,cM,List.map_cons,ih]
  rfl
def tR (i9:aa) (n9:List Int) (H9:List ay):av×Int:=
 (ah ((((gt i9.L 2).L.length:Int) - 0).toNat+1) (fun (ag50:(Int×av×List aL)→(av×Int)) (p50:Int×av×List aL)=>(if (decide (p50.1<((gt i9.L 2).L.length:Int))) then (ab (dN (gt (gt i9.L 2).L p50.1)) (fun (x54:(aL×Int))=>(if (x54.2 !=0) then (aT,3) else (ag50 ((p50.1+1),p50.2.1,(p50.2.2++([x54.1]:List aL))))))) else (ab (jo (gt i9.L 3)) (fun (x62:(dD×Bool))=>(if (!x62.2) then (aT,3) else (({Bank:=(gt n9 0),U:=(gt n9 1),Key:=(gt n9 2),Next:=(gt n9 3),Holdings:=H9,Open:=p50.2.2,Source:=x62.1}:av),0)))))) (fun _=>default) (0,aT,([]:List aL)))
def tS (i9:aa) (n9:List Int) (H9:List ay) (O9:List aL):av×Int:=
 (ab (jo (gt i9.L 3)) (fun (x62:(dD×Bool))=>(if (!x62.2) then (aT,3) else (({Bank:=(gt n9 0),U:=(gt n9 1),Key:=(gt n9 2),Next:=(gt n9 3),Holdings:=H9,Open:=O9,Source:=x62.1}:av),0))))
def ko (w:aL):aL:=(dN (wI w)).1
def jt (p:av):av:={Bank:=p.Bank,U:=p.U,Key:=p.Key,Next:=p.Next,Holdings:=p.Holdings.map gU,Open:=p.Open.map ko,Source:={Seed:=au 32 (au 32 p.Source.Seed),Counter:=p.Source.Counter}}
theorem L9 {i:aa} (hw:aQ i 8=true) (ho:okI i) (hl:(bz i).length≤16384):gi (bz i)=(i,0):=by
 have hr:=LO hw ho
 rcases C0 (C5 _ ho) with ⟨i',g1,g2,_⟩|⟨_,g2⟩
 ·rw [hr] at g2;cases g2;exact g1
 ·exact absurd hr (g2 hl _)
theorem L_ {p:av} (hs:kj p) (hw:aQ (b9 p) 8=true) (ho:okI (b9 p)) (hl:(bz (b9 p)).length≤16384):fx (bz (b9 p))=(jt p,0):=by
 have hin:=lL hw (by omega)
 have n0:=iJ (hin _ (by simp:aS [p.Bank,p.U,p.Key,p.Next]∈_))
 have hH:=lL (hin _ (by simp:bc (p.Holdings.map dt)∈_)) (by omega)
 have g0:gt (b9 p).L 0=aS [p.Bank,p.U,p.Key,p.Next]:=rfl
 have g1:(gt (b9 p).L 1).L=p.Holdings.map dt:=rfl
 have g2:(gt (b9 p).L 2).L=p.Open.map wI:=rfl
 have hw1: ∀w∈p.Open,dN (wI w)=(ko w,0):=fun w hw'=>by
  obtain ⟨x,hx,_⟩:=Di (hs.2.2.2 w hw')
  unfold ko
  rw [hx]
 have k1:(p.Holdings.map dt).map (fun x=>(gM x).1)=p.Holdings.map gU:=by
  rw [List.map_map]
  exact List.map_congr_left fun h hh=>by simp only [Function.comp,Dk (hH _ (List.mem_map_of_mem hh))]
 have k2:(p.Open.map wI).map (fun x=>(dN x).1)=p.Open.map ko:=by
  rw [List.map_map];rfl
 unfold fx
 rw [aG,L9 hw ho hl,if_neg (by simp),aG,if_neg (show¬(!fO (b9 p) 4)=true by show¬(!true)=true;decide),aG,if_neg (show¬(!fO (gt (b9 p).L 0) 4)=true by show¬(!true)=true;decide),if_neg (show¬((gt (b9 p).L 1).Kind !=3)=true by show¬((3:Int) !=3)=true;decide),if_neg (show¬((gt (b9 p).L 2).Kind !=3)=true by show¬((3:Int) !=3)=true;decide),aG,g0,n0,if_neg (by simp),g1]
 refine (oy (p.Holdings.map dt) (fun a i=>(i,aT,a)) (fun a x=>a++[(gM x).1]) (tR (b9 p) [p.Bank,p.U,p.Key,p.Next]) ?_ ?_).trans ?_
 ·intro ag a i h0 h1
  obtain ⟨h,hh1,hh2⟩:=List.mem_map.1 (oE h0 h1)
  dsimp only
  rw [if_pos (by simpa using h1),aG,if_neg (by rw [←hh2,Dk (hH _ (List.mem_map_of_mem hh1))];simp)]
 ·intro ag a
  dsimp only
  rw [if_neg (by simp)]
  rfl
 rw [mS,List.nil_append,k1]
 unfold tR
 rw [g2]
 refine (oy (p.Open.map wI) (fun a i=>(i,aT,a)) (fun a x=>a++[(dN x).1]) (tS (b9 p) [p.Bank,p.U,p.Key,p.Next] (p.Holdings.map gU)) ?_ ?_).trans ?_
 ·intro ag a i h0 h1
  obtain ⟨w,hh1,hh2⟩:=List.mem_map.1 (oE h0 h1)
  dsimp only
  rw [if_pos (by simpa using h1),aG,if_neg (by rw [←hh2,hw1 w hh1];simp)]
 ·intro ag a
  dsimp only
  rw [if_neg (by simp)]
  rfl
 rw [mS,List.nil_append,k2]
 unfold tS
 rw [aG]
 have hsrc:jo (gt (b9 p).L 3)=({Seed:=au 32 (au 32 p.Source.Seed),Counter:=p.Source.Counter},true):=by
  unfold jo
  rw [aG,if_neg (show¬(!fO (gt (b9 p).L 3) 2)=true by show¬(!true)=true;decide),if_neg (show¬((gt (gt (b9 p).L 3).L 0).Kind !=2)=true by show¬((2:Int) !=2)=true;decide),if_neg (show¬(((gt (gt (b9 p).L 3).L 0).B.length:Int) !=32)=true by
   have:(gt (gt (b9 p).L 3).L 0).B=au 32 p.Source.Seed:=rfl
   rw [this,cq];decide),if_neg (show¬((gt (gt (b9 p).L 3).L 1).Kind !=1)=true by show¬((1:Int) !=1)=true;decide)]
  rfl
 rw [hsrc,if_neg (by simp)]
 rfl
end Go.Proofs.YtiknkaadhomeiaaGreatDoor
namespace Go.Proofs.YtiknkaadhomeiaaGreatDoor
open Go.RowKit
set_option linter.unusedVariables false
set_option linter.unusedSimpArgs false
theorem Ma:tf=true:=by decide+kernel
theorem Mb (a:List Int):eo (au 32 a) a=true:=by simp [eo,qA]
theorem Dm (c:br):dE (gR c) c=true:=by simp [dE,gR,qA]
theorem Mc (p:ga):lC {p with L:=p.L.map (au 32)} p=true:=by
 unfold lC
 simp only [bne_self_eq_false,List.length_map,Bool.false_eq_true,if_false]
 refine fy (C:=fun j=>eo (gt (p.L.map (au 32)) j) (gt p.L j)) (X:=true) (fun ag j=>by simp only [gc]) (fun j h0 h1=> ?_) rfl
 rw [oa (by omega)];exact Mb _
theorem Md (s:aA):iC (eB s) s=true:=by
 unfold iC
 have h1:dE (eB s).Coin s.Coin=true:=Dm _
 have h2:lf (eB s).Node s.Node=true:=by simp [lf,eB]
 have h3:lg (eB s).Context s.Context=true:=by simp [lg,eB,CZ,qA]
 have h4:lC (eB s).Path s.Path=true:=Mc _
 have h5:(eB s).Leaves=s.Leaves:=rfl
 simp only [ab,h1,h2,h3,h4,h5,bne_self_eq_false,Bool.not_true,Bool.false_eq_true,if_false]
 refine fy (C:=fun j=>lh (gt s.Leaves j) (gt s.Leaves j)) (X:=true) (fun ag j=>by simp only [gc]) (fun j h0 h1=> ?_) rfl
 simp [lh]
theorem Me (U S:Int) (X:List (List Int)):lB {U:=U,S:=S,X:=X.map fun p=> [gt p 0,gt p 1]} {U:=U,S:=S,X:=X}=true:=by
 unfold lB
 simp only [bne_self_eq_false,List.length_map,Bool.false_eq_true,if_false]
 refine fy (C:=fun j=>fg (gt (X.map fun p=> [gt p 0,gt p 1]) j) (gt X j)) (X:=true) (fun ag j=>by simp only [gc]) (fun j h0 h1=> ?_) rfl
 rw [oa (by omega)];exact Df _
theorem Mf (h:ay):kf (gU h) h=true:=by
 unfold kf
 have h1:dE (gU h).Coin h.Coin=true:=Dm _
 have h2:lB (gU h).Secret h.Secret=true:=by
  have:=Me h.Secret.U h.Secret.S h.Secret.X
  rw [←Dl] at this
  exact this
 have h3:(gU h).Spent=h.Spent:=rfl
 have h4:(gU h).Chain=h.Chain.map eB:=rfl
 simp only [ab,h1,h2,h3,h4,List.length_map,bne_self_eq_false,Bool.not_true,Bool.false_eq_true,if_false]
 refine fy (C:=fun j=>gt h.Spent j==gt h.Spent j) (X:=ah (((h.Chain.length:Int) - 0).toNat+1) (fun (ag22:Int→Bool) (p22:Int)=>(if (decide (p22<(h.Chain.length:Int))) then (if (!iC (gt (h.Chain.map eB) p22) (gt h.Chain p22)) then false else (ag22 (p22+1))) else true)) (fun _=>default) 0) (fun ag j=>by simp) (fun j h0 h1=>by simp) ?_
 refine fy (C:=fun j=>iC (gt (h.Chain.map eB) j) (gt h.Chain j)) (X:=true) (fun ag j=>by simp only [gc]) (fun j h0 h1=> ?_) rfl
 rw [oa (by omega)];exact Md _
theorem Mg {w:aL} (h:w.Secret.X.length≤40):gN (ko w) w=true:=by
 obtain ⟨x,hx,h2⟩:=Di h
 unfold ko
 rw [hx];exact h2
theorem Mh {p:av} (hs:kj p):cr (jt p) p=true:=by
 unfold cr
 have h1:li (jt p).Source p.Source=true:=by simp [li,jt,qA]
 have h2:(jt p).Holdings=p.Holdings.map gU:=rfl
 have h3:(jt p).Open=p.Open.map ko:=rfl
 have b1:(jt p).Bank=p.Bank:=rfl
 have b2:(jt p).U=p.U:=rfl
 have b3:(jt p).Key=p.Key:=rfl
 have b4:(jt p).Next=p.Next:=rfl
 simp only [ab,h1,h2,h3,b1,b2,b3,b4,List.length_map,bne_self_eq_false,Bool.not_true,Bool.false_eq_true,if_false]
 refine fy (C:=fun j=>kf (gt (p.Holdings.map gU) j) (gt p.Holdings j)) (X:=ah (((p.Open.length:Int) - 0).toNat+1) (fun (ag28:Int→Bool) (p28:Int)=>(if (decide (p28<(p.Open.length:Int))) then (if (!gN (gt (p.Open.map ko) p28) (gt p.Open p28)) then false else (ag28 (p28+1))) else true)) (fun _=>default) 0) (fun ag j=>by simp only [gc]) (fun j h0 h1=> ?_) ?_
 ·rw [oa (by omega)];exact Mf _
 ·refine fy (C:=fun j=>gN (gt (p.Open.map ko) j) (gt p.Open j)) (X:=true) (fun ag j=>by simp only [gc]) (fun j h0 h1=> ?_) rfl
  rw [oa (by omega)]
  exact Mg (hs.2.2.2 _ (cm (by omega)))
theorem Mi:iF aT=true:=by decide+kernel
theorem Dn {X:List (List Int)} (h:wfL (X.map fun l=>V.agg [.int .i64 (gt l 0),.int .i64 (gt l 1)])): ∀x∈bY X,r64 x:=by
 intro x hx
 obtain ⟨y,hy,hx⟩:=List.mem_flatMap.1 hx
 have:=mV h y hy
 simp only [wfV,wfL,ip] at this
 simp only [List.mem_cons,List.not_mem_nil,or_false] at hx
 rcases hx with rfl|rfl<;>simp only [r64,this,and_self]
theorem Mj {w:aL} (h:wfV (bU w)):okI (wI w):=by
 have hc:wfV (dJ w.Coin):=by
  simp only [bU,dJ,wfV,wfL] at h⊢
  simp only [h,and_self]
 have hx:wfL (w.Secret.X.map fun l=>V.agg [.int .i64 (gt l 0),.int .i64 (gt l 1)]):=by
  simp only [bU,wfV,wfL] at h
  simp only [h,and_self]
 simp only [bU,wfV,wfL,ip] at h
 refine iL (fun x hx'=> ?_)
 simp only [List.mem_cons,List.not_mem_nil,or_false] at hx'
 rcases hx' with rfl|rfl|rfl|rfl|rfl
 ·refine gT (fun x hx=> ?_)
  simp only [List.mem_cons,List.not_mem_nil,or_false] at hx
  rcases hx with rfl|rfl|rfl|rfl|rfl|rfl<;>simp only [r64,h,and_self]
 ·refine gT (fun x hx'=> ?_)
  rcases List.mem_append.1 hx' with hx1|hx1
  ·simp only [List.mem_cons,List.not_mem_nil,or_false] at hx1
   rcases hx1 with rfl|rfl<;>simp only [r64,h,and_self]
  ·exact Dn hx x hx1
 ·refine gT (fun x hx=> ?_)
  simp only [List.mem_cons,List.not_mem_nil,or_false] at hx
  rcases hx with rfl|rfl|rfl<;>simp only [r64,h,and_self]
 ·refine gT (fun x hx=> ?_)
  simp only [List.mem_cons,List.not_mem_nil,or_false] at hx
  rcases hx with rfl|rfl|rfl|rfl|rfl|rfl<;>simp only [r64,h,and_self]
 ·exact ye hc
theorem Mk {h:ay} (hw:wfV (bD h)):okI (dt h):=by
 have hc:wfV (dJ h.Coin):=by
  simp only [bD,dJ,wfV,wfL] at hw⊢
  simp only [hw,and_self]
 have hx:wfL (h.Secret.X.map fun l=>V.agg [.int .i64 (gt l 0),.int .i64 (gt l 1)])∧wfL (h.Chain.map bX):=by
  simp only [bD,wfV,wfL] at hw
  simp only [hw,and_self]
 simp only [bD,wfV,wfL,ip] at hw
 refine iL (fun x hx'=> ?_)
 simp only [List.mem_cons,List.not_mem_nil,or_false] at hx'
 rcases hx' with rfl|rfl|rfl|rfl
 ·exact ye hc
 ·refine gT (fun x hx'=> ?_)
  rcases List.mem_append.1 hx' with hx1|hx1
  ·simp only [List.mem_cons,List.not_mem_nil,or_false] at hx1
   rcases hx1 with rfl|rfl<;>simp only [r64,hw,and_self]
  ·exact Dn hx.1 x hx1
 ·refine gT (fun x hx'=> ?_)
  obtain ⟨b,_,rfl⟩:=List.mem_map.1 hx'
  cases b<;>(unfold b2i r64;decide)
 ·exact LV hx.2
theorem Ml {p:av} (hw:wfV (bL p)):okI (b9 p):=by
 have hx:wfL (p.Holdings.map bD)∧wfL (p.Open.map bU)∧wfV (bI p.Source.Seed):=by
  simp only [bL,bI,wfV,wfL] at hw⊢
  simp only [hw,and_self]
 simp only [bL,wfV,wfL,ip] at hw
 refine iL (fun x hx'=> ?_)
 simp only [List.mem_cons,List.not_mem_nil,or_false] at hx'
 rcases hx' with rfl|rfl|rfl|rfl
 ·refine gT (fun x hx=> ?_)
  simp only [List.mem_cons,List.not_mem_nil,or_false] at hx
  rcases hx with rfl|rfl|rfl|rfl<;>simp only [r64,hw,and_self]
 ·refine iL (fun x hx'=> ?_)
  obtain ⟨y,hy,rfl⟩:=List.mem_map.1 hx'
  exact Mk (mV hx.1 y hy)
 ·refine iL (fun x hx'=> ?_)
  obtain ⟨y,hy,rfl⟩:=List.mem_map.1 hx'
  exact Mj (mV hx.2.1 y hy)
 ·refine iL (fun x hx'=> ?_)
  simp only [List.mem_cons,List.not_mem_nil,or_false] at hx'
  rcases hx' with rfl|rfl
  ·exact tM (tN hx.2.2) cq
  ·exact yd (by simp only [r64,hw,and_self])
end Go.Proofs.YtiknkaadhomeiaaGreatDoor
namespace Go.Proofs.YtiknkaadhomeiaaGreatDoor
open Go.RowKit
set_option linter.unusedVariables false
set_option linter.unusedSimpArgs false
def gk {α β:Type} (f:α→Option β):List α→Option (List β)
 | []=>some []
 | a::l=>match f a with
  | none=>none
  | some b=>match gk f l with
   | none=>none
   | some m=>some (b::m)
def ju {β γ:Type} (o:Option β) (g:β→Option γ):Option γ:=match o with
 | none=>none
 | some m=>g m
def IsO {γ R:Type} (ok:γ→R) (bad:R→Prop) (r:R):Option γ→Prop
 | some c=>r=ok c
 | none=>bad r
theorem cA {γ R:Type} {ok:γ→R} {bad:R→Prop} {r:R} {o:Option γ} (h:bad r) (ho:o=none):IsO ok bad r o:=by
 subst ho;exact h
theorem lM {α β γ σ R:Type} [Inhabited α] {l:List α} (f:α→Option β) (st:Int→List β→σ) {ok:γ→R} {bad:R→Prop} (g:List β→Option γ) {F:(σ→R)→σ→R} {d:σ→R}
  (hs: ∀ag a (i:Int),0≤i→i<l.length→match f (gt l i) with
   | some b=>F ag (st i a)=ag (st (i+1) (a++[b]))
   | none=>bad (F ag (st i a)))
  (he: ∀ag a,IsO ok bad (F ag (st (l.length:Int) a)) (g a)):
  IsO ok bad (ah (((l.length:Int) - 0).toNat+1) F d (st 0 [])) (ju (gk f l) g):=by
 have key: ∀(n k:Nat) (a:List β),l.length - k=n→k≤l.length→ ∀fuel,n<fuel→IsO ok bad (ah fuel F d (st (k:Int) a)) (ju (gk f (l.drop k)) (fun m=>g (a++m))):=by
  intro n
  induction n with
  | zero=>
   intro k a h1 h2 fuel hf
   obtain ⟨f',rfl⟩: ∃f',fuel=f'+1:=⟨fuel - 1,by omega⟩
   have hk:k=l.length:=by omega
   subst hk
   rw [ah,List.drop_length]
   simpa [gk,ju] using he (ah f' F d) a
  | succ n ih=>
   intro k a h1 h2 fuel hf
   obtain ⟨f',rfl⟩: ∃f',fuel=f'+1:=⟨fuel - 1,by omega⟩
   have hk:k<l.length:=by omega
   have e:gt l (k:Int)=l[k]:=by simp [gt,List.getD_eq_getElem?_getD,hk]
   have h:=hs (ah f' F d) a k (by omega) (by omega)
   rw [ah,List.drop_eq_getElem_cons hk,gk]
   rw [e] at h
   cases hfk:f l[k] with
   | none=>rw [hfk] at h;exact h
   | some b=>
    rw [hfk] at h
    simp only at h⊢
    rw [h]
    have h3:=ih (k+1) (a++[b]) (by omega) (by omega) f' (by omega)
    rw [show (k:Int)+1=((k+1:Nat):Int) by omega]
    cases hr:gk f (l.drop (k+1)) with
    | none=>rw [hr] at h3;exact h3
    | some m=>rw [hr] at h3;simpa [ju] using h3
 have h4:=key l.length 0 [] (by omega) (by omega) (((l.length:Int) - 0).toNat+1) (by omega)
 simpa [ju] using h4
theorem Mm (p:av):qn p=if aQ (b9 p) 8=false then ([],false) else (bz (b9 p),decide (((bz (b9 p)).length:Int)≤16384)):=by
 unfold qn
 rw [aG,CK,aG,xB]
 cases aQ (b9 p) 8<;>rfl
def yi (i_:aa) (c9:br) (n9 f9:List Int) (X9:List (List Int)):ay×Bool:=
 (ah (((f9.length:Int) - 0).toNat+1) (fun (ag45:(Int×ay×List Bool)→(ay×Bool)) (p45:Int×ay×List Bool)=>(if (decide (p45.1<(f9.length:Int))) then (ab (oq (gt f9 p45.1) 0 1) (fun (x49:Bool)=>(if (!x49) then (cw,false) else (ag45 ((p45.1+1),p45.2.1,(p45.2.2++([((gt f9 p45.1)==1)]:List Bool))))))) else (ah ((((gt i_.L 3).L.length:Int) - 0).toNat+1) (fun (ag56:(Int×ay×List aA)→(ay×Bool)) (p56:Int×ay×List aA)=>(if (decide (p56.1<((gt i_.L 3).L.length:Int))) then (ab (kg (gt (gt i_.L 3).L p56.1)) (fun (x60:(aA×Bool))=>(if (!x60.2) then (cw,false) else (ag56 ((p56.1+1),p56.2.1,(p56.2.2++([x60.1]:List aA))))))) else (({Coin:=c9,Secret:=({U:=(gt n9 0),S:=(gt n9 1),X:=X9}:cj),Spent:=p45.2.2,Chain:=p56.2.2}:ay),true))) (fun _=>default) (0,p45.2.1,([]:List aA))))) (fun _=>default) (0,cw,([]:List Bool)))
def Do (i_:aa) (c9:br) (n9 f9:List Int) (X9:List (List Int)) (F9:List Bool):ay×Bool:=
 (ah ((((gt i_.L 3).L.length:Int) - 0).toNat+1) (fun (ag56:(Int×ay×List aA)→(ay×Bool)) (p56:Int×ay×List aA)=>(if (decide (p56.1<((gt i_.L 3).L.length:Int))) then (ab (kg (gt (gt i_.L 3).L p56.1)) (fun (x60:(aA×Bool))=>(if (!x60.2) then (cw,false) else (ag56 ((p56.1+1),p56.2.1,(p56.2.2++([x60.1]:List aA))))))) else (({Coin:=c9,Secret:=({U:=(gt n9 0),S:=(gt n9 1),X:=X9}:cj),Spent:=F9,Chain:=p56.2.2}:ay),true))) (fun _=>default) (0,cw,([]:List aA)))
def okH (h:ay):ay×Bool:=(h,true)
def tT (r:ay×Bool):Prop:=r.2=false
def yj (r:ay×Bool):Prop:=r=(cw,false)
def f2 (x:Int):Option Bool:=if x=0∨x=1 then some (x==1) else none
def f3 (s:aa):Option aA:=if (de s).2=0 then some (de s).1 else none
def mkH (c:br) (n:List Int) (X:List (List Int)) (F:List Bool) (C:List aA):ay:={Coin:=c,Secret:={U:=gt n 0,S:=gt n 1,X:=X},Spent:=F,Chain:=C}
def mW (c:br) (n:List Int) (X:List (List Int)) (l:List aa) (F:List Bool):Option ay:=ju (gk f3 l) (fun C=>some (mkH c n X F C))
def qC (c:br) (n:List Int) (X:List (List Int)) (f:List Int) (l:List aa):Option ay:=ju (gk f2 f) (fun F=>mW c n X l F)
theorem Dp {s:aa} (h:(de s).2=0):f3 s=some (de s).1:=if_pos h
theorem Dq {s:aa} (h:(de s).2≠0):f3 s=none:=if_neg h
theorem Mn (i:aa) (c:br) (n:List Int) (X:List (List Int)) (F:List Bool):IsO okH tT (qB i c n X F) (mW c n X (gt i.L 3).L F):=by
 unfold qB mW
 refine lM f3 (fun i a=>(i,a)) (fun C=>some (mkH c n X F C)) ?_ ?_
 ·intro ag a j h0 h1
  by_cases hh:(de (gt (gt i.L 3).L j)).2=0
  ·rw [Dp hh];dsimp only;rw [if_pos (by simpa using h1),aG,if_neg (by simp [hh])]
  ·rw [Dq hh];dsimp only;rw [if_pos (by simpa using h1),aG,if_pos (by simp [hh])];rfl
 ·intro ag a
  dsimp only
  rw [if_neg (by simp)]
  rfl
theorem Mp (i:aa) (c:br) (n:List Int) (X:List (List Int)) (h2:(aN (gt i.L 2)).2=0) (h3:(gt i.L 3).Kind=3):IsO okH tT (kn i c n X) (qC c n X (aN (gt i.L 2)).1 (gt i.L 3).L):=by
 unfold kn qC
 rw [aG,if_neg (by simp [h2]),if_neg (by simp [h3])]
 refine lM f2 (fun i a=>(i,a)) (mW c n X (gt i.L 3).L) ?_ ?_
 ·intro ag a j h0 h1
  have h1':decide (j<((aN (gt i.L 2)).1.length:Int))=true:=by simpa using h1
  generalize (aN (gt i.L 2)).1=l at h1'⊢
  by_cases e0:gt l j=0
  ·have:f2 (gt l j)=some (gt l j==1):=if_pos (.inl e0)
   rw [this];dsimp only;rw [if_pos h1',if_neg (by simp [e0])]
  ·by_cases e1:gt l j=1
   ·have:f2 (gt l j)=some (gt l j==1):=if_pos (.inr e1)
    rw [this];dsimp only;rw [if_pos h1',if_pos (by simp [e0]),if_neg (by simp [e1])]
   ·have:f2 (gt l j)=none:=if_neg (by simp [e0,e1])
    rw [this];dsimp only;rw [if_pos h1',if_pos (by simp [e0]),if_pos (by simp [e1])];rfl
 ·intro ag a
  dsimp only
  rw [if_neg (by simp)]
  exact Mn i c n X a
def yk (i:aa):Prop:=(i.Kind=3∧i.L.length=4)∧(cU (gt i.L 0)).2=0∧(aN (gt i.L 1)).2=0∧2≤(aN (gt i.L 1)).1.length∧(aN (gt i.L 1)).1.length% 2=0∧(aN (gt i.L 2)).2=0∧(gt i.L 3).Kind=3
instance (i:aa):Decidable (yk i):=by unfold yk;infer_instance
def iM (i:aa):Option ay:=if yk i then qC (cU (gt i.L 0)).1 (aN (gt i.L 1)).1 (ez ((aN (gt i.L 1)).1.drop 2)) (aN (gt i.L 2)).1 (gt i.L 3).L else none
theorem Ds: ∀(l:List Int),l.length% 2=0→(cM l).map (au 2)=ez l
 | [],_=>rfl
 | [a],h=>by simp at h
 | a::b::l,h=>by
  rw [cM,List.map_cons,ez,Ds l (by simp only [List.length_cons] at h;omega)];rfl
theorem tU (i:aa) (n:Int):fO i n=decide (i.Kind=3∧(i.L.length:Int)=n):=by
 unfold fO
 by_cases h1:i.Kind=3<;>by_cases h2:(i.L.length:Int)=n<;>simp [h1,h2]
theorem Dt {n:Nat} (h:n% 2=0): ¬(bJ .i64 (n:Int) 2 !=0)=true:=by rw [oD,h];decide
theorem Du {n:Nat} (h:n% 2≠0):(bJ .i64 (n:Int) 2 !=0)=true:=by rw [oD];simp;omega
theorem Mq (i:aa):IsO okH tT (gM i) (iM i):=by
 unfold gM
 rw [aG,tU]
 by_cases c0:i.Kind=3∧i.L.length=4
 ·rw [if_neg (by simp [c0.1,c0.2]),aG]
  by_cases c1:(cU (gt i.L 0)).2=0
  ·rw [if_neg (by simp [c1]),aG]
   by_cases c2:(aN (gt i.L 1)).2=0
   ·rw [if_neg (by simp [c2])]
    by_cases c3:2≤(aN (gt i.L 1)).1.length
    ·rw [if_neg (by simp;omega)]
     by_cases c4:(aN (gt i.L 1)).1.length% 2=0
     ·rw [if_neg (Dt c4)]
      have hr:=yf (au 2) (d:=kn i (cU (gt i.L 0)).1 (aN (gt i.L 1)).1) (cM (sl (aN (gt i.L 1)).1 2 ((aN (gt i.L 1)).1.length:Int))) []
      have hsl:sl (aN (gt i.L 1)).1 2 ((aN (gt i.L 1)).1.length:Int)=(aN (gt i.L 1)).1.drop 2:=by
       unfold sl
       rw [Int.toNat_natCast,show Int.toNat 2=2 from rfl,List.take_of_length_le]
       simp
      rw [List.nil_append,hsl,Ds _ (by rw [List.length_drop];omega)] at hr
      have hg:IsO okH tT (kn i (cU (gt i.L 0)).1 (aN (gt i.L 1)).1 (ez ((aN (gt i.L 1)).1.drop 2))) (iM i):=by
       by_cases c5:(aN (gt i.L 2)).2=0
       ·by_cases c6:(gt i.L 3).Kind=3
        ·have:iM i=_:=if_pos ⟨c0,c1,c2,c3,c4,c5,c6⟩
         rw [this];exact Mp i _ _ _ c5 c6
        ·refine cA ?_ (if_neg (fun h=>c6 h.2.2.2.2.2.2))
         unfold kn;rw [aG,if_neg (by simp [c5]),if_pos (by simp [c6])];rfl
       ·refine cA ?_ (if_neg (fun h=>c5 h.2.2.2.2.2.1))
        unfold kn;rw [aG,if_pos (by simp [c5])];rfl
      rw [←hr] at hg
      rw [←hsl] at hg
      exact hg
     ·rw [if_pos (Du c4)];exact cA rfl (if_neg (fun h=>c4 h.2.2.2.2.1))
    ·rw [if_pos (by simp;omega)];exact cA rfl (if_neg (fun h=>c3 h.2.2.2.1))
   ·rw [if_pos (by simp [c2])];exact cA rfl (if_neg (fun h=>c2 h.2.2.1))
  ·rw [if_pos (by simp [c1])];exact cA rfl (if_neg (fun h=>c1 h.2.1))
 ·rw [if_pos (by simp;omega)];exact cA rfl (if_neg (fun h=>c0 h.1))
theorem Mr {i:aa} (hv:aQ i 8=true) (h3:(gt i.L 3).Kind=3) (hl:i.L.length=4) (hk:i.Kind=3) (c:br) (n f:List Int) (X:List (List Int)) (F:List Bool):IsO okH yj (Do i c n f X F) (mW c n X (gt i.L 3).L F):=by
 have hv3:=gS (j:=3) hv hk (by rw [hl];decide)
 unfold Do mW
 refine lM f3 (fun i a=>(i,cw,a)) (fun C=>some (mkH c n X F C)) ?_ ?_
 ·intro ag a j h0 h1
  have hs:=LR (C4 hv3 h3 _ (oE h0 h1))
  by_cases hh:(de (gt (gt i.L 3).L j)).2=0
  ·rw [Dp hh];dsimp only;rw [if_pos (by simpa using h1),aG,hs,if_neg (by simp [hh])]
  ·rw [Dq hh];dsimp only;rw [if_pos (by simpa using h1),aG,hs,if_pos (by simp [hh])];rfl
 ·intro ag a
  dsimp only
  rw [if_neg (by simp)]
  rfl
theorem Dv (x:Int):oq x 0 1=decide (x=0∨x=1):=by
 unfold oq
 by_cases h:x≥0<;>by_cases h2:x≤1<;>simp [h,h2]<;>omega
theorem Ms {i:aa} (hv:aQ i 8=true) (h3:(gt i.L 3).Kind=3) (hl:i.L.length=4) (hk:i.Kind=3) (c:br) (n f:List Int) (X:List (List Int)):IsO okH yj (yi i c n f X) (qC c n X f (gt i.L 3).L):=by
 unfold yi qC
 refine lM f2 (fun i a=>(i,cw,a)) (mW c n X (gt i.L 3).L) ?_ ?_
 ·intro ag a j h0 h1
  by_cases e:gt f j=0∨gt f j=1
  ·have:f2 (gt f j)=some (gt f j==1):=if_pos e
   rw [this];dsimp only;rw [if_pos (by simpa using h1),aG,Dv,if_neg (by simp [e])]
  ·have:f2 (gt f j)=none:=if_neg e
   rw [this];dsimp only;rw [if_pos (by simpa using h1),aG,Dv,if_pos (by simp [e])];rfl
 ·intro ag a
  dsimp only
  rw [if_neg (by simp)]
  exact Mr hv h3 hl hk c n f X a
theorem yl {i:aa} (h:(aN i).2=0):i.Kind=3:=by
 by_cases h1:i.Kind=3
 ·exact h1
 ·exact absurd h (C3 h1)
theorem Dw {i:aa} (hv:aQ i 8=true):dF i (i.L.length:Int)=if (aN i).2=0 then ((aN i).1,true) else ([],false):=by
 rw [oC _ hv]
 by_cases h:(aN i).2=0
 ·rw [if_pos ⟨h,(qt rfl).resolve_left (fun h2=>h2 h)⟩,if_pos h]
 ·rw [if_neg (fun h2=>h h2.1),if_neg h]
theorem Mt {i:aa} (hv:aQ i 8=true):IsO okH yj (lE i) (iM i):=by
 unfold lE
 by_cases k0:i.Kind=3
 ·rw [if_neg (by simp [k0])]
  by_cases k1:i.L.length=4
  ·have hb: ∀j:Int,j.toNat<4→aQ (gt i.L j) 8=true:=fun j hj=>gS hv k0 (by omega)
   rw [if_neg (by simp [k1])]
   by_cases k2:(gt i.L 1).Kind=3
   ·rw [if_neg (by simp [k2])]
    by_cases k3:(gt i.L 2).Kind=3
    ·rw [if_neg (by simp [k3])]
     by_cases k4:(gt i.L 3).Kind=3
     ·rw [if_neg (by simp [k4]),aG,aG,aG,ya (hb 0 (by decide)),Dw (hb 1 (by decide)),Dw (hb 2 (by decide))]
      by_cases c1:(cU (gt i.L 0)).2=0
      ·rw [if_neg (by simp [c1])]
       by_cases c2:(aN (gt i.L 1)).2=0
       ·rw [if_pos c2,if_neg (by simp)]
        by_cases c5:(aN (gt i.L 2)).2=0
        ·rw [if_pos c5,if_neg (by simp)]
         dsimp only
         by_cases c3:2≤(aN (gt i.L 1)).1.length
         ·rw [if_neg (by simp;omega)]
          by_cases c4:(aN (gt i.L 1)).1.length% 2=0
          ·rw [if_neg (Dt c4)]
           have hp:=Da (s:=(aN (gt i.L 1)).1) (E:=fun p=>yi i (cU (gt i.L 0)).1 (aN (gt i.L 1)).1 (aN (gt i.L 2)).1 p.2) (d:=fun _=>default) c4 c3 (fun ag p=>rfl)
           have hf:iM i=_:=if_pos ⟨⟨k0,k1⟩,c1,c2,c3,c4,c5,k4⟩
           rw [hf]
           have hg:=Ms hv k4 k1 k0 (cU (gt i.L 0)).1 (aN (gt i.L 1)).1 (aN (gt i.L 2)).1 (ez ((aN (gt i.L 1)).1.drop 2))
           dsimp only at hp
           rw [←hp] at hg
           exact hg
          ·rw [if_pos (Du c4)];exact cA rfl (if_neg (fun h=>c4 h.2.2.2.2.1))
         ·rw [if_pos (by simp;omega)];exact cA rfl (if_neg (fun h=>c3 h.2.2.2.1))
        ·rw [if_neg c5,if_pos (by simp)];exact cA rfl (if_neg (fun h=>c5 h.2.2.2.2.2.1))
       ·rw [if_neg c2,if_pos (by simp)];exact cA rfl (if_neg (fun h=>c2 h.2.2.1))
      ·rw [if_pos (by simp [c1])];exact cA rfl (if_neg (fun h=>c1 h.2.1))
     ·rw [if_pos (by simp [k4])];exact cA rfl (if_neg (fun h=>k4 h.2.2.2.2.2.2))
    ·rw [if_pos (by simp [k3])];exact cA rfl (if_neg (fun h=>k3 (yl h.2.2.2.2.2.1)))
   ·rw [if_pos (by simp [k2])];exact cA rfl (if_neg (fun h=>k2 (yl h.2.2.1)))
  ·rw [if_pos (by simp;omega)];exact cA rfl (if_neg (fun h=>k1 h.1.2))
 ·rw [if_pos (by simp [k0])];exact cA rfl (if_neg (fun h=>k0 h.1.1))
end Go.Proofs.YtiknkaadhomeiaaGreatDoor
namespace Go.Proofs.YtiknkaadhomeiaaGreatDoor
open Go.RowKit
theorem tV {α β R:Type} {F:(α→R)→α→R} {G:(β→R)→β→R} {x:R} (Rel:α→β→Prop)
  (h: ∀ag bg,(∀a b,Rel a b→ag a=bg b)→ ∀a b,Rel a b→F ag a=G bg b): ∀(n:Nat) (a:α) (b:β),Rel a b→ah n F (fun _=>x) a=ah n G (fun _=>x) b
 | 0,a,b,_=>rfl
 | n+1,a,b,hr=>by
  rw [ah,ah]
  exact h _ _ (fun a b hr=>tV Rel h n a b hr) a b hr
theorem Mu (k:IntKind) (a b:Int):orI k a b=orI k b a:=by unfold orI;rw [BitVec.or_comm]
theorem jv (x:Int) {n:Int} (h:n∈ [(2:Int),3,6,7,11,13,17,18,19,22,25]):fM x n=dO x n:=by
 unfold fM td dO
 simp only [ab]
 rw [Mu]
 simp only [List.mem_cons,List.not_mem_nil,or_false] at h
 rcases h with rfl|rfl|rfl|rfl|rfl|rfl|rfl|rfl|rfl|rfl|rfl<;>rfl
theorem w32 (a:Int):IntKind.wrap .u32 a=a% 4294967296:=by simp [IntKind.wrap,IntKind.bits,IntKind.signed]
theorem Mv (a c:Nat) (hc:c<256):(BitVec.ofInt 32 (((a*256:Nat):Int)% 4294967296)|||BitVec.ofInt 32 (c:Int)).toNat=(a*256)% 4294967296+c:=by
 have e1:(BitVec.ofInt 32 (((a*256:Nat):Int)% 4294967296)).toNat=(a% 16777216)<<<8:=by
  rw [BitVec.toNat_ofInt,Nat.shiftLeft_eq]
  omega
 have e2:(BitVec.ofInt 32 (c:Int)).toNat=c:=by rw [BitVec.toNat_ofInt];omega
 rw [BitVec.toNat_or,e1,e2,←Nat.shiftLeft_add_eq_or_of_lt (show c<2^8 by omega),Nat.shiftLeft_eq]
 omega
theorem Mw {x c:Int} (hx:0≤x∧x≤4294967295) (hc:0≤c∧c≤255):orI .u32 (ao .u32 x 8) (ae .u32 c)=ak .u32 (aK .u32 x 256) (ae .u32 c):=by
 obtain ⟨a,rfl⟩:=Int.eq_ofNat_of_zero_le hx.1
 obtain ⟨d,rfl⟩:=Int.eq_ofNat_of_zero_le hc.1
 have h1:ao .u32 (a:Int) 8=((a*256:Nat):Int)% 4294967296:=by
  unfold ao;rw [w32];simp [IntKind.bits]
 have h2:ae .u32 (d:Int)=(d:Int):=by unfold ae;rw [w32];omega
 have h3:aK .u32 (a:Int) 256=((a*256:Nat):Int)% 4294967296:=by
  unfold aK;rw [w32];simp
 have h4:=Mv a d (by omega)
 rw [h1,h2,h3]
 have key:orI .u32 (((a*256:Nat):Int)% 4294967296) (d:Int)=IntKind.wrap .u32 ((BitVec.ofInt 32 (((a*256:Nat):Int)% 4294967296)|||BitVec.ofInt 32 (d:Int)).toNat:Int):=rfl
 rw [key,h4]
 unfold ak
 rw [w32,w32]
 omega
theorem Dx {q:List Int} {z:List Int} {a x:Int} {t:Int} (h:(q.length:Int)=t):st (q++a::z) t x=q++x::z:=by
 unfold st
 rw [show t.toNat=q.length by omega]
 simp
theorem tW {q z:List Int} {t:Int} (h:0≤t) (h1:t<(q.length:Int)):gt (q++z) t=gt q t:=by
 unfold gt
 have:t.toNat<q.length:=by omega
 simp [List.getD_eq_getElem?_getD,List.getElem?_append_left this]
theorem Mx {q z:List Int} {a t:Int} (h:(q.length:Int)=t):gt (q++a::z) t=a:=by
 unfold gt
 rw [show t.toNat=q.length by omega]
 simp [List.getD_eq_getElem?_getD]
theorem tX {l:List Int} (h:l.length=64):au 64 l=l:=lj h
theorem My {b:List Int} {i k:Int} (h0:0≤i) (hk:0≤k) (hk4:k<4) (h:i+4≤(b.length:Int)):gt (sl b i (i+4)) k=gt b (i+k):=by
 unfold gt sl
 have e:(i+k).toNat=i.toNat+k.toNat:=by omega
 simp only [List.getD_eq_getElem?_getD]
 rw [List.getElem?_take_of_lt (by omega),List.getElem?_drop,e]
theorem Mz {b:List Int} (hb: ∀x∈b,0≤x∧x≤255) (i:Int):0≤gt b i∧gt b i≤255:=by
 unfold gt
 rw [List.getD_eq_getElem?_getD]
 cases h:b[i.toNat]? with
 | none=>exact ⟨by decide,by decide⟩
 | some x=>exact hb x (List.mem_of_getElem? h)
theorem MA {b:List Int} (hl:b.length=64) (hb: ∀x∈b,0≤x∧x≤255):lq b=lI b:=by
 unfold lq lI
 refine tV (fun (a:Int×List Int) (c:Int×List Int)=>a.1=c.1∧0≤a.1∧a.1≤16∧(c.2.length:Int)=a.1∧a.2=c.2++List.replicate (64 - a.1).toNat 0) ?_ _ _ _ ⟨rfl,by decide,by decide,rfl,rfl⟩
 rintro ag bg hag ⟨i,w⟩ ⟨i',q⟩ ⟨e1,h0,h1,h2,h3⟩
 simp only at e1 h0 h1 h2 h3
 subst e1
 subst h3
 by_cases hi:i<16
 ·simp only [hi,decide_true,if_true]
  have hz:List.replicate (64 - i).toNat (0:Int)=0::List.replicate (63 - i).toNat 0:=by
   rw [show (64 - i).toNat=(63 - i).toNat+1 by omega];rfl
  have hsl:((sl b (4*i) (4*i+4)).length:Int)=4:=by rw [kR];omega
  rw [hsl,hz]
  refine tV (fun (a:Int×List Int) (c:Int×Int)=>a.1=c.2∧0≤a.1∧a.1≤4∧(0≤c.1∧c.1≤4294967295)∧a.2=q++c.1::List.replicate (63 - i).toNat 0) ?_ _ _ _ ⟨rfl,show (0:Int)≤0 by decide,show (0:Int)≤4 by decide,show (0:Int)≤0∧(0:Int)≤4294967295 by decide,rfl⟩
  rintro ag2 bg2 hag2 ⟨k,w⟩ ⟨x,k'⟩ ⟨e1,g0,g1,g2,g3⟩
  simp only at e1 g0 g1 g2 g3
  subst e1
  subst g3
  by_cases hk:k<4
  ·simp only [hk,decide_true,if_true]
   have hlen:(q++x::List.replicate (63 - i).toNat 0).length=64:=by simp;omega
   have hg:=Mz hb (4*i+k)
   rw [Mx h2,My (by omega) g0 hk (by omega),tX hlen,Dx h2,tX (by simp;omega),Mw g2 hg]
   refine hag2 _ _ ⟨rfl,by omega,by omega,?_,rfl⟩
   have:=yM .u32 (aK .u32 x 256) (ae .u32 (gt b (4*i+k)))
   rw [pB] at this
   exact this
  ·simp only [hk,decide_false,Bool.false_eq_true,if_false]
   refine hag _ _ ⟨rfl,by omega,by omega,by simp;omega,?_⟩
   rw [show (64 - (i+1)).toNat=(63 - i).toNat by omega]
   simp
 ·simp only [hi,decide_false,Bool.false_eq_true,if_false]
  have e16:i=16:=by omega
  subst e16
  refine tV (fun (a:Int×List Int) (c:Int×List Int)=>a.1=c.1∧16≤a.1∧a.1≤64∧(c.2.length:Int)=a.1∧a.2=c.2++List.replicate (64 - a.1).toNat 0) ?_ _ _ _ ⟨rfl,show (16:Int)≤16 by decide,show (16:Int)≤64 by decide,h2,rfl⟩
  rintro ag2 bg2 hag2 ⟨t,w⟩ ⟨t',p⟩ ⟨e1,g0,g1,g2,g3⟩
  simp only at e1 g0 g1 g2 g3
  subst e1
  subst g3
  by_cases ht:t<64
  ·simp only [ht,decide_true,if_true,ab]
   have hz:List.replicate (64 - t).toNat (0:Int)=0::List.replicate (63 - t).toNat 0:=by
    rw [show (64 - t).toNat=(63 - t).toNat+1 by omega];rfl
   rw [hz,tW (t:=t - 15) (by omega) (by omega),tW (t:=t - 2) (by omega) (by omega),tW (t:=t - 16) (by omega) (by omega),tW (t:=t - 7) (by omega) (by omega)]
   rw [jv _ (by decide),jv _ (by decide),jv _ (by decide),jv _ (by decide)]
   have hlen: ∀y:Int,(p++y::List.replicate (63 - t).toNat 0).length=64:=fun y=>by simp;omega
   rw [tX (hlen 0),Dx g2,tX (hlen _)]
   refine hag2 _ _ ⟨rfl,by omega,by omega,by simp;omega,?_⟩
   rw [show (64 - (t+1)).toNat=(63 - t).toNat by omega]
   simp
  ·simp only [ht,decide_false,Bool.false_eq_true,if_false]
   rw [show (64 - t).toNat=0 by omega]
   simp
end Go.Proofs.YtiknkaadhomeiaaGreatDoor
namespace Go.Proofs.YtiknkaadhomeiaaGreatDoor
open Go.RowKit
theorem tY {α β R S:Type} {F:(α→R)→α→R} {G:(β→S)→β→S} {d:α→R} {e:β→S} (Rel:α→β→Prop) (Q:R→S→Prop) (mu:α→Nat)
  (h: ∀ag bg a b,Rel a b→(∀a' b',Rel a' b'→mu a'<mu a→Q (ag a') (bg b'))→Q (F ag a) (G bg b)): ∀(n m:Nat) (a:α) (b:β),Rel a b→mu a<n→mu a<m→Q (ah n F d a) (ah m G e b)
 | 0,_,_,_,_,h1,_=>absurd h1 (Nat.not_lt_zero _)
 | _,0,_,_,_,_,h1=>absurd h1 (Nat.not_lt_zero _)
 | n+1,m+1,a,b,hr,h1,h2=>by
  rw [ah,ah]
  exact h _ _ a b hr fun a' b' hr' hm=>tY Rel Q mu h n m a' b' hr' (by omega) (by omega)
def rnd (K:List Int→List Int) (h w:List Int):List Int:=(ah (((64:Int) - 0).toNat+1) (fun (ag17:(Int×List Int)→(List Int)) (p17:Int×List Int)=>(if (decide (p17.1<64)) then (ab (dO (gt p17.2 4) 6) (fun (x22:Int)=>(ab (dO (gt p17.2 4) 11) (fun (x24:Int)=>(ab (dO (gt p17.2 4) 25) (fun (x26:Int)=>(ab (dO (gt p17.2 0) 2) (fun (x33:Int)=>(ab (dO (gt p17.2 0) 13) (fun (x35:Int)=>(ab (dO (gt p17.2 0) 22) (fun (x37:Int)=>(ag17 ((p17.1+1),([(ak .u32 (ak .u32 (ak .u32 (ak .u32 (ak .u32 (gt p17.2 7) (aU .u32 (aU .u32 x22 x24) x26)) (aU .u32 (aX .u32 (gt p17.2 4) (gt p17.2 5)) (aX .u32 (fk .u32 (gt p17.2 4)) (gt p17.2 6)))) (gt mO p17.1)) (gt w p17.1)) (ak .u32 (aU .u32 (aU .u32 x33 x35) x37) (aU .u32 (aU .u32 (aX .u32 (gt p17.2 0) (gt p17.2 1)) (aX .u32 (gt p17.2 0) (gt p17.2 2))) (aX .u32 (gt p17.2 1) (gt p17.2 2))))),(gt p17.2 0),(gt p17.2 1),(gt p17.2 2),(ak .u32 (gt p17.2 3) (ak .u32 (ak .u32 (ak .u32 (ak .u32 (gt p17.2 7) (aU .u32 (aU .u32 x22 x24) x26)) (aU .u32 (aX .u32 (gt p17.2 4) (gt p17.2 5)) (aX .u32 (fk .u32 (gt p17.2 4)) (gt p17.2 6)))) (gt mO p17.1)) (gt w p17.1))),(gt p17.2 4),(gt p17.2 5),(gt p17.2 6)]:List Int))))))))))))))) else (ah (((8:Int) - 0).toNat+1) (fun (ag43:(Int×List Int)→(List Int)) (p43:Int×List Int)=>(if (decide (p43.1<8)) then (ag43 ((p43.1+1),(st p43.2 p43.1 (ak .u32 (gt p43.2 p43.1) (gt p17.2 p43.1))))) else (K p43.2))) (fun _=>default) (0,h)))) (fun _=>default) (0,(([]:List Int)++h)))
theorem MB {l:List Int} (h:l.length=8):l=[gt l 0,gt l 1,gt l 2,gt l 3,gt l 4,gt l 5,gt l 6,gt l 7]:=by
 match l,h with
 | [a,b,c,d,e,f,g,i],_=>rfl
theorem Dy {l:List Int} (h:l.length=8):au 8 l=l:=lj h
theorem MC:kO=mO:=rfl
theorem MD (K:List Int→List Int) {h b:List Int} (hl:h.length=8):rnd K h (lq b)=K (ka h b):=by
 unfold rnd ka
 simp only [ab]
 generalize lq b=w
 refine tY (fun (a:Int×Int×Int×Int×Int×Int×Int×Int×Int) (c:Int×List Int)=>a.2.2.2.2.2.2.2.2=c.1∧0≤c.1∧c.1≤64∧c.2=[a.1,a.2.1,a.2.2.1,a.2.2.2.1,a.2.2.2.2.1,a.2.2.2.2.2.1,a.2.2.2.2.2.2.1,a.2.2.2.2.2.2.2.1]) (fun r s=>s=K r) (fun a=>(64 - a.2.2.2.2.2.2.2.2).toNat) ?_ _ _ _ _ ⟨rfl,show (0:Int)≤0 by decide,show (0:Int)≤64 by decide,MB hl⟩ (show ((64:Int) - 0).toNat<((64:Int) - 0).toNat+1 by decide) (show ((64:Int) - 0).toNat<((64:Int) - 0).toNat+1 by decide)
 rintro ag bg ⟨a0,a1,a2,a3,a4,a5,a6,a7,t⟩ ⟨t',v⟩ ⟨e1,g0,g1,g2⟩ hag
 simp only at e1 g0 g1 g2 hag
 subst e1
 subst g2
 by_cases ht:t<64
 ·simp only [ht,decide_true,if_true]
  rw [jv _ (by decide),jv _ (by decide),jv _ (by decide),jv _ (by decide),jv _ (by decide),jv _ (by decide),MC]
  refine hag _ _ ⟨rfl,by omega,by omega,?_⟩ (by simp only;omega)
  rfl
 ·simp only [ht,decide_false,Bool.false_eq_true,if_false]
  refine tY (fun (a:Int×List Int) (c:Int×List Int)=>a=c∧0≤a.1∧a.1≤8∧a.2.length=8) (fun r s=>s=K r) (fun a=>(8 - a.1).toNat) ?_ _ _ _ _ ⟨rfl,show (0:Int)≤0 by decide,show (0:Int)≤8 by decide,hl⟩ (show ((8:Int) - 0).toNat<((8:Int) - 0).toNat+1 by decide) (show ((8:Int) - 0).toNat<((8:Int) - 0).toNat+1 by decide)
  rintro ag2 bg2 ⟨i,s⟩ ⟨i',s'⟩ ⟨e1,k0,k1,k2⟩ hag2
  cases e1
  simp only at k0 k1 k2 hag2
  by_cases hi:i<8
  ·simp only [hi,decide_true,if_true]
   rw [Dy k2,Dy (by rw [ja];exact k2)]
   exact hag2 _ _ ⟨rfl,by simp only;omega,by simp only;omega,by simp only [ja];exact k2⟩ (by simp only;omega)
  ·simp only [hi,decide_false,Bool.false_eq_true,if_false]
end Go.Proofs.YtiknkaadhomeiaaGreatDoor
namespace Go.Proofs.YtiknkaadhomeiaaGreatDoor
open Go.RowKit
theorem ME (n:Nat):isB (List.replicate n 0):=fun x hx=>by
 rw [(List.mem_replicate.1 hx).2];decide
theorem MF (n:Int):mI n=lH n:=by kernel_rfl
theorem MG (n:Int):isB (lH n):=by
 rw [tG]
 have key: ∀a,0≤ae .u8 a∧ae .u8 a≤255:=fun a=>by have:=qK .u8 a;rwa [sr] at this
 intro x hx
 simp only [List.mem_cons,List.not_mem_nil,or_false] at hx
 rcases hx with rfl|rfl|rfl|rfl|rfl|rfl|rfl|rfl<;>exact key _
theorem MH {n:Nat} (h:n≤1000000000):aK .u64 8 (ae .u64 (n:Int))=aK .i64 8 (n:Int):=by
 unfold aK ae
 rw [w64,w64,IntKind.wrap_i64]
 omega
theorem MI {b:List Int} (hb:isB b):isB (jq b):=by
 rw [tH]
 exact ov (ov (ov hb (fun x hx=>by simp at hx;subst hx;decide)) (ME _)) (MG _)
theorem MJ {h b:List Int} (hl:h.length=8):(ka h b).length=8:=by
 unfold ka
 simp only [ab]
 generalize lq b=w
 refine mQ (fun (a:Int×Int×Int×Int×Int×Int×Int×Int×Int)=>a.2.2.2.2.2.2.2.2≤64) (fun r:List Int=>r.length=8) (fun a=>(64 - a.2.2.2.2.2.2.2.2).toNat) ?_ _ _ (show (0:Int)≤64 by decide) (show ((64:Int) - 0).toNat<((64:Int) - 0).toNat+1 by decide)
 rintro ag ⟨a0,a1,a2,a3,a4,a5,a6,a7,t⟩ g0 hag
 simp only at g0 hag
 by_cases ht:t<64
 ·simp only [ht,decide_true,if_true]
  exact hag _ (by simp only;omega) (by simp only;omega)
 ·simp only [ht,decide_false,Bool.false_eq_true,if_false]
  refine mQ (fun (a:Int×List Int)=>a.2.length=8) (fun r:List Int=>r.length=8) (fun a=>(8 - a.1).toNat) ?_ _ _ hl (show ((8:Int) - 0).toNat<((8:Int) - 0).toNat+1 by decide)
  rintro ag2 ⟨i,s⟩ k0 hag2
  simp only at k0 hag2
  by_cases hi:i<8
  ·simp only [hi,decide_true,if_true]
   exact hag2 _ cq (by simp only;omega)
  ·simp only [hi,decide_false,Bool.false_eq_true,if_false]
   exact k0
theorem MK {l:List Int} {n:Nat}:sl (l.drop n) 0 64=sl l (n:Int) ((n:Int)+64):=by
 unfold sl
 rw [show ((n:Int)+64).toNat - (n:Int).toNat=64 by omega]
 simp
theorem ML {l:List Int} {n:Nat}:sl (l.drop n) 64 ((l.drop n).length:Int)=l.drop (n+64):=by
 unfold sl
 rw [show (64:Int).toNat=64 from rfl,List.drop_drop,List.take_of_length_le (by simp;omega)]
theorem MM {b:List Int} (hb:isB b) (hl:b.length≤1000000000):lr b=kh b:=by
 unfold lr kh
 simp only [ab,mH]
 refine (CO (fun ag p=>rfl)).trans ?_
 have hX:=MI hb
 have hX64:=CP b
 have e:(b++[128])++List.replicate ((56 - ((b++[(128:Int)]).length:Int))% 64).toNat 0++mI (aK .u64 8 (ae .u64 (b.length:Int)))=jq b:=by
  rw [tH,MF,MH hl];rfl
 simp only [e]
 generalize jq b=X at hX hX64
 refine tY (fun (a:List Int×List Int) (c:Int×List Int)=> ∃n:Nat,c.1=(n:Int)∧a.1=X.drop n∧a.2=c.2∧c.2.length=8∧n≤X.length∧n% 64=0) (fun r s=>r=s) (fun a=>a.1.length) ?_ _ _ _ _ ⟨0,rfl,rfl,rfl,rfl,Nat.zero_le _,rfl⟩ (Nat.lt_succ_self _) (show X.length<((X.length:Int) - 0).toNat+1 by omega)
 rintro ag bg ⟨r,s⟩ ⟨at',s'⟩ ⟨n,rfl,rfl,rfl,g1,g2,g3⟩ hag
 simp only at g1 hag
 by_cases hn:n<X.length
 ·have c1:((X.drop n).length:Int)>0:=by rw [List.length_drop];omega
  have c2:(n:Int)<(X.length:Int):=by omega
  have hlen:(sl X (n:Int) ((n:Int)+64)).length=64:=by rw [kR];omega
  simp only [c1,c2,decide_true,if_true]
  rw [←MA hlen (dW hX),MK,ML]
  have hrel: ∃k:Nat,((n:Int)+64)=(k:Int)∧X.drop (n+64)=X.drop k∧k≤X.length∧k% 64=0:=by
   generalize hk:n+64=k
   exact ⟨k,by omega,rfl,by omega,by omega⟩
  obtain ⟨k,k1,k2,k3,k4⟩:=hrel
  have hmu:(X.drop (n+64)).length<(X.drop n).length:=by rw [List.length_drop,List.length_drop];omega
  have hm:=MJ (b:=sl X (n:Int) ((n:Int)+64)) g1
  have h1:=hag (X.drop (n+64),ka s (sl X (n:Int) ((n:Int)+64))) ((n:Int)+64,ka s (sl X (n:Int) ((n:Int)+64)))
  simp only at h1
  have h2:=h1 ⟨k,k1,k2,trivial,hm,k3,k4⟩ hmu
  refine Eq.trans h2 ?_
  exact (MD (fun z=>bg ((n:Int)+64,z)) g1).symm
 ·have c1: ¬((X.drop n).length:Int)>0:=by rw [List.length_drop];omega
  have c2: ¬(n:Int)<(X.length:Int):=by omega
  simp only [c1,c2,decide_false,Bool.false_eq_true,if_false]
  show (_:List Int)=_
  kernel_rfl
end Go.Proofs.YtiknkaadhomeiaaGreatDoor
namespace Go.Proofs.YtiknkaadhomeiaaGreatDoor
open Go.RowKit
set_option linter.unusedVariables false
set_option linter.unusedSimpArgs false
def Dz (i9:aa) (n9 s9:List Int):av×Bool:=
 (ah ((((gt i9.L 1).L.length:Int) - 0).toNat+1) (fun (ag44:(Int×av×List ay)→(av×Bool)) (p44:Int×av×List ay)=>(if (decide (p44.1<((gt i9.L 1).L.length:Int))) then (ab (lE (gt (gt i9.L 1).L p44.1)) (fun (x48:(ay×Bool))=>(if (!x48.2) then (aT,false) else (ag44 ((p44.1+1),p44.2.1,(p44.2.2++([x48.1]:List ay))))))) else (ah ((((gt i9.L 2).L.length:Int) - 0).toNat+1) (fun (ag55:(Int×av×List aL)→(av×Bool)) (p55:Int×av×List aL)=>(if (decide (p55.1<((gt i9.L 2).L.length:Int))) then (ab (lF (gt (gt i9.L 2).L p55.1)) (fun (x59:(aL×Int))=>(if (x59.2 !=0) then (aT,false) else (ag55 ((p55.1+1),p55.2.1,(p55.2.2++([x59.1]:List aL))))))) else (({Bank:=(gt n9 0),U:=(gt n9 1),Key:=(gt n9 2),Next:=(gt n9 3),Holdings:=p44.2.2,Open:=p55.2.2,Source:=({Seed:=s9,Counter:=(gt (gt i9.L 3).L 1).N}:dD)}:av),true))) (fun _=>default) (0,p44.2.1,([]:List aL))))) (fun _=>default) (0,aT,([]:List ay)))
def DA (i9:aa) (n9 s9:List Int) (H9:List ay):av×Bool:=
 (ah ((((gt i9.L 2).L.length:Int) - 0).toNat+1) (fun (ag55:(Int×av×List aL)→(av×Bool)) (p55:Int×av×List aL)=>(if (decide (p55.1<((gt i9.L 2).L.length:Int))) then (ab (lF (gt (gt i9.L 2).L p55.1)) (fun (x59:(aL×Int))=>(if (x59.2 !=0) then (aT,false) else (ag55 ((p55.1+1),p55.2.1,(p55.2.2++([x59.1]:List aL))))))) else (({Bank:=(gt n9 0),U:=(gt n9 1),Key:=(gt n9 2),Next:=(gt n9 3),Holdings:=H9,Open:=p55.2.2,Source:=({Seed:=s9,Counter:=(gt (gt i9.L 3).L 1).N}:dD)}:av),true))) (fun _=>default) (0,aT,([]:List aL)))
def DB (i9:aa) (n9:List Int):av×Int:=
 (ah ((((gt i9.L 1).L.length:Int) - 0).toNat+1) (fun (ag39:(Int×av×List ay)→(av×Int)) (p39:Int×av×List ay)=>(if (decide (p39.1<((gt i9.L 1).L.length:Int))) then (ab (gM (gt (gt i9.L 1).L p39.1)) (fun (x43:(ay×Bool))=>(if (!x43.2) then (aT,3) else (ag39 ((p39.1+1),p39.2.1,(p39.2.2++([x43.1]:List ay))))))) else (ah ((((gt i9.L 2).L.length:Int) - 0).toNat+1) (fun (ag50:(Int×av×List aL)→(av×Int)) (p50:Int×av×List aL)=>(if (decide (p50.1<((gt i9.L 2).L.length:Int))) then (ab (dN (gt (gt i9.L 2).L p50.1)) (fun (x54:(aL×Int))=>(if (x54.2 !=0) then (aT,3) else (ag50 ((p50.1+1),p50.2.1,(p50.2.2++([x54.1]:List aL))))))) else (ab (jo (gt i9.L 3)) (fun (x62:(dD×Bool))=>(if (!x62.2) then (aT,3) else (({Bank:=(gt n9 0),U:=(gt n9 1),Key:=(gt n9 2),Next:=(gt n9 3),Holdings:=p39.2.2,Open:=p50.2.2,Source:=x62.1}:av),0)))))) (fun _=>default) (0,p39.2.1,([]:List aL))))) (fun _=>default) (0,aT,([]:List ay)))
def tZ (p:av):av×Int:=(p,0)
def t0 (r:av×Int):Prop:=r=(aT,3)
def okQ (p:av):av×Bool:=(p,true)
def ym (r:av×Bool):Prop:=r=(aT,false)
def fW (i:aa):Option aL:=if (dN i).2=0 then some (dN i).1 else none
def gV (i:aa):Prop:=(i.Kind=3∧i.L.length=2)∧((gt i.L 0).Kind=2∧(gt i.L 0).B.length=32)∧(gt i.L 1).Kind=1
instance (i:aa):Decidable (gV i):=by unfold gV;infer_instance
def mkP (n:List Int) (i:aa) (H:List ay) (O:List aL):av:={Bank:=gt n 0,U:=gt n 1,Key:=gt n 2,Next:=gt n 3,Holdings:=H,Open:=O,Source:={Seed:=au 32 (gt (gt i.L 3).L 0).B,Counter:=(gt (gt i.L 3).L 1).N}}
def lN (i:aa) (n:List Int) (H:List ay):Option av:=ju (gk fW (gt i.L 2).L) (fun O=>if gV (gt i.L 3) then some (mkP n i H O) else none)
def mX (i:aa) (n:List Int):Option av:=ju (gk iM (gt i.L 1).L) (fun H=>lN i n H)
def t6 (i:aa):Prop:=(i.Kind=3∧i.L.length=4)∧((gt i.L 0).Kind=3∧(gt i.L 0).L.length=4)∧(gt i.L 1).Kind=3∧(gt i.L 2).Kind=3∧(aN (gt i.L 0)).2=0
instance (i:aa):Decidable (t6 i):=by unfold t6;infer_instance
def qD (i:aa):Option av:=if t6 i then mX i (aN (gt i.L 0)).1 else none
def lO (b:List Int):Option av:=if (gi b).2=0 then qD (gi b).1 else none
theorem MN (i:aa):jo i=if gV i then ({Seed:=au 32 (gt i.L 0).B,Counter:=(gt i.L 1).N},true) else (gJ,false):=by
 unfold jo
 rw [aG,tU]
 by_cases c0:i.Kind=3∧i.L.length=2
 ·rw [if_neg (by simp [c0.1,c0.2])]
  by_cases c1:(gt i.L 0).Kind=2
  ·rw [if_neg (by simp [c1])]
   by_cases c2:(gt i.L 0).B.length=32
   ·rw [if_neg (by simp [c2])]
    by_cases c3:(gt i.L 1).Kind=1
    ·rw [if_neg (by simp [c3]),if_pos ⟨c0,⟨c1,c2⟩,c3⟩]
    ·rw [if_pos (by simp [c3]),if_neg (fun h=>c3 h.2.2)]
   ·rw [if_pos (by simp;omega),if_neg (fun h=>c2 h.2.1.2)]
  ·rw [if_pos (by simp [c1]),if_neg (fun h=>c1 h.2.1.1)]
 ·rw [if_pos (by simp;omega),if_neg (fun h=>c0 h.1)]
theorem MO (i:aa) (n:List Int) (H:List ay) (O:List aL):IsO tZ t0 (tS i n H O) (if gV (gt i.L 3) then some (mkP n i H O) else none):=by
 unfold tS
 rw [aG,MN]
 by_cases h:gV (gt i.L 3)
 ·rw [if_pos h,if_pos h,if_neg (by simp)];rfl
 ·rw [if_neg h,if_neg h,if_pos (by simp)];rfl
theorem DC {s:aa} (h:(dN s).2=0):fW s=some (dN s).1:=if_pos h
theorem DD {s:aa} (h:(dN s).2≠0):fW s=none:=if_neg h
theorem MP (i:aa) (n:List Int) (H:List ay):IsO tZ t0 (tR i n H) (lN i n H):=by
 unfold tR lN
 refine lM fW (fun i a=>(i,aT,a)) (fun O=>if gV (gt i.L 3) then some (mkP n i H O) else none) ?_ ?_
 ·intro ag a j h0 h1
  by_cases hh:(dN (gt (gt i.L 2).L j)).2=0
  ·rw [DC hh];dsimp only;rw [if_pos (by simpa using h1),aG,if_neg (by simp [hh])]
  ·rw [DD hh];dsimp only;rw [if_pos (by simpa using h1),aG,if_pos (by simp [hh])];rfl
 ·intro ag a
  dsimp only
  rw [if_neg (by simp)]
  exact MO i n H a
theorem MQ (i:aa) (n:List Int):IsO tZ t0 (DB i n) (mX i n):=by
 unfold DB mX
 refine lM iM (fun i a=>(i,aT,a)) (lN i n) ?_ ?_
 ·intro ag a j h0 h1
  have h:=Mq (gt (gt i.L 1).L j)
  cases hh:iM (gt (gt i.L 1).L j) with
  | some y=>rw [hh] at h;have h:gM (gt (gt i.L 1).L j)=(y,true):=h;dsimp only;rw [if_pos (by simpa using h1),aG,h,if_neg (by simp)]
  | none=>rw [hh] at h;have h:(gM (gt (gt i.L 1).L j)).2=false:=h;dsimp only;rw [if_pos (by simpa using h1),aG,if_pos (by simp [h])];rfl
 ·intro ag a
  dsimp only
  rw [if_neg (by simp)]
  exact MP i n a
theorem DE (b:List Int):IsO tZ t0 (fx b) (lO b):=by
 unfold fx lO
 rw [aG]
 by_cases hd:(gi b).2=0
 ·rw [if_neg (by simp [hd]),if_pos hd]
  generalize (gi b).1=i
  rw [aG,tU]
  by_cases c0:i.Kind=3∧i.L.length=4
  ·rw [if_neg (by simp [c0.1,c0.2]),aG,tU]
   by_cases c1:(gt i.L 0).Kind=3∧(gt i.L 0).L.length=4
   ·rw [if_neg (by simp [c1.1,c1.2])]
    by_cases c2:(gt i.L 1).Kind=3
    ·rw [if_neg (by simp [c2])]
     by_cases c3:(gt i.L 2).Kind=3
     ·rw [if_neg (by simp [c3]),aG]
      by_cases c4:(aN (gt i.L 0)).2=0
      ·rw [if_neg (by simp [c4])]
       have:qD i=_:=if_pos ⟨c0,c1,c2,c3,c4⟩
       rw [this]
       exact MQ i _
      ·rw [if_pos (by simp [c4])];exact cA rfl (if_neg (fun h=>c4 h.2.2.2.2))
     ·rw [if_pos (by simp [c3])];exact cA rfl (if_neg (fun h=>c3 h.2.2.2.1))
    ·rw [if_pos (by simp [c2])];exact cA rfl (if_neg (fun h=>c2 h.2.2.1))
   ·rw [if_pos (by simp;omega)];exact cA rfl (if_neg (fun h=>c1 h.2.1))
  ·rw [if_pos (by simp;omega)];exact cA rfl (if_neg (fun h=>c0 h.1))
 ·rw [if_pos (by simp [hd])];exact cA rfl (if_neg hd)
theorem DF (s:aa):lF s=dN s:=by rw [L1,De]
theorem MR (i:aa) (n:List Int) (H:List ay) (hs:gV (gt i.L 3)):IsO okQ ym (DA i n (au 32 (gt (gt i.L 3).L 0).B) H) (lN i n H):=by
 unfold DA lN
 refine lM fW (fun i a=>(i,aT,a)) (fun O=>if gV (gt i.L 3) then some (mkP n i H O) else none) ?_ ?_
 ·intro ag a j h0 h1
  by_cases hh:(dN (gt (gt i.L 2).L j)).2=0
  ·rw [DC hh];dsimp only;rw [if_pos (by simpa using h1),aG,DF,if_neg (by simp [hh])]
  ·rw [DD hh];dsimp only;rw [if_pos (by simpa using h1),aG,DF,if_pos (by simp [hh])];rfl
 ·intro ag a
  dsimp only
  rw [if_neg (by simp),if_pos hs]
  rfl
theorem MS {i:aa} (hv:aQ i 8=true) (hk:i.Kind=3) (hl:i.L.length=4) (h1:(gt i.L 1).Kind=3) (n:List Int) (hs:gV (gt i.L 3)):IsO okQ ym (Dz i n (au 32 (gt (gt i.L 3).L 0).B)) (mX i n):=by
 have hv1:=gS (j:=1) hv hk (by rw [hl];decide)
 unfold Dz mX
 refine lM iM (fun i a=>(i,aT,a)) (lN i n) ?_ ?_
 ·intro ag a j g0 g1
  have h:=Mt (C4 hv1 h1 _ (oE g0 g1))
  cases hh:iM (gt (gt i.L 1).L j) with
  | some y=>rw [hh] at h;have h:lE (gt (gt i.L 1).L j)=(y,true):=h;dsimp only;rw [if_pos (by simpa using g1),aG,h,if_neg (by simp)]
  | none=>rw [hh] at h;have h:lE (gt (gt i.L 1).L j)=(cw,false):=h;dsimp only;rw [if_pos (by simpa using g1),aG,h,if_pos (by simp)];rfl
 ·intro ag a
  dsimp only
  rw [if_neg (by simp)]
  exact MR i n a hs
theorem MT {i:aa} (hs: ¬gV (gt i.L 3)):qD i=none:=by
 by_cases hc:t6 i
 ·have:qD i=mX i (aN (gt i.L 0)).1:=if_pos hc
  rw [this]
  unfold mX lN
  cases gk iM (gt i.L 1).L with
  | none=>rfl
  | some H=>
   show ju (gk fW (gt i.L 2).L) _=none
   cases gk fW (gt i.L 2).L with
   | none=>rfl
   | some O=>exact if_neg hs
 ·exact if_neg hc
theorem MU {B:List Int} (h:B.length=32):au 32 (spl ([0,0,0,0,0,0,0,0,0,0,0,0,0,0,0,0,0,0,0,0,0,0,0,0,0,0,0,0,0,0,0,0]:List Int) 0 (min 32 B.length) B)=au 32 B:=by
 have:spl ([0,0,0,0,0,0,0,0,0,0,0,0,0,0,0,0,0,0,0,0,0,0,0,0,0,0,0,0,0,0,0,0]:List Int) 0 (min 32 B.length) B=B:=by
  rw [h]
  unfold spl
  simp [h,List.take_of_length_le]
 rw [this]
theorem DG {b:List Int} (hb:isB b):IsO okQ ym (gj b) (lO b):=by
 unfold gj lO
 rw [aG]
 rcases LS hb with ⟨i,e1,e2,hv⟩|⟨e1,e2⟩
 ·rw [e1,e2,if_neg (by simp),if_pos rfl]
  dsimp only
  by_cases k0:i.Kind=3
  ·rw [if_neg (by simp [k0])]
   by_cases k1:i.L.length=4
   ·have hw: ∀j:Int,j.toNat<4→aQ (gt i.L j) 8=true:=fun j hj=>gS hv k0 (by omega)
    rw [if_neg (by simp [k1])]
    by_cases c2:(gt i.L 1).Kind=3
    ·rw [if_neg (by simp [c2])]
     by_cases c3:(gt i.L 2).Kind=3
     ·rw [if_neg (by simp [c3]),aG,oC 4 (hw 0 (by decide))]
      by_cases c4:(aN (gt i.L 0)).2=0∧((aN (gt i.L 0)).1.length:Int)=4
      ·rw [if_pos c4,if_neg (by simp)]
       have cL:=(qt (i:=gt i.L 0) rfl).resolve_left (fun h2=>h2 c4.1)
       have cl:(gt i.L 0).L.length=4:=by have:=c4.2;omega
       by_cases hs:gV (gt i.L 3)
       ·rw [if_neg (by simp [hs.1.1]),if_neg (by simp [hs.1.2]),if_neg (by simp [hs.2.2]),aG,tL]
        have hh:dr (gt (gt i.L 3).L 0)=(au 32 (gt (gt i.L 3).L 0).B,true):=by
         unfold dr
         rw [if_neg (by simp [hs.2.1.1]),if_neg (by simp [hs.2.1.2]),MU hs.2.1.2]
        rw [hh,if_neg (by simp)]
        have:qD i=_:=if_pos ⟨⟨k0,k1⟩,⟨yl c4.1,cl⟩,c2,c3,c4.1⟩
        rw [this]
        exact MS hv k0 k1 c2 _ hs
       ·refine cA ?_ (MT hs)
        by_cases s1:(gt i.L 3).Kind=3
        ·rw [if_neg (by simp [s1])]
         by_cases s2:(gt i.L 3).L.length=2
         ·rw [if_neg (by simp [s2])]
          by_cases s3:(gt (gt i.L 3).L 1).Kind=1
          ·rw [if_neg (by simp [s3]),aG,tL]
           have hh:(dr (gt (gt i.L 3).L 0)).2=false:=by
            unfold dr
            by_cases s4:(gt (gt i.L 3).L 0).Kind=2
            ·rw [if_neg (by simp [s4])]
             by_cases s5:(gt (gt i.L 3).L 0).B.length=32
             ·exact absurd ⟨⟨s1,s2⟩,⟨s4,s5⟩,s3⟩ hs
             ·rw [if_pos (by simp;omega)]
            ·rw [if_pos (by simp [s4])]
           rw [if_pos (by simp [hh])];rfl
          ·rw [if_pos (by simp [s3])];rfl
         ·rw [if_pos (by simp;omega)];rfl
        ·rw [if_pos (by simp [s1])];rfl
      ·rw [if_neg c4,if_pos (by simp)]
       refine cA rfl (if_neg (fun h=>c4 ⟨h.2.2.2.2,?_⟩))
       have:=(qt (i:=gt i.L 0) rfl).resolve_left (fun h2=>h2 h.2.2.2.2)
       have:=h.2.1.2
       omega
     ·rw [if_pos (by simp [c3])];exact cA rfl (if_neg (fun h=>c3 h.2.2.2.1))
    ·rw [if_pos (by simp [c2])];exact cA rfl (if_neg (fun h=>c2 h.2.2.1))
   ·rw [if_pos (by simp;omega)];exact cA rfl (if_neg (fun h=>k1 h.1.2))
  ·rw [if_pos (by simp [k0])];exact cA rfl (if_neg (fun h=>k0 h.1.1))
 ·rw [if_pos (by simp [e2]),if_neg e1];rfl
theorem DH {σ R:Type} (I:σ→Prop) {F G:(σ→R)→σ→R} {d:σ→R} (h: ∀f g p,I p→(∀q,I q→f q=g q)→F f p=G g p): ∀(n:Nat) (p:σ),I p→ah n F d p=ah n G d p
 | 0,_,_=>rfl
 | n+1,p,hp=>by
  rw [ah,ah]
  exact h _ _ p hp (fun q hq=>DH I h n q hq)
theorem MV {l:List Int} {n:Int} (h0:0≤n) (h1:n≤l.length):lG l n=l.take n.toNat:=by
 unfold lG
 have key: ∀(m k:Nat) (a:List Int),n.toNat - k=m→k≤n.toNat→ ∀fuel,m<fuel→ah fuel (fun (ag1:(Int×List Int)→(List Int)) (p1:Int×List Int)=>(if (decide (p1.1<n)) then (ag1 ((p1.1+1),(p1.2++([(gt l p1.1)]:List Int)))) else p1.2)) (fun _=>default) ((k:Int),a)=a++(l.take n.toNat).drop k:=by
  intro m
  induction m with
  | zero=>
   intro k a e1 e2 fuel hf
   obtain ⟨f,rfl⟩: ∃f,fuel=f+1:=⟨fuel - 1,by omega⟩
   rw [ah,if_neg (by simp;omega),List.drop_of_length_le (by rw [List.length_take];omega),List.append_nil]
  | succ m ih=>
   intro k a e1 e2 fuel hf
   obtain ⟨f,rfl⟩: ∃f,fuel=f+1:=⟨fuel - 1,by omega⟩
   rw [ah,if_pos (by simp;omega)]
   have h3:=ih (k+1) (a++[gt l k]) (by omega) (by omega) f (by omega)
   rw [show ((k:Int)+1)=((k+1:Nat):Int) by omega,h3]
   have hk:k<l.length:=by omega
   have e:gt l (k:Int)=l[k]:=by simp [gt,List.getD_eq_getElem?_getD,hk]
   rw [List.drop_eq_getElem_cons (i:=k) (by rw [List.length_take];omega),List.getElem_take,e,List.append_assoc]
   rfl
 have h5:=key n.toNat 0 [] (by omega) (by omega) ((n - 0).toNat+1) (by omega)
 simpa using h5
theorem DI {R:Type} {a b:List Int} {X Y:R} {d:Int→R}:((∀k:Nat,k<32→gt a (4+(k:Int))=gt b (k:Int))→ah (((32:Int) - 0).toNat+1) (fun (ag:Int→R) (p:Int)=>if (decide (p<32)) then (if ((gt a (4+p)) !=(gt b p)) then X else (ag (p+1))) else Y) d 0=Y)∧((¬ ∀k:Nat,k<32→gt a (4+(k:Int))=gt b (k:Int))→ah (((32:Int) - 0).toNat+1) (fun (ag:Int→R) (p:Int)=>if (decide (p<32)) then (if ((gt a (4+p)) !=(gt b p)) then X else (ag (p+1))) else Y) d 0=X):=by
 have key: ∀(m k:Nat),32 - k=m→k≤32→ ∀fuel,m<fuel→((∀j:Nat,k≤j→j<32→gt a (4+(j:Int))=gt b (j:Int))→ah fuel (fun (ag:Int→R) (p:Int)=>if (decide (p<32)) then (if ((gt a (4+p)) !=(gt b p)) then X else (ag (p+1))) else Y) d (k:Int)=Y)∧((¬ ∀j:Nat,k≤j→j<32→gt a (4+(j:Int))=gt b (j:Int))→ah fuel (fun (ag:Int→R) (p:Int)=>if (decide (p<32)) then (if ((gt a (4+p)) !=(gt b p)) then X else (ag (p+1))) else Y) d (k:Int)=X):=by
  intro m
  induction m with
  | zero=>
   intro k e1 e2 fuel hf
   obtain ⟨f,rfl⟩: ∃f,fuel=f+1:=⟨fuel - 1,by omega⟩
   rw [ah,if_neg (by simp;omega)]
   exact ⟨fun _=>rfl,fun h=>absurd (fun j h1 h2=>by omega) h⟩
  | succ m ih=>
   intro k e1 e2 fuel hf
   obtain ⟨f,rfl⟩: ∃f,fuel=f+1:=⟨fuel - 1,by omega⟩
   rw [ah,if_pos (by simp;omega)]
   by_cases h:gt a (4+(k:Int))=gt b (k:Int)
   ·rw [if_neg (by simp [h]),show ((k:Int)+1)=((k+1:Nat):Int) by omega]
    have h3:=ih (k+1) (by omega) (by omega) f (by omega)
    refine ⟨fun g=>h3.1 (fun j h1 h2=>g j (by omega) h2),fun g=>h3.2 (fun g2=>g (fun j h1 h2=> ?_))⟩
    by_cases hj:j=k
    ·rw [hj];exact h
    ·exact g2 j (by omega) h2
   ·rw [if_pos (by simp [h])]
    exact ⟨fun g=>absurd (g k (Nat.le_refl _) (by omega)) h,fun _=>rfl⟩
 have h5:=key 32 0 rfl (by decide) (((32:Int) - 0).toNat+1) (by decide)
 exact ⟨fun g=>h5.1 (fun j _ h2=>g j h2),fun g=>h5.2 (fun g2=>g (fun j h2=>g2 j (Nat.zero_le _) h2))⟩
theorem MW {a b:List Int}:eo a b=true↔ ∀k:Nat,k<32→gt a (k:Int)=gt b (k:Int):=by
 constructor
 ·intro h k hk
  simp only [eo,Bool.and_eq_true,beq_iff_eq] at h
  obtain ⟨h0,h1,h2,h3,h4,h5,h6,h7,h8,h9,h10,h11,h12,h13,h14,h15,h16,h17,h18,h19,h20,h21,h22,h23,h24,h25,h26,h27,h28,h29,h30,h31⟩:=h
  match k,hk with
  | 0,_=>exact h0
  | 1,_=>exact h1
  | 2,_=>exact h2
  | 3,_=>exact h3
  | 4,_=>exact h4
  | 5,_=>exact h5
  | 6,_=>exact h6
  | 7,_=>exact h7
  | 8,_=>exact h8
  | 9,_=>exact h9
  | 10,_=>exact h10
  | 11,_=>exact h11
  | 12,_=>exact h12
  | 13,_=>exact h13
  | 14,_=>exact h14
  | 15,_=>exact h15
  | 16,_=>exact h16
  | 17,_=>exact h17
  | 18,_=>exact h18
  | 19,_=>exact h19
  | 20,_=>exact h20
  | 21,_=>exact h21
  | 22,_=>exact h22
  | 23,_=>exact h23
  | 24,_=>exact h24
  | 25,_=>exact h25
  | 26,_=>exact h26
  | 27,_=>exact h27
  | 28,_=>exact h28
  | 29,_=>exact h29
  | 30,_=>exact h30
  | 31,_=>exact h31
  | n+32,hk=>exact absurd hk (by omega)
 ·intro h
  simp only [eo,Bool.and_eq_true,beq_iff_eq]
  refine ⟨h 0 (by decide),h 1 (by decide),h 2 (by decide),h 3 (by decide),h 4 (by decide),h 5 (by decide),h 6 (by decide),h 7 (by decide),h 8 (by decide),h 9 (by decide),h 10 (by decide),h 11 (by decide),h 12 (by decide),h 13 (by decide),h 14 (by decide),h 15 (by decide),h 16 (by decide),h 17 (by decide),h 18 (by decide),h 19 (by decide),h 20 (by decide),h 21 (by decide),h 22 (by decide),h 23 (by decide),h 24 (by decide),h 25 (by decide),h 26 (by decide),h 27 (by decide),h 28 (by decide),h 29 (by decide),h 30 (by decide),h 31 (by decide)⟩
theorem DJ {l:List Int} (h:36≤l.length) {k:Nat} (hk:k<32):gt (sl l 4 36) (k:Int)=gt l (4+(k:Int)):=by
 unfold sl gt
 rw [show ((4:Int)+(k:Int)).toNat=4+k by omega,Int.toNat_natCast,show Int.toNat 36=36 from rfl,show Int.toNat 4=4 from rfl]
 simp only [List.getD_eq_getElem?_getD,List.getElem?_take,List.getElem?_drop]
 rw [if_pos (by omega)]
theorem MX {l:List Int} {n:Int} (h0:0≤n):(sl l 36 (l.length:Int)).take n.toNat=sl l 36 (36+n):=by
 unfold sl
 rw [Int.toNat_natCast,show (36+n).toNat=36+n.toNat by omega,show Int.toNat 36=36 from rfl,List.take_of_length_le (l:=l.drop 36) (by rw [List.length_drop];exact Nat.le_refl _),Nat.add_sub_cancel_left]
theorem MY {j:cy} (hb:isB j.Bytes):fP j=qo j:=by
 unfold fP qo
 rw [aG,aG,show fQ j=gP j from rfl]
 cases hv:gP j with
 | false=>rfl
 | true=>
  have hl:(j.Bytes.length:Int)≤1048576:=by
   unfold gP at hv
   by_cases h:(j.Bytes.length:Int)≤1048576
   ·exact h
   ·simp [h] at hv
  rw [if_neg (by decide),if_neg (by decide)]
  refine DH (fun p=>isB p.1∧(p.1.length:Int)≤1048576) (fun f g p hp hfg=> ?_) _ _ ⟨hb,hl⟩
  have hn:=xI hp.1
  by_cases h1:(p.1.length:Int)≥36
  ·have c1:decide ((p.1.length:Int)≥36)=true:=by simpa using h1
   rw [if_pos c1,if_pos c1]
   change (if (decide (hd4 p.1>16384))=true then p.2 else if (decide ((p.1.length:Int)<ak .i64 36 (hd4 p.1)))=true then p.2 else ab (lr (sl p.1 36 (ak .i64 36 (hd4 p.1)))) (fun x20=>if (!(eo x20 (au 32 (sl p.1 4 36))))=true then p.2 else ab (qh (sl p.1 36 (ak .i64 36 (hd4 p.1)))) (fun x26=>f (sl p.1 (ak .i64 36 (hd4 p.1)) (p.1.length:Int),p.2++[x26]))))=
    (if (decide (hd4 p.1>16384))=true then p.2 else if (decide ((p.1.length:Int)<ak .i64 36 (hd4 p.1)))=true then p.2 else ab (lG (sl p.1 36 (p.1.length:Int)) (hd4 p.1)) (fun x19=>ab (kh x19) (fun x22=>ah (((32:Int) - 0).toNat+1) (fun (ag25:Int→List (List Int)) (p25:Int)=>if (decide (p25<32)) then (if ((gt p.1 (4+p25)) !=(gt x22 p25)) then p.2 else (ag25 (p25+1))) else g (sl p.1 (ak .i64 36 (hd4 p.1)) (p.1.length:Int),p.2++[x19])) (fun _=>default) 0)))
   by_cases h2:hd4 p.1>16384
   ·have c2:decide (hd4 p.1>16384)=true:=by simpa using h2
    rw [if_pos c2,if_pos c2]
   ·have c2: ¬decide (hd4 p.1>16384)=true:=by simpa using h2
    rw [if_neg c2,if_neg c2,hn.2.2]
    by_cases h3:(p.1.length:Int)<36+hd4 p.1
    ·have c3:decide ((p.1.length:Int)<36+hd4 p.1)=true:=by simpa using h3
     rw [if_pos c3,if_pos c3]
    ·have c3: ¬decide ((p.1.length:Int)<36+hd4 p.1)=true:=by simpa using h3
     rw [if_neg c3,if_neg c3,aG,aG,aG,MV hn.1 (by
      unfold sl
      rw [Int.toNat_natCast,List.length_take,show Int.toNat 36=36 from rfl,List.length_drop]
      omega),MX hn.1]
     have hbS:isB (sl p.1 36 (36+hd4 p.1)):=dW hp.1
     have hlS:(sl p.1 36 (36+hd4 p.1)).length≤1000000000:=by
      have:=xL (l:=p.1) (i:=36) (j:=36+hd4 p.1)
      omega
     rw [MM hbS hlS]
     have hq:eo (kh (sl p.1 36 (36+hd4 p.1))) (au 32 (sl p.1 4 36))=true↔ ∀k:Nat,k<32→gt p.1 (4+(k:Int))=gt (kh (sl p.1 36 (36+hd4 p.1))) (k:Int):=by
      rw [MW]
      refine ⟨fun h k hk=> ?_,fun h k hk=> ?_⟩
      ·rw [h k hk,xw (by omega),DJ (by omega) hk]
      ·rw [xw (by omega),DJ (by omega) hk,h k hk]
     by_cases h4:eo (kh (sl p.1 36 (36+hd4 p.1))) (au 32 (sl p.1 4 36))=true
     ·rw [if_neg (by rw [h4];decide),aG,DI.1 (hq.1 h4)]
      refine hfg _ ⟨dW hp.1,?_⟩
      have:=xL (l:=p.1) (i:=36+hd4 p.1) (j:=(p.1.length:Int))
      dsimp only
      omega
     ·rw [if_pos (by simpa using h4),aG,DI.2 (fun h=>h4 (hq.2 h))]
  ·have c1: ¬decide ((p.1.length:Int)≥36)=true:=by simpa using h1
   rw [if_neg c1,if_neg c1]
end Go.Proofs.YtiknkaadhomeiaaGreatDoor
namespace Go.Proofs.YtiknkaadhomeiaaGreatDoor
open Go.RowKit
set_option linter.unusedVariables false
set_option linter.unusedSimpArgs false
theorem DK {σ R:Type} (I:σ→Prop) (Q:R→Prop) {F:(σ→R)→σ→R} {d:σ→R} (hd: ∀p,Q (d p)) (h: ∀f p,I p→(∀q,I q→Q (f q))→Q (F f p)): ∀(n:Nat) (p:σ),I p→Q (ah n F d p)
 | 0,p,_=>hd p
 | n+1,p,hp=>by
  rw [ah]
  exact h _ p hp (fun q hq=>DK I Q hd h n q hq)
def t7 (r:List (List Int)):Prop:=(∀b∈r,isB b)∧r.length≤1048576
theorem DL:t7 []:=⟨fun b h=>(by cases h),by decide⟩
theorem MZ {j:cy} (hb:isB j.Bytes):t7 (fP j):=by
 unfold fP
 rw [aG]
 cases hv:gP j with
 | false=>exact DL
 | true=>
  have hl:(j.Bytes.length:Int)≤1048576:=by
   unfold gP at hv
   by_cases h:(j.Bytes.length:Int)≤1048576
   ·exact h
   ·simp [h] at hv
  rw [if_neg (by decide)]
  refine DK (fun p=>isB p.1∧(∀b∈p.2,isB b)∧(p.2.length:Int)+(p.1.length:Int)≤1048576) t7 (fun _=>DL) (fun f p hp hq=> ?_) _ _ ⟨hb,fun b h=>(by cases h),by simpa using hl⟩
  have hn:=xI hp.1
  have hg:t7 p.2:=⟨hp.2.1,by have:=hp.2.2;omega⟩
  by_cases h1:(p.1.length:Int)≥36
  ·rw [if_pos (by simpa using h1)]
   split
   ·exact hg
   split
   ·exact hg
   rw [aG]
   split
   ·exact hg
   rw [aG]
   refine hq _ ⟨dW hp.1,?_,?_⟩
   ·intro b h
    rcases List.mem_append.1 h with h|h
    ·exact hp.2.1 b h
    ·cases List.mem_singleton.1 h;exact dW hp.1
   ·change (((p.2++[_]).length:Nat):Int)+((sl p.1 (ak .i64 36 (hd4 p.1)) (p.1.length:Int)).length:Int)≤1048576
    rw [hn.2.2,List.length_append,List.length_singleton]
    have h5:(sl p.1 (36+hd4 p.1) (p.1.length:Int)).length≤p.1.length - 36:=by
     unfold sl
     rw [List.length_take,List.length_drop,Int.toNat_natCast]
     have:=hn.1
     omega
    have:=hp.2.2
    omega
  ·rw [if_neg (by simpa using h1)];exact hg
def mY:List (List Int)→Option av
 | []=>none
 | b::l=>match lO b with
  | some p=>some p
  | none=>mY l
def M0:Option av→av×Int
 | some p=>(p,0)
 | none=>(aT,7)
def DM:Option av→av×Bool
 | some p=>(p,true)
 | none=>(aT,false)
theorem M1 (l:List (List Int)):(fL l).map (fun y=>y.2)=l.reverse:=by
 refine List.ext_getElem? fun i=> ?_
 rw [List.getElem?_map]
 cases h:(fL l)[i]? with
 | none=>
  have h1:=List.getElem?_eq_none_iff.1 h
  rw [xG] at h1
  rw [List.getElem?_eq_none (by simpa using h1)];rfl
 | some y=>
  obtain ⟨h1,_,h2⟩:=CA h
  rw [List.getElem?_reverse h1,h2];rfl
theorem M2 (j:cy):iE j=M0 (mY (fP j).reverse):=by
 unfold iE
 rw [aG,←M1]
 generalize fL (fP j)=ys
 generalize ((aT,(0:Int)):av×Int)=s
 induction ys generalizing s with
 | nil=>rfl
 | cons y ys ih=>
  rw [eX,aG,List.map_cons,mY]
  have h:=DE y.2
  cases ho:lO y.2 with
  | some p=>rw [ho] at h;have h:fx y.2=(p,0):=h;rw [h,if_pos (by simp)];rfl
  | none=>rw [ho] at h;have h:fx y.2=(aT,3):=h;rw [h,if_neg (by simp)];exact ih _
theorem M3 {j:cy} (hb:isB j.Bytes):iG j=DM (mY (fP j).reverse):=by
 have hg:=MZ hb
 unfold iG
 rw [aG,←MY hb]
 generalize fP j=l at hg⊢
 have hs:az .i64 (l.length:Int) 1=(l.length:Int) - 1:=cE (by omega) (by have:=hg.2;omega)
 rw [hs]
 have key: ∀(k:Nat) (s:av) (d:Int×av→av×Bool),k≤l.length→ah (k+1) (fun (ag4:(Int×av)→(av×Bool)) (p4:Int×av)=>(if (decide (p4.1≥0)) then (ab (gj (gt l p4.1)) (fun (x8:(av×Bool))=>(if x8.2 then (x8.1,true) else (ag4 ((az .i64 p4.1 1),p4.2))))) else (aT,false))) d ((k:Int) - 1,s)=DM (mY (l.take k).reverse):=by
  intro k
  induction k with
  | zero=>intro s d h;rw [ah,if_neg (by simp)];rfl
  | succ k ih=>
   intro s d h
   have hk:k<l.length:=by omega
   have e:gt l (k:Int)=l[k]:=by simp [gt,List.getD_eq_getElem?_getD,hk]
   rw [ah]
   dsimp only
   rw [if_pos (by simp),show ((k+1:Nat):Int) - 1=(k:Int) by omega,aG,e,List.take_add_one,List.getElem?_eq_getElem hk,List.reverse_append]
   rw [show (some l[k]).toList.reverse++(l.take k).reverse=l[k]::(l.take k).reverse from rfl,mY]
   have hx:=DG (hg.1 _ (List.getElem_mem hk))
   cases ho:lO l[k] with
   | some p=>rw [ho] at hx;have hx:gj l[k]=(p,true):=hx;rw [hx,if_pos rfl];rfl
   | none=>
    rw [ho] at hx;have hx:gj l[k]=(aT,false):=hx
    rw [hx,if_neg (by decide),cE (by omega) (by have:=hg.2;omega)]
    exact ih s d (by omega)
 have h5:=key l.length aT (fun _=>default) (Nat.le_refl _)
 rw [List.take_length] at h5
 rw [show ((l.length:Int) - 1+1).toNat+1=l.length+1 by omega]
 exact h5
theorem M4 (s:aA):iC s s=true:=by
 unfold iC
 have h1:dE s.Coin s.Coin=true:=by simp [dE]
 have h2:lf s.Node s.Node=true:=by simp [lf]
 have h3:lg s.Context s.Context=true:=by simp [lg]
 have h4:lC s.Path s.Path=true:=by
  unfold lC
  simp only [bne_self_eq_false,Bool.false_eq_true,if_false]
  refine fy (C:=fun j=>eo (gt s.Path.L j) (gt s.Path.L j)) (X:=true) (fun ag j=>by simp only [gc]) (fun j h0 h1=>by simp [eo]) rfl
 simp only [ab,h1,h2,h3,h4,bne_self_eq_false,Bool.not_true,Bool.false_eq_true,if_false]
 refine fy (C:=fun j=>lh (gt s.Leaves j) (gt s.Leaves j)) (X:=true) (fun ag j=>by simp only [gc]) (fun j h0 h1=> ?_) rfl
 simp [lh]
theorem DN (p:List Int):fg p p=true:=by simp [fg]
theorem M5 (s:cj):lB s s=true:=by
 unfold lB
 simp only [bne_self_eq_false,Bool.false_eq_true,if_false]
 exact fy (C:=fun j=>fg (gt s.X j) (gt s.X j)) (X:=true) (fun ag j=>by simp only [gc]) (fun j h0 h1=>DN _) rfl
theorem M6 (h:ay):kf h h=true:=by
 unfold kf
 have h1:dE h.Coin h.Coin=true:=by simp [dE]
 simp only [ab,h1,M5,bne_self_eq_false,Bool.not_true,Bool.false_eq_true,if_false]
 refine fy (C:=fun j=>gt h.Spent j==gt h.Spent j) (X:=ah (((h.Chain.length:Int) - 0).toNat+1) (fun (ag22:Int→Bool) (p22:Int)=>(if (decide (p22<(h.Chain.length:Int))) then (if (!iC (gt h.Chain p22) (gt h.Chain p22)) then false else (ag22 (p22+1))) else true)) (fun _=>default) 0) (fun ag j=>by simp) (fun j h0 h1=>by simp) ?_
 exact fy (C:=fun j=>iC (gt h.Chain j) (gt h.Chain j)) (X:=true) (fun ag j=>by simp only [gc]) (fun j h0 h1=>M4 _) rfl
theorem M7 (a:aL):gN a a=true:=Dh rfl (fun j _ _=>DN _) ⟨rfl,rfl,rfl,rfl,rfl,rfl,rfl,rfl,rfl,rfl⟩ (by simp [dE])
theorem t8 (p:av):cr p p=true:=by
 unfold cr
 have h1:li p.Source p.Source=true:=by simp [li]
 simp only [ab,h1,bne_self_eq_false,Bool.not_true,Bool.false_eq_true,if_false]
 refine fy (C:=fun j=>kf (gt p.Holdings j) (gt p.Holdings j)) (X:=ah (((p.Open.length:Int) - 0).toNat+1) (fun (ag28:Int→Bool) (p28:Int)=>(if (decide (p28<(p.Open.length:Int))) then (if (!gN (gt p.Open p28) (gt p.Open p28)) then false else (ag28 (p28+1))) else true)) (fun _=>default) 0) (fun ag j=>by simp only [gc]) (fun j h0 h1=>M6 _) ?_
 exact fy (C:=fun j=>gN (gt p.Open j) (gt p.Open j)) (X:=true) (fun ag j=>by simp only [gc]) (fun j h0 h1=>M7 _) rfl
def DO (j:cy):Bool:=
 (ab (iE j) (fun (x60:(av×Int))=>(ab (fQ j) (fun (x63:Bool)=>(if (!x63) then (if (x60.2==7) then (ab (iF (x60.1)) (fun (x70:Bool)=>x70)) else false) else (ab (iG j) (fun (x75:(av×Bool))=>(if (x75.2==(x60.2==0)) then (if x75.2 then (ab (cr (x60.1) (x75.1)) (fun (x89:Bool)=>x89)) else (if (x60.2==7) then (ab (cr (x60.1) (x75.1)) (fun (x84:Bool)=>x84)) else false)) else false))))))))
def DP (x_:List Int) (j:cy):Bool:=
 (ab (fx x_) (fun (x42:(av×Int))=>(ab (gj x_) (fun (x45:(av×Bool))=>(if (x45.2 !=(x42.2==0)) then false else (if (!x45.2) then (if (x42.2 !=3) then false else (ab (cr (x42.1) (x45.1)) (fun (x54:Bool)=>(if (!x54) then false else (ab (iE j) (fun (x60:(av×Int))=>(ab (fQ j) (fun (x63:Bool)=>(if (!x63) then (if (x60.2==7) then (ab (iF (x60.1)) (fun (x70:Bool)=>x70)) else false) else (ab (iG j) (fun (x75:(av×Bool))=>(if (x75.2==(x60.2==0)) then (if x75.2 then (ab (cr (x60.1) (x75.1)) (fun (x89:Bool)=>x89)) else (if (x60.2==7) then (ab (cr (x60.1) (x75.1)) (fun (x84:Bool)=>x84)) else false)) else false)))))))))))) else (ab (cr (x42.1) (x45.1)) (fun (x95:Bool)=>(if (!x95) then false else (ab (iE j) (fun (x101:(av×Int))=>(ab (fQ j) (fun (x104:Bool)=>(if (!x104) then (if (x101.2==7) then (ab (iF (x101.1)) (fun (x111:Bool)=>x111)) else false) else (ab (iG j) (fun (x116:(av×Bool))=>(if (x116.2==(x101.2==0)) then (if x116.2 then (ab (cr (x101.1) (x116.1)) (fun (x130:Bool)=>x130)) else (if (x101.2==7) then (ab (cr (x101.1) (x116.1)) (fun (x125:Bool)=>x125)) else false)) else false)))))))))))))))))
theorem DQ {j:cy} (hb:isB j.Bytes):DO j=true:=by
 unfold DO
 rw [aG,M2,aG,show fQ j=gP j from rfl]
 cases hv:gP j with
 | false=>
  have:fP j=[]:=by unfold fP;rw [aG,hv];rfl
  rw [this,if_pos (by decide)]
  show (if ((7:Int)==7)=true then ab (iF aT) (fun x=>x) else false)=true
  rw [if_pos (by decide),aG,Mi]
 | true=>
  rw [if_neg (by decide),aG,M3 hb]
  cases mY (fP j).reverse with
  | some p=>
   show (if (true==((0:Int)==0))=true then (if true=true then ab (cr p p) (fun x=>x) else _) else false)=true
   rw [if_pos (by decide),if_pos rfl,aG,t8]
  | none=>
   show (if (false==((7:Int)==0))=true then (if false=true then _ else (if ((7:Int)==7)=true then ab (cr aT aT) (fun x=>x) else false)) else false)=true
   rw [if_pos (by decide),if_neg (by decide),if_pos (by decide),aG,t8]
theorem M8 {x:List Int} {j:cy} (hx:isB x) (hb:isB j.Bytes):DP x j=true:=by
 unfold DP
 have h1:=DE x
 have h2:=DG hx
 cases ho:lO x with
 | some p=>
  rw [ho] at h1 h2
  have h1:fx x=(p,0):=h1
  have h2:gj x=(p,true):=h2
  rw [aG,aG,h1,h2,if_neg (by simp),if_neg (by simp),aG,t8,if_neg (by decide)]
  exact DQ hb
 | none=>
  rw [ho] at h1 h2
  have h1:fx x=(aT,3):=h1
  have h2:gj x=(aT,false):=h2
  rw [aG,aG,h1,h2,if_neg (by simp),if_pos (by simp),if_neg (by simp),aG,t8,if_neg (by decide)]
  exact DQ hb
theorem M9 (p:av) (x:List Int) (j:cy) (hw:wfL [bL p,.sl none 1 false (x.map (V.int .u8)),pO j]):tl p x j=true:=by
 have hw':=hw
 simp only [wfL] at hw'
 have hx:isB x:=fw (by have:=hw'.2.1;simp only [wfV] at this;exact this.2)
 have hb:isB j.Bytes:=fw (by have:=hw'.2.2.1;simp only [pO,wfV,wfL] at this;exact this.1.2)
 have ht:=M8 hx hb
 unfold tl
 rw [aG,Ma,if_neg (by decide),aG]
 cases hg:mK p with
 | true=>rfl
 | false=>
  have hs:=CE hg
  rw [if_neg (by decide)]
  by_cases c1:(x.length:Int)>20000
  ·rw [if_pos (by simpa using c1)]
  rw [if_neg (by simpa using c1)]
  by_cases c2:(j.Bytes.length:Int)>20000
  ·rw [if_pos (by simpa using c2)]
  rw [if_neg (by simpa using c2),aG,aG,Mm]
  by_cases w1:aQ (b9 p) 8=false
  ·have h5:lv p=([],5):=by rw [yh,xZ,if_pos w1];rfl
   rw [if_pos w1,h5,if_neg (by simp),if_neg (by simp),if_neg (by simp),if_neg (by simp)]
   exact ht
  ·rw [if_neg w1]
   have w2:aQ (b9 p) 8=true:=by simpa using w1
   by_cases l1:(bz (b9 p)).length>16384
   ·have h5:lv p=([],5):=by rw [yh,xZ,if_neg w1,if_pos l1];rfl
    have hd:decide (((bz (b9 p)).length:Int)≤16384)=false:=by simp;omega
    rw [h5,hd,if_neg (by simp),if_neg (by simp),if_neg (by simp),if_neg (by simp)]
    exact ht
   ·have h5:lv p=(bz (b9 p),0):=by rw [yh,xZ,if_neg w1,if_neg l1];rfl
    have hd:decide (((bz (b9 p)).length:Int)≤16384)=true:=by simp;omega
    have hl:=L_ hs w2 (Ml hw'.1) (by omega)
    rw [h5,hd,if_neg (by simp),if_pos rfl,aG,if_neg (by simp [tk]),aG,hl,if_neg (by simp),aG,Mh hs,if_neg (by decide)]
    exact ht
end Go.Proofs.YtiknkaadhomeiaaGreatDoor
