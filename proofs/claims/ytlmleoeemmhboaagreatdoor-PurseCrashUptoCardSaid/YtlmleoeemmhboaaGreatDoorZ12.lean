/- Texts of this proof, one after the other: P1, P2, P3, P4. -/
import Derived.Test.YtlmleoeemmhboaaGreatDoorZ11
set_option linter.unusedVariables false
set_option linter.unusedSimpArgs false
namespace Go.Proofs.YtlmleoeemmhboaaGreatDoor
open Go.RowKit
set_option linter.unusedVariables false
set_option linter.unusedSimpArgs false
theorem rO {α:Type} [Inhabited α] {l:List α} {i:Int} (h0:0≤i) (h1:i<l.length):gt l i∈l:=dN (by omega)
theorem AC {β γ α:Type} (f:β→γ) {d:List γ→α}: ∀(ys:List β) (p:List γ),eF ys (fun (ag:List γ→α) (y:β) (p:List γ)=>ag (p++[f y])) d p=d (p++ys.map f)
 | [],p=>by simp [eF]
 | y::ys,p=>by
  rw [eF,AC f ys,List.append_assoc];rfl
def cm (p:aP):ab:=bK [br [p.Bank,p.U,p.Key,p.Next],bK (p.Holdings.map en),bK (p.Open.map wI),bK [ce (aC 32 p.Source.Seed),dz p.Source.Counter]]
def AD (p_:aP) (H9:List ab):List Int×Int:=
 (ao (((p_.Open.length:Int) - 0).toNat+1) (fun (ag9:(Int×List ab)→((List Int)×Int)) (p9:Int×List ab)=>(if (decide (p9.1<(p_.Open.length:Int))) then (ak (iF (gt p_.Open p9.1)) (fun (x13:ab)=>(ag9 ((p9.1+1),(p9.2++([x13]:List ab)))))) else (ak (c_ ([p_.Bank,p_.U,p_.Key,p_.Next]:List Int)) (fun (x17:ab)=>(ak (cY (H9)) (fun (x19:ab)=>(ak (cY (p9.2)) (fun (x21:ab)=>(ak (cY ([({Kind:=2,N:=0,B:=(aC 32 p_.Source.Seed),L:=([]:List ab)}:ab),({Kind:=1,N:=p_.Source.Counter,B:=([]:List Int),L:=([]:List ab)}:ab)]:List ab)) (fun (x23:ab)=>(ak (cY ([x17,x19,x21,x23]:List ab)) (fun (x25:ab)=>(ak (gW x25) (fun (x27:((List Int)×Int))=>(if (x27.2 !=0) then (([]:List Int),5) else (x27.1,0)))))))))))))))) (fun _=>default) (0,([]:List ab)))
def vz (p_:aP) (H9 O9:List ab):List Int×Int:=
 (ak (c_ ([p_.Bank,p_.U,p_.Key,p_.Next]:List Int)) (fun (x17:ab)=>(ak (cY (H9)) (fun (x19:ab)=>(ak (cY (O9)) (fun (x21:ab)=>(ak (cY ([({Kind:=2,N:=0,B:=(aC 32 p_.Source.Seed),L:=([]:List ab)}:ab),({Kind:=1,N:=p_.Source.Counter,B:=([]:List Int),L:=([]:List ab)}:ab)]:List ab)) (fun (x23:ab)=>(ak (cY ([x17,x19,x21,x23]:List ab)) (fun (x25:ab)=>(ak (gW x25) (fun (x27:((List Int)×Int))=>(if (x27.2 !=0) then (([]:List Int),5) else (x27.1,0))))))))))))))
theorem Jj (p:aP) (H O:List ab):vz p H O=if ((gW (bK [br [p.Bank,p.U,p.Key,p.Next],bK H,bK O,bK [ce (aC 32 p.Source.Seed),dz p.Source.Counter]])).2 !=0)=true then ([],5) else ((gW (bK [br [p.Bank,p.U,p.Key,p.Next],bK H,bK O,bK [ce (aC 32 p.Source.Seed),dz p.Source.Counter]])).1,0):=by
 unfold vz
 rw [bI,bI,bI,bI,bI,bI,lj]
 rfl
theorem AE (p:aP):fO p=if ((gW (cm p)).2 !=0)=true then ([],5) else ((gW (cm p)).1,0):=by
 unfold fO
 refine (vj (l:=p.Holdings) iE (AD p) (fun ag i a=>rfl)).trans ?_
 unfold AD
 refine (vj (l:=p.Open) iF (vz p ([]++p.Holdings.map iE)) (fun ag i a=>rfl)).trans ?_
 rw [Jj,List.nil_append,List.nil_append,show iE=en from funext Ai,show iF=wI from funext zZ]
 rfl
theorem vA {p:aP} (h:(fO p).2=0):fO p=(bQ (cm p),0)∧a8 (cm p) 8=true∧(bQ (cm p)).length≤16384:=by
 rw [AE,I1] at h⊢
 by_cases h1:a8 (cm p) 8=false
 ·rw [if_pos h1] at h;cases h
 ·rw [if_neg h1] at h⊢
  by_cases h2:(bQ (cm p)).length>16384
  ·rw [if_pos h2] at h;cases h
  ·rw [if_neg h2]
   exact ⟨rfl,by simpa using h1,by omega⟩
theorem Jk {p:aP} (h:(fO p).2≠0):(fO p).2=5:=by
 rw [AE] at h⊢
 split
 ·rfl
 ·rename_i h1
  rw [if_neg h1] at h;exact absurd rfl h
def vB (i_:ab) (c9:bV) (n9:List Int) (X9:List (List Int)):aX×Bool:=
 (ak (bT (gt i_.L 2)) (fun (x32:((List Int)×Int))=>(if (x32.2 !=0) then (({Coin:=c9,Secret:=({U:=(gt n9 0),S:=(gt n9 1),X:=X9}:cH),Spent:=([]:List Bool),Chain:=([]:List aS)}:aX),false) else (if ((gt i_.L 3).Kind !=3) then (({Coin:=c9,Secret:=({U:=(gt n9 0),S:=(gt n9 1),X:=X9}:cH),Spent:=([]:List Bool),Chain:=([]:List aS)}:aX),false) else (ao (((x32.1.length:Int) - 0).toNat+1) (fun (ag41:(Int×List Bool)→(aX×Bool)) (p41:Int×List Bool)=>(if (decide (p41.1<(x32.1.length:Int))) then (if ((gt x32.1 p41.1) !=0) then (if ((gt x32.1 p41.1) !=1) then (({Coin:=c9,Secret:=({U:=(gt n9 0),S:=(gt n9 1),X:=X9}:cH),Spent:=p41.2,Chain:=([]:List aS)}:aX),false) else (ag41 ((p41.1+1),(p41.2++([((gt x32.1 p41.1)==1)]:List Bool))))) else (ag41 ((p41.1+1),(p41.2++([((gt x32.1 p41.1)==1)]:List Bool))))) else (ao ((((gt i_.L 3).L.length:Int) - 0).toNat+1) (fun (ag52:(Int×List aS)→(aX×Bool)) (p52:Int×List aS)=>(if (decide (p52.1<((gt i_.L 3).L.length:Int))) then (ak (gX (gt (gt i_.L 3).L p52.1)) (fun (x56:(aS×Int))=>(if (x56.2 !=0) then (({Coin:=c9,Secret:=({U:=(gt n9 0),S:=(gt n9 1),X:=X9}:cH),Spent:=p41.2,Chain:=p52.2}:aX),false) else (ag52 ((p52.1+1),(p52.2++([x56.1]:List aS))))))) else (({Coin:=c9,Secret:=({U:=(gt n9 0),S:=(gt n9 1),X:=X9}:cH),Spent:=p41.2,Chain:=p52.2}:aX),true))) (fun _=>default) (0,([]:List aS))))) (fun _=>default) (0,([]:List Bool)))))))
def vC (i_:ab) (c9:bV) (n9:List Int) (X9:List (List Int)) (F9:List Bool):aX×Bool:=
 (ao ((((gt i_.L 3).L.length:Int) - 0).toNat+1) (fun (ag52:(Int×List aS)→(aX×Bool)) (p52:Int×List aS)=>(if (decide (p52.1<((gt i_.L 3).L.length:Int))) then (ak (gX (gt (gt i_.L 3).L p52.1)) (fun (x56:(aS×Int))=>(if (x56.2 !=0) then (({Coin:=c9,Secret:=({U:=(gt n9 0),S:=(gt n9 1),X:=X9}:cH),Spent:=F9,Chain:=p52.2}:aX),false) else (ag52 ((p52.1+1),(p52.2++([x56.1]:List aS))))))) else (({Coin:=c9,Secret:=({U:=(gt n9 0),S:=(gt n9 1),X:=X9}:cH),Spent:=F9,Chain:=p52.2}:aX),true))) (fun _=>default) (0,([]:List aS)))
def rP (c9:bV) (n9:List Int) (X9:List (List Int)) (F9:List Bool) (C9:List aS):aX×Bool:=
 (({Coin:=c9,Secret:=({U:=(gt n9 0),S:=(gt n9 1),X:=X9}:cH),Spent:=F9,Chain:=C9}:aX),true)
def gD (h:aX):aX:={Coin:=gB h.Coin,Secret:={U:=h.Secret.U,S:=h.Secret.S,X:=(cN (bZ h.Secret.X)).map (aC 2)},Spent:=h.Spent,Chain:=h.Chain.map dQ}
theorem Jl {i:ab} {c:bV} {n:List Int} {X:List (List Int)} {F:List Bool} {l:List aS} (h:(gt i.L 3).L=l.map da) (hs: ∀s∈l,gX (da s)=(dQ s,0)):vC i c n X F=rP c n X F (l.map dQ):=by
 unfold vC
 rw [h]
 have hk:(l.map da).map (fun s=>(gX s).1)=l.map dQ:=by
  rw [List.map_map]
  exact List.map_congr_left fun s hs'=>by simp only [Function.comp,hs s hs']
 refine (mV (l.map da) (fun a i=>(i,a)) (fun a s=>a++[(gX s).1]) (rP c n X F) ?_ ?_).trans ?_
 ·intro ag a i h0 h1
  obtain ⟨s,hs1,hs2⟩:=List.mem_map.1 (rO h0 h1)
  dsimp only
  rw [if_pos (by simpa using h1),bI,if_neg (by rw [←hs2,hs s hs1];simp)]
 ·intro ag a
  dsimp only
  rw [if_neg (by simp)]
  rfl
 ·rw [lk,List.nil_append,hk]
theorem Jm {i:ab} {c:bV} {n:List Int} {X:List (List Int)} {F:List Bool} {l:List aS} (h2:bT (gt i.L 2)=(F.map b2i,0)) (hk:(gt i.L 3).Kind=3) (h:(gt i.L 3).L=l.map da) (hs: ∀s∈l,gX (da s)=(dQ s,0)):vB i c n X=rP c n X F (l.map dQ):=by
 unfold vB
 rw [bI,h2,if_neg (by simp),if_neg (by rw [hk];decide)]
 have hm:(F.map b2i).map (fun x=>x==(1:Int))=F:=by
  rw [List.map_map]
  conv=>rhs;rw [←List.map_id F]
  exact List.map_congr_left fun b _=>by cases b<;>rfl
 refine (mV (F.map b2i) (fun a i=>(i,a)) (fun a x=>a++[x==(1:Int)]) (vC i c n X) ?_ ?_).trans ?_
 ·intro ag a j h0 h1
  obtain ⟨b,hb1,hb2⟩:=List.mem_map.1 (rO h0 h1)
  dsimp only
  rw [if_pos (by simpa using h1)]
  rw [←hb2]
  cases b<;>rfl
 ·intro ag a
  dsimp only
  rw [if_neg (by simp)]
  rfl
 ·rw [lk,List.nil_append,hm]
  exact Jl h hs
theorem AF {h:aX} (hw:a8 (en h) 8=true):lc (en h)=(gD h,true):=by
 have hs:=ka hw (by omega)
 have hf:=mU h.Secret.X
 have n1:=g7 (hs _ (by simp:br ([h.Secret.U,h.Secret.S]++bZ h.Secret.X)∈_))
 have n2:=g7 (hs _ (by simp:br (h.Spent.map b2i)∈_))
 have n0:=vt (c:=h.Coin) (hs _ (by simp:cZ h.Coin∈_))
 have hc:=ka (hs _ (by simp:bK (h.Chain.map da)∈_)) (by omega)
 have g0:gt (en h).L 0=cZ h.Coin:=rfl
 have g1:gt (en h).L 1=br ([h.Secret.U,h.Secret.S]++bZ h.Secret.X):=rfl
 have g2:gt (en h).L 2=br (h.Spent.map b2i):=rfl
 have g3:gt (en h).L 3=bK (h.Chain.map da):=rfl
 have hl:(([h.Secret.U,h.Secret.S]++bZ h.Secret.X).length:Int)=2+2*h.Secret.X.length:=by
  simp only [List.length_append,List.length_cons,List.length_nil,hf];omega
 unfold lc
 rw [bI,if_neg (show¬(!gA (en h) 4)=true by show¬(!true)=true;decide),bI,g0,n0,if_neg (by simp),bI,g1,n1,if_neg (by simp),if_neg (by rw [decide_eq_true_eq];dsimp only;omega),if_neg (by
  dsimp only
  rw [hl]
  have:cD .i64 (2+2*(h.Secret.X.length:Int)) 2=0:=by
   show (2+2*(h.Secret.X.length:Int)).tmod 2=0
   rw [Int.tmod_eq_emod_of_nonneg (by omega)];omega
  simp [this])]
 refine (AC (aC 2) (d:=vB (en h) (gB h.Coin) ([h.Secret.U,h.Secret.S]++bZ h.Secret.X)) _ _).trans ?_
 rw [Jm (F:=h.Spent) (l:=h.Chain) (by rw [g2];exact n2) rfl rfl (fun s hs'=>I0 (hc _ (List.mem_map_of_mem hs')))]
 unfold rP gD
 have hsl:sl ([h.Secret.U,h.Secret.S]++bZ h.Secret.X) 2 (([h.Secret.U,h.Secret.S]++bZ h.Secret.X).length:Int)=bZ h.Secret.X:=by
  unfold sl
  rw [Int.toNat_natCast,show List.drop (Int.toNat 2) ([h.Secret.U,h.Secret.S]++bZ h.Secret.X)=bZ h.Secret.X from rfl,List.take_of_length_le]
  simp
 rw [List.nil_append,hsl]
 rfl
theorem AG: ∀X:List (List Int),(cN (bZ X)).map (aC 2)=X.map fun p=> [gt p 0,gt p 1]
 | []=>rfl
 | p::X=>by
  have ih:=AG X
  have e:bZ (p::X)=gt p 0::gt p 1::bZ X:=by simp [bZ]
  rw [e,cN,List.map_cons,ih]
  rfl
def AH (i9:ab) (n9:List Int) (H9:List aX):aP×Int:=
 (ao ((((gt i9.L 2).L.length:Int) - 0).toNat+1) (fun (ag50:(Int×aP×List bg)→(aP×Int)) (p50:Int×aP×List bg)=>(if (decide (p50.1<((gt i9.L 2).L.length:Int))) then (ak (gY (gt (gt i9.L 2).L p50.1)) (fun (x54:(bg×Int))=>(if (x54.2 !=0) then (bW,3) else (ag50 ((p50.1+1),p50.2.1,(p50.2.2++([x54.1]:List bg))))))) else (ak (ld (gt i9.L 3)) (fun (x62:(dZ×Bool))=>(if (!x62.2) then (bW,3) else (({Bank:=(gt n9 0),U:=(gt n9 1),Key:=(gt n9 2),Next:=(gt n9 3),Holdings:=H9,Open:=p50.2.2,Source:=x62.1}:aP),0)))))) (fun _=>default) (0,bW,([]:List bg)))
def AJ (i9:ab) (n9:List Int) (H9:List aX) (O9:List bg):aP×Int:=
 (ak (ld (gt i9.L 3)) (fun (x62:(dZ×Bool))=>(if (!x62.2) then (bW,3) else (({Bank:=(gt n9 0),U:=(gt n9 1),Key:=(gt n9 2),Next:=(gt n9 3),Holdings:=H9,Open:=O9,Source:=x62.1}:aP),0))))
def jj (w:bg):bg:=(gY (wI w)).1
def g9 (p:aP):aP:={Bank:=p.Bank,U:=p.U,Key:=p.Key,Next:=p.Next,Holdings:=p.Holdings.map gD,Open:=p.Open.map jj,Source:={Seed:=aC 32 (aC 32 p.Source.Seed),Counter:=p.Source.Counter}}
theorem Jn {i:ab} (hw:a8 i 8=true) (ho:okI i) (hl:(bQ i).length≤16384):k8 (bQ i)=(i,0):=by
 have hr:=I3 hw ho
 rcases I2 (At _ ho) with ⟨i',g1,g2,_⟩|⟨_,g2⟩
 ·rw [hr] at g2;cases g2;exact g1
 ·exact absurd hr (g2 hl _)
theorem Jo {p:aP} (hs:kb p) (hw:a8 (cm p) 8=true) (ho:okI (cm p)) (hl:(bQ (cm p)).length≤16384):lf (bQ (cm p))=(g9 p,0):=by
 have hin:=ka hw (by omega)
 have n0:=g7 (hin _ (by simp:br [p.Bank,p.U,p.Key,p.Next]∈_))
 have hH:=ka (hin _ (by simp:bK (p.Holdings.map en)∈_)) (by omega)
 have g0:gt (cm p).L 0=br [p.Bank,p.U,p.Key,p.Next]:=rfl
 have g1:(gt (cm p).L 1).L=p.Holdings.map en:=rfl
 have g2:(gt (cm p).L 2).L=p.Open.map wI:=rfl
 have hw1: ∀w∈p.Open,gY (wI w)=(jj w,0):=fun w hw'=>by
  obtain ⟨x,hx,_⟩:=AB (hs.2.2.2 w hw')
  unfold jj
  rw [hx]
 have k1:(p.Holdings.map en).map (fun x=>(lc x).1)=p.Holdings.map gD:=by
  rw [List.map_map]
  exact List.map_congr_left fun h hh=>by simp only [Function.comp,AF (hH _ (List.mem_map_of_mem hh))]
 have k2:(p.Open.map wI).map (fun x=>(gY x).1)=p.Open.map jj:=by
  rw [List.map_map];rfl
 unfold lf
 rw [bI,Jn hw ho hl,if_neg (by simp),bI,if_neg (show¬(!gA (cm p) 4)=true by show¬(!true)=true;decide),bI,if_neg (show¬(!gA (gt (cm p).L 0) 4)=true by show¬(!true)=true;decide),if_neg (show¬((gt (cm p).L 1).Kind !=3)=true by show¬((3:Int) !=3)=true;decide),if_neg (show¬((gt (cm p).L 2).Kind !=3)=true by show¬((3:Int) !=3)=true;decide),bI,g0,n0,if_neg (by simp),g1]
 refine (mV (p.Holdings.map en) (fun a i=>(i,bW,a)) (fun a x=>a++[(lc x).1]) (AH (cm p) [p.Bank,p.U,p.Key,p.Next]) ?_ ?_).trans ?_
 ·intro ag a i h0 h1
  obtain ⟨h,hh1,hh2⟩:=List.mem_map.1 (rO h0 h1)
  dsimp only
  rw [if_pos (by simpa using h1),bI,if_neg (by rw [←hh2,AF (hH _ (List.mem_map_of_mem hh1))];simp)]
 ·intro ag a
  dsimp only
  rw [if_neg (by simp)]
  rfl
 rw [lk,List.nil_append,k1]
 unfold AH
 rw [g2]
 refine (mV (p.Open.map wI) (fun a i=>(i,bW,a)) (fun a x=>a++[(gY x).1]) (AJ (cm p) [p.Bank,p.U,p.Key,p.Next] (p.Holdings.map gD)) ?_ ?_).trans ?_
 ·intro ag a i h0 h1
  obtain ⟨w,hh1,hh2⟩:=List.mem_map.1 (rO h0 h1)
  dsimp only
  rw [if_pos (by simpa using h1),bI,if_neg (by rw [←hh2,hw1 w hh1];simp)]
 ·intro ag a
  dsimp only
  rw [if_neg (by simp)]
  rfl
 rw [lk,List.nil_append,k2]
 unfold AJ
 rw [bI]
 have hsrc:ld (gt (cm p).L 3)=({Seed:=aC 32 (aC 32 p.Source.Seed),Counter:=p.Source.Counter},true):=by
  unfold ld
  rw [bI,if_neg (show¬(!gA (gt (cm p).L 3) 2)=true by show¬(!true)=true;decide),if_neg (show¬((gt (gt (cm p).L 3).L 0).Kind !=2)=true by show¬((2:Int) !=2)=true;decide),if_neg (show¬(((gt (gt (cm p).L 3).L 0).B.length:Int) !=32)=true by
   have:(gt (gt (cm p).L 3).L 0).B=aC 32 p.Source.Seed:=rfl
   rw [this,bS];decide),if_neg (show¬((gt (gt (cm p).L 3).L 1).Kind !=1)=true by show¬((1:Int) !=1)=true;decide)]
  rfl
 rw [hsrc,if_neg (by simp)]
 rfl
end Go.Proofs.YtlmleoeemmhboaaGreatDoor
namespace Go.Proofs.YtlmleoeemmhboaaGreatDoor
open Go.RowKit
set_option linter.unusedVariables false
set_option linter.unusedSimpArgs false
theorem Jp:rk=true:=by decide+kernel
theorem Jq (a:List Int):gS (aC 32 a) a=true:=by simp [gS,mZ]
theorem AK (c:bV):eL (gB c) c=true:=by simp [eL,gB,mZ]
theorem Jr (p:gu):mM {p with L:=p.L.map (aC 32)} p=true:=by
 unfold mM
 simp only [bne_self_eq_false,List.length_map,Bool.false_eq_true,if_false]
 refine ke (C:=fun j=>gS (gt (p.L.map (aC 32)) j) (gt p.L j)) (X:=true) (fun ag j=>by simp only [mA]) (fun j h0 h1=> ?_) rfl
 rw [my (by omega)];exact Jq _
theorem Js (s:aS):lg (dQ s) s=true:=by
 unfold lg
 have h1:eL (dQ s).Coin s.Coin=true:=AK _
 have h2:mv (dQ s).Node s.Node=true:=by simp [mv,dQ]
 have h3:mw (dQ s).Context s.Context=true:=by simp [mw,dQ,As,mZ]
 have h4:mM (dQ s).Path s.Path=true:=Jr _
 have h5:(dQ s).Leaves=s.Leaves:=rfl
 simp only [ak,h1,h2,h3,h4,h5,bne_self_eq_false,Bool.not_true,Bool.false_eq_true,if_false]
 refine ke (C:=fun j=>qW (gt s.Leaves j) (gt s.Leaves j)) (X:=true) (fun ag j=>by simp only [mA]) (fun j h0 h1=> ?_) rfl
 simp [qW]
theorem Jt (U S:Int) (X:List (List Int)):mL {U:=U,S:=S,X:=X.map fun p=> [gt p 0,gt p 1]} {U:=U,S:=S,X:=X}=true:=by
 unfold mL
 simp only [bne_self_eq_false,List.length_map,Bool.false_eq_true,if_false]
 refine ke (C:=fun j=>jb (gt (X.map fun p=> [gt p 0,gt p 1]) j) (gt X j)) (X:=true) (fun ag j=>by simp only [mA]) (fun j h0 h1=> ?_) rfl
 rw [my (by omega)];exact AA _
theorem Ju (h:aX):mN (gD h) h=true:=by
 unfold mN
 have h1:eL (gD h).Coin h.Coin=true:=AK _
 have h2:mL (gD h).Secret h.Secret=true:=by
  have:=Jt h.Secret.U h.Secret.S h.Secret.X
  rw [←AG] at this
  exact this
 have h3:(gD h).Spent=h.Spent:=rfl
 have h4:(gD h).Chain=h.Chain.map dQ:=rfl
 simp only [ak,h1,h2,h3,h4,List.length_map,bne_self_eq_false,Bool.not_true,Bool.false_eq_true,if_false]
 refine ke (C:=fun j=>gt h.Spent j==gt h.Spent j) (X:=ao (((h.Chain.length:Int) - 0).toNat+1) (fun (ag22:Int→Bool) (p22:Int)=>(if (decide (p22<(h.Chain.length:Int))) then (if (!lg (gt (h.Chain.map dQ) p22) (gt h.Chain p22)) then false else (ag22 (p22+1))) else true)) (fun _=>default) 0) (fun ag j=>by simp) (fun j h0 h1=>by simp) ?_
 refine ke (C:=fun j=>lg (gt (h.Chain.map dQ) j) (gt h.Chain j)) (X:=true) (fun ag j=>by simp only [mA]) (fun j h0 h1=> ?_) rfl
 rw [my (by omega)];exact Js _
theorem Jv {w:bg} (h:w.Secret.X.length≤40):jh (jj w) w=true:=by
 obtain ⟨x,hx,h2⟩:=AB h
 unfold jj
 rw [hx];exact h2
theorem Jw {p:aP} (hs:kb p):mO (g9 p) p=true:=by
 unfold mO
 have h1:mx (g9 p).Source p.Source=true:=by simp [mx,g9,mZ]
 have h2:(g9 p).Holdings=p.Holdings.map gD:=rfl
 have h3:(g9 p).Open=p.Open.map jj:=rfl
 have b1:(g9 p).Bank=p.Bank:=rfl
 have b2:(g9 p).U=p.U:=rfl
 have b3:(g9 p).Key=p.Key:=rfl
 have b4:(g9 p).Next=p.Next:=rfl
 simp only [ak,h1,h2,h3,b1,b2,b3,b4,List.length_map,bne_self_eq_false,Bool.not_true,Bool.false_eq_true,if_false]
 refine ke (C:=fun j=>mN (gt (p.Holdings.map gD) j) (gt p.Holdings j)) (X:=ao (((p.Open.length:Int) - 0).toNat+1) (fun (ag28:Int→Bool) (p28:Int)=>(if (decide (p28<(p.Open.length:Int))) then (if (!jh (gt (p.Open.map jj) p28) (gt p.Open p28)) then false else (ag28 (p28+1))) else true)) (fun _=>default) 0) (fun ag j=>by simp only [mA]) (fun j h0 h1=> ?_) ?_
 ·rw [my (by omega)];exact Ju _
 ·refine ke (C:=fun j=>jh (gt (p.Open.map jj) j) (gt p.Open j)) (X:=true) (fun ag j=>by simp only [mA]) (fun j h0 h1=> ?_) rfl
  rw [my (by omega)]
  exact Jv (hs.2.2.2 _ (dN (by omega)))
theorem Jy:oI bW=true:=by decide+kernel
theorem AL {X:List (List Int)} (h:wfL (X.map fun l=>V.agg [.int .i64 (gt l 0),.int .i64 (gt l 1)])): ∀x∈bZ X,r64 x:=by
 intro x hx
 obtain ⟨y,hy,hx⟩:=List.mem_flatMap.1 hx
 have:=kf h y hy
 simp only [wfV,wfL,dn] at this
 simp only [List.mem_cons,List.not_mem_nil,or_false] at hx
 rcases hx with rfl|rfl<;>simp only [r64,this,and_self]
theorem Jz {w:bg} (h:wfV (cc w)):okI (wI w):=by
 have hc:wfV (dM w.Coin):=by
  simp only [cc,dM,wfV,wfL] at h⊢
  simp only [h,and_self]
 have hx:wfL (w.Secret.X.map fun l=>V.agg [.int .i64 (gt l 0),.int .i64 (gt l 1)]):=by
  simp only [cc,wfV,wfL] at h
  simp only [h,and_self]
 simp only [cc,wfV,wfL,dn] at h
 refine g8 (fun x hx'=> ?_)
 simp only [List.mem_cons,List.not_mem_nil,or_false] at hx'
 rcases hx' with rfl|rfl|rfl|rfl|rfl
 ·refine gC (fun x hx=> ?_)
  simp only [List.mem_cons,List.not_mem_nil,or_false] at hx
  rcases hx with rfl|rfl|rfl|rfl|rfl|rfl<;>simp only [r64,h,and_self]
 ·refine gC (fun x hx'=> ?_)
  rcases List.mem_append.1 hx' with hx1|hx1
  ·simp only [List.mem_cons,List.not_mem_nil,or_false] at hx1
   rcases hx1 with rfl|rfl<;>simp only [r64,h,and_self]
  ·exact AL hx x hx1
 ·refine gC (fun x hx=> ?_)
  simp only [List.mem_cons,List.not_mem_nil,or_false] at hx
  rcases hx with rfl|rfl|rfl<;>simp only [r64,h,and_self]
 ·refine gC (fun x hx=> ?_)
  simp only [List.mem_cons,List.not_mem_nil,or_false] at hx
  rcases hx with rfl|rfl|rfl|rfl|rfl|rfl<;>simp only [r64,h,and_self]
 ·exact vy hc
theorem JA {h:aX} (hw:wfV (bL h)):okI (en h):=by
 have hc:wfV (dM h.Coin):=by
  simp only [bL,dM,wfV,wfL] at hw⊢
  simp only [hw,and_self]
 have hx:wfL (h.Secret.X.map fun l=>V.agg [.int .i64 (gt l 0),.int .i64 (gt l 1)])∧wfL (h.Chain.map cB):=by
  simp only [bL,wfV,wfL] at hw
  simp only [hw,and_self]
 simp only [bL,wfV,wfL,dn] at hw
 refine g8 (fun x hx'=> ?_)
 simp only [List.mem_cons,List.not_mem_nil,or_false] at hx'
 rcases hx' with rfl|rfl|rfl|rfl
 ·exact vy hc
 ·refine gC (fun x hx'=> ?_)
  rcases List.mem_append.1 hx' with hx1|hx1
  ·simp only [List.mem_cons,List.not_mem_nil,or_false] at hx1
   rcases hx1 with rfl|rfl<;>simp only [r64,hw,and_self]
  ·exact AL hx.1 x hx1
 ·refine gC (fun x hx'=> ?_)
  obtain ⟨b,_,rfl⟩:=List.mem_map.1 hx'
  cases b<;>(unfold b2i r64;decide)
 ·exact I6 hx.2
theorem JB {p:aP} (hw:wfV (bw p)):okI (cm p):=by
 have hx:wfL (p.Holdings.map bL)∧wfL (p.Open.map cc)∧wfV (bP p.Source.Seed):=by
  simp only [bw,bP,wfV,wfL] at hw⊢
  simp only [hw,and_self]
 simp only [bw,wfV,wfL,dn] at hw
 refine g8 (fun x hx'=> ?_)
 simp only [List.mem_cons,List.not_mem_nil,or_false] at hx'
 rcases hx' with rfl|rfl|rfl|rfl
 ·refine gC (fun x hx=> ?_)
  simp only [List.mem_cons,List.not_mem_nil,or_false] at hx
  rcases hx with rfl|rfl|rfl|rfl<;>simp only [r64,hw,and_self]
 ·refine g8 (fun x hx'=> ?_)
  obtain ⟨y,hy,rfl⟩:=List.mem_map.1 hx'
  exact JA (kf hx.1 y hy)
 ·refine g8 (fun x hx'=> ?_)
  obtain ⟨y,hy,rfl⟩:=List.mem_map.1 hx'
  exact Jz (kf hx.2.1 y hy)
 ·refine g8 (fun x hx'=> ?_)
  simp only [List.mem_cons,List.not_mem_nil,or_false] at hx'
  rcases hx' with rfl|rfl
  ·exact rK (rL hx.2.2) bS
  ·exact vx (by simp only [r64,hw,and_self])
end Go.Proofs.YtlmleoeemmhboaaGreatDoor
namespace Go.Proofs.YtlmleoeemmhboaaGreatDoor
open Go.RowKit
set_option linter.unusedVariables false
set_option linter.unusedSimpArgs false
def fr (b:List Int):List Int:=jY ([]:List Int) b
def hd (n:Nat):List Int:=[ae .u8 (au .i64 (n:Int) 24),ae .u8 (au .i64 (n:Int) 16),ae .u8 (au .i64 (n:Int) 8),ae .u8 (n:Int)]
theorem rQ (b:List Int):fr b=hd b.length++(aC 32 (gU b)++b):=by
 unfold fr jY hd
 simp only [ak,List.nil_append,List.append_assoc]
theorem lq (b:List Int):(fr b).length=36+b.length:=Aj rfl
theorem vD (n:Nat):(hd n).length=4:=rfl
theorem oQ (x:Int):ae .u8 x=x% 256:=by unfold ae;rfl
theorem JC (n:Nat):isB (hd n):=by
 intro x hx
 unfold hd at hx
 simp only [oQ,List.mem_cons,List.not_mem_nil,or_false] at hx
 rcases hx with rfl|rfl|rfl|rfl<;>omega
theorem AM {n:Nat} (h:n≤16384) (t:List Int):hd4 (hd n++t)=n:=by
 have e:hd4 (hd n++t)=hd4 (hd n):=rfl
 rw [e,Af (JC n)]
 have g0:gt (hd n) 0=ae .u8 (au .i64 (n:Int) 24):=rfl
 have g1:gt (hd n) 1=ae .u8 (au .i64 (n:Int) 16):=rfl
 have g2:gt (hd n) 2=ae .u8 (au .i64 (n:Int) 8):=rfl
 have g3:gt (hd n) 3=ae .u8 (n:Int):=rfl
 rw [g0,g1,g2,g3,oQ,oQ,oQ,oQ,ji (m:=24) rfl,ji (m:=16) rfl,ji (m:=8) rfl]
 have p1:(2:Int)^24=16777216:=by decide
 have p2:(2:Int)^16=65536:=by decide
 have p3:(2:Int)^8=256:=by decide
 rw [p1,p2,p3]
 omega
def rdF (ag:List Int×List (List Int)→List (List Int)) (p:List Int×List (List Int)):List (List Int):=
 if decide ((p.1.length:Int)≥36)=true then
  if decide (hd4 p.1>16384)=true then p.2
  else if decide ((p.1.length:Int)<aq .i64 36 (hd4 p.1))=true then p.2
  else if (!gS (gU (sl p.1 36 (aq .i64 36 (hd4 p.1)))) (aC 32 (sl p.1 4 36)))=true then p.2
  else ag (sl p.1 (aq .i64 36 (hd4 p.1)) (p.1.length:Int),p.2++[kZ (sl p.1 36 (aq .i64 36 (hd4 p.1)))])
 else p.2
theorem JD {j:bh} (h:eO j=true):jZ j=ao (j.Bytes.length+1) rdF (fun _=>default) (j.Bytes,[]):=by
 unfold jZ
 rw [bI,if_neg (by rw [h];decide)]
 rfl
theorem JE (a:List Int):gS a (aC 32 (aC 32 a))=true:=by simp [gS,mZ]
theorem AN {n:Nat} (h:n≤16384):aq .i64 36 (n:Int)=((36+n:Nat):Int):=by
 rw [gk (by omega) (by omega)];omega
theorem JF {b:List Int} (h:b.length≤16384) (t:List Int) (out:List (List Int)) (ag:List Int×List (List Int)→List (List Int)):rdF ag (fr b++t,out)=ag (t,out++[b]):=by
 have hl:=lq b
 have e4:hd4 (fr b++t)=b.length:=by
  rw [rQ,List.append_assoc];exact AM h _
 have hlen:(fr b++t).length=36+b.length+t.length:=by rw [List.length_append,hl]
 have s1:sl (fr b++t) 36 ((36+b.length:Nat):Int)=b:=by
  unfold sl
  rw [Int.toNat_natCast,show ((36:Int)).toNat=36 from rfl,rQ,show hd b.length++(aC 32 (gU b)++b)++t=(hd b.length++aC 32 (gU b))++(b++t) by simp only [List.append_assoc],List.drop_left' (by rw [List.length_append,vD,bS]),show 36+b.length - 36=b.length by omega,List.take_left]
 have s2:sl (fr b++t) 4 36=aC 32 (gU b):=by
  unfold sl
  rw [show ((36:Int)).toNat - ((4:Int)).toNat=32 from rfl,show ((4:Int)).toNat=4 from rfl,rQ,List.append_assoc,List.drop_left' (vD _),List.append_assoc,List.take_left' bS]
 have s3:sl (fr b++t) ((36+b.length:Nat):Int) ((fr b++t).length:Int)=t:=by
  unfold sl
  rw [Int.toNat_natCast,Int.toNat_natCast,List.drop_left' hl,hlen,List.take_of_length_le (by omega)]
 unfold rdF
 dsimp only
 rw [e4,AN h,if_pos (by rw [decide_eq_true_eq,hlen];omega),if_neg (by rw [decide_eq_true_eq];omega),if_neg (by rw [decide_eq_true_eq,hlen];omega),s1,s2,s3,if_neg (by rw [JE];decide)]
 rfl
theorem JG {b:List Int} (h:b.length≤16384) {k:Nat} (hk:k<(fr b).length) (out:List (List Int)) (ag:List Int×List (List Int)→List (List Int)):rdF ag ((fr b).take k,out)=out:=by
 have hl:=lq b
 have hlen:((fr b).take k).length=k:=by rw [List.length_take];omega
 unfold rdF
 dsimp only
 rw [hlen]
 by_cases h1:(k:Int)≥36
 ·rw [if_pos (by simpa using h1)]
  have e4:hd4 ((fr b).take k)=b.length:=by
   rw [rQ,List.take_append,List.take_of_length_le (by rw [vD];omega)];exact AM h _
  rw [e4,AN h,if_neg (by rw [decide_eq_true_eq];omega),if_pos (by rw [decide_eq_true_eq];omega)]
 ·rw [if_neg (by simpa using h1)]
def frs (bs:List (List Int)):List Int:=bs.flatMap fr
def lr (t:List Int):Prop:=t=[]∨ ∃b k,b.length≤16384∧k<(fr b).length∧t=(fr b).take k
theorem JH {t:List Int} (h:lr t) (out:List (List Int)) (ag:List Int×List (List Int)→List (List Int)):rdF ag (t,out)=out:=by
 rcases h with rfl|⟨b,k,h1,h2,rfl⟩
 ·rfl
 ·exact JG h1 h2 out ag
theorem AO {t:List Int} (ht:lr t) {d:List Int×List (List Int)→List (List Int)}: ∀(bs:List (List Int)) (out:List (List Int)) (fuel:Nat),(∀b∈bs,b.length≤16384)→bs.length<fuel→ao fuel rdF d (frs bs++t,out)=out++bs
 | [],out,0,_,h=>absurd h (Nat.not_lt_zero _)
 | [],out,fuel+1,_,_=>by
  rw [ao,show frs []++t=t from rfl,JH ht,List.append_nil]
 | b::bs,out,0,_,h=>absurd h (Nat.not_lt_zero _)
 | b::bs,out,fuel+1,hb,h=>by
  rw [ao,show frs (b::bs)++t=fr b++(frs bs++t) by simp [frs,List.flatMap_cons,List.append_assoc],JF (hb b List.mem_cons_self),AO ht bs _ fuel (fun x hx=>hb x (List.mem_cons_of_mem _ hx)) (by simp only [List.length_cons] at h;omega),List.append_assoc]
  rfl
theorem AP: ∀{bs:List (List Int)},bs.length≤(frs bs).length
 | []=>Nat.zero_le _
 | b::bs=>by
  have:=AP (bs:=bs)
  rw [show frs (b::bs)=fr b++frs bs from rfl,List.length_append,lq,List.length_cons];omega
theorem AQ {m:Nat}: ∀{bs:List (List Int)},(∀b∈bs,b.length≤16384)→bs.length≤m→(frs bs).length≤16420*m
 | [],_,_=>Nat.zero_le _
 | b::bs,h,hm=>by
  have ih:=AQ (m:=m - 1) (bs:=bs) (fun x hx=>h x (List.mem_cons_of_mem _ hx)) (by simp only [List.length_cons] at hm;omega)
  have h1:=h b List.mem_cons_self
  simp only [List.length_cons] at hm
  rw [show frs (b::bs)=fr b++frs bs from rfl,List.length_append,lq]
  omega
theorem JI {j:bh} (hv:eO j=true) {bs:List (List Int)} {t:List Int} (hj:j.Bytes=frs bs++t) (ht:lr t) (hb: ∀b∈bs,b.length≤16384):jZ j=bs:=by
 rw [JD hv,hj]
 refine (AO ht bs [] _ hb ?_).trans (List.nil_append _)
 have:=AP (bs:=bs)
 rw [List.length_append];omega
theorem AR {t:List Int} (ht:lr t): ∀(bs:List (List Int)) (n:Nat),(∀b∈bs,b.length≤16384)→ ∃k t',k≤bs.length∧lr t'∧(frs bs++t).take n=frs (bs.take k)++t'∧ ∀m,m≤bs.length→(frs (bs.take m)).length≤n→m≤k
 | [],n,_=>by
  refine ⟨0,t.take n,Nat.le_refl _,?_,rfl,fun m hm _=>hm⟩
  rcases ht with rfl|⟨b,k,h1,h2,rfl⟩
  ·exact .inl (by simp)
  ·exact .inr ⟨b,min n k,h1,by omega,by rw [List.take_take]⟩
 | b::bs,n,hb=>by
  have hb0:=hb b List.mem_cons_self
  have e:frs (b::bs)++t=fr b++(frs bs++t):=by simp [frs,List.flatMap_cons,List.append_assoc]
  by_cases hn:n<(fr b).length
  ·refine ⟨0,(fr b).take n,Nat.zero_le _,.inr ⟨b,n,hb0,hn,rfl⟩,?_,fun m hm hle=> ?_⟩
   ·rw [e,List.take_append_of_le_length (by omega)];rfl
   ·cases m with
    | zero=>exact Nat.le_refl _
    | succ m=>
     rw [List.take_succ_cons,show frs (b::bs.take m)=fr b++frs (bs.take m) from rfl,List.length_append] at hle
     omega
  ·obtain ⟨k,t',h1,h2,h3,h4⟩:=AR ht bs (n - (fr b).length) (fun x hx=>hb x (List.mem_cons_of_mem _ hx))
   refine ⟨k+1,t',by simp only [List.length_cons];omega,h2,?_,fun m hm hle=> ?_⟩
   ·rw [e,List.take_append,List.take_of_length_le (by omega),h3,List.take_succ_cons,show frs (b::bs.take k)=fr b++frs (bs.take k) from rfl,List.append_assoc]
   ·cases m with
    | zero=>omega
    | succ m=>
     rw [List.take_succ_cons,show frs (b::bs.take m)=fr b++frs (bs.take m) from rfl,List.length_append] at hle
     have:=h4 m (by simp only [List.length_cons] at hm;omega) (by omega)
     omega
end Go.Proofs.YtlmleoeemmhboaaGreatDoor
namespace Go.Proofs.YtlmleoeemmhboaaGreatDoor
open Go.RowKit
set_option linter.unusedVariables false
set_option linter.unusedSimpArgs false
theorem sl0 {α:Type} (l:List α) (n:Int):sl l 0 n=l.take n.toNat:=by unfold sl;simp
theorem JJ {j:bh} {x:List Int} (h0: -1≤j.After) (h1:j.After≤1099511627776) (hx:x.length≤100000):(∃a, -1≤a∧a≤1099511627776∧fP {Journal:=j} x=(true,{Journal:={Bytes:=j.Bytes++x,Durable:=j.Durable,After:=a}}))∨ ∃k,k<x.length∧fP {Journal:=j} x=(false,{Journal:={Bytes:=j.Bytes++x.take k,Durable:=j.Durable,After:=0}}):=by
 unfold fP gj
 dsimp only
 by_cases h:j.After≥0
 ·rw [if_pos (by simpa using h),bI,Ax,sl0]
  have hm:=kc (x.length:Int) j.After
  by_cases hk:cf (x.length:Int) j.After<(x.length:Int)
  ·right
   rw [if_pos (by simpa using hk)]
   exact ⟨(cf (x.length:Int) j.After).toNat,by omega,rfl⟩
  ·left
   rw [if_neg (by simpa using hk)]
   have e:cf (x.length:Int) j.After=x.length:=by omega
   rw [e]
   refine ⟨aD .i64 j.After (x.length:Int),?_,?_,?_⟩
   ·rw [fp (by omega) (by omega)];omega
   ·rw [fp (by omega) (by omega)];omega
   ·rw [Int.toNat_natCast,List.take_length]
 ·left
  rw [if_neg (by simpa using h),bI,Ax,sl0,if_neg (by simp),Int.toNat_natCast,List.take_length]
  exact ⟨j.After,h0,h1,rfl⟩
def enc (p:aP):List Int:=bQ (cm p)
theorem AU (a b:List (List Int)):frs (a++b)=frs a++frs b:=by simp [frs,List.flatMap_append]
theorem JK {bs:List (List Int)} {d i:Nat} (h:d≤i):(frs (bs.take d)).length≤(frs (bs.take i)).length:=by
 have e:bs.take i=bs.take d++(bs.take i).drop d:=by
  conv=>lhs;rw [←List.take_append_drop d (bs.take i)]
  rw [List.take_take,show min d i=d by omega]
 rw [e,AU,List.length_append];omega
structure g_ (l:List aP) (d i:Nat) (j:bh) (t:List Int):Prop where
 hd:d≤i
 hi:i≤l.length
 h6:l.length≤6
 sv: ∀p∈l.take i,(fO p).2=0
 bytes:j.Bytes=frs ((l.map enc).take i)++t
 part:lr t
 dur:j.Durable=(((frs ((l.map enc).take d)).length:Nat):Int)
 a0: -1≤j.After
 a1:j.After≤1099511627776
theorem JL {t:List Int} (h:lr t):t.length≤16420:=by
 rcases h with rfl|⟨b,k,h1,h2,rfl⟩
 ·exact Nat.zero_le _
 ·rw [lq] at h2
  rw [List.length_take,lq];omega
section
variable {l:List aP} {d i:Nat} {j:bh} {t:List Int}
theorem g_.encs (h:g_ l d i j t): ∀b∈(l.map enc).take i,b.length≤16384:=by
 intro b hb
 rw [←List.map_take] at hb
 obtain ⟨p,hp,rfl⟩:=List.mem_map.1 hb
 exact (vA (h.sv p hp)).2.2
theorem g_.blen (h:g_ l d i j t):j.Bytes.length≤114940:=by
 have h1:=AQ (m:=6) h.encs (by have:=h.h6;have:=h.hi;rw [List.length_take,List.length_map];omega)
 have h2:=JL h.part
 rw [h.bytes,List.length_append];omega
theorem g_.durle (h:g_ l d i j t):(frs ((l.map enc).take d)).length≤j.Bytes.length:=by
 have:=JK (bs:=l.map enc) h.hd
 rw [h.bytes,List.length_append];omega
theorem AV {j:bh} (h1:j.Bytes.length≤114940) (h2:0≤j.Durable) (h3:j.Durable≤j.Bytes.length) (h4: -1≤j.After) (h5:j.After≤1099511627776):eO j=true:=by
 unfold eO
 rw [if_pos (by rw [decide_eq_true_eq];omega),if_pos (by rw [decide_eq_true_eq];omega),if_pos (by rw [decide_eq_true_eq];omega),if_pos (by rw [decide_eq_true_eq];omega)]
 rw [decide_eq_true_eq];omega
theorem g_.valid (h:g_ l d i j t):eO j=true:=
 AV h.blen (by rw [h.dur];omega) (by rw [h.dur];exact_mod_cast h.durle) h.a0 h.a1
theorem JM {j:bh} (h:jZ j=[]):j4 j=(bW,7):=by
 unfold j4
 rw [bI,h]
 rfl
theorem JN {j:bh} {xs:List (List Int)} {b:List Int} {p:aP} (h:jZ j=xs) (hb:xs[xs.length - 1]? =some b) (hl:lf b=(p,0)):j4 j=(p,0):=by
 have h0:0<xs.length:=by have:=(List.getElem?_eq_some_iff.1 hb).1;omega
 have hb1:0<(fM xs).length:=by rw [vm];exact h0
 unfold j4
 rw [bI,h]
 cases hbk:fM xs with
 | nil=>rw [hbk] at hb1;exact absurd hb1 (Nat.lt_irrefl _)
 | cons y ys=>
  have hg:=Ab (l:=xs) (i:=0) (y:=y) (by rw [hbk];rfl)
  have e:y.2=b:=by
   have:=hg.2.2
   rw [Nat.sub_zero,hb] at this
   cases this;rfl
  rw [eF,bI,e,hl,if_pos (by simp)]
theorem JO (l:List aP) (c:aP):mP l c=l.any fun q=>oJ q c:=by
 unfold mP rr
 exact mz (fun ag p=>rfl)
def oR (l:List aP) (keep:Int) (q9:Int×Int×bh):Bool:=
 (ak (mJ (q9.2.2) keep) (fun (x20:(bh×Int))=>(if (x20.2 !=0) then false else (ak (j4 (x20.1)) (fun (x26:(aP×Int))=>(if (x26.2 !=0) then (if (x26.2==7) then (if (q9.1==0) then (ak (oI (x26.1)) (fun (x35:Bool)=>x35)) else false) else false) else (ak (mP (sl l (er 0 (aD .i64 q9.1 1)) q9.2.1) (x26.1)) (fun (x41:Bool)=>x41))))))))
theorem vE (h:g_ l d i j t) (hs: ∀p∈l,kb p) (hw: ∀p∈l,wfV (bw p)) {keep:Int} (hk:0≤keep):oR l keep ((d:Int),(i:Int),j)=true:=by
 have hv:=h.valid
 have hbl:=h.blen
 have hdl:=h.durle
 have hc:=Ad (D:=j.Durable) (L:=(j.Bytes.length:Int)) (k:=keep) (by rw [h.dur];omega) (by rw [h.dur];omega) (by omega) hk
 have hcr:mJ j keep=({Bytes:=j.Bytes.take (j.Durable+min keep ((j.Bytes.length:Int) - j.Durable)).toNat,Durable:=j.Durable+min keep ((j.Bytes.length:Int) - j.Durable),After:= -1},0):=by
  unfold mJ
  rw [bI,if_neg (by rw [hv];decide),if_neg (by rw [decide_eq_true_eq];omega),bI,hc.2.2,sl0]
  rfl
 have hn0:j.Durable≤j.Durable+min keep ((j.Bytes.length:Int) - j.Durable):=by rw [h.dur];omega
 have hn1:=hc.2.1
 rw [hc.2.2] at hn1
 obtain ⟨n,hn⟩: ∃n:Nat,j.Durable+min keep ((j.Bytes.length:Int) - j.Durable)=n:=⟨(j.Durable+min keep ((j.Bytes.length:Int) - j.Durable)).toNat,by rw [h.dur] at hn0⊢;omega⟩
 rw [hn] at hcr hn0 hn1
 rw [Int.toNat_natCast] at hcr
 obtain ⟨k,t',k1,k2,k3,k4⟩:=AR h.part ((l.map enc).take i) n h.encs
 have hi:=h.hi
 have h6:=h.h6
 rw [List.length_take,List.length_map] at k1
 have hlen:(j.Bytes.take n).length=n:=by rw [List.length_take];omega
 have hv':eO {Bytes:=j.Bytes.take n,Durable:=(n:Int),After:= -1}=true:=AV (by dsimp only;omega) (by dsimp only;omega) (by dsimp only;omega) (by dsimp only;omega) (by dsimp only;omega)
 have hr:=JI hv' (bs:=((l.map enc).take i).take k) (t:=t') (by dsimp only;rw [h.bytes];exact k3) k2 (fun b hb=>h.encs b (List.mem_of_mem_take hb))
 have hdk:d≤k:=k4 d (by rw [List.length_take,List.length_map];have:=h.hd;omega) (by rw [List.take_take,show min d i=d by have:=h.hd;omega];rw [h.dur] at hn0;omega)
 unfold oR
 dsimp only
 rw [bI,hcr,if_neg (by simp),bI]
 by_cases hk0:k=0
 ·subst hk0
  rw [JM hr,if_pos (by decide),if_pos (by decide),if_pos (by
   have:d=0:=by omega
   rw [this];decide),bI]
  exact Jy
 ·have hkl:k - 1<l.length:=by omega
  have hget:(((l.map enc).take i).take k)[(((l.map enc).take i).take k).length - 1]? =some (enc l[k - 1]):=by
   have e1:(((l.map enc).take i).take k).length=k:=by rw [List.length_take,List.length_take,List.length_map];omega
   rw [e1,List.getElem?_take,if_pos (by omega),List.getElem?_take,if_pos (by omega),List.getElem?_map,List.getElem?_eq_getElem hkl]
   rfl
  have hm:l[k - 1]∈l:=List.getElem_mem hkl
  have hmt:l[k - 1]∈l.take i:=List.mem_take_iff_getElem.2 ⟨k - 1,by omega,rfl⟩
  have hsv:=vA (h.sv _ hmt)
  have hld:lf (enc l[k - 1])=(g9 l[k - 1],0):=Jo (hs _ hm) hsv.2.1 (JB (hw _ hm)) hsv.2.2
  rw [JN hr hget hld,if_neg (by simp),bI,JO]
  have hx:=cb (d:=(d:Int)) (by omega) (by have:=h.hd;omega)
  refine List.any_eq_true.2 ⟨l[k - 1],?_,?_⟩
  ·try dsimp only
   unfold sl
   rw [hx.2.2,Int.toNat_natCast]
   have hmd:l[k - 1]=(l.drop (max 0 ((d:Int) - 1)).toNat)[k - 1 - (max 0 ((d:Int) - 1)).toNat]'(by rw [List.length_drop];omega):=by
    rw [List.getElem_drop]
    congr 1;omega
   rw [hmd]
   exact List.mem_take_iff_getElem.2 ⟨k - 1 - (max 0 ((d:Int) - 1)).toNat,by rw [List.length_drop];omega,rfl⟩
  ·unfold oJ
   rw [bI]
   exact Jw (hs _ hm)
end
def AW (l:List aP) (keep syncs:Int) (ag:Int×Int×Int×bh→Bool) (p:Int×Int×Int×bh):Bool:=
 (if (decide (p.2.2.1<(l.length:Int))) then (ak (fO (gt l p.2.2.1)) (fun (x48:((List Int)×Int))=>(if (x48.2 !=0) then (x48.2==5) else (ak (iG (p.2.2.2) (x48.1)) (fun (x54:(bh×Int))=>(if (x54.2 !=0) then (if (x54.2 !=19) then false else (oR l keep (p.1,p.2.1,x54.1))) else (if ((bG .u8 (au .u8 syncs p.2.2.1) 1)==0) then (ag (p.1,(p.2.2.1+1),(p.2.2.1+1),x54.1)) else (ak (mI (x54.1)) (fun (x66:(bh×Int))=>(if (x66.2 !=0) then (if (x66.2 !=19) then false else (oR l keep (p.1,(p.2.2.1+1),x66.1))) else (ag ((p.2.2.1+1),(p.2.2.1+1),(p.2.2.1+1),x66.1)))))))))))) else (oR l keep (p.1,p.2.1,p.2.2.2)))
theorem JP {j:bh} {x:List Int} (hv:eO j=true) (hb:j.Bytes.length≤114940) (h0: -1≤j.After) (h1:j.After≤1099511627776) (hx:x.length≤16384):(∃a, -1≤a∧a≤1099511627776∧iG j x=({Bytes:=j.Bytes++fr x,Durable:=j.Durable,After:=a},0))∨ ∃k,k<(fr x).length∧iG j x=({Bytes:=j.Bytes++(fr x).take k,Durable:=j.Durable,After:=0},19):=by
 have hfl:=lq x
 have e1:aq .i64 (j.Bytes.length:Int) 36=(j.Bytes.length:Int)+36:=gk (by omega) (by omega)
 have e2:aq .i64 ((j.Bytes.length:Int)+36) (x.length:Int)=(j.Bytes.length:Int)+36+x.length:=gk (by omega) (by omega)
 have e:iG j x=if (!(fP {Journal:=j} (fr x)).1)=true then ((fP {Journal:=j} (fr x)).2.Journal,19) else ((fP {Journal:=j} (fr x)).2.Journal,0):=by
  unfold iG
  rw [bI,if_neg (by rw [hv];decide),if_neg (by rw [decide_eq_true_eq];omega),e1,e2,if_neg (by rw [decide_eq_true_eq];omega),bI,bI]
  rfl
 rcases JJ (x:=fr x) h0 h1 (by omega) with ⟨a,a0,a1,hw⟩|⟨k,hk,hw⟩
 ·left
  exact ⟨a,a0,a1,by rw [e,hw];rfl⟩
 ·right
  exact ⟨k,hk,by rw [e,hw];rfl⟩
theorem JQ {j:bh} (hv:eO j=true):mI j=if (j.After==0)=true then (j,19) else ({Bytes:=j.Bytes,Durable:=(j.Bytes.length:Int),After:=j.After},0):=by
 unfold mI
 rw [bI,if_neg (by rw [hv];decide),bI,bI]
 rfl
theorem JR {l:List aP} {i:Nat} (h:i<l.length):(l.map enc).take (i+1)=(l.map enc).take i++[enc l[i]]:=by
 rw [List.take_succ_eq_append_getElem (by simpa using h),List.getElem_map]
theorem vF {l:List aP} (hs: ∀p∈l,kb p) (hw: ∀p∈l,wfV (bw p)) {keep syncs:Int} (hk:0≤keep) {dd:Int×Int×Int×bh→Bool}:
  ∀(fuel d i:Nat) (j:bh),g_ l d i j []→l.length - i<fuel→ao fuel (AW l keep syncs) dd ((d:Int),(i:Int),(i:Int),j)=true
 | 0,_,_,_,_,h=>absurd h (Nat.not_lt_zero _)
 | fuel+1,d,i,j,h,hf=>by
  rw [ao]
  unfold AW
  dsimp only
  by_cases hi:i<l.length
  ·have hg:gt l (i:Int)=l[i]:=by rw [lx,List.getD_eq_getElem?_getD,List.getElem?_eq_getElem hi];rfl
   have hm:l[i]∈l:=List.getElem_mem hi
   have h6:=h.h6
   have hd:=h.hd
   have hadd:aq .i64 (i:Int) 1=((i+1:Nat):Int):=by rw [gk (by omega) (by omega)];rfl
   rw [if_pos (by simpa using hi),bI,hg]
   by_cases hsv:(fO l[i]).2=0
   ·have hso:=vA hsv
    rw [if_neg (by simp [hsv]),bI,hso.1]
    have hsv1: ∀p∈l.take (i+1),(fO p).2=0:=by
     intro p hp
     rw [List.take_succ_eq_append_getElem hi] at hp
     rcases List.mem_append.1 hp with hp|hp
     ·exact h.sv p hp
     ·rw [List.mem_singleton.1 hp];exact hsv
    rcases JP (x:=enc l[i]) h.valid h.blen h.a0 h.a1 hso.2.2 with ⟨a,a0,a1,ha⟩|⟨k,hk1,ha⟩
    ·have ha':iG j (bQ (cm l[i]))=_:=ha
     have hb1:j.Bytes++fr (enc l[i])=frs ((l.map enc).take (i+1))++[]:=by
      rw [h.bytes,JR hi,AU,List.append_nil,List.append_nil]
      simp [frs]
     have hin:g_ l d (i+1) {Bytes:=j.Bytes++fr (enc l[i]),Durable:=j.Durable,After:=a} []:=⟨by omega,by omega,h6,hsv1,hb1,.inl rfl,h.dur,a0,a1⟩
     dsimp only
     rw [ha',if_neg (by simp)]
     dsimp only
     split
     ·exact vF hs hw hk fuel d (i+1) _ hin (by omega)
     ·rw [bI,JQ hin.valid]
      by_cases hA:(a==0)=true
      ·rw [if_pos hA,if_pos (by simp),if_neg (by simp)]
       exact vE hin hs hw hk
      ·rw [if_neg hA,if_neg (by simp)]
       refine vF hs hw hk fuel (i+1) (i+1) _ ⟨Nat.le_refl _,by omega,h6,hsv1,hb1,.inl rfl,?_,a0,a1⟩ (by omega)
       dsimp only
       rw [hb1,List.append_nil]
    ·have ha':iG j (bQ (cm l[i]))=_:=ha
     dsimp only
     rw [ha',if_pos (by simp),if_neg (by simp)]
     refine vE (t:=(fr (enc l[i])).take k) (j:={Bytes:=j.Bytes++(fr (enc l[i])).take k,Durable:=j.Durable,After:=0}) ⟨h.hd,h.hi,h6,h.sv,?_,.inr ⟨_,k,hso.2.2,hk1,rfl⟩,h.dur,show (-1:Int)≤0 by decide,show (0:Int)≤1099511627776 by decide⟩ hs hw hk
     dsimp only
     rw [h.bytes,List.append_nil]
   ·rw [if_pos (by simp [hsv]),Jk hsv];rfl
  ·rw [if_neg (by simpa using hi)]
   exact vE h hs hw hk
theorem JS (l:List aP) (after keep syncs:Int) (hw:wfL [.sl none 39 true (l.map bw),.int .i64 after,.int .i64 keep,.int .u8 syncs]):rt l after keep syncs=true:=by
 have hwl: ∀p∈l,wfV (bw p):=fun p hp=>by
  simp only [wfL,wfV] at hw
  exact kf hw.1.2 p hp
 unfold rt
 rw [bI,Jp,if_neg (by decide)]
 by_cases h6:(l.length:Int)>6
 ·rw [if_pos (by simpa using h6)]
 rw [if_neg (by simpa using h6),bI]
 by_cases hg:lh l=true
 ·rw [if_pos hg]
 rw [if_neg hg]
 have hs:=Ah (l:=l) (by simpa using hg)
 by_cases hk:keep<0
 ·rw [if_pos (by simpa using hk)]
 rw [if_neg (by simpa using hk),bI]
 have hN: ∃a, -1≤a∧a≤1099511627776∧oF after={Bytes:=[],Durable:=0,After:=a}:=by
  unfold oF
  by_cases h1:after<0
  ·exact ⟨-1,by decide,by decide,by rw [if_pos (by simpa using h1)]⟩
  ·by_cases h2:after>1099511627776
   ·exact ⟨-1,by decide,by decide,by rw [if_neg (by simpa using h1),if_pos (by simpa using h2)]⟩
   ·exact ⟨after,by omega,by omega,by rw [if_neg (by simpa using h1),if_neg (by simpa using h2)]⟩
 obtain ⟨a,a0,a1,hN⟩:=hN
 rw [hN]
 exact vF (keep:=keep) (syncs:=syncs) hs hwl (by omega) (((l.length:Int) - 0).toNat+1) 0 0 {Bytes:=[],Durable:=0,After:=a} ⟨Nat.le_refl _,Nat.zero_le _,by omega,fun p hp=>by simp at hp,rfl,.inl rfl,rfl,a0,a1⟩ (by omega)
end Go.Proofs.YtlmleoeemmhboaaGreatDoor
