/- Texts of this proof, one after the other: L0, R0, RT. -/
import Derived.Test.YteibkofekpejgaaGreatDoorZ5
set_option linter.unusedVariables false
set_option linter.unusedSimpArgs false
namespace Go.Proofs.YteibkofekpejgaaGreatDoor
open Go.RowKit
theorem tu {C:Int→Bool} {n:Int} {F:(Int→Int)→Int→Int} (hF: ∀ag p,F ag p=if p<n then (if C p=true then p else ag (p+1)) else -1) {d:Int→Int}:
  ∀(fuel:Nat) (i:Int),0≤i→(n - i).toNat<fuel→(ae fuel F d i= -1∧ ∀j,i≤j→j<n→C j=false)∨(i≤ae fuel F d i∧ae fuel F d i<n∧C (ae fuel F d i)=true∧ ∀j,i≤j→j<ae fuel F d i→C j=false):=by
 intro fuel
 induction fuel with
 | zero=>intro i _ h;omega
 | succ k ih=>
  intro i h0 h
  rw [ae,hF]
  by_cases hi:i<n
  ·rw [if_pos hi]
   by_cases hc:C i=true
   ·rw [if_pos hc]
    exact .inr ⟨Int.le_refl _,hi,hc,fun j h1 h2=>by omega⟩
   ·rw [if_neg hc]
    have hc':C i=false:=by simpa using hc
    rcases ih (i+1) (by omega) (by omega) with ⟨h1,h2⟩|⟨h1,h2,h3,h4⟩
    ·refine .inl ⟨h1,fun j g1 g2=> ?_⟩
     by_cases e:j=i
     ·subst e;exact hc'
     ·exact h2 j (by omega) g2
    ·refine .inr ⟨by omega,h2,h3,fun j g1 g2=> ?_⟩
     by_cases e:j=i
     ·subst e;exact hc'
     ·exact h4 j (by omega) g2
  ·rw [if_neg hi]
   exact .inl ⟨rfl,fun j h1 h2=>by omega⟩
def CV {α:Type} (g:Int→α→α):Nat→Int→α→α
 | 0,_,a=>a
 | k+1,i,a=>CV g k (i+1) (g i a)
theorem bF {α β:Type} {a:α} {f:α→β}:aa a f=f a:=rfl
theorem tv {α β:Type} [Inhabited α] [Inhabited β] {l:List α} {f:α→β} {i:Int} (h:i.toNat<l.length):gt (l.map f) i=f (gt l i):=by
 simp [gt,List.getD_eq_getElem?_getD,h]
theorem bH {α:Type} [Inhabited α] {l:List α} {i:Int} (h:i.toNat<l.length):gt l i∈l:=by
 simp [gt,List.getD_eq_getElem?_getD,h]
theorem Kl {α β R:Type} [Inhabited α] {f:α→β} {E:Int×List β→R} {l:List α} {F:(Int×List β→R)→Int×List β→R} {d:Int×List β→R}
  (hF: ∀ag p,F ag p=if decide (p.1<(l.length:Int))=true then ag (p.1+1,p.2++[f (gt l p.1)]) else E p):
  ∀(fuel k:Nat) (a:List β),k≤l.length→l.length - k<fuel→ae fuel F d ((k:Int),a)=E ((l.length:Int),a++(l.drop k).map f):=by
 intro fuel
 induction fuel with
 | zero=>intro k a _ h;omega
 | succ n ih=>
  intro k a hl h
  rw [ae,hF]
  by_cases hk:k<l.length
  ·rw [if_pos (decide_eq_true (show (k:Int)<_ by omega))]
   have:=ih (k+1) (a++[f (gt l k)]) (by omega) (by omega)
   rw [show ((k+1:Nat):Int)=(k:Int)+1 by omega] at this
   have hg:gt l (k:Int)=l[k]:=by simp [gt,List.getD_eq_getElem?_getD,hk]
   show ae n F d ((k:Int)+1,a++[f (gt l (k:Int))])=_
   rw [this,List.drop_eq_getElem_cons hk,hg]
   simp only [List.map_cons,List.append_assoc,List.singleton_append]
  ·obtain rfl:k=l.length:=by omega
   rw [if_neg (by simp),List.drop_eq_nil_of_le (by omega)]
   simp
theorem pN {α β R:Type} [Inhabited α] (f:α→β) {E:Int×List β→R} {l:List α} {F:(Int×List β→R)→Int×List β→R} {d:Int×List β→R}
  (hF: ∀ag p,F ag p=if decide (p.1<(l.length:Int))=true then ag (p.1+1,p.2++[f (gt l p.1)]) else E p):
  ae (((l.length:Int) - 0).toNat+1) F d (0,[])=E ((l.length:Int),l.map f):=by
 have:=Kl (d:=d) hF (((l.length:Int) - 0).toNat+1) 0 [] (by omega) (by omega)
 simpa using this
theorem ifF {c b:Bool} (h:(if c=true then false else b)=true):c=false∧b=true:=by cases c<;>simp_all
theorem ifT {c b:Bool} (h:(if c=true then b else false)=true):c=true∧b=true:=by cases c<;>simp_all
theorem iv {α:Type} [Inhabited α] {l:List α} {C:α→Bool} {F:(Int→Int)→Int→Int} {d:Int→Int}
  (hF: ∀ag p,F ag p=if decide (p<(l.length:Int))=true then (if C (gt l p)=true then p else ag (p+1)) else -1):
  decide (ae (((l.length:Int) - 0).toNat+1) F d 0≥0)=l.any C:=by
 have hg: ∀(j:Int),0≤j→j<l.length→gt l j∈l:=fun j h0 h1=>bH (by omega)
 rcases tu (C:=fun p=>C (gt l p)) (n:=(l.length:Int)) (F:=F) (d:=d) (fun ag p=>by rw [hF];by_cases hp:p<(l.length:Int)<;>simp [hp]) (((l.length:Int) - 0).toNat+1) 0 (by omega) (by omega) with ⟨h1,h2⟩|⟨h1,h2,h3,_⟩
 ·rw [h1]
  symm
  rw [show decide ((-1:Int)≥0)=false by decide,List.any_eq_false]
  intro x hx
  obtain ⟨i,hi,rfl⟩:=List.mem_iff_getElem.1 hx
  have:=h2 (i:Int) (by omega) (by omega)
  simpa [gt,List.getD_eq_getElem?_getD,hi] using this
 ·rw [decide_eq_true h1]
  symm
  exact List.any_eq_true.2 ⟨_,hg _ h1 h2,h3⟩
theorem fp {α R:Type} {P:α→Prop} {Q:R→Prop} {meas:α→Nat} {F:(α→R)→α→R} {d:α→R}
  (hs: ∀ag p,P p→(∀q,P q→meas q<meas p→Q (ag q))→Q (F ag p)): ∀(fuel:Nat) (p:α),P p→meas p<fuel→Q (ae fuel F d p):=by
 intro fuel
 induction fuel with
 | zero=>intro p _ h;omega
 | succ k ih=>
  intro p hp hm
  rw [ae]
  exact hs _ p hp fun q hq hlt=>ih q hq (by omega)
theorem Km {α β R:Type} {Rl:α→β→Prop} {ma:α→Nat} {F:(α→R)→α→R} {G:(β→R)→β→R} {d:α→R} {d':β→R}
  (hs: ∀ag ag' p q,Rl p q→(∀p' q',Rl p' q'→ma p'<ma p→ag p'=ag' q')→F ag p=G ag' q):
  ∀(f f':Nat) (p:α) (q:β),Rl p q→ma p<f→ma p<f'→ae f F d p=ae f' G d' q:=by
 intro f
 induction f with
 | zero=>intro f' p q _ h;omega
 | succ k ih=>
  intro f' p q hr h h'
  cases f' with
  | zero=>omega
  | succ k'=>
   rw [ae,ae]
   exact hs _ _ p q hr fun p' q' hr' hlt=>ih k' p' q' hr' (by omega) (by omega)
theorem lX {C:Int→Bool} {n:Int} {X:Bool} {F:(Int→Bool)→Int→Bool} (hF: ∀ag p,F ag p=if decide (p<n)=true then (if C p=true then ag (p+1) else false) else X) {d:Int→Bool}:
  ∀(fuel:Nat) (i:Int),(n - i).toNat<fuel→(ae fuel F d i=true↔(∀j,i≤j→j<n→C j=true)∧X=true):=by
 intro fuel
 induction fuel with
 | zero=>intro i h;omega
 | succ k ih=>
  intro i h
  rw [ae,hF]
  by_cases hi:i<n
  ·rw [if_pos (decide_eq_true hi)]
   by_cases hc:C i=true
   ·rw [if_pos hc,ih (i+1) (by omega)]
    refine ⟨fun H=>⟨fun j h1 h2=> ?_,H.2⟩,fun H=>⟨fun j h1 h2=>H.1 j (by omega) h2,H.2⟩⟩
    by_cases e:j=i
    ·subst e;exact hc
    ·exact H.1 j (by omega) h2
   ·rw [if_neg hc]
    exact ⟨fun H=>Bool.noConfusion H,fun H=>absurd (H.1 i (Int.le_refl _) hi) hc⟩
  ·rw [if_neg (by simpa using hi)]
   exact ⟨fun H=>⟨fun j h1 h2=>by omega,H⟩,fun H=>H.2⟩
theorem Kn {α:Type} [Inhabited α] {l:List α} {c:α→Bool} {X:Bool} {F:(Int→Bool)→Int→Bool} {d:Int→Bool}
  (hF: ∀ag p,F ag p=if decide (p<(l.length:Int))=true then (if c (gt l p)=true then ag (p+1) else false) else X):
  ae (((l.length:Int) - 0).toNat+1) F d 0=(l.all c&&X):=by
 rw [Bool.eq_iff_iff,lX (C:=fun p=>c (gt l p)) hF _ _ (by omega),Bool.and_eq_true,List.all_eq_true]
 refine and_congr_left fun _=>⟨fun h x hx=> ?_,fun h j h0 h1=>h _ (bH (by omega))⟩
 obtain ⟨i,hi,rfl⟩:=List.mem_iff_getElem.1 hx
 have:=h (i:Int) (by omega) (by omega)
 simpa [gt,List.getD_eq_getElem?_getD,hi] using this
theorem gO {C:Int→Bool} {n:Int} {X:Bool} {F:(Int→Bool)→Int→Bool} (hF: ∀ag p,F ag p=if decide (p<n)=true then (if C p=true then ag (p+1) else false) else X) (hC: ∀p,C p=true) {d:Int→Bool}
  (fuel:Nat) (i:Int) (h:(n - i).toNat<fuel):ae fuel F d i=X:=
 Bool.eq_iff_iff.2 ((lX hF fuel i h).trans ⟨fun h=>h.2,fun h=>⟨fun j _ _=>hC j,h⟩⟩)
theorem eh {b c:Bool}:(if (!b)=true then false else c)=(if b=true then c else false):=by cases b<;>rfl
theorem CW {α:Type} [Inhabited α] {l:List α} {i:Nat} (h:i<l.length):gt l (i:Int)=l[i]:=by
 simp [gt,List.getD_eq_getElem?_getD,h]
def iw {α σ R:Type} (st:α→σ→σ⊕R) (E:σ→R):List α→σ→R
 | [],s=>E s
 | a::l,s=>match st a s with
  | .inl s'=>iw st E l s'
  | .inr r=>r
theorem Ko {α σ R:Type} [Inhabited α] {l:List α} {st:α→σ→σ⊕R} {E:σ→R} {F:(Int×σ→R)→Int×σ→R} {d:Int×σ→R}
  (hF: ∀ag i s,F ag (i,s)=if i<(l.length:Int) then (match st (gt l i) s with| .inl s'=>ag (i+1,s')| .inr r=>r) else E s):
  ∀(fuel k:Nat) (s:σ),k≤l.length→l.length - k<fuel→ae fuel F d ((k:Int),s)=iw st E (l.drop k) s:=by
 intro fuel
 induction fuel with
 | zero=>intro k s _ h;omega
 | succ n ih=>
  intro k s hl h
  rw [ae,hF]
  by_cases hk:k<l.length
  ·rw [if_pos (by omega),List.drop_eq_getElem_cons hk]
   have hg:gt l (k:Int)=l[k]:=by simp [gt,List.getD_eq_getElem?_getD,hk]
   rw [hg]
   simp only [iw]
   cases st l[k] s with
   | inl s'=>
    have:=ih (k+1) s' (by omega) (by omega)
    rw [show ((k+1:Nat):Int)=(k:Int)+1 by omega] at this
    exact this
   | inr r=>rfl
  ·obtain rfl:k=l.length:=by omega
   rw [if_neg (by simp),List.drop_eq_nil_of_le (by omega)];rfl
theorem nz {α σ R:Type} [Inhabited α] {l:List α} (st:α→σ→σ⊕R) (E:σ→R) {F:(Int×σ→R)→Int×σ→R} {d:Int×σ→R} {s:σ}
  (hF: ∀ag i s,F ag (i,s)=if i<(l.length:Int) then (match st (gt l i) s with| .inl s'=>ag (i+1,s')| .inr r=>r) else E s):
  ae (((l.length:Int) - 0).toNat+1) F d (0,s)=iw st E l s:=by
 have:=Ko (d:=d) hF (((l.length:Int) - 0).toNat+1) 0 s (by omega) (by omega)
 simpa using this
theorem Kq {α σ R:Type} [Inhabited α] {l:List α} {st:α→σ→σ⊕R} {E:σ→R} {F:(σ×Int→R)→σ×Int→R} {d:σ×Int→R}
  (hF: ∀ag i s,F ag (s,i)=if i<(l.length:Int) then (match st (gt l i) s with| .inl s'=>ag (s',i+1)| .inr r=>r) else E s):
  ∀(fuel k:Nat) (s:σ),k≤l.length→l.length - k<fuel→ae fuel F d (s,(k:Int))=iw st E (l.drop k) s:=by
 intro fuel
 induction fuel with
 | zero=>intro k s _ h;omega
 | succ n ih=>
  intro k s hl h
  rw [ae,hF]
  by_cases hk:k<l.length
  ·rw [if_pos (by omega),List.drop_eq_getElem_cons hk]
   have hg:gt l (k:Int)=l[k]:=by simp [gt,List.getD_eq_getElem?_getD,hk]
   rw [hg]
   simp only [iw]
   cases st l[k] s with
   | inl s'=>
    have:=ih (k+1) s' (by omega) (by omega)
    rw [show ((k+1:Nat):Int)=(k:Int)+1 by omega] at this
    exact this
   | inr r=>rfl
  ·obtain rfl:k=l.length:=by omega
   rw [if_neg (by simp),List.drop_eq_nil_of_le (by omega)];rfl
theorem CX {α σ R:Type} [Inhabited α] {l:List α} (st:α→σ→σ⊕R) (E:σ→R) {F:(σ×Int→R)→σ×Int→R} {d:σ×Int→R} {s:σ}
  (hF: ∀ag i s,F ag (s,i)=if i<(l.length:Int) then (match st (gt l i) s with| .inl s'=>ag (s',i+1)| .inr r=>r) else E s):
  ae (((l.length:Int) - 0).toNat+1) F d (s,0)=iw st E l s:=by
 have:=Kq (d:=d) hF (((l.length:Int) - 0).toNat+1) 0 s (by omega) (by omega)
 simpa using this
theorem jr {α σ R:Type} {g:α→σ→σ} {E:σ→R}: ∀{l:List α} {s:σ},iw (fun a s=> .inl (g a s)) E l s=E (l.foldl (fun s a=>g a s) s)
 | [],_=>rfl
 | a::l,s=>by simp only [iw,List.foldl_cons];exact jr
theorem CY {α:Type} [Inhabited α]: ∀{k:Nat} {i:Nat} {l:List α},l.length=i+k→fV l k i=l.drop i
 | 0,i,l,h=>by simp [fV,h]
 | k+1,i,l,h=>by
  have hi:i<l.length:=by omega
  rw [List.drop_eq_getElem_cons hi]
  simp only [fV]
  have:=CY (k:=k) (i:=i+1) (l:=l) (by omega)
  rw [show ((i+1:Nat):Int)=(i:Int)+1 by omega] at this
  rw [this]
  simp [gt,List.getD_eq_getElem?_getD,hi]
theorem Kr {α:Type} [Inhabited α] {l:List α} {n:Nat} (h:l.length=n):bd n l=l:=by
 have:=CY (k:=n) (i:=0) (l:=l) (by omega)
 simpa [bd] using this
theorem CZ {α:Type} [Inhabited α] {l:List α}: ∀{k:Nat} {i j:Nat},j<k→(fV l k i).getD j default=gt l ((i+j:Nat):Int)
 | k+1,i,0,_=>by simp [fV]
 | k+1,i,j+1,h=>by
  have:=CZ (l:=l) (k:=k) (i:=i+1) (j:=j) (by omega)
  simp only [fV,List.getD_cons_succ]
  rw [show ((i:Int)+1)=((i+1:Nat):Int) from rfl,this]
  congr 1;omega
theorem kf {α:Type} [Inhabited α] {f:α→V} {n:Nat} {l:List α} {i:Int} (h:0≤i∧i.toNat<n):((bd n l).map f).getD (0+i.toNat*1) .un=f (gt l i):=by
 have h1:(bd n l).length=n:=dc
 have h2:=CZ (l:=l) (k:=n) (i:=0) (j:=i.toNat) h.2
 have h3:gt (bd n l) i=gt l i:=by
  rw [show gt (bd n l) i=(fV l n ((0:Nat):Int)).getD i.toNat default from rfl,h2]
  congr 1;omega
 rw [←h3]
 simp [gt,List.getD_eq_getElem?_getD,h1,h.2]
theorem Ks {α:Type} [Inhabited α] {f:α→V} {n:Nat} {l:List α} {i:Int} (h:0≤i∧i.toNat<n):((bd n l).map f).getD (i.toNat*1) .un=f (gt l i):=by
 have:=kf (f:=f) (n:=n) (l:=l) (i:=i) h
 rwa [Nat.zero_add] at this
theorem pO {α:Type} [Inhabited α] {f:α→V} {l:List α} {n:Nat} {i:Int} (hl:l.length=n) (h:0≤i∧i.toNat<n):(l.map f).getD (i.toNat*1) .un=f (gt l i):=by
 subst hl
 simp [gt,List.getD_eq_getElem?_getD,h.2]
theorem tw {α:Type} [Inhabited α] {f:α→V} {n:Nat} {l:List α} {i:Int} {v:α} (hl:l.length=n) (h:0≤i∧i.toNat<n):(l.map f).take (0+i.toNat*1)++[f v]++(l.map f).drop (0+i.toNat*1+1)=(bd n (st l i v)).map f:=by
 rw [Kr (by rw [nd];exact hl)]
 unfold st
 rw [List.set_eq_take_append_cons_drop,if_pos (by omega)]
 simp [List.map_take,List.map_drop]
def lY {β:Type} (i:Nat):List (Nat×β)→List (Nat×β)
 | []=> []
 | (k,b)::l=>if k=i then lY i l else (k,b)::lY i l
attribute [go_sem] lY
theorem xL {β:Type} {i t:Nat} {b:β}: ∀{l:List (Nat×β)},ab (lY i l) t=some b→t≠i∧ab l t=some b
 | [],h=>by cases h
 | (k,x)::l,h=>by
  simp only [lY] at h
  split at h
  ·rename_i e
   obtain ⟨h1,h2⟩:=xL h
   exact ⟨h1,by simp only [ab];rw [if_neg (by omega)];exact h2⟩
  ·rename_i e
   simp only [ab] at h⊢
   split at h
   ·rename_i e2;exact ⟨by omega,by rw [if_pos e2];exact h⟩
   ·rename_i e2
    obtain ⟨h1,h2⟩:=xL h
    exact ⟨h1,by rw [if_neg e2];exact h2⟩
theorem Kt {E:Env} {S:St} (t i j:Nat) {T n:Nat} {g:Bool} {z:Option Bool} {l:List V} (h:ab S.F t=some (.own j)) (h2:ab S.H j=some (.own T n g z l)) (hi:i<S.nx) (hij:i≠j):
  ca E S ⟨(t,.own i)::mP i S.F,(i,.own T n g z l)::lY j (li i S.H),S.nx⟩:=by
 intro c0 c ρ F hs
 obtain ⟨v,hv,hown,hge,hone,a,cap,es,hz⟩:=hs.1.heap _ _ h2
 have hro: ∀k,k≠i→di ρ i v k=ρ k:=fun k hk=>hZ hk
 have hbi:ak (di ρ i v) i=ak ρ j:=by unfold ak;rw [dm,hv]
 have hbk: ∀k,k≠i→ak (di ρ i v) k=ak ρ k:=fun k hk=>by unfold ak;rw [hro k hk]
 have hold: ∀k b,i≠k→ab (lY j (li i S.H)) k=some b→k≠j∧ ∃b0,ab S.H k=some b0∧b=lh i b0:=by
  intro k b hk hb
  obtain ⟨h3,h4⟩:=xL hb
  rw [rU] at h4
  cases h5:ab S.H k with
  | none=>rw [h5] at h4;cases h4
  | some b0=>rw [h5] at h4;cases h4;exact ⟨h3,b0,rfl,rfl⟩
 refine ⟨c,di ρ i v,rfl,⟨hs.1.since,hs.1.gl,fun t' x ht=> ?_,?_,?_⟩,fun k hk=> ?_⟩
 ·simp only [ab] at ht
  split at ht
  ·rename_i e;subst e;cases ht
   have h3:=hs.1.slot _ _ h
   simp only [rd] at h3⊢
   rw [hv] at h3
   exact ⟨by rw [dm];exact h3.1,h3.2⟩
  ·rw [wn] at ht
   cases h5:ab S.F t' with
   | none=>rw [h5] at ht;cases ht
   | some y=>rw [h5] at ht;cases ht;exact lq hro (hs.1.slot _ _ h5)
 ·intro k b hb
  simp only [ab] at hb
  split at hb
  ·rename_i e;subst e;cases hb
   exact ⟨v,dm,hown,hge,hone,a,cap,es,hz⟩
  ·rename_i hk
   obtain ⟨_,b0,h6,rfl⟩:=hold k b hk hb
   exact A2 hro (Ne.symm hk) (hs.1.heap _ _ h6)
 ·intro x y bx bb k hxy hx hy hpx hpy hbx
  simp only [ab] at hx hy
  split at hx
  ·rename_i e;subst e
   rw [if_neg hxy] at hy
   obtain ⟨hyj,b0,h6,rfl⟩:=hold y bb hxy hy
   rw [mR] at hpy
   rw [hbk y (Ne.symm hxy)]
   rw [hbi] at hbx
   exact hs.1.sep j y _ b0 k (Ne.symm hyj) h2 h6 rfl hpy hbx
  ·rename_i hix
   obtain ⟨hxj,b0,h6,rfl⟩:=hold x bx hix hx
   rw [mR] at hpx
   rw [hbk x (Ne.symm hix)] at hbx
   split at hy
   ·rename_i e;subst e
    rw [hbi]
    exact hs.1.sep x j b0 _ k hxj h6 h2 hpx rfl hbx
   ·rename_i hiy
    obtain ⟨hyj,b1,h7,rfl⟩:=hold y bb hiy hy
    rw [mR] at hpy
    rw [hbk y (Ne.symm hiy)]
    exact hs.1.sep x y b0 b1 k hxy h6 h7 hpx hpy hbx
 ·have hk':S.nx≤k:=hk
  rw [hro k (by omega)];exact hs.2 k hk
end Go.Proofs.YteibkofekpejgaaGreatDoor
namespace Go.Proofs.YteibkofekpejgaaGreatDoor
open Go.RowKit
set_option linter.unusedVariables false
set_option linter.unusedSimpArgs false
def be:Nat→Int→List Int
 | 0,_=> []
 | k+1,n=>be k (n/256)++[n% 256]
theorem C0: ∀{k:Nat} {n:Int},(be k n).length=k
 | 0,_=>rfl
 | k+1,n=>by simp [be,C0 (k:=k)]
theorem C1 (n m:Int) (h:0<m):n% (256*m)=256*(n/256% m)+n% 256:=by
 have h1:=Int.mul_ediv_add_emod n 256
 have h2:=Int.mul_ediv_add_emod (n/256) m
 have h3:=Int.emod_nonneg (n/256) (show m≠0 by omega)
 have h4:=Int.emod_lt_of_pos (n/256) h
 generalize n/256% m=s at*
 generalize hq:n/256/m=t at*
 have e:n=(256*s+n% 256)+256*m*t:=by
  have:256*m*t=256*(m*t):=by rw [Int.mul_assoc]
  omega
 have e2:n% (256*m)=(256*s+n% 256)% (256*m):=by
  conv=>lhs;rw [e]
  rw [Int.add_mul_emod_self_left]
 rw [e2]
 exact Int.emod_eq_of_lt (by omega) (by omega)
theorem xM: ∀{k:Nat} {n m:Int},n% 256^k=m% 256^k→be k n=be k m
 | 0,_,_,_=>rfl
 | k+1,n,m,h=>by
  have hp:(0:Int)<256^k:=Int.pow_pos (by omega)
  rw [show (256:Int)^(k+1)=256*256^k by rw [Int.pow_succ,Int.mul_comm],C1 _ _ hp,C1 _ _ hp] at h
  have h1:=Int.emod_nonneg (n/256) (show (256:Int)^k≠0 by omega)
  have h2:=Int.emod_nonneg (m/256) (show (256:Int)^k≠0 by omega)
  simp only [be]
  rw [show n% 256=m% 256 by omega,xM (k:=k) (show n/256% 256^k=m/256% 256^k by omega)]
mutual
def hgt:am→Nat
 | ⟨_,_,b,l⟩=>1+b.length+bM l
def bM:List am→Nat
 | []=>0
 | x::l=>hgt x+bM l
end
theorem C2: ∀{l:List am} {x:am},x∈l→hgt x≤bM l
 | y::l,x,h=>by
  simp only [bM]
  rcases List.mem_cons.1 h with rfl|h
  ·omega
  ·have:=C2 h;omega
theorem C3 (i:am):hgt i=1+i.B.length+bM i.L:=by cases i;rfl
theorem tx {i x:am} (h:x∈i.L):hgt x<hgt i:=by
 have:=C2 h
 rw [C3 i];omega
mutual
def ga:am→Int→Bool
 | ⟨k,n,b,l⟩,d=>if k==1 then b.isEmpty&&l.isEmpty else if k==2 then n==0&&l.isEmpty else if k==3 then n==0&&(b.isEmpty&&(decide (0<d)&&(decide (l.length≤1000)&&pP l (d - 1)))) else false
def pP:List am→Int→Bool
 | [],_=>true
 | x::l,d=>ga x d&&pP l d
end
theorem C4: ∀{l:List am} {d:Int},pP l d=l.all (fun x=>ga x d)
 | [],_=>rfl
 | x::l,d=>by simp only [pP,List.all_cons,C4 (l:=l)]
theorem wrap_u64 {a:Int} (h0:0≤a) (h1:a<18446744073709551616):IntKind.wrap .u64 a=a:=by
 simp only [IntKind.wrap,IntKind.bits,IntKind.signed];simp;omega
mutual
def gc:List Int→am→List Int
 | out,⟨k,n,b,l⟩=>if out.length>16384 then out else if k==1 then out++(1::be 8 n) else if k==2 then out++(2::be 4 b.length)++b else tz (out++(k% 256::be 4 l.length)) l
def tz:List Int→List am→List Int
 | out,[]=>out
 | out,x::l=>tz (gc out x) l
end
end Go.Proofs.YteibkofekpejgaaGreatDoor
namespace Go.Proofs.YteibkofekpejgaaGreatDoor
open Go.RowKit
def kg (I:List Int→List Int→List Int):List (List Int)→List (List Int)
 | a::b::l=>I a b::kg I l
 | _=> []
def kh (l:List (List Int)):Prop:= ∃d:Nat,d≤10∧l.length=2^d
theorem C5 {v:Int} (h0:0≤v) (h1:v≤10):ay .i64 1 v=2^v.toNat:=by
 have:v=0∨v=1∨v=2∨v=3∨v=4∨v=5∨v=6∨v=7∨v=8∨v=9∨v=10:=by omega
 rcases this with rfl|rfl|rfl|rfl|rfl|rfl|rfl|rfl|rfl|rfl|rfl<;>decide
def cE {α:Type}:List α→List (List α)
 | a::b::l=> [a,b]::cE l
 | _=> []
theorem C6 {α:Type} {y:List α}: ∀{l:List α},y∈cE l→y.length=2
 | a::b::l,h=>by
  simp only [cE,List.mem_cons] at h
  rcases h with rfl|h
  ·rfl
  ·exact C6 h
 | [],h=>by simp [cE] at h
 | [_],h=>by simp [cE] at h
theorem tA {α:Type}: ∀{k:Nat} {l:List α},l.length=2*k→(cE l).length=k
 | 0,l,h=>by
  have:l=[]:=List.length_eq_zero_iff.1 (by omega)
  subst this;rfl
 | k+1,a::b::l,h=>by
  simp only [cE,List.length_cons] at h⊢
  rw [tA (k:=k) (by omega)]
 | k+1,[],h=>by simp at h
 | k+1,[a],h=>by simp at h;omega
theorem xN {l:List (List Int)} (h:kh l) (h1:1<l.length): ∃d:Nat,d+1≤10∧l.length=2*2^d:=by
 obtain ⟨d,hd,e⟩:=h
 cases d with
 | zero=>rw [e] at h1;simp at h1
 | succ d=>exact ⟨d,hd,by rw [e,Nat.pow_succ];omega⟩
theorem Ku {l:List (List Int)} (h:kh l) (h1:1<l.length): ∃m,l.length=2*m:=by
 obtain ⟨d,_,e⟩:=xN h h1
 exact ⟨_,e⟩
theorem Kv {l p:List (List Int)} (h:kh l) (h1:1<l.length) (hp:p.length=(cE l).length):kh p:=by
 obtain ⟨d,hd,e⟩:=xN h h1
 exact ⟨d,by omega,by rw [hp,tA e]⟩
theorem C7 {l p:List (List Int)} (h:kh l) (h1:1<l.length) (hp:p.length=(cE l).length):p.length<l.length:=by
 obtain ⟨d,hd,e⟩:=xN h h1
 have:0<2^d:=Nat.pow_pos (by decide)
 rw [hp,tA e];omega
end Go.Proofs.YteibkofekpejgaaGreatDoor
