/- Texts of this proof, one after the other: VJ, VK, VT, VA, T, L0, R0, R1. -/
import Derived.Test.YtgealhhkngbkbaaGreatDoorZ4
set_option linter.unusedVariables false
set_option linter.unusedSimpArgs false
namespace Go.Proofs.YtgealhhkngbkbaaGreatDoor
open Go.RowKit
section
variable {E:Env} {J:cq} {k:List Ct} {S S1:St} {c0 c:Cx} {ρ:Ro} {F:Fm}
theorem lS (h:Sim E c0 c ρ S F) {ids:List Nat} {Hin:List Blk} (hi:gw S.H ids ids Hin) {x:Nat} (hx:x∈cB ρ ids): ∃i a,i∈ids∧ak S.H i=some a∧aZ a=true∧an ρ i=some x:=by
 obtain ⟨hlen,hget⟩:=nc hi
 obtain ⟨i,hm,hb⟩:=List.mem_filterMap.1 hx
 obtain ⟨j,hj,e⟩:=List.getElem_of_mem hm
 have hjH:j<Hin.length:=by omega
 obtain ⟨a,h1,h2,_⟩:=pb (hget j i Hin[j] (by rw [List.getElem?_eq_getElem hj,e]) (List.getElem?_eq_getElem hjH))
 exact ⟨i,a,hm,h1,h2,hb⟩
theorem Je (h:bl E c0 c ρ S F) {ids:List Nat} {Hin Hout Hnew:List Blk} (hd:ids.Nodup) (hi:gw S.H ids ids Hin) (hk:iw Hin Hout=true) (hn:lR Hnew=true) {c':Cx} {ρr:Ro} {r:V} {v:Value}
  (hle:(c.lend (cB ρ ids)).leY c') (hr:rd ρr c' r v) (hH:o_ (c.lend (cB ρ ids)) c' ρr (cf (de ρ ids) 0 Hout++Hnew)) (d:Option Nat):
  bl E c0 c' (ro2 ids S.nx ρ ρr) (S.afterI ids Hout Hnew d r) (ci F d v):=by
 obtain ⟨hlen,hget⟩:=nc hi
 obtain ⟨hkl,hkk⟩:=vX hk
 have hlO:(cf (de ρ ids) 0 Hout).length=ids.length:=by rw [sf];omega
 have hlt: ∀i∈ids,i<S.nx:=by
  intro i hm
  obtain ⟨j,hj,e⟩:=List.getElem_of_mem hm
  obtain ⟨a,h1,_⟩:=pb (hget j i Hin[j] (by rw [List.getElem?_eq_getElem hj,e]) (List.getElem?_eq_getElem (by omega)))
  obtain ⟨x,hx⟩:=An (h.1.heap i a h1)
  rcases Nat.lt_or_ge i S.nx with h2|h2
  ·exact h2
  ·rw [h.2 i h2] at hx;cases hx
 have hYX: ∀x,x∈cB ρ ids→c0.mine x:=by
  intro x hx
  obtain ⟨i,a,_,h2,h3,h4⟩:=lS h.1 hi hx
  exact il h.1 h2 h3 x h4
 have hYlt: ∀x,x∈cB ρ ids→x<c.w.heap.size:=by
  intro x hx
  obtain ⟨i,a,_,h2,h3,h4⟩:=lS h.1 hi hx
  exact fk h3 (h.1.heap i a h2) x h4
 have hYp: ∀x,x∈cB ρ ids→x∈c.X:=by
  intro x hx
  obtain ⟨i,a,_,h2,h3,h4⟩:=lS h.1 hi hx
  have hb:=h.1.heap i a h2
  cases a with
  | var n g d=>obtain ⟨b,g1,_,g3⟩:=hb;simp only [an,g1,Option.some.injEq] at h4;subst h4;exact g3.1
  | lent b n g d=>obtain ⟨g1,_,g3⟩:=hb;simp only [an,g1,Option.some.injEq] at h4;subst h4;exact g3.1
  | own T n g z l=>obtain ⟨u,g1,g2,_,_,a,cap,e,_⟩:=hb;rw [eF g1 e] at h4;exact g2.isX x h4
  | ownI T n g z l=>obtain ⟨u,g1,g2,_,_,a,cap,e,_⟩:=hb;rw [eF g1 e] at h4;exact g2.isX x h4
  | kset g k' n l=>obtain ⟨r,g1,_,g3⟩:=hb;simp only [an,g1,blk,Option.some.injEq] at h4;subst h4;exact g3.1
  | pvar n g d=>cases h3
  | pown n g z l=>cases h3
 have hpub:c.pub c':=⟨hle.below.size,fun x hx hnX=>⟨fun h'=>hnX ((hle.old x hx (fun hy=>hnX (hYp x hy))).1 h'),fun o ho _=>(hle.below.block x hx (fun hy=>hnX (hYp x hy))).trans ho⟩⟩
 have hsince:cn c0 c':=by
  refine ⟨⟨hle.below.os.trans h.1.since.below.os,hle.below.tape.trans h.1.since.below.tape,hle.below.output.trans h.1.since.below.output,Nat.le_trans h.1.since.size hle.below.size,?_⟩,?_,fun x hx hnX h'=>(h.1.since.Xn x hx hnX) (by
   by_cases hY:x∈cB ρ ids
   ·exact hYp x hY
   ·exact (hle.old x (Nat.lt_of_lt_of_le hx h.1.since.size) hY).1 h')⟩
  ·intro x hx hy
   refine (hle.below.block x (Nat.lt_of_lt_of_le hx h.1.since.size) (fun hY=> ?_)).trans (h.1.since.below.block x hx hy)
   rcases hYX x hY with h1|h1
   ·omega
   ·exact hy h1
  ·intro x hx hy
   have hxX:=h.1.since.X x hx hy
   refine (hle.old x (c.ok x hxX) (fun hY=> ?_)).2 hxX
   rcases hYX x hY with h1|h1
   ·have:=c0.ok x hx;omega
   ·exact hy h1
 have hmine: ∀x,(c.lend (cB ρ ids)).mine x→c0.mine x:=by
  rintro x (h1|h1)
  ·exact .inl (Nat.le_trans h.1.since.size h1)
  ·exact hYX x h1
 -- names
 have hsg: ∀j x,ρr j=some x→ro2 ids S.nx ρ ρr (sg ids S.nx j)=some x:=fun j x hx=>(Jb hd hlt j).trans hx
 have hnew: ∀i,S.nx≤i→ro2 ids S.nx ρ ρr i=ρr (ids.length+(i - S.nx)):=fun i hi=>At hlt hi
 have hold: ∀i b,ak S.H i=some b→i<S.nx:=by
  intro i b hb
  obtain ⟨x,hx⟩:=An (h.1.heap i b hb)
  rcases Nat.lt_or_ge i S.nx with h2|h2
  ·exact h2
  ·rw [h.2 i h2] at hx;cases hx
 -- what the call gives back under a lent name
 have hback: ∀j i,ids[j]? =some i→ ∃b a,Hout[j]? =some b∧ak S.H i=some a∧((jn b∧ ∀x,ρ i=some x→ρr j=some x)∨(eL b∧ ∃T n g z l,a= .own T n g z l))∧blkOk c0 c' (ro2 ids S.nx ρ ρr) i (ix (ak S.H i) (iv (sg ids S.nx) b)):=by
  intro j i hj
  have hjl:=(List.getElem?_eq_some_iff.1 hj).1
  have hHi:Hin[j]? =some Hin[j]:=List.getElem?_eq_getElem (by omega)
  have hHo:Hout[j]? =some Hout[j]:=List.getElem?_eq_getElem (by omega)
  have hin:=hget j i _ hj hHi
  have hkj:=hkk j _ _ hHi hHo
  generalize Hin[j]=bi at hin hkj hHi
  generalize Hout[j]=bo at hkj hHo
  have hblk:blkOk (c.lend (cB ρ ids)) c' ρr j (gp (de ρ ids j) bo):=by
   refine hH.1 j _ ?_
   rw [List.getElem?_append_left (by omega),na,Nat.zero_add,hHo];rfl
  have hro:ro2 ids S.nx ρ ρr i=ρr j:=sk hd hj
  cases hS:ak S.H i with
  | none=>rw [hS] at hin;unfold inO at hin;exact hin.elim
  | some a=>
   have hold:=h.1.heap i a hS
   rw [hS] at hin
   have var: ∀{n g d} {b:Nat},bo= .var n g d→de ρ ids j=b→ρ i=some (.pointer (some ⟨b,0,none⟩))→an ρ i=some b→c0.mine b∧ρr j=some (.pointer (some ⟨b,0,none⟩))∧Var c' b (rV (ro2 ids S.nx ρ ρr) n g) (ren (sg ids S.nx) d):=by
    intro n g d b e hb hp hbo
    subst e
    simp only [gp,hb] at hblk
    obtain ⟨g1,g2,g3,T,cs,g4,g5,g6⟩:=hblk
    exact ⟨hmine b g2,g1,g3,T,cs,g4,g5,se hsg g6⟩
   unfold inO at hin
   split at hin
   ·rename_i T n g z l T' n' g' z' l' e
    cases e
    rcases hkj with ⟨h1,_⟩|⟨_,h1⟩
    ·exact h1.elim
    ·refine ⟨bo,_,hHo,rfl,.inr ⟨h1,_,_,_,_,_,rfl⟩,?_⟩
     cases bo<;>simp only [eL] at h1
     simp only [gp] at hblk
     obtain ⟨x,g1,g2,g3,g4,g5⟩:=hblk
     simp only [iv,ix]
     exact ⟨x,hro.trans g1,g2,fun k hk=>hmine k (g3 k hk),g4,g5⟩
   ·rename_i n g d n' g' d' e
    cases e
    rcases hkj with ⟨_,h1⟩|⟨h1,_⟩
    ·obtain ⟨b,g1,_⟩:=hold
     have hbo:an ρ i=some b:=by simp [an,g1]
     cases bo<;>simp only [jn] at h1
     obtain ⟨k1,k2,k3⟩:=var rfl (by simp [de,hj,hbo]) g1 hbo
     refine ⟨_,_,hHo,rfl,.inl ⟨trivial,fun x hx=> ?_⟩,?_⟩
     ·rw [g1] at hx;cases hx;exact k2
     ·simp only [iv,ix]
      exact ⟨b,hro.trans k2,k1,k3⟩
    ·exact h1.elim
   ·rename_i k0 n g d n' g' d' e
    cases e
    rcases hkj with ⟨_,h1⟩|⟨h1,_⟩
    ·obtain ⟨g1,_⟩:=hold
     have hbo:an ρ i=some k0:=by simp [an,g1]
     cases bo<;>simp only [jn] at h1
     obtain ⟨k1,k2,k3⟩:=var rfl (by simp [de,hj,hbo]) g1 hbo
     refine ⟨_,_,hHo,rfl,.inl ⟨trivial,fun x hx=> ?_⟩,?_⟩
     ·rw [g1] at hx;cases hx;exact k2
     ·simp only [iv,ix]
      exact ⟨hro.trans k2,k1,k3⟩
    ·exact h1.elim
   ·exact hin.elim
 have hpr: ∀i x,bz (eM S.H ids) i=false→ρ i=some x→ro2 ids S.nx ρ ρr i=some x:=by
  intro i x hp hx
  have hilt:i<S.nx:=by
   rcases Nat.lt_or_ge i S.nx with h2|h2
   ·exact h2
   ·rw [h.2 i h2] at hx;cases hx
  by_cases hm:i∈ids
  ·obtain ⟨j,hj,e⟩:=List.getElem_of_mem hm
   have hj':ids[j]? =some i:=by rw [List.getElem?_eq_getElem hj,e]
   obtain ⟨b,a,_,h2,h3,_⟩:=hback j i hj'
   rcases h3 with ⟨_,h3⟩|⟨_,T,n,g,z,l,rfl⟩
   ·rw [sk hd hj'];exact h3 x hx
   ·have:=fp.2 (Aq h2 hm)
    rw [hp] at this;cases this
  ·rw [nd hm hilt];exact hx
 -- the blocks behind the call
 have hcase: ∀i b,ak (gM S.nx 0 (fv (sg ids S.nx) Hnew)++gW S.H (prH (bz (eM S.H ids)) S.H) ids (fv (sg ids S.nx) Hout)) i=some b→
   (∃(q:Nat) (b0:Blk),i=S.nx+q∧Hnew[q]? =some b0∧b=iv (sg ids S.nx) b0)∨(∃(j:Nat) (b0:Blk),ids[j]? =some i∧Hout[j]? =some b0∧b=ix (ak S.H i) (iv (sg ids S.nx) b0))∨(i∉ids∧ ∃b0,ak S.H i=some b0∧b=prB (bz (eM S.H ids)) b0):=by
  intro i b hb
  have rest:ak (gW S.H (prH (bz (eM S.H ids)) S.H) ids (fv (sg ids S.nx) Hout)) i=some b→(∃(j:Nat) (b0:Blk),ids[j]? =some i∧Hout[j]? =some b0∧b=ix (ak S.H i) (iv (sg ids S.nx) b0))∨(i∉ids∧ ∃b0,ak S.H i=some b0∧b=prB (bz (eM S.H ids)) b0):=by
   intro hb
   by_cases hm:i∈ids
   ·obtain ⟨j,hj,e⟩:=List.getElem_of_mem hm
    have hj':ids[j]? =some i:=by rw [List.getElem?_eq_getElem hj,e]
    obtain ⟨b0,_,h1,_⟩:=hback j i hj'
    have:=Ar (H0:=S.H) (h:=prH (bz (eM S.H ids)) S.H) (m:=fv (sg ids S.nx) Hout) hd hj' (by rw [vV,h1];rfl)
    rw [this] at hb
    cases hb
    exact .inl ⟨j,b0,hj',h1,rfl⟩
   ·rw [vZ hm,Am] at hb
    cases hS:ak S.H i with
    | none=>rw [hS] at hb;cases hb
    | some b0=>rw [hS] at hb;cases hb;exact .inr ⟨hm,b0,rfl,rfl⟩
  simp only [mS,ru,Nat.add_zero] at hb
  by_cases h1:S.nx≤i
  ·rw [if_pos h1,vV] at hb
   cases hq:Hnew[i - S.nx]? with
   | some x=>rw [hq] at hb;simp only [Option.map_some,Option.some.injEq] at hb;exact .inl ⟨i - S.nx,x,by omega,hq,hb.symm⟩
   | none=>rw [hq] at hb;exact .inr (rest hb)
  ·rw [if_neg h1] at hb;exact .inr (rest hb)
 have hnewOk: ∀q b,Hnew[q]? =some b→(∃T n g z l,b= .own T n g z l)∧blkOk (c.lend (cB ρ ids)) c' ρr (ids.length+q) b:=by
  intro q b hq
  have h1:=vY hn q b hq
  refine ⟨?_,hH.1 (ids.length+q) b ?_⟩
  ·cases b<;>simp only [eL] at h1
   exact ⟨_,_,_,_,_,rfl⟩
  ·rw [List.getElem?_append_right (by omega),hlO,Nat.add_sub_cancel_left];exact hq
 have hput: ∀(S':St),bl E c0 c' (ro2 ids S.nx ρ ρr) S' F→bl E c0 c' (ro2 ids S.nx ρ ρr) (S'.put d (ren (sg ids S.nx) r)) (ci F d v):=
  fun S' hS=>mR hS (se hsg hr)
 refine hput _ ⟨⟨hsince,h.1.gl.mono hpub,?_,?_,?_⟩,?_⟩
 ·intro t x ht
  simp only [Al,Option.map_eq_some_iff] at ht
  obtain ⟨x0,hx0,rfl⟩:=ht
  exact m_ hpr (bE hpub (h.1.slot t x0 hx0))
 ·intro i b hb
  rcases hcase i b hb with ⟨q,b0,rfl,hq,rfl⟩|⟨j,b0,hj,hb0,rfl⟩|⟨hm,b0,hS,rfl⟩
  ·obtain ⟨⟨T,n,g,z,l,rfl⟩,x,g1,g2,g3,g4⟩:=hnewOk q _ hq
   refine ⟨x,?_,g2,fun k hk=>hmine k (g3 k hk),g4⟩
   rw [hnew _ (Nat.le_add_right _ _),Nat.add_sub_cancel_left];exact g1
  ·obtain ⟨b1,a,h1,_,_,h4⟩:=hback j i hj
   rw [hb0] at h1;cases h1
   exact h4
  ·refine Jd hpr (fun x hx=> ?_) (Jc hle hpub (fun hp x hx hY=> ?_) (h.1.heap i b0 hS))
   ·rw [nd hm (hold i b0 hS)];exact hx
   ·obtain ⟨i',a,h1,h2,h3,h4⟩:=lS h.1 hi hY
    exact h.1.sep i i' b0 a x (fun e=>hm (e▸h1)) hS h2 hp h3 hx h4
 ·-- apart
  have hname: ∀i b,ak (gM S.nx 0 (fv (sg ids S.nx) Hnew)++gW S.H (prH (bz (eM S.H ids)) S.H) ids (fv (sg ids S.nx) Hout)) i=some b→aZ b=true→
    (∃(q:Nat) (bq:Blk),(cf (de ρ ids) 0 Hout++Hnew)[q]? =some bq∧ro2 ids S.nx ρ ρr i=ρr q∧i=sg ids S.nx q∧ ∀x,an ρr q=some x→(c.lend (cB ρ ids)).mine x)∨(i∉ids∧i<S.nx∧ ∃b0,ak S.H i=some b0∧aZ b0=true):=by
   intro i b hb hp
   have hm9: ∀q bq,(cf (de ρ ids) 0 Hout++Hnew)[q]? =some bq→aZ bq=true→ ∀x,an ρr q=some x→(c.lend (cB ρ ids)).mine x:=by
    intro q bq hq hpq x hx
    have hb:=hH.1 q bq hq
    cases bq with
    | var n g d=>obtain ⟨b,g1,g2,_⟩:=hb;simp only [an,g1,Option.some.injEq] at hx;subst hx;exact g2
    | lent b n g d=>obtain ⟨g1,g2,_⟩:=hb;simp only [an,g1,Option.some.injEq] at hx;subst hx;exact g2
    | own T n g z l=>obtain ⟨u,g1,g2,g3,_,a,cap,e,_⟩:=hb;rw [eF g1 e] at hx;exact g3 x hx
    | ownI T n g z l=>obtain ⟨u,g1,g2,g3,_,a,cap,e,_⟩:=hb;rw [eF g1 e] at hx;exact g3 x hx
    | kset g k' n l=>obtain ⟨r,g1,g2,_⟩:=hb;simp only [an,g1,blk,Option.some.injEq] at hx;subst hx;exact g2
    | pvar n g d=>cases hpq
    | pown n g z l=>cases hpq
   rcases hcase i b hb with ⟨q,b0,rfl,hq,rfl⟩|⟨j,b0,hj,hb0,rfl⟩|⟨hm,b0,hS,rfl⟩
   ·obtain ⟨⟨T,n,g,z,l,rfl⟩,_⟩:=hnewOk q b0 hq
    have hq':(cf (de ρ ids) 0 Hout++Hnew)[ids.length+q]? =some (.own T n g z l):=by
     rw [List.getElem?_append_right (by omega),hlO,Nat.add_sub_cancel_left];exact hq
    refine .inl ⟨ids.length+q,_,hq',?_,?_,hm9 _ _ hq' rfl⟩
    ·rw [hnew _ (Nat.le_add_right _ _),Nat.add_sub_cancel_left]
    ·simp only [sg,List.getElem?_eq_none (Nat.le_add_right _ _),Nat.add_sub_cancel_left]
   ·have hjl:=(List.getElem?_eq_some_iff.1 hj).1
    have hq':(cf (de ρ ids) 0 Hout++Hnew)[j]? =some (gp (de ρ ids j) b0):=by
     rw [List.getElem?_append_left (by omega),na,Nat.zero_add,hb0];rfl
    refine .inl ⟨j,_,hq',sk hd hj,by simp only [sg,hj],hm9 _ _ hq' ?_⟩
    obtain ⟨b1,a,h1,_,h3,_⟩:=hback j i hj
    rw [hb0] at h1;cases h1
    rcases h3 with ⟨h3,_⟩|⟨h3,_⟩<;>cases b0<;>simp only [jn,eL] at h3<;>rfl
   ·exact .inr ⟨hm,hold i b0 hS,b0,hS,by rw [I9] at hp;exact hp⟩
  intro i j bi bj x hij hbi hbj hpi hpj hx hx'
  rcases hname i bi hbi hpi with ⟨q,bq,hq,e,ei,hmq⟩|⟨hm,hl,b0,hS,hp0⟩<;>rcases hname j bj hbj hpj with ⟨q',bq',hq',e',ej,hmq'⟩|⟨hm',hl',b0',hS',hp0'⟩
  ·rw [blkOf_eq2 e] at hx
   rw [blkOf_eq2 e'] at hx'
   exact hH.2.2 q q' bq bq' x (fun eq=>hij (by rw [ei,ej,eq])) hq hq' hx hx'
  ·rw [blkOf_eq2 e] at hx
   rw [cP (nd hm' hl')] at hx'
   have hlt':=fk hp0' (h.1.heap j b0' hS') x hx'
   rcases hmq x hx with h1|h1
   ·have h1:c.w.heap.size≤x:=h1
    omega
   ·obtain ⟨i',a,h1,h2,h3,h4⟩:=lS h.1 hi h1
    exact h.1.sep i' j a b0' x (fun e=>hm' (e▸h1)) h2 hS' h3 hp0' h4 hx'
  ·rw [blkOf_eq2 e'] at hx'
   rw [cP (nd hm hl)] at hx
   have hlt':=fk hp0 (h.1.heap i b0 hS) x hx
   rcases hmq' x hx' with h1|h1
   ·have h1:c.w.heap.size≤x:=h1
    omega
   ·obtain ⟨i',a,h1,h2,h3,h4⟩:=lS h.1 hi h1
    exact h.1.sep i' i a b0 x (fun e=>hm (e▸h1)) h2 hS h3 hp0 h4 hx
  ·rw [cP (nd hm hl)] at hx
   rw [cP (nd hm' hl')] at hx'
   exact h.1.sep i j b0 b0' x hij hS hS' hp0 hp0' hx hx'
 ·intro i hi'
  simp only at hi'
  rw [hnew i (by omega)]
  exact hH.2.1 _ (by rw [List.length_append,hlO];omega)
where blkOf_eq2 {ρ ρ':Ro} {i j:Nat} (h:ρ' i=ρ j):an ρ' i=an ρ j:=by unfold an;rw [h]
theorem bR {f:FuncId} {caps vs:List V} {d:Option Nat} {ws:List V} {r:V} {Hin Hout Hnew:List Blk} (ids:List Nat) (hc:bG E f ws Hin r Hout Hnew) (hd:ids.Nodup) (hi:gw S.H ids ids Hin) (hm:mtL (gu S.H ids (vs++caps)) ws)
  (h:wfV r→aK E J k .normal (S.afterI ids Hout Hnew d r)):ir E J (some (.fn f caps)) (some vs) S d k:=by
 refine .inr ⟨hc.1,_,r,?_,h⟩
 intro c0 c ρ F us hs hus
 have hk:=hc.2.1
 simp only [Bool.and_eq_true] at hk
 have hrd:=ip hm (nb (ids:=ids) hs.1 hus)
 refine (show Calls E.P f us.toArray c.w _ from hc.2.2 (c.lend (cB ρ ids)) us (bZ ρ ids) (de ρ ids) (hs.1.gl.mono (c.pub_lend _)) (v6 hs.1 hd hi) (fH (c.pub_lend _) hrd)).mono ?_
 rintro e w' ⟨v,c',ρr,rfl,rfl,hle,hr,hH⟩
 exact ⟨v,c',_,rfl,rfl,Je hs hd hi hk.1 hk.2 hle hr hH d,jT hr⟩
theorem Au {c c':Cx} {n:Nat} {g:Bool}: ∀{l:List V} {cs:List Value},gc l→bp (rV ro0 n g) c cs l→bp (rV ro0 n g) c' cs l
 | [],_,_,h=>h
 | a::l,cs,hf,h=>by
  simp only [gc,bp] at hf h⊢
  obtain ⟨c1,c2,e,⟨h1,h2⟩,h3⟩:=h
  exact ⟨c1,c2,e,⟨h1,oM hf.1 h2⟩,Au hf.2 h3⟩
theorem Av {α:Type} {f:α→V} (h: ∀x,dp (f x)): ∀{l:List α},gc (l.map f)
 | []=>trivial
 | a::l=>⟨h a,Av h⟩
section
variable {D:Dr} {m i:Nat} {ll:List Oper} {R:List (Nat×bk)}
theorem Jf {f:FuncId} {caps vs ws:List V} {d:Option Nat} {T n:Nat} {g:Bool} {z z':Option Bool} {l l':List V} (id:Nat) (hc:bG E f ws [.own T n g z l] (.own 0) [.own T n g z' l'] []) (hm:(bI D.ub i id&& !decide (id=S.nx))=true) (hi:gw S.H [id] [id] [.own T n g z l]) (ha:mtL (gu S.H [id] (vs++caps)) ws) (hfl:gc l')
  (h:bV E D m (i+1) ll ((i,⟨d,.own S.nx,some (S.nx,.own T n g z' l')⟩)::R)):gm E D m i ll R d S (some (.fn f caps)) (some vs):=by
 obtain ⟨hlen,hget⟩:=nc hi
 obtain ⟨b0,hb0,hp0,_⟩:=pb (hget 0 id _ rfl rfl)
 refine .inr (.inr ⟨hc.1,id,T,n,g,z',l',hm,⟨b0,hb0,hp0⟩,fun c0 c ρ F us hs hus=> ?_,h⟩)
 have hrd:=ip ha (nb (ids:=[id]) hs hus)
 refine (show Calls E.P f us.toArray c.w _ from hc.2.2 (c.lend (cB ρ [id])) us (bZ ρ [id]) (de ρ [id]) (hs.gl.mono (c.pub_lend _)) (v6 hs (by simp) hi) (fH (c.pub_lend _) hrd)).mono ?_
 rintro e w' ⟨v,c',ρr,rfl,rfl,hle,hr,hH⟩
 obtain ⟨v',e1,hown,hge,hone,a,cap,es,hz⟩:=hH.1 0 _ rfl
 simp only [rd] at hr
 have ev:v'=v:=by rw [hr.1] at e1;exact (Option.some.inj e1).symm
 subst ev
 have hY: ∀k,k∈cB ρ [id]↔an ρ id=some k:=by
  intro k
  simp only [cB,List.mem_filterMap,List.mem_singleton]
  exact ⟨fun ⟨i,hi,hb⟩=>hi▸hb,fun hb=>⟨id,rfl,hb⟩⟩
 have hYlt: ∀k,k∈cB ρ [id]→k<c.w.heap.size:=fun k hk=>fk hp0 (hs.heap id b0 hb0) k ((hY k).1 hk)
 have hYX: ∀k,k∈cB ρ [id]→k∈c.X:=by
  intro k hk
  obtain ⟨i',a,h1,h2,h3,h4⟩:=lS hs hi hk
  have hb:=hs.heap i' a h2
  cases a with
  | var n g d=>obtain ⟨b,g1,_,g3⟩:=hb;simp only [an,g1,Option.some.injEq] at h4;subst h4;exact g3.1
  | lent b n g d=>obtain ⟨g1,_,g3⟩:=hb;simp only [an,g1,Option.some.injEq] at h4;subst h4;exact g3.1
  | own T n g z l=>obtain ⟨u,g1,g2,_,_,a,cap,e,_⟩:=hb;rw [eF g1 e] at h4;exact g2.isX k h4
  | ownI T n g z l=>obtain ⟨u,g1,g2,_,_,a,cap,e,_⟩:=hb;rw [eF g1 e] at h4;exact g2.isX k h4
  | kset g k' n l=>obtain ⟨r,g1,_,g3⟩:=hb;simp only [an,g1,blk,Option.some.injEq] at h4;subst h4;exact g3.1
  | pvar n g d=>cases h3
  | pown n g z l=>cases h3
 refine ⟨v',{X:=cB ρ [id]++c'.X,w:=c'.w,ok:=fun k hk=> ?_},rfl,rfl,⟨hle.below.os,hle.below.tape,hle.below.output,hle.below.size,fun k hk hne=>hle.below.block k hk (fun hy=>hne ((hY k).1 hy)),fun k hk=> ?_,fun k hk=>hYX k ((hY k).2 hk)⟩,⟨hown.1,?_⟩,fun k hk=> ?_,hone,a,cap,es,hz⟩
 ·rcases List.mem_append.1 hk with hk|hk
  ·exact Nat.lt_of_lt_of_le (hYlt k hk) hle.below.size
  ·exact c'.ok k hk
 ·simp only [List.mem_append]
  by_cases hy:k∈cB ρ [id]
  ·exact ⟨fun _=>hYX k hy,fun _=> .inl hy⟩
  ·exact ⟨fun h'=>(hle.old k hk hy).1 (h'.resolve_left hy),fun h'=> .inr ((hle.old k hk hy).2 h')⟩
 ·rcases hown.2 with h'|⟨g',cp,cur,e,k1,k2,k3,k4,k5,k6⟩
  ·exact .inl h'
  ·exact .inr ⟨g',cp,cur,e,List.mem_append.2 (.inr k1),k2,k3,k4,k5,Au hfl k6⟩
 ·rcases hge k hk with h'|h'
  ·exact .inr h'
  ·exact .inl ((hY k).1 h')
theorem Aw {f:FuncId} {caps vs ws:List V} {d:Option Nat} {n:Nat} {g:Bool} {d0 d1 r:V} (id:Nat) {b0 b1:Blk} (hc:bG E f ws [.var n g d0] r [.var n g d1] []) (hb0:ak S.H id=some b0) (hb1:ix (some b0) (.var n g d1)=b1) (hm:bI D.ub i id=true) (hi:gw S.H [id] [id] [.var n g d0]) (ha:mtL (gu S.H [id] (vs++caps)) ws) (hpr:dU r) (hpd:dU d1)
  (h:bV E D m (i+1) ll ((i,⟨d,r,some (id,b1)⟩)::R)):gm E D m i ll R d S (some (.fn f caps)) (some vs):=by
 obtain ⟨hlen,hget⟩:=nc hi
 have hin:=hget 0 id _ rfl rfl
 rw [hb0] at hin
 have hk:aZ b1=true:=by
  subst hb1
  cases b0<;>rfl
 refine .inr (.inl ⟨hc.1,r,id,b1,hm,hk,⟨b0,hb0,?_⟩,fun c0 c ρ F us hs hus=> ?_,h⟩)
 ·obtain ⟨a,e,h1,_⟩:=pb hin
  cases e;exact h1
 have hrd:=ip ha (nb (ids:=[id]) hs hus)
 refine (show Calls E.P f us.toArray c.w _ from hc.2.2 (c.lend (cB ρ [id])) us (bZ ρ [id]) (de ρ [id]) (hs.gl.mono (c.pub_lend _)) (v6 hs (by simp) hi) (fH (c.pub_lend _) hrd)).mono ?_
 rintro e w' ⟨v,c',ρr,rfl,rfl,hle,hr,hH⟩
 obtain ⟨e1,hmi,hv1,T,cs,g4,g5,g6⟩:=hH.1 0 _ rfl
 have hblk:=hs.heap id b0 hb0
 have key: ∃k,ρ id=some (.pointer (some ⟨k,0,none⟩))∧c0.mine k∧k∈c.X∧(∀q,b0= .lent q n g d0→True):=by
  cases b0 with
  | var n' g' d'=>
   obtain ⟨b,h1,h2,h3⟩:=hblk
   exact ⟨b,h1,h2,h3.1,fun _ _=>trivial⟩
  | lent q n' g' d'=>
   obtain ⟨h1,h2,h3⟩:=hblk
   exact ⟨_,h1,h2,h3.1,fun _ _=>trivial⟩
  | _=>simp only [inO] at hin
 obtain ⟨k,hk1,hk2,hk3,_⟩:=key
 have hbo:an ρ id=some k:=by simp [an,hk1]
 have hK:de ρ [id] 0=k:=by simp [de,hbo]
 rw [hK] at e1 hmi hv1 g4
 have hY: ∀q,q∈cB ρ [id]↔q=k:=by
  intro q
  simp only [cB,List.mem_filterMap,List.mem_singleton]
  constructor
  ·rintro ⟨i,rfl,hb⟩;rw [hbo] at hb;exact (Option.some.inj hb).symm
  ·rintro rfl;exact ⟨id,rfl,hbo⟩
 refine ⟨v,c',rfl,rfl,⟨hle.below.os,hle.below.tape,hle.below.output,hle.below.size,fun q hq hne=>hle.below.block q hq (fun hy=>hne (by rw [hbo,(hY q).1 hy])),fun q hq=> ?_,fun q hq=> ?_⟩,?_,j4 hpr hr⟩
 ·by_cases hq':q=k
  ·subst hq';exact ⟨fun _=>hk3,fun _=>hv1⟩
  ·exact hle.old q hq (fun hy=>hq' ((hY q).1 hy))
 ·rw [hbo] at hq;cases hq;exact hk3
 ·have hvar:Var c' k (rV ρ n g) d1:=⟨hv1,T,cs,g4,g5,j4 hpd g6⟩
  subst hb1
  cases b0 with
  | var n' g' d'=>exact ⟨k,hk1,hk2,hvar⟩
  | lent q n' g' d'=>
   obtain ⟨h1,_⟩:=hblk
   rw [hk1] at h1
   cases h1
   exact ⟨hk1,hk2,hvar⟩
  | _=>simp only [inO] at hin
end
def sm (E:Env) (S:St) (ks:Nat→Nat) (v r:V) (Hout Hnew:List Blk):Prop:=
 ∀c0 c ρ F u,bl E c0 c ρ S F→rd ρ c v u→ ∃c1 ρ1,c1.w=c.w∧c0.leY c1∧rd ρ1 c1 r u∧o_ c0 c1 ρ1 (cf ks 0 Hout++Hnew)
def pc (E:Env) (rs:List ResultVar) (ks:Nat→Nat) (r:V) (Hout Hnew:List Blk):Exit→St→Prop
 | .ret,S=>match gi E.tb S rs with
  | some vs=>sm E S ks (fq vs) r Hout Hnew
  | none=>False
 | .normal,S=>match gi E.tb S rs with
  | some vs=>sm E S ks (fq vs) r Hout Hnew
  | none=>False
 | _,_=>False
def v7 (E:Env) (S:St) (ks:Nat→Nat) (r:V) (Hout Hnew:List Blk):Option (List V)→Prop
 | some vs=>sm E S ks (fq vs) r Hout Hnew
 | none=>False
theorem Jg {rs:List ResultVar} {ks:Nat→Nat} {r:V} {Hout Hnew:List Blk}:pc E rs ks r Hout Hnew .ret S=v7 E S ks r Hout Hnew (gi E.tb S rs):=Eq.trans rfl rfl
theorem Jh {rs:List ResultVar} {ks:Nat→Nat} {r:V} {Hout Hnew:List Blk}:pc E rs ks r Hout Hnew .normal S=v7 E S ks r Hout Hnew (gi E.tb S rs):=Eq.trans rfl rfl
def lT (H:List (Nat×Blk)) (ids:List Nat):Option Blk→Blk→Prop
 | some (.own T n g z l),.own T' n' g' z' l'=>T=T'∧n=n'∧g=g'∧mtZ z z'∧mtL l l'
 | some (.lent k n g d),.lent k' n' g' d'=>k=k'∧n=n'∧g=g'∧mt (fu H ids d) d'
 | _,_=>False
def kr (H:List (Nat×Blk)) (ids:List Nat):List Nat→List Blk→Prop
 | [],[]=>True
 | i::l,b::m=>lT H ids (ak H i) b∧kr H ids l m
 | _,_=>False
theorem Ax {H:List (Nat×Blk)} {ids:List Nat}: ∀{l:List Nat} {m:List Blk},kr H ids l m→l.length=m.length∧ ∀(j i:Nat) (b:Blk),l[j]? =some i→m[j]? =some b→lT H ids (ak H i) b
 | [],[],_=>⟨rfl,by simp⟩
 | i::l,b::m,h=>by
  simp only [kr] at h
  obtain ⟨h1,h2⟩:=Ax h.2
  refine ⟨by simp [h1],fun j i' b' hi hb=> ?_⟩
  cases j with
  | zero=>simp at hi hb;subst hi hb;exact h.1
  | succ j=>exact h2 j i' b' (by simpa using hi) (by simpa using hb)
 | [],_::_,h=>by simp [kr] at h
 | _::_,[],h=>by simp [kr] at h
theorem Ji {H:List (Nat×Blk)} {ids:List Nat} {o:Option Blk} {b:Blk} (h:lT H ids o b): ∃a,o=some a∧aZ a=true:=by
 unfold lT at h
 split at h
 ·exact ⟨_,rfl,rfl⟩
 ·exact ⟨_,rfl,rfl⟩
 ·exact h.elim
def Cx.giveI (c0 c:Cx) (L:List Nat) (h0:c0.w.heap.size≤c.w.heap.size) (h: ∀k∈L,k<c.w.heap.size):Cx:=
 {X:=c0.X.filter (fun k=>k∉c0.Y)++L,w:=c.w,ok:=fun k hk=>(by
  rcases List.mem_append.1 hk with hk|hk
  ·exact Nat.lt_of_lt_of_le (c0.ok k (List.mem_filter.1 hk).1) h0
  ·exact h k hk)}
theorem Jj {c0 c:Cx} {L:List Nat} {h0:c0.w.heap.size≤c.w.heap.size} {h: ∀k∈L,k<c.w.heap.size} {x:Nat}:x∈(Cx.giveI c0 c L h0 h).X↔(x∈c0.X∧x∉c0.Y)∨x∈L:=by
 simp [Cx.giveI]
theorem Jk {ks:Nat→Nat} {v r:V} {Hout Hnew:List Blk} (ids:List Nat) (ho:kr S.H ids ids (cf ks 0 Hout++Hnew)) (hd:ids.Nodup) (hm:mt (fu S.H ids v) r):sm E S ks v r Hout Hnew:=by
 intro c0 c ρ F u h hr
 obtain ⟨hlen,hget⟩:=Ax ho
 have hpriv: ∀i∈ids,∃a,ak S.H i=some a∧aZ a=true:=by
  intro i hi
  obtain ⟨j,hj,e⟩:=List.getElem_of_mem hi
  exact Ji (hget j i (cf ks 0 Hout++Hnew)[j] (by rw [List.getElem?_eq_getElem hj,e]) (List.getElem?_eq_getElem (by omega)))
 have hL: ∀x∈ids.filterMap (an ρ),x<c.w.heap.size∧c0.mine x∧x∈c.X∧ ∃i∈ids,an ρ i=some x:=by
  intro x hx
  obtain ⟨i,hi,hb⟩:=List.mem_filterMap.1 hx
  obtain ⟨a,h1,h2⟩:=hpriv i hi
  refine ⟨fk h2 (h.1.heap i a h1) x hb,il h.1 h1 h2 x hb,?_,i,hi,hb⟩
  have hbk:=h.1.heap i a h1
  cases a with
  | var n g d=>obtain ⟨b,g1,_,g3⟩:=hbk;simp only [an,g1,Option.some.injEq] at hb;subst hb;exact g3.1
  | lent b n g d=>obtain ⟨g1,_,g3⟩:=hbk;simp only [an,g1,Option.some.injEq] at hb;subst hb;exact g3.1
  | own T n g z l=>obtain ⟨u,g1,g2,_,_,a,cap,e,_⟩:=hbk;rw [eF g1 e] at hb;exact g2.isX x hb
  | ownI T n g z l=>obtain ⟨u,g1,g2,_,_,a,cap,e,_⟩:=hbk;rw [eF g1 e] at hb;exact g2.isX x hb
  | kset g k' n l=>obtain ⟨r,g1,_,g3⟩:=hbk;simp only [an,g1,blk,Option.some.injEq] at hb;subst hb;exact g3.1
  | pvar n g d=>cases h2
  | pown n g z l=>cases h2
 generalize hc1:Cx.giveI c0 c (ids.filterMap (an ρ)) h.1.since.size (fun k hk=>(hL k hk).1)=c1
 have hw:c1.w=c.w:=by subst hc1;rfl
 have hX: ∀x,x∈c1.X↔(x∈c0.X∧x∉c0.Y)∨x∈ids.filterMap (an ρ):=by subst hc1;intro x;exact Jj
 have hpub:c.pub c1:=by
  refine ⟨by rw [hw];exact Nat.le_refl _,fun k hk hx=>⟨fun h'=> ?_,by rw [hw];exact fun _ h _=>h⟩⟩
  rcases (hX k).1 h' with h'|h'
  ·exact hx (h.1.since.X k h'.1 h'.2)
  ·exact hx (hL k h').2.2.1
 have hle:c0.leY c1:=by
  refine ⟨by rw [hw];exact h.1.since.below,fun k hk hy=>⟨fun h'=> ?_,fun h'=>(hX k).2 (.inl ⟨h',hy⟩)⟩⟩
  rcases (hX k).1 h' with h'|h'
  ·exact h'.1
  ·rcases (hL k h').2.1 with h1|h1
   ·omega
   ·exact absurd h1 hy
 have hn: ∀i b,i∉ids→ak S.H i=some b→aZ b=true→ ∀k,an ρ i=some k→k∉c1.X:=by
  intro i b hi hb hp k hk hmem
  rcases (hX k).1 hmem with h'|h'
  ·rcases il h.1 hb hp k hk with h1|h1
   ·have:=c0.ok k h'.1;omega
   ·exact h'.2 h1
  ·obtain ⟨_,_,_,j,hj,hb'⟩:=hL k h'
   obtain ⟨a,h1,h2⟩:=hpriv j hj
   exact h.1.sep i j b a k (fun e=>hi (e▸hj)) hb h1 hp h2 hk hb'
 refine ⟨c1,bZ ρ ids,hw,hle,eG hm (o7 hw hpub h.1 hn hr),?_,?_,?_⟩
 ·intro q b hq
  have hql:q<ids.length:=by rw [hlen];exact (List.getElem?_eq_some_iff.1 hq).1
  obtain ⟨i,hi⟩: ∃i,ids[q]? =some i:=⟨_,List.getElem?_eq_getElem hql⟩
  have ho':=hget q i b hi hq
  have hmem:i∈ids:=List.mem_of_getElem? hi
  have hro:bZ ρ ids q=ρ i:=by simp only [bZ,hi]
  have hmemX: ∀x,an ρ i=some x→x∈c1.X:=fun x hx=>(hX x).2 (.inr (List.mem_filterMap.2 ⟨i,hmem,hx⟩))
  cases hS:ak S.H i with
  | none=>rw [hS] at ho';unfold lT at ho';exact ho'.elim
  | some a=>
   have hbk:=h.1.heap i a hS
   rw [hS] at ho'
   unfold lT at ho'
   split at ho'
   ·rename_i T n g z l T' n' g' z' l' e
    cases e
    obtain ⟨rfl,rfl,rfl,hz,hml⟩:=ho'
    obtain ⟨x,h1,h2,h3,h4,a,cap,e,h5⟩:=hbk
    refine ⟨x,hro.trans h1,Ap ⟨h2.1,?_⟩ hml,h3,h4,a,cap,by rw [←ka hml];exact e,lz hz h5⟩
    rcases h2.2 with h'|⟨g',cp,cur,e2,k1,k2,k3,k4,k5,k6⟩
    ·exact .inl h'
    ·exact .inr ⟨g',cp,cur,e2,hmemX g' (by rw [eF h1 e,e2];rfl),by rw [hw];exact k2,k3,k4,k5,c7 hpub k6⟩
   ·rename_i k n g d k' n' g' d' e
    cases e
    obtain ⟨rfl,rfl,rfl,hm⟩:=ho'
    obtain ⟨h1,h2,h3,T,cs,h4,h5,h6⟩:=hbk
    exact ⟨hro.trans h1,h2,hmemX k (by simp [an,h1]),T,cs,by rw [hw];exact h4,h5,eG hm (o7 hw hpub h.1 hn h6)⟩
   ·exact ho'.elim
 ·intro q hq
  simp only [bZ]
  rw [List.getElem?_eq_none (by omega)]
 ·intro q q' bq bq' x hne hq hq' hk hk'
  have get: ∀{q:Nat} {b:Blk},(cf ks 0 Hout++Hnew)[q]? =some b→ ∃i a,ids[q]? =some i∧ak S.H i=some a∧aZ a=true:=by
   intro q b hq
   have hql:q<ids.length:=by rw [hlen];exact (List.getElem?_eq_some_iff.1 hq).1
   have hi:ids[q]? =some ids[q]:=List.getElem?_eq_getElem hql
   obtain ⟨a,h1,h2⟩:=hpriv ids[q] (List.getElem_mem hql)
   exact ⟨_,a,hi,h1,h2⟩
  obtain ⟨i,a,g1,g2,g3⟩:=get hq
  obtain ⟨i',a',g1',g2',g3'⟩:=get hq'
  have hii:i≠i':=by
   rintro rfl
   exact hne (o8 hd g1 g1')
  rw [blkOf_eq3 (show bZ ρ ids q=ρ i by simp only [bZ,g1])] at hk
  rw [blkOf_eq3 (show bZ ρ ids q'=ρ i' by simp only [bZ,g1'])] at hk'
  exact h.1.sep i i' a a' x hii g2 g2' g3 g3' hk hk'
where blkOf_eq3 {ρ ρ':Ro} {i j:Nat} (h:ρ' i=ρ j):an ρ' i=an ρ j:=by unfold an;rw [h]
theorem bm {ks:Nat→Nat} {vs:List V} {r:V} {Hout Hnew:List Blk} (ids:List Nat) (ho:kr S.H ids ids (cf ks 0 Hout++Hnew)) (hd:ids.Nodup) (hm:mt (fu S.H ids (fq vs)) r):v7 E S ks r Hout Hnew (some vs):=Jk ids ho hd hm
def lU:Nat→List Blk→List (Nat×Blk)
 | _,[]=> []
 | i,b::l=>(i,b)::lU (i+1) l
theorem v8: ∀{l:List Blk} {i t:Nat},ak (lU i l) t=if i≤t then l[t - i]? else none
 | [],i,t=>by simp [lU,ak]
 | v::l,i,t=>by
  simp only [lU,ak,v8]
  by_cases h:i=t
  ·subst h;simp
  ·rw [if_neg h]
   by_cases h1:i≤t
   ·rw [if_pos h1,if_pos (by omega)]
    have:t - i=(t - (i+1))+1:=by omega
    rw [this,List.getElem?_cons_succ]
   ·rw [if_neg h1,if_neg (by omega)]
def wfB:Blk→Prop
 | .var _ _ d=>wfV d
 | .own _ _ _ _ l=>l.length≤LEN∧wfL l
 | _=>True
def pd:List Blk→Prop
 | []=>True
 | b::l=>wfB b∧pd l
theorem Ay: ∀{l:List Blk},(∀(j:Nat) (b:Blk),l[j]? =some b→wfB b)→pd l
 | [],_=>trivial
 | b::l,h=>⟨h 0 b rfl,Ay fun j b' hb=>h (j+1) b' (by simpa using hb)⟩
theorem dY (hE:bn E) (hmo:E.P.follows .mixedOrders=true) {f:FuncId} {fn:Func} {code:Code} {ws:List V} {r:V} {Hin Hout Hnew:List Blk} {n:Nat} (J:cq) (hf:E.P.funcs[f]? =some fn) (hb:fn.body=some code) (hnt:fn.ntmps=n)
  (hsl:(ew n code&&decide (ws.length≤n)&& !(fn.name== "runtime.NumGoroutine"))=true) (hkn:(iw Hin Hout&&lR Hnew)=true)
  (h: ∀ks:Nat→Nat,wfL ws→pd Hin→wpA E J code (pc E fn.results.toList ks r Hout Hnew) ⟨gj 0 ws,lU 0 (cf ks 0 Hin),Hin.length⟩):bG E f ws Hin r Hout Hnew:=by
 simp only [Bool.and_eq_true,Bool.not_eq_true',decide_eq_true_eq] at hsl
 refine ⟨fun aas w=> ?_,hkn,fun c us ρ0 ks hg hin hus=> ?_⟩
 ·have hn: ¬fn.name= "runtime.NumGoroutine" :=by simpa using hsl.2
  simp [callFunc,hf,hb,hn]
 have hlen:us.length=ws.length:=by
  have: ∀{l:List V} {cs:List Value},rdT ρ0 c l cs→cs.length=l.length:=by
   intro l
   induction l with
   | nil=>intro cs hc;simp only [rdT] at hc;subst hc;rfl
   | cons d l ih=>
    intro cs hc
    simp only [rdT] at hc
    obtain ⟨u,c2,rfl,_,h3⟩:=hc
    simp [ih h3]
  exact this hus
 have hwfB:pd Hin:=by
  refine Ay fun j b hb=> ?_
  have h1:=hin.1 j (gp (ks j) b) (by rw [na,Nat.zero_add,hb];rfl)
  cases b with
  | var n g d=>
   obtain ⟨_,_,_,T,cs,_,_,h6⟩:=h1
   exact jT h6
  | own T n g z l=>
   obtain ⟨v,_,h2,_⟩:=h1
   refine ⟨h2.1,?_⟩
   rcases h2.2 with ⟨_,_,rfl⟩|⟨g',cp,cur,e2,k1,k2,k3,k4,k5,k6⟩
   ·trivial
   ·exact ue (fI.2 k6)
  | _=>trivial
 have hall:=h ks (jU hus) hwfB
 refine (callsIn_wide (n:=1)).1 (callsIn_of_wp_marks hf hb trivial ?_ rfl)
 have hfr:Fr (mo:=tG) n (fun t=>(us.toArray++Array.replicate (n - us.toArray.size) undef).getD t undef) {tmps:=us.toArray++Array.replicate (fn.ntmps - us.toArray.size) undef,defers:=[]}:=by
  refine Fr.of ?_ rfl fun t=>by rw [hnt]
  simp [hnt];omega
 have hS:bl E c c ρ0 ⟨gj 0 ws,lU 0 (cf ks 0 Hin),Hin.length⟩ (fun t=>(us.toArray++Array.replicate (n - us.toArray.size) undef).getD t undef):=by
  refine ⟨⟨cn.refl c,hg,?_,?_,?_⟩,fun i hi=>hin.2.1 i (by rw [sf];exact hi)⟩
  ·intro t v ht
   rw [rM] at ht
   simp only [Nat.zero_le,if_true,Nat.sub_zero] at ht
   obtain ⟨u,hu,hr⟩:=rm hus ht
   have hlt:t<us.length:=(List.getElem?_eq_some_iff.1 hu).1
   have:(us.toArray++Array.replicate (n - us.toArray.size) undef).getD t undef=u:=by
    have he:us[t]=u:=by simpa [List.getElem?_eq_getElem hlt] using hu
    simp [Array.getD_eq_getD_getElem?,Array.getElem?_append,hlt,he]
   rw [this];exact hr
  ·intro i b hb
   rw [v8] at hb
   simp only [Nat.zero_le,if_true,Nat.sub_zero] at hb
   exact hin.1 i b hb
  ·intro i j bi bj x hij hbi hbj _ _ hx
   rw [v8] at hbi hbj
   simp only [Nat.zero_le,if_true,Nat.sub_zero] at hbi hbj
   exact hin.2.2 i j bi bj x hij hbi hbj hx
 refine rI hE hmo code none _ c _ _ hsl.1.1 (.inl ⟨rfl,rfl⟩) ?_ c ρ0 _ _ _ [] hS hfr trivial hall
 rintro e a w ⟨c',ρ',S',F',ds,rfl,hS,hf',hd,hk⟩
 cases e with
 | ret=>
  simp only [pc] at hk
  split at hk
  ·rename_i vs hvs
   show LeavesInM _ _ _ _ _ _ a.defers .returning c'.w
   rw [hf'.df]
   refine oU hS hd fun c2 hS2=> ?_
   obtain ⟨u,hu,hr⟩:=rL hE hS2.1 hf' rfl hvs
   obtain ⟨c1,ρ1,e1,hle,hr1,hH⟩:=hk c c2 ρ' F' u hS2 hr
   exact ⟨u,hu,u,c1,ρ1,rfl,e1,hle,hr1,hH⟩
  ·exact hk.elim
 | normal=>
  simp only [pc] at hk
  split at hk
  ·rename_i vs hvs
   show LeavesInM _ _ _ _ _ _ a.defers .returning c'.w
   rw [hf'.df]
   refine oU hS hd fun c2 hS2=> ?_
   obtain ⟨u,hu,hr⟩:=rL hE hS2.1 hf' rfl hvs
   obtain ⟨c1,ρ1,e1,hle,hr1,hH⟩:=hk c c2 ρ' F' u hS2 hr
   exact ⟨u,hu,u,c1,ρ1,rfl,e1,hle,hr1,hH⟩
  ·exact hk.elim
 | _=>exact hk.elim
end
end Go.Proofs.YtgealhhkngbkbaaGreatDoor
namespace Go.Proofs.YtgealhhkngbkbaaGreatDoor
open Go.RowKit
attribute [go_sem] St.afterI prF prV prL prH prB eM eM.ownI1 sg gW ix fv iv ren jm cf gp lU gw inO kr lT inV gu Jg Jh gM cond_true cond_false Nat.sub_self List.getElem?_nil Nat.reduceSub
theorem Az {c:Cx} {ρ:Ro} {n:Nat} {g:Bool} {post:List V} (h0:ρ 0=some (.slice none 0 0)): ∀{pre:List V} {us:List Value},rdT ro0 c (pre++ .sl (some true) n g []::post) us→rdT ρ c (pre++ .own 0::post) us
 | [],us,h=>by
  simp only [List.nil_append,rdT] at h⊢
  obtain ⟨u,c2,e,h1,h2⟩:=h
  have e2:u= .slice none 0 0:=by
   simp only [rd,zOk] at h1
   obtain ⟨a,cap,e,_,⟨rfl,rfl⟩,_⟩:=h1
   exact e
  subst e2
  refine ⟨_,c2,e,?_,?_⟩
  ·simp only [rd];exact ⟨h0,rfl⟩
  ·exact ov (fun i v hi=>(si hi).elim) h2
 | d::pre,us,h=>by
  simp only [List.cons_append,rdT] at h⊢
  obtain ⟨u,c2,e,h1,h2⟩:=h
  exact ⟨u,c2,e,dl (fun i v hi=>(si hi).elim) h1,Az h0 h2⟩
theorem Jl {E:Env} {f:FuncId} {pre post:List V} {T n:Nat} {g:Bool} {r:V} {Hout Hnew:List Blk} (h:bG E f (pre++ .own 0::post) [.own T n g (some true) []] r Hout Hnew) (hone:g=false→n=1):aE E f (pre++ .sl (some true) n g []::post) r (Hout++Hnew):=by
 refine ⟨h.1,fun c us hY hg hus=> ?_⟩
 have hk:=h.2.1
 simp only [Bool.and_eq_true] at hk
 obtain ⟨hkl,hkk⟩:=vX hk.1
 have hall: ∀(q:Nat) (b:Blk),Hout[q]? =some b→eL b:=by
  intro q b hb
  have hq:q<1:=by have:=(List.getElem?_eq_some_iff.1 hb).1;simp at hkl;omega
  have e:q=0:=by omega
  subst e
  rcases hkk 0 _ b rfl hb with ⟨h1,_⟩|⟨_,h1⟩
  ·exact h1.elim
  ·exact h1
 have hlent: ∀{l:List Blk} {i:Nat},(∀(q:Nat) (b:Blk),l[q]? =some b→eL b)→cf (fun _=>0) i l=l:=by
  intro l
  induction l with
  | nil=>intro i _;rfl
  | cons b l ih=>
   intro i hb
   have h1:=hb 0 b rfl
   simp only [cf]
   rw [ih fun q b hq=>hb (q+1) b (by simpa using hq)]
   cases b<;>simp only [eL] at h1<;>rfl
 refine (h.2.2 c us (fun i=>if i=0 then some (.slice none 0 0) else none) (fun _=>0) hg ?_ (Az (by simp) hus)).mono ?_
 ·refine ⟨fun i b hb=> ?_,fun i hi=> ?_,fun i j bi bj k hij hi hj=> ?_⟩
  ·cases i with
   | zero=>
    simp [cf,gp] at hb;subst hb
    exact ⟨.slice none 0 0,by simp,Own.nil,fun k hk=>by simp [blk] at hk,hone,none,0,rfl,rfl,rfl⟩
   | succ i=>simp [cf] at hb
  ·have:i≠0:=by simp [cf] at hi;omega
   simp [this]
  ·cases i with
   | zero=>cases j with
    | zero=>exact absurd rfl hij
    | succ j=>simp [cf] at hj
   | succ i=>simp [cf] at hi
 ·rintro e w' ⟨v,c',ρ,rfl,rfl,hle,hr,hH⟩
  rw [hlent hall] at hH
  refine ⟨v,c',ρ,rfl,rfl,hle.le hY,hr,fun i b hb=>⟨?_,hH.1 i b hb⟩,hH.2.1,hH.2.2⟩
  have hb':eL b:=by
   rcases Nat.lt_or_ge i Hout.length with h1|h1
   ·rw [List.getElem?_append_left h1] at hb;exact hall i b hb
   ·rw [List.getElem?_append_right h1] at hb;exact vY hk.2 _ b hb
  cases b<;>simp only [eL] at hb'
  exact .inl ⟨_,_,_,_,_,rfl⟩
end Go.Proofs.YtgealhhkngbkbaaGreatDoor
namespace Go.Proofs.YtgealhhkngbkbaaGreatDoor
open Go.RowKit
section
variable {E:Env}
end
end Go.Proofs.YtgealhhkngbkbaaGreatDoor
namespace Go.Proofs.YtgealhhkngbkbaaGreatDoor
open Go.RowKit
class CM (E:outParam Env) {α:Type} (m:α) (f:outParam FuncId) (ws:outParam (List V)) (R:outParam (α→V)) (Hs:outParam (α→List Blk)):Prop where
  ok:aE E f ws (R m) (Hs m)
class DRD (id:Nat) (n m:outParam Nat) (wr:outParam (List Nat)) (wl:outParam (List (Nat×Nat))) (need:outParam (List (List Nat))) (ub:outParam (List (Nat×Nat))):Prop where
  ok:True
class CF {α:Type} (m:α) (P:outParam (α→Prop)):Prop where
  ok:P m
theorem cfU {α:Type} {x m:α} {P:α→Prop} (hx:x=m) [h:CF m P]:P x:=by subst hx;exact h.ok
theorem mpQ {a b:Prop} (h:a) (f:a→b:=by assumption):b:=f h
section
variable {E:Env} {J:cq} {k:List Ct} {S:St} {α:Type} {f:FuncId} {ws:List V} {R:α→V} {Hs:α→List Blk}
theorem cmQ {m:α} (h: ∀r,m=r→aE E f ws (R r) (Hs r)):CM E m f ws R Hs:=⟨h m rfl⟩
theorem cmU {x m:α} (hx:x=m) [h:CM E m f ws R Hs]:aE E f ws (R x) (Hs x):=by subst hx;exact h.ok
theorem cmH {x m:α} (hx:x=m) (h:CM E m f ws R Hs):aE E f ws (R x) (Hs x):=by subst hx;exact h.ok
theorem lV {β:Type} {c:Bool} {a b r:β} (hM:(if c=true then a else b)=r) (h:c=true):a=r:=by rw [if_pos h] at hM;exact hM
theorem lW {β:Type} {c:Bool} {a b r:β} (hM:(if c=true then a else b)=r) (h:c=false):b=r:=by rw [if_neg (by rw [h];decide)] at hM;exact hM
theorem jo {r:Res} {d:Option Nat} (h:kd E J r S d k):kd E J r S d k:=h
theorem AA {v:Option V} {vs:Option (List V)} {d:Option Nat} (h:ir E J v vs S d k):ir E J v vs S d k:=h
theorem Jm {r:V} {H:List Blk} {o:Option (List V)} (h:lF E S r H o):lF E S r H o:=h
theorem lpP {K:St→Prop} (h:aK E J (.lp K::k) .normal S):aK E J (.lp K::k) .normal S:=h
theorem jp {id:Nat} {ops:Array Oper} (h:aK E J (.code (.region id ops true)::k) .normal S):aK E J (.code (.region id ops true)::k) .normal S:=h
theorem jq {id:Nat} {ops:Array Oper} {n m:Nat} {wr:List Nat} {wl:List (Nat×Nat)} {need:List (List Nat)} {ub:List (Nat×Nat)} [DRD id n m wr wl need ub] (hB:(wlB ops m wl&&jN n m ops wr need&&((List.range m).all fun i=>(need.getD i []).all fun j=>decide (j<i)))=true) (hU:ubB m need ub S.nx=true)
    (h:bV E ⟨J,S,wr,wl,need,ub,k⟩ m 0 ops.toList []):aK E J (.code (.region id ops true)::k) .normal S:=lG n m wr wl need ub hB hU h
section
variable {D:Dr} {m i:Nat} {l:List Oper} {L:List (Nat×bk)} {d:Option Nat}
theorem jr {nid:Nat} {r:Res} (h:ct E D m i l L d nid r):ct E D m i l L d nid r:=h
theorem AB {v:Option V} {vs:Option (List V)} (h:gm E D m i l L d S v vs):gm E D m i l L d S v vs:=h
end
theorem bW:True:=trivial
theorem js {a b:Int} (h:0≤a∧a≤9223372036854775807) (hb:0<b):bP .i64 a b=a/b:=by
  have h1:a.tdiv b=a/b:=Int.tdiv_eq_ediv_of_nonneg h.1
  have h2:0≤a/b:=Int.ediv_nonneg h.1 (by omega)
  have h3:a/b≤a:=Int.ediv_le_self _ h.1
  have:=dq (a:=a/b) (b:=0) (by omega) (by omega)
  unfold bP
  rw [h1]
  simpa [al] using this
theorem nf {a b:Int} (h:0≤a∧a≤9223372036854775807) (hb:0<b):aQ .i64 a b=a% b:=Int.tmod_eq_emod_of_nonneg h.1
theorem dZ {β:Type} [Inhabited β] {l:List β} {g:β→V} {i:Nat} (h:i<l.length) (d:V):elt (l.map g) i d=g (gt l (i:Int)):=cE (i:=(i:Int)) h d
end
theorem omA {P:Prop} (h:P:=by
  first
    | exact omQ
    | (clear hM;first
      | (have h9:=hA0 (by first|assumption|omega);exact am)
      | (have h9:=hA0 (by first|assumption|omega) (by first|assumption|omega);exact am)
      | (have h9:=hA0 (by first|assumption|omega) (by first|assumption|omega) (by first|assumption|omega);exact am)
      | (have h9:=hA0 (by first|assumption|omega) (by first|assumption|omega) (by first|assumption|omega) (by first|assumption|omega);exact am)
      | (have h9:=hA1 (by first|assumption|omega);exact am)
      | (have h9:=hA1 (by first|assumption|omega) (by first|assumption|omega);exact am)
      | (have h9:=hA1 (by first|assumption|omega) (by first|assumption|omega) (by first|assumption|omega);exact am))):P:=h
theorem omR {P:Prop} (h:P:=by
  first
    | exact am
    | (first
      | (have h9:=hA0 (by first|assumption|omega);exact am)
      | (have h9:=hA0 (by first|assumption|omega) (by first|assumption|omega);exact am)
      | (have h9:=hA0 (by first|assumption|omega) (by first|assumption|omega) (by first|assumption|omega);exact am)
      | (have h9:=hA0 (by first|assumption|omega) (by first|assumption|omega) (by first|assumption|omega) (by first|assumption|omega);exact am)
      | (have h9:=hA1 (by first|assumption|omega);exact am)
      | (have h9:=hA1 (by first|assumption|omega) (by first|assumption|omega);exact am)
      | (have h9:=hA1 (by first|assumption|omega) (by first|assumption|omega) (by first|assumption|omega);exact am))):P:=h
theorem auQ {P:Prop} (h:P:=by
  repeat' (first
    | ((first|(with_reducible refine bY ?_ ?_)|(with_reducible refine jf ?_ ?_)|(with_reducible refine ke ?_ ?_)|(with_reducible refine rS ?_ ?_)|(with_reducible refine kf ?_ ?_))<;>(intro h0;(first|replace hM:=lV hM h0|replace hM:=lW hM h0);replace hF:=And.intro h0 hF;replace h0:=nzQ h0;(try have h1:=mpQ h0);(first|refine au hF ?_|skip)))
    | (with_reducible refine jo ?_
       refine bF ?h9 ?_
       case h9=>exact omA
       first
         | (rw [cE ?h9];case h9=>exact omA)
         | (rw [dZ ?h9];case h9=>exact omA)
         | skip
       refine au hF ?_)
    | (with_reducible refine jr ?_
       first
         | (refine eX ?h9 ?_;case h9=>exact omA)
         | (refine jg ?h9 (ar hF) ?_;case h9=>exact omA)
         | (refine jh ?h9 (ar hF) ?_;case h9=>exact omA)
         | (refine jk ?h9 (ar hF) ?_;case h9=>exact omA)
         | (refine ji ?h9 (ar hF) ?_;case h9=>exact omA)
         | (refine jj ?h9 (ar hF) ?_;case h9=>exact omA)
       first
         | (rw [cE ?h9];case h9=>exact omA)
         | (rw [dZ ?h9];case h9=>exact omA)
         | skip
       refine au hF ?_)
    | (with_reducible refine AA ?_
       have hM0:=hM;clear hM;obtain ⟨x0,hx0,hM⟩:=ap hM0;clear hM0
       first
         | refine aJ (cmU hx0) (ar hF) (ar hF) (fun hw0=> ?_)
         | refine eW (cmU hx0) (ar hF) (ar hF) (fun hw0=> ?_)
       replace hw0:=nzQ hw0
       try have hq0:=nzQ (cfU hx0)
       refine au hF ?_)
    | (with_reducible refine AB ?_
       have hM0:=hM;clear hM;obtain ⟨x0,hx0,hM⟩:=ap hM0;clear hM0
       first
         | refine bN (cmU hx0) (ar hF) (ar hF) ?_
         | refine bN (aE.pub (cmU hx0)) (ar hF) (ar hF) ?_
         | refine zV (cmU hx0) (ar hF) (ar hF) ?_
       try have hq0:=nzQ (cfU hx0)
       refine au hF ?_)
    | (with_reducible refine jp ?_
       refine jq (by kernel_rfl) (by exact alQ) ?_
       refine au hF ?_)
    | (with_reducible refine Jm ?_
       subst hM
       exact cW (cQ hF))
    | (with_reducible refine lpP ?_
       refine aM ?_ _ ?h1 ?h2 ?h3 ⟨_,rfl,?h4,?h5,aL hM ?h6⟩
       case h6=>assumption
       case h1=>omega
       case h2=>first|exact sbQ|exact Ah (And.intro @kl (And.intro @km hF))
       case h3=>first|exact sbQ|exact Ah (And.intro @kl (And.intro @km hF))
       case h4=>first|trivial|exact omA|(repeat' (first|exact omA|apply And.intro))
       case h5=>exact omA))):P:=h
structure Hid (p:Prop):Prop where
  out:p
theorem slQ {P Q:Prop} (k:Q) (h:Hid Q→P:=by
  intro k hF hM
  (first|refine au hF ?_|skip)
  repeat (first
      | (with_reducible refine jo ?_
         refine bF ?h9 ?_
         case h9=>exact omA
         first
           | (rw [cE ?h9];case h9=>exact omA)
           | (rw [dZ ?h9];case h9=>exact omA)
           | skip
         refine au hF ?_)
      | (with_reducible refine jr ?_
         first
           | (refine eX ?h9 ?_;case h9=>exact omA)
           | (refine jg ?h9 (ar hF) ?_;case h9=>exact omA)
           | (refine jh ?h9 (ar hF) ?_;case h9=>exact omA)
           | (refine jk ?h9 (ar hF) ?_;case h9=>exact omA)
           | (refine ji ?h9 (ar hF) ?_;case h9=>exact omA)
           | (refine jj ?h9 (ar hF) ?_;case h9=>exact omA)
         first
           | (rw [cE ?h9];case h9=>exact omA)
           | (rw [dZ ?h9];case h9=>exact omA)
           | skip
         refine au hF ?_)
      | (with_reducible refine jp ?_
         refine jq (by kernel_rfl) (by exact alQ) ?_
         refine au hF ?_))
  revert hM;revert hF
  exact k.out):P:=h ⟨k⟩
theorem slA {A P Q:Prop} (a:A) (k:Q) (h:A→Hid Q→P:=by
  intro hA k hF hM
  replace hF:=And.intro hA hF
  (first|refine au hF ?_|skip)
  repeat (first
      | (with_reducible refine jo ?_
         refine bF ?h9 ?_
         case h9=>exact omA
         first
           | (rw [cE ?h9];case h9=>exact omA)
           | (rw [dZ ?h9];case h9=>exact omA)
           | skip
         refine au hF ?_)
      | (with_reducible refine jr ?_
         first
           | (refine eX ?h9 ?_;case h9=>exact omA)
           | (refine jg ?h9 (ar hF) ?_;case h9=>exact omA)
           | (refine jh ?h9 (ar hF) ?_;case h9=>exact omA)
           | (refine jk ?h9 (ar hF) ?_;case h9=>exact omA)
           | (refine ji ?h9 (ar hF) ?_;case h9=>exact omA)
           | (refine jj ?h9 (ar hF) ?_;case h9=>exact omA)
         first
           | (rw [cE ?h9];case h9=>exact omA)
           | (rw [dZ ?h9];case h9=>exact omA)
           | skip
         refine au hF ?_)
      | (with_reducible refine jp ?_
         refine jq (by kernel_rfl) (by exact alQ) ?_
         refine au hF ?_))
  revert hM;revert hF
  exact k.out):P:=h a ⟨k⟩
theorem bh {P:Prop} {α:Type} {H W V Q:α→Prop} (k: ∀x,H x→W x→V x→Q x) (h:Hid (∀x,H x→W x→V x→Q x)→P:=by
  intro k hF hM
  have hM0:=hM;clear hM;obtain ⟨x0,hx0,hM⟩:=ap hM0;clear hM0
  first
    | (with_reducible refine AA ?_
       first
         | refine aJ (cmU hx0) (ar hF) (ar hF) (fun hw0=> ?_)
         | refine eW (cmU hx0) (ar hF) (ar hF) (fun hw0=> ?_)
       replace hw0:=nzQ hw0
       try have hq0:=nzQ (cfU hx0)
       (first|refine au hF ?_|skip)
       repeat (first
           | (with_reducible refine jo ?_
              refine bF ?h9 ?_
              case h9=>exact omA
              first
                | (rw [cE ?h9];case h9=>exact omA)
                | (rw [dZ ?h9];case h9=>exact omA)
                | skip
              refine au hF ?_)
           | (with_reducible refine jr ?_
              first
                | (refine eX ?h9 ?_;case h9=>exact omA)
                | (refine jg ?h9 (ar hF) ?_;case h9=>exact omA)
                | (refine jh ?h9 (ar hF) ?_;case h9=>exact omA)
                | (refine jk ?h9 (ar hF) ?_;case h9=>exact omA)
                | (refine ji ?h9 (ar hF) ?_;case h9=>exact omA)
                | (refine jj ?h9 (ar hF) ?_;case h9=>exact omA)
              first
                | (rw [cE ?h9];case h9=>exact omA)
                | (rw [dZ ?h9];case h9=>exact omA)
                | skip
              refine au hF ?_)
           | (with_reducible refine jp ?_
              refine jq (by kernel_rfl) (by exact alQ) ?_
              refine au hF ?_))
       revert hM;revert hF
       first|exact k.out x0 hx0 hw0 hq0|exact k.out x0 hx0 hw0 trivial)
    | (with_reducible refine AB ?_
       first
         | refine bN (cmU hx0) (ar hF) (ar hF) ?_
         | refine bN (aE.pub (cmU hx0)) (ar hF) (ar hF) ?_
         | refine zV (cmU hx0) (ar hF) (ar hF) ?_
       try have hq0:=nzQ (cfU hx0)
       (first|refine au hF ?_|skip)
       repeat (first
           | (with_reducible refine jo ?_
              refine bF ?h9 ?_
              case h9=>exact omA
              first
                | (rw [cE ?h9];case h9=>exact omA)
                | (rw [dZ ?h9];case h9=>exact omA)
                | skip
              refine au hF ?_)
           | (with_reducible refine jr ?_
              first
                | (refine eX ?h9 ?_;case h9=>exact omA)
                | (refine jg ?h9 (ar hF) ?_;case h9=>exact omA)
                | (refine jh ?h9 (ar hF) ?_;case h9=>exact omA)
                | (refine jk ?h9 (ar hF) ?_;case h9=>exact omA)
                | (refine ji ?h9 (ar hF) ?_;case h9=>exact omA)
                | (refine jj ?h9 (ar hF) ?_;case h9=>exact omA)
              first
                | (rw [cE ?h9];case h9=>exact omA)
                | (rw [dZ ?h9];case h9=>exact omA)
                | skip
              refine au hF ?_)
           | (with_reducible refine jp ?_
              refine jq (by kernel_rfl) (by exact alQ) ?_
              refine au hF ?_))
       revert hM;revert hF
       first|exact k.out x0 hx0 trivial hq0|exact k.out x0 hx0 trivial trivial)):P:=h ⟨k⟩
theorem cdQ {P H1 N1 R1 Q1 H2 N2 R2 Q2:Prop} (k1:H1→N1→R1→Q1) (k2:H2→N2→R2→Q2) (h:Hid (H1→N1→R1→Q1)→Hid (H2→N2→R2→Q2)→P:=by
  intro k1 k2 hF hM
  (first|(with_reducible refine bY ?_ ?_)|(with_reducible refine jf ?_ ?_)|(with_reducible refine ke ?_ ?_)|(with_reducible refine rS ?_ ?_)|(with_reducible refine kf ?_ ?_))
  · intro h0
    (first|replace hM:=lV hM h0|replace hM:=lW hM h0)
    replace hF:=And.intro h0 hF
    have hn:=nzQ h0
    try have h1:=mpQ hn
    (first|refine au hF ?_|skip)
    repeat (first
        | (with_reducible refine jo ?_
           refine bF ?h9 ?_
           case h9=>exact omA
           first
             | (rw [cE ?h9];case h9=>exact omA)
             | (rw [dZ ?h9];case h9=>exact omA)
             | skip
           refine au hF ?_)
        | (with_reducible refine jr ?_
           first
             | (refine eX ?h9 ?_;case h9=>exact omA)
             | (refine jg ?h9 (ar hF) ?_;case h9=>exact omA)
             | (refine jh ?h9 (ar hF) ?_;case h9=>exact omA)
             | (refine jk ?h9 (ar hF) ?_;case h9=>exact omA)
             | (refine ji ?h9 (ar hF) ?_;case h9=>exact omA)
             | (refine jj ?h9 (ar hF) ?_;case h9=>exact omA)
           first
             | (rw [cE ?h9];case h9=>exact omA)
             | (rw [dZ ?h9];case h9=>exact omA)
             | skip
           refine au hF ?_)
        | (with_reducible refine jp ?_
           refine jq (by kernel_rfl) (by exact alQ) ?_
           refine au hF ?_))
    revert hM;revert hF
    first|exact k1.out h0 hn h1|exact k1.out h0 hn trivial
  · intro h0
    (first|replace hM:=lV hM h0|replace hM:=lW hM h0)
    replace hF:=And.intro h0 hF
    have hn:=nzQ h0
    try have h1:=mpQ hn
    (first|refine au hF ?_|skip)
    repeat (first
        | (with_reducible refine jo ?_
           refine bF ?h9 ?_
           case h9=>exact omA
           first
             | (rw [cE ?h9];case h9=>exact omA)
             | (rw [dZ ?h9];case h9=>exact omA)
             | skip
           refine au hF ?_)
        | (with_reducible refine jr ?_
           first
             | (refine eX ?h9 ?_;case h9=>exact omA)
             | (refine jg ?h9 (ar hF) ?_;case h9=>exact omA)
             | (refine jh ?h9 (ar hF) ?_;case h9=>exact omA)
             | (refine jk ?h9 (ar hF) ?_;case h9=>exact omA)
             | (refine ji ?h9 (ar hF) ?_;case h9=>exact omA)
             | (refine jj ?h9 (ar hF) ?_;case h9=>exact omA)
           first
             | (rw [cE ?h9];case h9=>exact omA)
             | (rw [dZ ?h9];case h9=>exact omA)
             | skip
           refine au hF ?_)
        | (with_reducible refine jp ?_
           refine jq (by kernel_rfl) (by exact alQ) ?_
           refine au hF ?_))
    revert hM;revert hF
    first|exact k2.out h0 hn h1|exact k2.out h0 hn trivial):P:=h ⟨k1⟩ ⟨k2⟩
theorem aT {P H2 N2 R2 Q2:Prop} (k2:H2→N2→R2→Q2) (h:Hid (H2→N2→R2→Q2)→P:=by
  intro k2 hF hM
  (first|(with_reducible refine bY ?_ ?_)|(with_reducible refine jf ?_ ?_)|(with_reducible refine ke ?_ ?_)|(with_reducible refine rS ?_ ?_)|(with_reducible refine kf ?_ ?_))
  · clear k2
    intro h0
    (first|replace hM:=lV hM h0|replace hM:=lW hM h0)
    replace hF:=And.intro h0 hF
    replace h0:=nzQ h0
    (try have h1:=mpQ h0)
    (first|refine au hF ?_|skip)
    exact auQ
  · intro h0
    (first|replace hM:=lV hM h0|replace hM:=lW hM h0)
    replace hF:=And.intro h0 hF
    have hn:=nzQ h0
    try have h1:=mpQ hn
    (first|refine au hF ?_|skip)
    repeat (first
        | (with_reducible refine jo ?_
           refine bF ?h9 ?_
           case h9=>exact omA
           first
             | (rw [cE ?h9];case h9=>exact omA)
             | (rw [dZ ?h9];case h9=>exact omA)
             | skip
           refine au hF ?_)
        | (with_reducible refine jr ?_
           first
             | (refine eX ?h9 ?_;case h9=>exact omA)
             | (refine jg ?h9 (ar hF) ?_;case h9=>exact omA)
             | (refine jh ?h9 (ar hF) ?_;case h9=>exact omA)
             | (refine jk ?h9 (ar hF) ?_;case h9=>exact omA)
             | (refine ji ?h9 (ar hF) ?_;case h9=>exact omA)
             | (refine jj ?h9 (ar hF) ?_;case h9=>exact omA)
           first
             | (rw [cE ?h9];case h9=>exact omA)
             | (rw [dZ ?h9];case h9=>exact omA)
             | skip
           refine au hF ?_)
        | (with_reducible refine jp ?_
           refine jq (by kernel_rfl) (by exact alQ) ?_
           refine au hF ?_))
    revert hM;revert hF
    first|exact k2.out h0 hn h1|exact k2.out h0 hn trivial):P:=h ⟨k2⟩
theorem aC {P H1 N1 R1 Q1:Prop} (k1:H1→N1→R1→Q1) (h:Hid (H1→N1→R1→Q1)→P:=by
  intro k1 hF hM
  (first|(with_reducible refine bY ?_ ?_)|(with_reducible refine jf ?_ ?_)|(with_reducible refine ke ?_ ?_)|(with_reducible refine rS ?_ ?_)|(with_reducible refine kf ?_ ?_))
  · intro h0
    (first|replace hM:=lV hM h0|replace hM:=lW hM h0)
    replace hF:=And.intro h0 hF
    have hn:=nzQ h0
    try have h1:=mpQ hn
    (first|refine au hF ?_|skip)
    repeat (first
        | (with_reducible refine jo ?_
           refine bF ?h9 ?_
           case h9=>exact omA
           first
             | (rw [cE ?h9];case h9=>exact omA)
             | (rw [dZ ?h9];case h9=>exact omA)
             | skip
           refine au hF ?_)
        | (with_reducible refine jr ?_
           first
             | (refine eX ?h9 ?_;case h9=>exact omA)
             | (refine jg ?h9 (ar hF) ?_;case h9=>exact omA)
             | (refine jh ?h9 (ar hF) ?_;case h9=>exact omA)
             | (refine jk ?h9 (ar hF) ?_;case h9=>exact omA)
             | (refine ji ?h9 (ar hF) ?_;case h9=>exact omA)
             | (refine jj ?h9 (ar hF) ?_;case h9=>exact omA)
           first
             | (rw [cE ?h9];case h9=>exact omA)
             | (rw [dZ ?h9];case h9=>exact omA)
             | skip
           refine au hF ?_)
        | (with_reducible refine jp ?_
           refine jq (by kernel_rfl) (by exact alQ) ?_
           refine au hF ?_))
    revert hM;revert hF
    first|exact k1.out h0 hn h1|exact k1.out h0 hn trivial
  · clear k1
    intro h0
    (first|replace hM:=lV hM h0|replace hM:=lW hM h0)
    replace hF:=And.intro h0 hF
    replace h0:=nzQ h0
    (try have h1:=mpQ h0)
    (first|refine au hF ?_|skip)
    exact auQ):P:=h ⟨k1⟩
theorem auP {P:Prop} (h:P:=by (first|refine au hF ?_|skip);exact auQ):P:=h
theorem auR {P:Prop} (h:P:=by intro hF hM;(first|refine au hF ?_|skip);exact auQ):P:=h
theorem lsQ {P:Prop} (h:P:=by (simp only [go_sem,eJ,eK,List.length_replicate,dr,Int.toNat_natCast,↓reduceIte,Nat.reduceEqDiff,Nat.reduceAdd,Int.reduceAdd,Nat.reduceMul,Nat.reduceLeDiff,Nat.reduceLT,Int.reduceLE,Int.reduceLT,Int.reduceNeg,Int.reduceToNat,mt,mtL,lC,lB,mtZ,and_self,eq_self,or_true,true_or,o3,kl,km,Int.reduceSub,or_self]<;>fail)):P:=h
theorem aD {A P:Prop} (a:A) (h:A→P:=by (intro hA;simp only [go_sem,eJ,eK,List.length_replicate,dr,Int.toNat_natCast,↓reduceIte,Nat.reduceEqDiff,Nat.reduceAdd,Int.reduceAdd,Nat.reduceMul,Nat.reduceLeDiff,Nat.reduceLT,Int.reduceLE,Int.reduceLT,Int.reduceNeg,Int.reduceToNat,mt,mtL,lC,lB,mtZ,and_self,eq_self,or_true,true_or,o3,kl,km,Int.reduceSub,or_self,hA]<;>fail)):P:=h a
theorem sbG {P:Prop} (h:P:=by (simp only [go_sem,eJ,eK,List.length_replicate,dr,Int.toNat_natCast,↓reduceIte,Nat.reduceEqDiff,Nat.reduceAdd,Int.reduceAdd,Nat.reduceMul,Nat.reduceLeDiff,Nat.reduceLT,Int.reduceLE,Int.reduceLT,Int.reduceNeg,Int.reduceToNat,List.isEmpty_nil,o3,r9,vN,fr,ft,mtO,mtB,mt,mtL,lC,lB,ltV,ltL,ltB,eq_self,or_true,true_or,or_self,and_self,kl,km,Int.reduceSub]<;>fail)):P:=h
theorem nzB {P Q:Prop} (h:P) (e:P=Q:=by first|(simp only [pd,wfB,decide_eq_true_eq,decide_eq_false_iff_not,Bool.and_eq_true,Bool.or_eq_true,Bool.not_eq_true',Bool.not_eq_false',beq_iff_eq,bne_iff_ne,beq_eq_false_iff_ne,bne_eq_false_iff_eq,ne_eq,Int.not_lt,Int.not_le,gt_iff_lt,ge_iff_le,List.length_map,wfL,wfV,and_true,true_and,kh,oX,r5,r7,vL,lM,kj,List.length_append,List.length_cons,List.length_nil,List.length_replicate,dr,o0,o4,o5,dL,cL,oY,r6];rfl)|rfl):Q:=e▸h
end Go.Proofs.YtgealhhkngbkbaaGreatDoor
namespace Go.Proofs.YtgealhhkngbkbaaGreatDoor
open Go.RowKit
structure ay where
 s:(List UInt8)
 bad:Bool
def v_:ay:={s:=[],bad:=false}
instance:Inhabited ay:=⟨v_⟩
@[go_sem] theorem Pf:v_.s=[]:=Eq.trans rfl rfl
@[go_sem] theorem Pg:v_.bad=false:=Eq.trans rfl rfl
structure aH where
 Y:(List Int)
 Bases:(List (List Int))
def eZ:aH:={Y:=[],Bases:=[]}
instance:Inhabited aH:=⟨eZ⟩
@[go_sem] theorem Pi:eZ.Y=[]:=Eq.trans rfl rfl
@[go_sem] theorem Pj:eZ.Bases=[]:=Eq.trans rfl rfl
structure aa where
 Kind:Int
 Relation:aH
 L:(List aa)
def kt:aa:={Kind:=(0:Int),Relation:=eZ,L:=[]}
instance:Inhabited aa:=⟨kt⟩
@[go_sem] theorem Pk:kt.Kind=(0:Int):=Eq.trans rfl rfl
@[go_sem] theorem Pm:kt.Relation=eZ:=Eq.trans rfl rfl
@[go_sem] theorem Pn:kt.L=[]:=Eq.trans rfl rfl
structure ao where
 P:Int
 Q:Int
 G:Int
def sn:ao:={P:=(0:Int),Q:=(0:Int),G:=(0:Int)}
instance:Inhabited ao:=⟨sn⟩
@[go_sem] theorem Po:sn.P=(0:Int):=Eq.trans rfl rfl
@[go_sem] theorem Pp:sn.Q=(0:Int):=Eq.trans rfl rfl
@[go_sem] theorem Pq:sn.G=(0:Int):=Eq.trans rfl rfl
structure cu where
 A:(List Int)
 C:Int
 Z:(List Int)
def ng:cu:={A:=[],C:=(0:Int),Z:=[]}
instance:Inhabited cu:=⟨ng⟩
@[go_sem] theorem Pr:ng.A=[]:=Eq.trans rfl rfl
@[go_sem] theorem Ps:ng.C=(0:Int):=Eq.trans rfl rfl
@[go_sem] theorem Pt:ng.Z=[]:=Eq.trans rfl rfl
structure aG where
 C:Int
 P:cu
 L:(List aG)
def so:aG:={C:=(0:Int),P:=ng,L:=[]}
instance:Inhabited aG:=⟨so⟩
@[go_sem] theorem Pu:so.C=(0:Int):=Eq.trans rfl rfl
@[go_sem] theorem Pv:so.P=ng:=Eq.trans rfl rfl
@[go_sem] theorem Pw:so.L=[]:=Eq.trans rfl rfl
structure aV where
 State:(List Int)
 Count:Int
def cr:aV:={State:=[0,0,0,0,0,0,0,0,0,0,0,0,0,0,0,0,0,0,0,0,0,0,0,0,0,0,0,0,0,0,0,0],Count:=(0:Int)}
instance:Inhabited aV:=⟨cr⟩
@[go_sem] theorem Py:cr.State=[0,0,0,0,0,0,0,0,0,0,0,0,0,0,0,0,0,0,0,0,0,0,0,0,0,0,0,0,0,0,0,0]:=Eq.trans rfl rfl
@[go_sem] theorem PA:cr.Count=(0:Int):=Eq.trans rfl rfl
structure aq where
 Kind:Int
 N:Int
 B:(List Int)
 L:(List aq)
def pe:aq:={Kind:=(0:Int),N:=(0:Int),B:=[],L:=[]}
instance:Inhabited aq:=⟨pe⟩
@[go_sem] theorem PC:pe.Kind=(0:Int):=Eq.trans rfl rfl
@[go_sem] theorem PD:pe.N=(0:Int):=Eq.trans rfl rfl
@[go_sem] theorem PE:pe.B=[]:=Eq.trans rfl rfl
@[go_sem] theorem PF:pe.L=[]:=Eq.trans rfl rfl
def aA (x:aa):V:= .agg [.int .i64 x.Kind,.sl none 1 false (x.Relation.Y.map (V.int .i64)),.sl none 1 false (x.Relation.Bases.map (fun (l:List Int)=>V.sl none 1 false (l.map (V.int .i64)))),.sl none 4 true (x.L.map aA)]
termination_by SizeOf.sizeOf x
decreasing_by
 rename_i y h
 have:=List.sizeOf_lt_of_mem h
 cases x
 simp at*
 omega
attribute [go_sem] aA
def wa (x:aH):V:= .agg [.sl none 1 false (x.Y.map (V.int .i64)),.sl none 1 false (x.Bases.map (fun (l:List Int)=>V.sl none 1 false (l.map (V.int .i64))))]
attribute [go_sem] wa
def bA (x:aG):V:= .agg [.int .i64 x.C,.sl none 1 false (x.P.A.map (V.int .i64)),.int .i64 x.P.C,.sl none 1 false (x.P.Z.map (V.int .i64)),.sl none 5 true (x.L.map bA)]
termination_by SizeOf.sizeOf x
decreasing_by
 rename_i y h
 have:=List.sizeOf_lt_of_mem h
 cases x
 simp at*
 omega
attribute [go_sem] bA
def wb (x:cu):V:= .agg [.sl none 1 false (x.A.map (V.int .i64)),.int .i64 x.C,.sl none 1 false (x.Z.map (V.int .i64))]
attribute [go_sem] wb
def sq:V:= .agg (.int .u32 0:: .int .u32 0:: .int .u32 0:: .int .u32 0:: .int .u32 0:: .int .u32 0:: .int .u32 0:: .int .u32 0:: .int .u32 0:: .int .u32 0:: .int .u32 0:: .int .u32 0:: .int .u32 0:: .int .u32 0:: .int .u32 0:: .int .u32 0:: .int .u32 0:: .int .u32 0:: .int .u32 0:: .int .u32 0:: .int .u32 0:: .int .u32 0:: .int .u32 0:: .int .u32 0:: .int .u32 0:: .int .u32 0:: .int .u32 0:: .int .u32 0:: .int .u32 0:: .int .u32 0:: .int .u32 0:: .int .u32 0:: .int .u32 0:: .int .u32 0:: .int .u32 0:: .int .u32 0:: .int .u32 0:: .int .u32 0:: .int .u32 0:: .int .u32 0:: .int .u32 0:: .int .u32 0:: .int .u32 0:: .int .u32 0:: .int .u32 0:: .int .u32 0:: .int .u32 0:: .int .u32 0:: .int .u32 0:: .int .u32 0:: .int .u32 0:: .int .u32 0:: .int .u32 0:: .int .u32 0:: .int .u32 0:: .int .u32 0:: .int .u32 0:: .int .u32 0:: .int .u32 0:: .int .u32 0:: .int .u32 0:: .int .u32 0:: .int .u32 0:: .int .u32 0::[])
attribute [go_sem] sq
def nh (l:(List Int)):V:= .agg (.int .u32 (gt l 0):: .int .u32 (gt l 1):: .int .u32 (gt l 2):: .int .u32 (gt l 3):: .int .u32 (gt l 4):: .int .u32 (gt l 5):: .int .u32 (gt l 6):: .int .u32 (gt l 7):: .int .u32 (gt l 8):: .int .u32 (gt l 9):: .int .u32 (gt l 10):: .int .u32 (gt l 11):: .int .u32 (gt l 12):: .int .u32 (gt l 13):: .int .u32 (gt l 14):: .int .u32 (gt l 15):: .int .u32 (gt l 16):: .int .u32 (gt l 17):: .int .u32 (gt l 18):: .int .u32 (gt l 19):: .int .u32 (gt l 20):: .int .u32 (gt l 21):: .int .u32 (gt l 22):: .int .u32 (gt l 23):: .int .u32 (gt l 24):: .int .u32 (gt l 25):: .int .u32 (gt l 26):: .int .u32 (gt l 27):: .int .u32 (gt l 28):: .int .u32 (gt l 29):: .int .u32 (gt l 30):: .int .u32 (gt l 31):: .int .u32 (gt l 32):: .int .u32 (gt l 33):: .int .u32 (gt l 34):: .int .u32 (gt l 35):: .int .u32 (gt l 36):: .int .u32 (gt l 37):: .int .u32 (gt l 38):: .int .u32 (gt l 39):: .int .u32 (gt l 40):: .int .u32 (gt l 41):: .int .u32 (gt l 42):: .int .u32 (gt l 43):: .int .u32 (gt l 44):: .int .u32 (gt l 45):: .int .u32 (gt l 46):: .int .u32 (gt l 47):: .int .u32 (gt l 48):: .int .u32 (gt l 49):: .int .u32 (gt l 50):: .int .u32 (gt l 51):: .int .u32 (gt l 52):: .int .u32 (gt l 53):: .int .u32 (gt l 54):: .int .u32 (gt l 55):: .int .u32 (gt l 56):: .int .u32 (gt l 57):: .int .u32 (gt l 58):: .int .u32 (gt l 59):: .int .u32 (gt l 60):: .int .u32 (gt l 61):: .int .u32 (gt l 62):: .int .u32 (gt l 63)::[])
attribute [go_sem] nh
def ku (l:(List Int)):V:= .agg [.int .u32 (gt l 0),.int .u32 (gt l 1),.int .u32 (gt l 2),.int .u32 (gt l 3),.int .u32 (gt l 4),.int .u32 (gt l 5),.int .u32 (gt l 6),.int .u32 (gt l 7)]
attribute [go_sem] ku
def wc:V:= .agg [.int .u32 0,.int .u32 0,.int .u32 0,.int .u32 0,.int .u32 0,.int .u32 0,.int .u32 0,.int .u32 0]
attribute [go_sem] wc
def gX:V:= .agg (.int .u8 0:: .int .u8 0:: .int .u8 0:: .int .u8 0:: .int .u8 0:: .int .u8 0:: .int .u8 0:: .int .u8 0:: .int .u8 0:: .int .u8 0:: .int .u8 0:: .int .u8 0:: .int .u8 0:: .int .u8 0:: .int .u8 0:: .int .u8 0:: .int .u8 0:: .int .u8 0:: .int .u8 0:: .int .u8 0:: .int .u8 0:: .int .u8 0:: .int .u8 0:: .int .u8 0:: .int .u8 0:: .int .u8 0:: .int .u8 0:: .int .u8 0:: .int .u8 0:: .int .u8 0:: .int .u8 0:: .int .u8 0::[])
attribute [go_sem] gX
def dM (l:(List Int)):V:= .agg (.int .u8 (gt l 0):: .int .u8 (gt l 1):: .int .u8 (gt l 2):: .int .u8 (gt l 3):: .int .u8 (gt l 4):: .int .u8 (gt l 5):: .int .u8 (gt l 6):: .int .u8 (gt l 7):: .int .u8 (gt l 8):: .int .u8 (gt l 9):: .int .u8 (gt l 10):: .int .u8 (gt l 11):: .int .u8 (gt l 12):: .int .u8 (gt l 13):: .int .u8 (gt l 14):: .int .u8 (gt l 15):: .int .u8 (gt l 16):: .int .u8 (gt l 17):: .int .u8 (gt l 18):: .int .u8 (gt l 19):: .int .u8 (gt l 20):: .int .u8 (gt l 21):: .int .u8 (gt l 22):: .int .u8 (gt l 23):: .int .u8 (gt l 24):: .int .u8 (gt l 25):: .int .u8 (gt l 26):: .int .u8 (gt l 27):: .int .u8 (gt l 28):: .int .u8 (gt l 29):: .int .u8 (gt l 30):: .int .u8 (gt l 31)::[])
attribute [go_sem] dM
def dB (x:aV):V:= .agg (.int .u8 (gt x.State 0):: .int .u8 (gt x.State 1):: .int .u8 (gt x.State 2):: .int .u8 (gt x.State 3):: .int .u8 (gt x.State 4):: .int .u8 (gt x.State 5):: .int .u8 (gt x.State 6):: .int .u8 (gt x.State 7):: .int .u8 (gt x.State 8):: .int .u8 (gt x.State 9):: .int .u8 (gt x.State 10):: .int .u8 (gt x.State 11):: .int .u8 (gt x.State 12):: .int .u8 (gt x.State 13):: .int .u8 (gt x.State 14):: .int .u8 (gt x.State 15):: .int .u8 (gt x.State 16):: .int .u8 (gt x.State 17):: .int .u8 (gt x.State 18):: .int .u8 (gt x.State 19):: .int .u8 (gt x.State 20):: .int .u8 (gt x.State 21):: .int .u8 (gt x.State 22):: .int .u8 (gt x.State 23):: .int .u8 (gt x.State 24):: .int .u8 (gt x.State 25):: .int .u8 (gt x.State 26):: .int .u8 (gt x.State 27):: .int .u8 (gt x.State 28):: .int .u8 (gt x.State 29):: .int .u8 (gt x.State 30):: .int .u8 (gt x.State 31):: .int .i64 x.Count::[])
attribute [go_sem] dB
def bJ (x:aq):V:= .agg [.int .i64 x.Kind,.int .i64 x.N,.sl none 1 false (x.B.map (V.int .u8)),.sl none 4 true (x.L.map bJ)]
termination_by SizeOf.sizeOf x
decreasing_by
 rename_i y h
 have:=List.sizeOf_lt_of_mem h
 cases x
 simp at*
 omega
attribute [go_sem] bJ
def wd (x:ao):V:= .agg [.int .i64 x.P,.int .i64 x.Q,.int .i64 x.G]
attribute [go_sem] wd
end Go.Proofs.YtgealhhkngbkbaaGreatDoor
namespace Go.Proofs.YtgealhhkngbkbaaGreatDoor
open Go.RowKit
theorem Jn {C:Int→Bool} {n:Int} {F:(Int→Int)→Int→Int} (hF: ∀ag p,F ag p=if p<n then (if C p=true then p else ag (p+1)) else -1) {d:Int→Int}:
  ∀(fuel:Nat) (i:Int),0≤i→(n - i).toNat<fuel→(ae fuel F d i= -1∧ ∀j,i≤j→j<n→C j=false)∨(i≤ae fuel F d i∧ae fuel F d i<n∧C (ae fuel F d i)=true∧ ∀j,i≤j→j<ae fuel F d i→C j=false):=by
 intro fuel
 induction fuel with
 | zero=>intro i _ h;omega
 | succ k ih=>
  intro i h0 h
  rw [ae,hF]
  by_cases hi:i<n
  ·rw [if_pos hi]
   by_cases hc:C i=true
   ·rw [if_pos hc]
    exact .inr ⟨Int.le_refl _,hi,hc,fun j h1 h2=>by omega⟩
   ·rw [if_neg hc]
    have hc':C i=false:=by simpa using hc
    rcases ih (i+1) (by omega) (by omega) with ⟨h1,h2⟩|⟨h1,h2,h3,h4⟩
    ·refine .inl ⟨h1,fun j g1 g2=> ?_⟩
     by_cases e:j=i
     ·subst e;exact hc'
     ·exact h2 j (by omega) g2
    ·refine .inr ⟨by omega,h2,h3,fun j g1 g2=> ?_⟩
     by_cases e:j=i
     ·subst e;exact hc'
     ·exact h4 j (by omega) g2
  ·rw [if_neg hi]
   exact .inl ⟨rfl,fun j h1 h2=>by omega⟩
theorem az {α β:Type} {a:α} {f:α→β}:ab a f=f a:=rfl
theorem aI {α:Type} [Inhabited α] {l:List α} {i:Int} (h:i.toNat<l.length):gt l i∈l:=by
 simp [gt,List.getD_eq_getElem?_getD,h]
theorem Jo {α β R:Type} [Inhabited α] {f:α→β} {E:Int×List β→R} {l:List α} {F:(Int×List β→R)→Int×List β→R} {d:Int×List β→R}
  (hF: ∀ag p,F ag p=if decide (p.1<(l.length:Int))=true then ag (p.1+1,p.2++[f (gt l p.1)]) else E p):
  ∀(fuel k:Nat) (a:List β),k≤l.length→l.length - k<fuel→ae fuel F d ((k:Int),a)=E ((l.length:Int),a++(l.drop k).map f):=by
 intro fuel
 induction fuel with
 | zero=>intro k a _ h;omega
 | succ n ih=>
  intro k a hl h
  rw [ae,hF]
  by_cases hk:k<l.length
  ·rw [if_pos (decide_eq_true (show (k:Int)<_ by omega))]
   have:=ih (k+1) (a++[f (gt l k)]) (by omega) (by omega)
   rw [show ((k+1:Nat):Int)=(k:Int)+1 by omega] at this
   have hg:gt l (k:Int)=l[k]:=by simp [gt,List.getD_eq_getElem?_getD,hk]
   show ae n F d ((k:Int)+1,a++[f (gt l (k:Int))])=_
   rw [this,List.drop_eq_getElem_cons hk,hg]
   simp only [List.map_cons,List.append_assoc,List.singleton_append]
  ·obtain rfl:k=l.length:=by omega
   rw [if_neg (by simp),List.drop_eq_nil_of_le (by omega)]
   simp
theorem Jp {α β R:Type} [Inhabited α] (f:α→β) {E:Int×List β→R} {l:List α} {F:(Int×List β→R)→Int×List β→R} {d:Int×List β→R}
  (hF: ∀ag p,F ag p=if decide (p.1<(l.length:Int))=true then ag (p.1+1,p.2++[f (gt l p.1)]) else E p):
  ae (((l.length:Int) - 0).toNat+1) F d (0,[])=E ((l.length:Int),l.map f):=by
 have:=Jo (d:=d) hF (((l.length:Int) - 0).toNat+1) 0 [] (by omega) (by omega)
 simpa using this
theorem Jq {α:Type} [Inhabited α] {l:List α} {C:α→Bool} {F:(Int→Int)→Int→Int} {d:Int→Int}
  (hF: ∀ag p,F ag p=if decide (p<(l.length:Int))=true then (if C (gt l p)=true then p else ag (p+1)) else -1):
  decide (ae (((l.length:Int) - 0).toNat+1) F d 0≥0)=l.any C:=by
 have hg: ∀(j:Int),0≤j→j<l.length→gt l j∈l:=fun j h0 h1=>aI (by omega)
 rcases Jn (C:=fun p=>C (gt l p)) (n:=(l.length:Int)) (F:=F) (d:=d) (fun ag p=>by rw [hF];by_cases hp:p<(l.length:Int)<;>simp [hp]) (((l.length:Int) - 0).toNat+1) 0 (by omega) (by omega) with ⟨h1,h2⟩|⟨h1,h2,h3,_⟩
 ·rw [h1]
  symm
  rw [show decide ((-1:Int)≥0)=false by decide,List.any_eq_false]
  intro x hx
  obtain ⟨i,hi,rfl⟩:=List.mem_iff_getElem.1 hx
  have:=h2 (i:Int) (by omega) (by omega)
  simpa [gt,List.getD_eq_getElem?_getD,hi] using this
 ·rw [decide_eq_true h1]
  symm
  exact List.any_eq_true.2 ⟨_,hg _ h1 h2,h3⟩
theorem kv {α R:Type} {P:α→Prop} {Q:R→Prop} {meas:α→Nat} {F:(α→R)→α→R} {d:α→R}
  (hs: ∀ag p,P p→(∀q,P q→meas q<meas p→Q (ag q))→Q (F ag p)): ∀(fuel:Nat) (p:α),P p→meas p<fuel→Q (ae fuel F d p):=by
 intro fuel
 induction fuel with
 | zero=>intro p _ h;omega
 | succ k ih=>
  intro p hp hm
  rw [ae]
  exact hs _ p hp fun q hq hlt=>ih q hq (by omega)
theorem Jr {C:Int→Bool} {n:Int} {X:Bool} {F:(Int→Bool)→Int→Bool} (hF: ∀ag p,F ag p=if decide (p<n)=true then (if C p=true then ag (p+1) else false) else X) {d:Int→Bool}:
  ∀(fuel:Nat) (i:Int),(n - i).toNat<fuel→(ae fuel F d i=true↔(∀j,i≤j→j<n→C j=true)∧X=true):=by
 intro fuel
 induction fuel with
 | zero=>intro i h;omega
 | succ k ih=>
  intro i h
  rw [ae,hF]
  by_cases hi:i<n
  ·rw [if_pos (decide_eq_true hi)]
   by_cases hc:C i=true
   ·rw [if_pos hc,ih (i+1) (by omega)]
    refine ⟨fun H=>⟨fun j h1 h2=> ?_,H.2⟩,fun H=>⟨fun j h1 h2=>H.1 j (by omega) h2,H.2⟩⟩
    by_cases e:j=i
    ·subst e;exact hc
    ·exact H.1 j (by omega) h2
   ·rw [if_neg hc]
    exact ⟨fun H=>Bool.noConfusion H,fun H=>absurd (H.1 i (Int.le_refl _) hi) hc⟩
  ·rw [if_neg (by simpa using hi)]
   exact ⟨fun H=>⟨fun j h1 h2=>by omega,H⟩,fun H=>H.2⟩
theorem Js {α:Type} [Inhabited α] {l:List α} {c:α→Bool} {X:Bool} {F:(Int→Bool)→Int→Bool} {d:Int→Bool}
  (hF: ∀ag p,F ag p=if decide (p<(l.length:Int))=true then (if c (gt l p)=true then ag (p+1) else false) else X):
  ae (((l.length:Int) - 0).toNat+1) F d 0=(l.all c&&X):=by
 rw [Bool.eq_iff_iff,Jr (C:=fun p=>c (gt l p)) hF _ _ (by omega),Bool.and_eq_true,List.all_eq_true]
 refine and_congr_left fun _=>⟨fun h x hx=> ?_,fun h j h0 h1=>h _ (aI (by omega))⟩
 obtain ⟨i,hi,rfl⟩:=List.mem_iff_getElem.1 hx
 have:=h (i:Int) (by omega) (by omega)
 simpa [gt,List.getD_eq_getElem?_getD,hi] using this
def ni {α σ R:Type} (st:α→σ→σ⊕R) (E:σ→R):List α→σ→R
 | [],s=>E s
 | a::l,s=>match st a s with
  | .inl s'=>ni st E l s'
  | .inr r=>r
theorem Jt {α σ R:Type} [Inhabited α] {l:List α} {st:α→σ→σ⊕R} {E:σ→R} {F:(Int×σ→R)→Int×σ→R} {d:Int×σ→R}
  (hF: ∀ag i s,F ag (i,s)=if i<(l.length:Int) then (match st (gt l i) s with| .inl s'=>ag (i+1,s')| .inr r=>r) else E s):
  ∀(fuel k:Nat) (s:σ),k≤l.length→l.length - k<fuel→ae fuel F d ((k:Int),s)=ni st E (l.drop k) s:=by
 intro fuel
 induction fuel with
 | zero=>intro k s _ h;omega
 | succ n ih=>
  intro k s hl h
  rw [ae,hF]
  by_cases hk:k<l.length
  ·rw [if_pos (by omega),List.drop_eq_getElem_cons hk]
   have hg:gt l (k:Int)=l[k]:=by simp [gt,List.getD_eq_getElem?_getD,hk]
   rw [hg]
   simp only [ni]
   cases st l[k] s with
   | inl s'=>
    have:=ih (k+1) s' (by omega) (by omega)
    rw [show ((k+1:Nat):Int)=(k:Int)+1 by omega] at this
    exact this
   | inr r=>rfl
  ·obtain rfl:k=l.length:=by omega
   rw [if_neg (by simp),List.drop_eq_nil_of_le (by omega)];rfl
theorem AC {α σ R:Type} [Inhabited α] {l:List α} (st:α→σ→σ⊕R) (E:σ→R) {F:(Int×σ→R)→Int×σ→R} {d:Int×σ→R} {s:σ}
  (hF: ∀ag i s,F ag (i,s)=if i<(l.length:Int) then (match st (gt l i) s with| .inl s'=>ag (i+1,s')| .inr r=>r) else E s):
  ae (((l.length:Int) - 0).toNat+1) F d (0,s)=ni st E l s:=by
 have:=Jt (d:=d) hF (((l.length:Int) - 0).toNat+1) 0 s (by omega) (by omega)
 simpa using this
theorem we {α σ R:Type} {g:α→σ→σ} {E:σ→R}: ∀{l:List α} {s:σ},ni (fun a s=> .inl (g a s)) E l s=E (l.foldl (fun s a=>g a s) s)
 | [],_=>rfl
 | a::l,s=>by simp only [ni,List.foldl_cons];exact we
theorem AD {α:Type} [Inhabited α]: ∀{k:Nat} {i:Nat} {l:List α},l.length=i+k→eY l k i=l.drop i
 | 0,i,l,h=>by simp [eY,h]
 | k+1,i,l,h=>by
  have hi:i<l.length:=by omega
  rw [List.drop_eq_getElem_cons hi]
  simp only [eY]
  have:=AD (k:=k) (i:=i+1) (l:=l) (by omega)
  rw [show ((i+1:Nat):Int)=(i:Int)+1 by omega] at this
  rw [this]
  simp [gt,List.getD_eq_getElem?_getD,hi]
theorem nj {α:Type} [Inhabited α] {l:List α} {n:Nat} (h:l.length=n):br n l=l:=by
 have:=AD (k:=n) (i:=0) (l:=l) (by omega)
 simpa [br] using this
theorem wg {α:Type} [Inhabited α] {l:List α}: ∀{k:Nat} {i j:Nat},j<k→(eY l k i).getD j default=gt l ((i+j:Nat):Int)
 | k+1,i,0,_=>by simp [eY]
 | k+1,i,j+1,h=>by
  have:=wg (l:=l) (k:=k) (i:=i+1) (j:=j) (by omega)
  simp only [eY,List.getD_cons_succ]
  rw [show ((i:Int)+1)=((i+1:Nat):Int) from rfl,this]
  congr 1;omega
theorem iy {α:Type} [Inhabited α] {f:α→V} {n:Nat} {l:List α} {i:Int} (h:0≤i∧i.toNat<n):((br n l).map f).getD (0+i.toNat*1) .un=f (gt l i):=by
 have h1:(br n l).length=n:=dL
 have h2:=wg (l:=l) (k:=n) (i:=0) (j:=i.toNat) h.2
 have h3:gt (br n l) i=gt l i:=by
  rw [show gt (br n l) i=(eY l n ((0:Nat):Int)).getD i.toNat default from rfl,h2]
  congr 1;omega
 rw [←h3]
 simp [gt,List.getD_eq_getElem?_getD,h1,h.2]
theorem Ju {α:Type} [Inhabited α] {f:α→V} {n:Nat} {l:List α} {i:Int} (h:0≤i∧i.toNat<n):((br n l).map f).getD (i.toNat*1) .un=f (gt l i):=by
 have:=iy (f:=f) (n:=n) (l:=l) (i:=i) h
 rwa [Nat.zero_add] at this
theorem pf {α:Type} [Inhabited α] {f:α→V} {l:List α} {n:Nat} {i:Int} (hl:l.length=n) (h:0≤i∧i.toNat<n):(l.map f).getD (i.toNat*1) .un=f (gt l i):=by
 subst hl
 simp [gt,List.getD_eq_getElem?_getD,h.2]
theorem pg {α:Type} [Inhabited α] {f:α→V} {n:Nat} {l:List α} {i:Int} {v:α} (hl:l.length=n) (h:0≤i∧i.toNat<n):(l.map f).take (0+i.toNat*1)++[f v]++(l.map f).drop (0+i.toNat*1+1)=(br n (st l i v)).map f:=by
 rw [nj (by rw [kj];exact hl)]
 unfold st
 rw [List.set_eq_take_append_cons_drop,if_pos (by omega)]
 simp [List.map_take,List.map_drop]
def lX {β:Type} (i:Nat):List (Nat×β)→List (Nat×β)
 | []=> []
 | (k,b)::l=>if k=i then lX i l else (k,b)::lX i l
attribute [go_sem] lX
theorem wh {β:Type} {i t:Nat} {b:β}: ∀{l:List (Nat×β)},ak (lX i l) t=some b→t≠i∧ak l t=some b
 | [],h=>by cases h
 | (k,x)::l,h=>by
  simp only [lX] at h
  split at h
  ·rename_i e
   obtain ⟨h1,h2⟩:=wh h
   exact ⟨h1,by simp only [ak];rw [if_neg (by omega)];exact h2⟩
  ·rename_i e
   simp only [ak] at h⊢
   split at h
   ·rename_i e2;exact ⟨by omega,by rw [if_pos e2];exact h⟩
   ·rename_i e2
    obtain ⟨h1,h2⟩:=wh h
    exact ⟨h1,by rw [if_neg e2];exact h2⟩
theorem Jv {E:Env} {S:St} (t i j:Nat) {T n:Nat} {g:Bool} {z:Option Bool} {l:List V} (h:ak S.F t=some (.own j)) (h2:ak S.H j=some (.own T n g z l)) (hi:i<S.nx) (hij:i≠j):
  cw E S ⟨(t,.own i)::mL i S.F,(i,.own T n g z l)::lX j (ln i S.H),S.nx⟩:=by
 intro c0 c ρ F hs
 obtain ⟨v,hv,hown,hge,hone,a,cap,es,hz⟩:=hs.1.heap _ _ h2
 have hro: ∀k,k≠i→da ρ i v k=ρ k:=fun k hk=>im hk
 have hbi:an (da ρ i v) i=an ρ j:=by unfold an;rw [dn,hv]
 have hbk: ∀k,k≠i→an (da ρ i v) k=an ρ k:=fun k hk=>by unfold an;rw [hro k hk]
 have hold: ∀k b,i≠k→ak (lX j (ln i S.H)) k=some b→k≠j∧ ∃b0,ak S.H k=some b0∧b=lm i b0:=by
  intro k b hk hb
  obtain ⟨h3,h4⟩:=wh hb
  rw [rh] at h4
  cases h5:ak S.H k with
  | none=>rw [h5] at h4;cases h4
  | some b0=>rw [h5] at h4;cases h4;exact ⟨h3,b0,rfl,rfl⟩
 refine ⟨c,da ρ i v,rfl,⟨hs.1.since,hs.1.gl,fun t' x ht=> ?_,?_,?_⟩,fun k hk=> ?_⟩
 ·simp only [ak] at ht
  split at ht
  ·rename_i e;subst e;cases ht
   have h3:=hs.1.slot _ _ h
   simp only [rd] at h3⊢
   rw [hv] at h3
   exact ⟨by rw [dn];exact h3.1,h3.2⟩
  ·rw [uX] at ht
   cases h5:ak S.F t' with
   | none=>rw [h5] at ht;cases ht
   | some y=>rw [h5] at ht;cases ht;exact lu hro (hs.1.slot _ _ h5)
 ·intro k b hb
  simp only [ak] at hb
  split at hb
  ·rename_i e;subst e;cases hb
   exact ⟨v,dn,hown,hge,hone,a,cap,es,hz⟩
  ·rename_i hk
   obtain ⟨_,b0,h6,rfl⟩:=hold k b hk hb
   exact yN hro (Ne.symm hk) (hs.1.heap _ _ h6)
 ·intro x y bx bb k hxy hx hy hpx hpy hbx
  simp only [ak] at hx hy
  split at hx
  ·rename_i e;subst e
   rw [if_neg hxy] at hy
   obtain ⟨hyj,b0,h6,rfl⟩:=hold y bb hxy hy
   rw [mN] at hpy
   rw [hbk y (Ne.symm hxy)]
   rw [hbi] at hbx
   exact hs.1.sep j y _ b0 k (Ne.symm hyj) h2 h6 rfl hpy hbx
  ·rename_i hix
   obtain ⟨hxj,b0,h6,rfl⟩:=hold x bx hix hx
   rw [mN] at hpx
   rw [hbk x (Ne.symm hix)] at hbx
   split at hy
   ·rename_i e;subst e
    rw [hbi]
    exact hs.1.sep x j b0 _ k hxj h6 h2 hpx rfl hbx
   ·rename_i hiy
    obtain ⟨hyj,b1,h7,rfl⟩:=hold y bb hiy hy
    rw [mN] at hpy
    rw [hbk y (Ne.symm hiy)]
    exact hs.1.sep x y b0 b1 k hxy h6 h7 hpx hpy hbx
 ·have hk':S.nx≤k:=hk
  rw [hro k (by omega)];exact hs.2 k hk
theorem Jw {b x:Bool}:(if (!b)=true then false else x)=(if b=true then x else false):=by cases b<;>rfl
end Go.Proofs.YtgealhhkngbkbaaGreatDoor
namespace Go.Proofs.YtgealhhkngbkbaaGreatDoor
open Go.RowKit
set_option linter.unusedVariables false
set_option linter.unusedSimpArgs false
def be:Nat→Int→List Int
 | 0,_=> []
 | k+1,n=>be k (n/256)++[n% 256]
def isB (l:List Int):Prop:= ∀x∈l,0≤x∧x≤255
theorem gY: ∀{k:Nat} {n:Int},(be k n).length=k
 | 0,_=>rfl
 | k+1,n=>by simp [be,gY (k:=k)]
theorem sr: ∀{k:Nat} {n:Int},isB (be k n)
 | 0,_=>by simp [isB,be]
 | k+1,n=>by
  intro x hx
  simp only [be,List.mem_append,List.mem_singleton] at hx
  rcases hx with hx|rfl
  ·exact sr x hx
  ·omega
theorem AE (n m:Int) (h:0<m):n% (256*m)=256*(n/256% m)+n% 256:=by
 have h1:=Int.mul_ediv_add_emod n 256
 have h2:=Int.mul_ediv_add_emod (n/256) m
 have h3:=Int.emod_nonneg (n/256) (show m≠0 by omega)
 have h4:=Int.emod_lt_of_pos (n/256) h
 generalize n/256% m=s at*
 generalize hq:n/256/m=t at*
 have e:n=(256*s+n% 256)+256*m*t:=by
  have:256*m*t=256*(m*t):=by rw [Int.mul_assoc]
  omega
 have e2:n% (256*m)=(256*s+n% 256)% (256*m):=by
  conv=>lhs;rw [e]
  rw [Int.add_mul_emod_self_left]
 rw [e2]
 exact Int.emod_eq_of_lt (by omega) (by omega)
theorem wi: ∀{k:Nat} {n m:Int},n% 256^k=m% 256^k→be k n=be k m
 | 0,_,_,_=>rfl
 | k+1,n,m,h=>by
  have hp:(0:Int)<256^k:=Int.pow_pos (by omega)
  rw [show (256:Int)^(k+1)=256*256^k by rw [Int.pow_succ,Int.mul_comm],AE _ _ hp,AE _ _ hp] at h
  have h1:=Int.emod_nonneg (n/256) (show (256:Int)^k≠0 by omega)
  have h2:=Int.emod_nonneg (m/256) (show (256:Int)^k≠0 by omega)
  simp only [be]
  rw [show n% 256=m% 256 by omega,wi (k:=k) (show n/256% 256^k=m/256% 256^k by omega)]
mutual
def hgt:aq→Nat
 | ⟨_,_,b,l⟩=>1+b.length+bO l
def bO:List aq→Nat
 | []=>0
 | x::l=>hgt x+bO l
end
theorem AF: ∀{l:List aq} {x:aq},x∈l→hgt x≤bO l
 | y::l,x,h=>by
  simp only [bO]
  rcases List.mem_cons.1 h with rfl|h
  ·omega
  ·have:=AF h;omega
theorem nk (i:aq):hgt i=1+i.B.length+bO i.L:=by cases i;rfl
theorem fN {i x:aq} (h:x∈i.L):hgt x<hgt i:=by
 have:=AF h
 rw [nk i];omega
mutual
def cc:aq→Int→Bool
 | ⟨k,n,b,l⟩,d=>if k==1 then b.isEmpty&&l.isEmpty else if k==2 then n==0&&l.isEmpty else if k==3 then n==0&&(b.isEmpty&&(decide (0<d)&&(decide (l.length≤1000)&&fw l (d - 1)))) else false
def fw:List aq→Int→Bool
 | [],_=>true
 | x::l,d=>cc x d&&fw l d
end
theorem wj: ∀{l:List aq} {d:Int},fw l d=l.all (fun x=>cc x d)
 | [],_=>rfl
 | x::l,d=>by simp only [fw,List.all_cons,wj (l:=l)]
mutual
def bB:aq→List Int
 | ⟨k,n,b,l⟩=>if k==1 then 1::be 8 n else if k==2 then 2::(be 4 b.length++b) else 3::(be 4 l.length++cM l)
def cM:List aq→List Int
 | []=> []
 | x::l=>bB x++cM l
end
mutual
def okI:aq→Prop
 | ⟨_,n,b,l⟩=>(-9223372036854775808≤n∧n≤9223372036854775807)∧isB b∧b.length<4294967296∧okL l
def okL:List aq→Prop
 | []=>True
 | x::l=>okI x∧okL l
end
theorem wrap_u64 {a:Int} (h0:0≤a) (h1:a<18446744073709551616):IntKind.wrap .u64 a=a:=by
 simp only [IntKind.wrap,IntKind.bits,IntKind.signed];simp;omega
theorem AG: ∀{l:List Int},wfL (l.map (V.int .u8))→isB l
 | [],_=>by simp [isB]
 | a::l,h=>by
  simp only [List.map_cons,wfL,wfV,r6] at h
  intro x hx
  rcases List.mem_cons.1 hx with rfl|hx
  ·exact h.1
  ·exact AG h.2 x hx
mutual
def ee:List Int→aq→List Int
 | out,⟨k,n,b,l⟩=>if out.length>16384 then out else if k==1 then out++(1::be 8 n) else if k==2 then out++(2::be 4 b.length)++b else iz (out++(k% 256::be 4 l.length)) l
def iz:List Int→List aq→List Int
 | out,[]=>out
 | out,x::l=>iz (ee out x) l
end
theorem AH {out:List Int} (h:16384<out.length) (i:aq):ee out i=out:=by
 cases i;simp only [ee];rw [if_pos h]
theorem AJ: ∀{l:List aq} {out:List Int},16384<out.length→iz out l=out
 | [],_,_=>rfl
 | x::l,out,h=>by simp only [iz];rw [AH h];exact AJ h
mutual
theorem AK: ∀(i:aq) (out:List Int) (d:Int),cc i d=true→ee out i=out++bB i∨(16384<(ee out i).length∧16384<(out++bB i).length)
 | ⟨k,n,b,l⟩,out,d,h=>by
  by_cases hl:out.length>16384
  ·refine .inr ⟨?_,by simp;omega⟩
   rw [AH hl];exact hl
  simp only [ee,if_neg hl,bB]
  simp only [cc] at h
  by_cases e1:k=1
  ·subst e1;simp
  by_cases e2:k=2
  ·subst e2;simp
  by_cases e3:k=3
  ·subst e3
   simp at h
   have:=AL l (out++(3::be 4 l.length)) (d - 1) h.2.2.2.2
   simpa using this
  ·simp [e1,e2,e3] at h
theorem AL: ∀(l:List aq) (out:List Int) (d:Int),fw l d=true→iz out l=out++cM l∨(16384<(iz out l).length∧16384<(out++cM l).length)
 | [],out,d,_=> .inl (by simp [iz,cM])
 | x::l,out,d,h=>by
  simp only [fw,Bool.and_eq_true] at h
  simp only [iz,cM]
  rcases AK x out d h.1 with e|⟨e1,e2⟩
  ·rw [e]
   have:=AL l (out++bB x) d h.2
   simpa using this
  ·refine .inr ⟨by rw [AJ e1];exact e1,?_⟩
   simp at e2⊢;omega
end
end Go.Proofs.YtgealhhkngbkbaaGreatDoor
namespace Go.Proofs.YtgealhhkngbkbaaGreatDoor
open Go.RowKit
def jt (i:aq) (w:Int):Bool:=cc i (8 - w)
end Go.Proofs.YtgealhhkngbkbaaGreatDoor
