/- Texts of this proof, one after the other: VJ, VK, VT, VA, T, L0, R0, R1, RT. -/
import Derived.Test.YtcbbjfckokckcaaGreatDoorZ4
set_option linter.unusedVariables false
set_option linter.unusedSimpArgs false
namespace Go.Proofs.YtcbbjfckokckcaaGreatDoor
open Go.RowKit
section
variable {E:Env} {J:cq} {k:List Ct} {S S1:St} {c0 c:Cx} {ρ:Ro} {F:Fm}
theorem kU (h:Sim E c0 c ρ S F) {ids:List Nat} {Hin:List Blk} (hi:eI S.H ids ids Hin) {x:Nat} (hx:x∈cu ρ ids): ∃i a,i∈ids∧ah S.H i=some a∧aX a=true∧an ρ i=some x:=by
 obtain ⟨hlen,hget⟩:=mx hi
 obtain ⟨i,hm,hb⟩:=List.mem_filterMap.1 hx
 obtain ⟨j,hj,e⟩:=List.getElem_of_mem hm
 have hjH:j<Hin.length:=by omega
 obtain ⟨a,h1,h2,_⟩:=nU (hget j i Hin[j] (by rw [List.getElem?_eq_getElem hj,e]) (List.getElem?_eq_getElem hjH))
 exact ⟨i,a,hm,h1,h2,hb⟩
theorem zy (h:bg E c0 c ρ S F) {ids:List Nat} {Hin Hout Hnew:List Blk} (hd:ids.Nodup) (hi:eI S.H ids ids Hin) (hk:hP Hin Hout=true) (hn:kS Hnew=true) {c':Cx} {ρr:Ro} {r:V} {v:Value}
  (hle:(c.lend (cu ρ ids)).leY c') (hr:rd ρr c' r v) (hH:nT (c.lend (cu ρ ids)) c' ρr (cf (cU ρ ids) 0 Hout++Hnew)) (d:Option Nat):
  bg E c0 c' (ro2 ids S.nx ρ ρr) (S.afterI ids Hout Hnew d r) (ci F d v):=by
 obtain ⟨hlen,hget⟩:=mx hi
 obtain ⟨hkl,hkk⟩:=uF hk
 have hlO:(cf (cU ρ ids) 0 Hout).length=ids.length:=by rw [qH];omega
 have hlt: ∀i∈ids,i<S.nx:=by
  intro i hm
  obtain ⟨j,hj,e⟩:=List.getElem_of_mem hm
  obtain ⟨a,h1,_⟩:=nU (hget j i Hin[j] (by rw [List.getElem?_eq_getElem hj,e]) (List.getElem?_eq_getElem (by omega)))
  obtain ⟨x,hx⟩:=zp (h.1.heap i a h1)
  rcases Nat.lt_or_ge i S.nx with h2|h2
  ·exact h2
  ·rw [h.2 i h2] at hx;cases hx
 have hYX: ∀x,x∈cu ρ ids→c0.mine x:=by
  intro x hx
  obtain ⟨i,a,_,h2,h3,h4⟩:=kU h.1 hi hx
  exact iM h.1 h2 h3 x h4
 have hYlt: ∀x,x∈cu ρ ids→x<c.w.heap.size:=by
  intro x hx
  obtain ⟨i,a,_,h2,h3,h4⟩:=kU h.1 hi hx
  exact eo h3 (h.1.heap i a h2) x h4
 have hYp: ∀x,x∈cu ρ ids→x∈c.X:=by
  intro x hx
  obtain ⟨i,a,_,h2,h3,h4⟩:=kU h.1 hi hx
  have hb:=h.1.heap i a h2
  cases a with
  | var n g d=>obtain ⟨b,g1,_,g3⟩:=hb;simp only [an,g1,Option.some.injEq] at h4;subst h4;exact g3.1
  | lent b n g d=>obtain ⟨g1,_,g3⟩:=hb;simp only [an,g1,Option.some.injEq] at h4;subst h4;exact g3.1
  | own T n g z l=>obtain ⟨u,g1,g2,_,_,a,cap,e,_⟩:=hb;rw [dD g1 e] at h4;exact g2.isX x h4
  | ownI T n g z l=>obtain ⟨u,g1,g2,_,_,a,cap,e,_⟩:=hb;rw [dD g1 e] at h4;exact g2.isX x h4
  | kset g k' n l=>obtain ⟨r,g1,_,g3⟩:=hb;simp only [an,g1,blk,Option.some.injEq] at h4;subst h4;exact g3.1
  | pvar n g d=>cases h3
  | pown n g z l=>cases h3
 have hpub:c.pub c':=⟨hle.below.size,fun x hx hnX=>⟨fun h'=>hnX ((hle.old x hx (fun hy=>hnX (hYp x hy))).1 h'),fun o ho _=>(hle.below.block x hx (fun hy=>hnX (hYp x hy))).trans ho⟩⟩
 have hsince:cn c0 c':=by
  refine ⟨⟨hle.below.os.trans h.1.since.below.os,hle.below.tape.trans h.1.since.below.tape,hle.below.output.trans h.1.since.below.output,Nat.le_trans h.1.since.size hle.below.size,?_⟩,?_,fun x hx hnX h'=>(h.1.since.Xn x hx hnX) (by
   by_cases hY:x∈cu ρ ids
   ·exact hYp x hY
   ·exact (hle.old x (Nat.lt_of_lt_of_le hx h.1.since.size) hY).1 h')⟩
  ·intro x hx hy
   refine (hle.below.block x (Nat.lt_of_lt_of_le hx h.1.since.size) (fun hY=> ?_)).trans (h.1.since.below.block x hx hy)
   rcases hYX x hY with h1|h1
   ·omega
   ·exact hy h1
  ·intro x hx hy
   have hxX:=h.1.since.X x hx hy
   refine (hle.old x (c.ok x hxX) (fun hY=> ?_)).2 hxX
   rcases hYX x hY with h1|h1
   ·have:=c0.ok x hx;omega
   ·exact hy h1
 have hmine: ∀x,(c.lend (cu ρ ids)).mine x→c0.mine x:=by
  rintro x (h1|h1)
  ·exact .inl (Nat.le_trans h.1.since.size h1)
  ·exact hYX x h1
 -- names
 have hsg: ∀j x,ρr j=some x→ro2 ids S.nx ρ ρr (sg ids S.nx j)=some x:=fun j x hx=>(GE hd hlt j).trans hx
 have hnew: ∀i,S.nx≤i→ro2 ids S.nx ρ ρr i=ρr (ids.length+(i - S.nx)):=fun i hi=>zx hlt hi
 have hold: ∀i b,ah S.H i=some b→i<S.nx:=by
  intro i b hb
  obtain ⟨x,hx⟩:=zp (h.1.heap i b hb)
  rcases Nat.lt_or_ge i S.nx with h2|h2
  ·exact h2
  ·rw [h.2 i h2] at hx;cases hx
 -- what the call gives back under a lent name
 have hback: ∀j i,ids[j]? =some i→ ∃b a,Hout[j]? =some b∧ah S.H i=some a∧((iY b∧ ∀x,ρ i=some x→ρr j=some x)∨(dR b∧ ∃T n g z l,a= .own T n g z l))∧blkOk c0 c' (ro2 ids S.nx ρ ρr) i (hZ (ah S.H i) (hO (sg ids S.nx) b)):=by
  intro j i hj
  have hjl:=(List.getElem?_eq_some_iff.1 hj).1
  have hHi:Hin[j]? =some Hin[j]:=List.getElem?_eq_getElem (by omega)
  have hHo:Hout[j]? =some Hout[j]:=List.getElem?_eq_getElem (by omega)
  have hin:=hget j i _ hj hHi
  have hkj:=hkk j _ _ hHi hHo
  generalize Hin[j]=bi at hin hkj hHi
  generalize Hout[j]=bo at hkj hHo
  have hblk:blkOk (c.lend (cu ρ ids)) c' ρr j (fF (cU ρ ids j) bo):=by
   refine hH.1 j _ ?_
   rw [List.getElem?_append_left (by omega),mw,Nat.zero_add,hHo];rfl
  have hro:ro2 ids S.nx ρ ρr i=ρr j:=qK hd hj
  cases hS:ah S.H i with
  | none=>rw [hS] at hin;unfold inO at hin;exact hin.elim
  | some a=>
   have hold:=h.1.heap i a hS
   rw [hS] at hin
   have var: ∀{n g d} {b:Nat},bo= .var n g d→cU ρ ids j=b→ρ i=some (.pointer (some ⟨b,0,none⟩))→an ρ i=some b→c0.mine b∧ρr j=some (.pointer (some ⟨b,0,none⟩))∧Var c' b (rV (ro2 ids S.nx ρ ρr) n g) (ren (sg ids S.nx) d):=by
    intro n g d b e hb hp hbo
    subst e
    simp only [fF,hb] at hblk
    obtain ⟨g1,g2,g3,T,cs,g4,g5,g6⟩:=hblk
    exact ⟨hmine b g2,g1,g3,T,cs,g4,g5,qG hsg g6⟩
   unfold inO at hin
   split at hin
   ·rename_i T n g z l T' n' g' z' l' e
    cases e
    rcases hkj with ⟨h1,_⟩|⟨_,h1⟩
    ·exact h1.elim
    ·refine ⟨bo,_,hHo,rfl,.inr ⟨h1,_,_,_,_,_,rfl⟩,?_⟩
     cases bo<;>simp only [dR] at h1
     simp only [fF] at hblk
     obtain ⟨x,g1,g2,g3,g4,g5⟩:=hblk
     simp only [hO,hZ]
     exact ⟨x,hro.trans g1,g2,fun k hk=>hmine k (g3 k hk),g4,g5⟩
   ·rename_i n g d n' g' d' e
    cases e
    rcases hkj with ⟨_,h1⟩|⟨h1,_⟩
    ·obtain ⟨b,g1,_⟩:=hold
     have hbo:an ρ i=some b:=by simp [an,g1]
     cases bo<;>simp only [iY] at h1
     obtain ⟨k1,k2,k3⟩:=var rfl (by simp [cU,hj,hbo]) g1 hbo
     refine ⟨_,_,hHo,rfl,.inl ⟨trivial,fun x hx=> ?_⟩,?_⟩
     ·rw [g1] at hx;cases hx;exact k2
     ·simp only [hO,hZ]
      exact ⟨b,hro.trans k2,k1,k3⟩
    ·exact h1.elim
   ·rename_i k0 n g d n' g' d' e
    cases e
    rcases hkj with ⟨_,h1⟩|⟨h1,_⟩
    ·obtain ⟨g1,_⟩:=hold
     have hbo:an ρ i=some k0:=by simp [an,g1]
     cases bo<;>simp only [iY] at h1
     obtain ⟨k1,k2,k3⟩:=var rfl (by simp [cU,hj,hbo]) g1 hbo
     refine ⟨_,_,hHo,rfl,.inl ⟨trivial,fun x hx=> ?_⟩,?_⟩
     ·rw [g1] at hx;cases hx;exact k2
     ·simp only [hO,hZ]
      exact ⟨hro.trans k2,k1,k3⟩
    ·exact h1.elim
   ·exact hin.elim
 have hpr: ∀i x,bw (dS S.H ids) i=false→ρ i=some x→ro2 ids S.nx ρ ρr i=some x:=by
  intro i x hp hx
  have hilt:i<S.nx:=by
   rcases Nat.lt_or_ge i S.nx with h2|h2
   ·exact h2
   ·rw [h.2 i h2] at hx;cases hx
  by_cases hm:i∈ids
  ·obtain ⟨j,hj,e⟩:=List.getElem_of_mem hm
   have hj':ids[j]? =some i:=by rw [List.getElem?_eq_getElem hj,e]
   obtain ⟨b,a,_,h2,h3,_⟩:=hback j i hj'
   rcases h3 with ⟨_,h3⟩|⟨_,T,n,g,z,l,rfl⟩
   ·rw [qK hd hj'];exact h3 x hx
   ·have:=et.2 (zt h2 hm)
    rw [hp] at this;cases this
  ·rw [my hm hilt];exact hx
 -- the blocks behind the call
 have hcase: ∀i b,ah (fZ S.nx 0 (eG (sg ids S.nx) Hnew)++gA S.H (prH (bw (dS S.H ids)) S.H) ids (eG (sg ids S.nx) Hout)) i=some b→
   (∃(q:Nat) (b0:Blk),i=S.nx+q∧Hnew[q]? =some b0∧b=hO (sg ids S.nx) b0)∨(∃(j:Nat) (b0:Blk),ids[j]? =some i∧Hout[j]? =some b0∧b=hZ (ah S.H i) (hO (sg ids S.nx) b0))∨(i∉ids∧ ∃b0,ah S.H i=some b0∧b=prB (bw (dS S.H ids)) b0):=by
  intro i b hb
  have rest:ah (gA S.H (prH (bw (dS S.H ids)) S.H) ids (eG (sg ids S.nx) Hout)) i=some b→(∃(j:Nat) (b0:Blk),ids[j]? =some i∧Hout[j]? =some b0∧b=hZ (ah S.H i) (hO (sg ids S.nx) b0))∨(i∉ids∧ ∃b0,ah S.H i=some b0∧b=prB (bw (dS S.H ids)) b0):=by
   intro hb
   by_cases hm:i∈ids
   ·obtain ⟨j,hj,e⟩:=List.getElem_of_mem hm
    have hj':ids[j]? =some i:=by rw [List.getElem?_eq_getElem hj,e]
    obtain ⟨b0,_,h1,_⟩:=hback j i hj'
    have:=zu (H0:=S.H) (h:=prH (bw (dS S.H ids)) S.H) (m:=eG (sg ids S.nx) Hout) hd hj' (by rw [uD,h1];rfl)
    rw [this] at hb
    cases hb
    exact .inl ⟨j,b0,hj',h1,rfl⟩
   ·rw [uH hm,zo] at hb
    cases hS:ah S.H i with
    | none=>rw [hS] at hb;cases hb
    | some b0=>rw [hS] at hb;cases hb;exact .inr ⟨hm,b0,rfl,rfl⟩
  simp only [l7,pS,Nat.add_zero] at hb
  by_cases h1:S.nx≤i
  ·rw [if_pos h1,uD] at hb
   cases hq:Hnew[i - S.nx]? with
   | some x=>rw [hq] at hb;simp only [Option.map_some,Option.some.injEq] at hb;exact .inl ⟨i - S.nx,x,by omega,hq,hb.symm⟩
   | none=>rw [hq] at hb;exact .inr (rest hb)
  ·rw [if_neg h1] at hb;exact .inr (rest hb)
 have hnewOk: ∀q b,Hnew[q]? =some b→(∃T n g z l,b= .own T n g z l)∧blkOk (c.lend (cu ρ ids)) c' ρr (ids.length+q) b:=by
  intro q b hq
  have h1:=uG hn q b hq
  refine ⟨?_,hH.1 (ids.length+q) b ?_⟩
  ·cases b<;>simp only [dR] at h1
   exact ⟨_,_,_,_,_,rfl⟩
  ·rw [List.getElem?_append_right (by omega),hlO,Nat.add_sub_cancel_left];exact hq
 have hput: ∀(S':St),bg E c0 c' (ro2 ids S.nx ρ ρr) S' F→bg E c0 c' (ro2 ids S.nx ρ ρr) (S'.put d (ren (sg ids S.nx) r)) (ci F d v):=
  fun S' hS=>l6 hS (qG hsg hr)
 refine hput _ ⟨⟨hsince,h.1.gl.mono hpub,?_,?_,?_⟩,?_⟩
 ·intro t x ht
  simp only [zn,Option.map_eq_some_iff] at ht
  obtain ⟨x0,hx0,rfl⟩:=ht
  exact mv hpr (bB hpub (h.1.slot t x0 hx0))
 ·intro i b hb
  rcases hcase i b hb with ⟨q,b0,rfl,hq,rfl⟩|⟨j,b0,hj,hb0,rfl⟩|⟨hm,b0,hS,rfl⟩
  ·obtain ⟨⟨T,n,g,z,l,rfl⟩,x,g1,g2,g3,g4⟩:=hnewOk q _ hq
   refine ⟨x,?_,g2,fun k hk=>hmine k (g3 k hk),g4⟩
   rw [hnew _ (Nat.le_add_right _ _),Nat.add_sub_cancel_left];exact g1
  ·obtain ⟨b1,a,h1,_,_,h4⟩:=hback j i hj
   rw [hb0] at h1;cases h1
   exact h4
  ·refine GG hpr (fun x hx=> ?_) (GF hle hpub (fun hp x hx hY=> ?_) (h.1.heap i b0 hS))
   ·rw [my hm (hold i b0 hS)];exact hx
   ·obtain ⟨i',a,h1,h2,h3,h4⟩:=kU h.1 hi hY
    exact h.1.sep i i' b0 a x (fun e=>hm (e▸h1)) hS h2 hp h3 hx h4
 ·-- apart
  have hname: ∀i b,ah (fZ S.nx 0 (eG (sg ids S.nx) Hnew)++gA S.H (prH (bw (dS S.H ids)) S.H) ids (eG (sg ids S.nx) Hout)) i=some b→aX b=true→
    (∃(q:Nat) (bq:Blk),(cf (cU ρ ids) 0 Hout++Hnew)[q]? =some bq∧ro2 ids S.nx ρ ρr i=ρr q∧i=sg ids S.nx q∧ ∀x,an ρr q=some x→(c.lend (cu ρ ids)).mine x)∨(i∉ids∧i<S.nx∧ ∃b0,ah S.H i=some b0∧aX b0=true):=by
   intro i b hb hp
   have hm9: ∀q bq,(cf (cU ρ ids) 0 Hout++Hnew)[q]? =some bq→aX bq=true→ ∀x,an ρr q=some x→(c.lend (cu ρ ids)).mine x:=by
    intro q bq hq hpq x hx
    have hb:=hH.1 q bq hq
    cases bq with
    | var n g d=>obtain ⟨b,g1,g2,_⟩:=hb;simp only [an,g1,Option.some.injEq] at hx;subst hx;exact g2
    | lent b n g d=>obtain ⟨g1,g2,_⟩:=hb;simp only [an,g1,Option.some.injEq] at hx;subst hx;exact g2
    | own T n g z l=>obtain ⟨u,g1,g2,g3,_,a,cap,e,_⟩:=hb;rw [dD g1 e] at hx;exact g3 x hx
    | ownI T n g z l=>obtain ⟨u,g1,g2,g3,_,a,cap,e,_⟩:=hb;rw [dD g1 e] at hx;exact g3 x hx
    | kset g k' n l=>obtain ⟨r,g1,g2,_⟩:=hb;simp only [an,g1,blk,Option.some.injEq] at hx;subst hx;exact g2
    | pvar n g d=>cases hpq
    | pown n g z l=>cases hpq
   rcases hcase i b hb with ⟨q,b0,rfl,hq,rfl⟩|⟨j,b0,hj,hb0,rfl⟩|⟨hm,b0,hS,rfl⟩
   ·obtain ⟨⟨T,n,g,z,l,rfl⟩,_⟩:=hnewOk q b0 hq
    have hq':(cf (cU ρ ids) 0 Hout++Hnew)[ids.length+q]? =some (.own T n g z l):=by
     rw [List.getElem?_append_right (by omega),hlO,Nat.add_sub_cancel_left];exact hq
    refine .inl ⟨ids.length+q,_,hq',?_,?_,hm9 _ _ hq' rfl⟩
    ·rw [hnew _ (Nat.le_add_right _ _),Nat.add_sub_cancel_left]
    ·simp only [sg,List.getElem?_eq_none (Nat.le_add_right _ _),Nat.add_sub_cancel_left]
   ·have hjl:=(List.getElem?_eq_some_iff.1 hj).1
    have hq':(cf (cU ρ ids) 0 Hout++Hnew)[j]? =some (fF (cU ρ ids j) b0):=by
     rw [List.getElem?_append_left (by omega),mw,Nat.zero_add,hb0];rfl
    refine .inl ⟨j,_,hq',qK hd hj,by simp only [sg,hj],hm9 _ _ hq' ?_⟩
    obtain ⟨b1,a,h1,_,h3,_⟩:=hback j i hj
    rw [hb0] at h1;cases h1
    rcases h3 with ⟨h3,_⟩|⟨h3,_⟩<;>cases b0<;>simp only [iY,dR] at h3<;>rfl
   ·exact .inr ⟨hm,hold i b0 hS,b0,hS,by rw [GB] at hp;exact hp⟩
  intro i j bi bj x hij hbi hbj hpi hpj hx hx'
  rcases hname i bi hbi hpi with ⟨q,bq,hq,e,ei,hmq⟩|⟨hm,hl,b0,hS,hp0⟩<;>rcases hname j bj hbj hpj with ⟨q',bq',hq',e',ej,hmq'⟩|⟨hm',hl',b0',hS',hp0'⟩
  ·rw [blkOf_eq2 e] at hx
   rw [blkOf_eq2 e'] at hx'
   exact hH.2.2 q q' bq bq' x (fun eq=>hij (by rw [ei,ej,eq])) hq hq' hx hx'
  ·rw [blkOf_eq2 e] at hx
   rw [cB (my hm' hl')] at hx'
   have hlt':=eo hp0' (h.1.heap j b0' hS') x hx'
   rcases hmq x hx with h1|h1
   ·have h1:c.w.heap.size≤x:=h1
    omega
   ·obtain ⟨i',a,h1,h2,h3,h4⟩:=kU h.1 hi h1
    exact h.1.sep i' j a b0' x (fun e=>hm' (e▸h1)) h2 hS' h3 hp0' h4 hx'
  ·rw [blkOf_eq2 e'] at hx'
   rw [cB (my hm hl)] at hx
   have hlt':=eo hp0 (h.1.heap i b0 hS) x hx
   rcases hmq' x hx' with h1|h1
   ·have h1:c.w.heap.size≤x:=h1
    omega
   ·obtain ⟨i',a,h1,h2,h3,h4⟩:=kU h.1 hi h1
    exact h.1.sep i' i a b0 x (fun e=>hm (e▸h1)) h2 hS h3 hp0 h4 hx
  ·rw [cB (my hm hl)] at hx
   rw [cB (my hm' hl')] at hx'
   exact h.1.sep i j b0 b0' x hij hS hS' hp0 hp0' hx hx'
 ·intro i hi'
  simp only at hi'
  rw [hnew i (by omega)]
  exact hH.2.1 _ (by rw [List.length_append,hlO];omega)
where blkOf_eq2 {ρ ρ':Ro} {i j:Nat} (h:ρ' i=ρ j):an ρ' i=an ρ j:=by unfold an;rw [h]
theorem dc {f:FuncId} {caps vs:List V} {d:Option Nat} {ws:List V} {r:V} {Hin Hout Hnew:List Blk} (ids:List Nat) (hc:cZ E f ws Hin r Hout Hnew) (hd:ids.Nodup) (hi:eI S.H ids ids Hin) (hm:mtL (eH S.H ids (vs++caps)) ws)
  (h:wfV r→aM E J k .normal (S.afterI ids Hout Hnew d r)):eC E J (some (.fn f caps)) (some vs) S d k:=by
 refine .inr ⟨hc.1,_,r,?_,h⟩
 intro c0 c ρ F us hs hus
 have hk:=hc.2.1
 simp only [Bool.and_eq_true] at hk
 have hrd:=gg hm (kT (ids:=ids) hs.1 hus)
 refine (show Calls E.P f us.toArray c.w _ from hc.2.2 (c.lend (cu ρ ids)) us (bY ρ ids) (cU ρ ids) (hs.1.gl.mono (c.pub_lend _)) (qL hs.1 hd hi) (dZ (c.pub_lend _) hrd)).mono ?_
 rintro e w' ⟨v,c',ρr,rfl,rfl,hle,hr,hH⟩
 exact ⟨v,c',_,rfl,rfl,zy hs hd hi hk.1 hk.2 hle hr hH d,iK hr⟩
theorem zz {f:FuncId} {caps vs:List V} {d:Option Nat} {ws:List V} {r:V} {Hin Hout Hnew:List Blk} (ids:List Nat) (hc:cZ E f ws Hin r Hout Hnew) (hw:g_ E S S1) (hd:ids.Nodup) (hi:eI S1.H ids ids Hin) (hm:mtL (eH S1.H ids (vs++caps)) ws)
  (h:wfV r→aM E J k .normal (S1.afterI ids Hout Hnew d r)):eC E J (some (.fn f caps)) (some vs) S d k:=by
 refine .inr ⟨hc.1,_,r,?_,h⟩
 intro c0 c0' ρ0 F us hs0 hus0
 obtain ⟨c,ρ,ew,hpb,hro,hs⟩:=hw c0 c0' ρ0 F hs0
 have hus:=lQ hro (dZ hpb hus0)
 have hk:=hc.2.1
 simp only [Bool.and_eq_true] at hk
 have hrd:=gg hm (kT (ids:=ids) hs.1 hus)
 rw [←ew]
 refine (show Calls E.P f us.toArray c.w _ from hc.2.2 (c.lend (cu ρ ids)) us (bY ρ ids) (cU ρ ids) (hs.1.gl.mono (c.pub_lend _)) (qL hs.1 hd hi) (dZ (c.pub_lend _) hrd)).mono ?_
 rintro e w' ⟨v,c',ρr,rfl,rfl,hle,hr,hH⟩
 exact ⟨v,c',_,rfl,rfl,zy hs hd hi hk.1 hk.2 hle hr hH d,iK hr⟩
theorem zA {f:FuncId} {caps vs:List V} {d:Option Nat} {ws:List V} {r:V} {Hin Hout Hnew:List Blk} (ids:List Nat) (hc:cZ E f ws Hin r Hout Hnew) (hw:eF E S S1) (hd:ids.Nodup) (hi:eI S1.H ids ids Hin) (hm:mtL (eH S1.H ids (vs++caps)) ws)
  (h:wfV r→aM E J k .normal (S1.afterI ids Hout Hnew d r)):eC E J (some (.fn f caps)) (some vs) S d k:=zz ids hc hw.toQ hd hi hm h
theorem zB {c c':Cx} {n:Nat} {g:Bool}: ∀{l:List V} {cs:List Value},ft l→bf (rV ro0 n g) c cs l→bf (rV ro0 n g) c' cs l
 | [],_,_,h=>h
 | a::l,cs,hf,h=>by
  simp only [ft,bf] at hf h⊢
  obtain ⟨c1,c2,e,⟨h1,h2⟩,h3⟩:=h
  exact ⟨c1,c2,e,⟨h1,nw hf.1 h2⟩,zB hf.2 h3⟩
theorem zC {α:Type} {f:α→V} (h: ∀x,db (f x)): ∀{l:List α},ft (l.map f)
 | []=>trivial
 | a::l=>⟨h a,zC h⟩
section
variable {D:Dr} {m i:Nat} {ll:List Oper} {R:List (Nat×bd)}
theorem GH {f:FuncId} {caps vs ws:List V} {d:Option Nat} {T n:Nat} {g:Bool} {z z':Option Bool} {l l':List V} (id:Nat) (hc:cZ E f ws [.own T n g z l] (.own 0) [.own T n g z' l'] []) (hm:(bC D.ub i id&& !decide (id=S.nx))=true) (hi:eI S.H [id] [id] [.own T n g z l]) (ha:mtL (eH S.H [id] (vs++caps)) ws) (hfl:ft l')
  (h:bW E D m (i+1) ll ((i,⟨d,.own S.nx,some (S.nx,.own T n g z' l')⟩)::R)):fB E D m i ll R d S (some (.fn f caps)) (some vs):=by
 obtain ⟨hlen,hget⟩:=mx hi
 obtain ⟨b0,hb0,hp0,_⟩:=nU (hget 0 id _ rfl rfl)
 refine .inr (.inr ⟨hc.1,id,T,n,g,z',l',hm,⟨b0,hb0,hp0⟩,fun c0 c ρ F us hs hus=> ?_,h⟩)
 have hrd:=gg ha (kT (ids:=[id]) hs hus)
 refine (show Calls E.P f us.toArray c.w _ from hc.2.2 (c.lend (cu ρ [id])) us (bY ρ [id]) (cU ρ [id]) (hs.gl.mono (c.pub_lend _)) (qL hs (by simp) hi) (dZ (c.pub_lend _) hrd)).mono ?_
 rintro e w' ⟨v,c',ρr,rfl,rfl,hle,hr,hH⟩
 obtain ⟨v',e1,hown,hge,hone,a,cap,es,hz⟩:=hH.1 0 _ rfl
 simp only [rd] at hr
 have ev:v'=v:=by rw [hr.1] at e1;exact (Option.some.inj e1).symm
 subst ev
 have hY: ∀k,k∈cu ρ [id]↔an ρ id=some k:=by
  intro k
  simp only [cu,List.mem_filterMap,List.mem_singleton]
  exact ⟨fun ⟨i,hi,hb⟩=>hi▸hb,fun hb=>⟨id,rfl,hb⟩⟩
 have hYlt: ∀k,k∈cu ρ [id]→k<c.w.heap.size:=fun k hk=>eo hp0 (hs.heap id b0 hb0) k ((hY k).1 hk)
 have hYX: ∀k,k∈cu ρ [id]→k∈c.X:=by
  intro k hk
  obtain ⟨i',a,h1,h2,h3,h4⟩:=kU hs hi hk
  have hb:=hs.heap i' a h2
  cases a with
  | var n g d=>obtain ⟨b,g1,_,g3⟩:=hb;simp only [an,g1,Option.some.injEq] at h4;subst h4;exact g3.1
  | lent b n g d=>obtain ⟨g1,_,g3⟩:=hb;simp only [an,g1,Option.some.injEq] at h4;subst h4;exact g3.1
  | own T n g z l=>obtain ⟨u,g1,g2,_,_,a,cap,e,_⟩:=hb;rw [dD g1 e] at h4;exact g2.isX k h4
  | ownI T n g z l=>obtain ⟨u,g1,g2,_,_,a,cap,e,_⟩:=hb;rw [dD g1 e] at h4;exact g2.isX k h4
  | kset g k' n l=>obtain ⟨r,g1,_,g3⟩:=hb;simp only [an,g1,blk,Option.some.injEq] at h4;subst h4;exact g3.1
  | pvar n g d=>cases h3
  | pown n g z l=>cases h3
 refine ⟨v',{X:=cu ρ [id]++c'.X,w:=c'.w,ok:=fun k hk=> ?_},rfl,rfl,⟨hle.below.os,hle.below.tape,hle.below.output,hle.below.size,fun k hk hne=>hle.below.block k hk (fun hy=>hne ((hY k).1 hy)),fun k hk=> ?_,fun k hk=>hYX k ((hY k).2 hk)⟩,⟨hown.1,?_⟩,fun k hk=> ?_,hone,a,cap,es,hz⟩
 ·rcases List.mem_append.1 hk with hk|hk
  ·exact Nat.lt_of_lt_of_le (hYlt k hk) hle.below.size
  ·exact c'.ok k hk
 ·simp only [List.mem_append]
  by_cases hy:k∈cu ρ [id]
  ·exact ⟨fun _=>hYX k hy,fun _=> .inl hy⟩
  ·exact ⟨fun h'=>(hle.old k hk hy).1 (h'.resolve_left hy),fun h'=> .inr ((hle.old k hk hy).2 h')⟩
 ·rcases hown.2 with h'|⟨g',cp,cur,e,k1,k2,k3,k4,k5,k6⟩
  ·exact .inl h'
  ·exact .inr ⟨g',cp,cur,e,List.mem_append.2 (.inr k1),k2,k3,k4,k5,zB hfl k6⟩
 ·rcases hge k hk with h'|h'
  ·exact .inr h'
  ·exact .inl ((hY k).1 h')
theorem GI {f:FuncId} {caps vs ws:List V} {d:Option Nat} {n:Nat} {g:Bool} {d0 d1 r:V} (id:Nat) {b0 b1:Blk} (hc:cZ E f ws [.var n g d0] r [.var n g d1] []) (hb0:ah S.H id=some b0) (hb1:hZ (some b0) (.var n g d1)=b1) (hm:bC D.ub i id=true) (hi:eI S.H [id] [id] [.var n g d0]) (ha:mtL (eH S.H [id] (vs++caps)) ws) (hpr:dh r) (hpd:dh d1)
  (h:bW E D m (i+1) ll ((i,⟨d,r,some (id,b1)⟩)::R)):fB E D m i ll R d S (some (.fn f caps)) (some vs):=by
 obtain ⟨hlen,hget⟩:=mx hi
 have hin:=hget 0 id _ rfl rfl
 rw [hb0] at hin
 have hk:aX b1=true:=by
  subst hb1
  cases b0<;>rfl
 refine .inr (.inl ⟨hc.1,r,id,b1,hm,hk,⟨b0,hb0,?_⟩,fun c0 c ρ F us hs hus=> ?_,h⟩)
 ·obtain ⟨a,e,h1,_⟩:=nU hin
  cases e;exact h1
 have hrd:=gg ha (kT (ids:=[id]) hs hus)
 refine (show Calls E.P f us.toArray c.w _ from hc.2.2 (c.lend (cu ρ [id])) us (bY ρ [id]) (cU ρ [id]) (hs.gl.mono (c.pub_lend _)) (qL hs (by simp) hi) (dZ (c.pub_lend _) hrd)).mono ?_
 rintro e w' ⟨v,c',ρr,rfl,rfl,hle,hr,hH⟩
 obtain ⟨e1,hmi,hv1,T,cs,g4,g5,g6⟩:=hH.1 0 _ rfl
 have hblk:=hs.heap id b0 hb0
 have key: ∃k,ρ id=some (.pointer (some ⟨k,0,none⟩))∧c0.mine k∧k∈c.X∧(∀q,b0= .lent q n g d0→True):=by
  cases b0 with
  | var n' g' d'=>
   obtain ⟨b,h1,h2,h3⟩:=hblk
   exact ⟨b,h1,h2,h3.1,fun _ _=>trivial⟩
  | lent q n' g' d'=>
   obtain ⟨h1,h2,h3⟩:=hblk
   exact ⟨_,h1,h2,h3.1,fun _ _=>trivial⟩
  | _=>simp only [inO] at hin
 obtain ⟨k,hk1,hk2,hk3,_⟩:=key
 have hbo:an ρ id=some k:=by simp [an,hk1]
 have hK:cU ρ [id] 0=k:=by simp [cU,hbo]
 rw [hK] at e1 hmi hv1 g4
 have hY: ∀q,q∈cu ρ [id]↔q=k:=by
  intro q
  simp only [cu,List.mem_filterMap,List.mem_singleton]
  constructor
  ·rintro ⟨i,rfl,hb⟩;rw [hbo] at hb;exact (Option.some.inj hb).symm
  ·rintro rfl;exact ⟨id,rfl,hbo⟩
 refine ⟨v,c',rfl,rfl,⟨hle.below.os,hle.below.tape,hle.below.output,hle.below.size,fun q hq hne=>hle.below.block q hq (fun hy=>hne (by rw [hbo,(hY q).1 hy])),fun q hq=> ?_,fun q hq=> ?_⟩,?_,jx hpr hr⟩
 ·by_cases hq':q=k
  ·subst hq';exact ⟨fun _=>hk3,fun _=>hv1⟩
  ·exact hle.old q hq (fun hy=>hq' ((hY q).1 hy))
 ·rw [hbo] at hq;cases hq;exact hk3
 ·have hvar:Var c' k (rV ρ n g) d1:=⟨hv1,T,cs,g4,g5,jx hpd g6⟩
  subst hb1
  cases b0 with
  | var n' g' d'=>exact ⟨k,hk1,hk2,hvar⟩
  | lent q n' g' d'=>
   obtain ⟨h1,_⟩:=hblk
   rw [hk1] at h1
   cases h1
   exact ⟨hk1,hk2,hvar⟩
  | _=>simp only [inO] at hin
end
def qM (E:Env) (S:St) (ks:Nat→Nat) (v r:V) (Hout Hnew:List Blk):Prop:=
 ∀c0 c ρ F u,bg E c0 c ρ S F→rd ρ c v u→ ∃c1 ρ1,c1.w=c.w∧c0.leY c1∧rd ρ1 c1 r u∧nT c0 c1 ρ1 (cf ks 0 Hout++Hnew)
def nV (E:Env) (rs:List ResultVar) (ks:Nat→Nat) (r:V) (Hout Hnew:List Blk):Exit→St→Prop
 | .ret,S=>match fx E.tb S rs with
  | some vs=>qM E S ks (eB vs) r Hout Hnew
  | none=>False
 | .normal,S=>match fx E.tb S rs with
  | some vs=>qM E S ks (eB vs) r Hout Hnew
  | none=>False
 | _,_=>False
def uI (E:Env) (S:St) (ks:Nat→Nat) (r:V) (Hout Hnew:List Blk):Option (List V)→Prop
 | some vs=>qM E S ks (eB vs) r Hout Hnew
 | none=>False
theorem GJ {rs:List ResultVar} {ks:Nat→Nat} {r:V} {Hout Hnew:List Blk}:nV E rs ks r Hout Hnew .ret S=uI E S ks r Hout Hnew (fx E.tb S rs):=Eq.trans rfl rfl
theorem GK {rs:List ResultVar} {ks:Nat→Nat} {r:V} {Hout Hnew:List Blk}:nV E rs ks r Hout Hnew .normal S=uI E S ks r Hout Hnew (fx E.tb S rs):=Eq.trans rfl rfl
def kV (H:List (Nat×Blk)) (ids:List Nat):Option Blk→Blk→Prop
 | some (.own T n g z l),.own T' n' g' z' l'=>T=T'∧n=n'∧g=g'∧mtZ z z'∧mtL l l'
 | some (.lent k n g d),.lent k' n' g' d'=>k=k'∧n=n'∧g=g'∧mt (fc H ids d) d'
 | _,_=>False
def jN (H:List (Nat×Blk)) (ids:List Nat):List Nat→List Blk→Prop
 | [],[]=>True
 | i::l,b::m=>kV H ids (ah H i) b∧jN H ids l m
 | _,_=>False
theorem zD {H:List (Nat×Blk)} {ids:List Nat}: ∀{l:List Nat} {m:List Blk},jN H ids l m→l.length=m.length∧ ∀(j i:Nat) (b:Blk),l[j]? =some i→m[j]? =some b→kV H ids (ah H i) b
 | [],[],_=>⟨rfl,by simp⟩
 | i::l,b::m,h=>by
  simp only [jN] at h
  obtain ⟨h1,h2⟩:=zD h.2
  refine ⟨by simp [h1],fun j i' b' hi hb=> ?_⟩
  cases j with
  | zero=>simp at hi hb;subst hi hb;exact h.1
  | succ j=>exact h2 j i' b' (by simpa using hi) (by simpa using hb)
 | [],_::_,h=>by simp [jN] at h
 | _::_,[],h=>by simp [jN] at h
theorem GL {H:List (Nat×Blk)} {ids:List Nat} {o:Option Blk} {b:Blk} (h:kV H ids o b): ∃a,o=some a∧aX a=true:=by
 unfold kV at h
 split at h
 ·exact ⟨_,rfl,rfl⟩
 ·exact ⟨_,rfl,rfl⟩
 ·exact h.elim
def Cx.giveI (c0 c:Cx) (L:List Nat) (h0:c0.w.heap.size≤c.w.heap.size) (h: ∀k∈L,k<c.w.heap.size):Cx:=
 {X:=c0.X.filter (fun k=>k∉c0.Y)++L,w:=c.w,ok:=fun k hk=>(by
  rcases List.mem_append.1 hk with hk|hk
  ·exact Nat.lt_of_lt_of_le (c0.ok k (List.mem_filter.1 hk).1) h0
  ·exact h k hk)}
theorem GM {c0 c:Cx} {L:List Nat} {h0:c0.w.heap.size≤c.w.heap.size} {h: ∀k∈L,k<c.w.heap.size} {x:Nat}:x∈(Cx.giveI c0 c L h0 h).X↔(x∈c0.X∧x∉c0.Y)∨x∈L:=by
 simp [Cx.giveI]
theorem GN {ks:Nat→Nat} {v r:V} {Hout Hnew:List Blk} (ids:List Nat) (ho:jN S.H ids ids (cf ks 0 Hout++Hnew)) (hd:ids.Nodup) (hm:mt (fc S.H ids v) r):qM E S ks v r Hout Hnew:=by
 intro c0 c ρ F u h hr
 obtain ⟨hlen,hget⟩:=zD ho
 have hpriv: ∀i∈ids,∃a,ah S.H i=some a∧aX a=true:=by
  intro i hi
  obtain ⟨j,hj,e⟩:=List.getElem_of_mem hi
  exact GL (hget j i (cf ks 0 Hout++Hnew)[j] (by rw [List.getElem?_eq_getElem hj,e]) (List.getElem?_eq_getElem (by omega)))
 have hL: ∀x∈ids.filterMap (an ρ),x<c.w.heap.size∧c0.mine x∧x∈c.X∧ ∃i∈ids,an ρ i=some x:=by
  intro x hx
  obtain ⟨i,hi,hb⟩:=List.mem_filterMap.1 hx
  obtain ⟨a,h1,h2⟩:=hpriv i hi
  refine ⟨eo h2 (h.1.heap i a h1) x hb,iM h.1 h1 h2 x hb,?_,i,hi,hb⟩
  have hbk:=h.1.heap i a h1
  cases a with
  | var n g d=>obtain ⟨b,g1,_,g3⟩:=hbk;simp only [an,g1,Option.some.injEq] at hb;subst hb;exact g3.1
  | lent b n g d=>obtain ⟨g1,_,g3⟩:=hbk;simp only [an,g1,Option.some.injEq] at hb;subst hb;exact g3.1
  | own T n g z l=>obtain ⟨u,g1,g2,_,_,a,cap,e,_⟩:=hbk;rw [dD g1 e] at hb;exact g2.isX x hb
  | ownI T n g z l=>obtain ⟨u,g1,g2,_,_,a,cap,e,_⟩:=hbk;rw [dD g1 e] at hb;exact g2.isX x hb
  | kset g k' n l=>obtain ⟨r,g1,_,g3⟩:=hbk;simp only [an,g1,blk,Option.some.injEq] at hb;subst hb;exact g3.1
  | pvar n g d=>cases h2
  | pown n g z l=>cases h2
 generalize hc1:Cx.giveI c0 c (ids.filterMap (an ρ)) h.1.since.size (fun k hk=>(hL k hk).1)=c1
 have hw:c1.w=c.w:=by subst hc1;rfl
 have hX: ∀x,x∈c1.X↔(x∈c0.X∧x∉c0.Y)∨x∈ids.filterMap (an ρ):=by subst hc1;intro x;exact GM
 have hpub:c.pub c1:=by
  refine ⟨by rw [hw];exact Nat.le_refl _,fun k hk hx=>⟨fun h'=> ?_,by rw [hw];exact fun _ h _=>h⟩⟩
  rcases (hX k).1 h' with h'|h'
  ·exact hx (h.1.since.X k h'.1 h'.2)
  ·exact hx (hL k h').2.2.1
 have hle:c0.leY c1:=by
  refine ⟨by rw [hw];exact h.1.since.below,fun k hk hy=>⟨fun h'=> ?_,fun h'=>(hX k).2 (.inl ⟨h',hy⟩)⟩⟩
  rcases (hX k).1 h' with h'|h'
  ·exact h'.1
  ·rcases (hL k h').2.1 with h1|h1
   ·omega
   ·exact absurd h1 hy
 have hn: ∀i b,i∉ids→ah S.H i=some b→aX b=true→ ∀k,an ρ i=some k→k∉c1.X:=by
  intro i b hi hb hp k hk hmem
  rcases (hX k).1 hmem with h'|h'
  ·rcases iM h.1 hb hp k hk with h1|h1
   ·have:=c0.ok k h'.1;omega
   ·exact h'.2 h1
  ·obtain ⟨_,_,_,j,hj,hb'⟩:=hL k h'
   obtain ⟨a,h1,h2⟩:=hpriv j hj
   exact h.1.sep i j b a k (fun e=>hi (e▸hj)) hb h1 hp h2 hk hb'
 refine ⟨c1,bY ρ ids,hw,hle,dO hm (nR hw hpub h.1 hn hr),?_,?_,?_⟩
 ·intro q b hq
  have hql:q<ids.length:=by rw [hlen];exact (List.getElem?_eq_some_iff.1 hq).1
  obtain ⟨i,hi⟩: ∃i,ids[q]? =some i:=⟨_,List.getElem?_eq_getElem hql⟩
  have ho':=hget q i b hi hq
  have hmem:i∈ids:=List.mem_of_getElem? hi
  have hro:bY ρ ids q=ρ i:=by simp only [bY,hi]
  have hmemX: ∀x,an ρ i=some x→x∈c1.X:=fun x hx=>(hX x).2 (.inr (List.mem_filterMap.2 ⟨i,hmem,hx⟩))
  cases hS:ah S.H i with
  | none=>rw [hS] at ho';unfold kV at ho';exact ho'.elim
  | some a=>
   have hbk:=h.1.heap i a hS
   rw [hS] at ho'
   unfold kV at ho'
   split at ho'
   ·rename_i T n g z l T' n' g' z' l' e
    cases e
    obtain ⟨rfl,rfl,rfl,hz,hml⟩:=ho'
    obtain ⟨x,h1,h2,h3,h4,a,cap,e,h5⟩:=hbk
    refine ⟨x,hro.trans h1,zr ⟨h2.1,?_⟩ hml,h3,h4,a,cap,by rw [←jD hml];exact e,kO hz h5⟩
    rcases h2.2 with h'|⟨g',cp,cur,e2,k1,k2,k3,k4,k5,k6⟩
    ·exact .inl h'
    ·exact .inr ⟨g',cp,cur,e2,hmemX g' (by rw [dD h1 e,e2];rfl),by rw [hw];exact k2,k3,k4,k5,c7 hpub k6⟩
   ·rename_i k n g d k' n' g' d' e
    cases e
    obtain ⟨rfl,rfl,rfl,hm⟩:=ho'
    obtain ⟨h1,h2,h3,T,cs,h4,h5,h6⟩:=hbk
    exact ⟨hro.trans h1,h2,hmemX k (by simp [an,h1]),T,cs,by rw [hw];exact h4,h5,dO hm (nR hw hpub h.1 hn h6)⟩
   ·exact ho'.elim
 ·intro q hq
  simp only [bY]
  rw [List.getElem?_eq_none (by omega)]
 ·intro q q' bq bq' x hne hq hq' hk hk'
  have get: ∀{q:Nat} {b:Blk},(cf ks 0 Hout++Hnew)[q]? =some b→ ∃i a,ids[q]? =some i∧ah S.H i=some a∧aX a=true:=by
   intro q b hq
   have hql:q<ids.length:=by rw [hlen];exact (List.getElem?_eq_some_iff.1 hq).1
   have hi:ids[q]? =some ids[q]:=List.getElem?_eq_getElem hql
   obtain ⟨a,h1,h2⟩:=hpriv ids[q] (List.getElem_mem hql)
   exact ⟨_,a,hi,h1,h2⟩
  obtain ⟨i,a,g1,g2,g3⟩:=get hq
  obtain ⟨i',a',g1',g2',g3'⟩:=get hq'
  have hii:i≠i':=by
   rintro rfl
   exact hne (nS hd g1 g1')
  rw [blkOf_eq3 (show bY ρ ids q=ρ i by simp only [bY,g1])] at hk
  rw [blkOf_eq3 (show bY ρ ids q'=ρ i' by simp only [bY,g1'])] at hk'
  exact h.1.sep i i' a a' x hii g2 g2' g3 g3' hk hk'
where blkOf_eq3 {ρ ρ':Ro} {i j:Nat} (h:ρ' i=ρ j):an ρ' i=an ρ j:=by unfold an;rw [h]
theorem cV {ks:Nat→Nat} {vs:List V} {r:V} {Hout Hnew:List Blk} (ids:List Nat) (ho:jN S.H ids ids (cf ks 0 Hout++Hnew)) (hd:ids.Nodup) (hm:mt (fc S.H ids (eB vs)) r):uI E S ks r Hout Hnew (some vs):=GN ids ho hd hm
def kW:Nat→List Blk→List (Nat×Blk)
 | _,[]=> []
 | i,b::l=>(i,b)::kW (i+1) l
theorem uJ: ∀{l:List Blk} {i t:Nat},ah (kW i l) t=if i≤t then l[t - i]? else none
 | [],i,t=>by simp [kW,ah]
 | v::l,i,t=>by
  simp only [kW,ah,uJ]
  by_cases h:i=t
  ·subst h;simp
  ·rw [if_neg h]
   by_cases h1:i≤t
   ·rw [if_pos h1,if_pos (by omega)]
    have:t - i=(t - (i+1))+1:=by omega
    rw [this,List.getElem?_cons_succ]
   ·rw [if_neg h1,if_neg (by omega)]
def wfB:Blk→Prop
 | .var _ _ d=>wfV d
 | .own _ _ _ _ l=>l.length≤LEN∧wfL l
 | _=>True
def fd:List Blk→Prop
 | []=>True
 | b::l=>wfB b∧fd l
theorem zE: ∀{l:List Blk},(∀(j:Nat) (b:Blk),l[j]? =some b→wfB b)→fd l
 | [],_=>trivial
 | b::l,h=>⟨h 0 b rfl,zE fun j b' hb=>h (j+1) b' (by simpa using hb)⟩
theorem iZ (hE:bl E) (hmo:E.P.follows .mixedOrders=true) {f:FuncId} {fn:Func} {code:Code} {ws:List V} {r:V} {Hin Hout Hnew:List Blk} {n:Nat} (J:cq) (hf:E.P.funcs[f]? =some fn) (hb:fn.body=some code) (hnt:fn.ntmps=n)
  (hsl:(ez n code&&decide (ws.length≤n)&& !(fn.name== "runtime.NumGoroutine"))=true) (hkn:(hP Hin Hout&&kS Hnew)=true)
  (h: ∀ks:Nat→Nat,wfL ws→fd Hin→wpA E J code (nV E fn.results.toList ks r Hout Hnew) ⟨iR 0 ws,kW 0 (cf ks 0 Hin),Hin.length⟩):cZ E f ws Hin r Hout Hnew:=by
 simp only [Bool.and_eq_true,Bool.not_eq_true',decide_eq_true_eq] at hsl
 refine ⟨fun aas w=> ?_,hkn,fun c us ρ0 ks hg hin hus=> ?_⟩
 ·have hn: ¬fn.name= "runtime.NumGoroutine" :=by simpa using hsl.2
  simp [callFunc,hf,hb,hn]
 have hlen:us.length=ws.length:=by
  have: ∀{l:List V} {cs:List Value},rdT ρ0 c l cs→cs.length=l.length:=by
   intro l
   induction l with
   | nil=>intro cs hc;simp only [rdT] at hc;subst hc;rfl
   | cons d l ih=>
    intro cs hc
    simp only [rdT] at hc
    obtain ⟨u,c2,rfl,_,h3⟩:=hc
    simp [ih h3]
  exact this hus
 have hwfB:fd Hin:=by
  refine zE fun j b hb=> ?_
  have h1:=hin.1 j (fF (ks j) b) (by rw [mw,Nat.zero_add,hb];rfl)
  cases b with
  | var n g d=>
   obtain ⟨_,_,_,T,cs,_,_,h6⟩:=h1
   exact iK h6
  | own T n g z l=>
   obtain ⟨v,_,h2,_⟩:=h1
   refine ⟨h2.1,?_⟩
   rcases h2.2 with ⟨_,_,rfl⟩|⟨g',cp,cur,e2,k1,k2,k3,k4,k5,k6⟩
   ·trivial
   ·exact oZ (dL.2 k6)
  | _=>trivial
 have hall:=h ks (lP hus) hwfB
 refine (callsIn_wide (n:=1)).1 (callsIn_of_wp_marks hf hb trivial ?_ rfl)
 have hfr:Fr (mo:=kn) n (fun t=>(us.toArray++Array.replicate (n - us.toArray.size) undef).getD t undef) {tmps:=us.toArray++Array.replicate (fn.ntmps - us.toArray.size) undef,defers:=[]}:=by
  refine Fr.of ?_ rfl fun t=>by rw [hnt]
  simp [hnt];omega
 have hS:bg E c c ρ0 ⟨iR 0 ws,kW 0 (cf ks 0 Hin),Hin.length⟩ (fun t=>(us.toArray++Array.replicate (n - us.toArray.size) undef).getD t undef):=by
  refine ⟨⟨cn.refl c,hg,?_,?_,?_⟩,fun i hi=>hin.2.1 i (by rw [qH];exact hi)⟩
  ·intro t v ht
   rw [ug] at ht
   simp only [Nat.zero_le,if_true,Nat.sub_zero] at ht
   obtain ⟨u,hu,hr⟩:=tw hus ht
   have hlt:t<us.length:=(List.getElem?_eq_some_iff.1 hu).1
   have:(us.toArray++Array.replicate (n - us.toArray.size) undef).getD t undef=u:=by
    have he:us[t]=u:=by simpa [List.getElem?_eq_getElem hlt] using hu
    simp [Array.getD_eq_getD_getElem?,Array.getElem?_append,hlt,he]
   rw [this];exact hr
  ·intro i b hb
   rw [uJ] at hb
   simp only [Nat.zero_le,if_true,Nat.sub_zero] at hb
   exact hin.1 i b hb
  ·intro i j bi bj x hij hbi hbj _ _ hx
   rw [uJ] at hbi hbj
   simp only [Nat.zero_le,if_true,Nat.sub_zero] at hbi hbj
   exact hin.2.2 i j bi bj x hij hbi hbj hx
 refine ud hE hmo code none _ c _ _ hsl.1.1 (.inl ⟨rfl,rfl⟩) ?_ c ρ0 _ _ _ [] hS hfr trivial hall
 rintro e a w ⟨c',ρ',S',F',ds,rfl,hS,hf',hd,hk⟩
 cases e with
 | ret=>
  simp only [nV] at hk
  split at hk
  ·rename_i vs hvs
   show LeavesInM _ _ _ _ _ _ a.defers .returning c'.w
   rw [hf'.df]
   refine nE hS hd fun c2 hS2=> ?_
   obtain ⟨u,hu,hr⟩:=uf hE hS2.1 hf' rfl hvs
   obtain ⟨c1,ρ1,e1,hle,hr1,hH⟩:=hk c c2 ρ' F' u hS2 hr
   exact ⟨u,hu,u,c1,ρ1,rfl,e1,hle,hr1,hH⟩
  ·exact hk.elim
 | normal=>
  simp only [nV] at hk
  split at hk
  ·rename_i vs hvs
   show LeavesInM _ _ _ _ _ _ a.defers .returning c'.w
   rw [hf'.df]
   refine nE hS hd fun c2 hS2=> ?_
   obtain ⟨u,hu,hr⟩:=uf hE hS2.1 hf' rfl hvs
   obtain ⟨c1,ρ1,e1,hle,hr1,hH⟩:=hk c c2 ρ' F' u hS2 hr
   exact ⟨u,hu,u,c1,ρ1,rfl,e1,hle,hr1,hH⟩
  ·exact hk.elim
 | _=>exact hk.elim
end
end Go.Proofs.YtcbbjfckokckcaaGreatDoor
namespace Go.Proofs.YtcbbjfckokckcaaGreatDoor
open Go.RowKit
attribute [go_sem] St.afterI prF prV prL prH prB dS dS.ownI1 sg gA hZ eG hO ren iX cf fF kW eI inO jN kV inV eH GJ GK fZ cond_true cond_false Nat.sub_self List.getElem?_nil Nat.reduceSub
theorem zG {c:Cx} {ρ:Ro} {n:Nat} {g:Bool} {post:List V} (h0:ρ 0=some (.slice none 0 0)): ∀{pre:List V} {us:List Value},rdT ro0 c (pre++ .sl (some true) n g []::post) us→rdT ρ c (pre++ .own 0::post) us
 | [],us,h=>by
  simp only [List.nil_append,rdT] at h⊢
  obtain ⟨u,c2,e,h1,h2⟩:=h
  have e2:u= .slice none 0 0:=by
   simp only [rd,zOk] at h1
   obtain ⟨a,cap,e,_,⟨rfl,rfl⟩,_⟩:=h1
   exact e
  subst e2
  refine ⟨_,c2,e,?_,?_⟩
  ·simp only [rd];exact ⟨h0,rfl⟩
  ·exact lQ (fun i v hi=>(qI hi).elim) h2
 | d::pre,us,h=>by
  simp only [List.cons_append,rdT] at h⊢
  obtain ⟨u,c2,e,h1,h2⟩:=h
  exact ⟨u,c2,e,cP (fun i v hi=>(qI hi).elim) h1,zG h0 h2⟩
theorem GO {E:Env} {f:FuncId} {pre post:List V} {T n:Nat} {g:Bool} {r:V} {Hout Hnew:List Blk} (h:cZ E f (pre++ .own 0::post) [.own T n g (some true) []] r Hout Hnew) (hone:g=false→n=1):bk E f (pre++ .sl (some true) n g []::post) r (Hout++Hnew):=by
 refine ⟨h.1,fun c us hY hg hus=> ?_⟩
 have hk:=h.2.1
 simp only [Bool.and_eq_true] at hk
 obtain ⟨hkl,hkk⟩:=uF hk.1
 have hall: ∀(q:Nat) (b:Blk),Hout[q]? =some b→dR b:=by
  intro q b hb
  have hq:q<1:=by have:=(List.getElem?_eq_some_iff.1 hb).1;simp at hkl;omega
  have e:q=0:=by omega
  subst e
  rcases hkk 0 _ b rfl hb with ⟨h1,_⟩|⟨_,h1⟩
  ·exact h1.elim
  ·exact h1
 have hlent: ∀{l:List Blk} {i:Nat},(∀(q:Nat) (b:Blk),l[q]? =some b→dR b)→cf (fun _=>0) i l=l:=by
  intro l
  induction l with
  | nil=>intro i _;rfl
  | cons b l ih=>
   intro i hb
   have h1:=hb 0 b rfl
   simp only [cf]
   rw [ih fun q b hq=>hb (q+1) b (by simpa using hq)]
   cases b<;>simp only [dR] at h1<;>rfl
 refine (h.2.2 c us (fun i=>if i=0 then some (.slice none 0 0) else none) (fun _=>0) hg ?_ (zG (by simp) hus)).mono ?_
 ·refine ⟨fun i b hb=> ?_,fun i hi=> ?_,fun i j bi bj k hij hi hj=> ?_⟩
  ·cases i with
   | zero=>
    simp [cf,fF] at hb;subst hb
    exact ⟨.slice none 0 0,by simp,Own.nil,fun k hk=>by simp [blk] at hk,hone,none,0,rfl,rfl,rfl⟩
   | succ i=>simp [cf] at hb
  ·have:i≠0:=by simp [cf] at hi;omega
   simp [this]
  ·cases i with
   | zero=>cases j with
    | zero=>exact absurd rfl hij
    | succ j=>simp [cf] at hj
   | succ i=>simp [cf] at hi
 ·rintro e w' ⟨v,c',ρ,rfl,rfl,hle,hr,hH⟩
  rw [hlent hall] at hH
  refine ⟨v,c',ρ,rfl,rfl,hle.le hY,hr,fun i b hb=>⟨?_,hH.1 i b hb⟩,hH.2.1,hH.2.2⟩
  have hb':dR b:=by
   rcases Nat.lt_or_ge i Hout.length with h1|h1
   ·rw [List.getElem?_append_left h1] at hb;exact hall i b hb
   ·rw [List.getElem?_append_right h1] at hb;exact uG hk.2 _ b hb
  cases b<;>simp only [dR] at hb'
  exact ⟨_,_,_,_,_,rfl⟩
end Go.Proofs.YtcbbjfckokckcaaGreatDoor
namespace Go.Proofs.YtcbbjfckokckcaaGreatDoor
open Go.RowKit
section
variable {E:Env}
def uK (E:Env) (f:FuncId) (T n:Nat) (g:Bool) (z:Option Bool) (l l':List V):Prop:=
 (∀aas w,(callFunc f aas).run E.P w= .ok (.enter f aas) w)∧ ∀(c:Cx) (v:Value),Gl E c→Own c T v (rV ro0 n g) l→(g=false→n=1)→(∃a cap,v= .slice a l.length cap∧zOk z a cap)→
  Calls E.P f #[v] c.w fun e w'=> ∃u c',e= .returned u∧rd ro0 c' (.tup []) u∧c'.w=w'∧c.chg (blk v) c'∧Own c' T v (rV ro0 n g) l'∧ ∃a cap,v= .slice a l'.length cap∧zOk none a cap
def atK (T n:Nat) (g:Bool) (l':List V):Exit→St→Prop
 | .ret,S=>ah S.F bQ=some (.own 0)∧ ∃z,ah S.H 0=some (.own T n g z l')
 | .normal,S=>ah S.F bQ=some (.own 0)∧ ∃z,ah S.H 0=some (.own T n g z l')
 | _,_=>False
theorem zH {T n:Nat} {g:Bool} {z:Option Bool} {l' l2:List V} {e:Exit} {S:St} (he:e= .ret∨e= .normal) (h1:ah S.F bQ=some (.own 0)) (h2:ah S.H 0=some (.own T n g z l2)) (h3:l2=l'):atK T n g l' e S:=by
 subst h3
 rcases he with rfl|rfl<;>exact ⟨h1,z,h2⟩
theorem GP (hE:bl E) (hmo:E.P.follows .mixedOrders=true) {f:FuncId} {fn:Func} {code:Code} {T n0:Nat} {g:Bool} {z:Option Bool} {l l':List V} {n:Nat} (J:cq) (hf:E.P.funcs[f]? =some fn) (hb:fn.body=some code) (hnt:fn.ntmps=n)
  (hsl:(ez n code&&fw code&&decide (1≤n∧n≤bQ)&&fn.results.isEmpty&& !(fn.name== "runtime.NumGoroutine"))=true)
  (h:l.length≤LEN→wfL l→wpA E J code (atK T n0 g l') ⟨[(0,.own 0),(bQ,.own 0)],[(0,.own T n0 g z l)],1⟩):uK E f T n0 g z l l':=by
 simp only [Bool.and_eq_true,Bool.not_eq_true',decide_eq_true_eq] at hsl
 obtain ⟨⟨⟨⟨hs1,hs2⟩,hs3,hs4⟩,hs5⟩,hs6⟩:=hsl
 refine ⟨fun aas w=> ?_,fun c v hg ho h1 hz=> ?_⟩
 ·have hn: ¬fn.name= "runtime.NumGoroutine" :=by simpa using hs6
  simp [callFunc,hf,hb,hn]
 have hwf:wfL l:=by
  rcases ho.2 with ⟨_,_,rfl⟩|⟨g',cp,cur,e2,k1,k2,k3,k4,k5,k6⟩
  ·trivial
  ·exact oZ (dL.2 k6)
 have hall:=h ho.1 hwf
 refine (callsIn_wide (n:=1)).1 (callsIn_of_wp_marks hf hb trivial ?_ rfl)
 -- the start
 let ys:List Nat:=(blk v).toList
 have hys: ∀k,blk v=some k↔k∈ys:=fun k=>by cases hv:blk v<;>simp [ys,hv,eq_comm]
 let c0:=c.lend ys
 let ρ0:Ro:=fun i=>if i=0 then some v else none
 have hv1:v.oneCell'=true:=by obtain ⟨a,cap,rfl,_⟩:=hz;rfl
 let hi:Nat→Value:=fun t=>if t=bQ then v else undef
 let F0:Fm:=fun t=>if t<n then (#[v]++Array.replicate (n - 1) undef).getD t undef else hi t
 have hsz:(#[v]++Array.replicate (fn.ntmps - #[v].size) undef).size=n:=by simp [hnt];omega
 have hF0:F0 0=v:=by
  show (if 0<n then _ else _)=v
  rw [if_pos (by omega)]
  simp [Array.getD_eq_getD_getElem?,Array.getElem?_append]
 have hbk:blkOk c0 c0 ρ0 0 (.own T n0 g z l):=⟨v,rfl,ho.chg (c.chg_lend ys) (by simp),fun k hk=> .inr ((hys k).1 hk),h1,hz⟩
 have hS:bg E c0 c0 ρ0 ⟨[(0,.own 0),(bQ,.own 0)],[(0,.own T n0 g z l)],1⟩ F0:=by
  refine ⟨⟨cn.refl _,hg.mono (c.pub_lend ys),fun t d ht=> ?_,fun i b hb=> ?_,fun i j bi bj k hij hi hj=> ?_⟩,fun i hi=> ?_⟩
  ·simp only [ah] at ht
   split at ht
   ·rename_i e;subst e;cases ht
    rw [hF0];exact ⟨rfl,hv1⟩
   ·split at ht
    ·rename_i e2 e;subst e;cases ht
     have:F0 bQ=v:=by
      show (if bQ<n then _ else if bQ=bQ then v else undef)=v
      rw [if_neg (by omega),if_pos rfl]
     rw [this];exact ⟨rfl,hv1⟩
    ·cases ht
  ·simp only [ah] at hb
   split at hb
   ·rename_i e;subst e;cases hb;exact hbk
   ·cases hb
  ·simp only [ah] at hi hj
   split at hi
   ·split at hj
    ·omega
    ·cases hj
   ·cases hi
  ·show (if i=0 then some v else none)=none
   have hi':1≤i:=hi
   rw [if_neg (by omega)]
 have hfr:Fr (mo:=⟨[],none,hi⟩) n F0 {tmps:= #[v]++Array.replicate (fn.ntmps - #[v].size) undef,defers:=[]}:=by
  refine @Fr.mk ⟨[],none,hi⟩ n F0 _ hsz rfl (fun t ht=> ?_) (fun t ht=> ?_)
  ·show _=(if t<n then _ else _)
   rw [if_pos ht];simp only [hnt];rfl
  ·show (if t<n then _ else hi t)=hi t
   rw [if_neg (by omega)]
 refine ud hE hmo code none hi c0 _ _ hs1 (.inr hs2) ?_ c0 ρ0 _ F0 _ [] hS hfr trivial hall
 rintro e a w ⟨c',ρ',S',F',ds,rfl,hS',hf',hd,hk⟩
 have key:ah S'.F bQ=some (.own 0)→(∃z,ah S'.H 0=some (.own T n0 g z l'))→LeavesInM Fence.wide 1 E.P fn a.tmps (fun e w'=> ∃u c',e= .returned u∧rd ro0 c' (.tup []) u∧c'.w=w'∧c.chg (blk v) c'∧Own c' T v (rV ro0 n0 g) l'∧ ∃a cap,v= .slice a l'.length cap∧zOk none a cap) a.defers .returning c'.w:=by
  rintro hF ⟨z',hH⟩
  rw [hf'.df]
  refine nE hS' hd fun c2 hS2=> ?_
  have h3:=hS2.1.slot _ _ hF
  have h4:F' bQ=v:=by rw [hf'.hg bQ hs4];show (if bQ=bQ then v else undef)=v;rw [if_pos rfl]
  rw [h4] at h3
  obtain ⟨h5,_⟩:=(show _∧_ from h3)
  obtain ⟨v2,g1,g2,g3,g4,g5⟩:=hS2.1.heap 0 _ hH
  rw [h5] at g1;cases g1
  refine ⟨.tuple #[],?_,_,c2,rfl,⟨[],rfl,rfl⟩,rfl,?_,g2,by obtain ⟨a,cap,e,hz'⟩:=g5;exact ⟨a,cap,e,lN hz'⟩⟩
  ·have he:fn.results= #[]:=by simpa using hs5
   simp [results,he]
  ·have hs:=hS2.1.since
   refine ⟨hs.below.os,hs.below.tape,hs.below.output,hs.size,fun k hk hne=>hs.below.block k hk fun hy=>hne ((hys k).2 hy),fun k hk=>⟨fun h'=> ?_,fun h'=> ?_⟩,fun k hk=>ho.isX k hk⟩
   ·by_cases hX:k∈c.X
    ·exact hX
    ·exact absurd h' (hs.Xn k hk hX)
   ·by_cases hy:k∈ys
    ·exact g2.isX k ((hys k).2 hy)
    ·exact hs.X k h' hy
 cases e with
 | ret=>exact key hk.1 hk.2
 | normal=>exact key hk.1 hk.2
 | _=>exact hk.elim
theorem GQ {J:cq} {k:List Ct} {S:St} {f:FuncId} {d:Option Nat} {id T n:Nat} {g:Bool} {z:Option Bool} {l l':List V} (hc:uK E f T n g z l l') (hH:ah S.H id=some (.own T n g z l)) (h:aM E J k .normal (St.put {S with H:=cQ S.H id (.own T n g none l')} d (.tup []))):eC E J (some (.fn f [])) (some [.own id]) S d k:=by
 refine .inr ⟨hc.1,_,.tup [],?_,fun _=>h⟩
 intro c0 c ρ F us hs hus
 simp only [List.append_nil,rdT] at hus
 obtain ⟨u,us',rfl,h1,rfl⟩:=hus
 obtain ⟨v,g1,g2,g3,g4,g5⟩:=hs.1.heap _ _ hH
 obtain ⟨h2,_⟩:=(show _∧_ from h1)
 rw [g1] at h2;cases h2
 refine (hc.2 c _ hs.1.gl g2 g4 g5).mono ?_
 rintro e w' ⟨x,c',rfl,hr,rfl,hch,ho,a,cap,e1,hz⟩
 have hbk:=dD g1 e1
 have:=yq hs (e:= .upd id (.own T n g none l')) (c':=c') (ρ':=ρ) ⟨_,hH,rfl,rfl⟩ ⟨by rw [hbk];exact hch,rfl,⟨_,g1,ho,g3,g4,a,cap,e1,hz⟩⟩
 exact ⟨x,c',ρ,rfl,rfl,l6 this (cP (fun i v h=>by cases h) hr),trivial⟩
end
end Go.Proofs.YtcbbjfckokckcaaGreatDoor
namespace Go.Proofs.YtcbbjfckokckcaaGreatDoor
open Go.RowKit
class CM (E:outParam Env) {α:Type} (m:α) (f:outParam FuncId) (ws:outParam (List V)) (R:outParam (α→V)) (Hs:outParam (α→List Blk)):Prop where
  ok:bk E f ws (R m) (Hs m)
class DRD (id:Nat) (n m:outParam Nat) (wr:outParam (List Nat)) (wl:outParam (List (Nat×Nat))) (need:outParam (List (List Nat))) (ub:outParam (List (Nat×Nat))):Prop where
  ok:True
class CF {α:Type} (m:α) (P:outParam (α→Prop)):Prop where
  ok:P m
theorem cfU {α:Type} {x m:α} {P:α→Prop} (hx:x=m) [h:CF m P]:P x:=by subst hx;exact h.ok
theorem mpQ {a b:Prop} (h:a) (f:a→b:=by assumption):b:=f h
section
variable {E:Env} {J:cq} {k:List Ct} {S:St} {α:Type} {f:FuncId} {ws:List V} {R:α→V} {Hs:α→List Blk}
theorem cmQ {m:α} (h: ∀r,m=r→bk E f ws (R r) (Hs r)):CM E m f ws R Hs:=⟨h m rfl⟩
theorem cmU {x m:α} (hx:x=m) [h:CM E m f ws R Hs]:bk E f ws (R x) (Hs x):=by subst hx;exact h.ok
theorem cmH {x m:α} (hx:x=m) (h:CM E m f ws R Hs):bk E f ws (R x) (Hs x):=by subst hx;exact h.ok
theorem GR {β:Type} {c:Bool} {a b r:β} (hM:(if c=true then a else b)=r) (h:c=true):a=r:=by rw [if_pos h] at hM;exact hM
theorem GS {β:Type} {c:Bool} {a b r:β} (hM:(if c=true then a else b)=r) (h:c=false):b=r:=by rw [if_neg (by rw [h];decide)] at hM;exact hM
theorem GT {r:Res} {d:Option Nat} (h:jG E J r S d k):jG E J r S d k:=h
theorem GU {v:Option V} {vs:Option (List V)} {d:Option Nat} (h:eC E J v vs S d k):eC E J v vs S d k:=h
theorem GV {r:V} {H:List Blk} {o:Option (List V)} (h:kQ E S r H o):kQ E S r H o:=h
theorem lpP {K:St→Prop} (h:aM E J (.lp K::k) .normal S):aM E J (.lp K::k) .normal S:=h
theorem GW {id:Nat} {ops:Array Oper} (h:aM E J (.code (.region id ops true)::k) .normal S):aM E J (.code (.region id ops true)::k) .normal S:=h
theorem GX {id:Nat} {ops:Array Oper} {n m:Nat} {wr:List Nat} {wl:List (Nat×Nat)} {need:List (List Nat)} {ub:List (Nat×Nat)} [DRD id n m wr wl need ub] (hB:(wlB ops m wl&&iF n m ops wr need&&((List.range m).all fun i=>(need.getD i []).all fun j=>decide (j<i)))=true) (hU:ubB m need ub S.nx=true)
    (h:bW E ⟨J,S,wr,wl,need,ub,k⟩ m 0 ops.toList []):aM E J (.code (.region id ops true)::k) .normal S:=bN n m wr wl need ub hB hU h
section
variable {D:Dr} {m i:Nat} {l:List Oper} {L:List (Nat×bd)} {d:Option Nat}
theorem GY {nid:Nat} {r:Res} (h:ct E D m i l L d nid r):ct E D m i l L d nid r:=h
theorem GZ {v:Option V} {vs:Option (List V)} (h:fB E D m i l L d S v vs):fB E D m i l L d S v vs:=h
end
theorem G0 (k i:Nat) {n:Nat} {g:Bool} {z:Option Bool} {m:List V} (h:ah S.H k=some (.var 1 false (.own i))) (h2:ah S.H i=some (.pown n g z m)):
    cc E S ⟨S.F,cQ S.H k (.var 1 false (.sl z n g m)),S.nx⟩:=by
  intro c0 c ρ F hs
  obtain ⟨v,h4,h5⟩:=hs.1.heap _ _ h2
  have hx: ∀u,rd ρ c (.own i) u→rd ρ c (.sl z n g m) u:=fun u hu=>by
    simp only [rd] at hu
    rw [hu.1] at h4;cases h4
    simpa only [rd] using h5
  obtain ⟨b0,g1,g2,g3⟩:=hs.1.heap _ _ h
  refine ⟨c,ρ,rfl,⟨hs.1.since,hs.1.gl,hs.1.slot,fun a b hb=> ?_,?_⟩,hs.2⟩
  · rw [cI] at hb
    split at hb
    · rename_i e';subst e';cases hb
      obtain ⟨hX,T',cs,hh,hsh,hrd⟩:=g3
      refine ⟨b0,g1,g2,hX,T',cs,hh,hsh,?_⟩
      exact hx _ hrd
    · exact hs.1.heap a b hb
  · intro a b ba bb q hab hba hbb hpa hpb hk hk'
    have back: ∀{x:Nat} {bx:Blk},ah (cQ S.H k (.var 1 false (.sl z n g m))) x=some bx→aX bx=true→ ∃b',ah S.H x=some b'∧aX b'=true:=by
      intro x bx hx hp
      rw [cI] at hx
      split at hx
      · rename_i e;subst e;exact ⟨_,h,rfl⟩
      · exact ⟨bx,hx,hp⟩
    obtain ⟨ba',h1,h2'⟩:=back hba hpa
    obtain ⟨bb',h3,h4'⟩:=back hbb hpb
    exact hs.1.sep a b ba' bb' q hab h1 h3 h2' h4' hk hk'
theorem aW:True:=trivial
theorem zI {β:Type} [Inhabited β] {l:List β} {g:β→V} {i:Nat} (h:i<l.length) (d:V):elt (l.map g) i d=g (gt l (i:Int)):=bE (i:=(i:Int)) h d
end
theorem auQ {P:Prop} (h:P:=by
  repeat' (first
    | ((first|(with_reducible refine aB ?_ ?_)|(with_reducible refine gh ?_ ?_)|(with_reducible refine cr ?_ ?_)|(with_reducible refine gm ?_ ?_)|(with_reducible refine dk ?_ ?_))<;>(intro h0;(first|replace hM:=GR hM h0|replace hM:=GS hM h0);replace hF:=And.intro h0 hF;replace h0:=nzQ h0;(try have h1:=mpQ h0);(first|refine aa hF ?_|skip)))
    | (with_reducible refine GT ?_
       refine aP ?h9 ?_
       case h9=>exact omQ
       first
         | (rw [bE ?h9];case h9=>exact omQ)
         | (rw [zI ?h9];case h9=>exact omQ)
         | skip
       refine aa hF ?_)
    | (with_reducible refine GY ?_
       first
         | (refine b_ ?h9 ?_;case h9=>exact omQ)
         | (refine Fg ?h9 (aC hF) ?_;case h9=>exact omQ)
         | (refine Fh ?h9 (aC hF) ?_;case h9=>exact omQ)
         | (refine nH ?h9 (aC hF) ?_;case h9=>exact omQ)
         | (refine Fi ?h9 (aC hF) ?_;case h9=>exact omQ)
         | (refine qk ?h9 (aC hF) ?_;case h9=>exact omQ)
       first
         | (rw [bE ?h9];case h9=>exact omQ)
         | (rw [zI ?h9];case h9=>exact omQ)
         | skip
       refine aa hF ?_)
    | (with_reducible refine GU ?_
       replace hM:=ao hM;obtain ⟨x0,hx0,hM⟩:=hM
       first
         | refine aH (cmU hx0) (aC hF) (aC hF) (fun hw0=> ?_)
         | refine gZ (cmU hx0) (aC hF) (aC hF) (fun hw0=> ?_)
       replace hw0:=nzQ hw0
       try have hq0:=nzQ (cfU hx0)
       refine aa hF ?_)
    | (with_reducible refine GZ ?_
       replace hM:=ao hM;obtain ⟨x0,hx0,hM⟩:=hM
       first
         | refine bp (cmU hx0) (aC hF) (aC hF) ?_
         | refine bp (bk.pub (cmU hx0)) (aC hF) (aC hF) ?_
         | refine y7 (cmU hx0) (aC hF) (aC hF) ?_
       try have hq0:=nzQ (cfU hx0)
       refine aa hF ?_)
    | (with_reducible refine GW ?_
       refine GX (by kernel_rfl) (by exact alQ) ?_
       refine aa hF ?_)
    | (with_reducible refine GV ?_
       subst hM
       exact aw (az hF))
    | (with_reducible refine lpP ?_
       refine bM ?_ _ ?h1 ?h2 ?h3 ⟨_,rfl,?h4,?h5,bI hM ?h6⟩
       case h6=>assumption
       case h1=>omega
       case h2=>first|exact sbQ|exact zj (And.intro @bm (And.intro @bn hF))
       case h3=>first|exact sbQ|exact zj (And.intro @bm (And.intro @bn hF))
       case h4=>first|trivial|exact omQ
       case h5=>exact omQ))):P:=h
end Go.Proofs.YtcbbjfckokckcaaGreatDoor
namespace Go.Proofs.YtcbbjfckokckcaaGreatDoor
open Go.RowKit
structure bO where
 Payee:(List Int)
 Amount:Int
 Time:Int
 Number:Int
def eJ:bO:={Payee:=[0,0,0,0,0,0,0,0,0,0,0,0,0,0,0,0,0,0,0,0,0,0,0,0,0,0,0,0,0,0,0,0],Amount:=(0:Int),Time:=(0:Int),Number:=(0:Int)}
instance:Inhabited bO:=⟨eJ⟩
@[go_sem] theorem Ls:eJ.Payee=[0,0,0,0,0,0,0,0,0,0,0,0,0,0,0,0,0,0,0,0,0,0,0,0,0,0,0,0,0,0,0,0]:=Eq.trans rfl rfl
@[go_sem] theorem Lt:eJ.Amount=(0:Int):=Eq.trans rfl rfl
@[go_sem] theorem Lu:eJ.Time=(0:Int):=Eq.trans rfl rfl
@[go_sem] theorem Lv:eJ.Number=(0:Int):=Eq.trans rfl rfl
structure ak where
 Kind:Int
 N:Int
 B:(List Int)
 L:(List ak)
def dG:ak:={Kind:=(0:Int),N:=(0:Int),B:=[],L:=[]}
instance:Inhabited ak:=⟨dG⟩
@[go_sem] theorem Lw:dG.Kind=(0:Int):=Eq.trans rfl rfl
@[go_sem] theorem Lx:dG.N=(0:Int):=Eq.trans rfl rfl
@[go_sem] theorem Ly:dG.B=[]:=Eq.trans rfl rfl
@[go_sem] theorem Lz:dG.L=[]:=Eq.trans rfl rfl
structure aN where
 b:(List Int)
 e:Int
def uL:aN:={b:=[],e:=(0:Int)}
instance:Inhabited aN:=⟨uL⟩
@[go_sem] theorem LB:uL.b=[]:=Eq.trans rfl rfl
@[go_sem] theorem LC:uL.e=(0:Int):=Eq.trans rfl rfl
structure ia where
 Z:Int
 A:Int
 B:Int
 R:Int
def kX:ia:={Z:=(0:Int),A:=(0:Int),B:=(0:Int),R:=(0:Int)}
instance:Inhabited ia:=⟨kX⟩
@[go_sem] theorem LD:kX.Z=(0:Int):=Eq.trans rfl rfl
@[go_sem] theorem LE:kX.A=(0:Int):=Eq.trans rfl rfl
@[go_sem] theorem LF:kX.B=(0:Int):=Eq.trans rfl rfl
@[go_sem] theorem LG:kX.R=(0:Int):=Eq.trans rfl rfl
structure bD where
 Bank:Int
 Epoch:Int
 Denom:Int
 Depth:Int
 A:Int
 Root:(List Int)
 Sign:ia
def ib:bD:={Bank:=(0:Int),Epoch:=(0:Int),Denom:=(0:Int),Depth:=(0:Int),A:=(0:Int),Root:=[0,0,0,0,0,0,0,0,0,0,0,0,0,0,0,0,0,0,0,0,0,0,0,0,0,0,0,0,0,0,0,0],Sign:=kX}
instance:Inhabited bD:=⟨ib⟩
@[go_sem] theorem LH:ib.Bank=(0:Int):=Eq.trans rfl rfl
@[go_sem] theorem LI:ib.Epoch=(0:Int):=Eq.trans rfl rfl
@[go_sem] theorem LJ:ib.Denom=(0:Int):=Eq.trans rfl rfl
@[go_sem] theorem LK:ib.Depth=(0:Int):=Eq.trans rfl rfl
@[go_sem] theorem LL:ib.A=(0:Int):=Eq.trans rfl rfl
@[go_sem] theorem LM:ib.Root=[0,0,0,0,0,0,0,0,0,0,0,0,0,0,0,0,0,0,0,0,0,0,0,0,0,0,0,0,0,0,0,0]:=Eq.trans rfl rfl
@[go_sem] theorem LN:ib.Sign=kX:=Eq.trans rfl rfl
structure gB where
 Level:Int
 Index:Int
def nW:gB:={Level:=(0:Int),Index:=(0:Int)}
instance:Inhabited gB:=⟨nW⟩
@[go_sem] theorem LO:nW.Level=(0:Int):=Eq.trans rfl rfl
@[go_sem] theorem LP:nW.Index=(0:Int):=Eq.trans rfl rfl
structure eK where
 Payee:(List Int)
 Time:Int
 Number:Int
def kY:eK:={Payee:=[0,0,0,0,0,0,0,0,0,0,0,0,0,0,0,0,0,0,0,0,0,0,0,0,0,0,0,0,0,0,0,0],Time:=(0:Int),Number:=(0:Int)}
instance:Inhabited eK:=⟨kY⟩
@[go_sem] theorem LQ:kY.Payee=[0,0,0,0,0,0,0,0,0,0,0,0,0,0,0,0,0,0,0,0,0,0,0,0,0,0,0,0,0,0,0,0]:=Eq.trans rfl rfl
@[go_sem] theorem LR:kY.Time=(0:Int):=Eq.trans rfl rfl
@[go_sem] theorem LS:kY.Number=(0:Int):=Eq.trans rfl rfl
structure fG where
 B:Int
 R1:Int
 R2:Int
def qN:fG:={B:=(0:Int),R1:=(0:Int),R2:=(0:Int)}
instance:Inhabited fG:=⟨qN⟩
@[go_sem] theorem LT:qN.B=(0:Int):=Eq.trans rfl rfl
@[go_sem] theorem LU:qN.R1=(0:Int):=Eq.trans rfl rfl
@[go_sem] theorem LV:qN.R2=(0:Int):=Eq.trans rfl rfl
structure ic where
 Index:Int
 L:(List (List Int))
def nX:ic:={Index:=(0:Int),L:=[]}
instance:Inhabited ic:=⟨nX⟩
@[go_sem] theorem LW:nX.Index=(0:Int):=Eq.trans rfl rfl
@[go_sem] theorem LX:nX.L=[]:=Eq.trans rfl rfl
structure aO where
 Coin:bD
 Node:gB
 Context:eK
 Leaves:(List fG)
 Path:ic
def ie:aO:={Coin:=ib,Node:=nW,Context:=kY,Leaves:=[],Path:=nX}
instance:Inhabited aO:=⟨ie⟩
@[go_sem] theorem LY:ie.Coin=ib:=Eq.trans rfl rfl
@[go_sem] theorem LZ:ie.Node=nW:=Eq.trans rfl rfl
@[go_sem] theorem L1:ie.Context=kY:=Eq.trans rfl rfl
@[go_sem] theorem L2:ie.Leaves=[]:=Eq.trans rfl rfl
@[go_sem] theorem L3:ie.Path=nX:=Eq.trans rfl rfl
structure bX where
 First:aO
 L:(List aO)
def uM:bX:={First:=ie,L:=[]}
instance:Inhabited bX:=⟨uM⟩
@[go_sem] theorem L4:uM.First=ie:=Eq.trans rfl rfl
@[go_sem] theorem L5:uM.L=[]:=Eq.trans rfl rfl
structure fH where
 A:(List Int)
 C:Int
 Z:(List Int)
def mz:fH:={A:=[],C:=(0:Int),Z:=[]}
instance:Inhabited fH:=⟨mz⟩
@[go_sem] theorem L6:mz.A=[]:=Eq.trans rfl rfl
@[go_sem] theorem L7:mz.C=(0:Int):=Eq.trans rfl rfl
@[go_sem] theorem L8:mz.Z=[]:=Eq.trans rfl rfl
structure cW where
 E1:Int
 E2:Int
 Proof:fH
def qO:cW:={E1:=(0:Int),E2:=(0:Int),Proof:=mz}
instance:Inhabited cW:=⟨qO⟩
@[go_sem] theorem L9:qO.E1=(0:Int):=Eq.trans rfl rfl
@[go_sem] theorem L_:qO.E2=(0:Int):=Eq.trans rfl rfl
@[go_sem] theorem Ma:qO.Proof=mz:=Eq.trans rfl rfl
structure bR where
 Number:Int
 Spends:(List aO)
 Chains:(List bX)
 Escrow:(List cW)
def kZ:bR:={Number:=(0:Int),Spends:=[],Chains:=[],Escrow:=[]}
instance:Inhabited bR:=⟨kZ⟩
@[go_sem] theorem Mb:kZ.Number=(0:Int):=Eq.trans rfl rfl
@[go_sem] theorem Mc:kZ.Spends=[]:=Eq.trans rfl rfl
@[go_sem] theorem Md:kZ.Chains=[]:=Eq.trans rfl rfl
@[go_sem] theorem Me:kZ.Escrow=[]:=Eq.trans rfl rfl
structure dH where
 Value:Int
 Depth:Int
def jO:dH:={Value:=(0:Int),Depth:=(0:Int)}
instance:Inhabited dH:=⟨jO⟩
@[go_sem] theorem Mf:jO.Value=(0:Int):=Eq.trans rfl rfl
@[go_sem] theorem Mg:jO.Depth=(0:Int):=Eq.trans rfl rfl
structure aQ where
 P:Int
 Q:Int
 G:Int
def mA:aQ:={P:=(0:Int),Q:=(0:Int),G:=(0:Int)}
instance:Inhabited aQ:=⟨mA⟩
@[go_sem] theorem Mh:mA.P=(0:Int):=Eq.trans rfl rfl
@[go_sem] theorem Mi:mA.Q=(0:Int):=Eq.trans rfl rfl
@[go_sem] theorem Mj:mA.G=(0:Int):=Eq.trans rfl rfl
structure a8 where
 Group:aQ
 G1:Int
 G2:Int
 H:Int
def k8:a8:={Group:=mA,G1:=(0:Int),G2:=(0:Int),H:=(0:Int)}
instance:Inhabited a8:=⟨k8⟩
@[go_sem] theorem Mk:k8.Group=mA:=Eq.trans rfl rfl
@[go_sem] theorem Ml:k8.G1=(0:Int):=Eq.trans rfl rfl
@[go_sem] theorem Mm:k8.G2=(0:Int):=Eq.trans rfl rfl
@[go_sem] theorem Mn:k8.H=(0:Int):=Eq.trans rfl rfl
structure ig where
 H:Int
 H1:Int
 H2:Int
def mB:ig:={H:=(0:Int),H1:=(0:Int),H2:=(0:Int)}
instance:Inhabited ig:=⟨mB⟩
@[go_sem] theorem Mp:mB.H=(0:Int):=Eq.trans rfl rfl
@[go_sem] theorem Mq:mB.H1=(0:Int):=Eq.trans rfl rfl
@[go_sem] theorem Mr:mB.H2=(0:Int):=Eq.trans rfl rfl
structure bu where
 Bank:Int
 Epoch:Int
 Denom:Int
 Value:Int
 Depth:Int
 Key:ig
 From:Int
 Until:Int
 Final:Int
def fI:bu:={Bank:=(0:Int),Epoch:=(0:Int),Denom:=(0:Int),Value:=(0:Int),Depth:=(0:Int),Key:=mB,From:=(0:Int),Until:=(0:Int),Final:=(0:Int)}
instance:Inhabited bu:=⟨fI⟩
@[go_sem] theorem Ms:fI.Bank=(0:Int):=Eq.trans rfl rfl
@[go_sem] theorem Mt:fI.Epoch=(0:Int):=Eq.trans rfl rfl
@[go_sem] theorem Mu:fI.Denom=(0:Int):=Eq.trans rfl rfl
@[go_sem] theorem Mv:fI.Value=(0:Int):=Eq.trans rfl rfl
@[go_sem] theorem Mw:fI.Depth=(0:Int):=Eq.trans rfl rfl
@[go_sem] theorem Mx:fI.Key=mB:=Eq.trans rfl rfl
@[go_sem] theorem My:fI.From=(0:Int):=Eq.trans rfl rfl
@[go_sem] theorem Mz:fI.Until=(0:Int):=Eq.trans rfl rfl
@[go_sem] theorem MA:fI.Final=(0:Int):=Eq.trans rfl rfl
structure bU where
 b:a8
 l:(List bu)
 y:Int
 v:bO
 p:bR
def mC:bU:={b:=k8,l:=[],y:=(0:Int),v:=eJ,p:=kZ}
instance:Inhabited bU:=⟨mC⟩
@[go_sem] theorem MB:mC.b=k8:=Eq.trans rfl rfl
@[go_sem] theorem MC:mC.l=[]:=Eq.trans rfl rfl
@[go_sem] theorem MD:mC.y=(0:Int):=Eq.trans rfl rfl
@[go_sem] theorem ME:mC.v=eJ:=Eq.trans rfl rfl
@[go_sem] theorem MF:mC.p=kZ:=Eq.trans rfl rfl
structure dI where
 l:(List ak)
def lc:dI:={l:=[]}
instance:Inhabited dI:=⟨lc⟩
@[go_sem] theorem MG:lc.l=[]:=Eq.trans rfl rfl
structure cy where
 A:Int
 B:Int
 Spend:aO
 Leaf:Int
def nY:cy:={A:=(0:Int),B:=(0:Int),Spend:=ie,Leaf:=(0:Int)}
instance:Inhabited cy:=⟨nY⟩
@[go_sem] theorem MH:nY.A=(0:Int):=Eq.trans rfl rfl
@[go_sem] theorem MI:nY.B=(0:Int):=Eq.trans rfl rfl
@[go_sem] theorem MJ:nY.Spend=ie:=Eq.trans rfl rfl
@[go_sem] theorem MK:nY.Leaf=(0:Int):=Eq.trans rfl rfl
structure cv where
 Y:(List Int)
 Bases:(List (List Int))
def jP:cv:={Y:=[],Bases:=[]}
instance:Inhabited cv:=⟨jP⟩
@[go_sem] theorem ML:jP.Y=[]:=Eq.trans rfl rfl
@[go_sem] theorem MM:jP.Bases=[]:=Eq.trans rfl rfl
structure bZ where
 State:(List Int)
 Count:Int
def dJ:bZ:={State:=[0,0,0,0,0,0,0,0,0,0,0,0,0,0,0,0,0,0,0,0,0,0,0,0,0,0,0,0,0,0,0,0],Count:=(0:Int)}
instance:Inhabited bZ:=⟨dJ⟩
@[go_sem] theorem MN:dJ.State=[0,0,0,0,0,0,0,0,0,0,0,0,0,0,0,0,0,0,0,0,0,0,0,0,0,0,0,0,0,0,0,0]:=Eq.trans rfl rfl
@[go_sem] theorem MO:dJ.Count=(0:Int):=Eq.trans rfl rfl
def cA (x:bO):V:= .agg (.int .u8 (gt x.Payee 0):: .int .u8 (gt x.Payee 1):: .int .u8 (gt x.Payee 2):: .int .u8 (gt x.Payee 3):: .int .u8 (gt x.Payee 4):: .int .u8 (gt x.Payee 5):: .int .u8 (gt x.Payee 6):: .int .u8 (gt x.Payee 7):: .int .u8 (gt x.Payee 8):: .int .u8 (gt x.Payee 9):: .int .u8 (gt x.Payee 10):: .int .u8 (gt x.Payee 11):: .int .u8 (gt x.Payee 12):: .int .u8 (gt x.Payee 13):: .int .u8 (gt x.Payee 14):: .int .u8 (gt x.Payee 15):: .int .u8 (gt x.Payee 16):: .int .u8 (gt x.Payee 17):: .int .u8 (gt x.Payee 18):: .int .u8 (gt x.Payee 19):: .int .u8 (gt x.Payee 20):: .int .u8 (gt x.Payee 21):: .int .u8 (gt x.Payee 22):: .int .u8 (gt x.Payee 23):: .int .u8 (gt x.Payee 24):: .int .u8 (gt x.Payee 25):: .int .u8 (gt x.Payee 26):: .int .u8 (gt x.Payee 27):: .int .u8 (gt x.Payee 28):: .int .u8 (gt x.Payee 29):: .int .u8 (gt x.Payee 30):: .int .u8 (gt x.Payee 31):: .int .i64 x.Amount:: .int .i64 x.Time:: .int .i64 x.Number::[])
attribute [go_sem] cA
def a7 (x:ak):V:= .agg [.int .i64 x.Kind,.int .i64 x.N,.sl none 1 false (x.B.map (V.int .u8)),.sl none 4 true (x.L.map a7)]
termination_by SizeOf.sizeOf x
decreasing_by
 rename_i y h
 have:=List.sizeOf_lt_of_mem h
 cases x
 simp at*
 omega
attribute [go_sem] a7
def zJ (a b:bO):Bool:=((gt a.Payee 0)==(gt b.Payee 0)&&((gt a.Payee 1)==(gt b.Payee 1)&&((gt a.Payee 2)==(gt b.Payee 2)&&((gt a.Payee 3)==(gt b.Payee 3)&&((gt a.Payee 4)==(gt b.Payee 4)&&((gt a.Payee 5)==(gt b.Payee 5)&&((gt a.Payee 6)==(gt b.Payee 6)&&((gt a.Payee 7)==(gt b.Payee 7)&&((gt a.Payee 8)==(gt b.Payee 8)&&((gt a.Payee 9)==(gt b.Payee 9)&&((gt a.Payee 10)==(gt b.Payee 10)&&((gt a.Payee 11)==(gt b.Payee 11)&&((gt a.Payee 12)==(gt b.Payee 12)&&((gt a.Payee 13)==(gt b.Payee 13)&&((gt a.Payee 14)==(gt b.Payee 14)&&((gt a.Payee 15)==(gt b.Payee 15)&&((gt a.Payee 16)==(gt b.Payee 16)&&((gt a.Payee 17)==(gt b.Payee 17)&&((gt a.Payee 18)==(gt b.Payee 18)&&((gt a.Payee 19)==(gt b.Payee 19)&&((gt a.Payee 20)==(gt b.Payee 20)&&((gt a.Payee 21)==(gt b.Payee 21)&&((gt a.Payee 22)==(gt b.Payee 22)&&((gt a.Payee 23)==(gt b.Payee 23)&&((gt a.Payee 24)==(gt b.Payee 24)&&((gt a.Payee 25)==(gt b.Payee 25)&&((gt a.Payee 26)==(gt b.Payee 26)&&((gt a.Payee 27)==(gt b.Payee 27)&&((gt a.Payee 28)==(gt b.Payee 28)&&((gt a.Payee 29)==(gt b.Payee 29)&&((gt a.Payee 30)==(gt b.Payee 30)&&((gt a.Payee 31)==(gt b.Payee 31)&&(a.Amount==b.Amount&&(a.Time==b.Time&&a.Number==b.Number))))))))))))))))))))))))))))))))))
attribute [go_sem] zJ
def eL (x:fG):V:= .agg [.int .i64 x.B,.int .i64 x.R1,.int .i64 x.R2]
attribute [go_sem] eL
def aI (l:(List Int)):V:= .agg (.int .u8 (gt l 0):: .int .u8 (gt l 1):: .int .u8 (gt l 2):: .int .u8 (gt l 3):: .int .u8 (gt l 4):: .int .u8 (gt l 5):: .int .u8 (gt l 6):: .int .u8 (gt l 7):: .int .u8 (gt l 8):: .int .u8 (gt l 9):: .int .u8 (gt l 10):: .int .u8 (gt l 11):: .int .u8 (gt l 12):: .int .u8 (gt l 13):: .int .u8 (gt l 14):: .int .u8 (gt l 15):: .int .u8 (gt l 16):: .int .u8 (gt l 17):: .int .u8 (gt l 18):: .int .u8 (gt l 19):: .int .u8 (gt l 20):: .int .u8 (gt l 21):: .int .u8 (gt l 22):: .int .u8 (gt l 23):: .int .u8 (gt l 24):: .int .u8 (gt l 25):: .int .u8 (gt l 26):: .int .u8 (gt l 27):: .int .u8 (gt l 28):: .int .u8 (gt l 29):: .int .u8 (gt l 30):: .int .u8 (gt l 31)::[])
attribute [go_sem] aI
def aT (x:aO):V:= .agg (.int .i64 x.Coin.Bank:: .int .i64 x.Coin.Epoch:: .int .i64 x.Coin.Denom:: .int .i64 x.Coin.Depth:: .int .i64 x.Coin.A:: .int .u8 (gt x.Coin.Root 0):: .int .u8 (gt x.Coin.Root 1):: .int .u8 (gt x.Coin.Root 2):: .int .u8 (gt x.Coin.Root 3):: .int .u8 (gt x.Coin.Root 4):: .int .u8 (gt x.Coin.Root 5):: .int .u8 (gt x.Coin.Root 6):: .int .u8 (gt x.Coin.Root 7):: .int .u8 (gt x.Coin.Root 8):: .int .u8 (gt x.Coin.Root 9):: .int .u8 (gt x.Coin.Root 10):: .int .u8 (gt x.Coin.Root 11):: .int .u8 (gt x.Coin.Root 12):: .int .u8 (gt x.Coin.Root 13):: .int .u8 (gt x.Coin.Root 14):: .int .u8 (gt x.Coin.Root 15):: .int .u8 (gt x.Coin.Root 16):: .int .u8 (gt x.Coin.Root 17):: .int .u8 (gt x.Coin.Root 18):: .int .u8 (gt x.Coin.Root 19):: .int .u8 (gt x.Coin.Root 20):: .int .u8 (gt x.Coin.Root 21):: .int .u8 (gt x.Coin.Root 22):: .int .u8 (gt x.Coin.Root 23):: .int .u8 (gt x.Coin.Root 24):: .int .u8 (gt x.Coin.Root 25):: .int .u8 (gt x.Coin.Root 26):: .int .u8 (gt x.Coin.Root 27):: .int .u8 (gt x.Coin.Root 28):: .int .u8 (gt x.Coin.Root 29):: .int .u8 (gt x.Coin.Root 30):: .int .u8 (gt x.Coin.Root 31):: .int .i64 x.Coin.Sign.Z:: .int .i64 x.Coin.Sign.A:: .int .i64 x.Coin.Sign.B:: .int .i64 x.Coin.Sign.R:: .int .i64 x.Node.Level:: .int .i64 x.Node.Index:: .int .u8 (gt x.Context.Payee 0):: .int .u8 (gt x.Context.Payee 1):: .int .u8 (gt x.Context.Payee 2):: .int .u8 (gt x.Context.Payee 3):: .int .u8 (gt x.Context.Payee 4):: .int .u8 (gt x.Context.Payee 5):: .int .u8 (gt x.Context.Payee 6):: .int .u8 (gt x.Context.Payee 7):: .int .u8 (gt x.Context.Payee 8):: .int .u8 (gt x.Context.Payee 9):: .int .u8 (gt x.Context.Payee 10):: .int .u8 (gt x.Context.Payee 11):: .int .u8 (gt x.Context.Payee 12):: .int .u8 (gt x.Context.Payee 13):: .int .u8 (gt x.Context.Payee 14):: .int .u8 (gt x.Context.Payee 15):: .int .u8 (gt x.Context.Payee 16):: .int .u8 (gt x.Context.Payee 17):: .int .u8 (gt x.Context.Payee 18):: .int .u8 (gt x.Context.Payee 19):: .int .u8 (gt x.Context.Payee 20):: .int .u8 (gt x.Context.Payee 21):: .int .u8 (gt x.Context.Payee 22):: .int .u8 (gt x.Context.Payee 23):: .int .u8 (gt x.Context.Payee 24):: .int .u8 (gt x.Context.Payee 25):: .int .u8 (gt x.Context.Payee 26):: .int .u8 (gt x.Context.Payee 27):: .int .u8 (gt x.Context.Payee 28):: .int .u8 (gt x.Context.Payee 29):: .int .u8 (gt x.Context.Payee 30):: .int .u8 (gt x.Context.Payee 31):: .int .i64 x.Context.Time:: .int .i64 x.Context.Number:: .sl none 3 true (x.Leaves.map eL):: .int .i64 x.Path.Index:: .sl none 32 true (x.Path.L.map aI)::[])
attribute [go_sem] aT
def uN (x:ia):V:= .agg [.int .i64 x.Z,.int .i64 x.A,.int .i64 x.B,.int .i64 x.R]
attribute [go_sem] uN
def dm (x:bD):V:= .agg (.int .i64 x.Bank:: .int .i64 x.Epoch:: .int .i64 x.Denom:: .int .i64 x.Depth:: .int .i64 x.A:: .int .u8 (gt x.Root 0):: .int .u8 (gt x.Root 1):: .int .u8 (gt x.Root 2):: .int .u8 (gt x.Root 3):: .int .u8 (gt x.Root 4):: .int .u8 (gt x.Root 5):: .int .u8 (gt x.Root 6):: .int .u8 (gt x.Root 7):: .int .u8 (gt x.Root 8):: .int .u8 (gt x.Root 9):: .int .u8 (gt x.Root 10):: .int .u8 (gt x.Root 11):: .int .u8 (gt x.Root 12):: .int .u8 (gt x.Root 13):: .int .u8 (gt x.Root 14):: .int .u8 (gt x.Root 15):: .int .u8 (gt x.Root 16):: .int .u8 (gt x.Root 17):: .int .u8 (gt x.Root 18):: .int .u8 (gt x.Root 19):: .int .u8 (gt x.Root 20):: .int .u8 (gt x.Root 21):: .int .u8 (gt x.Root 22):: .int .u8 (gt x.Root 23):: .int .u8 (gt x.Root 24):: .int .u8 (gt x.Root 25):: .int .u8 (gt x.Root 26):: .int .u8 (gt x.Root 27):: .int .u8 (gt x.Root 28):: .int .u8 (gt x.Root 29):: .int .u8 (gt x.Root 30):: .int .u8 (gt x.Root 31):: .int .i64 x.Sign.Z:: .int .i64 x.Sign.A:: .int .i64 x.Sign.B:: .int .i64 x.Sign.R::[])
attribute [go_sem] dm
def uO (x:gB):V:= .agg [.int .i64 x.Level,.int .i64 x.Index]
attribute [go_sem] uO
def ld (x:eK):V:= .agg (.int .u8 (gt x.Payee 0):: .int .u8 (gt x.Payee 1):: .int .u8 (gt x.Payee 2):: .int .u8 (gt x.Payee 3):: .int .u8 (gt x.Payee 4):: .int .u8 (gt x.Payee 5):: .int .u8 (gt x.Payee 6):: .int .u8 (gt x.Payee 7):: .int .u8 (gt x.Payee 8):: .int .u8 (gt x.Payee 9):: .int .u8 (gt x.Payee 10):: .int .u8 (gt x.Payee 11):: .int .u8 (gt x.Payee 12):: .int .u8 (gt x.Payee 13):: .int .u8 (gt x.Payee 14):: .int .u8 (gt x.Payee 15):: .int .u8 (gt x.Payee 16):: .int .u8 (gt x.Payee 17):: .int .u8 (gt x.Payee 18):: .int .u8 (gt x.Payee 19):: .int .u8 (gt x.Payee 20):: .int .u8 (gt x.Payee 21):: .int .u8 (gt x.Payee 22):: .int .u8 (gt x.Payee 23):: .int .u8 (gt x.Payee 24):: .int .u8 (gt x.Payee 25):: .int .u8 (gt x.Payee 26):: .int .u8 (gt x.Payee 27):: .int .u8 (gt x.Payee 28):: .int .u8 (gt x.Payee 29):: .int .u8 (gt x.Payee 30):: .int .u8 (gt x.Payee 31):: .int .i64 x.Time:: .int .i64 x.Number::[])
attribute [go_sem] ld
def uP (x:ic):V:= .agg [.int .i64 x.Index,.sl none 32 true (x.L.map aI)]
attribute [go_sem] uP
def bv (x:bX):V:= .agg (.int .i64 x.First.Coin.Bank:: .int .i64 x.First.Coin.Epoch:: .int .i64 x.First.Coin.Denom:: .int .i64 x.First.Coin.Depth:: .int .i64 x.First.Coin.A:: .int .u8 (gt x.First.Coin.Root 0):: .int .u8 (gt x.First.Coin.Root 1):: .int .u8 (gt x.First.Coin.Root 2):: .int .u8 (gt x.First.Coin.Root 3):: .int .u8 (gt x.First.Coin.Root 4):: .int .u8 (gt x.First.Coin.Root 5):: .int .u8 (gt x.First.Coin.Root 6):: .int .u8 (gt x.First.Coin.Root 7):: .int .u8 (gt x.First.Coin.Root 8):: .int .u8 (gt x.First.Coin.Root 9):: .int .u8 (gt x.First.Coin.Root 10):: .int .u8 (gt x.First.Coin.Root 11):: .int .u8 (gt x.First.Coin.Root 12):: .int .u8 (gt x.First.Coin.Root 13):: .int .u8 (gt x.First.Coin.Root 14):: .int .u8 (gt x.First.Coin.Root 15):: .int .u8 (gt x.First.Coin.Root 16):: .int .u8 (gt x.First.Coin.Root 17):: .int .u8 (gt x.First.Coin.Root 18):: .int .u8 (gt x.First.Coin.Root 19):: .int .u8 (gt x.First.Coin.Root 20):: .int .u8 (gt x.First.Coin.Root 21):: .int .u8 (gt x.First.Coin.Root 22):: .int .u8 (gt x.First.Coin.Root 23):: .int .u8 (gt x.First.Coin.Root 24):: .int .u8 (gt x.First.Coin.Root 25):: .int .u8 (gt x.First.Coin.Root 26):: .int .u8 (gt x.First.Coin.Root 27):: .int .u8 (gt x.First.Coin.Root 28):: .int .u8 (gt x.First.Coin.Root 29):: .int .u8 (gt x.First.Coin.Root 30):: .int .u8 (gt x.First.Coin.Root 31):: .int .i64 x.First.Coin.Sign.Z:: .int .i64 x.First.Coin.Sign.A:: .int .i64 x.First.Coin.Sign.B:: .int .i64 x.First.Coin.Sign.R:: .int .i64 x.First.Node.Level:: .int .i64 x.First.Node.Index:: .int .u8 (gt x.First.Context.Payee 0):: .int .u8 (gt x.First.Context.Payee 1):: .int .u8 (gt x.First.Context.Payee 2):: .int .u8 (gt x.First.Context.Payee 3):: .int .u8 (gt x.First.Context.Payee 4):: .int .u8 (gt x.First.Context.Payee 5):: .int .u8 (gt x.First.Context.Payee 6):: .int .u8 (gt x.First.Context.Payee 7):: .int .u8 (gt x.First.Context.Payee 8):: .int .u8 (gt x.First.Context.Payee 9):: .int .u8 (gt x.First.Context.Payee 10):: .int .u8 (gt x.First.Context.Payee 11):: .int .u8 (gt x.First.Context.Payee 12):: .int .u8 (gt x.First.Context.Payee 13):: .int .u8 (gt x.First.Context.Payee 14):: .int .u8 (gt x.First.Context.Payee 15):: .int .u8 (gt x.First.Context.Payee 16):: .int .u8 (gt x.First.Context.Payee 17):: .int .u8 (gt x.First.Context.Payee 18):: .int .u8 (gt x.First.Context.Payee 19):: .int .u8 (gt x.First.Context.Payee 20):: .int .u8 (gt x.First.Context.Payee 21):: .int .u8 (gt x.First.Context.Payee 22):: .int .u8 (gt x.First.Context.Payee 23):: .int .u8 (gt x.First.Context.Payee 24):: .int .u8 (gt x.First.Context.Payee 25):: .int .u8 (gt x.First.Context.Payee 26):: .int .u8 (gt x.First.Context.Payee 27):: .int .u8 (gt x.First.Context.Payee 28):: .int .u8 (gt x.First.Context.Payee 29):: .int .u8 (gt x.First.Context.Payee 30):: .int .u8 (gt x.First.Context.Payee 31):: .int .i64 x.First.Context.Time:: .int .i64 x.First.Context.Number:: .sl none 3 true (x.First.Leaves.map eL):: .int .i64 x.First.Path.Index:: .sl none 32 true (x.First.Path.L.map aI):: .sl none 80 true (x.L.map aT)::[])
attribute [go_sem] bv
def bG (x:cW):V:= .agg [.int .i64 x.E1,.int .i64 x.E2,.sl none 1 false (x.Proof.A.map (V.int .i64)),.int .i64 x.Proof.C,.sl none 1 false (x.Proof.Z.map (V.int .i64))]
attribute [go_sem] bG
def uQ (x:fH):V:= .agg [.sl none 1 false (x.A.map (V.int .i64)),.int .i64 x.C,.sl none 1 false (x.Z.map (V.int .i64))]
attribute [go_sem] uQ
def jQ (x:bR):V:= .agg [.int .i64 x.Number,.sl none 80 true (x.Spends.map aT),.sl none 81 true (x.Chains.map bv),.sl none 5 true (x.Escrow.map bG)]
attribute [go_sem] jQ
def mD (a b:dH):Bool:=(a.Value==b.Value&&a.Depth==b.Depth)
attribute [go_sem] mD
def nZ (x:dH):V:= .agg [.int .i64 x.Value,.int .i64 x.Depth]
attribute [go_sem] nZ
def bS (x:a8):V:= .agg [.int .i64 x.Group.P,.int .i64 x.Group.Q,.int .i64 x.Group.G,.int .i64 x.G1,.int .i64 x.G2,.int .i64 x.H]
attribute [go_sem] bS
def bJ (x:bu):V:= .agg [.int .i64 x.Bank,.int .i64 x.Epoch,.int .i64 x.Denom,.int .i64 x.Value,.int .i64 x.Depth,.int .i64 x.Key.H,.int .i64 x.Key.H1,.int .i64 x.Key.H2,.int .i64 x.From,.int .i64 x.Until,.int .i64 x.Final]
attribute [go_sem] bJ
def cg (x:bU):V:= .agg (.int .i64 x.b.Group.P:: .int .i64 x.b.Group.Q:: .int .i64 x.b.Group.G:: .int .i64 x.b.G1:: .int .i64 x.b.G2:: .int .i64 x.b.H:: .sl none 11 true (x.l.map bJ):: .int .i64 x.y:: .int .u8 (gt x.v.Payee 0):: .int .u8 (gt x.v.Payee 1):: .int .u8 (gt x.v.Payee 2):: .int .u8 (gt x.v.Payee 3):: .int .u8 (gt x.v.Payee 4):: .int .u8 (gt x.v.Payee 5):: .int .u8 (gt x.v.Payee 6):: .int .u8 (gt x.v.Payee 7):: .int .u8 (gt x.v.Payee 8):: .int .u8 (gt x.v.Payee 9):: .int .u8 (gt x.v.Payee 10):: .int .u8 (gt x.v.Payee 11):: .int .u8 (gt x.v.Payee 12):: .int .u8 (gt x.v.Payee 13):: .int .u8 (gt x.v.Payee 14):: .int .u8 (gt x.v.Payee 15):: .int .u8 (gt x.v.Payee 16):: .int .u8 (gt x.v.Payee 17):: .int .u8 (gt x.v.Payee 18):: .int .u8 (gt x.v.Payee 19):: .int .u8 (gt x.v.Payee 20):: .int .u8 (gt x.v.Payee 21):: .int .u8 (gt x.v.Payee 22):: .int .u8 (gt x.v.Payee 23):: .int .u8 (gt x.v.Payee 24):: .int .u8 (gt x.v.Payee 25):: .int .u8 (gt x.v.Payee 26):: .int .u8 (gt x.v.Payee 27):: .int .u8 (gt x.v.Payee 28):: .int .u8 (gt x.v.Payee 29):: .int .u8 (gt x.v.Payee 30):: .int .u8 (gt x.v.Payee 31):: .int .i64 x.v.Amount:: .int .i64 x.v.Time:: .int .i64 x.v.Number:: .int .i64 x.p.Number:: .sl none 80 true (x.p.Spends.map aT):: .sl none 81 true (x.p.Chains.map bv):: .sl none 5 true (x.p.Escrow.map bG)::[])
attribute [go_sem] cg
def qP:V:= .agg (.int .u32 0:: .int .u32 0:: .int .u32 0:: .int .u32 0:: .int .u32 0:: .int .u32 0:: .int .u32 0:: .int .u32 0:: .int .u32 0:: .int .u32 0:: .int .u32 0:: .int .u32 0:: .int .u32 0:: .int .u32 0:: .int .u32 0:: .int .u32 0:: .int .u32 0:: .int .u32 0:: .int .u32 0:: .int .u32 0:: .int .u32 0:: .int .u32 0:: .int .u32 0:: .int .u32 0:: .int .u32 0:: .int .u32 0:: .int .u32 0:: .int .u32 0:: .int .u32 0:: .int .u32 0:: .int .u32 0:: .int .u32 0:: .int .u32 0:: .int .u32 0:: .int .u32 0:: .int .u32 0:: .int .u32 0:: .int .u32 0:: .int .u32 0:: .int .u32 0:: .int .u32 0:: .int .u32 0:: .int .u32 0:: .int .u32 0:: .int .u32 0:: .int .u32 0:: .int .u32 0:: .int .u32 0:: .int .u32 0:: .int .u32 0:: .int .u32 0:: .int .u32 0:: .int .u32 0:: .int .u32 0:: .int .u32 0:: .int .u32 0:: .int .u32 0:: .int .u32 0:: .int .u32 0:: .int .u32 0:: .int .u32 0:: .int .u32 0:: .int .u32 0:: .int .u32 0::[])
attribute [go_sem] qP
def mE (l:(List Int)):V:= .agg (.int .u32 (gt l 0):: .int .u32 (gt l 1):: .int .u32 (gt l 2):: .int .u32 (gt l 3):: .int .u32 (gt l 4):: .int .u32 (gt l 5):: .int .u32 (gt l 6):: .int .u32 (gt l 7):: .int .u32 (gt l 8):: .int .u32 (gt l 9):: .int .u32 (gt l 10):: .int .u32 (gt l 11):: .int .u32 (gt l 12):: .int .u32 (gt l 13):: .int .u32 (gt l 14):: .int .u32 (gt l 15):: .int .u32 (gt l 16):: .int .u32 (gt l 17):: .int .u32 (gt l 18):: .int .u32 (gt l 19):: .int .u32 (gt l 20):: .int .u32 (gt l 21):: .int .u32 (gt l 22):: .int .u32 (gt l 23):: .int .u32 (gt l 24):: .int .u32 (gt l 25):: .int .u32 (gt l 26):: .int .u32 (gt l 27):: .int .u32 (gt l 28):: .int .u32 (gt l 29):: .int .u32 (gt l 30):: .int .u32 (gt l 31):: .int .u32 (gt l 32):: .int .u32 (gt l 33):: .int .u32 (gt l 34):: .int .u32 (gt l 35):: .int .u32 (gt l 36):: .int .u32 (gt l 37):: .int .u32 (gt l 38):: .int .u32 (gt l 39):: .int .u32 (gt l 40):: .int .u32 (gt l 41):: .int .u32 (gt l 42):: .int .u32 (gt l 43):: .int .u32 (gt l 44):: .int .u32 (gt l 45):: .int .u32 (gt l 46):: .int .u32 (gt l 47):: .int .u32 (gt l 48):: .int .u32 (gt l 49):: .int .u32 (gt l 50):: .int .u32 (gt l 51):: .int .u32 (gt l 52):: .int .u32 (gt l 53):: .int .u32 (gt l 54):: .int .u32 (gt l 55):: .int .u32 (gt l 56):: .int .u32 (gt l 57):: .int .u32 (gt l 58):: .int .u32 (gt l 59):: .int .u32 (gt l 60):: .int .u32 (gt l 61):: .int .u32 (gt l 62):: .int .u32 (gt l 63)::[])
attribute [go_sem] mE
def jR (l:(List Int)):V:= .agg [.int .u32 (gt l 0),.int .u32 (gt l 1),.int .u32 (gt l 2),.int .u32 (gt l 3),.int .u32 (gt l 4),.int .u32 (gt l 5),.int .u32 (gt l 6),.int .u32 (gt l 7)]
attribute [go_sem] jR
def uR:V:= .agg [.int .u32 0,.int .u32 0,.int .u32 0,.int .u32 0,.int .u32 0,.int .u32 0,.int .u32 0,.int .u32 0]
attribute [go_sem] uR
def fJ:V:= .agg (.int .u8 0:: .int .u8 0:: .int .u8 0:: .int .u8 0:: .int .u8 0:: .int .u8 0:: .int .u8 0:: .int .u8 0:: .int .u8 0:: .int .u8 0:: .int .u8 0:: .int .u8 0:: .int .u8 0:: .int .u8 0:: .int .u8 0:: .int .u8 0:: .int .u8 0:: .int .u8 0:: .int .u8 0:: .int .u8 0:: .int .u8 0:: .int .u8 0:: .int .u8 0:: .int .u8 0:: .int .u8 0:: .int .u8 0:: .int .u8 0:: .int .u8 0:: .int .u8 0:: .int .u8 0:: .int .u8 0:: .int .u8 0::[])
attribute [go_sem] fJ
def uS (a b:(List Int)):Bool:=((gt a 0)==(gt b 0)&&((gt a 1)==(gt b 1)&&((gt a 2)==(gt b 2)&&((gt a 3)==(gt b 3)&&((gt a 4)==(gt b 4)&&((gt a 5)==(gt b 5)&&((gt a 6)==(gt b 6)&&((gt a 7)==(gt b 7)&&((gt a 8)==(gt b 8)&&((gt a 9)==(gt b 9)&&((gt a 10)==(gt b 10)&&((gt a 11)==(gt b 11)&&((gt a 12)==(gt b 12)&&((gt a 13)==(gt b 13)&&((gt a 14)==(gt b 14)&&((gt a 15)==(gt b 15)&&((gt a 16)==(gt b 16)&&((gt a 17)==(gt b 17)&&((gt a 18)==(gt b 18)&&((gt a 19)==(gt b 19)&&((gt a 20)==(gt b 20)&&((gt a 21)==(gt b 21)&&((gt a 22)==(gt b 22)&&((gt a 23)==(gt b 23)&&((gt a 24)==(gt b 24)&&((gt a 25)==(gt b 25)&&((gt a 26)==(gt b 26)&&((gt a 27)==(gt b 27)&&((gt a 28)==(gt b 28)&&((gt a 29)==(gt b 29)&&((gt a 30)==(gt b 30)&&(gt a 31)==(gt b 31))))))))))))))))))))))))))))))))
attribute [go_sem] uS
def zK (a b:eK):Bool:=((gt a.Payee 0)==(gt b.Payee 0)&&((gt a.Payee 1)==(gt b.Payee 1)&&((gt a.Payee 2)==(gt b.Payee 2)&&((gt a.Payee 3)==(gt b.Payee 3)&&((gt a.Payee 4)==(gt b.Payee 4)&&((gt a.Payee 5)==(gt b.Payee 5)&&((gt a.Payee 6)==(gt b.Payee 6)&&((gt a.Payee 7)==(gt b.Payee 7)&&((gt a.Payee 8)==(gt b.Payee 8)&&((gt a.Payee 9)==(gt b.Payee 9)&&((gt a.Payee 10)==(gt b.Payee 10)&&((gt a.Payee 11)==(gt b.Payee 11)&&((gt a.Payee 12)==(gt b.Payee 12)&&((gt a.Payee 13)==(gt b.Payee 13)&&((gt a.Payee 14)==(gt b.Payee 14)&&((gt a.Payee 15)==(gt b.Payee 15)&&((gt a.Payee 16)==(gt b.Payee 16)&&((gt a.Payee 17)==(gt b.Payee 17)&&((gt a.Payee 18)==(gt b.Payee 18)&&((gt a.Payee 19)==(gt b.Payee 19)&&((gt a.Payee 20)==(gt b.Payee 20)&&((gt a.Payee 21)==(gt b.Payee 21)&&((gt a.Payee 22)==(gt b.Payee 22)&&((gt a.Payee 23)==(gt b.Payee 23)&&((gt a.Payee 24)==(gt b.Payee 24)&&((gt a.Payee 25)==(gt b.Payee 25)&&((gt a.Payee 26)==(gt b.Payee 26)&&((gt a.Payee 27)==(gt b.Payee 27)&&((gt a.Payee 28)==(gt b.Payee 28)&&((gt a.Payee 29)==(gt b.Payee 29)&&((gt a.Payee 30)==(gt b.Payee 30)&&((gt a.Payee 31)==(gt b.Payee 31)&&(a.Time==b.Time&&a.Number==b.Number)))))))))))))))))))))))))))))))))
attribute [go_sem] zK
def lf (x:cy):V:= .agg (.int .i64 x.A:: .int .i64 x.B:: .int .i64 x.Spend.Coin.Bank:: .int .i64 x.Spend.Coin.Epoch:: .int .i64 x.Spend.Coin.Denom:: .int .i64 x.Spend.Coin.Depth:: .int .i64 x.Spend.Coin.A:: .int .u8 (gt x.Spend.Coin.Root 0):: .int .u8 (gt x.Spend.Coin.Root 1):: .int .u8 (gt x.Spend.Coin.Root 2):: .int .u8 (gt x.Spend.Coin.Root 3):: .int .u8 (gt x.Spend.Coin.Root 4):: .int .u8 (gt x.Spend.Coin.Root 5):: .int .u8 (gt x.Spend.Coin.Root 6):: .int .u8 (gt x.Spend.Coin.Root 7):: .int .u8 (gt x.Spend.Coin.Root 8):: .int .u8 (gt x.Spend.Coin.Root 9):: .int .u8 (gt x.Spend.Coin.Root 10):: .int .u8 (gt x.Spend.Coin.Root 11):: .int .u8 (gt x.Spend.Coin.Root 12):: .int .u8 (gt x.Spend.Coin.Root 13):: .int .u8 (gt x.Spend.Coin.Root 14):: .int .u8 (gt x.Spend.Coin.Root 15):: .int .u8 (gt x.Spend.Coin.Root 16):: .int .u8 (gt x.Spend.Coin.Root 17):: .int .u8 (gt x.Spend.Coin.Root 18):: .int .u8 (gt x.Spend.Coin.Root 19):: .int .u8 (gt x.Spend.Coin.Root 20):: .int .u8 (gt x.Spend.Coin.Root 21):: .int .u8 (gt x.Spend.Coin.Root 22):: .int .u8 (gt x.Spend.Coin.Root 23):: .int .u8 (gt x.Spend.Coin.Root 24):: .int .u8 (gt x.Spend.Coin.Root 25):: .int .u8 (gt x.Spend.Coin.Root 26):: .int .u8 (gt x.Spend.Coin.Root 27):: .int .u8 (gt x.Spend.Coin.Root 28):: .int .u8 (gt x.Spend.Coin.Root 29):: .int .u8 (gt x.Spend.Coin.Root 30):: .int .u8 (gt x.Spend.Coin.Root 31):: .int .i64 x.Spend.Coin.Sign.Z:: .int .i64 x.Spend.Coin.Sign.A:: .int .i64 x.Spend.Coin.Sign.B:: .int .i64 x.Spend.Coin.Sign.R:: .int .i64 x.Spend.Node.Level:: .int .i64 x.Spend.Node.Index:: .int .u8 (gt x.Spend.Context.Payee 0):: .int .u8 (gt x.Spend.Context.Payee 1):: .int .u8 (gt x.Spend.Context.Payee 2):: .int .u8 (gt x.Spend.Context.Payee 3):: .int .u8 (gt x.Spend.Context.Payee 4):: .int .u8 (gt x.Spend.Context.Payee 5):: .int .u8 (gt x.Spend.Context.Payee 6):: .int .u8 (gt x.Spend.Context.Payee 7):: .int .u8 (gt x.Spend.Context.Payee 8):: .int .u8 (gt x.Spend.Context.Payee 9):: .int .u8 (gt x.Spend.Context.Payee 10):: .int .u8 (gt x.Spend.Context.Payee 11):: .int .u8 (gt x.Spend.Context.Payee 12):: .int .u8 (gt x.Spend.Context.Payee 13):: .int .u8 (gt x.Spend.Context.Payee 14):: .int .u8 (gt x.Spend.Context.Payee 15):: .int .u8 (gt x.Spend.Context.Payee 16):: .int .u8 (gt x.Spend.Context.Payee 17):: .int .u8 (gt x.Spend.Context.Payee 18):: .int .u8 (gt x.Spend.Context.Payee 19):: .int .u8 (gt x.Spend.Context.Payee 20):: .int .u8 (gt x.Spend.Context.Payee 21):: .int .u8 (gt x.Spend.Context.Payee 22):: .int .u8 (gt x.Spend.Context.Payee 23):: .int .u8 (gt x.Spend.Context.Payee 24):: .int .u8 (gt x.Spend.Context.Payee 25):: .int .u8 (gt x.Spend.Context.Payee 26):: .int .u8 (gt x.Spend.Context.Payee 27):: .int .u8 (gt x.Spend.Context.Payee 28):: .int .u8 (gt x.Spend.Context.Payee 29):: .int .u8 (gt x.Spend.Context.Payee 30):: .int .u8 (gt x.Spend.Context.Payee 31):: .int .i64 x.Spend.Context.Time:: .int .i64 x.Spend.Context.Number:: .sl none 3 true (x.Spend.Leaves.map eL):: .int .i64 x.Spend.Path.Index:: .sl none 32 true (x.Spend.Path.L.map aI):: .int .i64 x.Leaf::[])
attribute [go_sem] lf
def fK (x:bZ):V:= .agg (.int .u8 (gt x.State 0):: .int .u8 (gt x.State 1):: .int .u8 (gt x.State 2):: .int .u8 (gt x.State 3):: .int .u8 (gt x.State 4):: .int .u8 (gt x.State 5):: .int .u8 (gt x.State 6):: .int .u8 (gt x.State 7):: .int .u8 (gt x.State 8):: .int .u8 (gt x.State 9):: .int .u8 (gt x.State 10):: .int .u8 (gt x.State 11):: .int .u8 (gt x.State 12):: .int .u8 (gt x.State 13):: .int .u8 (gt x.State 14):: .int .u8 (gt x.State 15):: .int .u8 (gt x.State 16):: .int .u8 (gt x.State 17):: .int .u8 (gt x.State 18):: .int .u8 (gt x.State 19):: .int .u8 (gt x.State 20):: .int .u8 (gt x.State 21):: .int .u8 (gt x.State 22):: .int .u8 (gt x.State 23):: .int .u8 (gt x.State 24):: .int .u8 (gt x.State 25):: .int .u8 (gt x.State 26):: .int .u8 (gt x.State 27):: .int .u8 (gt x.State 28):: .int .u8 (gt x.State 29):: .int .u8 (gt x.State 30):: .int .u8 (gt x.State 31):: .int .i64 x.Count::[])
attribute [go_sem] fK
def uT (x:aQ):V:= .agg [.int .i64 x.P,.int .i64 x.Q,.int .i64 x.G]
attribute [go_sem] uT
def uU (x:ig):V:= .agg [.int .i64 x.H,.int .i64 x.H1,.int .i64 x.H2]
attribute [go_sem] uU
end Go.Proofs.YtcbbjfckokckcaaGreatDoor
namespace Go.Proofs.YtcbbjfckokckcaaGreatDoor
open Go.RowKit
theorem G3 {C:Int→Bool} {n:Int} {F:(Int→Int)→Int→Int} (hF: ∀ag p,F ag p=if p<n then (if C p=true then p else ag (p+1)) else -1) {d:Int→Int}:
  ∀(fuel:Nat) (i:Int),0≤i→(n - i).toNat<fuel→(am fuel F d i= -1∧ ∀j,i≤j→j<n→C j=false)∨(i≤am fuel F d i∧am fuel F d i<n∧C (am fuel F d i)=true∧ ∀j,i≤j→j<am fuel F d i→C j=false):=by
 intro fuel
 induction fuel with
 | zero=>intro i _ h;omega
 | succ k ih=>
  intro i h0 h
  rw [am,hF]
  by_cases hi:i<n
  ·rw [if_pos hi]
   by_cases hc:C i=true
   ·rw [if_pos hc]
    exact .inr ⟨Int.le_refl _,hi,hc,fun j h1 h2=>by omega⟩
   ·rw [if_neg hc]
    have hc':C i=false:=by simpa using hc
    rcases ih (i+1) (by omega) (by omega) with ⟨h1,h2⟩|⟨h1,h2,h3,h4⟩
    ·refine .inl ⟨h1,fun j g1 g2=> ?_⟩
     by_cases e:j=i
     ·subst e;exact hc'
     ·exact h2 j (by omega) g2
    ·refine .inr ⟨by omega,h2,h3,fun j g1 g2=> ?_⟩
     by_cases e:j=i
     ·subst e;exact hc'
     ·exact h4 j (by omega) g2
  ·rw [if_neg hi]
   exact .inl ⟨rfl,fun j h1 h2=>by omega⟩
theorem i3 {α β:Type} {a:α} {f:α→β}:ab a f=f a:=rfl
theorem ca {α:Type} [Inhabited α] {l:List α} {i:Int} (h:i.toNat<l.length):gt l i∈l:=by
 simp [gt,List.getD_eq_getElem?_getD,h]
theorem G4 {α β R:Type} [Inhabited α] {f:α→β} {E:Int×List β→R} {l:List α} {F:(Int×List β→R)→Int×List β→R} {d:Int×List β→R}
  (hF: ∀ag p,F ag p=if decide (p.1<(l.length:Int))=true then ag (p.1+1,p.2++[f (gt l p.1)]) else E p):
  ∀(fuel k:Nat) (a:List β),k≤l.length→l.length - k<fuel→am fuel F d ((k:Int),a)=E ((l.length:Int),a++(l.drop k).map f):=by
 intro fuel
 induction fuel with
 | zero=>intro k a _ h;omega
 | succ n ih=>
  intro k a hl h
  rw [am,hF]
  by_cases hk:k<l.length
  ·rw [if_pos (decide_eq_true (show (k:Int)<_ by omega))]
   have:=ih (k+1) (a++[f (gt l k)]) (by omega) (by omega)
   rw [show ((k+1:Nat):Int)=(k:Int)+1 by omega] at this
   have hg:gt l (k:Int)=l[k]:=by simp [gt,List.getD_eq_getElem?_getD,hk]
   show am n F d ((k:Int)+1,a++[f (gt l (k:Int))])=_
   rw [this,List.drop_eq_getElem_cons hk,hg]
   simp only [List.map_cons,List.append_assoc,List.singleton_append]
  ·obtain rfl:k=l.length:=by omega
   rw [if_neg (by simp),List.drop_eq_nil_of_le (by omega)]
   simp
theorem G5 {α β R:Type} [Inhabited α] (f:α→β) {E:Int×List β→R} {l:List α} {F:(Int×List β→R)→Int×List β→R} {d:Int×List β→R}
  (hF: ∀ag p,F ag p=if decide (p.1<(l.length:Int))=true then ag (p.1+1,p.2++[f (gt l p.1)]) else E p):
  am (((l.length:Int) - 0).toNat+1) F d (0,[])=E ((l.length:Int),l.map f):=by
 have:=G4 (d:=d) hF (((l.length:Int) - 0).toNat+1) 0 [] (by omega) (by omega)
 simpa using this
theorem qQ {α:Type} [Inhabited α] {l:List α} {C:α→Bool} {F:(Int→Int)→Int→Int} {d:Int→Int}
  (hF: ∀ag p,F ag p=if decide (p<(l.length:Int))=true then (if C (gt l p)=true then p else ag (p+1)) else -1):
  decide (am (((l.length:Int) - 0).toNat+1) F d 0≥0)=l.any C:=by
 have hg: ∀(j:Int),0≤j→j<l.length→gt l j∈l:=fun j h0 h1=>ca (by omega)
 rcases G3 (C:=fun p=>C (gt l p)) (n:=(l.length:Int)) (F:=F) (d:=d) (fun ag p=>by rw [hF];by_cases hp:p<(l.length:Int)<;>simp [hp]) (((l.length:Int) - 0).toNat+1) 0 (by omega) (by omega) with ⟨h1,h2⟩|⟨h1,h2,h3,_⟩
 ·rw [h1]
  symm
  rw [show decide ((-1:Int)≥0)=false by decide,List.any_eq_false]
  intro x hx
  obtain ⟨i,hi,rfl⟩:=List.mem_iff_getElem.1 hx
  have:=h2 (i:Int) (by omega) (by omega)
  simpa [gt,List.getD_eq_getElem?_getD,hi] using this
 ·rw [decide_eq_true h1]
  symm
  exact List.any_eq_true.2 ⟨_,hg _ h1 h2,h3⟩
theorem gC {α R:Type} {P:α→Prop} {Q:R→Prop} {meas:α→Nat} {F:(α→R)→α→R} {d:α→R}
  (hs: ∀ag p,P p→(∀q,P q→meas q<meas p→Q (ag q))→Q (F ag p)): ∀(fuel:Nat) (p:α),P p→meas p<fuel→Q (am fuel F d p):=by
 intro fuel
 induction fuel with
 | zero=>intro p _ h;omega
 | succ k ih=>
  intro p hp hm
  rw [am]
  exact hs _ p hp fun q hq hlt=>ih q hq (by omega)
def eN {α σ R:Type} (st:α→σ→σ⊕R) (E:σ→R):List α→σ→R
 | [],s=>E s
 | a::l,s=>match st a s with
  | .inl s'=>eN st E l s'
  | .inr r=>r
theorem G6 {α σ R:Type} [Inhabited α] {l:List α} {st:α→σ→σ⊕R} {E:σ→R} {F:(Int×σ→R)→Int×σ→R} {d:Int×σ→R}
  (hF: ∀ag i s,F ag (i,s)=if i<(l.length:Int) then (match st (gt l i) s with| .inl s'=>ag (i+1,s')| .inr r=>r) else E s):
  ∀(fuel k:Nat) (s:σ),k≤l.length→l.length - k<fuel→am fuel F d ((k:Int),s)=eN st E (l.drop k) s:=by
 intro fuel
 induction fuel with
 | zero=>intro k s _ h;omega
 | succ n ih=>
  intro k s hl h
  rw [am,hF]
  by_cases hk:k<l.length
  ·rw [if_pos (by omega),List.drop_eq_getElem_cons hk]
   have hg:gt l (k:Int)=l[k]:=by simp [gt,List.getD_eq_getElem?_getD,hk]
   rw [hg]
   simp only [eN]
   cases st l[k] s with
   | inl s'=>
    have:=ih (k+1) s' (by omega) (by omega)
    rw [show ((k+1:Nat):Int)=(k:Int)+1 by omega] at this
    exact this
   | inr r=>rfl
  ·obtain rfl:k=l.length:=by omega
   rw [if_neg (by simp),List.drop_eq_nil_of_le (by omega)];rfl
theorem n3 {α σ R:Type} [Inhabited α] {l:List α} (st:α→σ→σ⊕R) (E:σ→R) {F:(Int×σ→R)→Int×σ→R} {d:Int×σ→R} {s:σ}
  (hF: ∀ag i s,F ag (i,s)=if i<(l.length:Int) then (match st (gt l i) s with| .inl s'=>ag (i+1,s')| .inr r=>r) else E s):
  am (((l.length:Int) - 0).toNat+1) F d (0,s)=eN st E l s:=by
 have:=G6 (d:=d) hF (((l.length:Int) - 0).toNat+1) 0 s (by omega) (by omega)
 simpa using this
theorem G7 {α σ R:Type} [Inhabited α] {l:List α} {st:α→σ→σ⊕R} {E:σ→R} {F:(σ×Int→R)→σ×Int→R} {d:σ×Int→R}
  (hF: ∀ag i s,F ag (s,i)=if i<(l.length:Int) then (match st (gt l i) s with| .inl s'=>ag (s',i+1)| .inr r=>r) else E s):
  ∀(fuel k:Nat) (s:σ),k≤l.length→l.length - k<fuel→am fuel F d (s,(k:Int))=eN st E (l.drop k) s:=by
 intro fuel
 induction fuel with
 | zero=>intro k s _ h;omega
 | succ n ih=>
  intro k s hl h
  rw [am,hF]
  by_cases hk:k<l.length
  ·rw [if_pos (by omega),List.drop_eq_getElem_cons hk]
   have hg:gt l (k:Int)=l[k]:=by simp [gt,List.getD_eq_getElem?_getD,hk]
   rw [hg]
   simp only [eN]
   cases st l[k] s with
   | inl s'=>
    have:=ih (k+1) s' (by omega) (by omega)
    rw [show ((k+1:Nat):Int)=(k:Int)+1 by omega] at this
    exact this
   | inr r=>rfl
  ·obtain rfl:k=l.length:=by omega
   rw [if_neg (by simp),List.drop_eq_nil_of_le (by omega)];rfl
theorem G8 {α σ R:Type} [Inhabited α] {l:List α} (st:α→σ→σ⊕R) (E:σ→R) {F:(σ×Int→R)→σ×Int→R} {d:σ×Int→R} {s:σ}
  (hF: ∀ag i s,F ag (s,i)=if i<(l.length:Int) then (match st (gt l i) s with| .inl s'=>ag (s',i+1)| .inr r=>r) else E s):
  am (((l.length:Int) - 0).toNat+1) F d (s,0)=eN st E l s:=by
 have:=G7 (d:=d) hF (((l.length:Int) - 0).toNat+1) 0 s (by omega) (by omega)
 simpa using this
theorem mF {α σ R:Type} {g:α→σ→σ} {E:σ→R}: ∀{l:List α} {s:σ},eN (fun a s=> .inl (g a s)) E l s=E (l.foldl (fun s a=>g a s) s)
 | [],_=>rfl
 | a::l,s=>by simp only [eN,List.foldl_cons];exact mF
theorem zL {α:Type} [Inhabited α]: ∀{k:Nat} {i:Nat} {l:List α},l.length=i+k→fD l k i=l.drop i
 | 0,i,l,h=>by simp [fD,h]
 | k+1,i,l,h=>by
  have hi:i<l.length:=by omega
  rw [List.drop_eq_getElem_cons hi]
  simp only [fD]
  have:=zL (k:=k) (i:=i+1) (l:=l) (by omega)
  rw [show ((i+1:Nat):Int)=(i:Int)+1 by omega] at this
  rw [this]
  simp [gt,List.getD_eq_getElem?_getD,hi]
theorem G9 {α:Type} [Inhabited α] {l:List α} {n:Nat} (h:l.length=n):bc n l=l:=by
 have:=zL (k:=n) (i:=0) (l:=l) (by omega)
 simpa [bc] using this
theorem zM {α:Type} [Inhabited α] {l:List α}: ∀{k:Nat} {i j:Nat},j<k→(fD l k i).getD j default=gt l ((i+j:Nat):Int)
 | k+1,i,0,_=>by simp [fD]
 | k+1,i,j+1,h=>by
  have:=zM (l:=l) (k:=k) (i:=i+1) (j:=j) (by omega)
  simp only [fD,List.getD_cons_succ]
  rw [show ((i:Int)+1)=((i+1:Nat):Int) from rfl,this]
  congr 1;omega
theorem jS {α:Type} [Inhabited α] {f:α→V} {n:Nat} {l:List α} {i:Int} (h:0≤i∧i.toNat<n):((bc n l).map f).getD (0+i.toNat*1) .un=f (gt l i):=by
 have h1:(bc n l).length=n:=ce
 have h2:=zM (l:=l) (k:=n) (i:=0) (j:=i.toNat) h.2
 have h3:gt (bc n l) i=gt l i:=by
  rw [show gt (bc n l) i=(fD l n ((0:Nat):Int)).getD i.toNat default from rfl,h2]
  congr 1;omega
 rw [←h3]
 simp [gt,List.getD_eq_getElem?_getD,h1,h.2]
theorem G_ {α:Type} [Inhabited α] {f:α→V} {n:Nat} {l:List α} {i:Int} (h:0≤i∧i.toNat<n):((bc n l).map f).getD (i.toNat*1) .un=f (gt l i):=by
 have:=jS (f:=f) (n:=n) (l:=l) (i:=i) h
 rwa [Nat.zero_add] at this
theorem oa {α:Type} [Inhabited α] {f:α→V} {l:List α} {n:Nat} {i:Int} (hl:l.length=n) (h:0≤i∧i.toNat<n):(l.map f).getD (i.toNat*1) .un=f (gt l i):=by
 subst hl
 simp [gt,List.getD_eq_getElem?_getD,h.2]
theorem qR {α:Type} [Inhabited α] {f:α→V} {n:Nat} {l:List α} {i:Int} {v:α} (hl:l.length=n) (h:0≤i∧i.toNat<n):(l.map f).take (0+i.toNat*1)++[f v]++(l.map f).drop (0+i.toNat*1+1)=(bc n (st l i v)).map f:=by
 rw [G9 (by rw [eD];exact hl)]
 unfold st
 rw [List.set_eq_take_append_cons_drop,if_pos (by omega)]
 simp [List.map_take,List.map_drop]
def lg {β:Type} (i:Nat):List (Nat×β)→List (Nat×β)
 | []=> []
 | (k,b)::l=>if k=i then lg i l else (k,b)::lg i l
attribute [go_sem] lg
theorem uV {β:Type} {i t:Nat} {b:β}: ∀{l:List (Nat×β)},ah (lg i l) t=some b→t≠i∧ah l t=some b
 | [],h=>by cases h
 | (k,x)::l,h=>by
  simp only [lg] at h
  split at h
  ·rename_i e
   obtain ⟨h1,h2⟩:=uV h
   exact ⟨h1,by simp only [ah];rw [if_neg (by omega)];exact h2⟩
  ·rename_i e
   simp only [ah] at h⊢
   split at h
   ·rename_i e2;exact ⟨by omega,by rw [if_pos e2];exact h⟩
   ·rename_i e2
    obtain ⟨h1,h2⟩:=uV h
    exact ⟨h1,by rw [if_neg e2];exact h2⟩
theorem Ha {E:Env} {S:St} (t i j:Nat) {T n:Nat} {g:Bool} {z:Option Bool} {l:List V} (h:ah S.F t=some (.own j)) (h2:ah S.H j=some (.own T n g z l)) (hi:i<S.nx) (hij:i≠j):
  cc E S ⟨(t,.own i)::lX i S.F,(i,.own T n g z l)::lg j (kC i S.H),S.nx⟩:=by
 intro c0 c ρ F hs
 obtain ⟨v,hv,hown,hge,hone,a,cap,es,hz⟩:=hs.1.heap _ _ h2
 have hro: ∀k,k≠i→cY ρ i v k=ρ k:=fun k hk=>gT hk
 have hbi:an (cY ρ i v) i=an ρ j:=by unfold an;rw [da,hv]
 have hbk: ∀k,k≠i→an (cY ρ i v) k=an ρ k:=fun k hk=>by unfold an;rw [hro k hk]
 have hold: ∀k b,i≠k→ah (lg j (kC i S.H)) k=some b→k≠j∧ ∃b0,ah S.H k=some b0∧b=kB i b0:=by
  intro k b hk hb
  obtain ⟨h3,h4⟩:=uV hb
  rw [pI] at h4
  cases h5:ah S.H k with
  | none=>rw [h5] at h4;cases h4
  | some b0=>rw [h5] at h4;cases h4;exact ⟨h3,b0,rfl,rfl⟩
 refine ⟨c,cY ρ i v,rfl,⟨hs.1.since,hs.1.gl,fun t' x ht=> ?_,?_,?_⟩,fun k hk=> ?_⟩
 ·simp only [ah] at ht
  split at ht
  ·rename_i e;subst e;cases ht
   have h3:=hs.1.slot _ _ h
   simp only [rd] at h3⊢
   rw [hv] at h3
   exact ⟨by rw [da];exact h3.1,h3.2⟩
  ·rw [tu] at ht
   cases h5:ah S.F t' with
   | none=>rw [h5] at ht;cases ht
   | some y=>rw [h5] at ht;cases ht;exact kH hro (hs.1.slot _ _ h5)
 ·intro k b hb
  simp only [ah] at hb
  split at hb
  ·rename_i e;subst e;cases hb
   exact ⟨v,da,hown,hge,hone,a,cap,es,hz⟩
  ·rename_i hk
   obtain ⟨_,b0,h6,rfl⟩:=hold k b hk hb
   exact xR hro (Ne.symm hk) (hs.1.heap _ _ h6)
 ·intro x y bx bb k hxy hx hy hpx hpy hbx
  simp only [ah] at hx hy
  split at hx
  ·rename_i e;subst e
   rw [if_neg hxy] at hy
   obtain ⟨hyj,b0,h6,rfl⟩:=hold y bb hxy hy
   rw [lZ] at hpy
   rw [hbk y (Ne.symm hxy)]
   rw [hbi] at hbx
   exact hs.1.sep j y _ b0 k (Ne.symm hyj) h2 h6 rfl hpy hbx
  ·rename_i hix
   obtain ⟨hxj,b0,h6,rfl⟩:=hold x bx hix hx
   rw [lZ] at hpx
   rw [hbk x (Ne.symm hix)] at hbx
   split at hy
   ·rename_i e;subst e
    rw [hbi]
    exact hs.1.sep x j b0 _ k hxj h6 h2 hpx rfl hbx
   ·rename_i hiy
    obtain ⟨hyj,b1,h7,rfl⟩:=hold y bb hiy hy
    rw [lZ] at hpy
    rw [hbk y (Ne.symm hiy)]
    exact hs.1.sep x y b0 b1 k hxy h6 h7 hpx hpy hbx
 ·have hk':S.nx≤k:=hk
  rw [hro k (by omega)];exact hs.2 k hk
end Go.Proofs.YtcbbjfckokckcaaGreatDoor
namespace Go.Proofs.YtcbbjfckokckcaaGreatDoor
open Go.RowKit
set_option linter.unusedVariables false
set_option linter.unusedSimpArgs false
def ii:Int→List Int→Int
 | a,[]=>a
 | a,x::l=>ii (256*a+x) l
def be:Nat→Int→List Int
 | 0,_=> []
 | k+1,n=>be k (n/256)++[n% 256]
def isB (l:List Int):Prop:= ∀x∈l,0≤x∧x≤255
theorem zO: ∀{k:Nat} {n:Int},(be k n).length=k
 | 0,_=>rfl
 | k+1,n=>by simp [be,zO (k:=k)]
theorem zP (n m:Int) (h:0<m):n% (256*m)=256*(n/256% m)+n% 256:=by
 have h1:=Int.mul_ediv_add_emod n 256
 have h2:=Int.mul_ediv_add_emod (n/256) m
 have h3:=Int.emod_nonneg (n/256) (show m≠0 by omega)
 have h4:=Int.emod_lt_of_pos (n/256) h
 generalize n/256% m=s at*
 generalize hq:n/256/m=t at*
 have e:n=(256*s+n% 256)+256*m*t:=by
  have:256*m*t=256*(m*t):=by rw [Int.mul_assoc]
  omega
 have e2:n% (256*m)=(256*s+n% 256)% (256*m):=by
  conv=>lhs;rw [e]
  rw [Int.add_mul_emod_self_left]
 rw [e2]
 exact Int.emod_eq_of_lt (by omega) (by omega)
theorem zQ: ∀{l:List Int},isB l→ ∀{a m:Int},0≤a→a<m→0≤ii a l∧ii a l<m*256^l.length
 | [],_,a,m,h0,h1=>by simpa [ii] using ⟨h0,h1⟩
 | x::l,h,a,m,h0,h1=>by
  have hx:=h x (by simp)
  have h2:=zQ (l:=l) (fun y hy=>h y (by simp [hy])) (a:=256*a+x) (m:=m*256) (by omega) (by omega)
  simp only [ii,List.length_cons]
  rw [Int.pow_succ,Int.mul_comm (256^l.length),←Int.mul_assoc]
  exact h2
theorem Hb {l:List Int} (h:isB l):0≤ii 0 l∧ii 0 l<256^l.length:=by
 have:=zQ h (a:=0) (m:=1) (by omega) (by omega)
 simpa using this
theorem uW: ∀{k:Nat} {n m:Int},n% 256^k=m% 256^k→be k n=be k m
 | 0,_,_,_=>rfl
 | k+1,n,m,h=>by
  have hp:(0:Int)<256^k:=Int.pow_pos (by omega)
  rw [show (256:Int)^(k+1)=256*256^k by rw [Int.pow_succ,Int.mul_comm],zP _ _ hp,zP _ _ hp] at h
  have h1:=Int.emod_nonneg (n/256) (show (256:Int)^k≠0 by omega)
  have h2:=Int.emod_nonneg (m/256) (show (256:Int)^k≠0 by omega)
  simp only [be]
  rw [show n% 256=m% 256 by omega,uW (k:=k) (show n/256% 256^k=m/256% 256^k by omega)]
mutual
def hgt:ak→Nat
 | ⟨_,_,b,l⟩=>1+b.length+bK l
def bK:List ak→Nat
 | []=>0
 | x::l=>hgt x+bK l
end
theorem zR: ∀{l:List ak} {x:ak},x∈l→hgt x≤bK l
 | y::l,x,h=>by
  simp only [bK]
  rcases List.mem_cons.1 h with rfl|h
  ·omega
  ·have:=zR h;omega
theorem fL (i:ak):hgt i=1+i.B.length+bK i.L:=by cases i;rfl
theorem qS {i x:ak} (h:x∈i.L):hgt x<hgt i:=by
 have:=zR h
 rw [fL i];omega
mutual
def fM:ak→Int→Bool
 | ⟨k,n,b,l⟩,d=>if k==1 then b.isEmpty&&l.isEmpty else if k==2 then n==0&&l.isEmpty else if k==3 then n==0&&(b.isEmpty&&(decide (0<d)&&(decide (l.length≤1000)&&oc l (d - 1)))) else false
def oc:List ak→Int→Bool
 | [],_=>true
 | x::l,d=>fM x d&&oc l d
end
theorem zS: ∀{l:List ak} {d:Int},oc l d=l.all (fun x=>fM x d)
 | [],_=>rfl
 | x::l,d=>by simp only [oc,List.all_cons,zS (l:=l)]
def jT (r:aN) (e:Int):aN:=if r.e==0 then {b:=r.b,e:=e} else r
def fN (r:aN) (n:Int):List Int×aN:=
 if r.e≠0∨n>r.b.length then ([],jT r 4) else (r.b.take n.toNat,{b:=r.b.drop n.toNat,e:=r.e})
def zT (l:List Int):Int:=l.foldl (fun a x=>orI .u64 (aA .u64 a 8) (ae .u64 x)) 0
def eO (r:aN) (n:Int):Int×aN:=(zT (fN r n).1,(fN r n).2)
theorem wrap_u64 {a:Int} (h0:0≤a) (h1:a<18446744073709551616):IntKind.wrap .u64 a=a:=by
 simp only [IntKind.wrap,IntKind.bits,IntKind.signed];simp;omega
theorem Hc {a x:Int} (h0:0≤a) (h1:a<72057594037927936) (h2:0≤x) (h3:x≤255):orI .u64 (aA .u64 a 8) (ae .u64 x)=256*a+x:=by
 obtain ⟨n,rfl⟩: ∃n:Nat,a=n:=⟨a.toNat,by omega⟩
 obtain ⟨m,rfl⟩: ∃m:Nat,x=m:=⟨x.toNat,by omega⟩
 have e1:aA .u64 (n:Int) 8=((n*256:Nat):Int):=by
  unfold aA
  rw [show (2:Int)^min (8:Int).toNat (IntKind.bits .u64)=256 by decide,wrap_u64 (by omega) (by omega)];omega
 have e2:ae .u64 (m:Int)=m:=wrap_u64 (by omega) (by omega)
 rw [e1,e2]
 unfold orI
 have e3: ∀k:Nat,k<18446744073709551616→(BitVec.ofInt (IntKind.bits .u64) (k:Int)).toNat=k:=by
  intro k hk
  rw [BitVec.toNat_ofInt]
  have:(((2^IntKind.bits .u64:Nat)):Int)=18446744073709551616:=rfl
  rw [this];omega
 have e4:((BitVec.ofInt (IntKind.bits .u64) ((n*256:Nat):Int))|||(BitVec.ofInt (IntKind.bits .u64) ((m:Nat):Int))).toNat=256*n+m:=by
  rw [BitVec.toNat_or,e3 _ (by omega),e3 _ (by omega)]
  have:=Nat.shiftLeft_add_eq_or_of_lt (i:=8) (b:=m) (by show m<256;omega) n
  rw [Nat.shiftLeft_eq,show (2:Nat)^8=256 from rfl] at this
  rw [←this,Nat.mul_comm]
 rw [e4,wrap_u64 (by omega) (by omega)];omega
theorem zU: ∀{l:List Int},isB l→ ∀{a:Int} {k:Nat},0≤a→a<256^k→k+l.length≤8→l.foldl (fun a x=>orI .u64 (aA .u64 a 8) (ae .u64 x)) a=ii a l
 | [],_,a,k,_,_,_=>rfl
 | x::l,h,a,k,h0,h1,h2=>by
  have hx:=h x (by simp)
  simp only [List.length_cons] at h2
  have h3:(256:Int)^k≤256^7:=(by decide: ∀k,k<8→(256:Int)^k≤256^7) k (by omega)
  have h4:(256:Int)^7=72057594037927936:=by decide
  simp only [List.foldl_cons,ii]
  rw [Hc h0 (by omega) hx.1 hx.2]
  exact zU (k:=k+1) (fun y hy=>h y (by simp [hy])) (by omega) (by rw [Int.pow_succ];omega) (by omega)
theorem Hd {l:List Int} (h:isB l) (hl:l.length≤8):zT l=ii 0 l:=zU h (k:=0) (by omega) (by decide) (by omega)
def gD (f:aN→ak×aN):Nat→List ak→aN→List ak×aN
 | 0,l,r=>(l,r)
 | n+1,l,r=>if r.e≠0 then (l,r) else gD f n (l++[(f r).1]) (f r).2
def mG (f:Option (aN→ak×aN)) (r:aN):ak×aN:=
 let a:=eO r 1
 if ae .i64 a.1<1∨ae .i64 a.1>3∨(ae .i64 a.1=3∧f.isNone=true) then (dG,jT a.2 3)
 else if ae .i64 a.1=1 then (⟨ae .i64 a.1,ae .i64 (eO a.2 8).1,[],[]⟩,(eO a.2 8).2)
 else if ae .i64 a.1=2 then (⟨ae .i64 a.1,0,(fN (eO a.2 4).2 (ae .i64 (eO a.2 4).1)).1,[]⟩,(fN (eO a.2 4).2 (ae .i64 (eO a.2 4).1)).2)
 else match f with
  | none=>default
  | some f=>
   let b:=eO a.2 4
   let x:=gD f (ae .i64 b.1).toNat [] (if ae .i64 b.1>1000 then jT b.2 3 else b.2)
   (⟨ae .i64 a.1,0,[],x.1⟩,x.2)
def ij:Nat→aN→ak×aN
 | 0=>mG none
 | d+1=>mG (some (ij d))
def cE (r:aN) (depth:Int):ak×aN:=ij depth.toNat r
theorem He {f:aN→ak×aN} {n:Nat} {l:List ak} {r:aN} (h:r.e≠0):gD f n l r=(l,r):=by
 cases n with
 | zero=>rfl
 | succ n=>simp only [gD];rw [if_pos h]
theorem Hf {b:List Int} (h:isB b) (n:Nat):isB (b.take n):=fun x hx=>h x (List.mem_of_mem_take hx)
theorem Hg {b:List Int} (h:isB b) (n:Nat):isB (b.drop n):=fun x hx=>h x (List.mem_of_mem_drop hx)
theorem jU {r:aN} {n:Int} (h:isB r.b):isB (fN r n).2.b:=by
 unfold fN
 split
 ·unfold jT;split<;>exact h
 ·exact Hg h _
theorem uX {r:aN} {e:Int} (h:isB r.b):isB (jT r e).b:=by unfold jT;split<;>exact h
theorem zV {f:aN→ak×aN} (hf: ∀r,isB r.b→isB (f r).2.b): ∀{n:Nat} {l:List ak} {r:aN},isB r.b→isB (gD f n l r).2.b
 | 0,_,_,h=>h
 | n+1,l,r,h=>by
  simp only [gD]
  split
  ·exact h
  ·exact zV hf (hf r h)
theorem zW {f:Option (aN→ak×aN)} (hf: ∀g,f=some g→ ∀r,isB r.b→isB (g r).2.b) {r:aN} (h:isB r.b):isB (mG f r).2.b:=by
 have h1:isB (eO r 1).2.b:=jU h
 simp only [mG]
 split
 ·exact uX h1
 split
 ·exact jU h1
 split
 ·exact jU (jU h1)
 cases f with
 | none=>intro x hx;cases hx
 | some g=>
  refine zV (hf g rfl) ?_
  split
  ·exact uX (jU h1)
  ·exact jU h1
theorem zX: ∀{d:Nat} {r:aN},isB r.b→isB (ij d r).2.b
 | 0,_,h=>zW (fun g e=>by cases e) h
 | d+1,_,h=>zW (fun g e r hr=>by cases e;exact zX hr) h
theorem Hh {r:aN} {x:ak×aN} {d:Int} (e:x=cE r d) (h:isB r.b):isB x.2.b:=by rw [e];exact zX h
theorem uY: ∀{l:List Int},wfL (l.map (V.int .u8))→isB l
 | [],_=>by simp [isB]
 | a::l,h=>by
  simp only [List.map_cons,wfL,wfV,za] at h
  intro x hx
  rcases List.mem_cons.1 hx with rfl|hx
  ·exact h.1
  ·exact uY h.2 x hx
mutual
def fO:List Int→ak→List Int
 | out,⟨k,n,b,l⟩=>if out.length>16384 then out else if k==1 then out++(1::be 8 n) else if k==2 then out++(2::be 4 b.length)++b else qT (out++(k% 256::be 4 l.length)) l
def qT:List Int→List ak→List Int
 | out,[]=>out
 | out,x::l=>qT (fO out x) l
end
end Go.Proofs.YtcbbjfckokckcaaGreatDoor
namespace Go.Proofs.YtcbbjfckokckcaaGreatDoor
open Go.RowKit
end Go.Proofs.YtcbbjfckokckcaaGreatDoor
namespace Go.Proofs.YtcbbjfckokckcaaGreatDoor
open Go.RowKit
def jV (I:List Int→List Int→List Int):List (List Int)→List (List Int)
 | a::b::l=>I a b::jV I l
 | _=> []
def jW (l:List (List Int)):Prop:= ∃d:Nat,d≤10∧l.length=2^d
theorem qU {v:Int} (h0:0≤v) (h1:v≤10):aA .i64 1 v=2^v.toNat:=by
 have:v=0∨v=1∨v=2∨v=3∨v=4∨v=5∨v=6∨v=7∨v=8∨v=9∨v=10:=by omega
 rcases this with rfl|rfl|rfl|rfl|rfl|rfl|rfl|rfl|rfl|rfl|rfl<;>decide
def cw {α:Type}:List α→List (List α)
 | a::b::l=> [a,b]::cw l
 | _=> []
theorem zY {α:Type} {y:List α}: ∀{l:List α},y∈cw l→y.length=2
 | a::b::l,h=>by
  simp only [cw,List.mem_cons] at h
  rcases h with rfl|h
  ·rfl
  ·exact zY h
 | [],h=>by simp [cw] at h
 | [_],h=>by simp [cw] at h
theorem qV {α:Type}: ∀{k:Nat} {l:List α},l.length=2*k→(cw l).length=k
 | 0,l,h=>by
  have:l=[]:=List.length_eq_zero_iff.1 (by omega)
  subst this;rfl
 | k+1,a::b::l,h=>by
  simp only [cw,List.length_cons] at h⊢
  rw [qV (k:=k) (by omega)]
 | k+1,[],h=>by simp at h
 | k+1,[a],h=>by simp at h;omega
theorem uZ {l:List (List Int)} (h:jW l) (h1:1<l.length): ∃d:Nat,d+1≤10∧l.length=2*2^d:=by
 obtain ⟨d,hd,e⟩:=h
 cases d with
 | zero=>rw [e] at h1;simp at h1
 | succ d=>exact ⟨d,hd,by rw [e,Nat.pow_succ];omega⟩
theorem Hi {l:List (List Int)} (h:jW l) (h1:1<l.length): ∃m,l.length=2*m:=by
 obtain ⟨d,_,e⟩:=uZ h h1
 exact ⟨_,e⟩
theorem Hj {l p:List (List Int)} (h:jW l) (h1:1<l.length) (hp:p.length=(cw l).length):jW p:=by
 obtain ⟨d,hd,e⟩:=uZ h h1
 exact ⟨d,by omega,by rw [hp,qV e]⟩
theorem zZ {l p:List (List Int)} (h:jW l) (h1:1<l.length) (hp:p.length=(cw l).length):p.length<l.length:=by
 obtain ⟨d,hd,e⟩:=uZ h h1
 have:0<2^d:=Nat.pow_pos (by decide)
 rw [hp,qV e];omega
end Go.Proofs.YtcbbjfckokckcaaGreatDoor
