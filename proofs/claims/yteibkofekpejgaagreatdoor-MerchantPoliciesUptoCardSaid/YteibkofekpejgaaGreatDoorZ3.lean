/- Texts of this proof, one after the other: V8, V9, VD, VR. -/
import Derived.Lib.ConvBytes
import Derived.Laws.BytesArg
import Derived.Test.YteibkofekpejgaaGreatDoorZ2
import Derived.RangeFuncNested
import Derived.RangeFuncLeaves
import Derived.RangeFuncFrom
set_option linter.unusedVariables false
set_option linter.unusedSimpArgs false
namespace Go.Proofs.YteibkofekpejgaaGreatDoor
open Go.RowKit
section
variable {E:Env} {c0 c:Cx} {ρ:Ro} {S:St} {F:Fm} {nid:Nat}
def di (ρ:Ro) (n:Nat) (v:Value):Ro:=fun i=>if i=n then some v else ρ i
theorem dm {n:Nat} {v:Value}:di ρ n v n=some v:=by simp [di]
theorem hZ {n i:Nat} {v:Value} (h:i≠n):di ρ n v i=ρ i:=by simp [di,h]
theorem A_ {b n:Nat} {g:Bool} {d:V} {c':Cx} (hf:ρ nid=none) (hs:cy c0 c) (hle:c.le c') (hb:c.w.heap.size=b) (hv:Var c' b (rV ρ n g) d):
  bp c0 c ρ S nid (.ptr nid 0) (.new (.var n g d)) (.pointer (some ⟨b,0,none⟩)) c'.w:=by
 have hro:=mQ (ρ':=di ρ nid (.pointer (some ⟨b,0,none⟩))) hf (fun i hi=>hZ hi)
 refine ⟨c',di ρ nid (.pointer (some ⟨b,0,none⟩)),rfl,trivial,⟨hle,fun i hi=>hZ hi,?_,?_⟩,?_⟩
 ·obtain ⟨h1,T,cs,h2,h3,h4⟩:=hv
  exact ⟨b,dm,.inl (by rw [←hb];exact hs.size),h1,T,cs,h2,h3,cZ hro h4⟩
 ·intro k hk
  simp only [ak,dm,Option.some.injEq] at hk
  omega
 ·simp only [rd];exact ⟨b,dm,rfl⟩
theorem Ba (hE:a8 E) {k:IntKind} {n:Nat}: ∀{l:List (Nat×TypeId)} {fs:List Field} {off:Nat},cI E.tb n off l fs=true→oR E.tb k l=true→kX E.P k off fs∧off+fs.length=n
 | [],[],off,h,_=>⟨fun i f hf=>by simp at hf,by simpa [cI] using h⟩
 | (o,U)::l,f::fs,off,h,hI=>by
  simp only [cI,Bool.and_eq_true,decide_eq_true_eq] at h
  obtain ⟨⟨⟨⟨⟨h1,h2⟩,h3⟩,h4⟩,h5⟩,h6⟩:=h
  simp only [oR,List.all_cons,Bool.and_eq_true,decide_eq_true_eq] at hI
  obtain ⟨⟨i1,i2⟩,i3⟩:=hI
  have hu:=hO hE h4 i1
  have hg:(E.tb U).g=false:=by
   obtain ⟨d,hd,hb⟩:=(hE.t _ h4).kind
   cases d<;>simp_all [bO]
  rw [(hE.t _ h4).one hg] at h6
  obtain ⟨q1,q2⟩:=Ba hE h6 (by simpa [oR] using i3)
  refine ⟨fun i g hgi=> ?_,by simp only [List.length_cons];omega⟩
  cases i with
  | zero=>
   simp only [List.getElem?_cons_zero,Option.some.injEq] at hgi
   subst hgi
   refine ⟨by omega,h5,by rw [h3,hu,i2],fun cs w hl=> ?_⟩
   rw [h3]
   exact re ((hE.t _ h4).ty ro0) hg hl
  | succ i=>
   obtain ⟨g1,g2,g3,g4⟩:=q1 i g (by simpa using hgi)
   refine ⟨by omega,g2,g3,fun cs w hl=> ?_⟩
   have:=g4 cs w (by omega)
   simpa only [show off+1+i=off+(i+1) by omega] using this
 | [],_::_,_,h,_=>by simp [cI] at h
 | _::_,[],_,h,_=>by simp [cI] at h
theorem Bb (hE:a8 E) {T:TypeId} (h:(E.tb T).ok=true) {g:Bool} {k:IntKind} {n:Nat} (hr:mO E.tb T=some (g,k,n)):kW E.P T g k n:=by
 unfold mO at hr
 split at hr
 ·rename_i hk
  cases hr
  exact Gp (hO hE h hk)
 ·rename_i hk
  obtain ⟨h0,hr⟩:=aR hr
  cases hr
  obtain ⟨h1,h2⟩:=iT hE h hk
  have hg:(E.tb (E.tb T).el).g=false:=by
   obtain ⟨d,hd,hb⟩:=(hE.t _ h2).kind
   cases d<;>simp_all [bO]
  exact Gq h1 (hO hE h2 h0) ((hE.t _ h2).ty ro0) hg (by rw [cg (hE.t _ h2).one];exact (hE.t _ h2).one hg)
 ·split at hr
  ·obtain ⟨hI,hr⟩:=aR hr
   cases hr
   obtain ⟨d,hd,hb⟩:=(hE.t T h).kind
   cases d with
   | struct fs=>
    simp only [bO,Bool.and_eq_true] at hb
    obtain ⟨h1,h2⟩:=Ba hE hb.1.2 hI
    exact Gr hd (by simpa using hb.2) h1 (by omega)
   | _=>simp_all [bO]
  ·cases hr
 ·cases hr
theorem Bc {k:IntKind}: ∀{l:List V} {cs:List Value} {z:List Int},gz k l=some z→rdC ρ c l cs→cs=z.map (Value.int k)
 | [],cs,z,h,hc=>by
  simp only [gz,Option.some.injEq] at h
  subst h
  simpa [rdC] using hc
 | a::l,cs,z,h,hc=>by
  unfold gz at h
  split at h
  ·rename_i e;cases e
  ·rename_i k' a' l' e
   cases e
   obtain ⟨rfl,h⟩:=aR h
   split at h
   ·rename_i m hm
    cases h
    simp only [rdC] at hc
    obtain ⟨u,c2,rfl,_,h1,h2⟩:=hc
    simp only [rd] at h1
    rw [Bc hm h2,List.map_cons,h1.1]
   ·cases h
  ·cases h
theorem Bd {k:IntKind}: ∀{l:List V} {cs:List Value} {z:List Int},gz k l=some z→rdC ρ c l cs→ ∀x∈z,Rng k x
 | [],cs,z,h,hc=>by
  simp only [gz,Option.some.injEq] at h
  subst h
  simp
 | a::l,cs,z,h,hc=>by
  unfold gz at h
  split at h
  ·rename_i e;cases e
  ·rename_i k' a' l' e
   cases e
   obtain ⟨rfl,h⟩:=aR h
   split at h
   ·rename_i m hm
    cases h
    simp only [rdC] at hc
    obtain ⟨u,c2,rfl,_,h1,h2⟩:=hc
    simp only [rd] at h1
    intro x hx
    rcases List.mem_cons.1 hx with rfl|hx
    ·exact h1.2
    ·exact Bd hm h2 x hx
   ·cases h
  ·cases h
theorem G0 (h:Sim E c0 c ρ S F) {g:Bool} {k:IntKind} {y:Operand} {z:List Int} (hz:lg g k (S.ev E.gv y)=some z): ∀x∈z,Rng k x:=by
 unfold lg at hz
 split at hz
 ·rename_i k' a hy
  split at hz
  ·rename_i hk
   obtain ⟨rfl,rfl⟩:=hk
   cases hz
   have:=(aM h hy).2
   simpa using this
  ·cases hz
 ·rename_i l hy
  obtain ⟨rfl,hz⟩:g=true∧gz k l=some z:=by
   split at hz
   ·exact ⟨by assumption,hz⟩
   ·cases hz
  have h1:=aM h hy
  simp only [rd] at h1
  obtain ⟨cs,e,h2⟩:=h1
  exact Bd hz h2
 ·cases hz
theorem Be (h:Sim E c0 c ρ S F) {g:Bool} {k:IntKind} {y:Operand} {z:List Int} (hz:lg g k (S.ev E.gv y)=some z):ev F y=bf g k z:=by
 unfold lg at hz
 split at hz
 ·rename_i k' a hy
  split at hz
  ·rename_i hk
   obtain ⟨rfl,rfl⟩:=hk
   cases hz
   exact (aM h hy).1
  ·cases hz
 ·rename_i l hy
  obtain ⟨rfl,hz⟩:g=true∧gz k l=some z:=by
   split at hz
   ·exact ⟨by assumption,hz⟩
   ·cases hz
  have h1:=aM h hy
  simp only [rd] at h1
  obtain ⟨cs,e,h2⟩:=h1
  rw [e,Bc hz h2]
  rfl
 ·cases hz
theorem G3 (hE:a8 E) (h:Sim E c0 c ρ S F) (hf:ρ nid=none) {o:Oper} {T:TypeId} (hop:o.op= .makeMap T none) (hU:(E.tb T).ok=true) {cnd:Prop} {v:V} {e:Eff}
  (hr:rQ E.tb (E.tb T) nid=some (cnd,v,e)):aE E.P (bp c0 c ρ S nid v e) (run E.P F o c.w):=by
 unfold rQ at hr
 obtain ⟨_,hr⟩:=aR hr
 split at hr
 ·rename_i g k n hk
  cases hr
  refine Gn hop fun r c' hle hs hm=>⟨c',di ρ nid (.map (some r)),rfl,trivial,⟨hle,fun i hi=>hZ hi,⟨r,dm,.inl (by rw [←hs];exact h.since.size),hm⟩,fun q hq=> ?_⟩,?_⟩
  ·simp only [ak,dm,blk,Option.some.injEq] at hq
   omega
  ·simp only [rd]
   exact ⟨dm,rfl⟩
 ·cases hr
theorem G4 (hE:a8 E) (h:Sim E c0 c ρ S F) {o:Oper} {T:TypeId} {x y:Operand} (hop:o.op= .lookup T x y false) (hU:(E.tb T).ok=true) {cnd:Prop} {v:V} {e:Eff}
  (hr:rR E.tb S.H (E.tb T) (S.ev E.gv x) (S.ev E.gv y)=some (cnd,v,e)) (hc:cnd):aE E.P (bp c0 c ρ S nid v e) (run E.P F o c.w):=by
 unfold rR at hr
 split at hr
 ·rename_i id hx
  obtain ⟨⟨hk,hzf⟩,hr⟩:=aR hr
  obtain ⟨hT,hKT,hET,hb⟩:=A4 hE hU hk
  unfold wb at hr
  split at hr
  ·rename_i g k n l hH
   obtain ⟨hki,hr⟩:=aR hr
   unfold oS at hr
   split at hr
   ·rename_i z hz
    cases hr
    obtain ⟨r,h1,_,h3⟩:=h.heap _ _ hH
    have hp:=aM h hx
    simp only [rd] at hp
    have e1:ev F x= .map (some r):=by have:=hp.1;rw [h1] at this;exact (Option.some.inj this).symm
    obtain ⟨i,zv,hi,hzz,_,_,hzr⟩:=(hE.t _ hET).info
    have hg:=(hE.t _ hET)
    have hzv: ∀w,(zeroValue (E.tb T).len).run E.P w= .ok (.bool false) w:=by
     have hgb:(E.tb (E.tb T).len).g=false:=by
      obtain ⟨d,hd,hbb⟩:=hg.kind
      cases d<;>simp_all [bO]
     have hz2:=hzr ρ c
     have:zv= .bool false:=by
      rw [hgb] at hz2
      have h0:=fy hz2
      cases hv0:(E.tb (E.tb T).len).z<;>rw [hv0] at h0 hzf<;>simp [zF] at hzf
      rename_i b0
      cases b0
      ·simpa [rd] using h0
      ·cases hzf
     exact fun w=>by simp [zeroValue,typeInfo,hi,hzz,this]
    exact Gs hop hT (Bb hE hKT hki) (rY hE hET hb) e1 h3 (Be h hz) hc hzv (br rfl)
   ·cases hr
  ·cases hr
 ·cases hr
theorem G5 (hE:a8 E) (h:Sim E c0 c ρ S F) {o:Oper} {T:TypeId} {x y u:Operand} (hop:o.op= .mapUpdate T x y u) (hU:(E.tb T).ok=true) {cnd:Prop} {v:V} {e:Eff}
  (hr:rS E.tb S.H (E.tb T) (S.ev E.gv x) (S.ev E.gv y) (S.ev E.gv u)=some (cnd,v,e)) (hc:cnd):aE E.P (bp c0 c ρ S nid v e) (run E.P F o c.w):=by
 unfold rS at hr
 split at hr
 ·rename_i id hx hu
  obtain ⟨hk,hr⟩:=aR hr
  obtain ⟨hT,hKT,_,_⟩:=A4 hE hU hk
  unfold wc at hr
  split at hr
  ·rename_i g k n l hH
   obtain ⟨hki,hr⟩:=aR hr
   unfold oS at hr
   split at hr
   ·rename_i z hz
    cases hr
    obtain ⟨r,h1,h2,h3⟩:=h.heap _ _ hH
    have hp:=aM h hx
    simp only [rd] at hp
    have e1:ev F x= .map (some r):=by have:=hp.1;rw [h1] at this;exact (Option.some.inj this).symm
    have hbo:ak ρ id=some r:=by simp only [ak,h1,blk]
    refine Gv hop hT (Bb hE hKT hki) e1 h3 (Be h hz) hc (G0 h hz) (aM h hu) fun c' hm hs=>⟨c',ρ,rfl,⟨_,hH,rfl,rfl⟩,⟨?_,rfl,⟨r,h1,h2,hs⟩⟩,trivial⟩
    rw [hbo]
    exact hm.chg h3.1
   ·cases hr
  ·cases hr
 ·cases hr
theorem G6 (hE:a8 E) (h:Sim E c0 c ρ S F) (hf:ρ nid=none) {o:Oper} {U:TypeId} (hop:o.op= .alloc U) (hU:(E.tb U).ok=true) {cnd:Prop} {v:V} {e:Eff}
  (hr:rL (E.tb U) nid True (E.tb U).z=some (cnd,v,e)):aE E.P (bp c0 c ρ S nid v e) (run E.P F o c.w):=by
 cases hr
 obtain ⟨i,zv,hi,hz,hsz,hb,hzr⟩:=(hE.t U hU).info
 have hzv: ∀w,(zeroValue U).run E.P w= .ok zv w:=fun w=>by simp [zeroValue,typeInfo,hi,hz]
 exact Fu hop hzv (hzr ρ c) fun b c' hle hbz hlt hv=>A_ hf h.since hle hbz hv
theorem G7 (hE:a8 E) (h:Sim E c0 c ρ S F) (hf:ρ nid=none) {o:Oper} {U:TypeId} {x:Operand} (hop:o.op= .box U x) (hU:(E.tb U).ok=true) {cnd:Prop} {v:V} {e:Eff}
  (hr:vR (E.tb U) nid (S.evT E U x)=some (cnd,v,e)) (hc:cnd):aE E.P (bp c0 c ρ S nid v e) (run E.P F o c.w):=by
 cases hx:S.evT E U x with
 | none=>rw [hx] at hr;cases hr
 | some d=>
  rw [hx] at hr
  cases hr
  exact Ft hop (fx (hE.t U hU).one hc (eQ h hx)) fun b c' hle hbz hlt hv=>A_ hf h.since hle hbz hv
theorem Bf (hE:a8 E) (h:Sim E c0 c ρ S F) {pl:Array (Nat×Nat)} {n:Nat} {fs:List (Nat×TypeId)}
  (hfs: ∀(k o:Nat) (U:TypeId),fs[k]? =some (o,U)→(E.tb U).ok=true∧o+(E.tb U).n≤n∧pl[k]? =some (o,(E.tb U).n)):
  ∀(ps:List (Nat×Operand)) (c1:Prop) (d:V) {cnd:Prop} {v:V} {e:Eff},mK E S fs c1 d ps=some (cnd,v,e)→cnd→c1∧e= .none∧gW (pl[·]?) (rV ρ n true) c (ps.map fun p=>(p.1,ev F p.2)) d v
 | [],c1,d,cnd,v,e,hr,hc=>by
  simp only [mK] at hr
  cases hr
  exact ⟨hc,rfl,vf⟩
 | (k,x)::ps,c1,d,cnd,v,e,hr,hc=>by
  simp only [mK] at hr
  split at hr
  ·rename_i o U hk
   split at hr
   ·rename_i u hu
    obtain ⟨⟨h1,h2⟩,h3,h4⟩:=Bf hE h hfs ps _ _ hr hc
    obtain ⟨h5,h6,h7⟩:=hfs k o U hk
    have hT:=hE.t U h5
    refine ⟨h1,h3,vg (fb h6 hT.one) ?_ (fx hT.one h2 (eQ h hu)) h4⟩
    rw [cg hT.one];exact h7
   ·cases hr
  ·cases hr
theorem Bg (hE:a8 E) (h:Sim E c0 c ρ S F) {el:TypeId} {m n:Nat} (hel:(E.tb el).ok=true) (hn:n=m*(E.tb el).n):
  ∀(ps:List (Nat×Operand)) (c1:Prop) (d:V) {cnd:Prop} {v:V} {e:Eff},kZ E S el m c1 d ps=some (cnd,v,e)→cnd→c1∧e= .none∧gW (fun i=>some (i*(E.tb el).n,(E.tb el).n)) (rV ρ n true) c (ps.map fun p=>(p.1,ev F p.2)) d v
 | [],c1,d,cnd,v,e,hr,hc=>by
  simp only [kZ] at hr
  cases hr
  exact ⟨hc,rfl,vf⟩
 | (k,x)::ps,c1,d,cnd,v,e,hr,hc=>by
  simp only [kZ] at hr
  split at hr
  ·rename_i u hu
   obtain ⟨⟨h1,hk,h2⟩,h3,h4⟩:=Bg hE h hel hn ps _ _ hr hc
   have hT:=hE.t el hel
   have h6:k*(E.tb el).n+(E.tb el).n≤n:=by
    have:=Nat.mul_le_mul_right (E.tb el).n (Nat.succ_le_of_lt hk)
    rw [Nat.succ_mul] at this
    omega
   refine ⟨h1,h3,vg (fb h6 hT.one) ?_ (fx hT.one h2 (eQ h hu)) h4⟩
   rw [cg hT.one]
  ·cases hr
theorem G8 (hE:a8 E) (h:Sim E c0 c ρ S F) {o:Oper} {U:TypeId} {ps:Array (Nat×Operand)} (hop:o.op= .build U ps) (hU:(E.tb U).ok=true) (h4:(E.tb U).k=4) {cnd:Prop} {v:V} {e:Eff}
  (hr:kZ E S (E.tb U).el (E.tb U).len True (E.tb U).z ps.toList=some (cnd,v,e)) (hc:cnd):aE E.P (bp c0 c ρ S nid v e) (run E.P F o c.w):=by
 have hT:=hE.t U hU
 obtain ⟨d,hd,hb⟩:=hT.kind
 cases d with
 | array m e1=>
  simp only [bO,Bool.and_eq_true,decide_eq_true_eq] at hb
  obtain ⟨⟨⟨⟨⟨_,h5⟩,h6⟩,h7⟩,hg⟩,h8⟩:=hb
  subst h5 h6
  have hE1:=hE.t _ h7
  have hsz1: ∀w,(sizeOf (E.tb U).el).run E.P w= .ok (E.tb (E.tb U).el).n w:=fun w=>by
   have:=(hE1.ty ro0).size w
   rwa [cg hE1.one] at this
  obtain ⟨i,zv,hi,hz,hsz,hby,hzr⟩:=hT.info
  have hzv: ∀w,(zeroValue U).run E.P w= .ok zv w:=fun w=>by simp [zeroValue,typeInfo,hi,hz]
  obtain ⟨_,rfl,hfill⟩:=Bg (ρ:=ρ) (c:=c) (F:=F) hE h h7 h8 ps.toList True (E.tb U).z hr hc
  have hzr':=hzr ρ c
  rw [hg] at hzr'
  exact Gb (parts:=ps.toList) (by simpa using hop) hd hsz1 hzv hzr' rfl hfill fun u hu=>br (fy hu)
 | _=>simp_all [bO]
theorem G9 (hE:a8 E) (h:Sim E c0 c ρ S F) {o:Oper} {U:TypeId} {ps:Array (Nat×Operand)} (hop:o.op= .build U ps) (hU:(E.tb U).ok=true) {cnd:Prop} {v:V} {e:Eff}
  (hr:rH E S (E.tb U) ps.toList=some (cnd,v,e)) (hc:cnd):aE E.P (bp c0 c ρ S nid v e) (run E.P F o c.w):=by
 unfold rH at hr
 by_cases h5:(E.tb U).k=5
 case neg=>
  rw [if_neg h5] at hr
  obtain ⟨h4,hr2⟩:=aR hr
  exact G8 hE h hop hU h4 hr2 hc
 rw [if_pos h5] at hr
 have hr2:=hr
 have hT:=hE.t U hU
 obtain ⟨d,hd,hb⟩:=hT.kind
 cases d with
 | struct fs=>
  simp only [bO,Bool.and_eq_true] at hb
  have hg:=hb.1.1.2
  have hget: ∀{k o:Nat} {W:TypeId},(E.tb U).fs[k]? =some (o,W)→ ∃f,fs.toList[k]? =some f∧f.offset=o∧f.type=W∧(E.tb W).ok=true∧f.name≠ "_" ∧o+(E.tb W).n≤(E.tb U).n:=fun hk=>(mU hb.1.2).2 hk
  -- the places
  have hpl: ∀(l:List (Nat×TypeId)) (fl:List Field) (off:Nat),cI E.tb (E.tb U).n off l fl=true→ ∀w,(fl.mapM fun f=>do pure (f.offset,←sizeOf f.type):Sem (List (Nat×Nat))).run E.P w= .ok (l.map fun p=>(p.1,(E.tb p.2).n)) w:=by
   intro l
   induction l with
   | nil=>intro fl off hf w;cases fl<;>simp_all [cI]
   | cons p l ih=>
    obtain ⟨o1,U1⟩:=p
    intro fl off hf w
    cases fl with
    | nil=>simp [cI] at hf
    | cons f fl=>
     simp only [cI,Bool.and_eq_true,decide_eq_true_eq] at hf
     obtain ⟨⟨⟨⟨⟨h1,h2⟩,h3⟩,h4⟩,h5⟩,h6⟩:=hf
     have hsz:=((hE.t U1 h4).ty ro0).size w
     rw [cg (hE.t U1 h4).one] at hsz
     have ih':=ih fl _ h6 w
     simp only [List.mapM_cons,Sem.run_bind,h3,hsz,Result.andThen_ok,Sem.run_pure,ih',List.map_cons,h2]
  have hbo:Ar E.P U ((E.tb U).fs.map fun p=>(p.1,(E.tb p.2).n)).toArray:=by
   refine ⟨fs,hd,fun w=> ?_⟩
   have:=hpl _ _ _ hb.1.2 w
   rw [Array.mapM_eq_mapM_toList]
   simp only [map_eq_pure_bind,Sem.run_bind,this,Result.andThen_ok,Sem.run_pure]
  obtain ⟨i,zv,hi,hz,hsz,hby,hzr⟩:=hT.info
  have hzv: ∀w,(zeroValue U).run E.P w= .ok zv w:=fun w=>by simp [zeroValue,typeInfo,hi,hz]
  obtain ⟨_,rfl,hfill⟩:=Bf (ρ:=ρ) (c:=c) (F:=F) (n:=(E.tb U).n) (pl:=((E.tb U).fs.map fun p=>(p.1,(E.tb p.2).n)).toArray) hE h (fun k o1 U1 hk=>by
   obtain ⟨f,e1,e2,e3,e4,e5,e6⟩:=hget hk
   exact ⟨e4,e6,by simp [hk]⟩) ps.toList True (E.tb U).z hr2 hc
  have hzr':=hzr ρ c
  rw [hg] at hzr'
  exact Ga (parts:=ps.toList) (by simpa using hop) hbo hzv hzr' rfl hfill fun u hu=>br (fy hu)
 | _=>simp_all [bO]
theorem r7 (hE:a8 E) {T:TypeId} (h:(E.tb T).ok=true) (hk:(E.tb T).k=3):mD E.P T (E.tb T).el (rV ro0 (E.tb (E.tb T).el).n (E.tb (E.tb T).el).g) (E.tb (E.tb T).el).by' (E.tb (E.tb T).el).z:=by
 obtain ⟨hu,hel⟩:=dh hE h hk
 have hT:=hE.t _ hel
 obtain ⟨i,zv,hi,hz,hsz,hby,hzr⟩:=hT.info
 refine ⟨hu,⟨i,zv,hi,hz,?_,hby,fun c=>hzr ro0 c⟩,?_⟩
 ·rw [cg hT.one];exact hsz
 ·rw [cg hT.one];exact hT.pos
theorem wx {T:TypeId} {n:Nat} {g:Bool} {z:Option Bool} {l:List V} {c':Cx} {v:Value} (hf:ρ nid=none) (hs:cy c0 c) (hle:c.le c') (ho:Own c' T v (rV ro0 n g) l) (hk: ∀k,blk v=some k→c.w.heap.size≤k) (h1:g=false→n=1)
  (hz: ∃a cap,v= .slice a l.length cap∧zOk z a cap):bp c0 c ρ S nid (.own nid) (.new (.own T n g z l)) v c'.w:=by
 refine ⟨c',di ρ nid v,rfl,trivial,⟨hle,fun i hi=>hZ hi,?_,?_⟩,?_⟩
 ·exact ⟨v,dm,ho,fun k hk'=> .inl (Nat.le_trans hs.size (hk k hk')),h1,hz⟩
 ·intro k hk'
  obtain ⟨a,cap,rfl,_⟩:=hz
  simp only [ak,dm] at hk'
  exact hk k hk'
 ·obtain ⟨a,cap,rfl,_⟩:=hz
  simp only [rd]
  exact ⟨dm,rfl⟩
mutual
theorem Bh (h:Sim E c0 c ρ S F): ∀{d:V} {v:Value},rd ρ c d v→rd ρ c (pvw S.H d) v
 | .int _ _,_,hr=>hr
 | .bool _,_,hr=>hr
 | .ifc _,_,hr=>hr
 | .str _,_,hr=>hr
 | .agg l,v,hr=>by
  simp only [rd,pvw] at hr⊢
  obtain ⟨cs,e,hr⟩:=hr
  exact ⟨cs,e,Bi h hr⟩
 | .sl _ _ _ _,_,hr=>hr
 | .pp _ _ _,_,hr=>hr
 | .own i,v,hr=>by
  simp only [pvw]
  cases hb:ab S.H i with
  | none=>exact hr
  | some b=>
   cases b with
   | pown n g z l=>
    have h1:=h.heap _ _ hb
    obtain ⟨v',h2,h3⟩:=h1
    simp only [rd] at hr
    rw [hr.1] at h2;cases h2
    exact h3
   | _=>exact hr
 | .ptr _ _,_,hr=>hr
 | .optr _ _ _ _,_,hr=>hr
 | .osub _ _ _ _,_,hr=>hr
 | .tup _,_,hr=>hr
 | .fn _ _,_,hr=>hr
 | .opq _,_,hr=>hr
 | .un,_,hr=>hr
theorem Bi (h:Sim E c0 c ρ S F): ∀{l:List V} {cs:List Value},rdC ρ c l cs→rdC ρ c (lc S.H l) cs
 | [],_,hr=>hr
 | d::l,cs,hr=>by
  simp only [rdC,lc] at hr⊢
  obtain ⟨u,c2,e,h1,h2,h3⟩:=hr
  exact ⟨u,c2,e,h1,Bh h h2,Bi h h3⟩
end
theorem Bj (hE:a8 E) (h:Sim E c0 c ρ S F) {el:TypeId} (hel:(E.tb el).ok=true) {n:Nat}:
  ∀(ps:List (Nat×Operand)) (c1:Prop) (d:List V) {cnd:Prop} {l:List V},jK E S el n c1 d ps=some (cnd,l)→cnd→c1∧l.length=d.length∧
   gW (fun i=>some (i*(rV ro0 (E.tb el).n (E.tb el).g).n,(rV ro0 (E.tb el).n (E.tb el).g).n)) (mC (rV ro0 (E.tb el).n (E.tb el).g) n) c (ps.map fun p=>(p.1,ev F p.2)) d l
 | [],c1,d,cnd,l,hr,hc=>by
  simp only [jK] at hr
  cases hr
  exact ⟨hc,rfl,vf⟩
 | (k,x)::ps,c1,d,cnd,l,hr,hc=>by
  simp only [jK] at hr
  split at hr
  ·rename_i u hu
   obtain ⟨⟨h1,h2,h3,h4⟩,h5,h6⟩:=Bj hE h hel ps _ _ hr hc
   have hT:=hE.t el hel
   refine ⟨h1,by simpa using h5,vg (Sub.elem k h2) rfl (fx hT.one h4 (mS h3 (Bh h (eQ h hu)))) h6⟩
  ·cases hr
theorem G_ {P:Program} {o:Oper} {α:Type} {T E:TypeId} {r:Rep α} {bytes n:Nat} {z:α} {parts:List (Nat×Operand)} {d:List α} (ho:o.op= .buildSlice T n parts.toArray) (hE:mD P T E r bytes z) (hn:n*r.n≤16777216)
  (hf:gW (fun i=>some (i*r.n,r.n)) (mC r n) c (parts.map fun p=>(p.1,ev F p.2)) (List.replicate n z) d):
  ∃w1,run P F o c.w= .ok (.value (.slice (some ⟨c.w.heap.size,0,none⟩) n n)) w1:=by
 obtain ⟨i,zv,hi,hz,hsz,hb,hzr⟩:=hE.info
 have hpos:=hE.pos
 have hzs:zv.cells.size=r.n:=by
  have:=r.len (hzr c).cells
  simpa using this
 have hru:(underlying T).run P c.w= .ok (.slice E) c.w:=by simp [underlying,hE.under]
 have hz0:(mC r n).is c (madeCells zv.cells (n*i.size)).toList (List.replicate n z):=by
  rw [hsz,←hzs,vl]
  exact ⟨by simp,ve n (hzr c).cells⟩
 obtain ⟨cs',h1,h2⟩:=hf _ hz0
 have hnot: ¬(16777216<n*r.n):=by omega
 refine ⟨c.w.alloc (.cells cs' E),?_⟩
 by_cases hn0:n=0
 ·subst hn0
  have h1':Instr.fill (fun i=>some (i*r.n,r.n)) #[] (parts.map fun p=>(p.1,ev F p.2))=some cs':=by simpa [madeCells,Array.range_zero'] using h1
  simp [run,execOp,ho,Instr.buildSlice,hru,sizeOf,typeInfo,hi,hsz,Array.range_zero',h1',newRow]
 ·have hne:n*r.n≠0:=Nat.mul_ne_zero hn0 (by omega)
  rw [hsz] at h1
  simp [run,execOp,ho,Instr.buildSlice,hru,sizeOf,typeInfo,hi,zeroValue,hz,hsz,hnot,hne]
  have hn0': ¬r.n=0:=by omega
  rw [show (Array.map (fun x=>zv.cells[x% zv.cells.size]!) (Array.range (n*r.n)))=madeCells zv.cells (n*r.n) from rfl,h1]
  simp [newRow]
theorem Ha (hE:a8 E) (h:Sim E c0 c ρ S F) (hf:ρ nid=none) {o:Oper} {U:TypeId} {n:Nat} {ps:Array (Nat×Operand)} (hop:o.op= .buildSlice U n ps) (hU:(E.tb U).ok=true) {cnd:Prop} {v:V} {e:Eff}
  (hr:rI E U n nid (jK E S (E.tb U).el n True (List.replicate n (E.tb (E.tb U).el).z) ps.toList)=some (cnd,v,e)) (hc:cnd):aE E.P (bp c0 c ρ S nid v e) (run E.P F o c.w):=by
 cases hs:jK E S (E.tb U).el n True (List.replicate n (E.tb (E.tb U).el).z) ps.toList with
 | none=>rw [hs] at hr;cases hr
 | some p=>
  obtain ⟨c1,l⟩:=p
  rw [hs] at hr
  unfold rI at hr
  obtain ⟨⟨h3,h4⟩,hr2⟩:=aR hr
  cases hr2
  obtain ⟨hu,hel⟩:=dh hE hU h3
  have hT:=hE.t _ hel
  obtain ⟨_,hlen,hfill⟩:=Bj (ρ:=ρ) (c:=c) (F:=F) hE h hel ps.toList True _ hs hc
  rw [List.length_replicate] at hlen
  have hEl:=r7 hE hU h3
  obtain ⟨i,zv,hi,hz,hsz,hb,hzr⟩:=hEl.info
  have hn':n*(rV ro0 (E.tb (E.tb U).el).n (E.tb (E.tb U).el).g).n≤16777216:=by rw [cg hT.one];exact h4
  obtain ⟨w1,hw1⟩:=G_ (P:=E.P) (F:=F) (o:=o) (c:=c) (parts:=ps.toList) (by simpa using hop) hEl hn' hfill
  have key:=Gf (P:=E.P) (F:=F) (o:=o) (c:=c) (K:=fun u w'=>u= .slice (some ⟨c.w.heap.size,0,none⟩) n n→bp c0 c ρ S nid (.own nid) (.new (.own (E.tb U).el (E.tb (E.tb U).el).n (E.tb (E.tb U).el).g (some false) l)) u w') (parts:=ps.toList) (by simpa using hop) hEl hn' hfill hlen
   (fun u c' hle ho hk hu=>wx hf h.since hle ho hk hT.one ⟨_,_,by rw [hlen];exact hu,by simp [zOk]⟩)
  rw [hw1] at key⊢
  exact key rfl
theorem Hb (hE:a8 E) (h:Sim E c0 c ρ S F) (hf:ρ nid=none) {o:Oper} {U:TypeId} {x y:Operand} (hop:o.op= .makeSlice U x y) (hU:(E.tb U).ok=true) {cnd:Prop} {v:V} {e:Eff}
  (hr:rJ E U nid (S.ev E.gv x) (S.ev E.gv y)=some (cnd,v,e)) (hc:cnd):aE E.P (bp c0 c ρ S nid v e) (run E.P F o c.w):=by
 unfold rJ at hr
 split at hr
 ·rename_i k1 n k2 m hx hy
  obtain ⟨h3,hr2⟩:=aR hr
  cases hr2
  obtain ⟨hu,hel⟩:=dh hE hU h3
  have hT:=hE.t _ hel
  have hEl:=r7 hE hU h3
  obtain ⟨h0,hnm,hm⟩:=hc
  have e1:=(aM h hx).1
  have e2:=(aM h hy).1
  have hby:((E.tb (E.tb U).el).by':Int)*m≤281474976710656:=by
   have h1:=hT.by_
   have h2:((E.tb (E.tb U).el).by':Int)≤32768:=by omega
   have:((E.tb (E.tb U).el).by':Int)*m≤32768*1073741824:=Int.mul_le_mul h2 hm (by omega) (by omega)
   omega
  obtain ⟨i,zv,hi,hz,hsz,hb,hzr⟩:=hEl.info
  have hrm:=run_make (P:=E.P) c.w U (E.tb U).el i zv hEl.under hi hz k1 k2 n m h0 hnm (by rw [hb];exact hby) (by omega)
  have hw1:run E.P F o c.w= .ok (.value (.slice (some ⟨c.w.heap.size,0,none⟩) n.toNat m.toNat)) (c.w.alloc (.cells (madeCells zv.cells (m.toNat*i.size)) (E.tb U).el)):=by
   simp [run,execOp,hop,e1,e2,hrm]
  have key:=Gd (P:=E.P) (F:=F) (o:=o) (c:=c) (K:=fun u w'=>u= .slice (some ⟨c.w.heap.size,0,none⟩) n.toNat m.toNat→bp c0 c ρ S nid (.own nid) (.new (.own (E.tb U).el (E.tb (E.tb U).el).n (E.tb (E.tb U).el).g (some false) (List.replicate n.toNat (E.tb (E.tb U).el).z))) u w') hop hEl e1 e2 h0 hnm
   (by unfold LEN;omega) hby (fun u c' hle ho hk hu=>wx hf h.since hle ho hk hT.one ⟨_,_,by rw [List.length_replicate];exact hu,by simp [zOk]⟩)
  rw [hw1] at key⊢
  exact key rfl
 ·cases hr
theorem wy (h:Sim E c0 c ρ S F) {el:TI} {x:Operand} {d:V} {m:List V} (hx:rd ρ c d (ev F x)) (hm:fM S.H el (some d)=some m):Src c (ev F x) (rV ro0 el.n el.g) m:=by
 unfold fM at hm
 split at hm
 ·rename_i z n g l he
  cases he
  obtain ⟨⟨rfl,rfl⟩,hm2⟩:=aR hm
  cases hm2
  exact At (jE hx)
 ·rename_i id he
  cases he
  simp only [rd] at hx
  unfold vS at hm
  split at hm
  ·rename_i E' n g z l hH
   obtain ⟨⟨rfl,rfl⟩,hm2⟩:=aR hm
   cases hm2
   obtain ⟨v',e1,hown,_⟩:=h.heap _ _ hH
   rw [hx.1] at e1;cases e1
   exact Au hown
  ·rename_i n g z l hH
   obtain ⟨⟨rfl,rfl⟩,hm2⟩:=aR hm
   cases hm2
   obtain ⟨v',e1,hsl⟩:=h.heap _ _ hH
   rw [hx.1] at e1;cases e1
   exact At (jE hsl)
  ·cases hm
 ·rename_i id n i j he
  cases he
  simp only [rd] at hx
  obtain ⟨u,hu,hsub⟩:=hx
  unfold vT at hm
  split at hm
  ·rename_i E' n' g z l hH
   obtain ⟨⟨rfl,rfl,rfl⟩,hm2⟩:=aR hm
   cases hm2
   obtain ⟨v',e2,hown,_,hone,a',cap',es,_⟩:=h.heap _ _ hH
   rw [hu] at e2;cases e2
   obtain ⟨a,len,cap,e1,hij,hjl,hev⟩:=vq hsub es
   have hn:(rV ro0 el.n el.g).n=el.n:=cg hone
   rw [e1] at es
   have hll:l.length=len:=by cases es;rfl
   obtain ⟨a2,cap2,e3,hs⟩:=Au hown
   rw [e1] at e3;cases e3
   unfold ld
   refine ⟨_,cap - i,by rw [hev];congr 1;simp only [List.length_take,List.length_drop];omega,?_⟩
   by_cases h0:j=i
   ·subst h0;exact .inl (by simp)
   ·rcases hs with rfl|⟨b,o,cs,rfl,hc,ha⟩
    ·simp at hjl;omega
    ·have hcap: ¬cap=i:=by
      rcases hown.2 with ⟨a4,e4,rfl⟩|⟨g4,cp4,cur4,e4,_,_,k3,_⟩
      ·simp at hjl;omega
      ·rw [e1] at e4;cases e4;omega
     rw [if_neg hcap]
     have hadd:(⟨b,o,none⟩:Addr).add (i*el.n)=⟨b,o+i*el.n,none⟩:=by unfold Addr.add;split<;>simp_all
     refine .inr ⟨b,o+i*el.n,(cs.drop (i*el.n)).take ((j - i)*el.n),by simp [hadd],?_,?_⟩
     ·intro q x hq
      rw [List.getElem?_take] at hq
      split at hq
      ·rw [List.getElem?_drop] at hq
       have:=hc (i*el.n+q) x hq
       rwa [show o+i*el.n+q=o+(i*el.n+q) by omega]
      ·cases hq
     ·have:=oK (j - i) (rc i ha)
      rwa [hn] at this
  ·cases hm
 ·cases hm
theorem r8 {T:TypeId} {n:Nat} {g:Bool} {l m:List V} {v':Value} {c':Cx} (ho:Own c' T v' (rV ro0 n g) (l++m)): ∃a cap,v'= .slice a (l++m).length cap∧zOk (g8 m) a cap:=by
 rcases ho.2 with ⟨a,h1,h2⟩|⟨g',cap,cur,e,_⟩
 ·rw [h2]
  refine ⟨a,0,h1,?_⟩
  have:m=[]:=(List.append_eq_nil_iff.1 h2).2
  subst this
  exact fun _=>rfl
 ·refine ⟨_,_,e,?_⟩
  cases m<;>simp [g8,zOk]
theorem Bk {H:List (Nat×Blk)} {ti el:TI} {a:Option V} {m:Option (List V)} (hm:m=none):mL H ti el nid a m=none:=by
 unfold mL;split<;>simp_all
theorem Hc (hE:a8 E) (h:Sim E c0 c ρ S F) (hf:ρ nid=none) {o:Oper} {U:TypeId} {x y:Operand} (hop:o.op= .call {callee:= .builtin .append,args:= #[x,y],argTypes:= #[U,U]}) (hU:(E.tb U).ok=true) {cnd:Prop} {v:V} {e:Eff}
  (hr:mL S.H (E.tb U) (E.tb (E.tb U).el) nid (S.evT E U x) (fM S.H (E.tb (E.tb U).el) (S.evT E U y))=some (cnd,v,e)) (hc:cnd):aE E.P (bp c0 c ρ S nid v e) (run E.P F o c.w):=by
 have hby2: ∀(k:Nat),(E.tb U).k=3→k≤1073741824→k*(E.tb (E.tb U).el).by'≤140737488355328:=by
  intro k h3 hk
  have h1:=(hE.t _ (dh hE hU h3).2).by_
  have:k*(E.tb (E.tb U).el).by'≤1073741824*32768:=Nat.mul_le_mul hk h1
  omega
 cases hy:S.evT E U y with
 | none=>
  rw [hy] at hr
  rw [Bk (by rfl)] at hr
  cases hr
 | some dy=>
  rw [hy] at hr
  cases hm:fM S.H (E.tb (E.tb U).el) (some dy) with
  | none=>rw [hm,Bk rfl] at hr;cases hr
  | some m=>
   rw [hm] at hr
   have hsrc:=wy h (eQ h hy) hm
   unfold mL at hr
   split at hr
   ·rename_i id m' hx hm'
    cases hm'
    obtain ⟨h3,hr2⟩:=aR hr
    have hT:=hE.t _ (dh hE hU h3).2
    have hEl:=r7 hE hU h3
    have hp:=eQ h hx
    simp only [rd] at hp
    unfold vU at hr2
    split at hr2
    ·rename_i E' n g z l hH
     obtain ⟨⟨rfl,rfl,rfl⟩,hr3⟩:=aR hr2
     cases hr3
     obtain ⟨v',e1,hown,hge,hone,hz⟩:=h.heap _ _ hH
     have hbo:ak ρ id=blk v':=by
      obtain ⟨a,cap,es,_⟩:=hz
      unfold ak;rw [e1,es]
     rw [hp.1] at e1;cases e1
     refine Av hop hEl hown hsrc (by unfold LEN;omega) (hby2 _ h3 hc) fun u c' hch ho hk=> ?_
     refine ⟨c',di ρ id u,rfl,⟨_,hH,rfl,rfl⟩,⟨hbo▸hch,fun i hi=>hZ hi,?_,?_⟩,?_⟩
     ·refine ⟨u,dm,ho,fun k hk'=> ?_,hone,r8 ho⟩
      rcases hk k hk' with h5|h5
      ·exact hge k h5
      ·exact .inl (Nat.le_trans h.since.size h5)
     ·intro k hk'
      obtain ⟨a,cap,es,_⟩:=r8 ho
      subst es
      simp only [ak,dm] at hk'
      rw [hbo]
      exact hk k hk'
     ·obtain ⟨a,cap,es,_⟩:=r8 ho
      subst es
      simp only [rd]
      exact ⟨dm,rfl⟩
    ·cases hr2
   ·rename_i z g m' hx hm'
    cases hm'
    obtain ⟨h3,hr2⟩:=aR hr
    cases hr2
    have hT:=hE.t _ (dh hE hU h3).2
    have hEl:=r7 hE hU h3
    obtain ⟨a,cap,he,hl,hz,_⟩:=dl.1 (eQ h hx)
    obtain ⟨rfl,rfl⟩:=hz
    have hown:Own c (E.tb U).el (ev F x) (rV ro0 (E.tb (E.tb U).el).n (E.tb (E.tb U).el).g) []:=by rw [he];exact Own.nil
    refine Av hop hEl hown hsrc (by unfold LEN;simp only [List.length_nil];omega) (by simpa using hby2 _ h3 hc) fun u c' hch ho hk=> ?_
    have hbn:blk (ev F x)=none:=by rw [he];rfl
    rw [hbn] at hch hk
    have hle:c.le c':=⟨⟨hch.os,hch.tape,hch.output,hch.size,fun k hk=>hch.keep k hk (by simp)⟩,hch.old⟩
    have ho':Own c' (E.tb U).el u (rV ro0 (E.tb (E.tb U).el).n (E.tb (E.tb U).el).g) m:=by simpa using ho
    refine wx hf h.since hle ho' (fun k hk'=> ?_) hT.one (by simpa using r8 ho)
    rcases hk k hk' with h5|h5
    ·cases h5
    ·exact h5
   ·cases hr
theorem Hd {T:TypeId} {n:Nat} {g:Bool} {l:List V} {v:Value} (ho:Own c T v (rV ro0 n g) l) {a:Option Addr} {cap:Nat} (hv:v= .slice a l.length cap):v= .slice (if cap=0 then a else a.map (·.add (0*(rV ro0 n g).n))) (l.length - 0) (cap - 0):=by
 rcases ho.2 with ⟨a',e1,rfl⟩|⟨g',cp,cur,e1,_⟩
 ·rw [e1] at hv;cases hv;simp [e1]
 ·rw [e1] at hv;cases hv
  have hadd:(⟨g',0,none⟩:Addr).add 0=⟨g',0,none⟩:=by unfold Addr.add;split<;>simp_all
  simp [e1,hadd]
theorem Bl (hE:a8 E) (h:Sim E c0 c ρ S F) {o:Oper} {U:TypeId} {x y:Operand} (hop:o.op= .call {callee:= .builtin .copy,args:= #[x,y],argTypes:= #[U,U]}) (hU:(E.tb U).ok=true) (h3:(E.tb U).k=3) {id i j:Nat} {m:List V} {T:TypeId} {n:Nat} {g:Bool} {z:Option Bool} {l:List V} {cnd:Prop} {v:V} {e:Eff}
  (hH:ab S.H id=some (.own T n g z l)) {u:Value} (hu:ρ id=some u) {a:Option Addr} {len cap:Nat} (eu:u= .slice a len cap) (hij:i≤j) (hjl:j≤len) (hx:ev F x= .slice (if cap=i then a else a.map (·.add (i*n))) (j - i) (cap - i)) (hs:Src c (ev F y) (rV ro0 (E.tb (E.tb U).el).n (E.tb (E.tb U).el).g) m)
  (hr:oQ (E.tb (E.tb U).el) id i j m (some (.own T n g z l))=some (cnd,v,e)):aE E.P (bp c0 c ρ S nid v e) (run E.P F o c.w):=by
 unfold oQ at hr
 obtain ⟨⟨rfl,rfl⟩,hr2⟩:=aR hr
 cases hr2
 obtain ⟨hu3,hel⟩:=dh hE hU h3
 have hT:=hE.t _ hel
 obtain ⟨v',e2,hown,hge,hone,a',cap',es,hz⟩:=h.heap _ _ hH
 rw [hu] at e2;cases e2
 rw [eu] at es
 have hll:l.length=len:=by cases es;rfl
 have hn:(rV ro0 (E.tb (E.tb U).el).n (E.tb (E.tb U).el).g).n=(E.tb (E.tb U).el).n:=cg hone
 have hbo:ak ρ id=blk u:=by unfold ak;rw [hu,eu]
 have hzz:zOk z a cap:=by cases es;exact hz
 obtain ⟨c',hrun,hch,hown'⟩:=AF (P:=E.P) (U:=o.type) (d:=ev F x) (u:=ev F y) hu3 (hT.ty ro0).size (by rw [hn];exact hT.pos) hown eu hij hjl (by rw [hn];exact hx) hs
 refine yv (v:= .int .i64 ((min (j - i) m.length:Nat):Int)) (w':=c'.w) ?_ ⟨c',ρ,rfl,⟨_,hH,rfl,rfl⟩,⟨hbo▸hch,rfl,u,hu,hown',hge,hone,a,cap,?_,hzz⟩,⟨rfl,?_⟩⟩
 ·simp only [run,execOp,hop,resolve,invoke,builtin,Sem.run_bind,Sem.run_pure,Result.andThen_ok,List.map_toArray,List.map_cons,List.map_nil,hrun]
 ·rw [eu]
  congr 1
  simp only [spl,List.length_append,List.length_take,List.length_drop]
  omega
 ·have:=hown.len
  exact jC (by omega)
theorem Bm {H:List (Nat×Blk)} {ti el:TI} {a:Option V} {m:Option (List V)} (hm:m=none):mN H ti el a m=none:=by
 unfold mN;split<;>simp_all
theorem wz {ρ':Ro}: ∀{l:List V} {cs:List Value},(∀d∈l,∀v,rd ρ' c d v→rd ro0 c d v)→rdC ρ' c l cs→rdE c 1 false l cs
 | [],_,_,h=>by simp only [rdC] at h;subst h;rfl
 | d::l,cs,hp,h=>by
  simp only [rdC] at h
  obtain ⟨u,c2,rfl,h1,h2,h3⟩:=h
  simp only [rdE]
  exact ⟨[u],c2,rfl,⟨⟨rfl,fun _=>rfl,by simpa using h1⟩,hp d (by simp) u h2⟩,wz (fun d hd=>hp d (by simp [hd])) h3⟩
theorem wA: ∀{l:List V} {cs:List Value},rdE c 1 false l cs→rdC ρ c l cs
 | [],cs,h=>by simpa [rdE,rdC] using h
 | d::l,cs,h=>by
  simp only [rdE,rdC] at h⊢
  obtain ⟨c1,c2,rfl,⟨h1,h2⟩,h3⟩:=h
  match c1,h1.1 with
  | [u],_=>exact ⟨u,c2,rfl,h1.2.2 u (by simp),cZ (fun _ _ k=>by cases k) h2,wA h3⟩
theorem He (hE:a8 E) (h:Sim E c0 c ρ S F) {o:Oper} {U:TypeId} {x y:Operand} (hop:o.op= .call {callee:= .builtin .copy,args:= #[x,y],argTypes:= #[U,U]}) (hU:(E.tb U).ok=true) (h3:(E.tb U).k=3) {id j n':Nat} {m l:List V}
  (hH:ab S.H id=some (.var n' true (.agg l))) {u:Value} (hu:ρ id=some u) (hsub:vo u 1 0 j (ev F x)) (g1:(E.tb (E.tb U).el).n=1) (g2:(E.tb (E.tb U).el).g=false) (g3:j=l.length) (g4:0<l.length) (g5:l.length≤1073741824) (hpu:cU l)
  (hs:Src c (ev F y) (rV ro0 (E.tb (E.tb U).el).n (E.tb (E.tb U).el).g) m):
  aE E.P (bp c0 c ρ S nid (.int .i64 ((min j m.length:Nat):Int)) (.upd id (.var n' true (.agg (spl l 0 (min j m.length) m))))) (run E.P F o c.w):=by
 obtain ⟨hu3,hel⟩:=dh hE hU h3
 have hT:=hE.t _ hel
 obtain ⟨b,e2,hmine,hX,T,cs,hh,hi⟩:=h.heap _ _ hH
 rw [hu] at e2;cases e2
 obtain ⟨b',_,_,e3,e4⟩:=hsub.resolve_left (by rintro ⟨a,len,cap,e,_⟩;cases e)
 cases e3
 obtain ⟨cs',e3,k6⟩:=(show rd ρ c (.agg l) (mkV true cs.toList) from hi.2)
 have e5:cs.toList=cs':=by
  have e5:cs=cs'.toArray:=by simpa [mkV] using e3
  rw [e5]
 subst e5
 have hlen:=g7 k6
 have hn:(rV ro0 1 false).n=1:=cg (fun _=>rfl)
 have hE0:=wz (ρ':=ro0) (fun _ _ _ h=>h) (rX hpu k6)
 obtain ⟨cp,hcp⟩: ∃cp,l.length=cp+1:=⟨l.length - 1,by omega⟩
 have hown:Own c T (.slice (some ⟨b,0,none⟩) l.length l.length) (rV ro0 1 false) l:=by
  refine ⟨by unfold LEN;omega,.inr ⟨b,cp,cs,by rw [hcp],hX,hh,by omega,by unfold maxLen;omega,by rw [hn,←Array.length_toList];omega,?_⟩⟩
  rw [hn,Nat.mul_one,←hlen,List.take_length]
  exact er.1 hE0
 rw [g1,g2] at hs
 have hsz: ∀w,(sizeOf (E.tb U).el).run E.P w= .ok (rV ro0 1 false).n w:=fun w=>by
  have:=(hT.ty ro0).size w
  rwa [cg hT.one,g1,←hn] at this
 have hadd:(⟨b,0,none⟩:Addr).add (0*(rV ro0 1 false).n)=⟨b,0,none⟩:=by unfold Addr.add;split<;>simp_all
 obtain ⟨c',hrun,hch,hown'⟩:=AF (P:=E.P) (U:=o.type) (i:=0) (j:=j) (d:=ev F x) (u:=ev F y) hu3 hsz (by rw [hn];exact Nat.one_pos) hown rfl (Nat.zero_le _) (by omega) (by rw [e4,if_neg (by omega)];simp only [Option.map_some,hadd,Nat.sub_zero,g3]) hs
 have hbo:ak ρ id=some b:=by unfold ak;rw [hu]
 have hbl:blk (.slice (some ⟨b,0,none⟩) l.length l.length)=some b:=by rw [hcp];rfl
 rw [hbl] at hch
 rw [Nat.sub_zero] at hrun hown'
 refine yv (v:= .int .i64 ((min j m.length:Nat):Int)) (w':=c'.w) ?_ ⟨c',ρ,rfl,⟨_,hH,rfl,rfl⟩,⟨hbo▸hch,rfl,b,hu,hmine,?_⟩,⟨rfl,?_⟩⟩
 ·simp only [run,execOp,hop,resolve,invoke,builtin,Sem.run_bind,Sem.run_pure,Result.andThen_ok,List.map_toArray,List.map_cons,List.map_nil,hrun]
 ·obtain ⟨_,h5⟩:=hown'
  have hsl:(l.take 0++m.take (min j m.length)++l.drop (0+min j m.length)).length=l.length:=by
   simp only [List.length_append,List.length_take,List.length_drop];omega
  rcases h5 with ⟨a,e6,e7⟩|⟨g,cap,cur,e6,f1,f2,f3,f4,f5,f6⟩
  ·rw [e7] at hsl;simp at hsl;omega
  ·have e8:b=g∧l.length=cap+1:=by
    simp only [Value.slice.injEq,Option.some.injEq,Addr.mk.injEq] at e6
    exact ⟨e6.1.1,e6.2.2⟩
   obtain ⟨rfl,e9⟩:=e8
   have hcur:cur.size=l.length:=by rw [f5,hn];omega
   rw [hsl,hn,Nat.mul_one,←hcur,←Array.length_toList,List.take_length] at f6
   refine ⟨f1,T,cur,f2,⟨?_,?_⟩⟩
   ·have:=hi.1
    obtain ⟨s1,s2,s3⟩:=this
    have e10:=er.2 f6
    refine ⟨?_,fun e=>s2 e,?_⟩
    ·rw [←s1];rw [Array.length_toList,hcur,hlen]
    ·exact mG (wA (ρ:=ρ) e10)
   ·refine ⟨cur.toList,by simp [mkV],?_⟩
    exact wA (er.2 f6)
 ·exact jC (Nat.le_trans (Nat.min_le_left _ _) (by unfold LEN;omega))
theorem Hf (hE:a8 E) (h:Sim E c0 c ρ S F) {o:Oper} {U:TypeId} {x y:Operand} (hop:o.op= .call {callee:= .builtin .copy,args:= #[x,y],argTypes:= #[U,U]}) (hU:(E.tb U).ok=true) {cnd:Prop} {v:V} {e:Eff}
  (hr:mN S.H (E.tb U) (E.tb (E.tb U).el) (S.ev E.gv x) (fM S.H (E.tb (E.tb U).el) (S.evT E U y))=some (cnd,v,e)) (hc:cnd):aE E.P (bp c0 c ρ S nid v e) (run E.P F o c.w):=by
 cases hy:S.evT E U y with
 | none=>rw [hy,Bm (by rfl)] at hr;cases hr
 | some dy=>
  rw [hy] at hr
  cases hm:fM S.H (E.tb (E.tb U).el) (some dy) with
  | none=>rw [hm,Bm rfl] at hr;cases hr
  | some m=>
   rw [hm] at hr
   have hsrc:=wy h (eQ h hy) hm
   unfold mN at hr
   split at hr
   ·rename_i id m' hx hm'
    cases hm'
    obtain ⟨h3,hr2⟩:=aR hr
    have hp:=aM h hx
    simp only [rd] at hp
    unfold vZ at hr2
    split at hr2
    ·rename_i T n g z l hH
     obtain ⟨v',e1,hown,_,hone,a,cap,es,_⟩:=h.heap _ _ hH
     rw [hp.1] at e1;cases e1
     have hself:=Hd hown es
     rw [cg hone] at hself
     exact Bl hE h hop hU h3 hH hp.1 es (Nat.zero_le _) (Nat.le_refl _) hself hsrc hr2
    ·cases hr2
   ·rename_i id n i j m' hx hm'
    cases hm'
    obtain ⟨h3,hr2⟩:=aR hr
    have hp:=aM h hx
    simp only [rd] at hp
    obtain ⟨u,hu,hsub⟩:=hp
    unfold v_ at hr2
    split at hr2
    ·rename_i T n' g z l hH
     obtain ⟨rfl,hr3⟩:=aR hr2
     obtain ⟨v',e2,_,_,_,a',cap',es,_⟩:=h.heap _ _ hH
     rw [hu] at e2;cases e2
     obtain ⟨a,len,cap,e1,hij,hjl,hev⟩:=vq hsub es
     exact Bl hE h hop hU h3 hH hu e1 hij hjl hev hsrc hr3
    ·rename_i n' l hH
     obtain ⟨⟨rfl,rfl,g1,g2,g3,g4,g5⟩,hr3⟩:=aR hr2
     cases hr3
     exact He hE h hop hU h3 hH hu hsub g1 g2 g3 g4 g5 hc hsrc
    ·cases hr2
   ·cases hr
theorem Bn: ∀{l:List V} {cs:List Value},rx l→a7 (rV ro0 1 false) c cs l→cs=(l.map jJ).map (Value.int .u8)
 | [],cs,_,h=>by simp only [a7] at h;subst h;rfl
 | d::l,cs,hu,h=>by
  simp only [rx,a7] at hu h
  obtain ⟨c1,c2,rfl,⟨⟨h1,_⟩,h2⟩,h3⟩:=h
  obtain ⟨h4,h5⟩:=hu
  match c1,h1 with
  | [u],_=>
   cases d with
   | int k n=>
    cases k<;>simp only [vL] at h4
    have e:u= .int .u8 n:=h2.1
    subst e
    simp [Bn h5 h3,jJ]
   | _=>simp only [vL] at h4
theorem Bo: ∀{a:List UInt8},rdE c 1 false (a.map u8V) (a.map fun b=> .int .u8 b.toNat)
 | []=>rfl
 | x::a=>by
  simp only [List.map_cons,rdE]
  refine ⟨[_],_,rfl,⟨⟨rfl,fun _=>rfl,by simp [Value.oneCell']⟩,?_⟩,Bo⟩
  refine ⟨rfl,?_⟩
  have:=UInt8.toNat_lt x
  simp [Rng,IntKind.min,IntKind.max,IntKind.bits,IntKind.signed];omega
theorem Hg {i n m k:Nat} (h:blk (.slice (some ⟨i,0,none⟩) n m)=some k):k=i:=by
 cases m with
 | zero=>cases h
 | succ m=>simp only [blk,Option.some.injEq] at h;exact h.symm
theorem Hh {P:Program} (w:World) (t e T:TypeId) (g off n c k:Nat) (ht:P.underlying t=some (.slice e)) (he:P.underlying e=some (.int .u8)) (hsh:w.shape? g=some (T,k)):
  (convert t t (.slice (some ⟨g,off,none⟩) n c)).run P w= .ok (.slice (some ⟨g,off,none⟩) n c) (w.freeze ⟨g,k,none⟩ 1):=by
 simp [convert,run_underlying ht,run_underlying he,markStringish,hsh]
theorem Hi (hE:a8 E) (h:Sim E c0 c ρ S F) {o:Oper} {U:TypeId} {x:Operand} (hop:o.op= .convert U U x) (hU:(E.tb U).ok=true) {i:Nat} (hx:S.ev E.gv x=some (.own i)) {cnd:Prop} {v:V} {e:Eff}
  (hr:ry E.tb (E.tb U) i (ab S.H i)=some (cnd,v,e)) (hc:cnd):aE E.P (bp c0 c ρ S nid v e) (run E.P F o c.w):=by
 cases hb:ab S.H i with
 | none=>rw [hb] at hr;cases hr
 | some b=>
  rw [hb] at hr
  cases b with
  | own T n g z l=>
   simp only [ry] at hr
   obtain ⟨⟨k1,k2,k3,k4,k5⟩,hr2⟩:=aR hr
   cases hr2
   subst k4 k5
   obtain ⟨hu,hel⟩:=dh hE hU k1
   have hue:=hO hE hel k2
   rw [k3] at hue
   obtain ⟨u,hv,hown,hmine,hgn,a,cap,e1,hz⟩:=h.heap i _ hb
   have hev:=aM h hx
   simp only [rd] at hev
   have hev2:ev F x=u:=by have:=hev.1;rw [hv] at this;cases this;rfl
   rcases hown.2 with ⟨a',e2,rfl⟩|⟨gb,cp,cur,e2,g1,g2,g3,g4,g5,g6⟩
   ·exact absurd hc (by simp)
   ·have hlt:gb<c.w.heap.size:=c.ok gb g1
    rw [e2] at e1
    cases e1
    have hsh:c.w.shape? gb=some (T,cur.size):=by unfold World.shape?;rw [g2]
    have hw:(c.w.freeze ⟨gb,cur.size,none⟩ 1).heap=c.w.heap.modify gb fun
      | .cells c elem (lo,hi)=> .cells c elem (if lo==hi then (cur.size,cur.size+1) else (min lo cur.size,max hi (cur.size+1)))
      | o=>o:=rfl
    have hsz:(c.w.freeze ⟨gb,cur.size,none⟩ 1).heap.size=c.w.heap.size:=by rw [hw];simp
    have hother: ∀k,k≠gb→(c.w.freeze ⟨gb,cur.size,none⟩ 1).heap[k]? =c.w.heap[k]? :=fun k hk=>by rw [hw,Array.getElem?_modify,if_neg (Ne.symm hk)]
    have hnew:(c.w.freeze ⟨gb,cur.size,none⟩ 1).heap[gb]? =some (.cells cur T (cur.size,cur.size+1)):=by
     rw [hw,Array.getElem?_modify,if_pos rfl,g2];rfl
    have hok: ∀k,k∈c.X→k<(c.w.freeze ⟨gb,cur.size,none⟩ 1).heap.size:=fun k hk=>by rw [hsz];exact c.ok k hk
    have hbo:ak ρ i=some gb:=by unfold ak;rw [hv,e2];rfl
    have hch:c.chg (ak ρ i) ⟨c.X,c.w.freeze ⟨gb,cur.size,none⟩ 1,hok,[]⟩:=by
     rw [hbo]
     exact ⟨rfl,rfl,rfl,by rw [hsz];exact Nat.le_refl _,fun k _ hk=>hother k (fun e=>hk (e▸rfl)),fun _ _=>Iff.rfl,fun k hk=>by cases hk;exact g1⟩
    have hpub:=hch.pub.trans (Cx.pub_dropv ⟨c.X,c.w.freeze ⟨gb,cur.size,none⟩ 1,hok,[]⟩ (.slice (some ⟨gb,0,none⟩) 0 1))
    have hrd: ∀ρ9:Ro,rd ρ9 (Cx.dropv ⟨c.X,c.w.freeze ⟨gb,cur.size,none⟩ 1,hok,[]⟩ (.slice (some ⟨gb,0,none⟩) 0 1)) (.sl z 1 false l) (.slice (some ⟨gb,0,none⟩) l.length (cp+1)):=fun ρ9=>by
     refine dl.2 ⟨_,_,rfl,⟨hown.1,g3⟩,hz,.inr ⟨gb,0,cur.toList.take (l.length*1),rfl,?_,?_,?_,?_⟩⟩
     ·show gb<(c.w.freeze ⟨gb,cur.size,none⟩ 1).heap.size
      rw [hsz];exact hlt
     ·intro hk
      have:=(List.mem_filter.1 hk).2
      simp [blk] at this
     ·intro j u9 hj
      rw [List.getElem?_take] at hj
      split at hj
      ·simp only [Nat.zero_add]
       show (c.w.freeze ⟨gb,cur.size,none⟩ 1).cell? _=_
       simp only [World.cell?,hnew]
       simpa using hj
      ·cases hj
     ·exact cR hpub g6
    refine yv (v:=u) (w':=c.w.freeze ⟨gb,cur.size,none⟩ 1) ?_ ⟨Cx.dropv ⟨c.X,c.w.freeze ⟨gb,cur.size,none⟩ 1,hok,[]⟩ (.slice (some ⟨gb,0,none⟩) 0 1),ρ,rfl,⟨T,1,false,z,l,hb,rfl⟩,⟨rfl,⟨u,hv,by rw [e2];exact hrd ro0⟩,gb,_,_,_,by rw [hv,e2],hch,rfl⟩,by rw [e2];exact hrd ρ⟩
    have hrun:=Hh (P:=E.P) c.w U (E.tb U).el T gb 0 l.length (cp+1) cur.size hu hue hsh
    simp [run,execOp,hop,hev2,e2,hrun]
  | _=>cases hr
theorem Bp (hE:a8 E) (h:Sim E c0 c ρ S F) (hf:ρ nid=none) {o:Oper} {U W:TypeId} {x:Operand} (hop:o.op= .convert U W x) (hU:(E.tb U).ok=true) (hW:(E.tb W).ok=true) {cnd:Prop} {v:V} {e:Eff}
  (hr:oO E.tb (E.tb U) (E.tb W) nid (fM S.H (E.tb (E.tb U).el) (S.ev E.gv x)) (S.ev E.gv x)=some (cnd,v,e)) (hc:cnd):aE E.P (bp c0 c ρ S nid v e) (run E.P F o c.w):=by
 unfold oO at hr
 split at hr
 ·rename_i k a hx
  obtain ⟨⟨h1,h2,h3⟩,hr2⟩:=aR hr
  cases hr2
  have hu:=hO hE hU h1
  rw [h3] at hu
  exact UJ hop hu (hO hE hW h2) (aM h hx).1 (cL (Am _ _))
 ·rename_i a hx
  have e:=aM h hx
  unfold vM at hr
  split at hr
  ·rename_i hk
   cases hr
   refine yv (v:= .string ⟨a.toArray⟩) (w':=c.w) ?_ (br ⟨rfl,e.2⟩)
   simp [run,execOp,hop,e.1,convert,underlying,hP hE hU hk.1,hP hE hW hk.2]
  ·obtain ⟨⟨k1,k2,k3,k4⟩,hr2⟩:=aR hr
   cases hr2
   obtain ⟨hu,hel⟩:=dh hE hW k2
   have hue:=hO hE hel k3
   rw [k4] at hue
   have hsz:(⟨a.toArray⟩:ByteArray).size=a.length:=by simp [ByteArray.size]
   have hrun:run E.P F o c.w= .ok (.value (.slice (some ⟨c.w.heap.size,0,none⟩) a.length (grownCap c.w a.length 0 (E.tb W).el))) (Lib.bytesWorld c.w (E.tb W).el ⟨a.toArray⟩):=by
    have:=Lib.run_convert_string_bytes (P:=E.P) c.w U W (E.tb W).el ⟨a.toArray⟩ (hP hE hU k1) hu hue
    rw [hsz] at this
    simp [run,execOp,hop,e.1,this]
   have hbe:Below c.w.heap.size c.w (Lib.bytesWorld c.w (E.tb W).el ⟨a.toArray⟩):=by
    refine ⟨?_,?_,?_,by rw [Lib.bytesWorld_size];omega,fun k hk=>Lib.bytesWorld_at_old _ _ _ k hk⟩<;>rfl
   have hrd:rd ro0 (c.at _ hbe.size) (.sl (some false) 1 false (a.map u8V)) (.slice (some ⟨c.w.heap.size,0,none⟩) a.length (grownCap c.w a.length 0 (E.tb W).el)):=by
    refine dl.2 ⟨_,_,by rw [List.length_map],⟨by rw [List.length_map];exact e.2,by rw [List.length_map];exact grownCap_ge _ _ _ _⟩,by simp [zOk],.inr ⟨c.w.heap.size,0,a.map fun b=> .int .u8 b.toNat,rfl,?_,?_,?_,?_⟩⟩
    ·show c.w.heap.size<(Lib.bytesWorld _ _ _).heap.size
     rw [Lib.bytesWorld_size];omega
    ·intro hk;exact absurd (c.ok _ hk) (Nat.lt_irrefl _)
    ·intro j u hj
     have hjl:j<a.length:=by
      have:=(List.getElem?_eq_some_iff.1 hj).1
      simpa using this
     show (Lib.bytesWorld _ _ _).cell? _=_
     rw [Nat.zero_add,Lib.bytesWorld_cell _ _ _ j (by rw [hsz];exact hjl)]
     simp [List.getElem?_eq_getElem hjl] at hj
     simp [List.getD,List.getElem?_eq_getElem hjl,←hj]
    ·refine er.1 ?_
     exact Bo
   rw [hrun]
   refine ⟨c.at _ hbe.size,di ρ nid _,rfl,trivial,⟨Cx.le_at hbe,fun i hi=>hZ hi,⟨_,dm,hrd⟩,fun k hk=> ?_⟩,⟨dm,rfl⟩⟩
   simp only [ak,dm] at hk
   exact Nat.le_of_eq (Hg hk).symm
 ·rename_i d hn1 hn2 hx
  rw [hx] at hr
  unfold vN at hr
  split at hr
  ·rename_i l hl
   obtain ⟨⟨k1,k2,k3,k4,k5,k6⟩,hr2⟩:=aR hr
   cases hr2
   obtain ⟨hu,hel⟩:=dh hE hU k1
   have hue:=hO hE hel k3
   rw [k4] at hue
   obtain ⟨a,cap,ev1,hs⟩:=wy h (aM h hx) hl
   rw [k5,k6] at hs
   have key:run E.P F o c.w= .ok (.value (.string ⟨(l.map fun d=>u8N (jJ d)).toArray⟩)) c.w:=by
    have hcv:(convert U W (ev F x)).run E.P c.w= .ok (.string ⟨(l.map fun d=>u8N (jJ d)).toArray⟩) c.w:=by
     rw [ev1]
     rcases hs with rfl|⟨b,o1,cs,rfl,hcell,harr⟩
     ·cases a with
      | none=>exact run_convert_bytes_nil c.w U _ hu hue _ _ W (hP hE hW k2)
      | some a=>
       rw [run_convert_bytes_string c.w U W _ _ _ _ hu hue (hP hE hW k2)]
       rw [run_bytesToString c.w a _ _ [] (by simpa using run_loadCells_list (P:=E.P) c.w a [] (fun j v hj=>by simp at hj))]
       rfl
     ·have hcs:=Bn hc.1 harr
      have hlen:cs.length=l.length:=by rw [hcs];simp
      have:=run_convert_bytes_arg c.w U _ hu hue b o1 l.length cap (l.map jJ) (by simp) (fun i hi=>by
       have:=hcell i (.int .u8 ((l.map jJ).getD i 0)) (by rw [hcs];simp [List.getD,List.getElem?_eq_getElem hi])
       exact this) W (hP hE hW k2)
      rw [this]
      simp only [strOfNums,List.map_map]
      rfl
    simp [run,execOp,hop,hcv]
   refine yv key (br ⟨rfl,?_⟩)
   simpa [LEN] using hc.2
  ·cases hr
 ·cases hr
theorem Bq: ∀{l:List V} {k i:Nat},i+k≤l.length→oP l k i=(l.drop i).take k
 | l,0,i,_=>by simp [oP]
 | l,k+1,i,h=>by
  have hi:i<l.length:=by omega
  rw [List.drop_eq_getElem_cons hi,List.take_succ_cons,oP,Bq (k:=k) (i:=i+1) (by omega)]
  simp [elt,List.getD,List.getElem?_eq_getElem hi]
theorem Br: ∀{l:List V} {cs:List Value},a7 (rV ro0 1 false) c cs l→rdC ro0 c l cs
 | [],cs,h=>by simp only [a7] at h;subst h;rfl
 | d::l,cs,h=>by
  simp only [a7] at h
  obtain ⟨c1,c2,rfl,⟨⟨h1,_,h0⟩,h2⟩,h3⟩:=h
  match c1,h1 with
  | [u],_=>
   simp only [rdC]
   exact ⟨u,c2,rfl,h0 u (by simp),h2,Br h3⟩
theorem Hj (hE:a8 E) (h:Sim E c0 c ρ S F) {o:Oper} {A:TypeId} {x:Operand} (hop:o.op= .sliceToArrayPointer A x) (hA:(E.tb A).ok=true) {cnd:Prop} {v:V} {e:Eff}
  (hr:rz (E.tb A) (E.tb (E.tb A).el) (S.ev E.gv x)=some (cnd,v,e)) (hc:cnd):aE E.P (bp c0 c ρ S nid v e) (run E.P F o c.w):=by
 unfold rz at hr
 split at hr
 ·rename_i z n g l hx
  obtain ⟨⟨h4,g1,g2,rfl,rfl,g3⟩,hr2⟩:=aR hr
  cases hr2
  obtain ⟨hu,hel⟩:=iT hE hA h4
  have hru:(underlying A).run E.P c.w= .ok (.array (E.tb A).len (E.tb (E.tb A).el).el) c.w∨(underlying A).run E.P c.w= .ok (.array (E.tb A).len (E.tb A).el) c.w:= .inr (by simp [underlying,hu])
  have hru2:(underlying A).run E.P c.w= .ok (.array (E.tb A).len (E.tb A).el) c.w:=by simp [underlying,hu]
  obtain ⟨a,cap,e1,⟨hl,_⟩,hz,hs⟩:=dl.1 (aM h hx)
  rcases hs with rfl|⟨b,o1,cs,rfl,k1,k2,k3,k4⟩
  ·simp at hc;omega
  refine yv (v:= .pointer (some ⟨b,o1,none⟩)) (w':=c.w) ?_ (br ?_)
  ·simp [run,execOp,hop,Instr.arrayAt,e1,hru2,Nat.not_lt.2 hc]
  ·have hcd:=Br k4
   have hlen:=g7 hcd
   refine gx.2 ⟨b,o1,(cs.take (E.tb A).len),rfl,k1,k2,by simpa using k3.part 0 (E.tb A).len,⟨by simp;omega,(fun hh=>nomatch hh),fun u hu=>mG hcd u (List.mem_of_mem_take hu)⟩,?_⟩
   rw [Bq (by omega)]
   exact ⟨_,rfl,by simpa using iR (E.tb A).len hcd⟩
 ·cases hr
theorem Bs {ρ':Ro} {z:Option Bool} {n:Nat} {g:Bool} {l l':List V} {v u:Value} {i q s:Nat} (hv:rd ρ' c (.sl z n g l) v) (hu:(gV (rV ro0 n g)).val c u l')
  (hhd: ∃a cap,v= .slice a l.length cap∧u= .slice (if cap=i then a else a.map (·.add (i*s))) q (cap - i)):rd ρ c (.sl none n g l') u:=by
 obtain ⟨a,cap,e,h1,h2⟩:=fw.1 hu
 obtain ⟨a1,cap1,e1,e2⟩:=hhd
 obtain ⟨a2,cap2,e3,_,hz,_⟩:=dl.1 hv
 rw [e1] at e3;cases e3
 refine dl.2 ⟨a,cap,e,h1,fun ha=> ?_,h2⟩
 rw [e2] at e
 simp only [Value.slice.injEq] at e
 obtain ⟨g1,g2,g3⟩:=e
 subst ha
 have:a1=none:=by
  split at g1
  ·exact g1
  ·cases a1 with
   | none=>rfl
   | some x=>cases g1
 have:=kY hz this
 omega
theorem wB {o:Oper} {U El:TypeId} {m b off o':Nat} {x:Operand} {lo hi:Option Operand} (hop:o.op= .slice U x lo hi none) (hu:E.P.underlying U=some (.array m El)) (hsz: ∀w,(sizeOf El).run E.P w= .ok 1 w)
  (hx:ev F x= .pointer (some ⟨b,o'+off,none⟩)) {i j:Int} (hlo:(lo=none∧i=0)∨ ∃y k,lo=some y∧ev F y= .int k i) (hhi:(hi=none∧j=m)∨ ∃y k,hi=some y∧ev F y= .int k j) (hc:0≤i∧i≤j∧j≤m) (hm:m≤1073741824)
  {l:List V} {cs:List Value} (h1:b<c.w.heap.size) (h2:b∉c.X) (h3:cY c.w b o' cs) (h4:rdC ro0 c l cs) (hl:off+m≤l.length) {ρ':Ro}:
  aE E.P (fun u w'=>w'=c.w∧rd ρ' c (.sl (some false) 1 false (mM (l.drop off) i j)) u) (run E.P F o c.w):=by
 have hru:(underlying U).run E.P c.w= .ok (.array m El) c.w:=by simp [underlying,hu]
 obtain ⟨c1,c2,c3⟩:=hc
 have hlen:=g7 h4
 have hi':i=((i.toNat:Nat):Int):=by omega
 have hj':j=((j.toNat:Nat):Int):=by omega
 have hrun:run E.P F o c.w= .ok (.value (.slice (some (if m - i.toNat=0 then ⟨b,o'+off,none⟩ else ⟨b,o'+off+i.toNat,none⟩)) (j.toNat - i.toNat) (m - i.toNat))) c.w:=by
  have c4:(0:Int)≤j:=by omega
  have c5:i≤(m:Int):=by omega
  have hmi:(m=i.toNat)↔(m - i.toNat=0):=by omega
  rcases hlo with ⟨rfl,rfl⟩|⟨y,k,rfl,ey⟩<;>rcases hhi with ⟨rfl,rfl⟩|⟨y2,k2,rfl,ey2⟩
  ·simp [run,execOp,hop,Instr.sliceAt,hx,hru,Instr.sureAddr,Instr.sliceBounds,hsz,Addr.add]
  ·simp [run,execOp,hop,Instr.sliceAt,hx,hru,Instr.sureAddr,Instr.sliceBounds,Instr.sliceBound,asIntOf,ey2,hsz,Addr.add,c3,c4]
  ·simp [run,execOp,hop,Instr.sliceAt,hx,hru,Instr.sureAddr,Instr.sliceBounds,Instr.sliceBound,asIntOf,ey,hsz,Addr.add,c1,c2,hmi]
   split
   ·rfl
   ·split
    ·have e0:i.toNat=0:=by omega
     simp [e0]
    ·rfl
  ·simp [run,execOp,hop,Instr.sliceAt,hx,hru,Instr.sureAddr,Instr.sliceBounds,Instr.sliceBound,asIntOf,ey,ey2,hsz,Addr.add,c1,c2,c3,c4,hmi,hj'.symm]
   split
   ·rfl
   ·split
    ·have e0:i.toNat=0:=by omega
     simp [e0]
    ·rfl
 rw [hrun]
 refine ⟨rfl,dl.2 ?_⟩
 have hcl:(mM (l.drop off) i j).length=j.toNat - i.toNat:=by simp [mM];omega
 refine ⟨_,m - i.toNat,by rw [hcl],⟨by rw [hcl];unfold LEN;omega,by rw [hcl];omega⟩,by simp [zOk],?_⟩
 by_cases hz:m - i.toNat=0
 ·left
  exact List.eq_nil_of_length_eq_zero (by rw [hcl];omega)
 ·right
  rw [if_neg hz]
  have hp:=h3.part (off+i.toNat) (j.toNat - i.toNat)
  refine ⟨b,o'+off+i.toNat,_,rfl,h1,h2,by rw [Nat.add_assoc];exact hp,er.1 (wz (ρ':=ro0) (fun _ _ _ h=>h) ?_)⟩
  have:=iR (j.toNat - i.toNat) (iQ (off+i.toNat) h4)
  simpa [mM,List.drop_drop] using this
theorem Hk (hE:a8 E) (h:Sim E c0 c ρ S F) {o:Oper} {U:TypeId} {x:Operand} {lo hi:Option Operand} (hop:o.op= .slice U x lo hi none) (hU:(E.tb U).ok=true) {cnd:Prop} {v:V} {e:Eff}
  (hr:rN S.H (E.tb U) (E.tb (E.tb U).el) (S.ev E.gv x) (loB (S.ev E.gv) lo) (hiB (jL (E.tb U).len S.H (S.ev E.gv x)) (S.ev E.gv) hi)=some (cnd,v,e)) (hc:cnd):aE E.P (bp c0 c ρ S nid v e) (run E.P F o c.w):=by
 have hlo: ∀i,loB (S.ev E.gv) lo=some i→(lo=none∧i=0)∨ ∃y k,lo=some y∧ev F y= .int k i:=by
  intro i hi
  cases lo with
  | none=>cases hi;exact .inl ⟨rfl,rfl⟩
  | some y=>
   simp only [loB] at hi
   unfold bound at hi
   split at hi
   ·rename_i e;cases e
   ·rename_i k i' e;cases hi
    simp only [Option.some.injEq] at e
    exact .inr ⟨y,k,rfl,(aM h e).1⟩
   ·cases hi
 have hhi: ∀n j,hiB n (S.ev E.gv) hi=some j→(hi=none∧j=n)∨ ∃y k,hi=some y∧ev F y= .int k j:=by
  intro n j hj
  cases hi with
  | none=>cases hj;exact .inl ⟨rfl,rfl⟩
  | some y=>
   simp only [hiB] at hj
   unfold bound at hj
   split at hj
   ·rename_i e;cases e
   ·rename_i k i' e;cases hj
    simp only [Option.some.injEq] at e
    exact .inr ⟨y,k,rfl,(aM h e).1⟩
   ·cases hj
 unfold rN at hr
 split at hr
 ·rename_i z n g l i j hx hi1 hj1
  obtain ⟨⟨h3,rfl,rfl⟩,hr2⟩:=aR hr
  cases hr2
  obtain ⟨hu,hel⟩:=dh hE hU h3
  have hT:=hE.t _ hel
  rw [hx] at hj1
  have hrd:=aM h hx
  refine Ay hop hu (hT.ty ro0) (jE hrd) (hlo _ hi1) (hhi _ _ hj1) hc fun u hu' hhd=>br ?_
  exact Bs hrd hu' hhd
 ·rename_i s i j hx hi1 hj1
  obtain ⟨h2,hr2⟩:=aR hr
  cases hr2
  have hu:=hP hE hU h2
  have hru:(underlying U).run E.P c.w= .ok .string c.w:=by simp [underlying,hu]
  obtain ⟨e1,hl⟩:=aM h hx
  rw [hx] at hj1
  have hlo':=hlo _ hi1
  have hhi':=hhi _ _ hj1
  simp only [jL] at hhi'
  obtain ⟨c1,c2,c3⟩:=hc
  have hsz:(⟨s.toArray⟩:ByteArray).size=s.length:=rfl
  have hext:(⟨s.toArray⟩:ByteArray).extract i.toNat j.toNat=⟨((s.drop i.toNat).take (j.toNat - i.toNat)).toArray⟩:=by
   apply ByteArray.ext
   simp [ByteArray.data_extract,List.extract_eq_take_drop]
  have h0:(0:Int)≤(s.length:Int):=by omega
  have c4:(0:Int)≤j:=by omega
  refine yv (v:= .string ⟨((s.drop i.toNat).take (j.toNat - i.toNat)).toArray⟩) (w':=c.w) ?_ (br ⟨rfl,by simp only [List.length_take,List.length_drop];omega⟩)
  rw [←hext]
  have hj':(j.toNat:Int)=j:=by omega
  rcases hlo' with ⟨rfl,rfl⟩|⟨y,k,rfl,ey⟩<;>rcases hhi' with ⟨rfl,rfl⟩|⟨y2,k2,rfl,ey2⟩
  ·have hfull:(⟨s.toArray⟩:ByteArray).extract 0 s.length=⟨s.toArray⟩:=by apply ByteArray.ext;simp
   simp [run,execOp,hop,Instr.sliceAt,e1,Instr.slice,hru,Instr.sliceBounds,hsz,hfull]
  ·simp [run,execOp,hop,Instr.sliceAt,e1,ey2,Instr.slice,hru,Instr.sliceBounds,Instr.sliceBound,asIntOf,hsz,c3,c4]
  ·simp [run,execOp,hop,Instr.sliceAt,e1,ey,Instr.slice,hru,Instr.sliceBounds,Instr.sliceBound,asIntOf,hsz,c1,c2]
  ·simp [run,execOp,hop,Instr.sliceAt,e1,ey,ey2,Instr.slice,hru,Instr.sliceBounds,Instr.sliceBound,asIntOf,hsz,c1,c2,c3,c4,hj']
 ·rename_i id i j hx hi1 hj1
  obtain ⟨h3,hr2⟩:=aR hr
  obtain ⟨hu,hel⟩:=dh hE hU h3
  have hT:=hE.t _ hel
  have hp:=aM h hx
  simp only [rd] at hp
  rw [hx] at hj1
  unfold vV at hr2
  split at hr2
  ·rename_i E' n g z l hH
   obtain ⟨⟨rfl,rfl⟩,hr3⟩:=aR hr2
   cases hr3
   obtain ⟨v',e1,hown,_,hone,a,cap,es,_⟩:=h.heap _ _ hH
   rw [hp.1] at e1;cases e1
   simp only [jL,hH,rO] at hj1
   have hcap:l.length≤cap:=by
    rcases hown.2 with ⟨a4,e4,rfl⟩|⟨g4,cp4,cur4,e4,_,_,k3,_⟩
    ·simp
    ·rw [es] at e4;cases e4;exact k3
   have hsz: ∀w,(sizeOf (E.tb U).el).run E.P w= .ok (E.tb (E.tb U).el).n w:=fun w=>by
    have:=(hT.ty ro0).size w
    rwa [cg hT.one] at this
   refine AE hop hu hsz es (hlo _ hi1) (hhi _ _ hj1) hc hcap (br ?_)
   simp only [rd]
   exact ⟨_,hp.1,.inl ⟨a,_,cap,es,by omega,by omega,rfl⟩⟩
  ·rename_i n g z l hH
   obtain ⟨⟨rfl,rfl⟩,hr3⟩:=aR hr2
   cases hr3
   obtain ⟨v',e1,hsl⟩:=h.heap _ _ hH
   rw [hp.1] at e1;cases e1
   simp only [jL,hH,rO] at hj1
   refine Ay hop hu (hT.ty ro0) (jE hsl) (hlo _ hi1) (hhi _ _ hj1) hc fun u hu' hhd=>br ?_
   exact Bs hsl hu' hhd
  ·cases hr2
 ·rename_i id off i j hx hi1 hj1
  obtain ⟨h4,hr2⟩:=aR hr
  obtain ⟨hu,hel⟩:=iT hE hU h4
  have hT:=hE.t _ hel
  have hp:=aM h hx
  simp only [rd] at hp
  obtain ⟨b,hb,he⟩:=hp
  rw [hx] at hj1
  simp only [jL] at hj1
  unfold vY at hr2
  split at hr2
  ·rename_i n l hH
   unfold lf at hr2
   obtain ⟨⟨g1,g2,g3,g4⟩,hr3⟩:=aR hr2
   cases hr3
   obtain ⟨b',e1,b2,o2,cs,e2,k1,k2,k3,k4,k5⟩:=h.heap _ _ hH
   rw [hb] at e1;cases e1;cases e2
   have hsz: ∀w,(sizeOf (E.tb U).el).run E.P w= .ok 1 w:=fun w=>by
    have:=(hT.ty ro0).size w
    rwa [cg hT.one,g1] at this
   obtain ⟨cs',e3,k6⟩:=(show rd ro0 c (.agg l) (mkV true cs) from k5)
   have e4:cs=cs':=by simpa [mkV] using e3
   subst e4
   refine (wB (c:=c) (ρ':=ρ) (o':=0) hop hu hsz (by simpa using he) (hlo _ hi1) (hhi _ _ hj1) hc g4 k1 k2 k3 k6 g3).mono ?_
   rintro u w' ⟨rfl,hu'⟩
   exact br hu'
  ·rename_i n l hH
   unfold vW at hr2
   split at hr2
   ·rename_i c9 v9 e9 hs
    cases hr2
    unfold lf at hs
    obtain ⟨⟨g1,g2,g3,g4⟩,hr3⟩:=aR hs
    cases hr3
    obtain ⟨hc,hpu⟩:=hc
    obtain ⟨b',e1,hge,hX,T,cs,hh,hi⟩:=h.heap _ _ hH
    rw [hb] at e1;cases e1
    have hsz: ∀w,(sizeOf (E.tb U).el).run E.P w= .ok 1 w:=fun w=>by
     have:=(hT.ty ro0).size w
     rwa [cg hT.one,g1] at this
    obtain ⟨cs',e3,k6⟩:=(show rd ρ c (.agg l) (mkV true cs.toList) from hi.2)
    have e4:cs.toList=cs':=by
     have e5:cs=cs'.toArray:=by simpa [mkV] using e3
     rw [e5]
    subst e4
    have hbv:blk (.slice (some ⟨b,0,none⟩) 0 1)=some b:=rfl
    have hpd:=c.pub_dropv (.slice (some ⟨b,0,none⟩) 0 1)
    have k1:b<(c.dropv (.slice (some ⟨b,0,none⟩) 0 1)).w.heap.size:=c.ok b hX
    have k2:b∉(c.dropv (.slice (some ⟨b,0,none⟩) 0 1)).X:=by simp [Cx.dropv,List.mem_filter,hbv]
    have k3:cY (c.dropv (.slice (some ⟨b,0,none⟩) 0 1)).w b 0 cs.toList:=by
     intro j u hj
     simp only [Cx.dropv,World.cell?,hh]
     simpa using hj
    have k7:=vr hpd (rX (ρ':=ro0) hpu k6)
    refine (wB (c:=c.dropv (.slice (some ⟨b,0,none⟩) 0 1)) (ρ':=ρ) (o':=0) hop hu hsz (by simpa using he) (hlo _ hi1) (hhi _ _ hj1) hc g4 k1 k2 k3 k7 g3).mono ?_
    rintro u w' ⟨rfl,hu'⟩
    exact ⟨_,ρ,rfl,⟨_,_,_,hH,rfl⟩,⟨rfl,⟨b,hb,b,0,cs.toList,rfl,k1,k2,k3,hi.1,⟨_,rfl,k7⟩⟩,b,hb,rfl⟩,hu'⟩
   ·cases hr2
  ·cases hr2
 ·rename_i n l i j hx hi1 hj1
  obtain ⟨h4,hr2⟩:=aR hr
  obtain ⟨hu,hel⟩:=iT hE hU h4
  have hT:=hE.t _ hel
  have hp:=aM h hx
  simp only [rd] at hp
  obtain ⟨b,o2,cs,e2,k1,k2,k3,k4,k5⟩:=hp
  rw [hx] at hj1
  simp only [jL] at hj1
  unfold lf at hr2
  obtain ⟨⟨g1,g2,g3,g4⟩,hr3⟩:=aR hr2
  cases hr3
  have hsz: ∀w,(sizeOf (E.tb U).el).run E.P w= .ok 1 w:=fun w=>by
   have:=(hT.ty ro0).size w
   rwa [cg hT.one,g1] at this
  obtain ⟨cs',e3,k6⟩:=(show rd ro0 c (.agg l) (mkV true cs) from k5)
  have e4:cs=cs':=by simpa [mkV] using e3
  subst e4
  refine (wB (ρ':=ρ) (off:=0) (o':=o2) hop hu hsz (by simpa using e2) (hlo _ hi1) (hhi _ _ hj1) hc g4 k1 k2 k3 k6 g3).mono ?_
  rintro u w' ⟨rfl,hu'⟩
  exact br hu'
 ·cases hr
theorem wC (h:Sim E c0 c ρ S F): ∀{l:List Operand} {vs:List V},evL (S.ev E.gv) l=some vs→rdT ρ c vs (l.map (ev F))
 | [],vs,e=>by simp only [evL,Option.some.injEq] at e;subst e;rfl
 | x::l,vs,e=>by
  unfold evL at e
  cases hx:S.ev E.gv x with
  | none=>rw [hx] at e;cases e
  | some v=>
   cases hl:evL (S.ev E.gv) l with
   | none=>rw [hx,hl] at e;cases e
   | some us=>
    rw [hx,hl] at e
    simp only [evL.consO,Option.some.injEq] at e
    subst e
    exact ⟨_,_,rfl,aM h hx,wC h hl⟩
theorem Hl (h:Sim E c0 c ρ S F) {o:Oper} {fn:Fn} {first cs:Array Operand} (hop:o.op= .makeFunc fn first cs) {cnd:Prop} {v:V} {e:Eff}
  (hr:rP fn first.toList (evL (S.ev E.gv) first.toList) (evL (S.ev E.gv) cs.toList)=some (cnd,v,e)) (hc:cnd):aE E.P (bp c0 c ρ S nid v e) (run E.P F o c.w):=by
 unfold rP at hr
 split at hr
 ·rename_i f l hf hl
  cases hr
  obtain ⟨first⟩:=first
  obtain ⟨cs⟩:=cs
  simp only at hf hl
  subst hf
  exact Gk hop rfl (br ⟨_,rfl,wC h hl⟩)
 ·rename_i f x l vs hf h1 h2
  cases hr
  obtain ⟨first⟩:=first
  obtain ⟨cs⟩:=cs
  simp only at hf h1 h2
  have hcs:cs=[]:=by
   cases cs with
   | nil=>rfl
   | cons y m=>simp only [evL] at h2;unfold evL.consO at h2;split at h2<;>simp at h2
  subst hcs
  refine yv (v:= .func (.func f) (first.map (ev F)).toArray #[]) (w':=c.w) (by simp [run,execOp,hop,Instr.makeFunc]) (br ?_)
  simp only [rd]
  refine ⟨⟨first.map (ev F),rfl,lr hc (wC h h1)⟩,rfl,?_⟩
  intro c1 c2 v hv k
  obtain ⟨cs,e,hr⟩:=hv
  exact ⟨cs,e,eZ k hr⟩
 ·cases hr
theorem wD (hE:a8 E) (h:Sim E c0 c ρ S F) (hf:ρ nid=none) {o:Oper} {cnd:Prop} {v:V} {e:Eff} (hr:opF E S nid o.type o.op=some (cnd,v,e)) (hc:cnd):aE E.P (bp c0 c ρ S nid v e) (run E.P F o c.w):=by
 have hbind: ∀{x:Option V},rK x=some (cnd,v,e)→x=some v∧e= .none:=by
  intro x hx
  cases x with
  | none=>cases hx
  | some d=>cases hx;exact ⟨rfl,rfl⟩
 generalize hop:o.op=op at hr
 unfold opF at hr
 split at hr
 ·obtain ⟨h1,rfl⟩:=hbind hr
  exact Ac hop (br (eQ h h1))
 ·obtain ⟨h1,rfl⟩:=hbind hr
  exact Ad hop (br (eQ h h1))
 ·exact GR h hop hr
 ·obtain ⟨h1,h2⟩:=dA hr;exact GD hE h hop h1 h2 hc
 ·obtain ⟨h1,h2⟩:=dA hr;exact GE hE h hop h1 h2 hc
 ·obtain ⟨h1,h2⟩:=dA hr;exact GF hE h hop h1 h2
 ·obtain ⟨h1,h2⟩:=dA hr;exact GG hE h hop h1 h2 hc
 ·obtain ⟨h1,h2⟩:=dA hr;exact GI hE h hop h1 h2 hc
 ·obtain ⟨h1,h2⟩:=dA hr;exact GJ hE h hop h1 h2 hc
 ·obtain ⟨h1,h2⟩:=dA hr;exact G6 hE h hf hop h1 h2
 ·obtain ⟨h1,h2⟩:=dA hr;exact G7 hE h hf hop h1 h2 hc
 ·obtain ⟨h1,h2⟩:=dA hr;exact G9 hE h hop h1 h2 hc
 ·obtain ⟨h1,h2⟩:=dA hr;exact Ha hE h hf hop h1 h2 hc
 ·obtain ⟨h1,h2⟩:=dA hr;exact Hb hE h hf hop h1 h2 hc
 ·obtain ⟨h1,h2⟩:=dA hr
  rename_i bop U x y W
  unfold vK at h2
  split at h2
  ·rename_i k a k' b hx hy
   have e1:=aM h hx
   have e2:=aM h hy
   exact GK hE h hop e1.1 e2.1 e1.2 e2.2 h2 hc
  ·rename_i a b hx hy
   exact GL hE hop h1 (aM h hx) (aM h hy) h2
  ·rename_i a b hx hy
   exact GN hop (aM h hx).1 (aM h hy).1 h2 hc
  ·rename_i a b hx hy
   obtain ⟨⟨h3,h5⟩,h4⟩:=aR h2
   exact GZ hE h hop h1 h3 h5 (aM h hx) (aM h hy) h4
  ·rename_i z n g l hx hy
   obtain ⟨h3,h4⟩:=aR h2
   have hn:=aM h hy
   obtain ⟨a,cap,he,hl,hz,_⟩:=dl.1 hn
   obtain ⟨rfl,rfl⟩:=hz
   exact GO hE hop h1 h3 (aM h hx) he h4
  ·rename_i b hx hy
   obtain ⟨⟨h3,h5⟩,h4⟩:=aR h2
   have hn:iP true (ev F y):=aM h hy
   exact GP hE hop h1 h5 h3 (aM h hx) (by simpa [iP] using hn) h4
  ·cases h2
 ·exact GQ h hop hr
 ·obtain ⟨h1,h2⟩:=dA hr
  simp only [Bool.and_eq_true] at h1
  split at h2
  ·rename_i e9
   subst e9
   unfold vO at h2
   split at h2
   ·rename_i i9 hx9
    exact Hi hE h hop h1.1 hx9 h2 hc
   ·exact Bp hE h hf hop h1.1 h1.2 h2 hc
  ·exact Bp hE h hf hop h1.1 h1.2 h2 hc
 ·obtain ⟨h1,h2⟩:=dA hr;exact Hj hE h hop h1 h2 hc
 ·exact GX h hop hr
 ·exact GY h hop hr
 ·obtain ⟨h1,h2⟩:=dA hr;exact Hk hE h hop h1 h2 hc
 ·rename_i cl
  obtain ⟨callee,args,ats⟩:=cl
  obtain ⟨args⟩:=args
  obtain ⟨ats⟩:=ats
  simp only at hr
  unfold wa at hr
  split at hr
  ·obtain ⟨h1,h2⟩:=dA hr;exact GS hE h hop h1 h2
  ·exact GV h hop hr
  ·exact GW h hop hr
  ·exact GT h hop hr
  ·exact GU h hop hr
  ·obtain ⟨⟨rfl,h1⟩,h2⟩:=aR hr
   exact Hf hE h hop h1 h2 hc
  ·obtain ⟨⟨rfl,h1⟩,h2⟩:=aR hr
   exact Hc hE h hf hop h1 h2 hc
  ·cases hr
 ·exact Hl h hop hr hc
 ·obtain ⟨h1,h2⟩:=dA hr;exact G3 hE h hf hop h1 h2
 ·obtain ⟨h1,h2⟩:=dA hr;exact G4 hE h hop h1 h2 hc
 ·obtain ⟨h1,h2⟩:=dA hr;exact G5 hE h hop h1 h2 hc
 ·cases hr
theorem Hm (hE:a8 E) (h:Sim E c0 c ρ S F) {o:Oper} {U:TypeId} {x:Operand} (hop:o.op= .slice U x none none none) {cnd:Prop} {v:V} {e:Eff}
  (hr:rT E.tb S.H U (S.ev E.gv x)=some (cnd,v,e)):aE E.P (bp c0 c ρ S nid v e) (run E.P F o c.w):=by
 unfold rT at hr
 split at hr
 ·rename_i id hx
  unfold wd at hr
  split at hr
  ·rename_i n l hH
   obtain ⟨⟨g0,g1,g2,g3,g4,g5,g6⟩,hr2⟩:=aR hr
   cases hr2
   obtain ⟨hu,hel⟩:=iT hE g0 g1
   have hT:=hE.t _ hel
   have hp:=aM h hx
   simp only [rd] at hp
   obtain ⟨b,hb,he⟩:=hp
   have hsz: ∀w,(sizeOf (E.tb U).el).run E.P w= .ok 1 w:=fun w=>by
    have:=(hT.ty ro0).size w
    rwa [cg hT.one,g2] at this
   have hru:(underlying U).run E.P c.w= .ok (.array (E.tb U).len (E.tb U).el) c.w:=by simp [underlying,hu]
   have hne: ¬(E.tb U).len=0:=by omega
   refine yv (v:= .slice (some ⟨b,0,none⟩) (E.tb U).len (E.tb U).len) (w':=c.w) ?_ (br ?_)
   ·simp [run,execOp,hop,Instr.sliceAt,he,hru,Instr.sureAddr,Instr.sliceBounds,hsz,Addr.add]
   ·simp only [rd]
    exact ⟨_,hb,.inr ⟨b,rfl,rfl,rfl,rfl⟩⟩
  ·cases hr
 ·cases hr
theorem Hn (hE:a8 E) (h:Sim E c0 c ρ S F) (hf:ρ nid=none) {o:Oper} {cnd:Prop} {v:V} {e:Eff} (hr:opH E S nid o.type o.op=some (cnd,v,e)) (hc:cnd):aE E.P (bp c0 c ρ S nid v e) (run E.P F o c.w):=by
 unfold opH at hr
 split at hr
 ·rename_i U x hi
  have hop:o.op= .slice U x none none none:=by
   unfold we at hi
   split at hi
   ·rename_i hop;cases hi;exact hop
   ·cases hi
  unfold wg at hr
  split at hr
  ·rename_i r hr2
   cases hr
   exact Hm hE h hop hr2
  ·exact wD hE h hf hr hc
 ·exact wD hE h hf hr hc
end
end Go.Proofs.YteibkofekpejgaaGreatDoor
namespace Go.Proofs.YteibkofekpejgaaGreatDoor
open Go.RowKit
def aT (E:Env) (c0 c:Cx) (ρ:Ro) (S:St) (F:Fm):Prop:=Sim E c0 c ρ S F∧wi ρ S.nx
def Ho (b:Blk):Prop:=(∃T n g z l,b= .own T n g z l)∨ ∃g k n l,b= .kset g k n l
def HOk (c c':Cx) (ρ:Ro) (H:List Blk):Prop:=
 (∀i b,H[i]? =some b→Ho b∧blkOk c c' ρ i b)∧(∀i,H.length≤i→ρ i=none)∧
  ∀i j bi bj k,i≠j→H[i]? =some bi→H[j]? =some bj→ak ρ i=some k→ak ρ j≠some k
def wE (E:Env) (c:Cx) (r:V) (H:List Blk):Ending→World→Prop:=fun e w'=> ∃v c' ρ,e= .returned v∧c'.w=w'∧c.le c'∧rd ρ c' r v∧HOk c c' ρ H
def aW (E:Env) (f:FuncId) (ws:List V) (r:V) (H:List Blk):Prop:=
 (∀aas w,(callFunc f aas).run E.P w= .ok (.enter f aas) w)∧ ∀(c:Cx) (us:List Value),c.Y=[]→Gl E c→rdT ro0 c ws us→Calls E.P f us.toArray c.w (wE E c r H)
def oW (E:Env) (p:Cx→Value→Prop) (ws:List V) (r:V):Prop:=
 ∀(c:Cx) (u:Value) (us:List Value),c.Y=[]→Gl E c→p c u→rdT ro0 c ws us→ ∃f fs cap,u= .func (.func f) (List.toArray fs) (List.toArray cap)∧(∀aas w,(callFunc f aas).run E.P w= .ok (.enter f aas) w)∧Calls E.P f (fs++us++cap).toArray c.w (wE E c r [])
mutual
def shift (n:Nat):V→V
 | .own i=> .own (n+i)
 | .ptr i o=> .ptr (n+i) o
 | .optr i m k o=> .optr (n+i) m k o
 | .osub i m k o=> .osub (n+i) m k o
 | .agg l=> .agg (iU n l)
 | .tup l=> .tup (iU n l)
 | .fn f l=> .fn f (iU n l)
 | v=>v
def iU (n:Nat):List V→List V
 | []=> []
 | d::l=>shift n d::iU n l
end
def gA (n:Nat):Nat→List Blk→List (Nat×Blk)
 | _,[]=> []
 | i,b::l=>(n+i,b)::gA n (i+1) l
def St.after (S:St) (d:Option Nat) (r:V) (H:List Blk):St:=St.put {S with H:=gA S.nx 0 H++S.H,nx:=S.nx+H.length} d (shift S.nx r)
mutual
def dj:V→Prop
 | .int _ _=>True
 | .bool _=>True
 | .str _=>True
 | .agg l=>fO l
 | .tup l=>fO l
 | _=>False
def fO:List V→Prop
 | []=>True
 | d::l=>dj d∧fO l
end
def Cx.base (c0 c:Cx) (h:c0.w.heap.size≤c.w.heap.size):Cx:={X:=c0.X.filter (fun k=>k∉c0.Y),w:=c.w,ok:=fun k hk=>Nat.lt_of_lt_of_le (c0.ok k (List.mem_filter.1 hk).1) h}
theorem oX {c0 c:Cx} {h:c0.w.heap.size≤c.w.heap.size} {k:Nat}:k∈(c0.base c h).X↔k∈c0.X∧k∉c0.Y:=by simp [Cx.base]
def oY (E:Env) (S:St) (vs:List V) (S1:St) (ws:List V):Prop:=
 ∀c0 c ρ F us,aT E c0 c ρ S F→rdT ρ c vs us→ ∃c1 ρ1,c1.w=c.w∧c.pub c1∧aT E c0 c1 ρ1 S1 F∧rdT ro0 c1 ws us
def mW (E:Env) (S:St) (vs:List V) (ws:List V):Prop:=
 ∀c0 c ρ F us (h:Sim E c0 c ρ S F),rdT ρ c vs us→rdT ro0 (c0.base c h.since.size) ws us
def wF (E:Env) (C:List V→V→List Blk→Prop) (vs:List V) (S:St) (d:Option Nat) (K:St→Prop):Prop:=
 ∃ws r H,C ws r H∧((∃S1,oY E S vs S1 ws∧(wfV r→K (S1.after d r H)))∨(dj r∧H=[]∧mW E S vs ws∧(wfV r→K (S.put d r))))
def evs (E:Env) (S:St):List Operand→List TypeId→Option (List V)
 | [],_=>some []
 | x::l,Ts=>match S.evT E (Ts.headD 0) x,evs E S l Ts.tail with
  | some v,some vs=>some (v::vs)
  | _,_=>none
def Hp (E:Env) (f:FuncId) (vs:List V) (S:St) (d:Option Nat) (K:St→Prop):Prop:=
 (∀aas w,(callFunc f aas).run E.P w= .ok (.enter f aas) w)∧ ∃S' r,(∀c0 c ρ F us,aT E c0 c ρ S F→rdT ρ c vs us→Calls E.P f us.toArray c.w fun e w'=> ∃v c' ρ',e= .returned v∧c'.w=w'∧aT E c0 c' ρ' S' (bK F d v)∧wfV r)∧(wfV r→K S')
def wG (E:Env) (S:St) (d:Option Nat) (K:St→Prop):Option V→Option (List V)→Prop
 | some (.fn f caps),some vs=>wF E (aW E f) (vs++caps) S d K∨Hp E f (vs++caps) S d K
 | some (.opq p),some vs=>wF E (fun ws r H=>oW E p ws r∧H=[]) vs S d K
 | _,_=>False
def ia:Op→Option (Operand×List Operand×List TypeId)
 | .call c=>match c.callee with
  | .value x=>some (x,c.args.toList,c.argTypes.toList)
  | _=>none
 | _=>none
def r9 (S:St) (nid:Nat) (d:Option Nat) (K:St→Prop):Res→Prop
 | some (c,v,e)=>c∧(c→K ((S.eff nid e).put d v))
 | none=>False
def wH (E:Env) (S:St) (o:Oper) (K:St→Prop):Prop:=
 match ia o.op with
 | some (x,l,Ts)=>wG E S o.dst K (S.ev E.gv x) (evs E S l Ts)
 | none=>r9 S S.nx o.dst K (opF E S S.nx o.type o.op)
def fP (b w:Bool) (A B:Prop):Prop:=(b=w→A)∧(b=(!w)→B)
def ez (v:Option V) (want:Bool) (A B:Prop):Prop:=match v with
 | some (.bool b)=>fP b want A B
 | some (.tup [])=>B
 | _=>False
def wI (S:St) (ds:List (Nat×Nat)) (o:Oper) (A B:Prop):Prop:=
 match o.guard with
 | none=>A
 | some (j,want)=>match ab ds j with
  | some t=>ez (ab S.F t) want A B
  | none=>False
def iV (i:Nat) (d:Option Nat) (ds:List (Nat×Nat)):List (Nat×Nat):=
 match d with
 | some t=>(i,t)::ds
 | none=>ds
def eB (E:Env):Nat→List (Nat×Nat)→List Oper→(St→Prop)→St→Prop
 | _,_,[],K,S=>K S
 | i,ds,o::l,K,S=>wI S ds o (wH E S o (eB E (i+1) (iV i o.dst ds) l K)) (eB E (i+1) (iV i o.dst ds) l K (S.put o.dst (.tup [])))
section
variable {E:Env} {c0 c:Cx} {ρ:Ro} {S:St} {F:Fm} {nid:Nat}
theorem Hq {e:Eff} {ρ':Ro} (hf:wi ρ S.nx) (h: ∀i,S.nx≠i→ρ i=none→ρ' i=none) (hr:e= .none∨(∃id b,e= .upd id b)∨(∃id b,e= .app id b)∨(∃id b,e= .giv id b)∨(∃id b,e= .mrk id b)→ρ' S.nx=none):wi ρ' (S.eff S.nx e).nx:=by
 intro i hi
 cases e with
 | new b=>simp only [St.eff] at hi;exact h i (by omega) (hf i (by omega))
 | none=>
  simp only [St.eff] at hi
  by_cases e:S.nx=i
  ·subst e;exact hr (.inl rfl)
  ·exact h i e (hf i hi)
 | upd id b=>
  simp only [St.eff] at hi
  by_cases e:S.nx=i
  ·subst e;exact hr (.inr (.inl ⟨_,_,rfl⟩))
  ·exact h i e (hf i hi)
 | app id b=>
  simp only [St.eff] at hi
  by_cases e:S.nx=i
  ·subst e;exact hr (.inr (.inr (.inl ⟨_,_,rfl⟩)))
  ·exact h i e (hf i hi)
 | giv id b=>
  simp only [St.eff] at hi
  by_cases e:S.nx=i
  ·subst e;exact hr (.inr (.inr (.inr (.inl ⟨_,_,rfl⟩))))
  ·exact h i e (hf i hi)
 | mrk id b=>
  simp only [St.eff] at hi
  by_cases e:S.nx=i
  ·subst e;exact hr (.inr (.inr (.inr (.inr ⟨_,_,rfl⟩))))
  ·exact h i e (hf i hi)
theorem Bt (h:aT E c0 c ρ S F) {e:Eff} {c':Cx} {ρ':Ro} (hp:wk S e) (hr:wj c0 c ρ S.nx c' ρ' e):aT E c0 c' ρ' (S.eff S.nx e) F:=by
 obtain ⟨h1,h2,h3⟩:=Gy h.1 (h.2 _ (Nat.le_refl _)) hp hr
 refine ⟨h1,Hq h.2 h3 ?_⟩
 rintro (rfl|⟨id,b,rfl⟩|⟨id,b,rfl⟩|⟨id,b,rfl⟩|⟨id,b,rfl⟩)
 ·rw [hr.2];exact h.2 _ (Nat.le_refl _)
 ·rw [hr.2.1];exact h.2 _ (Nat.le_refl _)
 rotate_left
 ·rw [hr.1];exact h.2 _ (Nat.le_refl _)
 ·rw [hr.1];exact h.2 _ (Nat.le_refl _)
 ·obtain ⟨b0,hb0,hp0,_⟩:=hp
  have hid:S.nx≠id:=by
   rintro rfl
   have h5:=h.1.heap _ _ hb0
   have h6:=h.2 _ (Nat.le_refl S.nx)
   cases b0 with
   | var n g d=>obtain ⟨b,h5,_⟩:=h5;rw [h6] at h5;cases h5
   | own E n g z l=>obtain ⟨b,h5,_⟩:=h5;rw [h6] at h5;cases h5
   | ownI E n g z l=>obtain ⟨b,h5,_⟩:=h5;rw [h6] at h5;cases h5
   | pvar n g d=>cases hp0
   | pown n g z l=>cases hp0
   | lent k' n g d=>obtain ⟨h5,_⟩:=h5;rw [h6] at h5;cases h5
   | kset g k' n l=>obtain ⟨b,h5,_⟩:=h5;rw [h6] at h5;cases h5
  rw [hr.2.1 _ hid];exact h.2 _ (Nat.le_refl _)
theorem iW (h:aT E c0 c ρ S F) {d:Option Nat} {v:V} {u:Value} (hv:rd ρ c v u):aT E c0 c ρ (S.put d v) (bK F d u):=by
 refine ⟨Gz h.1 hv,?_⟩
 cases d<;>exact h.2
mutual
theorem wJ {ρ':Ro} {n:Nat} (k: ∀i v,ρ i=some v→ρ' (n+i)=some v): ∀{d:V} {v:Value},rd ρ c d v→rd ρ' c (shift n d) v
 | .int _ _,_,h=>h
 | .bool _,_,h=>h
 | .ifc _,_,h=>h
 | .str _,_,h=>h
 | .agg l,v,h=>by
  simp only [rd,shift] at h⊢
  obtain ⟨cs,e,h⟩:=h
  exact ⟨cs,e,Bu k h⟩
 | .sl z n g l,v,h=>h
 | .pp n g d,v,h=>h
 | .own _,_,h=>⟨k _ _ h.1,h.2⟩
 | .ptr _ _,_,h=>by
  simp only [rd,shift] at h⊢
  obtain ⟨b,h1,h2⟩:=h
  exact ⟨b,k _ _ h1,h2⟩
 | .optr _ _ _ _,_,h=>by
  simp only [rd,shift] at h⊢
  obtain ⟨u,h1,h2⟩:=h
  exact ⟨u,k _ _ h1,h2⟩
 | .osub _ _ _ _,_,h=>by
  simp only [rd,shift] at h⊢
  obtain ⟨u,h1,h2⟩:=h
  exact ⟨u,k _ _ h1,h2⟩
 | .tup l,v,h=>by
  simp only [rd,shift] at h⊢
  obtain ⟨cs,e,h⟩:=h
  exact ⟨cs,e,wK k h⟩
 | .fn f l,v,h=>by
  simp only [rd,shift] at h⊢
  obtain ⟨cs,e,h⟩:=h
  exact ⟨cs,e,wK k h⟩
 | .opq p,v,h=>h
 | .un,_,_=>trivial
theorem Bu {ρ':Ro} {n:Nat} (k: ∀i v,ρ i=some v→ρ' (n+i)=some v): ∀{l:List V} {cs:List Value},rdC ρ c l cs→rdC ρ' c (iU n l) cs
 | [],_,h=>h
 | d::l,cs,h=>by
  simp only [rdC,iU] at h⊢
  obtain ⟨u,c2,e,h1,h2,h3⟩:=h
  exact ⟨u,c2,e,h1,wJ k h2,Bu k h3⟩
theorem wK {ρ':Ro} {n:Nat} (k: ∀i v,ρ i=some v→ρ' (n+i)=some v): ∀{l:List V} {cs:List Value},rdT ρ c l cs→rdT ρ' c (iU n l) cs
 | [],_,h=>h
 | d::l,cs,h=>by
  simp only [rdT,iU] at h⊢
  obtain ⟨u,c2,e,h2,h3⟩:=h
  exact ⟨u,c2,e,wJ k h2,wK k h3⟩
end
mutual
theorem oZ {ρ':Ro} {c':Cx}: ∀{d:V} {v:Value},dj d→rd ρ c d v→rd ρ' c' d v
 | .int _ _,_,_,h=>h
 | .bool _,_,_,h=>h
 | .str _,_,_,h=>h
 | .agg l,v,hp,h=>by
  simp only [rd,dj] at h hp⊢
  obtain ⟨cs,e,h⟩:=h
  exact ⟨cs,e,Bv hp h⟩
 | .tup l,v,hp,h=>by
  simp only [rd,dj] at h hp⊢
  obtain ⟨cs,e,h⟩:=h
  exact ⟨cs,e,Bw hp h⟩
 | .sl _ _ _ _,_,hp,_=>by simp only [dj] at hp
 | .pp _ _ _,_,hp,_=>by simp only [dj] at hp
 | .own _,_,hp,_=>by simp only [dj] at hp
 | .ptr _ _,_,hp,_=>by simp only [dj] at hp
 | .optr _ _ _ _,_,hp,_=>by simp only [dj] at hp
 | .osub _ _ _ _,_,hp,_=>by simp only [dj] at hp
 | .fn _ _,_,hp,_=>by simp only [dj] at hp
 | .ifc _,_,hp,_=>by simp only [dj] at hp
 | .opq _,_,hp,_=>by simp only [dj] at hp
 | .un,_,hp,_=>by simp only [dj] at hp
theorem Bv {ρ':Ro} {c':Cx}: ∀{l:List V} {cs:List Value},fO l→rdC ρ c l cs→rdC ρ' c' l cs
 | [],_,_,h=>h
 | d::l,cs,hp,h=>by
  simp only [rdC,fO] at h hp⊢
  obtain ⟨u,c2,e,h1,h2,h3⟩:=h
  exact ⟨u,c2,e,h1,oZ hp.1 h2,Bv hp.2 h3⟩
theorem Bw {ρ':Ro} {c':Cx}: ∀{l:List V} {cs:List Value},fO l→rdT ρ c l cs→rdT ρ' c' l cs
 | [],_,_,h=>h
 | d::l,cs,hp,h=>by
  simp only [rdT,fO] at h hp⊢
  obtain ⟨u,c2,e,h2,h3⟩:=h
  exact ⟨u,c2,e,oZ hp.1 h2,Bw hp.2 h3⟩
end
theorem sa {n:Nat}: ∀{H:List Blk} {k i:Nat},ab (gA n k H) i=if n+k≤i then H[i - (n+k)]? else none
 | [],k,i=>by simp [gA,ab]
 | b::H,k,i=>by
  simp only [gA,ab,sa]
  by_cases h:n+k=i
  ·subst h;simp
  ·rw [if_neg h]
   by_cases h1:n+k≤i
   ·rw [if_pos h1,if_pos (by omega)]
    have:i - (n+k)=(i - (n+(k+1)))+1:=by omega
    rw [this,List.getElem?_cons_succ]
   ·rw [if_neg h1,if_neg (by omega)]
theorem mX {α:Type}: ∀{l m:List (Nat×α)} {i:Nat},ab (l++m) i=(match ab l i with|some x=>some x|none=>ab m i)
 | [],m,i=>rfl
 | (k,x)::l,m,i=>by
  simp only [List.cons_append,ab]
  split
  ·rfl
  ·exact mX
def fQ (n:Nat) (ρ ρ':Ro):Ro:=fun i=>if i<n then ρ i else ρ' (i - n)
theorem Hr (h:aT E c0 c ρ S F) {c':Cx} (hle:c.le c') {r:V} {v:Value} {ρr:Ro} {H:List Blk} (hr:rd ρr c' r v) (hH:HOk c.noY c' ρr H) (d:Option Nat):aT E c0 c' (fQ S.nx ρ ρr) (S.after d r H) (bK F d v):=by
 have hro:gy ρ (fQ S.nx ρ ρr):=by
  intro i x hi
  have:i<S.nx:=by
   rcases Nat.lt_or_ge i S.nx with h1|h1
   ·exact h1
   ·rw [h.2 i h1] at hi;cases hi
  simp [fQ,this,hi]
 have hj: ∀i,fQ S.nx ρ ρr (S.nx+i)=ρr i:=fun i=>by
  have: ¬S.nx+i<S.nx:=by omega
  simp only [fQ,if_neg this,Nat.add_sub_cancel_left]
 have hlt: ∀i,i<S.nx→fQ S.nx ρ ρr i=ρ i:=fun i hi=>by simp [fQ,hi]
 obtain ⟨hH1,hH2,hH3⟩:=hH
 have hold: ∀i b,ab S.H i=some b→aU b=true→i<S.nx:=by
  intro i b hb hp
  rcases Nat.lt_or_ge i S.nx with h1|h1
  ·exact h1
  ·exfalso
   have h5:=h.1.heap _ _ hb
   have h6:=h.2 i h1
   cases b with
   | var n g d=>obtain ⟨b,h5,_⟩:=h5;rw [h6] at h5;cases h5
   | own E n g z l=>obtain ⟨b,h5,_⟩:=h5;rw [h6] at h5;cases h5
   | ownI E n g z l=>obtain ⟨b,h5,_⟩:=h5;rw [h6] at h5;cases h5
   | pvar n g d=>cases hp
   | pown n g z l=>cases hp
   | lent k' n g d=>obtain ⟨h5,_⟩:=h5;rw [h6] at h5;cases h5
   | kset g k' n l=>obtain ⟨b,h5,_⟩:=h5;rw [h6] at h5;cases h5
 have hnew: ∀j b,H[j]? =some b→blkOk c0 c' (fQ S.nx ρ ρr) (S.nx+j) b∧ ∀k,ak (fQ S.nx ρ ρr) (S.nx+j)=some k→c.w.heap.size≤k:=by
  intro j b hb
  obtain ⟨⟨T,n,g,z,l,rfl⟩|⟨g,q,n,l,rfl⟩,hb9⟩:=hH1 j b hb
  ·obtain ⟨v',h1,h2,h3,h4,h5⟩:=hb9
   refine ⟨⟨v',(hj j).trans h1,h2,fun k hk=> .inl (Nat.le_trans h.1.since.size (Cx.noY_mine (h3 k hk))),h4,h5⟩,?_⟩
   intro k hk
   obtain ⟨a,cap,rfl,_⟩:=h5
   unfold ak at hk
   rw [hj j,h1] at hk
   exact Cx.noY_mine (h3 k hk)
  ·obtain ⟨r,h1,h2,h3⟩:=hb9
   refine ⟨⟨r,(hj j).trans h1,.inl (Nat.le_trans h.1.since.size (Cx.noY_mine h2)),h3⟩,?_⟩
   intro k hk
   simp only [ak,hj j,h1,blk,Option.some.injEq] at hk
   subst hk
   exact Cx.noY_mine h2
 have hput: ∀(S':St),aT E c0 c' (fQ S.nx ρ ρr) S' F→aT E c0 c' (fQ S.nx ρ ρr) (S'.put d (shift S.nx r)) (bK F d v):=
  fun S' hS=>iW hS (wJ (fun i x hi=>(hj i).trans hi) hr)
 refine hput _ ⟨⟨h.1.since.le hle,h.1.gl.mono hle.pub,fun t x ht=>cZ hro (bn hle.pub (h.1.slot t x ht)),?_,?_⟩,?_⟩
 ·intro i b hb
  simp only [mX,sa,Nat.add_zero] at hb
  by_cases h1:S.nx≤i
  ·rw [if_pos h1] at hb
   cases hq:H[i - S.nx]? with
   | some x=>
    rw [hq] at hb;cases hb
    have:=(hnew _ _ hq).1
    rwa [Nat.add_sub_cancel' h1] at this
   | none=>
    rw [hq] at hb
    exact ln hro (g9 hle.chg (fun _ _ _ hx=>by cases hx) (h.1.heap i b hb))
  ·rw [if_neg h1] at hb
   exact ln hro (g9 hle.chg (fun _ _ _ hx=>by cases hx) (h.1.heap i b hb))
 ·have key: ∀i b,ab (gA S.nx 0 H++S.H) i=some b→aU b=true→(∃j,i=S.nx+j∧H[j]? =some b)∨(i<S.nx∧ab S.H i=some b):=by
   intro i b hb hp
   simp only [mX,sa,Nat.add_zero] at hb
   by_cases h1:S.nx≤i
   ·rw [if_pos h1] at hb
    cases hq:H[i - S.nx]? with
    | some x=>rw [hq] at hb;cases hb;exact .inl ⟨i - S.nx,by omega,hq⟩
    | none=>rw [hq] at hb;have:=hold i b hb hp;omega
   ·rw [if_neg h1] at hb;exact .inr ⟨by omega,hb⟩
  intro i j bi bj k hij hbi hbj hpi hpj hk hk'
  rcases key i bi hbi hpi with ⟨i',rfl,hi'⟩|⟨hi',hbi'⟩<;>rcases key j bj hbj hpj with ⟨j',rfl,hj'⟩|⟨hj',hbj'⟩
  ·rw [cJ (ρ:=fun x=>ρr (x - S.nx)) (by simp [hj])] at hk hk'
   refine hH3 i' j' bi bj k (by omega) hi' hj' ?_ ?_
   ·simpa [ak] using hk
   ·simpa [ak] using hk'
  ·have h1:=(hnew _ _ hi').2 k hk
   rw [cJ (hlt j hj')] at hk'
   have:=eP hpj (h.1.heap j bj hbj') k hk'
   omega
  ·have h1:=(hnew _ _ hj').2 k hk'
   rw [cJ (hlt i hi')] at hk
   have:=eP hpi (h.1.heap i bi hbi') k hk
   omega
  ·rw [cJ (hlt i hi')] at hk
   rw [cJ (hlt j hj')] at hk'
   exact h.1.sep i j bi bj k hij hbi' hbj' hpi hpj hk hk'
 ·intro i hi
  simp only at hi
  have: ¬i<S.nx:=by omega
  simp only [fQ,this,if_false]
  exact hH2 _ (by omega)
theorem wL: ∀{l m:List V} {cs ds:List Value},rdT ρ c l cs→rdT ρ c m ds→rdT ρ c (l++m) (cs++ds)
 | [],m,cs,ds,h,h'=>by simp only [rdT] at h;subst h;simpa using h'
 | d::l,m,cs,ds,h,h'=>by
  simp only [rdT] at h
  obtain ⟨u,c2,e,h2,h3⟩:=h
  rw [e]
  simp only [List.cons_append,rdT]
  exact ⟨u,_,rfl,h2,wL h3 h'⟩
theorem sb (h:Sim E c0 c ρ S F): ∀{l:List Operand} {Ts:List TypeId} {vs:List V},evs E S l Ts=some vs→rdT ρ c vs (l.map (ev F))
 | [],_,_,he=>by simp only [evs,Option.some.injEq] at he;subst he;rfl
 | x::l,Ts,vs,he=>by
  simp only [evs] at he
  split at he
  ·rename_i v vs' h1 h2
   cases he
   simp only [List.map_cons,rdT]
   exact ⟨_,_,rfl,eQ h h1,sb h h2⟩
  ·cases he
theorem HOk.nil {c':Cx}:HOk c c' ro0 []:=⟨by simp,fun _ _=>rfl,by simp⟩
theorem gB (h:Sim E c0 c ρ S F):c.pub (c0.base c h.since.size):=⟨Nat.le_refl _,fun k hk hx=>⟨fun h'=>hx (h.since.X k (oX.1 h').1 (oX.1 h').2),fun _ h _=>h⟩⟩
theorem Bx {C:List V→V→List Blk→Prop} {f:FuncId} {aas:List Value} {us:List Value} {vs:List V} {d:Option Nat} {K:St→Prop} (h:aT E c0 c ρ S F)
  (hC: ∀ws r H,C ws r H→ ∀c2:Cx,c2.Y=[]→c2.w=c.w→c.pub c2→Gl E c2→rdT ro0 c2 ws us→Calls E.P f aas.toArray c2.w (wE E c2 r H)) (hus:rdT ρ c vs us) (hk:wF E C vs S d K):
  Calls E.P f aas.toArray c.w fun e w'=> ∃v,e= .returned v∧ ∃c' ρ' S',c'.w=w'∧aT E c0 c' ρ' S' (bK F d v)∧K S':=by
 obtain ⟨ws,r,H,hc,hk⟩:=hk
 rcases hk with ⟨S1,hg,hk⟩|⟨hfl,rfl,hl,hk⟩
 ·obtain ⟨c1,ρ1,hw,hpb,hS,hrd⟩:=hg c0 c ρ F us h hus
  have:=hC ws r H hc c1.noY rfl hw (hpb.trans (Cx.pub_noY c1)) (hS.1.gl.mono (Cx.pub_noY c1)) (eZ (Cx.pub_noY c1) hrd)
  rw [show c1.noY.w=c.w from hw] at this
  refine this.mono ?_
  rintro e w' ⟨v,c',ρr,rfl,rfl,hle,hr,hH⟩
  exact ⟨v,rfl,c',_,_,rfl,Hr hS ⟨hle.below,hle.old⟩ hr hH d,hk (iS hr)⟩
 ·have hrd:=hl c0 c ρ F us h.1 hus
  have hpb:=gB h.1
  have:=hC ws r [] hc (c0.base c h.1.since.size) rfl rfl hpb (h.1.gl.mono hpb) hrd
  refine (show Calls E.P f aas.toArray c.w _ from this).mono ?_
  rintro e w' ⟨v,c',ρr,rfl,rfl,hle,hr,hH⟩
  have hb:Below c.w.heap.size c.w c'.w:=hle.below
  have hle':c.le (c.at c'.w hb.size):=Cx.le_at hb
  refine ⟨v,rfl,c.at c'.w hb.size,ρ,S.put d r,rfl,?_,hk (iS hr)⟩
  have hS:aT E c0 (c.at c'.w hb.size) ρ S F:=by
   refine ⟨⟨h.1.since.le hle',h.1.gl.mono hle'.pub,fun t x ht=>bn hle'.pub (h.1.slot t x ht),?_,h.1.sep⟩,h.2⟩
   intro i b hb'
   exact g9 hle'.chg (fun _ _ _ hx=>by cases hx) (h.1.heap i b hb')
  exact iW hS (oZ hfl hr)
theorem mY {P:Program} {o:Oper} {cl:Call} {x:Operand} {f:FuncId} {cap:List Value} {w:World} (ho:o.op= .call cl) (hx:cl.callee= .value x) (hv:ev F x= .func (.func f) #[] cap.toArray)
  (hc: ∀aas w,(callFunc f aas).run P w= .ok (.enter f aas) w):run P F o w= .ok (.enter f (cl.args.toList.map (ev F)++cap).toArray) w:=by
 obtain ⟨callee,args,ats⟩:=cl
 obtain ⟨args⟩:=args
 simp only at hx
 subst hx
 simp only [run,execOp,ho,resolve,hv,Deferred.ofValue,invoke,Sem.run_bind,Sem.run_pure,Result.andThen_ok,List.map_toArray,hc]
 congr 2
 simp
theorem Ht {P:Program} {o:Oper} {cl:Call} {x:Operand} {f:FuncId} {fs cap:List Value} {w:World} (ho:o.op= .call cl) (hx:cl.callee= .value x) (hv:ev F x= .func (.func f) fs.toArray cap.toArray)
  (hc: ∀aas w,(callFunc f aas).run P w= .ok (.enter f aas) w):run P F o w= .ok (.enter f (fs++cl.args.toList.map (ev F)++cap).toArray) w:=by
 obtain ⟨callee,args,ats⟩:=cl
 obtain ⟨args⟩:=args
 simp only at hx
 subst hx
 simp only [run,execOp,ho,resolve,hv,Deferred.ofValue,invoke,Sem.run_bind,Sem.run_pure,Result.andThen_ok,List.map_toArray,hc]
 congr 2
 simp
def Hu (E:Env) (c0:Cx) (F:Fm) (d:Option Nat) (K:St→Prop) (v:Value) (w':World):Prop:= ∃c' ρ' S',c'.w=w'∧aT E c0 c' ρ' S' (bK F d v)∧K S'
theorem Bz (hE:a8 E) (h:aT E c0 c ρ S F) {o:Oper} {K:St→Prop} (hk:wH E S o K):aE E.P (Hu E c0 F o.dst K) (run E.P F o c.w):=by
 unfold wH at hk
 split at hk
 ·rename_i x l Ts hi
  have hop: ∃cl,o.op= .call cl∧cl.callee= .value x∧cl.args.toList=l:=by
   unfold ia at hi
   split at hi
   ·rename_i cl ho
    split at hi
    ·rename_i y hy
     simp only [Option.some.injEq,Prod.mk.injEq] at hi
     obtain ⟨rfl,h2,_⟩:=hi
     exact ⟨cl,ho,hy,h2⟩
    ·cases hi
   ·cases hi
  obtain ⟨cl,ho,hcl,rfl⟩:=hop
  unfold wG at hk
  split at hk
  ·rename_i f caps vs hx hvs
   have hf:=aM h.1 hx
   simp only [rd] at hf
   obtain ⟨cap,hf,hcap⟩:=hf
   have hus:=wL (sb h.1 hvs) hcap
   rcases hk with hk|⟨hent,S',r,hcalls,hk'⟩
   case inr=>
    rw [mY (F:=F) (w:=c.w) ho hcl hf hent]
    refine (hcalls c0 c ρ F _ h hus).mono ?_
    rintro e w' ⟨v,c',ρ',rfl,rfl,hS,hwf⟩
    exact ⟨v,rfl,c',ρ',S',rfl,hS,hk' hwf⟩
   obtain ⟨ws,r,H,hc,hk'⟩:=hk
   have hrun:=mY (F:=F) (w:=c.w) ho hcl hf hc.1
   rw [hrun]
   refine (Bx (C:=aW E f) h (fun ws r H hC c2 hY hw _ hg hr=>hC.2 c2 _ hY hg hr) hus ⟨ws,r,H,hc,hk'⟩).mono ?_
   rintro e w' ⟨v,rfl,h1⟩
   exact ⟨v,rfl,h1⟩
  ·rename_i p vs hx hvs
   have hf:=aM h.1 hx
   simp only [rd] at hf
   have hus:=sb h.1 hvs
   obtain ⟨hp,_,hgrow⟩:=hf
   obtain ⟨ws,r,H,⟨hfn,hH⟩,hk'⟩:=hk
   have hshape: ∃f fs cap,ev F x= .func (.func f) (List.toArray fs) (List.toArray cap)∧ ∀aas w,(callFunc f aas).run E.P w= .ok (.enter f aas) w:=by
    rcases hk' with ⟨S1,hg,_⟩|⟨_,_,hl,_⟩
    ·obtain ⟨c1,ρ1,hw,hpb,hS,hrd⟩:=hg c0 c ρ F _ h hus
     obtain ⟨f,fs,cap,e1,e2,_⟩:=hfn c1.noY _ _ rfl (hS.1.gl.mono (Cx.pub_noY c1)) (hgrow _ _ _ hp (hpb.trans (Cx.pub_noY c1))) (eZ (Cx.pub_noY c1) hrd)
     exact ⟨f,fs,cap,e1,e2⟩
    ·have hrd:=hl c0 c ρ F _ h.1 hus
     have hpb:=gB h.1
     obtain ⟨f,fs,cap,e1,e2,_⟩:=hfn _ _ _ rfl (h.1.gl.mono hpb) (hgrow _ _ _ hp hpb) hrd
     exact ⟨f,fs,cap,e1,e2⟩
   obtain ⟨f,fs,cap,e1,e2⟩:=hshape
   have hrun:=Ht (F:=F) (w:=c.w) ho hcl e1 e2
   rw [hrun]
   refine (Bx (C:=fun ws r H=>oW E p ws r∧H=[]) h (fun ws r H hC c2 hY hw hpb hg hr=> ?_) hus ⟨ws,r,H,⟨hfn,hH⟩,hk'⟩).mono ?_
   ·obtain ⟨hfn,rfl⟩:=hC
    obtain ⟨f',fs',cap',e3,_,hcalls⟩:=hfn c2 _ _ hY hg (hgrow _ _ _ hp hpb) hr
    rw [e1] at e3
    simp only [Value.func.injEq,Fn.func.injEq] at e3
    obtain ⟨rfl,e4,e6⟩:=e3
    have e5:cap=cap':=by simpa using e6
    have e7:fs=fs':=by simpa using e4
    subst e5 e7
    exact hcalls
   ·rintro e w' ⟨v,rfl,h1⟩
    exact ⟨v,rfl,h1⟩
  ·exact hk.elim
 ·unfold r9 at hk
  split at hk
  ·rename_i cnd v e hr
   obtain ⟨hc,hk⟩:=hk
   refine (wD hE h.1 (h.2 _ (Nat.le_refl _)) hr hc).mono ?_
   rintro u w' ⟨c',ρ',rfl,hp,hrel,hrd⟩
   exact ⟨c',ρ',_,rfl,iW (Bt h hp hrel) hrd,hk hc⟩
  ·exact hk.elim
def mZ (ops:Array Oper) (i:Nat) (ds:List (Nat×Nat)):Prop:= ∀j t,ab ds j=some t→j<i∧(ops[j]?).bind (·.dst)=some t
theorem BA {ops:Array Oper} {i:Nat} {ds:List (Nat×Nat)} {o:Oper} (h:mZ ops i ds) (ho:ops[i]? =some o):mZ ops (i+1) (iV i o.dst ds):=by
 intro j t hj
 cases hd:o.dst with
 | none=>
  rw [hd] at hj
  have:=h j t hj
  exact ⟨by omega,this.2⟩
 | some d=>
  rw [hd] at hj
  simp only [iV,ab] at hj
  split at hj
  ·rename_i e;subst e;cases hj
   exact ⟨by omega,by rw [ho];exact hd⟩
  ·have:=h j t hj
   exact ⟨by omega,this.2⟩
theorem BB (h:aT E c0 c ρ S F) {ops:Array Oper} {i:Nat} {ds:List (Nat×Nat)} {o:Oper} {A B:Prop} (hds:mZ ops i ds) (hk:wI S ds o A B):(dF ops F o=true∧A)∨(dF ops F o=false∧B):=by
 unfold wI at hk
 unfold dF
 cases hg:o.guard with
 | none=>rw [hg] at hk;exact .inl ⟨rfl,hk⟩
 | some p=>
  obtain ⟨j,want⟩:=p
  rw [hg] at hk
  simp only at hk
  cases hj:ab ds j with
  | none=>rw [hj] at hk;exact hk.elim
  | some t=>
   rw [hj] at hk
   simp only at hk
   unfold ez at hk
   split at hk
   ·rename_i b hb
    have hv:=h.1.slot _ _ hb
    simp only [rd] at hv
    simp only [(hds j t hj).2,hv]
    by_cases e:b=want
    ·exact .inl ⟨by simp [e],hk.1 e⟩
    ·exact .inr ⟨by simp [e],hk.2 (by cases b<;>cases want<;>simp_all)⟩
   ·rename_i hb
    have hv:=h.1.slot _ _ hb
    simp only [rd] at hv
    obtain ⟨cs,hv,_⟩:=hv
    simp only [(hds j t hj).2,hv]
    exact .inr ⟨by simp,hk⟩
   ·exact hk.elim
def wM [mo:Mo] (E:Env) (c0:Cx) (n:Nat) (K:St→Prop) (Q:Act→World→Prop):Prop:= ∀c ρ S F a,aT E c0 c ρ S F→Fr n F a→K S→Q a c.w
theorem o7 [mo:Mo] (hE:a8 E) {n:Nat} {ops:Array Oper} (hs:fv n ops=true) {K:St→Prop} {Q:Exit→Act→World→Prop} (hQ:wM E c0 n K (Q .normal)):
  ∀(l pre:List Oper) (ds:List (Nat×Nat)),ops.toList=pre++l→mZ ops pre.length ds→ ∀c ρ S F a,aT E c0 c ρ S F→Fr n F a→eB E pre.length ds l K S→
   cO E.P ops Q (List.range' pre.length l.length) a c.w
 | [],pre,ds,hl,hds,c,ρ,S,F,a,h,hf,hk=>by
  simp only [List.length_nil,List.range'_zero,cO,wpOpsIn]
  exact hQ c ρ S F a h hf hk
 | o::l,pre,ds,hl,hds,c,ρ,S,F,a,h,hf,hk=>by
  have ho:ops[pre.length]? =some o:=by
   rw [←Array.getElem?_toList,hl,List.getElem?_append_right (Nat.le_refl _)]
   simp
  have ih:=o7 hE hs hQ l (pre++[o]) (iV pre.length o.dst ds) (by rw [hl];simp) (by simpa using BA hds ho)
  simp only [List.length_append,List.length_cons,List.length_nil] at ih
  simp only [eB] at hk
  rw [List.length_cons,List.range'_succ]
  refine iL hs hf ho ?_
  rcases BB h hds hk with ⟨hg,hk⟩|⟨hg,hk⟩
  ·rw [if_pos hg]
   refine (Bz hE h hk).mono ?_
   rintro v w' ⟨c',ρ',S',rfl,hS,hk⟩ a' hf'
   exact ih c' ρ' S' _ a' hS hf' hk
  ·rw [if_neg (by simp [hg])]
   intro a' hf'
   exact ih c ρ _ _ a' (iW h (show rd ρ c (.tup []) undef from ⟨[],rfl,rfl⟩)) hf' hk
end
theorem lu {E:Env} {f:FuncId} {vs:List V} {r:V} (h:aW E f vs r []):oW E (dV f vs) [] r:=by
 rintro c u us hY hg ⟨cs,rfl,hr⟩ hus
 simp only [rdT] at hus
 subst hus
 exact ⟨f,cs,[],rfl,h.1,by simpa using h.2 c cs hY hg hr⟩
end Go.Proofs.YteibkofekpejgaaGreatDoor
namespace Go.Proofs.YteibkofekpejgaaGreatDoor
open Go.RowKit
structure bc where
  d:Option Nat
  v:V
  b:Option (Nat×Blk)
def bk:List Nat→Nat→Bool
  | [],_=>false
  | k::l,i=>if k=i then true else bk l i
def dW (ns:Nat→Bool):List (Nat×bc)→List (Nat×V)
  | []=> []
  | (j,r)::R=>match ns j,r.d with
    | true,some t=>(t,r.v)::dW ns R
    | _,_=>dW ns R
def c_ (ns:Nat→Bool):List (Nat×bc)→List (Nat×Blk)
  | []=> []
  | (j,r)::R=>match ns j,r.b with
    | true,some b=>b::c_ ns R
    | _,_=>c_ ns R
def iX (ub:List (Nat×Nat)) (need:List (List Nat)) (i:Nat) (id:Nat):Bool:=match ub with
  | []=>false
  | (w,k)::l=>(decide (k=id)&&(!decide (w=i)&&(!bk (need.getD i []) w&& !bk (need.getD w []) i)))||iX l need i id
def iY (wl:List (Nat×Nat)) (need:List (List Nat)) (i t:Nat):Bool:=match wl with
  | []=>false
  | (w,k)::l=>(decide (k=t)&&bk (need.getD w []) i)||iY l need i t
def wrF (wl:List (Nat×Nat)) (need:List (List Nat)) (i:Nat):List Nat→List Nat
  | []=> []
  | t::l=>match iY wl need i t with
    | true=>wrF wl need i l
    | false=>t::wrF wl need i l
def wlB (ops:Array Oper) (m:Nat) (wl:List (Nat×Nat)):Bool:=wl.all fun p=>decide (p.1<m)&&decide (dk ops p.1=some p.2)
def dJ (ban:Nat→Bool):List (Nat×Blk)→List (Nat×Blk)
  | []=> []
  | (k,b)::H=>match ban k with
    | true=>dJ ban H
    | false=>(k,b)::dJ ban H
def bB:List (Nat×Nat)→Nat→Nat→Bool
  | [],_,_=>false
  | (w,k)::l,i,id=>(decide (w=i)&&decide (k=id))||bB l i id
def jN:Nat→Bool:=fun _=>false
def fc (ub:List (Nat×Nat)) (j:Nat) (b:Option (Nat×Blk)) (k:Nat):Bool:=match b with
  | some (k',_)=>bB ub j k&& !decide (k'=k)
  | none=>false
def dX (ub:List (Nat×Nat)) (ns:Nat→Bool):List (Nat×bc)→Nat→Bool
  | [],_=>false
  | (j,r)::R,k=>(ns j&&fc ub j r.b k)||dX ub ns R k
def cn (ub:List (Nat×Nat)) (need:List (List Nat)) (i:Nat) (R:List (Nat×bc)):Nat→Bool:=match ub with
  | []=>jN
  | p::l=>fun k=>iX (p::l) need i k||dX (p::l) (bk (need.getD i [])) R k
def fd (ub:List (Nat×Nat)) (R:List (Nat×bc)):Nat→Bool:=match ub with
  | []=>jN
  | p::l=>dX (p::l) (fun _=>true) R
def sc (_:Nat) (need:List (List Nat)) (n w k:Nat):Bool:=decide (n≤k)&&(decide (k - n=w)||(decide (k - n<w)&&bk (need.getD w []) (k - n)))
def ubB (m:Nat) (need:List (List Nat)):List (Nat×Nat)→Nat→Bool
  | [],_=>true
  | (w,k)::l,n=>(decide (k<n)||sc m need n w k)&&(l.all (fun p=> !decide (p.2=k))&&ubB m need l n)
def lv (wr:List Nat):List (Nat×V)→List (Nat×V)
  | []=> []
  | (t,v)::F=>if bk wr t=true then lv wr F else (t,v)::lv wr F
def cA (S0:St) (wr:List Nat) (ns:Nat→Bool) (ban:Nat→Bool) (R:List (Nat×bc)) (i:Nat):St:=⟨dW ns R++lv wr S0.F,dJ ban (c_ ns R++S0.H),S0.nx+i⟩
def jO:Nat→Bool:=fun _=>true
def dsR:List (Nat×bc)→List (Nat×Nat)
  | []=> []
  | (j,r)::R=>match r.d with
    | some t=>(j,t)::dsR R
    | none=>dsR R
def Hv (E:Env) (S:St) (C:List V→V→Prop) (vs:List V) (K:V→Prop):Prop:=
  ∃ws r,C ws r∧((∀c ρ us,rdT ρ c vs us→rdT ro0 c ws us)∨(dj r∧mW E S vs ws))∧K r
def Hw (C:List V→Blk→Prop) (vs:List V) (K:Blk→Prop):Prop:=
  ∃ws T n g z l,C ws (.own T n g z l)∧(∀c ρ us,rdT ρ c vs us→rdT ro0 c ws us)∧K (.own T n g z l)
def BC (E:Env) (S:St) (ub:List (Nat×Nat)) (i:Nat) (f:FuncId) (vs:List V) (K:V→Nat→Blk→Prop):Prop:=
  (∀aas w,(callFunc f aas).run E.P w= .ok (.enter f aas) w)∧ ∃r id b,bB ub i id=true∧aU b=true∧(∃b0,ab S.H id=some b0∧aU b0=true)∧
    (∀c0 c ρ F us,Sim E c0 c ρ S F→rdT ρ c vs us→Calls E.P f us.toArray c.w fun e w'=> ∃u c',e= .returned u∧c'.w=w'∧c.chg (ak ρ id) c'∧blkOk c0 c' ρ id b∧rd ρ c' r u)∧K r id b
def inPlace (c c':Cx) (ρ:Ro) (id:Nat) (T n:Nat) (g:Bool) (z:Option Bool) (l:List V) (u:Value):Prop:=
  c.chg (ak ρ id) c'∧Own c' T u (rV ro0 n g) l∧(∀k,blk u=some k→ak ρ id=some k∨c.w.heap.size≤k)∧(g=false→n=1)∧ ∃a cap,u= .slice a l.length cap∧zOk z a cap
def BD (E:Env) (S:St) (ub:List (Nat×Nat)) (i:Nat) (f:FuncId) (vs:List V) (K:Blk→Prop):Prop:=
  (∀aas w,(callFunc f aas).run E.P w= .ok (.enter f aas) w)∧ ∃id T n g z l,(bB ub i id&& !decide (id=S.nx))=true∧(∃b0,ab S.H id=some b0∧aU b0=true)∧
    (∀c0 c ρ F us,Sim E c0 c ρ S F→rdT ρ c vs us→Calls E.P f us.toArray c.w fun e w'=> ∃u c',e= .returned u∧c'.w=w'∧inPlace c c' ρ id T n g z l u)∧K (.own T n g z l)
def wN (E:Env) (S:St) (ub:List (Nat×Nat)) (i:Nat) (d:Option Nat) (K:bc→Prop):Option V→Option (List V)→Prop
  | some (.fn f caps),some vs=>(Hv E S (fun ws r=>aW E f ws r []) (vs++caps) (fun r=>K ⟨d,r,none⟩)∨Hw (fun ws b=>aW E f ws (.own 0) [b]) (vs++caps) fun b=>K ⟨d,.own S.nx,some (S.nx,b)⟩)∨BC E S ub i f (vs++caps) (fun r id b=>K ⟨d,r,some (id,b)⟩)∨BD E S ub i f (vs++caps) (fun b=>K ⟨d,.own S.nx,some (S.nx,b)⟩)
  | _,_=>False
def o8 (c:Prop) (nid:Nat) (K:V→Prop):V→Blk→Prop
  | .own k,.own _ n g z l=>decide (k=nid)=true∧c∧(c→K (.sl z n g l))
  | .own k,.pown n g z l=>decide (k=nid)=true∧c∧(c→K (.sl z n g l))
  | _,_=>False
def fA (ub:List (Nat×Nat)) (i nid:Nat) (d:Option Nat) (K:bc→Prop):Res→Prop
  | some (c,v,.none)=>c∧(c→K ⟨d,v,none⟩)
  | some (c,v,.new b)=>match bB ub i nid with
    | true=>o8 c nid (fun v'=>K ⟨d,v',none⟩) v b
    | false=>match aU b with
      | true=>c∧(c→K ⟨d,v,some (nid,b)⟩)
      | false=>False
  | some (c,v,.upd id b)=>match bB ub i id&&aU b with
    | true=>c∧(c→K ⟨d,v,some (id,b)⟩)
    | false=>False
  | some (c,.own id',.app id (.own T n g z l))=>match decide (id'=id)&&(bB ub i id&& !decide (id=nid)) with
    | true=>c∧(c→K ⟨d,.own nid,some (nid,.own T n g z l)⟩)
    | false=>False
  | _=>False
def o9 (E:Env) (S:St) (ub:List (Nat×Nat)) (i:Nat) (o:Oper) (K:bc→Prop):Prop:=
  match ia o.op with
  | some (x,l,Ts)=>wN E S ub i o.dst K (S.ev E.gv x) (evs E S l Ts)
  | none=>fA ub i S.nx o.dst K (opH E S S.nx o.type o.op)
def gb:V→Option (Option Bool)
  | .bool b=>some (some b)
  | .tup []=>some none
  | _=>none
def o_ (ns:Nat→Bool) (R:List (Nat×bc)) (o:Oper) (A B:Prop):Prop:=
  match o.guard with
  | none=>A
  | some (j,want)=>match ns j,ab R j with
    | true,some r=>match r.d with
      | some _=>ez (some r.v) want A B
      | none=>False
    | _,_=>False
def gC (E:Env) (S0:St) (wr:List Nat) (wl:List (Nat×Nat)) (need:List (List Nat)) (ub:List (Nat×Nat)) (K:St→Prop):Nat→Nat→List Oper→List (Nat×bc)→Prop
  | 0,i,l,R=>eB E i (dsR R) l K (cA S0 wr jO (fd ub R) R i)
  | _+1,_,[],_=>False
  | m+1,i,o::l,R=>o_ (bk (need.getD i [])) R o (o9 E (cA S0 (wrF wl need i wr) (bk (need.getD i [])) (cn ub need i R) R i) ub i o fun r=>gC E S0 wr wl need ub K m (i+1) l ((i,r)::R)) (gC E S0 wr wl need ub K m (i+1) l ((i,⟨o.dst,.tup [],none⟩)::R))
section
variable {E:Env} {c0 c:Cx} {ρ:Ro} {S S0:St} {F:Fm} {nid:Nat} {wr:List Nat} {wl:List (Nat×Nat)} {need:List (List Nat)} {ub:List (Nat×Nat)} {ops:Array Oper} {m:Nat}
theorem ff {l:List Nat} {i:Nat}:bk l i=true↔i∈l:=by
  induction l with
  | nil=>simp [bk]
  | cons k l ih=>
    simp only [bk,List.mem_cons]
    split
    · rename_i h;simp [h]
    · rename_i h;rw [ih];constructor
      · exact .inr
      · rintro (h'|h')
        · exact absurd h'.symm h
        · exact h'
theorem Hx {ns:Nat→Bool} {R:List (Nat×bc)} {t:Nat} {v:V} (h:(t,v)∈dW ns R): ∃j r,(j,r)∈R∧ns j=true∧r.d=some t∧r.v=v:=by
  induction R with
  | nil=>simp [dW] at h
  | cons p R ih=>
    obtain ⟨j,r⟩:=p
    simp only [dW] at h
    split at h
    · rename_i h1 h2
      rcases List.mem_cons.1 h with e|h
      · cases e;exact ⟨j,r,by simp,h1,h2,rfl⟩
      · obtain ⟨j',r',h3,h4⟩:=ih h;exact ⟨j',r',by simp [h3],h4⟩
    · obtain ⟨j',r',h3,h4⟩:=ih h;exact ⟨j',r',by simp [h3],h4⟩
theorem sd {ns:Nat→Bool} {R:List (Nat×bc)} {i:Nat} {b:Blk} (h:(i,b)∈c_ ns R): ∃j r,(j,r)∈R∧ns j=true∧r.b=some (i,b):=by
  induction R with
  | nil=>simp [c_] at h
  | cons p R ih=>
    obtain ⟨j,r⟩:=p
    simp only [c_] at h
    split at h
    · rename_i h1 h2
      rcases List.mem_cons.1 h with e|h
      · subst e;exact ⟨j,r,by simp,h1,h2⟩
      · obtain ⟨j',r',h3,h4⟩:=ih h;exact ⟨j',r',by simp [h3],h4⟩
    · obtain ⟨j',r',h3,h4⟩:=ih h;exact ⟨j',r',by simp [h3],h4⟩
theorem Hy {ns:Nat→Bool} {R:List (Nat×bc)} {i:Nat} (h:ab (c_ ns R) i=none): ∀j r b,(j,r)∈R→ns j=true→r.b≠some (i,b):=by
  induction R with
  | nil=>intro j r b hm;simp at hm
  | cons p R ih=>
    obtain ⟨j0,r0⟩:=p
    intro j r b hm hn hb
    simp only [c_] at h
    split at h
    · rename_i b0 h1 h2
      obtain ⟨k0,b0⟩:=b0
      simp only [ab] at h
      split at h
      · cases h
      · rename_i hne
        rcases List.mem_cons.1 hm with e|hm
        · cases e;rw [h2] at hb;cases hb;exact hne rfl
        · exact ih h j r b hm hn hb
    · rename_i hno
      rcases List.mem_cons.1 hm with e|hm
      · cases e;exact hno _ hn hb
      · exact ih h j r b hm hn hb
theorem pb {ban:Nat→Bool} {H:List (Nat×Blk)} {i:Nat} {b:Blk} (h:ab (dJ ban H) i=some b):ban i=false∧ab H i=some b:=by
  induction H with
  | nil=>simp [dJ,ab] at h
  | cons p H ih=>
    obtain ⟨k,x⟩:=p
    simp only [dJ] at h
    split at h
    · rename_i hk
      obtain ⟨h1,h2⟩:=ih h
      refine ⟨h1,?_⟩
      simp only [ab]
      rw [if_neg (fun e=>by subst e;rw [hk] at h1;cases h1)]
      exact h2
    · rename_i hk
      simp only [ab] at h⊢
      split at h
      · rename_i e;subst e;exact ⟨hk,by rw [if_pos rfl];exact h⟩
      · rename_i e;rw [if_neg e];exact ih h
theorem se: ∀{ub:List (Nat×Nat)} {i id w:Nat},iX ub need i id=false→bB ub w id=true→w=i∨w∈need.getD i []∨i∈need.getD w []
  | [],_,_,_,_,h=>by simp [bB] at h
  | (w0,k)::l,i,id,w,h,hm=>by
    simp only [iX,Bool.or_eq_false_iff,Bool.and_eq_false_iff,Bool.not_eq_false',decide_eq_true_eq,decide_eq_false_iff_not] at h
    simp only [bB,Bool.or_eq_true,Bool.and_eq_true,decide_eq_true_eq] at hm
    rcases hm with ⟨rfl,rfl⟩|hm
    · rcases h.1 with h1|h1|h1|h1
      · exact absurd rfl h1
      · exact .inl h1
      · exact .inr (.inl (ff.1 h1))
      · exact .inr (.inr (ff.1 h1))
    · exact se h.2 hm
theorem wO {ns:Nat→Bool} {k:Nat}: ∀{R:List (Nat×bc)},dX ub ns R k=false→ ∀j r,(j,r)∈R→ns j=true→fc ub j r.b k=false
  | [],_,j,r,hm,_=>by cases hm
  | (j0,r0)::R,h,j,r,hm,hn=>by
    simp only [dX,Bool.or_eq_false_iff,Bool.and_eq_false_iff] at h
    rcases List.mem_cons.1 hm with e|hm
    · cases e
      rcases h.1 with h1|h1
      · rw [hn] at h1;cases h1
      · exact h1
    · exact wO h.2 j r hm hn
theorem Hz {j k:Nat} {b:Option (Nat×Blk)}:fc [] j b k=false:=by
  unfold fc;split<;>simp [bB]
theorem wP {ns:Nat→Bool} {k:Nat}: ∀{R:List (Nat×bc)},dX [] ns R k=false
  | []=>rfl
  | (j,r)::R=>by simp [dX,Hz,wP (R:=R)]
theorem wQ {i k:Nat} {R:List (Nat×bc)} (h:cn ub need i R k=false):iX ub need i k=false∧dX ub (bk (need.getD i [])) R k=false:=by
  cases ub with
  | nil=>exact ⟨rfl,wP⟩
  | cons p l=>simpa [cn,Bool.or_eq_false_iff] using h
theorem HA {k:Nat} {R:List (Nat×bc)} (h:fd ub R k=false):dX ub (fun _=>true) R k=false:=by
  cases ub with
  | nil=>exact wP
  | cons p l=>exact h
theorem HB {j k:Nat} {b:Option (Nat×Blk)} (h:fc ub j b k=true):bB ub j k=true:=by
  unfold fc at h
  split at h
  · simp only [Bool.and_eq_true] at h;exact h.1
  · cases h
theorem wR: ∀{ub:List (Nat×Nat)} {n w id:Nat},ubB m need ub n=true→bB ub w id=true→id<n∨sc m need n w id=true
  | [],_,_,_,_,h=>by simp [bB] at h
  | (w0,k)::l,n,w,id,h,hm=>by
    simp only [ubB,Bool.and_eq_true,Bool.or_eq_true,decide_eq_true_eq] at h
    simp only [bB,Bool.or_eq_true,Bool.and_eq_true,decide_eq_true_eq] at hm
    rcases hm with ⟨rfl,rfl⟩|hm
    · exact h.1
    · exact wR h.2.2 hm
theorem BE {n w k:Nat} (h:sc m need n w k=true):n≤k∧(k - n=w∨(k - n<w∧k - n∈need.getD w [])):=by
  simp only [sc,Bool.and_eq_true,Bool.or_eq_true,decide_eq_true_eq] at h
  refine ⟨h.1,?_⟩
  rcases h.2 with h2|h2
  · exact .inl h2
  · exact .inr ⟨h2.1,ff.1 h2.2⟩
theorem wS: ∀{ub:List (Nat×Nat)} {w id:Nat},bB ub w id=true→(w,id)∈ub
  | [],_,_,h=>by simp [bB] at h
  | (w0,k)::l,w,id,hm=>by
    simp only [bB,Bool.or_eq_true,Bool.and_eq_true,decide_eq_true_eq] at hm
    rcases hm with ⟨rfl,rfl⟩|hm
    · simp
    · exact List.mem_cons_of_mem _ (wS hm)
theorem BF: ∀{ub:List (Nat×Nat)} {n w w' id:Nat},ubB m need ub n=true→bB ub w id=true→bB ub w' id=true→w=w'
  | [],_,_,_,_,_,h,_=>by simp [bB] at h
  | (w0,k)::l,n,w,w',id,h,hm,hm'=>by
    simp only [ubB,Bool.and_eq_true,decide_eq_true_eq,List.all_eq_true,Bool.not_eq_true',decide_eq_false_iff_not] at h
    simp only [bB,Bool.or_eq_true,Bool.and_eq_true,decide_eq_true_eq] at hm hm'
    rcases hm with ⟨rfl,rfl⟩|hm<;>rcases hm' with ⟨rfl,e⟩|hm'
    · rfl
    · exact absurd rfl (h.2.1 _ (wS hm'))
    · subst e;exact absurd rfl (h.2.1 _ (wS hm))
    · exact BF h.2.2 hm hm'
theorem HC {F:List (Nat×V)} {t:Nat} {v:V} (h:ab (lv wr F) t=some v):t∉wr∧ab F t=some v:=by
  induction F with
  | nil=>simp [lv,ab] at h
  | cons p F ih=>
    obtain ⟨k,x⟩:=p
    simp only [lv] at h
    split at h
    · rename_i hk
      obtain ⟨h1,h2⟩:=ih h
      refine ⟨h1,?_⟩
      simp only [ab]
      rw [if_neg (show¬k=t from fun e=>h1 (e▸ff.1 hk))]
      exact h2
    · rename_i hk
      simp only [ab] at h⊢
      split at h
      · rename_i e;subst e
        exact ⟨fun hm=>hk (ff.2 hm),by rw [if_pos rfl];exact h⟩
      · rename_i e
        rw [if_neg e]
        exact ih h
def NK (ub:List (Nat×Nat)) (R:List (Nat×bc)) (L:Nat→Prop) (i:Nat):Prop:= ∀j r,(j,r)∈R→L j→fc ub j r.b i=false
def PB (S0:St) (ub:List (Nat×Nat)) (R:List (Nat×bc)) (L:Nat→Prop) (i:Nat):Prop:=NK ub R L i∧((∃b,ab S0.H i=some b∧aU b=true)∨ ∃l r b,(l,r)∈R∧L l∧r.b=some (i,b))
structure gD (E:Env) (c0:Cx) (S0:St) (ub:List (Nat×Nat)) (m:Nat) (R:List (Nat×bc)) (L:Nat→Prop) (F:Fm) (c:Cx) (ρ:Ro):Prop where
  since:cy c0 c
  gl:Gl E c
  slot: ∀j r,(j,r)∈R→L j→ ∀t,r.d=some t→rd ρ c r.v (F t)
  old: ∀t v,ab S0.F t=some v→(∀j r,(j,r)∈R→L j→r.d≠some t)→rd ρ c v (F t)
  heap: ∀j r k b,(j,r)∈R→L j→r.b=some (k,b)→(∀w r' b',(w,r')∈R→L w→r'.b=some (k,b')→w≤j)→NK ub R L k→blkOk c0 c ρ k b
  heap0: ∀i b,ab S0.H i=some b→(∀j r b',(j,r)∈R→L j→r.b≠some (i,b'))→NK ub R L i→blkOk c0 c ρ i b
  sep: ∀i j k,i≠j→PB S0 ub R L i→PB S0 ub R L j→ak ρ i=some k→ak ρ j≠some k
  fresh: ∀i,S0.nx≤i→(∀j,j<m→L j→i≠S0.nx+j)→ρ i=none
theorem BG {R:List (Nat×bc)} {L:Nat→Prop} {a:Nat} (h: ∃j r b,(j,r)∈R∧L j∧r.b=some (a,b)):
    ∃j r b,(j,r)∈R∧L j∧r.b=some (a,b)∧ ∀w r' b',(w,r')∈R→L w→r'.b=some (a,b')→w≤j:=by
  induction R with
  | nil=>obtain ⟨_,_,_,h,_⟩:=h;cases h
  | cons p R ih=>
    by_cases hR: ∃j r b,(j,r)∈R∧L j∧r.b=some (a,b)
    · obtain ⟨j,r,b,h1,h2,h3,h4⟩:=ih hR
      by_cases hp:L p.1∧(∃b',p.2.b=some (a,b'))∧j<p.1
      · obtain ⟨g1,⟨b',g2⟩,g3⟩:=hp
        refine ⟨p.1,p.2,b',by simp,g1,g2,fun w r' b'' hw hl hb=> ?_⟩
        rcases List.mem_cons.1 hw with e|hw
        · exact Nat.le_of_eq (congrArg Prod.fst e)
        · have:=h4 w r' b'' hw hl hb;omega
      · refine ⟨j,r,b,by simp [h1],h2,h3,fun w r' b'' hw hl hb=> ?_⟩
        rcases List.mem_cons.1 hw with e|hw
        · subst e
          exact Nat.le_of_not_lt fun hlt=>hp ⟨hl,⟨b'',hb⟩,hlt⟩
        · exact h4 w r' b'' hw hl hb
    · obtain ⟨j,r,b,h1,h2,h3⟩:=h
      rcases List.mem_cons.1 h1 with e|h1
      · refine ⟨j,r,b,by simp [e],h2,h3,fun w r' b' hw hl hb=> ?_⟩
        rcases List.mem_cons.1 hw with e'|hw
        · rw [←e] at e';cases e';exact Nat.le_refl _
        · exact absurd ⟨w,r',b',hw,hl,hb⟩ hR
      · exact absurd ⟨j,r,b,h1,h2,h3⟩ hR
theorem HD {α:Type} {l m:List (Nat×α)} {i:Nat} {x:α} (h:ab (l++m) i=some x):ab l i=some x∨(ab l i=none∧ab m i=some x):=by
  rw [mX] at h
  cases hl:ab l i with
  | some y=>rw [hl] at h;exact .inl h
  | none=>rw [hl] at h;exact .inr ⟨rfl,h⟩
theorem HE {ns:Nat→Bool} {R:List (Nat×bc)} {i:Nat} {b:Blk} (ho:R.Pairwise fun p q=>q.1<p.1) (h:ab (c_ ns R) i=some b):
    ∃j r,(j,r)∈R∧ns j=true∧r.b=some (i,b)∧ ∀w r' b',(w,r')∈R→ns w=true→r'.b=some (i,b')→w≤j:=by
  induction R with
  | nil=>simp [c_,ab] at h
  | cons p R ih=>
    obtain ⟨j0,r0⟩:=p
    obtain ⟨ho1,ho2⟩:=List.pairwise_cons.1 ho
    simp only [c_] at h
    split at h
    · rename_i b0 h1 h2
      obtain ⟨k0,b0⟩:=b0
      simp only [ab] at h
      split at h
      · rename_i e
        subst e;cases h
        refine ⟨j0,r0,by simp,h1,h2,fun w r' b' hw _ _=> ?_⟩
        rcases List.mem_cons.1 hw with e|hw
        · cases e;exact Nat.le_refl _
        · exact Nat.le_of_lt (ho1 _ hw)
      · rename_i hne
        obtain ⟨j,r,g1,g2,g3,g4⟩:=ih ho2 h
        refine ⟨j,r,by simp [g1],g2,g3,fun w r' b' hw hn hb=> ?_⟩
        rcases List.mem_cons.1 hw with e|hw
        · cases e;rw [h2] at hb;cases hb;exact absurd rfl hne
        · exact g4 w r' b' hw hn hb
    · rename_i hno
      obtain ⟨j,r,g1,g2,g3,g4⟩:=ih ho2 h
      refine ⟨j,r,by simp [g1],g2,g3,fun w r' b' hw hn hb=> ?_⟩
      rcases List.mem_cons.1 hw with e|hw
      · cases e;exact absurd hb (hno _ hn)
      · exact g4 w r' b' hw hn hb
theorem pc {α:Type} {l m:List (Nat×α)} {i:Nat} {x:α} (h:ab (l++m) i=some x):(i,x)∈l∨(ab l i=none∧ab m i=some x):=by
  rw [mX] at h
  cases hl:ab l i with
  | some y=>rw [hl] at h;cases h;exact .inl (lm hl)
  | none=>rw [hl] at h;exact .inr ⟨rfl,h⟩
structure ROk (S0:St) (ub:List (Nat×Nat)) (ops:Array Oper) (i:Nat) (R:List (Nat×bc)):Prop where
  dst: ∀j r,(j,r)∈R→j<i∧r.d=dk ops j
  uniq: ∀j r r',(j,r)∈R→(j,r')∈R→r=r'
  priv: ∀j r k b,(j,r)∈R→r.b=some (k,b)→aU b=true
  place: ∀j r k b,(j,r)∈R→r.b=some (k,b)→k=S0.nx+j∨bB ub j k=true
  ord:R.Pairwise fun p q=>q.1<p.1
theorem ROk.two {i:Nat} {R:List (Nat×bc)} (h:ROk S0 ub ops i R) (hU:ubB m need ub S0.nx=true) {j j' k:Nat} {r r':bc} {b b':Blk} (h1:(j,r)∈R) (h2:(j',r')∈R) (e1:r.b=some (k,b)) (e2:r'.b=some (k,b')):
    j=j'∨(k=S0.nx+j∧j<j'∧j∈need.getD j' [])∨(k=S0.nx+j'∧j'<j∧j'∈need.getD j []):=by
  rcases h.place j r k b h1 e1 with g1|g1<;>rcases h.place j' r' k b' h2 e2 with g2|g2
  · exact .inl (by omega)
  · rcases wR hU g2 with g|g
    · omega
    · obtain ⟨_,g3⟩:=BE g
      have ek:k - S0.nx=j:=by omega
      rw [ek] at g3
      rcases g3 with g3|g3
      · exact .inl g3
      · exact .inr (.inl ⟨g1,g3⟩)
  · rcases wR hU g1 with g|g
    · omega
    · obtain ⟨_,g3⟩:=BE g
      have ek:k - S0.nx=j':=by omega
      rw [ek] at g3
      rcases g3 with g3|g3
      · exact .inl g3.symm
      · exact .inr (.inr ⟨g2,g3⟩)
  · exact .inl (BF hU g1 g2)
theorem gD.lt {R:List (Nat×bc)} {L:Nat→Prop} (h:gD E c0 S0 ub m R L F c ρ) (hp: ∀j r k b,(j,r)∈R→r.b=some (k,b)→aU b=true) {a k:Nat} (ha:PB S0 ub R L a) (hk:ak ρ a=some k):k<c.w.heap.size:=by
  by_cases hu: ∃j r b,(j,r)∈R∧L j∧r.b=some (a,b)
  · obtain ⟨j,r,b,h1,h2,h3,h4⟩:=BG hu
    exact eP (hp j r a b h1 h3) (h.heap j r a b h1 h2 h3 h4 ha.1) k hk
  · obtain ⟨hnk,ha⟩:=ha
    rcases ha with ⟨b,h1,h2⟩|⟨l,r,b,h1,h2,h3⟩
    · exact eP h2 (h.heap0 a b h1 (fun j r b' g1 g2 g3=>hu ⟨j,r,b',g1,g2,g3⟩) hnk) k hk
    · exact absurd ⟨l,r,b,h1,h2,h3⟩ hu
theorem gD.ge {R:List (Nat×bc)} {L:Nat→Prop} (h:gD E c0 S0 ub m R L F c ρ) (hp: ∀j r k b,(j,r)∈R→r.b=some (k,b)→aU b=true) {a k:Nat} (ha:PB S0 ub R L a) (hk:ak ρ a=some k):c0.mine k:=by
  have key: ∀b,aU b=true→blkOk c0 c ρ a b→c0.mine k:=by
    intro b hb h1
    cases b with
    | var n g d=>
      obtain ⟨b,h1,h2,h3⟩:=h1
      simp only [ak,h1,Option.some.injEq] at hk
      subst hk;exact h2
    | own E n g z l=>
      obtain ⟨v,h1,h2,h3,_,a,cap,e,_⟩:=h1
      refine h3 k ?_
      unfold ak at hk
      rw [h1] at hk
      subst e
      exact hk
    | ownI E n g z l=>
      obtain ⟨v,h1,h2,h3,_,a,cap,e,_⟩:=h1
      refine h3 k ?_
      unfold ak at hk
      rw [h1] at hk
      subst e
      exact hk
    | pvar n g d=>cases hb
    | pown n g z l=>cases hb
    | lent k' n g d=>
      obtain ⟨h1,h2,h3⟩:=h1
      simp only [ak,h1,Option.some.injEq] at hk
      subst hk;exact h2
    | kset g k' n l=>
      obtain ⟨r,h1,h2,h3⟩:=h1
      simp only [ak,h1,blk,Option.some.injEq] at hk
      subst hk;exact h2
  by_cases hu: ∃j r b,(j,r)∈R∧L j∧r.b=some (a,b)
  · obtain ⟨j,r,b,h1,h2,h3,h4⟩:=BG hu
    exact key b (hp j r a b h1 h3) (h.heap j r a b h1 h2 h3 h4 ha.1)
  · obtain ⟨hnk,ha⟩:=ha
    rcases ha with ⟨b,h1,h2⟩|⟨l,r,b,h1,h2,h3⟩
    · exact key b h2 (h.heap0 a b h1 (fun j r b' g1 g2 g3=>hu ⟨j,r,b',g1,g2,g3⟩) hnk)
    · exact absurd ⟨l,r,b,h1,h2,h3⟩ hu
theorem gD.sim {R:List (Nat×bc)} {L:Nat→Prop} (h:gD E c0 S0 ub m R L F c ρ) {ns ban:Nat→Bool} {wr:List Nat} (hwo: ∀t,t∉wr→ ∀j r,(j,r)∈R→L j→r.d≠some t) (hns: ∀j,ns j=true→L j) (hH0: ∀i b,ab S0.H i=some b→i<S0.nx) (hban: ∀k,k<S0.nx→ban k=false→ ∀j r b,(j,r)∈R→L j→r.b=some (k,b)→ns j=true) (hkill: ∀k,ban k=false→NK ub R L k) (i:Nat) (ho:R.Pairwise fun p q=>q.1<p.1) (hlast: ∀j r k b,ban k=false→(j,r)∈R→ns j=true→r.b=some (k,b)→ ∀w r' b',(w,r')∈R→L w→r'.b=some (k,b')→j<w→ns w=true):
    Sim E c0 c ρ (cA S0 wr ns ban R i) F:=by
  have hH: ∀k b,ab (dJ ban (c_ ns R++S0.H)) k=some b→blkOk c0 c ρ k b∧(aU b=true→PB S0 ub R L k):=by
    intro k b hb0
    obtain ⟨h1,hb⟩:=pb hb0
    rcases HD hb with hm|⟨hn,h2⟩
    · obtain ⟨j,r,h3,h2,h4,h5⟩:=HE ho hm
      refine ⟨h.heap j r k b h3 (hns j h2) h4 (fun w r' b' hw hl hb'=> ?_) (hkill k h1),fun _=>⟨hkill k h1,.inr ⟨j,r,b,h3,hns j h2,h4⟩⟩⟩
      rcases Nat.lt_or_ge j w with hlt|hge
      · exact h5 w r' b' hw (hlast j r k b h1 h3 h2 h4 w r' b' hw hl hb' hlt) hb'
      · exact hge
    · exact ⟨h.heap0 k b h2 (fun j r b' g1 g2 g3=>Hy hn j r b' g1 (hban k (hH0 k b h2) h1 j r b' g1 g2 g3) g3) (hkill k h1),fun hp=>⟨hkill k h1,.inl ⟨b,h2,hp⟩⟩⟩
  refine ⟨h.since,h.gl,?_,fun k b hb=>(hH k b hb).1,?_⟩
  · intro t v ht
    rcases pc ht with hm|⟨_,hm⟩
    · obtain ⟨j,r,h1,h2,h3,rfl⟩:=Hx hm
      exact h.slot j r h1 (hns j h2) t h3
    · obtain ⟨h1,h2⟩:=HC hm
      exact h.old t v h2 (hwo t h1)
  · intro a b ba bb k hab ha hb hpa hpb hk
    exact h.sep a b k hab ((hH a ba ha).2 hpa) ((hH b bb hb).2 hpb) hk
def m0 (E:Env) (S:St) (ub:List (Nat×Nat)) (i:Nat) (o:Oper) (r:bc):Prop:=
  r.d=o.dst∧match ia o.op with
  | some (x,l,Ts)=> ∃f caps vs ws,S.ev E.gv x=some (.fn f caps)∧evs E S l Ts=some vs∧((r.b=none∧aW E f ws r.v []∧((∀c ρ us,rdT ρ c (vs++caps) us→rdT ro0 c ws us)∨(dj r.v∧mW E S (vs++caps) ws)))∨
      (∃T n g z l,r.v= .own S.nx∧r.b=some (S.nx,.own T n g z l)∧aW E f ws (.own 0) [.own T n g z l]∧ ∀c ρ us,rdT ρ c (vs++caps) us→rdT ro0 c ws us)∨
      BC E S ub i f (vs++caps) (fun v id b=>r.v=v∧r.b=some (id,b))∨BD E S ub i f (vs++caps) (fun b=>r.v= .own S.nx∧r.b=some (S.nx,b)))
  | none=> ∃cnd v e,opH E S S.nx o.type o.op=some (cnd,v,e)∧cnd∧((r.v=v∧((e= .none∧r.b=none)∨(∃b,e= .new b∧r.b=some (S.nx,b)∧aU b=true)∨ ∃id b,e= .upd id b∧r.b=some (id,b)∧aU b=true))∨
      (∃T n g z l,v= .own S.nx∧(e= .new (.own T n g z l)∨e= .new (.pown n g z l))∧r.v= .sl z n g l∧r.b=none)∨
      ∃id T n g z l,v= .own id∧e= .app id (.own T n g z l)∧r.v= .own S.nx∧r.b=some (S.nx,.own T n g z l)∧(bB ub i id&& !decide (id=S.nx))=true)
def sf (E:Env) (S0:St) (wr:List Nat) (wl:List (Nat×Nat)) (need:List (List Nat)) (ub:List (Nat×Nat)) (ops:Array Oper) (R:List (Nat×bc)) (i:Nat):Prop:=
  ∀o,ops[i]? =some o→ ∃r,(i,r)∈R∧r.d=o.dst∧
    ((o.guard=none∧m0 E (cA S0 (wrF wl need i wr) (bk (need.getD i [])) (cn ub need i R) R i) ub i o r)∨
     ∃j want b rj,o.guard=some (j,want)∧j∈need.getD i []∧(j,rj)∈R∧rj.d≠none∧gb rj.v=some b∧((b=some want∧m0 E (cA S0 (wrF wl need i wr) (bk (need.getD i [])) (cn ub need i R) R i) ub i o r)∨(b≠some want∧r.v= .tup []∧r.b=none)))
def HF (c0 c:Cx) (S0:St) (ub:List (Nat×Nat)) (R:List (Nat×bc)) (L:Nat→Prop) (i:Nat) (b:Option (Nat×Blk)) (c':Cx) (ρ ρ':Ro) (o:Option Nat):Prop:=
  (b=none∧o=none∧ρ'=ρ)∨(∃x,b=some (S0.nx+i,x)∧o=none∧blkOk c0 c' ρ' (S0.nx+i) x∧ ∀k,ak ρ' (S0.nx+i)=some k→c.w.heap.size≤k)∨
    (∃id x,b=some (id,x)∧True∧o=ak ρ id∧ρ'=ρ∧blkOk c0 c' ρ id x∧PB S0 ub R L id)∨
    ∃id x,b=some (S0.nx+i,x)∧bB ub i id=true∧id≠S0.nx+i∧o=ak ρ id∧blkOk c0 c' ρ' (S0.nx+i) x∧(∀k,ak ρ' (S0.nx+i)=some k→ak ρ id=some k∨c.w.heap.size≤k)∧PB S0 ub R L id
theorem gD.next {R:List (Nat×bc)} {L:Nat→Prop} (h:gD E c0 S0 ub m R L F c ρ) (hU:ubB m need ub S0.nx=true) (hR:ROk S0 ub ops m R) {i:Nat} (him:i<m) {r:bc} (hr:(i,r)∈R)
    (hdist: ∀j r' t,(j,r')∈R→j≠i→r'.d=some t→r.d≠some t) (hnL: ¬L i) (hnw: ∀j r' k b b',(j,r')∈R→L j→r'.b=some (k,b')→r.b=some (k,b)→j<i) {c':Cx} {ρ':Ro} {o:Option Nat} (hch:c.chg o c') (hro: ∀k,k≠S0.nx+i→ρ' k=ρ k) (hn:ρ (S0.nx+i)=none)
    (hdid:HF c0 c S0 ub R L i r.b c' ρ ρ' o) {u:Value} (hv:rd ρ' c' r.v u):
    gD E c0 S0 ub m R (fun j=>j=i∨L j) (bK F r.d u) c' ρ':=by
  have hrl:=mQ hn hro
  have hpriv:=hR.priv
  have hupd: ∀t,r.d≠some t→bK F r.d u t=F t:=by
    intro t ht
    cases hd:r.d with
    | none=>rfl
    | some d=>exact oz _ _ (by rintro rfl;exact ht hd)
  -- what the operation may have turned is a block of the call's own
  have hoge: ∀k,o=some k→c0.mine k:=by
    intro k hk
    rcases hdid with ⟨_,e,_⟩|⟨x,_,e,_⟩|⟨id,x,_,_,e,_,_,hpb⟩|⟨id,x,_,_,_,e,_,_,hpb⟩
    · rw [e] at hk;cases hk
    · rw [e] at hk;cases hk
    · rw [e] at hk;exact h.ge hpriv hpb hk
    · rw [e] at hk;exact h.ge hpriv hpb hk
  -- another block stays aas it was
  have stay: ∀k b,(aU b=true→PB S0 ub R L k)→(∀x,r.b≠some (k,x))→(∀y,bB ub i k=true→k≠S0.nx+i→r.b≠some (S0.nx+i,y))→blkOk c0 c ρ k b→blkOk c0 c' ρ' k b:=by
    intro k b hpb hne hkl hb
    refine ln hrl (g9 hch (fun hp x hx=> ?_) hb)
    rcases hdid with ⟨_,e,_⟩|⟨y,_,e,_⟩|⟨id,y,e1,_,e2,_,_,hpi⟩|⟨id,y,e1,e3,e4,e2,_,_,hpi⟩
    rotate_right
    · rw [e2]
      intro hx'
      have hki:id≠k:=by rintro rfl;exact hkl y e3 e4 e1
      exact h.sep id k x hki hpi (hpb hp) hx' hx
    · rw [e];exact fun e=>by cases e
    · rw [e];exact fun e=>by cases e
    · rw [e2]
      intro hx'
      have hki:id≠k:=by rintro rfl;exact hne y e1
      exact h.sep id k x hki hpi (hpb hp) hx' hx
  refine ⟨h.since.chg hch hoge,h.gl.mono hch.pub,?_,?_,?_,?_,?_,?_⟩
  · intro j r' hj hL t ht
    by_cases e:j=i
    · subst e
      have:=hR.uniq j r' r hj hr
      subst this
      rw [ht]
      simpa [bK,uW] using hv
    · rw [hupd t (hdist j r' t hj e ht)]
      exact cZ hrl (bn hch.pub (h.slot j r' hj (hL.resolve_left e) t ht))
  · intro t v ht hno
    rw [hupd t (fun e=>hno i r hr (.inl rfl) e)]
    exact cZ hrl (bn hch.pub (h.old t v ht fun j r' g1 g2=>hno j r' g1 (.inr g2)))
  · intro j r' k b hj hL hb' hla hnk
    by_cases e:j=i
    · subst e
      have:=hR.uniq j r' r hj hr
      subst this
      rcases hdid with ⟨e,_⟩|⟨y,e,_,h2,_⟩|⟨id,y,e,_,_,e2,h2,_⟩|⟨id,y,e,_,_,_,h2,_⟩
      · rw [e] at hb';cases hb'
      · rw [e] at hb';cases hb';exact h2
      · rw [e] at hb';cases hb';rw [e2];exact h2
      · rw [e] at hb';cases hb';exact h2
    · have hLj:=hL.resolve_left e
      have hnk':NK ub R L k:=fun j r' g1 g2=>hnk j r' g1 (.inr g2)
      exact stay k b (fun _=>⟨hnk',.inr ⟨j,r',b,hj,hLj,hb'⟩⟩) (fun x hx=>by
        have h1:=hla i r x hr (.inl rfl) hx
        have h2:=hnw j r' k x b hj hLj hb' hx
        omega) (fun y hy hkx he=>by
        have:=hnk i r hr (.inl rfl)
        rw [he] at this
        simp only [fc,hy,Bool.true_and,Bool.not_eq_false',decide_eq_true_eq] at this
        omega) (h.heap j r' k b hj hLj hb' (fun w r2 b2 hw hl=>hla w r2 b2 hw (.inr hl)) hnk')
  · intro k b hb' hno hnk
    have hne: ∀x,r.b≠some (k,x):=fun x=>hno i r x hr (.inl rfl)
    exact stay k b (fun hp=>⟨fun j r' g1 g2=>hnk j r' g1 (.inr g2),.inl ⟨b,hb',hp⟩⟩) hne (fun y hy hkx he=>by
      have:=hnk i r hr (.inl rfl)
      rw [he] at this
      simp only [fc,hy,Bool.true_and,Bool.not_eq_false',decide_eq_true_eq] at this
      omega) (h.heap0 k b hb' (fun j r' b' g1 g2=>hno j r' b' g1 (.inr g2)) fun j r' g1 g2=>hnk j r' g1 (.inr g2))
  · -- blocks lie apart
    have old: ∀a k,a≠S0.nx+i→PB S0 ub R (fun j=>j=i∨L j) a→ak ρ' a=some k→PB S0 ub R L a∧ak ρ a=some k∧k<c.w.heap.size:=by
      intro a k ha hc hk
      rw [cJ (hro a ha)] at hk
      have hpa:PB S0 ub R L a:=by
        obtain ⟨hnk,hc⟩:=hc
        have hnk':NK ub R L a:=fun j r' g1 g2=>hnk j r' g1 (.inr g2)
        rcases hc with ⟨b,h1,h2⟩|⟨l,r',b,h1,h2,h3⟩
        · exact ⟨hnk',.inl ⟨b,h1,h2⟩⟩
        · by_cases e:l=i
          · subst e
            have:=hR.uniq l r' r h1 hr
            subst this
            rcases hdid with ⟨e,_⟩|⟨y,e,_⟩|⟨id,y,e,_,_,_,_,hpb⟩|⟨id,y,e,_⟩
            · rw [e] at h3;cases h3
            · rw [e] at h3;cases h3;exact absurd rfl ha
            · rw [e] at h3;cases h3;exact hpb
            · rw [e] at h3;cases h3;exact absurd rfl ha
          · exact ⟨hnk',.inr ⟨l,r',b,h1,h2.resolve_left e,h3⟩⟩
      exact ⟨hpa,hk,h.lt hpriv hpa hk⟩
    have new: ∀k,ak ρ' (S0.nx+i)=some k→c.w.heap.size≤k∨ ∃id,ak ρ id=some k∧PB S0 ub R L id∧ ¬PB S0 ub R (fun j=>j=i∨L j) id:=by
      intro k hk
      rcases hdid with ⟨_,_,e⟩|⟨y,_,_,_,h2⟩|⟨id,y,_,_,_,e,_⟩|⟨id,y,e1,e2,e3,_,_,h2,hpb⟩
      · rw [e] at hk;unfold ak at hk;rw [hn] at hk;cases hk
      · exact .inl (h2 k hk)
      · rw [e] at hk;unfold ak at hk;rw [hn] at hk;cases hk
      · rcases h2 k hk with h2|h2
        · refine .inr ⟨id,h2,hpb,?_⟩
          rintro ⟨g3,_⟩
          have:=g3 i r hr (.inl rfl)
          rw [e1] at this
          simp only [fc,e2,Bool.true_and,Bool.not_eq_false',decide_eq_true_eq] at this
          omega
        · exact .inl h2
    intro a b k hab ha hb' hk hk'
    by_cases e1:a=S0.nx+i
    · have e2:b≠S0.nx+i:=by omega
      obtain ⟨h4,h5,h3⟩:=old b k e2 hb' hk'
      rw [e1] at hk
      rcases new k hk with h6|⟨id,h6,h7,h8⟩
      · omega
      · exact h.sep id b k (fun e=>h8 (e▸hb')) h7 h4 h6 h5
    · obtain ⟨h1,h2,h3⟩:=old a k e1 ha hk
      by_cases e2:b=S0.nx+i
      · rw [e2] at hk'
        rcases new k hk' with h6|⟨id,h6,h7,h8⟩
        · omega
        · exact h.sep id a k (fun e=>h8 (e▸ha)) h7 h1 h6 h2
      · obtain ⟨h4,h5,_⟩:=old b k e2 hb' hk'
        exact h.sep a b k hab h1 h4 h2 h5
  · intro k hk hne
    have h1:k≠S0.nx+i:=hne i him (.inl rfl)
    rw [hro k h1]
    exact h.fresh k hk (fun j hm hj=>hne j hm (.inr hj))
theorem wT {wl:List (Nat×Nat)} {need:List (List Nat)} {i t:Nat}: ∀{wr:List Nat},t∈wr→t∉wrF wl need i wr→ ∃w,(w,t)∈wl∧i∈need.getD w []
  | [],h,_=>by cases h
  | x::l,h,hn=>by
    simp only [wrF] at hn
    have key:iY wl need i t=true→ ∃w,(w,t)∈wl∧i∈need.getD w []:=by
      clear hn h
      induction wl with
      | nil=>intro h;cases h
      | cons q wl ih=>
        obtain ⟨w,k⟩:=q
        intro h
        simp only [iY,Bool.or_eq_true,Bool.and_eq_true,decide_eq_true_eq] at h
        rcases h with ⟨rfl,h2⟩|h
        · exact ⟨w,by simp,ff.1 h2⟩
        · obtain ⟨w',h1,h2⟩:=ih h;exact ⟨w',by simp [h1],h2⟩
    split at hn
    · rename_i hl
      rcases List.mem_cons.1 h with rfl|h
      · exact key hl
      · exact wT h hn
    · simp only [List.mem_cons,not_or] at hn
      rcases List.mem_cons.1 h with rfl|h
      · exact absurd rfl hn.1
      · exact wT h hn.2
theorem HG {m:Nat} {wl:List (Nat×Nat)} (h:wlB ops m wl=true) {w t:Nat} (hm:(w,t)∈wl):w<m∧dk ops w=some t:=by
  have:=List.all_eq_true.1 h (w,t) hm
  simpa using this
theorem HH (hE:a8 E) (hwl:wlB ops m wl=true) (hW:kP ops m wr=true) (hU:ubB m need ub S0.nx=true) {R:List (Nat×bc)} (hR:ROk S0 ub ops m R) (hH0: ∀i b,ab S0.H i=some b→i<S0.nx)
    (hT: ∀i,i<m→sf E S0 wr wl need ub ops R i):Az E.P ops need m (fun L F w=> ∃c ρ,c.w=w∧gD E c0 S0 ub m R L F c ρ):=by
  rintro L F w i o ⟨c,ρ,rfl,hI⟩ him ho hneedL hafter hnL K hK
  obtain ⟨r,hr,hd,hj⟩:=hT i him o ho
  have hfr:ρ (S0.nx+i)=none:=hI.fresh _ (by omega) (fun j _ hj=>by
    intro e
    have:i=j:=by omega
    subst this;exact hnL hj)
  have hdist: ∀j r' t,(j,r')∈R→j≠i→r'.d=some t→r.d≠some t:=by
    intro j r' t h1 h2 h3 h4
    obtain ⟨h5,h6⟩:=hR.dst j r' h1
    obtain ⟨h7,h8⟩:=hR.dst i r hr
    exact uY hW h7 h5 (Ne.symm h2) (h8▸h4) (h6▸h3)
  have hwo: ∀t,t∉wrF wl need i wr→ ∀j r',(j,r')∈R→L j→r'.d≠some t:=by
    intro t ht j r' hj hL hd'
    obtain ⟨h5,h6⟩:=hR.dst j r' hj
    obtain ⟨w,h7,h8⟩:=wT (oB hW h5 (h6▸hd')).1 ht
    obtain ⟨h9,h10⟩:=HG hwl h7
    have hjw:j=w:=Classical.byContradiction fun hne=>uY hW h5 h9 hne (h6▸hd') h10
    subst hjw
    exact absurd hL (hafter j h5 h8)
  have hns: ∀j,bk (need.getD i []) j=true→L j:=fun j hj=>hneedL j (ff.1 hj)
  have hban: ∀k,k<S0.nx→cn ub need i R k=false→ ∀j r b,(j,r)∈R→L j→r.b=some (k,b)→bk (need.getD i []) j=true:=by
    intro k hkn hk0 j r' b hj hL hb
    have hk:=(wQ hk0).1
    obtain ⟨hjm,_⟩:=hR.dst j r' hj
    have hji:j≠i:=by rintro rfl;exact hnL hL
    rcases hR.place j r' k b hj hb with e|hm
    · omega
    · rcases se hk hm with e|e|e
      · exact absurd e hji
      · exact ff.2 e
      · exact absurd hL (hafter j hjm e)
  have hlast: ∀j r k b,cn ub need i R k=false→(j,r)∈R→bk (need.getD i []) j=true→r.b=some (k,b)→ ∀w r' b',(w,r')∈R→L w→r'.b=some (k,b')→j<w→bk (need.getD i []) w=true:=by
    intro j r1 k b hbn hj hn hb w r' b' hw hl hb' hlt
    rcases hR.place w r' k b' hw hb' with e|hm
    · rcases hR.two hU hj hw hb hb' with e|⟨e1,e2⟩|⟨e1,e2⟩
      · omega
      · omega
      · omega
    · rcases se (wQ hbn).1 hm with e|e|e
      · subst e;exact absurd hl hnL
      · exact ff.2 e
      · exact absurd hl (hafter w (hR.dst w r' hw).1 e)
  have hnw: ∀j r' k b b',(j,r')∈R→L j→r'.b=some (k,b')→r.b=some (k,b)→j<i:=by
    intro j r' k b b' hj hl hb' hb
    rcases hR.two hU hj hr hb' hb with e|⟨e1,e2⟩|⟨e1,e2⟩
    · subst e;exact absurd hl hnL
    · exact e2.1
    · exact absurd hl (hafter j (hR.dst j r' hj).1 e2.2)
  have hkill: ∀k,cn ub need i R k=false→NK ub R L k:=by
    intro k hk0 j r' hj hL
    obtain ⟨hk,hkf⟩:=wQ hk0
    cases hb:fc ub j r'.b k with
    | false=>rfl
    | true=>
      obtain ⟨hjm,_⟩:=hR.dst j r' hj
      have hji:j≠i:=by rintro rfl;exact hnL hL
      rcases se hk (HB hb) with e|e|e
      · exact absurd e hji
      · have:=wO hkf j r' hj (ff.2 e)
        rw [hb] at this;cases this
      · exact absurd hL (hafter j hjm e)
  have hsim:=hI.sim hwo hns hH0 hban hkill i hR.ord hlast
  have exec:m0 E (cA S0 (wrF wl need i wr) (bk (need.getD i [])) (cn ub need i R) R i) ub i o r→aE E.P (fun v w'=>K (bK F o.dst v) w') (run E.P F o c.w):=by
    rintro ⟨_,hju⟩
    split at hju
    · rename_i x l Ts hi
      obtain ⟨f,caps,vs,ws,hx,hvs,hres⟩:=hju
      have hop: ∃cl,o.op= .call cl∧cl.callee= .value x∧cl.args.toList=l:=by
        unfold ia at hi
        split at hi
        · rename_i cl ho'
          split at hi
          · rename_i y hy
            simp only [Option.some.injEq,Prod.mk.injEq] at hi
            obtain ⟨rfl,h2,_⟩:=hi
            exact ⟨cl,ho',hy,h2⟩
          · cases hi
        · cases hi
      obtain ⟨cl,ho',hcl,rfl⟩:=hop
      have hf:=aM hsim hx
      simp only [rd] at hf
      obtain ⟨cap,hf,hcap⟩:=hf
      have hus:=wL (sb hsim hvs) hcap
      rcases hres with ⟨hb,hc,hlook⟩|⟨T,n,g,z,ll,hrv,hb,hc,hgive⟩|⟨hent,rv,id,b,hmem,hpb,⟨b0,hb0,hp0⟩,hcalls,hrv,hrb⟩|⟨hent,id,T,n,g,z,ll,hmem,⟨b0,hb0,hp0⟩,hcalls,hrv,hrb⟩
      case inr.inr.inl=>
        rw [mY (F:=F) (w:=c.w) ho' hcl hf hent]
        refine (hcalls c0 c ρ F _ hsim hus).mono ?_
        rintro e w' ⟨u,c',rfl,rfl,hch,hbk,hrd⟩
        refine ⟨u,rfl,hK _ _ ⟨c',ρ,rfl,?_⟩⟩
        rw [←hd]
        have hpb':PB S0 ub R L id:=by
          obtain ⟨hbn,hb9⟩:=pb hb0
          rcases pc hb9 with hm|⟨_,hm⟩
          · obtain ⟨j,r',g1,g2,g3⟩:=sd hm
            exact ⟨hkill id hbn,.inr ⟨j,r',b0,g1,hns j g2,g3⟩⟩
          · exact ⟨hkill id hbn,.inl ⟨b0,hm,hp0⟩⟩
        exact hI.next hU hR him hr hdist hnL hnw hch (fun _ _=>rfl) hfr (.inr (.inr (.inl ⟨id,b,hrb,trivial,rfl,rfl,hbk,hpb'⟩))) (by rw [hrv];exact hrd)
      case inr.inr.inr=>
        simp only [Bool.and_eq_true,decide_eq_true_eq] at hmem
        have hidn:id≠S0.nx+i:=by have:=hmem.2;simpa [cA] using this
        rw [mY (F:=F) (w:=c.w) ho' hcl hf hent]
        refine (hcalls c0 c ρ F _ hsim hus).mono ?_
        rintro e w' ⟨u,c',rfl,rfl,hch,hown,hbl,hone,a,cap,es,hz⟩
        have hat:di ρ (S0.nx+i) u (S0.nx+i)=some u:=dm
        have hbo:ak (di ρ (S0.nx+i) u) (S0.nx+i)=blk u:=by simp only [ak,hat];rw [es]
        have hpb':PB S0 ub R L id:=by
          obtain ⟨hbn,hb9⟩:=pb hb0
          rcases pc hb9 with hm|⟨_,hm⟩
          · obtain ⟨j,r',g1,g2,g3⟩:=sd hm
            exact ⟨hkill id hbn,.inr ⟨j,r',b0,g1,hns j g2,g3⟩⟩
          · exact ⟨hkill id hbn,.inl ⟨b0,hm,hp0⟩⟩
        refine ⟨u,rfl,hK _ _ ⟨c',di ρ (S0.nx+i) u,rfl,?_⟩⟩
        rw [←hd]
        refine hI.next hU hR him hr hdist hnL hnw hch (fun k hk=>hZ hk) hfr (.inr (.inr (.inr ⟨id,_,hrb,hmem.1,hidn,rfl,⟨u,hat,hown,fun k hk=> ?_,hone,a,cap,es,hz⟩,fun k hk=>hbl k (hbo▸hk),hpb'⟩))) ?_
        · rcases hbl k hk with h1|h1
          · exact hI.ge hR.priv hpb' h1
          · exact .inl (Nat.le_trans hI.since.size h1)
        · rw [hrv]
          simp only [rd]
          exact ⟨hat,by rw [es];rfl⟩
      case inr.inl=>
        rw [mY (F:=F) (w:=c.w) ho' hcl hf hc.1]
        refine (show Calls E.P f _ c.w _ from hc.2 c.noY _ rfl (hI.gl.mono (Cx.pub_noY c)) (eZ (Cx.pub_noY c) (hgive c ρ _ hus))).mono ?_
        rintro e w' ⟨v,c',ρr,rfl,rfl,hle',hrd,hH⟩
        have hle:c.le c':=⟨hle'.below,hle'.old⟩
        obtain ⟨v',hv,hown,hge,hone,a,cap,es,hz⟩:=(hH.1 0 _ rfl).2
        simp only [rd] at hrd
        have e:v'=v:=by have:=hrd.1;rw [hv] at this;exact Option.some.inj this
        subst e
        have hat:di ρ (S0.nx+i) v' (S0.nx+i)=some v':=dm
        refine ⟨v',rfl,hK _ _ ⟨c',di ρ (S0.nx+i) v',rfl,?_⟩⟩
        rw [←hd]
        refine hI.next hU hR him hr hdist hnL hnw hle.chg (fun k hk=>hZ hk) hfr (.inr (.inl ⟨_,hb,rfl,⟨v',hat,hown,fun k hk=> .inl (Nat.le_trans hI.since.size (Cx.noY_mine (hge k hk))),hone,a,cap,es,hz⟩,fun k hk=> ?_⟩)) ?_
        · simp only [ak,hat] at hk
          rw [es] at hk
          exact Cx.noY_mine (hge k (by rw [es];exact hk))
        · rw [hrv]
          simp only [rd]
          exact ⟨hat,hrd.2⟩
      rw [mY (F:=F) (w:=c.w) ho' hcl hf hc.1]
      rcases hlook with hgive|⟨hfl,hlk⟩
      · refine (show Calls E.P f _ c.w _ from hc.2 c.noY _ rfl (hI.gl.mono (Cx.pub_noY c)) (eZ (Cx.pub_noY c) (hgive c ρ _ hus))).mono ?_
        rintro e w' ⟨v,c',ρr,rfl,rfl,hle',hrd,hH⟩
        have hle:c.le c':=⟨hle'.below,hle'.old⟩
        refine ⟨v,rfl,hK _ _ ⟨c',ρ,rfl,?_⟩⟩
        rw [←hd]
        refine hI.next hU hR him hr hdist hnL hnw hle.chg (fun _ _=>rfl) hfr (.inl ⟨hb,rfl,rfl⟩) ?_
        refine cZ (fun k v hk=> ?_) hrd
        exact absurd (hH.2.1 k (Nat.zero_le _)) (by rw [hk];simp)
      · have hrd:=hlk c0 c ρ F _ hsim hus
        have hpb:=gB hsim
        refine (show Calls E.P f _ c.w _ from hc.2 (c0.base c hsim.since.size) _ rfl (hI.gl.mono hpb) hrd).mono ?_
        rintro e w' ⟨v,c',ρr,rfl,rfl,hle,hrd,hH⟩
        have hbl:Below c.w.heap.size c.w c'.w:=hle.below
        refine ⟨v,rfl,hK _ _ ⟨c.at c'.w hbl.size,ρ,rfl,?_⟩⟩
        rw [←hd]
        exact hI.next hU hR him hr hdist hnL hnw (Cx.le_at hbl).chg (fun _ _=>rfl) hfr (.inl ⟨hb,rfl,rfl⟩) (oZ hfl hrd)
    · obtain ⟨cnd,vv,e,hop,hc,he⟩:=hju
      refine (Hn hE hsim hfr hop hc).mono ?_
      rintro u w' ⟨c',ρ',rfl,hpre,hrel,hrd⟩
      rcases he with ⟨hrv,⟨rfl,hb⟩|⟨b,rfl,hb,hp⟩|⟨id,b,rfl,hb,hp⟩⟩|⟨T,n,g,z,ll,rfl,rfl|rfl,hrv,hrb⟩|⟨id,T,n,g,z,ll,rfl,rfl,hrv,hrb,hmem⟩
      rotate_right
      · simp only [Bool.and_eq_true,decide_eq_true_eq] at hmem
        have hidn:id≠S0.nx+i:=by have:=hmem.2;simpa [cA] using this
        obtain ⟨h1,h2,h3,h4⟩:=hrel
        obtain ⟨b1,hb1,hp1,_⟩:=hpre
        have hpb':PB S0 ub R L id:=by
          obtain ⟨hbn,hb9⟩:=pb hb1
          rcases pc hb9 with hm|⟨_,hm⟩
          · obtain ⟨j,r',g1,g2,g3⟩:=sd hm
            exact ⟨hkill id hbn,.inr ⟨j,r',b1,g1,hns j g2,g3⟩⟩
          · exact ⟨hkill id hbn,.inl ⟨b1,hm,hp1⟩⟩
        obtain ⟨u',e1,hown,hge,hone,a,cap,es,hz⟩:=h3
        simp only [rd] at hrd
        have eu:u'=u:=by rw [hrd.1] at e1;exact (Option.some.inj e1).symm
        subst eu
        have hat:di ρ (S0.nx+i) u' (S0.nx+i)=some u':=dm
        have hbo:ak (di ρ (S0.nx+i) u') (S0.nx+i)=blk u':=by simp only [ak,hat];rw [es]
        have hbi:ak ρ' id=blk u':=by unfold ak;rw [e1,es]
        refine hK _ _ ⟨c',di ρ (S0.nx+i) u',rfl,?_⟩
        rw [←hd]
        refine hI.next hU hR him hr hdist hnL hnw h1 (fun k hk=>hZ hk) hfr (.inr (.inr (.inr ⟨id,_,hrb,hmem.1,hidn,rfl,⟨u',hat,hown,hge,hone,a,cap,es,hz⟩,fun k hk=>h4 k (by rw [hbi,←hbo];exact hk),hpb'⟩))) ?_
        rw [hrv]
        simp only [rd]
        exact ⟨hat,hrd.2⟩
      rotate_right
      · obtain ⟨h1,h2,h3,h4⟩:=hrel
        obtain ⟨u',e1,hown⟩:=h3
        simp only [rd] at hrd
        have eu:u'=u:=Option.some.inj (e1.symm.trans hrd.1)
        subst eu
        refine hK _ _ ⟨c',ρ,rfl,?_⟩
        rw [←hd]
        refine hI.next hU hR him hr hdist hnL hnw h1.chg (fun _ _=>rfl) hfr (.inl ⟨hrb,rfl,rfl⟩) ?_
        rw [hrv]
        simp only [rd] at hown⊢
        exact hown
      rotate_right
      · obtain ⟨h1,h2,h3,h4⟩:=hrel
        obtain ⟨u',e1,hown,hge,hone,a,cap,es,hz⟩:=h3
        simp only [rd] at hrd
        have eu:u'=u:=Option.some.inj (e1.symm.trans hrd.1)
        subst eu
        have hbo:ak ρ' (S0.nx+i)=blk u':=by
          unfold ak
          rw [show ρ' (S0.nx+i)=some u' from e1,es]
        have hle2:c.le (c'.dropv u'):=AA h1 (fun g hg=>h4 g (by rw [←hbo] at hg;exact hg))
        refine hK _ _ ⟨c'.dropv u',ρ,rfl,?_⟩
        rw [←hd]
        refine hI.next hU hR him hr hdist hnL hnw hle2.chg (fun _ _=>rfl) hfr (.inl ⟨hrb,rfl,rfl⟩) ?_
        rw [hrv]
        obtain ⟨a',cap',e5,g1,g2⟩:=fw.1 hown.val
        rw [es] at e5;cases e5
        exact dl.2 ⟨a,cap,es,g1,hz,g2⟩
      all_goals (refine hK _ _ ⟨c',ρ',rfl,?_⟩;rw [←hd])
      all_goals (rw [←hrv] at hrd)
      · obtain ⟨rfl,rfl⟩:=hrel
        exact hI.next hU hR him hr hdist hnL hnw (Cx.le.refl _).chg (fun _ _=>rfl) hfr (.inl ⟨hb,rfl,rfl⟩) hrd
      · obtain ⟨h1,h2,h3,h4⟩:=hrel
        exact hI.next hU hR him hr hdist hnL hnw h1.chg h2 hfr (.inr (.inl ⟨b,hb,rfl,h3,h4⟩)) hrd
      · obtain ⟨h1,rfl,h3⟩:=hrel
        obtain ⟨b1,hb1,hp1,_⟩:=hpre
        have hpb:PB S0 ub R L id:=by
          obtain ⟨hbn,hb9⟩:=pb hb1
          rcases pc hb9 with hm|⟨_,hm⟩
          · obtain ⟨j,r',g1,g2,g3⟩:=sd hm
            exact ⟨hkill id hbn,.inr ⟨j,r',b1,g1,hns j g2,g3⟩⟩
          · exact ⟨hkill id hbn,.inl ⟨b1,hm,hp1⟩⟩
        rcases hR.place i r id b hr hb with e|hm
        · -- a block that is not there yet
          exfalso
          have h5:=hsim.heap _ _ hb1
          have h6:ρ' id=none:=by rw [e];exact hfr
          cases b1<;>first|(obtain ⟨_,h5,_⟩:=h5;rw [h6] at h5;cases h5)|(obtain ⟨h5,_⟩:=h5;rw [h6] at h5;cases h5)
        · exact hI.next hU hR him hr hdist hnL hnw h1 (fun _ _=>rfl) hfr (.inr (.inr (.inl ⟨id,b,hb,trivial,rfl,rfl,h3,hpb⟩))) hrd
  rcases hj with ⟨hg,hju⟩|⟨j,want,b,rj,hg,hjn,hrj,hdj,hvj,hj⟩
  · have:dF ops F o=true:=by simp [dF,hg]
    rw [if_pos this]
    exact exec hju
  · have hgb:dF ops F o=(b==some want):=by
      obtain ⟨h5,h6⟩:=hR.dst j rj hrj
      cases hdd:rj.d with
      | none=>exact absurd hdd hdj
      | some t=>
        have hv:=hI.slot j rj hrj (hneedL j hjn) t hdd
        rw [hdd] at h6
        simp only [dF,hg]
        rw [show (ops[j]?).bind (·.dst)=some t from h6.symm]
        unfold gb at hvj
        split at hvj
        · rename_i hb;rw [hb] at hv;cases hvj;simp only [rd] at hv;simp [hv]
        · rename_i hb;rw [hb] at hv;cases hvj;simp only [rd] at hv;obtain ⟨cs,hv,_⟩:=hv;simp [hv]
        · cases hvj
    rcases hj with ⟨hbw,hju⟩|⟨hbw,hvu,hbn⟩
    · rw [if_pos (by rw [hgb,hbw];simp)]
      exact exec hju
    · rw [if_neg (by rw [hgb];simp [hbw])]
      refine hK _ _ ⟨c,ρ,rfl,?_⟩
      rw [←hd]
      exact hI.next hU hR him hr hdist hnL hnw (Cx.le.refl _).chg (fun _ _=>rfl) hfr (u:=undef) (.inl ⟨hbn,rfl,rfl⟩) (by rw [hvu];exact ⟨[],rfl,rfl⟩)
theorem BH {ns:Nat→Bool} {R:List (Nat×bc)}: ∀{X:List (Nat×bc)},(∀p∈X,ns p.1=false)→dW ns (X++R)=dW ns R
  | [],_=>rfl
  | (j,r)::X,h=>by
    have hj:ns j=false:=h (j,r) (by simp)
    simp only [List.cons_append,dW,hj]
    exact BH (fun p hp=>h p (by simp [hp]))
theorem BI {ns:Nat→Bool} {R:List (Nat×bc)}: ∀{X:List (Nat×bc)},(∀p∈X,ns p.1=false)→c_ ns (X++R)=c_ ns R
  | [],_=>rfl
  | (j,r)::X,h=>by
    have hj:ns j=false:=h (j,r) (by simp)
    simp only [List.cons_append,c_,hj]
    exact BI (fun p hp=>h p (by simp [hp]))
theorem BJ {ns:Nat→Bool} {k:Nat}: ∀{X R:List (Nat×bc)},(∀p∈X,ns p.1=false)→dX ub ns (X++R) k=dX ub ns R k
  | [],_,_=>rfl
  | (j,r)::X,R,h=>by
    have hj:ns j=false:=h (j,r) (by simp)
    simp only [List.cons_append,dX,hj,Bool.false_and,Bool.false_or]
    exact BJ fun p hp=>h p (by simp [hp])
theorem HI {i:Nat} {X R:List (Nat×bc)} (h: ∀p∈X,bk (need.getD i []) p.1=false):cn ub need i (X++R)=cn ub need i R:=by
  cases ub with
  | nil=>rfl
  | cons p l=>funext k;simp only [cn,BJ h]
theorem ROk.cons {i:Nat} {R:List (Nat×bc)} (h:ROk S0 ub ops i R) {r:bc} (hd:r.d=dk ops i) (hp: ∀k b,r.b=some (k,b)→aU b=true) (hq: ∀k b,r.b=some (k,b)→k=S0.nx+i∨bB ub i k=true):ROk S0 ub ops (i+1) ((i,r)::R):=by
  refine ⟨?_,?_,?_,?_,List.pairwise_cons.2 ⟨fun p hp=>(h.dst p.1 p.2 hp).1,h.ord⟩⟩
  · intro j r' hj
    rcases List.mem_cons.1 hj with e|hj
    · cases e;exact ⟨by omega,hd⟩
    · have:=h.dst j r' hj;exact ⟨by omega,this.2⟩
  · intro j r1 r2 h1 h2
    rcases List.mem_cons.1 h1 with e1|h1<;>rcases List.mem_cons.1 h2 with e2|h2
    · cases e1;cases e2;rfl
    · cases e1;have:=(h.dst _ _ h2).1;omega
    · cases e2;have:=(h.dst _ _ h1).1;omega
    · exact h.uniq j r1 r2 h1 h2
  · intro j r' k b hj hb
    rcases List.mem_cons.1 hj with e|hj
    · cases e;exact hp k b hb
    · exact h.priv j r' k b hj hb
  · intro j r' k b hj hb
    rcases List.mem_cons.1 hj with e|hj
    · cases e;exact hq k b hb
    · exact h.place j r' k b hj hb
def wU (S:St) (ub:List (Nat×Nat)) (i:Nat) (r:bc):Prop:= ∀k b,r.b=some (k,b)→aU b=true∧(k=S.nx∨bB ub i k=true)
theorem BK {S:St} {i:Nat} {o:Oper} {K:bc→Prop} (h:o9 E S ub i o K): ∃r,m0 E S ub i o r∧K r∧wU S ub i r:=by
  unfold o9 at h
  split at h
  · rename_i x l Ts hi
    unfold wN at h
    split at h
    · rename_i f caps vs hx hvs
      rcases h with (⟨ws,r,hc,hl,hk⟩|⟨ws,T,n,g,z,ll,hc,hl,hk⟩)|⟨hent,r,id,b,hm,hp,hb0,hcalls,hk⟩|⟨hent,id,T,n,g,z,ll,hm,hb0,hcalls,hk⟩
      · refine ⟨⟨o.dst,r,none⟩,⟨rfl,?_⟩,hk,fun k b hb=>by cases hb⟩
        rw [hi]
        exact ⟨f,caps,vs,ws,hx,hvs,.inl ⟨rfl,hc,hl⟩⟩
      · refine ⟨⟨o.dst,.own S.nx,some (S.nx,.own T n g z ll)⟩,⟨rfl,?_⟩,hk,fun k b hb=>by cases hb;exact ⟨rfl,.inl rfl⟩⟩
        rw [hi]
        exact ⟨f,caps,vs,ws,hx,hvs,.inr (.inl ⟨T,n,g,z,ll,rfl,rfl,hc,hl⟩)⟩
      · refine ⟨⟨o.dst,r,some (id,b)⟩,⟨rfl,?_⟩,hk,fun k b' hb=>by cases hb;exact ⟨hp,.inr hm⟩⟩
        rw [hi]
        exact ⟨f,caps,vs,[],hx,hvs,.inr (.inr (.inl ⟨hent,r,id,b,hm,hp,hb0,hcalls,rfl,rfl⟩))⟩
      · refine ⟨⟨o.dst,.own S.nx,some (S.nx,.own T n g z ll)⟩,⟨rfl,?_⟩,hk,fun k b hb=>by cases hb;exact ⟨rfl,.inl rfl⟩⟩
        rw [hi]
        exact ⟨f,caps,vs,[],hx,hvs,.inr (.inr (.inr ⟨hent,id,T,n,g,z,ll,hm,hb0,hcalls,rfl,rfl⟩))⟩
    · exact h.elim
  · rename_i hi
    unfold fA at h
    split at h
    · rename_i cnd v hop
      refine ⟨⟨o.dst,v,none⟩,⟨rfl,?_⟩,h.2 h.1,fun k b hb=>by cases hb⟩
      rw [hi]
      exact ⟨cnd,v,.none,hop,h.1,.inl ⟨rfl,.inl ⟨rfl,rfl⟩⟩⟩
    · rename_i cnd v b hop
      split at h
      · unfold o8 at h
        split at h
        · rename_i k T n g z l
          obtain ⟨hk,hc,hK⟩:=h
          simp only [decide_eq_true_eq] at hk
          subst hk
          refine ⟨⟨o.dst,.sl z n g l,none⟩,⟨rfl,?_⟩,hK hc,fun k b' hb=>by cases hb⟩
          rw [hi]
          exact ⟨cnd,_,_,hop,hc,.inr (.inl ⟨T,n,g,z,l,rfl,.inl rfl,rfl,rfl⟩)⟩
        · rename_i k n g z l
          obtain ⟨hk,hc,hK⟩:=h
          simp only [decide_eq_true_eq] at hk
          subst hk
          refine ⟨⟨o.dst,.sl z n g l,none⟩,⟨rfl,?_⟩,hK hc,fun k b' hb=>by cases hb⟩
          rw [hi]
          exact ⟨cnd,_,_,hop,hc,.inr (.inl ⟨0,n,g,z,l,rfl,.inr rfl,rfl,rfl⟩)⟩
        · exact h.elim
      split at h
      · rename_i hp
        refine ⟨⟨o.dst,v,some (S.nx,b)⟩,⟨rfl,?_⟩,h.2 h.1,fun k b' hb=>by cases hb;exact ⟨hp,.inl rfl⟩⟩
        rw [hi]
        exact ⟨cnd,v,.new b,hop,h.1,.inl ⟨rfl,.inr (.inl ⟨b,rfl,rfl,hp⟩)⟩⟩
      · exact h.elim
    · rename_i cnd v id b hop
      split at h
      · rename_i hp
        simp only [Bool.and_eq_true] at hp
        refine ⟨⟨o.dst,v,some (id,b)⟩,⟨rfl,?_⟩,h.2 h.1,fun k b' hb=>by cases hb;exact ⟨hp.2,.inr hp.1⟩⟩
        rw [hi]
        exact ⟨cnd,v,.upd id b,hop,h.1,.inl ⟨rfl,.inr (.inr ⟨id,b,rfl,rfl,hp.2⟩)⟩⟩
      · exact h.elim
    · rename_i cnd id' id T n g z ll hop
      split at h
      · rename_i hp
        simp only [Bool.and_eq_true,decide_eq_true_eq] at hp
        obtain ⟨rfl,hp⟩:=hp
        refine ⟨⟨o.dst,.own S.nx,some (S.nx,.own T n g z ll)⟩,⟨rfl,?_⟩,h.2 h.1,fun k b' hb=>by cases hb;exact ⟨rfl,.inl rfl⟩⟩
        rw [hi]
        exact ⟨cnd,_,_,hop,h.1,.inr (.inr ⟨id',T,n,g,z,ll,rfl,rfl,rfl,rfl,by simp only [Bool.and_eq_true];exact hp⟩)⟩
      · exact h.elim
    · exact h.elim
theorem HJ {ns:Nat→Bool} {R:List (Nat×bc)} {o:Oper} {A B:Prop} (h:o_ ns R o A B):
    (o.guard=none∧A)∨ ∃j want b rj,o.guard=some (j,want)∧ns j=true∧(j,rj)∈R∧rj.d≠none∧gb rj.v=some b∧((b=some want∧A)∨(b≠some want∧B)):=by
  unfold o_ at h
  split at h
  · rename_i hg;exact .inl ⟨hg,h⟩
  · rename_i j want hg
    split at h
    · rename_i r hns hr
      split at h
      · rename_i t hd
        unfold ez at h
        split at h
        · rename_i b hb
          simp only [Option.some.injEq] at hb
          refine .inr ⟨j,want,some b,r,hg,hns,lm hr,by simp [hd],by rw [hb];rfl,?_⟩
          by_cases e:b=want
          · exact .inl ⟨by rw [e],h.1 e⟩
          · exact .inr ⟨by simp [e],h.2 (by cases b<;>cases want<;>simp_all)⟩
        · rename_i hb
          simp only [Option.some.injEq] at hb
          exact .inr ⟨j,want,none,r,hg,hns,lm hr,by simp [hd],by rw [hb];rfl,.inr ⟨by simp,h⟩⟩
        · exact h.elim
      · exact h.elim
    · exact h.elim
theorem BL {K:St→Prop} (hneed: ∀i,i<m→ ∀j∈need.getD i [],j<i):
    ∀(k i:Nat) (l pre:List Oper) (R:List (Nat×bc)),ops.toList=pre++l→pre.length=i→i+k=m→ROk S0 ub ops i R→gC E S0 wr wl need ub K k i l R→
      ∃X l',ROk S0 ub ops m (X++R)∧(∀p∈X,i≤p.1)∧(∀j,i≤j→j<m→sf E S0 wr wl need ub ops (X++R) j)∧(∃pre',ops.toList=pre'++l'∧pre'.length=m)∧eB E m (dsR (X++R)) l' K (cA S0 wr jO (fd ub (X++R)) (X++R) m)
  | 0,i,l,pre,R,hl,hp,hm,hR,hk=>by
    obtain rfl:i=m:=by omega
    exact ⟨[],l,hR,by simp,fun j h1 h2=>by omega,⟨pre,hl,hp⟩,hk⟩
  | k+1,i,[],pre,R,hl,hp,hm,hR,hk=>hk.elim
  | k+1,i,o::l,pre,R,hl,hp,hm,hR,hk=>by
    have ho:ops[i]? =some o:=by
      rw [←Array.getElem?_toList,hl,←hp,List.getElem?_append_right (Nat.le_refl _)]
      simp
    have hdo:o.dst=dk ops i:=by simp [dk,ho]
    -- what is left, behind the entry of this operation
    have rest: ∀r:bc,r.d=o.dst→wU (cA S0 (wrF wl need i wr) (bk (need.getD i [])) (cn ub need i R) R i) ub i r→gC E S0 wr wl need ub K k (i+1) l ((i,r)::R)→
        ∃X l',ROk S0 ub ops m (X++(i,r)::R)∧(∀p∈X,i+1≤p.1)∧(∀j,i+1≤j→j<m→sf E S0 wr wl need ub ops (X++(i,r)::R) j)∧(∃pre',ops.toList=pre'++l'∧pre'.length=m)∧eB E m (dsR (X++(i,r)::R)) l' K (cA S0 wr jO (fd ub (X++(i,r)::R)) (X++(i,r)::R) m):=
      fun r hd hb hk=>BL hneed k (i+1) l (pre++[o]) _ (by rw [hl];simp) (by simp [hp]) (by omega) (hR.cons (hd.trans hdo) (fun k b h=>(hb k b h).1) (fun k b h=>(hb k b h).2)) hk
    have fC: ∀(r:bc) (X:List (Nat×bc)),(∀p∈X,i+1≤p.1)→cA S0 (wrF wl need i wr) (bk (need.getD i [])) (cn ub need i (X++(i,r)::R)) (X++(i,r)::R) i=cA S0 (wrF wl need i wr) (bk (need.getD i [])) (cn ub need i R) R i:=by
      intro r X hX
      have hsk: ∀p∈X++[(i,r)],bk (need.getD i []) p.1=false:=by
        intro p hp'
        have hge:i≤p.1:=by
          rcases List.mem_append.1 hp' with h|h
          · have:=hX p h;omega
          · simp at h;subst h;exact Nat.le_refl _
        cases hb:bk (need.getD i []) p.1 with
        | false=>rfl
        | true=>
          have:=hneed i (by omega) p.1 (ff.1 hb)
          omega
      have e:X++(i,r)::R=(X++[(i,r)])++R:=by simp
      unfold cA
      rw [e,BH hsk,BI hsk,HI hsk]
    have fin: ∀(r:bc),r.d=o.dst→wU (cA S0 (wrF wl need i wr) (bk (need.getD i [])) (cn ub need i R) R i) ub i r→gC E S0 wr wl need ub K k (i+1) l ((i,r)::R)→
        ((o.guard=none∧m0 E (cA S0 (wrF wl need i wr) (bk (need.getD i [])) (cn ub need i R) R i) ub i o r)∨ ∃j want b rj,o.guard=some (j,want)∧j∈need.getD i []∧(j,rj)∈R∧rj.d≠none∧gb rj.v=some b∧((b=some want∧m0 E (cA S0 (wrF wl need i wr) (bk (need.getD i [])) (cn ub need i R) R i) ub i o r)∨(b≠some want∧r.v= .tup []∧r.b=none)))→
        ∃X l',ROk S0 ub ops m (X++R)∧(∀p∈X,i≤p.1)∧(∀j,i≤j→j<m→sf E S0 wr wl need ub ops (X++R) j)∧(∃pre',ops.toList=pre'++l'∧pre'.length=m)∧eB E m (dsR (X++R)) l' K (cA S0 wr jO (fd ub (X++R)) (X++R) m):=by
      intro r hd hb hk hj
      obtain ⟨X,l',h1,h2,h3,h4,h5⟩:=rest r hd hb hk
      have e:X++(i,r)::R=(X++[(i,r)])++R:=by simp
      refine ⟨X++[(i,r)],l',by rw [←e];exact h1,?_,?_,h4,by rw [←e];exact h5⟩
      · intro p hp'
        rcases List.mem_append.1 hp' with h|h
        · have:=h2 p h;omega
        · simp at h;subst h;exact Nat.le_refl _
      · intro j hj1 hj2
        rw [←e]
        rcases Nat.lt_or_ge i j with h|h
        · exact h3 j h hj2
        · obtain rfl:j=i:=by omega
          intro o' ho'
          rw [ho] at ho';cases ho'
          refine ⟨r,by simp,hd,?_⟩
          rw [fC r X h2]
          rcases hj with hj|⟨j',want,b,rj,g1,g2,g3,g4⟩
          · exact .inl hj
          · exact .inr ⟨j',want,b,rj,g1,g2,by simp [g3],g4⟩
    simp only [gC] at hk
    rcases HJ hk with ⟨hg,hk⟩|⟨j,want,b,rj,hg,hns,hrj,hdj,hvj,⟨hb,hk⟩|⟨hb,hk⟩⟩
    · obtain ⟨r,hj,hk,hp'⟩:=BK hk
      exact fin r hj.1 hp' hk (.inl ⟨hg,hj⟩)
    · obtain ⟨r,hj,hk,hp'⟩:=BK hk
      exact fin r hj.1 hp' hk (.inr ⟨j,want,b,rj,hg,ff.1 hns,hrj,hdj,hvj,.inl ⟨hb,hj⟩⟩)
    · exact fin ⟨o.dst,.tup [],none⟩ rfl (fun k b hb=>by cases hb) hk (.inr ⟨j,want,b,rj,hg,ff.1 hns,hrj,hdj,hvj,.inr ⟨hb,rfl,rfl⟩⟩)
theorem wV: ∀{R:List (Nat×bc)} {j t:Nat},ab (dsR R) j=some t→ ∃r,(j,r)∈R∧r.d=some t
  | [],j,t,h=>by simp [dsR,ab] at h
  | (k,r)::R,j,t,h=>by
    simp only [dsR] at h
    split at h
    · rename_i t' ht
      simp only [ab] at h
      split at h
      · rename_i e;subst e;cases h;exact ⟨r,by simp,ht⟩
      · obtain ⟨r',h1,h2⟩:=wV h;exact ⟨r',by simp [h1],h2⟩
    · obtain ⟨r',h1,h2⟩:=wV h;exact ⟨r',by simp [h1],h2⟩
theorem HK [mo:Mo] (hwl:wlB ops m wl=true) (hE:a8 E) (hmo:E.P.follows .mixedOrders=true) {n n':Nat} (hsl:fv n ops=true) (hB:iN n' m ops wr need=true) (hU:ubB m need ub S0.nx=true) (hneed: ∀i,i<m→ ∀j∈need.getD i [],j<i) {K:St→Prop} {Q:Exit→Act→World→Prop} (hQ:wM E c0 n K (Q .normal))
    {id:Nat} {a:Act} (h:aT E c0 c ρ S0 F) (hf:Fr n F a) (hk:gC E S0 wr wl need ub K m 0 ops.toList []):wq E.P (Code.region id ops true) Q a c.w:=by
  simp only [iN,Bool.and_eq_true,decide_eq_true_eq] at hB
  obtain ⟨⟨⟨⟨⟨_,hE'⟩,hN⟩,hW⟩,hTB⟩,hm⟩:=hB
  obtain ⟨R,l',hR,_,hT,⟨pre',hl',hp'⟩,hk'⟩:=BL hneed m 0 ops.toList [] [] rfl rfl (by omega) ⟨by simp,by simp,by simp,by simp,.nil⟩ hk
  rw [List.append_nil] at hR hT hk'
  have hH0: ∀i b,ab S0.H i=some b→i<S0.nx:=by
    intro i b hb
    rcases Nat.lt_or_ge i S0.nx with h1|h1
    · exact h1
    · exfalso
      have h5:=h.1.heap _ _ hb
      have h6:=h.2 i h1
      cases b<;>first|(obtain ⟨_,h5,_⟩:=h5;rw [h6] at h5;cases h5)|(obtain ⟨h5,_⟩:=h5;rw [h6] at h5;cases h5)
  refine wpIn_region_any hmo ?_
  have hdr:Below c.w.heap.size c.w c.w.drew:=(Below.refl _ _).drew
  have hle:c.le (c.at c.w.drew hdr.size):=Cx.le_at hdr
  have hnone: ∀i,¬bT (Array.replicate ops.size false) i:=fun i hi=>by
    simp only [bT,Array.getD_eq_getD_getElem?,Array.getElem?_replicate] at hi
    split at hi<;>simp at hi
  refine Gj (Inv:=fun L F w=> ∃c ρ,c.w=w∧gD E c0 S0 ub m R L F c ρ) hsl hE' hN hTB hm ?_ (HH hE hwl hW hU hR hH0 (fun i hi=>hT i (Nat.zero_le _) hi)) ?_ ops.size _ (by simp) ?_ ?_ ?_ F _ ⟨c.at c.w.drew hdr.size,ρ,rfl,?_⟩ a hf
  · rintro L L' F w hL ⟨c,ρ,hc,hI⟩
    have hpb: ∀i,PB S0 ub R L' i→PB S0 ub R L i:=fun i h1=>⟨fun j r e1 e2=>h1.1 j r e1 ((hL j (hR.dst j r e1).1).1 e2),h1.2.imp (fun x=>x) fun ⟨l,r,b,g1,g2,g3⟩=>⟨l,r,b,g1,(hL l (hR.dst l r g1).1).2 g2,g3⟩⟩
    refine ⟨c,ρ,hc,hI.since,hI.gl,?_,fun t v ht hno=>hI.old t v ht fun j r g1 g2=>hno j r g1 ((hL j (hR.dst j r g1).1).1 g2),?_,?_,?_,?_⟩
    · intro j r hj hl;exact hI.slot j r hj ((hL j (hR.dst j r hj).1).2 hl)
    · intro j r k b hj hl hb hla hnk;exact hI.heap j r k b hj ((hL j (hR.dst j r hj).1).2 hl) hb (fun w r' b' hw hl'=>hla w r' b' hw ((hL w (hR.dst w r' hw).1).1 hl')) fun j r e1 e2=>hnk j r e1 ((hL j (hR.dst j r e1).1).1 e2)
    · intro i b hb hno hnk;exact hI.heap0 i b hb (fun j r b' g1 g2=>hno j r b' g1 ((hL j (hR.dst j r g1).1).1 g2)) fun j r e1 e2=>hnk j r e1 ((hL j (hR.dst j r e1).1).1 e2)
    · intro i j k hij h1 h2
      exact hI.sep i j k hij (hpb i h1) (hpb j h2)
    · intro i hi hne
      exact hI.fresh i hi fun j hj hl=>hne j hj ((hL j hj).1 hl)
  · rintro F w ⟨c,ρ,rfl,hI⟩ a hf
    have hS:aT E c0 c ρ (cA S0 wr jO (fd ub R) R m) F:=by
      refine ⟨hI.sim (wr:=wr) (fun t ht j r g1 _ g3=>ht (oB hW (hR.dst j r g1).1 ((hR.dst j r g1).2▸g3)).1) (fun _ _=>trivial) hH0 (fun _ _ _ _ _ _ _ _ _=>rfl) (fun k hk j r h1 _=>wO (HA hk) j r h1 rfl) m hR.ord (fun _ _ _ _ _ _ _ _ _ _ _ _ _ _ _=>rfl),fun i hi=>hI.fresh i ?_ ?_⟩
      · simp only [cA] at hi;omega
      · intro j hj _;simp only [cA] at hi;omega
    have hds:mZ ops m (dsR R):=by
      intro j t hj
      obtain ⟨r,h1,h2⟩:=wV hj
      obtain ⟨h3,h4⟩:=hR.dst j r h1
      exact ⟨h3,by rw [←h2,h4];rfl⟩
    have:=o7 hE hsl hQ l' pre' (dsR R) hl' (by rw [hp'];exact hds) c ρ _ F a hS hf (by rw [hp'];exact hk')
    rw [hp'] at this
    have hlen:l'.length=ops.size - m:=by
      have h6:ops.size=pre'.length+l'.length:=by
        have:=congrArg List.length hl'
        simpa using this
      omega
    rw [hlen] at this
    exact this
  · have: ∀i,(Array.replicate ops.size false).getD i false=false:=fun i=>by
      simp only [Array.getD_eq_getD_getElem?,Array.getElem?_replicate];split<;>rfl
    simp [leftOf,this]
  · intro i o hi;exact absurd hi (hnone i)
  · intro i hi;exact absurd hi (hnone i)
  · refine ⟨h.1.since.le hle,h.1.gl.mono hle.pub,?_,?_,?_,?_,?_,?_⟩
    · intro j r _ hl;exact absurd hl (hnone j)
    · intro t v ht _;exact bn hle.pub (h.1.slot t v ht)
    · intro j r k b _ hl;exact absurd hl (hnone j)
    · intro i b hb _ _;exact g9 hle.chg (fun _ _ _ hx=>by cases hx) (h.1.heap i b hb)
    · rintro i j k hij ⟨_,⟨bi,h1,h2⟩|⟨l,r,b,_,hl,_⟩⟩ ⟨_,⟨bj,h3,h4⟩|⟨l',r',b',_,hl',_⟩⟩
      · exact h.1.sep i j bi bj k hij h1 h3 h2 h4
      · exact absurd hl' (hnone _)
      · exact absurd hl (hnone _)
      · exact absurd hl (hnone _)
    · intro i hi _;exact h.2 i hi
end
end Go.Proofs.YteibkofekpejgaaGreatDoor
namespace Go.Proofs.YteibkofekpejgaaGreatDoor
open Go.RowKit
def Cx.lend (c:Cx) (Y:List Nat):Cx:={X:=c.X,w:=c.w,ok:=c.ok,Y:=Y}
theorem Cx.chg_lend (c:Cx) (Y:List Nat):c.chg none (c.lend Y):=⟨rfl,rfl,rfl,Nat.le_refl _,fun _ _ _=>rfl,fun _ _=>Iff.rfl,fun k hk=>by cases hk⟩
theorem Cx.pub_lend (c:Cx) (Y:List Nat):c.pub (c.lend Y):=(c.chg_lend Y).pub
section
variable {E:Env} {c0 c c1 c2:Cx} {ρ ρ':Ro} {S S':St} {F F':Fm}
theorem dY {i:Nat} {v:Value} {n:Nat} {a:Option Addr} {cap:Nat} (h1:ρ i=some v) (e:v= .slice a n cap):ak ρ i=blk v:=by
 unfold ak;rw [h1,e]
def cH (ρ:Ro) (H:List (Nat×Blk)):List Nat:=H.filterMap fun p=>match ab H p.1 with
 | some b=>if aU b then ak ρ p.1 else none
 | none=>none
theorem pd {H:List (Nat×Blk)} {k:Nat}:k∈cH ρ H↔ ∃i b,ab H i=some b∧aU b=true∧ak ρ i=some k:=by
 constructor
 ·intro h
  obtain ⟨p,hp,he⟩:=List.mem_filterMap.1 h
  split at he
  ·rename_i b hb
   split at he
   ·rename_i hp';exact ⟨p.1,b,hb,hp',he⟩
   ·cases he
  ·cases he
 ·rintro ⟨i,b,h1,h2,h3⟩
  exact List.mem_filterMap.2 ⟨(i,b),lm h1,by simp only [h1,h2,if_true];exact h3⟩
theorem BM {i:Nat} {b:Blk} (h:blkOk c0 c ρ i b) (hm:aU b=true→ ∀k,ak ρ i=some k→c1.mine k):blkOk c1 c ρ i b:=by
 cases b with
 | var n g d=>
  obtain ⟨b,h1,h2,h3⟩:=h
  exact ⟨b,h1,hm rfl b (by simp [ak,h1]),h3⟩
 | own E n g z l=>
  obtain ⟨v,h1,h2,h3,h4,a,cap,e,h5⟩:=h
  exact ⟨v,h1,h2,fun k hk=>hm rfl k (by rw [dY h1 e];exact hk),h4,a,cap,e,h5⟩
 | ownI E n g z l=>
  obtain ⟨v,h1,h2,h3,h4,a,cap,e,h5⟩:=h
  exact ⟨v,h1,h2,fun k hk=>hm rfl k (by rw [dY h1 e];exact hk),h4,a,cap,e,h5⟩
 | pvar n g d=>exact h
 | pown n g z l=>exact h
 | lent k n g d=>
  obtain ⟨h1,h2,h3⟩:=h
  exact ⟨h1,hm rfl k (by simp [ak,h1]),h3⟩
 | kset g k n l=>
  obtain ⟨r,h1,h2,h3⟩:=h
  exact ⟨r,h1,hm rfl r (by simp [ak,h1,blk]),h3⟩
theorem pe {i:Nat} {b:Blk} (hp:aU b=true) (h:blkOk c0 c ρ i b) {k:Nat} (hk:ak ρ i=some k):k∈c.X∧ ∃o,c.w.heap[k]? =some o∧(o.isCells=true∨((∃g k' n l,b= .kset g k' n l)∧ ∃es cl,o= .map es cl)):=by
 cases b with
 | var n g d=>
  obtain ⟨b,h1,h2,h3,T,cs,h4,_⟩:=h
  simp only [ak,h1,Option.some.injEq] at hk
  subst hk;exact ⟨h3,_,h4,.inl rfl⟩
 | own E n g z l=>
  obtain ⟨v,h1,h2,h3,h4,a,cap,e,h5⟩:=h
  rw [dY h1 e] at hk
  refine ⟨h2.isX k hk,?_⟩
  rcases h2.2 with ⟨a,rfl,_⟩|⟨g',cap,cur,rfl,g1,g2,_⟩
  ·cases a<;>simp [blk] at hk
  ·simp only [blk,Option.some.injEq] at hk;subst hk;exact ⟨_,g2,.inl rfl⟩
 | ownI E n g z l=>
  obtain ⟨v,h1,h2,h3,h4,a,cap,e,h5⟩:=h
  rw [dY h1 e] at hk
  refine ⟨h2.isX k hk,?_⟩
  rcases h2.2 with ⟨a,rfl,_⟩|⟨g',cap,cur,rfl,g1,g2,_⟩
  ·cases a<;>simp [blk] at hk
  ·simp only [blk,Option.some.injEq] at hk;subst hk;exact ⟨_,g2,.inl rfl⟩
 | pvar n g d=>cases hp
 | pown n g z l=>cases hp
 | lent k' n g d=>
  obtain ⟨h1,h2,h3,T,cs,h4,_⟩:=h
  simp only [ak,h1,Option.some.injEq] at hk
  subst hk;exact ⟨h3,_,h4,.inl rfl⟩
 | kset g k' n l=>
  obtain ⟨r,h1,h2,h3,h4,es,cl,h5,_⟩:=h
  simp only [ak,h1,blk,Option.some.injEq] at hk
  subst hk;exact ⟨h3,_,h5,.inr ⟨⟨g,k',n,l,rfl⟩,es,cl,rfl⟩⟩
theorem HL (h:aT E c0 c ρ S F) {k:Nat} (hk:k∈cH ρ S.H):k∈c.X:=by
 obtain ⟨i,b,h1,h2,h3⟩:=pd.1 hk
 exact (pe h2 (h.1.heap i b h1) h3).1
theorem sk (h:aT E c0 c ρ S F) {k:Nat} (hk:k∈cH ρ S.H):c0.mine k:=by
 obtain ⟨i,b,h1,h2,h3⟩:=pd.1 hk
 exact g_ h.1 h1 h2 k h3
theorem pf (h:aT E c0 c ρ S F):aT E (c.lend (cH ρ S.H)) (c.lend (cH ρ S.H)) ρ S F:=by
 refine ⟨⟨cy.refl _,h.1.gl.mono (c.pub_lend _),fun t v ht=>bn (c.pub_lend _) (h.1.slot t v ht),fun i b hb=> ?_,h.1.sep⟩,h.2⟩
 exact BM (g9 (c.chg_lend _) (fun _ _ _ e=>by cases e) (h.1.heap i b hb)) fun hp k hk=> .inr (pd.2 ⟨i,b,hb,hp,hk⟩)
theorem jP (h:aT E c0 c ρ S F) (hs:cy (c.lend (cH ρ S.H)) c2) (h2:aT E (c.lend (cH ρ S.H)) c2 ρ' S' F'):aT E c0 c2 ρ' S' F':=by
 have hm: ∀k,(c.lend (cH ρ S.H)).mine k→c0.mine k:=by
  rintro k (hk|hk)
  ·exact .inl (Nat.le_trans h.1.since.size hk)
  ·exact sk h hk
 refine ⟨⟨⟨⟨hs.below.os.trans h.1.since.below.os,hs.below.tape.trans h.1.since.below.tape,hs.below.output.trans h.1.since.below.output,Nat.le_trans h.1.since.size hs.size,fun k hk hy=> ?_⟩,fun k hk hy=> ?_,fun k hk hx=> ?_⟩,h2.1.gl,h2.1.slot,fun i b hb=> ?_,h2.1.sep⟩,h2.2⟩
 ·refine (hs.below.block k (Nat.lt_of_lt_of_le hk h.1.since.size) fun hY=> ?_).trans (h.1.since.below.block k hk hy)
  rcases sk h hY with h1|h1
  ·omega
  ·exact hy h1
 ·refine hs.X k (h.1.since.X k hk hy) fun hY=> ?_
  rcases sk h hY with h1|h1
  ·have:=c0.ok k hk;omega
  ·exact hy h1
 ·exact hs.Xn k (Nat.lt_of_lt_of_le hk h.1.since.size) (h.1.since.Xn k hk hx)
 ·exact BM (h2.1.heap i b hb) fun hp k hk=>hm k (g_ h2.1 hb hp k hk)
theorem BN (h:aT E c0 c ρ S F) (hs:cy (c.lend (cH ρ S.H)) c2):c.pub c2:=
 ⟨hs.size,fun k hk hx=>⟨hs.Xn k hk hx,fun o ho _=>(hs.below.block k hk fun hY=>hx (HL h hY)).trans ho⟩⟩
theorem wW (h:aT E c0 c ρ S F) (hs:cy (c.lend (cH ρ S.H)) c2) {k:Nat} {o:Obj} (ho:c.w.heap[k]? =some o) (hc:o.isCells=false) (hn:(∀es cl,o≠ .map es cl)∨ ∀i b,ab S.H i=some b→ ∀g k n l,b≠ .kset g k n l):c2.w.heap[k]? =some o:=by
 refine (hs.below.block k (Array.getElem?_eq_some_iff.1 ho).1 fun hY=> ?_).trans ho
 obtain ⟨i,b,h1,h2,h3⟩:=pd.1 hY
 obtain ⟨_,o',h4,h5⟩:=pe h2 (h.1.heap i b h1) h3
 rw [show c.w.heap[k]? =_ from ho] at h4
 cases h4
 rcases h5 with h5|⟨⟨g,k',n,l,e⟩,es,cl,e2⟩
 ·rw [hc] at h5;cases h5
 ·rcases hn with hn|hn
  ·exact hn es cl e2
  ·exact hn i b h1 g k' n l e
theorem sn (h:aT E c0 c ρ S F) {W':World} {row:Option Nat} (hg:c.w.grownBy W' row) (hr: ∀r,row=some r→c0.w.heap.size≤r∧ ∃o:Obj,c.w.heap[r]? =some o∧o.isCells=false)
  (hn: ∀r,row=some r→ ∀i b,ab S.H i=some b→aU b=true→ak ρ i≠some r): ∃c',c'.w=W'∧c.pub c'∧aT E c0 c' ρ S F:=by
 have keep: ∀k (o:Obj),c.w.heap[k]? =some o→o.isCells=true→W'.heap[k]? =some o:=fun k o ho hc=>by
  refine (hg.block k (Array.getElem?_eq_some_iff.1 ho).1 fun e=> ?_).trans ho
  obtain ⟨_,o',h1,h2⟩:=hr k e.symm
  rw [ho] at h1;cases h1;rw [hc] at h2;cases h2
 have hok: ∀k,k∈c.X→k<W'.heap.size:=fun k hk=>Nat.lt_of_lt_of_le (c.ok k hk) hg.size
 let c':Cx:=⟨c.X,W',hok,c.Y⟩
 have hp:c.pub c':=⟨hg.size,fun k hk hx=>⟨hx,fun o ho hc=>keep k o ho hc⟩⟩
 refine ⟨c',rfl,hp,⟨⟨⟨hg.os.trans h.1.since.below.os,hg.tape.trans h.1.since.below.tape,hg.output.trans h.1.since.below.output,Nat.le_trans h.1.since.size hg.size,fun k hk hy=> ?_⟩,h.1.since.X,h.1.since.Xn⟩,h.1.gl.mono hp,fun t v ht=>bn hp (h.1.slot t v ht),fun i b hb=> ?_,h.1.sep⟩,h.2⟩
 ·refine (hg.block k (Nat.lt_of_lt_of_le hk h.1.since.size) fun e=> ?_).trans (h.1.since.below.block k hk hy)
  have:=(hr k e.symm).1;omega
 ·have h1:=h.1.heap i b hb
  cases b with
  | var n g d=>
   obtain ⟨b,h1,h2,h3,T,cs,h4,h5,h6⟩:=h1
   exact ⟨b,h1,h2,h3,T,cs,keep _ _ h4 rfl,h5,bn hp h6⟩
  | own E n g z l=>
   obtain ⟨v,h1,h2,h3⟩:=h1
   refine ⟨v,h1,⟨h2.1,?_⟩,h3⟩
   rcases h2.2 with h'|⟨g',cap,cur,rfl,g1,g2,g3,g4,g5,g6⟩
   ·exact .inl h'
   ·exact .inr ⟨g',cap,cur,rfl,g1,keep _ _ g2 rfl,g3,g4,g5,cR hp g6⟩
  | ownI E n g z l=>
   obtain ⟨v,h1,h2,h3⟩:=h1
   refine ⟨v,h1,⟨h2.1,?_⟩,h3⟩
   rcases h2.2 with h'|⟨g',cap,cur,rfl,g1,g2,g3,g4,g5,g6⟩
   ·exact .inl h'
   ·exact .inr ⟨g',cap,cur,rfl,g1,keep _ _ g2 rfl,g3,g4,g5,cR hp g6⟩
  | pvar n g d=>
   obtain ⟨b,h1,h2⟩:=h1
   exact ⟨b,h1,(jA _).mono h2 hp⟩
  | pown n g z l=>
   obtain ⟨v,h1,h2⟩:=h1
   exact ⟨v,h1,bn hp h2⟩
  | lent k n g d=>
   obtain ⟨h1,h2,h3,T,cs,h4,h5,h6⟩:=h1
   exact ⟨h1,h2,h3,T,cs,keep _ _ h4 rfl,h5,bn hp h6⟩
  | kset g k n l=>
   obtain ⟨r,h1,h2,h3,h4,es,cl,h5,h6⟩:=h1
   refine ⟨r,h1,h2,h3,h4,es,cl,?_,h6⟩
   refine (hg.block r (Array.getElem?_eq_some_iff.1 h5).1 fun e=> ?_).trans h5
   exact hn r e.symm i _ hb rfl (by simp [ak,h1,blk])
def da (B:Nat):List Deferred→World→Prop
 | [],_=>True
 | d::ds,w=>(∃k,d={target:= .collected k,args:= #[]}∧B≤k∧w.heap[k]? =some (.deferred (some []))∧ ∀e∈ds,e≠d)∧da B ds w
theorem da.keep {B:Nat}: ∀{ds:List Deferred} {w w':World},da B ds w→(∀k,{target:= .collected k,args:= #[]}∈ds→w.heap[k]? =some (.deferred (some []))→w'.heap[k]? =some (.deferred (some [])))→da B ds w'
 | [],_,_,_,_=>trivial
 | d::ds,w,w',h,k=>by
  obtain ⟨⟨i,h1,h2,h3,h4⟩,h5⟩:=h
  exact ⟨⟨i,h1,h2,k i (by rw [h1];simp) h3,h4⟩,h5.keep fun j hj=>k j (List.mem_cons_of_mem _ hj)⟩
theorem da.since {B:Nat} {ds:List Deferred} (hd:da B ds c.w) (h:aT E c0 c ρ S F) (hs:cy (c.lend (cH ρ S.H)) c2):da B ds c2.w:=
 hd.keep fun _ _ ho=>wW h hs ho rfl (.inl fun _ _ e=>by cases e)
theorem da.mem {B:Nat}: ∀{ds:List Deferred} {w:World},da B ds w→ ∀{k:Nat},{target:= .collected k,args:= #[]}∈ds→w.heap[k]? =some (.deferred (some []))
 | [],_,_,_,h=>by cases h
 | d::ds,w,hd,k,h=>by
  obtain ⟨⟨i,h1,h2,h3,h4⟩,h5⟩:=hd
  rcases List.mem_cons.1 h with h|h
  ·rw [h1] at h;cases h;exact h3
  ·exact h5.mem h
theorem pg {Fe:Fence} {m:Nat} {fn:Func} {tmps:Array Value} {R:Ending→World→Prop}: ∀{ds:List Deferred} {c:Cx},aT E c0 c ρ S F→da c0.w.heap.size ds c.w→(∀c',aT E c0 c' ρ S F→ ∃v,(results fn tmps).run E.P c'.w= .ok v c'.w∧R (.returned v) c'.w)→LeavesInM Fe m E.P fn tmps R ds .returning c.w
 | [],c,h,_,k=>k c h
 | d::ds,c,h,hd,k=>by
  obtain ⟨⟨i,h1,h2,h3,h4⟩,h5⟩:=hd
  refine ⟨by simp,.inl ⟨i,_,by rw [h1],run_takeDeferred h3,?_⟩⟩
  have hg:=grownBy_putObj' c.w i (.deferred none)
  obtain ⟨c',e,_,h'⟩:=sn h hg (fun r e=>by cases e;exact ⟨h2,_,h3,rfl⟩) (fun r e j b hb hp hr=>by
   cases e
   obtain ⟨_,o,g1,g2⟩:=pe hp (h.1.heap j b hb) hr
   rw [h3] at g1;cases g1
   rcases g2 with g2|⟨_,es,cl,g2⟩
   ·cases g2
   ·cases g2)
  rw [←e]
  refine pg h' ?_ k
  rw [e]
  refine h5.keep fun j hj ho=>(World.putObj_heap_other fun e=> ?_).trans ho
  exact h4 _ hj (by rw [h1,e])
end
def gE (c:Cx) (W W':World):Prop:=W.heap.size≤W'.heap.size∧ ∀k,k<c.w.heap.size→k∉c.X→ ∀o:Obj,W.heap[k]? =some o→o.isCells=true→W'.heap[k]? =some o
def wX (E:Env) (gf:FuncId) (caps:List V) (xs:List (List V)):Prop:=
 (∀aas w,(callFunc gf aas).run E.P w= .ok (.enter gf aas) w)∧
 ∀(c:Cx) (us:List Value),Gl E c→rdT ro0 c caps us→ ∃encs:Nat→List Value,(∀i l,xs[i]? =some l→rdT ro0 c l (encs i))∧
  SeqStopsK Fence.wide 2 E.P gf us.toArray (fun i:Fin xs.length=>(encs i.val).toArray) (gE c) (fun l=>l.map (·.val)=List.range xs.length) (fun l=>l.map (·.val)=List.range l.length∧l≠[]) xs.length c.w
theorem HN {Fe:Fence} (hF:Fe.depth=none) {m m':Nat} {P:Program} {x:Code} {Q:Exit→Act→World→Prop} {a:Act} {w:World} (h:x.wpIn Fe m P Q a w):x.wpIn Fe m' P Q a w:=
 fun b k cs h1 h2 _=>h b k cs h1 h2 fun d hd=>by rw [hF] at hd;cases hd
def bU:Nat:=100000
def upF (F:List (Nat×V)):List (Nat×V):=F.map fun p=>(bU+p.1,p.2)
def dnF (F:List (Nat×V)):List (Nat×V):=F.filterMap fun p=>if bU≤p.1 then some (p.1 - bU,p.2) else none
def dnS (S:St):St:={S with F:=dnF S.F}
theorem BO: ∀{F:List (Nat×V)} {t:Nat},ab (dnF F) t=ab F (bU+t)
 | [],_=>rfl
 | (i,v)::l,t=>by
  have ih:=BO (F:=l) (t:=t)
  by_cases h:bU≤i
  ·simp only [dnF,List.filterMap_cons,h,if_true,ab] at ih⊢
   by_cases e:i=bU+t
   ·rw [if_pos e,if_pos (by omega)]
   ·rw [if_neg e,if_neg (by omega)];exact ih
  ·simp only [dnF,List.filterMap_cons,h,if_false,ab] at ih⊢
   rw [if_neg (by omega)];exact ih
theorem BP: ∀{F:List (Nat×V)} {t:Nat} {v:V},ab (upF F) t=some v→bU≤t∧ab F (t - bU)=some v
 | [],_,_,h=>by simp [upF,ab] at h
 | (i,x)::l,t,v,h=>by
  simp only [upF,List.map_cons,ab] at h⊢
  split at h
  ·rename_i e
   cases h
   exact ⟨by omega,by rw [if_pos (by omega)]⟩
  ·rename_i e
   obtain ⟨h1,h2⟩:=BP (F:=l) h
   exact ⟨h1,by rw [if_neg (by omega)];exact h2⟩
theorem BQ: ∀{A B:List (Nat×V)} {t:Nat},ab (A++B) t=match ab A t with|some v=>some v|none=>ab B t
 | [],B,t=>rfl
 | (i,v)::l,B,t=>by
  simp only [List.cons_append,ab]
  split
  ·rfl
  ·exact BQ
theorem wY {ρ:Ro} {c:Cx}: ∀{l:List V} {cs:List Value},rdT ρ c l cs→cs.length=l.length
 | [],cs,h=>by simp only [rdT] at h;subst h;rfl
 | d::l,cs,h=>by
  simp only [rdT] at h
  obtain ⟨u,c2,rfl,_,h3⟩:=h
  simp [wY h3]
def dt (l:List (Nat×Value)) (A:Array Value):Array Value:=l.foldl (fun t p=>t.setIfInBounds p.1 p.2) A
theorem BR: ∀{l:List (Nat×Value)} {A:Array Value},(dt l A).size=A.size
 | [],_=>rfl
 | p::l,A=>by simp only [dt,List.foldl_cons];exact (BR (l:=l)).trans (by simp)
theorem wZ: ∀{l:List (Nat×Value)} {A:Array Value} {t:Nat},t∉l.map (·.1)→(dt l A).getD t undef=A.getD t undef
 | [],_,_,_=>rfl
 | p::l,A,t,h=>by
  simp only [List.map_cons,List.mem_cons,not_or] at h
  simp only [dt,List.foldl_cons]
  refine (wZ (l:=l) h.2).trans ?_
  simp [Array.getD_eq_getD_getElem?,Ne.symm h.1]
theorem BS {c:Cx} {ρ:Ro}: ∀{ps:List Nat} {l:List V} {us:List Value} {A:Array Value} {t:Nat} {v:V},rdT ρ c l us→ps.Nodup→l.length=ps.length→(∀p∈ps,p<A.size)→ab (ps.zip l) t=some v→t∈ps∧rd ρ c v ((dt (ps.zip us) A).getD t undef)
 | [],_,_,_,_,_,_,_,_,_,h=>by simp [ab] at h
 | p::ps,[],_,_,_,_,_,_,hl,_,_=>by simp at hl
 | p::ps,d::l,us,A,t,v,hr,hn,hl,hA,h=>by
  simp only [rdT] at hr
  obtain ⟨u,us',rfl,h1,h2⟩:=hr
  simp only [List.zip_cons_cons,ab] at h
  simp only [List.nodup_cons] at hn
  split at h
  ·rename_i e
   cases h;subst e
   refine ⟨by simp,?_⟩
   simp only [List.zip_cons_cons,dt,List.foldl_cons]
   have:=wZ (l:=ps.zip us') (A:=A.setIfInBounds p u) (t:=p) (fun hm=>hn.1 (by
    obtain ⟨q,hq,e⟩:=List.mem_map.1 hm
    have:=(List.of_mem_zip hq).1
    rw [e] at this;exact this))
   simp only [dt] at this
   rw [this]
   have hp:=hA p (by simp)
   simpa [Array.getD_eq_getD_getElem?,hp] using h1
  ·obtain ⟨g1,g2⟩:=BS (A:=A.setIfInBounds p u) h2 hn.2 (by simpa using hl) (fun q hq=>by simpa using hA q (List.mem_cons_of_mem _ hq)) h
   exact ⟨List.mem_cons_of_mem _ g1,g2⟩
def asg:Code→Option (Nat×Nat)
 | .region _ ops false=>match ops.toList with
  | [o]=>match o.dst,o.op,o.guard with
   | some d,.assign (.tmp p),none=>some (d,p)
   | _,_,_=>none
  | _=>none
 | _=>none
theorem HO {Fe:Fence} {m:Nat} {P:Program} {x:Code} {d p:Nat} (h:asg x=some (d,p)) {K:Act→World→Prop} {Q:Exit→Act→World→Prop} {a:Act} {w:World} (hF: ∀f,Fe.fn f) (hk:K (a.put (some d) (a.tmps.getD p undef)) w):x.wpIn Fe m P (Exit.then K Q) a w:=by
 unfold asg at h
 split at h
 ·rename_i id ops
  split at h
  ·rename_i o ho
   split at h
   ·rename_i d' p' hd hop hg
    cases h
    have ho':ops= #[o]:=by rw [←Array.toArray_toList (xs:=ops),ho]
    subst ho'
    refine wpIn_region ?_
    have hw:Region.wanted o (yielded #[o] a.tmps)=true:=by simp [Region.wanted,hg]
    simp only [List.size_toArray,List.length_cons,List.length_nil,show List.range (0+1)=[0] from rfl,wpOpsIn,List.getElem?_toArray,List.getElem?_cons_zero,hw,if_true]
    refine ⟨fun f _=>hF f,?_⟩
    rw [Oper.semAt_eq _ _ _ fun c hc=>by rw [hop] at hc;cases hc]
    simp only [execOp,hop,Sem.run_pure,Oper.uponIn,hd]
    exact hk
   ·cases h
  ·cases h
 ·cases h
def jQ (H:List (Nat×Blk)):Bool:=H.all fun p=>match p.2 with| .kset _ _ _ _=>false|_=>true
theorem BT {H:List (Nat×Blk)} (h:jQ H=true) {i:Nat} {b:Blk} (hb:ab H i=some b): ∀g k n l,b≠ .kset g k n l:=by
 rintro g k n l rfl
 have:=List.all_eq_true.1 h _ (lm hb)
 simp at this
def so (F:List (Nat×V)):Bool:=F.all fun p=>decide (p.1<bU)
theorem HQ {F:List (Nat×V)} (h:so F=true) {t:Nat} {v:V} (ht:ab F t=some v):t<bU:=by
 have:=List.all_eq_true.1 h _ (lm ht)
 simpa using this
def sq (d p:Nat) (ps:List Nat) (l:List V) (S:St):St:=
 {S with F:=(match ab (ps.zip l) p with|some v=> [(d,v)]|none=> [])++ps.zip l++S.F++upF S.F}
end Go.Proofs.YteibkofekpejgaaGreatDoor
