/- Texts of this proof, one after the other: U4, U5, C0, PW, L1, L2. -/
import Derived.Test.YtgealhhkngbkbaaGreatDoorZ12
import Derived.Test.YtgealhhkngbkbaaGreatDoorZ9
import Derived.Lib.TrailingZeros
set_option linter.unusedVariables false
set_option linter.unusedSimpArgs false
namespace Go.Proofs.YtgealhhkngbkbaaGreatDoor
open Go.RowKit
set_option linter.unusedSimpArgs false
set_option maxHeartbeats 2000000 in
set_option maxRecDepth 100000 in
theorem MO (N:Nat) (ih: ∀(i_:aq) (depth:Int),hgt i_<N→aE En 212 [.agg [.int .i64 i_.Kind,.int .i64 i_.N,.sl none 1 false (i_.B.map (V.int .u8)),.sl none 4 true (i_.L.map bJ)],.int .i64 depth] (.bool (cc i_ depth)) []) (z0:Option Bool) (s:(List aq)) (f__c0:Int) (hp0: ∀x∈s,hgt x<N) (hp1:0<f__c0):aE En 241 [.sl z0 4 true (s.map bJ),.fn 232 [.pp 1 false (.int .i64 f__c0)]] (.int .i64 (sL s f__c0)) []:=by
 generalize hM:sL s f__c0=r
 rw [sL.eq_1] at hM
 refine bU bf bv noJ Tryz.func241 rfl Tryz.ntmps241 (by kernel_rfl) fun hw=>bu ?_
 refine spQ ?_
 replace hw:=nzQ hw
 have hM0:=hM;clear hM;obtain ⟨f1,d1,hf1,hd1,hM⟩:=aO hM0;clear hM0
 refine aS (fun n S=> ∃p:Int,S=(⟨[(0,.sl z0 4 true (s.map bJ)),(1,.fn 232 [.pp 1 false (.int .i64 f__c0)]),(7,.int .i64 (s.length:Int)),(8,.int .i64 p)],[],0⟩:St)∧((0≤p)∧(p≤(s.length:Int)))∧((s.length:Int) - p).toNat<n∧ae n f1 d1 p=r) (((s.length:Int) - 0).toNat+1) _ sbQ sbQ ⟨0,rfl,⟨omQ,omQ⟩,(Nat.lt_succ_self _),hM⟩ ?_
 clear hM
 rintro n1 S ⟨p1,rfl,hfa1,hm1,hM⟩
 have hM0:=hM;clear hM;obtain ⟨ag1,hag1,hM⟩:=aP hM0 (by omega) hf1;clear hM0
 replace hfa1:=nzQ hfa1
 replace hm1:=nzQ hm1
 have ha1:al .i64 p1 1=p1+1:=aY omQ omQ
 have hF:=ha1
 revert hM;revert hF
 refine slQ ?_
 refine aC fun _ _ _=> ?_
 intro hF hM
 have hM0:=hM;clear hM;obtain ⟨x5,hx6,hM⟩:=ap hM0;clear hM0
 have hcx5:=MN N ih (gt s p1) f__c0 (by (first|exact hp1|exact hp0 _ (aI (by omega)))) (by (first|exact hp1|exact hp0 _ (aI (by omega))))
 rw [←hx6] at hcx5
 refine aJ hcx5 (ar hF) (ar hF) (fun hw7=> ?_)
 replace hw7:=nzQ hw7
 revert hM;revert hF
 refine slQ ?_
 refine aT fun _ _ _=> ?_
 intro hF hM
 refine aM (n1 - 1) _ (by omega) sbQ sbQ ⟨(p1+1),rfl,⟨omQ,omQ⟩,omQ,aL hM hag1⟩
set_option maxHeartbeats 2000000 in
set_option maxRecDepth 100000 in
theorem MP (N:Nat) (ih: ∀(i_:aq) (depth:Int),hgt i_<N→aE En 212 [.agg [.int .i64 i_.Kind,.int .i64 i_.N,.sl none 1 false (i_.B.map (V.int .u8)),.sl none 4 true (i_.L.map bJ)],.int .i64 depth] (.bool (cc i_ depth)) []) (z0:Option Bool) (s:(List aq)) (f__c0:Int) (hp0: ∀x∈s,hgt x<N) (hp1:0<f__c0):aE En 231 [.sl z0 4 true (s.map bJ),.fn 232 [.pp 1 false (.int .i64 f__c0)]] (.bool (nK s f__c0)) []:=by
 generalize hM:nK s f__c0=r
 rw [nK.eq_1] at hM
 refine bU bf bv noJ Tryz.func231 rfl Tryz.ntmps231 (by kernel_rfl) fun hw=>bu ?_
 refine spQ ?_
 replace hw:=nzQ hw
 have hM0:=hM;clear hM;obtain ⟨x1,hx2,hM⟩:=ap hM0;clear hM0
 have hcx1:=MO N ih z0 s f__c0 (by (first|exact hp1|exact hp0)) (by (first|exact hp1|exact hp0))
 rw [←hx2] at hcx1
 refine aJ hcx1 clQ clQ (fun hw3=> ?_)
 replace hw3:=nzQ hw3
 have hF:=bW
 exact auP
set_option maxHeartbeats 2000000 in
set_option maxRecDepth 100000 in
theorem MQ (N:Nat) (ih: ∀(i_:aq) (depth:Int),hgt i_<N→aE En 212 [.agg [.int .i64 i_.Kind,.int .i64 i_.N,.sl none 1 false (i_.B.map (V.int .u8)),.sl none 4 true (i_.L.map bJ)],.int .i64 depth] (.bool (cc i_ depth)) []) (i_:aq) (depth:Int) (hp_:hgt i_<N+1):aE En 212 [.agg [.int .i64 i_.Kind,.int .i64 i_.N,.sl none 1 false (i_.B.map (V.int .u8)),.sl none 4 true (i_.L.map bJ)],.int .i64 depth] (.bool (pK i_ depth)) []:=by
 generalize hM:pK i_ depth=r
 rw [pK.eq_1] at hM
 refine bU bf bv noJ Tryz.func212 rfl Tryz.ntmps212 (by kernel_rfl) fun hw=>bu ?_
 refine spQ ?_
 replace hw:=nzQ hw
 have hF:=bW
 revert hM;revert hF
 refine aT fun _ _ _=> ?_
 refine aT fun _ _ _=> ?_
 refine aC fun _ _ _=> ?_
 refine aC fun _ _ _=> ?_
 refine aC fun _ _ _=> ?_
 refine aC fun _ _ _=> ?_
 refine aC fun _ _ _=> ?_
 intro hF hM
 have hM0:=hM;clear hM;obtain ⟨x23,hx24,hM⟩:=ap hM0;clear hM0
 have hcx23:=MP N ih none (i_.L) depth (by (first|omega|exact fun x hx=>Nat.lt_of_lt_of_le (fN hx) (Nat.lt_succ_iff.1 hp_))) (by (first|omega|exact fun x hx=>Nat.lt_of_lt_of_le (fN hx) (Nat.lt_succ_iff.1 hp_)))
 rw [←hx24] at hcx23
 refine eW hcx23 clQ clQ (fun hw25=> ?_)
 replace hw25:=nzQ hw25
 exact auP
theorem MR: ∀(N:Nat) (i_:aq) (depth:Int),hgt i_<N→aE En 212 [.agg [.int .i64 i_.Kind,.int .i64 i_.N,.sl none 1 false (i_.B.map (V.int .u8)),.sl none 4 true (i_.L.map bJ)],.int .i64 depth] (.bool (cc i_ depth)) []:=by
 intro N
 induction N with
 | zero=>intro i_ depth h;exact absurd h (Nat.not_lt_zero _)
 | succ N ih=>
  intro i_ depth h
  have h9:=MQ N ih i_ depth h
  rw [Ka] at h9
  exact h9
theorem MS (i_:aq) (depth:Int):aE En 212 [.agg [.int .i64 i_.Kind,.int .i64 i_.N,.sl none 1 false (i_.B.map (V.int .u8)),.sl none 4 true (i_.L.map bJ)],.int .i64 depth] (.bool (cc i_ depth)) []:=
 MR (hgt i_+1) i_ depth (Nat.lt_succ_self _)
set_option maxHeartbeats 2000000 in
set_option maxRecDepth 100000 in
instance Rq (i_:aq):CM En (sM i_) 188 [.agg [.int .i64 i_.Kind,.int .i64 i_.N,.sl none 1 false (i_.B.map (V.int .u8)),.sl none 4 true (i_.L.map bJ)]] (fun y=> .bool y) (fun _=> []):=by
 refine enQ noJ Tryz.func188 Tryz.ntmps188 (sM.eq_1 ..) fun r hw=> ?_
 intro hF hM
 have hM0:=hM;clear hM;obtain ⟨x1,hx2,hM⟩:=ap hM0;clear hM0
 have hcx1:=MS i_ 8
 rw [←hx2] at hcx1
 refine aJ hcx1 clQ clQ (fun hw3=> ?_)
 replace hw3:=nzQ hw3
 exact auP
set_option maxHeartbeats 2000000 in
set_option maxRecDepth 100000 in
theorem xl (z0:Option Bool) (out:(List Int)) (n_:Int) (size:Int) (hp0:size≤8) (hp1:out.length≤1000000000) (hp2:0≤size):bG En 213 [.own 0,.int .u64 n_,.int .i64 size] [.own 5 1 false z0 (out.map (V.int .u8))] (.own 0) [.own 5 1 false none ((jE out n_ size).map (V.int .u8))] []:=by
 generalize hM:jE out n_ size=r
 rw [jE.eq_1] at hM
 refine dY bf bv noJ Tryz.func213 rfl Tryz.ntmps213 (by kernel_rfl) rfl fun ks hw hwB=>bu ?_
 refine spQ ?_
 replace hw:=nzQ hw
 replace hwB:=nzB hwB
 have ha1:av .i64 size 1=(size - 1):=dc omQ omQ
 try simp only [ha1]
 have hM0:=hM;clear hM;obtain ⟨f2,d2,hf2,hd2,hM⟩:=aO hM0;clear hM0
 refine aS (fun n S=> ∃p:Int×List Int,S=(⟨[(0,.own 0),(1,.int .u64 n_),(7,.int .i64 p.1)],[(0,.own 5 1 false none (p.2.map (V.int .u8)))],1⟩:St)∧((-1≤p.1)∧(p.1<8)∧(((p.2).length:Int)+p.1≤1000000020))∧(p.1+1).toNat<n∧ae n f2 d2 p=r) (((size - 1)+1).toNat+1) _ sbQ sbQ ⟨((size - 1),out),rfl,⟨omQ,omQ,omQ⟩,(Nat.lt_succ_self _),hM⟩ ?_
 clear hM
 rintro n2 S ⟨p2,rfl,hfa2,hm2,hM⟩
 have hM0:=hM;clear hM;obtain ⟨ag2,hag2,hM⟩:=aP hM0 (by omega) hf2;clear hM0
 replace hfa2:=nzQ hfa2
 replace hm2:=nzQ hm2
 have hF:=ha1
 revert hM;revert hF
 refine slQ ?_
 refine cdQ (fun _ _ _=> ?_) (fun _ _ _=> ?_)
 ·obtain ⟨ha5,hbha5⟩:=kn (a:=8) (b:=p2.1) 8 8 64 am am am am (by decide) (by decide)
  intro hF hM
  try simp only [ha5]
  replace hF:=(And.intro ha5 hF)
  revert hM;revert hF
  refine slQ ?_
  have ha6:av .i64 p2.1 1=(p2.1 - 1):=dc am am
  intro hF hM
  try simp only [ha6]
  refine aM (n2 - 1) _ (by omega) sbQ sbQ ⟨((p2.1 - 1),(p2.2++([(ah .u8 (aw .u64 n_ (8*p2.1)))]:List Int))),rfl,⟨omQ,omQ,omQ⟩,omQ,aL hM hag2⟩
 ·intro hF hM
  subst hM
  exact bm [0] (aD hF) (by decide) (aD hF)
instance (priority:=1027):DRD 8 55 8 [28,29,30,31,32,33,34,35] [] ([[],[],[1],[1,2],[1,2,3],[0,1,2,3,4],[],[6]]++[List.range 8,List.range 9]) [(5,0)]:=⟨trivial⟩
set_option maxHeartbeats 2000000 in
set_option maxRecDepth 100000 in
theorem MT (N:Nat) (ih: ∀(z0:Option Bool) (out:(List Int)) (i_:aq),(hgt i_≤500000000)→hgt i_<N→bG En 189 [.own 0,.agg [.int .i64 i_.Kind,.int .i64 i_.N,.sl none 1 false (i_.B.map (V.int .u8)),.sl none 4 true (i_.L.map bJ)]] [.own 5 1 false z0 (out.map (V.int .u8))] (.own 0) [.own 5 1 false none ((ee out i_).map (V.int .u8))] []) (z0:Option Bool) (out:(List Int)) (i_:aq) (hp0:hgt i_≤500000000) (hp_:hgt i_<N+1):bG En 189 [.own 0,.agg [.int .i64 i_.Kind,.int .i64 i_.N,.sl none 1 false (i_.B.map (V.int .u8)),.sl none 4 true (i_.L.map bJ)]] [.own 5 1 false z0 (out.map (V.int .u8))] (.own 0) [.own 5 1 false none ((pL out i_).map (V.int .u8))] []:=by
 generalize hM:pL out i_=r
 rw [pL.eq_1] at hM
 refine dY bf bv noJ Tryz.func189 rfl Tryz.ntmps189 (by kernel_rfl) rfl fun ks hw hwB=>bu ?_
 refine spQ ?_
 replace hw:=nzQ hw
 replace hwB:=nzB hwB
 have hG0:=nk i_
 have hF:=bW
 revert hM;revert hF
 refine cdQ (fun _ _ _=> ?_) (fun _ _ _=> ?_)
 ·intro hF hM
  subst hM
  exact bm [0] (aD hF) (by decide) (aD hF)
 ·refine cdQ (fun _ _ _=> ?_) (fun _ _ _=> ?_)
  ·intro hF hM
   have hM0:=hM;clear hM;obtain ⟨x6,hx7,hM⟩:=ap hM0;clear hM0
   have hcx6:=xl (some false) (out++([(ah .u8 i_.Kind)]:List Int)) (ah .u64 i_.N) 8 (by (exact pfQ)) (by (exact pfQ)) (by (exact pfQ))
   rw [←hx7] at hcx6
   refine bR [0] hcx6 (by decide) lsQ lsQ (fun hw8=> ?_)
   replace hw8:=nzQ hw8
   revert hM;revert hF
   refine slQ ?_
   have hq9:=wP hx7
   replace hq9:=nzQ hq9
   intro hF hM
   subst hM
   exact bm [0] (aD hF) (by decide) (aD hF)
  ·refine cdQ (fun _ _ _=> ?_) (fun _ _ _=> ?_)
   ·intro hF hM
    have hM0:=hM;clear hM;obtain ⟨x13,hx14,hM⟩:=ap hM0;clear hM0
    have hcx13:=xl (some false) (out++([(ah .u8 i_.Kind)]:List Int)) (ah .u64 (i_.B.length:Int)) 4 (by (exact pfQ)) (by (exact pfQ)) (by (exact pfQ))
    rw [←hx14] at hcx13
    refine Jf 0 hcx13 lsQ lsQ lsQ (Av fun _=>lsQ) ?_
    revert hM;revert hF
    refine slQ ?_
    have hq15:=wP hx14
    replace hq15:=nzQ hq15
    refine slQ ?_
    intro hF hM
    subst hM
    exact bm [8] (aD hF) (by decide) (aD hF)
   ·intro hF hM
    have hM0:=hM;clear hM;obtain ⟨x17,hx18,hM⟩:=ap hM0;clear hM0
    have hcx17:=xl (some false) (out++([(ah .u8 i_.Kind)]:List Int)) (ah .u64 (i_.L.length:Int)) 4 (by (exact pfQ)) (by (exact pfQ)) (by (exact pfQ))
    rw [←hx18] at hcx17
    refine bR [0] hcx17 (by decide) lsQ lsQ (fun hw19=> ?_)
    replace hw19:=nzQ hw19
    revert hM;revert hF
    refine slQ ?_
    have hq20:=wP hx18
    replace hq20:=nzQ hq20
    intro hF hM
    have hM0:=hM;clear hM;obtain ⟨f21,d21,hf21,hd21,hM⟩:=aO hM0;clear hM0
    refine aS (fun n S=> ∃p:Int×List Int,S=(⟨[(0,.own 0),(44,.sl none 4 true (i_.L.map bJ)),(45,.int .i64 (i_.L.length:Int)),(46,.int .i64 p.1)],[(0,.own 5 1 false none (p.2.map (V.int .u8)))],3⟩:St)∧((0≤p.1)∧(p.1≤(i_.L.length:Int)))∧((i_.L.length:Int) - p.1).toNat<n∧ae n f21 d21 p=r) (((i_.L.length:Int) - 0).toNat+1) _ sbQ sbQ ⟨(0,x17),rfl,⟨by exact omA,by exact omA⟩,(Nat.lt_succ_self _),hM⟩ ?_
    clear hM
    rintro n21 S ⟨p21,rfl,hfa21,hm21,hM⟩
    have hM0:=hM;clear hM;obtain ⟨ag21,hag21,hM⟩:=aP hM0 (by omega) hf21;clear hM0
    replace hfa21:=nzQ hfa21
    replace hm21:=nzQ hm21
    have ha21:al .i64 p21.1 1=p21.1+1:=aY (by exact omA) (by exact omA)
    replace hF:=(And.intro ha21 hF)
    revert hM;revert hF
    refine slQ ?_
    refine cdQ (fun _ _ _=> ?_) (fun _ _ _=> ?_)
    ·intro hF hM
     have hM0:=hM;clear hM;obtain ⟨x25,hx26,hM⟩:=ap hM0;clear hM0
     have hcx25:=ih none (p21.2) (gt i_.L p21.1) (by (have h9:=fN (i:=i_) (aI (l:=i_.L) (i:=p21.1) (by omega));omega)) (by (have h9:=fN (i:=i_) (aI (l:=i_.L) (i:=p21.1) (by omega));omega))
     rw [←hx26] at hcx25
     refine bR [0] hcx25 (by decide) (aD hF) (aD hF) (fun hw27=> ?_)
     replace hw27:=nzQ hw27
     exact auP
    ·intro hF hM
     subst hM
     exact bm [0] (aD hF) (by decide) (aD hF)
theorem MU: ∀(N:Nat) (z0:Option Bool) (out:(List Int)) (i_:aq),(hgt i_≤500000000)→hgt i_<N→bG En 189 [.own 0,.agg [.int .i64 i_.Kind,.int .i64 i_.N,.sl none 1 false (i_.B.map (V.int .u8)),.sl none 4 true (i_.L.map bJ)]] [.own 5 1 false z0 (out.map (V.int .u8))] (.own 0) [.own 5 1 false none ((ee out i_).map (V.int .u8))] []:=by
 intro N
 induction N with
 | zero=>intro z0 out i_ h0 h;exact absurd h (Nat.not_lt_zero _)
 | succ N ih=>
  intro z0 out i_ h0 h
  have h9:=MT N ih z0 out i_ h0 h
  rw [Kb] at h9
  exact h9
theorem MV (z0:Option Bool) (out:(List Int)) (i_:aq) (hp0:hgt i_≤500000000):bG En 189 [.own 0,.agg [.int .i64 i_.Kind,.int .i64 i_.N,.sl none 1 false (i_.B.map (V.int .u8)),.sl none 4 true (i_.L.map bJ)]] [.own 5 1 false z0 (out.map (V.int .u8))] (.own 0) [.own 5 1 false none ((ee out i_).map (V.int .u8))] []:=
 MU (hgt i_+1) z0 out i_ hp0 (Nat.lt_succ_self _)
set_option maxHeartbeats 2000000 in
set_option maxRecDepth 100000 in
theorem MW (i_:aq) (hp0:hgt i_≤500000000):CM En (jF i_) 160 [.agg [.int .i64 i_.Kind,.int .i64 i_.N,.sl none 1 false (i_.B.map (V.int .u8)),.sl none 4 true (i_.L.map bJ)]] (fun y=> .tup [.sl none 1 false (y.1.map (V.int .u8)),.int .i64 y.2]) (fun _=> []):=by
 refine enQ noJ Tryz.func160 Tryz.ntmps160 (jF.eq_1 ..) fun r hw=> ?_
 refine bh fun _ _ _ _=> ?_
 refine aT fun _ _ _=> ?_
 intro hF hM
 have hM0:=hM;clear hM;obtain ⟨x7,hx8,hM⟩:=ap hM0;clear hM0
 have hcx7:=Jl (pre:=[]) (post:=[_]) (MV (some true) ([]:List Int) i_ (by (exact pfQ))) (by decide)
 rw [←hx8] at hcx7
 simp only [List.nil_append,List.cons_append] at hcx7
 refine I0 hcx7 clQ (fun hw9=> ?_)
 replace hw9:=nzQ hw9
 exact auP
set_option maxHeartbeats 2000000 in
set_option maxRecDepth 100000 in
theorem C6 (tag:(List UInt8)) (t:aV) (label:(List UInt8)) (more:(List aq)) (hp0:bO more≤100000) (hp1:more.length≤10) (hp2:label.length≤100) (hp3:tag.length≤100):CM En (mh tag t label more) 121 [.str tag,(dB t),.str label,.sl none 4 true (more.map bJ)] (fun y=> .tup [(dM y.1),.int .i64 y.2]) (fun _=> []):=by
 refine enQ noJ Tryz.func121 Tryz.ntmps121 (mh.eq_1 ..) fun r hw=> ?_
 refine slQ ?_
 intro hF hM
 have hM0:=hM;clear hM;obtain ⟨x1,hx2,hM⟩:=ap hM0;clear hM0
 have hcx1:=cmH hx2 (MW ({Kind:=3,N:=0,B:=([]:List Int),L:=(([({Kind:=2,N:=0,B:=(br 32 t.State),L:=([]:List aq)}:aq),({Kind:=2,N:=0,B:=(bK label),L:=([]:List aq)}:aq)]:List aq)++more)}:aq) (by (clear hM;simp only [hgt,bO,Bh,dL,cL,List.length_nil];omega)))
 refine vP hcx1 (Kw (S:=⟨_,_,_⟩) 3 ((([({Kind:=2,N:=0,B:=(br 32 t.State),L:=([]:List aq)}:aq),({Kind:=2,N:=0,B:=(bK label),L:=([]:List aq)}:aq)]:List aq)++more).map bJ) rfl sbQ) clQ (fun hw3=> ?_)
 replace hw3:=nzQ hw3
 revert hM;revert hF
 refine slQ ?_
 have hq4:=Kj hx2
 replace hq4:=nzQ hq4
 refine aT fun _ _ _=> ?_
 intro hF hM
 have hM0:=hM;clear hM;obtain ⟨x8,hx9,hM⟩:=ap hM0;clear hM0
 have hcx8:=cmH hx9 (C5 tag (x1.1) (by (exact pfQ)))
 refine aJ hcx8 clQ clQ (fun hw10=> ?_)
 replace hw10:=nzQ hw10
 exact auP
set_option maxHeartbeats 2000000 in
set_option maxRecDepth 100000 in
theorem C7 (t:aV) (label:(List UInt8)) (i_:aq) (hp0:hgt i_≤10000):CM En (mi t label i_) 66 [(dB t),.str label,.agg [.int .i64 i_.Kind,.int .i64 i_.N,.sl none 1 false (i_.B.map (V.int .u8)),.sl none 4 true (i_.L.map bJ)]] (fun y=> .tup [(dB y.1),.int .i64 y.2]) (fun _=> []):=by
 refine enQ noJ Tryz.func66 Tryz.ntmps66 (mi.eq_1 ..) fun r hw=> ?_
 refine bh fun _ _ _ _=> ?_
 refine aC fun _ _ _=> ?_
 refine bh fun _ _ _ _=> ?_
 refine aT fun _ _ _=> ?_
 intro hF hM
 have hM0:=hM;clear hM;obtain ⟨x13,hx14,hM⟩:=ap hM0;clear hM0
 have hcx13:=cmH hx14 (C6 ([115,112,101,99,105,101,47,97,98,115,111,114,98]) t label ([i_]:List aq) (by (clear hM;first|omega|decide|(simp only [bO,List.length_cons,List.length_nil];omega))) (by (clear hM;first|omega|decide|(simp only [bO,List.length_cons,List.length_nil];omega))) (by (clear hM;first|omega|decide|(simp only [bO,List.length_cons,List.length_nil];omega))) (by (clear hM;first|omega|decide|(simp only [bO,List.length_cons,List.length_nil];omega))))
 refine eW hcx13 clQ clQ (fun hw15=> ?_)
 replace hw15:=nzQ hw15
 exact auP
set_option maxHeartbeats 2000000 in
set_option maxRecDepth 100000 in
theorem xm (name:(List UInt8)) (i_:aq) (c0:Int) (c1:aV) (hp0:hgt i_≤10000):bG En 65 [.str name,.agg [.int .i64 i_.Kind,.int .i64 i_.N,.sl none 1 false (i_.B.map (V.int .u8)),.sl none 4 true (i_.L.map bJ)],.ptr 0 0,.ptr 1 0] [.var 1 false (.int .i64 c0),.var 33 true ((dB c1))] (.tup []) [.var 1 false (.int .i64 (bH name i_ c0 c1).1),.var 33 true (.agg (.int .u8 (gt (bH name i_ c0 c1).2.State 0):: .int .u8 (gt (bH name i_ c0 c1).2.State 1):: .int .u8 (gt (bH name i_ c0 c1).2.State 2):: .int .u8 (gt (bH name i_ c0 c1).2.State 3):: .int .u8 (gt (bH name i_ c0 c1).2.State 4):: .int .u8 (gt (bH name i_ c0 c1).2.State 5):: .int .u8 (gt (bH name i_ c0 c1).2.State 6):: .int .u8 (gt (bH name i_ c0 c1).2.State 7):: .int .u8 (gt (bH name i_ c0 c1).2.State 8):: .int .u8 (gt (bH name i_ c0 c1).2.State 9):: .int .u8 (gt (bH name i_ c0 c1).2.State 10):: .int .u8 (gt (bH name i_ c0 c1).2.State 11):: .int .u8 (gt (bH name i_ c0 c1).2.State 12):: .int .u8 (gt (bH name i_ c0 c1).2.State 13):: .int .u8 (gt (bH name i_ c0 c1).2.State 14):: .int .u8 (gt (bH name i_ c0 c1).2.State 15):: .int .u8 (gt (bH name i_ c0 c1).2.State 16):: .int .u8 (gt (bH name i_ c0 c1).2.State 17):: .int .u8 (gt (bH name i_ c0 c1).2.State 18):: .int .u8 (gt (bH name i_ c0 c1).2.State 19):: .int .u8 (gt (bH name i_ c0 c1).2.State 20):: .int .u8 (gt (bH name i_ c0 c1).2.State 21):: .int .u8 (gt (bH name i_ c0 c1).2.State 22):: .int .u8 (gt (bH name i_ c0 c1).2.State 23):: .int .u8 (gt (bH name i_ c0 c1).2.State 24):: .int .u8 (gt (bH name i_ c0 c1).2.State 25):: .int .u8 (gt (bH name i_ c0 c1).2.State 26):: .int .u8 (gt (bH name i_ c0 c1).2.State 27):: .int .u8 (gt (bH name i_ c0 c1).2.State 28):: .int .u8 (gt (bH name i_ c0 c1).2.State 29):: .int .u8 (gt (bH name i_ c0 c1).2.State 30):: .int .u8 (gt (bH name i_ c0 c1).2.State 31):: .int .i64 (bH name i_ c0 c1).2.Count::[]))] []:=by
 generalize hM:bH name i_ c0 c1=r
 rw [bH.eq_1] at hM
 refine dY bf bv noJ Tryz.func65 rfl Tryz.ntmps65 (by kernel_rfl) rfl fun ks hw hwB=>bu ?_
 refine spQ ?_
 replace hw:=nzQ hw
 replace hwB:=nzB hwB
 have hF:=bW
 revert hM;revert hF
 refine cdQ (fun _ _ _=> ?_) (fun _ _ _=> ?_)
 ·intro hF hM
  have hM0:=hM;clear hM;obtain ⟨x3,hx4,hM⟩:=ap hM0;clear hM0
  have hcx3:=cmH hx4 (C7 c1 name i_ (by (exact hp0)))
  refine aJ hcx3 clQ clQ (fun hw5=> ?_)
  replace hw5:=nzQ hw5
  revert hM;revert hF
  refine slQ ?_
  intro hF hM
  subst hM
  exact bm [0,1] (aD hF) (by decide) (aD hF)
 ·intro hF hM
  subst hM
  exact bm [0,1] (aD hF) (by decide) (aD hF)
set_option maxHeartbeats 2000000 in
set_option maxRecDepth 100000 in
instance Rr (l:(List Int)):CM En (iI l) 67 [.sl none 1 false (l.map (V.int .i64))] (fun y=> .agg [.int .i64 y.Kind,.int .i64 y.N,.sl none 1 false (y.B.map (V.int .u8)),.sl none 4 true (y.L.map bJ)]) (fun _=> []):=by
 refine enQ noJ Tryz.func67 Tryz.ntmps67 (iI.eq_1 ..) fun r hw=> ?_
 intro hF hM
 have hM0:=hM;clear hM;obtain ⟨f1,d1,hf1,hd1,hM⟩:=aO hM0;clear hM0
 refine gU (fun n S=> ∃p:Int×List aq,S=(⟨[(2,.ptr 0 0),(3,.ptr 1 0),(7,.sl none 1 false (l.map (V.int .i64))),(8,.int .i64 (l.length:Int)),(9,.int .i64 p.1)],[(0,.var 4 true (.agg [.int .i64 0,.int .i64 0,.sl (some true) 1 false [],.sl (some true) 4 true []])),(1,.var 4 true (.agg [.int .i64 3,.int .i64 0,.sl (some true) 1 false [],.own 2])),(2,.own 102 4 true none (p.2.map bJ))],3⟩:St)∧((0≤p.1)∧(p.1≤(l.length:Int))∧(((p.2).length:Int)≤p.1))∧((l.length:Int) - p.1).toNat<n∧ae n f1 d1 p=r) (((l.length:Int) - 0).toNat+1) _ _ (o9 1 3 102 rfl rfl (by decide)) sbQ sbQ ⟨(0,([]:List aq)),rfl,⟨omQ,omQ,omQ⟩,(Nat.lt_succ_self _),hM⟩ ?_
 clear hM
 rintro n1 S ⟨p1,rfl,hfa1,hm1,hM⟩
 have hM0:=hM;clear hM;obtain ⟨ag1,hag1,hM⟩:=aP hM0 (by omega) hf1;clear hM0
 replace hfa1:=nzQ hfa1
 replace hm1:=nzQ hm1
 have ha1:al .i64 p1.1 1=p1.1+1:=aY omQ omQ
 replace hF:=(And.intro ha1 hF)
 revert hM;revert hF
 refine slQ ?_
 refine aC fun _ _ _=> ?_
 intro hF hM
 refine aM (n1 - 1) _ (by omega) sbQ sbQ ⟨((p1.1+1),(p1.2++([({Kind:=1,N:=(gt l p1.1),B:=([]:List Int),L:=([]:List aq)}:aq)]:List aq))),rfl,⟨omQ,omQ,omQ⟩,omQ,aL hM hag1⟩
set_option maxHeartbeats 2000000 in
set_option maxRecDepth 100000 in
instance Rs (a_:Int) (b:Int) (m:Int):CM En (nL a_ b m) 161 [.int .i64 a_,.int .i64 b,.int .i64 m] (fun y=> .tup [.int .i64 y.1,.int .i64 y.2]) (fun _=> []):=by
 refine enQ noJ Tryz.func161 Tryz.ntmps161 (nL.eq_1 ..) fun r hw=> ?_
 exact auR
set_option maxHeartbeats 2000000 in
set_option maxRecDepth 100000 in
instance Rt (h_:(List Int)) (m:Int):CM En (nM h_ m) 122 [(dM h_),.int .i64 m] (fun y=> .tup [.int .i64 y.1,.int .i64 y.2]) (fun _=> []):=by
 refine cmQ fun r hM=> ?_
 rw [nM.eq_1] at hM
 refine bU bf bv noJ Tryz.func122 rfl Tryz.ntmps122 (by kernel_rfl) fun hw=>bu ?_
 refine spQ ?_
 replace hw:=nzQ hw
 refine ke (fun h1=> ?_) (fun h1=> ?_)
 ·rw [if_neg (bL h1)] at hM
  refine au h1 ?_
  have nh1:=nzQ h1
  try have hr2:=mpQ nh1
  refine bY (fun h3=> ?_) (fun h3=> ?_)
  ·rw [if_pos h3] at hM
   refine au h3 ?_
   have nh3:=nzQ h3
   try have hr4:=mpQ nh3
   subst hM
   exact cW (cQ (And.intro h1 h3))
  ·rw [if_neg (bL h3)] at hM
   refine au h3 ?_
   have nh3:=nzQ h3
   try have hr5:=mpQ nh3
   have hM0:=hM;clear hM;obtain ⟨f6,d6,hf6,hd6,hM⟩:=aO hM0;clear hM0
   refine aS (fun n S=> ∃p:Int×Int,S=(⟨[(1,.int .i64 m),(6,.int .i64 p.1),(15,.sl (some false) 1 false (([(gt h_ 0),(gt h_ 1),(gt h_ 2),(gt h_ 3),(gt h_ 4),(gt h_ 5),(gt h_ 6),(gt h_ 7),(gt h_ 8),(gt h_ 9),(gt h_ 10),(gt h_ 11),(gt h_ 12),(gt h_ 13),(gt h_ 14),(gt h_ 15)]:List Int).map (V.int .u8))),(16,.int .i64 (16:Int)),(17,.int .i64 p.2)],[],1⟩:St)∧((0≤p.2)∧(p.2≤(16:Int)))∧((16:Int) - p.2).toNat<n∧ae n f6 d6 p=r) (((16:Int) - 0).toNat+1) _ sbQ sbQ ⟨(0,0),rfl,⟨omQ,omQ⟩,(Nat.lt_succ_self _),hM⟩ ?_
   clear hM
   rintro n6 S ⟨p6,rfl,hfa6,hm6,hM⟩
   have hM0:=hM;clear hM;obtain ⟨ag6,hag6,hM⟩:=aP hM0 (by omega) hf6;clear hM0
   replace hfa6:=nzQ hfa6
   replace hm6:=nzQ hm6
   have ha6:al .i64 p6.2 1=p6.2+1:=aY omQ omQ
   refine au ha6 ?_
   refine bY (fun h7=> ?_) (fun h7=> ?_)
   ·rw [if_pos h7] at hM
    refine au (And.intro ha6 h7) ?_
    have nh7:=nzQ h7
    try have hr8:=mpQ nh7
    refine bF omQ ?_
    have he9:=fun d=>cE (l:=([(gt h_ 0),(gt h_ 1),(gt h_ 2),(gt h_ 3),(gt h_ 4),(gt h_ 5),(gt h_ 6),(gt h_ 7),(gt h_ 8),(gt h_ 9),(gt h_ 10),(gt h_ 11),(gt h_ 12),(gt h_ 13),(gt h_ 14),(gt h_ 15)]:List Int)) (f:=(V.int .u8)) (i:=p6.2) omQ d
    replace he9:=fun d=>spR (he9 d)
    refine au (And.intro ha6 he9) ?_
    have hM0:=hM;clear hM;obtain ⟨f10,d10,hf10,hd10,hM⟩:=aO hM0;clear hM0
    refine aS (fun n S=> ∃p:Int×Int,S=(⟨[(1,.int .i64 m),(6,.int .i64 p.1),(8,.int .u8 (gt ([(gt h_ 0),(gt h_ 1),(gt h_ 2),(gt h_ 3),(gt h_ 4),(gt h_ 5),(gt h_ 6),(gt h_ 7),(gt h_ 8),(gt h_ 9),(gt h_ 10),(gt h_ 11),(gt h_ 12),(gt h_ 13),(gt h_ 14),(gt h_ 15)]:List Int) p6.2)),(15,.sl (some false) 1 false (([(gt h_ 0),(gt h_ 1),(gt h_ 2),(gt h_ 3),(gt h_ 4),(gt h_ 5),(gt h_ 6),(gt h_ 7),(gt h_ 8),(gt h_ 9),(gt h_ 10),(gt h_ 11),(gt h_ 12),(gt h_ 13),(gt h_ 14),(gt h_ 15)]:List Int).map (V.int .u8))),(16,.int .i64 (16:Int)),(17,.int .i64 p6.2),(21,.int .i64 p.2)],[],1⟩:St)∧((0≤p.2)∧(p.2≤8))∧((8:Int) - p.2).toNat<n∧ae n f10 d10 p=r) (((8:Int) - 0).toNat+1) _ sbQ sbQ ⟨(p6.1,0),rfl,⟨omQ,omQ⟩,(Nat.lt_succ_self _),hM⟩ ?_
    clear hM
    rintro n10 S ⟨p10,rfl,hfa10,hm10,hM⟩
    have hM0:=hM;clear hM;obtain ⟨ag10,hag10,hM⟩:=aP hM0 (by omega) hf10;clear hM0
    replace hfa10:=nzQ hfa10
    replace hm10:=nzQ hm10
    have ha10:al .i64 p10.2 1=p10.2+1:=aY omQ omQ
    refine au (And.intro ha6 (And.intro he9 ha10)) ?_
    have hF:=(And.intro h1 (And.intro h3 (And.intro ha6 (And.intro h7 (And.intro he9 ha10)))))
    exact auQ
   ·rw [if_neg (bL h7)] at hM
    refine au (And.intro ha6 h7) ?_
    have nh7:=nzQ h7
    try have hr20:=mpQ nh7
    subst hM
    exact cW (cQ (And.intro ha6 (And.intro h1 (And.intro h3 h7))))
 ·rw [if_pos h1] at hM
  refine au h1 ?_
  have nh1:=nzQ h1
  try have hr21:=mpQ nh1
  subst hM
  exact cW (cQ h1)
set_option maxHeartbeats 2000000 in
set_option maxRecDepth 100000 in
instance Ru (t:aV) (label:(List UInt8)) (q:Int):CM En (pM t label q) 68 [(dB t),.str label,.int .i64 q] (fun y=> .tup [(dB y.1),.int .i64 y.2.1,.int .i64 y.2.2]) (fun _=> []):=by
 refine enQ noJ Tryz.func68 Tryz.ntmps68 (pM.eq_1 ..) fun r hw=> ?_
 refine bh fun _ _ _ _=> ?_
 refine aC fun _ _ _=> ?_
 refine bh fun _ _ _ _=> ?_
 refine aT fun _ _ _=> ?_
 refine aC fun _ _ _=> ?_
 refine aT fun _ _ _=> ?_
 refine aT fun _ _ _=> ?_
 intro hF hM
 have hM0:=hM;clear hM;obtain ⟨x21,hx22,hM⟩:=ap hM0;clear hM0
 have hcx21:=cmH hx22 (C6 ([115,112,101,99,105,101,47,99,104,97,108,108,101,110,103,101]) t label ([]:List aq) (by (clear hM;first|omega|decide|(simp only [bO,List.length_cons,List.length_nil];omega))) (by (clear hM;first|omega|decide|(simp only [bO,List.length_cons,List.length_nil];omega))) (by (clear hM;first|omega|decide|(simp only [bO,List.length_cons,List.length_nil];omega))) (by (clear hM;first|omega|decide|(simp only [bO,List.length_cons,List.length_nil];omega))))
 refine aJ hcx21 clQ clQ (fun hw23=> ?_)
 replace hw23:=nzQ hw23
 revert hM;revert hF
 refine slQ ?_
 refine aT fun _ _ _=> ?_
 refine bh fun x27 _ _ _=> ?_
 refine aT fun _ _ _=> ?_
 intro hF hM
 have hM0:=hM;clear hM;obtain ⟨x33,hx34,hM⟩:=ap hM0;clear hM0
 have hcx33:=cmH hx34 (C7 t label ({Kind:=1,N:=x27.1,B:=([]:List Int),L:=([]:List aq)}:aq) (by (clear hM;simp only [hgt,bO,List.length_nil];omega)))
 refine aJ hcx33 clQ clQ (fun hw35=> ?_)
 replace hw35:=nzQ hw35
 exact auP
instance (priority:=1028):DRD 11 62 2 [8,51] [] ([[],[]]++[List.range 2]) []:=⟨trivial⟩
instance (priority:=1029):DRD 13 62 3 [8,60,61] [] ([[],[],[0]]++[List.range 3]) []:=⟨trivial⟩
set_option maxHeartbeats 2000000 in
set_option maxRecDepth 100000 in
theorem MX (g:ao) (text:(List UInt8)) (label:(List UInt8)) (l:(List (List Int))) (hp0:text.length≤8000) (hp1:l.length≤100) (hp2: ∀x∈l,x.length≤8):CM En (mj g text label l) 27 [.agg [.int .i64 g.P,.int .i64 g.Q,.int .i64 g.G],.str text,.str label,.sl none 1 false (l.map (fun (l:List Int)=>V.sl none 1 false (l.map (V.int .i64))))] (fun y=> .tup [.int .i64 y.1,.int .i64 y.2]) (fun _=> []):=by
 refine enQ noJ Tryz.func27 Tryz.ntmps27 (mj.eq_1 ..) fun r hw=> ?_
 refine bh fun x1 _ _ _=> ?_
 intro hF hM
 have hM0:=hM;clear hM;obtain ⟨x4,hx5,hM⟩:=ap hM0;clear hM0
 have hcx4:=cmU hx5
 refine vP hcx4 (vQ 3 (T:=3) (n:=1) (g:=false) (z:=(some false)) (l:=([g.P,g.Q,g.G]:List Int).map (V.int .i64)) clQ) clQ (fun hw6=> ?_)
 replace hw6:=nzQ hw6
 revert hM;revert hF
 refine slQ ?_
 have hq7:=(by first|exact tl hx5 (xf hp2 _)|exact tl hx5 (Nat.le_of_ble_eq_true rfl))
 replace hq7:=nzQ hq7
 intro hF hM
 have hM0:=hM;clear hM;obtain ⟨x8,hx9,hM⟩:=ap hM0;clear hM0
 have hcx8:=xm ([103,114,111,117,112]) x4 (x1.2) (x1.1) (by (clear hM;first|omega|(simp only [hgt,bO,cL,List.length_cons,List.length_nil];omega)))
 rw [←hx9] at hcx8
 refine bR [2,1] hcx8 (by decide) lsQ lsQ (fun hw10=> ?_)
 replace hw10:=nzQ hw10
 revert hM;revert hF
 refine slQ ?_
 intro hF hM
 have hM0:=hM;clear hM;obtain ⟨x11,hx12,hM⟩:=ap hM0;clear hM0
 have hcx11:=xm ([102,111,114,109,117,108,97]) ({Kind:=2,N:=0,B:=(bK text),L:=([]:List aq)}:aq) (x8.1) (x8.2) (by (clear hM;first|omega|(simp only [hgt,bO,cL,List.length_cons,List.length_nil];omega)))
 rw [←hx12] at hcx11
 refine bR [2,1] hcx11 (by decide) lsQ lsQ (fun hw13=> ?_)
 replace hw13:=nzQ hw13
 revert hM;revert hF
 refine slQ ?_
 intro hF hM
 have hM0:=hM;clear hM;obtain ⟨f14,d14,hf14,hd14,hM⟩:=aO hM0;clear hM0
 refine aS (fun n S=> ∃p:Int×aV×Int,S=(⟨[(4,.ptr 0 0),(10,.ptr 1 0),(11,.ptr 2 0),(12,.fn 65 [.ptr 2 0,.ptr 1 0]),(38,.sl none 1 false (l.map (fun (l:List Int)=>V.sl none 1 false (l.map (V.int .i64))))),(39,.int .i64 (l.length:Int)),(40,.int .i64 p.1)],[(0,.var 3 true (.agg [.int .i64 g.P,.int .i64 g.Q,.int .i64 g.G])),(1,.var 33 true ((dB p.2.1))),(2,.var 1 false (.int .i64 p.2.2))],5⟩:St)∧((0≤p.1)∧(p.1≤(l.length:Int)))∧((l.length:Int) - p.1).toNat<n∧ae n f14 d14 p=r) (((l.length:Int) - 0).toNat+1) _ sbQ sbQ ⟨(0,x11.2,x11.1),rfl,⟨omQ,omQ⟩,(Nat.lt_succ_self _),hM⟩ ?_
 clear hM
 rintro n14 S ⟨p14,rfl,hfa14,hm14,hM⟩
 have hM0:=hM;clear hM;obtain ⟨ag14,hag14,hM⟩:=aP hM0 (by omega) hf14;clear hM0
 replace hfa14:=nzQ hfa14
 replace hm14:=nzQ hm14
 have ha14:al .i64 p14.1 1=p14.1+1:=aY omQ omQ
 replace hF:=(And.intro ha14 hF)
 revert hM;revert hF
 refine slQ ?_
 refine aC fun _ _ _=> ?_
 refine bh fun x18 hx19 _ _=> ?_
 have hq21:=(by first|exact tl hx19 (xf hp2 _)|exact tl hx19 (Nat.le_of_ble_eq_true rfl))
 replace hq21:=nzQ hq21
 intro hF hM
 have hM0:=hM;clear hM;obtain ⟨x22,hx23,hM⟩:=ap hM0;clear hM0
 have hcx22:=xm ([99,111,109,109,105,116]) x18 (p14.2.2) (p14.2.1) (by (clear hM;first|omega|(simp only [hgt,bO,cL,List.length_cons,List.length_nil];omega)))
 rw [←hx23] at hcx22
 refine bR [2,1] hcx22 (by decide) (aD hF) (aD hF) (fun hw24=> ?_)
 replace hw24:=nzQ hw24
 revert hM;revert hF
 refine slQ ?_
 intro hF hM
 refine aM (n14 - 1) _ (by omega) sbQ sbQ ⟨((p14.1+1),x22.2,x22.1),rfl,⟨omQ,omQ⟩,omQ,aL hM hag14⟩
instance (priority:=1030):DRD 6 42 11 [11,24,25,26,27,28,29,30,31,32,33] [] ([[],[],[],[],[],[3,4],[0,1,2,3,4,5],[0,1,2,3,4,5,6],[0,1,2,3,4,5,6,7],[0,1,2,3,4,5,6,7],[0,1,2,3,4,5,6,7,8]]++[List.range 11]) []:=⟨trivial⟩
set_option maxHeartbeats 2000000 in
set_option maxRecDepth 100000 in
instance Rv (g:ao) (f_:aa) (label:(List UInt8)) (t:aG):CM En (pN g f_ label t) 9 [.agg [.int .i64 g.P,.int .i64 g.Q,.int .i64 g.G],.agg [.int .i64 f_.Kind,.sl none 1 false (f_.Relation.Y.map (V.int .i64)),.sl none 1 false (f_.Relation.Bases.map (fun (l:List Int)=>V.sl none 1 false (l.map (V.int .i64)))),.sl none 4 true (f_.L.map aA)],.str label,.agg [.int .i64 t.C,.sl none 1 false (t.P.A.map (V.int .i64)),.int .i64 t.P.C,.sl none 1 false (t.P.Z.map (V.int .i64)),.sl none 5 true (t.L.map bA)]] (fun y=> .bool y) (fun _=> []):=by
 refine enQ noJ Tryz.func9 Tryz.ntmps9 (pN.eq_1 ..) fun r hw=> ?_
 refine bh fun _ _ _ _=> ?_
 refine aT fun _ _ _=> ?_
 refine bh fun x8 _ _ _=> ?_
 refine aT fun _ _ _=> ?_
 intro hF hM
 have hM0:=hM;clear hM;obtain ⟨x15,hx16,hM⟩:=ap hM0;clear hM0
 have hcx15:=MK f_ t (by (first|exact (‹shp f_ t∧okF f_∧ax f_≤30›).1|exact (‹shp f_ t∧okF f_∧ax f_≤30›).2.2)) (by (first|exact (‹shp f_ t∧okF f_∧ax f_≤30›).1|exact (‹shp f_ t∧okF f_∧ax f_≤30›).2.2))
 rw [←hx16] at hcx15
 refine bN hcx15 clQ clQ ?_
 revert hM;revert hF
 refine slQ ?_
 have hq17:=CQ hx16 (‹shp f_ t∧okF f_∧ax f_≤30›).1
 replace hq17:=nzQ hq17
 have hq18:=th hx16 (‹shp f_ t∧okF f_∧ax f_≤30›).1 (‹shp f_ t∧okF f_∧ax f_≤30›).2.2
 replace hq18:=nzQ hq18
 intro hF hM
 have hM0:=hM;clear hM;obtain ⟨x19,hx20,hM⟩:=ap hM0;clear hM0
 have hcx19:=cmH hx20 (MX g (x8.1) label x15 (by (clear hM;first|omega|assumption)) (by (clear hM;first|omega|assumption)) (by (clear hM;first|omega|assumption)))
 refine bN hcx19 clQ clQ ?_
 exact auP
set_option maxHeartbeats 2000000 in
set_option maxRecDepth 100000 in
instance Rw (s:(List UInt8)):CM En (dC s) 15 [.str s] (fun y=> .bool y) (fun _=> []):=by
 refine enQ noJ Tryz.func15 Tryz.ntmps15 (dC.eq_1 ..) fun r hw=> ?_
 refine aC fun _ _ _=> ?_
 refine aT fun _ _ _=> ?_
 intro hF hM
 have hM0:=hM;clear hM;obtain ⟨f6,d6,hf6,hd6,hM⟩:=aO hM0;clear hM0
 refine aS (fun n S=> ∃p:Int,S=(⟨[(0,.str s),(3,.int .i64 p)],[],0⟩:St)∧((0≤p)∧(p≤(s.length:Int)))∧((s.length:Int) - p).toNat<n∧ae n f6 d6 p=r) (((s.length:Int) - 0).toNat+1) _ sbQ sbQ ⟨0,rfl,⟨omQ,omQ⟩,(Nat.lt_succ_self _),hM⟩ ?_
 clear hM
 rintro n6 S ⟨p6,rfl,hfa6,hm6,hM⟩
 have hM0:=hM;clear hM;obtain ⟨ag6,hag6,hM⟩:=aP hM0 (by omega) hf6;clear hM0
 replace hfa6:=nzQ hfa6
 replace hm6:=nzQ hm6
 have ha6:al .i64 p6 1=p6+1:=aY omQ omQ
 replace hF:=(And.intro ha6 hF)
 revert hM;revert hF
 refine slQ ?_
 refine aC fun _ _ _=> ?_
 refine aC fun _ _ _=> ?_
 refine aT fun _ _ _=> ?_
 intro hF hM
 refine aM (n6 - 1) _ (by omega) sbQ sbQ ⟨(p6+1),rfl,⟨omQ,omQ⟩,omQ,aL hM hag6⟩
set_option maxHeartbeats 2000000 in
set_option maxRecDepth 100000 in
theorem MY (N:Nat) (ih: ∀(n_:Int),(0≤n_)→(n_≤9223372036854775807)→n_.toNat<N→aE En 69 [.int .i64 n_] (.str (dD n_)) []) (n_:Int) (hp0:0≤n_) (hp1:n_≤9223372036854775807) (hp_:n_.toNat<N+1):aE En 69 [.int .i64 n_] (.str (pO n_)) []:=by
 generalize hM:pO n_=r
 rw [pO.eq_1] at hM
 refine bU bf bv noJ Tryz.func69 rfl Tryz.ntmps69 (by kernel_rfl) fun hw=>bu ?_
 refine spQ ?_
 replace hw:=nzQ hw
 have h0_0:=kh
 have ha1:aQ .i64 n_ 10=(n_% 10):=nf omQ omQ
 try simp only [ha1]
 have hF:=ha1
 revert hM;revert hF
 refine slQ ?_
 have ha2:al .i64 48 (n_% 10)=(48+(n_% 10)):=dq am am
 intro hF hM
 try simp only [ha2]
 try refine bF (by (first|exact ⟨z8,omQ⟩|exact trivial|(refine ⟨?_,?_⟩<;>first|exact trivial|(simp only [List.length_cons,List.length_nil];omega)))) ?_
 replace hF:=(And.intro ha2 hF)
 revert hM;revert hF
 refine slQ ?_
 refine aC fun _ _ _=> ?_
 have ha5:bP .i64 n_ 10=(n_/10):=js am am
 intro hF hM
 try simp only [ha5]
 replace hF:=(And.intro ha5 hF)
 revert hM;revert hF
 refine slQ ?_
 intro hF hM
 have hM0:=hM;clear hM;obtain ⟨x6,hx7,hM⟩:=ap hM0;clear hM0
 have hcx6:=ih (n_/10) (by (exact pfQ)) (by (exact pfQ)) (by (omega))
 rw [←hx7] at hcx6
 refine aJ hcx6 (ar hF) (ar hF) (fun hw8=> ?_)
 replace hw8:=nzQ hw8
 revert hM;revert hF
 refine slQ ?_
 have hq9:=qd hx7 (by omega)
 replace hq9:=nzQ hq9
 exact auR
theorem MZ: ∀(N:Nat) (n_:Int),(0≤n_)→(n_≤9223372036854775807)→n_.toNat<N→aE En 69 [.int .i64 n_] (.str (dD n_)) []:=by
 intro N
 induction N with
 | zero=>intro n_ h0 h1 h;exact absurd h (Nat.not_lt_zero _)
 | succ N ih=>
  intro n_ h0 h1 h
  have h9:=MY N ih n_ h0 h1 h
  rw [Ln h0 h1] at h9
  exact h9
theorem C8 (n_:Int) (hp0:0≤n_) (hp1:n_≤9223372036854775807):aE En 69 [.int .i64 n_] (.str (dD n_)) []:=
 MZ (n_.toNat+1) n_ hp0 hp1 (Nat.lt_succ_self _)
set_option maxHeartbeats 2000000 in
set_option maxRecDepth 100000 in
theorem M0 (N:Nat) (ih: ∀(f_:aa),(okT f_)→(ax f_≤30)→ax f_<N→aE En 29 [.agg [.int .i64 f_.Kind,.sl none 1 false (f_.Relation.Y.map (V.int .i64)),.sl none 1 false (f_.Relation.Bases.map (fun (l:List Int)=>V.sl none 1 false (l.map (V.int .i64)))),.sl none 4 true (f_.L.map aA)]] (.str (cj f_)) []) (f_:aa) (hp0:okT f_) (hp1:ax f_≤30) (hp_:ax f_<N+1):aE En 29 [.agg [.int .i64 f_.Kind,.sl none 1 false (f_.Relation.Y.map (V.int .i64)),.sl none 1 false (f_.Relation.Bases.map (fun (l:List Int)=>V.sl none 1 false (l.map (V.int .i64)))),.sl none 4 true (f_.L.map aA)]] (.str (pP f_)) []:=by
 generalize hM:pP f_=r
 rw [pP.eq_1] at hM
 refine bU bf bv [8,17] Tryz.func29 rfl Tryz.ntmps29 (by kernel_rfl) fun hw=>bu ?_
 refine spQ ?_
 replace hw:=nzQ hw
 have h0_0:=kh
 have h0_1:=(cT hp0).2.1
 have h0_2:=(cT hp0).1.1
 have h0_3:=(cT hp0).1.2.1
 have hF:=bW
 revert hM;revert hF
 refine cdQ (fun _ _ _=> ?_) (fun _ _ _=> ?_)
 ·intro hF hM
  have hM0:=hM;clear hM;obtain ⟨f3,d3,hf3,hd3,hM⟩:=aO hM0;clear hM0
  refine aS (fun n S=> ∃p:List UInt8×Int,S=(⟨[(1,.ptr 0 0),(3,.str p.1),(4,.int .i64 p.2)],[(0,.var 4 true (.agg [.int .i64 f_.Kind,.sl none 1 false (f_.Relation.Y.map (V.int .i64)),.sl none 1 false (f_.Relation.Bases.map (fun (l:List Int)=>V.sl none 1 false (l.map (V.int .i64)))),.sl none 4 true (f_.L.map aA)]))],1⟩:St)∧(((0≤p.2)∧(p.2≤(f_.Relation.Y.length:Int))∧(0≤p.2)∧(p.2≤(f_.Relation.Y.length:Int)))∧(((p.1).length:Int)≤1+300*p.2))∧((f_.Relation.Y.length:Int) - p.2).toNat<n∧ae n f3 d3 p=r) (((f_.Relation.Y.length:Int) - 0).toNat+1) _ sbQ sbG ⟨([91],0),rfl,⟨⟨by (first|exact omQ|(clear hM;first|(have h9:=fB (cT hp0).1 (i:=p3.2) (by omega);exact am))),by (first|exact omQ|(clear hM;first|(have h9:=fB (cT hp0).1 (i:=p3.2) (by omega);exact am))),by (first|exact omQ|(clear hM;first|(have h9:=fB (cT hp0).1 (i:=p3.2) (by omega);exact am))),by (first|exact omQ|(clear hM;first|(have h9:=fB (cT hp0).1 (i:=p3.2) (by omega);exact am)))⟩,by (exact omQ)⟩,(Nat.lt_succ_self _),hM⟩ ?_
  clear hM
  rintro n3 S ⟨p3,rfl,⟨hfa3,hF4_0⟩,hm3,hM⟩
  have hA0:=fun a0=>fB (cT hp0).1 (i:=p3.2) a0
  have hA1:=fun a0=>fB (cT hp0).1 (i:=(p3.2+1)) a0
  have hM0:=hM;clear hM;obtain ⟨ag3,hag3,hM⟩:=aP hM0 (by omega) hf3;clear hM0
  replace hfa3:=nzQ hfa3
  replace hm3:=nzQ hm3
  have ha3:al .i64 p3.2 1=p3.2+1:=aY (by exact omA) (by exact omA)
  replace hF:=(And.intro ha3 hF)
  revert hM;revert hF
  refine slQ ?_
  refine aC fun _ _ _=> ?_
  intro hF hM
  have hM0:=hM;clear hM;obtain ⟨j6,hj6,hM⟩:=lK hM0;clear hM0
  refine lE (fun S=> ∃p:List UInt8,S=(⟨[(1,.ptr 0 0),(3,.str p),(4,.int .i64 p3.2)],[(0,.var 4 true (.agg [.int .i64 f_.Kind,.sl none 1 false (f_.Relation.Y.map (V.int .i64)),.sl none 1 false (f_.Relation.Bases.map (fun (l:List Int)=>V.sl none 1 false (l.map (V.int .i64)))),.sl none 4 true (f_.L.map aA)]))],1⟩:St)∧((((p).length:Int)≤3+300*p3.2))∧j6 p=r) ?_ (fun hcut6=> ?_)
  ·clear hM
   rintro S ⟨p6,rfl,hfa6,hM⟩
   replace hfa6:=nzQ hfa6
   have hM0:=hM;clear hM;have hM:=lL hM0 hj6;clear hM0
   revert hM;revert hF
   refine slQ ?_
   intro hF hM
   have hM0:=hM;clear hM;obtain ⟨x8,hx9,hM⟩:=ap hM0;clear hM0
   have hcx8:=C8 (gt f_.Relation.Y p3.2) (by (first|exact (ry hp0 (by omega)).1|exact (ry hp0 (by omega)).2|exact (rb hp0 (by omega) (by omega)).1|exact (rb hp0 (by omega) (by omega)).2)) (by (first|exact (ry hp0 (by omega)).1|exact (ry hp0 (by omega)).2|exact (rb hp0 (by omega) (by omega)).1|exact (rb hp0 (by omega) (by omega)).2))
   rw [←hx9] at hcx8
   refine aJ hcx8 (ar hF) (ar hF) (fun hw10=> ?_)
   replace hw10:=nzQ hw10
   revert hM;revert hF
   refine slQ ?_
   have hq11:=(by first|exact qd hx9 (ry hp0 (by omega))|exact qd hx9 (rb hp0 (by omega) (by omega)))
   replace hq11:=nzQ hq11
   refine slQ ?_
   intro hF hM
   have hM0:=hM;clear hM;obtain ⟨f12,d12,hf12,hd12,hM⟩:=aO hM0;clear hM0
   refine aS (fun n S=> ∃p:List UInt8×Int,S=(⟨[(1,.ptr 0 0),(3,.str p.1),(4,.int .i64 p3.2),(5,.int .i64 p.2)],[(0,.var 4 true (.agg [.int .i64 f_.Kind,.sl none 1 false (f_.Relation.Y.map (V.int .i64)),.sl none 1 false (f_.Relation.Bases.map (fun (l:List Int)=>V.sl none 1 false (l.map (V.int .i64)))),.sl none 4 true (f_.L.map aA)]))],1⟩:St)∧((0≤p.2)∧(p.2≤((gt f_.Relation.Bases p3.2).length:Int))∧(0≤p.2)∧(p.2≤((gt f_.Relation.Bases p3.2).length:Int))∧(((p.1).length:Int)≤30+300*p3.2+22*p.2))∧(((gt f_.Relation.Bases p3.2).length:Int) - p.2).toNat<n∧ae n f12 d12 p=r) ((((gt f_.Relation.Bases p3.2).length:Int) - 0).toNat+1) _ sbQ sbQ ⟨(((p6++x8)++[32,61]),0),rfl,⟨by exact omA,by exact omA,by exact omA,by exact omA,by exact omA⟩,(Nat.lt_succ_self _),hM⟩ ?_
   clear hM
   rintro n12 S ⟨p12,rfl,hfa12,hm12,hM⟩
   have hM0:=hM;clear hM;obtain ⟨ag12,hag12,hM⟩:=aP hM0 (by omega) hf12;clear hM0
   replace hfa12:=nzQ hfa12
   replace hm12:=nzQ hm12
   have ha12:al .i64 p12.2 1=p12.2+1:=aY (by exact omA) (by exact omA)
   replace hF:=(And.intro ha12 hF)
   revert hM;revert hF
   refine slQ ?_
   refine cdQ (fun _ _ _=> ?_) (fun _ _ _=> ?_)
   ·intro hF hM
    have hM0:=hM;clear hM;obtain ⟨x17,hx18,hM⟩:=ap hM0;clear hM0
    have hcx17:=C8 (gt (gt f_.Relation.Bases p3.2) p12.2) (by (first|exact (ry hp0 (by omega)).1|exact (ry hp0 (by omega)).2|exact (rb hp0 (by omega) (by omega)).1|exact (rb hp0 (by omega) (by omega)).2)) (by (first|exact (ry hp0 (by omega)).1|exact (ry hp0 (by omega)).2|exact (rb hp0 (by omega) (by omega)).1|exact (rb hp0 (by omega) (by omega)).2))
    rw [←hx18] at hcx17
    refine aJ hcx17 (ar hF) (ar hF) (fun hw19=> ?_)
    replace hw19:=nzQ hw19
    revert hM;revert hF
    refine slQ ?_
    have hq20:=(by first|exact qd hx18 (ry hp0 (by omega))|exact qd hx18 (rb hp0 (by omega) (by omega)))
    replace hq20:=nzQ hq20
    exact auR
   ·intro hF hM
    refine aM (n3 - 1) _ (by omega) sbQ sbQ ⟨(p12.1,(p3.2+1)),rfl,⟨⟨by exact omA,by exact omA,by exact omA,by exact omA⟩,by (clear hM;have h9:=fB (cT hp0).1 (i:=p3.2) (by omega);(try dsimp only);omega)⟩,by exact omA,aL hM hag3⟩
  ·revert hM;revert hF
   refine slQ ?_
   refine cdQ (fun _ _ _=> ?_) (fun _ _ _=> ?_)
   ·intro hF hM
    exact eH _ sbQ sbQ (hcut6 _ ⟨(p3.1++[44,32]),rfl,by exact omA,hM⟩)
   ·intro hF hM
    exact eH _ sbQ sbQ (hcut6 _ ⟨p3.1,rfl,by exact omA,hM⟩)
 ·intro hF hM
  have hM0:=hM;clear hM;obtain ⟨j27,hj27,hM⟩:=lK hM0;clear hM0
  refine lE (fun S=> ∃p:List UInt8,S=(⟨[(1,.ptr 0 0),(6,.str p)],[(0,.var 4 true (.agg [.int .i64 f_.Kind,.sl none 1 false (f_.Relation.Y.map (V.int .i64)),.sl none 1 false (f_.Relation.Bases.map (fun (l:List Int)=>V.sl none 1 false (l.map (V.int .i64)))),.sl none 4 true (f_.L.map aA)]))],1⟩:St)∧((((p).length:Int)≤4))∧j27 p=r) ?_ (fun hcut27=> ?_)
  ·clear hM
   rintro S ⟨p27,rfl,hfa27,hM⟩
   replace hfa27:=nzQ hfa27
   have hM0:=hM;clear hM;have hM:=lL hM0 hj27;clear hM0
   revert hM;revert hF
   refine slQ ?_
   intro hF hM
   have hM0:=hM;clear hM;obtain ⟨f28,d28,hf28,hd28,hM⟩:=aO hM0;clear hM0
   refine aS (fun n S=> ∃p:List UInt8×Int,S=(⟨[(1,.ptr 0 0),(6,.str p.1),(7,.int .i64 p.2)],[(0,.var 4 true (.agg [.int .i64 f_.Kind,.sl none 1 false (f_.Relation.Y.map (V.int .i64)),.sl none 1 false (f_.Relation.Bases.map (fun (l:List Int)=>V.sl none 1 false (l.map (V.int .i64)))),.sl none 4 true (f_.L.map aA)]))],1⟩:St)∧((0≤p.2)∧(p.2≤(f_.L.length:Int))∧(0≤p.2)∧(p.2≤(f_.L.length:Int))∧(((p.1).length:Int)≤4+78002*p.2))∧((f_.L.length:Int) - p.2).toNat<n∧ae n f28 d28 p=r) (((f_.L.length:Int) - 0).toNat+1) _ sbQ sbQ ⟨(p27,0),rfl,⟨omQ,omQ,omQ,omQ,omQ⟩,(Nat.lt_succ_self _),hM⟩ ?_
   clear hM
   rintro n28 S ⟨p28,rfl,hfa28,hm28,hM⟩
   have hM0:=hM;clear hM;obtain ⟨ag28,hag28,hM⟩:=aP hM0 (by omega) hf28;clear hM0
   replace hfa28:=nzQ hfa28
   replace hm28:=nzQ hm28
   have ha28:al .i64 p28.2 1=p28.2+1:=aY omQ omQ
   replace hF:=(And.intro ha28 hF)
   revert hM;revert hF
   refine slQ ?_
   refine aC fun _ _ _=> ?_
   refine cdQ (fun _ _ _=> ?_) (fun _ _ _=> ?_)
   ·intro hF hM
    have hM0:=hM;clear hM;obtain ⟨x34,hx35,hM⟩:=ap hM0;clear hM0
    have hcx34:=ih (gt f_.L p28.2) (by (first|exact (cT hp0).2.2 _ (aI (by omega))|exact kX hp1 (by omega)|(have h9:=b_ (f:=f_) (aI (l:=f_.L) (i:=p28.2) (by omega));omega))) (by (first|exact (cT hp0).2.2 _ (aI (by omega))|exact kX hp1 (by omega)|(have h9:=b_ (f:=f_) (aI (l:=f_.L) (i:=p28.2) (by omega));omega))) (by (have h9:=b_ (f:=f_) (aI (l:=f_.L) (i:=p28.2) (by omega));omega))
    rw [←hx35] at hcx34
    refine aJ hcx34 (ar hF) (ar hF) (fun hw36=> ?_)
    replace hw36:=nzQ hw36
    revert hM;revert hF
    refine slQ ?_
    have hq37:=CT hx35 ((cT hp0).2.2 _ (aI (by omega))) (kX hp1 (by omega))
    replace hq37:=nzQ hq37
    refine slQ ?_
    intro hF hM
    refine aM (n28 - 1) _ (by omega) sbQ sbQ ⟨(((p28.1++[44,32])++x34),(p28.2+1)),rfl,⟨omQ,omQ,omQ,omQ,omQ⟩,omQ,aL hM hag28⟩
   ·intro hF hM
    have hM0:=hM;clear hM;obtain ⟨x40,hx41,hM⟩:=ap hM0;clear hM0
    have hcx40:=ih (gt f_.L p28.2) (by (first|exact (cT hp0).2.2 _ (aI (by omega))|exact kX hp1 (by omega)|(have h9:=b_ (f:=f_) (aI (l:=f_.L) (i:=p28.2) (by omega));omega))) (by (first|exact (cT hp0).2.2 _ (aI (by omega))|exact kX hp1 (by omega)|(have h9:=b_ (f:=f_) (aI (l:=f_.L) (i:=p28.2) (by omega));omega))) (by (have h9:=b_ (f:=f_) (aI (l:=f_.L) (i:=p28.2) (by omega));omega))
    rw [←hx41] at hcx40
    refine aJ hcx40 (ar hF) (ar hF) (fun hw42=> ?_)
    replace hw42:=nzQ hw42
    revert hM;revert hF
    refine slQ ?_
    have hq43:=CT hx41 ((cT hp0).2.2 _ (aI (by omega))) (kX hp1 (by omega))
    replace hq43:=nzQ hq43
    refine slQ ?_
    intro hF hM
    refine aM (n28 - 1) _ (by omega) sbQ sbQ ⟨((p28.1++x40),(p28.2+1)),rfl,⟨omQ,omQ,omQ,omQ,omQ⟩,omQ,aL hM hag28⟩
  ·revert hM;revert hF
   refine slQ ?_
   refine cdQ (fun _ _ _=> ?_) (fun _ _ _=> ?_)
   ·intro hF hM
    exact eH _ sbQ sbQ (hcut27 _ ⟨[111,114,40],rfl,omQ,hM⟩)
   ·intro hF hM
    exact eH _ sbQ sbQ (hcut27 _ ⟨[97,110,100,40],rfl,omQ,hM⟩)
theorem M3: ∀(N:Nat) (f_:aa),(okT f_)→(ax f_≤30)→ax f_<N→aE En 29 [.agg [.int .i64 f_.Kind,.sl none 1 false (f_.Relation.Y.map (V.int .i64)),.sl none 1 false (f_.Relation.Bases.map (fun (l:List Int)=>V.sl none 1 false (l.map (V.int .i64)))),.sl none 4 true (f_.L.map aA)]] (.str (cj f_)) []:=by
 intro N
 induction N with
 | zero=>intro f_ h0 h1 h;exact absurd h (Nat.not_lt_zero _)
 | succ N ih=>
  intro f_ h0 h1 h
  have h9:=M0 N ih f_ h0 h1 h
  rw [Lz] at h9
  exact h9
theorem C9 (f_:aa) (hp0:okT f_) (hp1:ax f_≤30):aE En 29 [.agg [.int .i64 f_.Kind,.sl none 1 false (f_.Relation.Y.map (V.int .i64)),.sl none 1 false (f_.Relation.Bases.map (fun (l:List Int)=>V.sl none 1 false (l.map (V.int .i64)))),.sl none 4 true (f_.L.map aA)]] (.str (cj f_)) []:=
 M3 (ax f_+1) f_ hp0 hp1 (Nat.lt_succ_self _)
set_option maxHeartbeats 2000000 in
set_option maxRecDepth 100000 in
instance Rx:CM En (ml) 190 [] (fun y=> .sl none 1 false (y.map (V.int .u32))) (fun _=> []):=by
 refine enQ noJ Tryz.func190 Tryz.ntmps190 (ml.eq_1 ..) fun r hw=> ?_
 exact auR
set_option maxHeartbeats 2000000 in
set_option maxRecDepth 100000 in
instance Ry (n_:Int):CM En (kM n_) 214 [.int .i64 n_] (fun y=> .sl none 1 false (y.map (V.int .u8))) (fun _=> []):=by
 refine enQ noJ Tryz.func214 Tryz.ntmps214 (kM.eq_1 ..) fun r hw=> ?_
 intro hF hM
 have hM0:=hM;clear hM;obtain ⟨f1,d1,hf1,hd1,hM⟩:=aO hM0;clear hM0
 refine gU (fun n S=> ∃p:Int×List Int,S=(⟨[(0,.int .i64 n_),(3,.own 0),(4,.int .i64 p.1)],[(0,.own 5 1 false none (p.2.map (V.int .u8)))],1⟩:St)∧((-1≤p.1)∧(p.1≤7)∧(((p.2).length:Int)=7 - p.1))∧((p.1+1):Int).toNat<n∧ae n f1 d1 p=r) (((7+1):Int).toNat+1) _ _ (lJ 3 5 rfl (by decide)) sbQ sbQ ⟨(7,([]:List Int)),rfl,⟨omQ,omQ,omQ⟩,(Nat.lt_succ_self _),hM⟩ ?_
 clear hM
 rintro n1 S ⟨p1,rfl,hfa1,hm1,hM⟩
 have hM0:=hM;clear hM;obtain ⟨ag1,hag1,hM⟩:=aP hM0 (by omega) hf1;clear hM0
 replace hfa1:=nzQ hfa1
 replace hm1:=nzQ hm1
 revert hM;revert hF
 refine slQ ?_
 refine aC fun _ _ _=> ?_
 obtain ⟨ha4,hbha4⟩:=kn (a:=8) (b:=p1.1) 8 8 64 am am am am (by decide) (by decide)
 intro hF hM
 try simp only [ha4]
 replace hF:=(And.intro ha4 hF)
 revert hM;revert hF
 refine slQ ?_
 have ha5:av .i64 p1.1 1=(p1.1 - 1):=dc am am
 intro hF hM
 try simp only [ha5]
 refine aM (n1 - 1) _ (by omega) sbQ sbQ ⟨((p1.1 - 1),(p1.2++([(ah .u8 (aw .i64 n_ (8*p1.1)))]:List Int))),rfl,⟨omQ,omQ,omQ⟩,omQ,aL hM hag1⟩
set_option maxHeartbeats 2000000 in
set_option maxRecDepth 100000 in
theorem M4 (b:(List Int)) (hp0:b.length≤1000000000):CM En (g9 b) 191 [.sl none 1 false (b.map (V.int .u8))] (fun y=> .sl none 1 false (y.map (V.int .u8))) (fun _=> []):=by
 refine cmQ fun r hM=> ?_
 rw [g9.eq_1] at hM
 refine bU bf bv noJ Tryz.func191 rfl Tryz.ntmps191 (by kernel_rfl) fun hw=>bu ?_
 refine spQ ?_
 replace hw:=nzQ hw
 refine bF omQ ?_
 refine spQ ?_
 refine bF omQ ?_
 refine spQ ?_
 have hM0:=hM;clear hM;obtain ⟨f1,d1,hf1,hd1,hM⟩:=aO hM0;clear hM0
 refine aS (fun n S=> ∃p:List Int,S=(⟨[(0,.sl none 1 false (b.map (V.int .u8))),(3,.own 0)],[(0,.own 5 1 false none (p.map (V.int .u8)))],2⟩:St)∧((((p).length:Int)+(56 - ((p).length:Int))% 64≤(b.length:Int)+65))∧((56 - ((p).length:Int))% 64).toNat<n∧ae n f1 d1 p=r) (((56 - ((((([]:List Int)++b)++([128]:List Int))).length:Int))% 64).toNat+1) _ sbQ sbQ ⟨((([]:List Int)++b)++([128]:List Int)),rfl,omQ,(Nat.lt_succ_self _),hM⟩ ?_
 clear hM
 rintro n1 S ⟨p1,rfl,hfa1,hm1,hM⟩
 have hM0:=hM;clear hM;obtain ⟨ag1,hag1,hM⟩:=aP hM0 (by omega) hf1;clear hM0
 replace hfa1:=nzQ hfa1
 replace hm1:=nzQ hm1
 refine spQ ?_
 have hF:=bW
 exact auQ
instance (priority:=1031):DRD 1 13 7 [5,6,7,8,9,10,11] [] ([[],[],[0,1],[],[],[4],[3,4,5]]++[List.range 7,List.range 8]) []:=⟨trivial⟩
set_option maxHeartbeats 2000000 in
set_option maxRecDepth 100000 in
theorem iQ (x_:Int) (n_:Int) (hp0:0≤n_) (hp1:n_≤32):CM En (dE x_ n_) 193 [.int .u32 x_,.int .i64 n_] (fun y=> .int .u32 y) (fun _=> []):=by
 refine enQ noJ Tryz.func193 Tryz.ntmps193 (dE.eq_1 ..) fun r hw=> ?_
 refine slQ ?_
 have ha1:av .i64 32 n_=(32 - n_):=dc am am
 intro hF hM
 try simp only [ha1]
 replace hF:=(And.intro ha1 hF)
 exact auQ
instance (priority:=1032):DRD 14 84 11 [8,39,40,41,42,43,44,45,46,47,48] [] ([[],[],[1],[0,1,2],[0,1,2,3],[],[],[6],[5,6,7],[5,6,7,8],[0,1,2,3,4]]++[List.range 11]) []:=⟨trivial⟩
instance (priority:=1033):DRD 17 84 17 [65,66,67,68,69,70,71,72,73,74,75,76,77,78,79,80,81] [] ([[],[],[],[2],[1,2,3],[1,2,3,4],[],[1,2,3,4,5,6],[],[],[9],[8,9,10],[8,9,10,11],[1,2,3,4,5,6,7,8,9,10,11,12],[],[1,2,3,4,5,6,7,8,9,10,11,12,13,14],[1,2,3,4,5,6,7,8,9,10,11,12,13,14,15]]++[List.range 17,List.range 18]) []:=⟨trivial⟩
set_option maxHeartbeats 2000000 in
set_option maxRecDepth 100000 in
theorem M5 (b:(List Int)) (hp0:b.length=64):CM En (kN b) 192 [.sl none 1 false (b.map (V.int .u8))] (fun y=> .sl none 1 false (y.map (V.int .u32))) (fun _=> []):=by
 refine enQ noJ Tryz.func192 Tryz.ntmps192 (kN.eq_1 ..) fun r hw=> ?_
 intro hF hM
 have hM0:=hM;clear hM;obtain ⟨f1,d1,hf1,hd1,hM⟩:=aO hM0;clear hM0
 refine gU (fun n S=> ∃p:Int×List Int,S=(⟨[(0,.sl none 1 false (b.map (V.int .u8))),(3,.own 0),(4,.int .i64 p.1)],[(0,.own 40 1 false none (p.2.map (V.int .u32)))],1⟩:St)∧((0≤p.1)∧(p.1≤16)∧(((p.2).length:Int)=p.1)∧(((p.2).length:Int)≤p.1))∧((16:Int) - p.1).toNat<n∧ae n f1 d1 p=r) (((16:Int) - 0).toNat+1) _ _ (lJ 3 40 rfl (by decide)) sbQ sbQ ⟨(0,([]:List Int)),rfl,⟨omQ,omQ,omQ,omQ⟩,(Nat.lt_succ_self _),hM⟩ ?_
 clear hM
 rintro n1 S ⟨p1,rfl,hfa1,hm1,hM⟩
 have hM0:=hM;clear hM;obtain ⟨ag1,hag1,hM⟩:=aP hM0 (by omega) hf1;clear hM0
 replace hfa1:=nzQ hfa1
 replace hm1:=nzQ hm1
 have ha1:al .i64 p1.1 1=p1.1+1:=aY omQ omQ
 replace hF:=(And.intro ha1 hF)
 revert hM;revert hF
 refine slQ ?_
 refine cdQ (fun _ _ _=> ?_) (fun _ _ _=> ?_)
 ·intro hF hM
  have hM0:=hM;clear hM;obtain ⟨f4,d4,hf4,hd4,hM⟩:=aO hM0;clear hM0
  refine aS (fun n S=> ∃p:Int×Int,S=(⟨[(0,.sl none 1 false (b.map (V.int .u8))),(3,.own 0),(4,.int .i64 p1.1),(5,.int .u32 p.1),(6,.int .i64 p.2)],[(0,.own 40 1 false none (p1.2.map (V.int .u32)))],1⟩:St)∧((0≤p.2)∧(p.2≤4))∧((4:Int) - p.2).toNat<n∧ae n f4 d4 p=r) (((4:Int) - 0).toNat+1) _ sbQ sbQ ⟨(0,0),rfl,⟨omQ,omQ⟩,(Nat.lt_succ_self _),hM⟩ ?_
  clear hM
  rintro n4 S ⟨p4,rfl,hfa4,hm4,hM⟩
  have hM0:=hM;clear hM;obtain ⟨ag4,hag4,hM⟩:=aP hM0 (by omega) hf4;clear hM0
  replace hfa4:=nzQ hfa4
  replace hm4:=nzQ hm4
  have ha4:al .i64 p4.2 1=p4.2+1:=aY omQ omQ
  replace hF:=(And.intro ha4 hF)
  revert hM;revert hF
  refine slQ ?_
  refine cdQ (fun _ _ _=> ?_) (fun _ _ _=> ?_)
  ·obtain ⟨ha7,hbha7⟩:=kn (a:=4) (b:=p1.1) 4 64 256 am am am am (by decide) (by decide)
   intro hF hM
   try simp only [ha7]
   have ha8:al .i64 (4*p1.1) p4.2=((4*p1.1)+p4.2):=dq omQ omQ
   try simp only [ha8]
   replace hF:=(And.intro ha7 (And.intro ha8 hF))
   revert hM;revert hF
   refine slQ ?_
   intro hF hM
   refine aM (n4 - 1) _ (by omega) sbQ sbQ ⟨((al .u32 (aN .u32 p4.1 256) (ah .u32 (gt b ((4*p1.1)+p4.2)))),(p4.2+1)),rfl,⟨omQ,omQ⟩,omQ,aL hM hag4⟩
  ·intro hF hM
   refine aM (n1 - 1) _ (by omega) sbQ sbQ ⟨((p1.1+1),(p1.2++([p4.1]:List Int))),rfl,⟨omQ,omQ,omQ,omQ⟩,omQ,aL hM hag1⟩
 ·intro hF hM
  have hM0:=hM;clear hM;obtain ⟨f12,d12,hf12,hd12,hM⟩:=aO hM0;clear hM0
  refine aS (fun n S=> ∃p:Int×List Int,S=(⟨[(3,.own 0),(7,.int .i64 p.1)],[(0,.own 40 1 false none (p.2.map (V.int .u32)))],1⟩:St)∧((16≤p.1)∧(p.1≤64∨p.1≤16)∧(((p.2).length:Int)=p.1))∧((64:Int) - p.1).toNat<n∧ae n f12 d12 p=r) (((64:Int) - 16).toNat+1) _ sbQ sbQ ⟨(16,p1.2),rfl,⟨omQ,omQ,omQ⟩,(Nat.lt_succ_self _),hM⟩ ?_
  clear hM
  rintro n12 S ⟨p12,rfl,hfa12,hm12,hM⟩
  have hM0:=hM;clear hM;obtain ⟨ag12,hag12,hM⟩:=aP hM0 (by omega) hf12;clear hM0
  replace hfa12:=nzQ hfa12
  replace hm12:=nzQ hm12
  have ha12:al .i64 p12.1 1=p12.1+1:=aY omQ omQ
  replace hF:=(And.intro ha12 hF)
  revert hM;revert hF
  refine slQ ?_
  refine aC fun _ _ _=> ?_
  have ha15:av .i64 p12.1 15=(p12.1 - 15):=dc am am
  intro hF hM
  try simp only [ha15]
  replace hF:=(And.intro ha15 hF)
  revert hM;revert hF
  refine slQ ?_
  have ha17:av .i64 p12.1 2=(p12.1 - 2):=dc am am
  intro hF hM
  try simp only [ha17]
  replace hF:=(And.intro ha17 hF)
  revert hM;revert hF
  refine slQ ?_
  intro hF hM
  have hM0:=hM;clear hM;obtain ⟨x19,hx20,hM⟩:=ap hM0;clear hM0
  have hcx19:=cmH hx20 (iQ (gt p12.2 (p12.1 - 15)) 7 (by (exact pfQ)) (by (exact pfQ)))
  refine aJ hcx19 (ar hF) (ar hF) (fun hw21=> ?_)
  replace hw21:=nzQ hw21
  revert hM;revert hF
  refine slQ ?_
  intro hF hM
  have hM0:=hM;clear hM;obtain ⟨x22,hx23,hM⟩:=ap hM0;clear hM0
  have hcx22:=cmH hx23 (iQ (gt p12.2 (p12.1 - 15)) 18 (by (exact pfQ)) (by (exact pfQ)))
  refine aJ hcx22 (ar hF) (ar hF) (fun hw24=> ?_)
  replace hw24:=nzQ hw24
  revert hM;revert hF
  refine slQ ?_
  intro hF hM
  have hM0:=hM;clear hM;obtain ⟨x25,hx26,hM⟩:=ap hM0;clear hM0
  have hcx25:=cmH hx26 (iQ (gt p12.2 (p12.1 - 2)) 17 (by (exact pfQ)) (by (exact pfQ)))
  refine aJ hcx25 (ar hF) (ar hF) (fun hw27=> ?_)
  replace hw27:=nzQ hw27
  revert hM;revert hF
  refine slQ ?_
  intro hF hM
  have hM0:=hM;clear hM;obtain ⟨x28,hx29,hM⟩:=ap hM0;clear hM0
  have hcx28:=cmH hx29 (iQ (gt p12.2 (p12.1 - 2)) 19 (by (exact pfQ)) (by (exact pfQ)))
  refine aJ hcx28 (ar hF) (ar hF) (fun hw30=> ?_)
  replace hw30:=nzQ hw30
  revert hM;revert hF
  refine slQ ?_
  have ha31:av .i64 p12.1 16=(p12.1 - 16):=dc am am
  intro hF hM
  try simp only [ha31]
  replace hF:=(And.intro ha31 hF)
  revert hM;revert hF
  refine slQ ?_
  have ha33:av .i64 p12.1 7=(p12.1 - 7):=dc am am
  intro hF hM
  try simp only [ha33]
  replace hF:=(And.intro ha33 hF)
  revert hM;revert hF
  refine slQ ?_
  intro hF hM
  refine aM (n12 - 1) _ (by omega) sbQ sbQ ⟨((p12.1+1),(p12.2++([(al .u32 (al .u32 (al .u32 (gt p12.2 (p12.1 - 16)) (aW .u32 (aW .u32 x19 x22) (aw .u32 (gt p12.2 (p12.1 - 15)) 3))) (gt p12.2 (p12.1 - 7))) (aW .u32 (aW .u32 x25 x28) (aw .u32 (gt p12.2 (p12.1 - 2)) 10)))]:List Int))),rfl,⟨omQ,omQ,omQ⟩,omQ,aL hM hag12⟩
instance (priority:=1034):DRD 12 182 44 [38,39,40,41,42,43,44,45,46,47,48,49,50,51,52,53,54,55,56,57,58,59,60,61,62,63,64,65,66,67,68,69,70,71,72,73,74,75,76,77,78,79,80,81] [] ([[],[0],[0,1],[],[3],[3,4],[3,4,5],[],[7],[7,8],[7,8,9],[3,4,5,6,7,8,9,10],[],[12],[12,13],[12,13,14],[3,4,5,6,7,8,9,10,11,12,13,14,15],[0,1,2,3,4,5,6,7,8,9,10,11,12,13,14,15,16],[],[18],[18,19],[],[21],[21,22],[18,19,20,21,22,23],[],[25],[25,26],[25,26,27],[],[29],[29,30],[25,26,27,28,29,30,31],[18,19,20,21,22,23,24,25,26,27,28,29,30,31,32],[0,1,2,3,4,5,6,7,8,9,10,11,12,13,14,15,16,17,18,19,20,21,22,23,24,25,26,27,28,29,30,31,32,33],[],[],[35,36],[35,36,37],[0,1,2,3,4,5,6,7,8,9,10,11,12,13,14,15,16,17,18,19,20,21,22,23,24,25,26,27,28,29,30,31,32,33,34,35,36,37,38],[],[],[40,41],[40,41,42]]++[List.range 44,List.range 45]) []:=⟨trivial⟩
instance (priority:=1035):DRD 13 182 37 [83,84,85,86,87,88,89,90,91,92,93,94,95,96,97,98,99,100,101,102,103,104,105,106,107,108,109,110,111,112,113,114,115,116,117,118,119] [] ([[],[0],[0,1],[0,1,2],[],[4],[4,5],[4,5,6],[0,1,2,3,4,5,6,7],[],[9],[9,10],[9,10,11],[0,1,2,3,4,5,6,7,8,9,10,11,12],[],[14],[14,15],[],[17],[17,18],[14,15,16,17,18,19],[],[21],[21,22],[],[24],[24,25],[21,22,23,24,25,26],[14,15,16,17,18,19,20,21,22,23,24,25,26,27],[],[29],[29,30],[],[32],[32,33],[29,30,31,32,33,34],[14,15,16,17,18,19,20,21,22,23,24,25,26,27,28,29,30,31,32,33,34,35]]++[List.range 37,List.range 38]) []:=⟨trivial⟩
instance (priority:=1036):DRD 14 182 26 [121,122,123,124,125,126,127,128,129,130,131,132,133,134,135,136,137,138,139,140,141,142,143,144,145,146] [] ([[],[],[0,1],[],[3],[3,4],[],[6],[6,7],[],[9],[9,10],[],[12],[12,13],[],[12,13,14,15],[],[17],[17,18],[],[20],[20,21],[],[23],[23,24]]++[List.range 26,List.range 27]) []:=⟨trivial⟩
instance (priority:=1037):DRD 18 182 11 [152,153,154,155,156,157,158,159,160,161,162] [] ([[],[],[],[],[2,3],[2,3,4],[],[],[6,7],[6,7,8],[2,3,4,5,6,7,8,9]]++[List.range 11,List.range 12]) []:=⟨trivial⟩
set_option maxHeartbeats 2000000 in
set_option maxRecDepth 100000 in
theorem C_ (b:(List Int)) (hp0:b.length≤1000000000):CM En (iK b) 162 [.sl none 1 false (b.map (V.int .u8))] (fun y=>(dM y)) (fun _=> []):=by
 refine enQ noJ Tryz.func162 Tryz.ntmps162 (iK.eq_1 ..) fun r hw=> ?_
 refine bh fun x1 _ _ _=> ?_
 intro hF hM
 have hM0:=hM;clear hM;obtain ⟨x5,hx6,hM⟩:=ap hM0;clear hM0
 have hcx5:=cmH hx6 (M4 b (by (exact pfQ)))
 refine aJ hcx5 clQ clQ (fun hw7=> ?_)
 replace hw7:=nzQ hw7
 revert hM;revert hF
 refine slQ ?_
 have hq8:=nzQ (cfU hx6)
 intro hF hM
 have hM0:=hM;clear hM;obtain ⟨f9,d9,hf9,hd9,hM⟩:=aO hM0;clear hM0
 refine aS (fun n S=> ∃p:Int×List Int,S=(⟨[(2,.ptr 0 0),(3,.own 1),(4,.sl none 1 false (x1.map (V.int .u32))),(5,.sl none 1 false (x5.map (V.int .u8))),(6,.int .i64 p.1)],[(0,.var 32 true (gX)),(1,.own 40 1 false none (p.2.map (V.int .u32)))],2⟩:St)∧((0≤p.1)∧(p.1≤(x5.length:Int))∧(p.1% 64=0)∧((p.2).length=(([1779033703,3144134277,1013904242,2773480762,1359893119,2600822924,528734635,1541459225]:List Int)).length))∧((x5.length:Int) - p.1).toNat<n∧ae n f9 d9 p=r) (((x5.length:Int) - 0).toNat+1) _ sbQ sbQ ⟨(0,([1779033703,3144134277,1013904242,2773480762,1359893119,2600822924,528734635,1541459225]:List Int)),rfl,⟨omQ,omQ,omQ,omQ⟩,(Nat.lt_succ_self _),hM⟩ ?_
 clear hM
 rintro n9 S ⟨p9,rfl,hfa9,hm9,hM⟩
 have hM0:=hM;clear hM;obtain ⟨ag9,hag9,hM⟩:=aP hM0 (by omega) hf9;clear hM0
 replace hfa9:=nzQ hfa9
 replace hm9:=nzQ hm9
 have ha9:al .i64 p9.1 1=p9.1+1:=aY omQ omQ
 replace hF:=(And.intro ha9 hF)
 revert hM;revert hF
 refine slQ ?_
 refine cdQ (fun _ _ _=> ?_) (fun _ _ _=> ?_)
 ·have ha12:al .i64 p9.1 64=(p9.1+64):=dq am am
  intro hF hM
  try simp only [ha12]
  replace hF:=(And.intro ha12 hF)
  revert hM;revert hF
  refine slQ ?_
  intro hF hM
  have hM0:=hM;clear hM;obtain ⟨x13,hx14,hM⟩:=ap hM0;clear hM0
  have hcx13:=cmH hx14 (M5 (sl x5 p9.1 (p9.1+64)) (by (exact pfQ)))
  refine aJ hcx13 (ar hF) (ar hF) (fun hw15=> ?_)
  replace hw15:=nzQ hw15
  revert hM;revert hF
  refine slQ ?_
  have hq16:=nzQ (cfU hx14)
  refine slQ ?_
  intro hF hM
  have hM0:=hM;clear hM;obtain ⟨f17,d17,hf17,hd17,hM⟩:=aO hM0;clear hM0
  refine aS (fun n S=> ∃p:Int×List Int,S=(⟨[(2,.ptr 0 0),(3,.own 1),(4,.sl none 1 false (x1.map (V.int .u32))),(5,.sl none 1 false (x5.map (V.int .u8))),(6,.int .i64 p9.1),(7,.sl none 1 false (x13.map (V.int .u32))),(8,.own 2),(9,.int .i64 p.1)],[(0,.var 32 true (gX)),(1,.own 40 1 false none (p9.2.map (V.int .u32))),(2,.own 40 1 false none (p.2.map (V.int .u32)))],3⟩:St)∧((0≤p.1)∧(p.1≤64)∧(((p.2).length:Int)=8)∧((p.2).length=((([]:List Int)++p9.2)).length))∧((64:Int) - p.1).toNat<n∧ae n f17 d17 p=r) (((64:Int) - 0).toNat+1) _ sbQ sbQ ⟨(0,(([]:List Int)++p9.2)),rfl,⟨omQ,omQ,omQ,omQ⟩,(Nat.lt_succ_self _),hM⟩ ?_
  clear hM
  rintro n17 S ⟨p17,rfl,hfa17,hm17,hM⟩
  have hM0:=hM;clear hM;obtain ⟨ag17,hag17,hM⟩:=aP hM0 (by omega) hf17;clear hM0
  replace hfa17:=nzQ hfa17
  replace hm17:=nzQ hm17
  have ha17:al .i64 p17.1 1=p17.1+1:=aY omQ omQ
  replace hF:=(And.intro ha17 hF)
  revert hM;revert hF
  refine slQ ?_
  refine cdQ (fun _ _ _=> ?_) (fun _ _ _=> ?_)
  ·intro hF hM
   have hM0:=hM;clear hM;obtain ⟨x22,hx23,hM⟩:=ap hM0;clear hM0
   have hcx22:=cmH hx23 (iQ (gt p17.2 4) 6 (by (exact pfQ)) (by (exact pfQ)))
   refine bN hcx22 (ar hF) (ar hF) ?_
   revert hM;revert hF
   refine slQ ?_
   intro hF hM
   have hM0:=hM;clear hM;obtain ⟨x24,hx25,hM⟩:=ap hM0;clear hM0
   have hcx24:=cmH hx25 (iQ (gt p17.2 4) 11 (by (exact pfQ)) (by (exact pfQ)))
   refine bN hcx24 (ar hF) (ar hF) ?_
   revert hM;revert hF
   refine slQ ?_
   intro hF hM
   have hM0:=hM;clear hM;obtain ⟨x26,hx27,hM⟩:=ap hM0;clear hM0
   have hcx26:=cmH hx27 (iQ (gt p17.2 4) 25 (by (exact pfQ)) (by (exact pfQ)))
   refine bN hcx26 (ar hF) (ar hF) ?_
   revert hM;revert hF
   refine slQ ?_
   intro hF hM
   have hM0:=hM;clear hM;obtain ⟨x33,hx34,hM⟩:=ap hM0;clear hM0
   have hcx33:=cmH hx34 (iQ (gt p17.2 0) 2 (by (exact pfQ)) (by (exact pfQ)))
   refine bN hcx33 (ar hF) (ar hF) ?_
   revert hM;revert hF
   refine slQ ?_
   intro hF hM
   have hM0:=hM;clear hM;obtain ⟨x35,hx36,hM⟩:=ap hM0;clear hM0
   have hcx35:=cmH hx36 (iQ (gt p17.2 0) 13 (by (exact pfQ)) (by (exact pfQ)))
   refine bN hcx35 (ar hF) (ar hF) ?_
   revert hM;revert hF
   refine slQ ?_
   intro hF hM
   have hM0:=hM;clear hM;obtain ⟨x37,hx38,hM⟩:=ap hM0;clear hM0
   have hcx37:=cmH hx38 (iQ (gt p17.2 0) 22 (by (exact pfQ)) (by (exact pfQ)))
   refine bN hcx37 (ar hF) (ar hF) ?_
   revert hM;revert hF
   refine slQ ?_
   intro hF hM
   refine IX (n17 - 1) _ _ (by omega) (Jv (S:=⟨_,_,_⟩) 8 2 110 (T:=40) (n:=1) (g:=false) (z:=(some false)) (l:=([(al .u32 (al .u32 (al .u32 (al .u32 (al .u32 (gt p17.2 7) (aW .u32 (aW .u32 x22 x24) x26)) (aW .u32 (aU .u32 (gt p17.2 4) (gt p17.2 5)) (aU .u32 (eR .u32 (gt p17.2 4)) (gt p17.2 6)))) (gt x1 p17.1)) (gt x13 p17.1)) (al .u32 (aW .u32 (aW .u32 x33 x35) x37) (aW .u32 (aW .u32 (aU .u32 (gt p17.2 0) (gt p17.2 1)) (aU .u32 (gt p17.2 0) (gt p17.2 2))) (aU .u32 (gt p17.2 1) (gt p17.2 2))))),(gt p17.2 0),(gt p17.2 1),(gt p17.2 2),(al .u32 (gt p17.2 3) (al .u32 (al .u32 (al .u32 (al .u32 (gt p17.2 7) (aW .u32 (aW .u32 x22 x24) x26)) (aW .u32 (aU .u32 (gt p17.2 4) (gt p17.2 5)) (aU .u32 (eR .u32 (gt p17.2 4)) (gt p17.2 6)))) (gt x1 p17.1)) (gt x13 p17.1))),(gt p17.2 4),(gt p17.2 5),(gt p17.2 6)]:List Int).map (V.int .u32)) (ar hF) (ar hF) (by first|decide|(dsimp only;decide)) (by decide)) sbQ sbQ ⟨((p17.1+1),([(al .u32 (al .u32 (al .u32 (al .u32 (al .u32 (gt p17.2 7) (aW .u32 (aW .u32 x22 x24) x26)) (aW .u32 (aU .u32 (gt p17.2 4) (gt p17.2 5)) (aU .u32 (eR .u32 (gt p17.2 4)) (gt p17.2 6)))) (gt x1 p17.1)) (gt x13 p17.1)) (al .u32 (aW .u32 (aW .u32 x33 x35) x37) (aW .u32 (aW .u32 (aU .u32 (gt p17.2 0) (gt p17.2 1)) (aU .u32 (gt p17.2 0) (gt p17.2 2))) (aU .u32 (gt p17.2 1) (gt p17.2 2))))),(gt p17.2 0),(gt p17.2 1),(gt p17.2 2),(al .u32 (gt p17.2 3) (al .u32 (al .u32 (al .u32 (al .u32 (gt p17.2 7) (aW .u32 (aW .u32 x22 x24) x26)) (aW .u32 (aU .u32 (gt p17.2 4) (gt p17.2 5)) (aU .u32 (eR .u32 (gt p17.2 4)) (gt p17.2 6)))) (gt x1 p17.1)) (gt x13 p17.1))),(gt p17.2 4),(gt p17.2 5),(gt p17.2 6)]:List Int)),rfl,⟨omQ,omQ,omQ,omQ⟩,omQ,aL hM hag17⟩
  ·intro hF hM
   have hM0:=hM;clear hM;obtain ⟨f43,d43,hf43,hd43,hM⟩:=aO hM0;clear hM0
   refine aS (fun n S=> ∃p:Int×List Int,S=(⟨[(2,.ptr 0 0),(3,.own 1),(4,.sl none 1 false (x1.map (V.int .u32))),(5,.sl none 1 false (x5.map (V.int .u8))),(6,.int .i64 p9.1),(8,.own 2),(12,.int .i64 p.1)],[(0,.var 32 true (gX)),(1,.own 40 1 false none (p.2.map (V.int .u32))),(2,.own 40 1 false none (p17.2.map (V.int .u32)))],3⟩:St)∧((0≤p.1)∧(p.1≤8)∧((p.2).length=(p9.2).length))∧((8:Int) - p.1).toNat<n∧ae n f43 d43 p=r) (((8:Int) - 0).toNat+1) _ sbQ sbQ ⟨(0,p9.2),rfl,⟨omQ,omQ,omQ⟩,(Nat.lt_succ_self _),hM⟩ ?_
   clear hM
   rintro n43 S ⟨p43,rfl,hfa43,hm43,hM⟩
   have hM0:=hM;clear hM;obtain ⟨ag43,hag43,hM⟩:=aP hM0 (by omega) hf43;clear hM0
   replace hfa43:=nzQ hfa43
   replace hm43:=nzQ hm43
   have ha43:al .i64 p43.1 1=p43.1+1:=aY omQ omQ
   replace hF:=(And.intro ha43 hF)
   revert hM;revert hF
   refine slQ ?_
   refine cdQ (fun _ _ _=> ?_) (fun _ _ _=> ?_)
   ·intro hF hM
    refine aM (n43 - 1) _ (by omega) sbQ sbQ ⟨((p43.1+1),(st p43.2 p43.1 (al .u32 (gt p43.2 p43.1) (gt p17.2 p43.1)))),rfl,⟨omQ,omQ,omQ⟩,omQ,aL hM hag43⟩
   ·intro hF hM
    refine aM (n9 - 1) _ (by omega) sbQ sbQ ⟨((p9.1+64),p43.2),rfl,⟨omQ,omQ,omQ,omQ⟩,omQ,aL hM hag9⟩
 ·intro hF hM
  have hM0:=hM;clear hM;obtain ⟨f51,d51,hf51,hd51,hM⟩:=aO hM0;clear hM0
  refine aS (fun n S=> ∃p:Int×(List Int),S=(⟨[(2,.ptr 0 0),(3,.own 1),(13,.ptr 2 0),(14,.int .i64 p.1)],[(0,.var 32 true (gX)),(1,.own 40 1 false none (p9.2.map (V.int .u32))),(2,.var 32 true ((dM p.2)))],3⟩:St)∧((0≤p.1)∧(p.1≤32))∧((32:Int) - p.1).toNat<n∧ae n f51 d51 p=r) (((32:Int) - 0).toNat+1) _ sbQ sbG ⟨(0,[0,0,0,0,0,0,0,0,0,0,0,0,0,0,0,0,0,0,0,0,0,0,0,0,0,0,0,0,0,0,0,0]),rfl,⟨omQ,omQ⟩,(Nat.lt_succ_self _),hM⟩ ?_
  clear hM
  rintro n51 S ⟨p51,rfl,hfa51,hm51,hM⟩
  have hM0:=hM;clear hM;obtain ⟨ag51,hag51,hM⟩:=aP hM0 (by omega) hf51;clear hM0
  replace hfa51:=nzQ hfa51
  replace hm51:=nzQ hm51
  have ha51:al .i64 p51.1 1=p51.1+1:=aY omQ omQ
  replace hF:=(And.intro ha51 hF)
  revert hM;revert hF
  refine slQ ?_
  refine aC fun _ _ _=> ?_
  have ha54:bP .i64 p51.1 4=(p51.1/4):=js am am
  intro hF hM
  try simp only [ha54]
  replace hF:=(And.intro ha54 hF)
  revert hM;revert hF
  refine slQ ?_
  have ha56:aQ .i64 p51.1 4=(p51.1% 4):=nf am am
  intro hF hM
  try simp only [ha56]
  replace hF:=(And.intro ha56 hF)
  revert hM;revert hF
  refine slQ ?_
  obtain ⟨ha57,hbha57⟩:=kn (a:=8) (b:=(p51.1% 4)) 8 64 512 am am am am (by decide) (by decide)
  intro hF hM
  try simp only [ha57]
  have ha58:av .i64 24 (8*(p51.1% 4))=(24 - (8*(p51.1% 4))):=dc omQ omQ
  try simp only [ha58]
  replace hF:=(And.intro ha57 (And.intro ha58 hF))
  revert hM;revert hF
  refine slQ ?_
  have he59:((p51.1).toNat*1≤31)=True:=eq_true am
  refine slA he59 ?_
  have he60:=pg (f:=(V.int .u8)) (l:=(br 32 p51.2)) (n:=32) (i:=p51.1) (v:=(ah .u8 (aw .u32 (gt p9.2 (p51.1/4)) (24 - (8*(p51.1% 4)))))) dL am
  replace he60:=spR he60
  refine slA he60 ?_
  intro hF hM
  refine aM (n51 - 1) _ (by omega) sbQ sbG ⟨((p51.1+1),(br 32 (st (br 32 p51.2) p51.1 (ah .u8 (aw .u32 (gt p9.2 (p51.1/4)) (24 - (8*(p51.1% 4)))))))),rfl,⟨omQ,omQ⟩,omQ,aL hM hag51⟩
set_option maxHeartbeats 2000000 in
set_option maxRecDepth 100000 in
theorem Da (b:(List Int)) (h_:(List Int)) (hp0:b.length≤1000000000):CM En (jG b h_) 163 [.sl none 1 false (b.map (V.int .u8)),(dM h_)] (fun _=> .own 0) (fun y=> [.own 5 1 false none (y.map (V.int .u8))]):=by
 refine enQ noJ Tryz.func163 Tryz.ntmps163 (jG.eq_1 ..) fun r hw=> ?_
 refine slQ ?_
 intro hF hM
 have hM0:=hM;clear hM;obtain ⟨f1,d1,hf1,hd1,hM⟩:=aO hM0;clear hM0
 refine aS (fun n S=> ∃p:Int×List Int,S=(⟨[(3,.ptr 0 0),(5,.own 1),(6,.int .i64 p.1)],[(0,.var 32 true ((dM h_))),(1,.own 5 1 false none (p.2.map (V.int .u8)))],2⟩:St)∧((0≤p.1)∧(p.1≤32)∧(((p.2).length:Int)≤p.1+((([]:List Int)++b)).length))∧((32:Int) - p.1).toNat<n∧ae n f1 d1 p=r) (((32:Int) - 0).toNat+1) _ sbQ sbQ ⟨(0,(([]:List Int)++b)),rfl,⟨omQ,omQ,omQ⟩,(Nat.lt_succ_self _),hM⟩ ?_
 clear hM
 rintro n1 S ⟨p1,rfl,hfa1,hm1,hM⟩
 have hM0:=hM;clear hM;obtain ⟨ag1,hag1,hM⟩:=aP hM0 (by omega) hf1;clear hM0
 replace hfa1:=nzQ hfa1
 replace hm1:=nzQ hm1
 have ha1:al .i64 p1.1 1=p1.1+1:=aY omQ omQ
 replace hF:=(And.intro ha1 hF)
 revert hM;revert hF
 refine slQ ?_
 refine cdQ (fun _ _ _=> ?_) (fun _ _ _=> ?_)
 ·have he4:((p1.1).toNat*1≤31)=True:=eq_true am
  refine slA he4 ?_
  have he5:=iy (f:=(V.int .u8)) (l:=h_) (n:=32) (i:=p1.1) am
  replace he5:=spR he5
  refine slA he5 ?_
  intro hF hM
  refine aM (n1 - 1) _ (by omega) sbQ sbQ ⟨((p1.1+1),(p1.2++([(gt h_ p1.1)]:List Int))),rfl,⟨omQ,omQ,omQ⟩,omQ,aL hM hag1⟩
 ·intro hF hM
  subst hM
  exact vT [1] (bs:=[.own 5 1 false none (p1.2.map (V.int .u8))]) (ar hF) (by decide) (cQ hF)
instance (priority:=1038):DRD 2 16 5 [9,10,11,12,13] [] ([[],[0],[],[0,1,2],[]]++[List.range 5,List.range 6,List.range 7]) []:=⟨trivial⟩
set_option maxHeartbeats 2000000 in
set_option maxRecDepth 100000 in
theorem xn (tag:(List UInt8)) (b:(List Int)) (hp0:b.length≤900000000) (hp1:tag.length≤1000):CM En (eB tag b) 123 [.str tag,.sl none 1 false (b.map (V.int .u8))] (fun y=>(dM y)) (fun _=> []):=by
 refine enQ noJ Tryz.func123 Tryz.ntmps123 (eB.eq_1 ..) fun r hw=> ?_
 intro hF hM
 have hM0:=hM;clear hM;obtain ⟨x1,hx2,hM⟩:=ap hM0;clear hM0
 have hcx1:=cmH hx2 (C_ (bK tag) (by (exact pfQ)))
 refine eW hcx1 clQ clQ (fun hw3=> ?_)
 replace hw3:=nzQ hw3
 revert hM;revert hF
 refine slQ ?_
 intro hF hM
 have hM0:=hM;clear hM;obtain ⟨x4,hx5,hM⟩:=ap hM0;clear hM0
 have hcx4:=aE.pub (cmH hx5 (Da ([]:List Int) x1 (by (exact pfQ))))
 refine bN hcx4 clQ clQ ?_
 revert hM;revert hF
 refine slQ ?_
 have hq6:=nzQ (cfU hx5)
 intro hF hM
 have hM0:=hM;clear hM;obtain ⟨x7,hx8,hM⟩:=ap hM0;clear hM0
 have hcx7:=cmH hx8 (Da x4 x1 (by (exact pfQ)))
 refine zW hcx7 clQ clQ ?_
 revert hM;revert hF
 refine slQ ?_
 have hq9:=nzQ (cfU hx8)
 refine slQ ?_
 intro hF hM
 have hM0:=hM;clear hM;obtain ⟨x10,hx11,hM⟩:=ap hM0;clear hM0
 have hcx10:=cmH hx11 (C_ (x7++b) (by (exact pfQ)))
 refine eW hcx10 clQ clQ (fun hw12=> ?_)
 replace hw12:=nzQ hw12
 exact auP
set_option maxHeartbeats 2000000 in
set_option maxRecDepth 100000 in
theorem M6 (label:(List UInt8)) (hp0:label.length≤100):CM En (ff label) 70 [.str label] (fun y=>(dB y)) (fun _=> []):=by
 refine enQ noJ Tryz.func70 Tryz.ntmps70 (ff.eq_1 ..) fun r hw=> ?_
 intro hF hM
 have hM0:=hM;clear hM;obtain ⟨x1,hx2,hM⟩:=ap hM0;clear hM0
 have hcx1:=cmH hx2 (xn ([115,112,101,99,105,101,47,116,114,97,110,115,99,114,105,112,116]) (bK label) (by (clear hM;first|decide|omega|(simp only [cL];omega))) (by (clear hM;first|decide|omega|(simp only [cL];omega))))
 refine eW hcx1 clQ clQ (fun hw3=> ?_)
 replace hw3:=nzQ hw3
 exact auP
instance (priority:=1039):DRD 5 23 8 [12,13,14,15,16,17,18,19] [] ([[],[0],[],[],[2,3],[2,3,4],[2,3,4,5],[2,3,4,5,6]]++[List.range 8,List.range 9,List.range 10]) []:=⟨trivial⟩
set_option maxHeartbeats 2000000 in
set_option maxRecDepth 100000 in
instance Rz (l:(List Int)):CM En (nN l) 124 [.sl none 1 false (l.map (V.int .i64))] (fun y=> .agg [.int .i64 y.Kind,.int .i64 y.N,.sl none 1 false (y.B.map (V.int .u8)),.sl none 4 true (y.L.map bJ)]) (fun _=> []):=by
 refine enQ noJ Tryz.func124 Tryz.ntmps124 (nN.eq_1 ..) fun r hw=> ?_
 intro hF hM
 have hM0:=hM;clear hM;obtain ⟨f1,d1,hf1,hd1,hM⟩:=aO hM0;clear hM0
 refine gU (fun n S=> ∃p:Int×List aq,S=(⟨[(0,.sl none 1 false (l.map (V.int .i64))),(2,.ptr 0 0),(3,.ptr 1 0),(4,.int .i64 p.1)],[(0,.var 4 true (.agg [.int .i64 0,.int .i64 0,.sl (some true) 1 false [],.sl (some true) 4 true []])),(1,.var 4 true (.agg [.int .i64 3,.int .i64 0,.sl (some true) 1 false [],.own 2])),(2,.own 102 4 true none (p.2.map bJ))],3⟩:St)∧((0≤p.1)∧(p.1≤(l.length:Int))∧(((p.2).length:Int)≤p.1))∧((l.length:Int) - p.1).toNat<n∧ae n f1 d1 p=r) (((l.length:Int) - 0).toNat+1) _ _ (o9 1 3 102 rfl rfl (by decide)) sbQ sbQ ⟨(0,([]:List aq)),rfl,⟨omQ,omQ,omQ⟩,(Nat.lt_succ_self _),hM⟩ ?_
 clear hM
 rintro n1 S ⟨p1,rfl,hfa1,hm1,hM⟩
 have hM0:=hM;clear hM;obtain ⟨ag1,hag1,hM⟩:=aP hM0 (by omega) hf1;clear hM0
 replace hfa1:=nzQ hfa1
 replace hm1:=nzQ hm1
 have ha1:al .i64 p1.1 1=p1.1+1:=aY omQ omQ
 replace hF:=(And.intro ha1 hF)
 revert hM;revert hF
 refine slQ ?_
 refine aC fun _ _ _=> ?_
 intro hF hM
 refine aM (n1 - 1) _ (by omega) sbQ sbQ ⟨((p1.1+1),(p1.2++([({Kind:=1,N:=(gt l p1.1),B:=([]:List Int),L:=([]:List aq)}:aq)]:List aq))),rfl,⟨omQ,omQ,omQ⟩,omQ,aL hM hag1⟩
set_option maxHeartbeats 2000000 in
set_option maxRecDepth 100000 in
instance RA (t:aV):CM En (kO t) 125 [(dB t)] (fun y=> .bool y) (fun _=> []):=by
 refine enQ noJ Tryz.func125 Tryz.ntmps125 (kO.eq_1 ..) fun r hw=> ?_
 exact auR
set_option maxHeartbeats 2000000 in
set_option maxRecDepth 100000 in
theorem M7 (N:Nat) (ih: ∀(i_:aq) (within:Int),(0≤within)→(within≤8)→hgt i_<N→aE En 164 [.agg [.int .i64 i_.Kind,.int .i64 i_.N,.sl none 1 false (i_.B.map (V.int .u8)),.sl none 4 true (i_.L.map bJ)],.int .i64 within] (.bool (jt i_ within)) []) (i_:aq) (within:Int) (hp0:0≤within) (hp1:within≤8) (hp_:hgt i_<N+1):aE En 164 [.agg [.int .i64 i_.Kind,.int .i64 i_.N,.sl none 1 false (i_.B.map (V.int .u8)),.sl none 4 true (i_.L.map bJ)],.int .i64 within] (.bool (pQ i_ within)) []:=by
 generalize hM:pQ i_ within=r
 rw [pQ.eq_1] at hM
 refine bU bf bv noJ Tryz.func164 rfl Tryz.ntmps164 (by kernel_rfl) fun hw=>bu ?_
 refine spQ ?_
 replace hw:=nzQ hw
 have hF:=bW
 revert hM;revert hF
 refine aT fun _ _ _=> ?_
 refine aT fun _ _ _=> ?_
 refine aC fun _ _ _=> ?_
 refine aC fun _ _ _=> ?_
 refine aC fun _ _ _=> ?_
 refine aC fun _ _ _=> ?_
 refine aT fun _ _ _=> ?_
 intro hF hM
 have hM0:=hM;clear hM;obtain ⟨f24,d24,hf24,hd24,hM⟩:=aO hM0;clear hM0
 refine aS (fun n S=> ∃p:Int,S=(⟨[(1,.int .i64 within),(2,.ptr 0 0),(5,.int .i64 p)],[(0,.var 4 true (.agg [.int .i64 i_.Kind,.int .i64 i_.N,.sl none 1 false (i_.B.map (V.int .u8)),.sl none 4 true (i_.L.map bJ)]))],1⟩:St)∧((0≤p)∧(p≤(i_.L.length:Int)))∧((i_.L.length:Int) - p).toNat<n∧ae n f24 d24 p=r) (((i_.L.length:Int) - 0).toNat+1) _ sbQ sbQ ⟨0,rfl,⟨omQ,omQ⟩,(Nat.lt_succ_self _),hM⟩ ?_
 clear hM
 rintro n24 S ⟨p24,rfl,hfa24,hm24,hM⟩
 have hM0:=hM;clear hM;obtain ⟨ag24,hag24,hM⟩:=aP hM0 (by omega) hf24;clear hM0
 replace hfa24:=nzQ hfa24
 replace hm24:=nzQ hm24
 have ha24:al .i64 p24 1=p24+1:=aY omQ omQ
 replace hF:=(And.intro ha24 hF)
 revert hM;revert hF
 refine slQ ?_
 refine aC fun _ _ _=> ?_
 have ha28:al .i64 within 1=(within+1):=dq am am
 intro hF hM
 try simp only [ha28]
 have hM0:=hM;clear hM;obtain ⟨x29,hx30,hM⟩:=ap hM0;clear hM0
 have hcx29:=ih (gt i_.L p24) (within+1) (by (have h9:=fN (i:=i_) (aI (l:=i_.L) (i:=p24) (by omega));first|exact h9|omega)) (by (have h9:=fN (i:=i_) (aI (l:=i_.L) (i:=p24) (by omega));first|exact h9|omega)) (by (have h9:=fN (i:=i_) (aI (l:=i_.L) (i:=p24) (by omega));first|exact h9|omega))
 rw [←hx30] at hcx29
 replace hF:=(And.intro ha28 hF)
 refine aJ hcx29 (ar hF) (ar hF) (fun hw31=> ?_)
 replace hw31:=nzQ hw31
 revert hM;revert hF
 refine slQ ?_
 refine aT fun _ _ _=> ?_
 intro hF hM
 refine aM (n24 - 1) _ (by omega) sbQ sbQ ⟨(p24+1),rfl,⟨omQ,omQ⟩,omQ,aL hM hag24⟩
theorem M8: ∀(N:Nat) (i_:aq) (within:Int),(0≤within)→(within≤8)→hgt i_<N→aE En 164 [.agg [.int .i64 i_.Kind,.int .i64 i_.N,.sl none 1 false (i_.B.map (V.int .u8)),.sl none 4 true (i_.L.map bJ)],.int .i64 within] (.bool (jt i_ within)) []:=by
 intro N
 induction N with
 | zero=>intro i_ within h0 h1 h;exact absurd h (Nat.not_lt_zero _)
 | succ N ih=>
  intro i_ within h0 h1 h
  have h9:=M7 N ih i_ within h0 h1 h
  rw [Kq h0 h1] at h9
  exact h9
theorem M9 (i_:aq) (within:Int) (hp0:0≤within) (hp1:within≤8):aE En 164 [.agg [.int .i64 i_.Kind,.int .i64 i_.N,.sl none 1 false (i_.B.map (V.int .u8)),.sl none 4 true (i_.L.map bJ)],.int .i64 within] (.bool (jt i_ within)) []:=
 M8 (hgt i_+1) i_ within hp0 hp1 (Nat.lt_succ_self _)
set_option maxHeartbeats 2000000 in
set_option maxRecDepth 100000 in
instance RB (i_:aq):CM En (pR i_) 127 [.agg [.int .i64 i_.Kind,.int .i64 i_.N,.sl none 1 false (i_.B.map (V.int .u8)),.sl none 4 true (i_.L.map bJ)]] (fun y=> .bool y) (fun _=> []):=by
 refine enQ noJ Tryz.func127 Tryz.ntmps127 (pR.eq_1 ..) fun r hw=> ?_
 intro hF hM
 have hM0:=hM;clear hM;obtain ⟨x1,hx2,hM⟩:=ap hM0;clear hM0
 have hcx1:=M9 i_ 0 (by (first|decide|omega)) (by (first|decide|omega))
 rw [←hx2] at hcx1
 refine aJ hcx1 clQ clQ (fun hw3=> ?_)
 replace hw3:=nzQ hw3
 exact auP
set_option maxHeartbeats 2000000 in
set_option maxRecDepth 100000 in
theorem xo (n_:Int) (size:Int) (hp0:0≤size) (hp1:size≤8):CM En (kP n_ size) 165 [.int .u64 n_,.int .i64 size] (fun y=> .sl none 1 false (y.map (V.int .u8))) (fun _=> []):=by
 refine enQ noJ Tryz.func165 Tryz.ntmps165 (kP.eq_1 ..) fun r hw=> ?_
 refine slQ ?_
 have ha1:av .i64 size 1=(size - 1):=dc am am
 intro hF hM
 try simp only [ha1]
 have hM0:=hM;clear hM;obtain ⟨f2,d2,hf2,hd2,hM⟩:=aO hM0;clear hM0
 refine aS (fun n S=> ∃p:Int×Int×List Int,S=(⟨[(0,.int .u64 p.1),(5,.own 0),(6,.int .i64 p.2.1)],[(0,.own 5 1 false none (p.2.2.map (V.int .u8)))],1⟩:St)∧((-1≤p.2.1)∧(p.2.1<size)∧(((p.2.2).length:Int)=size))∧(p.2.1+1).toNat<n∧ae n f2 d2 p=r) (((size - 1)+1).toNat+1) _ sbQ sbQ ⟨(n_,(size - 1),(rep size.toNat (0:Int))),rfl,⟨omQ,omQ,omQ⟩,(Nat.lt_succ_self _),hM⟩ ?_
 clear hM
 rintro n2 S ⟨p2,rfl,hfa2,hm2,hM⟩
 have hM0:=hM;clear hM;obtain ⟨ag2,hag2,hM⟩:=aP hM0 (by omega) hf2;clear hM0
 replace hfa2:=nzQ hfa2
 replace hm2:=nzQ hm2
 replace hF:=(And.intro ha1 hF)
 revert hM;revert hF
 refine slQ ?_
 refine aC fun _ _ _=> ?_
 have ha6:av .i64 p2.2.1 1=(p2.2.1 - 1):=dc am am
 intro hF hM
 try simp only [ha6]
 refine aM (n2 - 1) _ (by omega) sbQ sbQ ⟨((bP .u64 p2.1 256),(p2.2.1 - 1),(st p2.2.2 p2.2.1 (ah .u8 (aQ .u64 p2.1 256)))),rfl,⟨omQ,omQ,omQ⟩,omQ,aL hM hag2⟩
instance (priority:=1040):DRD 5 50 9 [17,18,19,20,21,22,23,24,25] [] ([[],[],[1],[1,2],[1,2,3],[1,2,3,4],[0,1,2,3,4,5],[],[7]]++[List.range 9,List.range 10]) [(6,1)]:=⟨trivial⟩
set_option maxHeartbeats 2000000 in
set_option maxRecDepth 100000 in
theorem M_ (N:Nat) (ih: ∀(i_:aq),(hgt i_≤50000000)→hgt i_<N→aE En 128 [.agg [.int .i64 i_.Kind,.int .i64 i_.N,.sl none 1 false (i_.B.map (V.int .u8)),.sl none 4 true (i_.L.map bJ)]] (.sl none 1 false ((bB i_).map (V.int .u8))) []) (i_:aq) (hp0:hgt i_≤50000000) (hp_:hgt i_<N+1):aE En 128 [.agg [.int .i64 i_.Kind,.int .i64 i_.N,.sl none 1 false (i_.B.map (V.int .u8)),.sl none 4 true (i_.L.map bJ)]] (.sl none 1 false ((pS i_).map (V.int .u8))) []:=by
 generalize hM:pS i_=r
 rw [pS.eq_1] at hM
 refine bU bf bv noJ Tryz.func128 rfl Tryz.ntmps128 (by kernel_rfl) fun hw=>bu ?_
 refine spQ ?_
 replace hw:=nzQ hw
 have hG0:=nk i_
 have hF:=bW
 revert hM;revert hF
 refine cdQ (fun _ _ _=> ?_) (fun _ _ _=> ?_)
 ·intro hF hM
  have hM0:=hM;clear hM;obtain ⟨x3,hx4,hM⟩:=ap hM0;clear hM0
  have hcx3:=cmH hx4 (xo (ah .u64 i_.N) 8 (by (exact pfQ)) (by (exact pfQ)))
  refine aJ hcx3 clQ clQ (fun hw5=> ?_)
  replace hw5:=nzQ hw5
  revert hM;revert hF
  refine slQ ?_
  have hq6:=rnl hx4 (by decide)
  replace hq6:=nzQ hq6
  exact auR
 ·refine cdQ (fun _ _ _=> ?_) (fun _ _ _=> ?_)
  ·intro hF hM
   have hM0:=hM;clear hM;obtain ⟨x10,hx11,hM⟩:=ap hM0;clear hM0
   have hcx10:=cmH hx11 (xo (ah .u64 (i_.B.length:Int)) 4 (by (exact pfQ)) (by (exact pfQ)))
   refine bN hcx10 clQ clQ ?_
   revert hM;revert hF
   refine slQ ?_
   have hq12:=rnl hx11 (by decide)
   replace hq12:=nzQ hq12
   exact auR
  ·intro hF hM
   have hM0:=hM;clear hM;obtain ⟨x14,hx15,hM⟩:=ap hM0;clear hM0
   have hcx14:=cmH hx15 (xo (ah .u64 (i_.L.length:Int)) 4 (by (exact pfQ)) (by (exact pfQ)))
   refine aJ hcx14 clQ clQ (fun hw16=> ?_)
   replace hw16:=nzQ hw16
   revert hM;revert hF
   refine slQ ?_
   have hq17:=rnl hx15 (by decide)
   replace hq17:=nzQ hq17
   refine slQ ?_
   intro hF hM
   have hM0:=hM;clear hM;obtain ⟨f18,d18,hf18,hd18,hM⟩:=aO hM0;clear hM0
   refine aS (fun n S=> ∃p:Int×List Int,S=(⟨[(1,.ptr 0 0),(3,.own 1),(4,.int .i64 p.1)],[(0,.var 4 true (.agg [.int .i64 i_.Kind,.int .i64 i_.N,.sl none 1 false (i_.B.map (V.int .u8)),.sl none 4 true (i_.L.map bJ)])),(1,.own 5 1 false none (p.2.map (V.int .u8)))],2⟩:St)∧(((0≤p.1)∧(p.1≤(i_.L.length:Int)))∧(((p.2).length:Int)+9*(bO (i_.L.drop (p.1).toNat):Int)≤9*(hgt i_:Int)))∧((i_.L.length:Int) - p.1).toNat<n∧ae n f18 d18 p=r) (((i_.L.length:Int) - 0).toNat+1) _ sbQ sbQ ⟨(0,(([3]:List Int)++x14)),rfl,⟨⟨by (first|exact omQ|(clear hM;first|(have h9:=nk i_;exact am)|(have h9:=fN (i:=i_) (aI (l:=i_.L) (i:=p18.1) (by omega));exact am))),by (first|exact omQ|(clear hM;first|(have h9:=nk i_;exact am)|(have h9:=fN (i:=i_) (aI (l:=i_.L) (i:=p18.1) (by omega));exact am)))⟩,by (have h9:=nk i_;simp only [Int.toNat_zero,List.drop_zero,List.length_append,List.length_cons,List.length_nil];omega)⟩,(Nat.lt_succ_self _),hM⟩ ?_
   clear hM
   rintro n18 S ⟨p18,rfl,⟨hfa18,hF8_0⟩,hm18,hM⟩
   have hA0:=fun a0=>fN (i:=i_) (aI (l:=i_.L) (i:=p18.1) a0)
   have hA1:=fun a0=>fN (i:=i_) (aI (l:=i_.L) (i:=(p18.1+1)) a0)
   have hM0:=hM;clear hM;obtain ⟨ag18,hag18,hM⟩:=aP hM0 (by omega) hf18;clear hM0
   replace hfa18:=nzQ hfa18
   replace hm18:=nzQ hm18
   have ha18:al .i64 p18.1 1=p18.1+1:=aY (by exact omA) (by exact omA)
   replace hF:=(And.intro ha18 hF)
   revert hM;revert hF
   refine slQ ?_
   refine aC fun _ _ _=> ?_
   intro hF hM
   have hM0:=hM;clear hM;obtain ⟨x22,hx23,hM⟩:=ap hM0;clear hM0
   have hcx22:=ih (gt i_.L p18.1) (by (have h9:=fN (i:=i_) (aI (l:=i_.L) (i:=p18.1) (by omega));omega)) (by (have h9:=fN (i:=i_) (aI (l:=i_.L) (i:=p18.1) (by omega));omega))
   rw [←hx23] at hcx22
   refine aJ hcx22 (ar hF) (ar hF) (fun hw24=> ?_)
   replace hw24:=nzQ hw24
   revert hM;revert hF
   refine slQ ?_
   have hq25:=wS hx23
   replace hq25:=nzQ hq25
   refine slQ ?_
   intro hF hM
   refine aM (n18 - 1) _ (by omega) sbQ sbQ ⟨((p18.1+1),(p18.2++x22)),rfl,⟨⟨by exact omA,by exact omA⟩,by (have h9:=Kg (l:=i_.L) (i:=p18.1) (by omega);rw [show (((p18.1+1)):Int).toNat=(p18.1).toNat+1 by omega];simp only [List.length_append];omega)⟩,by exact omA,aL hM hag18⟩
theorem Na: ∀(N:Nat) (i_:aq),(hgt i_≤50000000)→hgt i_<N→aE En 128 [.agg [.int .i64 i_.Kind,.int .i64 i_.N,.sl none 1 false (i_.B.map (V.int .u8)),.sl none 4 true (i_.L.map bJ)]] (.sl none 1 false ((bB i_).map (V.int .u8))) []:=by
 intro N
 induction N with
 | zero=>intro i_ h0 h;exact absurd h (Nat.not_lt_zero _)
 | succ N ih=>
  intro i_ h0 h
  have h9:=M_ N ih i_ h0 h
  rw [Kk] at h9
  exact h9
theorem Db (i_:aq) (hp0:hgt i_≤50000000):aE En 128 [.agg [.int .i64 i_.Kind,.int .i64 i_.N,.sl none 1 false (i_.B.map (V.int .u8)),.sl none 4 true (i_.L.map bJ)]] (.sl none 1 false ((bB i_).map (V.int .u8))) []:=
 Na (hgt i_+1) i_ hp0 (Nat.lt_succ_self _)
instance (priority:=1041):DRD 9 45 5 [39,40,41,42,43] [] ([[],[0],[],[2],[2,3]]++[List.range 5,List.range 6,List.range 7]) []:=⟨trivial⟩
set_option maxHeartbeats 2000000 in
set_option maxRecDepth 100000 in
theorem xp (t:aV) (label:(List UInt8)) (i_:aq) (hp0:hgt i_≤10000):CM En (jH t label i_) 72 [(dB t),.str label,.agg [.int .i64 i_.Kind,.int .i64 i_.N,.sl none 1 false (i_.B.map (V.int .u8)),.sl none 4 true (i_.L.map bJ)]] (fun y=> .tup [(dB y.1),.int .i64 y.2]) (fun _=> []):=by
 refine enQ noJ Tryz.func72 Tryz.ntmps72 (jH.eq_1 ..) fun r hw=> ?_
 refine bh fun _ _ _ _=> ?_
 refine aC fun _ _ _=> ?_
 refine bh fun _ _ _ _=> ?_
 refine aT fun _ _ _=> ?_
 intro hF hM
 have hM0:=hM;clear hM;obtain ⟨x13,hx14,hM⟩:=ap hM0;clear hM0
 have hcx13:=cmH hx14 (AO t label ([i_]:List aq) (by (exact Nat.le_of_ble_eq_true rfl)))
 refine vP hcx13 (vQ 3 (T:=102) (n:=4) (g:=true) (z:=(some false)) (l:=([i_]:List aq).map bJ) clQ) clQ (fun hw15=> ?_)
 replace hw15:=nzQ hw15
 revert hM;revert hF
 refine slQ ?_
 have hq16:=Lv hx14
 replace hq16:=nzQ hq16
 refine bh fun _ _ _ _=> ?_
 refine aT fun _ _ _=> ?_
 intro hF hM
 have hM0:=hM;clear hM;obtain ⟨x23,hx24,hM⟩:=ap hM0;clear hM0
 have hcx23:=Db x13 (by (clear hM;omega))
 rw [←hx24] at hcx23
 refine aJ hcx23 clQ clQ (fun hw25=> ?_)
 replace hw25:=nzQ hw25
 revert hM;revert hF
 refine slQ ?_
 have hq26:=wS hx24
 replace hq26:=nzQ hq26
 refine aC fun _ _ _=> ?_
 refine aT fun _ _ _=> ?_
 intro hF hM
 have hM0:=hM;clear hM;obtain ⟨x32,hx33,hM⟩:=ap hM0;clear hM0
 have hcx32:=cmH hx33 (xn ([115,112,101,99,105,101,47,97,98,115,111,114,98]) x23 (by (clear hM;first|decide|omega|(simp only [cL];omega))) (by (clear hM;first|decide|omega|(simp only [cL];omega))))
 refine bN hcx32 clQ clQ ?_
 exact auP
instance (priority:=1042):DRD 1 15 7 [8,9,10,11,12,13,14] [] ([[],[],[],[2],[0,1,2,3],[0,1,2,3,4],[0,1,2,3,4]]++[List.range 7,List.range 8]) []:=⟨trivial⟩
set_option maxHeartbeats 2000000 in
set_option maxRecDepth 100000 in
theorem Dc (t:aV) (label:(List UInt8)) (l:(List Int)) (hp0:l.length≤1000):CM En (kQ t label l) 71 [(dB t),.str label,.sl none 1 false (l.map (V.int .i64))] (fun y=> .tup [(dB y.1),.int .i64 y.2]) (fun _=> []):=by
 refine enQ noJ Tryz.func71 Tryz.ntmps71 (kQ.eq_1 ..) fun r hw=> ?_
 refine slQ ?_
 refine bh fun x1 hx2 _ _=> ?_
 have hq3:=Lx hx2
 replace hq3:=nzQ hq3
 intro hF hM
 have hM0:=hM;clear hM;obtain ⟨x4,hx5,hM⟩:=ap hM0;clear hM0
 have hcx4:=cmH hx5 (xp t label x1 (by (clear hM;omega)))
 refine bN hcx4 clQ clQ ?_
 exact auP
end Go.Proofs.YtgealhhkngbkbaaGreatDoor
namespace Go.Proofs.YtgealhhkngbkbaaGreatDoor
open Go.RowKit
set_option linter.unusedSimpArgs false
instance (priority:=1043):DRD 7 48 10 [23,24,25,26,27,28,29,30,31,32] [] ([[],[0],[],[0,1,2],[0,1,2,3],[],[5],[],[5,6,7],[5,6,7,8]]++[List.range 10,List.range 11]) []:=⟨trivial⟩
set_option maxHeartbeats 2000000 in
set_option maxRecDepth 100000 in
theorem Nb (N:Nat) (ih: ∀(f_:aa) (t:aG),(shp f_ t)→(ax f_≤30)→ax f_<N→aE En 73 [.agg [.int .i64 f_.Kind,.sl none 1 false (f_.Relation.Y.map (V.int .i64)),.sl none 1 false (f_.Relation.Bases.map (fun (l:List Int)=>V.sl none 1 false (l.map (V.int .i64)))),.sl none 4 true (f_.L.map aA)],.agg [.int .i64 t.C,.sl none 1 false (t.P.A.map (V.int .i64)),.int .i64 t.P.C,.sl none 1 false (t.P.Z.map (V.int .i64)),.sl none 5 true (t.L.map bA)]] (.sl none 1 false ((b9 f_ t).map (fun (l:List Int)=>V.sl none 1 false (l.map (V.int .i64))))) []) (f_:aa) (t:aG) (hp0:shp f_ t) (hp1:ax f_≤30) (hp_:ax f_<N+1):aE En 73 [.agg [.int .i64 f_.Kind,.sl none 1 false (f_.Relation.Y.map (V.int .i64)),.sl none 1 false (f_.Relation.Bases.map (fun (l:List Int)=>V.sl none 1 false (l.map (V.int .i64)))),.sl none 4 true (f_.L.map aA)],.agg [.int .i64 t.C,.sl none 1 false (t.P.A.map (V.int .i64)),.int .i64 t.P.C,.sl none 1 false (t.P.Z.map (V.int .i64)),.sl none 5 true (t.L.map bA)]] (.sl none 1 false ((pT f_ t).map (fun (l:List Int)=>V.sl none 1 false (l.map (V.int .i64))))) []:=by
 generalize hM:pT f_ t=r
 rw [pT.eq_1] at hM
 refine bU bf bv noJ Tryz.func73 rfl Tryz.ntmps73 (by kernel_rfl) fun hw=>bu ?_
 refine spQ ?_
 replace hw:=nzQ hw
 have h0_0:=CC hp0
 have h0_1:=CB hp1
 have hF:=bW
 revert hM;revert hF
 refine aT fun _ _ _=> ?_
 intro hF hM
 have hM0:=hM;clear hM;obtain ⟨f4,d4,hf4,hd4,hM⟩:=aO hM0;clear hM0
 refine gU (fun n S=> ∃p:Int×List (List Int),S=(⟨[(2,.ptr 0 0),(3,.ptr 1 0),(5,.own 2),(6,.int .i64 p.1)],[(0,.var 4 true (.agg [.int .i64 f_.Kind,.sl none 1 false (f_.Relation.Y.map (V.int .i64)),.sl none 1 false (f_.Relation.Bases.map (fun (l:List Int)=>V.sl none 1 false (l.map (V.int .i64)))),.sl none 4 true (f_.L.map aA)])),(1,.var 5 true (.agg [.int .i64 t.C,.sl none 1 false (t.P.A.map (V.int .i64)),.int .i64 t.P.C,.sl none 1 false (t.P.Z.map (V.int .i64)),.sl none 5 true (t.L.map bA)])),(2,.own 24 1 false none (p.2.map (fun (l:List Int)=>V.sl none 1 false (l.map (V.int .i64)))))],3⟩:St)∧((0≤p.1)∧(p.1≤(f_.L.length:Int))∧(0≤p.1)∧(p.1≤(f_.L.length:Int))∧(((p.2).length:Int)≤30*p.1))∧((f_.L.length:Int) - p.1).toNat<n∧ae n f4 d4 p=r) (((f_.L.length:Int) - 0).toNat+1) _ _ (lJ 5 24 rfl (by decide)) sbQ sbQ ⟨(0,([]:List (List Int))),rfl,⟨omQ,omQ,omQ,omQ,omQ⟩,(Nat.lt_succ_self _),hM⟩ ?_
 clear hM
 rintro n4 S ⟨p4,rfl,hfa4,hm4,hM⟩
 have hM0:=hM;clear hM;obtain ⟨ag4,hag4,hM⟩:=aP hM0 (by omega) hf4;clear hM0
 replace hfa4:=nzQ hfa4
 replace hm4:=nzQ hm4
 have ha4:al .i64 p4.1 1=p4.1+1:=aY omQ omQ
 replace hF:=(And.intro ha4 hF)
 revert hM;revert hF
 refine slQ ?_
 refine aC fun _ _ _=> ?_
 intro hF hM
 have hM0:=hM;clear hM;obtain ⟨x9,hx10,hM⟩:=ap hM0;clear hM0
 have hcx9:=ih (gt f_.L p4.1) (gt t.L p4.1) (by (first|exact nT hp0 (by assumption) (by omega) (by omega)|(have h9:=b_ (f:=f_) (aI (l:=f_.L) (i:=p4.1) (by omega));omega))) (by (first|exact nT hp0 (by assumption) (by omega) (by omega)|(have h9:=b_ (f:=f_) (aI (l:=f_.L) (i:=p4.1) (by omega));omega))) (by (have h9:=b_ (f:=f_) (aI (l:=f_.L) (i:=p4.1) (by omega));omega))
 rw [←hx10] at hcx9
 refine aJ hcx9 (ar hF) (ar hF) (fun hw11=> ?_)
 replace hw11:=nzQ hw11
 revert hM;revert hF
 refine slQ ?_
 have hq12:=th hx10 (nT hp0 (by assumption) (by omega) (by omega)) (kX hp1 (by omega))
 replace hq12:=nzQ hq12
 intro hF hM
 have hM0:=hM;clear hM;obtain ⟨f13,d13,hf13,hd13,hM⟩:=aO hM0;clear hM0
 refine aS (fun n S=> ∃p:Int×List (List Int),S=(⟨[(2,.ptr 0 0),(3,.ptr 1 0),(5,.own 2),(6,.int .i64 p4.1),(7,.sl none 1 false (x9.map (fun (l:List Int)=>V.sl none 1 false (l.map (V.int .i64))))),(8,.int .i64 p.1)],[(0,.var 4 true (.agg [.int .i64 f_.Kind,.sl none 1 false (f_.Relation.Y.map (V.int .i64)),.sl none 1 false (f_.Relation.Bases.map (fun (l:List Int)=>V.sl none 1 false (l.map (V.int .i64)))),.sl none 4 true (f_.L.map aA)])),(1,.var 5 true (.agg [.int .i64 t.C,.sl none 1 false (t.P.A.map (V.int .i64)),.int .i64 t.P.C,.sl none 1 false (t.P.Z.map (V.int .i64)),.sl none 5 true (t.L.map bA)])),(2,.own 24 1 false none (p.2.map (fun (l:List Int)=>V.sl none 1 false (l.map (V.int .i64)))))],13⟩:St)∧((0≤p.1)∧(p.1≤(x9.length:Int))∧(0≤p.1)∧(p.1≤((x9).length:Int))∧(((p.2).length:Int)≤30*p4.1+p.1))∧((x9.length:Int) - p.1).toNat<n∧ae n f13 d13 p=r) (((x9.length:Int) - 0).toNat+1) _ sbQ sbQ ⟨(0,p4.2),rfl,⟨omQ,omQ,omQ,omQ,omQ⟩,(Nat.lt_succ_self _),hM⟩ ?_
 clear hM
 rintro n13 S ⟨p13,rfl,hfa13,hm13,hM⟩
 have hM0:=hM;clear hM;obtain ⟨ag13,hag13,hM⟩:=aP hM0 (by omega) hf13;clear hM0
 replace hfa13:=nzQ hfa13
 replace hm13:=nzQ hm13
 have ha13:al .i64 p13.1 1=p13.1+1:=aY omQ omQ
 replace hF:=(And.intro ha13 hF)
 revert hM;revert hF
 refine slQ ?_
 refine cdQ (fun _ _ _=> ?_) (fun _ _ _=> ?_)
 ·intro hF hM
  refine aM (n13 - 1) _ (by omega) sbQ sbQ ⟨((p13.1+1),(p13.2++([(gt x9 p13.1)]:List (List Int)))),rfl,⟨omQ,omQ,omQ,omQ,omQ⟩,omQ,aL hM hag13⟩
 ·intro hF hM
  refine aM (n4 - 1) _ (by omega) sbQ sbQ ⟨((p4.1+1),p13.2),rfl,⟨omQ,omQ,omQ,omQ,omQ⟩,omQ,aL hM hag4⟩
theorem Nc: ∀(N:Nat) (f_:aa) (t:aG),(shp f_ t)→(ax f_≤30)→ax f_<N→aE En 73 [.agg [.int .i64 f_.Kind,.sl none 1 false (f_.Relation.Y.map (V.int .i64)),.sl none 1 false (f_.Relation.Bases.map (fun (l:List Int)=>V.sl none 1 false (l.map (V.int .i64)))),.sl none 4 true (f_.L.map aA)],.agg [.int .i64 t.C,.sl none 1 false (t.P.A.map (V.int .i64)),.int .i64 t.P.C,.sl none 1 false (t.P.Z.map (V.int .i64)),.sl none 5 true (t.L.map bA)]] (.sl none 1 false ((b9 f_ t).map (fun (l:List Int)=>V.sl none 1 false (l.map (V.int .i64))))) []:=by
 intro N
 induction N with
 | zero=>intro f_ t h0 h1 h;exact absurd h (Nat.not_lt_zero _)
 | succ N ih=>
  intro f_ t h0 h1 h
  have h9:=Nb N ih f_ t h0 h1 h
  rw [Lm] at h9
  exact h9
theorem Nd (f_:aa) (t:aG) (hp0:shp f_ t) (hp1:ax f_≤30):aE En 73 [.agg [.int .i64 f_.Kind,.sl none 1 false (f_.Relation.Y.map (V.int .i64)),.sl none 1 false (f_.Relation.Bases.map (fun (l:List Int)=>V.sl none 1 false (l.map (V.int .i64)))),.sl none 4 true (f_.L.map aA)],.agg [.int .i64 t.C,.sl none 1 false (t.P.A.map (V.int .i64)),.int .i64 t.P.C,.sl none 1 false (t.P.Z.map (V.int .i64)),.sl none 5 true (t.L.map bA)]] (.sl none 1 false ((b9 f_ t).map (fun (l:List Int)=>V.sl none 1 false (l.map (V.int .i64))))) []:=
 Nc (ax f_+1) f_ t hp0 hp1 (Nat.lt_succ_self _)
set_option maxHeartbeats 2000000 in
set_option maxRecDepth 100000 in
theorem Nf (a_:Int) (m:Int) (hp0:1≤m) (hp1:m<2305843009213693952):CM En (nO a_ m) 166 [.int .i64 a_,.int .i64 m] (fun y=> .int .i64 y) (fun _=> []):=by
 refine enQ noJ Tryz.func166 Tryz.ntmps166 (nO.eq_1 ..) fun r hw=> ?_
 exact auR
instance (priority:=1044):DRD 5 24 11 [11,12,13,14,15,16,17,18,19,20,21] [] ([[],[],[1],[],[0,1,2,3],[],[5],[5,6],[5,6,7],[0,1,2,3,4,5,6,7,8],[]]++[List.range 11,List.range 12]) []:=⟨trivial⟩
set_option maxHeartbeats 2000000 in
set_option maxRecDepth 100000 in
theorem Ng (h_:(List Int)) (m:Int) (hp0:1≤m) (hp1:m<2305843009213693952):CM En (kR h_ m) 129 [(dM h_),.int .i64 m] (fun y=> .int .i64 y) (fun _=> []):=by
 refine enQ noJ Tryz.func129 Tryz.ntmps129 (kR.eq_1 ..) fun r hw=> ?_
 have h0_0:=Bk (m:=m) (by omega)
 intro hF hM
 have hM0:=hM;clear hM;obtain ⟨f1,d1,hf1,hd1,hM⟩:=aO hM0;clear hM0
 refine aS (fun n S=> ∃p:Int×Int,S=(⟨[(1,.int .i64 m),(2,.ptr 0 0),(5,.int .i64 p.1),(6,.int .i64 p.2)],[(0,.var 32 true ((dM h_)))],1⟩:St)∧((0≤p.2)∧(p.2≤16)∧(0≤p.1)∧(p.1<m))∧((16:Int) - p.2).toNat<n∧ae n f1 d1 p=r) (((16:Int) - 0).toNat+1) _ sbQ sbQ ⟨(0,0),rfl,⟨by (first|exact omQ|(clear hM;first|(have h9:=nP (i:=p1.2) hw.1 (by omega) (by omega);exact am))),by (first|exact omQ|(clear hM;first|(have h9:=nP (i:=p1.2) hw.1 (by omega) (by omega);exact am))),by (first|exact omQ|(clear hM;first|(have h9:=nP (i:=p1.2) hw.1 (by omega) (by omega);exact am))),by (first|exact omQ|(clear hM;first|(have h9:=nP (i:=p1.2) hw.1 (by omega) (by omega);exact am)))⟩,(Nat.lt_succ_self _),hM⟩ ?_
 clear hM
 rintro n1 S ⟨p1,rfl,hfa1,hm1,hM⟩
 have hA0:=fun a0 a1=>nP (i:=p1.2) hw.1 a0 a1
 have hA1:=fun a0 a1=>nP (i:=(p1.2+1)) hw.1 a0 a1
 have hM0:=hM;clear hM;obtain ⟨ag1,hag1,hM⟩:=aP hM0 (by omega) hf1;clear hM0
 replace hfa1:=nzQ hfa1
 replace hm1:=nzQ hm1
 have ha1:al .i64 p1.2 1=p1.2+1:=aY (by exact omA) (by exact omA)
 replace hF:=(And.intro ha1 hF)
 revert hM;revert hF
 refine slQ ?_
 refine aC fun _ _ _=> ?_
 intro hF hM
 have hM0:=hM;clear hM;obtain ⟨x4,hx5,hM⟩:=ap hM0;clear hM0
 have hcx4:=cmH hx5 (mw (p1.1) (aQ .i64 256 m) m (by (exact pfQ)) (by (exact pfQ)) (by (exact pfQ)) (by (exact pfQ)))
 refine bN hcx4 (ar hF) (ar hF) ?_
 revert hM;revert hF
 refine slQ ?_
 have hq6:=jK hx5 (by omega) (by omega) (by omega)
 replace hq6:=nzQ hq6
 refine slQ ?_
 have he7:((p1.2).toNat*1≤31)=True:=eq_true (by exact omR)
 refine slA he7 ?_
 have he8:=iy (f:=(V.int .u8)) (l:=h_) (n:=32) (i:=p1.2) (by exact omR)
 replace he8:=spR he8
 refine slA he8 ?_
 have ha9:al .i64 x4 (ah .i64 (gt h_ p1.2))=(x4+(ah .i64 (gt h_ p1.2))):=dq (by exact omR) (by exact omR)
 intro hF hM
 try simp only [ha9]
 have hM0:=hM;clear hM;obtain ⟨x10,hx11,hM⟩:=ap hM0;clear hM0
 have hcx10:=cmH hx11 (Nf (x4+(ah .i64 (gt h_ p1.2))) m (by (exact pfQ)) (by (exact pfQ)))
 replace hF:=(And.intro ha9 hF)
 refine aJ hcx10 (ar hF) (ar hF) (fun hw12=> ?_)
 replace hw12:=nzQ hw12
 revert hM;revert hF
 refine slQ ?_
 have hq13:=Bj hx11 (by omega) (by omega)
 replace hq13:=nzQ hq13
 exact auR
set_option maxHeartbeats 2000000 in
set_option maxRecDepth 100000 in
instance RC (t:aV) (label:(List UInt8)) (q:Int):CM En (pU t label q) 74 [(dB t),.str label,.int .i64 q] (fun y=> .tup [(dB y.1),.int .i64 y.2.1,.int .i64 y.2.2]) (fun _=> []):=by
 refine enQ noJ Tryz.func74 Tryz.ntmps74 (pU.eq_1 ..) fun r hw=> ?_
 refine bh fun _ _ _ _=> ?_
 refine aC fun _ _ _=> ?_
 refine bh fun _ _ _ _=> ?_
 refine aT fun _ _ _=> ?_
 refine aC fun _ _ _=> ?_
 refine aT fun _ _ _=> ?_
 refine aT fun _ _ _=> ?_
 intro hF hM
 have hM0:=hM;clear hM;obtain ⟨x21,hx22,hM⟩:=ap hM0;clear hM0
 have hcx21:=cmH hx22 (AO t label ([]:List aq) (by (exact Nat.le_of_ble_eq_true rfl)))
 refine aJ hcx21 clQ clQ (fun hw23=> ?_)
 replace hw23:=nzQ hw23
 revert hM;revert hF
 refine slQ ?_
 have hq24:=Lw hx22
 replace hq24:=nzQ hq24
 intro hF hM
 have hM0:=hM;clear hM;obtain ⟨x25,hx26,hM⟩:=ap hM0;clear hM0
 have hcx25:=Db x21 (by (clear hM;omega))
 rw [←hx26] at hcx25
 refine aJ hcx25 clQ clQ (fun hw27=> ?_)
 replace hw27:=nzQ hw27
 revert hM;revert hF
 refine slQ ?_
 have hq28:=wS hx26
 replace hq28:=nzQ hq28
 intro hF hM
 have hM0:=hM;clear hM;obtain ⟨x29,hx30,hM⟩:=ap hM0;clear hM0
 have hcx29:=cmH hx30 (xn ([115,112,101,99,105,101,47,99,104,97,108,108,101,110,103,101]) x25 (by (clear hM;first|decide|omega|(simp only [cL];omega))) (by (clear hM;first|decide|omega|(simp only [cL];omega))))
 refine aJ hcx29 clQ clQ (fun hw31=> ?_)
 replace hw31:=nzQ hw31
 revert hM;revert hF
 refine slQ ?_
 intro hF hM
 have hM0:=hM;clear hM;obtain ⟨x32,hx33,hM⟩:=ap hM0;clear hM0
 have hcx32:=cmH hx33 (Ng x29 q (by (clear hM;omega)) (by (clear hM;omega)))
 refine aJ hcx32 clQ clQ (fun hw34=> ?_)
 replace hw34:=nzQ hw34
 revert hM;revert hF
 refine slQ ?_
 intro hF hM
 have hM0:=hM;clear hM;obtain ⟨x35,hx36,hM⟩:=ap hM0;clear hM0
 have hcx35:=cmH hx36 (xp t label ({Kind:=1,N:=x32,B:=([]:List Int),L:=([]:List aq)}:aq) (by (clear hM;simp only [hgt,bO,List.length_nil];omega)))
 refine aJ hcx35 clQ clQ (fun hw37=> ?_)
 replace hw37:=nzQ hw37
 exact auP
instance (priority:=1045):DRD 3 65 10 [29,30,31,32,33,34,35,36,37] [] [[],[],[1],[1,2],[1,2,3],[0,1,2,3,4],[0,1,2,3,4,5],[0,1,2,3,4,5,6],[0,1,2,3,4,5,6],[0,1,2,3,4,5,6,7]] [(3,8),(9,3)]:=⟨trivial⟩
instance (priority:=1046):DRD 8 65 10 [47,48,49,50,51,52,53,54,55] [] [[],[],[],[1,2],[1,2,3],[0,1,2,3,4],[0,1,2,3,4,5],[0,1,2,3,4,5,6],[0,1,2,3,4,5,6],[0,1,2,3,4,5,6,7]] [(9,3)]:=⟨trivial⟩
set_option maxHeartbeats 2000000 in
set_option maxRecDepth 100000 in
theorem Nh (g:ao) (f_:aa) (label:(List UInt8)) (t:aG) (hp0:okT f_) (hp1:ax f_≤30) (hp2:shp f_ t) (hp3:label.length≤100) (hp4:(cj f_).length≤8000):CM En (pV g f_ label t) 30 [.agg [.int .i64 g.P,.int .i64 g.Q,.int .i64 g.G],.agg [.int .i64 f_.Kind,.sl none 1 false (f_.Relation.Y.map (V.int .i64)),.sl none 1 false (f_.Relation.Bases.map (fun (l:List Int)=>V.sl none 1 false (l.map (V.int .i64)))),.sl none 4 true (f_.L.map aA)],.str label,.agg [.int .i64 t.C,.sl none 1 false (t.P.A.map (V.int .i64)),.int .i64 t.P.C,.sl none 1 false (t.P.Z.map (V.int .i64)),.sl none 5 true (t.L.map bA)]] (fun y=> .int .i64 y) (fun _=> []):=by
 refine enQ noJ Tryz.func30 Tryz.ntmps30 (pV.eq_1 ..) fun r hw=> ?_
 intro hF hM
 have hM0:=hM;clear hM;obtain ⟨x1,hx2,hM⟩:=ap hM0;clear hM0
 have hcx1:=cmH hx2 (M6 label (by (exact hp3)))
 refine aJ hcx1 clQ clQ (fun hw3=> ?_)
 replace hw3:=nzQ hw3
 revert hM;revert hF
 refine slQ ?_
 intro hF hM
 have hM0:=hM;clear hM;obtain ⟨x4,hx5,hM⟩:=ap hM0;clear hM0
 have hcx4:=cmH hx5 (Dc x1 ([103,114,111,117,112]) ([g.P,g.Q,g.G]:List Int) (by (clear hM;first|exact Nat.le_of_ble_eq_true rfl|exact Nat.le_trans (xh ‹_=b9 f_ t› hp2 _) (Nat.le_of_ble_eq_true rfl))))
 refine eW hcx4 clQ clQ (fun hw6=> ?_)
 replace hw6:=nzQ hw6
 revert hM;revert hF
 refine slQ ?_
 intro hF hM
 have hM0:=hM;clear hM;obtain ⟨x7,hx8,hM⟩:=ap hM0;clear hM0
 have hcx7:=C9 f_ (by (first|exact hp0|exact hp1)) (by (first|exact hp0|exact hp1))
 rw [←hx8] at hcx7
 refine bN hcx7 clQ clQ ?_
 revert hM;revert hF
 refine slQ ?_
 have hq9:=Ly hx8 hp4
 replace hq9:=nzQ hq9
 intro hF hM
 have hM0:=hM;clear hM;obtain ⟨x10,hx11,hM⟩:=ap hM0;clear hM0
 have hcx10:=cmH hx11 (xp (x4.1) ([102,111,114,109,117,108,97]) ({Kind:=2,N:=0,B:=(bK x7),L:=([]:List aq)}:aq) (by (clear hM;simp only [hgt,bO,cL];omega)))
 refine bN hcx10 clQ clQ ?_
 revert hM;revert hF
 refine slQ ?_
 intro hF hM
 have hM0:=hM;clear hM;obtain ⟨x12,hx13,hM⟩:=ap hM0;clear hM0
 have hcx12:=Nd f_ t (by (first|exact hp2|exact hp1)) (by (first|exact hp2|exact hp1))
 rw [←hx13] at hcx12
 refine aJ hcx12 clQ clQ (fun hw14=> ?_)
 replace hw14:=nzQ hw14
 revert hM;revert hF
 refine slQ ?_
 have hq15:=xh hx13 hp2
 replace hq15:=nzQ hq15
 have hq16:=th hx13 hp2 hp1
 replace hq16:=nzQ hq16
 intro hF hM
 have hM0:=hM;clear hM;obtain ⟨f17,d17,hf17,hd17,hM⟩:=aO hM0;clear hM0
 refine aS (fun n S=> ∃p:Int×aV,S=(⟨[(4,.ptr 0 0),(9,.ptr 3 0),(10,.sl none 1 false (x12.map (fun (l:List Int)=>V.sl none 1 false (l.map (V.int .i64))))),(11,.int .i64 p.1)],[(0,.var 3 true (.agg [.int .i64 g.P,.int .i64 g.Q,.int .i64 g.G])),(3,.var 33 true ((dB p.2)))],15⟩:St)∧((0≤p.1)∧(p.1≤(x12.length:Int)))∧((x12.length:Int) - p.1).toNat<n∧ae n f17 d17 p=r) (((x12.length:Int) - 0).toNat+1) _ sbQ sbQ ⟨(0,x10.1),rfl,⟨omQ,omQ⟩,(Nat.lt_succ_self _),hM⟩ ?_
 clear hM
 rintro n17 S ⟨p17,rfl,hfa17,hm17,hM⟩
 have hM0:=hM;clear hM;obtain ⟨ag17,hag17,hM⟩:=aP hM0 (by omega) hf17;clear hM0
 replace hfa17:=nzQ hfa17
 replace hm17:=nzQ hm17
 have ha17:al .i64 p17.1 1=p17.1+1:=aY omQ omQ
 replace hF:=(And.intro ha17 hF)
 revert hM;revert hF
 refine slQ ?_
 refine aC fun _ _ _=> ?_
 intro hF hM
 have hM0:=hM;clear hM;obtain ⟨x21,hx22,hM⟩:=ap hM0;clear hM0
 have hcx21:=cmH hx22 (Dc (p17.2) ([99,111,109,109,105,116]) (gt x12 p17.1) (by (clear hM;first|exact Nat.le_of_ble_eq_true rfl|exact Nat.le_trans (xh ‹_=b9 f_ t› hp2 _) (Nat.le_of_ble_eq_true rfl))))
 refine bN hcx21 (ar hF) (ar hF) ?_
 revert hM;revert hF
 refine slQ ?_
 intro hF hM
 refine aM (n17 - 1) _ (by omega) sbQ sbQ ⟨((p17.1+1),x21.1),rfl,⟨omQ,omQ⟩,omQ,aL hM hag17⟩
instance (priority:=1047):DRD 1 33 22 [9,10,11,12,13,14,15,16,17,18,19,20,21,22,23,24,25,26,27,28,29,30] [] ([[],[],[],[0,1,2],[0,1,2,3],[0,1,2,3,4],[0,1,2,3,4,5],[0,1,2,3,4,5,6],[0,1,2,3,4,5,6,7],[0,1,2,3,4,5,6,7,8],[0,1,2,3,4,5,6,7,8,9],[0,1,2,3,4,5,6,7,8,9,10],[0,1,2,3,4,5,6,7,8,9,10,11],[0,1,2,3,4,5,6,7,8,9,10,11,12],[0,1,2,3,4,5,6,7,8,9,10,11,12,13],[0,1,2,3,4,5,6,7,8,9,10,11,12,13,14],[0,1,2,3,4,5,6,7,8,9,10,11,12,13,14,15],[0,1,2,3,4,5,6,7,8,9,10,11,12,13,14],[0,1,2,3,4,5,6,7,8,9,10,11,12,13,14],[0,1,2,3,4,5,6,7,8,9,10,11,12,13,14],[0,1,2,3,4,5,6,7,8,9,10,11,12,13,14],[0,1,2,3,4,5,6,7,8,9,10,11,12,13,14,17,18,19,20]]++[List.range 22,List.range 23,List.range 24]) []:=⟨trivial⟩
set_option maxHeartbeats 2000000 in
set_option maxRecDepth 100000 in
instance RD (g:ao) (f_:aa) (label:(List UInt8)) (t:aG):CM En (pW g f_ label t) 10 [.agg [.int .i64 g.P,.int .i64 g.Q,.int .i64 g.G],.agg [.int .i64 f_.Kind,.sl none 1 false (f_.Relation.Y.map (V.int .i64)),.sl none 1 false (f_.Relation.Bases.map (fun (l:List Int)=>V.sl none 1 false (l.map (V.int .i64)))),.sl none 4 true (f_.L.map aA)],.str label,.agg [.int .i64 t.C,.sl none 1 false (t.P.A.map (V.int .i64)),.int .i64 t.P.C,.sl none 1 false (t.P.Z.map (V.int .i64)),.sl none 5 true (t.L.map bA)]] (fun y=> .bool y) (fun _=> []):=by
 refine enQ noJ Tryz.func10 Tryz.ntmps10 (pW.eq_1 ..) fun r hw=> ?_
 refine slQ ?_
 refine bh fun _ _ _ _=> ?_
 refine aC fun _ _ _=> ?_
 refine bh fun _ _ _ _=> ?_
 refine aC fun _ _ _=> ?_
 intro hF hM
 have hM0:=hM;clear hM;obtain ⟨x11,hx12,hM⟩:=ap hM0;clear hM0
 have hcx11:=C9 f_ (by (first|exact (‹1≤g.Q∧okT f_∧ax f_≤30∧shp f_ t›).2.1|exact (‹1≤g.Q∧okT f_∧ax f_≤30∧shp f_ t›).2.2.1)) (by (first|exact (‹1≤g.Q∧okT f_∧ax f_≤30∧shp f_ t›).2.1|exact (‹1≤g.Q∧okT f_∧ax f_≤30∧shp f_ t›).2.2.1))
 rw [←hx12] at hcx11
 refine bN hcx11 clQ clQ ?_
 revert hM;revert hF
 refine slQ ?_
 refine aC fun _ _ _=> ?_
 intro hF hM
 have hM0:=hM;clear hM;obtain ⟨x15,hx16,hM⟩:=ap hM0;clear hM0
 have hcx15:=cmH hx16 (Nh g f_ label t (by (first|exact (‹1≤g.Q∧okT f_∧ax f_≤30∧shp f_ t›).2.1|exact (‹1≤g.Q∧okT f_∧ax f_≤30∧shp f_ t›).2.2.1|exact (‹1≤g.Q∧okT f_∧ax f_≤30∧shp f_ t›).2.2.2|(clear hM;omega)|(clear hM;rw [←‹_=cj f_›];omega))) (by (first|exact (‹1≤g.Q∧okT f_∧ax f_≤30∧shp f_ t›).2.1|exact (‹1≤g.Q∧okT f_∧ax f_≤30∧shp f_ t›).2.2.1|exact (‹1≤g.Q∧okT f_∧ax f_≤30∧shp f_ t›).2.2.2|(clear hM;omega)|(clear hM;rw [←‹_=cj f_›];omega))) (by (first|exact (‹1≤g.Q∧okT f_∧ax f_≤30∧shp f_ t›).2.1|exact (‹1≤g.Q∧okT f_∧ax f_≤30∧shp f_ t›).2.2.1|exact (‹1≤g.Q∧okT f_∧ax f_≤30∧shp f_ t›).2.2.2|(clear hM;omega)|(clear hM;rw [←‹_=cj f_›];omega))) (by (first|exact (‹1≤g.Q∧okT f_∧ax f_≤30∧shp f_ t›).2.1|exact (‹1≤g.Q∧okT f_∧ax f_≤30∧shp f_ t›).2.2.1|exact (‹1≤g.Q∧okT f_∧ax f_≤30∧shp f_ t›).2.2.2|(clear hM;omega)|(clear hM;rw [←‹_=cj f_›];omega))) (by (first|exact (‹1≤g.Q∧okT f_∧ax f_≤30∧shp f_ t›).2.1|exact (‹1≤g.Q∧okT f_∧ax f_≤30∧shp f_ t›).2.2.1|exact (‹1≤g.Q∧okT f_∧ax f_≤30∧shp f_ t›).2.2.2|(clear hM;omega)|(clear hM;rw [←‹_=cj f_›];omega))))
 refine bN hcx15 clQ clQ ?_
 exact auP
instance (priority:=1048):DRD 5 43 19 [21,22,23,24,25,26,27,28,29,30,31,32,33,34,35,36,37,38,39] [] ([[],[],[],[0,1,2],[],[],[],[4,5,6],[0,1,2,3,4,5,6,7],[0,1,2,3,4,5,6,7,8],[0,1,2,3,4,5,6,7,8,9],[0,1,2,3,4,5,6,7,8,9],[0,1,2,3,4,5,6,7,8,9],[0,1,2,3,4,5,6,7,8,9],[0,1,2,3,4,5,6,7,8,9,10,11,12,13],[0,1,2,3,4,5,6,7,8,9],[0,1,2,3,4,5,6,7,8,9],[0,1,2,3,4,5,6,7,8,9],[0,1,2,3,4,5,6,7,8,9]]++[List.range 19,List.range 20,List.range 21,List.range 22]) []:=⟨trivial⟩
set_option maxHeartbeats 2000000 in
set_option maxRecDepth 100000 in
instance Ni (g:ao) (f_:aa) (label:(List UInt8)) (t:aG):CM En (sO g f_ label t) 3 [.agg [.int .i64 g.P,.int .i64 g.Q,.int .i64 g.G],.agg [.int .i64 f_.Kind,.sl none 1 false (f_.Relation.Y.map (V.int .i64)),.sl none 1 false (f_.Relation.Bases.map (fun (l:List Int)=>V.sl none 1 false (l.map (V.int .i64)))),.sl none 4 true (f_.L.map aA)],.str label,.agg [.int .i64 t.C,.sl none 1 false (t.P.A.map (V.int .i64)),.int .i64 t.P.C,.sl none 1 false (t.P.Z.map (V.int .i64)),.sl none 5 true (t.L.map bA)]] (fun y=> .bool y) (fun _=> []):=by
 refine enQ noJ Tryz.func3 Tryz.ntmps3 (sO.eq_1 ..) fun r hw=> ?_
 exact auR
end Go.Proofs.YtgealhhkngbkbaaGreatDoor
namespace Go.Proofs.YtgealhhkngbkbaaGreatDoor
open Go.RowKit
set_option linter.unusedVariables false
set_option linter.unusedSimpArgs false
theorem tp (a m:Int): ∀n:Nat,(a% m)^n% m=a^n% m
 | 0=>by rw [Int.pow_zero,Int.pow_zero]
 | n+1=>by rw [Int.pow_succ,Int.pow_succ,Int.mul_emod,tp a m n,Int.emod_emod_of_dvd _ (Int.dvd_refl m),←Int.mul_emod]
theorem Dd (a b m:Int):a% m*(b% m)% m=a*b% m:=(Int.mul_emod a b m).symm
theorem tq (a b m:Int):a% m*b% m=a*b% m:=by rw [Int.mul_emod,Int.emod_emod_of_dvd _ (Int.dvd_refl m),←Int.mul_emod]
theorem qm (a b m:Int):a*(b% m)% m=a*b% m:=by rw [Int.mul_comm,tq,Int.mul_comm]
theorem tr (a:Int) (i:Nat): ∀j:Nat,a^(i+j)=a^i*a^j
 | 0=>by rw [Int.pow_zero,Int.mul_one,Nat.add_zero]
 | j+1=>by rw [←Nat.add_assoc,Int.pow_succ,Int.pow_succ,tr a i j,Int.mul_assoc]
theorem xq (a:Int) (i:Nat): ∀j:Nat,a^(i*j)=(a^i)^j
 | 0=>by rw [Int.pow_zero,Nat.mul_zero,Int.pow_zero]
 | j+1=>by rw [Nat.mul_succ,tr,Int.pow_succ,xq a i j]
theorem xr (a b:Int): ∀j:Nat,(a*b)^j=a^j*b^j
 | 0=>by simp
 | j+1=>by
  rw [Int.pow_succ,Int.pow_succ,Int.pow_succ,xr a b j]
  simp only [Int.mul_assoc]
  congr 1
  rw [Int.mul_left_comm]
theorem xt: ∀j:Nat,(1:Int)^j=1
 | 0=>rfl
 | j+1=>by rw [Int.pow_succ,xt j];rfl
theorem De {α β:Type} {a:α} {f:α→β} {r:β} (h: ∀x,x=a→f x=r):ab a f=r:=h a rfl
def El0 (P:Int) (q:Nat) (a:Int):Prop:=a^q% P=1
theorem Df {P:Int} (hP:1<P) {q:Nat} {a:Int} (h:El0 P q a) (k:Nat):El0 P q (a^k):=by
 unfold El0 at*
 rw [←xq,Nat.mul_comm,xq,←tp,h,xt]
 exact Int.emod_eq_of_lt (by decide) hP
theorem Dh {P:Int} (hP:1<P) {q:Nat} {a b:Int} (ha:El0 P q a) (hb:El0 P q b):El0 P q (a*b):=by
 unfold El0 at*
 rw [xr,Int.mul_emod,ha,hb]
 exact Int.emod_eq_of_lt (by decide) hP
theorem xu {P:Int} {q:Nat} {a:Int} (h:El0 P q a):El0 P q (a% P):=by
 unfold El0 at*
 rw [tp];exact h
theorem Nj {P:Int} (hP:1<P) {q:Nat}:El0 P q 1:=by
 unfold El0
 rw [xt];exact Int.emod_eq_of_lt (by decide) hP
theorem Nk {P:Int} {q:Nat} (hq:q≠0) {a:Int} (h:El0 P q a):a≠0:=by
 intro e
 unfold El0 at h
 subst e
 obtain ⟨n,rfl⟩: ∃n,q=n+1:=⟨q - 1,by omega⟩
 rw [Int.pow_succ,Int.mul_zero,Int.zero_emod] at h
 exact absurd h (by decide)
theorem Nl {P:Int} (hP:1<P) {Q c:Int} (hc:0≤c∧c<Q) {y:Int} (hy:El0 P Q.toNat y):y^((Q - c)% Q).toNat*y^c.toNat% P=1:=by
 rw [←tr]
 by_cases h0:c=0
 ·subst h0
  have e:(Q - 0)% Q=0:=by rw [Int.sub_zero,Int.emod_self]
  rw [e,show Int.toNat 0+Int.toNat 0=0 from rfl,Int.pow_zero]
  exact Int.emod_eq_of_lt (by decide) hP
 ·have e:(Q - c)% Q=Q - c:=Int.emod_eq_of_lt (by omega) (by omega)
  rw [e,show (Q - c).toNat+c.toNat=Q.toNat by omega]
  exact hy
theorem Nm {P Q c:Int} (hP:1<P) (hc:0≤c∧c<Q) {y W A:Int} (hy:El0 P Q.toNat y) (hW:El0 P Q.toNat W) (hW0:0≤W) (hW1:W<P):
  A=W*(y^((Q - c)% Q).toNat% P)% P↔((1≤A∧A<P∧El0 P Q.toNat A)∧W=A*(y^c.toNat% P)% P):=by
 have hn:=Nl hP hc hy
 have hp:0<P:=by omega
 constructor
 ·intro h
  have hA:El0 P Q.toNat A:=by
   rw [h,qm]
   exact xu (Dh hP hW (Df hP hy _))
  have h0:0≤A:=by rw [h];exact Int.emod_nonneg _ (by omega)
  have h1:A<P:=by rw [h];exact Int.emod_lt_of_pos _ hp
  have h2:=Nk (by omega) hA
  refine ⟨⟨by omega,h1,hA⟩,?_⟩
  rw [qm,h,qm,tq,Int.mul_assoc,Int.mul_emod,hn,Int.mul_one,Int.emod_emod_of_dvd _ (Int.dvd_refl P)]
  exact (Int.emod_eq_of_lt hW0 hW1).symm
 ·rintro ⟨⟨h0,h1,hA⟩,h⟩
  rw [qm,h,qm,tq,Int.mul_assoc,Int.mul_comm (y^c.toNat),Int.mul_emod,hn,Int.mul_one,Int.emod_emod_of_dvd _ (Int.dvd_refl P)]
  exact (Int.emod_eq_of_lt (by omega) h1).symm
def okG (g:ao):Prop:=3≤g.Q∧3≤g.P∧g.P<2305843009213693952∧g.Q<g.P∧2≤g.G∧g.G<g.P
theorem Nn {l:List Int} {i j:Int} (h:isB l):isB (sl l i j):=fun x hx=>h x (List.mem_of_mem_drop (List.mem_of_mem_take hx))
theorem kZ {l m:List Int} (h1:isB l) (h2:isB m):isB (l++m):=fun x hx=>by
 rcases List.mem_append.1 hx with h|h
 ·exact h1 x h
 ·exact h2 x h
end Go.Proofs.YtgealhhkngbkbaaGreatDoor
namespace Go.Proofs.YtgealhhkngbkbaaGreatDoor
open Go.RowKit
set_option linter.unusedVariables false
set_option linter.unusedSimpArgs false
theorem tt {α β R:Type} {F:(α→R)→α→R} {G:(β→R)→β→R} {x:R} (Rel:α→β→Prop)
  (h: ∀ag bg,(∀a b,Rel a b→ag a=bg b)→ ∀a b,Rel a b→F ag a=G bg b): ∀(n:Nat) (a:α) (b:β),Rel a b→ae n F (fun _=>x) a=ae n G (fun _=>x) b
 | 0,a,b,_=>rfl
 | n+1,a,b,hr=>by
  rw [ae,ae]
  exact h _ _ (fun a b hr=>tt Rel h n a b hr) a b hr
theorem Np (k:IntKind) (a b:Int):orI k a b=orI k b a:=by unfold orI;rw [BitVec.or_comm]
theorem iR (x:Int) {n:Int} (h:n∈ [(2:Int),3,6,7,11,13,17,18,19,22,25]):fA x n=dE x n:=by
 unfold fA sK dE
 simp only [ab]
 rw [Np]
 simp only [List.mem_cons,List.not_mem_nil,or_false] at h
 rcases h with rfl|rfl|rfl|rfl|rfl|rfl|rfl|rfl|rfl|rfl|rfl<;>rfl
theorem w32 (a:Int):IntKind.wrap .u32 a=a% 4294967296:=by simp [IntKind.wrap,IntKind.bits,IntKind.signed]
theorem Nq (a c:Nat) (hc:c<256):(BitVec.ofInt 32 (((a*256:Nat):Int)% 4294967296)|||BitVec.ofInt 32 (c:Int)).toNat=(a*256)% 4294967296+c:=by
 have e1:(BitVec.ofInt 32 (((a*256:Nat):Int)% 4294967296)).toNat=(a% 16777216)<<<8:=by
  rw [BitVec.toNat_ofInt,Nat.shiftLeft_eq]
  omega
 have e2:(BitVec.ofInt 32 (c:Int)).toNat=c:=by rw [BitVec.toNat_ofInt];omega
 rw [BitVec.toNat_or,e1,e2,←Nat.shiftLeft_add_eq_or_of_lt (show c<2^8 by omega),Nat.shiftLeft_eq]
 omega
theorem Nr {x c:Int} (hx:0≤x∧x≤4294967295) (hc:0≤c∧c≤255):orI .u32 (aB .u32 x 8) (ah .u32 c)=al .u32 (aN .u32 x 256) (ah .u32 c):=by
 obtain ⟨a,rfl⟩:=Int.eq_ofNat_of_zero_le hx.1
 obtain ⟨d,rfl⟩:=Int.eq_ofNat_of_zero_le hc.1
 have h1:aB .u32 (a:Int) 8=((a*256:Nat):Int)% 4294967296:=by
  unfold aB;rw [w32];simp [IntKind.bits]
 have h2:ah .u32 (d:Int)=(d:Int):=by unfold ah;rw [w32];omega
 have h3:aN .u32 (a:Int) 256=((a*256:Nat):Int)% 4294967296:=by
  unfold aN;rw [w32];simp
 have h4:=Nq a d (by omega)
 rw [h1,h2,h3]
 have key:orI .u32 (((a*256:Nat):Int)% 4294967296) (d:Int)=IntKind.wrap .u32 ((BitVec.ofInt 32 (((a*256:Nat):Int)% 4294967296)|||BitVec.ofInt 32 (d:Int)).toNat:Int):=rfl
 rw [key,h4]
 unfold al
 rw [w32,w32]
 omega
theorem Di {q:List Int} {z:List Int} {a x:Int} {t:Int} (h:(q.length:Int)=t):st (q++a::z) t x=q++x::z:=by
 unfold st
 rw [show t.toNat=q.length by omega]
 simp
theorem tu {q z:List Int} {t:Int} (h:0≤t) (h1:t<(q.length:Int)):gt (q++z) t=gt q t:=by
 unfold gt
 have:t.toNat<q.length:=by omega
 simp [List.getD_eq_getElem?_getD,List.getElem?_append_left this]
theorem Ns {q z:List Int} {a t:Int} (h:(q.length:Int)=t):gt (q++a::z) t=a:=by
 unfold gt
 rw [show t.toNat=q.length by omega]
 simp [List.getD_eq_getElem?_getD]
theorem tv {l:List Int} (h:l.length=64):br 64 l=l:=nj h
theorem Nt {b:List Int} {i k:Int} (h0:0≤i) (hk:0≤k) (hk4:k<4) (h:i+4≤(b.length:Int)):gt (sl b i (i+4)) k=gt b (i+k):=by
 unfold gt sl
 have e:(i+k).toNat=i.toNat+k.toNat:=by omega
 simp only [List.getD_eq_getElem?_getD]
 rw [List.getElem?_take_of_lt (by omega),List.getElem?_drop,e]
theorem Dj {b:List Int} (hb: ∀x∈b,0≤x∧x≤255) (i:Int):0≤gt b i∧gt b i≤255:=by
 unfold gt
 rw [List.getD_eq_getElem?_getD]
 cases h:b[i.toNat]? with
 | none=>exact ⟨by decide,by decide⟩
 | some x=>exact hb x (List.mem_of_getElem? h)
theorem Nu {b:List Int} (hl:b.length=64) (hb: ∀x∈b,0≤x∧x≤255):kK b=kN b:=by
 unfold kK kN
 refine tt (fun (a:Int×List Int) (c:Int×List Int)=>a.1=c.1∧0≤a.1∧a.1≤16∧(c.2.length:Int)=a.1∧a.2=c.2++List.replicate (64 - a.1).toNat 0) ?_ _ _ _ ⟨rfl,by decide,by decide,rfl,rfl⟩
 rintro ag bg hag ⟨i,w⟩ ⟨i',q⟩ ⟨e1,h0,h1,h2,h3⟩
 simp only at e1 h0 h1 h2 h3
 subst e1
 subst h3
 by_cases hi:i<16
 ·simp only [hi,decide_true,if_true]
  have hz:List.replicate (64 - i).toNat (0:Int)=0::List.replicate (63 - i).toNat 0:=by
   rw [show (64 - i).toNat=(63 - i).toNat+1 by omega];rfl
  have hsl:((sl b (4*i) (4*i+4)).length:Int)=4:=by rw [lM];omega
  rw [hsl,hz]
  refine tt (fun (a:Int×List Int) (c:Int×Int)=>a.1=c.2∧0≤a.1∧a.1≤4∧(0≤c.1∧c.1≤4294967295)∧a.2=q++c.1::List.replicate (63 - i).toNat 0) ?_ _ _ _ ⟨rfl,show (0:Int)≤0 by decide,show (0:Int)≤4 by decide,show (0:Int)≤0∧(0:Int)≤4294967295 by decide,rfl⟩
  rintro ag2 bg2 hag2 ⟨k,w⟩ ⟨x,k'⟩ ⟨e1,g0,g1,g2,g3⟩
  simp only at e1 g0 g1 g2 g3
  subst e1
  subst g3
  by_cases hk:k<4
  ·simp only [hk,decide_true,if_true]
   have hlen:(q++x::List.replicate (63 - i).toNat 0).length=64:=by simp;omega
   have hg:=Dj hb (4*i+k)
   rw [Ns h2,Nt (by omega) g0 hk (by omega),tv hlen,Di h2,tv (by simp;omega),Nr g2 hg]
   refine hag2 _ _ ⟨rfl,by omega,by omega,?_,rfl⟩
   have:=yf .u32 (aN .u32 x 256) (ah .u32 (gt b (4*i+k)))
   rw [r7] at this
   exact this
  ·simp only [hk,decide_false,Bool.false_eq_true,if_false]
   refine hag _ _ ⟨rfl,by omega,by omega,by simp;omega,?_⟩
   rw [show (64 - (i+1)).toNat=(63 - i).toNat by omega]
   simp
 ·simp only [hi,decide_false,Bool.false_eq_true,if_false]
  have e16:i=16:=by omega
  subst e16
  refine tt (fun (a:Int×List Int) (c:Int×List Int)=>a.1=c.1∧16≤a.1∧a.1≤64∧(c.2.length:Int)=a.1∧a.2=c.2++List.replicate (64 - a.1).toNat 0) ?_ _ _ _ ⟨rfl,show (16:Int)≤16 by decide,show (16:Int)≤64 by decide,h2,rfl⟩
  rintro ag2 bg2 hag2 ⟨t,w⟩ ⟨t',p⟩ ⟨e1,g0,g1,g2,g3⟩
  simp only at e1 g0 g1 g2 g3
  subst e1
  subst g3
  by_cases ht:t<64
  ·simp only [ht,decide_true,if_true,ab]
   have hz:List.replicate (64 - t).toNat (0:Int)=0::List.replicate (63 - t).toNat 0:=by
    rw [show (64 - t).toNat=(63 - t).toNat+1 by omega];rfl
   rw [hz,tu (t:=t - 15) (by omega) (by omega),tu (t:=t - 2) (by omega) (by omega),tu (t:=t - 16) (by omega) (by omega),tu (t:=t - 7) (by omega) (by omega)]
   rw [iR _ (by decide),iR _ (by decide),iR _ (by decide),iR _ (by decide)]
   have hlen: ∀y:Int,(p++y::List.replicate (63 - t).toNat 0).length=64:=fun y=>by simp;omega
   rw [tv (hlen 0),Di g2,tv (hlen _)]
   refine hag2 _ _ ⟨rfl,by omega,by omega,by simp;omega,?_⟩
   rw [show (64 - (t+1)).toNat=(63 - t).toNat by omega]
   simp
  ·simp only [ht,decide_false,Bool.false_eq_true,if_false]
   rw [show (64 - t).toNat=0 by omega]
   simp
theorem jM {α β R S:Type} {F:(α→R)→α→R} {G:(β→S)→β→S} {d:α→R} {e:β→S} (Rel:α→β→Prop) (Q:R→S→Prop) (mu:α→Nat)
  (h: ∀ag bg a b,Rel a b→(∀a' b',Rel a' b'→mu a'<mu a→Q (ag a') (bg b'))→Q (F ag a) (G bg b)): ∀(n m:Nat) (a:α) (b:β),Rel a b→mu a<n→mu a<m→Q (ae n F d a) (ae m G e b)
 | 0,_,_,_,_,h1,_=>absurd h1 (Nat.not_lt_zero _)
 | _,0,_,_,_,_,h1=>absurd h1 (Nat.not_lt_zero _)
 | n+1,m+1,a,b,hr,h1,h2=>by
  rw [ae,ae]
  exact h _ _ a b hr fun a' b' hr' hm=>jM Rel Q mu h n m a' b' hr' (by omega) (by omega)
def rnd (K:List Int→List Int) (h w:List Int):List Int:=(ae (((64:Int) - 0).toNat+1) (fun (ag17:(Int×List Int)→(List Int)) (p17:Int×List Int)=>(if (decide (p17.1<64)) then (ab (dE (gt p17.2 4) 6) (fun (x22:Int)=>(ab (dE (gt p17.2 4) 11) (fun (x24:Int)=>(ab (dE (gt p17.2 4) 25) (fun (x26:Int)=>(ab (dE (gt p17.2 0) 2) (fun (x33:Int)=>(ab (dE (gt p17.2 0) 13) (fun (x35:Int)=>(ab (dE (gt p17.2 0) 22) (fun (x37:Int)=>(ag17 ((p17.1+1),([(al .u32 (al .u32 (al .u32 (al .u32 (al .u32 (gt p17.2 7) (aW .u32 (aW .u32 x22 x24) x26)) (aW .u32 (aU .u32 (gt p17.2 4) (gt p17.2 5)) (aU .u32 (eR .u32 (gt p17.2 4)) (gt p17.2 6)))) (gt ml p17.1)) (gt w p17.1)) (al .u32 (aW .u32 (aW .u32 x33 x35) x37) (aW .u32 (aW .u32 (aU .u32 (gt p17.2 0) (gt p17.2 1)) (aU .u32 (gt p17.2 0) (gt p17.2 2))) (aU .u32 (gt p17.2 1) (gt p17.2 2))))),(gt p17.2 0),(gt p17.2 1),(gt p17.2 2),(al .u32 (gt p17.2 3) (al .u32 (al .u32 (al .u32 (al .u32 (gt p17.2 7) (aW .u32 (aW .u32 x22 x24) x26)) (aW .u32 (aU .u32 (gt p17.2 4) (gt p17.2 5)) (aU .u32 (eR .u32 (gt p17.2 4)) (gt p17.2 6)))) (gt ml p17.1)) (gt w p17.1))),(gt p17.2 4),(gt p17.2 5),(gt p17.2 6)]:List Int))))))))))))))) else (ae (((8:Int) - 0).toNat+1) (fun (ag43:(Int×List Int)→(List Int)) (p43:Int×List Int)=>(if (decide (p43.1<8)) then (ag43 ((p43.1+1),(st p43.2 p43.1 (al .u32 (gt p43.2 p43.1) (gt p17.2 p43.1))))) else (K p43.2))) (fun _=>default) (0,h)))) (fun _=>default) (0,(([]:List Int)++h)))
theorem Nv {l:List Int} (h:l.length=8):l=[gt l 0,gt l 1,gt l 2,gt l 3,gt l 4,gt l 5,gt l 6,gt l 7]:=by
 match l,h with
 | [a,b,c,d,e,f,g,i],_=>rfl
theorem Dk {l:List Int} (h:l.length=8):br 8 l=l:=nj h
theorem Nw:kg=ml:=rfl
theorem Nx (K:List Int→List Int) {h b:List Int} (hl:h.length=8):rnd K h (kK b)=K (jD h b):=by
 unfold rnd jD
 simp only [ab]
 generalize kK b=w
 refine jM (fun (a:Int×Int×Int×Int×Int×Int×Int×Int×Int) (c:Int×List Int)=>a.2.2.2.2.2.2.2.2=c.1∧0≤c.1∧c.1≤64∧c.2=[a.1,a.2.1,a.2.2.1,a.2.2.2.1,a.2.2.2.2.1,a.2.2.2.2.2.1,a.2.2.2.2.2.2.1,a.2.2.2.2.2.2.2.1]) (fun r s=>s=K r) (fun a=>(64 - a.2.2.2.2.2.2.2.2).toNat) ?_ _ _ _ _ ⟨rfl,show (0:Int)≤0 by decide,show (0:Int)≤64 by decide,Nv hl⟩ (show ((64:Int) - 0).toNat<((64:Int) - 0).toNat+1 by decide) (show ((64:Int) - 0).toNat<((64:Int) - 0).toNat+1 by decide)
 rintro ag bg ⟨a0,a1,a2,a3,a4,a5,a6,a7,t⟩ ⟨t',v⟩ ⟨e1,g0,g1,g2⟩ hag
 simp only at e1 g0 g1 g2 hag
 subst e1
 subst g2
 by_cases ht:t<64
 ·simp only [ht,decide_true,if_true]
  rw [iR _ (by decide),iR _ (by decide),iR _ (by decide),iR _ (by decide),iR _ (by decide),iR _ (by decide),Nw]
  refine hag _ _ ⟨rfl,by omega,by omega,?_⟩ (by simp only;omega)
  rfl
 ·simp only [ht,decide_false,Bool.false_eq_true,if_false]
  refine jM (fun (a:Int×List Int) (c:Int×List Int)=>a=c∧0≤a.1∧a.1≤8∧a.2.length=8) (fun r s=>s=K r) (fun a=>(8 - a.1).toNat) ?_ _ _ _ _ ⟨rfl,show (0:Int)≤0 by decide,show (0:Int)≤8 by decide,hl⟩ (show ((8:Int) - 0).toNat<((8:Int) - 0).toNat+1 by decide) (show ((8:Int) - 0).toNat<((8:Int) - 0).toNat+1 by decide)
  rintro ag2 bg2 ⟨i,s⟩ ⟨i',s'⟩ ⟨e1,k0,k1,k2⟩ hag2
  cases e1
  simp only at k0 k1 k2 hag2
  by_cases hi:i<8
  ·simp only [hi,decide_true,if_true]
   rw [Dk k2,Dk (by rw [kj];exact k2)]
   exact hag2 _ _ ⟨rfl,by simp only;omega,by simp only;omega,by simp only [kj];exact k2⟩ (by simp only;omega)
  ·simp only [hi,decide_false,Bool.false_eq_true,if_false]
theorem Dl (n:Nat):isB (List.replicate n 0):=fun x hx=>by
 rw [(List.mem_replicate.1 hx).2];decide
theorem Ny (n:Int):me n=kM n:=by kernel_rfl
theorem Nz (n:Int):isB (kM n):=by
 rw [sS]
 have key: ∀a,0≤ah .u8 a∧ah .u8 a≤255:=fun a=>by have:=om .u8 a;rwa [r6] at this
 intro x hx
 simp only [List.mem_cons,List.not_mem_nil,or_false] at hx
 rcases hx with rfl|rfl|rfl|rfl|rfl|rfl|rfl|rfl<;>exact key _
theorem NA {n:Nat} (h:n≤1000000000):aN .u64 8 (ah .u64 (n:Int))=aN .i64 8 (n:Int):=by
 unfold aN ah
 rw [w64,w64,IntKind.wrap_i64]
 omega
theorem NB {b:List Int} (hb:isB b):isB (g9 b):=by
 rw [sT]
 exact kZ (kZ (kZ hb (fun x hx=>by simp at hx;subst hx;decide)) (Dl _)) (Nz _)
theorem NC {h b:List Int} (hl:h.length=8):(jD h b).length=8:=by
 unfold jD
 simp only [ab]
 generalize kK b=w
 refine fS (fun (a:Int×Int×Int×Int×Int×Int×Int×Int×Int)=>a.2.2.2.2.2.2.2.2≤64) (fun r:List Int=>r.length=8) (fun a=>(64 - a.2.2.2.2.2.2.2.2).toNat) ?_ _ _ (show (0:Int)≤64 by decide) (show ((64:Int) - 0).toNat<((64:Int) - 0).toNat+1 by decide)
 rintro ag ⟨a0,a1,a2,a3,a4,a5,a6,a7,t⟩ g0 hag
 simp only at g0 hag
 by_cases ht:t<64
 ·simp only [ht,decide_true,if_true]
  exact hag _ (by simp only;omega) (by simp only;omega)
 ·simp only [ht,decide_false,Bool.false_eq_true,if_false]
  refine fS (fun (a:Int×List Int)=>a.2.length=8) (fun r:List Int=>r.length=8) (fun a=>(8 - a.1).toNat) ?_ _ _ hl (show ((8:Int) - 0).toNat<((8:Int) - 0).toNat+1 by decide)
  rintro ag2 ⟨i,s⟩ k0 hag2
  simp only at k0 hag2
  by_cases hi:i<8
  ·simp only [hi,decide_true,if_true]
   exact hag2 _ dL (by simp only;omega)
  ·simp only [hi,decide_false,Bool.false_eq_true,if_false]
   exact k0
theorem NE {l:List Int} {n:Nat}:sl (l.drop n) 0 64=sl l (n:Int) ((n:Int)+64):=by
 unfold sl
 rw [show ((n:Int)+64).toNat - (n:Int).toNat=64 by omega]
 simp
theorem NF {l:List Int} {n:Nat}:sl (l.drop n) 64 ((l.drop n).length:Int)=l.drop (n+64):=by
 unfold sl
 rw [show (64:Int).toNat=64 from rfl,List.drop_drop,List.take_of_length_le (by simp;omega)]
theorem Dm {b:List Int} (hb:isB b) (hl:b.length≤1000000000):nI b=iK b:=by
 unfold nI iK
 simp only [ab,nH]
 refine (A5 (fun ag p=>rfl)).trans ?_
 have hX:=NB hb
 have hX64:=A6 b
 have e:(b++[128])++List.replicate ((56 - ((b++[(128:Int)]).length:Int))% 64).toNat 0++me (aN .u64 8 (ah .u64 (b.length:Int)))=g9 b:=by
  rw [sT,Ny,NA hl];rfl
 simp only [e]
 generalize g9 b=X at hX hX64
 refine jM (fun (a:List Int×List Int) (c:Int×List Int)=> ∃n:Nat,c.1=(n:Int)∧a.1=X.drop n∧a.2=c.2∧c.2.length=8∧n≤X.length∧n% 64=0) (fun r s=>r=s) (fun a=>a.1.length) ?_ _ _ _ _ ⟨0,rfl,rfl,rfl,rfl,Nat.zero_le _,rfl⟩ (Nat.lt_succ_self _) (show X.length<((X.length:Int) - 0).toNat+1 by omega)
 rintro ag bg ⟨r,s⟩ ⟨at',s'⟩ ⟨n,rfl,rfl,rfl,g1,g2,g3⟩ hag
 simp only at g1 hag
 by_cases hn:n<X.length
 ·have c1:((X.drop n).length:Int)>0:=by rw [List.length_drop];omega
  have c2:(n:Int)<(X.length:Int):=by omega
  have hlen:(sl X (n:Int) ((n:Int)+64)).length=64:=by rw [lM];omega
  simp only [c1,c2,decide_true,if_true]
  rw [←Nu hlen (Nn hX),NE,NF]
  have hrel: ∃k:Nat,((n:Int)+64)=(k:Int)∧X.drop (n+64)=X.drop k∧k≤X.length∧k% 64=0:=by
   generalize hk:n+64=k
   exact ⟨k,by omega,rfl,by omega,by omega⟩
  obtain ⟨k,k1,k2,k3,k4⟩:=hrel
  have hmu:(X.drop (n+64)).length<(X.drop n).length:=by rw [List.length_drop,List.length_drop];omega
  have hm:=NC (b:=sl X (n:Int) ((n:Int)+64)) g1
  have h1:=hag (X.drop (n+64),jD s (sl X (n:Int) ((n:Int)+64))) ((n:Int)+64,jD s (sl X (n:Int) ((n:Int)+64)))
  simp only at h1
  have h2:=h1 ⟨k,k1,k2,trivial,hm,k3,k4⟩ hmu
  refine Eq.trans h2 ?_
  exact (Nx (fun z=>bg ((n:Int)+64,z)) g1).symm
 ·have c1: ¬((X.drop n).length:Int)>0:=by rw [List.length_drop];omega
  have c2: ¬(n:Int)<(X.length:Int):=by omega
  simp only [c1,c2,decide_false,Bool.false_eq_true,if_false]
  show (_:List Int)=_
  kernel_rfl
theorem Dn (h:List Int):br 32 h=(List.range 32).map fun k:Nat=>gt h (k:Int):=by kernel_rfl
theorem Do {l:List Int} (h:isB l):isB (br 32 l):=by
 rw [Dn]
 intro x hx
 obtain ⟨k,_,rfl⟩:=List.mem_map.1 hx
 exact Dj h _
theorem tw (t:List UInt8):isB (bK t):=fun x hx=>by
 obtain ⟨b,_,rfl⟩:=List.mem_map.1 hx
 have:=UInt8.toNat_lt b
 omega
theorem NG {l:List Int} {i x:Int} (h:isB l) (hx:0≤x∧x≤255):isB (st l i x):=fun y hy=>by
 rcases List.mem_or_eq_of_mem_set hy with h1|h1
 ·exact h y h1
 ·rw [h1];exact hx
theorem Dp (b:List Int):(iK b).length=32∧isB (iK b):=by
 have key: ∀a,0≤ah .u8 a∧ah .u8 a≤255:=fun a=>by have:=om .u8 a;rwa [r6] at this
 unfold iK
 simp only [ab]
 generalize g9 b=X
 refine fS (fun (_:Int×List Int)=>True) (fun r:List Int=>r.length=32∧isB r) (fun a=>((X.length:Int) - a.1).toNat) ?_ _ _ trivial (show ((X.length:Int) - 0).toNat<((X.length:Int) - 0).toNat+1 by omega)
 rintro ag ⟨n,s⟩ _ hag
 simp only at hag
 by_cases hn:n<(X.length:Int)
 ·simp only [hn,decide_true,if_true]
  refine fS (fun (_:Int×List Int)=>True) (fun r:List Int=>r.length=32∧isB r) (fun a=>(64 - a.1).toNat) ?_ _ _ trivial (show ((64:Int) - 0).toNat<((64:Int) - 0).toNat+1 by decide)
  rintro ag2 ⟨t,v⟩ _ hag2
  simp only at hag2
  by_cases ht:t<64
  ·simp only [ht,decide_true,if_true]
   exact hag2 _ trivial (by simp only;omega)
  ·simp only [ht,decide_false,Bool.false_eq_true,if_false]
   refine fS (fun (_:Int×List Int)=>True) (fun r:List Int=>r.length=32∧isB r) (fun a=>(8 - a.1).toNat) ?_ _ _ trivial (show ((8:Int) - 0).toNat<((8:Int) - 0).toNat+1 by decide)
   rintro ag3 ⟨i,h⟩ _ hag3
   simp only at hag3
   by_cases hi:i<8
   ·simp only [hi,decide_true,if_true]
    exact hag3 _ trivial (by simp only;omega)
   ·simp only [hi,decide_false,Bool.false_eq_true,if_false]
    exact hag _ trivial (by simp only;omega)
 ·simp only [hn,decide_false,Bool.false_eq_true,if_false]
  refine fS (fun (a:Int×List Int)=>a.2.length=32∧isB a.2) (fun r:List Int=>r.length=32∧isB r) (fun a=>(32 - a.1).toNat) ?_ _ _ ⟨rfl,Dl 32⟩ (show ((32:Int) - 0).toNat<((32:Int) - 0).toNat+1 by decide)
  rintro ag2 ⟨t,v⟩ hv hag2
  simp only at hv hag2
  by_cases ht:t<32
  ·simp only [ht,decide_true,if_true]
   exact hag2 _ ⟨dL,Do (NG (Do hv.2) (key _))⟩ (by simp only;omega)
  ·simp only [ht,decide_false,Bool.false_eq_true,if_false]
   exact hv
theorem NH (b h:List Int):jG b h=b++br 32 h:=by
 rw [Dn]
 unfold jG
 refine fS (fun (a:Int×List Int)=> ∃k:Nat,a.1=(k:Int)∧k≤32∧a.2=b++(List.range k).map fun j:Nat=>gt h (j:Int)) (fun r:List Int=>r=b++(List.range 32).map fun k:Nat=>gt h (k:Int)) (fun a=>(32 - a.1).toNat) ?_ _ _ ⟨0,rfl,by decide,by simp⟩ (show ((32:Int) - 0).toNat<((32:Int) - 0).toNat+1 by decide)
 rintro ag ⟨i,q⟩ ⟨k,e1,e2,e3⟩ hag
 simp only at e1 e3 hag
 subst e1
 subst e3
 by_cases hi:k<32
 ·have:(k:Int)<32:=by omega
  simp only [this,decide_true,if_true]
  exact hag _ ⟨k+1,rfl,hi,by rw [List.range_succ];simp⟩ (by simp only;omega)
 ·have: ¬(k:Int)<32:=by omega
  have e:k=32:=by omega
  simp only [this,decide_false,Bool.false_eq_true,if_false]
  rw [e]
theorem Dq {tag:List UInt8} {b:List Int} (h1:1≤tag.length) (h2:tag.length≤100) (hb:isB b) (hl:b.length≤900000000):nJ tag b=(eB tag b,0):=by
 unfold nJ eB
 have c1: ¬(tag.length:Int)<1:=by omega
 have c2: ¬(tag.length:Int)>100:=by omega
 simp only [c1,c2,decide_false,Bool.false_eq_true,if_false,ab,nH,NH,List.nil_append]
 have e1:=Dm (tw tag) (by rw [cL];omega)
 obtain ⟨l1,l2⟩:=Dp (bK tag)
 rw [e1]
 generalize iK (bK tag)=t at l1 l2
 have e2:br 32 t=t:=nj l1
 rw [e2,Dm (kZ (kZ l2 l2) hb) (by simp only [List.length_append];omega)]
theorem xv (tag:List UInt8) (b:List Int):(eB tag b).length=32∧isB (eB tag b):=by
 unfold eB
 simp only [ab]
 exact Dp _
theorem NI {e:Int} (h0:0≤e) (h1:e≤18446744073709551615):aU .u64 e 1=e% 2:=by
 obtain ⟨k,rfl⟩:=Int.eq_ofNat_of_zero_le h0
 unfold aU
 have e1:(BitVec.ofInt IntKind.u64.bits (k:Int)).toNat=k:=by
  show (BitVec.ofInt 64 (k:Int)).toNat=k
  rw [BitVec.toNat_ofInt];omega
 have e2:(BitVec.ofInt IntKind.u64.bits 1).toNat=2^1 - 1:=by decide
 rw [BitVec.toNat_and,e1,e2,Nat.and_two_pow_sub_one_eq_mod,w64]
 omega
theorem NJ {e:Int} (h0:0≤e) (h1:e≤9223372036854775807):aU .i64 e 1=e% 2:=by
 obtain ⟨k,rfl⟩:=Int.eq_ofNat_of_zero_le h0
 unfold aU
 have e1:(BitVec.ofInt IntKind.i64.bits (k:Int)).toNat=k:=by
  show (BitVec.ofInt 64 (k:Int)).toNat=k
  rw [BitVec.toNat_ofInt];omega
 have e2:(BitVec.ofInt IntKind.i64.bits 1).toNat=2^1 - 1:=by decide
 rw [BitVec.toNat_and,e1,e2,Nat.and_two_pow_sub_one_eq_mod,IntKind.wrap_i64]
 omega
theorem Ds {m:Int} (h:1<m):aQ .i64 1 m=1:=by
 rw [gF (by decide)];exact Int.emod_eq_of_lt (by decide) h
theorem fU {x m:Int} (h:0<m):0≤x% m∧x% m<m:=⟨Int.emod_nonneg _ (by omega),Int.emod_lt_of_pos _ h⟩
theorem Dt {m:Int} (hm:0<m) {M1 M2:Int→Int→Int} (h1: ∀a b,0≤a→a<m→0≤b→b<m→M1 a b=a*b% m) (h2: ∀a b,0≤a→a<m→0≤b→b<m→M2 a b=a*b% m)
  {A H:Int→Int} {U:Int} (hA: ∀e,0≤e→e≤U→A e=e% 2) (hH: ∀e,0≤e→e≤U→H e=e/2) {R:Type} {out:Int→R}
  {F:(Int×Int×Int→R)→Int×Int×Int→R} {G:(Int×Int×Int→Int)→Int×Int×Int→Int} {d1:Int×Int×Int→R} {d2:Int×Int×Int→Int}
  (hF: ∀ag p,F ag p=if decide (p.2.1>0)=true then (if (A p.2.1==1)=true then ag (M1 p.1 p.1,H p.2.1,M1 p.2.2 p.1) else ag (M1 p.1 p.1,H p.2.1,p.2.2)) else out p.2.2)
  (hG: ∀ag p,G ag p=if decide (p.2.1>0)=true then (if (p.2.1% 2==1)=true then ag (M2 p.1 p.1,p.2.1/2,M2 p.2.2 p.1) else ag (M2 p.1 p.1,p.2.1/2,p.2.2)) else p.2.2)
  {a e o:Int} (ha:0≤a∧a<m) (he:0≤e∧e≤U) (ho:0≤o∧o<m) {n k:Nat} (hn:e.toNat<n) (hk:e.toNat<k):
  ae n F d1 (a,e,o)=out (ae k G d2 (a,e,o)):=by
 refine jM (fun p q:Int×Int×Int=>p=q∧(0≤p.1∧p.1<m)∧(0≤p.2.1∧p.2.1≤U)∧0≤p.2.2∧p.2.2<m) (fun r s=>r=out s) (fun p=>p.2.1.toNat) ?_ n k _ _ ⟨rfl,ha,he,ho⟩ hn hk
 rintro ag bg ⟨a,e,o⟩ q ⟨rfl,p1,p2,p3⟩ ih
 simp only at p1 p2 p3 ih
 rw [hF,hG]
 simp only
 by_cases hc:e>0
 ·have hd:decide (e>0)=true:=by simpa using hc
  rw [if_pos hd,if_pos hd]
  have e1:=h1 a a p1.1 p1.2 p1.1 p1.2
  have e2:=h2 a a p1.1 p1.2 p1.1 p1.2
  have e3:=h1 o a p3.1 p3.2 p1.1 p1.2
  have e4:=h2 o a p3.1 p3.2 p1.1 p1.2
  rw [hA e p2.1 p2.2,hH e p2.1 p2.2,e1,e2,e3,e4]
  have hr:0≤e/2∧e/2≤U:=by omega
  split
  ·exact ih _ _ ⟨rfl,fU hm,hr,fU hm⟩ (by show (e/2).toNat<e.toNat;omega)
  ·exact ih _ _ ⟨rfl,fU hm,hr,p3⟩ (by show (e/2).toNat<e.toNat;omega)
 ·have hd: ¬decide (e>0)=true:=by simpa using hc
  rw [if_neg hd,if_neg hd]
theorem NL {a e n:Int} (ha:0≤a) (hn:a<n) (h1:1<n) (hn1:n<2305843009213693952) (he:0≤e∧e≤18446744073709551615):l4 a e n=dj a e n:=by
 unfold l4 dj
 rw [Ds h1]
 exact Dt (m:=n) (by omega) (M1:=fun a b=>fx a b n) (M2:=fun a b=>dt a b n) (A:=fun e=>aU .u64 e 1) (H:=fun e=>aw .u64 e 1) (U:=18446744073709551615) (out:=fun x=>x)
  (fun a b x1 x2 x3 x4=>sP x1 x2 x3 (by omega) (by omega)) (fun a b x1 x2 x3 x4=>jJ x1 x2 x3)
  (fun e x1 x2=>NI x1 x2) (fun e x1 x2=>cH e) (fun ag p=>rfl) (fun ag p=>rfl) ⟨ha,hn⟩ he ⟨by decide,h1⟩ (Nat.lt_succ_self _) (Nat.lt_succ_self _)
theorem NM {a m:Int} (h0:0≤a) (h1:a<m) (h2:m<2305843009213693952):gz a a m=0:=by
 unfold gz kD ab
 rw [if_neg (by simp;omega),if_neg (by simp;omega),if_pos (by simpa using h0)]
 simp [h1]
theorem qn {a e m:Int} (ha:0≤a) (hm:a<m) (hm1:m<2305843009213693952) (he:0≤e∧e≤9223372036854775807):jw a e m=(dj a e m,0):=by
 unfold jw dj
 refine De fun x1 h1=> ?_
 rw [NM ha hm hm1] at h1
 subst h1
 rw [if_neg (by decide),if_neg (by simp;omega)]
 exact Dt (m:=m) (by omega) (M1:=fun a b=>iE a b m) (M2:=fun a b=>dt a b m) (A:=fun e=>aU .i64 e 1) (H:=fun e=>aw .i64 e 1) (U:=9223372036854775807) (out:=fun x=>(x,0))
  (fun a b x1 x2 x3 x4=>wN x1 x2 x3 (by omega) (by omega)) (fun a b x1 x2 x3 x4=>jJ x1 x2 x3)
  (fun e x1 x2=>NJ x1 x2) (fun e x1 x2=>cO e) (fun ag p=>rfl) (fun ag p=>rfl) ⟨ha,hm⟩ he (sQ (by omega)) (Nat.lt_succ_self _) (Nat.lt_succ_self _)
theorem NN {l:List Nat} {i:Nat}:(l.map (fun n:Nat=>(n:Int))).getD i default=((l.getD i 0:Nat):Int):=by
 simp only [List.getD_eq_getElem?_getD,List.getElem?_map]
 cases l[i]? <;>rfl
theorem NO {x:Nat} (h0:x≠0) (h1:x<18446744073709551616):kz (x:Int)=(Lib.ctz 64 x:Int):=by
 obtain ⟨hlow,hk⟩:=Lib.lowest_bit 64 x h0 h1
 obtain ⟨hi,htab⟩:=Lib.deBruijn64_at _ hk
 rw [show (2:Nat)^64=18446744073709551616 by decide] at hlow
 unfold kz
 generalize Lib.ctz 64 x=c at hlow hk hi htab
 rw [if_neg (by simp;omega)]
 have e0:fZ .u64 (x:Int)=((18446744073709551616 - x:Nat):Int):=by unfold fZ;rw [w64];omega
 have e1:aU .u64 (x:Int) (fZ .u64 (x:Int))=((2^c:Nat):Int):=by
  rw [e0,←hlow]
  unfold aU
  have a1:(BitVec.ofInt IntKind.u64.bits (x:Int)).toNat=x:=by
   show (BitVec.ofInt 64 (x:Int)).toNat=x
   rw [BitVec.toNat_ofInt];omega
  have a2:(BitVec.ofInt IntKind.u64.bits ((18446744073709551616 - x:Nat):Int)).toNat=18446744073709551616 - x:=by
   show (BitVec.ofInt 64 ((18446744073709551616 - x:Nat):Int)).toNat=_
   rw [BitVec.toNat_ofInt];omega
  rw [BitVec.toNat_and,a1,a2]
  have:=Nat.and_le_left (n:=x) (m:=18446744073709551616 - x)
  exact cZ (by omega) (by omega)
 have e2:aw .u64 (aN .u64 (aU .u64 (x:Int) (fZ .u64 (x:Int))) 285870213051353865) 58=((2^c*285870213051353865% 18446744073709551616/288230376151711744:Nat):Int):=by
  rw [e1,AP]
  unfold aN
  rw [w64]
  generalize 2^c=t
  omega
 rw [e2,ye]
 have e3:iu.getD (2^c*285870213051353865% 18446744073709551616/288230376151711744) default=((Lib.deBruijn64tab.getD (2^c*285870213051353865% 18446744073709551616/288230376151711744) 0:Nat):Int):=by
  have hm:iu=Lib.deBruijn64tab.map (fun n:Nat=>(n:Int)):=by decide+kernel
  rw [hm,NN]
 rw [e3]
 have e4:Lib.deBruijn64tab.getD (2^c*285870213051353865% 18446744073709551616/288230376151711744) 0=c:=htab
 rw [e4]
 clear hlow hi htab e0 e1 e2 e3 e4
 exact o6 (by omega) (by omega)
def nV (n a d s:Int):Bool:=
 if dj a d n==1 then true else if dj a d n==n - 1 then true else
  ae ((s - 1).toNat+1) (fun (ag:Int×Int→Bool) (p:Int×Int)=>if decide (p.2<s)=true then (if (dt p.1 p.1 n==n - 1)=true then true else ag (dt p.1 p.1 n,p.2+1)) else false) (fun _=>default) (dj a d n,1)
theorem Du {n a:Int} {F:(Int×Int→Bool)→Int×Int→Bool} {d:Int×Int→Bool} (hF: ∀ag p,F ag p=if (p.1% 2==0)=true then ag (p.1/2,p.2+1) else nV n a p.1 p.2) (m:Int) (hm:0≤m):
  ∀(k fuel:Nat) (s:Int),k<fuel→ae fuel F d (2^k*(2*m+1),s)=nV n a (2*m+1) (s+k)
 | 0,fuel,s,hf=>by
  obtain ⟨f,rfl⟩: ∃f,fuel=f+1:=⟨fuel - 1,by omega⟩
  rw [ae,hF]
  simp only [Int.pow_zero,Int.one_mul]
  have hd: ¬((2*m+1)% 2==0)=true:=by
   rw [beq_iff_eq];omega
  rw [if_neg hd]
  simp
 | k+1,fuel,s,hf=>by
  obtain ⟨f,rfl⟩: ∃f,fuel=f+1:=⟨fuel - 1,by omega⟩
  have e:(2:Int)^(k+1)*(2*m+1)=2*(2^k*(2*m+1)):=by rw [Int.pow_succ,Int.mul_comm (2^k) 2,Int.mul_assoc]
  rw [ae,hF,e]
  generalize hT:(2:Int)^k*(2*m+1)=T
  simp only
  rw [if_pos (by rw [beq_iff_eq];omega),show 2*T/2=T by omega,←hT,Du hF m hm k f (s+1) (by omega)]
  congr 1
  push_cast
  omega
theorem Dv (k:Nat):k<2^k:=Nat.lt_two_pow_self
theorem NP {n a:Int} {k:Nat} {m:Int} (hm:0≤m) (hn:n - 1=2^k*(2*m+1)):pB n a=nV n a (2*m+1) k:=by
 unfold pB
 rw [hn]
 have h:=Du (n:=n) (a:=a) (F:=fun (ag2:(Int×Int)→Bool) (p2:Int×Int)=>(if ((p2.1% 2)==0) then (ag2 ((p2.1/2),(p2.2+1))) else nV n a p2.1 p2.2)) (d:=fun _=>default) (fun ag p=>rfl) m hm k ((2^k*(2*m+1)).toNat+1) 0 (by
  have h1:(2:Int)^k*1≤2^k*(2*m+1):=Int.mul_le_mul_of_nonneg_left (by omega) (Int.le_of_lt (Int.pow_pos (by decide)))
  have h2:=Dv k
  have h3:((2^k:Nat):Int)=2^k:=by push_cast;rfl
  omega)
 rw [Int.zero_add] at h
 rw [←h,←hn]
 rfl
theorem NQ {n a d s:Int} (ha:0≤a) (han:a<n) (h1:1<n) (hn:n<2305843009213693952) (hd:0≤d∧d≤18446744073709551615) (hs:0≤s∧s≤64):pn a n d s= !(nV n a d s):=by
 unfold pn nV
 have e1:av .u64 n 1=n - 1:=by unfold av;rw [cZ (by omega) (by omega)]
 rw [NL ha han h1 hn hd,e1,A3 hs.1 hs.2]
 simp only [ab]
 have hx:=sY (x:=dj a d n) rfl ha han (e:=d)
 generalize dj a d n=x at hx
 by_cases c1:(x==1)=true
 ·rw [if_pos c1,if_pos c1];rfl
 rw [if_neg c1,if_neg c1]
 by_cases c2:(x==n - 1)=true
 ·rw [if_pos c2,if_pos c2];rfl
 rw [if_neg c2,if_neg c2]
 refine jM (fun p q:Int×Int=>q=(p.1,p.2+1)∧(0≤p.1∧p.1<n)∧0≤p.2) (fun r s:Bool=>r= !s) (fun p=>(s - 1 - p.2).toNat) ?_ _ _ _ _ ⟨rfl,hx,Int.le_refl 0⟩ (by show (s - 1 - 0).toNat<_;omega) (by show (s - 1 - 0).toNat<_;omega)
 rintro ag bg ⟨x,i⟩ q ⟨rfl,p1,p2⟩ ih
 simp only at p1 p2 ih⊢
 by_cases hi:i<s - 1
 ·rw [if_pos (show decide (i<s - 1)=true by simpa using hi),if_pos (show decide (i+1<s)=true by simp only [decide_eq_true_eq];omega)]
  have e2:=sP p1.1 p1.2 p1.1 (by omega) (show n≤18446744073709551615 by omega)
  have e3:=jJ p1.1 p1.2 p1.1
  rw [e2,e3]
  split
  ·rfl
  ·exact ih _ _ ⟨rfl,fU (by omega),by show 0≤i+1;omega⟩ (by show (s - 1 - (i+1)).toNat<(s - 1 - i).toNat;omega)
 ·rw [if_neg (show¬decide (i<s - 1)=true by simpa using hi),if_neg (show¬decide (i+1<s)=true by simp only [decide_eq_true_eq];omega)]
  rfl
theorem Dw {p:Int}:gt cA p=gt ([2,3,5,7,11,13,17,19,23,29,31,37]:List Int) p:=rfl
theorem tx {n:Int} (hn:n<2305843009213693952):kC n=nE n:=by
 unfold kC nE
 by_cases h2:n<2
 ·rw [if_pos (by simpa using h2),if_pos (by simpa using h2)]
 rw [if_neg (by simpa using h2),if_neg (by simpa using h2)]
 have ec:ah .u64 n=n:=lN (by omega) (by omega)
 rw [ec]
 refine jM (fun p q:Int=>p=q∧0≤p∧p≤12∧jI n p) (fun r s:Bool=>r=s) (fun p=>(12 - p).toNat) ?_ _ _ _ _ ⟨rfl,by decide,by decide,wK⟩ (by decide) (by decide)
 rintro ag bg p q ⟨rfl,p1,p2,p3⟩ ih
 by_cases hp:p<12
 ·rw [if_pos (show decide (p<12)=true by simpa using hp),if_pos (show decide (p<12)=true by simpa using hp),←Dw]
  by_cases hr:(aQ .u64 n (gt cA p)==0)=true
  ·rw [if_pos hr,if_pos (show (aQ .i64 n (gt cA p)==0)=true from hr)]
  ·rw [if_neg hr,if_neg (show¬(aQ .i64 n (gt cA p)==0)=true from hr)]
   exact ih _ _ ⟨rfl,by omega,by omega,wL p3 (by omega) p1 hp (by simpa using hr)⟩ (by omega)
 ·rw [if_neg (show¬decide (p<12)=true by simpa using hp),if_neg (show¬decide (p<12)=true by simpa using hp),if_neg (show¬decide (n≥2305843009213693952)=true by simp only [decide_eq_true_eq];omega)]
  have h37:=wM p3 (by omega) (by omega)
  have es:av .u64 n 1=n - 1:=by unfold av;rw [cZ (by omega) (by omega)]
  rw [es]
  obtain ⟨x,hx⟩:=Int.eq_ofNat_of_zero_le (show 0≤n - 1 by omega)
  obtain ⟨m,hm,hk⟩:=Lib.ctzFrom_spec 64 x (by omega) (by omega)
  have ez:kz (n - 1)=(Lib.ctzFrom 64 x:Nat):=by
   rw [hx,NO (by omega) (by omega)]
   unfold Lib.ctz
   rw [if_neg (by omega)]
  simp only [ab,ez]
  generalize Lib.ctzFrom 64 x=k at hm hk
  have hxi:n - 1=2^k*(2*(m:Int)+1):=by rw [hx,hm];push_cast;rfl
  have esh:aw .u64 (n - 1) (k:Int)=2*(m:Int)+1:=by
   rw [mm (m:=k) (by rw [Int.toNat_natCast];show min k 64=k;omega),hxi]
   exact Int.mul_ediv_cancel_left _ (Int.ne_of_gt (Int.pow_pos (by decide)))
  have hpk:(1:Int)≤2^k:=by
   have h3:((2^k:Nat):Int)=2^k:=by push_cast;rfl
   have:=Dv k
   omega
  have hd:2*(m:Int)+1≤n - 1:=by
   have h1:(1:Int)*(2*m+1)≤2^k*(2*m+1):=Int.mul_le_mul_of_nonneg_right hpk (by omega)
   omega
  rw [esh]
  refine jM (fun p q:Int=>p=q∧0≤p) (fun r s:Bool=>r=s) (fun p=>(12 - p).toNat) ?_ _ _ _ _ ⟨rfl,by decide⟩ (by decide) (by decide)
  rintro ag bg p q ⟨rfl,p1⟩ ih
  by_cases hp:p<12
  ·rw [if_pos (show decide (p<12)=true by simpa using hp),if_pos (show decide (p<12)=true by simpa using hp),←Dw]
   obtain ⟨b0,b1⟩:=cI p1 hp
   rw [NQ (by omega) (by omega) (by omega) hn (by omega) (by omega),NP (by omega) hxi]
   split
   ·rfl
   ·exact ih _ _ ⟨rfl,by omega⟩ (by omega)
  ·rw [if_neg (show¬decide (p<12)=true by simpa using hp),if_neg (show¬decide (p<12)=true by simpa using hp)]
theorem xw {c:Prop} [Decidable c] {a:Bool}:((if c then false else a)=true)↔(¬c∧a=true):=by
 by_cases h:c<;>simp [h]
theorem xx {c:Prop} [Decidable c] {a:Bool}:((if c then a else false)=true)↔(c∧a=true):=by
 by_cases h:c<;>simp [h]
theorem lk {α β:Type} {a:α} {f:α→β}:ab a f=f a:=rfl
theorem NR {n:Int} (h:kC n=true):2≤n:=by
 unfold kC at h
 rw [xw] at h
 have:=h.1
 simp only [decide_eq_true_eq] at this
 omega
theorem Dx (g:ao):jx g=ef g:=by
 rw [Bool.eq_iff_iff]
 unfold jx ef
 simp only [lk,xw,xx,decide_eq_true_eq,beq_iff_eq,bne_iff_ne,ne_eq,Bool.not_eq_true',Bool.not_eq_false,Decidable.not_not]
 constructor
 ·rintro ⟨h1,h2,h3,h4,h5,h6,h7,h8,h9,h10⟩
  have hp:=NR h4
  have hq:=sZ (p:=g.P) (by omega) (by omega) (show 3≤g.Q by omega) h6
  rw [qn (by omega) (by omega) (by omega) (by omega)] at h10
  rw [tx (by omega)] at h4
  rw [tx (by omega)] at h5
  exact ⟨by omega,h1,h2,h3,h6,h7,h8,h4,h5,h10⟩
 ·rintro ⟨h0,h1,h2,h3,h6,h7,h8,h4,h5,h10⟩
  have hq:=sZ (p:=g.P) (by omega) (by omega) (show 3≤g.Q by omega) h6
  have hw:=qn (a:=g.G) (e:=g.Q) (m:=g.P) (by omega) (by omega) (by omega) (by omega)
  exact ⟨h1,h2,h3,by rw [tx (by omega)];exact h4,by rw [tx (by omega)];exact h5,h6,h7,h8,by rw [hw],by rw [hw];exact h10⟩
theorem tz {g:ao} (h:ef g=true):okG g:=(wU g).1 h
theorem Dy {a b m:Int} (ha:0≤a∧a<m) (hb:0≤b∧b<m) (hm:m<2305843009213693952):nv a b m=(a*b% m,0):=by
 unfold nv gz kD
 simp only [lk]
 rw [if_neg (show¬decide (m<1)=true by simp only [decide_eq_true_eq];omega),if_neg (show¬decide (m≥2305843009213693952)=true by simp only [decide_eq_true_eq];omega)]
 simp [ha.1,ha.2,hb.1,hb.2,wN ha.1 ha.2 hb.1 (by omega) (by omega)]
theorem qo {a e m:Int} (ha:0≤a) (hm:a<m) (h1:1<m) (he:0≤e):dj a e m=a^e.toNat% m:=by
 unfold dj
 rw [Ds h1]
 refine kv (P:=fun p:Int×Int×Int=>(0≤p.1∧p.1<m)∧0≤p.2.1∧(0≤p.2.2∧p.2.2<m)∧p.2.2*p.1^p.2.1.toNat% m=a^e.toNat% m) (Q:=fun r=>r=a^e.toNat% m) (meas:=fun p=>p.2.1.toNat) ?_ _ _ ⟨⟨ha,hm⟩,he,⟨by show (0:Int)≤1;decide,h1⟩,by show 1*a^e.toNat% m=_;rw [Int.one_mul]⟩ (by show e.toNat<e.toNat+1;omega)
 rintro ag ⟨x,k,o⟩ ⟨p1,p2,p3,p4⟩ ih
 simp only at p1 p2 p3 p4 ih
 simp only [lk]
 by_cases hk:k>0
 ·rw [if_pos (by simpa using hk)]
  have hx:=jJ p1.1 p1.2 p1.1
  have ho:=jJ p3.1 p3.2 p1.1
  have r1:=fU (x:=x*x) (show 0<m by omega)
  have r2:=fU (x:=o*x) (show 0<m by omega)
  have hk2:k.toNat=k.toNat/2+k.toNat/2+k.toNat% 2:=by omega
  have hk3:(k/2).toNat=k.toNat/2:=by omega
  have hpw:(x*x% m)^(k/2).toNat% m=x^(k.toNat/2+k.toNat/2)% m:=by rw [tp,hk3,xr,←tr]
  rw [hx,ho]
  by_cases hc:k% 2=1
  ·rw [if_pos (by simpa using hc)]
   refine ih _ ⟨r1,by show 0≤k/2;omega,r2,?_⟩ (by show (k/2).toNat<k.toNat;omega)
   show o*x% m*(x*x% m)^(k/2).toNat% m=_
   rw [Int.mul_emod,hpw,tq,Dd,←p4,Int.mul_assoc]
   have e9:k.toNat=k.toNat/2+k.toNat/2+1:=by omega
   have e8:x^k.toNat=x*x^(k.toNat/2+k.toNat/2):=by
    conv=>lhs;rw [e9]
    rw [Int.pow_succ,Int.mul_comm]
   rw [e8]
  ·rw [if_neg (by simpa using hc)]
   refine ih _ ⟨r1,by show 0≤k/2;omega,p3,?_⟩ (by show (k/2).toNat<k.toNat;omega)
   show o*(x*x% m)^(k/2).toNat% m=_
   rw [Int.mul_emod,hpw,Dd,←p4]
   congr 3
   omega
 ·rw [if_neg (by simpa using hk)]
  have:k=0:=by omega
  subst this
  rw [show ((0:Int)).toNat=0 from rfl,Int.pow_zero,Int.mul_one,Int.emod_eq_of_lt p3.1 p3.2] at p4
  exact p4
def El (g:ao) (x:Int):Prop:=1≤x∧x<g.P∧x^g.Q.toNat% g.P=1
theorem xy {g:ao} (h:okG g) (x:Int):cv g x=true↔El g x:=by
 obtain ⟨h1,h2,h3,h4,h5,h6⟩:=h
 unfold cv El
 simp only [lk,xx,decide_eq_true_eq,beq_iff_eq]
 constructor
 ·rintro ⟨a1,a2,a3⟩
  rw [qo (by omega) a2 (by omega) (by omega)] at a3
  exact ⟨a1,a2,a3⟩
 ·rintro ⟨a1,a2,a3⟩
  exact ⟨a1,a2,by rw [qo (by omega) a2 (by omega) (by omega)];exact a3⟩
theorem Dz {a b m:Int} (ha:0≤a∧a<m) (hb:0≤b∧b<m) (hm:m<2305843009213693952):nL a b m=((a+b)% m,0):=by
 unfold nL gz kD
 simp only [lk]
 rw [if_neg (show¬decide (m<1)=true by simp only [decide_eq_true_eq];omega),if_neg (show¬decide (m≥2305843009213693952)=true by simp only [decide_eq_true_eq];omega)]
 have e:al .i64 a b=a+b:=by unfold al;rw [IntKind.wrap_i64];omega
 simp [ha.1,ha.2,hb.1,hb.2,e,gF (show 0≤a+b by omega)]
theorem NS {x c m:Int}:(x*256% m+c% m)% m=(x*(256% m)% m+c)% m:=by
 have h2:(x*(256% m))% m=(x*256)% m:=by rw [Int.mul_emod,Int.emod_emod_of_dvd _ (Int.dvd_refl m),←Int.mul_emod]
 rw [h2,←Int.add_emod,Int.add_emod (x*256% m),Int.emod_emod_of_dvd _ (Int.dvd_refl m),←Int.add_emod]
theorem NT {h:List Int} {m:Int} (hm:1≤m) (hm1:m<2305843009213693952) (hb: ∀i:Int,0≤gt h i∧gt h i≤255):nM h m=(kR h m,0):=by
 unfold nM kR
 rw [if_neg (show¬decide (m<1)=true by simp only [decide_eq_true_eq];omega),if_neg (show¬decide (m≥2305843009213693952)=true by simp only [decide_eq_true_eq];omega)]
 have hg: ∀i:Int,0≤i→i<16→gt [gt h 0,gt h 1,gt h 2,gt h 3,gt h 4,gt h 5,gt h 6,gt h 7,gt h 8,gt h 9,gt h 10,gt h 11,gt h 12,gt h 13,gt h 14,gt h 15] i=gt h i:=by
  intro i h0 h1
  obtain ⟨k,rfl⟩:=Int.eq_ofNat_of_zero_le h0
  have hk:k<16:=by omega
  match k,hk with
  | 0,_=>rfl
  | 1,_=>rfl
  | 2,_=>rfl
  | 3,_=>rfl
  | 4,_=>rfl
  | 5,_=>rfl
  | 6,_=>rfl
  | 7,_=>rfl
  | 8,_=>rfl
  | 9,_=>rfl
  | 10,_=>rfl
  | 11,_=>rfl
  | 12,_=>rfl
  | 13,_=>rfl
  | 14,_=>rfl
  | 15,_=>rfl
  | k+16,hk=>omega
 refine jM (fun p q:Int×Int=>p=q∧(0≤p.1∧p.1<m)∧0≤p.2) (fun r s=>r=(s,0)) (fun p=>(16 - p.2).toNat) ?_ _ _ _ _ ⟨rfl,⟨by decide,by show (0:Int)<m;omega⟩,by decide⟩ (by decide) (by decide)
 rintro ag bg ⟨x,i⟩ q ⟨rfl,p1,p2⟩ ih
 simp only at p1 p2 ih
 by_cases hi:i<16
 ·rw [if_pos (show decide (i<16)=true by simpa using hi),if_pos (show decide (i<16)=true by simpa using hi)]
  simp only [hg i p2 hi]
  refine kv (P:=fun q:Int×Int=> ∃k:Nat,q.2=k∧k≤8∧q.1=x*2^k% m) (Q:=fun r=>r=_) (meas:=fun q=>(8 - q.2).toNat) ?_ _ _ ⟨0,rfl,by decide,by show x=x*2^0% m;rw [Int.pow_zero,Int.mul_one,Int.emod_eq_of_lt p1.1 p1.2]⟩ (by show ((8:Int) - 0).toNat<((8:Int) - 0).toNat+1;omega)
  rintro ag2 ⟨y,j⟩ ⟨k,e1,e2,e3⟩ ih2
  simp only at e1 e3 ih2
  subst e1
  have hy:0≤y∧y<m:=by rw [e3];exact fU (by omega)
  by_cases hj:(k:Int)<8
  ·rw [if_pos (show decide ((k:Int)<8)=true by simpa using hj)]
   simp only [lk,Dz hy hy hm1]
   refine ih2 _ ⟨k+1,by push_cast;rfl,by omega,?_⟩ (by show (8 - ((k:Int)+1)).toNat<(8 - (k:Int)).toNat;omega)
   show (y+y)% m=x*2^(k+1)% m
   rw [e3,←Int.add_emod,Int.pow_succ]
   congr 1
   rw [←Int.mul_assoc];omega
  ·rw [if_neg (show¬decide ((k:Int)<8)=true by simpa using hj)]
   have ek:k=8:=by omega
   have hc:=hb i
   have ec:ah .i64 (gt h i)=gt h i:=o6 (by omega) (by omega)
   simp only [lk,ec,gF hc.1]
   have er:0≤gt h i% m∧gt h i% m<m:=fU (by omega)
   rw [Dz hy er hm1]
   have h256:=Bk hm
   rw [jJ p1.1 p1.2 h256.1,gF (by decide),Bi hm hm1]
   have es:(y+gt h i% m)% m=(x*(256% m)% m+gt h i)% m:=by
    rw [e3,ek,show (2:Int)^8=256 by decide];exact NS
   rw [es]
   have e64:al .i64 (x*(256% m)% m) (gt h i)=x*(256% m)% m+gt h i:=by
    have:=fU (x:=x*(256% m)) (m:=m) (by omega)
    unfold al;rw [IntKind.wrap_i64];omega
   first
    | rw [e64]
    | skip
   exact ih _ _ ⟨rfl,fU (by omega),by show 0≤i+1;omega⟩ (by show (16 - (i+1)).toNat<(16 - i).toNat;omega)
 ·rw [if_neg (show¬decide (i<16)=true by simpa using hi),if_neg (show¬decide (i<16)=true by simpa using hi)]
theorem NU (i:aq):pR i=cc i 8:=by
 unfold pR
 simp only [ab,jt]
 rfl
theorem NV (i:aq):sM i=cc i 8:=rfl
theorem NW (i:aq):jF i=if cc i 8=false then ([],1) else if (bB i).length>16384 then ([],5) else (bB i,0):=by
 unfold jF
 refine De fun x1 e1=> ?_
 rw [NV] at e1
 subst e1
 by_cases hv:cc i 8=true
 ·simp only [hv,Bool.not_true,Bool.false_eq_true,if_false,ab]
  rcases AK i [] 8 hv with e|⟨e1,e2⟩
  ·rw [e]
   simp only [List.nil_append]
   by_cases h:(bB i).length>16384
   ·have:((bB i).length:Int)>16384:=by omega
    simp [h,this]
   ·have: ¬((bB i).length:Int)>16384:=by omega
    simp [h,this]
  ·simp only [List.nil_append] at e2
   have h1:((ee [] i).length:Int)>16384:=by omega
   have h2:(bB i).length>16384:=e2
   simp [h1,h2]
 ·have hv':cc i 8=false:=by simpa using hv
  simp [hv']
theorem xz {x:Int} {l:List Int} (h1:0≤x∧x≤255) (h2:isB l):isB (x::l):=fun y hy=>by
 rcases List.mem_cons.1 hy with rfl|h
 ·exact h1
 ·exact h2 y h
mutual
theorem DA: ∀(i:aq),okI i→isB (bB i)
 | ⟨k,n,b,l⟩,h=>by
  simp only [okI] at h
  simp only [bB]
  split
  ·exact xz (by omega) sr
  split
  ·exact xz (by omega) (kZ sr h.2.1)
  ·exact xz (by omega) (kZ sr (DB l h.2.2.2))
theorem DB: ∀(l:List aq),okL l→isB (cM l)
 | [],_=>fun x hx=>by cases hx
 | x::l,h=>by
  simp only [okL] at h
  simp only [cM]
  exact kZ (DA x h.1) (DB l h.2)
end
theorem NX {h:List Int} {m x:Int} (hx:x=kR h m) (hm:1≤m) (hm1:m<2305843009213693952):0≤x∧x<m:=by
 rw [hx]
 unfold kR
 refine kv (P:=fun p:Int×Int=>0≤p.1∧p.1<m) (Q:=fun x=>0≤x∧x<m) (meas:=fun p=>(16 - p.2).toNat) ?_ _ _ ⟨by decide,by show (0:Int)<m;omega⟩ (by decide)
 rintro ag ⟨x,i⟩ hp ih
 simp only at hp ih⊢
 by_cases hi:i<16
 ·rw [if_pos (by simpa using hi)]
  simp only [ab]
  exact ih _ (Bj rfl hm hm1) (by show (16 - (i+1)).toNat<(16 - i).toNat;omega)
 ·rw [if_neg (by simpa using hi)]
  exact hp
end Go.Proofs.YtgealhhkngbkbaaGreatDoor
namespace Go.Proofs.YtgealhhkngbkbaaGreatDoor
open Go.RowKit
set_option linter.unusedVariables false
set_option linter.unusedSimpArgs false
theorem NY {g:ao} (h:okG g) (x:Int):po g x=cv g x:=by
 obtain ⟨h1,h2,h3,h4,h5,h6⟩:=h
 rw [Bool.eq_iff_iff]
 unfold po cv
 simp only [lk,xw,xx,decide_eq_true_eq,beq_iff_eq]
 constructor
 ·rintro ⟨a1,a2,a3⟩
  rw [qn (by omega) (by omega) (by omega) (by omega)] at a3
  exact ⟨by omega,by omega,a3.2⟩
 ·rintro ⟨a1,a2,a3⟩
  refine ⟨by omega,by omega,?_⟩
  rw [qn (by omega) (by omega) (by omega) (by omega)]
  exact ⟨rfl,a3⟩
theorem DC {g:ao} (h:okG g) (l:List Int):nq g l=l.all (cv g):=by
 unfold nq
 have e:sv l g=l.any (fun x=>np x g):=hJ (fun x=>np x g) (fun ag p=>rfl)
 rw [az,e]
 clear e
 induction l with
 | nil=>rfl
 | cons a l ih=>
  rw [List.any_cons,List.all_cons,Bool.not_or,ih]
  congr 1
  unfold np
  rw [az,Bool.not_not,NY h]
theorem NZ {g:ao} (h:okG g) (n:Int) (l:List (List Int)):l5 l n g=false↔ ∀row∈l,(row.length:Int)=n∧ ∀x∈row,cv g x=true:=by
 have e:l5 l n g=l.any (fun x=>jy x n g):=hJ (fun x=>jy x n g) (fun ag p=>rfl)
 rw [e,List.any_eq_false]
 have key: ∀row:List Int,¬(jy row n g=true)↔((row.length:Int)=n∧ ∀x∈row,cv g x=true):=by
  intro row
  unfold jy
  by_cases c:(row.length:Int)=n
  ·rw [if_neg (by simpa using c),az,DC h]
   simp only [Bool.not_eq_true',Bool.not_eq_false,List.all_eq_true,c,true_and]
  ·rw [if_pos (by simpa using c)]
   simp [c]
 exact ⟨fun hh row hr=>(key row).1 (hh row hr),fun hh row hr=>(key row).2 (hh row hr)⟩
theorem DD (g:ao) (r:aH):fy g r=eg g r:=by
 rw [qf]
 unfold fy
 rw [az,Dx]
 by_cases c0:ef g=false
 ·rw [if_pos (by rw [c0];rfl),if_pos (.inl c0)]
 have hg:ef g=true:=by simpa using c0
 have hk:=tz hg
 rw [if_neg (by rw [hg];decide)]
 by_cases c1:r.Y.length<1
 ·rw [if_pos (by simp;omega),if_pos (.inr (.inl c1))]
 rw [if_neg (by simp;omega)]
 by_cases c2:8<r.Y.length
 ·rw [if_pos (by simp;omega),if_pos (.inr (.inr (.inl c2)))]
 rw [if_neg (by simp;omega)]
 by_cases c3:r.Bases.length≠r.Y.length
 ·rw [if_pos (by simp;omega),if_pos (.inr (.inr (.inr (.inl c3))))]
 rw [if_neg (by simp;omega),az,DC hk]
 have hrow:=nU (cv g) ((gt r.Bases 0).length:Int) r.Y r.Bases (by omega)
 by_cases cy:r.Y.all (cv g)=true
 ·rw [if_neg (by rw [cy];decide)]
  by_cases c4:(gt r.Bases 0).length<1
  ·rw [if_pos (by simp;omega),if_pos (.inr (.inr (.inr (.inr (.inl c4)))))]
  rw [if_neg (by simp;omega)]
  by_cases c5:12<(gt r.Bases 0).length
  ·rw [if_pos (by simp;omega),if_pos (.inr (.inr (.inr (.inr (.inr c5)))))]
  rw [if_neg (by simp;omega),if_neg (fun h=>by rcases h with h|h|h|h|h|h<;>contradiction),az]
  rw [Bool.eq_iff_iff,hrow,Bool.not_eq_true',NZ hk]
  rw [List.all_eq_true] at cy
  exact ⟨fun h=>⟨cy,h⟩,fun h=>h.2⟩
 ·have cy2:r.Y.all (cv g)=false:=by simpa using cy
  rw [if_pos (by rw [cy2];rfl)]
  split
  ·rfl
  ·rename_i h
   cases hr:iO (cv g) ((gt r.Bases 0).length:Int) r.Y r.Bases with
   | false=>rfl
   | true=>exact absurd (List.all_eq_true.2 (hrow.1 hr).1) cy
theorem DE (g:ao) (l:List Int):l6 g l=gC g l:=by
 unfold l6 gC
 have e:sw l g=l.any (fun x=>nu x g):=hJ (fun x=>nu x g) (fun ag p=>rfl)
 rw [az,e,qe (l:=l) (fun x=>decide (0≤x∧x<g.Q)) true false (fun ag p=> ?_)]
 ·clear e
  induction l with
  | nil=>rfl
  | cons a l ih=>
   rw [List.any_cons,List.all_cons,Bool.not_or,ih]
   unfold nu
   by_cases c1:a<0
   ·rw [if_pos (by simpa using c1),show decide (0≤a∧a<g.Q)=false by simp;omega];rfl
   ·rw [if_neg (by simpa using c1)]
    by_cases c2:a≥g.Q
    ·rw [show decide (a≥g.Q)=true by simpa using c2,show decide (0≤a∧a<g.Q)=false by simp;omega];rfl
    ·rw [show decide (a≥g.Q)=false by simpa using c2,show decide (0≤a∧a<g.Q)=true by simp;omega]
     cases l.all (fun x=>decide (0≤x∧x<g.Q))<;>rfl
 ·congr 1
  simp only [decide_eq_true_eq,decide_eq_false_iff_not]
  by_cases c1:gt l p<0
  ·rw [if_pos c1,if_pos (by omega)]
  ·rw [if_neg c1]
   by_cases c2:gt l p≥g.Q
   ·rw [if_pos c2,if_pos (by omega)]
   ·rw [if_neg c2,if_neg (by omega)]
end Go.Proofs.YtgealhhkngbkbaaGreatDoor
namespace Go.Proofs.YtgealhhkngbkbaaGreatDoor
open Go.RowKit
set_option linter.unusedVariables false
set_option linter.unusedSimpArgs false
def eh {α σ:Type} (nx:α→Int→σ→σ):List α→Int→σ→σ
 | [],_,s=>s
 | a::l,i,s=>eh nx l (i+1) (nx a i s)
theorem xA {α σ τ R:Type} [Inhabited α] {l:List α} (mk:σ→Int→τ) (nx:α→Int→σ→σ) (I:σ→Prop) (E:σ→R) {F:(τ→R)→τ→R} {d:τ→R}
  (hI: ∀s (i:Int),I s→0≤i→i.toNat<l.length→I (nx (gt l i) i s)) (hF: ∀ag s (i:Int),I s→0≤i→i.toNat<l.length→F ag (mk s i)=ag (mk (nx (gt l i) i s) (i+1))) (hE: ∀ag s (i:Int),¬i<(l.length:Int)→F ag (mk s i)=E s) (s:σ) (hs:I s):
  ae (((l.length:Int) - 0).toNat+1) F d (mk s 0)=E (eh nx l 0 s):=by
 have key: ∀(m k:Nat) (s:σ),I s→l.length - k=m→k≤l.length→ ∀fuel,m<fuel→ae fuel F d (mk s (k:Int))=E (eh nx (l.drop k) (k:Int) s):=by
  intro m
  induction m with
  | zero=>
   intro k s hs e1 e2 fuel hf
   obtain ⟨g,rfl⟩: ∃g,fuel=g+1:=⟨fuel - 1,by omega⟩
   rw [ae,hE _ _ _ (by omega),List.drop_of_length_le (by omega),eh]
  | succ m ih=>
   intro k s hs e1 e2 fuel hf
   obtain ⟨g,rfl⟩: ∃g,fuel=g+1:=⟨fuel - 1,by omega⟩
   have hk:k<l.length:=by omega
   have:=ih (k+1) _ (hI s (k:Int) hs (by omega) (by simpa using hk)) (by omega) (by omega) g (by omega)
   rw [ae,hF _ _ _ hs (by omega) (by simpa using hk),List.drop_eq_getElem_cons hk,eh,show ((k:Int)+1)=((k+1:Nat):Int) by omega,this,g_ hk]
 have h5:=key l.length 0 s hs (by omega) (by omega) (((l.length:Int) - 0).toNat+1) (by omega)
 simpa using h5
def c6 (P:Int) (z:List Int) (row:List Int):Int:=eh (fun b i a=>a*(b^(gt z i).toNat% P)% P) row 0 1
theorem DF {α σ:Type} {nx:α→Int→σ→σ} (I:σ→Prop): ∀(l:List α) (i:Int) (s:σ),(∀a∈l,∀i s,I s→I (nx a i s))→I s→I (eh nx l i s)
 | [],i,s,_,hs=>hs
 | a::l,i,s,h,hs=>by
  rw [eh]
  exact DF I l _ _ (fun b hb=>h b (List.mem_cons_of_mem _ hb)) (h a List.mem_cons_self i s hs)
theorem DG {P:Int} {q:Nat} (hP:1<P) {z row:List Int} (h: ∀b∈row,El0 P q b):El0 P q (c6 P z row)∧0≤c6 P z row∧c6 P z row<P:=by
 unfold c6
 refine DF (fun a=>El0 P q a∧0≤a∧a<P) row 0 1 (fun b hb i a ha=>⟨?_,Int.emod_nonneg _ (by omega),Int.emod_lt_of_pos _ (by omega)⟩) ⟨Nj hP,by decide,hP⟩
 have:=Dh hP ha.1 (xu (Df hP (h b hb) (gt z i).toNat))
 exact xu this
theorem wpw {a e m:Int} (ha:0≤a) (hm:a<m) (h1:1<m) (hm1:m<2305843009213693952) (he:0≤e∧e≤9223372036854775807):jw a e m=(a^e.toNat% m,0):=by
 rw [qn ha hm hm1 he,qo ha hm h1 he.1]
theorem N0 {g:ao} (hg:okG g) {row z:List Int} (hr: ∀b∈row,0≤b∧b<g.P) (hz: ∀x∈z,0≤x∧x<g.Q):nw g 1 row z=c6 g.P z row:=by
 obtain ⟨h1,h2,h3,h4,h5,h6⟩:=hg
 have hzz: ∀i:Int,0≤gt z i∧gt z i<g.Q:=by
  intro i
  by_cases hi:i.toNat<z.length
  ·exact hz _ (aI hi)
  ·have:gt z i=0:=by simp [gt,List.getD_eq_getElem?_getD,List.getElem?_eq_none (Nat.not_lt.1 hi)]
   rw [this];omega
 unfold nw c6
 refine xA (l:=row) (fun (s:Int) i=>(s,i)) (fun b i a=>a*(b^(gt z i).toNat% g.P)% g.P) (fun a=>0≤a∧a<g.P) (fun a=>a) (fun s i _ _ _=>⟨Int.emod_nonneg _ (by omega),Int.emod_lt_of_pos _ (by omega)⟩) (fun ag s i hs h0 hi=> ?_) (fun ag s i h=> ?_) 1 ⟨by decide,by omega⟩
 ·have hb:=hr _ (aI hi)
  have hz1:=hzz i
  dsimp only
  rw [if_pos (dT (by omega)),az,az,wpw hb.1 hb.2 (by omega) (by omega) (by omega)]
  dsimp only
  rw [Dy hs ⟨Int.emod_nonneg _ (by omega),Int.emod_lt_of_pos _ (by omega)⟩ (by omega)]
 ·dsimp only
  rw [if_neg (dN h)]
theorem N3 {g:ao} (hg:okG g) {row z:List Int} (hr: ∀b∈row,0≤b∧b<g.P) (hz: ∀x∈z,0≤x∧x<g.Q):l8 g row z=c6 g.P z row:=by
 obtain ⟨h1,h2,h3,h4,h5,h6⟩:=hg
 have hzz: ∀i:Int,0≤gt z i∧gt z i<g.Q:=by
  intro i
  by_cases hi:i.toNat<z.length
  ·exact hz _ (aI hi)
  ·have:gt z i=0:=by simp [gt,List.getD_eq_getElem?_getD,List.getElem?_eq_none (Nat.not_lt.1 hi)]
   rw [this];omega
 unfold l8 c6
 refine xA (l:=row) (fun (s:Int) i=>(s,i)) (fun b i a=>a*(b^(gt z i).toNat% g.P)% g.P) (fun a=>0≤a∧a<g.P) (fun a=>a) (fun s i _ _ _=>⟨Int.emod_nonneg _ (by omega),Int.emod_lt_of_pos _ (by omega)⟩) (fun ag s i hs h0 hi=> ?_) (fun ag s i h=> ?_) 1 ⟨by decide,by omega⟩
 ·have hb:=hr _ (aI hi)
  have hz1:=hzz i
  dsimp only
  rw [if_pos (dT (by omega)),az,az,qo hb.1 hb.2 (by omega) hz1.1,jJ hs.1 hs.2 (Int.emod_nonneg _ (by omega))]
 ·dsimp only
  rw [if_neg (dN h)]
theorem N4 {g:ao} (hg:okG g) {rows:List (List Int)} {z:List Int} (hr: ∀row∈rows,∀b∈row,0≤b∧b<g.P) (hz: ∀x∈z,0≤x∧x<g.Q):kF g rows z=rows.map (c6 g.P z):=by
 unfold kF
 have hm: ∀(l:List (List Int)) (i:Int) (s:List Int),eh (fun a _ s=>s++[c6 g.P z a]) l i s=s++l.map (c6 g.P z):=by
  intro l
  induction l with
  | nil=>intro i s;simp [eh]
  | cons a l ih=>intro i s;rw [eh,ih];simp
 refine (xA (l:=rows) (fun (s:List Int) i=>(i,s)) (fun a _ s=>s++[c6 g.P z a]) (fun _=>True) (fun s=>s) (fun s i _ _ _=>trivial) (fun ag s i _ h0 hi=> ?_) (fun ag s i h=> ?_) [] trivial).trans ?_
 ·dsimp only
  rw [if_pos (dT (by omega)),az,N0 hg (hr _ (aI hi)) hz]
 ·dsimp only
  rw [if_neg (dN h)]
 ·rw [hm,List.nil_append]
def chk (c:Int→Bool):List Int→Int→Bool
 | [],_=>true
 | _::l,i=>if c i=true then chk c l (i+1) else false
theorem xB {l:List Int} (c:Int→Bool) {F:(Int→Bool)→Int→Bool} {d:Int→Bool} (hF: ∀ag (i:Int),0≤i→i<(l.length:Int)→F ag i=if c i=true then ag (i+1) else false) (hE: ∀ag (i:Int),¬i<(l.length:Int)→F ag i=true):
  ae (((l.length:Int) - 0).toNat+1) F d 0=chk c l 0:=by
 have key: ∀(m k:Nat),l.length - k=m→k≤l.length→ ∀fuel,m<fuel→ae fuel F d (k:Int)=chk c (l.drop k) (k:Int):=by
  intro m
  induction m with
  | zero=>
   intro k e1 e2 fuel hf
   obtain ⟨g,rfl⟩: ∃g,fuel=g+1:=⟨fuel - 1,by omega⟩
   rw [ae,hE _ _ (by omega),List.drop_of_length_le (by omega),chk]
  | succ m ih=>
   intro k e1 e2 fuel hf
   obtain ⟨g,rfl⟩: ∃g,fuel=g+1:=⟨fuel - 1,by omega⟩
   have hk:k<l.length:=by omega
   have:=ih (k+1) (by omega) (by omega) g (by omega)
   rw [ae,hF _ _ (by omega) (by omega),List.drop_eq_getElem_cons hk,chk,show ((k:Int)+1)=((k+1:Nat):Int) by omega,this]
 have h5:=key l.length 0 (by omega) (by omega) (((l.length:Int) - 0).toNat+1) (by omega)
 simpa using h5
theorem DH {l:List Int} {i j v:Int} (hi:0≤i) (hl:i.toNat<l.length) (hj:0≤j):gt (st l i v) j=if j=i then v else gt l j:=by
 unfold st gt
 by_cases e:j=i
 ·subst e
  simp [List.getD_eq_getElem?_getD,hl]
 ·rw [if_neg e]
  simp only [List.getD_eq_getElem?_getD,List.getElem?_set]
  rw [if_neg (by omega)]
theorem N5 {g:ao} (hg:okG g) {r:aH} {c:Int} {z:List Int} (hc:0≤c∧c<g.Q) (hy: ∀y∈r.Y,0≤y∧y<g.P) (hb:r.Bases.length=r.Y.length) (hr: ∀row∈r.Bases,∀b∈row,El0 g.P g.Q.toNat b∧0≤b∧b<g.P) (hz: ∀x∈z,0≤x∧x<g.Q):
  (nD g r c z).length=r.Y.length∧ ∀j:Int,0≤j→j.toNat<r.Y.length→gt (nD g r c z) j=c6 g.P z (gt r.Bases j)*(gt r.Y j^((g.Q - c)% g.Q).toNat% g.P)% g.P:=by
 have hg':=hg
 obtain ⟨h1,h2,h3,h4,h5,h6⟩:=hg
 have hW: ∀j:Int,j.toNat<r.Y.length→gt (r.Bases.map (c6 g.P z)) j=c6 g.P z (gt r.Bases j):=by
  intro j hj
  simp [gt,List.getD_eq_getElem?_getD,hb,hj]
 have hWr: ∀j:Int,j.toNat<r.Y.length→0≤c6 g.P z (gt r.Bases j)∧c6 g.P z (gt r.Bases j)<g.P:=fun j hj=>(DG (q:=g.Q.toNat) (by omega) (fun b hb2=>(hr _ (aI (l:=r.Bases) (i:=j) (by omega)) b hb2).1)).2
 unfold nD
 rw [az,N4 hg' (fun row hr2 b hb2=>(hr row hr2 b hb2).2) hz]
 refine fS (fun p:Int×List Int=>0≤p.1∧p.1≤(r.Y.length:Int)∧p.2.length=r.Y.length∧(∀j:Int,0≤j→j<p.1→gt p.2 j=c6 g.P z (gt r.Bases j)*(gt r.Y j^((g.Q - c)% g.Q).toNat% g.P)% g.P)∧ ∀j:Int,p.1≤j→j.toNat<r.Y.length→gt p.2 j=c6 g.P z (gt r.Bases j))
  (fun s=>s.length=r.Y.length∧ ∀j:Int,0≤j→j.toNat<r.Y.length→gt s j=c6 g.P z (gt r.Bases j)*(gt r.Y j^((g.Q - c)% g.Q).toNat% g.P)% g.P) (fun p=>((r.Y.length:Int) - p.1).toNat) ?_ _ _ ⟨Int.le_refl 0,by show (0:Int)≤_;omega,by simp [hb],fun j a b=>by omega,fun j _ hj=>hW j hj⟩ (Nat.lt_succ_self _)
 rintro ag ⟨i,s⟩ ⟨g0,g1,g2,g3,g4⟩ hag
 simp only at g0 g1 g2 g3 g4 hag
 dsimp only
 by_cases hi:i<(r.Y.length:Int)
 ·rw [if_pos (dT hi),az,az]
  have hyi:=hy _ (aI (l:=r.Y) (i:=i) (by omega))
  have e1:av .i64 g.Q c=g.Q - c:=dc (by omega) (by omega)
  have e2:aQ .i64 (g.Q - c) g.Q=(g.Q - c)% g.Q:=gF (by omega)
  have e3:=fU (x:=g.Q - c) (m:=g.Q) (by omega)
  have hw:=hWr i (by omega)
  rw [e1,e2,wpw hyi.1 hyi.2 (by omega) (by omega) (by omega)]
  dsimp only
  rw [g4 i (by omega) (by omega),Dy hw (fU (by omega)) (by omega)]
  dsimp only
  refine hag _ ⟨by show 0≤i+1;omega,by show i+1≤_;omega,by simp [st,g2],fun j a b=> ?_,fun j a b=> ?_⟩ (by show ((r.Y.length:Int) - (i+1)).toNat<((r.Y.length:Int) - i).toNat;omega)
  ·dsimp only at b⊢
   rw [DH g0 (by omega) a]
   by_cases e:j=i
   ·rw [if_pos e,e]
   ·rw [if_neg e];exact g3 j a (by omega)
  ·dsimp only at a⊢
   rw [DH g0 (by omega) (by omega),if_neg (by omega)]
   exact g4 j (by omega) b
 ·rw [if_neg (dN hi)]
  exact ⟨g2,fun j a b=>g3 j a (by omega)⟩
theorem N6 {s A:List Int} {n:Nat} {V:Int→Int} (hs:s.length=n) (hA:A.length=n) (hv: ∀j:Int,0≤j→j.toNat<n→gt s j=V j) {Y:List Int} (hY:Y.length=n):ny s A=chk (fun i=>V i==gt A i) Y 0:=by
 unfold ny
 rw [if_neg (by simp;omega),show (s.length:Int)=(Y.length:Int) by omega]
 refine xB (fun i=>V i==gt A i) (fun ag i h0 h=> ?_) (fun ag i h=> ?_)
 ·rw [if_pos (dT h),hv i h0 (by omega)]
  by_cases e:V i=gt A i
  ·rw [if_neg (by simpa using e),if_pos (by simpa using e)]
  ·rw [if_pos (by simpa using e),if_neg (by simpa using e)]
 ·rw [if_neg (dN h)]
theorem N7 (g:ao) (r:aH) (p:cu):jz g r p=iH g r p:=by
 unfold jz iH
 simp only [az]
 rw [DD]
 cases hv:eg g r with
 | false=>rfl
 | true=>
  rw [if_neg (show¬((!true)=true) by decide),if_neg (show¬((!true)=true) by decide)]
  have hr:=qg hv
  have hb:=cg hr
  have hG:ef g=true:=by
   rw [qf] at hv
   split at hv
   ·cases hv
   ·rename_i hc
    cases e:ef g with
    | true=>rfl
    | false=>exact absurd (.inl e) hc
  have hg:=tz hG
  have hrows:(∀y∈r.Y,cv g y=true)∧ ∀row∈r.Bases,∀x∈row,cv g x=true:=by
   rw [qf] at hv
   split at hv
   ·cases hv
   ·have h9:=(nU _ _ _ _ hb.2.2.2.2.2.2).1 hv
    exact ⟨h9.1,fun row h x hx=>(h9.2 row h).2 x hx⟩
  by_cases c1:(p.A.length:Int)=(r.Y.length:Int)
  case neg=>
   have d1:((p.A.length:Int) !=(r.Y.length:Int))=true:=by simpa using c1
   rw [if_pos d1,if_pos d1]
  have d1: ¬(((p.A.length:Int) !=(r.Y.length:Int))=true):=by simpa using c1
  rw [if_neg d1,if_neg d1]
  have eu:fc r=eQ r:=rfl
  rw [eu]
  by_cases c2:(p.Z.length:Int)=eQ r
  case neg=>
   have d2:((p.Z.length:Int) !=eQ r)=true:=by simpa using c2
   rw [if_pos d2,if_pos d2]
  have d2: ¬(((p.Z.length:Int) !=eQ r)=true):=by simpa using c2
  rw [if_neg d2,if_neg d2,DE,DE]
  cases c3:gC g p.Z with
  | false=>
   cases gC g [p.C]<;>rfl
  | true=>
   cases c4:gC g [p.C] with
   | false=>rfl
   | true=>
    have ht: ¬((!true)=true):=by decide
    rw [if_neg ht,if_neg ht,if_neg ht,if_neg ht]
    have hz:=xg c3
    have hc:=xg c4 p.C List.mem_cons_self
    have hel: ∀x:Int,cv g x=true→El0 g.P g.Q.toNat x∧0≤x∧x<g.P:=fun x hx=>by
     have:=(xy hg x).1 hx
     exact ⟨this.2.2,by have:=this.1;omega,this.2.1⟩
    have hsim:=N5 hg (r:=r) (c:=p.C) (z:=p.Z) hc (fun y hy=>(hel y (hrows.1 y hy)).2) hb.2.2.2.2.2.2 (fun row h b hb2=>hel b (hrows.2 row h b hb2)) hz
    rw [N6 hsim.1 (by omega) hsim.2 (Y:=r.Y) rfl]
    refine (xB (l:=r.Y) _ (fun ag i h0 h=> ?_) (fun ag i h=> ?_)).symm
    ·rw [if_pos (dT h)]
     have hi:i.toNat<r.Y.length:=by omega
     have hyi:=hel _ (hrows.1 _ (aI hi))
     have hrow: ∀b∈gt r.Bases i,El0 g.P g.Q.toNat b∧0≤b∧b<g.P:=fun b hb2=>hel b (hrows.2 _ (aI (l:=r.Bases) (i:=i) (by omega)) b hb2)
     have hW:=DG (P:=g.P) (q:=g.Q.toNat) (by omega) (z:=p.Z) (row:=gt r.Bases i) (fun b hb2=>(hrow b hb2).1)
     have key:=Nm (P:=g.P) (Q:=g.Q) (c:=p.C) (by omega) hc (A:=gt p.A i) hyi.1 hW.1 hW.2.1 hW.2.2
     by_cases cm:cv g (gt p.A i)=true
     ·have hA:=(xy hg _).1 cm
      rw [if_neg (by rw [cm];decide),qo hyi.2.1 hyi.2.2 (by omega) hc.1,jJ (by have:=hA.1;omega) hA.2.1 (fU (by omega)).1,N3 hg (fun b hb2=>(hrow b hb2).2) hz]
      by_cases e:c6 g.P p.Z (gt r.Bases i)=gt p.A i*(gt r.Y i^p.C.toNat% g.P)% g.P
      ·rw [if_neg (by simpa using e),if_pos (by simpa using (key.2 ⟨⟨hA.1,hA.2.1,hA.2.2⟩,e⟩).symm)]
      ·rw [if_pos (by simpa using e),if_neg (fun h=>e (key.1 (by simpa using (show c6 g.P p.Z (gt r.Bases i)*(gt r.Y i^((g.Q - p.C)% g.Q).toNat% g.P)% g.P=gt p.A i by simpa using h).symm)).2)]
     ·have cm2:cv g (gt p.A i)=false:=by simpa using cm
      rw [if_pos (by rw [cm2];rfl),if_neg (fun h=>cm ((xy hg _).2 ?_))]
      have h3:=(key.1 (show c6 g.P p.Z (gt r.Bases i)*(gt r.Y i^((g.Q - p.C)% g.Q).toNat% g.P)% g.P=gt p.A i by simpa using h).symm).1
      exact h3
    ·rw [if_neg (dN h)]
end Go.Proofs.YtgealhhkngbkbaaGreatDoor
