/- Texts of this proof, one after the other: HT, U6, LO. -/
import Derived.Test.YteibkofekpejgaaGreatDoorZ17
set_option linter.unusedVariables false
set_option linter.unusedSimpArgs false
namespace Go.Proofs.YteibkofekpejgaaGreatDoor
open Go.RowKit
theorem N6 {α:Type} (l:List α) (h:l.length≤1073741824):al .i64 (l.length:Int) 1=(l.length:Int)+1:=aJ (by omega) (by omega)
theorem N7 {m:aw} {x:Bool} (hx:x=iw m) (h:x=true):m.Queue.length≤60:=by
 rw [hx] at h
 unfold iw at h
 obtain ⟨_,h⟩:=ifT h
 have:=of_decide_eq_true (ifT h).1
 omega
theorem zI {m:aw} {x:Bool} (hx:x=iw m) (h:x=true):al .i64 (m.Queue.length:Int) 1=(m.Queue.length:Int)+1:=N6 _ (by have:=N7 hx h;omega)
theorem jv {l:List aA} (h:okQ l) {i:Int} (h0:0≤i) (h1:i<l.length):cI (gt l i):=h _ (bG (by omega))
theorem zJ {b:aX} {l:List bg} {y:Int} {m:aw} {p:aA} {x:aw×Int×Int} (hx:x=cU b l y m p) (hq:okQ m.Queue) (hp:cI p):okQ x.1.Queue:=by
 rw [hx]
 by_cases h:(cU b l y m p).2.2=0
 ·obtain ⟨i,ht⟩:=ut h
  rw [ht.res]
  intro q h9
  have h9:q∈m.Queue++[p]:=h9
  rcases List.mem_append.1 h9 with h9|h9
  ·exact hq q h9
  ·rw [List.mem_singleton.1 h9];exact hp
 ·rw [(Et h).1];exact qv
theorem EE:cI io:=⟨⟨Nat.zero_le _,fun x h=>absurd h List.not_mem_nil⟩,⟨Nat.zero_le _,fun x h=>absurd h List.not_mem_nil⟩,⟨Nat.zero_le _,fun x h=>absurd h List.not_mem_nil⟩⟩
theorem zK {n:aw} {x:aw×aL×aA×Int} (hx:x=cA n) (hq:okQ n.Queue):okQ x.1.Queue:=by
 rw [hx]
 unfold cA
 simp only [aa,qu]
 split
 ·exact qv
 ·split
  ·exact qv
  ·intro p h
   have h:p∈sl n.Queue 1 (n.Queue.length:Int):=h
   rw [sl1] at h
   exact hq p (List.mem_of_mem_drop h)
theorem kG {n:aw} {x:aw×aL×aA×Int} (hx:x=cA n) (hq:okQ n.Queue):cI x.2.2.1:=by
 rw [hx]
 unfold cA
 simp only [aa,qu]
 split
 ·exact EE
 ·split
  ·exact EE
  ·rename_i h
   have h: ¬(n.Queue.length:Int)=0:=by simpa using h
   exact jv hq (Int.le_refl _) (by omega)
end Go.Proofs.YteibkofekpejgaaGreatDoor
namespace Go.Proofs.YteibkofekpejgaaGreatDoor
open Go.RowKit
set_option linter.unusedSimpArgs false
instance (priority:=1069):DRD 12 224 27 [122,123,124,125,126,127,128,129,130,131,132,133,134,135,136,137,138,139,140,141,142,143,144,145,146,147,148] [] ([[],[0],[],[0,1,2],[0,1,2,3],[],[0,1,2,3,4,5],[0,1,2,3,4,5,6],[0,1,2,3,4,5,6,7],[0,1,2,3,4,5,6,7,8],[0,1,2,3,4,5,6,7,8,9],[0,1,2,3,4,5,6,7,8],[0,1,2,3,4,5,6,7,8,9,10,11],[0,1,2,3,4,5,6,7,8,9,10,11,12],[0,1,2,3,4,5,6,7,8,9,10,11,12,13],[0,1,2,3,4,5,6,7,8],[0,1,2,3,4,5,6,7,8,15],[0,1,2,3,4,5,6,7,8,9,10,11,12,13,14,15,16],[0,1,2,3,4,5,6,7,8,9,10,11,12,13,14,15,16,17],[0,1,2,3,4,5,6,7,8,9,10,11,12,13,14,15,16,17,18],[0,1,2,3,4,5,6,7,8,9,10,11,12,13,14,15,16,17,18,19],[0,1,2,3,4,5,6,7,8,9,10,11,12,13,14,15,16,17,18,19,20],[0,1,2,3,4,5,6,7,8,9,10,11,12,13,14,15,16,17,18,19],[0,1,2,3,4,5,6,7,8,9,10,11,12,13,14,15,16,17,18,19,20,21,22],[0,1,2,3,4,5,6,7,8,9,10,11,12,13,14,15,16,17,18,19,20,21,22,23],[0,1,2,3,4,5,6,7,8,9,10,11,12,13,14,15,16,17,18,19,20,21,22,23,24],[0,1,2,3,4,5,6,7,8,9,10,11,12,13,14,15,16,17,18,19]]++[List.range 27,List.range 28]) []:=⟨trivial⟩
set_option maxHeartbeats 2000000 in
set_option maxRecDepth 100000 in
instance N8 (b:aX) (l:(List bg)) (y:Int) (m:aw) (p_:aA) (again:aA):CM En (tU b l y m p_ again) 3 [(bS b),.sl none 11 true (l.map cP),.int .i64 y,(bW m),.agg [.int .i64 p_.Number,.sl none 80 true (p_.Spends.map aM),.sl none 81 true (p_.Chains.map bf),.sl none 5 true (p_.Escrow.map bz)],.agg [.int .i64 again.Number,.sl none 80 true (again.Spends.map aM),.sl none 81 true (again.Chains.map bf),.sl none 5 true (again.Escrow.map bz)]] (fun y=> .bool y) (fun _=> []):=by
 refine enQ noJ Tryz.func3 Tryz.ntmps3 (tU.eq_1 ..) fun r hw=> ?_
 refine ax fun _ _ _ _=> ?_
 refine av fun _ _ _=> ?_
 refine ax fun _ _ _ _=> ?_
 refine av fun _ _ _=> ?_
 refine ax fun _ _ _ _=> ?_
 refine av fun _ _ _=> ?_
 refine ax fun _ _ _ _=> ?_
 refine av fun _ _ _=> ?_
 refine az fun _ _ _=> ?_
 intro hF hM
 replace hM:=ar hM;obtain ⟨x27,hx28,hM⟩:=hM
 have hcx27:=cmH hx28 (zy b l y m p_ (by (first|assumption|exact pfQ)) (by (first|assumption|exact pfQ)) (by (first|assumption|exact pfQ)))
 refine aN hcx27 clQ clQ (fun hw29=> ?_)
 replace hw29:=nzQ hw29
 revert hM;revert hF
 refine slQ ?_
 have hq30:=zJ hx28 (by assumption) (by assumption)
 replace hq30:=nzQ hq30
 have hq31:=zI (by assumption) (by assumption)
 replace hq31:=nzQ hq31
 refine cdQ (fun _ _ _=> ?_) (fun _ _ _=> ?_)
 ·intro hF hM
  replace hM:=ar hM;obtain ⟨x34,hx35,hM⟩:=hM
  have hcx34:=cmH hx35 (Nu (x27.1) (by (first|assumption|exact pfQ)))
  refine aN hcx34 clQ clQ (fun hw36=> ?_)
  replace hw36:=nzQ hw36
  exact auP
 ·refine ax fun _ _ _ _=> ?_
  refine av fun _ _ _=> ?_
  refine av fun _ _ _=> ?_
  refine av fun _ _ _=> ?_
  refine av fun _ _ _=> ?_
  refine az fun _ _ _=> ?_
  intro hF hM
  replace hM:=ar hM;obtain ⟨x54,hx55,hM⟩:=hM
  have hcx54:=cmH hx55 (zy b l y (x27.1) p_ (by (first|assumption|exact pfQ)) (by (first|assumption|exact pfQ)) (by (first|assumption|exact pfQ)))
  refine aN hcx54 clQ clQ (fun hw56=> ?_)
  replace hw56:=nzQ hw56
  revert hM;revert hF
  refine slQ ?_
  have hq57:=zJ hx55 (by assumption) (by assumption)
  replace hq57:=nzQ hq57
  have hq58:=zI (by assumption) (by assumption)
  replace hq58:=nzQ hq58
  refine az fun _ _ _=> ?_
  intro hF hM
  replace hM:=ar hM;obtain ⟨x63,hx64,hM⟩:=hM
  have hcx63:=cmH hx64 (qw (gt x27.1.Queue (m.Queue.length:Int)) p_ (by (first|assumption|exact jv (by assumption) (by omega) (by omega)|exact kG (by assumption) (by assumption))) (by (first|assumption|exact jv (by assumption) (by omega) (by omega)|exact kG (by assumption) (by assumption))))
  refine bA hcx63 (ao hF) (ao hF) ?_
  revert hM;revert hF
  refine slQ ?_
  refine av fun _ _ _=> ?_
  refine av fun _ _ _=> ?_
  refine az fun _ _ _=> ?_
  intro hF hM
  replace hM:=ar hM;obtain ⟨x73,hx74,hM⟩:=hM
  have hcx73:=cmH hx74 (zy b l y (x27.1) again (by (first|assumption|exact pfQ)) (by (first|assumption|exact pfQ)) (by (first|assumption|exact pfQ)))
  refine aN hcx73 (ao hF) (ao hF) (fun hw75=> ?_)
  replace hw75:=nzQ hw75
  revert hM;revert hF
  refine slQ ?_
  have hq76:=zJ hx74 (by assumption) (by assumption)
  replace hq76:=nzQ hq76
  have hq77:=zI (by assumption) (by assumption)
  replace hq77:=nzQ hq77
  intro hF hM
  replace hM:=ar hM;obtain ⟨x78,hx79,hM⟩:=hM
  have hcx78:=cmH hx79 (Nv again p_ (by (first|assumption|exact pfQ)) (by (first|assumption|exact pfQ)))
  refine aN hcx78 (ao hF) (ao hF) (fun hw80=> ?_)
  replace hw80:=nzQ hw80
  revert hM;revert hF
  refine slQ ?_
  refine cdQ (fun _ _ _=> ?_) (fun _ _ _=> ?_)
  ·refine az fun h82 _ _=> ?_
   intro hF hM
   rw [if_neg (bN h82)] at hM
   revert hM;revert hF
   refine slQ ?_
   intro hF hM
   replace hM:=aH hM;obtain ⟨f123,d123,hf123,hd123,hM⟩:=hM
   refine aK (fun n S=> ∃p:Int×aw,S=(⟨[(10,.ptr 2 0),(13,.ptr 4 0),(175,.int .i64 (m.Queue.length:Int)),(176,.int .i64 p.1)],[(2,.var 4 true (br p_)),(4,.var 40 true ((bW p.2)))],34⟩:St)∧(((0≤p.1)∧(p.1≤(m.Queue.length:Int)))∧(okQ (p.2).Queue))∧((m.Queue.length:Int) - p.1).toNat<n∧ae n f123 d123 p=r) (((m.Queue.length:Int) - 0).toNat+1) _ sbQ sbQ ⟨(0,x27.1),rfl,⟨⟨omQ,omQ⟩,by (assumption)⟩,(Nat.lt_succ_self _),hM⟩ ?_
   clear hM
   rintro n123 S ⟨p123,rfl,⟨hfa123,hF20_0⟩,hm123,hM⟩
   replace hM:=aI hM (by omega) hf123;obtain ⟨ag123,hag123,hM⟩:=hM
   replace hfa123:=nzQ hfa123
   replace hm123:=nzQ hm123
   have ha123:al .i64 p123.1 1=p123.1+1:=aJ omQ omQ
   replace hF:=(And.intro ha123 hF)
   revert hM;revert hF
   refine slQ ?_
   refine cdQ (fun _ _ _=> ?_) (fun _ _ _=> ?_)
   ·refine ax fun x126 _ _ _=> ?_
    refine az fun _ _ _=> ?_
    intro hF hM
    refine aE (n123 - 1) _ (by omega) sbQ sbQ ⟨((p123.1+1),x126.1),rfl,⟨⟨omQ,omQ⟩,by (exact zK (by assumption) (by assumption))⟩,omQ,aD hM hag123⟩
   ·refine ax fun x133 _ _ _=> ?_
    refine av fun _ _ _=> ?_
    intro hF hM
    replace hM:=ar hM;obtain ⟨x138,hx139,hM⟩:=hM
    have hcx138:=cmH hx139 (qw (x133.2.2.1) p_ (by (first|assumption|exact jv (by assumption) (by omega) (by omega)|exact kG (by assumption) (by assumption))) (by (first|assumption|exact jv (by assumption) (by omega) (by omega)|exact kG (by assumption) (by assumption))))
    refine aN hcx138 (ao hF) (ao hF) (fun hw140=> ?_)
    replace hw140:=nzQ hw140
    exact auP
  ·refine cdQ (fun _ _ _=> ?_) (fun _ _ _=> ?_)
   ·refine ax fun _ _ _ _=> ?_
    refine az fun _ _ _=> ?_
    intro hF hM
    replace hM:=aH hM;obtain ⟨f163,d163,hf163,hd163,hM⟩:=hM
    refine aK (fun n S=> ∃p:Int×aw,S=(⟨[(10,.ptr 2 0),(13,.ptr 4 0),(175,.int .i64 (m.Queue.length:Int)),(176,.int .i64 p.1)],[(2,.var 4 true (br p_)),(4,.var 40 true ((bW p.2)))],34⟩:St)∧(((0≤p.1)∧(p.1≤(m.Queue.length:Int)))∧(okQ (p.2).Queue))∧((m.Queue.length:Int) - p.1).toNat<n∧ae n f163 d163 p=r) (((m.Queue.length:Int) - 0).toNat+1) _ sbQ sbQ ⟨(0,x27.1),rfl,⟨⟨omQ,omQ⟩,by (assumption)⟩,(Nat.lt_succ_self _),hM⟩ ?_
    clear hM
    rintro n163 S ⟨p163,rfl,⟨hfa163,hF20_0⟩,hm163,hM⟩
    replace hM:=aI hM (by omega) hf163;obtain ⟨ag163,hag163,hM⟩:=hM
    replace hfa163:=nzQ hfa163
    replace hm163:=nzQ hm163
    have ha163:al .i64 p163.1 1=p163.1+1:=aJ omQ omQ
    replace hF:=(And.intro ha163 hF)
    revert hM;revert hF
    refine slQ ?_
    refine cdQ (fun _ _ _=> ?_) (fun _ _ _=> ?_)
    ·refine ax fun x166 _ _ _=> ?_
     refine az fun _ _ _=> ?_
     intro hF hM
     refine aE (n163 - 1) _ (by omega) sbQ sbQ ⟨((p163.1+1),x166.1),rfl,⟨⟨omQ,omQ⟩,by (exact zK (by assumption) (by assumption))⟩,omQ,aD hM hag163⟩
    ·refine ax fun x173 _ _ _=> ?_
     refine av fun _ _ _=> ?_
     intro hF hM
     replace hM:=ar hM;obtain ⟨x178,hx179,hM⟩:=hM
     have hcx178:=cmH hx179 (qw (x173.2.2.1) p_ (by (first|assumption|exact jv (by assumption) (by omega) (by omega)|exact kG (by assumption) (by assumption))) (by (first|assumption|exact jv (by assumption) (by omega) (by omega)|exact kG (by assumption) (by assumption))))
     refine aN hcx178 (ao hF) (ao hF) (fun hw180=> ?_)
     replace hw180:=nzQ hw180
     exact auP
   ·intro hF hM
    replace hM:=aH hM;obtain ⟨f195,d195,hf195,hd195,hM⟩:=hM
    refine aK (fun n S=> ∃p:Int×aw,S=(⟨[(10,.ptr 2 0),(13,.ptr 4 0),(175,.int .i64 (m.Queue.length:Int)),(176,.int .i64 p.1)],[(2,.var 4 true (br p_)),(4,.var 40 true ((bW p.2)))],34⟩:St)∧(((0≤p.1)∧(p.1≤(m.Queue.length:Int)))∧(okQ (p.2).Queue))∧((m.Queue.length:Int) - p.1).toNat<n∧ae n f195 d195 p=r) (((m.Queue.length:Int) - 0).toNat+1) _ sbQ sbQ ⟨(0,x27.1),rfl,⟨⟨omQ,omQ⟩,by (assumption)⟩,(Nat.lt_succ_self _),hM⟩ ?_
    clear hM
    rintro n195 S ⟨p195,rfl,⟨hfa195,hF20_0⟩,hm195,hM⟩
    replace hM:=aI hM (by omega) hf195;obtain ⟨ag195,hag195,hM⟩:=hM
    replace hfa195:=nzQ hfa195
    replace hm195:=nzQ hm195
    have ha195:al .i64 p195.1 1=p195.1+1:=aJ omQ omQ
    replace hF:=(And.intro ha195 hF)
    revert hM;revert hF
    refine slQ ?_
    refine cdQ (fun _ _ _=> ?_) (fun _ _ _=> ?_)
    ·refine ax fun x198 _ _ _=> ?_
     refine az fun _ _ _=> ?_
     intro hF hM
     refine aE (n195 - 1) _ (by omega) sbQ sbQ ⟨((p195.1+1),x198.1),rfl,⟨⟨omQ,omQ⟩,by (exact zK (by assumption) (by assumption))⟩,omQ,aD hM hag195⟩
    ·refine ax fun x205 _ _ _=> ?_
     refine av fun _ _ _=> ?_
     intro hF hM
     replace hM:=ar hM;obtain ⟨x210,hx211,hM⟩:=hM
     have hcx210:=cmH hx211 (qw (x205.2.2.1) p_ (by (first|assumption|exact jv (by assumption) (by omega) (by omega)|exact kG (by assumption) (by assumption))) (by (first|assumption|exact jv (by assumption) (by omega) (by omega)|exact kG (by assumption) (by assumption))))
     refine aN hcx210 (ao hF) (ao hF) (fun hw212=> ?_)
     replace hw212:=nzQ hw212
     exact auP
end Go.Proofs.YteibkofekpejgaaGreatDoor
namespace Go.Proofs.YteibkofekpejgaaGreatDoor
open Go.RowKit
theorem EF {α:Type} [Inhabited α] {l:List α} {x:α} {k:Nat} (h:l.length=k):gt (l++[x]) (k:Int)=x:=by
 rw [cq (by rw [List.length_append,List.length_singleton];omega)]
 subst h
 simp
theorem N9 {b:aX} {l:List bg} {y:Int} {m:aw} {p:aA} {i:Nat} {a:Int} (ha:a=(cQ b l y (gt m.Open (i:Int)) p).1) (h:fm b l y m p i):
  VP (eV m p i a)∧((eV m p i a).Queue.length:Int)=al .i64 (m.Queue.length:Int) 1∧((eV m p i a).Open.length:Int)=aB .i64 (m.Open.length:Int) 1∧(cU b l y (eV m p i a) p).2.2=7∧gt (eV m p i a).Queue (m.Queue.length:Int)=p∧gt (eV m p i a).Paid (m.Queue.length:Int)=gt m.Open (i:Int)∧(eV m p i a).Queue.length=m.Queue.length+1:=by
 subst ha
 have hl:=h.vp.len
 have hlt:=h.lt
 have e1:(m.Queue++[p]).length=m.Queue.length+1:=by rw [List.length_append,List.length_singleton]
 have e2:(m.Open.take i++m.Open.drop (i+1)).length=m.Open.length - 1:=by rw [List.length_append,List.length_take,List.length_drop];omega
 refine ⟨h.after,?_,?_,?_,EF rfl,EF hl.2.2.1,e1⟩
 ·show ((m.Queue++[p]).length:Int)=_
  rw [e1,aJ (by omega) (by omega)];omega
 ·show ((m.Open.take i++m.Open.drop (i+1)).length:Int)=_
  rw [e2,dv (by omega) (by omega)];omega
 ·rw [zE (me.2 h.after) h.gone]
theorem N_ (b:aX) (l:List bg) (y:Int) (m:aw) (p:aA) (again:aA):tU b l y m p again=true:=by
 unfold tU
 rw [bF,NT,if_neg (by decide),bF]
 cases h1:iw m with
 | false=>rw [if_pos (by decide),bF]
 | true=>
 rw [if_neg (by decide),bF]
 cases h2:iv p with
 | false=>rw [if_pos (by decide),bF]
 | true=>
 rw [if_neg (by decide),bF]
 cases h3:iv again with
 | false=>rw [if_pos (by decide),bF]
 | true=>
 rw [if_neg (by decide)]
 by_cases h4:(l.length:Int)>60
 ·rw [if_pos (decide_eq_true h4),bF]
 rw [if_neg (by simpa using h4),bF]
 by_cases h5:(cU b l y m p).2.2=0
 rotate_left
 ·obtain ⟨e1,e2⟩:=Et h5
  rw [if_pos (by simpa using h5),bF,e1,NQ,if_pos rfl,e2];rfl
 rw [if_neg (by simp [h5])]
 obtain ⟨i,ht⟩:=ut h5
 have hamt:=ht.amt
 rw [ht.res]
 simp only
 generalize ha:(cQ b l y (gt m.Open (i:Int)) p).1=a at hamt
 obtain ⟨hv,q1,q2,q3,q4,q5,q6⟩:=N9 ha.symm ht
 have hT:(eV m p i a).Total=al .i64 m.Total a:=rfl
 have hmem:p∈(eV m p i a).Queue:=by show p∈m.Queue++[p];simp
 generalize eV m p i a=n at hv q1 q2 q3 q4 q5 q6 hT hmem
 have hnum:=ht.num
 have hlast: ∀{F:(Int×aw→Bool)→Int×aw→Bool} {d:Int×aw→Bool},(∀ag q,F ag q=(if (decide (q.1<(m.Queue.length:Int))) then (aa (cA (q.2)) (fun x91=>(if (x91.2.2.2 !=0) then false else (ag ((q.1+1),x91.1))))) else (aa (cA (q.2)) (fun x98=>(if (x98.2.2.2 !=0) then false else (aa (fG (x98.2.2.1) p) (fun (x103:Bool)=>(if (!x103) then false else (if (x98.2.1.Number !=p.Number) then false else (if (x98.1.Total !=0) then false else (aa (cA (x98.1)) (fun x113=>(x113.2.2.2==7)))))))))))))
   →ae (((m.Queue.length:Int) - 0).toNat+1) F d (0,n)=true:=fun hF=>N5 hv rfl q6 q4 (by rw [q5];exact hnum) hF
 rw [bF,me.2 hv,if_neg (by decide),if_neg (by simp [hT]),if_neg (by simp [q1]),if_neg (by rw [hv.len.2.2.1];simp),if_neg (by simp [q2]),bF,if_neg (by rw [q3];decide),bF,q4,zC,if_neg (by decide),q5,if_neg (by simp [hnum]),if_neg (by simp [hamt]),bF,bF]
 by_cases h6:(cU b l y n again).2.2=0
 ·cases hU:kv again p with
  | true=>exact (N3 hmem h6 hU).elim
  | false=>
   rw [if_neg (by decide),if_pos (by simp [h6]),bF]
   obtain ⟨j,hj⟩:=ut h6
   rw [hj.res]
   simp only
   rw [me.2 hj.after,if_neg (by decide)]
   exact hlast fun _ _=>rfl
 ·have h7:((cU b l y n again).2.2==0)=false:=by simpa using h6
  rw [h7]
  cases kv again p with
  | true=>
   rw [if_pos rfl,if_neg (by decide),if_neg (by decide)]
   exact hlast fun _ _=>rfl
  | false=>
   rw [if_neg (by decide),if_neg (by decide)]
   exact hlast fun _ _=>rfl
end Go.Proofs.YteibkofekpejgaaGreatDoor
