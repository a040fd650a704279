/- Texts of this proof, one after the other: U2, U3. -/
import Derived.Test.YtlmleoeemmhboaaGreatDoorZ9
set_option linter.unusedVariables false
set_option linter.unusedSimpArgs false
namespace Go.Proofs.YtlmleoeemmhboaaGreatDoor
open Go.RowKit
set_option linter.unusedSimpArgs false
set_option maxHeartbeats 2000000 in
set_option maxRecDepth 100000 in
theorem vq (z0:Option Bool) (out:(List Int)) (n_:Int) (size:Int) (hp0:size≤8) (hp1:out.length≤1000000000) (hp2:0≤size):cV En 120 [.own 0,.int .u64 n_,.int .i64 size] [.own 5 1 false z0 (out.map (V.int .u8))] (.own 0) [.own 5 1 false none ((je out n_ size).map (V.int .u8))] []:=by
 generalize hM:je out n_ size=r
 rw [je.eq_1] at hM
 refine iA aA aK noJ Tryz.func120 rfl Tryz.ntmps120 (by kernel_rfl) rfl fun ks hw hwB=>aL ?_
 refine spQ ?_
 replace hw:=nzQ hw
 try simp only [fv,wfB,decide_eq_true_eq,decide_eq_false_iff_not,Bool.and_eq_true,Bool.or_eq_true,Bool.not_eq_true',Bool.not_eq_false',beq_iff_eq,bne_iff_ne,beq_eq_false_iff_ne,bne_eq_false_iff_eq,ne_eq,Int.not_lt,Int.not_le,gt_iff_lt,ge_iff_le,List.length_map,wfL,wfV,and_true,true_and,dm,dn,fI,fJ,fK,eW,eG,List.length_append,List.length_cons,List.length_nil,List.length_replicate,az,fb,fc,fd,bS,eY,eX] at hwB
 have ha1:aD .i64 size 1=(size - 1):=fp omQ omQ
 try simp only [ha1]
 have hM0:=hM;clear hM;obtain ⟨f2,d2,hf2,hd2,hM⟩:=bd hM0;clear hM0
 refine bF (fun n S=> ∃p:Int×List Int,S=(⟨[(0,.own 0),(1,.int .u64 n_),(7,.int .i64 p.1)],[(0,.own 5 1 false none (p.2.map (V.int .u8)))],1⟩:St)∧((-1≤p.1)∧(p.1<8)∧(((p.2).length:Int)+p.1≤1000000020))∧(p.1+1).toNat<n∧ao n f2 d2 p=r) (((size - 1)+1).toNat+1) _ sbQ sbQ ⟨((size - 1),out),rfl,⟨omQ,omQ,omQ⟩,(Nat.lt_succ_self _),hM⟩ ?_
 clear hM
 rintro n2 S ⟨p2,rfl,hfa2,hm2,hM⟩
 have hM0:=hM;clear hM;obtain ⟨ag2,hag2,hM⟩:=bf hM0 (by omega) hf2;clear hM0
 replace hfa2:=nzQ hfa2
 replace hm2:=nzQ hm2
 refine aa ha1 ?_
 refine aB (fun h3=> ?_) (fun h3=> ?_)
 ·rw [if_pos h3] at hM
  refine aa (And.intro ha1 h3) ?_
  have nh3:=nzQ h3
  try have hr4:=mpQ nh3
  obtain ⟨ha5,hbha5⟩:=nR (a:=8) (b:=p2.1) 8 8 64 omQ omQ omQ omQ (by decide) (by decide)
  try simp only [ha5]
  refine aN omQ ?_
  refine aa (And.intro ha1 ha5) ?_
  refine aN omQ ?_
  refine aa (And.intro ha1 ha5) ?_
  have ha6:aD .i64 p2.1 1=(p2.1 - 1):=fp omQ omQ
  try simp only [ha6]
  refine b_ (n2 - 1) _ (by omega) sbQ sbQ ⟨((p2.1 - 1),(p2.2++([(ae .u8 (au .u64 n_ (8*p2.1)))]:List Int))),rfl,⟨omQ,omQ,omQ⟩,omQ,ca hM hag2⟩
 ·rw [if_neg (an h3)] at hM
  refine aa (And.intro ha1 h3) ?_
  have nh3:=nzQ h3
  try have hr7:=mpQ nh3
  subst hM
  exact cM [0] (by simp only [go_sem,aE,aF,List.length_replicate,az,Int.toNat_natCast,↓reduceIte,Nat.reduceEqDiff,Nat.reduceAdd,Int.reduceAdd,Nat.reduceMul,Nat.reduceLeDiff,Nat.reduceLT,Int.reduceLE,Int.reduceLT,Int.reduceNeg,Int.reduceToNat,mt,mtL,aH,aG,mtZ,and_self,eq_self,or_true,true_or,a7,ha1,aZ,a6,Int.reduceSub,or_self,h3]) (by decide) (by simp only [go_sem,aE,aF,List.length_replicate,az,Int.toNat_natCast,↓reduceIte,Nat.reduceEqDiff,Nat.reduceAdd,Int.reduceAdd,Nat.reduceMul,Nat.reduceLeDiff,Nat.reduceLT,Int.reduceLE,Int.reduceLT,Int.reduceNeg,Int.reduceToNat,mt,mtL,aH,aG,mtZ,and_self,eq_self,or_true,true_or,a7,ha1,aZ,a6,Int.reduceSub,or_self,h3])
set_option maxHeartbeats 2000000 in
set_option maxRecDepth 100000 in
theorem IC (N:Nat) (ih: ∀(z0:Option Bool) (out:(List Int)) (i_:ab),(hgt i_≤500000000)→hgt i_<N→cV En 77 [.own 0,.agg [.int .i64 i_.Kind,.int .i64 i_.N,.sl none 1 false (i_.B.map (V.int .u8)),.sl none 4 true (i_.L.map aw)]] [.own 5 1 false z0 (out.map (V.int .u8))] (.own 0) [.own 5 1 false none ((eN out i_).map (V.int .u8))] []) (z0:Option Bool) (out:(List Int)) (i_:ab) (hp0:hgt i_≤500000000) (hp_:hgt i_<N+1):cV En 77 [.own 0,.agg [.int .i64 i_.Kind,.int .i64 i_.N,.sl none 1 false (i_.B.map (V.int .u8)),.sl none 4 true (i_.L.map aw)]] [.own 5 1 false z0 (out.map (V.int .u8))] (.own 0) [.own 5 1 false none ((oA out i_).map (V.int .u8))] []:=by
 generalize hM:oA out i_=r
 rw [oA.eq_1] at hM
 refine iA aA aK noJ Tryz.func77 rfl Tryz.ntmps77 (by kernel_rfl) rfl fun ks hw hwB=>aL ?_
 refine spQ ?_
 replace hw:=nzQ hw
 try simp only [fv,wfB,decide_eq_true_eq,decide_eq_false_iff_not,Bool.and_eq_true,Bool.or_eq_true,Bool.not_eq_true',Bool.not_eq_false',beq_iff_eq,bne_iff_ne,beq_eq_false_iff_ne,bne_eq_false_iff_eq,ne_eq,Int.not_lt,Int.not_le,gt_iff_lt,ge_iff_le,List.length_map,wfL,wfV,and_true,true_and,dm,dn,fI,fJ,fK,eW,eG,List.length_append,List.length_cons,List.length_nil,List.length_replicate,az,fb,fc,fd,bS,eY,eX] at hwB
 refine aB (fun h1=> ?_) (fun h1=> ?_)
 ·rw [if_pos h1] at hM
  refine aa h1 ?_
  have nh1:=nzQ h1
  try have hr2:=mpQ nh1
  subst hM
  exact cM [0] (by simp only [go_sem,aE,aF,List.length_replicate,az,Int.toNat_natCast,↓reduceIte,Nat.reduceEqDiff,Nat.reduceAdd,Int.reduceAdd,Nat.reduceMul,Nat.reduceLeDiff,Nat.reduceLT,Int.reduceLE,Int.reduceLT,Int.reduceNeg,Int.reduceToNat,mt,mtL,aH,aG,mtZ,and_self,eq_self,or_true,true_or,a7,aZ,a6,Int.reduceSub,or_self,h1]) (by decide) (by simp only [go_sem,aE,aF,List.length_replicate,az,Int.toNat_natCast,↓reduceIte,Nat.reduceEqDiff,Nat.reduceAdd,Int.reduceAdd,Nat.reduceMul,Nat.reduceLeDiff,Nat.reduceLT,Int.reduceLE,Int.reduceLT,Int.reduceNeg,Int.reduceToNat,mt,mtL,aH,aG,mtZ,and_self,eq_self,or_true,true_or,a7,aZ,a6,Int.reduceSub,or_self,h1])
 ·rw [if_neg (an h1)] at hM
  refine aa h1 ?_
  have nh1:=nzQ h1
  try have hr3:=mpQ nh1
  refine aN (by (first|exact omQ|(clear hM;first|(have h9:=gx i_;exact ah)))) ?_
  refine spQ ?_
  refine aB (fun h4=> ?_) (fun h4=> ?_)
  ·rw [if_pos h4] at hM
   refine aa h4 ?_
   have nh4:=nzQ h4
   try have hr5:=mpQ nh4
   have hM0:=hM;clear hM;obtain ⟨x6,hx7,hM⟩:=ay hM0;clear hM0
   have hcx6:=vq (some false) (out++([(ae .u8 i_.Kind)]:List Int)) (ae .u64 i_.N) 8 (by (exact pfQ)) (by (exact pfQ)) (by (exact pfQ))
   rw [←hx7] at hcx6
   refine dK [0] hcx6 (by decide) (by simp only [go_sem,aE,aF,List.length_replicate,az,Int.toNat_natCast,↓reduceIte,Nat.reduceEqDiff,Nat.reduceAdd,Int.reduceAdd,Nat.reduceMul,Nat.reduceLeDiff,Nat.reduceLT,Int.reduceLE,Int.reduceLT,Int.reduceNeg,Int.reduceToNat,mt,mtL,aH,aG,mtZ,and_self,eq_self,or_true,true_or]) (by simp only [go_sem,aE,aF,List.length_replicate,az,Int.toNat_natCast,↓reduceIte,Nat.reduceEqDiff,Nat.reduceAdd,Int.reduceAdd,Nat.reduceMul,Nat.reduceLeDiff,Nat.reduceLT,Int.reduceLE,Int.reduceLT,Int.reduceNeg,Int.reduceToNat,mt,mtL,aH,aG,mtZ,and_self,eq_self,or_true,true_or]) (fun hw8=> ?_)
   replace hw8:=nzQ hw8
   refine spQ ?_
   have hq9:=vc hx7
   replace hq9:=nzQ hq9
   subst hM
   exact cM [0] (by simp only [go_sem,aE,aF,List.length_replicate,az,Int.toNat_natCast,↓reduceIte,Nat.reduceEqDiff,Nat.reduceAdd,Int.reduceAdd,Nat.reduceMul,Nat.reduceLeDiff,Nat.reduceLT,Int.reduceLE,Int.reduceLT,Int.reduceNeg,Int.reduceToNat,mt,mtL,aH,aG,mtZ,and_self,eq_self,or_true,true_or,a7,aZ,a6,Int.reduceSub,or_self,h1,h4]) (by decide) (by simp only [go_sem,aE,aF,List.length_replicate,az,Int.toNat_natCast,↓reduceIte,Nat.reduceEqDiff,Nat.reduceAdd,Int.reduceAdd,Nat.reduceMul,Nat.reduceLeDiff,Nat.reduceLT,Int.reduceLE,Int.reduceLT,Int.reduceNeg,Int.reduceToNat,mt,mtL,aH,aG,mtZ,and_self,eq_self,or_true,true_or,a7,aZ,a6,Int.reduceSub,or_self,h1,h4])
  ·rw [if_neg (an h4)] at hM
   refine aa h4 ?_
   have nh4:=nzQ h4
   try have hr10:=mpQ nh4
   refine aB (fun h11=> ?_) (fun h11=> ?_)
   ·rw [if_pos h11] at hM
    refine aa h11 ?_
    have nh11:=nzQ h11
    try have hr12:=mpQ nh11
    refine cG 55 8 [28,29,30,31,32,33,34,35] [] ([[],[],[1],[1,2],[1,2,3],[0,1,2,3,4],[],[6]]++[List.range 8,List.range 9]) [(5,0)] (by kernel_rfl) (by exact alQ) ?_
    refine spQ ?_
    have hM0:=hM;clear hM;obtain ⟨x13,hx14,hM⟩:=ay hM0;clear hM0
    have hcx13:=vq (some false) (out++([(ae .u8 i_.Kind)]:List Int)) (ae .u64 (i_.B.length:Int)) 4 (by (exact pfQ)) (by (exact pfQ)) (by (exact pfQ))
    rw [←hx14] at hcx13
    refine Gg 0 hcx13 (by simp only [go_sem,aE,aF,List.length_replicate,az,Int.toNat_natCast,↓reduceIte,Nat.reduceEqDiff,Nat.reduceAdd,Int.reduceAdd,Nat.reduceMul,Nat.reduceLeDiff,Nat.reduceLT,Int.reduceLE,Int.reduceLT,Int.reduceNeg,Int.reduceToNat,mt,mtL,aH,aG,mtZ,and_self,eq_self,or_true,true_or]) (by simp only [go_sem,aE,aF,List.length_replicate,az,Int.toNat_natCast,↓reduceIte,Nat.reduceEqDiff,Nat.reduceAdd,Int.reduceAdd,Nat.reduceMul,Nat.reduceLeDiff,Nat.reduceLT,Int.reduceLE,Int.reduceLT,Int.reduceNeg,Int.reduceToNat,mt,mtL,aH,aG,mtZ,and_self,eq_self,or_true,true_or]) (by simp only [go_sem,aE,aF,List.length_replicate,az,Int.toNat_natCast,↓reduceIte,Nat.reduceEqDiff,Nat.reduceAdd,Int.reduceAdd,Nat.reduceMul,Nat.reduceLeDiff,Nat.reduceLT,Int.reduceLE,Int.reduceLT,Int.reduceNeg,Int.reduceToNat,mt,mtL,aH,aG,mtZ,and_self,eq_self,or_true,true_or]) (yL fun _=>(by simp only [go_sem,aE,aF,List.length_replicate,az,Int.toNat_natCast,↓reduceIte,Nat.reduceEqDiff,Nat.reduceAdd,Int.reduceAdd,Nat.reduceMul,Nat.reduceLeDiff,Nat.reduceLT,Int.reduceLE,Int.reduceLT,Int.reduceNeg,Int.reduceToNat,mt,mtL,aH,aG,mtZ,and_self,eq_self,or_true,true_or])) ?_
    refine spQ ?_
    have hq15:=vc hx14
    replace hq15:=nzQ hq15
    refine aN (by (first|exact omQ|(clear hM;first|(have h9:=gx i_;exact ah)))) ?_
    refine spQ ?_
    subst hM
    exact cM [8] (by simp only [go_sem,aE,aF,List.length_replicate,az,Int.toNat_natCast,↓reduceIte,Nat.reduceEqDiff,Nat.reduceAdd,Int.reduceAdd,Nat.reduceMul,Nat.reduceLeDiff,Nat.reduceLT,Int.reduceLE,Int.reduceLT,Int.reduceNeg,Int.reduceToNat,mt,mtL,aH,aG,mtZ,and_self,eq_self,or_true,true_or,a7,aZ,a6,Int.reduceSub,or_self,h1,h4,h11]) (by decide) (by simp only [go_sem,aE,aF,List.length_replicate,az,Int.toNat_natCast,↓reduceIte,Nat.reduceEqDiff,Nat.reduceAdd,Int.reduceAdd,Nat.reduceMul,Nat.reduceLeDiff,Nat.reduceLT,Int.reduceLE,Int.reduceLT,Int.reduceNeg,Int.reduceToNat,mt,mtL,aH,aG,mtZ,and_self,eq_self,or_true,true_or,a7,aZ,a6,Int.reduceSub,or_self,h1,h4,h11])
   ·rw [if_neg (an h11)] at hM
    refine aa h11 ?_
    have nh11:=nzQ h11
    try have hr16:=mpQ nh11
    have hM0:=hM;clear hM;obtain ⟨x17,hx18,hM⟩:=ay hM0;clear hM0
    have hcx17:=vq (some false) (out++([(ae .u8 i_.Kind)]:List Int)) (ae .u64 (i_.L.length:Int)) 4 (by (exact pfQ)) (by (exact pfQ)) (by (exact pfQ))
    rw [←hx18] at hcx17
    refine dK [0] hcx17 (by decide) (by simp only [go_sem,aE,aF,List.length_replicate,az,Int.toNat_natCast,↓reduceIte,Nat.reduceEqDiff,Nat.reduceAdd,Int.reduceAdd,Nat.reduceMul,Nat.reduceLeDiff,Nat.reduceLT,Int.reduceLE,Int.reduceLT,Int.reduceNeg,Int.reduceToNat,mt,mtL,aH,aG,mtZ,and_self,eq_self,or_true,true_or]) (by simp only [go_sem,aE,aF,List.length_replicate,az,Int.toNat_natCast,↓reduceIte,Nat.reduceEqDiff,Nat.reduceAdd,Int.reduceAdd,Nat.reduceMul,Nat.reduceLeDiff,Nat.reduceLT,Int.reduceLE,Int.reduceLT,Int.reduceNeg,Int.reduceToNat,mt,mtL,aH,aG,mtZ,and_self,eq_self,or_true,true_or]) (fun hw19=> ?_)
    replace hw19:=nzQ hw19
    refine spQ ?_
    have hq20:=vc hx18
    replace hq20:=nzQ hq20
    have hM0:=hM;clear hM;obtain ⟨f21,d21,hf21,hd21,hM⟩:=bd hM0;clear hM0
    refine bF (fun n S=> ∃p:Int×List Int,S=(⟨[(0,.own 0),(44,.sl none 4 true (i_.L.map aw)),(45,.int .i64 (i_.L.length:Int)),(46,.int .i64 p.1)],[(0,.own 5 1 false none (p.2.map (V.int .u8)))],3⟩:St)∧((0≤p.1)∧(p.1≤(i_.L.length:Int)))∧((i_.L.length:Int) - p.1).toNat<n∧ao n f21 d21 p=r) (((i_.L.length:Int) - 0).toNat+1) _ sbQ sbQ ⟨(0,x17),rfl,⟨by (first|exact omQ|(clear hM;first|(have h9:=gx i_;exact ah))),by (first|exact omQ|(clear hM;first|(have h9:=gx i_;exact ah)))⟩,(Nat.lt_succ_self _),hM⟩ ?_
    clear hM
    rintro n21 S ⟨p21,rfl,hfa21,hm21,hM⟩
    have hM0:=hM;clear hM;obtain ⟨ag21,hag21,hM⟩:=bf hM0 (by omega) hf21;clear hM0
    replace hfa21:=nzQ hfa21
    replace hm21:=nzQ hm21
    have ha21:aq .i64 p21.1 1=p21.1+1:=bp (by (first|exact omQ|(clear hM;first|(have h9:=gx i_;exact ah)))) (by (first|exact omQ|(clear hM;first|(have h9:=gx i_;exact ah))))
    refine aa ha21 ?_
    refine aB (fun h22=> ?_) (fun h22=> ?_)
    ·rw [if_pos h22] at hM
     refine aa (And.intro ha21 h22) ?_
     have nh22:=nzQ h22
     try have hr23:=mpQ nh22
     refine aN (by (first|exact omQ|(clear hM;first|(have h9:=gx i_;exact ah)))) ?_
     have he24:=fun d=>aV (l:=i_.L) (f:=aw) (i:=p21.1) (by (first|exact omQ|(clear hM;first|(have h9:=gx i_;exact ah)))) d
     refine aa (And.intro ha21 he24) ?_
     have hM0:=hM;clear hM;obtain ⟨x25,hx26,hM⟩:=ay hM0;clear hM0
     have hcx25:=ih none (p21.2) (gt i_.L p21.1) (by (have h9:=q6 (i:=i_) (dN (l:=i_.L) (i:=p21.1) (by omega));omega)) (by (have h9:=q6 (i:=i_) (dN (l:=i_.L) (i:=p21.1) (by omega));omega))
     rw [←hx26] at hcx25
     refine dK [0] hcx25 (by decide) (by simp only [go_sem,aE,aF,List.length_replicate,az,Int.toNat_natCast,↓reduceIte,Nat.reduceEqDiff,Nat.reduceAdd,Int.reduceAdd,Nat.reduceMul,Nat.reduceLeDiff,Nat.reduceLT,Int.reduceLE,Int.reduceLT,Int.reduceNeg,Int.reduceToNat,mt,mtL,aH,aG,mtZ,and_self,eq_self,or_true,true_or,ha21,he24]) (by simp only [go_sem,aE,aF,List.length_replicate,az,Int.toNat_natCast,↓reduceIte,Nat.reduceEqDiff,Nat.reduceAdd,Int.reduceAdd,Nat.reduceMul,Nat.reduceLeDiff,Nat.reduceLT,Int.reduceLE,Int.reduceLT,Int.reduceNeg,Int.reduceToNat,mt,mtL,aH,aG,mtZ,and_self,eq_self,or_true,true_or,ha21,he24]) (fun hw27=> ?_)
     replace hw27:=nzQ hw27
     refine aa (And.intro ha21 he24) ?_
     refine b_ (n21 - 1) _ (by omega) sbQ sbQ ⟨((p21.1+1),x25),rfl,⟨by (first|exact omQ|(clear hM;first|(have h9:=gx i_;exact ah))),by (first|exact omQ|(clear hM;first|(have h9:=gx i_;exact ah)))⟩,by (first|exact omQ|(clear hM;first|(have h9:=gx i_;exact ah))),ca hM hag21⟩
    ·rw [if_neg (an h22)] at hM
     refine aa (And.intro ha21 h22) ?_
     have nh22:=nzQ h22
     try have hr28:=mpQ nh22
     subst hM
     exact cM [0] (by simp only [go_sem,aE,aF,List.length_replicate,az,Int.toNat_natCast,↓reduceIte,Nat.reduceEqDiff,Nat.reduceAdd,Int.reduceAdd,Nat.reduceMul,Nat.reduceLeDiff,Nat.reduceLT,Int.reduceLE,Int.reduceLT,Int.reduceNeg,Int.reduceToNat,mt,mtL,aH,aG,mtZ,and_self,eq_self,or_true,true_or,a7,ha21,aZ,a6,Int.reduceSub,or_self,h1,h4,h11,h22]) (by decide) (by simp only [go_sem,aE,aF,List.length_replicate,az,Int.toNat_natCast,↓reduceIte,Nat.reduceEqDiff,Nat.reduceAdd,Int.reduceAdd,Nat.reduceMul,Nat.reduceLeDiff,Nat.reduceLT,Int.reduceLE,Int.reduceLT,Int.reduceNeg,Int.reduceToNat,mt,mtL,aH,aG,mtZ,and_self,eq_self,or_true,true_or,a7,ha21,aZ,a6,Int.reduceSub,or_self,h1,h4,h11,h22])
theorem ID: ∀(N:Nat) (z0:Option Bool) (out:(List Int)) (i_:ab),(hgt i_≤500000000)→hgt i_<N→cV En 77 [.own 0,.agg [.int .i64 i_.Kind,.int .i64 i_.N,.sl none 1 false (i_.B.map (V.int .u8)),.sl none 4 true (i_.L.map aw)]] [.own 5 1 false z0 (out.map (V.int .u8))] (.own 0) [.own 5 1 false none ((eN out i_).map (V.int .u8))] []:=by
 intro N
 induction N with
 | zero=>intro z0 out i_ h0 h;exact absurd h (Nat.not_lt_zero _)
 | succ N ih=>
  intro z0 out i_ h0 h
  have h9:=IC N ih z0 out i_ h0 h
  rw [Ht] at h9
  exact h9
theorem IE (z0:Option Bool) (out:(List Int)) (i_:ab) (hp0:hgt i_≤500000000):cV En 77 [.own 0,.agg [.int .i64 i_.Kind,.int .i64 i_.N,.sl none 1 false (i_.B.map (V.int .u8)),.sl none 4 true (i_.L.map aw)]] [.own 5 1 false z0 (out.map (V.int .u8))] (.own 0) [.own 5 1 false none ((eN out i_).map (V.int .u8))] []:=
 ID (hgt i_+1) z0 out i_ hp0 (Nat.lt_succ_self _)
set_option maxHeartbeats 2000000 in
set_option maxRecDepth 100000 in
theorem IF (i_:ab) (hp0:hgt i_≤500000000):CM En (gW i_) 35 [.agg [.int .i64 i_.Kind,.int .i64 i_.N,.sl none 1 false (i_.B.map (V.int .u8)),.sl none 4 true (i_.L.map aw)]] (fun y=> .tup [.sl none 1 false (y.1.map (V.int .u8)),.int .i64 y.2]) (fun _=> []):=by
 refine cmQ fun r hM=> ?_
 rw [gW.eq_1] at hM
 refine aO aA aK noJ Tryz.func35 rfl Tryz.ntmps35 (by kernel_rfl) fun hw=>aL ?_
 refine spQ ?_
 replace hw:=nzQ hw
 have hM0:=hM;clear hM;obtain ⟨x1,hx2,hM⟩:=ay hM0;clear hM0
 have hcx1:=cmU hx2
 refine aQ hcx1 clQ clQ (fun hw3=> ?_)
 replace hw3:=nzQ hw3
 refine spQ ?_
 refine aB (fun h4=> ?_) (fun h4=> ?_)
 ·rw [if_pos h4] at hM
  refine aa h4 ?_
  have nh4:=nzQ h4
  try have hr5:=mpQ nh4
  subst hM
  exact ar (av h4)
 ·rw [if_neg (an h4)] at hM
  refine aa h4 ?_
  have nh4:=nzQ h4
  try have hr6:=mpQ nh4
  have hM0:=hM;clear hM;obtain ⟨x7,hx8,hM⟩:=ay hM0;clear hM0
  have hcx7:=yP (pre:=[]) (post:=[_]) (IE (some true) ([]:List Int) i_ (by (exact pfQ))) (by decide)
  rw [←hx8] at hcx7
  simp only [List.nil_append,List.cons_append] at hcx7
  refine yk hcx7 clQ (fun hw9=> ?_)
  replace hw9:=nzQ hw9
  refine spQ ?_
  have hF:=h4
  exact auQ
set_option maxHeartbeats 2000000 in
set_option maxRecDepth 100000 in
theorem IG (slices:(List (List Int))) (hp0:slices.length≤2) (hp1: ∀j:Int,(gt slices j).length≤2000000):CM En (oB slices) 78 [.sl none 1 false (slices.map (fun (l:List Int)=>V.sl none 1 false (l.map (V.int .u8))))] (fun y=> .sl none 1 false (y.map (V.int .u8))) (fun _=> []):=by
 refine cmQ fun r hM=> ?_
 rw [oB.eq_1] at hM
 refine aO aA aK noJ Tryz.func78 rfl Tryz.ntmps78 (by kernel_rfl) fun hw=>aL ?_
 refine spQ ?_
 replace hw:=nzQ hw
 have hM0:=hM;clear hM;obtain ⟨f1,d1,hf1,hd1,hM⟩:=bd hM0;clear hM0
 refine bF (fun n S=> ∃p:Int×Int,S=(⟨[(0,.sl none 1 false (slices.map (fun (l:List Int)=>V.sl none 1 false (l.map (V.int .u8))))),(3,.int .i64 p.1),(9,.sl none 1 false (slices.map (fun (l:List Int)=>V.sl none 1 false (l.map (V.int .u8))))),(10,.int .i64 (slices.length:Int)),(11,.int .i64 p.2)],[],0⟩:St)∧((0≤p.2)∧(p.2≤(slices.length:Int))∧(0≤p.1)∧(p.1≤2000000*p.2))∧((slices.length:Int) - p.2).toNat<n∧ao n f1 d1 p=r) (((slices.length:Int) - 0).toNat+1) _ sbQ sbQ ⟨(0,0),rfl,⟨by (first|exact omQ|(clear hM;first|(have h9:=hp1 p1.2;exact ah)|(have h9:=hp1 p13.1;exact ah)|(have h9:=hp1 p14.1;exact ah))),by (first|exact omQ|(clear hM;first|(have h9:=hp1 p1.2;exact ah)|(have h9:=hp1 p13.1;exact ah)|(have h9:=hp1 p14.1;exact ah))),by (first|exact omQ|(clear hM;first|(have h9:=hp1 p1.2;exact ah)|(have h9:=hp1 p13.1;exact ah)|(have h9:=hp1 p14.1;exact ah))),by (first|exact omQ|(clear hM;first|(have h9:=hp1 p1.2;exact ah)|(have h9:=hp1 p13.1;exact ah)|(have h9:=hp1 p14.1;exact ah)))⟩,(Nat.lt_succ_self _),hM⟩ ?_
 clear hM
 rintro n1 S ⟨p1,rfl,hfa1,hm1,hM⟩
 have hM0:=hM;clear hM;obtain ⟨ag1,hag1,hM⟩:=bf hM0 (by omega) hf1;clear hM0
 replace hfa1:=nzQ hfa1
 replace hm1:=nzQ hm1
 have ha1:aq .i64 p1.2 1=p1.2+1:=bp (by (first|exact omQ|(clear hM;first|(have h9:=hp1 p1.2;exact ah)|(have h9:=hp1 p13.1;exact ah)|(have h9:=hp1 p14.1;exact ah)))) (by (first|exact omQ|(clear hM;first|(have h9:=hp1 p1.2;exact ah)|(have h9:=hp1 p13.1;exact ah)|(have h9:=hp1 p14.1;exact ah))))
 refine aa ha1 ?_
 refine aB (fun h2=> ?_) (fun h2=> ?_)
 ·rw [if_pos h2] at hM
  refine aa (And.intro ha1 h2) ?_
  have nh2:=nzQ h2
  try have hr3:=mpQ nh2
  refine aN (by (first|exact omQ|(clear hM;first|(have h9:=hp1 p1.2;exact ah)|(have h9:=hp1 p13.1;exact ah)|(have h9:=hp1 p14.1;exact ah)))) ?_
  have he4:=fun d=>aV (l:=slices) (f:=(fun (l:List Int)=>V.sl none 1 false (l.map (V.int .u8)))) (i:=p1.2) (by (first|exact omQ|(clear hM;first|(have h9:=hp1 p1.2;exact ah)|(have h9:=hp1 p13.1;exact ah)|(have h9:=hp1 p14.1;exact ah)))) d
  refine aa (And.intro ha1 he4) ?_
  have ha5:aq .i64 p1.1 ((gt slices p1.2).length:Int)=(p1.1+((gt slices p1.2).length:Int)):=gk (by (first|exact omQ|(clear hM;first|(have h9:=hp1 p1.2;exact ah)|(have h9:=hp1 p13.1;exact ah)|(have h9:=hp1 p14.1;exact ah)))) (by (first|exact omQ|(clear hM;first|(have h9:=hp1 p1.2;exact ah)|(have h9:=hp1 p13.1;exact ah)|(have h9:=hp1 p14.1;exact ah))))
  try simp only [ha5]
  refine aB (fun h6=> ?_) (fun h6=> ?_)
  ·rw [if_pos h6] at hM
   refine aa (And.intro ha1 (And.intro he4 (And.intro ha5 h6))) ?_
   have nh6:=nzQ h6
   try have hr7:=mpQ nh6
   exact False.elim (by (first|exact omQ|(clear hM;first|(have h9:=hp1 p1.2;exact ah)|(have h9:=hp1 p13.1;exact ah)|(have h9:=hp1 p14.1;exact ah))))
  ·rw [if_neg (an h6)] at hM
   refine aa (And.intro ha1 (And.intro he4 (And.intro ha5 h6))) ?_
   have nh6:=nzQ h6
   try have hr8:=mpQ nh6
   refine b_ (n1 - 1) _ (by omega) sbQ sbQ ⟨((p1.1+((gt slices p1.2).length:Int)),(p1.2+1)),rfl,⟨by (first|exact omQ|(clear hM;first|(have h9:=hp1 p1.2;exact ah)|(have h9:=hp1 p13.1;exact ah)|(have h9:=hp1 p14.1;exact ah))),by (first|exact omQ|(clear hM;first|(have h9:=hp1 p1.2;exact ah)|(have h9:=hp1 p13.1;exact ah)|(have h9:=hp1 p14.1;exact ah))),by (first|exact omQ|(clear hM;first|(have h9:=hp1 p1.2;exact ah)|(have h9:=hp1 p13.1;exact ah)|(have h9:=hp1 p14.1;exact ah))),by (first|exact omQ|(clear hM;first|(have h9:=hp1 p1.2;exact ah)|(have h9:=hp1 p13.1;exact ah)|(have h9:=hp1 p14.1;exact ah)))⟩,by (first|exact omQ|(clear hM;first|(have h9:=hp1 p1.2;exact ah)|(have h9:=hp1 p13.1;exact ah)|(have h9:=hp1 p14.1;exact ah))),ca hM hag1⟩
 ·rw [if_neg (an h2)] at hM
  refine aa (And.intro ha1 h2) ?_
  have nh2:=nzQ h2
  try have hr9:=mpQ nh2
  have hM0:=hM;clear hM;obtain ⟨x10,hx11,hM⟩:=ay hM0;clear hM0
  have hcx10:=Ip (some true) ([]:List Int) (p1.1) (by (first|rfl|omega)) (by (first|rfl|omega)) (by (first|rfl|omega)) (by (first|rfl|omega))
  rw [←hx11] at hcx10
  refine aQ hcx10 (ax ha1) (ax ha1) (fun hw12=> ?_)
  replace hw12:=nzQ hw12
  refine aa ha1 ?_
  have hq13:=Ik hx11
  replace hq13:=nzQ hq13
  have hM0:=hM;clear hM;obtain ⟨f14,d14,hf14,hd14,hM⟩:=bd hM0;clear hM0
  refine bF (fun n S=> ∃p:Int×List Int,S=(⟨[(6,.own 0),(25,.sl none 1 false (slices.map (fun (l:List Int)=>V.sl none 1 false (l.map (V.int .u8))))),(26,.int .i64 (slices.length:Int)),(27,.int .i64 p.1)],[(0,.own 5 1 false none (p.2.map (V.int .u8)))],1⟩:St)∧((0≤p.1)∧(p.1≤(slices.length:Int))∧(((p.2).length:Int)≤2000000*p.1))∧((slices.length:Int) - p.1).toNat<n∧ao n f14 d14 p=r) (((slices.length:Int) - 0).toNat+1) _ sbQ sbQ ⟨(0,x10),rfl,⟨by (first|exact omQ|(clear hM;first|(have h9:=hp1 p1.2;exact ah)|(have h9:=hp1 p13.1;exact ah)|(have h9:=hp1 p14.1;exact ah))),by (first|exact omQ|(clear hM;first|(have h9:=hp1 p1.2;exact ah)|(have h9:=hp1 p13.1;exact ah)|(have h9:=hp1 p14.1;exact ah))),by (first|exact omQ|(clear hM;first|(have h9:=hp1 p1.2;exact ah)|(have h9:=hp1 p13.1;exact ah)|(have h9:=hp1 p14.1;exact ah)))⟩,(Nat.lt_succ_self _),hM⟩ ?_
  clear hM
  rintro n14 S ⟨p14,rfl,hfa14,hm14,hM⟩
  have hM0:=hM;clear hM;obtain ⟨ag14,hag14,hM⟩:=bf hM0 (by omega) hf14;clear hM0
  replace hfa14:=nzQ hfa14
  replace hm14:=nzQ hm14
  have ha14:aq .i64 p14.1 1=p14.1+1:=bp (by (first|exact omQ|(clear hM;first|(have h9:=hp1 p1.2;exact ah)|(have h9:=hp1 p13.1;exact ah)|(have h9:=hp1 p14.1;exact ah)))) (by (first|exact omQ|(clear hM;first|(have h9:=hp1 p1.2;exact ah)|(have h9:=hp1 p13.1;exact ah)|(have h9:=hp1 p14.1;exact ah))))
  refine aa (And.intro ha1 ha14) ?_
  refine aB (fun h15=> ?_) (fun h15=> ?_)
  ·rw [if_pos h15] at hM
   refine aa (And.intro ha1 (And.intro ha14 h15)) ?_
   have nh15:=nzQ h15
   try have hr16:=mpQ nh15
   refine aN (by (first|exact omQ|(clear hM;first|(have h9:=hp1 p1.2;exact ah)|(have h9:=hp1 p13.1;exact ah)|(have h9:=hp1 p14.1;exact ah)))) ?_
   have he17:=fun d=>aV (l:=slices) (f:=(fun (l:List Int)=>V.sl none 1 false (l.map (V.int .u8)))) (i:=p14.1) (by (first|exact omQ|(clear hM;first|(have h9:=hp1 p1.2;exact ah)|(have h9:=hp1 p13.1;exact ah)|(have h9:=hp1 p14.1;exact ah)))) d
   refine aa (And.intro ha1 (And.intro ha14 he17)) ?_
   refine aN (by (first|exact omQ|(clear hM;first|(have h9:=hp1 p1.2;exact ah)|(have h9:=hp1 p13.1;exact ah)|(have h9:=hp1 p14.1;exact ah)))) ?_
   refine aa (And.intro ha1 (And.intro ha14 he17)) ?_
   refine b_ (n14 - 1) _ (by omega) sbQ sbQ ⟨((p14.1+1),(p14.2++(gt slices p14.1))),rfl,⟨by (first|exact omQ|(clear hM;first|(have h9:=hp1 p1.2;exact ah)|(have h9:=hp1 p13.1;exact ah)|(have h9:=hp1 p14.1;exact ah))),by (first|exact omQ|(clear hM;first|(have h9:=hp1 p1.2;exact ah)|(have h9:=hp1 p13.1;exact ah)|(have h9:=hp1 p14.1;exact ah))),by (first|exact omQ|(clear hM;first|(have h9:=hp1 p1.2;exact ah)|(have h9:=hp1 p13.1;exact ah)|(have h9:=hp1 p14.1;exact ah)))⟩,by (first|exact omQ|(clear hM;first|(have h9:=hp1 p1.2;exact ah)|(have h9:=hp1 p13.1;exact ah)|(have h9:=hp1 p14.1;exact ah))),ca hM hag14⟩
  ·rw [if_neg (an h15)] at hM
   refine aa (And.intro ha1 (And.intro ha14 h15)) ?_
   have nh15:=nzQ h15
   try have hr18:=mpQ nh15
   subst hM
   exact ar (av (And.intro ha1 (And.intro ha14 (And.intro h2 h15))))
set_option maxHeartbeats 2000000 in
set_option maxRecDepth 100000 in
theorem IH (b:dY) (l:(List eJ)) (p_:aP) (hp0:p_.Holdings.length=0) (hp1:p_.Open.length=0):CM En (u7 b l p_) 25 [(ja b),.sl none 11 true (l.map jR),(bw p_)] (fun y=> .bool y) (fun _=> []):=by
 refine cmQ fun r hM=> ?_
 rw [u7.eq_1] at hM
 refine aO aA aK noJ Tryz.func25 rfl Tryz.ntmps25 (by kernel_rfl) fun hw=>aL ?_
 refine spQ ?_
 replace hw:=nzQ hw
 have hM0:=hM;clear hM;obtain ⟨x1,hx2,hM⟩:=ay hM0;clear hM0
 have hcx1:=cmU hx2
 refine aQ hcx1 clQ clQ (fun hw3=> ?_)
 replace hw3:=nzQ hw3
 refine spQ ?_
 refine aY (fun h4=> ?_) (fun h4=> ?_)
 ·rw [if_neg (an h4)] at hM
  refine aa h4 ?_
  have nh4:=nzQ h4
  try have hr5:=mpQ nh4
  refine aY (fun h6=> ?_) (fun h6=> ?_)
  ·rw [if_neg (an h6)] at hM
   refine aa h6 ?_
   have nh6:=nzQ h6
   try have hr7:=mpQ nh6
   refine aY (fun h8=> ?_) (fun h8=> ?_)
   ·rw [if_neg (an h8)] at hM
    refine aa h8 ?_
    have nh8:=nzQ h8
    try have hr9:=mpQ nh8
    refine aY (fun h10=> ?_) (fun h10=> ?_)
    ·rw [if_neg (an h10)] at hM
     refine aa h10 ?_
     have nh10:=nzQ h10
     try have hr11:=mpQ nh10
     refine aY (fun h12=> ?_) (fun h12=> ?_)
     ·rw [if_neg (an h12)] at hM
      refine aa h12 ?_
      have nh12:=nzQ h12
      try have hr13:=mpQ nh12
      refine aY (fun h14=> ?_) (fun h14=> ?_)
      ·rw [if_neg (an h14)] at hM
       refine aa h14 ?_
       have nh14:=nzQ h14
       try have hr15:=mpQ nh14
       have hM0:=hM;clear hM;obtain ⟨x16,hx17,hM⟩:=ay hM0;clear hM0
       have hcx16:=cmU hx17
       refine aQ hcx16 clQ clQ (fun hw18=> ?_)
       replace hw18:=nzQ hw18
       refine spQ ?_
       refine aY (fun h19=> ?_) (fun h19=> ?_)
       ·rw [if_neg (an h19)] at hM
        refine aa h19 ?_
        have nh19:=nzQ h19
        try have hr20:=mpQ nh19
        refine aY (fun h21=> ?_) (fun h21=> ?_)
        ·rw [if_neg (an h21)] at hM
         refine aa h21 ?_
         have nh21:=nzQ h21
         try have hr22:=mpQ nh21
         refine aB (fun h23=> ?_) (fun h23=> ?_)
         ·rw [if_pos h23] at hM
          refine aa h23 ?_
          have nh23:=nzQ h23
          try have hr24:=mpQ nh23
          subst hM
          exact ar (av (And.intro h4 (And.intro h6 (And.intro h8 (And.intro h10 (And.intro h12 (And.intro h14 (And.intro h19 (And.intro h21 h23)))))))))
         ·rw [if_neg (an h23)] at hM
          refine aa h23 ?_
          have nh23:=nzQ h23
          try have hr25:=mpQ nh23
          have hM0:=hM;clear hM;obtain ⟨f26,d26,hf26,hd26,hM⟩:=bd hM0;clear hM0
          refine bF (fun n S=> ∃p:Int×List (List Int),S=(⟨[(1,.sl none 11 true (l.map jR)),(3,.ptr 0 0),(5,.ptr 1 0),(9,.own 2),(69,.sl none 46 true (p_.Holdings.map bL)),(70,.int .i64 (p_.Holdings.length:Int)),(71,.int .i64 p.1)],[(0,.var 6 true ((ja b))),(1,.var 39 true ((bw p_))),(2,.kset false .i64 1 p.2)],3⟩:St)∧((0≤p.1)∧(p.1≤(p_.Holdings.length:Int)))∧((p_.Holdings.length:Int) - p.1).toNat<n∧ao n f26 d26 p=r) (((p_.Holdings.length:Int) - 0).toNat+1) _ sbQ sbQ ⟨(0,([]:List (List Int))),rfl,⟨omQ,omQ⟩,(Nat.lt_succ_self _),hM⟩ ?_
          clear hM
          rintro n26 S ⟨p26,rfl,hfa26,hm26,hM⟩
          have hM0:=hM;clear hM;obtain ⟨ag26,hag26,hM⟩:=bf hM0 (by omega) hf26;clear hM0
          replace hfa26:=nzQ hfa26
          replace hm26:=nzQ hm26
          have ha26:aq .i64 p26.1 1=p26.1+1:=bp omQ omQ
          refine aa ha26 ?_
          refine aB (fun h27=> ?_) (fun h27=> ?_)
          ·rw [if_pos h27] at hM
           refine aa (And.intro ha26 h27) ?_
           have nh27:=nzQ h27
           try have hr28:=mpQ nh27
           exact False.elim (by (clear hM;omega))
          ·rw [if_neg (an h27)] at hM
           refine aa (And.intro ha26 h27) ?_
           have nh27:=nzQ h27
           try have hr29:=mpQ nh27
           have hM0:=hM;clear hM;obtain ⟨f30,d30,hf30,hd30,hM⟩:=bd hM0;clear hM0
           refine bF (fun n S=> ∃p:Int,S=(⟨[(1,.sl none 11 true (l.map jR)),(3,.ptr 0 0),(5,.ptr 1 0),(95,.sl none 59 true (p_.Open.map cc)),(96,.int .i64 (p_.Open.length:Int)),(97,.int .i64 p)],[(0,.var 6 true ((ja b))),(1,.var 39 true ((bw p_)))],3⟩:St)∧((0≤p)∧(p≤(p_.Open.length:Int)))∧((p_.Open.length:Int) - p).toNat<n∧ao n f30 d30 p=r) (((p_.Open.length:Int) - 0).toNat+1) _ sbQ sbQ ⟨0,rfl,⟨omQ,omQ⟩,(Nat.lt_succ_self _),hM⟩ ?_
           clear hM
           rintro n30 S ⟨p30,rfl,hfa30,hm30,hM⟩
           have hM0:=hM;clear hM;obtain ⟨ag30,hag30,hM⟩:=bf hM0 (by omega) hf30;clear hM0
           replace hfa30:=nzQ hfa30
           replace hm30:=nzQ hm30
           have ha30:aq .i64 p30 1=p30+1:=bp omQ omQ
           refine aa (And.intro ha26 ha30) ?_
           refine aB (fun h31=> ?_) (fun h31=> ?_)
           ·rw [if_pos h31] at hM
            refine aa (And.intro ha26 (And.intro ha30 h31)) ?_
            have nh31:=nzQ h31
            try have hr32:=mpQ nh31
            exact False.elim (by (clear hM;omega))
           ·rw [if_neg (an h31)] at hM
            refine aa (And.intro ha26 (And.intro ha30 h31)) ?_
            have nh31:=nzQ h31
            try have hr33:=mpQ nh31
            subst hM
            exact ar (av (And.intro ha26 (And.intro ha30 (And.intro h4 (And.intro h6 (And.intro h8 (And.intro h10 (And.intro h12 (And.intro h14 (And.intro h19 (And.intro h21 (And.intro h23 (And.intro h27 h31)))))))))))))
        ·rw [if_pos h21] at hM
         refine aa h21 ?_
         have nh21:=nzQ h21
         try have hr34:=mpQ nh21
         subst hM
         exact ar (av (And.intro h4 (And.intro h6 (And.intro h8 (And.intro h10 (And.intro h12 (And.intro h14 (And.intro h19 h21))))))))
       ·rw [if_pos h19] at hM
        refine aa h19 ?_
        have nh19:=nzQ h19
        try have hr35:=mpQ nh19
        subst hM
        exact ar (av (And.intro h4 (And.intro h6 (And.intro h8 (And.intro h10 (And.intro h12 (And.intro h14 h19)))))))
      ·rw [if_pos h14] at hM
       refine aa h14 ?_
       have nh14:=nzQ h14
       try have hr36:=mpQ nh14
       subst hM
       exact ar (av (And.intro h4 (And.intro h6 (And.intro h8 (And.intro h10 (And.intro h12 h14))))))
     ·rw [if_pos h12] at hM
      refine aa h12 ?_
      have nh12:=nzQ h12
      try have hr37:=mpQ nh12
      subst hM
      exact ar (av (And.intro h4 (And.intro h6 (And.intro h8 (And.intro h10 h12)))))
    ·rw [if_pos h10] at hM
     refine aa h10 ?_
     have nh10:=nzQ h10
     try have hr38:=mpQ nh10
     subst hM
     exact ar (av (And.intro h4 (And.intro h6 (And.intro h8 h10))))
   ·rw [if_pos h8] at hM
    refine aa h8 ?_
    have nh8:=nzQ h8
    try have hr39:=mpQ nh8
    subst hM
    exact ar (av (And.intro h4 (And.intro h6 h8)))
  ·rw [if_pos h6] at hM
   refine aa h6 ?_
   have nh6:=nzQ h6
   try have hr40:=mpQ nh6
   subst hM
   exact ar (av (And.intro h4 h6))
 ·rw [if_pos h4] at hM
  refine aa h4 ?_
  have nh4:=nzQ h4
  try have hr41:=mpQ nh4
  subst hM
  exact ar (av h4)
set_option maxHeartbeats 2000000 in
set_option maxRecDepth 100000 in
instance MZ:CM En (rk) 5 [] (fun y=> .bool y) (fun _=> []):=by
 refine cmQ fun r hM=> ?_
 rw [rk.eq_1] at hM
 refine aO aA aK noJ Tryz.func5 rfl Tryz.ntmps5 (by kernel_rfl) fun hw=>aL ?_
 refine spQ ?_
 replace hw:=nzQ hw
 have hM0:=hM;clear hM;obtain ⟨x1,hx2,hM⟩:=ay hM0;clear hM0
 have hcx1:=cmU hx2
 refine aQ hcx1 clQ clQ (fun hw3=> ?_)
 replace hw3:=nzQ hw3
 refine spQ ?_
 have hq4:=Ih hx2
 replace hq4:=nzQ hq4
 have hM0:=hM;clear hM;obtain ⟨x5,hx6,hM⟩:=ay hM0;clear hM0
 have hcx5:=cmH hx6 (Iv ([]:List eJ) (x1.1) 0 (by (exact pfQ)))
 refine aQ hcx5 clQ clQ (fun hw7=> ?_)
 replace hw7:=nzQ hw7
 refine spQ ?_
 refine gO (fun h8=> ?_) (fun h8=> ?_)
 ·rw [if_pos h8] at hM
  refine aa h8 ?_
  have nh8:=nzQ h8
  try have hr9:=mpQ nh8
  refine gO (fun h10=> ?_) (fun h10=> ?_)
  ·rw [if_pos h10] at hM
   refine aa h10 ?_
   have nh10:=nzQ h10
   try have hr11:=mpQ nh10
   refine gO (fun h12=> ?_) (fun h12=> ?_)
   ·rw [if_pos h12] at hM
    refine aa h12 ?_
    have nh12:=nzQ h12
    try have hr13:=mpQ nh12
    refine gO (fun h14=> ?_) (fun h14=> ?_)
    ·rw [if_pos h14] at hM
     refine aa h14 ?_
     have nh14:=nzQ h14
     try have hr15:=mpQ nh14
     refine gO (fun h16=> ?_) (fun h16=> ?_)
     ·rw [if_pos h16] at hM
      refine aa h16 ?_
      have nh16:=nzQ h16
      try have hr17:=mpQ nh16
      have hM0:=hM;clear hM;obtain ⟨x18,hx19,hM⟩:=ay hM0;clear hM0
      have hcx18:=cmH hx19 (IH ({Group:=({P:=23,Q:=11,G:=4}:dL),G1:=2,G2:=3,H:=6}:dY) ([]:List eJ) (x1.1) (by (exact pfQ)) (by (exact pfQ)))
      refine aQ hcx18 clQ clQ (fun hw20=> ?_)
      replace hw20:=nzQ hw20
      refine spQ ?_
      have hF:=(And.intro h8 (And.intro h10 (And.intro h12 (And.intro h14 h16))))
      exact auQ
     ·rw [if_neg (an h16)] at hM
      refine aa h16 ?_
      have nh16:=nzQ h16
      try have hr25:=mpQ nh16
      subst hM
      exact ar (av (And.intro h8 (And.intro h10 (And.intro h12 (And.intro h14 h16)))))
    ·rw [if_neg (an h14)] at hM
     refine aa h14 ?_
     have nh14:=nzQ h14
     try have hr26:=mpQ nh14
     subst hM
     exact ar (av (And.intro h8 (And.intro h10 (And.intro h12 h14))))
   ·rw [if_neg (an h12)] at hM
    refine aa h12 ?_
    have nh12:=nzQ h12
    try have hr27:=mpQ nh12
    subst hM
    exact ar (av (And.intro h8 (And.intro h10 h12)))
  ·rw [if_neg (an h10)] at hM
   refine aa h10 ?_
   have nh10:=nzQ h10
   try have hr28:=mpQ nh10
   subst hM
   exact ar (av (And.intro h8 h10))
 ·rw [if_neg (an h8)] at hM
  refine aa h8 ?_
  have nh8:=nzQ h8
  try have hr29:=mpQ nh8
  subst hM
  exact ar (av h8)
set_option maxHeartbeats 2000000 in
set_option maxRecDepth 100000 in
instance M0 (w:bg):CM En (mE w) 28 [(cc w)] (fun y=> .bool y) (fun _=> []):=by
 refine cmQ fun r hM=> ?_
 rw [mE.eq_1] at hM
 refine aO aA aK noJ Tryz.func28 rfl Tryz.ntmps28 (by kernel_rfl) fun hw=>aL ?_
 refine spQ ?_
 replace hw:=nzQ hw
 subst hM
 exact ar lfQ
set_option maxHeartbeats 2000000 in
set_option maxRecDepth 100000 in
instance M1 (s:aS):CM En (mF s) 32 [(cB s)] (fun y=> .bool y) (fun _=> []):=by
 refine cmQ fun r hM=> ?_
 rw [mF.eq_1] at hM
 refine aO aA aK noJ Tryz.func32 rfl Tryz.ntmps32 (by kernel_rfl) fun hw=>aL ?_
 refine spQ ?_
 replace hw:=nzQ hw
 have hF:=ct
 exact auQ
set_option maxHeartbeats 2000000 in
set_option maxRecDepth 100000 in
instance M2 (s:(List aS)):CM En (rl s) 73 [.sl none 80 true (s.map cB),.fn 32 []] (fun y=> .int .i64 y) (fun _=> []):=by
 refine cmQ fun r hM=> ?_
 rw [rl.eq_1] at hM
 refine aO aA aK noJ Tryz.func73 rfl Tryz.ntmps73 (by kernel_rfl) fun hw=>aL ?_
 refine spQ ?_
 replace hw:=nzQ hw
 have hM0:=hM;clear hM;obtain ⟨f1,d1,hf1,hd1,hM⟩:=bd hM0;clear hM0
 refine bF (fun n S=> ∃p:Int,S=(⟨[(0,.sl none 80 true (s.map cB)),(1,.fn 32 []),(7,.int .i64 (s.length:Int)),(8,.int .i64 p)],[],0⟩:St)∧((0≤p)∧(p≤(s.length:Int)))∧((s.length:Int) - p).toNat<n∧ao n f1 d1 p=r) (((s.length:Int) - 0).toNat+1) _ sbQ sbQ ⟨0,rfl,⟨omQ,omQ⟩,(Nat.lt_succ_self _),hM⟩ ?_
 clear hM
 rintro n1 S ⟨p1,rfl,hfa1,hm1,hM⟩
 have hM0:=hM;clear hM;obtain ⟨ag1,hag1,hM⟩:=bf hM0 (by omega) hf1;clear hM0
 replace hfa1:=nzQ hfa1
 replace hm1:=nzQ hm1
 have ha1:aq .i64 p1 1=p1+1:=bp omQ omQ
 refine aa ha1 ?_
 have hF:=ha1
 exact auQ
set_option maxHeartbeats 2000000 in
set_option maxRecDepth 100000 in
instance M3 (s:(List aS)):CM En (oC s) 31 [.sl none 80 true (s.map cB),.fn 32 []] (fun y=> .bool y) (fun _=> []):=by
 refine cmQ fun r hM=> ?_
 rw [oC.eq_1] at hM
 refine aO aA aK noJ Tryz.func31 rfl Tryz.ntmps31 (by kernel_rfl) fun hw=>aL ?_
 refine spQ ?_
 replace hw:=nzQ hw
 have hF:=ct
 exact auQ
set_option maxHeartbeats 2000000 in
set_option maxRecDepth 100000 in
instance M4 (h_:aX):CM En (mG h_) 30 [(bL h_)] (fun y=> .bool y) (fun _=> []):=by
 refine cmQ fun r hM=> ?_
 rw [mG.eq_1] at hM
 refine aO aA aK noJ Tryz.func30 rfl Tryz.ntmps30 (by kernel_rfl) fun hw=>aL ?_
 refine spQ ?_
 replace hw:=nzQ hw
 have hF:=ct
 exact auQ
set_option maxHeartbeats 2000000 in
set_option maxRecDepth 100000 in
instance M5 (s:(List bg)):CM En (rm s) 71 [.sl none 59 true (s.map cc),.fn 28 []] (fun y=> .int .i64 y) (fun _=> []):=by
 refine cmQ fun r hM=> ?_
 rw [rm.eq_1] at hM
 refine aO aA aK noJ Tryz.func71 rfl Tryz.ntmps71 (by kernel_rfl) fun hw=>aL ?_
 refine spQ ?_
 replace hw:=nzQ hw
 have hM0:=hM;clear hM;obtain ⟨f1,d1,hf1,hd1,hM⟩:=bd hM0;clear hM0
 refine bF (fun n S=> ∃p:Int,S=(⟨[(0,.sl none 59 true (s.map cc)),(1,.fn 28 []),(7,.int .i64 (s.length:Int)),(8,.int .i64 p)],[],0⟩:St)∧((0≤p)∧(p≤(s.length:Int)))∧((s.length:Int) - p).toNat<n∧ao n f1 d1 p=r) (((s.length:Int) - 0).toNat+1) _ sbQ sbQ ⟨0,rfl,⟨omQ,omQ⟩,(Nat.lt_succ_self _),hM⟩ ?_
 clear hM
 rintro n1 S ⟨p1,rfl,hfa1,hm1,hM⟩
 have hM0:=hM;clear hM;obtain ⟨ag1,hag1,hM⟩:=bf hM0 (by omega) hf1;clear hM0
 replace hfa1:=nzQ hfa1
 replace hm1:=nzQ hm1
 have ha1:aq .i64 p1 1=p1+1:=bp omQ omQ
 refine aa ha1 ?_
 have hF:=ha1
 exact auQ
set_option maxHeartbeats 2000000 in
set_option maxRecDepth 100000 in
instance M6 (s:(List bg)):CM En (oD s) 27 [.sl none 59 true (s.map cc),.fn 28 []] (fun y=> .bool y) (fun _=> []):=by
 refine cmQ fun r hM=> ?_
 rw [oD.eq_1] at hM
 refine aO aA aK noJ Tryz.func27 rfl Tryz.ntmps27 (by kernel_rfl) fun hw=>aL ?_
 refine spQ ?_
 replace hw:=nzQ hw
 have hF:=ct
 exact auQ
set_option maxHeartbeats 2000000 in
set_option maxRecDepth 100000 in
instance M7 (s:(List aX)):CM En (rn s) 72 [.sl none 46 true (s.map bL),.fn 30 []] (fun y=> .int .i64 y) (fun _=> []):=by
 refine cmQ fun r hM=> ?_
 rw [rn.eq_1] at hM
 refine aO aA aK noJ Tryz.func72 rfl Tryz.ntmps72 (by kernel_rfl) fun hw=>aL ?_
 refine spQ ?_
 replace hw:=nzQ hw
 have hM0:=hM;clear hM;obtain ⟨f1,d1,hf1,hd1,hM⟩:=bd hM0;clear hM0
 refine bF (fun n S=> ∃p:Int,S=(⟨[(0,.sl none 46 true (s.map bL)),(1,.fn 30 []),(7,.int .i64 (s.length:Int)),(8,.int .i64 p)],[],0⟩:St)∧((0≤p)∧(p≤(s.length:Int)))∧((s.length:Int) - p).toNat<n∧ao n f1 d1 p=r) (((s.length:Int) - 0).toNat+1) _ sbQ sbQ ⟨0,rfl,⟨omQ,omQ⟩,(Nat.lt_succ_self _),hM⟩ ?_
 clear hM
 rintro n1 S ⟨p1,rfl,hfa1,hm1,hM⟩
 have hM0:=hM;clear hM;obtain ⟨ag1,hag1,hM⟩:=bf hM0 (by omega) hf1;clear hM0
 replace hfa1:=nzQ hfa1
 replace hm1:=nzQ hm1
 have ha1:aq .i64 p1 1=p1+1:=bp omQ omQ
 refine aa ha1 ?_
 have hF:=ha1
 exact auQ
set_option maxHeartbeats 2000000 in
set_option maxRecDepth 100000 in
instance M8 (s:(List aX)):CM En (oE s) 29 [.sl none 46 true (s.map bL),.fn 30 []] (fun y=> .bool y) (fun _=> []):=by
 refine cmQ fun r hM=> ?_
 rw [oE.eq_1] at hM
 refine aO aA aK noJ Tryz.func29 rfl Tryz.ntmps29 (by kernel_rfl) fun hw=>aL ?_
 refine spQ ?_
 replace hw:=nzQ hw
 have hF:=ct
 exact auQ
set_option maxHeartbeats 2000000 in
set_option maxRecDepth 100000 in
instance M9 (p_:aP):CM En (mH p_) 7 [(bw p_)] (fun y=> .bool y) (fun _=> []):=by
 refine cmQ fun r hM=> ?_
 rw [mH.eq_1] at hM
 refine aO aA aK noJ Tryz.func7 rfl Tryz.ntmps7 (by kernel_rfl) fun hw=>aL ?_
 refine spQ ?_
 replace hw:=nzQ hw
 have hF:=ct
 exact auQ
set_option maxHeartbeats 2000000 in
set_option maxRecDepth 100000 in
instance M_ (after:Int):CM En (oF after) 8 [.int .i64 after] (fun y=> .agg [.sl none 1 false (y.Bytes.map (V.int .u8)),.int .i64 y.Durable,.int .i64 y.After]) (fun _=> []):=by
 refine cmQ fun r hM=> ?_
 rw [oF.eq_1] at hM
 refine aO aA aK noJ Tryz.func8 rfl Tryz.ntmps8 (by kernel_rfl) fun hw=>aL ?_
 refine spQ ?_
 replace hw:=nzQ hw
 have hF:=ct
 exact auQ
set_option maxRecDepth 100000 in
theorem oP (z0:Option Bool) (s:List Int):bC En 42 [.sl z0 1 false (s.map (V.int .u8))] (.own 0) [.own 5 1 false none ((kZ s).map (V.int .u8))]:=by
 show bC En 42 [.sl z0 1 false (s.map (V.int .u8))] (.own 0) [.own 5 1 false none (s.map (V.int .u8))]
 refine yp (pre:=[]) (post:=[]) (fun hl=> ?_) ?_ z0
 ·have hl:s=[]:=by cases s with|nil=>rfl|cons a s=>cases hl
  subst hl
  refine aO aA aK noJ Tryz.func42 rfl Tryz.ntmps42 (by kernel_rfl) fun hw=>aL ?_
  simp only [go_sem,aE,aF,List.length_replicate,az,Int.toNat_natCast,↓reduceIte,Nat.reduceEqDiff,Nat.reduceAdd,Int.reduceAdd,Nat.reduceMul,Nat.reduceLeDiff,Nat.reduceLT,Int.reduceLE,Int.reduceLT,Int.reduceNeg,Int.reduceToNat,List.nil_append]
  exact yo (by decide)
 ·refine aO aA aK noJ Tryz.func42 rfl Tryz.ntmps42 (by kernel_rfl) fun hw=>aL ?_
  simp only [go_sem,aE,aF,List.length_replicate,az,Int.toNat_natCast,↓reduceIte,Nat.reduceEqDiff,Nat.reduceAdd,Int.reduceAdd,Nat.reduceMul,Nat.reduceLeDiff,Nat.reduceLT,Int.reduceLE,Int.reduceLT,Int.reduceNeg,Int.reduceToNat,List.nil_append]
  have hn:s.length≤1073741824:=by have h:=hw;simp only [wfL,wfV,List.nil_append,dm,List.length_map] at h;exact h.1.1
  refine aN (by first|omega|(simp only [List.length_map,List.length_nil,List.nil_append];omega)) ?_
  refine spQ ?_
  refine yn 0 rfl clQ
set_option maxHeartbeats 2000000 in
set_option maxRecDepth 100000 in
instance Na (h_:(List Int)):CM En (oG h_) 115 [(bP h_)] (fun y=> .agg [.int .i64 y.Kind,.int .i64 y.N,.sl none 1 false (y.B.map (V.int .u8)),.sl none 4 true (y.L.map aw)]) (fun _=> []):=by
 refine cmQ fun r hM=> ?_
 rw [oG.eq_1] at hM
 refine aO aA aK noJ Tryz.func115 rfl Tryz.ntmps115 (by kernel_rfl) fun hw=>aL ?_
 refine spQ ?_
 replace hw:=nzQ hw
 have hM0:=hM;clear hM;obtain ⟨x1,hx2,hM⟩:=ay hM0;clear hM0
 have hcx1:=oP (some false) (aC 32 h_)
 rw [←hx2] at hcx1
 refine aQ hcx1 clQ clQ (fun hw3=> ?_)
 replace hw3:=nzQ hw3
 refine spQ ?_
 subst hM
 exact ar lfQ
set_option maxHeartbeats 2000000 in
set_option maxRecDepth 100000 in
instance Nb (l:(List Int)):CM En (c_ l) 37 [.sl none 1 false (l.map (V.int .i64))] (fun y=> .agg [.int .i64 y.Kind,.int .i64 y.N,.sl none 1 false (y.B.map (V.int .u8)),.sl none 4 true (y.L.map aw)]) (fun _=> []):=by
 refine cmQ fun r hM=> ?_
 rw [c_.eq_1] at hM
 refine aO aA aK noJ Tryz.func37 rfl Tryz.ntmps37 (by kernel_rfl) fun hw=>aL ?_
 refine spQ ?_
 replace hw:=nzQ hw
 have hM0:=hM;clear hM;obtain ⟨f1,d1,hf1,hd1,hM⟩:=bd hM0;clear hM0
 refine dW (fun n S=> ∃p:Int×List ab,S=(⟨[(2,.ptr 0 0),(3,.ptr 1 0),(7,.sl none 1 false (l.map (V.int .i64))),(8,.int .i64 (l.length:Int)),(9,.int .i64 p.1)],[(0,.var 4 true (.agg [.int .i64 0,.int .i64 0,.sl (some true) 1 false [],.sl (some true) 4 true []])),(1,.var 4 true (.agg [.int .i64 3,.int .i64 0,.sl (some true) 1 false [],.own 2])),(2,.own 102 4 true none (p.2.map aw))],3⟩:St)∧((0≤p.1)∧(p.1≤(l.length:Int))∧(((p.2).length:Int)≤p.1))∧((l.length:Int) - p.1).toNat<n∧ao n f1 d1 p=r) (((l.length:Int) - 0).toNat+1) _ _ (iw 1 3 102 rfl rfl (by decide)) sbQ sbQ ⟨(0,([]:List ab)),rfl,⟨omQ,omQ,omQ⟩,(Nat.lt_succ_self _),hM⟩ ?_
 clear hM
 rintro n1 S ⟨p1,rfl,hfa1,hm1,hM⟩
 have hM0:=hM;clear hM;obtain ⟨ag1,hag1,hM⟩:=bf hM0 (by omega) hf1;clear hM0
 replace hfa1:=nzQ hfa1
 replace hm1:=nzQ hm1
 have ha1:aq .i64 p1.1 1=p1.1+1:=bp omQ omQ
 refine aa ha1 ?_
 have hF:=ha1
 exact auQ
set_option maxHeartbeats 2000000 in
set_option maxRecDepth 100000 in
theorem Al (z0_1:Option Bool) (z1:Option Bool) (w_:ef) (l_:(List Int)) (hp0:w_.l.length≤1000):cV En 117 [.ptr 0 0,.sl z1 1 false (l_.map (V.int .i64))] [.var 1 true (.agg [.own 1]),.own 102 4 true z0_1 (w_.l.map aw)] (.tup []) [.var 1 true (.agg [.own 1]),.own 102 4 true none ((jf w_ l_).l.map aw)] []:=by
 generalize hM:jf w_ l_=r
 rw [jf.eq_1] at hM
 refine iA aA aK noJ Tryz.func117 rfl Tryz.ntmps117 (by kernel_rfl) rfl fun ks hw hwB=>aL ?_
 refine spQ ?_
 replace hw:=nzQ hw
 try simp only [fv,wfB,decide_eq_true_eq,decide_eq_false_iff_not,Bool.and_eq_true,Bool.or_eq_true,Bool.not_eq_true',Bool.not_eq_false',beq_iff_eq,bne_iff_ne,beq_eq_false_iff_ne,bne_eq_false_iff_eq,ne_eq,Int.not_lt,Int.not_le,gt_iff_lt,ge_iff_le,List.length_map,wfL,wfV,and_true,true_and,dm,dn,fI,fJ,fK,eW,eG,List.length_append,List.length_cons,List.length_nil,List.length_replicate,az,fb,fc,fd,bS,eY,eX] at hwB
 refine cG 16 14 [4,5,6,7,8,9,10,11,12,13,14,15] [] [[],[0],[0,1],[0,1,2],[],[4],[0,1,2,3],[],[0,1,2,3,6,7],[0,1,2,3,6,7,8],[0,1,2,3,4,5,6,7,8,9],[0],[0,11],[0,1,2,3,7,8,11,12]] [(8,1),(10,10),(13,0)] (by kernel_rfl) (by exact alQ) ?_
 refine spQ ?_
 have hM0:=hM;clear hM;obtain ⟨x1,hx2,hM⟩:=ay hM0;clear hM0
 have hcx1:=cmU hx2
 refine dl hcx1 clQ clQ ?_
 refine spQ ?_
 refine qn omQ clQ ?_
 refine spQ ?_
 refine bu omQ ?_
 have he3: ∀d,elt ((w_.l++([ee]:List ab)).map aw) w_.l.length d=aw (gt (w_.l++([ee]:List ab)) (w_.l.length:Int)):=fun d=>aV (l:=(w_.l++([ee]:List ab))) (f:=aw) (i:=(w_.l.length:Int)) omQ d
 refine aa he3 ?_
 refine ui omQ clQ ?_
 refine aa he3 ?_
 subst hM
 exact cM [0,10] (by simp only [go_sem,aE,aF,List.length_replicate,az,Int.toNat_natCast,↓reduceIte,Nat.reduceEqDiff,Nat.reduceAdd,Int.reduceAdd,Nat.reduceMul,Nat.reduceLeDiff,Nat.reduceLT,Int.reduceLE,Int.reduceLT,Int.reduceNeg,Int.reduceToNat,mt,mtL,aH,aG,mtZ,and_self,eq_self,or_true,true_or,a7,he3,aZ,a6,Int.reduceSub,or_self]) (by decide) (by simp only [go_sem,aE,aF,List.length_replicate,az,Int.toNat_natCast,↓reduceIte,Nat.reduceEqDiff,Nat.reduceAdd,Int.reduceAdd,Nat.reduceMul,Nat.reduceLeDiff,Nat.reduceLT,Int.reduceLE,Int.reduceLT,Int.reduceNeg,Int.reduceToNat,mt,mtL,aH,aG,mtZ,and_self,eq_self,or_true,true_or,a7,he3,aZ,a6,Int.reduceSub,or_self])
set_option maxHeartbeats 2000000 in
set_option maxRecDepth 100000 in
theorem II (z0_1:Option Bool) (z1:Option Bool) (w_:ef) (b:(List Int)) (hp0:w_.l.length≤1000):cV En 118 [.ptr 0 0,.sl z1 1 false (b.map (V.int .u8))] [.var 1 true (.agg [.own 1]),.own 102 4 true z0_1 (w_.l.map aw)] (.tup []) [.var 1 true (.agg [.own 1]),.own 102 4 true none ((jW w_ b).l.map aw)] []:=by
 generalize hM:jW w_ b=r
 rw [jW.eq_1] at hM
 refine iA aA aK noJ Tryz.func118 rfl Tryz.ntmps118 (by kernel_rfl) rfl fun ks hw hwB=>aL ?_
 refine spQ ?_
 replace hw:=nzQ hw
 try simp only [fv,wfB,decide_eq_true_eq,decide_eq_false_iff_not,Bool.and_eq_true,Bool.or_eq_true,Bool.not_eq_true',Bool.not_eq_false',beq_iff_eq,bne_iff_ne,beq_eq_false_iff_ne,bne_eq_false_iff_eq,ne_eq,Int.not_lt,Int.not_le,gt_iff_lt,ge_iff_le,List.length_map,wfL,wfV,and_true,true_and,dm,dn,fI,fJ,fK,eW,eG,List.length_append,List.length_cons,List.length_nil,List.length_replicate,az,fb,fc,fd,bS,eY,eX] at hwB
 refine cG 17 15 [4,5,6,7,8,9,10,11,12,13,14,15,16] [] [[],[0],[0,1],[0,1,2],[],[4],[4,5],[0,1,2,3],[],[0,1,2,3,7,8],[0,1,2,3,7,8,9],[0,1,2,3,4,5,6,7,8,9,10],[0],[0,12],[0,1,2,3,8,9,12,13]] [(9,1),(11,11),(14,0)] (by kernel_rfl) (by exact alQ) ?_
 refine spQ ?_
 have hM0:=hM;clear hM;obtain ⟨x1,hx2,hM⟩:=ay hM0;clear hM0
 have hcx1:=bC.pub ((oP z1 b))
 rw [←hx2] at hcx1
 refine dl hcx1 clQ clQ ?_
 refine spQ ?_
 refine qn omQ clQ ?_
 refine spQ ?_
 refine bu omQ ?_
 have he3: ∀d,elt ((w_.l++([ee]:List ab)).map aw) w_.l.length d=aw (gt (w_.l++([ee]:List ab)) (w_.l.length:Int)):=fun d=>aV (l:=(w_.l++([ee]:List ab))) (f:=aw) (i:=(w_.l.length:Int)) omQ d
 refine aa he3 ?_
 refine ui omQ clQ ?_
 refine aa he3 ?_
 subst hM
 exact cM [0,11] (by simp only [go_sem,aE,aF,List.length_replicate,az,Int.toNat_natCast,↓reduceIte,Nat.reduceEqDiff,Nat.reduceAdd,Int.reduceAdd,Nat.reduceMul,Nat.reduceLeDiff,Nat.reduceLT,Int.reduceLE,Int.reduceLT,Int.reduceNeg,Int.reduceToNat,mt,mtL,aH,aG,mtZ,and_self,eq_self,or_true,true_or,a7,he3,aZ,a6,Int.reduceSub,or_self]) (by decide) (by simp only [go_sem,aE,aF,List.length_replicate,az,Int.toNat_natCast,↓reduceIte,Nat.reduceEqDiff,Nat.reduceAdd,Int.reduceAdd,Nat.reduceMul,Nat.reduceLeDiff,Nat.reduceLT,Int.reduceLE,Int.reduceLT,Int.reduceNeg,Int.reduceToNat,mt,mtL,aH,aG,mtZ,and_self,eq_self,or_true,true_or,a7,he3,aZ,a6,Int.reduceSub,or_self])
set_option maxHeartbeats 2000000 in
set_option maxRecDepth 100000 in
instance Nc (c:bV):CM En (jg c) 75 [(dM c)] (fun y=> .agg [.int .i64 y.Kind,.int .i64 y.N,.sl none 1 false (y.B.map (V.int .u8)),.sl none 4 true (y.L.map aw)]) (fun _=> []):=by
 refine cmQ fun r hM=> ?_
 rw [jg.eq_1] at hM
 refine aO aA aK [2] Tryz.func75 rfl Tryz.ntmps75 (by kernel_rfl) fun hw=>aL ?_
 refine spQ ?_
 replace hw:=nzQ hw
 refine l9 ?_
 try refine spQ ?_
 refine me _ (⟨[(1,.ptr 0 0),(2,.ptr 1 0),(3,.ptr 2 0)],[(0,.pvar 41 true ((dM c))),(1,.var 4 true (.agg [.int .i64 0,.int .i64 0,.sl (some true) 1 false [],.sl (some true) 4 true []])),(2,.var 1 true (.agg [.sl (some true) 4 true []]))],3⟩:St) (uj (S:=⟨_,_,_⟩) 0 (n:=41) (g:=true) (d:=(dM c)) clQ clQ) sbQ sbQ ?_
 try refine spQ ?_
 have hM0:=hM;clear hM;obtain ⟨x1,hx2,hM⟩:=ay hM0;clear hM0
 have hcx1:=Al (some true) (some false) kU ([c.Bank,c.Epoch,c.Denom,c.Depth,c.A]:List Int) (by (have h0:kU.l.length=0:=rfl;omega))
 rw [←hx2] at hcx1
 refine yI [2,4] hcx1 ((yr 2 0 102 rfl rfl (by decide)).trans (jK 3 (T:=3) (n:=1) (g:=false) (z:=(some false)) (l:=([c.Bank,c.Epoch,c.Denom,c.Depth,c.A]:List Int).map (V.int .i64)) clQ).toQ) (by decide) (by simp only [go_sem,aE,aF,List.length_replicate,az,Int.toNat_natCast,↓reduceIte,Nat.reduceEqDiff,Nat.reduceAdd,Int.reduceAdd,Nat.reduceMul,Nat.reduceLeDiff,Nat.reduceLT,Int.reduceLE,Int.reduceLT,Int.reduceNeg,Int.reduceToNat,mt,mtL,aH,aG,mtZ,and_self,eq_self,or_true,true_or]) (by simp only [go_sem,aE,aF,List.length_replicate,az,Int.toNat_natCast,↓reduceIte,Nat.reduceEqDiff,Nat.reduceAdd,Int.reduceAdd,Nat.reduceMul,Nat.reduceLeDiff,Nat.reduceLT,Int.reduceLE,Int.reduceLT,Int.reduceNeg,Int.reduceToNat,mt,mtL,aH,aG,mtZ,and_self,eq_self,or_true,true_or]) (fun hw3=> ?_)
 replace hw3:=nzQ hw3
 refine spQ ?_
 have hq4:=zI hx2
 replace hq4:=nzQ hq4
 have hM0:=hM;clear hM;obtain ⟨x5,hx6,hM⟩:=ay hM0;clear hM0
 have hcx5:=II none (some false) x1 (aC 32 c.Root) (by (have h0:kU.l.length=0:=rfl;omega))
 rw [←hx6] at hcx5
 refine dK [2,4] hcx5 (by decide) (by simp only [go_sem,aE,aF,List.length_replicate,az,Int.toNat_natCast,↓reduceIte,Nat.reduceEqDiff,Nat.reduceAdd,Int.reduceAdd,Nat.reduceMul,Nat.reduceLeDiff,Nat.reduceLT,Int.reduceLE,Int.reduceLT,Int.reduceNeg,Int.reduceToNat,mt,mtL,aH,aG,mtZ,and_self,eq_self,or_true,true_or]) (by simp only [go_sem,aE,aF,List.length_replicate,az,Int.toNat_natCast,↓reduceIte,Nat.reduceEqDiff,Nat.reduceAdd,Int.reduceAdd,Nat.reduceMul,Nat.reduceLeDiff,Nat.reduceLT,Int.reduceLE,Int.reduceLT,Int.reduceNeg,Int.reduceToNat,mt,mtL,aH,aG,mtZ,and_self,eq_self,or_true,true_or]) (fun hw7=> ?_)
 replace hw7:=nzQ hw7
 refine spQ ?_
 have hq8:=Hy hx6
 replace hq8:=nzQ hq8
 have hM0:=hM;clear hM;obtain ⟨x9,hx10,hM⟩:=ay hM0;clear hM0
 have hcx9:=Al none (some false) x5 ([c.Sign.Z,c.Sign.A,c.Sign.B,c.Sign.R]:List Int) (by (have h0:kU.l.length=0:=rfl;omega))
 rw [←hx10] at hcx9
 refine yJ [2,4] hcx9 (jK 5 (T:=3) (n:=1) (g:=false) (z:=(some false)) (l:=([c.Sign.Z,c.Sign.A,c.Sign.B,c.Sign.R]:List Int).map (V.int .i64)) clQ) (by decide) (by simp only [go_sem,aE,aF,List.length_replicate,az,Int.toNat_natCast,↓reduceIte,Nat.reduceEqDiff,Nat.reduceAdd,Int.reduceAdd,Nat.reduceMul,Nat.reduceLeDiff,Nat.reduceLT,Int.reduceLE,Int.reduceLT,Int.reduceNeg,Int.reduceToNat,mt,mtL,aH,aG,mtZ,and_self,eq_self,or_true,true_or]) (by simp only [go_sem,aE,aF,List.length_replicate,az,Int.toNat_natCast,↓reduceIte,Nat.reduceEqDiff,Nat.reduceAdd,Int.reduceAdd,Nat.reduceMul,Nat.reduceLeDiff,Nat.reduceLT,Int.reduceLE,Int.reduceLT,Int.reduceNeg,Int.reduceToNat,mt,mtL,aH,aG,mtZ,and_self,eq_self,or_true,true_or]) (fun hw11=> ?_)
 replace hw11:=nzQ hw11
 refine spQ ?_
 have hq12:=zI hx10
 replace hq12:=nzQ hq12
 subst hM
 exact ar lfQ
set_option maxHeartbeats 2000000 in
set_option maxRecDepth 100000 in
instance Nd (l:(List ab)):CM En (oH l) 116 [.sl none 4 true (l.map aw)] (fun y=> .agg [.int .i64 y.Kind,.int .i64 y.N,.sl none 1 false (y.B.map (V.int .u8)),.sl none 4 true (y.L.map aw)]) (fun _=> []):=by
 refine cmQ fun r hM=> ?_
 rw [oH.eq_1] at hM
 refine aO aA aK noJ Tryz.func116 rfl Tryz.ntmps116 (by kernel_rfl) fun hw=>aL ?_
 refine spQ ?_
 replace hw:=nzQ hw
 subst hM
 exact ar lfQ
set_option maxHeartbeats 2000000 in
set_option maxRecDepth 100000 in
theorem IJ (s:aS) (hp0:zX s):CM En (jX s) 74 [(cB s)] (fun y=> .agg [.int .i64 y.Kind,.int .i64 y.N,.sl none 1 false (y.B.map (V.int .u8)),.sl none 4 true (y.L.map aw)]) (fun _=> []):=by
 refine cmQ fun r hM=> ?_
 rw [jX.eq_1] at hM
 refine aO aA aK [13] Tryz.func74 rfl Tryz.ntmps74 (by kernel_rfl) fun hw=>aL ?_
 refine spQ ?_
 replace hw:=nzQ hw
 have hM0:=hM;clear hM;obtain ⟨f1,d1,hf1,hd1,hM⟩:=bd hM0;clear hM0
 refine dW (fun n S=> ∃p:Int×List Int,S=(⟨[(1,.ptr 0 0),(2,.ptr 1 0),(3,.own 2),(10,.sl none 3 true (s.Leaves.map eK)),(11,.int .i64 (s.Leaves.length:Int)),(12,.int .i64 p.1)],[(0,.var 80 true ((cB s))),(1,.var 4 true (.agg [.int .i64 0,.int .i64 0,.sl (some true) 1 false [],.sl (some true) 4 true []])),(2,.own 3 1 false none (p.2.map (V.int .i64)))],3⟩:St)∧((0≤p.1)∧(p.1≤(s.Leaves.length:Int))∧(((p.2).length:Int)=3*p.1))∧((s.Leaves.length:Int) - p.1).toNat<n∧ao n f1 d1 p=r) (((s.Leaves.length:Int) - 0).toNat+1) _ _ (jI 3 3 rfl (by decide)) sbQ sbQ ⟨(0,([]:List Int)),rfl,⟨by (first|exact omQ|(clear hM;first|(have h9:=hp0.1;have h8:=hp0.2;exact ah))),by (first|exact omQ|(clear hM;first|(have h9:=hp0.1;have h8:=hp0.2;exact ah))),by (first|exact omQ|(clear hM;first|(have h9:=hp0.1;have h8:=hp0.2;exact ah)))⟩,(Nat.lt_succ_self _),hM⟩ ?_
 clear hM
 rintro n1 S ⟨p1,rfl,hfa1,hm1,hM⟩
 have hM0:=hM;clear hM;obtain ⟨ag1,hag1,hM⟩:=bf hM0 (by omega) hf1;clear hM0
 replace hfa1:=nzQ hfa1
 replace hm1:=nzQ hm1
 have ha1:aq .i64 p1.1 1=p1.1+1:=bp (by (first|exact omQ|(clear hM;first|(have h9:=hp0.1;have h8:=hp0.2;exact ah)))) (by (first|exact omQ|(clear hM;first|(have h9:=hp0.1;have h8:=hp0.2;exact ah))))
 refine aa ha1 ?_
 refine aB (fun h2=> ?_) (fun h2=> ?_)
 ·rw [if_pos h2] at hM
  refine aa (And.intro ha1 h2) ?_
  have nh2:=nzQ h2
  try have hr3:=mpQ nh2
  refine aN (by (first|exact omQ|(clear hM;first|(have h9:=hp0.1;have h8:=hp0.2;exact ah)))) ?_
  have he4:=fun d=>aV (l:=s.Leaves) (f:=eK) (i:=p1.1) (by (first|exact omQ|(clear hM;first|(have h9:=hp0.1;have h8:=hp0.2;exact ah)))) d
  refine aa (And.intro ha1 he4) ?_
  refine aN (by (first|exact omQ|(clear hM;first|(have h9:=hp0.1;have h8:=hp0.2;exact ah)))) ?_
  refine aa (And.intro ha1 he4) ?_
  refine b_ (n1 - 1) _ (by omega) sbQ sbQ ⟨((p1.1+1),(p1.2++([(gt s.Leaves p1.1).B,(gt s.Leaves p1.1).R1,(gt s.Leaves p1.1).R2]:List Int))),rfl,⟨by (first|exact omQ|(clear hM;first|(have h9:=hp0.1;have h8:=hp0.2;exact ah))),by (first|exact omQ|(clear hM;first|(have h9:=hp0.1;have h8:=hp0.2;exact ah))),by (first|exact omQ|(clear hM;first|(have h9:=hp0.1;have h8:=hp0.2;exact ah)))⟩,by (first|exact omQ|(clear hM;first|(have h9:=hp0.1;have h8:=hp0.2;exact ah))),ca hM hag1⟩
 ·rw [if_neg (an h2)] at hM
  refine aa (And.intro ha1 h2) ?_
  have nh2:=nzQ h2
  try have hr5:=mpQ nh2
  refine l9 ?_
  try refine aa ha1 ?_
  have hM0:=hM;clear hM;obtain ⟨f6,d6,hf6,hd6,hM⟩:=bd hM0;clear hM0
  refine bF (fun n S=> ∃p:Int×List ab,S=(⟨[(1,.ptr 0 0),(2,.ptr 1 0),(3,.own 2),(6,.own 3),(33,.sl none 32 true (s.Path.L.map bP)),(34,.int .i64 (s.Path.L.length:Int)),(35,.int .i64 p.1)],[(0,.var 80 true ((cB s))),(1,.var 4 true (.agg [.int .i64 0,.int .i64 0,.sl (some true) 1 false [],.sl (some true) 4 true []])),(2,.own 3 1 false none (p1.2.map (V.int .i64))),(3,.own 102 4 true none (p.2.map aw))],4⟩:St)∧((0≤p.1)∧(p.1≤(s.Path.L.length:Int))∧(((p.2).length:Int)≤p.1+(([({Kind:=1,N:=s.Path.Index,B:=([]:List Int),L:=([]:List ab)}:ab)]:List ab)).length))∧((s.Path.L.length:Int) - p.1).toNat<n∧ao n f6 d6 p=r) (((s.Path.L.length:Int) - 0).toNat+1) _ sbQ sbQ ⟨(0,([({Kind:=1,N:=s.Path.Index,B:=([]:List Int),L:=([]:List ab)}:ab)]:List ab)),rfl,⟨by (first|exact omQ|(clear hM;first|(have h9:=hp0.1;have h8:=hp0.2;exact ah))),by (first|exact omQ|(clear hM;first|(have h9:=hp0.1;have h8:=hp0.2;exact ah))),by (first|exact omQ|(clear hM;first|(have h9:=hp0.1;have h8:=hp0.2;exact ah)))⟩,(Nat.lt_succ_self _),hM⟩ ?_
  clear hM
  rintro n6 S ⟨p6,rfl,hfa6,hm6,hM⟩
  have hM0:=hM;clear hM;obtain ⟨ag6,hag6,hM⟩:=bf hM0 (by omega) hf6;clear hM0
  replace hfa6:=nzQ hfa6
  replace hm6:=nzQ hm6
  have ha6:aq .i64 p6.1 1=p6.1+1:=bp (by (first|exact omQ|(clear hM;first|(have h9:=hp0.1;have h8:=hp0.2;exact ah)))) (by (first|exact omQ|(clear hM;first|(have h9:=hp0.1;have h8:=hp0.2;exact ah))))
  refine aa (And.intro ha1 ha6) ?_
  refine aB (fun h7=> ?_) (fun h7=> ?_)
  ·rw [if_pos h7] at hM
   refine aa (And.intro ha1 (And.intro ha6 h7)) ?_
   have nh7:=nzQ h7
   try have hr8:=mpQ nh7
   refine aN (by (first|exact omQ|(clear hM;first|(have h9:=hp0.1;have h8:=hp0.2;exact ah)))) ?_
   have he9:=fun d=>aV (l:=s.Path.L) (f:=bP) (i:=p6.1) (by (first|exact omQ|(clear hM;first|(have h9:=hp0.1;have h8:=hp0.2;exact ah)))) d
   refine aa (And.intro ha1 (And.intro ha6 he9)) ?_
   have hM0:=hM;clear hM;obtain ⟨x10,hx11,hM⟩:=ay hM0;clear hM0
   have hcx10:=cmU hx11
   refine aQ hcx10 (ax (And.intro ha1 (And.intro ha6 he9))) (ax (And.intro ha1 (And.intro ha6 he9))) (fun hw12=> ?_)
   replace hw12:=nzQ hw12
   refine aa (And.intro ha1 (And.intro ha6 he9)) ?_
   refine aN (by (first|exact omQ|(clear hM;first|(have h9:=hp0.1;have h8:=hp0.2;exact ah)))) ?_
   refine aa (And.intro ha1 (And.intro ha6 he9)) ?_
   refine b_ (n6 - 1) _ (by omega) sbQ sbQ ⟨((p6.1+1),(p6.2++([x10]:List ab))),rfl,⟨by (first|exact omQ|(clear hM;first|(have h9:=hp0.1;have h8:=hp0.2;exact ah))),by (first|exact omQ|(clear hM;first|(have h9:=hp0.1;have h8:=hp0.2;exact ah))),by (first|exact omQ|(clear hM;first|(have h9:=hp0.1;have h8:=hp0.2;exact ah)))⟩,by (first|exact omQ|(clear hM;first|(have h9:=hp0.1;have h8:=hp0.2;exact ah))),ca hM hag6⟩
  ·rw [if_neg (an h7)] at hM
   refine aa (And.intro ha1 (And.intro ha6 h7)) ?_
   have nh7:=nzQ h7
   try have hr13:=mpQ nh7
   refine me _ (⟨[(1,.ptr 0 0),(2,.ptr 1 0),(3,.sl none 1 false (p1.2.map (V.int .i64))),(6,.sl none 4 true (p6.2.map aw))],[(0,.var 80 true ((cB s))),(1,.var 4 true (.agg [.int .i64 0,.int .i64 0,.sl (some true) 1 false [],.sl (some true) 4 true []])),(2,.pown 1 false none (p1.2.map (V.int .i64))),(3,.pown 4 true none (p6.2.map aw))],4⟩:St) ((((kM (S:=⟨_,_,_⟩) 2 (T:=3) (n:=1) (g:=false) (z:=none) (l:=p1.2.map (V.int .i64)) (ax (And.intro ha1 ha6))).trans (l6 (S:=⟨_,_,_⟩) 3 2 (n:=1) (g:=false) (z:=none) (l:=p1.2.map (V.int .i64)) (ax (And.intro ha1 ha6)) (ax (And.intro ha1 ha6)))).trans (kM (S:=⟨_,_,_⟩) 3 (T:=102) (n:=4) (g:=true) (z:=none) (l:=p6.2.map aw) (ax (And.intro ha1 ha6)))).trans (l6 (S:=⟨_,_,_⟩) 6 3 (n:=4) (g:=true) (z:=none) (l:=p6.2.map aw) (ax (And.intro ha1 ha6)) (ax (And.intro ha1 ha6)))) sbQ sbQ ?_
   try refine aa (And.intro ha1 ha6) ?_
   refine cG 74 26 [45,46,47,48,49,50,51,52,53,54,55,56,57,58,59,60,61,62,63,64,65,66,67,68,69,70] [] ([[],[0],[0,1],[],[3],[3,4],[],[6],[6,7],[3,4,5,6,7,8],[0,1,2,3,4,5,6,7,8,9],[],[11],[11,12],[0,1,2,3,4,5,6,7,8,9,10,11,12,13],[],[15],[15,16],[],[18],[18,19],[15,16,17,18,19,20],[0,1,2,3,4,5,6,7,8,9,10,11,12,13,14,15,16,17,18,19,20,21],[],[0,1,2,3,4,5,6,7,8,9,10,11,12,13,14,15,16,17,18,19,20,21,22,23],[]]++[List.range 26,List.range 27,List.range 28,List.range 29]) [(9,13),(21,25)] (by kernel_rfl) (by exact alQ) ?_
   refine aa (And.intro ha1 ha6) ?_
   have hM0:=hM;clear hM;obtain ⟨x14,hx15,hM⟩:=ay hM0;clear hM0
   have hcx14:=cmU hx15
   refine dl hcx14 (ax (And.intro ha1 ha6)) (ax (And.intro ha1 ha6)) ?_
   refine aa (And.intro ha1 ha6) ?_
   have hM0:=hM;clear hM;obtain ⟨x16,hx17,hM⟩:=ay hM0;clear hM0
   have hcx16:=cmU hx17
   refine dl hcx16 (ax (And.intro ha1 ha6)) (ax (And.intro ha1 ha6)) ?_
   refine aa (And.intro ha1 ha6) ?_
   have hM0:=hM;clear hM;obtain ⟨x18,hx19,hM⟩:=ay hM0;clear hM0
   have hcx18:=cmU hx19
   refine dl hcx18 (ax (And.intro ha1 ha6)) (ax (And.intro ha1 ha6)) ?_
   refine aa (And.intro ha1 ha6) ?_
   have hM0:=hM;clear hM;obtain ⟨x20,hx21,hM⟩:=ay hM0;clear hM0
   have hcx20:=cmU hx21
   refine dl hcx20 (ax (And.intro ha1 ha6)) (ax (And.intro ha1 ha6)) ?_
   refine aa (And.intro ha1 ha6) ?_
   have hM0:=hM;clear hM;obtain ⟨x22,hx23,hM⟩:=ay hM0;clear hM0
   have hcx22:=cmU hx23
   refine dl hcx22 (ax (And.intro ha1 ha6)) (ax (And.intro ha1 ha6)) ?_
   refine aa (And.intro ha1 ha6) ?_
   have hM0:=hM;clear hM;obtain ⟨x24,hx25,hM⟩:=ay hM0;clear hM0
   have hcx24:=cmU hx25
   refine aQ hcx24 (ax (And.intro ha1 ha6)) (ax (And.intro ha1 ha6)) (fun hw26=> ?_)
   replace hw26:=nzQ hw26
   refine aa (And.intro ha1 ha6) ?_
   have hM0:=hM;clear hM;obtain ⟨x27,hx28,hM⟩:=ay hM0;clear hM0
   have hcx27:=cmU hx28
   refine nS hcx27 (jK 30 (T:=102) (n:=4) (g:=true) (z:=(some false)) (l:=([x14,x16,x18,x20,x22,x24]:List ab).map aw) (ax (And.intro ha1 ha6))) (ax (And.intro ha1 ha6)) (fun hw29=> ?_)
   replace hw29:=nzQ hw29
   refine aa (And.intro ha1 ha6) ?_
   subst hM
   exact ar (av (And.intro ha1 (And.intro ha6 (And.intro h2 h7))))
set_option maxHeartbeats 2000000 in
set_option maxRecDepth 100000 in
instance Nf (l:(List ab)):CM En (cY l) 36 [.sl none 4 true (l.map aw)] (fun y=> .agg [.int .i64 y.Kind,.int .i64 y.N,.sl none 1 false (y.B.map (V.int .u8)),.sl none 4 true (y.L.map aw)]) (fun _=> []):=by
 refine cmQ fun r hM=> ?_
 rw [cY.eq_1] at hM
 refine aO aA aK noJ Tryz.func36 rfl Tryz.ntmps36 (by kernel_rfl) fun hw=>aL ?_
 refine spQ ?_
 replace hw:=nzQ hw
 subst hM
 exact ar lfQ
set_option maxHeartbeats 2000000 in
set_option maxRecDepth 100000 in
theorem IK (h_:aX) (hp0:oO h_):CM En (iE h_) 33 [(bL h_)] (fun y=> .agg [.int .i64 y.Kind,.int .i64 y.N,.sl none 1 false (y.B.map (V.int .u8)),.sl none 4 true (y.L.map aw)]) (fun _=> []):=by
 refine cmQ fun r hM=> ?_
 rw [iE.eq_1] at hM
 refine aO aA aK noJ Tryz.func33 rfl Tryz.ntmps33 (by kernel_rfl) fun hw=>aL ?_
 refine spQ ?_
 replace hw:=nzQ hw
 have h0_0:=Ag hp0
 have hM0:=hM;clear hM;obtain ⟨f1,d1,hf1,hd1,hM⟩:=bd hM0;clear hM0
 refine bF (fun n S=> ∃p:Int×List Int,S=(⟨[(1,.ptr 0 0),(2,.ptr 1 0),(3,.own 2),(22,.sl none 2 true (h_.Secret.X.map (fun l=> .agg [.int .i64 (gt l 0),.int .i64 (gt l 1)]))),(23,.int .i64 (h_.Secret.X.length:Int)),(24,.int .i64 p.1)],[(0,.var 46 true ((bL h_))),(1,.var 4 true (.agg [.int .i64 0,.int .i64 0,.sl (some true) 1 false [],.sl (some true) 4 true []])),(2,.own 3 1 false none (p.2.map (V.int .i64)))],3⟩:St)∧((0≤p.1)∧(p.1≤(h_.Secret.X.length:Int))∧(((p.2).length:Int)=2+2*p.1))∧((h_.Secret.X.length:Int) - p.1).toNat<n∧ao n f1 d1 p=r) (((h_.Secret.X.length:Int) - 0).toNat+1) _ sbQ sbQ ⟨(0,([h_.Secret.U,h_.Secret.S]:List Int)),rfl,⟨omQ,omQ,omQ⟩,(Nat.lt_succ_self _),hM⟩ ?_
 clear hM
 rintro n1 S ⟨p1,rfl,hfa1,hm1,hM⟩
 have hM0:=hM;clear hM;obtain ⟨ag1,hag1,hM⟩:=bf hM0 (by omega) hf1;clear hM0
 replace hfa1:=nzQ hfa1
 replace hm1:=nzQ hm1
 have ha1:aq .i64 p1.1 1=p1.1+1:=bp omQ omQ
 refine aa ha1 ?_
 refine aB (fun h2=> ?_) (fun h2=> ?_)
 ·rw [if_pos h2] at hM
  refine aa (And.intro ha1 h2) ?_
  have nh2:=nzQ h2
  try have hr3:=mpQ nh2
  have hF:=(And.intro ha1 h2)
  exact auQ
 ·rw [if_neg (an h2)] at hM
  refine aa (And.intro ha1 h2) ?_
  have nh2:=nzQ h2
  try have hr5:=mpQ nh2
  have hM0:=hM;clear hM;obtain ⟨f6,d6,hf6,hd6,hM⟩:=bd hM0;clear hM0
  refine dW (fun n S=> ∃p:Int×List Int,S=(⟨[(1,.ptr 0 0),(2,.ptr 1 0),(3,.own 2),(6,.own 3),(37,.sl none 1 false (h_.Spent.map V.bool)),(38,.int .i64 (h_.Spent.length:Int)),(39,.int .i64 p.1)],[(0,.var 46 true ((bL h_))),(1,.var 4 true (.agg [.int .i64 0,.int .i64 0,.sl (some true) 1 false [],.sl (some true) 4 true []])),(2,.own 3 1 false none (p1.2.map (V.int .i64))),(3,.own 3 1 false none (p.2.map (V.int .i64)))],4⟩:St)∧((0≤p.1)∧(p.1≤(h_.Spent.length:Int))∧(((p.2).length:Int)=p.1))∧((h_.Spent.length:Int) - p.1).toNat<n∧ao n f6 d6 p=r) (((h_.Spent.length:Int) - 0).toNat+1) _ _ (jI 6 3 rfl (by decide)) sbQ sbQ ⟨(0,([]:List Int)),rfl,⟨omQ,omQ,omQ⟩,(Nat.lt_succ_self _),hM⟩ ?_
  clear hM
  rintro n6 S ⟨p6,rfl,hfa6,hm6,hM⟩
  have hM0:=hM;clear hM;obtain ⟨ag6,hag6,hM⟩:=bf hM0 (by omega) hf6;clear hM0
  replace hfa6:=nzQ hfa6
  replace hm6:=nzQ hm6
  have ha6:aq .i64 p6.1 1=p6.1+1:=bp omQ omQ
  refine aa (And.intro ha1 ha6) ?_
  refine aB (fun h7=> ?_) (fun h7=> ?_)
  ·rw [if_pos h7] at hM
   refine aa (And.intro ha1 (And.intro ha6 h7)) ?_
   have nh7:=nzQ h7
   try have hr8:=mpQ nh7
   have hF:=(And.intro ha1 (And.intro h2 (And.intro ha6 h7)))
   exact auQ
  ·rw [if_neg (an h7)] at hM
   refine aa (And.intro ha1 (And.intro ha6 h7)) ?_
   have nh7:=nzQ h7
   try have hr13:=mpQ nh7
   have hM0:=hM;clear hM;obtain ⟨f14,d14,hf14,hd14,hM⟩:=bd hM0;clear hM0
   refine dW (fun n S=> ∃p:Int×List ab,S=(⟨[(1,.ptr 0 0),(2,.ptr 1 0),(3,.own 2),(6,.own 3),(10,.own 4),(50,.sl none 80 true (h_.Chain.map cB)),(51,.int .i64 (h_.Chain.length:Int)),(52,.int .i64 p.1)],[(0,.var 46 true ((bL h_))),(1,.var 4 true (.agg [.int .i64 0,.int .i64 0,.sl (some true) 1 false [],.sl (some true) 4 true []])),(2,.own 3 1 false none (p1.2.map (V.int .i64))),(3,.own 3 1 false none (p6.2.map (V.int .i64))),(4,.own 102 4 true none (p.2.map aw))],5⟩:St)∧((0≤p.1)∧(p.1≤(h_.Chain.length:Int))∧(((p.2).length:Int)=p.1))∧((h_.Chain.length:Int) - p.1).toNat<n∧ao n f14 d14 p=r) (((h_.Chain.length:Int) - 0).toNat+1) _ _ (jI 10 102 rfl (by decide)) sbQ sbQ ⟨(0,([]:List ab)),rfl,⟨omQ,omQ,omQ⟩,(Nat.lt_succ_self _),hM⟩ ?_
   clear hM
   rintro n14 S ⟨p14,rfl,hfa14,hm14,hM⟩
   have hM0:=hM;clear hM;obtain ⟨ag14,hag14,hM⟩:=bf hM0 (by omega) hf14;clear hM0
   replace hfa14:=nzQ hfa14
   replace hm14:=nzQ hm14
   have ha14:aq .i64 p14.1 1=p14.1+1:=bp omQ omQ
   refine aa (And.intro ha1 (And.intro ha6 ha14)) ?_
   refine aB (fun h15=> ?_) (fun h15=> ?_)
   ·rw [if_pos h15] at hM
    refine aa (And.intro ha1 (And.intro ha6 (And.intro ha14 h15))) ?_
    have nh15:=nzQ h15
    try have hr16:=mpQ nh15
    refine aN omQ ?_
    have he17:=fun d=>aV (l:=h_.Chain) (f:=cB) (i:=p14.1) omQ d
    refine aa (And.intro ha1 (And.intro ha6 (And.intro ha14 he17))) ?_
    have hM0:=hM;clear hM;obtain ⟨x18,hx19,hM⟩:=ay hM0;clear hM0
    have hcx18:=cmH hx19 (IJ (gt h_.Chain p14.1) (by (exact HN (hp0.2.2.2 _ (dN (by omega))))))
    refine aQ hcx18 (ax (And.intro ha1 (And.intro ha6 (And.intro ha14 he17)))) (ax (And.intro ha1 (And.intro ha6 (And.intro ha14 he17)))) (fun hw20=> ?_)
    replace hw20:=nzQ hw20
    refine aa (And.intro ha1 (And.intro ha6 (And.intro ha14 he17))) ?_
    have hF:=(And.intro ha1 (And.intro h2 (And.intro ha6 (And.intro h7 (And.intro ha14 (And.intro h15 he17))))))
    exact auQ
   ·rw [if_neg (an h15)] at hM
    refine aa (And.intro ha1 (And.intro ha6 (And.intro ha14 h15))) ?_
    have nh15:=nzQ h15
    try have hr21:=mpQ nh15
    have hM0:=hM;clear hM;obtain ⟨x22,hx23,hM⟩:=ay hM0;clear hM0
    have hcx22:=cmU hx23
    refine aQ hcx22 (ax (And.intro ha1 (And.intro ha6 ha14))) (ax (And.intro ha1 (And.intro ha6 ha14))) (fun hw24=> ?_)
    replace hw24:=nzQ hw24
    refine aa (And.intro ha1 (And.intro ha6 ha14)) ?_
    have hM0:=hM;clear hM;obtain ⟨x25,hx26,hM⟩:=ay hM0;clear hM0
    have hcx25:=cmU hx26
    refine nS hcx25 (jK 2 (T:=3) (n:=1) (g:=false) (z:=none) (l:=p1.2.map (V.int .i64)) (ax (And.intro ha1 (And.intro ha6 ha14)))) (ax (And.intro ha1 (And.intro ha6 ha14))) (fun hw27=> ?_)
    replace hw27:=nzQ hw27
    refine aa (And.intro ha1 (And.intro ha6 ha14)) ?_
    have hM0:=hM;clear hM;obtain ⟨x28,hx29,hM⟩:=ay hM0;clear hM0
    have hcx28:=cmU hx29
    refine nS hcx28 (jK 3 (T:=3) (n:=1) (g:=false) (z:=none) (l:=p6.2.map (V.int .i64)) (ax (And.intro ha1 (And.intro ha6 ha14)))) (ax (And.intro ha1 (And.intro ha6 ha14))) (fun hw30=> ?_)
    replace hw30:=nzQ hw30
    refine aa (And.intro ha1 (And.intro ha6 ha14)) ?_
    have hM0:=hM;clear hM;obtain ⟨x31,hx32,hM⟩:=ay hM0;clear hM0
    have hcx31:=cmU hx32
    refine nS hcx31 (jK 4 (T:=102) (n:=4) (g:=true) (z:=none) (l:=p14.2.map aw) (ax (And.intro ha1 (And.intro ha6 ha14)))) (ax (And.intro ha1 (And.intro ha6 ha14))) (fun hw33=> ?_)
    replace hw33:=nzQ hw33
    refine aa (And.intro ha1 (And.intro ha6 ha14)) ?_
    have hM0:=hM;clear hM;obtain ⟨x34,hx35,hM⟩:=ay hM0;clear hM0
    have hcx34:=cmU hx35
    refine nS hcx34 (jK 5 (T:=102) (n:=4) (g:=true) (z:=(some false)) (l:=([x22,x25,x28,x31]:List ab).map aw) (ax (And.intro ha1 (And.intro ha6 ha14)))) (ax (And.intro ha1 (And.intro ha6 ha14))) (fun hw36=> ?_)
    replace hw36:=nzQ hw36
    refine aa (And.intro ha1 (And.intro ha6 ha14)) ?_
    subst hM
    exact ar (av (And.intro ha1 (And.intro ha6 (And.intro ha14 (And.intro h2 (And.intro h7 h15))))))
instance (priority:=1002):DRD 8 78 43 [32,33,34,35,36,37,38,39,40,41,42,43,44,45,46,47,48,49,50,51,52,53,54,55,56,57,58,59,60,61,62,63,64,65,66,67,68,69,70,71,72,73,74] [] ([[],[0],[],[2],[],[4],[],[6],[],[8],[],[10],[0,1,2,3,4,5,6,7,8,9,10,11],[0,1,2,3,4,5,6,7,8,9,10,11,12],[],[0,1,2,3,4,5,6,7,8,9,10,11,12,13,14],[],[16],[16,17],[],[19],[19,20],[],[22],[22,23],[16,17,18,19,20,21,22,23,24],[0,1,2,3,4,5,6,7,8,9,10,11,12,13,14,15,16,17,18,19,20,21,22,23,24,25],[],[27],[],[29],[],[31],[],[33],[],[35],[],[37],[27,28,29,30,31,32,33,34,35,36,37,38],[0,1,2,3,4,5,6,7,8,9,10,11,12,13,14,15,16,17,18,19,20,21,22,23,24,25,26,27,28,29,30,31,32,33,34,35,36,37,38,39],[],[41]]++[List.range 43,List.range 44,List.range 45,List.range 46]) [(12,16),(25,29),(39,43)]:=⟨trivial⟩
set_option maxHeartbeats 2000000 in
set_option maxRecDepth 100000 in
theorem IL (w:bg) (hp0:w.Secret.X.length≤1000):CM En (iF w) 34 [(cc w)] (fun y=> .agg [.int .i64 y.Kind,.int .i64 y.N,.sl none 1 false (y.B.map (V.int .u8)),.sl none 4 true (y.L.map aw)]) (fun _=> []):=by
 refine cmQ fun r hM=> ?_
 rw [iF.eq_1] at hM
 refine aO aA aK [8] Tryz.func34 rfl Tryz.ntmps34 (by kernel_rfl) fun hw=>aL ?_
 refine spQ ?_
 replace hw:=nzQ hw
 have hM0:=hM;clear hM;obtain ⟨f1,d1,hf1,hd1,hM⟩:=bd hM0;clear hM0
 refine bF (fun n S=> ∃p:Int×List Int,S=(⟨[(1,.ptr 0 0),(2,.ptr 1 0),(3,.own 2),(16,.sl none 2 true (w.Secret.X.map (fun l=> .agg [.int .i64 (gt l 0),.int .i64 (gt l 1)]))),(17,.int .i64 (w.Secret.X.length:Int)),(18,.int .i64 p.1)],[(0,.var 59 true ((cc w))),(1,.var 4 true (.agg [.int .i64 0,.int .i64 0,.sl (some true) 1 false [],.sl (some true) 4 true []])),(2,.own 3 1 false none (p.2.map (V.int .i64)))],3⟩:St)∧((0≤p.1)∧(p.1≤(w.Secret.X.length:Int))∧(((p.2).length:Int)=2+2*p.1))∧((w.Secret.X.length:Int) - p.1).toNat<n∧ao n f1 d1 p=r) (((w.Secret.X.length:Int) - 0).toNat+1) _ sbQ sbQ ⟨(0,([w.Secret.U,w.Secret.S]:List Int)),rfl,⟨omQ,omQ,omQ⟩,(Nat.lt_succ_self _),hM⟩ ?_
 clear hM
 rintro n1 S ⟨p1,rfl,hfa1,hm1,hM⟩
 have hM0:=hM;clear hM;obtain ⟨ag1,hag1,hM⟩:=bf hM0 (by omega) hf1;clear hM0
 replace hfa1:=nzQ hfa1
 replace hm1:=nzQ hm1
 have ha1:aq .i64 p1.1 1=p1.1+1:=bp omQ omQ
 refine aa ha1 ?_
 refine aB (fun h2=> ?_) (fun h2=> ?_)
 ·rw [if_pos h2] at hM
  refine aa (And.intro ha1 h2) ?_
  have nh2:=nzQ h2
  try have hr3:=mpQ nh2
  have hF:=(And.intro ha1 h2)
  exact auQ
 ·rw [if_neg (an h2)] at hM
  refine aa (And.intro ha1 h2) ?_
  have nh2:=nzQ h2
  try have hr5:=mpQ nh2
  refine l9 ?_
  try refine aa ha1 ?_
  refine me _ (⟨[(1,.ptr 0 0),(2,.ptr 1 0),(3,.sl none 1 false (p1.2.map (V.int .i64))),(6,.ptr 3 0)],[(0,.var 59 true ((cc w))),(1,.var 4 true (.agg [.int .i64 0,.int .i64 0,.sl (some true) 1 false [],.sl (some true) 4 true []])),(2,.pown 1 false none (p1.2.map (V.int .i64))),(3,.var 6 true ((qV w.View)))],4⟩:St) ((kM (S:=⟨_,_,_⟩) 2 (T:=3) (n:=1) (g:=false) (z:=none) (l:=p1.2.map (V.int .i64)) (ax ha1)).trans (l6 (S:=⟨_,_,_⟩) 3 2 (n:=1) (g:=false) (z:=none) (l:=p1.2.map (V.int .i64)) (ax ha1) (ax ha1))) sbQ sbQ ?_
  try refine aa ha1 ?_
  have hF:=(And.intro ha1 h2)
  exact auQ
set_option maxHeartbeats 2000000 in
set_option maxRecDepth 100000 in
theorem IM (p_:aP) (hp0:kb p_):CM En (fO p_) 9 [(bw p_)] (fun y=> .tup [.sl none 1 false (y.1.map (V.int .u8)),.int .i64 y.2]) (fun _=> []):=by
 refine cmQ fun r hM=> ?_
 rw [fO.eq_1] at hM
 refine aO aA aK [12] Tryz.func9 rfl Tryz.ntmps9 (by kernel_rfl) fun hw=>aL ?_
 refine spQ ?_
 replace hw:=nzQ hw
 have h0_0:=H4 hp0
 have hM0:=hM;clear hM;obtain ⟨f1,d1,hf1,hd1,hM⟩:=bd hM0;clear hM0
 refine dW (fun n S=> ∃p:Int×List ab,S=(⟨[(1,.ptr 0 0),(4,.own 1),(5,.sl (some true) 4 true []),(13,.sl none 46 true (p_.Holdings.map bL)),(14,.int .i64 (p_.Holdings.length:Int)),(15,.int .i64 p.1)],[(0,.var 39 true ((bw p_))),(1,.own 102 4 true none (p.2.map aw))],2⟩:St)∧(((0≤p.1)∧(p.1≤(p_.Holdings.length:Int))∧(((p.2).length:Int)≤p.1))∧((bX (p.2):Int)≤20000*p.1))∧((p_.Holdings.length:Int) - p.1).toNat<n∧ao n f1 d1 p=r) (((p_.Holdings.length:Int) - 0).toNat+1) _ _ (jI 4 102 rfl (by decide)) sbQ sbQ ⟨(0,([]:List ab)),rfl,⟨⟨omQ,omQ,omQ⟩,by (simp only [bX];omega)⟩,(Nat.lt_succ_self _),hM⟩ ?_
 clear hM
 rintro n1 S ⟨p1,rfl,⟨hfa1,hF3_0⟩,hm1,hM⟩
 have hM0:=hM;clear hM;obtain ⟨ag1,hag1,hM⟩:=bf hM0 (by omega) hf1;clear hM0
 replace hfa1:=nzQ hfa1
 replace hm1:=nzQ hm1
 have ha1:aq .i64 p1.1 1=p1.1+1:=bp omQ omQ
 refine aa ha1 ?_
 refine aB (fun h2=> ?_) (fun h2=> ?_)
 ·rw [if_pos h2] at hM
  refine aa (And.intro ha1 h2) ?_
  have nh2:=nzQ h2
  try have hr3:=mpQ nh2
  refine aN omQ ?_
  have he4:=fun d=>aV (l:=p_.Holdings) (f:=bL) (i:=p1.1) omQ d
  refine aa (And.intro ha1 he4) ?_
  have hM0:=hM;clear hM;obtain ⟨x5,hx6,hM⟩:=ay hM0;clear hM0
  have hcx5:=cmH hx6 (IK (gt p_.Holdings p1.1) (by (exact hp0.2.1 _ (dN (by omega)))))
  refine aQ hcx5 (ax (And.intro ha1 he4)) (ax (And.intro ha1 he4)) (fun hw7=> ?_)
  replace hw7:=nzQ hw7
  refine aa (And.intro ha1 he4) ?_
  refine aN omQ ?_
  refine aa (And.intro ha1 he4) ?_
  refine b_ (n1 - 1) _ (by omega) sbQ sbQ ⟨((p1.1+1),(p1.2++([x5]:List ab))),rfl,⟨⟨omQ,omQ,omQ⟩,by (clear hM;have h9:=Id (hp0.2.1 _ (dN (l:=p_.Holdings) (i:=p1.1) (by omega))) ‹_=iE _›;simp only [vi,bX];omega)⟩,omQ,ca hM hag1⟩
 ·rw [if_neg (an h2)] at hM
  refine aa (And.intro ha1 h2) ?_
  have nh2:=nzQ h2
  try have hr8:=mpQ nh2
  refine l9 ?_
  try refine aa ha1 ?_
  have hM0:=hM;clear hM;obtain ⟨f9,d9,hf9,hd9,hM⟩:=bd hM0;clear hM0
  refine dW (fun n S=> ∃p:Int×List ab,S=(⟨[(1,.ptr 0 0),(4,.own 1),(5,.own 2),(26,.sl none 59 true (p_.Open.map cc)),(27,.int .i64 (p_.Open.length:Int)),(28,.int .i64 p.1)],[(0,.var 39 true ((bw p_))),(1,.own 102 4 true none (p1.2.map aw)),(2,.own 102 4 true none (p.2.map aw))],3⟩:St)∧(((0≤p.1)∧(p.1≤(p_.Open.length:Int))∧(((p.2).length:Int)≤p.1))∧((bX (p.2):Int)≤2000*p.1))∧((p_.Open.length:Int) - p.1).toNat<n∧ao n f9 d9 p=r) (((p_.Open.length:Int) - 0).toNat+1) _ _ (jI 5 102 rfl (by decide)) sbQ sbQ ⟨(0,([]:List ab)),rfl,⟨⟨omQ,omQ,omQ⟩,by (simp only [bX];omega)⟩,(Nat.lt_succ_self _),hM⟩ ?_
  clear hM
  rintro n9 S ⟨p9,rfl,⟨hfa9,hF8_0⟩,hm9,hM⟩
  have hM0:=hM;clear hM;obtain ⟨ag9,hag9,hM⟩:=bf hM0 (by omega) hf9;clear hM0
  replace hfa9:=nzQ hfa9
  replace hm9:=nzQ hm9
  have ha9:aq .i64 p9.1 1=p9.1+1:=bp omQ omQ
  refine aa (And.intro ha1 ha9) ?_
  refine aB (fun h10=> ?_) (fun h10=> ?_)
  ·rw [if_pos h10] at hM
   refine aa (And.intro ha1 (And.intro ha9 h10)) ?_
   have nh10:=nzQ h10
   try have hr11:=mpQ nh10
   refine aN omQ ?_
   have he12:=fun d=>aV (l:=p_.Open) (f:=cc) (i:=p9.1) omQ d
   refine aa (And.intro ha1 (And.intro ha9 he12)) ?_
   have hM0:=hM;clear hM;obtain ⟨x13,hx14,hM⟩:=ay hM0;clear hM0
   have hcx13:=cmH hx14 (IL (gt p_.Open p9.1) (by (exact Nat.le_trans (hp0.2.2.2 _ (dN (by omega))) (by decide))))
   refine aQ hcx13 (ax (And.intro ha1 (And.intro ha9 he12))) (ax (And.intro ha1 (And.intro ha9 he12))) (fun hw15=> ?_)
   replace hw15:=nzQ hw15
   refine aa (And.intro ha1 (And.intro ha9 he12)) ?_
   refine aN omQ ?_
   refine aa (And.intro ha1 (And.intro ha9 he12)) ?_
   refine b_ (n9 - 1) _ (by omega) sbQ sbQ ⟨((p9.1+1),(p9.2++([x13]:List ab))),rfl,⟨⟨omQ,omQ,omQ⟩,by (clear hM;have h9:=Ie (hp0.2.2.2 _ (dN (l:=p_.Open) (i:=p9.1) (by omega))) ‹_=iF _›;simp only [vi,bX];omega)⟩,omQ,ca hM hag9⟩
  ·rw [if_neg (an h10)] at hM
   refine aa (And.intro ha1 (And.intro ha9 h10)) ?_
   have nh10:=nzQ h10
   try have hr16:=mpQ nh10
   refine me _ (⟨[(1,.pp 39 true ((bw p_))),(4,.sl none 4 true (p1.2.map aw)),(5,.sl none 4 true (p9.2.map aw))],[(0,.pvar 39 true ((bw p_))),(1,.pown 4 true none (p1.2.map aw)),(2,.pown 4 true none (p9.2.map aw))],3⟩:St) ((((((uj (S:=⟨_,_,_⟩) 0 (n:=39) (g:=true) (d:=(bw p_)) (ax (And.intro ha1 ha9)) (ax (And.intro ha1 ha9))).trans (HO (S:=⟨_,_,_⟩) 1 0 (n:=39) (g:=true) (d:=(bw p_)) (ax (And.intro ha1 ha9)) (ax (And.intro ha1 ha9)))).trans (kM (S:=⟨_,_,_⟩) 1 (T:=102) (n:=4) (g:=true) (z:=none) (l:=p1.2.map aw) (ax (And.intro ha1 ha9)))).trans (l6 (S:=⟨_,_,_⟩) 4 1 (n:=4) (g:=true) (z:=none) (l:=p1.2.map aw) (ax (And.intro ha1 ha9)) (ax (And.intro ha1 ha9)))).trans (kM (S:=⟨_,_,_⟩) 2 (T:=102) (n:=4) (g:=true) (z:=none) (l:=p9.2.map aw) (ax (And.intro ha1 ha9)))).trans (l6 (S:=⟨_,_,_⟩) 5 2 (n:=4) (g:=true) (z:=none) (l:=p9.2.map aw) (ax (And.intro ha1 ha9)) (ax (And.intro ha1 ha9)))) sbQ sbQ ?_
   try refine aa (And.intro ha1 ha9) ?_
   refine cG 71 31 [10,38,39,40,41,42,43,44,45,46,47,48,49,50,51,52,53,54,55,56,57,58,59,60,61,62,63,64,65,66,67] [] ([[],[0],[],[2],[],[4],[],[6],[0,1,2,3,4,5,6,7],[0,1,2,3,4,5,6,7,8],[],[10],[],[12],[],[14],[14,15],[14,15,16],[],[18],[18,19],[18,19,20],[14,15,16,17,18,19,20,21],[14,15,16,17,18,19,20,21,22],[0,1,2,3,4,5,6,7,8,9,10,11,12,13,14,15,16,17,18,19,20,21,22,23],[0,1,2,3,4,5,6,7,8,9,10,11,12,13,14,15,16,17,18,19,20,21,22,23,24],[0,1,2,3,4,5,6,7,8,9,10,11,12,13,14,15,16,17,18,19,20,21,22,23,24,25],[0,1,2,3,4,5,6,7,8,9,10,11,12,13,14,15,16,17,18,19,20,21,22,23,24,25,26],[0,1,2,3,4,5,6,7,8,9,10,11,12,13,14,15,16,17,18,19,20,21,22,23,24,25,26,27],[0,1,2,3,4,5,6,7,8,9,10,11,12,13,14,15,16,17,18,19,20,21,22,23,24,25,26,27],[0,1,2,3,4,5,6,7,8,9,10,11,12,13,14,15,16,17,18,19,20,21,22,23,24,25,26,27,28]]++[List.range 31]) [(8,11),(22,25),(24,27)] (by kernel_rfl) (by exact alQ) ?_
   refine aa (And.intro ha1 ha9) ?_
   have hM0:=hM;clear hM;obtain ⟨x17,hx18,hM⟩:=ay hM0;clear hM0
   have hcx17:=cmU hx18
   refine dl hcx17 (ax (And.intro ha1 ha9)) (ax (And.intro ha1 ha9)) ?_
   refine aa (And.intro ha1 ha9) ?_
   have hM0:=hM;clear hM;obtain ⟨x19,hx20,hM⟩:=ay hM0;clear hM0
   have hcx19:=cmU hx20
   refine dl hcx19 (ax (And.intro ha1 ha9)) (ax (And.intro ha1 ha9)) ?_
   refine aa (And.intro ha1 ha9) ?_
   have hM0:=hM;clear hM;obtain ⟨x21,hx22,hM⟩:=ay hM0;clear hM0
   have hcx21:=cmU hx22
   refine dl hcx21 (ax (And.intro ha1 ha9)) (ax (And.intro ha1 ha9)) ?_
   refine aa (And.intro ha1 ha9) ?_
   have hM0:=hM;clear hM;obtain ⟨x23,hx24,hM⟩:=ay hM0;clear hM0
   have hcx23:=cmU hx24
   refine dl hcx23 (ax (And.intro ha1 ha9)) (ax (And.intro ha1 ha9)) ?_
   refine aa (And.intro ha1 ha9) ?_
   have hM0:=hM;clear hM;obtain ⟨x25,hx26,hM⟩:=ay hM0;clear hM0
   have hcx25:=cmU hx26
   refine dl hcx25 (ax (And.intro ha1 ha9)) (ax (And.intro ha1 ha9)) ?_
   refine aa (And.intro ha1 ha9) ?_
   have hM0:=hM;clear hM;obtain ⟨x27,hx28,hM⟩:=ay hM0;clear hM0
   have hcx27:=cmH hx28 (IF x25 (by (clear hM;exact Ig (by assumption) (by assumption) (by assumption) (by assumption) (by assumption) (by simp) (by omega) (by omega) (by simp [bX,hgt,bS]))))
   refine dl hcx27 (ax (And.intro ha1 ha9)) (ax (And.intro ha1 ha9)) ?_
   refine aa (And.intro ha1 ha9) ?_
   have hF:=(And.intro ha1 (And.intro h2 (And.intro ha9 h10)))
   exact auQ
set_option maxHeartbeats 2000000 in
set_option maxRecDepth 100000 in
instance Ng (j:bh):CM En (eO j) 38 [.agg [.sl none 1 false (j.Bytes.map (V.int .u8)),.int .i64 j.Durable,.int .i64 j.After]] (fun y=> .bool y) (fun _=> []):=by
 refine cmQ fun r hM=> ?_
 rw [eO.eq_1] at hM
 refine aO aA aK noJ Tryz.func38 rfl Tryz.ntmps38 (by kernel_rfl) fun hw=>aL ?_
 refine spQ ?_
 replace hw:=nzQ hw
 have hF:=ct
 exact auQ
set_option maxHeartbeats 2000000 in
set_option maxRecDepth 100000 in
theorem IO (z0:Option Bool) (z1:Option Bool) (out:(List Int)) (b:(List Int)) (hp0:b.length≤16384) (hp1:out.length≤1000000):cV En 40 [.own 0,.sl z1 1 false (b.map (V.int .u8))] [.own 5 1 false z0 (out.map (V.int .u8))] (.own 0) [.own 5 1 false none ((jY out b).map (V.int .u8))] []:=by
 generalize hM:jY out b=r
 rw [jY.eq_1] at hM
 refine iA aA aK noJ Tryz.func40 rfl Tryz.ntmps40 (by kernel_rfl) rfl fun ks hw hwB=>aL ?_
 refine spQ ?_
 replace hw:=nzQ hw
 try simp only [fv,wfB,decide_eq_true_eq,decide_eq_false_iff_not,Bool.and_eq_true,Bool.or_eq_true,Bool.not_eq_true',Bool.not_eq_false',beq_iff_eq,bne_iff_ne,beq_eq_false_iff_ne,bne_eq_false_iff_eq,ne_eq,Int.not_lt,Int.not_le,gt_iff_lt,ge_iff_le,List.length_map,wfL,wfV,and_true,true_and,dm,dn,fI,fJ,fK,eW,eG,List.length_append,List.length_cons,List.length_nil,List.length_replicate,az,fb,fc,fd,bS,eY,eX] at hwB
 have hM0:=hM;clear hM;obtain ⟨x1,hx2,hM⟩:=ay hM0;clear hM0
 have hcx1:=cmH hx2 (rI b (by (exact pfQ)))
 refine aQ hcx1 clQ clQ (fun hw3=> ?_)
 replace hw3:=nzQ hw3
 refine spQ ?_
 refine aN omQ ?_
 refine spQ ?_
 refine aN omQ ?_
 refine spQ ?_
 refine aN omQ ?_
 refine spQ ?_
 subst hM
 exact cM [0] (by simp only [go_sem,aE,aF,List.length_replicate,az,Int.toNat_natCast,↓reduceIte,Nat.reduceEqDiff,Nat.reduceAdd,Int.reduceAdd,Nat.reduceMul,Nat.reduceLeDiff,Nat.reduceLT,Int.reduceLE,Int.reduceLT,Int.reduceNeg,Int.reduceToNat,mt,mtL,aH,aG,mtZ,and_self,eq_self,or_true,true_or,a7,aZ,a6,Int.reduceSub,or_self]) (by decide) (by simp only [go_sem,aE,aF,List.length_replicate,az,Int.toNat_natCast,↓reduceIte,Nat.reduceEqDiff,Nat.reduceAdd,Int.reduceAdd,Nat.reduceMul,Nat.reduceLeDiff,Nat.reduceLT,Int.reduceLE,Int.reduceLT,Int.reduceNeg,Int.reduceToNat,mt,mtL,aH,aG,mtZ,and_self,eq_self,or_true,true_or,a7,aZ,a6,Int.reduceSub,or_self])
set_option maxHeartbeats 2000000 in
set_option maxRecDepth 100000 in
theorem IP (z1:Option Bool) (s_:fw) (b:(List Int)) (hp0:s_.Journal.Bytes.length≤1048576) (hp1:b.length≤20000):cV En 39 [.ptr 0 0,.sl z1 1 false (b.map (V.int .u8))] [.var 3 true (.agg [.sl none 1 false (s_.Journal.Bytes.map (V.int .u8)),.int .i64 s_.Journal.Durable,.int .i64 s_.Journal.After])] (.bool (fP s_ b).1) [.var 3 true (.agg [.sl none 1 false ((fP s_ b).2.Journal.Bytes.map (V.int .u8)),.int .i64 (fP s_ b).2.Journal.Durable,.int .i64 (fP s_ b).2.Journal.After])] []:=by
 generalize hM:fP s_ b=r
 rw [fP.eq_1] at hM
 refine iA aA aK [5] Tryz.func39 rfl Tryz.ntmps39 (by kernel_rfl) rfl fun ks hw hwB=>aL ?_
 refine spQ ?_
 replace hw:=nzQ hw
 try simp only [fv,wfB,decide_eq_true_eq,decide_eq_false_iff_not,Bool.and_eq_true,Bool.or_eq_true,Bool.not_eq_true',Bool.not_eq_false',beq_iff_eq,bne_iff_ne,beq_eq_false_iff_ne,bne_eq_false_iff_eq,ne_eq,Int.not_lt,Int.not_le,gt_iff_lt,ge_iff_le,List.length_map,wfL,wfV,and_true,true_and,dm,dn,fI,fJ,fK,eW,eG,List.length_append,List.length_cons,List.length_nil,List.length_replicate,az,fb,fc,fd,bS,eY,eX] at hwB
 have hM0:=hM;clear hM;obtain ⟨j1,hj1,hM⟩:=kL hM0;clear hM0
 refine kI (fun S=> ∃p:Int×fw,S=(⟨[(0,.ptr 0 0),(1,.sl z1 1 false (b.map (V.int .u8))),(5,.int .i64 p.1)],[(0,.lent (ks 0) 3 true (.agg [.sl none 1 false (p.2.Journal.Bytes.map (V.int .u8)),.int .i64 p.2.Journal.Durable,.int .i64 p.2.Journal.After]))],1⟩:St)∧((0≤p.1)∧(p.1≤(b.length:Int))∧(((p.2).Journal.Bytes).length≤1048576))∧j1 p=r) ?_ (fun hcut1=> ?_)
 ·clear hM
  rintro S ⟨p1,rfl,hfa1,hM⟩
  replace hfa1:=nzQ hfa1
  have hM0:=hM;clear hM;have hM:=i0 hM0 hj1;clear hM0
  try refine spQ ?_
  refine cG 53 11 [31,32,33,34,35,36,37,38,39,40,41] [] ([[],[],[1],[1,2],[1,2,3],[1,2,3,4],[],[],[6,7],[1,2,3,4,5,6,7,8],[1,2,3,4,5,6,7,8,9]]++[List.range 11,List.range 12,List.range 13,List.range 14]) [(9,10)] (by kernel_rfl) (by exact alQ) ?_
  refine spQ ?_
  refine bu (by (first|exact omQ|(clear hM;first|(have h9:=kc (b.length:Int) s_.Journal.After;exact ah)))) ?_
  refine spQ ?_
  have hM0:=hM;clear hM;obtain ⟨x2,hx3,hM⟩:=ay hM0;clear hM0
  have hcx2:=cmH hx3 (IG ([p1.2.Journal.Bytes,(sl b 0 p1.1)]:List (List Int)) (by (first|exact Nat.le_refl _|exact zV (by omega) (by (clear hM;exact ah)))) (by (first|exact Nat.le_refl _|exact zV (by omega) (by (clear hM;exact ah)))))
  refine dl hcx2 clQ clQ ?_
  refine spQ ?_
  refine aB (fun h4=> ?_) (fun h4=> ?_)
  ·rw [if_pos h4] at hM
   refine aa h4 ?_
   have nh4:=nzQ h4
   try have hr5:=mpQ nh4
   subst hM
   exact cM [0] (by simp only [go_sem,aE,aF,List.length_replicate,az,Int.toNat_natCast,↓reduceIte,Nat.reduceEqDiff,Nat.reduceAdd,Int.reduceAdd,Nat.reduceMul,Nat.reduceLeDiff,Nat.reduceLT,Int.reduceLE,Int.reduceLT,Int.reduceNeg,Int.reduceToNat,mt,mtL,aH,aG,mtZ,and_self,eq_self,or_true,true_or,a7,aZ,a6,Int.reduceSub,or_self,h4]) (by decide) (by simp only [go_sem,aE,aF,List.length_replicate,az,Int.toNat_natCast,↓reduceIte,Nat.reduceEqDiff,Nat.reduceAdd,Int.reduceAdd,Nat.reduceMul,Nat.reduceLeDiff,Nat.reduceLT,Int.reduceLE,Int.reduceLT,Int.reduceNeg,Int.reduceToNat,mt,mtL,aH,aG,mtZ,and_self,eq_self,or_true,true_or,a7,aZ,a6,Int.reduceSub,or_self,h4])
  ·rw [if_neg (an h4)] at hM
   refine aa h4 ?_
   have nh4:=nzQ h4
   try have hr6:=mpQ nh4
   subst hM
   exact cM [0] (by simp only [go_sem,aE,aF,List.length_replicate,az,Int.toNat_natCast,↓reduceIte,Nat.reduceEqDiff,Nat.reduceAdd,Int.reduceAdd,Nat.reduceMul,Nat.reduceLeDiff,Nat.reduceLT,Int.reduceLE,Int.reduceLT,Int.reduceNeg,Int.reduceToNat,mt,mtL,aH,aG,mtZ,and_self,eq_self,or_true,true_or,a7,aZ,a6,Int.reduceSub,or_self,h4]) (by decide) (by simp only [go_sem,aE,aF,List.length_replicate,az,Int.toNat_natCast,↓reduceIte,Nat.reduceEqDiff,Nat.reduceAdd,Int.reduceAdd,Nat.reduceMul,Nat.reduceLeDiff,Nat.reduceLT,Int.reduceLE,Int.reduceLT,Int.reduceNeg,Int.reduceToNat,mt,mtL,aH,aG,mtZ,and_self,eq_self,or_true,true_or,a7,aZ,a6,Int.reduceSub,or_self,h4])
 ·refine spQ ?_
  refine aB (fun h7=> ?_) (fun h7=> ?_)
  ·rw [if_pos h7] at hM
   refine aa h7 ?_
   have nh7:=nzQ h7
   try have hr8:=mpQ nh7
   exact dV _ sbQ sbQ (hcut1 _ ⟨((cf (b.length:Int) s_.Journal.After),({Journal:=({Bytes:=s_.Journal.Bytes,Durable:=s_.Journal.Durable,After:=(aD .i64 s_.Journal.After (cf (b.length:Int) s_.Journal.After))}:bh)}:fw)),rfl,⟨by (first|exact omQ|(clear hM;first|(have h9:=kc (b.length:Int) s_.Journal.After;exact ah))),by (first|exact omQ|(clear hM;first|(have h9:=kc (b.length:Int) s_.Journal.After;exact ah))),by (first|exact omQ|(clear hM;first|(have h9:=kc (b.length:Int) s_.Journal.After;exact ah)))⟩,hM⟩)
  ·rw [if_neg (an h7)] at hM
   refine aa h7 ?_
   have nh7:=nzQ h7
   try have hr9:=mpQ nh7
   exact dV _ sbQ sbQ (hcut1 _ ⟨((b.length:Int),s_),rfl,⟨by (first|exact omQ|(clear hM;first|(have h9:=kc (b.length:Int) s_.Journal.After;exact ah))),by (first|exact omQ|(clear hM;first|(have h9:=kc (b.length:Int) s_.Journal.After;exact ah))),by (first|exact omQ|(clear hM;first|(have h9:=kc (b.length:Int) s_.Journal.After;exact ah)))⟩,hM⟩)
end Go.Proofs.YtlmleoeemmhboaaGreatDoor
namespace Go.Proofs.YtlmleoeemmhboaaGreatDoor
open Go.RowKit
set_option linter.unusedSimpArgs false
set_option maxHeartbeats 2000000 in
set_option maxRecDepth 100000 in
instance Nh (j:bh) (b:(List Int)):CM En (iG j b) 10 [.agg [.sl none 1 false (j.Bytes.map (V.int .u8)),.int .i64 j.Durable,.int .i64 j.After],.sl none 1 false (b.map (V.int .u8))] (fun y=> .tup [.agg [.sl none 1 false (y.1.Bytes.map (V.int .u8)),.int .i64 y.1.Durable,.int .i64 y.1.After],.int .i64 y.2]) (fun _=> []):=by
 refine cmQ fun r hM=> ?_
 rw [iG.eq_1] at hM
 refine aO aA aK noJ Tryz.func10 rfl Tryz.ntmps10 (by kernel_rfl) fun hw=>aL ?_
 refine spQ ?_
 replace hw:=nzQ hw
 have hM0:=hM;clear hM;obtain ⟨x1,hx2,hM⟩:=ay hM0;clear hM0
 have hcx1:=cmU hx2
 refine aQ hcx1 clQ clQ (fun hw3=> ?_)
 replace hw3:=nzQ hw3
 refine spQ ?_
 have hq4:=nzQ (cfU hx2)
 refine aB (fun h5=> ?_) (fun h5=> ?_)
 ·rw [if_pos h5] at hM
  refine aa h5 ?_
  have nh5:=nzQ h5
  try have hr6:=mpQ nh5
  subst hM
  exact ar (av h5)
 ·rw [if_neg (an h5)] at hM
  refine aa h5 ?_
  have nh5:=nzQ h5
  try have hr7:=mpQ nh5
  refine aY (fun h8=> ?_) (fun h8=> ?_)
  ·rw [if_neg (an h8)] at hM
   refine aa h8 ?_
   have nh8:=nzQ h8
   try have hr9:=mpQ nh8
   refine aB (fun h10=> ?_) (fun h10=> ?_)
   ·rw [if_pos h10] at hM
    refine aa h10 ?_
    have nh10:=nzQ h10
    try have hr11:=mpQ nh10
    subst hM
    exact ar (av (And.intro h5 (And.intro h8 h10)))
   ·rw [if_neg (an h10)] at hM
    refine aa h10 ?_
    have nh10:=nzQ h10
    try have hr12:=mpQ nh10
    have hM0:=hM;clear hM;obtain ⟨x13,hx14,hM⟩:=ay hM0;clear hM0
    have hcx13:=yP (pre:=[]) (post:=[_]) (IO (some true) none ([]:List Int) b (by (exact pfQ)) (by (exact pfQ))) (by decide)
    rw [←hx14] at hcx13
    simp only [List.nil_append,List.cons_append] at hcx13
    refine yk hcx13 clQ (fun hw15=> ?_)
    replace hw15:=nzQ hw15
    refine spQ ?_
    have hq16:=Aj hx14
    replace hq16:=nzQ hq16
    have hM0:=hM;clear hM;obtain ⟨x17,hx18,hM⟩:=ay hM0;clear hM0
    have hcx17:=IP none ({Journal:=j}:fw) x13 (by (exact pfQ)) (by (exact pfQ))
    rw [←hx18] at hcx17
    refine yJ [2] hcx17 (jK 3 (T:=5) (n:=1) (g:=false) (z:=none) (l:=x13.map (V.int .u8)) clQ) (by decide) (by simp only [go_sem,aE,aF,List.length_replicate,az,Int.toNat_natCast,↓reduceIte,Nat.reduceEqDiff,Nat.reduceAdd,Int.reduceAdd,Nat.reduceMul,Nat.reduceLeDiff,Nat.reduceLT,Int.reduceLE,Int.reduceLT,Int.reduceNeg,Int.reduceToNat,mt,mtL,aH,aG,mtZ,and_self,eq_self,or_true,true_or]) (by simp only [go_sem,aE,aF,List.length_replicate,az,Int.toNat_natCast,↓reduceIte,Nat.reduceEqDiff,Nat.reduceAdd,Int.reduceAdd,Nat.reduceMul,Nat.reduceLeDiff,Nat.reduceLT,Int.reduceLE,Int.reduceLT,Int.reduceNeg,Int.reduceToNat,mt,mtL,aH,aG,mtZ,and_self,eq_self,or_true,true_or]) (fun hw19=> ?_)
    replace hw19:=nzQ hw19
    refine spQ ?_
    have hF:=(And.intro h5 (And.intro h8 h10))
    exact auQ
  ·rw [if_pos h8] at hM
   refine aa h8 ?_
   have nh8:=nzQ h8
   try have hr23:=mpQ nh8
   subst hM
   exact ar (av (And.intro h5 h8))
set_option maxHeartbeats 2000000 in
set_option maxRecDepth 100000 in
instance Ni (j:bh):CM En (rp j) 41 [.agg [.sl none 1 false (j.Bytes.map (V.int .u8)),.int .i64 j.Durable,.int .i64 j.After]] (fun y=> .agg [.sl none 1 false (y.Bytes.map (V.int .u8)),.int .i64 y.Durable,.int .i64 y.After]) (fun _=> []):=by
 refine cmQ fun r hM=> ?_
 rw [rp.eq_1] at hM
 refine aO aA aK noJ Tryz.func41 rfl Tryz.ntmps41 (by kernel_rfl) fun hw=>aL ?_
 refine spQ ?_
 replace hw:=nzQ hw
 have hM0:=hM;clear hM;obtain ⟨x1,hx2,hM⟩:=ay hM0;clear hM0
 have hcx1:=oP none (j.Bytes)
 rw [←hx2] at hcx1
 refine aQ hcx1 clQ clQ (fun hw3=> ?_)
 replace hw3:=nzQ hw3
 refine spQ ?_
 subst hM
 exact ar lfQ
set_option maxHeartbeats 2000000 in
set_option maxRecDepth 100000 in
instance Nj (j:bh):CM En (mI j) 11 [.agg [.sl none 1 false (j.Bytes.map (V.int .u8)),.int .i64 j.Durable,.int .i64 j.After]] (fun y=> .tup [.agg [.sl none 1 false (y.1.Bytes.map (V.int .u8)),.int .i64 y.1.Durable,.int .i64 y.1.After],.int .i64 y.2]) (fun _=> []):=by
 refine cmQ fun r hM=> ?_
 rw [mI.eq_1] at hM
 refine aO aA aK noJ Tryz.func11 rfl Tryz.ntmps11 (by kernel_rfl) fun hw=>aL ?_
 refine spQ ?_
 replace hw:=nzQ hw
 have hF:=ct
 exact auQ
set_option maxHeartbeats 2000000 in
set_option maxRecDepth 100000 in
instance Nk (j:bh) (keep:Int):CM En (mJ j keep) 12 [.agg [.sl none 1 false (j.Bytes.map (V.int .u8)),.int .i64 j.Durable,.int .i64 j.After],.int .i64 keep] (fun y=> .tup [.agg [.sl none 1 false (y.1.Bytes.map (V.int .u8)),.int .i64 y.1.Durable,.int .i64 y.1.After],.int .i64 y.2]) (fun _=> []):=by
 refine cmQ fun r hM=> ?_
 rw [mJ.eq_1] at hM
 refine aO aA aK noJ Tryz.func12 rfl Tryz.ntmps12 (by kernel_rfl) fun hw=>aL ?_
 refine spQ ?_
 replace hw:=nzQ hw
 have hM0:=hM;clear hM;obtain ⟨x1,hx2,hM⟩:=ay hM0;clear hM0
 have hcx1:=cmU hx2
 refine aQ hcx1 clQ clQ (fun hw3=> ?_)
 replace hw3:=nzQ hw3
 refine spQ ?_
 have hq4:=nzQ (cfU hx2)
 refine aB (fun h5=> ?_) (fun h5=> ?_)
 ·rw [if_pos h5] at hM
  refine aa h5 ?_
  have nh5:=nzQ h5
  try have hr6:=mpQ nh5
  subst hM
  exact ar (av h5)
 ·rw [if_neg (an h5)] at hM
  refine aa h5 ?_
  have nh5:=nzQ h5
  try have hr7:=mpQ nh5
  refine aB (fun h8=> ?_) (fun h8=> ?_)
  ·rw [if_pos h8] at hM
   refine aa h8 ?_
   have nh8:=nzQ h8
   try have hr9:=mpQ nh8
   subst hM
   exact ar (av (And.intro h5 h8))
  ·rw [if_neg (an h8)] at hM
   refine aa h8 ?_
   have nh8:=nzQ h8
   try have hr10:=mpQ nh8
   refine aN (by (first|exact omQ|(clear hM;first|(have h9:=Ad (D:=j.Durable) (L:=(j.Bytes.length:Int)) (k:=keep) (by omega) (by omega) (by omega) (by omega);exact ah)))) ?_
   refine spQ ?_
   have hM0:=hM;clear hM;obtain ⟨x11,hx12,hM⟩:=ay hM0;clear hM0
   have hcx11:=oP none (sl j.Bytes 0 (aq .i64 j.Durable (cf keep (aD .i64 (j.Bytes.length:Int) j.Durable))))
   rw [←hx12] at hcx11
   refine aQ hcx11 clQ clQ (fun hw13=> ?_)
   replace hw13:=nzQ hw13
   refine spQ ?_
   subst hM
   exact ar (av (And.intro h5 h8))
set_option maxHeartbeats 2000000 in
set_option maxRecDepth 100000 in
instance Nl (j:bh):CM En (jZ j) 44 [.agg [.sl none 1 false (j.Bytes.map (V.int .u8)),.int .i64 j.Durable,.int .i64 j.After]] (fun y=> .sl none 1 false (y.map (fun (l:List Int)=>V.sl none 1 false (l.map (V.int .u8))))) (fun _=> []):=by
 refine cmQ fun r hM=> ?_
 rw [jZ.eq_1] at hM
 refine aO aA aK noJ Tryz.func44 rfl Tryz.ntmps44 (by kernel_rfl) fun hw=>aL ?_
 refine spQ ?_
 replace hw:=ff hw
 have hM0:=hM;clear hM;obtain ⟨x1,hx2,hM⟩:=ay hM0;clear hM0
 have hcx1:=cmU hx2
 refine aQ hcx1 clQ clQ (fun hw3=> ?_)
 replace hw3:=ff hw3
 refine spQ ?_
 have hq4:=nzQ (cfU hx2)
 refine aB (fun h5=> ?_) (fun h5=> ?_)
 ·rw [if_pos h5] at hM
  refine aa h5 ?_
  have nh5:=ff h5
  try have hr6:=mpQ nh5
  subst hM
  exact ar (av h5)
 ·rw [if_neg (an h5)] at hM
  refine aa h5 ?_
  have nh5:=ff h5
  try have hr7:=mpQ nh5
  have hM0:=hM;clear hM;obtain ⟨f8,d8,hf8,hd8,hM⟩:=bd hM0;clear hM0
  refine dW (fun n S=> ∃p:List Int×List (List Int),S=(⟨[(3,.own 1),(4,.sl none 1 false (p.1.map (V.int .u8)))],[(1,.own 34 1 false none (p.2.map (fun (l:List Int)=>V.sl none 1 false (l.map (V.int .u8)))))],2⟩:St)∧(((((p.2).length:Int)*36+((p.1).length:Int)≤1048576))∧(isB (p.1)))∧(p.1).length<n∧ao n f8 d8 p=r) (((j.Bytes)).length+1) _ _ (jI 3 34 rfl (by decide)) sbQ sbQ ⟨(j.Bytes,([]:List (List Int))),rfl,⟨by (first|exact omQ|(clear hM;first|(have h9:=eh (by assumption);exact ah))),by (first|exact kW hw.1.2|exact kW hw.1|exact kW hw.2)⟩,(Nat.lt_succ_self _),hM⟩ ?_
  clear hM
  rintro n8 S ⟨p8,rfl,⟨hfa8,hF5_0⟩,hm8,hM⟩
  have hM0:=hM;clear hM;obtain ⟨ag8,hag8,hM⟩:=bf hM0 (by omega) hf8;clear hM0
  replace hfa8:=ff hfa8
  replace hm8:=ff hm8
  refine spQ ?_
  refine aB (fun h9=> ?_) (fun h9=> ?_)
  ·rw [if_pos h9] at hM
   refine aa h9 ?_
   have nh9:=ff h9
   try have hr10:=mpQ nh9
   refine cG 67 21 [15,16,17,18,19,20,21,22,23,24,25,26,27,28,29,30,31,32,33,34,35] [] ([[],[0],[0,1],[0,1,2],[0,1,2,3],[],[5],[5,6],[5,6,7],[5,6,7,8],[0,1,2,3,4,5,6,7,8,9],[],[11],[11,12],[11,12,13],[11,12,13,14],[0,1,2,3,4,5,6,7,8,9,10,11,12,13,14,15],[],[17],[17,18],[17,18,19]]++[List.range 21,List.range 22]) [] (by kernel_rfl) (by exact alQ) ?_
   refine spQ ?_
   refine bu (by (first|exact omQ|(clear hM;first|(have h9:=eh (by assumption);exact ah)))) ?_
   have he11: ∀d,elt (p8.1.map (V.int .u8)) 0 d=(V.int .u8) (gt p8.1 0):=fun d=>aV (l:=p8.1) (f:=(V.int .u8)) (i:=0) (by (first|exact omQ|(clear hM;first|(have h9:=eh (by assumption);exact ah)))) d
   refine aa he11 ?_
   refine bu (by (first|exact omQ|(clear hM;first|(have h9:=eh (by assumption);exact ah)))) ?_
   have he12: ∀d,elt (p8.1.map (V.int .u8)) 1 d=(V.int .u8) (gt p8.1 1):=fun d=>aV (l:=p8.1) (f:=(V.int .u8)) (i:=1) (by (first|exact omQ|(clear hM;first|(have h9:=eh (by assumption);exact ah)))) d
   refine aa (And.intro he11 he12) ?_
   refine bu (by (first|exact omQ|(clear hM;first|(have h9:=eh (by assumption);exact ah)))) ?_
   have he13: ∀d,elt (p8.1.map (V.int .u8)) 2 d=(V.int .u8) (gt p8.1 2):=fun d=>aV (l:=p8.1) (f:=(V.int .u8)) (i:=2) (by (first|exact omQ|(clear hM;first|(have h9:=eh (by assumption);exact ah)))) d
   refine aa (And.intro he11 (And.intro he12 he13)) ?_
   refine bu (by (first|exact omQ|(clear hM;first|(have h9:=eh (by assumption);exact ah)))) ?_
   have he14: ∀d,elt (p8.1.map (V.int .u8)) 3 d=(V.int .u8) (gt p8.1 3):=fun d=>aV (l:=p8.1) (f:=(V.int .u8)) (i:=3) (by (first|exact omQ|(clear hM;first|(have h9:=eh (by assumption);exact ah)))) d
   refine aa (And.intro he11 (And.intro he12 (And.intro he13 he14))) ?_
   refine aY (fun h15=> ?_) (fun h15=> ?_)
   ·rw [if_neg (an h15)] at hM
    refine aa (And.intro he11 (And.intro he12 (And.intro he13 (And.intro he14 h15)))) ?_
    have nh15:=ff h15
    try have hr16:=mpQ nh15
    refine aB (fun h17=> ?_) (fun h17=> ?_)
    ·rw [if_pos h17] at hM
     refine aa (And.intro he11 (And.intro he12 (And.intro he13 (And.intro he14 h17)))) ?_
     have nh17:=ff h17
     try have hr18:=mpQ nh17
     subst hM
     exact ar (av (And.intro he11 (And.intro he12 (And.intro he13 (And.intro he14 (And.intro h5 (And.intro h9 (And.intro h15 h17))))))))
    ·rw [if_neg (an h17)] at hM
     refine aa (And.intro he11 (And.intro he12 (And.intro he13 (And.intro he14 h17)))) ?_
     have nh17:=ff h17
     try have hr19:=mpQ nh17
     refine aN (by (first|exact omQ|(clear hM;first|(have h9:=eh (by assumption);exact ah)))) ?_
     refine aa (And.intro he11 (And.intro he12 (And.intro he13 he14))) ?_
     refine cG 67 6 [50,51,52,53,54,55] [] ([[],[0],[],[2],[2,3],[2,3,4]]++[List.range 6]) [] (by kernel_rfl) (by exact alQ) ?_
     refine aa (And.intro he11 (And.intro he12 (And.intro he13 he14))) ?_
     have hM0:=hM;clear hM;obtain ⟨x20,hx21,hM⟩:=ay hM0;clear hM0
     have hcx20:=cmH hx21 (rI (sl p8.1 36 (aq .i64 36 (orI .i64 (orI .i64 (orI .i64 (ap .i64 (ae .i64 (gt p8.1 0)) 24) (ap .i64 (ae .i64 (gt p8.1 1)) 16)) (ap .i64 (ae .i64 (gt p8.1 2)) 8)) (ae .i64 (gt p8.1 3))))) (by (exact pfQ)))
     refine dl hcx20 (ax (And.intro he11 (And.intro he12 (And.intro he13 he14)))) (ax (And.intro he11 (And.intro he12 (And.intro he13 he14)))) ?_
     refine aa (And.intro he11 (And.intro he12 (And.intro he13 he14))) ?_
     refine bu (by (first|exact omQ|(clear hM;first|(have h9:=eh (by assumption);exact ah)))) ?_
     refine aa (And.intro he11 (And.intro he12 (And.intro he13 he14))) ?_
     refine bu (by (first|exact omQ|(clear hM;first|(have h9:=eh (by assumption);exact ah)))) ?_
     have he22:=qF (l:=(sl p8.1 4 36)) (f:=(V.int .u8)) (k:=32) (by (first|exact omQ|(clear hM;first|(have h9:=eh (by assumption);exact ah))))
     refine aa (And.intro he11 (And.intro he12 (And.intro he13 (And.intro he14 he22)))) ?_
     refine aB (fun h23=> ?_) (fun h23=> ?_)
     ·have kh23:(!(gS x20 (aC 32 (sl p8.1 4 36))))=true:=h23
      rw [if_pos kh23] at hM
      refine aa (And.intro he11 (And.intro he12 (And.intro he13 (And.intro he14 (And.intro he22 h23))))) ?_
      have nh23:=ff kh23
      try have hr24:=mpQ nh23
      subst hM
      exact ar (av (And.intro he11 (And.intro he12 (And.intro he13 (And.intro he14 (And.intro he22 (And.intro h5 (And.intro h9 (And.intro h15 (And.intro h17 h23))))))))))
     ·have kh23:(!(gS x20 (aC 32 (sl p8.1 4 36))))=false:=h23
      rw [if_neg (an kh23)] at hM
      refine aa (And.intro he11 (And.intro he12 (And.intro he13 (And.intro he14 (And.intro he22 h23))))) ?_
      have nh23:=ff kh23
      try have hr25:=mpQ nh23
      have hM0:=hM;clear hM;obtain ⟨x26,hx27,hM⟩:=ay hM0;clear hM0
      have hcx26:=bC.pub ((oP none (sl p8.1 36 (aq .i64 36 (orI .i64 (orI .i64 (orI .i64 (ap .i64 (ae .i64 (gt p8.1 0)) 24) (ap .i64 (ae .i64 (gt p8.1 1)) 16)) (ap .i64 (ae .i64 (gt p8.1 2)) 8)) (ae .i64 (gt p8.1 3)))))))
      rw [←hx27] at hcx26
      refine aQ hcx26 (ax (And.intro he11 (And.intro he12 (And.intro he13 (And.intro he14 he22))))) (ax (And.intro he11 (And.intro he12 (And.intro he13 (And.intro he14 he22))))) (fun hw28=> ?_)
      replace hw28:=ff hw28
      refine aa (And.intro he11 (And.intro he12 (And.intro he13 (And.intro he14 he22)))) ?_
      refine aN (by (first|exact omQ|(clear hM;first|(have h9:=eh (by assumption);exact ah)))) ?_
      refine aa (And.intro he11 (And.intro he12 (And.intro he13 (And.intro he14 he22)))) ?_
      refine aN (by (first|exact omQ|(clear hM;first|(have h9:=eh (by assumption);exact ah)))) ?_
      refine aa (And.intro he11 (And.intro he12 (And.intro he13 (And.intro he14 he22)))) ?_
      refine b_ (n8 - 1) _ (by omega) sbQ sbQ ⟨((sl p8.1 (aq .i64 36 (orI .i64 (orI .i64 (orI .i64 (ap .i64 (ae .i64 (gt p8.1 0)) 24) (ap .i64 (ae .i64 (gt p8.1 1)) 16)) (ap .i64 (ae .i64 (gt p8.1 2)) 8)) (ae .i64 (gt p8.1 3)))) (p8.1.length:Int)),(p8.2++([x26]:List (List Int)))),rfl,⟨by (first|exact omQ|(clear hM;first|(have h9:=eh (by assumption);exact ah))),by (exact HJ (by assumption))⟩,by (have h9:=eh (l:=p8.1) (by assumption);dsimp only;exact ah),ca hM hag8⟩
   ·rw [if_pos h15] at hM
    refine aa (And.intro he11 (And.intro he12 (And.intro he13 (And.intro he14 h15)))) ?_
    have nh15:=ff h15
    try have hr29:=mpQ nh15
    subst hM
    exact ar (av (And.intro he11 (And.intro he12 (And.intro he13 (And.intro he14 (And.intro h5 (And.intro h9 h15)))))))
  ·rw [if_neg (an h9)] at hM
   refine aa h9 ?_
   have nh9:=ff h9
   try have hr30:=mpQ nh9
   subst hM
   exact ar (av (And.intro h5 h9))
set_option maxHeartbeats 2000000 in
set_option maxRecDepth 100000 in
theorem lm (r_:aJ) (e_:Int):cV En 91 [.ptr 0 0,.int .i64 e_] [.var 2 true (.agg [.sl none 1 false (r_.b.map (V.int .u8)),.int .i64 r_.e])] (.tup []) [.var 2 true (.agg [.sl none 1 false ((fx r_ e_).b.map (V.int .u8)),.int .i64 (fx r_ e_).e])] []:=by
 generalize hM:fx r_ e_=r
 rw [fx.eq_1] at hM
 refine iA aA aK noJ Tryz.func91 rfl Tryz.ntmps91 (by kernel_rfl) rfl fun ks hw hwB=>aL ?_
 refine spQ ?_
 replace hw:=nzQ hw
 try simp only [fv,wfB,decide_eq_true_eq,decide_eq_false_iff_not,Bool.and_eq_true,Bool.or_eq_true,Bool.not_eq_true',Bool.not_eq_false',beq_iff_eq,bne_iff_ne,beq_eq_false_iff_ne,bne_eq_false_iff_eq,ne_eq,Int.not_lt,Int.not_le,gt_iff_lt,ge_iff_le,List.length_map,wfL,wfV,and_true,true_and,dm,dn,fI,fJ,fK,eW,eG,List.length_append,List.length_cons,List.length_nil,List.length_replicate,az,fb,fc,fd,bS,eY,eX] at hwB
 refine aB (fun h1=> ?_) (fun h1=> ?_)
 ·rw [if_pos h1] at hM
  refine aa h1 ?_
  have nh1:=nzQ h1
  try have hr2:=mpQ nh1
  subst hM
  exact cM [0] (by simp only [go_sem,aE,aF,List.length_replicate,az,Int.toNat_natCast,↓reduceIte,Nat.reduceEqDiff,Nat.reduceAdd,Int.reduceAdd,Nat.reduceMul,Nat.reduceLeDiff,Nat.reduceLT,Int.reduceLE,Int.reduceLT,Int.reduceNeg,Int.reduceToNat,mt,mtL,aH,aG,mtZ,and_self,eq_self,or_true,true_or,a7,aZ,a6,Int.reduceSub,or_self,h1]) (by decide) (by simp only [go_sem,aE,aF,List.length_replicate,az,Int.toNat_natCast,↓reduceIte,Nat.reduceEqDiff,Nat.reduceAdd,Int.reduceAdd,Nat.reduceMul,Nat.reduceLeDiff,Nat.reduceLT,Int.reduceLE,Int.reduceLT,Int.reduceNeg,Int.reduceToNat,mt,mtL,aH,aG,mtZ,and_self,eq_self,or_true,true_or,a7,aZ,a6,Int.reduceSub,or_self,h1])
 ·rw [if_neg (an h1)] at hM
  refine aa h1 ?_
  have nh1:=nzQ h1
  try have hr3:=mpQ nh1
  subst hM
  exact cM [0] (by simp only [go_sem,aE,aF,List.length_replicate,az,Int.toNat_natCast,↓reduceIte,Nat.reduceEqDiff,Nat.reduceAdd,Int.reduceAdd,Nat.reduceMul,Nat.reduceLeDiff,Nat.reduceLT,Int.reduceLE,Int.reduceLT,Int.reduceNeg,Int.reduceToNat,mt,mtL,aH,aG,mtZ,and_self,eq_self,or_true,true_or,a7,aZ,a6,Int.reduceSub,or_self,h1]) (by decide) (by simp only [go_sem,aE,aF,List.length_replicate,az,Int.toNat_natCast,↓reduceIte,Nat.reduceEqDiff,Nat.reduceAdd,Int.reduceAdd,Nat.reduceMul,Nat.reduceLeDiff,Nat.reduceLT,Int.reduceLE,Int.reduceLT,Int.reduceNeg,Int.reduceToNat,mt,mtL,aH,aG,mtZ,and_self,eq_self,or_true,true_or,a7,aZ,a6,Int.reduceSub,or_self,h1])
set_option maxHeartbeats 2000000 in
set_option maxRecDepth 100000 in
theorem Am (r_:aJ) (n_:Int) (hp0:0≤n_):cV En 130 [.ptr 0 0,.int .i64 n_] [.var 2 true (.agg [.sl none 1 false (r_.b.map (V.int .u8)),.int .i64 r_.e])] (.sl none 1 false ((iH r_ n_).1.map (V.int .u8))) [.var 2 true (.agg [.sl none 1 false ((iH r_ n_).2.b.map (V.int .u8)),.int .i64 (iH r_ n_).2.e])] []:=by
 generalize hM:iH r_ n_=r
 rw [iH.eq_1] at hM
 refine iA aA aK noJ Tryz.func130 rfl Tryz.ntmps130 (by kernel_rfl) rfl fun ks hw hwB=>aL ?_
 refine spQ ?_
 replace hw:=nzQ hw
 try simp only [fv,wfB,decide_eq_true_eq,decide_eq_false_iff_not,Bool.and_eq_true,Bool.or_eq_true,Bool.not_eq_true',Bool.not_eq_false',beq_iff_eq,bne_iff_ne,beq_eq_false_iff_ne,bne_eq_false_iff_eq,ne_eq,Int.not_lt,Int.not_le,gt_iff_lt,ge_iff_le,List.length_map,wfL,wfV,and_true,true_and,dm,dn,fI,fJ,fK,eW,eG,List.length_append,List.length_cons,List.length_nil,List.length_replicate,az,fb,fc,fd,bS,eY,eX] at hwB
 refine aY (fun h1=> ?_) (fun h1=> ?_)
 ·rw [if_neg (an h1)] at hM
  refine aa h1 ?_
  have nh1:=nzQ h1
  try have hr2:=mpQ nh1
  refine aB (fun h3=> ?_) (fun h3=> ?_)
  ·rw [if_pos h3] at hM
   refine aa h3 ?_
   have nh3:=nzQ h3
   try have hr4:=mpQ nh3
   have hM0:=hM;clear hM;obtain ⟨x5,hx6,hM⟩:=ay hM0;clear hM0
   have hcx5:=lm r_ 4
   rw [←hx6] at hcx5
   refine dK [0] hcx5 (by decide) (by simp only [go_sem,aE,aF,List.length_replicate,az,Int.toNat_natCast,↓reduceIte,Nat.reduceEqDiff,Nat.reduceAdd,Int.reduceAdd,Nat.reduceMul,Nat.reduceLeDiff,Nat.reduceLT,Int.reduceLE,Int.reduceLT,Int.reduceNeg,Int.reduceToNat,mt,mtL,aH,aG,mtZ,and_self,eq_self,or_true,true_or]) (by simp only [go_sem,aE,aF,List.length_replicate,az,Int.toNat_natCast,↓reduceIte,Nat.reduceEqDiff,Nat.reduceAdd,Int.reduceAdd,Nat.reduceMul,Nat.reduceLeDiff,Nat.reduceLT,Int.reduceLE,Int.reduceLT,Int.reduceNeg,Int.reduceToNat,mt,mtL,aH,aG,mtZ,and_self,eq_self,or_true,true_or]) (fun hw7=> ?_)
   replace hw7:=nzQ hw7
   refine spQ ?_
   subst hM
   exact cM [0] (by simp only [go_sem,aE,aF,List.length_replicate,az,Int.toNat_natCast,↓reduceIte,Nat.reduceEqDiff,Nat.reduceAdd,Int.reduceAdd,Nat.reduceMul,Nat.reduceLeDiff,Nat.reduceLT,Int.reduceLE,Int.reduceLT,Int.reduceNeg,Int.reduceToNat,mt,mtL,aH,aG,mtZ,and_self,eq_self,or_true,true_or,a7,aZ,a6,Int.reduceSub,or_self,h1,h3]) (by decide) (by simp only [go_sem,aE,aF,List.length_replicate,az,Int.toNat_natCast,↓reduceIte,Nat.reduceEqDiff,Nat.reduceAdd,Int.reduceAdd,Nat.reduceMul,Nat.reduceLeDiff,Nat.reduceLT,Int.reduceLE,Int.reduceLT,Int.reduceNeg,Int.reduceToNat,mt,mtL,aH,aG,mtZ,and_self,eq_self,or_true,true_or,a7,aZ,a6,Int.reduceSub,or_self,h1,h3])
  ·rw [if_neg (an h3)] at hM
   refine aa h3 ?_
   have nh3:=nzQ h3
   try have hr8:=mpQ nh3
   refine aN omQ ?_
   refine spQ ?_
   refine aN omQ ?_
   refine spQ ?_
   subst hM
   exact cM [0] (by simp only [go_sem,aE,aF,List.length_replicate,az,Int.toNat_natCast,↓reduceIte,Nat.reduceEqDiff,Nat.reduceAdd,Int.reduceAdd,Nat.reduceMul,Nat.reduceLeDiff,Nat.reduceLT,Int.reduceLE,Int.reduceLT,Int.reduceNeg,Int.reduceToNat,mt,mtL,aH,aG,mtZ,and_self,eq_self,or_true,true_or,a7,aZ,a6,Int.reduceSub,or_self,h1,h3]) (by decide) (by simp only [go_sem,aE,aF,List.length_replicate,az,Int.toNat_natCast,↓reduceIte,Nat.reduceEqDiff,Nat.reduceAdd,Int.reduceAdd,Nat.reduceMul,Nat.reduceLeDiff,Nat.reduceLT,Int.reduceLE,Int.reduceLT,Int.reduceNeg,Int.reduceToNat,mt,mtL,aH,aG,mtZ,and_self,eq_self,or_true,true_or,a7,aZ,a6,Int.reduceSub,or_self,h1,h3])
 ·rw [if_pos h1] at hM
  refine aa h1 ?_
  have nh1:=nzQ h1
  try have hr9:=mpQ nh1
  have hM0:=hM;clear hM;obtain ⟨x10,hx11,hM⟩:=ay hM0;clear hM0
  have hcx10:=lm r_ 4
  rw [←hx11] at hcx10
  refine dK [0] hcx10 (by decide) (by simp only [go_sem,aE,aF,List.length_replicate,az,Int.toNat_natCast,↓reduceIte,Nat.reduceEqDiff,Nat.reduceAdd,Int.reduceAdd,Nat.reduceMul,Nat.reduceLeDiff,Nat.reduceLT,Int.reduceLE,Int.reduceLT,Int.reduceNeg,Int.reduceToNat,mt,mtL,aH,aG,mtZ,and_self,eq_self,or_true,true_or]) (by simp only [go_sem,aE,aF,List.length_replicate,az,Int.toNat_natCast,↓reduceIte,Nat.reduceEqDiff,Nat.reduceAdd,Int.reduceAdd,Nat.reduceMul,Nat.reduceLeDiff,Nat.reduceLT,Int.reduceLE,Int.reduceLT,Int.reduceNeg,Int.reduceToNat,mt,mtL,aH,aG,mtZ,and_self,eq_self,or_true,true_or]) (fun hw12=> ?_)
  replace hw12:=nzQ hw12
  refine spQ ?_
  subst hM
  exact cM [0] (by simp only [go_sem,aE,aF,List.length_replicate,az,Int.toNat_natCast,↓reduceIte,Nat.reduceEqDiff,Nat.reduceAdd,Int.reduceAdd,Nat.reduceMul,Nat.reduceLeDiff,Nat.reduceLT,Int.reduceLE,Int.reduceLT,Int.reduceNeg,Int.reduceToNat,mt,mtL,aH,aG,mtZ,and_self,eq_self,or_true,true_or,a7,aZ,a6,Int.reduceSub,or_self,h1]) (by decide) (by simp only [go_sem,aE,aF,List.length_replicate,az,Int.toNat_natCast,↓reduceIte,Nat.reduceEqDiff,Nat.reduceAdd,Int.reduceAdd,Nat.reduceMul,Nat.reduceLeDiff,Nat.reduceLT,Int.reduceLE,Int.reduceLT,Int.reduceNeg,Int.reduceToNat,mt,mtL,aH,aG,mtZ,and_self,eq_self,or_true,true_or,a7,aZ,a6,Int.reduceSub,or_self,h1])
set_option maxHeartbeats 2000000 in
set_option maxRecDepth 100000 in
theorem rJ (r_:aJ) (size:Int) (hp0:0≤size):cV En 129 [.ptr 0 0,.int .i64 size] [.var 2 true (.agg [.sl none 1 false (r_.b.map (V.int .u8)),.int .i64 r_.e])] (.int .u64 (fQ r_ size).1) [.var 2 true (.agg [.sl none 1 false ((fQ r_ size).2.b.map (V.int .u8)),.int .i64 (fQ r_ size).2.e])] []:=by
 generalize hM:fQ r_ size=r
 rw [fQ.eq_1] at hM
 refine iA aA aK noJ Tryz.func129 rfl Tryz.ntmps129 (by kernel_rfl) rfl fun ks hw hwB=>aL ?_
 refine spQ ?_
 replace hw:=nzQ hw
 try simp only [fv,wfB,decide_eq_true_eq,decide_eq_false_iff_not,Bool.and_eq_true,Bool.or_eq_true,Bool.not_eq_true',Bool.not_eq_false',beq_iff_eq,bne_iff_ne,beq_eq_false_iff_ne,bne_eq_false_iff_eq,ne_eq,Int.not_lt,Int.not_le,gt_iff_lt,ge_iff_le,List.length_map,wfL,wfV,and_true,true_and,dm,dn,fI,fJ,fK,eW,eG,List.length_append,List.length_cons,List.length_nil,List.length_replicate,az,fb,fc,fd,bS,eY,eX] at hwB
 have hM0:=hM;clear hM;obtain ⟨x1,hx2,hM⟩:=ay hM0;clear hM0
 have hcx1:=Am r_ size (by (exact pfQ))
 rw [←hx2] at hcx1
 refine dK [0] hcx1 (by decide) (by simp only [go_sem,aE,aF,List.length_replicate,az,Int.toNat_natCast,↓reduceIte,Nat.reduceEqDiff,Nat.reduceAdd,Int.reduceAdd,Nat.reduceMul,Nat.reduceLeDiff,Nat.reduceLT,Int.reduceLE,Int.reduceLT,Int.reduceNeg,Int.reduceToNat,mt,mtL,aH,aG,mtZ,and_self,eq_self,or_true,true_or]) (by simp only [go_sem,aE,aF,List.length_replicate,az,Int.toNat_natCast,↓reduceIte,Nat.reduceEqDiff,Nat.reduceAdd,Int.reduceAdd,Nat.reduceMul,Nat.reduceLeDiff,Nat.reduceLT,Int.reduceLE,Int.reduceLT,Int.reduceNeg,Int.reduceToNat,mt,mtL,aH,aG,mtZ,and_self,eq_self,or_true,true_or]) (fun hw3=> ?_)
 replace hw3:=nzQ hw3
 refine spQ ?_
 have hM0:=hM;clear hM;obtain ⟨f4,d4,hf4,hd4,hM⟩:=bd hM0;clear hM0
 refine bF (fun n S=> ∃p:Int×Int,S=(⟨[(0,.ptr 0 0),(5,.int .u64 p.1),(10,.sl none 1 false (x1.1.map (V.int .u8))),(11,.int .i64 (x1.1.length:Int)),(12,.int .i64 p.2)],[(0,.lent (ks 0) 2 true (.agg [.sl none 1 false (x1.2.b.map (V.int .u8)),.int .i64 x1.2.e]))],1⟩:St)∧((0≤p.2)∧(p.2≤(x1.1.length:Int)))∧((x1.1.length:Int) - p.2).toNat<n∧ao n f4 d4 p=r) (((x1.1.length:Int) - 0).toNat+1) _ sbQ sbQ ⟨(0,0),rfl,⟨omQ,omQ⟩,(Nat.lt_succ_self _),hM⟩ ?_
 clear hM
 rintro n4 S ⟨p4,rfl,hfa4,hm4,hM⟩
 have hM0:=hM;clear hM;obtain ⟨ag4,hag4,hM⟩:=bf hM0 (by omega) hf4;clear hM0
 replace hfa4:=nzQ hfa4
 replace hm4:=nzQ hm4
 have ha4:aq .i64 p4.2 1=p4.2+1:=bp omQ omQ
 refine aa ha4 ?_
 refine aB (fun h5=> ?_) (fun h5=> ?_)
 ·rw [if_pos h5] at hM
  refine aa (And.intro ha4 h5) ?_
  have nh5:=nzQ h5
  try have hr6:=mpQ nh5
  have hF:=(And.intro ha4 h5)
  exact auQ
 ·rw [if_neg (an h5)] at hM
  refine aa (And.intro ha4 h5) ?_
  have nh5:=nzQ h5
  try have hr8:=mpQ nh5
  subst hM
  exact cM [0] (by simp only [go_sem,aE,aF,List.length_replicate,az,Int.toNat_natCast,↓reduceIte,Nat.reduceEqDiff,Nat.reduceAdd,Int.reduceAdd,Nat.reduceMul,Nat.reduceLeDiff,Nat.reduceLT,Int.reduceLE,Int.reduceLT,Int.reduceNeg,Int.reduceToNat,mt,mtL,aH,aG,mtZ,and_self,eq_self,or_true,true_or,a7,ha4,aZ,a6,Int.reduceSub,or_self,h5]) (by decide) (by simp only [go_sem,aE,aF,List.length_replicate,az,Int.toNat_natCast,↓reduceIte,Nat.reduceEqDiff,Nat.reduceAdd,Int.reduceAdd,Nat.reduceMul,Nat.reduceLeDiff,Nat.reduceLT,Int.reduceLE,Int.reduceLT,Int.reduceNeg,Int.reduceToNat,mt,mtL,aH,aG,mtZ,and_self,eq_self,or_true,true_or,a7,ha4,aZ,a6,Int.reduceSub,or_self,h5])
set_option maxHeartbeats 2000000 in
set_option maxRecDepth 100000 in
theorem IQ (N:Nat) (ih: ∀(r_:aJ) (depth:Int),(0≤depth)→(isB r_.b)→depth.toNat<N→cV En 90 [.ptr 0 0,.int .i64 depth] [.var 2 true (.agg [.sl none 1 false (r_.b.map (V.int .u8)),.int .i64 r_.e])] (.agg [.int .i64 (cJ r_ depth).1.Kind,.int .i64 (cJ r_ depth).1.N,.sl none 1 false ((cJ r_ depth).1.B.map (V.int .u8)),.sl none 4 true ((cJ r_ depth).1.L.map aw)]) [.var 2 true (.agg [.sl none 1 false ((cJ r_ depth).2.b.map (V.int .u8)),.int .i64 (cJ r_ depth).2.e])] []) (r_:aJ) (depth:Int) (hp0:0≤depth) (hp1:isB r_.b) (hp_:depth.toNat<N+1):cV En 90 [.ptr 0 0,.int .i64 depth] [.var 2 true (.agg [.sl none 1 false (r_.b.map (V.int .u8)),.int .i64 r_.e])] (.agg [.int .i64 (iI r_ depth).1.Kind,.int .i64 (iI r_ depth).1.N,.sl none 1 false ((iI r_ depth).1.B.map (V.int .u8)),.sl none 4 true ((iI r_ depth).1.L.map aw)]) [.var 2 true (.agg [.sl none 1 false ((iI r_ depth).2.b.map (V.int .u8)),.int .i64 (iI r_ depth).2.e])] []:=by
 generalize hM:iI r_ depth=r
 rw [iI.eq_1] at hM
 refine iA aA aK [5,15] Tryz.func90 rfl Tryz.ntmps90 (by kernel_rfl) rfl fun ks hw hwB=>aL ?_
 refine spQ ?_
 replace hw:=nzQ hw
 try simp only [fv,wfB,decide_eq_true_eq,decide_eq_false_iff_not,Bool.and_eq_true,Bool.or_eq_true,Bool.not_eq_true',Bool.not_eq_false',beq_iff_eq,bne_iff_ne,beq_eq_false_iff_ne,bne_eq_false_iff_eq,ne_eq,Int.not_lt,Int.not_le,gt_iff_lt,ge_iff_le,List.length_map,wfL,wfV,and_true,true_and,dm,dn,fI,fJ,fK,eW,eG,List.length_append,List.length_cons,List.length_nil,List.length_replicate,az,fb,fc,fd,bS,eY,eX] at hwB
 have hM0:=hM;clear hM;obtain ⟨x1,hx2,hM⟩:=ay hM0;clear hM0
 have hcx1:=rJ r_ 1 (by (first|assumption|omega))
 rw [←hx2] at hcx1
 refine dK [0] hcx1 (by decide) (by simp only [go_sem,aE,aF,List.length_replicate,az,Int.toNat_natCast,↓reduceIte,Nat.reduceEqDiff,Nat.reduceAdd,Int.reduceAdd,Nat.reduceMul,Nat.reduceLeDiff,Nat.reduceLT,Int.reduceLE,Int.reduceLT,Int.reduceNeg,Int.reduceToNat,mt,mtL,aH,aG,mtZ,and_self,eq_self,or_true,true_or]) (by simp only [go_sem,aE,aF,List.length_replicate,az,Int.toNat_natCast,↓reduceIte,Nat.reduceEqDiff,Nat.reduceAdd,Int.reduceAdd,Nat.reduceMul,Nat.reduceLeDiff,Nat.reduceLT,Int.reduceLE,Int.reduceLT,Int.reduceNeg,Int.reduceToNat,mt,mtL,aH,aG,mtZ,and_self,eq_self,or_true,true_or]) (fun hw3=> ?_)
 replace hw3:=nzQ hw3
 refine spQ ?_
 have hq4:=rz hx2 (by assumption)
 replace hq4:=nzQ hq4
 have hq5:=rA hx2 (by assumption)
 replace hq5:=nzQ hq5
 have hM0:=hM;clear hM;obtain ⟨j6,hj6,hM⟩:=kL hM0;clear hM0
 refine kI (fun S=> ∃p:Unit,S=(⟨[(0,.ptr 0 0),(1,.int .i64 depth),(4,.ptr 1 0),(5,.int .i64 (ae .i64 x1.1))],[(0,.lent (ks 0) 2 true (.agg [.sl none 1 false (x1.2.b.map (V.int .u8)),.int .i64 x1.2.e])),(1,.var 4 true (.agg [.int .i64 0,.int .i64 0,.sl (some true) 1 false [],.sl (some true) 4 true []]))],2⟩:St)∧(((ae .i64 x1.1)≠3∨depth≠0))∧j6 p=r) ?_ (fun hcut6=> ?_)
 ·clear hM
  rintro S ⟨p6,rfl,hfa6,hM⟩
  replace hfa6:=nzQ hfa6
  have hM0:=hM;clear hM;have hM:=i0 hM0 hj6;clear hM0
  try refine spQ ?_
  refine aB (fun h7=> ?_) (fun h7=> ?_)
  ·rw [if_pos h7] at hM
   refine aa h7 ?_
   have nh7:=nzQ h7
   try have hr8:=mpQ nh7
   have hM0:=hM;clear hM;obtain ⟨x9,hx10,hM⟩:=ay hM0;clear hM0
   have hcx9:=rJ (x1.2) 8 (by (first|assumption|omega))
   rw [←hx10] at hcx9
   refine dK [0] hcx9 (by decide) (by simp only [go_sem,aE,aF,List.length_replicate,az,Int.toNat_natCast,↓reduceIte,Nat.reduceEqDiff,Nat.reduceAdd,Int.reduceAdd,Nat.reduceMul,Nat.reduceLeDiff,Nat.reduceLT,Int.reduceLE,Int.reduceLT,Int.reduceNeg,Int.reduceToNat,mt,mtL,aH,aG,mtZ,and_self,eq_self,or_true,true_or]) (by simp only [go_sem,aE,aF,List.length_replicate,az,Int.toNat_natCast,↓reduceIte,Nat.reduceEqDiff,Nat.reduceAdd,Int.reduceAdd,Nat.reduceMul,Nat.reduceLeDiff,Nat.reduceLT,Int.reduceLE,Int.reduceLT,Int.reduceNeg,Int.reduceToNat,mt,mtL,aH,aG,mtZ,and_self,eq_self,or_true,true_or]) (fun hw11=> ?_)
   replace hw11:=nzQ hw11
   refine spQ ?_
   have hq12:=rz hx10 (by assumption)
   replace hq12:=nzQ hq12
   have hq13:=rA hx10 (by assumption)
   replace hq13:=nzQ hq13
   subst hM
   exact cM [0] (by simp only [go_sem,aE,aF,List.length_replicate,az,Int.toNat_natCast,↓reduceIte,Nat.reduceEqDiff,Nat.reduceAdd,Int.reduceAdd,Nat.reduceMul,Nat.reduceLeDiff,Nat.reduceLT,Int.reduceLE,Int.reduceLT,Int.reduceNeg,Int.reduceToNat,mt,mtL,aH,aG,mtZ,and_self,eq_self,or_true,true_or,a7,aZ,a6,Int.reduceSub,or_self,h7]) (by decide) (by simp only [go_sem,aE,aF,List.length_replicate,az,Int.toNat_natCast,↓reduceIte,Nat.reduceEqDiff,Nat.reduceAdd,Int.reduceAdd,Nat.reduceMul,Nat.reduceLeDiff,Nat.reduceLT,Int.reduceLE,Int.reduceLT,Int.reduceNeg,Int.reduceToNat,mt,mtL,aH,aG,mtZ,and_self,eq_self,or_true,true_or,a7,aZ,a6,Int.reduceSub,or_self,h7])
  ·rw [if_neg (an h7)] at hM
   refine aa h7 ?_
   have nh7:=nzQ h7
   try have hr14:=mpQ nh7
   refine aB (fun h15=> ?_) (fun h15=> ?_)
   ·rw [if_pos h15] at hM
    refine aa h15 ?_
    have nh15:=nzQ h15
    try have hr16:=mpQ nh15
    have hM0:=hM;clear hM;obtain ⟨x17,hx18,hM⟩:=ay hM0;clear hM0
    have hcx17:=rJ (x1.2) 4 (by (first|assumption|omega))
    rw [←hx18] at hcx17
    refine dK [0] hcx17 (by decide) (by simp only [go_sem,aE,aF,List.length_replicate,az,Int.toNat_natCast,↓reduceIte,Nat.reduceEqDiff,Nat.reduceAdd,Int.reduceAdd,Nat.reduceMul,Nat.reduceLeDiff,Nat.reduceLT,Int.reduceLE,Int.reduceLT,Int.reduceNeg,Int.reduceToNat,mt,mtL,aH,aG,mtZ,and_self,eq_self,or_true,true_or]) (by simp only [go_sem,aE,aF,List.length_replicate,az,Int.toNat_natCast,↓reduceIte,Nat.reduceEqDiff,Nat.reduceAdd,Int.reduceAdd,Nat.reduceMul,Nat.reduceLeDiff,Nat.reduceLT,Int.reduceLE,Int.reduceLT,Int.reduceNeg,Int.reduceToNat,mt,mtL,aH,aG,mtZ,and_self,eq_self,or_true,true_or]) (fun hw19=> ?_)
    replace hw19:=nzQ hw19
    refine spQ ?_
    have hq20:=rz hx18 (by assumption)
    replace hq20:=nzQ hq20
    have hq21:=rA hx18 (by assumption)
    replace hq21:=nzQ hq21
    have hM0:=hM;clear hM;obtain ⟨x22,hx23,hM⟩:=ay hM0;clear hM0
    have hcx22:=Am (x17.2) (ae .i64 x17.1) (by (first|assumption|omega))
    rw [←hx23] at hcx22
    refine dK [0] hcx22 (by decide) (by simp only [go_sem,aE,aF,List.length_replicate,az,Int.toNat_natCast,↓reduceIte,Nat.reduceEqDiff,Nat.reduceAdd,Int.reduceAdd,Nat.reduceMul,Nat.reduceLeDiff,Nat.reduceLT,Int.reduceLE,Int.reduceLT,Int.reduceNeg,Int.reduceToNat,mt,mtL,aH,aG,mtZ,and_self,eq_self,or_true,true_or]) (by simp only [go_sem,aE,aF,List.length_replicate,az,Int.toNat_natCast,↓reduceIte,Nat.reduceEqDiff,Nat.reduceAdd,Int.reduceAdd,Nat.reduceMul,Nat.reduceLeDiff,Nat.reduceLT,Int.reduceLE,Int.reduceLT,Int.reduceNeg,Int.reduceToNat,mt,mtL,aH,aG,mtZ,and_self,eq_self,or_true,true_or]) (fun hw24=> ?_)
    replace hw24:=nzQ hw24
    refine spQ ?_
    have hq25:=Hu hx23 (by assumption)
    replace hq25:=nzQ hq25
    have hM0:=hM;clear hM;obtain ⟨x26,hx27,hM⟩:=ay hM0;clear hM0
    have hcx26:=vo none (x22.1)
    rw [←hx27] at hcx26
    refine aQ hcx26 clQ clQ (fun hw28=> ?_)
    replace hw28:=nzQ hw28
    refine spQ ?_
    have hq29:=nzQ (cfU hx27)
    subst hM
    exact cM [0] (by simp only [go_sem,aE,aF,List.length_replicate,az,Int.toNat_natCast,↓reduceIte,Nat.reduceEqDiff,Nat.reduceAdd,Int.reduceAdd,Nat.reduceMul,Nat.reduceLeDiff,Nat.reduceLT,Int.reduceLE,Int.reduceLT,Int.reduceNeg,Int.reduceToNat,mt,mtL,aH,aG,mtZ,and_self,eq_self,or_true,true_or,a7,aZ,a6,Int.reduceSub,or_self,h7,h15]) (by decide) (by simp only [go_sem,aE,aF,List.length_replicate,az,Int.toNat_natCast,↓reduceIte,Nat.reduceEqDiff,Nat.reduceAdd,Int.reduceAdd,Nat.reduceMul,Nat.reduceLeDiff,Nat.reduceLT,Int.reduceLE,Int.reduceLT,Int.reduceNeg,Int.reduceToNat,mt,mtL,aH,aG,mtZ,and_self,eq_self,or_true,true_or,a7,aZ,a6,Int.reduceSub,or_self,h7,h15])
   ·rw [if_neg (an h15)] at hM
    refine aa h15 ?_
    have nh15:=nzQ h15
    try have hr30:=mpQ nh15
    refine aB (fun h31=> ?_) (fun h31=> ?_)
    ·rw [if_pos h31] at hM
     refine aa h31 ?_
     have nh31:=nzQ h31
     try have hr32:=mpQ nh31
     have hM0:=hM;clear hM;obtain ⟨x33,hx34,hM⟩:=ay hM0;clear hM0
     have hcx33:=rJ (x1.2) 4 (by (first|assumption|omega))
     rw [←hx34] at hcx33
     refine dK [0] hcx33 (by decide) (by simp only [go_sem,aE,aF,List.length_replicate,az,Int.toNat_natCast,↓reduceIte,Nat.reduceEqDiff,Nat.reduceAdd,Int.reduceAdd,Nat.reduceMul,Nat.reduceLeDiff,Nat.reduceLT,Int.reduceLE,Int.reduceLT,Int.reduceNeg,Int.reduceToNat,mt,mtL,aH,aG,mtZ,and_self,eq_self,or_true,true_or]) (by simp only [go_sem,aE,aF,List.length_replicate,az,Int.toNat_natCast,↓reduceIte,Nat.reduceEqDiff,Nat.reduceAdd,Int.reduceAdd,Nat.reduceMul,Nat.reduceLeDiff,Nat.reduceLT,Int.reduceLE,Int.reduceLT,Int.reduceNeg,Int.reduceToNat,mt,mtL,aH,aG,mtZ,and_self,eq_self,or_true,true_or]) (fun hw35=> ?_)
     replace hw35:=nzQ hw35
     refine spQ ?_
     have hq36:=rz hx34 (by assumption)
     replace hq36:=nzQ hq36
     have hq37:=rA hx34 (by assumption)
     replace hq37:=nzQ hq37
     have hM0:=hM;clear hM;obtain ⟨j38,hj38,hM⟩:=kL hM0;clear hM0
     refine kI (fun S=> ∃p:aJ,S=(⟨[(0,.ptr 0 0),(1,.int .i64 depth),(4,.ptr 1 0),(6,.ptr 2 0),(7,.int .i64 (ae .i64 x33.1))],[(0,.lent (ks 0) 2 true (.agg [.sl none 1 false (p.b.map (V.int .u8)),.int .i64 p.e])),(1,.var 4 true (.agg [.int .i64 0,.int .i64 0,.sl (some true) 1 false [],.sl (some true) 4 true []])),(2,.var 4 true (.agg [.int .i64 (ae .i64 x1.1),.int .i64 0,.sl (some true) 1 false [],.sl (some true) 4 true []]))],3⟩:St)∧((((ae .i64 x33.1)≤1000∨(p).e≠0)∧(0≤(ae .i64 x33.1)))∧(isB (p).b))∧j38 p=r) ?_ (fun hcut38=> ?_)
     ·clear hM
      rintro S ⟨p38,rfl,⟨hfa38,hF15_0⟩,hM⟩
      replace hfa38:=nzQ hfa38
      have hM0:=hM;clear hM;have hM:=i0 hM0 hj38;clear hM0
      try refine spQ ?_
      have hM0:=hM;clear hM;obtain ⟨f39,d39,hf39,hd39,hM⟩:=bd hM0;clear hM0
      refine dW (fun n S=> ∃p:Int×aJ×List ab,S=(⟨[(0,.ptr 0 0),(1,.int .i64 depth),(4,.ptr 1 0),(6,.ptr 2 0),(55,.int .i64 (ae .i64 x33.1)),(56,.int .i64 p.1)],[(0,.lent (ks 0) 2 true (.agg [.sl none 1 false (p.2.1.b.map (V.int .u8)),.int .i64 p.2.1.e])),(1,.var 4 true (.agg [.int .i64 0,.int .i64 0,.sl (some true) 1 false [],.sl (some true) 4 true []])),(2,.var 4 true (.agg [.int .i64 (ae .i64 x1.1),.int .i64 0,.sl (some true) 1 false [],.own 3])),(3,.own 102 4 true none (p.2.2.map aw))],4⟩:St)∧(((0≤p.1)∧(p.1≤(ae .i64 x33.1))∧((ae .i64 x33.1)≤1000∨(p.2.1).e≠0)∧(((p.2.2).length:Int)≤p.1))∧(isB (p.2.1).b))∧((ae .i64 x33.1) - p.1).toNat<n∧ao n f39 d39 p=r) (((ae .i64 x33.1) - 0).toNat+1) _ _ (iw 2 3 102 rfl rfl (by decide)) sbQ sbQ ⟨(0,p38,([]:List ab)),rfl,⟨⟨omQ,omQ,omQ,omQ⟩,by assumption⟩,(Nat.lt_succ_self _),hM⟩ ?_
      clear hM
      rintro n39 S ⟨p39,rfl,⟨hfa39,hF16_0⟩,hm39,hM⟩
      have hM0:=hM;clear hM;obtain ⟨ag39,hag39,hM⟩:=bf hM0 (by omega) hf39;clear hM0
      replace hfa39:=nzQ hfa39
      replace hm39:=nzQ hm39
      have ha39:aq .i64 p39.1 1=p39.1+1:=bp omQ omQ
      refine aa ha39 ?_
      refine aB (fun h40=> ?_) (fun h40=> ?_)
      ·rw [if_pos h40] at hM
       refine aa (And.intro ha39 h40) ?_
       have nh40:=nzQ h40
       try have hr41:=mpQ nh40
       refine aB (fun h42=> ?_) (fun h42=> ?_)
       ·rw [if_pos h42] at hM
        refine aa (And.intro ha39 h42) ?_
        have nh42:=nzQ h42
        try have hr43:=mpQ nh42
        subst hM
        exact cM [0] (by simp only [go_sem,aE,aF,List.length_replicate,az,Int.toNat_natCast,↓reduceIte,Nat.reduceEqDiff,Nat.reduceAdd,Int.reduceAdd,Nat.reduceMul,Nat.reduceLeDiff,Nat.reduceLT,Int.reduceLE,Int.reduceLT,Int.reduceNeg,Int.reduceToNat,mt,mtL,aH,aG,mtZ,and_self,eq_self,or_true,true_or,a7,ha39,aZ,a6,Int.reduceSub,or_self,h7,h15,h31,h40,h42]) (by decide) (by simp only [go_sem,aE,aF,List.length_replicate,az,Int.toNat_natCast,↓reduceIte,Nat.reduceEqDiff,Nat.reduceAdd,Int.reduceAdd,Nat.reduceMul,Nat.reduceLeDiff,Nat.reduceLT,Int.reduceLE,Int.reduceLT,Int.reduceNeg,Int.reduceToNat,mt,mtL,aH,aG,mtZ,and_self,eq_self,or_true,true_or,a7,ha39,aZ,a6,Int.reduceSub,or_self,h7,h15,h31,h40,h42])
       ·rw [if_neg (an h42)] at hM
        refine aa (And.intro ha39 h42) ?_
        have nh42:=nzQ h42
        try have hr44:=mpQ nh42
        refine cG 74 7 [63,64,65,66,67,68,69] [] ([[],[0],[],[],[3],[2,3,4],[2,3,4,5]]++[List.range 7,List.range 8,List.range 9]) [(5,0)] (by kernel_rfl) (by exact alQ) ?_
        refine aa ha39 ?_
        have ha45:aD .i64 depth 1=(depth - 1):=fp omQ omQ
        try simp only [ha45]
        have hM0:=hM;clear hM;obtain ⟨x46,hx47,hM⟩:=ay hM0;clear hM0
        have hcx46:=ih (p39.2.1) (depth - 1) (by (first|assumption|omega)) (by (first|assumption|omega)) (by omega)
        rw [←hx47] at hcx46
        refine Gh 0 hcx46 rfl rfl (by simp only [go_sem,aE,aF,List.length_replicate,az,Int.toNat_natCast,↓reduceIte,Nat.reduceEqDiff,Nat.reduceAdd,Int.reduceAdd,Nat.reduceMul,Nat.reduceLeDiff,Nat.reduceLT,Int.reduceLE,Int.reduceLT,Int.reduceNeg,Int.reduceToNat,mt,mtL,aH,aG,mtZ,and_self,eq_self,or_true,true_or,ha39,ha45]) (by simp only [go_sem,aE,aF,List.length_replicate,az,Int.toNat_natCast,↓reduceIte,Nat.reduceEqDiff,Nat.reduceAdd,Int.reduceAdd,Nat.reduceMul,Nat.reduceLeDiff,Nat.reduceLT,Int.reduceLE,Int.reduceLT,Int.reduceNeg,Int.reduceToNat,mt,mtL,aH,aG,mtZ,and_self,eq_self,or_true,true_or,ha39,ha45]) (by simp only [go_sem,aE,aF,List.length_replicate,az,Int.toNat_natCast,↓reduceIte,Nat.reduceEqDiff,Nat.reduceAdd,Int.reduceAdd,Nat.reduceMul,Nat.reduceLeDiff,Nat.reduceLT,Int.reduceLE,Int.reduceLT,Int.reduceNeg,Int.reduceToNat,mt,mtL,aH,aG,mtZ,and_self,eq_self,or_true,true_or,ha39,ha45]) (by simp only [go_sem,aE,aF,List.length_replicate,az,Int.toNat_natCast,↓reduceIte,Nat.reduceEqDiff,Nat.reduceAdd,Int.reduceAdd,Nat.reduceMul,Nat.reduceLeDiff,Nat.reduceLT,Int.reduceLE,Int.reduceLT,Int.reduceNeg,Int.reduceToNat,mt,mtL,aH,aG,mtZ,and_self,eq_self,or_true,true_or,ha39,ha45]) (by simp only [go_sem,aE,aF,List.length_replicate,az,Int.toNat_natCast,↓reduceIte,Nat.reduceEqDiff,Nat.reduceAdd,Int.reduceAdd,Nat.reduceMul,Nat.reduceLeDiff,Nat.reduceLT,Int.reduceLE,Int.reduceLT,Int.reduceNeg,Int.reduceToNat,mt,mtL,aH,aG,mtZ,and_self,eq_self,or_true,true_or,ha39,ha45]) ?_
        refine aa (And.intro ha39 ha45) ?_
        have hq48:=GS hx47 (by assumption)
        replace hq48:=nzQ hq48
        refine aN omQ ?_
        refine aa (And.intro ha39 ha45) ?_
        refine b_ (n39 - 1) _ (by omega) sbQ sbQ ⟨((p39.1+1),x46.2,(p39.2.2++([x46.1]:List ab))),rfl,⟨⟨omQ,omQ,omQ,omQ⟩,by assumption⟩,omQ,ca hM hag39⟩
      ·rw [if_neg (an h40)] at hM
       refine aa (And.intro ha39 h40) ?_
       have nh40:=nzQ h40
       try have hr49:=mpQ nh40
       subst hM
       exact cM [0] (by simp only [go_sem,aE,aF,List.length_replicate,az,Int.toNat_natCast,↓reduceIte,Nat.reduceEqDiff,Nat.reduceAdd,Int.reduceAdd,Nat.reduceMul,Nat.reduceLeDiff,Nat.reduceLT,Int.reduceLE,Int.reduceLT,Int.reduceNeg,Int.reduceToNat,mt,mtL,aH,aG,mtZ,and_self,eq_self,or_true,true_or,a7,ha39,aZ,a6,Int.reduceSub,or_self,h7,h15,h31,h40]) (by decide) (by simp only [go_sem,aE,aF,List.length_replicate,az,Int.toNat_natCast,↓reduceIte,Nat.reduceEqDiff,Nat.reduceAdd,Int.reduceAdd,Nat.reduceMul,Nat.reduceLeDiff,Nat.reduceLT,Int.reduceLE,Int.reduceLT,Int.reduceNeg,Int.reduceToNat,mt,mtL,aH,aG,mtZ,and_self,eq_self,or_true,true_or,a7,ha39,aZ,a6,Int.reduceSub,or_self,h7,h15,h31,h40])
     ·refine spQ ?_
      refine aB (fun h50=> ?_) (fun h50=> ?_)
      ·rw [if_pos h50] at hM
       refine aa h50 ?_
       have nh50:=nzQ h50
       try have hr51:=mpQ nh50
       have hM0:=hM;clear hM;obtain ⟨x52,hx53,hM⟩:=ay hM0;clear hM0
       have hcx52:=lm (x33.2) 3
       rw [←hx53] at hcx52
       refine dK [0] hcx52 (by decide) (by simp only [go_sem,aE,aF,List.length_replicate,az,Int.toNat_natCast,↓reduceIte,Nat.reduceEqDiff,Nat.reduceAdd,Int.reduceAdd,Nat.reduceMul,Nat.reduceLeDiff,Nat.reduceLT,Int.reduceLE,Int.reduceLT,Int.reduceNeg,Int.reduceToNat,mt,mtL,aH,aG,mtZ,and_self,eq_self,or_true,true_or]) (by simp only [go_sem,aE,aF,List.length_replicate,az,Int.toNat_natCast,↓reduceIte,Nat.reduceEqDiff,Nat.reduceAdd,Int.reduceAdd,Nat.reduceMul,Nat.reduceLeDiff,Nat.reduceLT,Int.reduceLE,Int.reduceLT,Int.reduceNeg,Int.reduceToNat,mt,mtL,aH,aG,mtZ,and_self,eq_self,or_true,true_or]) (fun hw54=> ?_)
       replace hw54:=nzQ hw54
       refine spQ ?_
       have hq55:=ry hx53 (by decide)
       replace hq55:=nzQ hq55
       have hq56:=rC hx53 (by assumption)
       replace hq56:=nzQ hq56
       exact dV _ sbQ sbQ (hcut38 _ ⟨x52,rfl,⟨⟨omQ,omQ⟩,by assumption⟩,hM⟩)
      ·rw [if_neg (an h50)] at hM
       refine aa h50 ?_
       have nh50:=nzQ h50
       try have hr57:=mpQ nh50
       exact dV _ sbQ sbQ (hcut38 _ ⟨x33.2,rfl,⟨⟨omQ,omQ⟩,by assumption⟩,hM⟩)
    ·rw [if_neg (an h31)] at hM
     refine aa h31 ?_
     have nh31:=nzQ h31
     try have hr58:=mpQ nh31
     subst hM
     exact cM [0] (by simp only [go_sem,aE,aF,List.length_replicate,az,Int.toNat_natCast,↓reduceIte,Nat.reduceEqDiff,Nat.reduceAdd,Int.reduceAdd,Nat.reduceMul,Nat.reduceLeDiff,Nat.reduceLT,Int.reduceLE,Int.reduceLT,Int.reduceNeg,Int.reduceToNat,mt,mtL,aH,aG,mtZ,and_self,eq_self,or_true,true_or,a7,aZ,a6,Int.reduceSub,or_self,h7,h15,h31]) (by decide) (by simp only [go_sem,aE,aF,List.length_replicate,az,Int.toNat_natCast,↓reduceIte,Nat.reduceEqDiff,Nat.reduceAdd,Int.reduceAdd,Nat.reduceMul,Nat.reduceLeDiff,Nat.reduceLT,Int.reduceLE,Int.reduceLT,Int.reduceNeg,Int.reduceToNat,mt,mtL,aH,aG,mtZ,and_self,eq_self,or_true,true_or,a7,aZ,a6,Int.reduceSub,or_self,h7,h15,h31])
 ·refine spQ ?_
  refine aY (fun h59=> ?_) (fun h59=> ?_)
  ·rw [if_neg (an h59)] at hM
   refine aa h59 ?_
   have nh59:=nzQ h59
   try have hr60:=mpQ nh59
   refine aY (fun h61=> ?_) (fun h61=> ?_)
   ·rw [if_neg (an h61)] at hM
    refine aa h61 ?_
    have nh61:=nzQ h61
    try have hr62:=mpQ nh61
    refine gO (fun h63=> ?_) (fun h63=> ?_)
    ·rw [if_pos h63] at hM
     refine aa h63 ?_
     have nh63:=nzQ h63
     try have hr64:=mpQ nh63
     refine aB (fun h65=> ?_) (fun h65=> ?_)
     ·rw [if_pos h65] at hM
      refine aa h65 ?_
      have nh65:=nzQ h65
      try have hr66:=mpQ nh65
      have hM0:=hM;clear hM;obtain ⟨x67,hx68,hM⟩:=ay hM0;clear hM0
      have hcx67:=lm (x1.2) 3
      rw [←hx68] at hcx67
      refine dK [0] hcx67 (by decide) (by simp only [go_sem,aE,aF,List.length_replicate,az,Int.toNat_natCast,↓reduceIte,Nat.reduceEqDiff,Nat.reduceAdd,Int.reduceAdd,Nat.reduceMul,Nat.reduceLeDiff,Nat.reduceLT,Int.reduceLE,Int.reduceLT,Int.reduceNeg,Int.reduceToNat,mt,mtL,aH,aG,mtZ,and_self,eq_self,or_true,true_or]) (by simp only [go_sem,aE,aF,List.length_replicate,az,Int.toNat_natCast,↓reduceIte,Nat.reduceEqDiff,Nat.reduceAdd,Int.reduceAdd,Nat.reduceMul,Nat.reduceLeDiff,Nat.reduceLT,Int.reduceLE,Int.reduceLT,Int.reduceNeg,Int.reduceToNat,mt,mtL,aH,aG,mtZ,and_self,eq_self,or_true,true_or]) (fun hw69=> ?_)
      replace hw69:=nzQ hw69
      refine spQ ?_
      have hq70:=ry hx68 (by decide)
      replace hq70:=nzQ hq70
      have hq71:=rC hx68 (by assumption)
      replace hq71:=nzQ hq71
      subst hM
      exact cM [0] (by simp only [go_sem,aE,aF,List.length_replicate,az,Int.toNat_natCast,↓reduceIte,Nat.reduceEqDiff,Nat.reduceAdd,Int.reduceAdd,Nat.reduceMul,Nat.reduceLeDiff,Nat.reduceLT,Int.reduceLE,Int.reduceLT,Int.reduceNeg,Int.reduceToNat,mt,mtL,aH,aG,mtZ,and_self,eq_self,or_true,true_or,a7,aZ,a6,Int.reduceSub,or_self,h59,h61,h63,h65]) (by decide) (by simp only [go_sem,aE,aF,List.length_replicate,az,Int.toNat_natCast,↓reduceIte,Nat.reduceEqDiff,Nat.reduceAdd,Int.reduceAdd,Nat.reduceMul,Nat.reduceLeDiff,Nat.reduceLT,Int.reduceLE,Int.reduceLT,Int.reduceNeg,Int.reduceToNat,mt,mtL,aH,aG,mtZ,and_self,eq_self,or_true,true_or,a7,aZ,a6,Int.reduceSub,or_self,h59,h61,h63,h65])
     ·rw [if_neg (an h65)] at hM
      refine aa h65 ?_
      have nh65:=nzQ h65
      try have hr72:=mpQ nh65
      exact dV _ sbQ sbQ (hcut6 _ ⟨(),rfl,omQ,hM⟩)
    ·rw [if_neg (an h63)] at hM
     refine aa h63 ?_
     have nh63:=nzQ h63
     try have hr73:=mpQ nh63
     exact dV _ sbQ sbQ (hcut6 _ ⟨(),rfl,omQ,hM⟩)
   ·rw [if_pos h61] at hM
    refine aa h61 ?_
    have nh61:=nzQ h61
    try have hr74:=mpQ nh61
    have hM0:=hM;clear hM;obtain ⟨x75,hx76,hM⟩:=ay hM0;clear hM0
    have hcx75:=lm (x1.2) 3
    rw [←hx76] at hcx75
    refine dK [0] hcx75 (by decide) (by simp only [go_sem,aE,aF,List.length_replicate,az,Int.toNat_natCast,↓reduceIte,Nat.reduceEqDiff,Nat.reduceAdd,Int.reduceAdd,Nat.reduceMul,Nat.reduceLeDiff,Nat.reduceLT,Int.reduceLE,Int.reduceLT,Int.reduceNeg,Int.reduceToNat,mt,mtL,aH,aG,mtZ,and_self,eq_self,or_true,true_or]) (by simp only [go_sem,aE,aF,List.length_replicate,az,Int.toNat_natCast,↓reduceIte,Nat.reduceEqDiff,Nat.reduceAdd,Int.reduceAdd,Nat.reduceMul,Nat.reduceLeDiff,Nat.reduceLT,Int.reduceLE,Int.reduceLT,Int.reduceNeg,Int.reduceToNat,mt,mtL,aH,aG,mtZ,and_self,eq_self,or_true,true_or]) (fun hw77=> ?_)
    replace hw77:=nzQ hw77
    refine spQ ?_
    have hq78:=ry hx76 (by decide)
    replace hq78:=nzQ hq78
    have hq79:=rC hx76 (by assumption)
    replace hq79:=nzQ hq79
    subst hM
    exact cM [0] (by simp only [go_sem,aE,aF,List.length_replicate,az,Int.toNat_natCast,↓reduceIte,Nat.reduceEqDiff,Nat.reduceAdd,Int.reduceAdd,Nat.reduceMul,Nat.reduceLeDiff,Nat.reduceLT,Int.reduceLE,Int.reduceLT,Int.reduceNeg,Int.reduceToNat,mt,mtL,aH,aG,mtZ,and_self,eq_self,or_true,true_or,a7,aZ,a6,Int.reduceSub,or_self,h59,h61]) (by decide) (by simp only [go_sem,aE,aF,List.length_replicate,az,Int.toNat_natCast,↓reduceIte,Nat.reduceEqDiff,Nat.reduceAdd,Int.reduceAdd,Nat.reduceMul,Nat.reduceLeDiff,Nat.reduceLT,Int.reduceLE,Int.reduceLT,Int.reduceNeg,Int.reduceToNat,mt,mtL,aH,aG,mtZ,and_self,eq_self,or_true,true_or,a7,aZ,a6,Int.reduceSub,or_self,h59,h61])
  ·rw [if_pos h59] at hM
   refine aa h59 ?_
   have nh59:=nzQ h59
   try have hr80:=mpQ nh59
   have hM0:=hM;clear hM;obtain ⟨x81,hx82,hM⟩:=ay hM0;clear hM0
   have hcx81:=lm (x1.2) 3
   rw [←hx82] at hcx81
   refine dK [0] hcx81 (by decide) (by simp only [go_sem,aE,aF,List.length_replicate,az,Int.toNat_natCast,↓reduceIte,Nat.reduceEqDiff,Nat.reduceAdd,Int.reduceAdd,Nat.reduceMul,Nat.reduceLeDiff,Nat.reduceLT,Int.reduceLE,Int.reduceLT,Int.reduceNeg,Int.reduceToNat,mt,mtL,aH,aG,mtZ,and_self,eq_self,or_true,true_or]) (by simp only [go_sem,aE,aF,List.length_replicate,az,Int.toNat_natCast,↓reduceIte,Nat.reduceEqDiff,Nat.reduceAdd,Int.reduceAdd,Nat.reduceMul,Nat.reduceLeDiff,Nat.reduceLT,Int.reduceLE,Int.reduceLT,Int.reduceNeg,Int.reduceToNat,mt,mtL,aH,aG,mtZ,and_self,eq_self,or_true,true_or]) (fun hw83=> ?_)
   replace hw83:=nzQ hw83
   refine spQ ?_
   have hq84:=ry hx82 (by decide)
   replace hq84:=nzQ hq84
   have hq85:=rC hx82 (by assumption)
   replace hq85:=nzQ hq85
   subst hM
   exact cM [0] (by simp only [go_sem,aE,aF,List.length_replicate,az,Int.toNat_natCast,↓reduceIte,Nat.reduceEqDiff,Nat.reduceAdd,Int.reduceAdd,Nat.reduceMul,Nat.reduceLeDiff,Nat.reduceLT,Int.reduceLE,Int.reduceLT,Int.reduceNeg,Int.reduceToNat,mt,mtL,aH,aG,mtZ,and_self,eq_self,or_true,true_or,a7,aZ,a6,Int.reduceSub,or_self,h59]) (by decide) (by simp only [go_sem,aE,aF,List.length_replicate,az,Int.toNat_natCast,↓reduceIte,Nat.reduceEqDiff,Nat.reduceAdd,Int.reduceAdd,Nat.reduceMul,Nat.reduceLeDiff,Nat.reduceLT,Int.reduceLE,Int.reduceLT,Int.reduceNeg,Int.reduceToNat,mt,mtL,aH,aG,mtZ,and_self,eq_self,or_true,true_or,a7,aZ,a6,Int.reduceSub,or_self,h59])
theorem IR: ∀(N:Nat) (r_:aJ) (depth:Int),(0≤depth)→(isB r_.b)→depth.toNat<N→cV En 90 [.ptr 0 0,.int .i64 depth] [.var 2 true (.agg [.sl none 1 false (r_.b.map (V.int .u8)),.int .i64 r_.e])] (.agg [.int .i64 (cJ r_ depth).1.Kind,.int .i64 (cJ r_ depth).1.N,.sl none 1 false ((cJ r_ depth).1.B.map (V.int .u8)),.sl none 4 true ((cJ r_ depth).1.L.map aw)]) [.var 2 true (.agg [.sl none 1 false ((cJ r_ depth).2.b.map (V.int .u8)),.int .i64 (cJ r_ depth).2.e])] []:=by
 intro N
 induction N with
 | zero=>intro r_ depth h0 h1 h;exact absurd h (Nat.not_lt_zero _)
 | succ N ih=>
  intro r_ depth h0 h1 h
  have h9:=IQ N ih r_ depth h0 h1 h
  rw [Hw h0 h1] at h9
  exact h9
theorem IU (r_:aJ) (depth:Int) (hp0:0≤depth) (hp1:isB r_.b):cV En 90 [.ptr 0 0,.int .i64 depth] [.var 2 true (.agg [.sl none 1 false (r_.b.map (V.int .u8)),.int .i64 r_.e])] (.agg [.int .i64 (cJ r_ depth).1.Kind,.int .i64 (cJ r_ depth).1.N,.sl none 1 false ((cJ r_ depth).1.B.map (V.int .u8)),.sl none 4 true ((cJ r_ depth).1.L.map aw)]) [.var 2 true (.agg [.sl none 1 false ((cJ r_ depth).2.b.map (V.int .u8)),.int .i64 (cJ r_ depth).2.e])] []:=
 IR (depth.toNat+1) r_ depth hp0 hp1 (Nat.lt_succ_self _)
instance (priority:=1003):DRD 8 34 6 [28,29,30,31,32] [] ([[],[],[1],[1,2],[1,2,3],[0]]++[List.range 6]) [(5,0)]:=⟨trivial⟩
set_option maxHeartbeats 2000000 in
set_option maxRecDepth 100000 in
instance Nm (b:(List Int)):CM En (k8 b) 50 [.sl none 1 false (b.map (V.int .u8))] (fun y=> .tup [.agg [.int .i64 y.1.Kind,.int .i64 y.1.N,.sl none 1 false (y.1.B.map (V.int .u8)),.sl none 4 true (y.1.L.map aw)],.int .i64 y.2]) (fun _=> []):=by
 refine cmQ fun r hM=> ?_
 rw [k8.eq_1] at hM
 refine aO aA aK [7] Tryz.func50 rfl Tryz.ntmps50 (by kernel_rfl) fun hw=>aL ?_
 refine spQ ?_
 replace hw:=nzQ hw
 refine aB (fun h1=> ?_) (fun h1=> ?_)
 ·rw [if_pos h1] at hM
  refine aa h1 ?_
  have nh1:=nzQ h1
  try have hr2:=mpQ nh1
  subst hM
  exact ar (av h1)
 ·rw [if_neg (an h1)] at hM
  refine aa h1 ?_
  have nh1:=nzQ h1
  try have hr3:=mpQ nh1
  have hM0:=hM;clear hM;obtain ⟨x4,hx5,hM⟩:=ay hM0;clear hM0
  have hcx4:=IU ({b:=b,e:=0}:aJ) 8 (by (first|decide|exact kW hw.2)) (by (first|decide|exact kW hw.2))
  rw [←hx5] at hcx4
  refine dK [1] hcx4 (by decide) (by simp only [go_sem,aE,aF,List.length_replicate,az,Int.toNat_natCast,↓reduceIte,Nat.reduceEqDiff,Nat.reduceAdd,Int.reduceAdd,Nat.reduceMul,Nat.reduceLeDiff,Nat.reduceLT,Int.reduceLE,Int.reduceLT,Int.reduceNeg,Int.reduceToNat,mt,mtL,aH,aG,mtZ,and_self,eq_self,or_true,true_or]) (by simp only [go_sem,aE,aF,List.length_replicate,az,Int.toNat_natCast,↓reduceIte,Nat.reduceEqDiff,Nat.reduceAdd,Int.reduceAdd,Nat.reduceMul,Nat.reduceLeDiff,Nat.reduceLT,Int.reduceLE,Int.reduceLT,Int.reduceNeg,Int.reduceToNat,mt,mtL,aH,aG,mtZ,and_self,eq_self,or_true,true_or]) (fun hw6=> ?_)
  replace hw6:=nzQ hw6
  refine spQ ?_
  have hM0:=hM;clear hM;obtain ⟨j7,hj7,hM⟩:=kL hM0;clear hM0
  refine kI (fun S=> ∃p:aJ,S=(⟨[(2,.ptr 0 0),(4,.ptr 1 0),(5,.ptr 2 0)],[(0,.var 4 true (.agg [.int .i64 0,.int .i64 0,.sl (some true) 1 false [],.sl (some true) 4 true []])),(1,.var 2 true (.agg [.sl none 1 false (p.b.map (V.int .u8)),.int .i64 p.e])),(2,.var 4 true (.agg [.int .i64 x4.1.Kind,.int .i64 x4.1.N,.sl none 1 false (x4.1.B.map (V.int .u8)),.sl none 4 true (x4.1.L.map aw)]))],3⟩:St)∧(True)∧j7 p=r) ?_ (fun hcut7=> ?_)
  ·clear hM
   rintro S ⟨p7,rfl,hfa7,hM⟩
   have hM0:=hM;clear hM;have hM:=i0 hM0 hj7;clear hM0
   try refine spQ ?_
   have hF:=h1
   exact auQ
  ·refine spQ ?_
   refine aB (fun h11=> ?_) (fun h11=> ?_)
   ·rw [if_pos h11] at hM
    refine aa h11 ?_
    have nh11:=nzQ h11
    try have hr12:=mpQ nh11
    have hM0:=hM;clear hM;obtain ⟨x13,hx14,hM⟩:=ay hM0;clear hM0
    have hcx13:=lm (x4.2) 3
    rw [←hx14] at hcx13
    refine dK [1] hcx13 (by decide) (by simp only [go_sem,aE,aF,List.length_replicate,az,Int.toNat_natCast,↓reduceIte,Nat.reduceEqDiff,Nat.reduceAdd,Int.reduceAdd,Nat.reduceMul,Nat.reduceLeDiff,Nat.reduceLT,Int.reduceLE,Int.reduceLT,Int.reduceNeg,Int.reduceToNat,mt,mtL,aH,aG,mtZ,and_self,eq_self,or_true,true_or]) (by simp only [go_sem,aE,aF,List.length_replicate,az,Int.toNat_natCast,↓reduceIte,Nat.reduceEqDiff,Nat.reduceAdd,Int.reduceAdd,Nat.reduceMul,Nat.reduceLeDiff,Nat.reduceLT,Int.reduceLE,Int.reduceLT,Int.reduceNeg,Int.reduceToNat,mt,mtL,aH,aG,mtZ,and_self,eq_self,or_true,true_or]) (fun hw15=> ?_)
    replace hw15:=nzQ hw15
    refine spQ ?_
    exact dV _ sbQ sbQ (hcut7 _ ⟨x13,rfl,trivial,hM⟩)
   ·rw [if_neg (an h11)] at hM
    refine aa h11 ?_
    have nh11:=nzQ h11
    try have hr16:=mpQ nh11
    exact dV _ sbQ sbQ (hcut7 _ ⟨x4.2,rfl,trivial,hM⟩)
set_option maxHeartbeats 2000000 in
set_option maxRecDepth 100000 in
instance Nn (i_:ab) (n_:Int):CM En (gA i_ n_) 51 [.agg [.int .i64 i_.Kind,.int .i64 i_.N,.sl none 1 false (i_.B.map (V.int .u8)),.sl none 4 true (i_.L.map aw)],.int .i64 n_] (fun y=> .bool y) (fun _=> []):=by
 refine cmQ fun r hM=> ?_
 rw [gA.eq_1] at hM
 refine aO aA aK noJ Tryz.func51 rfl Tryz.ntmps51 (by kernel_rfl) fun hw=>aL ?_
 refine spQ ?_
 replace hw:=nzQ hw
 have hF:=ct
 exact auQ
set_option maxHeartbeats 2000000 in
set_option maxRecDepth 100000 in
instance Np (i_:ab):CM En (bT i_) 52 [.agg [.int .i64 i_.Kind,.int .i64 i_.N,.sl none 1 false (i_.B.map (V.int .u8)),.sl none 4 true (i_.L.map aw)]] (fun y=> .tup [.sl none 1 false (y.1.map (V.int .i64)),.int .i64 y.2]) (fun _=> []):=by
 refine cmQ fun r hM=> ?_
 rw [bT.eq_1] at hM
 refine aO aA aK noJ Tryz.func52 rfl Tryz.ntmps52 (by kernel_rfl) fun hw=>aL ?_
 refine spQ ?_
 replace hw:=nzQ hw
 have hM0:=hM;clear hM;obtain ⟨x1,hx2,hM⟩:=ay hM0;clear hM0
 have hcx1:=cmU hx2
 refine aQ hcx1 clQ clQ (fun hw3=> ?_)
 replace hw3:=nzQ hw3
 refine spQ ?_
 refine aB (fun h4=> ?_) (fun h4=> ?_)
 ·rw [if_pos h4] at hM
  refine aa h4 ?_
  have nh4:=nzQ h4
  try have hr5:=mpQ nh4
  subst hM
  exact ar (av h4)
 ·rw [if_neg (an h4)] at hM
  refine aa h4 ?_
  have nh4:=nzQ h4
  try have hr6:=mpQ nh4
  refine aB (fun h7=> ?_) (fun h7=> ?_)
  ·rw [if_pos h7] at hM
   refine aa h7 ?_
   have nh7:=nzQ h7
   try have hr8:=mpQ nh7
   subst hM
   exact ar (av (And.intro h4 h7))
  ·rw [if_neg (an h7)] at hM
   refine aa h7 ?_
   have nh7:=nzQ h7
   try have hr9:=mpQ nh7
   have hM0:=hM;clear hM;obtain ⟨f10,d10,hf10,hd10,hM⟩:=bd hM0;clear hM0
   refine dW (fun n S=> ∃p:Int×List Int,S=(⟨[(4,.own 1),(14,.sl none 4 true (i_.L.map aw)),(15,.int .i64 (i_.L.length:Int)),(16,.int .i64 p.1)],[(1,.own 3 1 false none (p.2.map (V.int .i64)))],2⟩:St)∧((0≤p.1)∧(p.1≤(i_.L.length:Int))∧(((p.2).length:Int)≤p.1))∧((i_.L.length:Int) - p.1).toNat<n∧ao n f10 d10 p=r) (((i_.L.length:Int) - 0).toNat+1) _ _ (jI 4 3 rfl (by decide)) sbQ sbQ ⟨(0,([]:List Int)),rfl,⟨omQ,omQ,omQ⟩,(Nat.lt_succ_self _),hM⟩ ?_
   clear hM
   rintro n10 S ⟨p10,rfl,hfa10,hm10,hM⟩
   have hM0:=hM;clear hM;obtain ⟨ag10,hag10,hM⟩:=bf hM0 (by omega) hf10;clear hM0
   replace hfa10:=nzQ hfa10
   replace hm10:=nzQ hm10
   have ha10:aq .i64 p10.1 1=p10.1+1:=bp omQ omQ
   refine aa ha10 ?_
   have hF:=(And.intro h4 (And.intro h7 ha10))
   exact auQ
set_option maxHeartbeats 2000000 in
set_option maxRecDepth 100000 in
instance Nq (i_:ab):CM En (fR i_) 92 [.agg [.int .i64 i_.Kind,.int .i64 i_.N,.sl none 1 false (i_.B.map (V.int .u8)),.sl none 4 true (i_.L.map aw)]] (fun y=> .tup [(dM y.1),.int .i64 y.2]) (fun _=> []):=by
 refine cmQ fun r hM=> ?_
 rw [fR.eq_1] at hM
 refine aO aA aK noJ Tryz.func92 rfl Tryz.ntmps92 (by kernel_rfl) fun hw=>aL ?_
 refine spQ ?_
 replace hw:=nzQ hw
 have hM0:=hM;clear hM;obtain ⟨x1,hx2,hM⟩:=ay hM0;clear hM0
 have hcx1:=cmU hx2
 refine aQ hcx1 clQ clQ (fun hw3=> ?_)
 replace hw3:=nzQ hw3
 refine spQ ?_
 refine aB (fun h4=> ?_) (fun h4=> ?_)
 ·rw [if_pos h4] at hM
  refine aa h4 ?_
  have nh4:=nzQ h4
  try have hr5:=mpQ nh4
  subst hM
  exact ar (av h4)
 ·rw [if_neg (an h4)] at hM
  refine aa h4 ?_
  have nh4:=nzQ h4
  try have hr6:=mpQ nh4
  refine aY (fun h7=> ?_) (fun h7=> ?_)
  ·rw [if_neg (an h7)] at hM
   refine aa h7 ?_
   have nh7:=nzQ h7
   try have hr8:=mpQ nh7
   refine aB (fun h9=> ?_) (fun h9=> ?_)
   ·rw [if_pos h9] at hM
    refine aa h9 ?_
    have nh9:=nzQ h9
    try have hr10:=mpQ nh9
    subst hM
    exact ar (av (And.intro h4 (And.intro h7 h9)))
   ·rw [if_neg (an h9)] at hM
    refine aa h9 ?_
    have nh9:=nzQ h9
    try have hr11:=mpQ nh9
    refine aN omQ ?_
    have he12: ∀d,elt (i_.L.map aw) 0 d=aw (gt i_.L 0):=fun d=>aV (l:=i_.L) (f:=aw) (i:=0) omQ d
    refine aa he12 ?_
    have hM0:=hM;clear hM;obtain ⟨x13,hx14,hM⟩:=ay hM0;clear hM0
    have hcx13:=cmU hx14
    refine aQ hcx13 (ax he12) (ax he12) (fun hw15=> ?_)
    replace hw15:=nzQ hw15
    refine aa he12 ?_
    refine aN omQ ?_
    have he16: ∀d,elt (i_.L.map aw) 2 d=aw (gt i_.L 2):=fun d=>aV (l:=i_.L) (f:=aw) (i:=2) omQ d
    refine aa (And.intro he12 he16) ?_
    have hM0:=hM;clear hM;obtain ⟨x17,hx18,hM⟩:=ay hM0;clear hM0
    have hcx17:=cmU hx18
    refine aQ hcx17 (ax (And.intro he12 he16)) (ax (And.intro he12 he16)) (fun hw19=> ?_)
    replace hw19:=nzQ hw19
    refine aa (And.intro he12 he16) ?_
    refine aN omQ ?_
    have he20: ∀d,elt (i_.L.map aw) 1 d=aw (gt i_.L 1):=fun d=>aV (l:=i_.L) (f:=aw) (i:=1) omQ d
    refine aa (And.intro he12 (And.intro he16 he20)) ?_
    refine aY (fun h21=> ?_) (fun h21=> ?_)
    ·rw [if_neg (an h21)] at hM
     refine aa (And.intro he12 (And.intro he16 (And.intro he20 h21))) ?_
     have nh21:=nzQ h21
     try have hr22:=mpQ nh21
     refine aY (fun h23=> ?_) (fun h23=> ?_)
     ·rw [if_neg (an h23)] at hM
      refine aa (And.intro he12 (And.intro he16 (And.intro he20 h23))) ?_
      have nh23:=nzQ h23
      try have hr24:=mpQ nh23
      refine aY (fun h25=> ?_) (fun h25=> ?_)
      ·rw [if_neg (an h25)] at hM
       refine aa (And.intro he12 (And.intro he16 (And.intro he20 h25))) ?_
       have nh25:=nzQ h25
       try have hr26:=mpQ nh25
       refine aY (fun h27=> ?_) (fun h27=> ?_)
       ·rw [if_neg (an h27)] at hM
        refine aa (And.intro he12 (And.intro he16 (And.intro he20 h27))) ?_
        have nh27:=nzQ h27
        try have hr28:=mpQ nh27
        refine aY (fun h29=> ?_) (fun h29=> ?_)
        ·rw [if_neg (an h29)] at hM
         refine aa (And.intro he12 (And.intro he16 (And.intro he20 h29))) ?_
         have nh29:=nzQ h29
         try have hr30:=mpQ nh29
         refine aB (fun h31=> ?_) (fun h31=> ?_)
         ·rw [if_pos h31] at hM
          refine aa (And.intro he12 (And.intro he16 (And.intro he20 h31))) ?_
          have nh31:=nzQ h31
          try have hr32:=mpQ nh31
          subst hM
          exact ar (av (And.intro he12 (And.intro he16 (And.intro he20 (And.intro h4 (And.intro h7 (And.intro h9 (And.intro h21 (And.intro h23 (And.intro h25 (And.intro h27 (And.intro h29 h31))))))))))))
         ·rw [if_neg (an h31)] at hM
          refine aa (And.intro he12 (And.intro he16 (And.intro he20 h31))) ?_
          have nh31:=nzQ h31
          try have hr33:=mpQ nh31
          refine cG 104 32 [71,72,73,74,75,76,77,78,79,80,81,82,83,84,85,86,87,88,89,90,91,92,93,94,95,96,97,98,99,100,101,102] [] ([[],[0],[0,1],[],[3],[3,4],[],[6],[6,7],[],[9],[9,10],[],[12],[12,13],[],[15],[15,16],[15,16,17],[],[19],[19,20],[],[22],[22,23],[],[25],[25,26],[],[28],[28,29],[19,20,21,22,23,24,25,26,27,28,29,30]]++[List.range 32,List.range 33,List.range 34]) [] (by kernel_rfl) (by exact alQ) ?_
          refine aa (And.intro he12 (And.intro he16 he20)) ?_
          refine bu omQ ?_
          have he34: ∀d,elt (x13.1.map (V.int .i64)) 0 d=(V.int .i64) (gt x13.1 0):=fun d=>aV (l:=x13.1) (f:=(V.int .i64)) (i:=0) omQ d
          refine aa (And.intro he12 (And.intro he16 (And.intro he20 he34))) ?_
          refine bu omQ ?_
          have he35: ∀d,elt (x13.1.map (V.int .i64)) 1 d=(V.int .i64) (gt x13.1 1):=fun d=>aV (l:=x13.1) (f:=(V.int .i64)) (i:=1) omQ d
          refine aa (And.intro he12 (And.intro he16 (And.intro he20 (And.intro he34 he35)))) ?_
          refine bu omQ ?_
          have he36: ∀d,elt (x13.1.map (V.int .i64)) 2 d=(V.int .i64) (gt x13.1 2):=fun d=>aV (l:=x13.1) (f:=(V.int .i64)) (i:=2) omQ d
          refine aa (And.intro he12 (And.intro he16 (And.intro he20 (And.intro he34 (And.intro he35 he36))))) ?_
          refine bu omQ ?_
          have he37: ∀d,elt (x13.1.map (V.int .i64)) 3 d=(V.int .i64) (gt x13.1 3):=fun d=>aV (l:=x13.1) (f:=(V.int .i64)) (i:=3) omQ d
          refine aa (And.intro he12 (And.intro he16 (And.intro he20 (And.intro he34 (And.intro he35 (And.intro he36 he37)))))) ?_
          refine bu omQ ?_
          have he38: ∀d,elt (x13.1.map (V.int .i64)) 4 d=(V.int .i64) (gt x13.1 4):=fun d=>aV (l:=x13.1) (f:=(V.int .i64)) (i:=4) omQ d
          refine aa (And.intro he12 (And.intro he16 (And.intro he20 (And.intro he34 (And.intro he35 (And.intro he36 (And.intro he37 he38))))))) ?_
          refine bu omQ ?_
          have he39:=qF (l:=(gt i_.L 1).B) (f:=(V.int .u8)) (k:=32) omQ
          refine aa (And.intro he12 (And.intro he16 (And.intro he20 (And.intro he34 (And.intro he35 (And.intro he36 (And.intro he37 (And.intro he38 he39)))))))) ?_
          have hF:=(And.intro h4 (And.intro h7 (And.intro h9 (And.intro he12 (And.intro he16 (And.intro he20 (And.intro h21 (And.intro h23 (And.intro h25 (And.intro h27 (And.intro h29 (And.intro h31 (And.intro he34 (And.intro he35 (And.intro he36 (And.intro he37 (And.intro he38 he39)))))))))))))))))
          exact auQ
        ·rw [if_pos h29] at hM
         refine aa (And.intro he12 (And.intro he16 (And.intro he20 h29))) ?_
         have nh29:=nzQ h29
         try have hr44:=mpQ nh29
         subst hM
         exact ar (av (And.intro he12 (And.intro he16 (And.intro he20 (And.intro h4 (And.intro h7 (And.intro h9 (And.intro h21 (And.intro h23 (And.intro h25 (And.intro h27 h29)))))))))))
       ·rw [if_pos h27] at hM
        refine aa (And.intro he12 (And.intro he16 (And.intro he20 h27))) ?_
        have nh27:=nzQ h27
        try have hr45:=mpQ nh27
        subst hM
        exact ar (av (And.intro he12 (And.intro he16 (And.intro he20 (And.intro h4 (And.intro h7 (And.intro h9 (And.intro h21 (And.intro h23 (And.intro h25 h27))))))))))
      ·rw [if_pos h25] at hM
       refine aa (And.intro he12 (And.intro he16 (And.intro he20 h25))) ?_
       have nh25:=nzQ h25
       try have hr46:=mpQ nh25
       subst hM
       exact ar (av (And.intro he12 (And.intro he16 (And.intro he20 (And.intro h4 (And.intro h7 (And.intro h9 (And.intro h21 (And.intro h23 h25)))))))))
     ·rw [if_pos h23] at hM
      refine aa (And.intro he12 (And.intro he16 (And.intro he20 h23))) ?_
      have nh23:=nzQ h23
      try have hr47:=mpQ nh23
      subst hM
      exact ar (av (And.intro he12 (And.intro he16 (And.intro he20 (And.intro h4 (And.intro h7 (And.intro h9 (And.intro h21 h23))))))))
    ·rw [if_pos h21] at hM
     refine aa (And.intro he12 (And.intro he16 (And.intro he20 h21))) ?_
     have nh21:=nzQ h21
     try have hr48:=mpQ nh21
     subst hM
     exact ar (av (And.intro he12 (And.intro he16 (And.intro he20 (And.intro h4 (And.intro h7 (And.intro h9 h21)))))))
  ·rw [if_pos h7] at hM
   refine aa h7 ?_
   have nh7:=nzQ h7
   try have hr49:=mpQ nh7
   subst hM
   exact ar (av (And.intro h4 h7))
instance (priority:=1004):DRD 4 25 7 [2,19,20,21,22,23,24] [] ([[],[0],[0,1],[],[3],[3,4],[0,1,2]]++[List.range 7,List.range 8]) []:=⟨trivial⟩
set_option maxHeartbeats 2000000 in
set_option maxRecDepth 100000 in
instance Nr (i_:ab):CM En (mK i_) 132 [.agg [.int .i64 i_.Kind,.int .i64 i_.N,.sl none 1 false (i_.B.map (V.int .u8)),.sl none 4 true (i_.L.map aw)]] (fun y=> .tup [.int .i64 y.1,.int .i64 y.2.1,.bool y.2.2]) (fun _=> []):=by
 refine cmQ fun r hM=> ?_
 rw [mK.eq_1] at hM
 refine aO aA aK noJ Tryz.func132 rfl Tryz.ntmps132 (by kernel_rfl) fun hw=>aL ?_
 refine spQ ?_
 replace hw:=nzQ hw
 have hF:=ct
 exact auQ
set_option maxHeartbeats 2000000 in
set_option maxRecDepth 100000 in
instance Ns (i_:ab):CM En (fS i_) 133 [.agg [.int .i64 i_.Kind,.int .i64 i_.N,.sl none 1 false (i_.B.map (V.int .u8)),.sl none 4 true (i_.L.map aw)]] (fun y=> .tup [(bP y.1),.bool y.2]) (fun _=> []):=by
 refine cmQ fun r hM=> ?_
 rw [fS.eq_1] at hM
 refine aO aA aK noJ Tryz.func133 rfl Tryz.ntmps133 (by kernel_rfl) fun hw=>aL ?_
 refine spQ ?_
 replace hw:=nzQ hw
 refine aY (fun h1=> ?_) (fun h1=> ?_)
 ·rw [if_neg (an h1)] at hM
  refine aa h1 ?_
  have nh1:=nzQ h1
  try have hr2:=mpQ nh1
  refine aB (fun h3=> ?_) (fun h3=> ?_)
  ·rw [if_pos h3] at hM
   refine aa h3 ?_
   have nh3:=nzQ h3
   try have hr4:=mpQ nh3
   subst hM
   exact ar (av (And.intro h1 h3))
  ·rw [if_neg (an h3)] at hM
   refine aa h3 ?_
   have nh3:=nzQ h3
   try have hr5:=mpQ nh3
   refine cG 20 3 [15,16,17] [] ([[],[],[1]]++[List.range 3]) [] (by kernel_rfl) (by exact alQ) ?_
   refine spQ ?_
   have hsp6:=GG (f:=(V.int .u8)) (A:=([0,0,0,0,0,0,0,0,0,0,0,0,0,0,0,0,0,0,0,0,0,0,0,0,0,0,0,0,0,0,0,0]:List Int)) (l:=i_.B) (n:=32) rfl
   replace hsp6:=spR hsp6
   refine aa hsp6 ?_
   subst hM
   exact ar (av (And.intro hsp6 (And.intro h1 h3)))
 ·rw [if_pos h1] at hM
  refine aa h1 ?_
  have nh1:=nzQ h1
  try have hr7:=mpQ nh1
  subst hM
  exact ar (av h1)
end Go.Proofs.YtlmleoeemmhboaaGreatDoor
