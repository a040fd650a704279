/- Texts of this proof, one after the other: U4, U5, LN. -/
import Derived.Test.YtlmleoeemmhboaaGreatDoorZ10
import Derived.Test.YtlmleoeemmhboaaGreatDoorZ8
set_option linter.unusedVariables false
set_option linter.unusedSimpArgs false
namespace Go.Proofs.YtlmleoeemmhboaaGreatDoor
open Go.RowKit
set_option linter.unusedSimpArgs false
set_option maxHeartbeats 2000000 in
set_option maxRecDepth 100000 in
instance Nt (i_:ab):CM En (gX i_) 94 [.agg [.int .i64 i_.Kind,.int .i64 i_.N,.sl none 1 false (i_.B.map (V.int .u8)),.sl none 4 true (i_.L.map aw)]] (fun y=> .tup [(cB y.1),.int .i64 y.2]) (fun _=> []):=by
 refine cmQ fun r hM=> ?_
 rw [gX.eq_1] at hM
 refine aO aA aK noJ Tryz.func94 rfl Tryz.ntmps94 (by kernel_rfl) fun hw=>aL ?_
 refine spQ ?_
 replace hw:=nzQ hw
 have hM0:=hM;clear hM;obtain ⟨x1,hx2,hM⟩:=ay hM0;clear hM0
 have hcx1:=cmU hx2
 refine aQ hcx1 clQ clQ (fun hw3=> ?_)
 replace hw3:=nzQ hw3
 refine spQ ?_
 have hq4:=HI hx2
 replace hq4:=nzQ hq4
 refine aB (fun h5=> ?_) (fun h5=> ?_)
 ·rw [if_pos h5] at hM
  refine aa h5 ?_
  have nh5:=nzQ h5
  try have hr6:=mpQ nh5
  subst hM
  exact ar (av h5)
 ·rw [if_neg (an h5)] at hM
  refine aa h5 ?_
  have nh5:=nzQ h5
  try have hr7:=mpQ nh5
  refine aY (fun h8=> ?_) (fun h8=> ?_)
  ·rw [if_neg (an h8)] at hM
   refine aa h8 ?_
   have nh8:=nzQ h8
   try have hr9:=mpQ nh8
   refine aB (fun h10=> ?_) (fun h10=> ?_)
   ·rw [if_pos h10] at hM
    refine aa h10 ?_
    have nh10:=nzQ h10
    try have hr11:=mpQ nh10
    subst hM
    exact ar (av (And.intro h5 (And.intro h8 h10)))
   ·rw [if_neg (an h10)] at hM
    refine aa h10 ?_
    have nh10:=nzQ h10
    try have hr12:=mpQ nh10
    refine aN (by (first|exact omQ|(clear hM;first|(have h9:=bz (l:=i_.L) (j:=5) (by assumption) (by assumption) (by omega);exact ah)))) ?_
    have he13: ∀d,elt (i_.L.map aw) 0 d=aw (gt i_.L 0):=fun d=>aV (l:=i_.L) (f:=aw) (i:=0) (by (first|exact omQ|(clear hM;first|(have h9:=bz (l:=i_.L) (j:=5) (by assumption) (by assumption) (by omega);exact ah)))) d
    refine aa he13 ?_
    have hM0:=hM;clear hM;obtain ⟨x14,hx15,hM⟩:=ay hM0;clear hM0
    have hcx14:=cmU hx15
    refine aQ hcx14 (ax he13) (ax he13) (fun hw16=> ?_)
    replace hw16:=nzQ hw16
    refine aa he13 ?_
    refine aN (by (first|exact omQ|(clear hM;first|(have h9:=bz (l:=i_.L) (j:=5) (by assumption) (by assumption) (by omega);exact ah)))) ?_
    have he17: ∀d,elt (i_.L.map aw) 1 d=aw (gt i_.L 1):=fun d=>aV (l:=i_.L) (f:=aw) (i:=1) (by (first|exact omQ|(clear hM;first|(have h9:=bz (l:=i_.L) (j:=5) (by assumption) (by assumption) (by omega);exact ah)))) d
    refine aa (And.intro he13 he17) ?_
    have hM0:=hM;clear hM;obtain ⟨x18,hx19,hM⟩:=ay hM0;clear hM0
    have hcx18:=cmU hx19
    refine aQ hcx18 (ax (And.intro he13 he17)) (ax (And.intro he13 he17)) (fun hw20=> ?_)
    replace hw20:=nzQ hw20
    refine aa (And.intro he13 he17) ?_
    refine aN (by (first|exact omQ|(clear hM;first|(have h9:=bz (l:=i_.L) (j:=5) (by assumption) (by assumption) (by omega);exact ah)))) ?_
    have he21: ∀d,elt (i_.L.map aw) 2 d=aw (gt i_.L 2):=fun d=>aV (l:=i_.L) (f:=aw) (i:=2) (by (first|exact omQ|(clear hM;first|(have h9:=bz (l:=i_.L) (j:=5) (by assumption) (by assumption) (by omega);exact ah)))) d
    refine aa (And.intro he13 (And.intro he17 he21)) ?_
    have hM0:=hM;clear hM;obtain ⟨x22,hx23,hM⟩:=ay hM0;clear hM0
    have hcx22:=cmU hx23
    refine aQ hcx22 (ax (And.intro he13 (And.intro he17 he21))) (ax (And.intro he13 (And.intro he17 he21))) (fun hw24=> ?_)
    replace hw24:=nzQ hw24
    refine aa (And.intro he13 (And.intro he17 he21)) ?_
    refine aN (by (first|exact omQ|(clear hM;first|(have h9:=bz (l:=i_.L) (j:=5) (by assumption) (by assumption) (by omega);exact ah)))) ?_
    have he25: ∀d,elt (i_.L.map aw) 3 d=aw (gt i_.L 3):=fun d=>aV (l:=i_.L) (f:=aw) (i:=3) (by (first|exact omQ|(clear hM;first|(have h9:=bz (l:=i_.L) (j:=5) (by assumption) (by assumption) (by omega);exact ah)))) d
    refine aa (And.intro he13 (And.intro he17 (And.intro he21 he25))) ?_
    have hM0:=hM;clear hM;obtain ⟨x26,hx27,hM⟩:=ay hM0;clear hM0
    have hcx26:=cmU hx27
    refine aQ hcx26 (ax (And.intro he13 (And.intro he17 (And.intro he21 he25)))) (ax (And.intro he13 (And.intro he17 (And.intro he21 he25)))) (fun hw28=> ?_)
    replace hw28:=nzQ hw28
    refine aa (And.intro he13 (And.intro he17 (And.intro he21 he25))) ?_
    refine aN (by (first|exact omQ|(clear hM;first|(have h9:=bz (l:=i_.L) (j:=5) (by assumption) (by assumption) (by omega);exact ah)))) ?_
    have he29: ∀d,elt (i_.L.map aw) 4 d=aw (gt i_.L 4):=fun d=>aV (l:=i_.L) (f:=aw) (i:=4) (by (first|exact omQ|(clear hM;first|(have h9:=bz (l:=i_.L) (j:=5) (by assumption) (by assumption) (by omega);exact ah)))) d
    refine aa (And.intro he13 (And.intro he17 (And.intro he21 (And.intro he25 he29)))) ?_
    have hM0:=hM;clear hM;obtain ⟨x30,hx31,hM⟩:=ay hM0;clear hM0
    have hcx30:=cmU hx31
    refine aQ hcx30 (ax (And.intro he13 (And.intro he17 (And.intro he21 (And.intro he25 he29))))) (ax (And.intro he13 (And.intro he17 (And.intro he21 (And.intro he25 he29))))) (fun hw32=> ?_)
    replace hw32:=nzQ hw32
    refine aa (And.intro he13 (And.intro he17 (And.intro he21 (And.intro he25 he29)))) ?_
    refine aN (by (first|exact omQ|(clear hM;first|(have h9:=bz (l:=i_.L) (j:=5) (by assumption) (by assumption) (by omega);exact ah)))) ?_
    have he33: ∀d,elt (i_.L.map aw) 5 d=aw (gt i_.L 5):=fun d=>aV (l:=i_.L) (f:=aw) (i:=5) (by (first|exact omQ|(clear hM;first|(have h9:=bz (l:=i_.L) (j:=5) (by assumption) (by assumption) (by omega);exact ah)))) d
    refine aa (And.intro he13 (And.intro he17 (And.intro he21 (And.intro he25 (And.intro he29 he33))))) ?_
    refine aY (fun h34=> ?_) (fun h34=> ?_)
    ·rw [if_neg (an h34)] at hM
     refine aa (And.intro he13 (And.intro he17 (And.intro he21 (And.intro he25 (And.intro he29 (And.intro he33 h34)))))) ?_
     have nh34:=nzQ h34
     try have hr35:=mpQ nh34
     refine aY (fun h36=> ?_) (fun h36=> ?_)
     ·rw [if_neg (an h36)] at hM
      refine aa (And.intro he13 (And.intro he17 (And.intro he21 (And.intro he25 (And.intro he29 (And.intro he33 h36)))))) ?_
      have nh36:=nzQ h36
      try have hr37:=mpQ nh36
      refine aY (fun h38=> ?_) (fun h38=> ?_)
      ·rw [if_neg (an h38)] at hM
       refine aa (And.intro he13 (And.intro he17 (And.intro he21 (And.intro he25 (And.intro he29 (And.intro he33 h38)))))) ?_
       have nh38:=nzQ h38
       try have hr39:=mpQ nh38
       refine aY (fun h40=> ?_) (fun h40=> ?_)
       ·rw [if_neg (an h40)] at hM
        refine aa (And.intro he13 (And.intro he17 (And.intro he21 (And.intro he25 (And.intro he29 (And.intro he33 h40)))))) ?_
        have nh40:=nzQ h40
        try have hr41:=mpQ nh40
        refine aY (fun h42=> ?_) (fun h42=> ?_)
        ·rw [if_neg (an h42)] at hM
         refine aa (And.intro he13 (And.intro he17 (And.intro he21 (And.intro he25 (And.intro he29 (And.intro he33 h42)))))) ?_
         have nh42:=nzQ h42
         try have hr43:=mpQ nh42
         refine aN (by (first|exact omQ|(clear hM;first|(have h9:=bz (l:=i_.L) (j:=5) (by assumption) (by assumption) (by omega);exact ah)))) ?_
         refine aa (And.intro he13 (And.intro he17 (And.intro he21 (And.intro he25 (And.intro he29 he33))))) ?_
         refine aY (fun h44=> ?_) (fun h44=> ?_)
         ·rw [if_neg (an h44)] at hM
          refine aa (And.intro he13 (And.intro he17 (And.intro he21 (And.intro he25 (And.intro he29 (And.intro he33 h44)))))) ?_
          have nh44:=nzQ h44
          try have hr45:=mpQ nh44
          refine aY (fun h46=> ?_) (fun h46=> ?_)
          ·rw [if_neg (an h46)] at hM
           refine aa (And.intro he13 (And.intro he17 (And.intro he21 (And.intro he25 (And.intro he29 (And.intro he33 h46)))))) ?_
           have nh46:=nzQ h46
           try have hr47:=mpQ nh46
           refine aY (fun h48=> ?_) (fun h48=> ?_)
           ·rw [if_neg (an h48)] at hM
            refine aa (And.intro he13 (And.intro he17 (And.intro he21 (And.intro he25 (And.intro he29 (And.intro he33 h48)))))) ?_
            have nh48:=nzQ h48
            try have hr49:=mpQ nh48
            refine aN (by (first|exact omQ|(clear hM;first|(have h9:=bz (l:=i_.L) (j:=5) (by assumption) (by assumption) (by omega);exact ah)))) ?_
            have he50: ∀d,elt ((gt i_.L 5).L.map aw) 0 d=aw (gt (gt i_.L 5).L 0):=fun d=>aV (l:=(gt i_.L 5).L) (f:=aw) (i:=0) (by (first|exact omQ|(clear hM;first|(have h9:=bz (l:=i_.L) (j:=5) (by assumption) (by assumption) (by omega);exact ah)))) d
            refine aa (And.intro he13 (And.intro he17 (And.intro he21 (And.intro he25 (And.intro he29 (And.intro he33 he50)))))) ?_
            refine aB (fun h51=> ?_) (fun h51=> ?_)
            ·rw [if_pos h51] at hM
             refine aa (And.intro he13 (And.intro he17 (And.intro he21 (And.intro he25 (And.intro he29 (And.intro he33 (And.intro he50 h51))))))) ?_
             have nh51:=nzQ h51
             try have hr52:=mpQ nh51
             subst hM
             exact ar (av (And.intro he13 (And.intro he17 (And.intro he21 (And.intro he25 (And.intro he29 (And.intro he33 (And.intro he50 (And.intro h5 (And.intro h8 (And.intro h10 (And.intro h34 (And.intro h36 (And.intro h38 (And.intro h40 (And.intro h42 (And.intro h44 (And.intro h46 (And.intro h48 h51)))))))))))))))))))
            ·rw [if_neg (an h51)] at hM
             refine aa (And.intro he13 (And.intro he17 (And.intro he21 (And.intro he25 (And.intro he29 (And.intro he33 (And.intro he50 h51))))))) ?_
             have nh51:=nzQ h51
             try have hr53:=mpQ nh51
             have hM0:=hM;clear hM;obtain ⟨f54,d54,hf54,hd54,hM⟩:=bd hM0;clear hM0
             refine dW (fun n S=> ∃p:Int×List cA,S=(⟨[(2,.ptr 1 0),(14,.sl none 1 false (x30.1.map (V.int .i64))),(16,.ptr 4 0),(17,.ptr 5 0),(18,.int .i64 p.1)],[(1,.var 80 true (yS)),(4,.var 4 true (.agg [.int .i64 (gt i_.L 5).Kind,.int .i64 (gt i_.L 5).N,.sl none 1 false ((gt i_.L 5).B.map (V.int .u8)),.sl none 4 true ((gt i_.L 5).L.map aw)])),(5,.var 80 true (.agg (.int .i64 x14.1.Bank:: .int .i64 x14.1.Epoch:: .int .i64 x14.1.Denom:: .int .i64 x14.1.Depth:: .int .i64 x14.1.A:: .int .u8 (gt x14.1.Root 0):: .int .u8 (gt x14.1.Root 1):: .int .u8 (gt x14.1.Root 2):: .int .u8 (gt x14.1.Root 3):: .int .u8 (gt x14.1.Root 4):: .int .u8 (gt x14.1.Root 5):: .int .u8 (gt x14.1.Root 6):: .int .u8 (gt x14.1.Root 7):: .int .u8 (gt x14.1.Root 8):: .int .u8 (gt x14.1.Root 9):: .int .u8 (gt x14.1.Root 10):: .int .u8 (gt x14.1.Root 11):: .int .u8 (gt x14.1.Root 12):: .int .u8 (gt x14.1.Root 13):: .int .u8 (gt x14.1.Root 14):: .int .u8 (gt x14.1.Root 15):: .int .u8 (gt x14.1.Root 16):: .int .u8 (gt x14.1.Root 17):: .int .u8 (gt x14.1.Root 18):: .int .u8 (gt x14.1.Root 19):: .int .u8 (gt x14.1.Root 20):: .int .u8 (gt x14.1.Root 21):: .int .u8 (gt x14.1.Root 22):: .int .u8 (gt x14.1.Root 23):: .int .u8 (gt x14.1.Root 24):: .int .u8 (gt x14.1.Root 25):: .int .u8 (gt x14.1.Root 26):: .int .u8 (gt x14.1.Root 27):: .int .u8 (gt x14.1.Root 28):: .int .u8 (gt x14.1.Root 29):: .int .u8 (gt x14.1.Root 30):: .int .u8 (gt x14.1.Root 31):: .int .i64 x14.1.Sign.Z:: .int .i64 x14.1.Sign.A:: .int .i64 x14.1.Sign.B:: .int .i64 x14.1.Sign.R:: .int .i64 x18.1:: .int .i64 x18.2.1:: .int .u8 (gt x22.1 0):: .int .u8 (gt x22.1 1):: .int .u8 (gt x22.1 2):: .int .u8 (gt x22.1 3):: .int .u8 (gt x22.1 4):: .int .u8 (gt x22.1 5):: .int .u8 (gt x22.1 6):: .int .u8 (gt x22.1 7):: .int .u8 (gt x22.1 8):: .int .u8 (gt x22.1 9):: .int .u8 (gt x22.1 10):: .int .u8 (gt x22.1 11):: .int .u8 (gt x22.1 12):: .int .u8 (gt x22.1 13):: .int .u8 (gt x22.1 14):: .int .u8 (gt x22.1 15):: .int .u8 (gt x22.1 16):: .int .u8 (gt x22.1 17):: .int .u8 (gt x22.1 18):: .int .u8 (gt x22.1 19):: .int .u8 (gt x22.1 20):: .int .u8 (gt x22.1 21):: .int .u8 (gt x22.1 22):: .int .u8 (gt x22.1 23):: .int .u8 (gt x22.1 24):: .int .u8 (gt x22.1 25):: .int .u8 (gt x22.1 26):: .int .u8 (gt x22.1 27):: .int .u8 (gt x22.1 28):: .int .u8 (gt x22.1 29):: .int .u8 (gt x22.1 30):: .int .u8 (gt x22.1 31):: .int .i64 x26.1:: .int .i64 x26.2.1:: .own 6:: .int .i64 0:: .sl (some true) 32 true []::[]))),(6,.own 213 3 true none (p.2.map eK))],7⟩:St)∧((0≤p.1)∧(p.1≤(x30.1.length:Int))∧(p.1% 3=0)∧(((p.2).length:Int)≤p.1))∧((x30.1.length:Int) - p.1).toNat<n∧ao n f54 d54 p=r) (((x30.1.length:Int) - 0).toNat+1) _ _ (iw 5 77 213 rfl rfl (by decide)) sbQ sbQ ⟨(0,([]:List cA)),rfl,⟨by (first|exact omQ|(clear hM;first|(have h9:=bz (l:=i_.L) (j:=5) (by assumption) (by assumption) (by omega);exact ah))),by (first|exact omQ|(clear hM;first|(have h9:=bz (l:=i_.L) (j:=5) (by assumption) (by assumption) (by omega);exact ah))),by (first|exact omQ|(clear hM;first|(have h9:=bz (l:=i_.L) (j:=5) (by assumption) (by assumption) (by omega);exact ah))),by (first|exact omQ|(clear hM;first|(have h9:=bz (l:=i_.L) (j:=5) (by assumption) (by assumption) (by omega);exact ah)))⟩,(Nat.lt_succ_self _),hM⟩ ?_
             clear hM
             rintro n54 S ⟨p54,rfl,hfa54,hm54,hM⟩
             have hM0:=hM;clear hM;obtain ⟨ag54,hag54,hM⟩:=bf hM0 (by omega) hf54;clear hM0
             replace hfa54:=nzQ hfa54
             replace hm54:=nzQ hm54
             have ha54:aq .i64 p54.1 1=p54.1+1:=bp (by (first|exact omQ|(clear hM;first|(have h9:=bz (l:=i_.L) (j:=5) (by assumption) (by assumption) (by omega);exact ah)))) (by (first|exact omQ|(clear hM;first|(have h9:=bz (l:=i_.L) (j:=5) (by assumption) (by assumption) (by omega);exact ah))))
             refine aa (And.intro he13 (And.intro he17 (And.intro he21 (And.intro he25 (And.intro he29 (And.intro he33 (And.intro he50 ha54))))))) ?_
             refine aB (fun h55=> ?_) (fun h55=> ?_)
             ·rw [if_pos h55] at hM
              refine aa (And.intro he13 (And.intro he17 (And.intro he21 (And.intro he25 (And.intro he29 (And.intro he33 (And.intro he50 (And.intro ha54 h55)))))))) ?_
              have nh55:=nzQ h55
              try have hr56:=mpQ nh55
              refine cG 195 18 [142,143,144,145,146,147,148,149,150,151,152,153,154,155,156,157,158,159] [] ([[],[0],[],[],[2,3],[2,3,4],[],[],[7],[6,7,8],[6,7,8,9],[],[],[12],[11,12,13],[11,12,13,14],[2,3,4,5,6,7,8,9,10,11,12,13,14,15],[2,3,4,5,6,7,8,9,10,11,12,13,14,15,16]]++[List.range 18,List.range 19,List.range 20]) [] (by kernel_rfl) (by exact alQ) ?_
              refine aa (And.intro he13 (And.intro he17 (And.intro he21 (And.intro he25 (And.intro he29 (And.intro he33 (And.intro he50 ha54))))))) ?_
              refine bu (by (first|exact omQ|(clear hM;first|(have h9:=bz (l:=i_.L) (j:=5) (by assumption) (by assumption) (by omega);exact ah)))) ?_
              have he57:=fun d=>aV (l:=x30.1) (f:=(V.int .i64)) (i:=p54.1) (by (first|exact omQ|(clear hM;first|(have h9:=bz (l:=i_.L) (j:=5) (by assumption) (by assumption) (by omega);exact ah)))) d
              refine aa (And.intro he13 (And.intro he17 (And.intro he21 (And.intro he25 (And.intro he29 (And.intro he33 (And.intro he50 (And.intro ha54 he57)))))))) ?_
              refine bu (by (first|exact omQ|(clear hM;first|(have h9:=bz (l:=i_.L) (j:=5) (by assumption) (by assumption) (by omega);exact ah)))) ?_
              have he58:=fun d=>aV (l:=x30.1) (f:=(V.int .i64)) (i:=(p54.1+1)) (by (first|exact omQ|(clear hM;first|(have h9:=bz (l:=i_.L) (j:=5) (by assumption) (by assumption) (by omega);exact ah)))) d
              refine aa (And.intro he13 (And.intro he17 (And.intro he21 (And.intro he25 (And.intro he29 (And.intro he33 (And.intro he50 (And.intro ha54 (And.intro he57 he58))))))))) ?_
              have ha59:aq .i64 p54.1 2=(p54.1+2):=gk (by (first|exact omQ|(clear hM;first|(have h9:=bz (l:=i_.L) (j:=5) (by assumption) (by assumption) (by omega);exact ah)))) (by (first|exact omQ|(clear hM;first|(have h9:=bz (l:=i_.L) (j:=5) (by assumption) (by assumption) (by omega);exact ah))))
              try simp only [ha59]
              refine bu (by (first|exact omQ|(clear hM;first|(have h9:=bz (l:=i_.L) (j:=5) (by assumption) (by assumption) (by omega);exact ah)))) ?_
              have he60:=fun d=>aV (l:=x30.1) (f:=(V.int .i64)) (i:=(p54.1+2)) (by (first|exact omQ|(clear hM;first|(have h9:=bz (l:=i_.L) (j:=5) (by assumption) (by assumption) (by omega);exact ah)))) d
              refine aa (And.intro he13 (And.intro he17 (And.intro he21 (And.intro he25 (And.intro he29 (And.intro he33 (And.intro he50 (And.intro ha54 (And.intro he57 (And.intro he58 (And.intro ha59 he60))))))))))) ?_
              refine aN (by (first|exact omQ|(clear hM;first|(have h9:=bz (l:=i_.L) (j:=5) (by assumption) (by assumption) (by omega);exact ah)))) ?_
              refine aa (And.intro he13 (And.intro he17 (And.intro he21 (And.intro he25 (And.intro he29 (And.intro he33 (And.intro he50 (And.intro ha54 (And.intro he57 (And.intro he58 (And.intro ha59 he60))))))))))) ?_
              have ha61:aq .i64 p54.1 3=(p54.1+3):=gk (by (first|exact omQ|(clear hM;first|(have h9:=bz (l:=i_.L) (j:=5) (by assumption) (by assumption) (by omega);exact ah)))) (by (first|exact omQ|(clear hM;first|(have h9:=bz (l:=i_.L) (j:=5) (by assumption) (by assumption) (by omega);exact ah))))
              try simp only [ha61]
              refine b_ (n54 - 1) _ (by omega) sbQ sbQ ⟨((p54.1+3),(p54.2++([({B:=(gt x30.1 p54.1),R1:=(gt x30.1 (p54.1+1)),R2:=(gt x30.1 (p54.1+2))}:cA)]:List cA))),rfl,⟨by (first|exact omQ|(clear hM;first|(have h9:=bz (l:=i_.L) (j:=5) (by assumption) (by assumption) (by omega);exact ah))),by (first|exact omQ|(clear hM;first|(have h9:=bz (l:=i_.L) (j:=5) (by assumption) (by assumption) (by omega);exact ah))),by (first|exact omQ|(clear hM;first|(have h9:=bz (l:=i_.L) (j:=5) (by assumption) (by assumption) (by omega);exact ah))),by (first|exact omQ|(clear hM;first|(have h9:=bz (l:=i_.L) (j:=5) (by assumption) (by assumption) (by omega);exact ah)))⟩,by (first|exact omQ|(clear hM;first|(have h9:=bz (l:=i_.L) (j:=5) (by assumption) (by assumption) (by omega);exact ah))),ca hM hag54⟩
             ·rw [if_neg (an h55)] at hM
              refine aa (And.intro he13 (And.intro he17 (And.intro he21 (And.intro he25 (And.intro he29 (And.intro he33 (And.intro he50 (And.intro ha54 h55)))))))) ?_
              have nh55:=nzQ h55
              try have hr62:=mpQ nh55
              refine aN (by (first|exact omQ|(clear hM;first|(have h9:=bz (l:=i_.L) (j:=5) (by assumption) (by assumption) (by omega);exact ah)))) ?_
              refine aa (And.intro he13 (And.intro he17 (And.intro he21 (And.intro he25 (And.intro he29 (And.intro he33 (And.intro he50 ha54))))))) ?_
              refine aN (by (first|exact omQ|(clear hM;first|(have h9:=bz (l:=i_.L) (j:=5) (by assumption) (by assumption) (by omega);exact ah)))) ?_
              refine aa (And.intro he13 (And.intro he17 (And.intro he21 (And.intro he25 (And.intro he29 (And.intro he33 (And.intro he50 ha54))))))) ?_
              have hM0:=hM;clear hM;obtain ⟨f63,d63,hf63,hd63,hM⟩:=bd hM0;clear hM0
              refine dW (fun n S=> ∃p:Int×aS×List (List Int),S=(⟨[(2,.ptr 1 0),(17,.ptr 5 0),(171,.sl none 4 true ((sl (gt i_.L 5).L 1 ((gt i_.L 5).L.length:Int)).map aw)),(172,.int .i64 ((sl (gt i_.L 5).L 1 ((gt i_.L 5).L.length:Int)).length:Int)),(173,.int .i64 p.1)],[(1,.var 80 true ((cB p.2.1))),(5,.var 80 true (.agg (.int .i64 x14.1.Bank:: .int .i64 x14.1.Epoch:: .int .i64 x14.1.Denom:: .int .i64 x14.1.Depth:: .int .i64 x14.1.A:: .int .u8 (gt x14.1.Root 0):: .int .u8 (gt x14.1.Root 1):: .int .u8 (gt x14.1.Root 2):: .int .u8 (gt x14.1.Root 3):: .int .u8 (gt x14.1.Root 4):: .int .u8 (gt x14.1.Root 5):: .int .u8 (gt x14.1.Root 6):: .int .u8 (gt x14.1.Root 7):: .int .u8 (gt x14.1.Root 8):: .int .u8 (gt x14.1.Root 9):: .int .u8 (gt x14.1.Root 10):: .int .u8 (gt x14.1.Root 11):: .int .u8 (gt x14.1.Root 12):: .int .u8 (gt x14.1.Root 13):: .int .u8 (gt x14.1.Root 14):: .int .u8 (gt x14.1.Root 15):: .int .u8 (gt x14.1.Root 16):: .int .u8 (gt x14.1.Root 17):: .int .u8 (gt x14.1.Root 18):: .int .u8 (gt x14.1.Root 19):: .int .u8 (gt x14.1.Root 20):: .int .u8 (gt x14.1.Root 21):: .int .u8 (gt x14.1.Root 22):: .int .u8 (gt x14.1.Root 23):: .int .u8 (gt x14.1.Root 24):: .int .u8 (gt x14.1.Root 25):: .int .u8 (gt x14.1.Root 26):: .int .u8 (gt x14.1.Root 27):: .int .u8 (gt x14.1.Root 28):: .int .u8 (gt x14.1.Root 29):: .int .u8 (gt x14.1.Root 30):: .int .u8 (gt x14.1.Root 31):: .int .i64 x14.1.Sign.Z:: .int .i64 x14.1.Sign.A:: .int .i64 x14.1.Sign.B:: .int .i64 x14.1.Sign.R:: .int .i64 x18.1:: .int .i64 x18.2.1:: .int .u8 (gt x22.1 0):: .int .u8 (gt x22.1 1):: .int .u8 (gt x22.1 2):: .int .u8 (gt x22.1 3):: .int .u8 (gt x22.1 4):: .int .u8 (gt x22.1 5):: .int .u8 (gt x22.1 6):: .int .u8 (gt x22.1 7):: .int .u8 (gt x22.1 8):: .int .u8 (gt x22.1 9):: .int .u8 (gt x22.1 10):: .int .u8 (gt x22.1 11):: .int .u8 (gt x22.1 12):: .int .u8 (gt x22.1 13):: .int .u8 (gt x22.1 14):: .int .u8 (gt x22.1 15):: .int .u8 (gt x22.1 16):: .int .u8 (gt x22.1 17):: .int .u8 (gt x22.1 18):: .int .u8 (gt x22.1 19):: .int .u8 (gt x22.1 20):: .int .u8 (gt x22.1 21):: .int .u8 (gt x22.1 22):: .int .u8 (gt x22.1 23):: .int .u8 (gt x22.1 24):: .int .u8 (gt x22.1 25):: .int .u8 (gt x22.1 26):: .int .u8 (gt x22.1 27):: .int .u8 (gt x22.1 28):: .int .u8 (gt x22.1 29):: .int .u8 (gt x22.1 30):: .int .u8 (gt x22.1 31):: .int .i64 x26.1:: .int .i64 x26.2.1:: .own 6:: .int .i64 (gt (gt i_.L 5).L 0).N:: .own 7::[]))),(6,.own 213 3 true none (p54.2.map eK)),(7,.own 28 32 true none (p.2.2.map bP))],8⟩:St)∧((0≤p.1)∧(p.1≤((sl (gt i_.L 5).L 1 ((gt i_.L 5).L.length:Int)).length:Int))∧(((p.2.2).length:Int)≤p.1))∧(((sl (gt i_.L 5).L 1 ((gt i_.L 5).L.length:Int)).length:Int) - p.1).toNat<n∧ao n f63 d63 p=r) ((((sl (gt i_.L 5).L 1 ((gt i_.L 5).L.length:Int)).length:Int) - 0).toNat+1) _ _ (iw 5 79 28 rfl rfl (by decide)) sbQ (by simp only [go_sem,aE,aF,List.length_replicate,az,Int.toNat_natCast,↓reduceIte,Nat.reduceEqDiff,Nat.reduceAdd,Int.reduceAdd,Nat.reduceMul,Nat.reduceLeDiff,Nat.reduceLT,Int.reduceLE,Int.reduceLT,Int.reduceNeg,Int.reduceToNat,List.isEmpty_nil,a7,dI,dX,cq,cr,mtO,mtB,mt,mtL,aH,aG,ltV,ltL,ltB,eq_self,or_true,true_or,or_self,and_self,aZ,a6,Int.reduceSub]) ⟨(0,cI,([]:List (List Int))),rfl,⟨by (first|exact omQ|(clear hM;first|(have h9:=bz (l:=i_.L) (j:=5) (by assumption) (by assumption) (by omega);exact ah))),by (first|exact omQ|(clear hM;first|(have h9:=bz (l:=i_.L) (j:=5) (by assumption) (by assumption) (by omega);exact ah))),by (first|exact omQ|(clear hM;first|(have h9:=bz (l:=i_.L) (j:=5) (by assumption) (by assumption) (by omega);exact ah)))⟩,(Nat.lt_succ_self _),hM⟩ ?_
              clear hM
              rintro n63 S ⟨p63,rfl,hfa63,hm63,hM⟩
              have hM0:=hM;clear hM;obtain ⟨ag63,hag63,hM⟩:=bf hM0 (by omega) hf63;clear hM0
              replace hfa63:=nzQ hfa63
              replace hm63:=nzQ hm63
              have ha63:aq .i64 p63.1 1=p63.1+1:=bp (by (first|exact omQ|(clear hM;first|(have h9:=bz (l:=i_.L) (j:=5) (by assumption) (by assumption) (by omega);exact ah)))) (by (first|exact omQ|(clear hM;first|(have h9:=bz (l:=i_.L) (j:=5) (by assumption) (by assumption) (by omega);exact ah))))
              refine aa (And.intro he13 (And.intro he17 (And.intro he21 (And.intro he25 (And.intro he29 (And.intro he33 (And.intro he50 (And.intro ha54 ha63)))))))) ?_
              refine aB (fun h64=> ?_) (fun h64=> ?_)
              ·rw [if_pos h64] at hM
               refine aa (And.intro he13 (And.intro he17 (And.intro he21 (And.intro he25 (And.intro he29 (And.intro he33 (And.intro he50 (And.intro ha54 (And.intro ha63 h64))))))))) ?_
               have nh64:=nzQ h64
               try have hr65:=mpQ nh64
               refine aN (by (first|exact omQ|(clear hM;first|(have h9:=bz (l:=i_.L) (j:=5) (by assumption) (by assumption) (by omega);exact ah)))) ?_
               have he66:=fun d=>aV (l:=(sl (gt i_.L 5).L 1 ((gt i_.L 5).L.length:Int))) (f:=aw) (i:=p63.1) (by (first|exact omQ|(clear hM;first|(have h9:=bz (l:=i_.L) (j:=5) (by assumption) (by assumption) (by omega);exact ah)))) d
               refine aa (And.intro he13 (And.intro he17 (And.intro he21 (And.intro he25 (And.intro he29 (And.intro he33 (And.intro he50 (And.intro ha54 (And.intro ha63 he66))))))))) ?_
               have hM0:=hM;clear hM;obtain ⟨x67,hx68,hM⟩:=ay hM0;clear hM0
               have hcx67:=cmU hx68
               refine aQ hcx67 (ax (And.intro he13 (And.intro he17 (And.intro he21 (And.intro he25 (And.intro he29 (And.intro he33 (And.intro he50 (And.intro ha54 (And.intro ha63 he66)))))))))) (ax (And.intro he13 (And.intro he17 (And.intro he21 (And.intro he25 (And.intro he29 (And.intro he33 (And.intro he50 (And.intro ha54 (And.intro ha63 he66)))))))))) (fun hw69=> ?_)
               replace hw69:=nzQ hw69
               refine aa (And.intro he13 (And.intro he17 (And.intro he21 (And.intro he25 (And.intro he29 (And.intro he33 (And.intro he50 (And.intro ha54 (And.intro ha63 he66))))))))) ?_
               refine aB (fun h70=> ?_) (fun h70=> ?_)
               ·rw [if_pos h70] at hM
                refine aa (And.intro he13 (And.intro he17 (And.intro he21 (And.intro he25 (And.intro he29 (And.intro he33 (And.intro he50 (And.intro ha54 (And.intro ha63 (And.intro he66 h70)))))))))) ?_
                have nh70:=nzQ h70
                try have hr71:=mpQ nh70
                subst hM
                exact ar (av (And.intro he13 (And.intro he17 (And.intro he21 (And.intro he25 (And.intro he29 (And.intro he33 (And.intro he50 (And.intro ha54 (And.intro ha63 (And.intro he66 (And.intro h5 (And.intro h8 (And.intro h10 (And.intro h34 (And.intro h36 (And.intro h38 (And.intro h40 (And.intro h42 (And.intro h44 (And.intro h46 (And.intro h48 (And.intro h51 (And.intro h55 (And.intro h64 h70)))))))))))))))))))))))))
               ·rw [if_neg (an h70)] at hM
                refine aa (And.intro he13 (And.intro he17 (And.intro he21 (And.intro he25 (And.intro he29 (And.intro he33 (And.intro he50 (And.intro ha54 (And.intro ha63 (And.intro he66 h70)))))))))) ?_
                have nh70:=nzQ h70
                try have hr72:=mpQ nh70
                refine aN (by (first|exact omQ|(clear hM;first|(have h9:=bz (l:=i_.L) (j:=5) (by assumption) (by assumption) (by omega);exact ah)))) ?_
                refine aa (And.intro he13 (And.intro he17 (And.intro he21 (And.intro he25 (And.intro he29 (And.intro he33 (And.intro he50 (And.intro ha54 (And.intro ha63 he66))))))))) ?_
                refine b_ (n63 - 1) _ (by omega) sbQ sbQ ⟨((p63.1+1),p63.2.1,(p63.2.2++([x67.1]:List (List Int)))),rfl,⟨by (first|exact omQ|(clear hM;first|(have h9:=bz (l:=i_.L) (j:=5) (by assumption) (by assumption) (by omega);exact ah))),by (first|exact omQ|(clear hM;first|(have h9:=bz (l:=i_.L) (j:=5) (by assumption) (by assumption) (by omega);exact ah))),by (first|exact omQ|(clear hM;first|(have h9:=bz (l:=i_.L) (j:=5) (by assumption) (by assumption) (by omega);exact ah)))⟩,by (first|exact omQ|(clear hM;first|(have h9:=bz (l:=i_.L) (j:=5) (by assumption) (by assumption) (by omega);exact ah))),ca hM hag63⟩
              ·rw [if_neg (an h64)] at hM
               refine aa (And.intro he13 (And.intro he17 (And.intro he21 (And.intro he25 (And.intro he29 (And.intro he33 (And.intro he50 (And.intro ha54 (And.intro ha63 h64))))))))) ?_
               have nh64:=nzQ h64
               try have hr73:=mpQ nh64
               subst hM
               exact ar (av (And.intro he13 (And.intro he17 (And.intro he21 (And.intro he25 (And.intro he29 (And.intro he33 (And.intro he50 (And.intro ha54 (And.intro ha63 (And.intro h5 (And.intro h8 (And.intro h10 (And.intro h34 (And.intro h36 (And.intro h38 (And.intro h40 (And.intro h42 (And.intro h44 (And.intro h46 (And.intro h48 (And.intro h51 (And.intro h55 h64)))))))))))))))))))))))
           ·rw [if_pos h48] at hM
            refine aa (And.intro he13 (And.intro he17 (And.intro he21 (And.intro he25 (And.intro he29 (And.intro he33 h48)))))) ?_
            have nh48:=nzQ h48
            try have hr74:=mpQ nh48
            subst hM
            exact ar (av (And.intro he13 (And.intro he17 (And.intro he21 (And.intro he25 (And.intro he29 (And.intro he33 (And.intro h5 (And.intro h8 (And.intro h10 (And.intro h34 (And.intro h36 (And.intro h38 (And.intro h40 (And.intro h42 (And.intro h44 (And.intro h46 h48)))))))))))))))))
          ·rw [if_pos h46] at hM
           refine aa (And.intro he13 (And.intro he17 (And.intro he21 (And.intro he25 (And.intro he29 (And.intro he33 h46)))))) ?_
           have nh46:=nzQ h46
           try have hr75:=mpQ nh46
           subst hM
           exact ar (av (And.intro he13 (And.intro he17 (And.intro he21 (And.intro he25 (And.intro he29 (And.intro he33 (And.intro h5 (And.intro h8 (And.intro h10 (And.intro h34 (And.intro h36 (And.intro h38 (And.intro h40 (And.intro h42 (And.intro h44 h46))))))))))))))))
         ·rw [if_pos h44] at hM
          refine aa (And.intro he13 (And.intro he17 (And.intro he21 (And.intro he25 (And.intro he29 (And.intro he33 h44)))))) ?_
          have nh44:=nzQ h44
          try have hr76:=mpQ nh44
          subst hM
          exact ar (av (And.intro he13 (And.intro he17 (And.intro he21 (And.intro he25 (And.intro he29 (And.intro he33 (And.intro h5 (And.intro h8 (And.intro h10 (And.intro h34 (And.intro h36 (And.intro h38 (And.intro h40 (And.intro h42 h44)))))))))))))))
        ·rw [if_pos h42] at hM
         refine aa (And.intro he13 (And.intro he17 (And.intro he21 (And.intro he25 (And.intro he29 (And.intro he33 h42)))))) ?_
         have nh42:=nzQ h42
         try have hr77:=mpQ nh42
         subst hM
         exact ar (av (And.intro he13 (And.intro he17 (And.intro he21 (And.intro he25 (And.intro he29 (And.intro he33 (And.intro h5 (And.intro h8 (And.intro h10 (And.intro h34 (And.intro h36 (And.intro h38 (And.intro h40 h42))))))))))))))
       ·rw [if_pos h40] at hM
        refine aa (And.intro he13 (And.intro he17 (And.intro he21 (And.intro he25 (And.intro he29 (And.intro he33 h40)))))) ?_
        have nh40:=nzQ h40
        try have hr78:=mpQ nh40
        subst hM
        exact ar (av (And.intro he13 (And.intro he17 (And.intro he21 (And.intro he25 (And.intro he29 (And.intro he33 (And.intro h5 (And.intro h8 (And.intro h10 (And.intro h34 (And.intro h36 (And.intro h38 h40)))))))))))))
      ·rw [if_pos h38] at hM
       refine aa (And.intro he13 (And.intro he17 (And.intro he21 (And.intro he25 (And.intro he29 (And.intro he33 h38)))))) ?_
       have nh38:=nzQ h38
       try have hr79:=mpQ nh38
       subst hM
       exact ar (av (And.intro he13 (And.intro he17 (And.intro he21 (And.intro he25 (And.intro he29 (And.intro he33 (And.intro h5 (And.intro h8 (And.intro h10 (And.intro h34 (And.intro h36 h38))))))))))))
     ·rw [if_pos h36] at hM
      refine aa (And.intro he13 (And.intro he17 (And.intro he21 (And.intro he25 (And.intro he29 (And.intro he33 h36)))))) ?_
      have nh36:=nzQ h36
      try have hr80:=mpQ nh36
      subst hM
      exact ar (av (And.intro he13 (And.intro he17 (And.intro he21 (And.intro he25 (And.intro he29 (And.intro he33 (And.intro h5 (And.intro h8 (And.intro h10 (And.intro h34 h36)))))))))))
    ·rw [if_pos h34] at hM
     refine aa (And.intro he13 (And.intro he17 (And.intro he21 (And.intro he25 (And.intro he29 (And.intro he33 h34)))))) ?_
     have nh34:=nzQ h34
     try have hr81:=mpQ nh34
     subst hM
     exact ar (av (And.intro he13 (And.intro he17 (And.intro he21 (And.intro he25 (And.intro he29 (And.intro he33 (And.intro h5 (And.intro h8 (And.intro h10 h34))))))))))
  ·rw [if_pos h8] at hM
   refine aa h8 ?_
   have nh8:=nzQ h8
   try have hr82:=mpQ nh8
   subst hM
   exact ar (av (And.intro h5 h8))
set_option maxHeartbeats 2000000 in
set_option maxRecDepth 100000 in
instance Nu (i_:ab):CM En (lc i_) 53 [.agg [.int .i64 i_.Kind,.int .i64 i_.N,.sl none 1 false (i_.B.map (V.int .u8)),.sl none 4 true (i_.L.map aw)]] (fun y=> .tup [(bL y.1),.bool y.2]) (fun _=> []):=by
 refine cmQ fun r hM=> ?_
 rw [lc.eq_1] at hM
 refine aO aA aK noJ Tryz.func53 rfl Tryz.ntmps53 (by kernel_rfl) fun hw=>aL ?_
 refine spQ ?_
 replace hw:=nzQ hw
 have h0_0:=vh hw.2.2.2.2 3
 have hM0:=hM;clear hM;obtain ⟨x1,hx2,hM⟩:=ay hM0;clear hM0
 have hcx1:=cmU hx2
 refine aQ hcx1 clQ clQ (fun hw3=> ?_)
 replace hw3:=nzQ hw3
 refine spQ ?_
 have hq4:=nzQ (cfU hx2)
 refine aB (fun h5=> ?_) (fun h5=> ?_)
 ·rw [if_pos h5] at hM
  refine aa h5 ?_
  have nh5:=nzQ h5
  try have hr6:=mpQ nh5
  subst hM
  exact ar (av h5)
 ·rw [if_neg (an h5)] at hM
  refine aa h5 ?_
  have nh5:=nzQ h5
  try have hr7:=mpQ nh5
  refine aN omQ ?_
  have he8: ∀d,elt (i_.L.map aw) 0 d=aw (gt i_.L 0):=fun d=>aV (l:=i_.L) (f:=aw) (i:=0) omQ d
  refine aa he8 ?_
  have hM0:=hM;clear hM;obtain ⟨x9,hx10,hM⟩:=ay hM0;clear hM0
  have hcx9:=cmU hx10
  refine aQ hcx9 (ax he8) (ax he8) (fun hw11=> ?_)
  replace hw11:=nzQ hw11
  refine aa he8 ?_
  refine aB (fun h12=> ?_) (fun h12=> ?_)
  ·rw [if_pos h12] at hM
   refine aa (And.intro he8 h12) ?_
   have nh12:=nzQ h12
   try have hr13:=mpQ nh12
   subst hM
   exact ar (av (And.intro he8 (And.intro h5 h12)))
  ·rw [if_neg (an h12)] at hM
   refine aa (And.intro he8 h12) ?_
   have nh12:=nzQ h12
   try have hr14:=mpQ nh12
   refine aN omQ ?_
   have he15: ∀d,elt (i_.L.map aw) 1 d=aw (gt i_.L 1):=fun d=>aV (l:=i_.L) (f:=aw) (i:=1) omQ d
   refine aa (And.intro he8 he15) ?_
   have hM0:=hM;clear hM;obtain ⟨x16,hx17,hM⟩:=ay hM0;clear hM0
   have hcx16:=cmU hx17
   refine aQ hcx16 (ax (And.intro he8 he15)) (ax (And.intro he8 he15)) (fun hw18=> ?_)
   replace hw18:=nzQ hw18
   refine aa (And.intro he8 he15) ?_
   refine aY (fun h19=> ?_) (fun h19=> ?_)
   ·rw [if_neg (an h19)] at hM
    refine aa (And.intro he8 (And.intro he15 h19)) ?_
    have nh19:=nzQ h19
    try have hr20:=mpQ nh19
    refine aY (fun h21=> ?_) (fun h21=> ?_)
    ·rw [if_neg (an h21)] at hM
     refine aa (And.intro he8 (And.intro he15 h21)) ?_
     have nh21:=nzQ h21
     try have hr22:=mpQ nh21
     refine aN omQ ?_
     refine aa (And.intro he8 he15) ?_
     refine aB (fun h23=> ?_) (fun h23=> ?_)
     ·rw [if_pos h23] at hM
      refine aa (And.intro he8 (And.intro he15 h23)) ?_
      have nh23:=nzQ h23
      try have hr24:=mpQ nh23
      subst hM
      exact ar (av (And.intro he8 (And.intro he15 (And.intro h5 (And.intro h12 (And.intro h19 (And.intro h21 h23)))))))
     ·rw [if_neg (an h23)] at hM
      refine aa (And.intro he8 (And.intro he15 h23)) ?_
      have nh23:=nzQ h23
      try have hr25:=mpQ nh23
      refine cG 142 9 [52,53,54,55,56,57,58,59] [] ([[],[0],[0,1],[],[3],[3,4],[],[6],[0,1,2,6,7]]++[List.range 9,List.range 10,List.range 11]) [(8,1)] (by kernel_rfl) (by exact alQ) ?_
      refine aa (And.intro he8 he15) ?_
      refine bu omQ ?_
      have he26: ∀d,elt (x16.1.map (V.int .i64)) 0 d=(V.int .i64) (gt x16.1 0):=fun d=>aV (l:=x16.1) (f:=(V.int .i64)) (i:=0) omQ d
      refine aa (And.intro he8 (And.intro he15 he26)) ?_
      refine bu omQ ?_
      have he27: ∀d,elt (x16.1.map (V.int .i64)) 1 d=(V.int .i64) (gt x16.1 1):=fun d=>aV (l:=x16.1) (f:=(V.int .i64)) (i:=1) omQ d
      refine aa (And.intro he8 (And.intro he15 (And.intro he26 he27))) ?_
      refine aN omQ ?_
      refine aa (And.intro he8 (And.intro he15 (And.intro he26 he27))) ?_
      refine aQ (HQ none (sl x16.1 2 (x16.1.length:Int))) (ax (And.intro he8 (And.intro he15 (And.intro he26 he27)))) (ax (And.intro he8 (And.intro he15 (And.intro he26 he27)))) (fun hw28=> ?_)
      refine aa (And.intro he8 (And.intro he15 (And.intro he26 he27))) ?_
      have hM0:=hM;clear hM;obtain ⟨f29,d29,hf29,hd29,hM⟩:=ya hM0;clear hM0
      refine ye (cN (sl x16.1 2 (x16.1.length:Int))) (fun y29=> [.sl none 1 false (y29.map (V.int .i64))]) (fun p:List (List Int)=>(⟨[(1,.ptr 0 0),(2,.ptr 1 0),(64,.fn 131 [.pp 1 false (.sl none 1 false ((sl x16.1 2 (x16.1.length:Int)).map (V.int .i64))),.pp 1 false (.int .i64 2)])],[(0,.var 4 true (.agg [.int .i64 i_.Kind,.int .i64 i_.N,.sl none 1 false (i_.B.map (V.int .u8)),.sl none 4 true (i_.L.map aw)])),(1,.var 46 true (.agg (.int .i64 x9.1.Bank:: .int .i64 x9.1.Epoch:: .int .i64 x9.1.Denom:: .int .i64 x9.1.Depth:: .int .i64 x9.1.A:: .int .u8 (gt x9.1.Root 0):: .int .u8 (gt x9.1.Root 1):: .int .u8 (gt x9.1.Root 2):: .int .u8 (gt x9.1.Root 3):: .int .u8 (gt x9.1.Root 4):: .int .u8 (gt x9.1.Root 5):: .int .u8 (gt x9.1.Root 6):: .int .u8 (gt x9.1.Root 7):: .int .u8 (gt x9.1.Root 8):: .int .u8 (gt x9.1.Root 9):: .int .u8 (gt x9.1.Root 10):: .int .u8 (gt x9.1.Root 11):: .int .u8 (gt x9.1.Root 12):: .int .u8 (gt x9.1.Root 13):: .int .u8 (gt x9.1.Root 14):: .int .u8 (gt x9.1.Root 15):: .int .u8 (gt x9.1.Root 16):: .int .u8 (gt x9.1.Root 17):: .int .u8 (gt x9.1.Root 18):: .int .u8 (gt x9.1.Root 19):: .int .u8 (gt x9.1.Root 20):: .int .u8 (gt x9.1.Root 21):: .int .u8 (gt x9.1.Root 22):: .int .u8 (gt x9.1.Root 23):: .int .u8 (gt x9.1.Root 24):: .int .u8 (gt x9.1.Root 25):: .int .u8 (gt x9.1.Root 26):: .int .u8 (gt x9.1.Root 27):: .int .u8 (gt x9.1.Root 28):: .int .u8 (gt x9.1.Root 29):: .int .u8 (gt x9.1.Root 30):: .int .u8 (gt x9.1.Root 31):: .int .i64 x9.1.Sign.Z:: .int .i64 x9.1.Sign.A:: .int .i64 x9.1.Sign.B:: .int .i64 x9.1.Sign.R:: .int .i64 (gt x16.1 0):: .int .i64 (gt x16.1 1):: .own 11:: .sl (some true) 1 false []:: .sl (some true) 80 true []::[]))),(11,.own 163 2 true none (p.map (fun l=> .agg [.int .i64 (gt l 0),.int .i64 (gt l 1)])))],12⟩:St)) (fun (k29:Nat) (p:List (List Int))=>((p).length=k29)) hM (HR (by first|exact Ij (by omega) (by omega)|exact HT (by omega))) (ax (And.intro he8 (And.intro he15 (And.intro he26 he27)))) (ax (And.intro he8 (And.intro he15 (And.intro he26 he27)))) ⟨rfl,by decide,by decide⟩ (fun _=>rfl) (iw 1 43 163 rfl rfl (by decide)) sbQ sbQ (by rfl) (fun _ _ _=>rfl) (fun ag29 k29 y29 p29 r29 K29 hy29 hk29 hf29a hM hN29 hR29=> ?_) (fun p29 hf29a hM=> ?_)
      ·have hM0:=hM;clear hM;have hM:=yb hM0 hf29;clear hM0
       have hF13_0:=hf29a
       have hl29:=zn hy29
       have hc29:=Nat.le_trans (zW (l:=(sl x16.1 2 (x16.1.length:Int)))) Ii
       refine yd (S':=(⟨[(6,.sl none 1 false (y29.map (V.int .i64))),(65,.sl none 1 false (y29.map (V.int .i64))),(1,.ptr 0 0),(2,.ptr 1 0),(64,.fn 131 [.pp 1 false (.sl none 1 false ((sl x16.1 2 (x16.1.length:Int)).map (V.int .i64))),.pp 1 false (.int .i64 2)]),(100001,.ptr 0 0),(100002,.ptr 1 0),(100064,.fn 131 [.pp 1 false (.sl none 1 false ((sl x16.1 2 (x16.1.length:Int)).map (V.int .i64))),.pp 1 false (.int .i64 2)])],[(0,.var 4 true (.agg [.int .i64 i_.Kind,.int .i64 i_.N,.sl none 1 false (i_.B.map (V.int .u8)),.sl none 4 true (i_.L.map aw)])),(1,.var 46 true (.agg (.int .i64 x9.1.Bank:: .int .i64 x9.1.Epoch:: .int .i64 x9.1.Denom:: .int .i64 x9.1.Depth:: .int .i64 x9.1.A:: .int .u8 (gt x9.1.Root 0):: .int .u8 (gt x9.1.Root 1):: .int .u8 (gt x9.1.Root 2):: .int .u8 (gt x9.1.Root 3):: .int .u8 (gt x9.1.Root 4):: .int .u8 (gt x9.1.Root 5):: .int .u8 (gt x9.1.Root 6):: .int .u8 (gt x9.1.Root 7):: .int .u8 (gt x9.1.Root 8):: .int .u8 (gt x9.1.Root 9):: .int .u8 (gt x9.1.Root 10):: .int .u8 (gt x9.1.Root 11):: .int .u8 (gt x9.1.Root 12):: .int .u8 (gt x9.1.Root 13):: .int .u8 (gt x9.1.Root 14):: .int .u8 (gt x9.1.Root 15):: .int .u8 (gt x9.1.Root 16):: .int .u8 (gt x9.1.Root 17):: .int .u8 (gt x9.1.Root 18):: .int .u8 (gt x9.1.Root 19):: .int .u8 (gt x9.1.Root 20):: .int .u8 (gt x9.1.Root 21):: .int .u8 (gt x9.1.Root 22):: .int .u8 (gt x9.1.Root 23):: .int .u8 (gt x9.1.Root 24):: .int .u8 (gt x9.1.Root 25):: .int .u8 (gt x9.1.Root 26):: .int .u8 (gt x9.1.Root 27):: .int .u8 (gt x9.1.Root 28):: .int .u8 (gt x9.1.Root 29):: .int .u8 (gt x9.1.Root 30):: .int .u8 (gt x9.1.Root 31):: .int .i64 x9.1.Sign.Z:: .int .i64 x9.1.Sign.A:: .int .i64 x9.1.Sign.B:: .int .i64 x9.1.Sign.R:: .int .i64 (gt x16.1 0):: .int .i64 (gt x16.1 1):: .own 11:: .sl (some true) 1 false []:: .sl (some true) 80 true []::[]))),(11,.own 163 2 true none (p29.map (fun l=> .agg [.int .i64 (gt l 0),.int .i64 (gt l 1)])))],12⟩:St)) rfl ?_
       try refine aa (And.intro he8 (And.intro he15 (And.intro he26 he27))) ?_
       refine cG 142 7 [66,67,68,69,70,71,72] [] ([[],[0],[0,1],[],[3],[3,4],[3,4,5]]++[List.range 7,List.range 8,List.range 9,List.range 10]) [] (by kernel_rfl) (by exact alQ) ?_
       refine aa (And.intro he8 (And.intro he15 (And.intro he26 he27))) ?_
       refine bu omQ ?_
       have he30:=qF (l:=y29) (f:=(V.int .i64)) (k:=2) omQ
       refine aa (And.intro he8 (And.intro he15 (And.intro he26 (And.intro he27 he30)))) ?_
       refine aN omQ ?_
       refine aa (And.intro he8 (And.intro he15 (And.intro he26 (And.intro he27 he30)))) ?_
       try rw [ug]
       exact (hN29 (p29++([(aC 2 y29)]:List (List Int))) _ (yc (by first|rfl|(simp only [dnF,c8,List.filterMap_cons,List.filterMap_nil,Nat.reduceLeDiff,if_true,if_false,↓reduceIte,Nat.reduceSub];exact (by simp only [go_sem,aE,aF,List.length_replicate,az,Int.toNat_natCast,↓reduceIte,Nat.reduceEqDiff,Nat.reduceAdd,Int.reduceAdd,Nat.reduceMul,Nat.reduceLeDiff,Nat.reduceLT,Int.reduceLE,Int.reduceLT,Int.reduceNeg,Int.reduceToNat,List.isEmpty_nil,a7,dI,dX,cq,cr,mtO,mtB,mt,mtL,aH,aG,ltV,ltL,ltB,eq_self,or_true,true_or,or_self,and_self,aZ,a6,Int.reduceSub]))) (by simp only [go_sem,aE,aF,List.length_replicate,az,Int.toNat_natCast,↓reduceIte,Nat.reduceEqDiff,Nat.reduceAdd,Int.reduceAdd,Nat.reduceMul,Nat.reduceLeDiff,Nat.reduceLT,Int.reduceLE,Int.reduceLT,Int.reduceNeg,Int.reduceToNat,List.isEmpty_nil,a7,dI,dX,cq,cr,mtO,mtB,mt,mtL,aH,aG,ltV,ltL,ltB,eq_self,or_true,true_or,or_self,and_self,aZ,a6,Int.reduceSub])) (by simp only [List.length_append,List.length_cons,List.length_nil,hF13_0]) hM)
      ·have hM0:=hM;clear hM;have hM:=i0 hM0 hd29;clear hM0
       have hF13_0:=hf29a
       try refine aa (And.intro he8 (And.intro he15 (And.intro he26 he27))) ?_
       refine aN omQ ?_
       have he31: ∀d,elt (i_.L.map aw) 2 d=aw (gt i_.L 2):=fun d=>aV (l:=i_.L) (f:=aw) (i:=2) omQ d
       refine aa (And.intro he8 (And.intro he15 (And.intro he26 (And.intro he27 he31)))) ?_
       have hM0:=hM;clear hM;obtain ⟨x32,hx33,hM⟩:=ay hM0;clear hM0
       have hcx32:=cmU hx33
       refine aQ hcx32 (ax (And.intro he8 (And.intro he15 (And.intro he26 (And.intro he27 he31))))) (ax (And.intro he8 (And.intro he15 (And.intro he26 (And.intro he27 he31))))) (fun hw34=> ?_)
       replace hw34:=nzQ hw34
       refine aa (And.intro he8 (And.intro he15 (And.intro he26 (And.intro he27 he31)))) ?_
       refine aY (fun h35=> ?_) (fun h35=> ?_)
       ·rw [if_neg (an h35)] at hM
        refine aa (And.intro he8 (And.intro he15 (And.intro he26 (And.intro he27 (And.intro he31 h35))))) ?_
        have nh35:=nzQ h35
        try have hr36:=mpQ nh35
        refine aN omQ ?_
        have he37: ∀d,elt (i_.L.map aw) 3 d=aw (gt i_.L 3):=fun d=>aV (l:=i_.L) (f:=aw) (i:=3) omQ d
        refine aa (And.intro he8 (And.intro he15 (And.intro he26 (And.intro he27 (And.intro he31 he37))))) ?_
        refine aB (fun h38=> ?_) (fun h38=> ?_)
        ·rw [if_pos h38] at hM
         refine aa (And.intro he8 (And.intro he15 (And.intro he26 (And.intro he27 (And.intro he31 (And.intro he37 h38)))))) ?_
         have nh38:=nzQ h38
         try have hr39:=mpQ nh38
         subst hM
         exact ar (av (And.intro he8 (And.intro he15 (And.intro he26 (And.intro he27 (And.intro he31 (And.intro he37 (And.intro h5 (And.intro h12 (And.intro h19 (And.intro h21 (And.intro h23 (And.intro h35 h38)))))))))))))
        ·rw [if_neg (an h38)] at hM
         refine aa (And.intro he8 (And.intro he15 (And.intro he26 (And.intro he27 (And.intro he31 (And.intro he37 h38)))))) ?_
         have nh38:=nzQ h38
         try have hr40:=mpQ nh38
         have hM0:=hM;clear hM;obtain ⟨f41,d41,hf41,hd41,hM⟩:=bd hM0;clear hM0
         refine dW (fun n S=> ∃p:Int×List Bool,S=(⟨[(1,.ptr 0 0),(2,.ptr 1 0),(95,.sl none 1 false (x32.1.map (V.int .i64))),(96,.int .i64 (x32.1.length:Int)),(97,.int .i64 p.1)],[(0,.var 4 true (.agg [.int .i64 i_.Kind,.int .i64 i_.N,.sl none 1 false (i_.B.map (V.int .u8)),.sl none 4 true (i_.L.map aw)])),(1,.var 46 true (.agg (.int .i64 x9.1.Bank:: .int .i64 x9.1.Epoch:: .int .i64 x9.1.Denom:: .int .i64 x9.1.Depth:: .int .i64 x9.1.A:: .int .u8 (gt x9.1.Root 0):: .int .u8 (gt x9.1.Root 1):: .int .u8 (gt x9.1.Root 2):: .int .u8 (gt x9.1.Root 3):: .int .u8 (gt x9.1.Root 4):: .int .u8 (gt x9.1.Root 5):: .int .u8 (gt x9.1.Root 6):: .int .u8 (gt x9.1.Root 7):: .int .u8 (gt x9.1.Root 8):: .int .u8 (gt x9.1.Root 9):: .int .u8 (gt x9.1.Root 10):: .int .u8 (gt x9.1.Root 11):: .int .u8 (gt x9.1.Root 12):: .int .u8 (gt x9.1.Root 13):: .int .u8 (gt x9.1.Root 14):: .int .u8 (gt x9.1.Root 15):: .int .u8 (gt x9.1.Root 16):: .int .u8 (gt x9.1.Root 17):: .int .u8 (gt x9.1.Root 18):: .int .u8 (gt x9.1.Root 19):: .int .u8 (gt x9.1.Root 20):: .int .u8 (gt x9.1.Root 21):: .int .u8 (gt x9.1.Root 22):: .int .u8 (gt x9.1.Root 23):: .int .u8 (gt x9.1.Root 24):: .int .u8 (gt x9.1.Root 25):: .int .u8 (gt x9.1.Root 26):: .int .u8 (gt x9.1.Root 27):: .int .u8 (gt x9.1.Root 28):: .int .u8 (gt x9.1.Root 29):: .int .u8 (gt x9.1.Root 30):: .int .u8 (gt x9.1.Root 31):: .int .i64 x9.1.Sign.Z:: .int .i64 x9.1.Sign.A:: .int .i64 x9.1.Sign.B:: .int .i64 x9.1.Sign.R:: .int .i64 (gt x16.1 0):: .int .i64 (gt x16.1 1):: .own 11:: .own 12:: .sl (some true) 80 true []::[]))),(11,.own 163 2 true none (p29.map (fun l=> .agg [.int .i64 (gt l 0),.int .i64 (gt l 1)]))),(12,.own 4 1 false none (p.2.map V.bool))],13⟩:St)∧((0≤p.1)∧(p.1≤(x32.1.length:Int))∧(((p.2).length:Int)≤p.1))∧((x32.1.length:Int) - p.1).toNat<n∧ao n f41 d41 p=r) (((x32.1.length:Int) - 0).toNat+1) _ _ (iw 1 44 4 rfl rfl (by decide)) sbQ sbQ ⟨(0,([]:List Bool)),rfl,⟨omQ,omQ,omQ⟩,(Nat.lt_succ_self _),hM⟩ ?_
         clear hM
         rintro n41 S ⟨p41,rfl,hfa41,hm41,hM⟩
         have hM0:=hM;clear hM;obtain ⟨ag41,hag41,hM⟩:=bf hM0 (by omega) hf41;clear hM0
         replace hfa41:=nzQ hfa41
         replace hm41:=nzQ hm41
         have ha41:aq .i64 p41.1 1=p41.1+1:=bp omQ omQ
         refine aa (And.intro he8 (And.intro he15 (And.intro he26 (And.intro he27 (And.intro he31 (And.intro he37 ha41)))))) ?_
         refine aB (fun h42=> ?_) (fun h42=> ?_)
         ·rw [if_pos h42] at hM
          refine aa (And.intro he8 (And.intro he15 (And.intro he26 (And.intro he27 (And.intro he31 (And.intro he37 (And.intro ha41 h42))))))) ?_
          have nh42:=nzQ h42
          try have hr43:=mpQ nh42
          have hF:=(And.intro h5 (And.intro he8 (And.intro h12 (And.intro he15 (And.intro h19 (And.intro h21 (And.intro h23 (And.intro he26 (And.intro he27 (And.intro he31 (And.intro h35 (And.intro he37 (And.intro h38 (And.intro ha41 h42))))))))))))))
          exact auQ
         ·rw [if_neg (an h42)] at hM
          refine aa (And.intro he8 (And.intro he15 (And.intro he26 (And.intro he27 (And.intro he31 (And.intro he37 (And.intro ha41 h42))))))) ?_
          have nh42:=nzQ h42
          try have hr51:=mpQ nh42
          refine aN omQ ?_
          refine aa (And.intro he8 (And.intro he15 (And.intro he26 (And.intro he27 (And.intro he31 (And.intro he37 ha41)))))) ?_
          have hM0:=hM;clear hM;obtain ⟨f52,d52,hf52,hd52,hM⟩:=bd hM0;clear hM0
          refine dW (fun n S=> ∃p:Int×List aS,S=(⟨[(2,.ptr 1 0),(120,.sl none 4 true ((gt i_.L 3).L.map aw)),(121,.int .i64 ((gt i_.L 3).L.length:Int)),(122,.int .i64 p.1)],[(1,.var 46 true (.agg (.int .i64 x9.1.Bank:: .int .i64 x9.1.Epoch:: .int .i64 x9.1.Denom:: .int .i64 x9.1.Depth:: .int .i64 x9.1.A:: .int .u8 (gt x9.1.Root 0):: .int .u8 (gt x9.1.Root 1):: .int .u8 (gt x9.1.Root 2):: .int .u8 (gt x9.1.Root 3):: .int .u8 (gt x9.1.Root 4):: .int .u8 (gt x9.1.Root 5):: .int .u8 (gt x9.1.Root 6):: .int .u8 (gt x9.1.Root 7):: .int .u8 (gt x9.1.Root 8):: .int .u8 (gt x9.1.Root 9):: .int .u8 (gt x9.1.Root 10):: .int .u8 (gt x9.1.Root 11):: .int .u8 (gt x9.1.Root 12):: .int .u8 (gt x9.1.Root 13):: .int .u8 (gt x9.1.Root 14):: .int .u8 (gt x9.1.Root 15):: .int .u8 (gt x9.1.Root 16):: .int .u8 (gt x9.1.Root 17):: .int .u8 (gt x9.1.Root 18):: .int .u8 (gt x9.1.Root 19):: .int .u8 (gt x9.1.Root 20):: .int .u8 (gt x9.1.Root 21):: .int .u8 (gt x9.1.Root 22):: .int .u8 (gt x9.1.Root 23):: .int .u8 (gt x9.1.Root 24):: .int .u8 (gt x9.1.Root 25):: .int .u8 (gt x9.1.Root 26):: .int .u8 (gt x9.1.Root 27):: .int .u8 (gt x9.1.Root 28):: .int .u8 (gt x9.1.Root 29):: .int .u8 (gt x9.1.Root 30):: .int .u8 (gt x9.1.Root 31):: .int .i64 x9.1.Sign.Z:: .int .i64 x9.1.Sign.A:: .int .i64 x9.1.Sign.B:: .int .i64 x9.1.Sign.R:: .int .i64 (gt x16.1 0):: .int .i64 (gt x16.1 1):: .own 11:: .own 12:: .own 13::[]))),(11,.own 163 2 true none (p29.map (fun l=> .agg [.int .i64 (gt l 0),.int .i64 (gt l 1)]))),(12,.own 4 1 false none (p41.2.map V.bool)),(13,.own 97 80 true none (p.2.map cB))],14⟩:St)∧((0≤p.1)∧(p.1≤((gt i_.L 3).L.length:Int))∧(((p.2).length:Int)≤p.1))∧(((gt i_.L 3).L.length:Int) - p.1).toNat<n∧ao n f52 d52 p=r) ((((gt i_.L 3).L.length:Int) - 0).toNat+1) _ _ (iw 1 45 97 rfl rfl (by decide)) sbQ sbQ ⟨(0,([]:List aS)),rfl,⟨omQ,omQ,omQ⟩,(Nat.lt_succ_self _),hM⟩ ?_
          clear hM
          rintro n52 S ⟨p52,rfl,hfa52,hm52,hM⟩
          have hM0:=hM;clear hM;obtain ⟨ag52,hag52,hM⟩:=bf hM0 (by omega) hf52;clear hM0
          replace hfa52:=nzQ hfa52
          replace hm52:=nzQ hm52
          have ha52:aq .i64 p52.1 1=p52.1+1:=bp omQ omQ
          refine aa (And.intro he8 (And.intro he15 (And.intro he26 (And.intro he27 (And.intro he31 (And.intro he37 (And.intro ha41 ha52))))))) ?_
          have hF:=(And.intro h5 (And.intro he8 (And.intro h12 (And.intro he15 (And.intro h19 (And.intro h21 (And.intro h23 (And.intro he26 (And.intro he27 (And.intro he31 (And.intro h35 (And.intro he37 (And.intro h38 (And.intro ha41 (And.intro h42 ha52)))))))))))))))
          exact auQ
       ·rw [if_pos h35] at hM
        refine aa (And.intro he8 (And.intro he15 (And.intro he26 (And.intro he27 (And.intro he31 h35))))) ?_
        have nh35:=nzQ h35
        try have hr63:=mpQ nh35
        subst hM
        exact ar (av (And.intro he8 (And.intro he15 (And.intro he26 (And.intro he27 (And.intro he31 (And.intro h5 (And.intro h12 (And.intro h19 (And.intro h21 (And.intro h23 h35)))))))))))
    ·rw [if_pos h21] at hM
     refine aa (And.intro he8 (And.intro he15 h21)) ?_
     have nh21:=nzQ h21
     try have hr64:=mpQ nh21
     subst hM
     exact ar (av (And.intro he8 (And.intro he15 (And.intro h5 (And.intro h12 (And.intro h19 h21))))))
   ·rw [if_pos h19] at hM
    refine aa (And.intro he8 (And.intro he15 h19)) ?_
    have nh19:=nzQ h19
    try have hr65:=mpQ nh19
    subst hM
    exact ar (av (And.intro he8 (And.intro he15 (And.intro h5 (And.intro h12 h19)))))
set_option maxHeartbeats 2000000 in
set_option maxRecDepth 100000 in
instance Nv (i_:ab):CM En (gY i_) 54 [.agg [.int .i64 i_.Kind,.int .i64 i_.N,.sl none 1 false (i_.B.map (V.int .u8)),.sl none 4 true (i_.L.map aw)]] (fun y=> .tup [(cc y.1),.int .i64 y.2]) (fun _=> []):=by
 refine cmQ fun r hM=> ?_
 rw [gY.eq_1] at hM
 refine aO aA aK noJ Tryz.func54 rfl Tryz.ntmps54 (by kernel_rfl) fun hw=>aL ?_
 refine spQ ?_
 replace hw:=nzQ hw
 have hM0:=hM;clear hM;obtain ⟨x1,hx2,hM⟩:=ay hM0;clear hM0
 have hcx1:=cmU hx2
 refine aQ hcx1 clQ clQ (fun hw3=> ?_)
 replace hw3:=nzQ hw3
 refine spQ ?_
 refine aB (fun h4=> ?_) (fun h4=> ?_)
 ·rw [if_pos h4] at hM
  refine aa h4 ?_
  have nh4:=nzQ h4
  try have hr5:=mpQ nh4
  subst hM
  exact ar (av h4)
 ·rw [if_neg (an h4)] at hM
  refine aa h4 ?_
  have nh4:=nzQ h4
  try have hr6:=mpQ nh4
  refine aY (fun h7=> ?_) (fun h7=> ?_)
  ·rw [if_neg (an h7)] at hM
   refine aa h7 ?_
   have nh7:=nzQ h7
   try have hr8:=mpQ nh7
   refine aB (fun h9=> ?_) (fun h9=> ?_)
   ·rw [if_pos h9] at hM
    refine aa h9 ?_
    have nh9:=nzQ h9
    try have hr10:=mpQ nh9
    subst hM
    exact ar (av (And.intro h4 (And.intro h7 h9)))
   ·rw [if_neg (an h9)] at hM
    refine aa h9 ?_
    have nh9:=nzQ h9
    try have hr11:=mpQ nh9
    have hM0:=hM;clear hM;obtain ⟨f12,d12,hf12,hd12,hM⟩:=bd hM0;clear hM0
    refine bF (fun n S=> ∃p:Int×bg×(List (List Int)),S=(⟨[(1,.ptr 0 0),(2,.ptr 1 0),(4,.ptr 2 0),(32,.int .i64 p.1)],[(0,.var 4 true (.agg [.int .i64 i_.Kind,.int .i64 i_.N,.sl none 1 false (i_.B.map (V.int .u8)),.sl none 4 true (i_.L.map aw)])),(1,.var 59 true ((cc p.2.1))),(2,.var 4 true (.agg [.sl none 1 false ((gt p.2.2 0).map (V.int .i64)),.sl none 1 false ((gt p.2.2 1).map (V.int .i64)),.sl none 1 false ((gt p.2.2 2).map (V.int .i64)),.sl none 1 false ((gt p.2.2 3).map (V.int .i64))]))],3⟩:St)∧(((0≤p.1)∧(p.1≤4))∧(le4 p.2.2))∧((4:Int) - p.1).toNat<n∧ao n f12 d12 p=r) (((4:Int) - 0).toNat+1) _ sbQ (by simp only [go_sem,aE,aF,List.length_replicate,az,Int.toNat_natCast,↓reduceIte,Nat.reduceEqDiff,Nat.reduceAdd,Int.reduceAdd,Nat.reduceMul,Nat.reduceLeDiff,Nat.reduceLT,Int.reduceLE,Int.reduceLT,Int.reduceNeg,Int.reduceToNat,List.isEmpty_nil,a7,dI,dX,cq,cr,mtO,mtB,mt,mtL,aH,aG,ltV,ltL,ltB,eq_self,or_true,true_or,or_self,and_self,aZ,a6,Int.reduceSub]) ⟨(0,bO,[([]:List Int),([]:List Int),([]:List Int),([]:List Int)]),rfl,⟨⟨by (first|exact omQ|(clear hM;first|(have h9:=hF7_0 1;exact ah))),by (first|exact omQ|(clear hM;first|(have h9:=hF7_0 1;exact ah)))⟩,by (exact HL)⟩,(Nat.lt_succ_self _),hM⟩ ?_
    clear hM
    rintro n12 S ⟨p12,rfl,⟨hfa12,hF7_0⟩,hm12,hM⟩
    have hM0:=hM;clear hM;obtain ⟨ag12,hag12,hM⟩:=bf hM0 (by omega) hf12;clear hM0
    replace hfa12:=nzQ hfa12
    replace hm12:=nzQ hm12
    have ha12:aq .i64 p12.1 1=p12.1+1:=bp (by (first|exact omQ|(clear hM;first|(have h9:=hF7_0 1;exact ah)))) (by (first|exact omQ|(clear hM;first|(have h9:=hF7_0 1;exact ah))))
    refine aa ha12 ?_
    refine aB (fun h13=> ?_) (fun h13=> ?_)
    ·rw [if_pos h13] at hM
     refine aa (And.intro ha12 h13) ?_
     have nh13:=nzQ h13
     try have hr14:=mpQ nh13
     refine aN (by (first|exact omQ|(clear hM;first|(have h9:=hF7_0 1;exact ah)))) ?_
     have he15:=fun d=>aV (l:=i_.L) (f:=aw) (i:=p12.1) (by (first|exact omQ|(clear hM;first|(have h9:=hF7_0 1;exact ah)))) d
     refine aa (And.intro ha12 he15) ?_
     have hM0:=hM;clear hM;obtain ⟨x16,hx17,hM⟩:=ay hM0;clear hM0
     have hcx16:=cmU hx17
     refine aQ hcx16 (ax (And.intro ha12 he15)) (ax (And.intro ha12 he15)) (fun hw18=> ?_)
     replace hw18:=nzQ hw18
     refine aa (And.intro ha12 he15) ?_
     refine aB (fun h19=> ?_) (fun h19=> ?_)
     ·rw [if_pos h19] at hM
      refine aa (And.intro ha12 (And.intro he15 h19)) ?_
      have nh19:=nzQ h19
      try have hr20:=mpQ nh19
      subst hM
      exact ar (av (And.intro ha12 (And.intro he15 (And.intro h4 (And.intro h7 (And.intro h9 (And.intro h13 h19)))))))
     ·rw [if_neg (an h19)] at hM
      refine aa (And.intro ha12 (And.intro he15 h19)) ?_
      have nh19:=nzQ h19
      try have hr21:=mpQ nh19
      refine aN (by (first|exact omQ|(clear hM;first|(have h9:=hF7_0 1;exact ah)))) ?_
      have he22:((p12.1).toNat*1+1≤4)=True:=eq_true (by (first|exact omQ|(clear hM;first|(have h9:=hF7_0 1;exact ah))))
      refine aa (And.intro ha12 (And.intro he15 he22)) ?_
      have he23:=oh (f:=(fun (l:List Int)=>V.sl none 1 false (l.map (V.int .i64)))) (l:=(aC 4 p12.2.2)) (n:=4) (i:=p12.1) (v:=x16.1) bS (by (first|exact omQ|(clear hM;first|(have h9:=hF7_0 1;exact ah))))
      replace he23:=spR he23
      refine aa (And.intro ha12 (And.intro he15 (And.intro he22 he23))) ?_
      refine b_ (n12 - 1) _ (by omega) sbQ (by simp only [go_sem,aE,aF,List.length_replicate,az,Int.toNat_natCast,↓reduceIte,Nat.reduceEqDiff,Nat.reduceAdd,Int.reduceAdd,Nat.reduceMul,Nat.reduceLeDiff,Nat.reduceLT,Int.reduceLE,Int.reduceLT,Int.reduceNeg,Int.reduceToNat,List.isEmpty_nil,a7,dI,dX,cq,cr,mtO,mtB,mt,mtL,aH,aG,ltV,ltL,ltB,eq_self,or_true,true_or,or_self,and_self,aZ,a6,Int.reduceSub]) ⟨((p12.1+1),p12.2.1,(aC 4 (st (aC 4 p12.2.2) p12.1 (x16.1)))),rfl,⟨⟨by (first|exact omQ|(clear hM;first|(have h9:=hF7_0 1;exact ah))),by (first|exact omQ|(clear hM;first|(have h9:=hF7_0 1;exact ah)))⟩,by (exact HM hF7_0 (HK ‹_=bT _›))⟩,by (first|exact omQ|(clear hM;first|(have h9:=hF7_0 1;exact ah))),ca hM hag12⟩
    ·rw [if_neg (an h13)] at hM
     refine aa (And.intro ha12 h13) ?_
     have nh13:=nzQ h13
     try have hr24:=mpQ nh13
     refine cG 176 11 [8,9,10,51,52,53,54,55,56,57,58] [] ([[],[0],[],[2],[],[4],[],[6],[0,1],[2,3],[4,5]]++[List.range 11]) [] (by kernel_rfl) (by exact alQ) ?_
     refine aa ha12 ?_
     refine aN (by (first|exact omQ|(clear hM;first|(have h9:=hF7_0 1;exact ah)))) ?_
     have he25: ∀d,elt (i_.L.map aw) 4 d=aw (gt i_.L 4):=fun d=>aV (l:=i_.L) (f:=aw) (i:=4) (by (first|exact omQ|(clear hM;first|(have h9:=hF7_0 1;exact ah)))) d
     refine aa (And.intro ha12 he25) ?_
     have hM0:=hM;clear hM;obtain ⟨x26,hx27,hM⟩:=ay hM0;clear hM0
     have hcx26:=cmU hx27
     refine aQ hcx26 (ax (And.intro ha12 he25)) (ax (And.intro ha12 he25)) (fun hw28=> ?_)
     replace hw28:=nzQ hw28
     refine aa (And.intro ha12 he25) ?_
     refine aY (fun h29=> ?_) (fun h29=> ?_)
     ·rw [if_neg (an h29)] at hM
      refine aa (And.intro ha12 (And.intro he25 h29)) ?_
      have nh29:=nzQ h29
      try have hr30:=mpQ nh29
      refine aY (fun h31=> ?_) (fun h31=> ?_)
      ·rw [if_neg (an h31)] at hM
       refine aa (And.intro ha12 (And.intro he25 h31)) ?_
       have nh31:=nzQ h31
       try have hr32:=mpQ nh31
       refine aY (fun h33=> ?_) (fun h33=> ?_)
       ·rw [if_neg (an h33)] at hM
        refine aa (And.intro ha12 (And.intro he25 h33)) ?_
        have nh33:=nzQ h33
        try have hr34:=mpQ nh33
        refine aN (by (first|exact omQ|(clear hM;first|(have h9:=hF7_0 1;exact ah)))) ?_
        refine aa (And.intro ha12 he25) ?_
        refine aY (fun h35=> ?_) (fun h35=> ?_)
        ·rw [if_neg (an h35)] at hM
         refine aa (And.intro ha12 (And.intro he25 h35)) ?_
         have nh35:=nzQ h35
         try have hr36:=mpQ nh35
         refine aY (fun h37=> ?_) (fun h37=> ?_)
         ·rw [if_neg (an h37)] at hM
          refine aa (And.intro ha12 (And.intro he25 h37)) ?_
          have nh37:=nzQ h37
          try have hr38:=mpQ nh37
          refine aB (fun h39=> ?_) (fun h39=> ?_)
          ·rw [if_pos h39] at hM
           refine aa (And.intro ha12 (And.intro he25 h39)) ?_
           have nh39:=nzQ h39
           try have hr40:=mpQ nh39
           subst hM
           exact ar (av (And.intro ha12 (And.intro he25 (And.intro h4 (And.intro h7 (And.intro h9 (And.intro h13 (And.intro h29 (And.intro h31 (And.intro h33 (And.intro h35 (And.intro h37 h39))))))))))))
          ·rw [if_neg (an h39)] at hM
           refine aa (And.intro ha12 (And.intro he25 h39)) ?_
           have nh39:=nzQ h39
           try have hr41:=mpQ nh39
           refine cG 176 57 [14,96,97,98,99,100,101,102,103,104,105,106,107,108,109,110,111,112,113,114,115,116,117,118,119,120,121,122,123,124,125,126,127,128,129,130,131,132,133,134,135,136,137,138,139,140,141,142,143,144,145,146,147,148,149,150,151] [] ([[],[0],[0,1],[],[3],[3,4],[],[6],[6,7],[],[9],[9,10],[],[12],[12,13],[],[15],[15,16],[],[18],[18,19],[],[21],[21,22],[18,19,20,21,22,23],[],[25],[25,26],[],[28],[28,29],[],[31],[31,32],[25,26,27,28,29,30,31,32,33],[],[35],[35,36],[],[38],[38,39],[],[41],[41,42],[],[44],[44,45],[],[47],[47,48],[],[50],[50,51],[35,36,37,38,39,40,41,42,43,44,45,46,47,48,49,50,51,52],[],[0,1,2,3,4,5,6,7,8,9,10,11,12,13,14,15,16,17,18,19,20,21,22,23,24,25,26,27,28,29,30,31,32,33,34,35,36,37,38,39,40,41,42,43,44,45,46,47,48,49,50,51,52,53,54],[]]++[List.range 57]) [] (by kernel_rfl) (by exact alQ) ?_
           refine aa (And.intro ha12 he25) ?_
           refine bu (by (first|exact omQ|(clear hM;first|(have h9:=hF7_0 1;exact ah)))) ?_
           have he42: ∀d,elt ((gt p12.2.2 0).map (V.int .i64)) 0 d=(V.int .i64) (gt (gt p12.2.2 0) 0):=fun d=>aV (l:=(gt p12.2.2 0)) (f:=(V.int .i64)) (i:=0) (by (first|exact omQ|(clear hM;first|(have h9:=hF7_0 1;exact ah)))) d
           refine aa (And.intro ha12 (And.intro he25 he42)) ?_
           refine bu (by (first|exact omQ|(clear hM;first|(have h9:=hF7_0 1;exact ah)))) ?_
           have he43: ∀d,elt ((gt p12.2.2 0).map (V.int .i64)) 1 d=(V.int .i64) (gt (gt p12.2.2 0) 1):=fun d=>aV (l:=(gt p12.2.2 0)) (f:=(V.int .i64)) (i:=1) (by (first|exact omQ|(clear hM;first|(have h9:=hF7_0 1;exact ah)))) d
           refine aa (And.intro ha12 (And.intro he25 (And.intro he42 he43))) ?_
           refine bu (by (first|exact omQ|(clear hM;first|(have h9:=hF7_0 1;exact ah)))) ?_
           have he44: ∀d,elt ((gt p12.2.2 0).map (V.int .i64)) 2 d=(V.int .i64) (gt (gt p12.2.2 0) 2):=fun d=>aV (l:=(gt p12.2.2 0)) (f:=(V.int .i64)) (i:=2) (by (first|exact omQ|(clear hM;first|(have h9:=hF7_0 1;exact ah)))) d
           refine aa (And.intro ha12 (And.intro he25 (And.intro he42 (And.intro he43 he44)))) ?_
           refine bu (by (first|exact omQ|(clear hM;first|(have h9:=hF7_0 1;exact ah)))) ?_
           have he45: ∀d,elt ((gt p12.2.2 0).map (V.int .i64)) 3 d=(V.int .i64) (gt (gt p12.2.2 0) 3):=fun d=>aV (l:=(gt p12.2.2 0)) (f:=(V.int .i64)) (i:=3) (by (first|exact omQ|(clear hM;first|(have h9:=hF7_0 1;exact ah)))) d
           refine aa (And.intro ha12 (And.intro he25 (And.intro he42 (And.intro he43 (And.intro he44 he45))))) ?_
           refine bu (by (first|exact omQ|(clear hM;first|(have h9:=hF7_0 1;exact ah)))) ?_
           have he46: ∀d,elt ((gt p12.2.2 0).map (V.int .i64)) 4 d=(V.int .i64) (gt (gt p12.2.2 0) 4):=fun d=>aV (l:=(gt p12.2.2 0)) (f:=(V.int .i64)) (i:=4) (by (first|exact omQ|(clear hM;first|(have h9:=hF7_0 1;exact ah)))) d
           refine aa (And.intro ha12 (And.intro he25 (And.intro he42 (And.intro he43 (And.intro he44 (And.intro he45 he46)))))) ?_
           refine bu (by (first|exact omQ|(clear hM;first|(have h9:=hF7_0 1;exact ah)))) ?_
           have he47: ∀d,elt ((gt p12.2.2 0).map (V.int .i64)) 5 d=(V.int .i64) (gt (gt p12.2.2 0) 5):=fun d=>aV (l:=(gt p12.2.2 0)) (f:=(V.int .i64)) (i:=5) (by (first|exact omQ|(clear hM;first|(have h9:=hF7_0 1;exact ah)))) d
           refine aa (And.intro ha12 (And.intro he25 (And.intro he42 (And.intro he43 (And.intro he44 (And.intro he45 (And.intro he46 he47))))))) ?_
           refine bu (by (first|exact omQ|(clear hM;first|(have h9:=hF7_0 1;exact ah)))) ?_
           have he48: ∀d,elt ((gt p12.2.2 1).map (V.int .i64)) 0 d=(V.int .i64) (gt (gt p12.2.2 1) 0):=fun d=>aV (l:=(gt p12.2.2 1)) (f:=(V.int .i64)) (i:=0) (by (first|exact omQ|(clear hM;first|(have h9:=hF7_0 1;exact ah)))) d
           refine aa (And.intro ha12 (And.intro he25 (And.intro he42 (And.intro he43 (And.intro he44 (And.intro he45 (And.intro he46 (And.intro he47 he48)))))))) ?_
           refine bu (by (first|exact omQ|(clear hM;first|(have h9:=hF7_0 1;exact ah)))) ?_
           have he49: ∀d,elt ((gt p12.2.2 1).map (V.int .i64)) 1 d=(V.int .i64) (gt (gt p12.2.2 1) 1):=fun d=>aV (l:=(gt p12.2.2 1)) (f:=(V.int .i64)) (i:=1) (by (first|exact omQ|(clear hM;first|(have h9:=hF7_0 1;exact ah)))) d
           refine aa (And.intro ha12 (And.intro he25 (And.intro he42 (And.intro he43 (And.intro he44 (And.intro he45 (And.intro he46 (And.intro he47 (And.intro he48 he49))))))))) ?_
           refine bu (by (first|exact omQ|(clear hM;first|(have h9:=hF7_0 1;exact ah)))) ?_
           have he50: ∀d,elt ((gt p12.2.2 2).map (V.int .i64)) 0 d=(V.int .i64) (gt (gt p12.2.2 2) 0):=fun d=>aV (l:=(gt p12.2.2 2)) (f:=(V.int .i64)) (i:=0) (by (first|exact omQ|(clear hM;first|(have h9:=hF7_0 1;exact ah)))) d
           refine aa (And.intro ha12 (And.intro he25 (And.intro he42 (And.intro he43 (And.intro he44 (And.intro he45 (And.intro he46 (And.intro he47 (And.intro he48 (And.intro he49 he50)))))))))) ?_
           refine bu (by (first|exact omQ|(clear hM;first|(have h9:=hF7_0 1;exact ah)))) ?_
           have he51: ∀d,elt ((gt p12.2.2 2).map (V.int .i64)) 1 d=(V.int .i64) (gt (gt p12.2.2 2) 1):=fun d=>aV (l:=(gt p12.2.2 2)) (f:=(V.int .i64)) (i:=1) (by (first|exact omQ|(clear hM;first|(have h9:=hF7_0 1;exact ah)))) d
           refine aa (And.intro ha12 (And.intro he25 (And.intro he42 (And.intro he43 (And.intro he44 (And.intro he45 (And.intro he46 (And.intro he47 (And.intro he48 (And.intro he49 (And.intro he50 he51))))))))))) ?_
           refine bu (by (first|exact omQ|(clear hM;first|(have h9:=hF7_0 1;exact ah)))) ?_
           have he52: ∀d,elt ((gt p12.2.2 2).map (V.int .i64)) 2 d=(V.int .i64) (gt (gt p12.2.2 2) 2):=fun d=>aV (l:=(gt p12.2.2 2)) (f:=(V.int .i64)) (i:=2) (by (first|exact omQ|(clear hM;first|(have h9:=hF7_0 1;exact ah)))) d
           refine aa (And.intro ha12 (And.intro he25 (And.intro he42 (And.intro he43 (And.intro he44 (And.intro he45 (And.intro he46 (And.intro he47 (And.intro he48 (And.intro he49 (And.intro he50 (And.intro he51 he52)))))))))))) ?_
           refine bu (by (first|exact omQ|(clear hM;first|(have h9:=hF7_0 1;exact ah)))) ?_
           have he53: ∀d,elt ((gt p12.2.2 3).map (V.int .i64)) 0 d=(V.int .i64) (gt (gt p12.2.2 3) 0):=fun d=>aV (l:=(gt p12.2.2 3)) (f:=(V.int .i64)) (i:=0) (by (first|exact omQ|(clear hM;first|(have h9:=hF7_0 1;exact ah)))) d
           refine aa (And.intro ha12 (And.intro he25 (And.intro he42 (And.intro he43 (And.intro he44 (And.intro he45 (And.intro he46 (And.intro he47 (And.intro he48 (And.intro he49 (And.intro he50 (And.intro he51 (And.intro he52 he53))))))))))))) ?_
           refine bu (by (first|exact omQ|(clear hM;first|(have h9:=hF7_0 1;exact ah)))) ?_
           have he54: ∀d,elt ((gt p12.2.2 3).map (V.int .i64)) 1 d=(V.int .i64) (gt (gt p12.2.2 3) 1):=fun d=>aV (l:=(gt p12.2.2 3)) (f:=(V.int .i64)) (i:=1) (by (first|exact omQ|(clear hM;first|(have h9:=hF7_0 1;exact ah)))) d
           refine aa (And.intro ha12 (And.intro he25 (And.intro he42 (And.intro he43 (And.intro he44 (And.intro he45 (And.intro he46 (And.intro he47 (And.intro he48 (And.intro he49 (And.intro he50 (And.intro he51 (And.intro he52 (And.intro he53 he54)))))))))))))) ?_
           refine bu (by (first|exact omQ|(clear hM;first|(have h9:=hF7_0 1;exact ah)))) ?_
           have he55: ∀d,elt ((gt p12.2.2 3).map (V.int .i64)) 2 d=(V.int .i64) (gt (gt p12.2.2 3) 2):=fun d=>aV (l:=(gt p12.2.2 3)) (f:=(V.int .i64)) (i:=2) (by (first|exact omQ|(clear hM;first|(have h9:=hF7_0 1;exact ah)))) d
           refine aa (And.intro ha12 (And.intro he25 (And.intro he42 (And.intro he43 (And.intro he44 (And.intro he45 (And.intro he46 (And.intro he47 (And.intro he48 (And.intro he49 (And.intro he50 (And.intro he51 (And.intro he52 (And.intro he53 (And.intro he54 he55))))))))))))))) ?_
           refine bu (by (first|exact omQ|(clear hM;first|(have h9:=hF7_0 1;exact ah)))) ?_
           have he56: ∀d,elt ((gt p12.2.2 3).map (V.int .i64)) 3 d=(V.int .i64) (gt (gt p12.2.2 3) 3):=fun d=>aV (l:=(gt p12.2.2 3)) (f:=(V.int .i64)) (i:=3) (by (first|exact omQ|(clear hM;first|(have h9:=hF7_0 1;exact ah)))) d
           refine aa (And.intro ha12 (And.intro he25 (And.intro he42 (And.intro he43 (And.intro he44 (And.intro he45 (And.intro he46 (And.intro he47 (And.intro he48 (And.intro he49 (And.intro he50 (And.intro he51 (And.intro he52 (And.intro he53 (And.intro he54 (And.intro he55 he56)))))))))))))))) ?_
           refine bu (by (first|exact omQ|(clear hM;first|(have h9:=hF7_0 1;exact ah)))) ?_
           have he57: ∀d,elt ((gt p12.2.2 3).map (V.int .i64)) 4 d=(V.int .i64) (gt (gt p12.2.2 3) 4):=fun d=>aV (l:=(gt p12.2.2 3)) (f:=(V.int .i64)) (i:=4) (by (first|exact omQ|(clear hM;first|(have h9:=hF7_0 1;exact ah)))) d
           refine aa (And.intro ha12 (And.intro he25 (And.intro he42 (And.intro he43 (And.intro he44 (And.intro he45 (And.intro he46 (And.intro he47 (And.intro he48 (And.intro he49 (And.intro he50 (And.intro he51 (And.intro he52 (And.intro he53 (And.intro he54 (And.intro he55 (And.intro he56 he57))))))))))))))))) ?_
           refine bu (by (first|exact omQ|(clear hM;first|(have h9:=hF7_0 1;exact ah)))) ?_
           have he58: ∀d,elt ((gt p12.2.2 3).map (V.int .i64)) 5 d=(V.int .i64) (gt (gt p12.2.2 3) 5):=fun d=>aV (l:=(gt p12.2.2 3)) (f:=(V.int .i64)) (i:=5) (by (first|exact omQ|(clear hM;first|(have h9:=hF7_0 1;exact ah)))) d
           refine aa (And.intro ha12 (And.intro he25 (And.intro he42 (And.intro he43 (And.intro he44 (And.intro he45 (And.intro he46 (And.intro he47 (And.intro he48 (And.intro he49 (And.intro he50 (And.intro he51 (And.intro he52 (And.intro he53 (And.intro he54 (And.intro he55 (And.intro he56 (And.intro he57 he58)))))))))))))))))) ?_
           have hM0:=hM;clear hM;obtain ⟨f59,d59,hf59,hd59,hM⟩:=bd hM0;clear hM0
           refine dW (fun n S=> ∃p:Int×List (List Int),S=(⟨[(2,.ptr 1 0),(9,.sl none 1 false ((gt p12.2.2 1).map (V.int .i64))),(14,.ptr 71 0),(15,.int .i64 p.1)],[(1,.var 59 true ((cc p12.2.1))),(71,.var 59 true (.agg (.int .i64 (gt (gt p12.2.2 0) 0):: .int .i64 (gt (gt p12.2.2 0) 1):: .int .i64 (gt (gt p12.2.2 0) 2):: .int .i64 (gt (gt p12.2.2 0) 3):: .int .i64 (gt (gt p12.2.2 0) 4):: .int .i64 (gt (gt p12.2.2 0) 5):: .int .i64 (gt (gt p12.2.2 1) 0):: .int .i64 (gt (gt p12.2.2 1) 1):: .own 72:: .int .i64 (gt (gt p12.2.2 2) 0):: .int .i64 (gt (gt p12.2.2 2) 1):: .int .i64 (gt (gt p12.2.2 2) 2):: .int .i64 (gt (gt p12.2.2 3) 0):: .int .i64 (gt (gt p12.2.2 3) 1):: .int .i64 (gt (gt p12.2.2 3) 2):: .int .i64 (gt (gt p12.2.2 3) 3):: .int .i64 (gt (gt p12.2.2 3) 4):: .int .i64 (gt (gt p12.2.2 3) 5):: .int .i64 x26.1.Bank:: .int .i64 x26.1.Epoch:: .int .i64 x26.1.Denom:: .int .i64 x26.1.Depth:: .int .i64 x26.1.A:: .int .u8 (gt x26.1.Root 0):: .int .u8 (gt x26.1.Root 1):: .int .u8 (gt x26.1.Root 2):: .int .u8 (gt x26.1.Root 3):: .int .u8 (gt x26.1.Root 4):: .int .u8 (gt x26.1.Root 5):: .int .u8 (gt x26.1.Root 6):: .int .u8 (gt x26.1.Root 7):: .int .u8 (gt x26.1.Root 8):: .int .u8 (gt x26.1.Root 9):: .int .u8 (gt x26.1.Root 10):: .int .u8 (gt x26.1.Root 11):: .int .u8 (gt x26.1.Root 12):: .int .u8 (gt x26.1.Root 13):: .int .u8 (gt x26.1.Root 14):: .int .u8 (gt x26.1.Root 15):: .int .u8 (gt x26.1.Root 16):: .int .u8 (gt x26.1.Root 17):: .int .u8 (gt x26.1.Root 18):: .int .u8 (gt x26.1.Root 19):: .int .u8 (gt x26.1.Root 20):: .int .u8 (gt x26.1.Root 21):: .int .u8 (gt x26.1.Root 22):: .int .u8 (gt x26.1.Root 23):: .int .u8 (gt x26.1.Root 24):: .int .u8 (gt x26.1.Root 25):: .int .u8 (gt x26.1.Root 26):: .int .u8 (gt x26.1.Root 27):: .int .u8 (gt x26.1.Root 28):: .int .u8 (gt x26.1.Root 29):: .int .u8 (gt x26.1.Root 30):: .int .u8 (gt x26.1.Root 31):: .int .i64 x26.1.Sign.Z:: .int .i64 x26.1.Sign.A:: .int .i64 x26.1.Sign.B:: .int .i64 x26.1.Sign.R::[]))),(72,.own 163 2 true none (p.2.map (fun l=> .agg [.int .i64 (gt l 0),.int .i64 (gt l 1)])))],73⟩:St)∧((2≤p.1)∧(p.1≤((gt p12.2.2 1).length:Int)∨p.1≤2)∧(p.1% 2=0)∧(((p.2).length:Int)≤p.1))∧(((gt p12.2.2 1).length:Int) - p.1).toNat<n∧ao n f59 d59 p=r) ((((gt p12.2.2 1).length:Int) - 2).toNat+1) _ _ (iw 71 8 163 rfl rfl (by decide)) sbQ sbQ ⟨(2,([]:List (List Int))),rfl,⟨by (first|exact omQ|(clear hM;first|(have h9:=hF7_0 1;exact ah))),by (first|exact omQ|(clear hM;first|(have h9:=hF7_0 1;exact ah))),by (first|exact omQ|(clear hM;first|(have h9:=hF7_0 1;exact ah))),by (first|exact omQ|(clear hM;first|(have h9:=hF7_0 1;exact ah)))⟩,(Nat.lt_succ_self _),hM⟩ ?_
           clear hM
           rintro n59 S ⟨p59,rfl,hfa59,hm59,hM⟩
           have hM0:=hM;clear hM;obtain ⟨ag59,hag59,hM⟩:=bf hM0 (by omega) hf59;clear hM0
           replace hfa59:=nzQ hfa59
           replace hm59:=nzQ hm59
           have ha59:aq .i64 p59.1 1=p59.1+1:=bp (by (first|exact omQ|(clear hM;first|(have h9:=hF7_0 1;exact ah)))) (by (first|exact omQ|(clear hM;first|(have h9:=hF7_0 1;exact ah))))
           refine aa (And.intro ha12 (And.intro he25 (And.intro he42 (And.intro he43 (And.intro he44 (And.intro he45 (And.intro he46 (And.intro he47 (And.intro he48 (And.intro he49 (And.intro he50 (And.intro he51 (And.intro he52 (And.intro he53 (And.intro he54 (And.intro he55 (And.intro he56 (And.intro he57 (And.intro he58 ha59))))))))))))))))))) ?_
           refine aB (fun h60=> ?_) (fun h60=> ?_)
           ·rw [if_pos h60] at hM
            refine aa (And.intro ha12 (And.intro he25 (And.intro he42 (And.intro he43 (And.intro he44 (And.intro he45 (And.intro he46 (And.intro he47 (And.intro he48 (And.intro he49 (And.intro he50 (And.intro he51 (And.intro he52 (And.intro he53 (And.intro he54 (And.intro he55 (And.intro he56 (And.intro he57 (And.intro he58 (And.intro ha59 h60)))))))))))))))))))) ?_
            have nh60:=nzQ h60
            try have hr61:=mpQ nh60
            refine cG 176 14 [158,159,160,161,162,163,164,165,166,167,168,169,170,171] [] ([[],[0],[0,1],[],[],[3,4],[3,4,5],[],[],[8],[7,8,9],[7,8,9,10],[3,4,5,6,7,8,9,10,11],[3,4,5,6,7,8,9,10,11,12]]++[List.range 14,List.range 15,List.range 16,List.range 17]) [] (by kernel_rfl) (by exact alQ) ?_
            refine aa (And.intro ha12 (And.intro he25 (And.intro he42 (And.intro he43 (And.intro he44 (And.intro he45 (And.intro he46 (And.intro he47 (And.intro he48 (And.intro he49 (And.intro he50 (And.intro he51 (And.intro he52 (And.intro he53 (And.intro he54 (And.intro he55 (And.intro he56 (And.intro he57 (And.intro he58 ha59))))))))))))))))))) ?_
            refine bu (by (first|exact omQ|(clear hM;first|(have h9:=hF7_0 1;exact ah)))) ?_
            have he62:=fun d=>aV (l:=(gt p12.2.2 1)) (f:=(V.int .i64)) (i:=p59.1) (by (first|exact omQ|(clear hM;first|(have h9:=hF7_0 1;exact ah)))) d
            refine aa (And.intro ha12 (And.intro he25 (And.intro he42 (And.intro he43 (And.intro he44 (And.intro he45 (And.intro he46 (And.intro he47 (And.intro he48 (And.intro he49 (And.intro he50 (And.intro he51 (And.intro he52 (And.intro he53 (And.intro he54 (And.intro he55 (And.intro he56 (And.intro he57 (And.intro he58 (And.intro ha59 he62)))))))))))))))))))) ?_
            refine bu (by (first|exact omQ|(clear hM;first|(have h9:=hF7_0 1;exact ah)))) ?_
            have he63:=fun d=>aV (l:=(gt p12.2.2 1)) (f:=(V.int .i64)) (i:=(p59.1+1)) (by (first|exact omQ|(clear hM;first|(have h9:=hF7_0 1;exact ah)))) d
            refine aa (And.intro ha12 (And.intro he25 (And.intro he42 (And.intro he43 (And.intro he44 (And.intro he45 (And.intro he46 (And.intro he47 (And.intro he48 (And.intro he49 (And.intro he50 (And.intro he51 (And.intro he52 (And.intro he53 (And.intro he54 (And.intro he55 (And.intro he56 (And.intro he57 (And.intro he58 (And.intro ha59 (And.intro he62 he63))))))))))))))))))))) ?_
            refine aN (by (first|exact omQ|(clear hM;first|(have h9:=hF7_0 1;exact ah)))) ?_
            refine aa (And.intro ha12 (And.intro he25 (And.intro he42 (And.intro he43 (And.intro he44 (And.intro he45 (And.intro he46 (And.intro he47 (And.intro he48 (And.intro he49 (And.intro he50 (And.intro he51 (And.intro he52 (And.intro he53 (And.intro he54 (And.intro he55 (And.intro he56 (And.intro he57 (And.intro he58 (And.intro ha59 (And.intro he62 he63))))))))))))))))))))) ?_
            have ha64:aq .i64 p59.1 2=(p59.1+2):=gk (by (first|exact omQ|(clear hM;first|(have h9:=hF7_0 1;exact ah)))) (by (first|exact omQ|(clear hM;first|(have h9:=hF7_0 1;exact ah))))
            try simp only [ha64]
            refine b_ (n59 - 1) _ (by omega) sbQ (by simp only [go_sem,aE,aF,List.length_replicate,az,Int.toNat_natCast,↓reduceIte,Nat.reduceEqDiff,Nat.reduceAdd,Int.reduceAdd,Nat.reduceMul,Nat.reduceLeDiff,Nat.reduceLT,Int.reduceLE,Int.reduceLT,Int.reduceNeg,Int.reduceToNat,List.isEmpty_nil,a7,dI,dX,cq,cr,mtO,mtB,mt,mtL,aH,aG,ltV,ltL,ltB,eq_self,or_true,true_or,or_self,and_self,aZ,a6,Int.reduceSub]) ⟨((p59.1+2),(p59.2++([[(gt (gt p12.2.2 1) p59.1),(gt (gt p12.2.2 1) (p59.1+1))]]:List (List Int)))),rfl,⟨by (first|exact omQ|(clear hM;first|(have h9:=hF7_0 1;exact ah))),by (first|exact omQ|(clear hM;first|(have h9:=hF7_0 1;exact ah))),by (first|exact omQ|(clear hM;first|(have h9:=hF7_0 1;exact ah))),by (first|exact omQ|(clear hM;first|(have h9:=hF7_0 1;exact ah)))⟩,by (first|exact omQ|(clear hM;first|(have h9:=hF7_0 1;exact ah))),ca hM hag59⟩
           ·rw [if_neg (an h60)] at hM
            refine aa (And.intro ha12 (And.intro he25 (And.intro he42 (And.intro he43 (And.intro he44 (And.intro he45 (And.intro he46 (And.intro he47 (And.intro he48 (And.intro he49 (And.intro he50 (And.intro he51 (And.intro he52 (And.intro he53 (And.intro he54 (And.intro he55 (And.intro he56 (And.intro he57 (And.intro he58 (And.intro ha59 h60)))))))))))))))))))) ?_
            have nh60:=nzQ h60
            try have hr65:=mpQ nh60
            subst hM
            exact ar (av (And.intro ha12 (And.intro he25 (And.intro he42 (And.intro he43 (And.intro he44 (And.intro he45 (And.intro he46 (And.intro he47 (And.intro he48 (And.intro he49 (And.intro he50 (And.intro he51 (And.intro he52 (And.intro he53 (And.intro he54 (And.intro he55 (And.intro he56 (And.intro he57 (And.intro he58 (And.intro ha59 (And.intro h4 (And.intro h7 (And.intro h9 (And.intro h13 (And.intro h29 (And.intro h31 (And.intro h33 (And.intro h35 (And.intro h37 (And.intro h39 h60)))))))))))))))))))))))))))))))
         ·rw [if_pos h37] at hM
          refine aa (And.intro ha12 (And.intro he25 h37)) ?_
          have nh37:=nzQ h37
          try have hr66:=mpQ nh37
          subst hM
          exact ar (av (And.intro ha12 (And.intro he25 (And.intro h4 (And.intro h7 (And.intro h9 (And.intro h13 (And.intro h29 (And.intro h31 (And.intro h33 (And.intro h35 h37)))))))))))
        ·rw [if_pos h35] at hM
         refine aa (And.intro ha12 (And.intro he25 h35)) ?_
         have nh35:=nzQ h35
         try have hr67:=mpQ nh35
         subst hM
         exact ar (av (And.intro ha12 (And.intro he25 (And.intro h4 (And.intro h7 (And.intro h9 (And.intro h13 (And.intro h29 (And.intro h31 (And.intro h33 h35))))))))))
       ·rw [if_pos h33] at hM
        refine aa (And.intro ha12 (And.intro he25 h33)) ?_
        have nh33:=nzQ h33
        try have hr68:=mpQ nh33
        subst hM
        exact ar (av (And.intro ha12 (And.intro he25 (And.intro h4 (And.intro h7 (And.intro h9 (And.intro h13 (And.intro h29 (And.intro h31 h33)))))))))
      ·rw [if_pos h31] at hM
       refine aa (And.intro ha12 (And.intro he25 h31)) ?_
       have nh31:=nzQ h31
       try have hr69:=mpQ nh31
       subst hM
       exact ar (av (And.intro ha12 (And.intro he25 (And.intro h4 (And.intro h7 (And.intro h9 (And.intro h13 (And.intro h29 h31))))))))
     ·rw [if_pos h29] at hM
      refine aa (And.intro ha12 (And.intro he25 h29)) ?_
      have nh29:=nzQ h29
      try have hr70:=mpQ nh29
      subst hM
      exact ar (av (And.intro ha12 (And.intro he25 (And.intro h4 (And.intro h7 (And.intro h9 (And.intro h13 h29)))))))
  ·rw [if_pos h7] at hM
   refine aa h7 ?_
   have nh7:=nzQ h7
   try have hr71:=mpQ nh7
   subst hM
   exact ar (av (And.intro h4 h7))
set_option maxHeartbeats 2000000 in
set_option maxRecDepth 100000 in
instance Nw (i_:ab):CM En (ld i_) 55 [.agg [.int .i64 i_.Kind,.int .i64 i_.N,.sl none 1 false (i_.B.map (V.int .u8)),.sl none 4 true (i_.L.map aw)]] (fun y=> .tup [(mu y.1),.bool y.2]) (fun _=> []):=by
 refine cmQ fun r hM=> ?_
 rw [ld.eq_1] at hM
 refine aO aA aK noJ Tryz.func55 rfl Tryz.ntmps55 (by kernel_rfl) fun hw=>aL ?_
 refine spQ ?_
 replace hw:=nzQ hw
 have hM0:=hM;clear hM;obtain ⟨x1,hx2,hM⟩:=ay hM0;clear hM0
 have hcx1:=cmU hx2
 refine aQ hcx1 clQ clQ (fun hw3=> ?_)
 replace hw3:=nzQ hw3
 refine spQ ?_
 have hq4:=nzQ (cfU hx2)
 refine aY (fun h5=> ?_) (fun h5=> ?_)
 ·rw [if_neg (an h5)] at hM
  refine aa h5 ?_
  have nh5:=nzQ h5
  try have hr6:=mpQ nh5
  refine aN omQ ?_
  have he7: ∀d,elt (i_.L.map aw) 0 d=aw (gt i_.L 0):=fun d=>aV (l:=i_.L) (f:=aw) (i:=0) omQ d
  refine aa he7 ?_
  refine aY (fun h8=> ?_) (fun h8=> ?_)
  ·rw [if_neg (an h8)] at hM
   refine aa (And.intro he7 h8) ?_
   have nh8:=nzQ h8
   try have hr9:=mpQ nh8
   refine aN omQ ?_
   refine aa he7 ?_
   refine aY (fun h10=> ?_) (fun h10=> ?_)
   ·rw [if_neg (an h10)] at hM
    refine aa (And.intro he7 h10) ?_
    have nh10:=nzQ h10
    try have hr11:=mpQ nh10
    refine aN omQ ?_
    have he12: ∀d,elt (i_.L.map aw) 1 d=aw (gt i_.L 1):=fun d=>aV (l:=i_.L) (f:=aw) (i:=1) omQ d
    refine aa (And.intro he7 he12) ?_
    refine aB (fun h13=> ?_) (fun h13=> ?_)
    ·rw [if_pos h13] at hM
     refine aa (And.intro he7 (And.intro he12 h13)) ?_
     have nh13:=nzQ h13
     try have hr14:=mpQ nh13
     subst hM
     exact ar (av (And.intro he7 (And.intro he12 (And.intro h5 (And.intro h8 (And.intro h10 h13))))))
    ·rw [if_neg (an h13)] at hM
     refine aa (And.intro he7 (And.intro he12 h13)) ?_
     have nh13:=nzQ h13
     try have hr15:=mpQ nh13
     refine cG 46 12 [33,34,35,36,37,38,39,40,41,42,43,44] [] ([[],[0],[0,1],[0,1,2],[0,1,2,3],[0,1,2,3,4],[0,1,2,3,4,5],[],[7],[7,8],[7,8,9],[7,8,9,10]]++[List.range 12,List.range 13,List.range 14]) [] (by kernel_rfl) (by exact alQ) ?_
     refine aa (And.intro he7 he12) ?_
     refine bu omQ ?_
     refine aa (And.intro he7 he12) ?_
     refine bu omQ ?_
     have he16:=qF (l:=(gt i_.L 0).B) (f:=(V.int .u8)) (k:=32) omQ
     refine aa (And.intro he7 (And.intro he12 he16)) ?_
     have hF:=(And.intro h5 (And.intro he7 (And.intro h8 (And.intro h10 (And.intro he12 (And.intro h13 he16))))))
     exact auQ
   ·rw [if_pos h10] at hM
    refine aa (And.intro he7 h10) ?_
    have nh10:=nzQ h10
    try have hr17:=mpQ nh10
    subst hM
    exact ar (av (And.intro he7 (And.intro h5 (And.intro h8 h10))))
  ·rw [if_pos h8] at hM
   refine aa (And.intro he7 h8) ?_
   have nh8:=nzQ h8
   try have hr18:=mpQ nh8
   subst hM
   exact ar (av (And.intro he7 (And.intro h5 h8)))
 ·rw [if_pos h5] at hM
  refine aa h5 ?_
  have nh5:=nzQ h5
  try have hr19:=mpQ nh5
  subst hM
  exact ar (av h5)
set_option maxHeartbeats 2000000 in
set_option maxRecDepth 100000 in
instance Nx (x_:(List Int)):CM En (lf x_) 19 [.sl none 1 false (x_.map (V.int .u8))] (fun y=> .tup [(bw y.1),.int .i64 y.2]) (fun _=> []):=by
 refine cmQ fun r hM=> ?_
 rw [lf.eq_1] at hM
 refine aO aA aK noJ Tryz.func19 rfl Tryz.ntmps19 (by kernel_rfl) fun hw=>aL ?_
 refine spQ ?_
 replace hw:=nzQ hw
 have hM0:=hM;clear hM;obtain ⟨x1,hx2,hM⟩:=ay hM0;clear hM0
 have hcx1:=cmU hx2
 refine aQ hcx1 clQ clQ (fun hw3=> ?_)
 replace hw3:=nzQ hw3
 refine spQ ?_
 have hq4:=vh hw3.1.2.2.2.2 1
 replace hq4:=nzQ hq4
 have hq5:=vh hw3.1.2.2.2.2 2
 replace hq5:=nzQ hq5
 refine aY (fun h6=> ?_) (fun h6=> ?_)
 ·rw [if_neg (an h6)] at hM
  refine aa h6 ?_
  have nh6:=nzQ h6
  try have hr7:=mpQ nh6
  have hM0:=hM;clear hM;obtain ⟨x8,hx9,hM⟩:=ay hM0;clear hM0
  have hcx8:=cmU hx9
  refine aQ hcx8 clQ clQ (fun hw10=> ?_)
  replace hw10:=nzQ hw10
  refine spQ ?_
  have hq11:=nzQ (cfU hx9)
  refine aY (fun h12=> ?_) (fun h12=> ?_)
  ·rw [if_neg (an h12)] at hM
   refine aa h12 ?_
   have nh12:=nzQ h12
   try have hr13:=mpQ nh12
   refine aN omQ ?_
   have he14: ∀d,elt (x1.1.L.map aw) 0 d=aw (gt x1.1.L 0):=fun d=>aV (l:=x1.1.L) (f:=aw) (i:=0) omQ d
   refine aa he14 ?_
   have hM0:=hM;clear hM;obtain ⟨x15,hx16,hM⟩:=ay hM0;clear hM0
   have hcx15:=cmU hx16
   refine aQ hcx15 (ax he14) (ax he14) (fun hw17=> ?_)
   replace hw17:=nzQ hw17
   refine aa he14 ?_
   have hq18:=nzQ (cfU hx16)
   refine aY (fun h19=> ?_) (fun h19=> ?_)
   ·rw [if_neg (an h19)] at hM
    refine aa (And.intro he14 h19) ?_
    have nh19:=nzQ h19
    try have hr20:=mpQ nh19
    refine aN omQ ?_
    have he21: ∀d,elt (x1.1.L.map aw) 1 d=aw (gt x1.1.L 1):=fun d=>aV (l:=x1.1.L) (f:=aw) (i:=1) omQ d
    refine aa (And.intro he14 he21) ?_
    refine aY (fun h22=> ?_) (fun h22=> ?_)
    ·rw [if_neg (an h22)] at hM
     refine aa (And.intro he14 (And.intro he21 h22)) ?_
     have nh22:=nzQ h22
     try have hr23:=mpQ nh22
     refine aN omQ ?_
     have he24: ∀d,elt (x1.1.L.map aw) 2 d=aw (gt x1.1.L 2):=fun d=>aV (l:=x1.1.L) (f:=aw) (i:=2) omQ d
     refine aa (And.intro he14 (And.intro he21 he24)) ?_
     refine aB (fun h25=> ?_) (fun h25=> ?_)
     ·rw [if_pos h25] at hM
      refine aa (And.intro he14 (And.intro he21 (And.intro he24 h25))) ?_
      have nh25:=nzQ h25
      try have hr26:=mpQ nh25
      subst hM
      exact ar (av (And.intro he14 (And.intro he21 (And.intro he24 (And.intro h6 (And.intro h12 (And.intro h19 (And.intro h22 h25))))))))
     ·rw [if_neg (an h25)] at hM
      refine aa (And.intro he14 (And.intro he21 (And.intro he24 h25))) ?_
      have nh25:=nzQ h25
      try have hr27:=mpQ nh25
      refine aN omQ ?_
      refine aa (And.intro he14 (And.intro he21 he24)) ?_
      have hM0:=hM;clear hM;obtain ⟨x28,hx29,hM⟩:=ay hM0;clear hM0
      have hcx28:=cmU hx29
      refine aQ hcx28 (ax (And.intro he14 (And.intro he21 he24))) (ax (And.intro he14 (And.intro he21 he24))) (fun hw30=> ?_)
      replace hw30:=nzQ hw30
      refine aa (And.intro he14 (And.intro he21 he24)) ?_
      have hq31:=Hx hx29
      replace hq31:=nzQ hq31
      refine aB (fun h32=> ?_) (fun h32=> ?_)
      ·rw [if_pos h32] at hM
       refine aa (And.intro he14 (And.intro he21 (And.intro he24 h32))) ?_
       have nh32:=nzQ h32
       try have hr33:=mpQ nh32
       subst hM
       exact ar (av (And.intro he14 (And.intro he21 (And.intro he24 (And.intro h6 (And.intro h12 (And.intro h19 (And.intro h22 (And.intro h25 h32)))))))))
      ·rw [if_neg (an h32)] at hM
       refine aa (And.intro he14 (And.intro he21 (And.intro he24 h32))) ?_
       have nh32:=nzQ h32
       try have hr34:=mpQ nh32
       refine cG 143 14 [7,66,67,68,69,70,71,72,73,74,75,76,77,78] [] ([[],[0],[0,1],[],[3],[3,4],[],[6],[6,7],[],[9],[9,10],[0,1,2,3,4,5,6,7,8,9,10,11],[]]++[List.range 14]) [] (by kernel_rfl) (by exact alQ) ?_
       refine aa (And.intro he14 (And.intro he21 he24)) ?_
       refine bu omQ ?_
       have he35: ∀d,elt (x28.1.map (V.int .i64)) 0 d=(V.int .i64) (gt x28.1 0):=fun d=>aV (l:=x28.1) (f:=(V.int .i64)) (i:=0) omQ d
       refine aa (And.intro he14 (And.intro he21 (And.intro he24 he35))) ?_
       refine bu omQ ?_
       have he36: ∀d,elt (x28.1.map (V.int .i64)) 1 d=(V.int .i64) (gt x28.1 1):=fun d=>aV (l:=x28.1) (f:=(V.int .i64)) (i:=1) omQ d
       refine aa (And.intro he14 (And.intro he21 (And.intro he24 (And.intro he35 he36)))) ?_
       refine bu omQ ?_
       have he37: ∀d,elt (x28.1.map (V.int .i64)) 2 d=(V.int .i64) (gt x28.1 2):=fun d=>aV (l:=x28.1) (f:=(V.int .i64)) (i:=2) omQ d
       refine aa (And.intro he14 (And.intro he21 (And.intro he24 (And.intro he35 (And.intro he36 he37))))) ?_
       refine bu omQ ?_
       have he38: ∀d,elt (x28.1.map (V.int .i64)) 3 d=(V.int .i64) (gt x28.1 3):=fun d=>aV (l:=x28.1) (f:=(V.int .i64)) (i:=3) omQ d
       refine aa (And.intro he14 (And.intro he21 (And.intro he24 (And.intro he35 (And.intro he36 (And.intro he37 he38)))))) ?_
       refine aN omQ ?_
       refine aa (And.intro he14 (And.intro he21 (And.intro he24 (And.intro he35 (And.intro he36 (And.intro he37 he38)))))) ?_
       have hM0:=hM;clear hM;obtain ⟨f39,d39,hf39,hd39,hM⟩:=bd hM0;clear hM0
       refine dW (fun n S=> ∃p:Int×aP×List aX,S=(⟨[(2,.ptr 0 0),(4,.ptr 1 0),(7,.ptr 15 0),(83,.sl none 4 true ((gt x1.1.L 1).L.map aw)),(84,.int .i64 ((gt x1.1.L 1).L.length:Int)),(85,.int .i64 p.1)],[(0,.var 39 true ((bw p.2.1))),(1,.var 4 true (.agg [.int .i64 x1.1.Kind,.int .i64 x1.1.N,.sl none 1 false (x1.1.B.map (V.int .u8)),.sl none 4 true (x1.1.L.map aw)])),(15,.var 39 true (.agg (.int .i64 (gt x28.1 0):: .int .i64 (gt x28.1 1):: .int .i64 (gt x28.1 2):: .int .i64 (gt x28.1 3):: .own 16:: .sl (some true) 59 true []:: .int .u8 0:: .int .u8 0:: .int .u8 0:: .int .u8 0:: .int .u8 0:: .int .u8 0:: .int .u8 0:: .int .u8 0:: .int .u8 0:: .int .u8 0:: .int .u8 0:: .int .u8 0:: .int .u8 0:: .int .u8 0:: .int .u8 0:: .int .u8 0:: .int .u8 0:: .int .u8 0:: .int .u8 0:: .int .u8 0:: .int .u8 0:: .int .u8 0:: .int .u8 0:: .int .u8 0:: .int .u8 0:: .int .u8 0:: .int .u8 0:: .int .u8 0:: .int .u8 0:: .int .u8 0:: .int .u8 0:: .int .u8 0:: .int .i64 0::[]))),(16,.own 86 46 true none (p.2.2.map bL))],17⟩:St)∧((0≤p.1)∧(p.1≤((gt x1.1.L 1).L.length:Int))∧(((p.2.2).length:Int)≤p.1))∧(((gt x1.1.L 1).L.length:Int) - p.1).toNat<n∧ao n f39 d39 p=r) ((((gt x1.1.L 1).L.length:Int) - 0).toNat+1) _ _ (iw 15 4 86 rfl rfl (by decide)) sbQ (by simp only [go_sem,aE,aF,List.length_replicate,az,Int.toNat_natCast,↓reduceIte,Nat.reduceEqDiff,Nat.reduceAdd,Int.reduceAdd,Nat.reduceMul,Nat.reduceLeDiff,Nat.reduceLT,Int.reduceLE,Int.reduceLT,Int.reduceNeg,Int.reduceToNat,List.isEmpty_nil,a7,dI,dX,cq,cr,mtO,mtB,mt,mtL,aH,aG,ltV,ltL,ltB,eq_self,or_true,true_or,or_self,and_self,aZ,a6,Int.reduceSub]) ⟨(0,bW,([]:List aX)),rfl,⟨omQ,omQ,omQ⟩,(Nat.lt_succ_self _),hM⟩ ?_
       clear hM
       rintro n39 S ⟨p39,rfl,hfa39,hm39,hM⟩
       have hM0:=hM;clear hM;obtain ⟨ag39,hag39,hM⟩:=bf hM0 (by omega) hf39;clear hM0
       replace hfa39:=nzQ hfa39
       replace hm39:=nzQ hm39
       have ha39:aq .i64 p39.1 1=p39.1+1:=bp omQ omQ
       refine aa (And.intro he14 (And.intro he21 (And.intro he24 (And.intro he35 (And.intro he36 (And.intro he37 (And.intro he38 ha39))))))) ?_
       refine aB (fun h40=> ?_) (fun h40=> ?_)
       ·rw [if_pos h40] at hM
        refine aa (And.intro he14 (And.intro he21 (And.intro he24 (And.intro he35 (And.intro he36 (And.intro he37 (And.intro he38 (And.intro ha39 h40)))))))) ?_
        have nh40:=nzQ h40
        try have hr41:=mpQ nh40
        have hF:=(And.intro h6 (And.intro h12 (And.intro he14 (And.intro h19 (And.intro he21 (And.intro h22 (And.intro he24 (And.intro h25 (And.intro h32 (And.intro he35 (And.intro he36 (And.intro he37 (And.intro he38 (And.intro ha39 h40))))))))))))))
        exact auQ
       ·rw [if_neg (an h40)] at hM
        refine aa (And.intro he14 (And.intro he21 (And.intro he24 (And.intro he35 (And.intro he36 (And.intro he37 (And.intro he38 (And.intro ha39 h40)))))))) ?_
        have nh40:=nzQ h40
        try have hr49:=mpQ nh40
        refine aN omQ ?_
        refine aa (And.intro he14 (And.intro he21 (And.intro he24 (And.intro he35 (And.intro he36 (And.intro he37 (And.intro he38 ha39))))))) ?_
        have hM0:=hM;clear hM;obtain ⟨f50,d50,hf50,hd50,hM⟩:=bd hM0;clear hM0
        refine dW (fun n S=> ∃p:Int×aP×List bg,S=(⟨[(2,.ptr 0 0),(4,.ptr 1 0),(7,.ptr 15 0),(108,.sl none 4 true ((gt x1.1.L 2).L.map aw)),(109,.int .i64 ((gt x1.1.L 2).L.length:Int)),(110,.int .i64 p.1)],[(0,.var 39 true ((bw p.2.1))),(1,.var 4 true (.agg [.int .i64 x1.1.Kind,.int .i64 x1.1.N,.sl none 1 false (x1.1.B.map (V.int .u8)),.sl none 4 true (x1.1.L.map aw)])),(15,.var 39 true (.agg (.int .i64 (gt x28.1 0):: .int .i64 (gt x28.1 1):: .int .i64 (gt x28.1 2):: .int .i64 (gt x28.1 3):: .own 16:: .own 17:: .int .u8 0:: .int .u8 0:: .int .u8 0:: .int .u8 0:: .int .u8 0:: .int .u8 0:: .int .u8 0:: .int .u8 0:: .int .u8 0:: .int .u8 0:: .int .u8 0:: .int .u8 0:: .int .u8 0:: .int .u8 0:: .int .u8 0:: .int .u8 0:: .int .u8 0:: .int .u8 0:: .int .u8 0:: .int .u8 0:: .int .u8 0:: .int .u8 0:: .int .u8 0:: .int .u8 0:: .int .u8 0:: .int .u8 0:: .int .u8 0:: .int .u8 0:: .int .u8 0:: .int .u8 0:: .int .u8 0:: .int .u8 0:: .int .i64 0::[]))),(16,.own 86 46 true none (p39.2.2.map bL)),(17,.own 80 59 true none (p.2.2.map cc))],18⟩:St)∧((0≤p.1)∧(p.1≤((gt x1.1.L 2).L.length:Int))∧(((p.2.2).length:Int)≤p.1))∧(((gt x1.1.L 2).L.length:Int) - p.1).toNat<n∧ao n f50 d50 p=r) ((((gt x1.1.L 2).L.length:Int) - 0).toNat+1) _ _ (iw 15 5 80 rfl rfl (by decide)) sbQ sbQ ⟨(0,p39.2.1,([]:List bg)),rfl,⟨omQ,omQ,omQ⟩,(Nat.lt_succ_self _),hM⟩ ?_
        clear hM
        rintro n50 S ⟨p50,rfl,hfa50,hm50,hM⟩
        have hM0:=hM;clear hM;obtain ⟨ag50,hag50,hM⟩:=bf hM0 (by omega) hf50;clear hM0
        replace hfa50:=nzQ hfa50
        replace hm50:=nzQ hm50
        have ha50:aq .i64 p50.1 1=p50.1+1:=bp omQ omQ
        refine aa (And.intro he14 (And.intro he21 (And.intro he24 (And.intro he35 (And.intro he36 (And.intro he37 (And.intro he38 (And.intro ha39 ha50)))))))) ?_
        have hF:=(And.intro h6 (And.intro h12 (And.intro he14 (And.intro h19 (And.intro he21 (And.intro h22 (And.intro he24 (And.intro h25 (And.intro h32 (And.intro he35 (And.intro he36 (And.intro he37 (And.intro he38 (And.intro ha39 (And.intro h40 ha50)))))))))))))))
        exact auQ
    ·rw [if_pos h22] at hM
     refine aa (And.intro he14 (And.intro he21 h22)) ?_
     have nh22:=nzQ h22
     try have hr68:=mpQ nh22
     subst hM
     exact ar (av (And.intro he14 (And.intro he21 (And.intro h6 (And.intro h12 (And.intro h19 h22))))))
   ·rw [if_pos h19] at hM
    refine aa (And.intro he14 h19) ?_
    have nh19:=nzQ h19
    try have hr69:=mpQ nh19
    subst hM
    exact ar (av (And.intro he14 (And.intro h6 (And.intro h12 h19))))
  ·rw [if_pos h12] at hM
   refine aa h12 ?_
   have nh12:=nzQ h12
   try have hr70:=mpQ nh12
   subst hM
   exact ar (av (And.intro h6 h12))
 ·rw [if_pos h6] at hM
  refine aa h6 ?_
  have nh6:=nzQ h6
  try have hr71:=mpQ nh6
  subst hM
  exact ar (av h6)
end Go.Proofs.YtlmleoeemmhboaaGreatDoor
namespace Go.Proofs.YtlmleoeemmhboaaGreatDoor
open Go.RowKit
set_option linter.unusedSimpArgs false
set_option maxHeartbeats 2000000 in
set_option maxRecDepth 100000 in
instance Ny (j:bh):CM En (j4 j) 13 [.agg [.sl none 1 false (j.Bytes.map (V.int .u8)),.int .i64 j.Durable,.int .i64 j.After]] (fun y=> .tup [(bw y.1),.int .i64 y.2]) (fun _=> []):=by
 refine cmQ fun r hM=> ?_
 rw [j4.eq_1] at hM
 refine aO aA aK noJ Tryz.func13 rfl Tryz.ntmps13 (by kernel_rfl) fun hw=>aL ?_
 refine spQ ?_
 replace hw:=nzQ hw
 have hM0:=hM;clear hM;obtain ⟨x1,hx2,hM⟩:=ay hM0;clear hM0
 have hcx1:=cmU hx2
 refine aQ hcx1 clQ clQ (fun hw3=> ?_)
 replace hw3:=nzQ hw3
 refine spQ ?_
 refine aQ (HY none x1) clQ clQ (fun hw4=> ?_)
 refine spQ ?_
 have hM0:=hM;clear hM;obtain ⟨f5,d5,hf5,hd5,hM⟩:=ya hM0;clear hM0
 refine ye (fM x1) (fun y5=> [.int .i64 y5.1,.sl none 1 false (y5.2.map (V.int .u8))]) (fun p:aP×Int=>(⟨[(2,.ptr 1 0),(3,.ptr 2 0),(10,.fn 80 [.pp 1 false (.sl none 1 false (x1.map (fun (l:List Int)=>V.sl none 1 false (l.map (V.int .u8)))))])],[(1,.var 39 true ((bw p.1))),(2,.var 1 false (.int .i64 p.2))],3⟩:St)) (fun (k5:Nat) (p:aP×Int)=>True) hM (HZ (l:=x1)) clQ clQ ⟨rfl,by decide,by decide⟩ (fun _=>rfl) (FY) sbQ (by simp only [go_sem,aE,aF,List.length_replicate,az,Int.toNat_natCast,↓reduceIte,Nat.reduceEqDiff,Nat.reduceAdd,Int.reduceAdd,Nat.reduceMul,Nat.reduceLeDiff,Nat.reduceLT,Int.reduceLE,Int.reduceLT,Int.reduceNeg,Int.reduceToNat,List.isEmpty_nil,a7,dI,dX,cq,cr,mtO,mtB,mt,mtL,aH,aG,ltV,ltL,ltB,eq_self,or_true,true_or,or_self,and_self,aZ,a6,Int.reduceSub]) trivial (fun _ _ _=>rfl) (fun ag5 k5 y5 p5 r5 K5 hy5 hk5 hf5a hM hN5 hR5=> ?_) (fun p5 hf5a hM=> ?_)
 ·have hM0:=hM;clear hM;have hM:=yb hM0 hf5;clear hM0
  have hfa5:=hf5a
  refine yd (S':=(⟨[(5,.sl none 1 false (y5.2.map (V.int .u8))),(11,.int .i64 y5.1),(12,.sl none 1 false (y5.2.map (V.int .u8))),(2,.ptr 1 0),(3,.ptr 2 0),(10,.fn 80 [.pp 1 false (.sl none 1 false (x1.map (fun (l:List Int)=>V.sl none 1 false (l.map (V.int .u8)))))]),(100002,.ptr 1 0),(100003,.ptr 2 0),(100010,.fn 80 [.pp 1 false (.sl none 1 false (x1.map (fun (l:List Int)=>V.sl none 1 false (l.map (V.int .u8)))))])],[(1,.var 39 true ((bw p5.1))),(2,.var 1 false (.int .i64 p5.2))],3⟩:St)) rfl ?_
  try refine spQ ?_
  have hM0:=hM;clear hM;obtain ⟨x6,hx7,hM⟩:=ay hM0;clear hM0
  have hcx6:=cmU hx7
  refine aQ hcx6 clQ clQ (fun hw8=> ?_)
  replace hw8:=nzQ hw8
  refine spQ ?_
  refine aB (fun h9=> ?_) (fun h9=> ?_)
  ·rw [if_pos h9] at hM
   refine aa h9 ?_
   have nh9:=nzQ h9
   try have hr10:=mpQ nh9
   refine hR5 _ (by first|rfl|decide|(simp only [go_sem];done)) (fun he=> ?_)
   have hM1:=hM.trans he
   clear hM he
   subst hM1
   simp only [dnS,dnF,c8,List.filterMap_cons,List.filterMap_nil,Nat.reduceLeDiff,if_true,if_false,↓reduceIte,Nat.reduceSub,Nat.reduceAdd]
   try refine aa h9 ?_
   exact ar (av h9)
  ·rw [if_neg (an h9)] at hM
   refine aa h9 ?_
   have nh9:=nzQ h9
   try have hr11:=mpQ nh9
   try rw [ug]
   exact (hN5 (p5.1,p5.2) _ (yc (by first|rfl|(simp only [dnF,c8,List.filterMap_cons,List.filterMap_nil,Nat.reduceLeDiff,if_true,if_false,↓reduceIte,Nat.reduceSub];exact sbQ)) sbQ) trivial hM)
 ·have hM0:=hM;clear hM;have hM:=i0 hM0 hd5;clear hM0
  have hfa5:=hf5a
  try refine spQ ?_
  subst hM
  exact ar lfQ
instance (priority:=1005):DRD 6 45 10 [34,35,36,37,38,39,40,41,42,43] [] ([[],[0],[],[0,1,2],[0,1,2,3],[],[5],[],[5,6,7],[5,6,7,8]]++[List.range 10]) []:=⟨trivial⟩
set_option maxHeartbeats 2000000 in
set_option maxRecDepth 100000 in
instance Nz (a_:cH) (b:cH):CM En (mL a_ b) 81 [.agg [.int .i64 a_.U,.int .i64 a_.S,.sl none 2 true (a_.X.map (fun l=> .agg [.int .i64 (gt l 0),.int .i64 (gt l 1)]))],.agg [.int .i64 b.U,.int .i64 b.S,.sl none 2 true (b.X.map (fun l=> .agg [.int .i64 (gt l 0),.int .i64 (gt l 1)]))]] (fun y=> .bool y) (fun _=> []):=by
 refine cmQ fun r hM=> ?_
 rw [mL.eq_1] at hM
 refine aO aA aK noJ Tryz.func81 rfl Tryz.ntmps81 (by kernel_rfl) fun hw=>aL ?_
 refine spQ ?_
 replace hw:=nzQ hw
 refine aY (fun h1=> ?_) (fun h1=> ?_)
 ·rw [if_neg (an h1)] at hM
  refine aa h1 ?_
  have nh1:=nzQ h1
  try have hr2:=mpQ nh1
  refine aY (fun h3=> ?_) (fun h3=> ?_)
  ·rw [if_neg (an h3)] at hM
   refine aa h3 ?_
   have nh3:=nzQ h3
   try have hr4:=mpQ nh3
   refine aB (fun h5=> ?_) (fun h5=> ?_)
   ·rw [if_pos h5] at hM
    refine aa h5 ?_
    have nh5:=nzQ h5
    try have hr6:=mpQ nh5
    subst hM
    exact ar (av (And.intro h1 (And.intro h3 h5)))
   ·rw [if_neg (an h5)] at hM
    refine aa h5 ?_
    have nh5:=nzQ h5
    try have hr7:=mpQ nh5
    have hM0:=hM;clear hM;obtain ⟨f8,d8,hf8,hd8,hM⟩:=bd hM0;clear hM0
    refine bF (fun n S=> ∃p:Int,S=(⟨[(2,.ptr 0 0),(3,.ptr 1 0),(5,.int .i64 p)],[(0,.var 3 true (.agg [.int .i64 a_.U,.int .i64 a_.S,.sl none 2 true (a_.X.map (fun l=> .agg [.int .i64 (gt l 0),.int .i64 (gt l 1)]))])),(1,.var 3 true (.agg [.int .i64 b.U,.int .i64 b.S,.sl none 2 true (b.X.map (fun l=> .agg [.int .i64 (gt l 0),.int .i64 (gt l 1)]))]))],2⟩:St)∧((0≤p)∧(p≤(a_.X.length:Int)))∧((a_.X.length:Int) - p).toNat<n∧ao n f8 d8 p=r) (((a_.X.length:Int) - 0).toNat+1) _ sbQ sbQ ⟨0,rfl,⟨omQ,omQ⟩,(Nat.lt_succ_self _),hM⟩ ?_
    clear hM
    rintro n8 S ⟨p8,rfl,hfa8,hm8,hM⟩
    have hM0:=hM;clear hM;obtain ⟨ag8,hag8,hM⟩:=bf hM0 (by omega) hf8;clear hM0
    replace hfa8:=nzQ hfa8
    replace hm8:=nzQ hm8
    have ha8:aq .i64 p8 1=p8+1:=bp omQ omQ
    refine aa ha8 ?_
    have hF:=(And.intro h1 (And.intro h3 (And.intro h5 ha8)))
    exact auQ
  ·rw [if_pos h3] at hM
   refine aa h3 ?_
   have nh3:=nzQ h3
   try have hr17:=mpQ nh3
   subst hM
   exact ar (av (And.intro h1 h3))
 ·rw [if_pos h1] at hM
  refine aa h1 ?_
  have nh1:=nzQ h1
  try have hr18:=mpQ nh1
  subst hM
  exact ar (av h1)
instance (priority:=1006):DRD 6 38 10 [27,28,29,30,31,32,33,34,35,36] [] ([[],[0],[],[0,1,2],[0,1,2,3],[],[5],[],[5,6,7],[5,6,7,8]]++[List.range 10]) []:=⟨trivial⟩
set_option maxHeartbeats 2000000 in
set_option maxRecDepth 100000 in
instance NA (p_:gu) (q:gu):CM En (mM p_ q) 125 [.agg [.int .i64 p_.Index,.sl none 32 true (p_.L.map bP)],.agg [.int .i64 q.Index,.sl none 32 true (q.L.map bP)]] (fun y=> .bool y) (fun _=> []):=by
 refine cmQ fun r hM=> ?_
 rw [mM.eq_1] at hM
 refine aO aA aK noJ Tryz.func125 rfl Tryz.ntmps125 (by kernel_rfl) fun hw=>aL ?_
 refine spQ ?_
 replace hw:=nzQ hw
 refine aY (fun h1=> ?_) (fun h1=> ?_)
 ·rw [if_neg (an h1)] at hM
  refine aa h1 ?_
  have nh1:=nzQ h1
  try have hr2:=mpQ nh1
  refine aB (fun h3=> ?_) (fun h3=> ?_)
  ·rw [if_pos h3] at hM
   refine aa h3 ?_
   have nh3:=nzQ h3
   try have hr4:=mpQ nh3
   subst hM
   exact ar (av (And.intro h1 h3))
  ·rw [if_neg (an h3)] at hM
   refine aa h3 ?_
   have nh3:=nzQ h3
   try have hr5:=mpQ nh3
   have hM0:=hM;clear hM;obtain ⟨f6,d6,hf6,hd6,hM⟩:=bd hM0;clear hM0
   refine bF (fun n S=> ∃p:Int,S=(⟨[(2,.ptr 0 0),(3,.ptr 1 0),(5,.int .i64 p)],[(0,.var 2 true (.agg [.int .i64 p_.Index,.sl none 32 true (p_.L.map bP)])),(1,.var 2 true (.agg [.int .i64 q.Index,.sl none 32 true (q.L.map bP)]))],2⟩:St)∧((0≤p)∧(p≤(p_.L.length:Int)))∧((p_.L.length:Int) - p).toNat<n∧ao n f6 d6 p=r) (((p_.L.length:Int) - 0).toNat+1) _ sbQ sbQ ⟨0,rfl,⟨omQ,omQ⟩,(Nat.lt_succ_self _),hM⟩ ?_
   clear hM
   rintro n6 S ⟨p6,rfl,hfa6,hm6,hM⟩
   have hM0:=hM;clear hM;obtain ⟨ag6,hag6,hM⟩:=bf hM0 (by omega) hf6;clear hM0
   replace hfa6:=nzQ hfa6
   replace hm6:=nzQ hm6
   have ha6:aq .i64 p6 1=p6+1:=bp omQ omQ
   refine aa ha6 ?_
   have hF:=(And.intro h1 (And.intro h3 ha6))
   exact auQ
 ·rw [if_pos h1] at hM
  refine aa h1 ?_
  have nh1:=nzQ h1
  try have hr15:=mpQ nh1
  subst hM
  exact ar (av h1)
instance (priority:=1007):DRD 6 60 10 [49,50,51,52,53,54,55,56,57,58] [] ([[],[0],[],[0,1,2],[0,1,2,3],[],[5],[],[5,6,7],[5,6,7,8]]++[List.range 10]) []:=⟨trivial⟩
set_option maxHeartbeats 2000000 in
set_option maxRecDepth 100000 in
instance NB (a_:aS) (b:aS):CM En (lg a_ b) 82 [(cB a_),.agg (.int .i64 b.Coin.Bank:: .int .i64 b.Coin.Epoch:: .int .i64 b.Coin.Denom:: .int .i64 b.Coin.Depth:: .int .i64 b.Coin.A:: .int .u8 (gt b.Coin.Root 0):: .int .u8 (gt b.Coin.Root 1):: .int .u8 (gt b.Coin.Root 2):: .int .u8 (gt b.Coin.Root 3):: .int .u8 (gt b.Coin.Root 4):: .int .u8 (gt b.Coin.Root 5):: .int .u8 (gt b.Coin.Root 6):: .int .u8 (gt b.Coin.Root 7):: .int .u8 (gt b.Coin.Root 8):: .int .u8 (gt b.Coin.Root 9):: .int .u8 (gt b.Coin.Root 10):: .int .u8 (gt b.Coin.Root 11):: .int .u8 (gt b.Coin.Root 12):: .int .u8 (gt b.Coin.Root 13):: .int .u8 (gt b.Coin.Root 14):: .int .u8 (gt b.Coin.Root 15):: .int .u8 (gt b.Coin.Root 16):: .int .u8 (gt b.Coin.Root 17):: .int .u8 (gt b.Coin.Root 18):: .int .u8 (gt b.Coin.Root 19):: .int .u8 (gt b.Coin.Root 20):: .int .u8 (gt b.Coin.Root 21):: .int .u8 (gt b.Coin.Root 22):: .int .u8 (gt b.Coin.Root 23):: .int .u8 (gt b.Coin.Root 24):: .int .u8 (gt b.Coin.Root 25):: .int .u8 (gt b.Coin.Root 26):: .int .u8 (gt b.Coin.Root 27):: .int .u8 (gt b.Coin.Root 28):: .int .u8 (gt b.Coin.Root 29):: .int .u8 (gt b.Coin.Root 30):: .int .u8 (gt b.Coin.Root 31):: .int .i64 b.Coin.Sign.Z:: .int .i64 b.Coin.Sign.A:: .int .i64 b.Coin.Sign.B:: .int .i64 b.Coin.Sign.R:: .int .i64 b.Node.Level:: .int .i64 b.Node.Index:: .int .u8 (gt b.Context.Payee 0):: .int .u8 (gt b.Context.Payee 1):: .int .u8 (gt b.Context.Payee 2):: .int .u8 (gt b.Context.Payee 3):: .int .u8 (gt b.Context.Payee 4):: .int .u8 (gt b.Context.Payee 5):: .int .u8 (gt b.Context.Payee 6):: .int .u8 (gt b.Context.Payee 7):: .int .u8 (gt b.Context.Payee 8):: .int .u8 (gt b.Context.Payee 9):: .int .u8 (gt b.Context.Payee 10):: .int .u8 (gt b.Context.Payee 11):: .int .u8 (gt b.Context.Payee 12):: .int .u8 (gt b.Context.Payee 13):: .int .u8 (gt b.Context.Payee 14):: .int .u8 (gt b.Context.Payee 15):: .int .u8 (gt b.Context.Payee 16):: .int .u8 (gt b.Context.Payee 17):: .int .u8 (gt b.Context.Payee 18):: .int .u8 (gt b.Context.Payee 19):: .int .u8 (gt b.Context.Payee 20):: .int .u8 (gt b.Context.Payee 21):: .int .u8 (gt b.Context.Payee 22):: .int .u8 (gt b.Context.Payee 23):: .int .u8 (gt b.Context.Payee 24):: .int .u8 (gt b.Context.Payee 25):: .int .u8 (gt b.Context.Payee 26):: .int .u8 (gt b.Context.Payee 27):: .int .u8 (gt b.Context.Payee 28):: .int .u8 (gt b.Context.Payee 29):: .int .u8 (gt b.Context.Payee 30):: .int .u8 (gt b.Context.Payee 31):: .int .i64 b.Context.Time:: .int .i64 b.Context.Number:: .sl none 3 true (b.Leaves.map eK):: .int .i64 b.Path.Index:: .sl none 32 true (b.Path.L.map bP)::[])] (fun y=> .bool y) (fun _=> []):=by
 refine cmQ fun r hM=> ?_
 rw [lg.eq_1] at hM
 refine aO aA aK noJ Tryz.func82 rfl Tryz.ntmps82 (by kernel_rfl) fun hw=>aL ?_
 refine spQ ?_
 replace hw:=nzQ hw
 refine aY (fun h1=> ?_) (fun h1=> ?_)
 ·have kh1:(!(eL (a_.Coin) (b.Coin)))=false:=h1
  rw [if_neg (an kh1)] at hM
  refine aa h1 ?_
  have nh1:=nzQ kh1
  try have hr2:=mpQ nh1
  refine aY (fun h3=> ?_) (fun h3=> ?_)
  ·have kh3:(!(mv (a_.Node) (b.Node)))=false:=h3
   rw [if_neg (an kh3)] at hM
   refine aa h3 ?_
   have nh3:=nzQ kh3
   try have hr4:=mpQ nh3
   refine aY (fun h5=> ?_) (fun h5=> ?_)
   ·have kh5:(!(mw (a_.Context) (b.Context)))=false:=h5
    rw [if_neg (an kh5)] at hM
    refine aa h5 ?_
    have nh5:=nzQ kh5
    try have hr6:=mpQ nh5
    refine aY (fun h7=> ?_) (fun h7=> ?_)
    ·rw [if_neg (an h7)] at hM
     refine aa h7 ?_
     have nh7:=nzQ h7
     try have hr8:=mpQ nh7
     have hM0:=hM;clear hM;obtain ⟨x9,hx10,hM⟩:=ay hM0;clear hM0
     have hcx9:=cmU hx10
     refine aQ hcx9 clQ clQ (fun hw11=> ?_)
     replace hw11:=nzQ hw11
     refine spQ ?_
     refine aB (fun h12=> ?_) (fun h12=> ?_)
     ·rw [if_pos h12] at hM
      refine aa h12 ?_
      have nh12:=nzQ h12
      try have hr13:=mpQ nh12
      subst hM
      exact ar (av (And.intro h1 (And.intro h3 (And.intro h5 (And.intro h7 h12)))))
     ·rw [if_neg (an h12)] at hM
      refine aa h12 ?_
      have nh12:=nzQ h12
      try have hr14:=mpQ nh12
      have hM0:=hM;clear hM;obtain ⟨f15,d15,hf15,hd15,hM⟩:=bd hM0;clear hM0
      refine bF (fun n S=> ∃p:Int,S=(⟨[(2,.ptr 0 0),(3,.ptr 1 0),(5,.int .i64 p)],[(0,.var 80 true ((cB a_))),(1,.var 80 true (.agg (.int .i64 b.Coin.Bank:: .int .i64 b.Coin.Epoch:: .int .i64 b.Coin.Denom:: .int .i64 b.Coin.Depth:: .int .i64 b.Coin.A:: .int .u8 (gt b.Coin.Root 0):: .int .u8 (gt b.Coin.Root 1):: .int .u8 (gt b.Coin.Root 2):: .int .u8 (gt b.Coin.Root 3):: .int .u8 (gt b.Coin.Root 4):: .int .u8 (gt b.Coin.Root 5):: .int .u8 (gt b.Coin.Root 6):: .int .u8 (gt b.Coin.Root 7):: .int .u8 (gt b.Coin.Root 8):: .int .u8 (gt b.Coin.Root 9):: .int .u8 (gt b.Coin.Root 10):: .int .u8 (gt b.Coin.Root 11):: .int .u8 (gt b.Coin.Root 12):: .int .u8 (gt b.Coin.Root 13):: .int .u8 (gt b.Coin.Root 14):: .int .u8 (gt b.Coin.Root 15):: .int .u8 (gt b.Coin.Root 16):: .int .u8 (gt b.Coin.Root 17):: .int .u8 (gt b.Coin.Root 18):: .int .u8 (gt b.Coin.Root 19):: .int .u8 (gt b.Coin.Root 20):: .int .u8 (gt b.Coin.Root 21):: .int .u8 (gt b.Coin.Root 22):: .int .u8 (gt b.Coin.Root 23):: .int .u8 (gt b.Coin.Root 24):: .int .u8 (gt b.Coin.Root 25):: .int .u8 (gt b.Coin.Root 26):: .int .u8 (gt b.Coin.Root 27):: .int .u8 (gt b.Coin.Root 28):: .int .u8 (gt b.Coin.Root 29):: .int .u8 (gt b.Coin.Root 30):: .int .u8 (gt b.Coin.Root 31):: .int .i64 b.Coin.Sign.Z:: .int .i64 b.Coin.Sign.A:: .int .i64 b.Coin.Sign.B:: .int .i64 b.Coin.Sign.R:: .int .i64 b.Node.Level:: .int .i64 b.Node.Index:: .int .u8 (gt b.Context.Payee 0):: .int .u8 (gt b.Context.Payee 1):: .int .u8 (gt b.Context.Payee 2):: .int .u8 (gt b.Context.Payee 3):: .int .u8 (gt b.Context.Payee 4):: .int .u8 (gt b.Context.Payee 5):: .int .u8 (gt b.Context.Payee 6):: .int .u8 (gt b.Context.Payee 7):: .int .u8 (gt b.Context.Payee 8):: .int .u8 (gt b.Context.Payee 9):: .int .u8 (gt b.Context.Payee 10):: .int .u8 (gt b.Context.Payee 11):: .int .u8 (gt b.Context.Payee 12):: .int .u8 (gt b.Context.Payee 13):: .int .u8 (gt b.Context.Payee 14):: .int .u8 (gt b.Context.Payee 15):: .int .u8 (gt b.Context.Payee 16):: .int .u8 (gt b.Context.Payee 17):: .int .u8 (gt b.Context.Payee 18):: .int .u8 (gt b.Context.Payee 19):: .int .u8 (gt b.Context.Payee 20):: .int .u8 (gt b.Context.Payee 21):: .int .u8 (gt b.Context.Payee 22):: .int .u8 (gt b.Context.Payee 23):: .int .u8 (gt b.Context.Payee 24):: .int .u8 (gt b.Context.Payee 25):: .int .u8 (gt b.Context.Payee 26):: .int .u8 (gt b.Context.Payee 27):: .int .u8 (gt b.Context.Payee 28):: .int .u8 (gt b.Context.Payee 29):: .int .u8 (gt b.Context.Payee 30):: .int .u8 (gt b.Context.Payee 31):: .int .i64 b.Context.Time:: .int .i64 b.Context.Number:: .sl none 3 true (b.Leaves.map eK):: .int .i64 b.Path.Index:: .sl none 32 true (b.Path.L.map bP)::[])))],2⟩:St)∧((0≤p)∧(p≤(a_.Leaves.length:Int)))∧((a_.Leaves.length:Int) - p).toNat<n∧ao n f15 d15 p=r) (((a_.Leaves.length:Int) - 0).toNat+1) _ sbQ sbQ ⟨0,rfl,⟨omQ,omQ⟩,(Nat.lt_succ_self _),hM⟩ ?_
      clear hM
      rintro n15 S ⟨p15,rfl,hfa15,hm15,hM⟩
      have hM0:=hM;clear hM;obtain ⟨ag15,hag15,hM⟩:=bf hM0 (by omega) hf15;clear hM0
      replace hfa15:=nzQ hfa15
      replace hm15:=nzQ hm15
      have ha15:aq .i64 p15 1=p15+1:=bp omQ omQ
      refine aa ha15 ?_
      have hF:=(And.intro kh1 (And.intro kh3 (And.intro kh5 (And.intro h7 (And.intro h12 ha15)))))
      exact auQ
    ·rw [if_pos h7] at hM
     refine aa h7 ?_
     have nh7:=nzQ h7
     try have hr24:=mpQ nh7
     subst hM
     exact ar (av (And.intro h1 (And.intro h3 (And.intro h5 h7))))
   ·have kh5:(!(mw (a_.Context) (b.Context)))=true:=h5
    rw [if_pos kh5] at hM
    refine aa h5 ?_
    have nh5:=nzQ kh5
    try have hr25:=mpQ nh5
    subst hM
    exact ar (av (And.intro h1 (And.intro h3 h5)))
  ·have kh3:(!(mv (a_.Node) (b.Node)))=true:=h3
   rw [if_pos kh3] at hM
   refine aa h3 ?_
   have nh3:=nzQ kh3
   try have hr26:=mpQ nh3
   subst hM
   exact ar (av (And.intro h1 h3))
 ·have kh1:(!(eL (a_.Coin) (b.Coin)))=true:=h1
  rw [if_pos kh1] at hM
  refine aa h1 ?_
  have nh1:=nzQ kh1
  try have hr27:=mpQ nh1
  subst hM
  exact ar (av h1)
instance (priority:=1008):DRD 6 75 10 [45,46,47,48,49,50,51,52,53,54] [] ([[],[0],[],[0,1,2],[0,1,2,3],[],[5],[],[5,6,7],[5,6,7,8]]++[List.range 10]) []:=⟨trivial⟩
instance (priority:=1009):DRD 11 75 10 [63,64,65,66,67,68,69,70,71,72] [] ([[],[0],[],[0,1,2],[0,1,2,3],[],[5],[],[5,6,7],[5,6,7,8]]++[List.range 10,List.range 11]) []:=⟨trivial⟩
set_option maxHeartbeats 2000000 in
set_option maxRecDepth 100000 in
instance NC (a_:aX) (b:aX):CM En (mN a_ b) 45 [(bL a_),(bL b)] (fun y=> .bool y) (fun _=> []):=by
 refine cmQ fun r hM=> ?_
 rw [mN.eq_1] at hM
 refine aO aA aK noJ Tryz.func45 rfl Tryz.ntmps45 (by kernel_rfl) fun hw=>aL ?_
 refine spQ ?_
 replace hw:=nzQ hw
 have h0_0:=Ac hw.1
 have h0_1:=Ac hw.2
 refine aY (fun h1=> ?_) (fun h1=> ?_)
 ·have kh1:(!(eL (a_.Coin) (b.Coin)))=false:=h1
  rw [if_neg (an kh1)] at hM
  refine aa h1 ?_
  have nh1:=nzQ kh1
  try have hr2:=mpQ nh1
  have hM0:=hM;clear hM;obtain ⟨x3,hx4,hM⟩:=ay hM0;clear hM0
  have hcx3:=cmU hx4
  refine aQ hcx3 clQ clQ (fun hw5=> ?_)
  replace hw5:=nzQ hw5
  refine spQ ?_
  refine aY (fun h6=> ?_) (fun h6=> ?_)
  ·rw [if_neg (an h6)] at hM
   refine aa h6 ?_
   have nh6:=nzQ h6
   try have hr7:=mpQ nh6
   refine aY (fun h8=> ?_) (fun h8=> ?_)
   ·rw [if_neg (an h8)] at hM
    refine aa h8 ?_
    have nh8:=nzQ h8
    try have hr9:=mpQ nh8
    refine aB (fun h10=> ?_) (fun h10=> ?_)
    ·rw [if_pos h10] at hM
     refine aa h10 ?_
     have nh10:=nzQ h10
     try have hr11:=mpQ nh10
     subst hM
     exact ar (av (And.intro h1 (And.intro h6 (And.intro h8 h10))))
    ·rw [if_neg (an h10)] at hM
     refine aa h10 ?_
     have nh10:=nzQ h10
     try have hr12:=mpQ nh10
     have hM0:=hM;clear hM;obtain ⟨f13,d13,hf13,hd13,hM⟩:=bd hM0;clear hM0
     refine bF (fun n S=> ∃p:Int,S=(⟨[(2,.ptr 0 0),(3,.ptr 1 0),(5,.int .i64 p)],[(0,.var 46 true ((bL a_))),(1,.var 46 true ((bL b)))],2⟩:St)∧((0≤p)∧(p≤(a_.Spent.length:Int)))∧((a_.Spent.length:Int) - p).toNat<n∧ao n f13 d13 p=r) (((a_.Spent.length:Int) - 0).toNat+1) _ sbQ sbQ ⟨0,rfl,⟨omQ,omQ⟩,(Nat.lt_succ_self _),hM⟩ ?_
     clear hM
     rintro n13 S ⟨p13,rfl,hfa13,hm13,hM⟩
     have hM0:=hM;clear hM;obtain ⟨ag13,hag13,hM⟩:=bf hM0 (by omega) hf13;clear hM0
     replace hfa13:=nzQ hfa13
     replace hm13:=nzQ hm13
     have ha13:aq .i64 p13 1=p13+1:=bp omQ omQ
     refine aa ha13 ?_
     refine aB (fun h14=> ?_) (fun h14=> ?_)
     ·rw [if_pos h14] at hM
      refine aa (And.intro ha13 h14) ?_
      have nh14:=nzQ h14
      try have hr15:=mpQ nh14
      have hF:=(And.intro kh1 (And.intro h6 (And.intro h8 (And.intro h10 (And.intro ha13 h14)))))
      exact auQ
     ·rw [if_neg (an h14)] at hM
      refine aa (And.intro ha13 h14) ?_
      have nh14:=nzQ h14
      try have hr21:=mpQ nh14
      have hM0:=hM;clear hM;obtain ⟨f22,d22,hf22,hd22,hM⟩:=bd hM0;clear hM0
      refine bF (fun n S=> ∃p:Int,S=(⟨[(2,.ptr 0 0),(3,.ptr 1 0),(6,.int .i64 p)],[(0,.var 46 true ((bL a_))),(1,.var 46 true ((bL b)))],2⟩:St)∧((0≤p)∧(p≤(a_.Chain.length:Int)))∧((a_.Chain.length:Int) - p).toNat<n∧ao n f22 d22 p=r) (((a_.Chain.length:Int) - 0).toNat+1) _ sbQ sbQ ⟨0,rfl,⟨omQ,omQ⟩,(Nat.lt_succ_self _),hM⟩ ?_
      clear hM
      rintro n22 S ⟨p22,rfl,hfa22,hm22,hM⟩
      have hM0:=hM;clear hM;obtain ⟨ag22,hag22,hM⟩:=bf hM0 (by omega) hf22;clear hM0
      replace hfa22:=nzQ hfa22
      replace hm22:=nzQ hm22
      have ha22:aq .i64 p22 1=p22+1:=bp omQ omQ
      refine aa (And.intro ha13 ha22) ?_
      have hF:=(And.intro kh1 (And.intro h6 (And.intro h8 (And.intro h10 (And.intro ha13 (And.intro h14 ha22))))))
      exact auQ
   ·rw [if_pos h8] at hM
    refine aa h8 ?_
    have nh8:=nzQ h8
    try have hr34:=mpQ nh8
    subst hM
    exact ar (av (And.intro h1 (And.intro h6 h8)))
  ·rw [if_pos h6] at hM
   refine aa h6 ?_
   have nh6:=nzQ h6
   try have hr35:=mpQ nh6
   subst hM
   exact ar (av (And.intro h1 h6))
 ·have kh1:(!(eL (a_.Coin) (b.Coin)))=true:=h1
  rw [if_pos kh1] at hM
  refine aa h1 ?_
  have nh1:=nzQ kh1
  try have hr36:=mpQ nh1
  subst hM
  exact ar (av h1)
instance (priority:=1010):DRD 6 115 12 [23,24,25,26,27,28,29,30,31,32,33,34] [] ([[],[0],[0,1],[],[0,1,2,3],[0,1,2,3,4],[],[6],[6,7],[],[6,7,8,9],[6,7,8,9,10]]++[List.range 12]) []:=⟨trivial⟩
set_option maxHeartbeats 2000000 in
set_option maxRecDepth 100000 in
instance ND (a_:bg) (b:bg):CM En (jh a_ b) 46 [(cc a_),.agg (.int .i64 b.Phase:: .int .i64 b.Number:: .int .i64 b.Bank:: .int .i64 b.Epoch:: .int .i64 b.Denom:: .int .i64 b.Depth:: .int .i64 b.Secret.U:: .int .i64 b.Secret.S:: .sl none 2 true (b.Secret.X.map (fun l=> .agg [.int .i64 (gt l 0),.int .i64 (gt l 1)])):: .int .i64 b.Factors.S:: .int .i64 b.Factors.U:: .int .i64 b.Factors.V:: .int .i64 b.View.M:: .int .i64 b.View.Z:: .int .i64 b.View.A:: .int .i64 b.View.B:: .int .i64 b.View.C:: .int .i64 b.View.R:: .int .i64 b.Coin.Bank:: .int .i64 b.Coin.Epoch:: .int .i64 b.Coin.Denom:: .int .i64 b.Coin.Depth:: .int .i64 b.Coin.A:: .int .u8 (gt b.Coin.Root 0):: .int .u8 (gt b.Coin.Root 1):: .int .u8 (gt b.Coin.Root 2):: .int .u8 (gt b.Coin.Root 3):: .int .u8 (gt b.Coin.Root 4):: .int .u8 (gt b.Coin.Root 5):: .int .u8 (gt b.Coin.Root 6):: .int .u8 (gt b.Coin.Root 7):: .int .u8 (gt b.Coin.Root 8):: .int .u8 (gt b.Coin.Root 9):: .int .u8 (gt b.Coin.Root 10):: .int .u8 (gt b.Coin.Root 11):: .int .u8 (gt b.Coin.Root 12):: .int .u8 (gt b.Coin.Root 13):: .int .u8 (gt b.Coin.Root 14):: .int .u8 (gt b.Coin.Root 15):: .int .u8 (gt b.Coin.Root 16):: .int .u8 (gt b.Coin.Root 17):: .int .u8 (gt b.Coin.Root 18):: .int .u8 (gt b.Coin.Root 19):: .int .u8 (gt b.Coin.Root 20):: .int .u8 (gt b.Coin.Root 21):: .int .u8 (gt b.Coin.Root 22):: .int .u8 (gt b.Coin.Root 23):: .int .u8 (gt b.Coin.Root 24):: .int .u8 (gt b.Coin.Root 25):: .int .u8 (gt b.Coin.Root 26):: .int .u8 (gt b.Coin.Root 27):: .int .u8 (gt b.Coin.Root 28):: .int .u8 (gt b.Coin.Root 29):: .int .u8 (gt b.Coin.Root 30):: .int .u8 (gt b.Coin.Root 31):: .int .i64 b.Coin.Sign.Z:: .int .i64 b.Coin.Sign.A:: .int .i64 b.Coin.Sign.B:: .int .i64 b.Coin.Sign.R::[])] (fun y=> .bool y) (fun _=> []):=by
 refine cmQ fun r hM=> ?_
 rw [jh.eq_1] at hM
 refine aO aA aK noJ Tryz.func46 rfl Tryz.ntmps46 (by kernel_rfl) fun hw=>aL ?_
 refine spQ ?_
 replace hw:=nzQ hw
 refine aB (fun h1=> ?_) (fun h1=> ?_)
 ·rw [if_pos h1] at hM
  refine aa h1 ?_
  have nh1:=nzQ h1
  try have hr2:=mpQ nh1
  subst hM
  exact ar (av h1)
 ·rw [if_neg (an h1)] at hM
  refine aa h1 ?_
  have nh1:=nzQ h1
  try have hr3:=mpQ nh1
  have hM0:=hM;clear hM;obtain ⟨f4,d4,hf4,hd4,hM⟩:=bd hM0;clear hM0
  refine bF (fun n S=> ∃p:Int,S=(⟨[(2,.ptr 0 0),(3,.ptr 1 0),(5,.int .i64 p)],[(0,.var 59 true ((cc a_))),(1,.var 59 true ((cc b)))],2⟩:St)∧((0≤p)∧(p≤(a_.Secret.X.length:Int)))∧((a_.Secret.X.length:Int) - p).toNat<n∧ao n f4 d4 p=r) (((a_.Secret.X.length:Int) - 0).toNat+1) _ sbQ sbQ ⟨0,rfl,⟨omQ,omQ⟩,(Nat.lt_succ_self _),hM⟩ ?_
  clear hM
  rintro n4 S ⟨p4,rfl,hfa4,hm4,hM⟩
  have hM0:=hM;clear hM;obtain ⟨ag4,hag4,hM⟩:=bf hM0 (by omega) hf4;clear hM0
  replace hfa4:=nzQ hfa4
  replace hm4:=nzQ hm4
  have ha4:aq .i64 p4 1=p4+1:=bp omQ omQ
  refine aa ha4 ?_
  have hF:=(And.intro h1 ha4)
  exact auQ
instance (priority:=1011):DRD 6 96 10 [65,66,67,68,69,70,71,72,73,74] [] ([[],[0],[],[0,1,2],[0,1,2,3],[],[5],[],[5,6,7],[5,6,7,8]]++[List.range 10,List.range 11]) []:=⟨trivial⟩
instance (priority:=1012):DRD 11 96 10 [84,85,86,87,88,89,90,91,92,93] [] ([[],[0],[],[0,1,2],[0,1,2,3],[],[5],[],[5,6,7],[5,6,7,8]]++[List.range 10,List.range 11]) []:=⟨trivial⟩
set_option maxHeartbeats 2000000 in
set_option maxRecDepth 100000 in
instance NE (a_:aP) (b:aP):CM En (mO a_ b) 16 [(bw a_),.agg (.int .i64 b.Bank:: .int .i64 b.U:: .int .i64 b.Key:: .int .i64 b.Next:: .sl none 46 true (b.Holdings.map bL):: .sl none 59 true (b.Open.map cc):: .int .u8 (gt b.Source.Seed 0):: .int .u8 (gt b.Source.Seed 1):: .int .u8 (gt b.Source.Seed 2):: .int .u8 (gt b.Source.Seed 3):: .int .u8 (gt b.Source.Seed 4):: .int .u8 (gt b.Source.Seed 5):: .int .u8 (gt b.Source.Seed 6):: .int .u8 (gt b.Source.Seed 7):: .int .u8 (gt b.Source.Seed 8):: .int .u8 (gt b.Source.Seed 9):: .int .u8 (gt b.Source.Seed 10):: .int .u8 (gt b.Source.Seed 11):: .int .u8 (gt b.Source.Seed 12):: .int .u8 (gt b.Source.Seed 13):: .int .u8 (gt b.Source.Seed 14):: .int .u8 (gt b.Source.Seed 15):: .int .u8 (gt b.Source.Seed 16):: .int .u8 (gt b.Source.Seed 17):: .int .u8 (gt b.Source.Seed 18):: .int .u8 (gt b.Source.Seed 19):: .int .u8 (gt b.Source.Seed 20):: .int .u8 (gt b.Source.Seed 21):: .int .u8 (gt b.Source.Seed 22):: .int .u8 (gt b.Source.Seed 23):: .int .u8 (gt b.Source.Seed 24):: .int .u8 (gt b.Source.Seed 25):: .int .u8 (gt b.Source.Seed 26):: .int .u8 (gt b.Source.Seed 27):: .int .u8 (gt b.Source.Seed 28):: .int .u8 (gt b.Source.Seed 29):: .int .u8 (gt b.Source.Seed 30):: .int .u8 (gt b.Source.Seed 31):: .int .i64 b.Source.Counter::[])] (fun y=> .bool y) (fun _=> []):=by
 refine cmQ fun r hM=> ?_
 rw [mO.eq_1] at hM
 refine aO aA aK noJ Tryz.func16 rfl Tryz.ntmps16 (by kernel_rfl) fun hw=>aL ?_
 refine spQ ?_
 replace hw:=nzQ hw
 refine aY (fun h1=> ?_) (fun h1=> ?_)
 ·rw [if_neg (an h1)] at hM
  refine aa h1 ?_
  have nh1:=nzQ h1
  try have hr2:=mpQ nh1
  refine aY (fun h3=> ?_) (fun h3=> ?_)
  ·rw [if_neg (an h3)] at hM
   refine aa h3 ?_
   have nh3:=nzQ h3
   try have hr4:=mpQ nh3
   refine aY (fun h5=> ?_) (fun h5=> ?_)
   ·rw [if_neg (an h5)] at hM
    refine aa h5 ?_
    have nh5:=nzQ h5
    try have hr6:=mpQ nh5
    refine aY (fun h7=> ?_) (fun h7=> ?_)
    ·rw [if_neg (an h7)] at hM
     refine aa h7 ?_
     have nh7:=nzQ h7
     try have hr8:=mpQ nh7
     refine aY (fun h9=> ?_) (fun h9=> ?_)
     ·have kh9:(!(mx (a_.Source) (b.Source)))=false:=h9
      rw [if_neg (an kh9)] at hM
      refine aa h9 ?_
      have nh9:=nzQ kh9
      try have hr10:=mpQ nh9
      refine aY (fun h11=> ?_) (fun h11=> ?_)
      ·rw [if_neg (an h11)] at hM
       refine aa h11 ?_
       have nh11:=nzQ h11
       try have hr12:=mpQ nh11
       refine aB (fun h13=> ?_) (fun h13=> ?_)
       ·rw [if_pos h13] at hM
        refine aa h13 ?_
        have nh13:=nzQ h13
        try have hr14:=mpQ nh13
        subst hM
        exact ar (av (And.intro h1 (And.intro h3 (And.intro h5 (And.intro h7 (And.intro h9 (And.intro h11 h13)))))))
       ·rw [if_neg (an h13)] at hM
        refine aa h13 ?_
        have nh13:=nzQ h13
        try have hr15:=mpQ nh13
        have hM0:=hM;clear hM;obtain ⟨f16,d16,hf16,hd16,hM⟩:=bd hM0;clear hM0
        refine bF (fun n S=> ∃p:Int,S=(⟨[(2,.ptr 0 0),(3,.ptr 1 0),(5,.int .i64 p)],[(0,.var 39 true ((bw a_))),(1,.var 39 true (.agg (.int .i64 b.Bank:: .int .i64 b.U:: .int .i64 b.Key:: .int .i64 b.Next:: .sl none 46 true (b.Holdings.map bL):: .sl none 59 true (b.Open.map cc):: .int .u8 (gt b.Source.Seed 0):: .int .u8 (gt b.Source.Seed 1):: .int .u8 (gt b.Source.Seed 2):: .int .u8 (gt b.Source.Seed 3):: .int .u8 (gt b.Source.Seed 4):: .int .u8 (gt b.Source.Seed 5):: .int .u8 (gt b.Source.Seed 6):: .int .u8 (gt b.Source.Seed 7):: .int .u8 (gt b.Source.Seed 8):: .int .u8 (gt b.Source.Seed 9):: .int .u8 (gt b.Source.Seed 10):: .int .u8 (gt b.Source.Seed 11):: .int .u8 (gt b.Source.Seed 12):: .int .u8 (gt b.Source.Seed 13):: .int .u8 (gt b.Source.Seed 14):: .int .u8 (gt b.Source.Seed 15):: .int .u8 (gt b.Source.Seed 16):: .int .u8 (gt b.Source.Seed 17):: .int .u8 (gt b.Source.Seed 18):: .int .u8 (gt b.Source.Seed 19):: .int .u8 (gt b.Source.Seed 20):: .int .u8 (gt b.Source.Seed 21):: .int .u8 (gt b.Source.Seed 22):: .int .u8 (gt b.Source.Seed 23):: .int .u8 (gt b.Source.Seed 24):: .int .u8 (gt b.Source.Seed 25):: .int .u8 (gt b.Source.Seed 26):: .int .u8 (gt b.Source.Seed 27):: .int .u8 (gt b.Source.Seed 28):: .int .u8 (gt b.Source.Seed 29):: .int .u8 (gt b.Source.Seed 30):: .int .u8 (gt b.Source.Seed 31):: .int .i64 b.Source.Counter::[])))],2⟩:St)∧((0≤p)∧(p≤(a_.Holdings.length:Int)))∧((a_.Holdings.length:Int) - p).toNat<n∧ao n f16 d16 p=r) (((a_.Holdings.length:Int) - 0).toNat+1) _ sbQ sbQ ⟨0,rfl,⟨omQ,omQ⟩,(Nat.lt_succ_self _),hM⟩ ?_
        clear hM
        rintro n16 S ⟨p16,rfl,hfa16,hm16,hM⟩
        have hM0:=hM;clear hM;obtain ⟨ag16,hag16,hM⟩:=bf hM0 (by omega) hf16;clear hM0
        replace hfa16:=nzQ hfa16
        replace hm16:=nzQ hm16
        have ha16:aq .i64 p16 1=p16+1:=bp omQ omQ
        refine aa ha16 ?_
        refine aB (fun h17=> ?_) (fun h17=> ?_)
        ·rw [if_pos h17] at hM
         refine aa (And.intro ha16 h17) ?_
         have nh17:=nzQ h17
         try have hr18:=mpQ nh17
         have hF:=(And.intro h1 (And.intro h3 (And.intro h5 (And.intro h7 (And.intro kh9 (And.intro h11 (And.intro h13 (And.intro ha16 h17))))))))
         exact auQ
        ·rw [if_neg (an h17)] at hM
         refine aa (And.intro ha16 h17) ?_
         have nh17:=nzQ h17
         try have hr27:=mpQ nh17
         have hM0:=hM;clear hM;obtain ⟨f28,d28,hf28,hd28,hM⟩:=bd hM0;clear hM0
         refine bF (fun n S=> ∃p:Int,S=(⟨[(2,.ptr 0 0),(3,.ptr 1 0),(6,.int .i64 p)],[(0,.var 39 true ((bw a_))),(1,.var 39 true (.agg (.int .i64 b.Bank:: .int .i64 b.U:: .int .i64 b.Key:: .int .i64 b.Next:: .sl none 46 true (b.Holdings.map bL):: .sl none 59 true (b.Open.map cc):: .int .u8 (gt b.Source.Seed 0):: .int .u8 (gt b.Source.Seed 1):: .int .u8 (gt b.Source.Seed 2):: .int .u8 (gt b.Source.Seed 3):: .int .u8 (gt b.Source.Seed 4):: .int .u8 (gt b.Source.Seed 5):: .int .u8 (gt b.Source.Seed 6):: .int .u8 (gt b.Source.Seed 7):: .int .u8 (gt b.Source.Seed 8):: .int .u8 (gt b.Source.Seed 9):: .int .u8 (gt b.Source.Seed 10):: .int .u8 (gt b.Source.Seed 11):: .int .u8 (gt b.Source.Seed 12):: .int .u8 (gt b.Source.Seed 13):: .int .u8 (gt b.Source.Seed 14):: .int .u8 (gt b.Source.Seed 15):: .int .u8 (gt b.Source.Seed 16):: .int .u8 (gt b.Source.Seed 17):: .int .u8 (gt b.Source.Seed 18):: .int .u8 (gt b.Source.Seed 19):: .int .u8 (gt b.Source.Seed 20):: .int .u8 (gt b.Source.Seed 21):: .int .u8 (gt b.Source.Seed 22):: .int .u8 (gt b.Source.Seed 23):: .int .u8 (gt b.Source.Seed 24):: .int .u8 (gt b.Source.Seed 25):: .int .u8 (gt b.Source.Seed 26):: .int .u8 (gt b.Source.Seed 27):: .int .u8 (gt b.Source.Seed 28):: .int .u8 (gt b.Source.Seed 29):: .int .u8 (gt b.Source.Seed 30):: .int .u8 (gt b.Source.Seed 31):: .int .i64 b.Source.Counter::[])))],2⟩:St)∧((0≤p)∧(p≤(a_.Open.length:Int)))∧((a_.Open.length:Int) - p).toNat<n∧ao n f28 d28 p=r) (((a_.Open.length:Int) - 0).toNat+1) _ sbQ sbQ ⟨0,rfl,⟨omQ,omQ⟩,(Nat.lt_succ_self _),hM⟩ ?_
         clear hM
         rintro n28 S ⟨p28,rfl,hfa28,hm28,hM⟩
         have hM0:=hM;clear hM;obtain ⟨ag28,hag28,hM⟩:=bf hM0 (by omega) hf28;clear hM0
         replace hfa28:=nzQ hfa28
         replace hm28:=nzQ hm28
         have ha28:aq .i64 p28 1=p28+1:=bp omQ omQ
         refine aa (And.intro ha16 ha28) ?_
         have hF:=(And.intro h1 (And.intro h3 (And.intro h5 (And.intro h7 (And.intro kh9 (And.intro h11 (And.intro h13 (And.intro ha16 (And.intro h17 ha28)))))))))
         exact auQ
      ·rw [if_pos h11] at hM
       refine aa h11 ?_
       have nh11:=nzQ h11
       try have hr40:=mpQ nh11
       subst hM
       exact ar (av (And.intro h1 (And.intro h3 (And.intro h5 (And.intro h7 (And.intro h9 h11))))))
     ·have kh9:(!(mx (a_.Source) (b.Source)))=true:=h9
      rw [if_pos kh9] at hM
      refine aa h9 ?_
      have nh9:=nzQ kh9
      try have hr41:=mpQ nh9
      subst hM
      exact ar (av (And.intro h1 (And.intro h3 (And.intro h5 (And.intro h7 h9)))))
    ·rw [if_pos h7] at hM
     refine aa h7 ?_
     have nh7:=nzQ h7
     try have hr42:=mpQ nh7
     subst hM
     exact ar (av (And.intro h1 (And.intro h3 (And.intro h5 h7))))
   ·rw [if_pos h5] at hM
    refine aa h5 ?_
    have nh5:=nzQ h5
    try have hr43:=mpQ nh5
    subst hM
    exact ar (av (And.intro h1 (And.intro h3 h5)))
  ·rw [if_pos h3] at hM
   refine aa h3 ?_
   have nh3:=nzQ h3
   try have hr44:=mpQ nh3
   subst hM
   exact ar (av (And.intro h1 h3))
 ·rw [if_pos h1] at hM
  refine aa h1 ?_
  have nh1:=nzQ h1
  try have hr45:=mpQ nh1
  subst hM
  exact ar (av h1)
set_option maxHeartbeats 2000000 in
set_option maxRecDepth 100000 in
instance NF (p_:aP):CM En (oI p_) 14 [(bw p_)] (fun y=> .bool y) (fun _=> []):=by
 refine cmQ fun r hM=> ?_
 rw [oI.eq_1] at hM
 refine aO aA aK noJ Tryz.func14 rfl Tryz.ntmps14 (by kernel_rfl) fun hw=>aL ?_
 refine spQ ?_
 replace hw:=nzQ hw
 have hF:=ct
 exact auQ
set_option maxHeartbeats 2000000 in
set_option maxRecDepth 100000 in
instance NG (q:aP) (c0:aP):CM En (oJ q c0) 15 [(bw q),.pp 39 true ((bw c0))] (fun y=> .bool y) (fun _=> []):=by
 refine cmQ fun r hM=> ?_
 rw [oJ.eq_1] at hM
 refine aO aA aK noJ Tryz.func15 rfl Tryz.ntmps15 (by kernel_rfl) fun hw=>aL ?_
 refine spQ ?_
 replace hw:=nzQ hw
 have hF:=ct
 exact auQ
set_option maxHeartbeats 2000000 in
set_option maxRecDepth 100000 in
instance NH (s:(List aP)):CM En (rq s) 26 [.sl none 39 true (s.map bw),.fn 7 []] (fun y=> .int .i64 y) (fun _=> []):=by
 refine cmQ fun r hM=> ?_
 rw [rq.eq_1] at hM
 refine aO aA aK noJ Tryz.func26 rfl Tryz.ntmps26 (by kernel_rfl) fun hw=>aL ?_
 refine spQ ?_
 replace hw:=nzQ hw
 have hM0:=hM;clear hM;obtain ⟨f1,d1,hf1,hd1,hM⟩:=bd hM0;clear hM0
 refine bF (fun n S=> ∃p:Int,S=(⟨[(0,.sl none 39 true (s.map bw)),(1,.fn 7 []),(7,.int .i64 (s.length:Int)),(8,.int .i64 p)],[],0⟩:St)∧((0≤p)∧(p≤(s.length:Int)))∧((s.length:Int) - p).toNat<n∧ao n f1 d1 p=r) (((s.length:Int) - 0).toNat+1) _ sbQ sbQ ⟨0,rfl,⟨omQ,omQ⟩,(Nat.lt_succ_self _),hM⟩ ?_
 clear hM
 rintro n1 S ⟨p1,rfl,hfa1,hm1,hM⟩
 have hM0:=hM;clear hM;obtain ⟨ag1,hag1,hM⟩:=bf hM0 (by omega) hf1;clear hM0
 replace hfa1:=nzQ hfa1
 replace hm1:=nzQ hm1
 have ha1:aq .i64 p1 1=p1+1:=bp omQ omQ
 refine aa ha1 ?_
 have hF:=ha1
 exact auQ
set_option maxHeartbeats 2000000 in
set_option maxRecDepth 100000 in
instance NI (s:(List aP)):CM En (lh s) 6 [.sl none 39 true (s.map bw),.fn 7 []] (fun y=> .bool y) (fun _=> []):=by
 refine cmQ fun r hM=> ?_
 rw [lh.eq_1] at hM
 refine aO aA aK noJ Tryz.func6 rfl Tryz.ntmps6 (by kernel_rfl) fun hw=>aL ?_
 refine spQ ?_
 replace hw:=nzQ hw
 have hF:=ct
 exact auQ
set_option maxHeartbeats 2000000 in
set_option maxRecDepth 100000 in
instance NJ (s:(List aP)) (f__c0:aP):CM En (rr s f__c0) 26 [.sl none 39 true (s.map bw),.fn 15 [.pp 39 true ((bw f__c0))]] (fun y=> .int .i64 y) (fun _=> []):=by
 refine cmQ fun r hM=> ?_
 rw [rr.eq_1] at hM
 refine aO aA aK noJ Tryz.func26 rfl Tryz.ntmps26 (by kernel_rfl) fun hw=>aL ?_
 refine spQ ?_
 replace hw:=nzQ hw
 have hM0:=hM;clear hM;obtain ⟨f1,d1,hf1,hd1,hM⟩:=bd hM0;clear hM0
 refine bF (fun n S=> ∃p:Int,S=(⟨[(0,.sl none 39 true (s.map bw)),(1,.fn 15 [.pp 39 true ((bw f__c0))]),(7,.int .i64 (s.length:Int)),(8,.int .i64 p)],[],0⟩:St)∧((0≤p)∧(p≤(s.length:Int)))∧((s.length:Int) - p).toNat<n∧ao n f1 d1 p=r) (((s.length:Int) - 0).toNat+1) _ sbQ sbQ ⟨0,rfl,⟨omQ,omQ⟩,(Nat.lt_succ_self _),hM⟩ ?_
 clear hM
 rintro n1 S ⟨p1,rfl,hfa1,hm1,hM⟩
 have hM0:=hM;clear hM;obtain ⟨ag1,hag1,hM⟩:=bf hM0 (by omega) hf1;clear hM0
 replace hfa1:=nzQ hfa1
 replace hm1:=nzQ hm1
 have ha1:aq .i64 p1 1=p1+1:=bp omQ omQ
 refine aa ha1 ?_
 have hF:=ha1
 exact auQ
set_option maxHeartbeats 2000000 in
set_option maxRecDepth 100000 in
instance NL (s:(List aP)) (f__c0:aP):CM En (mP s f__c0) 6 [.sl none 39 true (s.map bw),.fn 15 [.pp 39 true ((bw f__c0))]] (fun y=> .bool y) (fun _=> []):=by
 refine cmQ fun r hM=> ?_
 rw [mP.eq_1] at hM
 refine aO aA aK noJ Tryz.func6 rfl Tryz.ntmps6 (by kernel_rfl) fun hw=>aL ?_
 refine spQ ?_
 replace hw:=nzQ hw
 have hF:=ct
 exact auQ
set_option maxHeartbeats 2000000 in
set_option maxRecDepth 100000 in
instance IV (l:(List aP)) (after:Int) (keep:Int) (syncs:Int):CM En (rt l after keep syncs) 3 [.sl none 39 true (l.map bw),.int .i64 after,.int .i64 keep,.int .u8 syncs] (fun y=> .bool y) (fun _=> []):=by
 refine cmQ fun r hM=> ?_
 rw [rt.eq_1] at hM
 refine aO aA aK [25] Tryz.func3 rfl Tryz.ntmps3 (by kernel_rfl) fun hw=>aL ?_
 refine spQ ?_
 replace hw:=nzQ hw
 have hM0:=hM;clear hM;obtain ⟨x1,hx2,hM⟩:=ay hM0;clear hM0
 have hcx1:=cmU hx2
 refine aQ hcx1 clQ clQ (fun hw3=> ?_)
 replace hw3:=nzQ hw3
 refine spQ ?_
 refine aB (fun h4=> ?_) (fun h4=> ?_)
 ·rw [if_pos h4] at hM
  refine aa h4 ?_
  have nh4:=nzQ h4
  try have hr5:=mpQ nh4
  subst hM
  exact ar (av h4)
 ·rw [if_neg (an h4)] at hM
  refine aa h4 ?_
  have nh4:=nzQ h4
  try have hr6:=mpQ nh4
  refine aY (fun h7=> ?_) (fun h7=> ?_)
  ·rw [if_neg (an h7)] at hM
   refine aa h7 ?_
   have nh7:=nzQ h7
   try have hr8:=mpQ nh7
   have hM0:=hM;clear hM;obtain ⟨x9,hx10,hM⟩:=ay hM0;clear hM0
   have hcx9:=cmU hx10
   refine aQ hcx9 clQ clQ (fun hw11=> ?_)
   replace hw11:=nzQ hw11
   refine spQ ?_
   refine aY (fun h12=> ?_) (fun h12=> ?_)
   ·subst h12
    rw [if_neg (by decide)] at hM
    refine spQ ?_
    refine aB (fun h13=> ?_) (fun h13=> ?_)
    ·rw [if_pos h13] at hM
     refine aa h13 ?_
     have nh13:=nzQ h13
     try have hr14:=mpQ nh13
     subst hM
     exact ar (av (And.intro h4 (And.intro h7 h13)))
    ·rw [if_neg (an h13)] at hM
     refine aa h13 ?_
     have nh13:=nzQ h13
     try have hr15:=mpQ nh13
     have hM0:=hM;clear hM;obtain ⟨x16,hx17,hM⟩:=ay hM0;clear hM0
     have hcx16:=cmU hx17
     refine aQ hcx16 clQ clQ (fun hw18=> ?_)
     replace hw18:=nzQ hw18
     refine spQ ?_
     have hM0:=hM;clear hM;obtain ⟨j19,hj19,hM⟩:=kL hM0;clear hM0
     refine kI (fun S=> ∃p:Int×Int×bh,S=(⟨[(0,.sl none 39 true (l.map bw)),(2,.int .i64 keep),(9,.ptr 0 0),(10,.int .i64 p.1),(11,.int .i64 p.2.1)],[(0,.var 3 true (.agg [.sl none 1 false (p.2.2.Bytes.map (V.int .u8)),.int .i64 p.2.2.Durable,.int .i64 p.2.2.After]))],2⟩:St)∧((0≤p.1)∧(p.1≤p.2.1)∧(p.2.1≤(l.length:Int)))∧j19 p=r) ?_ (fun hcut19=> ?_)
     ·clear hM
      rintro S ⟨p19,rfl,hfa19,hM⟩
      replace hfa19:=nzQ hfa19
      have hM0:=hM;clear hM;have hM:=i0 hM0 hj19;clear hM0
      try refine spQ ?_
      have hM0:=hM;clear hM;obtain ⟨x20,hx21,hM⟩:=ay hM0;clear hM0
      have hcx20:=cmU hx21
      refine aQ hcx20 clQ clQ (fun hw22=> ?_)
      replace hw22:=nzQ hw22
      refine spQ ?_
      refine aB (fun h23=> ?_) (fun h23=> ?_)
      ·rw [if_pos h23] at hM
       refine aa h23 ?_
       have nh23:=nzQ h23
       try have hr24:=mpQ nh23
       subst hM
       exact ar (av (And.intro h4 (And.intro h7 (And.intro h13 h23))))
      ·rw [if_neg (an h23)] at hM
       refine aa h23 ?_
       have nh23:=nzQ h23
       try have hr25:=mpQ nh23
       have hM0:=hM;clear hM;obtain ⟨x26,hx27,hM⟩:=ay hM0;clear hM0
       have hcx26:=cmU hx27
       refine aQ hcx26 clQ clQ (fun hw28=> ?_)
       replace hw28:=nzQ hw28
       refine spQ ?_
       refine aB (fun h29=> ?_) (fun h29=> ?_)
       ·rw [if_pos h29] at hM
        refine aa h29 ?_
        have nh29:=nzQ h29
        try have hr30:=mpQ nh29
        have hF:=(And.intro h4 (And.intro h7 (And.intro h13 (And.intro h23 h29))))
        exact auQ
       ·rw [if_neg (an h29)] at hM
        refine aa h29 ?_
        have nh29:=nzQ h29
        try have hr40:=mpQ nh29
        refine aN (by (first|exact omQ|(clear hM;first|(have h9:=cb (d:=p19.1) (by omega) (by omega);exact ah)))) ?_
        refine spQ ?_
        have hF:=(And.intro h4 (And.intro h7 (And.intro h13 (And.intro h23 h29))))
        exact auQ
     ·refine spQ ?_
      have hM0:=hM;clear hM;obtain ⟨f44,d44,hf44,hd44,hM⟩:=bd hM0;clear hM0
      refine bF (fun n S=> ∃p:Int×Int×Int×bh,S=(⟨[(0,.sl none 39 true (l.map bw)),(2,.int .i64 keep),(3,.int .u8 syncs),(9,.ptr 0 0),(10,.int .i64 p.1),(11,.int .i64 p.2.1),(33,.sl none 39 true (l.map bw)),(34,.int .i64 (l.length:Int)),(35,.int .i64 p.2.2.1)],[(0,.var 3 true (.agg [.sl none 1 false (p.2.2.2.Bytes.map (V.int .u8)),.int .i64 p.2.2.2.Durable,.int .i64 p.2.2.2.After]))],1⟩:St)∧((0≤p.2.2.1)∧(p.2.2.1≤(l.length:Int))∧(0≤p.1)∧(p.1≤p.2.2.1)∧(p.2.1=p.2.2.1))∧((l.length:Int) - p.2.2.1).toNat<n∧ao n f44 d44 p=r) (((l.length:Int) - 0).toNat+1) _ sbQ sbQ ⟨(0,0,0,x16),rfl,⟨by (first|exact omQ|(clear hM;first|(have h9:=cb (d:=p44.1) (by omega) (by omega);exact ah))),by (first|exact omQ|(clear hM;first|(have h9:=cb (d:=p44.1) (by omega) (by omega);exact ah))),by (first|exact omQ|(clear hM;first|(have h9:=cb (d:=p44.1) (by omega) (by omega);exact ah))),by (first|exact omQ|(clear hM;first|(have h9:=cb (d:=p44.1) (by omega) (by omega);exact ah))),by (first|exact omQ|(clear hM;first|(have h9:=cb (d:=p44.1) (by omega) (by omega);exact ah)))⟩,(Nat.lt_succ_self _),hM⟩ ?_
      clear hM
      rintro n44 S ⟨p44,rfl,hfa44,hm44,hM⟩
      have hM0:=hM;clear hM;obtain ⟨ag44,hag44,hM⟩:=bf hM0 (by omega) hf44;clear hM0
      replace hfa44:=nzQ hfa44
      replace hm44:=nzQ hm44
      have ha44:aq .i64 p44.2.2.1 1=p44.2.2.1+1:=bp (by (first|exact omQ|(clear hM;first|(have h9:=cb (d:=p44.1) (by omega) (by omega);exact ah)))) (by (first|exact omQ|(clear hM;first|(have h9:=cb (d:=p44.1) (by omega) (by omega);exact ah))))
      refine aa ha44 ?_
      refine aB (fun h45=> ?_) (fun h45=> ?_)
      ·rw [if_pos h45] at hM
       refine aa (And.intro ha44 h45) ?_
       have nh45:=nzQ h45
       try have hr46:=mpQ nh45
       refine aN (by (first|exact omQ|(clear hM;first|(have h9:=cb (d:=p44.1) (by omega) (by omega);exact ah)))) ?_
       have he47:=fun d=>aV (l:=l) (f:=bw) (i:=p44.2.2.1) (by (first|exact omQ|(clear hM;first|(have h9:=cb (d:=p44.1) (by omega) (by omega);exact ah)))) d
       refine aa (And.intro ha44 he47) ?_
       have hM0:=hM;clear hM;obtain ⟨x48,hx49,hM⟩:=ay hM0;clear hM0
       have hcx48:=cmH hx49 (IM (gt l p44.2.2.1) (by (exact Ah (by assumption) _ (dN (by omega)))))
       refine aQ hcx48 (ax (And.intro ha44 he47)) (ax (And.intro ha44 he47)) (fun hw50=> ?_)
       replace hw50:=nzQ hw50
       refine aa (And.intro ha44 he47) ?_
       refine aB (fun h51=> ?_) (fun h51=> ?_)
       ·rw [if_pos h51] at hM
        refine aa (And.intro ha44 (And.intro he47 h51)) ?_
        have nh51:=nzQ h51
        try have hr52:=mpQ nh51
        subst hM
        exact ar (av (And.intro ha44 (And.intro he47 (And.intro h4 (And.intro h7 (And.intro h13 (And.intro h45 h51)))))))
       ·rw [if_neg (an h51)] at hM
        refine aa (And.intro ha44 (And.intro he47 h51)) ?_
        have nh51:=nzQ h51
        try have hr53:=mpQ nh51
        have hM0:=hM;clear hM;obtain ⟨x54,hx55,hM⟩:=ay hM0;clear hM0
        have hcx54:=cmU hx55
        refine aQ hcx54 (ax (And.intro ha44 he47)) (ax (And.intro ha44 he47)) (fun hw56=> ?_)
        replace hw56:=nzQ hw56
        refine aa (And.intro ha44 he47) ?_
        refine aB (fun h57=> ?_) (fun h57=> ?_)
        ·rw [if_pos h57] at hM
         refine aa (And.intro ha44 (And.intro he47 h57)) ?_
         have nh57:=nzQ h57
         try have hr58:=mpQ nh57
         refine aB (fun h59=> ?_) (fun h59=> ?_)
         ·rw [if_pos h59] at hM
          refine aa (And.intro ha44 (And.intro he47 h59)) ?_
          have nh59:=nzQ h59
          try have hr60:=mpQ nh59
          subst hM
          exact ar (av (And.intro ha44 (And.intro he47 (And.intro h4 (And.intro h7 (And.intro h13 (And.intro h45 (And.intro h51 (And.intro h57 h59)))))))))
         ·rw [if_neg (an h59)] at hM
          refine aa (And.intro ha44 (And.intro he47 h59)) ?_
          have nh59:=nzQ h59
          try have hr61:=mpQ nh59
          exact dV _ sbQ sbQ (hcut19 _ ⟨(p44.1,p44.2.1,x54.1),rfl,⟨by (first|exact omQ|(clear hM;first|(have h9:=cb (d:=p44.1) (by omega) (by omega);exact ah))),by (first|exact omQ|(clear hM;first|(have h9:=cb (d:=p44.1) (by omega) (by omega);exact ah))),by (first|exact omQ|(clear hM;first|(have h9:=cb (d:=p44.1) (by omega) (by omega);exact ah)))⟩,hM⟩)
        ·rw [if_neg (an h57)] at hM
         refine aa (And.intro ha44 (And.intro he47 h57)) ?_
         have nh57:=nzQ h57
         try have hr62:=mpQ nh57
         refine aN (by (first|exact omQ|(clear hM;first|(have h9:=cb (d:=p44.1) (by omega) (by omega);exact ah)))) ?_
         refine aa (And.intro ha44 he47) ?_
         refine aB (fun h63=> ?_) (fun h63=> ?_)
         ·rw [if_pos h63] at hM
          refine aa (And.intro ha44 (And.intro he47 h63)) ?_
          have nh63:=nzQ h63
          try have hr64:=mpQ nh63
          refine b_ (n44 - 1) _ (by omega) sbQ sbQ ⟨(p44.1,(p44.2.2.1+1),(p44.2.2.1+1),x54.1),rfl,⟨by (first|exact omQ|(clear hM;first|(have h9:=cb (d:=p44.1) (by omega) (by omega);exact ah))),by (first|exact omQ|(clear hM;first|(have h9:=cb (d:=p44.1) (by omega) (by omega);exact ah))),by (first|exact omQ|(clear hM;first|(have h9:=cb (d:=p44.1) (by omega) (by omega);exact ah))),by (first|exact omQ|(clear hM;first|(have h9:=cb (d:=p44.1) (by omega) (by omega);exact ah))),by (first|exact omQ|(clear hM;first|(have h9:=cb (d:=p44.1) (by omega) (by omega);exact ah)))⟩,by (first|exact omQ|(clear hM;first|(have h9:=cb (d:=p44.1) (by omega) (by omega);exact ah))),ca hM hag44⟩
         ·rw [if_neg (an h63)] at hM
          refine aa (And.intro ha44 (And.intro he47 h63)) ?_
          have nh63:=nzQ h63
          try have hr65:=mpQ nh63
          have hM0:=hM;clear hM;obtain ⟨x66,hx67,hM⟩:=ay hM0;clear hM0
          have hcx66:=cmU hx67
          refine aQ hcx66 (ax (And.intro ha44 he47)) (ax (And.intro ha44 he47)) (fun hw68=> ?_)
          replace hw68:=nzQ hw68
          refine aa (And.intro ha44 he47) ?_
          refine aB (fun h69=> ?_) (fun h69=> ?_)
          ·rw [if_pos h69] at hM
           refine aa (And.intro ha44 (And.intro he47 h69)) ?_
           have nh69:=nzQ h69
           try have hr70:=mpQ nh69
           refine aB (fun h71=> ?_) (fun h71=> ?_)
           ·rw [if_pos h71] at hM
            refine aa (And.intro ha44 (And.intro he47 h71)) ?_
            have nh71:=nzQ h71
            try have hr72:=mpQ nh71
            subst hM
            exact ar (av (And.intro ha44 (And.intro he47 (And.intro h4 (And.intro h7 (And.intro h13 (And.intro h45 (And.intro h51 (And.intro h57 (And.intro h63 (And.intro h69 h71)))))))))))
           ·rw [if_neg (an h71)] at hM
            refine aa (And.intro ha44 (And.intro he47 h71)) ?_
            have nh71:=nzQ h71
            try have hr73:=mpQ nh71
            exact dV _ sbQ sbQ (hcut19 _ ⟨(p44.1,(p44.2.2.1+1),x66.1),rfl,⟨by (first|exact omQ|(clear hM;first|(have h9:=cb (d:=p44.1) (by omega) (by omega);exact ah))),by (first|exact omQ|(clear hM;first|(have h9:=cb (d:=p44.1) (by omega) (by omega);exact ah))),by (first|exact omQ|(clear hM;first|(have h9:=cb (d:=p44.1) (by omega) (by omega);exact ah)))⟩,hM⟩)
          ·rw [if_neg (an h69)] at hM
           refine aa (And.intro ha44 (And.intro he47 h69)) ?_
           have nh69:=nzQ h69
           try have hr74:=mpQ nh69
           refine b_ (n44 - 1) _ (by omega) sbQ sbQ ⟨((p44.2.2.1+1),(p44.2.2.1+1),(p44.2.2.1+1),x66.1),rfl,⟨by (first|exact omQ|(clear hM;first|(have h9:=cb (d:=(p44.2.2.1+1)) (by omega) (by omega);exact ah))),by (first|exact omQ|(clear hM;first|(have h9:=cb (d:=(p44.2.2.1+1)) (by omega) (by omega);exact ah))),by (first|exact omQ|(clear hM;first|(have h9:=cb (d:=(p44.2.2.1+1)) (by omega) (by omega);exact ah))),by (first|exact omQ|(clear hM;first|(have h9:=cb (d:=(p44.2.2.1+1)) (by omega) (by omega);exact ah))),by (first|exact omQ|(clear hM;first|(have h9:=cb (d:=(p44.2.2.1+1)) (by omega) (by omega);exact ah)))⟩,by (first|exact omQ|(clear hM;first|(have h9:=cb (d:=(p44.2.2.1+1)) (by omega) (by omega);exact ah))),ca hM hag44⟩
      ·rw [if_neg (an h45)] at hM
       refine aa (And.intro ha44 h45) ?_
       have nh45:=nzQ h45
       try have hr75:=mpQ nh45
       exact dV _ sbQ sbQ (hcut19 _ ⟨(p44.1,p44.2.1,p44.2.2.2),rfl,⟨by (first|exact omQ|(clear hM;first|(have h9:=cb (d:=(p44.2.2.1+1)) (by omega) (by omega);exact ah))),by (first|exact omQ|(clear hM;first|(have h9:=cb (d:=(p44.2.2.1+1)) (by omega) (by omega);exact ah))),by (first|exact omQ|(clear hM;first|(have h9:=cb (d:=(p44.2.2.1+1)) (by omega) (by omega);exact ah)))⟩,hM⟩)
   ·subst h12
    rw [if_pos rfl] at hM
    refine spQ ?_
    subst hM
    exact ar (av (And.intro h4 h7))
  ·rw [if_pos h7] at hM
   refine aa h7 ?_
   have nh7:=nzQ h7
   try have hr76:=mpQ nh7
   subst hM
   exact ar (av (And.intro h4 h7))
end Go.Proofs.YtlmleoeemmhboaaGreatDoor
namespace Go.Proofs.YtlmleoeemmhboaaGreatDoor
open Go.RowKit
set_option linter.unusedVariables false
set_option linter.unusedSimpArgs false
theorem vr {α:Type} {f:ab→Option α} {g:α→ab} {n:α→α}: ∀{m:List α},(∀a∈m,f (g a)=some (n a))→dA f (m.map g)=some (m.map n)
 | [],_=>rfl
 | a::m,h=>by
  have:=vr (m:=m) (fun b hb=>h b (by simp [hb]))
  simp only [List.map_cons,dA,h a (by simp),this]
theorem g7 {l:List Int} (h:a8 (br l) 8=true):bT (br l)=(l,0):=by
 rw [zP,h]
 have:dA mT (l.map dz)=some (l.map id):=vr (fun a _=>by simp [mT,dz])
 simp [br] at this⊢
 rw [this];rfl
theorem An {α:Type} [Inhabited α] {l:List α} {n:Nat}:aC n (aC n l)=aC n l:=uG bS
def gB (c:bV):bV:={c with Root:=aC 32 c.Root}
theorem vt {c:bV} (h:a8 (cZ c) 8=true):fR (cZ c)=(gB c,0):=by
 have hs:=ka h (by omega)
 have n0:=g7 (hs _ (by simp:br [c.Bank,c.Epoch,c.Denom,c.Depth,c.A]∈_))
 have n2:=g7 (hs _ (by simp:br [c.Sign.Z,c.Sign.A,c.Sign.B,c.Sign.R]∈_))
 unfold fR
 simp only [ak,mS,h]
 have g0:gt (cZ c).L 0=br [c.Bank,c.Epoch,c.Denom,c.Depth,c.A]:=rfl
 have g1:gt (cZ c).L 1=ce (aC 32 c.Root):=rfl
 have g2:gt (cZ c).L 2=br [c.Sign.Z,c.Sign.A,c.Sign.B,c.Sign.R]:=rfl
 simp only [g0,g1,g2,n0,n2]
 simp [cZ,bK,ce,bS,An,gB,gt]
def mY:List Int→List cA
 | a::b::c::l=>⟨a,b,c⟩::mY l
 | _=> []
theorem Ao: ∀{l:List cA},mY (fT l)=l
 | []=>rfl
 | x::l=>by
  simp only [fT,List.flatMap_cons,List.cons_append,List.nil_append,mY]
  rw [show (l.flatMap fun x=> [x.B,x.R1,x.R2])=fT l from rfl,Ao (l:=l)]
theorem IW {R:Type} {l:List Int} {E:Int×List cA→R} {F:(Int×List cA→R)→Int×List cA→R} {d:Int×List cA→R} {m:Nat} (hm:l.length=3*m)
  (hF: ∀ag p,F ag p=if decide (p.1<(l.length:Int))=true then ag (p.1+3,p.2++[⟨gt l p.1,gt l (p.1+1),gt l (p.1+2)⟩]) else E p):
  ∀(fuel k:Nat) (a:List cA),k≤m→l.length - 3*k<fuel→ao fuel F d (((3*k:Nat):Int),a)=E ((l.length:Int),a++mY (l.drop (3*k))):=by
 intro fuel
 induction fuel with
 | zero=>intro k a _ h;omega
 | succ n ih=>
  intro k a hl h
  rw [ao,hF]
  by_cases hk:k<m
  ·rw [if_pos (decide_eq_true (show ((3*k:Nat):Int)<_ by omega))]
   have:=ih (k+1) (a++[⟨gt l ((3*k:Nat):Int),gt l (((3*k:Nat):Int)+1),gt l (((3*k:Nat):Int)+2)⟩]) (by omega) (by omega)
   rw [show ((3*(k+1):Nat):Int)=((3*k:Nat):Int)+3 by omega] at this
   show ao n F d (((3*k:Nat):Int)+3,_)=_
   rw [this]
   have h0:3*k<l.length:=by omega
   have h1:3*k+1<l.length:=by omega
   have h2:3*k+2<l.length:=by omega
   have e0:gt l ((3*k:Nat):Int)=l[3*k]:=by rw [lx];simp [List.getD_eq_getElem?_getD,h0]
   have e1:gt l (((3*k:Nat):Int)+1)=l[3*k+1]:=by rw [show ((3*k:Nat):Int)+1=((3*k+1:Nat):Int) by omega,lx];simp [List.getD_eq_getElem?_getD,h1]
   have e2:gt l (((3*k:Nat):Int)+2)=l[3*k+2]:=by rw [show ((3*k:Nat):Int)+2=((3*k+2:Nat):Int) by omega,lx];simp [List.getD_eq_getElem?_getD,h2]
   rw [List.drop_eq_getElem_cons h0,List.drop_eq_getElem_cons h1,List.drop_eq_getElem_cons h2,e0,e1,e2]
   simp only [mY,List.append_assoc,List.singleton_append]
   rw [show 3*k+2+1=3*(k+1) by omega]
  ·have e:k=m:=by omega
   subst e
   rw [if_neg (by simp;omega),List.drop_eq_nil_of_le (by omega)]
   rw [show ((3*k:Nat):Int)=(l.length:Int) by omega]
   simp [mY]
theorem Ap {α τ R:Type} {f:ab→Option α} {E:τ×List α→R} {z:R} {t:τ}: ∀{l:List ab} {s:List α},
  dp (fun a (s:τ×List α)=>eP (.inr z) (fun y=> .inl (s.1,s.2++[y])) (f a)) E l (t,s)=eP z (fun m=>E (t,s++m)) (dA f l)
 | [],s=>by simp [dp,dA,eP]
 | a::l,s=>by
  simp only [dp,dA]
  cases f a with
  | none=>rfl
  | some y=>
   have ih:=Ap (f:=f) (E:=E) (z:=z) (t:=t) (l:=l) (s:=s++[y])
   refine ih.trans ?_
   cases dA f l<;>simp [eP]
theorem IX (i:ab):fS i=if i.Kind==2&&decide (i.B.length=32) then (aC 32 i.B,true) else ([0,0,0,0,0,0,0,0,0,0,0,0,0,0,0,0,0,0,0,0,0,0,0,0,0,0,0,0,0,0,0,0],false):=by
 unfold fS
 by_cases h1:i.Kind=2
 ·by_cases h2:i.B.length=32
  ·have h3:spl ([0,0,0,0,0,0,0,0,0,0,0,0,0,0,0,0,0,0,0,0,0,0,0,0,0,0,0,0,0,0,0,0]:List Int) 0 (min 32 i.B.length) i.B=i.B:=by
    rw [h2];simp only [spl,Nat.min_self,List.take_zero,List.nil_append,Nat.zero_add]
    rw [←h2,List.take_length,h2];simp
   rw [h3];simp [h1,h2]
  ·have h4: ¬(i.B.length:Int)=32:=by omega
   simp [h1,h2,h4]
 ·simp [h1]
def ln (a:ab):Option (List Int):=if (fS a).2=true then some (fS a).1 else none
theorem Aq {h:List Int}:ln (ce (aC 32 h))=some (aC 32 h):=by
 simp [ln,IX,ce,bS,An]
theorem Ar {a b:Int} (h:a8 (br [a,b]) 8=true):mK (br [a,b])=(a,b,true):=by
 unfold mK
 simp only [ak,g7 h]
 simp [gt]
theorem IY {α:Type} {l:List α}:sl l 1 (l.length:Int)=l.drop 1:=by
 simp only [sl,Int.toNat_natCast]
 exact List.take_of_length_le (by simp)
theorem IZ {t:List ab} {q:aS} {E:aS×List (List Int)→aS×Int}:
  ao (((t.length:Int) - 0).toNat+1) (fun (ag:(Int×aS×List (List Int))→(aS×Int)) p=>if decide (p.1<(t.length:Int))=true then (if (!(fS (gt t p.1)).2)=true then (cI,3) else ag (p.1+1,p.2.1,p.2.2++[(fS (gt t p.1)).1])) else E p.2) (fun _=>default) (0,q,[])=eP (cI,(3:Int)) (fun m=>E (q,m)) (dA ln t):=by
 have:=oc (l:=t) (d:=fun _=>default) (F:=fun (ag:(Int×aS×List (List Int))→(aS×Int)) p=>if decide (p.1<(t.length:Int))=true then (if (!(fS (gt t p.1)).2)=true then (cI,3) else ag (p.1+1,p.2.1,p.2.2++[(fS (gt t p.1)).1])) else E p.2) (s:=(q,[]))
  (fun a (s:aS×List (List Int))=>eP (.inr (cI,(3:Int))) (fun y=> .inl (s.1,s.2++[y])) (ln a)) E (fun ag j s=>by
   by_cases h:j<(t.length:Int)
   ·cases h2:(fS (gt t j)).2<;>simp [h,h2,ln,eP]
   ·simp [h])
 refine this.trans (Ap.trans ?_)
 simp
theorem n33: ¬(((3:Int) !=3)=true):=by decide
theorem n66: ¬(((6:Int) !=6)=true):=by decide
theorem kd {α β:Type} {a:α} {f:α→β} {r:β} (h: ∀x,x=a→f x=r):ak a f=r:=h a rfl
theorem ifn {α:Type} {c:Prop} [Decidable c] {a b r:α} (hc: ¬c) (h:b=r):(if c then a else b)=r:=by rw [if_neg hc];exact h
def As (x:iB):iB:={x with Payee:=aC 32 x.Payee}
def dQ (s:aS):aS:={s with Coin:=gB s.Coin,Context:=As s.Context,Path:={s.Path with L:=s.Path.L.map (aC 32)}}
theorem I0 {s:aS} (h:a8 (da s) 8=true):gX (da s)=(dQ s,0):=by
 have hs:=ka h (by omega)
 have w0:=hs _ (by simp:cZ s.Coin∈_)
 have w1:=hs _ (by simp:br [s.Node.Level,s.Node.Index]∈_)
 have w3:=hs _ (by simp:br [s.Context.Time,s.Context.Number]∈_)
 have w4:=hs _ (by simp:br (fT s.Leaves)∈_)
 have hm:(fT s.Leaves).length=3*s.Leaves.length:=by
  unfold fT
  induction s.Leaves with
  | nil=>rfl
  | cons a l ih=>rw [List.flatMap_cons,List.length_append,ih];simp;omega
 unfold gX
 refine kd fun x1 e1=> ?_
 rw [mS,h] at e1
 subst e1
 refine ifn (by decide) (ifn n33 (ifn n66 ?_))
 refine kd fun x8 e8=> ?_
 refine kd fun x12 e12=> ?_
 refine kd fun x16 e16=> ?_
 refine kd fun x20 e20=> ?_
 refine kd fun x24 e24=> ?_
 have f8:x8=(gB s.Coin,0):=e8.trans (vt w0)
 have f12:x12=(s.Node.Level,s.Node.Index,true):=e12.trans (Ar w1)
 have f20:x20=(s.Context.Time,s.Context.Number,true):=e20.trans (Ar w3)
 have f24:x24=(fT s.Leaves,0):=e24.trans (g7 w4)
 have f16:x16=(aC 32 s.Context.Payee,true):=by
  have:=Aq (h:=s.Context.Payee)
  unfold ln at this
  have g2:gt (da s).L 2=ce (aC 32 s.Context.Payee):=rfl
  rw [g2] at e16
  rw [←e16] at this
  split at this
  ·rename_i h2
   exact Prod.ext (Option.some.inj this) h2
  ·cases this
 clear e8 e12 e16 e20 e24
 subst f8 f12 f16 f20 f24
 refine ifn (by simp) (ifn (by simp) (ifn (by simp) (ifn (by simp) (ifn (by simp) (ifn ?_ (ifn n33 (ifn ?_ (ifn n11 ?_))))))))
 ·simp only [hm,eX];simp
 ·have g5:gt (da s).L 5=bK (dz s.Path.Index::s.Path.L.map fun h=>ce (aC 32 h)):=rfl
  rw [g5];simp [bK];omega
 have g5:gt (da s).L 5=bK (dz s.Path.Index::s.Path.L.map fun h=>ce (aC 32 h)):=rfl
 rw [g5]
 simp only [IY]
 refine (IW (l:=fT s.Leaves) (m:=s.Leaves.length) hm (d:=fun _=>default) (fun ag p=>rfl) (((fT s.Leaves).length:Int) - 0|>.toNat.succ) 0 [] (by omega) (by omega)).trans ?_
 simp only [List.nil_append,Nat.mul_zero,List.drop_zero,Ao]
 have hr:dA ln (s.Path.L.map fun h=>ce (aC 32 h))=some (s.Path.L.map (aC 32)):=vr (g:=fun h=>ce (aC 32 h)) (fun a _=>Aq)
 refine (IZ (t:=(bK (dz s.Path.Index::s.Path.L.map fun h=>ce (aC 32 h))).L.drop 1) (q:=cI) (E:=fun p=>(⟨gB s.Coin,⟨s.Node.Level,s.Node.Index⟩,⟨aC 32 s.Context.Payee,s.Context.Time,s.Context.Number⟩,s.Leaves,⟨s.Path.Index,p.2⟩⟩,0))).trans ?_
 have e:(bK (dz s.Path.Index::s.Path.L.map fun h=>ce (aC 32 h))).L.drop 1=s.Path.L.map fun h=>ce (aC 32 h):=rfl
 rw [e,hr]
 rfl
theorem I1 (i:ab):gW i=if a8 i 8=false then ([],1) else if (bQ i).length>16384 then ([],5) else (bQ i,0):=by
 unfold gW
 refine kd fun x1 e1=> ?_
 rw [mS] at e1
 subst e1
 by_cases hv:a8 i 8=true
 ·simp only [hv,Bool.not_true,Bool.false_eq_true,if_false,ak]
  rcases zl i [] 8 hv with e|⟨e1,e2⟩
  ·rw [e]
   simp only [List.nil_append]
   by_cases h:(bQ i).length>16384
   ·have:((bQ i).length:Int)>16384:=by omega
    simp [h,this]
   ·have: ¬((bQ i).length:Int)>16384:=by omega
    simp [h,this]
  ·simp only [List.nil_append] at e2
   have h1:((eN [] i).length:Int)>16384:=by omega
   have h2:(bQ i).length>16384:=e2
   simp [h1,h2]
 ·have hv':a8 i 8=false:=by simpa using hv
  simp [hv']
theorem I2 {b:List Int} (hb:isB b):(∃i,k8 b=(i,0)∧rdI 8 b= .ok (i,[])∧b.length≤16384)∨((k8 b).2≠0∧(b.length≤16384→ ∀i,rdI 8 b≠ .ok (i,[]))):=by
 unfold k8
 by_cases hl:(b.length:Int)>16384
 ·right
  rw [if_pos (by simpa using hl)]
  exact ⟨by simp,fun h=>by omega⟩
 rw [if_neg (by simpa using hl)]
 have h8:cJ ⟨b,0⟩ 8=fg 8 ⟨b,0⟩:=rfl
 have hr:=zf 8 b hb
 simp only [ak,gj,h8,oM]
 cases hd:rdI 8 b with
 | error e=>
  rw [hd] at hr
  simp only [dx] at hr
  right
  refine ⟨?_,fun _ i h=>by cases h⟩
  have hne:(fg 8 ⟨b,0⟩).2.e≠0:=by rw [hr.1];exact hr.2
  have hf:(dO (fg 8 ⟨b,0⟩).2 3).e≠0:=by unfold dO;simp [hne]
  split<;>simp [hne,hf]
 | ok p=>
  obtain ⟨i,r⟩:=p
  rw [hd] at hr
  simp only [dx] at hr
  rw [hr]
  cases r with
  | nil=>left;exact ⟨i,by simp,rfl,by omega⟩
  | cons x r=>
   right
   refine ⟨?_,fun _ j h=>by cases h⟩
   simp [dO]
theorem I3 {i:ab} (hw:a8 i 8=true) (ho:okI i):rdI 8 (bQ i)= .ok (i,[]):=by
 have:=GL 8 i [] hw ho
 simpa using this
theorem mZ {α:Type} [Inhabited α] {l:List α} {n:Nat} {i:Int} (h0:0≤i) (h:i.toNat<n):gt (aC n l) i=gt l i:=by
 have:=uH (l:=l) (k:=n) (i:=0) (j:=i.toNat) h
 unfold aC
 rw [show gt (eZ l n 0) i=(eZ l n ((0:Nat):Int)).getD i.toNat default from rfl,this]
 congr 1;omega
theorem ke {n:Int} {C:Int→Bool} {X:Bool} {F:(Int→Bool)→Int→Bool} {d:Int→Bool} (hF: ∀ag p,F ag p=if decide (p<n)=true then (if C p=true then ag (p+1) else false) else X)
  (hC: ∀p,0≤p→p<n→C p=true) (hX:X=true):ao ((n - 0).toNat+1) F d 0=true:=
 (GC hF _ 0 (by omega)).2 ⟨hC,hX⟩
theorem vu {l m:List Int} (h1:isB l) (h2:isB m):isB (l++m):=fun x hx=>by
 rcases List.mem_append.1 hx with h|h
 ·exact h1 x h
 ·exact h2 x h
theorem vw {x:Int} {l:List Int} (h1:0≤x∧x≤255) (h2:isB l):isB (x::l):=fun y hy=>by
 rcases List.mem_cons.1 hy with rfl|h
 ·exact h1
 ·exact h2 y h
mutual
theorem At: ∀(i:ab),okI i→isB (bQ i)
 | ⟨k,n,b,l⟩,h=>by
  simp only [okI] at h
  simp only [bQ]
  split
  ·exact vw (by omega) qZ
  split
  ·exact vw (by omega) (vu qZ h.2.1)
  ·exact vw (by omega) (vu qZ (Au l h.2.2.2))
theorem Au: ∀(l:List ab),okL l→isB (gy l)
 | [],_=>fun x hx=>by cases hx
 | x::l,h=>by
  simp only [okL] at h
  simp only [gy]
  exact vu (At x h.1) (Au l h.2)
end
theorem Av: ∀{l:List ab},(∀x∈l,okI x)→okL l
 | [],_=>trivial
 | x::l,h=>⟨h x (by simp),Av (fun y hy=>h y (by simp [hy]))⟩
theorem Aw:isB []:=fun x hx=>by cases hx
def r64 (n:Int):Prop:= -9223372036854775808≤n∧n≤9223372036854775807
theorem vx {n:Int} (h:r64 n):okI (dz n):=⟨h,Aw,by decide,trivial⟩
theorem g8 {l:List ab} (h: ∀x∈l,okI x):okI (bK l):=⟨by omega,Aw,by simp,Av h⟩
theorem gC {l:List Int} (h: ∀x∈l,r64 x):okI (br l):=g8 (fun x hx=>by
 obtain ⟨n,hn,rfl⟩:=List.mem_map.1 hx
 exact vx (h n hn))
theorem rK {b:List Int} (h:isB b) (hl:b.length=32):okI (ce b):=⟨by omega,h,by omega,trivial⟩
theorem kf {α:Type} {f:α→V}: ∀{l:List α},wfL (l.map f)→ ∀x∈l,wfV (f x)
 | a::l,h,x,hx=>by
  simp only [List.map_cons,wfL] at h
  rcases List.mem_cons.1 hx with rfl|h1
  ·exact h.1
  ·exact kf h.2 x h1
theorem rL {l:List Int} (h:wfV (bP l)):isB (aC 32 l):=by
 refine kW ?_
 simp only [bP,wfV,wfL] at h
 simp only [aC,eZ,List.map_cons,List.map_nil,wfL,wfV,Int.zero_add,Int.reduceAdd]
 exact h
theorem vy {c:bV} (h:wfV (dM c)):okI (cZ c):=by
 have ha:wfV (bP c.Root):=by
  simp only [dM,bP,wfV,wfL] at h⊢
  simp only [h,and_self]
 simp only [dM,wfV,wfL,dn] at h
 refine g8 (fun x hx=> ?_)
 simp only [List.mem_cons,List.not_mem_nil,or_false] at hx
 rcases hx with rfl|rfl|rfl
 ·refine gC (fun x hx=> ?_)
  simp only [List.mem_cons,List.not_mem_nil,or_false] at hx
  rcases hx with rfl|rfl|rfl|rfl|rfl<;>simp only [r64,h,and_self]
 ·exact rK (rL ha) bS
 ·refine gC (fun x hx=> ?_)
  simp only [List.mem_cons,List.not_mem_nil,or_false] at hx
  rcases hx with rfl|rfl|rfl|rfl<;>simp only [r64,h,and_self]
theorem I4 {l:List cA} (h:wfL (l.map eK)): ∀x∈fT l,r64 x:=by
 intro x hx
 obtain ⟨y,hy,hx⟩:=List.mem_flatMap.1 hx
 have:=kf h y hy
 simp only [eK,wfV,wfL,dn] at this
 simp only [List.mem_cons,List.not_mem_nil,or_false] at hx
 rcases hx with rfl|rfl|rfl<;>simp only [r64,this,and_self]
theorem I5 {s:aS} (h:wfV (cB s)):okI (da s):=by
 have hc:wfV (dM s.Coin):=by
  simp only [cB,dM,wfV,wfL] at h⊢
  simp only [h,and_self]
 have hp:wfV (bP s.Context.Payee):=by
  simp only [cB,bP,wfV,wfL] at h⊢
  simp only [h,and_self]
 have hn:r64 s.Node.Level∧r64 s.Node.Index∧r64 s.Context.Time∧r64 s.Context.Number∧r64 s.Path.Index∧wfL (s.Leaves.map eK)∧wfL (s.Path.L.map bP):=by
  simp only [cB,wfV,wfL,dn] at h
  simp only [r64,h,and_self]
 obtain ⟨n1,n2,n3,n4,n5,n6,n7⟩:=hn
 refine g8 (fun x hx=> ?_)
 simp only [List.mem_cons,List.not_mem_nil,or_false] at hx
 rcases hx with rfl|rfl|rfl|rfl|rfl|rfl
 ·exact vy hc
 ·exact gC (fun x hx=>by simp only [List.mem_cons,List.not_mem_nil,or_false] at hx;rcases hx with rfl|rfl<;>assumption)
 ·exact rK (rL hp) bS
 ·exact gC (fun x hx=>by simp only [List.mem_cons,List.not_mem_nil,or_false] at hx;rcases hx with rfl|rfl<;>assumption)
 ·exact gC (I4 n6)
 ·refine g8 (fun x hx=> ?_)
  rcases List.mem_cons.1 hx with rfl|hx
  ·exact vx n5
  ·obtain ⟨y,hy,rfl⟩:=List.mem_map.1 hx
   exact rK (rL (kf n7 y hy)) bS
theorem I6 {l:List aS} (h:wfL (l.map cB)):okI (bK (l.map da)):=g8 (fun x hx=>by
 obtain ⟨y,hy,rfl⟩:=List.mem_map.1 hx
 exact I5 (kf h y hy))
theorem Ax (a b:List Int):oB [a,b]=a++b:=by
 unfold oB ak ri
 have g0:gt [a,b] (0:Int)=a:=rfl
 have g1:gt [a,b] (1:Int)=b:=rfl
 have n0: ¬((a.length:Int)<0):=by omega
 have n1: ¬((a.length:Int)+(b.length:Int)<0):=by omega
 simp [ao,g0,g1,n0,n1]
def fU:List Int→List (List Int)
 | a::b::l=> [a,b]::fU l
 | _=> []
theorem Ay: ∀X:List (List Int),fU (bZ X)=X.map fun p=> [gt p 0,gt p 1]
 | []=>rfl
 | p::X=>by
  have:=Ay X
  simp only [bZ,List.flatMap_cons] at this⊢
  simp only [List.cons_append,List.nil_append,fU,List.map_cons,this]
def fin (a s f v:List Int) (c:bV) (X:List (List Int)):bg:=
 {Phase:=gt a 0,Number:=gt a 1,Bank:=gt a 2,Epoch:=gt a 3,Denom:=gt a 4,Depth:=gt a 5,Secret:={U:=gt s 0,S:=gt s 1,X:=X},Factors:={S:=gt f 0,U:=gt f 1,V:=gt f 2},View:={M:=gt v 0,Z:=gt v 1,A:=gt v 2,B:=gt v 3,C:=gt v 4,R:=gt v 5},Coin:=c}
theorem I7 {s:List Int} {R:Type} {E:Int×List (List Int)→R} {F:(Int×List (List Int)→R)→Int×List (List Int)→R} {d:Int×List (List Int)→R} (he:s.length% 2=0) (h2:2≤s.length)
  (hF: ∀ag p,F ag p=if decide (p.1<(s.length:Int))=true then ag (p.1+2,p.2++([[gt s p.1,gt s (p.1+1)]]:List (List Int))) else E p):
  ao (((s.length:Int) - 2).toNat+1) F d (2,[])=E ((s.length:Int),fU (s.drop 2)):=by
 have key: ∀(n:Nat) (k:Nat) (o:List (List Int)),s.length=2*n+k→ ∀fuel,n<fuel→ao fuel F d ((k:Int),o)=E ((s.length:Int),o++fU (s.drop k)):=by
  intro n
  induction n with
  | zero=>
   intro k o h1 fuel hf
   obtain ⟨f,rfl⟩: ∃f,fuel=f+1:=⟨fuel - 1,by omega⟩
   have:k=s.length:=by omega
   subst this
   rw [ao,hF,if_neg (by simp)]
   simp [fU]
  | succ n ih=>
   intro k o h1 fuel hf
   obtain ⟨f,rfl⟩: ∃f,fuel=f+1:=⟨fuel - 1,by omega⟩
   rw [ao,hF,if_pos (by simp;omega)]
   have:=ih (k+2) (o++[[gt s k,gt s (k+1)]]) (by omega) f (by omega)
   simp only [Int.natCast_add] at this
   refine this.trans ?_
   have hk:k<s.length:=by omega
   have hk1:k+1<s.length:=by omega
   rw [List.drop_eq_getElem_cons hk,List.drop_eq_getElem_cons hk1]
   have e:gt s (k:Int)=s[k]:=by simp [gt,List.getD_eq_getElem?_getD,hk]
   have e1:gt s ((k:Int)+1)=s[k+1]:=by
    have:((k:Int)+1).toNat=k+1:=by omega
    simp [gt,List.getD_eq_getElem?_getD,this,hk1]
   simp only [fU,e,e1,List.append_assoc,List.singleton_append]
 have:=key ((s.length - 2)/2) 2 [] (by omega) (((s.length:Int) - 2).toNat+1) (by omega)
 simpa using this
theorem I8 {R:Type} {F:(Int×bg×List (List Int)→R)→Int×bg×List (List Int)→R} {d:Int×bg×List (List Int)→R} {N:Int→List Int×Int} {z:R} {E:List (List Int)→R} {w0:bg}
  (hF: ∀ag p,F ag p=if decide (p.1<4)=true then (ak (N p.1) fun x=>if (x.2 !=0)=true then z else ag (p.1+1,p.2.1,aC 4 (st (aC 4 p.2.2) p.1 x.1))) else E p.2.2):
  ao (((4:Int) - 0).toNat+1) F d (0,w0,[([]:List Int),([]:List Int),([]:List Int),([]:List Int)])=
   if (N 0).2≠0 then z else if (N 1).2≠0 then z else if (N 2).2≠0 then z else if (N 3).2≠0 then z else E [(N 0).1,(N 1).1,(N 2).1,(N 3).1]:=by
 show ao 5 F d _=_
 have r0: ∀a,ao 5 F d a=F (ao 4 F d) a:=fun _=>rfl
 have r1: ∀a,ao 4 F d a=F (ao 3 F d) a:=fun _=>rfl
 have r2: ∀a,ao 3 F d a=F (ao 2 F d) a:=fun _=>rfl
 have r3: ∀a,ao 2 F d a=F (ao 1 F d) a:=fun _=>rfl
 have r4: ∀a,ao 1 F d a=F (ao 0 F d) a:=fun _=>rfl
 have e0:aC 4 (st (aC 4 [([]:List Int),[],[],[]]) 0 (N 0).1)=[(N 0).1,[],[],[]]:=rfl
 have e1:aC 4 (st (aC 4 [(N 0).1,[],[],[]]) 1 (N 1).1)=[(N 0).1,(N 1).1,[],[]]:=rfl
 have e2:aC 4 (st (aC 4 [(N 0).1,(N 1).1,[],[]]) 2 (N 2).1)=[(N 0).1,(N 1).1,(N 2).1,[]]:=rfl
 have e3:aC 4 (st (aC 4 [(N 0).1,(N 1).1,(N 2).1,[]]) 3 (N 3).1)=[(N 0).1,(N 1).1,(N 2).1,(N 3).1]:=rfl
 rw [r0,hF,if_pos (show decide ((0:Int)<4)=true from rfl)]
 simp only [ak,bne_iff_ne]
 split
 ·rfl
 rw [e0,show (0:Int)+1=1 from rfl,r1,hF,if_pos (show decide ((1:Int)<4)=true from rfl)]
 simp only [ak,bne_iff_ne]
 split
 ·rfl
 rw [e1,show (1:Int)+1=2 from rfl,r2,hF,if_pos (show decide ((2:Int)<4)=true from rfl)]
 simp only [ak,bne_iff_ne]
 split
 ·rfl
 rw [e2,show (2:Int)+1=3 from rfl,r3,hF,if_pos (show decide ((3:Int)<4)=true from rfl)]
 simp only [ak,bne_iff_ne]
 split
 ·rfl
 rw [e3,show (3:Int)+1=4 from rfl,r4,hF,if_neg (show¬decide ((4:Int)<4)=true by decide)]
def m0 (a s f v:List Int) (c:bV) (o:Bool):bg×Int:=
 if o=true∧a.length=6∧2≤s.length∧s.length% 2=0∧f.length=3∧v.length=6 then (fin a s f v c (fU (s.drop 2)),0) else (bO,3)
theorem rM (n:Nat):cD .i64 (n:Int) 2=((n% 2:Nat):Int):=by rw [eX];omega
theorem I9 {a s f v:List Int} {c:bV} {o:Bool} {F:(Int×List (List Int)→bg×Int)→Int×List (List Int)→bg×Int} {d:Int×List (List Int)→bg×Int}
  (hF: ∀ag p,F ag p=if decide (p.1<(s.length:Int))=true then ag (p.1+2,p.2++([[gt s p.1,gt s (p.1+1)]]:List (List Int))) else (fin a s f v c p.2,0)):
  (if (!o)=true then (bO,3) else if ((a.length:Int) !=6)=true then (bO,3) else if decide ((s.length:Int)<2)=true then (bO,3) else if (cD .i64 (s.length:Int) 2 !=0)=true then (bO,3) else if ((f.length:Int) !=3)=true then (bO,3) else if ((v.length:Int) !=6)=true then (bO,3) else ao (((s.length:Int) - 2).toNat+1) F d (2,[]))=m0 a s f v c o:=by
 unfold m0
 cases o
 ·simp
 by_cases h1:a.length=6
 ·by_cases h2:2≤s.length
  ·by_cases h3:s.length% 2=0
   ·by_cases h4:f.length=3
    ·by_cases h5:v.length=6
     ·rw [if_neg (by decide),if_neg (by simp [h1]),if_neg (by simp;omega),if_neg (by rw [rM,h3];decide),if_neg (by simp [h4]),if_neg (by simp [h5]),I7 (E:=fun p=>(fin a s f v c p.2,0)) h3 h2 hF,if_pos ⟨rfl,h1,h2,h3,h4,h5⟩]
     ·rw [if_neg (by decide),if_neg (by simp [h1]),if_neg (by simp;omega),if_neg (by rw [rM,h3];decide),if_neg (by simp [h4]),if_pos (by simp;omega),if_neg (by simp [h5])]
    ·rw [if_neg (by decide),if_neg (by simp [h1]),if_neg (by simp;omega),if_neg (by rw [rM,h3];decide),if_pos (by simp;omega),if_neg (by simp [h4])]
   ·rw [if_neg (by decide),if_neg (by simp [h1]),if_neg (by simp;omega),if_pos (by rw [rM];simp;omega),if_neg (by simp [h3])]
  ·rw [if_neg (by decide),if_neg (by simp [h1]),if_pos (by simp;omega),if_neg (by simp [h2])]
 ·rw [if_neg (by decide),if_pos (by simp;omega),if_neg (by simp [h1])]
def kg (i:ab):bg×Int:=
 if a8 i 8=false then (bO,1) else if i.Kind≠3∨i.L.length≠5 then (bO,3) else
 if (bT (gt i.L 0)).2≠0∨(bT (gt i.L 1)).2≠0∨(bT (gt i.L 2)).2≠0∨(bT (gt i.L 3)).2≠0 then (bO,3) else
 m0 (bT (gt i.L 0)).1 (bT (gt i.L 1)).1 (bT (gt i.L 2)).1 (bT (gt i.L 3)).1 (fR (gt i.L 4)).1 (decide ((fR (gt i.L 4)).2=0))
theorem I_ {e:Int}:(e !=0)= !decide (e=0):=by by_cases h:e=0<;>simp [h]
theorem Ja {i:ab} (hv:a8 i 8=false):kg i=(bO,1):=by
 unfold kg
 rw [if_pos hv]
theorem Az {i:ab} (hv:a8 i 8=true) (h:i.Kind≠3∨i.L.length≠5):kg i=(bO,3):=by
 unfold kg
 rw [if_neg (by rw [hv];decide),if_pos h]
theorem Jb {i:ab} (hv:a8 i 8=true) (hk:i.Kind=3) (hl:i.L.length=5):kg i=if (bT (gt i.L 0)).2≠0∨(bT (gt i.L 1)).2≠0∨(bT (gt i.L 2)).2≠0∨(bT (gt i.L 3)).2≠0 then (bO,3) else
 m0 (bT (gt i.L 0)).1 (bT (gt i.L 1)).1 (bT (gt i.L 2)).1 (bT (gt i.L 3)).1 (fR (gt i.L 4)).1 (decide ((fR (gt i.L 4)).2=0)):=by
 unfold kg
 rw [if_neg (by rw [hv];decide),if_neg (by simp [hk,hl])]
theorem Jc {a b c d:Int} {α:Type} {z e:α}:(if a≠0 then z else if b≠0 then z else if c≠0 then z else if d≠0 then z else e)=if a≠0∨b≠0∨c≠0∨d≠0 then z else e:=by
 by_cases h0:a=0<;>by_cases h1:b=0<;>by_cases h2:c=0<;>by_cases h3:d=0<;>simp [h0,h1,h2,h3]
theorem Jd (i:ab):gY i=kg i:=by
 unfold gY
 refine kd fun x1 h1=> ?_
 rw [mS] at h1
 subst h1
 cases hv:a8 i 8 with
 | false=>rw [if_pos (by decide),Ja hv]
 | true=>
 rw [if_neg (by decide)]
 by_cases hk:i.Kind=3
 ·by_cases hl:i.L.length=5
  ·rw [if_neg (by simp [hk]),if_neg (by simp;omega),Jb hv hk hl]
   refine (I8 (N:=fun k=>bT (gt i.L k)) (z:=(bO,3)) (E:=fun L=>m0 (gt L 0) (gt L 1) (gt L 2) (gt L 3) (fR (gt i.L 4)).1 (decide ((fR (gt i.L 4)).2=0))) ?_).trans Jc
   intro ag p
   by_cases hp:decide (p.1<4)=true
   ·rw [if_pos hp,if_pos hp]
   ·rw [if_neg hp,if_neg hp]
    simp only [ak]
    rw [I_]
    exact I9 (fun ag p=>rfl)
  ·rw [if_neg (by simp [hk]),if_pos (by simp;omega),Az hv (.inr hl)]
 ·rw [if_pos (by simp [hk]),Az hv (.inl hk)]
theorem AA (p:List Int):jb [gt p 0,gt p 1] p=true:=by
 simp only [jb]
 rw [show gt [gt p 0,gt p 1] 0=gt p 0 from rfl,show gt [gt p 0,gt p 1] 1=gt p 1 from rfl]
 simp
theorem Je {α:Type} {c:Bool} {x y:α}:(if (!c)=true then x else y)=if c=true then y else x:=by cases c<;>rfl
theorem Jf {a b:bg} (h0:a.Secret.X.length=b.Secret.X.length) (h1: ∀j:Int,0≤j→j<a.Secret.X.length→jb (gt a.Secret.X j) (gt b.Secret.X j)=true)
  (h2:a.Phase=b.Phase∧a.Number=b.Number∧a.Bank=b.Bank∧a.Epoch=b.Epoch∧a.Denom=b.Denom∧a.Depth=b.Depth∧a.Secret.U=b.Secret.U∧a.Secret.S=b.Secret.S∧a.Factors=b.Factors∧a.View=b.View) (h3:eL a.Coin b.Coin=true):jh a b=true:=by
 unfold jh
 rw [if_neg (by simp [h0])]
 refine ke (C:=fun p=>jb (gt a.Secret.X p) (gt b.Secret.X p)) (X:=(if (a.Phase==b.Phase) then (if (a.Number==b.Number) then (if (a.Bank==b.Bank) then (if (a.Epoch==b.Epoch) then (if (a.Denom==b.Denom) then (if (a.Depth==b.Depth) then (if (a.Secret.U==b.Secret.U) then (if (a.Secret.S==b.Secret.S) then (if (qX (a.Factors) (b.Factors)) then (if (qY (a.View) (b.View)) then (eL (a.Coin) (b.Coin)) else false) else false) else false) else false) else false) else false) else false) else false) else false) else false)) (fun ag p=>by simp only [Je]) h1 ?_
 obtain ⟨p1,p2,p3,p4,p5,p6,p7,p8,p9,p10⟩:=h2
 rw [if_pos (beq_iff_eq.2 p1),if_pos (beq_iff_eq.2 p2),if_pos (beq_iff_eq.2 p3),if_pos (beq_iff_eq.2 p4),if_pos (beq_iff_eq.2 p5),if_pos (beq_iff_eq.2 p6),if_pos (beq_iff_eq.2 p7),if_pos (beq_iff_eq.2 p8),p9,p10]
 rw [if_pos (by simp [qX]),if_pos (by simp [qY])]
 exact h3
theorem Jg (c:bV):eL (gB c) c=true:=by simp [eL,gB,mZ]
theorem rN {l:List Int} (h:l.length≤1000) {d:Int} (hd:2≤d):a8 (br l) d=true:=by
 simp only [br,a8,q7,List.length_map,List.all_map]
 simp
 refine ⟨by omega,by omega,fun x hx=> ?_⟩
 simp [dz,a8]
theorem Jh {w:bg} (h:w.Secret.X.length≤40):a8 (wI w) 8=true:=by
 have hf:=mU w.Secret.X
 have h1:=rN (l:=[w.Phase,w.Number,w.Bank,w.Epoch,w.Denom,w.Depth]) (by simp) (d:=7) (by decide)
 have h2:=rN (l:=[w.Secret.U,w.Secret.S]++bZ w.Secret.X) (by simp;omega) (d:=7) (by decide)
 have h3:=rN (l:=[w.Factors.S,w.Factors.U,w.Factors.V]) (by simp) (d:=7) (by decide)
 have h4:=rN (l:=[w.View.M,w.View.Z,w.View.A,w.View.B,w.View.C,w.View.R]) (by simp) (d:=7) (by decide)
 have h5:a8 (cZ w.Coin) 7=true:=by simp [cZ,bK,br,dz,ce,a8,eg]
 unfold wI bK
 simp only [a8,eg,show (8:Int) - 1=7 from rfl,h1,h2,h3,h4,h5]
 simp
theorem Ji {α β:Type} [Inhabited α] [Inhabited β] {l:List α} {f:α→β} {i:Int} (h0:0≤i) (h:i<l.length):gt (l.map f) i=f (gt l i):=my (by omega)
theorem AB {w:bg} (h:w.Secret.X.length≤40): ∃x,gY (wI w)=(x,0)∧jh x w=true:=by
 have hv:=Jh h
 have hf:=mU w.Secret.X
 have hs:=ka hv (by omega)
 have n0:=g7 (hs _ (by simp:br [w.Phase,w.Number,w.Bank,w.Epoch,w.Denom,w.Depth]∈_))
 have n1:=g7 (hs _ (by simp:br ([w.Secret.U,w.Secret.S]++bZ w.Secret.X)∈_))
 have n2:=g7 (hs _ (by simp:br [w.Factors.S,w.Factors.U,w.Factors.V]∈_))
 have n3:=g7 (hs _ (by simp:br [w.View.M,w.View.Z,w.View.A,w.View.B,w.View.C,w.View.R]∈_))
 have n4:=vt (c:=w.Coin) (hs _ (by simp:cZ w.Coin∈_))
 refine ⟨fin [w.Phase,w.Number,w.Bank,w.Epoch,w.Denom,w.Depth] ([w.Secret.U,w.Secret.S]++bZ w.Secret.X) [w.Factors.S,w.Factors.U,w.Factors.V] [w.View.M,w.View.Z,w.View.A,w.View.B,w.View.C,w.View.R] (gB w.Coin) (fU (([w.Secret.U,w.Secret.S]++bZ w.Secret.X).drop 2)),?_,?_⟩
 ·rw [Jd]
  unfold kg
  have g0:gt (wI w).L 0=br [w.Phase,w.Number,w.Bank,w.Epoch,w.Denom,w.Depth]:=rfl
  have g1:gt (wI w).L 1=br ([w.Secret.U,w.Secret.S]++bZ w.Secret.X):=rfl
  have g2:gt (wI w).L 2=br [w.Factors.S,w.Factors.U,w.Factors.V]:=rfl
  have g3:gt (wI w).L 3=br [w.View.M,w.View.Z,w.View.A,w.View.B,w.View.C,w.View.R]:=rfl
  have g4:gt (wI w).L 4=cZ w.Coin:=rfl
  have k3:(wI w).Kind=3:=rfl
  have l5:(wI w).L.length=5:=rfl
  rw [if_neg (by rw [hv];decide),if_neg (by rw [k3,l5];decide),g0,g1,g2,g3,g4,n0,n1,n2,n3,n4,if_neg (by simp)]
  unfold m0
  refine if_pos ⟨rfl,rfl,by simp,?_,rfl,rfl⟩
  simp only [List.length_append,List.length_cons,List.length_nil,hf];omega
 ·have hp:fU (([w.Secret.U,w.Secret.S]++bZ w.Secret.X).drop 2)=w.Secret.X.map fun p=> [gt p 0,gt p 1]:=Ay _
  refine Jf ?_ ?_ ⟨rfl,rfl,rfl,rfl,rfl,rfl,rfl,rfl,rfl,rfl⟩ (Jg _)
  ·show (fU _).length=_
   rw [hp,List.length_map]
  ·intro j h0 h1
   have h1':j<((fU (([w.Secret.U,w.Secret.S]++bZ w.Secret.X).drop 2)).length:Int):=h1
   show jb (gt (fU _) j) _=true
   rw [hp,List.length_map] at h1'
   rw [hp,Ji h0 h1']
   exact AA _
end Go.Proofs.YtlmleoeemmhboaaGreatDoor
