/- Texts of this proof, one after the other: U3, U4. -/
import Derived.Test.YtiknkaadhomeiaaGreatDoorZ9
set_option linter.unusedVariables false
set_option linter.unusedSimpArgs false
namespace Go.Proofs.YtiknkaadhomeiaaGreatDoor
open Go.RowKit
set_option linter.unusedSimpArgs false
instance (priority:=1029):DRD 17 195 18 [142,143,144,145,146,147,148,149,150,151,152,153,154,155,156,157,158,159] [] ([[],[0],[],[],[2,3],[2,3,4],[],[],[7],[6,7,8],[6,7,8,9],[],[],[12],[11,12,13],[11,12,13,14],[2,3,4,5,6,7,8,9,10,11,12,13,14,15],[2,3,4,5,6,7,8,9,10,11,12,13,14,15,16]]++[List.range 18,List.range 19,List.range 20]) []:=⟨trivial⟩
set_option maxHeartbeats 2000000 in
set_option maxRecDepth 100000 in
instance QZ (i_:aa):CM En (de i_) 111 [.agg [.int .i64 i_.Kind,.int .i64 i_.N,.sl none 1 false (i_.B.map (V.int .u8)),.sl none 4 true (i_.L.map aw)]] (fun y=> .tup [(bX y.1),.int .i64 y.2]) (fun _=> []):=by
 refine enQ noJ Tryz.func111 Tryz.ntmps111 (de.eq_1 ..) fun r hw=> ?_
 have hA0:=fun {x} a0 a1 a2=>Ce (x:=x) (l:=i_.L) (j:=5) a0 a1 a2
 refine aF fun _ hx2 _ _=> ?_
 have hq4:=Cd hx2
 replace hq4:=nzQ hq4
 refine aJ fun _ _ _=> ?_
 refine ax fun _ _ _=> ?_
 refine aJ fun _ _ _=> ?_
 refine aF fun x14 _ _ _=> ?_
 refine aF fun x18 _ _ _=> ?_
 refine aF fun x22 _ _ _=> ?_
 refine aF fun x26 _ _ _=> ?_
 refine aF fun x30 _ _ _=> ?_
 refine ax fun _ _ _=> ?_
 refine ax fun _ _ _=> ?_
 refine ax fun _ _ _=> ?_
 refine ax fun _ _ _=> ?_
 refine ax fun _ _ _=> ?_
 refine ax fun _ _ _=> ?_
 refine ax fun _ _ _=> ?_
 refine ax fun _ _ _=> ?_
 refine aJ fun _ _ _=> ?_
 intro hF hM
 have hM0:=hM;clear hM;obtain ⟨f54,d54,hf54,hd54,hM⟩:=aH hM0;clear hM0
 refine bN (fun n S=> ∃p:Int×List bS,S=(⟨[(2,.ptr 1 0),(14,.sl none 1 false (x30.1.map (V.int .i64))),(16,.ptr 4 0),(17,.ptr 5 0),(18,.int .i64 p.1)],[(1,.var 80 true (wS)),(4,.var 4 true (.agg [.int .i64 (gt i_.L 5).Kind,.int .i64 (gt i_.L 5).N,.sl none 1 false ((gt i_.L 5).B.map (V.int .u8)),.sl none 4 true ((gt i_.L 5).L.map aw)])),(5,.var 80 true (.agg (.int .i64 x14.1.Bank:: .int .i64 x14.1.Epoch:: .int .i64 x14.1.Denom:: .int .i64 x14.1.Depth:: .int .i64 x14.1.A:: .int .u8 (gt x14.1.Root 0):: .int .u8 (gt x14.1.Root 1):: .int .u8 (gt x14.1.Root 2):: .int .u8 (gt x14.1.Root 3):: .int .u8 (gt x14.1.Root 4):: .int .u8 (gt x14.1.Root 5):: .int .u8 (gt x14.1.Root 6):: .int .u8 (gt x14.1.Root 7):: .int .u8 (gt x14.1.Root 8):: .int .u8 (gt x14.1.Root 9):: .int .u8 (gt x14.1.Root 10):: .int .u8 (gt x14.1.Root 11):: .int .u8 (gt x14.1.Root 12):: .int .u8 (gt x14.1.Root 13):: .int .u8 (gt x14.1.Root 14):: .int .u8 (gt x14.1.Root 15):: .int .u8 (gt x14.1.Root 16):: .int .u8 (gt x14.1.Root 17):: .int .u8 (gt x14.1.Root 18):: .int .u8 (gt x14.1.Root 19):: .int .u8 (gt x14.1.Root 20):: .int .u8 (gt x14.1.Root 21):: .int .u8 (gt x14.1.Root 22):: .int .u8 (gt x14.1.Root 23):: .int .u8 (gt x14.1.Root 24):: .int .u8 (gt x14.1.Root 25):: .int .u8 (gt x14.1.Root 26):: .int .u8 (gt x14.1.Root 27):: .int .u8 (gt x14.1.Root 28):: .int .u8 (gt x14.1.Root 29):: .int .u8 (gt x14.1.Root 30):: .int .u8 (gt x14.1.Root 31):: .int .i64 x14.1.Sign.Z:: .int .i64 x14.1.Sign.A:: .int .i64 x14.1.Sign.B:: .int .i64 x14.1.Sign.R:: .int .i64 x18.1:: .int .i64 x18.2.1:: .int .u8 (gt x22.1 0):: .int .u8 (gt x22.1 1):: .int .u8 (gt x22.1 2):: .int .u8 (gt x22.1 3):: .int .u8 (gt x22.1 4):: .int .u8 (gt x22.1 5):: .int .u8 (gt x22.1 6):: .int .u8 (gt x22.1 7):: .int .u8 (gt x22.1 8):: .int .u8 (gt x22.1 9):: .int .u8 (gt x22.1 10):: .int .u8 (gt x22.1 11):: .int .u8 (gt x22.1 12):: .int .u8 (gt x22.1 13):: .int .u8 (gt x22.1 14):: .int .u8 (gt x22.1 15):: .int .u8 (gt x22.1 16):: .int .u8 (gt x22.1 17):: .int .u8 (gt x22.1 18):: .int .u8 (gt x22.1 19):: .int .u8 (gt x22.1 20):: .int .u8 (gt x22.1 21):: .int .u8 (gt x22.1 22):: .int .u8 (gt x22.1 23):: .int .u8 (gt x22.1 24):: .int .u8 (gt x22.1 25):: .int .u8 (gt x22.1 26):: .int .u8 (gt x22.1 27):: .int .u8 (gt x22.1 28):: .int .u8 (gt x22.1 29):: .int .u8 (gt x22.1 30):: .int .u8 (gt x22.1 31):: .int .i64 x26.1:: .int .i64 x26.2.1:: .own 6:: .int .i64 0:: .sl (some true) 32 true []::[]))),(6,.own 263 3 true none (p.2.map eJ))],7⟩:St)∧((0≤p.1)∧(p.1≤(x30.1.length:Int))∧(p.1% 3=0)∧(((p.2).length:Int)≤p.1))∧((x30.1.length:Int) - p.1).toNat<n∧ah n f54 d54 p=r) (((x30.1.length:Int) - 0).toNat+1) _ _ (dm 5 77 263 rfl rfl (by decide)) sbQ sbQ ⟨(0,([]:List bS)),rfl,⟨by exact omA,by exact omA,by exact omA,by exact omA⟩,(Nat.lt_succ_self _),hM⟩ ?_
 clear hM
 rintro n54 S ⟨p54,rfl,hfa54,hm54,hM⟩
 have hM0:=hM;clear hM;obtain ⟨ag54,hag54,hM⟩:=aI hM0 (by omega) hf54;clear hM0
 replace hfa54:=nzQ hfa54
 replace hm54:=nzQ hm54
 have ha54:ak .i64 p54.1 1=p54.1+1:=aR (by exact omA) (by exact omA)
 replace hF:=(And.intro ha54 hF)
 revert hM;revert hF
 refine slQ ?_
 refine cdQ (fun _ _ _=> ?_) (fun _ _ _=> ?_)
 ·have ha59:ak .i64 p54.1 2=(p54.1+2):=eY (by exact omR) (by exact omR)
  intro hF hM
  try simp only [ha59]
  replace hF:=(And.intro ha59 hF)
  revert hM;revert hF
  refine slQ ?_
  have ha61:ak .i64 p54.1 3=(p54.1+3):=eY (by exact omR) (by exact omR)
  intro hF hM
  try simp only [ha61]
  exact auQ
 ·intro hF hM
  have hM0:=hM;clear hM;obtain ⟨f63,d63,hf63,hd63,hM⟩:=aH hM0;clear hM0
  refine bN (fun n S=> ∃p:Int×aA×List (List Int),S=(⟨[(2,.ptr 1 0),(17,.ptr 5 0),(171,.sl none 4 true ((sl (gt i_.L 5).L 1 ((gt i_.L 5).L.length:Int)).map aw)),(172,.int .i64 ((sl (gt i_.L 5).L 1 ((gt i_.L 5).L.length:Int)).length:Int)),(173,.int .i64 p.1)],[(1,.var 80 true ((bX p.2.1))),(5,.var 80 true (.agg (.int .i64 x14.1.Bank:: .int .i64 x14.1.Epoch:: .int .i64 x14.1.Denom:: .int .i64 x14.1.Depth:: .int .i64 x14.1.A:: .int .u8 (gt x14.1.Root 0):: .int .u8 (gt x14.1.Root 1):: .int .u8 (gt x14.1.Root 2):: .int .u8 (gt x14.1.Root 3):: .int .u8 (gt x14.1.Root 4):: .int .u8 (gt x14.1.Root 5):: .int .u8 (gt x14.1.Root 6):: .int .u8 (gt x14.1.Root 7):: .int .u8 (gt x14.1.Root 8):: .int .u8 (gt x14.1.Root 9):: .int .u8 (gt x14.1.Root 10):: .int .u8 (gt x14.1.Root 11):: .int .u8 (gt x14.1.Root 12):: .int .u8 (gt x14.1.Root 13):: .int .u8 (gt x14.1.Root 14):: .int .u8 (gt x14.1.Root 15):: .int .u8 (gt x14.1.Root 16):: .int .u8 (gt x14.1.Root 17):: .int .u8 (gt x14.1.Root 18):: .int .u8 (gt x14.1.Root 19):: .int .u8 (gt x14.1.Root 20):: .int .u8 (gt x14.1.Root 21):: .int .u8 (gt x14.1.Root 22):: .int .u8 (gt x14.1.Root 23):: .int .u8 (gt x14.1.Root 24):: .int .u8 (gt x14.1.Root 25):: .int .u8 (gt x14.1.Root 26):: .int .u8 (gt x14.1.Root 27):: .int .u8 (gt x14.1.Root 28):: .int .u8 (gt x14.1.Root 29):: .int .u8 (gt x14.1.Root 30):: .int .u8 (gt x14.1.Root 31):: .int .i64 x14.1.Sign.Z:: .int .i64 x14.1.Sign.A:: .int .i64 x14.1.Sign.B:: .int .i64 x14.1.Sign.R:: .int .i64 x18.1:: .int .i64 x18.2.1:: .int .u8 (gt x22.1 0):: .int .u8 (gt x22.1 1):: .int .u8 (gt x22.1 2):: .int .u8 (gt x22.1 3):: .int .u8 (gt x22.1 4):: .int .u8 (gt x22.1 5):: .int .u8 (gt x22.1 6):: .int .u8 (gt x22.1 7):: .int .u8 (gt x22.1 8):: .int .u8 (gt x22.1 9):: .int .u8 (gt x22.1 10):: .int .u8 (gt x22.1 11):: .int .u8 (gt x22.1 12):: .int .u8 (gt x22.1 13):: .int .u8 (gt x22.1 14):: .int .u8 (gt x22.1 15):: .int .u8 (gt x22.1 16):: .int .u8 (gt x22.1 17):: .int .u8 (gt x22.1 18):: .int .u8 (gt x22.1 19):: .int .u8 (gt x22.1 20):: .int .u8 (gt x22.1 21):: .int .u8 (gt x22.1 22):: .int .u8 (gt x22.1 23):: .int .u8 (gt x22.1 24):: .int .u8 (gt x22.1 25):: .int .u8 (gt x22.1 26):: .int .u8 (gt x22.1 27):: .int .u8 (gt x22.1 28):: .int .u8 (gt x22.1 29):: .int .u8 (gt x22.1 30):: .int .u8 (gt x22.1 31):: .int .i64 x26.1:: .int .i64 x26.2.1:: .own 6:: .int .i64 (gt (gt i_.L 5).L 0).N:: .own 7::[]))),(6,.own 263 3 true none (p54.2.map eJ)),(7,.own 41 32 true none (p.2.2.map bI))],8⟩:St)∧((0≤p.1)∧(p.1≤((sl (gt i_.L 5).L 1 ((gt i_.L 5).L.length:Int)).length:Int))∧(((p.2.2).length:Int)≤p.1))∧(((sl (gt i_.L 5).L 1 ((gt i_.L 5).L.length:Int)).length:Int) - p.1).toNat<n∧ah n f63 d63 p=r) ((((sl (gt i_.L 5).L 1 ((gt i_.L 5).L.length:Int)).length:Int) - 0).toNat+1) _ _ (dm 5 79 41 rfl rfl (by decide)) sbQ sbG ⟨(0,bG,([]:List (List Int))),rfl,⟨by exact omA,by exact omA,by exact omA⟩,(Nat.lt_succ_self _),hM⟩ ?_
  clear hM
  rintro n63 S ⟨p63,rfl,hfa63,hm63,hM⟩
  have hM0:=hM;clear hM;obtain ⟨ag63,hag63,hM⟩:=aI hM0 (by omega) hf63;clear hM0
  replace hfa63:=nzQ hfa63
  replace hm63:=nzQ hm63
  have ha63:ak .i64 p63.1 1=p63.1+1:=aR (by exact omA) (by exact omA)
  replace hF:=(And.intro ha63 hF)
  exact auP
instance (priority:=1030):DRD 10 142 9 [52,53,54,55,56,57,58,59] [] ([[],[0],[0,1],[],[3],[3,4],[],[6],[0,1,2,6,7]]++[List.range 9,List.range 10,List.range 11]) [(8,1)]:=⟨trivial⟩
instance (priority:=1031):DRD 13 142 7 [66,67,68,69,70,71,72] [] ([[],[0],[0,1],[],[3],[3,4],[3,4,5]]++[List.range 7,List.range 8,List.range 9,List.range 10]) []:=⟨trivial⟩
set_option maxHeartbeats 2000000 in
set_option maxRecDepth 100000 in
instance Q4 (i_:aa):CM En (gM i_) 52 [.agg [.int .i64 i_.Kind,.int .i64 i_.N,.sl none 1 false (i_.B.map (V.int .u8)),.sl none 4 true (i_.L.map aw)]] (fun y=> .tup [(bD y.1),.bool y.2]) (fun _=> []):=by
 refine enQ noJ Tryz.func52 Tryz.ntmps52 (gM.eq_1 ..) fun r hw=> ?_
 have h0_0:=jr hw.2.2.2.2 3
 refine aF fun _ _ _ _=> ?_
 refine aJ fun _ _ _=> ?_
 refine aF fun x9 _ _ _=> ?_
 refine aJ fun _ _ _=> ?_
 refine aF fun x16 _ _ _=> ?_
 refine ax fun _ _ _=> ?_
 refine ax fun _ _ _=> ?_
 refine aJ fun _ _ _=> ?_
 intro hF hM
 refine bl (KA none (sl x16.1 2 (x16.1.length:Int))) (an hF) (an hF) (fun hw28=> ?_)
 revert hM;revert hF
 refine slQ ?_
 intro hF hM
 have hM0:=hM;clear hM;obtain ⟨f29,d29,hf29,hd29,hM⟩:=AC hM0;clear hM0
 refine AG (cM (sl x16.1 2 (x16.1.length:Int))) (fun y29=> [.sl none 1 false (y29.map (V.int .i64))]) (fun p:List (List Int)=>(⟨[(1,.ptr 0 0),(2,.ptr 1 0),(64,.fn 169 [.pp 1 false (.sl none 1 false ((sl x16.1 2 (x16.1.length:Int)).map (V.int .i64))),.pp 1 false (.int .i64 2)])],[(0,.var 4 true (.agg [.int .i64 i_.Kind,.int .i64 i_.N,.sl none 1 false (i_.B.map (V.int .u8)),.sl none 4 true (i_.L.map aw)])),(1,.var 46 true (.agg (.int .i64 x9.1.Bank:: .int .i64 x9.1.Epoch:: .int .i64 x9.1.Denom:: .int .i64 x9.1.Depth:: .int .i64 x9.1.A:: .int .u8 (gt x9.1.Root 0):: .int .u8 (gt x9.1.Root 1):: .int .u8 (gt x9.1.Root 2):: .int .u8 (gt x9.1.Root 3):: .int .u8 (gt x9.1.Root 4):: .int .u8 (gt x9.1.Root 5):: .int .u8 (gt x9.1.Root 6):: .int .u8 (gt x9.1.Root 7):: .int .u8 (gt x9.1.Root 8):: .int .u8 (gt x9.1.Root 9):: .int .u8 (gt x9.1.Root 10):: .int .u8 (gt x9.1.Root 11):: .int .u8 (gt x9.1.Root 12):: .int .u8 (gt x9.1.Root 13):: .int .u8 (gt x9.1.Root 14):: .int .u8 (gt x9.1.Root 15):: .int .u8 (gt x9.1.Root 16):: .int .u8 (gt x9.1.Root 17):: .int .u8 (gt x9.1.Root 18):: .int .u8 (gt x9.1.Root 19):: .int .u8 (gt x9.1.Root 20):: .int .u8 (gt x9.1.Root 21):: .int .u8 (gt x9.1.Root 22):: .int .u8 (gt x9.1.Root 23):: .int .u8 (gt x9.1.Root 24):: .int .u8 (gt x9.1.Root 25):: .int .u8 (gt x9.1.Root 26):: .int .u8 (gt x9.1.Root 27):: .int .u8 (gt x9.1.Root 28):: .int .u8 (gt x9.1.Root 29):: .int .u8 (gt x9.1.Root 30):: .int .u8 (gt x9.1.Root 31):: .int .i64 x9.1.Sign.Z:: .int .i64 x9.1.Sign.A:: .int .i64 x9.1.Sign.B:: .int .i64 x9.1.Sign.R:: .int .i64 (gt x16.1 0):: .int .i64 (gt x16.1 1):: .own 11:: .sl (some true) 1 false []:: .sl (some true) 80 true []::[]))),(11,.own 193 2 true none (p.map (fun l=> .agg [.int .i64 (gt l 0),.int .i64 (gt l 1)])))],12⟩:St)) (fun (k29:Nat) (p:List (List Int))=>((p).length=k29)) hM (KB (by first|exact KS (by omega) (by omega)|exact KC (by omega))) (an hF) (an hF) ⟨rfl,by decide,by decide⟩ (fun _=>rfl) (dm 1 43 193 rfl rfl (by decide)) sbQ sbQ (by rfl) (fun _ _ _=>rfl) (fun ag29 k29 y29 p29 r29 K29 hy29 hk29 hf29a hM hN29 hR29=> ?_) (fun p29 hf29a hM=> ?_)
 ·have hM0:=hM;clear hM;have hM:=AD hM0 hf29;clear hM0
  have hF13_0:=hf29a
  have hl29:=BI hy29
  have hc29:=Nat.le_trans (Cr (l:=(sl x16.1 2 (x16.1.length:Int)))) xL
  refine AF (S':=(⟨[(6,.sl none 1 false (y29.map (V.int .i64))),(65,.sl none 1 false (y29.map (V.int .i64))),(1,.ptr 0 0),(2,.ptr 1 0),(64,.fn 169 [.pp 1 false (.sl none 1 false ((sl x16.1 2 (x16.1.length:Int)).map (V.int .i64))),.pp 1 false (.int .i64 2)]),(100001,.ptr 0 0),(100002,.ptr 1 0),(100064,.fn 169 [.pp 1 false (.sl none 1 false ((sl x16.1 2 (x16.1.length:Int)).map (V.int .i64))),.pp 1 false (.int .i64 2)])],[(0,.var 4 true (.agg [.int .i64 i_.Kind,.int .i64 i_.N,.sl none 1 false (i_.B.map (V.int .u8)),.sl none 4 true (i_.L.map aw)])),(1,.var 46 true (.agg (.int .i64 x9.1.Bank:: .int .i64 x9.1.Epoch:: .int .i64 x9.1.Denom:: .int .i64 x9.1.Depth:: .int .i64 x9.1.A:: .int .u8 (gt x9.1.Root 0):: .int .u8 (gt x9.1.Root 1):: .int .u8 (gt x9.1.Root 2):: .int .u8 (gt x9.1.Root 3):: .int .u8 (gt x9.1.Root 4):: .int .u8 (gt x9.1.Root 5):: .int .u8 (gt x9.1.Root 6):: .int .u8 (gt x9.1.Root 7):: .int .u8 (gt x9.1.Root 8):: .int .u8 (gt x9.1.Root 9):: .int .u8 (gt x9.1.Root 10):: .int .u8 (gt x9.1.Root 11):: .int .u8 (gt x9.1.Root 12):: .int .u8 (gt x9.1.Root 13):: .int .u8 (gt x9.1.Root 14):: .int .u8 (gt x9.1.Root 15):: .int .u8 (gt x9.1.Root 16):: .int .u8 (gt x9.1.Root 17):: .int .u8 (gt x9.1.Root 18):: .int .u8 (gt x9.1.Root 19):: .int .u8 (gt x9.1.Root 20):: .int .u8 (gt x9.1.Root 21):: .int .u8 (gt x9.1.Root 22):: .int .u8 (gt x9.1.Root 23):: .int .u8 (gt x9.1.Root 24):: .int .u8 (gt x9.1.Root 25):: .int .u8 (gt x9.1.Root 26):: .int .u8 (gt x9.1.Root 27):: .int .u8 (gt x9.1.Root 28):: .int .u8 (gt x9.1.Root 29):: .int .u8 (gt x9.1.Root 30):: .int .u8 (gt x9.1.Root 31):: .int .i64 x9.1.Sign.Z:: .int .i64 x9.1.Sign.A:: .int .i64 x9.1.Sign.B:: .int .i64 x9.1.Sign.R:: .int .i64 (gt x16.1 0):: .int .i64 (gt x16.1 1):: .own 11:: .sl (some true) 1 false []:: .sl (some true) 80 true []::[]))),(11,.own 193 2 true none (p29.map (fun l=> .agg [.int .i64 (gt l 0),.int .i64 (gt l 1)])))],12⟩:St)) rfl ?_
  revert hM;revert hF
  refine slQ ?_
  have he30:=su (l:=y29) (f:=(V.int .i64)) (k:=2) ap
  refine slA he30 ?_
  intro hF hM
  try rw [wm]
  exact (hN29 (p29++([(au 2 y29)]:List (List Int))) _ (AE (by first|rfl|(simp only [dnF,dk,List.filterMap_cons,List.filterMap_nil,Nat.reduceLeDiff,if_true,if_false,↓reduceIte,Nat.reduceSub];exact sbG)) sbG) (by simp only [List.length_append,List.length_cons,List.length_nil,hF13_0]) hM)
 ·have hM0:=hM;clear hM;have hM:=kQ hM0 hd29;clear hM0
  have hF13_0:=hf29a
  revert hM;revert hF
  refine slQ ?_
  refine aF fun x32 _ _ _=> ?_
  refine ax fun _ _ _=> ?_
  refine aJ fun _ _ _=> ?_
  intro hF hM
  have hM0:=hM;clear hM;obtain ⟨f41,d41,hf41,hd41,hM⟩:=aH hM0;clear hM0
  refine bN (fun n S=> ∃p:Int×List Bool,S=(⟨[(1,.ptr 0 0),(2,.ptr 1 0),(95,.sl none 1 false (x32.1.map (V.int .i64))),(96,.int .i64 (x32.1.length:Int)),(97,.int .i64 p.1)],[(0,.var 4 true (.agg [.int .i64 i_.Kind,.int .i64 i_.N,.sl none 1 false (i_.B.map (V.int .u8)),.sl none 4 true (i_.L.map aw)])),(1,.var 46 true (.agg (.int .i64 x9.1.Bank:: .int .i64 x9.1.Epoch:: .int .i64 x9.1.Denom:: .int .i64 x9.1.Depth:: .int .i64 x9.1.A:: .int .u8 (gt x9.1.Root 0):: .int .u8 (gt x9.1.Root 1):: .int .u8 (gt x9.1.Root 2):: .int .u8 (gt x9.1.Root 3):: .int .u8 (gt x9.1.Root 4):: .int .u8 (gt x9.1.Root 5):: .int .u8 (gt x9.1.Root 6):: .int .u8 (gt x9.1.Root 7):: .int .u8 (gt x9.1.Root 8):: .int .u8 (gt x9.1.Root 9):: .int .u8 (gt x9.1.Root 10):: .int .u8 (gt x9.1.Root 11):: .int .u8 (gt x9.1.Root 12):: .int .u8 (gt x9.1.Root 13):: .int .u8 (gt x9.1.Root 14):: .int .u8 (gt x9.1.Root 15):: .int .u8 (gt x9.1.Root 16):: .int .u8 (gt x9.1.Root 17):: .int .u8 (gt x9.1.Root 18):: .int .u8 (gt x9.1.Root 19):: .int .u8 (gt x9.1.Root 20):: .int .u8 (gt x9.1.Root 21):: .int .u8 (gt x9.1.Root 22):: .int .u8 (gt x9.1.Root 23):: .int .u8 (gt x9.1.Root 24):: .int .u8 (gt x9.1.Root 25):: .int .u8 (gt x9.1.Root 26):: .int .u8 (gt x9.1.Root 27):: .int .u8 (gt x9.1.Root 28):: .int .u8 (gt x9.1.Root 29):: .int .u8 (gt x9.1.Root 30):: .int .u8 (gt x9.1.Root 31):: .int .i64 x9.1.Sign.Z:: .int .i64 x9.1.Sign.A:: .int .i64 x9.1.Sign.B:: .int .i64 x9.1.Sign.R:: .int .i64 (gt x16.1 0):: .int .i64 (gt x16.1 1):: .own 11:: .own 12:: .sl (some true) 80 true []::[]))),(11,.own 193 2 true none (p29.map (fun l=> .agg [.int .i64 (gt l 0),.int .i64 (gt l 1)]))),(12,.own 4 1 false none (p.2.map V.bool))],13⟩:St)∧((0≤p.1)∧(p.1≤(x32.1.length:Int))∧(((p.2).length:Int)≤p.1))∧((x32.1.length:Int) - p.1).toNat<n∧ah n f41 d41 p=r) (((x32.1.length:Int) - 0).toNat+1) _ _ (dm 1 44 4 rfl rfl (by decide)) sbQ sbQ ⟨(0,([]:List Bool)),rfl,⟨omQ,omQ,omQ⟩,(Nat.lt_succ_self _),hM⟩ ?_
  clear hM
  rintro n41 S ⟨p41,rfl,hfa41,hm41,hM⟩
  have hM0:=hM;clear hM;obtain ⟨ag41,hag41,hM⟩:=aI hM0 (by omega) hf41;clear hM0
  replace hfa41:=nzQ hfa41
  replace hm41:=nzQ hm41
  have ha41:ak .i64 p41.1 1=p41.1+1:=aR omQ omQ
  replace hF:=(And.intro ha41 hF)
  revert hM;revert hF
  refine slQ ?_
  refine cdQ (fun _ _ _=> ?_) (fun _ _ _=> ?_)
  ·refine cdQ (fun _ _ _=> ?_) (fun _ _ _=> ?_)
   ·refine aJ fun _ _ _=> ?_
    intro hF hM
    refine aO (n41 - 1) _ (by omega) sbQ sbQ ⟨((p41.1+1),(p41.2++([((gt x32.1 p41.1)==1)]:List Bool))),rfl,⟨omQ,omQ,omQ⟩,omQ,aM hM hag41⟩
   ·intro hF hM
    refine aO (n41 - 1) _ (by omega) sbQ sbQ ⟨((p41.1+1),(p41.2++([((gt x32.1 p41.1)==1)]:List Bool))),rfl,⟨omQ,omQ,omQ⟩,omQ,aM hM hag41⟩
  ·intro hF hM
   have hM0:=hM;clear hM;obtain ⟨f52,d52,hf52,hd52,hM⟩:=aH hM0;clear hM0
   refine bN (fun n S=> ∃p:Int×List aA,S=(⟨[(2,.ptr 1 0),(120,.sl none 4 true ((gt i_.L 3).L.map aw)),(121,.int .i64 ((gt i_.L 3).L.length:Int)),(122,.int .i64 p.1)],[(1,.var 46 true (.agg (.int .i64 x9.1.Bank:: .int .i64 x9.1.Epoch:: .int .i64 x9.1.Denom:: .int .i64 x9.1.Depth:: .int .i64 x9.1.A:: .int .u8 (gt x9.1.Root 0):: .int .u8 (gt x9.1.Root 1):: .int .u8 (gt x9.1.Root 2):: .int .u8 (gt x9.1.Root 3):: .int .u8 (gt x9.1.Root 4):: .int .u8 (gt x9.1.Root 5):: .int .u8 (gt x9.1.Root 6):: .int .u8 (gt x9.1.Root 7):: .int .u8 (gt x9.1.Root 8):: .int .u8 (gt x9.1.Root 9):: .int .u8 (gt x9.1.Root 10):: .int .u8 (gt x9.1.Root 11):: .int .u8 (gt x9.1.Root 12):: .int .u8 (gt x9.1.Root 13):: .int .u8 (gt x9.1.Root 14):: .int .u8 (gt x9.1.Root 15):: .int .u8 (gt x9.1.Root 16):: .int .u8 (gt x9.1.Root 17):: .int .u8 (gt x9.1.Root 18):: .int .u8 (gt x9.1.Root 19):: .int .u8 (gt x9.1.Root 20):: .int .u8 (gt x9.1.Root 21):: .int .u8 (gt x9.1.Root 22):: .int .u8 (gt x9.1.Root 23):: .int .u8 (gt x9.1.Root 24):: .int .u8 (gt x9.1.Root 25):: .int .u8 (gt x9.1.Root 26):: .int .u8 (gt x9.1.Root 27):: .int .u8 (gt x9.1.Root 28):: .int .u8 (gt x9.1.Root 29):: .int .u8 (gt x9.1.Root 30):: .int .u8 (gt x9.1.Root 31):: .int .i64 x9.1.Sign.Z:: .int .i64 x9.1.Sign.A:: .int .i64 x9.1.Sign.B:: .int .i64 x9.1.Sign.R:: .int .i64 (gt x16.1 0):: .int .i64 (gt x16.1 1):: .own 11:: .own 12:: .own 13::[]))),(11,.own 193 2 true none (p29.map (fun l=> .agg [.int .i64 (gt l 0),.int .i64 (gt l 1)]))),(12,.own 4 1 false none (p41.2.map V.bool)),(13,.own 121 80 true none (p.2.map bX))],14⟩:St)∧((0≤p.1)∧(p.1≤((gt i_.L 3).L.length:Int))∧(((p.2).length:Int)≤p.1))∧(((gt i_.L 3).L.length:Int) - p.1).toNat<n∧ah n f52 d52 p=r) ((((gt i_.L 3).L.length:Int) - 0).toNat+1) _ _ (dm 1 45 121 rfl rfl (by decide)) sbQ sbQ ⟨(0,([]:List aA)),rfl,⟨omQ,omQ,omQ⟩,(Nat.lt_succ_self _),hM⟩ ?_
   clear hM
   rintro n52 S ⟨p52,rfl,hfa52,hm52,hM⟩
   have hM0:=hM;clear hM;obtain ⟨ag52,hag52,hM⟩:=aI hM0 (by omega) hf52;clear hM0
   replace hfa52:=nzQ hfa52
   replace hm52:=nzQ hm52
   have ha52:ak .i64 p52.1 1=p52.1+1:=aR omQ omQ
   replace hF:=(And.intro ha52 hF)
   revert hM;revert hF
   refine slQ ?_
   refine ax fun _ _ _=> ?_
   refine aF fun x56 _ _ _=> ?_
   refine aJ fun _ _ _=> ?_
   intro hF hM
   refine aO (n52 - 1) _ (by omega) sbQ sbQ ⟨((p52.1+1),(p52.2++([x56.1]:List aA))),rfl,⟨omQ,omQ,omQ⟩,omQ,aM hM hag52⟩
instance (priority:=1032):DRD 14 176 11 [8,9,10,51,52,53,54,55,56,57,58] [] ([[],[0],[],[2],[],[4],[],[6],[0,1],[2,3],[4,5]]++[List.range 11]) []:=⟨trivial⟩
instance (priority:=1033):DRD 18 176 57 [14,96,97,98,99,100,101,102,103,104,105,106,107,108,109,110,111,112,113,114,115,116,117,118,119,120,121,122,123,124,125,126,127,128,129,130,131,132,133,134,135,136,137,138,139,140,141,142,143,144,145,146,147,148,149,150,151] [] ([[],[0],[0,1],[],[3],[3,4],[],[6],[6,7],[],[9],[9,10],[],[12],[12,13],[],[15],[15,16],[],[18],[18,19],[],[21],[21,22],[18,19,20,21,22,23],[],[25],[25,26],[],[28],[28,29],[],[31],[31,32],[25,26,27,28,29,30,31,32,33],[],[35],[35,36],[],[38],[38,39],[],[41],[41,42],[],[44],[44,45],[],[47],[47,48],[],[50],[50,51],[35,36,37,38,39,40,41,42,43,44,45,46,47,48,49,50,51,52],[],[0,1,2,3,4,5,6,7,8,9,10,11,12,13,14,15,16,17,18,19,20,21,22,23,24,25,26,27,28,29,30,31,32,33,34,35,36,37,38,39,40,41,42,43,44,45,46,47,48,49,50,51,52,53,54],[]]++[List.range 57]) []:=⟨trivial⟩
instance (priority:=1034):DRD 22 176 14 [158,159,160,161,162,163,164,165,166,167,168,169,170,171] [] ([[],[0],[0,1],[],[],[3,4],[3,4,5],[],[],[8],[7,8,9],[7,8,9,10],[3,4,5,6,7,8,9,10,11],[3,4,5,6,7,8,9,10,11,12]]++[List.range 14,List.range 15,List.range 16,List.range 17]) []:=⟨trivial⟩
set_option maxHeartbeats 2000000 in
set_option maxRecDepth 100000 in
instance Q5 (i_:aa):CM En (dN i_) 53 [.agg [.int .i64 i_.Kind,.int .i64 i_.N,.sl none 1 false (i_.B.map (V.int .u8)),.sl none 4 true (i_.L.map aw)]] (fun y=> .tup [(bU y.1),.int .i64 y.2]) (fun _=> []):=by
 refine enQ noJ Tryz.func53 Tryz.ntmps53 (dN.eq_1 ..) fun r hw=> ?_
 refine aF fun _ _ _ _=> ?_
 refine aJ fun _ _ _=> ?_
 refine ax fun _ _ _=> ?_
 refine aJ fun h9 _ _=> ?_
 intro hF hM
 have hM0:=hM;clear hM;obtain ⟨f12,d12,hf12,hd12,hM⟩:=aH hM0;clear hM0
 refine bm (fun n S=> ∃p:Int×aL×(List (List Int)),S=(⟨[(1,.ptr 0 0),(2,.ptr 1 0),(4,.ptr 2 0),(32,.int .i64 p.1)],[(0,.var 4 true (.agg [.int .i64 i_.Kind,.int .i64 i_.N,.sl none 1 false (i_.B.map (V.int .u8)),.sl none 4 true (i_.L.map aw)])),(1,.var 59 true ((bU p.2.1))),(2,.var 4 true (.agg [.sl none 1 false ((gt p.2.2 0).map (V.int .i64)),.sl none 1 false ((gt p.2.2 1).map (V.int .i64)),.sl none 1 false ((gt p.2.2 2).map (V.int .i64)),.sl none 1 false ((gt p.2.2 3).map (V.int .i64))]))],3⟩:St)∧(((0≤p.1)∧(p.1≤4))∧(le4 p.2.2))∧((4:Int) - p.1).toNat<n∧ah n f12 d12 p=r) (((4:Int) - 0).toNat+1) _ sbQ sbG ⟨(0,bw,[([]:List Int),([]:List Int),([]:List Int),([]:List Int)]),rfl,⟨⟨by (first|exact omQ|(clear hM;first|(have h9:=hF7_0 1;exact ap))),by (first|exact omQ|(clear hM;first|(have h9:=hF7_0 1;exact ap)))⟩,by (exact Kt)⟩,(Nat.lt_succ_self _),hM⟩ ?_
 clear hM
 rintro n12 S ⟨p12,rfl,⟨hfa12,hF7_0⟩,hm12,hM⟩
 have hG0:=hF7_0 1
 have hM0:=hM;clear hM;obtain ⟨ag12,hag12,hM⟩:=aI hM0 (by omega) hf12;clear hM0
 replace hfa12:=nzQ hfa12
 replace hm12:=nzQ hm12
 have ha12:ak .i64 p12.1 1=p12.1+1:=aR (by exact omA) (by exact omA)
 replace hF:=(And.intro ha12 hF)
 revert hM;revert hF
 refine slQ ?_
 refine cdQ (fun _ _ _=> ?_) (fun _ _ _=> ?_)
 ·refine aF fun x16 _ _ _=> ?_
  refine aJ fun _ _ _=> ?_
  have he22:((p12.1).toNat*1≤3)=True:=eq_true (by exact omR)
  refine slA he22 ?_
  have he23:=mE (f:=(fun (l:List Int)=>V.sl none 1 false (l.map (V.int .i64)))) (l:=(au 4 p12.2.2)) (n:=4) (i:=p12.1) (v:=x16.1) cq (by exact omR)
  replace he23:=spR he23
  refine slA he23 ?_
  intro hF hM
  refine aO (n12 - 1) _ (by omega) sbQ sbG ⟨((p12.1+1),p12.2.1,(au 4 (st (au 4 p12.2.2) p12.1 (x16.1)))),rfl,⟨⟨by exact omA,by exact omA⟩,by (exact Ku hF7_0 (Ks ‹_=aN _›))⟩,by exact omA,aM hM hag12⟩
 ·refine aF fun x26 _ _ _=> ?_
  refine ax fun _ _ _=> ?_
  refine ax fun _ _ _=> ?_
  refine ax fun _ _ _=> ?_
  refine ax fun _ _ _=> ?_
  refine ax fun _ _ _=> ?_
  refine aJ fun _ _ _=> ?_
  intro hF hM
  have hM0:=hM;clear hM;obtain ⟨f59,d59,hf59,hd59,hM⟩:=aH hM0;clear hM0
  refine bN (fun n S=> ∃p:Int×List (List Int),S=(⟨[(2,.ptr 1 0),(9,.sl none 1 false ((gt p12.2.2 1).map (V.int .i64))),(14,.ptr 71 0),(15,.int .i64 p.1)],[(1,.var 59 true ((bU p12.2.1))),(71,.var 59 true (.agg (.int .i64 (gt (gt p12.2.2 0) 0):: .int .i64 (gt (gt p12.2.2 0) 1):: .int .i64 (gt (gt p12.2.2 0) 2):: .int .i64 (gt (gt p12.2.2 0) 3):: .int .i64 (gt (gt p12.2.2 0) 4):: .int .i64 (gt (gt p12.2.2 0) 5):: .int .i64 (gt (gt p12.2.2 1) 0):: .int .i64 (gt (gt p12.2.2 1) 1):: .own 72:: .int .i64 (gt (gt p12.2.2 2) 0):: .int .i64 (gt (gt p12.2.2 2) 1):: .int .i64 (gt (gt p12.2.2 2) 2):: .int .i64 (gt (gt p12.2.2 3) 0):: .int .i64 (gt (gt p12.2.2 3) 1):: .int .i64 (gt (gt p12.2.2 3) 2):: .int .i64 (gt (gt p12.2.2 3) 3):: .int .i64 (gt (gt p12.2.2 3) 4):: .int .i64 (gt (gt p12.2.2 3) 5):: .int .i64 x26.1.Bank:: .int .i64 x26.1.Epoch:: .int .i64 x26.1.Denom:: .int .i64 x26.1.Depth:: .int .i64 x26.1.A:: .int .u8 (gt x26.1.Root 0):: .int .u8 (gt x26.1.Root 1):: .int .u8 (gt x26.1.Root 2):: .int .u8 (gt x26.1.Root 3):: .int .u8 (gt x26.1.Root 4):: .int .u8 (gt x26.1.Root 5):: .int .u8 (gt x26.1.Root 6):: .int .u8 (gt x26.1.Root 7):: .int .u8 (gt x26.1.Root 8):: .int .u8 (gt x26.1.Root 9):: .int .u8 (gt x26.1.Root 10):: .int .u8 (gt x26.1.Root 11):: .int .u8 (gt x26.1.Root 12):: .int .u8 (gt x26.1.Root 13):: .int .u8 (gt x26.1.Root 14):: .int .u8 (gt x26.1.Root 15):: .int .u8 (gt x26.1.Root 16):: .int .u8 (gt x26.1.Root 17):: .int .u8 (gt x26.1.Root 18):: .int .u8 (gt x26.1.Root 19):: .int .u8 (gt x26.1.Root 20):: .int .u8 (gt x26.1.Root 21):: .int .u8 (gt x26.1.Root 22):: .int .u8 (gt x26.1.Root 23):: .int .u8 (gt x26.1.Root 24):: .int .u8 (gt x26.1.Root 25):: .int .u8 (gt x26.1.Root 26):: .int .u8 (gt x26.1.Root 27):: .int .u8 (gt x26.1.Root 28):: .int .u8 (gt x26.1.Root 29):: .int .u8 (gt x26.1.Root 30):: .int .u8 (gt x26.1.Root 31):: .int .i64 x26.1.Sign.Z:: .int .i64 x26.1.Sign.A:: .int .i64 x26.1.Sign.B:: .int .i64 x26.1.Sign.R::[]))),(72,.own 193 2 true none (p.2.map (fun l=> .agg [.int .i64 (gt l 0),.int .i64 (gt l 1)])))],73⟩:St)∧((2≤p.1)∧(p.1≤((gt p12.2.2 1).length:Int)∨p.1≤2)∧(p.1% 2=0)∧(((p.2).length:Int)≤p.1))∧(((gt p12.2.2 1).length:Int) - p.1).toNat<n∧ah n f59 d59 p=r) ((((gt p12.2.2 1).length:Int) - 2).toNat+1) _ _ (dm 71 8 193 rfl rfl (by decide)) sbQ sbQ ⟨(2,([]:List (List Int))),rfl,⟨by exact omA,by exact omA,by exact omA,by exact omA⟩,(Nat.lt_succ_self _),hM⟩ ?_
  clear hM
  rintro n59 S ⟨p59,rfl,hfa59,hm59,hM⟩
  have hM0:=hM;clear hM;obtain ⟨ag59,hag59,hM⟩:=aI hM0 (by omega) hf59;clear hM0
  replace hfa59:=nzQ hfa59
  replace hm59:=nzQ hm59
  have ha59:ak .i64 p59.1 1=p59.1+1:=aR (by exact omA) (by exact omA)
  replace hF:=(And.intro ha59 hF)
  revert hM;revert hF
  refine slQ ?_
  refine ax fun _ _ _=> ?_
  have ha64:ak .i64 p59.1 2=(p59.1+2):=eY (by exact omR) (by exact omR)
  intro hF hM
  try simp only [ha64]
  refine aO (n59 - 1) _ (by omega) sbQ sbG ⟨((p59.1+2),(p59.2++([[(gt (gt p12.2.2 1) p59.1),(gt (gt p12.2.2 1) (p59.1+1))]]:List (List Int)))),rfl,⟨by exact omA,by exact omA,by exact omA,by exact omA⟩,by exact omA,aM hM hag59⟩
instance (priority:=1035):DRD 3 46 12 [33,34,35,36,37,38,39,40,41,42,43,44] [] ([[],[0],[0,1],[0,1,2],[0,1,2,3],[0,1,2,3,4],[0,1,2,3,4,5],[],[7],[7,8],[7,8,9],[7,8,9,10]]++[List.range 12,List.range 13,List.range 14]) []:=⟨trivial⟩
set_option maxHeartbeats 2000000 in
set_option maxRecDepth 100000 in
instance Q6 (i_:aa):CM En (jo i_) 54 [.agg [.int .i64 i_.Kind,.int .i64 i_.N,.sl none 1 false (i_.B.map (V.int .u8)),.sl none 4 true (i_.L.map aw)]] (fun y=> .tup [(nZ y.1),.bool y.2]) (fun _=> []):=by
 refine enQ noJ Tryz.func54 Tryz.ntmps54 (jo.eq_1 ..) fun r hw=> ?_
 refine aF fun _ _ _ _=> ?_
 refine ax fun _ _ _=> ?_
 refine ax fun _ _ _=> ?_
 refine ax fun _ _ _=> ?_
 refine aJ fun _ _ _=> ?_
 have he16:=su (l:=(gt i_.L 0).B) (f:=(V.int .u8)) (k:=32) ap
 refine slA he16 ?_
 exact auR
instance (priority:=1036):DRD 7 143 14 [7,66,67,68,69,70,71,72,73,74,75,76,77,78] [] ([[],[0],[0,1],[],[3],[3,4],[],[6],[6,7],[],[9],[9,10],[0,1,2,3,4,5,6,7,8,9,10,11],[]]++[List.range 14]) []:=⟨trivial⟩
set_option maxHeartbeats 2000000 in
set_option maxRecDepth 100000 in
instance Q7 (x_:(List Int)):CM En (fx x_) 15 [.sl none 1 false (x_.map (V.int .u8))] (fun y=> .tup [(bL y.1),.int .i64 y.2]) (fun _=> []):=by
 refine enQ noJ Tryz.func15 Tryz.ntmps15 (fx.eq_1 ..) fun r hw=> ?_
 refine aF fun x1 _ hw3 _=> ?_
 have hq4:=jr hw3.1.2.2.2.2 1
 replace hq4:=nzQ hq4
 have hq5:=jr hw3.1.2.2.2.2 2
 replace hq5:=nzQ hq5
 refine ax fun _ _ _=> ?_
 refine aF fun _ _ _ _=> ?_
 refine ax fun _ _ _=> ?_
 refine aF fun _ _ _ _=> ?_
 refine ax fun _ _ _=> ?_
 refine ax fun _ _ _=> ?_
 refine aJ fun _ _ _=> ?_
 refine aF fun x28 hx29 _ _=> ?_
 have hq31:=qt hx29
 replace hq31:=nzQ hq31
 refine aJ fun _ _ _=> ?_
 intro hF hM
 have hM0:=hM;clear hM;obtain ⟨f39,d39,hf39,hd39,hM⟩:=aH hM0;clear hM0
 refine bN (fun n S=> ∃p:Int×av×List ay,S=(⟨[(2,.ptr 0 0),(4,.ptr 1 0),(7,.ptr 15 0),(83,.sl none 4 true ((gt x1.1.L 1).L.map aw)),(84,.int .i64 ((gt x1.1.L 1).L.length:Int)),(85,.int .i64 p.1)],[(0,.var 39 true ((bL p.2.1))),(1,.var 4 true (.agg [.int .i64 x1.1.Kind,.int .i64 x1.1.N,.sl none 1 false (x1.1.B.map (V.int .u8)),.sl none 4 true (x1.1.L.map aw)])),(15,.var 39 true (.agg (.int .i64 (gt x28.1 0):: .int .i64 (gt x28.1 1):: .int .i64 (gt x28.1 2):: .int .i64 (gt x28.1 3):: .own 16:: .sl (some true) 59 true []:: .int .u8 0:: .int .u8 0:: .int .u8 0:: .int .u8 0:: .int .u8 0:: .int .u8 0:: .int .u8 0:: .int .u8 0:: .int .u8 0:: .int .u8 0:: .int .u8 0:: .int .u8 0:: .int .u8 0:: .int .u8 0:: .int .u8 0:: .int .u8 0:: .int .u8 0:: .int .u8 0:: .int .u8 0:: .int .u8 0:: .int .u8 0:: .int .u8 0:: .int .u8 0:: .int .u8 0:: .int .u8 0:: .int .u8 0:: .int .u8 0:: .int .u8 0:: .int .u8 0:: .int .u8 0:: .int .u8 0:: .int .u8 0:: .int .i64 0::[]))),(16,.own 110 46 true none (p.2.2.map bD))],17⟩:St)∧((0≤p.1)∧(p.1≤((gt x1.1.L 1).L.length:Int))∧(((p.2.2).length:Int)≤p.1))∧(((gt x1.1.L 1).L.length:Int) - p.1).toNat<n∧ah n f39 d39 p=r) ((((gt x1.1.L 1).L.length:Int) - 0).toNat+1) _ _ (dm 15 4 110 rfl rfl (by decide)) sbQ sbG ⟨(0,aT,([]:List ay)),rfl,⟨omQ,omQ,omQ⟩,(Nat.lt_succ_self _),hM⟩ ?_
 clear hM
 rintro n39 S ⟨p39,rfl,hfa39,hm39,hM⟩
 have hM0:=hM;clear hM;obtain ⟨ag39,hag39,hM⟩:=aI hM0 (by omega) hf39;clear hM0
 replace hfa39:=nzQ hfa39
 replace hm39:=nzQ hm39
 have ha39:ak .i64 p39.1 1=p39.1+1:=aR omQ omQ
 replace hF:=(And.intro ha39 hF)
 revert hM;revert hF
 refine slQ ?_
 refine cdQ (fun _ _ _=> ?_) (fun _ _ _=> ?_)
 ·refine aF fun x43 _ _ _=> ?_
  refine aJ fun _ _ _=> ?_
  intro hF hM
  refine aO (n39 - 1) _ (by omega) sbQ sbQ ⟨((p39.1+1),p39.2.1,(p39.2.2++([x43.1]:List ay))),rfl,⟨omQ,omQ,omQ⟩,omQ,aM hM hag39⟩
 ·intro hF hM
  have hM0:=hM;clear hM;obtain ⟨f50,d50,hf50,hd50,hM⟩:=aH hM0;clear hM0
  refine bN (fun n S=> ∃p:Int×av×List aL,S=(⟨[(2,.ptr 0 0),(4,.ptr 1 0),(7,.ptr 15 0),(108,.sl none 4 true ((gt x1.1.L 2).L.map aw)),(109,.int .i64 ((gt x1.1.L 2).L.length:Int)),(110,.int .i64 p.1)],[(0,.var 39 true ((bL p.2.1))),(1,.var 4 true (.agg [.int .i64 x1.1.Kind,.int .i64 x1.1.N,.sl none 1 false (x1.1.B.map (V.int .u8)),.sl none 4 true (x1.1.L.map aw)])),(15,.var 39 true (.agg (.int .i64 (gt x28.1 0):: .int .i64 (gt x28.1 1):: .int .i64 (gt x28.1 2):: .int .i64 (gt x28.1 3):: .own 16:: .own 17:: .int .u8 0:: .int .u8 0:: .int .u8 0:: .int .u8 0:: .int .u8 0:: .int .u8 0:: .int .u8 0:: .int .u8 0:: .int .u8 0:: .int .u8 0:: .int .u8 0:: .int .u8 0:: .int .u8 0:: .int .u8 0:: .int .u8 0:: .int .u8 0:: .int .u8 0:: .int .u8 0:: .int .u8 0:: .int .u8 0:: .int .u8 0:: .int .u8 0:: .int .u8 0:: .int .u8 0:: .int .u8 0:: .int .u8 0:: .int .u8 0:: .int .u8 0:: .int .u8 0:: .int .u8 0:: .int .u8 0:: .int .u8 0:: .int .i64 0::[]))),(16,.own 110 46 true none (p39.2.2.map bD)),(17,.own 104 59 true none (p.2.2.map bU))],18⟩:St)∧((0≤p.1)∧(p.1≤((gt x1.1.L 2).L.length:Int))∧(((p.2.2).length:Int)≤p.1))∧(((gt x1.1.L 2).L.length:Int) - p.1).toNat<n∧ah n f50 d50 p=r) ((((gt x1.1.L 2).L.length:Int) - 0).toNat+1) _ _ (dm 15 5 104 rfl rfl (by decide)) sbQ sbQ ⟨(0,p39.2.1,([]:List aL)),rfl,⟨omQ,omQ,omQ⟩,(Nat.lt_succ_self _),hM⟩ ?_
  clear hM
  rintro n50 S ⟨p50,rfl,hfa50,hm50,hM⟩
  have hM0:=hM;clear hM;obtain ⟨ag50,hag50,hM⟩:=aI hM0 (by omega) hf50;clear hM0
  replace hfa50:=nzQ hfa50
  replace hm50:=nzQ hm50
  have ha50:ak .i64 p50.1 1=p50.1+1:=aR omQ omQ
  replace hF:=(And.intro ha50 hF)
  revert hM;revert hF
  refine slQ ?_
  refine ax fun _ _ _=> ?_
  refine aF fun x54 _ _ _=> ?_
  refine aJ fun _ _ _=> ?_
  intro hF hM
  refine aO (n50 - 1) _ (by omega) sbQ sbQ ⟨((p50.1+1),p50.2.1,(p50.2.2++([x54.1]:List aL))),rfl,⟨omQ,omQ,omQ⟩,omQ,aM hM hag50⟩
instance (priority:=1037):DRD 6 45 10 [34,35,36,37,38,39,40,41,42,43] [] ([[],[0],[],[0,1,2],[0,1,2,3],[],[5],[],[5,6,7],[5,6,7,8]]++[List.range 10]) []:=⟨trivial⟩
set_option maxHeartbeats 2000000 in
set_option maxRecDepth 100000 in
instance Q8 (a_:cj) (b:cj):CM En (lB a_ b) 112 [.agg [.int .i64 a_.U,.int .i64 a_.S,.sl none 2 true (a_.X.map (fun l=> .agg [.int .i64 (gt l 0),.int .i64 (gt l 1)]))],.agg [.int .i64 b.U,.int .i64 b.S,.sl none 2 true (b.X.map (fun l=> .agg [.int .i64 (gt l 0),.int .i64 (gt l 1)]))]] (fun y=> .bool y) (fun _=> []):=by
 refine enQ noJ Tryz.func112 Tryz.ntmps112 (lB.eq_1 ..) fun r hw=> ?_
 refine ax fun _ _ _=> ?_
 refine ax fun _ _ _=> ?_
 refine aJ fun _ _ _=> ?_
 intro hF hM
 have hM0:=hM;clear hM;obtain ⟨f8,d8,hf8,hd8,hM⟩:=aH hM0;clear hM0
 refine bm (fun n S=> ∃p:Int,S=(⟨[(2,.ptr 0 0),(3,.ptr 1 0),(5,.int .i64 p)],[(0,.var 3 true (.agg [.int .i64 a_.U,.int .i64 a_.S,.sl none 2 true (a_.X.map (fun l=> .agg [.int .i64 (gt l 0),.int .i64 (gt l 1)]))])),(1,.var 3 true (.agg [.int .i64 b.U,.int .i64 b.S,.sl none 2 true (b.X.map (fun l=> .agg [.int .i64 (gt l 0),.int .i64 (gt l 1)]))]))],2⟩:St)∧((0≤p)∧(p≤(a_.X.length:Int)))∧((a_.X.length:Int) - p).toNat<n∧ah n f8 d8 p=r) (((a_.X.length:Int) - 0).toNat+1) _ sbQ sbQ ⟨0,rfl,⟨omQ,omQ⟩,(Nat.lt_succ_self _),hM⟩ ?_
 clear hM
 rintro n8 S ⟨p8,rfl,hfa8,hm8,hM⟩
 have hM0:=hM;clear hM;obtain ⟨ag8,hag8,hM⟩:=aI hM0 (by omega) hf8;clear hM0
 replace hfa8:=nzQ hfa8
 replace hm8:=nzQ hm8
 have ha8:ak .i64 p8 1=p8+1:=aR omQ omQ
 replace hF:=(And.intro ha8 hF)
 revert hM;revert hF
 refine slQ ?_
 refine ax fun _ _ _=> ?_
 intro hF hM
 refine bR (fun h13=> ?_) (fun h13=> ?_)
 ·have kh13:(!(fg (gt a_.X p8) (gt b.X p8)))=true:=h13
  rw [if_pos kh13] at hM
  replace hF:=(And.intro h13 hF)
  revert hM;revert hF
  refine slQ ?_
  intro hF hM
  have nh13:=nzQ kh13
  try have hr14:=mpQ nh13
  exact auQ
 ·have kh13:(!(fg (gt a_.X p8) (gt b.X p8)))=false:=h13
  rw [if_neg (bH kh13)] at hM
  replace hF:=(And.intro h13 hF)
  revert hM;revert hF
  refine slQ ?_
  intro hF hM
  have nh13:=nzQ kh13
  try have hr15:=mpQ nh13
  refine aO (n8 - 1) _ (by omega) sbQ sbQ ⟨(p8+1),rfl,⟨omQ,omQ⟩,omQ,aM hM hag8⟩
instance (priority:=1038):DRD 6 38 10 [27,28,29,30,31,32,33,34,35,36] [] ([[],[0],[],[0,1,2],[0,1,2,3],[],[5],[],[5,6,7],[5,6,7,8]]++[List.range 10]) []:=⟨trivial⟩
set_option maxHeartbeats 2000000 in
set_option maxRecDepth 100000 in
instance Q9 (p_:ga) (q:ga):CM En (lC p_ q) 172 [.agg [.int .i64 p_.Index,.sl none 32 true (p_.L.map bI)],.agg [.int .i64 q.Index,.sl none 32 true (q.L.map bI)]] (fun y=> .bool y) (fun _=> []):=by
 refine enQ noJ Tryz.func172 Tryz.ntmps172 (lC.eq_1 ..) fun r hw=> ?_
 refine ax fun _ _ _=> ?_
 refine aJ fun _ _ _=> ?_
 intro hF hM
 have hM0:=hM;clear hM;obtain ⟨f6,d6,hf6,hd6,hM⟩:=aH hM0;clear hM0
 refine bm (fun n S=> ∃p:Int,S=(⟨[(2,.ptr 0 0),(3,.ptr 1 0),(5,.int .i64 p)],[(0,.var 2 true (.agg [.int .i64 p_.Index,.sl none 32 true (p_.L.map bI)])),(1,.var 2 true (.agg [.int .i64 q.Index,.sl none 32 true (q.L.map bI)]))],2⟩:St)∧((0≤p)∧(p≤(p_.L.length:Int)))∧((p_.L.length:Int) - p).toNat<n∧ah n f6 d6 p=r) (((p_.L.length:Int) - 0).toNat+1) _ sbQ sbQ ⟨0,rfl,⟨omQ,omQ⟩,(Nat.lt_succ_self _),hM⟩ ?_
 clear hM
 rintro n6 S ⟨p6,rfl,hfa6,hm6,hM⟩
 have hM0:=hM;clear hM;obtain ⟨ag6,hag6,hM⟩:=aI hM0 (by omega) hf6;clear hM0
 replace hfa6:=nzQ hfa6
 replace hm6:=nzQ hm6
 have ha6:ak .i64 p6 1=p6+1:=aR omQ omQ
 replace hF:=(And.intro ha6 hF)
 revert hM;revert hF
 refine slQ ?_
 refine ax fun _ _ _=> ?_
 intro hF hM
 refine bR (fun h11=> ?_) (fun h11=> ?_)
 ·have kh11:(!(eo (gt p_.L p6) (gt q.L p6)))=true:=h11
  rw [if_pos kh11] at hM
  replace hF:=(And.intro h11 hF)
  revert hM;revert hF
  refine slQ ?_
  intro hF hM
  have nh11:=nzQ kh11
  try have hr12:=mpQ nh11
  exact auQ
 ·have kh11:(!(eo (gt p_.L p6) (gt q.L p6)))=false:=h11
  rw [if_neg (bH kh11)] at hM
  replace hF:=(And.intro h11 hF)
  revert hM;revert hF
  refine slQ ?_
  intro hF hM
  have nh11:=nzQ kh11
  try have hr13:=mpQ nh11
  refine aO (n6 - 1) _ (by omega) sbQ sbQ ⟨(p6+1),rfl,⟨omQ,omQ⟩,omQ,aM hM hag6⟩
instance (priority:=1039):DRD 6 60 10 [49,50,51,52,53,54,55,56,57,58] [] ([[],[0],[],[0,1,2],[0,1,2,3],[],[5],[],[5,6,7],[5,6,7,8]]++[List.range 10]) []:=⟨trivial⟩
set_option maxHeartbeats 2000000 in
set_option maxRecDepth 100000 in
instance Q_ (a_:aA) (b:aA):CM En (iC a_ b) 113 [(bX a_),.agg (.int .i64 b.Coin.Bank:: .int .i64 b.Coin.Epoch:: .int .i64 b.Coin.Denom:: .int .i64 b.Coin.Depth:: .int .i64 b.Coin.A:: .int .u8 (gt b.Coin.Root 0):: .int .u8 (gt b.Coin.Root 1):: .int .u8 (gt b.Coin.Root 2):: .int .u8 (gt b.Coin.Root 3):: .int .u8 (gt b.Coin.Root 4):: .int .u8 (gt b.Coin.Root 5):: .int .u8 (gt b.Coin.Root 6):: .int .u8 (gt b.Coin.Root 7):: .int .u8 (gt b.Coin.Root 8):: .int .u8 (gt b.Coin.Root 9):: .int .u8 (gt b.Coin.Root 10):: .int .u8 (gt b.Coin.Root 11):: .int .u8 (gt b.Coin.Root 12):: .int .u8 (gt b.Coin.Root 13):: .int .u8 (gt b.Coin.Root 14):: .int .u8 (gt b.Coin.Root 15):: .int .u8 (gt b.Coin.Root 16):: .int .u8 (gt b.Coin.Root 17):: .int .u8 (gt b.Coin.Root 18):: .int .u8 (gt b.Coin.Root 19):: .int .u8 (gt b.Coin.Root 20):: .int .u8 (gt b.Coin.Root 21):: .int .u8 (gt b.Coin.Root 22):: .int .u8 (gt b.Coin.Root 23):: .int .u8 (gt b.Coin.Root 24):: .int .u8 (gt b.Coin.Root 25):: .int .u8 (gt b.Coin.Root 26):: .int .u8 (gt b.Coin.Root 27):: .int .u8 (gt b.Coin.Root 28):: .int .u8 (gt b.Coin.Root 29):: .int .u8 (gt b.Coin.Root 30):: .int .u8 (gt b.Coin.Root 31):: .int .i64 b.Coin.Sign.Z:: .int .i64 b.Coin.Sign.A:: .int .i64 b.Coin.Sign.B:: .int .i64 b.Coin.Sign.R:: .int .i64 b.Node.Level:: .int .i64 b.Node.Index:: .int .u8 (gt b.Context.Payee 0):: .int .u8 (gt b.Context.Payee 1):: .int .u8 (gt b.Context.Payee 2):: .int .u8 (gt b.Context.Payee 3):: .int .u8 (gt b.Context.Payee 4):: .int .u8 (gt b.Context.Payee 5):: .int .u8 (gt b.Context.Payee 6):: .int .u8 (gt b.Context.Payee 7):: .int .u8 (gt b.Context.Payee 8):: .int .u8 (gt b.Context.Payee 9):: .int .u8 (gt b.Context.Payee 10):: .int .u8 (gt b.Context.Payee 11):: .int .u8 (gt b.Context.Payee 12):: .int .u8 (gt b.Context.Payee 13):: .int .u8 (gt b.Context.Payee 14):: .int .u8 (gt b.Context.Payee 15):: .int .u8 (gt b.Context.Payee 16):: .int .u8 (gt b.Context.Payee 17):: .int .u8 (gt b.Context.Payee 18):: .int .u8 (gt b.Context.Payee 19):: .int .u8 (gt b.Context.Payee 20):: .int .u8 (gt b.Context.Payee 21):: .int .u8 (gt b.Context.Payee 22):: .int .u8 (gt b.Context.Payee 23):: .int .u8 (gt b.Context.Payee 24):: .int .u8 (gt b.Context.Payee 25):: .int .u8 (gt b.Context.Payee 26):: .int .u8 (gt b.Context.Payee 27):: .int .u8 (gt b.Context.Payee 28):: .int .u8 (gt b.Context.Payee 29):: .int .u8 (gt b.Context.Payee 30):: .int .u8 (gt b.Context.Payee 31):: .int .i64 b.Context.Time:: .int .i64 b.Context.Number:: .sl none 3 true (b.Leaves.map eJ):: .int .i64 b.Path.Index:: .sl none 32 true (b.Path.L.map bI)::[])] (fun y=> .bool y) (fun _=> []):=by
 refine enQ noJ Tryz.func113 Tryz.ntmps113 (iC.eq_1 ..) fun r hw=> ?_
 intro hF hM
 refine fH (fun h1=> ?_) (fun h1=> ?_)
 ·have kh1:(!(dE (a_.Coin) (b.Coin)))=false:=h1
  rw [if_neg (bH kh1)] at hM
  replace hF:=(And.intro h1 hF)
  revert hM;revert hF
  refine slQ ?_
  intro hF hM
  have nh1:=nzQ kh1
  try have hr2:=mpQ nh1
  refine fH (fun h3=> ?_) (fun h3=> ?_)
  ·have kh3:(!(lf (a_.Node) (b.Node)))=false:=h3
   rw [if_neg (bH kh3)] at hM
   replace hF:=(And.intro h3 hF)
   revert hM;revert hF
   refine slQ ?_
   intro hF hM
   have nh3:=nzQ kh3
   try have hr4:=mpQ nh3
   refine fH (fun h5=> ?_) (fun h5=> ?_)
   ·have kh5:(!(lg (a_.Context) (b.Context)))=false:=h5
    rw [if_neg (bH kh5)] at hM
    replace hF:=(And.intro h5 hF)
    revert hM;revert hF
    refine slQ ?_
    intro hF hM
    have nh5:=nzQ kh5
    try have hr6:=mpQ nh5
    revert hM;revert hF
    refine ax fun _ _ _=> ?_
    refine aF fun _ _ _ _=> ?_
    refine aJ fun _ _ _=> ?_
    intro hF hM
    have hM0:=hM;clear hM;obtain ⟨f15,d15,hf15,hd15,hM⟩:=aH hM0;clear hM0
    refine bm (fun n S=> ∃p:Int,S=(⟨[(2,.ptr 0 0),(3,.ptr 1 0),(5,.int .i64 p)],[(0,.var 80 true ((bX a_))),(1,.var 80 true (.agg (.int .i64 b.Coin.Bank:: .int .i64 b.Coin.Epoch:: .int .i64 b.Coin.Denom:: .int .i64 b.Coin.Depth:: .int .i64 b.Coin.A:: .int .u8 (gt b.Coin.Root 0):: .int .u8 (gt b.Coin.Root 1):: .int .u8 (gt b.Coin.Root 2):: .int .u8 (gt b.Coin.Root 3):: .int .u8 (gt b.Coin.Root 4):: .int .u8 (gt b.Coin.Root 5):: .int .u8 (gt b.Coin.Root 6):: .int .u8 (gt b.Coin.Root 7):: .int .u8 (gt b.Coin.Root 8):: .int .u8 (gt b.Coin.Root 9):: .int .u8 (gt b.Coin.Root 10):: .int .u8 (gt b.Coin.Root 11):: .int .u8 (gt b.Coin.Root 12):: .int .u8 (gt b.Coin.Root 13):: .int .u8 (gt b.Coin.Root 14):: .int .u8 (gt b.Coin.Root 15):: .int .u8 (gt b.Coin.Root 16):: .int .u8 (gt b.Coin.Root 17):: .int .u8 (gt b.Coin.Root 18):: .int .u8 (gt b.Coin.Root 19):: .int .u8 (gt b.Coin.Root 20):: .int .u8 (gt b.Coin.Root 21):: .int .u8 (gt b.Coin.Root 22):: .int .u8 (gt b.Coin.Root 23):: .int .u8 (gt b.Coin.Root 24):: .int .u8 (gt b.Coin.Root 25):: .int .u8 (gt b.Coin.Root 26):: .int .u8 (gt b.Coin.Root 27):: .int .u8 (gt b.Coin.Root 28):: .int .u8 (gt b.Coin.Root 29):: .int .u8 (gt b.Coin.Root 30):: .int .u8 (gt b.Coin.Root 31):: .int .i64 b.Coin.Sign.Z:: .int .i64 b.Coin.Sign.A:: .int .i64 b.Coin.Sign.B:: .int .i64 b.Coin.Sign.R:: .int .i64 b.Node.Level:: .int .i64 b.Node.Index:: .int .u8 (gt b.Context.Payee 0):: .int .u8 (gt b.Context.Payee 1):: .int .u8 (gt b.Context.Payee 2):: .int .u8 (gt b.Context.Payee 3):: .int .u8 (gt b.Context.Payee 4):: .int .u8 (gt b.Context.Payee 5):: .int .u8 (gt b.Context.Payee 6):: .int .u8 (gt b.Context.Payee 7):: .int .u8 (gt b.Context.Payee 8):: .int .u8 (gt b.Context.Payee 9):: .int .u8 (gt b.Context.Payee 10):: .int .u8 (gt b.Context.Payee 11):: .int .u8 (gt b.Context.Payee 12):: .int .u8 (gt b.Context.Payee 13):: .int .u8 (gt b.Context.Payee 14):: .int .u8 (gt b.Context.Payee 15):: .int .u8 (gt b.Context.Payee 16):: .int .u8 (gt b.Context.Payee 17):: .int .u8 (gt b.Context.Payee 18):: .int .u8 (gt b.Context.Payee 19):: .int .u8 (gt b.Context.Payee 20):: .int .u8 (gt b.Context.Payee 21):: .int .u8 (gt b.Context.Payee 22):: .int .u8 (gt b.Context.Payee 23):: .int .u8 (gt b.Context.Payee 24):: .int .u8 (gt b.Context.Payee 25):: .int .u8 (gt b.Context.Payee 26):: .int .u8 (gt b.Context.Payee 27):: .int .u8 (gt b.Context.Payee 28):: .int .u8 (gt b.Context.Payee 29):: .int .u8 (gt b.Context.Payee 30):: .int .u8 (gt b.Context.Payee 31):: .int .i64 b.Context.Time:: .int .i64 b.Context.Number:: .sl none 3 true (b.Leaves.map eJ):: .int .i64 b.Path.Index:: .sl none 32 true (b.Path.L.map bI)::[])))],2⟩:St)∧((0≤p)∧(p≤(a_.Leaves.length:Int)))∧((a_.Leaves.length:Int) - p).toNat<n∧ah n f15 d15 p=r) (((a_.Leaves.length:Int) - 0).toNat+1) _ sbQ sbQ ⟨0,rfl,⟨omQ,omQ⟩,(Nat.lt_succ_self _),hM⟩ ?_
    clear hM
    rintro n15 S ⟨p15,rfl,hfa15,hm15,hM⟩
    have hM0:=hM;clear hM;obtain ⟨ag15,hag15,hM⟩:=aI hM0 (by omega) hf15;clear hM0
    replace hfa15:=nzQ hfa15
    replace hm15:=nzQ hm15
    have ha15:ak .i64 p15 1=p15+1:=aR omQ omQ
    replace hF:=(And.intro ha15 hF)
    revert hM;revert hF
    refine slQ ?_
    refine ax fun _ _ _=> ?_
    intro hF hM
    refine bR (fun h20=> ?_) (fun h20=> ?_)
    ·have kh20:(!(lh (gt a_.Leaves p15) (gt b.Leaves p15)))=true:=h20
     rw [if_pos kh20] at hM
     replace hF:=(And.intro h20 hF)
     revert hM;revert hF
     refine slQ ?_
     intro hF hM
     have nh20:=nzQ kh20
     try have hr21:=mpQ nh20
     exact auQ
    ·have kh20:(!(lh (gt a_.Leaves p15) (gt b.Leaves p15)))=false:=h20
     rw [if_neg (bH kh20)] at hM
     replace hF:=(And.intro h20 hF)
     revert hM;revert hF
     refine slQ ?_
     intro hF hM
     have nh20:=nzQ kh20
     try have hr22:=mpQ nh20
     refine aO (n15 - 1) _ (by omega) sbQ sbQ ⟨(p15+1),rfl,⟨omQ,omQ⟩,omQ,aM hM hag15⟩
   ·have kh5:(!(lg (a_.Context) (b.Context)))=true:=h5
    rw [if_pos kh5] at hM
    replace hF:=(And.intro h5 hF)
    revert hM;revert hF
    refine slQ ?_
    intro hF hM
    have nh5:=nzQ kh5
    try have hr25:=mpQ nh5
    exact auQ
  ·have kh3:(!(lf (a_.Node) (b.Node)))=true:=h3
   rw [if_pos kh3] at hM
   replace hF:=(And.intro h3 hF)
   revert hM;revert hF
   refine slQ ?_
   intro hF hM
   have nh3:=nzQ kh3
   try have hr26:=mpQ nh3
   exact auQ
 ·have kh1:(!(dE (a_.Coin) (b.Coin)))=true:=h1
  rw [if_pos kh1] at hM
  replace hF:=(And.intro h1 hF)
  revert hM;revert hF
  refine slQ ?_
  intro hF hM
  have nh1:=nzQ kh1
  try have hr27:=mpQ nh1
  exact auQ
instance (priority:=1040):DRD 6 75 10 [45,46,47,48,49,50,51,52,53,54] [] ([[],[0],[],[0,1,2],[0,1,2,3],[],[5],[],[5,6,7],[5,6,7,8]]++[List.range 10]) []:=⟨trivial⟩
instance (priority:=1041):DRD 11 75 10 [63,64,65,66,67,68,69,70,71,72] [] ([[],[0],[],[0,1,2],[0,1,2,3],[],[5],[],[5,6,7],[5,6,7,8]]++[List.range 10,List.range 11]) []:=⟨trivial⟩
set_option maxHeartbeats 2000000 in
set_option maxRecDepth 100000 in
instance Ra (a_:ay) (b:ay):CM En (kf a_ b) 55 [(bD a_),(bD b)] (fun y=> .bool y) (fun _=> []):=by
 refine enQ noJ Tryz.func55 Tryz.ntmps55 (kf.eq_1 ..) fun r hw=> ?_
 have h0_0:=CB hw.1
 have h0_1:=CB hw.2
 intro hF hM
 refine fH (fun h1=> ?_) (fun h1=> ?_)
 ·have kh1:(!(dE (a_.Coin) (b.Coin)))=false:=h1
  rw [if_neg (bH kh1)] at hM
  replace hF:=(And.intro h1 hF)
  revert hM;revert hF
  refine slQ ?_
  intro hF hM
  have nh1:=nzQ kh1
  try have hr2:=mpQ nh1
  revert hM;revert hF
  refine aF fun _ _ _ _=> ?_
  refine ax fun _ _ _=> ?_
  refine ax fun _ _ _=> ?_
  refine aJ fun _ _ _=> ?_
  intro hF hM
  have hM0:=hM;clear hM;obtain ⟨f13,d13,hf13,hd13,hM⟩:=aH hM0;clear hM0
  refine bm (fun n S=> ∃p:Int,S=(⟨[(2,.ptr 0 0),(3,.ptr 1 0),(5,.int .i64 p)],[(0,.var 46 true ((bD a_))),(1,.var 46 true ((bD b)))],2⟩:St)∧((0≤p)∧(p≤(a_.Spent.length:Int)))∧((a_.Spent.length:Int) - p).toNat<n∧ah n f13 d13 p=r) (((a_.Spent.length:Int) - 0).toNat+1) _ sbQ sbQ ⟨0,rfl,⟨omQ,omQ⟩,(Nat.lt_succ_self _),hM⟩ ?_
  clear hM
  rintro n13 S ⟨p13,rfl,hfa13,hm13,hM⟩
  have hM0:=hM;clear hM;obtain ⟨ag13,hag13,hM⟩:=aI hM0 (by omega) hf13;clear hM0
  replace hfa13:=nzQ hfa13
  replace hm13:=nzQ hm13
  have ha13:ak .i64 p13 1=p13+1:=aR omQ omQ
  replace hF:=(And.intro ha13 hF)
  revert hM;revert hF
  refine slQ ?_
  refine cdQ (fun _ _ _=> ?_) (fun _ _ _=> ?_)
  ·refine aJ fun _ _ _=> ?_
   intro hF hM
   refine aO (n13 - 1) _ (by omega) sbQ sbQ ⟨(p13+1),rfl,⟨omQ,omQ⟩,omQ,aM hM hag13⟩
  ·intro hF hM
   have hM0:=hM;clear hM;obtain ⟨f22,d22,hf22,hd22,hM⟩:=aH hM0;clear hM0
   refine bm (fun n S=> ∃p:Int,S=(⟨[(2,.ptr 0 0),(3,.ptr 1 0),(6,.int .i64 p)],[(0,.var 46 true ((bD a_))),(1,.var 46 true ((bD b)))],2⟩:St)∧((0≤p)∧(p≤(a_.Chain.length:Int)))∧((a_.Chain.length:Int) - p).toNat<n∧ah n f22 d22 p=r) (((a_.Chain.length:Int) - 0).toNat+1) _ sbQ sbQ ⟨0,rfl,⟨omQ,omQ⟩,(Nat.lt_succ_self _),hM⟩ ?_
   clear hM
   rintro n22 S ⟨p22,rfl,hfa22,hm22,hM⟩
   have hM0:=hM;clear hM;obtain ⟨ag22,hag22,hM⟩:=aI hM0 (by omega) hf22;clear hM0
   replace hfa22:=nzQ hfa22
   replace hm22:=nzQ hm22
   have ha22:ak .i64 p22 1=p22+1:=aR omQ omQ
   replace hF:=(And.intro ha22 hF)
   revert hM;revert hF
   refine slQ ?_
   refine ax fun _ _ _=> ?_
   refine aF fun _ _ _ _=> ?_
   refine aJ fun _ _ _=> ?_
   intro hF hM
   refine aO (n22 - 1) _ (by omega) sbQ sbQ ⟨(p22+1),rfl,⟨omQ,omQ⟩,omQ,aM hM hag22⟩
 ·have kh1:(!(dE (a_.Coin) (b.Coin)))=true:=h1
  rw [if_pos kh1] at hM
  replace hF:=(And.intro h1 hF)
  revert hM;revert hF
  refine slQ ?_
  intro hF hM
  have nh1:=nzQ kh1
  try have hr36:=mpQ nh1
  exact auQ
instance (priority:=1042):DRD 6 115 12 [23,24,25,26,27,28,29,30,31,32,33,34] [] ([[],[0],[0,1],[],[0,1,2,3],[0,1,2,3,4],[],[6],[6,7],[],[6,7,8,9],[6,7,8,9,10]]++[List.range 12]) []:=⟨trivial⟩
set_option maxHeartbeats 2000000 in
set_option maxRecDepth 100000 in
instance Rb (a_:aL) (b:aL):CM En (gN a_ b) 56 [(bU a_),.agg (.int .i64 b.Phase:: .int .i64 b.Number:: .int .i64 b.Bank:: .int .i64 b.Epoch:: .int .i64 b.Denom:: .int .i64 b.Depth:: .int .i64 b.Secret.U:: .int .i64 b.Secret.S:: .sl none 2 true (b.Secret.X.map (fun l=> .agg [.int .i64 (gt l 0),.int .i64 (gt l 1)])):: .int .i64 b.Factors.S:: .int .i64 b.Factors.U:: .int .i64 b.Factors.V:: .int .i64 b.View.M:: .int .i64 b.View.Z:: .int .i64 b.View.A:: .int .i64 b.View.B:: .int .i64 b.View.C:: .int .i64 b.View.R:: .int .i64 b.Coin.Bank:: .int .i64 b.Coin.Epoch:: .int .i64 b.Coin.Denom:: .int .i64 b.Coin.Depth:: .int .i64 b.Coin.A:: .int .u8 (gt b.Coin.Root 0):: .int .u8 (gt b.Coin.Root 1):: .int .u8 (gt b.Coin.Root 2):: .int .u8 (gt b.Coin.Root 3):: .int .u8 (gt b.Coin.Root 4):: .int .u8 (gt b.Coin.Root 5):: .int .u8 (gt b.Coin.Root 6):: .int .u8 (gt b.Coin.Root 7):: .int .u8 (gt b.Coin.Root 8):: .int .u8 (gt b.Coin.Root 9):: .int .u8 (gt b.Coin.Root 10):: .int .u8 (gt b.Coin.Root 11):: .int .u8 (gt b.Coin.Root 12):: .int .u8 (gt b.Coin.Root 13):: .int .u8 (gt b.Coin.Root 14):: .int .u8 (gt b.Coin.Root 15):: .int .u8 (gt b.Coin.Root 16):: .int .u8 (gt b.Coin.Root 17):: .int .u8 (gt b.Coin.Root 18):: .int .u8 (gt b.Coin.Root 19):: .int .u8 (gt b.Coin.Root 20):: .int .u8 (gt b.Coin.Root 21):: .int .u8 (gt b.Coin.Root 22):: .int .u8 (gt b.Coin.Root 23):: .int .u8 (gt b.Coin.Root 24):: .int .u8 (gt b.Coin.Root 25):: .int .u8 (gt b.Coin.Root 26):: .int .u8 (gt b.Coin.Root 27):: .int .u8 (gt b.Coin.Root 28):: .int .u8 (gt b.Coin.Root 29):: .int .u8 (gt b.Coin.Root 30):: .int .u8 (gt b.Coin.Root 31):: .int .i64 b.Coin.Sign.Z:: .int .i64 b.Coin.Sign.A:: .int .i64 b.Coin.Sign.B:: .int .i64 b.Coin.Sign.R::[])] (fun y=> .bool y) (fun _=> []):=by
 refine enQ noJ Tryz.func56 Tryz.ntmps56 (gN.eq_1 ..) fun r hw=> ?_
 refine aJ fun _ _ _=> ?_
 intro hF hM
 have hM0:=hM;clear hM;obtain ⟨f4,d4,hf4,hd4,hM⟩:=aH hM0;clear hM0
 refine bm (fun n S=> ∃p:Int,S=(⟨[(2,.ptr 0 0),(3,.ptr 1 0),(5,.int .i64 p)],[(0,.var 59 true ((bU a_))),(1,.var 59 true ((bU b)))],2⟩:St)∧((0≤p)∧(p≤(a_.Secret.X.length:Int)))∧((a_.Secret.X.length:Int) - p).toNat<n∧ah n f4 d4 p=r) (((a_.Secret.X.length:Int) - 0).toNat+1) _ sbQ sbQ ⟨0,rfl,⟨omQ,omQ⟩,(Nat.lt_succ_self _),hM⟩ ?_
 clear hM
 rintro n4 S ⟨p4,rfl,hfa4,hm4,hM⟩
 have hM0:=hM;clear hM;obtain ⟨ag4,hag4,hM⟩:=aI hM0 (by omega) hf4;clear hM0
 replace hfa4:=nzQ hfa4
 replace hm4:=nzQ hm4
 have ha4:ak .i64 p4 1=p4+1:=aR omQ omQ
 replace hF:=(And.intro ha4 hF)
 revert hM;revert hF
 refine slQ ?_
 refine ax fun _ _ _=> ?_
 intro hF hM
 refine bR (fun h9=> ?_) (fun h9=> ?_)
 ·have kh9:(!(fg (gt a_.Secret.X p4) (gt b.Secret.X p4)))=true:=h9
  rw [if_pos kh9] at hM
  replace hF:=(And.intro h9 hF)
  revert hM;revert hF
  refine slQ ?_
  intro hF hM
  have nh9:=nzQ kh9
  try have hr10:=mpQ nh9
  exact auQ
 ·have kh9:(!(fg (gt a_.Secret.X p4) (gt b.Secret.X p4)))=false:=h9
  rw [if_neg (bH kh9)] at hM
  replace hF:=(And.intro h9 hF)
  revert hM;revert hF
  refine slQ ?_
  intro hF hM
  have nh9:=nzQ kh9
  try have hr11:=mpQ nh9
  refine aO (n4 - 1) _ (by omega) sbQ sbQ ⟨(p4+1),rfl,⟨omQ,omQ⟩,omQ,aM hM hag4⟩
instance (priority:=1043):DRD 6 96 10 [65,66,67,68,69,70,71,72,73,74] [] ([[],[0],[],[0,1,2],[0,1,2,3],[],[5],[],[5,6,7],[5,6,7,8]]++[List.range 10,List.range 11]) []:=⟨trivial⟩
instance (priority:=1044):DRD 11 96 10 [84,85,86,87,88,89,90,91,92,93] [] ([[],[0],[],[0,1,2],[0,1,2,3],[],[5],[],[5,6,7],[5,6,7,8]]++[List.range 10,List.range 11]) []:=⟨trivial⟩
set_option maxHeartbeats 2000000 in
set_option maxRecDepth 100000 in
instance Rc (a_:av) (b:av):CM En (cr a_ b) 16 [(bL a_),.agg (.int .i64 b.Bank:: .int .i64 b.U:: .int .i64 b.Key:: .int .i64 b.Next:: .sl none 46 true (b.Holdings.map bD):: .sl none 59 true (b.Open.map bU):: .int .u8 (gt b.Source.Seed 0):: .int .u8 (gt b.Source.Seed 1):: .int .u8 (gt b.Source.Seed 2):: .int .u8 (gt b.Source.Seed 3):: .int .u8 (gt b.Source.Seed 4):: .int .u8 (gt b.Source.Seed 5):: .int .u8 (gt b.Source.Seed 6):: .int .u8 (gt b.Source.Seed 7):: .int .u8 (gt b.Source.Seed 8):: .int .u8 (gt b.Source.Seed 9):: .int .u8 (gt b.Source.Seed 10):: .int .u8 (gt b.Source.Seed 11):: .int .u8 (gt b.Source.Seed 12):: .int .u8 (gt b.Source.Seed 13):: .int .u8 (gt b.Source.Seed 14):: .int .u8 (gt b.Source.Seed 15):: .int .u8 (gt b.Source.Seed 16):: .int .u8 (gt b.Source.Seed 17):: .int .u8 (gt b.Source.Seed 18):: .int .u8 (gt b.Source.Seed 19):: .int .u8 (gt b.Source.Seed 20):: .int .u8 (gt b.Source.Seed 21):: .int .u8 (gt b.Source.Seed 22):: .int .u8 (gt b.Source.Seed 23):: .int .u8 (gt b.Source.Seed 24):: .int .u8 (gt b.Source.Seed 25):: .int .u8 (gt b.Source.Seed 26):: .int .u8 (gt b.Source.Seed 27):: .int .u8 (gt b.Source.Seed 28):: .int .u8 (gt b.Source.Seed 29):: .int .u8 (gt b.Source.Seed 30):: .int .u8 (gt b.Source.Seed 31):: .int .i64 b.Source.Counter::[])] (fun y=> .bool y) (fun _=> []):=by
 refine enQ noJ Tryz.func16 Tryz.ntmps16 (cr.eq_1 ..) fun r hw=> ?_
 refine ax fun _ _ _=> ?_
 refine ax fun _ _ _=> ?_
 refine ax fun _ _ _=> ?_
 refine ax fun _ _ _=> ?_
 intro hF hM
 refine fH (fun h9=> ?_) (fun h9=> ?_)
 ·have kh9:(!(li (a_.Source) (b.Source)))=false:=h9
  rw [if_neg (bH kh9)] at hM
  replace hF:=(And.intro h9 hF)
  revert hM;revert hF
  refine slQ ?_
  intro hF hM
  have nh9:=nzQ kh9
  try have hr10:=mpQ nh9
  revert hM;revert hF
  refine ax fun _ _ _=> ?_
  refine aJ fun _ _ _=> ?_
  intro hF hM
  have hM0:=hM;clear hM;obtain ⟨f16,d16,hf16,hd16,hM⟩:=aH hM0;clear hM0
  refine bm (fun n S=> ∃p:Int,S=(⟨[(2,.ptr 0 0),(3,.ptr 1 0),(5,.int .i64 p)],[(0,.var 39 true ((bL a_))),(1,.var 39 true (.agg (.int .i64 b.Bank:: .int .i64 b.U:: .int .i64 b.Key:: .int .i64 b.Next:: .sl none 46 true (b.Holdings.map bD):: .sl none 59 true (b.Open.map bU):: .int .u8 (gt b.Source.Seed 0):: .int .u8 (gt b.Source.Seed 1):: .int .u8 (gt b.Source.Seed 2):: .int .u8 (gt b.Source.Seed 3):: .int .u8 (gt b.Source.Seed 4):: .int .u8 (gt b.Source.Seed 5):: .int .u8 (gt b.Source.Seed 6):: .int .u8 (gt b.Source.Seed 7):: .int .u8 (gt b.Source.Seed 8):: .int .u8 (gt b.Source.Seed 9):: .int .u8 (gt b.Source.Seed 10):: .int .u8 (gt b.Source.Seed 11):: .int .u8 (gt b.Source.Seed 12):: .int .u8 (gt b.Source.Seed 13):: .int .u8 (gt b.Source.Seed 14):: .int .u8 (gt b.Source.Seed 15):: .int .u8 (gt b.Source.Seed 16):: .int .u8 (gt b.Source.Seed 17):: .int .u8 (gt b.Source.Seed 18):: .int .u8 (gt b.Source.Seed 19):: .int .u8 (gt b.Source.Seed 20):: .int .u8 (gt b.Source.Seed 21):: .int .u8 (gt b.Source.Seed 22):: .int .u8 (gt b.Source.Seed 23):: .int .u8 (gt b.Source.Seed 24):: .int .u8 (gt b.Source.Seed 25):: .int .u8 (gt b.Source.Seed 26):: .int .u8 (gt b.Source.Seed 27):: .int .u8 (gt b.Source.Seed 28):: .int .u8 (gt b.Source.Seed 29):: .int .u8 (gt b.Source.Seed 30):: .int .u8 (gt b.Source.Seed 31):: .int .i64 b.Source.Counter::[])))],2⟩:St)∧((0≤p)∧(p≤(a_.Holdings.length:Int)))∧((a_.Holdings.length:Int) - p).toNat<n∧ah n f16 d16 p=r) (((a_.Holdings.length:Int) - 0).toNat+1) _ sbQ sbQ ⟨0,rfl,⟨omQ,omQ⟩,(Nat.lt_succ_self _),hM⟩ ?_
  clear hM
  rintro n16 S ⟨p16,rfl,hfa16,hm16,hM⟩
  have hM0:=hM;clear hM;obtain ⟨ag16,hag16,hM⟩:=aI hM0 (by omega) hf16;clear hM0
  replace hfa16:=nzQ hfa16
  replace hm16:=nzQ hm16
  have ha16:ak .i64 p16 1=p16+1:=aR omQ omQ
  replace hF:=(And.intro ha16 hF)
  revert hM;revert hF
  refine slQ ?_
  refine cdQ (fun _ _ _=> ?_) (fun _ _ _=> ?_)
  ·refine aF fun _ _ _ _=> ?_
   refine aJ fun _ _ _=> ?_
   intro hF hM
   refine aO (n16 - 1) _ (by omega) sbQ sbQ ⟨(p16+1),rfl,⟨omQ,omQ⟩,omQ,aM hM hag16⟩
  ·intro hF hM
   have hM0:=hM;clear hM;obtain ⟨f28,d28,hf28,hd28,hM⟩:=aH hM0;clear hM0
   refine bm (fun n S=> ∃p:Int,S=(⟨[(2,.ptr 0 0),(3,.ptr 1 0),(6,.int .i64 p)],[(0,.var 39 true ((bL a_))),(1,.var 39 true (.agg (.int .i64 b.Bank:: .int .i64 b.U:: .int .i64 b.Key:: .int .i64 b.Next:: .sl none 46 true (b.Holdings.map bD):: .sl none 59 true (b.Open.map bU):: .int .u8 (gt b.Source.Seed 0):: .int .u8 (gt b.Source.Seed 1):: .int .u8 (gt b.Source.Seed 2):: .int .u8 (gt b.Source.Seed 3):: .int .u8 (gt b.Source.Seed 4):: .int .u8 (gt b.Source.Seed 5):: .int .u8 (gt b.Source.Seed 6):: .int .u8 (gt b.Source.Seed 7):: .int .u8 (gt b.Source.Seed 8):: .int .u8 (gt b.Source.Seed 9):: .int .u8 (gt b.Source.Seed 10):: .int .u8 (gt b.Source.Seed 11):: .int .u8 (gt b.Source.Seed 12):: .int .u8 (gt b.Source.Seed 13):: .int .u8 (gt b.Source.Seed 14):: .int .u8 (gt b.Source.Seed 15):: .int .u8 (gt b.Source.Seed 16):: .int .u8 (gt b.Source.Seed 17):: .int .u8 (gt b.Source.Seed 18):: .int .u8 (gt b.Source.Seed 19):: .int .u8 (gt b.Source.Seed 20):: .int .u8 (gt b.Source.Seed 21):: .int .u8 (gt b.Source.Seed 22):: .int .u8 (gt b.Source.Seed 23):: .int .u8 (gt b.Source.Seed 24):: .int .u8 (gt b.Source.Seed 25):: .int .u8 (gt b.Source.Seed 26):: .int .u8 (gt b.Source.Seed 27):: .int .u8 (gt b.Source.Seed 28):: .int .u8 (gt b.Source.Seed 29):: .int .u8 (gt b.Source.Seed 30):: .int .u8 (gt b.Source.Seed 31):: .int .i64 b.Source.Counter::[])))],2⟩:St)∧((0≤p)∧(p≤(a_.Open.length:Int)))∧((a_.Open.length:Int) - p).toNat<n∧ah n f28 d28 p=r) (((a_.Open.length:Int) - 0).toNat+1) _ sbQ sbQ ⟨0,rfl,⟨omQ,omQ⟩,(Nat.lt_succ_self _),hM⟩ ?_
   clear hM
   rintro n28 S ⟨p28,rfl,hfa28,hm28,hM⟩
   have hM0:=hM;clear hM;obtain ⟨ag28,hag28,hM⟩:=aI hM0 (by omega) hf28;clear hM0
   replace hfa28:=nzQ hfa28
   replace hm28:=nzQ hm28
   have ha28:ak .i64 p28 1=p28+1:=aR omQ omQ
   replace hF:=(And.intro ha28 hF)
   revert hM;revert hF
   refine slQ ?_
   refine ax fun _ _ _=> ?_
   refine aF fun _ _ _ _=> ?_
   refine aJ fun _ _ _=> ?_
   intro hF hM
   refine aO (n28 - 1) _ (by omega) sbQ sbQ ⟨(p28+1),rfl,⟨omQ,omQ⟩,omQ,aM hM hag28⟩
 ·have kh9:(!(li (a_.Source) (b.Source)))=true:=h9
  rw [if_pos kh9] at hM
  replace hF:=(And.intro h9 hF)
  revert hM;revert hF
  refine slQ ?_
  intro hF hM
  have nh9:=nzQ kh9
  try have hr41:=mpQ nh9
  exact auQ
set_option maxHeartbeats 2000000 in
set_option maxRecDepth 100000 in
instance Rd (b:(List Int)):CM En (gO b) 173 [.sl none 1 false (b.map (V.int .u8))] (fun y=> .int .u64 y) (fun _=> []):=by
 refine enQ noJ Tryz.func173 Tryz.ntmps173 (gO.eq_1 ..) fun r hw=> ?_
 intro hF hM
 have hM0:=hM;clear hM;obtain ⟨f1,d1,hf1,hd1,hM⟩:=aH hM0;clear hM0
 refine bm (fun n S=> ∃p:Int×Int,S=(⟨[(0,.sl none 1 false (b.map (V.int .u8))),(3,.int .u64 p.1),(4,.int .i64 p.2)],[],0⟩:St)∧((0≤p.2)∧(p.2≤(b.length:Int)))∧((b.length:Int) - p.2).toNat<n∧ah n f1 d1 p=r) (((b.length:Int) - 0).toNat+1) _ sbQ sbQ ⟨(0,0),rfl,⟨omQ,omQ⟩,(Nat.lt_succ_self _),hM⟩ ?_
 clear hM
 rintro n1 S ⟨p1,rfl,hfa1,hm1,hM⟩
 have hM0:=hM;clear hM;obtain ⟨ag1,hag1,hM⟩:=aI hM0 (by omega) hf1;clear hM0
 replace hfa1:=nzQ hfa1
 replace hm1:=nzQ hm1
 have ha1:ak .i64 p1.2 1=p1.2+1:=aR omQ omQ
 replace hF:=(And.intro ha1 hF)
 revert hM;revert hF
 refine slQ ?_
 refine ax fun _ _ _=> ?_
 intro hF hM
 refine aO (n1 - 1) _ (by omega) sbQ sbQ ⟨((ak .u64 (aK .u64 256 p1.1) (ae .u64 (gt b p1.2))),(p1.2+1)),rfl,⟨omQ,omQ⟩,omQ,aM hM hag1⟩
instance (priority:=1045):DRD 16 119 11 [78,79,80,81,82,83,84,85,86,87] [] ([[],[],[],[],[2,3],[1,2,3,4],[0,1,2,3,4,5],[],[],[7,8],[0,1,2,3,4,5,6]]++[List.range 11,List.range 12]) [(5,2),(10,0)]:=⟨trivial⟩
set_option maxHeartbeats 2000000 in
set_option maxRecDepth 100000 in
theorem LE (N:Nat) (ih: ∀(z0:Option Bool) (b:(List Int)) (within:Int),(0≤within)→(within≤8)→(isB b)→(8 - within).toNat<N→a8 En 114 [.sl z0 1 false (b.map (V.int .u8)),.int .i64 within] (.tup [.agg [.int .i64 (ca b within).1.Kind,.int .i64 (ca b within).1.N,.sl none 1 false ((ca b within).1.B.map (V.int .u8)),.sl none 4 true ((ca b within).1.L.map aw)],.sl none 1 false ((ca b within).2.1.map (V.int .u8)),.int .i64 (ca b within).2.2]) []) (z0:Option Bool) (b:(List Int)) (within:Int) (hp0:0≤within) (hp1:within≤8) (hp2:isB b) (hp_:(8 - within).toNat<N+1):a8 En 114 [.sl z0 1 false (b.map (V.int .u8)),.int .i64 within] (.tup [.agg [.int .i64 (iD b within).1.Kind,.int .i64 (iD b within).1.N,.sl none 1 false ((iD b within).1.B.map (V.int .u8)),.sl none 4 true ((iD b within).1.L.map aw)],.sl none 1 false ((iD b within).2.1.map (V.int .u8)),.int .i64 (iD b within).2.2]) []:=by
 generalize hM:iD b within=r
 rw [iD.eq_1] at hM
 refine ef bn cJ [11] Tryz.func114 rfl Tryz.ntmps114 (by kernel_rfl) fun hw=>cO ?_
 refine spQ ?_
 replace hw:=nzQ hw
 refine bR (fun h1=> ?_) (fun h1=> ?_)
 ·rw [if_pos h1] at hM
  refine aq h1 ?_
  have nh1:=nzQ h1
  try have hr2:=mpQ nh1
  subst hM
  exact cI (cK h1)
 ·rw [if_neg (bH h1)] at hM
  refine aq h1 ?_
  have nh1:=nzQ h1
  try have hr3:=mpQ nh1
  refine bM omQ ?_
  have he4: ∀d,elt (b.map (V.int .u8)) 0 d=(V.int .u8) (gt b 0):=fun d=>cg (l:=b) (f:=(V.int .u8)) (i:=0) omQ d
  refine aq he4 ?_
  refine bM omQ ?_
  refine aq he4 ?_
  have hM0:=hM;clear hM;obtain ⟨j5,hj5,hM⟩:=nJ hM0;clear hM0
  refine nB (fun S=> ∃p:Unit,S=(⟨[(0,.sl none 1 false ((sl b 1 (b.length:Int)).map (V.int .u8))),(1,.int .i64 within),(4,.ptr 0 0),(7,.int .i64 (ae .i64 (gt b 0)))],[(0,.var 4 true (.agg [.int .i64 0,.int .i64 0,.sl (some true) 1 false [],.sl (some true) 4 true []]))],1⟩:St)∧((2≤(ae .i64 (gt b 0)))∧((ae .i64 (gt b 0))≤3)∧((ae .i64 (gt b 0))≠3∨within≠8)∧(4≤(((sl b 1 (b.length:Int))).length:Int)))∧j5 p=r) ?_ (fun hcut5=> ?_)
  ·clear hM
   rintro S ⟨p5,rfl,hfa5,hM⟩
   replace hfa5:=nzQ hfa5
   have hM0:=hM;clear hM;have hM:=kQ hM0 hj5;clear hM0
   try refine aq he4 ?_
   refine bM omQ ?_
   refine aq he4 ?_
   have hM0:=hM;clear hM;obtain ⟨x6,hx7,hM⟩:=aC hM0;clear hM0
   have hcx6:=cmU hx7
   refine bl hcx6 (an he4) (an he4) (fun hw8=> ?_)
   replace hw8:=nzQ hw8
   refine aq he4 ?_
   have hq9:=qx hx7 (dW (dW hp2))
   replace hq9:=nzQ hq9
   refine bM omQ ?_
   refine aq he4 ?_
   refine bR (fun h10=> ?_) (fun h10=> ?_)
   ·rw [if_pos h10] at hM
    refine aq (And.intro he4 h10) ?_
    have nh10:=nzQ h10
    try have hr11:=mpQ nh10
    have hF:=(And.intro h1 (And.intro he4 h10))
    exact auQ
   ·rw [if_neg (bH h10)] at hM
    refine aq (And.intro he4 h10) ?_
    have nh10:=nzQ h10
    try have hr15:=mpQ nh10
    refine bR (fun h16=> ?_) (fun h16=> ?_)
    ·rw [if_pos h16] at hM
     refine aq (And.intro he4 h16) ?_
     have nh16:=nzQ h16
     try have hr17:=mpQ nh16
     subst hM
     exact cI (cK (And.intro he4 (And.intro h1 (And.intro h10 h16))))
    ·rw [if_neg (bH h16)] at hM
     refine aq (And.intro he4 h16) ?_
     have nh16:=nzQ h16
     try have hr18:=mpQ nh16
     have hM0:=hM;clear hM;obtain ⟨f19,d19,hf19,hd19,hM⟩:=aH hM0;clear hM0
     refine bN (fun n S=> ∃p:List Int×Int×aa×List aa,S=(⟨[(0,.sl none 1 false (p.1.map (V.int .u8))),(1,.int .i64 within),(4,.ptr 0 0),(8,.int .i64 (ae .i64 x6)),(9,.ptr 1 0),(10,.int .i64 p.2.1)],[(0,.var 4 true (.agg [.int .i64 p.2.2.1.Kind,.int .i64 p.2.2.1.N,.sl none 1 false (p.2.2.1.B.map (V.int .u8)),.sl none 4 true (p.2.2.1.L.map aw)])),(1,.var 4 true (.agg [.int .i64 (ae .i64 (gt b 0)),.int .i64 0,.sl (some true) 1 false [],.own 2])),(2,.own 126 4 true none (p.2.2.2.map aw))],3⟩:St)∧(((0≤p.2.1)∧(p.2.1≤(ae .i64 x6))∧(((p.2.2.2).length:Int)≤p.2.1))∧(isB (p.1)))∧((ae .i64 x6) - p.2.1).toNat<n∧ah n f19 d19 p=r) (((ae .i64 x6) - 0).toNat+1) _ _ (dm 1 3 126 rfl rfl (by decide)) sbQ sbG ⟨((sl (sl b 1 (b.length:Int)) 4 ((sl b 1 (b.length:Int)).length:Int)),0,bT,([]:List aa)),rfl,⟨⟨omQ,omQ,omQ⟩,by (exact dW (dW hp2))⟩,(Nat.lt_succ_self _),hM⟩ ?_
     clear hM
     rintro n19 S ⟨p19,rfl,⟨hfa19,hF21_0⟩,hm19,hM⟩
     have hM0:=hM;clear hM;obtain ⟨ag19,hag19,hM⟩:=aI hM0 (by omega) hf19;clear hM0
     replace hfa19:=nzQ hfa19
     replace hm19:=nzQ hm19
     have ha19:ak .i64 p19.2.1 1=p19.2.1+1:=aR omQ omQ
     refine aq (And.intro he4 ha19) ?_
     refine bR (fun h20=> ?_) (fun h20=> ?_)
     ·rw [if_pos h20] at hM
      refine aq (And.intro he4 (And.intro ha19 h20)) ?_
      have nh20:=nzQ h20
      try have hr21:=mpQ nh20
      have ha22:ak .i64 within 1=(within+1):=eY omQ omQ
      try simp only [ha22]
      have hM0:=hM;clear hM;obtain ⟨x23,hx24,hM⟩:=aC hM0;clear hM0
      have hcx23:=ih none (p19.1) (within+1) (by (first|assumption|omega)) (by (first|assumption|omega)) (by (first|assumption|omega)) (by omega)
      rw [←hx24] at hcx23
      refine bl hcx23 (an (And.intro he4 (And.intro ha19 ha22))) (an (And.intro he4 (And.intro ha19 ha22))) (fun hw25=> ?_)
      replace hw25:=nzQ hw25
      refine aq (And.intro he4 (And.intro ha19 ha22)) ?_
      have hq26:=Km hx24 (by assumption)
      replace hq26:=nzQ hq26
      refine bR (fun h27=> ?_) (fun h27=> ?_)
      ·rw [if_pos h27] at hM
       refine aq (And.intro he4 (And.intro ha19 (And.intro ha22 h27))) ?_
       have nh27:=nzQ h27
       try have hr28:=mpQ nh27
       subst hM
       exact cI (cK (And.intro he4 (And.intro ha19 (And.intro ha22 (And.intro h1 (And.intro h10 (And.intro h16 (And.intro h20 h27))))))))
      ·rw [if_neg (bH h27)] at hM
       refine aq (And.intro he4 (And.intro ha19 (And.intro ha22 h27))) ?_
       have nh27:=nzQ h27
       try have hr29:=mpQ nh27
       refine bM omQ ?_
       refine aq (And.intro he4 (And.intro ha19 ha22)) ?_
       refine aO (n19 - 1) _ (by omega) sbQ sbQ ⟨(x23.2.1,(p19.2.1+1),p19.2.2.1,(p19.2.2.2++([x23.1]:List aa))),rfl,⟨⟨omQ,omQ,omQ⟩,by assumption⟩,omQ,aM hM hag19⟩
     ·rw [if_neg (bH h20)] at hM
      refine aq (And.intro he4 (And.intro ha19 h20)) ?_
      have nh20:=nzQ h20
      try have hr30:=mpQ nh20
      subst hM
      exact cI (cK (And.intro he4 (And.intro ha19 (And.intro h1 (And.intro h10 (And.intro h16 h20))))))
  ·refine aq he4 ?_
   refine fH (fun h31=> ?_) (fun h31=> ?_)
   ·rw [if_neg (bH h31)] at hM
    refine aq (And.intro he4 h31) ?_
    have nh31:=nzQ h31
    try have hr32:=mpQ nh31
    refine fH (fun h33=> ?_) (fun h33=> ?_)
    ·rw [if_neg (bH h33)] at hM
     refine aq (And.intro he4 h33) ?_
     have nh33:=nzQ h33
     try have hr34:=mpQ nh33
     refine mq (fun h35=> ?_) (fun h35=> ?_)
     ·rw [if_pos h35] at hM
      refine aq (And.intro he4 h35) ?_
      have nh35:=nzQ h35
      try have hr36:=mpQ nh35
      refine bR (fun h37=> ?_) (fun h37=> ?_)
      ·rw [if_pos h37] at hM
       refine aq (And.intro he4 h37) ?_
       have nh37:=nzQ h37
       try have hr38:=mpQ nh37
       subst hM
       exact cI (cK (And.intro he4 (And.intro h1 (And.intro h31 (And.intro h33 (And.intro h35 h37))))))
      ·rw [if_neg (bH h37)] at hM
       refine aq (And.intro he4 h37) ?_
       have nh37:=nzQ h37
       try have hr39:=mpQ nh37
       refine mq (fun h40=> ?_) (fun h40=> ?_)
       ·rw [if_pos h40] at hM
        refine aq (And.intro he4 h40) ?_
        have nh40:=nzQ h40
        try have hr41:=mpQ nh40
        refine fH (fun h42=> ?_) (fun h42=> ?_)
        ·rw [if_neg (bH h42)] at hM
         refine aq (And.intro he4 h42) ?_
         have nh42:=nzQ h42
         try have hr43:=mpQ nh42
         refine bR (fun h44=> ?_) (fun h44=> ?_)
         ·rw [if_pos h44] at hM
          refine aq (And.intro he4 h44) ?_
          have nh44:=nzQ h44
          try have hr45:=mpQ nh44
          subst hM
          exact cI (cK (And.intro he4 (And.intro h1 (And.intro h31 (And.intro h33 (And.intro h35 (And.intro h37 (And.intro h40 (And.intro h42 h44)))))))))
         ·rw [if_neg (bH h44)] at hM
          refine aq (And.intro he4 h44) ?_
          have nh44:=nzQ h44
          try have hr46:=mpQ nh44
          refine bR (fun h47=> ?_) (fun h47=> ?_)
          ·rw [if_pos h47] at hM
           refine aq (And.intro he4 h47) ?_
           have nh47:=nzQ h47
           try have hr48:=mpQ nh47
           refine jL 119 9 [57,58,59,60,61,62,63,64] [] ([[],[],[1],[1,2],[1,2,3],[0,1,2,3,4],[],[6],[0,1,2,3,4,5]]++[List.range 9,List.range 10]) [(8,0)] (by kernel_rfl) (by exact alQ) ?_
           refine aq he4 ?_
           refine c8 omQ ?_
           refine aq he4 ?_
           have hM0:=hM;clear hM;obtain ⟨x49,hx50,hM⟩:=aC hM0;clear hM0
           have hcx49:=cmU hx50
           refine c_ hcx49 (an he4) (an he4) ?_
           refine aq he4 ?_
           have hq51:=qx hx50 (dW (dW hp2))
           replace hq51:=nzQ hq51
           have hF:=(And.intro h1 (And.intro he4 (And.intro h31 (And.intro h33 (And.intro h35 (And.intro h37 (And.intro h40 (And.intro h42 (And.intro h44 h47)))))))))
           exact auQ
          ·rw [if_neg (bH h47)] at hM
           refine aq (And.intro he4 h47) ?_
           have nh47:=nzQ h47
           try have hr52:=mpQ nh47
           exact eV _ sbQ sbQ (hcut5 _ ⟨(),rfl,⟨omQ,omQ,omQ,omQ⟩,hM⟩)
        ·rw [if_pos h42] at hM
         refine aq (And.intro he4 h42) ?_
         have nh42:=nzQ h42
         try have hr53:=mpQ nh42
         subst hM
         exact cI (cK (And.intro he4 (And.intro h1 (And.intro h31 (And.intro h33 (And.intro h35 (And.intro h37 (And.intro h40 h42))))))))
       ·rw [if_neg (bH h40)] at hM
        refine aq (And.intro he4 h40) ?_
        have nh40:=nzQ h40
        try have hr54:=mpQ nh40
        refine bR (fun h55=> ?_) (fun h55=> ?_)
        ·rw [if_pos h55] at hM
         refine aq (And.intro he4 h55) ?_
         have nh55:=nzQ h55
         try have hr56:=mpQ nh55
         subst hM
         exact cI (cK (And.intro he4 (And.intro h1 (And.intro h31 (And.intro h33 (And.intro h35 (And.intro h37 (And.intro h40 h55))))))))
        ·rw [if_neg (bH h55)] at hM
         refine aq (And.intro he4 h55) ?_
         have nh55:=nzQ h55
         try have hr57:=mpQ nh55
         refine bR (fun h58=> ?_) (fun h58=> ?_)
         ·rw [if_pos h58] at hM
          refine aq (And.intro he4 h58) ?_
          have nh58:=nzQ h58
          try have hr59:=mpQ nh58
          refine jL 119 9 [57,58,59,60,61,62,63,64] [] ([[],[],[1],[1,2],[1,2,3],[0,1,2,3,4],[],[6],[0,1,2,3,4,5]]++[List.range 9,List.range 10]) [(8,0)] (by kernel_rfl) (by exact alQ) ?_
          refine aq he4 ?_
          refine c8 omQ ?_
          refine aq he4 ?_
          have hM0:=hM;clear hM;obtain ⟨x60,hx61,hM⟩:=aC hM0;clear hM0
          have hcx60:=cmU hx61
          refine c_ hcx60 (an he4) (an he4) ?_
          refine aq he4 ?_
          have hq62:=qx hx61 (dW (dW hp2))
          replace hq62:=nzQ hq62
          have hF:=(And.intro h1 (And.intro he4 (And.intro h31 (And.intro h33 (And.intro h35 (And.intro h37 (And.intro h40 (And.intro h55 h58))))))))
          exact auQ
         ·rw [if_neg (bH h58)] at hM
          refine aq (And.intro he4 h58) ?_
          have nh58:=nzQ h58
          try have hr63:=mpQ nh58
          exact eV _ sbQ sbQ (hcut5 _ ⟨(),rfl,⟨omQ,omQ,omQ,omQ⟩,hM⟩)
     ·rw [if_neg (bH h35)] at hM
      refine aq (And.intro he4 h35) ?_
      have nh35:=nzQ h35
      try have hr64:=mpQ nh35
      refine mq (fun h65=> ?_) (fun h65=> ?_)
      ·rw [if_pos h65] at hM
       refine aq (And.intro he4 h65) ?_
       have nh65:=nzQ h65
       try have hr66:=mpQ nh65
       refine fH (fun h67=> ?_) (fun h67=> ?_)
       ·rw [if_neg (bH h67)] at hM
        refine aq (And.intro he4 h67) ?_
        have nh67:=nzQ h67
        try have hr68:=mpQ nh67
        refine bR (fun h69=> ?_) (fun h69=> ?_)
        ·rw [if_pos h69] at hM
         refine aq (And.intro he4 h69) ?_
         have nh69:=nzQ h69
         try have hr70:=mpQ nh69
         subst hM
         exact cI (cK (And.intro he4 (And.intro h1 (And.intro h31 (And.intro h33 (And.intro h35 (And.intro h65 (And.intro h67 h69))))))))
        ·rw [if_neg (bH h69)] at hM
         refine aq (And.intro he4 h69) ?_
         have nh69:=nzQ h69
         try have hr71:=mpQ nh69
         refine bR (fun h72=> ?_) (fun h72=> ?_)
         ·rw [if_pos h72] at hM
          refine aq (And.intro he4 h72) ?_
          have nh72:=nzQ h72
          try have hr73:=mpQ nh72
          refine jL 119 9 [57,58,59,60,61,62,63,64] [] ([[],[],[1],[1,2],[1,2,3],[0,1,2,3,4],[],[6],[0,1,2,3,4,5]]++[List.range 9,List.range 10]) [(8,0)] (by kernel_rfl) (by exact alQ) ?_
          refine aq he4 ?_
          refine c8 omQ ?_
          refine aq he4 ?_
          have hM0:=hM;clear hM;obtain ⟨x74,hx75,hM⟩:=aC hM0;clear hM0
          have hcx74:=cmU hx75
          refine c_ hcx74 (an he4) (an he4) ?_
          refine aq he4 ?_
          have hq76:=qx hx75 (dW (dW hp2))
          replace hq76:=nzQ hq76
          have hF:=(And.intro h1 (And.intro he4 (And.intro h31 (And.intro h33 (And.intro h35 (And.intro h65 (And.intro h67 (And.intro h69 h72))))))))
          exact auQ
         ·rw [if_neg (bH h72)] at hM
          refine aq (And.intro he4 h72) ?_
          have nh72:=nzQ h72
          try have hr77:=mpQ nh72
          exact eV _ sbQ sbQ (hcut5 _ ⟨(),rfl,⟨omQ,omQ,omQ,omQ⟩,hM⟩)
       ·rw [if_pos h67] at hM
        refine aq (And.intro he4 h67) ?_
        have nh67:=nzQ h67
        try have hr78:=mpQ nh67
        subst hM
        exact cI (cK (And.intro he4 (And.intro h1 (And.intro h31 (And.intro h33 (And.intro h35 (And.intro h65 h67)))))))
      ·rw [if_neg (bH h65)] at hM
       refine aq (And.intro he4 h65) ?_
       have nh65:=nzQ h65
       try have hr79:=mpQ nh65
       refine bR (fun h80=> ?_) (fun h80=> ?_)
       ·rw [if_pos h80] at hM
        refine aq (And.intro he4 h80) ?_
        have nh80:=nzQ h80
        try have hr81:=mpQ nh80
        subst hM
        exact cI (cK (And.intro he4 (And.intro h1 (And.intro h31 (And.intro h33 (And.intro h35 (And.intro h65 h80)))))))
       ·rw [if_neg (bH h80)] at hM
        refine aq (And.intro he4 h80) ?_
        have nh80:=nzQ h80
        try have hr82:=mpQ nh80
        refine bR (fun h83=> ?_) (fun h83=> ?_)
        ·rw [if_pos h83] at hM
         refine aq (And.intro he4 h83) ?_
         have nh83:=nzQ h83
         try have hr84:=mpQ nh83
         refine jL 119 9 [57,58,59,60,61,62,63,64] [] ([[],[],[1],[1,2],[1,2,3],[0,1,2,3,4],[],[6],[0,1,2,3,4,5]]++[List.range 9,List.range 10]) [(8,0)] (by kernel_rfl) (by exact alQ) ?_
         refine aq he4 ?_
         refine c8 omQ ?_
         refine aq he4 ?_
         have hM0:=hM;clear hM;obtain ⟨x85,hx86,hM⟩:=aC hM0;clear hM0
         have hcx85:=cmU hx86
         refine c_ hcx85 (an he4) (an he4) ?_
         refine aq he4 ?_
         have hq87:=qx hx86 (dW (dW hp2))
         replace hq87:=nzQ hq87
         have hF:=(And.intro h1 (And.intro he4 (And.intro h31 (And.intro h33 (And.intro h35 (And.intro h65 (And.intro h80 h83)))))))
         exact auQ
        ·rw [if_neg (bH h83)] at hM
         refine aq (And.intro he4 h83) ?_
         have nh83:=nzQ h83
         try have hr88:=mpQ nh83
         exact eV _ sbQ sbQ (hcut5 _ ⟨(),rfl,⟨omQ,omQ,omQ,omQ⟩,hM⟩)
    ·rw [if_pos h33] at hM
     refine aq (And.intro he4 h33) ?_
     have nh33:=nzQ h33
     try have hr89:=mpQ nh33
     subst hM
     exact cI (cK (And.intro he4 (And.intro h1 (And.intro h31 h33))))
   ·rw [if_pos h31] at hM
    refine aq (And.intro he4 h31) ?_
    have nh31:=nzQ h31
    try have hr90:=mpQ nh31
    subst hM
    exact cI (cK (And.intro he4 (And.intro h1 h31)))
theorem LF: ∀(N:Nat) (z0:Option Bool) (b:(List Int)) (within:Int),(0≤within)→(within≤8)→(isB b)→(8 - within).toNat<N→a8 En 114 [.sl z0 1 false (b.map (V.int .u8)),.int .i64 within] (.tup [.agg [.int .i64 (ca b within).1.Kind,.int .i64 (ca b within).1.N,.sl none 1 false ((ca b within).1.B.map (V.int .u8)),.sl none 4 true ((ca b within).1.L.map aw)],.sl none 1 false ((ca b within).2.1.map (V.int .u8)),.int .i64 (ca b within).2.2]) []:=by
 intro N
 induction N with
 | zero=>intro z0 b within h0 h1 h2 h;exact absurd h (Nat.not_lt_zero _)
 | succ N ih=>
  intro z0 b within h0 h1 h2 h
  have h9:=LE N ih z0 b within h0 h1 h2 h
  rw [Ko h0 h1 h2] at h9
  exact h9
theorem LG (z0:Option Bool) (b:(List Int)) (within:Int) (hp0:0≤within) (hp1:within≤8) (hp2:isB b):a8 En 114 [.sl z0 1 false (b.map (V.int .u8)),.int .i64 within] (.tup [.agg [.int .i64 (ca b within).1.Kind,.int .i64 (ca b within).1.N,.sl none 1 false ((ca b within).1.B.map (V.int .u8)),.sl none 4 true ((ca b within).1.L.map aw)],.sl none 1 false ((ca b within).2.1.map (V.int .u8)),.int .i64 (ca b within).2.2]) []:=
 LF ((8 - within).toNat+1) z0 b within hp0 hp1 hp2 (Nat.lt_succ_self _)
set_option maxHeartbeats 2000000 in
set_option maxRecDepth 100000 in
instance Re (b:(List Int)):CM En (mM b) 57 [.sl none 1 false (b.map (V.int .u8))] (fun y=> .tup [.agg [.int .i64 y.1.Kind,.int .i64 y.1.N,.sl none 1 false (y.1.B.map (V.int .u8)),.sl none 4 true (y.1.L.map aw)],.int .i64 y.2]) (fun _=> []):=by
 refine enQ noJ Tryz.func57 Tryz.ntmps57 (mM.eq_1 ..) fun r hw=> ?_
 refine aJ fun _ _ _=> ?_
 intro hF hM
 have hM0:=hM;clear hM;obtain ⟨x4,hx5,hM⟩:=aC hM0;clear hM0
 have hcx4:=LG none b 0 (by (first|decide|omega|exact fw hw.2)) (by (first|decide|omega|exact fw hw.2)) (by (first|decide|omega|exact fw hw.2))
 rw [←hx5] at hcx4
 refine bl hcx4 clQ clQ (fun hw6=> ?_)
 replace hw6:=nzQ hw6
 exact auP
set_option maxHeartbeats 2000000 in
set_option maxRecDepth 100000 in
instance Rf (i_:aa) (n_:Int):CM En (dF i_ n_) 58 [.agg [.int .i64 i_.Kind,.int .i64 i_.N,.sl none 1 false (i_.B.map (V.int .u8)),.sl none 4 true (i_.L.map aw)],.int .i64 n_] (fun y=> .tup [.sl none 1 false (y.1.map (V.int .i64)),.bool y.2]) (fun _=> []):=by
 refine enQ noJ Tryz.func58 Tryz.ntmps58 (dF.eq_1 ..) fun r hw=> ?_
 refine ax fun _ _ _=> ?_
 refine aJ fun _ _ _=> ?_
 intro hF hM
 have hM0:=hM;clear hM;obtain ⟨f6,d6,hf6,hd6,hM⟩:=aH hM0;clear hM0
 refine bN (fun n S=> ∃p:Int×List Int,S=(⟨[(1,.int .i64 n_),(2,.ptr 0 0),(6,.own 1),(7,.int .i64 p.1)],[(0,.var 4 true (.agg [.int .i64 i_.Kind,.int .i64 i_.N,.sl none 1 false (i_.B.map (V.int .u8)),.sl none 4 true (i_.L.map aw)])),(1,.own 3 1 false none (p.2.map (V.int .i64)))],2⟩:St)∧((0≤p.1)∧(p.1≤n_)∧(((p.2).length:Int)≤p.1))∧(n_ - p.1).toNat<n∧ah n f6 d6 p=r) ((n_ - 0).toNat+1) _ _ (dV 6 3 rfl (by decide)) sbQ sbQ ⟨(0,([]:List Int)),rfl,⟨omQ,omQ,omQ⟩,(Nat.lt_succ_self _),hM⟩ ?_
 clear hM
 rintro n6 S ⟨p6,rfl,hfa6,hm6,hM⟩
 have hM0:=hM;clear hM;obtain ⟨ag6,hag6,hM⟩:=aI hM0 (by omega) hf6;clear hM0
 replace hfa6:=nzQ hfa6
 replace hm6:=nzQ hm6
 have ha6:ak .i64 p6.1 1=p6.1+1:=aR omQ omQ
 replace hF:=(And.intro ha6 hF)
 revert hM;revert hF
 refine slQ ?_
 refine ax fun _ _ _=> ?_
 refine aJ fun _ _ _=> ?_
 intro hF hM
 refine aO (n6 - 1) _ (by omega) sbQ sbQ ⟨((p6.1+1),(p6.2++([(gt i_.L p6.1).N]:List Int))),rfl,⟨omQ,omQ,omQ⟩,omQ,aM hM hag6⟩
set_option maxHeartbeats 2000000 in
set_option maxRecDepth 100000 in
instance Rg (i_:aa):CM En (lD i_) 59 [.agg [.int .i64 i_.Kind,.int .i64 i_.N,.sl none 1 false (i_.B.map (V.int .u8)),.sl none 4 true (i_.L.map aw)]] (fun y=> .tup [(bI y.1),.bool y.2]) (fun _=> []):=by
 refine enQ noJ Tryz.func59 Tryz.ntmps59 (lD.eq_1 ..) fun r hw=> ?_
 refine ax fun _ _ _=> ?_
 refine aJ fun _ _ _=> ?_
 intro hF hM
 have hM0:=hM;clear hM;obtain ⟨f6,d6,hf6,hd6,hM⟩:=aH hM0;clear hM0
 refine bm (fun n S=> ∃p:Int×(List Int),S=(⟨[(1,.ptr 0 0),(2,.ptr 1 0),(4,.ptr 2 0),(5,.int .i64 p.1)],[(0,.var 4 true (.agg [.int .i64 i_.Kind,.int .i64 i_.N,.sl none 1 false (i_.B.map (V.int .u8)),.sl none 4 true (i_.L.map aw)])),(1,.var 32 true (gL)),(2,.var 32 true ((bI p.2)))],3⟩:St)∧((0≤p.1)∧(p.1≤32))∧((32:Int) - p.1).toNat<n∧ah n f6 d6 p=r) (((32:Int) - 0).toNat+1) _ sbQ sbG ⟨(0,[0,0,0,0,0,0,0,0,0,0,0,0,0,0,0,0,0,0,0,0,0,0,0,0,0,0,0,0,0,0,0,0]),rfl,⟨omQ,omQ⟩,(Nat.lt_succ_self _),hM⟩ ?_
 clear hM
 rintro n6 S ⟨p6,rfl,hfa6,hm6,hM⟩
 have hM0:=hM;clear hM;obtain ⟨ag6,hag6,hM⟩:=aI hM0 (by omega) hf6;clear hM0
 replace hfa6:=nzQ hfa6
 replace hm6:=nzQ hm6
 have ha6:ak .i64 p6.1 1=p6.1+1:=aR omQ omQ
 replace hF:=(And.intro ha6 hF)
 revert hM;revert hF
 refine slQ ?_
 refine ax fun _ _ _=> ?_
 have he10:((p6.1).toNat*1≤31)=True:=eq_true ap
 refine slA he10 ?_
 have he11:=mE (f:=(V.int .u8)) (l:=(au 32 p6.2)) (n:=32) (i:=p6.1) (v:=(gt i_.B p6.1)) cq ap
 replace he11:=spR he11
 refine slA he11 ?_
 intro hF hM
 refine aO (n6 - 1) _ (by omega) sbQ sbG ⟨((p6.1+1),(au 32 (st (au 32 p6.2) p6.1 (gt i_.B p6.1)))),rfl,⟨omQ,omQ⟩,omQ,aM hM hag6⟩
instance (priority:=1046):DRD 12 81 29 [51,52,53,54,55,56,57,58,59,60,61,62,63,64,65,66,67,68,69,70,71,72,73,74,75,76,77,78,79] [] ([[],[0],[0,1],[],[3],[3,4],[],[6],[6,7],[],[9],[9,10],[],[12],[12,13],[],[],[16],[16,17],[],[19],[19,20],[],[22],[22,23],[],[25],[25,26],[16,17,18,19,20,21,22,23,24,25,26,27]]++[List.range 29,List.range 30,List.range 31]) []:=⟨trivial⟩
set_option maxHeartbeats 2000000 in
set_option maxRecDepth 100000 in
instance Rh (i_:aa):CM En (mN i_) 115 [.agg [.int .i64 i_.Kind,.int .i64 i_.N,.sl none 1 false (i_.B.map (V.int .u8)),.sl none 4 true (i_.L.map aw)]] (fun y=> .tup [(dJ y.1),.bool y.2]) (fun _=> []):=by
 refine enQ noJ Tryz.func115 Tryz.ntmps115 (mN.eq_1 ..) fun r hw=> ?_
 exact auR
set_option maxHeartbeats 2000000 in
set_option maxRecDepth 100000 in
instance Ri (x_:Int) (low:Int) (high:Int):CM En (oq x_ low high) 116 [.int .i64 x_,.int .i64 low,.int .i64 high] (fun y=> .bool y) (fun _=> []):=by
 refine enQ noJ Tryz.func116 Tryz.ntmps116 (oq.eq_1 ..) fun r hw=> ?_
 exact auR
instance (priority:=1047):DRD 17 203 15 [9,87,88,89,90,91,92,93,94,95,96,97,98,99,100] [] ([[],[0],[0,1],[0,1,2],[],[4],[4,5],[4,5,6],[4,5,6,7],[4,5,6,7,8],[0,1,2,3,4,5,6,7,8,9],[0,1,2,3,4,5,6,7,8,9,10],[0,1,2,3,4,5,6,7,8,9,10,11],[0,1,2,3,4,5,6,7,8,9,10,11],[0,1,2,3,4,5,6,7,8,9,10,11,12]]++[List.range 15]) []:=⟨trivial⟩
instance (priority:=1048):DRD 23 203 24 [11,126,127,128,129,130,131,132,133,134,135,136,137,138,139,140,141,142,143,144,145,146,147,148] [] ([[],[],[1],[1,2],[],[4],[4,5],[1,2,3,4,5,6],[],[],[9],[9,10],[],[12],[12,13],[8,9,10,11,12,13,14],[],[16],[16,17],[16,17,18],[16,17,18,19],[16,17,18,19,20],[0,1,2,3,4,5,6,7,8,9,10,11,12,13,14,15,16,17,18,19,20,21],[]]++[List.range 24]) []:=⟨trivial⟩
instance (priority:=1049):DRD 27 203 18 [155,156,157,158,159,160,161,162,163,164,165,166,167,168,169,170,171,172] [] ([[],[0],[],[],[2,3],[2,3,4],[],[],[7],[6,7,8],[6,7,8,9],[],[],[12],[11,12,13],[11,12,13,14],[2,3,4,5,6,7,8,9,10,11,12,13,14,15],[2,3,4,5,6,7,8,9,10,11,12,13,14,15,16]]++[List.range 18,List.range 19,List.range 20]) []:=⟨trivial⟩
set_option maxHeartbeats 2000000 in
set_option maxRecDepth 100000 in
instance Rj (i_:aa):CM En (kg i_) 117 [.agg [.int .i64 i_.Kind,.int .i64 i_.N,.sl none 1 false (i_.B.map (V.int .u8)),.sl none 4 true (i_.L.map aw)]] (fun y=> .tup [(bX y.1),.bool y.2]) (fun _=> []):=by
 refine enQ noJ Tryz.func117 Tryz.ntmps117 (kg.eq_1 ..) fun r hw=> ?_
 have h0_0:=jr hw.2.2.2.2 4
 have h0_1:=jr hw.2.2.2.2 5
 refine ax fun _ _ _=> ?_
 refine aJ fun _ _ _=> ?_
 refine aF fun x7 _ _ _=> ?_
 refine aJ fun _ _ _=> ?_
 refine aF fun x14 _ _ _=> ?_
 refine aJ fun _ _ _=> ?_
 refine aF fun x22 _ _ _=> ?_
 refine aJ fun _ _ _=> ?_
 refine aF fun x29 _ _ _=> ?_
 refine aJ fun _ _ _=> ?_
 refine ax fun _ _ _=> ?_
 refine aJ fun _ _ _=> ?_
 refine aF fun x42 _ _ _=> ?_
 refine aJ fun _ _ _=> ?_
 refine ax fun _ _ _=> ?_
 refine ax fun _ _ _=> ?_
 refine aJ fun _ _ _=> ?_
 intro hF hM
 have hM0:=hM;clear hM;obtain ⟨f61,d61,hf61,hd61,hM⟩:=aH hM0;clear hM0
 refine bN (fun n S=> ∃p:Int×List bS,S=(⟨[(2,.ptr 1 0),(9,.sl none 1 false (x42.1.map (V.int .i64))),(10,.ptr 19 0),(11,.ptr 43 0),(12,.int .i64 p.1)],[(1,.var 80 true (wS)),(19,.var 4 true (.agg [.int .i64 (gt i_.L 5).Kind,.int .i64 (gt i_.L 5).N,.sl none 1 false ((gt i_.L 5).B.map (V.int .u8)),.sl none 4 true ((gt i_.L 5).L.map aw)])),(43,.var 80 true (.agg (.int .i64 x7.1.Bank:: .int .i64 x7.1.Epoch:: .int .i64 x7.1.Denom:: .int .i64 x7.1.Depth:: .int .i64 x7.1.A:: .int .u8 (gt x7.1.Root 0):: .int .u8 (gt x7.1.Root 1):: .int .u8 (gt x7.1.Root 2):: .int .u8 (gt x7.1.Root 3):: .int .u8 (gt x7.1.Root 4):: .int .u8 (gt x7.1.Root 5):: .int .u8 (gt x7.1.Root 6):: .int .u8 (gt x7.1.Root 7):: .int .u8 (gt x7.1.Root 8):: .int .u8 (gt x7.1.Root 9):: .int .u8 (gt x7.1.Root 10):: .int .u8 (gt x7.1.Root 11):: .int .u8 (gt x7.1.Root 12):: .int .u8 (gt x7.1.Root 13):: .int .u8 (gt x7.1.Root 14):: .int .u8 (gt x7.1.Root 15):: .int .u8 (gt x7.1.Root 16):: .int .u8 (gt x7.1.Root 17):: .int .u8 (gt x7.1.Root 18):: .int .u8 (gt x7.1.Root 19):: .int .u8 (gt x7.1.Root 20):: .int .u8 (gt x7.1.Root 21):: .int .u8 (gt x7.1.Root 22):: .int .u8 (gt x7.1.Root 23):: .int .u8 (gt x7.1.Root 24):: .int .u8 (gt x7.1.Root 25):: .int .u8 (gt x7.1.Root 26):: .int .u8 (gt x7.1.Root 27):: .int .u8 (gt x7.1.Root 28):: .int .u8 (gt x7.1.Root 29):: .int .u8 (gt x7.1.Root 30):: .int .u8 (gt x7.1.Root 31):: .int .i64 x7.1.Sign.Z:: .int .i64 x7.1.Sign.A:: .int .i64 x7.1.Sign.B:: .int .i64 x7.1.Sign.R:: .int .i64 (gt x14.1 0):: .int .i64 (gt x14.1 1):: .int .u8 (gt x22.1 0):: .int .u8 (gt x22.1 1):: .int .u8 (gt x22.1 2):: .int .u8 (gt x22.1 3):: .int .u8 (gt x22.1 4):: .int .u8 (gt x22.1 5):: .int .u8 (gt x22.1 6):: .int .u8 (gt x22.1 7):: .int .u8 (gt x22.1 8):: .int .u8 (gt x22.1 9):: .int .u8 (gt x22.1 10):: .int .u8 (gt x22.1 11):: .int .u8 (gt x22.1 12):: .int .u8 (gt x22.1 13):: .int .u8 (gt x22.1 14):: .int .u8 (gt x22.1 15):: .int .u8 (gt x22.1 16):: .int .u8 (gt x22.1 17):: .int .u8 (gt x22.1 18):: .int .u8 (gt x22.1 19):: .int .u8 (gt x22.1 20):: .int .u8 (gt x22.1 21):: .int .u8 (gt x22.1 22):: .int .u8 (gt x22.1 23):: .int .u8 (gt x22.1 24):: .int .u8 (gt x22.1 25):: .int .u8 (gt x22.1 26):: .int .u8 (gt x22.1 27):: .int .u8 (gt x22.1 28):: .int .u8 (gt x22.1 29):: .int .u8 (gt x22.1 30):: .int .u8 (gt x22.1 31):: .int .i64 (gt x29.1 0):: .int .i64 (gt x29.1 1):: .own 44:: .int .i64 (gt (gt i_.L 5).L 0).N:: .sl (some true) 32 true []::[]))),(44,.own 263 3 true none (p.2.map eJ))],45⟩:St)∧((0≤p.1)∧(p.1≤(x42.1.length:Int))∧(p.1% 3=0)∧(((p.2).length:Int)≤p.1))∧((x42.1.length:Int) - p.1).toNat<n∧ah n f61 d61 p=r) (((x42.1.length:Int) - 0).toNat+1) _ _ (dm 43 77 263 rfl rfl (by decide)) sbQ sbQ ⟨(0,([]:List bS)),rfl,⟨omQ,omQ,omQ,omQ⟩,(Nat.lt_succ_self _),hM⟩ ?_
 clear hM
 rintro n61 S ⟨p61,rfl,hfa61,hm61,hM⟩
 have hM0:=hM;clear hM;obtain ⟨ag61,hag61,hM⟩:=aI hM0 (by omega) hf61;clear hM0
 replace hfa61:=nzQ hfa61
 replace hm61:=nzQ hm61
 have ha61:ak .i64 p61.1 1=p61.1+1:=aR omQ omQ
 replace hF:=(And.intro ha61 hF)
 revert hM;revert hF
 refine slQ ?_
 refine cdQ (fun _ _ _=> ?_) (fun _ _ _=> ?_)
 ·have ha66:ak .i64 p61.1 2=(p61.1+2):=eY ap ap
  intro hF hM
  try simp only [ha66]
  replace hF:=(And.intro ha66 hF)
  revert hM;revert hF
  refine slQ ?_
  have ha68:ak .i64 p61.1 3=(p61.1+3):=eY ap ap
  intro hF hM
  try simp only [ha68]
  refine aO (n61 - 1) _ (by omega) sbQ sbQ ⟨((p61.1+3),(p61.2++([({B:=(gt x42.1 p61.1),R1:=(gt x42.1 (p61.1+1)),R2:=(gt x42.1 (p61.1+2))}:bS)]:List bS))),rfl,⟨omQ,omQ,omQ,omQ⟩,omQ,aM hM hag61⟩
 ·intro hF hM
  have hM0:=hM;clear hM;obtain ⟨f70,d70,hf70,hd70,hM⟩:=aH hM0;clear hM0
  refine bN (fun n S=> ∃p:Int×aA×List (List Int),S=(⟨[(2,.ptr 1 0),(10,.ptr 19 0),(11,.ptr 43 0),(13,.int .i64 p.1)],[(1,.var 80 true ((bX p.2.1))),(19,.var 4 true (.agg [.int .i64 (gt i_.L 5).Kind,.int .i64 (gt i_.L 5).N,.sl none 1 false ((gt i_.L 5).B.map (V.int .u8)),.sl none 4 true ((gt i_.L 5).L.map aw)])),(43,.var 80 true (.agg (.int .i64 x7.1.Bank:: .int .i64 x7.1.Epoch:: .int .i64 x7.1.Denom:: .int .i64 x7.1.Depth:: .int .i64 x7.1.A:: .int .u8 (gt x7.1.Root 0):: .int .u8 (gt x7.1.Root 1):: .int .u8 (gt x7.1.Root 2):: .int .u8 (gt x7.1.Root 3):: .int .u8 (gt x7.1.Root 4):: .int .u8 (gt x7.1.Root 5):: .int .u8 (gt x7.1.Root 6):: .int .u8 (gt x7.1.Root 7):: .int .u8 (gt x7.1.Root 8):: .int .u8 (gt x7.1.Root 9):: .int .u8 (gt x7.1.Root 10):: .int .u8 (gt x7.1.Root 11):: .int .u8 (gt x7.1.Root 12):: .int .u8 (gt x7.1.Root 13):: .int .u8 (gt x7.1.Root 14):: .int .u8 (gt x7.1.Root 15):: .int .u8 (gt x7.1.Root 16):: .int .u8 (gt x7.1.Root 17):: .int .u8 (gt x7.1.Root 18):: .int .u8 (gt x7.1.Root 19):: .int .u8 (gt x7.1.Root 20):: .int .u8 (gt x7.1.Root 21):: .int .u8 (gt x7.1.Root 22):: .int .u8 (gt x7.1.Root 23):: .int .u8 (gt x7.1.Root 24):: .int .u8 (gt x7.1.Root 25):: .int .u8 (gt x7.1.Root 26):: .int .u8 (gt x7.1.Root 27):: .int .u8 (gt x7.1.Root 28):: .int .u8 (gt x7.1.Root 29):: .int .u8 (gt x7.1.Root 30):: .int .u8 (gt x7.1.Root 31):: .int .i64 x7.1.Sign.Z:: .int .i64 x7.1.Sign.A:: .int .i64 x7.1.Sign.B:: .int .i64 x7.1.Sign.R:: .int .i64 (gt x14.1 0):: .int .i64 (gt x14.1 1):: .int .u8 (gt x22.1 0):: .int .u8 (gt x22.1 1):: .int .u8 (gt x22.1 2):: .int .u8 (gt x22.1 3):: .int .u8 (gt x22.1 4):: .int .u8 (gt x22.1 5):: .int .u8 (gt x22.1 6):: .int .u8 (gt x22.1 7):: .int .u8 (gt x22.1 8):: .int .u8 (gt x22.1 9):: .int .u8 (gt x22.1 10):: .int .u8 (gt x22.1 11):: .int .u8 (gt x22.1 12):: .int .u8 (gt x22.1 13):: .int .u8 (gt x22.1 14):: .int .u8 (gt x22.1 15):: .int .u8 (gt x22.1 16):: .int .u8 (gt x22.1 17):: .int .u8 (gt x22.1 18):: .int .u8 (gt x22.1 19):: .int .u8 (gt x22.1 20):: .int .u8 (gt x22.1 21):: .int .u8 (gt x22.1 22):: .int .u8 (gt x22.1 23):: .int .u8 (gt x22.1 24):: .int .u8 (gt x22.1 25):: .int .u8 (gt x22.1 26):: .int .u8 (gt x22.1 27):: .int .u8 (gt x22.1 28):: .int .u8 (gt x22.1 29):: .int .u8 (gt x22.1 30):: .int .u8 (gt x22.1 31):: .int .i64 (gt x29.1 0):: .int .i64 (gt x29.1 1):: .own 44:: .int .i64 (gt (gt i_.L 5).L 0).N:: .own 45::[]))),(44,.own 263 3 true none (p61.2.map eJ)),(45,.own 41 32 true none (p.2.2.map bI))],46⟩:St)∧((1≤p.1)∧(p.1≤((gt i_.L 5).L.length:Int)∨p.1≤1)∧(((p.2.2).length:Int)≤p.1))∧(((gt i_.L 5).L.length:Int) - p.1).toNat<n∧ah n f70 d70 p=r) ((((gt i_.L 5).L.length:Int) - 1).toNat+1) _ _ (dm 43 79 41 rfl rfl (by decide)) sbQ sbG ⟨(1,bG,([]:List (List Int))),rfl,⟨omQ,omQ,omQ⟩,(Nat.lt_succ_self _),hM⟩ ?_
  clear hM
  rintro n70 S ⟨p70,rfl,hfa70,hm70,hM⟩
  have hM0:=hM;clear hM;obtain ⟨ag70,hag70,hM⟩:=aI hM0 (by omega) hf70;clear hM0
  replace hfa70:=nzQ hfa70
  replace hm70:=nzQ hm70
  have ha70:ak .i64 p70.1 1=p70.1+1:=aR omQ omQ
  replace hF:=(And.intro ha70 hF)
  revert hM;revert hF
  refine slQ ?_
  refine ax fun _ _ _=> ?_
  refine aF fun x74 _ _ _=> ?_
  refine aJ fun _ _ _=> ?_
  intro hF hM
  refine aO (n70 - 1) _ (by omega) sbQ sbQ ⟨((p70.1+1),p70.2.1,(p70.2.2++([x74.1]:List (List Int)))),rfl,⟨omQ,omQ,omQ⟩,omQ,aM hM hag70⟩
end Go.Proofs.YtiknkaadhomeiaaGreatDoor
namespace Go.Proofs.YtiknkaadhomeiaaGreatDoor
open Go.RowKit
set_option linter.unusedSimpArgs false
instance (priority:=1050):DRD 4 195 15 [6,58,59,60,61,62,63,64,65,66,67,68,69,70,71] [] ([[],[0],[0,1],[0,1,2],[],[4],[4,5],[4,5,6],[4,5,6,7],[4,5,6,7,8],[0,1,2,3,4,5,6,7,8,9],[0,1,2,3,4,5,6,7,8,9,10],[0,1,2,3,4,5,6,7,8,9,10,11],[0,1,2,3,4,5,6,7,8,9,10,11],[0,1,2,3,4,5,6,7,8,9,10,11,12]]++[List.range 15]) []:=⟨trivial⟩
instance (priority:=1051):DRD 5 195 15 [8,72,73,74,75,76,77,78,79,80,81,82,83,84,85] [] ([[],[0],[0,1],[0,1,2],[],[4],[4,5],[4,5,6],[4,5,6,7],[4,5,6,7,8],[0,1,2,3,4,5,6,7,8,9],[0,1,2,3,4,5,6,7,8,9,10],[0,1,2,3,4,5,6,7,8,9,10,11],[0,1,2,3,4,5,6,7,8,9,10,11],[0,1,2,3,4,5,6,7,8,9,10,11,12]]++[List.range 15]) []:=⟨trivial⟩
instance (priority:=1052):DRD 8 195 10 [10,108,109,110,111,112,113,114,115,116] [] ([[],[],[1],[1,2],[],[4],[4,5],[1,2,3,4,5,6],[0,1,2,3,4,5,6,7],[]]++[List.range 10]) []:=⟨trivial⟩
instance (priority:=1053):DRD 12 195 14 [123,124,125,126,127,128,129,130,131,132,133,134,135,136] [] ([[],[0],[0,1],[],[],[3,4],[3,4,5],[],[],[8],[7,8,9],[7,8,9,10],[3,4,5,6,7,8,9,10,11],[3,4,5,6,7,8,9,10,11,12]]++[List.range 14,List.range 15,List.range 16,List.range 17]) []:=⟨trivial⟩
instance (priority:=1054):DRD 18 195 8 [153,154,155,156,157,158,159,160] [] ([[],[0],[],[],[2,3],[2,3,4],[2,3,4,5],[2,3,4,5,6]]++[List.range 8,List.range 9,List.range 10]) []:=⟨trivial⟩
set_option maxHeartbeats 2000000 in
set_option maxRecDepth 100000 in
instance Rk (i_:aa):CM En (lE i_) 60 [.agg [.int .i64 i_.Kind,.int .i64 i_.N,.sl none 1 false (i_.B.map (V.int .u8)),.sl none 4 true (i_.L.map aw)]] (fun y=> .tup [(bD y.1),.bool y.2]) (fun _=> []):=by
 refine enQ noJ Tryz.func60 Tryz.ntmps60 (lE.eq_1 ..) fun r hw=> ?_
 have h0_0:=jr hw.2.2.2.2 1
 have h0_1:=jr hw.2.2.2.2 2
 have h0_2:=jr hw.2.2.2.2 3
 refine ax fun _ _ _=> ?_
 refine ax fun _ _ _=> ?_
 refine ax fun _ _ _=> ?_
 refine ax fun _ _ _=> ?_
 refine aJ fun _ _ _=> ?_
 refine aF fun x16 _ _ _=> ?_
 refine aF fun x19 _ _ _=> ?_
 refine aF fun x22 _ _ _=> ?_
 refine ax fun _ _ _=> ?_
 refine ax fun _ _ _=> ?_
 refine ax fun _ _ _=> ?_
 refine ax fun _ _ _=> ?_
 refine aJ fun _ _ _=> ?_
 intro hF hM
 have hM0:=hM;clear hM;obtain ⟨f38,d38,hf38,hd38,hM⟩:=aH hM0;clear hM0
 refine bN (fun n S=> ∃p:Int×List (List Int),S=(⟨[(1,.ptr 0 0),(2,.ptr 1 0),(6,.sl none 1 false (x19.1.map (V.int .i64))),(8,.sl none 1 false (x22.1.map (V.int .i64))),(10,.ptr 42 0),(11,.int .i64 p.1)],[(0,.var 4 true (.agg [.int .i64 i_.Kind,.int .i64 i_.N,.sl none 1 false (i_.B.map (V.int .u8)),.sl none 4 true (i_.L.map aw)])),(1,.var 46 true (Be)),(42,.var 46 true (.agg (.int .i64 x16.1.Bank:: .int .i64 x16.1.Epoch:: .int .i64 x16.1.Denom:: .int .i64 x16.1.Depth:: .int .i64 x16.1.A:: .int .u8 (gt x16.1.Root 0):: .int .u8 (gt x16.1.Root 1):: .int .u8 (gt x16.1.Root 2):: .int .u8 (gt x16.1.Root 3):: .int .u8 (gt x16.1.Root 4):: .int .u8 (gt x16.1.Root 5):: .int .u8 (gt x16.1.Root 6):: .int .u8 (gt x16.1.Root 7):: .int .u8 (gt x16.1.Root 8):: .int .u8 (gt x16.1.Root 9):: .int .u8 (gt x16.1.Root 10):: .int .u8 (gt x16.1.Root 11):: .int .u8 (gt x16.1.Root 12):: .int .u8 (gt x16.1.Root 13):: .int .u8 (gt x16.1.Root 14):: .int .u8 (gt x16.1.Root 15):: .int .u8 (gt x16.1.Root 16):: .int .u8 (gt x16.1.Root 17):: .int .u8 (gt x16.1.Root 18):: .int .u8 (gt x16.1.Root 19):: .int .u8 (gt x16.1.Root 20):: .int .u8 (gt x16.1.Root 21):: .int .u8 (gt x16.1.Root 22):: .int .u8 (gt x16.1.Root 23):: .int .u8 (gt x16.1.Root 24):: .int .u8 (gt x16.1.Root 25):: .int .u8 (gt x16.1.Root 26):: .int .u8 (gt x16.1.Root 27):: .int .u8 (gt x16.1.Root 28):: .int .u8 (gt x16.1.Root 29):: .int .u8 (gt x16.1.Root 30):: .int .u8 (gt x16.1.Root 31):: .int .i64 x16.1.Sign.Z:: .int .i64 x16.1.Sign.A:: .int .i64 x16.1.Sign.B:: .int .i64 x16.1.Sign.R:: .int .i64 (gt x19.1 0):: .int .i64 (gt x19.1 1):: .own 43:: .sl (some true) 1 false []:: .sl (some true) 80 true []::[]))),(43,.own 193 2 true none (p.2.map (fun l=> .agg [.int .i64 (gt l 0),.int .i64 (gt l 1)])))],44⟩:St)∧((2≤p.1)∧(p.1≤(x19.1.length:Int)∨p.1≤2)∧(p.1% 2=0)∧(((p.2).length:Int)≤p.1))∧((x19.1.length:Int) - p.1).toNat<n∧ah n f38 d38 p=r) (((x19.1.length:Int) - 2).toNat+1) _ _ (dm 42 43 193 rfl rfl (by decide)) sbQ sbQ ⟨(2,([]:List (List Int))),rfl,⟨omQ,omQ,omQ,omQ⟩,(Nat.lt_succ_self _),hM⟩ ?_
 clear hM
 rintro n38 S ⟨p38,rfl,hfa38,hm38,hM⟩
 have hM0:=hM;clear hM;obtain ⟨ag38,hag38,hM⟩:=aI hM0 (by omega) hf38;clear hM0
 replace hfa38:=nzQ hfa38
 replace hm38:=nzQ hm38
 have ha38:ak .i64 p38.1 1=p38.1+1:=aR omQ omQ
 replace hF:=(And.intro ha38 hF)
 revert hM;revert hF
 refine slQ ?_
 refine cdQ (fun _ _ _=> ?_) (fun _ _ _=> ?_)
 ·have ha43:ak .i64 p38.1 2=(p38.1+2):=eY ap ap
  intro hF hM
  try simp only [ha43]
  refine aO (n38 - 1) _ (by omega) sbQ sbG ⟨((p38.1+2),(p38.2++([[(gt x19.1 p38.1),(gt x19.1 (p38.1+1))]]:List (List Int)))),rfl,⟨omQ,omQ,omQ,omQ⟩,omQ,aM hM hag38⟩
 ·intro hF hM
  have hM0:=hM;clear hM;obtain ⟨f45,d45,hf45,hd45,hM⟩:=aH hM0;clear hM0
  refine bN (fun n S=> ∃p:Int×ay×List Bool,S=(⟨[(1,.ptr 0 0),(2,.ptr 1 0),(8,.sl none 1 false (x22.1.map (V.int .i64))),(10,.ptr 42 0),(12,.int .i64 p.1)],[(0,.var 4 true (.agg [.int .i64 i_.Kind,.int .i64 i_.N,.sl none 1 false (i_.B.map (V.int .u8)),.sl none 4 true (i_.L.map aw)])),(1,.var 46 true ((bD p.2.1))),(42,.var 46 true (.agg (.int .i64 x16.1.Bank:: .int .i64 x16.1.Epoch:: .int .i64 x16.1.Denom:: .int .i64 x16.1.Depth:: .int .i64 x16.1.A:: .int .u8 (gt x16.1.Root 0):: .int .u8 (gt x16.1.Root 1):: .int .u8 (gt x16.1.Root 2):: .int .u8 (gt x16.1.Root 3):: .int .u8 (gt x16.1.Root 4):: .int .u8 (gt x16.1.Root 5):: .int .u8 (gt x16.1.Root 6):: .int .u8 (gt x16.1.Root 7):: .int .u8 (gt x16.1.Root 8):: .int .u8 (gt x16.1.Root 9):: .int .u8 (gt x16.1.Root 10):: .int .u8 (gt x16.1.Root 11):: .int .u8 (gt x16.1.Root 12):: .int .u8 (gt x16.1.Root 13):: .int .u8 (gt x16.1.Root 14):: .int .u8 (gt x16.1.Root 15):: .int .u8 (gt x16.1.Root 16):: .int .u8 (gt x16.1.Root 17):: .int .u8 (gt x16.1.Root 18):: .int .u8 (gt x16.1.Root 19):: .int .u8 (gt x16.1.Root 20):: .int .u8 (gt x16.1.Root 21):: .int .u8 (gt x16.1.Root 22):: .int .u8 (gt x16.1.Root 23):: .int .u8 (gt x16.1.Root 24):: .int .u8 (gt x16.1.Root 25):: .int .u8 (gt x16.1.Root 26):: .int .u8 (gt x16.1.Root 27):: .int .u8 (gt x16.1.Root 28):: .int .u8 (gt x16.1.Root 29):: .int .u8 (gt x16.1.Root 30):: .int .u8 (gt x16.1.Root 31):: .int .i64 x16.1.Sign.Z:: .int .i64 x16.1.Sign.A:: .int .i64 x16.1.Sign.B:: .int .i64 x16.1.Sign.R:: .int .i64 (gt x19.1 0):: .int .i64 (gt x19.1 1):: .own 43:: .own 44:: .sl (some true) 80 true []::[]))),(43,.own 193 2 true none (p38.2.map (fun l=> .agg [.int .i64 (gt l 0),.int .i64 (gt l 1)]))),(44,.own 4 1 false none (p.2.2.map V.bool))],45⟩:St)∧((0≤p.1)∧(p.1≤(x22.1.length:Int))∧(((p.2.2).length:Int)≤p.1))∧((x22.1.length:Int) - p.1).toNat<n∧ah n f45 d45 p=r) (((x22.1.length:Int) - 0).toNat+1) _ _ (dm 42 44 4 rfl rfl (by decide)) sbQ sbG ⟨(0,cw,([]:List Bool)),rfl,⟨omQ,omQ,omQ⟩,(Nat.lt_succ_self _),hM⟩ ?_
  clear hM
  rintro n45 S ⟨p45,rfl,hfa45,hm45,hM⟩
  have hM0:=hM;clear hM;obtain ⟨ag45,hag45,hM⟩:=aI hM0 (by omega) hf45;clear hM0
  replace hfa45:=nzQ hfa45
  replace hm45:=nzQ hm45
  have ha45:ak .i64 p45.1 1=p45.1+1:=aR omQ omQ
  replace hF:=(And.intro ha45 hF)
  revert hM;revert hF
  refine slQ ?_
  refine cdQ (fun _ _ _=> ?_) (fun _ _ _=> ?_)
  ·refine aF fun _ _ _ _=> ?_
   refine aJ fun _ _ _=> ?_
   intro hF hM
   refine aO (n45 - 1) _ (by omega) sbQ sbQ ⟨((p45.1+1),p45.2.1,(p45.2.2++([((gt x22.1 p45.1)==1)]:List Bool))),rfl,⟨omQ,omQ,omQ⟩,omQ,aM hM hag45⟩
  ·intro hF hM
   have hM0:=hM;clear hM;obtain ⟨f56,d56,hf56,hd56,hM⟩:=aH hM0;clear hM0
   refine bN (fun n S=> ∃p:Int×ay×List aA,S=(⟨[(1,.ptr 0 0),(2,.ptr 1 0),(10,.ptr 42 0),(13,.int .i64 p.1)],[(0,.var 4 true (.agg [.int .i64 i_.Kind,.int .i64 i_.N,.sl none 1 false (i_.B.map (V.int .u8)),.sl none 4 true (i_.L.map aw)])),(1,.var 46 true ((bD p.2.1))),(42,.var 46 true (.agg (.int .i64 x16.1.Bank:: .int .i64 x16.1.Epoch:: .int .i64 x16.1.Denom:: .int .i64 x16.1.Depth:: .int .i64 x16.1.A:: .int .u8 (gt x16.1.Root 0):: .int .u8 (gt x16.1.Root 1):: .int .u8 (gt x16.1.Root 2):: .int .u8 (gt x16.1.Root 3):: .int .u8 (gt x16.1.Root 4):: .int .u8 (gt x16.1.Root 5):: .int .u8 (gt x16.1.Root 6):: .int .u8 (gt x16.1.Root 7):: .int .u8 (gt x16.1.Root 8):: .int .u8 (gt x16.1.Root 9):: .int .u8 (gt x16.1.Root 10):: .int .u8 (gt x16.1.Root 11):: .int .u8 (gt x16.1.Root 12):: .int .u8 (gt x16.1.Root 13):: .int .u8 (gt x16.1.Root 14):: .int .u8 (gt x16.1.Root 15):: .int .u8 (gt x16.1.Root 16):: .int .u8 (gt x16.1.Root 17):: .int .u8 (gt x16.1.Root 18):: .int .u8 (gt x16.1.Root 19):: .int .u8 (gt x16.1.Root 20):: .int .u8 (gt x16.1.Root 21):: .int .u8 (gt x16.1.Root 22):: .int .u8 (gt x16.1.Root 23):: .int .u8 (gt x16.1.Root 24):: .int .u8 (gt x16.1.Root 25):: .int .u8 (gt x16.1.Root 26):: .int .u8 (gt x16.1.Root 27):: .int .u8 (gt x16.1.Root 28):: .int .u8 (gt x16.1.Root 29):: .int .u8 (gt x16.1.Root 30):: .int .u8 (gt x16.1.Root 31):: .int .i64 x16.1.Sign.Z:: .int .i64 x16.1.Sign.A:: .int .i64 x16.1.Sign.B:: .int .i64 x16.1.Sign.R:: .int .i64 (gt x19.1 0):: .int .i64 (gt x19.1 1):: .own 43:: .own 44:: .own 45::[]))),(43,.own 193 2 true none (p38.2.map (fun l=> .agg [.int .i64 (gt l 0),.int .i64 (gt l 1)]))),(44,.own 4 1 false none (p45.2.2.map V.bool)),(45,.own 121 80 true none (p.2.2.map bX))],46⟩:St)∧((0≤p.1)∧(p.1≤((gt i_.L 3).L.length:Int))∧(((p.2.2).length:Int)≤p.1))∧(((gt i_.L 3).L.length:Int) - p.1).toNat<n∧ah n f56 d56 p=r) ((((gt i_.L 3).L.length:Int) - 0).toNat+1) _ _ (dm 42 45 121 rfl rfl (by decide)) sbQ sbQ ⟨(0,p45.2.1,([]:List aA)),rfl,⟨omQ,omQ,omQ⟩,(Nat.lt_succ_self _),hM⟩ ?_
   clear hM
   rintro n56 S ⟨p56,rfl,hfa56,hm56,hM⟩
   have hM0:=hM;clear hM;obtain ⟨ag56,hag56,hM⟩:=aI hM0 (by omega) hf56;clear hM0
   replace hfa56:=nzQ hfa56
   replace hm56:=nzQ hm56
   have ha56:ak .i64 p56.1 1=p56.1+1:=aR omQ omQ
   replace hF:=(And.intro ha56 hF)
   revert hM;revert hF
   refine slQ ?_
   refine ax fun _ _ _=> ?_
   refine aF fun x60 _ _ _=> ?_
   refine aJ fun _ _ _=> ?_
   intro hF hM
   refine aO (n56 - 1) _ (by omega) sbQ sbQ ⟨((p56.1+1),p56.2.1,(p56.2.2++([x60.1]:List aA))),rfl,⟨omQ,omQ,omQ⟩,omQ,aM hM hag56⟩
set_option maxHeartbeats 2000000 in
set_option maxRecDepth 100000 in
instance Rl (i_:aa):CM En (jp i_) 118 [.agg [.int .i64 i_.Kind,.int .i64 i_.N,.sl none 1 false (i_.B.map (V.int .u8)),.sl none 4 true (i_.L.map aw)]] (fun y=> .tup [.sl none 1 false (y.1.map (V.int .i64)),.bool y.2]) (fun _=> []):=by
 refine enQ noJ Tryz.func118 Tryz.ntmps118 (jp.eq_1 ..) fun r hw=> ?_
 refine aJ fun _ _ _=> ?_
 intro hF hM
 have hM0:=hM;clear hM;obtain ⟨f4,d4,hf4,hd4,hM⟩:=aH hM0;clear hM0
 refine bN (fun n S=> ∃p:Int×List Int,S=(⟨[(1,.ptr 0 0),(4,.own 1),(5,.int .i64 p.1)],[(0,.var 4 true (.agg [.int .i64 i_.Kind,.int .i64 i_.N,.sl none 1 false (i_.B.map (V.int .u8)),.sl none 4 true (i_.L.map aw)])),(1,.own 3 1 false none (p.2.map (V.int .i64)))],2⟩:St)∧((0≤p.1)∧(p.1≤(i_.L.length:Int))∧(((p.2).length:Int)≤p.1))∧((i_.L.length:Int) - p.1).toNat<n∧ah n f4 d4 p=r) (((i_.L.length:Int) - 0).toNat+1) _ _ (dV 4 3 rfl (by decide)) sbQ sbQ ⟨(0,([]:List Int)),rfl,⟨omQ,omQ,omQ⟩,(Nat.lt_succ_self _),hM⟩ ?_
 clear hM
 rintro n4 S ⟨p4,rfl,hfa4,hm4,hM⟩
 have hM0:=hM;clear hM;obtain ⟨ag4,hag4,hM⟩:=aI hM0 (by omega) hf4;clear hM0
 replace hfa4:=nzQ hfa4
 replace hm4:=nzQ hm4
 have ha4:ak .i64 p4.1 1=p4.1+1:=aR omQ omQ
 replace hF:=(And.intro ha4 hF)
 revert hM;revert hF
 refine slQ ?_
 refine ax fun _ _ _=> ?_
 refine aJ fun _ _ _=> ?_
 intro hF hM
 refine aO (n4 - 1) _ (by omega) sbQ sbQ ⟨((p4.1+1),(p4.2++([(gt i_.L p4.1).N]:List Int))),rfl,⟨omQ,omQ,omQ⟩,omQ,aM hM hag4⟩
instance (priority:=1055):DRD 12 195 57 [14,115,116,117,118,119,120,121,122,123,124,125,126,127,128,129,130,131,132,133,134,135,136,137,138,139,140,141,142,143,144,145,146,147,148,149,150,151,152,153,154,155,156,157,158,159,160,161,162,163,164,165,166,167,168,169,170] [] ([[],[0],[0,1],[],[3],[3,4],[],[6],[6,7],[],[9],[9,10],[],[12],[12,13],[],[15],[15,16],[],[18],[18,19],[],[21],[21,22],[18,19,20,21,22,23],[],[25],[25,26],[],[28],[28,29],[],[31],[31,32],[25,26,27,28,29,30,31,32,33],[],[35],[35,36],[],[38],[38,39],[],[41],[41,42],[],[44],[44,45],[],[47],[47,48],[],[50],[50,51],[35,36,37,38,39,40,41,42,43,44,45,46,47,48,49,50,51,52],[],[0,1,2,3,4,5,6,7,8,9,10,11,12,13,14,15,16,17,18,19,20,21,22,23,24,25,26,27,28,29,30,31,32,33,34,35,36,37,38,39,40,41,42,43,44,45,46,47,48,49,50,51,52,53,54],[]]++[List.range 57]) []:=⟨trivial⟩
instance (priority:=1056):DRD 16 195 14 [177,178,179,180,181,182,183,184,185,186,187,188,189,190] [] ([[],[0],[0,1],[],[],[3,4],[3,4,5],[],[],[8],[7,8,9],[7,8,9,10],[3,4,5,6,7,8,9,10,11],[3,4,5,6,7,8,9,10,11,12]]++[List.range 14,List.range 15,List.range 16,List.range 17]) []:=⟨trivial⟩
set_option maxHeartbeats 2000000 in
set_option maxRecDepth 100000 in
instance Rm (i_:aa):CM En (lF i_) 61 [.agg [.int .i64 i_.Kind,.int .i64 i_.N,.sl none 1 false (i_.B.map (V.int .u8)),.sl none 4 true (i_.L.map aw)]] (fun y=> .tup [(bU y.1),.int .i64 y.2]) (fun _=> []):=by
 refine enQ noJ Tryz.func61 Tryz.ntmps61 (lF.eq_1 ..) fun r hw=> ?_
 have hA0:=fun {x} a0 a1 a2=>Ce (x:=x) (l:=i_.L) (j:=1) a0 a1 a2
 refine aF fun _ hx2 _ _=> ?_
 have hq4:=Kv hx2
 replace hq4:=nzQ hq4
 refine aJ fun _ _ _=> ?_
 refine ax fun _ _ _=> ?_
 refine aJ fun _ _ _=> ?_
 refine aF fun x14 hx15 _ _=> ?_
 have hq17:=tE hx15
 replace hq17:=nzQ hq17
 refine slQ ?_
 refine aF fun x19 hx20 _ _=> ?_
 have hq22:=tE hx20
 replace hq22:=nzQ hq22
 refine slQ ?_
 refine aF fun x24 hx25 _ _=> ?_
 have hq27:=tE hx25
 replace hq27:=nzQ hq27
 refine slQ ?_
 refine aF fun x29 hx30 _ _=> ?_
 have hq32:=tE hx30
 replace hq32:=nzQ hq32
 refine slQ ?_
 refine aF fun x34 _ _ _=> ?_
 refine ax fun _ _ _=> ?_
 refine ax fun _ _ _=> ?_
 refine ax fun _ _ _=> ?_
 refine ax fun _ _ _=> ?_
 refine ax fun _ _ _=> ?_
 refine ax fun _ _ _=> ?_
 refine ax fun _ _ _=> ?_
 refine ax fun _ _ _=> ?_
 refine ax fun _ _ _=> ?_
 refine aJ fun _ _ _=> ?_
 intro hF hM
 have hM0:=hM;clear hM;obtain ⟨f75,d75,hf75,hd75,hM⟩:=aH hM0;clear hM0
 refine bN (fun n S=> ∃p:Int×List (List Int),S=(⟨[(2,.ptr 1 0),(6,.sl none 1 false (x19.1.map (V.int .i64))),(14,.ptr 59 0),(15,.int .i64 p.1)],[(1,.var 59 true (Bf)),(59,.var 59 true (.agg (.int .i64 (gt x14.1 0):: .int .i64 (gt x14.1 1):: .int .i64 (gt x14.1 2):: .int .i64 (gt x14.1 3):: .int .i64 (gt x14.1 4):: .int .i64 (gt x14.1 5):: .int .i64 (gt x19.1 0):: .int .i64 (gt x19.1 1):: .own 60:: .int .i64 (gt x24.1 0):: .int .i64 (gt x24.1 1):: .int .i64 (gt x24.1 2):: .int .i64 (gt x29.1 0):: .int .i64 (gt x29.1 1):: .int .i64 (gt x29.1 2):: .int .i64 (gt x29.1 3):: .int .i64 (gt x29.1 4):: .int .i64 (gt x29.1 5):: .int .i64 x34.1.Bank:: .int .i64 x34.1.Epoch:: .int .i64 x34.1.Denom:: .int .i64 x34.1.Depth:: .int .i64 x34.1.A:: .int .u8 (gt x34.1.Root 0):: .int .u8 (gt x34.1.Root 1):: .int .u8 (gt x34.1.Root 2):: .int .u8 (gt x34.1.Root 3):: .int .u8 (gt x34.1.Root 4):: .int .u8 (gt x34.1.Root 5):: .int .u8 (gt x34.1.Root 6):: .int .u8 (gt x34.1.Root 7):: .int .u8 (gt x34.1.Root 8):: .int .u8 (gt x34.1.Root 9):: .int .u8 (gt x34.1.Root 10):: .int .u8 (gt x34.1.Root 11):: .int .u8 (gt x34.1.Root 12):: .int .u8 (gt x34.1.Root 13):: .int .u8 (gt x34.1.Root 14):: .int .u8 (gt x34.1.Root 15):: .int .u8 (gt x34.1.Root 16):: .int .u8 (gt x34.1.Root 17):: .int .u8 (gt x34.1.Root 18):: .int .u8 (gt x34.1.Root 19):: .int .u8 (gt x34.1.Root 20):: .int .u8 (gt x34.1.Root 21):: .int .u8 (gt x34.1.Root 22):: .int .u8 (gt x34.1.Root 23):: .int .u8 (gt x34.1.Root 24):: .int .u8 (gt x34.1.Root 25):: .int .u8 (gt x34.1.Root 26):: .int .u8 (gt x34.1.Root 27):: .int .u8 (gt x34.1.Root 28):: .int .u8 (gt x34.1.Root 29):: .int .u8 (gt x34.1.Root 30):: .int .u8 (gt x34.1.Root 31):: .int .i64 x34.1.Sign.Z:: .int .i64 x34.1.Sign.A:: .int .i64 x34.1.Sign.B:: .int .i64 x34.1.Sign.R::[]))),(60,.own 193 2 true none (p.2.map (fun l=> .agg [.int .i64 (gt l 0),.int .i64 (gt l 1)])))],61⟩:St)∧((2≤p.1)∧(p.1≤(x19.1.length:Int)∨p.1≤2)∧(p.1% 2=0)∧(((p.2).length:Int)≤p.1))∧((x19.1.length:Int) - p.1).toNat<n∧ah n f75 d75 p=r) (((x19.1.length:Int) - 2).toNat+1) _ _ (dm 59 8 193 rfl rfl (by decide)) sbQ sbQ ⟨(2,([]:List (List Int))),rfl,⟨by exact omA,by exact omA,by exact omA,by exact omA⟩,(Nat.lt_succ_self _),hM⟩ ?_
 clear hM
 rintro n75 S ⟨p75,rfl,hfa75,hm75,hM⟩
 have hM0:=hM;clear hM;obtain ⟨ag75,hag75,hM⟩:=aI hM0 (by omega) hf75;clear hM0
 replace hfa75:=nzQ hfa75
 replace hm75:=nzQ hm75
 have ha75:ak .i64 p75.1 1=p75.1+1:=aR (by exact omA) (by exact omA)
 replace hF:=(And.intro ha75 hF)
 revert hM;revert hF
 refine slQ ?_
 refine ax fun _ _ _=> ?_
 have ha80:ak .i64 p75.1 2=(p75.1+2):=eY (by exact omR) (by exact omR)
 intro hF hM
 try simp only [ha80]
 refine aO (n75 - 1) _ (by omega) sbQ sbG ⟨((p75.1+2),(p75.2++([[(gt x19.1 p75.1),(gt x19.1 (p75.1+1))]]:List (List Int)))),rfl,⟨by exact omA,by exact omA,by exact omA,by exact omA⟩,by exact omA,aM hM hag75⟩
instance (priority:=1057):DRD 11 180 21 [10,97,98,99,100,101,102,103,104,105,106,107,108,109,110,111,112,113,114,115,116] [] ([[],[0],[0,1],[],[3],[3,4],[],[6],[6,7],[],[9],[9,10],[],[],[13],[13,14],[13,14,15],[13,14,15,16],[12,13,14,15,16,17],[0,1,2,3,4,5,6,7,8,9,10,11,12,13,14,15,16,17,18],[]]++[List.range 21]) []:=⟨trivial⟩
set_option maxHeartbeats 2000000 in
set_option maxRecDepth 100000 in
instance Rn (b:(List Int)):CM En (gj b) 17 [.sl none 1 false (b.map (V.int .u8))] (fun y=> .tup [(bL y.1),.bool y.2]) (fun _=> []):=by
 refine enQ noJ Tryz.func17 Tryz.ntmps17 (gj.eq_1 ..) fun r hw=> ?_
 refine aF fun x1 _ hw3 _=> ?_
 have hq4:=jr hw3.1.2.2.2.2 1
 replace hq4:=nzQ hq4
 have hq5:=jr hw3.1.2.2.2.2 2
 replace hq5:=nzQ hq5
 refine ax fun _ _ _=> ?_
 refine ax fun _ _ _=> ?_
 refine ax fun _ _ _=> ?_
 refine ax fun _ _ _=> ?_
 refine aJ fun _ _ _=> ?_
 refine aF fun x20 _ _ _=> ?_
 refine ax fun _ _ _=> ?_
 refine ax fun _ _ _=> ?_
 refine ax fun _ _ _=> ?_
 refine aJ fun _ _ _=> ?_
 refine aF fun x36 _ _ _=> ?_
 refine aJ fun _ _ _=> ?_
 intro hF hM
 have hM0:=hM;clear hM;obtain ⟨f46,d46,hf46,hd46,hM⟩:=aH hM0;clear hM0
 refine bN (fun n S=> ∃p:Int×av×List ay,S=(⟨[(2,.ptr 0 0),(4,.ptr 1 0),(10,.ptr 24 0),(11,.int .i64 p.1)],[(0,.var 39 true ((bL p.2.1))),(1,.var 4 true (.agg [.int .i64 x1.1.Kind,.int .i64 x1.1.N,.sl none 1 false (x1.1.B.map (V.int .u8)),.sl none 4 true (x1.1.L.map aw)])),(24,.var 39 true (.agg (.int .i64 (gt x20.1 0):: .int .i64 (gt x20.1 1):: .int .i64 (gt x20.1 2):: .int .i64 (gt x20.1 3):: .own 25:: .sl (some true) 59 true []:: .int .u8 (gt x36.1 0):: .int .u8 (gt x36.1 1):: .int .u8 (gt x36.1 2):: .int .u8 (gt x36.1 3):: .int .u8 (gt x36.1 4):: .int .u8 (gt x36.1 5):: .int .u8 (gt x36.1 6):: .int .u8 (gt x36.1 7):: .int .u8 (gt x36.1 8):: .int .u8 (gt x36.1 9):: .int .u8 (gt x36.1 10):: .int .u8 (gt x36.1 11):: .int .u8 (gt x36.1 12):: .int .u8 (gt x36.1 13):: .int .u8 (gt x36.1 14):: .int .u8 (gt x36.1 15):: .int .u8 (gt x36.1 16):: .int .u8 (gt x36.1 17):: .int .u8 (gt x36.1 18):: .int .u8 (gt x36.1 19):: .int .u8 (gt x36.1 20):: .int .u8 (gt x36.1 21):: .int .u8 (gt x36.1 22):: .int .u8 (gt x36.1 23):: .int .u8 (gt x36.1 24):: .int .u8 (gt x36.1 25):: .int .u8 (gt x36.1 26):: .int .u8 (gt x36.1 27):: .int .u8 (gt x36.1 28):: .int .u8 (gt x36.1 29):: .int .u8 (gt x36.1 30):: .int .u8 (gt x36.1 31):: .int .i64 (gt (gt x1.1.L 3).L 1).N::[]))),(25,.own 110 46 true none (p.2.2.map bD))],26⟩:St)∧((0≤p.1)∧(p.1≤((gt x1.1.L 1).L.length:Int))∧(((p.2.2).length:Int)≤p.1))∧(((gt x1.1.L 1).L.length:Int) - p.1).toNat<n∧ah n f46 d46 p=r) ((((gt x1.1.L 1).L.length:Int) - 0).toNat+1) _ _ (dm 24 4 110 rfl rfl (by decide)) sbQ sbG ⟨(0,aT,([]:List ay)),rfl,⟨omQ,omQ,omQ⟩,(Nat.lt_succ_self _),hM⟩ ?_
 clear hM
 rintro n46 S ⟨p46,rfl,hfa46,hm46,hM⟩
 have hM0:=hM;clear hM;obtain ⟨ag46,hag46,hM⟩:=aI hM0 (by omega) hf46;clear hM0
 replace hfa46:=nzQ hfa46
 replace hm46:=nzQ hm46
 have ha46:ak .i64 p46.1 1=p46.1+1:=aR omQ omQ
 replace hF:=(And.intro ha46 hF)
 revert hM;revert hF
 refine slQ ?_
 refine cdQ (fun _ _ _=> ?_) (fun _ _ _=> ?_)
 ·refine aF fun x50 _ _ _=> ?_
  refine aJ fun _ _ _=> ?_
  intro hF hM
  refine aO (n46 - 1) _ (by omega) sbQ sbQ ⟨((p46.1+1),p46.2.1,(p46.2.2++([x50.1]:List ay))),rfl,⟨omQ,omQ,omQ⟩,omQ,aM hM hag46⟩
 ·intro hF hM
  have hM0:=hM;clear hM;obtain ⟨f57,d57,hf57,hd57,hM⟩:=aH hM0;clear hM0
  refine bN (fun n S=> ∃p:Int×av×List aL,S=(⟨[(2,.ptr 0 0),(4,.ptr 1 0),(10,.ptr 24 0),(14,.int .i64 p.1)],[(0,.var 39 true ((bL p.2.1))),(1,.var 4 true (.agg [.int .i64 x1.1.Kind,.int .i64 x1.1.N,.sl none 1 false (x1.1.B.map (V.int .u8)),.sl none 4 true (x1.1.L.map aw)])),(24,.var 39 true (.agg (.int .i64 (gt x20.1 0):: .int .i64 (gt x20.1 1):: .int .i64 (gt x20.1 2):: .int .i64 (gt x20.1 3):: .own 25:: .own 26:: .int .u8 (gt x36.1 0):: .int .u8 (gt x36.1 1):: .int .u8 (gt x36.1 2):: .int .u8 (gt x36.1 3):: .int .u8 (gt x36.1 4):: .int .u8 (gt x36.1 5):: .int .u8 (gt x36.1 6):: .int .u8 (gt x36.1 7):: .int .u8 (gt x36.1 8):: .int .u8 (gt x36.1 9):: .int .u8 (gt x36.1 10):: .int .u8 (gt x36.1 11):: .int .u8 (gt x36.1 12):: .int .u8 (gt x36.1 13):: .int .u8 (gt x36.1 14):: .int .u8 (gt x36.1 15):: .int .u8 (gt x36.1 16):: .int .u8 (gt x36.1 17):: .int .u8 (gt x36.1 18):: .int .u8 (gt x36.1 19):: .int .u8 (gt x36.1 20):: .int .u8 (gt x36.1 21):: .int .u8 (gt x36.1 22):: .int .u8 (gt x36.1 23):: .int .u8 (gt x36.1 24):: .int .u8 (gt x36.1 25):: .int .u8 (gt x36.1 26):: .int .u8 (gt x36.1 27):: .int .u8 (gt x36.1 28):: .int .u8 (gt x36.1 29):: .int .u8 (gt x36.1 30):: .int .u8 (gt x36.1 31):: .int .i64 (gt (gt x1.1.L 3).L 1).N::[]))),(25,.own 110 46 true none (p46.2.2.map bD)),(26,.own 104 59 true none (p.2.2.map bU))],27⟩:St)∧((0≤p.1)∧(p.1≤((gt x1.1.L 2).L.length:Int))∧(((p.2.2).length:Int)≤p.1))∧(((gt x1.1.L 2).L.length:Int) - p.1).toNat<n∧ah n f57 d57 p=r) ((((gt x1.1.L 2).L.length:Int) - 0).toNat+1) _ _ (dm 24 5 104 rfl rfl (by decide)) sbQ sbQ ⟨(0,p46.2.1,([]:List aL)),rfl,⟨omQ,omQ,omQ⟩,(Nat.lt_succ_self _),hM⟩ ?_
  clear hM
  rintro n57 S ⟨p57,rfl,hfa57,hm57,hM⟩
  have hM0:=hM;clear hM;obtain ⟨ag57,hag57,hM⟩:=aI hM0 (by omega) hf57;clear hM0
  replace hfa57:=nzQ hfa57
  replace hm57:=nzQ hm57
  have ha57:ak .i64 p57.1 1=p57.1+1:=aR omQ omQ
  replace hF:=(And.intro ha57 hF)
  revert hM;revert hF
  refine slQ ?_
  refine ax fun _ _ _=> ?_
  refine aF fun x61 _ _ _=> ?_
  refine aJ fun _ _ _=> ?_
  intro hF hM
  refine aO (n57 - 1) _ (by omega) sbQ sbQ ⟨((p57.1+1),p57.2.1,(p57.2.2++([x61.1]:List aL))),rfl,⟨omQ,omQ,omQ⟩,omQ,aM hM hag57⟩
set_option maxHeartbeats 2000000 in
set_option maxRecDepth 100000 in
instance Rp (j:cy):CM En (gP j) 120 [.agg [.sl none 1 false (j.Bytes.map (V.int .u8)),.int .i64 j.Durable,.int .i64 j.After]] (fun y=> .bool y) (fun _=> []):=by
 refine enQ noJ Tryz.func120 Tryz.ntmps120 (gP.eq_1 ..) fun r hw=> ?_
 exact auR
instance (priority:=1058):DRD 6 67 21 [15,16,17,18,19,20,21,22,23,24,25,26,27,28,29,30,31,32,33,34,35] [] ([[],[0],[0,1],[0,1,2],[0,1,2,3],[],[5],[5,6],[5,6,7],[5,6,7,8],[0,1,2,3,4,5,6,7,8,9],[],[11],[11,12],[11,12,13],[11,12,13,14],[0,1,2,3,4,5,6,7,8,9,10,11,12,13,14,15],[],[17],[17,18],[17,18,19]]++[List.range 21,List.range 22]) []:=⟨trivial⟩
instance (priority:=1059):DRD 9 67 6 [50,51,52,53,54,55] [] ([[],[0],[],[2],[2,3],[2,3,4]]++[List.range 6]) []:=⟨trivial⟩
set_option maxHeartbeats 2000000 in
set_option maxRecDepth 100000 in
instance Rq (j:cy):CM En (fP j) 63 [.agg [.sl none 1 false (j.Bytes.map (V.int .u8)),.int .i64 j.Durable,.int .i64 j.After]] (fun y=> .sl none 1 false (y.map (fun (l:List Int)=>V.sl none 1 false (l.map (V.int .u8))))) (fun _=> []):=by
 refine K1 noJ Tryz.func63 Tryz.ntmps63 (fP.eq_1 ..) fun r hw=> ?_
 have hA0:=fun {l} a0=>bZ (l:=l) a0
 refine Jg fun _ _ _ _=> ?_
 refine aJ fun _ _ _=> ?_
 intro hF hM
 have hM0:=hM;clear hM;obtain ⟨f8,d8,hf8,hd8,hM⟩:=aH hM0;clear hM0
 refine bN (fun n S=> ∃p:List Int×List (List Int),S=(⟨[(3,.own 1),(4,.sl none 1 false (p.1.map (V.int .u8)))],[(1,.own 46 1 false none (p.2.map (fun (l:List Int)=>V.sl none 1 false (l.map (V.int .u8)))))],2⟩:St)∧(((((p.2).length:Int)*36+((p.1).length:Int)≤1048576))∧(isB (p.1)))∧(p.1).length<n∧ah n f8 d8 p=r) (((j.Bytes)).length+1) _ _ (dV 3 46 rfl (by decide)) sbQ sbQ ⟨(j.Bytes,([]:List (List Int))),rfl,⟨by exact omA,by (first|exact fw hw.1.2|exact fw hw.1|exact fw hw.2)⟩,(Nat.lt_succ_self _),hM⟩ ?_
 clear hM
 rintro n8 S ⟨p8,rfl,⟨hfa8,hF5_0⟩,hm8,hM⟩
 have hM0:=hM;clear hM;obtain ⟨ag8,hag8,hM⟩:=aI hM0 (by omega) hf8;clear hM0
 replace hfa8:=cF hfa8
 replace hm8:=cF hm8
 revert hM;revert hF
 refine slQ ?_
 refine ax fun h9 _ _=> ?_
 refine ax fun _ _ _=> ?_
 refine aJ fun _ _ _=> ?_
 intro hF hM
 have hM0:=hM;clear hM;obtain ⟨x20,hx21,hM⟩:=aC hM0;clear hM0
 have hcx20:=cmH hx21 (xQ (sl p8.1 36 (ak .i64 36 (orI .i64 (orI .i64 (orI .i64 (ao .i64 (ae .i64 (gt p8.1 0)) 24) (ao .i64 (ae .i64 (gt p8.1 1)) 16)) (ao .i64 (ae .i64 (gt p8.1 2)) 8)) (ae .i64 (gt p8.1 3))))) (by (exact pfQ)))
 refine c_ hcx20 (an hF) (an hF) ?_
 revert hM;revert hF
 refine slQ ?_
 have he22:=su (l:=(sl p8.1 4 36)) (f:=(V.int .u8)) (k:=32) (by exact omR)
 refine slA he22 ?_
 intro hF hM
 refine bR (fun h23=> ?_) (fun h23=> ?_)
 ·have kh23:(!(eo x20 (au 32 (sl p8.1 4 36))))=true:=h23
  rw [if_pos kh23] at hM
  replace hF:=(And.intro h23 hF)
  revert hM;revert hF
  refine slQ ?_
  intro hF hM
  have nh23:=cF kh23
  try have hr24:=mpQ nh23
  exact auQ
 ·have kh23:(!(eo x20 (au 32 (sl p8.1 4 36))))=false:=h23
  rw [if_neg (bH kh23)] at hM
  replace hF:=(And.intro h23 hF)
  revert hM;revert hF
  refine slQ ?_
  intro hF hM
  have nh23:=cF kh23
  try have hr25:=mpQ nh23
  have hM0:=hM;clear hM;obtain ⟨x26,hx27,hM⟩:=aC hM0;clear hM0
  have hcx26:=a8.pub ((xS none (sl p8.1 36 (ak .i64 36 (orI .i64 (orI .i64 (orI .i64 (ao .i64 (ae .i64 (gt p8.1 0)) 24) (ao .i64 (ae .i64 (gt p8.1 1)) 16)) (ao .i64 (ae .i64 (gt p8.1 2)) 8)) (ae .i64 (gt p8.1 3)))))))
  rw [←hx27] at hcx26
  refine bl hcx26 (an hF) (an hF) (fun hw28=> ?_)
  replace hw28:=cF hw28
  revert hM;revert hF
  refine slQ ?_
  intro hF hM
  refine aO (n8 - 1) _ (by omega) sbQ sbQ ⟨((sl p8.1 (ak .i64 36 (orI .i64 (orI .i64 (orI .i64 (ao .i64 (ae .i64 (gt p8.1 0)) 24) (ao .i64 (ae .i64 (gt p8.1 1)) 16)) (ao .i64 (ae .i64 (gt p8.1 2)) 8)) (ae .i64 (gt p8.1 3)))) (p8.1.length:Int)),(p8.2++([x26]:List (List Int)))),rfl,⟨by exact omA,by (exact dW (by assumption))⟩,by (have h9:=bZ (l:=p8.1) (by assumption);dsimp only;exact ap),aM hM hag8⟩
set_option maxHeartbeats 2000000 in
set_option maxRecDepth 100000 in
instance Rr (j:cy):CM En (iE j) 18 [.agg [.sl none 1 false (j.Bytes.map (V.int .u8)),.int .i64 j.Durable,.int .i64 j.After]] (fun y=> .tup [(bL y.1),.int .i64 y.2]) (fun _=> []):=by
 refine enQ noJ Tryz.func18 Tryz.ntmps18 (iE.eq_1 ..) fun r hw=> ?_
 refine aF fun x1 _ _ _=> ?_
 intro hF hM
 refine bl (KH none x1) clQ clQ (fun hw4=> ?_)
 revert hM;revert hF
 refine slQ ?_
 intro hF hM
 have hM0:=hM;clear hM;obtain ⟨f5,d5,hf5,hd5,hM⟩:=AC hM0;clear hM0
 refine AG (fL x1) (fun y5=> [.int .i64 y5.1,.sl none 1 false (y5.2.map (V.int .u8))]) (fun p:av×Int=>(⟨[(2,.ptr 1 0),(3,.ptr 2 0),(10,.fn 119 [.pp 1 false (.sl none 1 false (x1.map (fun (l:List Int)=>V.sl none 1 false (l.map (V.int .u8)))))])],[(1,.var 39 true ((bL p.1))),(2,.var 1 false (.int .i64 p.2))],3⟩:St)) (fun (k5:Nat) (p:av×Int)=>True) hM (KI (l:=x1)) clQ clQ ⟨rfl,by decide,by decide⟩ (fun _=>rfl) (IL) sbQ sbG trivial (fun _ _ _=>rfl) (fun ag5 k5 y5 p5 r5 K5 hy5 hk5 hf5a hM hN5 hR5=> ?_) (fun p5 hf5a hM=> ?_)
 ·have hM0:=hM;clear hM;have hM:=AD hM0 hf5;clear hM0
  have hfa5:=hf5a
  refine AF (S':=(⟨[(5,.sl none 1 false (y5.2.map (V.int .u8))),(11,.int .i64 y5.1),(12,.sl none 1 false (y5.2.map (V.int .u8))),(2,.ptr 1 0),(3,.ptr 2 0),(10,.fn 119 [.pp 1 false (.sl none 1 false (x1.map (fun (l:List Int)=>V.sl none 1 false (l.map (V.int .u8)))))]),(100002,.ptr 1 0),(100003,.ptr 2 0),(100010,.fn 119 [.pp 1 false (.sl none 1 false (x1.map (fun (l:List Int)=>V.sl none 1 false (l.map (V.int .u8)))))])],[(1,.var 39 true ((bL p5.1))),(2,.var 1 false (.int .i64 p5.2))],3⟩:St)) rfl ?_
  revert hM;revert hF
  refine slQ ?_
  refine aF fun _ _ _ _=> ?_
  refine cdQ (fun _ _ _=> ?_) (fun _ _ _=> ?_)
  ·intro hF hM
   refine hR5 _ (by first|rfl|decide|(simp only [go_sem];done)) (fun he=> ?_)
   have hM1:=hM.trans he
   clear hM he
   subst hM1
   simp only [dnS,dnF,dk,List.filterMap_cons,List.filterMap_nil,Nat.reduceLeDiff,if_true,if_false,↓reduceIte,Nat.reduceSub,Nat.reduceAdd]
   try refine aq hF ?_
   exact cI (cK hF)
  ·intro hF hM
   try rw [wm]
   exact (hN5 (p5.1,p5.2) _ (AE (by first|rfl|(simp only [dnF,dk,List.filterMap_cons,List.filterMap_nil,Nat.reduceLeDiff,if_true,if_false,↓reduceIte,Nat.reduceSub];exact sbQ)) sbQ) trivial hM)
 ·have hM0:=hM;clear hM;have hM:=kQ hM0 hd5;clear hM0
  have hfa5:=hf5a
  exact auP
set_option maxHeartbeats 2000000 in
set_option maxRecDepth 100000 in
instance Rs (j:cy):CM En (fQ j) 19 [.agg [.sl none 1 false (j.Bytes.map (V.int .u8)),.int .i64 j.Durable,.int .i64 j.After]] (fun y=> .bool y) (fun _=> []):=by
 refine enQ noJ Tryz.func19 Tryz.ntmps19 (fQ.eq_1 ..) fun r hw=> ?_
 exact auR
set_option maxHeartbeats 2000000 in
set_option maxRecDepth 100000 in
instance Rt (p_:av):CM En (iF p_) 20 [(bL p_)] (fun y=> .bool y) (fun _=> []):=by
 refine enQ noJ Tryz.func20 Tryz.ntmps20 (iF.eq_1 ..) fun r hw=> ?_
 exact auR
set_option maxHeartbeats 2000000 in
set_option maxRecDepth 100000 in
theorem LH (b:(List Int)) (n_:Int) (hp0:n_≤(b.length:Int)) (hp1:0≤n_):CM En (lG b n_) 123 [.sl none 1 false (b.map (V.int .u8)),.int .i64 n_] (fun y=> .sl none 1 false (y.map (V.int .u8))) (fun _=> []):=by
 refine enQ noJ Tryz.func123 Tryz.ntmps123 (lG.eq_1 ..) fun r hw=> ?_
 intro hF hM
 have hM0:=hM;clear hM;obtain ⟨f1,d1,hf1,hd1,hM⟩:=aH hM0;clear hM0
 refine bN (fun n S=> ∃p:Int×List Int,S=(⟨[(0,.sl none 1 false (b.map (V.int .u8))),(1,.int .i64 n_),(5,.own 0),(6,.int .i64 p.1)],[(0,.own 5 1 false none (p.2.map (V.int .u8)))],1⟩:St)∧((0≤p.1)∧(p.1≤n_)∧(((p.2).length:Int)≤p.1))∧(n_ - p.1).toNat<n∧ah n f1 d1 p=r) ((n_ - 0).toNat+1) _ _ (dV 5 5 rfl (by decide)) sbQ sbQ ⟨(0,([]:List Int)),rfl,⟨omQ,omQ,omQ⟩,(Nat.lt_succ_self _),hM⟩ ?_
 clear hM
 rintro n1 S ⟨p1,rfl,hfa1,hm1,hM⟩
 have hM0:=hM;clear hM;obtain ⟨ag1,hag1,hM⟩:=aI hM0 (by omega) hf1;clear hM0
 replace hfa1:=nzQ hfa1
 replace hm1:=nzQ hm1
 have ha1:ak .i64 p1.1 1=p1.1+1:=aR omQ omQ
 replace hF:=(And.intro ha1 hF)
 revert hM;revert hF
 refine slQ ?_
 refine ax fun _ _ _=> ?_
 intro hF hM
 refine aO (n1 - 1) _ (by omega) sbQ sbQ ⟨((p1.1+1),(p1.2++([(gt b p1.1)]:List Int))),rfl,⟨omQ,omQ,omQ⟩,omQ,aM hM hag1⟩
set_option maxHeartbeats 2000000 in
set_option maxRecDepth 100000 in
instance Ru:CM En (mO) 176 [] (fun y=> .sl none 1 false (y.map (V.int .u32))) (fun _=> []):=by
 refine enQ noJ Tryz.func176 Tryz.ntmps176 (mO.eq_1 ..) fun r hw=> ?_
 exact auR
set_option maxHeartbeats 2000000 in
set_option maxRecDepth 100000 in
instance Rv (n_:Int):CM En (lH n_) 217 [.int .i64 n_] (fun y=> .sl none 1 false (y.map (V.int .u8))) (fun _=> []):=by
 refine enQ noJ Tryz.func217 Tryz.ntmps217 (lH.eq_1 ..) fun r hw=> ?_
 intro hF hM
 have hM0:=hM;clear hM;obtain ⟨f1,d1,hf1,hd1,hM⟩:=aH hM0;clear hM0
 refine bN (fun n S=> ∃p:Int×List Int,S=(⟨[(0,.int .i64 n_),(3,.own 0),(4,.int .i64 p.1)],[(0,.own 5 1 false none (p.2.map (V.int .u8)))],1⟩:St)∧((-1≤p.1)∧(p.1≤7)∧(((p.2).length:Int)=7 - p.1))∧((p.1+1):Int).toNat<n∧ah n f1 d1 p=r) (((7+1):Int).toNat+1) _ _ (dV 3 5 rfl (by decide)) sbQ sbQ ⟨(7,([]:List Int)),rfl,⟨omQ,omQ,omQ⟩,(Nat.lt_succ_self _),hM⟩ ?_
 clear hM
 rintro n1 S ⟨p1,rfl,hfa1,hm1,hM⟩
 have hM0:=hM;clear hM;obtain ⟨ag1,hag1,hM⟩:=aI hM0 (by omega) hf1;clear hM0
 replace hfa1:=nzQ hfa1
 replace hm1:=nzQ hm1
 revert hM;revert hF
 refine slQ ?_
 refine ax fun _ _ _=> ?_
 obtain ⟨ha4,hbha4⟩:=kU (a:=8) (b:=p1.1) 8 8 64 ap ap ap ap (by decide) (by decide)
 intro hF hM
 try simp only [ha4]
 replace hF:=(And.intro ha4 hF)
 revert hM;revert hF
 refine slQ ?_
 have ha5:az .i64 p1.1 1=(p1.1 - 1):=cE ap ap
 intro hF hM
 try simp only [ha5]
 refine aO (n1 - 1) _ (by omega) sbQ sbQ ⟨((p1.1 - 1),(p1.2++([(ae .u8 (ar .i64 n_ (8*p1.1)))]:List Int))),rfl,⟨omQ,omQ,omQ⟩,omQ,aM hM hag1⟩
set_option maxHeartbeats 2000000 in
set_option maxRecDepth 100000 in
theorem LI (b:(List Int)) (hp0:b.length≤1000000000):CM En (jq b) 177 [.sl none 1 false (b.map (V.int .u8))] (fun y=> .sl none 1 false (y.map (V.int .u8))) (fun _=> []):=by
 refine cmQ fun r hM=> ?_
 rw [jq.eq_1] at hM
 refine ef bn cJ noJ Tryz.func177 rfl Tryz.ntmps177 (by kernel_rfl) fun hw=>cO ?_
 refine spQ ?_
 replace hw:=nzQ hw
 refine bM omQ ?_
 refine spQ ?_
 refine bM omQ ?_
 refine spQ ?_
 have hM0:=hM;clear hM;obtain ⟨f1,d1,hf1,hd1,hM⟩:=aH hM0;clear hM0
 refine bm (fun n S=> ∃p:List Int,S=(⟨[(0,.sl none 1 false (b.map (V.int .u8))),(3,.own 0)],[(0,.own 5 1 false none (p.map (V.int .u8)))],2⟩:St)∧((((p).length:Int)+(56 - ((p).length:Int))% 64≤(b.length:Int)+65))∧((56 - ((p).length:Int))% 64).toNat<n∧ah n f1 d1 p=r) (((56 - ((((([]:List Int)++b)++([128]:List Int))).length:Int))% 64).toNat+1) _ sbQ sbQ ⟨((([]:List Int)++b)++([128]:List Int)),rfl,omQ,(Nat.lt_succ_self _),hM⟩ ?_
 clear hM
 rintro n1 S ⟨p1,rfl,hfa1,hm1,hM⟩
 have hM0:=hM;clear hM;obtain ⟨ag1,hag1,hM⟩:=aI hM0 (by omega) hf1;clear hM0
 replace hfa1:=nzQ hfa1
 replace hm1:=nzQ hm1
 refine spQ ?_
 have hF:=gI
 exact auQ
instance (priority:=1060):DRD 1 13 7 [5,6,7,8,9,10,11] [] ([[],[],[0,1],[],[],[4],[3,4,5]]++[List.range 7,List.range 8]) []:=⟨trivial⟩
set_option maxHeartbeats 2000000 in
set_option maxRecDepth 100000 in
theorem js (x_:Int) (n_:Int) (hp0:0≤n_) (hp1:n_≤32):CM En (dO x_ n_) 179 [.int .u32 x_,.int .i64 n_] (fun y=> .int .u32 y) (fun _=> []):=by
 refine enQ noJ Tryz.func179 Tryz.ntmps179 (dO.eq_1 ..) fun r hw=> ?_
 refine slQ ?_
 have ha1:az .i64 32 n_=(32 - n_):=cE ap ap
 intro hF hM
 try simp only [ha1]
 replace hF:=(And.intro ha1 hF)
 exact auQ
instance (priority:=1061):DRD 14 84 11 [8,39,40,41,42,43,44,45,46,47,48] [] ([[],[],[1],[0,1,2],[0,1,2,3],[],[],[6],[5,6,7],[5,6,7,8],[0,1,2,3,4]]++[List.range 11]) []:=⟨trivial⟩
instance (priority:=1062):DRD 17 84 17 [65,66,67,68,69,70,71,72,73,74,75,76,77,78,79,80,81] [] ([[],[],[],[2],[1,2,3],[1,2,3,4],[],[1,2,3,4,5,6],[],[],[9],[8,9,10],[8,9,10,11],[1,2,3,4,5,6,7,8,9,10,11,12],[],[1,2,3,4,5,6,7,8,9,10,11,12,13,14],[1,2,3,4,5,6,7,8,9,10,11,12,13,14,15]]++[List.range 17,List.range 18]) []:=⟨trivial⟩
set_option maxHeartbeats 2000000 in
set_option maxRecDepth 100000 in
theorem LJ (b:(List Int)) (hp0:b.length=64):CM En (lI b) 178 [.sl none 1 false (b.map (V.int .u8))] (fun y=> .sl none 1 false (y.map (V.int .u32))) (fun _=> []):=by
 refine enQ noJ Tryz.func178 Tryz.ntmps178 (lI.eq_1 ..) fun r hw=> ?_
 intro hF hM
 have hM0:=hM;clear hM;obtain ⟨f1,d1,hf1,hd1,hM⟩:=aH hM0;clear hM0
 refine bN (fun n S=> ∃p:Int×List Int,S=(⟨[(0,.sl none 1 false (b.map (V.int .u8))),(3,.own 0),(4,.int .i64 p.1)],[(0,.own 277 1 false none (p.2.map (V.int .u32)))],1⟩:St)∧((0≤p.1)∧(p.1≤16)∧(((p.2).length:Int)=p.1)∧(((p.2).length:Int)≤p.1))∧((16:Int) - p.1).toNat<n∧ah n f1 d1 p=r) (((16:Int) - 0).toNat+1) _ _ (dV 3 277 rfl (by decide)) sbQ sbQ ⟨(0,([]:List Int)),rfl,⟨omQ,omQ,omQ,omQ⟩,(Nat.lt_succ_self _),hM⟩ ?_
 clear hM
 rintro n1 S ⟨p1,rfl,hfa1,hm1,hM⟩
 have hM0:=hM;clear hM;obtain ⟨ag1,hag1,hM⟩:=aI hM0 (by omega) hf1;clear hM0
 replace hfa1:=nzQ hfa1
 replace hm1:=nzQ hm1
 have ha1:ak .i64 p1.1 1=p1.1+1:=aR omQ omQ
 replace hF:=(And.intro ha1 hF)
 revert hM;revert hF
 refine slQ ?_
 refine cdQ (fun _ _ _=> ?_) (fun _ _ _=> ?_)
 ·intro hF hM
  have hM0:=hM;clear hM;obtain ⟨f4,d4,hf4,hd4,hM⟩:=aH hM0;clear hM0
  refine bm (fun n S=> ∃p:Int×Int,S=(⟨[(0,.sl none 1 false (b.map (V.int .u8))),(3,.own 0),(4,.int .i64 p1.1),(5,.int .u32 p.1),(6,.int .i64 p.2)],[(0,.own 277 1 false none (p1.2.map (V.int .u32)))],1⟩:St)∧((0≤p.2)∧(p.2≤4))∧((4:Int) - p.2).toNat<n∧ah n f4 d4 p=r) (((4:Int) - 0).toNat+1) _ sbQ sbQ ⟨(0,0),rfl,⟨omQ,omQ⟩,(Nat.lt_succ_self _),hM⟩ ?_
  clear hM
  rintro n4 S ⟨p4,rfl,hfa4,hm4,hM⟩
  have hM0:=hM;clear hM;obtain ⟨ag4,hag4,hM⟩:=aI hM0 (by omega) hf4;clear hM0
  replace hfa4:=nzQ hfa4
  replace hm4:=nzQ hm4
  have ha4:ak .i64 p4.2 1=p4.2+1:=aR omQ omQ
  replace hF:=(And.intro ha4 hF)
  revert hM;revert hF
  refine slQ ?_
  refine cdQ (fun _ _ _=> ?_) (fun _ _ _=> ?_)
  ·obtain ⟨ha7,hbha7⟩:=kU (a:=4) (b:=p1.1) 4 64 256 ap ap ap ap (by decide) (by decide)
   intro hF hM
   try simp only [ha7]
   have ha8:ak .i64 (4*p1.1) p4.2=((4*p1.1)+p4.2):=eY omQ omQ
   try simp only [ha8]
   replace hF:=(And.intro ha7 (And.intro ha8 hF))
   revert hM;revert hF
   refine slQ ?_
   intro hF hM
   refine aO (n4 - 1) _ (by omega) sbQ sbQ ⟨((ak .u32 (aK .u32 p4.1 256) (ae .u32 (gt b ((4*p1.1)+p4.2)))),(p4.2+1)),rfl,⟨omQ,omQ⟩,omQ,aM hM hag4⟩
  ·intro hF hM
   refine aO (n1 - 1) _ (by omega) sbQ sbQ ⟨((p1.1+1),(p1.2++([p4.1]:List Int))),rfl,⟨omQ,omQ,omQ,omQ⟩,omQ,aM hM hag1⟩
 ·intro hF hM
  have hM0:=hM;clear hM;obtain ⟨f12,d12,hf12,hd12,hM⟩:=aH hM0;clear hM0
  refine bm (fun n S=> ∃p:Int×List Int,S=(⟨[(3,.own 0),(7,.int .i64 p.1)],[(0,.own 277 1 false none (p.2.map (V.int .u32)))],1⟩:St)∧((16≤p.1)∧(p.1≤64∨p.1≤16)∧(((p.2).length:Int)=p.1))∧((64:Int) - p.1).toNat<n∧ah n f12 d12 p=r) (((64:Int) - 16).toNat+1) _ sbQ sbQ ⟨(16,p1.2),rfl,⟨omQ,omQ,omQ⟩,(Nat.lt_succ_self _),hM⟩ ?_
  clear hM
  rintro n12 S ⟨p12,rfl,hfa12,hm12,hM⟩
  have hM0:=hM;clear hM;obtain ⟨ag12,hag12,hM⟩:=aI hM0 (by omega) hf12;clear hM0
  replace hfa12:=nzQ hfa12
  replace hm12:=nzQ hm12
  have ha12:ak .i64 p12.1 1=p12.1+1:=aR omQ omQ
  replace hF:=(And.intro ha12 hF)
  revert hM;revert hF
  refine slQ ?_
  refine ax fun _ _ _=> ?_
  have ha15:az .i64 p12.1 15=(p12.1 - 15):=cE ap ap
  intro hF hM
  try simp only [ha15]
  replace hF:=(And.intro ha15 hF)
  revert hM;revert hF
  refine slQ ?_
  have ha17:az .i64 p12.1 2=(p12.1 - 2):=cE ap ap
  intro hF hM
  try simp only [ha17]
  replace hF:=(And.intro ha17 hF)
  revert hM;revert hF
  refine slQ ?_
  intro hF hM
  have hM0:=hM;clear hM;obtain ⟨x19,hx20,hM⟩:=aC hM0;clear hM0
  have hcx19:=cmH hx20 (js (gt p12.2 (p12.1 - 15)) 7 (by (exact pfQ)) (by (exact pfQ)))
  refine bl hcx19 (an hF) (an hF) (fun hw21=> ?_)
  replace hw21:=nzQ hw21
  revert hM;revert hF
  refine slQ ?_
  intro hF hM
  have hM0:=hM;clear hM;obtain ⟨x22,hx23,hM⟩:=aC hM0;clear hM0
  have hcx22:=cmH hx23 (js (gt p12.2 (p12.1 - 15)) 18 (by (exact pfQ)) (by (exact pfQ)))
  refine bl hcx22 (an hF) (an hF) (fun hw24=> ?_)
  replace hw24:=nzQ hw24
  revert hM;revert hF
  refine slQ ?_
  intro hF hM
  have hM0:=hM;clear hM;obtain ⟨x25,hx26,hM⟩:=aC hM0;clear hM0
  have hcx25:=cmH hx26 (js (gt p12.2 (p12.1 - 2)) 17 (by (exact pfQ)) (by (exact pfQ)))
  refine bl hcx25 (an hF) (an hF) (fun hw27=> ?_)
  replace hw27:=nzQ hw27
  revert hM;revert hF
  refine slQ ?_
  intro hF hM
  have hM0:=hM;clear hM;obtain ⟨x28,hx29,hM⟩:=aC hM0;clear hM0
  have hcx28:=cmH hx29 (js (gt p12.2 (p12.1 - 2)) 19 (by (exact pfQ)) (by (exact pfQ)))
  refine bl hcx28 (an hF) (an hF) (fun hw30=> ?_)
  replace hw30:=nzQ hw30
  revert hM;revert hF
  refine slQ ?_
  have ha31:az .i64 p12.1 16=(p12.1 - 16):=cE ap ap
  intro hF hM
  try simp only [ha31]
  replace hF:=(And.intro ha31 hF)
  revert hM;revert hF
  refine slQ ?_
  have ha33:az .i64 p12.1 7=(p12.1 - 7):=cE ap ap
  intro hF hM
  try simp only [ha33]
  replace hF:=(And.intro ha33 hF)
  revert hM;revert hF
  refine slQ ?_
  intro hF hM
  refine aO (n12 - 1) _ (by omega) sbQ sbQ ⟨((p12.1+1),(p12.2++([(ak .u32 (ak .u32 (ak .u32 (gt p12.2 (p12.1 - 16)) (aU .u32 (aU .u32 x19 x22) (ar .u32 (gt p12.2 (p12.1 - 15)) 3))) (gt p12.2 (p12.1 - 7))) (aU .u32 (aU .u32 x25 x28) (ar .u32 (gt p12.2 (p12.1 - 2)) 10)))]:List Int))),rfl,⟨omQ,omQ,omQ⟩,omQ,aM hM hag12⟩
instance (priority:=1063):DRD 12 182 44 [38,39,40,41,42,43,44,45,46,47,48,49,50,51,52,53,54,55,56,57,58,59,60,61,62,63,64,65,66,67,68,69,70,71,72,73,74,75,76,77,78,79,80,81] [] ([[],[0],[0,1],[],[3],[3,4],[3,4,5],[],[7],[7,8],[7,8,9],[3,4,5,6,7,8,9,10],[],[12],[12,13],[12,13,14],[3,4,5,6,7,8,9,10,11,12,13,14,15],[0,1,2,3,4,5,6,7,8,9,10,11,12,13,14,15,16],[],[18],[18,19],[],[21],[21,22],[18,19,20,21,22,23],[],[25],[25,26],[25,26,27],[],[29],[29,30],[25,26,27,28,29,30,31],[18,19,20,21,22,23,24,25,26,27,28,29,30,31,32],[0,1,2,3,4,5,6,7,8,9,10,11,12,13,14,15,16,17,18,19,20,21,22,23,24,25,26,27,28,29,30,31,32,33],[],[],[35,36],[35,36,37],[0,1,2,3,4,5,6,7,8,9,10,11,12,13,14,15,16,17,18,19,20,21,22,23,24,25,26,27,28,29,30,31,32,33,34,35,36,37,38],[],[],[40,41],[40,41,42]]++[List.range 44,List.range 45]) []:=⟨trivial⟩
instance (priority:=1064):DRD 13 182 37 [83,84,85,86,87,88,89,90,91,92,93,94,95,96,97,98,99,100,101,102,103,104,105,106,107,108,109,110,111,112,113,114,115,116,117,118,119] [] ([[],[0],[0,1],[0,1,2],[],[4],[4,5],[4,5,6],[0,1,2,3,4,5,6,7],[],[9],[9,10],[9,10,11],[0,1,2,3,4,5,6,7,8,9,10,11,12],[],[14],[14,15],[],[17],[17,18],[14,15,16,17,18,19],[],[21],[21,22],[],[24],[24,25],[21,22,23,24,25,26],[14,15,16,17,18,19,20,21,22,23,24,25,26,27],[],[29],[29,30],[],[32],[32,33],[29,30,31,32,33,34],[14,15,16,17,18,19,20,21,22,23,24,25,26,27,28,29,30,31,32,33,34,35]]++[List.range 37,List.range 38]) []:=⟨trivial⟩
instance (priority:=1065):DRD 14 182 26 [121,122,123,124,125,126,127,128,129,130,131,132,133,134,135,136,137,138,139,140,141,142,143,144,145,146] [] ([[],[],[0,1],[],[3],[3,4],[],[6],[6,7],[],[9],[9,10],[],[12],[12,13],[],[12,13,14,15],[],[17],[17,18],[],[20],[20,21],[],[23],[23,24]]++[List.range 26,List.range 27]) []:=⟨trivial⟩
instance (priority:=1066):DRD 18 182 11 [152,153,154,155,156,157,158,159,160,161,162] [] ([[],[],[],[],[2,3],[2,3,4],[],[],[6,7],[6,7,8],[2,3,4,5,6,7,8,9]]++[List.range 11,List.range 12]) []:=⟨trivial⟩
set_option maxHeartbeats 2000000 in
set_option maxRecDepth 100000 in
theorem LK (b:(List Int)) (hp0:b.length≤1000000000):CM En (kh b) 124 [.sl none 1 false (b.map (V.int .u8))] (fun y=>(bI y)) (fun _=> []):=by
 refine enQ noJ Tryz.func124 Tryz.ntmps124 (kh.eq_1 ..) fun r hw=> ?_
 refine aF fun x1 _ _ _=> ?_
 intro hF hM
 have hM0:=hM;clear hM;obtain ⟨x5,hx6,hM⟩:=aC hM0;clear hM0
 have hcx5:=cmH hx6 (LI b (by (exact pfQ)))
 refine bl hcx5 clQ clQ (fun hw7=> ?_)
 replace hw7:=nzQ hw7
 revert hM;revert hF
 refine slQ ?_
 have hq8:=nzQ (cfU hx6)
 intro hF hM
 have hM0:=hM;clear hM;obtain ⟨f9,d9,hf9,hd9,hM⟩:=aH hM0;clear hM0
 refine bm (fun n S=> ∃p:Int×List Int,S=(⟨[(2,.ptr 0 0),(3,.own 1),(4,.sl none 1 false (x1.map (V.int .u32))),(5,.sl none 1 false (x5.map (V.int .u8))),(6,.int .i64 p.1)],[(0,.var 32 true (gL)),(1,.own 277 1 false none (p.2.map (V.int .u32)))],2⟩:St)∧((0≤p.1)∧(p.1≤(x5.length:Int))∧(p.1% 64=0)∧((p.2).length=(([1779033703,3144134277,1013904242,2773480762,1359893119,2600822924,528734635,1541459225]:List Int)).length))∧((x5.length:Int) - p.1).toNat<n∧ah n f9 d9 p=r) (((x5.length:Int) - 0).toNat+1) _ sbQ sbQ ⟨(0,([1779033703,3144134277,1013904242,2773480762,1359893119,2600822924,528734635,1541459225]:List Int)),rfl,⟨omQ,omQ,omQ,omQ⟩,(Nat.lt_succ_self _),hM⟩ ?_
 clear hM
 rintro n9 S ⟨p9,rfl,hfa9,hm9,hM⟩
 have hM0:=hM;clear hM;obtain ⟨ag9,hag9,hM⟩:=aI hM0 (by omega) hf9;clear hM0
 replace hfa9:=nzQ hfa9
 replace hm9:=nzQ hm9
 have ha9:ak .i64 p9.1 1=p9.1+1:=aR omQ omQ
 replace hF:=(And.intro ha9 hF)
 revert hM;revert hF
 refine slQ ?_
 refine cdQ (fun _ _ _=> ?_) (fun _ _ _=> ?_)
 ·have ha12:ak .i64 p9.1 64=(p9.1+64):=eY ap ap
  intro hF hM
  try simp only [ha12]
  replace hF:=(And.intro ha12 hF)
  revert hM;revert hF
  refine slQ ?_
  intro hF hM
  have hM0:=hM;clear hM;obtain ⟨x13,hx14,hM⟩:=aC hM0;clear hM0
  have hcx13:=cmH hx14 (LJ (sl x5 p9.1 (p9.1+64)) (by (exact pfQ)))
  refine bl hcx13 (an hF) (an hF) (fun hw15=> ?_)
  replace hw15:=nzQ hw15
  revert hM;revert hF
  refine slQ ?_
  have hq16:=nzQ (cfU hx14)
  refine slQ ?_
  intro hF hM
  have hM0:=hM;clear hM;obtain ⟨f17,d17,hf17,hd17,hM⟩:=aH hM0;clear hM0
  refine bm (fun n S=> ∃p:Int×List Int,S=(⟨[(2,.ptr 0 0),(3,.own 1),(4,.sl none 1 false (x1.map (V.int .u32))),(5,.sl none 1 false (x5.map (V.int .u8))),(6,.int .i64 p9.1),(7,.sl none 1 false (x13.map (V.int .u32))),(8,.own 2),(9,.int .i64 p.1)],[(0,.var 32 true (gL)),(1,.own 277 1 false none (p9.2.map (V.int .u32))),(2,.own 277 1 false none (p.2.map (V.int .u32)))],3⟩:St)∧((0≤p.1)∧(p.1≤64)∧(((p.2).length:Int)=8)∧((p.2).length=((([]:List Int)++p9.2)).length))∧((64:Int) - p.1).toNat<n∧ah n f17 d17 p=r) (((64:Int) - 0).toNat+1) _ sbQ sbQ ⟨(0,(([]:List Int)++p9.2)),rfl,⟨omQ,omQ,omQ,omQ⟩,(Nat.lt_succ_self _),hM⟩ ?_
  clear hM
  rintro n17 S ⟨p17,rfl,hfa17,hm17,hM⟩
  have hM0:=hM;clear hM;obtain ⟨ag17,hag17,hM⟩:=aI hM0 (by omega) hf17;clear hM0
  replace hfa17:=nzQ hfa17
  replace hm17:=nzQ hm17
  have ha17:ak .i64 p17.1 1=p17.1+1:=aR omQ omQ
  replace hF:=(And.intro ha17 hF)
  revert hM;revert hF
  refine slQ ?_
  refine cdQ (fun _ _ _=> ?_) (fun _ _ _=> ?_)
  ·intro hF hM
   have hM0:=hM;clear hM;obtain ⟨x22,hx23,hM⟩:=aC hM0;clear hM0
   have hcx22:=cmH hx23 (js (gt p17.2 4) 6 (by (exact pfQ)) (by (exact pfQ)))
   refine c_ hcx22 (an hF) (an hF) ?_
   revert hM;revert hF
   refine slQ ?_
   intro hF hM
   have hM0:=hM;clear hM;obtain ⟨x24,hx25,hM⟩:=aC hM0;clear hM0
   have hcx24:=cmH hx25 (js (gt p17.2 4) 11 (by (exact pfQ)) (by (exact pfQ)))
   refine c_ hcx24 (an hF) (an hF) ?_
   revert hM;revert hF
   refine slQ ?_
   intro hF hM
   have hM0:=hM;clear hM;obtain ⟨x26,hx27,hM⟩:=aC hM0;clear hM0
   have hcx26:=cmH hx27 (js (gt p17.2 4) 25 (by (exact pfQ)) (by (exact pfQ)))
   refine c_ hcx26 (an hF) (an hF) ?_
   revert hM;revert hF
   refine slQ ?_
   intro hF hM
   have hM0:=hM;clear hM;obtain ⟨x33,hx34,hM⟩:=aC hM0;clear hM0
   have hcx33:=cmH hx34 (js (gt p17.2 0) 2 (by (exact pfQ)) (by (exact pfQ)))
   refine c_ hcx33 (an hF) (an hF) ?_
   revert hM;revert hF
   refine slQ ?_
   intro hF hM
   have hM0:=hM;clear hM;obtain ⟨x35,hx36,hM⟩:=aC hM0;clear hM0
   have hcx35:=cmH hx36 (js (gt p17.2 0) 13 (by (exact pfQ)) (by (exact pfQ)))
   refine c_ hcx35 (an hF) (an hF) ?_
   revert hM;revert hF
   refine slQ ?_
   intro hF hM
   have hM0:=hM;clear hM;obtain ⟨x37,hx38,hM⟩:=aC hM0;clear hM0
   have hcx37:=cmH hx38 (js (gt p17.2 0) 22 (by (exact pfQ)) (by (exact pfQ)))
   refine c_ hcx37 (an hF) (an hF) ?_
   revert hM;revert hF
   refine slQ ?_
   intro hF hM
   refine IP (n17 - 1) _ _ (by omega) (Jn (S:=⟨_,_,_⟩) 8 2 110 (T:=277) (n:=1) (g:=false) (z:=(some false)) (l:=([(ak .u32 (ak .u32 (ak .u32 (ak .u32 (ak .u32 (gt p17.2 7) (aU .u32 (aU .u32 x22 x24) x26)) (aU .u32 (aX .u32 (gt p17.2 4) (gt p17.2 5)) (aX .u32 (fk .u32 (gt p17.2 4)) (gt p17.2 6)))) (gt x1 p17.1)) (gt x13 p17.1)) (ak .u32 (aU .u32 (aU .u32 x33 x35) x37) (aU .u32 (aU .u32 (aX .u32 (gt p17.2 0) (gt p17.2 1)) (aX .u32 (gt p17.2 0) (gt p17.2 2))) (aX .u32 (gt p17.2 1) (gt p17.2 2))))),(gt p17.2 0),(gt p17.2 1),(gt p17.2 2),(ak .u32 (gt p17.2 3) (ak .u32 (ak .u32 (ak .u32 (ak .u32 (gt p17.2 7) (aU .u32 (aU .u32 x22 x24) x26)) (aU .u32 (aX .u32 (gt p17.2 4) (gt p17.2 5)) (aX .u32 (fk .u32 (gt p17.2 4)) (gt p17.2 6)))) (gt x1 p17.1)) (gt x13 p17.1))),(gt p17.2 4),(gt p17.2 5),(gt p17.2 6)]:List Int).map (V.int .u32)) (an hF) (an hF) (by first|decide|(dsimp only;decide)) (by decide)) sbQ sbQ ⟨((p17.1+1),([(ak .u32 (ak .u32 (ak .u32 (ak .u32 (ak .u32 (gt p17.2 7) (aU .u32 (aU .u32 x22 x24) x26)) (aU .u32 (aX .u32 (gt p17.2 4) (gt p17.2 5)) (aX .u32 (fk .u32 (gt p17.2 4)) (gt p17.2 6)))) (gt x1 p17.1)) (gt x13 p17.1)) (ak .u32 (aU .u32 (aU .u32 x33 x35) x37) (aU .u32 (aU .u32 (aX .u32 (gt p17.2 0) (gt p17.2 1)) (aX .u32 (gt p17.2 0) (gt p17.2 2))) (aX .u32 (gt p17.2 1) (gt p17.2 2))))),(gt p17.2 0),(gt p17.2 1),(gt p17.2 2),(ak .u32 (gt p17.2 3) (ak .u32 (ak .u32 (ak .u32 (ak .u32 (gt p17.2 7) (aU .u32 (aU .u32 x22 x24) x26)) (aU .u32 (aX .u32 (gt p17.2 4) (gt p17.2 5)) (aX .u32 (fk .u32 (gt p17.2 4)) (gt p17.2 6)))) (gt x1 p17.1)) (gt x13 p17.1))),(gt p17.2 4),(gt p17.2 5),(gt p17.2 6)]:List Int)),rfl,⟨omQ,omQ,omQ,omQ⟩,omQ,aM hM hag17⟩
  ·intro hF hM
   have hM0:=hM;clear hM;obtain ⟨f43,d43,hf43,hd43,hM⟩:=aH hM0;clear hM0
   refine bm (fun n S=> ∃p:Int×List Int,S=(⟨[(2,.ptr 0 0),(3,.own 1),(4,.sl none 1 false (x1.map (V.int .u32))),(5,.sl none 1 false (x5.map (V.int .u8))),(6,.int .i64 p9.1),(8,.own 2),(12,.int .i64 p.1)],[(0,.var 32 true (gL)),(1,.own 277 1 false none (p.2.map (V.int .u32))),(2,.own 277 1 false none (p17.2.map (V.int .u32)))],3⟩:St)∧((0≤p.1)∧(p.1≤8)∧((p.2).length=(p9.2).length))∧((8:Int) - p.1).toNat<n∧ah n f43 d43 p=r) (((8:Int) - 0).toNat+1) _ sbQ sbQ ⟨(0,p9.2),rfl,⟨omQ,omQ,omQ⟩,(Nat.lt_succ_self _),hM⟩ ?_
   clear hM
   rintro n43 S ⟨p43,rfl,hfa43,hm43,hM⟩
   have hM0:=hM;clear hM;obtain ⟨ag43,hag43,hM⟩:=aI hM0 (by omega) hf43;clear hM0
   replace hfa43:=nzQ hfa43
   replace hm43:=nzQ hm43
   have ha43:ak .i64 p43.1 1=p43.1+1:=aR omQ omQ
   replace hF:=(And.intro ha43 hF)
   revert hM;revert hF
   refine slQ ?_
   refine cdQ (fun _ _ _=> ?_) (fun _ _ _=> ?_)
   ·intro hF hM
    refine aO (n43 - 1) _ (by omega) sbQ sbQ ⟨((p43.1+1),(st p43.2 p43.1 (ak .u32 (gt p43.2 p43.1) (gt p17.2 p43.1)))),rfl,⟨omQ,omQ,omQ⟩,omQ,aM hM hag43⟩
   ·intro hF hM
    refine aO (n9 - 1) _ (by omega) sbQ sbQ ⟨((p9.1+64),p43.2),rfl,⟨omQ,omQ,omQ,omQ⟩,omQ,aM hM hag9⟩
 ·intro hF hM
  have hM0:=hM;clear hM;obtain ⟨f51,d51,hf51,hd51,hM⟩:=aH hM0;clear hM0
  refine bm (fun n S=> ∃p:Int×(List Int),S=(⟨[(2,.ptr 0 0),(3,.own 1),(13,.ptr 2 0),(14,.int .i64 p.1)],[(0,.var 32 true (gL)),(1,.own 277 1 false none (p9.2.map (V.int .u32))),(2,.var 32 true ((bI p.2)))],3⟩:St)∧((0≤p.1)∧(p.1≤32))∧((32:Int) - p.1).toNat<n∧ah n f51 d51 p=r) (((32:Int) - 0).toNat+1) _ sbQ sbG ⟨(0,[0,0,0,0,0,0,0,0,0,0,0,0,0,0,0,0,0,0,0,0,0,0,0,0,0,0,0,0,0,0,0,0]),rfl,⟨omQ,omQ⟩,(Nat.lt_succ_self _),hM⟩ ?_
  clear hM
  rintro n51 S ⟨p51,rfl,hfa51,hm51,hM⟩
  have hM0:=hM;clear hM;obtain ⟨ag51,hag51,hM⟩:=aI hM0 (by omega) hf51;clear hM0
  replace hfa51:=nzQ hfa51
  replace hm51:=nzQ hm51
  have ha51:ak .i64 p51.1 1=p51.1+1:=aR omQ omQ
  replace hF:=(And.intro ha51 hF)
  revert hM;revert hF
  refine slQ ?_
  refine ax fun _ _ _=> ?_
  have ha54:cc .i64 p51.1 4=(p51.1/4):=Je ap ap
  intro hF hM
  try simp only [ha54]
  replace hF:=(And.intro ha54 hF)
  revert hM;revert hF
  refine slQ ?_
  have ha56:bJ .i64 p51.1 4=(p51.1% 4):=Jf ap ap
  intro hF hM
  try simp only [ha56]
  replace hF:=(And.intro ha56 hF)
  revert hM;revert hF
  refine slQ ?_
  obtain ⟨ha57,hbha57⟩:=kU (a:=8) (b:=(p51.1% 4)) 8 64 512 ap ap ap ap (by decide) (by decide)
  intro hF hM
  try simp only [ha57]
  have ha58:az .i64 24 (8*(p51.1% 4))=(24 - (8*(p51.1% 4))):=cE omQ omQ
  try simp only [ha58]
  replace hF:=(And.intro ha57 (And.intro ha58 hF))
  revert hM;revert hF
  refine slQ ?_
  have he59:((p51.1).toNat*1≤31)=True:=eq_true ap
  refine slA he59 ?_
  have he60:=mE (f:=(V.int .u8)) (l:=(au 32 p51.2)) (n:=32) (i:=p51.1) (v:=(ae .u8 (ar .u32 (gt p9.2 (p51.1/4)) (24 - (8*(p51.1% 4)))))) cq ap
  replace he60:=spR he60
  refine slA he60 ?_
  intro hF hM
  refine aO (n51 - 1) _ (by omega) sbQ sbG ⟨((p51.1+1),(au 32 (st (au 32 p51.2) p51.1 (ae .u8 (ar .u32 (gt p9.2 (p51.1/4)) (24 - (8*(p51.1% 4)))))))),rfl,⟨omQ,omQ⟩,omQ,aM hM hag51⟩
set_option maxHeartbeats 2000000 in
set_option maxRecDepth 100000 in
instance Rw (j:cy):CM En (qo j) 64 [.agg [.sl none 1 false (j.Bytes.map (V.int .u8)),.int .i64 j.Durable,.int .i64 j.After]] (fun y=> .sl none 1 false (y.map (fun (l:List Int)=>V.sl none 1 false (l.map (V.int .u8))))) (fun _=> []):=by
 refine cmQ fun r hM=> ?_
 rw [qo.eq_1] at hM
 refine ef bn cJ noJ Tryz.func64 rfl Tryz.ntmps64 (by kernel_rfl) fun hw=>cO ?_
 refine spQ ?_
 replace hw:=cF hw
 have hM0:=hM;clear hM;obtain ⟨x1,hx2,hM⟩:=aC hM0;clear hM0
 have hcx1:=cmU hx2
 refine bl hcx1 clQ clQ (fun hw3=> ?_)
 replace hw3:=cF hw3
 refine spQ ?_
 have hq4:=nzQ (cfU hx2)
 refine bR (fun h5=> ?_) (fun h5=> ?_)
 ·rw [if_pos h5] at hM
  refine aq h5 ?_
  have nh5:=cF h5
  try have hr6:=mpQ nh5
  subst hM
  exact cI (cK h5)
 ·rw [if_neg (bH h5)] at hM
  refine aq h5 ?_
  have nh5:=cF h5
  try have hr7:=mpQ nh5
  have hM0:=hM;clear hM;obtain ⟨f8,d8,hf8,hd8,hM⟩:=aH hM0;clear hM0
  refine bN (fun n S=> ∃p:List Int×List (List Int),S=(⟨[(3,.own 1),(4,.sl none 1 false (p.1.map (V.int .u8)))],[(1,.own 46 1 false none (p.2.map (fun (l:List Int)=>V.sl none 1 false (l.map (V.int .u8)))))],2⟩:St)∧(((((p.2).length:Int)*36+((p.1).length:Int)≤1048576))∧(isB (p.1)))∧(p.1).length<n∧ah n f8 d8 p=r) (((j.Bytes)).length+1) _ _ (dV 3 46 rfl (by decide)) sbQ sbQ ⟨(j.Bytes,([]:List (List Int))),rfl,⟨by (first|exact omQ|(clear hM;first|(have h9:=bZ (by assumption);exact ap))),by (first|exact fw hw.1.2|exact fw hw.1|exact fw hw.2)⟩,(Nat.lt_succ_self _),hM⟩ ?_
  clear hM
  rintro n8 S ⟨p8,rfl,⟨hfa8,hF5_0⟩,hm8,hM⟩
  have hM0:=hM;clear hM;obtain ⟨ag8,hag8,hM⟩:=aI hM0 (by omega) hf8;clear hM0
  replace hfa8:=cF hfa8
  replace hm8:=cF hm8
  refine spQ ?_
  refine bR (fun h9=> ?_) (fun h9=> ?_)
  ·rw [if_pos h9] at hM
   refine aq h9 ?_
   have nh9:=cF h9
   try have hr10:=mpQ nh9
   refine jL 79 21 [18,19,20,21,22,23,24,25,26,27,28,29,30,31,32,33,34,35,36,37,38] [] ([[],[0],[0,1],[0,1,2],[0,1,2,3],[],[5],[5,6],[5,6,7],[5,6,7,8],[0,1,2,3,4,5,6,7,8,9],[],[11],[11,12],[11,12,13],[11,12,13,14],[0,1,2,3,4,5,6,7,8,9,10,11,12,13,14,15],[],[17],[17,18],[17,18,19]]++[List.range 21,List.range 22]) [] (by kernel_rfl) (by exact alQ) ?_
   refine spQ ?_
   refine c8 (by (first|exact omQ|(clear hM;first|(have h9:=bZ (by assumption);exact ap)))) ?_
   have he11: ∀d,elt (p8.1.map (V.int .u8)) 0 d=(V.int .u8) (gt p8.1 0):=fun d=>cg (l:=p8.1) (f:=(V.int .u8)) (i:=0) (by (first|exact omQ|(clear hM;first|(have h9:=bZ (by assumption);exact ap)))) d
   refine aq he11 ?_
   refine c8 (by (first|exact omQ|(clear hM;first|(have h9:=bZ (by assumption);exact ap)))) ?_
   have he12: ∀d,elt (p8.1.map (V.int .u8)) 1 d=(V.int .u8) (gt p8.1 1):=fun d=>cg (l:=p8.1) (f:=(V.int .u8)) (i:=1) (by (first|exact omQ|(clear hM;first|(have h9:=bZ (by assumption);exact ap)))) d
   refine aq (And.intro he11 he12) ?_
   refine c8 (by (first|exact omQ|(clear hM;first|(have h9:=bZ (by assumption);exact ap)))) ?_
   have he13: ∀d,elt (p8.1.map (V.int .u8)) 2 d=(V.int .u8) (gt p8.1 2):=fun d=>cg (l:=p8.1) (f:=(V.int .u8)) (i:=2) (by (first|exact omQ|(clear hM;first|(have h9:=bZ (by assumption);exact ap)))) d
   refine aq (And.intro he11 (And.intro he12 he13)) ?_
   refine c8 (by (first|exact omQ|(clear hM;first|(have h9:=bZ (by assumption);exact ap)))) ?_
   have he14: ∀d,elt (p8.1.map (V.int .u8)) 3 d=(V.int .u8) (gt p8.1 3):=fun d=>cg (l:=p8.1) (f:=(V.int .u8)) (i:=3) (by (first|exact omQ|(clear hM;first|(have h9:=bZ (by assumption);exact ap)))) d
   refine aq (And.intro he11 (And.intro he12 (And.intro he13 he14))) ?_
   refine fH (fun h15=> ?_) (fun h15=> ?_)
   ·rw [if_neg (bH h15)] at hM
    refine aq (And.intro he11 (And.intro he12 (And.intro he13 (And.intro he14 h15)))) ?_
    have nh15:=cF h15
    try have hr16:=mpQ nh15
    refine bR (fun h17=> ?_) (fun h17=> ?_)
    ·rw [if_pos h17] at hM
     refine aq (And.intro he11 (And.intro he12 (And.intro he13 (And.intro he14 h17)))) ?_
     have nh17:=cF h17
     try have hr18:=mpQ nh17
     subst hM
     exact cI (cK (And.intro he11 (And.intro he12 (And.intro he13 (And.intro he14 (And.intro h5 (And.intro h9 (And.intro h15 h17))))))))
    ·rw [if_neg (bH h17)] at hM
     refine aq (And.intro he11 (And.intro he12 (And.intro he13 (And.intro he14 h17)))) ?_
     have nh17:=cF h17
     try have hr19:=mpQ nh17
     refine bM (by (first|exact omQ|(clear hM;first|(have h9:=bZ (by assumption);exact ap)))) ?_
     refine aq (And.intro he11 (And.intro he12 (And.intro he13 he14))) ?_
     have hM0:=hM;clear hM;obtain ⟨x20,hx21,hM⟩:=aC hM0;clear hM0
     have hcx20:=cmH hx21 (LH (sl p8.1 36 (p8.1.length:Int)) (orI .i64 (orI .i64 (orI .i64 (ao .i64 (ae .i64 (gt p8.1 0)) 24) (ao .i64 (ae .i64 (gt p8.1 1)) 16)) (ao .i64 (ae .i64 (gt p8.1 2)) 8)) (ae .i64 (gt p8.1 3))) (by (have h9:=bZ (l:=p8.1) (by assumption);clear hM;exact ap)) (by (have h9:=bZ (l:=p8.1) (by assumption);clear hM;exact ap)))
     refine bl hcx20 (an (And.intro he11 (And.intro he12 (And.intro he13 he14)))) (an (And.intro he11 (And.intro he12 (And.intro he13 he14)))) (fun hw22=> ?_)
     replace hw22:=cF hw22
     refine aq (And.intro he11 (And.intro he12 (And.intro he13 he14))) ?_
     have hq23:x20.length≤16384:=K0 hx21 (bZ (l:=p8.1) (by assumption)).1 (by have h9:=bZ (l:=p8.1) (by assumption);omega)
     replace hq23:=cF hq23
     have hM0:=hM;clear hM;obtain ⟨x24,hx25,hM⟩:=aC hM0;clear hM0
     have hcx24:=cmH hx25 (LK x20 (by (omega)))
     refine bl hcx24 (an (And.intro he11 (And.intro he12 (And.intro he13 he14)))) (an (And.intro he11 (And.intro he12 (And.intro he13 he14)))) (fun hw26=> ?_)
     replace hw26:=cF hw26
     refine aq (And.intro he11 (And.intro he12 (And.intro he13 he14))) ?_
     have hM0:=hM;clear hM;obtain ⟨f27,d27,hf27,hd27,hM⟩:=aH hM0;clear hM0
     refine bm (fun n S=> ∃p:Int,S=(⟨[(3,.own 1),(4,.sl none 1 false (p8.1.map (V.int .u8))),(5,.int .i64 (orI .i64 (orI .i64 (orI .i64 (ao .i64 (ae .i64 (gt p8.1 0)) 24) (ao .i64 (ae .i64 (gt p8.1 1)) 16)) (ao .i64 (ae .i64 (gt p8.1 2)) 8)) (ae .i64 (gt p8.1 3)))),(6,.sl none 1 false (x20.map (V.int .u8))),(7,.ptr 23 0),(8,.int .i64 p)],[(1,.own 46 1 false none (p8.2.map (fun (l:List Int)=>V.sl none 1 false (l.map (V.int .u8))))),(23,.var 32 true ((bI x24)))],24⟩:St)∧((0≤p)∧(p≤32))∧((32:Int) - p).toNat<n∧ah n f27 d27 p=r) (((32:Int) - 0).toNat+1) _ sbQ sbQ ⟨0,rfl,⟨by (first|exact omQ|(clear hM;first|(have h9:=bZ (by assumption);exact ap))),by (first|exact omQ|(clear hM;first|(have h9:=bZ (by assumption);exact ap)))⟩,(Nat.lt_succ_self _),hM⟩ ?_
     clear hM
     rintro n27 S ⟨p27,rfl,hfa27,hm27,hM⟩
     have hM0:=hM;clear hM;obtain ⟨ag27,hag27,hM⟩:=aI hM0 (by omega) hf27;clear hM0
     replace hfa27:=cF hfa27
     replace hm27:=cF hm27
     have ha27:ak .i64 p27 1=p27+1:=aR (by (first|exact omQ|(clear hM;first|(have h9:=bZ (by assumption);exact ap)))) (by (first|exact omQ|(clear hM;first|(have h9:=bZ (by assumption);exact ap))))
     refine aq (And.intro he11 (And.intro he12 (And.intro he13 (And.intro he14 ha27)))) ?_
     refine bR (fun h28=> ?_) (fun h28=> ?_)
     ·rw [if_pos h28] at hM
      refine aq (And.intro he11 (And.intro he12 (And.intro he13 (And.intro he14 (And.intro ha27 h28))))) ?_
      have nh28:=cF h28
      try have hr29:=mpQ nh28
      refine jL 79 8 [60,61,62,63,64,65,66,67] [] ([[],[],[1],[0,1,2],[0,1,2,3],[],[5],[5,6]]++[List.range 8]) [] (by kernel_rfl) (by exact alQ) ?_
      refine aq (And.intro he11 (And.intro he12 (And.intro he13 (And.intro he14 ha27)))) ?_
      have ha30:ak .i64 4 p27=(4+p27):=eY (by (first|exact omQ|(clear hM;first|(have h9:=bZ (by assumption);exact ap)))) (by (first|exact omQ|(clear hM;first|(have h9:=bZ (by assumption);exact ap))))
      try simp only [ha30]
      refine c8 (by (first|exact omQ|(clear hM;first|(have h9:=bZ (by assumption);exact ap)))) ?_
      have he31:=fun d=>cg (l:=p8.1) (f:=(V.int .u8)) (i:=(4+p27)) (by (first|exact omQ|(clear hM;first|(have h9:=bZ (by assumption);exact ap)))) d
      refine aq (And.intro he11 (And.intro he12 (And.intro he13 (And.intro he14 (And.intro ha27 (And.intro ha30 he31)))))) ?_
      refine c8 (by (first|exact omQ|(clear hM;first|(have h9:=bZ (by assumption);exact ap)))) ?_
      have he32:((p27).toNat*1≤31)=True:=eq_true (by (first|exact omQ|(clear hM;first|(have h9:=bZ (by assumption);exact ap))))
      refine aq (And.intro he11 (And.intro he12 (And.intro he13 (And.intro he14 (And.intro ha27 (And.intro ha30 (And.intro he31 he32))))))) ?_
      have he33:=jg (f:=(V.int .u8)) (l:=x24) (n:=32) (i:=p27) (by (first|exact omQ|(clear hM;first|(have h9:=bZ (by assumption);exact ap))))
      replace he33:=spR he33
      try refine aq (And.intro he11 (And.intro he12 (And.intro he13 (And.intro he14 (And.intro ha27 (And.intro ha30 (And.intro he31 (And.intro he32 he33)))))))) ?_
      refine bR (fun h34=> ?_) (fun h34=> ?_)
      ·rw [if_pos h34] at hM
       refine aq (And.intro he11 (And.intro he12 (And.intro he13 (And.intro he14 (And.intro ha27 (And.intro ha30 (And.intro he31 (And.intro he32 (And.intro he33 h34))))))))) ?_
       have nh34:=cF h34
       try have hr35:=mpQ nh34
       subst hM
       exact cI (cK (And.intro he11 (And.intro he12 (And.intro he13 (And.intro he14 (And.intro ha27 (And.intro ha30 (And.intro he31 (And.intro he32 (And.intro he33 (And.intro h5 (And.intro h9 (And.intro h15 (And.intro h17 (And.intro h28 h34)))))))))))))))
      ·rw [if_neg (bH h34)] at hM
       refine aq (And.intro he11 (And.intro he12 (And.intro he13 (And.intro he14 (And.intro ha27 (And.intro ha30 (And.intro he31 (And.intro he32 (And.intro he33 h34))))))))) ?_
       have nh34:=cF h34
       try have hr36:=mpQ nh34
       refine aO (n27 - 1) _ (by omega) sbQ sbQ ⟨(p27+1),rfl,⟨by (first|exact omQ|(clear hM;first|(have h9:=bZ (by assumption);exact ap))),by (first|exact omQ|(clear hM;first|(have h9:=bZ (by assumption);exact ap)))⟩,by (first|exact omQ|(clear hM;first|(have h9:=bZ (by assumption);exact ap))),aM hM hag27⟩
     ·rw [if_neg (bH h28)] at hM
      refine aq (And.intro he11 (And.intro he12 (And.intro he13 (And.intro he14 (And.intro ha27 h28))))) ?_
      have nh28:=cF h28
      try have hr37:=mpQ nh28
      refine bM (by (first|exact omQ|(clear hM;first|(have h9:=bZ (by assumption);exact ap)))) ?_
      refine aq (And.intro he11 (And.intro he12 (And.intro he13 (And.intro he14 ha27)))) ?_
      refine bM (by (first|exact omQ|(clear hM;first|(have h9:=bZ (by assumption);exact ap)))) ?_
      refine aq (And.intro he11 (And.intro he12 (And.intro he13 (And.intro he14 ha27)))) ?_
      refine aO (n8 - 1) _ (by omega) sbQ sbQ ⟨((sl p8.1 (ak .i64 36 (orI .i64 (orI .i64 (orI .i64 (ao .i64 (ae .i64 (gt p8.1 0)) 24) (ao .i64 (ae .i64 (gt p8.1 1)) 16)) (ao .i64 (ae .i64 (gt p8.1 2)) 8)) (ae .i64 (gt p8.1 3)))) (p8.1.length:Int)),(p8.2++([x20]:List (List Int)))),rfl,⟨by (first|exact omQ|(clear hM;first|(have h9:=bZ (by assumption);exact ap))),by (exact dW (by assumption))⟩,by (have h9:=bZ (l:=p8.1) (by assumption);dsimp only;exact ap),aM hM hag8⟩
   ·rw [if_pos h15] at hM
    refine aq (And.intro he11 (And.intro he12 (And.intro he13 (And.intro he14 h15)))) ?_
    have nh15:=cF h15
    try have hr38:=mpQ nh15
    subst hM
    exact cI (cK (And.intro he11 (And.intro he12 (And.intro he13 (And.intro he14 (And.intro h5 (And.intro h9 h15)))))))
  ·rw [if_neg (bH h9)] at hM
   refine aq h9 ?_
   have nh9:=cF h9
   try have hr39:=mpQ nh9
   subst hM
   exact cI (cK (And.intro h5 h9))
set_option maxHeartbeats 2000000 in
set_option maxRecDepth 100000 in
instance Rx (j:cy):CM En (iG j) 21 [.agg [.sl none 1 false (j.Bytes.map (V.int .u8)),.int .i64 j.Durable,.int .i64 j.After]] (fun y=> .tup [(bL y.1),.bool y.2]) (fun _=> []):=by
 refine enQ noJ Tryz.func21 Tryz.ntmps21 (iG.eq_1 ..) fun r hw=> ?_
 refine aF fun x1 _ _ _=> ?_
 intro hF hM
 have hM0:=hM;clear hM;obtain ⟨f4,d4,hf4,hd4,hM⟩:=aH hM0;clear hM0
 refine bm (fun n S=> ∃p:Int×av,S=(⟨[(2,.ptr 1 0),(4,.sl none 1 false (x1.map (fun (l:List Int)=>V.sl none 1 false (l.map (V.int .u8))))),(5,.int .i64 p.1)],[(1,.var 39 true ((bL p.2)))],2⟩:St)∧((-1≤p.1)∧(p.1<((x1).length:Int)))∧(p.1+1).toNat<n∧ah n f4 d4 p=r) (((az .i64 (x1.length:Int) 1)+1).toNat+1) _ sbQ sbG ⟨((az .i64 (x1.length:Int) 1),aT),rfl,⟨by (first|exact omQ|(clear hM;first|(have h9:(az .i64 (x1.length:Int) 1)=_:=cE ap ap;exact ap))),by (first|exact omQ|(clear hM;first|(have h9:(az .i64 (x1.length:Int) 1)=_:=cE ap ap;exact ap)))⟩,(Nat.lt_succ_self _),hM⟩ ?_
 clear hM
 rintro n4 S ⟨p4,rfl,hfa4,hm4,hM⟩
 have hM0:=hM;clear hM;obtain ⟨ag4,hag4,hM⟩:=aI hM0 (by omega) hf4;clear hM0
 replace hfa4:=nzQ hfa4
 replace hm4:=nzQ hm4
 revert hM;revert hF
 refine slQ ?_
 refine ax fun _ _ _=> ?_
 intro hF hM
 try refine bM (by (first|exact omQ|(clear hM;first|(have h9:p4.1=_:=cE ap ap;exact ap)))) ?_
 have he7:=fun d=>cg (l:=x1) (f:=(fun (l:List Int)=>V.sl none 1 false (l.map (V.int .u8)))) (i:=p4.1) (by (first|exact omQ|(clear hM;first|(have h9:p4.1=_:=cE ap ap;exact ap)))) d
 replace hF:=(And.intro he7 hF)
 revert hM;revert hF
 refine slQ ?_
 refine aF fun _ _ _ _=> ?_
 refine aJ fun _ _ _=> ?_
 intro hF hM
 refine aO (n4 - 1) _ (by omega) sbQ sbQ ⟨((az .i64 p4.1 1),p4.2),rfl,⟨by (first|exact omQ|(clear hM;first|(have h9:(az .i64 p4.1 1)=_:=cE ap ap;exact ap))),by (first|exact omQ|(clear hM;first|(have h9:(az .i64 p4.1 1)=_:=cE ap ap;exact ap)))⟩,by (first|exact omQ|(clear hM;first|(have h9:(az .i64 p4.1 1)=_:=cE ap ap;exact ap))),aM hM hag4⟩
set_option maxHeartbeats 2000000 in
set_option maxRecDepth 100000 in
instance LL (p_:av) (x_:(List Int)) (j:cy):CM En (tl p_ x_ j) 4 [(bL p_),.sl none 1 false (x_.map (V.int .u8)),.agg [.sl none 1 false (j.Bytes.map (V.int .u8)),.int .i64 j.Durable,.int .i64 j.After]] (fun y=> .bool y) (fun _=> []):=by
 refine enQ noJ Tryz.func4 Tryz.ntmps4 (tl.eq_1 ..) fun r hw=> ?_
 refine aF fun _ _ _ _=> ?_
 refine aJ fun _ _ _=> ?_
 refine aF fun _ _ _ _=> ?_
 refine ax fun _ _ _=> ?_
 refine ax fun _ _ _=> ?_
 refine aJ fun _ _ _=> ?_
 intro hF hM
 have hM0:=hM;clear hM;obtain ⟨x16,hx17,hM⟩:=aC hM0;clear hM0
 have hcx16:=cmH hx17 (Lp p_ (by (exact CL (by assumption) (by assumption))))
 refine bl hcx16 clQ clQ (fun hw18=> ?_)
 replace hw18:=nzQ hw18
 revert hM;revert hF
 refine slQ ?_
 intro hF hM
 have hM0:=hM;clear hM;obtain ⟨x19,hx20,hM⟩:=aC hM0;clear hM0
 have hcx19:=cmH hx20 (LA p_ (by (exact CL (by assumption) (by assumption))))
 refine bl hcx19 clQ clQ (fun hw21=> ?_)
 replace hw21:=nzQ hw21
 exact auP
end Go.Proofs.YtiknkaadhomeiaaGreatDoor
