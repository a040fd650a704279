/- Texts of this proof, one after the other: HA, U6, LA. -/
import Derived.Test.YtcbbjfckokckcaaGreatDoorZ13
import Derived.Test.YtcbbjfckokckcaaGreatDoorZ11
import Derived.Test.YtcbbjfckokckcaaGreatDoorZ7
set_option linter.unusedVariables false
set_option linter.unusedSimpArgs false
namespace Go.Proofs.YtcbbjfckokckcaaGreatDoor
open Go.RowKit
theorem J0 {p:bR} {x:List aO} (h:false=jX p) (hx:x=rA p.Spends):x.length≤60∧p.Chains.length≤10:=by
 have hs:=oI h
 rw [hx]
 exact ⟨hs.s.1,hs.c.1⟩
end Go.Proofs.YtcbbjfckokckcaaGreatDoor
namespace Go.Proofs.YtcbbjfckokckcaaGreatDoor
open Go.RowKit
set_option linter.unusedSimpArgs false
set_option maxHeartbeats 2000000 in
set_option maxRecDepth 100000 in
theorem J1 (b:a8) (l:(List bu)) (y:Int) (v:bO) (p_:bR) (hp0:gI p_) (hp1:l.length≤100):CM En (iA b l y v p_) 11 [(bS b),.sl none 11 true (l.map bJ),.int .i64 y,(cA v),.agg [.int .i64 p_.Number,.sl none 80 true (p_.Spends.map aT),.sl none 81 true (p_.Chains.map bv),.sl none 5 true (p_.Escrow.map bG)]] (fun y=> .tup [.int .i64 y.1,.int .i64 y.2]) (fun _=> []):=by
 refine cmQ fun r hM=> ?_
 rw [iA.eq_1] at hM
 refine av al ar [2] Tryz.func11 rfl Tryz.ntmps11 (by kernel_rfl) fun hw=>au ?_
 refine spQ ?_
 replace hw:=nzQ hw
 refine gy ?_
 try refine spQ ?_
 refine g8 _ (⟨[(8,.pp 35 true ((cA v))),(9,.pp 4 true (.agg [.int .i64 p_.Number,.sl none 80 true (p_.Spends.map aT),.sl none 81 true (p_.Chains.map bv),.sl none 5 true (p_.Escrow.map bG)])),(12,.pp 47 true (.agg (.int .i64 b.Group.P:: .int .i64 b.Group.Q:: .int .i64 b.Group.G:: .int .i64 b.G1:: .int .i64 b.G2:: .int .i64 b.H:: .sl none 11 true (l.map bJ):: .int .i64 y:: .int .u8 (gt v.Payee 0):: .int .u8 (gt v.Payee 1):: .int .u8 (gt v.Payee 2):: .int .u8 (gt v.Payee 3):: .int .u8 (gt v.Payee 4):: .int .u8 (gt v.Payee 5):: .int .u8 (gt v.Payee 6):: .int .u8 (gt v.Payee 7):: .int .u8 (gt v.Payee 8):: .int .u8 (gt v.Payee 9):: .int .u8 (gt v.Payee 10):: .int .u8 (gt v.Payee 11):: .int .u8 (gt v.Payee 12):: .int .u8 (gt v.Payee 13):: .int .u8 (gt v.Payee 14):: .int .u8 (gt v.Payee 15):: .int .u8 (gt v.Payee 16):: .int .u8 (gt v.Payee 17):: .int .u8 (gt v.Payee 18):: .int .u8 (gt v.Payee 19):: .int .u8 (gt v.Payee 20):: .int .u8 (gt v.Payee 21):: .int .u8 (gt v.Payee 22):: .int .u8 (gt v.Payee 23):: .int .u8 (gt v.Payee 24):: .int .u8 (gt v.Payee 25):: .int .u8 (gt v.Payee 26):: .int .u8 (gt v.Payee 27):: .int .u8 (gt v.Payee 28):: .int .u8 (gt v.Payee 29):: .int .u8 (gt v.Payee 30):: .int .u8 (gt v.Payee 31):: .int .i64 v.Amount:: .int .i64 v.Time:: .int .i64 v.Number:: .int .i64 p_.Number:: .sl none 80 true (p_.Spends.map aT):: .sl none 81 true (p_.Chains.map bv):: .sl none 5 true (p_.Escrow.map bG)::[])))],[(1,.pvar 35 true ((cA v))),(2,.pvar 4 true (.agg [.int .i64 p_.Number,.sl none 80 true (p_.Spends.map aT),.sl none 81 true (p_.Chains.map bv),.sl none 5 true (p_.Escrow.map bG)])),(3,.pvar 47 true (.agg (.int .i64 b.Group.P:: .int .i64 b.Group.Q:: .int .i64 b.Group.G:: .int .i64 b.G1:: .int .i64 b.G2:: .int .i64 b.H:: .sl none 11 true (l.map bJ):: .int .i64 y:: .int .u8 (gt v.Payee 0):: .int .u8 (gt v.Payee 1):: .int .u8 (gt v.Payee 2):: .int .u8 (gt v.Payee 3):: .int .u8 (gt v.Payee 4):: .int .u8 (gt v.Payee 5):: .int .u8 (gt v.Payee 6):: .int .u8 (gt v.Payee 7):: .int .u8 (gt v.Payee 8):: .int .u8 (gt v.Payee 9):: .int .u8 (gt v.Payee 10):: .int .u8 (gt v.Payee 11):: .int .u8 (gt v.Payee 12):: .int .u8 (gt v.Payee 13):: .int .u8 (gt v.Payee 14):: .int .u8 (gt v.Payee 15):: .int .u8 (gt v.Payee 16):: .int .u8 (gt v.Payee 17):: .int .u8 (gt v.Payee 18):: .int .u8 (gt v.Payee 19):: .int .u8 (gt v.Payee 20):: .int .u8 (gt v.Payee 21):: .int .u8 (gt v.Payee 22):: .int .u8 (gt v.Payee 23):: .int .u8 (gt v.Payee 24):: .int .u8 (gt v.Payee 25):: .int .u8 (gt v.Payee 26):: .int .u8 (gt v.Payee 27):: .int .u8 (gt v.Payee 28):: .int .u8 (gt v.Payee 29):: .int .u8 (gt v.Payee 30):: .int .u8 (gt v.Payee 31):: .int .i64 v.Amount:: .int .i64 v.Time:: .int .i64 v.Number:: .int .i64 p_.Number:: .sl none 80 true (p_.Spends.map aT):: .sl none 81 true (p_.Chains.map bv):: .sl none 5 true (p_.Escrow.map bG)::[])))],4⟩:St) ((((g7 (S:=⟨_,_,_⟩) 1 (n:=35) (g:=true) (d:=(cA v)) clQ clQ).trans (wN (S:=⟨_,_,_⟩) 8 1 (n:=35) (g:=true) (d:=(cA v)) clQ clQ)).trans ((g7 (S:=⟨_,_,_⟩) 2 (n:=4) (g:=true) (d:= .agg [.int .i64 p_.Number,.sl none 80 true (p_.Spends.map aT),.sl none 81 true (p_.Chains.map bv),.sl none 5 true (p_.Escrow.map bG)]) clQ clQ).trans (wN (S:=⟨_,_,_⟩) 9 2 (n:=4) (g:=true) (d:= .agg [.int .i64 p_.Number,.sl none 80 true (p_.Spends.map aT),.sl none 81 true (p_.Chains.map bv),.sl none 5 true (p_.Escrow.map bG)]) clQ clQ))).trans ((g7 (S:=⟨_,_,_⟩) 3 (n:=47) (g:=true) (d:= .agg (.int .i64 b.Group.P:: .int .i64 b.Group.Q:: .int .i64 b.Group.G:: .int .i64 b.G1:: .int .i64 b.G2:: .int .i64 b.H:: .sl none 11 true (l.map bJ):: .int .i64 y:: .int .u8 (gt v.Payee 0):: .int .u8 (gt v.Payee 1):: .int .u8 (gt v.Payee 2):: .int .u8 (gt v.Payee 3):: .int .u8 (gt v.Payee 4):: .int .u8 (gt v.Payee 5):: .int .u8 (gt v.Payee 6):: .int .u8 (gt v.Payee 7):: .int .u8 (gt v.Payee 8):: .int .u8 (gt v.Payee 9):: .int .u8 (gt v.Payee 10):: .int .u8 (gt v.Payee 11):: .int .u8 (gt v.Payee 12):: .int .u8 (gt v.Payee 13):: .int .u8 (gt v.Payee 14):: .int .u8 (gt v.Payee 15):: .int .u8 (gt v.Payee 16):: .int .u8 (gt v.Payee 17):: .int .u8 (gt v.Payee 18):: .int .u8 (gt v.Payee 19):: .int .u8 (gt v.Payee 20):: .int .u8 (gt v.Payee 21):: .int .u8 (gt v.Payee 22):: .int .u8 (gt v.Payee 23):: .int .u8 (gt v.Payee 24):: .int .u8 (gt v.Payee 25):: .int .u8 (gt v.Payee 26):: .int .u8 (gt v.Payee 27):: .int .u8 (gt v.Payee 28):: .int .u8 (gt v.Payee 29):: .int .u8 (gt v.Payee 30):: .int .u8 (gt v.Payee 31):: .int .i64 v.Amount:: .int .i64 v.Time:: .int .i64 v.Number:: .int .i64 p_.Number:: .sl none 80 true (p_.Spends.map aT):: .sl none 81 true (p_.Chains.map bv):: .sl none 5 true (p_.Escrow.map bG)::[])) clQ clQ).trans (wN (S:=⟨_,_,_⟩) 12 3 (n:=47) (g:=true) (d:= .agg (.int .i64 b.Group.P:: .int .i64 b.Group.Q:: .int .i64 b.Group.G:: .int .i64 b.G1:: .int .i64 b.G2:: .int .i64 b.H:: .sl none 11 true (l.map bJ):: .int .i64 y:: .int .u8 (gt v.Payee 0):: .int .u8 (gt v.Payee 1):: .int .u8 (gt v.Payee 2):: .int .u8 (gt v.Payee 3):: .int .u8 (gt v.Payee 4):: .int .u8 (gt v.Payee 5):: .int .u8 (gt v.Payee 6):: .int .u8 (gt v.Payee 7):: .int .u8 (gt v.Payee 8):: .int .u8 (gt v.Payee 9):: .int .u8 (gt v.Payee 10):: .int .u8 (gt v.Payee 11):: .int .u8 (gt v.Payee 12):: .int .u8 (gt v.Payee 13):: .int .u8 (gt v.Payee 14):: .int .u8 (gt v.Payee 15):: .int .u8 (gt v.Payee 16):: .int .u8 (gt v.Payee 17):: .int .u8 (gt v.Payee 18):: .int .u8 (gt v.Payee 19):: .int .u8 (gt v.Payee 20):: .int .u8 (gt v.Payee 21):: .int .u8 (gt v.Payee 22):: .int .u8 (gt v.Payee 23):: .int .u8 (gt v.Payee 24):: .int .u8 (gt v.Payee 25):: .int .u8 (gt v.Payee 26):: .int .u8 (gt v.Payee 27):: .int .u8 (gt v.Payee 28):: .int .u8 (gt v.Payee 29):: .int .u8 (gt v.Payee 30):: .int .u8 (gt v.Payee 31):: .int .i64 v.Amount:: .int .i64 v.Time:: .int .i64 v.Number:: .int .i64 p_.Number:: .sl none 80 true (p_.Spends.map aT):: .sl none 81 true (p_.Chains.map bv):: .sl none 5 true (p_.Escrow.map bG)::[])) clQ clQ))) sbQ sbQ ?_
 try refine spQ ?_
 refine bN 65 26 [23,24,25,26,27,28,29,30,31,32,33,34,35,36,37,38,39,40,41,42,43,44,45,46,47,48] [] ([[],[0],[0,1],[],[0,1,2,3],[],[0,1,2,3,4,5],[],[7],[0,1,2,3,4,5,6,7,8],[],[10],[0,1,2,3,4,5,6,7,8,9,10,11],[],[13],[0,1,2,3,4,5,6,7,8,9,10,11,12,13,14],[],[16],[0,1,2,3,4,5,6,7,8,9,10,11,12,13,14,15,16,17],[],[19],[0,1,2,3,4,5,6,7,8,9,10,11,12,13,14,15,16,17,18,19,20],[],[22],[0,1,2,3,4,5,6,7,8,9,10,11,12,13,14,15,16,17,18,19,20,21,22,23],[]]++[List.range 26,List.range 27,List.range 28]) [] (by kernel_rfl) (by exact alQ) ?_
 refine spQ ?_
 refine bp (iD (x:= .opq (dA 44 [.agg (.int .i64 b.Group.P:: .int .i64 b.Group.Q:: .int .i64 b.Group.G:: .int .i64 b.G1:: .int .i64 b.G2:: .int .i64 b.H:: .sl none 11 true (l.map bJ):: .int .i64 y:: .int .u8 (gt v.Payee 0):: .int .u8 (gt v.Payee 1):: .int .u8 (gt v.Payee 2):: .int .u8 (gt v.Payee 3):: .int .u8 (gt v.Payee 4):: .int .u8 (gt v.Payee 5):: .int .u8 (gt v.Payee 6):: .int .u8 (gt v.Payee 7):: .int .u8 (gt v.Payee 8):: .int .u8 (gt v.Payee 9):: .int .u8 (gt v.Payee 10):: .int .u8 (gt v.Payee 11):: .int .u8 (gt v.Payee 12):: .int .u8 (gt v.Payee 13):: .int .u8 (gt v.Payee 14):: .int .u8 (gt v.Payee 15):: .int .u8 (gt v.Payee 16):: .int .u8 (gt v.Payee 17):: .int .u8 (gt v.Payee 18):: .int .u8 (gt v.Payee 19):: .int .u8 (gt v.Payee 20):: .int .u8 (gt v.Payee 21):: .int .u8 (gt v.Payee 22):: .int .u8 (gt v.Payee 23):: .int .u8 (gt v.Payee 24):: .int .u8 (gt v.Payee 25):: .int .u8 (gt v.Payee 26):: .int .u8 (gt v.Payee 27):: .int .u8 (gt v.Payee 28):: .int .u8 (gt v.Payee 29):: .int .u8 (gt v.Payee 30):: .int .u8 (gt v.Payee 31):: .int .i64 v.Amount:: .int .i64 v.Time:: .int .i64 v.Number:: .int .i64 p_.Number:: .sl none 80 true (p_.Spends.map aT):: .sl none 81 true (p_.Chains.map bv):: .sl none 5 true (p_.Escrow.map bG)::[])])) lD 1) clQ clQ ?_
 refine spQ ?_
 refine bp (iD (x:= .fn 45 [.pp 4 true (.agg [.int .i64 p_.Number,.sl none 80 true (p_.Spends.map aT),.sl none 81 true (p_.Chains.map bv),.sl none 5 true (p_.Escrow.map bG)])]) wO 5) clQ clQ ?_
 refine spQ ?_
 refine bp (iD (x:= .fn 47 [.pp 4 true (.agg [.int .i64 p_.Number,.sl none 80 true (p_.Spends.map aT),.sl none 81 true (p_.Chains.map bv),.sl none 5 true (p_.Escrow.map bG)]),.pp 35 true ((cA v))]) wO 14) clQ clQ ?_
 refine spQ ?_
 refine bp (iD (x:= .opq (dA 48 [.agg (.int .i64 b.Group.P:: .int .i64 b.Group.Q:: .int .i64 b.Group.G:: .int .i64 b.G1:: .int .i64 b.G2:: .int .i64 b.H:: .sl none 11 true (l.map bJ):: .int .i64 y:: .int .u8 (gt v.Payee 0):: .int .u8 (gt v.Payee 1):: .int .u8 (gt v.Payee 2):: .int .u8 (gt v.Payee 3):: .int .u8 (gt v.Payee 4):: .int .u8 (gt v.Payee 5):: .int .u8 (gt v.Payee 6):: .int .u8 (gt v.Payee 7):: .int .u8 (gt v.Payee 8):: .int .u8 (gt v.Payee 9):: .int .u8 (gt v.Payee 10):: .int .u8 (gt v.Payee 11):: .int .u8 (gt v.Payee 12):: .int .u8 (gt v.Payee 13):: .int .u8 (gt v.Payee 14):: .int .u8 (gt v.Payee 15):: .int .u8 (gt v.Payee 16):: .int .u8 (gt v.Payee 17):: .int .u8 (gt v.Payee 18):: .int .u8 (gt v.Payee 19):: .int .u8 (gt v.Payee 20):: .int .u8 (gt v.Payee 21):: .int .u8 (gt v.Payee 22):: .int .u8 (gt v.Payee 23):: .int .u8 (gt v.Payee 24):: .int .u8 (gt v.Payee 25):: .int .u8 (gt v.Payee 26):: .int .u8 (gt v.Payee 27):: .int .u8 (gt v.Payee 28):: .int .u8 (gt v.Payee 29):: .int .u8 (gt v.Payee 30):: .int .u8 (gt v.Payee 31):: .int .i64 v.Amount:: .int .i64 v.Time:: .int .i64 v.Number:: .int .i64 p_.Number:: .sl none 80 true (p_.Spends.map aT):: .sl none 81 true (p_.Chains.map bv):: .sl none 5 true (p_.Escrow.map bG)::[])])) lD 18) clQ clQ ?_
 refine spQ ?_
 refine bp (iD (x:= .opq (dA 49 [.agg (.int .i64 b.Group.P:: .int .i64 b.Group.Q:: .int .i64 b.Group.G:: .int .i64 b.G1:: .int .i64 b.G2:: .int .i64 b.H:: .sl none 11 true (l.map bJ):: .int .i64 y:: .int .u8 (gt v.Payee 0):: .int .u8 (gt v.Payee 1):: .int .u8 (gt v.Payee 2):: .int .u8 (gt v.Payee 3):: .int .u8 (gt v.Payee 4):: .int .u8 (gt v.Payee 5):: .int .u8 (gt v.Payee 6):: .int .u8 (gt v.Payee 7):: .int .u8 (gt v.Payee 8):: .int .u8 (gt v.Payee 9):: .int .u8 (gt v.Payee 10):: .int .u8 (gt v.Payee 11):: .int .u8 (gt v.Payee 12):: .int .u8 (gt v.Payee 13):: .int .u8 (gt v.Payee 14):: .int .u8 (gt v.Payee 15):: .int .u8 (gt v.Payee 16):: .int .u8 (gt v.Payee 17):: .int .u8 (gt v.Payee 18):: .int .u8 (gt v.Payee 19):: .int .u8 (gt v.Payee 20):: .int .u8 (gt v.Payee 21):: .int .u8 (gt v.Payee 22):: .int .u8 (gt v.Payee 23):: .int .u8 (gt v.Payee 24):: .int .u8 (gt v.Payee 25):: .int .u8 (gt v.Payee 26):: .int .u8 (gt v.Payee 27):: .int .u8 (gt v.Payee 28):: .int .u8 (gt v.Payee 29):: .int .u8 (gt v.Payee 30):: .int .u8 (gt v.Payee 31):: .int .i64 v.Amount:: .int .i64 v.Time:: .int .i64 v.Number:: .int .i64 p_.Number:: .sl none 80 true (p_.Spends.map aT):: .sl none 81 true (p_.Chains.map bv):: .sl none 5 true (p_.Escrow.map bG)::[])])) lD 11) clQ clQ ?_
 refine spQ ?_
 refine bp (iD (x:= .opq (dA 50 [.agg (.int .i64 b.Group.P:: .int .i64 b.Group.Q:: .int .i64 b.Group.G:: .int .i64 b.G1:: .int .i64 b.G2:: .int .i64 b.H:: .sl none 11 true (l.map bJ):: .int .i64 y:: .int .u8 (gt v.Payee 0):: .int .u8 (gt v.Payee 1):: .int .u8 (gt v.Payee 2):: .int .u8 (gt v.Payee 3):: .int .u8 (gt v.Payee 4):: .int .u8 (gt v.Payee 5):: .int .u8 (gt v.Payee 6):: .int .u8 (gt v.Payee 7):: .int .u8 (gt v.Payee 8):: .int .u8 (gt v.Payee 9):: .int .u8 (gt v.Payee 10):: .int .u8 (gt v.Payee 11):: .int .u8 (gt v.Payee 12):: .int .u8 (gt v.Payee 13):: .int .u8 (gt v.Payee 14):: .int .u8 (gt v.Payee 15):: .int .u8 (gt v.Payee 16):: .int .u8 (gt v.Payee 17):: .int .u8 (gt v.Payee 18):: .int .u8 (gt v.Payee 19):: .int .u8 (gt v.Payee 20):: .int .u8 (gt v.Payee 21):: .int .u8 (gt v.Payee 22):: .int .u8 (gt v.Payee 23):: .int .u8 (gt v.Payee 24):: .int .u8 (gt v.Payee 25):: .int .u8 (gt v.Payee 26):: .int .u8 (gt v.Payee 27):: .int .u8 (gt v.Payee 28):: .int .u8 (gt v.Payee 29):: .int .u8 (gt v.Payee 30):: .int .u8 (gt v.Payee 31):: .int .i64 v.Amount:: .int .i64 v.Time:: .int .i64 v.Number:: .int .i64 p_.Number:: .sl none 80 true (p_.Spends.map aT):: .sl none 81 true (p_.Chains.map bv):: .sl none 5 true (p_.Escrow.map bG)::[])])) lD 16) clQ clQ ?_
 refine spQ ?_
 refine bp (iD (x:= .opq (dA 51 [.agg (.int .i64 b.Group.P:: .int .i64 b.Group.Q:: .int .i64 b.Group.G:: .int .i64 b.G1:: .int .i64 b.G2:: .int .i64 b.H:: .sl none 11 true (l.map bJ):: .int .i64 y:: .int .u8 (gt v.Payee 0):: .int .u8 (gt v.Payee 1):: .int .u8 (gt v.Payee 2):: .int .u8 (gt v.Payee 3):: .int .u8 (gt v.Payee 4):: .int .u8 (gt v.Payee 5):: .int .u8 (gt v.Payee 6):: .int .u8 (gt v.Payee 7):: .int .u8 (gt v.Payee 8):: .int .u8 (gt v.Payee 9):: .int .u8 (gt v.Payee 10):: .int .u8 (gt v.Payee 11):: .int .u8 (gt v.Payee 12):: .int .u8 (gt v.Payee 13):: .int .u8 (gt v.Payee 14):: .int .u8 (gt v.Payee 15):: .int .u8 (gt v.Payee 16):: .int .u8 (gt v.Payee 17):: .int .u8 (gt v.Payee 18):: .int .u8 (gt v.Payee 19):: .int .u8 (gt v.Payee 20):: .int .u8 (gt v.Payee 21):: .int .u8 (gt v.Payee 22):: .int .u8 (gt v.Payee 23):: .int .u8 (gt v.Payee 24):: .int .u8 (gt v.Payee 25):: .int .u8 (gt v.Payee 26):: .int .u8 (gt v.Payee 27):: .int .u8 (gt v.Payee 28):: .int .u8 (gt v.Payee 29):: .int .u8 (gt v.Payee 30):: .int .u8 (gt v.Payee 31):: .int .i64 v.Amount:: .int .i64 v.Time:: .int .i64 v.Number:: .int .i64 p_.Number:: .sl none 80 true (p_.Spends.map aT):: .sl none 81 true (p_.Chains.map bv):: .sl none 5 true (p_.Escrow.map bG)::[])])) lD 15) clQ clQ ?_
 refine spQ ?_
 refine bp (iD (x:= .opq (dA 52 [.agg (.int .i64 b.Group.P:: .int .i64 b.Group.Q:: .int .i64 b.Group.G:: .int .i64 b.G1:: .int .i64 b.G2:: .int .i64 b.H:: .sl none 11 true (l.map bJ):: .int .i64 y:: .int .u8 (gt v.Payee 0):: .int .u8 (gt v.Payee 1):: .int .u8 (gt v.Payee 2):: .int .u8 (gt v.Payee 3):: .int .u8 (gt v.Payee 4):: .int .u8 (gt v.Payee 5):: .int .u8 (gt v.Payee 6):: .int .u8 (gt v.Payee 7):: .int .u8 (gt v.Payee 8):: .int .u8 (gt v.Payee 9):: .int .u8 (gt v.Payee 10):: .int .u8 (gt v.Payee 11):: .int .u8 (gt v.Payee 12):: .int .u8 (gt v.Payee 13):: .int .u8 (gt v.Payee 14):: .int .u8 (gt v.Payee 15):: .int .u8 (gt v.Payee 16):: .int .u8 (gt v.Payee 17):: .int .u8 (gt v.Payee 18):: .int .u8 (gt v.Payee 19):: .int .u8 (gt v.Payee 20):: .int .u8 (gt v.Payee 21):: .int .u8 (gt v.Payee 22):: .int .u8 (gt v.Payee 23):: .int .u8 (gt v.Payee 24):: .int .u8 (gt v.Payee 25):: .int .u8 (gt v.Payee 26):: .int .u8 (gt v.Payee 27):: .int .u8 (gt v.Payee 28):: .int .u8 (gt v.Payee 29):: .int .u8 (gt v.Payee 30):: .int .u8 (gt v.Payee 31):: .int .i64 v.Amount:: .int .i64 v.Time:: .int .i64 v.Number:: .int .i64 p_.Number:: .sl none 80 true (p_.Spends.map aT):: .sl none 81 true (p_.Chains.map bv):: .sl none 5 true (p_.Escrow.map bG)::[])])) lD 8) clQ clQ ?_
 refine spQ ?_
 refine bp (iD (x:= .opq (dA 53 [.agg (.int .i64 b.Group.P:: .int .i64 b.Group.Q:: .int .i64 b.Group.G:: .int .i64 b.G1:: .int .i64 b.G2:: .int .i64 b.H:: .sl none 11 true (l.map bJ):: .int .i64 y:: .int .u8 (gt v.Payee 0):: .int .u8 (gt v.Payee 1):: .int .u8 (gt v.Payee 2):: .int .u8 (gt v.Payee 3):: .int .u8 (gt v.Payee 4):: .int .u8 (gt v.Payee 5):: .int .u8 (gt v.Payee 6):: .int .u8 (gt v.Payee 7):: .int .u8 (gt v.Payee 8):: .int .u8 (gt v.Payee 9):: .int .u8 (gt v.Payee 10):: .int .u8 (gt v.Payee 11):: .int .u8 (gt v.Payee 12):: .int .u8 (gt v.Payee 13):: .int .u8 (gt v.Payee 14):: .int .u8 (gt v.Payee 15):: .int .u8 (gt v.Payee 16):: .int .u8 (gt v.Payee 17):: .int .u8 (gt v.Payee 18):: .int .u8 (gt v.Payee 19):: .int .u8 (gt v.Payee 20):: .int .u8 (gt v.Payee 21):: .int .u8 (gt v.Payee 22):: .int .u8 (gt v.Payee 23):: .int .u8 (gt v.Payee 24):: .int .u8 (gt v.Payee 25):: .int .u8 (gt v.Payee 26):: .int .u8 (gt v.Payee 27):: .int .u8 (gt v.Payee 28):: .int .u8 (gt v.Payee 29):: .int .u8 (gt v.Payee 30):: .int .u8 (gt v.Payee 31):: .int .i64 v.Amount:: .int .i64 v.Time:: .int .i64 v.Number:: .int .i64 p_.Number:: .sl none 80 true (p_.Spends.map aT):: .sl none 81 true (p_.Chains.map bv):: .sl none 5 true (p_.Escrow.map bG)::[])])) lD 12) clQ clQ ?_
 refine spQ ?_
 refine aH (iD (x:= .fn 54 [.pp 47 true (.agg (.int .i64 b.Group.P:: .int .i64 b.Group.Q:: .int .i64 b.Group.G:: .int .i64 b.G1:: .int .i64 b.G2:: .int .i64 b.H:: .sl none 11 true (l.map bJ):: .int .i64 y:: .int .u8 (gt v.Payee 0):: .int .u8 (gt v.Payee 1):: .int .u8 (gt v.Payee 2):: .int .u8 (gt v.Payee 3):: .int .u8 (gt v.Payee 4):: .int .u8 (gt v.Payee 5):: .int .u8 (gt v.Payee 6):: .int .u8 (gt v.Payee 7):: .int .u8 (gt v.Payee 8):: .int .u8 (gt v.Payee 9):: .int .u8 (gt v.Payee 10):: .int .u8 (gt v.Payee 11):: .int .u8 (gt v.Payee 12):: .int .u8 (gt v.Payee 13):: .int .u8 (gt v.Payee 14):: .int .u8 (gt v.Payee 15):: .int .u8 (gt v.Payee 16):: .int .u8 (gt v.Payee 17):: .int .u8 (gt v.Payee 18):: .int .u8 (gt v.Payee 19):: .int .u8 (gt v.Payee 20):: .int .u8 (gt v.Payee 21):: .int .u8 (gt v.Payee 22):: .int .u8 (gt v.Payee 23):: .int .u8 (gt v.Payee 24):: .int .u8 (gt v.Payee 25):: .int .u8 (gt v.Payee 26):: .int .u8 (gt v.Payee 27):: .int .u8 (gt v.Payee 28):: .int .u8 (gt v.Payee 29):: .int .u8 (gt v.Payee 30):: .int .u8 (gt v.Payee 31):: .int .i64 v.Amount:: .int .i64 v.Time:: .int .i64 v.Number:: .int .i64 p_.Number:: .sl none 80 true (p_.Spends.map aT):: .sl none 81 true (p_.Chains.map bv):: .sl none 5 true (p_.Escrow.map bG)::[])),.pp 35 true ((cA v))]) wO 17) clQ clQ (fun hw1=> ?_)
 refine spQ ?_
 refine a6 (fun n S=> ∃k:Nat,k≤10∧n=11 - k∧S=(⟨[(8,.pp 35 true ((cA v))),(51,.own 30),(52,.int .i64 10),(53,.int .i64 (k:Int))],[(30,.own 116 1 false (some false) ((ckl b l y v p_).map eCk))],31⟩:St)∧iz (((ckl b l y v p_).map fun x=>(x.ok,x.e)).drop k) v.Amount=r) 11 _ (ckQ) (ckQ) ⟨0,by omega,rfl,rfl,hM⟩ ?_
 clear hM
 rintro n S ⟨k,hk,rfl,rfl,hM⟩
 refine spQ ?_
 have hn:=JW b l y v p_
 refine aB (fun h1=> ?_) (fun h1=> ?_)
 ·have hk1:k<10:=by have:=nzQ h1;omega
  refine aa h1 ?_
  refine aP (by (try rw [List.length_map]);omega) ?_
  have he: ∀d,elt ((ckl b l y v p_).map eCk) k d=eCk (gt (ckl b l y v p_) k):=fun d=>bE (i:=(k:Int)) (by rw [hn];omega) d
  refine aa he ?_
  refine aP (by omega) ?_
  refine spQ ?_
  have hck:=JY (b:=b) (y:=y) (v:=v) hp0 hp1 hk1
  refine aH hck clQ clQ (fun hw2=> ?_)
  refine spQ ?_
  have hd:(((ckl b l y v p_).map fun x=>(x.ok,x.e)).drop k)=((gt (ckl b l y v p_) k).ok,(gt (ckl b l y v p_) k).e)::(((ckl b l y v p_).map fun x=>(x.ok,x.e)).drop (k+1)):=JZ (by rw [hn];omega)
  have hz:=JX b l y v p_ hk1
  rw [hd] at hM
  cases hok:(gt (ckl b l y v p_) k).ok with
  | true=>
   rw [hok] at hM
   simp only [iz] at hM
   have ha:ax .i64 (k:Int) 1=((k+1:Nat):Int):=by rw [aZ (by omega) (by omega)];rfl
   refine aa (And.intro hok ha) ?_
   refine aB (fun h2=>absurd h2 (by decide)) (fun h2=> ?_)
   refine aa (And.intro hok ha) ?_
   refine ⟨11 - (k+1),by omega,_,?_,k+1,by omega,rfl,rfl,hM⟩
   exact gX ckQ ckQ
  | false=>
   rw [hok] at hM
   refine aB (fun h2=> ?_) (fun h2=> ?_)
   ·refine spQ ?_
    simp only [iz] at hM
    subst hM
    exact aw lfQ
   ·exact absurd h2 (by simp [hok,hz])
 ·have hk1:k=10:=by have:=nzQ h1;omega
  subst hk1
  rw [List.drop_eq_nil_of_le (by rw [List.length_map,hn];decide)] at hM
  refine aa h1 ?_
  simp only [iz] at hM
  subst hM
  exact aw lfQ
set_option maxRecDepth 100000 in
theorem J2 (z0:Option Bool) (s:List aO):bk En 12 [.sl z0 80 true (s.map aT)] (.own 0) [.own 56 80 true none ((rA s).map aT)]:=by
 show bk En 12 [.sl z0 80 true (s.map aT)] (.own 0) [.own 56 80 true none (s.map aT)]
 refine uB (pre:=[]) (post:=[]) (fun hl=> ?_) ?_ z0
 ·have hl:s=[]:=by cases s with|nil=>rfl|cons a s=>cases hl
  subst hl
  refine av al ar noJ Tryz.func12 rfl Tryz.ntmps12 (by kernel_rfl) fun hw=>au ?_
  simp only [go_sem,aE,aF,List.length_replicate,aD,Int.toNat_natCast,↓reduceIte,Nat.reduceEqDiff,Nat.reduceAdd,Int.reduceAdd,Nat.reduceMul,Nat.reduceLeDiff,Nat.reduceLT,Int.reduceLE,Int.reduceLT,Int.reduceNeg,Int.reduceToNat,List.nil_append]
  exact uA (by decide)
 ·refine av al ar noJ Tryz.func12 rfl Tryz.ntmps12 (by kernel_rfl) fun hw=>au ?_
  simp only [go_sem,aE,aF,List.length_replicate,aD,Int.toNat_natCast,↓reduceIte,Nat.reduceEqDiff,Nat.reduceAdd,Int.reduceAdd,Nat.reduceMul,Nat.reduceLeDiff,Nat.reduceLT,Int.reduceLE,Int.reduceLT,Int.reduceNeg,Int.reduceToNat,List.nil_append]
  have hn:s.length≤1073741824:=by have h:=hw;simp only [wfL,wfV,List.nil_append,dF,List.length_map] at h;exact h.1.1
  refine aP (by first|omega|(simp only [List.length_map,List.length_nil,List.nil_append];omega)) ?_
  refine spQ ?_
  refine uz 0 rfl clQ
set_option maxHeartbeats 2000000 in
set_option maxRecDepth 100000 in
instance J3 (b:a8) (l:(List bu)) (y:Int) (v:bO) (p_:bR):CM En (rC b l y v p_) 4 [(bS b),.sl none 11 true (l.map bJ),.int .i64 y,(cA v),.agg [.int .i64 p_.Number,.sl none 80 true (p_.Spends.map aT),.sl none 81 true (p_.Chains.map bv),.sl none 5 true (p_.Escrow.map bG)]] (fun y=> .bool y) (fun _=> []):=by
 refine cmQ fun r hM=> ?_
 rw [rC.eq_1] at hM
 refine av al ar noJ Tryz.func4 rfl Tryz.ntmps4 (by kernel_rfl) fun hw=>au ?_
 refine spQ ?_
 replace hw:=nzQ hw
 replace hM:=ao hM;obtain ⟨x1,hx2,hM⟩:=hM
 have hcx1:=cmU hx2
 refine aH hcx1 clQ clQ (fun hw3=> ?_)
 replace hw3:=nzQ hw3
 refine spQ ?_
 refine aB (fun h4=> ?_) (fun h4=> ?_)
 ·rw [if_pos h4] at hM
  refine aa h4 ?_
  subst hM
  exact aw (az h4)
 ·rw [if_neg (ap h4)] at hM
  refine aa h4 ?_
  have nh4:=nzQ h4
  try have hr6:=mpQ nh4
  replace hM:=ao hM;obtain ⟨x7,hx8,hM⟩:=hM
  have hcx7:=cmU hx8
  refine aH hcx7 clQ clQ (fun hw9=> ?_)
  replace hw9:=nzQ hw9
  refine spQ ?_
  refine cr (fun h10=> ?_) (fun h10=> ?_)
  ·subst h10
   rw [if_neg (by decide)] at hM
   refine spQ ?_
   refine aB (fun h11=> ?_) (fun h11=> ?_)
   ·rw [if_pos h11] at hM
    refine aa h11 ?_
    subst hM
    exact aw (az (And.intro h4 h11))
   ·rw [if_neg (ap h11)] at hM
    refine aa h11 ?_
    have nh11:=nzQ h11
    try have hr13:=mpQ nh11
    replace hM:=ao hM;obtain ⟨x14,hx15,hM⟩:=hM
    have hcx14:=cmH hx15 (J1 b l y v p_ (by (first|omega|exact oI (by assumption))) (by (first|omega|exact oI (by assumption))))
    refine aH hcx14 clQ clQ (fun hw16=> ?_)
    replace hw16:=nzQ hw16
    refine spQ ?_
    refine aB (fun h17=> ?_) (fun h17=> ?_)
    ·rw [if_pos h17] at hM
     refine aa h17 ?_
     subst hM
     exact aw (az (And.intro h4 (And.intro h11 h17)))
    ·rw [if_neg (ap h17)] at hM
     refine aa h17 ?_
     have nh17:=nzQ h17
     try have hr19:=mpQ nh17
     replace hM:=ao hM;obtain ⟨x20,hx21,hM⟩:=hM
     have hcx20:=J2 none (p_.Spends)
     rw [←hx21] at hcx20
     refine aH hcx20 clQ clQ (fun hw22=> ?_)
     replace hw22:=nzQ hw22
     refine spQ ?_
     have hq23:=J0 (by assumption) hx21
     replace hq23:=nzQ hq23
     replace hM:=aU hM;obtain ⟨f24,d24,hf24,hd24,hM⟩:=hM
     refine a6 (fun n S=> ∃p:Int×List aO,S=(⟨[(1,.sl none 11 true (l.map bJ)),(2,.int .i64 y),(8,.ptr 1 0),(9,.ptr 2 0),(11,.int .i64 x14.1),(13,.int .i64 0),(14,.own 3),(49,.sl none 81 true (p_.Chains.map bv)),(50,.int .i64 (p_.Chains.length:Int)),(51,.int .i64 p.1)],[(1,.var 35 true ((cA v))),(2,.var 4 true (.agg [.int .i64 p_.Number,.sl none 80 true (p_.Spends.map aT),.sl none 81 true (p_.Chains.map bv),.sl none 5 true (p_.Escrow.map bG)])),(3,.own 56 80 true none (p.2.map aT))],4⟩:St)∧((0≤p.1)∧(p.1≤(p_.Chains.length:Int))∧(((p.2).length:Int)≤p.1+(x20).length))∧((p_.Chains.length:Int) - p.1).toNat<n∧am n f24 d24 p=r) (((p_.Chains.length:Int) - 0).toNat+1) _ sbQ sbQ ⟨(0,x20),rfl,⟨omQ,omQ,omQ⟩,(Nat.lt_succ_self _),hM⟩ ?_
     clear hM
     rintro n24 S ⟨p24,rfl,hfa24,hm24,hM⟩
     replace hM:=aV hM (by omega) hf24;obtain ⟨ag24,hag24,hM⟩:=hM
     replace hfa24:=nzQ hfa24
     replace hm24:=nzQ hm24
     have ha24:ax .i64 p24.1 1=p24.1+1:=aZ omQ omQ
     refine aa ha24 ?_
     refine aB (fun h25=> ?_) (fun h25=> ?_)
     ·rw [if_pos h25] at hM
      refine aa (And.intro ha24 h25) ?_
      have nh25:=nzQ h25
      try have hr26:=mpQ nh25
      refine aP omQ ?_
      have he27:=fun d=>bE (l:=p_.Chains) (f:=bv) (i:=p24.1) omQ d
      refine aa (And.intro ha24 he27) ?_
      refine aP omQ ?_
      refine aa (And.intro ha24 he27) ?_
      refine bM (n24 - 1) _ (by omega) sbQ sbQ ⟨((p24.1+1),(p24.2++([(gt p_.Chains p24.1).First]:List aO))),rfl,⟨omQ,omQ,omQ⟩,omQ,bI hM hag24⟩
     ·rw [if_neg (ap h25)] at hM
      refine aa (And.intro ha24 h25) ?_
      have nh25:=nzQ h25
      try have hr28:=mpQ nh25
      replace hM:=aU hM;obtain ⟨f29,d29,hf29,hd29,hM⟩:=hM
      refine a6 (fun n S=> ∃p:Int×Int,S=(⟨[(1,.sl none 11 true (l.map bJ)),(2,.int .i64 y),(8,.ptr 1 0),(9,.ptr 2 0),(11,.int .i64 x14.1),(13,.int .i64 p.1),(61,.own 3),(62,.int .i64 (p24.2.length:Int)),(63,.int .i64 p.2)],[(1,.var 35 true ((cA v))),(2,.var 4 true (.agg [.int .i64 p_.Number,.sl none 80 true (p_.Spends.map aT),.sl none 81 true (p_.Chains.map bv),.sl none 5 true (p_.Escrow.map bG)])),(3,.own 56 80 true none (p24.2.map aT))],4⟩:St)∧((0≤p.2)∧(p.2≤(p24.2.length:Int)))∧((p24.2.length:Int) - p.2).toNat<n∧am n f29 d29 p=r) (((p24.2.length:Int) - 0).toNat+1) _ sbQ sbQ ⟨(0,0),rfl,⟨omQ,omQ⟩,(Nat.lt_succ_self _),hM⟩ ?_
      clear hM
      rintro n29 S ⟨p29,rfl,hfa29,hm29,hM⟩
      replace hM:=aV hM (by omega) hf29;obtain ⟨ag29,hag29,hM⟩:=hM
      replace hfa29:=nzQ hfa29
      replace hm29:=nzQ hm29
      have ha29:ax .i64 p29.2 1=p29.2+1:=aZ omQ omQ
      refine aa (And.intro ha24 ha29) ?_
      refine aB (fun h30=> ?_) (fun h30=> ?_)
      ·rw [if_pos h30] at hM
       refine aa (And.intro ha24 (And.intro ha29 h30)) ?_
       have nh30:=nzQ h30
       try have hr31:=mpQ nh30
       refine aP omQ ?_
       have he32:=fun d=>bE (l:=p24.2) (f:=aT) (i:=p29.2) omQ d
       refine aa (And.intro ha24 (And.intro ha29 he32)) ?_
       refine aP omQ ?_
       refine aa (And.intro ha24 (And.intro ha29 he32)) ?_
       replace hM:=ao hM;obtain ⟨x33,hx34,hM⟩:=hM
       have hcx33:=cmU hx34
       refine aH hcx33 (aC (And.intro ha24 (And.intro ha29 he32))) (aC (And.intro ha24 (And.intro ha29 he32))) (fun hw35=> ?_)
       replace hw35:=nzQ hw35
       refine aa (And.intro ha24 (And.intro ha29 he32)) ?_
       have hq36:=rO hx34
       replace hq36:=nzQ hq36
       refine bN 170 29 [78,79,80,81,82,83,84,85,86,87,88,89,90,91,92,93,94,95,96,97,98,99,100,101,102,103,104,105,106] [] ([[],[0],[0,1],[0,1,2],[0,1,2],[0,1,2,4],[0,1,2,3,4,5],[0,1,2,3,4,5,6],[0,1,2,3,4,5,6,7],[0,1,2,3,4,5,6,7,8],[0,1,2,3,4,5,6,7,8],[0,1,2,3,4,5,6,7,8,9,10],[0,1,2,3,4,5,6,7,8,9,10,11],[0,1,2,3,4,5,6,7,8],[0,1,2,3,4,5,6,7,8,13],[0,1,2,3,4,5,6,7,8,9,10,11,12,13,14],[0,1,2,3,4,5,6,7,8,9,10,11,12,13,14,15],[0,1,2,3,4,5,6,7,8,9,10,11,12,13,14,15,16],[0,1,2,3,4,5,6,7,8,9,10,11,12,13,14,15,16,17],[0,1,2,3,4,5,6,7,8,9,10,11,12,13,14,15,16,17,18],[0,1,2,3,4,5,6,7,8,9,10,11,12,13,14,15,16,17,18],[0,1,2,3,4,5,6,7,8,9,10,11,12,13,14,15,16,17,18,19,20],[0,1,2,3,4,5,6,7,8,9,10,11,12,13,14,15,16,17,18,19,20,21],[0,1,2,3,4,5,6,7,8,9,10,11,12,13,14,15,16,17,18,19,20,21,22],[0,1,2,3,4,5,6,7,8,9,10,11,12,13,14,15,16,17,18,19,20,21,22,23],[0,1,2,3,4,5,6,7,8,9,10,11,12,13,14,15,16,17,18,19,20,21,22,23,24],[0,1,2,3,4,5,6,7,8,9,10,11,12,13,14,15,16,17,18,19,20,21,22,23,24,25],[0,1,2,3,4,5,6,7,8,9,10,11,12,13,14,15,16,17,18,19,20,21,22,23,24,25,26],[0,1,2,3,4,5,6,7,8,9,10,11,12,13,14,15,16,17,18,19,20,21,22,23,24,25,26]]++[List.range 29,List.range 30,List.range 31,List.range 32,List.range 33]) [] (by kernel_rfl) (by exact alQ) ?_
       refine aa (And.intro ha24 (And.intro ha29 he32)) ?_
       refine dk (fun h37=> ?_) (fun h37=> ?_)
       ·rw [if_neg (ap h37)] at hM
        refine aa (And.intro ha24 (And.intro ha29 (And.intro he32 h37))) ?_
        have nh37:=nzQ h37
        try have hr38:=mpQ nh37
        refine dk (fun h39=> ?_) (fun h39=> ?_)
        ·rw [if_neg (ap h39)] at hM
         refine aa (And.intro ha24 (And.intro ha29 (And.intro he32 h39))) ?_
         have nh39:=nzQ h39
         try have hr40:=mpQ nh39
         refine b_ omQ ?_
         have he41:=fun d=>bE (l:=l) (f:=bJ) (i:=x33) omQ d
         refine aa (And.intro ha24 (And.intro ha29 (And.intro he32 he41))) ?_
         replace hM:=ao hM;obtain ⟨x42,hx43,hM⟩:=hM
         have hcx42:=cmU hx43
         refine bp hcx42 (aC (And.intro ha24 (And.intro ha29 (And.intro he32 he41)))) (aC (And.intro ha24 (And.intro ha29 (And.intro he32 he41)))) ?_
         refine aa (And.intro ha24 (And.intro ha29 (And.intro he32 he41))) ?_
         refine dk (fun h44=> ?_) (fun h44=> ?_)
         ·rw [if_neg (ap h44)] at hM
          refine aa (And.intro ha24 (And.intro ha29 (And.intro he32 (And.intro he41 h44)))) ?_
          have nh44:=nzQ h44
          try have hr45:=mpQ nh44
          refine b_ omQ ?_
          refine aa (And.intro ha24 (And.intro ha29 (And.intro he32 he41))) ?_
          refine dk (fun h46=> ?_) (fun h46=> ?_)
          ·rw [if_neg (ap h46)] at hM
           refine aa (And.intro ha24 (And.intro ha29 (And.intro he32 (And.intro he41 h46)))) ?_
           have nh46:=nzQ h46
           try have hr47:=mpQ nh46
           refine aP omQ ?_
           refine aa (And.intro ha24 (And.intro ha29 (And.intro he32 he41))) ?_
           refine aB (fun h48=> ?_) (fun h48=> ?_)
           ·rw [if_pos h48] at hM
            refine aa (And.intro ha24 (And.intro ha29 (And.intro he32 (And.intro he41 h48)))) ?_
            subst hM
            exact aw (az (And.intro ha24 (And.intro ha29 (And.intro he32 (And.intro he41 (And.intro h4 (And.intro h11 (And.intro h17 (And.intro h25 (And.intro h30 (And.intro h37 (And.intro h39 (And.intro h44 (And.intro h46 h48))))))))))))))
           ·rw [if_neg (ap h48)] at hM
            refine aa (And.intro ha24 (And.intro ha29 (And.intro he32 (And.intro he41 h48)))) ?_
            have nh48:=nzQ h48
            try have hr50:=mpQ nh48
            refine bN 170 16 [112,113,114,115,116,117,118,119,120,121,122,123,124,125,126,127] [] ([[],[],[],[1,2],[1,2,3],[1,2,3,4],[],[],[6,7],[6,7,8],[6,7,8,9],[1,2,3,4,5,6,7,8,9,10],[],[12],[12,13],[1,2,3,4,5,6,7,8,9,10,11,12,13,14]]++[List.range 16,List.range 17]) [] (by kernel_rfl) (by exact alQ) ?_
            refine aa (And.intro ha24 (And.intro ha29 (And.intro he32 he41))) ?_
            refine b_ omQ ?_
            refine aa (And.intro ha24 (And.intro ha29 (And.intro he32 he41))) ?_
            refine b_ omQ ?_
            refine aa (And.intro ha24 (And.intro ha29 (And.intro he32 he41))) ?_
            refine b_ omQ ?_
            refine aa (And.intro ha24 (And.intro ha29 (And.intro he32 he41))) ?_
            refine bM (n29 - 1) _ (by omega) sbQ sbQ ⟨((ax .i64 p29.1 (aR .i64 (ay .i64 (gt l x33).Value (gt l x33).Depth) ((gt p24.2 p29.2).Leaves.length:Int))),(p29.2+1)),rfl,⟨omQ,omQ⟩,omQ,bI hM hag29⟩
          ·rw [if_pos h46] at hM
           refine aa (And.intro ha24 (And.intro ha29 (And.intro he32 (And.intro he41 h46)))) ?_
           subst hM
           exact aw (az (And.intro ha24 (And.intro ha29 (And.intro he32 (And.intro he41 (And.intro h4 (And.intro h11 (And.intro h17 (And.intro h25 (And.intro h30 (And.intro h37 (And.intro h39 (And.intro h44 h46)))))))))))))
         ·rw [if_pos h44] at hM
          refine aa (And.intro ha24 (And.intro ha29 (And.intro he32 (And.intro he41 h44)))) ?_
          subst hM
          exact aw (az (And.intro ha24 (And.intro ha29 (And.intro he32 (And.intro he41 (And.intro h4 (And.intro h11 (And.intro h17 (And.intro h25 (And.intro h30 (And.intro h37 (And.intro h39 h44))))))))))))
        ·rw [if_pos h39] at hM
         refine aa (And.intro ha24 (And.intro ha29 (And.intro he32 h39))) ?_
         subst hM
         exact aw (az (And.intro ha24 (And.intro ha29 (And.intro he32 (And.intro h4 (And.intro h11 (And.intro h17 (And.intro h25 (And.intro h30 (And.intro h37 h39))))))))))
       ·rw [if_pos h37] at hM
        refine aa (And.intro ha24 (And.intro ha29 (And.intro he32 h37))) ?_
        subst hM
        exact aw (az (And.intro ha24 (And.intro ha29 (And.intro he32 (And.intro h4 (And.intro h11 (And.intro h17 (And.intro h25 (And.intro h30 h37)))))))))
      ·rw [if_neg (ap h30)] at hM
       refine aa (And.intro ha24 (And.intro ha29 h30)) ?_
       have nh30:=nzQ h30
       try have hr55:=mpQ nh30
       replace hM:=ao hM;obtain ⟨x56,hx57,hM⟩:=hM
       have hcx56:=cmH hx57 (A4 p_ (by (first|omega|exact oI (by assumption))))
       refine aH hcx56 (aC (And.intro ha24 ha29)) (aC (And.intro ha24 ha29)) (fun hw58=> ?_)
       replace hw58:=nzQ hw58
       refine aa (And.intro ha24 ha29) ?_
       have hq59:=AP (oI (by assumption)) hx57
       replace hq59:=nzQ hq59
       replace hM:=aU hM;obtain ⟨f60,d60,hf60,hd60,hM⟩:=hM
       refine a6 (fun n S=> ∃p:Int×List (List Int),S=(⟨[(2,.int .i64 y),(8,.ptr 1 0),(9,.ptr 2 0),(11,.int .i64 x14.1),(13,.int .i64 p29.1),(20,.own 4),(132,.sl none 83 true (x56.map lf)),(133,.int .i64 (x56.length:Int)),(134,.int .i64 p.1)],[(1,.var 35 true ((cA v))),(2,.var 4 true (.agg [.int .i64 p_.Number,.sl none 80 true (p_.Spends.map aT),.sl none 81 true (p_.Chains.map bv),.sl none 5 true (p_.Escrow.map bG)])),(4,.kset true .i64 2 p.2)],5⟩:St)∧((0≤p.1)∧(p.1≤(x56.length:Int)))∧((x56.length:Int) - p.1).toNat<n∧am n f60 d60 p=r) (((x56.length:Int) - 0).toNat+1) _ sbQ sbQ ⟨(0,([]:List (List Int))),rfl,⟨omQ,omQ⟩,(Nat.lt_succ_self _),hM⟩ ?_
       clear hM
       rintro n60 S ⟨p60,rfl,hfa60,hm60,hM⟩
       replace hM:=aV hM (by omega) hf60;obtain ⟨ag60,hag60,hM⟩:=hM
       replace hfa60:=nzQ hfa60
       replace hm60:=nzQ hm60
       have ha60:ax .i64 p60.1 1=p60.1+1:=aZ omQ omQ
       refine aa (And.intro ha24 (And.intro ha29 ha60)) ?_
       refine aB (fun h61=> ?_) (fun h61=> ?_)
       ·rw [if_pos h61] at hM
        refine aa (And.intro ha24 (And.intro ha29 (And.intro ha60 h61))) ?_
        have nh61:=nzQ h61
        try have hr62:=mpQ nh61
        refine aP omQ ?_
        have he63:=fun d=>bE (l:=x56) (f:=lf) (i:=p60.1) omQ d
        refine aa (And.intro ha24 (And.intro ha29 (And.intro ha60 he63))) ?_
        refine aB (fun h64=> ?_) (fun h64=> ?_)
        ·rw [if_pos h64] at hM
         refine aa (And.intro ha24 (And.intro ha29 (And.intro ha60 (And.intro he63 h64)))) ?_
         subst hM
         exact aw (az (And.intro ha24 (And.intro ha29 (And.intro ha60 (And.intro he63 (And.intro h4 (And.intro h11 (And.intro h17 (And.intro h25 (And.intro h30 (And.intro h61 h64)))))))))))
        ·rw [if_neg (ap h64)] at hM
         refine aa (And.intro ha24 (And.intro ha29 (And.intro ha60 (And.intro he63 h64)))) ?_
         have nh64:=nzQ h64
         try have hr66:=mpQ nh64
         refine bM (n60 - 1) _ (by omega) sbQ sbQ ⟨((p60.1+1),(fp p60.2 [(gt x56 p60.1).A,(gt x56 p60.1).B])),rfl,⟨omQ,omQ⟩,omQ,bI hM hag60⟩
       ·rw [if_neg (ap h61)] at hM
        refine aa (And.intro ha24 (And.intro ha29 (And.intro ha60 h61))) ?_
        have nh61:=nzQ h61
        try have hr67:=mpQ nh61
        refine gh (fun h68=> ?_) (fun h68=> ?_)
        ·rw [if_pos h68] at hM
         refine aa (And.intro ha24 (And.intro ha29 (And.intro ha60 h68))) ?_
         have nh68:=nzQ h68
         try have hr69:=mpQ nh68
         refine gh (fun h70=> ?_) (fun h70=> ?_)
         ·rw [if_pos h70] at hM
          refine aa (And.intro ha24 (And.intro ha29 (And.intro ha60 h70))) ?_
          subst hM
          exact aw (az (And.intro ha24 (And.intro ha29 (And.intro ha60 (And.intro h4 (And.intro h11 (And.intro h17 (And.intro h25 (And.intro h30 (And.intro h61 (And.intro h68 h70)))))))))))
         ·rw [if_neg (ap h70)] at hM
          refine aa (And.intro ha24 (And.intro ha29 (And.intro ha60 h70))) ?_
          subst hM
          exact aw (az (And.intro ha24 (And.intro ha29 (And.intro ha60 (And.intro h4 (And.intro h11 (And.intro h17 (And.intro h25 (And.intro h30 (And.intro h61 (And.intro h68 h70)))))))))))
        ·rw [if_neg (ap h68)] at hM
         refine aa (And.intro ha24 (And.intro ha29 (And.intro ha60 h68))) ?_
         subst hM
         exact aw (az (And.intro ha24 (And.intro ha29 (And.intro ha60 (And.intro h4 (And.intro h11 (And.intro h17 (And.intro h25 (And.intro h30 (And.intro h61 h68))))))))))
  ·subst h10
   rw [if_pos rfl] at hM
   refine spQ ?_
   subst hM
   exact aw (az h4)
end Go.Proofs.YtcbbjfckokckcaaGreatDoor
namespace Go.Proofs.YtcbbjfckokckcaaGreatDoor
open Go.RowKit
theorem J4:qZ=true:=by decide+kernel
theorem wP: ∀{l:List (Bool×Int)} {n:Int},(∀x∈l,x.2≠0)→((iz l n).2=0→(∀x∈l,x.1=true)∧(iz l n).1=n)∧((iz l n).2≠0→(iz l n).1=0)
 | [],_,_=>⟨fun _=>⟨fun _ h=>(by cases h),rfl⟩,fun h=>absurd rfl h⟩
 | (true,_)::l,n,h=>by
  have ih:=wP (l:=l) (n:=n) (fun x hx=>h x (List.mem_cons_of_mem _ hx))
  refine ⟨fun h1=> ?_,fun h1=>ih.2 h1⟩
  obtain ⟨a,b⟩:=ih.1 h1
  refine ⟨fun x hx=> ?_,b⟩
  rcases List.mem_cons.1 hx with rfl|hx
  ·rfl
  ·exact a x hx
 | (false,e)::_,_,h=>⟨fun h1=>absurd h1 (h (false,e) List.mem_cons_self),fun _=>rfl⟩
section
variable {b:a8} {l:List bu} {y:Int} {v w:bO} {p:bR}
theorem A8: ∀x∈oF b l y v p,x.2≠0:=by
 intro x hx
 simp only [oF,List.mem_cons,List.not_mem_nil,or_false] at hx
 rcases hx with rfl|rfl|rfl|rfl|rfl|rfl|rfl|rfl|rfl|rfl<;>(intro h;cases h)
theorem J5 (h:(iA b l y v p).2≠0):(iA b l y v p).1=0:=(wP A8).2 h
theorem J6 (h:(iA b l y v p).2=0):jZ ⟨b,l,y,v,p⟩=true∧gF ⟨b,l,y,v,p⟩=true∧je ⟨b,l,y,v,p⟩=true∧kc ⟨b,l,y,v,p⟩=true∧lr ⟨b,l,y,v,p⟩=true∧ke ⟨b,l,y,v,p⟩=true∧kf ⟨b,l,y,v,p⟩=v.Amount∧(iA b l y v p).1=v.Amount:=by
 obtain ⟨h1,h2⟩:=(wP (A8 (b:=b) (l:=l) (y:=y) (v:=v) (p:=p)) (n:=v.Amount)).1 h
 have hm: ∀(i:Nat) (hi:i<(oF b l y v p).length),((oF b l y v p)[i]'hi).1=true:=fun i hi=>h1 _ (List.getElem_mem hi)
 have e0:jZ ⟨b,l,y,v,p⟩=true:=hm 0 (show 0<10 by decide)
 have e3:gF ⟨b,l,y,v,p⟩=true:=hm 3 (show 3<10 by decide)
 have e4:je ⟨b,l,y,v,p⟩=true:=hm 4 (show 4<10 by decide)
 have e6:kc ⟨b,l,y,v,p⟩=true:=hm 6 (show 6<10 by decide)
 have e7:lr ⟨b,l,y,v,p⟩=true:=hm 7 (show 7<10 by decide)
 have e8:ke ⟨b,l,y,v,p⟩=true:=hm 8 (show 8<10 by decide)
 have e9:oE ⟨b,l,y,v,p⟩ v=true:=hm 9 (show 9<10 by decide)
 exact ⟨e0,e3,e4,e6,e7,e8,eq_of_beq e9,h2⟩
theorem J7 {k:bU} (h:jZ k=true):im k.v=true:=by
 revert h
 unfold jZ
 refine gC (P:=fun a:Int=>0≤a∧a≤k.l.length) (Q:=fun r:Bool=>r=true→im k.v=true) (meas:=fun a=>((k.l.length:Int) - a).toNat) ?_ _ _ ?_ ?_
 rotate_left
 ·exact ⟨Int.le_refl _,show (0:Int)≤(k.l.length:Int) by omega⟩
 ·show ((k.l.length:Int) - 0).toNat<((k.l.length:Int) - 0).toNat+1
  omega
 rintro ag a ⟨g0,g1⟩ ih
 by_cases hp:a<(k.l.length:Int)
 ·simp only [ab,if_pos (show decide (a<(k.l.length:Int))=true by simpa using hp)]
  split
  ·intro h;cases h
  ·exact ih _ ⟨by omega,by omega⟩ (by omega)
 ·simp only [ab,if_neg (show¬decide (a<(k.l.length:Int))=true by simpa using hp)]
  split
  ·split
   ·intro _;assumption
   ·intro h;cases h
  ·intro h;cases h
theorem J8 {v:bO} (h:im v=true):1≤v.Amount:=by
 unfold im at h
 split at h
 ·rename_i h1;simpa using h1
 ·cases h
theorem J9 {k:bU}:(gG k).length=k.p.Spends.length+k.p.Chains.length:=by
 unfold gG
 simp only [↓ab]
 rw [rP (α:=Unit) (f:=fun i=>oA (gt k.p.Chains i)) (fun ag p=>rfl) (by omega)]
 simp only [List.nil_append];omega
theorem J_ {k:bU} (h1:k.p.Spends=[]) (h2:k.p.Chains=[]):kf k=0:=by
 unfold kf
 rw [h1,h2]
 rfl
end
theorem A9 {σ α γ R:Type} [Inhabited α] (l:List α) (mk:γ→Int→σ) (stp:γ→α→γ) (g:γ→R) {F:(σ→R)→σ→R} {d:σ→R}
  (h1: ∀ag a (i:Int),0≤i→i<l.length→F ag (mk a i)=ag (mk (stp a (gt l i)) (i+1))) (h2: ∀ag a,F ag (mk a l.length)=g a):
  ∀(fuel i:Nat) (a:γ),i≤l.length→l.length - i<fuel→am fuel F d (mk a i)=g ((l.drop i).foldl stp a)
 | 0,_,_,_,h=>absurd h (Nat.not_lt_zero _)
 | fuel+1,i,a,hi,hf=>by
  rw [am]
  by_cases he:i=l.length
  ·subst he
   rw [h2,List.drop_length];rfl
  ·have hl:i<l.length:=by omega
   rw [h1 _ a i (by omega) (by omega)]
   have hg:gt l (i:Int)=l[i]:=by rw [lJ,List.getD_eq_getElem?_getD,List.getElem?_eq_getElem hl];rfl
   rw [List.drop_eq_getElem_cons hl,List.foldl_cons,←hg]
   exact A9 l mk stp g h1 h2 fuel (i+1) _ hl (by omega)
theorem wQ {σ α γ R:Type} [Inhabited α] (l:List α) (mk:γ→Int→σ) (stp:γ→α→γ) (g:γ→R) {F:(σ→R)→σ→R} {d:σ→R} {a:γ}
  (h1: ∀ag a (i:Int),0≤i→i<l.length→F ag (mk a i)=ag (mk (stp a (gt l i)) (i+1))) (h2: ∀ag a,F ag (mk a l.length)=g a):
  am (((l.length:Int) - 0).toNat+1) F d (mk a 0)=g (l.foldl stp a):=by
 have h:=A9 l mk stp g (d:=d) h1 h2 (((l.length:Int) - 0).toNat+1) 0 a (Nat.zero_le _) (by omega)
 rw [List.drop_zero] at h
 exact h
theorem A_ {α β:Type} (f:α→β): ∀(l:List α) (a:List β),l.foldl (fun a x=>a++[f x]) a=a++l.map f
 | [],a=>by simp
 | x::l,a=>by rw [List.foldl_cons,A_ f l,List.append_assoc];rfl
theorem wR {α β R:Type} [Inhabited α] {l:List α} (f:α→β) (g:List β→R) {F:(Int×List β→R)→Int×List β→R} {d:Int×List β→R} {s:List β}
  (hF: ∀ag i a,F ag (i,a)=if decide (i<(l.length:Int))=true then ag (i+1,a++[f (gt l i)]) else g a):
  am (((l.length:Int) - 0).toNat+1) F d (0,s)=g (s++l.map f):=by
 rw [←A_]
 refine wQ l (fun a i=>(i,a)) (fun a x=>a++[f x]) g (fun ag a i h0 h1=> ?_) (fun ag a=> ?_)
 ·rw [hF,if_pos (by simpa using h1)]
 ·rw [hF,if_neg (by simp)]
theorem Ba {α R:Type} [Inhabited α] {l:List α} (f:α→Int) (g:Int→R) {F:(Int×Int→R)→Int×Int→R} {d:Int×Int→R} {s:Int}
  (hF: ∀ag a i,F ag (a,i)=if decide (i<(l.length:Int))=true then ag (ax .i64 a (f (gt l i)),i+1) else g a):
  am (((l.length:Int) - 0).toNat+1) F d (s,0)=g (l.foldl (fun a x=>ax .i64 a (f x)) s):=by
 refine wQ l (fun a i=>(a,i)) (fun a x=>ax .i64 a (f x)) g (fun ag a i h0 h1=> ?_) (fun ag a=> ?_)
 ·rw [hF,if_pos (by simpa using h1)]
 ·rw [hF,if_neg (by simp)]
theorem rZ {α:Type} [Inhabited α] {l:List α} (good:α→Bool) {T:Bool} {F:(Int→Bool)→Int→Bool} {d:Int→Bool}
  (hF: ∀ag p,F ag p=if decide (p<(l.length:Int))=true then (if (!good (gt l p))=true then false else ag (p+1)) else T)
  (h:am (((l.length:Int) - 0).toNat+1) F d 0=true):(∀x∈l,good x=true)∧T=true:=by
 have key: ∀r,r=am (((l.length:Int) - 0).toNat+1) F d 0→r=true→(∀i:Nat,(i:Int)<l.length→good (gt l i)=true)∧T=true:=by
  rintro r rfl
  refine gC (P:=fun a:Int=>0≤a∧a≤l.length∧ ∀i:Nat,(i:Int)<a→good (gt l i)=true) (Q:=fun r:Bool=>r=true→(∀i:Nat,(i:Int)<l.length→good (gt l i)=true)∧T=true) (meas:=fun a=>((l.length:Int) - a).toNat) ?_ _ _ ?_ ?_
  rotate_left
  ·exact ⟨Int.le_refl _,by omega,fun i hi=>absurd hi (by omega)⟩
  ·show ((l.length:Int) - 0).toNat<((l.length:Int) - 0).toNat+1
   omega
  rintro ag a ⟨g0,g1,g2⟩ ih
  rw [hF]
  by_cases hp:a<(l.length:Int)
  ·rw [if_pos (by simpa using hp)]
   by_cases hg:good (gt l a)=true
   ·rw [if_neg (by simp [hg])]
    refine ih _ ⟨by omega,by omega,fun i hi=> ?_⟩ (by omega)
    by_cases hi2:(i:Int)<a
    ·exact g2 i hi2
    ·rw [show (i:Int)=a by omega];exact hg
   ·rw [if_pos (by simp [hg])]
    intro h;cases h
  ·rw [if_neg (by simpa using hp)]
   exact fun ht=>⟨fun i hi=>g2 i (by omega),ht⟩
 obtain ⟨k1,k2⟩:=key _ rfl h
 refine ⟨fun x hx=> ?_,k2⟩
 obtain ⟨i,hi,rfl⟩:=List.getElem_of_mem hx
 have:=k1 i (by omega)
 rwa [lJ,List.getD_eq_getElem?_getD,List.getElem?_eq_getElem hi] at this
theorem Ka: ∀n:Nat,n≤5→(2:Int)^n≤32∧1≤(2:Int)^n
 | 0,_=>by decide
 | 1,_=>by decide
 | 2,_=>by decide
 | 3,_=>by decide
 | 4,_=>by decide
 | 5,_=>by decide
 | n+6,h=>by omega
theorem Kb {V D L n:Int} (hD0:0≤D) (hD5:D≤5) (hL0:0≤L) (hLD:L≤D) (hV0:0≤V) (hV1:V≤1099511627776) (hd:cj .i64 V (aA .i64 1 D)=0) (hn:n=aA .i64 1 (D - L)):aR .i64 (ay .i64 V D) n=ay .i64 V L:=by
 subst hn
 have hd':V% 2^D.toNat=0:=by
  rw [qU hD0 (by omega)] at hd;unfold cj at hd;rwa [Int.tmod_eq_emod_of_nonneg hV0] at hd
 have e1:ay .i64 V D=V/2^D.toNat:=kg (m:=D.toNat) (by show min D.toNat 64=_;omega)
 have e2:ay .i64 V L=V/2^L.toNat:=kg (m:=L.toNat) (by show min L.toNat 64=_;omega)
 rw [e1,e2,qU (by omega) (by omega)]
 have hp:(2:Int)^D.toNat=2^L.toNat*2^(D - L).toNat:=by
  rw [←Int.pow_add,show L.toNat+(D - L).toNat=D.toNat by omega]
 have a1:(0:Int)<2^D.toNat:=Int.pow_pos (by decide)
 have a2:(0:Int)<2^L.toNat:=Int.pow_pos (by decide)
 have a3:=Ka (D - L).toNat (by omega)
 have q0:0≤V/2^D.toNat:=Int.ediv_nonneg hV0 (Int.le_of_lt a1)
 have q1:V/2^D.toNat≤V:=Int.ediv_le_self _ hV0
 rw [(mq 1099511627776 32 35184372088832 q0 (by omega) (by omega) a3.1 rfl (by decide)).1]
 obtain ⟨q,hq⟩:=Int.dvd_of_emod_eq_zero hd'
 rw [hq,Int.mul_ediv_cancel_left _ (by omega),hp,Int.mul_assoc,Int.mul_ediv_cancel_left _ (by omega),Int.mul_comm]
theorem Kc {b:a8} {r:bu} {s:aO} (h:fh b r s=true):lm b r s.Coin=true∧iy s.Coin.Depth s.Node=true∧(s.Leaves.length:Int)=aA .i64 1 (s.Coin.Depth - s.Node.Level):=by
 unfold fh at h
 simp only [↓ab] at h
 by_cases h1:lm b r s.Coin=true
 ·by_cases h2:iy s.Coin.Depth s.Node=true
  ·by_cases h3:rh s.Context=true
   ·by_cases h4:(s.Leaves.length:Int)=aA .i64 1 (s.Coin.Depth - s.Node.Level)
    ·exact ⟨h1,h2,h4⟩
    ·rw [if_neg (by simp [h1]),if_neg (by simp [h2]),if_neg (by simp [h3]),if_pos (by simpa using h4)] at h;cases h
   ·rw [if_neg (by simp [h1]),if_neg (by simp [h2]),if_pos (by simp [h3])] at h;cases h
  ·rw [if_neg (by simp [h1]),if_pos (by simp [h2])] at h;cases h
 ·rw [if_pos (by simp [h1])] at h;cases h
theorem Kd {b:a8} {r:bu} {c:bD} (h:lm b r c=true):iw b r=true∧c.Depth=r.Depth:=by
 unfold lm at h
 simp only [↓ab] at h
 by_cases h1:iw b r=true
 ·refine ⟨h1,?_⟩
  rw [if_pos h1] at h
  split at h
  ·split at h
   ·split at h
    ·split at h
     ·rename_i h5
      exact eq_of_beq h5
     ·cases h
    ·cases h
   ·cases h
  ·cases h
 ·rw [if_neg h1] at h;cases h
theorem Ke {d:dH} (h:gE d=true):0≤d.Value∧d.Value≤1099511627776∧0≤d.Depth∧d.Depth≤5∧cj .i64 d.Value (aA .i64 1 d.Depth)=0:=by
 unfold gE at h
 split at h
 ·rename_i h1
  simp only [mD,jO,Bool.and_eq_true,beq_iff_eq] at h1
  rw [h1.1,h1.2]
  decide
 ·split at h
  ·split at h
   ·split at h
    ·split at h
     ·rename_i a1 a2 a3 a4
      simp only [decide_eq_true_eq] at a1 a2 a3 a4
      exact ⟨by omega,a2,a3,a4,eq_of_beq h⟩
     ·cases h
    ·cases h
   ·cases h
  ·cases h
theorem Kf {d:dH} (h:i5 [d]=true):gE d=true:=by
 unfold i5 at h
 simp only [↓ab] at h
 rw [if_neg (by simp),if_neg (by simp),am,if_pos (by simp)] at h
 by_cases h1:gE d=true
 ·exact h1
 ·rw [if_pos (by simp only [Bool.not_eq_true',Bool.not_eq_true] at h1⊢;exact h1)] at h;cases h
theorem Kg {b:a8} {r:bu} (h:iw b r=true):0≤r.Value∧r.Value≤1099511627776∧0≤r.Depth∧r.Depth≤5∧cj .i64 r.Value (aA .i64 1 r.Depth)=0:=by
 unfold iw at h
 simp only [↓ab] at h
 have hd:i5 [({Value:=r.Value,Depth:=r.Depth}:dH)]=true→0≤r.Value∧r.Value≤1099511627776∧0≤r.Depth∧r.Depth≤5∧cj .i64 r.Value (aA .i64 1 r.Depth)=0:=fun h=>Ke (Kf h)
 split at h
 ·split at h
  ·split at h
   ·split at h
    ·rename_i a1 a2
     rw [eq_of_beq a1,eq_of_beq a2]
     decide
    ·split at h
     ·exact hd ‹_›
     ·cases h
   ·split at h
    ·exact hd ‹_›
    ·cases h
  ·cases h
 ·cases h
section
variable {b:a8} {l:List bu} {y:Int} {v:bO} {p:bR} {k:bU}
def cG (l:List bu) (s:aO):Int:=ja l s.Coin.Bank s.Coin.Epoch s.Coin.Denom
def dt (p:bR):List aO:=p.Spends++p.Chains.map fun h=>h.First
theorem Bb:ix k=(dt k.p).map fun s=>s.Coin:=by
 unfold ix dt
 refine (wR (l:=k.p.Spends) (fun s:aO=>s.Coin) _ (by intro ag i a;first|(dsimp only;done)|(dsimp only;exact Eq.refl _))).trans ?_
 refine (wR (l:=k.p.Chains) (fun h:bX=>h.First.Coin) (fun x=>x) (fun ag i a=>rfl)).trans ?_
 simp only [List.nil_append,List.map_append,List.map_map]
 rfl
theorem Kh {s:aO} (h:(dT k s.Coin).2=true):0≤cG k.l s∧(dT k s.Coin)=(gt k.l (cG k.l s),true):=by
 unfold dT at h⊢
 simp only [↓ab] at h⊢
 by_cases h1:cG k.l s<0
 ·rw [if_pos (by simpa [cG] using h1)] at h;cases h
 ·exact ⟨by omega,by rw [if_neg (by simpa [cG] using h1)];rfl⟩
theorem r6 (h:gF k=true): ∀s∈dt k.p,0≤cG k.l s∧dT k s.Coin=(gt k.l (cG k.l s),true):=by
 unfold gF at h
 simp only [↓ab] at h
 have h1:=(rZ (l:=ix k) (fun c=>(dT k c).2) (T:=true) (fun ag p=>rfl) h).1
 intro s hs
 exact Kh (h1 s.Coin (by rw [Bb];exact List.mem_map_of_mem hs))
theorem Ki (h0:gF k=true) (h:kc k=true): ∀s∈dt k.p,kb (gt k.l (cG k.l s)) k.v.Time=true:=by
 unfold kc at h
 simp only [↓ab] at h
 have h1:=(rZ (l:=ix k) (fun c=>kb (dT k c).1 k.v.Time) (T:=true) (fun ag p=>rfl) h).1
 intro s hs
 have h2:=h1 s.Coin (by rw [Bb];exact List.mem_map_of_mem hs)
 rwa [(r6 h0 s hs).2] at h2
theorem Kj {h:bX} (hv:mZ b l h=true):fh b (eg l h.First.Coin).1 h.First=true:=by
 unfold mZ at hv
 rw [i3] at hv
 by_cases h1:i9 b=true
 ·rw [if_neg (by simp [h1])] at hv
  by_cases h2:decide ((h.L.length:Int)>8)=true
  ·rw [if_pos h2] at hv;cases hv
  ·rw [if_neg h2,i3,am,if_pos (show decide ((0:Int)<((cL h).length:Int))=true by rw [decide_eq_true_eq,wJ,List.length_cons];omega),i3] at hv
   by_cases h3:(eg l h.First.Coin).2=true
   ·rw [if_neg (show¬(!(eg l (gt (cL h) 0).Coin).2)=true by have:(eg l (gt (cL h) 0).Coin).2=true:=h3;simp [this]),i3] at hv
    by_cases h4:fh b (eg l h.First.Coin).1 h.First=true
    ·exact h4
    ·rw [if_pos (show (!fh b (eg l (gt (cL h) 0).Coin).1 (gt (cL h) 0))=true by have:fh b (eg l (gt (cL h) 0).Coin).1 (gt (cL h) 0)=false:=Bool.eq_false_iff.2 h4;rw [this];rfl)] at hv;cases hv
   ·rw [if_pos (show (!(eg l (gt (cL h) 0).Coin).2)=true by have:(eg l (gt (cL h) 0).Coin).2=false:=Bool.eq_false_iff.2 h3;rw [this];rfl)] at hv;cases hv
 ·rw [if_pos (by simp [h1])] at hv;cases hv
theorem Bc (h0:gF k=true) (h:je k=true): ∀s∈dt k.p,fh k.b (gt k.l (cG k.l s)) s=true:=by
 unfold je at h
 simp only [↓ab] at h
 obtain ⟨h1,h2⟩:=rZ (l:=k.p.Spends) (fun s=>fh k.b (dT k s.Coin).1 s) (fun ag p=>rfl) h
 have h3:=(rZ (l:=k.p.Chains) (fun s=>mZ k.b k.l s) (T:=true) (fun ag p=>rfl) h2).1
 intro s hs
 have hr:=(r6 h0 s hs).2
 rcases List.mem_append.1 hs with hm|hm
 ·have:=h1 s hm
  rwa [hr] at this
 ·obtain ⟨c,hc,rfl⟩:=List.mem_map.1 hm
  have:=Kj (h3 c hc)
  have e:eg k.l c.First.Coin=dT k c.First.Coin:=rfl
  rwa [e,hr] at this
theorem wS {r:bu} {s:aO} (h:fh b r s=true):(jf r s).1=aR .i64 (ay .i64 r.Value r.Depth) (s.Leaves.length:Int)∧0≤r.Depth∧r.Depth≤5:=by
 obtain ⟨h1,h2,h3⟩:=Kc h
 obtain ⟨h4,h5⟩:=Kd h1
 obtain ⟨a0,a1,a2,a3,a4⟩:=Kg h4
 rw [h5] at h2 h3
 have hn:=cfU (rfl:iy r.Depth s.Node=iy r.Depth s.Node) h2
 refine ⟨?_,a2,a3⟩
 rw [Kb a2 a3 (by omega) (by omega) a0 a1 a4 h3]
 unfold jf
 simp only [↓ab]
 rw [if_neg (by simp;omega),if_neg (by simp;omega),if_neg (by simp;omega),if_neg (by simp;omega),if_neg (by simp [h2])]
theorem Kk (h0:gF k=true) (h:je k=true):kf k=(dt k.p).foldl (fun a s=>ax .i64 a (aR .i64 (ay .i64 (gt k.l (cG k.l s)).Value (gt k.l (cG k.l s)).Depth) (s.Leaves.length:Int))) 0:=by
 have hr:=r6 h0
 have hp:=Bc h0 h
 unfold kf
 simp only [↓ab]
 refine (Ba (l:=k.p.Spends) (fun s=>(jf (dT k s.Coin).1 s).1) _ (by intro ag a i;first|(dsimp only;done)|(dsimp only;exact Eq.refl _))).trans ?_
 refine (Ba (l:=k.p.Chains) (fun h=>(lv k.l h).1) (fun x=>x) (fun ag a i=>rfl)).trans ?_
 unfold dt at hr hp⊢
 rw [List.foldl_append,List.foldl_map]
 have e1: ∀(q:List aO) (a:Int),(∀s∈q,s∈k.p.Spends)→q.foldl (fun a s=>ax .i64 a ((jf (dT k s.Coin).1 s).1)) a=q.foldl (fun a s=>ax .i64 a (aR .i64 (ay .i64 (gt k.l (cG k.l s)).Value (gt k.l (cG k.l s)).Depth) (s.Leaves.length:Int))) a:=by
  intro q
  induction q with
  | nil=>intro a _;rfl
  | cons s q ih=>
   intro a hq
   have hs:s∈k.p.Spends++k.p.Chains.map (fun h=>h.First):=List.mem_append_left _ (hq s List.mem_cons_self)
   rw [List.foldl_cons,List.foldl_cons,(hr s hs).2,(wS (hp s hs)).1]
   exact ih _ fun x hx=>hq x (List.mem_cons_of_mem _ hx)
 have e2: ∀(q:List bX) (a:Int),(∀s∈q,s∈k.p.Chains)→q.foldl (fun a h=>ax .i64 a ((lv k.l h).1)) a=q.foldl (fun a h=>ax .i64 a (aR .i64 (ay .i64 (gt k.l (cG k.l h.First)).Value (gt k.l (cG k.l h.First)).Depth) (h.First.Leaves.length:Int))) a:=by
  intro q
  induction q with
  | nil=>intro a _;rfl
  | cons c q ih=>
   intro a hq
   have hs:c.First∈k.p.Spends++k.p.Chains.map (fun h=>h.First):=List.mem_append_right _ (List.mem_map_of_mem (hq c List.mem_cons_self))
   have ec:(lv k.l c).1=(jf (gt k.l (cG k.l c.First)) c.First).1:=by
    have hc:eg k.l c.First.Coin=(gt k.l (cG k.l c.First),true):=(hr _ hs).2
    unfold lv
    simp only [ab,hc]
    rfl
   rw [List.foldl_cons,List.foldl_cons,ec,(wS (hp _ hs)).1]
   exact ih _ fun x hx=>hq x (List.mem_cons_of_mem _ hx)
 rw [e1 _ _ fun _ h=>h,e2 _ _ fun _ h=>h]
theorem Bd {σ:Type} {c bad:σ→Bool} {nx:σ→σ} {T:Bool} {F G:(σ→Bool)→σ→Bool} {d:σ→Bool} (hd: ∀a,d a=false)
  (hF: ∀ag a,F ag a=if c a=true then (if bad a=true then false else ag (nx a)) else true) (hG: ∀ag a,G ag a=if c a=true then (if bad a=true then false else ag (nx a)) else T):
  ∀(n:Nat) (a:σ),am n F d a=true→am n G d a=T
 | 0,a,h=>by rw [am,hd] at h;cases h
 | n+1,a,h=>by
  rw [am,hF] at h
  rw [am,hG]
  by_cases h1:c a=true
  ·rw [if_pos h1] at h⊢
   by_cases h2:bad a=true
   ·rw [if_pos h2] at h;cases h
   ·rw [if_neg h2] at h⊢
    exact Bd hd hF hG n _ h
  ·rw [if_neg h1]
theorem Kl (h0:0<(gG ⟨b,l,y,v,p⟩).length) (h:ke ⟨b,l,y,v,p⟩=true):((y !=0)==(decide ((p.Escrow.length:Int)>0)))=true:=by
 unfold ke at h
 simp only [↓ab] at h
 by_cases hy:y=0
 ·rw [if_pos (by simpa using hy)] at h
  have h1:(p.Escrow.length:Int)=0:=eq_of_beq h
  simp [hy]
  exact List.eq_nil_of_length_eq_zero (by omega)
 ·rw [if_neg (by simpa using hy)] at h
  split at h
  ·cases h
  ·rename_i h1
   have h2:((gG ⟨b,l,y,v,p⟩).length:Int)=p.Escrow.length:=by simpa using h1
   have h3:(p.Escrow.length:Int)>0:=by omega
   have h4:(y !=0)=true:=by simpa using hy
   rw [h4,decide_eq_true h3];rfl
end
def Be (y:Int) (v:bO) (p_:bR) (x14:Int×Int) (s:Int):Bool:=
 (ab (kd p_) (fun (x54:(List cy))=>(am (((x54.length:Int) - 0).toNat+1) (fun (ag57:(Int×List (List Int))→Bool) (p57:Int×List (List Int))=>(if (decide (p57.1<(x54.length:Int))) then (if (List.contains p57.2 [(gt x54 p57.1).A,(gt x54 p57.1).B]) then false else (ag57 ((p57.1+1),(fp p57.2 [(gt x54 p57.1).A,(gt x54 p57.1).B])))) else (if (x14.1==v.Amount) then (if (s==x14.1) then ((y !=0)==(decide ((p_.Escrow.length:Int)>0))) else false) else false))) (fun _=>default) (0,([]:List (List Int))))))
def Bf (b:a8) (l:List bu) (y:Int) (v:bO) (p_:bR) (x14:Int×Int) (a:List aO):Bool:=
 (am (((a.length:Int) - 0).toNat+1) (fun (ag28:(Int×Int)→Bool) (p28:Int×Int)=>(if (decide (p28.2<(a.length:Int))) then (ab (ja l ((gt a p28.2).Coin.Bank) ((gt a p28.2).Coin.Epoch) ((gt a p28.2).Coin.Denom)) (fun (x32:Int)=>(if (decide (x32<0)) then false else (if (decide (x32≥(l.length:Int))) then false else (ab (kb (gt l x32) (v.Time)) (fun (x40:Bool)=>(if (!x40) then false else (if (decide ((gt l x32).Depth<0)) then false else (if (decide ((gt l x32).Depth>5)) then false else (ag28 ((ax .i64 p28.1 (aR .i64 (ay .i64 (gt l x32).Value (gt l x32).Depth) ((gt a p28.2).Leaves.length:Int))),(p28.2+1)))))))))))) else (ab (kd p_) (fun (x54:(List cy))=>(am (((x54.length:Int) - 0).toNat+1) (fun (ag57:(Int×List (List Int))→Bool) (p57:Int×List (List Int))=>(if (decide (p57.1<(x54.length:Int))) then (if (List.contains p57.2 [(gt x54 p57.1).A,(gt x54 p57.1).B]) then false else (ag57 ((p57.1+1),(fp p57.2 [(gt x54 p57.1).A,(gt x54 p57.1).B])))) else (if (x14.1==v.Amount) then (if (p28.1==x14.1) then ((y !=0)==(decide ((p_.Escrow.length:Int)>0))) else false) else false))) (fun _=>default) (0,([]:List (List Int)))))))) (fun _=>default) (0,0))
theorem Km (b:a8) (l:List bu) (y:Int) (v:bO) (p:bR):rC b l y v p=true:=by
 unfold rC
 rw [i3,J4,if_neg (by decide),i3]
 by_cases hg:jX p=true
 ·rw [if_pos hg]
 rw [if_neg hg]
 by_cases hl:decide ((l.length:Int)>20)=true
 ·rw [if_pos hl]
 rw [if_neg hl,i3]
 split
 ·rename_i h1
  simp only [bne_iff_ne,ne_eq] at h1
  rw [J5 h1];rfl
 rename_i h1
 have h:(iA b l y v p).2=0:=by simpa using h1
 obtain ⟨e0,e3,e4,e6,e7,e8,e9,e10⟩:=J6 h
 have hv:=J7 e0
 have hr:=r6 (k:=⟨b,l,y,v,p⟩) e3
 have ht:=Ki (k:=⟨b,l,y,v,p⟩) e3 e6
 have hp:=Bc (k:=⟨b,l,y,v,p⟩) e3 e4
 have ha:=Kk (k:=⟨b,l,y,v,p⟩) e3 e4
 rw [i3]
 refine (wR (l:=p.Chains) (fun h:bX=>h.First) (Bf b l y v p (iA b l y v p)) (by intro ag i a;rfl)).trans ?_
 unfold Bf
 have hF:(rA p.Spends++p.Chains.map fun h=>h.First)=dt p:=rfl
 rw [hF]
 have hmem: ∀i:Int,0≤i→i<(dt p).length→gt (dt p) i∈dt p:=fun i h0 h1=>ca (by omega)
 have hstep: ∀(i:Int),0≤i→i<(dt p).length→ ∀{R:Type} (A B:R),(if decide (cG l (gt (dt p) i)<0)=true then B else if decide (cG l (gt (dt p) i)≥(l.length:Int))=true then B else if (!kb (gt l (cG l (gt (dt p) i))) v.Time)=true then B else if decide ((gt l (cG l (gt (dt p) i))).Depth<0)=true then B else if decide ((gt l (cG l (gt (dt p) i))).Depth>5)=true then B else A)=A:=by
  intro i h0 h1 R A B
  have hm:=hmem i h0 h1
  have q1:=(hr _ hm).1
  have q2:=ht _ hm
  have q3:=wS (hp _ hm)
  have q4:cG l (gt (dt p) i)<l.length:=rO rfl
  simp only at q1 q2 q3
  rw [if_neg (by rw [decide_eq_true_eq];omega),if_neg (by rw [decide_eq_true_eq];omega),if_neg (by rw [q2];decide),if_neg (by rw [decide_eq_true_eq];omega),if_neg (by rw [decide_eq_true_eq];omega)]
 refine (wQ (dt p) (fun a i=>(a,i)) (fun a s=>ax .i64 a (aR .i64 (ay .i64 (gt l (cG l s)).Value (gt l (cG l s)).Depth) (s.Leaves.length:Int))) (Be y v p (iA b l y v p)) (by intro ag a i h0 h1;dsimp only;rw [if_pos (by simpa using h1)];exact hstep i h0 h1 _ _) (by intro ag a;dsimp only;rw [if_neg (by simp)];rfl)).trans ?_
 unfold Be
 rw [i3]
 rw [←ha,e9,e10]
 have hn:0<(gG ⟨b,l,y,v,p⟩).length:=by
  rw [J9]
  by_cases hz:p.Spends.length+p.Chains.length=0
  ·exfalso
   have h5:=J_ (k:=⟨b,l,y,v,p⟩) (List.eq_nil_of_length_eq_zero (by show p.Spends.length=0;omega)) (List.eq_nil_of_length_eq_zero (by show p.Chains.length=0;omega))
   have:=J8 hv
   rw [h5] at e9
   simp only at this
   omega
  ·show 0<p.Spends.length+p.Chains.length
   omega
 unfold lr at e7
 simp only [↓ab] at e7
 refine Bd (T:=true) (fun a=>rfl) (fun ag a=>rfl) (fun ag a=> ?_) _ _ e7
 rw [if_pos (show (v.Amount==v.Amount)=true by simp),if_pos (show (v.Amount==v.Amount)=true by simp),Kl hn e8]
end Go.Proofs.YtcbbjfckokckcaaGreatDoor
