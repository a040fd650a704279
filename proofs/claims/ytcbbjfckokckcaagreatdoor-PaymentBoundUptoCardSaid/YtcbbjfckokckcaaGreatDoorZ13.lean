/- Texts of this proof, one after the other: EL, U6, L1. -/
import Derived.Test.YtcbbjfckokckcaaGreatDoorZ11
import Derived.Test.YtcbbjfckokckcaaGreatDoorZ12
import Derived.Test.YtcbbjfckokckcaaGreatDoorZ7
set_option linter.unusedVariables false
set_option linter.unusedSimpArgs false
namespace Go.Proofs.YtcbbjfckokckcaaGreatDoor
open Go.RowKit
structure Ck where
  v:V
  ok:Bool
  e:Int
instance:Inhabited Ck:=⟨⟨.un,false,0⟩⟩
def eCk (x:Ck):V:= .fn 111 [.pp 1 false x.v,.pp 1 false (.int .i64 x.e)]
attribute [go_sem] eCk
def ckl (b:bd) (l:List bB) (y:Int) (v:bL) (p:b9):List Ck:=
  [⟨.opq (dv 44 [cf ⟨b,l,y,v,p⟩]),jK ⟨b,l,y,v,p⟩,1⟩,
   ⟨.fn 45 [.pp 4 true (jB p)],qT p,5⟩,
   ⟨.fn 47 [.pp 4 true (jB p),.pp 35 true (cA v)],qU p v,14⟩,
   ⟨.opq (dv 48 [cf ⟨b,l,y,v,p⟩]),qW ⟨b,l,y,v,p⟩,18⟩,
   ⟨.opq (dv 49 [cf ⟨b,l,y,v,p⟩]),rb ⟨b,l,y,v,p⟩,11⟩,
   ⟨.opq (dv 50 [cf ⟨b,l,y,v,p⟩]),jP ⟨b,l,y,v,p⟩,16⟩,
   ⟨.opq (dv 51 [cf ⟨b,l,y,v,p⟩]),rc ⟨b,l,y,v,p⟩,15⟩,
   ⟨.opq (dv 52 [cf ⟨b,l,y,v,p⟩]),re ⟨b,l,y,v,p⟩,8⟩,
   ⟨.opq (dv 53 [cf ⟨b,l,y,v,p⟩]),rp ⟨b,l,y,v,p⟩,12⟩,
   ⟨.fn 54 [.pp 47 true (cf ⟨b,l,y,v,p⟩),.pp 35 true (cA v)],ot ⟨b,l,y,v,p⟩ v,17⟩]
section
variable (b:bd) (l:List bB) (y:Int) (v:bL) (p:b9)
theorem JM:(ckl b l y v p).length=10:=rfl
theorem JN {k:Nat} (h:k<10):(gt (ckl b l y v p) k).e≠0:=by
  match k,h with
  | 0,_=>exact (by decide:(1:Int)≠0)
  | 1,_=>exact (by decide:(5:Int)≠0)
  | 2,_=>exact (by decide:(14:Int)≠0)
  | 3,_=>exact (by decide:(18:Int)≠0)
  | 4,_=>exact (by decide:(11:Int)≠0)
  | 5,_=>exact (by decide:(16:Int)≠0)
  | 6,_=>exact (by decide:(15:Int)≠0)
  | 7,_=>exact (by decide:(8:Int)≠0)
  | 8,_=>exact (by decide:(12:Int)≠0)
  | 9,_=>exact (by decide:(17:Int)≠0)
variable {b l y v p}
theorem JO (hS:gC p) (hl:l.length≤100) {k:Nat} (h:k<10):bn En 111 [.pp 1 false (gt (ckl b l y v p) k).v,.pp 1 false (.int .i64 (gt (ckl b l y v p) k).e)] (.int .i64 (if (gt (ckl b l y v p) k).ok=true then 0 else (gt (ckl b l y v p) k).e)) []:=by
  have hK:okK (⟨b,l,y,v,p⟩:bU):=⟨hl,hS⟩
  match k,h with
  | 0,_=>exact lc (kq (Jb _ hK).ok) 1
  | 1,_=>exact JK (by have:=(Jc p hS).ok;simp only [jB];exact this) 5
  | 2,_=>exact AY (by have:=(Jd p v).ok;simp only [jB];exact this) 14
  | 3,_=>exact lc (kq (Je _ hK).ok) 18
  | 4,_=>exact lc (kq (Ju _ hK).ok) 11
  | 5,_=>exact lc (kq (Jw _ hK).ok) 16
  | 6,_=>exact lc (kq (Jy _ hK).ok) 15
  | 7,_=>exact lc (kq (JA _ hK).ok) 8
  | 8,_=>exact lc (kq (JH _ hK).ok) 12
  | 9,_=>exact AY (JJ _ v hK).ok 17
theorem JP {L:List Ck} {k:Nat} (h:k<L.length):(L.map fun x=>(x.ok,x.e)).drop k=((gt L k).ok,(gt L k).e)::(L.map fun x=>(x.ok,x.e)).drop (k+1):=by
  have hk:k<(L.map fun x=>(x.ok,x.e)).length:=by simpa using h
  rw [List.drop_eq_getElem_cons hk]
  simp [gt,List.getD_eq_getElem?_getD,h]
end
theorem ckQ {P:Prop} (h:P:=by (simp only [ckl,eCk,cf,jB,cA,List.map_cons,List.map_nil,go_sem,aE,aF,List.length_replicate,aD,Int.toNat_natCast,↓reduceIte,Nat.reduceEqDiff,Nat.reduceAdd,Int.reduceAdd,Nat.reduceMul,Nat.reduceLeDiff,Nat.reduceLT,Int.reduceLE,Int.reduceLT,Int.reduceNeg,Int.reduceToNat,bp,gw,gW,cH,cI,mtO,mtB,mt,mtL,aL,aK,ltV,ltL,ltB,eq_self,or_true,true_or,or_self,and_self]<;>fail)):P:=h
end Go.Proofs.YtcbbjfckokckcaaGreatDoor
namespace Go.Proofs.YtcbbjfckokckcaaGreatDoor
open Go.RowKit
set_option linter.unusedSimpArgs false
set_option maxHeartbeats 2000000 in
set_option maxRecDepth 100000 in
theorem AZ (b:bd) (l:(List bB)) (y:Int) (v:bL) (p_:b9) (hp0:gC p_) (hp1:l.length≤100):CM En (eP b l y v p_) 11 [(bQ b),.sl none 11 true (l.map bR),.int .i64 y,(cA v),.agg [.int .i64 p_.Number,.sl none 80 true (p_.Spends.map aY),.sl none 81 true (p_.Chains.map bz),.sl none 5 true (p_.Escrow.map bH)]] (fun y=> .tup [.int .i64 y.1,.int .i64 y.2]) (fun _=> []):=by
 refine cmQ fun r hM=> ?_
 rw [eP.eq_1] at hM
 refine aw al ar [2] Tryz.func11 rfl Tryz.ntmps11 (by kernel_rfl) fun hw=>au ?_
 refine spQ ?_
 replace hw:=nzQ hw
 refine gu ?_
 try refine spQ ?_
 refine gV _ (⟨[(8,.pp 35 true ((cA v))),(9,.pp 4 true (.agg [.int .i64 p_.Number,.sl none 80 true (p_.Spends.map aY),.sl none 81 true (p_.Chains.map bz),.sl none 5 true (p_.Escrow.map bH)])),(12,.pp 47 true (.agg (.int .i64 b.Group.P:: .int .i64 b.Group.Q:: .int .i64 b.Group.G:: .int .i64 b.G1:: .int .i64 b.G2:: .int .i64 b.H:: .sl none 11 true (l.map bR):: .int .i64 y:: .int .u8 (gt v.Payee 0):: .int .u8 (gt v.Payee 1):: .int .u8 (gt v.Payee 2):: .int .u8 (gt v.Payee 3):: .int .u8 (gt v.Payee 4):: .int .u8 (gt v.Payee 5):: .int .u8 (gt v.Payee 6):: .int .u8 (gt v.Payee 7):: .int .u8 (gt v.Payee 8):: .int .u8 (gt v.Payee 9):: .int .u8 (gt v.Payee 10):: .int .u8 (gt v.Payee 11):: .int .u8 (gt v.Payee 12):: .int .u8 (gt v.Payee 13):: .int .u8 (gt v.Payee 14):: .int .u8 (gt v.Payee 15):: .int .u8 (gt v.Payee 16):: .int .u8 (gt v.Payee 17):: .int .u8 (gt v.Payee 18):: .int .u8 (gt v.Payee 19):: .int .u8 (gt v.Payee 20):: .int .u8 (gt v.Payee 21):: .int .u8 (gt v.Payee 22):: .int .u8 (gt v.Payee 23):: .int .u8 (gt v.Payee 24):: .int .u8 (gt v.Payee 25):: .int .u8 (gt v.Payee 26):: .int .u8 (gt v.Payee 27):: .int .u8 (gt v.Payee 28):: .int .u8 (gt v.Payee 29):: .int .u8 (gt v.Payee 30):: .int .u8 (gt v.Payee 31):: .int .i64 v.Amount:: .int .i64 v.Time:: .int .i64 v.Number:: .int .i64 p_.Number:: .sl none 80 true (p_.Spends.map aY):: .sl none 81 true (p_.Chains.map bz):: .sl none 5 true (p_.Escrow.map bH)::[])))],[(1,.pvar 35 true ((cA v))),(2,.pvar 4 true (.agg [.int .i64 p_.Number,.sl none 80 true (p_.Spends.map aY),.sl none 81 true (p_.Chains.map bz),.sl none 5 true (p_.Escrow.map bH)])),(3,.pvar 47 true (.agg (.int .i64 b.Group.P:: .int .i64 b.Group.Q:: .int .i64 b.Group.G:: .int .i64 b.G1:: .int .i64 b.G2:: .int .i64 b.H:: .sl none 11 true (l.map bR):: .int .i64 y:: .int .u8 (gt v.Payee 0):: .int .u8 (gt v.Payee 1):: .int .u8 (gt v.Payee 2):: .int .u8 (gt v.Payee 3):: .int .u8 (gt v.Payee 4):: .int .u8 (gt v.Payee 5):: .int .u8 (gt v.Payee 6):: .int .u8 (gt v.Payee 7):: .int .u8 (gt v.Payee 8):: .int .u8 (gt v.Payee 9):: .int .u8 (gt v.Payee 10):: .int .u8 (gt v.Payee 11):: .int .u8 (gt v.Payee 12):: .int .u8 (gt v.Payee 13):: .int .u8 (gt v.Payee 14):: .int .u8 (gt v.Payee 15):: .int .u8 (gt v.Payee 16):: .int .u8 (gt v.Payee 17):: .int .u8 (gt v.Payee 18):: .int .u8 (gt v.Payee 19):: .int .u8 (gt v.Payee 20):: .int .u8 (gt v.Payee 21):: .int .u8 (gt v.Payee 22):: .int .u8 (gt v.Payee 23):: .int .u8 (gt v.Payee 24):: .int .u8 (gt v.Payee 25):: .int .u8 (gt v.Payee 26):: .int .u8 (gt v.Payee 27):: .int .u8 (gt v.Payee 28):: .int .u8 (gt v.Payee 29):: .int .u8 (gt v.Payee 30):: .int .u8 (gt v.Payee 31):: .int .i64 v.Amount:: .int .i64 v.Time:: .int .i64 v.Number:: .int .i64 p_.Number:: .sl none 80 true (p_.Spends.map aY):: .sl none 81 true (p_.Chains.map bz):: .sl none 5 true (p_.Escrow.map bH)::[])))],4⟩:St) ((((gU (S:=⟨_,_,_⟩) 1 (n:=35) (g:=true) (d:=(cA v)) clQ clQ).trans (wF (S:=⟨_,_,_⟩) 8 1 (n:=35) (g:=true) (d:=(cA v)) clQ clQ)).trans ((gU (S:=⟨_,_,_⟩) 2 (n:=4) (g:=true) (d:= .agg [.int .i64 p_.Number,.sl none 80 true (p_.Spends.map aY),.sl none 81 true (p_.Chains.map bz),.sl none 5 true (p_.Escrow.map bH)]) clQ clQ).trans (wF (S:=⟨_,_,_⟩) 9 2 (n:=4) (g:=true) (d:= .agg [.int .i64 p_.Number,.sl none 80 true (p_.Spends.map aY),.sl none 81 true (p_.Chains.map bz),.sl none 5 true (p_.Escrow.map bH)]) clQ clQ))).trans ((gU (S:=⟨_,_,_⟩) 3 (n:=47) (g:=true) (d:= .agg (.int .i64 b.Group.P:: .int .i64 b.Group.Q:: .int .i64 b.Group.G:: .int .i64 b.G1:: .int .i64 b.G2:: .int .i64 b.H:: .sl none 11 true (l.map bR):: .int .i64 y:: .int .u8 (gt v.Payee 0):: .int .u8 (gt v.Payee 1):: .int .u8 (gt v.Payee 2):: .int .u8 (gt v.Payee 3):: .int .u8 (gt v.Payee 4):: .int .u8 (gt v.Payee 5):: .int .u8 (gt v.Payee 6):: .int .u8 (gt v.Payee 7):: .int .u8 (gt v.Payee 8):: .int .u8 (gt v.Payee 9):: .int .u8 (gt v.Payee 10):: .int .u8 (gt v.Payee 11):: .int .u8 (gt v.Payee 12):: .int .u8 (gt v.Payee 13):: .int .u8 (gt v.Payee 14):: .int .u8 (gt v.Payee 15):: .int .u8 (gt v.Payee 16):: .int .u8 (gt v.Payee 17):: .int .u8 (gt v.Payee 18):: .int .u8 (gt v.Payee 19):: .int .u8 (gt v.Payee 20):: .int .u8 (gt v.Payee 21):: .int .u8 (gt v.Payee 22):: .int .u8 (gt v.Payee 23):: .int .u8 (gt v.Payee 24):: .int .u8 (gt v.Payee 25):: .int .u8 (gt v.Payee 26):: .int .u8 (gt v.Payee 27):: .int .u8 (gt v.Payee 28):: .int .u8 (gt v.Payee 29):: .int .u8 (gt v.Payee 30):: .int .u8 (gt v.Payee 31):: .int .i64 v.Amount:: .int .i64 v.Time:: .int .i64 v.Number:: .int .i64 p_.Number:: .sl none 80 true (p_.Spends.map aY):: .sl none 81 true (p_.Chains.map bz):: .sl none 5 true (p_.Escrow.map bH)::[])) clQ clQ).trans (wF (S:=⟨_,_,_⟩) 12 3 (n:=47) (g:=true) (d:= .agg (.int .i64 b.Group.P:: .int .i64 b.Group.Q:: .int .i64 b.Group.G:: .int .i64 b.G1:: .int .i64 b.G2:: .int .i64 b.H:: .sl none 11 true (l.map bR):: .int .i64 y:: .int .u8 (gt v.Payee 0):: .int .u8 (gt v.Payee 1):: .int .u8 (gt v.Payee 2):: .int .u8 (gt v.Payee 3):: .int .u8 (gt v.Payee 4):: .int .u8 (gt v.Payee 5):: .int .u8 (gt v.Payee 6):: .int .u8 (gt v.Payee 7):: .int .u8 (gt v.Payee 8):: .int .u8 (gt v.Payee 9):: .int .u8 (gt v.Payee 10):: .int .u8 (gt v.Payee 11):: .int .u8 (gt v.Payee 12):: .int .u8 (gt v.Payee 13):: .int .u8 (gt v.Payee 14):: .int .u8 (gt v.Payee 15):: .int .u8 (gt v.Payee 16):: .int .u8 (gt v.Payee 17):: .int .u8 (gt v.Payee 18):: .int .u8 (gt v.Payee 19):: .int .u8 (gt v.Payee 20):: .int .u8 (gt v.Payee 21):: .int .u8 (gt v.Payee 22):: .int .u8 (gt v.Payee 23):: .int .u8 (gt v.Payee 24):: .int .u8 (gt v.Payee 25):: .int .u8 (gt v.Payee 26):: .int .u8 (gt v.Payee 27):: .int .u8 (gt v.Payee 28):: .int .u8 (gt v.Payee 29):: .int .u8 (gt v.Payee 30):: .int .u8 (gt v.Payee 31):: .int .i64 v.Amount:: .int .i64 v.Time:: .int .i64 v.Number:: .int .i64 p_.Number:: .sl none 80 true (p_.Spends.map aY):: .sl none 81 true (p_.Chains.map bz):: .sl none 5 true (p_.Escrow.map bH)::[])) clQ clQ))) sbQ sbQ ?_
 try refine spQ ?_
 refine bO 65 26 [23,24,25,26,27,28,29,30,31,32,33,34,35,36,37,38,39,40,41,42,43,44,45,46,47,48] [] ([[],[0],[0,1],[],[0,1,2,3],[],[0,1,2,3,4,5],[],[7],[0,1,2,3,4,5,6,7,8],[],[10],[0,1,2,3,4,5,6,7,8,9,10,11],[],[13],[0,1,2,3,4,5,6,7,8,9,10,11,12,13,14],[],[16],[0,1,2,3,4,5,6,7,8,9,10,11,12,13,14,15,16,17],[],[19],[0,1,2,3,4,5,6,7,8,9,10,11,12,13,14,15,16,17,18,19,20],[],[22],[0,1,2,3,4,5,6,7,8,9,10,11,12,13,14,15,16,17,18,19,20,21,22,23],[]]++[List.range 26,List.range 27,List.range 28]) [] (by kernel_rfl) (by exact alQ) ?_
 refine spQ ?_
 refine br (ir (x:= .opq (dv 44 [.agg (.int .i64 b.Group.P:: .int .i64 b.Group.Q:: .int .i64 b.Group.G:: .int .i64 b.G1:: .int .i64 b.G2:: .int .i64 b.H:: .sl none 11 true (l.map bR):: .int .i64 y:: .int .u8 (gt v.Payee 0):: .int .u8 (gt v.Payee 1):: .int .u8 (gt v.Payee 2):: .int .u8 (gt v.Payee 3):: .int .u8 (gt v.Payee 4):: .int .u8 (gt v.Payee 5):: .int .u8 (gt v.Payee 6):: .int .u8 (gt v.Payee 7):: .int .u8 (gt v.Payee 8):: .int .u8 (gt v.Payee 9):: .int .u8 (gt v.Payee 10):: .int .u8 (gt v.Payee 11):: .int .u8 (gt v.Payee 12):: .int .u8 (gt v.Payee 13):: .int .u8 (gt v.Payee 14):: .int .u8 (gt v.Payee 15):: .int .u8 (gt v.Payee 16):: .int .u8 (gt v.Payee 17):: .int .u8 (gt v.Payee 18):: .int .u8 (gt v.Payee 19):: .int .u8 (gt v.Payee 20):: .int .u8 (gt v.Payee 21):: .int .u8 (gt v.Payee 22):: .int .u8 (gt v.Payee 23):: .int .u8 (gt v.Payee 24):: .int .u8 (gt v.Payee 25):: .int .u8 (gt v.Payee 26):: .int .u8 (gt v.Payee 27):: .int .u8 (gt v.Payee 28):: .int .u8 (gt v.Payee 29):: .int .u8 (gt v.Payee 30):: .int .u8 (gt v.Payee 31):: .int .i64 v.Amount:: .int .i64 v.Time:: .int .i64 v.Number:: .int .i64 p_.Number:: .sl none 80 true (p_.Spends.map aY):: .sl none 81 true (p_.Chains.map bz):: .sl none 5 true (p_.Escrow.map bH)::[])])) ld 1) clQ clQ ?_
 refine spQ ?_
 refine br (ir (x:= .fn 45 [.pp 4 true (.agg [.int .i64 p_.Number,.sl none 80 true (p_.Spends.map aY),.sl none 81 true (p_.Chains.map bz),.sl none 5 true (p_.Escrow.map bH)])]) wG 5) clQ clQ ?_
 refine spQ ?_
 refine br (ir (x:= .fn 47 [.pp 4 true (.agg [.int .i64 p_.Number,.sl none 80 true (p_.Spends.map aY),.sl none 81 true (p_.Chains.map bz),.sl none 5 true (p_.Escrow.map bH)]),.pp 35 true ((cA v))]) wG 14) clQ clQ ?_
 refine spQ ?_
 refine br (ir (x:= .opq (dv 48 [.agg (.int .i64 b.Group.P:: .int .i64 b.Group.Q:: .int .i64 b.Group.G:: .int .i64 b.G1:: .int .i64 b.G2:: .int .i64 b.H:: .sl none 11 true (l.map bR):: .int .i64 y:: .int .u8 (gt v.Payee 0):: .int .u8 (gt v.Payee 1):: .int .u8 (gt v.Payee 2):: .int .u8 (gt v.Payee 3):: .int .u8 (gt v.Payee 4):: .int .u8 (gt v.Payee 5):: .int .u8 (gt v.Payee 6):: .int .u8 (gt v.Payee 7):: .int .u8 (gt v.Payee 8):: .int .u8 (gt v.Payee 9):: .int .u8 (gt v.Payee 10):: .int .u8 (gt v.Payee 11):: .int .u8 (gt v.Payee 12):: .int .u8 (gt v.Payee 13):: .int .u8 (gt v.Payee 14):: .int .u8 (gt v.Payee 15):: .int .u8 (gt v.Payee 16):: .int .u8 (gt v.Payee 17):: .int .u8 (gt v.Payee 18):: .int .u8 (gt v.Payee 19):: .int .u8 (gt v.Payee 20):: .int .u8 (gt v.Payee 21):: .int .u8 (gt v.Payee 22):: .int .u8 (gt v.Payee 23):: .int .u8 (gt v.Payee 24):: .int .u8 (gt v.Payee 25):: .int .u8 (gt v.Payee 26):: .int .u8 (gt v.Payee 27):: .int .u8 (gt v.Payee 28):: .int .u8 (gt v.Payee 29):: .int .u8 (gt v.Payee 30):: .int .u8 (gt v.Payee 31):: .int .i64 v.Amount:: .int .i64 v.Time:: .int .i64 v.Number:: .int .i64 p_.Number:: .sl none 80 true (p_.Spends.map aY):: .sl none 81 true (p_.Chains.map bz):: .sl none 5 true (p_.Escrow.map bH)::[])])) ld 18) clQ clQ ?_
 refine spQ ?_
 refine br (ir (x:= .opq (dv 49 [.agg (.int .i64 b.Group.P:: .int .i64 b.Group.Q:: .int .i64 b.Group.G:: .int .i64 b.G1:: .int .i64 b.G2:: .int .i64 b.H:: .sl none 11 true (l.map bR):: .int .i64 y:: .int .u8 (gt v.Payee 0):: .int .u8 (gt v.Payee 1):: .int .u8 (gt v.Payee 2):: .int .u8 (gt v.Payee 3):: .int .u8 (gt v.Payee 4):: .int .u8 (gt v.Payee 5):: .int .u8 (gt v.Payee 6):: .int .u8 (gt v.Payee 7):: .int .u8 (gt v.Payee 8):: .int .u8 (gt v.Payee 9):: .int .u8 (gt v.Payee 10):: .int .u8 (gt v.Payee 11):: .int .u8 (gt v.Payee 12):: .int .u8 (gt v.Payee 13):: .int .u8 (gt v.Payee 14):: .int .u8 (gt v.Payee 15):: .int .u8 (gt v.Payee 16):: .int .u8 (gt v.Payee 17):: .int .u8 (gt v.Payee 18):: .int .u8 (gt v.Payee 19):: .int .u8 (gt v.Payee 20):: .int .u8 (gt v.Payee 21):: .int .u8 (gt v.Payee 22):: .int .u8 (gt v.Payee 23):: .int .u8 (gt v.Payee 24):: .int .u8 (gt v.Payee 25):: .int .u8 (gt v.Payee 26):: .int .u8 (gt v.Payee 27):: .int .u8 (gt v.Payee 28):: .int .u8 (gt v.Payee 29):: .int .u8 (gt v.Payee 30):: .int .u8 (gt v.Payee 31):: .int .i64 v.Amount:: .int .i64 v.Time:: .int .i64 v.Number:: .int .i64 p_.Number:: .sl none 80 true (p_.Spends.map aY):: .sl none 81 true (p_.Chains.map bz):: .sl none 5 true (p_.Escrow.map bH)::[])])) ld 11) clQ clQ ?_
 refine spQ ?_
 refine br (ir (x:= .opq (dv 50 [.agg (.int .i64 b.Group.P:: .int .i64 b.Group.Q:: .int .i64 b.Group.G:: .int .i64 b.G1:: .int .i64 b.G2:: .int .i64 b.H:: .sl none 11 true (l.map bR):: .int .i64 y:: .int .u8 (gt v.Payee 0):: .int .u8 (gt v.Payee 1):: .int .u8 (gt v.Payee 2):: .int .u8 (gt v.Payee 3):: .int .u8 (gt v.Payee 4):: .int .u8 (gt v.Payee 5):: .int .u8 (gt v.Payee 6):: .int .u8 (gt v.Payee 7):: .int .u8 (gt v.Payee 8):: .int .u8 (gt v.Payee 9):: .int .u8 (gt v.Payee 10):: .int .u8 (gt v.Payee 11):: .int .u8 (gt v.Payee 12):: .int .u8 (gt v.Payee 13):: .int .u8 (gt v.Payee 14):: .int .u8 (gt v.Payee 15):: .int .u8 (gt v.Payee 16):: .int .u8 (gt v.Payee 17):: .int .u8 (gt v.Payee 18):: .int .u8 (gt v.Payee 19):: .int .u8 (gt v.Payee 20):: .int .u8 (gt v.Payee 21):: .int .u8 (gt v.Payee 22):: .int .u8 (gt v.Payee 23):: .int .u8 (gt v.Payee 24):: .int .u8 (gt v.Payee 25):: .int .u8 (gt v.Payee 26):: .int .u8 (gt v.Payee 27):: .int .u8 (gt v.Payee 28):: .int .u8 (gt v.Payee 29):: .int .u8 (gt v.Payee 30):: .int .u8 (gt v.Payee 31):: .int .i64 v.Amount:: .int .i64 v.Time:: .int .i64 v.Number:: .int .i64 p_.Number:: .sl none 80 true (p_.Spends.map aY):: .sl none 81 true (p_.Chains.map bz):: .sl none 5 true (p_.Escrow.map bH)::[])])) ld 16) clQ clQ ?_
 refine spQ ?_
 refine br (ir (x:= .opq (dv 51 [.agg (.int .i64 b.Group.P:: .int .i64 b.Group.Q:: .int .i64 b.Group.G:: .int .i64 b.G1:: .int .i64 b.G2:: .int .i64 b.H:: .sl none 11 true (l.map bR):: .int .i64 y:: .int .u8 (gt v.Payee 0):: .int .u8 (gt v.Payee 1):: .int .u8 (gt v.Payee 2):: .int .u8 (gt v.Payee 3):: .int .u8 (gt v.Payee 4):: .int .u8 (gt v.Payee 5):: .int .u8 (gt v.Payee 6):: .int .u8 (gt v.Payee 7):: .int .u8 (gt v.Payee 8):: .int .u8 (gt v.Payee 9):: .int .u8 (gt v.Payee 10):: .int .u8 (gt v.Payee 11):: .int .u8 (gt v.Payee 12):: .int .u8 (gt v.Payee 13):: .int .u8 (gt v.Payee 14):: .int .u8 (gt v.Payee 15):: .int .u8 (gt v.Payee 16):: .int .u8 (gt v.Payee 17):: .int .u8 (gt v.Payee 18):: .int .u8 (gt v.Payee 19):: .int .u8 (gt v.Payee 20):: .int .u8 (gt v.Payee 21):: .int .u8 (gt v.Payee 22):: .int .u8 (gt v.Payee 23):: .int .u8 (gt v.Payee 24):: .int .u8 (gt v.Payee 25):: .int .u8 (gt v.Payee 26):: .int .u8 (gt v.Payee 27):: .int .u8 (gt v.Payee 28):: .int .u8 (gt v.Payee 29):: .int .u8 (gt v.Payee 30):: .int .u8 (gt v.Payee 31):: .int .i64 v.Amount:: .int .i64 v.Time:: .int .i64 v.Number:: .int .i64 p_.Number:: .sl none 80 true (p_.Spends.map aY):: .sl none 81 true (p_.Chains.map bz):: .sl none 5 true (p_.Escrow.map bH)::[])])) ld 15) clQ clQ ?_
 refine spQ ?_
 refine br (ir (x:= .opq (dv 52 [.agg (.int .i64 b.Group.P:: .int .i64 b.Group.Q:: .int .i64 b.Group.G:: .int .i64 b.G1:: .int .i64 b.G2:: .int .i64 b.H:: .sl none 11 true (l.map bR):: .int .i64 y:: .int .u8 (gt v.Payee 0):: .int .u8 (gt v.Payee 1):: .int .u8 (gt v.Payee 2):: .int .u8 (gt v.Payee 3):: .int .u8 (gt v.Payee 4):: .int .u8 (gt v.Payee 5):: .int .u8 (gt v.Payee 6):: .int .u8 (gt v.Payee 7):: .int .u8 (gt v.Payee 8):: .int .u8 (gt v.Payee 9):: .int .u8 (gt v.Payee 10):: .int .u8 (gt v.Payee 11):: .int .u8 (gt v.Payee 12):: .int .u8 (gt v.Payee 13):: .int .u8 (gt v.Payee 14):: .int .u8 (gt v.Payee 15):: .int .u8 (gt v.Payee 16):: .int .u8 (gt v.Payee 17):: .int .u8 (gt v.Payee 18):: .int .u8 (gt v.Payee 19):: .int .u8 (gt v.Payee 20):: .int .u8 (gt v.Payee 21):: .int .u8 (gt v.Payee 22):: .int .u8 (gt v.Payee 23):: .int .u8 (gt v.Payee 24):: .int .u8 (gt v.Payee 25):: .int .u8 (gt v.Payee 26):: .int .u8 (gt v.Payee 27):: .int .u8 (gt v.Payee 28):: .int .u8 (gt v.Payee 29):: .int .u8 (gt v.Payee 30):: .int .u8 (gt v.Payee 31):: .int .i64 v.Amount:: .int .i64 v.Time:: .int .i64 v.Number:: .int .i64 p_.Number:: .sl none 80 true (p_.Spends.map aY):: .sl none 81 true (p_.Chains.map bz):: .sl none 5 true (p_.Escrow.map bH)::[])])) ld 8) clQ clQ ?_
 refine spQ ?_
 refine br (ir (x:= .opq (dv 53 [.agg (.int .i64 b.Group.P:: .int .i64 b.Group.Q:: .int .i64 b.Group.G:: .int .i64 b.G1:: .int .i64 b.G2:: .int .i64 b.H:: .sl none 11 true (l.map bR):: .int .i64 y:: .int .u8 (gt v.Payee 0):: .int .u8 (gt v.Payee 1):: .int .u8 (gt v.Payee 2):: .int .u8 (gt v.Payee 3):: .int .u8 (gt v.Payee 4):: .int .u8 (gt v.Payee 5):: .int .u8 (gt v.Payee 6):: .int .u8 (gt v.Payee 7):: .int .u8 (gt v.Payee 8):: .int .u8 (gt v.Payee 9):: .int .u8 (gt v.Payee 10):: .int .u8 (gt v.Payee 11):: .int .u8 (gt v.Payee 12):: .int .u8 (gt v.Payee 13):: .int .u8 (gt v.Payee 14):: .int .u8 (gt v.Payee 15):: .int .u8 (gt v.Payee 16):: .int .u8 (gt v.Payee 17):: .int .u8 (gt v.Payee 18):: .int .u8 (gt v.Payee 19):: .int .u8 (gt v.Payee 20):: .int .u8 (gt v.Payee 21):: .int .u8 (gt v.Payee 22):: .int .u8 (gt v.Payee 23):: .int .u8 (gt v.Payee 24):: .int .u8 (gt v.Payee 25):: .int .u8 (gt v.Payee 26):: .int .u8 (gt v.Payee 27):: .int .u8 (gt v.Payee 28):: .int .u8 (gt v.Payee 29):: .int .u8 (gt v.Payee 30):: .int .u8 (gt v.Payee 31):: .int .i64 v.Amount:: .int .i64 v.Time:: .int .i64 v.Number:: .int .i64 p_.Number:: .sl none 80 true (p_.Spends.map aY):: .sl none 81 true (p_.Chains.map bz):: .sl none 5 true (p_.Escrow.map bH)::[])])) ld 12) clQ clQ ?_
 refine spQ ?_
 refine aH (ir (x:= .fn 54 [.pp 47 true (.agg (.int .i64 b.Group.P:: .int .i64 b.Group.Q:: .int .i64 b.Group.G:: .int .i64 b.G1:: .int .i64 b.G2:: .int .i64 b.H:: .sl none 11 true (l.map bR):: .int .i64 y:: .int .u8 (gt v.Payee 0):: .int .u8 (gt v.Payee 1):: .int .u8 (gt v.Payee 2):: .int .u8 (gt v.Payee 3):: .int .u8 (gt v.Payee 4):: .int .u8 (gt v.Payee 5):: .int .u8 (gt v.Payee 6):: .int .u8 (gt v.Payee 7):: .int .u8 (gt v.Payee 8):: .int .u8 (gt v.Payee 9):: .int .u8 (gt v.Payee 10):: .int .u8 (gt v.Payee 11):: .int .u8 (gt v.Payee 12):: .int .u8 (gt v.Payee 13):: .int .u8 (gt v.Payee 14):: .int .u8 (gt v.Payee 15):: .int .u8 (gt v.Payee 16):: .int .u8 (gt v.Payee 17):: .int .u8 (gt v.Payee 18):: .int .u8 (gt v.Payee 19):: .int .u8 (gt v.Payee 20):: .int .u8 (gt v.Payee 21):: .int .u8 (gt v.Payee 22):: .int .u8 (gt v.Payee 23):: .int .u8 (gt v.Payee 24):: .int .u8 (gt v.Payee 25):: .int .u8 (gt v.Payee 26):: .int .u8 (gt v.Payee 27):: .int .u8 (gt v.Payee 28):: .int .u8 (gt v.Payee 29):: .int .u8 (gt v.Payee 30):: .int .u8 (gt v.Payee 31):: .int .i64 v.Amount:: .int .i64 v.Time:: .int .i64 v.Number:: .int .i64 p_.Number:: .sl none 80 true (p_.Spends.map aY):: .sl none 81 true (p_.Chains.map bz):: .sl none 5 true (p_.Escrow.map bH)::[])),.pp 35 true ((cA v))]) wG 17) clQ clQ (fun hw1=> ?_)
 refine spQ ?_
 refine a7 (fun n S=> ∃k:Nat,k≤10∧n=11 - k∧S=(⟨[(8,.pp 35 true ((cA v))),(51,.own 30),(52,.int .i64 10),(53,.int .i64 (k:Int))],[(30,.own 116 1 false (some false) ((ckl b l y v p_).map eCk))],31⟩:St)∧io (((ckl b l y v p_).map fun x=>(x.ok,x.e)).drop k) v.Amount=r) 11 _ (ckQ) (ckQ) ⟨0,by omega,rfl,rfl,hM⟩ ?_
 clear hM
 rintro n S ⟨k,hk,rfl,rfl,hM⟩
 refine spQ ?_
 have hn:=JM b l y v p_
 refine aB (fun h1=> ?_) (fun h1=> ?_)
 ·have hk1:k<10:=by have:=nzQ h1;omega
  refine aa h1 ?_
  refine aO (by (try rw [List.length_map]);omega) ?_
  have he: ∀d,elt ((ckl b l y v p_).map eCk) k d=eCk (gt (ckl b l y v p_) k):=fun d=>bG (i:=(k:Int)) (by rw [hn];omega) d
  refine aa he ?_
  refine aO (by omega) ?_
  refine spQ ?_
  have hck:=JO (b:=b) (y:=y) (v:=v) hp0 hp1 hk1
  refine aH hck clQ clQ (fun hw2=> ?_)
  refine spQ ?_
  have hd:(((ckl b l y v p_).map fun x=>(x.ok,x.e)).drop k)=((gt (ckl b l y v p_) k).ok,(gt (ckl b l y v p_) k).e)::(((ckl b l y v p_).map fun x=>(x.ok,x.e)).drop (k+1)):=JP (by rw [hn];omega)
  have hz:=JN b l y v p_ hk1
  rw [hd] at hM
  cases hok:(gt (ckl b l y v p_) k).ok with
  | true=>
   rw [hok] at hM
   simp only [io] at hM
   have ha:ay .i64 (k:Int) 1=((k+1:Nat):Int):=by rw [aZ (by omega) (by omega)];rfl
   refine aa (And.intro hok ha) ?_
   refine aB (fun h2=>absurd h2 (by decide)) (fun h2=> ?_)
   refine aa (And.intro hok ha) ?_
   refine ⟨11 - (k+1),by omega,_,?_,k+1,by omega,rfl,rfl,hM⟩
   exact gR ckQ ckQ
  | false=>
   rw [hok] at hM
   refine aB (fun h2=> ?_) (fun h2=> ?_)
   ·refine spQ ?_
    simp only [io] at hM
    subst hM
    exact av lfQ
   ·exact absurd h2 (by simp [hok,hz])
 ·have hk1:k=10:=by have:=nzQ h1;omega
  subst hk1
  rw [List.drop_eq_nil_of_le (by rw [List.length_map,hn];decide)] at hM
  refine aa h1 ?_
  simp only [io] at hM
  subst hM
  exact av lfQ
set_option maxHeartbeats 2000000 in
set_option maxRecDepth 100000 in
instance JQ (b:bd) (l:(List bB)) (y:Int) (v:bL) (other:bL) (p_:b9):CM En (rr b l y v other p_) 3 [(bQ b),.sl none 11 true (l.map bR),.int .i64 y,(cA v),(cA other),.agg [.int .i64 p_.Number,.sl none 80 true (p_.Spends.map aY),.sl none 81 true (p_.Chains.map bz),.sl none 5 true (p_.Escrow.map bH)]] (fun y=> .bool y) (fun _=> []):=by
 refine cmQ fun r hM=> ?_
 rw [rr.eq_1] at hM
 refine aw al ar noJ Tryz.func3 rfl Tryz.ntmps3 (by kernel_rfl) fun hw=>au ?_
 refine spQ ?_
 replace hw:=nzQ hw
 have hM0:=hM;clear hM;obtain ⟨x1,hx2,hM⟩:=ao hM0;clear hM0
 have hcx1:=cmU hx2
 refine aH hcx1 clQ clQ (fun hw3=> ?_)
 replace hw3:=nzQ hw3
 refine spQ ?_
 refine aB (fun h4=> ?_) (fun h4=> ?_)
 ·rw [if_pos h4] at hM
  refine aa h4 ?_
  have nh4:=nzQ h4
  try have hr5:=mpQ nh4
  subst hM
  exact av (ax h4)
 ·rw [if_neg (an h4)] at hM
  refine aa h4 ?_
  have nh4:=nzQ h4
  try have hr6:=mpQ nh4
  have hM0:=hM;clear hM;obtain ⟨x7,hx8,hM⟩:=ao hM0;clear hM0
  have hcx7:=cmU hx8
  refine aH hcx7 clQ clQ (fun hw9=> ?_)
  replace hw9:=nzQ hw9
  refine spQ ?_
  refine bK (fun h10=> ?_) (fun h10=> ?_)
  ·subst h10
   rw [if_neg (by decide)] at hM
   refine spQ ?_
   refine aB (fun h11=> ?_) (fun h11=> ?_)
   ·rw [if_pos h11] at hM
    refine aa h11 ?_
    have nh11:=nzQ h11
    try have hr12:=mpQ nh11
    subst hM
    exact av (ax (And.intro h4 h11))
   ·rw [if_neg (an h11)] at hM
    refine aa h11 ?_
    have nh11:=nzQ h11
    try have hr13:=mpQ nh11
    have hM0:=hM;clear hM;obtain ⟨x14,hx15,hM⟩:=ao hM0;clear hM0
    have hcx14:=cmH hx15 (AZ b l y v p_ (by (first|omega|exact rF (by assumption))) (by (first|omega|exact rF (by assumption))))
    refine aH hcx14 clQ clQ (fun hw16=> ?_)
    replace hw16:=nzQ hw16
    refine spQ ?_
    have hM0:=hM;clear hM;obtain ⟨x17,hx18,hM⟩:=ao hM0;clear hM0
    have hcx17:=cmH hx18 (AZ b l y other p_ (by (first|omega|exact rF (by assumption))) (by (first|omega|exact rF (by assumption))))
    refine aH hcx17 clQ clQ (fun hw19=> ?_)
    replace hw19:=nzQ hw19
    refine spQ ?_
    refine dK (fun h20=> ?_) (fun h20=> ?_)
    ·rw [if_pos h20] at hM
     refine aa h20 ?_
     have nh20:=nzQ h20
     try have hr21:=mpQ nh20
     refine bK (fun h22=> ?_) (fun h22=> ?_)
     ·rw [if_neg (an h22)] at hM
      refine aa h22 ?_
      have nh22:=nzQ h22
      try have hr23:=mpQ nh22
      refine dK (fun h24=> ?_) (fun h24=> ?_)
      ·rw [if_pos h24] at hM
       refine aa h24 ?_
       have nh24:=nzQ h24
       try have hr25:=mpQ nh24
       refine aB (fun h26=> ?_) (fun h26=> ?_)
       ·rw [if_pos h26] at hM
        refine aa h26 ?_
        have nh26:=nzQ h26
        try have hr27:=mpQ nh26
        subst hM
        exact av (ax (And.intro h4 (And.intro h11 (And.intro h20 (And.intro h22 (And.intro h24 h26))))))
       ·rw [if_neg (an h26)] at hM
        refine aa h26 ?_
        have nh26:=nzQ h26
        try have hr28:=mpQ nh26
        refine bK (fun h29=> ?_) (fun h29=> ?_)
        ·rw [if_neg (an h29)] at hM
         refine aa h29 ?_
         have nh29:=nzQ h29
         try have hr30:=mpQ nh29
         refine bK (fun h31=> ?_) (fun h31=> ?_)
         ·rw [if_neg (an h31)] at hM
          refine aa h31 ?_
          have nh31:=nzQ h31
          try have hr32:=mpQ nh31
          refine dK (fun h33=> ?_) (fun h33=> ?_)
          ·have kh33:(dE v other)=true:=h33
           rw [if_pos kh33] at hM
           refine aa h33 ?_
           have nh33:=nzQ kh33
           try have hr34:=mpQ nh33
           subst hM
           exact av (ax (And.intro h4 (And.intro h11 (And.intro h20 (And.intro h22 (And.intro h24 (And.intro h26 (And.intro h29 (And.intro h31 h33)))))))))
          ·have kh33:(dE v other)=false:=h33
           rw [if_neg (an kh33)] at hM
           refine aa h33 ?_
           have nh33:=nzQ kh33
           try have hr35:=mpQ nh33
           subst hM
           exact av (ax (And.intro h4 (And.intro h11 (And.intro h20 (And.intro h22 (And.intro h24 (And.intro h26 (And.intro h29 (And.intro h31 h33)))))))))
         ·rw [if_pos h31] at hM
          refine aa h31 ?_
          have nh31:=nzQ h31
          try have hr36:=mpQ nh31
          subst hM
          exact av (ax (And.intro h4 (And.intro h11 (And.intro h20 (And.intro h22 (And.intro h24 (And.intro h26 (And.intro h29 h31))))))))
        ·rw [if_pos h29] at hM
         refine aa h29 ?_
         have nh29:=nzQ h29
         try have hr37:=mpQ nh29
         subst hM
         exact av (ax (And.intro h4 (And.intro h11 (And.intro h20 (And.intro h22 (And.intro h24 (And.intro h26 h29)))))))
      ·rw [if_neg (an h24)] at hM
       refine aa h24 ?_
       have nh24:=nzQ h24
       try have hr38:=mpQ nh24
       refine bK (fun h39=> ?_) (fun h39=> ?_)
       ·rw [if_neg (an h39)] at hM
        refine aa h39 ?_
        have nh39:=nzQ h39
        try have hr40:=mpQ nh39
        refine bK (fun h41=> ?_) (fun h41=> ?_)
        ·rw [if_neg (an h41)] at hM
         refine aa h41 ?_
         have nh41:=nzQ h41
         try have hr42:=mpQ nh41
         refine dK (fun h43=> ?_) (fun h43=> ?_)
         ·have kh43:(dE v other)=true:=h43
          rw [if_pos kh43] at hM
          refine aa h43 ?_
          have nh43:=nzQ kh43
          try have hr44:=mpQ nh43
          subst hM
          exact av (ax (And.intro h4 (And.intro h11 (And.intro h20 (And.intro h22 (And.intro h24 (And.intro h39 (And.intro h41 h43))))))))
         ·have kh43:(dE v other)=false:=h43
          rw [if_neg (an kh43)] at hM
          refine aa h43 ?_
          have nh43:=nzQ kh43
          try have hr45:=mpQ nh43
          subst hM
          exact av (ax (And.intro h4 (And.intro h11 (And.intro h20 (And.intro h22 (And.intro h24 (And.intro h39 (And.intro h41 h43))))))))
        ·rw [if_pos h41] at hM
         refine aa h41 ?_
         have nh41:=nzQ h41
         try have hr46:=mpQ nh41
         subst hM
         exact av (ax (And.intro h4 (And.intro h11 (And.intro h20 (And.intro h22 (And.intro h24 (And.intro h39 h41)))))))
       ·rw [if_pos h39] at hM
        refine aa h39 ?_
        have nh39:=nzQ h39
        try have hr47:=mpQ nh39
        subst hM
        exact av (ax (And.intro h4 (And.intro h11 (And.intro h20 (And.intro h22 (And.intro h24 h39))))))
     ·rw [if_pos h22] at hM
      refine aa h22 ?_
      have nh22:=nzQ h22
      try have hr48:=mpQ nh22
      subst hM
      exact av (ax (And.intro h4 (And.intro h11 (And.intro h20 h22))))
    ·rw [if_neg (an h20)] at hM
     refine aa h20 ?_
     have nh20:=nzQ h20
     try have hr49:=mpQ nh20
     refine dK (fun h50=> ?_) (fun h50=> ?_)
     ·rw [if_pos h50] at hM
      refine aa h50 ?_
      have nh50:=nzQ h50
      try have hr51:=mpQ nh50
      refine aB (fun h52=> ?_) (fun h52=> ?_)
      ·rw [if_pos h52] at hM
       refine aa h52 ?_
       have nh52:=nzQ h52
       try have hr53:=mpQ nh52
       subst hM
       exact av (ax (And.intro h4 (And.intro h11 (And.intro h20 (And.intro h50 h52)))))
      ·rw [if_neg (an h52)] at hM
       refine aa h52 ?_
       have nh52:=nzQ h52
       try have hr54:=mpQ nh52
       refine bK (fun h55=> ?_) (fun h55=> ?_)
       ·rw [if_neg (an h55)] at hM
        refine aa h55 ?_
        have nh55:=nzQ h55
        try have hr56:=mpQ nh55
        refine bK (fun h57=> ?_) (fun h57=> ?_)
        ·rw [if_neg (an h57)] at hM
         refine aa h57 ?_
         have nh57:=nzQ h57
         try have hr58:=mpQ nh57
         refine dK (fun h59=> ?_) (fun h59=> ?_)
         ·have kh59:(dE v other)=true:=h59
          rw [if_pos kh59] at hM
          refine aa h59 ?_
          have nh59:=nzQ kh59
          try have hr60:=mpQ nh59
          subst hM
          exact av (ax (And.intro h4 (And.intro h11 (And.intro h20 (And.intro h50 (And.intro h52 (And.intro h55 (And.intro h57 h59))))))))
         ·have kh59:(dE v other)=false:=h59
          rw [if_neg (an kh59)] at hM
          refine aa h59 ?_
          have nh59:=nzQ kh59
          try have hr61:=mpQ nh59
          subst hM
          exact av (ax (And.intro h4 (And.intro h11 (And.intro h20 (And.intro h50 (And.intro h52 (And.intro h55 (And.intro h57 h59))))))))
        ·rw [if_pos h57] at hM
         refine aa h57 ?_
         have nh57:=nzQ h57
         try have hr62:=mpQ nh57
         subst hM
         exact av (ax (And.intro h4 (And.intro h11 (And.intro h20 (And.intro h50 (And.intro h52 (And.intro h55 h57)))))))
       ·rw [if_pos h55] at hM
        refine aa h55 ?_
        have nh55:=nzQ h55
        try have hr63:=mpQ nh55
        subst hM
        exact av (ax (And.intro h4 (And.intro h11 (And.intro h20 (And.intro h50 (And.intro h52 h55))))))
     ·rw [if_neg (an h50)] at hM
      refine aa h50 ?_
      have nh50:=nzQ h50
      try have hr64:=mpQ nh50
      refine bK (fun h65=> ?_) (fun h65=> ?_)
      ·rw [if_neg (an h65)] at hM
       refine aa h65 ?_
       have nh65:=nzQ h65
       try have hr66:=mpQ nh65
       refine bK (fun h67=> ?_) (fun h67=> ?_)
       ·rw [if_neg (an h67)] at hM
        refine aa h67 ?_
        have nh67:=nzQ h67
        try have hr68:=mpQ nh67
        refine dK (fun h69=> ?_) (fun h69=> ?_)
        ·have kh69:(dE v other)=true:=h69
         rw [if_pos kh69] at hM
         refine aa h69 ?_
         have nh69:=nzQ kh69
         try have hr70:=mpQ nh69
         subst hM
         exact av (ax (And.intro h4 (And.intro h11 (And.intro h20 (And.intro h50 (And.intro h65 (And.intro h67 h69)))))))
        ·have kh69:(dE v other)=false:=h69
         rw [if_neg (an kh69)] at hM
         refine aa h69 ?_
         have nh69:=nzQ kh69
         try have hr71:=mpQ nh69
         subst hM
         exact av (ax (And.intro h4 (And.intro h11 (And.intro h20 (And.intro h50 (And.intro h65 (And.intro h67 h69)))))))
       ·rw [if_pos h67] at hM
        refine aa h67 ?_
        have nh67:=nzQ h67
        try have hr72:=mpQ nh67
        subst hM
        exact av (ax (And.intro h4 (And.intro h11 (And.intro h20 (And.intro h50 (And.intro h65 h67))))))
      ·rw [if_pos h65] at hM
       refine aa h65 ?_
       have nh65:=nzQ h65
       try have hr73:=mpQ nh65
       subst hM
       exact av (ax (And.intro h4 (And.intro h11 (And.intro h20 (And.intro h50 h65)))))
  ·subst h10
   rw [if_pos rfl] at hM
   refine spQ ?_
   subst hM
   exact av (ax h4)
end Go.Proofs.YtcbbjfckokckcaaGreatDoor
namespace Go.Proofs.YtcbbjfckokckcaaGreatDoor
open Go.RowKit
theorem JR:qM=true:=by decide+kernel
theorem wH: ∀{l:List (Bool×Int)} {n:Int},(∀x∈l,x.2≠0)→((io l n).2=0→(∀x∈l,x.1=true)∧(io l n).1=n)∧((io l n).2≠0→(io l n).1=0)
 | [],_,_=>⟨fun _=>⟨fun _ h=>(by cases h),rfl⟩,fun h=>absurd rfl h⟩
 | (true,_)::l,n,h=>by
  have ih:=wH (l:=l) (n:=n) (fun x hx=>h x (List.mem_cons_of_mem _ hx))
  refine ⟨fun h1=> ?_,fun h1=>ih.2 h1⟩
  obtain ⟨a,b⟩:=ih.1 h1
  refine ⟨fun x hx=> ?_,b⟩
  rcases List.mem_cons.1 hx with rfl|hx
  ·rfl
  ·exact a x hx
 | (false,e)::_,_,h=>⟨fun h1=>absurd h1 (h (false,e) List.mem_cons_self),fun _=>rfl⟩
section
variable {b:bd} {l:List bB} {y:Int} {v w:bL} {p:b9}
theorem A0: ∀x∈ou b l y v p,x.2≠0:=by
 intro x hx
 simp only [ou,List.mem_cons,List.not_mem_nil,or_false] at hx
 rcases hx with rfl|rfl|rfl|rfl|rfl|rfl|rfl|rfl|rfl|rfl<;>(intro h;cases h)
theorem A1 (h:(eP b l y v p).2≠0):(eP b l y v p).1=0:=(wH A0).2 h
theorem A2 (h:(eP b l y v p).2=0):jK ⟨b,l,y,v,p⟩=true∧jP ⟨b,l,y,v,p⟩=true∧jQ ⟨b,l,y,v,p⟩=v.Amount∧(eP b l y v p).1=v.Amount:=by
 obtain ⟨h1,h2⟩:=(wH (A0 (b:=b) (l:=l) (y:=y) (v:=v) (p:=p)) (n:=v.Amount)).1 h
 have hm: ∀(i:Nat) (hi:i<(ou b l y v p).length),((ou b l y v p)[i]'hi).1=true:=fun i hi=>h1 _ (List.getElem_mem hi)
 have e0:jK ⟨b,l,y,v,p⟩=true:=hm 0 (show 0<10 by decide)
 have e5:jP ⟨b,l,y,v,p⟩=true:=hm 5 (show 5<10 by decide)
 have e9:ot ⟨b,l,y,v,p⟩ v=true:=hm 9 (show 9<10 by decide)
 exact ⟨e0,e5,eq_of_beq e9,h2⟩
theorem A3 {k:bU} (h:jK k=true):gA k.v=true:=by
 revert h
 unfold jK
 refine hZ (P:=fun a:Int=>0≤a∧a≤k.l.length) (Q:=fun r:Bool=>r=true→gA k.v=true) (meas:=fun a=>((k.l.length:Int) - a).toNat) ?_ _ _ ?_ ?_
 rotate_left
 ·exact ⟨Int.le_refl _,show (0:Int)≤(k.l.length:Int) by omega⟩
 ·show ((k.l.length:Int) - 0).toNat<((k.l.length:Int) - 0).toNat+1
  omega
 rintro ag a ⟨g0,g1⟩ ih
 by_cases hp:a<(k.l.length:Int)
 ·simp only [ab,if_pos (show decide (a<(k.l.length:Int))=true by simpa using hp)]
  split
  ·intro h;cases h
  ·exact ih _ ⟨by omega,by omega⟩ (by omega)
 ·simp only [ab,if_neg (show¬decide (a<(k.l.length:Int))=true by simpa using hp)]
  split
  ·split
   ·intro _;assumption
   ·intro h;cases h
  ·intro h;cases h
theorem JS {v:bL} (h:gA v=true):1≤v.Amount:=by
 unfold gA at h
 split at h
 ·rename_i h1;simpa using h1
 ·cases h
theorem JT {k:bU}:(eO k).length=k.p.Spends.length+k.p.Chains.length:=by
 unfold eO
 simp only [ab]
 rw [rI (α:=Unit) (f:=fun i=>oi (gt k.p.Chains i)) (fun ag p=>rfl) (by omega)]
 simp only [List.nil_append];omega
theorem JU {k:bU} (h1:k.p.Spends=[]) (h2:k.p.Chains=[]):jQ k=0:=by
 unfold jQ
 rw [h1,h2]
 rfl
theorem A4 {k:bU} (h:jP k=true) (hv:gA k.v=true) (hn:0<(eO k).length):l8 (gt (eO k) 0).Context ⟨k.v.Payee,k.v.Time,k.v.Number⟩=true:=by
 have hc:oh k.v=(⟨k.v.Payee,k.v.Time,k.v.Number⟩,0):=by
  unfold oh
  rw [hv]
  rfl
 unfold jP at h
 simp only [ab] at h
 rw [hc] at h
 generalize eO k=x at h hn⊢
 rw [aq] at h
 rw [if_pos (show decide ((0:Int)<(x.length:Int))=true by simpa using hn)] at h
 split at h
 ·cases h
 ·rename_i h1
  simpa using h1
theorem JV {c:dZ} {v w:bL} (h1:l8 c ⟨v.Payee,v.Time,v.Number⟩=true) (h2:l8 c ⟨w.Payee,w.Time,w.Number⟩=true) (h3:v.Amount=w.Amount):dE v w=true:=by
 simp only [l8,dE,Bool.and_eq_true,beq_iff_eq] at h1 h2⊢
 and_intros<;>omega
theorem JW (h1:(eP b l y v p).2=0) (h2:(eP b l y w p).2=0):dE v w=true∧(eP b l y v p).1=(eP b l y w p).1:=by
 obtain ⟨a1,a2,a3,a4⟩:=A2 h1
 obtain ⟨b1,b2,b3,b4⟩:=A2 h2
 have ha:jQ ⟨b,l,y,v,p⟩=jQ ⟨b,l,y,w,p⟩:=rfl
 have hp:eO ⟨b,l,y,v,p⟩=eO ⟨b,l,y,w,p⟩:=rfl
 have he:v.Amount=w.Amount:=by rw [←a3,←b3,ha]
 have hv:=A3 a1
 have hw:=A3 b1
 have hn:0<(eO ⟨b,l,y,v,p⟩).length:=by
  rw [JT]
  by_cases hz:p.Spends.length+p.Chains.length=0
  ·exfalso
   have h5:=JU (k:=⟨b,l,y,v,p⟩) (List.eq_nil_of_length_eq_zero (by show p.Spends.length=0;omega)) (List.eq_nil_of_length_eq_zero (by show p.Chains.length=0;omega))
   have:=JS hv
   rw [h5] at a3
   simp only at this
   omega
  ·show 0<p.Spends.length+p.Chains.length
   omega
 have c1:=A4 a2 hv hn
 have c2:=A4 b2 hw (hp▸hn)
 rw [←hp] at c2
 exact ⟨JV c1 c2 he,by rw [a4,b4,he]⟩
end
theorem JX (b:bd) (l:List bB) (y:Int) (v w:bL) (p:b9):rr b l y v w p=true:=by
 unfold rr
 simp only [ab,JR]
 have hb:= @A1 b l y v p
 have hc:= @A1 b l y w p
 have ht:= @JW b l y v w p
 rw [if_neg (by decide)]
 split
 ·rfl
 ·split
  ·rfl
  ·by_cases h1:(eP b l y v p).2=0<;>by_cases h2:(eP b l y w p).2=0
   ·obtain ⟨q1,q2⟩:=ht h1 h2
    simp [h1,h2,q1,q2]
   ·simp [h1,h2,hc h2]
   ·simp [h1,h2,hb h1]
   ·simp [h1,h2,hb h1,hc h2]
end Go.Proofs.YtcbbjfckokckcaaGreatDoor
