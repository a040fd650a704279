/- Texts of this proof, one after the other: EL. -/
import Derived.Test.YtcbbjfckokckcaaGreatDoorZ11
import Derived.Test.YtcbbjfckokckcaaGreatDoorZ12
set_option linter.unusedVariables false
set_option linter.unusedSimpArgs false
namespace Go.Proofs.YtcbbjfckokckcaaGreatDoor
open Go.RowKit
structure Ck where
  v:V
  ok:Bool
  e:Int
instance:Inhabited Ck:=⟨⟨.un,false,0⟩⟩
def eCk (x:Ck):V:= .fn 111 [.pp 1 false x.v,.pp 1 false (.int .i64 x.e)]
attribute [go_sem] eCk
def ckl (b:a8) (l:List bu) (y:Int) (v:bO) (p:bR):List Ck:=
  [⟨.opq (dA 44 [cg ⟨b,l,y,v,p⟩]),jZ ⟨b,l,y,v,p⟩,1⟩,
   ⟨.fn 45 [.pp 4 true (jQ p)],ra p,5⟩,
   ⟨.fn 47 [.pp 4 true (jQ p),.pp 35 true (cA v)],rb p v,14⟩,
   ⟨.opq (dA 48 [cg ⟨b,l,y,v,p⟩]),gF ⟨b,l,y,v,p⟩,18⟩,
   ⟨.opq (dA 49 [cg ⟨b,l,y,v,p⟩]),je ⟨b,l,y,v,p⟩,11⟩,
   ⟨.opq (dA 50 [cg ⟨b,l,y,v,p⟩]),rn ⟨b,l,y,v,p⟩,16⟩,
   ⟨.opq (dA 51 [cg ⟨b,l,y,v,p⟩]),kc ⟨b,l,y,v,p⟩,15⟩,
   ⟨.opq (dA 52 [cg ⟨b,l,y,v,p⟩]),lr ⟨b,l,y,v,p⟩,8⟩,
   ⟨.opq (dA 53 [cg ⟨b,l,y,v,p⟩]),ke ⟨b,l,y,v,p⟩,12⟩,
   ⟨.fn 54 [.pp 47 true (cg ⟨b,l,y,v,p⟩),.pp 35 true (cA v)],oE ⟨b,l,y,v,p⟩ v,17⟩]
section
variable (b:a8) (l:List bu) (y:Int) (v:bO) (p:bR)
theorem JW:(ckl b l y v p).length=10:=rfl
theorem JX {k:Nat} (h:k<10):(gt (ckl b l y v p) k).e≠0:=by
  match k,h with
  | 0,_=>exact (by decide:(1:Int)≠0)
  | 1,_=>exact (by decide:(5:Int)≠0)
  | 2,_=>exact (by decide:(14:Int)≠0)
  | 3,_=>exact (by decide:(18:Int)≠0)
  | 4,_=>exact (by decide:(11:Int)≠0)
  | 5,_=>exact (by decide:(16:Int)≠0)
  | 6,_=>exact (by decide:(15:Int)≠0)
  | 7,_=>exact (by decide:(8:Int)≠0)
  | 8,_=>exact (by decide:(12:Int)≠0)
  | 9,_=>exact (by decide:(17:Int)≠0)
variable {b l y v p}
theorem JY (hS:gI p) (hl:l.length≤100) {k:Nat} (h:k<10):bk En 111 [.pp 1 false (gt (ckl b l y v p) k).v,.pp 1 false (.int .i64 (gt (ckl b l y v p) k).e)] (.int .i64 (if (gt (ckl b l y v p) k).ok=true then 0 else (gt (ckl b l y v p) k).e)) []:=by
  have hK:okK (⟨b,l,y,v,p⟩:bU):=⟨hl,hS⟩
  match k,h with
  | 0,_=>exact lC (kK (Jm _ hK).ok) 1
  | 1,_=>exact JU (by have:=(Jn p hS).ok;simp only [jQ];exact this) 5
  | 2,_=>exact A7 (by have:=(Jo p v).ok;simp only [jQ];exact this) 14
  | 3,_=>exact lC (kK (Jp _ hK).ok) 18
  | 4,_=>exact lC (kK (JG _ hK).ok) 11
  | 5,_=>exact lC (kK (JI _ hK).ok) 16
  | 6,_=>exact lC (kK (JJ _ hK).ok) 15
  | 7,_=>exact lC (kK (JK _ hK).ok) 8
  | 8,_=>exact lC (kK (JR _ hK).ok) 12
  | 9,_=>exact A7 (JT _ v hK).ok 17
theorem JZ {L:List Ck} {k:Nat} (h:k<L.length):(L.map fun x=>(x.ok,x.e)).drop k=((gt L k).ok,(gt L k).e)::(L.map fun x=>(x.ok,x.e)).drop (k+1):=by
  have hk:k<(L.map fun x=>(x.ok,x.e)).length:=by simpa using h
  rw [List.drop_eq_getElem_cons hk]
  simp [gt,List.getD_eq_getElem?_getD,h]
end
theorem ckQ {P:Prop} (h:P:=by (simp only [ckl,eCk,cg,jQ,cA,List.map_cons,List.map_nil,go_sem,aE,aF,List.length_replicate,aD,Int.toNat_natCast,↓reduceIte,Nat.reduceEqDiff,Nat.reduceAdd,Int.reduceAdd,Nat.reduceMul,Nat.reduceLeDiff,Nat.reduceLT,Int.reduceLE,Int.reduceLT,Int.reduceNeg,Int.reduceToNat,br,gz,g9,cJ,cK,mtO,mtB,mt,mtL,aL,aK,ltV,ltL,ltB,eq_self,or_true,true_or,or_self,and_self]<;>fail)):P:=h
end Go.Proofs.YtcbbjfckokckcaaGreatDoor
