/- Texts of this proof, one after the other: EF, M, H1, HS, H2, HF. -/
import Derived.Test.YtgealhhkngbkbaaGreatDoorZ6
import Derived.Test.YtgealhhkngbkbaaGreatDoorZ7
import Derived.Test.YtgealhhkngbkbaaGreatDoorZ5
import Derived.Lib.BitFns
import Derived.KernelRfl
import Derived.Lib.Join
set_option linter.unusedVariables false
set_option linter.unusedSimpArgs false
namespace Go.Proofs.YtgealhhkngbkbaaGreatDoor
open Go.RowKit
set_option linter.unusedVariables false
set_option linter.unusedSimpArgs false
def cF (t:aV) (label:List UInt8) (l:List aq):aq:=⟨3,0,[],[⟨2,0,br 32 t.State,[]⟩,⟨2,0,bK label,[]⟩]++l⟩
set_option maxHeartbeats 2000000 in
set_option maxRecDepth 100000 in
theorem AO (t:aV) (label:List UInt8) (l:List aq) (hp0:l.length≤1000):CM En (cF t label l) 126 [dB t,.str label,.sl none 4 true (l.map bJ)] (fun y=> .agg [.int .i64 y.Kind,.int .i64 y.N,.sl none 1 false (y.B.map (V.int .u8)),.sl none 4 true (y.L.map bJ)]) (fun _=> []):=by
 refine cmQ fun r hM=> ?_
 rw [cF.eq_1] at hM
 refine JH bf bv 4 noJ Tryz.func126 rfl Tryz.ntmps126 (by kernel_rfl) fun hw=>bu ?_
 refine spQ ?_
 unfold Q0
 dsimp only
 simp only [ky,oL,oK,gN,oJ,go_sem,eJ,eK,List.length_replicate,dr,Int.toNat_natCast,↓reduceIte,Nat.reduceEqDiff,Nat.reduceAdd,Int.reduceAdd,Nat.reduceMul,Nat.reduceLeDiff,Nat.reduceLT,Int.reduceLE,Int.reduceLT,Int.reduceNeg,Int.reduceToNat]
 refine ⟨_,oZ 2 rfl,JI ?_⟩
 refine spQ ?_
 refine bF (by omega) ?_
 refine spQ ?_
 subst hM
 refine cW ?_
 simp only [go_sem,List.map_append,List.map_cons,List.map_nil,bJ,mt,mtL,lC,lB,mtZ,and_self,eq_self,or_true,true_or,true_and,and_true,br,bK,↓reduceIte,eJ,eK,List.length_replicate,dr,Int.toNat_natCast,Nat.reduceEqDiff,Nat.reduceAdd,Int.reduceAdd,Nat.reduceMul,Nat.reduceLeDiff,Nat.reduceLT,Int.reduceLE,Int.reduceLT,Int.reduceNeg,Int.reduceToNat]
end Go.Proofs.YtgealhhkngbkbaaGreatDoor
namespace Go.Proofs.YtgealhhkngbkbaaGreatDoor
open Go.RowKit
def lZ (s:(List UInt8)) (prefix_:(List UInt8)):Bool:=
 (if (decide ((s.length:Int)≥(prefix_.length:Int))) then (((s.drop (0:Int).toNat).take ((prefix_.length:Int).toNat - (0:Int).toNat))==prefix_) else false)
def su (s:(List UInt8)) (prefix_:(List UInt8)):((List UInt8)×Bool):=
 (ab (lZ s prefix_) (fun (x1:Bool)=>(if (!x1) then (s,false) else (((s.drop (prefix_.length:Int).toNat).take ((s.length:Int).toNat - (prefix_.length:Int).toNat)),true))))
def pi (s:(List UInt8)) (prefix_:(List UInt8)):((List UInt8)×Bool):=
 (ab (su s prefix_) (fun (x1:((List UInt8)×Bool))=>(x1.1,x1.2)))
def bc (p_:ay) (t_:(List UInt8)):(Bool×ay):=
 (ab (pi (p_.s) t_) (fun (x1:((List UInt8)×Bool))=>(x1.2,({s:=x1.1,bad:=p_.bad}:ay))))
def kz (x_:Int):Int:=
 (if (x_==0) then 64 else (ah .i64 (gt iu (aw .u64 (aN .u64 (aU .u64 x_ (fZ .u64 x_)) 285870213051353865) 58))))
def dO (p_:ay):(Int×ay):=
 (ae ((((p_).s.length:Int) - 0).toNat+1) (fun (ag1:Int→(Int×ay)) (p1:Int)=>(if (decide (p1<(p_.s.length:Int))) then (if (decide (((p_.s.getD p1.toNat 0).toNat:Int)≥48)) then (if (decide (((p_.s.getD p1.toNat 0).toNat:Int)≤57)) then (ag1 (p1+1)) else (if (p1==0) then (0,({s:=((p_.s.drop (p1).toNat).take (p_.s.length - (p1).toNat)),bad:=true}:ay)) else (if (decide (p1>1)) then (if ((((p_.s.take (p1).toNat).getD 0 0).toNat:Int)==48) then (0,({s:=((p_.s.drop (p1).toNat).take (p_.s.length - (p1).toNat)),bad:=true}:ay)) else (ab (gx (p_.s.take (p1).toNat)) (fun (x17:(Int×Bool))=>(if (!x17.2) then (0,({s:=((p_.s.drop (p1).toNat).take (p_.s.length - (p1).toNat)),bad:=p_.bad}:ay)) else (x17.1,({s:=((p_.s.drop (p1).toNat).take (p_.s.length - (p1).toNat)),bad:=p_.bad}:ay)))))) else (ab (gx (p_.s.take (p1).toNat)) (fun (x24:(Int×Bool))=>(if (!x24.2) then (0,({s:=((p_.s.drop (p1).toNat).take (p_.s.length - (p1).toNat)),bad:=p_.bad}:ay)) else (x24.1,({s:=((p_.s.drop (p1).toNat).take (p_.s.length - (p1).toNat)),bad:=p_.bad}:ay)))))))) else (if (p1==0) then (0,({s:=((p_.s.drop (p1).toNat).take (p_.s.length - (p1).toNat)),bad:=true}:ay)) else (if (decide (p1>1)) then (if ((((p_.s.take (p1).toNat).getD 0 0).toNat:Int)==48) then (0,({s:=((p_.s.drop (p1).toNat).take (p_.s.length - (p1).toNat)),bad:=true}:ay)) else (ab (gx (p_.s.take (p1).toNat)) (fun (x39:(Int×Bool))=>(if (!x39.2) then (0,({s:=((p_.s.drop (p1).toNat).take (p_.s.length - (p1).toNat)),bad:=p_.bad}:ay)) else (x39.1,({s:=((p_.s.drop (p1).toNat).take (p_.s.length - (p1).toNat)),bad:=p_.bad}:ay)))))) else (ab (gx (p_.s.take (p1).toNat)) (fun (x46:(Int×Bool))=>(if (!x46.2) then (0,({s:=((p_.s.drop (p1).toNat).take (p_.s.length - (p1).toNat)),bad:=p_.bad}:ay)) else (x46.1,({s:=((p_.s.drop (p1).toNat).take (p_.s.length - (p1).toNat)),bad:=p_.bad}:ay)))))))) else (if (p1==0) then (0,({s:=((p_.s.drop (p1).toNat).take (p_.s.length - (p1).toNat)),bad:=true}:ay)) else (if (decide (p1>1)) then (if ((((p_.s.take (p1).toNat).getD 0 0).toNat:Int)==48) then (0,({s:=((p_.s.drop (p1).toNat).take (p_.s.length - (p1).toNat)),bad:=true}:ay)) else (ab (gx (p_.s.take (p1).toNat)) (fun (x61:(Int×Bool))=>(if (!x61.2) then (0,({s:=((p_.s.drop (p1).toNat).take (p_.s.length - (p1).toNat)),bad:=p_.bad}:ay)) else (x61.1,({s:=((p_.s.drop (p1).toNat).take (p_.s.length - (p1).toNat)),bad:=p_.bad}:ay)))))) else (ab (gx (p_.s.take (p1).toNat)) (fun (x68:(Int×Bool))=>(if (!x68.2) then (0,({s:=((p_.s.drop (p1).toNat).take (p_.s.length - (p1).toNat)),bad:=p_.bad}:ay)) else (x68.1,({s:=((p_.s.drop (p1).toNat).take (p_.s.length - (p1).toNat)),bad:=p_.bad}:ay))))))))) (fun _=>default) 0)
def cG (p_:ay) (t_:(List UInt8)):ay:=
 (ab (bc p_ t_) (fun (x1:(Bool×ay))=>(if (!x1.1) then ({s:=x1.2.s,bad:=true}:ay) else x1.2)))
def fO (p_:ay):(aH×ay):=
 (ae ((p_).s.length+1) (fun (ag1:(ay×aH×List Int×List (List Int))→(aH×ay)) (p1:ay×aH×List Int×List (List Int))=>(ab (dO (p1.1)) (fun (x2:(Int×ay))=>(ab (cG (x2.2) ([32,61])) (fun (x6:ay)=>(ab (cG x6 ([32])) (fun (x10:ay)=>(ab (dO x10) (fun (x14:(Int×ay))=>(ae (((x14.2)).s.length+1) (fun (ag19:(ay×List Int)→(aH×ay)) (p19:ay×List Int)=>(if (!p19.1.bad) then (ab (bc (p19.1) ([32])) (fun (x22:(Bool×ay))=>(if x22.1 then (ab (dO (x22.2)) (fun (x30:(Int×ay))=>(ag19 (x30.2,(p19.2++([x30.1]:List Int)))))) else (if x22.2.bad then (({Y:=(p1.2.2.1++([x2.1]:List Int)),Bases:=(p1.2.2.2++([p19.2]:List (List Int)))}:aH),({s:=x22.2.s,bad:=true}:ay)) else (ab (bc ({s:=x22.2.s,bad:=false}:ay) ([93])) (fun (x38:(Bool×ay))=>(if x38.1 then (({Y:=(p1.2.2.1++([x2.1]:List Int)),Bases:=(p1.2.2.2++([p19.2]:List (List Int)))}:aH),x38.2) else (ab (cG (x38.2) ([44,32])) (fun (x47:ay)=>(ag1 (x47,p1.2.1,(p1.2.2.1++([x2.1]:List Int)),(p1.2.2.2++([p19.2]:List (List Int)))))))))))))) else (if p19.1.bad then (({Y:=(p1.2.2.1++([x2.1]:List Int)),Bases:=(p1.2.2.2++([p19.2]:List (List Int)))}:aH),({s:=p19.1.s,bad:=true}:ay)) else (ab (bc ({s:=p19.1.s,bad:=false}:ay) ([93])) (fun (x55:(Bool×ay))=>(if x55.1 then (({Y:=(p1.2.2.1++([x2.1]:List Int)),Bases:=(p1.2.2.2++([p19.2]:List (List Int)))}:aH),x55.2) else (ab (cG (x55.2) ([44,32])) (fun (x64:ay)=>(ag1 (x64,p1.2.1,(p1.2.2.1++([x2.1]:List Int)),(p1.2.2.2++([p19.2]:List (List Int))))))))))))) (fun _=>default) (x14.2,([x14.1]:List Int)))))))))))) (fun _=>default) (p_,eZ,([]:List Int),([]:List (List Int))))
def gy (R:ay→aa×ay) (k:Int):Nat→ay→List aa→aa×ay
 | 0,_,_=>default
 | n+1,p,L=>if (R p).2.bad=true then (⟨k,eZ,L++[(R p).1]⟩,(R p).2) else if (bc (R p).2 [41]).1=true then (⟨k,eZ,L++[(R p).1]⟩,(bc (R p).2 [41]).2) else gy R k n (cG (bc (R p).2 [41]).2 [44,32]) (L++[(R p).1])
def kA (R:ay→aa×ay) (p:ay):aa×ay:=
 if (bc p [91]).1=true then (⟨1,(fO (bc p [91]).2).1,[]⟩,(fO (bc p [91]).2).2)
 else if (bc (bc p [91]).2 [97,110,100,40]).1=true then gy R 2 ((bc (bc p [91]).2 [97,110,100,40]).2.s.length+1) (bc (bc p [91]).2 [97,110,100,40]).2 []
 else if (bc (bc (bc p [91]).2 [97,110,100,40]).2 [111,114,40]).1=true then gy R 3 ((bc (bc (bc p [91]).2 [97,110,100,40]).2 [111,114,40]).2.s.length+1) (bc (bc (bc p [91]).2 [97,110,100,40]).2 [111,114,40]).2 []
 else (⟨1,eZ,[]⟩,{s:=(bc (bc (bc p [91]).2 [97,110,100,40]).2 [111,114,40]).2.s,bad:=true})
def ju:Nat→ay→aa×ay
 | 0,_=>default
 | n+1,p=>kA (ju n) p
def bX (p:ay):aa×ay:=ju (p.s.length+1) p
def iB (p_:ay):(aa×ay):=
 (gn (fun (p1:List UInt8×Bool×Int)=>(ae ((({s:=p1.1,bad:=p1.2.1}:ay)).s.length+1) (fun (ag2:(ay×Int×List Int×List (List Int)×List aa×List aa)→(aa×ay)) (p2:ay×Int×List Int×List (List Int)×List aa×List aa)=>(ab (bX (p2.1)) (fun (x3:(aa×ay))=>(if x3.2.bad then (({Kind:=p1.2.2,Relation:=eZ,L:=(p2.2.2.2.2.2++([x3.1]:List aa))}:aa),({s:=x3.2.s,bad:=true}:ay)) else (ab (bc ({s:=x3.2.s,bad:=false}:ay) ([41])) (fun (x9:(Bool×ay))=>(if x9.1 then (({Kind:=p1.2.2,Relation:=eZ,L:=(p2.2.2.2.2.2++([x3.1]:List aa))}:aa),x9.2) else (ab (cG (x9.2) ([44,32])) (fun (x18:ay)=>(ag2 (x18,p2.2.1,p2.2.2.1,p2.2.2.2.1,p2.2.2.2.2.1,(p2.2.2.2.2.2++([x3.1]:List aa))))))))))))) (fun _=>default) (({s:=p1.1,bad:=p1.2.1}:ay),0,([]:List Int),([]:List (List Int)),([]:List aa),([]:List aa)))) (fun j1=>(ab (bc p_ ([91])) (fun (x23:(Bool×ay))=>(if x23.1 then (ab (fO (x23.2)) (fun (x31:(aH×ay))=>(({Kind:=1,Relation:=x31.1,L:=([]:List aa)}:aa),x31.2))) else (ab (bc (x23.2) ([97,110,100,40])) (fun (x36:(Bool×ay))=>(if x36.1 then (j1 (x36.2.s,x36.2.bad,2)) else (ab (bc (x36.2) ([111,114,40])) (fun (x45:(Bool×ay))=>(if x45.1 then (j1 (x45.2.s,x45.2.bad,3)) else (({Kind:=1,Relation:=eZ,L:=([]:List aa)}:aa),({s:=x45.2.s,bad:=true}:ay)))))))))))))
def gZ (x_:Int):Bool:=
 (if (decide (x_<1)) then true else (decide (x_≥2305843009213693952)))
def wn (s:(List Int)):Int:=
 (ae (((s.length:Int) - 0).toNat+1) (fun (ag1:Int→Int) (p1:Int)=>(if (decide (p1<(s.length:Int))) then (ab (gZ (gt s p1)) (fun (x5:Bool)=>(if x5 then p1 else (ag1 (p1+1))))) else (-1))) (fun _=>default) 0)
def pj (s:(List Int)):Bool:=
 (ab (wn s) (fun (x1:Int)=>(decide (x1≥0))))
def jv (l:(List Int)):Bool:=
 (ab (pj l) (fun (x1:Bool)=>(!x1)))
def g7 (row:(List Int)) (c0:Int):Bool:=
 (if ((row.length:Int) !=c0) then true else (ab (jv row) (fun (x3:Bool)=>(!x3))))
def wo (s:(List (List Int))) (f__c0:Int):Int:=
 (ae (((s.length:Int) - 0).toNat+1) (fun (ag1:Int→Int) (p1:Int)=>(if (decide (p1<(s.length:Int))) then (ab (g7 (gt s p1) f__c0) (fun (x5:Bool)=>(if x5 then p1 else (ag1 (p1+1))))) else (-1))) (fun _=>default) 0)
def pk (s:(List (List Int))) (f__c0:Int):Bool:=
 (ab (wo s f__c0) (fun (x1:Int)=>(decide (x1≥0))))
def iC (r_:aH):Bool:=
 (if (decide ((r_.Y.length:Int)<1)) then false else (if (decide ((r_.Y.length:Int)>8)) then false else (if ((r_.Bases.length:Int) !=(r_.Y.length:Int)) then false else (ab (jv (r_.Y)) (fun (x7:Bool)=>(if (!x7) then false else (if (decide (((gt r_.Bases 0).length:Int)≥1)) then (if (decide (((gt r_.Bases 0).length:Int)≤12)) then (ab (pk (r_.Bases) ((gt r_.Bases 0).length:Int)) (fun (x18:Bool)=>(!x18))) else false) else false)))))))
def cS (f_:aa):Bool:=
 (if (f_.Kind==1) then (if ((f_.L.length:Int)==0) then (ab (iC (f_.Relation)) (fun (x5:Bool)=>x5)) else false) else (gn (fun (p10:Bool)=>(if p10 then (if (decide ((f_.L.length:Int)≥1)) then (if (decide ((f_.L.length:Int)≤8)) then (if ((f_.Relation.Y.length:Int)==0) then ((f_.Relation.Bases.length:Int)==0) else false) else false) else false) else false)) (fun j10=>(if (f_.Kind==2) then (j10 true) else (j10 (f_.Kind==3))))))
def nl (f_:aa) (depth:Int) (left:Int):(Bool×Int):=
 (if (decide ((av .i64 left 1)<0)) then (false,(av .i64 left 1)) else (if (decide (depth>6)) then (false,(av .i64 left 1)) else (ab (cS f_) (fun (x5:Bool)=>(if (!x5) then (false,(av .i64 left 1)) else (ae (((f_.L.length:Int) - 0).toNat+1) (fun (ag11:(Int×Int)→(Bool×Int)) (p11:Int×Int)=>(if (decide (p11.1<(f_.L.length:Int))) then (ab ((bS cS) (gt f_.L p11.1) (al .i64 depth 1) (p11.2)) (fun (x15:(Bool×Int))=>(if (!x15.1) then (false,x15.2) else (ag11 ((p11.1+1),x15.2))))) else (true,p11.2))) (fun _=>default) (0,(av .i64 left 1))))))))
def wp (f_:aa):Bool:=
 (ab ((bS cS) f_ 1 30) (fun (x1:(Bool×Int))=>x1.1))
def iD (f_:aa):Bool:=
 (ab (wp f_) (fun (x1:Bool)=>x1))
def wt (s:(List UInt8)):(aa×Int):=
 (if (decide ((s.length:Int)>8000)) then (kt,5) else (ab (bX ({s:=s,bad:=false}:ay)) (fun (x4:(aa×ay))=>(if x4.2.bad then (kt,3) else (if (!(x4.2.s==[])) then (kt,3) else (ab (iD (x4.1)) (fun (x12:Bool)=>(if (!x12) then (kt,1) else (x4.1,0)))))))))
def pm (f_:aa):Int:=
 (if (f_.Kind==1) then ((gt f_.Relation.Bases 0).length:Int) else (ae (((f_.L.length:Int) - 0).toNat+1) (fun (ag5:(Int×Int)→Int) (p5:Int×Int)=>(if (decide (p5.2<(f_.L.length:Int))) then (ab (cX (gt f_.L p5.2)) (fun (x9:Int)=>(ag5 ((ca p5.1 x9),(p5.2+1))))) else p5.1)) (fun _=>default) (0,0)))
def wu (f_:aa):Int:=
 (ab (iD f_) (fun (x1:Bool)=>(if (!x1) then 0 else (ab (cX f_) (fun (x8:Int)=>x8)))))
def kB (x_:Int) (y:Int):(Int×Int):=
 ((al .u64 (al .u64 (aN .u64 (aw .u64 x_ 32) (aw .u64 y 32)) (aw .u64 (al .u64 (aN .u64 (aw .u64 x_ 32) (aU .u64 y 4294967295)) (aw .u64 (aN .u64 (aU .u64 x_ 4294967295) (aU .u64 y 4294967295)) 32)) 32)) (aw .u64 (al .u64 (aU .u64 (al .u64 (aN .u64 (aw .u64 x_ 32) (aU .u64 y 4294967295)) (aw .u64 (aN .u64 (aU .u64 x_ 4294967295) (aU .u64 y 4294967295)) 32)) 4294967295) (aN .u64 (aU .u64 x_ 4294967295) (aw .u64 y 32))) 32)),(aN .u64 x_ y))
def l3 (x_:Int):Int:=
 (ab (ss x_) (fun (x1:Int)=>(av .i64 64 x1)))
def nn (hi:Int) (lo:Int) (y:Int):(Int×Int):=
 (if (y==0) then (default:(Int×Int)) else (if (decide (y≤hi)) then (default:(Int×Int)) else (if (hi==0) then ((bP .u64 lo y),(aQ .u64 lo y)) else (ab (l3 y) (fun (x10:Int)=>(gn (fun (p14:Int)=>(gn (fun (p15:Int)=>((al .u64 (aN .u64 p14 4294967296) p15),(aw .u64 (av .u64 (al .u64 (aN .u64 (av .u64 (al .u64 (aN .u64 (orI .u64 (aB .u64 hi (ah .u64 x10)) (aw .u64 lo (av .u64 64 (ah .u64 x10)))) 4294967296) (aw .u64 (aB .u64 lo (ah .u64 x10)) 32)) (aN .u64 p14 (aB .u64 y (ah .u64 x10)))) 4294967296) (aU .u64 (aB .u64 lo (ah .u64 x10)) 4294967295)) (aN .u64 p15 (aB .u64 y (ah .u64 x10)))) (ah .u64 x10)))) (fun j15=>(ae ((4294967296 - (av .u64 (av .u64 (al .u64 (aN .u64 (orI .u64 (aB .u64 hi (ah .u64 x10)) (aw .u64 lo (av .u64 64 (ah .u64 x10)))) 4294967296) (aw .u64 (aB .u64 lo (ah .u64 x10)) 32)) (aN .u64 p14 (aB .u64 y (ah .u64 x10)))) (aN .u64 (bP .u64 (av .u64 (al .u64 (aN .u64 (orI .u64 (aB .u64 hi (ah .u64 x10)) (aw .u64 lo (av .u64 64 (ah .u64 x10)))) 4294967296) (aw .u64 (aB .u64 lo (ah .u64 x10)) 32)) (aN .u64 p14 (aB .u64 y (ah .u64 x10)))) (aw .u64 (aB .u64 y (ah .u64 x10)) 32)) (aw .u64 (aB .u64 y (ah .u64 x10)) 32)))).toNat+1) (fun (ag16:(Int×Int)→(Int×Int)) (p16:Int×Int)=>(if (decide (p16.2≥4294967296)) then (if (decide ((al .u64 p16.1 (aw .u64 (aB .u64 y (ah .u64 x10)) 32))≥4294967296)) then (j15 (av .u64 p16.2 1)) else (ag16 ((al .u64 p16.1 (aw .u64 (aB .u64 y (ah .u64 x10)) 32)),(av .u64 p16.2 1)))) else (if (decide ((aN .u64 p16.2 (aU .u64 (aB .u64 y (ah .u64 x10)) 4294967295))>(al .u64 (aN .u64 4294967296 p16.1) (aU .u64 (aB .u64 lo (ah .u64 x10)) 4294967295)))) then (if (decide ((al .u64 p16.1 (aw .u64 (aB .u64 y (ah .u64 x10)) 32))≥4294967296)) then (j15 (av .u64 p16.2 1)) else (ag16 ((al .u64 p16.1 (aw .u64 (aB .u64 y (ah .u64 x10)) 32)),(av .u64 p16.2 1)))) else (j15 p16.2)))) (fun _=>default) ((av .u64 (av .u64 (al .u64 (aN .u64 (orI .u64 (aB .u64 hi (ah .u64 x10)) (aw .u64 lo (av .u64 64 (ah .u64 x10)))) 4294967296) (aw .u64 (aB .u64 lo (ah .u64 x10)) 32)) (aN .u64 p14 (aB .u64 y (ah .u64 x10)))) (aN .u64 (bP .u64 (av .u64 (al .u64 (aN .u64 (orI .u64 (aB .u64 hi (ah .u64 x10)) (aw .u64 lo (av .u64 64 (ah .u64 x10)))) 4294967296) (aw .u64 (aB .u64 lo (ah .u64 x10)) 32)) (aN .u64 p14 (aB .u64 y (ah .u64 x10)))) (aw .u64 (aB .u64 y (ah .u64 x10)) 32)) (aw .u64 (aB .u64 y (ah .u64 x10)) 32))),(bP .u64 (av .u64 (al .u64 (aN .u64 (orI .u64 (aB .u64 hi (ah .u64 x10)) (aw .u64 lo (av .u64 64 (ah .u64 x10)))) 4294967296) (aw .u64 (aB .u64 lo (ah .u64 x10)) 32)) (aN .u64 p14 (aB .u64 y (ah .u64 x10)))) (aw .u64 (aB .u64 y (ah .u64 x10)) 32))))))) (fun j14=>(ae ((4294967296 - (av .u64 (orI .u64 (aB .u64 hi (ah .u64 x10)) (aw .u64 lo (av .u64 64 (ah .u64 x10)))) (aN .u64 (bP .u64 (orI .u64 (aB .u64 hi (ah .u64 x10)) (aw .u64 lo (av .u64 64 (ah .u64 x10)))) (aw .u64 (aB .u64 y (ah .u64 x10)) 32)) (aw .u64 (aB .u64 y (ah .u64 x10)) 32)))).toNat+1) (fun (ag29:(Int×Int)→(Int×Int)) (p29:Int×Int)=>(if (decide (p29.1≥4294967296)) then (if (decide ((al .u64 p29.2 (aw .u64 (aB .u64 y (ah .u64 x10)) 32))≥4294967296)) then (j14 (av .u64 p29.1 1)) else (ag29 ((av .u64 p29.1 1),(al .u64 p29.2 (aw .u64 (aB .u64 y (ah .u64 x10)) 32))))) else (if (decide ((aN .u64 p29.1 (aU .u64 (aB .u64 y (ah .u64 x10)) 4294967295))>(al .u64 (aN .u64 4294967296 p29.2) (aw .u64 (aB .u64 lo (ah .u64 x10)) 32)))) then (if (decide ((al .u64 p29.2 (aw .u64 (aB .u64 y (ah .u64 x10)) 32))≥4294967296)) then (j14 (av .u64 p29.1 1)) else (ag29 ((av .u64 p29.1 1),(al .u64 p29.2 (aw .u64 (aB .u64 y (ah .u64 x10)) 32))))) else (j14 p29.1)))) (fun _=>default) ((bP .u64 (orI .u64 (aB .u64 hi (ah .u64 x10)) (aw .u64 lo (av .u64 64 (ah .u64 x10)))) (aw .u64 (aB .u64 y (ah .u64 x10)) 32)),(av .u64 (orI .u64 (aB .u64 hi (ah .u64 x10)) (aw .u64 lo (av .u64 64 (ah .u64 x10)))) (aN .u64 (bP .u64 (orI .u64 (aB .u64 hi (ah .u64 x10)) (aw .u64 lo (av .u64 64 (ah .u64 x10)))) (aw .u64 (aB .u64 y (ah .u64 x10)) 32)) (aw .u64 (aB .u64 y (ah .u64 x10)) 32))))))))))))
def fx (a_:Int) (b:Int) (n_:Int):Int:=
 (ab (kB a_ b) (fun (x1:(Int×Int))=>(ab (nn (x1.1) (x1.2) n_) (fun (x5:(Int×Int))=>x5.2))))
def l4 (a_:Int) (e_:Int) (n_:Int):Int:=
 (ae (e_.toNat+1) (fun (ag1:(Int×Int×Int)→Int) (p1:Int×Int×Int)=>(if (decide (p1.2.1>0)) then (if ((aU .u64 p1.2.1 1)==1) then (ab (fx (p1.2.2) (p1.1) n_) (fun (x6:Int)=>(ab (fx (p1.1) (p1.1) n_) (fun (x10:Int)=>(ag1 (x10,(aw .u64 p1.2.1 1),x6)))))) else (ab (fx (p1.1) (p1.1) n_) (fun (x15:Int)=>(ag1 (x15,(aw .u64 p1.2.1 1),p1.2.2))))) else p1.2.2)) (fun _=>default) (a_,e_,1))
def pn (a_:Int) (n_:Int) (d_:Int) (s:Int):Bool:=
 (ab (l4 a_ d_ n_) (fun (x1:Int)=>(if (x1==1) then false else (if (x1==(av .u64 n_ 1)) then false else (ae ((av .i64 s 1 - 0).toNat+1) (fun (ag10:(Int×Int)→Bool) (p10:Int×Int)=>(if (decide (p10.2<(av .i64 s 1))) then (ab (fx (p10.1) (p10.1) n_) (fun (x13:Int)=>(if (x13==(av .u64 n_ 1)) then false else (ag10 (x13,(p10.2+1)))))) else true)) (fun _=>default) (x1,0))))))
def kC (n_:Int):Bool:=
 (if (decide (n_<2)) then false else (ae (((12:Int) - 0).toNat+1) (fun (ag4:Int→Bool) (p4:Int)=>(if (decide (p4<12)) then (if ((aQ .u64 (ah .u64 n_) (gt cA p4))==0) then ((ah .u64 n_)==(gt cA p4)) else (ag4 (p4+1))) else (ab (kz (av .u64 (ah .u64 n_) 1)) (fun (x12:Int)=>(ae (((12:Int) - 0).toNat+1) (fun (ag16:Int→Bool) (p16:Int)=>(if (decide (p16<12)) then (ab (pn (gt cA p16) (ah .u64 n_) (aw .u64 (av .u64 (ah .u64 n_) 1) x12) x12) (fun (x20:Bool)=>(if x20 then false else (ag16 (p16+1))))) else true)) (fun _=>default) 0))))) (fun _=>default) 0))
def kD (a_:Int) (m:Int):Bool:=
 (if (decide (a_≥0)) then (decide (a_<m)) else false)
def gz (a_:Int) (b:Int) (m:Int):Int:=
 (if (decide (m<1)) then 1 else (if (decide (m≥2305843009213693952)) then 1 else (ab (kD a_ m) (fun (x6:Bool)=>(if (!x6) then 2 else (ab (kD b m) (fun (x11:Bool)=>(if (!x11) then 2 else 0))))))))
def iE (a_:Int) (b:Int) (m:Int):Int:=
 (ab (kB (ah .u64 a_) (ah .u64 b)) (fun (x1:(Int×Int))=>(ab (nn (x1.1) (x1.2) (ah .u64 m)) (fun (x5:(Int×Int))=>(ah .i64 x5.2)))))
def jw (a_:Int) (e_:Int) (m:Int):(Int×Int):=
 (ab (gz a_ a_ m) (fun (x1:Int)=>(if (x1 !=0) then (0,x1) else (if (decide (e_<0)) then (0,2) else (ae (e_.toNat+1) (fun (ag11:(Int×Int×Int)→(Int×Int)) (p11:Int×Int×Int)=>(if (decide (p11.2.1>0)) then (if ((aU .i64 p11.2.1 1)==1) then (ab (iE (p11.2.2) (p11.1) m) (fun (x16:Int)=>(ab (iE (p11.1) (p11.1) m) (fun (x20:Int)=>(ag11 (x20,(aw .i64 p11.2.1 1),x16)))))) else (ab (iE (p11.1) (p11.1) m) (fun (x25:Int)=>(ag11 (x25,(aw .i64 p11.2.1 1),p11.2.2))))) else (p11.2.2,0))) (fun _=>default) (a_,e_,(aQ .i64 1 m)))))))
def jx (g:ao):Bool:=
 (if (decide (g.P≥2305843009213693952)) then false else (if (decide (g.Q<3)) then false else (if ((aQ .i64 g.Q 2)==0) then false else (ab (kC (g.P)) (fun (x7:Bool)=>(if (!x7) then false else (ab (kC (g.Q)) (fun (x12:Bool)=>(if (!x12) then false else (if ((aQ .i64 (av .i64 g.P 1) g.Q) !=0) then false else (if (decide (g.G<2)) then false else (if (decide (g.G≥g.P)) then false else (ab (jw (g.G) (g.Q) (g.P)) (fun (x24:(Int×Int))=>(if (x24.2==0) then (x24.1==1) else false)))))))))))))))
def po (g:ao) (x_:Int):Bool:=
 (if (decide (x_<1)) then false else (if (decide (x_≥g.P)) then false else (ab (jw x_ (g.Q) (g.P)) (fun (x6:(Int×Int))=>(if (x6.2==0) then (x6.1==1) else false)))))
def np (x_:Int) (c0:ao):Bool:=
 (ab (po c0 x_) (fun (x1:Bool)=>(!x1)))
def wv (s:(List Int)) (f__c0:ao):Int:=
 (ae (((s.length:Int) - 0).toNat+1) (fun (ag1:Int→Int) (p1:Int)=>(if (decide (p1<(s.length:Int))) then (ab (np (gt s p1) f__c0) (fun (x5:Bool)=>(if x5 then p1 else (ag1 (p1+1))))) else (-1))) (fun _=>default) 0)
def sv (s:(List Int)) (f__c0:ao):Bool:=
 (ab (wv s f__c0) (fun (x1:Int)=>(decide (x1≥0))))
def nq (g:ao) (l:(List Int)):Bool:=
 (ab (sv l g) (fun (x1:Bool)=>(!x1)))
def jy (row:(List Int)) (c0:Int) (c1:ao):Bool:=
 (if ((row.length:Int) !=c0) then true else (ab (nq c1 row) (fun (x3:Bool)=>(!x3))))
def nr (s:(List (List Int))) (f__c0:Int) (f__c1:ao):Int:=
 (ae (((s.length:Int) - 0).toNat+1) (fun (ag1:Int→Int) (p1:Int)=>(if (decide (p1<(s.length:Int))) then (ab (jy (gt s p1) f__c0 f__c1) (fun (x5:Bool)=>(if x5 then p1 else (ag1 (p1+1))))) else (-1))) (fun _=>default) 0)
def l5 (s:(List (List Int))) (f__c0:Int) (f__c1:ao):Bool:=
 (ab (nr s f__c0 f__c1) (fun (x1:Int)=>(decide (x1≥0))))
def fy (g:ao) (r_:aH):Bool:=
 (ab (jx g) (fun (x1:Bool)=>(if (!x1) then false else (if (decide ((r_.Y.length:Int)<1)) then false else (if (decide ((r_.Y.length:Int)>8)) then false else (if ((r_.Bases.length:Int) !=(r_.Y.length:Int)) then false else (ab (nq g (r_.Y)) (fun (x12:Bool)=>(if (!x12) then false else (if (decide (((gt r_.Bases 0).length:Int)<1)) then false else (if (decide (((gt r_.Bases 0).length:Int)>12)) then false else (ab (l5 (r_.Bases) ((gt r_.Bases 0).length:Int) g) (fun (x24:Bool)=>(!x24))))))))))))))
def ww (r_:aH) (c0:ao):Bool:=
 (ab (fy c0 r_) (fun (x1:Bool)=>x1))
def di (f_:aa) (c0_c0:ao):Bool:=
 (if (f_.Kind==1) then (if ((f_.L.length:Int)==0) then (ab (ww (f_.Relation) c0_c0) (fun (x5:Bool)=>x5)) else false) else (gn (fun (p10:Bool)=>(if p10 then (if (decide ((f_.L.length:Int)≥1)) then (if (decide ((f_.L.length:Int)≤8)) then (if ((f_.Relation.Y.length:Int)==0) then ((f_.Relation.Bases.length:Int)==0) else false) else false) else false) else false)) (fun j10=>(if (f_.Kind==2) then (j10 true) else (j10 (f_.Kind==3))))))
def nt (f_:aa) (depth:Int) (left:Int) (good_c0_c0:ao):(Bool×Int):=
 (if (decide ((av .i64 left 1)<0)) then (false,(av .i64 left 1)) else (if (decide (depth>6)) then (false,(av .i64 left 1)) else (ab (di f_ good_c0_c0) (fun (x5:Bool)=>(if (!x5) then (false,(av .i64 left 1)) else (ae (((f_.L.length:Int) - 0).toNat+1) (fun (ag11:(Int×Int)→(Bool×Int)) (p11:Int×Int)=>(if (decide (p11.1<(f_.L.length:Int))) then (ab ((iA di) (gt f_.L p11.1) (al .i64 depth 1) (p11.2) good_c0_c0) (fun (x15:(Bool×Int))=>(if (!x15.1) then (false,x15.2) else (ag11 ((p11.1+1),x15.2))))) else (true,p11.2))) (fun _=>default) (0,(av .i64 left 1))))))))
def wx (f_:aa) (good_c0:ao):Bool:=
 (ab ((iA di) f_ 1 30 good_c0) (fun (x1:(Bool×Int))=>x1.1))
def fP (g:ao) (f_:aa):Bool:=
 (ab (jx g) (fun (x1:Bool)=>(if x1 then (ab (wx f_ g) (fun (x5:Bool)=>x5)) else false)))
def kE (g:ao) (x_:Int):Bool:=
 (if (decide (x_≥0)) then (decide (x_<g.Q)) else false)
def wy (x_:Int) (c0:ao):Bool:=
 (ab (kE c0 x_) (fun (x1:Bool)=>(!x1)))
def wz (s:(List Int)) (f__c0:ao):Int:=
 (ae (((s.length:Int) - 0).toNat+1) (fun (ag1:Int→Int) (p1:Int)=>(if (decide (p1<(s.length:Int))) then (ab (wy (gt s p1) f__c0) (fun (x5:Bool)=>(if x5 then p1 else (ag1 (p1+1))))) else (-1))) (fun _=>default) 0)
def wA (s:(List Int)) (f__c0:ao):Bool:=
 (ab (wz s f__c0) (fun (x1:Int)=>(decide (x1≥0))))
def wB (g:ao) (l:(List Int)):Bool:=
 (ab (wA l g) (fun (x1:Bool)=>(!x1)))
def fc (r_:aH):Int:=
 ((gt r_.Bases 0).length:Int)
def nu (x_:Int) (c0:ao):Bool:=
 (if (decide (x_<0)) then true else (decide (x_≥c0.Q)))
def wC (s:(List Int)) (f__c0:ao):Int:=
 (ae (((s.length:Int) - 0).toNat+1) (fun (ag1:Int→Int) (p1:Int)=>(if (decide (p1<(s.length:Int))) then (ab (nu (gt s p1) f__c0) (fun (x5:Bool)=>(if x5 then p1 else (ag1 (p1+1))))) else (-1))) (fun _=>default) 0)
def sw (s:(List Int)) (f__c0:ao):Bool:=
 (ab (wC s f__c0) (fun (x1:Int)=>(decide (x1≥0))))
def l6 (g:ao) (l:(List Int)):Bool:=
 (ab (sw l g) (fun (x1:Bool)=>(!x1)))
def nv (a_:Int) (b:Int) (m:Int):(Int×Int):=
 (ab (gz a_ b m) (fun (x1:Int)=>(if (x1 !=0) then (0,x1) else (ab (iE a_ b m) (fun (x8:Int)=>(x8,0))))))
def nw (g:ao) (start:Int) (bases:(List Int)) (exps:(List Int)):Int:=
 (ae (((bases.length:Int) - 0).toNat+1) (fun (ag1:(Int×Int)→Int) (p1:Int×Int)=>(if (decide (p1.2<(bases.length:Int))) then (ab (jw (gt bases p1.2) (gt exps p1.2) (g.P)) (fun (x6:(Int×Int))=>(ab (nv (p1.1) (x6.1) (g.P)) (fun (x8:(Int×Int))=>(ag1 (x8.1,(p1.2+1))))))) else p1.1)) (fun _=>default) (start,0))
def kF (g:ao) (rows:(List (List Int))) (exps:(List Int)):(List Int):=
 (ae (((rows.length:Int) - 0).toNat+1) (fun (ag1:(Int×List Int)→(List Int)) (p1:Int×List Int)=>(if (decide (p1.1<(rows.length:Int))) then (ab (nw g 1 (gt rows p1.1) exps) (fun (x5:Int)=>(ag1 ((p1.1+1),(p1.2++([x5]:List Int)))))) else p1.2)) (fun _=>default) (0,([]:List Int)))
def ny (s1:(List Int)) (s2:(List Int)):Bool:=
 (if ((s1.length:Int) !=(s2.length:Int)) then false else (ae (((s1.length:Int) - 0).toNat+1) (fun (ag4:Int→Bool) (p4:Int)=>(if (decide (p4<(s1.length:Int))) then (if ((gt s1 p4) !=(gt s2 p4)) then false else (ag4 (p4+1))) else true)) (fun _=>default) 0))
def sx (g:ao) (r_:aH) (x_:(List Int)):Bool:=
 (ab (fy g r_) (fun (x1:Bool)=>(if x1 then (ab (fc r_) (fun (x6:Int)=>(if ((x_.length:Int)==x6) then (ab (l6 g x_) (fun (x10:Bool)=>(if x10 then (ab (kF g (r_.Bases) x_) (fun (x13:(List Int))=>(ab (ny x13 (r_.Y)) (fun (x15:Bool)=>x15)))) else false))) else false))) else false)))
mutual
def cY (g:ao):aa→List Int→Bool
 | ⟨k,r,l⟩,x=>if k=1 then sx g r (sl x 0 (cX ⟨k,r,l⟩)) else if k=2 then sy g l x else sA g l x
def sy (g:ao):List aa→List Int→Bool
 | [],_=>true
 | f::l,x=>if cY g f x=false then false else sy g l x
def sA (g:ao):List aa→List Int→Bool
 | [],_=>false
 | f::l,x=>if cY g f x=true then true else sA g l x
end
def pq (p_:aa) (c0:ao) (c1:(List Int)):Bool:=
 (ab (cY c0 p_ c1) (fun (x1:Bool)=>x1))
def sB (p_:aa) (c0_c0:ao) (c0_c1:(List Int)):Bool:=
 (ab (pq p_ c0_c0 c0_c1) (fun (x1:Bool)=>(!x1)))
def sC (s:(List aa)) (f__c0_c0:ao) (f__c0_c1:(List Int)):Int:=
 (ae (((s.length:Int) - 0).toNat+1) (fun (ag1:Int→Int) (p1:Int)=>(if (decide (p1<(s.length:Int))) then (ab (sB (gt s p1) f__c0_c0 f__c0_c1) (fun (x5:Bool)=>(if x5 then p1 else (ag1 (p1+1))))) else (-1))) (fun _=>default) 0)
def pr (s:(List aa)) (f__c0_c0:ao) (f__c0_c1:(List Int)):Bool:=
 (ab (sC s f__c0_c0 f__c0_c1) (fun (x1:Int)=>(decide (x1≥0))))
def sD (s:(List aa)) (f__c0:ao) (f__c1:(List Int)):Int:=
 (ae (((s.length:Int) - 0).toNat+1) (fun (ag1:Int→Int) (p1:Int)=>(if (decide (p1<(s.length:Int))) then (ab (pq (gt s p1) f__c0 f__c1) (fun (x5:Bool)=>(if x5 then p1 else (ag1 (p1+1))))) else (-1))) (fun _=>default) 0)
def pt (s:(List aa)) (f__c0:ao) (f__c1:(List Int)):Bool:=
 (ab (sD s f__c0 f__c1) (fun (x1:Int)=>(decide (x1≥0))))
def pu (g:ao) (f_:aa) (x_:(List Int)):Bool:=
 (if (f_.Kind==1) then (ab (cX f_) (fun (x3:Int)=>(ab (sx g (f_.Relation) (sl x_ 0 x3)) (fun (x5:Bool)=>x5)))) else (if (f_.Kind==2) then (ab (pr (f_.L) g x_) (fun (x11:Bool)=>(!x11))) else (ab (pt (f_.L) g x_) (fun (x15:Bool)=>x15))))
def sE (g:ao) (f_:aa) (x_:(List Int)):Bool:=
 (ab (fP g f_) (fun (x1:Bool)=>(if x1 then (ab (cX f_) (fun (x7:Int)=>(if ((x_.length:Int)==x7) then (ab (wB g x_) (fun (x12:Bool)=>(if x12 then (ab (cY g f_ x_) (fun (x16:Bool)=>x16)) else false))) else false))) else false)))
def sF:Bool:=
 (ab (wt ([111,114,40,91,56,32,61,32,50,93,44,32,91,49,50,32,61,32,50,93,41])) (fun (x1:(aa×Int))=>(if (x1.2==0) then (ab (wu (x1.1)) (fun (x6:Int)=>(if (x6==1) then (ab (sE ({P:=23,Q:=11,G:=4}:ao) (x1.1) ([3]:List Int)) (fun (x11:Bool)=>(if x11 then (ab (sE ({P:=23,Q:=11,G:=4}:ao) (x1.1) ([4]:List Int)) (fun (x15:Bool)=>(!x15))) else false))) else false))) else false)))
def sG (l:(List Int)):Bool:=
 (decide ((l.length:Int)>20))
def pw (x_:aa) (c0:Int):(Bool×Int):=
 (ab (dg x_ c0) (fun (x1:(Bool×Int))=>((!x1.1),x1.2)))
def wD (s:(List (List Int))):Int:=
 (ae (((s.length:Int) - 0).toNat+1) (fun (ag1:Int→Int) (p1:Int)=>(if (decide (p1<(s.length:Int))) then (ab (sG (gt s p1)) (fun (x5:Bool)=>(if x5 then p1 else (ag1 (p1+1))))) else (-1))) (fun _=>default) 0)
def sH (s:(List (List Int))):Bool:=
 (ab (wD s) (fun (x1:Int)=>(decide (x1≥0))))
def px (s_:(List aa)) (f__c0:Int):(Int×Int):=
 (ae (((s_.length:Int) - 0).toNat+1) (fun (ag1:(Int×Int)→(Int×Int)) (p1:Int×Int)=>(if (decide (p1.1<(s_.length:Int))) then (ab (pw (gt s_ p1.1) (p1.2)) (fun (x5:(Bool×Int))=>(if x5.1 then (p1.1,x5.2) else (ag1 ((p1.1+1),x5.2))))) else ((-1),p1.2))) (fun _=>default) (0,f__c0))
def nz (s_:(List aa)) (f__c0:Int):(Bool×Int):=
 (ab (px s_ f__c0) (fun (x1:(Int×Int))=>((decide (x1.1≥0)),x1.2)))
def nA (f_:aa) (left:Int):(Bool×Int):=
 (if (decide ((av .i64 left 1)<0)) then (false,(av .i64 left 1)) else (if (decide ((f_.Relation.Y.length:Int)>20)) then (false,(av .i64 left 1)) else (if (decide ((f_.Relation.Bases.length:Int)>20)) then (false,(av .i64 left 1)) else (ab (sH (f_.Relation.Bases)) (fun (x7:Bool)=>(if x7 then (false,(av .i64 left 1)) else (ab (nz (f_.L) (av .i64 left 1)) (fun (x11:(Bool×Int))=>((!x11.1),x11.2)))))))))
def py (x_:aG) (c0:Int):(Bool×Int):=
 (ab (dh x_ c0) (fun (x1:(Bool×Int))=>((!x1.1),x1.2)))
def pz (s_:(List aG)) (f__c0:Int):(Int×Int):=
 (ae (((s_.length:Int) - 0).toNat+1) (fun (ag1:(Int×Int)→(Int×Int)) (p1:Int×Int)=>(if (decide (p1.1<(s_.length:Int))) then (ab (py (gt s_ p1.1) (p1.2)) (fun (x5:(Bool×Int))=>(if x5.1 then (p1.1,x5.2) else (ag1 ((p1.1+1),x5.2))))) else ((-1),p1.2))) (fun _=>default) (0,f__c0))
def nB (s_:(List aG)) (f__c0:Int):(Bool×Int):=
 (ab (pz s_ f__c0) (fun (x1:(Int×Int))=>((decide (x1.1≥0)),x1.2)))
def nC (t_:aG) (left:Int):(Bool×Int):=
 (if (decide ((av .i64 left 1)<0)) then (false,(av .i64 left 1)) else (if (decide ((t_.P.A.length:Int)>20)) then (false,(av .i64 left 1)) else (if (decide ((t_.P.Z.length:Int)>20)) then (false,(av .i64 left 1)) else (ab (nB (t_.L) (av .i64 left 1)) (fun (x8:(Bool×Int))=>((!x8.1),x8.2))))))
def wE (t:aG):Bool:=
 (ab (dh t 60) (fun (x1:(Bool×Int))=>(!x1.1)))
def wF (s:(List aG)):Int:=
 (ae (((s.length:Int) - 0).toNat+1) (fun (ag1:Int→Int) (p1:Int)=>(if (decide (p1<(s.length:Int))) then (ab (wE (gt s p1)) (fun (x5:Bool)=>(if x5 then p1 else (ag1 (p1+1))))) else (-1))) (fun _=>default) 0)
def wG (s:(List aG)):Bool:=
 (ab (wF s) (fun (x1:Int)=>(decide (x1≥0))))
def sI (f_:aa) (l:(List aG)):Bool:=
 (ab (dg f_ 60) (fun (x1:(Bool×Int))=>(if (!x1.1) then false else (ab (wG l) (fun (x7:Bool)=>(!x7))))))
def nD (g:ao) (r_:aH) (c:Int) (z_:(List Int)):(List Int):=
 (ab (kF g (r_.Bases) z_) (fun (x1:(List Int))=>(ae (((r_.Y.length:Int) - 0).toNat+1) (fun (ag5:(Int×List Int)→(List Int)) (p5:Int×List Int)=>(if (decide (p5.1<(r_.Y.length:Int))) then (ab (jw (gt r_.Y p5.1) (aQ .i64 (av .i64 g.Q c) g.Q) (g.P)) (fun (x9:(Int×Int))=>(ab (nv (gt p5.2 p5.1) (x9.1) (g.P)) (fun (x12:(Int×Int))=>(ag5 ((p5.1+1),(st p5.2 p5.1 x12.1))))))) else p5.2)) (fun _=>default) (0,x1))))
def jz (g:ao) (r_:aH) (p_:cu):Bool:=
 (ab (fy g r_) (fun (x1:Bool)=>(if (!x1) then false else (if ((p_.A.length:Int) !=(r_.Y.length:Int)) then false else (ab (fc r_) (fun (x8:Int)=>(if ((p_.Z.length:Int) !=x8) then false else (ab (l6 g ([p_.C]:List Int)) (fun (x12:Bool)=>(if (!x12) then false else (ab (l6 g (p_.Z)) (fun (x16:Bool)=>(if (!x16) then false else (ab (nD g r_ (p_.C) (p_.Z)) (fun (x22:(List Int))=>(ab (ny x22 (p_.A)) (fun (x24:Bool)=>x24)))))))))))))))))
def l7 (p_:cu):Bool:=
 (if ((p_.A.length:Int)==0) then (if (p_.C==0) then ((p_.Z.length:Int)==0) else false) else false)
mutual
def eN (CK:aH→cu→Bool) (q:Int):aa→aG→Bool
 | ⟨k,r,l⟩,t=>if t.C<0∨q≤t.C then false else if k=1 then (if t.L.length=0∧t.P.C=t.C then CK r t.P else false) else if t.P.A.length=0∧t.P.C=0∧t.P.Z.length=0∧t.L.length=l.length then eO CK q k t.C l t.L 0 else false
def eO (CK:aH→cu→Bool) (q k c:Int):List aa→List aG→Int→Bool
 | [],_,s=>if k=2 then true else s==c
 | f::l,m,s=>if eN CK q f (gt m 0)=false then false else if k=2∧(gt m 0).C≠c then false else eO CK q k c l (m.drop 1) (aQ .i64 (al .i64 s (gt m 0).C) q)
end
def kG (g:ao) (f:aa) (t:aG):Bool:=eN (jz g) g.Q f t
def pA (g:ao) (f_:aa) (t:aG):Bool:=
 (ab (kE g (t.C)) (fun (x1:Bool)=>(if (!x1) then false else (if (f_.Kind==1) then (if ((t.L.length:Int)==0) then (if (t.P.C==t.C) then (ab (jz g (f_.Relation) (t.P)) (fun (x13:Bool)=>x13)) else false) else false) else (ab (l7 (t.P)) (fun (x20:Bool)=>(if (!x20) then false else (if ((t.L.length:Int) !=(f_.L.length:Int)) then false else (ae (((f_.L.length:Int) - 0).toNat+1) (fun (ag28:(Int×Int)→Bool) (p28:Int×Int)=>(if (decide (p28.2<(f_.L.length:Int))) then (ab (kG g (gt f_.L p28.2) (gt t.L p28.2)) (fun (x33:Bool)=>(if (!x33) then false else (if (f_.Kind==2) then (if ((gt t.L p28.2).C !=t.C) then false else (ag28 ((aQ .i64 (al .i64 p28.1 (gt t.L p28.2).C) g.Q),(p28.2+1)))) else (ag28 ((aQ .i64 (al .i64 p28.1 (gt t.L p28.2).C) g.Q),(p28.2+1))))))) else (if (f_.Kind==2) then true else (p28.1==t.C)))) (fun _=>default) (0,0))))))))))
def jA (g:ao) (f_:aa) (t:aG):Bool:=
 (ab (fP g f_) (fun (x1:Bool)=>(if x1 then (ab (kG g f_ t) (fun (x8:Bool)=>x8)) else false)))
def dt (a_:Int) (b:Int) (m:Int):Int:=
 (if (decide (a_<2147483648)) then (if (decide (b<2147483648)) then (aQ .i64 (aN .i64 a_ b) m) else (ae (b.toNat+1) (fun (ag6:(Int×Int×Int)→Int) (p6:Int×Int×Int)=>(if (decide (p6.2.1>0)) then (if ((p6.2.1% 2)==1) then (ag6 ((aQ .i64 (p6.1+p6.1) m),(p6.2.1/2),(aQ .i64 (p6.2.2+p6.1) m))) else (ag6 ((aQ .i64 (p6.1+p6.1) m),(p6.2.1/2),p6.2.2))) else p6.2.2)) (fun _=>default) (a_,b,0))) else (ae (b.toNat+1) (fun (ag20:(Int×Int×Int)→Int) (p20:Int×Int×Int)=>(if (decide (p20.2.1>0)) then (if ((p20.2.1% 2)==1) then (ag20 ((aQ .i64 (p20.1+p20.1) m),(p20.2.1/2),(aQ .i64 (p20.2.2+p20.1) m))) else (ag20 ((aQ .i64 (p20.1+p20.1) m),(p20.2.1/2),p20.2.2))) else p20.2.2)) (fun _=>default) (a_,b,0)))
def dj (a_:Int) (e_:Int) (m:Int):Int:=
 (ae (e_.toNat+1) (fun (ag1:(Int×Int×Int)→Int) (p1:Int×Int×Int)=>(if (decide (p1.2.1>0)) then (if ((p1.2.1% 2)==1) then (ab (dt (p1.2.2) (p1.1) m) (fun (x7:Int)=>(ab (dt (p1.1) (p1.1) m) (fun (x11:Int)=>(ag1 (x11,(p1.2.1/2),x7)))))) else (ab (dt (p1.1) (p1.1) m) (fun (x17:Int)=>(ag1 (x17,(p1.2.1/2),p1.2.2))))) else p1.2.2)) (fun _=>default) (a_,e_,(aQ .i64 1 m)))
def pB (n_:Int) (a_:Int):Bool:=
 (ae ((n_ - 1).toNat+1) (fun (ag2:(Int×Int)→Bool) (p2:Int×Int)=>(if ((p2.1% 2)==0) then (ag2 ((p2.1/2),(p2.2+1))) else (ab (dj a_ (p2.1) n_) (fun (x9:Int)=>(if (x9==1) then true else (if (x9==(n_ - 1)) then true else (ae ((p2.2 - 1).toNat+1) (fun (ag19:(Int×Int)→Bool) (p19:Int×Int)=>(if (decide (p19.2<p2.2)) then (ab (dt (p19.1) (p19.1) n_) (fun (x22:Int)=>(if (x22==(n_ - 1)) then true else (ag19 (x22,(p19.2+1)))))) else false)) (fun _=>default) (x9,1)))))))) (fun _=>default) ((n_ - 1),0))
def nE (n_:Int):Bool:=
 (if (decide (n_<2)) then false else (ae (((12:Int) - 0).toNat+1) (fun (ag4:Int→Bool) (p4:Int)=>(if (decide (p4<(12:Int))) then (if ((aQ .i64 n_ (gt ([2,3,5,7,11,13,17,19,23,29,31,37]:List Int) p4))==0) then (n_==(gt ([2,3,5,7,11,13,17,19,23,29,31,37]:List Int) p4)) else (ag4 (p4+1))) else (if (decide (n_≥2305843009213693952)) then (default:Bool) else (ae (((12:Int) - 0).toNat+1) (fun (ag15:Int→Bool) (p15:Int)=>(if (decide (p15<(12:Int))) then (ab (pB n_ (gt ([2,3,5,7,11,13,17,19,23,29,31,37]:List Int) p15)) (fun (x19:Bool)=>(if (!x19) then false else (ag15 (p15+1))))) else true)) (fun _=>default) 0)))) (fun _=>default) 0))
def ef (g:ao):Bool:=
 (if (decide (g.P<3)) then false else (if (decide (g.P≥2305843009213693952)) then false else (if (decide (g.Q<3)) then false else (if ((aQ .i64 g.Q 2)==0) then false else (if ((aQ .i64 (av .i64 g.P 1) g.Q) !=0) then false else (if (decide (g.G<2)) then false else (if (decide (g.G≥g.P)) then false else (ab (nE (g.P)) (fun (x16:Bool)=>(if x16 then (ab (nE (g.Q)) (fun (x20:Bool)=>(if x20 then (ab (dj (g.G) (g.Q) (g.P)) (fun (x24:Int)=>(x24==1))) else false))) else false))))))))))
mutual
def fz:aa→Int
 | ⟨_,_,l⟩=>dG (gA l 1) 31
def gA:List aa→Int→Int
 | [],n=>n
 | f::l,n=>if n≤30 then gA l (n+fz f) else n
end
mutual
def fQ:aa→Int
 | ⟨_,_,l⟩=>kH l 0+1
def kH:List aa→Int→Int
 | [],n=>n
 | f::l,n=>kH l (ca n (fQ f))
end
def pC (f_:aa):Int:=
 (ae (((f_.L.length:Int) - 0).toNat+1) (fun (ag1:(Int×Int)→Int) (p1:Int×Int)=>(if (decide (p1.2<(f_.L.length:Int))) then (if (decide (p1.1≤30)) then (ab (fz (gt f_.L p1.2)) (fun (x7:Int)=>(ag1 ((p1.1+x7),(p1.2+1))))) else (dG p1.1 31)) else (dG p1.1 31))) (fun _=>default) (1,0))
def pD (f_:aa):Int:=
 (ae (((f_.L.length:Int) - 0).toNat+1) (fun (ag1:(Int×Int)→Int) (p1:Int×Int)=>(if (decide (p1.2<(f_.L.length:Int))) then (ab (fQ (gt f_.L p1.2)) (fun (x5:Int)=>(ag1 ((ca p1.1 x5),(p1.2+1))))) else (p1.1+1))) (fun _=>default) (0,0))
def gB (r_:aH):Bool:=
 (if (decide ((r_.Y.length:Int)<1)) then false else (if (decide ((r_.Y.length:Int)>8)) then false else (if ((r_.Bases.length:Int) !=(r_.Y.length:Int)) then false else (if (decide (((gt r_.Bases 0).length:Int)<1)) then false else (if (decide (((gt r_.Bases 0).length:Int)>12)) then false else (ae (((r_.Y.length:Int) - 0).toNat+1) (fun (ag13:Int→Bool) (p13:Int)=>(if (decide (p13<(r_.Y.length:Int))) then (if (decide ((gt r_.Y p13)<1)) then false else (if (decide ((gt r_.Y p13)≥2305843009213693952)) then false else (if (((gt r_.Bases p13).length:Int) !=((gt r_.Bases 0).length:Int)) then false else (ae ((((gt r_.Bases p13).length:Int) - 0).toNat+1) (fun (ag25:Int→Bool) (p25:Int)=>(if (decide (p25<((gt r_.Bases p13).length:Int))) then (if (decide ((gt (gt r_.Bases p13) p25)<1)) then false else (if (decide ((gt (gt r_.Bases p13) p25)≥2305843009213693952)) then false else (ag25 (p25+1)))) else (ag13 (p13+1)))) (fun _=>default) 0)))) else true)) (fun _=>default) 0))))))
mutual
def eP (EQ:aH→Bool):aa→Bool
 | ⟨k,r,l⟩=>if k=1 then (if l.length=0 then EQ r else false) else if (k=2∨k=3)∧r.Y.length=0∧r.Bases.length=0∧1≤l.length∧l.length≤8 then dP EQ l else false
def dP (EQ:aH→Bool):List aa→Bool
 | []=>true
 | f::l=>if eP EQ f=false then false else dP EQ l
end
def fR (f:aa):Bool:=eP gB f
def pE (f_:aa):Bool:=
 (if (f_.Kind==1) then (if ((f_.L.length:Int)==0) then (ab (gB (f_.Relation)) (fun (x5:Bool)=>x5)) else false) else (if (f_.Kind !=2) then (if (f_.Kind !=3) then false else (if (decide ((f_.Relation.Y.length:Int)>0)) then false else (if (decide ((f_.Relation.Bases.length:Int)>0)) then false else (if (decide ((f_.L.length:Int)<1)) then false else (if (decide ((f_.L.length:Int)>8)) then false else (ae (((f_.L.length:Int) - 0).toNat+1) (fun (ag23:Int→Bool) (p23:Int)=>(if (decide (p23<(f_.L.length:Int))) then (ab (fR (gt f_.L p23)) (fun (x27:Bool)=>(if (!x27) then false else (ag23 (p23+1))))) else true)) (fun _=>default) 0)))))) else (if (decide ((f_.Relation.Y.length:Int)>0)) then false else (if (decide ((f_.Relation.Bases.length:Int)>0)) then false else (if (decide ((f_.L.length:Int)<1)) then false else (if (decide ((f_.L.length:Int)>8)) then false else (ae (((f_.L.length:Int) - 0).toNat+1) (fun (ag48:Int→Bool) (p48:Int)=>(if (decide (p48<(f_.L.length:Int))) then (ab (fR (gt f_.L p48)) (fun (x52:Bool)=>(if (!x52) then false else (ag48 (p48+1))))) else true)) (fun _=>default) 0)))))))
def iF (f_:aa):Bool:=
 (ab (fz f_) (fun (x1:Int)=>(if (decide (x1≤30)) then (ab (fQ f_) (fun (x7:Int)=>(if (decide (x7≤6)) then (ab (fR f_) (fun (x12:Bool)=>x12)) else false))) else false)))
def eQ (r_:aH):Int:=
 ((gt r_.Bases 0).length:Int)
def cv (g:ao) (x_:Int):Bool:=
 (if (decide (x_≥1)) then (if (decide (x_<g.P)) then (ab (dj x_ (g.Q) (g.P)) (fun (x5:Int)=>(x5==1))) else false) else false)
def eg (g:ao) (r_:aH):Bool:=
 (ab (ef g) (fun (x1:Bool)=>(if (!x1) then false else (if (decide ((r_.Y.length:Int)<1)) then false else (if (decide ((r_.Y.length:Int)>8)) then false else (if ((r_.Bases.length:Int) !=(r_.Y.length:Int)) then false else (ab (eQ r_) (fun (x14:Int)=>(if (decide (x14<1)) then false else (if (decide (x14>12)) then false else (ae (((r_.Y.length:Int) - 0).toNat+1) (fun (ag22:Int→Bool) (p22:Int)=>(if (decide (p22<(r_.Y.length:Int))) then (ab (cv g (gt r_.Y p22)) (fun (x26:Bool)=>(if (!x26) then false else (if (((gt r_.Bases p22).length:Int) !=x14) then false else (ae ((x14 - 0).toNat+1) (fun (ag35:Int→Bool) (p35:Int)=>(if (decide (p35<x14)) then (ab (cv g (gt (gt r_.Bases p22) p35)) (fun (x39:Bool)=>(if (!x39) then false else (ag35 (p35+1))))) else (ag22 (p22+1)))) (fun _=>default) 0))))) else true)) (fun _=>default) 0)))))))))))
mutual
def nF (LV:aH→Bool):aa→Bool
 | ⟨k,r,l⟩=>if k=1 then LV r else kI LV l
def kI (LV:aH→Bool):List aa→Bool
 | []=>true
 | f::l=>if nF LV f=false then false else kI LV l
end
def iG (g:ao) (f:aa):Bool:=nF (eg g) f
def pG (g:ao) (f_:aa):Bool:=
 (if (f_.Kind==1) then (ab (eg g (f_.Relation)) (fun (x3:Bool)=>x3)) else (ae (((f_.L.length:Int) - 0).toNat+1) (fun (ag8:Int→Bool) (p8:Int)=>(if (decide (p8<(f_.L.length:Int))) then (ab (iG g (gt f_.L p8)) (fun (x12:Bool)=>(if (!x12) then false else (ag8 (p8+1))))) else true)) (fun _=>default) 0))
def jB (g:ao) (f_:aa):Bool:=
 (ab (ef g) (fun (x1:Bool)=>(if x1 then (ab (iF f_) (fun (x7:Bool)=>(if x7 then (ab (iG g f_) (fun (x13:Bool)=>x13)) else false))) else false)))
def gC (g:ao) (l:(List Int)):Bool:=
 (ae (((l.length:Int) - 0).toNat+1) (fun (ag1:Int→Bool) (p1:Int)=>(if (decide (p1<(l.length:Int))) then (if (decide ((gt l p1)<0)) then false else (if (decide ((gt l p1)≥g.Q)) then false else (ag1 (p1+1)))) else true)) (fun _=>default) 0)
def l8 (g:ao) (bases:(List Int)) (exps:(List Int)):Int:=
 (ae (((bases.length:Int) - 0).toNat+1) (fun (ag1:(Int×Int)→Int) (p1:Int×Int)=>(if (decide (p1.2<(bases.length:Int))) then (ab (dj (gt bases p1.2) (gt exps p1.2) (g.P)) (fun (x6:Int)=>(ab (dt (p1.1) x6 (g.P)) (fun (x9:Int)=>(ag1 (x9,(p1.2+1))))))) else p1.1)) (fun _=>default) (1,0))
def iH (g:ao) (r_:aH) (p_:cu):Bool:=
 (ab (eg g r_) (fun (x1:Bool)=>(if (!x1) then false else (if ((p_.A.length:Int) !=(r_.Y.length:Int)) then false else (ab (eQ r_) (fun (x8:Int)=>(if ((p_.Z.length:Int) !=x8) then false else (ab (gC g (p_.Z)) (fun (x12:Bool)=>(if (!x12) then false else (ab (gC g ([p_.C]:List Int)) (fun (x17:Bool)=>(if (!x17) then false else (ae (((r_.Y.length:Int) - 0).toNat+1) (fun (ag24:Int→Bool) (p24:Int)=>(if (decide (p24<(r_.Y.length:Int))) then (ab (cv g (gt p_.A p24)) (fun (x28:Bool)=>(if (!x28) then false else (ab (dj (gt r_.Y p24) (p_.C) (g.P)) (fun (x36:Int)=>(ab (dt (gt p_.A p24) x36 (g.P)) (fun (x39:Int)=>(ab (l8 g (gt r_.Bases p24) (p_.Z)) (fun (x43:Int)=>(if (x43 !=x39) then false else (ag24 (p24+1)))))))))))) else true)) (fun _=>default) 0))))))))))))))
def l9 (p_:cu):Bool:=
 (if ((p_.A.length:Int)==0) then (if (p_.C==0) then ((p_.Z.length:Int)==0) else false) else false)
def kJ (g:ao) (f:aa) (t:aG):Bool:=eN (iH g) g.Q f t
def pH (g:ao) (f_:aa) (t:aG):Bool:=
 (if (decide (t.C<0)) then false else (if (decide (t.C≥g.Q)) then false else (if (f_.Kind==1) then (if ((t.L.length:Int)==0) then (if (t.P.C==t.C) then (ab (iH g (f_.Relation) (t.P)) (fun (x12:Bool)=>x12)) else false) else false) else (ab (l9 (t.P)) (fun (x18:Bool)=>(if (!x18) then false else (if ((t.L.length:Int) !=(f_.L.length:Int)) then false else (ae (((f_.L.length:Int) - 0).toNat+1) (fun (ag26:(Int×Int)→Bool) (p26:Int×Int)=>(if (decide (p26.2<(f_.L.length:Int))) then (ab (kJ g (gt f_.L p26.2) (gt t.L p26.2)) (fun (x31:Bool)=>(if (!x31) then false else (if (f_.Kind==2) then (if ((gt t.L p26.2).C !=t.C) then false else (ag26 ((aQ .i64 (al .i64 p26.1 (gt t.L p26.2).C) g.Q),(p26.2+1)))) else (ag26 ((aQ .i64 (al .i64 p26.1 (gt t.L p26.2).C) g.Q),(p26.2+1))))))) else (if (f_.Kind==2) then true else (p26.1==t.C)))) (fun _=>default) (0,0)))))))))
def g8 (g:ao) (f_:aa) (t:aG):Bool:=
 (ab (jB g f_) (fun (x1:Bool)=>(if x1 then (ab (kJ g f_ t) (fun (x7:Bool)=>x7)) else false)))
def jC (r_:aH):(List UInt8):=
 (ae (((r_.Y.length:Int) - 0).toNat+1) (fun (ag1:(Int×List (List UInt8))→(List UInt8)) (p1:Int×List (List UInt8))=>(if (decide (p1.1<(r_.Y.length:Int))) then (ab (strconv_Itoa (gt r_.Y p1.1)) (fun (x5:(List UInt8))=>(ae ((((gt r_.Bases p1.1).length:Int) - 0).toNat+1) (fun (ag10:(List UInt8×Int)→(List UInt8)) (p10:List UInt8×Int)=>(if (decide (p10.2<((gt r_.Bases p1.1).length:Int))) then (ab (strconv_Itoa (gt (gt r_.Bases p1.1) p10.2)) (fun (x14:(List UInt8))=>(ag10 ((p10.1++([32]++x14)),(p10.2+1))))) else (ag1 ((p1.1+1),(p1.2++([p10.1]:List (List UInt8))))))) (fun _=>default) ((x5++[32,61]),0)))) else (ab (strings_Join (p1.2) ([44,32])) (fun (x20:(List UInt8))=>(([91]++x20)++[93]))))) (fun _=>default) (0,([]:List (List UInt8))))
mutual
def cN:aa→List UInt8
 | ⟨k,r,l⟩=>if k=1 then jC r else if k=3 then (([111,114]++[40])++strings_Join (du l) [44,32])++[41] else (([97,110,100]++[40])++strings_Join (du l) [44,32])++[41]
def du:List aa→List (List UInt8)
 | []=> []
 | f::l=>cN f::du l
end
def pI (f_:aa):(List UInt8):=
 (if (f_.Kind==1) then (ab (jC (f_.Relation)) (fun (x3:(List UInt8))=>x3)) else (ae (((f_.L.length:Int) - 0).toNat+1) (fun (ag8:(Int×List (List UInt8))→(List UInt8)) (p8:Int×List (List UInt8))=>(if (decide (p8.1<(f_.L.length:Int))) then (ab (cN (gt f_.L p8.1)) (fun (x12:(List UInt8))=>(ag8 ((p8.1+1),(p8.2++([x12]:List (List UInt8))))))) else (if (f_.Kind==3) then (ab (strings_Join (p8.2) ([44,32])) (fun (x19:(List UInt8))=>((([111,114]++[40])++x19)++[41]))) else (ab (strings_Join (p8.2) ([44,32])) (fun (x24:(List UInt8))=>((([97,110,100]++[40])++x24)++[41])))))) (fun _=>default) (0,([]:List (List UInt8)))))
def l_ (f_:aa):((List UInt8)×Int):=
 (ab (iD f_) (fun (x1:Bool)=>(if (!x1) then ([],1) else (ab (cN f_) (fun (x8:(List UInt8))=>(if (decide ((x8.length:Int)>8000)) then ([],5) else (x8,0)))))))
mutual
def b9:aa→aG→List (List Int)
 | ⟨k,_,l⟩,t=>if k=1 then [t.P.A] else fd l t.L
def fd:List aa→List aG→List (List Int)
 | [],_=> []
 | f::l,m=>b9 f (gt m 0)++fd l (m.drop 1)
end
def pJ (f_:aa) (t:aG):(List (List Int)):=
 (if (f_.Kind==1) then ([t.P.A]:List (List Int)) else (ae (((f_.L.length:Int) - 0).toNat+1) (fun (ag4:(Int×List (List Int))→(List (List Int))) (p4:Int×List (List Int))=>(if (decide (p4.1<(f_.L.length:Int))) then (ab (b9 (gt f_.L p4.1) (gt t.L p4.1)) (fun (x9:(List (List Int)))=>(ag4 ((p4.1+1),(p4.2++x9))))) else p4.2)) (fun _=>default) (0,([]:List (List Int)))))
def nG (c:Int):Bool:=
 (if (decide (c<33)) then true else (decide (c>126)))
def wH (s:(List Int)):Int:=
 (ae (((s.length:Int) - 0).toNat+1) (fun (ag1:Int→Int) (p1:Int)=>(if (decide (p1<(s.length:Int))) then (ab (nG (gt s p1)) (fun (x5:Bool)=>(if x5 then p1 else (ag1 (p1+1))))) else (-1))) (fun _=>default) 0)
def sJ (s:(List Int)):Bool:=
 (ab (wH s) (fun (x1:Int)=>(decide (x1≥0))))
def gD (label:(List UInt8)):Bool:=
 (if (decide ((label.length:Int)≥1)) then (if (decide ((label.length:Int)≤24)) then (ab (sJ (bK label)) (fun (x5:Bool)=>(!x5))) else false) else false)
def nH (s:List Int):List Int:=s
def me (n_:Int):(List Int):=
 (ae (((8:Int) - 0).toNat+1) (fun (ag1:(Int×List Int)→(List Int)) (p1:Int×List Int)=>(if (decide (p1.1<(8:Int))) then (ag1 ((p1.1+1),(st p1.2 p1.1 (ah .u8 (aw .u64 n_ (56 - (8*p1.1))))))) else p1.2)) (fun _=>default) (0,([(0:Int),(0:Int),(0:Int),(0:Int),(0:Int),(0:Int),(0:Int),(0:Int)]:List Int)))
def sK (x_:Int) (k_:Int):Int:=
 (orI .u32 (aB .u32 x_ (aU .u64 (ah .u64 k_) 31)) (aw .u32 x_ (av .u64 32 (aU .u64 (ah .u64 k_) 31))))
def fA (x_:Int) (n_:Int):Int:=
 (ab (sK x_ (fZ .i64 n_)) (fun (x1:Int)=>x1))
def kK (block:(List Int)):(List Int):=
 (ae (((16:Int) - 0).toNat+1) (fun (ag1:(Int×(List Int))→(List Int)) (p1:Int×(List Int))=>(if (decide (p1.1<16)) then (ae ((((sl block (4*p1.1) ((4*p1.1)+4)).length:Int) - 0).toNat+1) (fun (ag7:(Int×(List Int))→(List Int)) (p7:Int×(List Int))=>(if (decide (p7.1<((sl block (4*p1.1) ((4*p1.1)+4)).length:Int))) then (ag7 ((p7.1+1),(br 64 (st (br 64 p7.2) p1.1 (orI .u32 (aB .u32 (gt p7.2 p1.1) 8) (ah .u32 (gt (sl block (4*p1.1) ((4*p1.1)+4)) p7.1))))))) else (ag1 ((p1.1+1),p7.2)))) (fun _=>default) (0,p1.2)) else (ae (((64:Int) - 16).toNat+1) (fun (ag17:(Int×(List Int))→(List Int)) (p17:Int×(List Int))=>(if (decide (p17.1<64)) then (ab (fA (gt p17.2 (p17.1 - 15)) 7) (fun (x26:Int)=>(ab (fA (gt p17.2 (p17.1 - 15)) 18) (fun (x29:Int)=>(ab (fA (gt p17.2 (p17.1 - 2)) 17) (fun (x32:Int)=>(ab (fA (gt p17.2 (p17.1 - 2)) 19) (fun (x35:Int)=>(ag17 ((p17.1+1),(br 64 (st (br 64 p17.2) p17.1 (al .u32 (al .u32 (al .u32 (gt p17.2 (p17.1 - 16)) (aW .u32 (aW .u32 x26 x29) (aw .u32 (gt p17.2 (p17.1 - 15)) 3))) (gt p17.2 (p17.1 - 7))) (aW .u32 (aW .u32 x32 x35) (aw .u32 (gt p17.2 (p17.1 - 2)) 10))))))))))))))) else p17.2)) (fun _=>default) (16,p1.2)))) (fun _=>default) (0,[0,0,0,0,0,0,0,0,0,0,0,0,0,0,0,0,0,0,0,0,0,0,0,0,0,0,0,0,0,0,0,0,0,0,0,0,0,0,0,0,0,0,0,0,0,0,0,0,0,0,0,0,0,0,0,0,0,0,0,0,0,0,0,0]))
def jD (state:(List Int)) (block:(List Int)):(List Int):=
 (ab (kK block) (fun (x1:(List Int))=>(ae (((64:Int) - 0).toNat+1) (fun (ag4:(Int×Int×Int×Int×Int×Int×Int×Int×Int)→(List Int)) (p4:Int×Int×Int×Int×Int×Int×Int×Int×Int)=>(if (decide (p4.2.2.2.2.2.2.2.2<64)) then (ab (fA (p4.2.2.2.2.1) 6) (fun (x7:Int)=>(ab (fA (p4.2.2.2.2.1) 11) (fun (x9:Int)=>(ab (fA (p4.2.2.2.2.1) 25) (fun (x11:Int)=>(ab (fA (p4.1) 2) (fun (x16:Int)=>(ab (fA (p4.1) 13) (fun (x19:Int)=>(ab (fA (p4.1) 22) (fun (x22:Int)=>(ag4 ((al .u32 (al .u32 (al .u32 (al .u32 (al .u32 p4.2.2.2.2.2.2.2.1 (aW .u32 (aW .u32 x7 x9) x11)) (aW .u32 (aU .u32 p4.2.2.2.2.1 p4.2.2.2.2.2.1) (aU .u32 (eR .u32 p4.2.2.2.2.1) p4.2.2.2.2.2.2.1))) (gt kg p4.2.2.2.2.2.2.2.2)) (gt x1 p4.2.2.2.2.2.2.2.2)) (al .u32 (aW .u32 (aW .u32 x16 x19) x22) (aW .u32 (aW .u32 (aU .u32 p4.1 p4.2.1) (aU .u32 p4.1 p4.2.2.1)) (aU .u32 p4.2.1 p4.2.2.1)))),p4.1,p4.2.1,p4.2.2.1,(al .u32 p4.2.2.2.1 (al .u32 (al .u32 (al .u32 (al .u32 p4.2.2.2.2.2.2.2.1 (aW .u32 (aW .u32 x7 x9) x11)) (aW .u32 (aU .u32 p4.2.2.2.2.1 p4.2.2.2.2.2.1) (aU .u32 (eR .u32 p4.2.2.2.2.1) p4.2.2.2.2.2.2.1))) (gt kg p4.2.2.2.2.2.2.2.2)) (gt x1 p4.2.2.2.2.2.2.2.2))),p4.2.2.2.2.1,p4.2.2.2.2.2.1,p4.2.2.2.2.2.2.1,(p4.2.2.2.2.2.2.2.2+1))))))))))))))) else (ae (((8:Int) - 0).toNat+1) (fun (ag26:(Int×(List Int))→(List Int)) (p26:Int×(List Int))=>(if (decide (p26.1<8)) then (ag26 ((p26.1+1),(br 8 (st (br 8 p26.2) p26.1 (al .u32 (gt p26.2 p26.1) (gt ([p4.1,p4.2.1,p4.2.2.1,p4.2.2.2.1,p4.2.2.2.2.1,p4.2.2.2.2.2.1,p4.2.2.2.2.2.2.1,p4.2.2.2.2.2.2.2.1]:List Int) p26.1)))))) else p26.2)) (fun _=>default) (0,state)))) (fun _=>default) ((gt state 0),(gt state 1),(gt state 2),(gt state 3),(gt state 4),(gt state 5),(gt state 6),(gt state 7),0))))
def nI (b:(List Int)):(List Int):=
 (ab (nH b) (fun (x1:(List Int))=>(ae (((56 - (((x1++([128]:List Int))).length:Int))% 64).toNat+1) (fun (ag5:(List Int)→(List Int)) (p5:List Int)=>(if ((aQ .i64 (p5.length:Int) 64) !=56) then (ag5 (p5++([0]:List Int))) else (ab (me (aN .u64 8 (ah .u64 (b.length:Int)))) (fun (x9:(List Int))=>(ae (((p5++x9)).length+1) (fun (ag13:(List Int×(List Int))→(List Int)) (p13:List Int×(List Int))=>(if (decide ((p13.1.length:Int)>0)) then (ab (jD (p13.2) (sl p13.1 0 64)) (fun (x16:(List Int))=>(ag13 ((sl p13.1 64 (p13.1.length:Int)),x16)))) else (ae (((8:Int) - 0).toNat+1) (fun (ag20:(Int×(List Int))→(List Int)) (p20:Int×(List Int))=>(if (decide (p20.1<8)) then (ae (((4:Int) - 0).toNat+1) (fun (ag24:(Int×(List Int))→(List Int)) (p24:Int×(List Int))=>(if (decide (p24.1<4)) then (ag24 ((p24.1+1),(br 32 (st (br 32 p24.2) ((4*p20.1)+p24.1) (ah .u8 (aw .u32 (gt p13.2 p20.1) (24 - (8*p24.1)))))))) else (ag20 ((p20.1+1),p24.2)))) (fun _=>default) (0,p20.2)) else p20.2)) (fun _=>default) (0,[0,0,0,0,0,0,0,0,0,0,0,0,0,0,0,0,0,0,0,0,0,0,0,0,0,0,0,0,0,0,0,0])))) (fun _=>default) ((p5++x9),[1779033703,3144134277,1013904242,2773480762,1359893119,2600822924,528734635,1541459225])))))) (fun _=>default) (x1++([128]:List Int)))))
def nJ (tag:(List UInt8)) (b:(List Int)):((List Int)×Int):=
 (if (decide ((tag.length:Int)<1)) then ([0,0,0,0,0,0,0,0,0,0,0,0,0,0,0,0,0,0,0,0,0,0,0,0,0,0,0,0,0,0,0,0],2) else (if (decide ((tag.length:Int)>100)) then ([0,0,0,0,0,0,0,0,0,0,0,0,0,0,0,0,0,0,0,0,0,0,0,0,0,0,0,0,0,0,0,0],2) else (ab (nI (bK tag)) (fun (x6:(List Int))=>(ab (nH (br 32 x6)) (fun (x9:(List Int))=>(ab (nI ((x9++(br 32 x6))++b)) (fun (x12:(List Int))=>(x12,0)))))))))
def mf (label:(List UInt8)):(aV×Int):=
 (ab (gD label) (fun (x1:Bool)=>(if (!x1) then (cr,1) else (ab (nJ ([115,112,101,99,105,101,47,116,114,97,110,115,99,114,105,112,116]) (bK label)) (fun (x8:((List Int)×Int))=>(({State:=x8.1,Count:=0}:aV),x8.2))))))
def kL (t:aV):Bool:=
 (if (decide (t.Count≥0)) then (decide (t.Count≤1000)) else false)
def mg (x_:aq) (c0:Int):Bool:=
 (ab (cc x_ (c0 - 1)) (fun (x2:Bool)=>(!x2)))
def sL (s:(List aq)) (f__c0:Int):Int:=
 (ae (((s.length:Int) - 0).toNat+1) (fun (ag1:Int→Int) (p1:Int)=>(if (decide (p1<(s.length:Int))) then (ab (mg (gt s p1) f__c0) (fun (x5:Bool)=>(if x5 then p1 else (ag1 (p1+1))))) else (-1))) (fun _=>default) 0)
def nK (s:(List aq)) (f__c0:Int):Bool:=
 (ab (sL s f__c0) (fun (x1:Int)=>(decide (x1≥0))))
def pK (i_:aq) (depth:Int):Bool:=
 (if (i_.Kind==1) then (if ((i_.B.length:Int)==0) then ((i_.L.length:Int)==0) else false) else (if (i_.Kind==2) then (if (i_.N==0) then ((i_.L.length:Int)==0) else false) else (if (i_.Kind==3) then (if (i_.N==0) then (if ((i_.B.length:Int)==0) then (if (decide (depth>0)) then (if (decide ((i_.L.length:Int)≤1000)) then (ab (nK (i_.L) depth) (fun (x23:Bool)=>(!x23))) else false) else false) else false) else false) else false)))
def sM (i_:aq):Bool:=
 (ab (cc i_ 8) (fun (x1:Bool)=>x1))
def jE (out:(List Int)) (n_:Int) (size:Int):(List Int):=
 (ae (((size - 1)+1).toNat+1) (fun (ag2:(Int×List Int)→(List Int)) (p2:Int×List Int)=>(if (decide (p2.1≥0)) then (ag2 ((p2.1 - 1),(p2.2++([(ah .u8 (aw .u64 n_ (8*p2.1)))]:List Int)))) else p2.2)) (fun _=>default) ((size - 1),out))
def pL (out:(List Int)) (i_:aq):(List Int):=
 (if (decide ((out.length:Int)>16384)) then out else (if (i_.Kind==1) then (ab (jE (out++([(ah .u8 i_.Kind)]:List Int)) (ah .u64 i_.N) 8) (fun (x6:(List Int))=>x6)) else (if (i_.Kind==2) then (ab (jE (out++([(ah .u8 i_.Kind)]:List Int)) (ah .u64 (i_.B.length:Int)) 4) (fun (x13:(List Int))=>(x13++i_.B))) else (ab (jE (out++([(ah .u8 i_.Kind)]:List Int)) (ah .u64 (i_.L.length:Int)) 4) (fun (x17:(List Int))=>(ae (((i_.L.length:Int) - 0).toNat+1) (fun (ag21:(Int×List Int)→(List Int)) (p21:Int×List Int)=>(if (decide (p21.1<(i_.L.length:Int))) then (ab (ee (p21.2) (gt i_.L p21.1)) (fun (x25:(List Int))=>(ag21 ((p21.1+1),x25)))) else p21.2)) (fun _=>default) (0,x17)))))))
def jF (i_:aq):((List Int)×Int):=
 (ab (sM i_) (fun (x1:Bool)=>(if (!x1) then (([]:List Int),1) else (ab (ee ([]:List Int) i_) (fun (x7:(List Int))=>(if (decide ((x7.length:Int)>16384)) then (([]:List Int),5) else (x7,0)))))))
def mh (tag:(List UInt8)) (t:aV) (label:(List UInt8)) (more:(List aq)):((List Int)×Int):=
 (ab (jF ({Kind:=3,N:=0,B:=([]:List Int),L:=(([({Kind:=2,N:=0,B:=(br 32 t.State),L:=([]:List aq)}:aq),({Kind:=2,N:=0,B:=(bK label),L:=([]:List aq)}:aq)]:List aq)++more)}:aq)) (fun (x1:((List Int)×Int))=>(if (x1.2 !=0) then ([0,0,0,0,0,0,0,0,0,0,0,0,0,0,0,0,0,0,0,0,0,0,0,0,0,0,0,0,0,0,0,0],x1.2) else (ab (nJ tag (x1.1)) (fun (x8:((List Int)×Int))=>(x8.1,x8.2))))))
def mi (t:aV) (label:(List UInt8)) (i_:aq):(aV×Int):=
 (ab (kL t) (fun (x1:Bool)=>(if (!x1) then (cr,1) else (ab (gD label) (fun (x6:Bool)=>(if (!x6) then (cr,1) else (ab (mh ([115,112,101,99,105,101,47,97,98,115,111,114,98]) t label ([i_]:List aq)) (fun (x13:((List Int)×Int))=>(if (x13.2==1) then (cr,1) else (if (x13.2 !=0) then (cr,5) else (if (t.Count==1000) then (cr,5) else (({State:=x13.1,Count:=(al .i64 t.Count 1)}:aV),0))))))))))))
def bH (name:(List UInt8)) (i_:aq) (c0:Int) (c1:aV):(Int×aV):=
 (if (c0==0) then (ab (mi c1 name i_) (fun (x3:(aV×Int))=>(x3.2,x3.1))) else (c0,c1))
def iI (l:(List Int)):aq:=
 (ae (((l.length:Int) - 0).toNat+1) (fun (ag1:(Int×List aq)→aq) (p1:Int×List aq)=>(if (decide (p1.1<(l.length:Int))) then (ag1 ((p1.1+1),(p1.2++([({Kind:=1,N:=(gt l p1.1),B:=([]:List Int),L:=([]:List aq)}:aq)]:List aq)))) else ({Kind:=3,N:=0,B:=([]:List Int),L:=p1.2}:aq))) (fun _=>default) (0,([]:List aq)))
def nL (a_:Int) (b:Int) (m:Int):(Int×Int):=
 (ab (gz a_ b m) (fun (x1:Int)=>(if (x1 !=0) then (0,x1) else ((aQ .i64 (al .i64 a_ b) m),0))))
def nM (h_:(List Int)) (m:Int):(Int×Int):=
 (if (decide (m<1)) then (0,1) else (if (decide (m≥2305843009213693952)) then (0,1) else (ae (((16:Int) - 0).toNat+1) (fun (ag6:(Int×Int)→(Int×Int)) (p6:Int×Int)=>(if (decide (p6.2<(16:Int))) then (ae (((8:Int) - 0).toNat+1) (fun (ag10:(Int×Int)→(Int×Int)) (p10:Int×Int)=>(if (decide (p10.2<8)) then (ab (nL (p10.1) (p10.1) m) (fun (x13:(Int×Int))=>(ag10 (x13.1,(p10.2+1))))) else (ab (nL (p10.1) (aQ .i64 (ah .i64 (gt ([(gt h_ 0),(gt h_ 1),(gt h_ 2),(gt h_ 3),(gt h_ 4),(gt h_ 5),(gt h_ 6),(gt h_ 7),(gt h_ 8),(gt h_ 9),(gt h_ 10),(gt h_ 11),(gt h_ 12),(gt h_ 13),(gt h_ 14),(gt h_ 15)]:List Int) p6.2)) m) m) (fun (x17:(Int×Int))=>(ag6 (x17.1,(p6.2+1))))))) (fun _=>default) (p6.1,0)) else (p6.1,0))) (fun _=>default) (0,0))))
def pM (t:aV) (label:(List UInt8)) (q:Int):(aV×Int×Int):=
 (ab (kL t) (fun (x1:Bool)=>(if (!x1) then (cr,0,1) else (ab (gD label) (fun (x6:Bool)=>(if (!x6) then (cr,0,1) else (if (decide (q<2)) then (cr,0,2) else (if (decide (q≥2305843009213693952)) then (cr,0,2) else (if (t.Count==1000) then (cr,0,5) else (ab (mh ([115,112,101,99,105,101,47,99,104,97,108,108,101,110,103,101]) t label ([]:List aq)) (fun (x21:((List Int)×Int))=>(if (x21.2 !=0) then (cr,0,x21.2) else (ab (nM (x21.1) q) (fun (x27:(Int×Int))=>(if (x27.2 !=0) then (cr,0,x27.2) else (ab (mi t label ({Kind:=1,N:=x27.1,B:=([]:List Int),L:=([]:List aq)}:aq)) (fun (x33:(aV×Int))=>(if (x33.2 !=0) then (cr,0,x33.2) else (x33.1,x27.1,0)))))))))))))))))))
def mj (g:ao) (text:(List UInt8)) (label:(List UInt8)) (l:(List (List Int))):(Int×Int):=
 (ab (mf label) (fun (x1:(aV×Int))=>(ab (iI ([g.P,g.Q,g.G]:List Int)) (fun (x4:aq)=>(ab (bH ([103,114,111,117,112]) x4 (x1.2) (x1.1)) (fun (x8:(Int×aV))=>(ab (bH ([102,111,114,109,117,108,97]) ({Kind:=2,N:=0,B:=(bK text),L:=([]:List aq)}:aq) (x8.1) (x8.2)) (fun (x11:(Int×aV))=>(ae (((l.length:Int) - 0).toNat+1) (fun (ag14:(Int×aV×Int)→(Int×Int)) (p14:Int×aV×Int)=>(if (decide (p14.1<(l.length:Int))) then (ab (iI (gt l p14.1)) (fun (x18:aq)=>(ab (bH ([99,111,109,109,105,116]) x18 (p14.2.2) (p14.2.1)) (fun (x22:(Int×aV))=>(ag14 ((p14.1+1),x22.2,x22.1)))))) else (if (p14.2.2 !=0) then (0,p14.2.2) else (ab (pM (p14.2.1) ([99,104,97,108,108,101,110,103,101]) (g.Q)) (fun (x29:(aV×Int×Int))=>(x29.2.1,x29.2.2)))))) (fun _=>default) (0,x11.2,x11.1))))))))))
def pN (g:ao) (f_:aa) (label:(List UInt8)) (t:aG):Bool:=
 (ab (jA g f_ t) (fun (x1:Bool)=>(if (!x1) then false else (ab (l_ f_) (fun (x8:((List UInt8)×Int))=>(if (x8.2 !=0) then false else (ab (b9 f_ t) (fun (x15:(List (List Int)))=>(ab (mj g (x8.1) label x15) (fun (x19:(Int×Int))=>(if (x19.2==0) then (x19.1==t.C) else false)))))))))))
def dC (s:(List UInt8)):Bool:=
 (if (decide ((s.length:Int)<1)) then false else (if (decide ((s.length:Int)>24)) then false else (ae (((s.length:Int) - 0).toNat+1) (fun (ag6:Int→Bool) (p6:Int)=>(if (decide (p6<(s.length:Int))) then (if (decide (((s.getD p6.toNat 0).toNat:Int)<33)) then false else (if (decide (((s.getD p6.toNat 0).toNat:Int)>126)) then false else (ag6 (p6+1)))) else true)) (fun _=>default) 0)))
def dD (n:Int):List UInt8:=Lib.decDigits n.toNat
def pO (n_:Int):(List UInt8):=
 (if (decide (n_≥10)) then (ab (dD (n_/10)) (fun (x6:(List UInt8))=>(x6++(([(ah .u8 (48+(n_% 10)))]:List Int).map u8N)))) else (([(ah .u8 (48+(n_% 10)))]:List Int).map u8N))
def iJ:List Int→List (List Int)→Int→List UInt8→List UInt8
 | [],_,_,s=>s
 | y::Y,B,i,s=>iJ Y (B.drop 1) (i+1) (((if 0<i then s++[44,32] else s)++dD y++[32,61])++(gt B 0).flatMap (fun b=>32::dD b))
def sN (r:aH):List UInt8:=iJ r.Y r.Bases 0 [91]++[93]
mutual
def cj:aa→List UInt8
 | ⟨k,r,l⟩=>if k=1 then sN r else gE l 0 (if k=3 then [111,114,40] else [97,110,100,40])++[41]
def gE:List aa→Int→List UInt8→List UInt8
 | [],_,s=>s
 | f::l,i,s=>gE l (i+1) ((if 0<i then s++[44,32] else s)++cj f)
end
def pP (f_:aa):(List UInt8):=
 (if (f_.Kind==1) then (ae (((f_.Relation.Y.length:Int) - 0).toNat+1) (fun (ag3:(List UInt8×Int)→(List UInt8)) (p3:List UInt8×Int)=>(if (decide (p3.2<(f_.Relation.Y.length:Int))) then (gn (fun (p6:List UInt8)=>(ab (dD (gt f_.Relation.Y p3.2)) (fun (x8:(List UInt8))=>(ae ((((gt f_.Relation.Bases p3.2).length:Int) - 0).toNat+1) (fun (ag12:(List UInt8×Int)→(List UInt8)) (p12:List UInt8×Int)=>(if (decide (p12.2<((gt f_.Relation.Bases p3.2).length:Int))) then (ab (dD (gt (gt f_.Relation.Bases p3.2) p12.2)) (fun (x17:(List UInt8))=>(ag12 (((p12.1++[32])++x17),(p12.2+1))))) else (ag3 (p12.1,(p3.2+1))))) (fun _=>default) (((p6++x8)++[32,61]),0))))) (fun j6=>(if (decide (p3.2>0)) then (j6 (p3.1++[44,32])) else (j6 p3.1)))) else (p3.1++[93]))) (fun _=>default) ([91],0)) else (gn (fun (p27:List UInt8)=>(ae (((f_.L.length:Int) - 0).toNat+1) (fun (ag28:(List UInt8×Int)→(List UInt8)) (p28:List UInt8×Int)=>(if (decide (p28.2<(f_.L.length:Int))) then (if (decide (p28.2>0)) then (ab (cj (gt f_.L p28.2)) (fun (x34:(List UInt8))=>(ag28 (((p28.1++[44,32])++x34),(p28.2+1))))) else (ab (cj (gt f_.L p28.2)) (fun (x40:(List UInt8))=>(ag28 ((p28.1++x40),(p28.2+1)))))) else (p28.1++[41]))) (fun _=>default) (p27,0))) (fun j27=>(if (f_.Kind==3) then (j27 [111,114,40]) else (j27 [97,110,100,40])))))
def ml:(List Int):=
 ([1116352408,1899447441,3049323471,3921009573,961987163,1508970993,2453635748,2870763221,3624381080,310598401,607225278,1426881987,1925078388,2162078206,2614888103,3248222580,3835390401,4022224774,264347078,604807628,770255983,1249150122,1555081692,1996064986,2554220882,2821834349,2952996808,3210313671,3336571891,3584528711,113926993,338241895,666307205,773529912,1294757372,1396182291,1695183700,1986661051,2177026350,2456956037,2730485921,2820302411,3259730800,3345764771,3516065817,3600352804,4094571909,275423344,430227734,506948616,659060556,883997877,958139571,1322822218,1537002063,1747873779,1955562222,2024104815,2227730452,2361852424,2428436474,2756734187,3204031479,3329325298]:List Int)
def kM (n_:Int):(List Int):=
 (ae (((7+1):Int).toNat+1) (fun (ag1:(Int×List Int)→(List Int)) (p1:Int×List Int)=>(if (decide (p1.1≥0)) then (ag1 ((p1.1 - 1),(p1.2++([(ah .u8 (aw .i64 n_ (8*p1.1)))]:List Int)))) else p1.2)) (fun _=>default) (7,([]:List Int)))
def g9 (b:(List Int)):(List Int):=
 (ae (((56 - ((((([]:List Int)++b)++([128]:List Int))).length:Int))% 64).toNat+1) (fun (ag1:(List Int)→(List Int)) (p1:List Int)=>(if ((aQ .i64 (p1.length:Int) 64) !=56) then (ag1 (p1++([0]:List Int))) else (ab (kM (aN .i64 8 (b.length:Int))) (fun (x5:(List Int))=>(p1++x5))))) (fun _=>default) ((([]:List Int)++b)++([128]:List Int)))
def dE (x_:Int) (n_:Int):Int:=
 (orI .u32 (aw .u32 x_ n_) (aB .u32 x_ (32 - n_)))
def kN (b:(List Int)):(List Int):=
 (ae (((16:Int) - 0).toNat+1) (fun (ag1:(Int×List Int)→(List Int)) (p1:Int×List Int)=>(if (decide (p1.1<16)) then (ae (((4:Int) - 0).toNat+1) (fun (ag4:(Int×Int)→(List Int)) (p4:Int×Int)=>(if (decide (p4.2<4)) then (ag4 ((al .u32 (aN .u32 p4.1 256) (ah .u32 (gt b ((4*p1.1)+p4.2)))),(p4.2+1))) else (ag1 ((p1.1+1),(p1.2++([p4.1]:List Int)))))) (fun _=>default) (0,0)) else (ae (((64:Int) - 16).toNat+1) (fun (ag12:(Int×List Int)→(List Int)) (p12:Int×List Int)=>(if (decide (p12.1<64)) then (ab (dE (gt p12.2 (p12.1 - 15)) 7) (fun (x19:Int)=>(ab (dE (gt p12.2 (p12.1 - 15)) 18) (fun (x22:Int)=>(ab (dE (gt p12.2 (p12.1 - 2)) 17) (fun (x25:Int)=>(ab (dE (gt p12.2 (p12.1 - 2)) 19) (fun (x28:Int)=>(ag12 ((p12.1+1),(p12.2++([(al .u32 (al .u32 (al .u32 (gt p12.2 (p12.1 - 16)) (aW .u32 (aW .u32 x19 x22) (aw .u32 (gt p12.2 (p12.1 - 15)) 3))) (gt p12.2 (p12.1 - 7))) (aW .u32 (aW .u32 x25 x28) (aw .u32 (gt p12.2 (p12.1 - 2)) 10)))]:List Int)))))))))))) else p12.2)) (fun _=>default) (16,p1.2)))) (fun _=>default) (0,([]:List Int)))
def iK (b:(List Int)):(List Int):=
 (ab (ml) (fun (x1:(List Int))=>(ab (g9 b) (fun (x5:(List Int))=>(ae (((x5.length:Int) - 0).toNat+1) (fun (ag9:(Int×List Int)→(List Int)) (p9:Int×List Int)=>(if (decide (p9.1<(x5.length:Int))) then (ab (kN (sl x5 p9.1 (p9.1+64))) (fun (x13:(List Int))=>(ae (((64:Int) - 0).toNat+1) (fun (ag17:(Int×List Int)→(List Int)) (p17:Int×List Int)=>(if (decide (p17.1<64)) then (ab (dE (gt p17.2 4) 6) (fun (x22:Int)=>(ab (dE (gt p17.2 4) 11) (fun (x24:Int)=>(ab (dE (gt p17.2 4) 25) (fun (x26:Int)=>(ab (dE (gt p17.2 0) 2) (fun (x33:Int)=>(ab (dE (gt p17.2 0) 13) (fun (x35:Int)=>(ab (dE (gt p17.2 0) 22) (fun (x37:Int)=>(ag17 ((p17.1+1),([(al .u32 (al .u32 (al .u32 (al .u32 (al .u32 (gt p17.2 7) (aW .u32 (aW .u32 x22 x24) x26)) (aW .u32 (aU .u32 (gt p17.2 4) (gt p17.2 5)) (aU .u32 (eR .u32 (gt p17.2 4)) (gt p17.2 6)))) (gt x1 p17.1)) (gt x13 p17.1)) (al .u32 (aW .u32 (aW .u32 x33 x35) x37) (aW .u32 (aW .u32 (aU .u32 (gt p17.2 0) (gt p17.2 1)) (aU .u32 (gt p17.2 0) (gt p17.2 2))) (aU .u32 (gt p17.2 1) (gt p17.2 2))))),(gt p17.2 0),(gt p17.2 1),(gt p17.2 2),(al .u32 (gt p17.2 3) (al .u32 (al .u32 (al .u32 (al .u32 (gt p17.2 7) (aW .u32 (aW .u32 x22 x24) x26)) (aW .u32 (aU .u32 (gt p17.2 4) (gt p17.2 5)) (aU .u32 (eR .u32 (gt p17.2 4)) (gt p17.2 6)))) (gt x1 p17.1)) (gt x13 p17.1))),(gt p17.2 4),(gt p17.2 5),(gt p17.2 6)]:List Int))))))))))))))) else (ae (((8:Int) - 0).toNat+1) (fun (ag43:(Int×List Int)→(List Int)) (p43:Int×List Int)=>(if (decide (p43.1<8)) then (ag43 ((p43.1+1),(st p43.2 p43.1 (al .u32 (gt p43.2 p43.1) (gt p17.2 p43.1))))) else (ag9 ((p9.1+64),p43.2)))) (fun _=>default) (0,p9.2)))) (fun _=>default) (0,(([]:List Int)++p9.2))))) else (ae (((32:Int) - 0).toNat+1) (fun (ag51:(Int×(List Int))→(List Int)) (p51:Int×(List Int))=>(if (decide (p51.1<32)) then (ag51 ((p51.1+1),(br 32 (st (br 32 p51.2) p51.1 (ah .u8 (aw .u32 (gt p9.2 (p51.1/4)) (24 - (8*(p51.1% 4))))))))) else p51.2)) (fun _=>default) (0,[0,0,0,0,0,0,0,0,0,0,0,0,0,0,0,0,0,0,0,0,0,0,0,0,0,0,0,0,0,0,0,0])))) (fun _=>default) (0,([1779033703,3144134277,1013904242,2773480762,1359893119,2600822924,528734635,1541459225]:List Int)))))))
def jG (b:(List Int)) (h_:(List Int)):(List Int):=
 (ae (((32:Int) - 0).toNat+1) (fun (ag1:(Int×List Int)→(List Int)) (p1:Int×List Int)=>(if (decide (p1.1<32)) then (ag1 ((p1.1+1),(p1.2++([(gt h_ p1.1)]:List Int)))) else p1.2)) (fun _=>default) (0,(([]:List Int)++b)))
def eB (tag:(List UInt8)) (b:(List Int)):(List Int):=
 (ab (iK (bK tag)) (fun (x1:(List Int))=>(ab (jG ([]:List Int) x1) (fun (x4:(List Int))=>(ab (jG x4 x1) (fun (x7:(List Int))=>(ab (iK (x7++b)) (fun (x10:(List Int))=>x10))))))))
def ff (label:(List UInt8)):aV:=
 (ab (eB ([115,112,101,99,105,101,47,116,114,97,110,115,99,114,105,112,116]) (bK label)) (fun (x1:(List Int))=>({State:=x1,Count:=0}:aV)))
def nN (l:(List Int)):aq:=
 (ae (((l.length:Int) - 0).toNat+1) (fun (ag1:(Int×List aq)→aq) (p1:Int×List aq)=>(if (decide (p1.1<(l.length:Int))) then (ag1 ((p1.1+1),(p1.2++([({Kind:=1,N:=(gt l p1.1),B:=([]:List Int),L:=([]:List aq)}:aq)]:List aq)))) else ({Kind:=3,N:=0,B:=([]:List Int),L:=p1.2}:aq))) (fun _=>default) (0,([]:List aq)))
def kO (t:aV):Bool:=
 (if (decide (t.Count≥0)) then (decide (t.Count≤1000)) else false)
def pQ (i_:aq) (within:Int):Bool:=
 (if (i_.Kind==1) then (if ((i_.B.length:Int)==0) then ((i_.L.length:Int)==0) else false) else (if (i_.Kind==2) then (if (i_.N==0) then ((i_.L.length:Int)==0) else false) else (if (i_.Kind==3) then (if (i_.N !=0) then false else (if ((i_.B.length:Int) !=0) then false else (if (decide ((i_.L.length:Int)>1000)) then false else (if (within==8) then false else (ae (((i_.L.length:Int) - 0).toNat+1) (fun (ag24:Int→Bool) (p24:Int)=>(if (decide (p24<(i_.L.length:Int))) then (ab (jt (gt i_.L p24) (within+1)) (fun (x29:Bool)=>(if (!x29) then false else (ag24 (p24+1))))) else true)) (fun _=>default) 0))))) else false)))
def pR (i_:aq):Bool:=
 (ab (jt i_ 0) (fun (x1:Bool)=>x1))
def kP (n_:Int) (size:Int):(List Int):=
 (ae (((size - 1)+1).toNat+1) (fun (ag2:(Int×Int×List Int)→(List Int)) (p2:Int×Int×List Int)=>(if (decide (p2.2.1≥0)) then (ag2 ((bP .u64 p2.1 256),(p2.2.1 - 1),(st p2.2.2 p2.2.1 (ah .u8 (aQ .u64 p2.1 256))))) else p2.2.2)) (fun _=>default) (n_,(size - 1),(rep size.toNat (0:Int))))
def pS (i_:aq):(List Int):=
 (if (i_.Kind==1) then (ab (kP (ah .u64 i_.N) 8) (fun (x3:(List Int))=>(([1]:List Int)++x3))) else (if (i_.Kind==2) then (ab (kP (ah .u64 (i_.B.length:Int)) 4) (fun (x10:(List Int))=>((([2]:List Int)++x10)++i_.B))) else (ab (kP (ah .u64 (i_.L.length:Int)) 4) (fun (x14:(List Int))=>(ae (((i_.L.length:Int) - 0).toNat+1) (fun (ag18:(Int×List Int)→(List Int)) (p18:Int×List Int)=>(if (decide (p18.1<(i_.L.length:Int))) then (ab (bB (gt i_.L p18.1)) (fun (x22:(List Int))=>(ag18 ((p18.1+1),(p18.2++x22))))) else p18.2)) (fun _=>default) (0,(([3]:List Int)++x14)))))))
def jH (t:aV) (label:(List UInt8)) (i_:aq):(aV×Int):=
 (ab (kO t) (fun (x1:Bool)=>(if (!x1) then (cr,1) else (ab (dC label) (fun (x6:Bool)=>(if (!x6) then (cr,1) else (ab (cF t label ([i_]:List aq)) (fun (x13:aq)=>(ab (pR x13) (fun (x17:Bool)=>(if (!x17) then (cr,1) else (ab (bB x13) (fun (x23:(List Int))=>(if (t.Count==1000) then (cr,5) else (if (decide ((x23.length:Int)>16384)) then (cr,5) else (ab (eB ([115,112,101,99,105,101,47,97,98,115,111,114,98]) x23) (fun (x32:(List Int))=>(({State:=x32,Count:=(al .i64 t.Count 1)}:aV),0))))))))))))))))))
def kQ (t:aV) (label:(List UInt8)) (l:(List Int)):(aV×Int):=
 (ab (nN l) (fun (x1:aq)=>(ab (jH t label x1) (fun (x4:(aV×Int))=>(x4.1,x4.2)))))
def pT (f_:aa) (t:aG):(List (List Int)):=
 (if (f_.Kind==1) then ([t.P.A]:List (List Int)) else (ae (((f_.L.length:Int) - 0).toNat+1) (fun (ag4:(Int×List (List Int))→(List (List Int))) (p4:Int×List (List Int))=>(if (decide (p4.1<(f_.L.length:Int))) then (ab (b9 (gt f_.L p4.1) (gt t.L p4.1)) (fun (x9:(List (List Int)))=>(ae (((x9.length:Int) - 0).toNat+1) (fun (ag13:(Int×List (List Int))→(List (List Int))) (p13:Int×List (List Int))=>(if (decide (p13.1<(x9.length:Int))) then (ag13 ((p13.1+1),(p13.2++([(gt x9 p13.1)]:List (List Int))))) else (ag4 ((p4.1+1),p13.2)))) (fun _=>default) (0,p4.2)))) else p4.2)) (fun _=>default) (0,([]:List (List Int)))))
def nO (a_:Int) (m:Int):Int:=
 (if (decide ((aQ .i64 a_ m)<0)) then (al .i64 (aQ .i64 a_ m) m) else (aQ .i64 a_ m))
def kR (h_:(List Int)) (m:Int):Int:=
 (ae (((16:Int) - 0).toNat+1) (fun (ag1:(Int×Int)→Int) (p1:Int×Int)=>(if (decide (p1.2<16)) then (ab (dt (p1.1) (aQ .i64 256 m) m) (fun (x4:Int)=>(ab (nO (x4+(ah .i64 (gt h_ p1.2))) m) (fun (x10:Int)=>(ag1 (x10,(p1.2+1))))))) else p1.1)) (fun _=>default) (0,0))
def pU (t:aV) (label:(List UInt8)) (q:Int):(aV×Int×Int):=
 (ab (kO t) (fun (x1:Bool)=>(if (!x1) then (cr,0,1) else (ab (dC label) (fun (x6:Bool)=>(if (!x6) then (cr,0,1) else (if (decide (q<2)) then (cr,0,2) else (if (decide (q≥2305843009213693952)) then (cr,0,2) else (if (t.Count==1000) then (cr,0,5) else (ab (cF t label ([]:List aq)) (fun (x21:aq)=>(ab (bB x21) (fun (x25:(List Int))=>(ab (eB ([115,112,101,99,105,101,47,99,104,97,108,108,101,110,103,101]) x25) (fun (x29:(List Int))=>(ab (kR x29 q) (fun (x32:Int)=>(ab (jH t label ({Kind:=1,N:=x32,B:=([]:List Int),L:=([]:List aq)}:aq)) (fun (x35:(aV×Int))=>(x35.1,x32,x35.2))))))))))))))))))))
def pV (g:ao) (f_:aa) (label:(List UInt8)) (t:aG):Int:=
 (ab (ff label) (fun (x1:aV)=>(ab (kQ x1 ([103,114,111,117,112]) ([g.P,g.Q,g.G]:List Int)) (fun (x4:(aV×Int))=>(ab (cj f_) (fun (x7:(List UInt8))=>(ab (jH (x4.1) ([102,111,114,109,117,108,97]) ({Kind:=2,N:=0,B:=(bK x7),L:=([]:List aq)}:aq)) (fun (x10:(aV×Int))=>(ab (b9 f_ t) (fun (x12:(List (List Int)))=>(ae (((x12.length:Int) - 0).toNat+1) (fun (ag17:(Int×aV)→Int) (p17:Int×aV)=>(if (decide (p17.1<(x12.length:Int))) then (ab (kQ (p17.2) ([99,111,109,109,105,116]) (gt x12 p17.1)) (fun (x21:(aV×Int))=>(ag17 ((p17.1+1),x21.1)))) else (ab (pU (p17.2) ([99,104,97,108,108,101,110,103,101]) (g.Q)) (fun (x24:(aV×Int×Int))=>x24.2.1)))) (fun _=>default) (0,x10.1))))))))))))
def pW (g:ao) (f_:aa) (label:(List UInt8)) (t:aG):Bool:=
 (ab (g8 g f_ t) (fun (x1:Bool)=>(if x1 then (ab (dC label) (fun (x6:Bool)=>(if x6 then (ab (cj f_) (fun (x11:(List UInt8))=>(if (decide ((x11.length:Int)≤8000)) then (ab (pV g f_ label t) (fun (x15:Int)=>(t.C==x15))) else false))) else false))) else false)))
def sO (g:ao) (f_:aa) (label:(List UInt8)) (t:aG):Bool:=
 (ab (sF) (fun (x1:Bool)=>(if (!x1) then false else (ab (sI f_ ([t]:List aG)) (fun (x7:Bool)=>(if (!x7) then true else (if (decide ((label.length:Int)>60)) then true else (ab (jA g f_ t) (fun (x15:Bool)=>(ab (g8 g f_ t) (fun (x18:Bool)=>(if (x15==x18) then (ab (pN g f_ label t) (fun (x23:Bool)=>(ab (pW g f_ label t) (fun (x25:Bool)=>(x23==x25))))) else false))))))))))))
end Go.Proofs.YtgealhhkngbkbaaGreatDoor
namespace Go.Proofs.YtgealhhkngbkbaaGreatDoor
open Go.RowKit
theorem w64 (a:Int):IntKind.wrap .u64 a=a% 18446744073709551616:=by simp [IntKind.wrap,IntKind.bits,IntKind.signed]
theorem mm {k:IntKind} {x:Int} {n:Int} {m:Nat} (hn:min n.toNat k.bits=m):aw k x n=x/2^m:=by
 unfold aw;rw [hn,Int.fdiv_eq_ediv_of_nonneg];exact Int.le_of_lt (Int.pow_pos (by decide))
theorem kS (x:Int):aw .u64 x 32=x/4294967296:=mm (m:=32) rfl
theorem AP (x:Int):aw .u64 x 58=x/288230376151711744:=mm (m:=58) rfl
theorem cH (x:Int):aw .u64 x 1=x/2:=mm (m:=1) rfl
theorem cO (x:Int):aw .i64 x 1=x/2:=mm (m:=1) rfl
theorem AQ {x:Int}:0≤aw .u64 (aN .u64 x 285870213051353865) 58∧aw .u64 (aN .u64 x 285870213051353865) 58<64:=by
 rw [AP];unfold aN;rw [w64];omega
def JJ (x:Int) (l:Nat):Prop:=1≤l∧(2:Int)^(l - 1)≤x∧x<2^l
theorem JK (x:Nat):1≤x→x<2^64→1≤Lib.bitLen x∧2^(Lib.bitLen x - 1)≤x∧x<2^Lib.bitLen x:=by
 induction x using Nat.strongRecOn with
 | ind x ih=>
  intro h0 h1
  by_cases h:x=1
  ·subst h;decide
  ·obtain ⟨a1,a2,a3⟩:=ih (x/2) (by omega) (by omega) (by omega)
   rw [Lib.bitLen_half x (by omega) h1]
   generalize Lib.bitLen (x/2)=l at a1 a2 a3
   obtain ⟨l,rfl⟩: ∃k,l=k+1:=⟨l - 1,by omega⟩
   refine ⟨by omega,?_,?_⟩
   ·rw [show 1+(l+1) - 1=l+1 by omega,Nat.pow_succ]
    simp only [Nat.add_sub_cancel] at a2
    omega
   ·rw [show 1+(l+1)=(l+1)+1 by omega,Nat.pow_succ]
    omega
theorem JL {x:Int} (h0:1≤x) (h1:x≤18446744073709551615): ∃l:Nat,ss x=l∧JJ x l∧l≤64:=by
 obtain ⟨k,rfl⟩:=Int.eq_ofNat_of_zero_le (show 0≤x by omega)
 have hk:k<2^64:=by omega
 obtain ⟨a1,a2,a3⟩:=JK k (by omega) hk
 exact ⟨Lib.bitLen k,rfl,⟨a1,by exact_mod_cast a2,by exact_mod_cast a3⟩,Lib.bitLen_le k 64 (by decide) hk⟩
theorem AR {x y:Int} (hx:x=l3 y) (h0:1≤y) (h1:y≤18446744073709551615):0≤x∧x≤63∧9223372036854775808≤aB .u64 y (ah .u64 x)∧aB .u64 y (ah .u64 x)=y*2^x.toNat:=by
 obtain ⟨l,e1,⟨e2,e3,e4⟩,e5⟩:=JL h0 h1
 have hx2:x=64 - (l:Int):=by
  rw [hx];unfold l3 ab;rw [e1];simp only;unfold av;rw [IntKind.wrap_i64];omega
 have hc:ah .u64 x=x:=lN (by omega) (by omega)
 have hn:x.toNat=64 - l:=by omega
 have hm:min (ah .u64 x).toNat IntKind.u64.bits=64 - l:=by rw [hc,hn];show min (64 - l) 64=_;omega
 have hp:(2:Int)^l*2^(64 - l)=18446744073709551616:=by rw [←Int.pow_add,show l+(64 - l)=64 by omega];decide
 have hq:(2:Int)^(l - 1)*2^(64 - l)=9223372036854775808:=by rw [←Int.pow_add,show l - 1+(64 - l)=63 by omega];decide
 have h2:(0:Int)<2^(64 - l):=Int.pow_pos (by decide)
 have g1:=Int.mul_le_mul_of_nonneg_right e3 (Int.le_of_lt h2)
 have g2:=Int.mul_lt_mul_of_pos_right e4 h2
 rw [hp] at g2;rw [hq] at g1
 have e:aB .u64 y (ah .u64 x)=y*2^x.toNat:=by
  unfold aB;rw [hm,w64,hn];exact Int.emod_eq_of_lt (by omega) g2
 exact ⟨by omega,by omega,by rw [e,hn];exact g1,e⟩
theorem pX {x:Int} (h0:0≤x) (h1:x≤18446744073709551615):aU .u64 x 4294967295=x% 4294967296:=by
 obtain ⟨k,rfl⟩:=Int.eq_ofNat_of_zero_le h0
 unfold aU
 have e1:(BitVec.ofInt IntKind.u64.bits (k:Int)).toNat=k:=by
  show (BitVec.ofInt 64 (k:Int)).toNat=k
  rw [BitVec.toNat_ofInt];omega
 have e2:(BitVec.ofInt IntKind.u64.bits 4294967295).toNat=2^32 - 1:=by decide
 rw [BitVec.toNat_and,e1,e2,Nat.and_two_pow_sub_one_eq_mod,w64]
 omega
theorem mn {a b A:Int} (h1:0≤a) (h2:a≤A) (h3:0≤b) (h4:b≤A):0≤a*b∧a*b≤A*A:=
 ⟨Int.mul_nonneg h1 h3,Int.mul_le_mul h2 h4 h3 (Int.le_trans h1 h2)⟩
theorem cZ {a:Int} (h0:0≤a) (h1:a≤18446744073709551615):IntKind.wrap .u64 a=a:=by rw [w64];omega
theorem AU {x y:Int} (hx0:0≤x) (hx1:x≤18446744073709551615) (hy0:0≤y) (hy1:y≤18446744073709551615):kB x y=(x*y/18446744073709551616,x*y% 18446744073709551616):=by
 unfold kB
 rw [pX hx0 hx1,pX hy0 hy1,kS x,kS y]
 obtain ⟨x1,x0,rfl,h1,h2,h3,h4⟩: ∃x1 x0:Int,x=x1*4294967296+x0∧0≤x1∧x1≤4294967295∧0≤x0∧x0≤4294967295:=⟨x/4294967296,x% 4294967296,by omega,by omega,by omega,by omega,by omega⟩
 obtain ⟨y1,y0,rfl,g1,g2,g3,g4⟩: ∃y1 y0:Int,y=y1*4294967296+y0∧0≤y1∧y1≤4294967295∧0≤y0∧y0≤4294967295:=⟨y/4294967296,y% 4294967296,by omega,by omega,by omega,by omega,by omega⟩
 rw [show (x1*4294967296+x0)/4294967296=x1 by omega,show (y1*4294967296+y0)/4294967296=y1 by omega,show (x1*4294967296+x0)% 4294967296=x0 by omega,show (y1*4294967296+y0)% 4294967296=y0 by omega]
 have ea:=mn h1 h2 g1 g2
 have eb:=mn h1 h2 g3 g4
 have ec:=mn h3 h4 g1 g2
 have ed:=mn h3 h4 g3 g4
 have ex:(x1*4294967296+x0)*(y1*4294967296+y0)=x1*y1*18446744073709551616+(x1*y0+x0*y1)*4294967296+x0*y0:=by
  simp only [Int.add_mul,Int.mul_add]
  rw [show x1*4294967296*(y1*4294967296)=x1*y1*18446744073709551616 by rw [Int.mul_assoc,Int.mul_comm 4294967296 (y1*4294967296),Int.mul_assoc y1,←Int.mul_assoc];rfl,show x1*4294967296*y0=x1*y0*4294967296 by rw [Int.mul_assoc,Int.mul_comm 4294967296,←Int.mul_assoc],show x0*(y1*4294967296)=x0*y1*4294967296 by rw [Int.mul_assoc]]
  omega
 have em:aN .u64 (x1*4294967296+x0) (y1*4294967296+y0)=((x1*4294967296+x0)*(y1*4294967296+y0))% 18446744073709551616:=by unfold aN;rw [w64]
 have ma:aN .u64 x1 y1=x1*y1:=cZ ea.1 (by omega)
 have mb:aN .u64 x1 y0=x1*y0:=cZ eb.1 (by omega)
 have mc:aN .u64 x0 y1=x0*y1:=cZ ec.1 (by omega)
 have md:aN .u64 x0 y0=x0*y0:=cZ ed.1 (by omega)
 rw [em,ex,ma,mb,mc,md]
 generalize x1*y1=a at ea
 generalize x1*y0=b at eb
 generalize x0*y1=c at ec
 generalize x0*y0=d at ed
 rw [kS d]
 have t1:al .u64 b (d/4294967296)=b+d/4294967296:=cZ (by omega) (by omega)
 rw [t1,kS (b+d/4294967296),pX (by omega) (by omega)]
 have t2:al .u64 ((b+d/4294967296)% 4294967296) c=(b+d/4294967296)% 4294967296+c:=cZ (by omega) (by omega)
 rw [t2,kS]
 have hxy:a*18446744073709551616+(b+c)*4294967296+d≤18446744073709551615*18446744073709551615:=by
  have:=(mn hx0 hx1 hy0 hy1).2
  omega
 have t3:al .u64 a ((b+d/4294967296)/4294967296)=a+(b+d/4294967296)/4294967296:=cZ (by omega) (by omega)
 rw [t3]
 have t4:al .u64 (a+(b+d/4294967296)/4294967296) (((b+d/4294967296)% 4294967296+c)/4294967296)=a+(b+d/4294967296)/4294967296+((b+d/4294967296)% 4294967296+c)/4294967296:=cZ (by omega) (by omega)
 rw [t4]
 congr 1
 omega
theorem JM {x y:Int} (hx:x=l3 y) (h0:1≤y) (h1:y≤18446744073709551615):0≤x∧x≤63∧0≤ah .u64 x∧0≤av .u64 64 (ah .u64 x)∧2147483648≤aw .u64 (aB .u64 y (ah .u64 x)) 32∧aw .u64 (aB .u64 y (ah .u64 x)) 32≤4294967295:=by
 obtain ⟨a1,a2,a3,a4⟩:=AR hx h0 h1
 have h2:aB .u64 y (ah .u64 x)≤18446744073709551615:=(qz .u64 _ _).2
 refine ⟨a1,a2,m7 _,(ol .u64 _ _).1,?_,?_⟩<;>rw [kS]<;>omega
theorem wI {u d:Int} (h0:0≤u) (h1:u≤18446744073709551615) (hd:1≤d):av .u64 u (aN .u64 (bP .u64 u d) d)=u% d∧bP .u64 u d=u/d∧0≤u% d∧u% d<d:=by
 have e1:u.tdiv d=u/d:=Int.tdiv_eq_ediv_of_nonneg h0
 have e2:u/d≤u:=Int.ediv_le_self _ h0
 have e3:0≤u/d:=Int.ediv_nonneg h0 (by omega)
 have e4:=Int.mul_ediv_add_emod u d
 have e5:=Int.emod_nonneg u (show d≠0 by omega)
 have e6:=Int.emod_lt_of_pos u (show 0<d by omega)
 have e7:bP .u64 u d=u/d:=by unfold bP;rw [e1];exact cZ e3 (by omega)
 have e8:0≤u/d*d:=Int.mul_nonneg e3 (by omega)
 rw [Int.mul_comm] at e4
 have e9:aN .u64 (u/d) d=u/d*d:=cZ e8 (by omega)
 refine ⟨?_,e7,e5,e6⟩
 rw [e7,e9];exact (cZ (by omega) (by omega)).trans (by omega)
theorem JN {y1 y0 u a q r:Int} (ha1:a<4294967296) (hy0:0≤y0) (hu:u<y1*4294967296+y0) (hu0:0≤u) (hi:q*y1+r=u) (hr:0≤r) (ha:0≤a) (ht:q≥4294967296∨(q*y0>4294967296*r+a)):
  u*4294967296+a<q*(y1*4294967296+y0)∧1≤q:=by
 have e:q*(y1*4294967296+y0)=q*y1*4294967296+q*y0:=by rw [Int.mul_add,Int.mul_assoc]
 rcases ht with h|h
 ·refine ⟨?_,by omega⟩
  have h1:=Int.mul_le_mul_of_nonneg_right h (show 0≤y1*4294967296+y0 by omega)
  omega
 ·refine ⟨by omega,?_⟩
  refine Int.not_lt.1 fun hq=> ?_
  have:=Int.mul_nonneg (show 0≤ -q by omega) hy0
  rw [Int.neg_mul] at this
  omega
theorem JO {y1 y0 u a q r:Int} (hi:q*y1+r=u) (ht:q*y0≤4294967296*r+a):q*(y1*4294967296+y0)≤u*4294967296+a:=by
 have e:q*(y1*4294967296+y0)=q*y1*4294967296+q*y0:=by rw [Int.mul_add,Int.mul_assoc]
 omega
theorem JP {y1 y0 u a q r:Int} (ha:0≤a) (hi:q*y1+r=u) (hr:r≥4294967296) (hq:q≤4294967296) (hy0:0≤y0) (hy01:y0<4294967296):q*(y1*4294967296+y0)≤u*4294967296+a:=by
 have e:q*(y1*4294967296+y0)=q*y1*4294967296+q*y0:=by rw [Int.mul_add,Int.mul_assoc]
 have h1:=Int.mul_le_mul_of_nonneg_right hq hy0
 omega
def Dg (y1 y0 u a q:Int):Prop:=q*(y1*4294967296+y0)≤u*4294967296+a∧u*4294967296+a<(q+1)*(y1*4294967296+y0)
def DgI (y1 y0 u a:Int) (p:Int×Int):Prop:=p.1*y1+p.2=u∧0≤p.2∧p.2<4294967296∧0≤p.1∧p.1≤4294967297∧u*4294967296+a<(p.1+1)*(y1*4294967296+y0)
theorem AV {y1 y0 u a:Int} (hy1:2147483648≤y1) (hy11:y1<4294967296) (hy0:0≤y0) (hy01:y0<4294967296) (hu0:0≤u) (hu:u<y1*4294967296+y0) (ha:0≤a) (ha1:a<4294967296):DgI y1 y0 u a (u/y1,u% y1):=by
 have e4:=Int.mul_ediv_add_emod u y1
 have e5:=Int.emod_nonneg u (show y1≠0 by omega)
 have e6:=Int.emod_lt_of_pos u (show 0<y1 by omega)
 have e3:0≤u/y1:=Int.ediv_nonneg hu0 (by omega)
 have e7:u/y1≤4294967297:=by
  have:u/y1<4294967298:=(Int.ediv_lt_iff_lt_mul (by omega)).2 (by omega)
  omega
 rw [Int.mul_comm] at e4
 refine ⟨e4,e5,by show u% y1<_;omega,e3,e7,?_⟩
 have e8:(u/y1+1)*(y1*4294967296+y0)=u/y1*y1*4294967296+y1*4294967296+(u/y1)*y0+y0:=by
  rw [Int.add_mul,Int.mul_add,Int.one_mul,Int.mul_assoc];omega
 have e9:=Int.mul_nonneg e3 hy0
 show u*4294967296+a<(u/y1+1)*(y1*4294967296+y0)
 rw [e8]
 omega
theorem JQ {y1 y0 u a q r:Int} (hy0:0≤y0) (h:DgI y1 y0 u a (q,r)) (hu:u<y1*4294967296+y0) (ha:0≤a) (ha1:a<4294967296) (hu0:0≤u) (ht:q≥4294967296∨(q*y0>4294967296*r+a)):
  (q - 1)*y1+(r+y1)=u∧1≤q∧u*4294967296+a<(q - 1+1)*(y1*4294967296+y0):=by
 obtain ⟨h1,h2,h3,h4,h5,h6⟩:=h
 obtain ⟨a1,a2⟩:=JN ha1 hy0 hu hu0 h1 h2 ha ht
 refine ⟨?_,a2,?_⟩
 ·rw [Int.sub_mul,Int.one_mul];simp only at h1;omega
 ·rw [Int.sub_add_cancel];exact a1
theorem wJ {α R:Type} {gq gr:α→Int} {mk:Int→Int→α} (hmq: ∀q r,gq (mk q r)=q) (hmr: ∀q r,gr (mk q r)=r) {y1 y0 u a:Int} (hy1:2147483648≤y1) (hy11:y1<4294967296) (hy0:0≤y0) (hy01:y0<4294967296) (hu0:0≤u) (hu:u<y1*4294967296+y0) (ha:0≤a) (ha1:a<4294967296) {F:(α→R)→α→R} {d:α→R} {j:Int→R}
  (hF: ∀ag p,F ag p=if decide (gq p≥4294967296)=true then (if decide (al .u64 (gr p) y1≥4294967296)=true then j (av .u64 (gq p) 1) else ag (mk (av .u64 (gq p) 1) (al .u64 (gr p) y1))) else
   if decide (aN .u64 (gq p) y0>al .u64 (aN .u64 4294967296 (gr p)) a)=true then (if decide (al .u64 (gr p) y1≥4294967296)=true then j (av .u64 (gq p) 1) else ag (mk (av .u64 (gq p) 1) (al .u64 (gr p) y1))) else j (gq p))
  {v:R} (hv: ∀q,Dg y1 y0 u a q→j q=v): ∀(n:Nat) (p:α),DgI y1 y0 u a (gq p,gr p)→(4294967296 - gr p).toNat<n→ae n F d p=v
 | 0,p,_,h=>by omega
 | n+1,p,hI,hn=>by
  rw [ae,hF]
  obtain ⟨h1,h2,h3,h4,h5,h6⟩:=hI
  simp only at h1 h2 h3 h4 h5 h6
  generalize hq:gq p=q at*
  generalize hr:gr p=r at*
  have eA:al .u64 r y1=r+y1:=cZ (by omega) (by omega)
  have eS:1≤q→av .u64 q 1=q - 1:=fun h=>cZ (by omega) (by omega)
  have down:(q≥4294967296∨(q*y0>4294967296*r+a))→(if decide (al .u64 r y1≥4294967296)=true then j (av .u64 q 1) else ae n F d (mk (av .u64 q 1) (al .u64 r y1)))=v:=by
   intro ht
   obtain ⟨d1,d2,d3⟩:=JQ hy0 (show DgI y1 y0 u a (q,r) from ⟨h1,h2,h3,h4,h5,h6⟩) hu ha ha1 hu0 ht
   rw [eA,eS d2]
   by_cases hb:r+y1≥4294967296
   ·rw [if_pos (by simpa using hb)]
    exact hv _ ⟨JP ha d1 hb (by omega) hy0 hy01,d3⟩
   ·rw [if_neg (by simpa using hb)]
    exact wJ hmq hmr hy1 hy11 hy0 hy01 hu0 hu ha ha1 hF hv n _ (by rw [hmq,hmr];exact ⟨d1,by show 0≤r+y1;omega,by show r+y1<_;omega,by show 0≤q - 1;omega,by show q - 1≤_;omega,d3⟩) (by rw [hmr];omega)
  by_cases ht:q≥4294967296
  ·rw [if_pos (by simpa using ht)]
   exact down (.inl ht)
  ·rw [if_neg (by simpa using ht)]
   have hm:=mn h4 (show q≤4294967295 by omega) hy0 (show y0≤4294967295 by omega)
   have e1:aN .u64 q y0=q*y0:=cZ hm.1 (by omega)
   have e2:aN .u64 4294967296 r=4294967296*r:=cZ (by omega) (by omega)
   have e3:al .u64 (4294967296*r) a=4294967296*r+a:=cZ (by omega) (by omega)
   rw [e1,e2,e3]
   by_cases hc:q*y0>4294967296*r+a
   ·rw [if_pos (by simpa using hc)]
    exact down (.inr hc)
   ·rw [if_neg (by simpa using hc)]
    exact hv _ ⟨JO h1 (by omega),h6⟩
theorem JR {a b:Int} {s:Nat} (hs:s≤63) (ha0:0≤a) (ha:a*2^s<18446744073709551616) (hb0:0≤b) (hb:b<2^s):orI .u64 (a*2^s) b=a*2^s+b:=by
 obtain ⟨a,rfl⟩:=Int.eq_ofNat_of_zero_le ha0
 obtain ⟨b,rfl⟩:=Int.eq_ofNat_of_zero_le hb0
 have hp:2^s≤2^63:=Nat.pow_le_pow_right (by decide) hs
 have e0:((a:Int)*2^s)=((a*2^s:Nat):Int):=by push_cast;rfl
 have ha':a*2^s<18446744073709551616:=by
  rw [e0] at ha
  generalize a*2^s=t at ha⊢
  omega
 have hb':b<2^s:=by exact_mod_cast hb
 rw [e0]
 unfold orI
 have t: ∀n:Nat,n<18446744073709551616→(BitVec.ofInt IntKind.u64.bits (n:Int)).toNat=n:=by
  intro n hn
  show (BitVec.ofInt 64 (n:Int)).toNat=n
  rw [BitVec.toNat_ofInt];omega
 rw [BitVec.toNat_or,t _ ha',t _ (by omega),Nat.mul_comm a,←Nat.two_pow_add_eq_or_of_lt hb',w64]
 rw [Nat.mul_comm] at ha'
 have:2^s*a+b<18446744073709551616:=by
  have h1:2^s*(a+1)≤18446744073709551616:=by
   have h2:2^s∣18446744073709551616:=⟨2^(64 - s),by rw [←Nat.pow_add,show s+(64 - s)=64 by omega]⟩
   obtain ⟨c,hc⟩:=h2
   rw [hc] at ha'⊢
   exact Nat.mul_le_mul_left _ (Nat.lt_of_mul_lt_mul_left ha')
  rw [Nat.mul_add,Nat.mul_one] at h1
  omega
 omega
theorem JS (a b:Int) {c:Int} (h:0<c):(a*c)% (b*c)=a% b*c:=by
 rw [Int.mul_comm a,Int.mul_comm b,Int.mul_emod_mul_of_pos _ _ h,Int.mul_comm]
theorem JT {N y Y p u w a1 a0 q1 q0 v:Int} (hp:0<p) (hY:Y=y*p) (hY0:0<Y) (hw:w=a1*4294967296+a0) (hN:u*18446744073709551616+w=N*p)
  (hv:v=u*4294967296+a1 - q1*Y) (h1:q0*Y≤v*4294967296+a0) (h2:v*4294967296+a0<(q0+1)*Y):
  q1*4294967296+q0=N/y∧v*4294967296+a0 - q0*Y=N% y*p:=by
 have e:N*p=(q1*4294967296+q0)*Y+(v*4294967296+a0 - q0*Y):=by
  have e1:(q1*4294967296+q0)*Y=q1*Y*4294967296+q0*Y:=by rw [Int.add_mul,Int.mul_right_comm]
  rw [e1];omega
 have e2:(q0+1)*Y=q0*Y+Y:=by rw [Int.add_mul,Int.one_mul]
 generalize hR:v*4294967296+a0 - q0*Y=R at*
 generalize hQ:q1*4294967296+q0=Q at*
 have hR0:0≤R:=by omega
 have hR1:R<Y:=by omega
 have d:N*p/Y=Q:=by
  rw [e,Int.add_comm,Int.add_mul_ediv_right _ _ (by omega),Int.ediv_eq_zero_of_lt hR0 hR1];omega
 have m:N*p% Y=R:=by rw [e,Int.add_comm,Int.add_mul_emod_self_right,Int.emod_eq_of_lt hR0 hR1]
 rw [hY] at d m
 rw [Int.mul_ediv_mul_of_pos_left _ _ hp] at d
 rw [JS _ _ hp] at m
 exact ⟨d.symm,m.symm⟩
theorem AW {u a q Y:Int} (h0:0≤u*4294967296+a - q*Y) (h1:u*4294967296+a - q*Y≤18446744073709551615):av .u64 (al .u64 (aN .u64 u 4294967296) a) (aN .u64 q Y)=u*4294967296+a - q*Y:=by
 unfold av al aN
 simp only [w64]
 generalize q*Y=T at*
 omega
theorem JU {q r:Int} (h0:0≤q*4294967296+r) (h1:q*4294967296+r≤18446744073709551615):al .u64 (aN .u64 q 4294967296) r=q*4294967296+r:=by
 unfold al aN
 simp only [w64]
 omega
theorem AX {α R:Type} {f:α→R} {G:(α→R)→R} {v:R} (h: ∀j,j=f→G j=v):gn f G=v:=h f rfl
set_option maxRecDepth 4000 in
theorem JV {hi lo y:Int} (hh0:0≤hi) (hl0:0≤lo) (hl1:lo≤18446744073709551615) (hy:hi<y) (hy1:y≤18446744073709551615):nn hi lo y=((hi*18446744073709551616+lo)/y,(hi*18446744073709551616+lo)% y):=by
 unfold nn
 rw [if_neg (by simp;omega),if_neg (by simp;omega)]
 by_cases h0:hi=0
 ·subst h0
  rw [if_pos (by decide)]
  have e1:lo.tdiv y=lo/y:=Int.tdiv_eq_ediv_of_nonneg hl0
  have e2:lo/y≤lo:=Int.ediv_le_self _ hl0
  have e3:0≤lo/y:=Int.ediv_nonneg hl0 (by omega)
  have e4:bP .u64 lo y=lo/y:=by unfold bP;rw [e1];exact cZ e3 (by omega)
  have e5:aQ .u64 lo y=lo% y:=Int.tmod_eq_emod_of_nonneg hl0
  rw [e4,e5];simp
 ·rw [if_neg (by simpa using h0)]
  obtain ⟨s,hs⟩: ∃s,s=l3 y:=⟨_,rfl⟩
  obtain ⟨s0,s1,s2,s3⟩:=AR hs (by omega) hy1
  have hY:=(qz .u64 y (ah .u64 s)).2
  simp only [ab,←hs]
  obtain ⟨k,rfl⟩:=Int.eq_ofNat_of_zero_le s0
  rw [s3] at s2 hY
  simp only [Int.toNat_natCast] at s2 s3 hY
  rw [s3]
  have hk:k≤63:=by omega
  have hp:(0:Int)<2^k:=Int.pow_pos (by decide)
  have hp2:(2:Int)^k*2^(64 - k)=18446744073709551616:=by rw [←Int.pow_add,show k+(64 - k)=64 by omega];rfl
  have hc:ah .u64 (k:Int)=k:=lN (by omega) (by omega)
  have hYm:y*2^k≤18446744073709551615:=by show _≤(18446744073709551615:Int);exact hY
  -- the high part
  have hhi:hi*2^k<y*2^k:=Int.mul_lt_mul_of_pos_right hy hp
  have m1:aB .u64 hi (k:Int)=hi*2^k:=by
   unfold aB
   rw [Int.toNat_natCast,show min k IntKind.u64.bits=k by show min k 64=k;omega]
   exact cZ (Int.mul_nonneg hh0 (Int.le_of_lt hp)) (by omega)
  have m2:aw .u64 lo (av .u64 64 (k:Int))=lo/2^(64 - k):=by
   have e:av .u64 64 (k:Int)=((64 - k:Nat):Int):=by
    have:av .u64 64 (k:Int)=64 - (k:Int):=cZ (by omega) (by omega)
    omega
   rw [e];exact mm (by rw [Int.toNat_natCast];show min (64 - k) 64=_;omega)
  have m3:aB .u64 lo (k:Int)=lo*2^k% 18446744073709551616:=by
   unfold aB
   rw [Int.toNat_natCast,show min k IntKind.u64.bits=k by show min k 64=k;omega,w64]
  have hb0:0≤lo/2^(64 - k):=Int.ediv_nonneg hl0 (Int.le_of_lt (Int.pow_pos (by decide)))
  have hb1:lo/2^(64 - k)<2^k:=(Int.ediv_lt_iff_lt_mul (Int.pow_pos (by decide))).2 (by rw [hp2];omega)
  rw [hc,m1,m2,m3,JR hk hh0 (by omega) hb0 hb1]
  -- the whole, shifted
  have hN:(hi*2^k+lo/2^(64 - k))*18446744073709551616+lo*2^k% 18446744073709551616=(hi*18446744073709551616+lo)*2^k:=by
   have e:lo/2^(64 - k)=lo*2^k/18446744073709551616:=by
    rw [←hp2,Int.mul_comm ((2:Int)^k),Int.mul_ediv_mul_of_pos_left _ _ hp]
   rw [e,Int.add_mul,Int.add_mul (hi*18446744073709551616),Int.mul_right_comm hi]
   omega
  have hy1':0<y:=by omega
  have hQ0:0≤(hi*18446744073709551616+lo)/y:=Int.ediv_nonneg (by omega) (by omega)
  have hQ1:(hi*18446744073709551616+lo)/y<18446744073709551616:=(Int.ediv_lt_iff_lt_mul hy1').2 (by omega)
  have hu0:0≤hi*2^k+lo/2^(64 - k):=by have:=Int.mul_nonneg hh0 (Int.le_of_lt hp);omega
  have hu1:hi*2^k+lo/2^(64 - k)<y*2^k:=by
   have h1:=Int.mul_le_mul_of_nonneg_right (show hi+1≤y by omega) (Int.le_of_lt hp)
   rw [Int.add_mul,Int.one_mul] at h1
   omega
  obtain ⟨N,hNe⟩: ∃N,N=hi*18446744073709551616+lo:=⟨_,rfl⟩
  rw [←hNe] at hN hQ0 hQ1⊢
  obtain ⟨Y,hYe⟩: ∃Y,Y=y*2^k:=⟨_,rfl⟩
  rw [←hYe] at s2 hYm hu1⊢
  generalize hi*2^k+lo/2^(64 - k)=u at hN hu0 hu1⊢
  have hW0:0≤lo*2^k% 18446744073709551616:=Int.emod_nonneg _ (by decide)
  have hW1:lo*2^k% 18446744073709551616<18446744073709551616:=Int.emod_lt_of_pos _ (by decide)
  generalize lo*2^k% 18446744073709551616=W at hN hW0 hW1⊢
  rw [kS Y,pX (by omega) hYm,kS W,pX hW0 (by omega)]
  have hYs:Y/4294967296*4294967296+Y% 4294967296=Y:=by omega
  have hWs:W=W/4294967296*4294967296+W% 4294967296:=by omega
  have b1:2147483648≤Y/4294967296:=by omega
  have b2:Y/4294967296<4294967296:=by omega
  have b3:0≤Y% 4294967296:=by omega
  have b4:Y% 4294967296<4294967296:=by omega
  have b5:0≤W/4294967296:=by omega
  have b6:W/4294967296<4294967296:=by omega
  have b7:0≤W% 4294967296:=by omega
  have b8:W% 4294967296<4294967296:=by omega
  generalize Y/4294967296=y1 at*
  generalize Y% 4294967296=y0 at*
  generalize W/4294967296=a1 at*
  generalize W% 4294967296=a0 at*
  obtain ⟨r1,r2,r3,r4⟩:=wI (u:=u) (d:=y1) hu0 (by omega) (by omega)
  rw [r1,r2]
  refine AX fun j8 hj8=> ?_
  refine wJ (j:=j8) (gq:=fun p:Int×Int=>p.1) (gr:=fun p=>p.2) (mk:=fun q r=>(q,r)) (fun _ _=>rfl) (fun _ _=>rfl) b1 b2 b3 b4 hu0 (by omega) b5 b6 (by exact fun ag p=>rfl) (fun q1 hq1=> ?_) _ _ (by exact AV b1 b2 b3 b4 hu0 (by omega) b5 b6) (by show (4294967296 - u% y1).toNat<_;omega)
  obtain ⟨g1,g2⟩:=hq1
  subst hj8
  dsimp only
  rw [hYs] at g1 g2
  have g3:(q1+1)*Y=q1*Y+Y:=by rw [Int.add_mul,Int.one_mul]
  rw [g3] at g2
  have ev:=AW (u:=u) (a:=a1) (q:=q1) (Y:=Y) (by omega) (by omega)
  rw [ev]
  obtain ⟨v,hv⟩: ∃v,v=u*4294967296+a1 - q1*Y:=⟨_,rfl⟩
  rw [←hv]
  have hv0:0≤v:=by omega
  have hv1:v<Y:=by omega
  obtain ⟨t1,t2,t3,t4⟩:=wI (u:=v) (d:=y1) hv0 (by omega) (by omega)
  rw [t1,t2]
  refine AX fun j9 hj9=> ?_
  refine wJ (j:=j9) (gq:=fun p:Int×Int=>p.2) (gr:=fun p=>p.1) (mk:=fun q r=>(r,q)) (fun _ _=>rfl) (fun _ _=>rfl) b1 b2 b3 b4 hv0 (by omega) b7 b8 (by exact fun ag p=>rfl) (fun q0 hq0=> ?_) _ _ (by exact AV b1 b2 b3 b4 hv0 (by omega) b7 b8) (by show (4294967296 - v% y1).toNat<_;omega)
  obtain ⟨f1,f2⟩:=hq0
  subst hj9
  dsimp only
  rw [hYs] at f1 f2
  obtain ⟨z1,z2⟩:=JT hp hYe (by omega) hWs hN hv f1 f2
  have f3:(q0+1)*Y=q0*Y+Y:=by rw [Int.add_mul,Int.one_mul]
  rw [f3] at f2
  rw [AW (by omega) (by omega),JU (by omega) (by omega),z1,z2,mm (m:=k) (by rw [Int.toNat_natCast];show min k 64=k;omega),Int.mul_ediv_cancel _ (Int.ne_of_gt hp)]
theorem JW (a b:Int):0≤orI .u64 a b∧orI .u64 a b≤18446744073709551615:=yh .u64 a b
theorem JX (a b:Int):0≤av .u64 a b∧av .u64 a b≤18446744073709551615:=ol .u64 a b
theorem kT {a b:Int} (h0:0≤a) (h1:a≤4294967295) (h2:0≤b) (h3:b≤4294967295):al .u64 a b=a+b:=cZ (by omega) (by omega)
theorem AY {a b n:Int} (ha:0≤a) (hn:a<n) (hn1:n≤18446744073709551615) (hb:0≤b) (hb1:b≤18446744073709551615):(kB a b).1<n:=by
 rw [AU ha (by omega) hb hb1]
 refine (Int.ediv_lt_iff_lt_mul (by decide)).2 ?_
 have h1:=Int.mul_le_mul (show a≤n - 1 by omega) hb1 hb (by omega)
 omega
theorem AZ (n:Int) {a b:Int} {x:Int×Int} (hx:x=kB a b) (ha:0≤a) (hn:a<n) (hn1:n≤18446744073709551615) (hb:0≤b) (hb1:b≤18446744073709551615):x.1<n:=hx▸AY ha hn hn1 hb hb1
theorem A0 {u d:Int} (h:0≤u∧u≤18446744073709551615) (hd:1≤d) (hd1:d≤4294967295):0≤av .u64 u (aN .u64 (bP .u64 u d) d)∧av .u64 u (aN .u64 (bP .u64 u d) d)≤4294967295:=by
 obtain ⟨a1,a2,a3,a4⟩:=wI h.1 h.2 hd
 rw [a1];omega
theorem sP {a b n:Int} (ha:0≤a) (hn:a<n) (hb:0≤b) (hb1:b≤18446744073709551615) (hn1:n≤18446744073709551615):fx a b n=a*b% n:=by
 have h1:=AY ha hn hn1 hb hb1
 have hp:=Int.mul_nonneg ha hb
 unfold fx ab
 rw [AU ha (by omega) hb hb1] at h1⊢
 simp only at h1⊢
 rw [JV (Int.ediv_nonneg hp (by decide)) (Int.emod_nonneg _ (by decide)) (by have:=Int.emod_lt_of_pos (a*b) (show (0:Int)<18446744073709551616 by decide);omega) h1 hn1]
 simp only
 congr 1
 omega
theorem mp {a b n x:Int} (hx:x=fx a b n) (ha:0≤a) (hn:a<n) (hb:0≤b) (hb1:b≤18446744073709551615) (hn1:n≤18446744073709551615):0≤x∧x<n:=by
 rw [hx,sP ha hn hb hb1 hn1];exact ⟨Int.emod_nonneg _ (by omega),Int.emod_lt_of_pos _ (by omega)⟩
theorem JY {a e n x:Int} (hx:x=l4 a e n) (ha:0≤a) (hn:a<n) (h1:1<n) (hn1:n≤18446744073709551615):0≤x∧x<n:=by
 subst hx
 unfold l4
 refine kv (P:=fun p:Int×Int×Int=>0≤p.1∧p.1<n∧0≤p.2.2∧p.2.2<n) (Q:=fun x=>0≤x∧x<n) (meas:=fun p=>p.2.1.toNat) ?_ _ _ ⟨ha,hn,show (0:Int)≤1 by decide,h1⟩ (by show e.toNat<_;omega)
 rintro ag ⟨a,e,x⟩ ⟨p1,p2,p3,p4⟩ ih
 simp only at p1 p2 p3 p4 ih⊢
 by_cases he:e>0
 ·rw [if_pos (by simpa using he)]
  have hs:(aw .u64 e 1).toNat<e.toNat:=by rw [cH];omega
  simp only [ab]
  by_cases hc:(aU .u64 e 1==1)=true
  ·rw [if_pos hc]
   have m1:=mp (x:=fx x a n) rfl p3 p4 p1 (by omega) hn1
   have m2:=mp (x:=fx a a n) rfl p1 p2 p1 (by omega) hn1
   exact ih _ ⟨m2.1,m2.2,m1.1,m1.2⟩ hs
  ·rw [if_neg hc]
   have m2:=mp (x:=fx a a n) rfl p1 p2 p1 (by omega) hn1
   exact ih _ ⟨m2.1,m2.2,p3,p4⟩ hs
 ·rw [if_neg (by simpa using he)]
  exact ⟨p3,p4⟩
@[go_sem] theorem JZ {n:Nat} {k:IntKind}: ∀{l:List Int},ltL n (l.map (V.int k))=True
 | []=>by simp [ltL]
 | a::l=>by simp only [List.map_cons,ltL,JZ (l:=l),ltV,and_self]
@[go_sem] theorem PI {k:IntKind} {a b c i:Int}:elt [V.int k a,V.int k b,V.int k c] i.toNat (V.int k 0)=V.int k (gt [a,b,c] i):=by
 unfold elt gt
 match i.toNat with
 | 0=>rfl
 | 1=>rfl
 | 2=>rfl
 | n+3=>rfl
theorem J0:cA.length=12:=rfl
theorem J1:cA.all (fun x=>decide (2≤x)&&decide (x≤37))=true:=by decide
theorem cI {j:Int} (h0:0≤j) (h1:j<12):2≤gt cA j∧gt cA j≤37:=by
 have hm:gt cA j∈cA:=aI (by show j.toNat<12;omega)
 simpa using List.all_eq_true.1 J1 _ hm
def jI (u i:Int):Prop:= ∀k:Int,0≤k→k<i→u% gt cA k≠0
theorem wK {u:Int}:jI u 0:=fun k h0 h1=>by omega
theorem wL {u i:Int} (h:jI u i) (hu:0≤u) (h0:0≤i) (h1:i<12) (hr: ¬aQ .u64 u (gt cA i)=0):jI u (i+1):=by
 intro k k0 k1
 by_cases hk:k<i
 ·exact h k k0 hk
 ·obtain rfl:k=i:=by omega
  rwa [show aQ .u64 u (gt cA k)=u% gt cA k from Int.tmod_eq_emod_of_nonneg hu] at hr
theorem J2: ∀u:Fin 38,2≤u.val→ ∃k:Fin 12,((u.val:Nat):Int)% cA.getD k.val 0=0:=by decide
theorem wM {u i:Int} (h:jI u i) (hi:12≤i) (h2:2≤u):37<u:=by
 refine Int.not_le.1 fun hu=> ?_
 obtain ⟨k,hk⟩:=J2 ⟨u.toNat,by omega⟩ (by show 2≤u.toNat;omega)
 refine h (k.val:Int) (by omega) (by omega) ?_
 have e:((u.toNat:Nat):Int)=u:=by omega
 rw [←e,ye]
 exact hk
theorem J3:iu.all (fun x=>decide (0≤x)&&decide (x≤63))=true:=by decide
theorem J4 {a x:Int} (hx:x=kz a):0≤x∧x≤64:=by
 subst hx
 unfold kz
 split
 ·omega
 ·have hi:=AQ (x:=aU .u64 a (fZ .u64 a))
  have hm:=aI (l:=iu) (i:=aw .u64 (aN .u64 (aU .u64 a (fZ .u64 a)) 285870213051353865) 58) (by show _<64;omega)
  have:=List.all_eq_true.1 J3 _ hm
  simp only [Bool.and_eq_true,decide_eq_true_eq] at this
  rw [o6 (by omega) (by omega)];omega
theorem A3 {x:Int} (h0:0≤x) (h1:x≤64):av .i64 x 1=x - 1:=by unfold av;rw [IntKind.wrap_i64];omega
theorem sQ {m:Int} (h:1≤m):0≤aQ .i64 1 m∧aQ .i64 1 m<m:=by
 rw [show aQ .i64 1 m=1% m from Int.tmod_eq_emod_of_nonneg (by decide)]
 exact ⟨Int.emod_nonneg _ (by omega),Int.emod_lt_of_pos _ (by omega)⟩
theorem J5 {a b m:Int} (h:gz a b m=0):1≤m∧m<2305843009213693952∧0≤a∧a<m∧0≤b∧b<m:=by
 unfold gz at h
 simp only [ab,kD] at h
 repeat' (split at h)
 all_goals simp_all
 all_goals omega
instance PJ (a b m:Int):CF (gz a b m) (fun x=>x=0→1≤m∧m<2305843009213693952∧0≤a∧a<m∧0≤b∧b<m):=⟨J5⟩
theorem sR {x:Int} (h0:0≤x) (h1:x≤9223372036854775807):ah .u64 x=x:=lN h0 (by omega)
theorem wN {a b n:Int} (ha:0≤a) (hn:a<n) (hb:0≤b) (hb1:b≤9223372036854775807) (hn1:n≤9223372036854775807):iE a b n=a*b% n:=by
 have h:=sP ha hn hb (by omega) (by omega)
 have e:iE a b n=ah .i64 (fx (ah .u64 a) (ah .u64 b) (ah .u64 n)):=rfl
 have c1:ah .u64 a=a:=lN ha (by omega)
 have c2:ah .u64 b=b:=lN hb (by omega)
 have c3:ah .u64 n=n:=lN (by omega) (by omega)
 rw [e,c1,c2,c3,h]
 have:=Int.emod_nonneg (a*b) (show n≠0 by omega)
 have:=Int.emod_lt_of_pos (a*b) (show 0<n by omega)
 exact o6 (by omega) (by omega)
theorem wO {a b n x:Int} (hx:x=iE a b n) (ha:0≤a) (hn:a<n) (hb:0≤b) (hb1:b≤9223372036854775807) (hn1:n≤9223372036854775807):0≤x∧x<n:=by
 rw [hx,wN ha hn hb hb1 hn1];exact ⟨Int.emod_nonneg _ (by omega),Int.emod_lt_of_pos _ (by omega)⟩
end Go.Proofs.YtgealhhkngbkbaaGreatDoor
namespace Go.Proofs.YtgealhhkngbkbaaGreatDoor
open Go.RowKit
theorem fS {α R:Type} {F:(α→R)→α→R} {d:α→R} (Inv:α→Prop) (Q:R→Prop) (mu:α→Nat)
  (h: ∀ag a,Inv a→(∀a',Inv a'→mu a'<mu a→Q (ag a'))→Q (F ag a)): ∀(n:Nat) (a:α),Inv a→mu a<n→Q (ae n F d a)
 | 0,_,_,h1=>absurd h1 (Nat.not_lt_zero _)
 | n+1,a,hr,h1=>by
  rw [ae]
  exact h _ a hr fun a' hr' hm=>fS Inv Q mu h n a' hr' (by omega)
theorem A4 {R:Type} {E:List Int→R} {F:(List Int→R)→List Int→R} {d:List Int→R} (hF: ∀ag p,F ag p=if (aQ .i64 (p.length:Int) 64 !=56)=true then ag (p++[0]) else E p):
  ∀(r fuel:Nat) (l:List Int),((56 - (l.length:Int))% 64).toNat=r→r<fuel→ae fuel F d l=E (l++List.replicate r 0)
 | 0,fuel,l,hr,hf=>by
  obtain ⟨f,rfl⟩: ∃f,fuel=f+1:=⟨fuel - 1,by omega⟩
  rw [ae,hF,oY,if_neg]
  ·simp
  ·have:(l.length:Int)% 64=56:=by omega
   simp [this]
 | r+1,fuel,l,hr,hf=>by
  obtain ⟨f,rfl⟩: ∃f,fuel=f+1:=⟨fuel - 1,by omega⟩
  rw [ae,hF,oY,if_pos]
  ·rw [A4 hF r f (l++[0]) (by simp;omega) (by omega)]
   simp [List.replicate_succ]
  ·have:(l.length:Int)% 64≠56:=by omega
   simp [this]
theorem A5 {R:Type} {E:List Int→R} {F:(List Int→R)→List Int→R} {d:List Int→R} {l:List Int} (hF: ∀ag p,F ag p=if (aQ .i64 (p.length:Int) 64 !=56)=true then ag (p++[0]) else E p):
  ae (((56 - (l.length:Int))% 64).toNat+1) F d l=E (l++List.replicate ((56 - (l.length:Int))% 64).toNat 0):=A4 hF _ _ l rfl (Nat.lt_succ_self _)
theorem sS (n:Int):kM n=[ah .u8 (aw .i64 n 56),ah .u8 (aw .i64 n 48),ah .u8 (aw .i64 n 40),ah .u8 (aw .i64 n 32),ah .u8 (aw .i64 n 24),ah .u8 (aw .i64 n 16),ah .u8 (aw .i64 n 8),ah .u8 (aw .i64 n 0)]:=by kernel_rfl
def pad (b:List Int):List Int:=((b++[128])++List.replicate ((56 - ((b++[(128:Int)]).length:Int))% 64).toNat 0)
theorem sT (b:List Int):g9 b=pad b++kM (aN .i64 8 (b.length:Int)):=by
 unfold g9 pad
 refine (A5 (fun ag p=>rfl)).trans ?_
 simp only [ab,List.nil_append]
theorem A6 (b:List Int):((g9 b).length:Int)% 64=0:=by
 rw [sT,sS]
 simp only [pad,List.length_append,List.length_replicate,List.length_cons,List.length_nil]
 omega
theorem J6 (b:List Int):(kN b).length=64:=by
 unfold kN
 refine fS (fun (a:Int×List Int)=>0≤a.1∧a.1≤16∧(a.2.length:Int)=a.1) (fun r:List Int=>r.length=64) (fun a=>(16 - a.1).toNat) ?_ _ _ ⟨show (0:Int)≤0 by decide,show (0:Int)≤16 by decide,rfl⟩ (show ((16:Int) - 0).toNat<((16:Int) - 0).toNat+1 by decide)
 rintro ag ⟨i,q⟩ ⟨g0,g1,g2⟩ hag
 simp only at g0 g1 g2 hag
 by_cases hi:i<16
 ·simp only [hi,decide_true,if_true]
  refine fS (fun (a:Int×Int)=>True) (fun r:List Int=>r.length=64) (fun a=>(4 - a.2).toNat) ?_ _ _ trivial (show ((4:Int) - 0).toNat<((4:Int) - 0).toNat+1 by decide)
  rintro ag2 ⟨x,k⟩ _ hag2
  simp only at hag2
  by_cases hk:k<4
  ·simp only [hk,decide_true,if_true]
   exact hag2 _ trivial (by simp only;omega)
  ·simp only [hk,decide_false,Bool.false_eq_true,if_false]
   exact hag _ ⟨by simp only;omega,by simp only;omega,by simp;omega⟩ (by simp only;omega)
 ·simp only [hi,decide_false,Bool.false_eq_true,if_false]
  refine fS (fun (a:Int×List Int)=>16≤a.1∧a.1≤64∧(a.2.length:Int)=a.1) (fun r:List Int=>r.length=64) (fun a=>(64 - a.1).toNat) ?_ _ _ ⟨show (16:Int)≤16 by decide,show (16:Int)≤64 by decide,by simp only;omega⟩ (show ((64:Int) - 16).toNat<((64:Int) - 16).toNat+1 by decide)
  rintro ag2 ⟨t,p⟩ ⟨h0,h1,h2⟩ hag2
  simp only at h0 h1 h2 hag2
  by_cases ht:t<64
  ·simp only [ht,decide_true,if_true,ab]
   exact hag2 _ ⟨by simp only;omega,by simp only;omega,by simp;omega⟩ (by simp only;omega)
  ·simp only [ht,decide_false,Bool.false_eq_true,if_false]
   omega
theorem J7 (b h:List Int):(jG b h).length=b.length+32:=by
 unfold jG
 refine fS (fun (a:Int×List Int)=>0≤a.1∧a.1≤32∧(a.2.length:Int)=b.length+a.1) (fun r:List Int=>r.length=b.length+32) (fun a=>(32 - a.1).toNat) ?_ _ _ ⟨show (0:Int)≤0 by decide,show (0:Int)≤32 by decide,by simp⟩ (show ((32:Int) - 0).toNat<((32:Int) - 0).toNat+1 by decide)
 rintro ag ⟨i,q⟩ ⟨g0,g1,g2⟩ hag
 simp only at g0 g1 g2 hag
 by_cases hi:i<32
 ·simp only [hi,decide_true,if_true]
  exact hag _ ⟨by simp only;omega,by simp only;omega,by simp;omega⟩ (by simp only;omega)
 ·simp only [hi,decide_false,Bool.false_eq_true,if_false]
  omega
instance PK {s:List Int}:CF (nH s) (fun x=>x.length=s.length):=⟨rfl⟩
theorem J8 (n:Int):me n=[ah .u8 (aw .u64 n 56),ah .u8 (aw .u64 n 48),ah .u8 (aw .u64 n 40),ah .u8 (aw .u64 n 32),ah .u8 (aw .u64 n 24),ah .u8 (aw .u64 n 16),ah .u8 (aw .u64 n 8),ah .u8 (aw .u64 n 0)]:=by kernel_rfl
instance PL {n:Int}:CF (me n) (fun x=>x.length=8):=⟨by rw [J8];rfl⟩
instance PM {n:Int}:CF (kM n) (fun x=>x.length=8):=⟨by rw [sS];rfl⟩
instance PN {b:List Int}:CF (g9 b) (fun x=>(x.length:Int)% 64=0∧(x.length:Int)≤b.length+73):=⟨A6 b,by
 rw [sT,sS]
 simp only [pad,List.length_append,List.length_replicate,List.length_cons,List.length_nil]
 omega⟩
instance PO {b:List Int}:CF (kN b) (fun x=>x.length=64):=⟨J6 b⟩
instance PP:CF ml (fun x=>x.length=64):=⟨rfl⟩
instance PQ {b h:List Int}:CF (jG b h) (fun x=>x.length=b.length+32):=⟨J7 b h⟩
end Go.Proofs.YtgealhhkngbkbaaGreatDoor
namespace Go.Proofs.YtgealhhkngbkbaaGreatDoor
open Go.RowKit
set_option linter.unusedVariables false
set_option linter.unusedSimpArgs false
def cC (l:List (List UInt8)):Nat:=(l.map List.length).sum
theorem A7 (sep:List UInt8): ∀l:List (List UInt8),(Lib.joinTail sep l).length=cC l+l.length*sep.length
 | []=>by simp [Lib.joinTail,cC]
 | x::l=>by
  have ih:=A7 sep l
  simp only [Lib.joinTail,cC,List.map_cons,List.flatten_cons,List.length_append,List.sum_cons,List.length_cons,Nat.succ_mul] at ih⊢
  omega
theorem A8 (l:List (List UInt8)) (sep:List UInt8):(Lib.join l sep).length≤cC l+l.length*sep.length:=by
 cases l with
 | nil=>simp [Lib.join_nil]
 | cons x l=>
  rw [Lib.join_cons,List.length_append,A7]
  simp only [cC,List.map_cons,List.sum_cons,List.length_cons,Nat.succ_mul]
  omega
theorem n11: ¬(((1:Int) !=1)=true):=by decide
theorem A9 {g:ao} {x:Bool} (hx:x=jx g) (h:x=true):1≤g.Q:=by
 subst hx
 unfold jx at h
 by_cases h1:1≤g.Q
 ·exact h1
 ·exfalso
  revert h
  repeat' split
  all_goals simp_all [ab]
  all_goals omega
theorem J9 {α:Type} [Inhabited α] {l:List α} {x:α} (h:x∈l): ∃i:Nat,i<l.length∧gt l i=x:=by
 obtain ⟨i,hi,rfl⟩:=List.getElem_of_mem h
 exact ⟨i,hi,by simp [gt,List.getD_eq_getElem?_getD,hi]⟩
theorem J_ {s:List (List Int)} {n:Int} {g:ao} (h:l5 s n g=false): ∀x∈s,(x.length:Int)=n:=by
 have h1: ¬(0≤nr s n g):=by
  unfold l5 at h
  simp only [ab,decide_eq_false_iff_not] at h
  omega
 have h2: ¬(0≤nr s n g)→ ∀i:Nat,i<s.length→((gt s i).length:Int)=n:=by
  unfold nr
  refine kv (P:=fun a:Int=>0≤a∧a≤s.length∧ ∀i:Nat,(i:Int)<a→((gt s i).length:Int)=n) (Q:=fun r:Int=> ¬(0≤r)→ ∀i:Nat,i<s.length→((gt s i).length:Int)=n) (meas:=fun a=>((s.length:Int) - a).toNat) ?_ _ _ ?_ ?_
  rotate_left
  ·exact ⟨Int.le_refl _,show (0:Int)≤(s.length:Int) by omega,fun i hi=>absurd hi (by omega)⟩
  ·show ((s.length:Int) - 0).toNat<((s.length:Int) - 0).toNat+1
   omega
  rintro ag a ⟨g0,g1,g2⟩ ih
  by_cases hp:a<(s.length:Int)
  ·simp only [ab,if_pos (show decide (a<(s.length:Int))=true by simpa using hp)]
   cases hv:jy (gt s a) n g with
   | true=>rw [if_pos rfl];intro h3;exact absurd g0 h3
   | false=>
    rw [if_neg (by decide)]
    refine ih _ ⟨by omega,by omega,fun i hi=> ?_⟩ (by omega)
    by_cases he:(i:Int)=a
    ·rw [he]
     unfold jy at hv
     split at hv
     ·cases hv
     ·rename_i h5
      simpa using h5
    ·exact g2 i (by omega)
  ·simp only [if_neg (show¬decide (a<(s.length:Int))=true by simpa using hp)]
   intro _ i hi
   exact g2 i (by omega)
 intro x hx
 obtain ⟨i,hi,rfl⟩:=J9 hx
 exact h2 h1 i hi
def okR (g:ao) (r:aH):Prop:=1≤g.Q∧r.Bases.length=r.Y.length∧1≤r.Y.length∧r.Y.length≤8∧(∀x∈r.Bases,(x.length:Int)=fc r)∧fc r≤12
theorem sU {g:ao} {r:aH} (h:fy g r=true):okR g r:=by
 unfold fy at h
 simp only [ab] at h
 cases hg:jx g with
 | false=>rw [hg] at h;cases h
 | true=>
  rw [hg] at h
  rw [if_neg (by decide)] at h
  split at h
  ·cases h
  ·rename_i h1
   split at h
   ·cases h
   ·rename_i h2
    split at h
    ·cases h
    ·rename_i h3
     split at h
     ·cases h
     ·split at h
      ·cases h
      ·split at h
       ·cases h
       ·rename_i h5
        have h6:=J_ (by simpa using h)
        simp only [decide_eq_true_eq,bne_iff_ne,ne_eq,Decidable.not_not] at h1 h2 h3 h5
        exact ⟨A9 hg.symm rfl,by omega,by omega,by omega,h6,by unfold fc;omega⟩
instance PR (g:ao) (r:aH):CF (fy g r) (fun x=>x=true→okR g r):=⟨fun h=>sU h⟩
theorem pY {E:Env} {S:St} (t i:Nat) {n:Nat} {g:Bool} {d:V} (h:ak S.F t=some (.ptr i 0)) (h2:ak S.H i=some (.pvar n g d)):cw E S ⟨(t,.pp n g d)::S.F,S.H,S.nx⟩:=by
 intro c0 c ρ F hs
 refine ⟨c,ρ,rfl,⟨hs.1.since,hs.1.gl,fun t' v ht=> ?_,hs.1.heap,hs.1.sep⟩,hs.2⟩
 simp only [ak] at ht
 split at ht
 ·rename_i e;subst e;cases ht
  have h3:=hs.1.slot _ _ h
  obtain ⟨b,h4,h5⟩:=hs.1.heap _ _ h2
  simp only [rd] at h3⊢
  obtain ⟨b',h6,h7⟩:=h3
  rw [h4] at h6
  simp only [Option.some.injEq,Value.pointer.injEq,Addr.mk.injEq,and_true] at h6
  subst h6
  rw [h7]
  obtain ⟨b2,o,cs,e1,e2,e3,e4,e5⟩:=h5
  exact ⟨b2,o,cs,e1,e2,e3,e4,e5⟩
 ·exact hs.1.slot _ _ ht
theorem Ka (i:aq) (d:Int):pK i d=cc i d:=by
 obtain ⟨k,n,b,l⟩:=i
 have hany:nK l d= !(fw l (d - 1)):=by
  have h:=Jq (l:=l) (C:=fun x=>mg x d) (d:=fun _=>default) (F:=fun ag1 p1=>if decide (p1<(l.length:Int)) then (ab (mg (gt l p1) d) (fun x4=>if x4 then p1 else ag1 (p1+1))) else -1) (fun ag p=>rfl)
  have h2:nK l d=l.any (fun x=>mg x d):=h
  rw [h2,wj,List.not_all_eq_any_not];rfl
 unfold pK
 simp only [ab,cc,hany,Bool.not_not]
 by_cases e1:k=1
 ·subst e1;cases b with
  | nil=>cases l with
   | nil=>simp
   | cons y l=>simp;omega
  | cons x b=>simp;omega
 by_cases e2:k=2
 ·subst e2;cases l with
  | nil=>simp [Bool.beq_eq_decide_eq]
  | cons y l=>simp;omega
 by_cases e3:k=3
 ·subst e3
  by_cases h0:n=0
  ·cases b with
   | nil=>
    by_cases h1:0<d
    ·by_cases h2:l.length≤1000
     ·have h2':(l.length:Int)≤1000:=by omega
      simp [h0,h1,h2,h2']
     ·have h2': ¬(l.length:Int)≤1000:=by omega
      simp [h0,h1,h2,h2']
    ·simp [h0,h1]
   | cons x b=>simp [h0];omega
  ·simp [h0]
 ·simp [e1,e2,e3]
theorem A_: ∀{k:Nat} {n:Int},be (k+1) n=(n/256^k)% 256::be k n
 | 0,n=>by simp [be]
 | k+1,n=>by
  rw [be,A_ (k:=k),be]
  simp only [List.cons_append,List.cons.injEq,and_true]
  rw [Int.ediv_ediv_of_nonneg (by omega),Int.pow_succ,Int.mul_comm (256^k)]
theorem Ba {n:Int} {F:(Int×List Int→List Int)→Int×List Int→List Int} {d:Int×List Int→List Int}
  (hF: ∀ag p,F ag p=if decide (p.1≥0)=true then ag (p.1 - 1,p.2++[ah .u8 (aw .u64 n (8*p.1))]) else p.2):
  ∀(k fuel:Nat) (out:List Int),k≤8→k<fuel→ae fuel F d ((k:Int) - 1,out)=out++be k n
 | 0,fuel,out,_,hf=>by
  obtain ⟨m,rfl⟩: ∃m,fuel=m+1:=⟨fuel - 1,by omega⟩
  rw [ae,hF];simp [be]
 | k+1,fuel,out,hk,hf=>by
  obtain ⟨m,rfl⟩: ∃m,fuel=m+1:=⟨fuel - 1,by omega⟩
  rw [ae,hF,if_pos (by simp)]
  have e1:ah .u8 (aw .u64 n (8*(((k+1:Nat):Int) - 1)))=(n/256^k)% 256:=by
   have e2:(8*(((k+1:Nat):Int) - 1)).toNat=8*k:=by omega
   unfold ah aw
   rw [e2,show min (8*k) (IntKind.bits .u64)=8*k by show min (8*k) 64=8*k;omega,Int.fdiv_eq_ediv_of_nonneg _ (Int.le_of_lt (Int.pow_pos (by omega))),Int.pow_mul]
   rfl
  simp only
  rw [e1,show ((k+1:Nat):Int) - 1 - 1=(k:Int) - 1 by omega,Ba hF k m _ (by omega) (by omega),A_]
  simp
theorem sV {out:List Int} {n size:Int} (h0:0≤size) (h1:size≤8):jE out n size=out++be size.toNat n:=by
 unfold jE
 have:=Ba (n:=n) (d:=fun _=>default) (fun ag p=>rfl) size.toNat ((size - 1+1).toNat+1) out (by omega) (by omega)
 rw [show ((size.toNat:Nat):Int)=size by omega] at this
 exact this
theorem wP {out x:List Int} {n size:Int} (h:x=jE out n size): ¬(0≤size∧size≤8)∨(x.length:Int)=out.length+size:=by
 by_cases hs:0≤size∧size≤8
 ·right;rw [h,sV hs.1 hs.2];simp [gY];omega
 ·exact .inl hs
theorem Bb {n:Int}:be 8 (ah .u64 n)=be 8 n:=by
 apply wi
 have h8:(256:Int)^8=18446744073709551616:=by decide
 have:ah .u64 n=n% 18446744073709551616:=rfl
 rw [this,h8];omega
theorem sW {n:Int}:be 4 (ah .u64 n)=be 4 n:=by
 apply wi
 have h8:(256:Int)^4=4294967296:=by decide
 have:ah .u64 n=n% 18446744073709551616:=rfl
 rw [this,h8];omega
theorem Bc: ∀{l:List aq} {out:List Int},iz out l=l.foldl ee out
 | [],_=>rfl
 | x::l,out=>by simp only [iz,List.foldl_cons];exact Bc
theorem Kb (out:List Int) (i:aq):pL out i=ee out i:=by
 obtain ⟨k,n,b,l⟩:=i
 unfold pL
 simp only [ab,ee]
 by_cases hl:out.length>16384
 ·have:(out.length:Int)>16384:=by omega
  simp [hl,this]
 have hl': ¬(out.length:Int)>16384:=by omega
 by_cases e1:k=1
 ·subst e1
  have:ah .u8 1=1:=rfl
  simp [hl,hl',sV,this,Bb]
 by_cases e2:k=2
 ·subst e2
  have:ah .u8 2=2:=rfl
  simp [hl,hl',sV,this,sW]
 have hk:ah .u8 k=k% 256:=rfl
 simp only [hl,hl',e1,e2,decide_false,Bool.false_eq_true,if_false,beq_iff_eq,sV (show (0:Int)≤4 by decide) (show (4:Int)≤8 by decide),hk,Int.reduceToNat,sW]
 rw [AC (l:=l) (fun a s=> .inl (ee s a)) (fun s=>s) (fun ag i s=>by by_cases h:i<(l.length:Int)<;>simp [h]),we,Bc]
 simp
def sX (n:Int):aq:=⟨1,n,[],[]⟩
def wQ (l:List Int):aq:=⟨3,0,[],l.map sX⟩
def Kc (l:List aq):aq:=⟨3,0,[],l⟩
theorem Kd (l:List Int):iI l=wQ l:=by
 unfold iI
 exact Jp (E:=fun p=>Kc p.2) sX (fun ag p=>rfl)
theorem Ke {l:List Int}:hgt (wQ l)=1+l.length:=by
 have: ∀l:List Int,bO (l.map sX)=l.length:=by
  intro l
  induction l with
  | nil=>rfl
  | cons a l ih=>simp [bO,ih,sX,hgt];omega
 simp [wQ,hgt,this]
theorem Kf {k:Nat} {v:Int} {t:List Int}:(List.replicate (k+1) (0:Int)++t).set k v=List.replicate k 0++v::t:=by
 rw [List.replicate_succ',List.append_assoc,List.set_append_right _ _ (by simp)]
 simp
theorem Bd {F:(Int×Int×List Int→List Int)→Int×Int×List Int→List Int} {d:Int×Int×List Int→List Int}
  (hF: ∀ag p,F ag p=if decide (p.2.1≥0)=true then ag (bP .u64 p.1 256,p.2.1 - 1,st p.2.2 p.2.1 (ah .u8 (aQ .u64 p.1 256))) else p.2.2):
  ∀(k fuel:Nat) (n:Int) (t:List Int),0≤n→n<18446744073709551616→k<fuel→ae fuel F d (n,(k:Int) - 1,List.replicate k 0++t)=be k n++t
 | 0,fuel,n,t,_,_,hf=>by
  obtain ⟨m,rfl⟩: ∃m,fuel=m+1:=⟨fuel - 1,by omega⟩
  rw [ae,hF];simp [be]
 | k+1,fuel,n,t,h0,h1,hf=>by
  obtain ⟨m,rfl⟩: ∃m,fuel=m+1:=⟨fuel - 1,by omega⟩
  rw [ae,hF,if_pos (by simp)]
  have e1:bP .u64 n 256=n/256:=by
   unfold bP
   rw [Int.tdiv_eq_ediv_of_nonneg h0]
   exact wrap_u64 (by omega) (by omega)
  have e2:ah .u8 (aQ .u64 n 256)=n% 256:=by
   unfold ah aQ
   rw [Int.tmod_eq_emod_of_nonneg h0]
   show (n% 256)% 256=n% 256
   omega
  have e3:((k+1:Nat):Int) - 1=(k:Int):=by omega
  simp only [e1,e2,e3]
  rw [show st (List.replicate (k+1) 0++t) (k:Int) (n% 256)=List.replicate k 0++(n% 256)::t from Kf]
  rw [Bd hF k m (n/256) _ (by omega) (by omega) (by omega)]
  simp [be]
theorem wR (n:Int):0≤ah .u64 n∧ah .u64 n<18446744073709551616:=by
 have:=om .u64 n
 rw [r5] at this
 omega
theorem Be: ∀{l:List aq} {o:List Int},l.foldl (fun s a=>s++bB a) o=o++cM l
 | [],o=>by simp [cM]
 | a::l,o=>by simp only [List.foldl_cons,Be (l:=l),cM,List.append_assoc]
mutual
theorem Bf: ∀i:aq,(bB i).length≤9*hgt i
 | ⟨k,n,b,l⟩=>by
  have h:=Bg l
  simp only [bB,hgt]
  split
  ·simp only [List.length_cons,gY];omega
  split
  ·simp only [List.length_cons,List.length_append,gY];omega
  ·simp only [List.length_cons,List.length_append,gY];omega
theorem Bg: ∀l:List aq,(cM l).length≤9*bO l
 | []=>by simp [cM]
 | x::l=>by
  have h1:=Bf x
  have h2:=Bg l
  simp only [cM,bO,List.length_append];omega
end
theorem wS {x:List Int} {i:aq} (h:x=bB i):x.length≤9*hgt i:=by rw [h];exact Bf i
theorem Kg {l:List aq} {i:Int} (h:i.toNat<l.length):bO (l.drop i.toNat)=hgt (gt l i)+bO (l.drop (i.toNat+1)):=by
 rw [List.drop_eq_getElem_cons h]
 simp [bO,gt,List.getD_eq_getElem?_getD,h]
theorem Kh {α:Type} [Inhabited α] {l:List α} {n:Nat} {i:Int} (h0:0≤i) (h:i.toNat<n):gt (br n l) i=gt l i:=by
 have:=wg (l:=l) (k:=n) (i:=0) (j:=i.toNat) h
 unfold br
 rw [show gt (eY l n 0) i=(eY l n ((0:Nat):Int)).getD i.toNat default from rfl,this]
 congr 1;omega
theorem Ki {l:List Int} (h:wfV (dM l)):isB (br 32 l):=by
 refine AG ?_
 simp only [dM,wfV,wfL] at h
 simp only [br,eY,List.map_cons,List.map_nil,wfL,wfV,Int.zero_add,Int.reduceAdd]
 exact h
theorem Kj {i:aq} {x:List Int×Int} (h:x=jF i):x.1.length≤16384:=by
 rw [h]
 unfold jF
 simp only [ab]
 split
 ·simp
 ·split
  ·simp
  ·rename_i h2
   have h3:((ee [] i).length:Int)≤16384:=by simpa using h2
   show (ee [] i).length≤16384
   omega
theorem wT {n size:Int} (h0:0≤n∧n<18446744073709551616) (h1:0≤size):kP n size=be size.toNat n:=by
 unfold kP
 have:=Bd (d:=fun _=>default) (fun ag p=>rfl) size.toNat ((size - 1+1).toNat+1) n [] h0.1 h0.2 (by omega)
 rw [show ((size.toNat:Nat):Int)=size by omega,List.append_nil,List.append_nil] at this
 exact this
theorem Kk (i:aq):pS i=bB i:=by
 obtain ⟨k,n,b,l⟩:=i
 unfold pS
 simp only [ab,bB,wT (wR _) (by omega:(0:Int)≤8),wT (wR _) (by omega:(0:Int)≤4)]
 have e8:be (8:Int).toNat (ah .u64 n)=be 8 n:=Bb
 have e4:be (4:Int).toNat (ah .u64 (b.length:Int))=be 4 b.length:=sW
 have e5:be (4:Int).toNat (ah .u64 (l.length:Int))=be 4 l.length:=sW
 simp only [e8,e4,e5]
 split
 ·rfl
 split
 ·simp
 ·have:=AC (l:=l) (d:=fun _=>default) (fun x o=> .inl (o++bB x)) (fun o=>o) (F:=fun (ag11:(Int×List Int)→(List Int)) (p11:Int×List Int)=>(if (decide (p11.1<(l.length:Int))) then ag11 ((p11.1+1),(p11.2++bB (gt l p11.1))) else p11.2)) (s:=[3]++be 4 l.length) (fun ag i s=>by simp only [decide_eq_true_eq])
  rw [this,we,Be];simp
theorem gF {a b:Int} (h:0≤a):aQ .i64 a b=a% b:=Int.tmod_eq_emod_of_nonneg h
theorem Kl {m o a b':Int}:((o+a)% m+((a+a)% m)*b')% m=(o+a*(2*b'+1))% m:=by
 rw [show o+a*(2*b'+1)=(o+a)+(a+a)*b' by rw [Int.mul_add,Int.add_mul,Int.mul_one,←Int.mul_assoc,Int.mul_comm a 2,Int.two_mul,Int.add_mul];omega]
 rw [Int.add_emod ((o+a)% m),Int.emod_emod_of_dvd _ (Int.dvd_refl m),Int.mul_emod ((a+a)% m),Int.emod_emod_of_dvd _ (Int.dvd_refl m),←Int.mul_emod,←Int.add_emod]
theorem Km {m o a b':Int}:(o+((a+a)% m)*b')% m=(o+a*(2*b'))% m:=by
 rw [show o+a*(2*b')=o+(a+a)*b' by rw [←Int.mul_assoc,Int.mul_comm a 2,Int.two_mul]]
 rw [Int.add_emod o,Int.mul_emod ((a+a)% m),Int.emod_emod_of_dvd _ (Int.dvd_refl m),←Int.mul_emod,←Int.add_emod]
theorem Kn {m v:Int} (hm:0<m) {F:(Int×Int×Int→Int)→Int×Int×Int→Int} {d:Int×Int×Int→Int}
  (hF: ∀ag p,F ag p=if decide (p.2.1>0)=true then (if (p.2.1% 2==1)=true then ag (aQ .i64 (p.1+p.1) m,p.2.1/2,aQ .i64 (p.2.2+p.1) m) else ag (aQ .i64 (p.1+p.1) m,p.2.1/2,p.2.2)) else p.2.2)
  (n:Nat) (a b o:Int) (ha:0≤a) (hb:0≤b) (ho:0≤o∧o<m) (hv:(o+a*b)% m=v) (hn:b.toNat<n):ae n F d (a,b,o)=v:=by
 refine kv (P:=fun p:Int×Int×Int=>0≤p.1∧0≤p.2.1∧(0≤p.2.2∧p.2.2<m)∧(p.2.2+p.1*p.2.1)% m=v) (Q:=fun r=>r=v) (meas:=fun p=>p.2.1.toNat) ?_ n _ ⟨ha,hb,ho,hv⟩ hn
 rintro ag ⟨a,b,o⟩ ⟨h1,h2,h3,h4⟩ ih
 simp only at h1 h2 h3 h4 ih
 rw [hF]
 by_cases hb:b>0
 ·rw [if_pos (by simpa using hb)]
  have r1: ∀x:Int,0≤x% m∧x% m<m:=fun x=>⟨Int.emod_nonneg _ (by omega),Int.emod_lt_of_pos _ hm⟩
  simp only [gF (show 0≤a+a by omega),gF (show 0≤o+a by omega)]
  by_cases hc:b% 2=1
  ·rw [if_pos (by simpa using hc)]
   refine ih _ ⟨(r1 _).1,by show 0≤b/2;omega,r1 _,?_⟩ (by show (b/2).toNat<b.toNat;omega)
   show ((o+a)% m+((a+a)% m)*(b/2))% m=v
   rw [Kl,show 2*(b/2)+1=b by omega];exact h4
  ·rw [if_neg (by simpa using hc)]
   refine ih _ ⟨(r1 _).1,by show 0≤b/2;omega,h3,?_⟩ (by show (b/2).toNat<b.toNat;omega)
   show (o+((a+a)% m)*(b/2))% m=v
   rw [Km,show 2*(b/2)=b by omega];exact h4
 ·rw [if_neg (by simpa using hb)]
  have:b=0:=by omega
  subst this
  rw [Int.mul_zero,Int.add_zero,Int.emod_eq_of_lt h3.1 h3.2] at h4
  exact h4
theorem jJ {a b m:Int} (ha:0≤a) (hm:a<m) (hb:0≤b):dt a b m=a*b% m:=by
 unfold dt
 have key: ∀F d,(∀ag p,F ag p=if decide (p.2.1>0)=true then (if (p.2.1% 2==1)=true then ag (aQ .i64 (p.1+p.1) m,p.2.1/2,aQ .i64 (p.2.2+p.1) m) else ag (aQ .i64 (p.1+p.1) m,p.2.1/2,p.2.2)) else p.2.2)→
   ae (b.toNat+1) F d (a,b,0)=a*b% m:=fun F d hF=>Kn (by omega) hF _ a b 0 ha hb ⟨by omega,by omega⟩ (by rw [Int.zero_add]) (by omega)
 by_cases h1:a<2147483648
 ·rw [if_pos (by simpa using h1)]
  by_cases h2:b<2147483648
  ·rw [if_pos (by simpa using h2)]
   have hp:=mn ha (show a≤2147483647 by omega) hb (show b≤2147483647 by omega)
   have e:aN .i64 a b=a*b:=by
    unfold aN;rw [IntKind.wrap_i64]
    generalize a*b=p at hp
    omega
   rw [e,gF hp.1]
  ·rw [if_neg (by simpa using h2)]
   exact key _ _ (fun ag p=>rfl)
 ·rw [if_neg (by simpa using h1)]
  exact key _ _ (fun ag p=>rfl)
theorem jK {a b m x:Int} (hx:x=dt a b m) (ha:0≤a) (hm:a<m) (hb:0≤b):0≤x∧x<m:=by
 rw [hx,jJ ha hm hb];exact ⟨Int.emod_nonneg _ (by omega),Int.emod_lt_of_pos _ (by omega)⟩
theorem sY {a e m x:Int} (hx:x=dj a e m) (ha:0≤a) (hm:a<m):0≤x∧x<m:=by
 subst hx
 unfold dj
 refine kv (P:=fun p:Int×Int×Int=>0≤p.1∧p.1<m∧0≤p.2.2∧p.2.2<m) (Q:=fun x=>0≤x∧x<m) (meas:=fun p=>p.2.1.toNat) ?_ _ _ ⟨ha,hm,sQ (by omega)⟩ (by show e.toNat<_;omega)
 rintro ag ⟨a,e,x⟩ ⟨p1,p2,p3,p4⟩ ih
 simp only at p1 p2 p3 p4 ih⊢
 by_cases he:e>0
 ·rw [if_pos (by simpa using he)]
  have hs:(e/2).toNat<e.toNat:=by omega
  simp only [ab]
  by_cases hc:(e% 2==1)=true
  ·rw [if_pos hc]
   have m1:=jK (x:=dt x a m) rfl p3 p4 p1
   have m2:=jK (x:=dt a a m) rfl p1 p2 p1
   exact ih _ ⟨m2.1,m2.2,m1.1,m1.2⟩ hs
  ·rw [if_neg hc]
   have m2:=jK (x:=dt a a m) rfl p1 p2 p1
   exact ih _ ⟨m2.1,m2.2,p3,p4⟩ hs
 ·rw [if_neg (by simpa using he)]
  exact ⟨p3,p4⟩
theorem cJ {j:Int} (h0:0≤j) (h1:j<12):2≤gt ([2,3,5,7,11,13,17,19,23,29,31,37]:List Int) j∧gt ([2,3,5,7,11,13,17,19,23,29,31,37]:List Int) j≤37:=cI h0 h1
theorem Ko {u i:Int} (h:jI u i) (hu:0≤u) (h0:0≤i) (h1:i<12) (hr: ¬aQ .i64 u (gt ([2,3,5,7,11,13,17,19,23,29,31,37]:List Int) i)=0):jI u (i+1):=wL h hu h0 h1 hr
theorem sZ {p q:Int} (hp:3≤p) (hp1:p<2305843009213693952) (hq:3≤q) (h:aQ .i64 (av .i64 p 1) q=0):q<2305843009213693952:=by
 have e:av .i64 p 1=p - 1:=by unfold av;rw [IntKind.wrap_i64];omega
 rw [e,gF (by omega)] at h
 have h1:q≤p - 1:=Int.le_of_dvd (by omega) (Int.dvd_of_emod_eq_zero h)
 omega
theorem kU {a m:Int} (ha:0≤a) (hm:0<m):0≤aQ .i64 a m∧aQ .i64 a m<m:=by
 rw [gF ha];exact ⟨Int.emod_nonneg _ (by omega),Int.emod_lt_of_pos _ hm⟩
instance wU (g:ao):CF (ef g) (fun x=>x=true→3≤g.Q∧3≤g.P∧g.P<2305843009213693952∧g.Q<g.P∧2≤g.G∧g.G<g.P):=⟨fun h=>by
 unfold ef at h
 simp only [ab] at h
 repeat' (split at h)
 all_goals first|cases h|skip
 all_goals (
  simp only [decide_eq_true_eq,bne_iff_ne,ne_eq,Decidable.not_not,beq_iff_eq,Int.not_lt] at*
  have h1:g.Q≤g.P - 1:=by
   have e:av .i64 g.P 1=g.P - 1:=by unfold av;rw [IntKind.wrap_i64];omega
   have h5:aQ .i64 (av .i64 g.P 1) g.Q=0:=by assumption
   rw [e,gF (by omega)] at h5
   exact Int.le_of_dvd (by omega) (Int.dvd_of_emod_eq_zero h5)
  omega)⟩
instance wV (g:ao) (x:Int):CF (cv g x) (fun r=>r=true→1≤x∧x<g.P):=⟨fun h=>by
 unfold cv at h
 split at h
 ·split at h
  ·simp only [decide_eq_true_eq] at*;omega
  ·cases h
 ·cases h⟩
theorem rnl {x:List Int} {n size:Int} (h:x=kP (ah .u64 n) size) (h1:decide (0≤size)=true):(x.length:Int)=size:=by
 have h2:0≤size:=by simpa using h1
 rw [h,wT (wR _) h2,gY];omega
theorem Kq {i:aq} {w:Int} (h0:0≤w) (h1:w≤8):pQ i w=jt i w:=by
 obtain ⟨k,n,b,l⟩:=i
 unfold pQ
 simp only [ab]
 rw [Js (l:=l) (c:=fun x=>jt x (w+1)) (X:=true) (fun ag p=>by simp only [Jw])]
 unfold jt
 simp only [cc,wj]
 have e:(8:Int) - (w+1)=8 - w - 1:=by omega
 simp only [e,Bool.and_true]
 by_cases k1:k=1
 ·subst k1;cases b<;>cases l<;>simp<;>omega
 by_cases k2:k=2
 ·subst k2;by_cases hn:n=0<;>cases l<;>simp [hn]<;>omega
 by_cases k3:k=3
 ·subst k3
  by_cases hn:n=0
  ·cases b with
   | nil=>
    by_cases hl:(l.length:Int)>1000
    ·have: ¬l.length≤1000:=by omega
     simp [hn,hl,this]
    ·have hl':l.length≤1000:=by omega
     by_cases hw:w=8
     ·subst hw;simp [hn]
     ·have:(0:Int)<8 - w:=by omega
      have hw8:w<8:=by omega
      simp [hn,hl,hl',hw,hw8]
   | cons x b=>
    have: ¬((b.length:Int)+1=0):=by omega
    simp [hn,this]
  ·simp [hn]
 ·simp [k1,k2,k3]
theorem Bh: ∀{l m:List aq},bO (l++m)=bO l+bO m
 | [],m=>by simp [bO]
 | x::l,m=>by rw [List.cons_append,bO,bO,Bh];omega
theorem nP {l:List Int} {i:Int} (h:wfV (dM l)) (h0:0≤i) (h1:i<32):0≤ah .i64 (gt l i)∧ah .i64 (gt l i)≤255:=by
 have h2:=Ki h (gt (br 32 l) i) (aI (by rw [dL];omega))
 rw [Kh h0 (by omega)] at h2
 rw [o6 (by omega) (by omega)];exact h2
theorem Bi {a m:Int} (hm:1≤m) (hm1:m<2305843009213693952):nO a m=a% m:=by
 unfold nO
 have h1:=Int.tmod_eq_emod (a:=a) (b:=m)
 have e:aQ .i64 a m=a.tmod m:=rfl
 have r0:=Int.emod_nonneg a (show m≠0 by omega)
 have r1:=Int.emod_lt_of_pos a (show 0<m by omega)
 have hn:((m.natAbs:Nat):Int)=m:=by omega
 rw [e]
 by_cases hc:a.tmod m<0
 ·rw [if_pos (by simpa using hc)]
  unfold al
  rw [IntKind.wrap_i64]
  split at h1<;>omega
 ·rw [if_neg (by simpa using hc)]
  split at h1<;>omega
theorem Bj {a m x:Int} (hx:x=nO a m) (hm:1≤m) (hm1:m<2305843009213693952):0≤x∧x<m:=by
 rw [hx,Bi hm hm1];exact ⟨Int.emod_nonneg _ (by omega),Int.emod_lt_of_pos _ (by omega)⟩
theorem Bk {m:Int} (hm:1≤m):0≤aQ .i64 256 m∧aQ .i64 256 m<m:=by
 rw [gF (by decide)];exact ⟨Int.emod_nonneg _ (by omega),Int.emod_lt_of_pos _ (by omega)⟩
theorem Kr {l:List Int} {x:aq} (hx:x=iI l):hgt x=1+l.length:=by subst hx;rw [Kd,Ke]
theorem Ks {α β:Type} {n:Int} {f:Int→β} {F:(Int×List β→List β)→Int×List β→List β} {d:Int×List β→List β} {s:List β} (hF: ∀ag p,F ag p=if decide (p.1<n)=true then ag (p.1+1,p.2++[f p.1]) else p.2) (hn:0≤n):
  (ae ((n - 0).toNat+1) F d (0,s)).length=s.length+n.toNat:=by
 refine kv (P:=fun a:Int×List β=>0≤a.1∧a.1≤n∧(a.2.length:Int)=s.length+a.1) (Q:=fun r:List β=>r.length=s.length+n.toNat) (meas:=fun a=>(n - a.1).toNat) ?_ _ _ ?_ ?_
 rotate_left
 ·exact ⟨Int.le_refl _,hn,by simp⟩
 ·show (n - 0).toNat<(n - 0).toNat+1
  omega
 rintro ag ⟨i,l⟩ ⟨h0,h1,h2⟩ ih
 simp only at h0 h1 h2
 rw [hF]
 by_cases hp:i<n
 ·rw [if_pos (by simpa using hp)]
  exact ih _ ⟨by simp only;omega,by simp only;omega,by simp only [List.length_append,List.length_cons,List.length_nil];omega⟩ (by simp only;omega)
 ·rw [if_neg (by simpa using hp)];simp only;omega
theorem Kt {g:ao} {rows:List (List Int)} {e:List Int} {x:List Int} (hx:x=kF g rows e):x.length=rows.length:=by
 rw [hx];unfold kF
 simp only [ab]
 rw [Ks (α:=Unit) (f:=fun i=>nw g 1 (gt rows i) e) (fun ag p=>rfl) (by omega)]
 simp
instance PS (l:List UInt8):CF (gD l) (fun x=>x=true→1≤l.length∧l.length≤24):=⟨fun h=>by
 unfold gD at h
 repeat' (split at h)
 all_goals first|cases h|(simp only [decide_eq_true_eq] at*;omega)⟩
theorem Ku {g:ao} {r:aH} {p:cu} (h:jz g r p=true):okR g r∧p.A.length=r.Y.length:=by
 unfold jz at h
 simp only [ab] at h
 cases hv:fy g r with
 | false=>rw [hv] at h;cases h
 | true=>
  refine ⟨sU hv,?_⟩
  rw [hv,if_neg (by decide)] at h
  split at h
  ·cases h
  ·rename_i h1
   simp only [bne_iff_ne,ne_eq,Decidable.not_not] at h1
   omega
instance Kv (g:ao) (r:aH) (p:cu):CF (jz g r p) (fun x=>x=true→okR g r∧p.A.length=r.Y.length):=⟨fun h=>Ku h⟩
theorem Kw {E:Env} {S:St} (W:Nat) {T n:Nat} {g:Bool} {z:Option Bool} {l:List V} (m:List V) (h:ak S.H W=some (.own T n g z l)) (hm:mtL l m):gV E S ⟨S.F,dH (dH S.H W (.own T n g none m)) W (.pown n g none m),S.nx⟩:=by
 refine gV.trans (S1:=⟨S.F,dH S.H W (.own T n g none m),S.nx⟩) ?_ (vQ (S:=⟨S.F,dH S.H W (.own T n g none m),S.nx⟩) (T:=T) W (by rw [c8,if_pos rfl]))
 intro c0 c ρ F hs
 have hlen:=ka hm
 refine ⟨c,rfl,Cx.pub.refl _,⟨hs.1.since,hs.1.gl,hs.1.slot,?_,?_⟩,hs.2⟩
 ·intro j b hb
  simp only [c8] at hb
  split at hb
  ·rename_i e;subst e;cases hb
   obtain ⟨v,h1,h2,h3,h4,a,cap,e',h5⟩:=hs.1.heap _ _ h
   refine ⟨v,h1,⟨hlen▸h2.1,?_⟩,h3,h4,a,cap,hlen▸e',lz (by cases z<;>trivial) h5⟩
   rcases h2.2 with ⟨a',e9,rfl⟩|⟨g',cp,cur,e,k1,k2,k3,k4,k5,k6⟩
   ·exact .inl ⟨a',e9,List.eq_nil_of_length_eq_zero hlen.symm⟩
   ·rw [hlen] at e k3 k6
    exact .inr ⟨g',cp,cur,e,k1,k2,k3,k4,k5,zQ hm k6⟩
  ·exact hs.1.heap _ _ hb
 ·intro a b ba bb x hab ha hb hpa hpb hx
  simp only [c8] at ha hb
  have key: ∀y by',(if W=y then some (Blk.own T n g none m) else ak S.H y)=some by'→aZ by'=true→ ∃by2,ak S.H y=some by2∧aZ by2=true:=by
   intro y by' hy hp
   split at hy
   ·rename_i e;subst e;exact ⟨_,h,rfl⟩
   ·exact ⟨by',hy,hp⟩
  obtain ⟨ba',ha',hpa'⟩:=key a ba ha hpa
  obtain ⟨bb',hb',hpb'⟩:=key b bb hb hpb
  exact hs.1.sep a b ba' bb' x hab ha' hb' hpa' hpb' hx
end Go.Proofs.YtgealhhkngbkbaaGreatDoor
namespace Go.Proofs.YtgealhhkngbkbaaGreatDoor
open Go.RowKit
set_option linter.unusedVariables false
set_option linter.unusedSimpArgs false
theorem wW (f:aa):ax f=1+cR f.L:=by cases f;rfl
theorem Bl: ∀{l:List aa} {x:aa},x∈l→ax x≤cR l
 | a::l,x,h=>by
  rw [cR]
  rcases List.mem_cons.1 h with rfl|h
  ·omega
  ·have:=Bl h;omega
theorem b_ {f x:aa} (h:x∈f.L):ax x<ax f:=by rw [wW f];have:=Bl h;omega
theorem Kx (t:aG):fa t=1+ph t.L:=by cases t;rfl
theorem Bm: ∀{l:List aG} {x:aG},x∈l→fa x≤ph l
 | a::l,x,h=>by
  rw [ph]
  rcases List.mem_cons.1 h with rfl|h
  ·omega
  ·have:=Bm h;omega
theorem Ky {f x:aG} (h:x∈f.L):fa x<fa f:=by rw [Kx f];have:=Bm h;omega
theorem g_ {α:Type} [Inhabited α] {l:List α} {k:Nat} (h:k<l.length):gt l (k:Int)=l[k]:=by simp [gt,List.getD_eq_getElem?_getD,h]
theorem Bn {α:Type} [Inhabited α] {l:List α} (f:α→Int→Bool×Int) (L:List α→Int→Bool×Int) (h0: ∀n,L [] n=(true,n)) (h1: ∀a l n,L (a::l) n=if (f a n).1=true then L l (f a n).2 else (false,(f a n).2))
  {F:(Int×Int→Int×Int)→Int×Int→Int×Int} {d:Int×Int→Int×Int} (hF: ∀ag p,F ag p=if decide (p.1<(l.length:Int))=true then (if (!(f (gt l p.1) p.2).1)=true then (p.1,(f (gt l p.1) p.2).2) else ag (p.1+1,(f (gt l p.1) p.2).2)) else (-1,p.2)) (n:Int):
  (decide ((ae (((l.length:Int) - 0).toNat+1) F d (0,n)).1≥0),(ae (((l.length:Int) - 0).toNat+1) F d (0,n)).2)=(!(L l n).1,(L l n).2):=by
 have key: ∀(m k:Nat) (n:Int),l.length - k=m→k≤l.length→ ∀fuel,m<fuel→(decide ((ae fuel F d ((k:Int),n)).1≥0),(ae fuel F d ((k:Int),n)).2)=(!(L (l.drop k) n).1,(L (l.drop k) n).2):=by
  intro m
  induction m with
  | zero=>
   intro k n e1 e2 fuel hf
   obtain ⟨g,rfl⟩: ∃g,fuel=g+1:=⟨fuel - 1,by omega⟩
   rw [ae,hF,if_neg (by simp;omega),List.drop_of_length_le (by omega),h0]
   rfl
  | succ m ih=>
   intro k n e1 e2 fuel hf
   obtain ⟨g,rfl⟩: ∃g,fuel=g+1:=⟨fuel - 1,by omega⟩
   have hk:k<l.length:=by omega
   rw [ae,hF,if_pos (by simp;omega),List.drop_eq_getElem_cons hk,h1]
   dsimp only
   rw [g_ hk]
   cases hc:(f l[k] n).1 with
   | false=>
    rw [if_pos (show (!false)=true from rfl),if_neg (show¬(false=true) by decide)]
    simp
   | true=>
    rw [if_neg (show¬(!true)=true by decide),if_pos rfl]
    exact ih (k+1) _ (by omega) (by omega) g (by omega)
 have h5:=key l.length 0 n (by omega) (by omega) (((l.length:Int) - 0).toNat+1) (by omega)
 simpa using h5
theorem Kz {α:Type} [Inhabited α] {l:List α} (f:α→Int→Bool×Int) (L:List α→Int→Bool×Int) (h0: ∀n,L [] n=(true,n)) (h1: ∀a l n,L (a::l) n=if (f a n).1=true then L l (f a n).2 else (false,(f a n).2))
  {F:(Int×Int→Bool×Int)→Int×Int→Bool×Int} {d:Int×Int→Bool×Int} (hF: ∀ag p,F ag p=if decide (p.1<(l.length:Int))=true then (if (!(f (gt l p.1) p.2).1)=true then (false,(f (gt l p.1) p.2).2) else ag (p.1+1,(f (gt l p.1) p.2).2)) else (true,p.2)) (n:Int):
  ae (((l.length:Int) - 0).toNat+1) F d (0,n)=L l n:=by
 have key: ∀(m k:Nat) (n:Int),l.length - k=m→k≤l.length→ ∀fuel,m<fuel→ae fuel F d ((k:Int),n)=L (l.drop k) n:=by
  intro m
  induction m with
  | zero=>
   intro k n e1 e2 fuel hf
   obtain ⟨g,rfl⟩: ∃g,fuel=g+1:=⟨fuel - 1,by omega⟩
   rw [ae,hF,if_neg (by simp;omega),List.drop_of_length_le (by omega),h0]
  | succ m ih=>
   intro k n e1 e2 fuel hf
   obtain ⟨g,rfl⟩: ∃g,fuel=g+1:=⟨fuel - 1,by omega⟩
   have hk:k<l.length:=by omega
   rw [ae,hF,if_pos (by simp;omega),List.drop_eq_getElem_cons hk,h1]
   dsimp only
   rw [g_ hk]
   cases hc:(f l[k] n).1 with
   | false=>rw [if_pos (show (!false)=true from rfl),if_neg (show¬(false=true) by decide)]
   | true=>
    rw [if_neg (show¬(!true)=true by decide),if_pos rfl]
    exact ih (k+1) _ (by omega) (by omega) g (by omega)
 have h5:=key l.length 0 n (by omega) (by omega) (((l.length:Int) - 0).toNat+1) (by omega)
 simpa using h5
theorem KA (a:aa) (l:List aa) (n:Int):kw (a::l) n=if (dg a n).1=true then kw l (dg a n).2 else (false,(dg a n).2):=by
 rw [kw]
 rcases dg a n with ⟨b,m⟩
 cases b<;>rfl
theorem KB (a:aG) (l:List aG) (n:Int):kx (a::l) n=if (dh a n).1=true then kx l (dh a n).2 else (false,(dh a n).2):=by
 rw [kx]
 rcases dh a n with ⟨b,m⟩
 cases b<;>rfl
theorem wX (G:aa→Bool) (d:Int) (a:aa) (l:List aa) (n:Int):fb G (a::l) d n=if (bS G a d n).1=true then fb G l d (bS G a d n).2 else (false,(bS G a d n).2):=by
 rw [fb]
 rcases bS G a d n with ⟨b,m⟩
 cases b<;>rfl
theorem KC (l:List aa) (n:Int):nz l n=(!(kw l n).1,(kw l n).2):=
 Bn dg kw (fun _=>rfl) KA (fun ag p=>rfl) n
theorem KD (l:List aG) (n:Int):nB l n=(!(kx l n).1,(kx l n).2):=
 Bn dh kx (fun _=>rfl) KB (fun ag p=>rfl) n
theorem hJ {α:Type} [Inhabited α] {l:List α} (f:α→Bool) {F:(Int→Int)→Int→Int} {d:Int→Int} (hF: ∀ag p,F ag p=if decide (p<(l.length:Int))=true then (if f (gt l p)=true then p else ag (p+1)) else -1):
  decide (ae (((l.length:Int) - 0).toNat+1) F d 0≥0)=l.any f:=by
 have key: ∀(m k:Nat),l.length - k=m→k≤l.length→ ∀fuel,m<fuel→decide (ae fuel F d (k:Int)≥0)=(l.drop k).any f:=by
  intro m
  induction m with
  | zero=>
   intro k e1 e2 fuel hf
   obtain ⟨g,rfl⟩: ∃g,fuel=g+1:=⟨fuel - 1,by omega⟩
   rw [ae,hF,if_neg (by simp;omega),List.drop_of_length_le (by omega)]
   rfl
  | succ m ih=>
   intro k e1 e2 fuel hf
   obtain ⟨g,rfl⟩: ∃g,fuel=g+1:=⟨fuel - 1,by omega⟩
   have hk:k<l.length:=by omega
   rw [ae,hF,if_pos (by simp;omega),List.drop_eq_getElem_cons hk,g_ hk,List.any_cons]
   cases hc:f l[k] with
   | true=>rw [if_pos rfl];simp
   | false=>
    rw [if_neg (by decide),Bool.false_or]
    exact ih (k+1) (by omega) (by omega) g (by omega)
 have h5:=key l.length 0 (by omega) (by omega) (((l.length:Int) - 0).toNat+1) (by omega)
 simpa using h5
theorem KE (l:List (List Int)):sH l=l.any (fun x=>decide ((x.length:Int)>20)):=
 hJ sG (fun ag p=>rfl)
theorem KF (f:aa) (n:Int):nA f n=dg f n:=by
 obtain ⟨k,r,l⟩:=f
 unfold nA
 simp only [az,KE,KC,dg,decide_eq_true_eq,Bool.not_not]
theorem KG (f:aG) (n:Int):nC f n=dh f n:=by
 obtain ⟨k,r,l⟩:=f
 unfold nC
 simp only [az,KD,dh,decide_eq_true_eq,Bool.not_not]
theorem Bo (G:aa→Bool) (l:List aa) (d n:Int) {F:(Int×Int→Bool×Int)→Int×Int→Bool×Int} {df:Int×Int→Bool×Int} (hF: ∀ag p,F ag p=if decide (p.1<(l.length:Int))=true then (if (!(bS G (gt l p.1) d p.2).1)=true then (false,(bS G (gt l p.1) d p.2).2) else ag (p.1+1,(bS G (gt l p.1) d p.2).2)) else (true,p.2)):
  ae (((l.length:Int) - 0).toNat+1) F df (0,n)=fb G l d n:=
 Kz (fun a n=>bS G a d n) (fun l n=>fb G l d n) (fun _=>rfl) (wX G d) hF n
theorem KH (f:aa) (d n:Int):nl f d n=bS cS f d n:=by
 obtain ⟨k,r,l⟩:=f
 unfold nl
 rw [bS]
 by_cases c0:av .i64 n 1<0
 ·rw [if_pos (by simpa using c0),if_pos c0]
 rw [if_neg (by simpa using c0),if_neg c0]
 by_cases c1:d>6
 ·rw [if_pos (by simpa using c1),if_pos c1]
 rw [if_neg (by simpa using c1),if_neg c1,az]
 dsimp only
 cases c2:cS ⟨k,r,l⟩ with
 | false=>rw [if_pos (show (!false)=true from rfl),if_pos rfl]
 | true=>
  rw [if_neg (show¬(!true)=true by decide),if_neg (show¬(true=false) by decide)]
  exact Bo cS l _ _ (fun ag p=>rfl)
theorem KI (f:aa) (d n:Int) (g:ao):nt f d n g=iA di f d n g:=by
 obtain ⟨k,r,l⟩:=f
 unfold nt iA
 rw [bS]
 by_cases c0:av .i64 n 1<0
 ·rw [if_pos (by simpa using c0),if_pos c0]
 rw [if_neg (by simpa using c0),if_neg c0]
 by_cases c1:d>6
 ·rw [if_pos (by simpa using c1),if_pos c1]
 rw [if_neg (by simpa using c1),if_neg c1,az]
 dsimp only
 cases c2:di ⟨k,r,l⟩ g with
 | false=>rw [if_pos (show (!false)=true from rfl),if_pos rfl]
 | true=>
  rw [if_neg (show¬(!true)=true by decide),if_neg (show¬(true=false) by decide)]
  exact Bo (fun f=>di f g) l _ _ (fun ag p=>rfl)
mutual
def okF:aa→Prop
 | ⟨k,r,l⟩=>if k=1 then 1≤r.Bases.length else kV l
def kV:List aa→Prop
 | []=>True
 | f::l=>okF f∧kV l
end
theorem Bp: ∀{l:List aa},kV l→ ∀x∈l,okF x
 | f::l,h,x,hx=>by
  rw [kV] at h
  rcases List.mem_cons.1 hx with rfl|hx
  ·exact h.1
  ·exact Bp h.2 x hx
theorem KJ {f:aa} (h:okF f) (hk:f.Kind=1):1≤f.Relation.Bases.length:=by
 obtain ⟨k,r,l⟩:=f
 rw [okF,if_pos hk] at h;exact h
theorem KK {f x:aa} (h:okF f) (hk: ¬f.Kind=1) (hx:x∈f.L):okF x:=by
 obtain ⟨k,r,l⟩:=f
 rw [okF,if_neg hk] at h;exact Bp h x hx
theorem Bq: ∀(l:List aa) (a:Int),lY l a=l.foldl (fun a f=>ca a (cX f)) a
 | [],a=>rfl
 | f::l,a=>by rw [lY,Bq l];rfl
theorem KL {α R:Type} [Inhabited α] {l:List α} (f:Int→α→Int) (E:Int→R) {F:(Int×Int→R)→Int×Int→R} {d:Int×Int→R} (hF: ∀ag p,F ag p=if decide (p.2<(l.length:Int))=true then ag (f p.1 (gt l p.2),p.2+1) else E p.1) (a:Int):
  ae (((l.length:Int) - 0).toNat+1) F d (a,0)=E (l.foldl f a):=by
 have key: ∀(m k:Nat) (a:Int),l.length - k=m→k≤l.length→ ∀fuel,m<fuel→ae fuel F d (a,(k:Int))=E ((l.drop k).foldl f a):=by
  intro m
  induction m with
  | zero=>
   intro k a e1 e2 fuel hf
   obtain ⟨g,rfl⟩: ∃g,fuel=g+1:=⟨fuel - 1,by omega⟩
   rw [ae,hF,if_neg (by simp;omega),List.drop_of_length_le (by omega)]
   rfl
  | succ m ih=>
   intro k a e1 e2 fuel hf
   obtain ⟨g,rfl⟩: ∃g,fuel=g+1:=⟨fuel - 1,by omega⟩
   have hk:k<l.length:=by omega
   rw [ae,hF,if_pos (by simp;omega),List.drop_eq_getElem_cons hk,List.foldl_cons]
   dsimp only
   rw [g_ hk]
   exact ih (k+1) _ (by omega) (by omega) g (by omega)
 have h5:=key l.length 0 a (by omega) (by omega) (((l.length:Int) - 0).toNat+1) (by omega)
 simpa using h5
theorem KM (f:aa):pm f=cX f:=by
 obtain ⟨k,r,l⟩:=f
 unfold pm
 rw [cX]
 by_cases h:k=1
 ·rw [if_pos (by simpa using h),if_pos h]
 ·rw [if_neg (by simpa using h),if_neg h,Bq]
  exact KL (l:=l) (fun a f=>ca a (cX f)) (fun a=>a) (fun ag p=>rfl) 0
end Go.Proofs.YtgealhhkngbkbaaGreatDoor
