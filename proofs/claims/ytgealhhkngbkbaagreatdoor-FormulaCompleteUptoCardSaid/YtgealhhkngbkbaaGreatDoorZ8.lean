/- Texts of this proof, one after the other: EF, M, H1, HS, H2, HF. -/
import Derived.Test.YtgealhhkngbkbaaGreatDoorZ6
import Derived.Test.YtgealhhkngbkbaaGreatDoorZ7
import Derived.Test.YtgealhhkngbkbaaGreatDoorZ5
import Derived.Lib.BitFns
import Derived.KernelRfl
import Derived.Lib.Join
set_option linter.unusedSimpArgs false
set_option linter.unusedVariables false
namespace Go.Proofs.YtgealhhkngbkbaaGreatDoor
open Go.RowKit
end Go.Proofs.YtgealhhkngbkbaaGreatDoor
namespace Go.Proofs.YtgealhhkngbkbaaGreatDoor
open Go.RowKit
def mz (s:(List UInt8)) (prefix_:(List UInt8)):Bool:=
 (if (decide ((s.length:Int)≥(prefix_.length:Int))) then (((s.drop (0:Int).toNat).take ((prefix_.length:Int).toNat - (0:Int).toNat))==prefix_) else false)
def sR (s:(List UInt8)) (prefix_:(List UInt8)):((List UInt8)×Bool):=
 (ab (mz s prefix_) (fun (x1:Bool)=>(if (!x1) then (s,false) else (((s.drop (prefix_.length:Int).toNat).take ((s.length:Int).toNat - (prefix_.length:Int).toNat)),true))))
def pD (s:(List UInt8)) (prefix_:(List UInt8)):((List UInt8)×Bool):=
 (ab (sR s prefix_) (fun (x1:((List UInt8)×Bool))=>(x1.1,x1.2)))
def bh (p_:az) (t_:(List UInt8)):(Bool×az):=
 (ab (pD (p_.s) t_) (fun (x1:((List UInt8)×Bool))=>(x1.2,({s:=x1.1,bad:=p_.bad}:az))))
def li (x_:Int):Int:=
 (if (x_==0) then 64 else (al .i64 (gt jb (aB .u64 (aX .u64 (bE .u64 x_ (gA .u64 x_)) 285870213051353865) 58))))
def ee (p_:az):(Int×az):=
 (ah ((((p_).s.length:Int) - 0).toNat+1) (fun (ag1:Int→(Int×az)) (p1:Int)=>(if (decide (p1<(p_.s.length:Int))) then (if (decide (((p_.s.getD p1.toNat 0).toNat:Int)≥48)) then (if (decide (((p_.s.getD p1.toNat 0).toNat:Int)≤57)) then (ag1 (p1+1)) else (if (p1==0) then (0,({s:=((p_.s.drop (p1).toNat).take (p_.s.length - (p1).toNat)),bad:=true}:az)) else (if (decide (p1>1)) then (if ((((p_.s.take (p1).toNat).getD 0 0).toNat:Int)==48) then (0,({s:=((p_.s.drop (p1).toNat).take (p_.s.length - (p1).toNat)),bad:=true}:az)) else (ab (gS (p_.s.take (p1).toNat)) (fun (x17:(Int×Bool))=>(if (!x17.2) then (0,({s:=((p_.s.drop (p1).toNat).take (p_.s.length - (p1).toNat)),bad:=p_.bad}:az)) else (x17.1,({s:=((p_.s.drop (p1).toNat).take (p_.s.length - (p1).toNat)),bad:=p_.bad}:az)))))) else (ab (gS (p_.s.take (p1).toNat)) (fun (x24:(Int×Bool))=>(if (!x24.2) then (0,({s:=((p_.s.drop (p1).toNat).take (p_.s.length - (p1).toNat)),bad:=p_.bad}:az)) else (x24.1,({s:=((p_.s.drop (p1).toNat).take (p_.s.length - (p1).toNat)),bad:=p_.bad}:az)))))))) else (if (p1==0) then (0,({s:=((p_.s.drop (p1).toNat).take (p_.s.length - (p1).toNat)),bad:=true}:az)) else (if (decide (p1>1)) then (if ((((p_.s.take (p1).toNat).getD 0 0).toNat:Int)==48) then (0,({s:=((p_.s.drop (p1).toNat).take (p_.s.length - (p1).toNat)),bad:=true}:az)) else (ab (gS (p_.s.take (p1).toNat)) (fun (x39:(Int×Bool))=>(if (!x39.2) then (0,({s:=((p_.s.drop (p1).toNat).take (p_.s.length - (p1).toNat)),bad:=p_.bad}:az)) else (x39.1,({s:=((p_.s.drop (p1).toNat).take (p_.s.length - (p1).toNat)),bad:=p_.bad}:az)))))) else (ab (gS (p_.s.take (p1).toNat)) (fun (x46:(Int×Bool))=>(if (!x46.2) then (0,({s:=((p_.s.drop (p1).toNat).take (p_.s.length - (p1).toNat)),bad:=p_.bad}:az)) else (x46.1,({s:=((p_.s.drop (p1).toNat).take (p_.s.length - (p1).toNat)),bad:=p_.bad}:az)))))))) else (if (p1==0) then (0,({s:=((p_.s.drop (p1).toNat).take (p_.s.length - (p1).toNat)),bad:=true}:az)) else (if (decide (p1>1)) then (if ((((p_.s.take (p1).toNat).getD 0 0).toNat:Int)==48) then (0,({s:=((p_.s.drop (p1).toNat).take (p_.s.length - (p1).toNat)),bad:=true}:az)) else (ab (gS (p_.s.take (p1).toNat)) (fun (x61:(Int×Bool))=>(if (!x61.2) then (0,({s:=((p_.s.drop (p1).toNat).take (p_.s.length - (p1).toNat)),bad:=p_.bad}:az)) else (x61.1,({s:=((p_.s.drop (p1).toNat).take (p_.s.length - (p1).toNat)),bad:=p_.bad}:az)))))) else (ab (gS (p_.s.take (p1).toNat)) (fun (x68:(Int×Bool))=>(if (!x68.2) then (0,({s:=((p_.s.drop (p1).toNat).take (p_.s.length - (p1).toNat)),bad:=p_.bad}:az)) else (x68.1,({s:=((p_.s.drop (p1).toNat).take (p_.s.length - (p1).toNat)),bad:=p_.bad}:az))))))))) (fun _=>default) 0)
def cQ (p_:az) (t_:(List UInt8)):az:=
 (ab (bh p_ t_) (fun (x1:(Bool×az))=>(if (!x1.1) then ({s:=x1.2.s,bad:=true}:az) else x1.2)))
def gd (p_:az):(aF×az):=
 (ah ((p_).s.length+1) (fun (ag1:(az×aF×List Int×List (List Int))→(aF×az)) (p1:az×aF×List Int×List (List Int))=>(ab (ee (p1.1)) (fun (x2:(Int×az))=>(ab (cQ (x2.2) ([32,61])) (fun (x6:az)=>(ab (cQ x6 ([32])) (fun (x10:az)=>(ab (ee x10) (fun (x14:(Int×az))=>(ah (((x14.2)).s.length+1) (fun (ag19:(az×List Int)→(aF×az)) (p19:az×List Int)=>(if (!p19.1.bad) then (ab (bh (p19.1) ([32])) (fun (x22:(Bool×az))=>(if x22.1 then (ab (ee (x22.2)) (fun (x30:(Int×az))=>(ag19 (x30.2,(p19.2++([x30.1]:List Int)))))) else (if x22.2.bad then (({Y:=(p1.2.2.1++([x2.1]:List Int)),Bases:=(p1.2.2.2++([p19.2]:List (List Int)))}:aF),({s:=x22.2.s,bad:=true}:az)) else (ab (bh ({s:=x22.2.s,bad:=false}:az) ([93])) (fun (x38:(Bool×az))=>(if x38.1 then (({Y:=(p1.2.2.1++([x2.1]:List Int)),Bases:=(p1.2.2.2++([p19.2]:List (List Int)))}:aF),x38.2) else (ab (cQ (x38.2) ([44,32])) (fun (x47:az)=>(ag1 (x47,p1.2.1,(p1.2.2.1++([x2.1]:List Int)),(p1.2.2.2++([p19.2]:List (List Int)))))))))))))) else (if p19.1.bad then (({Y:=(p1.2.2.1++([x2.1]:List Int)),Bases:=(p1.2.2.2++([p19.2]:List (List Int)))}:aF),({s:=p19.1.s,bad:=true}:az)) else (ab (bh ({s:=p19.1.s,bad:=false}:az) ([93])) (fun (x55:(Bool×az))=>(if x55.1 then (({Y:=(p1.2.2.1++([x2.1]:List Int)),Bases:=(p1.2.2.2++([p19.2]:List (List Int)))}:aF),x55.2) else (ab (cQ (x55.2) ([44,32])) (fun (x64:az)=>(ag1 (x64,p1.2.1,(p1.2.2.1++([x2.1]:List Int)),(p1.2.2.2++([p19.2]:List (List Int))))))))))))) (fun _=>default) (x14.2,([x14.1]:List Int)))))))))))) (fun _=>default) (p_,fw,([]:List Int),([]:List (List Int))))
def gT (R:az→aa×az) (k:Int):Nat→az→List aa→aa×az
 | 0,_,_=>default
 | n+1,p,L=>if (R p).2.bad=true then (⟨k,fw,L++[(R p).1]⟩,(R p).2) else if (bh (R p).2 [41]).1=true then (⟨k,fw,L++[(R p).1]⟩,(bh (R p).2 [41]).2) else gT R k n (cQ (bh (R p).2 [41]).2 [44,32]) (L++[(R p).1])
def lj (R:az→aa×az) (p:az):aa×az:=
 if (bh p [91]).1=true then (⟨1,(gd (bh p [91]).2).1,[]⟩,(gd (bh p [91]).2).2)
 else if (bh (bh p [91]).2 [97,110,100,40]).1=true then gT R 2 ((bh (bh p [91]).2 [97,110,100,40]).2.s.length+1) (bh (bh p [91]).2 [97,110,100,40]).2 []
 else if (bh (bh (bh p [91]).2 [97,110,100,40]).2 [111,114,40]).1=true then gT R 3 ((bh (bh (bh p [91]).2 [97,110,100,40]).2 [111,114,40]).2.s.length+1) (bh (bh (bh p [91]).2 [97,110,100,40]).2 [111,114,40]).2 []
 else (⟨1,fw,[]⟩,{s:=(bh (bh (bh p [91]).2 [97,110,100,40]).2 [111,114,40]).2.s,bad:=true})
def kj:Nat→az→aa×az
 | 0,_=>default
 | n+1,p=>lj (kj n) p
def ce (p:az):aa×az:=kj (p.s.length+1) p
def jl (p_:az):(aa×az):=
 (dD (fun (p1:List UInt8×Bool×Int)=>(ah ((({s:=p1.1,bad:=p1.2.1}:az)).s.length+1) (fun (ag2:(az×Int×List Int×List (List Int)×List aa×List aa)→(aa×az)) (p2:az×Int×List Int×List (List Int)×List aa×List aa)=>(ab (ce (p2.1)) (fun (x3:(aa×az))=>(if x3.2.bad then (({Kind:=p1.2.2,Relation:=fw,L:=(p2.2.2.2.2.2++([x3.1]:List aa))}:aa),({s:=x3.2.s,bad:=true}:az)) else (ab (bh ({s:=x3.2.s,bad:=false}:az) ([41])) (fun (x9:(Bool×az))=>(if x9.1 then (({Kind:=p1.2.2,Relation:=fw,L:=(p2.2.2.2.2.2++([x3.1]:List aa))}:aa),x9.2) else (ab (cQ (x9.2) ([44,32])) (fun (x18:az)=>(ag2 (x18,p2.2.1,p2.2.2.1,p2.2.2.2.1,p2.2.2.2.2.1,(p2.2.2.2.2.2++([x3.1]:List aa))))))))))))) (fun _=>default) (({s:=p1.1,bad:=p1.2.1}:az),0,([]:List Int),([]:List (List Int)),([]:List aa),([]:List aa)))) (fun j1=>(ab (bh p_ ([91])) (fun (x23:(Bool×az))=>(if x23.1 then (ab (gd (x23.2)) (fun (x31:(aF×az))=>(({Kind:=1,Relation:=x31.1,L:=([]:List aa)}:aa),x31.2))) else (ab (bh (x23.2) ([97,110,100,40])) (fun (x36:(Bool×az))=>(if x36.1 then (j1 (x36.2.s,x36.2.bad,2)) else (ab (bh (x36.2) ([111,114,40])) (fun (x45:(Bool×az))=>(if x45.1 then (j1 (x45.2.s,x45.2.bad,3)) else (({Kind:=1,Relation:=fw,L:=([]:List aa)}:aa),({s:=x45.2.s,bad:=true}:az)))))))))))))
def ix (x_:Int):Bool:=
 (if (decide (x_<1)) then true else (decide (x_≥2305843009213693952)))
def wZ (s:(List Int)):Int:=
 (ah (((s.length:Int) - 0).toNat+1) (fun (ag1:Int→Int) (p1:Int)=>(if (decide (p1<(s.length:Int))) then (ab (ix (gt s p1)) (fun (x5:Bool)=>(if x5 then p1 else (ag1 (p1+1))))) else (-1))) (fun _=>default) 0)
def pE (s:(List Int)):Bool:=
 (ab (wZ s) (fun (x1:Int)=>(decide (x1≥0))))
def kl (l:(List Int)):Bool:=
 (ab (pE l) (fun (x1:Bool)=>(!x1)))
def iy (row:(List Int)) (c0:Int):Bool:=
 (if ((row.length:Int) !=c0) then true else (ab (kl row) (fun (x3:Bool)=>(!x3))))
def w3 (s:(List (List Int))) (f__c0:Int):Int:=
 (ah (((s.length:Int) - 0).toNat+1) (fun (ag1:Int→Int) (p1:Int)=>(if (decide (p1<(s.length:Int))) then (ab (iy (gt s p1) f__c0) (fun (x5:Bool)=>(if x5 then p1 else (ag1 (p1+1))))) else (-1))) (fun _=>default) 0)
def pG (s:(List (List Int))) (f__c0:Int):Bool:=
 (ab (w3 s f__c0) (fun (x1:Int)=>(decide (x1≥0))))
def jm (r_:aF):Bool:=
 (if (decide ((r_.Y.length:Int)<1)) then false else (if (decide ((r_.Y.length:Int)>8)) then false else (if ((r_.Bases.length:Int) !=(r_.Y.length:Int)) then false else (ab (kl (r_.Y)) (fun (x7:Bool)=>(if (!x7) then false else (if (decide (((gt r_.Bases 0).length:Int)≥1)) then (if (decide (((gt r_.Bases 0).length:Int)≤12)) then (ab (pG (r_.Bases) ((gt r_.Bases 0).length:Int)) (fun (x18:Bool)=>(!x18))) else false) else false)))))))
def c7 (f_:aa):Bool:=
 (if (f_.Kind==1) then (if ((f_.L.length:Int)==0) then (ab (jm (f_.Relation)) (fun (x5:Bool)=>x5)) else false) else (dD (fun (p10:Bool)=>(if p10 then (if (decide ((f_.L.length:Int)≥1)) then (if (decide ((f_.L.length:Int)≤8)) then (if ((f_.Relation.Y.length:Int)==0) then ((f_.Relation.Bases.length:Int)==0) else false) else false) else false) else false)) (fun j10=>(if (f_.Kind==2) then (j10 true) else (j10 (f_.Kind==3))))))
def nM (f_:aa) (depth:Int) (left:Int):(Bool×Int):=
 (if (decide ((ap .i64 left 1)<0)) then (false,(ap .i64 left 1)) else (if (decide (depth>6)) then (false,(ap .i64 left 1)) else (ab (c7 f_) (fun (x5:Bool)=>(if (!x5) then (false,(ap .i64 left 1)) else (ah (((f_.L.length:Int) - 0).toNat+1) (fun (ag11:(Int×Int)→(Bool×Int)) (p11:Int×Int)=>(if (decide (p11.1<(f_.L.length:Int))) then (ab ((cb c7) (gt f_.L p11.1) (ao .i64 depth 1) (p11.2)) (fun (x15:(Bool×Int))=>(if (!x15.1) then (false,x15.2) else (ag11 ((p11.1+1),x15.2))))) else (true,p11.2))) (fun _=>default) (0,(ap .i64 left 1))))))))
def w4 (f_:aa):Bool:=
 (ab ((cb c7) f_ 1 30) (fun (x1:(Bool×Int))=>x1.1))
def jn (f_:aa):Bool:=
 (ab (w4 f_) (fun (x1:Bool)=>x1))
def w5 (s:(List UInt8)):(aa×Int):=
 (if (decide ((s.length:Int)>8000)) then (ji,5) else (ab (ce ({s:=s,bad:=false}:az)) (fun (x4:(aa×az))=>(if x4.2.bad then (ji,3) else (if (!(x4.2.s==[])) then (ji,3) else (ab (jn (x4.1)) (fun (x12:Bool)=>(if (!x12) then (ji,1) else (x4.1,0)))))))))
def pH (f_:aa):Int:=
 (if (f_.Kind==1) then ((gt f_.Relation.Bases 0).length:Int) else (ah (((f_.L.length:Int) - 0).toNat+1) (fun (ag5:(Int×Int)→Int) (p5:Int×Int)=>(if (decide (p5.2<(f_.L.length:Int))) then (ab (bf (gt f_.L p5.2)) (fun (x9:Int)=>(ag5 ((b_ p5.1 x9),(p5.2+1))))) else p5.1)) (fun _=>default) (0,0)))
def w6 (f_:aa):Int:=
 (ab (jn f_) (fun (x1:Bool)=>(if (!x1) then 0 else (ab (bf f_) (fun (x8:Int)=>x8)))))
def lm (x_:Int) (y:Int):(Int×Int):=
 ((ao .u64 (ao .u64 (aX .u64 (aB .u64 x_ 32) (aB .u64 y 32)) (aB .u64 (ao .u64 (aX .u64 (aB .u64 x_ 32) (bE .u64 y 4294967295)) (aB .u64 (aX .u64 (bE .u64 x_ 4294967295) (bE .u64 y 4294967295)) 32)) 32)) (aB .u64 (ao .u64 (bE .u64 (ao .u64 (aX .u64 (aB .u64 x_ 32) (bE .u64 y 4294967295)) (aB .u64 (aX .u64 (bE .u64 x_ 4294967295) (bE .u64 y 4294967295)) 32)) 4294967295) (aX .u64 (bE .u64 x_ 4294967295) (aB .u64 y 32))) 32)),(aX .u64 x_ y))
def mA (x_:Int):Int:=
 (ab (kh x_) (fun (x1:Int)=>(ap .i64 64 x1)))
def nN (hi:Int) (lo:Int) (y:Int):(Int×Int):=
 (if (y==0) then (default:(Int×Int)) else (if (decide (y≤hi)) then (default:(Int×Int)) else (if (hi==0) then ((cm .u64 lo y),(aO .u64 lo y)) else (ab (mA y) (fun (x10:Int)=>(dD (fun (p14:Int)=>(dD (fun (p15:Int)=>((ao .u64 (aX .u64 p14 4294967296) p15),(aB .u64 (ap .u64 (ao .u64 (aX .u64 (ap .u64 (ao .u64 (aX .u64 (orI .u64 (aC .u64 hi (al .u64 x10)) (aB .u64 lo (ap .u64 64 (al .u64 x10)))) 4294967296) (aB .u64 (aC .u64 lo (al .u64 x10)) 32)) (aX .u64 p14 (aC .u64 y (al .u64 x10)))) 4294967296) (bE .u64 (aC .u64 lo (al .u64 x10)) 4294967295)) (aX .u64 p15 (aC .u64 y (al .u64 x10)))) (al .u64 x10)))) (fun j15=>(ah ((4294967296 - (ap .u64 (ap .u64 (ao .u64 (aX .u64 (orI .u64 (aC .u64 hi (al .u64 x10)) (aB .u64 lo (ap .u64 64 (al .u64 x10)))) 4294967296) (aB .u64 (aC .u64 lo (al .u64 x10)) 32)) (aX .u64 p14 (aC .u64 y (al .u64 x10)))) (aX .u64 (cm .u64 (ap .u64 (ao .u64 (aX .u64 (orI .u64 (aC .u64 hi (al .u64 x10)) (aB .u64 lo (ap .u64 64 (al .u64 x10)))) 4294967296) (aB .u64 (aC .u64 lo (al .u64 x10)) 32)) (aX .u64 p14 (aC .u64 y (al .u64 x10)))) (aB .u64 (aC .u64 y (al .u64 x10)) 32)) (aB .u64 (aC .u64 y (al .u64 x10)) 32)))).toNat+1) (fun (ag16:(Int×Int)→(Int×Int)) (p16:Int×Int)=>(if (decide (p16.2≥4294967296)) then (if (decide ((ao .u64 p16.1 (aB .u64 (aC .u64 y (al .u64 x10)) 32))≥4294967296)) then (j15 (ap .u64 p16.2 1)) else (ag16 ((ao .u64 p16.1 (aB .u64 (aC .u64 y (al .u64 x10)) 32)),(ap .u64 p16.2 1)))) else (if (decide ((aX .u64 p16.2 (bE .u64 (aC .u64 y (al .u64 x10)) 4294967295))>(ao .u64 (aX .u64 4294967296 p16.1) (bE .u64 (aC .u64 lo (al .u64 x10)) 4294967295)))) then (if (decide ((ao .u64 p16.1 (aB .u64 (aC .u64 y (al .u64 x10)) 32))≥4294967296)) then (j15 (ap .u64 p16.2 1)) else (ag16 ((ao .u64 p16.1 (aB .u64 (aC .u64 y (al .u64 x10)) 32)),(ap .u64 p16.2 1)))) else (j15 p16.2)))) (fun _=>default) ((ap .u64 (ap .u64 (ao .u64 (aX .u64 (orI .u64 (aC .u64 hi (al .u64 x10)) (aB .u64 lo (ap .u64 64 (al .u64 x10)))) 4294967296) (aB .u64 (aC .u64 lo (al .u64 x10)) 32)) (aX .u64 p14 (aC .u64 y (al .u64 x10)))) (aX .u64 (cm .u64 (ap .u64 (ao .u64 (aX .u64 (orI .u64 (aC .u64 hi (al .u64 x10)) (aB .u64 lo (ap .u64 64 (al .u64 x10)))) 4294967296) (aB .u64 (aC .u64 lo (al .u64 x10)) 32)) (aX .u64 p14 (aC .u64 y (al .u64 x10)))) (aB .u64 (aC .u64 y (al .u64 x10)) 32)) (aB .u64 (aC .u64 y (al .u64 x10)) 32))),(cm .u64 (ap .u64 (ao .u64 (aX .u64 (orI .u64 (aC .u64 hi (al .u64 x10)) (aB .u64 lo (ap .u64 64 (al .u64 x10)))) 4294967296) (aB .u64 (aC .u64 lo (al .u64 x10)) 32)) (aX .u64 p14 (aC .u64 y (al .u64 x10)))) (aB .u64 (aC .u64 y (al .u64 x10)) 32))))))) (fun j14=>(ah ((4294967296 - (ap .u64 (orI .u64 (aC .u64 hi (al .u64 x10)) (aB .u64 lo (ap .u64 64 (al .u64 x10)))) (aX .u64 (cm .u64 (orI .u64 (aC .u64 hi (al .u64 x10)) (aB .u64 lo (ap .u64 64 (al .u64 x10)))) (aB .u64 (aC .u64 y (al .u64 x10)) 32)) (aB .u64 (aC .u64 y (al .u64 x10)) 32)))).toNat+1) (fun (ag29:(Int×Int)→(Int×Int)) (p29:Int×Int)=>(if (decide (p29.1≥4294967296)) then (if (decide ((ao .u64 p29.2 (aB .u64 (aC .u64 y (al .u64 x10)) 32))≥4294967296)) then (j14 (ap .u64 p29.1 1)) else (ag29 ((ap .u64 p29.1 1),(ao .u64 p29.2 (aB .u64 (aC .u64 y (al .u64 x10)) 32))))) else (if (decide ((aX .u64 p29.1 (bE .u64 (aC .u64 y (al .u64 x10)) 4294967295))>(ao .u64 (aX .u64 4294967296 p29.2) (aB .u64 (aC .u64 lo (al .u64 x10)) 32)))) then (if (decide ((ao .u64 p29.2 (aB .u64 (aC .u64 y (al .u64 x10)) 32))≥4294967296)) then (j14 (ap .u64 p29.1 1)) else (ag29 ((ap .u64 p29.1 1),(ao .u64 p29.2 (aB .u64 (aC .u64 y (al .u64 x10)) 32))))) else (j14 p29.1)))) (fun _=>default) ((cm .u64 (orI .u64 (aC .u64 hi (al .u64 x10)) (aB .u64 lo (ap .u64 64 (al .u64 x10)))) (aB .u64 (aC .u64 y (al .u64 x10)) 32)),(ap .u64 (orI .u64 (aC .u64 hi (al .u64 x10)) (aB .u64 lo (ap .u64 64 (al .u64 x10)))) (aX .u64 (cm .u64 (orI .u64 (aC .u64 hi (al .u64 x10)) (aB .u64 lo (ap .u64 64 (al .u64 x10)))) (aB .u64 (aC .u64 y (al .u64 x10)) 32)) (aB .u64 (aC .u64 y (al .u64 x10)) 32))))))))))))
def fQ (a_:Int) (b:Int) (n_:Int):Int:=
 (ab (lm a_ b) (fun (x1:(Int×Int))=>(ab (nN (x1.1) (x1.2) n_) (fun (x5:(Int×Int))=>x5.2))))
def mB (a_:Int) (e_:Int) (n_:Int):Int:=
 (ah (e_.toNat+1) (fun (ag1:(Int×Int×Int)→Int) (p1:Int×Int×Int)=>(if (decide (p1.2.1>0)) then (if ((bE .u64 p1.2.1 1)==1) then (ab (fQ (p1.2.2) (p1.1) n_) (fun (x6:Int)=>(ab (fQ (p1.1) (p1.1) n_) (fun (x10:Int)=>(ag1 (x10,(aB .u64 p1.2.1 1),x6)))))) else (ab (fQ (p1.1) (p1.1) n_) (fun (x15:Int)=>(ag1 (x15,(aB .u64 p1.2.1 1),p1.2.2))))) else p1.2.2)) (fun _=>default) (a_,e_,1))
def pI (a_:Int) (n_:Int) (d_:Int) (s:Int):Bool:=
 (ab (mB a_ d_ n_) (fun (x1:Int)=>(if (x1==1) then false else (if (x1==(ap .u64 n_ 1)) then false else (ah ((ap .i64 s 1 - 0).toNat+1) (fun (ag10:(Int×Int)→Bool) (p10:Int×Int)=>(if (decide (p10.2<(ap .i64 s 1))) then (ab (fQ (p10.1) (p10.1) n_) (fun (x13:Int)=>(if (x13==(ap .u64 n_ 1)) then false else (ag10 (x13,(p10.2+1)))))) else true)) (fun _=>default) (x1,0))))))
def ln (n_:Int):Bool:=
 (if (decide (n_<2)) then false else (ah (((12:Int) - 0).toNat+1) (fun (ag4:Int→Bool) (p4:Int)=>(if (decide (p4<12)) then (if ((aO .u64 (al .u64 n_) (gt cF p4))==0) then ((al .u64 n_)==(gt cF p4)) else (ag4 (p4+1))) else (ab (li (ap .u64 (al .u64 n_) 1)) (fun (x12:Int)=>(ah (((12:Int) - 0).toNat+1) (fun (ag16:Int→Bool) (p16:Int)=>(if (decide (p16<12)) then (ab (pI (gt cF p16) (al .u64 n_) (aB .u64 (ap .u64 (al .u64 n_) 1) x12) x12) (fun (x20:Bool)=>(if x20 then false else (ag16 (p16+1))))) else true)) (fun _=>default) 0))))) (fun _=>default) 0))
def mC (a_:Int) (m:Int):Bool:=
 (if (decide (a_≥0)) then (decide (a_<m)) else false)
def iz (a_:Int) (b:Int) (m:Int):Int:=
 (if (decide (m<1)) then 1 else (if (decide (m≥2305843009213693952)) then 1 else (ab (mC a_ m) (fun (x6:Bool)=>(if (!x6) then 2 else (ab (mC b m) (fun (x11:Bool)=>(if (!x11) then 2 else 0))))))))
def jo (a_:Int) (b:Int) (m:Int):Int:=
 (ab (lm (al .u64 a_) (al .u64 b)) (fun (x1:(Int×Int))=>(ab (nN (x1.1) (x1.2) (al .u64 m)) (fun (x5:(Int×Int))=>(al .i64 x5.2)))))
def km (a_:Int) (e_:Int) (m:Int):(Int×Int):=
 (ab (iz a_ a_ m) (fun (x1:Int)=>(if (x1 !=0) then (0,x1) else (if (decide (e_<0)) then (0,2) else (ah (e_.toNat+1) (fun (ag11:(Int×Int×Int)→(Int×Int)) (p11:Int×Int×Int)=>(if (decide (p11.2.1>0)) then (if ((bE .i64 p11.2.1 1)==1) then (ab (jo (p11.2.2) (p11.1) m) (fun (x16:Int)=>(ab (jo (p11.1) (p11.1) m) (fun (x20:Int)=>(ag11 (x20,(aB .i64 p11.2.1 1),x16)))))) else (ab (jo (p11.1) (p11.1) m) (fun (x25:Int)=>(ag11 (x25,(aB .i64 p11.2.1 1),p11.2.2))))) else (p11.2.2,0))) (fun _=>default) (a_,e_,(aO .i64 1 m)))))))
def gg (g:ak):Bool:=
 (if (decide (g.P≥2305843009213693952)) then false else (if (decide (g.Q<3)) then false else (if ((aO .i64 g.Q 2)==0) then false else (ab (ln (g.P)) (fun (x7:Bool)=>(if (!x7) then false else (ab (ln (g.Q)) (fun (x12:Bool)=>(if (!x12) then false else (if ((aO .i64 (ap .i64 g.P 1) g.Q) !=0) then false else (if (decide (g.G<2)) then false else (if (decide (g.G≥g.P)) then false else (ab (km (g.G) (g.Q) (g.P)) (fun (x24:(Int×Int))=>(if (x24.2==0) then (x24.1==1) else false)))))))))))))))
def pJ (g:ak) (x_:Int):Bool:=
 (if (decide (x_<1)) then false else (if (decide (x_≥g.P)) then false else (ab (km x_ (g.Q) (g.P)) (fun (x6:(Int×Int))=>(if (x6.2==0) then (x6.1==1) else false)))))
def nO (x_:Int) (c0:ak):Bool:=
 (ab (pJ c0 x_) (fun (x1:Bool)=>(!x1)))
def w7 (s:(List Int)) (f__c0:ak):Int:=
 (ah (((s.length:Int) - 0).toNat+1) (fun (ag1:Int→Int) (p1:Int)=>(if (decide (p1<(s.length:Int))) then (ab (nO (gt s p1) f__c0) (fun (x5:Bool)=>(if x5 then p1 else (ag1 (p1+1))))) else (-1))) (fun _=>default) 0)
def sS (s:(List Int)) (f__c0:ak):Bool:=
 (ab (w7 s f__c0) (fun (x1:Int)=>(decide (x1≥0))))
def nP (g:ak) (l:(List Int)):Bool:=
 (ab (sS l g) (fun (x1:Bool)=>(!x1)))
def kn (row:(List Int)) (c0:Int) (c1:ak):Bool:=
 (if ((row.length:Int) !=c0) then true else (ab (nP c1 row) (fun (x3:Bool)=>(!x3))))
def nQ (s:(List (List Int))) (f__c0:Int) (f__c1:ak):Int:=
 (ah (((s.length:Int) - 0).toNat+1) (fun (ag1:Int→Int) (p1:Int)=>(if (decide (p1<(s.length:Int))) then (ab (kn (gt s p1) f__c0 f__c1) (fun (x5:Bool)=>(if x5 then p1 else (ag1 (p1+1))))) else (-1))) (fun _=>default) 0)
def mD (s:(List (List Int))) (f__c0:Int) (f__c1:ak):Bool:=
 (ab (nQ s f__c0 f__c1) (fun (x1:Int)=>(decide (x1≥0))))
def bU (g:ak) (r_:aF):Bool:=
 (ab (gg g) (fun (x1:Bool)=>(if (!x1) then false else (if (decide ((r_.Y.length:Int)<1)) then false else (if (decide ((r_.Y.length:Int)>8)) then false else (if ((r_.Bases.length:Int) !=(r_.Y.length:Int)) then false else (ab (nP g (r_.Y)) (fun (x12:Bool)=>(if (!x12) then false else (if (decide (((gt r_.Bases 0).length:Int)<1)) then false else (if (decide (((gt r_.Bases 0).length:Int)>12)) then false else (ab (mD (r_.Bases) ((gt r_.Bases 0).length:Int) g) (fun (x24:Bool)=>(!x24))))))))))))))
def w8 (r_:aF) (c0:ak):Bool:=
 (ab (bU c0 r_) (fun (x1:Bool)=>x1))
def dh (f_:aa) (c0_c0:ak):Bool:=
 (if (f_.Kind==1) then (if ((f_.L.length:Int)==0) then (ab (w8 (f_.Relation) c0_c0) (fun (x5:Bool)=>x5)) else false) else (dD (fun (p10:Bool)=>(if p10 then (if (decide ((f_.L.length:Int)≥1)) then (if (decide ((f_.L.length:Int)≤8)) then (if ((f_.Relation.Y.length:Int)==0) then ((f_.Relation.Bases.length:Int)==0) else false) else false) else false) else false)) (fun j10=>(if (f_.Kind==2) then (j10 true) else (j10 (f_.Kind==3))))))
def nR (f_:aa) (depth:Int) (left:Int) (good_c0_c0:ak):(Bool×Int):=
 (if (decide ((ap .i64 left 1)<0)) then (false,(ap .i64 left 1)) else (if (decide (depth>6)) then (false,(ap .i64 left 1)) else (ab (dh f_ good_c0_c0) (fun (x5:Bool)=>(if (!x5) then (false,(ap .i64 left 1)) else (ah (((f_.L.length:Int) - 0).toNat+1) (fun (ag11:(Int×Int)→(Bool×Int)) (p11:Int×Int)=>(if (decide (p11.1<(f_.L.length:Int))) then (ab ((jj dh) (gt f_.L p11.1) (ao .i64 depth 1) (p11.2) good_c0_c0) (fun (x15:(Bool×Int))=>(if (!x15.1) then (false,x15.2) else (ag11 ((p11.1+1),x15.2))))) else (true,p11.2))) (fun _=>default) (0,(ap .i64 left 1))))))))
def w9 (f_:aa) (good_c0:ak):Bool:=
 (ab ((jj dh) f_ 1 30 good_c0) (fun (x1:(Bool×Int))=>x1.1))
def bD (g:ak) (f_:aa):Bool:=
 (ab (gg g) (fun (x1:Bool)=>(if x1 then (ab (w9 f_ g) (fun (x5:Bool)=>x5)) else false)))
def gU (g:ak) (x_:Int):Bool:=
 (if (decide (x_≥0)) then (decide (x_<g.Q)) else false)
def nS (x_:Int) (c0:ak):Bool:=
 (ab (gU c0 x_) (fun (x1:Bool)=>(!x1)))
def xa (s:(List Int)) (f__c0:ak):Int:=
 (ah (((s.length:Int) - 0).toNat+1) (fun (ag1:Int→Int) (p1:Int)=>(if (decide (p1<(s.length:Int))) then (ab (nS (gt s p1) f__c0) (fun (x5:Bool)=>(if x5 then p1 else (ag1 (p1+1))))) else (-1))) (fun _=>default) 0)
def sT (s:(List Int)) (f__c0:ak):Bool:=
 (ab (xa s f__c0) (fun (x1:Int)=>(decide (x1≥0))))
def nT (g:ak) (l:(List Int)):Bool:=
 (ab (sT l g) (fun (x1:Bool)=>(!x1)))
def cv (r_:aF):Int:=
 ((gt r_.Bases 0).length:Int)
def nU (x_:Int) (c0:ak):Bool:=
 (if (decide (x_<0)) then true else (decide (x_≥c0.Q)))
def xb (s:(List Int)) (f__c0:ak):Int:=
 (ah (((s.length:Int) - 0).toNat+1) (fun (ag1:Int→Int) (p1:Int)=>(if (decide (p1<(s.length:Int))) then (ab (nU (gt s p1) f__c0) (fun (x5:Bool)=>(if x5 then p1 else (ag1 (p1+1))))) else (-1))) (fun _=>default) 0)
def sU (s:(List Int)) (f__c0:ak):Bool:=
 (ab (xb s f__c0) (fun (x1:Int)=>(decide (x1≥0))))
def gV (g:ak) (l:(List Int)):Bool:=
 (ab (sU l g) (fun (x1:Bool)=>(!x1)))
def mE (a_:Int) (b:Int) (m:Int):(Int×Int):=
 (ab (iz a_ b m) (fun (x1:Int)=>(if (x1 !=0) then (0,x1) else (ab (jo a_ b m) (fun (x8:Int)=>(x8,0))))))
def nV (g:ak) (start:Int) (bases:(List Int)) (exps:(List Int)):Int:=
 (ah (((bases.length:Int) - 0).toNat+1) (fun (ag1:(Int×Int)→Int) (p1:Int×Int)=>(if (decide (p1.2<(bases.length:Int))) then (ab (km (gt bases p1.2) (gt exps p1.2) (g.P)) (fun (x6:(Int×Int))=>(ab (mE (p1.1) (x6.1) (g.P)) (fun (x8:(Int×Int))=>(ag1 (x8.1,(p1.2+1))))))) else p1.1)) (fun _=>default) (start,0))
def dF (g:ak) (rows:(List (List Int))) (exps:(List Int)):(List Int):=
 (ah (((rows.length:Int) - 0).toNat+1) (fun (ag1:(Int×List Int)→(List Int)) (p1:Int×List Int)=>(if (decide (p1.1<(rows.length:Int))) then (ab (nV g 1 (gt rows p1.1) exps) (fun (x5:Int)=>(ag1 ((p1.1+1),(p1.2++([x5]:List Int)))))) else p1.2)) (fun _=>default) (0,([]:List Int)))
def jp (s1:(List Int)) (s2:(List Int)):Bool:=
 (if ((s1.length:Int) !=(s2.length:Int)) then false else (ah (((s1.length:Int) - 0).toNat+1) (fun (ag4:Int→Bool) (p4:Int)=>(if (decide (p4<(s1.length:Int))) then (if ((gt s1 p4) !=(gt s2 p4)) then false else (ag4 (p4+1))) else true)) (fun _=>default) 0))
def lq (g:ak) (r_:aF) (x_:(List Int)):Bool:=
 (ab (bU g r_) (fun (x1:Bool)=>(if x1 then (ab (cv r_) (fun (x6:Int)=>(if ((x_.length:Int)==x6) then (ab (gV g x_) (fun (x10:Bool)=>(if x10 then (ab (dF g (r_.Bases) x_) (fun (x13:(List Int))=>(ab (jp x13 (r_.Y)) (fun (x15:Bool)=>x15)))) else false))) else false))) else false)))
mutual
def bR (g:ak):aa→List Int→Bool
 | ⟨k,r,l⟩,x=>if k=1 then lq g r (sl x 0 (bf ⟨k,r,l⟩)) else if k=2 then nW g l x else mF g l x
def nW (g:ak):List aa→List Int→Bool
 | [],_=>true
 | f::l,x=>if bR g f x=false then false else nW g l x
def mF (g:ak):List aa→List Int→Bool
 | [],_=>false
 | f::l,x=>if bR g f x=true then true else mF g l x
end
def pK (p_:aa) (c0:ak) (c1:(List Int)):Bool:=
 (ab (bR c0 p_ c1) (fun (x1:Bool)=>x1))
def sV (p_:aa) (c0_c0:ak) (c0_c1:(List Int)):Bool:=
 (ab (pK p_ c0_c0 c0_c1) (fun (x1:Bool)=>(!x1)))
def sW (s:(List aa)) (f__c0_c0:ak) (f__c0_c1:(List Int)):Int:=
 (ah (((s.length:Int) - 0).toNat+1) (fun (ag1:Int→Int) (p1:Int)=>(if (decide (p1<(s.length:Int))) then (ab (sV (gt s p1) f__c0_c0 f__c0_c1) (fun (x5:Bool)=>(if x5 then p1 else (ag1 (p1+1))))) else (-1))) (fun _=>default) 0)
def pL (s:(List aa)) (f__c0_c0:ak) (f__c0_c1:(List Int)):Bool:=
 (ab (sW s f__c0_c0 f__c0_c1) (fun (x1:Int)=>(decide (x1≥0))))
def sX (s:(List aa)) (f__c0:ak) (f__c1:(List Int)):Int:=
 (ah (((s.length:Int) - 0).toNat+1) (fun (ag1:Int→Int) (p1:Int)=>(if (decide (p1<(s.length:Int))) then (ab (pK (gt s p1) f__c0 f__c1) (fun (x5:Bool)=>(if x5 then p1 else (ag1 (p1+1))))) else (-1))) (fun _=>default) 0)
def pM (s:(List aa)) (f__c0:ak) (f__c1:(List Int)):Bool:=
 (ab (sX s f__c0 f__c1) (fun (x1:Int)=>(decide (x1≥0))))
def pN (g:ak) (f_:aa) (x_:(List Int)):Bool:=
 (if (f_.Kind==1) then (ab (bf f_) (fun (x3:Int)=>(ab (lq g (f_.Relation) (sl x_ 0 x3)) (fun (x5:Bool)=>x5)))) else (if (f_.Kind==2) then (ab (pL (f_.L) g x_) (fun (x11:Bool)=>(!x11))) else (ab (pM (f_.L) g x_) (fun (x15:Bool)=>x15))))
def sY (g:ak) (f_:aa) (x_:(List Int)):Bool:=
 (ab (bD g f_) (fun (x1:Bool)=>(if x1 then (ab (bf f_) (fun (x7:Int)=>(if ((x_.length:Int)==x7) then (ab (nT g x_) (fun (x12:Bool)=>(if x12 then (ab (bR g f_ x_) (fun (x16:Bool)=>x16)) else false))) else false))) else false)))
def sZ:Bool:=
 (ab (w5 ([111,114,40,91,56,32,61,32,50,93,44,32,91,49,50,32,61,32,50,93,41])) (fun (x1:(aa×Int))=>(if (x1.2==0) then (ab (w6 (x1.1)) (fun (x6:Int)=>(if (x6==1) then (ab (sY ({P:=23,Q:=11,G:=4}:ak) (x1.1) ([3]:List Int)) (fun (x11:Bool)=>(if x11 then (ab (sY ({P:=23,Q:=11,G:=4}:ak) (x1.1) ([4]:List Int)) (fun (x15:Bool)=>(!x15))) else false))) else false))) else false)))
def s4 (l:(List Int)):Bool:=
 (decide ((l.length:Int)>20))
def pO (x_:aa) (c0:Int):(Bool×Int):=
 (ab (dr x_ c0) (fun (x1:(Bool×Int))=>((!x1.1),x1.2)))
def xc (s:(List (List Int))):Int:=
 (ah (((s.length:Int) - 0).toNat+1) (fun (ag1:Int→Int) (p1:Int)=>(if (decide (p1<(s.length:Int))) then (ab (s4 (gt s p1)) (fun (x5:Bool)=>(if x5 then p1 else (ag1 (p1+1))))) else (-1))) (fun _=>default) 0)
def s5 (s:(List (List Int))):Bool:=
 (ab (xc s) (fun (x1:Int)=>(decide (x1≥0))))
def pP (s_:(List aa)) (f__c0:Int):(Int×Int):=
 (ah (((s_.length:Int) - 0).toNat+1) (fun (ag1:(Int×Int)→(Int×Int)) (p1:Int×Int)=>(if (decide (p1.1<(s_.length:Int))) then (ab (pO (gt s_ p1.1) (p1.2)) (fun (x5:(Bool×Int))=>(if x5.1 then (p1.1,x5.2) else (ag1 ((p1.1+1),x5.2))))) else ((-1),p1.2))) (fun _=>default) (0,f__c0))
def nX (s_:(List aa)) (f__c0:Int):(Bool×Int):=
 (ab (pP s_ f__c0) (fun (x1:(Int×Int))=>((decide (x1.1≥0)),x1.2)))
def nY (f_:aa) (left:Int):(Bool×Int):=
 (if (decide ((ap .i64 left 1)<0)) then (false,(ap .i64 left 1)) else (if (decide ((f_.Relation.Y.length:Int)>20)) then (false,(ap .i64 left 1)) else (if (decide ((f_.Relation.Bases.length:Int)>20)) then (false,(ap .i64 left 1)) else (ab (s5 (f_.Relation.Bases)) (fun (x7:Bool)=>(if x7 then (false,(ap .i64 left 1)) else (ab (nX (f_.L) (ap .i64 left 1)) (fun (x11:(Bool×Int))=>((!x11.1),x11.2)))))))))
def pQ (x_:av) (c0:Int):(Bool×Int):=
 (ab (dt x_ c0) (fun (x1:(Bool×Int))=>((!x1.1),x1.2)))
def pR (s_:(List av)) (f__c0:Int):(Int×Int):=
 (ah (((s_.length:Int) - 0).toNat+1) (fun (ag1:(Int×Int)→(Int×Int)) (p1:Int×Int)=>(if (decide (p1.1<(s_.length:Int))) then (ab (pQ (gt s_ p1.1) (p1.2)) (fun (x5:(Bool×Int))=>(if x5.1 then (p1.1,x5.2) else (ag1 ((p1.1+1),x5.2))))) else ((-1),p1.2))) (fun _=>default) (0,f__c0))
def nZ (s_:(List av)) (f__c0:Int):(Bool×Int):=
 (ab (pR s_ f__c0) (fun (x1:(Int×Int))=>((decide (x1.1≥0)),x1.2)))
def n0 (t_:av) (left:Int):(Bool×Int):=
 (if (decide ((ap .i64 left 1)<0)) then (false,(ap .i64 left 1)) else (if (decide ((t_.P.A.length:Int)>20)) then (false,(ap .i64 left 1)) else (if (decide ((t_.P.Z.length:Int)>20)) then (false,(ap .i64 left 1)) else (ab (nZ (t_.L) (ap .i64 left 1)) (fun (x8:(Bool×Int))=>((!x8.1),x8.2))))))
def xd (t:av):Bool:=
 (ab (dt t 60) (fun (x1:(Bool×Int))=>(!x1.1)))
def xe (s:(List av)):Int:=
 (ah (((s.length:Int) - 0).toNat+1) (fun (ag1:Int→Int) (p1:Int)=>(if (decide (p1<(s.length:Int))) then (ab (xd (gt s p1)) (fun (x5:Bool)=>(if x5 then p1 else (ag1 (p1+1))))) else (-1))) (fun _=>default) 0)
def xf (s:(List av)):Bool:=
 (ab (xe s) (fun (x1:Int)=>(decide (x1≥0))))
def xg (f_:aa) (l:(List av)):Bool:=
 (ab (dr f_ 60) (fun (x1:(Bool×Int))=>(if (!x1.1) then false else (ab (xf l) (fun (x7:Bool)=>(!x7))))))
def eQ (a_:Int) (b:Int) (m:Int):Int:=
 (if (decide (a_<2147483648)) then (if (decide (b<2147483648)) then (aO .i64 (aX .i64 a_ b) m) else (ah (b.toNat+1) (fun (ag6:(Int×Int×Int)→Int) (p6:Int×Int×Int)=>(if (decide (p6.2.1>0)) then (if ((p6.2.1% 2)==1) then (ag6 ((aO .i64 (p6.1+p6.1) m),(p6.2.1/2),(aO .i64 (p6.2.2+p6.1) m))) else (ag6 ((aO .i64 (p6.1+p6.1) m),(p6.2.1/2),p6.2.2))) else p6.2.2)) (fun _=>default) (a_,b,0))) else (ah (b.toNat+1) (fun (ag20:(Int×Int×Int)→Int) (p20:Int×Int×Int)=>(if (decide (p20.2.1>0)) then (if ((p20.2.1% 2)==1) then (ag20 ((aO .i64 (p20.1+p20.1) m),(p20.2.1/2),(aO .i64 (p20.2.2+p20.1) m))) else (ag20 ((aO .i64 (p20.1+p20.1) m),(p20.2.1/2),p20.2.2))) else p20.2.2)) (fun _=>default) (a_,b,0)))
def ef (a_:Int) (e_:Int) (m:Int):Int:=
 (ah (e_.toNat+1) (fun (ag1:(Int×Int×Int)→Int) (p1:Int×Int×Int)=>(if (decide (p1.2.1>0)) then (if ((p1.2.1% 2)==1) then (ab (eQ (p1.2.2) (p1.1) m) (fun (x7:Int)=>(ab (eQ (p1.1) (p1.1) m) (fun (x11:Int)=>(ag1 (x11,(p1.2.1/2),x7)))))) else (ab (eQ (p1.1) (p1.1) m) (fun (x17:Int)=>(ag1 (x17,(p1.2.1/2),p1.2.2))))) else p1.2.2)) (fun _=>default) (a_,e_,(aO .i64 1 m)))
def pS (n_:Int) (a_:Int):Bool:=
 (ah ((n_ - 1).toNat+1) (fun (ag2:(Int×Int)→Bool) (p2:Int×Int)=>(if ((p2.1% 2)==0) then (ag2 ((p2.1/2),(p2.2+1))) else (ab (ef a_ (p2.1) n_) (fun (x9:Int)=>(if (x9==1) then true else (if (x9==(n_ - 1)) then true else (ah ((p2.2 - 1).toNat+1) (fun (ag19:(Int×Int)→Bool) (p19:Int×Int)=>(if (decide (p19.2<p2.2)) then (ab (eQ (p19.1) (p19.1) n_) (fun (x22:Int)=>(if (x22==(n_ - 1)) then true else (ag19 (x22,(p19.2+1)))))) else false)) (fun _=>default) (x9,1)))))))) (fun _=>default) ((n_ - 1),0))
def n3 (n_:Int):Bool:=
 (if (decide (n_<2)) then false else (ah (((12:Int) - 0).toNat+1) (fun (ag4:Int→Bool) (p4:Int)=>(if (decide (p4<(12:Int))) then (if ((aO .i64 n_ (gt ([2,3,5,7,11,13,17,19,23,29,31,37]:List Int) p4))==0) then (n_==(gt ([2,3,5,7,11,13,17,19,23,29,31,37]:List Int) p4)) else (ag4 (p4+1))) else (if (decide (n_≥2305843009213693952)) then (default:Bool) else (ah (((12:Int) - 0).toNat+1) (fun (ag15:Int→Bool) (p15:Int)=>(if (decide (p15<(12:Int))) then (ab (pS n_ (gt ([2,3,5,7,11,13,17,19,23,29,31,37]:List Int) p15)) (fun (x19:Bool)=>(if (!x19) then false else (ag15 (p15+1))))) else true)) (fun _=>default) 0)))) (fun _=>default) 0))
def eF (g:ak):Bool:=
 (if (decide (g.P<3)) then false else (if (decide (g.P≥2305843009213693952)) then false else (if (decide (g.Q<3)) then false else (if ((aO .i64 g.Q 2)==0) then false else (if ((aO .i64 (ap .i64 g.P 1) g.Q) !=0) then false else (if (decide (g.G<2)) then false else (if (decide (g.G≥g.P)) then false else (ab (n3 (g.P)) (fun (x16:Bool)=>(if x16 then (ab (n3 (g.Q)) (fun (x20:Bool)=>(if x20 then (ab (ef (g.G) (g.Q) (g.P)) (fun (x24:Int)=>(x24==1))) else false))) else false))))))))))
mutual
def fR:aa→Int
 | ⟨_,_,l⟩=>dS (gW l 1) 31
def gW:List aa→Int→Int
 | [],n=>n
 | f::l,n=>if n≤30 then gW l (n+fR f) else n
end
mutual
def gh:aa→Int
 | ⟨_,_,l⟩=>lr l 0+1
def lr:List aa→Int→Int
 | [],n=>n
 | f::l,n=>lr l (b_ n (gh f))
end
def pT (f_:aa):Int:=
 (ah (((f_.L.length:Int) - 0).toNat+1) (fun (ag1:(Int×Int)→Int) (p1:Int×Int)=>(if (decide (p1.2<(f_.L.length:Int))) then (if (decide (p1.1≤30)) then (ab (fR (gt f_.L p1.2)) (fun (x7:Int)=>(ag1 ((p1.1+x7),(p1.2+1))))) else (dS p1.1 31)) else (dS p1.1 31))) (fun _=>default) (1,0))
def pU (f_:aa):Int:=
 (ah (((f_.L.length:Int) - 0).toNat+1) (fun (ag1:(Int×Int)→Int) (p1:Int×Int)=>(if (decide (p1.2<(f_.L.length:Int))) then (ab (gh (gt f_.L p1.2)) (fun (x5:Int)=>(ag1 ((b_ p1.1 x5),(p1.2+1))))) else (p1.1+1))) (fun _=>default) (0,0))
def gi (r_:aF):Bool:=
 (if (decide ((r_.Y.length:Int)<1)) then false else (if (decide ((r_.Y.length:Int)>8)) then false else (if ((r_.Bases.length:Int) !=(r_.Y.length:Int)) then false else (if (decide (((gt r_.Bases 0).length:Int)<1)) then false else (if (decide (((gt r_.Bases 0).length:Int)>12)) then false else (ah (((r_.Y.length:Int) - 0).toNat+1) (fun (ag13:Int→Bool) (p13:Int)=>(if (decide (p13<(r_.Y.length:Int))) then (if (decide ((gt r_.Y p13)<1)) then false else (if (decide ((gt r_.Y p13)≥2305843009213693952)) then false else (if (((gt r_.Bases p13).length:Int) !=((gt r_.Bases 0).length:Int)) then false else (ah ((((gt r_.Bases p13).length:Int) - 0).toNat+1) (fun (ag25:Int→Bool) (p25:Int)=>(if (decide (p25<((gt r_.Bases p13).length:Int))) then (if (decide ((gt (gt r_.Bases p13) p25)<1)) then false else (if (decide ((gt (gt r_.Bases p13) p25)≥2305843009213693952)) then false else (ag25 (p25+1)))) else (ag13 (p13+1)))) (fun _=>default) 0)))) else true)) (fun _=>default) 0))))))
mutual
def co (EQ:aF→Bool):aa→Bool
 | ⟨k,r,l⟩=>if k=1 then (if l.length=0 then EQ r else false) else if (k=2∨k=3)∧r.Y.length=0∧r.Bases.length=0∧1≤l.length∧l.length≤8 then cj EQ l else false
def cj (EQ:aF→Bool):List aa→Bool
 | []=>true
 | f::l=>if co EQ f=false then false else cj EQ l
end
def gj (f:aa):Bool:=co gi f
def pV (f_:aa):Bool:=
 (if (f_.Kind==1) then (if ((f_.L.length:Int)==0) then (ab (gi (f_.Relation)) (fun (x5:Bool)=>x5)) else false) else (if (f_.Kind !=2) then (if (f_.Kind !=3) then false else (if (decide ((f_.Relation.Y.length:Int)>0)) then false else (if (decide ((f_.Relation.Bases.length:Int)>0)) then false else (if (decide ((f_.L.length:Int)<1)) then false else (if (decide ((f_.L.length:Int)>8)) then false else (ah (((f_.L.length:Int) - 0).toNat+1) (fun (ag23:Int→Bool) (p23:Int)=>(if (decide (p23<(f_.L.length:Int))) then (ab (gj (gt f_.L p23)) (fun (x27:Bool)=>(if (!x27) then false else (ag23 (p23+1))))) else true)) (fun _=>default) 0)))))) else (if (decide ((f_.Relation.Y.length:Int)>0)) then false else (if (decide ((f_.Relation.Bases.length:Int)>0)) then false else (if (decide ((f_.L.length:Int)<1)) then false else (if (decide ((f_.L.length:Int)>8)) then false else (ah (((f_.L.length:Int) - 0).toNat+1) (fun (ag48:Int→Bool) (p48:Int)=>(if (decide (p48<(f_.L.length:Int))) then (ab (gj (gt f_.L p48)) (fun (x52:Bool)=>(if (!x52) then false else (ag48 (p48+1))))) else true)) (fun _=>default) 0)))))))
def gk (f_:aa):Bool:=
 (ab (fR f_) (fun (x1:Int)=>(if (decide (x1≤30)) then (ab (gh f_) (fun (x7:Int)=>(if (decide (x7≤6)) then (ab (gj f_) (fun (x12:Bool)=>x12)) else false))) else false)))
def dG (r_:aF):Int:=
 ((gt r_.Bases 0).length:Int)
def dH (g:ak) (x_:Int):Bool:=
 (if (decide (x_≥1)) then (if (decide (x_<g.P)) then (ab (ef x_ (g.Q) (g.P)) (fun (x5:Int)=>(x5==1))) else false) else false)
def eR (g:ak) (r_:aF):Bool:=
 (ab (eF g) (fun (x1:Bool)=>(if (!x1) then false else (if (decide ((r_.Y.length:Int)<1)) then false else (if (decide ((r_.Y.length:Int)>8)) then false else (if ((r_.Bases.length:Int) !=(r_.Y.length:Int)) then false else (ab (dG r_) (fun (x14:Int)=>(if (decide (x14<1)) then false else (if (decide (x14>12)) then false else (ah (((r_.Y.length:Int) - 0).toNat+1) (fun (ag22:Int→Bool) (p22:Int)=>(if (decide (p22<(r_.Y.length:Int))) then (ab (dH g (gt r_.Y p22)) (fun (x26:Bool)=>(if (!x26) then false else (if (((gt r_.Bases p22).length:Int) !=x14) then false else (ah ((x14 - 0).toNat+1) (fun (ag35:Int→Bool) (p35:Int)=>(if (decide (p35<x14)) then (ab (dH g (gt (gt r_.Bases p22) p35)) (fun (x39:Bool)=>(if (!x39) then false else (ag35 (p35+1))))) else (ag22 (p22+1)))) (fun _=>default) 0))))) else true)) (fun _=>default) 0)))))))))))
mutual
def oa (LV:aF→Bool):aa→Bool
 | ⟨k,r,l⟩=>if k=1 then LV r else ls LV l
def ls (LV:aF→Bool):List aa→Bool
 | []=>true
 | f::l=>if oa LV f=false then false else ls LV l
end
def jq (g:ak) (f:aa):Bool:=oa (eR g) f
def pW (g:ak) (f_:aa):Bool:=
 (if (f_.Kind==1) then (ab (eR g (f_.Relation)) (fun (x3:Bool)=>x3)) else (ah (((f_.L.length:Int) - 0).toNat+1) (fun (ag8:Int→Bool) (p8:Int)=>(if (decide (p8<(f_.L.length:Int))) then (ab (jq g (gt f_.L p8)) (fun (x12:Bool)=>(if (!x12) then false else (ag8 (p8+1))))) else true)) (fun _=>default) 0))
def dI (g:ak) (f_:aa):Bool:=
 (ab (eF g) (fun (x1:Bool)=>(if x1 then (ab (gk f_) (fun (x7:Bool)=>(if x7 then (ab (jq g f_) (fun (x13:Bool)=>x13)) else false))) else false)))
def gm (d_:bm):Bool:=
 (if (decide (d_.Counter≥0)) then (decide (d_.Counter≤1099511627776)) else false)
def jr (d_:bm) (n_:Int) (low:Int) (high:Int):Int:=
 (ab (gm d_) (fun (x1:Bool)=>(if (!x1) then 1 else (if (decide (n_<low)) then 2 else (if (decide (n_>high)) then 2 else 0)))))
def pX (d_:bm):(List Int):=
 (ah (((56:Int)+8).toNat+1) (fun (ag1:(Int×List Int)→(List Int)) (p1:Int×List Int)=>(if (decide (p1.1≥0)) then (ag1 ((p1.1 - 8),(p1.2++([(al .u8 (aB .i64 d_.Counter p1.1))]:List Int)))) else p1.2)) (fun _=>default) (56,(([]:List Int)++(bX 32 d_.Seed))))
def s6 (s:List Int):List Int:=s
def pY (n_:Int):(List Int):=
 (ah (((8:Int) - 0).toNat+1) (fun (ag1:(Int×List Int)→(List Int)) (p1:Int×List Int)=>(if (decide (p1.1<(8:Int))) then (ag1 ((p1.1+1),(st p1.2 p1.1 (al .u8 (aB .u64 n_ (56 - (8*p1.1))))))) else p1.2)) (fun _=>default) (0,([(0:Int),(0:Int),(0:Int),(0:Int),(0:Int),(0:Int),(0:Int),(0:Int)]:List Int)))
def xh (x_:Int) (k_:Int):Int:=
 (orI .u32 (aC .u32 x_ (bE .u64 (al .u64 k_) 31)) (aB .u32 x_ (ap .u64 32 (bE .u64 (al .u64 k_) 31))))
def gX (x_:Int) (n_:Int):Int:=
 (ab (xh x_ (gA .i64 n_)) (fun (x1:Int)=>x1))
def xi (block:(List Int)):(List Int):=
 (ah (((16:Int) - 0).toNat+1) (fun (ag1:(Int×(List Int))→(List Int)) (p1:Int×(List Int))=>(if (decide (p1.1<16)) then (ah ((((sl block (4*p1.1) ((4*p1.1)+4)).length:Int) - 0).toNat+1) (fun (ag7:(Int×(List Int))→(List Int)) (p7:Int×(List Int))=>(if (decide (p7.1<((sl block (4*p1.1) ((4*p1.1)+4)).length:Int))) then (ag7 ((p7.1+1),(bX 64 (st (bX 64 p7.2) p1.1 (orI .u32 (aC .u32 (gt p7.2 p1.1) 8) (al .u32 (gt (sl block (4*p1.1) ((4*p1.1)+4)) p7.1))))))) else (ag1 ((p1.1+1),p7.2)))) (fun _=>default) (0,p1.2)) else (ah (((64:Int) - 16).toNat+1) (fun (ag17:(Int×(List Int))→(List Int)) (p17:Int×(List Int))=>(if (decide (p17.1<64)) then (ab (gX (gt p17.2 (p17.1 - 15)) 7) (fun (x26:Int)=>(ab (gX (gt p17.2 (p17.1 - 15)) 18) (fun (x29:Int)=>(ab (gX (gt p17.2 (p17.1 - 2)) 17) (fun (x32:Int)=>(ab (gX (gt p17.2 (p17.1 - 2)) 19) (fun (x35:Int)=>(ag17 ((p17.1+1),(bX 64 (st (bX 64 p17.2) p17.1 (ao .u32 (ao .u32 (ao .u32 (gt p17.2 (p17.1 - 16)) (cw .u32 (cw .u32 x26 x29) (aB .u32 (gt p17.2 (p17.1 - 15)) 3))) (gt p17.2 (p17.1 - 7))) (cw .u32 (cw .u32 x32 x35) (aB .u32 (gt p17.2 (p17.1 - 2)) 10))))))))))))))) else p17.2)) (fun _=>default) (16,p1.2)))) (fun _=>default) (0,[0,0,0,0,0,0,0,0,0,0,0,0,0,0,0,0,0,0,0,0,0,0,0,0,0,0,0,0,0,0,0,0,0,0,0,0,0,0,0,0,0,0,0,0,0,0,0,0,0,0,0,0,0,0,0,0,0,0,0,0,0,0,0,0]))
def xj (state:(List Int)) (block:(List Int)):(List Int):=
 (ab (xi block) (fun (x1:(List Int))=>(ah (((64:Int) - 0).toNat+1) (fun (ag4:(Int×Int×Int×Int×Int×Int×Int×Int×Int)→(List Int)) (p4:Int×Int×Int×Int×Int×Int×Int×Int×Int)=>(if (decide (p4.2.2.2.2.2.2.2.2<64)) then (ab (gX (p4.2.2.2.2.1) 6) (fun (x7:Int)=>(ab (gX (p4.2.2.2.2.1) 11) (fun (x9:Int)=>(ab (gX (p4.2.2.2.2.1) 25) (fun (x11:Int)=>(ab (gX (p4.1) 2) (fun (x16:Int)=>(ab (gX (p4.1) 13) (fun (x19:Int)=>(ab (gX (p4.1) 22) (fun (x22:Int)=>(ag4 ((ao .u32 (ao .u32 (ao .u32 (ao .u32 (ao .u32 p4.2.2.2.2.2.2.2.1 (cw .u32 (cw .u32 x7 x9) x11)) (cw .u32 (bE .u32 p4.2.2.2.2.1 p4.2.2.2.2.2.1) (bE .u32 (lM .u32 p4.2.2.2.2.1) p4.2.2.2.2.2.2.1))) (gt me p4.2.2.2.2.2.2.2.2)) (gt x1 p4.2.2.2.2.2.2.2.2)) (ao .u32 (cw .u32 (cw .u32 x16 x19) x22) (cw .u32 (cw .u32 (bE .u32 p4.1 p4.2.1) (bE .u32 p4.1 p4.2.2.1)) (bE .u32 p4.2.1 p4.2.2.1)))),p4.1,p4.2.1,p4.2.2.1,(ao .u32 p4.2.2.2.1 (ao .u32 (ao .u32 (ao .u32 (ao .u32 p4.2.2.2.2.2.2.2.1 (cw .u32 (cw .u32 x7 x9) x11)) (cw .u32 (bE .u32 p4.2.2.2.2.1 p4.2.2.2.2.2.1) (bE .u32 (lM .u32 p4.2.2.2.2.1) p4.2.2.2.2.2.2.1))) (gt me p4.2.2.2.2.2.2.2.2)) (gt x1 p4.2.2.2.2.2.2.2.2))),p4.2.2.2.2.1,p4.2.2.2.2.2.1,p4.2.2.2.2.2.2.1,(p4.2.2.2.2.2.2.2.2+1))))))))))))))) else (ah (((8:Int) - 0).toNat+1) (fun (ag26:(Int×(List Int))→(List Int)) (p26:Int×(List Int))=>(if (decide (p26.1<8)) then (ag26 ((p26.1+1),(bX 8 (st (bX 8 p26.2) p26.1 (ao .u32 (gt p26.2 p26.1) (gt ([p4.1,p4.2.1,p4.2.2.1,p4.2.2.2.1,p4.2.2.2.2.1,p4.2.2.2.2.2.1,p4.2.2.2.2.2.2.1,p4.2.2.2.2.2.2.2.1]:List Int) p26.1)))))) else p26.2)) (fun _=>default) (0,state)))) (fun _=>default) ((gt state 0),(gt state 1),(gt state 2),(gt state 3),(gt state 4),(gt state 5),(gt state 6),(gt state 7),0))))
def pZ (b:(List Int)):(List Int):=
 (ab (s6 b) (fun (x1:(List Int))=>(ah (((56 - (((x1++([128]:List Int))).length:Int))% 64).toNat+1) (fun (ag5:(List Int)→(List Int)) (p5:List Int)=>(if ((aO .i64 (p5.length:Int) 64) !=56) then (ag5 (p5++([0]:List Int))) else (ab (pY (aX .u64 8 (al .u64 (b.length:Int)))) (fun (x9:(List Int))=>(ah (((p5++x9)).length+1) (fun (ag13:(List Int×(List Int))→(List Int)) (p13:List Int×(List Int))=>(if (decide ((p13.1.length:Int)>0)) then (ab (xj (p13.2) (sl p13.1 0 64)) (fun (x16:(List Int))=>(ag13 ((sl p13.1 64 (p13.1.length:Int)),x16)))) else (ah (((8:Int) - 0).toNat+1) (fun (ag20:(Int×(List Int))→(List Int)) (p20:Int×(List Int))=>(if (decide (p20.1<8)) then (ah (((4:Int) - 0).toNat+1) (fun (ag24:(Int×(List Int))→(List Int)) (p24:Int×(List Int))=>(if (decide (p24.1<4)) then (ag24 ((p24.1+1),(bX 32 (st (bX 32 p24.2) ((4*p20.1)+p24.1) (al .u8 (aB .u32 (gt p13.2 p20.1) (24 - (8*p24.1)))))))) else (ag20 ((p20.1+1),p24.2)))) (fun _=>default) (0,p20.2)) else p20.2)) (fun _=>default) (0,[0,0,0,0,0,0,0,0,0,0,0,0,0,0,0,0,0,0,0,0,0,0,0,0,0,0,0,0,0,0,0,0])))) (fun _=>default) ((p5++x9),[1779033703,3144134277,1013904242,2773480762,1359893119,2600822924,528734635,1541459225])))))) (fun _=>default) (x1++([128]:List Int)))))
def bN (s_:bM):((List Int)×bM):=
 (if (s_.d.Counter==1099511627776) then ([0,0,0,0,0,0,0,0,0,0,0,0,0,0,0,0,0,0,0,0,0,0,0,0,0,0,0,0,0,0,0,0],({d:=s_.d,full:=true}:bM)) else (ab (pX (s_.d)) (fun (x4:(List Int))=>(ab (pZ x4) (fun (x8:(List Int))=>(x8,({d:=({Seed:=s_.d.Seed,Counter:=(ao .i64 s_.d.Counter 1)}:bm),full:=s_.full}:bM)))))))
def qa (h_:(List Int)):Int:=
 (ah (((8:Int) - 0).toNat+1) (fun (ag1:(Int×Int)→Int) (p1:Int×Int)=>(if (decide (p1.2<(8:Int))) then (ag1 ((orI .u64 (aC .u64 p1.1 8) (al .u64 (gt ([(gt h_ 0),(gt h_ 1),(gt h_ 2),(gt h_ 3),(gt h_ 4),(gt h_ 5),(gt h_ 6),(gt h_ 7)]:List Int) p1.2))),(p1.2+1))) else p1.1)) (fun _=>default) (0,0))
def fk (s_:bM) (q_:Int):(Int×bM):=
 (ab (kh (al .u64 (ap .i64 q_ 1))) (fun (x1:Int)=>(ah (((256:Int) - 0).toNat+1) (fun (ag5:(Int×Int×bM)→(Int×bM)) (p5:Int×Int×bM)=>(if (decide (p5.2.1<256)) then (ab (bN (p5.2.2)) (fun (x8:((List Int)×bM))=>(if x8.2.full then (0,({d:=x8.2.d,full:=true}:bM)) else (ab (qa (x8.1)) (fun (x14:Int)=>(if (decide ((bE .u64 x14 (ap .u64 (aC .u64 1 x1) 1))<(al .u64 q_))) then ((al .i64 (bE .u64 x14 (ap .u64 (aC .u64 1 x1) 1))),({d:=x8.2.d,full:=false}:bM)) else (ag5 ((bE .u64 x14 (ap .u64 (aC .u64 1 x1) 1)),(p5.2.1+1),({d:=x8.2.d,full:=false}:bM))))))))) else ((al .i64 (aO .u64 p5.1 (al .u64 q_))),p5.2.2))) (fun _=>default) (0,0,s_))))
def bS (s_:bM):(bm×Int×bM):=
 (if s_.full then (fx,5,({d:=s_.d,full:=true}:bM)) else (s_.d,0,({d:=s_.d,full:=false}:bM)))
def fA (d_:bm) (q:Int) (n_:Int):(bm×(List Int)×Int):=
 (ab (jr d_ q 1 2305843009213693951) (fun (x1:Int)=>(dD (fun (p5:Int)=>(if (p5 !=0) then (fx,([]:List Int),p5) else (ah ((n_ - 0).toNat+1) (fun (ag9:(Int×bM×List Int)→(bm×(List Int)×Int)) (p9:Int×bM×List Int)=>(if (decide (p9.1<n_)) then (ab (fk (p9.2.1) q) (fun (x12:(Int×bM))=>(ag9 ((p9.1+1),x12.2,(p9.2.2++([x12.1]:List Int)))))) else (ab (bS (p9.2.1)) (fun (x16:(bm×Int×bM))=>(if (x16.2.1 !=0) then (fx,([]:List Int),x16.2.1) else (x16.1,p9.2.2,0)))))) (fun _=>default) (0,({d:=d_,full:=false}:bM),([]:List Int))))) (fun j5=>(if (x1==0) then (ab (jr d_ n_ 0 1000) (fun (x24:Int)=>(j5 x24))) else (j5 x1))))))
def bV (v:ar) (n_:Int):((List Int)×ar):=
 (if (v.e !=0) then (([]:List Int),v) else (ab (fA (v.d) (v.g.Q) n_) (fun (x4:(bm×(List Int)×Int))=>(x4.2.1,({g:=v.g,d:=x4.1,e:=x4.2.2}:ar)))))
def fS (g:ak) (r_:aF) (l:(List Int)) (others:(List Int)):Int:=
 (ab (bU g r_) (fun (x1:Bool)=>(if (!x1) then 1 else (ab (cv r_) (fun (x7:Int)=>(if ((l.length:Int) !=x7) then 1 else (ab (gV g l) (fun (x13:Bool)=>(if (!x13) then 2 else (ab (gV g others) (fun (x18:Bool)=>(if (!x18) then 2 else 0))))))))))))
def fB (g:ak) (r_:aF) (c:Int) (z_:(List Int)):(List Int):=
 (ab (dF g (r_.Bases) z_) (fun (x1:(List Int))=>(ah (((r_.Y.length:Int) - 0).toNat+1) (fun (ag5:(Int×List Int)→(List Int)) (p5:Int×List Int)=>(if (decide (p5.1<(r_.Y.length:Int))) then (ab (km (gt r_.Y p5.1) (aO .i64 (ap .i64 g.Q c) g.Q) (g.P)) (fun (x9:(Int×Int))=>(ab (mE (gt p5.2 p5.1) (x9.1) (g.P)) (fun (x12:(Int×Int))=>(ag5 ((p5.1+1),(st p5.2 p5.1 x12.1))))))) else p5.2)) (fun _=>default) (0,x1))))
def BK (s:List Int):List Int:=s
def ko (g:ak) (r_:aF) (c:Int) (z_:(List Int)):(dg×Int):=
 (ab (fS g r_ z_ ([c]:List Int)) (fun (x1:Int)=>(if (x1 !=0) then (dZ,x1) else (ab (fB g r_ c z_) (fun (x7:(List Int))=>(ab (BK z_) (fun (x10:(List Int))=>(({A:=x7,C:=c,Z:=x10}:dg),0))))))))
def iA (d_:bm) (q:Int):(bm×Int×Int):=
 (ab (jr d_ q 1 2305843009213693951) (fun (x1:Int)=>(if (x1 !=0) then (fx,0,x1) else (ab (fk ({d:=d_,full:=false}:bM) q) (fun (x8:(Int×bM))=>(ab (bS (x8.2)) (fun (x11:(bm×Int×bM))=>(x11.1,x8.1,x11.2.1))))))))
def br (v:ar):(Int×ar):=
 (if (v.e !=0) then (0,v) else (ab (iA (v.d) (v.g.Q)) (fun (x4:(bm×Int×Int))=>(x4.2.1,({g:=v.g,d:=x4.1,e:=x4.2.2}:ar)))))
mutual
def bn:ar→aa→Int→av×ar
 | v,⟨k,r,l⟩,c=>if k=1 then (if (bV v (bf ⟨k,r,l⟩)).2.e=0 then (⟨c,(ko (bV v (bf ⟨k,r,l⟩)).2.g r c (bV v (bf ⟨k,r,l⟩)).1).1,[]⟩,{(bV v (bf ⟨k,r,l⟩)).2 with e:=(ko (bV v (bf ⟨k,r,l⟩)).2.g r c (bV v (bf ⟨k,r,l⟩)).1).2}) else (⟨c,dZ,[]⟩,(bV v (bf ⟨k,r,l⟩)).2))
  else (⟨c,dZ,(du v k l c c [] 0 (l.length:Int)).1⟩,(du v k l c c [] 0 (l.length:Int)).2)
def du:ar→Int→List aa→Int→Int→List av→Int→Int→List av×ar
 | v,_,[],_,_,m,_,_=>(m,v)
 | v,k,f::l,c,a,m,i,n=>if k=3 then (if i<n - 1 then du (bn (br v).2 f (br v).1).2 k l c (aO .i64 (ao .i64 (ap .i64 a (br v).1) (br v).2.g.Q) (br v).2.g.Q) (m++[(bn (br v).2 f (br v).1).1]) (i+1) n
   else du (bn v f a).2 k l c (aO .i64 (ao .i64 (ap .i64 a a) v.g.Q) v.g.Q) (m++[(bn v f a).1]) (i+1) n)
  else du (bn v f c).2 k l c a (m++[(bn v f c).1]) (i+1) n
end
def js (v:ar) (f_:aa) (c_:Int):(av×ar):=
 (if (f_.Kind==1) then (ab (bf f_) (fun (x3:Int)=>(ab (bV v x3) (fun (x6:((List Int)×ar))=>(if (x6.2.e==0) then (ab (ko (x6.2.g) (f_.Relation) c_ (x6.1)) (fun (x12:(dg×Int))=>(({C:=c_,P:=x12.1,L:=([]:List av)}:av),({g:=x6.2.g,d:=x6.2.d,e:=x12.2}:ar)))) else (({C:=c_,P:=dZ,L:=([]:List av)}:av),x6.2)))))) else (ah (((f_.L.length:Int) - 0).toNat+1) (fun (ag16:(Int×Int×ar×List av)→(av×ar)) (p16:Int×Int×ar×List av)=>(if (decide (p16.2.1<(f_.L.length:Int))) then (if (f_.Kind==3) then (dD (fun (p22:Int×ar)=>(ab (bn (p22.2) (gt f_.L p16.2.1) (p22.1)) (fun (x23:(av×ar))=>(ag16 ((aO .i64 (ao .i64 (ap .i64 p16.1 p22.1) p22.2.g.Q) p22.2.g.Q),(p16.2.1+1),x23.2,(p16.2.2.2++([x23.1]:List av))))))) (fun j22=>(if (decide (p16.2.1<((f_.L.length:Int) - 1))) then (ab (br (p16.2.2.1)) (fun (x29:(Int×ar))=>(j22 (x29.1,x29.2)))) else (j22 (p16.1,p16.2.2.1))))) else (ab (bn (p16.2.2.1) (gt f_.L p16.2.1) c_) (fun (x35:(av×ar))=>(ag16 (p16.1,(p16.2.1+1),x35.2,(p16.2.2.2++([x35.1]:List av))))))) else (({C:=c_,P:=dZ,L:=p16.2.2.2}:av),p16.2.2.1))) (fun _=>default) (c_,0,v,([]:List av))))
def iB (g:ak) (f_:aa) (c:Int) (d_:bm):(av×bm×Int):=
 (dD (fun (p1:ar)=>(dD (fun (p2:ar×av)=>(if (p2.1.e !=0) then (eE,fx,p2.1.e) else (p2.2,p2.1.d,0))) (fun j2=>(if (p1.e==0) then (ab (bn p1 f_ c) (fun (x8:(av×ar))=>(j2 (x8.2,x8.1)))) else (j2 (p1,eE)))))) (fun j1=>(ab (bD g f_) (fun (x12:Bool)=>(if (!x12) then (j1 ({g:=g,d:=d_,e:=1}:ar)) else (ab (gm d_) (fun (x19:Bool)=>(if (!x19) then (j1 ({g:=g,d:=d_,e:=1}:ar)) else (ab (gU g c) (fun (x25:Bool)=>(if (!x25) then (j1 ({g:=g,d:=d_,e:=2}:ar)) else (j1 ({g:=g,d:=d_,e:=0}:ar)))))))))))))
def gY (g:ak) (r_:aF) (p_:dg):Bool:=
 (ab (bU g r_) (fun (x1:Bool)=>(if (!x1) then false else (if ((p_.A.length:Int) !=(r_.Y.length:Int)) then false else (ab (cv r_) (fun (x8:Int)=>(if ((p_.Z.length:Int) !=x8) then false else (ab (gV g ([p_.C]:List Int)) (fun (x12:Bool)=>(if (!x12) then false else (ab (gV g (p_.Z)) (fun (x16:Bool)=>(if (!x16) then false else (ab (fB g r_ (p_.C) (p_.Z)) (fun (x22:(List Int))=>(ab (jp x22 (p_.A)) (fun (x24:Bool)=>x24)))))))))))))))))
def mG (p_:dg):Bool:=
 (if ((p_.A.length:Int)==0) then (if (p_.C==0) then ((p_.Z.length:Int)==0) else false) else false)
mutual
def fm (CK:aF→dg→Bool) (q:Int):aa→av→Bool
 | ⟨k,r,l⟩,t=>if t.C<0∨q≤t.C then false else if k=1 then (if t.L.length=0∧t.P.C=t.C then CK r t.P else false) else if t.P.A.length=0∧t.P.C=0∧t.P.Z.length=0∧t.L.length=l.length then eT CK q k t.C l t.L 0 else false
def eT (CK:aF→dg→Bool) (q k c:Int):List aa→List av→Int→Bool
 | [],_,s=>if k=2 then true else s==c
 | f::l,m,s=>if fm CK q f (gt m 0)=false then false else if k=2∧(gt m 0).C≠c then false else eT CK q k c l (m.drop 1) (aO .i64 (ao .i64 s (gt m 0).C) q)
end
def eU (g:ak) (f:aa) (t:av):Bool:=fm (gY g) g.Q f t
def qb (g:ak) (f_:aa) (t:av):Bool:=
 (ab (gU g (t.C)) (fun (x1:Bool)=>(if (!x1) then false else (if (f_.Kind==1) then (if ((t.L.length:Int)==0) then (if (t.P.C==t.C) then (ab (gY g (f_.Relation) (t.P)) (fun (x13:Bool)=>x13)) else false) else false) else (ab (mG (t.P)) (fun (x20:Bool)=>(if (!x20) then false else (if ((t.L.length:Int) !=(f_.L.length:Int)) then false else (ah (((f_.L.length:Int) - 0).toNat+1) (fun (ag28:(Int×Int)→Bool) (p28:Int×Int)=>(if (decide (p28.2<(f_.L.length:Int))) then (ab (eU g (gt f_.L p28.2) (gt t.L p28.2)) (fun (x33:Bool)=>(if (!x33) then false else (if (f_.Kind==2) then (if ((gt t.L p28.2).C !=t.C) then false else (ag28 ((aO .i64 (ao .i64 p28.1 (gt t.L p28.2).C) g.Q),(p28.2+1)))) else (ag28 ((aO .i64 (ao .i64 p28.1 (gt t.L p28.2).C) g.Q),(p28.2+1))))))) else (if (f_.Kind==2) then true else (p28.1==t.C)))) (fun _=>default) (0,0))))))))))
def gn (g:ak) (f_:aa) (t:av):Bool:=
 (ab (bD g f_) (fun (x1:Bool)=>(if x1 then (ab (eU g f_ t) (fun (x8:Bool)=>x8)) else false)))
def go (e_:Int):(av×bm×Int):=
 (eE,fx,e_)
def ob (c:Int):Bool:=
 (if (decide (c<33)) then true else (decide (c>126)))
def xk (s:(List Int)):Int:=
 (ah (((s.length:Int) - 0).toNat+1) (fun (ag1:Int→Int) (p1:Int)=>(if (decide (p1<(s.length:Int))) then (ab (ob (gt s p1)) (fun (x5:Bool)=>(if x5 then p1 else (ag1 (p1+1))))) else (-1))) (fun _=>default) 0)
def s9 (s:(List Int)):Bool:=
 (ab (xk s) (fun (x1:Int)=>(decide (x1≥0))))
def kp (label:(List UInt8)):Bool:=
 (if (decide ((label.length:Int)≥1)) then (if (decide ((label.length:Int)≤24)) then (ab (s9 (cX label)) (fun (x5:Bool)=>(!x5))) else false) else false)
def oc (tag:(List UInt8)) (b:(List Int)):((List Int)×Int):=
 (if (decide ((tag.length:Int)<1)) then ([0,0,0,0,0,0,0,0,0,0,0,0,0,0,0,0,0,0,0,0,0,0,0,0,0,0,0,0,0,0,0,0],2) else (if (decide ((tag.length:Int)>100)) then ([0,0,0,0,0,0,0,0,0,0,0,0,0,0,0,0,0,0,0,0,0,0,0,0,0,0,0,0,0,0,0,0],2) else (ab (pZ (cX tag)) (fun (x6:(List Int))=>(ab (s6 (bX 32 x6)) (fun (x9:(List Int))=>(ab (pZ ((x9++(bX 32 x6))++b)) (fun (x12:(List Int))=>(x12,0)))))))))
def jt (label:(List UInt8)):(cc×Int):=
 (ab (kp label) (fun (x1:Bool)=>(if (!x1) then (eO,1) else (ab (oc ([115,112,101,99,105,101,47,116,114,97,110,115,99,114,105,112,116]) (cX label)) (fun (x8:((List Int)×Int))=>(({State:=x8.1,Count:=0}:cc),x8.2))))))
def lu (r_:aF):(List UInt8):=
 (ah (((r_.Y.length:Int) - 0).toNat+1) (fun (ag1:(Int×List (List UInt8))→(List UInt8)) (p1:Int×List (List UInt8))=>(if (decide (p1.1<(r_.Y.length:Int))) then (ab (strconv_Itoa (gt r_.Y p1.1)) (fun (x5:(List UInt8))=>(ah ((((gt r_.Bases p1.1).length:Int) - 0).toNat+1) (fun (ag10:(List UInt8×Int)→(List UInt8)) (p10:List UInt8×Int)=>(if (decide (p10.2<((gt r_.Bases p1.1).length:Int))) then (ab (strconv_Itoa (gt (gt r_.Bases p1.1) p10.2)) (fun (x14:(List UInt8))=>(ag10 ((p10.1++([32]++x14)),(p10.2+1))))) else (ag1 ((p1.1+1),(p1.2++([p10.1]:List (List UInt8))))))) (fun _=>default) ((x5++[32,61]),0)))) else (ab (strings_Join (p1.2) ([44,32])) (fun (x20:(List UInt8))=>(([91]++x20)++[93]))))) (fun _=>default) (0,([]:List (List UInt8))))
mutual
def di:aa→List UInt8
 | ⟨k,r,l⟩=>if k=1 then lu r else if k=3 then (([111,114]++[40])++strings_Join (gp l) [44,32])++[41] else (([97,110,100]++[40])++strings_Join (gp l) [44,32])++[41]
def gp:List aa→List (List UInt8)
 | []=> []
 | f::l=>di f::gp l
end
def qc (f_:aa):(List UInt8):=
 (if (f_.Kind==1) then (ab (lu (f_.Relation)) (fun (x3:(List UInt8))=>x3)) else (ah (((f_.L.length:Int) - 0).toNat+1) (fun (ag8:(Int×List (List UInt8))→(List UInt8)) (p8:Int×List (List UInt8))=>(if (decide (p8.1<(f_.L.length:Int))) then (ab (di (gt f_.L p8.1)) (fun (x12:(List UInt8))=>(ag8 ((p8.1+1),(p8.2++([x12]:List (List UInt8))))))) else (if (f_.Kind==3) then (ab (strings_Join (p8.2) ([44,32])) (fun (x19:(List UInt8))=>((([111,114]++[40])++x19)++[41]))) else (ab (strings_Join (p8.2) ([44,32])) (fun (x24:(List UInt8))=>((([97,110,100]++[40])++x24)++[41])))))) (fun _=>default) (0,([]:List (List UInt8)))))
def lv (f_:aa):((List UInt8)×Int):=
 (ab (jn f_) (fun (x1:Bool)=>(if (!x1) then ([],1) else (ab (di f_) (fun (x8:(List UInt8))=>(if (decide ((x8.length:Int)>8000)) then ([],5) else (x8,0)))))))
def kq (g:ak) (r_:aF) (k_:(List Int)):((List Int)×Int):=
 (ab (fS g r_ k_ ([]:List Int)) (fun (x1:Int)=>(if (x1 !=0) then (([]:List Int),x1) else (ab (dF g (r_.Bases) k_) (fun (x7:(List Int))=>(x7,0))))))
def od (p_:aa) (c0:ar) (c1:(List Int)):(Bool×ar):=
 (ab (bR (c0.g) p_ c1) (fun (x1:Bool)=>(x1,c0)))
def eg (g:ak):List aa→List Int→Int→Int
 | [],_,_=> -1
 | f::l,x,i=>if bR g f x=true then i else eg g l x (i+1)
mutual
def aL:ar→aa→List Int→aG×ar
 | v,⟨k,r,l⟩,x=>if k=1 then (if (bV v (bf ⟨k,r,l⟩)).2.e=0 then (⟨⟨k,r,l⟩,⟨0,⟨(kq (bV v (bf ⟨k,r,l⟩)).2.g r (bV v (bf ⟨k,r,l⟩)).1).1,0,[]⟩,[]⟩,(bV v (bf ⟨k,r,l⟩)).1,[],0,false⟩,{(bV v (bf ⟨k,r,l⟩)).2 with e:=(kq (bV v (bf ⟨k,r,l⟩)).2.g r (bV v (bf ⟨k,r,l⟩)).1).2}) else (⟨⟨k,r,l⟩,eE,(bV v (bf ⟨k,r,l⟩)).1,[],0,false⟩,(bV v (bf ⟨k,r,l⟩)).2))
  else if k=2 then (⟨⟨k,r,l⟩,eE,[],(eG v l x []).1,0,false⟩,(eG v l x []).2)
  else (⟨⟨k,r,l⟩,eE,[],(eh v l x (eg v.g l x 0) 0 []).1,eg v.g l x 0,false⟩,(eh v l x (eg v.g l x 0) 0 []).2)
def eG:ar→List aa→List Int→List aG→List aG×ar
 | v,[],_,m=>(m,v)
 | v,f::l,x,m=>eG (aL v f x).2 l x (m++[(aL v f x).1])
def eh:ar→List aa→List Int→Int→Int→List aG→List aG×ar
 | v,[],_,_,_,m=>(m,v)
 | v,f::l,x,j,i,m=>if i=j then eh (aL v f x).2 l x j (i+1) (m++[(aL v f x).1])
  else eh (bn (br v).2 f (br v).1).2 l x j (i+1) (m++[⟨f,(bn (br v).2 f (br v).1).1,[],[],0,true⟩])
end
def lw (s_:(List aa)) (f__c0:ar) (f__c1:(List Int)):(Int×ar):=
 (ah (((s_.length:Int) - 0).toNat+1) (fun (ag1:(Int×ar)→(Int×ar)) (p1:Int×ar)=>(if (decide (p1.1<(s_.length:Int))) then (ab (od (gt s_ p1.1) (p1.2) f__c1) (fun (x5:(Bool×ar))=>(if x5.1 then (p1.1,x5.2) else (ag1 ((p1.1+1),x5.2))))) else ((-1),p1.2))) (fun _=>default) (0,f__c0))
def eH (v:ar) (f_:aa) (x_:(List Int)):(aG×ar):=
 (if (f_.Kind==1) then (ab (bf f_) (fun (x3:Int)=>(ab (bV v x3) (fun (x5:((List Int)×ar))=>(if (x5.2.e==0) then (ab (kq (x5.2.g) (f_.Relation) (x5.1)) (fun (x10:((List Int)×Int))=>(({f:=f_,t:=({C:=0,P:=({A:=x10.1,C:=0,Z:=([]:List Int)}:dg),L:=([]:List av)}:av),k:=x5.1,parts:=([]:List aG),chosen:=0,done:=false}:aG),({g:=x5.2.g,d:=x5.2.d,e:=x10.2}:ar)))) else (({f:=f_,t:=eE,k:=x5.1,parts:=([]:List aG),chosen:=0,done:=false}:aG),x5.2)))))) else (if (f_.Kind==2) then (ah (((f_.L.length:Int) - 0).toNat+1) (fun (ag16:(Int×ar×List aG)→(aG×ar)) (p16:Int×ar×List aG)=>(if (decide (p16.1<(f_.L.length:Int))) then (ab (aL (p16.2.1) (gt f_.L p16.1) x_) (fun (x20:(aG×ar))=>(ag16 ((p16.1+1),x20.2,(p16.2.2++([x20.1]:List aG)))))) else (({f:=f_,t:=eE,k:=([]:List Int),parts:=p16.2.2,chosen:=0,done:=false}:aG),p16.2.1))) (fun _=>default) (0,v,([]:List aG))) else (ab (lw (f_.L) v x_) (fun (x25:(Int×ar))=>(ah (((f_.L.length:Int) - 0).toNat+1) (fun (ag29:(Int×ar×List aG)→(aG×ar)) (p29:Int×ar×List aG)=>(if (decide (p29.1<(f_.L.length:Int))) then (if (p29.1==x25.1) then (ab (aL (p29.2.1) (gt f_.L p29.1) x_) (fun (x35:(aG×ar))=>(ag29 ((p29.1+1),x35.2,(p29.2.2++([x35.1]:List aG)))))) else (ab (br (p29.2.1)) (fun (x39:(Int×ar))=>(ab (bn (x39.2) (gt f_.L p29.1) (x39.1)) (fun (x42:(av×ar))=>(ag29 ((p29.1+1),x42.2,(p29.2.2++([({f:=(gt f_.L p29.1),t:=x42.1,k:=([]:List Int),parts:=([]:List aG),chosen:=0,done:=true}:aG)]:List aG))))))))) else (({f:=f_,t:=eE,k:=([]:List Int),parts:=p29.2.2,chosen:=x25.1,done:=false}:aG),p29.2.1))) (fun _=>default) (0,x25.2,([]:List aG)))))))
mutual
def dv:aa→av→List (List Int)
 | ⟨k,_,l⟩,t=>if k=1 then [t.P.A] else fC l t.L
def fC:List aa→List av→List (List Int)
 | [],_=> []
 | f::l,m=>dv f (gt m 0)++fC l (m.drop 1)
end
def qd (f_:aa) (t:av):(List (List Int)):=
 (if (f_.Kind==1) then ([t.P.A]:List (List Int)) else (ah (((f_.L.length:Int) - 0).toNat+1) (fun (ag4:(Int×List (List Int))→(List (List Int))) (p4:Int×List (List Int))=>(if (decide (p4.1<(f_.L.length:Int))) then (ab (dv (gt f_.L p4.1) (gt t.L p4.1)) (fun (x9:(List (List Int)))=>(ag4 ((p4.1+1),(p4.2++x9))))) else p4.2)) (fun _=>default) (0,([]:List (List Int)))))
mutual
def fD:aG→Nat
 | ⟨_,_,_,l,_,_⟩=>1+tc l
def tc:List aG→Nat
 | []=>0
 | w::l=>fD w+tc l
end
mutual
def dj:aG→List (List Int)
 | ⟨f,t,_,l,_,d⟩=>if d=true then dv f t else if f.Kind=1 then [t.P.A] else fE l
def fE:List aG→List (List Int)
 | []=> []
 | w::l=>dj w++fE l
end
def qe (w:aG):(List (List Int)):=
 (if w.done then (ab (dv (w.f) (w.t)) (fun (x3:(List (List Int)))=>x3)) else (if (w.f.Kind==1) then ([w.t.P.A]:List (List Int)) else (ah (((w.parts.length:Int) - 0).toNat+1) (fun (ag10:(Int×List (List Int))→(List (List Int))) (p10:Int×List (List Int))=>(if (decide (p10.1<(w.parts.length:Int))) then (ab (dj (gt w.parts p10.1)) (fun (x14:(List (List Int)))=>(ag10 ((p10.1+1),(p10.2++x14))))) else p10.2)) (fun _=>default) (0,([]:List (List Int))))))
def td (t:cc):Bool:=
 (if (decide (t.Count≥0)) then (decide (t.Count≤1000)) else false)
def mH (x_:aJ) (c0:Int):Bool:=
 (ab (gQ x_ (c0 - 1)) (fun (x2:Bool)=>(!x2)))
def te (s:(List aJ)) (f__c0:Int):Int:=
 (ah (((s.length:Int) - 0).toNat+1) (fun (ag1:Int→Int) (p1:Int)=>(if (decide (p1<(s.length:Int))) then (ab (mH (gt s p1) f__c0) (fun (x5:Bool)=>(if x5 then p1 else (ag1 (p1+1))))) else (-1))) (fun _=>default) 0)
def og (s:(List aJ)) (f__c0:Int):Bool:=
 (ab (te s f__c0) (fun (x1:Int)=>(decide (x1≥0))))
def qf (i_:aJ) (depth:Int):Bool:=
 (if (i_.Kind==1) then (if ((i_.B.length:Int)==0) then ((i_.L.length:Int)==0) else false) else (if (i_.Kind==2) then (if (i_.N==0) then ((i_.L.length:Int)==0) else false) else (if (i_.Kind==3) then (if (i_.N==0) then (if ((i_.B.length:Int)==0) then (if (decide (depth>0)) then (if (decide ((i_.L.length:Int)≤1000)) then (ab (og (i_.L) depth) (fun (x23:Bool)=>(!x23))) else false) else false) else false) else false) else false)))
def xl (i_:aJ):Bool:=
 (ab (gQ i_ 8) (fun (x1:Bool)=>x1))
def kr (out:(List Int)) (n_:Int) (size:Int):(List Int):=
 (ah (((size - 1)+1).toNat+1) (fun (ag2:(Int×List Int)→(List Int)) (p2:Int×List Int)=>(if (decide (p2.1≥0)) then (ag2 ((p2.1 - 1),(p2.2++([(al .u8 (aB .u64 n_ (8*p2.1)))]:List Int)))) else p2.2)) (fun _=>default) ((size - 1),out))
def qg (out:(List Int)) (i_:aJ):(List Int):=
 (if (decide ((out.length:Int)>16384)) then out else (if (i_.Kind==1) then (ab (kr (out++([(al .u8 i_.Kind)]:List Int)) (al .u64 i_.N) 8) (fun (x6:(List Int))=>x6)) else (if (i_.Kind==2) then (ab (kr (out++([(al .u8 i_.Kind)]:List Int)) (al .u64 (i_.B.length:Int)) 4) (fun (x13:(List Int))=>(x13++i_.B))) else (ab (kr (out++([(al .u8 i_.Kind)]:List Int)) (al .u64 (i_.L.length:Int)) 4) (fun (x17:(List Int))=>(ah (((i_.L.length:Int) - 0).toNat+1) (fun (ag21:(Int×List Int)→(List Int)) (p21:Int×List Int)=>(if (decide (p21.1<(i_.L.length:Int))) then (ab (gR (p21.2) (gt i_.L p21.1)) (fun (x25:(List Int))=>(ag21 ((p21.1+1),x25)))) else p21.2)) (fun _=>default) (0,x17)))))))
def mI (i_:aJ):((List Int)×Int):=
 (ab (xl i_) (fun (x1:Bool)=>(if (!x1) then (([]:List Int),1) else (ab (gR ([]:List Int) i_) (fun (x7:(List Int))=>(if (decide ((x7.length:Int)>16384)) then (([]:List Int),5) else (x7,0)))))))
def mJ (tag:(List UInt8)) (t:cc) (label:(List UInt8)) (more:(List aJ)):((List Int)×Int):=
 (ab (mI ({Kind:=3,N:=0,B:=([]:List Int),L:=(([({Kind:=2,N:=0,B:=(bX 32 t.State),L:=([]:List aJ)}:aJ),({Kind:=2,N:=0,B:=(cX label),L:=([]:List aJ)}:aJ)]:List aJ)++more)}:aJ)) (fun (x1:((List Int)×Int))=>(if (x1.2 !=0) then ([0,0,0,0,0,0,0,0,0,0,0,0,0,0,0,0,0,0,0,0,0,0,0,0,0,0,0,0,0,0,0,0],x1.2) else (ab (oc tag (x1.1)) (fun (x8:((List Int)×Int))=>(x8.1,x8.2))))))
def oh (t:cc) (label:(List UInt8)) (i_:aJ):(cc×Int):=
 (ab (td t) (fun (x1:Bool)=>(if (!x1) then (eO,1) else (ab (kp label) (fun (x6:Bool)=>(if (!x6) then (eO,1) else (ab (mJ ([115,112,101,99,105,101,47,97,98,115,111,114,98]) t label ([i_]:List aJ)) (fun (x13:((List Int)×Int))=>(if (x13.2==1) then (eO,1) else (if (x13.2 !=0) then (eO,5) else (if (t.Count==1000) then (eO,5) else (({State:=x13.1,Count:=(ao .i64 t.Count 1)}:cc),0))))))))))))
def ju (name:(List UInt8)) (i_:aJ) (c0:Int) (c1:cc):(Int×cc):=
 (if (c0==0) then (ab (oh c1 name i_) (fun (x3:(cc×Int))=>(x3.2,x3.1))) else (c0,c1))
def jv (l:(List Int)):aJ:=
 (ah (((l.length:Int) - 0).toNat+1) (fun (ag1:(Int×List aJ)→aJ) (p1:Int×List aJ)=>(if (decide (p1.1<(l.length:Int))) then (ag1 ((p1.1+1),(p1.2++([({Kind:=1,N:=(gt l p1.1),B:=([]:List Int),L:=([]:List aJ)}:aJ)]:List aJ)))) else ({Kind:=3,N:=0,B:=([]:List Int),L:=p1.2}:aJ))) (fun _=>default) (0,([]:List aJ)))
def mK (a_:Int) (b:Int) (m:Int):(Int×Int):=
 (ab (iz a_ b m) (fun (x1:Int)=>(if (x1 !=0) then (0,x1) else ((aO .i64 (ao .i64 a_ b) m),0))))
def mL (h_:(List Int)) (m:Int):(Int×Int):=
 (if (decide (m<1)) then (0,1) else (if (decide (m≥2305843009213693952)) then (0,1) else (ah (((16:Int) - 0).toNat+1) (fun (ag6:(Int×Int)→(Int×Int)) (p6:Int×Int)=>(if (decide (p6.2<(16:Int))) then (ah (((8:Int) - 0).toNat+1) (fun (ag10:(Int×Int)→(Int×Int)) (p10:Int×Int)=>(if (decide (p10.2<8)) then (ab (mK (p10.1) (p10.1) m) (fun (x13:(Int×Int))=>(ag10 (x13.1,(p10.2+1))))) else (ab (mK (p10.1) (aO .i64 (al .i64 (gt ([(gt h_ 0),(gt h_ 1),(gt h_ 2),(gt h_ 3),(gt h_ 4),(gt h_ 5),(gt h_ 6),(gt h_ 7),(gt h_ 8),(gt h_ 9),(gt h_ 10),(gt h_ 11),(gt h_ 12),(gt h_ 13),(gt h_ 14),(gt h_ 15)]:List Int) p6.2)) m) m) (fun (x17:(Int×Int))=>(ag6 (x17.1,(p6.2+1))))))) (fun _=>default) (p6.1,0)) else (p6.1,0))) (fun _=>default) (0,0))))
def lx (t:cc) (label:(List UInt8)) (q:Int):(cc×Int×Int):=
 (ab (td t) (fun (x1:Bool)=>(if (!x1) then (eO,0,1) else (ab (kp label) (fun (x6:Bool)=>(if (!x6) then (eO,0,1) else (if (decide (q<2)) then (eO,0,2) else (if (decide (q≥2305843009213693952)) then (eO,0,2) else (if (t.Count==1000) then (eO,0,5) else (ab (mJ ([115,112,101,99,105,101,47,99,104,97,108,108,101,110,103,101]) t label ([]:List aJ)) (fun (x21:((List Int)×Int))=>(if (x21.2 !=0) then (eO,0,x21.2) else (ab (mL (x21.1) q) (fun (x27:(Int×Int))=>(if (x27.2 !=0) then (eO,0,x27.2) else (ab (oh t label ({Kind:=1,N:=x27.1,B:=([]:List Int),L:=([]:List aJ)}:aJ)) (fun (x33:(cc×Int))=>(if (x33.2 !=0) then (eO,0,x33.2) else (x33.1,x27.1,0)))))))))))))))))))
def iC (g:ak) (text:(List UInt8)) (label:(List UInt8)) (l:(List (List Int))):(Int×Int):=
 (ab (jt label) (fun (x1:(cc×Int))=>(ab (jv ([g.P,g.Q,g.G]:List Int)) (fun (x4:aJ)=>(ab (ju ([103,114,111,117,112]) x4 (x1.2) (x1.1)) (fun (x8:(Int×cc))=>(ab (ju ([102,111,114,109,117,108,97]) ({Kind:=2,N:=0,B:=(cX text),L:=([]:List aJ)}:aJ) (x8.1) (x8.2)) (fun (x11:(Int×cc))=>(ah (((l.length:Int) - 0).toNat+1) (fun (ag14:(Int×cc×Int)→(Int×Int)) (p14:Int×cc×Int)=>(if (decide (p14.1<(l.length:Int))) then (ab (jv (gt l p14.1)) (fun (x18:aJ)=>(ab (ju ([99,111,109,109,105,116]) x18 (p14.2.2) (p14.2.1)) (fun (x22:(Int×cc))=>(ag14 ((p14.1+1),x22.2,x22.1)))))) else (if (p14.2.2 !=0) then (0,p14.2.2) else (ab (lx (p14.2.1) ([99,104,97,108,108,101,110,103,101]) (g.Q)) (fun (x29:(cc×Int×Int))=>(x29.2.1,x29.2.2)))))) (fun _=>default) (0,x11.2,x11.1))))))))))
def mM (g:ak) (k_:(List Int)) (c:Int) (x_:(List Int)):((List Int)×Int):=
 (ab (gg g) (fun (x1:Bool)=>(if (!x1) then (([]:List Int),1) else (if (decide ((k_.length:Int)<1)) then (([]:List Int),1) else (if (decide ((k_.length:Int)>12)) then (([]:List Int),1) else (if ((x_.length:Int) !=(k_.length:Int)) then (([]:List Int),1) else (ab (gV g k_) (fun (x14:Bool)=>(if (!x14) then (([]:List Int),2) else (ab (gV g x_) (fun (x19:Bool)=>(if (!x19) then (([]:List Int),2) else (ab (gV g ([c]:List Int)) (fun (x24:Bool)=>(if (!x24) then (([]:List Int),2) else (ah (((k_.length:Int) - 0).toNat+1) (fun (ag30:(Int×List Int)→((List Int)×Int)) (p30:Int×List Int)=>(if (decide (p30.1<(k_.length:Int))) then (ab (mE c (gt x_ p30.1) (g.Q)) (fun (x34:(Int×Int))=>(ag30 ((p30.1+1),(p30.2++([(aO .i64 (ao .i64 (gt k_ p30.1) x34.1) g.Q)]:List Int)))))) else (p30.2,0))) (fun _=>default) (0,([]:List Int))))))))))))))))))
def iD (q:Int):List aG→Int→Int→Int→Int
 | [],_,_,a=>a
 | w::l,i,j,a=>iD q l (i+1) j (if i≠j then aO .i64 (ao .i64 (ap .i64 a w.t.C) q) q else a)
mutual
def bH:ar→aG→Int→List Int→av×ar
 | v,⟨f,t,k,l,h,d⟩,c,x=>if d=true then (t,v) else if f.Kind=1 then (if v.e=0 then (⟨c,⟨t.P.A,c,(mM v.g k c (sl x 0 (k.length:Int))).1⟩,[]⟩,{v with e:=(mM v.g k c (sl x 0 (k.length:Int))).2}) else (⟨c,⟨t.P.A,c,[]⟩,[]⟩,v))
  else if f.Kind=2 then (⟨c,dZ,(c8 v l c x []).1⟩,(c8 v l c x []).2) else (⟨c,dZ,(c8 v l (iD v.g.Q l 0 h c) x []).1⟩,(c8 v l (iD v.g.Q l 0 h c) x []).2)
def c8:ar→List aG→Int→List Int→List av→List av×ar
 | v,[],_,_,m=>(m,v)
 | v,w::l,c,x,m=>c8 (bH v w c x).2 l c x (m++[(bH v w c x).1])
end
def jw (v:ar) (w_:aG) (c_:Int) (x_:(List Int)):(av×ar):=
 (if w_.done then (w_.t,v) else (if (w_.f.Kind==1) then (if (v.e==0) then (ab (mM (v.g) (w_.k) c_ (sl x_ 0 (w_.k.length:Int))) (fun (x8:((List Int)×Int))=>(({C:=c_,P:=({A:=w_.t.P.A,C:=c_,Z:=x8.1}:dg),L:=([]:List av)}:av),({g:=v.g,d:=v.d,e:=x8.2}:ar)))) else (({C:=c_,P:=({A:=w_.t.P.A,C:=c_,Z:=([]:List Int)}:dg),L:=([]:List av)}:av),v)) else (if (w_.f.Kind==2) then (ah (((w_.parts.length:Int) - 0).toNat+1) (fun (ag14:(Int×ar×List av)→(av×ar)) (p14:Int×ar×List av)=>(if (decide (p14.1<(w_.parts.length:Int))) then (ab (bH (p14.2.1) (gt w_.parts p14.1) c_ x_) (fun (x18:(av×ar))=>(ag14 ((p14.1+1),x18.2,(p14.2.2++([x18.1]:List av)))))) else (({C:=c_,P:=dZ,L:=p14.2.2}:av),p14.2.1))) (fun _=>default) (0,v,([]:List av))) else (ah (((w_.parts.length:Int) - 0).toNat+1) (fun (ag23:(Int×Int)→(av×ar)) (p23:Int×Int)=>(if (decide (p23.2<(w_.parts.length:Int))) then (if (p23.2 !=w_.chosen) then (ag23 ((aO .i64 (ao .i64 (ap .i64 p23.1 (gt w_.parts p23.2).t.C) v.g.Q) v.g.Q),(p23.2+1))) else (ag23 (p23.1,(p23.2+1)))) else (ah (((w_.parts.length:Int) - 0).toNat+1) (fun (ag31:(Int×ar×List av)→(av×ar)) (p31:Int×ar×List av)=>(if (decide (p31.1<(w_.parts.length:Int))) then (ab (bH (p31.2.1) (gt w_.parts p31.1) (p23.1) x_) (fun (x35:(av×ar))=>(ag31 ((p31.1+1),x35.2,(p31.2.2++([x35.1]:List av)))))) else (({C:=c_,P:=dZ,L:=p31.2.2}:av),p31.2.1))) (fun _=>default) (0,v,([]:List av))))) (fun _=>default) (c_,0)))))
def oi (g:ak) (f_:aa) (x_:(List Int)) (label:(List UInt8)) (d_:bm):(av×bm×Int):=
 (ab (jt label) (fun (x1:(cc×Int))=>(if (x1.2 !=0) then (ab (go 1) (fun (x93:(av×bm×Int))=>(x93.1,x93.2.1,x93.2.2))) else (ab (bD g f_) (fun (x6:Bool)=>(if (!x6) then (ab (go 1) (fun (x89:(av×bm×Int))=>(x89.1,x89.2.1,x89.2.2))) else (ab (gm d_) (fun (x13:Bool)=>(if (!x13) then (ab (go 1) (fun (x85:(av×bm×Int))=>(x85.1,x85.2.1,x85.2.2))) else (ab (bf f_) (fun (x18:Int)=>(if ((x_.length:Int) !=x18) then (ab (go 1) (fun (x23:(av×bm×Int))=>(x23.1,x23.2.1,x23.2.2))) else (ab (nT g x_) (fun (x27:Bool)=>(if (!x27) then (ab (go 2) (fun (x32:(av×bm×Int))=>(x32.1,x32.2.1,x32.2.2))) else (ab (bR g f_ x_) (fun (x36:Bool)=>(if (!x36) then (ab (go 11) (fun (x41:(av×bm×Int))=>(x41.1,x41.2.1,x41.2.2))) else (ab (lv f_) (fun (x45:((List UInt8)×Int))=>(if (x45.2 !=0) then (ab (go (x45.2)) (fun (x51:(av×bm×Int))=>(x51.1,x51.2.1,x51.2.2))) else (ab (aL ({g:=g,d:=d_,e:=0}:ar) f_ x_) (fun (x55:(aG×ar))=>(if (x55.2.e !=0) then (ab (go (x55.2.e)) (fun (x60:(av×bm×Int))=>(x60.1,x60.2.1,x60.2.2))) else (ab (dj (x55.1)) (fun (x64:(List (List Int)))=>(ab (iC g (x45.1) label x64) (fun (x67:(Int×Int))=>(if (x67.2 !=0) then (ab (go (x67.2)) (fun (x71:(av×bm×Int))=>(x71.1,x71.2.1,x71.2.2))) else (ab (bH (x55.2) (x55.1) (x67.1) x_) (fun (x75:(av×ar))=>(if (x75.2.e !=0) then (ab (go (x75.2.e)) (fun (x80:(av×bm×Int))=>(x80.1,x80.2.1,x80.2.2))) else (x75.1,x75.2.d,0)))))))))))))))))))))))))))))))))
def qh (f_:aa):Int:=
 (if (f_.Kind==1) then (ab (dG (f_.Relation)) (fun (x3:Int)=>x3)) else (ah (((f_.L.length:Int) - 0).toNat+1) (fun (ag7:(Int×Int)→Int) (p7:Int×Int)=>(if (decide (p7.2<(f_.L.length:Int))) then (ab (bf (gt f_.L p7.2)) (fun (x11:Int)=>(ag7 ((b_ p7.1 x11),(p7.2+1))))) else p7.1)) (fun _=>default) (0,0)))
def fo (g:ak) (l:(List Int)):Bool:=
 (ah (((l.length:Int) - 0).toNat+1) (fun (ag1:Int→Bool) (p1:Int)=>(if (decide (p1<(l.length:Int))) then (if (decide ((gt l p1)<0)) then false else (if (decide ((gt l p1)≥g.Q)) then false else (ag1 (p1+1)))) else true)) (fun _=>default) 0)
def ol (x_:(List Int)) (n_:Int):(List Int):=
 (ah ((n_ - 0).toNat+1) (fun (ag1:(Int×List Int)→(List Int)) (p1:Int×List Int)=>(if (decide (p1.1<n_)) then (ag1 ((p1.1+1),(p1.2++([(gt x_ p1.1)]:List Int)))) else p1.2)) (fun _=>default) (0,([]:List Int)))
def qi (g:ak) (bases:(List Int)) (exps:(List Int)):Int:=
 (ah (((bases.length:Int) - 0).toNat+1) (fun (ag1:(Int×Int)→Int) (p1:Int×Int)=>(if (decide (p1.2<(bases.length:Int))) then (ab (ef (gt bases p1.2) (gt exps p1.2) (g.P)) (fun (x6:Int)=>(ab (eQ (p1.1) x6 (g.P)) (fun (x9:Int)=>(ag1 (x9,(p1.2+1))))))) else p1.1)) (fun _=>default) (1,0))
def qj (g:ak) (r_:aF) (k_:(List Int)):(List Int):=
 (ah (((r_.Y.length:Int) - 0).toNat+1) (fun (ag1:(Int×List Int)→(List Int)) (p1:Int×List Int)=>(if (decide (p1.1<(r_.Y.length:Int))) then (ab (qi g (gt r_.Bases p1.1) k_) (fun (x5:Int)=>(ag1 ((p1.1+1),(p1.2++([x5]:List Int)))))) else p1.2)) (fun _=>default) (0,([]:List Int)))
def tf (a_:(List Int)) (b:(List Int)):Bool:=
 (if ((a_.length:Int) !=(b.length:Int)) then false else (ah (((a_.length:Int) - 0).toNat+1) (fun (ag4:Int→Bool) (p4:Int)=>(if (decide (p4<(a_.length:Int))) then (if ((gt a_ p4) !=(gt b p4)) then false else (ag4 (p4+1))) else true)) (fun _=>default) 0))
def om (g:ak) (r_:aF) (x_:(List Int)):Bool:=
 (ab (eR g r_) (fun (x1:Bool)=>(if x1 then (ab (dG r_) (fun (x6:Int)=>(if ((x_.length:Int)==x6) then (ab (fo g x_) (fun (x10:Bool)=>(if x10 then (ab (qj g r_ x_) (fun (x15:(List Int))=>(ab (tf x15 (r_.Y)) (fun (x17:Bool)=>x17)))) else false))) else false))) else false)))
mutual
def gZ (g:ak):aa→List Int→Bool
 | ⟨k,r,l⟩,x=>if k=1 then om g r (ol x (dG r)) else if k=2 then (iE g l x false true).2 else (iE g l x false true).1
def iE (g:ak):List aa→List Int→Bool→Bool→Bool×Bool
 | [],_,a,b=>(a,b)
 | f::l,x,a,b=>if gZ g f x=true then iE g l x true b else iE g l x a false
end
def qk (g:ak) (f_:aa) (x_:(List Int)):Bool:=
 (if (f_.Kind==1) then (ab (dG (f_.Relation)) (fun (x3:Int)=>(ab (ol x_ x3) (fun (x5:(List Int))=>(ab (om g (f_.Relation) x5) (fun (x7:Bool)=>x7)))))) else (ah (((f_.L.length:Int) - 0).toNat+1) (fun (ag11:(Bool×Bool×Int)→Bool) (p11:Bool×Bool×Int)=>(if (decide (p11.2.2<(f_.L.length:Int))) then (ab (gZ g (gt f_.L p11.2.2) x_) (fun (x15:Bool)=>(if x15 then (ag11 (true,p11.2.1,(p11.2.2+1))) else (ag11 (p11.1,false,(p11.2.2+1)))))) else (if (f_.Kind==2) then p11.2.1 else p11.1))) (fun _=>default) (false,true,0)))
def jx (g:ak) (f_:aa) (x_:(List Int)):Bool:=
 (ab (dI g f_) (fun (x1:Bool)=>(if x1 then (ab (bf f_) (fun (x8:Int)=>(if ((x_.length:Int)==x8) then (ab (fo g x_) (fun (x13:Bool)=>(if x13 then (ab (gZ g f_ x_) (fun (x19:Bool)=>x19)) else false))) else false))) else false)))
def g7 (s:(List UInt8)):Bool:=
 (if (decide ((s.length:Int)<1)) then false else (if (decide ((s.length:Int)>24)) then false else (ah (((s.length:Int) - 0).toNat+1) (fun (ag6:Int→Bool) (p6:Int)=>(if (decide (p6<(s.length:Int))) then (if (decide (((s.getD p6.toNat 0).toNat:Int)<33)) then false else (if (decide (((s.getD p6.toNat 0).toNat:Int)>126)) then false else (ag6 (p6+1)))) else true)) (fun _=>default) 0)))
def oo (g:ak) (f_:aa) (label:(List UInt8)) (t:av):Bool:=
 (ab (gn g f_ t) (fun (x1:Bool)=>(if (!x1) then false else (ab (lv f_) (fun (x8:((List UInt8)×Int))=>(if (x8.2 !=0) then false else (ab (dv f_ t) (fun (x15:(List (List Int)))=>(ab (iC g (x8.1) label x15) (fun (x19:(Int×Int))=>(if (x19.2==0) then (x19.1==t.C) else false)))))))))))
def tg (g:ak) (f_:aa) (x_:(List Int)) (c:Int) (label:(List UInt8)) (d_:bm):Bool:=
 (ab (sZ) (fun (x1:Bool)=>(if (!x1) then false else (ab (xg f_ ([]:List av)) (fun (x7:Bool)=>(if (!x7) then true else (if (decide ((x_.length:Int)>30)) then true else (if (decide ((label.length:Int)>60)) then true else (ab (dI g f_) (fun (x16:Bool)=>(if (!x16) then true else (ab (iB g f_ (aO .i64 (al .i64 c) g.Q) d_) (fun (x23:(av×bm×Int))=>(dD (fun (p26:Unit)=>(ab (oi g f_ x_ label d_) (fun (x27:(av×bm×Int))=>(if (x27.2.2 !=0) then (if (x27.2.2==1) then true else (if (x27.2.2==5) then true else (ab (jx g f_ x_) (fun (x36:Bool)=>(!x36))))) else (ab (jx g f_ x_) (fun (x42:Bool)=>(if x42 then (ab (g7 label) (fun (x46:Bool)=>(if x46 then (ab (gn g f_ (x27.1)) (fun (x52:Bool)=>(if x52 then (ab (oo g f_ label (x27.1)) (fun (x58:Bool)=>x58)) else false))) else false))) else false))))))) (fun j26=>(if (x23.2.2==0) then (if (x23.1.C !=(aO .i64 (al .i64 c) g.Q)) then false else (ab (gn g f_ (x23.1)) (fun (x65:Bool)=>(if (!x65) then false else (if (decide (x23.2.1.Counter≤d_.Counter)) then false else (j26 ())))))) else (if (x23.2.2 !=1) then (if (x23.2.2 !=5) then false else (j26 ())) else (j26 ()))))))))))))))))))
end Go.Proofs.YtgealhhkngbkbaaGreatDoor
namespace Go.Proofs.YtgealhhkngbkbaaGreatDoor
open Go.RowKit
theorem w64 (a:Int):IntKind.wrap .u64 a=a% 18446744073709551616:=by simp [IntKind.wrap,IntKind.bits,IntKind.signed]
theorem mN {k:IntKind} {x:Int} {n:Int} {m:Nat} (hn:min n.toNat k.bits=m):aB k x n=x/2^m:=by
 unfold aB;rw [hn,Int.fdiv_eq_ediv_of_nonneg];exact Int.le_of_lt (Int.pow_pos (by decide))
theorem ly (x:Int):aB .u64 x 32=x/4294967296:=mN (m:=32) rfl
theorem BL (x:Int):aB .u64 x 58=x/288230376151711744:=mN (m:=58) rfl
theorem cR (x:Int):aB .u64 x 1=x/2:=mN (m:=1) rfl
theorem cY (x:Int):aB .i64 x 1=x/2:=mN (m:=1) rfl
theorem BM {x:Int}:0≤aB .u64 (aX .u64 x 285870213051353865) 58∧aB .u64 (aX .u64 x 285870213051353865) 58<64:=by
 rw [BL];unfold aX;rw [w64];omega
def Kh (x:Int) (l:Nat):Prop:=1≤l∧(2:Int)^(l - 1)≤x∧x<2^l
theorem Ki (x:Nat):1≤x→x<2^64→1≤Lib.bitLen x∧2^(Lib.bitLen x - 1)≤x∧x<2^Lib.bitLen x:=by
 induction x using Nat.strongRecOn with
 | ind x ih=>
  intro h0 h1
  by_cases h:x=1
  ·subst h;decide
  ·obtain ⟨a1,a2,a3⟩:=ih (x/2) (by omega) (by omega) (by omega)
   rw [Lib.bitLen_half x (by omega) h1]
   generalize Lib.bitLen (x/2)=l at a1 a2 a3
   obtain ⟨l,rfl⟩: ∃k,l=k+1:=⟨l - 1,by omega⟩
   refine ⟨by omega,?_,?_⟩
   ·rw [show 1+(l+1) - 1=l+1 by omega,Nat.pow_succ]
    simp only [Nat.add_sub_cancel] at a2
    omega
   ·rw [show 1+(l+1)=(l+1)+1 by omega,Nat.pow_succ]
    omega
theorem Kj {x:Int} (h0:1≤x) (h1:x≤18446744073709551615): ∃l:Nat,kh x=l∧Kh x l∧l≤64:=by
 obtain ⟨k,rfl⟩:=Int.eq_ofNat_of_zero_le (show 0≤x by omega)
 have hk:k<2^64:=by omega
 obtain ⟨a1,a2,a3⟩:=Ki k (by omega) hk
 exact ⟨Lib.bitLen k,rfl,⟨a1,by exact_mod_cast a2,by exact_mod_cast a3⟩,Lib.bitLen_le k 64 (by decide) hk⟩
theorem BN {x y:Int} (hx:x=mA y) (h0:1≤y) (h1:y≤18446744073709551615):0≤x∧x≤63∧9223372036854775808≤aC .u64 y (al .u64 x)∧aC .u64 y (al .u64 x)=y*2^x.toNat:=by
 obtain ⟨l,e1,⟨e2,e3,e4⟩,e5⟩:=Kj h0 h1
 have hx2:x=64 - (l:Int):=by
  rw [hx];unfold mA ab;rw [e1];simp only;unfold ap;rw [IntKind.wrap_i64];omega
 have hc:al .u64 x=x:=kV (by omega) (by omega)
 have hn:x.toNat=64 - l:=by omega
 have hm:min (al .u64 x).toNat IntKind.u64.bits=64 - l:=by rw [hc,hn];show min (64 - l) 64=_;omega
 have hp:(2:Int)^l*2^(64 - l)=18446744073709551616:=by rw [←Int.pow_add,show l+(64 - l)=64 by omega];decide
 have hq:(2:Int)^(l - 1)*2^(64 - l)=9223372036854775808:=by rw [←Int.pow_add,show l - 1+(64 - l)=63 by omega];decide
 have h2:(0:Int)<2^(64 - l):=Int.pow_pos (by decide)
 have g1:=Int.mul_le_mul_of_nonneg_right e3 (Int.le_of_lt h2)
 have g2:=Int.mul_lt_mul_of_pos_right e4 h2
 rw [hp] at g2;rw [hq] at g1
 have e:aC .u64 y (al .u64 x)=y*2^x.toNat:=by
  unfold aC;rw [hm,w64,hn];exact Int.emod_eq_of_lt (by omega) g2
 exact ⟨by omega,by omega,by rw [e,hn];exact g1,e⟩
theorem ql {x:Int} (h0:0≤x) (h1:x≤18446744073709551615):bE .u64 x 4294967295=x% 4294967296:=by
 obtain ⟨k,rfl⟩:=Int.eq_ofNat_of_zero_le h0
 unfold bE
 have e1:(BitVec.ofInt IntKind.u64.bits (k:Int)).toNat=k:=by
  show (BitVec.ofInt 64 (k:Int)).toNat=k
  rw [BitVec.toNat_ofInt];omega
 have e2:(BitVec.ofInt IntKind.u64.bits 4294967295).toNat=2^32 - 1:=by decide
 rw [BitVec.toNat_and,e1,e2,Nat.and_two_pow_sub_one_eq_mod,w64]
 omega
theorem mO {a b A:Int} (h1:0≤a) (h2:a≤A) (h3:0≤b) (h4:b≤A):0≤a*b∧a*b≤A*A:=
 ⟨Int.mul_nonneg h1 h3,Int.mul_le_mul h2 h4 h3 (Int.le_trans h1 h2)⟩
theorem dk {a:Int} (h0:0≤a) (h1:a≤18446744073709551615):IntKind.wrap .u64 a=a:=by rw [w64];omega
theorem BO {x y:Int} (hx0:0≤x) (hx1:x≤18446744073709551615) (hy0:0≤y) (hy1:y≤18446744073709551615):lm x y=(x*y/18446744073709551616,x*y% 18446744073709551616):=by
 unfold lm
 rw [ql hx0 hx1,ql hy0 hy1,ly x,ly y]
 obtain ⟨x1,x0,rfl,h1,h2,h3,h4⟩: ∃x1 x0:Int,x=x1*4294967296+x0∧0≤x1∧x1≤4294967295∧0≤x0∧x0≤4294967295:=⟨x/4294967296,x% 4294967296,by omega,by omega,by omega,by omega,by omega⟩
 obtain ⟨y1,y0,rfl,g1,g2,g3,g4⟩: ∃y1 y0:Int,y=y1*4294967296+y0∧0≤y1∧y1≤4294967295∧0≤y0∧y0≤4294967295:=⟨y/4294967296,y% 4294967296,by omega,by omega,by omega,by omega,by omega⟩
 rw [show (x1*4294967296+x0)/4294967296=x1 by omega,show (y1*4294967296+y0)/4294967296=y1 by omega,show (x1*4294967296+x0)% 4294967296=x0 by omega,show (y1*4294967296+y0)% 4294967296=y0 by omega]
 have ea:=mO h1 h2 g1 g2
 have eb:=mO h1 h2 g3 g4
 have ec:=mO h3 h4 g1 g2
 have ed:=mO h3 h4 g3 g4
 have ex:(x1*4294967296+x0)*(y1*4294967296+y0)=x1*y1*18446744073709551616+(x1*y0+x0*y1)*4294967296+x0*y0:=by
  simp only [Int.add_mul,Int.mul_add]
  rw [show x1*4294967296*(y1*4294967296)=x1*y1*18446744073709551616 by rw [Int.mul_assoc,Int.mul_comm 4294967296 (y1*4294967296),Int.mul_assoc y1,←Int.mul_assoc];rfl,show x1*4294967296*y0=x1*y0*4294967296 by rw [Int.mul_assoc,Int.mul_comm 4294967296,←Int.mul_assoc],show x0*(y1*4294967296)=x0*y1*4294967296 by rw [Int.mul_assoc]]
  omega
 have em:aX .u64 (x1*4294967296+x0) (y1*4294967296+y0)=((x1*4294967296+x0)*(y1*4294967296+y0))% 18446744073709551616:=by unfold aX;rw [w64]
 have ma:aX .u64 x1 y1=x1*y1:=dk ea.1 (by omega)
 have mb:aX .u64 x1 y0=x1*y0:=dk eb.1 (by omega)
 have mc:aX .u64 x0 y1=x0*y1:=dk ec.1 (by omega)
 have md:aX .u64 x0 y0=x0*y0:=dk ed.1 (by omega)
 rw [em,ex,ma,mb,mc,md]
 generalize x1*y1=a at ea
 generalize x1*y0=b at eb
 generalize x0*y1=c at ec
 generalize x0*y0=d at ed
 rw [ly d]
 have t1:ao .u64 b (d/4294967296)=b+d/4294967296:=dk (by omega) (by omega)
 rw [t1,ly (b+d/4294967296),ql (by omega) (by omega)]
 have t2:ao .u64 ((b+d/4294967296)% 4294967296) c=(b+d/4294967296)% 4294967296+c:=dk (by omega) (by omega)
 rw [t2,ly]
 have hxy:a*18446744073709551616+(b+c)*4294967296+d≤18446744073709551615*18446744073709551615:=by
  have:=(mO hx0 hx1 hy0 hy1).2
  omega
 have t3:ao .u64 a ((b+d/4294967296)/4294967296)=a+(b+d/4294967296)/4294967296:=dk (by omega) (by omega)
 rw [t3]
 have t4:ao .u64 (a+(b+d/4294967296)/4294967296) (((b+d/4294967296)% 4294967296+c)/4294967296)=a+(b+d/4294967296)/4294967296+((b+d/4294967296)% 4294967296+c)/4294967296:=dk (by omega) (by omega)
 rw [t4]
 congr 1
 omega
theorem Kk {x y:Int} (hx:x=mA y) (h0:1≤y) (h1:y≤18446744073709551615):0≤x∧x≤63∧0≤al .u64 x∧0≤ap .u64 64 (al .u64 x)∧2147483648≤aB .u64 (aC .u64 y (al .u64 x)) 32∧aB .u64 (aC .u64 y (al .u64 x)) 32≤4294967295:=by
 obtain ⟨a1,a2,a3,a4⟩:=BN hx h0 h1
 have h2:aC .u64 y (al .u64 x)≤18446744073709551615:=(qQ .u64 _ _).2
 refine ⟨a1,a2,nz _,(oO .u64 _ _).1,?_,?_⟩<;>rw [ly]<;>omega
theorem xm {u d:Int} (h0:0≤u) (h1:u≤18446744073709551615) (hd:1≤d):ap .u64 u (aX .u64 (cm .u64 u d) d)=u% d∧cm .u64 u d=u/d∧0≤u% d∧u% d<d:=by
 have e1:u.tdiv d=u/d:=Int.tdiv_eq_ediv_of_nonneg h0
 have e2:u/d≤u:=Int.ediv_le_self _ h0
 have e3:0≤u/d:=Int.ediv_nonneg h0 (by omega)
 have e4:=Int.mul_ediv_add_emod u d
 have e5:=Int.emod_nonneg u (show d≠0 by omega)
 have e6:=Int.emod_lt_of_pos u (show 0<d by omega)
 have e7:cm .u64 u d=u/d:=by unfold cm;rw [e1];exact dk e3 (by omega)
 have e8:0≤u/d*d:=Int.mul_nonneg e3 (by omega)
 rw [Int.mul_comm] at e4
 have e9:aX .u64 (u/d) d=u/d*d:=dk e8 (by omega)
 refine ⟨?_,e7,e5,e6⟩
 rw [e7,e9];exact (dk (by omega) (by omega)).trans (by omega)
theorem Kl {y1 y0 u a q r:Int} (ha1:a<4294967296) (hy0:0≤y0) (hu:u<y1*4294967296+y0) (hu0:0≤u) (hi:q*y1+r=u) (hr:0≤r) (ha:0≤a) (ht:q≥4294967296∨(q*y0>4294967296*r+a)):
  u*4294967296+a<q*(y1*4294967296+y0)∧1≤q:=by
 have e:q*(y1*4294967296+y0)=q*y1*4294967296+q*y0:=by rw [Int.mul_add,Int.mul_assoc]
 rcases ht with h|h
 ·refine ⟨?_,by omega⟩
  have h1:=Int.mul_le_mul_of_nonneg_right h (show 0≤y1*4294967296+y0 by omega)
  omega
 ·refine ⟨by omega,?_⟩
  refine Int.not_lt.1 fun hq=> ?_
  have:=Int.mul_nonneg (show 0≤ -q by omega) hy0
  rw [Int.neg_mul] at this
  omega
theorem Km {y1 y0 u a q r:Int} (hi:q*y1+r=u) (ht:q*y0≤4294967296*r+a):q*(y1*4294967296+y0)≤u*4294967296+a:=by
 have e:q*(y1*4294967296+y0)=q*y1*4294967296+q*y0:=by rw [Int.mul_add,Int.mul_assoc]
 omega
theorem Kn {y1 y0 u a q r:Int} (ha:0≤a) (hi:q*y1+r=u) (hr:r≥4294967296) (hq:q≤4294967296) (hy0:0≤y0) (hy01:y0<4294967296):q*(y1*4294967296+y0)≤u*4294967296+a:=by
 have e:q*(y1*4294967296+y0)=q*y1*4294967296+q*y0:=by rw [Int.mul_add,Int.mul_assoc]
 have h1:=Int.mul_le_mul_of_nonneg_right hq hy0
 omega
def Dg (y1 y0 u a q:Int):Prop:=q*(y1*4294967296+y0)≤u*4294967296+a∧u*4294967296+a<(q+1)*(y1*4294967296+y0)
def DgI (y1 y0 u a:Int) (p:Int×Int):Prop:=p.1*y1+p.2=u∧0≤p.2∧p.2<4294967296∧0≤p.1∧p.1≤4294967297∧u*4294967296+a<(p.1+1)*(y1*4294967296+y0)
theorem BP {y1 y0 u a:Int} (hy1:2147483648≤y1) (hy11:y1<4294967296) (hy0:0≤y0) (hy01:y0<4294967296) (hu0:0≤u) (hu:u<y1*4294967296+y0) (ha:0≤a) (ha1:a<4294967296):DgI y1 y0 u a (u/y1,u% y1):=by
 have e4:=Int.mul_ediv_add_emod u y1
 have e5:=Int.emod_nonneg u (show y1≠0 by omega)
 have e6:=Int.emod_lt_of_pos u (show 0<y1 by omega)
 have e3:0≤u/y1:=Int.ediv_nonneg hu0 (by omega)
 have e7:u/y1≤4294967297:=by
  have:u/y1<4294967298:=(Int.ediv_lt_iff_lt_mul (by omega)).2 (by omega)
  omega
 rw [Int.mul_comm] at e4
 refine ⟨e4,e5,by show u% y1<_;omega,e3,e7,?_⟩
 have e8:(u/y1+1)*(y1*4294967296+y0)=u/y1*y1*4294967296+y1*4294967296+(u/y1)*y0+y0:=by
  rw [Int.add_mul,Int.mul_add,Int.one_mul,Int.mul_assoc];omega
 have e9:=Int.mul_nonneg e3 hy0
 show u*4294967296+a<(u/y1+1)*(y1*4294967296+y0)
 rw [e8]
 omega
theorem Ko {y1 y0 u a q r:Int} (hy0:0≤y0) (h:DgI y1 y0 u a (q,r)) (hu:u<y1*4294967296+y0) (ha:0≤a) (ha1:a<4294967296) (hu0:0≤u) (ht:q≥4294967296∨(q*y0>4294967296*r+a)):
  (q - 1)*y1+(r+y1)=u∧1≤q∧u*4294967296+a<(q - 1+1)*(y1*4294967296+y0):=by
 obtain ⟨h1,h2,h3,h4,h5,h6⟩:=h
 obtain ⟨a1,a2⟩:=Kl ha1 hy0 hu hu0 h1 h2 ha ht
 refine ⟨?_,a2,?_⟩
 ·rw [Int.sub_mul,Int.one_mul];simp only at h1;omega
 ·rw [Int.sub_add_cancel];exact a1
theorem xn {α R:Type} {gq gr:α→Int} {mk:Int→Int→α} (hmq: ∀q r,gq (mk q r)=q) (hmr: ∀q r,gr (mk q r)=r) {y1 y0 u a:Int} (hy1:2147483648≤y1) (hy11:y1<4294967296) (hy0:0≤y0) (hy01:y0<4294967296) (hu0:0≤u) (hu:u<y1*4294967296+y0) (ha:0≤a) (ha1:a<4294967296) {F:(α→R)→α→R} {d:α→R} {j:Int→R}
  (hF: ∀ag p,F ag p=if decide (gq p≥4294967296)=true then (if decide (ao .u64 (gr p) y1≥4294967296)=true then j (ap .u64 (gq p) 1) else ag (mk (ap .u64 (gq p) 1) (ao .u64 (gr p) y1))) else
   if decide (aX .u64 (gq p) y0>ao .u64 (aX .u64 4294967296 (gr p)) a)=true then (if decide (ao .u64 (gr p) y1≥4294967296)=true then j (ap .u64 (gq p) 1) else ag (mk (ap .u64 (gq p) 1) (ao .u64 (gr p) y1))) else j (gq p))
  {v:R} (hv: ∀q,Dg y1 y0 u a q→j q=v): ∀(n:Nat) (p:α),DgI y1 y0 u a (gq p,gr p)→(4294967296 - gr p).toNat<n→ah n F d p=v
 | 0,p,_,h=>by omega
 | n+1,p,hI,hn=>by
  rw [ah,hF]
  obtain ⟨h1,h2,h3,h4,h5,h6⟩:=hI
  simp only at h1 h2 h3 h4 h5 h6
  generalize hq:gq p=q at*
  generalize hr:gr p=r at*
  have eA:ao .u64 r y1=r+y1:=dk (by omega) (by omega)
  have eS:1≤q→ap .u64 q 1=q - 1:=fun h=>dk (by omega) (by omega)
  have down:(q≥4294967296∨(q*y0>4294967296*r+a))→(if decide (ao .u64 r y1≥4294967296)=true then j (ap .u64 q 1) else ah n F d (mk (ap .u64 q 1) (ao .u64 r y1)))=v:=by
   intro ht
   obtain ⟨d1,d2,d3⟩:=Ko hy0 (show DgI y1 y0 u a (q,r) from ⟨h1,h2,h3,h4,h5,h6⟩) hu ha ha1 hu0 ht
   rw [eA,eS d2]
   by_cases hb:r+y1≥4294967296
   ·rw [if_pos (by simpa using hb)]
    exact hv _ ⟨Kn ha d1 hb (by omega) hy0 hy01,d3⟩
   ·rw [if_neg (by simpa using hb)]
    exact xn hmq hmr hy1 hy11 hy0 hy01 hu0 hu ha ha1 hF hv n _ (by rw [hmq,hmr];exact ⟨d1,by show 0≤r+y1;omega,by show r+y1<_;omega,by show 0≤q - 1;omega,by show q - 1≤_;omega,d3⟩) (by rw [hmr];omega)
  by_cases ht:q≥4294967296
  ·rw [if_pos (by simpa using ht)]
   exact down (.inl ht)
  ·rw [if_neg (by simpa using ht)]
   have hm:=mO h4 (show q≤4294967295 by omega) hy0 (show y0≤4294967295 by omega)
   have e1:aX .u64 q y0=q*y0:=dk hm.1 (by omega)
   have e2:aX .u64 4294967296 r=4294967296*r:=dk (by omega) (by omega)
   have e3:ao .u64 (4294967296*r) a=4294967296*r+a:=dk (by omega) (by omega)
   rw [e1,e2,e3]
   by_cases hc:q*y0>4294967296*r+a
   ·rw [if_pos (by simpa using hc)]
    exact down (.inr hc)
   ·rw [if_neg (by simpa using hc)]
    exact hv _ ⟨Km h1 (by omega),h6⟩
theorem Kq {a b:Int} {s:Nat} (hs:s≤63) (ha0:0≤a) (ha:a*2^s<18446744073709551616) (hb0:0≤b) (hb:b<2^s):orI .u64 (a*2^s) b=a*2^s+b:=by
 obtain ⟨a,rfl⟩:=Int.eq_ofNat_of_zero_le ha0
 obtain ⟨b,rfl⟩:=Int.eq_ofNat_of_zero_le hb0
 have hp:2^s≤2^63:=Nat.pow_le_pow_right (by decide) hs
 have e0:((a:Int)*2^s)=((a*2^s:Nat):Int):=by push_cast;rfl
 have ha':a*2^s<18446744073709551616:=by
  rw [e0] at ha
  generalize a*2^s=t at ha⊢
  omega
 have hb':b<2^s:=by exact_mod_cast hb
 rw [e0]
 unfold orI
 have t: ∀n:Nat,n<18446744073709551616→(BitVec.ofInt IntKind.u64.bits (n:Int)).toNat=n:=by
  intro n hn
  show (BitVec.ofInt 64 (n:Int)).toNat=n
  rw [BitVec.toNat_ofInt];omega
 rw [BitVec.toNat_or,t _ ha',t _ (by omega),Nat.mul_comm a,←Nat.two_pow_add_eq_or_of_lt hb',w64]
 rw [Nat.mul_comm] at ha'
 have:2^s*a+b<18446744073709551616:=by
  have h1:2^s*(a+1)≤18446744073709551616:=by
   have h2:2^s∣18446744073709551616:=⟨2^(64 - s),by rw [←Nat.pow_add,show s+(64 - s)=64 by omega]⟩
   obtain ⟨c,hc⟩:=h2
   rw [hc] at ha'⊢
   exact Nat.mul_le_mul_left _ (Nat.lt_of_mul_lt_mul_left ha')
  rw [Nat.mul_add,Nat.mul_one] at h1
  omega
 omega
theorem Kr (a b:Int) {c:Int} (h:0<c):(a*c)% (b*c)=a% b*c:=by
 rw [Int.mul_comm a,Int.mul_comm b,Int.mul_emod_mul_of_pos _ _ h,Int.mul_comm]
theorem Ks {N y Y p u w a1 a0 q1 q0 v:Int} (hp:0<p) (hY:Y=y*p) (hY0:0<Y) (hw:w=a1*4294967296+a0) (hN:u*18446744073709551616+w=N*p)
  (hv:v=u*4294967296+a1 - q1*Y) (h1:q0*Y≤v*4294967296+a0) (h2:v*4294967296+a0<(q0+1)*Y):
  q1*4294967296+q0=N/y∧v*4294967296+a0 - q0*Y=N% y*p:=by
 have e:N*p=(q1*4294967296+q0)*Y+(v*4294967296+a0 - q0*Y):=by
  have e1:(q1*4294967296+q0)*Y=q1*Y*4294967296+q0*Y:=by rw [Int.add_mul,Int.mul_right_comm]
  rw [e1];omega
 have e2:(q0+1)*Y=q0*Y+Y:=by rw [Int.add_mul,Int.one_mul]
 generalize hR:v*4294967296+a0 - q0*Y=R at*
 generalize hQ:q1*4294967296+q0=Q at*
 have hR0:0≤R:=by omega
 have hR1:R<Y:=by omega
 have d:N*p/Y=Q:=by
  rw [e,Int.add_comm,Int.add_mul_ediv_right _ _ (by omega),Int.ediv_eq_zero_of_lt hR0 hR1];omega
 have m:N*p% Y=R:=by rw [e,Int.add_comm,Int.add_mul_emod_self_right,Int.emod_eq_of_lt hR0 hR1]
 rw [hY] at d m
 rw [Int.mul_ediv_mul_of_pos_left _ _ hp] at d
 rw [Kr _ _ hp] at m
 exact ⟨d.symm,m.symm⟩
theorem BQ {u a q Y:Int} (h0:0≤u*4294967296+a - q*Y) (h1:u*4294967296+a - q*Y≤18446744073709551615):ap .u64 (ao .u64 (aX .u64 u 4294967296) a) (aX .u64 q Y)=u*4294967296+a - q*Y:=by
 unfold ap ao aX
 simp only [w64]
 generalize q*Y=T at*
 omega
theorem Kt {q r:Int} (h0:0≤q*4294967296+r) (h1:q*4294967296+r≤18446744073709551615):ao .u64 (aX .u64 q 4294967296) r=q*4294967296+r:=by
 unfold ao aX
 simp only [w64]
 omega
theorem BR {α R:Type} {f:α→R} {G:(α→R)→R} {v:R} (h: ∀j,j=f→G j=v):dD f G=v:=h f rfl
set_option maxRecDepth 4000 in
theorem Ku {hi lo y:Int} (hh0:0≤hi) (hl0:0≤lo) (hl1:lo≤18446744073709551615) (hy:hi<y) (hy1:y≤18446744073709551615):nN hi lo y=((hi*18446744073709551616+lo)/y,(hi*18446744073709551616+lo)% y):=by
 unfold nN
 rw [if_neg (by simp;omega),if_neg (by simp;omega)]
 by_cases h0:hi=0
 ·subst h0
  rw [if_pos (by decide)]
  have e1:lo.tdiv y=lo/y:=Int.tdiv_eq_ediv_of_nonneg hl0
  have e2:lo/y≤lo:=Int.ediv_le_self _ hl0
  have e3:0≤lo/y:=Int.ediv_nonneg hl0 (by omega)
  have e4:cm .u64 lo y=lo/y:=by unfold cm;rw [e1];exact dk e3 (by omega)
  have e5:aO .u64 lo y=lo% y:=Int.tmod_eq_emod_of_nonneg hl0
  rw [e4,e5];simp
 ·rw [if_neg (by simpa using h0)]
  obtain ⟨s,hs⟩: ∃s,s=mA y:=⟨_,rfl⟩
  obtain ⟨s0,s1,s2,s3⟩:=BN hs (by omega) hy1
  have hY:=(qQ .u64 y (al .u64 s)).2
  simp only [ab,←hs]
  obtain ⟨k,rfl⟩:=Int.eq_ofNat_of_zero_le s0
  rw [s3] at s2 hY
  simp only [Int.toNat_natCast] at s2 s3 hY
  rw [s3]
  have hk:k≤63:=by omega
  have hp:(0:Int)<2^k:=Int.pow_pos (by decide)
  have hp2:(2:Int)^k*2^(64 - k)=18446744073709551616:=by rw [←Int.pow_add,show k+(64 - k)=64 by omega];rfl
  have hc:al .u64 (k:Int)=k:=kV (by omega) (by omega)
  have hYm:y*2^k≤18446744073709551615:=by show _≤(18446744073709551615:Int);exact hY
  -- the high part
  have hhi:hi*2^k<y*2^k:=Int.mul_lt_mul_of_pos_right hy hp
  have m1:aC .u64 hi (k:Int)=hi*2^k:=by
   unfold aC
   rw [Int.toNat_natCast,show min k IntKind.u64.bits=k by show min k 64=k;omega]
   exact dk (Int.mul_nonneg hh0 (Int.le_of_lt hp)) (by omega)
  have m2:aB .u64 lo (ap .u64 64 (k:Int))=lo/2^(64 - k):=by
   have e:ap .u64 64 (k:Int)=((64 - k:Nat):Int):=by
    have:ap .u64 64 (k:Int)=64 - (k:Int):=dk (by omega) (by omega)
    omega
   rw [e];exact mN (by rw [Int.toNat_natCast];show min (64 - k) 64=_;omega)
  have m3:aC .u64 lo (k:Int)=lo*2^k% 18446744073709551616:=by
   unfold aC
   rw [Int.toNat_natCast,show min k IntKind.u64.bits=k by show min k 64=k;omega,w64]
  have hb0:0≤lo/2^(64 - k):=Int.ediv_nonneg hl0 (Int.le_of_lt (Int.pow_pos (by decide)))
  have hb1:lo/2^(64 - k)<2^k:=(Int.ediv_lt_iff_lt_mul (Int.pow_pos (by decide))).2 (by rw [hp2];omega)
  rw [hc,m1,m2,m3,Kq hk hh0 (by omega) hb0 hb1]
  -- the whole, shifted
  have hN:(hi*2^k+lo/2^(64 - k))*18446744073709551616+lo*2^k% 18446744073709551616=(hi*18446744073709551616+lo)*2^k:=by
   have e:lo/2^(64 - k)=lo*2^k/18446744073709551616:=by
    rw [←hp2,Int.mul_comm ((2:Int)^k),Int.mul_ediv_mul_of_pos_left _ _ hp]
   rw [e,Int.add_mul,Int.add_mul (hi*18446744073709551616),Int.mul_right_comm hi]
   omega
  have hy1':0<y:=by omega
  have hQ0:0≤(hi*18446744073709551616+lo)/y:=Int.ediv_nonneg (by omega) (by omega)
  have hQ1:(hi*18446744073709551616+lo)/y<18446744073709551616:=(Int.ediv_lt_iff_lt_mul hy1').2 (by omega)
  have hu0:0≤hi*2^k+lo/2^(64 - k):=by have:=Int.mul_nonneg hh0 (Int.le_of_lt hp);omega
  have hu1:hi*2^k+lo/2^(64 - k)<y*2^k:=by
   have h1:=Int.mul_le_mul_of_nonneg_right (show hi+1≤y by omega) (Int.le_of_lt hp)
   rw [Int.add_mul,Int.one_mul] at h1
   omega
  obtain ⟨N,hNe⟩: ∃N,N=hi*18446744073709551616+lo:=⟨_,rfl⟩
  rw [←hNe] at hN hQ0 hQ1⊢
  obtain ⟨Y,hYe⟩: ∃Y,Y=y*2^k:=⟨_,rfl⟩
  rw [←hYe] at s2 hYm hu1⊢
  generalize hi*2^k+lo/2^(64 - k)=u at hN hu0 hu1⊢
  have hW0:0≤lo*2^k% 18446744073709551616:=Int.emod_nonneg _ (by decide)
  have hW1:lo*2^k% 18446744073709551616<18446744073709551616:=Int.emod_lt_of_pos _ (by decide)
  generalize lo*2^k% 18446744073709551616=W at hN hW0 hW1⊢
  rw [ly Y,ql (by omega) hYm,ly W,ql hW0 (by omega)]
  have hYs:Y/4294967296*4294967296+Y% 4294967296=Y:=by omega
  have hWs:W=W/4294967296*4294967296+W% 4294967296:=by omega
  have b1:2147483648≤Y/4294967296:=by omega
  have b2:Y/4294967296<4294967296:=by omega
  have b3:0≤Y% 4294967296:=by omega
  have b4:Y% 4294967296<4294967296:=by omega
  have b5:0≤W/4294967296:=by omega
  have b6:W/4294967296<4294967296:=by omega
  have b7:0≤W% 4294967296:=by omega
  have b8:W% 4294967296<4294967296:=by omega
  generalize Y/4294967296=y1 at*
  generalize Y% 4294967296=y0 at*
  generalize W/4294967296=a1 at*
  generalize W% 4294967296=a0 at*
  obtain ⟨r1,r2,r3,r4⟩:=xm (u:=u) (d:=y1) hu0 (by omega) (by omega)
  rw [r1,r2]
  refine BR fun j8 hj8=> ?_
  refine xn (j:=j8) (gq:=fun p:Int×Int=>p.1) (gr:=fun p=>p.2) (mk:=fun q r=>(q,r)) (fun _ _=>rfl) (fun _ _=>rfl) b1 b2 b3 b4 hu0 (by omega) b5 b6 (by exact fun ag p=>rfl) (fun q1 hq1=> ?_) _ _ (by exact BP b1 b2 b3 b4 hu0 (by omega) b5 b6) (by show (4294967296 - u% y1).toNat<_;omega)
  obtain ⟨g1,g2⟩:=hq1
  subst hj8
  dsimp only
  rw [hYs] at g1 g2
  have g3:(q1+1)*Y=q1*Y+Y:=by rw [Int.add_mul,Int.one_mul]
  rw [g3] at g2
  have ev:=BQ (u:=u) (a:=a1) (q:=q1) (Y:=Y) (by omega) (by omega)
  rw [ev]
  obtain ⟨v,hv⟩: ∃v,v=u*4294967296+a1 - q1*Y:=⟨_,rfl⟩
  rw [←hv]
  have hv0:0≤v:=by omega
  have hv1:v<Y:=by omega
  obtain ⟨t1,t2,t3,t4⟩:=xm (u:=v) (d:=y1) hv0 (by omega) (by omega)
  rw [t1,t2]
  refine BR fun j9 hj9=> ?_
  refine xn (j:=j9) (gq:=fun p:Int×Int=>p.2) (gr:=fun p=>p.1) (mk:=fun q r=>(r,q)) (fun _ _=>rfl) (fun _ _=>rfl) b1 b2 b3 b4 hv0 (by omega) b7 b8 (by exact fun ag p=>rfl) (fun q0 hq0=> ?_) _ _ (by exact BP b1 b2 b3 b4 hv0 (by omega) b7 b8) (by show (4294967296 - v% y1).toNat<_;omega)
  obtain ⟨f1,f2⟩:=hq0
  subst hj9
  dsimp only
  rw [hYs] at f1 f2
  obtain ⟨z1,z2⟩:=Ks hp hYe (by omega) hWs hN hv f1 f2
  have f3:(q0+1)*Y=q0*Y+Y:=by rw [Int.add_mul,Int.one_mul]
  rw [f3] at f2
  rw [BQ (by omega) (by omega),Kt (by omega) (by omega),z1,z2,mN (m:=k) (by rw [Int.toNat_natCast];show min k 64=k;omega),Int.mul_ediv_cancel _ (Int.ne_of_gt hp)]
theorem Kv (a b:Int):0≤orI .u64 a b∧orI .u64 a b≤18446744073709551615:=y9 .u64 a b
theorem Kw (a b:Int):0≤ap .u64 a b∧ap .u64 a b≤18446744073709551615:=oO .u64 a b
theorem lz {a b:Int} (h0:0≤a) (h1:a≤4294967295) (h2:0≤b) (h3:b≤4294967295):ao .u64 a b=a+b:=dk (by omega) (by omega)
theorem BS {a b n:Int} (ha:0≤a) (hn:a<n) (hn1:n≤18446744073709551615) (hb:0≤b) (hb1:b≤18446744073709551615):(lm a b).1<n:=by
 rw [BO ha (by omega) hb hb1]
 refine (Int.ediv_lt_iff_lt_mul (by decide)).2 ?_
 have h1:=Int.mul_le_mul (show a≤n - 1 by omega) hb1 hb (by omega)
 omega
theorem BT (n:Int) {a b:Int} {x:Int×Int} (hx:x=lm a b) (ha:0≤a) (hn:a<n) (hn1:n≤18446744073709551615) (hb:0≤b) (hb1:b≤18446744073709551615):x.1<n:=hx▸BS ha hn hn1 hb hb1
theorem BU {u d:Int} (h:0≤u∧u≤18446744073709551615) (hd:1≤d) (hd1:d≤4294967295):0≤ap .u64 u (aX .u64 (cm .u64 u d) d)∧ap .u64 u (aX .u64 (cm .u64 u d) d)≤4294967295:=by
 obtain ⟨a1,a2,a3,a4⟩:=xm h.1 h.2 hd
 rw [a1];omega
theorem th {a b n:Int} (ha:0≤a) (hn:a<n) (hb:0≤b) (hb1:b≤18446744073709551615) (hn1:n≤18446744073709551615):fQ a b n=a*b% n:=by
 have h1:=BS ha hn hn1 hb hb1
 have hp:=Int.mul_nonneg ha hb
 unfold fQ ab
 rw [BO ha (by omega) hb hb1] at h1⊢
 simp only at h1⊢
 rw [Ku (Int.ediv_nonneg hp (by decide)) (Int.emod_nonneg _ (by decide)) (by have:=Int.emod_lt_of_pos (a*b) (show (0:Int)<18446744073709551616 by decide);omega) h1 hn1]
 simp only
 congr 1
 omega
theorem mP {a b n x:Int} (hx:x=fQ a b n) (ha:0≤a) (hn:a<n) (hb:0≤b) (hb1:b≤18446744073709551615) (hn1:n≤18446744073709551615):0≤x∧x<n:=by
 rw [hx,th ha hn hb hb1 hn1];exact ⟨Int.emod_nonneg _ (by omega),Int.emod_lt_of_pos _ (by omega)⟩
theorem Kx {a e n x:Int} (hx:x=mB a e n) (ha:0≤a) (hn:a<n) (h1:1<n) (hn1:n≤18446744073709551615):0≤x∧x<n:=by
 subst hx
 unfold mB
 refine eP (P:=fun p:Int×Int×Int=>0≤p.1∧p.1<n∧0≤p.2.2∧p.2.2<n) (Q:=fun x=>0≤x∧x<n) (meas:=fun p=>p.2.1.toNat) ?_ _ _ ⟨ha,hn,show (0:Int)≤1 by decide,h1⟩ (by show e.toNat<_;omega)
 rintro ag ⟨a,e,x⟩ ⟨p1,p2,p3,p4⟩ ih
 simp only at p1 p2 p3 p4 ih⊢
 by_cases he:e>0
 ·rw [if_pos (by simpa using he)]
  have hs:(aB .u64 e 1).toNat<e.toNat:=by rw [cR];omega
  simp only [ab]
  by_cases hc:(bE .u64 e 1==1)=true
  ·rw [if_pos hc]
   have m1:=mP (x:=fQ x a n) rfl p3 p4 p1 (by omega) hn1
   have m2:=mP (x:=fQ a a n) rfl p1 p2 p1 (by omega) hn1
   exact ih _ ⟨m2.1,m2.2,m1.1,m1.2⟩ hs
  ·rw [if_neg hc]
   have m2:=mP (x:=fQ a a n) rfl p1 p2 p1 (by omega) hn1
   exact ih _ ⟨m2.1,m2.2,p3,p4⟩ hs
 ·rw [if_neg (by simpa using he)]
  exact ⟨p3,p4⟩
@[go_sem] theorem Ky {n:Nat} {k:IntKind}: ∀{l:List Int},ltL n (l.map (V.int k))=True
 | []=>by simp [ltL]
 | a::l=>by simp only [List.map_cons,ltL,Ky (l:=l),ltV,and_self]
@[go_sem] theorem Qz {k:IntKind} {a b c i:Int}:elt [V.int k a,V.int k b,V.int k c] i.toNat (V.int k 0)=V.int k (gt [a,b,c] i):=by
 unfold elt gt
 match i.toNat with
 | 0=>rfl
 | 1=>rfl
 | 2=>rfl
 | n+3=>rfl
theorem Kz:cF.length=12:=rfl
theorem KA:cF.all (fun x=>decide (2≤x)&&decide (x≤37))=true:=by decide
theorem cS {j:Int} (h0:0≤j) (h1:j<12):2≤gt cF j∧gt cF j≤37:=by
 have hm:gt cF j∈cF:=aK (by show j.toNat<12;omega)
 simpa using List.all_eq_true.1 KA _ hm
def kt (u i:Int):Prop:= ∀k:Int,0≤k→k<i→u% gt cF k≠0
theorem xo {u:Int}:kt u 0:=fun k h0 h1=>by omega
theorem xp {u i:Int} (h:kt u i) (hu:0≤u) (h0:0≤i) (h1:i<12) (hr: ¬aO .u64 u (gt cF i)=0):kt u (i+1):=by
 intro k k0 k1
 by_cases hk:k<i
 ·exact h k k0 hk
 ·obtain rfl:k=i:=by omega
  rwa [show aO .u64 u (gt cF k)=u% gt cF k from Int.tmod_eq_emod_of_nonneg hu] at hr
theorem KB: ∀u:Fin 38,2≤u.val→ ∃k:Fin 12,((u.val:Nat):Int)% cF.getD k.val 0=0:=by decide
theorem xq {u i:Int} (h:kt u i) (hi:12≤i) (h2:2≤u):37<u:=by
 refine Int.not_le.1 fun hu=> ?_
 obtain ⟨k,hk⟩:=KB ⟨u.toNat,by omega⟩ (by show 2≤u.toNat;omega)
 refine h (k.val:Int) (by omega) (by omega) ?_
 have e:((u.toNat:Nat):Int)=u:=by omega
 rw [←e,y7]
 exact hk
theorem KC:jb.all (fun x=>decide (0≤x)&&decide (x≤63))=true:=by decide
theorem KD {a x:Int} (hx:x=li a):0≤x∧x≤64:=by
 subst hx
 unfold li
 split
 ·omega
 ·have hi:=BM (x:=bE .u64 a (gA .u64 a))
  have hm:=aK (l:=jb) (i:=aB .u64 (aX .u64 (bE .u64 a (gA .u64 a)) 285870213051353865) 58) (by show _<64;omega)
  have:=List.all_eq_true.1 KC _ hm
  simp only [Bool.and_eq_true,decide_eq_true_eq] at this
  rw [nD (by omega) (by omega)];omega
theorem BV {x:Int} (h0:0≤x) (h1:x≤64):ap .i64 x 1=x - 1:=by unfold ap;rw [IntKind.wrap_i64];omega
theorem tj {m:Int} (h:1≤m):0≤aO .i64 1 m∧aO .i64 1 m<m:=by
 rw [show aO .i64 1 m=1% m from Int.tmod_eq_emod_of_nonneg (by decide)]
 exact ⟨Int.emod_nonneg _ (by omega),Int.emod_lt_of_pos _ (by omega)⟩
theorem BW {a b m:Int} (h:iz a b m=0):1≤m∧m<2305843009213693952∧0≤a∧a<m∧0≤b∧b<m:=by
 unfold iz at h
 simp only [ab,mC] at h
 repeat' (split at h)
 all_goals simp_all
 all_goals omega
instance QA (a b m:Int):CF (iz a b m) (fun x=>x=0→1≤m∧m<2305843009213693952∧0≤a∧a<m∧0≤b∧b<m):=⟨BW⟩
theorem qm {x:Int} (h0:0≤x) (h1:x≤9223372036854775807):al .u64 x=x:=kV h0 (by omega)
theorem xr {a b n:Int} (ha:0≤a) (hn:a<n) (hb:0≤b) (hb1:b≤9223372036854775807) (hn1:n≤9223372036854775807):jo a b n=a*b% n:=by
 have h:=th ha hn hb (by omega) (by omega)
 have e:jo a b n=al .i64 (fQ (al .u64 a) (al .u64 b) (al .u64 n)):=rfl
 have c1:al .u64 a=a:=kV ha (by omega)
 have c2:al .u64 b=b:=kV hb (by omega)
 have c3:al .u64 n=n:=kV (by omega) (by omega)
 rw [e,c1,c2,c3,h]
 have:=Int.emod_nonneg (a*b) (show n≠0 by omega)
 have:=Int.emod_lt_of_pos (a*b) (show 0<n by omega)
 exact nD (by omega) (by omega)
theorem xt {a b n x:Int} (hx:x=jo a b n) (ha:0≤a) (hn:a<n) (hb:0≤b) (hb1:b≤9223372036854775807) (hn1:n≤9223372036854775807):0≤x∧x<n:=by
 rw [hx,xr ha hn hb hb1 hn1];exact ⟨Int.emod_nonneg _ (by omega),Int.emod_lt_of_pos _ (by omega)⟩
end Go.Proofs.YtgealhhkngbkbaaGreatDoor
namespace Go.Proofs.YtgealhhkngbkbaaGreatDoor
open Go.RowKit
theorem BX {α R:Type} {F:(α→R)→α→R} {d:α→R} (Inv:α→Prop) (Q:R→Prop) (mu:α→Nat)
  (h: ∀ag a,Inv a→(∀a',Inv a'→mu a'<mu a→Q (ag a'))→Q (F ag a)): ∀(n:Nat) (a:α),Inv a→mu a<n→Q (ah n F d a)
 | 0,_,_,h1=>absurd h1 (Nat.not_lt_zero _)
 | n+1,a,hr,h1=>by
  rw [ah]
  exact h _ a hr fun a' hr' hm=>BX Inv Q mu h n a' hr' (by omega)
instance QB {s:List Int}:CF (s6 s) (fun x=>x.length=s.length):=⟨rfl⟩
theorem KE (n:Int):pY n=[al .u8 (aB .u64 n 56),al .u8 (aB .u64 n 48),al .u8 (aB .u64 n 40),al .u8 (aB .u64 n 32),al .u8 (aB .u64 n 24),al .u8 (aB .u64 n 16),al .u8 (aB .u64 n 8),al .u8 (aB .u64 n 0)]:=by kernel_rfl
instance QD {n:Int}:CF (pY n) (fun x=>x.length=8):=⟨by rw [KE];rfl⟩
end Go.Proofs.YtgealhhkngbkbaaGreatDoor
namespace Go.Proofs.YtgealhhkngbkbaaGreatDoor
open Go.RowKit
def cJ (l:List (List UInt8)):Nat:=(l.map List.length).sum
theorem BZ (sep:List UInt8): ∀l:List (List UInt8),(Lib.joinTail sep l).length=cJ l+l.length*sep.length
 | []=>by simp [Lib.joinTail,cJ]
 | x::l=>by
  have ih:=BZ sep l
  simp only [Lib.joinTail,cJ,List.map_cons,List.flatten_cons,List.length_append,List.sum_cons,List.length_cons,Nat.succ_mul] at ih⊢
  omega
theorem B0 (l:List (List UInt8)) (sep:List UInt8):(Lib.join l sep).length≤cJ l+l.length*sep.length:=by
 cases l with
 | nil=>simp [Lib.join_nil]
 | cons x l=>
  rw [Lib.join_cons,List.length_append,BZ]
  simp only [cJ,List.map_cons,List.sum_cons,List.length_cons,Nat.succ_mul]
  omega
theorem n11: ¬(((1:Int) !=1)=true):=by decide
theorem xu {g:ak} {x:Bool} (hx:x=gg g) (h:x=true):1≤g.Q:=by
 subst hx
 unfold gg at h
 by_cases h1:1≤g.Q
 ·exact h1
 ·exfalso
  revert h
  repeat' split
  all_goals simp_all [ab]
  all_goals omega
theorem KF {α:Type} [Inhabited α] {l:List α} {x:α} (h:x∈l): ∃i:Nat,i<l.length∧gt l i=x:=by
 obtain ⟨i,hi,rfl⟩:=List.getElem_of_mem h
 exact ⟨i,hi,by simp [gt,List.getD_eq_getElem?_getD,hi]⟩
theorem KG {s:List (List Int)} {n:Int} {g:ak} (h:mD s n g=false): ∀x∈s,(x.length:Int)=n:=by
 have h1: ¬(0≤nQ s n g):=by
  unfold mD at h
  simp only [ab,decide_eq_false_iff_not] at h
  omega
 have h2: ¬(0≤nQ s n g)→ ∀i:Nat,i<s.length→((gt s i).length:Int)=n:=by
  unfold nQ
  refine eP (P:=fun a:Int=>0≤a∧a≤s.length∧ ∀i:Nat,(i:Int)<a→((gt s i).length:Int)=n) (Q:=fun r:Int=> ¬(0≤r)→ ∀i:Nat,i<s.length→((gt s i).length:Int)=n) (meas:=fun a=>((s.length:Int) - a).toNat) ?_ _ _ ?_ ?_
  rotate_left
  ·exact ⟨Int.le_refl _,show (0:Int)≤(s.length:Int) by omega,fun i hi=>absurd hi (by omega)⟩
  ·show ((s.length:Int) - 0).toNat<((s.length:Int) - 0).toNat+1
   omega
  rintro ag a ⟨g0,g1,g2⟩ ih
  by_cases hp:a<(s.length:Int)
  ·simp only [ab,if_pos (show decide (a<(s.length:Int))=true by simpa using hp)]
   cases hv:kn (gt s a) n g with
   | true=>rw [if_pos rfl];intro h3;exact absurd g0 h3
   | false=>
    rw [if_neg (by decide)]
    refine ih _ ⟨by omega,by omega,fun i hi=> ?_⟩ (by omega)
    by_cases he:(i:Int)=a
    ·rw [he]
     unfold kn at hv
     split at hv
     ·cases hv
     ·rename_i h5
      simpa using h5
    ·exact g2 i (by omega)
  ·simp only [if_neg (show¬decide (a<(s.length:Int))=true by simpa using hp)]
   intro _ i hi
   exact g2 i (by omega)
 intro x hx
 obtain ⟨i,hi,rfl⟩:=KF hx
 exact h2 h1 i hi
def okR (g:ak) (r:aF):Prop:=1≤g.Q∧r.Bases.length=r.Y.length∧1≤r.Y.length∧r.Y.length≤8∧(∀x∈r.Bases,(x.length:Int)=cv r)∧cv r≤12
theorem qn {g:ak} {r:aF} (h:bU g r=true):okR g r:=by
 unfold bU at h
 simp only [ab] at h
 cases hg:gg g with
 | false=>rw [hg] at h;cases h
 | true=>
  rw [hg] at h
  rw [if_neg (by decide)] at h
  split at h
  ·cases h
  ·rename_i h1
   split at h
   ·cases h
   ·rename_i h2
    split at h
    ·cases h
    ·rename_i h3
     split at h
     ·cases h
     ·split at h
      ·cases h
      ·split at h
       ·cases h
       ·rename_i h5
        have h6:=KG (by simpa using h)
        simp only [decide_eq_true_eq,bne_iff_ne,ne_eq,Decidable.not_not] at h1 h2 h3 h5
        exact ⟨xu hg.symm rfl,by omega,by omega,by omega,h6,by unfold cv;omega⟩
instance QE (g:ak) (r:aF):CF (bU g r) (fun x=>x=true→okR g r):=⟨fun h=>qn h⟩
theorem oq {E:Env} {S:St} (t i:Nat) {n:Nat} {g:Bool} {d:V} (h:ae S.F t=some (.ptr i 0)) (h2:ae S.H i=some (.pvar n g d)):cC E S ⟨(t,.pp n g d)::S.F,S.H,S.nx⟩:=by
 intro c0 c ρ F hs
 refine ⟨c,ρ,rfl,⟨hs.1.since,hs.1.gl,fun t' v ht=> ?_,hs.1.heap,hs.1.sep⟩,hs.2⟩
 simp only [ae] at ht
 split at ht
 ·rename_i e;subst e;cases ht
  have h3:=hs.1.slot _ _ h
  obtain ⟨b,h4,h5⟩:=hs.1.heap _ _ h2
  simp only [rd] at h3⊢
  obtain ⟨b',h6,h7⟩:=h3
  rw [h4] at h6
  simp only [Option.some.injEq,Value.pointer.injEq,Addr.mk.injEq,and_true] at h6
  subst h6
  rw [h7]
  obtain ⟨b2,o,cs,e1,e2,e3,e4,e5⟩:=h5
  exact ⟨b2,o,cs,e1,e2,e3,e4,e5⟩
 ·exact hs.1.slot _ _ ht
theorem KH (i:aJ) (d:Int):qf i d=gQ i d:=by
 obtain ⟨k,n,b,l⟩:=i
 have hany:og l d= !(pB l (d - 1)):=by
  have h:=J4 (l:=l) (C:=fun x=>mH x d) (d:=fun _=>default) (F:=fun ag1 p1=>if decide (p1<(l.length:Int)) then (ab (mH (gt l p1) d) (fun x4=>if x4 then p1 else ag1 (p1+1))) else -1) (fun ag p=>rfl)
  have h2:og l d=l.any (fun x=>mH x d):=h
  rw [h2,BI,List.not_all_eq_any_not];rfl
 unfold qf
 simp only [ab,gQ,hany,Bool.not_not]
 by_cases e1:k=1
 ·subst e1;cases b with
  | nil=>cases l with
   | nil=>simp
   | cons y l=>simp;omega
  | cons x b=>simp;omega
 by_cases e2:k=2
 ·subst e2;cases l with
  | nil=>simp [Bool.beq_eq_decide_eq]
  | cons y l=>simp;omega
 by_cases e3:k=3
 ·subst e3
  by_cases h0:n=0
  ·cases b with
   | nil=>
    by_cases h1:0<d
    ·by_cases h2:l.length≤1000
     ·have h2':(l.length:Int)≤1000:=by omega
      simp [h0,h1,h2,h2']
     ·have h2': ¬(l.length:Int)≤1000:=by omega
      simp [h0,h1,h2,h2']
    ·simp [h0,h1]
   | cons x b=>simp [h0];omega
  ·simp [h0]
 ·simp [e1,e2,e3]
theorem B_: ∀{k:Nat} {n:Int},be (k+1) n=(n/256^k)% 256::be k n
 | 0,n=>by simp [be]
 | k+1,n=>by
  rw [be,B_ (k:=k),be]
  simp only [List.cons_append,List.cons.injEq,and_true]
  rw [Int.ediv_ediv_of_nonneg (by omega),Int.pow_succ,Int.mul_comm (256^k)]
theorem Ca {n:Int} {F:(Int×List Int→List Int)→Int×List Int→List Int} {d:Int×List Int→List Int}
  (hF: ∀ag p,F ag p=if decide (p.1≥0)=true then ag (p.1 - 1,p.2++[al .u8 (aB .u64 n (8*p.1))]) else p.2):
  ∀(k fuel:Nat) (out:List Int),k≤8→k<fuel→ah fuel F d ((k:Int) - 1,out)=out++be k n
 | 0,fuel,out,_,hf=>by
  obtain ⟨m,rfl⟩: ∃m,fuel=m+1:=⟨fuel - 1,by omega⟩
  rw [ah,hF];simp [be]
 | k+1,fuel,out,hk,hf=>by
  obtain ⟨m,rfl⟩: ∃m,fuel=m+1:=⟨fuel - 1,by omega⟩
  rw [ah,hF,if_pos (by simp)]
  have e1:al .u8 (aB .u64 n (8*(((k+1:Nat):Int) - 1)))=(n/256^k)% 256:=by
   have e2:(8*(((k+1:Nat):Int) - 1)).toNat=8*k:=by omega
   unfold al aB
   rw [e2,show min (8*k) (IntKind.bits .u64)=8*k by show min (8*k) 64=8*k;omega,Int.fdiv_eq_ediv_of_nonneg _ (Int.le_of_lt (Int.pow_pos (by omega))),Int.pow_mul]
   rfl
  simp only
  rw [e1,show ((k+1:Nat):Int) - 1 - 1=(k:Int) - 1 by omega,Ca hF k m _ (by omega) (by omega),B_]
  simp
theorem tk {out:List Int} {n size:Int} (h0:0≤size) (h1:size≤8):kr out n size=out++be size.toNat n:=by
 unfold kr
 have:=Ca (n:=n) (d:=fun _=>default) (fun ag p=>rfl) size.toNat ((size - 1+1).toNat+1) out (by omega) (by omega)
 rw [show ((size.toNat:Nat):Int)=size by omega] at this
 exact this
theorem xv {out x:List Int} {n size:Int} (h:x=kr out n size): ¬(0≤size∧size≤8)∨(x.length:Int)=out.length+size:=by
 by_cases hs:0≤size∧size≤8
 ·right;rw [h,tk hs.1 hs.2];simp [BE];omega
 ·exact .inl hs
theorem KI {n:Int}:be 8 (al .u64 n)=be 8 n:=by
 apply wV
 have h8:(256:Int)^8=18446744073709551616:=by decide
 have:al .u64 n=n% 18446744073709551616:=rfl
 rw [this,h8];omega
theorem Cb {n:Int}:be 4 (al .u64 n)=be 4 n:=by
 apply wV
 have h8:(256:Int)^4=4294967296:=by decide
 have:al .u64 n=n% 18446744073709551616:=rfl
 rw [this,h8];omega
theorem Cc: ∀{l:List aJ} {out:List Int},sQ out l=l.foldl gR out
 | [],_=>rfl
 | x::l,out=>by simp only [sQ,List.foldl_cons];exact Cc
theorem KJ (out:List Int) (i:aJ):qg out i=gR out i:=by
 obtain ⟨k,n,b,l⟩:=i
 unfold qg
 simp only [ab,gR]
 by_cases hl:out.length>16384
 ·have:(out.length:Int)>16384:=by omega
  simp [hl,this]
 have hl': ¬(out.length:Int)>16384:=by omega
 by_cases e1:k=1
 ·subst e1
  have:al .u8 1=1:=rfl
  simp [hl,hl',tk,this,KI]
 by_cases e2:k=2
 ·subst e2
  have:al .u8 2=2:=rfl
  simp [hl,hl',tk,this,Cb]
 have hk:al .u8 k=k% 256:=rfl
 simp only [hl,hl',e1,e2,decide_false,Bool.false_eq_true,if_false,beq_iff_eq,tk (show (0:Int)≤4 by decide) (show (4:Int)≤8 by decide),hk,Int.reduceToNat,Cb]
 rw [J6 (l:=l) (fun a s=> .inl (gR s a)) (fun s=>s) (fun ag i s=>by by_cases h:i<(l.length:Int)<;>simp [h]),BB,Cc]
 simp
def tl (n:Int):aJ:=⟨1,n,[],[]⟩
def xw (l:List Int):aJ:=⟨3,0,[],l.map tl⟩
def KK (l:List aJ):aJ:=⟨3,0,[],l⟩
theorem KL (l:List Int):jv l=xw l:=by
 unfold jv
 exact J3 (E:=fun p=>KK p.2) tl (fun ag p=>rfl)
theorem KM {l:List Int}:hgt (xw l)=1+l.length:=by
 have: ∀l:List Int,cI (l.map tl)=l.length:=by
  intro l
  induction l with
  | nil=>rfl
  | cons a l ih=>simp [cI,ih,tl,hgt];omega
 simp [xw,hgt,this]
theorem KN {i:aJ} {x:List Int×Int} (h:x=mI i):x.1.length≤16384:=by
 rw [h]
 unfold mI
 simp only [ab]
 split
 ·simp
 ·split
  ·simp
  ·rename_i h2
   have h3:((gR [] i).length:Int)≤16384:=by simpa using h2
   show (gR [] i).length≤16384
   omega
theorem gu {a b:Int} (h:0≤a):aO .i64 a b=a% b:=Int.tmod_eq_emod_of_nonneg h
theorem KO {m o a b':Int}:((o+a)% m+((a+a)% m)*b')% m=(o+a*(2*b'+1))% m:=by
 rw [show o+a*(2*b'+1)=(o+a)+(a+a)*b' by rw [Int.mul_add,Int.add_mul,Int.mul_one,←Int.mul_assoc,Int.mul_comm a 2,Int.two_mul,Int.add_mul];omega]
 rw [Int.add_emod ((o+a)% m),Int.emod_emod_of_dvd _ (Int.dvd_refl m),Int.mul_emod ((a+a)% m),Int.emod_emod_of_dvd _ (Int.dvd_refl m),←Int.mul_emod,←Int.add_emod]
theorem KP {m o a b':Int}:(o+((a+a)% m)*b')% m=(o+a*(2*b'))% m:=by
 rw [show o+a*(2*b')=o+(a+a)*b' by rw [←Int.mul_assoc,Int.mul_comm a 2,Int.two_mul]]
 rw [Int.add_emod o,Int.mul_emod ((a+a)% m),Int.emod_emod_of_dvd _ (Int.dvd_refl m),←Int.mul_emod,←Int.add_emod]
theorem KQ {m v:Int} (hm:0<m) {F:(Int×Int×Int→Int)→Int×Int×Int→Int} {d:Int×Int×Int→Int}
  (hF: ∀ag p,F ag p=if decide (p.2.1>0)=true then (if (p.2.1% 2==1)=true then ag (aO .i64 (p.1+p.1) m,p.2.1/2,aO .i64 (p.2.2+p.1) m) else ag (aO .i64 (p.1+p.1) m,p.2.1/2,p.2.2)) else p.2.2)
  (n:Nat) (a b o:Int) (ha:0≤a) (hb:0≤b) (ho:0≤o∧o<m) (hv:(o+a*b)% m=v) (hn:b.toNat<n):ah n F d (a,b,o)=v:=by
 refine eP (P:=fun p:Int×Int×Int=>0≤p.1∧0≤p.2.1∧(0≤p.2.2∧p.2.2<m)∧(p.2.2+p.1*p.2.1)% m=v) (Q:=fun r=>r=v) (meas:=fun p=>p.2.1.toNat) ?_ n _ ⟨ha,hb,ho,hv⟩ hn
 rintro ag ⟨a,b,o⟩ ⟨h1,h2,h3,h4⟩ ih
 simp only at h1 h2 h3 h4 ih
 rw [hF]
 by_cases hb:b>0
 ·rw [if_pos (by simpa using hb)]
  have r1: ∀x:Int,0≤x% m∧x% m<m:=fun x=>⟨Int.emod_nonneg _ (by omega),Int.emod_lt_of_pos _ hm⟩
  simp only [gu (show 0≤a+a by omega),gu (show 0≤o+a by omega)]
  by_cases hc:b% 2=1
  ·rw [if_pos (by simpa using hc)]
   refine ih _ ⟨(r1 _).1,by show 0≤b/2;omega,r1 _,?_⟩ (by show (b/2).toNat<b.toNat;omega)
   show ((o+a)% m+((a+a)% m)*(b/2))% m=v
   rw [KO,show 2*(b/2)+1=b by omega];exact h4
  ·rw [if_neg (by simpa using hc)]
   refine ih _ ⟨(r1 _).1,by show 0≤b/2;omega,h3,?_⟩ (by show (b/2).toNat<b.toNat;omega)
   show (o+((a+a)% m)*(b/2))% m=v
   rw [KP,show 2*(b/2)=b by omega];exact h4
 ·rw [if_neg (by simpa using hb)]
  have:b=0:=by omega
  subst this
  rw [Int.mul_zero,Int.add_zero,Int.emod_eq_of_lt h3.1 h3.2] at h4
  exact h4
theorem mQ {a b m:Int} (ha:0≤a) (hm:a<m) (hb:0≤b):eQ a b m=a*b% m:=by
 unfold eQ
 have key: ∀F d,(∀ag p,F ag p=if decide (p.2.1>0)=true then (if (p.2.1% 2==1)=true then ag (aO .i64 (p.1+p.1) m,p.2.1/2,aO .i64 (p.2.2+p.1) m) else ag (aO .i64 (p.1+p.1) m,p.2.1/2,p.2.2)) else p.2.2)→
   ah (b.toNat+1) F d (a,b,0)=a*b% m:=fun F d hF=>KQ (by omega) hF _ a b 0 ha hb ⟨by omega,by omega⟩ (by rw [Int.zero_add]) (by omega)
 by_cases h1:a<2147483648
 ·rw [if_pos (by simpa using h1)]
  by_cases h2:b<2147483648
  ·rw [if_pos (by simpa using h2)]
   have hp:=mO ha (show a≤2147483647 by omega) hb (show b≤2147483647 by omega)
   have e:aX .i64 a b=a*b:=by
    unfold aX;rw [IntKind.wrap_i64]
    generalize a*b=p at hp
    omega
   rw [e,gu hp.1]
  ·rw [if_neg (by simpa using h2)]
   exact key _ _ (fun ag p=>rfl)
 ·rw [if_neg (by simpa using h1)]
  exact key _ _ (fun ag p=>rfl)
theorem lA {a b m x:Int} (hx:x=eQ a b m) (ha:0≤a) (hm:a<m) (hb:0≤b):0≤x∧x<m:=by
 rw [hx,mQ ha hm hb];exact ⟨Int.emod_nonneg _ (by omega),Int.emod_lt_of_pos _ (by omega)⟩
theorem xx {a e m x:Int} (hx:x=ef a e m) (ha:0≤a) (hm:a<m):0≤x∧x<m:=by
 subst hx
 unfold ef
 refine eP (P:=fun p:Int×Int×Int=>0≤p.1∧p.1<m∧0≤p.2.2∧p.2.2<m) (Q:=fun x=>0≤x∧x<m) (meas:=fun p=>p.2.1.toNat) ?_ _ _ ⟨ha,hm,tj (by omega)⟩ (by show e.toNat<_;omega)
 rintro ag ⟨a,e,x⟩ ⟨p1,p2,p3,p4⟩ ih
 simp only at p1 p2 p3 p4 ih⊢
 by_cases he:e>0
 ·rw [if_pos (by simpa using he)]
  have hs:(e/2).toNat<e.toNat:=by omega
  simp only [ab]
  by_cases hc:(e% 2==1)=true
  ·rw [if_pos hc]
   have m1:=lA (x:=eQ x a m) rfl p3 p4 p1
   have m2:=lA (x:=eQ a a m) rfl p1 p2 p1
   exact ih _ ⟨m2.1,m2.2,m1.1,m1.2⟩ hs
  ·rw [if_neg hc]
   have m2:=lA (x:=eQ a a m) rfl p1 p2 p1
   exact ih _ ⟨m2.1,m2.2,p3,p4⟩ hs
 ·rw [if_neg (by simpa using he)]
  exact ⟨p3,p4⟩
theorem cT {j:Int} (h0:0≤j) (h1:j<12):2≤gt ([2,3,5,7,11,13,17,19,23,29,31,37]:List Int) j∧gt ([2,3,5,7,11,13,17,19,23,29,31,37]:List Int) j≤37:=cS h0 h1
theorem KR {u i:Int} (h:kt u i) (hu:0≤u) (h0:0≤i) (h1:i<12) (hr: ¬aO .i64 u (gt ([2,3,5,7,11,13,17,19,23,29,31,37]:List Int) i)=0):kt u (i+1):=xp h hu h0 h1 hr
theorem tm {p q:Int} (hp:3≤p) (hp1:p<2305843009213693952) (hq:3≤q) (h:aO .i64 (ap .i64 p 1) q=0):q<2305843009213693952:=by
 have e:ap .i64 p 1=p - 1:=by unfold ap;rw [IntKind.wrap_i64];omega
 rw [e,gu (by omega)] at h
 have h1:q≤p - 1:=Int.le_of_dvd (by omega) (Int.dvd_of_emod_eq_zero h)
 omega
theorem lB {a m:Int} (ha:0≤a) (hm:0<m):0≤aO .i64 a m∧aO .i64 a m<m:=by
 rw [gu ha];exact ⟨Int.emod_nonneg _ (by omega),Int.emod_lt_of_pos _ hm⟩
instance xy (g:ak):CF (eF g) (fun x=>x=true→3≤g.Q∧3≤g.P∧g.P<2305843009213693952∧g.Q<g.P∧2≤g.G∧g.G<g.P):=⟨fun h=>by
 unfold eF at h
 simp only [ab] at h
 repeat' (split at h)
 all_goals first|cases h|skip
 all_goals (
  simp only [decide_eq_true_eq,bne_iff_ne,ne_eq,Decidable.not_not,beq_iff_eq,Int.not_lt] at*
  have h1:g.Q≤g.P - 1:=by
   have e:ap .i64 g.P 1=g.P - 1:=by unfold ap;rw [IntKind.wrap_i64];omega
   have h5:aO .i64 (ap .i64 g.P 1) g.Q=0:=by assumption
   rw [e,gu (by omega)] at h5
   exact Int.le_of_dvd (by omega) (Int.dvd_of_emod_eq_zero h5)
  omega)⟩
instance Cd (g:ak) (x:Int):CF (dH g x) (fun r=>r=true→1≤x∧x<g.P):=⟨fun h=>by
 unfold dH at h
 split at h
 ·split at h
  ·simp only [decide_eq_true_eq] at*;omega
  ·cases h
 ·cases h⟩
theorem Ce: ∀{l m:List aJ},cI (l++m)=cI l+cI m
 | [],m=>by simp [cI]
 | x::l,m=>by rw [List.cons_append,cI,cI,Ce];omega
theorem KS {l:List Int} {x:aJ} (hx:x=jv l):hgt x=1+l.length:=by subst hx;rw [KL,KM]
theorem KU {α β:Type} {n:Int} {f:Int→β} {F:(Int×List β→List β)→Int×List β→List β} {d:Int×List β→List β} {s:List β} (hF: ∀ag p,F ag p=if decide (p.1<n)=true then ag (p.1+1,p.2++[f p.1]) else p.2) (hn:0≤n):
  (ah ((n - 0).toNat+1) F d (0,s)).length=s.length+n.toNat:=by
 refine eP (P:=fun a:Int×List β=>0≤a.1∧a.1≤n∧(a.2.length:Int)=s.length+a.1) (Q:=fun r:List β=>r.length=s.length+n.toNat) (meas:=fun a=>(n - a.1).toNat) ?_ _ _ ?_ ?_
 rotate_left
 ·exact ⟨Int.le_refl _,hn,by simp⟩
 ·show (n - 0).toNat<(n - 0).toNat+1
  omega
 rintro ag ⟨i,l⟩ ⟨h0,h1,h2⟩ ih
 simp only at h0 h1 h2
 rw [hF]
 by_cases hp:i<n
 ·rw [if_pos (by simpa using hp)]
  exact ih _ ⟨by simp only;omega,by simp only;omega,by simp only [List.length_append,List.length_cons,List.length_nil];omega⟩ (by simp only;omega)
 ·rw [if_neg (by simpa using hp)];simp only;omega
theorem xz {g:ak} {rows:List (List Int)} {e:List Int} {x:List Int} (hx:x=dF g rows e):x.length=rows.length:=by
 rw [hx];unfold dF
 simp only [ab]
 rw [KU (α:=Unit) (f:=fun i=>nV g 1 (gt rows i) e) (fun ag p=>rfl) (by omega)]
 simp
instance QF (l:List UInt8):CF (kp l) (fun x=>x=true→1≤l.length∧l.length≤24):=⟨fun h=>by
 unfold kp at h
 repeat' (split at h)
 all_goals first|cases h|(simp only [decide_eq_true_eq] at*;omega)⟩
theorem KV {g:ak} {r:aF} {p:dg} (h:gY g r p=true):okR g r∧p.A.length=r.Y.length:=by
 unfold gY at h
 simp only [ab] at h
 cases hv:bU g r with
 | false=>rw [hv] at h;cases h
 | true=>
  refine ⟨qn hv,?_⟩
  rw [hv,if_neg (by decide)] at h
  split at h
  ·cases h
  ·rename_i h1
   simp only [bne_iff_ne,ne_eq,Decidable.not_not] at h1
   omega
instance KW (g:ak) (r:aF) (p:dg):CF (gY g r p) (fun x=>x=true→okR g r∧p.A.length=r.Y.length):=⟨fun h=>KV h⟩
theorem KX {E:Env} {S:St} (W:Nat) {T n:Nat} {g:Bool} {z:Option Bool} {l:List V} (m:List V) (h:ae S.H W=some (.own T n g z l)) (hm:mtL l m):ir E S ⟨S.F,dc (dc S.H W (.own T n g none m)) W (.pown n g none m),S.nx⟩:=by
 refine ir.trans (S1:=⟨S.F,dc S.H W (.own T n g none m),S.nx⟩) ?_ (A7 (S:=⟨S.F,dc S.H W (.own T n g none m),S.nx⟩) (T:=T) W (by rw [cV,if_pos rfl]))
 intro c0 c ρ F hs
 have hlen:=jP hm
 refine ⟨c,rfl,Cx.pub.refl _,⟨hs.1.since,hs.1.gl,hs.1.slot,?_,?_⟩,hs.2⟩
 ·intro j b hb
  simp only [cV] at hb
  split at hb
  ·rename_i e;subst e;cases hb
   obtain ⟨v,h1,h2,h3,h4,a,cap,e',h5⟩:=hs.1.heap _ _ h
   refine ⟨v,h1,⟨hlen▸h2.1,?_⟩,h3,h4,a,cap,hlen▸e',kP (by cases z<;>trivial) h5⟩
   rcases h2.2 with ⟨a',e9,rfl⟩|⟨g',cp,cur,e,k1,k2,k3,k4,k5,k6⟩
   ·exact .inl ⟨a',e9,List.eq_nil_of_length_eq_zero hlen.symm⟩
   ·rw [hlen] at e k3 k6
    exact .inr ⟨g',cp,cur,e,k1,k2,k3,k4,k5,wi hm k6⟩
  ·exact hs.1.heap _ _ hb
 ·intro a b ba bb x hab ha hb hpa hpb hx
  simp only [cV] at ha hb
  have key: ∀y by',(if W=y then some (Blk.own T n g none m) else ae S.H y)=some by'→aY by'=true→ ∃by2,ae S.H y=some by2∧aY by2=true:=by
   intro y by' hy hp
   split at hy
   ·rename_i e;subst e;exact ⟨_,h,rfl⟩
   ·exact ⟨by',hy,hp⟩
  obtain ⟨ba',ha',hpa'⟩:=key a ba ha hpa
  obtain ⟨bb',hb',hpb'⟩:=key b bb hb hpb
  exact hs.1.sep a b ba' bb' x hab ha' hb' hpa' hpb' hx
end Go.Proofs.YtgealhhkngbkbaaGreatDoor
namespace Go.Proofs.YtgealhhkngbkbaaGreatDoor
open Go.RowKit
theorem xA (f:aa):ay f=1+cP f.L:=by cases f;rfl
theorem Cf: ∀{l:List aa} {x:aa},x∈l→ay x≤cP l
 | a::l,x,h=>by
  rw [cP]
  rcases List.mem_cons.1 h with rfl|h
  ·omega
  ·have:=Cf h;omega
theorem cU {f x:aa} (h:x∈f.L):ay x<ay f:=by rw [xA f];have:=Cf h;omega
theorem KY (t:av):fy t=1+pC t.L:=by cases t;rfl
theorem Cg: ∀{l:List av} {x:av},x∈l→fy x≤pC l
 | a::l,x,h=>by
  rw [pC]
  rcases List.mem_cons.1 h with rfl|h
  ·omega
  ·have:=Cg h;omega
theorem KZ {f x:av} (h:x∈f.L):fy x<fy f:=by rw [KY f];have:=Cg h;omega
theorem iF {α:Type} [Inhabited α] {l:List α} {k:Nat} (h:k<l.length):gt l (k:Int)=l[k]:=by simp [gt,List.getD_eq_getElem?_getD,h]
theorem Ch {α:Type} [Inhabited α] {l:List α} (f:α→Int→Bool×Int) (L:List α→Int→Bool×Int) (h0: ∀n,L [] n=(true,n)) (h1: ∀a l n,L (a::l) n=if (f a n).1=true then L l (f a n).2 else (false,(f a n).2))
  {F:(Int×Int→Int×Int)→Int×Int→Int×Int} {d:Int×Int→Int×Int} (hF: ∀ag p,F ag p=if decide (p.1<(l.length:Int))=true then (if (!(f (gt l p.1) p.2).1)=true then (p.1,(f (gt l p.1) p.2).2) else ag (p.1+1,(f (gt l p.1) p.2).2)) else (-1,p.2)) (n:Int):
  (decide ((ah (((l.length:Int) - 0).toNat+1) F d (0,n)).1≥0),(ah (((l.length:Int) - 0).toNat+1) F d (0,n)).2)=(!(L l n).1,(L l n).2):=by
 have key: ∀(m k:Nat) (n:Int),l.length - k=m→k≤l.length→ ∀fuel,m<fuel→(decide ((ah fuel F d ((k:Int),n)).1≥0),(ah fuel F d ((k:Int),n)).2)=(!(L (l.drop k) n).1,(L (l.drop k) n).2):=by
  intro m
  induction m with
  | zero=>
   intro k n e1 e2 fuel hf
   obtain ⟨g,rfl⟩: ∃g,fuel=g+1:=⟨fuel - 1,by omega⟩
   rw [ah,hF,if_neg (by simp;omega),List.drop_of_length_le (by omega),h0]
   rfl
  | succ m ih=>
   intro k n e1 e2 fuel hf
   obtain ⟨g,rfl⟩: ∃g,fuel=g+1:=⟨fuel - 1,by omega⟩
   have hk:k<l.length:=by omega
   rw [ah,hF,if_pos (by simp;omega),List.drop_eq_getElem_cons hk,h1]
   dsimp only
   rw [iF hk]
   cases hc:(f l[k] n).1 with
   | false=>
    rw [if_pos (show (!false)=true from rfl),if_neg (show¬(false=true) by decide)]
    simp
   | true=>
    rw [if_neg (show¬(!true)=true by decide),if_pos rfl]
    exact ih (k+1) _ (by omega) (by omega) g (by omega)
 have h5:=key l.length 0 n (by omega) (by omega) (((l.length:Int) - 0).toNat+1) (by omega)
 simpa using h5
theorem K0 {α:Type} [Inhabited α] {l:List α} (f:α→Int→Bool×Int) (L:List α→Int→Bool×Int) (h0: ∀n,L [] n=(true,n)) (h1: ∀a l n,L (a::l) n=if (f a n).1=true then L l (f a n).2 else (false,(f a n).2))
  {F:(Int×Int→Bool×Int)→Int×Int→Bool×Int} {d:Int×Int→Bool×Int} (hF: ∀ag p,F ag p=if decide (p.1<(l.length:Int))=true then (if (!(f (gt l p.1) p.2).1)=true then (false,(f (gt l p.1) p.2).2) else ag (p.1+1,(f (gt l p.1) p.2).2)) else (true,p.2)) (n:Int):
  ah (((l.length:Int) - 0).toNat+1) F d (0,n)=L l n:=by
 have key: ∀(m k:Nat) (n:Int),l.length - k=m→k≤l.length→ ∀fuel,m<fuel→ah fuel F d ((k:Int),n)=L (l.drop k) n:=by
  intro m
  induction m with
  | zero=>
   intro k n e1 e2 fuel hf
   obtain ⟨g,rfl⟩: ∃g,fuel=g+1:=⟨fuel - 1,by omega⟩
   rw [ah,hF,if_neg (by simp;omega),List.drop_of_length_le (by omega),h0]
  | succ m ih=>
   intro k n e1 e2 fuel hf
   obtain ⟨g,rfl⟩: ∃g,fuel=g+1:=⟨fuel - 1,by omega⟩
   have hk:k<l.length:=by omega
   rw [ah,hF,if_pos (by simp;omega),List.drop_eq_getElem_cons hk,h1]
   dsimp only
   rw [iF hk]
   cases hc:(f l[k] n).1 with
   | false=>rw [if_pos (show (!false)=true from rfl),if_neg (show¬(false=true) by decide)]
   | true=>
    rw [if_neg (show¬(!true)=true by decide),if_pos rfl]
    exact ih (k+1) _ (by omega) (by omega) g (by omega)
 have h5:=key l.length 0 n (by omega) (by omega) (((l.length:Int) - 0).toNat+1) (by omega)
 simpa using h5
theorem K1 (a:aa) (l:List aa) (n:Int):lg (a::l) n=if (dr a n).1=true then lg l (dr a n).2 else (false,(dr a n).2):=by
 rw [lg]
 rcases dr a n with ⟨b,m⟩
 cases b<;>rfl
theorem K2 (a:av) (l:List av) (n:Int):lh (a::l) n=if (dt a n).1=true then lh l (dt a n).2 else (false,(dt a n).2):=by
 rw [lh]
 rcases dt a n with ⟨b,m⟩
 cases b<;>rfl
theorem xB (G:aa→Bool) (d:Int) (a:aa) (l:List aa) (n:Int):fz G (a::l) d n=if (cb G a d n).1=true then fz G l d (cb G a d n).2 else (false,(cb G a d n).2):=by
 rw [fz]
 rcases cb G a d n with ⟨b,m⟩
 cases b<;>rfl
theorem K3 (l:List aa) (n:Int):nX l n=(!(lg l n).1,(lg l n).2):=
 Ch dr lg (fun _=>rfl) K1 (fun ag p=>rfl) n
theorem K4 (l:List av) (n:Int):nZ l n=(!(lh l n).1,(lh l n).2):=
 Ch dt lh (fun _=>rfl) K2 (fun ag p=>rfl) n
theorem g8 {α:Type} [Inhabited α] {l:List α} (f:α→Bool) {F:(Int→Int)→Int→Int} {d:Int→Int} (hF: ∀ag p,F ag p=if decide (p<(l.length:Int))=true then (if f (gt l p)=true then p else ag (p+1)) else -1):
  decide (ah (((l.length:Int) - 0).toNat+1) F d 0≥0)=l.any f:=by
 have key: ∀(m k:Nat),l.length - k=m→k≤l.length→ ∀fuel,m<fuel→decide (ah fuel F d (k:Int)≥0)=(l.drop k).any f:=by
  intro m
  induction m with
  | zero=>
   intro k e1 e2 fuel hf
   obtain ⟨g,rfl⟩: ∃g,fuel=g+1:=⟨fuel - 1,by omega⟩
   rw [ah,hF,if_neg (by simp;omega),List.drop_of_length_le (by omega)]
   rfl
  | succ m ih=>
   intro k e1 e2 fuel hf
   obtain ⟨g,rfl⟩: ∃g,fuel=g+1:=⟨fuel - 1,by omega⟩
   have hk:k<l.length:=by omega
   rw [ah,hF,if_pos (by simp;omega),List.drop_eq_getElem_cons hk,iF hk,List.any_cons]
   cases hc:f l[k] with
   | true=>rw [if_pos rfl];simp
   | false=>
    rw [if_neg (by decide),Bool.false_or]
    exact ih (k+1) (by omega) (by omega) g (by omega)
 have h5:=key l.length 0 (by omega) (by omega) (((l.length:Int) - 0).toNat+1) (by omega)
 simpa using h5
theorem K5 (l:List (List Int)):s5 l=l.any (fun x=>decide ((x.length:Int)>20)):=
 g8 s4 (fun ag p=>rfl)
theorem K6 (f:aa) (n:Int):nY f n=dr f n:=by
 obtain ⟨k,r,l⟩:=f
 unfold nY
 simp only [aq,K5,K3,dr,decide_eq_true_eq,Bool.not_not]
theorem K7 (f:av) (n:Int):n0 f n=dt f n:=by
 obtain ⟨k,r,l⟩:=f
 unfold n0
 simp only [aq,K4,dt,decide_eq_true_eq,Bool.not_not]
theorem Ci (G:aa→Bool) (l:List aa) (d n:Int) {F:(Int×Int→Bool×Int)→Int×Int→Bool×Int} {df:Int×Int→Bool×Int} (hF: ∀ag p,F ag p=if decide (p.1<(l.length:Int))=true then (if (!(cb G (gt l p.1) d p.2).1)=true then (false,(cb G (gt l p.1) d p.2).2) else ag (p.1+1,(cb G (gt l p.1) d p.2).2)) else (true,p.2)):
  ah (((l.length:Int) - 0).toNat+1) F df (0,n)=fz G l d n:=
 K0 (fun a n=>cb G a d n) (fun l n=>fz G l d n) (fun _=>rfl) (xB G d) hF n
theorem K8 (f:aa) (d n:Int):nM f d n=cb c7 f d n:=by
 obtain ⟨k,r,l⟩:=f
 unfold nM
 rw [cb]
 by_cases c0:ap .i64 n 1<0
 ·rw [if_pos (by simpa using c0),if_pos c0]
 rw [if_neg (by simpa using c0),if_neg c0]
 by_cases c1:d>6
 ·rw [if_pos (by simpa using c1),if_pos c1]
 rw [if_neg (by simpa using c1),if_neg c1,aq]
 dsimp only
 cases c2:c7 ⟨k,r,l⟩ with
 | false=>rw [if_pos (show (!false)=true from rfl),if_pos rfl]
 | true=>
  rw [if_neg (show¬(!true)=true by decide),if_neg (show¬(true=false) by decide)]
  exact Ci c7 l _ _ (fun ag p=>rfl)
theorem K9 (f:aa) (d n:Int) (g:ak):nR f d n g=jj dh f d n g:=by
 obtain ⟨k,r,l⟩:=f
 unfold nR jj
 rw [cb]
 by_cases c0:ap .i64 n 1<0
 ·rw [if_pos (by simpa using c0),if_pos c0]
 rw [if_neg (by simpa using c0),if_neg c0]
 by_cases c1:d>6
 ·rw [if_pos (by simpa using c1),if_pos c1]
 rw [if_neg (by simpa using c1),if_neg c1,aq]
 dsimp only
 cases c2:dh ⟨k,r,l⟩ g with
 | false=>rw [if_pos (show (!false)=true from rfl),if_pos rfl]
 | true=>
  rw [if_neg (show¬(!true)=true by decide),if_neg (show¬(true=false) by decide)]
  exact Ci (fun f=>dh f g) l _ _ (fun ag p=>rfl)
mutual
def okF:aa→Prop
 | ⟨k,r,l⟩=>if k=1 then 1≤r.Bases.length else iG l
def iG:List aa→Prop
 | []=>True
 | f::l=>okF f∧iG l
end
theorem Cj: ∀{l:List aa},iG l→ ∀x∈l,okF x
 | f::l,h,x,hx=>by
  rw [iG] at h
  rcases List.mem_cons.1 hx with rfl|hx
  ·exact h.1
  ·exact Cj h.2 x hx
theorem xC {f:aa} (h:okF f) (hk:f.Kind=1):1≤f.Relation.Bases.length:=by
 obtain ⟨k,r,l⟩:=f
 rw [okF,if_pos hk] at h;exact h
theorem lC {f x:aa} (h:okF f) (hk: ¬f.Kind=1) (hx:x∈f.L):okF x:=by
 obtain ⟨k,r,l⟩:=f
 rw [okF,if_neg hk] at h;exact Cj h x hx
theorem Ck: ∀(l:List aa) (a:Int),jk l a=l.foldl (fun a f=>b_ a (bf f)) a
 | [],a=>rfl
 | f::l,a=>by rw [jk,Ck l];rfl
theorem K_ {α R:Type} [Inhabited α] {l:List α} (f:Int→α→Int) (E:Int→R) {F:(Int×Int→R)→Int×Int→R} {d:Int×Int→R} (hF: ∀ag p,F ag p=if decide (p.2<(l.length:Int))=true then ag (f p.1 (gt l p.2),p.2+1) else E p.1) (a:Int):
  ah (((l.length:Int) - 0).toNat+1) F d (a,0)=E (l.foldl f a):=by
 have key: ∀(m k:Nat) (a:Int),l.length - k=m→k≤l.length→ ∀fuel,m<fuel→ah fuel F d (a,(k:Int))=E ((l.drop k).foldl f a):=by
  intro m
  induction m with
  | zero=>
   intro k a e1 e2 fuel hf
   obtain ⟨g,rfl⟩: ∃g,fuel=g+1:=⟨fuel - 1,by omega⟩
   rw [ah,hF,if_neg (by simp;omega),List.drop_of_length_le (by omega)]
   rfl
  | succ m ih=>
   intro k a e1 e2 fuel hf
   obtain ⟨g,rfl⟩: ∃g,fuel=g+1:=⟨fuel - 1,by omega⟩
   have hk:k<l.length:=by omega
   rw [ah,hF,if_pos (by simp;omega),List.drop_eq_getElem_cons hk,List.foldl_cons]
   dsimp only
   rw [iF hk]
   exact ih (k+1) _ (by omega) (by omega) g (by omega)
 have h5:=key l.length 0 a (by omega) (by omega) (((l.length:Int) - 0).toNat+1) (by omega)
 simpa using h5
theorem La (f:aa):pH f=bf f:=by
 obtain ⟨k,r,l⟩:=f
 unfold pH
 rw [bf]
 by_cases h:k=1
 ·rw [if_pos (by simpa using h),if_pos h]
 ·rw [if_neg (by simpa using h),if_neg h,Ck]
  exact K_ (l:=l) (fun a f=>b_ a (bf f)) (fun a=>a) (fun ag p=>rfl) 0
end Go.Proofs.YtgealhhkngbkbaaGreatDoor
