/- Texts of this proof, one after the other: SH, E1, M, H1, HS, H2. -/
import Derived.Ground.NamesProg
import Derived.Shelf.LaysM
import Derived.Shelf.LaysC
import Derived.Shelf.Strconv.Itoa0
import Derived.Shelf.Lays
import Derived.Test.YtlmleoeemmhboaaGreatDoorProg
import Derived.Test.YtlmleoeemmhboaaGreatDoorZ5
import Derived.Lib.BitFns
import Derived.KernelRfl
set_option linter.unusedVariables false
set_option linter.unusedSimpArgs false
namespace Go.Proofs
open Go.Shelf
def Tryz.lays129_ren:Go.Shelf.Ren:=⟨fun|129=>221|n=>n,fun|53=>176|3=>3|4=>4|46=>169|5=>5|9=>9|n=>n,fun|n=>n⟩
theorem Tryz.lays129:Go.Proofs.Lays.n129 Tryz.prog Tryz.lays129_ren:={
 mixed:=by kernel_rfl
 f129:=Tryz.func221.trans (congrArg some (by kernel_rfl))
 t3:=Tryz.underlying3
 a3:=Tryz.isAgg3
 z3:=Tryz.sizeOf3
 v3:=Tryz.zeroValue3
 t4:=Tryz.underlying4
 a4:=Tryz.isAgg4
 z4:=Tryz.sizeOf4
 v4:=Tryz.zeroValue4
 t5:=Tryz.underlying5
 a5:=Tryz.isAgg5
 z5:=Tryz.sizeOf5
 v5:=Tryz.zeroValue5
 t9:=Tryz.underlying9
 a9:=Tryz.isAgg9
 z9:=Tryz.sizeOf9
 v9:=Tryz.zeroValue9
 t46:=Tryz.underlying169
 a46:=Tryz.isAgg169
 z46:=Tryz.sizeOf169
 v46:=Tryz.zeroValue169
 t53:=Tryz.underlying176
 a53:=Tryz.isAgg176
 z53:=Tryz.sizeOf176
 v53:=Tryz.zeroValue176}
theorem Tryz.bits_Len64 (x:Int) (w:World) (h0:0≤x) (h1:x≤18446744073709551615):
  Calls Tryz.prog 221 #[.int .u64 x] w fun e w'=>e= .returned (.int .i64 (Lib.bitLen x.toNat))∧w'=w:=Any.bits_Len64 Tryz.lays129 x w h0 h1
end Go.Proofs
namespace Go.Proofs.YtlmleoeemmhboaaGreatDoor
open Go.RowKit Go.Shelf Go.Lib
def ra (x:Int):Int:=(Lib.bitLen x.toNat:Int)
theorem GT {f:FuncId} {ws:List V} {r:V} (he: ∀xs w,(callFunc f xs).run En.P w= .ok (.enter f xs) w)
  (h: ∀(c:Cx) us,Gl En c→rdT ro0 c ws us→wfL ws→Calls En.P f us.toArray c.w fun e w'=> ∃v,e= .returned v∧Below c.w.heap.size c.w w'∧ ∀c',rd ro0 c' r v):bC En f ws r []:=
 ⟨he,fun c us _ hg hus=>(h c us hg hus (kq hus)).mono fun e w' ⟨v,e1,hb,hr⟩=>⟨v,c.at w' hb.size,ro0,e1,rfl,Cx.le_at hb,hr _,⟨fun i b hb=>by simp at hb,fun i _=>rfl,fun i j bi bj k _ hb=>by simp at hb⟩⟩⟩
theorem GU (x_:Int):bC En 221 [.int .u64 x_] (.int .i64 (ra x_)) []:=by
 refine GT (show∀xs w,(callFunc 221 xs).run En.P w= .ok (.enter 221 xs) w from enters_of Tryz.func221 (by kernel_rfl) rfl) fun c us hg hus hw=> ?_
 simp only [rdT,rd] at hus
 obtain ⟨u0,c2,rfl,⟨rfl,l0⟩,rfl⟩:=hus
 have h0:0≤x_∧x_≤18446744073709551615:=l0
 refine (show Calls En.P 221 #[.int .u64 x_] c.w _ from Tryz.bits_Len64 x_ c.w h0.1 h0.2).mono ?_
 rintro e w' ⟨rfl,rfl⟩
 refine ⟨_,rfl,Below.refl _ _,fun c'=> ?_⟩
 have hl:=Lib.bitLen_le x_.toNat 64 (by decide) (by omega)
 simp only [rd]
 refine ⟨rfl,show (-9223372036854775808:Int)≤(Lib.bitLen x_.toNat:Int)∧(Lib.bitLen x_.toNat:Int)≤9223372036854775807 from ?_⟩
 constructor<;>omega
instance Mt (x_:Int):CM En (ra x_) 221 [.int .u64 x_] (fun y=> .int .i64 y) (fun _=> []):=⟨GU x_⟩
end Go.Proofs.YtlmleoeemmhboaaGreatDoor
namespace Go.Proofs.YtlmleoeemmhboaaGreatDoor
open Go.RowKit
def oo (x_:Int):Int:=
 (if (x_==0) then 64 else (ae .i64 (gt jH (au .u64 (aT .u64 (bG .u64 x_ (jm .u64 x_)) 285870213051353865) 58))))
def jU (x_:Int) (y:Int):(Int×Int):=
 ((aq .u64 (aq .u64 (aT .u64 (au .u64 x_ 32) (au .u64 y 32)) (au .u64 (aq .u64 (aT .u64 (au .u64 x_ 32) (bG .u64 y 4294967295)) (au .u64 (aT .u64 (bG .u64 x_ 4294967295) (bG .u64 y 4294967295)) 32)) 32)) (au .u64 (aq .u64 (bG .u64 (aq .u64 (aT .u64 (au .u64 x_ 32) (bG .u64 y 4294967295)) (au .u64 (aT .u64 (bG .u64 x_ 4294967295) (bG .u64 y 4294967295)) 32)) 4294967295) (aT .u64 (bG .u64 x_ 4294967295) (au .u64 y 32))) 32)),(aT .u64 x_ y))
def kX (x_:Int):Int:=
 (ak (ra x_) (fun (x1:Int)=>(aD .i64 64 x1)))
def mB (hi:Int) (lo:Int) (y:Int):(Int×Int):=
 (if (y==0) then (default:(Int×Int)) else (if (decide (y≤hi)) then (default:(Int×Int)) else (if (hi==0) then ((cR .u64 lo y),(cD .u64 lo y)) else (ak (kX y) (fun (x10:Int)=>(gj (fun (p14:Int)=>(gj (fun (p15:Int)=>((aq .u64 (aT .u64 p14 4294967296) p15),(au .u64 (aD .u64 (aq .u64 (aT .u64 (aD .u64 (aq .u64 (aT .u64 (orI .u64 (ap .u64 hi (ae .u64 x10)) (au .u64 lo (aD .u64 64 (ae .u64 x10)))) 4294967296) (au .u64 (ap .u64 lo (ae .u64 x10)) 32)) (aT .u64 p14 (ap .u64 y (ae .u64 x10)))) 4294967296) (bG .u64 (ap .u64 lo (ae .u64 x10)) 4294967295)) (aT .u64 p15 (ap .u64 y (ae .u64 x10)))) (ae .u64 x10)))) (fun j15=>(ao ((4294967296 - (aD .u64 (aD .u64 (aq .u64 (aT .u64 (orI .u64 (ap .u64 hi (ae .u64 x10)) (au .u64 lo (aD .u64 64 (ae .u64 x10)))) 4294967296) (au .u64 (ap .u64 lo (ae .u64 x10)) 32)) (aT .u64 p14 (ap .u64 y (ae .u64 x10)))) (aT .u64 (cR .u64 (aD .u64 (aq .u64 (aT .u64 (orI .u64 (ap .u64 hi (ae .u64 x10)) (au .u64 lo (aD .u64 64 (ae .u64 x10)))) 4294967296) (au .u64 (ap .u64 lo (ae .u64 x10)) 32)) (aT .u64 p14 (ap .u64 y (ae .u64 x10)))) (au .u64 (ap .u64 y (ae .u64 x10)) 32)) (au .u64 (ap .u64 y (ae .u64 x10)) 32)))).toNat+1) (fun (ag16:(Int×Int)→(Int×Int)) (p16:Int×Int)=>(if (decide (p16.2≥4294967296)) then (if (decide ((aq .u64 p16.1 (au .u64 (ap .u64 y (ae .u64 x10)) 32))≥4294967296)) then (j15 (aD .u64 p16.2 1)) else (ag16 ((aq .u64 p16.1 (au .u64 (ap .u64 y (ae .u64 x10)) 32)),(aD .u64 p16.2 1)))) else (if (decide ((aT .u64 p16.2 (bG .u64 (ap .u64 y (ae .u64 x10)) 4294967295))>(aq .u64 (aT .u64 4294967296 p16.1) (bG .u64 (ap .u64 lo (ae .u64 x10)) 4294967295)))) then (if (decide ((aq .u64 p16.1 (au .u64 (ap .u64 y (ae .u64 x10)) 32))≥4294967296)) then (j15 (aD .u64 p16.2 1)) else (ag16 ((aq .u64 p16.1 (au .u64 (ap .u64 y (ae .u64 x10)) 32)),(aD .u64 p16.2 1)))) else (j15 p16.2)))) (fun _=>default) ((aD .u64 (aD .u64 (aq .u64 (aT .u64 (orI .u64 (ap .u64 hi (ae .u64 x10)) (au .u64 lo (aD .u64 64 (ae .u64 x10)))) 4294967296) (au .u64 (ap .u64 lo (ae .u64 x10)) 32)) (aT .u64 p14 (ap .u64 y (ae .u64 x10)))) (aT .u64 (cR .u64 (aD .u64 (aq .u64 (aT .u64 (orI .u64 (ap .u64 hi (ae .u64 x10)) (au .u64 lo (aD .u64 64 (ae .u64 x10)))) 4294967296) (au .u64 (ap .u64 lo (ae .u64 x10)) 32)) (aT .u64 p14 (ap .u64 y (ae .u64 x10)))) (au .u64 (ap .u64 y (ae .u64 x10)) 32)) (au .u64 (ap .u64 y (ae .u64 x10)) 32))),(cR .u64 (aD .u64 (aq .u64 (aT .u64 (orI .u64 (ap .u64 hi (ae .u64 x10)) (au .u64 lo (aD .u64 64 (ae .u64 x10)))) 4294967296) (au .u64 (ap .u64 lo (ae .u64 x10)) 32)) (aT .u64 p14 (ap .u64 y (ae .u64 x10)))) (au .u64 (ap .u64 y (ae .u64 x10)) 32))))))) (fun j14=>(ao ((4294967296 - (aD .u64 (orI .u64 (ap .u64 hi (ae .u64 x10)) (au .u64 lo (aD .u64 64 (ae .u64 x10)))) (aT .u64 (cR .u64 (orI .u64 (ap .u64 hi (ae .u64 x10)) (au .u64 lo (aD .u64 64 (ae .u64 x10)))) (au .u64 (ap .u64 y (ae .u64 x10)) 32)) (au .u64 (ap .u64 y (ae .u64 x10)) 32)))).toNat+1) (fun (ag29:(Int×Int)→(Int×Int)) (p29:Int×Int)=>(if (decide (p29.1≥4294967296)) then (if (decide ((aq .u64 p29.2 (au .u64 (ap .u64 y (ae .u64 x10)) 32))≥4294967296)) then (j14 (aD .u64 p29.1 1)) else (ag29 ((aD .u64 p29.1 1),(aq .u64 p29.2 (au .u64 (ap .u64 y (ae .u64 x10)) 32))))) else (if (decide ((aT .u64 p29.1 (bG .u64 (ap .u64 y (ae .u64 x10)) 4294967295))>(aq .u64 (aT .u64 4294967296 p29.2) (au .u64 (ap .u64 lo (ae .u64 x10)) 32)))) then (if (decide ((aq .u64 p29.2 (au .u64 (ap .u64 y (ae .u64 x10)) 32))≥4294967296)) then (j14 (aD .u64 p29.1 1)) else (ag29 ((aD .u64 p29.1 1),(aq .u64 p29.2 (au .u64 (ap .u64 y (ae .u64 x10)) 32))))) else (j14 p29.1)))) (fun _=>default) ((cR .u64 (orI .u64 (ap .u64 hi (ae .u64 x10)) (au .u64 lo (aD .u64 64 (ae .u64 x10)))) (au .u64 (ap .u64 y (ae .u64 x10)) 32)),(aD .u64 (orI .u64 (ap .u64 hi (ae .u64 x10)) (au .u64 lo (aD .u64 64 (ae .u64 x10)))) (aT .u64 (cR .u64 (orI .u64 (ap .u64 hi (ae .u64 x10)) (au .u64 lo (aD .u64 64 (ae .u64 x10)))) (au .u64 (ap .u64 y (ae .u64 x10)) 32)) (au .u64 (ap .u64 y (ae .u64 x10)) 32))))))))))))
def fN (a_:Int) (b:Int) (n_:Int):Int:=
 (ak (jU a_ b) (fun (x1:(Int×Int))=>(ak (mB (x1.1) (x1.2) n_) (fun (x5:(Int×Int))=>x5.2))))
def oq (a_:Int) (e_:Int) (n_:Int):Int:=
 (ao (e_.toNat+1) (fun (ag1:(Int×Int×Int)→Int) (p1:Int×Int×Int)=>(if (decide (p1.2.1>0)) then (if ((bG .u64 p1.2.1 1)==1) then (ak (fN (p1.2.2) (p1.1) n_) (fun (x6:Int)=>(ak (fN (p1.1) (p1.1) n_) (fun (x10:Int)=>(ag1 (x10,(au .u64 p1.2.1 1),x6)))))) else (ak (fN (p1.1) (p1.1) n_) (fun (x15:Int)=>(ag1 (x15,(au .u64 p1.2.1 1),p1.2.2))))) else p1.2.2)) (fun _=>default) (a_,e_,1))
def uQ (a_:Int) (n_:Int) (d_:Int) (s:Int):Bool:=
 (ak (oq a_ d_ n_) (fun (x1:Int)=>(if (x1==1) then false else (if (x1==(aD .u64 n_ 1)) then false else (ao ((aD .i64 s 1 - 0).toNat+1) (fun (ag10:(Int×Int)→Bool) (p10:Int×Int)=>(if (decide (p10.2<(aD .i64 s 1))) then (ak (fN (p10.1) (p10.1) n_) (fun (x13:Int)=>(if (x13==(aD .u64 n_ 1)) then false else (ag10 (x13,(p10.2+1)))))) else true)) (fun _=>default) (x1,0))))))
def rb (n_:Int):Bool:=
 (if (decide (n_<2)) then false else (ao (((12:Int) - 0).toNat+1) (fun (ag4:Int→Bool) (p4:Int)=>(if (decide (p4<12)) then (if ((cD .u64 (ae .u64 n_) (gt cU p4))==0) then ((ae .u64 n_)==(gt cU p4)) else (ag4 (p4+1))) else (ak (oo (aD .u64 (ae .u64 n_) 1)) (fun (x12:Int)=>(ao (((12:Int) - 0).toNat+1) (fun (ag16:Int→Bool) (p16:Int)=>(if (decide (p16<12)) then (ak (uQ (gt cU p16) (ae .u64 n_) (au .u64 (aD .u64 (ae .u64 n_) 1) x12) x12) (fun (x20:Bool)=>(if x20 then false else (ag16 (p16+1))))) else true)) (fun _=>default) 0))))) (fun _=>default) 0))
def ot (a_:Int) (m:Int):Bool:=
 (if (decide (a_≥0)) then (decide (a_<m)) else false)
def jV (a_:Int) (b:Int) (m:Int):Int:=
 (if (decide (m<1)) then 1 else (if (decide (m≥2305843009213693952)) then 1 else (ak (ot a_ m) (fun (x6:Bool)=>(if (!x6) then 2 else (ak (ot b m) (fun (x11:Bool)=>(if (!x11) then 2 else 0))))))))
def jd (a_:Int) (b:Int) (m:Int):Int:=
 (ak (jU (ae .u64 a_) (ae .u64 b)) (fun (x1:(Int×Int))=>(ak (mB (x1.1) (x1.2) (ae .u64 m)) (fun (x5:(Int×Int))=>(ae .i64 x5.2)))))
def ou (a_:Int) (e_:Int) (m:Int):(Int×Int):=
 (ak (jV a_ a_ m) (fun (x1:Int)=>(if (x1 !=0) then (0,x1) else (if (decide (e_<0)) then (0,2) else (ao (e_.toNat+1) (fun (ag11:(Int×Int×Int)→(Int×Int)) (p11:Int×Int×Int)=>(if (decide (p11.2.1>0)) then (if ((bG .i64 p11.2.1 1)==1) then (ak (jd (p11.2.2) (p11.1) m) (fun (x16:Int)=>(ak (jd (p11.1) (p11.1) m) (fun (x20:Int)=>(ag11 (x20,(au .i64 p11.2.1 1),x16)))))) else (ak (jd (p11.1) (p11.1) m) (fun (x25:Int)=>(ag11 (x25,(au .i64 p11.2.1 1),p11.2.2))))) else (p11.2.2,0))) (fun _=>default) (a_,e_,(cD .i64 1 m)))))))
def ov (g:dL):Bool:=
 (if (decide (g.P≥2305843009213693952)) then false else (if (decide (g.Q<3)) then false else (if ((cD .i64 g.Q 2)==0) then false else (ak (rb (g.P)) (fun (x7:Bool)=>(if (!x7) then false else (ak (rb (g.Q)) (fun (x12:Bool)=>(if (!x12) then false else (if ((cD .i64 (aD .i64 g.P 1) g.Q) !=0) then false else (if (decide (g.G<2)) then false else (if (decide (g.G≥g.P)) then false else (ak (ou (g.G) (g.Q) (g.P)) (fun (x24:(Int×Int))=>(if (x24.2==0) then (x24.1==1) else false)))))))))))))))
def rc (g:dL) (x_:Int):Bool:=
 (if (decide (x_<1)) then false else (if (decide (x_≥g.P)) then false else (ak (ou x_ (g.Q) (g.P)) (fun (x6:(Int×Int))=>(x6.1==1)))))
def re (g:dL) (x_:Int):Bool:=
 (ak (ov g) (fun (x1:Bool)=>(if x1 then (ak (rc g x_) (fun (x5:Bool)=>x5)) else false)))
def ow (b:dY):Bool:=
 (ak (ov (b.Group)) (fun (x1:Bool)=>(if (!x1) then false else (ao (((3:Int) - 0).toNat+1) (fun (ag7:Int→Bool) (p7:Int)=>(if (decide (p7<(3:Int))) then (if ((gt ([b.G1,b.G2,b.H]:List Int) p7)==1) then false else (ak (re (b.Group) (gt ([b.G1,b.G2,b.H]:List Int) p7)) (fun (x13:Bool)=>(if (!x13) then false else (ag7 (p7+1)))))) else true)) (fun _=>default) 0))))
def rf (g:dL) (l:(List Int)):Int:=
 (ak (ov g) (fun (x1:Bool)=>(if (!x1) then 1 else (ao (((l.length:Int) - 0).toNat+1) (fun (ag7:Int→Int) (p7:Int)=>(if (decide (p7<(l.length:Int))) then (ak (rc g (gt l p7)) (fun (x11:Bool)=>(if (!x11) then 2 else (ag7 (p7+1))))) else 0)) (fun _=>default) 0))))
def uR (a_:Int) (m:Int):(Int×Int):=
 (ak (jV 0 0 m) (fun (x1:Int)=>(if (x1 !=0) then (0,x1) else (if (decide ((cD .i64 a_ m)<0)) then ((aq .i64 (cD .i64 a_ m) m),0) else ((cD .i64 a_ m),0)))))
def uS (g:dL) (a_:Int) (e_:Int):(Int×Int):=
 (ak (rf g ([a_]:List Int)) (fun (x1:Int)=>(if (x1 !=0) then (0,x1) else (ak (uR e_ (g.Q)) (fun (x7:(Int×Int))=>(ak (ou a_ (x7.1) (g.P)) (fun (x10:(Int×Int))=>(x10.1,x10.2))))))))
def uT (a_:Int) (b:Int) (m:Int):(Int×Int):=
 (ak (jV a_ b m) (fun (x1:Int)=>(if (x1 !=0) then (0,x1) else (ak (jd a_ b m) (fun (x8:Int)=>(x8,0))))))
def uU (g:dL) (a_:Int) (b:Int):(Int×Int):=
 (ak (rf g ([a_,b]:List Int)) (fun (x1:Int)=>(if (x1 !=0) then (0,x1) else (ak (uT a_ b (g.P)) (fun (x7:(Int×Int))=>(x7.1,x7.2))))))
def uV (b:dY) (key:Int):(Int×Int):=
 (ak (ow b) (fun (x1:Bool)=>(if (!x1) then (0,1) else (if (key==1) then (0,2) else (ak (re (b.Group) key) (fun (x9:Bool)=>(if (!x9) then (0,2) else (ak (uU (b.Group) key (b.G2)) (fun (x15:(Int×Int))=>(if (x15.2 !=0) then (0,x15.2) else (if (x15.1==1) then (0,10) else (x15.1,0))))))))))))
def rg (b:dY) (u:Int):(Int×Int):=
 (ak (ow b) (fun (x1:Bool)=>(if (!x1) then (0,1) else (if (decide (u<1)) then (0,2) else (if (decide (u≥b.Group.Q)) then (0,2) else (ak (uS (b.Group) (b.G1) u) (fun (x12:(Int×Int))=>(if (x12.2 !=0) then (0,x12.2) else (ak (uV b (x12.1)) (fun (x18:(Int×Int))=>(if (x18.2 !=0) then (0,x18.2) else (x12.1,0))))))))))))
def mC (s:List Int):List Int:=s
def ox (n_:Int):(List Int):=
 (ao (((8:Int) - 0).toNat+1) (fun (ag1:(Int×List Int)→(List Int)) (p1:Int×List Int)=>(if (decide (p1.1<(8:Int))) then (ag1 ((p1.1+1),(st p1.2 p1.1 (ae .u8 (au .u64 n_ (56 - (8*p1.1))))))) else p1.2)) (fun _=>default) (0,([(0:Int),(0:Int),(0:Int),(0:Int),(0:Int),(0:Int),(0:Int),(0:Int)]:List Int)))
def uW (x_:Int) (k_:Int):Int:=
 (orI .u32 (ap .u32 x_ (bG .u64 (ae .u64 k_) 31)) (au .u32 x_ (aD .u64 32 (bG .u64 (ae .u64 k_) 31))))
def gz (x_:Int) (n_:Int):Int:=
 (ak (uW x_ (jm .i64 n_)) (fun (x1:Int)=>x1))
def uX (block:(List Int)):(List Int):=
 (ao (((16:Int) - 0).toNat+1) (fun (ag1:(Int×(List Int))→(List Int)) (p1:Int×(List Int))=>(if (decide (p1.1<16)) then (ao ((((sl block (4*p1.1) ((4*p1.1)+4)).length:Int) - 0).toNat+1) (fun (ag7:(Int×(List Int))→(List Int)) (p7:Int×(List Int))=>(if (decide (p7.1<((sl block (4*p1.1) ((4*p1.1)+4)).length:Int))) then (ag7 ((p7.1+1),(aC 64 (st (aC 64 p7.2) p1.1 (orI .u32 (ap .u32 (gt p7.2 p1.1) 8) (ae .u32 (gt (sl block (4*p1.1) ((4*p1.1)+4)) p7.1))))))) else (ag1 ((p1.1+1),p7.2)))) (fun _=>default) (0,p1.2)) else (ao (((64:Int) - 16).toNat+1) (fun (ag17:(Int×(List Int))→(List Int)) (p17:Int×(List Int))=>(if (decide (p17.1<64)) then (ak (gz (gt p17.2 (p17.1 - 15)) 7) (fun (x26:Int)=>(ak (gz (gt p17.2 (p17.1 - 15)) 18) (fun (x29:Int)=>(ak (gz (gt p17.2 (p17.1 - 2)) 17) (fun (x32:Int)=>(ak (gz (gt p17.2 (p17.1 - 2)) 19) (fun (x35:Int)=>(ag17 ((p17.1+1),(aC 64 (st (aC 64 p17.2) p17.1 (aq .u32 (aq .u32 (aq .u32 (gt p17.2 (p17.1 - 16)) (cn .u32 (cn .u32 x26 x29) (au .u32 (gt p17.2 (p17.1 - 15)) 3))) (gt p17.2 (p17.1 - 7))) (cn .u32 (cn .u32 x32 x35) (au .u32 (gt p17.2 (p17.1 - 2)) 10))))))))))))))) else p17.2)) (fun _=>default) (16,p1.2)))) (fun _=>default) (0,[0,0,0,0,0,0,0,0,0,0,0,0,0,0,0,0,0,0,0,0,0,0,0,0,0,0,0,0,0,0,0,0,0,0,0,0,0,0,0,0,0,0,0,0,0,0,0,0,0,0,0,0,0,0,0,0,0,0,0,0,0,0,0,0]))
def uY (state:(List Int)) (block:(List Int)):(List Int):=
 (ak (uX block) (fun (x1:(List Int))=>(ao (((64:Int) - 0).toNat+1) (fun (ag4:(Int×Int×Int×Int×Int×Int×Int×Int×Int)→(List Int)) (p4:Int×Int×Int×Int×Int×Int×Int×Int×Int)=>(if (decide (p4.2.2.2.2.2.2.2.2<64)) then (ak (gz (p4.2.2.2.2.1) 6) (fun (x7:Int)=>(ak (gz (p4.2.2.2.2.1) 11) (fun (x9:Int)=>(ak (gz (p4.2.2.2.2.1) 25) (fun (x11:Int)=>(ak (gz (p4.1) 2) (fun (x16:Int)=>(ak (gz (p4.1) 13) (fun (x19:Int)=>(ak (gz (p4.1) 22) (fun (x22:Int)=>(ag4 ((aq .u32 (aq .u32 (aq .u32 (aq .u32 (aq .u32 p4.2.2.2.2.2.2.2.1 (cn .u32 (cn .u32 x7 x9) x11)) (cn .u32 (bG .u32 p4.2.2.2.2.1 p4.2.2.2.2.2.1) (bG .u32 (kn .u32 p4.2.2.2.2.1) p4.2.2.2.2.2.2.1))) (gt kK p4.2.2.2.2.2.2.2.2)) (gt x1 p4.2.2.2.2.2.2.2.2)) (aq .u32 (cn .u32 (cn .u32 x16 x19) x22) (cn .u32 (cn .u32 (bG .u32 p4.1 p4.2.1) (bG .u32 p4.1 p4.2.2.1)) (bG .u32 p4.2.1 p4.2.2.1)))),p4.1,p4.2.1,p4.2.2.1,(aq .u32 p4.2.2.2.1 (aq .u32 (aq .u32 (aq .u32 (aq .u32 p4.2.2.2.2.2.2.2.1 (cn .u32 (cn .u32 x7 x9) x11)) (cn .u32 (bG .u32 p4.2.2.2.2.1 p4.2.2.2.2.2.1) (bG .u32 (kn .u32 p4.2.2.2.2.1) p4.2.2.2.2.2.2.1))) (gt kK p4.2.2.2.2.2.2.2.2)) (gt x1 p4.2.2.2.2.2.2.2.2))),p4.2.2.2.2.1,p4.2.2.2.2.2.1,p4.2.2.2.2.2.2.1,(p4.2.2.2.2.2.2.2.2+1))))))))))))))) else (ao (((8:Int) - 0).toNat+1) (fun (ag26:(Int×(List Int))→(List Int)) (p26:Int×(List Int))=>(if (decide (p26.1<8)) then (ag26 ((p26.1+1),(aC 8 (st (aC 8 p26.2) p26.1 (aq .u32 (gt p26.2 p26.1) (gt ([p4.1,p4.2.1,p4.2.2.1,p4.2.2.2.1,p4.2.2.2.2.1,p4.2.2.2.2.2.1,p4.2.2.2.2.2.2.1,p4.2.2.2.2.2.2.2.1]:List Int) p26.1)))))) else p26.2)) (fun _=>default) (0,state)))) (fun _=>default) ((gt state 0),(gt state 1),(gt state 2),(gt state 3),(gt state 4),(gt state 5),(gt state 6),(gt state 7),0))))
def gU (b:(List Int)):(List Int):=
 (ak (mC b) (fun (x1:(List Int))=>(ao (((56 - (((x1++([128]:List Int))).length:Int))% 64).toNat+1) (fun (ag5:(List Int)→(List Int)) (p5:List Int)=>(if ((cD .i64 (p5.length:Int) 64) !=56) then (ag5 (p5++([0]:List Int))) else (ak (ox (aT .u64 8 (ae .u64 (b.length:Int)))) (fun (x9:(List Int))=>(ao (((p5++x9)).length+1) (fun (ag13:(List Int×(List Int))→(List Int)) (p13:List Int×(List Int))=>(if (decide ((p13.1.length:Int)>0)) then (ak (uY (p13.2) (sl p13.1 0 64)) (fun (x16:(List Int))=>(ag13 ((sl p13.1 64 (p13.1.length:Int)),x16)))) else (ao (((8:Int) - 0).toNat+1) (fun (ag20:(Int×(List Int))→(List Int)) (p20:Int×(List Int))=>(if (decide (p20.1<8)) then (ao (((4:Int) - 0).toNat+1) (fun (ag24:(Int×(List Int))→(List Int)) (p24:Int×(List Int))=>(if (decide (p24.1<4)) then (ag24 ((p24.1+1),(aC 32 (st (aC 32 p24.2) ((4*p20.1)+p24.1) (ae .u8 (au .u32 (gt p13.2 p20.1) (24 - (8*p24.1)))))))) else (ag20 ((p20.1+1),p24.2)))) (fun _=>default) (0,p20.2)) else p20.2)) (fun _=>default) (0,[0,0,0,0,0,0,0,0,0,0,0,0,0,0,0,0,0,0,0,0,0,0,0,0,0,0,0,0,0,0,0,0])))) (fun _=>default) ((p5++x9),[1779033703,3144134277,1013904242,2773480762,1359893119,2600822924,528734635,1541459225])))))) (fun _=>default) (x1++([128]:List Int)))))
def uZ (tag:(List UInt8)) (b:(List Int)):((List Int)×Int):=
 (if (decide ((tag.length:Int)<1)) then ([0,0,0,0,0,0,0,0,0,0,0,0,0,0,0,0,0,0,0,0,0,0,0,0,0,0,0,0,0,0,0,0],2) else (if (decide ((tag.length:Int)>100)) then ([0,0,0,0,0,0,0,0,0,0,0,0,0,0,0,0,0,0,0,0,0,0,0,0,0,0,0,0,0,0,0,0],2) else (ak (gU (nP tag)) (fun (x6:(List Int))=>(ak (mC (aC 32 x6)) (fun (x9:(List Int))=>(ak (gU ((x9++(aC 32 x6))++b)) (fun (x12:(List Int))=>(x12,0)))))))))
def u4 (seed:(List Int)):(dZ×Int):=
 (if (decide ((seed.length:Int)>16384)) then (gR,5) else (ak (uZ ([115,112,101,99,105,101,47,100,114,97,119]) seed) (fun (x4:((List Int)×Int))=>(if (x4.2 !=0) then (gR,x4.2) else (({Seed:=x4.1,Counter:=0}:dZ),0)))))
def oy (b:dY) (bank:Int) (u:Int) (seed:(List Int)):(aP×Int):=
 (ak (ow b) (fun (x1:Bool)=>(if (!x1) then (bW,1) else (if (decide (bank<0)) then (bW,2) else (if (decide (bank≥8)) then (bW,2) else (ak (rg b u) (fun (x12:(Int×Int))=>(if (x12.2 !=0) then (bW,x12.2) else (ak (u4 seed) (fun (x18:(dZ×Int))=>(if (x18.2 !=0) then (bW,x18.2) else (({Bank:=bank,U:=u,Key:=x12.1,Next:=0,Holdings:=([]:List aX),Open:=([]:List bg),Source:=x18.1}:aP),0))))))))))))
def u5 (l:(List eJ)) (p_:aP) (now:Int):(Int×Int):=
 (if (decide (now<0)) then (0,2) else (if (decide (now>1099511627776)) then (0,2) else (ao (((p_.Holdings.length:Int) - 0).toNat+1) (fun (ag6:(Int×List eJ)→(Int×Int)) (p6:Int×List eJ)=>(if (decide (p6.1<(p_.Holdings.length:Int))) then (default:(Int×Int)) else (ao (((p_.Holdings.length:Int) - 0).toNat+1) (fun (ag10:(Int×Int)→(Int×Int)) (p10:Int×Int)=>(if (decide (p10.2<(p_.Holdings.length:Int))) then (default:(Int×Int)) else (p10.1,0))) (fun _=>default) (0,0)))) (fun _=>default) (0,([]:List eJ)))))
def u6 (d_:dZ):Bool:=
 (if (decide (d_.Counter≥0)) then (decide (d_.Counter≤1099511627776)) else false)
def kY (x_:ab) (c0:Int):Bool:=
 (ak (a8 x_ (c0 - 1)) (fun (x2:Bool)=>(!x2)))
def rh (s:(List ab)) (f__c0:Int):Int:=
 (ao (((s.length:Int) - 0).toNat+1) (fun (ag1:Int→Int) (p1:Int)=>(if (decide (p1<(s.length:Int))) then (ak (kY (gt s p1) f__c0) (fun (x5:Bool)=>(if x5 then p1 else (ag1 (p1+1))))) else (-1))) (fun _=>default) 0)
def mD (s:(List ab)) (f__c0:Int):Bool:=
 (ak (rh s f__c0) (fun (x1:Int)=>(decide (x1≥0))))
def oz (i_:ab) (depth:Int):Bool:=
 (if (i_.Kind==1) then (if ((i_.B.length:Int)==0) then ((i_.L.length:Int)==0) else false) else (if (i_.Kind==2) then (if (i_.N==0) then ((i_.L.length:Int)==0) else false) else (if (i_.Kind==3) then (if (i_.N==0) then (if ((i_.B.length:Int)==0) then (if (decide (depth>0)) then (if (decide ((i_.L.length:Int)≤1000)) then (ak (mD (i_.L) depth) (fun (x23:Bool)=>(!x23))) else false) else false) else false) else false) else false)))
def gV (i_:ab):Bool:=
 (ak (a8 i_ 8) (fun (x1:Bool)=>x1))
def je (out:(List Int)) (n_:Int) (size:Int):(List Int):=
 (ao (((size - 1)+1).toNat+1) (fun (ag2:(Int×List Int)→(List Int)) (p2:Int×List Int)=>(if (decide (p2.1≥0)) then (ag2 ((p2.1 - 1),(p2.2++([(ae .u8 (au .u64 n_ (8*p2.1)))]:List Int)))) else p2.2)) (fun _=>default) ((size - 1),out))
def oA (out:(List Int)) (i_:ab):(List Int):=
 (if (decide ((out.length:Int)>16384)) then out else (if (i_.Kind==1) then (ak (je (out++([(ae .u8 i_.Kind)]:List Int)) (ae .u64 i_.N) 8) (fun (x6:(List Int))=>x6)) else (if (i_.Kind==2) then (ak (je (out++([(ae .u8 i_.Kind)]:List Int)) (ae .u64 (i_.B.length:Int)) 4) (fun (x13:(List Int))=>(x13++i_.B))) else (ak (je (out++([(ae .u8 i_.Kind)]:List Int)) (ae .u64 (i_.L.length:Int)) 4) (fun (x17:(List Int))=>(ao (((i_.L.length:Int) - 0).toNat+1) (fun (ag21:(Int×List Int)→(List Int)) (p21:Int×List Int)=>(if (decide (p21.1<(i_.L.length:Int))) then (ak (eN (p21.2) (gt i_.L p21.1)) (fun (x25:(List Int))=>(ag21 ((p21.1+1),x25)))) else p21.2)) (fun _=>default) (0,x17)))))))
def gW (i_:ab):((List Int)×Int):=
 (ak (gV i_) (fun (x1:Bool)=>(if (!x1) then (([]:List Int),1) else (ak (eN ([]:List Int) i_) (fun (x7:(List Int))=>(if (decide ((x7.length:Int)>16384)) then (([]:List Int),5) else (x7,0)))))))
def ri (s:List Int) (_:Int):List Int:=s
def oB (slices:(List (List Int))):(List Int):=
 (ao (((slices.length:Int) - 0).toNat+1) (fun (ag1:(Int×Int)→(List Int)) (p1:Int×Int)=>(if (decide (p1.2<(slices.length:Int))) then (if (decide ((p1.1+((gt slices p1.2).length:Int))<0)) then (default:(List Int)) else (ag1 ((p1.1+((gt slices p1.2).length:Int)),(p1.2+1)))) else (ak (ri ([]:List Int) (p1.1)) (fun (x10:(List Int))=>(ao (((slices.length:Int) - 0).toNat+1) (fun (ag14:(Int×List Int)→(List Int)) (p14:Int×List Int)=>(if (decide (p14.1<(slices.length:Int))) then (ag14 ((p14.1+1),(p14.2++(gt slices p14.1)))) else p14.2)) (fun _=>default) (0,x10)))))) (fun _=>default) (0,0))
def u7 (b:dY) (l:(List eJ)) (p_:aP):Bool:=
 (ak (rg b (p_.U)) (fun (x1:(Int×Int))=>(if (x1.2 !=0) then false else (if (x1.1 !=p_.Key) then false else (if (decide (p_.Bank<0)) then false else (if (decide (p_.Bank≥8)) then false else (if (decide (p_.Next<0)) then false else (if (decide (p_.Next>1073741824)) then false else (ak (u6 (p_.Source)) (fun (x16:Bool)=>(if (!x16) then false else (if (decide ((p_.Holdings.length:Int)>100)) then false else (if (decide ((p_.Open.length:Int)>20)) then false else (ao (((p_.Holdings.length:Int) - 0).toNat+1) (fun (ag26:(Int×List (List Int))→Bool) (p26:Int×List (List Int))=>(if (decide (p26.1<(p_.Holdings.length:Int))) then (default:Bool) else (ao (((p_.Open.length:Int) - 0).toNat+1) (fun (ag30:Int→Bool) (p30:Int)=>(if (decide (p30<(p_.Open.length:Int))) then (default:Bool) else true)) (fun _=>default) 0))) (fun _=>default) (0,([]:List (List Int)))))))))))))))))
def rk:Bool:=
 (ak (oy ({Group:=({P:=23,Q:=11,G:=4}:dL),G1:=2,G2:=3,H:=6}:dY) 1 5 ([115,101,101,100]:List Int)) (fun (x1:(aP×Int))=>(ak (u5 ([]:List eJ) (x1.1) 0) (fun (x5:(Int×Int))=>(if (x1.2==0) then (if (x1.1.Key==9) then (if (x1.1.Bank==1) then (if (x1.1.Next==0) then (if ((x1.1.Holdings.length:Int)==0) then (ak (u7 ({Group:=({P:=23,Q:=11,G:=4}:dL),G1:=2,G2:=3,H:=6}:dY) ([]:List eJ) (x1.1)) (fun (x18:Bool)=>(if x18 then (if (x5.2==0) then (x5.1==0) else false) else false))) else false) else false) else false) else false) else false)))))
def mE (w:bg):Bool:=
 (decide ((w.Secret.X.length:Int)>40))
def mF (s:aS):Bool:=
 (if (decide ((s.Leaves.length:Int)>40)) then true else (decide ((s.Path.L.length:Int)>20)))
def rl (s:(List aS)):Int:=
 (ao (((s.length:Int) - 0).toNat+1) (fun (ag1:Int→Int) (p1:Int)=>(if (decide (p1<(s.length:Int))) then (ak (mF (gt s p1)) (fun (x5:Bool)=>(if x5 then p1 else (ag1 (p1+1))))) else (-1))) (fun _=>default) 0)
def oC (s:(List aS)):Bool:=
 (ak (rl s) (fun (x1:Int)=>(decide (x1≥0))))
def mG (h_:aX):Bool:=
 (if (decide ((h_.Secret.X.length:Int)>40)) then true else (if (decide ((h_.Spent.length:Int)>40)) then true else (if (decide ((h_.Chain.length:Int)>12)) then true else (ak (oC (h_.Chain)) (fun (x7:Bool)=>x7)))))
def rm (s:(List bg)):Int:=
 (ao (((s.length:Int) - 0).toNat+1) (fun (ag1:Int→Int) (p1:Int)=>(if (decide (p1<(s.length:Int))) then (ak (mE (gt s p1)) (fun (x5:Bool)=>(if x5 then p1 else (ag1 (p1+1))))) else (-1))) (fun _=>default) 0)
def oD (s:(List bg)):Bool:=
 (ak (rm s) (fun (x1:Int)=>(decide (x1≥0))))
def rn (s:(List aX)):Int:=
 (ao (((s.length:Int) - 0).toNat+1) (fun (ag1:Int→Int) (p1:Int)=>(if (decide (p1<(s.length:Int))) then (ak (mG (gt s p1)) (fun (x5:Bool)=>(if x5 then p1 else (ag1 (p1+1))))) else (-1))) (fun _=>default) 0)
def oE (s:(List aX)):Bool:=
 (ak (rn s) (fun (x1:Int)=>(decide (x1≥0))))
def mH (p_:aP):Bool:=
 (if (decide ((p_.Holdings.length:Int)>10)) then true else (if (decide ((p_.Open.length:Int)>6)) then true else (ak (oD (p_.Open)) (fun (x5:Bool)=>(if x5 then true else (ak (oE (p_.Holdings)) (fun (x9:Bool)=>x9)))))))
def oF (after:Int):bh:=
 (if (decide (after<0)) then ({Bytes:=([]:List Int),Durable:=0,After:=(-1)}:bh) else (if (decide (after>1099511627776)) then ({Bytes:=([]:List Int),Durable:=0,After:=(-1)}:bh) else ({Bytes:=([]:List Int),Durable:=0,After:=after}:bh)))
def kZ (s:List Int):List Int:=s
def oG (h_:(List Int)):ab:=
 (ak (kZ (aC 32 h_)) (fun (x1:(List Int))=>({Kind:=2,N:=0,B:=x1,L:=([]:List ab)}:ab)))
def c_ (l:(List Int)):ab:=
 (ao (((l.length:Int) - 0).toNat+1) (fun (ag1:(Int×List ab)→ab) (p1:Int×List ab)=>(if (decide (p1.1<(l.length:Int))) then (ag1 ((p1.1+1),(p1.2++([({Kind:=1,N:=(gt l p1.1),B:=([]:List Int),L:=([]:List ab)}:ab)]:List ab)))) else ({Kind:=3,N:=0,B:=([]:List Int),L:=p1.2}:ab))) (fun _=>default) (0,([]:List ab)))
def jf (w_:ef) (l_:(List Int)):ef:=
 (ak (c_ l_) (fun (x1:ab)=>({l:=(w_.l++([x1]:List ab))}:ef)))
def jW (w_:ef) (b:(List Int)):ef:=
 (ak (kZ b) (fun (x1:(List Int))=>({l:=(w_.l++([({Kind:=2,N:=0,B:=x1,L:=([]:List ab)}:ab)]:List ab))}:ef)))
def jg (c:bV):ab:=
 (ak (jf kU ([c.Bank,c.Epoch,c.Denom,c.Depth,c.A]:List Int)) (fun (x1:ef)=>(ak (jW x1 (aC 32 c.Root)) (fun (x5:ef)=>(ak (jf x5 ([c.Sign.Z,c.Sign.A,c.Sign.B,c.Sign.R]:List Int)) (fun (x9:ef)=>({Kind:=3,N:=0,B:=([]:List Int),L:=x9.l}:ab)))))))
def oH (l:(List ab)):ab:=
 ({Kind:=3,N:=0,B:=([]:List Int),L:=l}:ab)
def jX (s:aS):ab:=
 (ao (((s.Leaves.length:Int) - 0).toNat+1) (fun (ag1:(Int×List Int)→ab) (p1:Int×List Int)=>(if (decide (p1.1<(s.Leaves.length:Int))) then (ag1 ((p1.1+1),(p1.2++([(gt s.Leaves p1.1).B,(gt s.Leaves p1.1).R1,(gt s.Leaves p1.1).R2]:List Int)))) else (ao (((s.Path.L.length:Int) - 0).toNat+1) (fun (ag6:(Int×List ab)→ab) (p6:Int×List ab)=>(if (decide (p6.1<(s.Path.L.length:Int))) then (ak (oG (gt s.Path.L p6.1)) (fun (x10:ab)=>(ag6 ((p6.1+1),(p6.2++([x10]:List ab)))))) else (ak (jg (s.Coin)) (fun (x14:ab)=>(ak (c_ ([s.Node.Level,s.Node.Index]:List Int)) (fun (x16:ab)=>(ak (oG (s.Context.Payee)) (fun (x18:ab)=>(ak (c_ ([s.Context.Time,s.Context.Number]:List Int)) (fun (x20:ab)=>(ak (c_ (p1.2)) (fun (x22:ab)=>(ak (oH (p6.2)) (fun (x24:ab)=>(ak (oH ([x14,x16,x18,x20,x22,x24]:List ab)) (fun (x27:ab)=>x27)))))))))))))))) (fun _=>default) (0,([({Kind:=1,N:=s.Path.Index,B:=([]:List Int),L:=([]:List ab)}:ab)]:List ab))))) (fun _=>default) (0,([]:List Int)))
def cY (l:(List ab)):ab:=
 ({Kind:=3,N:=0,B:=([]:List Int),L:=l}:ab)
def iE (h_:aX):ab:=
 (ao (((h_.Secret.X.length:Int) - 0).toNat+1) (fun (ag1:(Int×List Int)→ab) (p1:Int×List Int)=>(if (decide (p1.1<(h_.Secret.X.length:Int))) then (ag1 ((p1.1+1),(p1.2++([(gt (gt h_.Secret.X p1.1) 0),(gt (gt h_.Secret.X p1.1) 1)]:List Int)))) else (ao (((h_.Spent.length:Int) - 0).toNat+1) (fun (ag6:(Int×List Int)→ab) (p6:Int×List Int)=>(if (decide (p6.1<(h_.Spent.length:Int))) then (if (gt h_.Spent p6.1) then (ag6 ((p6.1+1),(p6.2++([1]:List Int)))) else (ag6 ((p6.1+1),(p6.2++([0]:List Int))))) else (ao (((h_.Chain.length:Int) - 0).toNat+1) (fun (ag14:(Int×List ab)→ab) (p14:Int×List ab)=>(if (decide (p14.1<(h_.Chain.length:Int))) then (ak (jX (gt h_.Chain p14.1)) (fun (x18:ab)=>(ag14 ((p14.1+1),(p14.2++([x18]:List ab)))))) else (ak (jg (h_.Coin)) (fun (x22:ab)=>(ak (c_ (p1.2)) (fun (x25:ab)=>(ak (c_ (p6.2)) (fun (x28:ab)=>(ak (cY (p14.2)) (fun (x31:ab)=>(ak (cY ([x22,x25,x28,x31]:List ab)) (fun (x34:ab)=>x34)))))))))))) (fun _=>default) (0,([]:List ab))))) (fun _=>default) (0,([]:List Int))))) (fun _=>default) (0,([h_.Secret.U,h_.Secret.S]:List Int)))
def iF (w:bg):ab:=
 (ao (((w.Secret.X.length:Int) - 0).toNat+1) (fun (ag1:(Int×List Int)→ab) (p1:Int×List Int)=>(if (decide (p1.1<(w.Secret.X.length:Int))) then (ag1 ((p1.1+1),(p1.2++([(gt (gt w.Secret.X p1.1) 0),(gt (gt w.Secret.X p1.1) 1)]:List Int)))) else (ak (c_ ([w.Phase,w.Number,w.Bank,w.Epoch,w.Denom,w.Depth]:List Int)) (fun (x6:ab)=>(ak (c_ (p1.2)) (fun (x8:ab)=>(ak (c_ ([w.Factors.S,w.Factors.U,w.Factors.V]:List Int)) (fun (x10:ab)=>(ak (c_ ([w.View.M,w.View.Z,w.View.A,w.View.B,w.View.C,w.View.R]:List Int)) (fun (x12:ab)=>(ak (jg (w.Coin)) (fun (x14:ab)=>({Kind:=3,N:=0,B:=([]:List Int),L:=([x6,x8,x10,x12,x14]:List ab)}:ab))))))))))))) (fun _=>default) (0,([w.Secret.U,w.Secret.S]:List Int)))
def fO (p_:aP):((List Int)×Int):=
 (ao (((p_.Holdings.length:Int) - 0).toNat+1) (fun (ag1:(Int×List ab)→((List Int)×Int)) (p1:Int×List ab)=>(if (decide (p1.1<(p_.Holdings.length:Int))) then (ak (iE (gt p_.Holdings p1.1)) (fun (x5:ab)=>(ag1 ((p1.1+1),(p1.2++([x5]:List ab)))))) else (ao (((p_.Open.length:Int) - 0).toNat+1) (fun (ag9:(Int×List ab)→((List Int)×Int)) (p9:Int×List ab)=>(if (decide (p9.1<(p_.Open.length:Int))) then (ak (iF (gt p_.Open p9.1)) (fun (x13:ab)=>(ag9 ((p9.1+1),(p9.2++([x13]:List ab)))))) else (ak (c_ ([p_.Bank,p_.U,p_.Key,p_.Next]:List Int)) (fun (x17:ab)=>(ak (cY (p1.2)) (fun (x19:ab)=>(ak (cY (p9.2)) (fun (x21:ab)=>(ak (cY ([({Kind:=2,N:=0,B:=(aC 32 p_.Source.Seed),L:=([]:List ab)}:ab),({Kind:=1,N:=p_.Source.Counter,B:=([]:List Int),L:=([]:List ab)}:ab)]:List ab)) (fun (x23:ab)=>(ak (cY ([x17,x19,x21,x23]:List ab)) (fun (x25:ab)=>(ak (gW x25) (fun (x27:((List Int)×Int))=>(if (x27.2 !=0) then (([]:List Int),5) else (x27.1,0)))))))))))))))) (fun _=>default) (0,([]:List ab))))) (fun _=>default) (0,([]:List ab)))
def eO (j:bh):Bool:=
 (if (decide ((j.Bytes.length:Int)≤1048576)) then (if (decide (j.Durable≥0)) then (if (decide (j.Durable≤(j.Bytes.length:Int))) then (if (decide (j.After≥(-1))) then (decide (j.After≤1099511627776)) else false) else false) else false) else false)
def jY (out:(List Int)) (b:(List Int)):(List Int):=
 (ak (gU b) (fun (x1:(List Int))=>(((out++([(ae .u8 (au .i64 (b.length:Int) 24)),(ae .u8 (au .i64 (b.length:Int) 16)),(ae .u8 (au .i64 (b.length:Int) 8)),(ae .u8 (b.length:Int))]:List Int))++(aC 32 x1))++b)))
def fP (s_:fw) (b:(List Int)):(Bool×fw):=
 (gj (fun (p1:Int×fw)=>(ak (oB ([p1.2.Journal.Bytes,(sl b 0 p1.1)]:List (List Int))) (fun (x2:(List Int))=>(if (decide (p1.1<(b.length:Int))) then (false,({Journal:=({Bytes:=x2,Durable:=p1.2.Journal.Durable,After:=0}:bh)}:fw)) else (true,({Journal:=({Bytes:=x2,Durable:=p1.2.Journal.Durable,After:=p1.2.Journal.After}:bh)}:fw)))))) (fun j1=>(if (decide (s_.Journal.After≥0)) then (j1 ((cf (b.length:Int) s_.Journal.After),({Journal:=({Bytes:=s_.Journal.Bytes,Durable:=s_.Journal.Durable,After:=(aD .i64 s_.Journal.After (cf (b.length:Int) s_.Journal.After))}:bh)}:fw))) else (j1 ((b.length:Int),s_)))))
def iG (j:bh) (b:(List Int)):(bh×Int):=
 (ak (eO j) (fun (x1:Bool)=>(if (!x1) then (gw,1) else (if (decide ((b.length:Int)>16384)) then (gw,5) else (if (decide ((aq .i64 (aq .i64 (j.Bytes.length:Int) 36) (b.length:Int))>1048576)) then (gw,5) else (ak (jY ([]:List Int) b) (fun (x13:(List Int))=>(ak (fP ({Journal:=j}:fw) x13) (fun (x17:(Bool×fw))=>(if (!x17.1) then (x17.2.Journal,19) else (x17.2.Journal,0)))))))))))
def rp (j:bh):bh:=
 (ak (kZ (j.Bytes)) (fun (x1:(List Int))=>({Bytes:=x1,Durable:=j.Durable,After:=j.After}:bh)))
def mI (j:bh):(bh×Int):=
 (ak (eO j) (fun (x1:Bool)=>(if (!x1) then (gw,1) else (if (j.After==0) then (ak (rp j) (fun (x10:bh)=>(x10,19))) else (ak (rp ({Bytes:=j.Bytes,Durable:=(j.Bytes.length:Int),After:=j.After}:bh)) (fun (x14:bh)=>(x14,0)))))))
def mJ (j:bh) (keep:Int):(bh×Int):=
 (ak (eO j) (fun (x1:Bool)=>(if (!x1) then (gw,1) else (if (decide (keep<0)) then (gw,2) else (ak (kZ (sl j.Bytes 0 (aq .i64 j.Durable (cf keep (aD .i64 (j.Bytes.length:Int) j.Durable))))) (fun (x11:(List Int))=>(({Bytes:=x11,Durable:=(aq .i64 j.Durable (cf keep (aD .i64 (j.Bytes.length:Int) j.Durable))),After:=(-1)}:bh),0)))))))
def jZ (j:bh):(List (List Int)):=
 (ak (eO j) (fun (x1:Bool)=>(if (!x1) then ([]:List (List Int)) else (ao (((j.Bytes)).length+1) (fun (ag8:(List Int×List (List Int))→(List (List Int))) (p8:List Int×List (List Int))=>(if (decide ((p8.1.length:Int)≥36)) then (if (decide ((orI .i64 (orI .i64 (orI .i64 (ap .i64 (ae .i64 (gt p8.1 0)) 24) (ap .i64 (ae .i64 (gt p8.1 1)) 16)) (ap .i64 (ae .i64 (gt p8.1 2)) 8)) (ae .i64 (gt p8.1 3)))>16384)) then p8.2 else (if (decide ((p8.1.length:Int)<(aq .i64 36 (orI .i64 (orI .i64 (orI .i64 (ap .i64 (ae .i64 (gt p8.1 0)) 24) (ap .i64 (ae .i64 (gt p8.1 1)) 16)) (ap .i64 (ae .i64 (gt p8.1 2)) 8)) (ae .i64 (gt p8.1 3)))))) then p8.2 else (ak (gU (sl p8.1 36 (aq .i64 36 (orI .i64 (orI .i64 (orI .i64 (ap .i64 (ae .i64 (gt p8.1 0)) 24) (ap .i64 (ae .i64 (gt p8.1 1)) 16)) (ap .i64 (ae .i64 (gt p8.1 2)) 8)) (ae .i64 (gt p8.1 3)))))) (fun (x20:(List Int))=>(if (!(gS x20 (aC 32 (sl p8.1 4 36)))) then p8.2 else (ak (kZ (sl p8.1 36 (aq .i64 36 (orI .i64 (orI .i64 (orI .i64 (ap .i64 (ae .i64 (gt p8.1 0)) 24) (ap .i64 (ae .i64 (gt p8.1 1)) 16)) (ap .i64 (ae .i64 (gt p8.1 2)) 8)) (ae .i64 (gt p8.1 3)))))) (fun (x26:(List Int))=>(ag8 ((sl p8.1 (aq .i64 36 (orI .i64 (orI .i64 (orI .i64 (ap .i64 (ae .i64 (gt p8.1 0)) 24) (ap .i64 (ae .i64 (gt p8.1 1)) 16)) (ap .i64 (ae .i64 (gt p8.1 2)) 8)) (ae .i64 (gt p8.1 3)))) (p8.1.length:Int)),(p8.2++([x26]:List (List Int)))))))))))) else p8.2)) (fun _=>default) (j.Bytes,([]:List (List Int)))))))
def fx (r_:aJ) (e_:Int):aJ:=
 (if (r_.e==0) then ({b:=r_.b,e:=e_}:aJ) else r_)
def iH (r_:aJ) (n_:Int):((List Int)×aJ):=
 (if (r_.e !=0) then (ak (fx r_ 4) (fun (x10:aJ)=>(([]:List Int),x10))) else (if (decide (n_>(r_.b.length:Int))) then (ak (fx r_ 4) (fun (x5:aJ)=>(([]:List Int),x5))) else ((sl r_.b 0 n_),({b:=(sl r_.b n_ (r_.b.length:Int)),e:=r_.e}:aJ))))
def fQ (r_:aJ) (size:Int):(Int×aJ):=
 (ak (iH r_ size) (fun (x1:((List Int)×aJ))=>(ao (((x1.1.length:Int) - 0).toNat+1) (fun (ag4:(Int×Int)→(Int×aJ)) (p4:Int×Int)=>(if (decide (p4.2<(x1.1.length:Int))) then (ag4 ((orI .u64 (ap .u64 p4.1 8) (ae .u64 (gt x1.1 p4.2))),(p4.2+1))) else (p4.1,x1.2))) (fun _=>default) (0,0))))
def iI (r_:aJ) (depth:Int):(ab×aJ):=
 (ak (fQ r_ 1) (fun (x1:(Int×aJ))=>(gj (fun (p6:Unit)=>(if ((ae .i64 x1.1)==1) then (ak (fQ (x1.2) 8) (fun (x9:(Int×aJ))=>(({Kind:=(ae .i64 x1.1),N:=(ae .i64 x9.1),B:=([]:List Int),L:=([]:List ab)}:ab),x9.2))) else (if ((ae .i64 x1.1)==2) then (ak (fQ (x1.2) 4) (fun (x17:(Int×aJ))=>(ak (iH (x17.2) (ae .i64 x17.1)) (fun (x22:((List Int)×aJ))=>(ak (mC (x22.1)) (fun (x26:(List Int))=>(({Kind:=(ae .i64 x1.1),N:=0,B:=x26,L:=([]:List ab)}:ab),x22.2))))))) else (if ((ae .i64 x1.1)==3) then (ak (fQ (x1.2) 4) (fun (x33:(Int×aJ))=>(gj (fun (p38:aJ)=>(ao (((ae .i64 x33.1) - 0).toNat+1) (fun (ag39:(Int×aJ×List ab)→(ab×aJ)) (p39:Int×aJ×List ab)=>(if (decide (p39.1<(ae .i64 x33.1))) then (if (p39.2.1.e !=0) then (({Kind:=(ae .i64 x1.1),N:=0,B:=([]:List Int),L:=p39.2.2}:ab),p39.2.1) else (ak (cJ (p39.2.1) (depth - 1)) (fun (x46:(ab×aJ))=>(ag39 ((p39.1+1),x46.2,(p39.2.2++([x46.1]:List ab))))))) else (({Kind:=(ae .i64 x1.1),N:=0,B:=([]:List Int),L:=p39.2.2}:ab),p39.2.1))) (fun _=>default) (0,p38,([]:List ab)))) (fun j38=>(if (decide ((ae .i64 x33.1)>1000)) then (ak (fx (x33.2) 3) (fun (x52:aJ)=>(j38 x52))) else (j38 x33.2)))))) else (({Kind:=(ae .i64 x1.1),N:=0,B:=([]:List Int),L:=([]:List ab)}:ab),x1.2))))) (fun j6=>(if (decide ((ae .i64 x1.1)<1)) then (ak (fx (x1.2) 3) (fun (x81:aJ)=>(ee,x81))) else (if (decide ((ae .i64 x1.1)>3)) then (ak (fx (x1.2) 3) (fun (x75:aJ)=>(ee,x75))) else (if ((ae .i64 x1.1)==3) then (if (depth==0) then (ak (fx (x1.2) 3) (fun (x67:aJ)=>(ee,x67))) else (j6 ())) else (j6 ()))))))))
def k8 (b:(List Int)):(ab×Int):=
 (if (decide ((b.length:Int)>16384)) then (ee,5) else (ak (cJ ({b:=b,e:=0}:aJ) 8) (fun (x4:(ab×aJ))=>(gj (fun (p7:aJ)=>(if (p7.e !=0) then (ee,p7.e) else (x4.1,0))) (fun j7=>(if (decide ((x4.2.b.length:Int)>0)) then (ak (fx (x4.2) 3) (fun (x13:aJ)=>(j7 x13))) else (j7 x4.2)))))))
def gA (i_:ab) (n_:Int):Bool:=
 (if (i_.Kind==3) then ((i_.L.length:Int)==n_) else false)
def bT (i_:ab):((List Int)×Int):=
 (ak (gV i_) (fun (x1:Bool)=>(if (!x1) then (([]:List Int),1) else (if (i_.Kind !=3) then (([]:List Int),3) else (ao (((i_.L.length:Int) - 0).toNat+1) (fun (ag10:(Int×List Int)→((List Int)×Int)) (p10:Int×List Int)=>(if (decide (p10.1<(i_.L.length:Int))) then (if ((gt i_.L p10.1).Kind !=1) then (([]:List Int),3) else (ag10 ((p10.1+1),(p10.2++([(gt i_.L p10.1).N]:List Int))))) else (p10.2,0))) (fun _=>default) (0,([]:List Int)))))))
def fR (i_:ab):(bV×Int):=
 (ak (gV i_) (fun (x1:Bool)=>(if (!x1) then (cX,1) else (if (i_.Kind !=3) then (cX,3) else (if ((i_.L.length:Int) !=3) then (cX,3) else (ak (bT (gt i_.L 0)) (fun (x13:((List Int)×Int))=>(ak (bT (gt i_.L 2)) (fun (x17:((List Int)×Int))=>(if (x13.2 !=0) then (cX,3) else (if (x17.2 !=0) then (cX,3) else (if ((x13.1.length:Int) !=5) then (cX,3) else (if ((x17.1.length:Int) !=4) then (cX,3) else (if ((gt i_.L 1).Kind !=2) then (cX,3) else (if (((gt i_.L 1).B.length:Int) !=32) then (cX,3) else (({Bank:=(gt x13.1 0),Epoch:=(gt x13.1 1),Denom:=(gt x13.1 2),Depth:=(gt x13.1 3),A:=(gt x13.1 4),Root:=(aC 32 (gt i_.L 1).B),Sign:=({Z:=(gt x17.1 0),A:=(gt x17.1 1),B:=(gt x17.1 2),R:=(gt x17.1 3)}:kS)}:bV),0))))))))))))))))
def mK (i_:ab):(Int×Int×Bool):=
 (ak (bT i_) (fun (x1:((List Int)×Int))=>(if (x1.2 !=0) then (0,0,false) else (if ((x1.1.length:Int) !=2) then (0,0,false) else ((gt x1.1 0),(gt x1.1 1),true)))))
def fS (i_:ab):((List Int)×Bool):=
 (if (i_.Kind !=2) then ([0,0,0,0,0,0,0,0,0,0,0,0,0,0,0,0,0,0,0,0,0,0,0,0,0,0,0,0,0,0,0,0],false) else (if ((i_.B.length:Int) !=32) then ([0,0,0,0,0,0,0,0,0,0,0,0,0,0,0,0,0,0,0,0,0,0,0,0,0,0,0,0,0,0,0,0],false) else ((aC 32 (spl ([0,0,0,0,0,0,0,0,0,0,0,0,0,0,0,0,0,0,0,0,0,0,0,0,0,0,0,0,0,0,0,0]:List Int) 0 (min 32 i_.B.length) i_.B)),true)))
def gX (i_:ab):(aS×Int):=
 (ak (gV i_) (fun (x1:Bool)=>(if (!x1) then (cI,1) else (if (i_.Kind !=3) then (cI,3) else (if ((i_.L.length:Int) !=6) then (cI,3) else (ak (fR (gt i_.L 0)) (fun (x14:(bV×Int))=>(ak (mK (gt i_.L 1)) (fun (x18:(Int×Int×Bool))=>(ak (fS (gt i_.L 2)) (fun (x22:((List Int)×Bool))=>(ak (mK (gt i_.L 3)) (fun (x26:(Int×Int×Bool))=>(ak (bT (gt i_.L 4)) (fun (x30:((List Int)×Int))=>(if (x14.2 !=0) then (cI,3) else (if (!x18.2.2) then (cI,3) else (if (!x22.2) then (cI,3) else (if (!x26.2.2) then (cI,3) else (if (x30.2 !=0) then (cI,3) else (if ((cD .i64 (x30.1.length:Int) 3) !=0) then (cI,3) else (if ((gt i_.L 5).Kind !=3) then (cI,3) else (if (((gt i_.L 5).L.length:Int)==0) then (cI,3) else (if ((gt (gt i_.L 5).L 0).Kind !=1) then (cI,3) else (ao (((x30.1.length:Int) - 0).toNat+1) (fun (ag54:(Int×List cA)→(aS×Int)) (p54:Int×List cA)=>(if (decide (p54.1<(x30.1.length:Int))) then (ag54 ((p54.1+3),(p54.2++([({B:=(gt x30.1 p54.1),R1:=(gt x30.1 (p54.1+1)),R2:=(gt x30.1 (p54.1+2))}:cA)]:List cA)))) else (ao ((((sl (gt i_.L 5).L 1 ((gt i_.L 5).L.length:Int)).length:Int) - 0).toNat+1) (fun (ag63:(Int×aS×List (List Int))→(aS×Int)) (p63:Int×aS×List (List Int))=>(if (decide (p63.1<((sl (gt i_.L 5).L 1 ((gt i_.L 5).L.length:Int)).length:Int))) then (ak (fS (gt (sl (gt i_.L 5).L 1 ((gt i_.L 5).L.length:Int)) p63.1)) (fun (x67:((List Int)×Bool))=>(if (!x67.2) then (cI,3) else (ag63 ((p63.1+1),p63.2.1,(p63.2.2++([x67.1]:List (List Int)))))))) else (({Coin:=x14.1,Node:=({Level:=x18.1,Index:=x18.2.1}:jN),Context:=({Payee:=x22.1,Time:=x26.1,Number:=x26.2.1}:iB),Leaves:=p54.2,Path:=({Index:=(gt (gt i_.L 5).L 0).N,L:=p63.2.2}:gu)}:aS),0))) (fun _=>default) (0,cI,([]:List (List Int)))))) (fun _=>default) (0,([]:List cA)))))))))))))))))))))))))))
def lc (i_:ab):(aX×Bool):=
 (ak (gA i_ 4) (fun (x1:Bool)=>(if (!x1) then (mn,false) else (ak (fR (gt i_.L 0)) (fun (x9:(bV×Int))=>(if (x9.2 !=0) then (({Coin:=x9.1,Secret:=gp,Spent:=([]:List Bool),Chain:=([]:List aS)}:aX),false) else (ak (bT (gt i_.L 1)) (fun (x16:((List Int)×Int))=>(if (x16.2 !=0) then (({Coin:=x9.1,Secret:=gp,Spent:=([]:List Bool),Chain:=([]:List aS)}:aX),false) else (if (decide ((x16.1.length:Int)<2)) then (({Coin:=x9.1,Secret:=gp,Spent:=([]:List Bool),Chain:=([]:List aS)}:aX),false) else (if ((cD .i64 (x16.1.length:Int) 2) !=0) then (({Coin:=x9.1,Secret:=gp,Spent:=([]:List Bool),Chain:=([]:List aS)}:aX),false) else (eF (cN (sl x16.1 2 (x16.1.length:Int))) (fun (ag29:(List (List Int))→(aX×Bool)) (y29:List Int) (p29:List (List Int))=>(ag29 (p29++([(aC 2 y29)]:List (List Int))))) (fun (p29:List (List Int))=>(ak (bT (gt i_.L 2)) (fun (x32:((List Int)×Int))=>(if (x32.2 !=0) then (({Coin:=x9.1,Secret:=({U:=(gt x16.1 0),S:=(gt x16.1 1),X:=p29}:cH),Spent:=([]:List Bool),Chain:=([]:List aS)}:aX),false) else (if ((gt i_.L 3).Kind !=3) then (({Coin:=x9.1,Secret:=({U:=(gt x16.1 0),S:=(gt x16.1 1),X:=p29}:cH),Spent:=([]:List Bool),Chain:=([]:List aS)}:aX),false) else (ao (((x32.1.length:Int) - 0).toNat+1) (fun (ag41:(Int×List Bool)→(aX×Bool)) (p41:Int×List Bool)=>(if (decide (p41.1<(x32.1.length:Int))) then (if ((gt x32.1 p41.1) !=0) then (if ((gt x32.1 p41.1) !=1) then (({Coin:=x9.1,Secret:=({U:=(gt x16.1 0),S:=(gt x16.1 1),X:=p29}:cH),Spent:=p41.2,Chain:=([]:List aS)}:aX),false) else (ag41 ((p41.1+1),(p41.2++([((gt x32.1 p41.1)==1)]:List Bool))))) else (ag41 ((p41.1+1),(p41.2++([((gt x32.1 p41.1)==1)]:List Bool))))) else (ao ((((gt i_.L 3).L.length:Int) - 0).toNat+1) (fun (ag52:(Int×List aS)→(aX×Bool)) (p52:Int×List aS)=>(if (decide (p52.1<((gt i_.L 3).L.length:Int))) then (ak (gX (gt (gt i_.L 3).L p52.1)) (fun (x56:(aS×Int))=>(if (x56.2 !=0) then (({Coin:=x9.1,Secret:=({U:=(gt x16.1 0),S:=(gt x16.1 1),X:=p29}:cH),Spent:=p41.2,Chain:=p52.2}:aX),false) else (ag52 ((p52.1+1),(p52.2++([x56.1]:List aS))))))) else (({Coin:=x9.1,Secret:=({U:=(gt x16.1 0),S:=(gt x16.1 1),X:=p29}:cH),Spent:=p41.2,Chain:=p52.2}:aX),true))) (fun _=>default) (0,([]:List aS))))) (fun _=>default) (0,([]:List Bool)))))))) ([]:List (List Int))))))))))))))
def gY (i_:ab):(bg×Int):=
 (ak (gV i_) (fun (x1:Bool)=>(if (!x1) then (bO,1) else (if (i_.Kind !=3) then (bO,3) else (if ((i_.L.length:Int) !=5) then (bO,3) else (ao (((4:Int) - 0).toNat+1) (fun (ag12:(Int×bg×(List (List Int)))→(bg×Int)) (p12:Int×bg×(List (List Int)))=>(if (decide (p12.1<4)) then (ak (bT (gt i_.L p12.1)) (fun (x16:((List Int)×Int))=>(if (x16.2 !=0) then (bO,3) else (ag12 ((p12.1+1),p12.2.1,(aC 4 (st (aC 4 p12.2.2) p12.1 (x16.1)))))))) else (ak (fR (gt i_.L 4)) (fun (x26:(bV×Int))=>(if (x26.2 !=0) then (bO,3) else (if (((gt p12.2.2 0).length:Int) !=6) then (bO,3) else (if (decide (((gt p12.2.2 1).length:Int)<2)) then (bO,3) else (if ((cD .i64 ((gt p12.2.2 1).length:Int) 2) !=0) then (bO,3) else (if (((gt p12.2.2 2).length:Int) !=3) then (bO,3) else (if (((gt p12.2.2 3).length:Int) !=6) then (bO,3) else (ao ((((gt p12.2.2 1).length:Int) - 2).toNat+1) (fun (ag59:(Int×List (List Int))→(bg×Int)) (p59:Int×List (List Int))=>(if (decide (p59.1<((gt p12.2.2 1).length:Int))) then (ag59 ((p59.1+2),(p59.2++([[(gt (gt p12.2.2 1) p59.1),(gt (gt p12.2.2 1) (p59.1+1))]]:List (List Int))))) else (({Phase:=(gt (gt p12.2.2 0) 0),Number:=(gt (gt p12.2.2 0) 1),Bank:=(gt (gt p12.2.2 0) 2),Epoch:=(gt (gt p12.2.2 0) 3),Denom:=(gt (gt p12.2.2 0) 4),Depth:=(gt (gt p12.2.2 0) 5),Secret:=({U:=(gt (gt p12.2.2 1) 0),S:=(gt (gt p12.2.2 1) 1),X:=p59.2}:cH),Factors:=({S:=(gt (gt p12.2.2 2) 0),U:=(gt (gt p12.2.2 2) 1),V:=(gt (gt p12.2.2 2) 2)}:jO),View:=({M:=(gt (gt p12.2.2 3) 0),Z:=(gt (gt p12.2.2 3) 1),A:=(gt (gt p12.2.2 3) 2),B:=(gt (gt p12.2.2 3) 3),C:=(gt (gt p12.2.2 3) 4),R:=(gt (gt p12.2.2 3) 5)}:jP),Coin:=x26.1}:bg),0))) (fun _=>default) (2,([]:List (List Int)))))))))))))) (fun _=>default) (0,bO,[([]:List Int),([]:List Int),([]:List Int),([]:List Int)])))))))
def ld (i_:ab):(dZ×Bool):=
 (ak (gA i_ 2) (fun (x1:Bool)=>(if (!x1) then (gR,false) else (if ((gt i_.L 0).Kind !=2) then (gR,false) else (if (((gt i_.L 0).B.length:Int) !=32) then (gR,false) else (if ((gt i_.L 1).Kind !=1) then (gR,false) else (({Seed:=(aC 32 (gt i_.L 0).B),Counter:=(gt i_.L 1).N}:dZ),true)))))))
def lf (x_:(List Int)):(aP×Int):=
 (ak (k8 x_) (fun (x1:(ab×Int))=>(if (x1.2 !=0) then (bW,3) else (ak (gA (x1.1) 4) (fun (x8:Bool)=>(if (!x8) then (bW,3) else (ak (gA (gt x1.1.L 0) 4) (fun (x15:Bool)=>(if (!x15) then (bW,3) else (if ((gt x1.1.L 1).Kind !=3) then (bW,3) else (if ((gt x1.1.L 2).Kind !=3) then (bW,3) else (ak (bT (gt x1.1.L 0)) (fun (x28:((List Int)×Int))=>(if (x28.2 !=0) then (bW,3) else (ao ((((gt x1.1.L 1).L.length:Int) - 0).toNat+1) (fun (ag39:(Int×aP×List aX)→(aP×Int)) (p39:Int×aP×List aX)=>(if (decide (p39.1<((gt x1.1.L 1).L.length:Int))) then (ak (lc (gt (gt x1.1.L 1).L p39.1)) (fun (x43:(aX×Bool))=>(if (!x43.2) then (bW,3) else (ag39 ((p39.1+1),p39.2.1,(p39.2.2++([x43.1]:List aX))))))) else (ao ((((gt x1.1.L 2).L.length:Int) - 0).toNat+1) (fun (ag50:(Int×aP×List bg)→(aP×Int)) (p50:Int×aP×List bg)=>(if (decide (p50.1<((gt x1.1.L 2).L.length:Int))) then (ak (gY (gt (gt x1.1.L 2).L p50.1)) (fun (x54:(bg×Int))=>(if (x54.2 !=0) then (bW,3) else (ag50 ((p50.1+1),p50.2.1,(p50.2.2++([x54.1]:List bg))))))) else (ak (ld (gt x1.1.L 3)) (fun (x62:(dZ×Bool))=>(if (!x62.2) then (bW,3) else (({Bank:=(gt x28.1 0),U:=(gt x28.1 1),Key:=(gt x28.1 2),Next:=(gt x28.1 3),Holdings:=p39.2.2,Open:=p50.2.2,Source:=x62.1}:aP),0)))))) (fun _=>default) (0,p39.2.1,([]:List bg))))) (fun _=>default) (0,bW,([]:List aX)))))))))))))))))
def j4 (j:bh):(aP×Int):=
 (ak (jZ j) (fun (x1:(List (List Int)))=>(eF (fM x1) (fun (ag5:(aP×Int)→(aP×Int)) (y5:Int×List Int) (p5:aP×Int)=>(ak (lf (y5.2)) (fun (x6:(aP×Int))=>(if (x6.2==0) then (x6.1,0) else (ag5 (p5.1,p5.2)))))) (fun (p5:aP×Int)=>(bW,7)) (bW,0))))
def mL (a_:cH) (b:cH):Bool:=
 (if (a_.U !=b.U) then false else (if (a_.S !=b.S) then false else (if ((a_.X.length:Int) !=(b.X.length:Int)) then false else (ao (((a_.X.length:Int) - 0).toNat+1) (fun (ag8:Int→Bool) (p8:Int)=>(if (decide (p8<(a_.X.length:Int))) then (if (!(jb (gt a_.X p8) (gt b.X p8))) then false else (ag8 (p8+1))) else true)) (fun _=>default) 0))))
def mM (p_:gu) (q:gu):Bool:=
 (if (p_.Index !=q.Index) then false else (if ((p_.L.length:Int) !=(q.L.length:Int)) then false else (ao (((p_.L.length:Int) - 0).toNat+1) (fun (ag6:Int→Bool) (p6:Int)=>(if (decide (p6<(p_.L.length:Int))) then (if (!(gS (gt p_.L p6) (gt q.L p6))) then false else (ag6 (p6+1))) else true)) (fun _=>default) 0)))
def lg (a_:aS) (b:aS):Bool:=
 (if (!(eL (a_.Coin) (b.Coin))) then false else (if (!(mv (a_.Node) (b.Node))) then false else (if (!(mw (a_.Context) (b.Context))) then false else (if ((a_.Leaves.length:Int) !=(b.Leaves.length:Int)) then false else (ak (mM (a_.Path) (b.Path)) (fun (x9:Bool)=>(if (!x9) then false else (ao (((a_.Leaves.length:Int) - 0).toNat+1) (fun (ag15:Int→Bool) (p15:Int)=>(if (decide (p15<(a_.Leaves.length:Int))) then (if (!(qW (gt a_.Leaves p15) (gt b.Leaves p15))) then false else (ag15 (p15+1))) else true)) (fun _=>default) 0))))))))
def mN (a_:aX) (b:aX):Bool:=
 (if (!(eL (a_.Coin) (b.Coin))) then false else (ak (mL (a_.Secret) (b.Secret)) (fun (x3:Bool)=>(if (!x3) then false else (if ((a_.Spent.length:Int) !=(b.Spent.length:Int)) then false else (if ((a_.Chain.length:Int) !=(b.Chain.length:Int)) then false else (ao (((a_.Spent.length:Int) - 0).toNat+1) (fun (ag13:Int→Bool) (p13:Int)=>(if (decide (p13<(a_.Spent.length:Int))) then (if ((gt a_.Spent p13) !=(gt b.Spent p13)) then false else (ag13 (p13+1))) else (ao (((a_.Chain.length:Int) - 0).toNat+1) (fun (ag22:Int→Bool) (p22:Int)=>(if (decide (p22<(a_.Chain.length:Int))) then (ak (lg (gt a_.Chain p22) (gt b.Chain p22)) (fun (x27:Bool)=>(if (!x27) then false else (ag22 (p22+1))))) else true)) (fun _=>default) 0))) (fun _=>default) 0)))))))
def jh (a_:bg) (b:bg):Bool:=
 (if ((a_.Secret.X.length:Int) !=(b.Secret.X.length:Int)) then false else (ao (((a_.Secret.X.length:Int) - 0).toNat+1) (fun (ag4:Int→Bool) (p4:Int)=>(if (decide (p4<(a_.Secret.X.length:Int))) then (if (!(jb (gt a_.Secret.X p4) (gt b.Secret.X p4))) then false else (ag4 (p4+1))) else (if (a_.Phase==b.Phase) then (if (a_.Number==b.Number) then (if (a_.Bank==b.Bank) then (if (a_.Epoch==b.Epoch) then (if (a_.Denom==b.Denom) then (if (a_.Depth==b.Depth) then (if (a_.Secret.U==b.Secret.U) then (if (a_.Secret.S==b.Secret.S) then (if (qX (a_.Factors) (b.Factors)) then (if (qY (a_.View) (b.View)) then (eL (a_.Coin) (b.Coin)) else false) else false) else false) else false) else false) else false) else false) else false) else false) else false))) (fun _=>default) 0))
def mO (a_:aP) (b:aP):Bool:=
 (if (a_.Bank !=b.Bank) then false else (if (a_.U !=b.U) then false else (if (a_.Key !=b.Key) then false else (if (a_.Next !=b.Next) then false else (if (!(mx (a_.Source) (b.Source))) then false else (if ((a_.Holdings.length:Int) !=(b.Holdings.length:Int)) then false else (if ((a_.Open.length:Int) !=(b.Open.length:Int)) then false else (ao (((a_.Holdings.length:Int) - 0).toNat+1) (fun (ag16:Int→Bool) (p16:Int)=>(if (decide (p16<(a_.Holdings.length:Int))) then (ak (mN (gt a_.Holdings p16) (gt b.Holdings p16)) (fun (x21:Bool)=>(if (!x21) then false else (ag16 (p16+1))))) else (ao (((a_.Open.length:Int) - 0).toNat+1) (fun (ag28:Int→Bool) (p28:Int)=>(if (decide (p28<(a_.Open.length:Int))) then (ak (jh (gt a_.Open p28) (gt b.Open p28)) (fun (x33:Bool)=>(if (!x33) then false else (ag28 (p28+1))))) else true)) (fun _=>default) 0))) (fun _=>default) 0))))))))
def oI (p_:aP):Bool:=
 (ak (mO p_ bW) (fun (x1:Bool)=>x1))
def oJ (q:aP) (c0:aP):Bool:=
 (ak (mO c0 q) (fun (x1:Bool)=>x1))
def rq (s:(List aP)):Int:=
 (ao (((s.length:Int) - 0).toNat+1) (fun (ag1:Int→Int) (p1:Int)=>(if (decide (p1<(s.length:Int))) then (ak (mH (gt s p1)) (fun (x5:Bool)=>(if x5 then p1 else (ag1 (p1+1))))) else (-1))) (fun _=>default) 0)
def lh (s:(List aP)):Bool:=
 (ak (rq s) (fun (x1:Int)=>(decide (x1≥0))))
def rr (s:(List aP)) (f__c0:aP):Int:=
 (ao (((s.length:Int) - 0).toNat+1) (fun (ag1:Int→Int) (p1:Int)=>(if (decide (p1<(s.length:Int))) then (ak (oJ (gt s p1) f__c0) (fun (x5:Bool)=>(if x5 then p1 else (ag1 (p1+1))))) else (-1))) (fun _=>default) 0)
def mP (s:(List aP)) (f__c0:aP):Bool:=
 (ak (rr s f__c0) (fun (x1:Int)=>(decide (x1≥0))))
def rt (l:(List aP)) (after:Int) (keep:Int) (syncs:Int):Bool:=
 (ak (rk) (fun (x1:Bool)=>(if (!x1) then false else (if (decide ((l.length:Int)>6)) then true else (ak (lh l) (fun (x9:Bool)=>(if x9 then true else (if (decide (keep<0)) then true else (ak (oF after) (fun (x16:bh)=>(gj (fun (p19:Int×Int×bh)=>(ak (mJ (p19.2.2) keep) (fun (x20:(bh×Int))=>(if (x20.2 !=0) then false else (ak (j4 (x20.1)) (fun (x26:(aP×Int))=>(if (x26.2 !=0) then (if (x26.2==7) then (if (p19.1==0) then (ak (oI (x26.1)) (fun (x35:Bool)=>x35)) else false) else false) else (ak (mP (sl l (er 0 (aD .i64 p19.1 1)) p19.2.1) (x26.1)) (fun (x41:Bool)=>x41))))))))) (fun j19=>(ao (((l.length:Int) - 0).toNat+1) (fun (ag44:(Int×Int×Int×bh)→Bool) (p44:Int×Int×Int×bh)=>(if (decide (p44.2.2.1<(l.length:Int))) then (ak (fO (gt l p44.2.2.1)) (fun (x48:((List Int)×Int))=>(if (x48.2 !=0) then (x48.2==5) else (ak (iG (p44.2.2.2) (x48.1)) (fun (x54:(bh×Int))=>(if (x54.2 !=0) then (if (x54.2 !=19) then false else (j19 (p44.1,p44.2.1,x54.1))) else (if ((bG .u8 (au .u8 syncs p44.2.2.1) 1)==0) then (ag44 (p44.1,(p44.2.2.1+1),(p44.2.2.1+1),x54.1)) else (ak (mI (x54.1)) (fun (x66:(bh×Int))=>(if (x66.2 !=0) then (if (x66.2 !=19) then false else (j19 (p44.1,(p44.2.2.1+1),x66.1))) else (ag44 ((p44.2.2.1+1),(p44.2.2.1+1),(p44.2.2.1+1),x66.1)))))))))))) else (j19 (p44.1,p44.2.1,p44.2.2.2)))) (fun _=>default) (0,0,0,x16))))))))))))))
end Go.Proofs.YtlmleoeemmhboaaGreatDoor
namespace Go.Proofs.YtlmleoeemmhboaaGreatDoor
open Go.RowKit
theorem w64 (a:Int):IntKind.wrap .u64 a=a% 18446744073709551616:=by simp [IntKind.wrap,IntKind.bits,IntKind.signed]
theorem ji {k:IntKind} {x:Int} {n:Int} {m:Nat} (hn:min n.toNat k.bits=m):au k x n=x/2^m:=by
 unfold au;rw [hn,Int.fdiv_eq_ediv_of_nonneg];exact Int.le_of_lt (Int.pow_pos (by decide))
theorem j5 (x:Int):au .u64 x 32=x/4294967296:=ji (m:=32) rfl
theorem GV (x:Int):au .u64 x 58=x/288230376151711744:=ji (m:=58) rfl
theorem cK (x:Int):au .u64 x 1=x/2:=ji (m:=1) rfl
theorem cO (x:Int):au .i64 x 1=x/2:=ji (m:=1) rfl
theorem zp {x:Int}:0≤au .u64 (aT .u64 x 285870213051353865) 58∧au .u64 (aT .u64 x 285870213051353865) 58<64:=by
 rw [GV];unfold aT;rw [w64];omega
def GW (x:Int) (l:Nat):Prop:=1≤l∧(2:Int)^(l - 1)≤x∧x<2^l
theorem GX (x:Nat):1≤x→x<2^64→1≤Lib.bitLen x∧2^(Lib.bitLen x - 1)≤x∧x<2^Lib.bitLen x:=by
 induction x using Nat.strongRecOn with
 | ind x ih=>
  intro h0 h1
  by_cases h:x=1
  ·subst h;decide
  ·obtain ⟨a1,a2,a3⟩:=ih (x/2) (by omega) (by omega) (by omega)
   rw [Lib.bitLen_half x (by omega) h1]
   generalize Lib.bitLen (x/2)=l at a1 a2 a3
   obtain ⟨l,rfl⟩: ∃k,l=k+1:=⟨l - 1,by omega⟩
   refine ⟨by omega,?_,?_⟩
   ·rw [show 1+(l+1) - 1=l+1 by omega,Nat.pow_succ]
    simp only [Nat.add_sub_cancel] at a2
    omega
   ·rw [show 1+(l+1)=(l+1)+1 by omega,Nat.pow_succ]
    omega
theorem GY {x:Int} (h0:1≤x) (h1:x≤18446744073709551615): ∃l:Nat,ra x=l∧GW x l∧l≤64:=by
 obtain ⟨k,rfl⟩:=Int.eq_ofNat_of_zero_le (show 0≤x by omega)
 have hk:k<2^64:=by omega
 obtain ⟨a1,a2,a3⟩:=GX k (by omega) hk
 exact ⟨Lib.bitLen k,rfl,⟨a1,by exact_mod_cast a2,by exact_mod_cast a3⟩,Lib.bitLen_le k 64 (by decide) hk⟩
theorem zq {x y:Int} (hx:x=kX y) (h0:1≤y) (h1:y≤18446744073709551615):0≤x∧x≤63∧9223372036854775808≤ap .u64 y (ae .u64 x)∧ap .u64 y (ae .u64 x)=y*2^x.toNat:=by
 obtain ⟨l,e1,⟨e2,e3,e4⟩,e5⟩:=GY h0 h1
 have hx2:x=64 - (l:Int):=by
  rw [hx];unfold kX ak;rw [e1];simp only;unfold aD;rw [IntKind.wrap_i64];omega
 have hc:ae .u64 x=x:=l8 (by omega) (by omega)
 have hn:x.toNat=64 - l:=by omega
 have hm:min (ae .u64 x).toNat IntKind.u64.bits=64 - l:=by rw [hc,hn];show min (64 - l) 64=_;omega
 have hp:(2:Int)^l*2^(64 - l)=18446744073709551616:=by rw [←Int.pow_add,show l+(64 - l)=64 by omega];decide
 have hq:(2:Int)^(l - 1)*2^(64 - l)=9223372036854775808:=by rw [←Int.pow_add,show l - 1+(64 - l)=63 by omega];decide
 have h2:(0:Int)<2^(64 - l):=Int.pow_pos (by decide)
 have g1:=Int.mul_le_mul_of_nonneg_right e3 (Int.le_of_lt h2)
 have g2:=Int.mul_lt_mul_of_pos_right e4 h2
 rw [hp] at g2;rw [hq] at g1
 have e:ap .u64 y (ae .u64 x)=y*2^x.toNat:=by
  unfold ap;rw [hm,w64,hn];exact Int.emod_eq_of_lt (by omega) g2
 exact ⟨by omega,by omega,by rw [e,hn];exact g1,e⟩
theorem oK {x:Int} (h0:0≤x) (h1:x≤18446744073709551615):bG .u64 x 4294967295=x% 4294967296:=by
 obtain ⟨k,rfl⟩:=Int.eq_ofNat_of_zero_le h0
 unfold bG
 have e1:(BitVec.ofInt IntKind.u64.bits (k:Int)).toNat=k:=by
  show (BitVec.ofInt 64 (k:Int)).toNat=k
  rw [BitVec.toNat_ofInt];omega
 have e2:(BitVec.ofInt IntKind.u64.bits 4294967295).toNat=2^32 - 1:=by decide
 rw [BitVec.toNat_and,e1,e2,Nat.and_two_pow_sub_one_eq_mod,w64]
 omega
theorem mQ {a b A:Int} (h1:0≤a) (h2:a≤A) (h3:0≤b) (h4:b≤A):0≤a*b∧a*b≤A*A:=
 ⟨Int.mul_nonneg h1 h3,Int.mul_le_mul h2 h4 h3 (Int.le_trans h1 h2)⟩
theorem dr {a:Int} (h0:0≤a) (h1:a≤18446744073709551615):IntKind.wrap .u64 a=a:=by rw [w64];omega
theorem zr {x y:Int} (hx0:0≤x) (hx1:x≤18446744073709551615) (hy0:0≤y) (hy1:y≤18446744073709551615):jU x y=(x*y/18446744073709551616,x*y% 18446744073709551616):=by
 unfold jU
 rw [oK hx0 hx1,oK hy0 hy1,j5 x,j5 y]
 obtain ⟨x1,x0,rfl,h1,h2,h3,h4⟩: ∃x1 x0:Int,x=x1*4294967296+x0∧0≤x1∧x1≤4294967295∧0≤x0∧x0≤4294967295:=⟨x/4294967296,x% 4294967296,by omega,by omega,by omega,by omega,by omega⟩
 obtain ⟨y1,y0,rfl,g1,g2,g3,g4⟩: ∃y1 y0:Int,y=y1*4294967296+y0∧0≤y1∧y1≤4294967295∧0≤y0∧y0≤4294967295:=⟨y/4294967296,y% 4294967296,by omega,by omega,by omega,by omega,by omega⟩
 rw [show (x1*4294967296+x0)/4294967296=x1 by omega,show (y1*4294967296+y0)/4294967296=y1 by omega,show (x1*4294967296+x0)% 4294967296=x0 by omega,show (y1*4294967296+y0)% 4294967296=y0 by omega]
 have ea:=mQ h1 h2 g1 g2
 have eb:=mQ h1 h2 g3 g4
 have ec:=mQ h3 h4 g1 g2
 have ed:=mQ h3 h4 g3 g4
 have ex:(x1*4294967296+x0)*(y1*4294967296+y0)=x1*y1*18446744073709551616+(x1*y0+x0*y1)*4294967296+x0*y0:=by
  simp only [Int.add_mul,Int.mul_add]
  rw [show x1*4294967296*(y1*4294967296)=x1*y1*18446744073709551616 by rw [Int.mul_assoc,Int.mul_comm 4294967296 (y1*4294967296),Int.mul_assoc y1,←Int.mul_assoc];rfl,show x1*4294967296*y0=x1*y0*4294967296 by rw [Int.mul_assoc,Int.mul_comm 4294967296,←Int.mul_assoc],show x0*(y1*4294967296)=x0*y1*4294967296 by rw [Int.mul_assoc]]
  omega
 have em:aT .u64 (x1*4294967296+x0) (y1*4294967296+y0)=((x1*4294967296+x0)*(y1*4294967296+y0))% 18446744073709551616:=by unfold aT;rw [w64]
 have ma:aT .u64 x1 y1=x1*y1:=dr ea.1 (by omega)
 have mb:aT .u64 x1 y0=x1*y0:=dr eb.1 (by omega)
 have mc:aT .u64 x0 y1=x0*y1:=dr ec.1 (by omega)
 have md:aT .u64 x0 y0=x0*y0:=dr ed.1 (by omega)
 rw [em,ex,ma,mb,mc,md]
 generalize x1*y1=a at ea
 generalize x1*y0=b at eb
 generalize x0*y1=c at ec
 generalize x0*y0=d at ed
 rw [j5 d]
 have t1:aq .u64 b (d/4294967296)=b+d/4294967296:=dr (by omega) (by omega)
 rw [t1,j5 (b+d/4294967296),oK (by omega) (by omega)]
 have t2:aq .u64 ((b+d/4294967296)% 4294967296) c=(b+d/4294967296)% 4294967296+c:=dr (by omega) (by omega)
 rw [t2,j5]
 have hxy:a*18446744073709551616+(b+c)*4294967296+d≤18446744073709551615*18446744073709551615:=by
  have:=(mQ hx0 hx1 hy0 hy1).2
  omega
 have t3:aq .u64 a ((b+d/4294967296)/4294967296)=a+(b+d/4294967296)/4294967296:=dr (by omega) (by omega)
 rw [t3]
 have t4:aq .u64 (a+(b+d/4294967296)/4294967296) (((b+d/4294967296)% 4294967296+c)/4294967296)=a+(b+d/4294967296)/4294967296+((b+d/4294967296)% 4294967296+c)/4294967296:=dr (by omega) (by omega)
 rw [t4]
 congr 1
 omega
theorem GZ {x y:Int} (hx:x=kX y) (h0:1≤y) (h1:y≤18446744073709551615):0≤x∧x≤63∧0≤ae .u64 x∧0≤aD .u64 64 (ae .u64 x)∧2147483648≤au .u64 (ap .u64 y (ae .u64 x)) 32∧au .u64 (ap .u64 y (ae .u64 x)) 32≤4294967295:=by
 obtain ⟨a1,a2,a3,a4⟩:=zq hx h0 h1
 have h2:ap .u64 y (ae .u64 x)≤18446744073709551615:=(oY .u64 _ _).2
 refine ⟨a1,a2,lY _,(ng .u64 _ _).1,?_,?_⟩<;>rw [j5]<;>omega
theorem u_ {u d:Int} (h0:0≤u) (h1:u≤18446744073709551615) (hd:1≤d):aD .u64 u (aT .u64 (cR .u64 u d) d)=u% d∧cR .u64 u d=u/d∧0≤u% d∧u% d<d:=by
 have e1:u.tdiv d=u/d:=Int.tdiv_eq_ediv_of_nonneg h0
 have e2:u/d≤u:=Int.ediv_le_self _ h0
 have e3:0≤u/d:=Int.ediv_nonneg h0 (by omega)
 have e4:=Int.mul_ediv_add_emod u d
 have e5:=Int.emod_nonneg u (show d≠0 by omega)
 have e6:=Int.emod_lt_of_pos u (show 0<d by omega)
 have e7:cR .u64 u d=u/d:=by unfold cR;rw [e1];exact dr e3 (by omega)
 have e8:0≤u/d*d:=Int.mul_nonneg e3 (by omega)
 rw [Int.mul_comm] at e4
 have e9:aT .u64 (u/d) d=u/d*d:=dr e8 (by omega)
 refine ⟨?_,e7,e5,e6⟩
 rw [e7,e9];exact (dr (by omega) (by omega)).trans (by omega)
theorem G0 {y1 y0 u a q r:Int} (ha1:a<4294967296) (hy0:0≤y0) (hu:u<y1*4294967296+y0) (hu0:0≤u) (hi:q*y1+r=u) (hr:0≤r) (ha:0≤a) (ht:q≥4294967296∨(q*y0>4294967296*r+a)):
  u*4294967296+a<q*(y1*4294967296+y0)∧1≤q:=by
 have e:q*(y1*4294967296+y0)=q*y1*4294967296+q*y0:=by rw [Int.mul_add,Int.mul_assoc]
 rcases ht with h|h
 ·refine ⟨?_,by omega⟩
  have h1:=Int.mul_le_mul_of_nonneg_right h (show 0≤y1*4294967296+y0 by omega)
  omega
 ·refine ⟨by omega,?_⟩
  refine Int.not_lt.1 fun hq=> ?_
  have:=Int.mul_nonneg (show 0≤ -q by omega) hy0
  rw [Int.neg_mul] at this
  omega
theorem G3 {y1 y0 u a q r:Int} (hi:q*y1+r=u) (ht:q*y0≤4294967296*r+a):q*(y1*4294967296+y0)≤u*4294967296+a:=by
 have e:q*(y1*4294967296+y0)=q*y1*4294967296+q*y0:=by rw [Int.mul_add,Int.mul_assoc]
 omega
theorem G4 {y1 y0 u a q r:Int} (ha:0≤a) (hi:q*y1+r=u) (hr:r≥4294967296) (hq:q≤4294967296) (hy0:0≤y0) (hy01:y0<4294967296):q*(y1*4294967296+y0)≤u*4294967296+a:=by
 have e:q*(y1*4294967296+y0)=q*y1*4294967296+q*y0:=by rw [Int.mul_add,Int.mul_assoc]
 have h1:=Int.mul_le_mul_of_nonneg_right hq hy0
 omega
def Dg (y1 y0 u a q:Int):Prop:=q*(y1*4294967296+y0)≤u*4294967296+a∧u*4294967296+a<(q+1)*(y1*4294967296+y0)
def DgI (y1 y0 u a:Int) (p:Int×Int):Prop:=p.1*y1+p.2=u∧0≤p.2∧p.2<4294967296∧0≤p.1∧p.1≤4294967297∧u*4294967296+a<(p.1+1)*(y1*4294967296+y0)
theorem zt {y1 y0 u a:Int} (hy1:2147483648≤y1) (hy11:y1<4294967296) (hy0:0≤y0) (hy01:y0<4294967296) (hu0:0≤u) (hu:u<y1*4294967296+y0) (ha:0≤a) (ha1:a<4294967296):DgI y1 y0 u a (u/y1,u% y1):=by
 have e4:=Int.mul_ediv_add_emod u y1
 have e5:=Int.emod_nonneg u (show y1≠0 by omega)
 have e6:=Int.emod_lt_of_pos u (show 0<y1 by omega)
 have e3:0≤u/y1:=Int.ediv_nonneg hu0 (by omega)
 have e7:u/y1≤4294967297:=by
  have:u/y1<4294967298:=(Int.ediv_lt_iff_lt_mul (by omega)).2 (by omega)
  omega
 rw [Int.mul_comm] at e4
 refine ⟨e4,e5,by show u% y1<_;omega,e3,e7,?_⟩
 have e8:(u/y1+1)*(y1*4294967296+y0)=u/y1*y1*4294967296+y1*4294967296+(u/y1)*y0+y0:=by
  rw [Int.add_mul,Int.mul_add,Int.one_mul,Int.mul_assoc];omega
 have e9:=Int.mul_nonneg e3 hy0
 show u*4294967296+a<(u/y1+1)*(y1*4294967296+y0)
 rw [e8]
 omega
theorem G5 {y1 y0 u a q r:Int} (hy0:0≤y0) (h:DgI y1 y0 u a (q,r)) (hu:u<y1*4294967296+y0) (ha:0≤a) (ha1:a<4294967296) (hu0:0≤u) (ht:q≥4294967296∨(q*y0>4294967296*r+a)):
  (q - 1)*y1+(r+y1)=u∧1≤q∧u*4294967296+a<(q - 1+1)*(y1*4294967296+y0):=by
 obtain ⟨h1,h2,h3,h4,h5,h6⟩:=h
 obtain ⟨a1,a2⟩:=G0 ha1 hy0 hu hu0 h1 h2 ha ht
 refine ⟨?_,a2,?_⟩
 ·rw [Int.sub_mul,Int.one_mul];simp only at h1;omega
 ·rw [Int.sub_add_cancel];exact a1
theorem va {α R:Type} {gq gr:α→Int} {mk:Int→Int→α} (hmq: ∀q r,gq (mk q r)=q) (hmr: ∀q r,gr (mk q r)=r) {y1 y0 u a:Int} (hy1:2147483648≤y1) (hy11:y1<4294967296) (hy0:0≤y0) (hy01:y0<4294967296) (hu0:0≤u) (hu:u<y1*4294967296+y0) (ha:0≤a) (ha1:a<4294967296) {F:(α→R)→α→R} {d:α→R} {j:Int→R}
  (hF: ∀ag p,F ag p=if decide (gq p≥4294967296)=true then (if decide (aq .u64 (gr p) y1≥4294967296)=true then j (aD .u64 (gq p) 1) else ag (mk (aD .u64 (gq p) 1) (aq .u64 (gr p) y1))) else
   if decide (aT .u64 (gq p) y0>aq .u64 (aT .u64 4294967296 (gr p)) a)=true then (if decide (aq .u64 (gr p) y1≥4294967296)=true then j (aD .u64 (gq p) 1) else ag (mk (aD .u64 (gq p) 1) (aq .u64 (gr p) y1))) else j (gq p))
  {v:R} (hv: ∀q,Dg y1 y0 u a q→j q=v): ∀(n:Nat) (p:α),DgI y1 y0 u a (gq p,gr p)→(4294967296 - gr p).toNat<n→ao n F d p=v
 | 0,p,_,h=>by omega
 | n+1,p,hI,hn=>by
  rw [ao,hF]
  obtain ⟨h1,h2,h3,h4,h5,h6⟩:=hI
  simp only at h1 h2 h3 h4 h5 h6
  generalize hq:gq p=q at*
  generalize hr:gr p=r at*
  have eA:aq .u64 r y1=r+y1:=dr (by omega) (by omega)
  have eS:1≤q→aD .u64 q 1=q - 1:=fun h=>dr (by omega) (by omega)
  have down:(q≥4294967296∨(q*y0>4294967296*r+a))→(if decide (aq .u64 r y1≥4294967296)=true then j (aD .u64 q 1) else ao n F d (mk (aD .u64 q 1) (aq .u64 r y1)))=v:=by
   intro ht
   obtain ⟨d1,d2,d3⟩:=G5 hy0 (show DgI y1 y0 u a (q,r) from ⟨h1,h2,h3,h4,h5,h6⟩) hu ha ha1 hu0 ht
   rw [eA,eS d2]
   by_cases hb:r+y1≥4294967296
   ·rw [if_pos (by simpa using hb)]
    exact hv _ ⟨G4 ha d1 hb (by omega) hy0 hy01,d3⟩
   ·rw [if_neg (by simpa using hb)]
    exact va hmq hmr hy1 hy11 hy0 hy01 hu0 hu ha ha1 hF hv n _ (by rw [hmq,hmr];exact ⟨d1,by show 0≤r+y1;omega,by show r+y1<_;omega,by show 0≤q - 1;omega,by show q - 1≤_;omega,d3⟩) (by rw [hmr];omega)
  by_cases ht:q≥4294967296
  ·rw [if_pos (by simpa using ht)]
   exact down (.inl ht)
  ·rw [if_neg (by simpa using ht)]
   have hm:=mQ h4 (show q≤4294967295 by omega) hy0 (show y0≤4294967295 by omega)
   have e1:aT .u64 q y0=q*y0:=dr hm.1 (by omega)
   have e2:aT .u64 4294967296 r=4294967296*r:=dr (by omega) (by omega)
   have e3:aq .u64 (4294967296*r) a=4294967296*r+a:=dr (by omega) (by omega)
   rw [e1,e2,e3]
   by_cases hc:q*y0>4294967296*r+a
   ·rw [if_pos (by simpa using hc)]
    exact down (.inr hc)
   ·rw [if_neg (by simpa using hc)]
    exact hv _ ⟨G3 h1 (by omega),h6⟩
theorem G6 {a b:Int} {s:Nat} (hs:s≤63) (ha0:0≤a) (ha:a*2^s<18446744073709551616) (hb0:0≤b) (hb:b<2^s):orI .u64 (a*2^s) b=a*2^s+b:=by
 obtain ⟨a,rfl⟩:=Int.eq_ofNat_of_zero_le ha0
 obtain ⟨b,rfl⟩:=Int.eq_ofNat_of_zero_le hb0
 have hp:2^s≤2^63:=Nat.pow_le_pow_right (by decide) hs
 have e0:((a:Int)*2^s)=((a*2^s:Nat):Int):=by push_cast;rfl
 have ha':a*2^s<18446744073709551616:=by
  rw [e0] at ha
  generalize a*2^s=t at ha⊢
  omega
 have hb':b<2^s:=by exact_mod_cast hb
 rw [e0]
 unfold orI
 have t: ∀n:Nat,n<18446744073709551616→(BitVec.ofInt IntKind.u64.bits (n:Int)).toNat=n:=by
  intro n hn
  show (BitVec.ofInt 64 (n:Int)).toNat=n
  rw [BitVec.toNat_ofInt];omega
 rw [BitVec.toNat_or,t _ ha',t _ (by omega),Nat.mul_comm a,←Nat.two_pow_add_eq_or_of_lt hb',w64]
 rw [Nat.mul_comm] at ha'
 have:2^s*a+b<18446744073709551616:=by
  have h1:2^s*(a+1)≤18446744073709551616:=by
   have h2:2^s∣18446744073709551616:=⟨2^(64 - s),by rw [←Nat.pow_add,show s+(64 - s)=64 by omega]⟩
   obtain ⟨c,hc⟩:=h2
   rw [hc] at ha'⊢
   exact Nat.mul_le_mul_left _ (Nat.lt_of_mul_lt_mul_left ha')
  rw [Nat.mul_add,Nat.mul_one] at h1
  omega
 omega
theorem G7 (a b:Int) {c:Int} (h:0<c):(a*c)% (b*c)=a% b*c:=by
 rw [Int.mul_comm a,Int.mul_comm b,Int.mul_emod_mul_of_pos _ _ h,Int.mul_comm]
theorem G8 {N y Y p u w a1 a0 q1 q0 v:Int} (hp:0<p) (hY:Y=y*p) (hY0:0<Y) (hw:w=a1*4294967296+a0) (hN:u*18446744073709551616+w=N*p)
  (hv:v=u*4294967296+a1 - q1*Y) (h1:q0*Y≤v*4294967296+a0) (h2:v*4294967296+a0<(q0+1)*Y):
  q1*4294967296+q0=N/y∧v*4294967296+a0 - q0*Y=N% y*p:=by
 have e:N*p=(q1*4294967296+q0)*Y+(v*4294967296+a0 - q0*Y):=by
  have e1:(q1*4294967296+q0)*Y=q1*Y*4294967296+q0*Y:=by rw [Int.add_mul,Int.mul_right_comm]
  rw [e1];omega
 have e2:(q0+1)*Y=q0*Y+Y:=by rw [Int.add_mul,Int.one_mul]
 generalize hR:v*4294967296+a0 - q0*Y=R at*
 generalize hQ:q1*4294967296+q0=Q at*
 have hR0:0≤R:=by omega
 have hR1:R<Y:=by omega
 have d:N*p/Y=Q:=by
  rw [e,Int.add_comm,Int.add_mul_ediv_right _ _ (by omega),Int.ediv_eq_zero_of_lt hR0 hR1];omega
 have m:N*p% Y=R:=by rw [e,Int.add_comm,Int.add_mul_emod_self_right,Int.emod_eq_of_lt hR0 hR1]
 rw [hY] at d m
 rw [Int.mul_ediv_mul_of_pos_left _ _ hp] at d
 rw [G7 _ _ hp] at m
 exact ⟨d.symm,m.symm⟩
theorem zu {u a q Y:Int} (h0:0≤u*4294967296+a - q*Y) (h1:u*4294967296+a - q*Y≤18446744073709551615):aD .u64 (aq .u64 (aT .u64 u 4294967296) a) (aT .u64 q Y)=u*4294967296+a - q*Y:=by
 unfold aD aq aT
 simp only [w64]
 generalize q*Y=T at*
 omega
theorem G9 {q r:Int} (h0:0≤q*4294967296+r) (h1:q*4294967296+r≤18446744073709551615):aq .u64 (aT .u64 q 4294967296) r=q*4294967296+r:=by
 unfold aq aT
 simp only [w64]
 omega
theorem zw {α R:Type} {f:α→R} {G:(α→R)→R} {v:R} (h: ∀j,j=f→G j=v):gj f G=v:=h f rfl
set_option maxRecDepth 4000 in
theorem G_ {hi lo y:Int} (hh0:0≤hi) (hl0:0≤lo) (hl1:lo≤18446744073709551615) (hy:hi<y) (hy1:y≤18446744073709551615):mB hi lo y=((hi*18446744073709551616+lo)/y,(hi*18446744073709551616+lo)% y):=by
 unfold mB
 rw [if_neg (by simp;omega),if_neg (by simp;omega)]
 by_cases h0:hi=0
 ·subst h0
  rw [if_pos (by decide)]
  have e1:lo.tdiv y=lo/y:=Int.tdiv_eq_ediv_of_nonneg hl0
  have e2:lo/y≤lo:=Int.ediv_le_self _ hl0
  have e3:0≤lo/y:=Int.ediv_nonneg hl0 (by omega)
  have e4:cR .u64 lo y=lo/y:=by unfold cR;rw [e1];exact dr e3 (by omega)
  have e5:cD .u64 lo y=lo% y:=Int.tmod_eq_emod_of_nonneg hl0
  rw [e4,e5];simp
 ·rw [if_neg (by simpa using h0)]
  obtain ⟨s,hs⟩: ∃s,s=kX y:=⟨_,rfl⟩
  obtain ⟨s0,s1,s2,s3⟩:=zq hs (by omega) hy1
  have hY:=(oY .u64 y (ae .u64 s)).2
  simp only [ak,←hs]
  obtain ⟨k,rfl⟩:=Int.eq_ofNat_of_zero_le s0
  rw [s3] at s2 hY
  simp only [Int.toNat_natCast] at s2 s3 hY
  rw [s3]
  have hk:k≤63:=by omega
  have hp:(0:Int)<2^k:=Int.pow_pos (by decide)
  have hp2:(2:Int)^k*2^(64 - k)=18446744073709551616:=by rw [←Int.pow_add,show k+(64 - k)=64 by omega];rfl
  have hc:ae .u64 (k:Int)=k:=l8 (by omega) (by omega)
  have hYm:y*2^k≤18446744073709551615:=by show _≤(18446744073709551615:Int);exact hY
  -- the high part
  have hhi:hi*2^k<y*2^k:=Int.mul_lt_mul_of_pos_right hy hp
  have m1:ap .u64 hi (k:Int)=hi*2^k:=by
   unfold ap
   rw [Int.toNat_natCast,show min k IntKind.u64.bits=k by show min k 64=k;omega]
   exact dr (Int.mul_nonneg hh0 (Int.le_of_lt hp)) (by omega)
  have m2:au .u64 lo (aD .u64 64 (k:Int))=lo/2^(64 - k):=by
   have e:aD .u64 64 (k:Int)=((64 - k:Nat):Int):=by
    have:aD .u64 64 (k:Int)=64 - (k:Int):=dr (by omega) (by omega)
    omega
   rw [e];exact ji (by rw [Int.toNat_natCast];show min (64 - k) 64=_;omega)
  have m3:ap .u64 lo (k:Int)=lo*2^k% 18446744073709551616:=by
   unfold ap
   rw [Int.toNat_natCast,show min k IntKind.u64.bits=k by show min k 64=k;omega,w64]
  have hb0:0≤lo/2^(64 - k):=Int.ediv_nonneg hl0 (Int.le_of_lt (Int.pow_pos (by decide)))
  have hb1:lo/2^(64 - k)<2^k:=(Int.ediv_lt_iff_lt_mul (Int.pow_pos (by decide))).2 (by rw [hp2];omega)
  rw [hc,m1,m2,m3,G6 hk hh0 (by omega) hb0 hb1]
  -- the whole, shifted
  have hN:(hi*2^k+lo/2^(64 - k))*18446744073709551616+lo*2^k% 18446744073709551616=(hi*18446744073709551616+lo)*2^k:=by
   have e:lo/2^(64 - k)=lo*2^k/18446744073709551616:=by
    rw [←hp2,Int.mul_comm ((2:Int)^k),Int.mul_ediv_mul_of_pos_left _ _ hp]
   rw [e,Int.add_mul,Int.add_mul (hi*18446744073709551616),Int.mul_right_comm hi]
   omega
  have hy1':0<y:=by omega
  have hQ0:0≤(hi*18446744073709551616+lo)/y:=Int.ediv_nonneg (by omega) (by omega)
  have hQ1:(hi*18446744073709551616+lo)/y<18446744073709551616:=(Int.ediv_lt_iff_lt_mul hy1').2 (by omega)
  have hu0:0≤hi*2^k+lo/2^(64 - k):=by have:=Int.mul_nonneg hh0 (Int.le_of_lt hp);omega
  have hu1:hi*2^k+lo/2^(64 - k)<y*2^k:=by
   have h1:=Int.mul_le_mul_of_nonneg_right (show hi+1≤y by omega) (Int.le_of_lt hp)
   rw [Int.add_mul,Int.one_mul] at h1
   omega
  obtain ⟨N,hNe⟩: ∃N,N=hi*18446744073709551616+lo:=⟨_,rfl⟩
  rw [←hNe] at hN hQ0 hQ1⊢
  obtain ⟨Y,hYe⟩: ∃Y,Y=y*2^k:=⟨_,rfl⟩
  rw [←hYe] at s2 hYm hu1⊢
  generalize hi*2^k+lo/2^(64 - k)=u at hN hu0 hu1⊢
  have hW0:0≤lo*2^k% 18446744073709551616:=Int.emod_nonneg _ (by decide)
  have hW1:lo*2^k% 18446744073709551616<18446744073709551616:=Int.emod_lt_of_pos _ (by decide)
  generalize lo*2^k% 18446744073709551616=W at hN hW0 hW1⊢
  rw [j5 Y,oK (by omega) hYm,j5 W,oK hW0 (by omega)]
  have hYs:Y/4294967296*4294967296+Y% 4294967296=Y:=by omega
  have hWs:W=W/4294967296*4294967296+W% 4294967296:=by omega
  have b1:2147483648≤Y/4294967296:=by omega
  have b2:Y/4294967296<4294967296:=by omega
  have b3:0≤Y% 4294967296:=by omega
  have b4:Y% 4294967296<4294967296:=by omega
  have b5:0≤W/4294967296:=by omega
  have b6:W/4294967296<4294967296:=by omega
  have b7:0≤W% 4294967296:=by omega
  have b8:W% 4294967296<4294967296:=by omega
  generalize Y/4294967296=y1 at*
  generalize Y% 4294967296=y0 at*
  generalize W/4294967296=a1 at*
  generalize W% 4294967296=a0 at*
  obtain ⟨r1,r2,r3,r4⟩:=u_ (u:=u) (d:=y1) hu0 (by omega) (by omega)
  rw [r1,r2]
  refine zw fun j8 hj8=> ?_
  refine va (j:=j8) (gq:=fun p:Int×Int=>p.1) (gr:=fun p=>p.2) (mk:=fun q r=>(q,r)) (fun _ _=>rfl) (fun _ _=>rfl) b1 b2 b3 b4 hu0 (by omega) b5 b6 (by exact fun ag p=>rfl) (fun q1 hq1=> ?_) _ _ (by exact zt b1 b2 b3 b4 hu0 (by omega) b5 b6) (by show (4294967296 - u% y1).toNat<_;omega)
  obtain ⟨g1,g2⟩:=hq1
  subst hj8
  dsimp only
  rw [hYs] at g1 g2
  have g3:(q1+1)*Y=q1*Y+Y:=by rw [Int.add_mul,Int.one_mul]
  rw [g3] at g2
  have ev:=zu (u:=u) (a:=a1) (q:=q1) (Y:=Y) (by omega) (by omega)
  rw [ev]
  obtain ⟨v,hv⟩: ∃v,v=u*4294967296+a1 - q1*Y:=⟨_,rfl⟩
  rw [←hv]
  have hv0:0≤v:=by omega
  have hv1:v<Y:=by omega
  obtain ⟨t1,t2,t3,t4⟩:=u_ (u:=v) (d:=y1) hv0 (by omega) (by omega)
  rw [t1,t2]
  refine zw fun j9 hj9=> ?_
  refine va (j:=j9) (gq:=fun p:Int×Int=>p.2) (gr:=fun p=>p.1) (mk:=fun q r=>(r,q)) (fun _ _=>rfl) (fun _ _=>rfl) b1 b2 b3 b4 hv0 (by omega) b7 b8 (by exact fun ag p=>rfl) (fun q0 hq0=> ?_) _ _ (by exact zt b1 b2 b3 b4 hv0 (by omega) b7 b8) (by show (4294967296 - v% y1).toNat<_;omega)
  obtain ⟨f1,f2⟩:=hq0
  subst hj9
  dsimp only
  rw [hYs] at f1 f2
  obtain ⟨z1,z2⟩:=G8 hp hYe (by omega) hWs hN hv f1 f2
  have f3:(q0+1)*Y=q0*Y+Y:=by rw [Int.add_mul,Int.one_mul]
  rw [f3] at f2
  rw [zu (by omega) (by omega),G9 (by omega) (by omega),z1,z2,ji (m:=k) (by rw [Int.toNat_natCast];show min k 64=k;omega),Int.mul_ediv_cancel _ (Int.ne_of_gt hp)]
theorem Ha (a b:Int):0≤orI .u64 a b∧orI .u64 a b≤18446744073709551615:=wd .u64 a b
theorem Hb (a b:Int):0≤aD .u64 a b∧aD .u64 a b≤18446744073709551615:=ng .u64 a b
theorem j_ {a b:Int} (h0:0≤a) (h1:a≤4294967295) (h2:0≤b) (h3:b≤4294967295):aq .u64 a b=a+b:=dr (by omega) (by omega)
theorem zx {a b n:Int} (ha:0≤a) (hn:a<n) (hn1:n≤18446744073709551615) (hb:0≤b) (hb1:b≤18446744073709551615):(jU a b).1<n:=by
 rw [zr ha (by omega) hb hb1]
 refine (Int.ediv_lt_iff_lt_mul (by decide)).2 ?_
 have h1:=Int.mul_le_mul (show a≤n - 1 by omega) hb1 hb (by omega)
 omega
theorem zy (n:Int) {a b:Int} {x:Int×Int} (hx:x=jU a b) (ha:0≤a) (hn:a<n) (hn1:n≤18446744073709551615) (hb:0≤b) (hb1:b≤18446744073709551615):x.1<n:=hx▸zx ha hn hn1 hb hb1
theorem zz {u d:Int} (h:0≤u∧u≤18446744073709551615) (hd:1≤d) (hd1:d≤4294967295):0≤aD .u64 u (aT .u64 (cR .u64 u d) d)∧aD .u64 u (aT .u64 (cR .u64 u d) d)≤4294967295:=by
 obtain ⟨a1,a2,a3,a4⟩:=u_ h.1 h.2 hd
 rw [a1];omega
theorem zA {a b n:Int} (ha:0≤a) (hn:a<n) (hb:0≤b) (hb1:b≤18446744073709551615) (hn1:n≤18446744073709551615):fN a b n=a*b% n:=by
 have h1:=zx ha hn hn1 hb hb1
 have hp:=Int.mul_nonneg ha hb
 unfold fN ak
 rw [zr ha (by omega) hb hb1] at h1⊢
 simp only at h1⊢
 rw [G_ (Int.ediv_nonneg hp (by decide)) (Int.emod_nonneg _ (by decide)) (by have:=Int.emod_lt_of_pos (a*b) (show (0:Int)<18446744073709551616 by decide);omega) h1 hn1]
 simp only
 congr 1
 omega
theorem li {a b n x:Int} (hx:x=fN a b n) (ha:0≤a) (hn:a<n) (hb:0≤b) (hb1:b≤18446744073709551615) (hn1:n≤18446744073709551615):0≤x∧x<n:=by
 rw [hx,zA ha hn hb hb1 hn1];exact ⟨Int.emod_nonneg _ (by omega),Int.emod_lt_of_pos _ (by omega)⟩
theorem Hc {a e n x:Int} (hx:x=oq a e n) (ha:0≤a) (hn:a<n) (h1:1<n) (hn1:n≤18446744073709551615):0≤x∧x<n:=by
 subst hx
 unfold oq
 refine GB (P:=fun p:Int×Int×Int=>0≤p.1∧p.1<n∧0≤p.2.2∧p.2.2<n) (Q:=fun x=>0≤x∧x<n) (meas:=fun p=>p.2.1.toNat) ?_ _ _ ⟨ha,hn,show (0:Int)≤1 by decide,h1⟩ (by show e.toNat<_;omega)
 rintro ag ⟨a,e,x⟩ ⟨p1,p2,p3,p4⟩ ih
 simp only at p1 p2 p3 p4 ih⊢
 by_cases he:e>0
 ·rw [if_pos (by simpa using he)]
  have hs:(au .u64 e 1).toNat<e.toNat:=by rw [cK];omega
  simp only [ak]
  by_cases hc:(bG .u64 e 1==1)=true
  ·rw [if_pos hc]
   have m1:=li (x:=fN x a n) rfl p3 p4 p1 (by omega) hn1
   have m2:=li (x:=fN a a n) rfl p1 p2 p1 (by omega) hn1
   exact ih _ ⟨m2.1,m2.2,m1.1,m1.2⟩ hs
  ·rw [if_neg hc]
   have m2:=li (x:=fN a a n) rfl p1 p2 p1 (by omega) hn1
   exact ih _ ⟨m2.1,m2.2,p3,p4⟩ hs
 ·rw [if_neg (by simpa using he)]
  exact ⟨p3,p4⟩
@[go_sem] theorem Hd {n:Nat} {k:IntKind}: ∀{l:List Int},ltL n (l.map (V.int k))=True
 | []=>by simp [ltL]
 | a::l=>by simp only [List.map_cons,ltL,Hd (l:=l),ltV,and_self]
@[go_sem] theorem Mu {k:IntKind} {a b c i:Int}:elt [V.int k a,V.int k b,V.int k c] i.toNat (V.int k 0)=V.int k (gt [a,b,c] i):=by
 unfold elt gt
 match i.toNat with
 | 0=>rfl
 | 1=>rfl
 | 2=>rfl
 | n+3=>rfl
theorem He:cU.length=12:=rfl
theorem Hf:cU.all (fun x=>decide (2≤x)&&decide (x≤37))=true:=by decide
theorem cP {j:Int} (h0:0≤j) (h1:j<12):2≤gt cU j∧gt cU j≤37:=by
 have hm:gt cU j∈cU:=dN (by show j.toNat<12;omega)
 simpa using List.all_eq_true.1 Hf _ hm
def oL (u i:Int):Prop:= ∀k:Int,0≤k→k<i→u% gt cU k≠0
theorem Hg {u:Int}:oL u 0:=fun k h0 h1=>by omega
theorem Hh {u i:Int} (h:oL u i) (hu:0≤u) (h0:0≤i) (h1:i<12) (hr: ¬cD .u64 u (gt cU i)=0):oL u (i+1):=by
 intro k k0 k1
 by_cases hk:k<i
 ·exact h k k0 hk
 ·obtain rfl:k=i:=by omega
  rwa [show cD .u64 u (gt cU k)=u% gt cU k from Int.tmod_eq_emod_of_nonneg hu] at hr
theorem Hi: ∀u:Fin 38,2≤u.val→ ∃k:Fin 12,((u.val:Nat):Int)% cU.getD k.val 0=0:=by decide
theorem Hj {u i:Int} (h:oL u i) (hi:12≤i) (h2:2≤u):37<u:=by
 refine Int.not_le.1 fun hu=> ?_
 obtain ⟨k,hk⟩:=Hi ⟨u.toNat,by omega⟩ (by show 2≤u.toNat;omega)
 refine h (k.val:Int) (by omega) (by omega) ?_
 have e:((u.toNat:Nat):Int)=u:=by omega
 rw [←e,lx]
 exact hk
theorem Hk:jH.all (fun x=>decide (0≤x)&&decide (x≤63))=true:=by decide
theorem Hl {a x:Int} (hx:x=oo a):0≤x∧x≤64:=by
 subst hx
 unfold oo
 split
 ·omega
 ·have hi:=zp (x:=bG .u64 a (jm .u64 a))
  have hm:=dN (l:=jH) (i:=au .u64 (aT .u64 (bG .u64 a (jm .u64 a)) 285870213051353865) 58) (by show _<64;omega)
  have:=List.all_eq_true.1 Hk _ hm
  simp only [Bool.and_eq_true,decide_eq_true_eq] at this
  rw [l7 (by omega) (by omega)];omega
theorem Hm {x:Int} (h0:0≤x) (h1:x≤64):aD .i64 x 1=x - 1:=by unfold aD;rw [IntKind.wrap_i64];omega
theorem mR {m:Int} (h:1≤m):0≤cD .i64 1 m∧cD .i64 1 m<m:=by
 rw [show cD .i64 1 m=1% m from Int.tmod_eq_emod_of_nonneg (by decide)]
 exact ⟨Int.emod_nonneg _ (by omega),Int.emod_lt_of_pos _ (by omega)⟩
theorem Hn {a b m:Int} (h:jV a b m=0):1≤m∧m<2305843009213693952∧0≤a∧a<m∧0≤b∧b<m:=by
 unfold jV at h
 simp only [ak,ot] at h
 repeat' (split at h)
 all_goals simp_all
 all_goals omega
instance Mv (a b m:Int):CF (jV a b m) (fun x=>x=0→1≤m∧m<2305843009213693952∧0≤a∧a<m∧0≤b∧b<m):=⟨Hn⟩
theorem ru {x:Int} (h0:0≤x) (h1:x≤9223372036854775807):ae .u64 x=x:=l8 h0 (by omega)
theorem Ho {a b n:Int} (ha:0≤a) (hn:a<n) (hb:0≤b) (hb1:b≤9223372036854775807) (hn1:n≤9223372036854775807):jd a b n=a*b% n:=by
 have h:=zA ha hn hb (by omega) (by omega)
 have e:jd a b n=ae .i64 (fN (ae .u64 a) (ae .u64 b) (ae .u64 n)):=rfl
 have c1:ae .u64 a=a:=l8 ha (by omega)
 have c2:ae .u64 b=b:=l8 hb (by omega)
 have c3:ae .u64 n=n:=l8 (by omega) (by omega)
 rw [e,c1,c2,c3,h]
 have:=Int.emod_nonneg (a*b) (show n≠0 by omega)
 have:=Int.emod_lt_of_pos (a*b) (show 0<n by omega)
 exact l7 (by omega) (by omega)
theorem vb {a b n x:Int} (hx:x=jd a b n) (ha:0≤a) (hn:a<n) (hb:0≤b) (hb1:b≤9223372036854775807) (hn1:n≤9223372036854775807):0≤x∧x<n:=by
 rw [hx,Ho ha hn hb hb1 hn1];exact ⟨Int.emod_nonneg _ (by omega),Int.emod_lt_of_pos _ (by omega)⟩
end Go.Proofs.YtlmleoeemmhboaaGreatDoor
namespace Go.Proofs.YtlmleoeemmhboaaGreatDoor
open Go.RowKit
set_option linter.unusedVariables false
set_option linter.unusedSimpArgs false
instance Mw {s:List Int}:CF (mC s) (fun x=>x.length=s.length):=⟨rfl⟩
theorem Hp (n:Int):ox n=[ae .u8 (au .u64 n 56),ae .u8 (au .u64 n 48),ae .u8 (au .u64 n 40),ae .u8 (au .u64 n 32),ae .u8 (au .u64 n 24),ae .u8 (au .u64 n 16),ae .u8 (au .u64 n 8),ae .u8 (au .u64 n 0)]:=by kernel_rfl
instance Mx {n:Int}:CF (ox n) (fun x=>x.length=8):=⟨by rw [Hp];rfl⟩
end Go.Proofs.YtlmleoeemmhboaaGreatDoor
namespace Go.Proofs.YtlmleoeemmhboaaGreatDoor
open Go.RowKit
set_option linter.unusedVariables false
set_option linter.unusedSimpArgs false
theorem Hq (i:ab) (d:Int):oz i d=a8 i d:=by
 obtain ⟨k,n,b,l⟩:=i
 have hany:mD l d= !(eg l (d - 1)):=by
  have h:=mz (l:=l) (C:=fun x=>kY x d) (d:=fun _=>default) (F:=fun ag1 p1=>if decide (p1<(l.length:Int)) then (ak (kY (gt l p1) d) (fun x4=>if x4 then p1 else ag1 (p1+1))) else -1) (fun ag p=>rfl)
  have h2:mD l d=l.any (fun x=>kY x d):=h
  rw [h2,q7,List.not_all_eq_any_not];rfl
 unfold oz
 simp only [ak,a8,hany,Bool.not_not]
 by_cases e1:k=1
 ·subst e1;cases b with
  | nil=>cases l with
   | nil=>simp
   | cons y l=>simp;omega
  | cons x b=>simp;omega
 by_cases e2:k=2
 ·subst e2;cases l with
  | nil=>simp [Bool.beq_eq_decide_eq]
  | cons y l=>simp;omega
 by_cases e3:k=3
 ·subst e3
  by_cases h0:n=0
  ·cases b with
   | nil=>
    by_cases h1:0<d
    ·by_cases h2:l.length≤1000
     ·have h2':(l.length:Int)≤1000:=by omega
      simp [h0,h1,h2,h2']
     ·have h2': ¬(l.length:Int)≤1000:=by omega
      simp [h0,h1,h2,h2']
    ·simp [h0,h1]
   | cons x b=>simp [h0];omega
  ·simp [h0]
 ·simp [e1,e2,e3]
theorem zB: ∀{k:Nat} {n:Int},be (k+1) n=(n/256^k)% 256::be k n
 | 0,n=>by simp [be]
 | k+1,n=>by
  rw [be,zB (k:=k),be]
  simp only [List.cons_append,List.cons.injEq,and_true]
  rw [Int.ediv_ediv_of_nonneg (by omega),Int.pow_succ,Int.mul_comm (256^k)]
theorem zC {n:Int} {F:(Int×List Int→List Int)→Int×List Int→List Int} {d:Int×List Int→List Int}
  (hF: ∀ag p,F ag p=if decide (p.1≥0)=true then ag (p.1 - 1,p.2++[ae .u8 (au .u64 n (8*p.1))]) else p.2):
  ∀(k fuel:Nat) (out:List Int),k≤8→k<fuel→ao fuel F d ((k:Int) - 1,out)=out++be k n
 | 0,fuel,out,_,hf=>by
  obtain ⟨m,rfl⟩: ∃m,fuel=m+1:=⟨fuel - 1,by omega⟩
  rw [ao,hF];simp [be]
 | k+1,fuel,out,hk,hf=>by
  obtain ⟨m,rfl⟩: ∃m,fuel=m+1:=⟨fuel - 1,by omega⟩
  rw [ao,hF,if_pos (by simp)]
  have e1:ae .u8 (au .u64 n (8*(((k+1:Nat):Int) - 1)))=(n/256^k)% 256:=by
   have e2:(8*(((k+1:Nat):Int) - 1)).toNat=8*k:=by omega
   unfold ae au
   rw [e2,show min (8*k) (IntKind.bits .u64)=8*k by show min (8*k) 64=8*k;omega,Int.fdiv_eq_ediv_of_nonneg _ (Int.le_of_lt (Int.pow_pos (by omega))),Int.pow_mul]
   rfl
  simp only
  rw [e1,show ((k+1:Nat):Int) - 1 - 1=(k:Int) - 1 by omega,zC hF k m _ (by omega) (by omega),zB]
  simp
theorem rx {out:List Int} {n size:Int} (h0:0≤size) (h1:size≤8):je out n size=out++be size.toNat n:=by
 unfold je
 have:=zC (n:=n) (d:=fun _=>default) (fun ag p=>rfl) size.toNat ((size - 1+1).toNat+1) out (by omega) (by omega)
 rw [show ((size.toNat:Nat):Int)=size by omega] at this
 exact this
theorem vc {out x:List Int} {n size:Int} (h:x=je out n size): ¬(0≤size∧size≤8)∨(x.length:Int)=out.length+size:=by
 by_cases hs:0≤size∧size≤8
 ·right;rw [h,rx hs.1 hs.2];simp [gT];omega
 ·exact .inl hs
theorem Hr {n:Int}:be 8 (ae .u64 n)=be 8 n:=by
 apply q5
 have h8:(256:Int)^8=18446744073709551616:=by decide
 have:ae .u64 n=n% 18446744073709551616:=rfl
 rw [this,h8];omega
theorem zD {n:Int}:be 4 (ae .u64 n)=be 4 n:=by
 apply q5
 have h8:(256:Int)^4=4294967296:=by decide
 have:ae .u64 n=n% 18446744073709551616:=rfl
 rw [this,h8];omega
theorem zE: ∀{l:List ab} {out:List Int},iD out l=l.foldl eN out
 | [],_=>rfl
 | x::l,out=>by simp only [iD,List.foldl_cons];exact zE
theorem Ht (out:List Int) (i:ab):oA out i=eN out i:=by
 obtain ⟨k,n,b,l⟩:=i
 unfold oA
 simp only [ak,eN]
 by_cases hl:out.length>16384
 ·have:(out.length:Int)>16384:=by omega
  simp [hl,this]
 have hl': ¬(out.length:Int)>16384:=by omega
 by_cases e1:k=1
 ·subst e1
  have:ae .u8 1=1:=rfl
  simp [hl,hl',rx,this,Hr]
 by_cases e2:k=2
 ·subst e2
  have:ae .u8 2=2:=rfl
  simp [hl,hl',rx,this,zD]
 have hk:ae .u8 k=k% 256:=rfl
 simp only [hl,hl',e1,e2,decide_false,Bool.false_eq_true,if_false,beq_iff_eq,rx (show (0:Int)≤4 by decide) (show (4:Int)≤8 by decide),hk,Int.reduceToNat,zD]
 rw [oc (l:=l) (fun a s=> .inl (eN s a)) (fun s=>s) (fun ag i s=>by by_cases h:i<(l.length:Int)<;>simp [h]),od,zE]
 simp
theorem oM (r:aJ) (e:Int):fx r e=dO r e:=rfl
theorem ry {r x:aJ} {e:Int} (h:x=fx r e) (he:decide (e=0)=false):x.e≠0:=by
 rw [h,oM];unfold dO
 have:e≠0:=by simpa using he
 split
 ·exact this
 ·rename_i h2;simpa using h2
theorem vd (r:aJ) (n:Int):iH r n=dP r n:=by
 obtain ⟨b,e⟩:=r
 unfold iH dP
 simp only [ak,oM]
 by_cases h:e=0
 ·by_cases h2:n>b.length
  ·simp [h,h2]
  ·simp [h,h2,sl]
   rw [List.take_of_length_le (by simp)]
 ·simp [h]
theorem ve (r:aJ) (n:Int):fQ r n=dq r n:=by
 unfold fQ dq
 simp only [ak,vd]
 rw [GF (l:=(dP r n).1) (fun a s=> .inl (orI .u64 (ap .u64 s 8) (ae .u64 a))) (fun s=>(s,(dP r n).2)) (fun ag i s=>by by_cases h:i<((dP r n).1.length:Int)<;>simp [h]),od]
 rfl
theorem rz {r:aJ} {x:Int×aJ} {n:Int} (h:x=fQ r n) (hb:isB r.b):n>4∨(0≤ae .i64 x.1∧ae .i64 x.1≤4294967295):=by
 by_cases hn:n>4
 ·exact .inl hn
 right
 rw [h,ve]
 unfold dq dP
 split
 ·exact ⟨(by decide:(0:Int)≤ae .i64 0),(by decide:ae .i64 0≤4294967295)⟩
 ·simp only
  have hl:(r.b.take n.toNat).length≤4:=by simp;omega
  have hbt:=y_ hb n.toNat
  rw [y7 hbt (by omega)]
  have hv:=yV hbt
  have h3:(256:Int)^(r.b.take n.toNat).length≤256^4:=(by decide: ∀k,k<5→(256:Int)^k≤256^4) _ (by omega)
  have h4:(256:Int)^4=4294967296:=by decide
  rw [l7 (by omega) (by omega)]
  omega
theorem rA {r:aJ} {x:Int×aJ} {n:Int} (h:x=fQ r n) (hb:isB r.b):isB x.2.b:=by
 rw [h,ve];exact jT hb
theorem rC {r x:aJ} {e:Int} (h:x=fx r e) (hb:isB r.b):isB x.b:=by
 rw [h,oM];exact uP hb
theorem Hu {r:aJ} {x:List Int×aJ} {n:Int} (h:x=iH r n) (hb:isB r.b):isB x.2.b:=by
 rw [h,vd];exact jT hb
theorem Hv {k n:Int} {f:aJ→ab×aJ} {F:(Int×aJ×List ab→ab×aJ)→Int×aJ×List ab→ab×aJ} {d:Int×aJ×List ab→ab×aJ}
  (hF: ∀ag p,F ag p=if decide (p.1<n)=true then (if (p.2.1.e !=0)=true then (⟨k,0,[],p.2.2⟩,p.2.1) else ag (p.1+1,(f p.2.1).2,p.2.2++[(f p.2.1).1])) else (⟨k,0,[],p.2.2⟩,p.2.1)):
  ∀(fuel:Nat) (i:Int) (r:aJ) (l:List ab),(n - i).toNat<fuel→ao fuel F d (i,r,l)=(⟨k,0,[],(eM f (n - i).toNat l r).1⟩,(eM f (n - i).toNat l r).2):=by
 intro fuel
 induction fuel with
 | zero=>intro i r l h;omega
 | succ m ih=>
  intro i r l h
  rw [ao,hF]
  by_cases hi:i<n
  ·rw [if_pos (decide_eq_true hi)]
   obtain ⟨q,hq⟩: ∃q,(n - i).toNat=q+1:=⟨(n - i).toNat - 1,by omega⟩
   by_cases he:r.e=0
   ·simp only [he,bne_self_eq_false,Bool.false_eq_true,if_false]
    rw [ih _ _ _ (by omega),hq]
    simp only [eM,he,ne_eq,not_true_eq_false,if_false]
    rw [show (n - (i+1)).toNat=q by omega]
   ·have:(r.e !=0)=true:=by simpa using he
    simp only [this,if_true]
    rw [hq,uO he]
  ·rw [if_neg (by simpa using hi)]
   rw [show (n - i).toNat=0 by omega];rfl
theorem Hw {r:aJ} {depth:Int} (h0:0≤depth) (h1:isB r.b):iI r depth=cJ r depth:=by
 obtain ⟨d,rfl⟩: ∃d:Nat,depth=d:=⟨depth.toNat,by omega⟩
 clear h0
 have hit:cJ r (d:Int)=jc (match d with|0=>none|d+1=>some (fg d)) r:=by cases d<;>rfl
 rw [hit]
 unfold iI jc
 simp only [ak,gj,ve,oM,vd,mC]
 generalize dq r 1=a
 generalize ae .i64 a.1=k
 by_cases k1:k<1
 ·simp [k1]
 by_cases k2:k>3
 ·simp [k1,k2]
 by_cases k3:k=3
 ·subst k3
  cases d with
  | zero=>simp
  | succ d=>
   have hd:((d+1:Nat):Int)≠0:=by omega
   have hI: ∀q,cJ q (((d+1:Nat):Int) - 1)=fg d q:=by
    intro q;unfold cJ;rw [show (((d+1:Nat):Int) - 1).toNat=d by omega]
   simp only [hI]
   generalize dq a.2 4=b
   generalize ae .i64 b.1=n
   have hd2: ¬((d:Int)+1=0):=by omega
   have key: ∀{F:(Int×aJ×List ab→ab×aJ)→Int×aJ×List ab→ab×aJ} {z:Int×aJ×List ab→ab×aJ} (q:aJ),
     (∀ag p,F ag p=if p.1<n then (if p.2.1.e=0 then ag (p.1+1,(fg d p.2.1).2,p.2.2++[(fg d p.2.1).1]) else (⟨3,0,[],p.2.2⟩,p.2.1)) else (⟨3,0,[],p.2.2⟩,p.2.1))→
     ao (n.toNat+1) F z (0,q,[])=(⟨3,0,[],(eM (fg d) n.toNat [] q).1⟩,(eM (fg d) n.toNat [] q).2):=by
    intro F z q hF
    have:=Hv (k:=3) (n:=n) (f:=fg d) (d:=z) (F:=F) (fun ag p=>by rw [hF];by_cases h1:p.1<n<;>by_cases h2:p.2.1.e=0<;>simp [h1,h2]) (n.toNat+1) 0 q [] (by omega)
    simpa using this
   by_cases hc:n>1000
   ·simp [hc];rw [if_neg hd2];exact key _ fun ag p=>rfl
   ·simp [hc];rw [if_neg hd2];exact key _ fun ag p=>rfl
 by_cases k4:k=1
 ·subst k4;simp
 by_cases k5:k=2
 ·subst k5;simp
 omega
theorem zG {i:ab} (h:i.Kind=3): ∀{l:List ab} {s:List Int},(dp (fun (a:ab) s=>if (a.Kind !=1)=true then .inr (([]:List Int),(3:Int)) else .inl (s++[a.N])) (fun s=>(s,(0:Int))) l s).2≠0∨(dp (fun (a:ab) s=>if (a.Kind !=1)=true then .inr (([]:List Int),(3:Int)) else .inl (s++[a.N])) (fun s=>(s,(0:Int))) l s).1=s++l.map (·.N)
 | [],s=>by right;simp [dp]
 | a::l,s=>by
  simp only [dp]
  by_cases ha:a.Kind=1
  ·have:(a.Kind !=1)=false:=by simp [ha]
   simp only [this,Bool.false_eq_true,if_false]
   rcases zG h (l:=l) (s:=s++[a.N]) with h1|h1
   ·exact .inl h1
   ·right;rw [h1];simp
  ·have:(a.Kind !=1)=true:=by simpa using ha
   simp [this]
theorem zH (i:ab):bT i=if gV i=false then ([],1) else if i.Kind≠3 then ([],3) else dp (fun (a:ab) s=>if (a.Kind !=1)=true then .inr (([]:List Int),(3:Int)) else .inl (s++[a.N])) (fun s=>(s,(0:Int))) i.L []:=by
 unfold bT
 simp only [ak]
 cases gV i
 ·simp
 by_cases hk:i.Kind=3
 ·have:(i.Kind !=3)=false:=by simp [hk]
  simp only [this,hk]
  rw [oc (l:=i.L) (fun a s=>if (a.Kind !=1)=true then .inr (([]:List Int),(3:Int)) else .inl (s++[a.N])) (fun s=>(s,(0:Int))) (fun ag j s=>by by_cases h:j<(i.L.length:Int)<;>by_cases h2:(gt i.L j).Kind=1<;>simp [h,h2])]
  simp
 ·have:(i.Kind !=3)=true:=by simpa using hk
  simp [this,hk]
theorem Hx {i:ab} {x:List Int×Int} (h:x=bT i): ¬x.2=0∨(x.1.length:Int)=i.L.length:=by
 rw [h,zH]
 split
 ·simp
 split
 ·simp
 ·rename_i hk
  rcases zG (i:=i) (by simpa using hk) (l:=i.L) (s:=[]) with h1|h1
  ·exact .inl h1
  ·right;rw [h1];simp
theorem zI {x w:ef} {l:List Int} (h:x=jf w l):x.l.length=w.l.length+1:=by
 rw [h];simp [jf,ak]
theorem Hy {x w:ef} {l:List Int} (h:x=jW w l):x.l.length=w.l.length+1:=by
 rw [h];simp [jW,ak]
def dz (n:Int):ab:=⟨1,n,[],[]⟩
def br (l:List Int):ab:=⟨3,0,[],l.map dz⟩
def ce (b:List Int):ab:=⟨2,0,b,[]⟩
def bK (l:List ab):ab:=⟨3,0,[],l⟩
theorem lj (l:List Int):c_ l=br l:=by
 unfold c_
 exact GA (E:=fun p=>bK p.2) dz (fun ag p=>rfl)
theorem mS (i:ab):gV i=a8 i 8:=rfl
mutual
theorem zJ: ∀(i:ab) {d e:Int},d≤e→a8 i d=true→a8 i e=true
 | ⟨k,n,b,l⟩,d,e,h,hw=>by
  simp only [a8] at hw⊢
  by_cases e1:k=1
  ·subst e1;simpa using hw
  by_cases e2:k=2
  ·subst e2;simpa using hw
  by_cases e3:k=3
  ·subst e3
   simp at hw⊢
   exact ⟨hw.1,hw.2.1,by omega,hw.2.2.2.1,zK l (by omega) hw.2.2.2.2⟩
  ·simp [e1,e2,e3] at hw
theorem zK: ∀(l:List ab) {d e:Int},d≤e→eg l d=true→eg l e=true
 | [],_,_,_,_=>rfl
 | x::l,d,e,h,hw=>by
  simp only [eg,Bool.and_eq_true] at hw⊢
  exact ⟨zJ x h hw.1,zK l h hw.2⟩
end
theorem zL {l:List ab} {d:Int} (h:a8 (bK l) d=true):l.length≤1000∧ ∀x∈l,a8 x (d - 1)=true:=by
 simp only [bK,a8] at h
 simp at h
 refine ⟨h.2.1,?_⟩
 rw [q7] at h
 exact List.all_eq_true.1 h.2.2
theorem zM {i:ab} {d:Int} (h:a8 i d=true) (hk:i.Kind=3):i=bK i.L:=by
 obtain ⟨k,n,b,l⟩:=i
 simp only at hk
 subst hk
 simp [a8] at h
 obtain ⟨rfl,rfl,_⟩:=h
 rfl
def dA {α:Type} (f:ab→Option α):List ab→Option (List α)
 | []=>some []
 | x::l=>match f x with
  | none=>none
  | some a=>match dA f l with
   | none=>none
   | some m=>some (a::m)
def eP {α β:Type} (z:β) (f:α→β):Option α→β
 | none=>z
 | some a=>f a
theorem zO {α R:Type} {f:ab→Option α} {E:List α→R} {z:R}: ∀{l:List ab} {s:List α},
  dp (fun a s=>eP (.inr z) (fun y=> .inl (s++[y])) (f a)) E l s=eP z (fun m=>E (s++m)) (dA f l)
 | [],s=>by simp [dp,dA,eP]
 | a::l,s=>by
  simp only [dp,dA]
  cases f a with
  | none=>rfl
  | some y=>
   have ih:=zO (f:=f) (E:=E) (z:=z) (l:=l) (s:=s++[y])
   refine ih.trans ?_
   cases dA f l<;>simp [eP]
def mT (a:ab):Option Int:=if a.Kind=1 then some a.N else none
theorem zP (i:ab):bT i=if a8 i 8=false then ([],(1:Int)) else if i.Kind≠3 then ([],3) else eP ([],(3:Int)) (fun l=>(l,0)) (dA mT i.L):=by
 rw [zH,mS]
 split
 ·rfl
 split
 ·rfl
 have:(fun (a:ab) (s:List Int)=>if (a.Kind !=1)=true then Sum.inr (([]:List Int),(3:Int)) else Sum.inl (s++[a.N]))=(fun a s=>eP (.inr (([]:List Int),(3:Int))) (fun y=> .inl (s++[y])) (mT a)):=by
  funext a s
  unfold mT
  by_cases h:a.Kind=1<;>simp [h,eP]
 rw [this,zO]
 rfl
theorem Hz (w:ef) (l:List Int):jf w l=⟨w.l++[br l]⟩:=by
 unfold jf
 simp only [ak,lj]
theorem HA (w:ef) (b:List Int):jW w b=⟨w.l++[ce b]⟩:=by
 unfold jW
 simp only [ak];rfl
def cZ (c:bV):ab:=bK [br [c.Bank,c.Epoch,c.Denom,c.Depth,c.A],ce (aC 32 c.Root),br [c.Sign.Z,c.Sign.A,c.Sign.B,c.Sign.R]]
theorem vf (c:bV):jg c=cZ c:=by
 unfold jg
 simp only [ak,Hz,HA]
 rfl
theorem ka {l:List ab} {d:Int} (h:a8 (bK l) d=true) (hd:d≤9): ∀x∈l,a8 x 8=true:=fun x hx=>zJ x (by omega) ((zL h).2 x hx)
def fT (l:List cA):List Int:=l.flatMap fun x=> [x.B,x.R1,x.R2]
def da (s:aS):ab:=bK [cZ s.Coin,br [s.Node.Level,s.Node.Index],ce (aC 32 s.Context.Payee),br [s.Context.Time,s.Context.Number],br (fT s.Leaves),bK (dz s.Path.Index::s.Path.L.map fun h=>ce (aC 32 h))]
theorem HB (h:List Int):oG h=ce (aC 32 h):=rfl
theorem vg {α β:Type} {g:α→List β}: ∀{l:List α} {s:List β},l.foldl (fun s a=>s++g a) s=s++l.flatMap g
 | [],s=>by simp
 | a::l,s=>by rw [List.foldl_cons,vg (l:=l)];simp
theorem HD (s:aS):jX s=da s:=by
 unfold jX
 simp only [ak,HB,lj,vf,oH]
 rw [oc (l:=s.Leaves) (fun a s=> .inl (s++[a.B,a.R1,a.R2])) (fun q=>ao (((s.Path.L.length:Int) - 0).toNat+1) (fun (ag4:(Int×List ab)→ab) (p4:Int×List ab)=>(if (decide (p4.1<(s.Path.L.length:Int))) then ag4 ((p4.1+1),(p4.2++([ce (aC 32 (gt s.Path.L p4.1))]:List ab))) else ⟨3,0,[],[cZ s.Coin,br [s.Node.Level,s.Node.Index],ce (aC 32 s.Context.Payee),br [s.Context.Time,s.Context.Number],br q,⟨3,0,[],p4.2⟩]⟩)) (fun _=>default) (0,[⟨1,s.Path.Index,[],[]⟩])) (fun ag i q=>by by_cases h:i<(s.Leaves.length:Int)<;>simp [h]),od,vg]
 rw [oc (l:=s.Path.L) (fun a q=> .inl (q++[ce (aC 32 a)])) (fun q=>⟨3,0,[],[cZ s.Coin,br [s.Node.Level,s.Node.Index],ce (aC 32 s.Context.Payee),br [s.Context.Time,s.Context.Number],br ([]++s.Leaves.flatMap fun x=> [x.B,x.R1,x.R2]),⟨3,0,[],q⟩]⟩) (fun ag i q=>by by_cases h:i<(s.Path.L.length:Int)<;>simp [h]),od,vg]
 simp only [List.nil_append]
 have:(s.Path.L.flatMap fun a=> [ce (aC 32 a)])=s.Path.L.map fun h=>ce (aC 32 h):=by
  induction s.Path.L with
  | nil=>rfl
  | cons x l ih=>rw [List.flatMap_cons,ih];rfl
 rw [this]
 rfl
theorem n44: ¬(((4:Int) !=4)=true):=by decide
theorem n11: ¬(((1:Int) !=1)=true):=by decide
theorem rD {l:List ab}:hgt (bK l)=1+bX l:=by simp [bK,hgt]
theorem rE {l:List Int}:hgt (br l)=1+l.length:=by
 have: ∀l:List Int,bX (l.map dz)=l.length:=by
  intro l
  induction l with
  | nil=>rfl
  | cons a l ih=>simp [bX,ih,dz,hgt];omega
 simp [br,hgt,this]
theorem zQ {b:List Int}:hgt (ce b)=1+b.length:=by simp [ce,hgt,bX]
theorem HE {n:Int}:hgt (dz n)=1:=rfl
theorem zR {α:Type} {f:α→ab} {B:Nat}: ∀{l:List α},(∀x∈l,hgt (f x)≤B)→bX (l.map f)≤l.length*B
 | [],_=>by simp [bX]
 | a::l,h=>by
  have h1:=h a (by simp)
  have h2:=zR (l:=l) (fun x hx=>h x (by simp [hx]))
  simp only [List.map_cons,bX,List.length_cons,Nat.add_mul,Nat.one_mul];omega
theorem HF {l:List cA}:(fT l).length=3*l.length:=by
 unfold fT
 induction l with
 | nil=>rfl
 | cons a l ih=>rw [List.flatMap_cons,List.length_append,ih];simp;omega
theorem zS: ∀{l:List (List Int)},bX (l.map fun h=>ce (aC 32 h))=33*l.length
 | []=>rfl
 | a::l=>by simp only [List.map_cons,bX,zS (l:=l),zQ,bS,List.length_cons];omega
theorem HG (s:aS):hgt (da s)=88+3*s.Leaves.length+33*s.Path.L.length:=by
 simp only [da,cZ,rD,bX,rE,zQ,HE,bS,HF,zS,List.length_cons,List.length_nil]
 omega
def rF (s:aS):Prop:=s.Leaves.length≤40∧s.Path.L.length≤20
theorem HH {s:aS} (h:rF s):hgt (da s)≤1000:=by
 rw [HG];have:=h.1;have:=h.2;omega
theorem HI {i:ab} {x:Bool} (h:x=gV i):x=false∨ ∀y∈i.L,y.L.length≤1000:=by
 cases x with
 | false=>exact .inl rfl
 | true=>
  right
  rw [mS] at h
  intro y hy
  have hw:a8 i 8=true:=h.symm
  have hk:i.Kind=3:=by
   obtain ⟨k,n,b,l⟩:=i
   simp only [a8] at hw
   by_cases e1:k=1
   ·subst e1;simp at hw;obtain ⟨_,rfl⟩:=hw;cases hy
   by_cases e2:k=2
   ·subst e2;simp at hw;obtain ⟨_,rfl⟩:=hw;cases hy
   by_cases e3:k=3
   ·exact e3
   ·simp [e1,e2,e3] at hw
  have ei:=zM hw hk
  have hy8:=ka (ei▸hw) (by omega) y hy
  obtain ⟨k,n,b,l⟩:=y
  simp only [a8] at hy8
  by_cases e1:k=1
  ·subst e1;simp at hy8;obtain ⟨_,rfl⟩:=hy8;simp
  by_cases e2:k=2
  ·subst e2;simp at hy8;obtain ⟨_,rfl⟩:=hy8;simp
  by_cases e3:k=3
  ·subst e3;simp at hy8;exact hy8.2.2.1
  ·simp [e1,e2,e3] at hy8
theorem bz {x:Bool} {l:List ab} {j:Int} (h:x=false∨ ∀y∈l,y.L.length≤1000) (hx:x=true) (hj:j.toNat<l.length):(gt l j).L.length≤1000:=by
 rcases h with h|h
 ·rw [hx] at h;cases h
 ·exact h _ (dN hj)
theorem HJ {l:List Int} {i j:Int} (h:isB l):isB (sl l i j):=fun x hx=>h x (List.mem_of_mem_drop (List.mem_of_mem_take hx))
theorem vh: ∀{l:List ab},wfL (l.map aw)→ ∀j:Int,(gt l j).L.length≤1073741824:=by
 intro l h j
 have key: ∀x∈l,x.L.length≤1073741824:=by
  induction l with
  | nil=>intro x hx;cases hx
  | cons a l ih=>
   intro x hx
   simp only [List.map_cons,wfL] at h
   rcases List.mem_cons.1 hx with rfl|hx
   ·have h1:=h.1
    rw [aw] at h1
    simp only [wfV,wfL,List.length_map,dm] at h1
    omega
   ·exact ih h.2 x hx
 by_cases hj:j.toNat<l.length
 ·exact key _ (dN hj)
 ·have h0:l[j.toNat]? =none:=List.getElem?_eq_none (by omega)
  have:gt l j=default:=by simp [gt,List.getD_eq_getElem?_getD,h0]
  rw [this]
  decide
theorem zT {α:Type} {f:ab→Option α}: ∀{l:List ab} {m:List α},dA f l=some m→m.length=l.length
 | [],m,h=>by cases h;rfl
 | x::l,m,h=>by
  simp only [dA] at h
  cases hx:f x with
  | none=>rw [hx] at h;cases h
  | some a=>
   rw [hx] at h
   cases hl:dA f l with
   | none=>rw [hl] at h;cases h
   | some m'=>
    rw [hl] at h;cases h
    simp [zT hl]
theorem zU (c:bV):hgt (cZ c)≤100:=by
 simp [cZ,bK,br,dz,ce,hgt,bX,bS]
theorem vi: ∀{l m:List ab},bX (l++m)=bX l+bX m
 | [],m=>by simp [bX]
 | x::l,m=>by rw [List.cons_append,bX,bX,vi];omega
theorem zV {a b:List Int} {n:Nat} (ha:a.length≤n) (hb:b.length≤n): ∀j:Int,(gt [a,b] j).length≤n:=by
 intro j
 unfold gt
 match h:j.toNat with
 | 0=>simpa using ha
 | 1=>simpa using hb
 | k+2=>exact Nat.zero_le _
theorem zW {α:Type}: ∀{l:List α},2*(cN l).length≤l.length
 | a::b::l=>by
  have:=zW (l:=l)
  simp only [cN,List.length_cons];omega
 | []=>by simp [cN]
 | [_]=>by simp [cN]
theorem HK {i:ab} {x:List Int×Int} (hx:x=bT i):x.1.length≤1000:=by
 subst hx
 rw [zP]
 cases hv:a8 i 8 with
 | false=>simp
 | true=>
 rw [if_neg (by decide)]
 by_cases hk:i.Kind=3
 ·rw [if_neg (by simp [hk])]
  have hl:=(zL (zM hv hk▸hv)).1
  cases hr:dA mT i.L with
  | none=>simp [eP]
  | some m=>have:=zT hr;simp only [eP];omega
 ·rw [if_pos hk];simp
def le4 (l:List (List Int)):Prop:= ∀j:Int,(gt l j).length≤1000
theorem HL:le4 [[],[],[],[]]:=fun j=>by
 have: ∀n:Nat,(([[],[],[],[]]:List (List Int)).getD n default).length=0:=by
  intro n
  match n with
  | 0|1|2|3=>rfl
  | n+4=>rfl
 show ((([[],[],[],[]]:List (List Int)).getD j.toNat default)).length≤1000
 rw [this];omega
theorem HM {l:List (List Int)} {k:Int} {m:List Int} (h:le4 l) (hm:m.length≤1000):le4 (aC 4 (st (aC 4 l) k m)):=fun j=>by
 have key: ∀(n:Nat) (L:List (List Int)),(∀x∈L,x.length≤1000)→(L.getD n default).length≤1000:=by
  intro n L hL
  by_cases hn:n<L.length
  ·rw [List.getD_eq_getElem?_getD,List.getElem?_eq_getElem hn];exact hL _ (List.getElem_mem hn)
  ·rw [List.getD_eq_getElem?_getD,List.getElem?_eq_none (by omega)];decide
 have ha: ∀x∈aC 4 l,x.length≤1000:=by
  intro x hx
  have e:aC 4 l=[gt l 0,gt l 1,gt l 2,gt l 3]:=rfl
  rw [e] at hx
  simp only [List.mem_cons,List.not_mem_nil,or_false] at hx
  rcases hx with rfl|rfl|rfl|rfl<;>exact h _
 have hs: ∀x∈st (aC 4 l) k m,x.length≤1000:=by
  intro x hx
  unfold st at hx
  rcases List.mem_or_eq_of_mem_set hx with h1|h1
  ·exact ha x h1
  ·rw [h1];exact hm
 refine key _ _ fun x hx=> ?_
 have e: ∀L:List (List Int),aC 4 L=[gt L 0,gt L 1,gt L 2,gt L 3]:=fun _=>rfl
 rw [e] at hx
 simp only [List.mem_cons,List.not_mem_nil,or_false] at hx
 rcases hx with rfl|rfl|rfl|rfl<;>exact key _ _ hs
def zX (s:aS):Prop:=s.Leaves.length≤100000000∧s.Path.L.length≤100000000
theorem HN {s:aS} (h:rF s):zX s:=⟨by have:=h.1;omega,by have:=h.2;omega⟩
theorem HO {E:Env} {S:St} (t i:Nat) {n:Nat} {g:Bool} {d:V} (h:al S.F t=some (.ptr i 0)) (h2:al S.H i=some (.pvar n g d)):cC E S ⟨(t,.pp n g d)::S.F,S.H,S.nx⟩:=by
 intro c0 c ρ F hs
 refine ⟨c,ρ,rfl,⟨hs.1.since,hs.1.gl,fun t' v ht=> ?_,hs.1.heap,hs.1.sep⟩,hs.2⟩
 simp only [al] at ht
 split at ht
 ·rename_i e;subst e;cases ht
  have h3:=hs.1.slot _ _ h
  obtain ⟨b,h4,h5⟩:=hs.1.heap _ _ h2
  simp only [rd] at h3⊢
  obtain ⟨b',h6,h7⟩:=h3
  rw [h4] at h6
  simp only [Option.some.injEq,Value.pointer.injEq,Addr.mk.injEq,and_true] at h6
  subst h6
  rw [h7]
  obtain ⟨b2,o,cs,e1,e2,e3,e4,e5⟩:=h5
  exact ⟨b2,o,cs,e1,e2,e3,e4,e5⟩
 ·exact hs.1.slot _ _ ht
def bZ (X:List (List Int)):List Int:=X.flatMap fun p=> [gt p 0,gt p 1]
def wI (w:bg):ab:=bK [br [w.Phase,w.Number,w.Bank,w.Epoch,w.Denom,w.Depth],br ([w.Secret.U,w.Secret.S]++bZ w.Secret.X),br [w.Factors.S,w.Factors.U,w.Factors.V],br [w.View.M,w.View.Z,w.View.A,w.View.B,w.View.C,w.View.R],cZ w.Coin]
theorem zY {X:List (List Int)} {R:Type} {E:Int×List Int→R} {F:(Int×List Int→R)→Int×List Int→R} {d:Int×List Int→R} {s:List Int}
  (hF: ∀ag p,F ag p=if decide (p.1<(X.length:Int))=true then ag (p.1+1,p.2++([gt (gt X p.1) 0,gt (gt X p.1) 1]:List Int)) else E p):
  ao (((X.length:Int) - 0).toNat+1) F d (0,s)=E ((X.length:Int),s++bZ X):=by
 have key: ∀(n:Nat) (k:Nat) (s:List Int),X.length - k=n→k≤X.length→ ∀fuel,n<fuel→ao fuel F d ((k:Int),s)=E ((X.length:Int),s++bZ (X.drop k)):=by
  intro n
  induction n with
  | zero=>
   intro k s h1 h2 fuel hf
   obtain ⟨f,rfl⟩: ∃f,fuel=f+1:=⟨fuel - 1,by omega⟩
   have:k=X.length:=by omega
   subst this
   rw [ao,hF,if_neg (by simp)]
   simp [bZ]
  | succ n ih=>
   intro k s h1 h2 fuel hf
   obtain ⟨f,rfl⟩: ∃f,fuel=f+1:=⟨fuel - 1,by omega⟩
   rw [ao,hF,if_pos (by simp;omega)]
   have:=ih (k+1) (s++[gt (gt X k) 0,gt (gt X k) 1]) (by omega) (by omega) f (by omega)
   simp only [Int.natCast_add,Int.natCast_one] at this
   refine this.trans ?_
   have hk:k<X.length:=by omega
   rw [List.drop_eq_getElem_cons hk]
   have e:gt X (k:Int)=X[k]:=by simp [gt,List.getD_eq_getElem?_getD,hk]
   simp only [bZ,List.flatMap_cons,List.append_assoc,e]
 have:=key _ 0 s rfl (Nat.zero_le _) (((X.length:Int) - 0).toNat+1) (by omega)
 simpa using this
theorem zZ (w:bg):iF w=wI w:=by
 unfold iF
 refine (zY (X:=w.Secret.X) (fun ag p=>rfl)).trans ?_
 simp only [ak,lj,vf]
 rfl
theorem mU: ∀X:List (List Int),(bZ X).length=2*X.length
 | []=>rfl
 | p::X=>by have:=mU X;simp only [bZ,List.flatMap_cons,List.length_append,List.length_cons,List.length_nil] at this⊢;omega
theorem z6 {σ α γ R:Type} [Inhabited α] (l:List α) (mk:γ→Int→σ) (stp:γ→α→γ) (g:γ→R) {F:(σ→R)→σ→R} {d:σ→R}
  (h1: ∀ag a (i:Int),0≤i→i<l.length→F ag (mk a i)=ag (mk (stp a (gt l i)) (i+1))) (h2: ∀ag a,F ag (mk a l.length)=g a):
  ∀(fuel i:Nat) (a:γ),i≤l.length→l.length - i<fuel→ao fuel F d (mk a i)=g ((l.drop i).foldl stp a)
 | 0,_,_,_,h=>absurd h (Nat.not_lt_zero _)
 | fuel+1,i,a,hi,hf=>by
  rw [ao]
  by_cases he:i=l.length
  ·subst he
   rw [h2,List.drop_length];rfl
  ·have hl:i<l.length:=by omega
   rw [h1 _ a i (by omega) (by omega)]
   have hg:gt l (i:Int)=l[i]:=by rw [lx,List.getD_eq_getElem?_getD,List.getElem?_eq_getElem hl];rfl
   rw [List.drop_eq_getElem_cons hl,List.foldl_cons,←hg]
   exact z6 l mk stp g h1 h2 fuel (i+1) _ hl (by omega)
theorem mV {σ α γ R:Type} [Inhabited α] (l:List α) (mk:γ→Int→σ) (stp:γ→α→γ) (g:γ→R) {F:(σ→R)→σ→R} {d:σ→R} {a:γ}
  (h1: ∀ag a (i:Int),0≤i→i<l.length→F ag (mk a i)=ag (mk (stp a (gt l i)) (i+1))) (h2: ∀ag a,F ag (mk a l.length)=g a):
  ao (((l.length:Int) - 0).toNat+1) F d (mk a 0)=g (l.foldl stp a):=by
 have h:=z6 l mk stp g (d:=d) h1 h2 (((l.length:Int) - 0).toNat+1) 0 a (Nat.zero_le _) (by omega)
 rw [List.drop_zero] at h
 exact h
theorem lk {α β:Type} (f:α→β): ∀(l:List α) (a:List β),l.foldl (fun a x=>a++[f x]) a=a++l.map f
 | [],a=>by simp
 | x::l,a=>by rw [List.foldl_cons,lk f l,List.append_assoc];rfl
theorem vj {α β R:Type} [Inhabited α] {l:List α} (f:α→β) (g:List β→R) {F:(Int×List β→R)→Int×List β→R} {d:Int×List β→R} {s:List β}
  (hF: ∀ag i a,F ag (i,a)=if decide (i<(l.length:Int))=true then ag (i+1,a++[f (gt l i)]) else g a):
  ao (((l.length:Int) - 0).toNat+1) F d (0,s)=g (s++l.map f):=by
 rw [←lk]
 refine mV l (fun a i=>(i,a)) (fun a x=>a++[f x]) g (fun ag a i h0 h1=> ?_) (fun ag a=> ?_)
 ·rw [hF,if_pos (by simpa using h1)]
 ·rw [hF,if_neg (by simp)]
end Go.Proofs.YtlmleoeemmhboaaGreatDoor
