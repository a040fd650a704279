/- Texts of this proof, one after the other: SH, E1, M, H1, HS, H2. -/
import Derived.Ground.NamesProg
import Derived.Shelf.LaysM
import Derived.Shelf.LaysC
import Derived.Shelf.Strconv.Itoa0
import Derived.Shelf.Lays
import Derived.Test.YtiknkaadhomeiaaGreatDoorProg
import Derived.Test.YtiknkaadhomeiaaGreatDoorZ5
import Derived.Lib.BitFns
import Derived.KernelRfl
set_option linter.unusedVariables false
set_option linter.unusedSimpArgs false
namespace Go.Proofs
open Go.Shelf
def Tryz.lays129_ren:Go.Shelf.Ren:=⟨fun|129=>286|n=>n,fun|53=>200|3=>3|4=>4|46=>225|5=>5|9=>9|n=>n,fun|n=>n⟩
theorem Tryz.lays129:Go.Proofs.Lays.n129 Tryz.prog Tryz.lays129_ren:={
 mixed:=by kernel_rfl
 f129:=Tryz.func286.trans (congrArg some (by kernel_rfl))
 t3:=Tryz.underlying3
 a3:=Tryz.isAgg3
 z3:=Tryz.sizeOf3
 v3:=Tryz.zeroValue3
 t4:=Tryz.underlying4
 a4:=Tryz.isAgg4
 z4:=Tryz.sizeOf4
 v4:=Tryz.zeroValue4
 t5:=Tryz.underlying5
 a5:=Tryz.isAgg5
 z5:=Tryz.sizeOf5
 v5:=Tryz.zeroValue5
 t9:=Tryz.underlying9
 a9:=Tryz.isAgg9
 z9:=Tryz.sizeOf9
 v9:=Tryz.zeroValue9
 t46:=Tryz.underlying225
 a46:=Tryz.isAgg225
 z46:=Tryz.sizeOf225
 v46:=Tryz.zeroValue225
 t53:=Tryz.underlying200
 a53:=Tryz.isAgg200
 z53:=Tryz.sizeOf200
 v53:=Tryz.zeroValue200}
theorem Tryz.bits_Len64 (x:Int) (w:World) (h0:0≤x) (h1:x≤18446744073709551615):
  Calls Tryz.prog 286 #[.int .u64 x] w fun e w'=>e= .returned (.int .i64 (Lib.bitLen x.toNat))∧w'=w:=Any.bits_Len64 Tryz.lays129 x w h0 h1
end Go.Proofs
namespace Go.Proofs.YtiknkaadhomeiaaGreatDoor
open Go.RowKit Go.Shelf Go.Lib
def sZ (x:Int):Int:=(Lib.bitLen x.toNat:Int)
theorem Jy {f:FuncId} {ws:List V} {r:V} (he: ∀xs w,(callFunc f xs).run En.P w= .ok (.enter f xs) w)
  (h: ∀(c:Cx) us,Gl En c→rdT ro0 c ws us→wfL ws→Calls En.P f us.toArray c.w fun e w'=> ∃v,e= .returned v∧Below c.w.heap.size c.w w'∧ ∀c',rd ro0 c' r v):a8 En f ws r []:=
 ⟨he,fun c us _ hg hus=>(h c us hg hus (lV hus)).mono fun e w' ⟨v,e1,hb,hr⟩=>⟨v,c.at w' hb.size,ro0,e1,rfl,Cx.le_at hb,hr _,⟨fun i b hb=>by simp at hb,fun i _=>rfl,fun i j bi bj k _ hb=>by simp at hb⟩⟩⟩
theorem Jz (x_:Int):a8 En 286 [.int .u64 x_] (.int .i64 (sZ x_)) []:=by
 refine Jy (show∀xs w,(callFunc 286 xs).run En.P w= .ok (.enter 286 xs) w from enters_of Tryz.func286 (by kernel_rfl) rfl) fun c us hg hus hw=> ?_
 simp only [rdT,rd] at hus
 obtain ⟨u0,c2,rfl,⟨rfl,l0⟩,rfl⟩:=hus
 have h0:0≤x_∧x_≤18446744073709551615:=l0
 refine (show Calls En.P 286 #[.int .u64 x_] c.w _ from Tryz.bits_Len64 x_ c.w h0.1 h0.2).mono ?_
 rintro e w' ⟨rfl,rfl⟩
 refine ⟨_,rfl,Below.refl _ _,fun c'=> ?_⟩
 have hl:=Lib.bitLen_le x_.toNat 64 (by decide) (by omega)
 simp only [rd]
 refine ⟨rfl,show (-9223372036854775808:Int)≤(Lib.bitLen x_.toNat:Int)∧(Lib.bitLen x_.toNat:Int)≤9223372036854775807 from ?_⟩
 constructor<;>omega
instance PQ (x_:Int):CM En (sZ x_) 286 [.int .u64 x_] (fun y=> .int .i64 y) (fun _=> []):=⟨Jz x_⟩
end Go.Proofs.YtiknkaadhomeiaaGreatDoor
namespace Go.Proofs.YtiknkaadhomeiaaGreatDoor
open Go.RowKit
def pV (x_:Int):Int:=
 (if (x_==0) then 64 else (ae .i64 (gt kP (ar .u64 (aK .u64 (aX .u64 x_ (kr .u64 x_)) 285870213051353865) 58))))
def lm (x_:Int) (y:Int):(Int×Int):=
 ((ak .u64 (ak .u64 (aK .u64 (ar .u64 x_ 32) (ar .u64 y 32)) (ar .u64 (ak .u64 (aK .u64 (ar .u64 x_ 32) (aX .u64 y 4294967295)) (ar .u64 (aK .u64 (aX .u64 x_ 4294967295) (aX .u64 y 4294967295)) 32)) 32)) (ar .u64 (ak .u64 (aX .u64 (ak .u64 (aK .u64 (ar .u64 x_ 32) (aX .u64 y 4294967295)) (ar .u64 (aK .u64 (aX .u64 x_ 4294967295) (aX .u64 y 4294967295)) 32)) 4294967295) (aK .u64 (aX .u64 x_ 4294967295) (ar .u64 y 32))) 32)),(aK .u64 x_ y))
def mG (x_:Int):Int:=
 (ab (sZ x_) (fun (x1:Int)=>(az .i64 64 x1)))
def og (hi:Int) (lo:Int) (y:Int):(Int×Int):=
 (if (y==0) then (default:(Int×Int)) else (if (decide (y≤hi)) then (default:(Int×Int)) else (if (hi==0) then ((cc .u64 lo y),(bJ .u64 lo y)) else (ab (mG y) (fun (x10:Int)=>(im (fun (p14:Int)=>(im (fun (p15:Int)=>((ak .u64 (aK .u64 p14 4294967296) p15),(ar .u64 (az .u64 (ak .u64 (aK .u64 (az .u64 (ak .u64 (aK .u64 (orI .u64 (ao .u64 hi (ae .u64 x10)) (ar .u64 lo (az .u64 64 (ae .u64 x10)))) 4294967296) (ar .u64 (ao .u64 lo (ae .u64 x10)) 32)) (aK .u64 p14 (ao .u64 y (ae .u64 x10)))) 4294967296) (aX .u64 (ao .u64 lo (ae .u64 x10)) 4294967295)) (aK .u64 p15 (ao .u64 y (ae .u64 x10)))) (ae .u64 x10)))) (fun j15=>(ah ((4294967296 - (az .u64 (az .u64 (ak .u64 (aK .u64 (orI .u64 (ao .u64 hi (ae .u64 x10)) (ar .u64 lo (az .u64 64 (ae .u64 x10)))) 4294967296) (ar .u64 (ao .u64 lo (ae .u64 x10)) 32)) (aK .u64 p14 (ao .u64 y (ae .u64 x10)))) (aK .u64 (cc .u64 (az .u64 (ak .u64 (aK .u64 (orI .u64 (ao .u64 hi (ae .u64 x10)) (ar .u64 lo (az .u64 64 (ae .u64 x10)))) 4294967296) (ar .u64 (ao .u64 lo (ae .u64 x10)) 32)) (aK .u64 p14 (ao .u64 y (ae .u64 x10)))) (ar .u64 (ao .u64 y (ae .u64 x10)) 32)) (ar .u64 (ao .u64 y (ae .u64 x10)) 32)))).toNat+1) (fun (ag16:(Int×Int)→(Int×Int)) (p16:Int×Int)=>(if (decide (p16.2≥4294967296)) then (if (decide ((ak .u64 p16.1 (ar .u64 (ao .u64 y (ae .u64 x10)) 32))≥4294967296)) then (j15 (az .u64 p16.2 1)) else (ag16 ((ak .u64 p16.1 (ar .u64 (ao .u64 y (ae .u64 x10)) 32)),(az .u64 p16.2 1)))) else (if (decide ((aK .u64 p16.2 (aX .u64 (ao .u64 y (ae .u64 x10)) 4294967295))>(ak .u64 (aK .u64 4294967296 p16.1) (aX .u64 (ao .u64 lo (ae .u64 x10)) 4294967295)))) then (if (decide ((ak .u64 p16.1 (ar .u64 (ao .u64 y (ae .u64 x10)) 32))≥4294967296)) then (j15 (az .u64 p16.2 1)) else (ag16 ((ak .u64 p16.1 (ar .u64 (ao .u64 y (ae .u64 x10)) 32)),(az .u64 p16.2 1)))) else (j15 p16.2)))) (fun _=>default) ((az .u64 (az .u64 (ak .u64 (aK .u64 (orI .u64 (ao .u64 hi (ae .u64 x10)) (ar .u64 lo (az .u64 64 (ae .u64 x10)))) 4294967296) (ar .u64 (ao .u64 lo (ae .u64 x10)) 32)) (aK .u64 p14 (ao .u64 y (ae .u64 x10)))) (aK .u64 (cc .u64 (az .u64 (ak .u64 (aK .u64 (orI .u64 (ao .u64 hi (ae .u64 x10)) (ar .u64 lo (az .u64 64 (ae .u64 x10)))) 4294967296) (ar .u64 (ao .u64 lo (ae .u64 x10)) 32)) (aK .u64 p14 (ao .u64 y (ae .u64 x10)))) (ar .u64 (ao .u64 y (ae .u64 x10)) 32)) (ar .u64 (ao .u64 y (ae .u64 x10)) 32))),(cc .u64 (az .u64 (ak .u64 (aK .u64 (orI .u64 (ao .u64 hi (ae .u64 x10)) (ar .u64 lo (az .u64 64 (ae .u64 x10)))) 4294967296) (ar .u64 (ao .u64 lo (ae .u64 x10)) 32)) (aK .u64 p14 (ao .u64 y (ae .u64 x10)))) (ar .u64 (ao .u64 y (ae .u64 x10)) 32))))))) (fun j14=>(ah ((4294967296 - (az .u64 (orI .u64 (ao .u64 hi (ae .u64 x10)) (ar .u64 lo (az .u64 64 (ae .u64 x10)))) (aK .u64 (cc .u64 (orI .u64 (ao .u64 hi (ae .u64 x10)) (ar .u64 lo (az .u64 64 (ae .u64 x10)))) (ar .u64 (ao .u64 y (ae .u64 x10)) 32)) (ar .u64 (ao .u64 y (ae .u64 x10)) 32)))).toNat+1) (fun (ag29:(Int×Int)→(Int×Int)) (p29:Int×Int)=>(if (decide (p29.1≥4294967296)) then (if (decide ((ak .u64 p29.2 (ar .u64 (ao .u64 y (ae .u64 x10)) 32))≥4294967296)) then (j14 (az .u64 p29.1 1)) else (ag29 ((az .u64 p29.1 1),(ak .u64 p29.2 (ar .u64 (ao .u64 y (ae .u64 x10)) 32))))) else (if (decide ((aK .u64 p29.1 (aX .u64 (ao .u64 y (ae .u64 x10)) 4294967295))>(ak .u64 (aK .u64 4294967296 p29.2) (ar .u64 (ao .u64 lo (ae .u64 x10)) 32)))) then (if (decide ((ak .u64 p29.2 (ar .u64 (ao .u64 y (ae .u64 x10)) 32))≥4294967296)) then (j14 (az .u64 p29.1 1)) else (ag29 ((az .u64 p29.1 1),(ak .u64 p29.2 (ar .u64 (ao .u64 y (ae .u64 x10)) 32))))) else (j14 p29.1)))) (fun _=>default) ((cc .u64 (orI .u64 (ao .u64 hi (ae .u64 x10)) (ar .u64 lo (az .u64 64 (ae .u64 x10)))) (ar .u64 (ao .u64 y (ae .u64 x10)) 32)),(az .u64 (orI .u64 (ao .u64 hi (ae .u64 x10)) (ar .u64 lo (az .u64 64 (ae .u64 x10)))) (aK .u64 (cc .u64 (orI .u64 (ao .u64 hi (ae .u64 x10)) (ar .u64 lo (az .u64 64 (ae .u64 x10)))) (ar .u64 (ao .u64 y (ae .u64 x10)) 32)) (ar .u64 (ao .u64 y (ae .u64 x10)) 32))))))))))))
def gg (a_:Int) (b:Int) (n_:Int):Int:=
 (ab (lm a_ b) (fun (x1:(Int×Int))=>(ab (og (x1.1) (x1.2) n_) (fun (x5:(Int×Int))=>x5.2))))
def pW (a_:Int) (e_:Int) (n_:Int):Int:=
 (ah (e_.toNat+1) (fun (ag1:(Int×Int×Int)→Int) (p1:Int×Int×Int)=>(if (decide (p1.2.1>0)) then (if ((aX .u64 p1.2.1 1)==1) then (ab (gg (p1.2.2) (p1.1) n_) (fun (x6:Int)=>(ab (gg (p1.1) (p1.1) n_) (fun (x10:Int)=>(ag1 (x10,(ar .u64 p1.2.1 1),x6)))))) else (ab (gg (p1.1) (p1.1) n_) (fun (x15:Int)=>(ag1 (x15,(ar .u64 p1.2.1 1),p1.2.2))))) else p1.2.2)) (fun _=>default) (a_,e_,1))
def w8 (a_:Int) (n_:Int) (d_:Int) (s:Int):Bool:=
 (ab (pW a_ d_ n_) (fun (x1:Int)=>(if (x1==1) then false else (if (x1==(az .u64 n_ 1)) then false else (ah ((az .i64 s 1 - 0).toNat+1) (fun (ag10:(Int×Int)→Bool) (p10:Int×Int)=>(if (decide (p10.2<(az .i64 s 1))) then (ab (gg (p10.1) (p10.1) n_) (fun (x13:Int)=>(if (x13==(az .u64 n_ 1)) then false else (ag10 (x13,(p10.2+1)))))) else true)) (fun _=>default) (x1,0))))))
def s6 (n_:Int):Bool:=
 (if (decide (n_<2)) then false else (ah (((12:Int) - 0).toNat+1) (fun (ag4:Int→Bool) (p4:Int)=>(if (decide (p4<12)) then (if ((bJ .u64 (ae .u64 n_) (gt da p4))==0) then ((ae .u64 n_)==(gt da p4)) else (ag4 (p4+1))) else (ab (pV (az .u64 (ae .u64 n_) 1)) (fun (x12:Int)=>(ah (((12:Int) - 0).toNat+1) (fun (ag16:Int→Bool) (p16:Int)=>(if (decide (p16<12)) then (ab (w8 (gt da p16) (ae .u64 n_) (ar .u64 (az .u64 (ae .u64 n_) 1) x12) x12) (fun (x20:Bool)=>(if x20 then false else (ag16 (p16+1))))) else true)) (fun _=>default) 0))))) (fun _=>default) 0))
def pX (a_:Int) (m:Int):Bool:=
 (if (decide (a_≥0)) then (decide (a_<m)) else false)
def ln (a_:Int) (b:Int) (m:Int):Int:=
 (if (decide (m<1)) then 1 else (if (decide (m≥2305843009213693952)) then 1 else (ab (pX a_ m) (fun (x6:Bool)=>(if (!x6) then 2 else (ab (pX b m) (fun (x11:Bool)=>(if (!x11) then 2 else 0))))))))
def j_ (a_:Int) (b:Int) (m:Int):Int:=
 (ab (lm (ae .u64 a_) (ae .u64 b)) (fun (x1:(Int×Int))=>(ab (og (x1.1) (x1.2) (ae .u64 m)) (fun (x5:(Int×Int))=>(ae .i64 x5.2)))))
def pY (a_:Int) (e_:Int) (m:Int):(Int×Int):=
 (ab (ln a_ a_ m) (fun (x1:Int)=>(if (x1 !=0) then (0,x1) else (if (decide (e_<0)) then (0,2) else (ah (e_.toNat+1) (fun (ag11:(Int×Int×Int)→(Int×Int)) (p11:Int×Int×Int)=>(if (decide (p11.2.1>0)) then (if ((aX .i64 p11.2.1 1)==1) then (ab (j_ (p11.2.2) (p11.1) m) (fun (x16:Int)=>(ab (j_ (p11.1) (p11.1) m) (fun (x20:Int)=>(ag11 (x20,(ar .i64 p11.2.1 1),x16)))))) else (ab (j_ (p11.1) (p11.1) m) (fun (x25:Int)=>(ag11 (x25,(ar .i64 p11.2.1 1),p11.2.2))))) else (p11.2.2,0))) (fun _=>default) (a_,e_,(bJ .i64 1 m)))))))
def pZ (g:en):Bool:=
 (if (decide (g.P≥2305843009213693952)) then false else (if (decide (g.Q<3)) then false else (if ((bJ .i64 g.Q 2)==0) then false else (ab (s6 (g.P)) (fun (x7:Bool)=>(if (!x7) then false else (ab (s6 (g.Q)) (fun (x12:Bool)=>(if (!x12) then false else (if ((bJ .i64 (az .i64 g.P 1) g.Q) !=0) then false else (if (decide (g.G<2)) then false else (if (decide (g.G≥g.P)) then false else (ab (pY (g.G) (g.Q) (g.P)) (fun (x24:(Int×Int))=>(if (x24.2==0) then (x24.1==1) else false)))))))))))))))
def s7 (g:en) (x_:Int):Bool:=
 (if (decide (x_<1)) then false else (if (decide (x_≥g.P)) then false else (ab (pY x_ (g.Q) (g.P)) (fun (x6:(Int×Int))=>(x6.1==1)))))
def s8 (g:en) (x_:Int):Bool:=
 (ab (pZ g) (fun (x1:Bool)=>(if x1 then (ab (s7 g x_) (fun (x5:Bool)=>x5)) else false)))
def qa (b:eH):Bool:=
 (ab (pZ (b.Group)) (fun (x1:Bool)=>(if (!x1) then false else (ah (((3:Int) - 0).toNat+1) (fun (ag7:Int→Bool) (p7:Int)=>(if (decide (p7<(3:Int))) then (if ((gt ([b.G1,b.G2,b.H]:List Int) p7)==1) then false else (ab (s8 (b.Group) (gt ([b.G1,b.G2,b.H]:List Int) p7)) (fun (x13:Bool)=>(if (!x13) then false else (ag7 (p7+1)))))) else true)) (fun _=>default) 0))))
def s_ (g:en) (l:(List Int)):Int:=
 (ab (pZ g) (fun (x1:Bool)=>(if (!x1) then 1 else (ah (((l.length:Int) - 0).toNat+1) (fun (ag7:Int→Int) (p7:Int)=>(if (decide (p7<(l.length:Int))) then (ab (s7 g (gt l p7)) (fun (x11:Bool)=>(if (!x11) then 2 else (ag7 (p7+1))))) else 0)) (fun _=>default) 0))))
def w9 (a_:Int) (m:Int):(Int×Int):=
 (ab (ln 0 0 m) (fun (x1:Int)=>(if (x1 !=0) then (0,x1) else (if (decide ((bJ .i64 a_ m)<0)) then ((ak .i64 (bJ .i64 a_ m) m),0) else ((bJ .i64 a_ m),0)))))
def xa (g:en) (a_:Int) (e_:Int):(Int×Int):=
 (ab (s_ g ([a_]:List Int)) (fun (x1:Int)=>(if (x1 !=0) then (0,x1) else (ab (w9 e_ (g.Q)) (fun (x7:(Int×Int))=>(ab (pY a_ (x7.1) (g.P)) (fun (x10:(Int×Int))=>(x10.1,x10.2))))))))
def xb (a_:Int) (b:Int) (m:Int):(Int×Int):=
 (ab (ln a_ b m) (fun (x1:Int)=>(if (x1 !=0) then (0,x1) else (ab (j_ a_ b m) (fun (x8:Int)=>(x8,0))))))
def xc (g:en) (a_:Int) (b:Int):(Int×Int):=
 (ab (s_ g ([a_,b]:List Int)) (fun (x1:Int)=>(if (x1 !=0) then (0,x1) else (ab (xb a_ b (g.P)) (fun (x7:(Int×Int))=>(x7.1,x7.2))))))
def xd (b:eH) (key:Int):(Int×Int):=
 (ab (qa b) (fun (x1:Bool)=>(if (!x1) then (0,1) else (if (key==1) then (0,2) else (ab (s8 (b.Group) key) (fun (x9:Bool)=>(if (!x9) then (0,2) else (ab (xc (b.Group) key (b.G2)) (fun (x15:(Int×Int))=>(if (x15.2 !=0) then (0,x15.2) else (if (x15.1==1) then (0,10) else (x15.1,0))))))))))))
def tc (b:eH) (u:Int):(Int×Int):=
 (ab (qa b) (fun (x1:Bool)=>(if (!x1) then (0,1) else (if (decide (u<1)) then (0,2) else (if (decide (u≥b.Group.Q)) then (0,2) else (ab (xa (b.Group) (b.G1) u) (fun (x12:(Int×Int))=>(if (x12.2 !=0) then (0,x12.2) else (ab (xd b (x12.1)) (fun (x18:(Int×Int))=>(if (x18.2 !=0) then (0,x18.2) else (x12.1,0))))))))))))
def mH (s:List Int):List Int:=s
def mI (n_:Int):(List Int):=
 (ah (((8:Int) - 0).toNat+1) (fun (ag1:(Int×List Int)→(List Int)) (p1:Int×List Int)=>(if (decide (p1.1<(8:Int))) then (ag1 ((p1.1+1),(st p1.2 p1.1 (ae .u8 (ar .u64 n_ (56 - (8*p1.1))))))) else p1.2)) (fun _=>default) (0,([(0:Int),(0:Int),(0:Int),(0:Int),(0:Int),(0:Int),(0:Int),(0:Int)]:List Int)))
def td (x_:Int) (k_:Int):Int:=
 (orI .u32 (ao .u32 x_ (aX .u64 (ae .u64 k_) 31)) (ar .u32 x_ (az .u64 32 (aX .u64 (ae .u64 k_) 31))))
def fM (x_:Int) (n_:Int):Int:=
 (ab (td x_ (kr .i64 n_)) (fun (x1:Int)=>x1))
def lq (block:(List Int)):(List Int):=
 (ah (((16:Int) - 0).toNat+1) (fun (ag1:(Int×(List Int))→(List Int)) (p1:Int×(List Int))=>(if (decide (p1.1<16)) then (ah ((((sl block (4*p1.1) ((4*p1.1)+4)).length:Int) - 0).toNat+1) (fun (ag7:(Int×(List Int))→(List Int)) (p7:Int×(List Int))=>(if (decide (p7.1<((sl block (4*p1.1) ((4*p1.1)+4)).length:Int))) then (ag7 ((p7.1+1),(au 64 (st (au 64 p7.2) p1.1 (orI .u32 (ao .u32 (gt p7.2 p1.1) 8) (ae .u32 (gt (sl block (4*p1.1) ((4*p1.1)+4)) p7.1))))))) else (ag1 ((p1.1+1),p7.2)))) (fun _=>default) (0,p1.2)) else (ah (((64:Int) - 16).toNat+1) (fun (ag17:(Int×(List Int))→(List Int)) (p17:Int×(List Int))=>(if (decide (p17.1<64)) then (ab (fM (gt p17.2 (p17.1 - 15)) 7) (fun (x26:Int)=>(ab (fM (gt p17.2 (p17.1 - 15)) 18) (fun (x29:Int)=>(ab (fM (gt p17.2 (p17.1 - 2)) 17) (fun (x32:Int)=>(ab (fM (gt p17.2 (p17.1 - 2)) 19) (fun (x35:Int)=>(ag17 ((p17.1+1),(au 64 (st (au 64 p17.2) p17.1 (ak .u32 (ak .u32 (ak .u32 (gt p17.2 (p17.1 - 16)) (aU .u32 (aU .u32 x26 x29) (ar .u32 (gt p17.2 (p17.1 - 15)) 3))) (gt p17.2 (p17.1 - 7))) (aU .u32 (aU .u32 x32 x35) (ar .u32 (gt p17.2 (p17.1 - 2)) 10))))))))))))))) else p17.2)) (fun _=>default) (16,p1.2)))) (fun _=>default) (0,[0,0,0,0,0,0,0,0,0,0,0,0,0,0,0,0,0,0,0,0,0,0,0,0,0,0,0,0,0,0,0,0,0,0,0,0,0,0,0,0,0,0,0,0,0,0,0,0,0,0,0,0,0,0,0,0,0,0,0,0,0,0,0,0]))
def ka (state:(List Int)) (block:(List Int)):(List Int):=
 (ab (lq block) (fun (x1:(List Int))=>(ah (((64:Int) - 0).toNat+1) (fun (ag4:(Int×Int×Int×Int×Int×Int×Int×Int×Int)→(List Int)) (p4:Int×Int×Int×Int×Int×Int×Int×Int×Int)=>(if (decide (p4.2.2.2.2.2.2.2.2<64)) then (ab (fM (p4.2.2.2.2.1) 6) (fun (x7:Int)=>(ab (fM (p4.2.2.2.2.1) 11) (fun (x9:Int)=>(ab (fM (p4.2.2.2.2.1) 25) (fun (x11:Int)=>(ab (fM (p4.1) 2) (fun (x16:Int)=>(ab (fM (p4.1) 13) (fun (x19:Int)=>(ab (fM (p4.1) 22) (fun (x22:Int)=>(ag4 ((ak .u32 (ak .u32 (ak .u32 (ak .u32 (ak .u32 p4.2.2.2.2.2.2.2.1 (aU .u32 (aU .u32 x7 x9) x11)) (aU .u32 (aX .u32 p4.2.2.2.2.1 p4.2.2.2.2.2.1) (aX .u32 (fk .u32 p4.2.2.2.2.1) p4.2.2.2.2.2.2.1))) (gt kO p4.2.2.2.2.2.2.2.2)) (gt x1 p4.2.2.2.2.2.2.2.2)) (ak .u32 (aU .u32 (aU .u32 x16 x19) x22) (aU .u32 (aU .u32 (aX .u32 p4.1 p4.2.1) (aX .u32 p4.1 p4.2.2.1)) (aX .u32 p4.2.1 p4.2.2.1)))),p4.1,p4.2.1,p4.2.2.1,(ak .u32 p4.2.2.2.1 (ak .u32 (ak .u32 (ak .u32 (ak .u32 p4.2.2.2.2.2.2.2.1 (aU .u32 (aU .u32 x7 x9) x11)) (aU .u32 (aX .u32 p4.2.2.2.2.1 p4.2.2.2.2.2.1) (aX .u32 (fk .u32 p4.2.2.2.2.1) p4.2.2.2.2.2.2.1))) (gt kO p4.2.2.2.2.2.2.2.2)) (gt x1 p4.2.2.2.2.2.2.2.2))),p4.2.2.2.2.1,p4.2.2.2.2.2.1,p4.2.2.2.2.2.2.1,(p4.2.2.2.2.2.2.2.2+1))))))))))))))) else (ah (((8:Int) - 0).toNat+1) (fun (ag26:(Int×(List Int))→(List Int)) (p26:Int×(List Int))=>(if (decide (p26.1<8)) then (ag26 ((p26.1+1),(au 8 (st (au 8 p26.2) p26.1 (ak .u32 (gt p26.2 p26.1) (gt ([p4.1,p4.2.1,p4.2.2.1,p4.2.2.2.1,p4.2.2.2.2.1,p4.2.2.2.2.2.1,p4.2.2.2.2.2.2.1,p4.2.2.2.2.2.2.2.1]:List Int) p26.1)))))) else p26.2)) (fun _=>default) (0,state)))) (fun _=>default) ((gt state 0),(gt state 1),(gt state 2),(gt state 3),(gt state 4),(gt state 5),(gt state 6),(gt state 7),0))))
def lr (b:(List Int)):(List Int):=
 (ab (mH b) (fun (x1:(List Int))=>(ah (((56 - (((x1++([128]:List Int))).length:Int))% 64).toNat+1) (fun (ag5:(List Int)→(List Int)) (p5:List Int)=>(if ((bJ .i64 (p5.length:Int) 64) !=56) then (ag5 (p5++([0]:List Int))) else (ab (mI (aK .u64 8 (ae .u64 (b.length:Int)))) (fun (x9:(List Int))=>(ah (((p5++x9)).length+1) (fun (ag13:(List Int×(List Int))→(List Int)) (p13:List Int×(List Int))=>(if (decide ((p13.1.length:Int)>0)) then (ab (ka (p13.2) (sl p13.1 0 64)) (fun (x16:(List Int))=>(ag13 ((sl p13.1 64 (p13.1.length:Int)),x16)))) else (ah (((8:Int) - 0).toNat+1) (fun (ag20:(Int×(List Int))→(List Int)) (p20:Int×(List Int))=>(if (decide (p20.1<8)) then (ah (((4:Int) - 0).toNat+1) (fun (ag24:(Int×(List Int))→(List Int)) (p24:Int×(List Int))=>(if (decide (p24.1<4)) then (ag24 ((p24.1+1),(au 32 (st (au 32 p24.2) ((4*p20.1)+p24.1) (ae .u8 (ar .u32 (gt p13.2 p20.1) (24 - (8*p24.1)))))))) else (ag20 ((p20.1+1),p24.2)))) (fun _=>default) (0,p20.2)) else p20.2)) (fun _=>default) (0,[0,0,0,0,0,0,0,0,0,0,0,0,0,0,0,0,0,0,0,0,0,0,0,0,0,0,0,0,0,0,0,0])))) (fun _=>default) ((p5++x9),[1779033703,3144134277,1013904242,2773480762,1359893119,2600822924,528734635,1541459225])))))) (fun _=>default) (x1++([128]:List Int)))))
def xe (tag:(List UInt8)) (b:(List Int)):((List Int)×Int):=
 (if (decide ((tag.length:Int)<1)) then ([0,0,0,0,0,0,0,0,0,0,0,0,0,0,0,0,0,0,0,0,0,0,0,0,0,0,0,0,0,0,0,0],2) else (if (decide ((tag.length:Int)>100)) then ([0,0,0,0,0,0,0,0,0,0,0,0,0,0,0,0,0,0,0,0,0,0,0,0,0,0,0,0,0,0,0,0],2) else (ab (lr (pC tag)) (fun (x6:(List Int))=>(ab (mH (au 32 x6)) (fun (x9:(List Int))=>(ab (lr ((x9++(au 32 x6))++b)) (fun (x12:(List Int))=>(x12,0)))))))))
def xf (seed:(List Int)):(dD×Int):=
 (if (decide ((seed.length:Int)>16384)) then (gJ,5) else (ab (xe ([115,112,101,99,105,101,47,100,114,97,119]) seed) (fun (x4:((List Int)×Int))=>(if (x4.2 !=0) then (gJ,x4.2) else (({Seed:=x4.1,Counter:=0}:dD),0)))))
def qb (b:eH) (bank:Int) (u:Int) (seed:(List Int)):(av×Int):=
 (ab (qa b) (fun (x1:Bool)=>(if (!x1) then (aT,1) else (if (decide (bank<0)) then (aT,2) else (if (decide (bank≥8)) then (aT,2) else (ab (tc b u) (fun (x12:(Int×Int))=>(if (x12.2 !=0) then (aT,x12.2) else (ab (xf seed) (fun (x18:(dD×Int))=>(if (x18.2 !=0) then (aT,x18.2) else (({Bank:=bank,U:=u,Key:=x12.1,Next:=0,Holdings:=([]:List ay),Open:=([]:List aL),Source:=x18.1}:av),0))))))))))))
def xg (l:(List ff)) (p_:av) (now:Int):(Int×Int):=
 (if (decide (now<0)) then (0,2) else (if (decide (now>1099511627776)) then (0,2) else (ah (((p_.Holdings.length:Int) - 0).toNat+1) (fun (ag6:(Int×List ff)→(Int×Int)) (p6:Int×List ff)=>(if (decide (p6.1<(p_.Holdings.length:Int))) then (default:(Int×Int)) else (ah (((p_.Holdings.length:Int) - 0).toNat+1) (fun (ag10:(Int×Int)→(Int×Int)) (p10:Int×Int)=>(if (decide (p10.2<(p_.Holdings.length:Int))) then (default:(Int×Int)) else (p10.1,0))) (fun _=>default) (0,0)))) (fun _=>default) (0,([]:List ff)))))
def xh (d_:dD):Bool:=
 (if (decide (d_.Counter≥0)) then (decide (d_.Counter≤1099511627776)) else false)
def mJ (x_:aa) (c0:Int):Bool:=
 (ab (aQ x_ (c0 - 1)) (fun (x2:Bool)=>(!x2)))
def te (s:(List aa)) (f__c0:Int):Int:=
 (ah (((s.length:Int) - 0).toNat+1) (fun (ag1:Int→Int) (p1:Int)=>(if (decide (p1<(s.length:Int))) then (ab (mJ (gt s p1) f__c0) (fun (x5:Bool)=>(if x5 then p1 else (ag1 (p1+1))))) else (-1))) (fun _=>default) 0)
def oh (s:(List aa)) (f__c0:Int):Bool:=
 (ab (te s f__c0) (fun (x1:Int)=>(decide (x1≥0))))
def qc (i_:aa) (depth:Int):Bool:=
 (if (i_.Kind==1) then (if ((i_.B.length:Int)==0) then ((i_.L.length:Int)==0) else false) else (if (i_.Kind==2) then (if (i_.N==0) then ((i_.L.length:Int)==0) else false) else (if (i_.Kind==3) then (if (i_.N==0) then (if ((i_.B.length:Int)==0) then (if (decide (depth>0)) then (if (decide ((i_.L.length:Int)≤1000)) then (ab (oh (i_.L) depth) (fun (x23:Bool)=>(!x23))) else false) else false) else false) else false) else false)))
def iA (i_:aa):Bool:=
 (ab (aQ i_ 8) (fun (x1:Bool)=>x1))
def kb (out:(List Int)) (n_:Int) (size:Int):(List Int):=
 (ah (((size - 1)+1).toNat+1) (fun (ag2:(Int×List Int)→(List Int)) (p2:Int×List Int)=>(if (decide (p2.1≥0)) then (ag2 ((p2.1 - 1),(p2.2++([(ae .u8 (ar .u64 n_ (8*p2.1)))]:List Int)))) else p2.2)) (fun _=>default) ((size - 1),out))
def qd (out:(List Int)) (i_:aa):(List Int):=
 (if (decide ((out.length:Int)>16384)) then out else (if (i_.Kind==1) then (ab (kb (out++([(ae .u8 i_.Kind)]:List Int)) (ae .u64 i_.N) 8) (fun (x6:(List Int))=>x6)) else (if (i_.Kind==2) then (ab (kb (out++([(ae .u8 i_.Kind)]:List Int)) (ae .u64 (i_.B.length:Int)) 4) (fun (x13:(List Int))=>(x13++i_.B))) else (ab (kb (out++([(ae .u8 i_.Kind)]:List Int)) (ae .u64 (i_.L.length:Int)) 4) (fun (x17:(List Int))=>(ah (((i_.L.length:Int) - 0).toNat+1) (fun (ag21:(Int×List Int)→(List Int)) (p21:Int×List Int)=>(if (decide (p21.1<(i_.L.length:Int))) then (ab (fi (p21.2) (gt i_.L p21.1)) (fun (x25:(List Int))=>(ag21 ((p21.1+1),x25)))) else p21.2)) (fun _=>default) (0,x17)))))))
def iB (i_:aa):((List Int)×Int):=
 (ab (iA i_) (fun (x1:Bool)=>(if (!x1) then (([]:List Int),1) else (ab (fi ([]:List Int) i_) (fun (x7:(List Int))=>(if (decide ((x7.length:Int)>16384)) then (([]:List Int),5) else (x7,0)))))))
def xi (b:eH) (l:(List ff)) (p_:av):Bool:=
 (ab (tc b (p_.U)) (fun (x1:(Int×Int))=>(if (x1.2 !=0) then false else (if (x1.1 !=p_.Key) then false else (if (decide (p_.Bank<0)) then false else (if (decide (p_.Bank≥8)) then false else (if (decide (p_.Next<0)) then false else (if (decide (p_.Next>1073741824)) then false else (ab (xh (p_.Source)) (fun (x16:Bool)=>(if (!x16) then false else (if (decide ((p_.Holdings.length:Int)>100)) then false else (if (decide ((p_.Open.length:Int)>20)) then false else (ah (((p_.Holdings.length:Int) - 0).toNat+1) (fun (ag26:(Int×List (List Int))→Bool) (p26:Int×List (List Int))=>(if (decide (p26.1<(p_.Holdings.length:Int))) then (default:Bool) else (ah (((p_.Open.length:Int) - 0).toNat+1) (fun (ag30:Int→Bool) (p30:Int)=>(if (decide (p30<(p_.Open.length:Int))) then (default:Bool) else true)) (fun _=>default) 0))) (fun _=>default) (0,([]:List (List Int)))))))))))))))))
def tf:Bool:=
 (ab (qb ({Group:=({P:=23,Q:=11,G:=4}:en),G1:=2,G2:=3,H:=6}:eH) 1 5 ([115,101,101,100]:List Int)) (fun (x1:(av×Int))=>(ab (xg ([]:List ff) (x1.1) 0) (fun (x5:(Int×Int))=>(if (x1.2==0) then (if (x1.1.Key==9) then (if (x1.1.Bank==1) then (if (x1.1.Next==0) then (if ((x1.1.Holdings.length:Int)==0) then (ab (xi ({Group:=({P:=23,Q:=11,G:=4}:en),G1:=2,G2:=3,H:=6}:eH) ([]:List ff) (x1.1)) (fun (x18:Bool)=>(if x18 then (if (x5.2==0) then (x5.1==0) else false) else false))) else false) else false) else false) else false) else false)))))
def oi (w:aL):Bool:=
 (decide ((w.Secret.X.length:Int)>40))
def ol (s:aA):Bool:=
 (if (decide ((s.Leaves.length:Int)>40)) then true else (decide ((s.Path.L.length:Int)>20)))
def tg (s:(List aA)):Int:=
 (ah (((s.length:Int) - 0).toNat+1) (fun (ag1:Int→Int) (p1:Int)=>(if (decide (p1<(s.length:Int))) then (ab (ol (gt s p1)) (fun (x5:Bool)=>(if x5 then p1 else (ag1 (p1+1))))) else (-1))) (fun _=>default) 0)
def qe (s:(List aA)):Bool:=
 (ab (tg s) (fun (x1:Int)=>(decide (x1≥0))))
def om (h_:ay):Bool:=
 (if (decide ((h_.Secret.X.length:Int)>40)) then true else (if (decide ((h_.Spent.length:Int)>40)) then true else (if (decide ((h_.Chain.length:Int)>12)) then true else (ab (qe (h_.Chain)) (fun (x7:Bool)=>x7)))))
def th (s:(List aL)):Int:=
 (ah (((s.length:Int) - 0).toNat+1) (fun (ag1:Int→Int) (p1:Int)=>(if (decide (p1<(s.length:Int))) then (ab (oi (gt s p1)) (fun (x5:Bool)=>(if x5 then p1 else (ag1 (p1+1))))) else (-1))) (fun _=>default) 0)
def qf (s:(List aL)):Bool:=
 (ab (th s) (fun (x1:Int)=>(decide (x1≥0))))
def tj (s:(List ay)):Int:=
 (ah (((s.length:Int) - 0).toNat+1) (fun (ag1:Int→Int) (p1:Int)=>(if (decide (p1<(s.length:Int))) then (ab (om (gt s p1)) (fun (x5:Bool)=>(if x5 then p1 else (ag1 (p1+1))))) else (-1))) (fun _=>default) 0)
def qg (s:(List ay)):Bool:=
 (ab (tj s) (fun (x1:Int)=>(decide (x1≥0))))
def mK (p_:av):Bool:=
 (if (decide ((p_.Holdings.length:Int)>10)) then true else (if (decide ((p_.Open.length:Int)>6)) then true else (ab (qf (p_.Open)) (fun (x5:Bool)=>(if x5 then true else (ab (qg (p_.Holdings)) (fun (x9:Bool)=>x9)))))))
def qh (s:List Int):List Int:=s
def qi (h_:(List Int)):aa:=
 (ab (qh (au 32 h_)) (fun (x1:(List Int))=>({Kind:=2,N:=0,B:=x1,L:=([]:List aa)}:aa)))
def dp (l:(List Int)):aa:=
 (ah (((l.length:Int) - 0).toNat+1) (fun (ag1:(Int×List aa)→aa) (p1:Int×List aa)=>(if (decide (p1.1<(l.length:Int))) then (ag1 ((p1.1+1),(p1.2++([({Kind:=1,N:=(gt l p1.1),B:=([]:List Int),L:=([]:List aa)}:aa)]:List aa)))) else ({Kind:=3,N:=0,B:=([]:List Int),L:=p1.2}:aa))) (fun _=>default) (0,([]:List aa)))
def kc (w_:eI) (l_:(List Int)):eI:=
 (ab (dp l_) (fun (x1:aa)=>({l:=(w_.l++([x1]:List aa))}:eI)))
def ls (w_:eI) (b:(List Int)):eI:=
 (ab (qh b) (fun (x1:(List Int))=>({l:=(w_.l++([({Kind:=2,N:=0,B:=x1,L:=([]:List aa)}:aa)]:List aa))}:eI)))
def kd (c:br):aa:=
 (ab (kc mD ([c.Bank,c.Epoch,c.Denom,c.Depth,c.A]:List Int)) (fun (x1:eI)=>(ab (ls x1 (au 32 c.Root)) (fun (x5:eI)=>(ab (kc x5 ([c.Sign.Z,c.Sign.A,c.Sign.B,c.Sign.R]:List Int)) (fun (x9:eI)=>({Kind:=3,N:=0,B:=([]:List Int),L:=x9.l}:aa)))))))
def qj (l:(List aa)):aa:=
 ({Kind:=3,N:=0,B:=([]:List Int),L:=l}:aa)
def lu (s:aA):aa:=
 (ah (((s.Leaves.length:Int) - 0).toNat+1) (fun (ag1:(Int×List Int)→aa) (p1:Int×List Int)=>(if (decide (p1.1<(s.Leaves.length:Int))) then (ag1 ((p1.1+1),(p1.2++([(gt s.Leaves p1.1).B,(gt s.Leaves p1.1).R1,(gt s.Leaves p1.1).R2]:List Int)))) else (ah (((s.Path.L.length:Int) - 0).toNat+1) (fun (ag6:(Int×List aa)→aa) (p6:Int×List aa)=>(if (decide (p6.1<(s.Path.L.length:Int))) then (ab (qi (gt s.Path.L p6.1)) (fun (x10:aa)=>(ag6 ((p6.1+1),(p6.2++([x10]:List aa)))))) else (ab (kd (s.Coin)) (fun (x14:aa)=>(ab (dp ([s.Node.Level,s.Node.Index]:List Int)) (fun (x16:aa)=>(ab (qi (s.Context.Payee)) (fun (x18:aa)=>(ab (dp ([s.Context.Time,s.Context.Number]:List Int)) (fun (x20:aa)=>(ab (dp (p1.2)) (fun (x22:aa)=>(ab (qj (p6.2)) (fun (x24:aa)=>(ab (qj ([x14,x16,x18,x20,x22,x24]:List aa)) (fun (x27:aa)=>x27)))))))))))))))) (fun _=>default) (0,([({Kind:=1,N:=s.Path.Index,B:=([]:List Int),L:=([]:List aa)}:aa)]:List aa))))) (fun _=>default) (0,([]:List Int)))
def dc (l:(List aa)):aa:=
 ({Kind:=3,N:=0,B:=([]:List Int),L:=l}:aa)
def ji (h_:ay):aa:=
 (ah (((h_.Secret.X.length:Int) - 0).toNat+1) (fun (ag1:(Int×List Int)→aa) (p1:Int×List Int)=>(if (decide (p1.1<(h_.Secret.X.length:Int))) then (ag1 ((p1.1+1),(p1.2++([(gt (gt h_.Secret.X p1.1) 0),(gt (gt h_.Secret.X p1.1) 1)]:List Int)))) else (ah (((h_.Spent.length:Int) - 0).toNat+1) (fun (ag6:(Int×List Int)→aa) (p6:Int×List Int)=>(if (decide (p6.1<(h_.Spent.length:Int))) then (if (gt h_.Spent p6.1) then (ag6 ((p6.1+1),(p6.2++([1]:List Int)))) else (ag6 ((p6.1+1),(p6.2++([0]:List Int))))) else (ah (((h_.Chain.length:Int) - 0).toNat+1) (fun (ag14:(Int×List aa)→aa) (p14:Int×List aa)=>(if (decide (p14.1<(h_.Chain.length:Int))) then (ab (lu (gt h_.Chain p14.1)) (fun (x18:aa)=>(ag14 ((p14.1+1),(p14.2++([x18]:List aa)))))) else (ab (kd (h_.Coin)) (fun (x22:aa)=>(ab (dp (p1.2)) (fun (x25:aa)=>(ab (dp (p6.2)) (fun (x28:aa)=>(ab (dc (p14.2)) (fun (x31:aa)=>(ab (dc ([x22,x25,x28,x31]:List aa)) (fun (x34:aa)=>x34)))))))))))) (fun _=>default) (0,([]:List aa))))) (fun _=>default) (0,([]:List Int))))) (fun _=>default) (0,([h_.Secret.U,h_.Secret.S]:List Int)))
def jj (w:aL):aa:=
 (ah (((w.Secret.X.length:Int) - 0).toNat+1) (fun (ag1:(Int×List Int)→aa) (p1:Int×List Int)=>(if (decide (p1.1<(w.Secret.X.length:Int))) then (ag1 ((p1.1+1),(p1.2++([(gt (gt w.Secret.X p1.1) 0),(gt (gt w.Secret.X p1.1) 1)]:List Int)))) else (ab (dp ([w.Phase,w.Number,w.Bank,w.Epoch,w.Denom,w.Depth]:List Int)) (fun (x6:aa)=>(ab (dp (p1.2)) (fun (x8:aa)=>(ab (dp ([w.Factors.S,w.Factors.U,w.Factors.V]:List Int)) (fun (x10:aa)=>(ab (dp ([w.View.M,w.View.Z,w.View.A,w.View.B,w.View.C,w.View.R]:List Int)) (fun (x12:aa)=>(ab (kd (w.Coin)) (fun (x14:aa)=>({Kind:=3,N:=0,B:=([]:List Int),L:=([x6,x8,x10,x12,x14]:List aa)}:aa))))))))))))) (fun _=>default) (0,([w.Secret.U,w.Secret.S]:List Int)))
def lv (p_:av):((List Int)×Int):=
 (ah (((p_.Holdings.length:Int) - 0).toNat+1) (fun (ag1:(Int×List aa)→((List Int)×Int)) (p1:Int×List aa)=>(if (decide (p1.1<(p_.Holdings.length:Int))) then (ab (ji (gt p_.Holdings p1.1)) (fun (x5:aa)=>(ag1 ((p1.1+1),(p1.2++([x5]:List aa)))))) else (ah (((p_.Open.length:Int) - 0).toNat+1) (fun (ag9:(Int×List aa)→((List Int)×Int)) (p9:Int×List aa)=>(if (decide (p9.1<(p_.Open.length:Int))) then (ab (jj (gt p_.Open p9.1)) (fun (x13:aa)=>(ag9 ((p9.1+1),(p9.2++([x13]:List aa)))))) else (ab (dp ([p_.Bank,p_.U,p_.Key,p_.Next]:List Int)) (fun (x17:aa)=>(ab (dc (p1.2)) (fun (x19:aa)=>(ab (dc (p9.2)) (fun (x21:aa)=>(ab (dc ([({Kind:=2,N:=0,B:=(au 32 p_.Source.Seed),L:=([]:List aa)}:aa),({Kind:=1,N:=p_.Source.Counter,B:=([]:List Int),L:=([]:List aa)}:aa)]:List aa)) (fun (x23:aa)=>(ab (dc ([x17,x19,x21,x23]:List aa)) (fun (x25:aa)=>(ab (iB x25) (fun (x27:((List Int)×Int))=>(if (x27.2 !=0) then (([]:List Int),5) else (x27.1,0)))))))))))))))) (fun _=>default) (0,([]:List aa))))) (fun _=>default) (0,([]:List aa)))
def jk (h_:(List Int)):aa:=
 (ah (((32:Int) - 0).toNat+1) (fun (ag1:(Int×List Int)→aa) (p1:Int×List Int)=>(if (decide (p1.1<32)) then (ag1 ((p1.1+1),(p1.2++([(gt h_ p1.1)]:List Int)))) else ({Kind:=2,N:=0,B:=p1.2,L:=([]:List aa)}:aa))) (fun _=>default) (0,([]:List Int)))
def dM (l:(List Int)):aa:=
 (ah (((l.length:Int) - 0).toNat+1) (fun (ag1:(Int×List aa)→aa) (p1:Int×List aa)=>(if (decide (p1.1<(l.length:Int))) then (ag1 ((p1.1+1),(p1.2++([({Kind:=1,N:=(gt l p1.1),B:=([]:List Int),L:=([]:List aa)}:aa)]:List aa)))) else ({Kind:=3,N:=0,B:=([]:List Int),L:=p1.2}:aa))) (fun _=>default) (0,([]:List aa)))
def jl (c:br):aa:=
 (ab (dM ([c.Bank,c.Epoch,c.Denom,c.Depth,c.A]:List Int)) (fun (x1:aa)=>(ab (jk (c.Root)) (fun (x3:aa)=>(ab (dM ([c.Sign.Z,c.Sign.A,c.Sign.B,c.Sign.R]:List Int)) (fun (x5:aa)=>({Kind:=3,N:=0,B:=([]:List Int),L:=([x1,x3,x5]:List aa)}:aa)))))))
def qk (l:(List aa)):aa:=
 ({Kind:=3,N:=0,B:=([]:List Int),L:=l}:aa)
def ke (s:aA):aa:=
 (ah (((s.Leaves.length:Int) - 0).toNat+1) (fun (ag1:(Int×List Int)→aa) (p1:Int×List Int)=>(if (decide (p1.1<(s.Leaves.length:Int))) then (ag1 ((p1.1+1),(p1.2++([(gt s.Leaves p1.1).B,(gt s.Leaves p1.1).R1,(gt s.Leaves p1.1).R2]:List Int)))) else (ah (((s.Path.L.length:Int) - 0).toNat+1) (fun (ag6:(Int×List aa)→aa) (p6:Int×List aa)=>(if (decide (p6.1<(s.Path.L.length:Int))) then (ab (jk (gt s.Path.L p6.1)) (fun (x10:aa)=>(ag6 ((p6.1+1),(p6.2++([x10]:List aa)))))) else (ab (jl (s.Coin)) (fun (x14:aa)=>(ab (dM ([s.Node.Level,s.Node.Index]:List Int)) (fun (x16:aa)=>(ab (jk (s.Context.Payee)) (fun (x18:aa)=>(ab (dM ([s.Context.Time,s.Context.Number]:List Int)) (fun (x20:aa)=>(ab (dM (p1.2)) (fun (x22:aa)=>(ab (qk (p6.2)) (fun (x24:aa)=>(ab (qk ([x14,x16,x18,x20,x22,x24]:List aa)) (fun (x27:aa)=>x27)))))))))))))))) (fun _=>default) (0,([({Kind:=1,N:=s.Path.Index,B:=([]:List Int),L:=([]:List aa)}:aa)]:List aa))))) (fun _=>default) (0,([]:List Int)))
def dq (l:(List aa)):aa:=
 ({Kind:=3,N:=0,B:=([]:List Int),L:=l}:aa)
def lw (h_:ay):aa:=
 (ah (((h_.Secret.X.length:Int) - 0).toNat+1) (fun (ag1:(Int×List Int)→aa) (p1:Int×List Int)=>(if (decide (p1.1<(h_.Secret.X.length:Int))) then (ag1 ((p1.1+1),(p1.2++([(gt (gt h_.Secret.X p1.1) 0),(gt (gt h_.Secret.X p1.1) 1)]:List Int)))) else (ah (((h_.Spent.length:Int) - 0).toNat+1) (fun (ag6:(Int×List Int)→aa) (p6:Int×List Int)=>(if (decide (p6.1<(h_.Spent.length:Int))) then (if (gt h_.Spent p6.1) then (ag6 ((p6.1+1),(p6.2++([1]:List Int)))) else (ag6 ((p6.1+1),(p6.2++([0]:List Int))))) else (ah (((h_.Chain.length:Int) - 0).toNat+1) (fun (ag14:(Int×List aa)→aa) (p14:Int×List aa)=>(if (decide (p14.1<(h_.Chain.length:Int))) then (ab (ke (gt h_.Chain p14.1)) (fun (x18:aa)=>(ag14 ((p14.1+1),(p14.2++([x18]:List aa)))))) else (ab (jl (h_.Coin)) (fun (x22:aa)=>(ab (dM (p1.2)) (fun (x25:aa)=>(ab (dM (p6.2)) (fun (x28:aa)=>(ab (dq (p14.2)) (fun (x31:aa)=>(ab (dq ([x22,x25,x28,x31]:List aa)) (fun (x34:aa)=>x34)))))))))))) (fun _=>default) (0,([]:List aa))))) (fun _=>default) (0,([]:List Int))))) (fun _=>default) (0,([h_.Secret.U,h_.Secret.S]:List Int)))
def lx (l:(List Int)):aa:=
 (ah (((l.length:Int) - 0).toNat+1) (fun (ag1:(Int×List aa)→aa) (p1:Int×List aa)=>(if (decide (p1.1<(l.length:Int))) then (ag1 ((p1.1+1),(p1.2++([({Kind:=1,N:=(gt l p1.1),B:=([]:List Int),L:=([]:List aa)}:aa)]:List aa)))) else ({Kind:=3,N:=0,B:=([]:List Int),L:=p1.2}:aa))) (fun _=>default) (0,([]:List aa)))
def ly (w:aL):aa:=
 (ah (((w.Secret.X.length:Int) - 0).toNat+1) (fun (ag1:(Int×List Int)→aa) (p1:Int×List Int)=>(if (decide (p1.1<(w.Secret.X.length:Int))) then (ag1 ((p1.1+1),(p1.2++([(gt (gt w.Secret.X p1.1) 0),(gt (gt w.Secret.X p1.1) 1)]:List Int)))) else (ab (lx ([w.Phase,w.Number,w.Bank,w.Epoch,w.Denom,w.Depth]:List Int)) (fun (x6:aa)=>(ab (lx (p1.2)) (fun (x8:aa)=>(ab (lx ([w.Factors.S,w.Factors.U,w.Factors.V]:List Int)) (fun (x10:aa)=>(ab (lx ([w.View.M,w.View.Z,w.View.A,w.View.B,w.View.C,w.View.R]:List Int)) (fun (x12:aa)=>(ab (jl (w.Coin)) (fun (x14:aa)=>({Kind:=3,N:=0,B:=([]:List Int),L:=([x6,x8,x10,x12,x14]:List aa)}:aa))))))))))))) (fun _=>default) (0,([w.Secret.U,w.Secret.S]:List Int)))
def oo (p_:av):aa:=
 (ah (((p_.Holdings.length:Int) - 0).toNat+1) (fun (ag1:(Int×List aa)→aa) (p1:Int×List aa)=>(if (decide (p1.1<(p_.Holdings.length:Int))) then (ab (lw (gt p_.Holdings p1.1)) (fun (x5:aa)=>(ag1 ((p1.1+1),(p1.2++([x5]:List aa)))))) else (ah (((p_.Open.length:Int) - 0).toNat+1) (fun (ag9:(Int×List aa)→aa) (p9:Int×List aa)=>(if (decide (p9.1<(p_.Open.length:Int))) then (ab (ly (gt p_.Open p9.1)) (fun (x13:aa)=>(ag9 ((p9.1+1),(p9.2++([x13]:List aa)))))) else (ab (jk (p_.Source.Seed)) (fun (x17:aa)=>(ab (dq ([x17,({Kind:=1,N:=p_.Source.Counter,B:=([]:List Int),L:=([]:List aa)}:aa)]:List aa)) (fun (x19:aa)=>(ab (dM ([p_.Bank,p_.U,p_.Key,p_.Next]:List Int)) (fun (x21:aa)=>(ab (dq (p1.2)) (fun (x23:aa)=>(ab (dq (p9.2)) (fun (x25:aa)=>(ab (dq ([x21,x23,x25,x19]:List aa)) (fun (x27:aa)=>x27)))))))))))))) (fun _=>default) (0,([]:List aa))))) (fun _=>default) (0,([]:List aa)))
def ql (i_:aa) (within:Int):Bool:=
 (if (i_.Kind==1) then (if ((i_.B.length:Int)==0) then ((i_.L.length:Int)==0) else false) else (if (i_.Kind==2) then (if (i_.N==0) then ((i_.L.length:Int)==0) else false) else (if (i_.Kind==3) then (if (i_.N !=0) then false else (if ((i_.B.length:Int) !=0) then false else (if (decide ((i_.L.length:Int)>1000)) then false else (if (within==8) then false else (ah (((i_.L.length:Int) - 0).toNat+1) (fun (ag24:Int→Bool) (p24:Int)=>(if (decide (p24<(i_.L.length:Int))) then (ab (j4 (gt i_.L p24) (within+1)) (fun (x29:Bool)=>(if (!x29) then false else (ag24 (p24+1))))) else true)) (fun _=>default) 0))))) else false)))
def mL (i_:aa):Bool:=
 (ab (j4 i_ 0) (fun (x1:Bool)=>x1))
def lz (n_:Int) (size:Int):(List Int):=
 (ah (((size - 1)+1).toNat+1) (fun (ag2:(Int×Int×List Int)→(List Int)) (p2:Int×Int×List Int)=>(if (decide (p2.2.1≥0)) then (ag2 ((cc .u64 p2.1 256),(p2.2.1 - 1),(st p2.2.2 p2.2.1 (ae .u8 (bJ .u64 p2.1 256))))) else p2.2.2)) (fun _=>default) (n_,(size - 1),(rep size.toNat (0:Int))))
def qm (i_:aa):(List Int):=
 (if (i_.Kind==1) then (ab (lz (ae .u64 i_.N) 8) (fun (x3:(List Int))=>(([1]:List Int)++x3))) else (if (i_.Kind==2) then (ab (lz (ae .u64 (i_.B.length:Int)) 4) (fun (x10:(List Int))=>((([2]:List Int)++x10)++i_.B))) else (ab (lz (ae .u64 (i_.L.length:Int)) 4) (fun (x14:(List Int))=>(ah (((i_.L.length:Int) - 0).toNat+1) (fun (ag18:(Int×List Int)→(List Int)) (p18:Int×List Int)=>(if (decide (p18.1<(i_.L.length:Int))) then (ab (bz (gt i_.L p18.1)) (fun (x22:(List Int))=>(ag18 ((p18.1+1),(p18.2++x22))))) else p18.2)) (fun _=>default) (0,(([3]:List Int)++x14)))))))
def qn (p_:av):((List Int)×Bool):=
 (ab (oo p_) (fun (x1:aa)=>(ab (mL x1) (fun (x4:Bool)=>(if (!x4) then (([]:List Int),false) else (ab (bz x1) (fun (x10:(List Int))=>(x10,(decide ((x10.length:Int)≤16384))))))))))
def tk (a_:(List Int)) (b:(List Int)):Bool:=
 ((a_.map u8N)==(b.map u8N))
def fN (r_:aD) (e_:Int):aD:=
 (if (r_.e==0) then ({b:=r_.b,e:=e_}:aD) else r_)
def jm (r_:aD) (n_:Int):((List Int)×aD):=
 (if (r_.e !=0) then (ab (fN r_ 4) (fun (x10:aD)=>(([]:List Int),x10))) else (if (decide (n_>(r_.b.length:Int))) then (ab (fN r_ 4) (fun (x5:aD)=>(([]:List Int),x5))) else ((sl r_.b 0 n_),({b:=(sl r_.b n_ (r_.b.length:Int)),e:=r_.e}:aD))))
def gh (r_:aD) (size:Int):(Int×aD):=
 (ab (jm r_ size) (fun (x1:((List Int)×aD))=>(ah (((x1.1.length:Int) - 0).toNat+1) (fun (ag4:(Int×Int)→(Int×aD)) (p4:Int×Int)=>(if (decide (p4.2<(x1.1.length:Int))) then (ag4 ((orI .u64 (ao .u64 p4.1 8) (ae .u64 (gt x1.1 p4.2))),(p4.2+1))) else (p4.1,x1.2))) (fun _=>default) (0,0))))
def jn (r_:aD) (depth:Int):(aa×aD):=
 (ab (gh r_ 1) (fun (x1:(Int×aD))=>(im (fun (p6:Unit)=>(if ((ae .i64 x1.1)==1) then (ab (gh (x1.2) 8) (fun (x9:(Int×aD))=>(({Kind:=(ae .i64 x1.1),N:=(ae .i64 x9.1),B:=([]:List Int),L:=([]:List aa)}:aa),x9.2))) else (if ((ae .i64 x1.1)==2) then (ab (gh (x1.2) 4) (fun (x17:(Int×aD))=>(ab (jm (x17.2) (ae .i64 x17.1)) (fun (x22:((List Int)×aD))=>(ab (mH (x22.1)) (fun (x26:(List Int))=>(({Kind:=(ae .i64 x1.1),N:=0,B:=x26,L:=([]:List aa)}:aa),x22.2))))))) else (if ((ae .i64 x1.1)==3) then (ab (gh (x1.2) 4) (fun (x33:(Int×aD))=>(im (fun (p38:aD)=>(ah (((ae .i64 x33.1) - 0).toNat+1) (fun (ag39:(Int×aD×List aa)→(aa×aD)) (p39:Int×aD×List aa)=>(if (decide (p39.1<(ae .i64 x33.1))) then (if (p39.2.1.e !=0) then (({Kind:=(ae .i64 x1.1),N:=0,B:=([]:List Int),L:=p39.2.2}:aa),p39.2.1) else (ab (cQ (p39.2.1) (depth - 1)) (fun (x46:(aa×aD))=>(ag39 ((p39.1+1),x46.2,(p39.2.2++([x46.1]:List aa))))))) else (({Kind:=(ae .i64 x1.1),N:=0,B:=([]:List Int),L:=p39.2.2}:aa),p39.2.1))) (fun _=>default) (0,p38,([]:List aa)))) (fun j38=>(if (decide ((ae .i64 x33.1)>1000)) then (ab (fN (x33.2) 3) (fun (x52:aD)=>(j38 x52))) else (j38 x33.2)))))) else (({Kind:=(ae .i64 x1.1),N:=0,B:=([]:List Int),L:=([]:List aa)}:aa),x1.2))))) (fun j6=>(if (decide ((ae .i64 x1.1)<1)) then (ab (fN (x1.2) 3) (fun (x81:aD)=>(bT,x81))) else (if (decide ((ae .i64 x1.1)>3)) then (ab (fN (x1.2) 3) (fun (x75:aD)=>(bT,x75))) else (if ((ae .i64 x1.1)==3) then (if (depth==0) then (ab (fN (x1.2) 3) (fun (x67:aD)=>(bT,x67))) else (j6 ())) else (j6 ()))))))))
def gi (b:(List Int)):(aa×Int):=
 (if (decide ((b.length:Int)>16384)) then (bT,5) else (ab (cQ ({b:=b,e:=0}:aD) 8) (fun (x4:(aa×aD))=>(im (fun (p7:aD)=>(if (p7.e !=0) then (bT,p7.e) else (x4.1,0))) (fun j7=>(if (decide ((x4.2.b.length:Int)>0)) then (ab (fN (x4.2) 3) (fun (x13:aD)=>(j7 x13))) else (j7 x4.2)))))))
def fO (i_:aa) (n_:Int):Bool:=
 (if (i_.Kind==3) then ((i_.L.length:Int)==n_) else false)
def aN (i_:aa):((List Int)×Int):=
 (ab (iA i_) (fun (x1:Bool)=>(if (!x1) then (([]:List Int),1) else (if (i_.Kind !=3) then (([]:List Int),3) else (ah (((i_.L.length:Int) - 0).toNat+1) (fun (ag10:(Int×List Int)→((List Int)×Int)) (p10:Int×List Int)=>(if (decide (p10.1<(i_.L.length:Int))) then (if ((gt i_.L p10.1).Kind !=1) then (([]:List Int),3) else (ag10 ((p10.1+1),(p10.2++([(gt i_.L p10.1).N]:List Int))))) else (p10.2,0))) (fun _=>default) (0,([]:List Int)))))))
def cU (i_:aa):(br×Int):=
 (ab (iA i_) (fun (x1:Bool)=>(if (!x1) then (cH,1) else (if (i_.Kind !=3) then (cH,3) else (if ((i_.L.length:Int) !=3) then (cH,3) else (ab (aN (gt i_.L 0)) (fun (x13:((List Int)×Int))=>(ab (aN (gt i_.L 2)) (fun (x17:((List Int)×Int))=>(if (x13.2 !=0) then (cH,3) else (if (x17.2 !=0) then (cH,3) else (if ((x13.1.length:Int) !=5) then (cH,3) else (if ((x17.1.length:Int) !=4) then (cH,3) else (if ((gt i_.L 1).Kind !=2) then (cH,3) else (if (((gt i_.L 1).B.length:Int) !=32) then (cH,3) else (({Bank:=(gt x13.1 0),Epoch:=(gt x13.1 1),Denom:=(gt x13.1 2),Depth:=(gt x13.1 3),A:=(gt x13.1 4),Root:=(au 32 (gt i_.L 1).B),Sign:=({Z:=(gt x17.1 0),A:=(gt x17.1 1),B:=(gt x17.1 2),R:=(gt x17.1 3)}:k8)}:br),0))))))))))))))))
def lA (i_:aa):(Int×Int×Bool):=
 (ab (aN i_) (fun (x1:((List Int)×Int))=>(if (x1.2 !=0) then (0,0,false) else (if ((x1.1.length:Int) !=2) then (0,0,false) else ((gt x1.1 0),(gt x1.1 1),true)))))
def dr (i_:aa):((List Int)×Bool):=
 (if (i_.Kind !=2) then ([0,0,0,0,0,0,0,0,0,0,0,0,0,0,0,0,0,0,0,0,0,0,0,0,0,0,0,0,0,0,0,0],false) else (if ((i_.B.length:Int) !=32) then ([0,0,0,0,0,0,0,0,0,0,0,0,0,0,0,0,0,0,0,0,0,0,0,0,0,0,0,0,0,0,0,0],false) else ((au 32 (spl ([0,0,0,0,0,0,0,0,0,0,0,0,0,0,0,0,0,0,0,0,0,0,0,0,0,0,0,0,0,0,0,0]:List Int) 0 (min 32 i_.B.length) i_.B)),true)))
def de (i_:aa):(aA×Int):=
 (ab (iA i_) (fun (x1:Bool)=>(if (!x1) then (bG,1) else (if (i_.Kind !=3) then (bG,3) else (if ((i_.L.length:Int) !=6) then (bG,3) else (ab (cU (gt i_.L 0)) (fun (x14:(br×Int))=>(ab (lA (gt i_.L 1)) (fun (x18:(Int×Int×Bool))=>(ab (dr (gt i_.L 2)) (fun (x22:((List Int)×Bool))=>(ab (lA (gt i_.L 3)) (fun (x26:(Int×Int×Bool))=>(ab (aN (gt i_.L 4)) (fun (x30:((List Int)×Int))=>(if (x14.2 !=0) then (bG,3) else (if (!x18.2.2) then (bG,3) else (if (!x22.2) then (bG,3) else (if (!x26.2.2) then (bG,3) else (if (x30.2 !=0) then (bG,3) else (if ((bJ .i64 (x30.1.length:Int) 3) !=0) then (bG,3) else (if ((gt i_.L 5).Kind !=3) then (bG,3) else (if (((gt i_.L 5).L.length:Int)==0) then (bG,3) else (if ((gt (gt i_.L 5).L 0).Kind !=1) then (bG,3) else (ah (((x30.1.length:Int) - 0).toNat+1) (fun (ag54:(Int×List bS)→(aA×Int)) (p54:Int×List bS)=>(if (decide (p54.1<(x30.1.length:Int))) then (ag54 ((p54.1+3),(p54.2++([({B:=(gt x30.1 p54.1),R1:=(gt x30.1 (p54.1+1)),R2:=(gt x30.1 (p54.1+2))}:bS)]:List bS)))) else (ah ((((sl (gt i_.L 5).L 1 ((gt i_.L 5).L.length:Int)).length:Int) - 0).toNat+1) (fun (ag63:(Int×aA×List (List Int))→(aA×Int)) (p63:Int×aA×List (List Int))=>(if (decide (p63.1<((sl (gt i_.L 5).L 1 ((gt i_.L 5).L.length:Int)).length:Int))) then (ab (dr (gt (sl (gt i_.L 5).L 1 ((gt i_.L 5).L.length:Int)) p63.1)) (fun (x67:((List Int)×Bool))=>(if (!x67.2) then (bG,3) else (ag63 ((p63.1+1),p63.2.1,(p63.2.2++([x67.1]:List (List Int)))))))) else (({Coin:=x14.1,Node:=({Level:=x18.1,Index:=x18.2.1}:jT),Context:=({Payee:=x22.1,Time:=x26.1,Number:=x26.2.1}:iz),Leaves:=p54.2,Path:=({Index:=(gt (gt i_.L 5).L 0).N,L:=p63.2.2}:ga)}:aA),0))) (fun _=>default) (0,bG,([]:List (List Int)))))) (fun _=>default) (0,([]:List bS)))))))))))))))))))))))))))
def gM (i_:aa):(ay×Bool):=
 (ab (fO i_ 4) (fun (x1:Bool)=>(if (!x1) then (cw,false) else (ab (cU (gt i_.L 0)) (fun (x9:(br×Int))=>(if (x9.2 !=0) then (({Coin:=x9.1,Secret:=gK,Spent:=([]:List Bool),Chain:=([]:List aA)}:ay),false) else (ab (aN (gt i_.L 1)) (fun (x16:((List Int)×Int))=>(if (x16.2 !=0) then (({Coin:=x9.1,Secret:=gK,Spent:=([]:List Bool),Chain:=([]:List aA)}:ay),false) else (if (decide ((x16.1.length:Int)<2)) then (({Coin:=x9.1,Secret:=gK,Spent:=([]:List Bool),Chain:=([]:List aA)}:ay),false) else (if ((bJ .i64 (x16.1.length:Int) 2) !=0) then (({Coin:=x9.1,Secret:=gK,Spent:=([]:List Bool),Chain:=([]:List aA)}:ay),false) else (eX (cM (sl x16.1 2 (x16.1.length:Int))) (fun (ag29:(List (List Int))→(ay×Bool)) (y29:List Int) (p29:List (List Int))=>(ag29 (p29++([(au 2 y29)]:List (List Int))))) (fun (p29:List (List Int))=>(ab (aN (gt i_.L 2)) (fun (x32:((List Int)×Int))=>(if (x32.2 !=0) then (({Coin:=x9.1,Secret:=({U:=(gt x16.1 0),S:=(gt x16.1 1),X:=p29}:cj),Spent:=([]:List Bool),Chain:=([]:List aA)}:ay),false) else (if ((gt i_.L 3).Kind !=3) then (({Coin:=x9.1,Secret:=({U:=(gt x16.1 0),S:=(gt x16.1 1),X:=p29}:cj),Spent:=([]:List Bool),Chain:=([]:List aA)}:ay),false) else (ah (((x32.1.length:Int) - 0).toNat+1) (fun (ag41:(Int×List Bool)→(ay×Bool)) (p41:Int×List Bool)=>(if (decide (p41.1<(x32.1.length:Int))) then (if ((gt x32.1 p41.1) !=0) then (if ((gt x32.1 p41.1) !=1) then (({Coin:=x9.1,Secret:=({U:=(gt x16.1 0),S:=(gt x16.1 1),X:=p29}:cj),Spent:=p41.2,Chain:=([]:List aA)}:ay),false) else (ag41 ((p41.1+1),(p41.2++([((gt x32.1 p41.1)==1)]:List Bool))))) else (ag41 ((p41.1+1),(p41.2++([((gt x32.1 p41.1)==1)]:List Bool))))) else (ah ((((gt i_.L 3).L.length:Int) - 0).toNat+1) (fun (ag52:(Int×List aA)→(ay×Bool)) (p52:Int×List aA)=>(if (decide (p52.1<((gt i_.L 3).L.length:Int))) then (ab (de (gt (gt i_.L 3).L p52.1)) (fun (x56:(aA×Int))=>(if (x56.2 !=0) then (({Coin:=x9.1,Secret:=({U:=(gt x16.1 0),S:=(gt x16.1 1),X:=p29}:cj),Spent:=p41.2,Chain:=p52.2}:ay),false) else (ag52 ((p52.1+1),(p52.2++([x56.1]:List aA))))))) else (({Coin:=x9.1,Secret:=({U:=(gt x16.1 0),S:=(gt x16.1 1),X:=p29}:cj),Spent:=p41.2,Chain:=p52.2}:ay),true))) (fun _=>default) (0,([]:List aA))))) (fun _=>default) (0,([]:List Bool)))))))) ([]:List (List Int))))))))))))))
def dN (i_:aa):(aL×Int):=
 (ab (iA i_) (fun (x1:Bool)=>(if (!x1) then (bw,1) else (if (i_.Kind !=3) then (bw,3) else (if ((i_.L.length:Int) !=5) then (bw,3) else (ah (((4:Int) - 0).toNat+1) (fun (ag12:(Int×aL×(List (List Int)))→(aL×Int)) (p12:Int×aL×(List (List Int)))=>(if (decide (p12.1<4)) then (ab (aN (gt i_.L p12.1)) (fun (x16:((List Int)×Int))=>(if (x16.2 !=0) then (bw,3) else (ag12 ((p12.1+1),p12.2.1,(au 4 (st (au 4 p12.2.2) p12.1 (x16.1)))))))) else (ab (cU (gt i_.L 4)) (fun (x26:(br×Int))=>(if (x26.2 !=0) then (bw,3) else (if (((gt p12.2.2 0).length:Int) !=6) then (bw,3) else (if (decide (((gt p12.2.2 1).length:Int)<2)) then (bw,3) else (if ((bJ .i64 ((gt p12.2.2 1).length:Int) 2) !=0) then (bw,3) else (if (((gt p12.2.2 2).length:Int) !=3) then (bw,3) else (if (((gt p12.2.2 3).length:Int) !=6) then (bw,3) else (ah ((((gt p12.2.2 1).length:Int) - 2).toNat+1) (fun (ag59:(Int×List (List Int))→(aL×Int)) (p59:Int×List (List Int))=>(if (decide (p59.1<((gt p12.2.2 1).length:Int))) then (ag59 ((p59.1+2),(p59.2++([[(gt (gt p12.2.2 1) p59.1),(gt (gt p12.2.2 1) (p59.1+1))]]:List (List Int))))) else (({Phase:=(gt (gt p12.2.2 0) 0),Number:=(gt (gt p12.2.2 0) 1),Bank:=(gt (gt p12.2.2 0) 2),Epoch:=(gt (gt p12.2.2 0) 3),Denom:=(gt (gt p12.2.2 0) 4),Depth:=(gt (gt p12.2.2 0) 5),Secret:=({U:=(gt (gt p12.2.2 1) 0),S:=(gt (gt p12.2.2 1) 1),X:=p59.2}:cj),Factors:=({S:=(gt (gt p12.2.2 2) 0),U:=(gt (gt p12.2.2 2) 1),V:=(gt (gt p12.2.2 2) 2)}:jU),View:=({M:=(gt (gt p12.2.2 3) 0),Z:=(gt (gt p12.2.2 3) 1),A:=(gt (gt p12.2.2 3) 2),B:=(gt (gt p12.2.2 3) 3),C:=(gt (gt p12.2.2 3) 4),R:=(gt (gt p12.2.2 3) 5)}:jV),Coin:=x26.1}:aL),0))) (fun _=>default) (2,([]:List (List Int)))))))))))))) (fun _=>default) (0,bw,[([]:List Int),([]:List Int),([]:List Int),([]:List Int)])))))))
def jo (i_:aa):(dD×Bool):=
 (ab (fO i_ 2) (fun (x1:Bool)=>(if (!x1) then (gJ,false) else (if ((gt i_.L 0).Kind !=2) then (gJ,false) else (if (((gt i_.L 0).B.length:Int) !=32) then (gJ,false) else (if ((gt i_.L 1).Kind !=1) then (gJ,false) else (({Seed:=(au 32 (gt i_.L 0).B),Counter:=(gt i_.L 1).N}:dD),true)))))))
def fx (x_:(List Int)):(av×Int):=
 (ab (gi x_) (fun (x1:(aa×Int))=>(if (x1.2 !=0) then (aT,3) else (ab (fO (x1.1) 4) (fun (x8:Bool)=>(if (!x8) then (aT,3) else (ab (fO (gt x1.1.L 0) 4) (fun (x15:Bool)=>(if (!x15) then (aT,3) else (if ((gt x1.1.L 1).Kind !=3) then (aT,3) else (if ((gt x1.1.L 2).Kind !=3) then (aT,3) else (ab (aN (gt x1.1.L 0)) (fun (x28:((List Int)×Int))=>(if (x28.2 !=0) then (aT,3) else (ah ((((gt x1.1.L 1).L.length:Int) - 0).toNat+1) (fun (ag39:(Int×av×List ay)→(av×Int)) (p39:Int×av×List ay)=>(if (decide (p39.1<((gt x1.1.L 1).L.length:Int))) then (ab (gM (gt (gt x1.1.L 1).L p39.1)) (fun (x43:(ay×Bool))=>(if (!x43.2) then (aT,3) else (ag39 ((p39.1+1),p39.2.1,(p39.2.2++([x43.1]:List ay))))))) else (ah ((((gt x1.1.L 2).L.length:Int) - 0).toNat+1) (fun (ag50:(Int×av×List aL)→(av×Int)) (p50:Int×av×List aL)=>(if (decide (p50.1<((gt x1.1.L 2).L.length:Int))) then (ab (dN (gt (gt x1.1.L 2).L p50.1)) (fun (x54:(aL×Int))=>(if (x54.2 !=0) then (aT,3) else (ag50 ((p50.1+1),p50.2.1,(p50.2.2++([x54.1]:List aL))))))) else (ab (jo (gt x1.1.L 3)) (fun (x62:(dD×Bool))=>(if (!x62.2) then (aT,3) else (({Bank:=(gt x28.1 0),U:=(gt x28.1 1),Key:=(gt x28.1 2),Next:=(gt x28.1 3),Holdings:=p39.2.2,Open:=p50.2.2,Source:=x62.1}:av),0)))))) (fun _=>default) (0,p39.2.1,([]:List aL))))) (fun _=>default) (0,aT,([]:List ay)))))))))))))))))
def lB (a_:cj) (b:cj):Bool:=
 (if (a_.U !=b.U) then false else (if (a_.S !=b.S) then false else (if ((a_.X.length:Int) !=(b.X.length:Int)) then false else (ah (((a_.X.length:Int) - 0).toNat+1) (fun (ag8:Int→Bool) (p8:Int)=>(if (decide (p8<(a_.X.length:Int))) then (if (!(fg (gt a_.X p8) (gt b.X p8))) then false else (ag8 (p8+1))) else true)) (fun _=>default) 0))))
def lC (p_:ga) (q:ga):Bool:=
 (if (p_.Index !=q.Index) then false else (if ((p_.L.length:Int) !=(q.L.length:Int)) then false else (ah (((p_.L.length:Int) - 0).toNat+1) (fun (ag6:Int→Bool) (p6:Int)=>(if (decide (p6<(p_.L.length:Int))) then (if (!(eo (gt p_.L p6) (gt q.L p6))) then false else (ag6 (p6+1))) else true)) (fun _=>default) 0)))
def iC (a_:aA) (b:aA):Bool:=
 (if (!(dE (a_.Coin) (b.Coin))) then false else (if (!(lf (a_.Node) (b.Node))) then false else (if (!(lg (a_.Context) (b.Context))) then false else (if ((a_.Leaves.length:Int) !=(b.Leaves.length:Int)) then false else (ab (lC (a_.Path) (b.Path)) (fun (x9:Bool)=>(if (!x9) then false else (ah (((a_.Leaves.length:Int) - 0).toNat+1) (fun (ag15:Int→Bool) (p15:Int)=>(if (decide (p15<(a_.Leaves.length:Int))) then (if (!(lh (gt a_.Leaves p15) (gt b.Leaves p15))) then false else (ag15 (p15+1))) else true)) (fun _=>default) 0))))))))
def kf (a_:ay) (b:ay):Bool:=
 (if (!(dE (a_.Coin) (b.Coin))) then false else (ab (lB (a_.Secret) (b.Secret)) (fun (x3:Bool)=>(if (!x3) then false else (if ((a_.Spent.length:Int) !=(b.Spent.length:Int)) then false else (if ((a_.Chain.length:Int) !=(b.Chain.length:Int)) then false else (ah (((a_.Spent.length:Int) - 0).toNat+1) (fun (ag13:Int→Bool) (p13:Int)=>(if (decide (p13<(a_.Spent.length:Int))) then (if ((gt a_.Spent p13) !=(gt b.Spent p13)) then false else (ag13 (p13+1))) else (ah (((a_.Chain.length:Int) - 0).toNat+1) (fun (ag22:Int→Bool) (p22:Int)=>(if (decide (p22<(a_.Chain.length:Int))) then (ab (iC (gt a_.Chain p22) (gt b.Chain p22)) (fun (x27:Bool)=>(if (!x27) then false else (ag22 (p22+1))))) else true)) (fun _=>default) 0))) (fun _=>default) 0)))))))
def gN (a_:aL) (b:aL):Bool:=
 (if ((a_.Secret.X.length:Int) !=(b.Secret.X.length:Int)) then false else (ah (((a_.Secret.X.length:Int) - 0).toNat+1) (fun (ag4:Int→Bool) (p4:Int)=>(if (decide (p4<(a_.Secret.X.length:Int))) then (if (!(fg (gt a_.Secret.X p4) (gt b.Secret.X p4))) then false else (ag4 (p4+1))) else (if (a_.Phase==b.Phase) then (if (a_.Number==b.Number) then (if (a_.Bank==b.Bank) then (if (a_.Epoch==b.Epoch) then (if (a_.Denom==b.Denom) then (if (a_.Depth==b.Depth) then (if (a_.Secret.U==b.Secret.U) then (if (a_.Secret.S==b.Secret.S) then (if (sO (a_.Factors) (b.Factors)) then (if (sP (a_.View) (b.View)) then (dE (a_.Coin) (b.Coin)) else false) else false) else false) else false) else false) else false) else false) else false) else false) else false))) (fun _=>default) 0))
def cr (a_:av) (b:av):Bool:=
 (if (a_.Bank !=b.Bank) then false else (if (a_.U !=b.U) then false else (if (a_.Key !=b.Key) then false else (if (a_.Next !=b.Next) then false else (if (!(li (a_.Source) (b.Source))) then false else (if ((a_.Holdings.length:Int) !=(b.Holdings.length:Int)) then false else (if ((a_.Open.length:Int) !=(b.Open.length:Int)) then false else (ah (((a_.Holdings.length:Int) - 0).toNat+1) (fun (ag16:Int→Bool) (p16:Int)=>(if (decide (p16<(a_.Holdings.length:Int))) then (ab (kf (gt a_.Holdings p16) (gt b.Holdings p16)) (fun (x21:Bool)=>(if (!x21) then false else (ag16 (p16+1))))) else (ah (((a_.Open.length:Int) - 0).toNat+1) (fun (ag28:Int→Bool) (p28:Int)=>(if (decide (p28<(a_.Open.length:Int))) then (ab (gN (gt a_.Open p28) (gt b.Open p28)) (fun (x33:Bool)=>(if (!x33) then false else (ag28 (p28+1))))) else true)) (fun _=>default) 0))) (fun _=>default) 0))))))))
def gO (b:(List Int)):Int:=
 (ah (((b.length:Int) - 0).toNat+1) (fun (ag1:(Int×Int)→Int) (p1:Int×Int)=>(if (decide (p1.2<(b.length:Int))) then (ag1 ((ak .u64 (aK .u64 256 p1.1) (ae .u64 (gt b p1.2))),(p1.2+1))) else p1.1)) (fun _=>default) (0,0))
def iD (b:(List Int)) (within:Int):(aa×(List Int)×Int):=
 (if ((b.length:Int)==0) then (bT,([]:List Int),4) else (im (fun (p5:Unit)=>(ab (gO (sl (sl b 1 (b.length:Int)) 0 4)) (fun (x6:Int)=>(if ((ae .i64 (gt b 0))==2) then (if (decide (((sl (sl b 1 (b.length:Int)) 4 ((sl b 1 (b.length:Int)).length:Int)).length:Int)<(ae .i64 x6))) then (bT,([]:List Int),4) else (({Kind:=(ae .i64 (gt b 0)),N:=0,B:=(([]:List Int)++(sl (sl (sl b 1 (b.length:Int)) 4 ((sl b 1 (b.length:Int)).length:Int)) 0 (ae .i64 x6))),L:=([]:List aa)}:aa),(sl (sl (sl b 1 (b.length:Int)) 4 ((sl b 1 (b.length:Int)).length:Int)) (ae .i64 x6) ((sl (sl b 1 (b.length:Int)) 4 ((sl b 1 (b.length:Int)).length:Int)).length:Int)),0)) else (if (decide ((ae .i64 x6)>1000)) then (bT,([]:List Int),3) else (ah (((ae .i64 x6) - 0).toNat+1) (fun (ag19:(List Int×Int×aa×List aa)→(aa×(List Int)×Int)) (p19:List Int×Int×aa×List aa)=>(if (decide (p19.2.1<(ae .i64 x6))) then (ab (ca (p19.1) (within+1)) (fun (x23:(aa×(List Int)×Int))=>(if (x23.2.2 !=0) then (bT,([]:List Int),x23.2.2) else (ag19 (x23.2.1,(p19.2.1+1),p19.2.2.1,(p19.2.2.2++([x23.1]:List aa))))))) else (({Kind:=(ae .i64 (gt b 0)),N:=0,B:=([]:List Int),L:=p19.2.2.2}:aa),p19.1,0))) (fun _=>default) ((sl (sl b 1 (b.length:Int)) 4 ((sl b 1 (b.length:Int)).length:Int)),0,bT,([]:List aa)))))))) (fun j5=>(if (decide ((ae .i64 (gt b 0))<1)) then (bT,([]:List Int),3) else (if (decide ((ae .i64 (gt b 0))>3)) then (bT,([]:List Int),3) else (if ((ae .i64 (gt b 0))==3) then (if (within==8) then (bT,([]:List Int),3) else (if ((ae .i64 (gt b 0))==1) then (if (decide (((sl b 1 (b.length:Int)).length:Int)<8)) then (bT,([]:List Int),4) else (if (decide (((sl b 1 (b.length:Int)).length:Int)<4)) then (bT,([]:List Int),4) else (if ((ae .i64 (gt b 0))==1) then (ab (gO (sl (sl b 1 (b.length:Int)) 0 8)) (fun (x49:Int)=>(({Kind:=(ae .i64 (gt b 0)),N:=(ae .i64 x49),B:=([]:List Int),L:=([]:List aa)}:aa),(sl (sl b 1 (b.length:Int)) 8 ((sl b 1 (b.length:Int)).length:Int)),0))) else (j5 ())))) else (if (decide (((sl b 1 (b.length:Int)).length:Int)<4)) then (bT,([]:List Int),4) else (if ((ae .i64 (gt b 0))==1) then (ab (gO (sl (sl b 1 (b.length:Int)) 0 8)) (fun (x60:Int)=>(({Kind:=(ae .i64 (gt b 0)),N:=(ae .i64 x60),B:=([]:List Int),L:=([]:List aa)}:aa),(sl (sl b 1 (b.length:Int)) 8 ((sl b 1 (b.length:Int)).length:Int)),0))) else (j5 ()))))) else (if ((ae .i64 (gt b 0))==1) then (if (decide (((sl b 1 (b.length:Int)).length:Int)<8)) then (bT,([]:List Int),4) else (if (decide (((sl b 1 (b.length:Int)).length:Int)<4)) then (bT,([]:List Int),4) else (if ((ae .i64 (gt b 0))==1) then (ab (gO (sl (sl b 1 (b.length:Int)) 0 8)) (fun (x74:Int)=>(({Kind:=(ae .i64 (gt b 0)),N:=(ae .i64 x74),B:=([]:List Int),L:=([]:List aa)}:aa),(sl (sl b 1 (b.length:Int)) 8 ((sl b 1 (b.length:Int)).length:Int)),0))) else (j5 ())))) else (if (decide (((sl b 1 (b.length:Int)).length:Int)<4)) then (bT,([]:List Int),4) else (if ((ae .i64 (gt b 0))==1) then (ab (gO (sl (sl b 1 (b.length:Int)) 0 8)) (fun (x85:Int)=>(({Kind:=(ae .i64 (gt b 0)),N:=(ae .i64 x85),B:=([]:List Int),L:=([]:List aa)}:aa),(sl (sl b 1 (b.length:Int)) 8 ((sl b 1 (b.length:Int)).length:Int)),0))) else (j5 ()))))))))))
def mM (b:(List Int)):(aa×Int):=
 (if (decide ((b.length:Int)>16384)) then (bT,5) else (ab (ca b 0) (fun (x4:(aa×(List Int)×Int))=>(if (x4.2.2 !=0) then (bT,x4.2.2) else (if (decide ((x4.2.1.length:Int)>0)) then (bT,3) else (x4.1,0))))))
def dF (i_:aa) (n_:Int):((List Int)×Bool):=
 (if (i_.Kind !=3) then (([]:List Int),false) else (if ((i_.L.length:Int) !=n_) then (([]:List Int),false) else (ah ((n_ - 0).toNat+1) (fun (ag6:(Int×List Int)→((List Int)×Bool)) (p6:Int×List Int)=>(if (decide (p6.1<n_)) then (if ((gt i_.L p6.1).Kind !=1) then (([]:List Int),false) else (ag6 ((p6.1+1),(p6.2++([(gt i_.L p6.1).N]:List Int))))) else (p6.2,true))) (fun _=>default) (0,([]:List Int)))))
def lD (i_:aa):((List Int)×Bool):=
 (if (i_.Kind !=2) then ([0,0,0,0,0,0,0,0,0,0,0,0,0,0,0,0,0,0,0,0,0,0,0,0,0,0,0,0,0,0,0,0],false) else (if ((i_.B.length:Int) !=32) then ([0,0,0,0,0,0,0,0,0,0,0,0,0,0,0,0,0,0,0,0,0,0,0,0,0,0,0,0,0,0,0,0],false) else (ah (((32:Int) - 0).toNat+1) (fun (ag6:(Int×(List Int))→((List Int)×Bool)) (p6:Int×(List Int))=>(if (decide (p6.1<32)) then (ag6 ((p6.1+1),(au 32 (st (au 32 p6.2) p6.1 (gt i_.B p6.1))))) else (p6.2,true))) (fun _=>default) (0,[0,0,0,0,0,0,0,0,0,0,0,0,0,0,0,0,0,0,0,0,0,0,0,0,0,0,0,0,0,0,0,0]))))
def mN (i_:aa):(br×Bool):=
 (if (i_.Kind !=3) then (cH,false) else (if ((i_.L.length:Int) !=3) then (cH,false) else (ab (dF (gt i_.L 0) 5) (fun (x7:((List Int)×Bool))=>(if (!x7.2) then (cH,false) else (ab (lD (gt i_.L 1)) (fun (x15:((List Int)×Bool))=>(if (!x15.2) then (cH,false) else (ab (dF (gt i_.L 2) 4) (fun (x22:((List Int)×Bool))=>(if (!x22.2) then (cH,false) else (({Bank:=(gt x7.1 0),Epoch:=(gt x7.1 1),Denom:=(gt x7.1 2),Depth:=(gt x7.1 3),A:=(gt x7.1 4),Root:=x15.1,Sign:=({Z:=(gt x22.1 0),A:=(gt x22.1 1),B:=(gt x22.1 2),R:=(gt x22.1 3)}:k8)}:br),true))))))))))))
def oq (x_:Int) (low:Int) (high:Int):Bool:=
 (if (decide (x_≥low)) then (decide (x_≤high)) else false)
def kg (i_:aa):(aA×Bool):=
 (if (i_.Kind !=3) then (bG,false) else (if ((i_.L.length:Int) !=6) then (bG,false) else (ab (mN (gt i_.L 0)) (fun (x7:(br×Bool))=>(if (!x7.2) then (bG,false) else (ab (dF (gt i_.L 1) 2) (fun (x14:((List Int)×Bool))=>(if (!x14.2) then (bG,false) else (ab (lD (gt i_.L 2)) (fun (x22:((List Int)×Bool))=>(if (!x22.2) then (bG,false) else (ab (dF (gt i_.L 3) 2) (fun (x29:((List Int)×Bool))=>(if (!x29.2) then (bG,false) else (if ((gt i_.L 4).Kind !=3) then (bG,false) else (if ((bJ .i64 ((gt i_.L 4).L.length:Int) 3) !=0) then (bG,false) else (ab (dF (gt i_.L 4) ((gt i_.L 4).L.length:Int)) (fun (x42:((List Int)×Bool))=>(if (!x42.2) then (bG,false) else (if ((gt i_.L 5).Kind !=3) then (bG,false) else (if (decide (((gt i_.L 5).L.length:Int)<1)) then (bG,false) else (if ((gt (gt i_.L 5).L 0).Kind !=1) then (bG,false) else (ah (((x42.1.length:Int) - 0).toNat+1) (fun (ag61:(Int×List bS)→(aA×Bool)) (p61:Int×List bS)=>(if (decide (p61.1<(x42.1.length:Int))) then (ag61 ((p61.1+3),(p61.2++([({B:=(gt x42.1 p61.1),R1:=(gt x42.1 (p61.1+1)),R2:=(gt x42.1 (p61.1+2))}:bS)]:List bS)))) else (ah ((((gt i_.L 5).L.length:Int) - 1).toNat+1) (fun (ag70:(Int×aA×List (List Int))→(aA×Bool)) (p70:Int×aA×List (List Int))=>(if (decide (p70.1<((gt i_.L 5).L.length:Int))) then (ab (lD (gt (gt i_.L 5).L p70.1)) (fun (x74:((List Int)×Bool))=>(if (!x74.2) then (bG,false) else (ag70 ((p70.1+1),p70.2.1,(p70.2.2++([x74.1]:List (List Int)))))))) else (({Coin:=x7.1,Node:=({Level:=(gt x14.1 0),Index:=(gt x14.1 1)}:jT),Context:=({Payee:=x22.1,Time:=(gt x29.1 0),Number:=(gt x29.1 1)}:iz),Leaves:=p61.2,Path:=({Index:=(gt (gt i_.L 5).L 0).N,L:=p70.2.2}:ga)}:aA),true))) (fun _=>default) (1,bG,([]:List (List Int)))))) (fun _=>default) (0,([]:List bS)))))))))))))))))))))))))
def lE (i_:aa):(ay×Bool):=
 (if (i_.Kind !=3) then (cw,false) else (if ((i_.L.length:Int) !=4) then (cw,false) else (if ((gt i_.L 1).Kind !=3) then (cw,false) else (if ((gt i_.L 2).Kind !=3) then (cw,false) else (if ((gt i_.L 3).Kind !=3) then (cw,false) else (ab (mN (gt i_.L 0)) (fun (x16:(br×Bool))=>(ab (dF (gt i_.L 1) ((gt i_.L 1).L.length:Int)) (fun (x19:((List Int)×Bool))=>(ab (dF (gt i_.L 2) ((gt i_.L 2).L.length:Int)) (fun (x22:((List Int)×Bool))=>(if (!x16.2) then (cw,false) else (if (!x19.2) then (cw,false) else (if (!x22.2) then (cw,false) else (if (decide ((x19.1.length:Int)<2)) then (cw,false) else (if ((bJ .i64 (x19.1.length:Int) 2) !=0) then (cw,false) else (ah (((x19.1.length:Int) - 2).toNat+1) (fun (ag38:(Int×List (List Int))→(ay×Bool)) (p38:Int×List (List Int))=>(if (decide (p38.1<(x19.1.length:Int))) then (ag38 ((p38.1+2),(p38.2++([[(gt x19.1 p38.1),(gt x19.1 (p38.1+1))]]:List (List Int))))) else (ah (((x22.1.length:Int) - 0).toNat+1) (fun (ag45:(Int×ay×List Bool)→(ay×Bool)) (p45:Int×ay×List Bool)=>(if (decide (p45.1<(x22.1.length:Int))) then (ab (oq (gt x22.1 p45.1) 0 1) (fun (x49:Bool)=>(if (!x49) then (cw,false) else (ag45 ((p45.1+1),p45.2.1,(p45.2.2++([((gt x22.1 p45.1)==1)]:List Bool))))))) else (ah ((((gt i_.L 3).L.length:Int) - 0).toNat+1) (fun (ag56:(Int×ay×List aA)→(ay×Bool)) (p56:Int×ay×List aA)=>(if (decide (p56.1<((gt i_.L 3).L.length:Int))) then (ab (kg (gt (gt i_.L 3).L p56.1)) (fun (x60:(aA×Bool))=>(if (!x60.2) then (cw,false) else (ag56 ((p56.1+1),p56.2.1,(p56.2.2++([x60.1]:List aA))))))) else (({Coin:=x16.1,Secret:=({U:=(gt x19.1 0),S:=(gt x19.1 1),X:=p38.2}:cj),Spent:=p45.2.2,Chain:=p56.2.2}:ay),true))) (fun _=>default) (0,p45.2.1,([]:List aA))))) (fun _=>default) (0,cw,([]:List Bool))))) (fun _=>default) (2,([]:List (List Int))))))))))))))))))))
def jp (i_:aa):((List Int)×Bool):=
 (if (i_.Kind !=3) then (([]:List Int),false) else (ah (((i_.L.length:Int) - 0).toNat+1) (fun (ag4:(Int×List Int)→((List Int)×Bool)) (p4:Int×List Int)=>(if (decide (p4.1<(i_.L.length:Int))) then (if ((gt i_.L p4.1).Kind !=1) then (([]:List Int),false) else (ag4 ((p4.1+1),(p4.2++([(gt i_.L p4.1).N]:List Int))))) else (p4.2,true))) (fun _=>default) (0,([]:List Int))))
def lF (i_:aa):(aL×Int):=
 (ab (mL i_) (fun (x1:Bool)=>(if (!x1) then (bw,1) else (if (i_.Kind !=3) then (bw,3) else (if ((i_.L.length:Int) !=5) then (bw,3) else (ab (jp (gt i_.L 0)) (fun (x14:((List Int)×Bool))=>(ab (jp (gt i_.L 1)) (fun (x19:((List Int)×Bool))=>(ab (jp (gt i_.L 2)) (fun (x24:((List Int)×Bool))=>(ab (jp (gt i_.L 3)) (fun (x29:((List Int)×Bool))=>(ab (mN (gt i_.L 4)) (fun (x34:(br×Bool))=>(if (!x14.2) then (bw,3) else (if (!x19.2) then (bw,3) else (if (!x24.2) then (bw,3) else (if (!x29.2) then (bw,3) else (if (!x34.2) then (bw,3) else (if ((x14.1.length:Int) !=6) then (bw,3) else (if (decide ((x19.1.length:Int)<2)) then (bw,3) else (if ((bJ .i64 (x19.1.length:Int) 2) !=0) then (bw,3) else (if ((x24.1.length:Int) !=3) then (bw,3) else (if ((x29.1.length:Int) !=6) then (bw,3) else (ah (((x19.1.length:Int) - 2).toNat+1) (fun (ag75:(Int×List (List Int))→(aL×Int)) (p75:Int×List (List Int))=>(if (decide (p75.1<(x19.1.length:Int))) then (ag75 ((p75.1+2),(p75.2++([[(gt x19.1 p75.1),(gt x19.1 (p75.1+1))]]:List (List Int))))) else (({Phase:=(gt x14.1 0),Number:=(gt x14.1 1),Bank:=(gt x14.1 2),Epoch:=(gt x14.1 3),Denom:=(gt x14.1 4),Depth:=(gt x14.1 5),Secret:=({U:=(gt x19.1 0),S:=(gt x19.1 1),X:=p75.2}:cj),Factors:=({S:=(gt x24.1 0),U:=(gt x24.1 1),V:=(gt x24.1 2)}:jU),View:=({M:=(gt x29.1 0),Z:=(gt x29.1 1),A:=(gt x29.1 2),B:=(gt x29.1 3),C:=(gt x29.1 4),R:=(gt x29.1 5)}:jV),Coin:=x34.1}:aL),0))) (fun _=>default) (2,([]:List (List Int)))))))))))))))))))))))))))))
def gj (b:(List Int)):(av×Bool):=
 (ab (mM b) (fun (x1:(aa×Int))=>(if (x1.2 !=0) then (aT,false) else (if (x1.1.Kind !=3) then (aT,false) else (if ((x1.1.L.length:Int) !=4) then (aT,false) else (if ((gt x1.1.L 1).Kind !=3) then (aT,false) else (if ((gt x1.1.L 2).Kind !=3) then (aT,false) else (ab (dF (gt x1.1.L 0) 4) (fun (x20:((List Int)×Bool))=>(if (!x20.2) then (aT,false) else (if ((gt x1.1.L 3).Kind !=3) then (aT,false) else (if (((gt x1.1.L 3).L.length:Int) !=2) then (aT,false) else (if ((gt (gt x1.1.L 3).L 1).Kind !=1) then (aT,false) else (ab (lD (gt (gt x1.1.L 3).L 0)) (fun (x36:((List Int)×Bool))=>(if (!x36.2) then (aT,false) else (ah ((((gt x1.1.L 1).L.length:Int) - 0).toNat+1) (fun (ag46:(Int×av×List ay)→(av×Bool)) (p46:Int×av×List ay)=>(if (decide (p46.1<((gt x1.1.L 1).L.length:Int))) then (ab (lE (gt (gt x1.1.L 1).L p46.1)) (fun (x50:(ay×Bool))=>(if (!x50.2) then (aT,false) else (ag46 ((p46.1+1),p46.2.1,(p46.2.2++([x50.1]:List ay))))))) else (ah ((((gt x1.1.L 2).L.length:Int) - 0).toNat+1) (fun (ag57:(Int×av×List aL)→(av×Bool)) (p57:Int×av×List aL)=>(if (decide (p57.1<((gt x1.1.L 2).L.length:Int))) then (ab (lF (gt (gt x1.1.L 2).L p57.1)) (fun (x61:(aL×Int))=>(if (x61.2 !=0) then (aT,false) else (ag57 ((p57.1+1),p57.2.1,(p57.2.2++([x61.1]:List aL))))))) else (({Bank:=(gt x20.1 0),U:=(gt x20.1 1),Key:=(gt x20.1 2),Next:=(gt x20.1 3),Holdings:=p46.2.2,Open:=p57.2.2,Source:=({Seed:=x36.1,Counter:=(gt (gt x1.1.L 3).L 1).N}:dD)}:av),true))) (fun _=>default) (0,p46.2.1,([]:List aL))))) (fun _=>default) (0,aT,([]:List ay)))))))))))))))))))
def gP (j:cy):Bool:=
 (if (decide ((j.Bytes.length:Int)≤1048576)) then (if (decide (j.Durable≥0)) then (if (decide (j.Durable≤(j.Bytes.length:Int))) then (if (decide (j.After≥(-1))) then (decide (j.After≤1099511627776)) else false) else false) else false) else false)
def fP (j:cy):(List (List Int)):=
 (ab (gP j) (fun (x1:Bool)=>(if (!x1) then ([]:List (List Int)) else (ah (((j.Bytes)).length+1) (fun (ag8:(List Int×List (List Int))→(List (List Int))) (p8:List Int×List (List Int))=>(if (decide ((p8.1.length:Int)≥36)) then (if (decide ((orI .i64 (orI .i64 (orI .i64 (ao .i64 (ae .i64 (gt p8.1 0)) 24) (ao .i64 (ae .i64 (gt p8.1 1)) 16)) (ao .i64 (ae .i64 (gt p8.1 2)) 8)) (ae .i64 (gt p8.1 3)))>16384)) then p8.2 else (if (decide ((p8.1.length:Int)<(ak .i64 36 (orI .i64 (orI .i64 (orI .i64 (ao .i64 (ae .i64 (gt p8.1 0)) 24) (ao .i64 (ae .i64 (gt p8.1 1)) 16)) (ao .i64 (ae .i64 (gt p8.1 2)) 8)) (ae .i64 (gt p8.1 3)))))) then p8.2 else (ab (lr (sl p8.1 36 (ak .i64 36 (orI .i64 (orI .i64 (orI .i64 (ao .i64 (ae .i64 (gt p8.1 0)) 24) (ao .i64 (ae .i64 (gt p8.1 1)) 16)) (ao .i64 (ae .i64 (gt p8.1 2)) 8)) (ae .i64 (gt p8.1 3)))))) (fun (x20:(List Int))=>(if (!(eo x20 (au 32 (sl p8.1 4 36)))) then p8.2 else (ab (qh (sl p8.1 36 (ak .i64 36 (orI .i64 (orI .i64 (orI .i64 (ao .i64 (ae .i64 (gt p8.1 0)) 24) (ao .i64 (ae .i64 (gt p8.1 1)) 16)) (ao .i64 (ae .i64 (gt p8.1 2)) 8)) (ae .i64 (gt p8.1 3)))))) (fun (x26:(List Int))=>(ag8 ((sl p8.1 (ak .i64 36 (orI .i64 (orI .i64 (orI .i64 (ao .i64 (ae .i64 (gt p8.1 0)) 24) (ao .i64 (ae .i64 (gt p8.1 1)) 16)) (ao .i64 (ae .i64 (gt p8.1 2)) 8)) (ae .i64 (gt p8.1 3)))) (p8.1.length:Int)),(p8.2++([x26]:List (List Int)))))))))))) else p8.2)) (fun _=>default) (j.Bytes,([]:List (List Int)))))))
def iE (j:cy):(av×Int):=
 (ab (fP j) (fun (x1:(List (List Int)))=>(eX (fL x1) (fun (ag5:(av×Int)→(av×Int)) (y5:Int×List Int) (p5:av×Int)=>(ab (fx (y5.2)) (fun (x6:(av×Int))=>(if (x6.2==0) then (x6.1,0) else (ag5 (p5.1,p5.2)))))) (fun (p5:av×Int)=>(aT,7)) (aT,0))))
def fQ (j:cy):Bool:=
 (if (decide ((j.Bytes.length:Int)≤1048576)) then (if (decide (j.Durable≥0)) then (if (decide (j.Durable≤(j.Bytes.length:Int))) then (if (decide (j.After≥(-1))) then (decide (j.After≤1099511627776)) else false) else false) else false) else false)
def iF (p_:av):Bool:=
 (ab (cr p_ aT) (fun (x1:Bool)=>x1))
def lG (b:(List Int)) (n_:Int):(List Int):=
 (ah ((n_ - 0).toNat+1) (fun (ag1:(Int×List Int)→(List Int)) (p1:Int×List Int)=>(if (decide (p1.1<n_)) then (ag1 ((p1.1+1),(p1.2++([(gt b p1.1)]:List Int)))) else p1.2)) (fun _=>default) (0,([]:List Int)))
def mO:(List Int):=
 ([1116352408,1899447441,3049323471,3921009573,961987163,1508970993,2453635748,2870763221,3624381080,310598401,607225278,1426881987,1925078388,2162078206,2614888103,3248222580,3835390401,4022224774,264347078,604807628,770255983,1249150122,1555081692,1996064986,2554220882,2821834349,2952996808,3210313671,3336571891,3584528711,113926993,338241895,666307205,773529912,1294757372,1396182291,1695183700,1986661051,2177026350,2456956037,2730485921,2820302411,3259730800,3345764771,3516065817,3600352804,4094571909,275423344,430227734,506948616,659060556,883997877,958139571,1322822218,1537002063,1747873779,1955562222,2024104815,2227730452,2361852424,2428436474,2756734187,3204031479,3329325298]:List Int)
def lH (n_:Int):(List Int):=
 (ah (((7+1):Int).toNat+1) (fun (ag1:(Int×List Int)→(List Int)) (p1:Int×List Int)=>(if (decide (p1.1≥0)) then (ag1 ((p1.1 - 1),(p1.2++([(ae .u8 (ar .i64 n_ (8*p1.1)))]:List Int)))) else p1.2)) (fun _=>default) (7,([]:List Int)))
def jq (b:(List Int)):(List Int):=
 (ah (((56 - ((((([]:List Int)++b)++([128]:List Int))).length:Int))% 64).toNat+1) (fun (ag1:(List Int)→(List Int)) (p1:List Int)=>(if ((bJ .i64 (p1.length:Int) 64) !=56) then (ag1 (p1++([0]:List Int))) else (ab (lH (aK .i64 8 (b.length:Int))) (fun (x5:(List Int))=>(p1++x5))))) (fun _=>default) ((([]:List Int)++b)++([128]:List Int)))
def dO (x_:Int) (n_:Int):Int:=
 (orI .u32 (ar .u32 x_ n_) (ao .u32 x_ (32 - n_)))
def lI (b:(List Int)):(List Int):=
 (ah (((16:Int) - 0).toNat+1) (fun (ag1:(Int×List Int)→(List Int)) (p1:Int×List Int)=>(if (decide (p1.1<16)) then (ah (((4:Int) - 0).toNat+1) (fun (ag4:(Int×Int)→(List Int)) (p4:Int×Int)=>(if (decide (p4.2<4)) then (ag4 ((ak .u32 (aK .u32 p4.1 256) (ae .u32 (gt b ((4*p1.1)+p4.2)))),(p4.2+1))) else (ag1 ((p1.1+1),(p1.2++([p4.1]:List Int)))))) (fun _=>default) (0,0)) else (ah (((64:Int) - 16).toNat+1) (fun (ag12:(Int×List Int)→(List Int)) (p12:Int×List Int)=>(if (decide (p12.1<64)) then (ab (dO (gt p12.2 (p12.1 - 15)) 7) (fun (x19:Int)=>(ab (dO (gt p12.2 (p12.1 - 15)) 18) (fun (x22:Int)=>(ab (dO (gt p12.2 (p12.1 - 2)) 17) (fun (x25:Int)=>(ab (dO (gt p12.2 (p12.1 - 2)) 19) (fun (x28:Int)=>(ag12 ((p12.1+1),(p12.2++([(ak .u32 (ak .u32 (ak .u32 (gt p12.2 (p12.1 - 16)) (aU .u32 (aU .u32 x19 x22) (ar .u32 (gt p12.2 (p12.1 - 15)) 3))) (gt p12.2 (p12.1 - 7))) (aU .u32 (aU .u32 x25 x28) (ar .u32 (gt p12.2 (p12.1 - 2)) 10)))]:List Int)))))))))))) else p12.2)) (fun _=>default) (16,p1.2)))) (fun _=>default) (0,([]:List Int)))
def kh (b:(List Int)):(List Int):=
 (ab (mO) (fun (x1:(List Int))=>(ab (jq b) (fun (x5:(List Int))=>(ah (((x5.length:Int) - 0).toNat+1) (fun (ag9:(Int×List Int)→(List Int)) (p9:Int×List Int)=>(if (decide (p9.1<(x5.length:Int))) then (ab (lI (sl x5 p9.1 (p9.1+64))) (fun (x13:(List Int))=>(ah (((64:Int) - 0).toNat+1) (fun (ag17:(Int×List Int)→(List Int)) (p17:Int×List Int)=>(if (decide (p17.1<64)) then (ab (dO (gt p17.2 4) 6) (fun (x22:Int)=>(ab (dO (gt p17.2 4) 11) (fun (x24:Int)=>(ab (dO (gt p17.2 4) 25) (fun (x26:Int)=>(ab (dO (gt p17.2 0) 2) (fun (x33:Int)=>(ab (dO (gt p17.2 0) 13) (fun (x35:Int)=>(ab (dO (gt p17.2 0) 22) (fun (x37:Int)=>(ag17 ((p17.1+1),([(ak .u32 (ak .u32 (ak .u32 (ak .u32 (ak .u32 (gt p17.2 7) (aU .u32 (aU .u32 x22 x24) x26)) (aU .u32 (aX .u32 (gt p17.2 4) (gt p17.2 5)) (aX .u32 (fk .u32 (gt p17.2 4)) (gt p17.2 6)))) (gt x1 p17.1)) (gt x13 p17.1)) (ak .u32 (aU .u32 (aU .u32 x33 x35) x37) (aU .u32 (aU .u32 (aX .u32 (gt p17.2 0) (gt p17.2 1)) (aX .u32 (gt p17.2 0) (gt p17.2 2))) (aX .u32 (gt p17.2 1) (gt p17.2 2))))),(gt p17.2 0),(gt p17.2 1),(gt p17.2 2),(ak .u32 (gt p17.2 3) (ak .u32 (ak .u32 (ak .u32 (ak .u32 (gt p17.2 7) (aU .u32 (aU .u32 x22 x24) x26)) (aU .u32 (aX .u32 (gt p17.2 4) (gt p17.2 5)) (aX .u32 (fk .u32 (gt p17.2 4)) (gt p17.2 6)))) (gt x1 p17.1)) (gt x13 p17.1))),(gt p17.2 4),(gt p17.2 5),(gt p17.2 6)]:List Int))))))))))))))) else (ah (((8:Int) - 0).toNat+1) (fun (ag43:(Int×List Int)→(List Int)) (p43:Int×List Int)=>(if (decide (p43.1<8)) then (ag43 ((p43.1+1),(st p43.2 p43.1 (ak .u32 (gt p43.2 p43.1) (gt p17.2 p43.1))))) else (ag9 ((p9.1+64),p43.2)))) (fun _=>default) (0,p9.2)))) (fun _=>default) (0,(([]:List Int)++p9.2))))) else (ah (((32:Int) - 0).toNat+1) (fun (ag51:(Int×(List Int))→(List Int)) (p51:Int×(List Int))=>(if (decide (p51.1<32)) then (ag51 ((p51.1+1),(au 32 (st (au 32 p51.2) p51.1 (ae .u8 (ar .u32 (gt p9.2 (p51.1/4)) (24 - (8*(p51.1% 4))))))))) else p51.2)) (fun _=>default) (0,[0,0,0,0,0,0,0,0,0,0,0,0,0,0,0,0,0,0,0,0,0,0,0,0,0,0,0,0,0,0,0,0])))) (fun _=>default) (0,([1779033703,3144134277,1013904242,2773480762,1359893119,2600822924,528734635,1541459225]:List Int)))))))
def qo (j:cy):(List (List Int)):=
 (ab (fQ j) (fun (x1:Bool)=>(if (!x1) then ([]:List (List Int)) else (ah (((j.Bytes)).length+1) (fun (ag8:(List Int×List (List Int))→(List (List Int))) (p8:List Int×List (List Int))=>(if (decide ((p8.1.length:Int)≥36)) then (if (decide ((orI .i64 (orI .i64 (orI .i64 (ao .i64 (ae .i64 (gt p8.1 0)) 24) (ao .i64 (ae .i64 (gt p8.1 1)) 16)) (ao .i64 (ae .i64 (gt p8.1 2)) 8)) (ae .i64 (gt p8.1 3)))>16384)) then p8.2 else (if (decide ((p8.1.length:Int)<(ak .i64 36 (orI .i64 (orI .i64 (orI .i64 (ao .i64 (ae .i64 (gt p8.1 0)) 24) (ao .i64 (ae .i64 (gt p8.1 1)) 16)) (ao .i64 (ae .i64 (gt p8.1 2)) 8)) (ae .i64 (gt p8.1 3)))))) then p8.2 else (ab (lG (sl p8.1 36 (p8.1.length:Int)) (orI .i64 (orI .i64 (orI .i64 (ao .i64 (ae .i64 (gt p8.1 0)) 24) (ao .i64 (ae .i64 (gt p8.1 1)) 16)) (ao .i64 (ae .i64 (gt p8.1 2)) 8)) (ae .i64 (gt p8.1 3)))) (fun (x20:(List Int))=>(ab (kh x20) (fun (x24:(List Int))=>(ah (((32:Int) - 0).toNat+1) (fun (ag27:Int→(List (List Int))) (p27:Int)=>(if (decide (p27<32)) then (if ((gt p8.1 (4+p27)) !=(gt x24 p27)) then p8.2 else (ag27 (p27+1))) else (ag8 ((sl p8.1 (ak .i64 36 (orI .i64 (orI .i64 (orI .i64 (ao .i64 (ae .i64 (gt p8.1 0)) 24) (ao .i64 (ae .i64 (gt p8.1 1)) 16)) (ao .i64 (ae .i64 (gt p8.1 2)) 8)) (ae .i64 (gt p8.1 3)))) (p8.1.length:Int)),(p8.2++([x20]:List (List Int))))))) (fun _=>default) 0))))))) else p8.2)) (fun _=>default) (j.Bytes,([]:List (List Int)))))))
def iG (j:cy):(av×Bool):=
 (ab (qo j) (fun (x1:(List (List Int)))=>(ah (((az .i64 (x1.length:Int) 1)+1).toNat+1) (fun (ag4:(Int×av)→(av×Bool)) (p4:Int×av)=>(if (decide (p4.1≥0)) then (ab (gj (gt x1 p4.1)) (fun (x8:(av×Bool))=>(if x8.2 then (x8.1,true) else (ag4 ((az .i64 p4.1 1),p4.2))))) else (aT,false))) (fun _=>default) ((az .i64 (x1.length:Int) 1),aT))))
def tl (p_:av) (x_:(List Int)) (j:cy):Bool:=
 (ab (tf) (fun (x1:Bool)=>(if (!x1) then false else (ab (mK p_) (fun (x7:Bool)=>(if x7 then true else (if (decide ((x_.length:Int)>20000)) then true else (if (decide ((j.Bytes.length:Int)>20000)) then true else (ab (lv p_) (fun (x16:((List Int)×Int))=>(ab (qn p_) (fun (x19:((List Int)×Bool))=>(if (x19.2 !=(x16.2==0)) then false else (if x19.2 then (ab (tk (x16.1) (x19.1)) (fun (x26:Bool)=>(if (!x26) then false else (ab (fx (x16.1)) (fun (x31:(av×Int))=>(if (x31.2 !=0) then false else (ab (cr (x31.1) p_) (fun (x36:Bool)=>(if (!x36) then false else (ab (fx x_) (fun (x42:(av×Int))=>(ab (gj x_) (fun (x45:(av×Bool))=>(if (x45.2 !=(x42.2==0)) then false else (if (!x45.2) then (if (x42.2 !=3) then false else (ab (cr (x42.1) (x45.1)) (fun (x54:Bool)=>(if (!x54) then false else (ab (iE j) (fun (x60:(av×Int))=>(ab (fQ j) (fun (x63:Bool)=>(if (!x63) then (if (x60.2==7) then (ab (iF (x60.1)) (fun (x71:Bool)=>x71)) else false) else (ab (iG j) (fun (x76:(av×Bool))=>(if (x76.2==(x60.2==0)) then (if x76.2 then (ab (cr (x60.1) (x76.1)) (fun (x90:Bool)=>x90)) else (if (x60.2==7) then (ab (cr (x60.1) (x76.1)) (fun (x85:Bool)=>x85)) else false)) else false)))))))))))) else (ab (cr (x42.1) (x45.1)) (fun (x96:Bool)=>(if (!x96) then false else (ab (iE j) (fun (x102:(av×Int))=>(ab (fQ j) (fun (x105:Bool)=>(if (!x105) then (if (x102.2==7) then (ab (iF (x102.1)) (fun (x113:Bool)=>x113)) else false) else (ab (iG j) (fun (x118:(av×Bool))=>(if (x118.2==(x102.2==0)) then (if x118.2 then (ab (cr (x102.1) (x118.1)) (fun (x132:Bool)=>x132)) else (if (x102.2==7) then (ab (cr (x102.1) (x118.1)) (fun (x127:Bool)=>x127)) else false)) else false)))))))))))))))))))))))))) else (if (x16.2 !=5) then false else (if ((x16.1.length:Int) !=0) then false else (ab (fx x_) (fun (x145:(av×Int))=>(ab (gj x_) (fun (x148:(av×Bool))=>(if (x148.2 !=(x145.2==0)) then false else (if (!x148.2) then (if (x145.2 !=3) then false else (ab (cr (x145.1) (x148.1)) (fun (x157:Bool)=>(if (!x157) then false else (ab (iE j) (fun (x163:(av×Int))=>(ab (fQ j) (fun (x166:Bool)=>(if (!x166) then (if (x163.2==7) then (ab (iF (x163.1)) (fun (x174:Bool)=>x174)) else false) else (ab (iG j) (fun (x179:(av×Bool))=>(if (x179.2==(x163.2==0)) then (if x179.2 then (ab (cr (x163.1) (x179.1)) (fun (x193:Bool)=>x193)) else (if (x163.2==7) then (ab (cr (x163.1) (x179.1)) (fun (x188:Bool)=>x188)) else false)) else false)))))))))))) else (ab (cr (x145.1) (x148.1)) (fun (x199:Bool)=>(if (!x199) then false else (ab (iE j) (fun (x205:(av×Int))=>(ab (fQ j) (fun (x208:Bool)=>(if (!x208) then (if (x205.2==7) then (ab (iF (x205.1)) (fun (x216:Bool)=>x216)) else false) else (ab (iG j) (fun (x221:(av×Bool))=>(if (x221.2==(x205.2==0)) then (if x221.2 then (ab (cr (x205.1) (x221.1)) (fun (x235:Bool)=>x235)) else (if (x205.2==7) then (ab (cr (x205.1) (x221.1)) (fun (x230:Bool)=>x230)) else false)) else false)))))))))))))))))))))))))))))))))
end Go.Proofs.YtiknkaadhomeiaaGreatDoor
namespace Go.Proofs.YtiknkaadhomeiaaGreatDoor
open Go.RowKit
theorem w64 (a:Int):IntKind.wrap .u64 a=a% 18446744073709551616:=by simp [IntKind.wrap,IntKind.bits,IntKind.signed]
theorem ot {k:IntKind} {x:Int} {n:Int} {m:Nat} (hn:min n.toNat k.bits=m):ar k x n=x/2^m:=by
 unfold ar;rw [hn,Int.fdiv_eq_ediv_of_nonneg];exact Int.le_of_lt (Int.pow_pos (by decide))
theorem lJ (x:Int):ar .u64 x 32=x/4294967296:=ot (m:=32) rfl
theorem JA (x:Int):ar .u64 x 58=x/288230376151711744:=ot (m:=58) rfl
theorem cV (x:Int):ar .u64 x 1=x/2:=ot (m:=1) rfl
theorem cX (x:Int):ar .i64 x 1=x/2:=ot (m:=1) rfl
theorem BK {x:Int}:0≤ar .u64 (aK .u64 x 285870213051353865) 58∧ar .u64 (aK .u64 x 285870213051353865) 58<64:=by
 rw [JA];unfold aK;rw [w64];omega
def JB (x:Int) (l:Nat):Prop:=1≤l∧(2:Int)^(l - 1)≤x∧x<2^l
theorem JC (x:Nat):1≤x→x<2^64→1≤Lib.bitLen x∧2^(Lib.bitLen x - 1)≤x∧x<2^Lib.bitLen x:=by
 induction x using Nat.strongRecOn with
 | ind x ih=>
  intro h0 h1
  by_cases h:x=1
  ·subst h;decide
  ·obtain ⟨a1,a2,a3⟩:=ih (x/2) (by omega) (by omega) (by omega)
   rw [Lib.bitLen_half x (by omega) h1]
   generalize Lib.bitLen (x/2)=l at a1 a2 a3
   obtain ⟨l,rfl⟩: ∃k,l=k+1:=⟨l - 1,by omega⟩
   refine ⟨by omega,?_,?_⟩
   ·rw [show 1+(l+1) - 1=l+1 by omega,Nat.pow_succ]
    simp only [Nat.add_sub_cancel] at a2
    omega
   ·rw [show 1+(l+1)=(l+1)+1 by omega,Nat.pow_succ]
    omega
theorem JD {x:Int} (h0:1≤x) (h1:x≤18446744073709551615): ∃l:Nat,sZ x=l∧JB x l∧l≤64:=by
 obtain ⟨k,rfl⟩:=Int.eq_ofNat_of_zero_le (show 0≤x by omega)
 have hk:k<2^64:=by omega
 obtain ⟨a1,a2,a3⟩:=JC k (by omega) hk
 exact ⟨Lib.bitLen k,rfl,⟨a1,by exact_mod_cast a2,by exact_mod_cast a3⟩,Lib.bitLen_le k 64 (by decide) hk⟩
theorem BL {x y:Int} (hx:x=mG y) (h0:1≤y) (h1:y≤18446744073709551615):0≤x∧x≤63∧9223372036854775808≤ao .u64 y (ae .u64 x)∧ao .u64 y (ae .u64 x)=y*2^x.toNat:=by
 obtain ⟨l,e1,⟨e2,e3,e4⟩,e5⟩:=JD h0 h1
 have hx2:x=64 - (l:Int):=by
  rw [hx];unfold mG ab;rw [e1];simp only;unfold az;rw [IntKind.wrap_i64];omega
 have hc:ae .u64 x=x:=nO (by omega) (by omega)
 have hn:x.toNat=64 - l:=by omega
 have hm:min (ae .u64 x).toNat IntKind.u64.bits=64 - l:=by rw [hc,hn];show min (64 - l) 64=_;omega
 have hp:(2:Int)^l*2^(64 - l)=18446744073709551616:=by rw [←Int.pow_add,show l+(64 - l)=64 by omega];decide
 have hq:(2:Int)^(l - 1)*2^(64 - l)=9223372036854775808:=by rw [←Int.pow_add,show l - 1+(64 - l)=63 by omega];decide
 have h2:(0:Int)<2^(64 - l):=Int.pow_pos (by decide)
 have g1:=Int.mul_le_mul_of_nonneg_right e3 (Int.le_of_lt h2)
 have g2:=Int.mul_lt_mul_of_pos_right e4 h2
 rw [hp] at g2;rw [hq] at g1
 have e:ao .u64 y (ae .u64 x)=y*2^x.toNat:=by
  unfold ao;rw [hm,w64,hn];exact Int.emod_eq_of_lt (by omega) g2
 exact ⟨by omega,by omega,by rw [e,hn];exact g1,e⟩
theorem qp {x:Int} (h0:0≤x) (h1:x≤18446744073709551615):aX .u64 x 4294967295=x% 4294967296:=by
 obtain ⟨k,rfl⟩:=Int.eq_ofNat_of_zero_le h0
 unfold aX
 have e1:(BitVec.ofInt IntKind.u64.bits (k:Int)).toNat=k:=by
  show (BitVec.ofInt 64 (k:Int)).toNat=k
  rw [BitVec.toNat_ofInt];omega
 have e2:(BitVec.ofInt IntKind.u64.bits 4294967295).toNat=2^32 - 1:=by decide
 rw [BitVec.toNat_and,e1,e2,Nat.and_two_pow_sub_one_eq_mod,w64]
 omega
theorem ou {a b A:Int} (h1:0≤a) (h2:a≤A) (h3:0≤b) (h4:b≤A):0≤a*b∧a*b≤A*A:=
 ⟨Int.mul_nonneg h1 h3,Int.mul_le_mul h2 h4 h3 (Int.le_trans h1 h2)⟩
theorem dP {a:Int} (h0:0≤a) (h1:a≤18446744073709551615):IntKind.wrap .u64 a=a:=by rw [w64];omega
theorem BM {x y:Int} (hx0:0≤x) (hx1:x≤18446744073709551615) (hy0:0≤y) (hy1:y≤18446744073709551615):lm x y=(x*y/18446744073709551616,x*y% 18446744073709551616):=by
 unfold lm
 rw [qp hx0 hx1,qp hy0 hy1,lJ x,lJ y]
 obtain ⟨x1,x0,rfl,h1,h2,h3,h4⟩: ∃x1 x0:Int,x=x1*4294967296+x0∧0≤x1∧x1≤4294967295∧0≤x0∧x0≤4294967295:=⟨x/4294967296,x% 4294967296,by omega,by omega,by omega,by omega,by omega⟩
 obtain ⟨y1,y0,rfl,g1,g2,g3,g4⟩: ∃y1 y0:Int,y=y1*4294967296+y0∧0≤y1∧y1≤4294967295∧0≤y0∧y0≤4294967295:=⟨y/4294967296,y% 4294967296,by omega,by omega,by omega,by omega,by omega⟩
 rw [show (x1*4294967296+x0)/4294967296=x1 by omega,show (y1*4294967296+y0)/4294967296=y1 by omega,show (x1*4294967296+x0)% 4294967296=x0 by omega,show (y1*4294967296+y0)% 4294967296=y0 by omega]
 have ea:=ou h1 h2 g1 g2
 have eb:=ou h1 h2 g3 g4
 have ec:=ou h3 h4 g1 g2
 have ed:=ou h3 h4 g3 g4
 have ex:(x1*4294967296+x0)*(y1*4294967296+y0)=x1*y1*18446744073709551616+(x1*y0+x0*y1)*4294967296+x0*y0:=by
  simp only [Int.add_mul,Int.mul_add]
  rw [show x1*4294967296*(y1*4294967296)=x1*y1*18446744073709551616 by rw [Int.mul_assoc,Int.mul_comm 4294967296 (y1*4294967296),Int.mul_assoc y1,←Int.mul_assoc];rfl,show x1*4294967296*y0=x1*y0*4294967296 by rw [Int.mul_assoc,Int.mul_comm 4294967296,←Int.mul_assoc],show x0*(y1*4294967296)=x0*y1*4294967296 by rw [Int.mul_assoc]]
  omega
 have em:aK .u64 (x1*4294967296+x0) (y1*4294967296+y0)=((x1*4294967296+x0)*(y1*4294967296+y0))% 18446744073709551616:=by unfold aK;rw [w64]
 have ma:aK .u64 x1 y1=x1*y1:=dP ea.1 (by omega)
 have mb:aK .u64 x1 y0=x1*y0:=dP eb.1 (by omega)
 have mc:aK .u64 x0 y1=x0*y1:=dP ec.1 (by omega)
 have md:aK .u64 x0 y0=x0*y0:=dP ed.1 (by omega)
 rw [em,ex,ma,mb,mc,md]
 generalize x1*y1=a at ea
 generalize x1*y0=b at eb
 generalize x0*y1=c at ec
 generalize x0*y0=d at ed
 rw [lJ d]
 have t1:ak .u64 b (d/4294967296)=b+d/4294967296:=dP (by omega) (by omega)
 rw [t1,lJ (b+d/4294967296),qp (by omega) (by omega)]
 have t2:ak .u64 ((b+d/4294967296)% 4294967296) c=(b+d/4294967296)% 4294967296+c:=dP (by omega) (by omega)
 rw [t2,lJ]
 have hxy:a*18446744073709551616+(b+c)*4294967296+d≤18446744073709551615*18446744073709551615:=by
  have:=(ou hx0 hx1 hy0 hy1).2
  omega
 have t3:ak .u64 a ((b+d/4294967296)/4294967296)=a+(b+d/4294967296)/4294967296:=dP (by omega) (by omega)
 rw [t3]
 have t4:ak .u64 (a+(b+d/4294967296)/4294967296) (((b+d/4294967296)% 4294967296+c)/4294967296)=a+(b+d/4294967296)/4294967296+((b+d/4294967296)% 4294967296+c)/4294967296:=dP (by omega) (by omega)
 rw [t4]
 congr 1
 omega
theorem JE {x y:Int} (hx:x=mG y) (h0:1≤y) (h1:y≤18446744073709551615):0≤x∧x≤63∧0≤ae .u64 x∧0≤az .u64 64 (ae .u64 x)∧2147483648≤ar .u64 (ao .u64 y (ae .u64 x)) 32∧ar .u64 (ao .u64 y (ae .u64 x)) 32≤4294967295:=by
 obtain ⟨a1,a2,a3,a4⟩:=BL hx h0 h1
 have h2:ao .u64 y (ae .u64 x)≤18446744073709551615:=(qL .u64 _ _).2
 refine ⟨a1,a2,nD _,(oS .u64 _ _).1,?_,?_⟩<;>rw [lJ]<;>omega
theorem xj {u d:Int} (h0:0≤u) (h1:u≤18446744073709551615) (hd:1≤d):az .u64 u (aK .u64 (cc .u64 u d) d)=u% d∧cc .u64 u d=u/d∧0≤u% d∧u% d<d:=by
 have e1:u.tdiv d=u/d:=Int.tdiv_eq_ediv_of_nonneg h0
 have e2:u/d≤u:=Int.ediv_le_self _ h0
 have e3:0≤u/d:=Int.ediv_nonneg h0 (by omega)
 have e4:=Int.mul_ediv_add_emod u d
 have e5:=Int.emod_nonneg u (show d≠0 by omega)
 have e6:=Int.emod_lt_of_pos u (show 0<d by omega)
 have e7:cc .u64 u d=u/d:=by unfold cc;rw [e1];exact dP e3 (by omega)
 have e8:0≤u/d*d:=Int.mul_nonneg e3 (by omega)
 rw [Int.mul_comm] at e4
 have e9:aK .u64 (u/d) d=u/d*d:=dP e8 (by omega)
 refine ⟨?_,e7,e5,e6⟩
 rw [e7,e9];exact (dP (by omega) (by omega)).trans (by omega)
theorem JF {y1 y0 u a q r:Int} (ha1:a<4294967296) (hy0:0≤y0) (hu:u<y1*4294967296+y0) (hu0:0≤u) (hi:q*y1+r=u) (hr:0≤r) (ha:0≤a) (ht:q≥4294967296∨(q*y0>4294967296*r+a)):
  u*4294967296+a<q*(y1*4294967296+y0)∧1≤q:=by
 have e:q*(y1*4294967296+y0)=q*y1*4294967296+q*y0:=by rw [Int.mul_add,Int.mul_assoc]
 rcases ht with h|h
 ·refine ⟨?_,by omega⟩
  have h1:=Int.mul_le_mul_of_nonneg_right h (show 0≤y1*4294967296+y0 by omega)
  omega
 ·refine ⟨by omega,?_⟩
  refine Int.not_lt.1 fun hq=> ?_
  have:=Int.mul_nonneg (show 0≤ -q by omega) hy0
  rw [Int.neg_mul] at this
  omega
theorem JG {y1 y0 u a q r:Int} (hi:q*y1+r=u) (ht:q*y0≤4294967296*r+a):q*(y1*4294967296+y0)≤u*4294967296+a:=by
 have e:q*(y1*4294967296+y0)=q*y1*4294967296+q*y0:=by rw [Int.mul_add,Int.mul_assoc]
 omega
theorem JH {y1 y0 u a q r:Int} (ha:0≤a) (hi:q*y1+r=u) (hr:r≥4294967296) (hq:q≤4294967296) (hy0:0≤y0) (hy01:y0<4294967296):q*(y1*4294967296+y0)≤u*4294967296+a:=by
 have e:q*(y1*4294967296+y0)=q*y1*4294967296+q*y0:=by rw [Int.mul_add,Int.mul_assoc]
 have h1:=Int.mul_le_mul_of_nonneg_right hq hy0
 omega
def Dg (y1 y0 u a q:Int):Prop:=q*(y1*4294967296+y0)≤u*4294967296+a∧u*4294967296+a<(q+1)*(y1*4294967296+y0)
def DgI (y1 y0 u a:Int) (p:Int×Int):Prop:=p.1*y1+p.2=u∧0≤p.2∧p.2<4294967296∧0≤p.1∧p.1≤4294967297∧u*4294967296+a<(p.1+1)*(y1*4294967296+y0)
theorem BN {y1 y0 u a:Int} (hy1:2147483648≤y1) (hy11:y1<4294967296) (hy0:0≤y0) (hy01:y0<4294967296) (hu0:0≤u) (hu:u<y1*4294967296+y0) (ha:0≤a) (ha1:a<4294967296):DgI y1 y0 u a (u/y1,u% y1):=by
 have e4:=Int.mul_ediv_add_emod u y1
 have e5:=Int.emod_nonneg u (show y1≠0 by omega)
 have e6:=Int.emod_lt_of_pos u (show 0<y1 by omega)
 have e3:0≤u/y1:=Int.ediv_nonneg hu0 (by omega)
 have e7:u/y1≤4294967297:=by
  have:u/y1<4294967298:=(Int.ediv_lt_iff_lt_mul (by omega)).2 (by omega)
  omega
 rw [Int.mul_comm] at e4
 refine ⟨e4,e5,by show u% y1<_;omega,e3,e7,?_⟩
 have e8:(u/y1+1)*(y1*4294967296+y0)=u/y1*y1*4294967296+y1*4294967296+(u/y1)*y0+y0:=by
  rw [Int.add_mul,Int.mul_add,Int.one_mul,Int.mul_assoc];omega
 have e9:=Int.mul_nonneg e3 hy0
 show u*4294967296+a<(u/y1+1)*(y1*4294967296+y0)
 rw [e8]
 omega
theorem JI {y1 y0 u a q r:Int} (hy0:0≤y0) (h:DgI y1 y0 u a (q,r)) (hu:u<y1*4294967296+y0) (ha:0≤a) (ha1:a<4294967296) (hu0:0≤u) (ht:q≥4294967296∨(q*y0>4294967296*r+a)):
  (q - 1)*y1+(r+y1)=u∧1≤q∧u*4294967296+a<(q - 1+1)*(y1*4294967296+y0):=by
 obtain ⟨h1,h2,h3,h4,h5,h6⟩:=h
 obtain ⟨a1,a2⟩:=JF ha1 hy0 hu hu0 h1 h2 ha ht
 refine ⟨?_,a2,?_⟩
 ·rw [Int.sub_mul,Int.one_mul];simp only at h1;omega
 ·rw [Int.sub_add_cancel];exact a1
theorem xk {α R:Type} {gq gr:α→Int} {mk:Int→Int→α} (hmq: ∀q r,gq (mk q r)=q) (hmr: ∀q r,gr (mk q r)=r) {y1 y0 u a:Int} (hy1:2147483648≤y1) (hy11:y1<4294967296) (hy0:0≤y0) (hy01:y0<4294967296) (hu0:0≤u) (hu:u<y1*4294967296+y0) (ha:0≤a) (ha1:a<4294967296) {F:(α→R)→α→R} {d:α→R} {j:Int→R}
  (hF: ∀ag p,F ag p=if decide (gq p≥4294967296)=true then (if decide (ak .u64 (gr p) y1≥4294967296)=true then j (az .u64 (gq p) 1) else ag (mk (az .u64 (gq p) 1) (ak .u64 (gr p) y1))) else
   if decide (aK .u64 (gq p) y0>ak .u64 (aK .u64 4294967296 (gr p)) a)=true then (if decide (ak .u64 (gr p) y1≥4294967296)=true then j (az .u64 (gq p) 1) else ag (mk (az .u64 (gq p) 1) (ak .u64 (gr p) y1))) else j (gq p))
  {v:R} (hv: ∀q,Dg y1 y0 u a q→j q=v): ∀(n:Nat) (p:α),DgI y1 y0 u a (gq p,gr p)→(4294967296 - gr p).toNat<n→ah n F d p=v
 | 0,p,_,h=>by omega
 | n+1,p,hI,hn=>by
  rw [ah,hF]
  obtain ⟨h1,h2,h3,h4,h5,h6⟩:=hI
  simp only at h1 h2 h3 h4 h5 h6
  generalize hq:gq p=q at*
  generalize hr:gr p=r at*
  have eA:ak .u64 r y1=r+y1:=dP (by omega) (by omega)
  have eS:1≤q→az .u64 q 1=q - 1:=fun h=>dP (by omega) (by omega)
  have down:(q≥4294967296∨(q*y0>4294967296*r+a))→(if decide (ak .u64 r y1≥4294967296)=true then j (az .u64 q 1) else ah n F d (mk (az .u64 q 1) (ak .u64 r y1)))=v:=by
   intro ht
   obtain ⟨d1,d2,d3⟩:=JI hy0 (show DgI y1 y0 u a (q,r) from ⟨h1,h2,h3,h4,h5,h6⟩) hu ha ha1 hu0 ht
   rw [eA,eS d2]
   by_cases hb:r+y1≥4294967296
   ·rw [if_pos (by simpa using hb)]
    exact hv _ ⟨JH ha d1 hb (by omega) hy0 hy01,d3⟩
   ·rw [if_neg (by simpa using hb)]
    exact xk hmq hmr hy1 hy11 hy0 hy01 hu0 hu ha ha1 hF hv n _ (by rw [hmq,hmr];exact ⟨d1,by show 0≤r+y1;omega,by show r+y1<_;omega,by show 0≤q - 1;omega,by show q - 1≤_;omega,d3⟩) (by rw [hmr];omega)
  by_cases ht:q≥4294967296
  ·rw [if_pos (by simpa using ht)]
   exact down (.inl ht)
  ·rw [if_neg (by simpa using ht)]
   have hm:=ou h4 (show q≤4294967295 by omega) hy0 (show y0≤4294967295 by omega)
   have e1:aK .u64 q y0=q*y0:=dP hm.1 (by omega)
   have e2:aK .u64 4294967296 r=4294967296*r:=dP (by omega) (by omega)
   have e3:ak .u64 (4294967296*r) a=4294967296*r+a:=dP (by omega) (by omega)
   rw [e1,e2,e3]
   by_cases hc:q*y0>4294967296*r+a
   ·rw [if_pos (by simpa using hc)]
    exact down (.inr hc)
   ·rw [if_neg (by simpa using hc)]
    exact hv _ ⟨JG h1 (by omega),h6⟩
theorem JJ {a b:Int} {s:Nat} (hs:s≤63) (ha0:0≤a) (ha:a*2^s<18446744073709551616) (hb0:0≤b) (hb:b<2^s):orI .u64 (a*2^s) b=a*2^s+b:=by
 obtain ⟨a,rfl⟩:=Int.eq_ofNat_of_zero_le ha0
 obtain ⟨b,rfl⟩:=Int.eq_ofNat_of_zero_le hb0
 have hp:2^s≤2^63:=Nat.pow_le_pow_right (by decide) hs
 have e0:((a:Int)*2^s)=((a*2^s:Nat):Int):=by push_cast;rfl
 have ha':a*2^s<18446744073709551616:=by
  rw [e0] at ha
  generalize a*2^s=t at ha⊢
  omega
 have hb':b<2^s:=by exact_mod_cast hb
 rw [e0]
 unfold orI
 have t: ∀n:Nat,n<18446744073709551616→(BitVec.ofInt IntKind.u64.bits (n:Int)).toNat=n:=by
  intro n hn
  show (BitVec.ofInt 64 (n:Int)).toNat=n
  rw [BitVec.toNat_ofInt];omega
 rw [BitVec.toNat_or,t _ ha',t _ (by omega),Nat.mul_comm a,←Nat.two_pow_add_eq_or_of_lt hb',w64]
 rw [Nat.mul_comm] at ha'
 have:2^s*a+b<18446744073709551616:=by
  have h1:2^s*(a+1)≤18446744073709551616:=by
   have h2:2^s∣18446744073709551616:=⟨2^(64 - s),by rw [←Nat.pow_add,show s+(64 - s)=64 by omega]⟩
   obtain ⟨c,hc⟩:=h2
   rw [hc] at ha'⊢
   exact Nat.mul_le_mul_left _ (Nat.lt_of_mul_lt_mul_left ha')
  rw [Nat.mul_add,Nat.mul_one] at h1
  omega
 omega
theorem JK (a b:Int) {c:Int} (h:0<c):(a*c)% (b*c)=a% b*c:=by
 rw [Int.mul_comm a,Int.mul_comm b,Int.mul_emod_mul_of_pos _ _ h,Int.mul_comm]
theorem JL {N y Y p u w a1 a0 q1 q0 v:Int} (hp:0<p) (hY:Y=y*p) (hY0:0<Y) (hw:w=a1*4294967296+a0) (hN:u*18446744073709551616+w=N*p)
  (hv:v=u*4294967296+a1 - q1*Y) (h1:q0*Y≤v*4294967296+a0) (h2:v*4294967296+a0<(q0+1)*Y):
  q1*4294967296+q0=N/y∧v*4294967296+a0 - q0*Y=N% y*p:=by
 have e:N*p=(q1*4294967296+q0)*Y+(v*4294967296+a0 - q0*Y):=by
  have e1:(q1*4294967296+q0)*Y=q1*Y*4294967296+q0*Y:=by rw [Int.add_mul,Int.mul_right_comm]
  rw [e1];omega
 have e2:(q0+1)*Y=q0*Y+Y:=by rw [Int.add_mul,Int.one_mul]
 generalize hR:v*4294967296+a0 - q0*Y=R at*
 generalize hQ:q1*4294967296+q0=Q at*
 have hR0:0≤R:=by omega
 have hR1:R<Y:=by omega
 have d:N*p/Y=Q:=by
  rw [e,Int.add_comm,Int.add_mul_ediv_right _ _ (by omega),Int.ediv_eq_zero_of_lt hR0 hR1];omega
 have m:N*p% Y=R:=by rw [e,Int.add_comm,Int.add_mul_emod_self_right,Int.emod_eq_of_lt hR0 hR1]
 rw [hY] at d m
 rw [Int.mul_ediv_mul_of_pos_left _ _ hp] at d
 rw [JK _ _ hp] at m
 exact ⟨d.symm,m.symm⟩
theorem BO {u a q Y:Int} (h0:0≤u*4294967296+a - q*Y) (h1:u*4294967296+a - q*Y≤18446744073709551615):az .u64 (ak .u64 (aK .u64 u 4294967296) a) (aK .u64 q Y)=u*4294967296+a - q*Y:=by
 unfold az ak aK
 simp only [w64]
 generalize q*Y=T at*
 omega
theorem JM {q r:Int} (h0:0≤q*4294967296+r) (h1:q*4294967296+r≤18446744073709551615):ak .u64 (aK .u64 q 4294967296) r=q*4294967296+r:=by
 unfold ak aK
 simp only [w64]
 omega
theorem BP {α R:Type} {f:α→R} {G:(α→R)→R} {v:R} (h: ∀j,j=f→G j=v):im f G=v:=h f rfl
set_option maxRecDepth 4000 in
theorem JN {hi lo y:Int} (hh0:0≤hi) (hl0:0≤lo) (hl1:lo≤18446744073709551615) (hy:hi<y) (hy1:y≤18446744073709551615):og hi lo y=((hi*18446744073709551616+lo)/y,(hi*18446744073709551616+lo)% y):=by
 unfold og
 rw [if_neg (by simp;omega),if_neg (by simp;omega)]
 by_cases h0:hi=0
 ·subst h0
  rw [if_pos (by decide)]
  have e1:lo.tdiv y=lo/y:=Int.tdiv_eq_ediv_of_nonneg hl0
  have e2:lo/y≤lo:=Int.ediv_le_self _ hl0
  have e3:0≤lo/y:=Int.ediv_nonneg hl0 (by omega)
  have e4:cc .u64 lo y=lo/y:=by unfold cc;rw [e1];exact dP e3 (by omega)
  have e5:bJ .u64 lo y=lo% y:=Int.tmod_eq_emod_of_nonneg hl0
  rw [e4,e5];simp
 ·rw [if_neg (by simpa using h0)]
  obtain ⟨s,hs⟩: ∃s,s=mG y:=⟨_,rfl⟩
  obtain ⟨s0,s1,s2,s3⟩:=BL hs (by omega) hy1
  have hY:=(qL .u64 y (ae .u64 s)).2
  simp only [ab,←hs]
  obtain ⟨k,rfl⟩:=Int.eq_ofNat_of_zero_le s0
  rw [s3] at s2 hY
  simp only [Int.toNat_natCast] at s2 s3 hY
  rw [s3]
  have hk:k≤63:=by omega
  have hp:(0:Int)<2^k:=Int.pow_pos (by decide)
  have hp2:(2:Int)^k*2^(64 - k)=18446744073709551616:=by rw [←Int.pow_add,show k+(64 - k)=64 by omega];rfl
  have hc:ae .u64 (k:Int)=k:=nO (by omega) (by omega)
  have hYm:y*2^k≤18446744073709551615:=by show _≤(18446744073709551615:Int);exact hY
  -- the high part
  have hhi:hi*2^k<y*2^k:=Int.mul_lt_mul_of_pos_right hy hp
  have m1:ao .u64 hi (k:Int)=hi*2^k:=by
   unfold ao
   rw [Int.toNat_natCast,show min k IntKind.u64.bits=k by show min k 64=k;omega]
   exact dP (Int.mul_nonneg hh0 (Int.le_of_lt hp)) (by omega)
  have m2:ar .u64 lo (az .u64 64 (k:Int))=lo/2^(64 - k):=by
   have e:az .u64 64 (k:Int)=((64 - k:Nat):Int):=by
    have:az .u64 64 (k:Int)=64 - (k:Int):=dP (by omega) (by omega)
    omega
   rw [e];exact ot (by rw [Int.toNat_natCast];show min (64 - k) 64=_;omega)
  have m3:ao .u64 lo (k:Int)=lo*2^k% 18446744073709551616:=by
   unfold ao
   rw [Int.toNat_natCast,show min k IntKind.u64.bits=k by show min k 64=k;omega,w64]
  have hb0:0≤lo/2^(64 - k):=Int.ediv_nonneg hl0 (Int.le_of_lt (Int.pow_pos (by decide)))
  have hb1:lo/2^(64 - k)<2^k:=(Int.ediv_lt_iff_lt_mul (Int.pow_pos (by decide))).2 (by rw [hp2];omega)
  rw [hc,m1,m2,m3,JJ hk hh0 (by omega) hb0 hb1]
  -- the whole, shifted
  have hN:(hi*2^k+lo/2^(64 - k))*18446744073709551616+lo*2^k% 18446744073709551616=(hi*18446744073709551616+lo)*2^k:=by
   have e:lo/2^(64 - k)=lo*2^k/18446744073709551616:=by
    rw [←hp2,Int.mul_comm ((2:Int)^k),Int.mul_ediv_mul_of_pos_left _ _ hp]
   rw [e,Int.add_mul,Int.add_mul (hi*18446744073709551616),Int.mul_right_comm hi]
   omega
  have hy1':0<y:=by omega
  have hQ0:0≤(hi*18446744073709551616+lo)/y:=Int.ediv_nonneg (by omega) (by omega)
  have hQ1:(hi*18446744073709551616+lo)/y<18446744073709551616:=(Int.ediv_lt_iff_lt_mul hy1').2 (by omega)
  have hu0:0≤hi*2^k+lo/2^(64 - k):=by have:=Int.mul_nonneg hh0 (Int.le_of_lt hp);omega
  have hu1:hi*2^k+lo/2^(64 - k)<y*2^k:=by
   have h1:=Int.mul_le_mul_of_nonneg_right (show hi+1≤y by omega) (Int.le_of_lt hp)
   rw [Int.add_mul,Int.one_mul] at h1
   omega
  obtain ⟨N,hNe⟩: ∃N,N=hi*18446744073709551616+lo:=⟨_,rfl⟩
  rw [←hNe] at hN hQ0 hQ1⊢
  obtain ⟨Y,hYe⟩: ∃Y,Y=y*2^k:=⟨_,rfl⟩
  rw [←hYe] at s2 hYm hu1⊢
  generalize hi*2^k+lo/2^(64 - k)=u at hN hu0 hu1⊢
  have hW0:0≤lo*2^k% 18446744073709551616:=Int.emod_nonneg _ (by decide)
  have hW1:lo*2^k% 18446744073709551616<18446744073709551616:=Int.emod_lt_of_pos _ (by decide)
  generalize lo*2^k% 18446744073709551616=W at hN hW0 hW1⊢
  rw [lJ Y,qp (by omega) hYm,lJ W,qp hW0 (by omega)]
  have hYs:Y/4294967296*4294967296+Y% 4294967296=Y:=by omega
  have hWs:W=W/4294967296*4294967296+W% 4294967296:=by omega
  have b1:2147483648≤Y/4294967296:=by omega
  have b2:Y/4294967296<4294967296:=by omega
  have b3:0≤Y% 4294967296:=by omega
  have b4:Y% 4294967296<4294967296:=by omega
  have b5:0≤W/4294967296:=by omega
  have b6:W/4294967296<4294967296:=by omega
  have b7:0≤W% 4294967296:=by omega
  have b8:W% 4294967296<4294967296:=by omega
  generalize Y/4294967296=y1 at*
  generalize Y% 4294967296=y0 at*
  generalize W/4294967296=a1 at*
  generalize W% 4294967296=a0 at*
  obtain ⟨r1,r2,r3,r4⟩:=xj (u:=u) (d:=y1) hu0 (by omega) (by omega)
  rw [r1,r2]
  refine BP fun j8 hj8=> ?_
  refine xk (j:=j8) (gq:=fun p:Int×Int=>p.1) (gr:=fun p=>p.2) (mk:=fun q r=>(q,r)) (fun _ _=>rfl) (fun _ _=>rfl) b1 b2 b3 b4 hu0 (by omega) b5 b6 (by exact fun ag p=>rfl) (fun q1 hq1=> ?_) _ _ (by exact BN b1 b2 b3 b4 hu0 (by omega) b5 b6) (by show (4294967296 - u% y1).toNat<_;omega)
  obtain ⟨g1,g2⟩:=hq1
  subst hj8
  dsimp only
  rw [hYs] at g1 g2
  have g3:(q1+1)*Y=q1*Y+Y:=by rw [Int.add_mul,Int.one_mul]
  rw [g3] at g2
  have ev:=BO (u:=u) (a:=a1) (q:=q1) (Y:=Y) (by omega) (by omega)
  rw [ev]
  obtain ⟨v,hv⟩: ∃v,v=u*4294967296+a1 - q1*Y:=⟨_,rfl⟩
  rw [←hv]
  have hv0:0≤v:=by omega
  have hv1:v<Y:=by omega
  obtain ⟨t1,t2,t3,t4⟩:=xj (u:=v) (d:=y1) hv0 (by omega) (by omega)
  rw [t1,t2]
  refine BP fun j9 hj9=> ?_
  refine xk (j:=j9) (gq:=fun p:Int×Int=>p.2) (gr:=fun p=>p.1) (mk:=fun q r=>(r,q)) (fun _ _=>rfl) (fun _ _=>rfl) b1 b2 b3 b4 hv0 (by omega) b7 b8 (by exact fun ag p=>rfl) (fun q0 hq0=> ?_) _ _ (by exact BN b1 b2 b3 b4 hv0 (by omega) b7 b8) (by show (4294967296 - v% y1).toNat<_;omega)
  obtain ⟨f1,f2⟩:=hq0
  subst hj9
  dsimp only
  rw [hYs] at f1 f2
  obtain ⟨z1,z2⟩:=JL hp hYe (by omega) hWs hN hv f1 f2
  have f3:(q0+1)*Y=q0*Y+Y:=by rw [Int.add_mul,Int.one_mul]
  rw [f3] at f2
  rw [BO (by omega) (by omega),JM (by omega) (by omega),z1,z2,ot (m:=k) (by rw [Int.toNat_natCast];show min k 64=k;omega),Int.mul_ediv_cancel _ (Int.ne_of_gt hp)]
theorem JO (a b:Int):0≤orI .u64 a b∧orI .u64 a b≤18446744073709551615:=yO .u64 a b
theorem JP (a b:Int):0≤az .u64 a b∧az .u64 a b≤18446744073709551615:=oS .u64 a b
theorem lK {a b:Int} (h0:0≤a) (h1:a≤4294967295) (h2:0≤b) (h3:b≤4294967295):ak .u64 a b=a+b:=dP (by omega) (by omega)
theorem BQ {a b n:Int} (ha:0≤a) (hn:a<n) (hn1:n≤18446744073709551615) (hb:0≤b) (hb1:b≤18446744073709551615):(lm a b).1<n:=by
 rw [BM ha (by omega) hb hb1]
 refine (Int.ediv_lt_iff_lt_mul (by decide)).2 ?_
 have h1:=Int.mul_le_mul (show a≤n - 1 by omega) hb1 hb (by omega)
 omega
theorem BR (n:Int) {a b:Int} {x:Int×Int} (hx:x=lm a b) (ha:0≤a) (hn:a<n) (hn1:n≤18446744073709551615) (hb:0≤b) (hb1:b≤18446744073709551615):x.1<n:=hx▸BQ ha hn hn1 hb hb1
theorem BS {u d:Int} (h:0≤u∧u≤18446744073709551615) (hd:1≤d) (hd1:d≤4294967295):0≤az .u64 u (aK .u64 (cc .u64 u d) d)∧az .u64 u (aK .u64 (cc .u64 u d) d)≤4294967295:=by
 obtain ⟨a1,a2,a3,a4⟩:=xj h.1 h.2 hd
 rw [a1];omega
theorem BT {a b n:Int} (ha:0≤a) (hn:a<n) (hb:0≤b) (hb1:b≤18446744073709551615) (hn1:n≤18446744073709551615):gg a b n=a*b% n:=by
 have h1:=BQ ha hn hn1 hb hb1
 have hp:=Int.mul_nonneg ha hb
 unfold gg ab
 rw [BM ha (by omega) hb hb1] at h1⊢
 simp only at h1⊢
 rw [JN (Int.ediv_nonneg hp (by decide)) (Int.emod_nonneg _ (by decide)) (by have:=Int.emod_lt_of_pos (a*b) (show (0:Int)<18446744073709551616 by decide);omega) h1 hn1]
 simp only
 congr 1
 omega
theorem mP {a b n x:Int} (hx:x=gg a b n) (ha:0≤a) (hn:a<n) (hb:0≤b) (hb1:b≤18446744073709551615) (hn1:n≤18446744073709551615):0≤x∧x<n:=by
 rw [hx,BT ha hn hb hb1 hn1];exact ⟨Int.emod_nonneg _ (by omega),Int.emod_lt_of_pos _ (by omega)⟩
theorem JQ {a e n x:Int} (hx:x=pW a e n) (ha:0≤a) (hn:a<n) (h1:1<n) (hn1:n≤18446744073709551615):0≤x∧x<n:=by
 subst hx
 unfold pW
 refine Bg (P:=fun p:Int×Int×Int=>0≤p.1∧p.1<n∧0≤p.2.2∧p.2.2<n) (Q:=fun x=>0≤x∧x<n) (meas:=fun p=>p.2.1.toNat) ?_ _ _ ⟨ha,hn,show (0:Int)≤1 by decide,h1⟩ (by show e.toNat<_;omega)
 rintro ag ⟨a,e,x⟩ ⟨p1,p2,p3,p4⟩ ih
 simp only at p1 p2 p3 p4 ih⊢
 by_cases he:e>0
 ·rw [if_pos (by simpa using he)]
  have hs:(ar .u64 e 1).toNat<e.toNat:=by rw [cV];omega
  simp only [ab]
  by_cases hc:(aX .u64 e 1==1)=true
  ·rw [if_pos hc]
   have m1:=mP (x:=gg x a n) rfl p3 p4 p1 (by omega) hn1
   have m2:=mP (x:=gg a a n) rfl p1 p2 p1 (by omega) hn1
   exact ih _ ⟨m2.1,m2.2,m1.1,m1.2⟩ hs
  ·rw [if_neg hc]
   have m2:=mP (x:=gg a a n) rfl p1 p2 p1 (by omega) hn1
   exact ih _ ⟨m2.1,m2.2,p3,p4⟩ hs
 ·rw [if_neg (by simpa using he)]
  exact ⟨p3,p4⟩
@[go_sem] theorem JR {n:Nat} {k:IntKind}: ∀{l:List Int},ltL n (l.map (V.int k))=True
 | []=>by simp [ltL]
 | a::l=>by simp only [List.map_cons,ltL,JR (l:=l),ltV,and_self]
@[go_sem] theorem PR {k:IntKind} {a b c i:Int}:elt [V.int k a,V.int k b,V.int k c] i.toNat (V.int k 0)=V.int k (gt [a,b,c] i):=by
 unfold elt gt
 match i.toNat with
 | 0=>rfl
 | 1=>rfl
 | 2=>rfl
 | n+3=>rfl
theorem JS:da.length=12:=rfl
theorem JT:da.all (fun x=>decide (2≤x)&&decide (x≤37))=true:=by decide
theorem cY {j:Int} (h0:0≤j) (h1:j<12):2≤gt da j∧gt da j≤37:=by
 have hm:gt da j∈da:=cm (by show j.toNat<12;omega)
 simpa using List.all_eq_true.1 JT _ hm
def qq (u i:Int):Prop:= ∀k:Int,0≤k→k<i→u% gt da k≠0
theorem JU {u:Int}:qq u 0:=fun k h0 h1=>by omega
theorem JV {u i:Int} (h:qq u i) (hu:0≤u) (h0:0≤i) (h1:i<12) (hr: ¬bJ .u64 u (gt da i)=0):qq u (i+1):=by
 intro k k0 k1
 by_cases hk:k<i
 ·exact h k k0 hk
 ·obtain rfl:k=i:=by omega
  rwa [show bJ .u64 u (gt da k)=u% gt da k from Int.tmod_eq_emod_of_nonneg hu] at hr
theorem JW: ∀u:Fin 38,2≤u.val→ ∃k:Fin 12,((u.val:Nat):Int)% da.getD k.val 0=0:=by decide
theorem JX {u i:Int} (h:qq u i) (hi:12≤i) (h2:2≤u):37<u:=by
 refine Int.not_le.1 fun hu=> ?_
 obtain ⟨k,hk⟩:=JW ⟨u.toNat,by omega⟩ (by show 2≤u.toNat;omega)
 refine h (k.val:Int) (by omega) (by omega) ?_
 have e:((u.toNat:Nat):Int)=u:=by omega
 rw [←e,oR]
 exact hk
theorem JY:kP.all (fun x=>decide (0≤x)&&decide (x≤63))=true:=by decide
theorem JZ {a x:Int} (hx:x=pV a):0≤x∧x≤64:=by
 subst hx
 unfold pV
 split
 ·omega
 ·have hi:=BK (x:=aX .u64 a (kr .u64 a))
  have hm:=cm (l:=kP) (i:=ar .u64 (aK .u64 (aX .u64 a (kr .u64 a)) 285870213051353865) 58) (by show _<64;omega)
  have:=List.all_eq_true.1 JY _ hm
  simp only [Bool.and_eq_true,decide_eq_true_eq] at this
  rw [kV (by omega) (by omega)];omega
theorem J0 {x:Int} (h0:0≤x) (h1:x≤64):az .i64 x 1=x - 1:=by unfold az;rw [IntKind.wrap_i64];omega
theorem J1 {m:Int} (h:1≤m):0≤bJ .i64 1 m∧bJ .i64 1 m<m:=by
 rw [show bJ .i64 1 m=1% m from Int.tmod_eq_emod_of_nonneg (by decide)]
 exact ⟨Int.emod_nonneg _ (by omega),Int.emod_lt_of_pos _ (by omega)⟩
theorem J2 {a b m:Int} (h:ln a b m=0):1≤m∧m<2305843009213693952∧0≤a∧a<m∧0≤b∧b<m:=by
 unfold ln at h
 simp only [ab,pX] at h
 repeat' (split at h)
 all_goals simp_all
 all_goals omega
instance PS (a b m:Int):CF (ln a b m) (fun x=>x=0→1≤m∧m<2305843009213693952∧0≤a∧a<m∧0≤b∧b<m):=⟨J2⟩
theorem tn {x:Int} (h0:0≤x) (h1:x≤9223372036854775807):ae .u64 x=x:=nO h0 (by omega)
theorem J3 {a b n:Int} (ha:0≤a) (hn:a<n) (hb:0≤b) (hb1:b≤9223372036854775807) (hn1:n≤9223372036854775807):j_ a b n=a*b% n:=by
 have h:=BT ha hn hb (by omega) (by omega)
 have e:j_ a b n=ae .i64 (gg (ae .u64 a) (ae .u64 b) (ae .u64 n)):=rfl
 have c1:ae .u64 a=a:=nO ha (by omega)
 have c2:ae .u64 b=b:=nO hb (by omega)
 have c3:ae .u64 n=n:=nO (by omega) (by omega)
 rw [e,c1,c2,c3,h]
 have:=Int.emod_nonneg (a*b) (show n≠0 by omega)
 have:=Int.emod_lt_of_pos (a*b) (show 0<n by omega)
 exact kV (by omega) (by omega)
theorem xl {a b n x:Int} (hx:x=j_ a b n) (ha:0≤a) (hn:a<n) (hb:0≤b) (hb1:b≤9223372036854775807) (hn1:n≤9223372036854775807):0≤x∧x<n:=by
 rw [hx,J3 ha hn hb hb1 hn1];exact ⟨Int.emod_nonneg _ (by omega),Int.emod_lt_of_pos _ (by omega)⟩
end Go.Proofs.YtiknkaadhomeiaaGreatDoor
namespace Go.Proofs.YtiknkaadhomeiaaGreatDoor
open Go.RowKit
set_option linter.unusedVariables false
set_option linter.unusedSimpArgs false
theorem mQ {α R:Type} {F:(α→R)→α→R} {d:α→R} (Inv:α→Prop) (Q:R→Prop) (mu:α→Nat)
  (h: ∀ag a,Inv a→(∀a',Inv a'→mu a'<mu a→Q (ag a'))→Q (F ag a)): ∀(n:Nat) (a:α),Inv a→mu a<n→Q (ah n F d a)
 | 0,_,_,h1=>absurd h1 (Nat.not_lt_zero _)
 | n+1,a,hr,h1=>by
  rw [ah]
  exact h _ a hr fun a' hr' hm=>mQ Inv Q mu h n a' hr' (by omega)
instance PT {s:List Int}:CF (mH s) (fun x=>x.length=s.length):=⟨rfl⟩
theorem J4 (n:Int):mI n=[ae .u8 (ar .u64 n 56),ae .u8 (ar .u64 n 48),ae .u8 (ar .u64 n 40),ae .u8 (ar .u64 n 32),ae .u8 (ar .u64 n 24),ae .u8 (ar .u64 n 16),ae .u8 (ar .u64 n 8),ae .u8 (ar .u64 n 0)]:=by kernel_rfl
instance PU {n:Int}:CF (mI n) (fun x=>x.length=8):=⟨by rw [J4];rfl⟩
end Go.Proofs.YtiknkaadhomeiaaGreatDoor
namespace Go.Proofs.YtiknkaadhomeiaaGreatDoor
open Go.RowKit
set_option linter.unusedVariables false
set_option linter.unusedSimpArgs false
theorem J5 (i:aa) (d:Int):qc i d=aQ i d:=by
 obtain ⟨k,n,b,l⟩:=i
 have hany:oh l d= !(eK l (d - 1)):=by
  have h:=sR (l:=l) (C:=fun x=>mJ x d) (d:=fun _=>default) (F:=fun ag1 p1=>if decide (p1<(l.length:Int)) then (ab (mJ (gt l p1) d) (fun x4=>if x4 then p1 else ag1 (p1+1))) else -1) (fun ag p=>rfl)
  have h2:oh l d=l.any (fun x=>mJ x d):=h
  rw [h2,pR,List.not_all_eq_any_not];rfl
 unfold qc
 simp only [ab,aQ,hany,Bool.not_not]
 by_cases e1:k=1
 ·subst e1;cases b with
  | nil=>cases l with
   | nil=>simp
   | cons y l=>simp;omega
  | cons x b=>simp;omega
 by_cases e2:k=2
 ·subst e2;cases l with
  | nil=>simp [Bool.beq_eq_decide_eq]
  | cons y l=>simp;omega
 by_cases e3:k=3
 ·subst e3
  by_cases h0:n=0
  ·cases b with
   | nil=>
    by_cases h1:0<d
    ·by_cases h2:l.length≤1000
     ·have h2':(l.length:Int)≤1000:=by omega
      simp [h0,h1,h2,h2']
     ·have h2': ¬(l.length:Int)≤1000:=by omega
      simp [h0,h1,h2,h2']
    ·simp [h0,h1]
   | cons x b=>simp [h0];omega
  ·simp [h0]
 ·simp [e1,e2,e3]
theorem BU: ∀{k:Nat} {n:Int},be (k+1) n=(n/256^k)% 256::be k n
 | 0,n=>by simp [be]
 | k+1,n=>by
  rw [be,BU (k:=k),be]
  simp only [List.cons_append,List.cons.injEq,and_true]
  rw [Int.ediv_ediv_of_nonneg (by omega),Int.pow_succ,Int.mul_comm (256^k)]
theorem BV {n:Int} {F:(Int×List Int→List Int)→Int×List Int→List Int} {d:Int×List Int→List Int}
  (hF: ∀ag p,F ag p=if decide (p.1≥0)=true then ag (p.1 - 1,p.2++[ae .u8 (ar .u64 n (8*p.1))]) else p.2):
  ∀(k fuel:Nat) (out:List Int),k≤8→k<fuel→ah fuel F d ((k:Int) - 1,out)=out++be k n
 | 0,fuel,out,_,hf=>by
  obtain ⟨m,rfl⟩: ∃m,fuel=m+1:=⟨fuel - 1,by omega⟩
  rw [ah,hF];simp [be]
 | k+1,fuel,out,hk,hf=>by
  obtain ⟨m,rfl⟩: ∃m,fuel=m+1:=⟨fuel - 1,by omega⟩
  rw [ah,hF,if_pos (by simp)]
  have e1:ae .u8 (ar .u64 n (8*(((k+1:Nat):Int) - 1)))=(n/256^k)% 256:=by
   have e2:(8*(((k+1:Nat):Int) - 1)).toNat=8*k:=by omega
   unfold ae ar
   rw [e2,show min (8*k) (IntKind.bits .u64)=8*k by show min (8*k) 64=8*k;omega,Int.fdiv_eq_ediv_of_nonneg _ (Int.le_of_lt (Int.pow_pos (by omega))),Int.pow_mul]
   rfl
  simp only
  rw [e1,show ((k+1:Nat):Int) - 1 - 1=(k:Int) - 1 by omega,BV hF k m _ (by omega) (by omega),BU]
  simp
theorem tp {out:List Int} {n size:Int} (h0:0≤size) (h1:size≤8):kb out n size=out++be size.toNat n:=by
 unfold kb
 have:=BV (n:=n) (d:=fun _=>default) (fun ag p=>rfl) size.toNat ((size - 1+1).toNat+1) out (by omega) (by omega)
 rw [show ((size.toNat:Nat):Int)=size by omega] at this
 exact this
theorem xm {out x:List Int} {n size:Int} (h:x=kb out n size): ¬(0≤size∧size≤8)∨(x.length:Int)=out.length+size:=by
 by_cases hs:0≤size∧size≤8
 ·right;rw [h,tp hs.1 hs.2];simp [fu];omega
 ·exact .inl hs
theorem BW {n:Int}:be 8 (ae .u64 n)=be 8 n:=by
 apply sU
 have h8:(256:Int)^8=18446744073709551616:=by decide
 have:ae .u64 n=n% 18446744073709551616:=rfl
 rw [this,h8];omega
theorem tq {n:Int}:be 4 (ae .u64 n)=be 4 n:=by
 apply sU
 have h8:(256:Int)^4=4294967296:=by decide
 have:ae .u64 n=n% 18446744073709551616:=rfl
 rw [this,h8];omega
theorem BX: ∀{l:List aa} {out:List Int},jh out l=l.foldl fi out
 | [],_=>rfl
 | x::l,out=>by simp only [jh,List.foldl_cons];exact BX
theorem J6 (out:List Int) (i:aa):qd out i=fi out i:=by
 obtain ⟨k,n,b,l⟩:=i
 unfold qd
 simp only [ab,fi]
 by_cases hl:out.length>16384
 ·have:(out.length:Int)>16384:=by omega
  simp [hl,this]
 have hl': ¬(out.length:Int)>16384:=by omega
 by_cases e1:k=1
 ·subst e1
  have:ae .u8 1=1:=rfl
  simp [hl,hl',tp,this,BW]
 by_cases e2:k=2
 ·subst e2
  have:ae .u8 2=2:=rfl
  simp [hl,hl',tp,this,tq]
 have hk:ae .u8 k=k% 256:=rfl
 simp only [hl,hl',e1,e2,decide_false,Bool.false_eq_true,if_false,beq_iff_eq,tp (show (0:Int)≤4 by decide) (show (4:Int)≤8 by decide),hk,Int.reduceToNat,tq]
 rw [jf (l:=l) (fun a s=> .inl (fi s a)) (fun s=>s) (fun ag i s=>by by_cases h:i<(l.length:Int)<;>simp [h]),jY,BX]
 simp
theorem qr (r:aD) (e:Int):fN r e=er r e:=rfl
theorem tr {r x:aD} {e:Int} (h:x=fN r e) (he:decide (e=0)=false):x.e≠0:=by
 rw [h,qr];unfold er
 have:e≠0:=by simpa using he
 split
 ·exact this
 ·rename_i h2;simpa using h2
theorem xn (r:aD) (n:Int):jm r n=et r n:=by
 obtain ⟨b,e⟩:=r
 unfold jm et
 simp only [ab,qr]
 by_cases h:e=0
 ·by_cases h2:n>b.length
  ·simp [h,h2]
  ·simp [h,h2,sl]
   rw [List.take_of_length_le (by simp)]
 ·simp [h]
theorem xo (r:aD) (n:Int):gh r n=dK r n:=by
 unfold gh dK
 simp only [ab,xn]
 rw [Bj (l:=(et r n).1) (fun a s=> .inl (orI .u64 (ao .u64 s 8) (ae .u64 a))) (fun s=>(s,(et r n).2)) (fun ag i s=>by by_cases h:i<((et r n).1.length:Int)<;>simp [h]),jY]
 rfl
theorem tt {r:aD} {x:Int×aD} {n:Int} (h:x=gh r n) (hb:isB r.b):n>4∨(0≤ae .i64 x.1∧ae .i64 x.1≤4294967295):=by
 by_cases hn:n>4
 ·exact .inl hn
 right
 rw [h,xo]
 unfold dK et
 split
 ·exact ⟨(by decide:(0:Int)≤ae .i64 0),(by decide:ae .i64 0≤4294967295)⟩
 ·simp only
  have hl:(r.b.take n.toNat).length≤4:=by simp;omega
  have hbt:=od hb n.toNat
  rw [Bt hbt (by omega)]
  have hv:=pQ hbt
  have h3:(256:Int)^(r.b.take n.toNat).length≤256^4:=(by decide: ∀k,k<5→(256:Int)^k≤256^4) _ (by omega)
  have h4:(256:Int)^4=4294967296:=by decide
  rw [kV (by omega) (by omega)]
  omega
theorem tu {r:aD} {x:Int×aD} {n:Int} (h:x=gh r n) (hb:isB r.b):isB x.2.b:=by
 rw [h,xo];exact lk hb
theorem tv {r x:aD} {e:Int} (h:x=fN r e) (hb:isB r.b):isB x.b:=by
 rw [h,qr];exact w7 hb
theorem J7 {r:aD} {x:List Int×aD} {n:Int} (h:x=jm r n) (hb:isB r.b):isB x.2.b:=by
 rw [h,xn];exact lk hb
theorem J8 {k n:Int} {f:aD→aa×aD} {F:(Int×aD×List aa→aa×aD)→Int×aD×List aa→aa×aD} {d:Int×aD×List aa→aa×aD}
  (hF: ∀ag p,F ag p=if decide (p.1<n)=true then (if (p.2.1.e !=0)=true then (⟨k,0,[],p.2.2⟩,p.2.1) else ag (p.1+1,(f p.2.1).2,p.2.2++[(f p.2.1).1])) else (⟨k,0,[],p.2.2⟩,p.2.1)):
  ∀(fuel:Nat) (i:Int) (r:aD) (l:List aa),(n - i).toNat<fuel→ah fuel F d (i,r,l)=(⟨k,0,[],(fh f (n - i).toNat l r).1⟩,(fh f (n - i).toNat l r).2):=by
 intro fuel
 induction fuel with
 | zero=>intro i r l h;omega
 | succ m ih=>
  intro i r l h
  rw [ah,hF]
  by_cases hi:i<n
  ·rw [if_pos (decide_eq_true hi)]
   obtain ⟨q,hq⟩: ∃q,(n - i).toNat=q+1:=⟨(n - i).toNat - 1,by omega⟩
   by_cases he:r.e=0
   ·simp only [he,bne_self_eq_false,Bool.false_eq_true,if_false]
    rw [ih _ _ _ (by omega),hq]
    simp only [fh,he,ne_eq,not_true_eq_false,if_false]
    rw [show (n - (i+1)).toNat=q by omega]
   ·have:(r.e !=0)=true:=by simpa using he
    simp only [this,if_true]
    rw [hq,wZ he]
  ·rw [if_neg (by simpa using hi)]
   rw [show (n - i).toNat=0 by omega];rfl
theorem J9 {r:aD} {depth:Int} (h0:0≤depth) (h1:isB r.b):jn r depth=cQ r depth:=by
 obtain ⟨d,rfl⟩: ∃d:Nat,depth=d:=⟨depth.toNat,by omega⟩
 clear h0
 have hit:cQ r (d:Int)=jZ (match d with|0=>none|d+1=>some (fv d)) r:=by cases d<;>rfl
 rw [hit]
 unfold jn jZ
 simp only [ab,im,xo,qr,xn,mH]
 generalize dK r 1=a
 generalize ae .i64 a.1=k
 by_cases k1:k<1
 ·simp [k1]
 by_cases k2:k>3
 ·simp [k1,k2]
 by_cases k3:k=3
 ·subst k3
  cases d with
  | zero=>simp
  | succ d=>
   have hd:((d+1:Nat):Int)≠0:=by omega
   have hI: ∀q,cQ q (((d+1:Nat):Int) - 1)=fv d q:=by
    intro q;unfold cQ;rw [show (((d+1:Nat):Int) - 1).toNat=d by omega]
   simp only [hI]
   generalize dK a.2 4=b
   generalize ae .i64 b.1=n
   have hd2: ¬((d:Int)+1=0):=by omega
   have key: ∀{F:(Int×aD×List aa→aa×aD)→Int×aD×List aa→aa×aD} {z:Int×aD×List aa→aa×aD} (q:aD),
     (∀ag p,F ag p=if p.1<n then (if p.2.1.e=0 then ag (p.1+1,(fv d p.2.1).2,p.2.2++[(fv d p.2.1).1]) else (⟨3,0,[],p.2.2⟩,p.2.1)) else (⟨3,0,[],p.2.2⟩,p.2.1))→
     ah (n.toNat+1) F z (0,q,[])=(⟨3,0,[],(fh (fv d) n.toNat [] q).1⟩,(fh (fv d) n.toNat [] q).2):=by
    intro F z q hF
    have:=J8 (k:=3) (n:=n) (f:=fv d) (d:=z) (F:=F) (fun ag p=>by rw [hF];by_cases h1:p.1<n<;>by_cases h2:p.2.1.e=0<;>simp [h1,h2]) (n.toNat+1) 0 q [] (by omega)
    simpa using this
   by_cases hc:n>1000
   ·simp [hc];rw [if_neg hd2];exact key _ fun ag p=>rfl
   ·simp [hc];rw [if_neg hd2];exact key _ fun ag p=>rfl
 by_cases k4:k=1
 ·subst k4;simp
 by_cases k5:k=2
 ·subst k5;simp
 omega
theorem BZ {i:aa} (h:i.Kind=3): ∀{l:List aa} {s:List Int},(cP (fun (a:aa) s=>if (a.Kind !=1)=true then .inr (([]:List Int),(3:Int)) else .inl (s++[a.N])) (fun s=>(s,(0:Int))) l s).2≠0∨(cP (fun (a:aa) s=>if (a.Kind !=1)=true then .inr (([]:List Int),(3:Int)) else .inl (s++[a.N])) (fun s=>(s,(0:Int))) l s).1=s++l.map (·.N)
 | [],s=>by right;simp [cP]
 | a::l,s=>by
  simp only [cP]
  by_cases ha:a.Kind=1
  ·have:(a.Kind !=1)=false:=by simp [ha]
   simp only [this,Bool.false_eq_true,if_false]
   rcases BZ h (l:=l) (s:=s++[a.N]) with h1|h1
   ·exact .inl h1
   ·right;rw [h1];simp
  ·have:(a.Kind !=1)=true:=by simpa using ha
   simp [this]
theorem B0 (i:aa):aN i=if iA i=false then ([],1) else if i.Kind≠3 then ([],3) else cP (fun (a:aa) s=>if (a.Kind !=1)=true then .inr (([]:List Int),(3:Int)) else .inl (s++[a.N])) (fun s=>(s,(0:Int))) i.L []:=by
 unfold aN
 simp only [ab]
 cases iA i
 ·simp
 by_cases hk:i.Kind=3
 ·have:(i.Kind !=3)=false:=by simp [hk]
  simp only [this,hk]
  rw [jf (l:=i.L) (fun a s=>if (a.Kind !=1)=true then .inr (([]:List Int),(3:Int)) else .inl (s++[a.N])) (fun s=>(s,(0:Int))) (fun ag j s=>by by_cases h:j<(i.L.length:Int)<;>by_cases h2:(gt i.L j).Kind=1<;>simp [h,h2])]
  simp
 ·have:(i.Kind !=3)=true:=by simpa using hk
  simp [this,hk]
theorem qt {i:aa} {x:List Int×Int} (h:x=aN i): ¬x.2=0∨(x.1.length:Int)=i.L.length:=by
 rw [h,B0]
 split
 ·simp
 split
 ·simp
 ·rename_i hk
  rcases BZ (i:=i) (by simpa using hk) (l:=i.L) (s:=[]) with h1|h1
  ·exact .inl h1
  ·right;rw [h1];simp
theorem B_ {x w:eI} {l:List Int} (h:x=kc w l):x.l.length=w.l.length+1:=by
 rw [h];simp [kc,ab]
theorem J_ {x w:eI} {l:List Int} (h:x=ls w l):x.l.length=w.l.length+1:=by
 rw [h];simp [ls,ab]
def cR (n:Int):aa:=⟨1,n,[],[]⟩
def aS (l:List Int):aa:=⟨3,0,[],l.map cR⟩
def bE (b:List Int):aa:=⟨2,0,b,[]⟩
def bc (l:List aa):aa:=⟨3,0,[],l⟩
theorem mR (l:List Int):dp l=aS l:=by
 unfold dp
 exact sQ (E:=fun p=>bc p.2) cR (fun ag p=>rfl)
theorem iH (i:aa):iA i=aQ i 8:=rfl
mutual
theorem tw: ∀(i:aa) {d e:Int},d≤e→aQ i d=true→aQ i e=true
 | ⟨k,n,b,l⟩,d,e,h,hw=>by
  simp only [aQ] at hw⊢
  by_cases e1:k=1
  ·subst e1;simpa using hw
  by_cases e2:k=2
  ·subst e2;simpa using hw
  by_cases e3:k=3
  ·subst e3
   simp at hw⊢
   exact ⟨hw.1,hw.2.1,by omega,hw.2.2.2.1,Ca l (by omega) hw.2.2.2.2⟩
  ·simp [e1,e2,e3] at hw
theorem Ca: ∀(l:List aa) {d e:Int},d≤e→eK l d=true→eK l e=true
 | [],_,_,_,_=>rfl
 | x::l,d,e,h,hw=>by
  simp only [eK,Bool.and_eq_true] at hw⊢
  exact ⟨tw x h hw.1,Ca l h hw.2⟩
end
theorem tx {l:List aa} {d:Int} (h:aQ (bc l) d=true):l.length≤1000∧ ∀x∈l,aQ x (d - 1)=true:=by
 simp only [bc,aQ] at h
 simp at h
 refine ⟨h.2.1,?_⟩
 rw [pR] at h
 exact List.all_eq_true.1 h.2.2
theorem tz {i:aa} {d:Int} (h:aQ i d=true) (hk:i.Kind=3):i=bc i.L:=by
 obtain ⟨k,n,b,l⟩:=i
 simp only at hk
 subst hk
 simp [aQ] at h
 obtain ⟨rfl,rfl,_⟩:=h
 rfl
def dg {α:Type} (f:aa→Option α):List aa→Option (List α)
 | []=>some []
 | x::l=>match f x with
  | none=>none
  | some a=>match dg f l with
   | none=>none
   | some m=>some (a::m)
def ct {α β:Type} (z:β) (f:α→β):Option α→β
 | none=>z
 | some a=>f a
theorem tA {α R:Type} {f:aa→Option α} {E:List α→R} {z:R}: ∀{l:List aa} {s:List α},
  cP (fun a s=>ct (.inr z) (fun y=> .inl (s++[y])) (f a)) E l s=ct z (fun m=>E (s++m)) (dg f l)
 | [],s=>by simp [cP,dg,ct]
 | a::l,s=>by
  simp only [cP,dg]
  cases f a with
  | none=>rfl
  | some y=>
   have ih:=tA (f:=f) (E:=E) (z:=z) (l:=l) (s:=s++[y])
   refine ih.trans ?_
   cases dg f l<;>simp [ct]
def gQ (a:aa):Option Int:=if a.Kind=1 then some a.N else none
theorem qu (i:aa):aN i=if aQ i 8=false then ([],(1:Int)) else if i.Kind≠3 then ([],3) else ct ([],(3:Int)) (fun l=>(l,0)) (dg gQ i.L):=by
 rw [B0,iH]
 split
 ·rfl
 split
 ·rfl
 have:(fun (a:aa) (s:List Int)=>if (a.Kind !=1)=true then Sum.inr (([]:List Int),(3:Int)) else Sum.inl (s++[a.N]))=(fun a s=>ct (.inr (([]:List Int),(3:Int))) (fun y=> .inl (s++[y])) (gQ a)):=by
  funext a s
  unfold gQ
  by_cases h:a.Kind=1<;>simp [h,ct]
 rw [this,tA]
 rfl
theorem Ka (w:eI) (l:List Int):kc w l=⟨w.l++[aS l]⟩:=by
 unfold kc
 simp only [ab,mR]
theorem Kb (w:eI) (b:List Int):ls w b=⟨w.l++[bE b]⟩:=by
 unfold ls
 simp only [ab];rfl
def cb (c:br):aa:=bc [aS [c.Bank,c.Epoch,c.Denom,c.Depth,c.A],bE (au 32 c.Root),aS [c.Sign.Z,c.Sign.A,c.Sign.B,c.Sign.R]]
theorem xp (c:br):kd c=cb c:=by
 unfold kd
 simp only [ab,Ka,Kb]
 rfl
theorem lL {l:List aa} {d:Int} (h:aQ (bc l) d=true) (hd:d≤9): ∀x∈l,aQ x 8=true:=fun x hx=>tw x (by omega) ((tx h).2 x hx)
def fj (l:List bS):List Int:=l.flatMap fun x=> [x.B,x.R1,x.R2]
def cT (s:aA):aa:=bc [cb s.Coin,aS [s.Node.Level,s.Node.Index],bE (au 32 s.Context.Payee),aS [s.Context.Time,s.Context.Number],aS (fj s.Leaves),bc (cR s.Path.Index::s.Path.L.map fun h=>bE (au 32 h))]
theorem Kc (h:List Int):qi h=bE (au 32 h):=rfl
theorem xq {α β:Type} {g:α→List β}: ∀{l:List α} {s:List β},l.foldl (fun s a=>s++g a) s=s++l.flatMap g
 | [],s=>by simp
 | a::l,s=>by rw [List.foldl_cons,xq (l:=l)];simp
theorem Kd (s:aA):lu s=cT s:=by
 unfold lu
 simp only [ab,Kc,mR,xp,qj]
 rw [jf (l:=s.Leaves) (fun a s=> .inl (s++[a.B,a.R1,a.R2])) (fun q=>ah (((s.Path.L.length:Int) - 0).toNat+1) (fun (ag4:(Int×List aa)→aa) (p4:Int×List aa)=>(if (decide (p4.1<(s.Path.L.length:Int))) then ag4 ((p4.1+1),(p4.2++([bE (au 32 (gt s.Path.L p4.1))]:List aa))) else ⟨3,0,[],[cb s.Coin,aS [s.Node.Level,s.Node.Index],bE (au 32 s.Context.Payee),aS [s.Context.Time,s.Context.Number],aS q,⟨3,0,[],p4.2⟩]⟩)) (fun _=>default) (0,[⟨1,s.Path.Index,[],[]⟩])) (fun ag i q=>by by_cases h:i<(s.Leaves.length:Int)<;>simp [h]),jY,xq]
 rw [jf (l:=s.Path.L) (fun a q=> .inl (q++[bE (au 32 a)])) (fun q=>⟨3,0,[],[cb s.Coin,aS [s.Node.Level,s.Node.Index],bE (au 32 s.Context.Payee),aS [s.Context.Time,s.Context.Number],aS ([]++s.Leaves.flatMap fun x=> [x.B,x.R1,x.R2]),⟨3,0,[],q⟩]⟩) (fun ag i q=>by by_cases h:i<(s.Path.L.length:Int)<;>simp [h]),jY,xq]
 simp only [List.nil_append]
 have:(s.Path.L.flatMap fun a=> [bE (au 32 a)])=s.Path.L.map fun h=>bE (au 32 h):=by
  induction s.Path.L with
  | nil=>rfl
  | cons x l ih=>rw [List.flatMap_cons,ih];rfl
 rw [this]
 rfl
theorem n11: ¬(((1:Int) !=1)=true):=by decide
theorem qv {l:List aa}:hgt (bc l)=1+bC l:=by simp [bc,hgt]
theorem qw {l:List Int}:hgt (aS l)=1+l.length:=by
 have: ∀l:List Int,bC (l.map cR)=l.length:=by
  intro l
  induction l with
  | nil=>rfl
  | cons a l ih=>simp [bC,ih,cR,hgt];omega
 simp [aS,hgt,this]
theorem xr {b:List Int}:hgt (bE b)=1+b.length:=by simp [bE,hgt,bC]
theorem Cb {n:Int}:hgt (cR n)=1:=rfl
theorem tB {α:Type} {f:α→aa} {B:Nat}: ∀{l:List α},(∀x∈l,hgt (f x)≤B)→bC (l.map f)≤l.length*B
 | [],_=>by simp [bC]
 | a::l,h=>by
  have h1:=h a (by simp)
  have h2:=tB (l:=l) (fun x hx=>h x (by simp [hx]))
  simp only [List.map_cons,bC,List.length_cons,Nat.add_mul,Nat.one_mul];omega
theorem Ke {l:List bS}:(fj l).length=3*l.length:=by
 unfold fj
 induction l with
 | nil=>rfl
 | cons a l ih=>rw [List.flatMap_cons,List.length_append,ih];simp;omega
theorem Cc: ∀{l:List (List Int)},bC (l.map fun h=>bE (au 32 h))=33*l.length
 | []=>rfl
 | a::l=>by simp only [List.map_cons,bC,Cc (l:=l),xr,cq,List.length_cons];omega
theorem Kf (s:aA):hgt (cT s)=88+3*s.Leaves.length+33*s.Path.L.length:=by
 simp only [cT,cb,qv,bC,qw,xr,Cb,cq,Ke,Cc,List.length_cons,List.length_nil]
 omega
def tC (s:aA):Prop:=s.Leaves.length≤40∧s.Path.L.length≤20
theorem Kg {s:aA} (h:tC s):hgt (cT s)≤1000:=by
 rw [Kf];have:=h.1;have:=h.2;omega
theorem Cd {i:aa} {x:Bool} (h:x=iA i):x=false∨ ∀y∈i.L,y.L.length≤1000:=by
 cases x with
 | false=>exact .inl rfl
 | true=>
  right
  rw [iH] at h
  intro y hy
  have hw:aQ i 8=true:=h.symm
  have hk:i.Kind=3:=by
   obtain ⟨k,n,b,l⟩:=i
   simp only [aQ] at hw
   by_cases e1:k=1
   ·subst e1;simp at hw;obtain ⟨_,rfl⟩:=hw;cases hy
   by_cases e2:k=2
   ·subst e2;simp at hw;obtain ⟨_,rfl⟩:=hw;cases hy
   by_cases e3:k=3
   ·exact e3
   ·simp [e1,e2,e3] at hw
  have ei:=tz hw hk
  have hy8:=lL (ei▸hw) (by omega) y hy
  obtain ⟨k,n,b,l⟩:=y
  simp only [aQ] at hy8
  by_cases e1:k=1
  ·subst e1;simp at hy8;obtain ⟨_,rfl⟩:=hy8;simp
  by_cases e2:k=2
  ·subst e2;simp at hy8;obtain ⟨_,rfl⟩:=hy8;simp
  by_cases e3:k=3
  ·subst e3;simp at hy8;exact hy8.2.2.1
  ·simp [e1,e2,e3] at hy8
theorem Ce {x:Bool} {l:List aa} {j:Int} (h:x=false∨ ∀y∈l,y.L.length≤1000) (hx:x=true) (hj:j.toNat<l.length):(gt l j).L.length≤1000:=by
 rcases h with h|h
 ·rw [hx] at h;cases h
 ·exact h _ (cm hj)
theorem Kh {k:Nat} {v:Int} {t:List Int}:(List.replicate (k+1) (0:Int)++t).set k v=List.replicate k 0++v::t:=by
 rw [List.replicate_succ',List.append_assoc,List.set_append_right _ _ (by simp)]
 simp
theorem Cf {F:(Int×Int×List Int→List Int)→Int×Int×List Int→List Int} {d:Int×Int×List Int→List Int}
  (hF: ∀ag p,F ag p=if decide (p.2.1≥0)=true then ag (cc .u64 p.1 256,p.2.1 - 1,st p.2.2 p.2.1 (ae .u8 (bJ .u64 p.1 256))) else p.2.2):
  ∀(k fuel:Nat) (n:Int) (t:List Int),0≤n→n<18446744073709551616→k<fuel→ah fuel F d (n,(k:Int) - 1,List.replicate k 0++t)=be k n++t
 | 0,fuel,n,t,_,_,hf=>by
  obtain ⟨m,rfl⟩: ∃m,fuel=m+1:=⟨fuel - 1,by omega⟩
  rw [ah,hF];simp [be]
 | k+1,fuel,n,t,h0,h1,hf=>by
  obtain ⟨m,rfl⟩: ∃m,fuel=m+1:=⟨fuel - 1,by omega⟩
  rw [ah,hF,if_pos (by simp)]
  have e1:cc .u64 n 256=n/256:=by
   unfold cc
   rw [Int.tdiv_eq_ediv_of_nonneg h0]
   exact wrap_u64 (by omega) (by omega)
  have e2:ae .u8 (bJ .u64 n 256)=n% 256:=by
   unfold ae bJ
   rw [Int.tmod_eq_emod_of_nonneg h0]
   show (n% 256)% 256=n% 256
   omega
  have e3:((k+1:Nat):Int) - 1=(k:Int):=by omega
  simp only [e1,e2,e3]
  rw [show st (List.replicate (k+1) 0++t) (k:Int) (n% 256)=List.replicate k 0++(n% 256)::t from Kh]
  rw [Cf hF k m (n/256) _ (by omega) (by omega) (by omega)]
  simp [be]
theorem xt {n size:Int} (h0:0≤n∧n<18446744073709551616) (h1:0≤size):lz n size=be size.toNat n:=by
 unfold lz
 have:=Cf (d:=fun _=>default) (fun ag p=>rfl) size.toNat ((size - 1+1).toNat+1) n [] h0.1 h0.2 (by omega)
 rw [show ((size.toNat:Nat):Int)=size by omega,List.append_nil,List.append_nil] at this
 exact this
theorem xu (n:Int):0≤ae .u64 n∧ae .u64 n<18446744073709551616:=by
 have:=qK .u64 n
 rw [pA] at this
 omega
theorem Cg: ∀{l:List aa} {o:List Int},l.foldl (fun s a=>s++bz a) o=o++ep l
 | [],o=>by simp [ep]
 | a::l,o=>by simp only [List.foldl_cons,Cg (l:=l),ep,List.append_assoc]
theorem Ki (i:aa):qm i=bz i:=by
 obtain ⟨k,n,b,l⟩:=i
 unfold qm
 simp only [ab,bz,xt (xu _) (by omega:(0:Int)≤8),xt (xu _) (by omega:(0:Int)≤4)]
 have e8:be (8:Int).toNat (ae .u64 n)=be 8 n:=BW
 have e4:be (4:Int).toNat (ae .u64 (b.length:Int))=be 4 b.length:=tq
 have e5:be (4:Int).toNat (ae .u64 (l.length:Int))=be 4 l.length:=tq
 simp only [e8,e4,e5]
 split
 ·rfl
 split
 ·simp
 ·have:=jf (l:=l) (d:=fun _=>default) (fun x o=> .inl (o++bz x)) (fun o=>o) (F:=fun (ag11:(Int×List Int)→(List Int)) (p11:Int×List Int)=>(if (decide (p11.1<(l.length:Int))) then ag11 ((p11.1+1),(p11.2++bz (gt l p11.1))) else p11.2)) (s:=[3]++be 4 l.length) (fun ag i s=>by simp only [decide_eq_true_eq])
  rw [this,jY,Cg];simp
theorem Kj {i:aa} {w:Int} (h0:0≤w) (h1:w≤8):ql i w=j4 i w:=by
 obtain ⟨k,n,b,l⟩:=i
 unfold ql
 simp only [ab]
 rw [Jj (l:=l) (c:=fun x=>j4 x (w+1)) (X:=true) (fun ag p=>by simp only [gc])]
 unfold j4
 simp only [aQ,pR]
 have e:(8:Int) - (w+1)=8 - w - 1:=by omega
 simp only [e,Bool.and_true]
 by_cases k1:k=1
 ·subst k1;cases b<;>cases l<;>simp<;>omega
 by_cases k2:k=2
 ·subst k2;by_cases hn:n=0<;>cases l<;>simp [hn]<;>omega
 by_cases k3:k=3
 ·subst k3
  by_cases hn:n=0
  ·cases b with
   | nil=>
    by_cases hl:(l.length:Int)>1000
    ·have: ¬l.length≤1000:=by omega
     simp [hn,hl,this]
    ·have hl':l.length≤1000:=by omega
     by_cases hw:w=8
     ·subst hw;simp [hn]
     ·have:(0:Int)<8 - w:=by omega
      have hw8:w<8:=by omega
      simp [hn,hl,hl',hw,hw8]
   | cons x b=>
    have: ¬((b.length:Int)+1=0):=by omega
    simp [hn,this]
  ·simp [hn]
 ·simp [k1,k2,k3]
theorem Ch: ∀{l:List Int},isB l→ ∀{a:Int} {k:Nat},0≤a→a<256^k→k+l.length≤8→l.foldl (fun a x=>ak .u64 (aK .u64 256 a) (ae .u64 x)) a=bk a l
 | [],_,a,k,_,_,_=>rfl
 | x::l,h,a,k,h0,h1,h2=>by
  have hx:=h x (by simp)
  simp only [List.length_cons] at h2
  have h3:(256:Int)^k≤256^7:=(by decide: ∀k,k<8→(256:Int)^k≤256^7) k (by omega)
  have h4:(256:Int)^7=72057594037927936:=by decide
  simp only [List.foldl_cons,bk]
  have e:ak .u64 (aK .u64 256 a) (ae .u64 x)=256*a+x:=by
   unfold ak aK ae
   rw [wrap_u64 (a:=256*a) (by omega) (by omega),wrap_u64 (a:=x) (by omega) (by omega),wrap_u64 (by omega) (by omega)]
  rw [e]
  exact Ch (k:=k+1) (fun y hy=>h y (by simp [hy])) (by omega) (by rw [Int.pow_succ];omega) (by omega)
theorem xv {l:List Int} (h:isB l) (hl:l.length≤8):gO l=bk 0 l:=by
 unfold gO
 have:=Bj (l:=l) (d:=fun _=>default) (fun x a=> .inl (ak .u64 (aK .u64 256 a) (ae .u64 x))) (fun a=>a) (F:=fun (ag1:(Int×Int)→Int) (p1:Int×Int)=>(if (decide (p1.2<(l.length:Int))) then (ag1 ((ak .u64 (aK .u64 256 p1.1) (ae .u64 (gt l p1.2))),(p1.2+1))) else p1.1)) (s:=0) (fun ag i s=>by simp only [decide_eq_true_eq])
 rw [this,jY,Ch (k:=0) h (by omega) (by decide) (by omega)]
mutual
theorem Ci: ∀i:aa,(bz i).length≤9*hgt i
 | ⟨k,n,b,l⟩=>by
  have h:=Cj l
  simp only [bz,hgt]
  split
  ·simp only [List.length_cons,fu];omega
  split
  ·simp only [List.length_cons,List.length_append,fu];omega
  ·simp only [List.length_cons,List.length_append,fu];omega
theorem Cj: ∀l:List aa,(ep l).length≤9*bC l
 | []=>by simp [ep]
 | x::l=>by
  have h1:=Ci x
  have h2:=Cj l
  simp only [ep,bC,List.length_append];omega
end
theorem Kk {x:List Int} {i:aa} (h:x=bz i):x.length≤9*hgt i:=by rw [h];exact Ci i
theorem rnl {x:List Int} {n size:Int} (h:x=lz (ae .u64 n) size) (h1:decide (0≤size)=true):(x.length:Int)=size:=by
 have h2:0≤size:=by simpa using h1
 rw [h,xt (xu _) h2,fu];omega
theorem Kl {l:List aa} {i:Int} (h:i.toNat<l.length):bC (l.drop i.toNat)=hgt (gt l i)+bC (l.drop (i.toNat+1)):=by
 rw [List.drop_eq_getElem_cons h]
 simp [bC,gt,List.getD_eq_getElem?_getD,h]
theorem dW {l:List Int} {i j:Int} (h:isB l):isB (sl l i j):=fun x hx=>h x (List.mem_of_mem_drop (List.mem_of_mem_take hx))
theorem qx {l:List Int} {x:Int} (h:x=gO l) (hb:isB l):l.length>4∨(0≤ae .i64 x∧ae .i64 x≤4294967295):=by
 by_cases hl:l.length>4
 ·exact .inl hl
 ·right
  rw [h,xv hb (by omega)]
  have h1:=pQ hb
  have h2:(256:Int)^l.length≤256^4:=(by decide: ∀k,k<5→(256:Int)^k≤256^4) l.length (by omega)
  have h3:(256:Int)^4=4294967296:=by decide
  rw [kV (by omega) (by omega)]
  omega
theorem Km {b:List Int} {w:Int} {x:aa×List Int×Int} (h:x=ca b w) (hb:isB b):isB x.2.1:=by
 rw [h];unfold ca
 cases h1:rdI (8 - w).toNat b with
 | error e=>exact fun x hx=>by cases hx
 | ok v=>
  obtain ⟨i,r⟩:=v
  have h2:=(sV _ b i r hb h1).1
  intro y hy
  exact hb y (by rw [h2];exact List.mem_append_right _ hy)
theorem Ck {d:Nat} {b:List Int} (hb:isB b) {e:Int} (h:rdI d b= .error e):e≠0:=by
 have:=w6 d b hb
 rw [h] at this
 simp only [dL] at this
 intro he
 subst he
 simp_all
def tD (l:List aa):Except Int (List aa×List Int)→aa×List Int×Int
 | .ok (m,r)=>(⟨3,0,[],l++m⟩,r,0)
 | .error e=>(bT,[],e)
theorem Cl {d:Nat} {w n:Int} (hd:(8 - (w+1)).toNat=d) {F:(List Int×Int×aa×List aa→aa×List Int×Int)→List Int×Int×aa×List aa→aa×List Int×Int} {df:List Int×Int×aa×List aa→aa×List Int×Int}
  (hF: ∀ag p,F ag p=if decide (p.2.1<n)=true then (if ((ca p.1 (w+1)).2.2 !=0)=true then (bT,[],(ca p.1 (w+1)).2.2) else ag ((ca p.1 (w+1)).2.1,p.2.1+1,p.2.2.1,p.2.2.2++[(ca p.1 (w+1)).1])) else (⟨3,0,[],p.2.2.2⟩,p.1,0)):
  ∀(m fuel:Nat) (i:Int) (b:List Int) (q:aa) (l:List aa),isB b→n - i=m→m<fuel→ah fuel F df (b,i,q,l)=tD l (rdL (rdI d) m b)
 | 0,fuel,i,b,q,l,hb,hm,hf=>by
  obtain ⟨f,rfl⟩: ∃f,fuel=f+1:=⟨fuel - 1,by omega⟩
  have: ¬i<n:=by omega
  rw [ah,hF];simp [this,rdL,tD]
 | m+1,fuel,i,b,q,l,hb,hm,hf=>by
  obtain ⟨f,rfl⟩: ∃f,fuel=f+1:=⟨fuel - 1,by omega⟩
  have hi:i<n:=by omega
  rw [ah,hF]
  simp only [hi,decide_true,if_true]
  unfold ca
  rw [hd]
  simp only [rdL]
  cases hr:rdI d b with
  | error e=>have:=Ck hb hr;simp [this,tD]
  | ok v=>
   obtain ⟨x,r⟩:=v
   have hbr:isB r:=fun y hy=>hb y (by rw [(sV d b x r hb hr).1];exact List.mem_append_right _ hy)
   simp only [bne_self_eq_false,Bool.false_eq_true,if_false]
   rw [Cl hd hF m f (i+1) r q (l++[x]) hbr (by omega) (by omega)]
   cases rdL (rdI d) m r with
   | error e=>rfl
   | ok v=>obtain ⟨l2,r2⟩:=v;simp [tD]
theorem Kn {b:List Int} {w:Int}:ca b w=match rdG (if 8≤w then none else some (rdI (8 - (w+1)).toNat)) b with
  | .ok (i,r)=>(i,r,0)
  | .error e=>(bT,[],e):=by
 unfold ca
 by_cases h:8≤w
 ·rw [if_pos h,show (8 - w).toNat=0 by omega];rfl
 ·rw [if_neg h,show (8 - w).toNat=(8 - (w+1)).toNat+1 by omega];rfl
theorem Ko {b:List Int} {w:Int} (h0:0≤w) (h1:w≤8) (hb:isB b):iD b w=ca b w:=by
 rw [Kn]
 cases b with
 | nil=>simp [iD,rdG]
 | cons k r=>
  have hk:=hb k (by simp)
  have hr:isB r:=fun y hy=>hb y (by simp [hy])
  have e1:ae .i64 (gt (k::r) 0)=k:=by
   show ae .i64 k=k
   exact kV (by omega) (by omega)
  have e2:sl (k::r) 1 ((k::r).length:Int)=r:=by simp [sl]
  have e3:sl r 0 4=r.take 4:=by simp [sl]
  have e4:sl r 4 (r.length:Int)=r.drop 4:=by simp [sl];exact List.take_of_length_le (by simp)
  have e5:sl r 0 8=r.take 8:=by simp [sl]
  have e6:sl r 8 (r.length:Int)=r.drop 8:=by simp [sl];exact List.take_of_length_le (by simp)
  have e7: ∀v:Int,sl (r.drop 4) v ((r.drop 4).length:Int)=(r.drop 4).drop v.toNat:=fun v=>by unfold sl;exact List.take_of_length_le (by simp;omega)
  have e8: ∀v:Int,sl (r.drop 4) 0 v=(r.drop 4).take v.toNat:=fun v=>by simp [sl]
  have e0: ¬(((k::r).length:Int)=0):=by simp;omega
  have v4:gO (r.take 4)=bk 0 (r.take 4):=xv (od hr 4) (by simp;omega)
  have v8:gO (r.take 8)=bk 0 (r.take 8):=xv (od hr 8) (by simp;omega)
  unfold iD
  simp only [ab,im,e1,e2,e3,e4,e5,e6,e7,e8,v4,v8]
  rw [if_neg (by simpa using e0)]
  by_cases k1:k=1
  ·subst k1
   by_cases hl:r.length<8
   ·have:(r.length:Int)<8:=by omega
    simp [rdG,hl,this]
   ·have g1: ¬(r.length:Int)<8:=by omega
    have g2: ¬(r.length:Int)<4:=by omega
    simp [rdG,hl,g1,g2,Bx hr (by omega)]
  by_cases k2:k=2
  ·subst k2
   by_cases hl:r.length<4
   ·have:(r.length:Int)<4:=by omega
    simp [rdG,hl,this]
   ·have g2: ¬(r.length:Int)<4:=by omega
    have c4:=sY hr (by omega)
    have b4:=pQ (od hr 4)
    simp only [rdG,hl,g2,c4]
    by_cases h5:((r.length - 4:Nat):Int)<bk 0 (r.take 4)
    ·simp [h5]
    ·simp [h5]
  by_cases k3:k=3
  ·subst k3
   by_cases hw:w=8
   ·subst hw;simp [rdG]
   ·have hw': ¬8≤w:=by omega
    by_cases hl:r.length<4
    ·have:(r.length:Int)<4:=by omega
     simp [rdG,hl,this,hw,hw']
    ·have g2: ¬(r.length:Int)<4:=by omega
     have c4:=sY hr (by omega)
     have b4:=pQ (od hr 4)
     simp only [rdG,hl,g2,c4,hw,hw',if_false]
     by_cases h6:bk 0 (r.take 4)>1000
     ·simp [h6,hw]
     ·have hl2:=Cl (df:=fun _=>default) (w:=w) (n:=bk 0 (r.take 4)) rfl (fun ag p=>rfl) (bk 0 (r.take 4)).toNat ((bk 0 (r.take 4) - 0).toNat+1) 0 (r.drop 4) bT [] (w5 hr 4) (by omega) (by omega)
      simp [h6,hw]
      simp at hl2
      rw [hl2]
      cases rdL (rdI (8 - (w+1)).toNat) (bk 0 (r.take 4)).toNat (r.drop 4) with
      | error e=>rfl
      | ok v=>rfl
  ·have j1:k<1∨k>3:=by omega
   rcases j1 with j1|j1
   ·simp [rdG,k1,k2,k3,j1]
   ·have: ¬k<1:=by omega
    simp [rdG,k1,k2,k3,j1]
theorem xw {α:Type} [Inhabited α] {l:List α} {n:Nat} {i:Int} (h:i.toNat<n):gt (au n l) i=gt l i:=by
 have:=sS (l:=l) (k:=n) (i:=0) (j:=i.toNat) h
 unfold au
 rw [show gt (eG l n 0) i=(eG l n ((0:Nat):Int)).getD i.toNat default from rfl,this]
 unfold gt
 congr 1;omega
theorem xx (h:List Int):jk h=bE (au 32 h):=by
 unfold jk
 have:=sQ (fun x:Int=>x) (l:=au 32 h) (d:=fun _=>default) (E:=fun p=>bE p.2) (F:=fun (ag1:(Int×List Int)→aa) (p1:Int×List Int)=>(if (decide (p1.1<32)) then (ag1 ((p1.1+1),(p1.2++([(gt h p1.1)]:List Int)))) else bE p1.2)) (fun ag p=>by
  rw [cq]
  by_cases hp:p.1<32
  ·have h1:p.1.toNat<32:=by omega
   simp [hp,xw h1]
  ·simp [hp])
 rw [cq] at this
 rw [List.map_id'] at this
 exact this
theorem qy (l:List Int):dM l=aS l:=by
 unfold dM
 exact sQ (E:=fun p=>bc p.2) cR (fun ag p=>rfl)
theorem xy (c:br):jl c=cb c:=by
 unfold jl
 simp only [ab,qy,xx];rfl
theorem Cm {α β:Type} {f:α→β}: ∀{l:List α} {o:List β},l.foldl (fun s a=>s++[f a]) o=o++l.map f
 | [],o=>by simp
 | a::l,o=>by simp only [List.foldl_cons,Cm (l:=l)];simp
theorem Cn: ∀{l:List bS} {o:List Int},l.foldl (fun s x=>s++[x.B,x.R1,x.R2]) o=o++fj l
 | [],o=>by simp [fj]
 | a::l,o=>by simp only [List.foldl_cons,Cn (l:=l)];simp [fj]
theorem Kq (s:aA):ke s=cT s:=by
 unfold ke
 simp only [ab,qy,xx,xy,qk]
 have h2: ∀L:List Int,ah (((s.Path.L.length:Int) - 0).toNat+1) (fun (ag4:(Int×List aa)→aa) (p4:Int×List aa)=>(if (decide (p4.1<(s.Path.L.length:Int))) then ag4 ((p4.1+1),(p4.2++[bE (au 32 (gt s.Path.L p4.1))])) else bc [cb s.Coin,aS [s.Node.Level,s.Node.Index],bE (au 32 s.Context.Payee),aS [s.Context.Time,s.Context.Number],aS L,bc p4.2])) (fun _=>default) (0,[cR s.Path.Index])=bc [cb s.Coin,aS [s.Node.Level,s.Node.Index],bE (au 32 s.Context.Payee),aS [s.Context.Time,s.Context.Number],aS L,bc (cR s.Path.Index::s.Path.L.map fun h=>bE (au 32 h))]:=fun L=>by
  have:=jf (l:=s.Path.L) (d:=fun _=>default) (fun h o=> .inl (o++[bE (au 32 h)])) (fun o=>bc [cb s.Coin,aS [s.Node.Level,s.Node.Index],bE (au 32 s.Context.Payee),aS [s.Context.Time,s.Context.Number],aS L,bc o]) (F:=fun (ag4:(Int×List aa)→aa) (p4:Int×List aa)=>(if (decide (p4.1<(s.Path.L.length:Int))) then ag4 ((p4.1+1),(p4.2++[bE (au 32 (gt s.Path.L p4.1))])) else bc [cb s.Coin,aS [s.Node.Level,s.Node.Index],bE (au 32 s.Context.Payee),aS [s.Context.Time,s.Context.Number],aS L,bc p4.2])) (s:=[cR s.Path.Index]) (fun ag i s=>by simp only [decide_eq_true_eq])
  rw [this,jY,Cm];rfl
 have h1:=jf (l:=s.Leaves) (d:=fun _=>default) (fun x o=> .inl (o++[x.B,x.R1,x.R2])) (fun L=>bc [cb s.Coin,aS [s.Node.Level,s.Node.Index],bE (au 32 s.Context.Payee),aS [s.Context.Time,s.Context.Number],aS L,bc (cR s.Path.Index::s.Path.L.map fun h=>bE (au 32 h))]) (F:=fun (ag1:(Int×List Int)→aa) (p1:Int×List Int)=>(if (decide (p1.1<(s.Leaves.length:Int))) then (ag1 ((p1.1+1),(p1.2++([(gt s.Leaves p1.1).B,(gt s.Leaves p1.1).R1,(gt s.Leaves p1.1).R2]:List Int)))) else ah (((s.Path.L.length:Int) - 0).toNat+1) (fun (ag4:(Int×List aa)→aa) (p4:Int×List aa)=>(if (decide (p4.1<(s.Path.L.length:Int))) then ag4 ((p4.1+1),(p4.2++[bE (au 32 (gt s.Path.L p4.1))])) else bc [cb s.Coin,aS [s.Node.Level,s.Node.Index],bE (au 32 s.Context.Payee),aS [s.Context.Time,s.Context.Number],aS p1.2,bc p4.2])) (fun _=>default) (0,[cR s.Path.Index]))) (s:=[]) (fun ag i L=>by simp only [h2];simp only [decide_eq_true_eq])
 refine Eq.trans h1 ?_
 rw [jY,Cn];rfl
theorem Co (i:aa) (n:Int):dF i n=if i.Kind≠3∨(i.L.length:Int)≠n then ([],false) else cP (fun x o=>if x.Kind≠1 then .inr ([],false) else .inl (o++[x.N])) (fun o=>(o,true)) i.L []:=by
 unfold dF
 by_cases h1:i.Kind=3
 ·by_cases h2:(i.L.length:Int)=n
  ·subst h2
   have:=jf (l:=i.L) (d:=fun _=>default) (fun x o=>if x.Kind≠1 then .inr (([]:List Int),false) else .inl (o++[x.N])) (fun o=>(o,true)) (F:=fun (ag3:(Int×List Int)→((List Int)×Bool)) (p3:Int×List Int)=>(if (decide (p3.1<(i.L.length:Int))) then (if ((gt i.L p3.1).Kind !=1) then (([]:List Int),false) else (ag3 ((p3.1+1),(p3.2++([(gt i.L p3.1).N]:List Int))))) else (p3.2,true))) (s:=[]) (fun ag j s=>by
    simp only [decide_eq_true_eq,bne_iff_ne,ne_eq]
    by_cases hj:j<(i.L.length:Int)
    ·by_cases hk:(gt i.L j).Kind=1<;>simp [hj,hk]
    ·simp [hj])
   simp only [h1,bne_self_eq_false,Bool.false_eq_true,if_false]
   rw [this];simp
  ·simp [h1,h2]
 ·simp [h1]
theorem Cp: ∀{l:List aa} {o:List Int},(cP (fun x o=>if x.Kind≠1 then .inr (([]:List Int),false) else .inl (o++[x.N])) (fun o=>(o,true)) l o).2=false∨(cP (fun x o=>if x.Kind≠1 then .inr (([]:List Int),false) else .inl (o++[x.N])) (fun o=>(o,true)) l o).1.length=o.length+l.length
 | [],o=> .inr (by simp [cP])
 | x::l,o=>by
  by_cases h:x.Kind=1
  ·have:=Cp (l:=l) (o:=o++[x.N])
   simp only [cP,h,ne_eq,not_true_eq_false,if_false]
   rcases this with h1|h1
   ·exact .inl h1
   ·exact .inr (by rw [h1];simp;omega)
  ·exact .inl (by simp [cP,h])
theorem Kr {i:aa} {n:Int} {x:List Int×Bool} (h:x=dF i n):x.2=false∨(x.1.length:Int)=n:=by
 rw [Co] at h
 split at h
 ·rw [h];exact .inl rfl
 ·rename_i hc
  have h2:(i.L.length:Int)=n:=by
   by_cases h3:(i.L.length:Int)=n
   ·exact h3
   ·exact absurd (.inr h3) hc
  rcases Cp (l:=i.L) (o:=[]) with h1|h1
  ·rw [h];exact .inl h1
  ·rw [h];right;rw [h1];simp;omega
theorem jr: ∀{l:List aa},wfL (l.map aw)→ ∀j:Int,(gt l j).L.length≤1073741824:=by
 intro l h j
 have key: ∀x∈l,x.L.length≤1073741824:=by
  induction l with
  | nil=>intro x hx;cases hx
  | cons a l ih=>
   intro x hx
   simp only [List.map_cons,wfL] at h
   rcases List.mem_cons.1 hx with rfl|hx
   ·have h1:=h.1
    rw [aw] at h1
    simp only [wfV,wfL,List.length_map,io] at h1
    omega
   ·exact ih h.2 x hx
 by_cases hj:j.toNat<l.length
 ·exact key _ (cm hj)
 ·have h0:l[j.toNat]? =none:=List.getElem?_eq_none (by omega)
  have:gt l j=default:=by simp [gt,List.getD_eq_getElem?_getD,h0]
  rw [this]
  decide
instance PV {i:aa} {n:Int}:CF (dF i n) (fun x=>x.2=true→(x.1.length:Int)=n):=⟨fun h=>(Kr rfl).resolve_left (by rw [h];decide)⟩
theorem xz {α:Type} {f:aa→Option α}: ∀{l:List aa} {m:List α},dg f l=some m→m.length=l.length
 | [],m,h=>by cases h;rfl
 | x::l,m,h=>by
  simp only [dg] at h
  cases hx:f x with
  | none=>rw [hx] at h;cases h
  | some a=>
   rw [hx] at h
   cases hl:dg f l with
   | none=>rw [hl] at h;cases h
   | some m'=>
    rw [hl] at h;cases h
    simp [xz hl]
theorem ov {l m:List Int} (h1:isB l) (h2:isB m):isB (l++m):=fun x hx=>by
 rcases List.mem_append.1 hx with h|h
 ·exact h1 x h
 ·exact h2 x h
theorem Cq (c:br):hgt (cb c)≤100:=by
 simp [cb,bc,aS,cR,bE,hgt,bC,cq]
theorem xA: ∀{l m:List aa},bC (l++m)=bC l+bC m
 | [],m=>by simp [bC]
 | x::l,m=>by rw [List.cons_append,bC,bC,xA];omega
theorem Cr {α:Type}: ∀{l:List α},2*(cM l).length≤l.length
 | a::b::l=>by
  have:=Cr (l:=l)
  simp only [cM,List.length_cons];omega
 | []=>by simp [cM]
 | [_]=>by simp [cM]
theorem Ks {i:aa} {x:List Int×Int} (hx:x=aN i):x.1.length≤1000:=by
 subst hx
 rw [qu]
 cases hv:aQ i 8 with
 | false=>simp
 | true=>
 rw [if_neg (by decide)]
 by_cases hk:i.Kind=3
 ·rw [if_neg (by simp [hk])]
  have hl:=(tx (tz hv hk▸hv)).1
  cases hr:dg gQ i.L with
  | none=>simp [ct]
  | some m=>have:=xz hr;simp only [ct];omega
 ·rw [if_pos hk];simp
def le4 (l:List (List Int)):Prop:= ∀j:Int,(gt l j).length≤1000
theorem Kt:le4 [[],[],[],[]]:=fun j=>by
 have: ∀n:Nat,(([[],[],[],[]]:List (List Int)).getD n default).length=0:=by
  intro n
  match n with
  | 0|1|2|3=>rfl
  | n+4=>rfl
 show ((([[],[],[],[]]:List (List Int)).getD j.toNat default)).length≤1000
 rw [this];omega
theorem Ku {l:List (List Int)} {k:Int} {m:List Int} (h:le4 l) (hm:m.length≤1000):le4 (au 4 (st (au 4 l) k m)):=fun j=>by
 have key: ∀(n:Nat) (L:List (List Int)),(∀x∈L,x.length≤1000)→(L.getD n default).length≤1000:=by
  intro n L hL
  by_cases hn:n<L.length
  ·rw [List.getD_eq_getElem?_getD,List.getElem?_eq_getElem hn];exact hL _ (List.getElem_mem hn)
  ·rw [List.getD_eq_getElem?_getD,List.getElem?_eq_none (by omega)];decide
 have ha: ∀x∈au 4 l,x.length≤1000:=by
  intro x hx
  have e:au 4 l=[gt l 0,gt l 1,gt l 2,gt l 3]:=rfl
  rw [e] at hx
  simp only [List.mem_cons,List.not_mem_nil,or_false] at hx
  rcases hx with rfl|rfl|rfl|rfl<;>exact h _
 have hs: ∀x∈st (au 4 l) k m,x.length≤1000:=by
  intro x hx
  unfold st at hx
  rcases List.mem_or_eq_of_mem_set hx with h1|h1
  ·exact ha x h1
  ·rw [h1];exact hm
 refine key _ _ fun x hx=> ?_
 have e: ∀L:List (List Int),au 4 L=[gt L 0,gt L 1,gt L 2,gt L 3]:=fun _=>rfl
 rw [e] at hx
 simp only [List.mem_cons,List.not_mem_nil,or_false] at hx
 rcases hx with rfl|rfl|rfl|rfl<;>exact key _ _ hs
theorem xB (i:aa):mL i=aQ i 8:=by
 unfold mL
 simp only [ab,j4]
 rfl
theorem Kv {i:aa} {x:Bool} (h:x=mL i):x=false∨ ∀y∈i.L,y.L.length≤1000:=by
 rw [xB] at h
 exact Cd (i:=i) (by rw [h,iH])
theorem tE {i:aa} {x:List Int×Bool} (hx:x=jp i):x.1.length≤i.L.length:=by
 subst hx
 unfold jp
 split
 ·simp
 ·refine Bg (P:=fun (a:Int×List Int)=>0≤a.1∧a.1≤i.L.length∧(a.2.length:Int)=a.1) (Q:=fun r:List Int×Bool=>r.1.length≤i.L.length) (meas:=fun a=>((i.L.length:Int) - a.1).toNat) ?_ _ _ ?_ ?_
  rotate_left
  ·exact ⟨Int.le_refl _,show (0:Int)≤(i.L.length:Int) by omega,rfl⟩
  ·show ((i.L.length:Int) - 0).toNat<((i.L.length:Int) - 0).toNat+1
   omega
  rintro ag ⟨k,l⟩ ⟨g0,g1,g2⟩ hag
  simp only at g0 g1 g2 hag⊢
  by_cases hi:k<(i.L.length:Int)
  ·rw [if_pos (by simpa using hi)]
   split
   ·simp
   ·exact hag _ ⟨by simp only;omega,by simp only;omega,by simp only [List.length_append,List.length_cons,List.length_nil];omega⟩ (by simp only;omega)
  ·rw [if_neg (by simpa using hi)];simp only;omega
def xC (s:aA):Prop:=s.Leaves.length≤100000000∧s.Path.L.length≤100000000
theorem Cs {s:aA} (h:tC s):xC s:=⟨by have:=h.1;omega,by have:=h.2;omega⟩
theorem Kw {E:Env} {S:St} (t i:Nat) {n:Nat} {g:Bool} {d:V} (h:al S.F t=some (.ptr i 0)) (h2:al S.H i=some (.pvar n g d)):co E S ⟨(t,.pp n g d)::S.F,S.H,S.nx⟩:=by
 intro c0 c ρ F hs
 refine ⟨c,ρ,rfl,⟨hs.1.since,hs.1.gl,fun t' v ht=> ?_,hs.1.heap,hs.1.sep⟩,hs.2⟩
 simp only [al] at ht
 split at ht
 ·rename_i e;subst e;cases ht
  have h3:=hs.1.slot _ _ h
  obtain ⟨b,h4,h5⟩:=hs.1.heap _ _ h2
  simp only [rd] at h3⊢
  obtain ⟨b',h6,h7⟩:=h3
  rw [h4] at h6
  simp only [Option.some.injEq,Value.pointer.injEq,Addr.mk.injEq,and_true] at h6
  subst h6
  rw [h7]
  obtain ⟨b2,o,cs,e1,e2,e3,e4,e5⟩:=h5
  exact ⟨b2,o,cs,e1,e2,e3,e4,e5⟩
 ·exact hs.1.slot _ _ ht
def bY (X:List (List Int)):List Int:=X.flatMap fun p=> [gt p 0,gt p 1]
def ez:List Int→List (List Int)
 | a::b::l=> [a,b]::ez l
 | _=> []
def wI (w:aL):aa:=bc [aS [w.Phase,w.Number,w.Bank,w.Epoch,w.Denom,w.Depth],aS ([w.Secret.U,w.Secret.S]++bY w.Secret.X),aS [w.Factors.S,w.Factors.U,w.Factors.V],aS [w.View.M,w.View.Z,w.View.A,w.View.B,w.View.C,w.View.R],cb w.Coin]
theorem tF {X:List (List Int)} {R:Type} {E:Int×List Int→R} {F:(Int×List Int→R)→Int×List Int→R} {d:Int×List Int→R} {s:List Int}
  (hF: ∀ag p,F ag p=if decide (p.1<(X.length:Int))=true then ag (p.1+1,p.2++([gt (gt X p.1) 0,gt (gt X p.1) 1]:List Int)) else E p):
  ah (((X.length:Int) - 0).toNat+1) F d (0,s)=E ((X.length:Int),s++bY X):=by
 have key: ∀(n:Nat) (k:Nat) (s:List Int),X.length - k=n→k≤X.length→ ∀fuel,n<fuel→ah fuel F d ((k:Int),s)=E ((X.length:Int),s++bY (X.drop k)):=by
  intro n
  induction n with
  | zero=>
   intro k s h1 h2 fuel hf
   obtain ⟨f,rfl⟩: ∃f,fuel=f+1:=⟨fuel - 1,by omega⟩
   have:k=X.length:=by omega
   subst this
   rw [ah,hF,if_neg (by simp)]
   simp [bY]
  | succ n ih=>
   intro k s h1 h2 fuel hf
   obtain ⟨f,rfl⟩: ∃f,fuel=f+1:=⟨fuel - 1,by omega⟩
   rw [ah,hF,if_pos (by simp;omega)]
   have:=ih (k+1) (s++[gt (gt X k) 0,gt (gt X k) 1]) (by omega) (by omega) f (by omega)
   simp only [Int.natCast_add,Int.natCast_one] at this
   refine this.trans ?_
   have hk:k<X.length:=by omega
   rw [List.drop_eq_getElem_cons hk]
   have e:gt X (k:Int)=X[k]:=by simp [gt,List.getD_eq_getElem?_getD,hk]
   simp only [bY,List.flatMap_cons,List.append_assoc,e]
 have:=key _ 0 s rfl (Nat.zero_le _) (((X.length:Int) - 0).toNat+1) (by omega)
 simpa using this
theorem xD (w:aL):jj w=wI w:=by
 unfold jj
 refine (tF (X:=w.Secret.X) (fun ag p=>rfl)).trans ?_
 simp only [ab,mR,xp]
 rfl
theorem Kx (l:List Int):lx l=aS l:=by
 unfold lx
 exact sQ (E:=fun p=>bc p.2) cR (fun ag p=>rfl)
theorem Ky (w:aL):ly w=wI w:=by
 unfold ly
 refine (tF (X:=w.Secret.X) (fun ag p=>rfl)).trans ?_
 simp only [ab,Kx,xy]
 rfl
def fin (a s f v:List Int) (c:br) (X:List (List Int)):aL:=
 {Phase:=gt a 0,Number:=gt a 1,Bank:=gt a 2,Epoch:=gt a 3,Denom:=gt a 4,Depth:=gt a 5,Secret:={U:=gt s 0,S:=gt s 1,X:=X},Factors:={S:=gt f 0,U:=gt f 1,V:=gt f 2},View:={M:=gt v 0,Z:=gt v 1,A:=gt v 2,B:=gt v 3,C:=gt v 4,R:=gt v 5},Coin:=c}
def ow (a s f v:List Int) (c:br) (o:Bool):aL×Int:=
 if o=true∧a.length=6∧2≤s.length∧s.length% 2=0∧f.length=3∧v.length=6 then (fin a s f v c (ez (s.drop 2)),0) else (bw,3)
theorem ox: ∀X:List (List Int),(bY X).length=2*X.length
 | []=>rfl
 | p::X=>by have:=ox X;simp only [bY,List.flatMap_cons,List.length_append,List.length_cons,List.length_nil] at this⊢;omega
theorem Cu {σ α γ R:Type} [Inhabited α] (l:List α) (mk:γ→Int→σ) (stp:γ→α→γ) (g:γ→R) {F:(σ→R)→σ→R} {d:σ→R}
  (h1: ∀ag a (i:Int),0≤i→i<l.length→F ag (mk a i)=ag (mk (stp a (gt l i)) (i+1))) (h2: ∀ag a,F ag (mk a l.length)=g a):
  ∀(fuel i:Nat) (a:γ),i≤l.length→l.length - i<fuel→ah fuel F d (mk a i)=g ((l.drop i).foldl stp a)
 | 0,_,_,_,h=>absurd h (Nat.not_lt_zero _)
 | fuel+1,i,a,hi,hf=>by
  rw [ah]
  by_cases he:i=l.length
  ·subst he
   rw [h2,List.drop_length];rfl
  ·have hl:i<l.length:=by omega
   rw [h1 _ a i (by omega) (by omega)]
   have hg:gt l (i:Int)=l[i]:=by rw [oR,List.getD_eq_getElem?_getD,List.getElem?_eq_getElem hl];rfl
   rw [List.drop_eq_getElem_cons hl,List.foldl_cons,←hg]
   exact Cu l mk stp g h1 h2 fuel (i+1) _ hl (by omega)
theorem oy {σ α γ R:Type} [Inhabited α] (l:List α) (mk:γ→Int→σ) (stp:γ→α→γ) (g:γ→R) {F:(σ→R)→σ→R} {d:σ→R} {a:γ}
  (h1: ∀ag a (i:Int),0≤i→i<l.length→F ag (mk a i)=ag (mk (stp a (gt l i)) (i+1))) (h2: ∀ag a,F ag (mk a l.length)=g a):
  ah (((l.length:Int) - 0).toNat+1) F d (mk a 0)=g (l.foldl stp a):=by
 have h:=Cu l mk stp g (d:=d) h1 h2 (((l.length:Int) - 0).toNat+1) 0 a (Nat.zero_le _) (by omega)
 rw [List.drop_zero] at h
 exact h
theorem mS {α β:Type} (f:α→β): ∀(l:List α) (a:List β),l.foldl (fun a x=>a++[f x]) a=a++l.map f
 | [],a=>by simp
 | x::l,a=>by rw [List.foldl_cons,mS f l,List.append_assoc];rfl
theorem mT {α β R:Type} [Inhabited α] {l:List α} (f:α→β) (g:List β→R) {F:(Int×List β→R)→Int×List β→R} {d:Int×List β→R} {s:List β}
  (hF: ∀ag i a,F ag (i,a)=if decide (i<(l.length:Int))=true then ag (i+1,a++[f (gt l i)]) else g a):
  ah (((l.length:Int) - 0).toNat+1) F d (0,s)=g (s++l.map f):=by
 rw [←mS]
 refine oy l (fun a i=>(i,a)) (fun a x=>a++[f x]) g (fun ag a i h0 h1=> ?_) (fun ag a=> ?_)
 ·rw [hF,if_pos (by simpa using h1)]
 ·rw [hF,if_neg (by simp)]
end Go.Proofs.YtiknkaadhomeiaaGreatDoor
