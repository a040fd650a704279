/- Texts of this proof, one after the other: SH, E1, RF. -/
import Derived.Ground.NamesProg
import Derived.Shelf.Strings.OnBuilder
import Derived.Shelf.Strconv.Itoa0
import Derived.Shelf.LaysM
import Derived.Shelf.LaysC
import Derived.Shelf.Strconv.Itoa3
import Derived.Test.YtgealhhkngbkbaaGreatDoorProg
import Derived.Test.YtgealhhkngbkbaaGreatDoorZ5
import Derived.Lib.AtoiErrMem
import Derived.Lib.AppendIntMem
import Derived.Lib.ItoaLen
import Derived.Shelf.Strconv.AtoiAll
import Derived.Shelf.Strconv.ErrVarAll
set_option linter.unusedSimpArgs false
set_option linter.unusedVariables false
namespace Go.Proofs
open Go.Shelf
def Tryz.lays129_ren:Go.Shelf.Ren:=⟨fun|129=>200|n=>n,fun|53=>170|3=>3|4=>4|46=>175|5=>5|9=>9|n=>n,fun|n=>n⟩
theorem Tryz.lays129:Go.Proofs.Lays.n129 Tryz.prog Tryz.lays129_ren:={
 mixed:=by kernel_rfl
 f129:=Tryz.func200.trans (congrArg some (by kernel_rfl))
 t3:=Tryz.underlying3
 a3:=Tryz.isAgg3
 z3:=Tryz.sizeOf3
 v3:=Tryz.zeroValue3
 t4:=Tryz.underlying4
 a4:=Tryz.isAgg4
 z4:=Tryz.sizeOf4
 v4:=Tryz.zeroValue4
 t5:=Tryz.underlying5
 a5:=Tryz.isAgg5
 z5:=Tryz.sizeOf5
 v5:=Tryz.zeroValue5
 t9:=Tryz.underlying9
 a9:=Tryz.isAgg9
 z9:=Tryz.sizeOf9
 v9:=Tryz.zeroValue9
 t46:=Tryz.underlying175
 a46:=Tryz.isAgg175
 z46:=Tryz.sizeOf175
 v46:=Tryz.zeroValue175
 t53:=Tryz.underlying170
 a53:=Tryz.isAgg170
 z53:=Tryz.sizeOf170
 v53:=Tryz.zeroValue170}
def Tryz.laysM171_ren:Go.Shelf.Ren:=⟨fun|171=>156|243=>185|246=>209|283=>227|284=>228|285=>229|286=>230|129=>200|317=>237|318=>238|319=>239|320=>240|337=>244|338=>149|n=>n,fun|3=>3|9=>9|2=>2|4=>4|171=>242|0=>0|53=>170|37=>99|5=>5|173=>244|212=>255|51=>40|20=>20|213=>256|46=>175|232=>41|233=>209|n=>n,fun|17=>9|18=>10|19=>2|n=>n⟩
theorem Tryz.laysM171:Go.Proofs.LaysM.n171 Tryz.prog Tryz.laysM171_ren:={
 mixed:=by kernel_rfl
 f129:=Tryz.func200.trans (congrArg some (by kernel_rfl))
 f171:=Tryz.func156.trans (congrArg some (by kernel_rfl))
 f243:=Tryz.func185.trans (congrArg some (by kernel_rfl))
 f246:=Tryz.func209.trans (congrArg some (by kernel_rfl))
 f283:=Tryz.func227.trans (congrArg some (by kernel_rfl))
 f284:=Tryz.func228.trans (congrArg some (by kernel_rfl))
 f285:=Tryz.func229.trans (congrArg some (by kernel_rfl))
 f286:=Tryz.func230.trans (congrArg some (by kernel_rfl))
 f317:=Tryz.func237.trans (congrArg some (by kernel_rfl))
 f318:=Tryz.func238.trans (congrArg some (by kernel_rfl))
 f319:=Tryz.func239.trans (congrArg some (by kernel_rfl))
 f320:=Tryz.func240.trans (congrArg some (by kernel_rfl))
 f337:=Tryz.func244.trans (congrArg some (by kernel_rfl))
 f338:=Tryz.func149.trans (congrArg some (by kernel_rfl))
 t0:=Tryz.underlying0
 a0:=Tryz.isAgg0
 z0:=Tryz.sizeOf0
 v0:=Tryz.zeroValue0
 t2:=Tryz.underlying2
 a2:=Tryz.isAgg2
 z2:=Tryz.sizeOf2
 v2:=Tryz.zeroValue2
 t3:=Tryz.underlying3
 a3:=Tryz.isAgg3
 z3:=Tryz.sizeOf3
 v3:=Tryz.zeroValue3
 t4:=Tryz.underlying4
 a4:=Tryz.isAgg4
 z4:=Tryz.sizeOf4
 v4:=Tryz.zeroValue4
 t5:=Tryz.underlying5
 a5:=Tryz.isAgg5
 z5:=Tryz.sizeOf5
 v5:=Tryz.zeroValue5
 t9:=Tryz.underlying9
 a9:=Tryz.isAgg9
 z9:=Tryz.sizeOf9
 v9:=Tryz.zeroValue9
 t20:=Tryz.underlying20
 a20:=Tryz.isAgg20
 z20:=Tryz.sizeOf20
 v20:=Tryz.zeroValue20
 t37:=Tryz.underlying99
 a37:=Tryz.isAgg99
 z37:=Tryz.sizeOf99
 v37:=Tryz.zeroValue99
 t46:=Tryz.underlying175
 a46:=Tryz.isAgg175
 z46:=Tryz.sizeOf175
 v46:=Tryz.zeroValue175
 t51:=Tryz.underlying40
 a51:=Tryz.isAgg40
 z51:=Tryz.sizeOf40
 v51:=Tryz.zeroValue40
 t53:=Tryz.underlying170
 a53:=Tryz.isAgg170
 z53:=Tryz.sizeOf170
 v53:=Tryz.zeroValue170
 t171:=Tryz.underlying242
 a171:=Tryz.isAgg242
 z171:=Tryz.sizeOf242
 v171:=Tryz.zeroValue242
 t173:=Tryz.underlying244
 a173:=Tryz.isAgg244
 z173:=Tryz.sizeOf244
 v173:=Tryz.zeroValue244
 t212:=Tryz.underlying255
 a212:=Tryz.isAgg255
 z212:=Tryz.sizeOf255
 v212:=Tryz.zeroValue255
 t213:=Tryz.underlying256
 a213:=Tryz.isAgg256
 z213:=Tryz.sizeOf256
 t232:=Tryz.underlying41
 a232:=Tryz.isAgg41
 z232:=Tryz.sizeOf41
 v232:=Tryz.zeroValue41
 t233:=Tryz.underlying209
 a233:=Tryz.isAgg209
 z233:=Tryz.sizeOf209
 v233:=Tryz.zeroValue209
 g17:=by kernel_rfl
 g18:=by kernel_rfl
 g19:=by kernel_rfl
 i0:=by kernel_rfl
 i2:=by kernel_rfl
 i3:=by kernel_rfl
 i4:=by kernel_rfl
 i5:=by kernel_rfl
 i9:=by kernel_rfl
 i20:=by kernel_rfl
 i37:=by kernel_rfl
 i46:=by kernel_rfl
 i51:=by kernel_rfl
 i53:=by kernel_rfl
 i171:=by kernel_rfl
 i173:=by kernel_rfl
 i212:=by kernel_rfl
 i232:=by kernel_rfl
 i233:=by kernel_rfl
 m17:=by kernel_rfl
 m18:=by kernel_rfl
 m19:=by kernel_rfl}
def Tryz.lays156_ren:Go.Shelf.Ren:=⟨fun|156=>119|165=>157|166=>158|169=>159|240=>186|241=>187|276=>210|277=>211|n=>n,fun|31=>144|9=>9|3=>3|4=>4|0=>0|20=>20|72=>178|76=>182|70=>176|37=>99|75=>181|127=>214|164=>231|5=>5|80=>184|n=>n,fun|n=>n⟩
theorem Tryz.lays156:Go.Proofs.Lays.n156 Tryz.prog Tryz.lays156_ren:={
 mixed:=by kernel_rfl
 f156:=Tryz.func119.trans (congrArg some (by kernel_rfl))
 f165:=Tryz.func157.trans (congrArg some (by kernel_rfl))
 f166:=Tryz.func158.trans (congrArg some (by kernel_rfl))
 f169:=Tryz.func159.trans (congrArg some (by kernel_rfl))
 f240:=Tryz.func186.trans (congrArg some (by kernel_rfl))
 f241:=Tryz.func187.trans (congrArg some (by kernel_rfl))
 f276:=Tryz.func210.trans (congrArg some (by kernel_rfl))
 f277:=Tryz.func211.trans (congrArg some (by kernel_rfl))
 t0:=Tryz.underlying0
 a0:=Tryz.isAgg0
 z0:=Tryz.sizeOf0
 v0:=Tryz.zeroValue0
 t3:=Tryz.underlying3
 a3:=Tryz.isAgg3
 z3:=Tryz.sizeOf3
 v3:=Tryz.zeroValue3
 t4:=Tryz.underlying4
 a4:=Tryz.isAgg4
 z4:=Tryz.sizeOf4
 v4:=Tryz.zeroValue4
 t9:=Tryz.underlying9
 a9:=Tryz.isAgg9
 z9:=Tryz.sizeOf9
 v9:=Tryz.zeroValue9
 t20:=Tryz.underlying20
 a20:=Tryz.isAgg20
 z20:=Tryz.sizeOf20
 v20:=Tryz.zeroValue20
 t31:=Tryz.underlying144
 a31:=Tryz.isAgg144
 z31:=Tryz.sizeOf144
 v31:=Tryz.zeroValue144
 t37:=Tryz.underlying99
 a37:=Tryz.isAgg99
 z37:=Tryz.sizeOf99
 v37:=Tryz.zeroValue99
 t70:=Tryz.underlying176
 a70:=Tryz.isAgg176
 z70:=Tryz.sizeOf176
 v70:=Tryz.zeroValue176
 t72:=Tryz.underlying178
 a72:=Tryz.isAgg178
 z72:=Tryz.sizeOf178
 v72:=Tryz.zeroValue178
 t75:=Tryz.underlying181
 a75:=Tryz.isAgg181
 z75:=Tryz.sizeOf181
 v75:=Tryz.zeroValue181
 t76:=Tryz.underlying182
 a76:=Tryz.isAgg182
 z76:=Tryz.sizeOf182
 v76:=Tryz.zeroValue182
 t127:=Tryz.underlying214
 a127:=Tryz.isAgg214
 z127:=Tryz.sizeOf214
 v127:=Tryz.zeroValue214
 t164:=Tryz.underlying231
 a164:=Tryz.isAgg231
 z164:=Tryz.sizeOf231
 v164:=Tryz.zeroValue231}
theorem Tryz.Builder_Extra_156:Builder.Extra Tryz.prog Tryz.lays156_ren:={
 sizeBuilder:=by kernel_rfl
 liesBuilder:=by kernel_rfl
 t5:=Tryz.underlying5
 a5:=Tryz.isAgg5
 z5:=Tryz.sizeOf5
 v5:=Tryz.zeroValue5
 infoByte:=by kernel_rfl
 cellsByte:=by kernel_rfl
 sizeByte:=by kernel_rfl
 neB5:=by decide}
def Tryz.laysC172_ren:Go.Shelf.Ren:=⟨fun|172=>179|244=>206|245=>207|247=>222|279=>223|280=>224|281=>225|282=>226|287=>234|316=>235|171=>156|205=>236|321=>242|322=>243|243=>185|246=>209|283=>227|284=>228|285=>229|286=>230|129=>200|317=>237|318=>238|319=>239|320=>240|337=>244|338=>149|n=>n,fun|9=>9|3=>3|75=>181|76=>182|4=>4|5=>5|167=>236|37=>99|0=>0|85=>237|2=>2|168=>239|53=>170|175=>248|46=>175|210=>252|127=>214|145=>262|143=>260|21=>21|171=>242|173=>244|212=>255|51=>40|20=>20|213=>256|232=>41|233=>209|80=>184|n=>n,fun|15=>7|16=>8|17=>9|18=>10|19=>2|n=>n⟩
theorem Tryz.laysC172:Go.Proofs.LaysC.n172 Tryz.prog Tryz.laysC172_ren:={
 mixed:=by kernel_rfl
 f129:=Tryz.func200.trans (congrArg some (by kernel_rfl))
 f171:=Tryz.func156.trans (congrArg some (by kernel_rfl))
 f172:=Tryz.func179.trans (congrArg some (by kernel_rfl))
 f205:=Tryz.func236.trans (congrArg some (by kernel_rfl))
 f243:=Tryz.func185.trans (congrArg some (by kernel_rfl))
 f244:=Tryz.func206.trans (congrArg some (by kernel_rfl))
 f245:=Tryz.func207.trans (congrArg some (by kernel_rfl))
 f246:=Tryz.func209.trans (congrArg some (by kernel_rfl))
 f247:=Tryz.func222.trans (congrArg some (by kernel_rfl))
 f279:=Tryz.func223.trans (congrArg some (by kernel_rfl))
 f280:=Tryz.func224.trans (congrArg some (by kernel_rfl))
 f281:=Tryz.func225.trans (congrArg some (by kernel_rfl))
 f282:=Tryz.func226.trans (congrArg some (by kernel_rfl))
 f283:=Tryz.func227.trans (congrArg some (by kernel_rfl))
 f284:=Tryz.func228.trans (congrArg some (by kernel_rfl))
 f285:=Tryz.func229.trans (congrArg some (by kernel_rfl))
 f286:=Tryz.func230.trans (congrArg some (by kernel_rfl))
 f287:=Tryz.func234.trans (congrArg some (by kernel_rfl))
 f316:=Tryz.func235.trans (congrArg some (by kernel_rfl))
 f317:=Tryz.func237.trans (congrArg some (by kernel_rfl))
 f318:=Tryz.func238.trans (congrArg some (by kernel_rfl))
 f319:=Tryz.func239.trans (congrArg some (by kernel_rfl))
 f320:=Tryz.func240.trans (congrArg some (by kernel_rfl))
 f321:=Tryz.func242.trans (congrArg some (by kernel_rfl))
 f322:=Tryz.func243.trans (congrArg some (by kernel_rfl))
 f337:=Tryz.func244.trans (congrArg some (by kernel_rfl))
 f338:=Tryz.func149.trans (congrArg some (by kernel_rfl))
 t0:=Tryz.underlying0
 a0:=Tryz.isAgg0
 z0:=Tryz.sizeOf0
 v0:=Tryz.zeroValue0
 t2:=Tryz.underlying2
 a2:=Tryz.isAgg2
 z2:=Tryz.sizeOf2
 v2:=Tryz.zeroValue2
 t3:=Tryz.underlying3
 a3:=Tryz.isAgg3
 z3:=Tryz.sizeOf3
 v3:=Tryz.zeroValue3
 t4:=Tryz.underlying4
 a4:=Tryz.isAgg4
 z4:=Tryz.sizeOf4
 v4:=Tryz.zeroValue4
 t5:=Tryz.underlying5
 a5:=Tryz.isAgg5
 z5:=Tryz.sizeOf5
 v5:=Tryz.zeroValue5
 t9:=Tryz.underlying9
 a9:=Tryz.isAgg9
 z9:=Tryz.sizeOf9
 v9:=Tryz.zeroValue9
 t20:=Tryz.underlying20
 a20:=Tryz.isAgg20
 z20:=Tryz.sizeOf20
 v20:=Tryz.zeroValue20
 t21:=Tryz.underlying21
 a21:=Tryz.isAgg21
 z21:=Tryz.sizeOf21
 v21:=Tryz.zeroValue21
 t37:=Tryz.underlying99
 a37:=Tryz.isAgg99
 z37:=Tryz.sizeOf99
 v37:=Tryz.zeroValue99
 t46:=Tryz.underlying175
 a46:=Tryz.isAgg175
 z46:=Tryz.sizeOf175
 v46:=Tryz.zeroValue175
 t51:=Tryz.underlying40
 a51:=Tryz.isAgg40
 z51:=Tryz.sizeOf40
 v51:=Tryz.zeroValue40
 t53:=Tryz.underlying170
 a53:=Tryz.isAgg170
 z53:=Tryz.sizeOf170
 v53:=Tryz.zeroValue170
 t75:=Tryz.underlying181
 a75:=Tryz.isAgg181
 z75:=Tryz.sizeOf181
 v75:=Tryz.zeroValue181
 t76:=Tryz.underlying182
 a76:=Tryz.isAgg182
 z76:=Tryz.sizeOf182
 v76:=Tryz.zeroValue182
 t85:=Tryz.underlying237
 a85:=Tryz.isAgg237
 z85:=Tryz.sizeOf237
 v85:=Tryz.zeroValue237
 t127:=Tryz.underlying214
 a127:=Tryz.isAgg214
 z127:=Tryz.sizeOf214
 v127:=Tryz.zeroValue214
 t143:=Tryz.underlying260
 a143:=Tryz.isAgg260
 z143:=Tryz.sizeOf260
 v143:=Tryz.zeroValue260
 t145:=Tryz.underlying262
 a145:=Tryz.isAgg262
 z145:=Tryz.sizeOf262
 v145:=Tryz.zeroValue262
 t167:=Tryz.underlying236
 a167:=Tryz.isAgg236
 z167:=Tryz.sizeOf236
 v167:=Tryz.zeroValue236
 t168:=Tryz.underlying239
 a168:=Tryz.isAgg239
 z168:=Tryz.sizeOf239
 v168:=Tryz.zeroValue239
 t171:=Tryz.underlying242
 a171:=Tryz.isAgg242
 z171:=Tryz.sizeOf242
 v171:=Tryz.zeroValue242
 t173:=Tryz.underlying244
 a173:=Tryz.isAgg244
 z173:=Tryz.sizeOf244
 v173:=Tryz.zeroValue244
 t175:=Tryz.underlying248
 a175:=Tryz.isAgg248
 z175:=Tryz.sizeOf248
 v175:=Tryz.zeroValue248
 t210:=Tryz.underlying252
 a210:=Tryz.isAgg252
 z210:=Tryz.sizeOf252
 v210:=Tryz.zeroValue252
 t212:=Tryz.underlying255
 a212:=Tryz.isAgg255
 z212:=Tryz.sizeOf255
 v212:=Tryz.zeroValue255
 t213:=Tryz.underlying256
 a213:=Tryz.isAgg256
 z213:=Tryz.sizeOf256
 t232:=Tryz.underlying41
 a232:=Tryz.isAgg41
 z232:=Tryz.sizeOf41
 v232:=Tryz.zeroValue41
 t233:=Tryz.underlying209
 a233:=Tryz.isAgg209
 z233:=Tryz.sizeOf209
 v233:=Tryz.zeroValue209
 g15:=by kernel_rfl
 g16:=by kernel_rfl
 g17:=by kernel_rfl
 g18:=by kernel_rfl
 g19:=by kernel_rfl
 t80:=Tryz.underlying184
 a80:=Tryz.isAgg184
 z80:=Tryz.sizeOf184
 v80:=Tryz.zeroValue184
 i0:=by kernel_rfl
 i2:=by kernel_rfl
 i3:=by kernel_rfl
 i4:=by kernel_rfl
 i5:=by kernel_rfl
 i9:=by kernel_rfl
 i20:=by kernel_rfl
 i21:=by kernel_rfl
 i37:=by kernel_rfl
 i46:=by kernel_rfl
 i51:=by kernel_rfl
 i53:=by kernel_rfl
 i75:=by kernel_rfl
 i76:=by kernel_rfl
 i80:=by kernel_rfl
 i85:=by kernel_rfl
 i127:=by kernel_rfl
 i143:=by kernel_rfl
 i145:=by kernel_rfl
 i167:=by kernel_rfl
 i168:=by kernel_rfl
 i171:=by kernel_rfl
 i173:=by kernel_rfl
 i175:=by kernel_rfl
 i210:=by kernel_rfl
 i212:=by kernel_rfl
 i232:=by kernel_rfl
 i233:=by kernel_rfl
 m15:=by kernel_rfl
 m16:=by kernel_rfl
 m17:=by kernel_rfl
 m18:=by kernel_rfl
 m19:=by kernel_rfl
 c0:=by kernel_rfl
 c2:=by kernel_rfl
 c3:=by kernel_rfl
 c4:=by kernel_rfl
 c5:=by kernel_rfl
 c9:=by kernel_rfl
 c20:=by kernel_rfl
 c21:=by kernel_rfl
 c37:=by kernel_rfl
 c46:=by kernel_rfl
 c51:=by kernel_rfl
 c53:=by kernel_rfl
 c75:=by kernel_rfl
 c76:=by kernel_rfl
 c80:=by kernel_rfl
 c85:=by kernel_rfl
 c127:=by kernel_rfl
 c143:=by kernel_rfl
 c145:=by kernel_rfl
 c167:=by kernel_rfl
 c168:=by kernel_rfl
 c171:=by kernel_rfl
 c173:=by kernel_rfl
 c175:=by kernel_rfl
 c210:=by kernel_rfl
 c212:=by kernel_rfl
 c213:=by kernel_rfl
 c232:=by kernel_rfl
 c233:=by kernel_rfl}
theorem Tryz.bits_Len64 (x:Int) (w:World) (h0:0≤x) (h1:x≤18446744073709551615):
  Calls Tryz.prog 200 #[.int .u64 x] w fun e w'=>e= .returned (.int .i64 (Lib.bitLen x.toNat))∧w'=w:=Any.bits_Len64 Tryz.lays129 x w h0 h1
end Go.Proofs
namespace Go.Proofs.YtgealhhkngbkbaaGreatDoor
open Go.RowKit Go.Shelf Go.Lib
theorem wW {f:FuncId} {ws:List V} {r:V} (he: ∀xs w,(callFunc f xs).run En.P w= .ok (.enter f xs) w)
  (h: ∀(c:Cx) us,Gl En c→rdT ro0 c ws us→wfL ws→Calls En.P f us.toArray c.w fun e w'=> ∃v,e= .returned v∧ ∃hb:Below c.w.heap.size c.w w',rd ro0 (c.at w' hb.size) r v):aI En f ws r []:=
 ⟨he,fun c us _ hg hus=>(h c us hg hus (kG hus)).mono fun e w' ⟨v,e1,hb,hr⟩=>⟨v,c.at w' hb.size,ro0,e1,rfl,Cx.le_at hb,hr,⟨fun i b hb=>by simp at hb,fun i _=>rfl,fun i j bi bj k _ hb=>by simp at hb⟩⟩⟩
def kh (x:Int):Int:=(Lib.bitLen x.toNat:Int)
theorem J9 {f:FuncId} {ws:List V} {r:V} (he: ∀xs w,(callFunc f xs).run En.P w= .ok (.enter f xs) w)
  (h: ∀(c:Cx) us,Gl En c→rdT ro0 c ws us→wfL ws→Calls En.P f us.toArray c.w fun e w'=> ∃v,e= .returned v∧Below c.w.heap.size c.w w'∧ ∀c',rd ro0 c' r v):aI En f ws r []:=
 ⟨he,fun c us _ hg hus=>(h c us hg hus (kG hus)).mono fun e w' ⟨v,e1,hb,hr⟩=>⟨v,c.at w' hb.size,ro0,e1,rfl,Cx.le_at hb,hr _,⟨fun i b hb=>by simp at hb,fun i _=>rfl,fun i j bi bj k _ hb=>by simp at hb⟩⟩⟩
theorem J_ (x_:Int):aI En 200 [.int .u64 x_] (.int .i64 (kh x_)) []:=by
 refine J9 (show∀xs w,(callFunc 200 xs).run En.P w= .ok (.enter 200 xs) w from enters_of Tryz.func200 (by kernel_rfl) rfl) fun c us hg hus hw=> ?_
 simp only [rdT,rd] at hus
 obtain ⟨u0,c2,rfl,⟨rfl,l0⟩,rfl⟩:=hus
 have h0:0≤x_∧x_≤18446744073709551615:=l0
 refine (show Calls En.P 200 #[.int .u64 x_] c.w _ from Tryz.bits_Len64 x_ c.w h0.1 h0.2).mono ?_
 rintro e w' ⟨rfl,rfl⟩
 refine ⟨_,rfl,Below.refl _ _,fun c'=> ?_⟩
 have hl:=Lib.bitLen_le x_.toNat 64 (by decide) (by omega)
 simp only [rd]
 refine ⟨rfl,show (-9223372036854775808:Int)≤(Lib.bitLen x_.toNat:Int)∧(Lib.bitLen x_.toNat:Int)≤9223372036854775807 from ?_⟩
 constructor<;>omega
instance Qx (x_:Int):CM En (kh x_) 200 [.int .u64 x_] (fun y=> .int .i64 y) (fun _=> []):=⟨J_ x_⟩
def strconv_Itoa (n:Int):List UInt8:=Lib.itoa n
theorem Ka {c:Cx} (hg:Gl En c):Lib.TabIs En.P c.w "internal/strconv.uint64pow10" .u64 Lib.pow10Tab:=by
 obtain ⟨_,h⟩:=hg 9 _ rfl
 simp only [rd] at h
 exact h.1.2.2.2.2
theorem Kb (x_:Int):aI En 156 [.int .i64 x_] (.str (strconv_Itoa x_)) []:=by
 refine wW (show∀xs w,(callFunc 156 xs).run En.P w= .ok (.enter 156 xs) w from enters_of Tryz.func156 (by kernel_rfl) rfl) fun c us hg hus hw=> ?_
 simp only [rdT,rd] at hus
 obtain ⟨u0,c2,rfl,⟨rfl,l0⟩,rfl⟩:=hus
 have h0: -9223372036854775808≤x_∧x_≤9223372036854775807:=l0
 refine (show Calls En.P 156 #[.int .i64 x_] c.w _ from Any.strconv_Itoa Tryz.laysM171 x_ h0.1 h0.2 c.w (Ka hg)).mono ?_
 rintro e w' ⟨rfl,k,os,rfl⟩
 have hl:=Lib.itoa_length_le x_ h0.1 h0.2
 refine ⟨_,rfl,Lib.below_grow _ _ (Nat.le_refl _) k os,?_⟩
 simp only [rd]
 exact ⟨rfl,by unfold strconv_Itoa LEN;omega⟩
instance Qy (x_:Int):CM En (strconv_Itoa x_) 156 [.int .i64 x_] (fun y=> .str y) (fun _=> []):=⟨Kb x_⟩
def strings_Join (l:List (List UInt8)) (sep:List UInt8):List UInt8:=Lib.join l sep
theorem BJ {c:Cx}: ∀{l:List (List UInt8)} {cs:List Value},rdE c 1 false (l.map V.str) cs→cs=(l.map fun x=>(⟨x.toArray⟩:ByteArray)).map Value.string
 | [],_,h=>h
 | x::l,cs,h=>by
  simp only [List.map_cons,rdE] at h
  obtain ⟨c1,c2,rfl,⟨⟨h1,h2,h3⟩,h4⟩,h5⟩:=h
  match c1,h1 with
  | [u],_=>
   have h4':u= .string ⟨x.toArray⟩:=h4.1
   rw [BJ h5,h4'];rfl
theorem Kc (l:List (List UInt8)):(l.map fun x=>(⟨x.toArray⟩:ByteArray)).map (·.data.toList)=l:=by
 rw [List.map_map]
 conv=>rhs;rw [←List.map_id l]
 rfl
theorem Kd (l:List (List UInt8)) (sep:List UInt8) (hj:(Lib.join l sep).length≤1000000):aI En 119 [.sl none 1 false (l.map V.str),.str sep] (.str (strings_Join l sep)) []:=by
 refine wW (show∀xs w,(callFunc 119 xs).run En.P w= .ok (.enter 119 xs) w from enters_of Tryz.func119 (by kernel_rfl) rfl) fun c us hg hus hw=> ?_
 simp only [rdT,rd] at hus
 obtain ⟨u0,c2,rfl,⟨a,cap,rfl,hlen,hz,hs⟩,u1,c3,rfl,⟨rfl,l1⟩,rfl⟩:=hus
 rw [List.length_map] at hlen
 rcases hs with h0|⟨b,o,cs,rfl,hb,hX,hcell,hE⟩
 ·have h0':l=[]:=by cases l with
   | nil=>rfl
   | cons x l=>cases h0
  subst h0'
  refine (show Calls En.P 119 #[.slice a 0 cap,.string ⟨sep.toArray⟩] c.w _ from Any.strings_Join_none Tryz.lays156 Tryz.Builder_Extra_156 a cap ⟨sep.toArray⟩ c.w).mono ?_
  rintro e w' ⟨rfl,rfl⟩
  refine ⟨_,rfl,Below.refl _ _,?_⟩
  simp only [rd]
  exact ⟨rfl,Nat.zero_le _⟩
 ·have hcs:=BJ hE
  subst hcs
  have hn:((l.map V.str).length)=(l.map fun x=>(⟨x.toArray⟩:ByteArray)).length:=by simp
  rw [hn]
  generalize hbs:(l.map fun x=>(⟨x.toArray⟩:ByteArray))=bs at hcell
  have hdat:bs.map (·.data.toList)=l:=by rw [←hbs];exact Kc l
  have hbl:bs.length=l.length:=by rw [←hbs,List.length_map]
  have hc1: ∀(j:Nat) x,bs[j]? =some x→c.w.cell? ⟨b,o+j,none⟩=some (.string x):=fun j x hx=>hcell j _ (by rw [List.getElem?_map,hx];rfl)
  have hl1:(Lib.join (bs.map (·.data.toList)) (⟨sep.toArray⟩:ByteArray).data.toList).length≤140737488355328:=by
   rw [hdat]
   show (Lib.join l sep).length≤_
   omega
  have h47:bs.length≤140737488355328:=by
   have:=hlen.1
   rw [hbl]
   unfold LEN at this
   omega
  have hcall:=Any.strings_Join Tryz.lays156 Tryz.Builder_Extra_156 b o cap bs ⟨sep.toArray⟩ c.w hc1 hb h47 (by rw [hbl];exact hlen.2) hl1
  refine (show Calls En.P 119 #[.slice (some ⟨b,o,none⟩) bs.length cap,.string ⟨sep.toArray⟩] c.w _ from hcall).mono ?_
  rintro e w' ⟨rfl,hB⟩
  refine ⟨_,rfl,hB,?_⟩
  rw [hdat]
  simp only [rd]
  exact ⟨rfl,Nat.le_trans hj (by unfold LEN;omega)⟩
theorem wX (l:List (List UInt8)) (sep:List UInt8) (hp0:(Lib.join l sep).length≤1000000):CM En (strings_Join l sep) 119 [.sl none 1 false (l.map V.str),.str sep] (fun y=> .str y) (fun _=> []):=⟨Kd l sep hp0⟩
def gS (s:List UInt8):Int×Bool:=match Lib.atoiAll s with
 | .ok v=>(v,true)
 | .range=>(Lib.atoiSat s,false)
 | _=>(0,false)
theorem Ke {c:Cx} (hg:Gl En c):(∃t p,c.w.var? En.P "strconv.ErrSyntax" =some #[.iface t p])∧ ∃t p,c.w.var? En.P "strconv.ErrRange" =some #[.iface t p]:=by
 obtain ⟨_,h⟩:=hg 7 _ rfl
 obtain ⟨_,h2⟩:=hg 8 _ rfl
 simp only [rd] at h h2
 exact ⟨h.1.2.2.2.2,h2.1.2.2.2.2⟩
theorem Kf {s:List UInt8} {v:Int} (h:Lib.atoiAll s= .ok v): -9223372036854775808≤v∧v≤9223372036854775807:=by
 unfold Lib.atoiAll at h
 split at h
 ·cases h
 ·simp only at h
  split at h
  ·cases h
  ·cases h
  ·split at h
   ·cases h
   ·split at h
    ·cases h
    ·injection h with h
     split at h<;>omega
theorem Kg (s:List UInt8):aI En 179 [.str s] (.tup [.int .i64 (gS s).1,.ifc (gS s).2]) []:=by
 refine wW (show∀xs w,(callFunc 179 xs).run En.P w= .ok (.enter 179 xs) w from enters_of Tryz.func179 (by kernel_rfl) rfl) fun c us hg hus hw=> ?_
 simp only [rdT,rd] at hus
 obtain ⟨u0,c2,rfl,⟨rfl,l0⟩,rfl⟩:=hus
 have hsz:(⟨s.toArray⟩:ByteArray).size=s.length:=by show s.toArray.size=_;simp
 have hd:(⟨s.toArray⟩:ByteArray).data.toList=s:=by simp
 obtain ⟨⟨t1,p1,hv1⟩,t2,p2,hv2⟩:=Ke hg
 unfold LEN at l0
 unfold gS
 cases h:Lib.atoiAll s with
 | ok v=>
  refine (show Calls En.P 179 #[.string ⟨s.toArray⟩] c.w _ from Any.strconv_Atoi_ok Tryz.laysC172 ⟨s.toArray⟩ (by omega) v (by rw [hd];exact h) c.w).mono ?_
  rintro e w' ⟨rfl,hw'⟩
  have hB:Below c.w.heap.size c.w w':=by
   rcases hw' with rfl|⟨t,rfl⟩
   ·exact Below.refl _ _
   ·exact Lib.bytesWorld_below _ _ _
  refine ⟨_,rfl,hB,?_⟩
  simp only [rd,rdT]
  exact ⟨_,rfl,_,_,rfl,⟨rfl,Kf h⟩,_,_,rfl,vx,rfl⟩
 | range=>
  refine (show Calls En.P 179 #[.string ⟨s.toArray⟩] c.w _ from Any.strconv_Atoi_range_var Tryz.laysC172 ⟨s.toArray⟩ (by omega) (by rw [hd];exact h) t2 p2 c.w hv2).mono ?_
  rintro e w' ⟨N,rfl,_,_,hB⟩
  refine ⟨_,rfl,hB,?_⟩
  simp only [rd,rdT]
  exact ⟨_,rfl,_,_,rfl,⟨rfl,by rw [pg];unfold Lib.atoiSat;split<;>decide⟩,_,_,rfl,by unfold ib;rw [if_neg (by decide)];exact ⟨_,_,rfl⟩,rfl⟩
 | _=>
  refine (show Calls En.P 179 #[.string ⟨s.toArray⟩] c.w _ from Any.strconv_Atoi_syntax_var Tryz.laysC172 ⟨s.toArray⟩ (by omega) (by rw [hd];exact h) t1 p1 c.w hv1).mono ?_
  rintro e w' ⟨N,rfl,_,_,hB⟩
  refine ⟨_,rfl,hB,?_⟩
  simp only [rd,rdT]
  exact ⟨_,rfl,_,_,rfl,⟨rfl,by rw [pg];decide⟩,_,_,rfl,by unfold ib;rw [if_neg (by decide)];exact ⟨_,_,rfl⟩,rfl⟩
instance strconv_Atoi_ok (s:List UInt8):CM En (gS s) 179 [.str s] (fun y=> .tup [.int .i64 y.1,.ifc y.2]) (fun _=> []):=⟨Kg s⟩
end Go.Proofs.YtgealhhkngbkbaaGreatDoor
namespace Go.Proofs.YtgealhhkngbkbaaGreatDoor
open Go.RowKit
mutual
def ay:aa→Nat
 | ⟨_,_,l⟩=>1+cP l
def cP:List aa→Nat
 | []=>0
 | f::l=>ay f+cP l
end
mutual
def fy:av→Nat
 | ⟨_,_,l⟩=>1+pC l
def pC:List av→Nat
 | []=>0
 | t::l=>fy t+pC l
end
mutual
def dr:aa→Int→Bool×Int
 | ⟨_,r,l⟩,n=>if ap .i64 n 1<0 then (false,ap .i64 n 1) else if (r.Y.length:Int)>20 then (false,ap .i64 n 1) else if (r.Bases.length:Int)>20 then (false,ap .i64 n 1) else if r.Bases.any (fun x=>decide ((x.length:Int)>20))=true then (false,ap .i64 n 1) else lg l (ap .i64 n 1)
def lg:List aa→Int→Bool×Int
 | [],n=>(true,n)
 | f::l,n=>match dr f n with
  | (true,m)=>lg l m
  | (false,m)=>(false,m)
end
mutual
def dt:av→Int→Bool×Int
 | ⟨_,p,l⟩,n=>if ap .i64 n 1<0 then (false,ap .i64 n 1) else if (p.A.length:Int)>20 then (false,ap .i64 n 1) else if (p.Z.length:Int)>20 then (false,ap .i64 n 1) else lh l (ap .i64 n 1)
def lh:List av→Int→Bool×Int
 | [],n=>(true,n)
 | f::l,n=>match dt f n with
  | (true,m)=>lh l m
  | (false,m)=>(false,m)
end
mutual
def cb (G:aa→Bool):aa→Int→Int→Bool×Int
 | ⟨k,r,l⟩,d,n=>if ap .i64 n 1<0 then (false,ap .i64 n 1) else if d>6 then (false,ap .i64 n 1) else if G ⟨k,r,l⟩=false then (false,ap .i64 n 1) else fz G l (ao .i64 d 1) (ap .i64 n 1)
def fz (G:aa→Bool):List aa→Int→Int→Bool×Int
 | [],_,n=>(true,n)
 | f::l,d,n=>match cb G f d n with
  | (true,m)=>fz G l d m
  | (false,m)=>(false,m)
end
def jj {C:Type} (G:aa→C→Bool) (f:aa) (d n:Int) (c:C):Bool×Int:=cb (fun f=>G f c) f d n
mutual
def bf:aa→Int
 | ⟨k,r,l⟩=>if k=1 then ((gt r.Bases 0).length:Int) else jk l 0
def jk:List aa→Int→Int
 | [],a=>a
 | f::l,a=>jk l (b_ a (bf f))
end
end Go.Proofs.YtgealhhkngbkbaaGreatDoor
