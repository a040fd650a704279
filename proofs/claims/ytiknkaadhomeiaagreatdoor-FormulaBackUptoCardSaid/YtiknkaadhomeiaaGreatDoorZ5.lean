/- Texts of this proof, one after the other: SH, E1, RF, M, H1, H2, HF, HG, HT. -/
import Derived.Ground.NamesProg
import Derived.Shelf.Strings.OnBuilder
import Derived.Shelf.Strconv.Itoa0
import Derived.Shelf.LaysM
import Derived.Shelf.LaysC
import Derived.Shelf.Strconv.Itoa3
import Derived.Test.YtiknkaadhomeiaaGreatDoorProg
import Derived.Test.YtiknkaadhomeiaaGreatDoorZ4
import Derived.Lib.AtoiErrMem
import Derived.Lib.AppendIntMem
import Derived.Lib.ItoaLen
import Derived.Shelf.Strconv.AtoiAll
import Derived.Shelf.Strconv.ErrVarAll
import Derived.Lib.BitFns
import Derived.KernelRfl
import Derived.Lib.Join
set_option linter.unusedVariables false
set_option linter.unusedSimpArgs false
namespace Go.Proofs
open Go.Shelf
def Tryz.lays129_ren:Go.Shelf.Ren:=⟨fun|129=>286|n=>n,fun|53=>200|3=>3|4=>4|46=>225|5=>5|9=>9|n=>n,fun|n=>n⟩
theorem Tryz.lays129:Go.Proofs.Lays.n129 Tryz.prog Tryz.lays129_ren:={
 mixed:=by kernel_rfl
 f129:=Tryz.func286.trans (congrArg some (by kernel_rfl))
 t3:=Tryz.underlying3
 a3:=Tryz.isAgg3
 z3:=Tryz.sizeOf3
 v3:=Tryz.zeroValue3
 t4:=Tryz.underlying4
 a4:=Tryz.isAgg4
 z4:=Tryz.sizeOf4
 v4:=Tryz.zeroValue4
 t5:=Tryz.underlying5
 a5:=Tryz.isAgg5
 z5:=Tryz.sizeOf5
 v5:=Tryz.zeroValue5
 t9:=Tryz.underlying9
 a9:=Tryz.isAgg9
 z9:=Tryz.sizeOf9
 v9:=Tryz.zeroValue9
 t46:=Tryz.underlying225
 a46:=Tryz.isAgg225
 z46:=Tryz.sizeOf225
 v46:=Tryz.zeroValue225
 t53:=Tryz.underlying200
 a53:=Tryz.isAgg200
 z53:=Tryz.sizeOf200
 v53:=Tryz.zeroValue200}
def Tryz.laysM171_ren:Go.Shelf.Ren:=⟨fun|171=>139|243=>189|246=>226|283=>261|284=>262|285=>263|286=>264|129=>286|317=>285|318=>287|319=>288|320=>289|337=>299|338=>218|n=>n,fun|3=>3|9=>9|2=>2|4=>4|171=>344|0=>0|53=>200|37=>46|5=>5|173=>346|212=>362|51=>277|20=>20|213=>363|46=>225|232=>40|233=>338|n=>n,fun|17=>7|18=>10|19=>3|n=>n⟩
theorem Tryz.laysM171:Go.Proofs.LaysM.n171 Tryz.prog Tryz.laysM171_ren:={
 mixed:=by kernel_rfl
 f129:=Tryz.func286.trans (congrArg some (by kernel_rfl))
 f171:=Tryz.func139.trans (congrArg some (by kernel_rfl))
 f243:=Tryz.func189.trans (congrArg some (by kernel_rfl))
 f246:=Tryz.func226.trans (congrArg some (by kernel_rfl))
 f283:=Tryz.func261.trans (congrArg some (by kernel_rfl))
 f284:=Tryz.func262.trans (congrArg some (by kernel_rfl))
 f285:=Tryz.func263.trans (congrArg some (by kernel_rfl))
 f286:=Tryz.func264.trans (congrArg some (by kernel_rfl))
 f317:=Tryz.func285.trans (congrArg some (by kernel_rfl))
 f318:=Tryz.func287.trans (congrArg some (by kernel_rfl))
 f319:=Tryz.func288.trans (congrArg some (by kernel_rfl))
 f320:=Tryz.func289.trans (congrArg some (by kernel_rfl))
 f337:=Tryz.func299.trans (congrArg some (by kernel_rfl))
 f338:=Tryz.func218.trans (congrArg some (by kernel_rfl))
 t0:=Tryz.underlying0
 a0:=Tryz.isAgg0
 z0:=Tryz.sizeOf0
 v0:=Tryz.zeroValue0
 t2:=Tryz.underlying2
 a2:=Tryz.isAgg2
 z2:=Tryz.sizeOf2
 v2:=Tryz.zeroValue2
 t3:=Tryz.underlying3
 a3:=Tryz.isAgg3
 z3:=Tryz.sizeOf3
 v3:=Tryz.zeroValue3
 t4:=Tryz.underlying4
 a4:=Tryz.isAgg4
 z4:=Tryz.sizeOf4
 v4:=Tryz.zeroValue4
 t5:=Tryz.underlying5
 a5:=Tryz.isAgg5
 z5:=Tryz.sizeOf5
 v5:=Tryz.zeroValue5
 t9:=Tryz.underlying9
 a9:=Tryz.isAgg9
 z9:=Tryz.sizeOf9
 v9:=Tryz.zeroValue9
 t20:=Tryz.underlying20
 a20:=Tryz.isAgg20
 z20:=Tryz.sizeOf20
 v20:=Tryz.zeroValue20
 t37:=Tryz.underlying46
 a37:=Tryz.isAgg46
 z37:=Tryz.sizeOf46
 v37:=Tryz.zeroValue46
 t46:=Tryz.underlying225
 a46:=Tryz.isAgg225
 z46:=Tryz.sizeOf225
 v46:=Tryz.zeroValue225
 t51:=Tryz.underlying277
 a51:=Tryz.isAgg277
 z51:=Tryz.sizeOf277
 v51:=Tryz.zeroValue277
 t53:=Tryz.underlying200
 a53:=Tryz.isAgg200
 z53:=Tryz.sizeOf200
 v53:=Tryz.zeroValue200
 t171:=Tryz.underlying344
 a171:=Tryz.isAgg344
 z171:=Tryz.sizeOf344
 v171:=Tryz.zeroValue344
 t173:=Tryz.underlying346
 a173:=Tryz.isAgg346
 z173:=Tryz.sizeOf346
 v173:=Tryz.zeroValue346
 t212:=Tryz.underlying362
 a212:=Tryz.isAgg362
 z212:=Tryz.sizeOf362
 v212:=Tryz.zeroValue362
 t213:=Tryz.underlying363
 a213:=Tryz.isAgg363
 z213:=Tryz.sizeOf363
 t232:=Tryz.underlying40
 a232:=Tryz.isAgg40
 z232:=Tryz.sizeOf40
 v232:=Tryz.zeroValue40
 t233:=Tryz.underlying338
 a233:=Tryz.isAgg338
 z233:=Tryz.sizeOf338
 v233:=Tryz.zeroValue338
 g17:=by kernel_rfl
 g18:=by kernel_rfl
 g19:=by kernel_rfl
 i0:=by kernel_rfl
 i2:=by kernel_rfl
 i3:=by kernel_rfl
 i4:=by kernel_rfl
 i5:=by kernel_rfl
 i9:=by kernel_rfl
 i20:=by kernel_rfl
 i37:=by kernel_rfl
 i46:=by kernel_rfl
 i51:=by kernel_rfl
 i53:=by kernel_rfl
 i171:=by kernel_rfl
 i173:=by kernel_rfl
 i212:=by kernel_rfl
 i232:=by kernel_rfl
 i233:=by kernel_rfl
 m17:=by kernel_rfl
 m18:=by kernel_rfl
 m19:=by kernel_rfl}
def Tryz.lays156_ren:Go.Shelf.Ren:=⟨fun|156=>80|165=>140|166=>141|169=>142|240=>190|241=>191|276=>227|277=>228|n=>n,fun|31=>168|9=>9|3=>3|4=>4|0=>0|20=>20|72=>241|76=>245|70=>239|37=>46|75=>244|127=>289|164=>316|5=>5|80=>247|n=>n,fun|n=>n⟩
theorem Tryz.lays156:Go.Proofs.Lays.n156 Tryz.prog Tryz.lays156_ren:={
 mixed:=by kernel_rfl
 f156:=Tryz.func80.trans (congrArg some (by kernel_rfl))
 f165:=Tryz.func140.trans (congrArg some (by kernel_rfl))
 f166:=Tryz.func141.trans (congrArg some (by kernel_rfl))
 f169:=Tryz.func142.trans (congrArg some (by kernel_rfl))
 f240:=Tryz.func190.trans (congrArg some (by kernel_rfl))
 f241:=Tryz.func191.trans (congrArg some (by kernel_rfl))
 f276:=Tryz.func227.trans (congrArg some (by kernel_rfl))
 f277:=Tryz.func228.trans (congrArg some (by kernel_rfl))
 t0:=Tryz.underlying0
 a0:=Tryz.isAgg0
 z0:=Tryz.sizeOf0
 v0:=Tryz.zeroValue0
 t3:=Tryz.underlying3
 a3:=Tryz.isAgg3
 z3:=Tryz.sizeOf3
 v3:=Tryz.zeroValue3
 t4:=Tryz.underlying4
 a4:=Tryz.isAgg4
 z4:=Tryz.sizeOf4
 v4:=Tryz.zeroValue4
 t9:=Tryz.underlying9
 a9:=Tryz.isAgg9
 z9:=Tryz.sizeOf9
 v9:=Tryz.zeroValue9
 t20:=Tryz.underlying20
 a20:=Tryz.isAgg20
 z20:=Tryz.sizeOf20
 v20:=Tryz.zeroValue20
 t31:=Tryz.underlying168
 a31:=Tryz.isAgg168
 z31:=Tryz.sizeOf168
 v31:=Tryz.zeroValue168
 t37:=Tryz.underlying46
 a37:=Tryz.isAgg46
 z37:=Tryz.sizeOf46
 v37:=Tryz.zeroValue46
 t70:=Tryz.underlying239
 a70:=Tryz.isAgg239
 z70:=Tryz.sizeOf239
 v70:=Tryz.zeroValue239
 t72:=Tryz.underlying241
 a72:=Tryz.isAgg241
 z72:=Tryz.sizeOf241
 v72:=Tryz.zeroValue241
 t75:=Tryz.underlying244
 a75:=Tryz.isAgg244
 z75:=Tryz.sizeOf244
 v75:=Tryz.zeroValue244
 t76:=Tryz.underlying245
 a76:=Tryz.isAgg245
 z76:=Tryz.sizeOf245
 v76:=Tryz.zeroValue245
 t127:=Tryz.underlying289
 a127:=Tryz.isAgg289
 z127:=Tryz.sizeOf289
 v127:=Tryz.zeroValue289
 t164:=Tryz.underlying316
 a164:=Tryz.isAgg316
 z164:=Tryz.sizeOf316
 v164:=Tryz.zeroValue316}
theorem Tryz.Builder_Extra_156:Builder.Extra Tryz.prog Tryz.lays156_ren:={
 sizeBuilder:=by kernel_rfl
 liesBuilder:=by kernel_rfl
 t5:=Tryz.underlying5
 a5:=Tryz.isAgg5
 z5:=Tryz.sizeOf5
 v5:=Tryz.zeroValue5
 infoByte:=by kernel_rfl
 cellsByte:=by kernel_rfl
 sizeByte:=by kernel_rfl
 neB5:=by decide}
def Tryz.laysC172_ren:Go.Shelf.Ren:=⟨fun|172=>193|244=>230|245=>231|247=>265|279=>266|280=>267|281=>268|282=>269|287=>290|316=>291|171=>139|205=>292|321=>300|322=>301|243=>189|246=>226|283=>261|284=>262|285=>263|286=>264|129=>286|317=>285|318=>287|319=>288|320=>289|337=>299|338=>218|n=>n,fun|9=>9|3=>3|75=>244|76=>245|4=>4|5=>5|167=>348|37=>46|0=>0|85=>349|2=>2|168=>351|53=>200|175=>365|46=>225|210=>369|127=>289|145=>379|143=>377|21=>21|171=>344|173=>346|212=>362|51=>277|20=>20|213=>363|232=>40|233=>338|80=>247|n=>n,fun|15=>8|16=>9|17=>7|18=>10|19=>3|n=>n⟩
theorem Tryz.laysC172:Go.Proofs.LaysC.n172 Tryz.prog Tryz.laysC172_ren:={
 mixed:=by kernel_rfl
 f129:=Tryz.func286.trans (congrArg some (by kernel_rfl))
 f171:=Tryz.func139.trans (congrArg some (by kernel_rfl))
 f172:=Tryz.func193.trans (congrArg some (by kernel_rfl))
 f205:=Tryz.func292.trans (congrArg some (by kernel_rfl))
 f243:=Tryz.func189.trans (congrArg some (by kernel_rfl))
 f244:=Tryz.func230.trans (congrArg some (by kernel_rfl))
 f245:=Tryz.func231.trans (congrArg some (by kernel_rfl))
 f246:=Tryz.func226.trans (congrArg some (by kernel_rfl))
 f247:=Tryz.func265.trans (congrArg some (by kernel_rfl))
 f279:=Tryz.func266.trans (congrArg some (by kernel_rfl))
 f280:=Tryz.func267.trans (congrArg some (by kernel_rfl))
 f281:=Tryz.func268.trans (congrArg some (by kernel_rfl))
 f282:=Tryz.func269.trans (congrArg some (by kernel_rfl))
 f283:=Tryz.func261.trans (congrArg some (by kernel_rfl))
 f284:=Tryz.func262.trans (congrArg some (by kernel_rfl))
 f285:=Tryz.func263.trans (congrArg some (by kernel_rfl))
 f286:=Tryz.func264.trans (congrArg some (by kernel_rfl))
 f287:=Tryz.func290.trans (congrArg some (by kernel_rfl))
 f316:=Tryz.func291.trans (congrArg some (by kernel_rfl))
 f317:=Tryz.func285.trans (congrArg some (by kernel_rfl))
 f318:=Tryz.func287.trans (congrArg some (by kernel_rfl))
 f319:=Tryz.func288.trans (congrArg some (by kernel_rfl))
 f320:=Tryz.func289.trans (congrArg some (by kernel_rfl))
 f321:=Tryz.func300.trans (congrArg some (by kernel_rfl))
 f322:=Tryz.func301.trans (congrArg some (by kernel_rfl))
 f337:=Tryz.func299.trans (congrArg some (by kernel_rfl))
 f338:=Tryz.func218.trans (congrArg some (by kernel_rfl))
 t0:=Tryz.underlying0
 a0:=Tryz.isAgg0
 z0:=Tryz.sizeOf0
 v0:=Tryz.zeroValue0
 t2:=Tryz.underlying2
 a2:=Tryz.isAgg2
 z2:=Tryz.sizeOf2
 v2:=Tryz.zeroValue2
 t3:=Tryz.underlying3
 a3:=Tryz.isAgg3
 z3:=Tryz.sizeOf3
 v3:=Tryz.zeroValue3
 t4:=Tryz.underlying4
 a4:=Tryz.isAgg4
 z4:=Tryz.sizeOf4
 v4:=Tryz.zeroValue4
 t5:=Tryz.underlying5
 a5:=Tryz.isAgg5
 z5:=Tryz.sizeOf5
 v5:=Tryz.zeroValue5
 t9:=Tryz.underlying9
 a9:=Tryz.isAgg9
 z9:=Tryz.sizeOf9
 v9:=Tryz.zeroValue9
 t20:=Tryz.underlying20
 a20:=Tryz.isAgg20
 z20:=Tryz.sizeOf20
 v20:=Tryz.zeroValue20
 t21:=Tryz.underlying21
 a21:=Tryz.isAgg21
 z21:=Tryz.sizeOf21
 v21:=Tryz.zeroValue21
 t37:=Tryz.underlying46
 a37:=Tryz.isAgg46
 z37:=Tryz.sizeOf46
 v37:=Tryz.zeroValue46
 t46:=Tryz.underlying225
 a46:=Tryz.isAgg225
 z46:=Tryz.sizeOf225
 v46:=Tryz.zeroValue225
 t51:=Tryz.underlying277
 a51:=Tryz.isAgg277
 z51:=Tryz.sizeOf277
 v51:=Tryz.zeroValue277
 t53:=Tryz.underlying200
 a53:=Tryz.isAgg200
 z53:=Tryz.sizeOf200
 v53:=Tryz.zeroValue200
 t75:=Tryz.underlying244
 a75:=Tryz.isAgg244
 z75:=Tryz.sizeOf244
 v75:=Tryz.zeroValue244
 t76:=Tryz.underlying245
 a76:=Tryz.isAgg245
 z76:=Tryz.sizeOf245
 v76:=Tryz.zeroValue245
 t85:=Tryz.underlying349
 a85:=Tryz.isAgg349
 z85:=Tryz.sizeOf349
 v85:=Tryz.zeroValue349
 t127:=Tryz.underlying289
 a127:=Tryz.isAgg289
 z127:=Tryz.sizeOf289
 v127:=Tryz.zeroValue289
 t143:=Tryz.underlying377
 a143:=Tryz.isAgg377
 z143:=Tryz.sizeOf377
 v143:=Tryz.zeroValue377
 t145:=Tryz.underlying379
 a145:=Tryz.isAgg379
 z145:=Tryz.sizeOf379
 v145:=Tryz.zeroValue379
 t167:=Tryz.underlying348
 a167:=Tryz.isAgg348
 z167:=Tryz.sizeOf348
 v167:=Tryz.zeroValue348
 t168:=Tryz.underlying351
 a168:=Tryz.isAgg351
 z168:=Tryz.sizeOf351
 v168:=Tryz.zeroValue351
 t171:=Tryz.underlying344
 a171:=Tryz.isAgg344
 z171:=Tryz.sizeOf344
 v171:=Tryz.zeroValue344
 t173:=Tryz.underlying346
 a173:=Tryz.isAgg346
 z173:=Tryz.sizeOf346
 v173:=Tryz.zeroValue346
 t175:=Tryz.underlying365
 a175:=Tryz.isAgg365
 z175:=Tryz.sizeOf365
 v175:=Tryz.zeroValue365
 t210:=Tryz.underlying369
 a210:=Tryz.isAgg369
 z210:=Tryz.sizeOf369
 v210:=Tryz.zeroValue369
 t212:=Tryz.underlying362
 a212:=Tryz.isAgg362
 z212:=Tryz.sizeOf362
 v212:=Tryz.zeroValue362
 t213:=Tryz.underlying363
 a213:=Tryz.isAgg363
 z213:=Tryz.sizeOf363
 t232:=Tryz.underlying40
 a232:=Tryz.isAgg40
 z232:=Tryz.sizeOf40
 v232:=Tryz.zeroValue40
 t233:=Tryz.underlying338
 a233:=Tryz.isAgg338
 z233:=Tryz.sizeOf338
 v233:=Tryz.zeroValue338
 g15:=by kernel_rfl
 g16:=by kernel_rfl
 g17:=by kernel_rfl
 g18:=by kernel_rfl
 g19:=by kernel_rfl
 t80:=Tryz.underlying247
 a80:=Tryz.isAgg247
 z80:=Tryz.sizeOf247
 v80:=Tryz.zeroValue247
 i0:=by kernel_rfl
 i2:=by kernel_rfl
 i3:=by kernel_rfl
 i4:=by kernel_rfl
 i5:=by kernel_rfl
 i9:=by kernel_rfl
 i20:=by kernel_rfl
 i21:=by kernel_rfl
 i37:=by kernel_rfl
 i46:=by kernel_rfl
 i51:=by kernel_rfl
 i53:=by kernel_rfl
 i75:=by kernel_rfl
 i76:=by kernel_rfl
 i80:=by kernel_rfl
 i85:=by kernel_rfl
 i127:=by kernel_rfl
 i143:=by kernel_rfl
 i145:=by kernel_rfl
 i167:=by kernel_rfl
 i168:=by kernel_rfl
 i171:=by kernel_rfl
 i173:=by kernel_rfl
 i175:=by kernel_rfl
 i210:=by kernel_rfl
 i212:=by kernel_rfl
 i232:=by kernel_rfl
 i233:=by kernel_rfl
 m15:=by kernel_rfl
 m16:=by kernel_rfl
 m17:=by kernel_rfl
 m18:=by kernel_rfl
 m19:=by kernel_rfl
 c0:=by kernel_rfl
 c2:=by kernel_rfl
 c3:=by kernel_rfl
 c4:=by kernel_rfl
 c5:=by kernel_rfl
 c9:=by kernel_rfl
 c20:=by kernel_rfl
 c21:=by kernel_rfl
 c37:=by kernel_rfl
 c46:=by kernel_rfl
 c51:=by kernel_rfl
 c53:=by kernel_rfl
 c75:=by kernel_rfl
 c76:=by kernel_rfl
 c80:=by kernel_rfl
 c85:=by kernel_rfl
 c127:=by kernel_rfl
 c143:=by kernel_rfl
 c145:=by kernel_rfl
 c167:=by kernel_rfl
 c168:=by kernel_rfl
 c171:=by kernel_rfl
 c173:=by kernel_rfl
 c175:=by kernel_rfl
 c210:=by kernel_rfl
 c212:=by kernel_rfl
 c213:=by kernel_rfl
 c232:=by kernel_rfl
 c233:=by kernel_rfl}
theorem Tryz.bits_Len64 (x:Int) (w:World) (h0:0≤x) (h1:x≤18446744073709551615):
  Calls Tryz.prog 286 #[.int .u64 x] w fun e w'=>e= .returned (.int .i64 (Lib.bitLen x.toNat))∧w'=w:=Any.bits_Len64 Tryz.lays129 x w h0 h1
end Go.Proofs
namespace Go.Proofs.YtiknkaadhomeiaaGreatDoor
open Go.RowKit Go.Shelf Go.Lib
theorem qM {f:FuncId} {ws:List V} {r:V} (he: ∀xs w,(callFunc f xs).run En.P w= .ok (.enter f xs) w)
  (h: ∀(c:Cx) us,Gl En c→rdT ro0 c ws us→wfL ws→Calls En.P f us.toArray c.w fun e w'=> ∃v,e= .returned v∧ ∃hb:Below c.w.heap.size c.w w',rd ro0 (c.at w' hb.size) r v):aV En f ws r []:=
 ⟨he,fun c us _ hg hus=>(h c us hg hus (gZ hus)).mono fun e w' ⟨v,e1,hb,hr⟩=>⟨v,c.at w' hb.size,ro0,e1,rfl,Cx.le_at hb,hr,⟨fun i b hb=>by simp at hb,fun i _=>rfl,fun i j bi bj k _ hb=>by simp at hb⟩⟩⟩
def nu (x:Int):Int:=(Lib.bitLen x.toNat:Int)
theorem CB {f:FuncId} {ws:List V} {r:V} (he: ∀xs w,(callFunc f xs).run En.P w= .ok (.enter f xs) w)
  (h: ∀(c:Cx) us,Gl En c→rdT ro0 c ws us→wfL ws→Calls En.P f us.toArray c.w fun e w'=> ∃v,e= .returned v∧Below c.w.heap.size c.w w'∧ ∀c',rd ro0 c' r v):aV En f ws r []:=
 ⟨he,fun c us _ hg hus=>(h c us hg hus (gZ hus)).mono fun e w' ⟨v,e1,hb,hr⟩=>⟨v,c.at w' hb.size,ro0,e1,rfl,Cx.le_at hb,hr _,⟨fun i b hb=>by simp at hb,fun i _=>rfl,fun i j bi bj k _ hb=>by simp at hb⟩⟩⟩
theorem CC (x_:Int):aV En 286 [.int .u64 x_] (.int .i64 (nu x_)) []:=by
 refine CB (show∀xs w,(callFunc 286 xs).run En.P w= .ok (.enter 286 xs) w from enters_of Tryz.func286 (by kernel_rfl) rfl) fun c us hg hus hw=> ?_
 simp only [rdT,rd] at hus
 obtain ⟨u0,c2,rfl,⟨rfl,l0⟩,rfl⟩:=hus
 have h0:0≤x_∧x_≤18446744073709551615:=l0
 refine (show Calls En.P 286 #[.int .u64 x_] c.w _ from Tryz.bits_Len64 x_ c.w h0.1 h0.2).mono ?_
 rintro e w' ⟨rfl,rfl⟩
 refine ⟨_,rfl,Below.refl _ _,fun c'=> ?_⟩
 have hl:=Lib.bitLen_le x_.toNat 64 (by decide) (by omega)
 simp only [rd]
 refine ⟨rfl,show (-9223372036854775808:Int)≤(Lib.bitLen x_.toNat:Int)∧(Lib.bitLen x_.toNat:Int)≤9223372036854775807 from ?_⟩
 constructor<;>omega
instance Gh (x_:Int):CM En (nu x_) 286 [.int .u64 x_] (fun y=> .int .i64 y) (fun _=> []):=⟨CC x_⟩
def strconv_Itoa (n:Int):List UInt8:=Lib.itoa n
theorem CD {c:Cx} (hg:Gl En c):Lib.TabIs En.P c.w "internal/strconv.uint64pow10" .u64 Lib.pow10Tab:=by
 obtain ⟨_,h⟩:=hg 7 _ rfl
 simp only [rd] at h
 exact h.1.2.2.2.2
theorem CE (x_:Int):aV En 139 [.int .i64 x_] (.str (strconv_Itoa x_)) []:=by
 refine qM (show∀xs w,(callFunc 139 xs).run En.P w= .ok (.enter 139 xs) w from enters_of Tryz.func139 (by kernel_rfl) rfl) fun c us hg hus hw=> ?_
 simp only [rdT,rd] at hus
 obtain ⟨u0,c2,rfl,⟨rfl,l0⟩,rfl⟩:=hus
 have h0: -9223372036854775808≤x_∧x_≤9223372036854775807:=l0
 refine (show Calls En.P 139 #[.int .i64 x_] c.w _ from Any.strconv_Itoa Tryz.laysM171 x_ h0.1 h0.2 c.w (CD hg)).mono ?_
 rintro e w' ⟨rfl,k,os,rfl⟩
 have hl:=Lib.itoa_length_le x_ h0.1 h0.2
 refine ⟨_,rfl,Lib.below_grow _ _ (Nat.le_refl _) k os,?_⟩
 simp only [rd]
 exact ⟨rfl,by unfold strconv_Itoa LEN;omega⟩
instance Gi (x_:Int):CM En (strconv_Itoa x_) 139 [.int .i64 x_] (fun y=> .str y) (fun _=> []):=⟨CE x_⟩
def strings_Join (l:List (List UInt8)) (sep:List UInt8):List UInt8:=Lib.join l sep
theorem uY {c:Cx}: ∀{l:List (List UInt8)} {cs:List Value},rdE c 1 false (l.map V.str) cs→cs=(l.map fun x=>(⟨x.toArray⟩:ByteArray)).map Value.string
 | [],_,h=>h
 | x::l,cs,h=>by
  simp only [List.map_cons,rdE] at h
  obtain ⟨c1,c2,rfl,⟨⟨h1,h2,h3⟩,h4⟩,h5⟩:=h
  match c1,h1 with
  | [u],_=>
   have h4':u= .string ⟨x.toArray⟩:=h4.1
   rw [uY h5,h4'];rfl
theorem CG (l:List (List UInt8)):(l.map fun x=>(⟨x.toArray⟩:ByteArray)).map (·.data.toList)=l:=by
 rw [List.map_map]
 conv=>rhs;rw [←List.map_id l]
 rfl
theorem CH (l:List (List UInt8)) (sep:List UInt8) (hj:(Lib.join l sep).length≤1000000):aV En 80 [.sl none 1 false (l.map V.str),.str sep] (.str (strings_Join l sep)) []:=by
 refine qM (show∀xs w,(callFunc 80 xs).run En.P w= .ok (.enter 80 xs) w from enters_of Tryz.func80 (by kernel_rfl) rfl) fun c us hg hus hw=> ?_
 simp only [rdT,rd] at hus
 obtain ⟨u0,c2,rfl,⟨a,cap,rfl,hlen,hz,hs⟩,u1,c3,rfl,⟨rfl,l1⟩,rfl⟩:=hus
 rw [List.length_map] at hlen
 rcases hs with h0|⟨b,o,cs,rfl,hb,hX,hcell,hE⟩
 ·have h0':l=[]:=by cases l with
   | nil=>rfl
   | cons x l=>cases h0
  subst h0'
  refine (show Calls En.P 80 #[.slice a 0 cap,.string ⟨sep.toArray⟩] c.w _ from Any.strings_Join_none Tryz.lays156 Tryz.Builder_Extra_156 a cap ⟨sep.toArray⟩ c.w).mono ?_
  rintro e w' ⟨rfl,rfl⟩
  refine ⟨_,rfl,Below.refl _ _,?_⟩
  simp only [rd]
  exact ⟨rfl,Nat.zero_le _⟩
 ·have hcs:=uY hE
  subst hcs
  have hn:((l.map V.str).length)=(l.map fun x=>(⟨x.toArray⟩:ByteArray)).length:=by simp
  rw [hn]
  generalize hbs:(l.map fun x=>(⟨x.toArray⟩:ByteArray))=bs at hcell
  have hdat:bs.map (·.data.toList)=l:=by rw [←hbs];exact CG l
  have hbl:bs.length=l.length:=by rw [←hbs,List.length_map]
  have hc1: ∀(j:Nat) x,bs[j]? =some x→c.w.cell? ⟨b,o+j,none⟩=some (.string x):=fun j x hx=>hcell j _ (by rw [List.getElem?_map,hx];rfl)
  have hl1:(Lib.join (bs.map (·.data.toList)) (⟨sep.toArray⟩:ByteArray).data.toList).length≤140737488355328:=by
   rw [hdat]
   show (Lib.join l sep).length≤_
   omega
  have h47:bs.length≤140737488355328:=by
   have:=hlen.1
   rw [hbl]
   unfold LEN at this
   omega
  have hcall:=Any.strings_Join Tryz.lays156 Tryz.Builder_Extra_156 b o cap bs ⟨sep.toArray⟩ c.w hc1 hb h47 (by rw [hbl];exact hlen.2) hl1
  refine (show Calls En.P 80 #[.slice (some ⟨b,o,none⟩) bs.length cap,.string ⟨sep.toArray⟩] c.w _ from hcall).mono ?_
  rintro e w' ⟨rfl,hB⟩
  refine ⟨_,rfl,hB,?_⟩
  rw [hdat]
  simp only [rd]
  exact ⟨rfl,Nat.le_trans hj (by unfold LEN;omega)⟩
theorem qN (l:List (List UInt8)) (sep:List UInt8) (hp0:(Lib.join l sep).length≤1000000):CM En (strings_Join l sep) 80 [.sl none 1 false (l.map V.str),.str sep] (fun y=> .str y) (fun _=> []):=⟨CH l sep hp0⟩
def bG (s:List UInt8):Int×Bool:=match Lib.atoiAll s with
 | .ok v=>(v,true)
 | .range=>(Lib.atoiSat s,false)
 | _=>(0,false)
theorem CI {c:Cx} (hg:Gl En c):(∃t p,c.w.var? En.P "strconv.ErrSyntax" =some #[.iface t p])∧ ∃t p,c.w.var? En.P "strconv.ErrRange" =some #[.iface t p]:=by
 obtain ⟨_,h⟩:=hg 8 _ rfl
 obtain ⟨_,h2⟩:=hg 9 _ rfl
 simp only [rd] at h h2
 exact ⟨h.1.2.2.2.2,h2.1.2.2.2.2⟩
theorem CJ {s:List UInt8} {v:Int} (h:Lib.atoiAll s= .ok v): -9223372036854775808≤v∧v≤9223372036854775807:=by
 unfold Lib.atoiAll at h
 split at h
 ·cases h
 ·simp only at h
  split at h
  ·cases h
  ·cases h
  ·split at h
   ·cases h
   ·split at h
    ·cases h
    ·injection h with h
     split at h<;>omega
theorem CK (s:List UInt8):aV En 193 [.str s] (.tup [.int .i64 (bG s).1,.ifc (bG s).2]) []:=by
 refine qM (show∀xs w,(callFunc 193 xs).run En.P w= .ok (.enter 193 xs) w from enters_of Tryz.func193 (by kernel_rfl) rfl) fun c us hg hus hw=> ?_
 simp only [rdT,rd] at hus
 obtain ⟨u0,c2,rfl,⟨rfl,l0⟩,rfl⟩:=hus
 have hsz:(⟨s.toArray⟩:ByteArray).size=s.length:=by show s.toArray.size=_;simp
 have hd:(⟨s.toArray⟩:ByteArray).data.toList=s:=by simp
 obtain ⟨⟨t1,p1,hv1⟩,t2,p2,hv2⟩:=CI hg
 unfold LEN at l0
 unfold bG
 cases h:Lib.atoiAll s with
 | ok v=>
  refine (show Calls En.P 193 #[.string ⟨s.toArray⟩] c.w _ from Any.strconv_Atoi_ok Tryz.laysC172 ⟨s.toArray⟩ (by omega) v (by rw [hd];exact h) c.w).mono ?_
  rintro e w' ⟨rfl,hw'⟩
  have hB:Below c.w.heap.size c.w w':=by
   rcases hw' with rfl|⟨t,rfl⟩
   ·exact Below.refl _ _
   ·exact Lib.bytesWorld_below _ _ _
  refine ⟨_,rfl,hB,?_⟩
  simp only [rd,rdT]
  exact ⟨_,rfl,_,_,rfl,⟨rfl,CJ h⟩,_,_,rfl,pq,rfl⟩
 | range=>
  refine (show Calls En.P 193 #[.string ⟨s.toArray⟩] c.w _ from Any.strconv_Atoi_range_var Tryz.laysC172 ⟨s.toArray⟩ (by omega) (by rw [hd];exact h) t2 p2 c.w hv2).mono ?_
  rintro e w' ⟨N,rfl,_,_,hB⟩
  refine ⟨_,rfl,hB,?_⟩
  simp only [rd,rdT]
  exact ⟨_,rfl,_,_,rfl,⟨rfl,by rw [kD];unfold Lib.atoiSat;split<;>decide⟩,_,_,rfl,by unfold eC;rw [if_neg (by decide)];exact ⟨_,_,rfl⟩,rfl⟩
 | _=>
  refine (show Calls En.P 193 #[.string ⟨s.toArray⟩] c.w _ from Any.strconv_Atoi_syntax_var Tryz.laysC172 ⟨s.toArray⟩ (by omega) (by rw [hd];exact h) t1 p1 c.w hv1).mono ?_
  rintro e w' ⟨N,rfl,_,_,hB⟩
  refine ⟨_,rfl,hB,?_⟩
  simp only [rd,rdT]
  exact ⟨_,rfl,_,_,rfl,⟨rfl,by rw [kD];decide⟩,_,_,rfl,by unfold eC;rw [if_neg (by decide)];exact ⟨_,_,rfl⟩,rfl⟩
instance strconv_Atoi_ok (s:List UInt8):CM En (bG s) 193 [.str s] (fun y=> .tup [.int .i64 y.1,.ifc y.2]) (fun _=> []):=⟨CK s⟩
end Go.Proofs.YtiknkaadhomeiaaGreatDoor
namespace Go.Proofs.YtiknkaadhomeiaaGreatDoor
open Go.RowKit
mutual
def aN:ab→Nat
 | ⟨_,_,l⟩=>1+fq l
def fq:List ab→Nat
 | []=>0
 | f::l=>aN f+fq l
end
mutual
def dt:bp→Nat
 | ⟨_,_,l⟩=>1+kW l
def kW:List bp→Nat
 | []=>0
 | t::l=>dt t+kW l
end
mutual
def co:ab→Int→Bool×Int
 | ⟨_,r,l⟩,n=>if an .i64 n 1<0 then (false,an .i64 n 1) else if (r.Y.length:Int)>20 then (false,an .i64 n 1) else if (r.Bases.length:Int)>20 then (false,an .i64 n 1) else if r.Bases.any (fun x=>decide ((x.length:Int)>20))=true then (false,an .i64 n 1) else gI l (an .i64 n 1)
def gI:List ab→Int→Bool×Int
 | [],n=>(true,n)
 | f::l,n=>match co f n with
  | (true,m)=>gI l m
  | (false,m)=>(false,m)
end
mutual
def cq:bp→Int→Bool×Int
 | ⟨_,p,l⟩,n=>if an .i64 n 1<0 then (false,an .i64 n 1) else if (p.A.length:Int)>20 then (false,an .i64 n 1) else if (p.Z.length:Int)>20 then (false,an .i64 n 1) else gJ l (an .i64 n 1)
def gJ:List bp→Int→Bool×Int
 | [],n=>(true,n)
 | f::l,n=>match cq f n with
  | (true,m)=>gJ l m
  | (false,m)=>(false,m)
end
mutual
def bN (G:ab→Bool):ab→Int→Int→Bool×Int
 | ⟨k,r,l⟩,d,n=>if an .i64 n 1<0 then (false,an .i64 n 1) else if d>6 then (false,an .i64 n 1) else if G ⟨k,r,l⟩=false then (false,an .i64 n 1) else eR G l (aE .i64 d 1) (an .i64 n 1)
def eR (G:ab→Bool):List ab→Int→Int→Bool×Int
 | [],_,n=>(true,n)
 | f::l,d,n=>match bN G f d n with
  | (true,m)=>eR G l d m
  | (false,m)=>(false,m)
end
def fr {C:Type} (G:ab→C→Bool) (f:ab) (d n:Int) (c:C):Bool×Int:=bN (fun f=>G f c) f d n
mutual
def ci:ab→Int
 | ⟨k,r,l⟩=>if k=1 then ((gt r.Bases 0).length:Int) else iu l 0
def iu:List ab→Int→Int
 | [],a=>a
 | f::l,a=>iu l (cG a (ci f))
end
end Go.Proofs.YtiknkaadhomeiaaGreatDoor
namespace Go.Proofs.YtiknkaadhomeiaaGreatDoor
open Go.RowKit
def iv (s:(List UInt8)) (prefix_:(List UInt8)):Bool:=
 (if (decide ((s.length:Int)≥(prefix_.length:Int))) then (((s.drop (0:Int).toNat).take ((prefix_.length:Int).toNat - (0:Int).toNat))==prefix_) else false)
def nw (s:(List UInt8)) (prefix_:(List UInt8)):((List UInt8)×Bool):=
 (am (iv s prefix_) (fun (x1:Bool)=>(if (!x1) then (s,false) else (((s.drop (prefix_.length:Int).toNat).take ((s.length:Int).toNat - (prefix_.length:Int).toNat)),true))))
def kX (s:(List UInt8)) (prefix_:(List UInt8)):((List UInt8)×Bool):=
 (am (nw s prefix_) (fun (x1:((List UInt8)×Bool))=>(x1.1,x1.2)))
def ar (p_:ah) (t_:(List UInt8)):(Bool×ah):=
 (am (kX (p_.s) t_) (fun (x1:((List UInt8)×Bool))=>(x1.2,({s:=x1.1,bad:=p_.bad}:ah))))
def kY (x_:Int):Int:=
 (if (x_==0) then 64 else (al .i64 (gt gE (aq .u64 (aK .u64 (bA .u64 x_ (gW .u64 x_)) 285870213051353865) 58))))
def a7 (p_:ah):(Int×ah):=
 (ap ((((p_).s.length:Int) - 0).toNat+1) (fun (ag1:Int→(Int×ah)) (p1:Int)=>(if (decide (p1<(p_.s.length:Int))) then (if (decide (((p_.s.getD p1.toNat 0).toNat:Int)≥48)) then (if (decide (((p_.s.getD p1.toNat 0).toNat:Int)≤57)) then (ag1 (p1+1)) else (if (p1==0) then (0,({s:=((p_.s.drop (p1).toNat).take (p_.s.length - (p1).toNat)),bad:=true}:ah)) else (if (decide (p1>1)) then (if ((((p_.s.take (p1).toNat).getD 0 0).toNat:Int)==48) then (0,({s:=((p_.s.drop (p1).toNat).take (p_.s.length - (p1).toNat)),bad:=true}:ah)) else (am (bG (p_.s.take (p1).toNat)) (fun (x17:(Int×Bool))=>(if (!x17.2) then (0,({s:=((p_.s.drop (p1).toNat).take (p_.s.length - (p1).toNat)),bad:=p_.bad}:ah)) else (x17.1,({s:=((p_.s.drop (p1).toNat).take (p_.s.length - (p1).toNat)),bad:=p_.bad}:ah)))))) else (am (bG (p_.s.take (p1).toNat)) (fun (x24:(Int×Bool))=>(if (!x24.2) then (0,({s:=((p_.s.drop (p1).toNat).take (p_.s.length - (p1).toNat)),bad:=p_.bad}:ah)) else (x24.1,({s:=((p_.s.drop (p1).toNat).take (p_.s.length - (p1).toNat)),bad:=p_.bad}:ah)))))))) else (if (p1==0) then (0,({s:=((p_.s.drop (p1).toNat).take (p_.s.length - (p1).toNat)),bad:=true}:ah)) else (if (decide (p1>1)) then (if ((((p_.s.take (p1).toNat).getD 0 0).toNat:Int)==48) then (0,({s:=((p_.s.drop (p1).toNat).take (p_.s.length - (p1).toNat)),bad:=true}:ah)) else (am (bG (p_.s.take (p1).toNat)) (fun (x39:(Int×Bool))=>(if (!x39.2) then (0,({s:=((p_.s.drop (p1).toNat).take (p_.s.length - (p1).toNat)),bad:=p_.bad}:ah)) else (x39.1,({s:=((p_.s.drop (p1).toNat).take (p_.s.length - (p1).toNat)),bad:=p_.bad}:ah)))))) else (am (bG (p_.s.take (p1).toNat)) (fun (x46:(Int×Bool))=>(if (!x46.2) then (0,({s:=((p_.s.drop (p1).toNat).take (p_.s.length - (p1).toNat)),bad:=p_.bad}:ah)) else (x46.1,({s:=((p_.s.drop (p1).toNat).take (p_.s.length - (p1).toNat)),bad:=p_.bad}:ah)))))))) else (if (p1==0) then (0,({s:=((p_.s.drop (p1).toNat).take (p_.s.length - (p1).toNat)),bad:=true}:ah)) else (if (decide (p1>1)) then (if ((((p_.s.take (p1).toNat).getD 0 0).toNat:Int)==48) then (0,({s:=((p_.s.drop (p1).toNat).take (p_.s.length - (p1).toNat)),bad:=true}:ah)) else (am (bG (p_.s.take (p1).toNat)) (fun (x61:(Int×Bool))=>(if (!x61.2) then (0,({s:=((p_.s.drop (p1).toNat).take (p_.s.length - (p1).toNat)),bad:=p_.bad}:ah)) else (x61.1,({s:=((p_.s.drop (p1).toNat).take (p_.s.length - (p1).toNat)),bad:=p_.bad}:ah)))))) else (am (bG (p_.s.take (p1).toNat)) (fun (x68:(Int×Bool))=>(if (!x68.2) then (0,({s:=((p_.s.drop (p1).toNat).take (p_.s.length - (p1).toNat)),bad:=p_.bad}:ah)) else (x68.1,({s:=((p_.s.drop (p1).toNat).take (p_.s.length - (p1).toNat)),bad:=p_.bad}:ah))))))))) (fun _=>default) 0)
def a6 (p_:ah) (t_:(List UInt8)):ah:=
 (am (ar p_ t_) (fun (x1:(Bool×ah))=>(if (!x1.1) then ({s:=x1.2.s,bad:=true}:ah) else x1.2)))
def cU (p_:ah):(aL×ah):=
 (ap ((p_).s.length+1) (fun (ag1:(ah×aL×List Int×List (List Int))→(aL×ah)) (p1:ah×aL×List Int×List (List Int))=>(am (a7 (p1.1)) (fun (x2:(Int×ah))=>(am (a6 (x2.2) ([32,61])) (fun (x6:ah)=>(am (a6 x6 ([32])) (fun (x10:ah)=>(am (a7 x10) (fun (x14:(Int×ah))=>(ap (((x14.2)).s.length+1) (fun (ag19:(ah×List Int)→(aL×ah)) (p19:ah×List Int)=>(if (!p19.1.bad) then (am (ar (p19.1) ([32])) (fun (x22:(Bool×ah))=>(if x22.1 then (am (a7 (x22.2)) (fun (x30:(Int×ah))=>(ag19 (x30.2,(p19.2++([x30.1]:List Int)))))) else (if x22.2.bad then (({Y:=(p1.2.2.1++([x2.1]:List Int)),Bases:=(p1.2.2.2++([p19.2]:List (List Int)))}:aL),({s:=x22.2.s,bad:=true}:ah)) else (am (ar ({s:=x22.2.s,bad:=false}:ah) ([93])) (fun (x38:(Bool×ah))=>(if x38.1 then (({Y:=(p1.2.2.1++([x2.1]:List Int)),Bases:=(p1.2.2.2++([p19.2]:List (List Int)))}:aL),x38.2) else (am (a6 (x38.2) ([44,32])) (fun (x47:ah)=>(ag1 (x47,p1.2.1,(p1.2.2.1++([x2.1]:List Int)),(p1.2.2.2++([p19.2]:List (List Int)))))))))))))) else (if p19.1.bad then (({Y:=(p1.2.2.1++([x2.1]:List Int)),Bases:=(p1.2.2.2++([p19.2]:List (List Int)))}:aL),({s:=p19.1.s,bad:=true}:ah)) else (am (ar ({s:=p19.1.s,bad:=false}:ah) ([93])) (fun (x55:(Bool×ah))=>(if x55.1 then (({Y:=(p1.2.2.1++([x2.1]:List Int)),Bases:=(p1.2.2.2++([p19.2]:List (List Int)))}:aL),x55.2) else (am (a6 (x55.2) ([44,32])) (fun (x64:ah)=>(ag1 (x64,p1.2.1,(p1.2.2.1++([x2.1]:List Int)),(p1.2.2.2++([p19.2]:List (List Int))))))))))))) (fun _=>default) (x14.2,([x14.1]:List Int)))))))))))) (fun _=>default) (p_,cC,([]:List Int),([]:List (List Int))))
def db (R:ah→ab×ah) (k:Int):Nat→ah→List ab→ab×ah
 | 0,_,_=>default
 | n+1,p,L=>if (R p).2.bad=true then (⟨k,cC,L++[(R p).1]⟩,(R p).2) else if (ar (R p).2 [41]).1=true then (⟨k,cC,L++[(R p).1]⟩,(ar (R p).2 [41]).2) else db R k n (a6 (ar (R p).2 [41]).2 [44,32]) (L++[(R p).1])
def dV (R:ah→ab×ah) (p:ah):ab×ah:=
 if (ar p [91]).1=true then (⟨1,(cU (ar p [91]).2).1,[]⟩,(cU (ar p [91]).2).2)
 else if (ar (ar p [91]).2 [97,110,100,40]).1=true then db R 2 ((ar (ar p [91]).2 [97,110,100,40]).2.s.length+1) (ar (ar p [91]).2 [97,110,100,40]).2 []
 else if (ar (ar (ar p [91]).2 [97,110,100,40]).2 [111,114,40]).1=true then db R 3 ((ar (ar (ar p [91]).2 [97,110,100,40]).2 [111,114,40]).2.s.length+1) (ar (ar (ar p [91]).2 [97,110,100,40]).2 [111,114,40]).2 []
 else (⟨1,cC,[]⟩,{s:=(ar (ar (ar p [91]).2 [97,110,100,40]).2 [111,114,40]).2.s,bad:=true})
def fV:Nat→ah→ab×ah
 | 0,_=>default
 | n+1,p=>dV (fV n) p
def bm (p:ah):ab×ah:=fV (p.s.length+1) p
def ft (p_:ah):(ab×ah):=
 (er (fun (p1:List UInt8×Bool×Int)=>(ap ((({s:=p1.1,bad:=p1.2.1}:ah)).s.length+1) (fun (ag2:(ah×Int×List Int×List (List Int)×List ab×List ab)→(ab×ah)) (p2:ah×Int×List Int×List (List Int)×List ab×List ab)=>(am (bm (p2.1)) (fun (x3:(ab×ah))=>(if x3.2.bad then (({Kind:=p1.2.2,Relation:=cC,L:=(p2.2.2.2.2.2++([x3.1]:List ab))}:ab),({s:=x3.2.s,bad:=true}:ah)) else (am (ar ({s:=x3.2.s,bad:=false}:ah) ([41])) (fun (x9:(Bool×ah))=>(if x9.1 then (({Kind:=p1.2.2,Relation:=cC,L:=(p2.2.2.2.2.2++([x3.1]:List ab))}:ab),x9.2) else (am (a6 (x9.2) ([44,32])) (fun (x18:ah)=>(ag2 (x18,p2.2.1,p2.2.2.1,p2.2.2.2.1,p2.2.2.2.2.1,(p2.2.2.2.2.2++([x3.1]:List ab))))))))))))) (fun _=>default) (({s:=p1.1,bad:=p1.2.1}:ah),0,([]:List Int),([]:List (List Int)),([]:List ab),([]:List ab)))) (fun j1=>(am (ar p_ ([91])) (fun (x23:(Bool×ah))=>(if x23.1 then (am (cU (x23.2)) (fun (x31:(aL×ah))=>(({Kind:=1,Relation:=x31.1,L:=([]:List ab)}:ab),x31.2))) else (am (ar (x23.2) ([97,110,100,40])) (fun (x36:(Bool×ah))=>(if x36.1 then (j1 (x36.2.s,x36.2.bad,2)) else (am (ar (x36.2) ([111,114,40])) (fun (x45:(Bool×ah))=>(if x45.1 then (j1 (x45.2.s,x45.2.bad,3)) else (({Kind:=1,Relation:=cC,L:=([]:List ab)}:ab),({s:=x45.2.s,bad:=true}:ah)))))))))))))
def iw (x_:Int):Bool:=
 (if (decide (x_<1)) then true else (decide (x_≥2305843009213693952)))
def qO (s:(List Int)):Int:=
 (ap (((s.length:Int) - 0).toNat+1) (fun (ag1:Int→Int) (p1:Int)=>(if (decide (p1<(s.length:Int))) then (am (iw (gt s p1)) (fun (x5:Bool)=>(if x5 then p1 else (ag1 (p1+1))))) else (-1))) (fun _=>default) 0)
def ny (s:(List Int)):Bool:=
 (am (qO s) (fun (x1:Int)=>(decide (x1≥0))))
def ix (l:(List Int)):Bool:=
 (am (ny l) (fun (x1:Bool)=>(!x1)))
def iy (row:(List Int)) (c0:Int):Bool:=
 (if ((row.length:Int) !=c0) then true else (am (ix row) (fun (x3:Bool)=>(!x3))))
def qP (s:(List (List Int))) (f__c0:Int):Int:=
 (ap (((s.length:Int) - 0).toNat+1) (fun (ag1:Int→Int) (p1:Int)=>(if (decide (p1<(s.length:Int))) then (am (iy (gt s p1) f__c0) (fun (x5:Bool)=>(if x5 then p1 else (ag1 (p1+1))))) else (-1))) (fun _=>default) 0)
def nz (s:(List (List Int))) (f__c0:Int):Bool:=
 (am (qP s f__c0) (fun (x1:Int)=>(decide (x1≥0))))
def kZ (r_:aL):Bool:=
 (if (decide ((r_.Y.length:Int)<1)) then false else (if (decide ((r_.Y.length:Int)>8)) then false else (if ((r_.Bases.length:Int) !=(r_.Y.length:Int)) then false else (am (ix (r_.Y)) (fun (x7:Bool)=>(if (!x7) then false else (if (decide (((gt r_.Bases 0).length:Int)≥1)) then (if (decide (((gt r_.Bases 0).length:Int)≤12)) then (am (nz (r_.Bases) ((gt r_.Bases 0).length:Int)) (fun (x18:Bool)=>(!x18))) else false) else false)))))))
def bB (f_:ab):Bool:=
 (if (f_.Kind==1) then (if ((f_.L.length:Int)==0) then (am (kZ (f_.Relation)) (fun (x5:Bool)=>x5)) else false) else (er (fun (p10:Bool)=>(if p10 then (if (decide ((f_.L.length:Int)≥1)) then (if (decide ((f_.L.length:Int)≤8)) then (if ((f_.Relation.Y.length:Int)==0) then ((f_.Relation.Bases.length:Int)==0) else false) else false) else false) else false)) (fun j10=>(if (f_.Kind==2) then (j10 true) else (j10 (f_.Kind==3))))))
def jw (f_:ab) (depth:Int) (left:Int):(Bool×Int):=
 (if (decide ((an .i64 left 1)<0)) then (false,(an .i64 left 1)) else (if (decide (depth>6)) then (false,(an .i64 left 1)) else (am (bB f_) (fun (x5:Bool)=>(if (!x5) then (false,(an .i64 left 1)) else (ap (((f_.L.length:Int) - 0).toNat+1) (fun (ag11:(Int×Int)→(Bool×Int)) (p11:Int×Int)=>(if (decide (p11.1<(f_.L.length:Int))) then (am ((bN bB) (gt f_.L p11.1) (aE .i64 depth 1) (p11.2)) (fun (x15:(Bool×Int))=>(if (!x15.1) then (false,x15.2) else (ag11 ((p11.1+1),x15.2))))) else (true,p11.2))) (fun _=>default) (0,(an .i64 left 1))))))))
def qQ (f_:ab):Bool:=
 (am ((bN bB) f_ 1 30) (fun (x1:(Bool×Int))=>x1.1))
def du (f_:ab):Bool:=
 (am (qQ f_) (fun (x1:Bool)=>x1))
def et (s:(List UInt8)):(ab×Int):=
 (if (decide ((s.length:Int)>8000)) then (fp,5) else (am (bm ({s:=s,bad:=false}:ah)) (fun (x4:(ab×ah))=>(if x4.2.bad then (fp,3) else (if (!(x4.2.s==[])) then (fp,3) else (am (du (x4.1)) (fun (x12:Bool)=>(if (!x12) then (fp,1) else (x4.1,0)))))))))
def k8 (f_:ab):Int:=
 (if (f_.Kind==1) then ((gt f_.Relation.Bases 0).length:Int) else (ap (((f_.L.length:Int) - 0).toNat+1) (fun (ag5:(Int×Int)→Int) (p5:Int×Int)=>(if (decide (p5.2<(f_.L.length:Int))) then (am (ci (gt f_.L p5.2)) (fun (x9:Int)=>(ag5 ((cG p5.1 x9),(p5.2+1))))) else p5.1)) (fun _=>default) (0,0)))
def qR (f_:ab):Int:=
 (am (du f_) (fun (x1:Bool)=>(if (!x1) then 0 else (am (ci f_) (fun (x8:Int)=>x8)))))
def gK (x_:Int) (y:Int):(Int×Int):=
 ((aE .u64 (aE .u64 (aK .u64 (aq .u64 x_ 32) (aq .u64 y 32)) (aq .u64 (aE .u64 (aK .u64 (aq .u64 x_ 32) (bA .u64 y 4294967295)) (aq .u64 (aK .u64 (bA .u64 x_ 4294967295) (bA .u64 y 4294967295)) 32)) 32)) (aq .u64 (aE .u64 (bA .u64 (aE .u64 (aK .u64 (aq .u64 x_ 32) (bA .u64 y 4294967295)) (aq .u64 (aK .u64 (bA .u64 x_ 4294967295) (bA .u64 y 4294967295)) 32)) 4294967295) (aK .u64 (bA .u64 x_ 4294967295) (aq .u64 y 32))) 32)),(aK .u64 x_ y))
def iz (x_:Int):Int:=
 (am (nu x_) (fun (x1:Int)=>(an .i64 64 x1)))
def jx (hi:Int) (lo:Int) (y:Int):(Int×Int):=
 (if (y==0) then (default:(Int×Int)) else (if (decide (y≤hi)) then (default:(Int×Int)) else (if (hi==0) then ((ca .u64 lo y),(dg .u64 lo y)) else (am (iz y) (fun (x10:Int)=>(er (fun (p14:Int)=>(er (fun (p15:Int)=>((aE .u64 (aK .u64 p14 4294967296) p15),(aq .u64 (an .u64 (aE .u64 (aK .u64 (an .u64 (aE .u64 (aK .u64 (orI .u64 (ao .u64 hi (al .u64 x10)) (aq .u64 lo (an .u64 64 (al .u64 x10)))) 4294967296) (aq .u64 (ao .u64 lo (al .u64 x10)) 32)) (aK .u64 p14 (ao .u64 y (al .u64 x10)))) 4294967296) (bA .u64 (ao .u64 lo (al .u64 x10)) 4294967295)) (aK .u64 p15 (ao .u64 y (al .u64 x10)))) (al .u64 x10)))) (fun j15=>(ap ((4294967296 - (an .u64 (an .u64 (aE .u64 (aK .u64 (orI .u64 (ao .u64 hi (al .u64 x10)) (aq .u64 lo (an .u64 64 (al .u64 x10)))) 4294967296) (aq .u64 (ao .u64 lo (al .u64 x10)) 32)) (aK .u64 p14 (ao .u64 y (al .u64 x10)))) (aK .u64 (ca .u64 (an .u64 (aE .u64 (aK .u64 (orI .u64 (ao .u64 hi (al .u64 x10)) (aq .u64 lo (an .u64 64 (al .u64 x10)))) 4294967296) (aq .u64 (ao .u64 lo (al .u64 x10)) 32)) (aK .u64 p14 (ao .u64 y (al .u64 x10)))) (aq .u64 (ao .u64 y (al .u64 x10)) 32)) (aq .u64 (ao .u64 y (al .u64 x10)) 32)))).toNat+1) (fun (ag16:(Int×Int)→(Int×Int)) (p16:Int×Int)=>(if (decide (p16.2≥4294967296)) then (if (decide ((aE .u64 p16.1 (aq .u64 (ao .u64 y (al .u64 x10)) 32))≥4294967296)) then (j15 (an .u64 p16.2 1)) else (ag16 ((aE .u64 p16.1 (aq .u64 (ao .u64 y (al .u64 x10)) 32)),(an .u64 p16.2 1)))) else (if (decide ((aK .u64 p16.2 (bA .u64 (ao .u64 y (al .u64 x10)) 4294967295))>(aE .u64 (aK .u64 4294967296 p16.1) (bA .u64 (ao .u64 lo (al .u64 x10)) 4294967295)))) then (if (decide ((aE .u64 p16.1 (aq .u64 (ao .u64 y (al .u64 x10)) 32))≥4294967296)) then (j15 (an .u64 p16.2 1)) else (ag16 ((aE .u64 p16.1 (aq .u64 (ao .u64 y (al .u64 x10)) 32)),(an .u64 p16.2 1)))) else (j15 p16.2)))) (fun _=>default) ((an .u64 (an .u64 (aE .u64 (aK .u64 (orI .u64 (ao .u64 hi (al .u64 x10)) (aq .u64 lo (an .u64 64 (al .u64 x10)))) 4294967296) (aq .u64 (ao .u64 lo (al .u64 x10)) 32)) (aK .u64 p14 (ao .u64 y (al .u64 x10)))) (aK .u64 (ca .u64 (an .u64 (aE .u64 (aK .u64 (orI .u64 (ao .u64 hi (al .u64 x10)) (aq .u64 lo (an .u64 64 (al .u64 x10)))) 4294967296) (aq .u64 (ao .u64 lo (al .u64 x10)) 32)) (aK .u64 p14 (ao .u64 y (al .u64 x10)))) (aq .u64 (ao .u64 y (al .u64 x10)) 32)) (aq .u64 (ao .u64 y (al .u64 x10)) 32))),(ca .u64 (an .u64 (aE .u64 (aK .u64 (orI .u64 (ao .u64 hi (al .u64 x10)) (aq .u64 lo (an .u64 64 (al .u64 x10)))) 4294967296) (aq .u64 (ao .u64 lo (al .u64 x10)) 32)) (aK .u64 p14 (ao .u64 y (al .u64 x10)))) (aq .u64 (ao .u64 y (al .u64 x10)) 32))))))) (fun j14=>(ap ((4294967296 - (an .u64 (orI .u64 (ao .u64 hi (al .u64 x10)) (aq .u64 lo (an .u64 64 (al .u64 x10)))) (aK .u64 (ca .u64 (orI .u64 (ao .u64 hi (al .u64 x10)) (aq .u64 lo (an .u64 64 (al .u64 x10)))) (aq .u64 (ao .u64 y (al .u64 x10)) 32)) (aq .u64 (ao .u64 y (al .u64 x10)) 32)))).toNat+1) (fun (ag29:(Int×Int)→(Int×Int)) (p29:Int×Int)=>(if (decide (p29.1≥4294967296)) then (if (decide ((aE .u64 p29.2 (aq .u64 (ao .u64 y (al .u64 x10)) 32))≥4294967296)) then (j14 (an .u64 p29.1 1)) else (ag29 ((an .u64 p29.1 1),(aE .u64 p29.2 (aq .u64 (ao .u64 y (al .u64 x10)) 32))))) else (if (decide ((aK .u64 p29.1 (bA .u64 (ao .u64 y (al .u64 x10)) 4294967295))>(aE .u64 (aK .u64 4294967296 p29.2) (aq .u64 (ao .u64 lo (al .u64 x10)) 32)))) then (if (decide ((aE .u64 p29.2 (aq .u64 (ao .u64 y (al .u64 x10)) 32))≥4294967296)) then (j14 (an .u64 p29.1 1)) else (ag29 ((an .u64 p29.1 1),(aE .u64 p29.2 (aq .u64 (ao .u64 y (al .u64 x10)) 32))))) else (j14 p29.1)))) (fun _=>default) ((ca .u64 (orI .u64 (ao .u64 hi (al .u64 x10)) (aq .u64 lo (an .u64 64 (al .u64 x10)))) (aq .u64 (ao .u64 y (al .u64 x10)) 32)),(an .u64 (orI .u64 (ao .u64 hi (al .u64 x10)) (aq .u64 lo (an .u64 64 (al .u64 x10)))) (aK .u64 (ca .u64 (orI .u64 (ao .u64 hi (al .u64 x10)) (aq .u64 lo (an .u64 64 (al .u64 x10)))) (aq .u64 (ao .u64 y (al .u64 x10)) 32)) (aq .u64 (ao .u64 y (al .u64 x10)) 32))))))))))))
def dW (a_:Int) (b:Int) (n_:Int):Int:=
 (am (gK a_ b) (fun (x1:(Int×Int))=>(am (jx (x1.1) (x1.2) n_) (fun (x5:(Int×Int))=>x5.2))))
def k9 (a_:Int) (e_:Int) (n_:Int):Int:=
 (ap (e_.toNat+1) (fun (ag1:(Int×Int×Int)→Int) (p1:Int×Int×Int)=>(if (decide (p1.2.1>0)) then (if ((bA .u64 p1.2.1 1)==1) then (am (dW (p1.2.2) (p1.1) n_) (fun (x6:Int)=>(am (dW (p1.1) (p1.1) n_) (fun (x10:Int)=>(ag1 (x10,(aq .u64 p1.2.1 1),x6)))))) else (am (dW (p1.1) (p1.1) n_) (fun (x15:Int)=>(ag1 (x15,(aq .u64 p1.2.1 1),p1.2.2))))) else p1.2.2)) (fun _=>default) (a_,e_,1))
def qS (a_:Int) (n_:Int) (d_:Int) (s:Int):Bool:=
 (am (k9 a_ d_ n_) (fun (x1:Int)=>(if (x1==1) then false else (if (x1==(an .u64 n_ 1)) then false else (ap ((an .i64 s 1 - 0).toNat+1) (fun (ag10:(Int×Int)→Bool) (p10:Int×Int)=>(if (decide (p10.2<(an .i64 s 1))) then (am (dW (p10.1) (p10.1) n_) (fun (x13:Int)=>(if (x13==(an .u64 n_ 1)) then false else (ag10 (x13,(p10.2+1)))))) else true)) (fun _=>default) (x1,0))))))
def nA (n_:Int):Bool:=
 (if (decide (n_<2)) then false else (ap (((12:Int) - 0).toNat+1) (fun (ag4:Int→Bool) (p4:Int)=>(if (decide (p4<12)) then (if ((dg .u64 (al .u64 n_) (gt cf p4))==0) then ((al .u64 n_)==(gt cf p4)) else (ag4 (p4+1))) else (am (kY (an .u64 (al .u64 n_) 1)) (fun (x12:Int)=>(ap (((12:Int) - 0).toNat+1) (fun (ag16:Int→Bool) (p16:Int)=>(if (decide (p16<12)) then (am (qS (gt cf p16) (al .u64 n_) (aq .u64 (an .u64 (al .u64 n_) 1) x12) x12) (fun (x20:Bool)=>(if x20 then false else (ag16 (p16+1))))) else true)) (fun _=>default) 0))))) (fun _=>default) 0))
def k_ (a_:Int) (m:Int):Bool:=
 (if (decide (a_≥0)) then (decide (a_<m)) else false)
def iA (a_:Int) (b:Int) (m:Int):Int:=
 (if (decide (m<1)) then 1 else (if (decide (m≥2305843009213693952)) then 1 else (am (k_ a_ m) (fun (x6:Bool)=>(if (!x6) then 2 else (am (k_ b m) (fun (x11:Bool)=>(if (!x11) then 2 else 0))))))))
def fW (a_:Int) (b:Int) (m:Int):Int:=
 (am (gK (al .u64 a_) (al .u64 b)) (fun (x1:(Int×Int))=>(am (jx (x1.1) (x1.2) (al .u64 m)) (fun (x5:(Int×Int))=>(al .i64 x5.2)))))
def lc (a_:Int) (e_:Int) (m:Int):(Int×Int):=
 (am (iA a_ a_ m) (fun (x1:Int)=>(if (x1 !=0) then (0,x1) else (if (decide (e_<0)) then (0,2) else (ap (e_.toNat+1) (fun (ag11:(Int×Int×Int)→(Int×Int)) (p11:Int×Int×Int)=>(if (decide (p11.2.1>0)) then (if ((bA .i64 p11.2.1 1)==1) then (am (fW (p11.2.2) (p11.1) m) (fun (x16:Int)=>(am (fW (p11.1) (p11.1) m) (fun (x20:Int)=>(ag11 (x20,(aq .i64 p11.2.1 1),x16)))))) else (am (fW (p11.1) (p11.1) m) (fun (x25:Int)=>(ag11 (x25,(aq .i64 p11.2.1 1),p11.2.2))))) else (p11.2.2,0))) (fun _=>default) (a_,e_,(dg .i64 1 m)))))))
def iB (g:ax):Bool:=
 (if (decide (g.P≥2305843009213693952)) then false else (if (decide (g.Q<3)) then false else (if ((dg .i64 g.Q 2)==0) then false else (am (nA (g.P)) (fun (x7:Bool)=>(if (!x7) then false else (am (nA (g.Q)) (fun (x12:Bool)=>(if (!x12) then false else (if ((dg .i64 (an .i64 g.P 1) g.Q) !=0) then false else (if (decide (g.G<2)) then false else (if (decide (g.G≥g.P)) then false else (am (lc (g.G) (g.Q) (g.P)) (fun (x24:(Int×Int))=>(if (x24.2==0) then (x24.1==1) else false)))))))))))))))
def qT (g:ax) (x_:Int):Bool:=
 (if (decide (x_<1)) then false else (if (decide (x_≥g.P)) then false else (am (lc x_ (g.Q) (g.P)) (fun (x6:(Int×Int))=>(if (x6.2==0) then (x6.1==1) else false)))))
def qU (x_:Int) (c0:ax):Bool:=
 (am (qT c0 x_) (fun (x1:Bool)=>(!x1)))
def qV (s:(List Int)) (f__c0:ax):Int:=
 (ap (((s.length:Int) - 0).toNat+1) (fun (ag1:Int→Int) (p1:Int)=>(if (decide (p1<(s.length:Int))) then (am (qU (gt s p1) f__c0) (fun (x5:Bool)=>(if x5 then p1 else (ag1 (p1+1))))) else (-1))) (fun _=>default) 0)
def qW (s:(List Int)) (f__c0:ax):Bool:=
 (am (qV s f__c0) (fun (x1:Int)=>(decide (x1≥0))))
def nB (g:ax) (l:(List Int)):Bool:=
 (am (qW l g) (fun (x1:Bool)=>(!x1)))
def ld (row:(List Int)) (c0:Int) (c1:ax):Bool:=
 (if ((row.length:Int) !=c0) then true else (am (nB c1 row) (fun (x3:Bool)=>(!x3))))
def jy (s:(List (List Int))) (f__c0:Int) (f__c1:ax):Int:=
 (ap (((s.length:Int) - 0).toNat+1) (fun (ag1:Int→Int) (p1:Int)=>(if (decide (p1<(s.length:Int))) then (am (ld (gt s p1) f__c0 f__c1) (fun (x5:Bool)=>(if x5 then p1 else (ag1 (p1+1))))) else (-1))) (fun _=>default) 0)
def lf (s:(List (List Int))) (f__c0:Int) (f__c1:ax):Bool:=
 (am (jy s f__c0 f__c1) (fun (x1:Int)=>(decide (x1≥0))))
def gL (g:ax) (r_:aL):Bool:=
 (am (iB g) (fun (x1:Bool)=>(if (!x1) then false else (if (decide ((r_.Y.length:Int)<1)) then false else (if (decide ((r_.Y.length:Int)>8)) then false else (if ((r_.Bases.length:Int) !=(r_.Y.length:Int)) then false else (am (nB g (r_.Y)) (fun (x12:Bool)=>(if (!x12) then false else (if (decide (((gt r_.Bases 0).length:Int)<1)) then false else (if (decide (((gt r_.Bases 0).length:Int)>12)) then false else (am (lf (r_.Bases) ((gt r_.Bases 0).length:Int) g) (fun (x24:Bool)=>(!x24))))))))))))))
def qX (r_:aL) (c0:ax):Bool:=
 (am (gL c0 r_) (fun (x1:Bool)=>x1))
def dc (f_:ab) (c0_c0:ax):Bool:=
 (if (f_.Kind==1) then (if ((f_.L.length:Int)==0) then (am (qX (f_.Relation) c0_c0) (fun (x5:Bool)=>x5)) else false) else (er (fun (p10:Bool)=>(if p10 then (if (decide ((f_.L.length:Int)≥1)) then (if (decide ((f_.L.length:Int)≤8)) then (if ((f_.Relation.Y.length:Int)==0) then ((f_.Relation.Bases.length:Int)==0) else false) else false) else false) else false)) (fun j10=>(if (f_.Kind==2) then (j10 true) else (j10 (f_.Kind==3))))))
def jz (f_:ab) (depth:Int) (left:Int) (good_c0_c0:ax):(Bool×Int):=
 (if (decide ((an .i64 left 1)<0)) then (false,(an .i64 left 1)) else (if (decide (depth>6)) then (false,(an .i64 left 1)) else (am (dc f_ good_c0_c0) (fun (x5:Bool)=>(if (!x5) then (false,(an .i64 left 1)) else (ap (((f_.L.length:Int) - 0).toNat+1) (fun (ag11:(Int×Int)→(Bool×Int)) (p11:Int×Int)=>(if (decide (p11.1<(f_.L.length:Int))) then (am ((fr dc) (gt f_.L p11.1) (aE .i64 depth 1) (p11.2) good_c0_c0) (fun (x15:(Bool×Int))=>(if (!x15.1) then (false,x15.2) else (ag11 ((p11.1+1),x15.2))))) else (true,p11.2))) (fun _=>default) (0,(an .i64 left 1))))))))
def qY (f_:ab) (good_c0:ax):Bool:=
 (am ((fr dc) f_ 1 30 good_c0) (fun (x1:(Bool×Int))=>x1.1))
def jA (g:ax) (f_:ab):Bool:=
 (am (iB g) (fun (x1:Bool)=>(if x1 then (am (qY f_ g) (fun (x5:Bool)=>x5)) else false)))
def qZ (g:ax) (x_:Int):Bool:=
 (if (decide (x_≥0)) then (decide (x_<g.Q)) else false)
def q5 (x_:Int) (c0:ax):Bool:=
 (am (qZ c0 x_) (fun (x1:Bool)=>(!x1)))
def q6 (s:(List Int)) (f__c0:ax):Int:=
 (ap (((s.length:Int) - 0).toNat+1) (fun (ag1:Int→Int) (p1:Int)=>(if (decide (p1<(s.length:Int))) then (am (q5 (gt s p1) f__c0) (fun (x5:Bool)=>(if x5 then p1 else (ag1 (p1+1))))) else (-1))) (fun _=>default) 0)
def q7 (s:(List Int)) (f__c0:ax):Bool:=
 (am (q6 s f__c0) (fun (x1:Int)=>(decide (x1≥0))))
def q8 (g:ax) (l:(List Int)):Bool:=
 (am (q7 l g) (fun (x1:Bool)=>(!x1)))
def fX (r_:aL):Int:=
 ((gt r_.Bases 0).length:Int)
def q9 (x_:Int) (c0:ax):Bool:=
 (if (decide (x_<0)) then true else (decide (x_≥c0.Q)))
def q_ (s:(List Int)) (f__c0:ax):Int:=
 (ap (((s.length:Int) - 0).toNat+1) (fun (ag1:Int→Int) (p1:Int)=>(if (decide (p1<(s.length:Int))) then (am (q9 (gt s p1) f__c0) (fun (x5:Bool)=>(if x5 then p1 else (ag1 (p1+1))))) else (-1))) (fun _=>default) 0)
def ra (s:(List Int)) (f__c0:ax):Bool:=
 (am (q_ s f__c0) (fun (x1:Int)=>(decide (x1≥0))))
def rb (g:ax) (l:(List Int)):Bool:=
 (am (ra l g) (fun (x1:Bool)=>(!x1)))
def rc (a_:Int) (b:Int) (m:Int):(Int×Int):=
 (am (iA a_ b m) (fun (x1:Int)=>(if (x1 !=0) then (0,x1) else (am (fW a_ b m) (fun (x8:Int)=>(x8,0))))))
def re (g:ax) (start:Int) (bases:(List Int)) (exps:(List Int)):Int:=
 (ap (((bases.length:Int) - 0).toNat+1) (fun (ag1:(Int×Int)→Int) (p1:Int×Int)=>(if (decide (p1.2<(bases.length:Int))) then (am (lc (gt bases p1.2) (gt exps p1.2) (g.P)) (fun (x6:(Int×Int))=>(am (rc (p1.1) (x6.1) (g.P)) (fun (x8:(Int×Int))=>(ag1 (x8.1,(p1.2+1))))))) else p1.1)) (fun _=>default) (start,0))
def rf (g:ax) (rows:(List (List Int))) (exps:(List Int)):(List Int):=
 (ap (((rows.length:Int) - 0).toNat+1) (fun (ag1:(Int×List Int)→(List Int)) (p1:Int×List Int)=>(if (decide (p1.1<(rows.length:Int))) then (am (re g 1 (gt rows p1.1) exps) (fun (x5:Int)=>(ag1 ((p1.1+1),(p1.2++([x5]:List Int)))))) else p1.2)) (fun _=>default) (0,([]:List Int)))
def rg (s1:(List Int)) (s2:(List Int)):Bool:=
 (if ((s1.length:Int) !=(s2.length:Int)) then false else (ap (((s1.length:Int) - 0).toNat+1) (fun (ag4:Int→Bool) (p4:Int)=>(if (decide (p4<(s1.length:Int))) then (if ((gt s1 p4) !=(gt s2 p4)) then false else (ag4 (p4+1))) else true)) (fun _=>default) 0))
def nC (g:ax) (r_:aL) (x_:(List Int)):Bool:=
 (am (gL g r_) (fun (x1:Bool)=>(if x1 then (am (fX r_) (fun (x6:Int)=>(if ((x_.length:Int)==x6) then (am (rb g x_) (fun (x10:Bool)=>(if x10 then (am (rf g (r_.Bases) x_) (fun (x13:(List Int))=>(am (rg x13 (r_.Y)) (fun (x15:Bool)=>x15)))) else false))) else false))) else false)))
mutual
def cj (g:ax):ab→List Int→Bool
 | ⟨k,r,l⟩,x=>if k=1 then nC g r (sl x 0 (ci ⟨k,r,l⟩)) else if k=2 then nD g l x else nE g l x
def nD (g:ax):List ab→List Int→Bool
 | [],_=>true
 | f::l,x=>if cj g f x=false then false else nD g l x
def nE (g:ax):List ab→List Int→Bool
 | [],_=>false
 | f::l,x=>if cj g f x=true then true else nE g l x
end
def lg (p_:ab) (c0:ax) (c1:(List Int)):Bool:=
 (am (cj c0 p_ c1) (fun (x1:Bool)=>x1))
def nF (p_:ab) (c0_c0:ax) (c0_c1:(List Int)):Bool:=
 (am (lg p_ c0_c0 c0_c1) (fun (x1:Bool)=>(!x1)))
def nG (s:(List ab)) (f__c0_c0:ax) (f__c0_c1:(List Int)):Int:=
 (ap (((s.length:Int) - 0).toNat+1) (fun (ag1:Int→Int) (p1:Int)=>(if (decide (p1<(s.length:Int))) then (am (nF (gt s p1) f__c0_c0 f__c0_c1) (fun (x5:Bool)=>(if x5 then p1 else (ag1 (p1+1))))) else (-1))) (fun _=>default) 0)
def lh (s:(List ab)) (f__c0_c0:ax) (f__c0_c1:(List Int)):Bool:=
 (am (nG s f__c0_c0 f__c0_c1) (fun (x1:Int)=>(decide (x1≥0))))
def nH (s:(List ab)) (f__c0:ax) (f__c1:(List Int)):Int:=
 (ap (((s.length:Int) - 0).toNat+1) (fun (ag1:Int→Int) (p1:Int)=>(if (decide (p1<(s.length:Int))) then (am (lg (gt s p1) f__c0 f__c1) (fun (x5:Bool)=>(if x5 then p1 else (ag1 (p1+1))))) else (-1))) (fun _=>default) 0)
def li (s:(List ab)) (f__c0:ax) (f__c1:(List Int)):Bool:=
 (am (nH s f__c0 f__c1) (fun (x1:Int)=>(decide (x1≥0))))
def lj (g:ax) (f_:ab) (x_:(List Int)):Bool:=
 (if (f_.Kind==1) then (am (ci f_) (fun (x3:Int)=>(am (nC g (f_.Relation) (sl x_ 0 x3)) (fun (x5:Bool)=>x5)))) else (if (f_.Kind==2) then (am (lh (f_.L) g x_) (fun (x11:Bool)=>(!x11))) else (am (li (f_.L) g x_) (fun (x15:Bool)=>x15))))
def nI (g:ax) (f_:ab) (x_:(List Int)):Bool:=
 (am (jA g f_) (fun (x1:Bool)=>(if x1 then (am (ci f_) (fun (x7:Int)=>(if ((x_.length:Int)==x7) then (am (q8 g x_) (fun (x12:Bool)=>(if x12 then (am (cj g f_ x_) (fun (x16:Bool)=>x16)) else false))) else false))) else false)))
def nJ:Bool:=
 (am (et ([111,114,40,91,56,32,61,32,50,93,44,32,91,49,50,32,61,32,50,93,41])) (fun (x1:(ab×Int))=>(if (x1.2==0) then (am (qR (x1.1)) (fun (x6:Int)=>(if (x6==1) then (am (nI ({P:=23,Q:=11,G:=4}:ax) (x1.1) ([3]:List Int)) (fun (x11:Bool)=>(if x11 then (am (nI ({P:=23,Q:=11,G:=4}:ax) (x1.1) ([4]:List Int)) (fun (x15:Bool)=>(!x15))) else false))) else false))) else false)))
def nK (l:(List Int)):Bool:=
 (decide ((l.length:Int)>20))
def lk (x_:ab) (c0:Int):(Bool×Int):=
 (am (co x_ c0) (fun (x1:(Bool×Int))=>((!x1.1),x1.2)))
def rh (s:(List (List Int))):Int:=
 (ap (((s.length:Int) - 0).toNat+1) (fun (ag1:Int→Int) (p1:Int)=>(if (decide (p1<(s.length:Int))) then (am (nK (gt s p1)) (fun (x5:Bool)=>(if x5 then p1 else (ag1 (p1+1))))) else (-1))) (fun _=>default) 0)
def nL (s:(List (List Int))):Bool:=
 (am (rh s) (fun (x1:Int)=>(decide (x1≥0))))
def lm (s_:(List ab)) (f__c0:Int):(Int×Int):=
 (ap (((s_.length:Int) - 0).toNat+1) (fun (ag1:(Int×Int)→(Int×Int)) (p1:Int×Int)=>(if (decide (p1.1<(s_.length:Int))) then (am (lk (gt s_ p1.1) (p1.2)) (fun (x5:(Bool×Int))=>(if x5.1 then (p1.1,x5.2) else (ag1 ((p1.1+1),x5.2))))) else ((-1),p1.2))) (fun _=>default) (0,f__c0))
def jB (s_:(List ab)) (f__c0:Int):(Bool×Int):=
 (am (lm s_ f__c0) (fun (x1:(Int×Int))=>((decide (x1.1≥0)),x1.2)))
def jC (f_:ab) (left:Int):(Bool×Int):=
 (if (decide ((an .i64 left 1)<0)) then (false,(an .i64 left 1)) else (if (decide ((f_.Relation.Y.length:Int)>20)) then (false,(an .i64 left 1)) else (if (decide ((f_.Relation.Bases.length:Int)>20)) then (false,(an .i64 left 1)) else (am (nL (f_.Relation.Bases)) (fun (x7:Bool)=>(if x7 then (false,(an .i64 left 1)) else (am (jB (f_.L) (an .i64 left 1)) (fun (x11:(Bool×Int))=>((!x11.1),x11.2)))))))))
def ln (x_:bp) (c0:Int):(Bool×Int):=
 (am (cq x_ c0) (fun (x1:(Bool×Int))=>((!x1.1),x1.2)))
def lq (s_:(List bp)) (f__c0:Int):(Int×Int):=
 (ap (((s_.length:Int) - 0).toNat+1) (fun (ag1:(Int×Int)→(Int×Int)) (p1:Int×Int)=>(if (decide (p1.1<(s_.length:Int))) then (am (ln (gt s_ p1.1) (p1.2)) (fun (x5:(Bool×Int))=>(if x5.1 then (p1.1,x5.2) else (ag1 ((p1.1+1),x5.2))))) else ((-1),p1.2))) (fun _=>default) (0,f__c0))
def jD (s_:(List bp)) (f__c0:Int):(Bool×Int):=
 (am (lq s_ f__c0) (fun (x1:(Int×Int))=>((decide (x1.1≥0)),x1.2)))
def jE (t_:bp) (left:Int):(Bool×Int):=
 (if (decide ((an .i64 left 1)<0)) then (false,(an .i64 left 1)) else (if (decide ((t_.P.A.length:Int)>20)) then (false,(an .i64 left 1)) else (if (decide ((t_.P.Z.length:Int)>20)) then (false,(an .i64 left 1)) else (am (jD (t_.L) (an .i64 left 1)) (fun (x8:(Bool×Int))=>((!x8.1),x8.2))))))
def ri (t:bp):Bool:=
 (am (cq t 60) (fun (x1:(Bool×Int))=>(!x1.1)))
def rk (s:(List bp)):Int:=
 (ap (((s.length:Int) - 0).toNat+1) (fun (ag1:Int→Int) (p1:Int)=>(if (decide (p1<(s.length:Int))) then (am (ri (gt s p1)) (fun (x5:Bool)=>(if x5 then p1 else (ag1 (p1+1))))) else (-1))) (fun _=>default) 0)
def rm (s:(List bp)):Bool:=
 (am (rk s) (fun (x1:Int)=>(decide (x1≥0))))
def nM (f_:ab) (l:(List bp)):Bool:=
 (am (co f_ 60) (fun (x1:(Bool×Int))=>(if (!x1.1) then false else (am (rm l) (fun (x7:Bool)=>(!x7))))))
def gM (r_:aL):(List UInt8):=
 (ap (((r_.Y.length:Int) - 0).toNat+1) (fun (ag1:(Int×List (List UInt8))→(List UInt8)) (p1:Int×List (List UInt8))=>(if (decide (p1.1<(r_.Y.length:Int))) then (am (strconv_Itoa (gt r_.Y p1.1)) (fun (x5:(List UInt8))=>(ap ((((gt r_.Bases p1.1).length:Int) - 0).toNat+1) (fun (ag10:(List UInt8×Int)→(List UInt8)) (p10:List UInt8×Int)=>(if (decide (p10.2<((gt r_.Bases p1.1).length:Int))) then (am (strconv_Itoa (gt (gt r_.Bases p1.1) p10.2)) (fun (x14:(List UInt8))=>(ag10 ((p10.1++([32]++x14)),(p10.2+1))))) else (ag1 ((p1.1+1),(p1.2++([p10.1]:List (List UInt8))))))) (fun _=>default) ((x5++[32,61]),0)))) else (am (strings_Join (p1.2) ([44,32])) (fun (x20:(List UInt8))=>(([91]++x20)++[93]))))) (fun _=>default) (0,([]:List (List UInt8))))
mutual
def be:ab→List UInt8
 | ⟨k,r,l⟩=>if k=1 then gM r else if k=3 then (([111,114]++[40])++strings_Join (bH l) [44,32])++[41] else (([97,110,100]++[40])++strings_Join (bH l) [44,32])++[41]
def bH:List ab→List (List UInt8)
 | []=> []
 | f::l=>be f::bH l
end
def lr (f_:ab):(List UInt8):=
 (if (f_.Kind==1) then (am (gM (f_.Relation)) (fun (x3:(List UInt8))=>x3)) else (ap (((f_.L.length:Int) - 0).toNat+1) (fun (ag8:(Int×List (List UInt8))→(List UInt8)) (p8:Int×List (List UInt8))=>(if (decide (p8.1<(f_.L.length:Int))) then (am (be (gt f_.L p8.1)) (fun (x12:(List UInt8))=>(ag8 ((p8.1+1),(p8.2++([x12]:List (List UInt8))))))) else (if (f_.Kind==3) then (am (strings_Join (p8.2) ([44,32])) (fun (x19:(List UInt8))=>((([111,114]++[40])++x19)++[41]))) else (am (strings_Join (p8.2) ([44,32])) (fun (x24:(List UInt8))=>((([97,110,100]++[40])++x24)++[41])))))) (fun _=>default) (0,([]:List (List UInt8)))))
def fu (f_:ab):((List UInt8)×Int):=
 (am (du f_) (fun (x1:Bool)=>(if (!x1) then ([],1) else (am (be f_) (fun (x8:(List UInt8))=>(if (decide ((x8.length:Int)>8000)) then ([],5) else (x8,0)))))))
def fv (a_:(List Int)) (b:(List Int)):Bool:=
 (if ((a_.length:Int) !=(b.length:Int)) then false else (ap (((a_.length:Int) - 0).toNat+1) (fun (ag4:Int→Bool) (p4:Int)=>(if (decide (p4<(a_.length:Int))) then (if ((gt a_ p4) !=(gt b p4)) then false else (ag4 (p4+1))) else true)) (fun _=>default) 0))
def jF:List (List Int)→List (List Int)→Bool
 | [],_=>true
 | a::l,m=>fv a (gt m 0)&&jF l (m.drop 1)
mutual
def ew:ab→ab→Bool
 | ⟨k,r,l⟩,b=>if k≠b.Kind then false else if (l.length:Int)≠(b.L.length:Int) then false else if fv r.Y b.Relation.Y=false then false else if (r.Bases.length:Int)≠(b.Relation.Bases.length:Int) then false else if jF r.Bases b.Relation.Bases=false then false else fw l b.L
def fw:List ab→List ab→Bool
 | [],_=>true
 | f::l,m=>if ew f (gt m 0)=false then false else fw l (m.drop 1)
end
def ls (a_:ab) (b:ab):Bool:=
 (if (a_.Kind !=b.Kind) then false else (if ((a_.L.length:Int) !=(b.L.length:Int)) then false else (am (fv (a_.Relation.Y) (b.Relation.Y)) (fun (x5:Bool)=>(if (!x5) then false else (if ((a_.Relation.Bases.length:Int) !=(b.Relation.Bases.length:Int)) then false else (ap (((a_.Relation.Bases.length:Int) - 0).toNat+1) (fun (ag13:Int→Bool) (p13:Int)=>(if (decide (p13<(a_.Relation.Bases.length:Int))) then (am (fv (gt a_.Relation.Bases p13) (gt b.Relation.Bases p13)) (fun (x18:Bool)=>(if (!x18) then false else (ag13 (p13+1))))) else (ap (((a_.L.length:Int) - 0).toNat+1) (fun (ag25:Int→Bool) (p25:Int)=>(if (decide (p25<(a_.L.length:Int))) then (am (ew (gt a_.L p25) (gt b.L p25)) (fun (x30:Bool)=>(if (!x30) then false else (ag25 (p25+1))))) else true)) (fun _=>default) 0))) (fun _=>default) 0)))))))
def nN (f_:ab) (s:(List UInt8)):Bool:=
 (am (nJ) (fun (x1:Bool)=>(if (!x1) then false else (am (nM f_ ([]:List bp)) (fun (x7:Bool)=>(if (!x7) then true else (if (decide ((s.length:Int)>2000)) then true else (er (fun (p15:Unit)=>(am (et s) (fun (x16:(ab×Int))=>(if (x16.2 !=0) then (if (x16.1.Kind==0) then ((x16.1.L.length:Int)==0) else false) else (am (fu (x16.1)) (fun (x25:((List UInt8)×Int))=>(if (x25.2==0) then (x25.1==s) else false))))))) (fun j15=>(am (fu f_) (fun (x31:((List UInt8)×Int))=>(if (x31.2==0) then (am (et (x31.1)) (fun (x36:(ab×Int))=>(if (x36.2 !=0) then false else (am (ew (x36.1) f_) (fun (x41:Bool)=>(if (!x41) then false else (j15 ()))))))) else (if (!(x31.1==[])) then false else (j15 ()))))))))))))))
end Go.Proofs.YtiknkaadhomeiaaGreatDoor
namespace Go.Proofs.YtiknkaadhomeiaaGreatDoor
open Go.RowKit
theorem w64 (a:Int):IntKind.wrap .u64 a=a% 18446744073709551616:=by simp [IntKind.wrap,IntKind.bits,IntKind.signed]
theorem jG {k:IntKind} {x:Int} {n:Int} {m:Nat} (hn:min n.toNat k.bits=m):aq k x n=x/2^m:=by
 unfold aq;rw [hn,Int.fdiv_eq_ediv_of_nonneg];exact Int.le_of_lt (Int.pow_pos (by decide))
theorem gN (x:Int):aq .u64 x 32=x/4294967296:=jG (m:=32) rfl
theorem CL (x:Int):aq .u64 x 58=x/288230376151711744:=jG (m:=58) rfl
theorem bU (x:Int):aq .u64 x 1=x/2:=jG (m:=1) rfl
theorem bZ (x:Int):aq .i64 x 1=x/2:=jG (m:=1) rfl
theorem uZ {x:Int}:0≤aq .u64 (aK .u64 x 285870213051353865) 58∧aq .u64 (aK .u64 x 285870213051353865) 58<64:=by
 rw [CL];unfold aK;rw [w64];omega
def CN (x:Int) (l:Nat):Prop:=1≤l∧(2:Int)^(l - 1)≤x∧x<2^l
theorem CO (x:Nat):1≤x→x<2^64→1≤Lib.bitLen x∧2^(Lib.bitLen x - 1)≤x∧x<2^Lib.bitLen x:=by
 induction x using Nat.strongRecOn with
 | ind x ih=>
  intro h0 h1
  by_cases h:x=1
  ·subst h;decide
  ·obtain ⟨a1,a2,a3⟩:=ih (x/2) (by omega) (by omega) (by omega)
   rw [Lib.bitLen_half x (by omega) h1]
   generalize Lib.bitLen (x/2)=l at a1 a2 a3
   obtain ⟨l,rfl⟩: ∃k,l=k+1:=⟨l - 1,by omega⟩
   refine ⟨by omega,?_,?_⟩
   ·rw [show 1+(l+1) - 1=l+1 by omega,Nat.pow_succ]
    simp only [Nat.add_sub_cancel] at a2
    omega
   ·rw [show 1+(l+1)=(l+1)+1 by omega,Nat.pow_succ]
    omega
theorem CP {x:Int} (h0:1≤x) (h1:x≤18446744073709551615): ∃l:Nat,nu x=l∧CN x l∧l≤64:=by
 obtain ⟨k,rfl⟩:=Int.eq_ofNat_of_zero_le (show 0≤x by omega)
 have hk:k<2^64:=by omega
 obtain ⟨a1,a2,a3⟩:=CO k (by omega) hk
 exact ⟨Lib.bitLen k,rfl,⟨a1,by exact_mod_cast a2,by exact_mod_cast a3⟩,Lib.bitLen_le k 64 (by decide) hk⟩
theorem u2 {x y:Int} (hx:x=iz y) (h0:1≤y) (h1:y≤18446744073709551615):0≤x∧x≤63∧9223372036854775808≤ao .u64 y (al .u64 x)∧ao .u64 y (al .u64 x)=y*2^x.toNat:=by
 obtain ⟨l,e1,⟨e2,e3,e4⟩,e5⟩:=CP h0 h1
 have hx2:x=64 - (l:Int):=by
  rw [hx];unfold iz am;rw [e1];simp only;unfold an;rw [IntKind.wrap_i64];omega
 have hc:al .u64 x=x:=jo (by omega) (by omega)
 have hn:x.toNat=64 - l:=by omega
 have hm:min (al .u64 x).toNat IntKind.u64.bits=64 - l:=by rw [hc,hn];show min (64 - l) 64=_;omega
 have hp:(2:Int)^l*2^(64 - l)=18446744073709551616:=by rw [←Int.pow_add,show l+(64 - l)=64 by omega];decide
 have hq:(2:Int)^(l - 1)*2^(64 - l)=9223372036854775808:=by rw [←Int.pow_add,show l - 1+(64 - l)=63 by omega];decide
 have h2:(0:Int)<2^(64 - l):=Int.pow_pos (by decide)
 have g1:=Int.mul_le_mul_of_nonneg_right e3 (Int.le_of_lt h2)
 have g2:=Int.mul_lt_mul_of_pos_right e4 h2
 rw [hp] at g2;rw [hq] at g1
 have e:ao .u64 y (al .u64 x)=y*2^x.toNat:=by
  unfold ao;rw [hm,w64,hn];exact Int.emod_eq_of_lt (by omega) g2
 exact ⟨by omega,by omega,by rw [e,hn];exact g1,e⟩
theorem lu {x:Int} (h0:0≤x) (h1:x≤18446744073709551615):bA .u64 x 4294967295=x% 4294967296:=by
 obtain ⟨k,rfl⟩:=Int.eq_ofNat_of_zero_le h0
 unfold bA
 have e1:(BitVec.ofInt IntKind.u64.bits (k:Int)).toNat=k:=by
  show (BitVec.ofInt 64 (k:Int)).toNat=k
  rw [BitVec.toNat_ofInt];omega
 have e2:(BitVec.ofInt IntKind.u64.bits 4294967295).toNat=2^32 - 1:=by decide
 rw [BitVec.toNat_and,e1,e2,Nat.and_two_pow_sub_one_eq_mod,w64]
 omega
theorem jH {a b A:Int} (h1:0≤a) (h2:a≤A) (h3:0≤b) (h4:b≤A):0≤a*b∧a*b≤A*A:=
 ⟨Int.mul_nonneg h1 h3,Int.mul_le_mul h2 h4 h3 (Int.le_trans h1 h2)⟩
theorem cD {a:Int} (h0:0≤a) (h1:a≤18446744073709551615):IntKind.wrap .u64 a=a:=by rw [w64];omega
theorem u3 {x y:Int} (hx0:0≤x) (hx1:x≤18446744073709551615) (hy0:0≤y) (hy1:y≤18446744073709551615):gK x y=(x*y/18446744073709551616,x*y% 18446744073709551616):=by
 unfold gK
 rw [lu hx0 hx1,lu hy0 hy1,gN x,gN y]
 obtain ⟨x1,x0,rfl,h1,h2,h3,h4⟩: ∃x1 x0:Int,x=x1*4294967296+x0∧0≤x1∧x1≤4294967295∧0≤x0∧x0≤4294967295:=⟨x/4294967296,x% 4294967296,by omega,by omega,by omega,by omega,by omega⟩
 obtain ⟨y1,y0,rfl,g1,g2,g3,g4⟩: ∃y1 y0:Int,y=y1*4294967296+y0∧0≤y1∧y1≤4294967295∧0≤y0∧y0≤4294967295:=⟨y/4294967296,y% 4294967296,by omega,by omega,by omega,by omega,by omega⟩
 rw [show (x1*4294967296+x0)/4294967296=x1 by omega,show (y1*4294967296+y0)/4294967296=y1 by omega,show (x1*4294967296+x0)% 4294967296=x0 by omega,show (y1*4294967296+y0)% 4294967296=y0 by omega]
 have ea:=jH h1 h2 g1 g2
 have eb:=jH h1 h2 g3 g4
 have ec:=jH h3 h4 g1 g2
 have ed:=jH h3 h4 g3 g4
 have ex:(x1*4294967296+x0)*(y1*4294967296+y0)=x1*y1*18446744073709551616+(x1*y0+x0*y1)*4294967296+x0*y0:=by
  simp only [Int.add_mul,Int.mul_add]
  rw [show x1*4294967296*(y1*4294967296)=x1*y1*18446744073709551616 by rw [Int.mul_assoc,Int.mul_comm 4294967296 (y1*4294967296),Int.mul_assoc y1,←Int.mul_assoc];rfl,show x1*4294967296*y0=x1*y0*4294967296 by rw [Int.mul_assoc,Int.mul_comm 4294967296,←Int.mul_assoc],show x0*(y1*4294967296)=x0*y1*4294967296 by rw [Int.mul_assoc]]
  omega
 have em:aK .u64 (x1*4294967296+x0) (y1*4294967296+y0)=((x1*4294967296+x0)*(y1*4294967296+y0))% 18446744073709551616:=by unfold aK;rw [w64]
 have ma:aK .u64 x1 y1=x1*y1:=cD ea.1 (by omega)
 have mb:aK .u64 x1 y0=x1*y0:=cD eb.1 (by omega)
 have mc:aK .u64 x0 y1=x0*y1:=cD ec.1 (by omega)
 have md:aK .u64 x0 y0=x0*y0:=cD ed.1 (by omega)
 rw [em,ex,ma,mb,mc,md]
 generalize x1*y1=a at ea
 generalize x1*y0=b at eb
 generalize x0*y1=c at ec
 generalize x0*y0=d at ed
 rw [gN d]
 have t1:aE .u64 b (d/4294967296)=b+d/4294967296:=cD (by omega) (by omega)
 rw [t1,gN (b+d/4294967296),lu (by omega) (by omega)]
 have t2:aE .u64 ((b+d/4294967296)% 4294967296) c=(b+d/4294967296)% 4294967296+c:=cD (by omega) (by omega)
 rw [t2,gN]
 have hxy:a*18446744073709551616+(b+c)*4294967296+d≤18446744073709551615*18446744073709551615:=by
  have:=(jH hx0 hx1 hy0 hy1).2
  omega
 have t3:aE .u64 a ((b+d/4294967296)/4294967296)=a+(b+d/4294967296)/4294967296:=cD (by omega) (by omega)
 rw [t3]
 have t4:aE .u64 (a+(b+d/4294967296)/4294967296) (((b+d/4294967296)% 4294967296+c)/4294967296)=a+(b+d/4294967296)/4294967296+((b+d/4294967296)% 4294967296+c)/4294967296:=cD (by omega) (by omega)
 rw [t4]
 congr 1
 omega
theorem CQ {x y:Int} (hx:x=iz y) (h0:1≤y) (h1:y≤18446744073709551615):0≤x∧x≤63∧0≤al .u64 x∧0≤an .u64 64 (al .u64 x)∧2147483648≤aq .u64 (ao .u64 y (al .u64 x)) 32∧aq .u64 (ao .u64 y (al .u64 x)) 32≤4294967295:=by
 obtain ⟨a1,a2,a3,a4⟩:=u2 hx h0 h1
 have h2:ao .u64 y (al .u64 x)≤18446744073709551615:=(lM .u64 _ _).2
 refine ⟨a1,a2,jl _,(lL .u64 _ _).1,?_,?_⟩<;>rw [gN]<;>omega
theorem rn {u d:Int} (h0:0≤u) (h1:u≤18446744073709551615) (hd:1≤d):an .u64 u (aK .u64 (ca .u64 u d) d)=u% d∧ca .u64 u d=u/d∧0≤u% d∧u% d<d:=by
 have e1:u.tdiv d=u/d:=Int.tdiv_eq_ediv_of_nonneg h0
 have e2:u/d≤u:=Int.ediv_le_self _ h0
 have e3:0≤u/d:=Int.ediv_nonneg h0 (by omega)
 have e4:=Int.mul_ediv_add_emod u d
 have e5:=Int.emod_nonneg u (show d≠0 by omega)
 have e6:=Int.emod_lt_of_pos u (show 0<d by omega)
 have e7:ca .u64 u d=u/d:=by unfold ca;rw [e1];exact cD e3 (by omega)
 have e8:0≤u/d*d:=Int.mul_nonneg e3 (by omega)
 rw [Int.mul_comm] at e4
 have e9:aK .u64 (u/d) d=u/d*d:=cD e8 (by omega)
 refine ⟨?_,e7,e5,e6⟩
 rw [e7,e9];exact (cD (by omega) (by omega)).trans (by omega)
theorem CR {y1 y0 u a q r:Int} (ha1:a<4294967296) (hy0:0≤y0) (hu:u<y1*4294967296+y0) (hu0:0≤u) (hi:q*y1+r=u) (hr:0≤r) (ha:0≤a) (ht:q≥4294967296∨(q*y0>4294967296*r+a)):
  u*4294967296+a<q*(y1*4294967296+y0)∧1≤q:=by
 have e:q*(y1*4294967296+y0)=q*y1*4294967296+q*y0:=by rw [Int.mul_add,Int.mul_assoc]
 rcases ht with h|h
 ·refine ⟨?_,by omega⟩
  have h1:=Int.mul_le_mul_of_nonneg_right h (show 0≤y1*4294967296+y0 by omega)
  omega
 ·refine ⟨by omega,?_⟩
  refine Int.not_lt.1 fun hq=> ?_
  have:=Int.mul_nonneg (show 0≤ -q by omega) hy0
  rw [Int.neg_mul] at this
  omega
theorem CS {y1 y0 u a q r:Int} (hi:q*y1+r=u) (ht:q*y0≤4294967296*r+a):q*(y1*4294967296+y0)≤u*4294967296+a:=by
 have e:q*(y1*4294967296+y0)=q*y1*4294967296+q*y0:=by rw [Int.mul_add,Int.mul_assoc]
 omega
theorem CT {y1 y0 u a q r:Int} (ha:0≤a) (hi:q*y1+r=u) (hr:r≥4294967296) (hq:q≤4294967296) (hy0:0≤y0) (hy01:y0<4294967296):q*(y1*4294967296+y0)≤u*4294967296+a:=by
 have e:q*(y1*4294967296+y0)=q*y1*4294967296+q*y0:=by rw [Int.mul_add,Int.mul_assoc]
 have h1:=Int.mul_le_mul_of_nonneg_right hq hy0
 omega
def Dg (y1 y0 u a q:Int):Prop:=q*(y1*4294967296+y0)≤u*4294967296+a∧u*4294967296+a<(q+1)*(y1*4294967296+y0)
def DgI (y1 y0 u a:Int) (p:Int×Int):Prop:=p.1*y1+p.2=u∧0≤p.2∧p.2<4294967296∧0≤p.1∧p.1≤4294967297∧u*4294967296+a<(p.1+1)*(y1*4294967296+y0)
theorem u4 {y1 y0 u a:Int} (hy1:2147483648≤y1) (hy11:y1<4294967296) (hy0:0≤y0) (hy01:y0<4294967296) (hu0:0≤u) (hu:u<y1*4294967296+y0) (ha:0≤a) (ha1:a<4294967296):DgI y1 y0 u a (u/y1,u% y1):=by
 have e4:=Int.mul_ediv_add_emod u y1
 have e5:=Int.emod_nonneg u (show y1≠0 by omega)
 have e6:=Int.emod_lt_of_pos u (show 0<y1 by omega)
 have e3:0≤u/y1:=Int.ediv_nonneg hu0 (by omega)
 have e7:u/y1≤4294967297:=by
  have:u/y1<4294967298:=(Int.ediv_lt_iff_lt_mul (by omega)).2 (by omega)
  omega
 rw [Int.mul_comm] at e4
 refine ⟨e4,e5,by show u% y1<_;omega,e3,e7,?_⟩
 have e8:(u/y1+1)*(y1*4294967296+y0)=u/y1*y1*4294967296+y1*4294967296+(u/y1)*y0+y0:=by
  rw [Int.add_mul,Int.mul_add,Int.one_mul,Int.mul_assoc];omega
 have e9:=Int.mul_nonneg e3 hy0
 show u*4294967296+a<(u/y1+1)*(y1*4294967296+y0)
 rw [e8]
 omega
theorem CU {y1 y0 u a q r:Int} (hy0:0≤y0) (h:DgI y1 y0 u a (q,r)) (hu:u<y1*4294967296+y0) (ha:0≤a) (ha1:a<4294967296) (hu0:0≤u) (ht:q≥4294967296∨(q*y0>4294967296*r+a)):
  (q - 1)*y1+(r+y1)=u∧1≤q∧u*4294967296+a<(q - 1+1)*(y1*4294967296+y0):=by
 obtain ⟨h1,h2,h3,h4,h5,h6⟩:=h
 obtain ⟨a1,a2⟩:=CR ha1 hy0 hu hu0 h1 h2 ha ht
 refine ⟨?_,a2,?_⟩
 ·rw [Int.sub_mul,Int.one_mul];simp only at h1;omega
 ·rw [Int.sub_add_cancel];exact a1
theorem rp {α R:Type} {gq gr:α→Int} {mk:Int→Int→α} (hmq: ∀q r,gq (mk q r)=q) (hmr: ∀q r,gr (mk q r)=r) {y1 y0 u a:Int} (hy1:2147483648≤y1) (hy11:y1<4294967296) (hy0:0≤y0) (hy01:y0<4294967296) (hu0:0≤u) (hu:u<y1*4294967296+y0) (ha:0≤a) (ha1:a<4294967296) {F:(α→R)→α→R} {d:α→R} {j:Int→R}
  (hF: ∀ag p,F ag p=if decide (gq p≥4294967296)=true then (if decide (aE .u64 (gr p) y1≥4294967296)=true then j (an .u64 (gq p) 1) else ag (mk (an .u64 (gq p) 1) (aE .u64 (gr p) y1))) else
   if decide (aK .u64 (gq p) y0>aE .u64 (aK .u64 4294967296 (gr p)) a)=true then (if decide (aE .u64 (gr p) y1≥4294967296)=true then j (an .u64 (gq p) 1) else ag (mk (an .u64 (gq p) 1) (aE .u64 (gr p) y1))) else j (gq p))
  {v:R} (hv: ∀q,Dg y1 y0 u a q→j q=v): ∀(n:Nat) (p:α),DgI y1 y0 u a (gq p,gr p)→(4294967296 - gr p).toNat<n→ap n F d p=v
 | 0,p,_,h=>by omega
 | n+1,p,hI,hn=>by
  rw [ap,hF]
  obtain ⟨h1,h2,h3,h4,h5,h6⟩:=hI
  simp only at h1 h2 h3 h4 h5 h6
  generalize hq:gq p=q at*
  generalize hr:gr p=r at*
  have eA:aE .u64 r y1=r+y1:=cD (by omega) (by omega)
  have eS:1≤q→an .u64 q 1=q - 1:=fun h=>cD (by omega) (by omega)
  have down:(q≥4294967296∨(q*y0>4294967296*r+a))→(if decide (aE .u64 r y1≥4294967296)=true then j (an .u64 q 1) else ap n F d (mk (an .u64 q 1) (aE .u64 r y1)))=v:=by
   intro ht
   obtain ⟨d1,d2,d3⟩:=CU hy0 (show DgI y1 y0 u a (q,r) from ⟨h1,h2,h3,h4,h5,h6⟩) hu ha ha1 hu0 ht
   rw [eA,eS d2]
   by_cases hb:r+y1≥4294967296
   ·rw [if_pos (by simpa using hb)]
    exact hv _ ⟨CT ha d1 hb (by omega) hy0 hy01,d3⟩
   ·rw [if_neg (by simpa using hb)]
    exact rp hmq hmr hy1 hy11 hy0 hy01 hu0 hu ha ha1 hF hv n _ (by rw [hmq,hmr];exact ⟨d1,by show 0≤r+y1;omega,by show r+y1<_;omega,by show 0≤q - 1;omega,by show q - 1≤_;omega,d3⟩) (by rw [hmr];omega)
  by_cases ht:q≥4294967296
  ·rw [if_pos (by simpa using ht)]
   exact down (.inl ht)
  ·rw [if_neg (by simpa using ht)]
   have hm:=jH h4 (show q≤4294967295 by omega) hy0 (show y0≤4294967295 by omega)
   have e1:aK .u64 q y0=q*y0:=cD hm.1 (by omega)
   have e2:aK .u64 4294967296 r=4294967296*r:=cD (by omega) (by omega)
   have e3:aE .u64 (4294967296*r) a=4294967296*r+a:=cD (by omega) (by omega)
   rw [e1,e2,e3]
   by_cases hc:q*y0>4294967296*r+a
   ·rw [if_pos (by simpa using hc)]
    exact down (.inr hc)
   ·rw [if_neg (by simpa using hc)]
    exact hv _ ⟨CS h1 (by omega),h6⟩
theorem CV {a b:Int} {s:Nat} (hs:s≤63) (ha0:0≤a) (ha:a*2^s<18446744073709551616) (hb0:0≤b) (hb:b<2^s):orI .u64 (a*2^s) b=a*2^s+b:=by
 obtain ⟨a,rfl⟩:=Int.eq_ofNat_of_zero_le ha0
 obtain ⟨b,rfl⟩:=Int.eq_ofNat_of_zero_le hb0
 have hp:2^s≤2^63:=Nat.pow_le_pow_right (by decide) hs
 have e0:((a:Int)*2^s)=((a*2^s:Nat):Int):=by push_cast;rfl
 have ha':a*2^s<18446744073709551616:=by
  rw [e0] at ha
  generalize a*2^s=t at ha⊢
  omega
 have hb':b<2^s:=by exact_mod_cast hb
 rw [e0]
 unfold orI
 have t: ∀n:Nat,n<18446744073709551616→(BitVec.ofInt IntKind.u64.bits (n:Int)).toNat=n:=by
  intro n hn
  show (BitVec.ofInt 64 (n:Int)).toNat=n
  rw [BitVec.toNat_ofInt];omega
 rw [BitVec.toNat_or,t _ ha',t _ (by omega),Nat.mul_comm a,←Nat.two_pow_add_eq_or_of_lt hb',w64]
 rw [Nat.mul_comm] at ha'
 have:2^s*a+b<18446744073709551616:=by
  have h1:2^s*(a+1)≤18446744073709551616:=by
   have h2:2^s∣18446744073709551616:=⟨2^(64 - s),by rw [←Nat.pow_add,show s+(64 - s)=64 by omega]⟩
   obtain ⟨c,hc⟩:=h2
   rw [hc] at ha'⊢
   exact Nat.mul_le_mul_left _ (Nat.lt_of_mul_lt_mul_left ha')
  rw [Nat.mul_add,Nat.mul_one] at h1
  omega
 omega
theorem CW (a b:Int) {c:Int} (h:0<c):(a*c)% (b*c)=a% b*c:=by
 rw [Int.mul_comm a,Int.mul_comm b,Int.mul_emod_mul_of_pos _ _ h,Int.mul_comm]
theorem CX {N y Y p u w a1 a0 q1 q0 v:Int} (hp:0<p) (hY:Y=y*p) (hY0:0<Y) (hw:w=a1*4294967296+a0) (hN:u*18446744073709551616+w=N*p)
  (hv:v=u*4294967296+a1 - q1*Y) (h1:q0*Y≤v*4294967296+a0) (h2:v*4294967296+a0<(q0+1)*Y):
  q1*4294967296+q0=N/y∧v*4294967296+a0 - q0*Y=N% y*p:=by
 have e:N*p=(q1*4294967296+q0)*Y+(v*4294967296+a0 - q0*Y):=by
  have e1:(q1*4294967296+q0)*Y=q1*Y*4294967296+q0*Y:=by rw [Int.add_mul,Int.mul_right_comm]
  rw [e1];omega
 have e2:(q0+1)*Y=q0*Y+Y:=by rw [Int.add_mul,Int.one_mul]
 generalize hR:v*4294967296+a0 - q0*Y=R at*
 generalize hQ:q1*4294967296+q0=Q at*
 have hR0:0≤R:=by omega
 have hR1:R<Y:=by omega
 have d:N*p/Y=Q:=by
  rw [e,Int.add_comm,Int.add_mul_ediv_right _ _ (by omega),Int.ediv_eq_zero_of_lt hR0 hR1];omega
 have m:N*p% Y=R:=by rw [e,Int.add_comm,Int.add_mul_emod_self_right,Int.emod_eq_of_lt hR0 hR1]
 rw [hY] at d m
 rw [Int.mul_ediv_mul_of_pos_left _ _ hp] at d
 rw [CW _ _ hp] at m
 exact ⟨d.symm,m.symm⟩
theorem u5 {u a q Y:Int} (h0:0≤u*4294967296+a - q*Y) (h1:u*4294967296+a - q*Y≤18446744073709551615):an .u64 (aE .u64 (aK .u64 u 4294967296) a) (aK .u64 q Y)=u*4294967296+a - q*Y:=by
 unfold an aE aK
 simp only [w64]
 generalize q*Y=T at*
 omega
theorem CY {q r:Int} (h0:0≤q*4294967296+r) (h1:q*4294967296+r≤18446744073709551615):aE .u64 (aK .u64 q 4294967296) r=q*4294967296+r:=by
 unfold aE aK
 simp only [w64]
 omega
theorem u6 {α R:Type} {f:α→R} {G:(α→R)→R} {v:R} (h: ∀j,j=f→G j=v):er f G=v:=h f rfl
set_option maxRecDepth 4000 in
theorem CZ {hi lo y:Int} (hh0:0≤hi) (hl0:0≤lo) (hl1:lo≤18446744073709551615) (hy:hi<y) (hy1:y≤18446744073709551615):jx hi lo y=((hi*18446744073709551616+lo)/y,(hi*18446744073709551616+lo)% y):=by
 unfold jx
 rw [if_neg (by simp;omega),if_neg (by simp;omega)]
 by_cases h0:hi=0
 ·subst h0
  rw [if_pos (by decide)]
  have e1:lo.tdiv y=lo/y:=Int.tdiv_eq_ediv_of_nonneg hl0
  have e2:lo/y≤lo:=Int.ediv_le_self _ hl0
  have e3:0≤lo/y:=Int.ediv_nonneg hl0 (by omega)
  have e4:ca .u64 lo y=lo/y:=by unfold ca;rw [e1];exact cD e3 (by omega)
  have e5:dg .u64 lo y=lo% y:=Int.tmod_eq_emod_of_nonneg hl0
  rw [e4,e5];simp
 ·rw [if_neg (by simpa using h0)]
  obtain ⟨s,hs⟩: ∃s,s=iz y:=⟨_,rfl⟩
  obtain ⟨s0,s1,s2,s3⟩:=u2 hs (by omega) hy1
  have hY:=(lM .u64 y (al .u64 s)).2
  simp only [am,←hs]
  obtain ⟨k,rfl⟩:=Int.eq_ofNat_of_zero_le s0
  rw [s3] at s2 hY
  simp only [Int.toNat_natCast] at s2 s3 hY
  rw [s3]
  have hk:k≤63:=by omega
  have hp:(0:Int)<2^k:=Int.pow_pos (by decide)
  have hp2:(2:Int)^k*2^(64 - k)=18446744073709551616:=by rw [←Int.pow_add,show k+(64 - k)=64 by omega];rfl
  have hc:al .u64 (k:Int)=k:=jo (by omega) (by omega)
  have hYm:y*2^k≤18446744073709551615:=by show _≤(18446744073709551615:Int);exact hY
  -- the high part
  have hhi:hi*2^k<y*2^k:=Int.mul_lt_mul_of_pos_right hy hp
  have m1:ao .u64 hi (k:Int)=hi*2^k:=by
   unfold ao
   rw [Int.toNat_natCast,show min k IntKind.u64.bits=k by show min k 64=k;omega]
   exact cD (Int.mul_nonneg hh0 (Int.le_of_lt hp)) (by omega)
  have m2:aq .u64 lo (an .u64 64 (k:Int))=lo/2^(64 - k):=by
   have e:an .u64 64 (k:Int)=((64 - k:Nat):Int):=by
    have:an .u64 64 (k:Int)=64 - (k:Int):=cD (by omega) (by omega)
    omega
   rw [e];exact jG (by rw [Int.toNat_natCast];show min (64 - k) 64=_;omega)
  have m3:ao .u64 lo (k:Int)=lo*2^k% 18446744073709551616:=by
   unfold ao
   rw [Int.toNat_natCast,show min k IntKind.u64.bits=k by show min k 64=k;omega,w64]
  have hb0:0≤lo/2^(64 - k):=Int.ediv_nonneg hl0 (Int.le_of_lt (Int.pow_pos (by decide)))
  have hb1:lo/2^(64 - k)<2^k:=(Int.ediv_lt_iff_lt_mul (Int.pow_pos (by decide))).2 (by rw [hp2];omega)
  rw [hc,m1,m2,m3,CV hk hh0 (by omega) hb0 hb1]
  -- the whole, shifted
  have hN:(hi*2^k+lo/2^(64 - k))*18446744073709551616+lo*2^k% 18446744073709551616=(hi*18446744073709551616+lo)*2^k:=by
   have e:lo/2^(64 - k)=lo*2^k/18446744073709551616:=by
    rw [←hp2,Int.mul_comm ((2:Int)^k),Int.mul_ediv_mul_of_pos_left _ _ hp]
   rw [e,Int.add_mul,Int.add_mul (hi*18446744073709551616),Int.mul_right_comm hi]
   omega
  have hy1':0<y:=by omega
  have hQ0:0≤(hi*18446744073709551616+lo)/y:=Int.ediv_nonneg (by omega) (by omega)
  have hQ1:(hi*18446744073709551616+lo)/y<18446744073709551616:=(Int.ediv_lt_iff_lt_mul hy1').2 (by omega)
  have hu0:0≤hi*2^k+lo/2^(64 - k):=by have:=Int.mul_nonneg hh0 (Int.le_of_lt hp);omega
  have hu1:hi*2^k+lo/2^(64 - k)<y*2^k:=by
   have h1:=Int.mul_le_mul_of_nonneg_right (show hi+1≤y by omega) (Int.le_of_lt hp)
   rw [Int.add_mul,Int.one_mul] at h1
   omega
  obtain ⟨N,hNe⟩: ∃N,N=hi*18446744073709551616+lo:=⟨_,rfl⟩
  rw [←hNe] at hN hQ0 hQ1⊢
  obtain ⟨Y,hYe⟩: ∃Y,Y=y*2^k:=⟨_,rfl⟩
  rw [←hYe] at s2 hYm hu1⊢
  generalize hi*2^k+lo/2^(64 - k)=u at hN hu0 hu1⊢
  have hW0:0≤lo*2^k% 18446744073709551616:=Int.emod_nonneg _ (by decide)
  have hW1:lo*2^k% 18446744073709551616<18446744073709551616:=Int.emod_lt_of_pos _ (by decide)
  generalize lo*2^k% 18446744073709551616=W at hN hW0 hW1⊢
  rw [gN Y,lu (by omega) hYm,gN W,lu hW0 (by omega)]
  have hYs:Y/4294967296*4294967296+Y% 4294967296=Y:=by omega
  have hWs:W=W/4294967296*4294967296+W% 4294967296:=by omega
  have b1:2147483648≤Y/4294967296:=by omega
  have b2:Y/4294967296<4294967296:=by omega
  have b3:0≤Y% 4294967296:=by omega
  have b4:Y% 4294967296<4294967296:=by omega
  have b5:0≤W/4294967296:=by omega
  have b6:W/4294967296<4294967296:=by omega
  have b7:0≤W% 4294967296:=by omega
  have b8:W% 4294967296<4294967296:=by omega
  generalize Y/4294967296=y1 at*
  generalize Y% 4294967296=y0 at*
  generalize W/4294967296=a1 at*
  generalize W% 4294967296=a0 at*
  obtain ⟨r1,r2,r3,r4⟩:=rn (u:=u) (d:=y1) hu0 (by omega) (by omega)
  rw [r1,r2]
  refine u6 fun j8 hj8=> ?_
  refine rp (j:=j8) (gq:=fun p:Int×Int=>p.1) (gr:=fun p=>p.2) (mk:=fun q r=>(q,r)) (fun _ _=>rfl) (fun _ _=>rfl) b1 b2 b3 b4 hu0 (by omega) b5 b6 (by exact fun ag p=>rfl) (fun q1 hq1=> ?_) _ _ (by exact u4 b1 b2 b3 b4 hu0 (by omega) b5 b6) (by show (4294967296 - u% y1).toNat<_;omega)
  obtain ⟨g1,g2⟩:=hq1
  subst hj8
  dsimp only
  rw [hYs] at g1 g2
  have g3:(q1+1)*Y=q1*Y+Y:=by rw [Int.add_mul,Int.one_mul]
  rw [g3] at g2
  have ev:=u5 (u:=u) (a:=a1) (q:=q1) (Y:=Y) (by omega) (by omega)
  rw [ev]
  obtain ⟨v,hv⟩: ∃v,v=u*4294967296+a1 - q1*Y:=⟨_,rfl⟩
  rw [←hv]
  have hv0:0≤v:=by omega
  have hv1:v<Y:=by omega
  obtain ⟨t1,t2,t3,t4⟩:=rn (u:=v) (d:=y1) hv0 (by omega) (by omega)
  rw [t1,t2]
  refine u6 fun j9 hj9=> ?_
  refine rp (j:=j9) (gq:=fun p:Int×Int=>p.2) (gr:=fun p=>p.1) (mk:=fun q r=>(r,q)) (fun _ _=>rfl) (fun _ _=>rfl) b1 b2 b3 b4 hv0 (by omega) b7 b8 (by exact fun ag p=>rfl) (fun q0 hq0=> ?_) _ _ (by exact u4 b1 b2 b3 b4 hv0 (by omega) b7 b8) (by show (4294967296 - v% y1).toNat<_;omega)
  obtain ⟨f1,f2⟩:=hq0
  subst hj9
  dsimp only
  rw [hYs] at f1 f2
  obtain ⟨z1,z2⟩:=CX hp hYe (by omega) hWs hN hv f1 f2
  have f3:(q0+1)*Y=q0*Y+Y:=by rw [Int.add_mul,Int.one_mul]
  rw [f3] at f2
  rw [u5 (by omega) (by omega),CY (by omega) (by omega),z1,z2,jG (m:=k) (by rw [Int.toNat_natCast];show min k 64=k;omega),Int.mul_ediv_cancel _ (Int.ne_of_gt hp)]
theorem C0 (a b:Int):0≤orI .u64 a b∧orI .u64 a b≤18446744073709551615:=su .u64 a b
theorem C1 (a b:Int):0≤an .u64 a b∧an .u64 a b≤18446744073709551615:=lL .u64 a b
theorem gO {a b:Int} (h0:0≤a) (h1:a≤4294967295) (h2:0≤b) (h3:b≤4294967295):aE .u64 a b=a+b:=cD (by omega) (by omega)
theorem u7 {a b n:Int} (ha:0≤a) (hn:a<n) (hn1:n≤18446744073709551615) (hb:0≤b) (hb1:b≤18446744073709551615):(gK a b).1<n:=by
 rw [u3 ha (by omega) hb hb1]
 refine (Int.ediv_lt_iff_lt_mul (by decide)).2 ?_
 have h1:=Int.mul_le_mul (show a≤n - 1 by omega) hb1 hb (by omega)
 omega
theorem u_ (n:Int) {a b:Int} {x:Int×Int} (hx:x=gK a b) (ha:0≤a) (hn:a<n) (hn1:n≤18446744073709551615) (hb:0≤b) (hb1:b≤18446744073709551615):x.1<n:=hx▸u7 ha hn hn1 hb hb1
theorem va {u d:Int} (h:0≤u∧u≤18446744073709551615) (hd:1≤d) (hd1:d≤4294967295):0≤an .u64 u (aK .u64 (ca .u64 u d) d)∧an .u64 u (aK .u64 (ca .u64 u d) d)≤4294967295:=by
 obtain ⟨a1,a2,a3,a4⟩:=rn h.1 h.2 hd
 rw [a1];omega
theorem vb {a b n:Int} (ha:0≤a) (hn:a<n) (hb:0≤b) (hb1:b≤18446744073709551615) (hn1:n≤18446744073709551615):dW a b n=a*b% n:=by
 have h1:=u7 ha hn hn1 hb hb1
 have hp:=Int.mul_nonneg ha hb
 unfold dW am
 rw [u3 ha (by omega) hb hb1] at h1⊢
 simp only at h1⊢
 rw [CZ (Int.ediv_nonneg hp (by decide)) (Int.emod_nonneg _ (by decide)) (by have:=Int.emod_lt_of_pos (a*b) (show (0:Int)<18446744073709551616 by decide);omega) h1 hn1]
 simp only
 congr 1
 omega
theorem iC {a b n x:Int} (hx:x=dW a b n) (ha:0≤a) (hn:a<n) (hb:0≤b) (hb1:b≤18446744073709551615) (hn1:n≤18446744073709551615):0≤x∧x<n:=by
 rw [hx,vb ha hn hb hb1 hn1];exact ⟨Int.emod_nonneg _ (by omega),Int.emod_lt_of_pos _ (by omega)⟩
theorem C2 {a e n x:Int} (hx:x=k9 a e n) (ha:0≤a) (hn:a<n) (h1:1<n) (hn1:n≤18446744073709551615):0≤x∧x<n:=by
 subst hx
 unfold k9
 refine uX (P:=fun p:Int×Int×Int=>0≤p.1∧p.1<n∧0≤p.2.2∧p.2.2<n) (Q:=fun x=>0≤x∧x<n) (meas:=fun p=>p.2.1.toNat) ?_ _ _ ⟨ha,hn,show (0:Int)≤1 by decide,h1⟩ (by show e.toNat<_;omega)
 rintro ag ⟨a,e,x⟩ ⟨p1,p2,p3,p4⟩ ih
 simp only at p1 p2 p3 p4 ih⊢
 by_cases he:e>0
 ·rw [if_pos (by simpa using he)]
  have hs:(aq .u64 e 1).toNat<e.toNat:=by rw [bU];omega
  simp only [am]
  by_cases hc:(bA .u64 e 1==1)=true
  ·rw [if_pos hc]
   have m1:=iC (x:=dW x a n) rfl p3 p4 p1 (by omega) hn1
   have m2:=iC (x:=dW a a n) rfl p1 p2 p1 (by omega) hn1
   exact ih _ ⟨m2.1,m2.2,m1.1,m1.2⟩ hs
  ·rw [if_neg hc]
   have m2:=iC (x:=dW a a n) rfl p1 p2 p1 (by omega) hn1
   exact ih _ ⟨m2.1,m2.2,p3,p4⟩ hs
 ·rw [if_neg (by simpa using he)]
  exact ⟨p3,p4⟩
@[go_sem] theorem C3 {n:Nat} {k:IntKind}: ∀{l:List Int},ltL n (l.map (V.int k))=True
 | []=>by simp [ltL]
 | a::l=>by simp only [List.map_cons,ltL,C3 (l:=l),ltV,and_self]
@[go_sem] theorem Gj {k:IntKind} {a b c i:Int}:elt [V.int k a,V.int k b,V.int k c] i.toNat (V.int k 0)=V.int k (gt [a,b,c] i):=by
 unfold elt gt
 match i.toNat with
 | 0=>rfl
 | 1=>rfl
 | 2=>rfl
 | n+3=>rfl
theorem C4:cf.length=12:=rfl
theorem C5:cf.all (fun x=>decide (2≤x)&&decide (x≤37))=true:=by decide
theorem b9 {j:Int} (h0:0≤j) (h1:j<12):2≤gt cf j∧gt cf j≤37:=by
 have hm:gt cf j∈cf:=bF (by show j.toNat<12;omega)
 simpa using List.all_eq_true.1 C5 _ hm
def lv (u i:Int):Prop:= ∀k:Int,0≤k→k<i→u% gt cf k≠0
theorem C6 {u:Int}:lv u 0:=fun k h0 h1=>by omega
theorem C7 {u i:Int} (h:lv u i) (hu:0≤u) (h0:0≤i) (h1:i<12) (hr: ¬dg .u64 u (gt cf i)=0):lv u (i+1):=by
 intro k k0 k1
 by_cases hk:k<i
 ·exact h k k0 hk
 ·obtain rfl:k=i:=by omega
  rwa [show dg .u64 u (gt cf k)=u% gt cf k from Int.tmod_eq_emod_of_nonneg hu] at hr
theorem C8: ∀u:Fin 38,2≤u.val→ ∃k:Fin 12,((u.val:Nat):Int)% cf.getD k.val 0=0:=by decide
theorem C9 {u i:Int} (h:lv u i) (hi:12≤i) (h2:2≤u):37<u:=by
 refine Int.not_le.1 fun hu=> ?_
 obtain ⟨k,hk⟩:=C8 ⟨u.toNat,by omega⟩ (by show 2≤u.toNat;omega)
 refine h (k.val:Int) (by omega) (by omega) ?_
 have e:((u.toNat:Nat):Int)=u:=by omega
 rw [←e,xB]
 exact hk
theorem C_:gE.all (fun x=>decide (0≤x)&&decide (x≤63))=true:=by decide
theorem Da {a x:Int} (hx:x=kY a):0≤x∧x≤64:=by
 subst hx
 unfold kY
 split
 ·omega
 ·have hi:=uZ (x:=bA .u64 a (gW .u64 a))
  have hm:=bF (l:=gE) (i:=aq .u64 (aK .u64 (bA .u64 a (gW .u64 a)) 285870213051353865) 58) (by show _<64;omega)
  have:=List.all_eq_true.1 C_ _ hm
  simp only [Bool.and_eq_true,decide_eq_true_eq] at this
  rw [ux (by omega) (by omega)];omega
theorem Db {x:Int} (h0:0≤x) (h1:x≤64):an .i64 x 1=x - 1:=by unfold an;rw [IntKind.wrap_i64];omega
theorem jI {m:Int} (h:1≤m):0≤dg .i64 1 m∧dg .i64 1 m<m:=by
 rw [show dg .i64 1 m=1% m from Int.tmod_eq_emod_of_nonneg (by decide)]
 exact ⟨Int.emod_nonneg _ (by omega),Int.emod_lt_of_pos _ (by omega)⟩
theorem Dc {a b m:Int} (h:iA a b m=0):1≤m∧m<2305843009213693952∧0≤a∧a<m∧0≤b∧b<m:=by
 unfold iA at h
 simp only [am,k_] at h
 repeat' (split at h)
 all_goals simp_all
 all_goals omega
instance Gk (a b m:Int):CF (iA a b m) (fun x=>x=0→1≤m∧m<2305843009213693952∧0≤a∧a<m∧0≤b∧b<m):=⟨Dc⟩
theorem nO {x:Int} (h0:0≤x) (h1:x≤9223372036854775807):al .u64 x=x:=jo h0 (by omega)
theorem Dd {a b n:Int} (ha:0≤a) (hn:a<n) (hb:0≤b) (hb1:b≤9223372036854775807) (hn1:n≤9223372036854775807):fW a b n=a*b% n:=by
 have h:=vb ha hn hb (by omega) (by omega)
 have e:fW a b n=al .i64 (dW (al .u64 a) (al .u64 b) (al .u64 n)):=rfl
 have c1:al .u64 a=a:=jo ha (by omega)
 have c2:al .u64 b=b:=jo hb (by omega)
 have c3:al .u64 n=n:=jo (by omega) (by omega)
 rw [e,c1,c2,c3,h]
 have:=Int.emod_nonneg (a*b) (show n≠0 by omega)
 have:=Int.emod_lt_of_pos (a*b) (show 0<n by omega)
 exact ux (by omega) (by omega)
theorem rq {a b n x:Int} (hx:x=fW a b n) (ha:0≤a) (hn:a<n) (hb:0≤b) (hb1:b≤9223372036854775807) (hn1:n≤9223372036854775807):0≤x∧x<n:=by
 rw [hx,Dd ha hn hb hb1 hn1];exact ⟨Int.emod_nonneg _ (by omega),Int.emod_lt_of_pos _ (by omega)⟩
end Go.Proofs.YtiknkaadhomeiaaGreatDoor
namespace Go.Proofs.YtiknkaadhomeiaaGreatDoor
open Go.RowKit
set_option linter.unusedVariables false
set_option linter.unusedSimpArgs false
def bR (l:List (List UInt8)):Nat:=(l.map List.length).sum
theorem vc (sep:List UInt8): ∀l:List (List UInt8),(Lib.joinTail sep l).length=bR l+l.length*sep.length
 | []=>by simp [Lib.joinTail,bR]
 | x::l=>by
  have ih:=vc sep l
  simp only [Lib.joinTail,bR,List.map_cons,List.flatten_cons,List.length_append,List.sum_cons,List.length_cons,Nat.succ_mul] at ih⊢
  omega
theorem vd (l:List (List UInt8)) (sep:List UInt8):(Lib.join l sep).length≤bR l+l.length*sep.length:=by
 cases l with
 | nil=>simp [Lib.join_nil]
 | cons x l=>
  rw [Lib.join_cons,List.length_append,vc]
  simp only [bR,List.map_cons,List.sum_cons,List.length_cons,Nat.succ_mul]
  omega
theorem n11: ¬(((1:Int) !=1)=true):=by decide
theorem De {g:ax} {x:Bool} (hx:x=iB g) (h:x=true):1≤g.Q:=by
 subst hx
 unfold iB at h
 by_cases h1:1≤g.Q
 ·exact h1
 ·exfalso
  revert h
  repeat' split
  all_goals simp_all [am]
  all_goals omega
theorem Df {α:Type} [Inhabited α] {l:List α} {x:α} (h:x∈l): ∃i:Nat,i<l.length∧gt l i=x:=by
 obtain ⟨i,hi,rfl⟩:=List.getElem_of_mem h
 exact ⟨i,hi,by simp [gt,List.getD_eq_getElem?_getD,hi]⟩
theorem Dh {s:List (List Int)} {n:Int} {g:ax} (h:lf s n g=false): ∀x∈s,(x.length:Int)=n:=by
 have h1: ¬(0≤jy s n g):=by
  unfold lf at h
  simp only [am,decide_eq_false_iff_not] at h
  omega
 have h2: ¬(0≤jy s n g)→ ∀i:Nat,i<s.length→((gt s i).length:Int)=n:=by
  unfold jy
  refine uX (P:=fun a:Int=>0≤a∧a≤s.length∧ ∀i:Nat,(i:Int)<a→((gt s i).length:Int)=n) (Q:=fun r:Int=> ¬(0≤r)→ ∀i:Nat,i<s.length→((gt s i).length:Int)=n) (meas:=fun a=>((s.length:Int) - a).toNat) ?_ _ _ ?_ ?_
  rotate_left
  ·exact ⟨Int.le_refl _,show (0:Int)≤(s.length:Int) by omega,fun i hi=>absurd hi (by omega)⟩
  ·show ((s.length:Int) - 0).toNat<((s.length:Int) - 0).toNat+1
   omega
  rintro ag a ⟨g0,g1,g2⟩ ih
  by_cases hp:a<(s.length:Int)
  ·simp only [am,if_pos (show decide (a<(s.length:Int))=true by simpa using hp)]
   cases hv:ld (gt s a) n g with
   | true=>rw [if_pos rfl];intro h3;exact absurd g0 h3
   | false=>
    rw [if_neg (by decide)]
    refine ih _ ⟨by omega,by omega,fun i hi=> ?_⟩ (by omega)
    by_cases he:(i:Int)=a
    ·rw [he]
     unfold ld at hv
     split at hv
     ·cases hv
     ·rename_i h5
      simpa using h5
    ·exact g2 i (by omega)
  ·simp only [if_neg (show¬decide (a<(s.length:Int))=true by simpa using hp)]
   intro _ i hi
   exact g2 i (by omega)
 intro x hx
 obtain ⟨i,hi,rfl⟩:=Df hx
 exact h2 h1 i hi
def okR (g:ax) (r:aL):Prop:=1≤g.Q∧r.Bases.length=r.Y.length∧1≤r.Y.length∧r.Y.length≤8∧(∀x∈r.Bases,(x.length:Int)=fX r)∧fX r≤12
theorem rr {g:ax} {r:aL} (h:gL g r=true):okR g r:=by
 unfold gL at h
 simp only [am] at h
 cases hg:iB g with
 | false=>rw [hg] at h;cases h
 | true=>
  rw [hg] at h
  rw [if_neg (by decide)] at h
  split at h
  ·cases h
  ·rename_i h1
   split at h
   ·cases h
   ·rename_i h2
    split at h
    ·cases h
    ·rename_i h3
     split at h
     ·cases h
     ·split at h
      ·cases h
      ·split at h
       ·cases h
       ·rename_i h5
        have h6:=Dh (by simpa using h)
        simp only [decide_eq_true_eq,bne_iff_ne,ne_eq,Decidable.not_not] at h1 h2 h3 h5
        exact ⟨De hg.symm rfl,by omega,by omega,by omega,h6,by unfold fX;omega⟩
instance Gm (g:ax) (r:aL):CF (gL g r) (fun x=>x=true→okR g r):=⟨fun h=>rr h⟩
theorem lw {E:Env} {S:St} (t i:Nat) {n:Nat} {g:Bool} {d:V} (h:ae S.F t=some (.ptr i 0)) (h2:ae S.H i=some (.pvar n g d)):cc E S ⟨(t,.pp n g d)::S.F,S.H,S.nx⟩:=by
 intro c0 c ρ F hs
 refine ⟨c,ρ,rfl,⟨hs.1.since,hs.1.gl,fun t' v ht=> ?_,hs.1.heap,hs.1.sep⟩,hs.2⟩
 simp only [ae] at ht
 split at ht
 ·rename_i e;subst e;cases ht
  have h3:=hs.1.slot _ _ h
  obtain ⟨b,h4,h5⟩:=hs.1.heap _ _ h2
  simp only [rd] at h3⊢
  obtain ⟨b',h6,h7⟩:=h3
  rw [h4] at h6
  simp only [Option.some.injEq,Value.pointer.injEq,Addr.mk.injEq,and_true] at h6
  subst h6
  rw [h7]
  obtain ⟨b2,o,cs,e1,e2,e3,e4,e5⟩:=h5
  exact ⟨b2,o,cs,e1,e2,e3,e4,e5⟩
 ·exact hs.1.slot _ _ ht
end Go.Proofs.YtiknkaadhomeiaaGreatDoor
namespace Go.Proofs.YtiknkaadhomeiaaGreatDoor
open Go.RowKit
set_option linter.unusedVariables false
set_option linter.unusedSimpArgs false
theorem Di (f:ab):aN f=1+fq f.L:=by cases f;rfl
theorem ve: ∀{l:List ab} {x:ab},x∈l→aN x≤fq l
 | a::l,x,h=>by
  rw [fq]
  rcases List.mem_cons.1 h with rfl|h
  ·omega
  ·have:=ve h;omega
theorem dX {f x:ab} (h:x∈f.L):aN x<aN f:=by rw [Di f];have:=ve h;omega
theorem Dj (t:bp):dt t=1+kW t.L:=by cases t;rfl
theorem vf: ∀{l:List bp} {x:bp},x∈l→dt x≤kW l
 | a::l,x,h=>by
  rw [kW]
  rcases List.mem_cons.1 h with rfl|h
  ·omega
  ·have:=vf h;omega
theorem Dk {f x:bp} (h:x∈f.L):dt x<dt f:=by rw [Dj f];have:=vf h;omega
theorem gP {α:Type} [Inhabited α] {l:List α} {k:Nat} (h:k<l.length):gt l (k:Int)=l[k]:=by simp [gt,List.getD_eq_getElem?_getD,h]
theorem vg {α:Type} [Inhabited α] {l:List α} (f:α→Int→Bool×Int) (L:List α→Int→Bool×Int) (h0: ∀n,L [] n=(true,n)) (h1: ∀a l n,L (a::l) n=if (f a n).1=true then L l (f a n).2 else (false,(f a n).2))
  {F:(Int×Int→Int×Int)→Int×Int→Int×Int} {d:Int×Int→Int×Int} (hF: ∀ag p,F ag p=if decide (p.1<(l.length:Int))=true then (if (!(f (gt l p.1) p.2).1)=true then (p.1,(f (gt l p.1) p.2).2) else ag (p.1+1,(f (gt l p.1) p.2).2)) else (-1,p.2)) (n:Int):
  (decide ((ap (((l.length:Int) - 0).toNat+1) F d (0,n)).1≥0),(ap (((l.length:Int) - 0).toNat+1) F d (0,n)).2)=(!(L l n).1,(L l n).2):=by
 have key: ∀(m k:Nat) (n:Int),l.length - k=m→k≤l.length→ ∀fuel,m<fuel→(decide ((ap fuel F d ((k:Int),n)).1≥0),(ap fuel F d ((k:Int),n)).2)=(!(L (l.drop k) n).1,(L (l.drop k) n).2):=by
  intro m
  induction m with
  | zero=>
   intro k n e1 e2 fuel hf
   obtain ⟨g,rfl⟩: ∃g,fuel=g+1:=⟨fuel - 1,by omega⟩
   rw [ap,hF,if_neg (by simp;omega),List.drop_of_length_le (by omega),h0]
   rfl
  | succ m ih=>
   intro k n e1 e2 fuel hf
   obtain ⟨g,rfl⟩: ∃g,fuel=g+1:=⟨fuel - 1,by omega⟩
   have hk:k<l.length:=by omega
   rw [ap,hF,if_pos (by simp;omega),List.drop_eq_getElem_cons hk,h1]
   dsimp only
   rw [gP hk]
   cases hc:(f l[k] n).1 with
   | false=>
    rw [if_pos (show (!false)=true from rfl),if_neg (show¬(false=true) by decide)]
    simp
   | true=>
    rw [if_neg (show¬(!true)=true by decide),if_pos rfl]
    exact ih (k+1) _ (by omega) (by omega) g (by omega)
 have h5:=key l.length 0 n (by omega) (by omega) (((l.length:Int) - 0).toNat+1) (by omega)
 simpa using h5
theorem Dl {α:Type} [Inhabited α] {l:List α} (f:α→Int→Bool×Int) (L:List α→Int→Bool×Int) (h0: ∀n,L [] n=(true,n)) (h1: ∀a l n,L (a::l) n=if (f a n).1=true then L l (f a n).2 else (false,(f a n).2))
  {F:(Int×Int→Bool×Int)→Int×Int→Bool×Int} {d:Int×Int→Bool×Int} (hF: ∀ag p,F ag p=if decide (p.1<(l.length:Int))=true then (if (!(f (gt l p.1) p.2).1)=true then (false,(f (gt l p.1) p.2).2) else ag (p.1+1,(f (gt l p.1) p.2).2)) else (true,p.2)) (n:Int):
  ap (((l.length:Int) - 0).toNat+1) F d (0,n)=L l n:=by
 have key: ∀(m k:Nat) (n:Int),l.length - k=m→k≤l.length→ ∀fuel,m<fuel→ap fuel F d ((k:Int),n)=L (l.drop k) n:=by
  intro m
  induction m with
  | zero=>
   intro k n e1 e2 fuel hf
   obtain ⟨g,rfl⟩: ∃g,fuel=g+1:=⟨fuel - 1,by omega⟩
   rw [ap,hF,if_neg (by simp;omega),List.drop_of_length_le (by omega),h0]
  | succ m ih=>
   intro k n e1 e2 fuel hf
   obtain ⟨g,rfl⟩: ∃g,fuel=g+1:=⟨fuel - 1,by omega⟩
   have hk:k<l.length:=by omega
   rw [ap,hF,if_pos (by simp;omega),List.drop_eq_getElem_cons hk,h1]
   dsimp only
   rw [gP hk]
   cases hc:(f l[k] n).1 with
   | false=>rw [if_pos (show (!false)=true from rfl),if_neg (show¬(false=true) by decide)]
   | true=>
    rw [if_neg (show¬(!true)=true by decide),if_pos rfl]
    exact ih (k+1) _ (by omega) (by omega) g (by omega)
 have h5:=key l.length 0 n (by omega) (by omega) (((l.length:Int) - 0).toNat+1) (by omega)
 simpa using h5
theorem Dm (a:ab) (l:List ab) (n:Int):gI (a::l) n=if (co a n).1=true then gI l (co a n).2 else (false,(co a n).2):=by
 rw [gI]
 rcases co a n with ⟨b,m⟩
 cases b<;>rfl
theorem Dn (a:bp) (l:List bp) (n:Int):gJ (a::l) n=if (cq a n).1=true then gJ l (cq a n).2 else (false,(cq a n).2):=by
 rw [gJ]
 rcases cq a n with ⟨b,m⟩
 cases b<;>rfl
theorem vh (G:ab→Bool) (d:Int) (a:ab) (l:List ab) (n:Int):eR G (a::l) d n=if (bN G a d n).1=true then eR G l d (bN G a d n).2 else (false,(bN G a d n).2):=by
 rw [eR]
 rcases bN G a d n with ⟨b,m⟩
 cases b<;>rfl
theorem Do (l:List ab) (n:Int):jB l n=(!(gI l n).1,(gI l n).2):=
 vg co gI (fun _=>rfl) Dm (fun ag p=>rfl) n
theorem Dp (l:List bp) (n:Int):jD l n=(!(gJ l n).1,(gJ l n).2):=
 vg cq gJ (fun _=>rfl) Dn (fun ag p=>rfl) n
theorem lx {α:Type} [Inhabited α] {l:List α} (f:α→Bool) {F:(Int→Int)→Int→Int} {d:Int→Int} (hF: ∀ag p,F ag p=if decide (p<(l.length:Int))=true then (if f (gt l p)=true then p else ag (p+1)) else -1):
  decide (ap (((l.length:Int) - 0).toNat+1) F d 0≥0)=l.any f:=by
 have key: ∀(m k:Nat),l.length - k=m→k≤l.length→ ∀fuel,m<fuel→decide (ap fuel F d (k:Int)≥0)=(l.drop k).any f:=by
  intro m
  induction m with
  | zero=>
   intro k e1 e2 fuel hf
   obtain ⟨g,rfl⟩: ∃g,fuel=g+1:=⟨fuel - 1,by omega⟩
   rw [ap,hF,if_neg (by simp;omega),List.drop_of_length_le (by omega)]
   rfl
  | succ m ih=>
   intro k e1 e2 fuel hf
   obtain ⟨g,rfl⟩: ∃g,fuel=g+1:=⟨fuel - 1,by omega⟩
   have hk:k<l.length:=by omega
   rw [ap,hF,if_pos (by simp;omega),List.drop_eq_getElem_cons hk,gP hk,List.any_cons]
   cases hc:f l[k] with
   | true=>rw [if_pos rfl];simp
   | false=>
    rw [if_neg (by decide),Bool.false_or]
    exact ih (k+1) (by omega) (by omega) g (by omega)
 have h5:=key l.length 0 (by omega) (by omega) (((l.length:Int) - 0).toNat+1) (by omega)
 simpa using h5
theorem Dq (l:List (List Int)):nL l=l.any (fun x=>decide ((x.length:Int)>20)):=
 lx nK (fun ag p=>rfl)
theorem Ds (f:ab) (n:Int):jC f n=co f n:=by
 obtain ⟨k,r,l⟩:=f
 unfold jC
 simp only [aP,Dq,Do,co,decide_eq_true_eq,Bool.not_not]
theorem Dt (f:bp) (n:Int):jE f n=cq f n:=by
 obtain ⟨k,r,l⟩:=f
 unfold jE
 simp only [aP,Dp,cq,decide_eq_true_eq,Bool.not_not]
theorem vi (G:ab→Bool) (l:List ab) (d n:Int) {F:(Int×Int→Bool×Int)→Int×Int→Bool×Int} {df:Int×Int→Bool×Int} (hF: ∀ag p,F ag p=if decide (p.1<(l.length:Int))=true then (if (!(bN G (gt l p.1) d p.2).1)=true then (false,(bN G (gt l p.1) d p.2).2) else ag (p.1+1,(bN G (gt l p.1) d p.2).2)) else (true,p.2)):
  ap (((l.length:Int) - 0).toNat+1) F df (0,n)=eR G l d n:=
 Dl (fun a n=>bN G a d n) (fun l n=>eR G l d n) (fun _=>rfl) (vh G d) hF n
theorem Du (f:ab) (d n:Int):jw f d n=bN bB f d n:=by
 obtain ⟨k,r,l⟩:=f
 unfold jw
 rw [bN]
 by_cases c0:an .i64 n 1<0
 ·rw [if_pos (by simpa using c0),if_pos c0]
 rw [if_neg (by simpa using c0),if_neg c0]
 by_cases c1:d>6
 ·rw [if_pos (by simpa using c1),if_pos c1]
 rw [if_neg (by simpa using c1),if_neg c1,aP]
 dsimp only
 cases c2:bB ⟨k,r,l⟩ with
 | false=>rw [if_pos (show (!false)=true from rfl),if_pos rfl]
 | true=>
  rw [if_neg (show¬(!true)=true by decide),if_neg (show¬(true=false) by decide)]
  exact vi bB l _ _ (fun ag p=>rfl)
theorem Dv (f:ab) (d n:Int) (g:ax):jz f d n g=fr dc f d n g:=by
 obtain ⟨k,r,l⟩:=f
 unfold jz fr
 rw [bN]
 by_cases c0:an .i64 n 1<0
 ·rw [if_pos (by simpa using c0),if_pos c0]
 rw [if_neg (by simpa using c0),if_neg c0]
 by_cases c1:d>6
 ·rw [if_pos (by simpa using c1),if_pos c1]
 rw [if_neg (by simpa using c1),if_neg c1,aP]
 dsimp only
 cases c2:dc ⟨k,r,l⟩ g with
 | false=>rw [if_pos (show (!false)=true from rfl),if_pos rfl]
 | true=>
  rw [if_neg (show¬(!true)=true by decide),if_neg (show¬(true=false) by decide)]
  exact vi (fun f=>dc f g) l _ _ (fun ag p=>rfl)
mutual
def okF:ab→Prop
 | ⟨k,r,l⟩=>if k=1 then 1≤r.Bases.length else gQ l
def gQ:List ab→Prop
 | []=>True
 | f::l=>okF f∧gQ l
end
theorem vj: ∀{l:List ab},gQ l→ ∀x∈l,okF x
 | f::l,h,x,hx=>by
  rw [gQ] at h
  rcases List.mem_cons.1 hx with rfl|hx
  ·exact h.1
  ·exact vj h.2 x hx
theorem fx {f:ab} (h:okF f) (hk:f.Kind=1):1≤f.Relation.Bases.length:=by
 obtain ⟨k,r,l⟩:=f
 rw [okF,if_pos hk] at h;exact h
theorem Dw {f x:ab} (h:okF f) (hk: ¬f.Kind=1) (hx:x∈f.L):okF x:=by
 obtain ⟨k,r,l⟩:=f
 rw [okF,if_neg hk] at h;exact vj h x hx
theorem vk: ∀(l:List ab) (a:Int),iu l a=l.foldl (fun a f=>cG a (ci f)) a
 | [],a=>rfl
 | f::l,a=>by rw [iu,vk l];rfl
theorem Dx {α R:Type} [Inhabited α] {l:List α} (f:Int→α→Int) (E:Int→R) {F:(Int×Int→R)→Int×Int→R} {d:Int×Int→R} (hF: ∀ag p,F ag p=if decide (p.2<(l.length:Int))=true then ag (f p.1 (gt l p.2),p.2+1) else E p.1) (a:Int):
  ap (((l.length:Int) - 0).toNat+1) F d (a,0)=E (l.foldl f a):=by
 have key: ∀(m k:Nat) (a:Int),l.length - k=m→k≤l.length→ ∀fuel,m<fuel→ap fuel F d (a,(k:Int))=E ((l.drop k).foldl f a):=by
  intro m
  induction m with
  | zero=>
   intro k a e1 e2 fuel hf
   obtain ⟨g,rfl⟩: ∃g,fuel=g+1:=⟨fuel - 1,by omega⟩
   rw [ap,hF,if_neg (by simp;omega),List.drop_of_length_le (by omega)]
   rfl
  | succ m ih=>
   intro k a e1 e2 fuel hf
   obtain ⟨g,rfl⟩: ∃g,fuel=g+1:=⟨fuel - 1,by omega⟩
   have hk:k<l.length:=by omega
   rw [ap,hF,if_pos (by simp;omega),List.drop_eq_getElem_cons hk,List.foldl_cons]
   dsimp only
   rw [gP hk]
   exact ih (k+1) _ (by omega) (by omega) g (by omega)
 have h5:=key l.length 0 a (by omega) (by omega) (((l.length:Int) - 0).toNat+1) (by omega)
 simpa using h5
theorem Dy (f:ab):k8 f=ci f:=by
 obtain ⟨k,r,l⟩:=f
 unfold k8
 rw [ci]
 by_cases h:k=1
 ·rw [if_pos (by simpa using h),if_pos h]
 ·rw [if_neg (by simpa using h),if_neg h,vk]
  exact Dx (l:=l) (fun a f=>cG a (ci f)) (fun a=>a) (fun ag p=>rfl) 0
end Go.Proofs.YtiknkaadhomeiaaGreatDoor
namespace Go.Proofs.YtiknkaadhomeiaaGreatDoor
open Go.RowKit
set_option linter.unusedVariables false
set_option linter.unusedSimpArgs false
def okX (x:Int):Prop:=1≤x∧x<2305843009213693952
def fy (r:aL):Prop:=r.Y.length≤8∧r.Bases.length=r.Y.length∧(∀x∈r.Bases,x.length≤12)∧(∀y∈r.Y,okX y)∧ ∀x∈r.Bases,∀y∈x,okX y
mutual
def okT:ab→Prop
 | ⟨k,r,l⟩=>fy r∧l.length≤8∧iD l
def iD:List ab→Prop
 | []=>True
 | f::l=>okT f∧iD l
end
theorem vl: ∀{l:List ab},iD l→ ∀x∈l,okT x
 | f::l,h,x,hx=>by
  rw [iD] at h
  rcases List.mem_cons.1 hx with rfl|hx
  ·exact h.1
  ·exact vl h.2 x hx
theorem jJ {f:ab} (h:okT f):fy f.Relation∧f.L.length≤8∧ ∀x∈f.L,okT x:=by
 obtain ⟨k,r,l⟩:=f
 rw [okT] at h;exact ⟨h.1,h.2.1,vl h.2.2⟩
theorem vm (a b:List (List UInt8)):bR (a++b)=bR a+bR b:=by simp [bR]
theorem vn (a:List UInt8):bR [a]=a.length:=by simp [bR]
theorem rt {l:List (List UInt8)} {n m:Nat} (h1:bR l≤n) (h2:l.length≤m) (h:n+m*2≤1000000):(Lib.join l [44,32]).length≤1000000:=by
 have:=vd l [44,32]
 simp only [List.length_cons,List.length_nil] at this
 omega
theorem ly {x:List UInt8} {l:List (List UInt8)} (h:x=strings_Join l [44,32]):x.length≤bR l+l.length*2:=by
 rw [h];exact vd l [44,32]
theorem vo: ∀l:List ab,bH l=l.map be
 | []=>rfl
 | f::l=>by rw [bH,vo l];rfl
theorem Dz {α β R:Type} [Inhabited α] {l:List α} (f:α→β) (E:List β→R) {F:(Int×List β→R)→Int×List β→R} {d:Int×List β→R} (hF: ∀ag p,F ag p=if decide (p.1<(l.length:Int))=true then ag (p.1+1,p.2++[f (gt l p.1)]) else E p.2):
  ap (((l.length:Int) - 0).toNat+1) F d (0,[])=E (l.map f):=by
 have key: ∀(m k:Nat) (a:List β),l.length - k=m→k≤l.length→ ∀fuel,m<fuel→ap fuel F d ((k:Int),a)=E (a++(l.drop k).map f):=by
  intro m
  induction m with
  | zero=>
   intro k a e1 e2 fuel hf
   obtain ⟨g,rfl⟩: ∃g,fuel=g+1:=⟨fuel - 1,by omega⟩
   rw [ap,hF,if_neg (by simp;omega),List.drop_of_length_le (by omega)]
   simp
  | succ m ih=>
   intro k a e1 e2 fuel hf
   obtain ⟨g,rfl⟩: ∃g,fuel=g+1:=⟨fuel - 1,by omega⟩
   have hk:k<l.length:=by omega
   rw [ap,hF,if_pos (by simp;omega),List.drop_eq_getElem_cons hk,List.map_cons]
   dsimp only
   rw [gP hk]
   have:=ih (k+1) (a++[f l[k]]) (by omega) (by omega) g (by omega)
   rw [show ((k:Int)+1)=((k+1:Nat):Int) by omega,this]
   simp
 have h5:=key l.length 0 [] (by omega) (by omega) (((l.length:Int) - 0).toNat+1) (by omega)
 simpa using h5
theorem DA (f:ab):lr f=be f:=by
 obtain ⟨k,r,l⟩:=f
 unfold lr
 by_cases h:k=1
 ·subst h;rw [if_pos (show ((1:Int)==1)=true from rfl),be,if_pos rfl,aP]
 ·rw [if_neg (by simpa using h),be,if_neg h]
  refine (Dz (l:=l) be (fun L=>if (k==3)=true then (([111,114]++[40])++strings_Join L [44,32])++[41] else (([97,110,100]++[40])++strings_Join L [44,32])++[41]) (fun ag p=>rfl)).trans ?_
  rw [vo]
  by_cases h3:k=3<;>simp [h3]
def bd (b:Bool):Nat:=if b=true then 1 else 0
theorem nP {b:Bool}:b=false→bd b=0:=fun h=>by rw [h];rfl
theorem eT (b:Bool):b=false→bd b=0:=nP
theorem vq (b:Bool):bd b≤1:=by cases b<;>decide
instance Gn (s t:List UInt8):CF (iv s t) (fun x=>x=true→(t.length:Int)≤(s.length:Int)):=⟨fun h=>by
 unfold iv at h
 split at h
 ·rename_i h1;have:=of_decide_eq_true h1;omega
 ·cases h⟩
theorem DB (s t:List UInt8):kX s t=if t.isPrefixOf s=true then (s.drop t.length,true) else (s,false):=by
 have hh:iv s t=t.isPrefixOf s:=by
  unfold iv
  by_cases hl:(s.length:Int)≥(t.length:Int)
  ·rw [if_pos (by simpa using hl)]
   have e:(s.drop (0:Int).toNat).take ((t.length:Int).toNat - (0:Int).toNat)=s.take t.length:=by simp
   rw [e]
   by_cases hp:t.isPrefixOf s=true
   ·rw [hp]
    obtain ⟨u,rfl⟩:=List.isPrefixOf_iff_prefix.1 hp
    simp
   ·rw [Bool.not_eq_true] at hp
    rw [hp]
    refine beq_eq_false_iff_ne.2 fun he=> ?_
    have:t.isPrefixOf s=true:=List.isPrefixOf_iff_prefix.2 ⟨s.drop t.length,(congrArg (· ++s.drop t.length) he.symm).trans (List.take_append_drop _ _)⟩
    rw [hp] at this;cases this
  ·rw [if_neg (by simpa using hl)]
   cases hp:t.isPrefixOf s with
   | false=>rfl
   | true=>
    obtain ⟨u,rfl⟩:=List.isPrefixOf_iff_prefix.1 hp
    simp at hl
    omega
 unfold kX nw
 rw [aP,aP,hh]
 by_cases hp:t.isPrefixOf s=true
 ·rw [hp,if_neg (by decide),if_pos rfl]
  have e:(s.drop (t.length:Int).toNat).take ((s.length:Int).toNat - (t.length:Int).toNat)=s.drop t.length:=by
   rw [Int.toNat_natCast,Int.toNat_natCast,List.take_of_length_le (by rw [List.length_drop];exact Nat.le_refl _)]
  rw [e]
 ·rw [Bool.not_eq_true] at hp
  rw [hp,if_pos (by decide),if_neg (by decide)]
theorem iE (p:ah) (t:List UInt8):ar p t=if t.isPrefixOf p.s=true then (true,{s:=p.s.drop t.length,bad:=p.bad}) else (false,p):=by
 unfold ar
 rw [aP,DB]
 by_cases hp:t.isPrefixOf p.s=true
 ·rw [if_pos hp,if_pos hp]
 ·rw [if_neg hp,if_neg hp]
theorem cV {x:Bool×ah} {p:ah} {t:List UInt8} (h:x=ar p t):x.2.s.length≤p.s.length∧bd x.2.bad=bd p.bad:=by
 rw [h,iE]
 split
 ·exact ⟨by simp,rfl⟩
 ·exact ⟨Nat.le_refl _,rfl⟩
theorem de {x:Bool×ah} {p:ah} {t:List UInt8} (h:x=ar p t) (ht:1≤t.length):x.1=true→x.2.s.length<p.s.length:=by
 rw [h,iE]
 split
 ·rename_i hp
  intro _
  obtain ⟨u,e⟩:=List.isPrefixOf_iff_prefix.1 hp
  simp only [←e,List.length_drop,List.length_append]
  omega
 ·intro h;cases h
theorem ru (p:ah) (t:List UInt8):a6 p t=if t.isPrefixOf p.s=true then {s:=p.s.drop t.length,bad:=p.bad} else {s:=p.s,bad:=true}:=by
 unfold a6
 rw [aP,iE]
 by_cases hp:t.isPrefixOf p.s=true
 ·rw [if_pos hp,if_pos hp];rfl
 ·rw [if_neg hp,if_neg hp];rfl
theorem dG {x p:ah} {t:List UInt8} (h:x=a6 p t):x.s.length≤p.s.length∧bd p.bad≤bd x.bad:=by
 rw [h,ru]
 split
 ·exact ⟨by simp,Nat.le_refl _⟩
 ·exact ⟨Nat.le_refl _,by have:=vq p.bad;show _≤1;omega⟩
def pF (y p:ah):Prop:=y.s.length≤p.s.length∧y.s.length+1≤p.s.length+bd y.bad∧bd p.bad≤bd y.bad
theorem rx {y p:ah} (h:y.s.length≤p.s.length) (hb:y.bad=true):pF y p:=by
 have:=vq p.bad
 have e:bd y.bad=1:=by rw [hb];rfl
 refine ⟨h,by omega,by omega⟩
theorem ry {y p:ah} (h:y.s.length<p.s.length) (hb:bd p.bad≤bd y.bad):pF y p:=⟨by omega,by omega,hb⟩
theorem lz {σ R:Type} {F:(σ→R)→σ→R} {d:σ→R} (I:σ→Prop) (Q:R→Prop) (meas:σ→Nat) (h: ∀f p,I p→(∀q,I q→meas q<meas p→Q (f q))→Q (F f p)): ∀(n:Nat) (p:σ),I p→meas p<n→Q (ap n F d p)
 | 0,p,_,hn=>absurd hn (Nat.not_lt_zero _)
 | n+1,p,hp,hn=>by
  rw [ap]
  exact h _ p hp (fun q hq hm=>lz I Q meas h n q hq (by omega))
theorem fY {x:Int×ah} {p:ah} (h:x=a7 p):pF x.2 p:=by
 rw [h]
 unfold a7
 refine lz (R:=Int×ah) (fun k:Int=>0≤k∧k≤(p.s.length:Int)) (fun r=>pF r.2 p) (fun k=>((p.s.length:Int) - k).toNat) (fun f k hk hf=> ?_) _ 0 ⟨by omega,by omega⟩ (by omega)
 have hd:((p.s.drop k.toNat).take (p.s.length - k.toNat)).length≤p.s.length:=by
  rw [List.length_take,List.length_drop];omega
 have hd1:k≠0→((p.s.drop k.toNat).take (p.s.length - k.toNat)).length<p.s.length:=fun h0=>by
  rw [List.length_take,List.length_drop];omega
 have hgood: ∀(b:Bool) (v:Int),k≠0→pF ((v,({s:=(p.s.drop k.toNat).take (p.s.length - k.toNat),bad:=p.bad}:ah)):Int×ah).2 p:=fun b v h0=>ry (hd1 h0) (Nat.le_refl _)
 have hbad:pF ((0,({s:=(p.s.drop k.toNat).take (p.s.length - k.toNat),bad:=true}:ah)):Int×ah).2 p:=rx hd rfl
 have htail:pF (if (k==0)=true then ((0,{s:=(p.s.drop k.toNat).take (p.s.length - k.toNat),bad:=true}):Int×ah) else (if (decide (k>1))=true then (if ((((p.s.take k.toNat).getD 0 0).toNat:Int)==48)=true then (0,{s:=(p.s.drop k.toNat).take (p.s.length - k.toNat),bad:=true}) else (am (bG (p.s.take k.toNat)) (fun x=>if (!x.2)=true then (0,{s:=(p.s.drop k.toNat).take (p.s.length - k.toNat),bad:=p.bad}) else (x.1,{s:=(p.s.drop k.toNat).take (p.s.length - k.toNat),bad:=p.bad})))) else (am (bG (p.s.take k.toNat)) (fun x=>if (!x.2)=true then (0,{s:=(p.s.drop k.toNat).take (p.s.length - k.toNat),bad:=p.bad}) else (x.1,{s:=(p.s.drop k.toNat).take (p.s.length - k.toNat),bad:=p.bad}))))).2 p:=by
  by_cases h0:k=0
  ·rw [if_pos (by simpa using h0)];exact hbad
  ·rw [if_neg (by simpa using h0)]
   split
   ·split
    ·exact hbad
    ·rw [aP];split
     ·exact hgood true 0 h0
     ·exact hgood true _ h0
   ·rw [aP];split
    ·exact hgood true 0 h0
    ·exact hgood true _ h0
 try dsimp only
 by_cases c0:k<(p.s.length:Int)
 ·rw [if_pos (by simpa using c0)]
  by_cases c1:((p.s.getD k.toNat 0).toNat:Int)≥48
  ·rw [if_pos (by simpa using c1)]
   by_cases c2:((p.s.getD k.toNat 0).toNat:Int)≤57
   ·rw [if_pos (by simpa using c2)]
    exact hf _ ⟨by omega,by omega⟩ (by omega)
   ·rw [if_neg (by simpa using c2)];exact htail
  ·rw [if_neg (by simpa using c1)];exact htail
 ·rw [if_neg (by simpa using c0)];exact htail
theorem rz {x:Int×ah} {p:ah} (h:x=a7 p):x.2.s.length≤p.s.length∧x.2.s.length+1≤p.s.length+bd x.2.bad∧bd p.bad≤bd x.2.bad:=fY h
theorem vr {y p q:ah} (h:pF y q) (h1:q.s.length≤p.s.length) (h2:bd p.bad≤bd q.bad):pF y p:=⟨Nat.le_trans h.1 h1,by have:=h.2.1;omega,Nat.le_trans h2 h.2.2⟩
theorem jK {y q p:ah} (h:pF q p) (h1:y.s.length≤q.s.length) (h2:bd q.bad≤bd y.bad):pF y p:=⟨Nat.le_trans h1 h.1,by have:=h.2.1;omega,Nat.le_trans h.2.2 h2⟩
theorem vt {x:aL×ah} {p:ah} (h:x=cU p):pF x.2 p:=by
 rw [h]
 unfold cU
 refine lz (σ:=ah×aL×List Int×List (List Int)) (R:=aL×ah) (fun q=>q.1.s.length≤p.s.length∧bd p.bad≤bd q.1.bad) (fun r=>pF r.2 p) (fun q=>q.1.s.length) (fun f q hq hf=> ?_) _ _ ⟨Nat.le_refl _,Nat.le_refl _⟩ (Nat.lt_succ_self _)
 try dsimp only
 rw [aP,aP,aP,aP]
 have a1:=fY (x:=a7 q.1) rfl
 have a2:=dG (x:=a6 (a7 q.1).2 [32,61]) rfl
 have a3:=dG (x:=a6 (a6 (a7 q.1).2 [32,61]) [32]) rfl
 have a4:=fY (x:=a7 (a6 (a6 (a7 q.1).2 [32,61]) [32])) rfl
 have a5:pF (a7 (a6 (a6 (a7 q.1).2 [32,61]) [32])).2 q.1:=by
  refine jK (jK (jK a1 a2.1 a2.2) a3.1 a3.2) a4.1 a4.2.2
 have tail: ∀(w:ah) (v s2:aL) (Y:List Int) (B:List (List Int)),pF w q.1→pF (if w.bad=true then ((v,{s:=w.s,bad:=true}):aL×ah) else am (ar {s:=w.s,bad:=false} [93]) (fun x27=>if x27.1=true then (v,x27.2) else am (a6 x27.2 [44,32]) (fun x33=>f (x33,s2,Y,B)))).2 p:=by
  intro w v s2 Y B hw
  by_cases hb:w.bad=true
  ·rw [if_pos hb];exact rx (Nat.le_trans hw.1 hq.1) rfl
  ·rw [if_neg hb,aP]
   have hb':w.bad=false:=by simpa using hb
   have e:({s:=w.s,bad:=false}:ah)=w:=by rw [←hb']
   rw [e]
   have t1:=cV (x:=ar w [93]) rfl
   have hwp:pF (ar w [93]).2 q.1:=jK hw t1.1 (by omega)
   split
   ·exact vr hwp hq.1 hq.2
   ·rw [aP]
    have n1:=dG (x:=a6 (ar w [93]).2 [44,32]) rfl
    have hw0:bd w.bad=0:=by rw [hb'];rfl
    have hs:=hw.2.1
    refine hf _ ⟨?_,?_⟩ ?_
    ·have:=hwp.1;dsimp only;omega
    ·have:=hwp.2.2;dsimp only;omega
    ·dsimp only;omega
 refine lz (σ:=ah×List Int) (R:=aL×ah) (fun z=>pF z.1 q.1) (fun r=>pF r.2 p) (fun z=>z.1.s.length) (fun g z hz hg=> ?_) _ _ a5 (Nat.lt_succ_self _)
 try dsimp only
 split
 ·rename_i hb
  rw [aP]
  have t1:=cV (x:=ar z.1 [32]) rfl
  have hz1:pF (ar z.1 [32]).2 q.1:=jK hz t1.1 (by omega)
  split
  ·rename_i hx
   have t2:=de (x:=ar z.1 [32]) rfl (by decide) hx
   rw [aP]
   have n1:=fY (x:=a7 (ar z.1 [32]).2) rfl
   refine hg _ (jK hz1 n1.1 n1.2.2) ?_
   have:=n1.1
   dsimp only
   omega
  ·exact tail _ _ _ _ _ hz1
 ·exact tail _ _ _ _ _ hz
theorem DC {x:aL×ah} {p:ah} (h:x=cU p):x.2.s.length≤p.s.length∧x.2.s.length+1≤p.s.length+bd x.2.bad∧bd p.bad≤bd x.2.bad:=vt h
theorem rA {R:ah→ab×ah} {k:Int} {m:Nat} (hR: ∀q,q.s.length<m→pF (R q).2 q): ∀(n:Nat) (q:ah) (L:List ab),q.s.length<n→q.s.length<m→(db R k n q L).2.s.length≤q.s.length∧bd q.bad≤bd (db R k n q L).2.bad
 | 0,q,L,h,_=>absurd h (Nat.not_lt_zero _)
 | n+1,q,L,h,hm=>by
  have h1:=hR q hm
  rw [db]
  by_cases hb:(R q).2.bad=true
  ·rw [if_pos hb];exact ⟨h1.1,h1.2.2⟩
  ·rw [if_neg hb]
   have hb0:bd (R q).2.bad=0:=nP (by simpa using hb)
   have h2:=h1.2.1
   have t1:=cV (x:=ar (R q).2 [41]) rfl
   split
   ·have:=h1.2.2;exact ⟨by dsimp only;omega,by dsimp only;omega⟩
   ·have n1:=dG (x:=a6 (ar (R q).2 [41]).2 [44,32]) rfl
    have h3:=rA (k:=k) hR n (a6 (ar (R q).2 [41]).2 [44,32]) (L++[(R q).1]) (by omega) (by omega)
    have:=h1.2.2
    exact ⟨by omega,by omega⟩
theorem DD {R:ah→ab×ah} {p:ah} (hR: ∀q,q.s.length<p.s.length→pF (R q).2 q):pF (dV R p).2 p:=by
 unfold dV
 have t1:=cV (x:=ar p [91]) rfl
 split
 ·rename_i h
  have r1:=vt (x:=cU (ar p [91]).2) rfl
  exact vr r1 t1.1 (by omega)
 ·generalize ar p [91]=x1 at t1⊢
  have t2:=cV (x:=ar x1.2 [97,110,100,40]) rfl
  split
  ·rename_i h
   have t2':=de (x:=ar x1.2 [97,110,100,40]) rfl (by decide) h
   have l1:=rA (k:=2) hR ((ar x1.2 [97,110,100,40]).2.s.length+1) (ar x1.2 [97,110,100,40]).2 [] (by omega) (by omega)
   exact ry (by omega) (by omega)
  ·generalize ar x1.2 [97,110,100,40]=x2 at t2⊢
   have t3:=cV (x:=ar x2.2 [111,114,40]) rfl
   split
   ·rename_i h
    have t3':=de (x:=ar x2.2 [111,114,40]) rfl (by decide) h
    have l1:=rA (k:=3) hR ((ar x2.2 [111,114,40]).2.s.length+1) (ar x2.2 [111,114,40]).2 [] (by omega) (by omega)
    exact ry (by omega) (by omega)
   ·exact rx (by dsimp only;omega) rfl
theorem rC: ∀(n:Nat) (p:ah),p.s.length<n→pF (fV n p).2 p
 | 0,p,h=>absurd h (Nat.not_lt_zero _)
 | n+1,p,h=>by
  rw [fV]
  exact DD (fun q hq=>rC n q (by omega))
theorem rD {x:ab×ah} {p:ah} (h:x=bm p):pF x.2 p:=by
 rw [h];exact rC _ p (Nat.lt_succ_self _)
theorem DE {x:ab×ah} {p:ah} (h:x=bm p):x.2.s.length≤p.s.length∧x.2.s.length+1≤p.s.length+bd x.2.bad∧bd p.bad≤bd x.2.bad:=rD h
theorem rE {R R':ah→ab×ah} {k:Int} {m:Nat} (hR: ∀q,q.s.length<m→pF (R q).2 q) (he: ∀q,q.s.length<m→R q=R' q): ∀(n:Nat) (q:ah) (L:List ab),q.s.length<m→db R k n q L=db R' k n q L
 | 0,q,L,_=>rfl
 | n+1,q,L,hm=>by
  have h1:=hR q hm
  rw [db,db,←he q hm]
  have t1:=cV (x:=ar (R q).2 [41]) rfl
  have n1:=dG (x:=a6 (ar (R q).2 [41]).2 [44,32]) rfl
  rw [rE hR he n _ _ (by have:=h1.1;omega)]
theorem vu {R R':ah→ab×ah} {p:ah} (hR: ∀q,q.s.length<p.s.length→pF (R q).2 q) (he: ∀q,q.s.length<p.s.length→R q=R' q):dV R p=dV R' p:=by
 unfold dV
 have t1:=cV (x:=ar p [91]) rfl
 split
 ·rfl
 ·generalize ar p [91]=x1 at t1⊢
  have t2:=cV (x:=ar x1.2 [97,110,100,40]) rfl
  split
  ·rename_i h
   have t2':=de (x:=ar x1.2 [97,110,100,40]) rfl (by decide) h
   exact rE hR he _ _ _ (by omega)
  ·generalize ar x1.2 [97,110,100,40]=x2 at t2⊢
   have t3:=cV (x:=ar x2.2 [111,114,40]) rfl
   split
   ·rename_i h
    have t3':=de (x:=ar x2.2 [111,114,40]) rfl (by decide) h
    exact rE hR he _ _ _ (by omega)
   ·rfl
theorem vw: ∀(n m:Nat) (p:ah),p.s.length<n→p.s.length<m→fV n p=fV m p
 | 0,m,p,h,_=>absurd h (Nat.not_lt_zero _)
 | n+1,0,p,_,h=>absurd h (Nat.not_lt_zero _)
 | n+1,m+1,p,h1,h2=>by
  rw [fV,fV]
  exact vu (fun q hq=>rC n q (by omega)) (fun q hq=>vw n m q (by omega) (by omega))
theorem rF (p:ah):dV bm p=bm p:=by
 conv=>rhs;unfold bm;rw [fV]
 exact vu (fun q _=>rD rfl) (fun q hq=>vw _ _ q (Nat.lt_succ_self _) hq)
theorem DF (p:ah):ft p=bm p:=by
 rw [←rF]
 unfold ft dV
 have hl: ∀(k:Int) (n:Nat) (q:ah) (L:List ab) (F:(ah×Int×List Int×List (List Int)×List ab×List ab→ab×ah)→ah×Int×List Int×List (List Int)×List ab×List ab→ab×ah),
   (∀ag p2,F ag p2=am (bm p2.1) (fun x3=>if x3.2.bad=true then (({Kind:=k,Relation:=cC,L:=p2.2.2.2.2.2++[x3.1]}:ab),({s:=x3.2.s,bad:=true}:ah)) else am (ar {s:=x3.2.s,bad:=false} [41]) (fun x7=>if x7.1=true then ({Kind:=k,Relation:=cC,L:=p2.2.2.2.2.2++[x3.1]},x7.2) else am (a6 x7.2 [44,32]) (fun x13=>ag (x13,p2.2.1,p2.2.2.1,p2.2.2.2.1,p2.2.2.2.2.1,p2.2.2.2.2.2++[x3.1])))))→
   ap n F (fun _=>default) (q,0,[],[],[],L)=db bm k n q L:=by
  intro k n
  induction n with
  | zero=>intro q L F hF;rfl
  | succ n ih=>
   intro q L F hF
   rw [ap,hF,aP,db]
   dsimp only
   by_cases hb:(bm q).2.bad=true
   ·have e:({s:=(bm q).2.s,bad:=true}:ah)=(bm q).2:=by
     generalize (bm q).2=w at hb⊢
     obtain ⟨s,b⟩:=w
     simp only at hb
     rw [hb]
    rw [if_pos hb,if_pos hb,e]
   ·have e:({s:=(bm q).2.s,bad:=false}:ah)=(bm q).2:=by
     generalize (bm q).2=w at hb⊢
     obtain ⟨s,b⟩:=w
     simp only [Bool.not_eq_true] at hb
     rw [hb]
    rw [if_neg hb,if_neg hb,e,aP]
    split
    ·rfl
    ·rw [aP]
     exact ih _ _ F hF
 unfold er
 dsimp only
 rw [aP]
 split
 ·rw [aP]
 ·rw [aP]
  split
  ·exact hl 2 _ _ _ _ (fun ag p2=>rfl)
  ·rw [aP]
   split
   ·exact hl 3 _ _ _ _ (fun ag p2=>rfl)
   ·rfl
theorem vx {α:Type} [Inhabited α] {a b:List α} (f:α→α→Bool) (S:List α→List α→Bool) (h0: ∀m,S [] m=true) (h1: ∀x l m,S (x::l) m=if f x (gt m 0)=false then false else S l (m.drop 1)) (X:Bool) {F:(Int→Bool)→Int→Bool} {d:Int→Bool} (hF: ∀ag p,F ag p=if decide (p<(a.length:Int))=true then (if (!(f (gt a p) (gt b p)))=true then false else ag (p+1)) else X):
  ap (((a.length:Int) - 0).toNat+1) F d 0=if S a b=false then false else X:=by
 have key: ∀(m k:Nat),a.length - k=m→k≤a.length→ ∀fuel,m<fuel→ap fuel F d (k:Int)=if S (a.drop k) (b.drop k)=false then false else X:=by
  intro m
  induction m with
  | zero=>
   intro k e1 e2 fuel hf
   obtain ⟨g,rfl⟩: ∃g,fuel=g+1:=⟨fuel - 1,by omega⟩
   rw [ap,hF,if_neg (by simp;omega),List.drop_of_length_le (by omega),h0,if_neg (by decide)]
  | succ m ih=>
   intro k e1 e2 fuel hf
   obtain ⟨g,rfl⟩: ∃g,fuel=g+1:=⟨fuel - 1,by omega⟩
   have hk:k<a.length:=by omega
   have e:gt (b.drop k) 0=gt b (k:Int):=by simp [gt,List.getD_eq_getElem?_getD]
   rw [ap,hF,if_pos (by simp;omega),List.drop_eq_getElem_cons hk,h1,e,gP hk,List.drop_drop]
   cases hc:f a[k] (gt b (k:Int)) with
   | false=>simp
   | true=>
    rw [if_neg (show¬(!true)=true by decide),if_neg (show¬(true=false) by decide)]
    exact ih (k+1) (by omega) (by omega) g (by omega)
 have h5:=key a.length 0 (by omega) (by omega) (((a.length:Int) - 0).toNat+1) (by omega)
 simpa using h5
theorem DG (a b:ab):ls a b=ew a b:=by
 obtain ⟨k,r,l⟩:=a
 unfold ls
 rw [aP,ew]
 rw [vx (a:=r.Bases) (b:=b.Relation.Bases) fv jF (fun _=>rfl) (fun x l m=>by rw [jF];cases fv x (gt m 0)<;>rfl) (fw l b.L) (fun ag p=> ?_)]
 ·simp only [bne_iff_ne,ne_eq,Bool.not_eq_true']
 ·have h2:=vx (a:=l) (b:=b.L) ew fw (fun _=>rfl) (fun x l m=>by rw [fw]) true (d:=fun _=>default) (F:=fun (ag25:Int→Bool) (p25:Int)=>(if (decide (p25<(l.length:Int))) then (am (ew (gt l p25) (gt b.L p25)) (fun (x30:Bool)=>(if (!x30) then false else (ag25 (p25+1))))) else true)) (fun ag p=>rfl)
  have e:(if fw l b.L=false then false else true)=fw l b.L:=by cases fw l b.L<;>rfl
  rw [e] at h2
  rw [←h2]
  rfl
mutual
def okU (n:Nat):ab→Prop
 | ⟨k,r,l⟩=>if k=1 then 1≤r.Bases.length∧(gt r.Bases 0).length≤n else iF n l
def iF (n:Nat):List ab→Prop
 | []=>True
 | f::l=>okU n f∧iF n l
end
theorem vy {n:Nat}: ∀{l:List ab},iF n l→ ∀x∈l,okU n x
 | f::l,h,x,hx=>by
  rw [iF] at h
  rcases List.mem_cons.1 hx with rfl|hx
  ·exact h.1
  ·exact vy h.2 x hx
theorem nQ {n:Nat} {f x:ab} (h:okU n f) (hk: ¬f.Kind=1) (hx:x∈f.L):okU n x:=by
 obtain ⟨k,r,l⟩:=f
 rw [okU,if_neg hk] at h;exact vy h x hx
mutual
theorem vz {n:Nat}: ∀{f:ab},okU n f→okF f
 | ⟨k,r,l⟩,h=>by
  rw [okU] at h
  rw [okF]
  split
  ·rename_i hk;rw [if_pos hk] at h;exact h.1
  ·rename_i hk;rw [if_neg hk] at h;exact vA h
theorem vA {n:Nat}: ∀{l:List ab},iF n l→gQ l
 | [],_=>trivial
 | f::l,h=>by
  rw [iF] at h
  exact ⟨vz h.1,vA h.2⟩
end
theorem DH {f:ab} (hk:f.Kind=1):ci f=((gt f.Relation.Bases 0).length:Int):=by
 obtain ⟨k,r,l⟩:=f
 rw [ci,if_pos hk]
theorem DI {n:Nat} {f:ab} (h:okU n f) (hk:f.Kind=1):0≤ci f∧ci f≤(n:Int):=by
 rw [DH hk]
 obtain ⟨k,r,l⟩:=f
 rw [okU,if_pos hk] at h
 exact ⟨by omega,by have:=h.2;simp only;omega⟩
theorem vB (g:ax) (x:List Int): ∀l:List ab,nD g l x=l.all (fun f=>cj g f x)
 | []=>rfl
 | f::l=>by rw [nD,List.all_cons,vB g x l];cases cj g f x<;>rfl
theorem vC (g:ax) (x:List Int): ∀l:List ab,nE g l x=l.any (fun f=>cj g f x)
 | []=>rfl
 | f::l=>by rw [nE,List.any_cons,vC g x l];cases cj g f x<;>rfl
theorem DJ (l:List ab) (g:ax) (x:List Int):li l g x=l.any (fun f=>cj g f x):=
 lx (fun f=>cj g f x) (fun ag p=>rfl)
theorem DK (l:List ab) (g:ax) (x:List Int):lh l g x=l.any (fun f=> !cj g f x):=
 lx (fun f=> !cj g f x) (fun ag p=>rfl)
theorem DL (g:ax) (f:ab) (x:List Int):lj g f x=cj g f x:=by
 obtain ⟨k,r,l⟩:=f
 unfold lj
 rw [cj,vB,vC,aP,aP,aP,aP,DJ,DK]
 by_cases h1:k=1
 ·simp [h1]
 ·by_cases h2:k=2
  ·simp [h1,h2,List.any_eq_not_all_not]
  ·simp [h1,h2]
mutual
def cW (G:ab→Bool):ab→Prop
 | ⟨k,r,l⟩=>G ⟨k,r,l⟩=true∧dH G l
def dH (G:ab→Bool):List ab→Prop
 | []=>True
 | f::l=>cW G f∧dH G l
end
mutual
theorem rG (G:ab→Bool): ∀(f:ab) (d n:Int),0≤n→n≤1000→(bN G f d n).1=true→0≤(bN G f d n).2∧(bN G f d n).2+aN f≤n∧cW G f
 | ⟨k,r,l⟩,d,n,h0,h1,h=>by
  have hs:an .i64 n 1=n - 1:=BU (by omega) (by omega)
  rw [bN,hs] at h⊢
  by_cases c0:n - 1<0
  ·rw [if_pos c0] at h;cases h
  ·rw [if_neg c0] at h⊢
   by_cases c1:d>6
   ·rw [if_pos c1] at h;cases h
   ·rw [if_neg c1] at h⊢
    by_cases c2:G ⟨k,r,l⟩=false
    ·rw [if_pos c2] at h;cases h
    ·rw [if_neg c2] at h⊢
     have h2:=vD G l (aE .i64 d 1) (n - 1) (by omega) (by omega) h
     refine ⟨h2.1,?_,by simpa using c2,h2.2.2⟩
     rw [aN]
     have:=h2.2.1
     omega
theorem vD (G:ab→Bool): ∀(l:List ab) (d n:Int),0≤n→n≤1000→(eR G l d n).1=true→0≤(eR G l d n).2∧(eR G l d n).2+fq l≤n∧dH G l
 | [],d,n,h0,h1,h=>⟨h0,by simp [eR,fq],trivial⟩
 | f::l,d,n,h0,h1,h=>by
  rw [vh] at h⊢
  by_cases c:(bN G f d n).1=true
  ·rw [if_pos c] at h⊢
   have h2:=rG G f d n h0 h1 c
   have h3:=vD G l d (bN G f d n).2 h2.1 (by have:=h2.2.1;omega) h
   refine ⟨h3.1,?_,h2.2.2,h3.2.2⟩
   rw [fq]
   have:=h2.2.1
   have:=h3.2.1
   omega
  ·rw [if_neg c] at h;cases h
end
def okA (r:aL):Prop:=1≤r.Y.length∧r.Y.length≤8∧r.Bases.length=r.Y.length∧(∀x∈r.Y,okX x)∧ ∃n,1≤n∧n≤12∧ ∀row∈r.Bases,row.length=n∧ ∀x∈row,okX x
def rH (f:ab):Prop:=(f.Kind=1∧f.L=[]∧okA f.Relation)∨((f.Kind=2∨f.Kind=3)∧1≤f.L.length∧f.L.length≤8∧f.Relation.Y=[]∧f.Relation.Bases=[])
theorem vE {l:List Int} (h:ix l=true): ∀x∈l,okX x:=by
 unfold ix at h
 rw [aP] at h
 have e:ny l=l.any iw:=lx iw (fun ag p=>rfl)
 rw [e] at h
 intro x hx
 have h2:l.any iw=false:=by simpa using h
 have h3:=List.any_eq_false.1 h2 x hx
 unfold iw at h3
 unfold okX
 by_cases c:x<1
 ·simp [c] at h3
 ·simp [c] at h3
  omega
theorem DM {r:aL} (h:kZ r=true):okA r:=by
 unfold kZ at h
 simp only [aP] at h
 by_cases c0:(r.Y.length:Int)<1
 ·rw [if_pos (by simpa using c0)] at h;cases h
 rw [if_neg (by simpa using c0)] at h
 by_cases c1:(r.Y.length:Int)>8
 ·rw [if_pos (by simpa using c1)] at h;cases h
 rw [if_neg (by simpa using c1)] at h
 by_cases c2:(r.Bases.length:Int)=(r.Y.length:Int)
 case neg=>rw [if_pos (by simpa using c2)] at h;cases h
 rw [if_neg (by simpa using c2)] at h
 by_cases c3:ix r.Y=true
 case neg=>rw [if_pos (by simpa using c3)] at h;cases h
 rw [if_neg (by simpa using c3)] at h
 by_cases c4:((gt r.Bases 0).length:Int)≥1
 case neg=>rw [if_neg (by simpa using c4)] at h;cases h
 rw [if_pos (by simpa using c4)] at h
 by_cases c5:((gt r.Bases 0).length:Int)≤12
 case neg=>rw [if_neg (by simpa using c5)] at h;cases h
 rw [if_pos (by simpa using c5)] at h
 have e:nz r.Bases ((gt r.Bases 0).length:Int)=r.Bases.any (fun row=>iy row ((gt r.Bases 0).length:Int)):=lx (fun row=>iy row ((gt r.Bases 0).length:Int)) (fun ag p=>rfl)
 rw [e] at h
 have h2:r.Bases.any (fun row=>iy row ((gt r.Bases 0).length:Int))=false:=by simpa using h
 refine ⟨by omega,by omega,by omega,vE c3,(gt r.Bases 0).length,by omega,by omega,fun row hr=> ?_⟩
 have h3:=List.any_eq_false.1 h2 row hr
 unfold iy at h3
 rw [aP] at h3
 by_cases c:(row.length:Int)=((gt r.Bases 0).length:Int)
 ·rw [if_neg (by simpa using c)] at h3
  exact ⟨by omega,vE (by simpa using h3)⟩
 ·rw [if_pos (by simpa using c)] at h3
  exact absurd rfl h3
theorem rI {f:ab} (h:bB f=true):rH f:=by
 unfold bB at h
 by_cases k1:f.Kind=1
 ·rw [if_pos (by simpa using k1)] at h
  by_cases k2:f.L.length=0
  ·rw [if_pos (by simpa using k2),aP] at h
   exact .inl ⟨k1,List.length_eq_zero_iff.1 k2,DM h⟩
  ·rw [if_neg (by simpa using k2)] at h;cases h
 ·rw [if_neg (by simpa using k1)] at h
  have key: ∀b:Bool,(if b=true then (if (decide ((f.L.length:Int)≥1))=true then (if (decide ((f.L.length:Int)≤8))=true then (if ((f.Relation.Y.length:Int)==0)=true then ((f.Relation.Bases.length:Int)==0) else false) else false) else false) else false)=true→b=true∧1≤f.L.length∧f.L.length≤8∧f.Relation.Y=[]∧f.Relation.Bases=[]:=by
   intro b hb
   cases b with
   | false=>cases hb
   | true=>
    rw [if_pos rfl] at hb
    split at hb
    ·split at hb
     ·split at hb
      ·rename_i g1 g2 g3
       refine ⟨rfl,by have:=of_decide_eq_true g1;omega,by have:=of_decide_eq_true g2;omega,?_,?_⟩
       ·have:=of_decide_eq_true g3;exact List.length_eq_zero_iff.1 (by omega)
       ·have:=of_decide_eq_true hb;exact List.length_eq_zero_iff.1 (by omega)
      ·cases hb
     ·cases hb
    ·cases hb
  by_cases k2:f.Kind=2
  ·have h':=key true (by
    have:=h
    simp only [er,k2] at this
    exact this)
   exact .inr ⟨.inl k2,h'.2⟩
  ·have h':=key (f.Kind==3) (by
    have:=h
    simp only [er] at this
    rw [if_neg (by simpa using k2)] at this
    exact this)
   exact .inr ⟨.inr (by simpa using h'.1),h'.2⟩
theorem DN {r:aL} (h:okA r):fy r:=by
 obtain ⟨h1,h2,h3,h4,n,h5,h6,h7⟩:=h
 exact ⟨h2,h3,fun x hx=>(by have:=(h7 x hx).1;omega),h4,fun x hx=>(h7 x hx).2⟩
theorem DO {f:ab} (h:rH f):fy f.Relation∧f.L.length≤8:=by
 rcases h with ⟨_,h2,h3⟩|⟨_,h2,h3,h4,h5⟩
 ·exact ⟨DN h3,by rw [h2];decide⟩
 ·refine ⟨⟨by rw [h4];decide,by rw [h4,h5];rfl,fun x hx=>(by rw [h5] at hx;cases hx),fun x hx=>(by rw [h4] at hx;cases hx),fun x hx=>(by rw [h5] at hx;cases hx)⟩,h3⟩
mutual
theorem vF: ∀{f:ab},cW bB f→okT f
 | ⟨k,r,l⟩,h=>by
  rw [cW] at h
  have:=DO (rI h.1)
  exact ⟨this.1,this.2,vG h.2⟩
theorem vG: ∀{l:List ab},dH bB l→iD l
 | [],_=>trivial
 | f::l,h=>by
  rw [dH] at h
  exact ⟨vF h.1,vG h.2⟩
end
mutual
theorem rJ {G:ab→Bool} (hG: ∀f,G f=true→f.Kind=1→1≤f.Relation.Bases.length): ∀{f:ab},cW G f→okF f
 | ⟨k,r,l⟩,h=>by
  rw [cW] at h
  rw [okF]
  split
  ·rename_i hk;exact hG _ h.1 hk
  ·exact vH hG h.2
theorem vH {G:ab→Bool} (hG: ∀f,G f=true→f.Kind=1→1≤f.Relation.Bases.length): ∀{l:List ab},dH G l→gQ l
 | [],_=>trivial
 | f::l,h=>by
  rw [dH] at h
  exact ⟨rJ hG h.1,vH hG h.2⟩
end
theorem DP {f:ab} (h:bB f=true) (hk:f.Kind=1):1≤f.Relation.Bases.length:=by
 rcases rI h with ⟨_,_,h3⟩|⟨h1,_⟩
 ·have:=h3.1;have:=h3.2.2.1;omega
 ·omega
theorem DQ (f:ab):du f=(bN bB f 1 30).1:=rfl
theorem lA {f:ab} (h:du f=true):cW bB f∧aN f≤30:=by
 rw [DQ] at h
 have w:=rG _ f 1 30 (by decide) (by decide) h
 exact ⟨w.2.2,by have:=w.1;have:=w.2.1;omega⟩
theorem DR {f:ab} (h:du f=true):okT f∧aN f≤30∧okF f:=
 ⟨vF (lA h).1,(lA h).2,rJ (fun f=>DP) (lA h).1⟩
instance Gp (f:ab):CF (du f) (fun x=>x=true→okT f∧aN f≤30∧okF f):=⟨fun h=>DR h⟩
theorem DS {g:ax} {f:ab} (h:dc f g=true) (hk:f.Kind=1):1≤f.Relation.Bases.length:=by
 unfold dc at h
 rw [if_pos (by simpa using hk)] at h
 split at h
 ·rw [aP] at h
  have h1:gL g f.Relation=true:=h
  have:=rr h1
  have:=this.2.1;have:=(rr h1).2.2.1
  omega
 ·cases h
theorem DT {g:ax} {f:ab} (h:jA g f=true):okF f:=by
 have h1:(bN (fun f=>dc f g) f 1 30).1=true:=by
  unfold jA at h
  rw [aP] at h
  split at h
  ·exact h
  ·cases h
 exact rJ (fun f h hk=>DS h hk) (rG _ f 1 30 (by decide) (by decide) h1).2.2
instance Gq (g:ax) (f:ab):CF (jA g f) (fun x=>x=true→okF f):=⟨fun h=>DT h⟩
theorem DU (a b:Int):a≤cG a b∧b≤cG a b:=by unfold cG;split<;>omega
theorem vI: ∀(l:List ab) (a:Int),a≤iu l a∧ ∀x∈l,ci x≤iu l a
 | [],a=>⟨Int.le_refl _,fun x h=>by cases h⟩
 | f::l,a=>by
  rw [iu]
  have h:=vI l (cG a (ci f))
  have m:=DU a (ci f)
  refine ⟨by omega,fun x hx=> ?_⟩
  rcases List.mem_cons.1 hx with rfl|hx
  ·omega
  ·exact h.2 x hx
mutual
theorem vJ {n:Nat}: ∀{f:ab},okF f→ci f≤(n:Int)→okU n f
 | ⟨k,r,l⟩,h,hu=>by
  rw [okF] at h
  rw [okU]
  rw [ci] at hu
  by_cases hk:k=1
  ·rw [if_pos hk] at h hu⊢;exact ⟨h,by omega⟩
  ·rw [if_neg hk] at h hu⊢
   exact vK h (fun x hx=>by have:=(vI l 0).2 x hx;omega)
theorem vK {n:Nat}: ∀{l:List ab},gQ l→(∀x∈l,ci x≤(n:Int))→iF n l
 | [],_,_=>trivial
 | f::l,h,hu=>by
  rw [gQ] at h
  exact ⟨vJ h.1 (hu f (by simp)),vK h.2 (fun x hx=>hu x (by simp [hx]))⟩
end
end Go.Proofs.YtiknkaadhomeiaaGreatDoor
namespace Go.Proofs.YtiknkaadhomeiaaGreatDoor
open Go.RowKit Go.Lib
set_option linter.unusedVariables false
set_option linter.unusedSimpArgs false
def cE (row:List Int):List UInt8:=row.flatMap (fun b=>32::strconv_Itoa b)
def eqT (y:Int) (row:List Int):List UInt8:=strconv_Itoa y++([32,61]++cE row)
def eqs:List Int→List (List Int)→List (List UInt8)
 | y::Y,B=>eqT y (gt B 0)::eqs Y (B.drop 1)
 | [],_=> []
theorem DV {α:Type} [Inhabited α] {l:List α} {R:Type} (f:α→List UInt8) (E:List UInt8→R) {F:(List UInt8×Int→R)→List UInt8×Int→R} {d:List UInt8×Int→R} (hF: ∀ag p,F ag p=if decide (p.2<(l.length:Int))=true then ag (p.1++f (gt l p.2),p.2+1) else E p.1) (a:List UInt8):
  ap (((l.length:Int) - 0).toNat+1) F d (a,0)=E (a++l.flatMap f):=by
 have key: ∀(m k:Nat) (a:List UInt8),l.length - k=m→k≤l.length→ ∀fuel,m<fuel→ap fuel F d (a,(k:Int))=E (a++(l.drop k).flatMap f):=by
  intro m
  induction m with
  | zero=>
   intro k a e1 e2 fuel hf
   obtain ⟨g,rfl⟩: ∃g,fuel=g+1:=⟨fuel - 1,by omega⟩
   rw [ap,hF,if_neg (by simp;omega),List.drop_of_length_le (by omega)]
   simp
  | succ m ih=>
   intro k a e1 e2 fuel hf
   obtain ⟨g,rfl⟩: ∃g,fuel=g+1:=⟨fuel - 1,by omega⟩
   have hk:k<l.length:=by omega
   rw [ap,hF,if_pos (by simp;omega),List.drop_eq_getElem_cons hk,List.flatMap_cons]
   dsimp only
   rw [gP hk]
   have:=ih (k+1) (a++f l[k]) (by omega) (by omega) g (by omega)
   rw [show ((k:Int)+1)=((k+1:Nat):Int) by omega,this,List.append_assoc]
 have h5:=key l.length 0 a (by omega) (by omega) (((l.length:Int) - 0).toNat+1) (by omega)
 simpa using h5
theorem vL (r:aL):gM r=([91]++strings_Join (eqs r.Y r.Bases) [44,32])++[93]:=by
 unfold gM
 have key: ∀(m k:Nat) (a:List (List UInt8)),r.Y.length - k=m→k≤r.Y.length→ ∀fuel,m<fuel→ ∀(F:(Int×List (List UInt8)→List UInt8)→Int×List (List UInt8)→List UInt8) (d:Int×List (List UInt8)→List UInt8),
   (∀ag p,F ag p=if decide (p.1<(r.Y.length:Int))=true then ag (p.1+1,p.2++[eqT (gt r.Y p.1) (gt r.Bases p.1)]) else ([91]++strings_Join p.2 [44,32])++[93])→
   ap fuel F d ((k:Int),a)=([91]++strings_Join (a++eqs (r.Y.drop k) (r.Bases.drop k)) [44,32])++[93]:=by
  intro m
  induction m with
  | zero=>
   intro k a e1 e2 fuel hf F d hF
   obtain ⟨g,rfl⟩: ∃g,fuel=g+1:=⟨fuel - 1,by omega⟩
   rw [ap,hF,if_neg (by simp;omega),List.drop_of_length_le (show r.Y.length≤k by omega),eqs,List.append_nil]
  | succ m ih=>
   intro k a e1 e2 fuel hf F d hF
   obtain ⟨g,rfl⟩: ∃g,fuel=g+1:=⟨fuel - 1,by omega⟩
   have hk:k<r.Y.length:=by omega
   have e:gt (r.Bases.drop k) 0=gt r.Bases (k:Int):=by simp [gt,List.getD_eq_getElem?_getD]
   rw [ap,hF,if_pos (by simp;omega),List.drop_eq_getElem_cons hk,eqs,e,List.drop_drop]
   dsimp only
   rw [gP hk]
   have:=ih (k+1) (a++[eqT r.Y[k] (gt r.Bases (k:Int))]) (by omega) (by omega) g (by omega) F d hF
   rw [show ((k:Int)+1)=((k+1:Nat):Int) by omega,this,List.append_assoc a]
   rfl
 refine (key r.Y.length 0 [] (by omega) (by omega) (((r.Y.length:Int) - 0).toNat+1) (by omega) _ (fun _=>default) (fun ag p=> ?_)).trans ?_
 ·try dsimp only
  split
  ·rw [aP]
   have h:=DV (l:=gt r.Bases p.1) (fun b=> [32]++strconv_Itoa b) (fun s=>ag (p.1+1,p.2++[s])) (d:=fun _=>default) (F:=fun (ag9:(List UInt8×Int)→(List UInt8)) (p9:List UInt8×Int)=>(if (decide (p9.2<((gt r.Bases p.1).length:Int))) then (am (strconv_Itoa (gt (gt r.Bases p.1) p9.2)) (fun (x13:(List UInt8))=>(ag9 ((p9.1++([32]++x13)),(p9.2+1))))) else (ag (p.1+1,p.2++[p9.1])))) (fun ag9 p9=>rfl) (strconv_Itoa (gt r.Y p.1)++[32,61])
   refine h.trans ?_
   rw [List.append_assoc]
   rfl
  ·rw [aP]
 ·rw [List.nil_append,List.drop_zero,List.drop_zero]
theorem DW {g:ax} {r:aL} (h:okR g r): ∀x∈r.Bases,x.length≤12:=fun x hx=>by have:=h.2.2.2.2.1 x hx;have:=h.2.2.2.2.2;omega
theorem rK {g:ax} {r:aL} (h:okR g r):1≤g.Q∧r.Bases.length=r.Y.length∧1≤r.Y.length∧r.Y.length≤8:=⟨h.1,h.2.1,h.2.2.1,h.2.2.2.1⟩
theorem vM {g:ax} {r:aL} {z:List Int} {x:Int} (h:okR g r) (hx:x=fX r) (hz:(z.length:Int)=x): ∀x∈r.Bases,x.length≤z.length∧x.length≤1000:=fun y hy=>by have:=h.2.2.2.2.1 y hy;have:=DW h y hy;omega
theorem nR {n:Int} {x:List UInt8} (h:x=strconv_Itoa n) (hn:okX n):x.length≤21:=by
 rw [h];exact Lib.itoa_length_le n (by have:=hn.1;omega) (by have:=hn.2;omega)
theorem vN {r:aL} {i:Int} {x:List UInt8} (hr:fy r) (h:x=strconv_Itoa (gt r.Y i)) (hi:i.toNat<r.Y.length):x.length≤21:=nR h (hr.2.2.2.1 _ (bF hi))
theorem vO {r:aL} {i j:Int} {x:List UInt8} (hr:fy r) (h:x=strconv_Itoa (gt (gt r.Bases i) j)) (hi:i.toNat<r.Bases.length) (hj:j.toNat<(gt r.Bases i).length):x.length≤21:=nR h (hr.2.2.2.2 _ (bF hi) _ (bF hj))
theorem bS {r:aL} (h:fy r) {i:Int} (hi:i.toNat<r.Bases.length):(gt r.Bases i).length≤12:=h.2.2.1 _ (bF hi)
theorem vP: ∀{l:List Int},(∀x∈l,okX x)→(cE l).length≤22*l.length
 | [],_=>Nat.le_refl _
 | a::l,h=>by
  have h1:=vP (l:=l) (fun x hx=>h x (List.mem_cons_of_mem _ hx))
  have h2:=nR rfl (h a List.mem_cons_self)
  unfold cE at h1⊢
  rw [List.flatMap_cons,List.length_append,List.length_cons,List.length_cons]
  omega
theorem vQ: ∀(Y:List Int) (B:List (List Int)),(∀y∈Y,okX y)→(∀x∈B,x.length≤12∧ ∀y∈x,okX y)→B.length=Y.length→bR (eqs Y B)≤290*Y.length∧(eqs Y B).length=Y.length
 | [],_,_,_,_=>⟨by simp [eqs,bR],rfl⟩
 | y::Y,[],_,_,h=>by cases h
 | y::Y,b::B,h1,h2,h3=>by
  have ih:=vQ Y B (fun x hx=>h1 x (List.mem_cons_of_mem _ hx)) (fun x hx=>h2 x (List.mem_cons_of_mem _ hx)) (by simpa using h3)
  have hb:=h2 b List.mem_cons_self
  have h4:=vP hb.2
  have h5:=nR rfl (h1 y List.mem_cons_self)
  have e:gt (b::B) 0=b:=rfl
  rw [eqs,e,List.drop_one,List.tail_cons,List.length_cons,List.length_cons]
  refine ⟨?_,by rw [ih.2]⟩
  have e2:bR (eqT y b::eqs Y B)=(eqT y b).length+bR (eqs Y B):=by simp [bR]
  rw [e2]
  have e3:(eqT y b).length=(strconv_Itoa y).length+(2+(cE b).length):=by simp only [eqT,List.length_append,List.length_cons,List.length_nil]
  have:=ih.1;have:=hb.1
  omega
theorem vR {r:aL} (h:fy r):(gM r).length≤2400:=by
 rw [vL]
 have h1:=vQ r.Y r.Bases h.2.2.2.1 (fun x hx=>⟨h.2.2.1 x hx,h.2.2.2.2 x hx⟩) h.2.1
 have h2:=ly (x:=strings_Join (eqs r.Y r.Bases) [44,32]) rfl
 have:=h.1
 simp only [List.length_append,List.length_cons,List.length_nil]
 omega
theorem DX {r:aL} {x:List UInt8} (hx:x=gM r) (h:fy r):x.length≤2400:=by rw [hx];exact vR h
theorem vS: ∀l:List ab,(bH l).length=l.length
 | []=>rfl
 | f::l=>by rw [bH,List.length_cons,List.length_cons,vS l]
mutual
theorem vT: ∀{f:ab},okT f→(be f).length≤2600*aN f
 | ⟨k,r,l⟩,h=>by
  rw [okT] at h
  have h1:=vR h.1
  have h2:=vU h.2.2
  have h3:=ly (x:=strings_Join (bH l) [44,32]) rfl
  rw [vS] at h3
  have:=h.2.1
  rw [be,aN]
  split
  ·omega
  ·split<;>(simp only [List.length_append,List.length_cons,List.length_nil];omega)
theorem vU: ∀{l:List ab},iD l→bR (bH l)≤2600*fq l
 | [],_=>by simp [bH,bR]
 | f::l,h=>by
  rw [iD] at h
  have h1:=vT h.1
  have h2:=vU h.2
  have e2:bR (be f::bH l)=(be f).length+bR (bH l):=by simp [bR]
  rw [bH,fq,e2]
  omega
end
theorem DY {f:ab} {x:List UInt8} (hx:x=be f) (h:okT f) (hh:aN f≤30):x.length≤78000:=by
 have:=vT h
 rw [hx];omega
end Go.Proofs.YtiknkaadhomeiaaGreatDoor
