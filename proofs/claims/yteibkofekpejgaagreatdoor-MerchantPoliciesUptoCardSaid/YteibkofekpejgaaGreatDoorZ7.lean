/- Texts of this proof, one after the other: SH, E1, E2, E3. -/
import Derived.Ground.NamesProg
import Derived.Ground.Names2Prog
import Derived.Shelf.Spec.SlicesInsert
import Derived.Shelf.Spec.SlicesInsertGrow
import Derived.Shelf.Lays2
import Derived.Shelf.Strconv.Itoa0
import Derived.Shelf.Strings.BuilderK
import Derived.Shelf.LaysM
import Derived.Shelf.LaysC
import Derived.Test.YteibkofekpejgaaGreatDoorProg
import Derived.Test.YteibkofekpejgaaGreatDoorZ5
import Derived.WalkKit
import Derived.BigCall
set_option linter.unusedVariables false
set_option linter.unusedSimpArgs false
namespace Go.Proofs
open Go.Shelf
def Tryz.lays129_ren:Go.Shelf.Ren:=⟨fun|129=>261|n=>n,fun|53=>249|3=>3|4=>4|46=>174|5=>5|9=>9|n=>n,fun|n=>n⟩
theorem Tryz.lays129:Go.Proofs.Lays.n129 Tryz.prog Tryz.lays129_ren:={
 mixed:=by kernel_rfl
 f129:=Tryz.func261.trans (congrArg some (by kernel_rfl))
 t3:=Tryz.underlying3
 a3:=Tryz.isAgg3
 z3:=Tryz.sizeOf3
 v3:=Tryz.zeroValue3
 t4:=Tryz.underlying4
 a4:=Tryz.isAgg4
 z4:=Tryz.sizeOf4
 v4:=Tryz.zeroValue4
 t5:=Tryz.underlying5
 a5:=Tryz.isAgg5
 z5:=Tryz.sizeOf5
 v5:=Tryz.zeroValue5
 t9:=Tryz.underlying9
 a9:=Tryz.isAgg9
 z9:=Tryz.sizeOf9
 v9:=Tryz.zeroValue9
 t46:=Tryz.underlying174
 a46:=Tryz.isAgg174
 z46:=Tryz.sizeOf174
 v46:=Tryz.zeroValue174
 t53:=Tryz.underlying249
 a53:=Tryz.isAgg249
 z53:=Tryz.sizeOf249
 v53:=Tryz.zeroValue249}
def Tryz.lays169_ren:Go.Shelf.Ren:=⟨fun|169=>170|n=>n,fun|70=>238|9=>9|0=>0|72=>240|37=>202|127=>275|3=>3|5=>5|n=>n,fun|n=>n⟩
theorem Tryz.lays169:Go.Proofs.Lays.n169 Tryz.prog Tryz.lays169_ren:={
 mixed:=by kernel_rfl
 f169:=Tryz.func170.trans (congrArg some (by kernel_rfl))
 t0:=Tryz.underlying0
 a0:=Tryz.isAgg0
 z0:=Tryz.sizeOf0
 v0:=Tryz.zeroValue0
 t3:=Tryz.underlying3
 a3:=Tryz.isAgg3
 z3:=Tryz.sizeOf3
 v3:=Tryz.zeroValue3
 t9:=Tryz.underlying9
 a9:=Tryz.isAgg9
 z9:=Tryz.sizeOf9
 v9:=Tryz.zeroValue9
 t37:=Tryz.underlying202
 a37:=Tryz.isAgg202
 z37:=Tryz.sizeOf202
 v37:=Tryz.zeroValue202
 t70:=Tryz.underlying238
 a70:=Tryz.isAgg238
 z70:=Tryz.sizeOf238
 v70:=Tryz.zeroValue238
 t72:=Tryz.underlying240
 a72:=Tryz.isAgg240
 z72:=Tryz.sizeOf240
 v72:=Tryz.zeroValue240
 t127:=Tryz.underlying275
 a127:=Tryz.isAgg275
 z127:=Tryz.sizeOf275
 v127:=Tryz.zeroValue275}
theorem Tryz.Builder_Extra_169:Builder.Extra Tryz.prog Tryz.lays169_ren:={
 sizeBuilder:=by kernel_rfl
 liesBuilder:=by kernel_rfl
 t5:=Tryz.underlying5
 a5:=Tryz.isAgg5
 z5:=Tryz.sizeOf5
 v5:=Tryz.zeroValue5
 infoByte:=by kernel_rfl
 cellsByte:=by kernel_rfl
 sizeByte:=by kernel_rfl
 neB5:=by decide}
def Tryz.laysNm221_ren:Go.Shelf.Ren:=⟨fun|21=>71|27=>111|28=>112|35=>143|39=>175|n=>n,fun|22=>34|3=>3|4=>4|0=>0|n=>n,fun|n=>n⟩
theorem Tryz.laysNm221:Go.Proofs.Lays2.n21 Tryz.prog Tryz.laysNm221_ren:={
 mixed:=by kernel_rfl
 f21:=Tryz.func71.trans (congrArg some (by kernel_rfl))
 f27:=Tryz.func111.trans (congrArg some (by kernel_rfl))
 f28:=Tryz.func112.trans (congrArg some (by kernel_rfl))
 f35:=Tryz.func143.trans (congrArg some (by kernel_rfl))
 f39:=Tryz.func175.trans (congrArg some (by kernel_rfl))
 t0:=Tryz.underlying0
 a0:=Tryz.isAgg0
 z0:=Tryz.sizeOf0
 v0:=Tryz.zeroValue0
 t3:=Tryz.underlying3
 a3:=Tryz.isAgg3
 z3:=Tryz.sizeOf3
 v3:=Tryz.zeroValue3
 t4:=Tryz.underlying4
 a4:=Tryz.isAgg4
 z4:=Tryz.sizeOf4
 v4:=Tryz.zeroValue4
 t22:=Tryz.underlying34
 a22:=Tryz.isAgg34
 z22:=Tryz.sizeOf34
 v22:=Tryz.zeroValue34
 i3:=by kernel_rfl}
theorem Tryz.bits_Len64 (x:Int) (w:World) (h0:0≤x) (h1:x≤18446744073709551615):
  Calls Tryz.prog 261 #[.int .u64 x] w fun e w'=>e= .returned (.int .i64 (Lib.bitLen x.toNat))∧w'=w:=Any.bits_Len64 Tryz.lays129 x w h0 h1
end Go.Proofs
namespace Go.Proofs.YteibkofekpejgaaGreatDoor
open Go.RowKit Go.Shelf Go.Lib
def tB (x:Int):Int:=(Lib.bitLen x.toNat:Int)
theorem C8 {f:FuncId} {ws:List V} {r:V} (he: ∀xs w,(callFunc f xs).run En.P w= .ok (.enter f xs) w)
  (h: ∀(c:Cx) us,Gl En c→rdT ro0 c ws us→wfL ws→Calls En.P f us.toArray c.w fun e w'=> ∃v,e= .returned v∧Below c.w.heap.size c.w w'∧ ∀c',rd ro0 c' r v):aW En f ws r []:=
 ⟨he,fun c us _ hg hus=>(h c us hg hus (mH hus)).mono fun e w' ⟨v,e1,hb,hr⟩=>⟨v,c.at w' hb.size,ro0,e1,rfl,Cx.le_at hb,hr _,⟨fun i b hb=>by simp at hb,fun i _=>rfl,fun i j bi bj k _ hb=>by simp at hb⟩⟩⟩
theorem Kw (x_:Int):aW En 261 [.int .u64 x_] (.int .i64 (tB x_)) []:=by
 refine C8 (show∀xs w,(callFunc 261 xs).run En.P w= .ok (.enter 261 xs) w from enters_of Tryz.func261 (by kernel_rfl) rfl) fun c us hg hus hw=> ?_
 simp only [rdT,rd] at hus
 obtain ⟨u0,c2,rfl,⟨rfl,l0⟩,rfl⟩:=hus
 have h0:0≤x_∧x_≤18446744073709551615:=l0
 refine (show Calls En.P 261 #[.int .u64 x_] c.w _ from Tryz.bits_Len64 x_ c.w h0.1 h0.2).mono ?_
 rintro e w' ⟨rfl,rfl⟩
 refine ⟨_,rfl,Below.refl _ _,fun c'=> ?_⟩
 have hl:=Lib.bitLen_le x_.toNat 64 (by decide) (by omega)
 simp only [rd]
 refine ⟨rfl,show (-9223372036854775808:Int)≤(Lib.bitLen x_.toNat:Int)∧(Lib.bitLen x_.toNat:Int)≤9223372036854775807 from ?_⟩
 constructor<;>omega
instance Rg (x_:Int):CM En (tB x_) 261 [.int .u64 x_] (fun y=> .int .i64 y) (fun _=> []):=⟨Kw x_⟩
end Go.Proofs.YteibkofekpejgaaGreatDoor
namespace Go.Proofs.YteibkofekpejgaaGreatDoor
open Go.RowKit Go.Shelf Go.Lib
def nA:List UInt8:=[48,49,50,51,52,53,54,55,56,57,97,98,99,100,101,102]
set_option maxHeartbeats 1000000 in
set_option maxRecDepth 100000 in
theorem Kx (b:Nat) (w:World) (h0:w.cell? ⟨b,0,none⟩=some (.pointer (some ⟨b,0,none⟩))):
  Calls Tryz.prog 202 #[.pointer (some ⟨b,0,none⟩)] w fun e w'=>e= .returned (.tuple #[])∧w'=w:=by
 obtain ⟨j,hj,_⟩:=Option.map_eq_some_iff.1 (show (Tryz.prog.info? 240).map (·.size)=some 2 by kernel_rfl)
 go_enter Tryz.func202,Tryz.ntmps202
 go_wp2
 rw [Lib.run_neq_ptr_same w _ Tryz.underlying238 hj]
 go_wp2
 go_end0
 exact ⟨rfl,rfl⟩
set_option maxHeartbeats 1000000 in
set_option maxRecDepth 100000 in
theorem Ky (b:Nat) (w:World) (h0:w.cell? ⟨b,0,none⟩=some (.pointer none)) (hsh:w.shape? b=some (240,2)) (hfz:w.frozen? ⟨b,0,none⟩=false):
  Calls Tryz.prog 202 #[.pointer (some ⟨b,0,none⟩)] w fun e w'=>e= .returned (.tuple #[])∧w'=w.setCell ⟨b,0,none⟩ (.pointer (some ⟨b,0,none⟩)):=by
 obtain ⟨j,hj,hjs⟩:=Option.map_eq_some_iff.1 (show (Tryz.prog.info? 240).map (·.size)=some 2 by kernel_rfl)
 have hl:liesAt Tryz.prog Tryz.prog.depth 240 (2/Tryz.prog.cellsOf 240) 0 240 1=true:=by kernel_rfl
 go_enter Tryz.func202,Tryz.ntmps202
 go_wp2
 rw [Lib.run_to_unsafe w ⟨b,0,none⟩ Tryz.underlying238 Tryz.underlying310 hj (by rw [hjs];decide) hsh (Nat.zero_lt_succ 1)]
 simp only [Result.andThen]
 rw [Oper.upon_value]
 go_wp2
 rw [run_callFunc_extern Tryz.func236 (by kernel_rfl) (by kernel_rfl) (by kernel_rfl) (e:=Extern.AbiNoEscape.same) (by kernel_rfl)]
 rw [Lib.run_noEscape]
 simp only [Result.andThen]
 rw [Oper.upon_value]
 go_wp2
 rw [Lib.run_from_unsafe w ⟨b,0,none⟩ Tryz.underlying310 Tryz.underlying238 hj hsh hl]
 simp only [Result.andThen]
 rw [Oper.upon_value]
 go_wp2
 go_end0
 exact ⟨rfl,rfl⟩
theorem Kz (B b:Nat) (bs:List Value) (w:World) (h:Lib.IsBuilderF 240 5 B b bs w):
  Calls Tryz.prog 202 #[.pointer (some ⟨b,0,none⟩)] w fun e w'=>e= .returned (.tuple #[])∧Lib.BuilderAtF 240 5 B b (.pointer (some ⟨b,0,none⟩)) bs w'∧Below B w w':=by
 rcases h with h|h
 ·refine (Ky b w h.cell0 h.shape h.frozen0).mono ?_
  rintro e w' ⟨rfl,rfl⟩
  exact ⟨rfl,h.used _,(Below.refl B w).setCell (p:=⟨b,0,none⟩) h.1 _⟩
 ·refine (Kx b w h.cell0).mono ?_
  rintro e w' ⟨rfl,rfl⟩
  exact ⟨rfl,h,Below.refl B _⟩
set_option maxHeartbeats 2000000 in
set_option maxRecDepth 100000 in
theorem C9 (B b:Nat) (bs:List Value) (c:Int) (w:World) (h:Lib.IsBuilderF 240 5 B b bs w) (hlen:bs.length+1≤140737488355328) (hBw:B≤w.heap.size):
  Calls Tryz.prog 169 #[.pointer (some ⟨b,0,none⟩),.int .u8 c] w fun e w'=>e= .returned .nilIface∧Lib.BuilderAtF 240 5 B b (.pointer (some ⟨b,0,none⟩)) (bs++[.int .u8 c]) w'∧Below B w w':=by
 obtain ⟨i0,hi,hz0,hz1,hz2⟩:=info_parts (show (Tryz.prog.info? 5).map (fun i=>(i.zero,i.size,i.bytes))=some (some (.int .u8 0),1,1) by kernel_rfl)
 have eM: ∀args w,(callFunc 202 args).run Tryz.prog w= .ok (.enter 202 args) w:=enters_of Tryz.func202 (by kernel_rfl) rfl
 go_enter Tryz.func169,Tryz.ntmps169
 go_wp2_with (go_at_call 202;refine (Kz B b bs _ h).mono ?_)
 rintro e w1 ⟨rfl,h1,hb1⟩
 obtain ⟨hB,v,hbk,hown,hne⟩:=h1
 have c0:w1.cell? ⟨b,0,none⟩=some (.pointer (some ⟨b,0,none⟩)):=by rw [Lib.cell_of_heap hbk];rfl
 have c1:w1.cell? ⟨b,1,none⟩=some v:=by rw [Lib.cell_of_heap hbk];rfl
 go_wp2_with (at_builtin;refine wpList_append_ownF _ rfl _ _ 202 rfl B 5 i0 (.int .u8 0) 1 1 Tryz.underlying202 hi hz0 hz1 hz2 rfl (by decide) _ _ _ rfl (hown.alloc _) ⟨w1.heap.size,0,none⟩ 1 1 [.int .u8 c] rfl rfl ?c1 ?c2 ?c3 ?c4 ?c5 ?_)
 case c1=>
  intro j u hj
  match j,hj with
  | 0,hj=>simp at hj;subst hj;simp [Addr.add]
 case c2=>intro u hu;simp at hu;subst hu;rfl
 case c3=>unfold maxLen;omega
 case c4=>omega
 case c5=>have:=hb1.size;simp;omega
 intro v' w2 hown' hgrow _
 have hlt:b<w1.heap.size:=by
  rcases Nat.lt_or_ge b w1.heap.size with h'|h'
  ·exact h'
  ·simp [Array.getElem?_eq_none h'] at hbk
 have hb2:w2.heap[b]? =some (.cells #[.pointer (some ⟨b,0,none⟩),v] 240 (0,0)):=by
  rw [hgrow.block b (by simp;omega) (fun e=>hne e.symm),Lib.alloc_old w1 _ b hlt]
  exact hbk
 have d0:w2.cell? ⟨b,0,none⟩=some (.pointer (some ⟨b,0,none⟩)):=by rw [Lib.cell_of_heap hb2];rfl
 have d1:w2.cell? ⟨b,1,none⟩=some v:=by rw [Lib.cell_of_heap hb2];rfl
 have f1:w2.frozen? ⟨b,1,none⟩=false:=Lib.frozen_of_heap hb2 1
 obtain ⟨g,cap,rfl⟩: ∃g cap,v'= .slice (some ⟨g,0,none⟩) (bs.length+1) cap:=by
  rcases hown'.2 with ⟨_,h0⟩|⟨g,cap,cur,fz,hv,_⟩
  ·omega
  ·exact ⟨g,cap,hv⟩
 go_wp2
 go_ret
 refine ⟨rfl,?_,?_⟩
 ·exact Lib.BuilderAtF.put (T:=240) (e:=5) hB hb2 (bs':=bs++[.int .u8 c]) (by simpa using hown') (by decide)
 ·exact ((hb1.alloc (by have:=hb1.size;omega) _).grown hgrow (by have:=hb1.size;simp;omega) (fun k hk=>(hown.lt k hk).1)).setCell (p:=⟨b,1,none⟩) hB _
def ix (a:Nat→Int):Nat→List UInt8
 | 0=> []
 | k+1=>ix a k++[nA.getD (a k/16).toNat 0,nA.getD (a k% 16).toNat 0]
theorem tC (a:Nat→Int): ∀k,(ix a k).length=2*k
 | 0=>rfl
 | k+1=>by simp [ix,tC a k];omega
end Go.Proofs.YteibkofekpejgaaGreatDoor
namespace Go.Proofs.YteibkofekpejgaaGreatDoor
open Go.RowKit Go.Shelf Go.Lib
section
variable {P:Program} {ops:Array Oper} {rest:List Oper} {o:Oper} {a:Act} {Q:Exit→Act→World→Prop} {w:World}
theorem KA {t:TypeId} {b:Nat} {cs:List Value} {T:TypeId} {fr:Nat×Nat} (ht: ∀w,(isAgg t).run P w= .ok true w) (hz: ∀w,(sizeOf t).run P w= .ok cs.length w) (hb:w.heap[b]? =some (.cells cs.toArray T fr)):
  (loadVar t ⟨b,0,none⟩).run P w= .ok (.agg cs.toArray) w:=by
 have hc: ∀j v,cs[j]? =some v→w.cell? ((⟨b,0,none⟩:Addr).add j)=some v:=fun j v hj=>by
  have e:(⟨b,0,none⟩:Addr).add j=⟨b,j,none⟩:=by unfold Addr.add;split<;>simp_all
  rw [e]
  simp [World.cell?,hb,hj]
 have h:=run_loadCells_list (P:=P) w ⟨b,0,none⟩ cs hc
 simp [loadVar,ht,hz,h]
theorem KB (hgd:o.guard=none) (t:TypeId) (x:Operand) (ho:o.op= .load t x) {ad:Addr} {v:Value} (hx:a.eval x= .pointer (some ad)) (hr:(loadVar t ad).run P w= .ok v w) (h:wpList P ops Q rest (a.put o.dst v) w):wpList P ops Q (o::rest) a w:=by
 refine wpList_plain hgd fun K hK=> ?_
 unfold Oper.wp execOp
 simp only [ho,Instr.loadAt,hx,Instr.sureAddr,Sem.run_bind,Sem.run_pure,Result.andThen_ok,hr]
 exact hK _ _ h
theorem KC (hgd:o.guard=none) (t:TypeId) (x y:Operand) (ho:o.op= .index t x y) {cs:List Value} {k n:Nat} {e:TypeId} {u:Value} (hx:a.eval x= .agg cs.toArray) (hy:a.eval y= .int .i64 k) (hu:P.underlying t=some (.array n e)) (hk:k<n)
  (hg: ∀w,(isAgg e).run P w= .ok false w) (hz: ∀w,(sizeOf e).run P w= .ok 1 w) (hc:cs[k]? =some u) (h:wpList P ops Q rest (a.put o.dst u) w):wpList P ops Q (o::rest) a w:=by
 refine wpList_plain hgd fun K hK=> ?_
 have hru:(underlying t).run P w= .ok (.array n e) w:=by simp [underlying,hu]
 have hr:(Instr.index t (.agg cs.toArray) (.int .i64 k)).run P w= .ok u w:=by
  simp [Instr.index,asIntOf,hru,hz,hk,Go.part,hg,hc]
 unfold Oper.wp execOp
 simp only [ho,hx,hy,Sem.run_bind,Sem.run_pure,Result.andThen_ok,hr]
 exact hK _ _ h
end
theorem KD (B b:Nat) (l:List UInt8) (w:World) (h:Lib.IsBuilderF 240 5 B b (Lib.byteCells l) w) (hBw:B≤w.heap.size):
  Calls Tryz.prog 170 #[.pointer (some ⟨b,0,none⟩)] w fun e w'=>e= .returned (.string ⟨l.toArray⟩)∧(Lib.IsBuilderF 240 5 B b (Lib.byteCells l) w'∧Below B w w'∧Lib.OthersKept 5 (some b) w w'):=
 Any.Builder_String_any_k Tryz.lays169 Tryz.Builder_Extra_169 B b l w h hBw
theorem KE: ∀i:Fin 16,(⟨#[48,49,50,51,52,53,54,55,56,57,97,98,99,100,101,102]⟩:ByteArray)[i.val]'(show i.val<16 from i.isLt)=nA.getD i.val 0:=by decide
theorem C_ (n:Nat) (h:n<(⟨#[48,49,50,51,52,53,54,55,56,57,97,98,99,100,101,102]⟩:ByteArray).size):(⟨#[48,49,50,51,52,53,54,55,56,57,97,98,99,100,101,102]⟩:ByteArray)[n]'h=nA.getD n 0:=KE ⟨n,h⟩
theorem KF (a:Nat→Int) (k:Nat):Lib.byteCells (ix a (k+1))=Lib.byteCells (ix a k)++[.int .u8 (nA.getD (a k/16).toNat 0).toNat]++[.int .u8 (nA.getD (a k% 16).toNat 0).toNat]:=by
 rw [ix,Lib.byteCells_append,List.append_assoc];rfl
set_option maxHeartbeats 4000000 in
set_option maxRecDepth 100000 in
theorem KG (a:Nat→Int) (cs:List Value) (hn:cs.length=32) (ha: ∀k,k<32→cs[k]? =some (.int .u8 (a k))∧0≤a k∧a k≤255) (w:World):
  Calls Tryz.prog 139 #[.agg cs.toArray] w fun e w'=>e= .returned (.string ⟨(ix a 32).toArray⟩)∧Below w.heap.size w w':=by
 have hz: ∀w,(sizeOf 28).run Tryz.prog w= .ok cs.length w:=by rw [hn];exact Tryz.sizeOf28
 go_enter Tryz.func139,Tryz.ntmps139
 go_wp2_with (refine KB rfl 28 (.tmp 1) rfl (ad:=⟨w.heap.size,0,none⟩) (v:= .agg cs.toArray) rfl (KA (T:=28) (fr:=(0,0)) Tryz.isAgg28 hz (by rw [Lib.alloc_old _ _ _ (by simp)];exact heap_alloc_new w _)) ?_)
 go_loopw [7] (fun i wr=> ∃k:Nat,k≤32∧i= .int .i64 k∧Lib.IsBuilderF 240 5 (w.heap.size+1) (w.heap.size+1) (Lib.byteCells (ix a k)) wr∧Below w.heap.size w wr∧w.heap.size+1≤wr.heap.size) (fun i _=>32 - (Go.RowKit.intOf i).toNat)
 case atStart=>
  have hs:(w.alloc (.cells cs.toArray 28)).heap.size=w.heap.size+1:=by simp
  have hb:=Lib.IsBuilderF.of (Lib.fresh_isBuilder 240 5 (w.alloc (.cells cs.toArray 28)))
  rw [hs] at hb
  exact ⟨0,by omega,rfl,hb,((Below.refl _ w).alloc (Nat.le_refl _) _).alloc (by simp) _,by simp⟩
 case round=>
  obtain ⟨k,hk,rfl,hI,hbw,hsz⟩:=hrel
  by_cases hlt:k<32
  ·obtain ⟨h1,h2,h3⟩:=ha k hlt
   have hlen:=tC a k
   have hq:(k:Int)<32:=by omega
   go_wp2_with (first|(refine KC rfl 28 (.tmp 6) (.tmp 7) rfl (cs:=cs) (k:=k) (n:=32) (e:=5) rfl rfl Tryz.underlying28 hlt Tryz.isAgg5 Tryz.sizeOf5 h1 ?_)|(go_at_call 169;refine (C9 _ _ _ _ _ hI (by rw [Lib.byteCells_length,hlen];omega) hsz).mono ?_))
   rintro e W1 ⟨rfl,hA,hB1⟩
   have hs1:w.heap.size+1≤W1.heap.size:=Nat.le_trans hsz hB1.size
   have hl1: ∀x:Value,(Lib.byteCells (ix a k)++[x]).length=2*k+1:=fun x=>by rw [List.length_append,Lib.byteCells_length,hlen];rfl
   go_wp2_with (go_at_call 169;refine (C9 _ _ _ _ _ (Or.inr hA) (by rw [hl1];omega) hs1).mono ?_)
   rintro e W2 ⟨rfl,hA2,hB2⟩
   rw [C_,C_,←KF] at hA2
   go_wp2
   go_roundw
   case rel=>exact ⟨k+1,by omega,rfl,Or.inr hA2,(hbw.trans (hB1.mono (by omega))).trans (hB2.mono (by omega)),Nat.le_trans hs1 hB2.size⟩
   case measure=>simp [Go.RowKit.intOf];omega
  ·have hk32:k=32:=by omega
   have hq: ¬(k:Int)<32:=by omega
   go_wp2_with (go_at_call 170;refine (KD _ _ _ _ hI hsz).mono ?_;rintro e W1 ⟨rfl,_,hB1,_⟩)
   go_ret
   subst hk32
   exact ⟨rfl,hbw.trans (hB1.mono (by omega))⟩
def pQ (h:List Int):List UInt8:=ix (fun k=>gt h (k:Int)) 32
theorem Da {ρ:Ro} {c:Cx} {f:Nat→Int}: ∀{l:List Nat} {cs:List Value},rdC ρ c (l.map fun k=>V.int .u8 (f k)) cs→cs=l.map (fun k=>Value.int .u8 (f k))∧ ∀k∈l,0≤f k∧f k≤255
 | [],cs,h=>⟨h,fun k hk=>by cases hk⟩
 | a::l,cs,h=>by
  obtain ⟨u,c2,rfl,_,hu,hr⟩:=h
  simp only [rd,Ci] at hu
  obtain ⟨rfl,hu⟩:=hu
  obtain ⟨rfl,hl⟩:=Da hr
  refine ⟨rfl,fun k hk=> ?_⟩
  rcases List.mem_cons.1 hk with rfl|hk
  ·exact hu
  ·exact hl k hk
theorem KH (h:List Int):aW En 139 [aH h] (.str (pQ h)) []:=by
 refine C8 (show∀xs w,(callFunc 139 xs).run En.P w= .ok (.enter 139 xs) w from enters_of Tryz.func139 (by kernel_rfl) rfl) fun c us hg hus hw=> ?_
 rw [show aH h=V.agg ((List.range 32).map fun k:Nat=>V.int .u8 (gt h (k:Int))) by kernel_rfl] at hus
 simp only [rdT] at hus
 obtain ⟨u0,c2,rfl,hu,rfl⟩:=hus
 simp only [rd] at hu
 obtain ⟨cs,rfl,hcs⟩:=hu
 obtain ⟨rfl,hr⟩:=Da (f:=fun k=>gt h (k:Int)) hcs
 refine (show Calls En.P 139 #[.agg _] c.w _ from KG (fun k=>gt h (k:Int)) _ (by simp) (fun k hk=>⟨by simp [hk],hr k (List.mem_range.2 hk)⟩) c.w).mono ?_
 rintro e w' ⟨rfl,hB⟩
 refine ⟨_,rfl,hB,fun c'=> ?_⟩
 simp only [rd]
 exact ⟨rfl,by unfold pQ LEN;rw [tC];decide⟩
instance Rh (h:List Int):CM En (pQ h) 139 [aH h] (fun y=> .str y) (fun _=> []):=⟨KH h⟩
end Go.Proofs.YteibkofekpejgaaGreatDoor
