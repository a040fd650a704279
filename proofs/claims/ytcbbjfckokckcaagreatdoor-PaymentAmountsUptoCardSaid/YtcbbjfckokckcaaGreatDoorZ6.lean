/- Texts of this proof, one after the other: SH, E1, E2, E3, M, H1, HS, H2. -/
import Derived.Ground.NamesProg
import Derived.Shelf.Strconv.Itoa0
import Derived.Shelf.Strings.BuilderK
import Derived.Test.YtcbbjfckokckcaaGreatDoorProg
import Derived.Test.YtcbbjfckokckcaaGreatDoorZ5
import Derived.WalkKit
import Derived.BigCall
import Derived.Lib.BitFns
import Derived.KernelRfl
set_option linter.unusedVariables false
set_option linter.unusedSimpArgs false
namespace Go.Proofs
open Go.Shelf
def Tryz.lays129_ren:Go.Shelf.Ren:=⟨fun|129=>398|n=>n,fun|53=>269|3=>3|4=>4|46=>216|5=>5|9=>9|n=>n,fun|n=>n⟩
theorem Tryz.lays129:Go.Proofs.Lays.n129 Tryz.prog Tryz.lays129_ren:={
 mixed:=by kernel_rfl
 f129:=Tryz.func398.trans (congrArg some (by kernel_rfl))
 t3:=Tryz.underlying3
 a3:=Tryz.isAgg3
 z3:=Tryz.sizeOf3
 v3:=Tryz.zeroValue3
 t4:=Tryz.underlying4
 a4:=Tryz.isAgg4
 z4:=Tryz.sizeOf4
 v4:=Tryz.zeroValue4
 t5:=Tryz.underlying5
 a5:=Tryz.isAgg5
 z5:=Tryz.sizeOf5
 v5:=Tryz.zeroValue5
 t9:=Tryz.underlying9
 a9:=Tryz.isAgg9
 z9:=Tryz.sizeOf9
 v9:=Tryz.zeroValue9
 t46:=Tryz.underlying216
 a46:=Tryz.isAgg216
 z46:=Tryz.sizeOf216
 v46:=Tryz.zeroValue216
 t53:=Tryz.underlying269
 a53:=Tryz.isAgg269
 z53:=Tryz.sizeOf269
 v53:=Tryz.zeroValue269}
def Tryz.lays169_ren:Go.Shelf.Ren:=⟨fun|169=>250|n=>n,fun|70=>282|9=>9|0=>0|72=>284|37=>99|127=>326|3=>3|5=>5|n=>n,fun|n=>n⟩
theorem Tryz.lays169:Go.Proofs.Lays.n169 Tryz.prog Tryz.lays169_ren:={
 mixed:=by kernel_rfl
 f169:=Tryz.func250.trans (congrArg some (by kernel_rfl))
 t0:=Tryz.underlying0
 a0:=Tryz.isAgg0
 z0:=Tryz.sizeOf0
 v0:=Tryz.zeroValue0
 t3:=Tryz.underlying3
 a3:=Tryz.isAgg3
 z3:=Tryz.sizeOf3
 v3:=Tryz.zeroValue3
 t9:=Tryz.underlying9
 a9:=Tryz.isAgg9
 z9:=Tryz.sizeOf9
 v9:=Tryz.zeroValue9
 t37:=Tryz.underlying99
 a37:=Tryz.isAgg99
 z37:=Tryz.sizeOf99
 v37:=Tryz.zeroValue99
 t70:=Tryz.underlying282
 a70:=Tryz.isAgg282
 z70:=Tryz.sizeOf282
 v70:=Tryz.zeroValue282
 t72:=Tryz.underlying284
 a72:=Tryz.isAgg284
 z72:=Tryz.sizeOf284
 v72:=Tryz.zeroValue284
 t127:=Tryz.underlying326
 a127:=Tryz.isAgg326
 z127:=Tryz.sizeOf326
 v127:=Tryz.zeroValue326}
theorem Tryz.Builder_Extra_169:Builder.Extra Tryz.prog Tryz.lays169_ren:={
 sizeBuilder:=by kernel_rfl
 liesBuilder:=by kernel_rfl
 t5:=Tryz.underlying5
 a5:=Tryz.isAgg5
 z5:=Tryz.sizeOf5
 v5:=Tryz.zeroValue5
 infoByte:=by kernel_rfl
 cellsByte:=by kernel_rfl
 sizeByte:=by kernel_rfl
 neB5:=by decide}
theorem Tryz.bits_Len64 (x:Int) (w:World) (h0:0≤x) (h1:x≤18446744073709551615):
  Calls Tryz.prog 398 #[.int .u64 x] w fun e w'=>e= .returned (.int .i64 (Lib.bitLen x.toNat))∧w'=w:=Any.bits_Len64 Tryz.lays129 x w h0 h1
end Go.Proofs
namespace Go.Proofs.YtcbbjfckokckcaaGreatDoor
open Go.RowKit Go.Shelf Go.Lib
def qW (x:Int):Int:=(Lib.bitLen x.toNat:Int)
theorem z6 {f:FuncId} {ws:List V} {r:V} (he: ∀xs w,(callFunc f xs).run En.P w= .ok (.enter f xs) w)
  (h: ∀(c:Cx) us,Gl En c→rdT ro0 c ws us→wfL ws→Calls En.P f us.toArray c.w fun e w'=> ∃v,e= .returned v∧Below c.w.heap.size c.w w'∧ ∀c',rd ro0 c' r v):bk En f ws r []:=
 ⟨he,fun c us _ hg hus=>(h c us hg hus (lP hus)).mono fun e w' ⟨v,e1,hb,hr⟩=>⟨v,c.at w' hb.size,ro0,e1,rfl,Cx.le_at hb,hr _,⟨fun i b hb=>by simp at hb,fun i _=>rfl,fun i j bi bj k _ hb=>by simp at hb⟩⟩⟩
theorem Hk (x_:Int):bk En 398 [.int .u64 x_] (.int .i64 (qW x_)) []:=by
 refine z6 (show∀xs w,(callFunc 398 xs).run En.P w= .ok (.enter 398 xs) w from enters_of Tryz.func398 (by kernel_rfl) rfl) fun c us hg hus hw=> ?_
 simp only [rdT,rd] at hus
 obtain ⟨u0,c2,rfl,⟨rfl,l0⟩,rfl⟩:=hus
 have h0:0≤x_∧x_≤18446744073709551615:=l0
 refine (show Calls En.P 398 #[.int .u64 x_] c.w _ from Tryz.bits_Len64 x_ c.w h0.1 h0.2).mono ?_
 rintro e w' ⟨rfl,rfl⟩
 refine ⟨_,rfl,Below.refl _ _,fun c'=> ?_⟩
 have hl:=Lib.bitLen_le x_.toNat 64 (by decide) (by omega)
 simp only [rd]
 refine ⟨rfl,show (-9223372036854775808:Int)≤(Lib.bitLen x_.toNat:Int)∧(Lib.bitLen x_.toNat:Int)≤9223372036854775807 from ?_⟩
 constructor<;>omega
instance MP (x_:Int):CM En (qW x_) 398 [.int .u64 x_] (fun y=> .int .i64 y) (fun _=> []):=⟨Hk x_⟩
end Go.Proofs.YtcbbjfckokckcaaGreatDoor
namespace Go.Proofs.YtcbbjfckokckcaaGreatDoor
open Go.RowKit Go.Shelf Go.Lib
def mH:List UInt8:=[48,49,50,51,52,53,54,55,56,57,97,98,99,100,101,102]
set_option maxHeartbeats 1000000 in
set_option maxRecDepth 100000 in
theorem Hl (b:Nat) (w:World) (h0:w.cell? ⟨b,0,none⟩=some (.pointer (some ⟨b,0,none⟩))):
  Calls Tryz.prog 309 #[.pointer (some ⟨b,0,none⟩)] w fun e w'=>e= .returned (.tuple #[])∧w'=w:=by
 obtain ⟨j,hj,_⟩:=Option.map_eq_some_iff.1 (show (Tryz.prog.info? 284).map (·.size)=some 2 by kernel_rfl)
 go_enter Tryz.func309,Tryz.ntmps309
 go_wp2
 rw [Lib.run_neq_ptr_same w _ Tryz.underlying282 hj]
 go_wp2
 go_end0
 exact ⟨rfl,rfl⟩
set_option maxHeartbeats 1000000 in
set_option maxRecDepth 100000 in
theorem Hm (b:Nat) (w:World) (h0:w.cell? ⟨b,0,none⟩=some (.pointer none)) (hsh:w.shape? b=some (284,2)) (hfz:w.frozen? ⟨b,0,none⟩=false):
  Calls Tryz.prog 309 #[.pointer (some ⟨b,0,none⟩)] w fun e w'=>e= .returned (.tuple #[])∧w'=w.setCell ⟨b,0,none⟩ (.pointer (some ⟨b,0,none⟩)):=by
 obtain ⟨j,hj,hjs⟩:=Option.map_eq_some_iff.1 (show (Tryz.prog.info? 284).map (·.size)=some 2 by kernel_rfl)
 have hl:liesAt Tryz.prog Tryz.prog.depth 284 (2/Tryz.prog.cellsOf 284) 0 284 1=true:=by kernel_rfl
 go_enter Tryz.func309,Tryz.ntmps309
 go_wp2
 rw [Lib.run_to_unsafe w ⟨b,0,none⟩ Tryz.underlying282 Tryz.underlying370 hj (by rw [hjs];decide) hsh (Nat.zero_lt_succ 1)]
 simp only [Result.andThen]
 rw [Oper.upon_value]
 go_wp2
 rw [run_callFunc_extern Tryz.func359 (by kernel_rfl) (by kernel_rfl) (by kernel_rfl) (e:=Extern.AbiNoEscape.same) (by kernel_rfl)]
 rw [Lib.run_noEscape]
 simp only [Result.andThen]
 rw [Oper.upon_value]
 go_wp2
 rw [Lib.run_from_unsafe w ⟨b,0,none⟩ Tryz.underlying370 Tryz.underlying282 hj hsh hl]
 simp only [Result.andThen]
 rw [Oper.upon_value]
 go_wp2
 go_end0
 exact ⟨rfl,rfl⟩
theorem Hn (B b:Nat) (bs:List Value) (w:World) (h:Lib.IsBuilderF 284 5 B b bs w):
  Calls Tryz.prog 309 #[.pointer (some ⟨b,0,none⟩)] w fun e w'=>e= .returned (.tuple #[])∧Lib.BuilderAtF 284 5 B b (.pointer (some ⟨b,0,none⟩)) bs w'∧Below B w w':=by
 rcases h with h|h
 ·refine (Hm b w h.cell0 h.shape h.frozen0).mono ?_
  rintro e w' ⟨rfl,rfl⟩
  exact ⟨rfl,h.used _,(Below.refl B w).setCell (p:=⟨b,0,none⟩) h.1 _⟩
 ·refine (Hl b w h.cell0).mono ?_
  rintro e w' ⟨rfl,rfl⟩
  exact ⟨rfl,h,Below.refl B _⟩
set_option maxHeartbeats 2000000 in
set_option maxRecDepth 100000 in
theorem z7 (B b:Nat) (bs:List Value) (c:Int) (w:World) (h:Lib.IsBuilderF 284 5 B b bs w) (hlen:bs.length+1≤140737488355328) (hBw:B≤w.heap.size):
  Calls Tryz.prog 249 #[.pointer (some ⟨b,0,none⟩),.int .u8 c] w fun e w'=>e= .returned .nilIface∧Lib.BuilderAtF 284 5 B b (.pointer (some ⟨b,0,none⟩)) (bs++[.int .u8 c]) w'∧Below B w w':=by
 obtain ⟨i0,hi,hz0,hz1,hz2⟩:=info_parts (show (Tryz.prog.info? 5).map (fun i=>(i.zero,i.size,i.bytes))=some (some (.int .u8 0),1,1) by kernel_rfl)
 have eM: ∀args w,(callFunc 309 args).run Tryz.prog w= .ok (.enter 309 args) w:=enters_of Tryz.func309 (by kernel_rfl) rfl
 go_enter Tryz.func249,Tryz.ntmps249
 go_wp2_with (go_at_call 309;refine (Hn B b bs _ h).mono ?_)
 rintro e w1 ⟨rfl,h1,hb1⟩
 obtain ⟨hB,v,hbk,hown,hne⟩:=h1
 have c0:w1.cell? ⟨b,0,none⟩=some (.pointer (some ⟨b,0,none⟩)):=by rw [Lib.cell_of_heap hbk];rfl
 have c1:w1.cell? ⟨b,1,none⟩=some v:=by rw [Lib.cell_of_heap hbk];rfl
 go_wp2_with (at_builtin;refine wpList_append_ownF _ rfl _ _ 99 rfl B 5 i0 (.int .u8 0) 1 1 Tryz.underlying99 hi hz0 hz1 hz2 rfl (by decide) _ _ _ rfl (hown.alloc _) ⟨w1.heap.size,0,none⟩ 1 1 [.int .u8 c] rfl rfl ?c1 ?c2 ?c3 ?c4 ?c5 ?_)
 case c1=>
  intro j u hj
  match j,hj with
  | 0,hj=>simp at hj;subst hj;simp [Addr.add]
 case c2=>intro u hu;simp at hu;subst hu;rfl
 case c3=>unfold maxLen;omega
 case c4=>omega
 case c5=>have:=hb1.size;simp;omega
 intro v' w2 hown' hgrow _
 have hlt:b<w1.heap.size:=by
  rcases Nat.lt_or_ge b w1.heap.size with h'|h'
  ·exact h'
  ·simp [Array.getElem?_eq_none h'] at hbk
 have hb2:w2.heap[b]? =some (.cells #[.pointer (some ⟨b,0,none⟩),v] 284 (0,0)):=by
  rw [hgrow.block b (by simp;omega) (fun e=>hne e.symm),Lib.alloc_old w1 _ b hlt]
  exact hbk
 have d0:w2.cell? ⟨b,0,none⟩=some (.pointer (some ⟨b,0,none⟩)):=by rw [Lib.cell_of_heap hb2];rfl
 have d1:w2.cell? ⟨b,1,none⟩=some v:=by rw [Lib.cell_of_heap hb2];rfl
 have f1:w2.frozen? ⟨b,1,none⟩=false:=Lib.frozen_of_heap hb2 1
 obtain ⟨g,cap,rfl⟩: ∃g cap,v'= .slice (some ⟨g,0,none⟩) (bs.length+1) cap:=by
  rcases hown'.2 with ⟨_,h0⟩|⟨g,cap,cur,fz,hv,_⟩
  ·omega
  ·exact ⟨g,cap,hv⟩
 go_wp2
 go_ret
 refine ⟨rfl,?_,?_⟩
 ·exact Lib.BuilderAtF.put (T:=284) (e:=5) hB hb2 (bs':=bs++[.int .u8 c]) (by simpa using hown') (by decide)
 ·exact ((hb1.alloc (by have:=hb1.size;omega) _).grown hgrow (by have:=hb1.size;simp;omega) (fun k hk=>(hown.lt k hk).1)).setCell (p:=⟨b,1,none⟩) hB _
def il (a:Nat→Int):Nat→List UInt8
 | 0=> []
 | k+1=>il a k++[mH.getD (a k/16).toNat 0,mH.getD (a k% 16).toNat 0]
theorem qX (a:Nat→Int): ∀k,(il a k).length=2*k
 | 0=>rfl
 | k+1=>by simp [il,qX a k];omega
end Go.Proofs.YtcbbjfckokckcaaGreatDoor
namespace Go.Proofs.YtcbbjfckokckcaaGreatDoor
open Go.RowKit Go.Shelf Go.Lib
section
variable {P:Program} {ops:Array Oper} {rest:List Oper} {o:Oper} {a:Act} {Q:Exit→Act→World→Prop} {w:World}
theorem Ho {t:TypeId} {b:Nat} {cs:List Value} {T:TypeId} {fr:Nat×Nat} (ht: ∀w,(isAgg t).run P w= .ok true w) (hz: ∀w,(sizeOf t).run P w= .ok cs.length w) (hb:w.heap[b]? =some (.cells cs.toArray T fr)):
  (loadVar t ⟨b,0,none⟩).run P w= .ok (.agg cs.toArray) w:=by
 have hc: ∀j v,cs[j]? =some v→w.cell? ((⟨b,0,none⟩:Addr).add j)=some v:=fun j v hj=>by
  have e:(⟨b,0,none⟩:Addr).add j=⟨b,j,none⟩:=by unfold Addr.add;split<;>simp_all
  rw [e]
  simp [World.cell?,hb,hj]
 have h:=run_loadCells_list (P:=P) w ⟨b,0,none⟩ cs hc
 simp [loadVar,ht,hz,h]
theorem Hp (hgd:o.guard=none) (t:TypeId) (x:Operand) (ho:o.op= .load t x) {ad:Addr} {v:Value} (hx:a.eval x= .pointer (some ad)) (hr:(loadVar t ad).run P w= .ok v w) (h:wpList P ops Q rest (a.put o.dst v) w):wpList P ops Q (o::rest) a w:=by
 refine wpList_plain hgd fun K hK=> ?_
 unfold Oper.wp execOp
 simp only [ho,Instr.loadAt,hx,Instr.sureAddr,Sem.run_bind,Sem.run_pure,Result.andThen_ok,hr]
 exact hK _ _ h
theorem Hq (hgd:o.guard=none) (t:TypeId) (x y:Operand) (ho:o.op= .index t x y) {cs:List Value} {k n:Nat} {e:TypeId} {u:Value} (hx:a.eval x= .agg cs.toArray) (hy:a.eval y= .int .i64 k) (hu:P.underlying t=some (.array n e)) (hk:k<n)
  (hg: ∀w,(isAgg e).run P w= .ok false w) (hz: ∀w,(sizeOf e).run P w= .ok 1 w) (hc:cs[k]? =some u) (h:wpList P ops Q rest (a.put o.dst u) w):wpList P ops Q (o::rest) a w:=by
 refine wpList_plain hgd fun K hK=> ?_
 have hru:(underlying t).run P w= .ok (.array n e) w:=by simp [underlying,hu]
 have hr:(Instr.index t (.agg cs.toArray) (.int .i64 k)).run P w= .ok u w:=by
  simp [Instr.index,asIntOf,hru,hz,hk,Go.part,hg,hc]
 unfold Oper.wp execOp
 simp only [ho,hx,hy,Sem.run_bind,Sem.run_pure,Result.andThen_ok,hr]
 exact hK _ _ h
end
theorem Hr (B b:Nat) (l:List UInt8) (w:World) (h:Lib.IsBuilderF 284 5 B b (Lib.byteCells l) w) (hBw:B≤w.heap.size):
  Calls Tryz.prog 250 #[.pointer (some ⟨b,0,none⟩)] w fun e w'=>e= .returned (.string ⟨l.toArray⟩)∧(Lib.IsBuilderF 284 5 B b (Lib.byteCells l) w'∧Below B w w'∧Lib.OthersKept 5 (some b) w w'):=
 Any.Builder_String_any_k Tryz.lays169 Tryz.Builder_Extra_169 B b l w h hBw
theorem Ht: ∀i:Fin 16,(⟨#[48,49,50,51,52,53,54,55,56,57,97,98,99,100,101,102]⟩:ByteArray)[i.val]'(show i.val<16 from i.isLt)=mH.getD i.val 0:=by decide
theorem z8 (n:Nat) (h:n<(⟨#[48,49,50,51,52,53,54,55,56,57,97,98,99,100,101,102]⟩:ByteArray).size):(⟨#[48,49,50,51,52,53,54,55,56,57,97,98,99,100,101,102]⟩:ByteArray)[n]'h=mH.getD n 0:=Ht ⟨n,h⟩
theorem Hu (a:Nat→Int) (k:Nat):Lib.byteCells (il a (k+1))=Lib.byteCells (il a k)++[.int .u8 (mH.getD (a k/16).toNat 0).toNat]++[.int .u8 (mH.getD (a k% 16).toNat 0).toNat]:=by
 rw [il,Lib.byteCells_append,List.append_assoc];rfl
set_option maxHeartbeats 4000000 in
set_option maxRecDepth 100000 in
theorem Hv (a:Nat→Int) (cs:List Value) (hn:cs.length=32) (ha: ∀k,k<32→cs[k]? =some (.int .u8 (a k))∧0≤a k∧a k≤255) (w:World):
  Calls Tryz.prog 190 #[.agg cs.toArray] w fun e w'=>e= .returned (.string ⟨(il a 32).toArray⟩)∧Below w.heap.size w w':=by
 have hz: ∀w,(sizeOf 28).run Tryz.prog w= .ok cs.length w:=by rw [hn];exact Tryz.sizeOf28
 go_enter Tryz.func190,Tryz.ntmps190
 go_wp2_with (refine Hp rfl 28 (.tmp 1) rfl (ad:=⟨w.heap.size,0,none⟩) (v:= .agg cs.toArray) rfl (Ho (T:=28) (fr:=(0,0)) Tryz.isAgg28 hz (by rw [Lib.alloc_old _ _ _ (by simp)];exact heap_alloc_new w _)) ?_)
 go_loopw [7] (fun i wr=> ∃k:Nat,k≤32∧i= .int .i64 k∧Lib.IsBuilderF 284 5 (w.heap.size+1) (w.heap.size+1) (Lib.byteCells (il a k)) wr∧Below w.heap.size w wr∧w.heap.size+1≤wr.heap.size) (fun i _=>32 - (Go.RowKit.intOf i).toNat)
 case atStart=>
  have hs:(w.alloc (.cells cs.toArray 28)).heap.size=w.heap.size+1:=by simp
  have hb:=Lib.IsBuilderF.of (Lib.fresh_isBuilder 284 5 (w.alloc (.cells cs.toArray 28)))
  rw [hs] at hb
  exact ⟨0,by omega,rfl,hb,((Below.refl _ w).alloc (Nat.le_refl _) _).alloc (by simp) _,by simp⟩
 case round=>
  obtain ⟨k,hk,rfl,hI,hbw,hsz⟩:=hrel
  by_cases hlt:k<32
  ·obtain ⟨h1,h2,h3⟩:=ha k hlt
   have hlen:=qX a k
   have hq:(k:Int)<32:=by omega
   go_wp2_with (first|(refine Hq rfl 28 (.tmp 6) (.tmp 7) rfl (cs:=cs) (k:=k) (n:=32) (e:=5) rfl rfl Tryz.underlying28 hlt Tryz.isAgg5 Tryz.sizeOf5 h1 ?_)|(go_at_call 249;refine (z7 _ _ _ _ _ hI (by rw [Lib.byteCells_length,hlen];omega) hsz).mono ?_))
   rintro e W1 ⟨rfl,hA,hB1⟩
   have hs1:w.heap.size+1≤W1.heap.size:=Nat.le_trans hsz hB1.size
   have hl1: ∀x:Value,(Lib.byteCells (il a k)++[x]).length=2*k+1:=fun x=>by rw [List.length_append,Lib.byteCells_length,hlen];rfl
   go_wp2_with (go_at_call 249;refine (z7 _ _ _ _ _ (Or.inr hA) (by rw [hl1];omega) hs1).mono ?_)
   rintro e W2 ⟨rfl,hA2,hB2⟩
   rw [z8,z8,←Hu] at hA2
   go_wp2
   go_roundw
   case rel=>exact ⟨k+1,by omega,rfl,Or.inr hA2,(hbw.trans (hB1.mono (by omega))).trans (hB2.mono (by omega)),Nat.le_trans hs1 hB2.size⟩
   case measure=>simp [Go.RowKit.intOf];omega
  ·have hk32:k=32:=by omega
   have hq: ¬(k:Int)<32:=by omega
   go_wp2_with (go_at_call 250;refine (Hr _ _ _ _ hI hsz).mono ?_;rintro e W1 ⟨rfl,_,hB1,_⟩)
   go_ret
   subst hk32
   exact ⟨rfl,hbw.trans (hB1.mono (by omega))⟩
def od (h:List Int):List UInt8:=il (fun k=>gt h (k:Int)) 32
theorem Aa {ρ:Ro} {c:Cx} {f:Nat→Int}: ∀{l:List Nat} {cs:List Value},rdC ρ c (l.map fun k=>V.int .u8 (f k)) cs→cs=l.map (fun k=>Value.int .u8 (f k))∧ ∀k∈l,0≤f k∧f k≤255
 | [],cs,h=>⟨h,fun k hk=>by cases hk⟩
 | a::l,cs,h=>by
  obtain ⟨u,c2,rfl,_,hu,hr⟩:=h
  simp only [rd,za] at hu
  obtain ⟨rfl,hu⟩:=hu
  obtain ⟨rfl,hl⟩:=Aa hr
  refine ⟨rfl,fun k hk=> ?_⟩
  rcases List.mem_cons.1 hk with rfl|hk
  ·exact hu
  ·exact hl k hk
theorem Hw (h:List Int):bk En 190 [aI h] (.str (od h)) []:=by
 refine z6 (show∀xs w,(callFunc 190 xs).run En.P w= .ok (.enter 190 xs) w from enters_of Tryz.func190 (by kernel_rfl) rfl) fun c us hg hus hw=> ?_
 rw [show aI h=V.agg ((List.range 32).map fun k:Nat=>V.int .u8 (gt h (k:Int))) by kernel_rfl] at hus
 simp only [rdT] at hus
 obtain ⟨u0,c2,rfl,hu,rfl⟩:=hus
 simp only [rd] at hu
 obtain ⟨cs,rfl,hcs⟩:=hu
 obtain ⟨rfl,hr⟩:=Aa (f:=fun k=>gt h (k:Int)) hcs
 refine (show Calls En.P 190 #[.agg _] c.w _ from Hv (fun k=>gt h (k:Int)) _ (by simp) (fun k hk=>⟨by simp [hk],hr k (List.mem_range.2 hk)⟩) c.w).mono ?_
 rintro e w' ⟨rfl,hB⟩
 refine ⟨_,rfl,hB,fun c'=> ?_⟩
 simp only [rd]
 exact ⟨rfl,by unfold od LEN;rw [qX];decide⟩
instance MQ (h:List Int):CM En (od h) 190 [aI h] (fun y=> .str y) (fun _=> []):=⟨Hw h⟩
end Go.Proofs.YtcbbjfckokckcaaGreatDoor
namespace Go.Proofs.YtcbbjfckokckcaaGreatDoor
open Go.RowKit
def im (v:bO):Bool:=
 (if (decide (v.Amount≥1)) then (if (decide (v.Amount≤1099511627776)) then (if (decide (v.Time≥0)) then (if (decide (v.Time≤1099511627776)) then (if (decide (v.Number≥0)) then (decide (v.Number≤1073741824)) else false) else false) else false) else false) else false)
def mI (n_:Int):ak:=
 ({Kind:=1,N:=n_,B:=([]:List Int),L:=([]:List ak)}:ak)
def lh (x_:ak) (c0:Int):Bool:=
 (ab (fM x_ (c0 - 1)) (fun (x2:Bool)=>(!x2)))
def qY (s:(List ak)) (f__c0:Int):Int:=
 (am (((s.length:Int) - 0).toNat+1) (fun (ag1:Int→Int) (p1:Int)=>(if (decide (p1<(s.length:Int))) then (ab (lh (gt s p1) f__c0) (fun (x5:Bool)=>(if x5 then p1 else (ag1 (p1+1))))) else (-1))) (fun _=>default) 0)
def mJ (s:(List ak)) (f__c0:Int):Bool:=
 (ab (qY s f__c0) (fun (x1:Int)=>(decide (x1≥0))))
def og (i_:ak) (depth:Int):Bool:=
 (if (i_.Kind==1) then (if ((i_.B.length:Int)==0) then ((i_.L.length:Int)==0) else false) else (if (i_.Kind==2) then (if (i_.N==0) then ((i_.L.length:Int)==0) else false) else (if (i_.Kind==3) then (if (i_.N==0) then (if ((i_.B.length:Int)==0) then (if (decide (depth>0)) then (if (decide ((i_.L.length:Int)≤1000)) then (ab (mJ (i_.L) depth) (fun (x23:Bool)=>(!x23))) else false) else false) else false) else false) else false)))
def mK (i_:ak):Bool:=
 (ab (fM i_ 8) (fun (x1:Bool)=>x1))
def i4 (out:(List Int)) (n_:Int) (size:Int):(List Int):=
 (am (((size - 1)+1).toNat+1) (fun (ag2:(Int×List Int)→(List Int)) (p2:Int×List Int)=>(if (decide (p2.1≥0)) then (ag2 ((p2.1 - 1),(p2.2++([(ae .u8 (ay .u64 n_ (8*p2.1)))]:List Int)))) else p2.2)) (fun _=>default) ((size - 1),out))
def oh (out:(List Int)) (i_:ak):(List Int):=
 (if (decide ((out.length:Int)>16384)) then out else (if (i_.Kind==1) then (ab (i4 (out++([(ae .u8 i_.Kind)]:List Int)) (ae .u64 i_.N) 8) (fun (x6:(List Int))=>x6)) else (if (i_.Kind==2) then (ab (i4 (out++([(ae .u8 i_.Kind)]:List Int)) (ae .u64 (i_.B.length:Int)) 4) (fun (x13:(List Int))=>(x13++i_.B))) else (ab (i4 (out++([(ae .u8 i_.Kind)]:List Int)) (ae .u64 (i_.L.length:Int)) 4) (fun (x17:(List Int))=>(am (((i_.L.length:Int) - 0).toNat+1) (fun (ag21:(Int×List Int)→(List Int)) (p21:Int×List Int)=>(if (decide (p21.1<(i_.L.length:Int))) then (ab (fO (p21.2) (gt i_.L p21.1)) (fun (x25:(List Int))=>(ag21 ((p21.1+1),x25)))) else p21.2)) (fun _=>default) (0,x17)))))))
def fP (i_:ak):((List Int)×Int):=
 (ab (mK i_) (fun (x1:Bool)=>(if (!x1) then (([]:List Int),1) else (ab (fO ([]:List Int) i_) (fun (x7:(List Int))=>(if (decide ((x7.length:Int)>16384)) then (([]:List Int),5) else (x7,0)))))))
def mL (v:bO):((List Int)×Int):=
 (ab (im v) (fun (x1:Bool)=>(if (!x1) then (([]:List Int),1) else (ab (mI (v.Amount)) (fun (x7:ak)=>(ab (mI (v.Time)) (fun (x10:ak)=>(ab (mI (v.Number)) (fun (x13:ak)=>(ab (fP ({Kind:=3,N:=0,B:=([]:List Int),L:=([({Kind:=2,N:=0,B:=(bc 32 v.Payee),L:=([]:List ak)}:ak),x7,x10,x13]:List ak)}:ak)) (fun (x16:((List Int)×Int))=>(x16.1,x16.2))))))))))))
def eP (r_:aN) (e_:Int):aN:=
 (if (r_.e==0) then ({b:=r_.b,e:=e_}:aN) else r_)
def io (r_:aN) (n_:Int):((List Int)×aN):=
 (if (r_.e !=0) then (ab (eP r_ 4) (fun (x10:aN)=>(([]:List Int),x10))) else (if (decide (n_>(r_.b.length:Int))) then (ab (eP r_ 4) (fun (x5:aN)=>(([]:List Int),x5))) else ((sl r_.b 0 n_),({b:=(sl r_.b n_ (r_.b.length:Int)),e:=r_.e}:aN))))
def ff (r_:aN) (size:Int):(Int×aN):=
 (ab (io r_ size) (fun (x1:((List Int)×aN))=>(am (((x1.1.length:Int) - 0).toNat+1) (fun (ag4:(Int×Int)→(Int×aN)) (p4:Int×Int)=>(if (decide (p4.2<(x1.1.length:Int))) then (ag4 ((orI .u64 (aA .u64 p4.1 8) (ae .u64 (gt x1.1 p4.2))),(p4.2+1))) else (p4.1,x1.2))) (fun _=>default) (0,0))))
def mM (s:List Int):List Int:=s
def ip (r_:aN) (depth:Int):(ak×aN):=
 (ab (ff r_ 1) (fun (x1:(Int×aN))=>(jJ (fun (p6:Unit)=>(if ((ae .i64 x1.1)==1) then (ab (ff (x1.2) 8) (fun (x9:(Int×aN))=>(({Kind:=(ae .i64 x1.1),N:=(ae .i64 x9.1),B:=([]:List Int),L:=([]:List ak)}:ak),x9.2))) else (if ((ae .i64 x1.1)==2) then (ab (ff (x1.2) 4) (fun (x17:(Int×aN))=>(ab (io (x17.2) (ae .i64 x17.1)) (fun (x22:((List Int)×aN))=>(ab (mM (x22.1)) (fun (x26:(List Int))=>(({Kind:=(ae .i64 x1.1),N:=0,B:=x26,L:=([]:List ak)}:ak),x22.2))))))) else (if ((ae .i64 x1.1)==3) then (ab (ff (x1.2) 4) (fun (x33:(Int×aN))=>(jJ (fun (p38:aN)=>(am (((ae .i64 x33.1) - 0).toNat+1) (fun (ag39:(Int×aN×List ak)→(ak×aN)) (p39:Int×aN×List ak)=>(if (decide (p39.1<(ae .i64 x33.1))) then (if (p39.2.1.e !=0) then (({Kind:=(ae .i64 x1.1),N:=0,B:=([]:List Int),L:=p39.2.2}:ak),p39.2.1) else (ab (cE (p39.2.1) (depth - 1)) (fun (x46:(ak×aN))=>(ag39 ((p39.1+1),x46.2,(p39.2.2++([x46.1]:List ak))))))) else (({Kind:=(ae .i64 x1.1),N:=0,B:=([]:List Int),L:=p39.2.2}:ak),p39.2.1))) (fun _=>default) (0,p38,([]:List ak)))) (fun j38=>(if (decide ((ae .i64 x33.1)>1000)) then (ab (eP (x33.2) 3) (fun (x52:aN)=>(j38 x52))) else (j38 x33.2)))))) else (({Kind:=(ae .i64 x1.1),N:=0,B:=([]:List Int),L:=([]:List ak)}:ak),x1.2))))) (fun j6=>(if (decide ((ae .i64 x1.1)<1)) then (ab (eP (x1.2) 3) (fun (x81:aN)=>(dG,x81))) else (if (decide ((ae .i64 x1.1)>3)) then (ab (eP (x1.2) 3) (fun (x75:aN)=>(dG,x75))) else (if ((ae .i64 x1.1)==3) then (if (depth==0) then (ab (eP (x1.2) 3) (fun (x67:aN)=>(dG,x67))) else (j6 ())) else (j6 ()))))))))
def u5 (b:(List Int)):(ak×Int):=
 (if (decide ((b.length:Int)>16384)) then (dG,5) else (ab (cE ({b:=b,e:=0}:aN) 8) (fun (x4:(ak×aN))=>(jJ (fun (p7:aN)=>(if (p7.e !=0) then (dG,p7.e) else (x4.1,0))) (fun j7=>(if (decide ((x4.2.b.length:Int)>0)) then (ab (eP (x4.2) 3) (fun (x13:aN)=>(j7 x13))) else (j7 x4.2)))))))
def mN (i_:ak):((List Int)×Int):=
 (ab (mK i_) (fun (x1:Bool)=>(if (!x1) then (([]:List Int),1) else (if (i_.Kind !=3) then (([]:List Int),3) else (am (((i_.L.length:Int) - 0).toNat+1) (fun (ag10:(Int×List Int)→((List Int)×Int)) (p10:Int×List Int)=>(if (decide (p10.1<(i_.L.length:Int))) then (if ((gt i_.L p10.1).Kind !=1) then (([]:List Int),3) else (ag10 ((p10.1+1),(p10.2++([(gt i_.L p10.1).N]:List Int))))) else (p10.2,0))) (fun _=>default) (0,([]:List Int)))))))
def u6 (x_:(List Int)):(bO×Int):=
 (ab (u5 x_) (fun (x1:(ak×Int))=>(if (x1.2 !=0) then (eJ,3) else (if (x1.1.Kind !=3) then (eJ,3) else (if ((x1.1.L.length:Int) !=4) then (eJ,3) else (if ((gt x1.1.L 0).Kind !=2) then (eJ,3) else (if (((gt x1.1.L 0).B.length:Int) !=32) then (eJ,3) else (ab (mN ({Kind:=3,N:=0,B:=([]:List Int),L:=(sl x1.1.L 1 (x1.1.L.length:Int))}:ak)) (fun (x16:((List Int)×Int))=>(if (x16.2 !=0) then (eJ,3) else (ab (im ({Payee:=(bc 32 (gt x1.1.L 0).B),Amount:=(gt x16.1 0),Time:=(gt x16.1 1),Number:=(gt x16.1 2)}:bO)) (fun (x27:Bool)=>(if (!x27) then (eJ,3) else (({Payee:=(bc 32 (gt x1.1.L 0).B),Amount:=(gt x16.1 0),Time:=(gt x16.1 1),Number:=(gt x16.1 2)}:bO),0))))))))))))))
def qZ:Bool:=
 (ab (mL ({Payee:=[0,0,0,0,0,0,0,0,0,0,0,0,0,0,0,0,0,0,0,0,0,0,0,0,0,0,0,0,0,0,0,0],Amount:=5,Time:=7,Number:=9}:bO)) (fun (x1:((List Int)×Int))=>(ab (u6 (x1.1)) (fun (x4:(bO×Int))=>(if (x1.2==0) then (if ((x1.1.length:Int)==69) then (if (x4.2==0) then (zJ (x4.1) ({Payee:=[0,0,0,0,0,0,0,0,0,0,0,0,0,0,0,0,0,0,0,0,0,0,0,0,0,0,0,0,0,0,0,0],Amount:=5,Time:=7,Number:=9}:bO)) else false) else false) else false)))))
def iq (s:aO):Bool:=
 (if (decide ((s.Leaves.length:Int)>40)) then true else (decide ((s.Path.L.length:Int)>20)))
def q5 (s:(List aO)):Int:=
 (am (((s.length:Int) - 0).toNat+1) (fun (ag1:Int→Int) (p1:Int)=>(if (decide (p1<(s.length:Int))) then (ab (iq (gt s p1)) (fun (x5:Bool)=>(if x5 then p1 else (ag1 (p1+1))))) else (-1))) (fun _=>default) 0)
def mO (s:(List aO)):Bool:=
 (ab (q5 s) (fun (x1:Int)=>(decide (x1≥0))))
def li (h_:bX):Bool:=
 (if (decide ((h_.L.length:Int)>12)) then true else (ab (iq (h_.First)) (fun (x3:Bool)=>(if x3 then true else (ab (mO (h_.L)) (fun (x7:Bool)=>x7))))))
def mP (x_:cW):Bool:=
 (if (decide ((x_.Proof.A.length:Int)>30)) then true else (decide ((x_.Proof.Z.length:Int)>30)))
def q6 (s:(List bX)):Int:=
 (am (((s.length:Int) - 0).toNat+1) (fun (ag1:Int→Int) (p1:Int)=>(if (decide (p1<(s.length:Int))) then (ab (li (gt s p1)) (fun (x5:Bool)=>(if x5 then p1 else (ag1 (p1+1))))) else (-1))) (fun _=>default) 0)
def oi (s:(List bX)):Bool:=
 (ab (q6 s) (fun (x1:Int)=>(decide (x1≥0))))
def q7 (s:(List cW)):Int:=
 (am (((s.length:Int) - 0).toNat+1) (fun (ag1:Int→Int) (p1:Int)=>(if (decide (p1<(s.length:Int))) then (ab (mP (gt s p1)) (fun (x5:Bool)=>(if x5 then p1 else (ag1 (p1+1))))) else (-1))) (fun _=>default) 0)
def ol (s:(List cW)):Bool:=
 (ab (q7 s) (fun (x1:Int)=>(decide (x1≥0))))
def jX (p_:bR):Bool:=
 (if (decide ((p_.Spends.length:Int)>60)) then true else (if (decide ((p_.Chains.length:Int)>10)) then true else (if (decide ((p_.Escrow.length:Int)>60)) then true else (ab (mO (p_.Spends)) (fun (x7:Bool)=>(if x7 then true else (ab (oi (p_.Chains)) (fun (x11:Bool)=>(if x11 then true else (ab (ol (p_.Escrow)) (fun (x15:Bool)=>x15)))))))))))
def om (x_:Int) (low:Int) (high:Int):Bool:=
 (if (decide (x_≥low)) then (decide (x_≤high)) else false)
def u7 (bank:Int) (epoch:Int) (from_:Int) (until_:Int) (final:Int):Bool:=
 (ab (om bank 0 7) (fun (x1:Bool)=>(if x1 then (ab (om epoch 0 1000000) (fun (x5:Bool)=>(if x5 then (if (decide (from_≥0)) then (if (decide (from_<until_)) then (if (decide (until_≤final)) then (decide (final≤1099511627776)) else false) else false) else false) else false))) else false)))
def gE (d_:dH):Bool:=
 (if (mD d_ jO) then true else (if (decide (d_.Value≥1)) then (if (decide (d_.Value≤1099511627776)) then (if (decide (d_.Depth≥0)) then (if (decide (d_.Depth≤5)) then ((cj .i64 d_.Value (aA .i64 1 d_.Depth))==0) else false) else false) else false) else false))
def i5 (l:(List dH)):Bool:=
 (if (decide ((l.length:Int)<1)) then false else (if (decide ((l.length:Int)>16)) then false else (am (((l.length:Int) - 0).toNat+1) (fun (ag6:Int→Bool) (p6:Int)=>(if (decide (p6<(l.length:Int))) then (ab (gE (gt l p6)) (fun (x10:Bool)=>(if (!x10) then false else (if (decide (p6>0)) then (if (decide ((gt l p6).Value<(gt l (p6 - 1)).Value)) then false else (if ((gt l p6).Value==(gt l (p6 - 1)).Value) then (if (decide ((gt l p6).Depth≤(gt l (p6 - 1)).Depth)) then false else (ag6 (p6+1))) else (ag6 (p6+1)))) else (ag6 (p6+1)))))) else true)) (fun _=>default) 0)))
def oo (x_:Int):Int:=
 (if (x_==0) then 64 else (ae .i64 (gt jH (ay .u64 (aR .u64 (bF .u64 x_ (jk .u64 x_)) 285870213051353865) 58))))
def jY (x_:Int) (y:Int):(Int×Int):=
 ((ax .u64 (ax .u64 (aR .u64 (ay .u64 x_ 32) (ay .u64 y 32)) (ay .u64 (ax .u64 (aR .u64 (ay .u64 x_ 32) (bF .u64 y 4294967295)) (ay .u64 (aR .u64 (bF .u64 x_ 4294967295) (bF .u64 y 4294967295)) 32)) 32)) (ay .u64 (ax .u64 (bF .u64 (ax .u64 (aR .u64 (ay .u64 x_ 32) (bF .u64 y 4294967295)) (ay .u64 (aR .u64 (bF .u64 x_ 4294967295) (bF .u64 y 4294967295)) 32)) 4294967295) (aR .u64 (bF .u64 x_ 4294967295) (ay .u64 y 32))) 32)),(aR .u64 x_ y))
def lj (x_:Int):Int:=
 (ab (qW x_) (fun (x1:Int)=>(aG .i64 64 x1)))
def mQ (hi:Int) (lo:Int) (y:Int):(Int×Int):=
 (if (y==0) then (default:(Int×Int)) else (if (decide (y≤hi)) then (default:(Int×Int)) else (if (hi==0) then ((cD .u64 lo y),(cj .u64 lo y)) else (ab (lj y) (fun (x10:Int)=>(jJ (fun (p14:Int)=>(jJ (fun (p15:Int)=>((ax .u64 (aR .u64 p14 4294967296) p15),(ay .u64 (aG .u64 (ax .u64 (aR .u64 (aG .u64 (ax .u64 (aR .u64 (orI .u64 (aA .u64 hi (ae .u64 x10)) (ay .u64 lo (aG .u64 64 (ae .u64 x10)))) 4294967296) (ay .u64 (aA .u64 lo (ae .u64 x10)) 32)) (aR .u64 p14 (aA .u64 y (ae .u64 x10)))) 4294967296) (bF .u64 (aA .u64 lo (ae .u64 x10)) 4294967295)) (aR .u64 p15 (aA .u64 y (ae .u64 x10)))) (ae .u64 x10)))) (fun j15=>(am ((4294967296 - (aG .u64 (aG .u64 (ax .u64 (aR .u64 (orI .u64 (aA .u64 hi (ae .u64 x10)) (ay .u64 lo (aG .u64 64 (ae .u64 x10)))) 4294967296) (ay .u64 (aA .u64 lo (ae .u64 x10)) 32)) (aR .u64 p14 (aA .u64 y (ae .u64 x10)))) (aR .u64 (cD .u64 (aG .u64 (ax .u64 (aR .u64 (orI .u64 (aA .u64 hi (ae .u64 x10)) (ay .u64 lo (aG .u64 64 (ae .u64 x10)))) 4294967296) (ay .u64 (aA .u64 lo (ae .u64 x10)) 32)) (aR .u64 p14 (aA .u64 y (ae .u64 x10)))) (ay .u64 (aA .u64 y (ae .u64 x10)) 32)) (ay .u64 (aA .u64 y (ae .u64 x10)) 32)))).toNat+1) (fun (ag16:(Int×Int)→(Int×Int)) (p16:Int×Int)=>(if (decide (p16.2≥4294967296)) then (if (decide ((ax .u64 p16.1 (ay .u64 (aA .u64 y (ae .u64 x10)) 32))≥4294967296)) then (j15 (aG .u64 p16.2 1)) else (ag16 ((ax .u64 p16.1 (ay .u64 (aA .u64 y (ae .u64 x10)) 32)),(aG .u64 p16.2 1)))) else (if (decide ((aR .u64 p16.2 (bF .u64 (aA .u64 y (ae .u64 x10)) 4294967295))>(ax .u64 (aR .u64 4294967296 p16.1) (bF .u64 (aA .u64 lo (ae .u64 x10)) 4294967295)))) then (if (decide ((ax .u64 p16.1 (ay .u64 (aA .u64 y (ae .u64 x10)) 32))≥4294967296)) then (j15 (aG .u64 p16.2 1)) else (ag16 ((ax .u64 p16.1 (ay .u64 (aA .u64 y (ae .u64 x10)) 32)),(aG .u64 p16.2 1)))) else (j15 p16.2)))) (fun _=>default) ((aG .u64 (aG .u64 (ax .u64 (aR .u64 (orI .u64 (aA .u64 hi (ae .u64 x10)) (ay .u64 lo (aG .u64 64 (ae .u64 x10)))) 4294967296) (ay .u64 (aA .u64 lo (ae .u64 x10)) 32)) (aR .u64 p14 (aA .u64 y (ae .u64 x10)))) (aR .u64 (cD .u64 (aG .u64 (ax .u64 (aR .u64 (orI .u64 (aA .u64 hi (ae .u64 x10)) (ay .u64 lo (aG .u64 64 (ae .u64 x10)))) 4294967296) (ay .u64 (aA .u64 lo (ae .u64 x10)) 32)) (aR .u64 p14 (aA .u64 y (ae .u64 x10)))) (ay .u64 (aA .u64 y (ae .u64 x10)) 32)) (ay .u64 (aA .u64 y (ae .u64 x10)) 32))),(cD .u64 (aG .u64 (ax .u64 (aR .u64 (orI .u64 (aA .u64 hi (ae .u64 x10)) (ay .u64 lo (aG .u64 64 (ae .u64 x10)))) 4294967296) (ay .u64 (aA .u64 lo (ae .u64 x10)) 32)) (aR .u64 p14 (aA .u64 y (ae .u64 x10)))) (ay .u64 (aA .u64 y (ae .u64 x10)) 32))))))) (fun j14=>(am ((4294967296 - (aG .u64 (orI .u64 (aA .u64 hi (ae .u64 x10)) (ay .u64 lo (aG .u64 64 (ae .u64 x10)))) (aR .u64 (cD .u64 (orI .u64 (aA .u64 hi (ae .u64 x10)) (ay .u64 lo (aG .u64 64 (ae .u64 x10)))) (ay .u64 (aA .u64 y (ae .u64 x10)) 32)) (ay .u64 (aA .u64 y (ae .u64 x10)) 32)))).toNat+1) (fun (ag29:(Int×Int)→(Int×Int)) (p29:Int×Int)=>(if (decide (p29.1≥4294967296)) then (if (decide ((ax .u64 p29.2 (ay .u64 (aA .u64 y (ae .u64 x10)) 32))≥4294967296)) then (j14 (aG .u64 p29.1 1)) else (ag29 ((aG .u64 p29.1 1),(ax .u64 p29.2 (ay .u64 (aA .u64 y (ae .u64 x10)) 32))))) else (if (decide ((aR .u64 p29.1 (bF .u64 (aA .u64 y (ae .u64 x10)) 4294967295))>(ax .u64 (aR .u64 4294967296 p29.2) (ay .u64 (aA .u64 lo (ae .u64 x10)) 32)))) then (if (decide ((ax .u64 p29.2 (ay .u64 (aA .u64 y (ae .u64 x10)) 32))≥4294967296)) then (j14 (aG .u64 p29.1 1)) else (ag29 ((aG .u64 p29.1 1),(ax .u64 p29.2 (ay .u64 (aA .u64 y (ae .u64 x10)) 32))))) else (j14 p29.1)))) (fun _=>default) ((cD .u64 (orI .u64 (aA .u64 hi (ae .u64 x10)) (ay .u64 lo (aG .u64 64 (ae .u64 x10)))) (ay .u64 (aA .u64 y (ae .u64 x10)) 32)),(aG .u64 (orI .u64 (aA .u64 hi (ae .u64 x10)) (ay .u64 lo (aG .u64 64 (ae .u64 x10)))) (aR .u64 (cD .u64 (orI .u64 (aA .u64 hi (ae .u64 x10)) (ay .u64 lo (aG .u64 64 (ae .u64 x10)))) (ay .u64 (aA .u64 y (ae .u64 x10)) 32)) (ay .u64 (aA .u64 y (ae .u64 x10)) 32))))))))))))
def fg (a_:Int) (b:Int) (n_:Int):Int:=
 (ab (jY a_ b) (fun (x1:(Int×Int))=>(ab (mQ (x1.1) (x1.2) n_) (fun (x5:(Int×Int))=>x5.2))))
def oq (a_:Int) (e_:Int) (n_:Int):Int:=
 (am (e_.toNat+1) (fun (ag1:(Int×Int×Int)→Int) (p1:Int×Int×Int)=>(if (decide (p1.2.1>0)) then (if ((bF .u64 p1.2.1 1)==1) then (ab (fg (p1.2.2) (p1.1) n_) (fun (x6:Int)=>(ab (fg (p1.1) (p1.1) n_) (fun (x10:Int)=>(ag1 (x10,(ay .u64 p1.2.1 1),x6)))))) else (ab (fg (p1.1) (p1.1) n_) (fun (x15:Int)=>(ag1 (x15,(ay .u64 p1.2.1 1),p1.2.2))))) else p1.2.2)) (fun _=>default) (a_,e_,1))
def u9 (a_:Int) (n_:Int) (d_:Int) (s:Int):Bool:=
 (ab (oq a_ d_ n_) (fun (x1:Int)=>(if (x1==1) then false else (if (x1==(aG .u64 n_ 1)) then false else (am ((aG .i64 s 1 - 0).toNat+1) (fun (ag10:(Int×Int)→Bool) (p10:Int×Int)=>(if (decide (p10.2<(aG .i64 s 1))) then (ab (fg (p10.1) (p10.1) n_) (fun (x13:Int)=>(if (x13==(aG .u64 n_ 1)) then false else (ag10 (x13,(p10.2+1)))))) else true)) (fun _=>default) (x1,0))))))
def q8 (n_:Int):Bool:=
 (if (decide (n_<2)) then false else (am (((12:Int) - 0).toNat+1) (fun (ag4:Int→Bool) (p4:Int)=>(if (decide (p4<12)) then (if ((cj .u64 (ae .u64 n_) (gt cT p4))==0) then ((ae .u64 n_)==(gt cT p4)) else (ag4 (p4+1))) else (ab (oo (aG .u64 (ae .u64 n_) 1)) (fun (x12:Int)=>(am (((12:Int) - 0).toNat+1) (fun (ag16:Int→Bool) (p16:Int)=>(if (decide (p16<12)) then (ab (u9 (gt cT p16) (ae .u64 n_) (ay .u64 (aG .u64 (ae .u64 n_) 1) x12) x12) (fun (x20:Bool)=>(if x20 then false else (ag16 (p16+1))))) else true)) (fun _=>default) 0))))) (fun _=>default) 0))
def ot (a_:Int) (m:Int):Bool:=
 (if (decide (a_≥0)) then (decide (a_<m)) else false)
def i6 (a_:Int) (b:Int) (m:Int):Int:=
 (if (decide (m<1)) then 1 else (if (decide (m≥2305843009213693952)) then 1 else (ab (ot a_ m) (fun (x6:Bool)=>(if (!x6) then 2 else (ab (ot b m) (fun (x11:Bool)=>(if (!x11) then 2 else 0))))))))
def i7 (a_:Int) (b:Int) (m:Int):Int:=
 (ab (jY (ae .u64 a_) (ae .u64 b)) (fun (x1:(Int×Int))=>(ab (mQ (x1.1) (x1.2) (ae .u64 m)) (fun (x5:(Int×Int))=>(ae .i64 x5.2)))))
def ir (a_:Int) (e_:Int) (m:Int):(Int×Int):=
 (ab (i6 a_ a_ m) (fun (x1:Int)=>(if (x1 !=0) then (0,x1) else (if (decide (e_<0)) then (0,2) else (am (e_.toNat+1) (fun (ag11:(Int×Int×Int)→(Int×Int)) (p11:Int×Int×Int)=>(if (decide (p11.2.1>0)) then (if ((bF .i64 p11.2.1 1)==1) then (ab (i7 (p11.2.2) (p11.1) m) (fun (x16:Int)=>(ab (i7 (p11.1) (p11.1) m) (fun (x20:Int)=>(ag11 (x20,(ay .i64 p11.2.1 1),x16)))))) else (ab (i7 (p11.1) (p11.1) m) (fun (x25:Int)=>(ag11 (x25,(ay .i64 p11.2.1 1),p11.2.2))))) else (p11.2.2,0))) (fun _=>default) (a_,e_,(cj .i64 1 m)))))))
def iu (g:aQ):Bool:=
 (if (decide (g.P≥2305843009213693952)) then false else (if (decide (g.Q<3)) then false else (if ((cj .i64 g.Q 2)==0) then false else (ab (q8 (g.P)) (fun (x7:Bool)=>(if (!x7) then false else (ab (q8 (g.Q)) (fun (x12:Bool)=>(if (!x12) then false else (if ((cj .i64 (aG .i64 g.P 1) g.Q) !=0) then false else (if (decide (g.G<2)) then false else (if (decide (g.G≥g.P)) then false else (ab (ir (g.G) (g.Q) (g.P)) (fun (x24:(Int×Int))=>(if (x24.2==0) then (x24.1==1) else false)))))))))))))))
def q9 (g:aQ) (x_:Int):Bool:=
 (if (decide (x_<1)) then false else (if (decide (x_≥g.P)) then false else (ab (ir x_ (g.Q) (g.P)) (fun (x6:(Int×Int))=>(x6.1==1)))))
def iv (g:aQ) (x_:Int):Bool:=
 (ab (iu g) (fun (x1:Bool)=>(if x1 then (ab (q9 g x_) (fun (x5:Bool)=>x5)) else false)))
def i9 (b:a8):Bool:=
 (ab (iu (b.Group)) (fun (x1:Bool)=>(if (!x1) then false else (am (((3:Int) - 0).toNat+1) (fun (ag7:Int→Bool) (p7:Int)=>(if (decide (p7<(3:Int))) then (if ((gt ([b.G1,b.G2,b.H]:List Int) p7)==1) then false else (ab (iv (b.Group) (gt ([b.G1,b.G2,b.H]:List Int) p7)) (fun (x13:Bool)=>(if (!x13) then false else (ag7 (p7+1)))))) else true)) (fun _=>default) 0))))
def q_ (b:a8) (x_:Int):Bool:=
 (if (decide (x_<1)) then false else (if (decide (x_≥b.Group.P)) then false else (ab (ir x_ (b.Group.Q) (b.Group.P)) (fun (x6:(Int×Int))=>(if (x6.2==0) then (x6.1==1) else false)))))
def mR (b:a8) (m:Int):Bool:=
 (if (m !=1) then (ab (q_ b m) (fun (x3:Bool)=>x3)) else false)
def mS (b:a8) (k_:ig):Bool:=
 (ab (i9 b) (fun (x1:Bool)=>(if x1 then (ab (mR b (k_.H)) (fun (x5:Bool)=>(if x5 then (ab (mR b (k_.H1)) (fun (x9:Bool)=>(if x9 then (ab (mR b (k_.H2)) (fun (x13:Bool)=>x13)) else false))) else false))) else false)))
def iw (b:a8) (r_:bu):Bool:=
 (ab (u7 (r_.Bank) (r_.Epoch) (r_.From) (r_.Until) (r_.Final)) (fun (x1:Bool)=>(if x1 then (ab (om (r_.Denom) 0 16) (fun (x5:Bool)=>(if x5 then (if (r_.Value==0) then (if (r_.Depth==0) then (ab (mS b (r_.Key)) (fun (x21:Bool)=>x21)) else (ab (i5 ([({Value:=r_.Value,Depth:=r_.Depth}:dH)]:List dH)) (fun (x13:Bool)=>(if x13 then (ab (mS b (r_.Key)) (fun (x17:Bool)=>x17)) else false)))) else (ab (i5 ([({Value:=r_.Value,Depth:=r_.Depth}:dH)]:List dH)) (fun (x25:Bool)=>(if x25 then (ab (mS b (r_.Key)) (fun (x29:Bool)=>x29)) else false)))) else false))) else false)))
def jZ (k_:bU):Bool:=
 (am (((k_.l.length:Int) - 0).toNat+1) (fun (ag1:Int→Bool) (p1:Int)=>(if (decide (p1<(k_.l.length:Int))) then (ab (iw (k_.b) (gt k_.l p1)) (fun (x5:Bool)=>(if (!x5) then false else (ag1 (p1+1))))) else (ab (i9 (k_.b)) (fun (x12:Bool)=>(if x12 then (ab (im (k_.v)) (fun (x16:Bool)=>(if x16 then (if (k_.y==0) then true else (if (k_.y !=1) then (ab (iv (k_.b.Group) (k_.y)) (fun (x24:Bool)=>x24)) else false)) else false))) else false))))) (fun _=>default) 0)
def j4 (p_:bR):(List aO):=
 (am (((p_.Chains.length:Int) - 0).toNat+1) (fun (ag1:(Int×List aO)→(List aO)) (p1:Int×List aO)=>(if (decide (p1.1<(p_.Chains.length:Int))) then (ag1 ((p1.1+1),((p1.2++([(gt p_.Chains p1.1).First]:List aO))++(gt p_.Chains p1.1).L))) else p1.2)) (fun _=>default) (0,(([]:List aO)++p_.Spends)))
def ra (c0:bR):Bool:=
 (ab (j4 c0) (fun (x1:(List aO))=>(decide ((x1.length:Int)≤100))))
def rb (c0:bR) (c1:bO):Bool:=
 (c0.Number==c1.Number)
def ix (k_:bU):(List bD):=
 (am (((k_.p.Spends.length:Int) - 0).toNat+1) (fun (ag1:(Int×List bD)→(List bD)) (p1:Int×List bD)=>(if (decide (p1.1<(k_.p.Spends.length:Int))) then (ag1 ((p1.1+1),(p1.2++([(gt k_.p.Spends p1.1).Coin]:List bD)))) else (am (((k_.p.Chains.length:Int) - 0).toNat+1) (fun (ag6:(Int×List bD)→(List bD)) (p6:Int×List bD)=>(if (decide (p6.1<(k_.p.Chains.length:Int))) then (ag6 ((p6.1+1),(p6.2++([(gt k_.p.Chains p6.1).First.Coin]:List bD)))) else p6.2)) (fun _=>default) (0,p1.2)))) (fun _=>default) (0,([]:List bD)))
def u_ (r_:bu) (c0:Int) (c1:Int) (c2:Int):Bool:=
 (if (r_.Bank==c0) then (if (r_.Epoch==c1) then (r_.Denom==c2) else false) else false)
def rc (s:(List bu)) (f__c0:Int) (f__c1:Int) (f__c2:Int):Int:=
 (am (((s.length:Int) - 0).toNat+1) (fun (ag1:Int→Int) (p1:Int)=>(if (decide (p1<(s.length:Int))) then (ab (u_ (gt s p1) f__c0 f__c1 f__c2) (fun (x5:Bool)=>(if x5 then p1 else (ag1 (p1+1))))) else (-1))) (fun _=>default) 0)
def ja (l:(List bu)) (bank:Int) (epoch:Int) (number:Int):Int:=
 (ab (rc l bank epoch number) (fun (x1:Int)=>x1))
def dT (k_:bU) (c:bD):(bu×Bool):=
 (ab (ja (k_.l) (c.Bank) (c.Epoch) (c.Denom)) (fun (x1:Int)=>(if (decide (x1<0)) then (fI,false) else ((gt k_.l x1),true))))
def gF (k_:bU):Bool:=
 (ab (ix k_) (fun (x1:(List bD))=>(am (((x1.length:Int) - 0).toNat+1) (fun (ag5:Int→Bool) (p5:Int)=>(if (decide (p5<(x1.length:Int))) then (ab (dT k_ (gt x1 p5)) (fun (x9:(bu×Bool))=>(if (!x9.2) then false else (ag5 (p5+1))))) else true)) (fun _=>default) 0)))
def va (b:a8) (x_:Int):Bool:=
 (if (decide (x_≥0)) then (decide (x_<b.Group.Q)) else false)
def vb (b:a8) (l:(List Int)):Bool:=
 (am (((l.length:Int) - 0).toNat+1) (fun (ag1:Int→Bool) (p1:Int)=>(if (decide (p1<(l.length:Int))) then (ab (q_ b (gt l p1)) (fun (x5:Bool)=>(if (!x5) then false else (ag1 (p1+1))))) else true)) (fun _=>default) 0)
def lk (n_:Int):ak:=
 ({Kind:=1,N:=n_,B:=([]:List Int),L:=([]:List ak)}:ak)
def ou (n_:Int):(List Int):=
 (am (((8:Int) - 0).toNat+1) (fun (ag1:(Int×List Int)→(List Int)) (p1:Int×List Int)=>(if (decide (p1.1<(8:Int))) then (ag1 ((p1.1+1),(st p1.2 p1.1 (ae .u8 (ay .u64 n_ (56 - (8*p1.1))))))) else p1.2)) (fun _=>default) (0,([(0:Int),(0:Int),(0:Int),(0:Int),(0:Int),(0:Int),(0:Int),(0:Int)]:List Int)))
def vc (x_:Int) (k_:Int):Int:=
 (orI .u32 (aA .u32 x_ (bF .u64 (ae .u64 k_) 31)) (ay .u32 x_ (aG .u64 32 (bF .u64 (ae .u64 k_) 31))))
def fQ (x_:Int) (n_:Int):Int:=
 (ab (vc x_ (jk .i64 n_)) (fun (x1:Int)=>x1))
def vd (block:(List Int)):(List Int):=
 (am (((16:Int) - 0).toNat+1) (fun (ag1:(Int×(List Int))→(List Int)) (p1:Int×(List Int))=>(if (decide (p1.1<16)) then (am ((((sl block (4*p1.1) ((4*p1.1)+4)).length:Int) - 0).toNat+1) (fun (ag7:(Int×(List Int))→(List Int)) (p7:Int×(List Int))=>(if (decide (p7.1<((sl block (4*p1.1) ((4*p1.1)+4)).length:Int))) then (ag7 ((p7.1+1),(bc 64 (st (bc 64 p7.2) p1.1 (orI .u32 (aA .u32 (gt p7.2 p1.1) 8) (ae .u32 (gt (sl block (4*p1.1) ((4*p1.1)+4)) p7.1))))))) else (ag1 ((p1.1+1),p7.2)))) (fun _=>default) (0,p1.2)) else (am (((64:Int) - 16).toNat+1) (fun (ag17:(Int×(List Int))→(List Int)) (p17:Int×(List Int))=>(if (decide (p17.1<64)) then (ab (fQ (gt p17.2 (p17.1 - 15)) 7) (fun (x26:Int)=>(ab (fQ (gt p17.2 (p17.1 - 15)) 18) (fun (x29:Int)=>(ab (fQ (gt p17.2 (p17.1 - 2)) 17) (fun (x32:Int)=>(ab (fQ (gt p17.2 (p17.1 - 2)) 19) (fun (x35:Int)=>(ag17 ((p17.1+1),(bc 64 (st (bc 64 p17.2) p17.1 (ax .u32 (ax .u32 (ax .u32 (gt p17.2 (p17.1 - 16)) (cm .u32 (cm .u32 x26 x29) (ay .u32 (gt p17.2 (p17.1 - 15)) 3))) (gt p17.2 (p17.1 - 7))) (cm .u32 (cm .u32 x32 x35) (ay .u32 (gt p17.2 (p17.1 - 2)) 10))))))))))))))) else p17.2)) (fun _=>default) (16,p1.2)))) (fun _=>default) (0,[0,0,0,0,0,0,0,0,0,0,0,0,0,0,0,0,0,0,0,0,0,0,0,0,0,0,0,0,0,0,0,0,0,0,0,0,0,0,0,0,0,0,0,0,0,0,0,0,0,0,0,0,0,0,0,0,0,0,0,0,0,0,0,0]))
def ve (state:(List Int)) (block:(List Int)):(List Int):=
 (ab (vd block) (fun (x1:(List Int))=>(am (((64:Int) - 0).toNat+1) (fun (ag4:(Int×Int×Int×Int×Int×Int×Int×Int×Int)→(List Int)) (p4:Int×Int×Int×Int×Int×Int×Int×Int×Int)=>(if (decide (p4.2.2.2.2.2.2.2.2<64)) then (ab (fQ (p4.2.2.2.2.1) 6) (fun (x7:Int)=>(ab (fQ (p4.2.2.2.2.1) 11) (fun (x9:Int)=>(ab (fQ (p4.2.2.2.2.1) 25) (fun (x11:Int)=>(ab (fQ (p4.1) 2) (fun (x16:Int)=>(ab (fQ (p4.1) 13) (fun (x19:Int)=>(ab (fQ (p4.1) 22) (fun (x22:Int)=>(ag4 ((ax .u32 (ax .u32 (ax .u32 (ax .u32 (ax .u32 p4.2.2.2.2.2.2.2.1 (cm .u32 (cm .u32 x7 x9) x11)) (cm .u32 (bF .u32 p4.2.2.2.2.1 p4.2.2.2.2.2.1) (bF .u32 (ku .u32 p4.2.2.2.2.1) p4.2.2.2.2.2.2.1))) (gt kR p4.2.2.2.2.2.2.2.2)) (gt x1 p4.2.2.2.2.2.2.2.2)) (ax .u32 (cm .u32 (cm .u32 x16 x19) x22) (cm .u32 (cm .u32 (bF .u32 p4.1 p4.2.1) (bF .u32 p4.1 p4.2.2.1)) (bF .u32 p4.2.1 p4.2.2.1)))),p4.1,p4.2.1,p4.2.2.1,(ax .u32 p4.2.2.2.1 (ax .u32 (ax .u32 (ax .u32 (ax .u32 p4.2.2.2.2.2.2.2.1 (cm .u32 (cm .u32 x7 x9) x11)) (cm .u32 (bF .u32 p4.2.2.2.2.1 p4.2.2.2.2.2.1) (bF .u32 (ku .u32 p4.2.2.2.2.1) p4.2.2.2.2.2.2.1))) (gt kR p4.2.2.2.2.2.2.2.2)) (gt x1 p4.2.2.2.2.2.2.2.2))),p4.2.2.2.2.1,p4.2.2.2.2.2.1,p4.2.2.2.2.2.2.1,(p4.2.2.2.2.2.2.2.2+1))))))))))))))) else (am (((8:Int) - 0).toNat+1) (fun (ag26:(Int×(List Int))→(List Int)) (p26:Int×(List Int))=>(if (decide (p26.1<8)) then (ag26 ((p26.1+1),(bc 8 (st (bc 8 p26.2) p26.1 (ax .u32 (gt p26.2 p26.1) (gt ([p4.1,p4.2.1,p4.2.2.1,p4.2.2.2.1,p4.2.2.2.2.1,p4.2.2.2.2.2.1,p4.2.2.2.2.2.2.1,p4.2.2.2.2.2.2.2.1]:List Int) p26.1)))))) else p26.2)) (fun _=>default) (0,state)))) (fun _=>default) ((gt state 0),(gt state 1),(gt state 2),(gt state 3),(gt state 4),(gt state 5),(gt state 6),(gt state 7),0))))
def re (b:(List Int)):(List Int):=
 (ab (mM b) (fun (x1:(List Int))=>(am (((56 - (((x1++([128]:List Int))).length:Int))% 64).toNat+1) (fun (ag5:(List Int)→(List Int)) (p5:List Int)=>(if ((cj .i64 (p5.length:Int) 64) !=56) then (ag5 (p5++([0]:List Int))) else (ab (ou (aR .u64 8 (ae .u64 (b.length:Int)))) (fun (x9:(List Int))=>(am (((p5++x9)).length+1) (fun (ag13:(List Int×(List Int))→(List Int)) (p13:List Int×(List Int))=>(if (decide ((p13.1.length:Int)>0)) then (ab (ve (p13.2) (sl p13.1 0 64)) (fun (x16:(List Int))=>(ag13 ((sl p13.1 64 (p13.1.length:Int)),x16)))) else (am (((8:Int) - 0).toNat+1) (fun (ag20:(Int×(List Int))→(List Int)) (p20:Int×(List Int))=>(if (decide (p20.1<8)) then (am (((4:Int) - 0).toNat+1) (fun (ag24:(Int×(List Int))→(List Int)) (p24:Int×(List Int))=>(if (decide (p24.1<4)) then (ag24 ((p24.1+1),(bc 32 (st (bc 32 p24.2) ((4*p20.1)+p24.1) (ae .u8 (ay .u32 (gt p13.2 p20.1) (24 - (8*p24.1)))))))) else (ag20 ((p20.1+1),p24.2)))) (fun _=>default) (0,p20.2)) else p20.2)) (fun _=>default) (0,[0,0,0,0,0,0,0,0,0,0,0,0,0,0,0,0,0,0,0,0,0,0,0,0,0,0,0,0,0,0,0,0])))) (fun _=>default) ((p5++x9),[1779033703,3144134277,1013904242,2773480762,1359893119,2600822924,528734635,1541459225])))))) (fun _=>default) (x1++([128]:List Int)))))
def fR (tag:(List UInt8)) (b:(List Int)):((List Int)×Int):=
 (if (decide ((tag.length:Int)<1)) then ([0,0,0,0,0,0,0,0,0,0,0,0,0,0,0,0,0,0,0,0,0,0,0,0,0,0,0,0,0,0,0,0],2) else (if (decide ((tag.length:Int)>100)) then ([0,0,0,0,0,0,0,0,0,0,0,0,0,0,0,0,0,0,0,0,0,0,0,0,0,0,0,0,0,0,0,0],2) else (ab (re (gx tag)) (fun (x6:(List Int))=>(ab (mM (bc 32 x6)) (fun (x9:(List Int))=>(ab (re ((x9++(bc 32 x6))++b)) (fun (x12:(List Int))=>(x12,0)))))))))
def rf (a_:Int) (b:Int) (m:Int):(Int×Int):=
 (ab (i6 a_ b m) (fun (x1:Int)=>(if (x1 !=0) then (0,x1) else ((cj .i64 (ax .i64 a_ b) m),0))))
def ov (h_:(List Int)) (m:Int):(Int×Int):=
 (if (decide (m<1)) then (0,1) else (if (decide (m≥2305843009213693952)) then (0,1) else (am (((16:Int) - 0).toNat+1) (fun (ag6:(Int×Int)→(Int×Int)) (p6:Int×Int)=>(if (decide (p6.2<(16:Int))) then (am (((8:Int) - 0).toNat+1) (fun (ag10:(Int×Int)→(Int×Int)) (p10:Int×Int)=>(if (decide (p10.2<8)) then (ab (rf (p10.1) (p10.1) m) (fun (x13:(Int×Int))=>(ag10 (x13.1,(p10.2+1))))) else (ab (rf (p10.1) (cj .i64 (ae .i64 (gt ([(gt h_ 0),(gt h_ 1),(gt h_ 2),(gt h_ 3),(gt h_ 4),(gt h_ 5),(gt h_ 6),(gt h_ 7),(gt h_ 8),(gt h_ 9),(gt h_ 10),(gt h_ 11),(gt h_ 12),(gt h_ 13),(gt h_ 14),(gt h_ 15)]:List Int) p6.2)) m) m) (fun (x17:(Int×Int))=>(ag6 (x17.1,(p6.2+1))))))) (fun _=>default) (p6.1,0)) else (p6.1,0))) (fun _=>default) (0,0))))
def vf (b:a8) (pseudonym:Int) (root:(List Int)) (s:ia):(Int×Int):=
 (ab (i9 b) (fun (x1:Bool)=>(if (!x1) then (0,1) else (ab (vb b ([pseudonym,s.Z,s.A,s.B]:List Int)) (fun (x7:Bool)=>(if (!x7) then (0,2) else (am (((7:Int) - 0).toNat+1) (fun (ag13:(Int×List ak)→(Int×Int)) (p13:Int×List ak)=>(if (decide (p13.1<(7:Int))) then (ab (lk (gt ([b.Group.P,b.Group.Q,b.Group.G,b.G1,b.G2,b.H,pseudonym]:List Int) p13.1)) (fun (x17:ak)=>(ag13 ((p13.1+1),(p13.2++([x17]:List ak)))))) else (ab (lk (s.Z)) (fun (x21:ak)=>(ab (lk (s.A)) (fun (x24:ak)=>(ab (lk (s.B)) (fun (x27:ak)=>(ab (fP ({Kind:=3,N:=0,B:=([]:List Int),L:=(p13.2++([({Kind:=2,N:=0,B:=(bc 32 root),L:=([]:List ak)}:ak),x21,x24,x27]:List ak))}:ak)) (fun (x30:((List Int)×Int))=>(if (x30.2 !=0) then (0,x30.2) else (ab (fR ([115,112,101,99,105,101,47,99,111,105,110]) (x30.1)) (fun (x37:((List Int)×Int))=>(if (x37.2 !=0) then (0,x37.2) else (ab (ov (x37.1) (b.Group.Q)) (fun (x43:(Int×Int))=>(x43.1,x43.2))))))))))))))))) (fun _=>default) (0,([]:List ak)))))))))
def mT (b:a8) (x_:Int) (e_:Int):Int:=
 (ab (ir x_ e_ (b.Group.P)) (fun (x1:(Int×Int))=>x1.1))
def mU (a_:Int) (b:Int) (m:Int):(Int×Int):=
 (ab (i6 a_ b m) (fun (x1:Int)=>(if (x1 !=0) then (0,x1) else (ab (i7 a_ b m) (fun (x8:Int)=>(x8,0))))))
def vg (b:a8) (x_:Int) (y:Int):Int:=
 (ab (mU x_ y (b.Group.P)) (fun (x1:(Int×Int))=>x1.1))
def rg (b:a8) (x_:Int) (e_:Int) (y:Int) (f_:Int):Int:=
 (ab (mT b x_ e_) (fun (x1:Int)=>(ab (mT b y f_) (fun (x3:Int)=>(ab (vg b x1 x3) (fun (x5:Int)=>x5))))))
def vh (b:a8) (k_:ig) (pseudonym:Int) (root:(List Int)) (s:ia):Bool:=
 (ab (mS b k_) (fun (x1:Bool)=>(if (!x1) then false else (ab (mR b pseudonym) (fun (x6:Bool)=>(if (!x6) then false else (ab (va b (s.R)) (fun (x11:Bool)=>(if (!x11) then false else (ab (vf b pseudonym root s) (fun (x17:(Int×Int))=>(if (x17.2 !=0) then false else (if (x17.1==0) then false else (ab (mT b (b.Group.G) (s.R)) (fun (x25:Int)=>(ab (rg b (k_.H) (x17.1) (s.A) 1) (fun (x27:Int)=>(if (x25==x27) then (ab (mT b pseudonym (s.R)) (fun (x31:Int)=>(ab (rg b (s.Z) (x17.1) (s.B) 1) (fun (x33:Int)=>(x31==x33))))) else false))))))))))))))))))
def lm (b:a8) (r_:bu) (c:bD):Bool:=
 (ab (iw b r_) (fun (x1:Bool)=>(if x1 then (if (c.Bank==r_.Bank) then (if (c.Epoch==r_.Epoch) then (if (c.Denom==r_.Denom) then (if (c.Depth==r_.Depth) then (ab (vh b (r_.Key) (c.A) (c.Root) (c.Sign)) (fun (x13:Bool)=>x13)) else false) else false) else false) else false) else false)))
def iy (depth:Int) (n_:gB):Bool:=
 (if (decide (depth≥0)) then (if (decide (depth≤5)) then (if (decide (n_.Level≥0)) then (if (decide (n_.Level≤depth)) then (if (decide (n_.Index≥0)) then (decide (n_.Index<(aA .i64 1 n_.Level))) else false) else false) else false) else false) else false)
def rh (x_:eK):Bool:=
 (if (decide (x_.Time≥0)) then (if (decide (x_.Time≤1099511627776)) then (if (decide (x_.Number≥0)) then (decide (x_.Number≤1073741824)) else false) else false) else false)
def fS (l:(List Int)):ak:=
 (am (((l.length:Int) - 0).toNat+1) (fun (ag1:(Int×List ak)→ak) (p1:Int×List ak)=>(if (decide (p1.1<(l.length:Int))) then (ag1 ((p1.1+1),(p1.2++([({Kind:=1,N:=(gt l p1.1),B:=([]:List Int),L:=([]:List ak)}:ak)]:List ak)))) else ({Kind:=3,N:=0,B:=([]:List Int),L:=p1.2}:ak))) (fun _=>default) (0,([]:List ak)))
def jb (w_:dI) (l_:(List Int)):dI:=
 (ab (fS l_) (fun (x1:ak)=>({l:=(w_.l++([x1]:List ak))}:dI)))
def mV (s:List Int):List Int:=s
def j5 (w_:dI) (b:(List Int)):dI:=
 (ab (mV b) (fun (x1:(List Int))=>({l:=(w_.l++([({Kind:=2,N:=0,B:=x1,L:=([]:List ak)}:ak)]:List ak))}:dI)))
def ln (c:bD):ak:=
 (ab (jb lc ([c.Bank,c.Epoch,c.Denom,c.Depth,c.A]:List Int)) (fun (x1:dI)=>(ab (j5 x1 (bc 32 c.Root)) (fun (x5:dI)=>(ab (jb x5 ([c.Sign.Z,c.Sign.A,c.Sign.B,c.Sign.R]:List Int)) (fun (x9:dI)=>({Kind:=3,N:=0,B:=([]:List Int),L:=x9.l}:ak)))))))
def ri (c:bD):(List Int):=
 (ab (ln c) (fun (x1:ak)=>(ab (fP x1) (fun (x5:((List Int)×Int))=>(ab (fR ([115,112,101,99,105,101,47,99,111,105,110,45,105,116,101,109]) (x5.1)) (fun (x9:((List Int)×Int))=>x9.1))))))
def jc (h_:(List Int)):ak:=
 (ab (mV (bc 32 h_)) (fun (x1:(List Int))=>({Kind:=2,N:=0,B:=x1,L:=([]:List ak)}:ak)))
def j_ (l:(List ak)):ak:=
 ({Kind:=3,N:=0,B:=([]:List Int),L:=l}:ak)
def vk (b:a8) (c:bD) (n_:gB) (x_:eK):Int:=
 (ab (ri c) (fun (x1:(List Int))=>(ab (jc x1) (fun (x3:ak)=>(ab (fS ([n_.Level,n_.Index]:List Int)) (fun (x6:ak)=>(ab (jc (x_.Payee)) (fun (x9:ak)=>(ab (fS ([x_.Time,x_.Number]:List Int)) (fun (x12:ak)=>(ab (j_ ([x3,x6,x9,x12]:List ak)) (fun (x15:ak)=>(ab (fP x15) (fun (x18:((List Int)×Int))=>(ab (fR ([115,112,101,99,105,101,47,115,112,101,110,100]) (x18.1)) (fun (x21:((List Int)×Int))=>(ab (ov (x21.1) (b.Group.Q)) (fun (x24:(Int×Int))=>x24.1))))))))))))))))))
def rk (g:aQ) (l:(List Int)):Int:=
 (ab (iu g) (fun (x1:Bool)=>(if (!x1) then 1 else (am (((l.length:Int) - 0).toNat+1) (fun (ag7:Int→Int) (p7:Int)=>(if (decide (p7<(l.length:Int))) then (ab (q9 g (gt l p7)) (fun (x11:Bool)=>(if (!x11) then 2 else (ag7 (p7+1))))) else 0)) (fun _=>default) 0))))
def vl (a_:Int) (m:Int):(Int×Int):=
 (ab (i6 0 0 m) (fun (x1:Int)=>(if (x1 !=0) then (0,x1) else (if (decide ((cj .i64 a_ m)<0)) then ((ax .i64 (cj .i64 a_ m) m),0) else ((cj .i64 a_ m),0)))))
def ow (g:aQ) (a_:Int) (e_:Int):(Int×Int):=
 (ab (rk g ([a_]:List Int)) (fun (x1:Int)=>(if (x1 !=0) then (0,x1) else (ab (vl e_ (g.Q)) (fun (x7:(Int×Int))=>(ab (ir a_ (x7.1) (g.P)) (fun (x10:(Int×Int))=>(x10.1,x10.2))))))))
def ox (g:aQ) (a_:Int) (b:Int):(Int×Int):=
 (ab (rk g ([a_,b]:List Int)) (fun (x1:Int)=>(if (x1 !=0) then (0,x1) else (ab (mU a_ b (g.P)) (fun (x7:(Int×Int))=>(x7.1,x7.2))))))
def vm (x_:Int) (c0:aQ):Bool:=
 (ab (iv c0 x_) (fun (x1:Bool)=>(!x1)))
def vn (s:(List Int)) (f__c0:aQ):Int:=
 (am (((s.length:Int) - 0).toNat+1) (fun (ag1:Int→Int) (p1:Int)=>(if (decide (p1<(s.length:Int))) then (ab (vm (gt s p1) f__c0) (fun (x5:Bool)=>(if x5 then p1 else (ag1 (p1+1))))) else (-1))) (fun _=>default) 0)
def vo (s:(List Int)) (f__c0:aQ):Bool:=
 (ab (vn s f__c0) (fun (x1:Int)=>(decide (x1≥0))))
def vq (g:aQ) (l:(List Int)):Bool:=
 (ab (vo l g) (fun (x1:Bool)=>(!x1)))
def vr (e_:Int) (c0:aQ):Bool:=
 (if (decide (e_<0)) then true else (decide (e_≥c0.Q)))
def vt (s:(List Int)) (f__c0:aQ):Int:=
 (am (((s.length:Int) - 0).toNat+1) (fun (ag1:Int→Int) (p1:Int)=>(if (decide (p1<(s.length:Int))) then (ab (vr (gt s p1) f__c0) (fun (x5:Bool)=>(if x5 then p1 else (ag1 (p1+1))))) else (-1))) (fun _=>default) 0)
def vu (s:(List Int)) (f__c0:aQ):Bool:=
 (ab (vt s f__c0) (fun (x1:Int)=>(decide (x1≥0))))
def vw (g:aQ) (l:(List Int)):Bool:=
 (ab (vu l g) (fun (x1:Bool)=>(!x1)))
def vx (g:aQ) (bases:(List Int)) (exps:(List Int)):(Int×Int):=
 (am (((bases.length:Int) - 0).toNat+1) (fun (ag1:(Int×Int)→(Int×Int)) (p1:Int×Int)=>(if (decide (p1.2<(bases.length:Int))) then (ab (ow g (gt bases p1.2) (gt exps p1.2)) (fun (x6:(Int×Int))=>(if (x6.2 !=0) then (0,x6.2) else (ab (ox g (p1.1) (x6.1)) (fun (x11:(Int×Int))=>(if (x11.2 !=0) then (0,x11.2) else (ag1 (x11.1,(p1.2+1))))))))) else (p1.1,0))) (fun _=>default) (1,0))
def vy (g:aQ) (bases:(List Int)) (exps:(List Int)):(Int×Int):=
 (ab (iu g) (fun (x1:Bool)=>(if (!x1) then (0,1) else (if ((bases.length:Int) !=(exps.length:Int)) then (0,1) else (if (decide ((bases.length:Int)>100)) then (0,5) else (ab (vq g bases) (fun (x12:Bool)=>(if (!x12) then (0,2) else (ab (vw g exps) (fun (x17:Bool)=>(if (!x17) then (0,2) else (ab (vx g bases exps) (fun (x23:(Int×Int))=>(x23.1,x23.2))))))))))))))
def vz (g:aQ) (y:Int) (bases:(List Int)) (exps:(List Int)):Bool:=
 (ab (vy g bases exps) (fun (x1:(Int×Int))=>(if (x1.2==0) then (x1.1==y) else false)))
def vA (b:a8) (a_:Int) (k_:Int) (l:fG):Bool:=
 (ab (iv (b.Group) (l.B)) (fun (x1:Bool)=>(if (!x1) then false else (ab (ow (b.Group) a_ k_) (fun (x7:(Int×Int))=>(if (x7.2 !=0) then false else (ab (ox (b.Group) (x7.1) (l.B)) (fun (x13:(Int×Int))=>(if (x13.2==0) then (ab (vz (b.Group) (x13.1) ([b.G1,b.G2]:List Int) ([l.R1,l.R2]:List Int)) (fun (x18:Bool)=>x18)) else false)))))))))
def vB (s:(List Int)) (v:Int):Int:=
 (am (((s.length:Int) - 0).toNat+1) (fun (ag1:Int→Int) (p1:Int)=>(if (decide (p1<(s.length:Int))) then (if (v==(gt s p1)) then p1 else (ag1 (p1+1))) else (-1))) (fun _=>default) 0)
def vC (s:(List Int)) (v:Int):Bool:=
 (ab (vB s v) (fun (x1:Int)=>(decide (x1≥0))))
def vD (d_:Int) (c0:Int):Bool:=
 (c0==(aA .i64 1 d_))
def vE (s:(List Int)) (f__c0:Int):Int:=
 (am (((s.length:Int) - 0).toNat+1) (fun (ag1:Int→Int) (p1:Int)=>(if (decide (p1<(s.length:Int))) then (ab (vD (gt s p1) f__c0) (fun (x5:Bool)=>(if x5 then p1 else (ag1 (p1+1))))) else (-1))) (fun _=>default) 0)
def vF (s:(List Int)) (f__c0:Int):Bool:=
 (ab (vE s f__c0) (fun (x1:Int)=>(decide (x1≥0))))
def vG (n_:Int):Bool:=
 (ab (vF ([0,1,2,3,4,5]:List Int) n_) (fun (x1:Bool)=>x1))
def vH (b:(List Int)):((List Int)×Int):=
 (if (decide ((b.length:Int)>16384)) then ([0,0,0,0,0,0,0,0,0,0,0,0,0,0,0,0,0,0,0,0,0,0,0,0,0,0,0,0,0,0,0,0],5) else (ab (fR ([115,112,101,99,105,101,47,108,101,97,102]) b) (fun (x4:((List Int)×Int))=>(x4.1,x4.2))))
def vI (b:a8) (l:(List Int)):((List (List Int))×Int):=
 (ab (i9 b) (fun (x1:Bool)=>(if (!x1) then (([]:List (List Int)),1) else (ab (vG (l.length:Int)) (fun (x6:Bool)=>(if (!x6) then (([]:List (List Int)),1) else (am (((l.length:Int) - 0).toNat+1) (fun (ag12:(Int×List (List Int))→((List (List Int))×Int)) (p12:Int×List (List Int))=>(if (decide (p12.1<(l.length:Int))) then (ab (iv (b.Group) (gt l p12.1)) (fun (x16:Bool)=>(if (!x16) then (([]:List (List Int)),2) else (ab (fP ({Kind:=1,N:=(gt l p12.1),B:=([]:List Int),L:=([]:List ak)}:ak)) (fun (x22:((List Int)×Int))=>(ab (vH (x22.1)) (fun (x26:((List Int)×Int))=>(ag12 ((p12.1+1),(p12.2++([x26.1]:List (List Int)))))))))))) else (p12.2,0))) (fun _=>default) (0,([]:List (List Int))))))))))
def ka (n_:Int):(Int×Int):=
 (am (((11:Int) - 0).toNat+1) (fun (ag1:Int→(Int×Int)) (p1:Int)=>(if (decide (p1<11)) then (if (n_==(aA .i64 1 p1)) then (p1,0) else (ag1 (p1+1))) else (0,1))) (fun _=>default) 0)
def rl (s:List Int) (_:Int):List Int:=s
def mW (slices:(List (List Int))):(List Int):=
 (am (((slices.length:Int) - 0).toNat+1) (fun (ag1:(Int×Int)→(List Int)) (p1:Int×Int)=>(if (decide (p1.2<(slices.length:Int))) then (if (decide ((p1.1+((gt slices p1.2).length:Int))<0)) then (default:(List Int)) else (ag1 ((p1.1+((gt slices p1.2).length:Int)),(p1.2+1)))) else (ab (rl ([]:List Int) (p1.1)) (fun (x10:(List Int))=>(am (((slices.length:Int) - 0).toNat+1) (fun (ag14:(Int×List Int)→(List Int)) (p14:Int×List Int)=>(if (decide (p14.1<(slices.length:Int))) then (ag14 ((p14.1+1),(p14.2++(gt slices p14.1)))) else p14.2)) (fun _=>default) (0,x10)))))) (fun _=>default) (0,0))
def jd (l:(List Int)) (r_:(List Int)):(List Int):=
 (ab (mW ([(bc 32 l),(bc 32 r_)]:List (List Int))) (fun (x1:(List Int))=>(ab (fR ([115,112,101,99,105,101,47,110,111,100,101]) x1) (fun (x4:((List Int)×Int))=>x4.1))))
def lq (s:(List (List (List Int)))):(List (List (List Int))):=
 (am ((((s.length:Int) - 1) - 0).toNat+1) (fun (ag2:(Int×Int×List (List (List Int)))→(List (List (List Int)))) (p2:Int×Int×List (List (List Int)))=>(if (decide (p2.1<p2.2.1)) then (ag2 ((p2.1+1),(p2.2.1 - 1),(st (st p2.2.2 p2.1 (gt p2.2.2 p2.2.1)) p2.2.1 (gt p2.2.2 p2.1)))) else p2.2.2)) (fun _=>default) (0,((s.length:Int) - 1),s))
def oy (l:(List (List Int))):(List (List (List Int))):=
 (am ((l).length+1) (fun (ag1:(List (List Int)×List (List (List Int)))→(List (List (List Int)))) (p1:List (List Int)×List (List (List Int)))=>(if (decide ((p1.1.length:Int)>1)) then (dQ (cw p1.1) (fun (ag5:(List (List Int))→(List (List (List Int)))) (y5:List (List Int)) (p5:List (List Int))=>(ab (jd (gt y5 0) (gt y5 1)) (fun (x8:(List Int))=>(ag5 (p5++([x8]:List (List Int))))))) (fun (p5:List (List Int))=>(ag1 (p5,(p1.2++([p5]:List (List (List Int))))))) ([]:List (List Int))) else (ab (lq (p1.2)) (fun (x11:(List (List (List Int))))=>x11)))) (fun _=>default) (l,([l]:List (List (List Int)))))
def oz (l:(List (List Int))) (level:Int) (index:Int):((List (List (List Int)))×Int):=
 (ab (ka (l.length:Int)) (fun (x1:(Int×Int))=>(if (x1.2 !=0) then (([]:List (List (List Int))),x1.2) else (if (decide (level<0)) then (([]:List (List (List Int))),2) else (if (decide (level>x1.1)) then (([]:List (List (List Int))),2) else (if (decide (index<0)) then (([]:List (List (List Int))),2) else (if (decide (index≥(aA .i64 1 level))) then (([]:List (List (List Int))),2) else (ab (oy l) (fun (x16:(List (List (List Int))))=>(x16,0))))))))))
def vJ (l:(List (List Int))) (level:Int) (index:Int):((List Int)×Int):=
 (ab (oz l level index) (fun (x1:((List (List (List Int)))×Int))=>(if (x1.2 !=0) then ([0,0,0,0,0,0,0,0,0,0,0,0,0,0,0,0,0,0,0,0,0,0,0,0,0,0,0,0,0,0,0,0],x1.2) else ((gt (gt x1.1 level) index),0))))
def vK (l:(List (List Int))):((List Int)×Int):=
 (ab (vJ l 0 0) (fun (x1:((List Int)×Int))=>(x1.1,x1.2)))
def vL (h_:(List Int)) (level:Int) (p_:ic):((List Int)×Int):=
 (if (decide (level<0)) then ([0,0,0,0,0,0,0,0,0,0,0,0,0,0,0,0,0,0,0,0,0,0,0,0,0,0,0,0,0,0,0,0],2) else (if (decide (level>10)) then ([0,0,0,0,0,0,0,0,0,0,0,0,0,0,0,0,0,0,0,0,0,0,0,0,0,0,0,0,0,0,0,0],2) else (if (decide (p_.Index<0)) then ([0,0,0,0,0,0,0,0,0,0,0,0,0,0,0,0,0,0,0,0,0,0,0,0,0,0,0,0,0,0,0,0],2) else (if (decide (p_.Index≥(aA .i64 1 level))) then ([0,0,0,0,0,0,0,0,0,0,0,0,0,0,0,0,0,0,0,0,0,0,0,0,0,0,0,0,0,0,0,0],2) else (if ((p_.L.length:Int) !=level) then ([0,0,0,0,0,0,0,0,0,0,0,0,0,0,0,0,0,0,0,0,0,0,0,0,0,0,0,0,0,0,0,0],3) else (am (((p_.L.length:Int) - 0).toNat+1) (fun (ag13:(Int×Int×(List Int))→((List Int)×Int)) (p13:Int×Int×(List Int))=>(if (decide (p13.2.1<(p_.L.length:Int))) then (if ((cj .i64 p13.1 2)==0) then (ab (jd (p13.2.2) (gt p_.L p13.2.1)) (fun (x19:(List Int))=>(ag13 ((cD .i64 p13.1 2),(p13.2.1+1),x19)))) else (ab (jd (gt p_.L p13.2.1) (p13.2.2)) (fun (x23:(List Int))=>(ag13 ((cD .i64 p13.1 2),(p13.2.1+1),x23))))) else (p13.2.2,0))) (fun _=>default) (p_.Index,0,h_)))))))
def vM (root:(List Int)) (h_:(List Int)) (level:Int) (p_:ic):Bool:=
 (ab (vL h_ level p_) (fun (x1:((List Int)×Int))=>(if (x1.2==0) then (uS (x1.1) root) else false)))
def fh (b:a8) (r_:bu) (s:aO):Bool:=
 (ab (lm b r_ (s.Coin)) (fun (x1:Bool)=>(if (!x1) then false else (ab (iy (s.Coin.Depth) (s.Node)) (fun (x5:Bool)=>(if (!x5) then false else (ab (rh (s.Context)) (fun (x10:Bool)=>(if (!x10) then false else (if ((s.Leaves.length:Int) !=(aA .i64 1 (s.Coin.Depth - s.Node.Level))) then false else (if (s.Path.Index !=s.Node.Index) then false else (ab (vk b (s.Coin) (s.Node) (s.Context)) (fun (x20:Int)=>(am (((s.Leaves.length:Int) - 0).toNat+1) (fun (ag23:(Int×List Int)→Bool) (p23:Int×List Int)=>(if (decide (p23.1<(s.Leaves.length:Int))) then (ab (vA b (s.Coin.A) x20 (gt s.Leaves p23.1)) (fun (x27:Bool)=>(if (!x27) then false else (ab (vC (p23.2) ((gt s.Leaves p23.1).B)) (fun (x32:Bool)=>(if x32 then false else (ag23 ((p23.1+1),(p23.2++([(gt s.Leaves p23.1).B]:List Int)))))))))) else (ab (vI b (p23.2)) (fun (x38:((List (List Int))×Int))=>(if (x38.2 !=0) then false else (ab (vK (x38.1)) (fun (x44:((List Int)×Int))=>(if (x44.2==0) then (ab (vM (s.Coin.Root) (x44.1) (s.Node.Level) (s.Path)) (fun (x49:Bool)=>x49)) else false)))))))) (fun _=>default) (0,([]:List Int))))))))))))))))
def cL (h_:bX):(List aO):=
 (([h_.First]:List aO)++h_.L)
def eg (l:(List bu)) (c:bD):(bu×Bool):=
 (ab (ja l (c.Bank) (c.Epoch) (c.Denom)) (fun (x1:Int)=>(if (decide (x1<0)) then (fI,false) else ((gt l x1),true))))
def mX (s:aO):ak:=
 (am (((s.Leaves.length:Int) - 0).toNat+1) (fun (ag1:(Int×List Int)→ak) (p1:Int×List Int)=>(if (decide (p1.1<(s.Leaves.length:Int))) then (ag1 ((p1.1+1),(p1.2++([(gt s.Leaves p1.1).B,(gt s.Leaves p1.1).R1,(gt s.Leaves p1.1).R2]:List Int)))) else (am (((s.Path.L.length:Int) - 0).toNat+1) (fun (ag6:(Int×List ak)→ak) (p6:Int×List ak)=>(if (decide (p6.1<(s.Path.L.length:Int))) then (ab (jc (gt s.Path.L p6.1)) (fun (x10:ak)=>(ag6 ((p6.1+1),(p6.2++([x10]:List ak)))))) else (ab (ln (s.Coin)) (fun (x14:ak)=>(ab (fS ([s.Node.Level,s.Node.Index]:List Int)) (fun (x16:ak)=>(ab (jc (s.Context.Payee)) (fun (x18:ak)=>(ab (fS ([s.Context.Time,s.Context.Number]:List Int)) (fun (x20:ak)=>(ab (fS (p1.2)) (fun (x22:ak)=>(ab (j_ (p6.2)) (fun (x24:ak)=>(ab (j_ ([x14,x16,x18,x20,x22,x24]:List ak)) (fun (x27:ak)=>x27)))))))))))))))) (fun _=>default) (0,([({Kind:=1,N:=s.Path.Index,B:=([]:List Int),L:=([]:List ak)}:ak)]:List ak))))) (fun _=>default) (0,([]:List Int)))
def vN (s:aO):(List Int):=
 (ab (mX s) (fun (x1:ak)=>(ab (fP x1) (fun (x5:((List Int)×Int))=>(if (x5.2 !=0) then [0,0,0,0,0,0,0,0,0,0,0,0,0,0,0,0,0,0,0,0,0,0,0,0,0,0,0,0,0,0,0,0] else (ab (fR ([115,112,101,99,105,101,47,115,112,101,110,100,45,105,116,101,109]) (x5.1)) (fun (x12:((List Int)×Int))=>x12.1)))))))
def rm (tag:(List UInt8)) (l:(List (List Int))):(List Int):=
 (am (((l.length:Int) - 0).toNat+1) (fun (ag1:(Int×List ak)→(List Int)) (p1:Int×List ak)=>(if (decide (p1.1<(l.length:Int))) then (ab (mV (bc 32 (gt l p1.1))) (fun (x5:(List Int))=>(ag1 ((p1.1+1),(p1.2++([({Kind:=2,N:=0,B:=x5,L:=([]:List ak)}:ak)]:List ak)))))) else (ab (fP ({Kind:=3,N:=0,B:=([]:List Int),L:=p1.2}:ak)) (fun (x9:((List Int)×Int))=>(ab (fR tag (x9.1)) (fun (x13:((List Int)×Int))=>x13.1)))))) (fun _=>default) (0,([]:List ak)))
def vO (l:(List aO)):(List Int):=
 (if ((l.length:Int)==0) then [0,0,0,0,0,0,0,0,0,0,0,0,0,0,0,0,0,0,0,0,0,0,0,0,0,0,0,0,0,0,0,0] else (am (((l.length:Int) - 0).toNat+1) (fun (ag4:(Int×List (List Int))→(List Int)) (p4:Int×List (List Int))=>(if (decide (p4.1<(l.length:Int))) then (ab (vN (gt l p4.1)) (fun (x8:(List Int))=>(ag4 ((p4.1+1),(p4.2++([x8]:List (List Int))))))) else (ab (rm ([115,112,101,99,105,101,47,99,104,97,105,110]) (p4.2)) (fun (x12:(List Int))=>x12)))) (fun _=>default) (0,([]:List (List Int)))))
def vP (c:bD) (before:(List Int)):(List Int):=
 (ab (ri c) (fun (x1:(List Int))=>(ab (rm ([115,112,101,99,105,101,47,99,104,97,105,110,45,110,101,120,116]) ([x1,before]:List (List Int))) (fun (x3:(List Int))=>x3))))
def mY (l:(List aO)) (next:bD):Bool:=
 (if ((gt l ((l.length:Int) - 1)).Context.Number==((l.length:Int) - 1)) then (ab (vO (sl l 0 ((l.length:Int) - 1))) (fun (x5:(List Int))=>(ab (vP next x5) (fun (x7:(List Int))=>(uS ((gt l ((l.length:Int) - 1)).Context.Payee) x7))))) else false)
def mZ (b:a8) (l:(List bu)) (h_:bX):Bool:=
 (ab (i9 b) (fun (x1:Bool)=>(if (!x1) then false else (if (decide ((h_.L.length:Int)>8)) then false else (ab (cL h_) (fun (x9:(List aO))=>(am (((x9.length:Int) - 0).toNat+1) (fun (ag13:Int→Bool) (p13:Int)=>(if (decide (p13<(x9.length:Int))) then (ab (eg l ((gt x9 p13).Coin)) (fun (x17:(bu×Bool))=>(if (!x17.2) then false else (ab (fh b (x17.1) (gt x9 p13)) (fun (x22:Bool)=>(if (!x22) then false else (if (p13==0) then (if (decide (x17.1.Value≤0)) then false else (if (decide (p13>0)) then (if (x17.1.Value !=0) then false else (if (x17.1.Depth !=0) then false else (if (decide (p13>0)) then (ab (mY (sl x9 0 p13) ((gt x9 p13).Coin)) (fun (x41:Bool)=>(if (!x41) then false else (if (decide ((gt x9 p13).Context.Time<(gt x9 (p13 - 1)).Context.Time)) then false else (ag13 (p13+1)))))) else (ag13 (p13+1))))) else (if (decide (p13>0)) then (ab (mY (sl x9 0 p13) ((gt x9 p13).Coin)) (fun (x56:Bool)=>(if (!x56) then false else (if (decide ((gt x9 p13).Context.Time<(gt x9 (p13 - 1)).Context.Time)) then false else (ag13 (p13+1)))))) else (ag13 (p13+1))))) else (if (decide (p13>0)) then (if (x17.1.Value !=0) then false else (if (x17.1.Depth !=0) then false else (if (decide (p13>0)) then (ab (mY (sl x9 0 p13) ((gt x9 p13).Coin)) (fun (x78:Bool)=>(if (!x78) then false else (if (decide ((gt x9 p13).Context.Time<(gt x9 (p13 - 1)).Context.Time)) then false else (ag13 (p13+1)))))) else (ag13 (p13+1))))) else (if (decide (p13>0)) then (ab (mY (sl x9 0 p13) ((gt x9 p13).Coin)) (fun (x93:Bool)=>(if (!x93) then false else (if (decide ((gt x9 p13).Context.Time<(gt x9 (p13 - 1)).Context.Time)) then false else (ag13 (p13+1)))))) else (ag13 (p13+1))))))))))) else true)) (fun _=>default) 0)))))))
def je (k_:bU):Bool:=
 (am (((k_.p.Spends.length:Int) - 0).toNat+1) (fun (ag1:Int→Bool) (p1:Int)=>(if (decide (p1<(k_.p.Spends.length:Int))) then (ab (dT k_ ((gt k_.p.Spends p1).Coin)) (fun (x5:(bu×Bool))=>(ab (fh (k_.b) (x5.1) (gt k_.p.Spends p1)) (fun (x8:Bool)=>(if (!x8) then false else (ag1 (p1+1))))))) else (am (((k_.p.Chains.length:Int) - 0).toNat+1) (fun (ag15:Int→Bool) (p15:Int)=>(if (decide (p15<(k_.p.Chains.length:Int))) then (ab (mZ (k_.b) (k_.l) (gt k_.p.Chains p15)) (fun (x19:Bool)=>(if (!x19) then false else (ag15 (p15+1))))) else true)) (fun _=>default) 0))) (fun _=>default) 0)
def vQ (v:bO):(eK×Int):=
 (ab (im v) (fun (x1:Bool)=>(if (!x1) then (kY,1) else (({Payee:=v.Payee,Time:=v.Time,Number:=v.Number}:eK),0))))
def oA (h_:bX):aO:=
 (if (decide ((h_.L.length:Int)>0)) then (gt h_.L ((h_.L.length:Int) - 1)) else h_.First)
def gG (k_:bU):(List aO):=
 (am (((k_.p.Chains.length:Int) - 0).toNat+1) (fun (ag1:(Int×List aO)→(List aO)) (p1:Int×List aO)=>(if (decide (p1.1<(k_.p.Chains.length:Int))) then (ab (oA (gt k_.p.Chains p1.1)) (fun (x5:aO)=>(ag1 ((p1.1+1),(p1.2++([x5]:List aO)))))) else p1.2)) (fun _=>default) (0,(([]:List aO)++k_.p.Spends)))
def rn (k_:bU):Bool:=
 (ab (vQ (k_.v)) (fun (x1:(eK×Int))=>(ab (gG k_) (fun (x4:(List aO))=>(am (((x4.length:Int) - 0).toNat+1) (fun (ag8:Int→Bool) (p8:Int)=>(if (decide (p8<(x4.length:Int))) then (if (!(zK ((gt x4 p8).Context) (x1.1))) then false else (ag8 (p8+1))) else true)) (fun _=>default) 0)))))
def kb (r_:bu) (now:Int):Bool:=
 (if (decide (r_.From≤now)) then (decide (now<r_.Final)) else false)
def kc (k_:bU):Bool:=
 (ab (ix k_) (fun (x1:(List bD))=>(am (((x1.length:Int) - 0).toNat+1) (fun (ag5:Int→Bool) (p5:Int)=>(if (decide (p5<(x1.length:Int))) then (ab (dT k_ (gt x1 p5)) (fun (x9:(bu×Bool))=>(ab (kb (x9.1) (k_.v.Time)) (fun (x12:Bool)=>(if (!x12) then false else (ag5 (p5+1))))))) else true)) (fun _=>default) 0)))
def kd (p_:bR):(List cy):=
 (ab (j4 p_) (fun (x1:(List aO))=>(am (((x1.length:Int) - 0).toNat+1) (fun (ag5:(Int×List cy)→(List cy)) (p5:Int×List cy)=>(if (decide (p5.1<(x1.length:Int))) then (am ((((gt x1 p5.1).Leaves.length:Int) - 0).toNat+1) (fun (ag9:(Int×List cy)→(List cy)) (p9:Int×List cy)=>(if (decide (p9.1<((gt x1 p5.1).Leaves.length:Int))) then (ag9 ((p9.1+1),(p9.2++([({A:=(gt x1 p5.1).Coin.A,B:=(gt (gt x1 p5.1).Leaves p9.1).B,Spend:=(gt x1 p5.1),Leaf:=p9.1}:cy)]:List cy)))) else (ag5 ((p5.1+1),p9.2)))) (fun _=>default) (0,p5.2)) else p5.2)) (fun _=>default) (0,([]:List cy)))))
def lr (k_:bU):Bool:=
 (ab (kd (k_.p)) (fun (x1:(List cy))=>(am (((x1.length:Int) - 0).toNat+1) (fun (ag5:(Int×List (List Int))→Bool) (p5:Int×List (List Int))=>(if (decide (p5.1<(x1.length:Int))) then (if (List.contains p5.2 [(gt x1 p5.1).A,(gt x1 p5.1).B]) then false else (ag5 ((p5.1+1),(fp p5.2 [(gt x1 p5.1).A,(gt x1 p5.1).B])))) else true)) (fun _=>default) (0,([]:List (List Int))))))
def vR (v:bO):((List UInt8)×Int):=
 (ab (mL v) (fun (x1:((List Int)×Int))=>(if (x1.2 !=0) then ([],x1.2) else (ab (fR ([115,112,101,99,105,101,47,105,110,118,111,105,99,101]) (x1.1)) (fun (x8:((List Int)×Int))=>(if (x8.2 !=0) then ([],x8.2) else (ab (od (x8.1)) (fun (x14:(List UInt8))=>(([112,97,121,58]++((x14.drop (0:Int).toNat).take ((16:Int).toNat - (0:Int).toNat))),0)))))))))
def rp (b:a8) (x_:Int):Bool:=
 (if (x_ !=1) then (ab (iv (b.Group) x_) (fun (x3:Bool)=>x3)) else false)
def vS (b:a8) (x_:Int) (y:Int):Int:=
 (ab (ox (b.Group) x_ y) (fun (x1:(Int×Int))=>x1.1))
def rq (b:a8) (x_:Int) (e_:Int):Int:=
 (ab (ow (b.Group) x_ e_) (fun (x1:(Int×Int))=>x1.1))
def vT (b:a8) (y:Int) (pseudonym:Int) (x_:cW):cv:=
 (ab (vS b (x_.E2) (b.G2)) (fun (x1:Int)=>(ab (rq b y (-1)) (fun (x3:Int)=>(ab (rq b (b.Group.G) (-1)) (fun (x5:Int)=>({Y:=([pseudonym,1]:List Int),Bases:=([([x1,x3]:List Int),([x_.E1,x5]:List Int)]:List (List Int))}:cv)))))))
def vU (b:a8) (y:Int) (pseudonym:Int) (x_:cW):(cv×Int):=
 (ab (i9 b) (fun (x1:Bool)=>(if (!x1) then (jP,1) else (ab (rp b y) (fun (x7:Bool)=>(if (!x7) then (jP,2) else (ab (rp b pseudonym) (fun (x12:Bool)=>(if (!x12) then (jP,2) else (ab (iv (b.Group) (x_.E1)) (fun (x17:Bool)=>(if (!x17) then (jP,2) else (ab (iv (b.Group) (x_.E2)) (fun (x22:Bool)=>(if (!x22) then (jP,2) else (ab (vT b y pseudonym x_) (fun (x28:cv)=>(x28,0))))))))))))))))))
def vV (g:aQ) (x_:Int):Bool:=
 (if (decide (x_<1)) then false else (if (decide (x_≥g.P)) then false else (ab (ir x_ (g.Q) (g.P)) (fun (x6:(Int×Int))=>(if (x6.2==0) then (x6.1==1) else false)))))
def vW (x_:Int) (c0:aQ):Bool:=
 (ab (vV c0 x_) (fun (x1:Bool)=>(!x1)))
def vX (s:(List Int)) (f__c0:aQ):Int:=
 (am (((s.length:Int) - 0).toNat+1) (fun (ag1:Int→Int) (p1:Int)=>(if (decide (p1<(s.length:Int))) then (ab (vW (gt s p1) f__c0) (fun (x5:Bool)=>(if x5 then p1 else (ag1 (p1+1))))) else (-1))) (fun _=>default) 0)
def vY (s:(List Int)) (f__c0:aQ):Bool:=
 (ab (vX s f__c0) (fun (x1:Int)=>(decide (x1≥0))))
def rr (g:aQ) (l:(List Int)):Bool:=
 (ab (vY l g) (fun (x1:Bool)=>(!x1)))
def oB (row:(List Int)) (c0:Int) (c1:aQ):Bool:=
 (if ((row.length:Int) !=c0) then true else (ab (rr c1 row) (fun (x3:Bool)=>(!x3))))
def m0 (s:(List (List Int))) (f__c0:Int) (f__c1:aQ):Int:=
 (am (((s.length:Int) - 0).toNat+1) (fun (ag1:Int→Int) (p1:Int)=>(if (decide (p1<(s.length:Int))) then (ab (oB (gt s p1) f__c0 f__c1) (fun (x5:Bool)=>(if x5 then p1 else (ag1 (p1+1))))) else (-1))) (fun _=>default) 0)
def oC (s:(List (List Int))) (f__c0:Int) (f__c1:aQ):Bool:=
 (ab (m0 s f__c0 f__c1) (fun (x1:Int)=>(decide (x1≥0))))
def ls (g:aQ) (r_:cv):Bool:=
 (ab (iu g) (fun (x1:Bool)=>(if (!x1) then false else (if (decide ((r_.Y.length:Int)<1)) then false else (if (decide ((r_.Y.length:Int)>8)) then false else (if ((r_.Bases.length:Int) !=(r_.Y.length:Int)) then false else (ab (rr g (r_.Y)) (fun (x12:Bool)=>(if (!x12) then false else (if (decide (((gt r_.Bases 0).length:Int)<1)) then false else (if (decide (((gt r_.Bases 0).length:Int)>12)) then false else (ab (oC (r_.Bases) ((gt r_.Bases 0).length:Int) g) (fun (x24:Bool)=>(!x24))))))))))))))
def gH (r_:cv):Int:=
 ((gt r_.Bases 0).length:Int)
def vZ (x_:Int) (c0:aQ):Bool:=
 (if (decide (x_<0)) then true else (decide (x_≥c0.Q)))
def v_ (s:(List Int)) (f__c0:aQ):Int:=
 (am (((s.length:Int) - 0).toNat+1) (fun (ag1:Int→Int) (p1:Int)=>(if (decide (p1<(s.length:Int))) then (ab (vZ (gt s p1) f__c0) (fun (x5:Bool)=>(if x5 then p1 else (ag1 (p1+1))))) else (-1))) (fun _=>default) 0)
def wa (s:(List Int)) (f__c0:aQ):Bool:=
 (ab (v_ s f__c0) (fun (x1:Int)=>(decide (x1≥0))))
def rt (g:aQ) (l:(List Int)):Bool:=
 (ab (wa l g) (fun (x1:Bool)=>(!x1)))
def ru (g:aQ) (start:Int) (bases:(List Int)) (exps:(List Int)):Int:=
 (am (((bases.length:Int) - 0).toNat+1) (fun (ag1:(Int×Int)→Int) (p1:Int×Int)=>(if (decide (p1.2<(bases.length:Int))) then (ab (ir (gt bases p1.2) (gt exps p1.2) (g.P)) (fun (x6:(Int×Int))=>(ab (mU (p1.1) (x6.1) (g.P)) (fun (x8:(Int×Int))=>(ag1 (x8.1,(p1.2+1))))))) else p1.1)) (fun _=>default) (start,0))
def oD (g:aQ) (rows:(List (List Int))) (exps:(List Int)):(List Int):=
 (am (((rows.length:Int) - 0).toNat+1) (fun (ag1:(Int×List Int)→(List Int)) (p1:Int×List Int)=>(if (decide (p1.1<(rows.length:Int))) then (ab (ru g 1 (gt rows p1.1) exps) (fun (x5:Int)=>(ag1 ((p1.1+1),(p1.2++([x5]:List Int)))))) else p1.2)) (fun _=>default) (0,([]:List Int)))
def wb (g:aQ) (r_:cv) (c:Int) (z_:(List Int)):(List Int):=
 (ab (oD g (r_.Bases) z_) (fun (x1:(List Int))=>(am (((r_.Y.length:Int) - 0).toNat+1) (fun (ag5:(Int×List Int)→(List Int)) (p5:Int×List Int)=>(if (decide (p5.1<(r_.Y.length:Int))) then (ab (ir (gt r_.Y p5.1) (cj .i64 (aG .i64 g.Q c) g.Q) (g.P)) (fun (x9:(Int×Int))=>(ab (mU (gt p5.2 p5.1) (x9.1) (g.P)) (fun (x12:(Int×Int))=>(ag5 ((p5.1+1),(st p5.2 p5.1 x12.1))))))) else p5.2)) (fun _=>default) (0,x1))))
def wc (s1:(List Int)) (s2:(List Int)):Bool:=
 (if ((s1.length:Int) !=(s2.length:Int)) then false else (am (((s1.length:Int) - 0).toNat+1) (fun (ag4:Int→Bool) (p4:Int)=>(if (decide (p4<(s1.length:Int))) then (if ((gt s1 p4) !=(gt s2 p4)) then false else (ag4 (p4+1))) else true)) (fun _=>default) 0))
def m4 (g:aQ) (r_:cv) (p_:fH):Bool:=
 (ab (ls g r_) (fun (x1:Bool)=>(if (!x1) then false else (if ((p_.A.length:Int) !=(r_.Y.length:Int)) then false else (ab (gH r_) (fun (x8:Int)=>(if ((p_.Z.length:Int) !=x8) then false else (ab (rt g ([p_.C]:List Int)) (fun (x12:Bool)=>(if (!x12) then false else (ab (rt g (p_.Z)) (fun (x16:Bool)=>(if (!x16) then false else (ab (wb g r_ (p_.C) (p_.Z)) (fun (x22:(List Int))=>(ab (wc x22 (p_.A)) (fun (x24:Bool)=>x24)))))))))))))))))
def wd (c:Int):Bool:=
 (if (decide (c<33)) then true else (decide (c>126)))
def we (s:(List Int)):Int:=
 (am (((s.length:Int) - 0).toNat+1) (fun (ag1:Int→Int) (p1:Int)=>(if (decide (p1<(s.length:Int))) then (ab (wd (gt s p1)) (fun (x5:Bool)=>(if x5 then p1 else (ag1 (p1+1))))) else (-1))) (fun _=>default) 0)
def wg (s:(List Int)):Bool:=
 (ab (we s) (fun (x1:Int)=>(decide (x1≥0))))
def lu (label:(List UInt8)):Bool:=
 (if (decide ((label.length:Int)≥1)) then (if (decide ((label.length:Int)≤24)) then (ab (wg (gx label)) (fun (x5:Bool)=>(!x5))) else false) else false)
def wh (label:(List UInt8)):(bZ×Int):=
 (ab (lu label) (fun (x1:Bool)=>(if (!x1) then (dJ,1) else (ab (fR ([115,112,101,99,105,101,47,116,114,97,110,115,99,114,105,112,116]) (gx label)) (fun (x8:((List Int)×Int))=>(({State:=x8.1,Count:=0}:bZ),x8.2))))))
def rx (t:bZ):Bool:=
 (if (decide (t.Count≥0)) then (decide (t.Count≤1000)) else false)
def ry (tag:(List UInt8)) (t:bZ) (label:(List UInt8)) (more:(List ak)):((List Int)×Int):=
 (ab (fP ({Kind:=3,N:=0,B:=([]:List Int),L:=(([({Kind:=2,N:=0,B:=(bc 32 t.State),L:=([]:List ak)}:ak),({Kind:=2,N:=0,B:=(gx label),L:=([]:List ak)}:ak)]:List ak)++more)}:ak)) (fun (x1:((List Int)×Int))=>(if (x1.2 !=0) then ([0,0,0,0,0,0,0,0,0,0,0,0,0,0,0,0,0,0,0,0,0,0,0,0,0,0,0,0,0,0,0,0],x1.2) else (ab (fR tag (x1.1)) (fun (x8:((List Int)×Int))=>(x8.1,x8.2))))))
def rz (t:bZ) (label:(List UInt8)) (i_:ak):(bZ×Int):=
 (ab (rx t) (fun (x1:Bool)=>(if (!x1) then (dJ,1) else (ab (lu label) (fun (x6:Bool)=>(if (!x6) then (dJ,1) else (ab (ry ([115,112,101,99,105,101,47,97,98,115,111,114,98]) t label ([i_]:List ak)) (fun (x13:((List Int)×Int))=>(if (x13.2==1) then (dJ,1) else (if (x13.2 !=0) then (dJ,5) else (if (t.Count==1000) then (dJ,5) else (({State:=x13.1,Count:=(ax .i64 t.Count 1)}:bZ),0))))))))))))
def wi (t:bZ) (label:(List UInt8)) (l:(List Int)):(bZ×Int):=
 (ab (fS l) (fun (x1:ak)=>(ab (rz t label x1) (fun (x4:(bZ×Int))=>(x4.1,x4.2)))))
def bL (name:(List UInt8)) (l_:(List Int)) (c0:Int) (c1:bZ):(Int×bZ):=
 (if (c0==0) then (ab (wi c1 name l_) (fun (x3:(bZ×Int))=>(x3.2,x3.1))) else (c0,c1))
def wj (t:bZ) (label:(List UInt8)) (q:Int):(bZ×Int×Int):=
 (ab (rx t) (fun (x1:Bool)=>(if (!x1) then (dJ,0,1) else (ab (lu label) (fun (x6:Bool)=>(if (!x6) then (dJ,0,1) else (if (decide (q<2)) then (dJ,0,2) else (if (decide (q≥2305843009213693952)) then (dJ,0,2) else (if (t.Count==1000) then (dJ,0,5) else (ab (ry ([115,112,101,99,105,101,47,99,104,97,108,108,101,110,103,101]) t label ([]:List ak)) (fun (x21:((List Int)×Int))=>(if (x21.2 !=0) then (dJ,0,x21.2) else (ab (ov (x21.1) q) (fun (x27:(Int×Int))=>(if (x27.2 !=0) then (dJ,0,x27.2) else (ab (rz t label ({Kind:=1,N:=x27.1,B:=([]:List Int),L:=([]:List ak)}:ak)) (fun (x33:(bZ×Int))=>(if (x33.2 !=0) then (dJ,0,x33.2) else (x33.1,x27.1,0)))))))))))))))))))
def wk (g:aQ) (r_:cv) (a_:(List Int)) (label:(List UInt8)):(Int×Int):=
 (ab (wh label) (fun (x1:(bZ×Int))=>(ab (bL ([103,114,111,117,112]) ([g.P,g.Q,g.G]:List Int) (x1.2) (x1.1)) (fun (x4:(Int×bZ))=>(ab (bL ([121]) (r_.Y) (x4.1) (x4.2)) (fun (x7:(Int×bZ))=>(am (((r_.Bases.length:Int) - 0).toNat+1) (fun (ag10:(Int×bZ×Int)→(Int×Int)) (p10:Int×bZ×Int)=>(if (decide (p10.1<(r_.Bases.length:Int))) then (ab (bL ([98,97,115,101,115]) (gt r_.Bases p10.1) (p10.2.2) (p10.2.1)) (fun (x14:(Int×bZ))=>(ag10 ((p10.1+1),x14.2,x14.1)))) else (ab (bL ([99,111,109,109,105,116]) a_ (p10.2.2) (p10.2.1)) (fun (x18:(Int×bZ))=>(if (x18.1 !=0) then (0,x18.1) else (ab (wj (x18.2) ([99,104,97,108,108,101,110,103,101]) (g.Q)) (fun (x24:(bZ×Int×Int))=>(x24.2.1,x24.2.2)))))))) (fun _=>default) (0,x7.2,x7.1))))))))
def wm (g:aQ) (r_:cv) (label:(List UInt8)) (p_:fH):Bool:=
 (ab (m4 g r_ p_) (fun (x1:Bool)=>(if (!x1) then false else (ab (wk g r_ (p_.A) label) (fun (x8:(Int×Int))=>(if (x8.2==0) then (x8.1==p_.C) else false))))))
def wn (b:a8) (y:Int) (pseudonym:Int) (label:(List UInt8)) (x_:cW):Bool:=
 (ab (vU b y pseudonym x_) (fun (x1:(cv×Int))=>(if (x1.2==0) then (ab (wm (b.Group) (x1.1) label (x_.Proof)) (fun (x6:Bool)=>x6)) else false)))
def ke (k_:bU):Bool:=
 (if (k_.y==0) then ((k_.p.Escrow.length:Int)==0) else (ab (vR (k_.v)) (fun (x4:((List UInt8)×Int))=>(ab (gG k_) (fun (x7:(List aO))=>(if ((x7.length:Int) !=(k_.p.Escrow.length:Int)) then false else (am (((x7.length:Int) - 0).toNat+1) (fun (ag14:Int→Bool) (p14:Int)=>(if (decide (p14<(x7.length:Int))) then (ab (wn (k_.b) (k_.y) ((gt x7 p14).Coin.A) (x4.1) (gt k_.p.Escrow p14)) (fun (x19:Bool)=>(if (!x19) then false else (ag14 (p14+1))))) else true)) (fun _=>default) 0)))))))
def jf (r_:bu) (s:aO):(Int×Int):=
 (if (decide (r_.Value<0)) then (0,1) else (if (decide (r_.Value>1099511627776)) then (0,1) else (if (decide (r_.Depth<0)) then (0,1) else (if (decide (r_.Depth>5)) then (0,1) else (ab (iy (r_.Depth) (s.Node)) (fun (x10:Bool)=>(if (!x10) then (0,2) else ((ay .i64 r_.Value s.Node.Level),0))))))))
def lv (l:(List bu)) (h_:bX):(Int×Int):=
 (ab (eg l (h_.First.Coin)) (fun (x1:(bu×Bool))=>(if (!x1.2) then (0,18) else (ab (jf (x1.1) (h_.First)) (fun (x7:(Int×Int))=>(x7.1,x7.2))))))
def kf (k_:bU):Int:=
 (am (((k_.p.Spends.length:Int) - 0).toNat+1) (fun (ag1:(Int×Int)→Int) (p1:Int×Int)=>(if (decide (p1.2<(k_.p.Spends.length:Int))) then (ab (dT k_ ((gt k_.p.Spends p1.2).Coin)) (fun (x5:(bu×Bool))=>(ab (jf (x5.1) (gt k_.p.Spends p1.2)) (fun (x8:(Int×Int))=>(ag1 ((ax .i64 p1.1 x8.1),(p1.2+1))))))) else (am (((k_.p.Chains.length:Int) - 0).toNat+1) (fun (ag12:(Int×Int)→Int) (p12:Int×Int)=>(if (decide (p12.2<(k_.p.Chains.length:Int))) then (ab (lv (k_.l) (gt k_.p.Chains p12.2)) (fun (x16:(Int×Int))=>(ag12 ((ax .i64 p12.1 x16.1),(p12.2+1))))) else p12.1)) (fun _=>default) (p1.1,0)))) (fun _=>default) (0,0))
def oE (c0:bU) (c1:bO):Bool:=
 (ab (kf c0) (fun (x1:Int)=>(x1==c1.Amount)))
def iz:List (Bool×Int)→Int→Int×Int
 | [],n=>(n,0)
 | (true,_)::l,n=>iz l n
 | (false,e)::_,_=>(0,e)
def oF (b:a8) (l:List bu) (y:Int) (v:bO) (p:bR):List (Bool×Int):=
 [(jZ ⟨b,l,y,v,p⟩,1),(ra p,5),(rb p v,14),(gF ⟨b,l,y,v,p⟩,18),(je ⟨b,l,y,v,p⟩,11),(rn ⟨b,l,y,v,p⟩,16),(kc ⟨b,l,y,v,p⟩,15),(lr ⟨b,l,y,v,p⟩,8),(ke ⟨b,l,y,v,p⟩,12),(oE ⟨b,l,y,v,p⟩ v,17)]
def iA (b:a8) (l:List bu) (y:Int) (v:bO) (p:bR):Int×Int:=iz (oF b l y v p) v.Amount
def rA (s:List aO):List aO:=s
def rC (b:a8) (l:(List bu)) (y:Int) (v:bO) (p_:bR):Bool:=
 (ab (qZ) (fun (x1:Bool)=>(if (!x1) then false else (ab (jX p_) (fun (x7:Bool)=>(if x7 then true else (if (decide ((l.length:Int)>20)) then true else (ab (iA b l y v p_) (fun (x14:(Int×Int))=>(if (x14.2 !=0) then (x14.1==0) else (ab (rA (p_.Spends)) (fun (x20:(List aO))=>(am (((p_.Chains.length:Int) - 0).toNat+1) (fun (ag24:(Int×List aO)→Bool) (p24:Int×List aO)=>(if (decide (p24.1<(p_.Chains.length:Int))) then (ag24 ((p24.1+1),(p24.2++([(gt p_.Chains p24.1).First]:List aO)))) else (am (((p24.2.length:Int) - 0).toNat+1) (fun (ag29:(Int×Int)→Bool) (p29:Int×Int)=>(if (decide (p29.2<(p24.2.length:Int))) then (ab (ja l ((gt p24.2 p29.2).Coin.Bank) ((gt p24.2 p29.2).Coin.Epoch) ((gt p24.2 p29.2).Coin.Denom)) (fun (x33:Int)=>(if (decide (x33<0)) then false else (if (decide (x33≥(l.length:Int))) then false else (ab (kb (gt l x33) (v.Time)) (fun (x42:Bool)=>(if (!x42) then false else (if (decide ((gt l x33).Depth<0)) then false else (if (decide ((gt l x33).Depth>5)) then false else (ag29 ((ax .i64 p29.1 (aR .i64 (ay .i64 (gt l x33).Value (gt l x33).Depth) ((gt p24.2 p29.2).Leaves.length:Int))),(p29.2+1)))))))))))) else (ab (kd p_) (fun (x56:(List cy))=>(am (((x56.length:Int) - 0).toNat+1) (fun (ag60:(Int×List (List Int))→Bool) (p60:Int×List (List Int))=>(if (decide (p60.1<(x56.length:Int))) then (if (List.contains p60.2 [(gt x56 p60.1).A,(gt x56 p60.1).B]) then false else (ag60 ((p60.1+1),(fp p60.2 [(gt x56 p60.1).A,(gt x56 p60.1).B])))) else (if (x14.1==v.Amount) then (if (p29.1==x14.1) then ((y !=0)==(decide ((p_.Escrow.length:Int)>0))) else false) else false))) (fun _=>default) (0,([]:List (List Int)))))))) (fun _=>default) (0,0)))) (fun _=>default) (0,x20))))))))))))))
end Go.Proofs.YtcbbjfckokckcaaGreatDoor
namespace Go.Proofs.YtcbbjfckokckcaaGreatDoor
open Go.RowKit
theorem w64 (a:Int):IntKind.wrap .u64 a=a% 18446744073709551616:=by simp [IntKind.wrap,IntKind.bits,IntKind.signed]
theorem kg {k:IntKind} {x:Int} {n:Int} {m:Nat} (hn:min n.toNat k.bits=m):ay k x n=x/2^m:=by
 unfold ay;rw [hn,Int.fdiv_eq_ediv_of_nonneg];exact Int.le_of_lt (Int.pow_pos (by decide))
theorem kh (x:Int):ay .u64 x 32=x/4294967296:=kg (m:=32) rfl
theorem Hx (x:Int):ay .u64 x 58=x/288230376151711744:=kg (m:=58) rfl
theorem cF (x:Int):ay .u64 x 1=x/2:=kg (m:=1) rfl
theorem cM (x:Int):ay .i64 x 1=x/2:=kg (m:=1) rfl
theorem Ab {x:Int}:0≤ay .u64 (aR .u64 x 285870213051353865) 58∧ay .u64 (aR .u64 x 285870213051353865) 58<64:=by
 rw [Hx];unfold aR;rw [w64];omega
def Hy (x:Int) (l:Nat):Prop:=1≤l∧(2:Int)^(l - 1)≤x∧x<2^l
theorem Hz (x:Nat):1≤x→x<2^64→1≤Lib.bitLen x∧2^(Lib.bitLen x - 1)≤x∧x<2^Lib.bitLen x:=by
 induction x using Nat.strongRecOn with
 | ind x ih=>
  intro h0 h1
  by_cases h:x=1
  ·subst h;decide
  ·obtain ⟨a1,a2,a3⟩:=ih (x/2) (by omega) (by omega) (by omega)
   rw [Lib.bitLen_half x (by omega) h1]
   generalize Lib.bitLen (x/2)=l at a1 a2 a3
   obtain ⟨l,rfl⟩: ∃k,l=k+1:=⟨l - 1,by omega⟩
   refine ⟨by omega,?_,?_⟩
   ·rw [show 1+(l+1) - 1=l+1 by omega,Nat.pow_succ]
    simp only [Nat.add_sub_cancel] at a2
    omega
   ·rw [show 1+(l+1)=(l+1)+1 by omega,Nat.pow_succ]
    omega
theorem HB {x:Int} (h0:1≤x) (h1:x≤18446744073709551615): ∃l:Nat,qW x=l∧Hy x l∧l≤64:=by
 obtain ⟨k,rfl⟩:=Int.eq_ofNat_of_zero_le (show 0≤x by omega)
 have hk:k<2^64:=by omega
 obtain ⟨a1,a2,a3⟩:=Hz k (by omega) hk
 exact ⟨Lib.bitLen k,rfl,⟨a1,by exact_mod_cast a2,by exact_mod_cast a3⟩,Lib.bitLen_le k 64 (by decide) hk⟩
theorem Ac {x y:Int} (hx:x=lj y) (h0:1≤y) (h1:y≤18446744073709551615):0≤x∧x≤63∧9223372036854775808≤aA .u64 y (ae .u64 x)∧aA .u64 y (ae .u64 x)=y*2^x.toNat:=by
 obtain ⟨l,e1,⟨e2,e3,e4⟩,e5⟩:=HB h0 h1
 have hx2:x=64 - (l:Int):=by
  rw [hx];unfold lj ab;rw [e1];simp only;unfold aG;rw [IntKind.wrap_i64];omega
 have hc:ae .u64 x=x:=mr (by omega) (by omega)
 have hn:x.toNat=64 - l:=by omega
 have hm:min (ae .u64 x).toNat IntKind.u64.bits=64 - l:=by rw [hc,hn];show min (64 - l) 64=_;omega
 have hp:(2:Int)^l*2^(64 - l)=18446744073709551616:=by rw [←Int.pow_add,show l+(64 - l)=64 by omega];decide
 have hq:(2:Int)^(l - 1)*2^(64 - l)=9223372036854775808:=by rw [←Int.pow_add,show l - 1+(64 - l)=63 by omega];decide
 have h2:(0:Int)<2^(64 - l):=Int.pow_pos (by decide)
 have g1:=Int.mul_le_mul_of_nonneg_right e3 (Int.le_of_lt h2)
 have g2:=Int.mul_lt_mul_of_pos_right e4 h2
 rw [hp] at g2;rw [hq] at g1
 have e:aA .u64 y (ae .u64 x)=y*2^x.toNat:=by
  unfold aA;rw [hm,w64,hn];exact Int.emod_eq_of_lt (by omega) g2
 exact ⟨by omega,by omega,by rw [e,hn];exact g1,e⟩
theorem oG {x:Int} (h0:0≤x) (h1:x≤18446744073709551615):bF .u64 x 4294967295=x% 4294967296:=by
 obtain ⟨k,rfl⟩:=Int.eq_ofNat_of_zero_le h0
 unfold bF
 have e1:(BitVec.ofInt IntKind.u64.bits (k:Int)).toNat=k:=by
  show (BitVec.ofInt 64 (k:Int)).toNat=k
  rw [BitVec.toNat_ofInt];omega
 have e2:(BitVec.ofInt IntKind.u64.bits 4294967295).toNat=2^32 - 1:=by decide
 rw [BitVec.toNat_and,e1,e2,Nat.and_two_pow_sub_one_eq_mod,w64]
 omega
theorem m5 {a b A:Int} (h1:0≤a) (h2:a≤A) (h3:0≤b) (h4:b≤A):0≤a*b∧a*b≤A*A:=
 ⟨Int.mul_nonneg h1 h3,Int.mul_le_mul h2 h4 h3 (Int.le_trans h1 h2)⟩
theorem dn {a:Int} (h0:0≤a) (h1:a≤18446744073709551615):IntKind.wrap .u64 a=a:=by rw [w64];omega
theorem Ad {x y:Int} (hx0:0≤x) (hx1:x≤18446744073709551615) (hy0:0≤y) (hy1:y≤18446744073709551615):jY x y=(x*y/18446744073709551616,x*y% 18446744073709551616):=by
 unfold jY
 rw [oG hx0 hx1,oG hy0 hy1,kh x,kh y]
 obtain ⟨x1,x0,rfl,h1,h2,h3,h4⟩: ∃x1 x0:Int,x=x1*4294967296+x0∧0≤x1∧x1≤4294967295∧0≤x0∧x0≤4294967295:=⟨x/4294967296,x% 4294967296,by omega,by omega,by omega,by omega,by omega⟩
 obtain ⟨y1,y0,rfl,g1,g2,g3,g4⟩: ∃y1 y0:Int,y=y1*4294967296+y0∧0≤y1∧y1≤4294967295∧0≤y0∧y0≤4294967295:=⟨y/4294967296,y% 4294967296,by omega,by omega,by omega,by omega,by omega⟩
 rw [show (x1*4294967296+x0)/4294967296=x1 by omega,show (y1*4294967296+y0)/4294967296=y1 by omega,show (x1*4294967296+x0)% 4294967296=x0 by omega,show (y1*4294967296+y0)% 4294967296=y0 by omega]
 have ea:=m5 h1 h2 g1 g2
 have eb:=m5 h1 h2 g3 g4
 have ec:=m5 h3 h4 g1 g2
 have ed:=m5 h3 h4 g3 g4
 have ex:(x1*4294967296+x0)*(y1*4294967296+y0)=x1*y1*18446744073709551616+(x1*y0+x0*y1)*4294967296+x0*y0:=by
  simp only [Int.add_mul,Int.mul_add]
  rw [show x1*4294967296*(y1*4294967296)=x1*y1*18446744073709551616 by rw [Int.mul_assoc,Int.mul_comm 4294967296 (y1*4294967296),Int.mul_assoc y1,←Int.mul_assoc];rfl,show x1*4294967296*y0=x1*y0*4294967296 by rw [Int.mul_assoc,Int.mul_comm 4294967296,←Int.mul_assoc],show x0*(y1*4294967296)=x0*y1*4294967296 by rw [Int.mul_assoc]]
  omega
 have em:aR .u64 (x1*4294967296+x0) (y1*4294967296+y0)=((x1*4294967296+x0)*(y1*4294967296+y0))% 18446744073709551616:=by unfold aR;rw [w64]
 have ma:aR .u64 x1 y1=x1*y1:=dn ea.1 (by omega)
 have mb:aR .u64 x1 y0=x1*y0:=dn eb.1 (by omega)
 have mc:aR .u64 x0 y1=x0*y1:=dn ec.1 (by omega)
 have md:aR .u64 x0 y0=x0*y0:=dn ed.1 (by omega)
 rw [em,ex,ma,mb,mc,md]
 generalize x1*y1=a at ea
 generalize x1*y0=b at eb
 generalize x0*y1=c at ec
 generalize x0*y0=d at ed
 rw [kh d]
 have t1:ax .u64 b (d/4294967296)=b+d/4294967296:=dn (by omega) (by omega)
 rw [t1,kh (b+d/4294967296),oG (by omega) (by omega)]
 have t2:ax .u64 ((b+d/4294967296)% 4294967296) c=(b+d/4294967296)% 4294967296+c:=dn (by omega) (by omega)
 rw [t2,kh]
 have hxy:a*18446744073709551616+(b+c)*4294967296+d≤18446744073709551615*18446744073709551615:=by
  have:=(m5 hx0 hx1 hy0 hy1).2
  omega
 have t3:ax .u64 a ((b+d/4294967296)/4294967296)=a+(b+d/4294967296)/4294967296:=dn (by omega) (by omega)
 rw [t3]
 have t4:ax .u64 (a+(b+d/4294967296)/4294967296) (((b+d/4294967296)% 4294967296+c)/4294967296)=a+(b+d/4294967296)/4294967296+((b+d/4294967296)% 4294967296+c)/4294967296:=dn (by omega) (by omega)
 rw [t4]
 congr 1
 omega
theorem HC {x y:Int} (hx:x=lj y) (h0:1≤y) (h1:y≤18446744073709551615):0≤x∧x≤63∧0≤ae .u64 x∧0≤aG .u64 64 (ae .u64 x)∧2147483648≤ay .u64 (aA .u64 y (ae .u64 x)) 32∧ay .u64 (aA .u64 y (ae .u64 x)) 32≤4294967295:=by
 obtain ⟨a1,a2,a3,a4⟩:=Ac hx h0 h1
 have h2:aA .u64 y (ae .u64 x)≤18446744073709551615:=(oU .u64 _ _).2
 refine ⟨a1,a2,mh _,(nh .u64 _ _).1,?_,?_⟩<;>rw [kh]<;>omega
theorem wo {u d:Int} (h0:0≤u) (h1:u≤18446744073709551615) (hd:1≤d):aG .u64 u (aR .u64 (cD .u64 u d) d)=u% d∧cD .u64 u d=u/d∧0≤u% d∧u% d<d:=by
 have e1:u.tdiv d=u/d:=Int.tdiv_eq_ediv_of_nonneg h0
 have e2:u/d≤u:=Int.ediv_le_self _ h0
 have e3:0≤u/d:=Int.ediv_nonneg h0 (by omega)
 have e4:=Int.mul_ediv_add_emod u d
 have e5:=Int.emod_nonneg u (show d≠0 by omega)
 have e6:=Int.emod_lt_of_pos u (show 0<d by omega)
 have e7:cD .u64 u d=u/d:=by unfold cD;rw [e1];exact dn e3 (by omega)
 have e8:0≤u/d*d:=Int.mul_nonneg e3 (by omega)
 rw [Int.mul_comm] at e4
 have e9:aR .u64 (u/d) d=u/d*d:=dn e8 (by omega)
 refine ⟨?_,e7,e5,e6⟩
 rw [e7,e9];exact (dn (by omega) (by omega)).trans (by omega)
theorem HD {y1 y0 u a q r:Int} (ha1:a<4294967296) (hy0:0≤y0) (hu:u<y1*4294967296+y0) (hu0:0≤u) (hi:q*y1+r=u) (hr:0≤r) (ha:0≤a) (ht:q≥4294967296∨(q*y0>4294967296*r+a)):
  u*4294967296+a<q*(y1*4294967296+y0)∧1≤q:=by
 have e:q*(y1*4294967296+y0)=q*y1*4294967296+q*y0:=by rw [Int.mul_add,Int.mul_assoc]
 rcases ht with h|h
 ·refine ⟨?_,by omega⟩
  have h1:=Int.mul_le_mul_of_nonneg_right h (show 0≤y1*4294967296+y0 by omega)
  omega
 ·refine ⟨by omega,?_⟩
  refine Int.not_lt.1 fun hq=> ?_
  have:=Int.mul_nonneg (show 0≤ -q by omega) hy0
  rw [Int.neg_mul] at this
  omega
theorem HE {y1 y0 u a q r:Int} (hi:q*y1+r=u) (ht:q*y0≤4294967296*r+a):q*(y1*4294967296+y0)≤u*4294967296+a:=by
 have e:q*(y1*4294967296+y0)=q*y1*4294967296+q*y0:=by rw [Int.mul_add,Int.mul_assoc]
 omega
theorem HF {y1 y0 u a q r:Int} (ha:0≤a) (hi:q*y1+r=u) (hr:r≥4294967296) (hq:q≤4294967296) (hy0:0≤y0) (hy01:y0<4294967296):q*(y1*4294967296+y0)≤u*4294967296+a:=by
 have e:q*(y1*4294967296+y0)=q*y1*4294967296+q*y0:=by rw [Int.mul_add,Int.mul_assoc]
 have h1:=Int.mul_le_mul_of_nonneg_right hq hy0
 omega
def Dg (y1 y0 u a q:Int):Prop:=q*(y1*4294967296+y0)≤u*4294967296+a∧u*4294967296+a<(q+1)*(y1*4294967296+y0)
def DgI (y1 y0 u a:Int) (p:Int×Int):Prop:=p.1*y1+p.2=u∧0≤p.2∧p.2<4294967296∧0≤p.1∧p.1≤4294967297∧u*4294967296+a<(p.1+1)*(y1*4294967296+y0)
theorem Ae {y1 y0 u a:Int} (hy1:2147483648≤y1) (hy11:y1<4294967296) (hy0:0≤y0) (hy01:y0<4294967296) (hu0:0≤u) (hu:u<y1*4294967296+y0) (ha:0≤a) (ha1:a<4294967296):DgI y1 y0 u a (u/y1,u% y1):=by
 have e4:=Int.mul_ediv_add_emod u y1
 have e5:=Int.emod_nonneg u (show y1≠0 by omega)
 have e6:=Int.emod_lt_of_pos u (show 0<y1 by omega)
 have e3:0≤u/y1:=Int.ediv_nonneg hu0 (by omega)
 have e7:u/y1≤4294967297:=by
  have:u/y1<4294967298:=(Int.ediv_lt_iff_lt_mul (by omega)).2 (by omega)
  omega
 rw [Int.mul_comm] at e4
 refine ⟨e4,e5,by show u% y1<_;omega,e3,e7,?_⟩
 have e8:(u/y1+1)*(y1*4294967296+y0)=u/y1*y1*4294967296+y1*4294967296+(u/y1)*y0+y0:=by
  rw [Int.add_mul,Int.mul_add,Int.one_mul,Int.mul_assoc];omega
 have e9:=Int.mul_nonneg e3 hy0
 show u*4294967296+a<(u/y1+1)*(y1*4294967296+y0)
 rw [e8]
 omega
theorem HG {y1 y0 u a q r:Int} (hy0:0≤y0) (h:DgI y1 y0 u a (q,r)) (hu:u<y1*4294967296+y0) (ha:0≤a) (ha1:a<4294967296) (hu0:0≤u) (ht:q≥4294967296∨(q*y0>4294967296*r+a)):
  (q - 1)*y1+(r+y1)=u∧1≤q∧u*4294967296+a<(q - 1+1)*(y1*4294967296+y0):=by
 obtain ⟨h1,h2,h3,h4,h5,h6⟩:=h
 obtain ⟨a1,a2⟩:=HD ha1 hy0 hu hu0 h1 h2 ha ht
 refine ⟨?_,a2,?_⟩
 ·rw [Int.sub_mul,Int.one_mul];simp only at h1;omega
 ·rw [Int.sub_add_cancel];exact a1
theorem wt {α R:Type} {gq gr:α→Int} {mk:Int→Int→α} (hmq: ∀q r,gq (mk q r)=q) (hmr: ∀q r,gr (mk q r)=r) {y1 y0 u a:Int} (hy1:2147483648≤y1) (hy11:y1<4294967296) (hy0:0≤y0) (hy01:y0<4294967296) (hu0:0≤u) (hu:u<y1*4294967296+y0) (ha:0≤a) (ha1:a<4294967296) {F:(α→R)→α→R} {d:α→R} {j:Int→R}
  (hF: ∀ag p,F ag p=if decide (gq p≥4294967296)=true then (if decide (ax .u64 (gr p) y1≥4294967296)=true then j (aG .u64 (gq p) 1) else ag (mk (aG .u64 (gq p) 1) (ax .u64 (gr p) y1))) else
   if decide (aR .u64 (gq p) y0>ax .u64 (aR .u64 4294967296 (gr p)) a)=true then (if decide (ax .u64 (gr p) y1≥4294967296)=true then j (aG .u64 (gq p) 1) else ag (mk (aG .u64 (gq p) 1) (ax .u64 (gr p) y1))) else j (gq p))
  {v:R} (hv: ∀q,Dg y1 y0 u a q→j q=v): ∀(n:Nat) (p:α),DgI y1 y0 u a (gq p,gr p)→(4294967296 - gr p).toNat<n→am n F d p=v
 | 0,p,_,h=>by omega
 | n+1,p,hI,hn=>by
  rw [am,hF]
  obtain ⟨h1,h2,h3,h4,h5,h6⟩:=hI
  simp only at h1 h2 h3 h4 h5 h6
  generalize hq:gq p=q at*
  generalize hr:gr p=r at*
  have eA:ax .u64 r y1=r+y1:=dn (by omega) (by omega)
  have eS:1≤q→aG .u64 q 1=q - 1:=fun h=>dn (by omega) (by omega)
  have down:(q≥4294967296∨(q*y0>4294967296*r+a))→(if decide (ax .u64 r y1≥4294967296)=true then j (aG .u64 q 1) else am n F d (mk (aG .u64 q 1) (ax .u64 r y1)))=v:=by
   intro ht
   obtain ⟨d1,d2,d3⟩:=HG hy0 (show DgI y1 y0 u a (q,r) from ⟨h1,h2,h3,h4,h5,h6⟩) hu ha ha1 hu0 ht
   rw [eA,eS d2]
   by_cases hb:r+y1≥4294967296
   ·rw [if_pos (by simpa using hb)]
    exact hv _ ⟨HF ha d1 hb (by omega) hy0 hy01,d3⟩
   ·rw [if_neg (by simpa using hb)]
    exact wt hmq hmr hy1 hy11 hy0 hy01 hu0 hu ha ha1 hF hv n _ (by rw [hmq,hmr];exact ⟨d1,by show 0≤r+y1;omega,by show r+y1<_;omega,by show 0≤q - 1;omega,by show q - 1≤_;omega,d3⟩) (by rw [hmr];omega)
  by_cases ht:q≥4294967296
  ·rw [if_pos (by simpa using ht)]
   exact down (.inl ht)
  ·rw [if_neg (by simpa using ht)]
   have hm:=m5 h4 (show q≤4294967295 by omega) hy0 (show y0≤4294967295 by omega)
   have e1:aR .u64 q y0=q*y0:=dn hm.1 (by omega)
   have e2:aR .u64 4294967296 r=4294967296*r:=dn (by omega) (by omega)
   have e3:ax .u64 (4294967296*r) a=4294967296*r+a:=dn (by omega) (by omega)
   rw [e1,e2,e3]
   by_cases hc:q*y0>4294967296*r+a
   ·rw [if_pos (by simpa using hc)]
    exact down (.inr hc)
   ·rw [if_neg (by simpa using hc)]
    exact hv _ ⟨HE h1 (by omega),h6⟩
theorem HH {a b:Int} {s:Nat} (hs:s≤63) (ha0:0≤a) (ha:a*2^s<18446744073709551616) (hb0:0≤b) (hb:b<2^s):orI .u64 (a*2^s) b=a*2^s+b:=by
 obtain ⟨a,rfl⟩:=Int.eq_ofNat_of_zero_le ha0
 obtain ⟨b,rfl⟩:=Int.eq_ofNat_of_zero_le hb0
 have hp:2^s≤2^63:=Nat.pow_le_pow_right (by decide) hs
 have e0:((a:Int)*2^s)=((a*2^s:Nat):Int):=by push_cast;rfl
 have ha':a*2^s<18446744073709551616:=by
  rw [e0] at ha
  generalize a*2^s=t at ha⊢
  omega
 have hb':b<2^s:=by exact_mod_cast hb
 rw [e0]
 unfold orI
 have t: ∀n:Nat,n<18446744073709551616→(BitVec.ofInt IntKind.u64.bits (n:Int)).toNat=n:=by
  intro n hn
  show (BitVec.ofInt 64 (n:Int)).toNat=n
  rw [BitVec.toNat_ofInt];omega
 rw [BitVec.toNat_or,t _ ha',t _ (by omega),Nat.mul_comm a,←Nat.two_pow_add_eq_or_of_lt hb',w64]
 rw [Nat.mul_comm] at ha'
 have:2^s*a+b<18446744073709551616:=by
  have h1:2^s*(a+1)≤18446744073709551616:=by
   have h2:2^s∣18446744073709551616:=⟨2^(64 - s),by rw [←Nat.pow_add,show s+(64 - s)=64 by omega]⟩
   obtain ⟨c,hc⟩:=h2
   rw [hc] at ha'⊢
   exact Nat.mul_le_mul_left _ (Nat.lt_of_mul_lt_mul_left ha')
  rw [Nat.mul_add,Nat.mul_one] at h1
  omega
 omega
theorem HI (a b:Int) {c:Int} (h:0<c):(a*c)% (b*c)=a% b*c:=by
 rw [Int.mul_comm a,Int.mul_comm b,Int.mul_emod_mul_of_pos _ _ h,Int.mul_comm]
theorem HJ {N y Y p u w a1 a0 q1 q0 v:Int} (hp:0<p) (hY:Y=y*p) (hY0:0<Y) (hw:w=a1*4294967296+a0) (hN:u*18446744073709551616+w=N*p)
  (hv:v=u*4294967296+a1 - q1*Y) (h1:q0*Y≤v*4294967296+a0) (h2:v*4294967296+a0<(q0+1)*Y):
  q1*4294967296+q0=N/y∧v*4294967296+a0 - q0*Y=N% y*p:=by
 have e:N*p=(q1*4294967296+q0)*Y+(v*4294967296+a0 - q0*Y):=by
  have e1:(q1*4294967296+q0)*Y=q1*Y*4294967296+q0*Y:=by rw [Int.add_mul,Int.mul_right_comm]
  rw [e1];omega
 have e2:(q0+1)*Y=q0*Y+Y:=by rw [Int.add_mul,Int.one_mul]
 generalize hR:v*4294967296+a0 - q0*Y=R at*
 generalize hQ:q1*4294967296+q0=Q at*
 have hR0:0≤R:=by omega
 have hR1:R<Y:=by omega
 have d:N*p/Y=Q:=by
  rw [e,Int.add_comm,Int.add_mul_ediv_right _ _ (by omega),Int.ediv_eq_zero_of_lt hR0 hR1];omega
 have m:N*p% Y=R:=by rw [e,Int.add_comm,Int.add_mul_emod_self_right,Int.emod_eq_of_lt hR0 hR1]
 rw [hY] at d m
 rw [Int.mul_ediv_mul_of_pos_left _ _ hp] at d
 rw [HI _ _ hp] at m
 exact ⟨d.symm,m.symm⟩
theorem Af {u a q Y:Int} (h0:0≤u*4294967296+a - q*Y) (h1:u*4294967296+a - q*Y≤18446744073709551615):aG .u64 (ax .u64 (aR .u64 u 4294967296) a) (aR .u64 q Y)=u*4294967296+a - q*Y:=by
 unfold aG ax aR
 simp only [w64]
 generalize q*Y=T at*
 omega
theorem HK {q r:Int} (h0:0≤q*4294967296+r) (h1:q*4294967296+r≤18446744073709551615):ax .u64 (aR .u64 q 4294967296) r=q*4294967296+r:=by
 unfold ax aR
 simp only [w64]
 omega
theorem Ag {α R:Type} {f:α→R} {G:(α→R)→R} {v:R} (h: ∀j,j=f→G j=v):jJ f G=v:=h f rfl
set_option maxRecDepth 4000 in
theorem HL {hi lo y:Int} (hh0:0≤hi) (hl0:0≤lo) (hl1:lo≤18446744073709551615) (hy:hi<y) (hy1:y≤18446744073709551615):mQ hi lo y=((hi*18446744073709551616+lo)/y,(hi*18446744073709551616+lo)% y):=by
 unfold mQ
 rw [if_neg (by simp;omega),if_neg (by simp;omega)]
 by_cases h0:hi=0
 ·subst h0
  rw [if_pos (by decide)]
  have e1:lo.tdiv y=lo/y:=Int.tdiv_eq_ediv_of_nonneg hl0
  have e2:lo/y≤lo:=Int.ediv_le_self _ hl0
  have e3:0≤lo/y:=Int.ediv_nonneg hl0 (by omega)
  have e4:cD .u64 lo y=lo/y:=by unfold cD;rw [e1];exact dn e3 (by omega)
  have e5:cj .u64 lo y=lo% y:=Int.tmod_eq_emod_of_nonneg hl0
  rw [e4,e5];simp
 ·rw [if_neg (by simpa using h0)]
  obtain ⟨s,hs⟩: ∃s,s=lj y:=⟨_,rfl⟩
  obtain ⟨s0,s1,s2,s3⟩:=Ac hs (by omega) hy1
  have hY:=(oU .u64 y (ae .u64 s)).2
  simp only [ab,←hs]
  obtain ⟨k,rfl⟩:=Int.eq_ofNat_of_zero_le s0
  rw [s3] at s2 hY
  simp only [Int.toNat_natCast] at s2 s3 hY
  rw [s3]
  have hk:k≤63:=by omega
  have hp:(0:Int)<2^k:=Int.pow_pos (by decide)
  have hp2:(2:Int)^k*2^(64 - k)=18446744073709551616:=by rw [←Int.pow_add,show k+(64 - k)=64 by omega];rfl
  have hc:ae .u64 (k:Int)=k:=mr (by omega) (by omega)
  have hYm:y*2^k≤18446744073709551615:=by show _≤(18446744073709551615:Int);exact hY
  -- the high part
  have hhi:hi*2^k<y*2^k:=Int.mul_lt_mul_of_pos_right hy hp
  have m1:aA .u64 hi (k:Int)=hi*2^k:=by
   unfold aA
   rw [Int.toNat_natCast,show min k IntKind.u64.bits=k by show min k 64=k;omega]
   exact dn (Int.mul_nonneg hh0 (Int.le_of_lt hp)) (by omega)
  have m2:ay .u64 lo (aG .u64 64 (k:Int))=lo/2^(64 - k):=by
   have e:aG .u64 64 (k:Int)=((64 - k:Nat):Int):=by
    have:aG .u64 64 (k:Int)=64 - (k:Int):=dn (by omega) (by omega)
    omega
   rw [e];exact kg (by rw [Int.toNat_natCast];show min (64 - k) 64=_;omega)
  have m3:aA .u64 lo (k:Int)=lo*2^k% 18446744073709551616:=by
   unfold aA
   rw [Int.toNat_natCast,show min k IntKind.u64.bits=k by show min k 64=k;omega,w64]
  have hb0:0≤lo/2^(64 - k):=Int.ediv_nonneg hl0 (Int.le_of_lt (Int.pow_pos (by decide)))
  have hb1:lo/2^(64 - k)<2^k:=(Int.ediv_lt_iff_lt_mul (Int.pow_pos (by decide))).2 (by rw [hp2];omega)
  rw [hc,m1,m2,m3,HH hk hh0 (by omega) hb0 hb1]
  -- the whole, shifted
  have hN:(hi*2^k+lo/2^(64 - k))*18446744073709551616+lo*2^k% 18446744073709551616=(hi*18446744073709551616+lo)*2^k:=by
   have e:lo/2^(64 - k)=lo*2^k/18446744073709551616:=by
    rw [←hp2,Int.mul_comm ((2:Int)^k),Int.mul_ediv_mul_of_pos_left _ _ hp]
   rw [e,Int.add_mul,Int.add_mul (hi*18446744073709551616),Int.mul_right_comm hi]
   omega
  have hy1':0<y:=by omega
  have hQ0:0≤(hi*18446744073709551616+lo)/y:=Int.ediv_nonneg (by omega) (by omega)
  have hQ1:(hi*18446744073709551616+lo)/y<18446744073709551616:=(Int.ediv_lt_iff_lt_mul hy1').2 (by omega)
  have hu0:0≤hi*2^k+lo/2^(64 - k):=by have:=Int.mul_nonneg hh0 (Int.le_of_lt hp);omega
  have hu1:hi*2^k+lo/2^(64 - k)<y*2^k:=by
   have h1:=Int.mul_le_mul_of_nonneg_right (show hi+1≤y by omega) (Int.le_of_lt hp)
   rw [Int.add_mul,Int.one_mul] at h1
   omega
  obtain ⟨N,hNe⟩: ∃N,N=hi*18446744073709551616+lo:=⟨_,rfl⟩
  rw [←hNe] at hN hQ0 hQ1⊢
  obtain ⟨Y,hYe⟩: ∃Y,Y=y*2^k:=⟨_,rfl⟩
  rw [←hYe] at s2 hYm hu1⊢
  generalize hi*2^k+lo/2^(64 - k)=u at hN hu0 hu1⊢
  have hW0:0≤lo*2^k% 18446744073709551616:=Int.emod_nonneg _ (by decide)
  have hW1:lo*2^k% 18446744073709551616<18446744073709551616:=Int.emod_lt_of_pos _ (by decide)
  generalize lo*2^k% 18446744073709551616=W at hN hW0 hW1⊢
  rw [kh Y,oG (by omega) hYm,kh W,oG hW0 (by omega)]
  have hYs:Y/4294967296*4294967296+Y% 4294967296=Y:=by omega
  have hWs:W=W/4294967296*4294967296+W% 4294967296:=by omega
  have b1:2147483648≤Y/4294967296:=by omega
  have b2:Y/4294967296<4294967296:=by omega
  have b3:0≤Y% 4294967296:=by omega
  have b4:Y% 4294967296<4294967296:=by omega
  have b5:0≤W/4294967296:=by omega
  have b6:W/4294967296<4294967296:=by omega
  have b7:0≤W% 4294967296:=by omega
  have b8:W% 4294967296<4294967296:=by omega
  generalize Y/4294967296=y1 at*
  generalize Y% 4294967296=y0 at*
  generalize W/4294967296=a1 at*
  generalize W% 4294967296=a0 at*
  obtain ⟨r1,r2,r3,r4⟩:=wo (u:=u) (d:=y1) hu0 (by omega) (by omega)
  rw [r1,r2]
  refine Ag fun j8 hj8=> ?_
  refine wt (j:=j8) (gq:=fun p:Int×Int=>p.1) (gr:=fun p=>p.2) (mk:=fun q r=>(q,r)) (fun _ _=>rfl) (fun _ _=>rfl) b1 b2 b3 b4 hu0 (by omega) b5 b6 (by exact fun ag p=>rfl) (fun q1 hq1=> ?_) _ _ (by exact Ae b1 b2 b3 b4 hu0 (by omega) b5 b6) (by show (4294967296 - u% y1).toNat<_;omega)
  obtain ⟨g1,g2⟩:=hq1
  subst hj8
  dsimp only
  rw [hYs] at g1 g2
  have g3:(q1+1)*Y=q1*Y+Y:=by rw [Int.add_mul,Int.one_mul]
  rw [g3] at g2
  have ev:=Af (u:=u) (a:=a1) (q:=q1) (Y:=Y) (by omega) (by omega)
  rw [ev]
  obtain ⟨v,hv⟩: ∃v,v=u*4294967296+a1 - q1*Y:=⟨_,rfl⟩
  rw [←hv]
  have hv0:0≤v:=by omega
  have hv1:v<Y:=by omega
  obtain ⟨t1,t2,t3,t4⟩:=wo (u:=v) (d:=y1) hv0 (by omega) (by omega)
  rw [t1,t2]
  refine Ag fun j9 hj9=> ?_
  refine wt (j:=j9) (gq:=fun p:Int×Int=>p.2) (gr:=fun p=>p.1) (mk:=fun q r=>(r,q)) (fun _ _=>rfl) (fun _ _=>rfl) b1 b2 b3 b4 hv0 (by omega) b7 b8 (by exact fun ag p=>rfl) (fun q0 hq0=> ?_) _ _ (by exact Ae b1 b2 b3 b4 hv0 (by omega) b7 b8) (by show (4294967296 - v% y1).toNat<_;omega)
  obtain ⟨f1,f2⟩:=hq0
  subst hj9
  dsimp only
  rw [hYs] at f1 f2
  obtain ⟨z1,z2⟩:=HJ hp hYe (by omega) hWs hN hv f1 f2
  have f3:(q0+1)*Y=q0*Y+Y:=by rw [Int.add_mul,Int.one_mul]
  rw [f3] at f2
  rw [Af (by omega) (by omega),HK (by omega) (by omega),z1,z2,kg (m:=k) (by rw [Int.toNat_natCast];show min k 64=k;omega),Int.mul_ediv_cancel _ (Int.ne_of_gt hp)]
theorem HM (a b:Int):0≤orI .u64 a b∧orI .u64 a b≤18446744073709551615:=xj .u64 a b
theorem HN (a b:Int):0≤aG .u64 a b∧aG .u64 a b≤18446744073709551615:=nh .u64 a b
theorem kj {a b:Int} (h0:0≤a) (h1:a≤4294967295) (h2:0≤b) (h3:b≤4294967295):ax .u64 a b=a+b:=dn (by omega) (by omega)
theorem Ah {a b n:Int} (ha:0≤a) (hn:a<n) (hn1:n≤18446744073709551615) (hb:0≤b) (hb1:b≤18446744073709551615):(jY a b).1<n:=by
 rw [Ad ha (by omega) hb hb1]
 refine (Int.ediv_lt_iff_lt_mul (by decide)).2 ?_
 have h1:=Int.mul_le_mul (show a≤n - 1 by omega) hb1 hb (by omega)
 omega
theorem Ai (n:Int) {a b:Int} {x:Int×Int} (hx:x=jY a b) (ha:0≤a) (hn:a<n) (hn1:n≤18446744073709551615) (hb:0≤b) (hb1:b≤18446744073709551615):x.1<n:=hx▸Ah ha hn hn1 hb hb1
theorem Aj {u d:Int} (h:0≤u∧u≤18446744073709551615) (hd:1≤d) (hd1:d≤4294967295):0≤aG .u64 u (aR .u64 (cD .u64 u d) d)∧aG .u64 u (aR .u64 (cD .u64 u d) d)≤4294967295:=by
 obtain ⟨a1,a2,a3,a4⟩:=wo h.1 h.2 hd
 rw [a1];omega
theorem Ak {a b n:Int} (ha:0≤a) (hn:a<n) (hb:0≤b) (hb1:b≤18446744073709551615) (hn1:n≤18446744073709551615):fg a b n=a*b% n:=by
 have h1:=Ah ha hn hn1 hb hb1
 have hp:=Int.mul_nonneg ha hb
 unfold fg ab
 rw [Ad ha (by omega) hb hb1] at h1⊢
 simp only at h1⊢
 rw [HL (Int.ediv_nonneg hp (by decide)) (Int.emod_nonneg _ (by decide)) (by have:=Int.emod_lt_of_pos (a*b) (show (0:Int)<18446744073709551616 by decide);omega) h1 hn1]
 simp only
 congr 1
 omega
theorem lw {a b n x:Int} (hx:x=fg a b n) (ha:0≤a) (hn:a<n) (hb:0≤b) (hb1:b≤18446744073709551615) (hn1:n≤18446744073709551615):0≤x∧x<n:=by
 rw [hx,Ak ha hn hb hb1 hn1];exact ⟨Int.emod_nonneg _ (by omega),Int.emod_lt_of_pos _ (by omega)⟩
theorem HO {a e n x:Int} (hx:x=oq a e n) (ha:0≤a) (hn:a<n) (h1:1<n) (hn1:n≤18446744073709551615):0≤x∧x<n:=by
 subst hx
 unfold oq
 refine gC (P:=fun p:Int×Int×Int=>0≤p.1∧p.1<n∧0≤p.2.2∧p.2.2<n) (Q:=fun x=>0≤x∧x<n) (meas:=fun p=>p.2.1.toNat) ?_ _ _ ⟨ha,hn,show (0:Int)≤1 by decide,h1⟩ (by show e.toNat<_;omega)
 rintro ag ⟨a,e,x⟩ ⟨p1,p2,p3,p4⟩ ih
 simp only at p1 p2 p3 p4 ih⊢
 by_cases he:e>0
 ·rw [if_pos (by simpa using he)]
  have hs:(ay .u64 e 1).toNat<e.toNat:=by rw [cF];omega
  simp only [ab]
  by_cases hc:(bF .u64 e 1==1)=true
  ·rw [if_pos hc]
   have m1:=lw (x:=fg x a n) rfl p3 p4 p1 (by omega) hn1
   have m2:=lw (x:=fg a a n) rfl p1 p2 p1 (by omega) hn1
   exact ih _ ⟨m2.1,m2.2,m1.1,m1.2⟩ hs
  ·rw [if_neg hc]
   have m2:=lw (x:=fg a a n) rfl p1 p2 p1 (by omega) hn1
   exact ih _ ⟨m2.1,m2.2,p3,p4⟩ hs
 ·rw [if_neg (by simpa using he)]
  exact ⟨p3,p4⟩
@[go_sem] theorem HQ {n:Nat} {k:IntKind}: ∀{l:List Int},ltL n (l.map (V.int k))=True
 | []=>by simp [ltL]
 | a::l=>by simp only [List.map_cons,ltL,HQ (l:=l),ltV,and_self]
@[go_sem] theorem MR {k:IntKind} {a b c i:Int}:elt [V.int k a,V.int k b,V.int k c] i.toNat (V.int k 0)=V.int k (gt [a,b,c] i):=by
 unfold elt gt
 match i.toNat with
 | 0=>rfl
 | 1=>rfl
 | 2=>rfl
 | n+3=>rfl
theorem HR:cT.length=12:=rfl
theorem HT:cT.all (fun x=>decide (2≤x)&&decide (x≤37))=true:=by decide
theorem cN {j:Int} (h0:0≤j) (h1:j<12):2≤gt cT j∧gt cT j≤37:=by
 have hm:gt cT j∈cT:=ca (by show j.toNat<12;omega)
 simpa using List.all_eq_true.1 HT _ hm
def oH (u i:Int):Prop:= ∀k:Int,0≤k→k<i→u% gt cT k≠0
theorem HU {u:Int}:oH u 0:=fun k h0 h1=>by omega
theorem HV {u i:Int} (h:oH u i) (hu:0≤u) (h0:0≤i) (h1:i<12) (hr: ¬cj .u64 u (gt cT i)=0):oH u (i+1):=by
 intro k k0 k1
 by_cases hk:k<i
 ·exact h k k0 hk
 ·obtain rfl:k=i:=by omega
  rwa [show cj .u64 u (gt cT k)=u% gt cT k from Int.tmod_eq_emod_of_nonneg hu] at hr
theorem HW: ∀u:Fin 38,2≤u.val→ ∃k:Fin 12,((u.val:Nat):Int)% cT.getD k.val 0=0:=by decide
theorem HX {u i:Int} (h:oH u i) (hi:12≤i) (h2:2≤u):37<u:=by
 refine Int.not_le.1 fun hu=> ?_
 obtain ⟨k,hk⟩:=HW ⟨u.toNat,by omega⟩ (by show 2≤u.toNat;omega)
 refine h (k.val:Int) (by omega) (by omega) ?_
 have e:((u.toNat:Nat):Int)=u:=by omega
 rw [←e,lJ]
 exact hk
theorem HY:jH.all (fun x=>decide (0≤x)&&decide (x≤63))=true:=by decide
theorem HZ {a x:Int} (hx:x=oo a):0≤x∧x≤64:=by
 subst hx
 unfold oo
 split
 ·omega
 ·have hi:=Ab (x:=bF .u64 a (jk .u64 a))
  have hm:=ca (l:=jH) (i:=ay .u64 (aR .u64 (bF .u64 a (jk .u64 a)) 285870213051353865) 58) (by show _<64;omega)
  have:=List.all_eq_true.1 HY _ hm
  simp only [Bool.and_eq_true,decide_eq_true_eq] at this
  rw [uu (by omega) (by omega)];omega
theorem H3 {x:Int} (h0:0≤x) (h1:x≤64):aG .i64 x 1=x - 1:=by unfold aG;rw [IntKind.wrap_i64];omega
theorem m6 {m:Int} (h:1≤m):0≤cj .i64 1 m∧cj .i64 1 m<m:=by
 rw [show cj .i64 1 m=1% m from Int.tmod_eq_emod_of_nonneg (by decide)]
 exact ⟨Int.emod_nonneg _ (by omega),Int.emod_lt_of_pos _ (by omega)⟩
theorem H4 {a b m:Int} (h:i6 a b m=0):1≤m∧m<2305843009213693952∧0≤a∧a<m∧0≤b∧b<m:=by
 unfold i6 at h
 simp only [ab,ot] at h
 repeat' (split at h)
 all_goals simp_all
 all_goals omega
instance MS (a b m:Int):CF (i6 a b m) (fun x=>x=0→1≤m∧m<2305843009213693952∧0≤a∧a<m∧0≤b∧b<m):=⟨H4⟩
theorem H5 {l:List Int} (h:l.all (fun x=>decide (0≤x))=true): ∀j:Int,0≤j→j.toNat<l.length→0≤gt l j:=fun j _ h1=>by simpa using List.all_eq_true.1 h _ (ca h1)
theorem H6: ∀j:Int,0≤j→j.toNat<([0,1,2,3,4,5]:List Int).length→0≤gt ([0,1,2,3,4,5]:List Int) j:=H5 (by decide)
theorem rD {x:Int} (h0:0≤x) (h1:x≤9223372036854775807):ae .u64 x=x:=mr h0 (by omega)
theorem H7 {a b n:Int} (ha:0≤a) (hn:a<n) (hb:0≤b) (hb1:b≤9223372036854775807) (hn1:n≤9223372036854775807):i7 a b n=a*b% n:=by
 have h:=Ak ha hn hb (by omega) (by omega)
 have e:i7 a b n=ae .i64 (fg (ae .u64 a) (ae .u64 b) (ae .u64 n)):=rfl
 have c1:ae .u64 a=a:=mr ha (by omega)
 have c2:ae .u64 b=b:=mr hb (by omega)
 have c3:ae .u64 n=n:=mr (by omega) (by omega)
 rw [e,c1,c2,c3,h]
 have:=Int.emod_nonneg (a*b) (show n≠0 by omega)
 have:=Int.emod_lt_of_pos (a*b) (show 0<n by omega)
 exact uu (by omega) (by omega)
theorem wu {a b n x:Int} (hx:x=i7 a b n) (ha:0≤a) (hn:a<n) (hb:0≤b) (hb1:b≤9223372036854775807) (hn1:n≤9223372036854775807):0≤x∧x<n:=by
 rw [hx,H7 ha hn hb hb1 hn1];exact ⟨Int.emod_nonneg _ (by omega),Int.emod_lt_of_pos _ (by omega)⟩
end Go.Proofs.YtcbbjfckokckcaaGreatDoor
namespace Go.Proofs.YtcbbjfckokckcaaGreatDoor
open Go.RowKit
set_option linter.unusedVariables false
set_option linter.unusedSimpArgs false
instance MT {s:List Int}:CF (mM s) (fun x=>x.length=s.length):=⟨rfl⟩
theorem H8 (n:Int):ou n=[ae .u8 (ay .u64 n 56),ae .u8 (ay .u64 n 48),ae .u8 (ay .u64 n 40),ae .u8 (ay .u64 n 32),ae .u8 (ay .u64 n 24),ae .u8 (ay .u64 n 16),ae .u8 (ay .u64 n 8),ae .u8 (ay .u64 n 0)]:=by kernel_rfl
instance MU {n:Int}:CF (ou n) (fun x=>x.length=8):=⟨by rw [H8];rfl⟩
end Go.Proofs.YtcbbjfckokckcaaGreatDoor
namespace Go.Proofs.YtcbbjfckokckcaaGreatDoor
open Go.RowKit
set_option linter.unusedVariables false
set_option linter.unusedSimpArgs false
theorem H9 (i:ak) (d:Int):og i d=fM i d:=by
 obtain ⟨k,n,b,l⟩:=i
 have hany:mJ l d= !(oc l (d - 1)):=by
  have h:=qQ (l:=l) (C:=fun x=>lh x d) (d:=fun _=>default) (F:=fun ag1 p1=>if decide (p1<(l.length:Int)) then (ab (lh (gt l p1) d) (fun x4=>if x4 then p1 else ag1 (p1+1))) else -1) (fun ag p=>rfl)
  have h2:mJ l d=l.any (fun x=>lh x d):=h
  rw [h2,zS,List.not_all_eq_any_not];rfl
 unfold og
 simp only [ab,fM,hany,Bool.not_not]
 by_cases e1:k=1
 ·subst e1;cases b with
  | nil=>cases l with
   | nil=>simp
   | cons y l=>simp;omega
  | cons x b=>simp;omega
 by_cases e2:k=2
 ·subst e2;cases l with
  | nil=>simp [Bool.beq_eq_decide_eq]
  | cons y l=>simp;omega
 by_cases e3:k=3
 ·subst e3
  by_cases h0:n=0
  ·cases b with
   | nil=>
    by_cases h1:0<d
    ·by_cases h2:l.length≤1000
     ·have h2':(l.length:Int)≤1000:=by omega
      simp [h0,h1,h2,h2']
     ·have h2': ¬(l.length:Int)≤1000:=by omega
      simp [h0,h1,h2,h2']
    ·simp [h0,h1]
   | cons x b=>simp [h0];omega
  ·simp [h0]
 ·simp [e1,e2,e3]
theorem Al: ∀{k:Nat} {n:Int},be (k+1) n=(n/256^k)% 256::be k n
 | 0,n=>by simp [be]
 | k+1,n=>by
  rw [be,Al (k:=k),be]
  simp only [List.cons_append,List.cons.injEq,and_true]
  rw [Int.ediv_ediv_of_nonneg (by omega),Int.pow_succ,Int.mul_comm (256^k)]
theorem Am {n:Int} {F:(Int×List Int→List Int)→Int×List Int→List Int} {d:Int×List Int→List Int}
  (hF: ∀ag p,F ag p=if decide (p.1≥0)=true then ag (p.1 - 1,p.2++[ae .u8 (ay .u64 n (8*p.1))]) else p.2):
  ∀(k fuel:Nat) (out:List Int),k≤8→k<fuel→am fuel F d ((k:Int) - 1,out)=out++be k n
 | 0,fuel,out,_,hf=>by
  obtain ⟨m,rfl⟩: ∃m,fuel=m+1:=⟨fuel - 1,by omega⟩
  rw [am,hF];simp [be]
 | k+1,fuel,out,hk,hf=>by
  obtain ⟨m,rfl⟩: ∃m,fuel=m+1:=⟨fuel - 1,by omega⟩
  rw [am,hF,if_pos (by simp)]
  have e1:ae .u8 (ay .u64 n (8*(((k+1:Nat):Int) - 1)))=(n/256^k)% 256:=by
   have e2:(8*(((k+1:Nat):Int) - 1)).toNat=8*k:=by omega
   unfold ae ay
   rw [e2,show min (8*k) (IntKind.bits .u64)=8*k by show min (8*k) 64=8*k;omega,Int.fdiv_eq_ediv_of_nonneg _ (Int.le_of_lt (Int.pow_pos (by omega))),Int.pow_mul]
   rfl
  simp only
  rw [e1,show ((k+1:Nat):Int) - 1 - 1=(k:Int) - 1 by omega,Am hF k m _ (by omega) (by omega),Al]
  simp
theorem rE {out:List Int} {n size:Int} (h0:0≤size) (h1:size≤8):i4 out n size=out++be size.toNat n:=by
 unfold i4
 have:=Am (n:=n) (d:=fun _=>default) (fun ag p=>rfl) size.toNat ((size - 1+1).toNat+1) out (by omega) (by omega)
 rw [show ((size.toNat:Nat):Int)=size by omega] at this
 exact this
theorem wv {out x:List Int} {n size:Int} (h:x=i4 out n size): ¬(0≤size∧size≤8)∨(x.length:Int)=out.length+size:=by
 by_cases hs:0≤size∧size≤8
 ·right;rw [h,rE hs.1 hs.2];simp [zO];omega
 ·exact .inl hs
theorem H_ {n:Int}:be 8 (ae .u64 n)=be 8 n:=by
 apply uW
 have h8:(256:Int)^8=18446744073709551616:=by decide
 have:ae .u64 n=n% 18446744073709551616:=rfl
 rw [this,h8];omega
theorem An {n:Int}:be 4 (ae .u64 n)=be 4 n:=by
 apply uW
 have h8:(256:Int)^4=4294967296:=by decide
 have:ae .u64 n=n% 18446744073709551616:=rfl
 rw [this,h8];omega
theorem Ao: ∀{l:List ak} {out:List Int},qT out l=l.foldl fO out
 | [],_=>rfl
 | x::l,out=>by simp only [qT,List.foldl_cons];exact Ao
theorem Ia (out:List Int) (i:ak):oh out i=fO out i:=by
 obtain ⟨k,n,b,l⟩:=i
 unfold oh
 simp only [ab,fO]
 by_cases hl:out.length>16384
 ·have:(out.length:Int)>16384:=by omega
  simp [hl,this]
 have hl': ¬(out.length:Int)>16384:=by omega
 by_cases e1:k=1
 ·subst e1
  have:ae .u8 1=1:=rfl
  simp [hl,hl',rE,this,H_]
 by_cases e2:k=2
 ·subst e2
  have:ae .u8 2=2:=rfl
  simp [hl,hl',rE,this,An]
 have hk:ae .u8 k=k% 256:=rfl
 simp only [hl,hl',e1,e2,decide_false,Bool.false_eq_true,if_false,beq_iff_eq,rE (show (0:Int)≤4 by decide) (show (4:Int)≤8 by decide),hk,Int.reduceToNat,An]
 rw [n3 (l:=l) (fun a s=> .inl (fO s a)) (fun s=>s) (fun ag i s=>by by_cases h:i<(l.length:Int)<;>simp [h]),mF,Ao]
 simp
theorem rF (r:aN) (e:Int):eP r e=jT r e:=rfl
theorem rG {r x:aN} {e:Int} (h:x=eP r e) (he:decide (e=0)=false):x.e≠0:=by
 rw [h,rF];unfold jT
 have:e≠0:=by simpa using he
 split
 ·exact this
 ·rename_i h2;simpa using h2
theorem ww (r:aN) (n:Int):io r n=fN r n:=by
 obtain ⟨b,e⟩:=r
 unfold io fN
 simp only [ab,rF]
 by_cases h:e=0
 ·by_cases h2:n>b.length
  ·simp [h,h2]
  ·simp [h,h2,sl]
   rw [List.take_of_length_le (by simp)]
 ·simp [h]
theorem wx (r:aN) (n:Int):ff r n=eO r n:=by
 unfold ff eO
 simp only [ab,ww]
 rw [G8 (l:=(fN r n).1) (fun a s=> .inl (orI .u64 (aA .u64 s 8) (ae .u64 a))) (fun s=>(s,(fN r n).2)) (fun ag i s=>by by_cases h:i<((fN r n).1.length:Int)<;>simp [h]),mF]
 rfl
theorem rH {r:aN} {x:Int×aN} {n:Int} (h:x=ff r n) (hb:isB r.b):n>4∨(0≤ae .i64 x.1∧ae .i64 x.1≤4294967295):=by
 by_cases hn:n>4
 ·exact .inl hn
 right
 rw [h,wx]
 unfold eO fN
 split
 ·exact ⟨(by decide:(0:Int)≤ae .i64 0),(by decide:ae .i64 0≤4294967295)⟩
 ·simp only
  have hl:(r.b.take n.toNat).length≤4:=by simp;omega
  have hbt:=Hf hb n.toNat
  rw [Hd hbt (by omega)]
  have hv:=Hb hbt
  have h3:(256:Int)^(r.b.take n.toNat).length≤256^4:=(by decide: ∀k,k<5→(256:Int)^k≤256^4) _ (by omega)
  have h4:(256:Int)^4=4294967296:=by decide
  rw [uu (by omega) (by omega)]
  omega
theorem rI {r:aN} {x:Int×aN} {n:Int} (h:x=ff r n) (hb:isB r.b):isB x.2.b:=by
 rw [h,wx];exact jU hb
theorem rJ {r x:aN} {e:Int} (h:x=eP r e) (hb:isB r.b):isB x.b:=by
 rw [h,rF];exact uX hb
theorem Ib {r:aN} {x:List Int×aN} {n:Int} (h:x=io r n) (hb:isB r.b):isB x.2.b:=by
 rw [h,ww];exact jU hb
theorem Ic {k n:Int} {f:aN→ak×aN} {F:(Int×aN×List ak→ak×aN)→Int×aN×List ak→ak×aN} {d:Int×aN×List ak→ak×aN}
  (hF: ∀ag p,F ag p=if decide (p.1<n)=true then (if (p.2.1.e !=0)=true then (⟨k,0,[],p.2.2⟩,p.2.1) else ag (p.1+1,(f p.2.1).2,p.2.2++[(f p.2.1).1])) else (⟨k,0,[],p.2.2⟩,p.2.1)):
  ∀(fuel:Nat) (i:Int) (r:aN) (l:List ak),(n - i).toNat<fuel→am fuel F d (i,r,l)=(⟨k,0,[],(gD f (n - i).toNat l r).1⟩,(gD f (n - i).toNat l r).2):=by
 intro fuel
 induction fuel with
 | zero=>intro i r l h;omega
 | succ m ih=>
  intro i r l h
  rw [am,hF]
  by_cases hi:i<n
  ·rw [if_pos (decide_eq_true hi)]
   obtain ⟨q,hq⟩: ∃q,(n - i).toNat=q+1:=⟨(n - i).toNat - 1,by omega⟩
   by_cases he:r.e=0
   ·simp only [he,bne_self_eq_false,Bool.false_eq_true,if_false]
    rw [ih _ _ _ (by omega),hq]
    simp only [gD,he,ne_eq,not_true_eq_false,if_false]
    rw [show (n - (i+1)).toNat=q by omega]
   ·have:(r.e !=0)=true:=by simpa using he
    simp only [this,if_true]
    rw [hq,He he]
  ·rw [if_neg (by simpa using hi)]
   rw [show (n - i).toNat=0 by omega];rfl
theorem Id {r:aN} {depth:Int} (h0:0≤depth) (h1:isB r.b):ip r depth=cE r depth:=by
 obtain ⟨d,rfl⟩: ∃d:Nat,depth=d:=⟨depth.toNat,by omega⟩
 clear h0
 have hit:cE r (d:Int)=mG (match d with|0=>none|d+1=>some (ij d)) r:=by cases d<;>rfl
 rw [hit]
 unfold ip mG
 simp only [ab,jJ,wx,rF,ww,mM]
 generalize eO r 1=a
 generalize ae .i64 a.1=k
 by_cases k1:k<1
 ·simp [k1]
 by_cases k2:k>3
 ·simp [k1,k2]
 by_cases k3:k=3
 ·subst k3
  cases d with
  | zero=>simp
  | succ d=>
   have hd:((d+1:Nat):Int)≠0:=by omega
   have hI: ∀q,cE q (((d+1:Nat):Int) - 1)=ij d q:=by
    intro q;unfold cE;rw [show (((d+1:Nat):Int) - 1).toNat=d by omega]
   simp only [hI]
   generalize eO a.2 4=b
   generalize ae .i64 b.1=n
   have hd2: ¬((d:Int)+1=0):=by omega
   have key: ∀{F:(Int×aN×List ak→ak×aN)→Int×aN×List ak→ak×aN} {z:Int×aN×List ak→ak×aN} (q:aN),
     (∀ag p,F ag p=if p.1<n then (if p.2.1.e=0 then ag (p.1+1,(ij d p.2.1).2,p.2.2++[(ij d p.2.1).1]) else (⟨3,0,[],p.2.2⟩,p.2.1)) else (⟨3,0,[],p.2.2⟩,p.2.1))→
     am (n.toNat+1) F z (0,q,[])=(⟨3,0,[],(gD (ij d) n.toNat [] q).1⟩,(gD (ij d) n.toNat [] q).2):=by
    intro F z q hF
    have:=Ic (k:=3) (n:=n) (f:=ij d) (d:=z) (F:=F) (fun ag p=>by rw [hF];by_cases h1:p.1<n<;>by_cases h2:p.2.1.e=0<;>simp [h1,h2]) (n.toNat+1) 0 q [] (by omega)
    simpa using this
   by_cases hc:n>1000
   ·simp [hc];rw [if_neg hd2];exact key _ fun ag p=>rfl
   ·simp [hc];rw [if_neg hd2];exact key _ fun ag p=>rfl
 by_cases k4:k=1
 ·subst k4;simp
 by_cases k5:k=2
 ·subst k5;simp
 omega
theorem Ap {i:ak} (h:i.Kind=3): ∀{l:List ak} {s:List Int},(eN (fun (a:ak) s=>if (a.Kind !=1)=true then .inr (([]:List Int),(3:Int)) else .inl (s++[a.N])) (fun s=>(s,(0:Int))) l s).2≠0∨(eN (fun (a:ak) s=>if (a.Kind !=1)=true then .inr (([]:List Int),(3:Int)) else .inl (s++[a.N])) (fun s=>(s,(0:Int))) l s).1=s++l.map (·.N)
 | [],s=>by right;simp [eN]
 | a::l,s=>by
  simp only [eN]
  by_cases ha:a.Kind=1
  ·have:(a.Kind !=1)=false:=by simp [ha]
   simp only [this,Bool.false_eq_true,if_false]
   rcases Ap h (l:=l) (s:=s++[a.N]) with h1|h1
   ·exact .inl h1
   ·right;rw [h1];simp
  ·have:(a.Kind !=1)=true:=by simpa using ha
   simp [this]
theorem Ie (i:ak):mN i=if mK i=false then ([],1) else if i.Kind≠3 then ([],3) else eN (fun (a:ak) s=>if (a.Kind !=1)=true then .inr (([]:List Int),(3:Int)) else .inl (s++[a.N])) (fun s=>(s,(0:Int))) i.L []:=by
 unfold mN
 simp only [ab]
 cases mK i
 ·simp
 by_cases hk:i.Kind=3
 ·have:(i.Kind !=3)=false:=by simp [hk]
  simp only [this,hk]
  rw [n3 (l:=i.L) (fun a s=>if (a.Kind !=1)=true then .inr (([]:List Int),(3:Int)) else .inl (s++[a.N])) (fun s=>(s,(0:Int))) (fun ag j s=>by by_cases h:j<(i.L.length:Int)<;>by_cases h2:(gt i.L j).Kind=1<;>simp [h,h2])]
  simp
 ·have:(i.Kind !=3)=true:=by simpa using hk
  simp [this,hk]
theorem Ig {i:ak} {x:List Int×Int} (h:x=mN i): ¬x.2=0∨(x.1.length:Int)=i.L.length:=by
 rw [h,Ie]
 split
 ·simp
 split
 ·simp
 ·rename_i hk
  rcases Ap (i:=i) (by simpa using hk) (l:=i.L) (s:=[]) with h1|h1
  ·exact .inl h1
  ·right;rw [h1];simp
theorem wy {x:ak} {n:Int} (h:x=mI n):hgt x=1:=by rw [h];rfl
theorem Aq {x w:dI} {l:List Int} (h:x=jb w l):x.l.length=w.l.length+1:=by
 rw [h];simp [jb,ab]
theorem Ih {x w:dI} {l:List Int} (h:x=j5 w l):x.l.length=w.l.length+1:=by
 rw [h];simp [j5,ab]
def lx (n:Int):ak:=⟨1,n,[],[]⟩
def dU (l:List Int):ak:=⟨3,0,[],l.map lx⟩
def eh (b:List Int):ak:=⟨2,0,b,[]⟩
def ly (l:List ak):ak:=⟨3,0,[],l⟩
theorem wz (l:List Int):fS l=dU l:=by
 unfold fS
 exact G5 (E:=fun p=>ly p.2) lx (fun ag p=>rfl)
theorem Ii (w:dI) (l:List Int):jb w l=⟨w.l++[dU l]⟩:=by
 unfold jb
 simp only [ab,wz]
theorem Ij (w:dI) (b:List Int):j5 w b=⟨w.l++[eh b]⟩:=by
 unfold j5
 simp only [ab];rfl
def lz (c:bD):ak:=ly [dU [c.Bank,c.Epoch,c.Denom,c.Depth,c.A],eh (bc 32 c.Root),dU [c.Sign.Z,c.Sign.A,c.Sign.B,c.Sign.R]]
theorem Ar (c:bD):ln c=lz c:=by
 unfold ln
 simp only [ab,Ii,Ij]
 rfl
def wA (l:List fG):List Int:=l.flatMap fun x=> [x.B,x.R1,x.R2]
def rK (s:aO):ak:=ly [lz s.Coin,dU [s.Node.Level,s.Node.Index],eh (bc 32 s.Context.Payee),dU [s.Context.Time,s.Context.Number],dU (wA s.Leaves),ly (lx s.Path.Index::s.Path.L.map fun h=>eh (bc 32 h))]
theorem Ik (h:List Int):jc h=eh (bc 32 h):=rfl
theorem wB {α β:Type} {g:α→List β}: ∀{l:List α} {s:List β},l.foldl (fun s a=>s++g a) s=s++l.flatMap g
 | [],s=>by simp
 | a::l,s=>by rw [List.foldl_cons,wB (l:=l)];simp
theorem Il (s:aO):mX s=rK s:=by
 unfold mX
 simp only [ab,Ik,wz,Ar,j_]
 rw [n3 (l:=s.Leaves) (fun a s=> .inl (s++[a.B,a.R1,a.R2])) (fun q=>am (((s.Path.L.length:Int) - 0).toNat+1) (fun (ag4:(Int×List ak)→ak) (p4:Int×List ak)=>(if (decide (p4.1<(s.Path.L.length:Int))) then ag4 ((p4.1+1),(p4.2++([eh (bc 32 (gt s.Path.L p4.1))]:List ak))) else ⟨3,0,[],[lz s.Coin,dU [s.Node.Level,s.Node.Index],eh (bc 32 s.Context.Payee),dU [s.Context.Time,s.Context.Number],dU q,⟨3,0,[],p4.2⟩]⟩)) (fun _=>default) (0,[⟨1,s.Path.Index,[],[]⟩])) (fun ag i q=>by by_cases h:i<(s.Leaves.length:Int)<;>simp [h]),mF,wB]
 rw [n3 (l:=s.Path.L) (fun a q=> .inl (q++[eh (bc 32 a)])) (fun q=>⟨3,0,[],[lz s.Coin,dU [s.Node.Level,s.Node.Index],eh (bc 32 s.Context.Payee),dU [s.Context.Time,s.Context.Number],dU ([]++s.Leaves.flatMap fun x=> [x.B,x.R1,x.R2]),⟨3,0,[],q⟩]⟩) (fun ag i q=>by by_cases h:i<(s.Path.L.length:Int)<;>simp [h]),mF,wB]
 simp only [List.nil_append]
 have:(s.Path.L.flatMap fun a=> [eh (bc 32 a)])=s.Path.L.map fun h=>eh (bc 32 h):=by
  induction s.Path.L with
  | nil=>rfl
  | cons x l ih=>rw [List.flatMap_cons,ih];rfl
 rw [this]
 rfl
theorem n11: ¬(((1:Int) !=1)=true):=by decide
theorem Im {l:List ak}:hgt (ly l)=1+bK l:=by simp [ly,hgt]
theorem As {l:List Int}:hgt (dU l)=1+l.length:=by
 have: ∀l:List Int,bK (l.map lx)=l.length:=by
  intro l
  induction l with
  | nil=>rfl
  | cons a l ih=>simp [bK,ih,lx,hgt];omega
 simp [dU,hgt,this]
theorem At {b:List Int}:hgt (eh b)=1+b.length:=by simp [eh,hgt,bK]
theorem Io {n:Int}:hgt (lx n)=1:=rfl
theorem Ip {l:List fG}:(wA l).length=3*l.length:=by
 unfold wA
 induction l with
 | nil=>rfl
 | cons a l ih=>rw [List.flatMap_cons,List.length_append,ih];simp;omega
theorem Au: ∀{l:List (List Int)},bK (l.map fun h=>eh (bc 32 h))=33*l.length
 | []=>rfl
 | a::l=>by simp only [List.map_cons,bK,Au (l:=l),At,ce,List.length_cons];omega
theorem Iq (s:aO):hgt (rK s)=88+3*s.Leaves.length+33*s.Path.L.length:=by
 simp only [rK,lz,Im,bK,As,At,Io,ce,Ip,Au,List.length_cons,List.length_nil]
 omega
theorem Ir (s:aO):iq s=(decide (s.Leaves.length>40)||decide (s.Path.L.length>20)):=by
 unfold iq
 by_cases h:s.Leaves.length>40
 ·have:(s.Leaves.length:Int)>40:=by omega
  simp [h,this]
 ·have: ¬(s.Leaves.length:Int)>40:=by omega
  have e:decide ((s.Path.L.length:Int)>20)=decide (s.Path.L.length>20):=by
   rw [decide_eq_decide];omega
  simp [h,this,e]
def eQ (s:aO):Prop:=s.Leaves.length≤40∧s.Path.L.length≤20
theorem wC {s:aO} (h:iq s=false):eQ s:=by
 rw [Ir] at h
 simp at h
 exact ⟨h.1,h.2⟩
theorem Av (l:List aO):mO l=l.any iq:=by
 unfold mO q5
 exact qQ (fun ag p=>rfl)
theorem Is (l:List bX):oi l=l.any li:=by
 unfold oi q6
 exact qQ (fun ag p=>rfl)
theorem It (l:List cW):ol l=l.any mP:=by
 unfold ol q7
 exact qQ (fun ag p=>rfl)
def lA (h:bX):Prop:=h.L.length≤12∧eQ h.First∧ ∀x∈h.L,eQ x
theorem Iu {h:bX} (e:li h=false):lA h:=by
 unfold li at e
 simp only [ab,Av] at e
 by_cases h1:(h.L.length:Int)>12
 ·simp [h1] at e
 ·simp only [h1,decide_false,Bool.false_eq_true,if_false] at e
  cases h2:iq h.First with
  | true=>simp [h2] at e
  | false=>
   simp only [h2,Bool.false_eq_true,if_false] at e
   refine ⟨by omega,wC h2,fun x hx=>wC ?_⟩
   have:=List.any_eq_false.1 e x hx
   simpa using this
def Aw (x:cW):Prop:=x.Proof.A.length≤30∧x.Proof.Z.length≤30
theorem Iv {x:cW} (e:mP x=false):Aw x:=by
 unfold mP at e
 by_cases h1:(x.Proof.A.length:Int)>30
 ·simp [h1] at e
 ·simp [h1] at e
  exact ⟨by omega,by omega⟩
structure gI (p:bR):Prop where
 s:p.Spends.length≤60∧ ∀x∈p.Spends,eQ x
 c:p.Chains.length≤10∧ ∀x∈p.Chains,lA x
 e:p.Escrow.length≤60∧ ∀x∈p.Escrow,Aw x
theorem Iw {p:bR} (e:jX p=false):gI p:=by
 unfold jX at e
 simp only [ab,Av,Is,It] at e
 by_cases h1:(p.Spends.length:Int)>60
 ·simp [h1] at e
 by_cases h2:(p.Chains.length:Int)>10
 ·simp [h1,h2] at e
 by_cases h3:(p.Escrow.length:Int)>60
 ·simp [h1,h2,h3] at e
 simp only [h1,h2,h3,decide_false,Bool.false_eq_true,if_false] at e
 cases h4:p.Spends.any iq with
 | true=>simp [h4] at e
 | false=>
  cases h5:p.Chains.any li with
  | true=>simp [h4,h5] at e
  | false=>
   simp only [h4,h5,Bool.false_eq_true,if_false] at e
   refine ⟨⟨by omega,fun x hx=>wC (by simpa using List.any_eq_false.1 h4 x hx)⟩,⟨by omega,fun x hx=>Iu (by simpa using List.any_eq_false.1 h5 x hx)⟩,⟨by omega,fun x hx=>Iv (by simpa using List.any_eq_false.1 e x hx)⟩⟩
theorem Ix {s:aO} (h:eQ s):hgt (rK s)≤1000:=by
 rw [Iq];have:=h.1;have:=h.2;omega
def rL (p:bR):List aO:=p.Spends++p.Chains.flatMap fun h=>h.First::h.L
theorem Ax: ∀{l:List bX} {o:List aO},l.foldl (fun s h=>(s++[h.First])++h.L) o=o++l.flatMap fun h=>h.First::h.L
 | [],o=>by simp
 | a::l,o=>by simp only [List.foldl_cons,Ax (l:=l)];simp
theorem Iy (p:bR):j4 p=rL p:=by
 unfold j4
 have:=n3 (l:=p.Chains) (d:=fun _=>default) (fun h o=> .inl ((o++[h.First])++h.L)) (fun o=>o) (F:=fun (ag1:(Int×List aO)→(List aO)) (p1:Int×List aO)=>(if (decide (p1.1<(p.Chains.length:Int))) then (ag1 ((p1.1+1),((p1.2++([(gt p.Chains p1.1).First]:List aO))++(gt p.Chains p1.1).L))) else p1.2)) (s:=[]++p.Spends) (fun ag i s=>by simp only [decide_eq_true_eq])
 rw [this,mF,Ax];rfl
theorem Iz {p:bR} (h:gI p):(rL p).length≤190∧ ∀s∈rL p,eQ s:=by
 have key: ∀l:List bX,(∀c∈l,lA c)→(l.flatMap fun h=>h.First::h.L).length≤13*l.length∧ ∀s∈l.flatMap (fun h=>h.First::h.L),eQ s:=by
  intro l
  induction l with
  | nil=>intro _;simp
  | cons a l ih=>
   intro hs
   obtain ⟨h1,h2⟩:=ih (fun c hc=>hs c (by simp [hc]))
   obtain ⟨h3,h4,h5⟩:=hs a (by simp)
   refine ⟨by simp only [List.flatMap_cons,List.length_append,List.length_cons];omega,fun s hm=> ?_⟩
   simp only [List.flatMap_cons,List.mem_append,List.mem_cons] at hm
   rcases hm with (rfl|hm)|hm
   ·exact h4
   ·exact h5 s hm
   ·exact h2 s hm
 obtain ⟨h1,h2⟩:=key p.Chains h.c.2
 have h3:=h.s.1
 have h4:=h.c.1
 refine ⟨by simp only [rL,List.length_append];omega,fun s hm=> ?_⟩
 rcases List.mem_append.1 hm with hm|hm
 ·exact h.s.2 s hm
 ·exact h2 s hm
def Ay (l:List aO):Prop:=l.length≤190∧ ∀s∈l,eQ s
theorem Az {p:bR} {x:List aO} (h:gI p) (hx:x=j4 p):Ay x:=by
 rw [hx,Iy];exact Iz h
theorem cX {l:List aO} {i:Int} (h:Ay l) (hi:i.toNat<l.length):(gt l i).Leaves.length≤40∧l.length≤190:=⟨(h.2 _ (ca hi)).1,h.1⟩
theorem oI {p:bR} (h:false=jX p):gI p:=Iw h.symm
theorem IA (c:bD):hgt (lz c)≤100:=by
 simp [lz,ly,dU,lx,eh,hgt,bK,ce]
theorem IB {c:bD} {x:ak} (h:x=ln c):hgt x≤100:=by rw [h,Ar];exact IA c
theorem kl {i:ak} {x:List Int×Int} (h:x=fP i):x.1.length≤16384:=by
 rw [h]
 unfold fP
 simp only [ab]
 split
 ·simp
 ·split
  ·simp
  ·rename_i h2
   have h3:((fO [] i).length:Int)≤16384:=by simpa using h2
   show (fO [] i).length≤16384
   omega
theorem oJ {α β:Type} {a:α} {f:α→β} (P:β→Prop) (h: ∀x,x=a→P (f x)):P (ab a f):=h a rfl
theorem IC {v:bO} {x:List Int×Int} (h:x=mL v):x.1.length≤16384:=by
 rw [h]
 unfold mL
 refine oJ (fun r:List Int×Int=>r.1.length≤16384) fun x1 h1=> ?_
 by_cases c:(!x1)=true
 ·rw [if_pos c];exact Nat.zero_le _
 ·rw [if_neg c]
  refine oJ (fun r:List Int×Int=>r.1.length≤16384) fun x7 h7=> ?_
  refine oJ (fun r:List Int×Int=>r.1.length≤16384) fun x10 h10=> ?_
  refine oJ (fun r:List Int×Int=>r.1.length≤16384) fun x13 h13=> ?_
  refine oJ (fun r:List Int×Int=>r.1.length≤16384) fun x16 h16=> ?_
  exact kl h16
instance MV (h:List Int):CF (od h) (fun y=>y.length=64):=⟨qX _ _⟩
theorem oK: ∀{l m:List ak},bK (l++m)=bK l+bK m
 | [],m=>by simp [bK]
 | x::l,m=>by rw [List.cons_append,bK,bK,oK];omega
theorem rM {n:Int} {x:ak} (h:x=lk n):hgt x=1:=by subst h;rfl
theorem AA (n:Int):(∃d:Nat,d≤10∧n=2^d∧ka n=((d:Int),0))∨(ka n=(0,1)∧ ∀d:Nat,d≤10→n≠2^d):=by
 unfold ka
 refine gC (P:=fun p:Int=>0≤p∧p≤11∧ ∀d:Nat,d≤10→(d:Int)<p→n≠2^d) (Q:=fun x:Int×Int=>(∃d:Nat,d≤10∧n=2^d∧x=((d:Int),0))∨(x=(0,1)∧ ∀d:Nat,d≤10→n≠2^d)) (meas:=fun p=>(11 - p).toNat) ?_ _ _ ⟨by decide,by decide,fun d _ h=>absurd h (by omega)⟩ (by decide)
 rintro ag p ⟨h0,h1,h2⟩ ih
 by_cases hp:p<11
 ·rw [if_pos (by simpa using hp)]
  have e:=qU (v:=p) h0 (by omega)
  by_cases hn:n=2^p.toNat
  ·rw [if_pos (by rw [e];simpa using hn)]
   exact .inl ⟨p.toNat,by omega,hn,by rw [show ((p.toNat:Nat):Int)=p by omega]⟩
  ·rw [if_neg (by rw [e];simpa using hn)]
   refine ih (p+1) ⟨by omega,by omega,fun d hd hlt=> ?_⟩ (by omega)
   rcases Int.lt_or_eq_of_le (show (d:Int)≤p by omega) with h|h
   ·exact h2 d hd h
   ·have:p.toNat=d:=by omega
    rw [←this];exact hn
 ·rw [if_neg (by simpa using hp)]
  exact .inr ⟨rfl,fun d hd=>h2 d hd (by omega)⟩
theorem ID {l:List (List Int)} {x:Int×Int} (hx:x=ka (l.length:Int)) (h:(x.2 !=0)=false):jW l:=by
 rcases AA (l.length:Int) with ⟨d,h1,h2,h3⟩|⟨h1,_⟩
 ·exact ⟨d,h1,by exact_mod_cast h2⟩
 ·rw [hx,h1] at h;exact absurd h (by decide)
section
variable {I:List Int→List Int→List Int}
theorem wD: ∀{k:Nat} {l:List (List Int)},l.length=2*k→(jV I l).length=k
 | 0,l,h=>by
  have:l=[]:=List.length_eq_zero_iff.1 (by omega)
  subst this;rfl
 | k+1,a::b::l,h=>by
  simp only [jV,List.length_cons] at h⊢
  rw [wD (k:=k) (by omega)]
 | k+1,[],h=>by simp at h
 | k+1,[a],h=>by simp at h;omega
end
section
variable {I:List Int→List Int→List Int}
def upL (I:List Int→List Int→List Int):Nat→List (List Int)→List (List Int)
 | 0,l=>l
 | k+1,l=>upL I k (jV I l)
end
section
variable {I:List Int→List Int→List Int}
theorem AB: ∀{k d:Nat} {l:List (List Int)},l.length=2^d→k≤d→(upL I k l).length=2^(d - k)
 | 0,d,l,h,_=>by simpa [upL] using h
 | k+1,0,l,h,hk=>absurd hk (by omega)
 | k+1,d+1,l,h,hk=>by
  rw [upL,AB (d:=d) (wD (by rw [h,Nat.pow_succ];omega)) (by omega)]
  congr 1;omega
end
section
variable {I:List Int→List Int→List Int}
theorem AC {α:Type} {d:List (List Int)→α}: ∀{l p:List (List Int)},dQ (cw l) (fun (ag:List (List Int)→α) (y:List (List Int)) (p:List (List Int))=>ab (I (gt y 0) (gt y 1)) fun x=>ag (p++[x])) d p=d (p++jV I l)
 | [],p=>by simp [cw,dQ,jV]
 | [_],p=>by simp [cw,dQ,jV]
 | a::b::l,p=>by
  rw [cw,dQ,ab]
  refine (AC (l:=l)).trans ?_
  simp [gt,jV]
end
theorem IE (s:List (List (List Int))):lq s=s.reverse:=by
 unfold lq
 refine gC (P:=fun p:Int×Int×List (List (List Int))=>0≤p.1∧p.1+p.2.1=(s.length:Int) - 1∧p.1≤p.2.1+1∧p.2.2.length=s.length∧ ∀k:Nat,k<s.length→p.2.2[k]? =if (k:Int)<p.1∨p.2.1<k then s[s.length - 1 - k]? else s[k]?)
  (Q:=fun x=>x=s.reverse) (meas:=fun p=>(p.2.1 - p.1).toNat) ?_ _ _ ⟨Int.le_refl 0,by show (0:Int)+((s.length:Int) - 1)=_;omega,by show (0:Int)≤(s.length:Int) - 1+1;omega,rfl,fun k hk=>by rw [if_neg (by show¬((k:Int)<0∨(s.length:Int) - 1<k);omega)]⟩ (by show ((s.length:Int) - 1 - 0).toNat<((s.length:Int) - 1 - 0).toNat+1;omega)
 rintro ag ⟨i,j,t⟩ ⟨h0,h1,h2,h3,h4⟩ ih
 simp only at h0 h1 h2 h3 h4⊢
 by_cases hij:i<j
 ·rw [if_pos (by simpa using hij)]
  refine ih _ ⟨by simp only;omega,by simp only;omega,by simp only;omega,by simp [st,h3],fun k hk=> ?_⟩ (by simp only;omega)
  simp only [st]
  have gi:t[i.toNat]? =s[i.toNat]? :=by rw [h4 _ (by omega),if_neg (by omega)]
  have gj:t[j.toNat]? =s[j.toNat]? :=by rw [h4 _ (by omega),if_neg (by omega)]
  have vi:gt t i=(s[i.toNat]?).getD default:=by rw [←gi];obtain ⟨n,rfl⟩:=Int.eq_ofNat_of_zero_le h0;rw [lJ];simp [List.getD_eq_getElem?_getD]
  have vj:gt t j=(s[j.toNat]?).getD default:=by rw [←gj];obtain ⟨n,rfl⟩:=Int.eq_ofNat_of_zero_le (show 0≤j by omega);rw [lJ];simp [List.getD_eq_getElem?_getD]
  have si:s[i.toNat]? =some s[i.toNat]:=List.getElem?_eq_getElem (by omega)
  have sj:s[j.toNat]? =some s[j.toNat]:=List.getElem?_eq_getElem (by omega)
  rw [vi,vj]
  by_cases e1:k=j.toNat
  ·subst e1
   rw [List.getElem?_set_self (by rw [List.length_set,h3];omega),if_pos (by omega),show s.length - 1 - j.toNat=i.toNat by omega,si];rfl
  ·rw [List.getElem?_set_ne (Ne.symm e1)]
   by_cases e2:k=i.toNat
   ·subst e2
    rw [List.getElem?_set_self (by rw [h3];omega),if_pos (by omega),show s.length - 1 - i.toNat=j.toNat by omega,sj];rfl
   ·rw [List.getElem?_set_ne (Ne.symm e2),h4 k hk]
    by_cases c:(k:Int)<i∨j<k
    ·rw [if_pos c,if_pos (by omega)]
    ·rw [if_neg c,if_neg (by omega)]
 ·rw [if_neg (by simpa using hij)]
  refine List.ext_getElem? fun k=> ?_
  by_cases hk:k<s.length
  ·rw [List.getElem?_reverse hk,h4 k hk]
   split
   ·rfl
   ·congr 1;omega
  ·rw [List.getElem?_eq_none (by omega),List.getElem?_eq_none (by simp;omega)]
section
variable {I:List Int→List Int→List Int}
theorem AD {α:Type} {rest:List (List (List Int))→α}: ∀{d n:Nat} {l:List (List Int)} {acc:List (List (List Int))} {dd:List (List Int)×List (List (List Int))→α},l.length=2^d→d<n→
  am n (fun (ag:List (List Int)×List (List (List Int))→α) (p:List (List Int)×List (List (List Int)))=>if decide ((p.1.length:Int)>1) then dQ (cw p.1) (fun ag5 y5 p5=>ab (I (gt y5 0) (gt y5 1)) fun x8=>ag5 (p5++[x8])) (fun p5=>ag (p5,p.2++[p5])) [] else rest p.2) dd (l,acc)=rest (acc++(List.range d).map fun k=>upL I (k+1) l)
 | 0,n+1,l,acc,dd,h,_=>by
  rw [am,if_neg (by rw [h];decide)];simp
 | d+1,0,l,acc,dd,h,hn=>absurd hn (by omega)
 | 0,0,l,acc,dd,h,hn=>absurd hn (by omega)
 | d+1,n+1,l,acc,dd,h,hn=>by
  have hp:0<2^d:=Nat.pow_pos (by decide)
  rw [am,if_pos (by simp only [decide_eq_true_eq];rw [h,Nat.pow_succ];omega),AC,List.nil_append]
  rw [AD (d:=d) (n:=n) (wD (by rw [h,Nat.pow_succ];omega)) (by omega)]
  rw [List.range_succ_eq_map,List.map_cons,List.map_map,List.append_assoc]
  rfl
end
section
variable {I:List Int→List Int→List Int}
theorem IF {l:List (List Int)} {d:Nat} (h:l.length=2^d) (hd:d≤10):oy l=(List.range (d+1)).map fun v=>upL jd (d - v) l:=by
 unfold oy
 have hlt:d<l.length+1:=by rw [h];have:=Nat.lt_two_pow_self (n:=d);omega
 refine (AD (I:=jd) (rest:=fun x=>ab (lq x) fun y=>y) h hlt).trans ?_
 simp only [ab]
 rw [IE]
 refine List.ext_getElem (by simp) fun i h1 h2=> ?_
 rw [List.getElem_reverse,List.getElem_map,List.getElem_range]
 simp only [List.length_reverse,List.length_append,List.length_map,List.length_range,List.length_cons,List.length_nil] at h1
 by_cases hi:i<d
 ·rw [List.getElem_append_right (by simp;omega),List.getElem_map,List.getElem_range]
  congr 1
  simp;omega
 ·have e:i=d:=by omega
  subst e
  rw [List.getElem_append_left (by simp)]
  simp [upL]
end
theorem IG {l:List (List Int)} {level index:Int} {x:List (List (List Int))×Int} (hx:x=oz l level index):x.2≠0∨(0≤level∧level<(x.1.length:Int)∧0≤index∧index<((gt x.1 level).length:Int)):=by
 subst hx
 unfold oz
 simp only [ab]
 rcases AA (l.length:Int) with ⟨d,h1,h2,h3⟩|⟨h1,_⟩
 ·have hl:l.length=2^d:=by exact_mod_cast h2
  rw [h3]
  simp only [bne_self_eq_false,Bool.false_eq_true,if_false]
  by_cases c1:level<0
  ·left;simp [c1]
  by_cases c2:level>(d:Int)
  ·left;simp [c1,c2]
  by_cases c3:index<0
  ·left;simp [c1,c2,c3]
  have e:=qU (v:=level) (by omega) (by omega)
  by_cases c4:index≥aA .i64 1 level
  ·left;simp [c1,c2,c3,c4]
  right
  simp only [c1,c2,c3,c4,decide_false,Bool.false_eq_true,if_false]
  rw [IF hl h1]
  have hlt:level.toNat<d+1:=by omega
  have hg:gt ((List.range (d+1)).map fun v=>upL jd (d - v) l) level=upL jd (d - level.toNat) l:=by
   obtain ⟨v,rfl⟩:=Int.eq_ofNat_of_zero_le (show 0≤level by omega)
   rw [lJ,List.getD_eq_getElem?_getD,List.getElem?_eq_getElem (by simpa using hlt)]
   simp
  rw [hg,AB hl (by omega)]
  rw [e] at c4
  refine ⟨by omega,by simp;omega,by omega,?_⟩
  rw [show d - (d - level.toNat)=level.toNat by omega]
  push_cast
  omega
 ·left;rw [h1];simp
theorem AE {a b:List Int} {n:Nat} (ha:a.length≤n) (hb:b.length≤n): ∀j:Int,(gt [a,b] j).length≤n:=by
 intro j
 unfold gt
 match h:j.toNat with
 | 0=>simpa using ha
 | 1=>simpa using hb
 | k+2=>exact Nat.zero_le _
theorem IH (a b:List Int):mW [a,b]=a++b:=by
 unfold mW ab rl
 have g0:gt [a,b] (0:Int)=a:=rfl
 have g1:gt [a,b] (1:Int)=b:=rfl
 have n0: ¬((a.length:Int)<0):=by omega
 have n1: ¬((a.length:Int)+(b.length:Int)<0):=by omega
 simp [am,g0,g1,n0,n1]
theorem II {a b x:List Int} (h:x=mW [a,b]) (ha:a.length≤32) (hb:b.length≤32):x.length≤64:=by
 rw [h,IH,List.length_append];omega
theorem AF {α:Type}: ∀{l:List α},2*(cw l).length≤l.length
 | a::b::l=>by
  have:=AF (l:=l)
  simp only [cw,List.length_cons];omega
 | []=>by simp [cw]
 | [_]=>by simp [cw]
theorem wE {l:List Int} {x:ak} (hx:x=fS l):hgt x=1+l.length:=by subst hx;rw [wz,As]
theorem IJ (d:dH):i5 [d]=gE d:=by
 unfold i5
 rw [if_neg (by simp),if_neg (by simp)]
 show am 2 _ _ 0=_
 simp only [am,ab]
 cases hx:gE d with
 | true=>simp [gt,hx]
 | false=>simp [gt,hx]
theorem IK {d:dH} (h:gE d=true):0≤d.Depth∧d.Depth≤5:=by
 unfold gE at h
 split at h
 ·rename_i h1
  simp only [mD,jO,Bool.and_eq_true,beq_iff_eq] at h1
  omega
 ·repeat' (split at h)
  all_goals first|cases h|(simp only [decide_eq_true_eq] at*;omega)
instance MW (b:a8) (r:bu):CF (iw b r) (fun x=>x=true→0≤r.Depth∧r.Depth≤5):=⟨fun h=>by
 unfold iw at h
 simp only [ab,IJ] at h
 repeat' (split at h)
 all_goals first|cases h|(simp only [beq_iff_eq] at*;omega)|exact IK (by assumption)⟩
end Go.Proofs.YtcbbjfckokckcaaGreatDoor
