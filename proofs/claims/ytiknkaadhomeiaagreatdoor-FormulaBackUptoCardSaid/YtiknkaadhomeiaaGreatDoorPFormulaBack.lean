/- FormulaBack: the law holds of what holds at most 1048576 values and letters together (printed by program, but for the law itself). -/
import Derived.Test.YtiknkaadhomeiaaGreatDoorZ8
import Derived.Test.YtiknkaadhomeiaaGreatDoorZ7
import Derived.Test.YtiknkaadhomeiaaGreatDoorCards
import Derived.Test.YtiknkaadhomeiaaGreatDoorTie
import Derived.Deep.DeepHandedRow
import Derived.Lay
import Derived.LaidMore
import Derived.SevenTiedAt
import Derived.Stop.Joined
namespace Go.Proofs.YtiknkaadhomeiaaGreatDoor
open Go.ChangeShapes Go.WideShapes Go.ChangeAt Go.RowKit
set_option maxHeartbeats 4000000 in
set_option maxRecDepth 100000 in
theorem op3:dv En (fun v=> ∃n:Int,v=V.int .i64 n) 3:=by
 have h:=Fi az (T:=3) (by rw [tb3]) (by rw [tb3])
 rw [tb3] at h
 exact h
set_option maxHeartbeats 4000000 in
set_option maxRecDepth 100000 in
theorem wN:dv En (fun v=> ∃l:List Int,v=V.sl none 1 false (l.map (V.int .i64))) 22:=by
 have h:=wE az (T:=22) (Q:=(fun v=> ∃n:Int,v=V.int .i64 n)) (by rw [kA]) (by rw [kA]) (by rw [kA];exact op3)
 rw [kA] at h
 refine h.mono ?_
 rintro v ⟨l,hl,rfl⟩
 obtain ⟨m,rfl⟩:=nX (f:=(V.int .i64)) (fun d hd=>by obtain ⟨x,hx⟩:=hl d hd;exact ⟨x,hx⟩)
 exact ⟨m,by simp only [tb3]⟩
set_option maxHeartbeats 4000000 in
set_option maxRecDepth 100000 in
theorem Fs:dv En (fun v=> ∃l:List (List Int),v=V.sl none 1 false (l.map (fun (l:List Int)=>V.sl none 1 false (l.map (V.int .i64))))) 23:=by
 have h:=wE az (T:=23) (Q:=(fun v=> ∃l:List Int,v=V.sl none 1 false (l.map (V.int .i64)))) (by rw [m9]) (by rw [m9]) (by rw [m9];exact wN)
 rw [m9] at h
 refine h.mono ?_
 rintro v ⟨l,hl,rfl⟩
 obtain ⟨m,rfl⟩:=nX (f:=(fun (l:List Int)=>V.sl none 1 false (l.map (V.int .i64)))) (fun d hd=>by obtain ⟨x,hx⟩:=hl d hd;exact ⟨x,hx⟩)
 exact ⟨m,by simp only [kA]⟩
set_option maxHeartbeats 4000000 in
set_option maxRecDepth 100000 in
theorem Ft:dv En (fun v=> ∃x:aL,v=qJ x) 25:=by
 have h:=Fk az (T:=25) (by rw [m_]) (by rw [m_]) [(fun v=> ∃l:List Int,v=V.sl none 1 false (l.map (V.int .i64))),(fun v=> ∃l:List (List Int),v=V.sl none 1 false (l.map (fun (l:List Int)=>V.sl none 1 false (l.map (V.int .i64)))))] (by rw [m_];exact ⟨wN,Fs,trivial⟩)
 rw [m_] at h
 refine h.mono ?_
 rintro v ⟨vs,h,rfl⟩
 obtain ⟨v0,vs0,rfl,⟨x0,h0⟩,h⟩:=lE h
 obtain ⟨v1,vs1,rfl,⟨x1,h1⟩,h⟩:=lE h
 cases wI h
 exact ⟨⟨x0,x1⟩,by subst h0 h1;simp only [go_sem,iH]⟩
set_option maxHeartbeats 4000000 in
set_option maxRecDepth 100000 in
theorem Fu: ∀B,B≤1048576→cX En (fun v=> ∃x:ab,v=ay x) 28 B:=by
 intro B
 induction B using Nat.strongRecOn with
 | ind B ih=>
 intro hB
 cases B with
 | zero=>exact cX.zero
 | succ B=>
  have hs26:cX En (fun v=> ∃l:List ab,v=V.sl none 4 true (l.map ay)) 26 B:=by
   have h:=wB az (B:=B) (by omega) (T:=26) (Q:=(fun v=> ∃x:ab,v=ay x)) (by rw [na]) (by rw [na]) (by rw [na];exact ih (B - 1) (by omega) (by omega))
   rw [na] at h
   refine h.mono ?_
   rintro v ⟨l,hl,rfl⟩
   obtain ⟨m,rfl⟩:=nX (f:=ay) (fun d hd=>by obtain ⟨x,hx⟩:=hl d hd;exact ⟨x,hx⟩)
   exact ⟨m,by simp only [il]⟩
  have h:=wD az hB (T:=28) (by rw [il]) (by rw [il]) [(fun v=> ∃n:Int,v=V.int .i64 n),(fun v=> ∃x:aL,v=qJ x),(fun v=> ∃l:List ab,v=V.sl none 4 true (l.map ay))] (by rw [il];exact ⟨op3.le (by omega),Ft.le (by omega),hs26,trivial⟩)
  rw [il] at h
  refine h.mono ?_
  rintro v ⟨vs,h,rfl⟩
  obtain ⟨v0,vs0,rfl,⟨x0,h0⟩,h⟩:=lE h
  obtain ⟨v1,vs1,rfl,⟨x1,h1⟩,h⟩:=lE h
  obtain ⟨v2,vs2,rfl,⟨x2,h2⟩,h⟩:=lE h
  cases wI h
  exact ⟨⟨x0,x1,x2⟩,by subst h0 h1 h2;simp only [go_sem,iH]⟩
theorem Fv:dv En (fun v=> ∃x:ab,v=ay x) 28:=Fu _ (Nat.le_refl _)
set_option maxHeartbeats 4000000 in
set_option maxRecDepth 100000 in
theorem op9:dv En (fun v=> ∃s:List UInt8,v=V.str s) 9:=by
 have h:=Fj az (T:=9) (by rw [tb9]) (by rw [tb9])
 exact h
set_option maxRecDepth 100000 in
theorem Fw (H:Type) (enc:TypeId×Value→H) (W:World) (base:Nat) (args:Array Value) (ds:List (DataW H)) (ps:List MemPlace) (hA:DataW.TrodAll enc En.P W 0 (fun _=>true) true Tryz.f3.params.toList args.toList ds ps)
  (hval: ∀(j:Nat) t v,Tryz.f3.params[j]? =some t→args[j]? =some v→Value.okWide En.P W .any base t v) (hb:Rows.uptoBulkAll ds≤1048576): ∃ws,rdT ro0 (fA W) ws args.toList∧aV En 3 ws (.bool true) []:=by
 rw [Tryz.params3] at hA hval
 obtain ⟨v0,vs0,d0,ds0,p0,q0,hargs,rfl,rfl,h0,r0⟩:=trodAll_cons hA
 obtain ⟨v1,vs1,d1,ds1,p1,q1,rfl,rfl,rfl,h1,r1⟩:=trodAll_cons r0
 obtain ⟨rfl,rfl,rfl⟩:=trodAll_nil r1
 obtain rfl:args= #[v0,v1]:=by cases args;simp_all
 simp only [Rows.uptoBulkAll] at hb
 obtain ⟨u0,⟨x0,rfl⟩,e0⟩:=wF az (T:=28) (by rw [il]) (by rw [il];decide) Fv (hval 0 28 v0 rfl rfl) h0 (by omega)
 obtain ⟨u1,⟨x1,rfl⟩,e1⟩:=wF az (T:=9) (by rw [tb9]) (by rw [tb9];decide) op9 (hval 1 9 v1 rfl rfl) h1 (by omega)
 refine ⟨[ay x0,.str x1],⟨v0,[v1],rfl,e0,v1,[],rfl,e1,rfl⟩,?_⟩
 have h:=(EJ x0 x1).ok
 rw [E7 x0 x1] at h
 simp only [ay]
 exact h
theorem Fx:ownKnob Tryz.prog.godebug=none:=by kernel_rfl
theorem Fy:laidOutB Tryz.prog=true:=by kernel_rfl
set_option maxRecDepth 100000 in
theorem Fz: ∀t∈Tryz.f3.params.toList,Tryz.prog.readableRec t=true∧t<Tryz.prog.types.size:=by
 intro t ht
 rw [Tryz.params3] at ht
 simp only [List.mem_cons,List.not_mem_nil,or_false] at ht
 rcases ht with rfl|rfl<;>exact ⟨by kernel_rfl,of_decide_eq_true (by kernel_rfl)⟩
set_option maxRecDepth 100000 in
theorem FA (H:Type) (ds:List (DataW H)) (h:ds.length=Tryz.f3.params.toList.length):Rows.formulaBackSpec.fn H ds={results:=[.lit (.bool true)],args:=ds}:=by
 rw [Tryz.params3] at h
 match ds,h with
 | [d0,d1],_=>rfl
def nY:Array Value:= #[.agg #[.int .i64 0,.slice none 0 0,.slice none 0 0,.slice none 0 0],.string .empty]
theorem FB (os:Os):laidMetH Tryz.prog Rows.formulaBackUptoRow.laid ((World.laidAll Tryz.prog os Rows.formulaBackUptoRow.laid).forCall (fun _ _=>0) ⟨#[],nY,[]⟩).memory:=by
 rw [MakeChecks.laidMetH_plain _ _ _ (by kernel_rfl)]
 exact laidMet_laidAll _ (by kernel_rfl) (by kernel_rfl)
theorem FC (os:Os) {H:Type} (enc:TypeId×Value→H): ∃places,DataW.whole enc Tryz.prog ((World.laidAll Tryz.prog os Rows.formulaBackUptoRow.laid).forCall (fun _ _=>0) ⟨#[],nY,[]⟩).memory Tryz.f3.params.toList Rows.formulaBackSpec.vars false (nY:Array Value).toList 8=some ([.agg [.lit (.int .i64 0),.agg [.nil,.nil],.nil],.lit (.string [])],[],places):=⟨[],by kernel_rfl⟩
set_option maxRecDepth 100000 in
theorem FD (os:Os) (started:os.Started) (H:Type) (enc:TypeId×Value→H) (F:Stop.Interp):
  ReturnsInHanded {} Tryz.checked os 3 .any ((Rows.OpenSpec.upto Rows.formulaBackSpec).preRow enc Tryz.prog Tryz.f3 Rows.formulaBackUptoRow.domain false Rows.formulaBackUptoRow.laid) (((Rows.OpenSpec.upto Rows.formulaBackSpec).at F).post enc Tryz.prog Tryz.f3 false true false false):=by
 obtain ⟨places,hx⟩:=FC os enc
 refine returnsInHanded_of_row (C:=Tryz.checked) (s:=(Rows.OpenSpec.upto Rows.formulaBackSpec)) Fx started (by kernel_rfl) Tryz.func3
  (witness_row_at (enc:=enc) (C:=Tryz.checked) false (World.laidAll Tryz.prog os Rows.formulaBackUptoRow.laid) nY (World.laidAll_os _ _ _) (by kernel_rfl) (by kernel_rfl) (by kernel_rfl)
   (OpenSpec.preRow_of_cond 8 hx (by kernel_rfl) (fun k hk=>by cases hk;kernel_rfl) (by kernel_rfl) (FB os))) ?_
 intro W base args ds gs before hval hW _ hk _ hL hsh _
 exact Fp (E:=En) (bt:=4) Tryz.underlying4 rfl rfl Fy Fz FA Fw H enc W base args ds gs before hval hW (hk _ rfl) rfl (Fq hL hsh)
theorem FE {a b:Bool} (ha:a=true) (hb:b=true):(a&&b)=true:=by rw [ha,hb];rfl
theorem FF:(Rows.formulaBackUptoRow.wf (OpenSpec.ofChange (Rows.OpenSpec.upto Rows.formulaBackSpec).bare))=true:=by kernel_rfl
theorem FG:(laidOutB Tryz.prog)=true:=by kernel_rfl
theorem FH:(mapsRowed Tryz.prog)=true:=by kernel_rfl
theorem FI:(Rows.formulaBackUptoRow.inPlace==Tryz.prog.inPlace 3)=true:=by kernel_rfl
theorem FJ:(Rows.formulaBackUptoRow.unfollowed==Tryz.prog.unfollowed 3)=true:=by kernel_rfl
theorem FK:(Rows.formulaBackUptoRow.recurses==Tryz.prog.recurses 3)=true:=by kernel_rfl
theorem FL:(Rows.formulaBackUptoRow.named==Tryz.prog.varsNamed 3)=true:=by kernel_rfl
theorem FM:(Rows.formulaBackUptoRow.plainKeys==Tryz.prog.plainKeys)=true:=by kernel_rfl
theorem FN:(Tryz.prog.stopsHeard)=true:=by kernel_rfl
theorem FO:(Tryz.prog.mayEnter)=true:=by kernel_rfl
theorem FP:(Rows.formulaBackUptoRow.lifted==Tryz.prog.liftsFinal)=true:=by kernel_rfl
theorem FR:joinedFacts Tryz.prog 3 Tryz.f3 (Rows.OpenSpec.upto Rows.formulaBackSpec).bare Rows.formulaBackUptoRow=true:=by
 unfold joinedFacts
 repeat' (with_reducible refine FE ?_ ?_)
 all_goals first|with_reducible exact FF|with_reducible exact FG|with_reducible exact FH|with_reducible exact FI|with_reducible exact FJ|with_reducible exact FK|with_reducible exact FL|with_reducible exact FM|with_reducible exact FN|with_reducible exact FO|with_reducible exact FP|kernel_rfl
theorem FS:Rows.FormulaBackUptoSaid:=
 OpenClaim.holds_of_cond 3 Tryz.f3 rfl rfl rfl rfl rfl rfl rfl ⟨rfl,rfl,rfl,rfl,rfl⟩ rfl rfl rfl rfl rfl (by kernel_rfl) Tryz.func3 FR
  (of_decide_eq_true (by kernel_rfl)) (by unfold Func.isWrapper;first|(rw [if_pos (by decide+kernel)];kernel_rfl)|(rw [if_neg (by decide+kernel)];exact ⟨rfl,rfl⟩))
  (fun os started H enc _ F=>by rw [OpenClaim.pre_eq_preRow];exact FD os started H enc F)
theorem FT (f:FuncId) (fn:Func) (hf:Tryz.pinned.checked.prog.funcNamed "specie/specielaw21.FormulaBack" =some f) (hfn:Tryz.pinned.checked.prog.funcs[f]? =some fn):
  true=Tryz.pinned.checked.prog.looks []∧ ∀(j:Nat) t,fn.params[j]? =some t→Tryz.pinned.checked.prog.wantsStandIn t=false:=by
 obtain rfl:f=3:=Option.some.inj ((show Tryz.prog.funcNamed "specie/specielaw21.FormulaBack" =some 3 by kernel_rfl).symm.trans hf)|>.symm
 obtain rfl:fn=Tryz.f3:=(Option.some.inj (Tryz.func3.symm.trans hfn)).symm
 refine ⟨by kernel_rfl,fun j t ht=> ?_⟩
 have hall:(Tryz.f3.params.toList.all fun u=> !Tryz.prog.wantsStandIn u)=true:=by kernel_rfl
 have h0:=List.all_eq_true.1 hall t (Array.mem_toList_iff.2 (Array.mem_of_getElem? ht))
 exact (show Tryz.prog.wantsStandIn t=false by simpa using h0)
theorem formulaBack_holds:Rows.FormulaBackUptoCardSaid:=
 Claim7.holds_tied_plain_at .later [] _ _ _ _ FS (fun _ h=>by cases h) (by kernel_rfl) (fun _ h=>by cases h) formulaBackUpto_row_tie rfl ⟨rfl,rfl⟩ (by kernel_rfl) rfl FT (by kernel_rfl)
end Go.Proofs.YtiknkaadhomeiaaGreatDoor
