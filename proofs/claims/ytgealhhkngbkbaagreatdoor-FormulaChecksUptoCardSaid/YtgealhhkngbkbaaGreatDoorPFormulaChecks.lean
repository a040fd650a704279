/- FormulaChecks: the law holds of what holds at most 1048576 values and letters together (printed by program, but for the law itself). -/
import Derived.Test.YtgealhhkngbkbaaGreatDoorZ15
import Derived.Test.YtgealhhkngbkbaaGreatDoorZ13
import Derived.Test.YtgealhhkngbkbaaGreatDoorZ14
import Derived.Test.YtgealhhkngbkbaaGreatDoorCards
import Derived.Test.YtgealhhkngbkbaaGreatDoorTie
import Derived.Deep.DeepHandedRow
import Derived.Lay
import Derived.LaidMore
import Derived.SevenTiedAt
import Derived.Stop.Joined
namespace Go.Proofs.YtgealhhkngbkbaaGreatDoor
open Go.ChangeShapes Go.WideShapes Go.ChangeAt Go.RowKit
set_option maxHeartbeats 4000000 in
set_option maxRecDepth 100000 in
theorem op3:en En (fun v=> ∃n:Int,v=V.int .i64 n) 3:=by
 have h:=OA bf (T:=3) (by rw [tb3]) (by rw [tb3])
 rw [tb3] at h
 exact h
set_option maxHeartbeats 4000000 in
set_option maxRecDepth 100000 in
theorem OH:en En (fun v=> ∃x:ao,v=wd x) 23:=by
 have h:=xM bf (T:=23) (by rw [m8]) (by rw [m8]) [(fun v=> ∃n:Int,v=V.int .i64 n),(fun v=> ∃n:Int,v=V.int .i64 n),(fun v=> ∃n:Int,v=V.int .i64 n)] (by rw [m8];exact ⟨op3,op3,op3,trivial⟩)
 rw [m8] at h
 refine h.mono ?_
 rintro v ⟨vs,h,rfl⟩
 obtain ⟨v0,vs0,rfl,⟨x0,h0⟩,h⟩:=fE h
 obtain ⟨v1,vs1,rfl,⟨x1,h1⟩,h⟩:=fE h
 obtain ⟨v2,vs2,rfl,⟨x2,h2⟩,h⟩:=fE h
 cases qr h
 exact ⟨⟨x0,x1,x2⟩,by subst h0 h1 h2;simp only [go_sem,iT]⟩
set_option maxHeartbeats 4000000 in
set_option maxRecDepth 100000 in
theorem tE:en En (fun v=> ∃l:List Int,v=V.sl none 1 false (l.map (V.int .i64))) 24:=by
 have h:=D3 bf (T:=24) (Q:=(fun v=> ∃n:Int,v=V.int .i64 n)) (by rw [oW]) (by rw [oW]) (by rw [oW];exact op3)
 rw [oW] at h
 refine h.mono ?_
 rintro v ⟨l,hl,rfl⟩
 obtain ⟨m,rfl⟩:=qq (f:=(V.int .i64)) (fun d hd=>by obtain ⟨x,hx⟩:=hl d hd;exact ⟨x,hx⟩)
 exact ⟨m,by simp only [tb3]⟩
set_option maxHeartbeats 4000000 in
set_option maxRecDepth 100000 in
theorem OI:en En (fun v=> ∃l:List (List Int),v=V.sl none 1 false (l.map (fun (l:List Int)=>V.sl none 1 false (l.map (V.int .i64))))) 25:=by
 have h:=D3 bf (T:=25) (Q:=(fun v=> ∃l:List Int,v=V.sl none 1 false (l.map (V.int .i64)))) (by rw [rU]) (by rw [rU]) (by rw [rU];exact tE)
 rw [rU] at h
 refine h.mono ?_
 rintro v ⟨l,hl,rfl⟩
 obtain ⟨m,rfl⟩:=qq (f:=(fun (l:List Int)=>V.sl none 1 false (l.map (V.int .i64)))) (fun d hd=>by obtain ⟨x,hx⟩:=hl d hd;exact ⟨x,hx⟩)
 exact ⟨m,by simp only [oW]⟩
set_option maxHeartbeats 4000000 in
set_option maxRecDepth 100000 in
theorem OJ:en En (fun v=> ∃x:aH,v=wa x) 27:=by
 have h:=xM bf (T:=27) (by rw [rW]) (by rw [rW]) [(fun v=> ∃l:List Int,v=V.sl none 1 false (l.map (V.int .i64))),(fun v=> ∃l:List (List Int),v=V.sl none 1 false (l.map (fun (l:List Int)=>V.sl none 1 false (l.map (V.int .i64)))))] (by rw [rW];exact ⟨tE,OI,trivial⟩)
 rw [rW] at h
 refine h.mono ?_
 rintro v ⟨vs,h,rfl⟩
 obtain ⟨v0,vs0,rfl,⟨x0,h0⟩,h⟩:=fE h
 obtain ⟨v1,vs1,rfl,⟨x1,h1⟩,h⟩:=fE h
 cases qr h
 exact ⟨⟨x0,x1⟩,by subst h0 h1;simp only [go_sem,iT]⟩
set_option maxHeartbeats 4000000 in
set_option maxRecDepth 100000 in
theorem OK: ∀B,B≤1048576→dv En (fun v=> ∃x:aa,v=aA x) 30 B:=by
 intro B
 induction B using Nat.strongRecOn with
 | ind B ih=>
 intro hB
 cases B with
 | zero=>exact dv.zero
 | succ B=>
  have hs28:dv En (fun v=> ∃l:List aa,v=V.sl none 4 true (l.map aA)) 28 B:=by
   have h:=xK bf (B:=B) (by omega) (T:=28) (Q:=(fun v=> ∃x:aa,v=aA x)) (by rw [rX]) (by rw [rX]) (by rw [rX];exact ih (B - 1) (by omega) (by omega))
   rw [rX] at h
   refine h.mono ?_
   rintro v ⟨l,hl,rfl⟩
   obtain ⟨m,rfl⟩:=qq (f:=aA) (fun d hd=>by obtain ⟨x,hx⟩:=hl d hd;exact ⟨x,hx⟩)
   exact ⟨m,by simp only [lH]⟩
  have h:=xL bf hB (T:=30) (by rw [lH]) (by rw [lH]) [(fun v=> ∃n:Int,v=V.int .i64 n),(fun v=> ∃x:aH,v=wa x),(fun v=> ∃l:List aa,v=V.sl none 4 true (l.map aA))] (by rw [lH];exact ⟨op3.le (by omega),OJ.le (by omega),hs28,trivial⟩)
  rw [lH] at h
  refine h.mono ?_
  rintro v ⟨vs,h,rfl⟩
  obtain ⟨v0,vs0,rfl,⟨x0,h0⟩,h⟩:=fE h
  obtain ⟨v1,vs1,rfl,⟨x1,h1⟩,h⟩:=fE h
  obtain ⟨v2,vs2,rfl,⟨x2,h2⟩,h⟩:=fE h
  cases qr h
  exact ⟨⟨x0,x1,x2⟩,by subst h0 h1 h2;simp only [go_sem,iT]⟩
theorem OL:en En (fun v=> ∃x:aa,v=aA x) 30:=OK _ (Nat.le_refl _)
set_option maxHeartbeats 4000000 in
set_option maxRecDepth 100000 in
theorem op9:en En (fun v=> ∃s:List UInt8,v=V.str s) 9:=by
 have h:=OB bf (T:=9) (by rw [tb9]) (by rw [tb9])
 exact h
set_option maxHeartbeats 4000000 in
set_option maxRecDepth 100000 in
theorem OM:en En (fun v=> ∃x:cu,v=wb x) 32:=by
 have h:=xM bf (T:=32) (by rw [rY]) (by rw [rY]) [(fun v=> ∃l:List Int,v=V.sl none 1 false (l.map (V.int .i64))),(fun v=> ∃n:Int,v=V.int .i64 n),(fun v=> ∃l:List Int,v=V.sl none 1 false (l.map (V.int .i64)))] (by rw [rY];exact ⟨tE,op3,tE,trivial⟩)
 rw [rY] at h
 refine h.mono ?_
 rintro v ⟨vs,h,rfl⟩
 obtain ⟨v0,vs0,rfl,⟨x0,h0⟩,h⟩:=fE h
 obtain ⟨v1,vs1,rfl,⟨x1,h1⟩,h⟩:=fE h
 obtain ⟨v2,vs2,rfl,⟨x2,h2⟩,h⟩:=fE h
 cases qr h
 exact ⟨⟨x0,x1,x2⟩,by subst h0 h1 h2;simp only [go_sem,iT]⟩
set_option maxHeartbeats 4000000 in
set_option maxRecDepth 100000 in
theorem ON: ∀B,B≤1048576→dv En (fun v=> ∃x:aG,v=bA x) 35 B:=by
 intro B
 induction B using Nat.strongRecOn with
 | ind B ih=>
 intro hB
 cases B with
 | zero=>exact dv.zero
 | succ B=>
  have hs33:dv En (fun v=> ∃l:List aG,v=V.sl none 5 true (l.map bA)) 33 B:=by
   have h:=xK bf (B:=B) (by omega) (T:=33) (Q:=(fun v=> ∃x:aG,v=bA x)) (by rw [rZ]) (by rw [rZ]) (by rw [rZ];exact ih (B - 1) (by omega) (by omega))
   rw [rZ] at h
   refine h.mono ?_
   rintro v ⟨l,hl,rfl⟩
   obtain ⟨m,rfl⟩:=qq (f:=bA) (fun d hd=>by obtain ⟨x,hx⟩:=hl d hd;exact ⟨x,hx⟩)
   exact ⟨m,by simp only [lI]⟩
  have h:=xL bf hB (T:=35) (by rw [lI]) (by rw [lI]) [(fun v=> ∃n:Int,v=V.int .i64 n),(fun v=> ∃x:cu,v=wb x),(fun v=> ∃l:List aG,v=V.sl none 5 true (l.map bA))] (by rw [lI];exact ⟨op3.le (by omega),OM.le (by omega),hs33,trivial⟩)
  rw [lI] at h
  refine h.mono ?_
  rintro v ⟨vs,h,rfl⟩
  obtain ⟨v0,vs0,rfl,⟨x0,h0⟩,h⟩:=fE h
  obtain ⟨v1,vs1,rfl,⟨x1,h1⟩,h⟩:=fE h
  obtain ⟨v2,vs2,rfl,⟨x2,h2⟩,h⟩:=fE h
  cases qr h
  exact ⟨⟨x0,x1,x2⟩,by subst h0 h1 h2;simp only [go_sem,iT]⟩
theorem OO:en En (fun v=> ∃x:aG,v=bA x) 35:=ON _ (Nat.le_refl _)
set_option maxRecDepth 100000 in
theorem OP (H:Type) (enc:TypeId×Value→H) (W:World) (base:Nat) (args:Array Value) (ds:List (DataW H)) (ps:List MemPlace) (hA:DataW.TrodAll enc En.P W 0 (fun _=>true) true Tryz.f3.params.toList args.toList ds ps)
  (hval: ∀(j:Nat) t v,Tryz.f3.params[j]? =some t→args[j]? =some v→Value.okWide En.P W .any base t v) (hb:Rows.uptoBulkAll ds≤1048576): ∃ws,rdT ro0 (iS W) ws args.toList∧aE En 3 ws (.bool true) []:=by
 rw [Tryz.params3] at hA hval
 obtain ⟨v0,vs0,d0,ds0,p0,q0,hargs,rfl,rfl,h0,r0⟩:=trodAll_cons hA
 obtain ⟨v1,vs1,d1,ds1,p1,q1,rfl,rfl,rfl,h1,r1⟩:=trodAll_cons r0
 obtain ⟨v2,vs2,d2,ds2,p2,q2,rfl,rfl,rfl,h2,r2⟩:=trodAll_cons r1
 obtain ⟨v3,vs3,d3,ds3,p3,q3,rfl,rfl,rfl,h3,r3⟩:=trodAll_cons r2
 obtain ⟨rfl,rfl,rfl⟩:=trodAll_nil r3
 obtain rfl:args= #[v0,v1,v2,v3]:=by cases args;simp_all
 simp only [Rows.uptoBulkAll] at hb
 obtain ⟨u0,⟨x0,rfl⟩,e0⟩:=tC bf (T:=23) (by rw [m8]) (by rw [m8];decide) OH (hval 0 23 v0 rfl rfl) h0 (by omega)
 obtain ⟨u1,⟨x1,rfl⟩,e1⟩:=tC bf (T:=30) (by rw [lH]) (by rw [lH];decide) OL (hval 1 30 v1 rfl rfl) h1 (by omega)
 obtain ⟨u2,⟨x2,rfl⟩,e2⟩:=tC bf (T:=9) (by rw [tb9]) (by rw [tb9];decide) op9 (hval 2 9 v2 rfl rfl) h2 (by omega)
 obtain ⟨u3,⟨x3,rfl⟩,e3⟩:=tC bf (T:=35) (by rw [lI]) (by rw [lI];decide) OO (hval 3 35 v3 rfl rfl) h3 (by omega)
 refine ⟨[wd x0,aA x1,.str x2,bA x3],⟨v0,[v1,v2,v3],rfl,e0,v1,[v2,v3],rfl,e1,v2,[v3],rfl,e2,v3,[],rfl,e3,rfl⟩,?_⟩
 have h:=(Ni x0 x1 x2 x3).ok
 rw [On x0 x1 x2 x3] at h
 simp only [aA,bA]
 exact h
theorem OQ:ownKnob Tryz.prog.godebug=none:=by kernel_rfl
theorem OR:laidOutB Tryz.prog=true:=by kernel_rfl
set_option maxRecDepth 100000 in
theorem OS: ∀t∈Tryz.f3.params.toList,Tryz.prog.readableRec t=true∧t<Tryz.prog.types.size:=by
 intro t ht
 rw [Tryz.params3] at ht
 simp only [List.mem_cons,List.not_mem_nil,or_false] at ht
 rcases ht with rfl|rfl|rfl|rfl<;>exact ⟨by kernel_rfl,of_decide_eq_true (by kernel_rfl)⟩
set_option maxRecDepth 100000 in
theorem OT (H:Type) (ds:List (DataW H)) (h:ds.length=Tryz.f3.params.toList.length):Rows.formulaChecksSpec.fn H ds={results:=[.lit (.bool true)],args:=ds}:=by
 rw [Tryz.params3] at h
 match ds,h with
 | [d0,d1,d2,d3],_=>rfl
def tF:Array Value:= #[.agg #[.int .i64 0,.int .i64 0,.int .i64 0],.agg #[.int .i64 0,.slice none 0 0,.slice none 0 0,.slice none 0 0],.string .empty,.agg #[.int .i64 0,.slice none 0 0,.int .i64 0,.slice none 0 0,.slice none 0 0]]
theorem OU (os:Os):laidMetH Tryz.prog Rows.formulaChecksUptoRow.laid ((World.laidAll Tryz.prog os Rows.formulaChecksUptoRow.laid).forCall (fun _ _=>0) ⟨#[],tF,[]⟩).memory:=by
 rw [MakeChecks.laidMetH_plain _ _ _ (by kernel_rfl)]
 exact laidMet_laidAll _ (by kernel_rfl) (by kernel_rfl)
theorem OV (os:Os) {H:Type} (enc:TypeId×Value→H): ∃places,DataW.whole enc Tryz.prog ((World.laidAll Tryz.prog os Rows.formulaChecksUptoRow.laid).forCall (fun _ _=>0) ⟨#[],tF,[]⟩).memory Tryz.f3.params.toList Rows.formulaChecksSpec.vars false (tF:Array Value).toList 8=some ([.agg [.lit (.int .i64 0),.lit (.int .i64 0),.lit (.int .i64 0)],.agg [.lit (.int .i64 0),.agg [.nil,.nil],.nil],.lit (.string []),.agg [.lit (.int .i64 0),.agg [.nil,.lit (.int .i64 0),.nil],.nil]],[],places):=⟨[],by kernel_rfl⟩
set_option maxRecDepth 100000 in
theorem OW (os:Os) (started:os.Started) (H:Type) (enc:TypeId×Value→H) (F:Stop.Interp):
  ReturnsInHanded {} Tryz.checked os 3 .any ((Rows.OpenSpec.upto Rows.formulaChecksSpec).preRow enc Tryz.prog Tryz.f3 Rows.formulaChecksUptoRow.domain false Rows.formulaChecksUptoRow.laid) (((Rows.OpenSpec.upto Rows.formulaChecksSpec).at F).post enc Tryz.prog Tryz.f3 false true false false):=by
 obtain ⟨places,hx⟩:=OV os enc
 refine returnsInHanded_of_row (C:=Tryz.checked) (s:=(Rows.OpenSpec.upto Rows.formulaChecksSpec)) OQ started (by kernel_rfl) Tryz.func3
  (witness_row_at (enc:=enc) (C:=Tryz.checked) false (World.laidAll Tryz.prog os Rows.formulaChecksUptoRow.laid) tF (World.laidAll_os _ _ _) (by kernel_rfl) (by kernel_rfl) (by kernel_rfl)
   (OpenSpec.preRow_of_cond 8 hx (by kernel_rfl) (fun k hk=>by cases hk;kernel_rfl) (by kernel_rfl) (OU os))) ?_
 intro W base args ds gs before hval hW _ hk _ hL hsh _
 exact OE (E:=En) (bt:=4) Tryz.underlying4 rfl rfl OR OS OT OP H enc W base args ds gs before hval hW (hk _ rfl) rfl (OG hL hsh)
theorem OX {a b:Bool} (ha:a=true) (hb:b=true):(a&&b)=true:=by rw [ha,hb];rfl
theorem OY:(Rows.formulaChecksUptoRow.wf (OpenSpec.ofChange (Rows.OpenSpec.upto Rows.formulaChecksSpec).bare))=true:=by kernel_rfl
theorem OZ:(laidOutB Tryz.prog)=true:=by kernel_rfl
theorem O0:(mapsRowed Tryz.prog)=true:=by kernel_rfl
theorem O1:(Rows.formulaChecksUptoRow.inPlace==Tryz.prog.inPlace 3)=true:=by kernel_rfl
theorem O2:(Rows.formulaChecksUptoRow.unfollowed==Tryz.prog.unfollowed 3)=true:=by kernel_rfl
theorem O3:(Rows.formulaChecksUptoRow.recurses==Tryz.prog.recurses 3)=true:=by kernel_rfl
theorem O4:(Rows.formulaChecksUptoRow.named==Tryz.prog.varsNamed 3)=true:=by kernel_rfl
theorem O5:(Rows.formulaChecksUptoRow.plainKeys==Tryz.prog.plainKeys)=true:=by kernel_rfl
theorem O6:(Tryz.prog.stopsHeard)=true:=by kernel_rfl
theorem O7:(Tryz.prog.mayEnter)=true:=by kernel_rfl
theorem O8:(Rows.formulaChecksUptoRow.lifted==Tryz.prog.liftsFinal)=true:=by kernel_rfl
theorem O9:joinedFacts Tryz.prog 3 Tryz.f3 (Rows.OpenSpec.upto Rows.formulaChecksSpec).bare Rows.formulaChecksUptoRow=true:=by
 unfold joinedFacts
 repeat' (with_reducible refine OX ?_ ?_)
 all_goals first|with_reducible exact OY|with_reducible exact OZ|with_reducible exact O0|with_reducible exact O1|with_reducible exact O2|with_reducible exact O3|with_reducible exact O4|with_reducible exact O5|with_reducible exact O6|with_reducible exact O7|with_reducible exact O8|kernel_rfl
theorem O_:Rows.FormulaChecksUptoSaid:=
 OpenClaim.holds_of_cond 3 Tryz.f3 rfl rfl rfl rfl rfl rfl rfl ⟨rfl,rfl,rfl,rfl,rfl⟩ rfl rfl rfl rfl rfl (by kernel_rfl) Tryz.func3 O9
  (of_decide_eq_true (by kernel_rfl)) (by unfold Func.isWrapper;first|(rw [if_pos (by decide+kernel)];kernel_rfl)|(rw [if_neg (by decide+kernel)];exact ⟨rfl,rfl⟩))
  (fun os started H enc _ F=>by rw [OpenClaim.pre_eq_preRow];exact OW os started H enc F)
theorem Pa (f:FuncId) (fn:Func) (hf:Tryz.pinned.checked.prog.funcNamed "specie/specielaw21.FormulaChecks" =some f) (hfn:Tryz.pinned.checked.prog.funcs[f]? =some fn):
  true=Tryz.pinned.checked.prog.looks []∧ ∀(j:Nat) t,fn.params[j]? =some t→Tryz.pinned.checked.prog.wantsStandIn t=false:=by
 obtain rfl:f=3:=Option.some.inj ((show Tryz.prog.funcNamed "specie/specielaw21.FormulaChecks" =some 3 by kernel_rfl).symm.trans hf)|>.symm
 obtain rfl:fn=Tryz.f3:=(Option.some.inj (Tryz.func3.symm.trans hfn)).symm
 refine ⟨by kernel_rfl,fun j t ht=> ?_⟩
 have hall:(Tryz.f3.params.toList.all fun u=> !Tryz.prog.wantsStandIn u)=true:=by kernel_rfl
 have h0:=List.all_eq_true.1 hall t (Array.mem_toList_iff.2 (Array.mem_of_getElem? ht))
 exact (show Tryz.prog.wantsStandIn t=false by simpa using h0)
theorem formulaChecks_holds:Rows.FormulaChecksUptoCardSaid:=
 Claim7.holds_tied_plain_at .later [] _ _ _ _ O_ (fun _ h=>by cases h) (by kernel_rfl) (fun _ h=>by cases h) formulaChecksUpto_row_tie rfl ⟨rfl,rfl⟩ (by kernel_rfl) rfl Pa (by kernel_rfl)
end Go.Proofs.YtgealhhkngbkbaaGreatDoor
