/- FormulaComplete: the law holds of what holds at most 1048576 values and letters together (printed by program, but for the law itself). -/
import Derived.Test.YtgealhhkngbkbaaGreatDoorZ14
import Derived.Test.YtgealhhkngbkbaaGreatDoorZ12
import Derived.Test.YtgealhhkngbkbaaGreatDoorZ13
import Derived.Test.YtgealhhkngbkbaaGreatDoorCards
import Derived.Test.YtgealhhkngbkbaaGreatDoorTie
import Derived.Deep.DeepHandedRow
import Derived.Lay
import Derived.LaidMore
import Derived.SevenTiedAt
import Derived.Stop.Joined
namespace Go.Proofs.YtgealhhkngbkbaaGreatDoor
open Go.ChangeShapes Go.WideShapes Go.ChangeAt Go.RowKit
set_option maxHeartbeats 4000000 in
set_option maxRecDepth 100000 in
theorem op3:dw En (fun v=> ∃n:Int,v=V.int .i64 n) 3:=by
 have h:=yI bc (T:=3) (by rw [tb3]) (by rw [tb3])
 rw [tb3] at h
 exact h
set_option maxHeartbeats 4000000 in
set_option maxRecDepth 100000 in
theorem Pk:dw En (fun v=> ∃x:ak,v=wT x) 23:=by
 have h:=yJ bc (T:=23) (by rw [nA]) (by rw [nA]) [(fun v=> ∃n:Int,v=V.int .i64 n),(fun v=> ∃n:Int,v=V.int .i64 n),(fun v=> ∃n:Int,v=V.int .i64 n)] (by rw [nA];exact ⟨op3,op3,op3,trivial⟩)
 rw [nA] at h
 refine h.mono ?_
 rintro v ⟨vs,h,rfl⟩
 obtain ⟨v0,vs0,rfl,⟨x0,h0⟩,h⟩:=jD h
 obtain ⟨v1,vs1,rfl,⟨x1,h1⟩,h⟩:=jD h
 obtain ⟨v2,vs2,rfl,⟨x2,h2⟩,h⟩:=jD h
 cases t7 h
 exact ⟨⟨x0,x1,x2⟩,by subst h0 h1 h2;simp only [go_sem,kx]⟩
set_option maxHeartbeats 4000000 in
set_option maxRecDepth 100000 in
theorem yK:dw En (fun v=> ∃l:List Int,v=V.sl none 1 false (l.map (V.int .i64))) 24:=by
 have h:=EB bc (T:=24) (Q:=(fun v=> ∃n:Int,v=V.int .i64 n)) (by rw [mf]) (by rw [mf]) (by rw [mf];exact op3)
 rw [mf] at h
 refine h.mono ?_
 rintro v ⟨l,hl,rfl⟩
 obtain ⟨m,rfl⟩:=qJ (f:=(V.int .i64)) (fun d hd=>by obtain ⟨x,hx⟩:=hl d hd;exact ⟨x,hx⟩)
 exact ⟨m,by simp only [tb3]⟩
set_option maxHeartbeats 4000000 in
set_option maxRecDepth 100000 in
theorem Pm:dw En (fun v=> ∃l:List (List Int),v=V.sl none 1 false (l.map (fun (l:List Int)=>V.sl none 1 false (l.map (V.int .i64))))) 25:=by
 have h:=EB bc (T:=25) (Q:=(fun v=> ∃l:List Int,v=V.sl none 1 false (l.map (V.int .i64)))) (by rw [sr]) (by rw [sr]) (by rw [sr];exact yK)
 rw [sr] at h
 refine h.mono ?_
 rintro v ⟨l,hl,rfl⟩
 obtain ⟨m,rfl⟩:=qJ (f:=(fun (l:List Int)=>V.sl none 1 false (l.map (V.int .i64)))) (fun d hd=>by obtain ⟨x,hx⟩:=hl d hd;exact ⟨x,hx⟩)
 exact ⟨m,by simp only [mf]⟩
set_option maxHeartbeats 4000000 in
set_option maxRecDepth 100000 in
theorem Pn:dw En (fun v=> ∃x:aF,v=wR x) 27:=by
 have h:=yJ bc (T:=27) (by rw [ss]) (by rw [ss]) [(fun v=> ∃l:List Int,v=V.sl none 1 false (l.map (V.int .i64))),(fun v=> ∃l:List (List Int),v=V.sl none 1 false (l.map (fun (l:List Int)=>V.sl none 1 false (l.map (V.int .i64)))))] (by rw [ss];exact ⟨yK,Pm,trivial⟩)
 rw [ss] at h
 refine h.mono ?_
 rintro v ⟨vs,h,rfl⟩
 obtain ⟨v0,vs0,rfl,⟨x0,h0⟩,h⟩:=jD h
 obtain ⟨v1,vs1,rfl,⟨x1,h1⟩,h⟩:=jD h
 cases t7 h
 exact ⟨⟨x0,x1⟩,by subst h0 h1;simp only [go_sem,kx]⟩
set_option maxHeartbeats 4000000 in
set_option maxRecDepth 100000 in
theorem Po: ∀B,B≤1048576→dQ En (fun v=> ∃x:aa,v=aw x) 30 B:=by
 intro B
 induction B using Nat.strongRecOn with
 | ind B ih=>
 intro hB
 cases B with
 | zero=>exact dQ.zero
 | succ B=>
  have hs28:dQ En (fun v=> ∃l:List aa,v=V.sl none 4 true (l.map aw)) 28 B:=by
   have h:=Ey bc (B:=B) (by omega) (T:=28) (Q:=(fun v=> ∃x:aa,v=aw x)) (by rw [su]) (by rw [su]) (by rw [su];exact ih (B - 1) (by omega) (by omega))
   rw [su] at h
   refine h.mono ?_
   rintro v ⟨l,hl,rfl⟩
   obtain ⟨m,rfl⟩:=qJ (f:=aw) (fun d hd=>by obtain ⟨x,hx⟩:=hl d hd;exact ⟨x,hx⟩)
   exact ⟨m,by simp only [mg]⟩
  have h:=EA bc hB (T:=30) (by rw [mg]) (by rw [mg]) [(fun v=> ∃n:Int,v=V.int .i64 n),(fun v=> ∃x:aF,v=wR x),(fun v=> ∃l:List aa,v=V.sl none 4 true (l.map aw))] (by rw [mg];exact ⟨op3.le (by omega),Pn.le (by omega),hs28,trivial⟩)
  rw [mg] at h
  refine h.mono ?_
  rintro v ⟨vs,h,rfl⟩
  obtain ⟨v0,vs0,rfl,⟨x0,h0⟩,h⟩:=jD h
  obtain ⟨v1,vs1,rfl,⟨x1,h1⟩,h⟩:=jD h
  obtain ⟨v2,vs2,rfl,⟨x2,h2⟩,h⟩:=jD h
  cases t7 h
  exact ⟨⟨x0,x1,x2⟩,by subst h0 h1 h2;simp only [go_sem,kx]⟩
theorem Pp:dw En (fun v=> ∃x:aa,v=aw x) 30:=Po _ (Nat.le_refl _)
set_option maxHeartbeats 4000000 in
set_option maxRecDepth 100000 in
theorem Pq:dw En (fun v=> ∃n:Int,v=V.int .u32 n) 40:=by
 have h:=yI bc (T:=40) (by rw [pe]) (by rw [pe])
 rw [pe] at h
 exact h
set_option maxHeartbeats 4000000 in
set_option maxRecDepth 100000 in
theorem op9:dw En (fun v=> ∃s:List UInt8,v=V.str s) 9:=by
 have h:=Pc bc (T:=9) (by rw [tb9]) (by rw [tb9])
 exact h
set_option maxHeartbeats 4000000 in
set_option maxRecDepth 100000 in
theorem op5:dw En (fun v=> ∃n:Int,v=V.int .u8 n) 5:=by
 have h:=yI bc (T:=5) (by rw [tb5]) (by rw [tb5])
 rw [tb5] at h
 exact h
set_option maxHeartbeats 4000000 in
set_option maxRecDepth 100000 in
theorem Pr:dw En (fun v=> ∃x:(List Int),v=gP x) 42:=by
 have h:=Pd bc (T:=42) (Q:=(fun v=> ∃n:Int,v=V.int .u8 n)) (by rw [pf]) (by rw [pf]) (by rw [pf];exact op5)
 rw [pf] at h
 refine h.mono ?_
 rintro v ⟨l,hn,hl,rfl⟩
 obtain ⟨m,rfl⟩:=qJ (f:=(V.int .u8)) (fun d hd=>by obtain ⟨x,hx⟩:=hl d hd;exact ⟨x,hx⟩)
 refine ⟨m,?_⟩
 have hm:m.length=32:=by simpa only [List.length_map,pf] using hn
 rw [Pi (f:=(V.int .u8)) hm]
 simp only [tb5]
 rfl
set_option maxHeartbeats 4000000 in
set_option maxRecDepth 100000 in
theorem Ps:dw En (fun v=> ∃x:bm,v=dO x) 44:=by
 have h:=yJ bc (T:=44) (by rw [nB]) (by rw [nB]) [(fun v=> ∃x:(List Int),v=gP x),(fun v=> ∃n:Int,v=V.int .i64 n)] (by rw [nB];exact ⟨Pr,op3,trivial⟩)
 rw [nB] at h
 refine h.mono ?_
 rintro v ⟨vs,h,rfl⟩
 obtain ⟨v0,vs0,rfl,⟨x0,h0⟩,h⟩:=jD h
 obtain ⟨v1,vs1,rfl,⟨x1,h1⟩,h⟩:=jD h
 cases t7 h
 exact ⟨⟨x0,x1⟩,by subst h0 h1;simp only [go_sem,kx]⟩
set_option maxRecDepth 100000 in
theorem Pt (H:Type) (enc:TypeId×Value→H) (W:World) (base:Nat) (args:Array Value) (ds:List (DataW H)) (ps:List MemPlace) (hA:DataW.TrodAll enc En.P W 0 (fun _=>true) true Tryz.f4.params.toList args.toList ds ps)
  (hval: ∀(j:Nat) t v,Tryz.f4.params[j]? =some t→args[j]? =some v→Value.okWide En.P W .any base t v) (hb:Rows.uptoBulkAll ds≤1048576): ∃ws,rdT ro0 (hO W) ws args.toList∧aI En 4 ws (.bool true) []:=by
 rw [Tryz.params4] at hA hval
 obtain ⟨v0,vs0,d0,ds0,p0,q0,hargs,rfl,rfl,h0,r0⟩:=trodAll_cons hA
 obtain ⟨v1,vs1,d1,ds1,p1,q1,rfl,rfl,rfl,h1,r1⟩:=trodAll_cons r0
 obtain ⟨v2,vs2,d2,ds2,p2,q2,rfl,rfl,rfl,h2,r2⟩:=trodAll_cons r1
 obtain ⟨v3,vs3,d3,ds3,p3,q3,rfl,rfl,rfl,h3,r3⟩:=trodAll_cons r2
 obtain ⟨v4,vs4,d4,ds4,p4,q4,rfl,rfl,rfl,h4,r4⟩:=trodAll_cons r3
 obtain ⟨v5,vs5,d5,ds5,p5,q5,rfl,rfl,rfl,h5,r5⟩:=trodAll_cons r4
 obtain ⟨rfl,rfl,rfl⟩:=trodAll_nil r5
 obtain rfl:args= #[v0,v1,v2,v3,v4,v5]:=by cases args;simp_all
 simp only [Rows.uptoBulkAll] at hb
 obtain ⟨u0,⟨x0,rfl⟩,e0⟩:=oD bc (T:=23) (by rw [nA]) (by rw [nA];decide) Pk (hval 0 23 v0 rfl rfl) h0 (by omega)
 obtain ⟨u1,⟨x1,rfl⟩,e1⟩:=oD bc (T:=30) (by rw [mg]) (by rw [mg];decide) Pp (hval 1 30 v1 rfl rfl) h1 (by omega)
 obtain ⟨u2,⟨x2,rfl⟩,e2⟩:=oD bc (T:=24) (by rw [mf]) (by rw [mf];decide) yK (hval 2 24 v2 rfl rfl) h2 (by omega)
 obtain ⟨u3,⟨x3,rfl⟩,e3⟩:=oD bc (T:=40) (by rw [pe]) (by rw [pe];decide) Pq (hval 3 40 v3 rfl rfl) h3 (by omega)
 obtain ⟨u4,⟨x4,rfl⟩,e4⟩:=oD bc (T:=9) (by rw [tb9]) (by rw [tb9];decide) op9 (hval 4 9 v4 rfl rfl) h4 (by omega)
 obtain ⟨u5,⟨x5,rfl⟩,e5⟩:=oD bc (T:=44) (by rw [nB]) (by rw [nB];decide) Ps (hval 5 44 v5 rfl rfl) h5 (by omega)
 refine ⟨[wT x0,aw x1,.sl none 1 false (x2.map (V.int .i64)),.int .u32 x3,.str x4,dO x5],⟨v0,[v1,v2,v3,v4,v5],rfl,e0,v1,[v2,v3,v4,v5],rfl,e1,v2,[v3,v4,v5],rfl,e2,v3,[v4,v5],rfl,e3,v4,[v5],rfl,e4,v5,[],rfl,e5,rfl⟩,?_⟩
 have h:=(NV x0 x1 x2 x3 x4 x5).ok
 rw [O3 x0 x1 x2 x3 x4 x5 (kG (c:=hO W) (cs:=[v0,v1,v2,v3,v4,v5]) ⟨v0,[v1,v2,v3,v4,v5],rfl,e0,v1,[v2,v3,v4,v5],rfl,e1,v2,[v3,v4,v5],rfl,e2,v3,[v4,v5],rfl,e3,v4,[v5],rfl,e4,v5,[],rfl,e5,rfl⟩)] at h
 simp only [aw]
 exact h
theorem Pu:ownKnob Tryz.prog.godebug=none:=by kernel_rfl
theorem Pv:laidOutB Tryz.prog=true:=by kernel_rfl
set_option maxRecDepth 100000 in
theorem Pw: ∀t∈Tryz.f4.params.toList,Tryz.prog.readableRec t=true∧t<Tryz.prog.types.size:=by
 intro t ht
 rw [Tryz.params4] at ht
 simp only [List.mem_cons,List.not_mem_nil,or_false] at ht
 rcases ht with rfl|rfl|rfl|rfl|rfl|rfl<;>exact ⟨by kernel_rfl,of_decide_eq_true (by kernel_rfl)⟩
set_option maxRecDepth 100000 in
theorem Py (H:Type) (ds:List (DataW H)) (h:ds.length=Tryz.f4.params.toList.length):Rows.formulaCompleteSpec.fn H ds={results:=[.lit (.bool true)],args:=ds}:=by
 rw [Tryz.params4] at h
 match ds,h with
 | [d0,d1,d2,d3,d4,d5],_=>rfl
def ua:Array Value:= #[.agg #[.int .i64 0,.int .i64 0,.int .i64 0],.agg #[.int .i64 0,.slice none 0 0,.slice none 0 0,.slice none 0 0],.slice none 0 0,.int .u32 0,.string .empty,.agg #[.int .u8 0,.int .u8 0,.int .u8 0,.int .u8 0,.int .u8 0,.int .u8 0,.int .u8 0,.int .u8 0,.int .u8 0,.int .u8 0,.int .u8 0,.int .u8 0,.int .u8 0,.int .u8 0,.int .u8 0,.int .u8 0,.int .u8 0,.int .u8 0,.int .u8 0,.int .u8 0,.int .u8 0,.int .u8 0,.int .u8 0,.int .u8 0,.int .u8 0,.int .u8 0,.int .u8 0,.int .u8 0,.int .u8 0,.int .u8 0,.int .u8 0,.int .u8 0,.int .i64 0]]
theorem Pz (os:Os):laidMetH Tryz.prog Rows.formulaCompleteUptoRow.laid ((World.laidAll Tryz.prog os Rows.formulaCompleteUptoRow.laid).forCall (fun _ _=>0) ⟨#[],ua,[]⟩).memory:=by
 rw [MakeChecks.laidMetH_plain _ _ _ (by kernel_rfl)]
 exact laidMet_laidAll _ (by kernel_rfl) (by kernel_rfl)
theorem PA (os:Os) {H:Type} (enc:TypeId×Value→H): ∃places,DataW.whole enc Tryz.prog ((World.laidAll Tryz.prog os Rows.formulaCompleteUptoRow.laid).forCall (fun _ _=>0) ⟨#[],ua,[]⟩).memory Tryz.f4.params.toList Rows.formulaCompleteSpec.vars false (ua:Array Value).toList 8=some ([.agg [.lit (.int .i64 0),.lit (.int .i64 0),.lit (.int .i64 0)],.agg [.lit (.int .i64 0),.agg [.nil,.nil],.nil],.nil,.lit (.int .u32 0),.lit (.string []),.agg [.agg (List.replicate 32 (.lit (.int .u8 0))),.lit (.int .i64 0)]],[],places):=⟨[],by kernel_rfl⟩
set_option maxRecDepth 100000 in
theorem PC (os:Os) (started:os.Started) (H:Type) (enc:TypeId×Value→H) (F:Stop.Interp):
  ReturnsInHanded {} Tryz.checked os 4 .any ((Rows.OpenSpec.upto Rows.formulaCompleteSpec).preRow enc Tryz.prog Tryz.f4 Rows.formulaCompleteUptoRow.domain false Rows.formulaCompleteUptoRow.laid) (((Rows.OpenSpec.upto Rows.formulaCompleteSpec).at F).post enc Tryz.prog Tryz.f4 false true false false):=by
 obtain ⟨places,hx⟩:=PA os enc
 refine returnsInHanded_of_row (C:=Tryz.checked) (s:=(Rows.OpenSpec.upto Rows.formulaCompleteSpec)) Pu started (by kernel_rfl) Tryz.func4
  (witness_row_at (enc:=enc) (C:=Tryz.checked) false (World.laidAll Tryz.prog os Rows.formulaCompleteUptoRow.laid) ua (World.laidAll_os _ _ _) (by kernel_rfl) (by kernel_rfl) (by kernel_rfl)
   (OpenSpec.preRow_of_cond 8 hx (by kernel_rfl) (fun k hk=>by cases hk;kernel_rfl) (by kernel_rfl) (Pz os))) ?_
 intro W base args ds gs before hval hW _ hk _ hL hsh _
 exact Pg (E:=En) (bt:=4) Tryz.underlying4 rfl rfl Pv Pw Py Pt H enc W base args ds gs before hval hW (hk _ rfl) rfl (Pj hL hsh)
theorem PD {a b:Bool} (ha:a=true) (hb:b=true):(a&&b)=true:=by rw [ha,hb];rfl
theorem PE:(Rows.formulaCompleteUptoRow.wf (OpenSpec.ofChange (Rows.OpenSpec.upto Rows.formulaCompleteSpec).bare))=true:=by kernel_rfl
theorem PF:(laidOutB Tryz.prog)=true:=by kernel_rfl
theorem PG:(mapsRowed Tryz.prog)=true:=by kernel_rfl
theorem PH:(Rows.formulaCompleteUptoRow.inPlace==Tryz.prog.inPlace 4)=true:=by kernel_rfl
theorem PI:(Rows.formulaCompleteUptoRow.unfollowed==Tryz.prog.unfollowed 4)=true:=by kernel_rfl
theorem PJ:(Rows.formulaCompleteUptoRow.recurses==Tryz.prog.recurses 4)=true:=by kernel_rfl
theorem PK:(Rows.formulaCompleteUptoRow.named==Tryz.prog.varsNamed 4)=true:=by kernel_rfl
theorem PL:(Rows.formulaCompleteUptoRow.plainKeys==Tryz.prog.plainKeys)=true:=by kernel_rfl
theorem PM:(Tryz.prog.stopsHeard)=true:=by kernel_rfl
theorem PN:(Tryz.prog.mayEnter)=true:=by kernel_rfl
theorem PO:(Rows.formulaCompleteUptoRow.lifted==Tryz.prog.liftsFinal)=true:=by kernel_rfl
theorem PP:joinedFacts Tryz.prog 4 Tryz.f4 (Rows.OpenSpec.upto Rows.formulaCompleteSpec).bare Rows.formulaCompleteUptoRow=true:=by
 unfold joinedFacts
 repeat' (with_reducible refine PD ?_ ?_)
 all_goals first|with_reducible exact PE|with_reducible exact PF|with_reducible exact PG|with_reducible exact PH|with_reducible exact PI|with_reducible exact PJ|with_reducible exact PK|with_reducible exact PL|with_reducible exact PM|with_reducible exact PN|with_reducible exact PO|kernel_rfl
theorem PQ:Rows.FormulaCompleteUptoSaid:=
 OpenClaim.holds_of_cond 4 Tryz.f4 rfl rfl rfl rfl rfl rfl rfl ⟨rfl,rfl,rfl,rfl,rfl⟩ rfl rfl rfl rfl rfl (by kernel_rfl) Tryz.func4 PP
  (of_decide_eq_true (by kernel_rfl)) (by unfold Func.isWrapper;first|(rw [if_pos (by decide+kernel)];kernel_rfl)|(rw [if_neg (by decide+kernel)];exact ⟨rfl,rfl⟩))
  (fun os started H enc _ F=>by rw [OpenClaim.pre_eq_preRow];exact PC os started H enc F)
theorem PR (f:FuncId) (fn:Func) (hf:Tryz.pinned.checked.prog.funcNamed "specie/specielaw21.FormulaComplete" =some f) (hfn:Tryz.pinned.checked.prog.funcs[f]? =some fn):
  true=Tryz.pinned.checked.prog.looks []∧ ∀(j:Nat) t,fn.params[j]? =some t→Tryz.pinned.checked.prog.wantsStandIn t=false:=by
 obtain rfl:f=4:=Option.some.inj ((show Tryz.prog.funcNamed "specie/specielaw21.FormulaComplete" =some 4 by kernel_rfl).symm.trans hf)|>.symm
 obtain rfl:fn=Tryz.f4:=(Option.some.inj (Tryz.func4.symm.trans hfn)).symm
 refine ⟨by kernel_rfl,fun j t ht=> ?_⟩
 have hall:(Tryz.f4.params.toList.all fun u=> !Tryz.prog.wantsStandIn u)=true:=by kernel_rfl
 have h0:=List.all_eq_true.1 hall t (Array.mem_toList_iff.2 (Array.mem_of_getElem? ht))
 exact (show Tryz.prog.wantsStandIn t=false by simpa using h0)
theorem formulaComplete_holds:Rows.FormulaCompleteUptoCardSaid:=
 Claim7.holds_tied_plain_at .later [] _ _ _ _ PQ (fun _ h=>by cases h) (by kernel_rfl) (fun _ h=>by cases h) formulaCompleteUpto_row_tie rfl ⟨rfl,rfl⟩ (by kernel_rfl) rfl PR (by kernel_rfl)
end Go.Proofs.YtgealhhkngbkbaaGreatDoor
