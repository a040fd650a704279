/- MerchantPolicies: the law holds of what holds at most 1048576 values and letters together (printed by program, but for the law itself). -/
import Derived.Test.YteibkofekpejgaaGreatDoorZ19
import Derived.Test.YteibkofekpejgaaGreatDoorZ18
import Derived.Test.YteibkofekpejgaaGreatDoorCards
import Derived.Test.YteibkofekpejgaaGreatDoorTie
import Derived.Deep.DeepHandedRow
import Derived.Lay
import Derived.LaidMore
import Derived.SevenTiedAt
import Derived.Stop.Joined
namespace Go.Proofs.YteibkofekpejgaaGreatDoor
open Go.ChangeShapes Go.WideShapes Go.ChangeAt Go.RowKit
set_option maxHeartbeats 4000000 in
set_option maxRecDepth 100000 in
theorem op3:bI En (fun v=> ∃n:Int,v=V.int .i64 n) 3:=by
 have h:=EX aV (T:=3) (by rw [tb3]) (by rw [tb3])
 rw [tb3] at h
 exact h
set_option maxHeartbeats 4000000 in
set_option maxRecDepth 100000 in
theorem OP:bI En (fun v=> ∃x:aO,v=xJ x) 23:=by
 have h:=dD aV (T:=23) (by rw [sF]) (by rw [sF]) [(fun v=> ∃n:Int,v=V.int .i64 n),(fun v=> ∃n:Int,v=V.int .i64 n),(fun v=> ∃n:Int,v=V.int .i64 n)] (by rw [sF];exact ⟨op3,op3,op3,trivial⟩)
 rw [sF] at h
 refine h.mono ?_
 rintro v ⟨vs,h,rfl⟩
 obtain ⟨v0,vs0,rfl,⟨x0,h0⟩,h⟩:=aX h
 obtain ⟨v1,vs1,rfl,⟨x1,h1⟩,h⟩:=aX h
 obtain ⟨v2,vs2,rfl,⟨x2,h2⟩,h⟩:=aX h
 cases dE h
 exact ⟨⟨x0,x1,x2⟩,by subst h0 h1 h2;simp only [go_sem,cX]⟩
set_option maxHeartbeats 4000000 in
set_option maxRecDepth 100000 in
theorem OQ:bI En (fun v=> ∃x:aY,v=bL x) 25:=by
 have h:=dD aV (T:=25) (by rw [m9]) (by rw [m9]) [(fun v=> ∃x:aO,v=xJ x),(fun v=> ∃n:Int,v=V.int .i64 n),(fun v=> ∃n:Int,v=V.int .i64 n),(fun v=> ∃n:Int,v=V.int .i64 n)] (by rw [m9];exact ⟨OP,op3,op3,op3,trivial⟩)
 rw [m9] at h
 refine h.mono ?_
 rintro v ⟨vs,h,rfl⟩
 obtain ⟨v0,vs0,rfl,⟨x0,h0⟩,h⟩:=aX h
 obtain ⟨v1,vs1,rfl,⟨x1,h1⟩,h⟩:=aX h
 obtain ⟨v2,vs2,rfl,⟨x2,h2⟩,h⟩:=aX h
 obtain ⟨v3,vs3,rfl,⟨x3,h3⟩,h⟩:=aX h
 cases dE h
 exact ⟨⟨x0,x1,x2,x3⟩,by subst h0 h1 h2 h3;simp only [go_sem,cX]⟩
set_option maxHeartbeats 4000000 in
set_option maxRecDepth 100000 in
theorem OR:bI En (fun v=> ∃x:gN,v=xK x) 153:=by
 have h:=dD aV (T:=153) (by rw [sW]) (by rw [sW]) [(fun v=> ∃n:Int,v=V.int .i64 n),(fun v=> ∃n:Int,v=V.int .i64 n),(fun v=> ∃n:Int,v=V.int .i64 n)] (by rw [sW];exact ⟨op3,op3,op3,trivial⟩)
 rw [sW] at h
 refine h.mono ?_
 rintro v ⟨vs,h,rfl⟩
 obtain ⟨v0,vs0,rfl,⟨x0,h0⟩,h⟩:=aX h
 obtain ⟨v1,vs1,rfl,⟨x1,h1⟩,h⟩:=aX h
 obtain ⟨v2,vs2,rfl,⟨x2,h2⟩,h⟩:=aX h
 cases dE h
 exact ⟨⟨x0,x1,x2⟩,by subst h0 h1 h2;simp only [go_sem,cX]⟩
set_option maxHeartbeats 4000000 in
set_option maxRecDepth 100000 in
theorem OS:bI En (fun v=> ∃x:bg,v=cD x) 155:=by
 have h:=dD aV (T:=155) (by rw [pt]) (by rw [pt]) [(fun v=> ∃n:Int,v=V.int .i64 n),(fun v=> ∃n:Int,v=V.int .i64 n),(fun v=> ∃n:Int,v=V.int .i64 n),(fun v=> ∃n:Int,v=V.int .i64 n),(fun v=> ∃n:Int,v=V.int .i64 n),(fun v=> ∃x:gN,v=xK x),(fun v=> ∃n:Int,v=V.int .i64 n),(fun v=> ∃n:Int,v=V.int .i64 n),(fun v=> ∃n:Int,v=V.int .i64 n)] (by rw [pt];exact ⟨op3,op3,op3,op3,op3,OR,op3,op3,op3,trivial⟩)
 rw [pt] at h
 refine h.mono ?_
 rintro v ⟨vs,h,rfl⟩
 obtain ⟨v0,vs0,rfl,⟨x0,h0⟩,h⟩:=aX h
 obtain ⟨v1,vs1,rfl,⟨x1,h1⟩,h⟩:=aX h
 obtain ⟨v2,vs2,rfl,⟨x2,h2⟩,h⟩:=aX h
 obtain ⟨v3,vs3,rfl,⟨x3,h3⟩,h⟩:=aX h
 obtain ⟨v4,vs4,rfl,⟨x4,h4⟩,h⟩:=aX h
 obtain ⟨v5,vs5,rfl,⟨x5,h5⟩,h⟩:=aX h
 obtain ⟨v6,vs6,rfl,⟨x6,h6⟩,h⟩:=aX h
 obtain ⟨v7,vs7,rfl,⟨x7,h7⟩,h⟩:=aX h
 obtain ⟨v8,vs8,rfl,⟨x8,h8⟩,h⟩:=aX h
 cases dE h
 exact ⟨⟨x0,x1,x2,x3,x4,x5,x6,x7,x8⟩,by subst h0 h1 h2 h3 h4 h5 h6 h7 h8;simp only [go_sem,cX]⟩
set_option maxHeartbeats 4000000 in
set_option maxRecDepth 100000 in
theorem OT:bI En (fun v=> ∃l:List bg,v=V.sl none 11 true (l.map cD)) 26:=by
 have h:=iK aV (T:=26) (Q:=(fun v=> ∃x:bg,v=cD x)) (by rw [m_]) (by rw [m_]) (by rw [m_];exact OS)
 rw [m_] at h
 refine h.mono ?_
 rintro v ⟨l,hl,rfl⟩
 obtain ⟨m,rfl⟩:=gu (f:=cD) (fun d hd=>by obtain ⟨x,hx⟩:=hl d hd;exact ⟨x,hx⟩)
 exact ⟨m,by simp only [pt]⟩
set_option maxHeartbeats 4000000 in
set_option maxRecDepth 100000 in
theorem op5:bI En (fun v=> ∃n:Int,v=V.int .u8 n) 5:=by
 have h:=EX aV (T:=5) (by rw [tb5]) (by rw [tb5])
 rw [tb5] at h
 exact h
set_option maxHeartbeats 4000000 in
set_option maxRecDepth 100000 in
theorem qW:bI En (fun v=> ∃x:(List Int),v=aH x) 28:=by
 have h:=OJ aV (T:=28) (Q:=(fun v=> ∃n:Int,v=V.int .u8 n)) (by rw [na]) (by rw [na]) (by rw [na];exact op5)
 rw [na] at h
 refine h.mono ?_
 rintro v ⟨l,hn,hl,rfl⟩
 obtain ⟨m,rfl⟩:=gu (f:=(V.int .u8)) (fun d hd=>by obtain ⟨x,hx⟩:=hl d hd;exact ⟨x,hx⟩)
 refine ⟨m,?_⟩
 have hm:m.length=32:=by simpa only [List.length_map,na] using hn
 rw [ON (f:=(V.int .u8)) hm]
 simp only [tb5]
 rfl
set_option maxHeartbeats 4000000 in
set_option maxRecDepth 100000 in
theorem OU:bI En (fun v=> ∃x:bW,v=ct x) 83:=by
 have h:=dD aV (T:=83) (by rw [pn]) (by rw [pn]) [(fun v=> ∃n:Int,v=V.int .i64 n),(fun v=> ∃n:Int,v=V.int .i64 n),(fun v=> ∃n:Int,v=V.int .i64 n)] (by rw [pn];exact ⟨op3,op3,op3,trivial⟩)
 rw [pn] at h
 refine h.mono ?_
 rintro v ⟨vs,h,rfl⟩
 obtain ⟨v0,vs0,rfl,⟨x0,h0⟩,h⟩:=aX h
 obtain ⟨v1,vs1,rfl,⟨x1,h1⟩,h⟩:=aX h
 obtain ⟨v2,vs2,rfl,⟨x2,h2⟩,h⟩:=aX h
 cases dE h
 exact ⟨⟨x0,x1,x2⟩,by subst h0 h1 h2;simp only [go_sem,cX]⟩
set_option maxHeartbeats 4000000 in
set_option maxRecDepth 100000 in
theorem OV:bI En (fun v=> ∃l:List bW,v=V.sl none 3 true (l.map ct)) 29:=by
 have h:=iK aV (T:=29) (Q:=(fun v=> ∃x:bW,v=ct x)) (by rw [sG]) (by rw [sG]) (by rw [sG];exact OU)
 rw [sG] at h
 refine h.mono ?_
 rintro v ⟨l,hl,rfl⟩
 obtain ⟨m,rfl⟩:=gu (f:=ct) (fun d hd=>by obtain ⟨x,hx⟩:=hl d hd;exact ⟨x,hx⟩)
 exact ⟨m,by simp only [pn]⟩
set_option maxHeartbeats 4000000 in
set_option maxRecDepth 100000 in
theorem OW:bI En (fun v=> ∃x:dp,v=xH x) 31:=by
 have h:=dD aV (T:=31) (by rw [sH]) (by rw [sH]) [(fun v=> ∃l:List bW,v=V.sl none 3 true (l.map ct))] (by rw [sH];exact ⟨OV,trivial⟩)
 rw [sH] at h
 refine h.mono ?_
 rintro v ⟨vs,h,rfl⟩
 obtain ⟨v0,vs0,rfl,⟨x0,h0⟩,h⟩:=aX h
 cases dE h
 exact ⟨⟨x0⟩,by subst h0;simp only [go_sem,cX]⟩
set_option maxHeartbeats 4000000 in
set_option maxRecDepth 100000 in
theorem OX:bI En (fun v=> ∃x:aN,v=aZ x) 50:=by
 have h:=dD aV (T:=50) (by rw [pj]) (by rw [pj]) [(fun v=> ∃x:(List Int),v=aH x),(fun v=> ∃n:Int,v=V.int .i64 n),(fun v=> ∃n:Int,v=V.int .i64 n),(fun v=> ∃n:Int,v=V.int .i64 n)] (by rw [pj];exact ⟨qW,op3,op3,op3,trivial⟩)
 rw [pj] at h
 refine h.mono ?_
 rintro v ⟨vs,h,rfl⟩
 obtain ⟨v0,vs0,rfl,⟨x0,h0⟩,h⟩:=aX h
 obtain ⟨v1,vs1,rfl,⟨x1,h1⟩,h⟩:=aX h
 obtain ⟨v2,vs2,rfl,⟨x2,h2⟩,h⟩:=aX h
 obtain ⟨v3,vs3,rfl,⟨x3,h3⟩,h⟩:=aX h
 cases dE h
 exact ⟨⟨x0,x1,x2,x3⟩,by subst h0 h1 h2 h3;simp only [go_sem,cX]⟩
set_option maxHeartbeats 4000000 in
set_option maxRecDepth 100000 in
theorem E4:bI En (fun v=> ∃l:List aN,v=V.sl none 35 true (l.map aZ)) 32:=by
 have h:=iK aV (T:=32) (Q:=(fun v=> ∃x:aN,v=aZ x)) (by rw [sI]) (by rw [sI]) (by rw [sI];exact OX)
 rw [sI] at h
 refine h.mono ?_
 rintro v ⟨l,hl,rfl⟩
 obtain ⟨m,rfl⟩:=gu (f:=aZ) (fun d hd=>by obtain ⟨x,hx⟩:=hl d hd;exact ⟨x,hx⟩)
 exact ⟨m,by simp only [pj]⟩
set_option maxHeartbeats 4000000 in
set_option maxRecDepth 100000 in
theorem OY:bI En (fun v=> ∃x:gM,v=xD x) 59:=by
 have h:=dD aV (T:=59) (by rw [sO]) (by rw [sO]) [(fun v=> ∃n:Int,v=V.int .i64 n),(fun v=> ∃n:Int,v=V.int .i64 n),(fun v=> ∃n:Int,v=V.int .i64 n),(fun v=> ∃n:Int,v=V.int .i64 n)] (by rw [sO];exact ⟨op3,op3,op3,op3,trivial⟩)
 rw [sO] at h
 refine h.mono ?_
 rintro v ⟨vs,h,rfl⟩
 obtain ⟨v0,vs0,rfl,⟨x0,h0⟩,h⟩:=aX h
 obtain ⟨v1,vs1,rfl,⟨x1,h1⟩,h⟩:=aX h
 obtain ⟨v2,vs2,rfl,⟨x2,h2⟩,h⟩:=aX h
 obtain ⟨v3,vs3,rfl,⟨x3,h3⟩,h⟩:=aX h
 cases dE h
 exact ⟨⟨x0,x1,x2,x3⟩,by subst h0 h1 h2 h3;simp only [go_sem,cX]⟩
set_option maxHeartbeats 4000000 in
set_option maxRecDepth 100000 in
theorem OZ:bI En (fun v=> ∃x:bu,v=dR x) 61:=by
 have h:=dD aV (T:=61) (by rw [sP]) (by rw [sP]) [(fun v=> ∃n:Int,v=V.int .i64 n),(fun v=> ∃n:Int,v=V.int .i64 n),(fun v=> ∃n:Int,v=V.int .i64 n),(fun v=> ∃n:Int,v=V.int .i64 n),(fun v=> ∃n:Int,v=V.int .i64 n),(fun v=> ∃x:(List Int),v=aH x),(fun v=> ∃x:gM,v=xD x)] (by rw [sP];exact ⟨op3,op3,op3,op3,op3,qW,OY,trivial⟩)
 rw [sP] at h
 refine h.mono ?_
 rintro v ⟨vs,h,rfl⟩
 obtain ⟨v0,vs0,rfl,⟨x0,h0⟩,h⟩:=aX h
 obtain ⟨v1,vs1,rfl,⟨x1,h1⟩,h⟩:=aX h
 obtain ⟨v2,vs2,rfl,⟨x2,h2⟩,h⟩:=aX h
 obtain ⟨v3,vs3,rfl,⟨x3,h3⟩,h⟩:=aX h
 obtain ⟨v4,vs4,rfl,⟨x4,h4⟩,h⟩:=aX h
 obtain ⟨v5,vs5,rfl,⟨x5,h5⟩,h⟩:=aX h
 obtain ⟨v6,vs6,rfl,⟨x6,h6⟩,h⟩:=aX h
 cases dE h
 exact ⟨⟨x0,x1,x2,x3,x4,x5,x6⟩,by subst h0 h1 h2 h3 h4 h5 h6;simp only [go_sem,cX]⟩
set_option maxHeartbeats 4000000 in
set_option maxRecDepth 100000 in
theorem O0:bI En (fun v=> ∃x:fG,v=xE x) 63:=by
 have h:=dD aV (T:=63) (by rw [sQ]) (by rw [sQ]) [(fun v=> ∃n:Int,v=V.int .i64 n),(fun v=> ∃n:Int,v=V.int .i64 n)] (by rw [sQ];exact ⟨op3,op3,trivial⟩)
 rw [sQ] at h
 refine h.mono ?_
 rintro v ⟨vs,h,rfl⟩
 obtain ⟨v0,vs0,rfl,⟨x0,h0⟩,h⟩:=aX h
 obtain ⟨v1,vs1,rfl,⟨x1,h1⟩,h⟩:=aX h
 cases dE h
 exact ⟨⟨x0,x1⟩,by subst h0 h1;simp only [go_sem,cX]⟩
set_option maxHeartbeats 4000000 in
set_option maxRecDepth 100000 in
theorem O1:bI En (fun v=> ∃x:eH,v=lU x) 65:=by
 have h:=dD aV (T:=65) (by rw [sR]) (by rw [sR]) [(fun v=> ∃x:(List Int),v=aH x),(fun v=> ∃n:Int,v=V.int .i64 n),(fun v=> ∃n:Int,v=V.int .i64 n)] (by rw [sR];exact ⟨qW,op3,op3,trivial⟩)
 rw [sR] at h
 refine h.mono ?_
 rintro v ⟨vs,h,rfl⟩
 obtain ⟨v0,vs0,rfl,⟨x0,h0⟩,h⟩:=aX h
 obtain ⟨v1,vs1,rfl,⟨x1,h1⟩,h⟩:=aX h
 obtain ⟨v2,vs2,rfl,⟨x2,h2⟩,h⟩:=aX h
 cases dE h
 exact ⟨⟨x0,x1,x2⟩,by subst h0 h1 h2;simp only [go_sem,cX]⟩
set_option maxHeartbeats 4000000 in
set_option maxRecDepth 100000 in
theorem O2:bI En (fun v=> ∃x:dO,v=dQ x) 150:=by
 have h:=dD aV (T:=150) (by rw [pr]) (by rw [pr]) [(fun v=> ∃n:Int,v=V.int .i64 n),(fun v=> ∃n:Int,v=V.int .i64 n),(fun v=> ∃n:Int,v=V.int .i64 n)] (by rw [pr];exact ⟨op3,op3,op3,trivial⟩)
 rw [pr] at h
 refine h.mono ?_
 rintro v ⟨vs,h,rfl⟩
 obtain ⟨v0,vs0,rfl,⟨x0,h0⟩,h⟩:=aX h
 obtain ⟨v1,vs1,rfl,⟨x1,h1⟩,h⟩:=aX h
 obtain ⟨v2,vs2,rfl,⟨x2,h2⟩,h⟩:=aX h
 cases dE h
 exact ⟨⟨x0,x1,x2⟩,by subst h0 h1 h2;simp only [go_sem,cX]⟩
set_option maxHeartbeats 4000000 in
set_option maxRecDepth 100000 in
theorem O3:bI En (fun v=> ∃l:List dO,v=V.sl none 3 true (l.map dQ)) 66:=by
 have h:=iK aV (T:=66) (Q:=(fun v=> ∃x:dO,v=dQ x)) (by rw [sS]) (by rw [sS]) (by rw [sS];exact O2)
 rw [sS] at h
 refine h.mono ?_
 rintro v ⟨l,hl,rfl⟩
 obtain ⟨m,rfl⟩:=gu (f:=dQ) (fun d hd=>by obtain ⟨x,hx⟩:=hl d hd;exact ⟨x,hx⟩)
 exact ⟨m,by simp only [pr]⟩
set_option maxHeartbeats 4000000 in
set_option maxRecDepth 100000 in
theorem O4:bI En (fun v=> ∃l:List (List Int),v=V.sl none 32 true (l.map aH)) 67:=by
 have h:=iK aV (T:=67) (Q:=(fun v=> ∃x:(List Int),v=aH x)) (by rw [sT]) (by rw [sT]) (by rw [sT];exact qW)
 rw [sT] at h
 refine h.mono ?_
 rintro v ⟨l,hl,rfl⟩
 obtain ⟨m,rfl⟩:=gu (f:=aH) (fun d hd=>by obtain ⟨x,hx⟩:=hl d hd;exact ⟨x,hx⟩)
 exact ⟨m,by simp only [na]⟩
set_option maxHeartbeats 4000000 in
set_option maxRecDepth 100000 in
theorem O5:bI En (fun v=> ∃x:eI,v=xF x) 69:=by
 have h:=dD aV (T:=69) (by rw [sU]) (by rw [sU]) [(fun v=> ∃n:Int,v=V.int .i64 n),(fun v=> ∃l:List (List Int),v=V.sl none 32 true (l.map aH))] (by rw [sU];exact ⟨op3,O4,trivial⟩)
 rw [sU] at h
 refine h.mono ?_
 rintro v ⟨vs,h,rfl⟩
 obtain ⟨v0,vs0,rfl,⟨x0,h0⟩,h⟩:=aX h
 obtain ⟨v1,vs1,rfl,⟨x1,h1⟩,h⟩:=aX h
 cases dE h
 exact ⟨⟨x0,x1⟩,by subst h0 h1;simp only [go_sem,cX]⟩
set_option maxHeartbeats 4000000 in
set_option maxRecDepth 100000 in
theorem E5:bI En (fun v=> ∃x:au,v=aQ x) 71:=by
 have h:=dD aV (T:=71) (by rw [pk]) (by rw [pk]) [(fun v=> ∃x:bu,v=dR x),(fun v=> ∃x:fG,v=xE x),(fun v=> ∃x:eH,v=lU x),(fun v=> ∃l:List dO,v=V.sl none 3 true (l.map dQ)),(fun v=> ∃x:eI,v=xF x)] (by rw [pk];exact ⟨OZ,O0,O1,O3,O5,trivial⟩)
 rw [pk] at h
 refine h.mono ?_
 rintro v ⟨vs,h,rfl⟩
 obtain ⟨v0,vs0,rfl,⟨x0,h0⟩,h⟩:=aX h
 obtain ⟨v1,vs1,rfl,⟨x1,h1⟩,h⟩:=aX h
 obtain ⟨v2,vs2,rfl,⟨x2,h2⟩,h⟩:=aX h
 obtain ⟨v3,vs3,rfl,⟨x3,h3⟩,h⟩:=aX h
 obtain ⟨v4,vs4,rfl,⟨x4,h4⟩,h⟩:=aX h
 cases dE h
 exact ⟨⟨x0,x1,x2,x3,x4⟩,by subst h0 h1 h2 h3 h4;simp only [go_sem,cX]⟩
set_option maxHeartbeats 4000000 in
set_option maxRecDepth 100000 in
theorem E6:bI En (fun v=> ∃l:List au,v=V.sl none 80 true (l.map aQ)) 37:=by
 have h:=iK aV (T:=37) (Q:=(fun v=> ∃x:au,v=aQ x)) (by rw [sL]) (by rw [sL]) (by rw [sL];exact E5)
 rw [sL] at h
 refine h.mono ?_
 rintro v ⟨l,hl,rfl⟩
 obtain ⟨m,rfl⟩:=gu (f:=aQ) (fun d hd=>by obtain ⟨x,hx⟩:=hl d hd;exact ⟨x,hx⟩)
 exact ⟨m,by simp only [pk]⟩
set_option maxHeartbeats 4000000 in
set_option maxRecDepth 100000 in
theorem O6:bI En (fun v=> ∃x:bh,v=bl x) 73:=by
 have h:=dD aV (T:=73) (by rw [pm]) (by rw [pm]) [(fun v=> ∃x:au,v=aQ x),(fun v=> ∃l:List au,v=V.sl none 80 true (l.map aQ))] (by rw [pm];exact ⟨E5,E6,trivial⟩)
 rw [pm] at h
 refine h.mono ?_
 rintro v ⟨vs,h,rfl⟩
 obtain ⟨v0,vs0,rfl,⟨x0,h0⟩,h⟩:=aX h
 obtain ⟨v1,vs1,rfl,⟨x1,h1⟩,h⟩:=aX h
 cases dE h
 exact ⟨⟨x0,x1⟩,by subst h0 h1;simp only [go_sem,cX]⟩
set_option maxHeartbeats 4000000 in
set_option maxRecDepth 100000 in
theorem O7:bI En (fun v=> ∃l:List bh,v=V.sl none 81 true (l.map bl)) 38:=by
 have h:=iK aV (T:=38) (Q:=(fun v=> ∃x:bh,v=bl x)) (by rw [sM]) (by rw [sM]) (by rw [sM];exact O6)
 rw [sM] at h
 refine h.mono ?_
 rintro v ⟨l,hl,rfl⟩
 obtain ⟨m,rfl⟩:=gu (f:=bl) (fun d hd=>by obtain ⟨x,hx⟩:=hl d hd;exact ⟨x,hx⟩)
 exact ⟨m,by simp only [pm]⟩
set_option maxHeartbeats 4000000 in
set_option maxRecDepth 100000 in
theorem zV:bI En (fun v=> ∃l:List Int,v=V.sl none 1 false (l.map (V.int .i64))) 34:=by
 have h:=iK aV (T:=34) (Q:=(fun v=> ∃n:Int,v=V.int .i64 n)) (by rw [sK]) (by rw [sK]) (by rw [sK];exact op3)
 rw [sK] at h
 refine h.mono ?_
 rintro v ⟨l,hl,rfl⟩
 obtain ⟨m,rfl⟩:=gu (f:=(V.int .i64)) (fun d hd=>by obtain ⟨x,hx⟩:=hl d hd;exact ⟨x,hx⟩)
 exact ⟨m,by simp only [tb3]⟩
set_option maxHeartbeats 4000000 in
set_option maxRecDepth 100000 in
theorem O8:bI En (fun v=> ∃x:dP,v=xG x) 91:=by
 have h:=dD aV (T:=91) (by rw [sV]) (by rw [sV]) [(fun v=> ∃l:List Int,v=V.sl none 1 false (l.map (V.int .i64))),(fun v=> ∃n:Int,v=V.int .i64 n),(fun v=> ∃l:List Int,v=V.sl none 1 false (l.map (V.int .i64)))] (by rw [sV];exact ⟨zV,op3,zV,trivial⟩)
 rw [sV] at h
 refine h.mono ?_
 rintro v ⟨vs,h,rfl⟩
 obtain ⟨v0,vs0,rfl,⟨x0,h0⟩,h⟩:=aX h
 obtain ⟨v1,vs1,rfl,⟨x1,h1⟩,h⟩:=aX h
 obtain ⟨v2,vs2,rfl,⟨x2,h2⟩,h⟩:=aX h
 cases dE h
 exact ⟨⟨x0,x1,x2⟩,by subst h0 h1 h2;simp only [go_sem,cX]⟩
set_option maxHeartbeats 4000000 in
set_option maxRecDepth 100000 in
theorem O9:bI En (fun v=> ∃x:bZ,v=bQ x) 93:=by
 have h:=dD aV (T:=93) (by rw [po]) (by rw [po]) [(fun v=> ∃n:Int,v=V.int .i64 n),(fun v=> ∃n:Int,v=V.int .i64 n),(fun v=> ∃x:dP,v=xG x)] (by rw [po];exact ⟨op3,op3,O8,trivial⟩)
 rw [po] at h
 refine h.mono ?_
 rintro v ⟨vs,h,rfl⟩
 obtain ⟨v0,vs0,rfl,⟨x0,h0⟩,h⟩:=aX h
 obtain ⟨v1,vs1,rfl,⟨x1,h1⟩,h⟩:=aX h
 obtain ⟨v2,vs2,rfl,⟨x2,h2⟩,h⟩:=aX h
 cases dE h
 exact ⟨⟨x0,x1,x2⟩,by subst h0 h1 h2;simp only [go_sem,cX]⟩
set_option maxHeartbeats 4000000 in
set_option maxRecDepth 100000 in
theorem O_:bI En (fun v=> ∃l:List bZ,v=V.sl none 5 true (l.map bQ)) 39:=by
 have h:=iK aV (T:=39) (Q:=(fun v=> ∃x:bZ,v=bQ x)) (by rw [sN]) (by rw [sN]) (by rw [sN];exact O9)
 rw [sN] at h
 refine h.mono ?_
 rintro v ⟨l,hl,rfl⟩
 obtain ⟨m,rfl⟩:=gu (f:=bQ) (fun d hd=>by obtain ⟨x,hx⟩:=hl d hd;exact ⟨x,hx⟩)
 exact ⟨m,by simp only [po]⟩
set_option maxHeartbeats 4000000 in
set_option maxRecDepth 100000 in
theorem E7:bI En (fun v=> ∃x:aK,v=bw x) 41:=by
 have h:=dD aV (T:=41) (by rw [lB]) (by rw [lB]) [(fun v=> ∃n:Int,v=V.int .i64 n),(fun v=> ∃l:List au,v=V.sl none 80 true (l.map aQ)),(fun v=> ∃l:List bh,v=V.sl none 81 true (l.map bl)),(fun v=> ∃l:List bZ,v=V.sl none 5 true (l.map bQ))] (by rw [lB];exact ⟨op3,E6,O7,O_,trivial⟩)
 rw [lB] at h
 refine h.mono ?_
 rintro v ⟨vs,h,rfl⟩
 obtain ⟨v0,vs0,rfl,⟨x0,h0⟩,h⟩:=aX h
 obtain ⟨v1,vs1,rfl,⟨x1,h1⟩,h⟩:=aX h
 obtain ⟨v2,vs2,rfl,⟨x2,h2⟩,h⟩:=aX h
 obtain ⟨v3,vs3,rfl,⟨x3,h3⟩,h⟩:=aX h
 cases dE h
 exact ⟨⟨x0,x1,x2,x3⟩,by subst h0 h1 h2 h3;simp only [go_sem,cX]⟩
set_option maxHeartbeats 4000000 in
set_option maxRecDepth 100000 in
theorem Pa:bI En (fun v=> ∃l:List aK,v=V.sl none 4 true (l.map bw)) 33:=by
 have h:=iK aV (T:=33) (Q:=(fun v=> ∃x:aK,v=bw x)) (by rw [sJ]) (by rw [sJ]) (by rw [sJ];exact E7)
 rw [sJ] at h
 refine h.mono ?_
 rintro v ⟨l,hl,rfl⟩
 obtain ⟨m,rfl⟩:=gu (f:=bw) (fun d hd=>by obtain ⟨x,hx⟩:=hl d hd;exact ⟨x,hx⟩)
 exact ⟨m,by simp only [lB]⟩
set_option maxHeartbeats 4000000 in
set_option maxRecDepth 100000 in
theorem Pb:bI En (fun v=> ∃x:aD,v=bJ x) 36:=by
 have h:=dD aV (T:=36) (by rw [nb]) (by rw [nb]) [(fun v=> ∃x:(List Int),v=aH x),(fun v=> ∃x:dp,v=xH x),(fun v=> ∃l:List aN,v=V.sl none 35 true (l.map aZ)),(fun v=> ∃n:Int,v=V.int .i64 n),(fun v=> ∃l:List aK,v=V.sl none 4 true (l.map bw)),(fun v=> ∃l:List aN,v=V.sl none 35 true (l.map aZ)),(fun v=> ∃n:Int,v=V.int .i64 n),(fun v=> ∃l:List Int,v=V.sl none 1 false (l.map (V.int .i64))),(fun v=> ∃n:Int,v=V.int .i64 n)] (by rw [nb];exact ⟨qW,OW,E4,op3,Pa,E4,op3,zV,op3,trivial⟩)
 rw [nb] at h
 refine h.mono ?_
 rintro v ⟨vs,h,rfl⟩
 obtain ⟨v0,vs0,rfl,⟨x0,h0⟩,h⟩:=aX h
 obtain ⟨v1,vs1,rfl,⟨x1,h1⟩,h⟩:=aX h
 obtain ⟨v2,vs2,rfl,⟨x2,h2⟩,h⟩:=aX h
 obtain ⟨v3,vs3,rfl,⟨x3,h3⟩,h⟩:=aX h
 obtain ⟨v4,vs4,rfl,⟨x4,h4⟩,h⟩:=aX h
 obtain ⟨v5,vs5,rfl,⟨x5,h5⟩,h⟩:=aX h
 obtain ⟨v6,vs6,rfl,⟨x6,h6⟩,h⟩:=aX h
 obtain ⟨v7,vs7,rfl,⟨x7,h7⟩,h⟩:=aX h
 obtain ⟨v8,vs8,rfl,⟨x8,h8⟩,h⟩:=aX h
 cases dE h
 exact ⟨⟨x0,x1,x2,x3,x4,x5,x6,x7,x8⟩,by subst h0 h1 h2 h3 h4 h5 h6 h7 h8;simp only [go_sem,cX]⟩
set_option maxRecDepth 100000 in
theorem Pc (H:Type) (enc:TypeId×Value→H) (W:World) (base:Nat) (args:Array Value) (ds:List (DataW H)) (ps:List MemPlace) (hA:DataW.TrodAll enc En.P W 0 (fun _=>true) true Tryz.f4.params.toList args.toList ds ps)
  (hval: ∀(j:Nat) t v,Tryz.f4.params[j]? =some t→args[j]? =some v→Value.okWide En.P W .any base t v) (hb:Rows.uptoBulkAll ds≤1048576): ∃ws,rdT ro0 (gS W) ws args.toList∧aW En 4 ws (.bool true) []:=by
 rw [Tryz.params4] at hA hval
 obtain ⟨v0,vs0,d0,ds0,p0,q0,hargs,rfl,rfl,h0,r0⟩:=trodAll_cons hA
 obtain ⟨v1,vs1,d1,ds1,p1,q1,rfl,rfl,rfl,h1,r1⟩:=trodAll_cons r0
 obtain ⟨v2,vs2,d2,ds2,p2,q2,rfl,rfl,rfl,h2,r2⟩:=trodAll_cons r1
 obtain ⟨v3,vs3,d3,ds3,p3,q3,rfl,rfl,rfl,h3,r3⟩:=trodAll_cons r2
 obtain ⟨v4,vs4,d4,ds4,p4,q4,rfl,rfl,rfl,h4,r4⟩:=trodAll_cons r3
 obtain ⟨rfl,rfl,rfl⟩:=trodAll_nil r4
 obtain rfl:args= #[v0,v1,v2,v3,v4]:=by cases args;simp_all
 simp only [Rows.uptoBulkAll] at hb
 obtain ⟨u0,⟨x0,rfl⟩,e0⟩:=qV aV (T:=25) (by rw [m9]) (by rw [m9];decide) OQ (hval 0 25 v0 rfl rfl) h0 (by omega)
 obtain ⟨u1,⟨x1,rfl⟩,e1⟩:=qV aV (T:=26) (by rw [m_]) (by rw [m_];decide) OT (hval 1 26 v1 rfl rfl) h1 (by omega)
 obtain ⟨u2,⟨x2,rfl⟩,e2⟩:=qV aV (T:=3) (by rw [tb3]) (by rw [tb3];decide) op3 (hval 2 3 v2 rfl rfl) h2 (by omega)
 obtain ⟨u3,⟨x3,rfl⟩,e3⟩:=qV aV (T:=36) (by rw [nb]) (by rw [nb];decide) Pb (hval 3 36 v3 rfl rfl) h3 (by omega)
 obtain ⟨u4,⟨x4,rfl⟩,e4⟩:=qV aV (T:=41) (by rw [lB]) (by rw [lB];decide) E7 (hval 4 41 v4 rfl rfl) h4 (by omega)
 refine ⟨[bL x0,.sl none 11 true (x1.map cD),.int .i64 x2,bJ x3,bw x4],⟨v0,[v1,v2,v3,v4],rfl,e0,v1,[v2,v3,v4],rfl,e1,v2,[v3,v4],rfl,e2,v3,[v4],rfl,e3,v4,[],rfl,e4,rfl⟩,?_⟩
 have h:=(Og x0 x1 x2 x3 x4).ok
 rw [Ox x0 x1 x2 x3 x4] at h
 exact h
theorem Pd:ownKnob Tryz.prog.godebug=none:=by kernel_rfl
theorem Pe:laidOutB Tryz.prog=true:=by kernel_rfl
set_option maxRecDepth 100000 in
theorem Pf: ∀t∈Tryz.f4.params.toList,Tryz.prog.readableRec t=true∧t<Tryz.prog.types.size:=by
 intro t ht
 rw [Tryz.params4] at ht
 simp only [List.mem_cons,List.not_mem_nil,or_false] at ht
 rcases ht with rfl|rfl|rfl|rfl|rfl<;>exact ⟨by kernel_rfl,of_decide_eq_true (by kernel_rfl)⟩
set_option maxRecDepth 100000 in
theorem Pg (H:Type) (ds:List (DataW H)) (h:ds.length=Tryz.f4.params.toList.length):Rows.merchantPoliciesSpec.fn H ds={results:=[.lit (.bool true)],args:=ds}:=by
 rw [Tryz.params4] at h
 match ds,h with
 | [d0,d1,d2,d3,d4],_=>rfl
def uT:Array Value:= #[.agg #[.int .i64 0,.int .i64 0,.int .i64 0,.int .i64 0,.int .i64 0,.int .i64 0],.slice none 0 0,.int .i64 0,.agg #[.int .u8 0,.int .u8 0,.int .u8 0,.int .u8 0,.int .u8 0,.int .u8 0,.int .u8 0,.int .u8 0,.int .u8 0,.int .u8 0,.int .u8 0,.int .u8 0,.int .u8 0,.int .u8 0,.int .u8 0,.int .u8 0,.int .u8 0,.int .u8 0,.int .u8 0,.int .u8 0,.int .u8 0,.int .u8 0,.int .u8 0,.int .u8 0,.int .u8 0,.int .u8 0,.int .u8 0,.int .u8 0,.int .u8 0,.int .u8 0,.int .u8 0,.int .u8 0,.slice none 0 0,.slice none 0 0,.int .i64 0,.slice none 0 0,.slice none 0 0,.int .i64 0,.slice none 0 0,.int .i64 0],.agg #[.int .i64 0,.slice none 0 0,.slice none 0 0,.slice none 0 0]]
theorem Pi (os:Os):laidMetH Tryz.prog Rows.merchantPoliciesUptoRow.laid ((World.laidAll Tryz.prog os Rows.merchantPoliciesUptoRow.laid).forCall (fun _ _=>0) ⟨#[],uT,[]⟩).memory:=by
 rw [MakeChecks.laidMetH_plain _ _ _ (by kernel_rfl)]
 exact laidMet_laidAll _ (by kernel_rfl) (by kernel_rfl)
theorem Pj (os:Os) {H:Type} (enc:TypeId×Value→H): ∃places,DataW.whole enc Tryz.prog ((World.laidAll Tryz.prog os Rows.merchantPoliciesUptoRow.laid).forCall (fun _ _=>0) ⟨#[],uT,[]⟩).memory Tryz.f4.params.toList Rows.merchantPoliciesSpec.vars false (uT:Array Value).toList 8=some ([.agg [.agg [.lit (.int .i64 0),.lit (.int .i64 0),.lit (.int .i64 0)],.lit (.int .i64 0),.lit (.int .i64 0),.lit (.int .i64 0)],.nil,.lit (.int .i64 0),.agg [.agg (List.replicate 32 (.lit (.int .u8 0))),.agg [.nil],.nil,.lit (.int .i64 0),.nil,.nil,.lit (.int .i64 0),.nil,.lit (.int .i64 0)],.agg [.lit (.int .i64 0),.nil,.nil,.nil]],[],places):=⟨[],by kernel_rfl⟩
set_option maxRecDepth 100000 in
theorem Pk (os:Os) (started:os.Started) (H:Type) (enc:TypeId×Value→H) (F:Stop.Interp):
  ReturnsInHanded {} Tryz.checked os 4 .any ((Rows.OpenSpec.upto Rows.merchantPoliciesSpec).preRow enc Tryz.prog Tryz.f4 Rows.merchantPoliciesUptoRow.domain false Rows.merchantPoliciesUptoRow.laid) (((Rows.OpenSpec.upto Rows.merchantPoliciesSpec).at F).post enc Tryz.prog Tryz.f4 false true false false):=by
 obtain ⟨places,hx⟩:=Pj os enc
 refine returnsInHanded_of_row (C:=Tryz.checked) (s:=(Rows.OpenSpec.upto Rows.merchantPoliciesSpec)) Pd started (by kernel_rfl) Tryz.func4
  (witness_row_at (enc:=enc) (C:=Tryz.checked) false (World.laidAll Tryz.prog os Rows.merchantPoliciesUptoRow.laid) uT (World.laidAll_os _ _ _) (by kernel_rfl) (by kernel_rfl) (by kernel_rfl)
   (OpenSpec.preRow_of_cond 8 hx (by kernel_rfl) (fun k hk=>by cases hk;kernel_rfl) (by kernel_rfl) (Pi os))) ?_
 intro W base args ds gs before hval hW _ hk _ hL hsh _
 exact OM (E:=En) (bt:=4) Tryz.underlying4 rfl rfl Pe Pf Pg Pc H enc W base args ds gs before hval hW (hk _ rfl) rfl (OO hL)
theorem Pm {a b:Bool} (ha:a=true) (hb:b=true):(a&&b)=true:=by rw [ha,hb];rfl
theorem Pn:(Rows.merchantPoliciesUptoRow.wf (OpenSpec.ofChange (Rows.OpenSpec.upto Rows.merchantPoliciesSpec).bare))=true:=by kernel_rfl
theorem Po:(laidOutB Tryz.prog)=true:=by kernel_rfl
theorem Pp:(mapsRowed Tryz.prog)=true:=by kernel_rfl
theorem Pq:(Rows.merchantPoliciesUptoRow.inPlace==Tryz.prog.inPlace 4)=true:=by kernel_rfl
theorem Pr:(Rows.merchantPoliciesUptoRow.unfollowed==Tryz.prog.unfollowed 4)=true:=by kernel_rfl
theorem Ps:(Rows.merchantPoliciesUptoRow.recurses==Tryz.prog.recurses 4)=true:=by kernel_rfl
theorem Pt:(Rows.merchantPoliciesUptoRow.named==Tryz.prog.varsNamed 4)=true:=by kernel_rfl
theorem Pu:(Rows.merchantPoliciesUptoRow.plainKeys==Tryz.prog.plainKeys)=true:=by kernel_rfl
theorem Pv:(Tryz.prog.stopsHeard)=true:=by kernel_rfl
theorem Pw:(Tryz.prog.mayEnter)=true:=by kernel_rfl
theorem Py:(Rows.merchantPoliciesUptoRow.lifted==Tryz.prog.liftsFinal)=true:=by kernel_rfl
theorem Pz:joinedFacts Tryz.prog 4 Tryz.f4 (Rows.OpenSpec.upto Rows.merchantPoliciesSpec).bare Rows.merchantPoliciesUptoRow=true:=by
 unfold joinedFacts
 repeat' (with_reducible refine Pm ?_ ?_)
 all_goals first|with_reducible exact Pn|with_reducible exact Po|with_reducible exact Pp|with_reducible exact Pq|with_reducible exact Pr|with_reducible exact Ps|with_reducible exact Pt|with_reducible exact Pu|with_reducible exact Pv|with_reducible exact Pw|with_reducible exact Py|kernel_rfl
theorem PA:Rows.MerchantPoliciesUptoSaid:=
 OpenClaim.holds_of_cond 4 Tryz.f4 rfl rfl rfl rfl rfl rfl rfl ⟨rfl,rfl,rfl,rfl,rfl⟩ rfl rfl rfl rfl rfl (by kernel_rfl) Tryz.func4 Pz
  (of_decide_eq_true (by kernel_rfl)) (by unfold Func.isWrapper;first|(rw [if_pos (by decide+kernel)];kernel_rfl)|(rw [if_neg (by decide+kernel)];exact ⟨rfl,rfl⟩))
  (fun os started H enc _ F=>by rw [OpenClaim.pre_eq_preRow];exact Pk os started H enc F)
theorem PC (f:FuncId) (fn:Func) (hf:Tryz.pinned.checked.prog.funcNamed "specie/specielaw47.MerchantPolicies" =some f) (hfn:Tryz.pinned.checked.prog.funcs[f]? =some fn):
  false=Tryz.pinned.checked.prog.looks []∧ ∀(j:Nat) t,fn.params[j]? =some t→Tryz.pinned.checked.prog.wantsStandIn t=false:=by
 obtain rfl:f=4:=Option.some.inj ((show Tryz.prog.funcNamed "specie/specielaw47.MerchantPolicies" =some 4 by kernel_rfl).symm.trans hf)|>.symm
 obtain rfl:fn=Tryz.f4:=(Option.some.inj (Tryz.func4.symm.trans hfn)).symm
 refine ⟨by kernel_rfl,fun j t ht=> ?_⟩
 have hall:(Tryz.f4.params.toList.all fun u=> !Tryz.prog.wantsStandIn u)=true:=by kernel_rfl
 have h0:=List.all_eq_true.1 hall t (Array.mem_toList_iff.2 (Array.mem_of_getElem? ht))
 exact (show Tryz.prog.wantsStandIn t=false by simpa using h0)
theorem merchantPolicies_holds:Rows.MerchantPoliciesUptoCardSaid:=
 Claim7.holds_tied_plain_at .later [] _ _ _ _ PA (fun _ h=>by cases h) (by kernel_rfl) (fun _ h=>by cases h) merchantPoliciesUpto_row_tie rfl ⟨rfl,rfl⟩ (by kernel_rfl) rfl PC (by kernel_rfl)
end Go.Proofs.YteibkofekpejgaaGreatDoor
