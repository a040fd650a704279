/- MerchantOnce: the law holds of what holds at most 1048576 values and letters together (printed by program, but for the law itself). -/
import Derived.Test.YteibkofekpejgaaGreatDoorZ19
import Derived.Test.YteibkofekpejgaaGreatDoorZ18
import Derived.Test.YteibkofekpejgaaGreatDoorCards
import Derived.Test.YteibkofekpejgaaGreatDoorTie
import Derived.Deep.DeepHandedRow
import Derived.Lay
import Derived.LaidMore
import Derived.SevenTiedAt
import Derived.Stop.Joined
namespace Go.Proofs.YteibkofekpejgaaGreatDoor
open Go.ChangeShapes Go.WideShapes Go.ChangeAt Go.RowKit
set_option maxHeartbeats 4000000 in
set_option maxRecDepth 100000 in
theorem op3:bH En (fun v=> ∃n:Int,v=V.int .i64 n) 3:=by
 have h:=EN aU (T:=3) (by rw [tb3]) (by rw [tb3])
 rw [tb3] at h
 exact h
set_option maxHeartbeats 4000000 in
set_option maxRecDepth 100000 in
theorem Ot:bH En (fun v=> ∃x:aP,v=xk x) 23:=by
 have h:=dF aU (T:=23) (by rw [r8]) (by rw [r8]) [(fun v=> ∃n:Int,v=V.int .i64 n),(fun v=> ∃n:Int,v=V.int .i64 n),(fun v=> ∃n:Int,v=V.int .i64 n)] (by rw [r8];exact ⟨op3,op3,op3,trivial⟩)
 rw [r8] at h
 refine h.mono ?_
 rintro v ⟨vs,h,rfl⟩
 obtain ⟨v0,vs0,rfl,⟨x0,h0⟩,h⟩:=aW h
 obtain ⟨v1,vs1,rfl,⟨x1,h1⟩,h⟩:=aW h
 obtain ⟨v2,vs2,rfl,⟨x2,h2⟩,h⟩:=aW h
 cases dG h
 exact ⟨⟨x0,x1,x2⟩,by subst h0 h1 h2;simp only [go_sem,cZ]⟩
set_option maxHeartbeats 4000000 in
set_option maxRecDepth 100000 in
theorem Ou:bH En (fun v=> ∃x:aX,v=bS x) 25:=by
 have h:=dF aU (T:=25) (by rw [mQ]) (by rw [mQ]) [(fun v=> ∃x:aP,v=xk x),(fun v=> ∃n:Int,v=V.int .i64 n),(fun v=> ∃n:Int,v=V.int .i64 n),(fun v=> ∃n:Int,v=V.int .i64 n)] (by rw [mQ];exact ⟨Ot,op3,op3,op3,trivial⟩)
 rw [mQ] at h
 refine h.mono ?_
 rintro v ⟨vs,h,rfl⟩
 obtain ⟨v0,vs0,rfl,⟨x0,h0⟩,h⟩:=aW h
 obtain ⟨v1,vs1,rfl,⟨x1,h1⟩,h⟩:=aW h
 obtain ⟨v2,vs2,rfl,⟨x2,h2⟩,h⟩:=aW h
 obtain ⟨v3,vs3,rfl,⟨x3,h3⟩,h⟩:=aW h
 cases dG h
 exact ⟨⟨x0,x1,x2,x3⟩,by subst h0 h1 h2 h3;simp only [go_sem,cZ]⟩
set_option maxHeartbeats 4000000 in
set_option maxRecDepth 100000 in
theorem Ov:bH En (fun v=> ∃x:ip,v=xl x) 153:=by
 have h:=dF aU (T:=153) (by rw [sw]) (by rw [sw]) [(fun v=> ∃n:Int,v=V.int .i64 n),(fun v=> ∃n:Int,v=V.int .i64 n),(fun v=> ∃n:Int,v=V.int .i64 n)] (by rw [sw];exact ⟨op3,op3,op3,trivial⟩)
 rw [sw] at h
 refine h.mono ?_
 rintro v ⟨vs,h,rfl⟩
 obtain ⟨v0,vs0,rfl,⟨x0,h0⟩,h⟩:=aW h
 obtain ⟨v1,vs1,rfl,⟨x1,h1⟩,h⟩:=aW h
 obtain ⟨v2,vs2,rfl,⟨x2,h2⟩,h⟩:=aW h
 cases dG h
 exact ⟨⟨x0,x1,x2⟩,by subst h0 h1 h2;simp only [go_sem,cZ]⟩
set_option maxHeartbeats 4000000 in
set_option maxRecDepth 100000 in
theorem Ow:bH En (fun v=> ∃x:bg,v=cP x) 155:=by
 have h:=dF aU (T:=155) (by rw [oZ]) (by rw [oZ]) [(fun v=> ∃n:Int,v=V.int .i64 n),(fun v=> ∃n:Int,v=V.int .i64 n),(fun v=> ∃n:Int,v=V.int .i64 n),(fun v=> ∃n:Int,v=V.int .i64 n),(fun v=> ∃n:Int,v=V.int .i64 n),(fun v=> ∃x:ip,v=xl x),(fun v=> ∃n:Int,v=V.int .i64 n),(fun v=> ∃n:Int,v=V.int .i64 n),(fun v=> ∃n:Int,v=V.int .i64 n)] (by rw [oZ];exact ⟨op3,op3,op3,op3,op3,Ov,op3,op3,op3,trivial⟩)
 rw [oZ] at h
 refine h.mono ?_
 rintro v ⟨vs,h,rfl⟩
 obtain ⟨v0,vs0,rfl,⟨x0,h0⟩,h⟩:=aW h
 obtain ⟨v1,vs1,rfl,⟨x1,h1⟩,h⟩:=aW h
 obtain ⟨v2,vs2,rfl,⟨x2,h2⟩,h⟩:=aW h
 obtain ⟨v3,vs3,rfl,⟨x3,h3⟩,h⟩:=aW h
 obtain ⟨v4,vs4,rfl,⟨x4,h4⟩,h⟩:=aW h
 obtain ⟨v5,vs5,rfl,⟨x5,h5⟩,h⟩:=aW h
 obtain ⟨v6,vs6,rfl,⟨x6,h6⟩,h⟩:=aW h
 obtain ⟨v7,vs7,rfl,⟨x7,h7⟩,h⟩:=aW h
 obtain ⟨v8,vs8,rfl,⟨x8,h8⟩,h⟩:=aW h
 cases dG h
 exact ⟨⟨x0,x1,x2,x3,x4,x5,x6,x7,x8⟩,by subst h0 h1 h2 h3 h4 h5 h6 h7 h8;simp only [go_sem,cZ]⟩
set_option maxHeartbeats 4000000 in
set_option maxRecDepth 100000 in
theorem Ox:bH En (fun v=> ∃l:List bg,v=V.sl none 11 true (l.map cP)) 26:=by
 have h:=iE aU (T:=26) (Q:=(fun v=> ∃x:bg,v=cP x)) (by rw [mR]) (by rw [mR]) (by rw [mR];exact Ow)
 rw [mR] at h
 refine h.mono ?_
 rintro v ⟨l,hl,rfl⟩
 obtain ⟨m,rfl⟩:=gp (f:=cP) (fun d hd=>by obtain ⟨x,hx⟩:=hl d hd;exact ⟨x,hx⟩)
 exact ⟨m,by simp only [oZ]⟩
set_option maxHeartbeats 4000000 in
set_option maxRecDepth 100000 in
theorem op5:bH En (fun v=> ∃n:Int,v=V.int .u8 n) 5:=by
 have h:=EN aU (T:=5) (by rw [tb5]) (by rw [tb5])
 rw [tb5] at h
 exact h
set_option maxHeartbeats 4000000 in
set_option maxRecDepth 100000 in
theorem qy:bH En (fun v=> ∃x:(List Int),v=aF x) 28:=by
 have h:=Ok aU (T:=28) (Q:=(fun v=> ∃n:Int,v=V.int .u8 n)) (by rw [mS]) (by rw [mS]) (by rw [mS];exact op5)
 rw [mS] at h
 refine h.mono ?_
 rintro v ⟨l,hn,hl,rfl⟩
 obtain ⟨m,rfl⟩:=gp (f:=(V.int .u8)) (fun d hd=>by obtain ⟨x,hx⟩:=hl d hd;exact ⟨x,hx⟩)
 refine ⟨m,?_⟩
 have hm:m.length=32:=by simpa only [List.length_map,mS] using hn
 rw [Oo (f:=(V.int .u8)) hm]
 simp only [tb5]
 rfl
set_option maxHeartbeats 4000000 in
set_option maxRecDepth 100000 in
theorem Oy:bH En (fun v=> ∃x:bZ,v=cn x) 83:=by
 have h:=dF aU (T:=83) (by rw [oW]) (by rw [oW]) [(fun v=> ∃n:Int,v=V.int .i64 n),(fun v=> ∃n:Int,v=V.int .i64 n),(fun v=> ∃n:Int,v=V.int .i64 n)] (by rw [oW];exact ⟨op3,op3,op3,trivial⟩)
 rw [oW] at h
 refine h.mono ?_
 rintro v ⟨vs,h,rfl⟩
 obtain ⟨v0,vs0,rfl,⟨x0,h0⟩,h⟩:=aW h
 obtain ⟨v1,vs1,rfl,⟨x1,h1⟩,h⟩:=aW h
 obtain ⟨v2,vs2,rfl,⟨x2,h2⟩,h⟩:=aW h
 cases dG h
 exact ⟨⟨x0,x1,x2⟩,by subst h0 h1 h2;simp only [go_sem,cZ]⟩
set_option maxHeartbeats 4000000 in
set_option maxRecDepth 100000 in
theorem Oz:bH En (fun v=> ∃l:List bZ,v=V.sl none 3 true (l.map cn)) 29:=by
 have h:=iE aU (T:=29) (Q:=(fun v=> ∃x:bZ,v=cn x)) (by rw [r9]) (by rw [r9]) (by rw [r9];exact Oy)
 rw [r9] at h
 refine h.mono ?_
 rintro v ⟨l,hl,rfl⟩
 obtain ⟨m,rfl⟩:=gp (f:=cn) (fun d hd=>by obtain ⟨x,hx⟩:=hl d hd;exact ⟨x,hx⟩)
 exact ⟨m,by simp only [oW]⟩
set_option maxHeartbeats 4000000 in
set_option maxRecDepth 100000 in
theorem OA:bH En (fun v=> ∃x:dC,v=xi x) 31:=by
 have h:=dF aU (T:=31) (by rw [sa]) (by rw [sa]) [(fun v=> ∃l:List bZ,v=V.sl none 3 true (l.map cn))] (by rw [sa];exact ⟨Oz,trivial⟩)
 rw [sa] at h
 refine h.mono ?_
 rintro v ⟨vs,h,rfl⟩
 obtain ⟨v0,vs0,rfl,⟨x0,h0⟩,h⟩:=aW h
 cases dG h
 exact ⟨⟨x0⟩,by subst h0;simp only [go_sem,cZ]⟩
set_option maxHeartbeats 4000000 in
set_option maxRecDepth 100000 in
theorem OB:bH En (fun v=> ∃x:aL,v=aY x) 50:=by
 have h:=dF aU (T:=50) (by rw [oS]) (by rw [oS]) [(fun v=> ∃x:(List Int),v=aF x),(fun v=> ∃n:Int,v=V.int .i64 n),(fun v=> ∃n:Int,v=V.int .i64 n),(fun v=> ∃n:Int,v=V.int .i64 n)] (by rw [oS];exact ⟨qy,op3,op3,op3,trivial⟩)
 rw [oS] at h
 refine h.mono ?_
 rintro v ⟨vs,h,rfl⟩
 obtain ⟨v0,vs0,rfl,⟨x0,h0⟩,h⟩:=aW h
 obtain ⟨v1,vs1,rfl,⟨x1,h1⟩,h⟩:=aW h
 obtain ⟨v2,vs2,rfl,⟨x2,h2⟩,h⟩:=aW h
 obtain ⟨v3,vs3,rfl,⟨x3,h3⟩,h⟩:=aW h
 cases dG h
 exact ⟨⟨x0,x1,x2,x3⟩,by subst h0 h1 h2 h3;simp only [go_sem,cZ]⟩
set_option maxHeartbeats 4000000 in
set_option maxRecDepth 100000 in
theorem ER:bH En (fun v=> ∃l:List aL,v=V.sl none 35 true (l.map aY)) 32:=by
 have h:=iE aU (T:=32) (Q:=(fun v=> ∃x:aL,v=aY x)) (by rw [sb]) (by rw [sb]) (by rw [sb];exact OB)
 rw [sb] at h
 refine h.mono ?_
 rintro v ⟨l,hl,rfl⟩
 obtain ⟨m,rfl⟩:=gp (f:=aY) (fun d hd=>by obtain ⟨x,hx⟩:=hl d hd;exact ⟨x,hx⟩)
 exact ⟨m,by simp only [oS]⟩
set_option maxHeartbeats 4000000 in
set_option maxRecDepth 100000 in
theorem OC:bH En (fun v=> ∃x:ij,v=xe x) 59:=by
 have h:=dF aU (T:=59) (by rw [sm]) (by rw [sm]) [(fun v=> ∃n:Int,v=V.int .i64 n),(fun v=> ∃n:Int,v=V.int .i64 n),(fun v=> ∃n:Int,v=V.int .i64 n),(fun v=> ∃n:Int,v=V.int .i64 n)] (by rw [sm];exact ⟨op3,op3,op3,op3,trivial⟩)
 rw [sm] at h
 refine h.mono ?_
 rintro v ⟨vs,h,rfl⟩
 obtain ⟨v0,vs0,rfl,⟨x0,h0⟩,h⟩:=aW h
 obtain ⟨v1,vs1,rfl,⟨x1,h1⟩,h⟩:=aW h
 obtain ⟨v2,vs2,rfl,⟨x2,h2⟩,h⟩:=aW h
 obtain ⟨v3,vs3,rfl,⟨x3,h3⟩,h⟩:=aW h
 cases dG h
 exact ⟨⟨x0,x1,x2,x3⟩,by subst h0 h1 h2 h3;simp only [go_sem,cZ]⟩
set_option maxHeartbeats 4000000 in
set_option maxRecDepth 100000 in
theorem OD:bH En (fun v=> ∃x:bv,v=dT x) 61:=by
 have h:=dF aU (T:=61) (by rw [sn]) (by rw [sn]) [(fun v=> ∃n:Int,v=V.int .i64 n),(fun v=> ∃n:Int,v=V.int .i64 n),(fun v=> ∃n:Int,v=V.int .i64 n),(fun v=> ∃n:Int,v=V.int .i64 n),(fun v=> ∃n:Int,v=V.int .i64 n),(fun v=> ∃x:(List Int),v=aF x),(fun v=> ∃x:ij,v=xe x)] (by rw [sn];exact ⟨op3,op3,op3,op3,op3,qy,OC,trivial⟩)
 rw [sn] at h
 refine h.mono ?_
 rintro v ⟨vs,h,rfl⟩
 obtain ⟨v0,vs0,rfl,⟨x0,h0⟩,h⟩:=aW h
 obtain ⟨v1,vs1,rfl,⟨x1,h1⟩,h⟩:=aW h
 obtain ⟨v2,vs2,rfl,⟨x2,h2⟩,h⟩:=aW h
 obtain ⟨v3,vs3,rfl,⟨x3,h3⟩,h⟩:=aW h
 obtain ⟨v4,vs4,rfl,⟨x4,h4⟩,h⟩:=aW h
 obtain ⟨v5,vs5,rfl,⟨x5,h5⟩,h⟩:=aW h
 obtain ⟨v6,vs6,rfl,⟨x6,h6⟩,h⟩:=aW h
 cases dG h
 exact ⟨⟨x0,x1,x2,x3,x4,x5,x6⟩,by subst h0 h1 h2 h3 h4 h5 h6;simp only [go_sem,cZ]⟩
set_option maxHeartbeats 4000000 in
set_option maxRecDepth 100000 in
theorem OE:bH En (fun v=> ∃x:fC,v=xf x) 63:=by
 have h:=dF aU (T:=63) (by rw [so]) (by rw [so]) [(fun v=> ∃n:Int,v=V.int .i64 n),(fun v=> ∃n:Int,v=V.int .i64 n)] (by rw [so];exact ⟨op3,op3,trivial⟩)
 rw [so] at h
 refine h.mono ?_
 rintro v ⟨vs,h,rfl⟩
 obtain ⟨v0,vs0,rfl,⟨x0,h0⟩,h⟩:=aW h
 obtain ⟨v1,vs1,rfl,⟨x1,h1⟩,h⟩:=aW h
 cases dG h
 exact ⟨⟨x0,x1⟩,by subst h0 h1;simp only [go_sem,cZ]⟩
set_option maxHeartbeats 4000000 in
set_option maxRecDepth 100000 in
theorem OG:bH En (fun v=> ∃x:eF,v=lL x) 65:=by
 have h:=dF aU (T:=65) (by rw [sq]) (by rw [sq]) [(fun v=> ∃x:(List Int),v=aF x),(fun v=> ∃n:Int,v=V.int .i64 n),(fun v=> ∃n:Int,v=V.int .i64 n)] (by rw [sq];exact ⟨qy,op3,op3,trivial⟩)
 rw [sq] at h
 refine h.mono ?_
 rintro v ⟨vs,h,rfl⟩
 obtain ⟨v0,vs0,rfl,⟨x0,h0⟩,h⟩:=aW h
 obtain ⟨v1,vs1,rfl,⟨x1,h1⟩,h⟩:=aW h
 obtain ⟨v2,vs2,rfl,⟨x2,h2⟩,h⟩:=aW h
 cases dG h
 exact ⟨⟨x0,x1,x2⟩,by subst h0 h1 h2;simp only [go_sem,cZ]⟩
set_option maxHeartbeats 4000000 in
set_option maxRecDepth 100000 in
theorem OH:bH En (fun v=> ∃x:dR,v=dD x) 150:=by
 have h:=dF aU (T:=150) (by rw [oY]) (by rw [oY]) [(fun v=> ∃n:Int,v=V.int .i64 n),(fun v=> ∃n:Int,v=V.int .i64 n),(fun v=> ∃n:Int,v=V.int .i64 n)] (by rw [oY];exact ⟨op3,op3,op3,trivial⟩)
 rw [oY] at h
 refine h.mono ?_
 rintro v ⟨vs,h,rfl⟩
 obtain ⟨v0,vs0,rfl,⟨x0,h0⟩,h⟩:=aW h
 obtain ⟨v1,vs1,rfl,⟨x1,h1⟩,h⟩:=aW h
 obtain ⟨v2,vs2,rfl,⟨x2,h2⟩,h⟩:=aW h
 cases dG h
 exact ⟨⟨x0,x1,x2⟩,by subst h0 h1 h2;simp only [go_sem,cZ]⟩
set_option maxHeartbeats 4000000 in
set_option maxRecDepth 100000 in
theorem OI:bH En (fun v=> ∃l:List dR,v=V.sl none 3 true (l.map dD)) 66:=by
 have h:=iE aU (T:=66) (Q:=(fun v=> ∃x:dR,v=dD x)) (by rw [sr]) (by rw [sr]) (by rw [sr];exact OH)
 rw [sr] at h
 refine h.mono ?_
 rintro v ⟨l,hl,rfl⟩
 obtain ⟨m,rfl⟩:=gp (f:=dD) (fun d hd=>by obtain ⟨x,hx⟩:=hl d hd;exact ⟨x,hx⟩)
 exact ⟨m,by simp only [oY]⟩
set_option maxHeartbeats 4000000 in
set_option maxRecDepth 100000 in
theorem OJ:bH En (fun v=> ∃l:List (List Int),v=V.sl none 32 true (l.map aF)) 67:=by
 have h:=iE aU (T:=67) (Q:=(fun v=> ∃x:(List Int),v=aF x)) (by rw [ss]) (by rw [ss]) (by rw [ss];exact qy)
 rw [ss] at h
 refine h.mono ?_
 rintro v ⟨l,hl,rfl⟩
 obtain ⟨m,rfl⟩:=gp (f:=aF) (fun d hd=>by obtain ⟨x,hx⟩:=hl d hd;exact ⟨x,hx⟩)
 exact ⟨m,by simp only [mS]⟩
set_option maxHeartbeats 4000000 in
set_option maxRecDepth 100000 in
theorem OK:bH En (fun v=> ∃x:eG,v=xg x) 69:=by
 have h:=dF aU (T:=69) (by rw [su]) (by rw [su]) [(fun v=> ∃n:Int,v=V.int .i64 n),(fun v=> ∃l:List (List Int),v=V.sl none 32 true (l.map aF))] (by rw [su];exact ⟨op3,OJ,trivial⟩)
 rw [su] at h
 refine h.mono ?_
 rintro v ⟨vs,h,rfl⟩
 obtain ⟨v0,vs0,rfl,⟨x0,h0⟩,h⟩:=aW h
 obtain ⟨v1,vs1,rfl,⟨x1,h1⟩,h⟩:=aW h
 cases dG h
 exact ⟨⟨x0,x1⟩,by subst h0 h1;simp only [go_sem,cZ]⟩
set_option maxHeartbeats 4000000 in
set_option maxRecDepth 100000 in
theorem ES:bH En (fun v=> ∃x:au,v=aM x) 71:=by
 have h:=dF aU (T:=71) (by rw [oU]) (by rw [oU]) [(fun v=> ∃x:bv,v=dT x),(fun v=> ∃x:fC,v=xf x),(fun v=> ∃x:eF,v=lL x),(fun v=> ∃l:List dR,v=V.sl none 3 true (l.map dD)),(fun v=> ∃x:eG,v=xg x)] (by rw [oU];exact ⟨OD,OE,OG,OI,OK,trivial⟩)
 rw [oU] at h
 refine h.mono ?_
 rintro v ⟨vs,h,rfl⟩
 obtain ⟨v0,vs0,rfl,⟨x0,h0⟩,h⟩:=aW h
 obtain ⟨v1,vs1,rfl,⟨x1,h1⟩,h⟩:=aW h
 obtain ⟨v2,vs2,rfl,⟨x2,h2⟩,h⟩:=aW h
 obtain ⟨v3,vs3,rfl,⟨x3,h3⟩,h⟩:=aW h
 obtain ⟨v4,vs4,rfl,⟨x4,h4⟩,h⟩:=aW h
 cases dG h
 exact ⟨⟨x0,x1,x2,x3,x4⟩,by subst h0 h1 h2 h3 h4;simp only [go_sem,cZ]⟩
set_option maxHeartbeats 4000000 in
set_option maxRecDepth 100000 in
theorem EU:bH En (fun v=> ∃l:List au,v=V.sl none 80 true (l.map aM)) 37:=by
 have h:=iE aU (T:=37) (Q:=(fun v=> ∃x:au,v=aM x)) (by rw [se]) (by rw [se]) (by rw [se];exact ES)
 rw [se] at h
 refine h.mono ?_
 rintro v ⟨l,hl,rfl⟩
 obtain ⟨m,rfl⟩:=gp (f:=aM) (fun d hd=>by obtain ⟨x,hx⟩:=hl d hd;exact ⟨x,hx⟩)
 exact ⟨m,by simp only [oU]⟩
set_option maxHeartbeats 4000000 in
set_option maxRecDepth 100000 in
theorem OL:bH En (fun v=> ∃x:bh,v=bf x) 73:=by
 have h:=dF aU (T:=73) (by rw [oV]) (by rw [oV]) [(fun v=> ∃x:au,v=aM x),(fun v=> ∃l:List au,v=V.sl none 80 true (l.map aM))] (by rw [oV];exact ⟨ES,EU,trivial⟩)
 rw [oV] at h
 refine h.mono ?_
 rintro v ⟨vs,h,rfl⟩
 obtain ⟨v0,vs0,rfl,⟨x0,h0⟩,h⟩:=aW h
 obtain ⟨v1,vs1,rfl,⟨x1,h1⟩,h⟩:=aW h
 cases dG h
 exact ⟨⟨x0,x1⟩,by subst h0 h1;simp only [go_sem,cZ]⟩
set_option maxHeartbeats 4000000 in
set_option maxRecDepth 100000 in
theorem OM:bH En (fun v=> ∃l:List bh,v=V.sl none 81 true (l.map bf)) 38:=by
 have h:=iE aU (T:=38) (Q:=(fun v=> ∃x:bh,v=bf x)) (by rw [sf]) (by rw [sf]) (by rw [sf];exact OL)
 rw [sf] at h
 refine h.mono ?_
 rintro v ⟨l,hl,rfl⟩
 obtain ⟨m,rfl⟩:=gp (f:=bf) (fun d hd=>by obtain ⟨x,hx⟩:=hl d hd;exact ⟨x,hx⟩)
 exact ⟨m,by simp only [oV]⟩
set_option maxHeartbeats 4000000 in
set_option maxRecDepth 100000 in
theorem zM:bH En (fun v=> ∃l:List Int,v=V.sl none 1 false (l.map (V.int .i64))) 34:=by
 have h:=iE aU (T:=34) (Q:=(fun v=> ∃n:Int,v=V.int .i64 n)) (by rw [sd]) (by rw [sd]) (by rw [sd];exact op3)
 rw [sd] at h
 refine h.mono ?_
 rintro v ⟨l,hl,rfl⟩
 obtain ⟨m,rfl⟩:=gp (f:=(V.int .i64)) (fun d hd=>by obtain ⟨x,hx⟩:=hl d hd;exact ⟨x,hx⟩)
 exact ⟨m,by simp only [tb3]⟩
set_option maxHeartbeats 4000000 in
set_option maxRecDepth 100000 in
theorem ON:bH En (fun v=> ∃x:dS,v=xh x) 91:=by
 have h:=dF aU (T:=91) (by rw [sv]) (by rw [sv]) [(fun v=> ∃l:List Int,v=V.sl none 1 false (l.map (V.int .i64))),(fun v=> ∃n:Int,v=V.int .i64 n),(fun v=> ∃l:List Int,v=V.sl none 1 false (l.map (V.int .i64)))] (by rw [sv];exact ⟨zM,op3,zM,trivial⟩)
 rw [sv] at h
 refine h.mono ?_
 rintro v ⟨vs,h,rfl⟩
 obtain ⟨v0,vs0,rfl,⟨x0,h0⟩,h⟩:=aW h
 obtain ⟨v1,vs1,rfl,⟨x1,h1⟩,h⟩:=aW h
 obtain ⟨v2,vs2,rfl,⟨x2,h2⟩,h⟩:=aW h
 cases dG h
 exact ⟨⟨x0,x1,x2⟩,by subst h0 h1 h2;simp only [go_sem,cZ]⟩
set_option maxHeartbeats 4000000 in
set_option maxRecDepth 100000 in
theorem OO:bH En (fun v=> ∃x:b9,v=bz x) 93:=by
 have h:=dF aU (T:=93) (by rw [oX]) (by rw [oX]) [(fun v=> ∃n:Int,v=V.int .i64 n),(fun v=> ∃n:Int,v=V.int .i64 n),(fun v=> ∃x:dS,v=xh x)] (by rw [oX];exact ⟨op3,op3,ON,trivial⟩)
 rw [oX] at h
 refine h.mono ?_
 rintro v ⟨vs,h,rfl⟩
 obtain ⟨v0,vs0,rfl,⟨x0,h0⟩,h⟩:=aW h
 obtain ⟨v1,vs1,rfl,⟨x1,h1⟩,h⟩:=aW h
 obtain ⟨v2,vs2,rfl,⟨x2,h2⟩,h⟩:=aW h
 cases dG h
 exact ⟨⟨x0,x1,x2⟩,by subst h0 h1 h2;simp only [go_sem,cZ]⟩
set_option maxHeartbeats 4000000 in
set_option maxRecDepth 100000 in
theorem OP:bH En (fun v=> ∃l:List b9,v=V.sl none 5 true (l.map bz)) 39:=by
 have h:=iE aU (T:=39) (Q:=(fun v=> ∃x:b9,v=bz x)) (by rw [sk]) (by rw [sk]) (by rw [sk];exact OO)
 rw [sk] at h
 refine h.mono ?_
 rintro v ⟨l,hl,rfl⟩
 obtain ⟨m,rfl⟩:=gp (f:=bz) (fun d hd=>by obtain ⟨x,hx⟩:=hl d hd;exact ⟨x,hx⟩)
 exact ⟨m,by simp only [oX]⟩
set_option maxHeartbeats 4000000 in
set_option maxRecDepth 100000 in
theorem zO:bH En (fun v=> ∃x:aA,v=br x) 41:=by
 have h:=dF aU (T:=41) (by rw [i6]) (by rw [i6]) [(fun v=> ∃n:Int,v=V.int .i64 n),(fun v=> ∃l:List au,v=V.sl none 80 true (l.map aM)),(fun v=> ∃l:List bh,v=V.sl none 81 true (l.map bf)),(fun v=> ∃l:List b9,v=V.sl none 5 true (l.map bz))] (by rw [i6];exact ⟨op3,EU,OM,OP,trivial⟩)
 rw [i6] at h
 refine h.mono ?_
 rintro v ⟨vs,h,rfl⟩
 obtain ⟨v0,vs0,rfl,⟨x0,h0⟩,h⟩:=aW h
 obtain ⟨v1,vs1,rfl,⟨x1,h1⟩,h⟩:=aW h
 obtain ⟨v2,vs2,rfl,⟨x2,h2⟩,h⟩:=aW h
 obtain ⟨v3,vs3,rfl,⟨x3,h3⟩,h⟩:=aW h
 cases dG h
 exact ⟨⟨x0,x1,x2,x3⟩,by subst h0 h1 h2 h3;simp only [go_sem,cZ]⟩
set_option maxHeartbeats 4000000 in
set_option maxRecDepth 100000 in
theorem OQ:bH En (fun v=> ∃l:List aA,v=V.sl none 4 true (l.map br)) 33:=by
 have h:=iE aU (T:=33) (Q:=(fun v=> ∃x:aA,v=br x)) (by rw [sc]) (by rw [sc]) (by rw [sc];exact zO)
 rw [sc] at h
 refine h.mono ?_
 rintro v ⟨l,hl,rfl⟩
 obtain ⟨m,rfl⟩:=gp (f:=br) (fun d hd=>by obtain ⟨x,hx⟩:=hl d hd;exact ⟨x,hx⟩)
 exact ⟨m,by simp only [i6]⟩
set_option maxHeartbeats 4000000 in
set_option maxRecDepth 100000 in
theorem OR:bH En (fun v=> ∃x:aw,v=bW x) 36:=by
 have h:=dF aU (T:=36) (by rw [mT]) (by rw [mT]) [(fun v=> ∃x:(List Int),v=aF x),(fun v=> ∃x:dC,v=xi x),(fun v=> ∃l:List aL,v=V.sl none 35 true (l.map aY)),(fun v=> ∃n:Int,v=V.int .i64 n),(fun v=> ∃l:List aA,v=V.sl none 4 true (l.map br)),(fun v=> ∃l:List aL,v=V.sl none 35 true (l.map aY)),(fun v=> ∃n:Int,v=V.int .i64 n),(fun v=> ∃l:List Int,v=V.sl none 1 false (l.map (V.int .i64))),(fun v=> ∃n:Int,v=V.int .i64 n)] (by rw [mT];exact ⟨qy,OA,ER,op3,OQ,ER,op3,zM,op3,trivial⟩)
 rw [mT] at h
 refine h.mono ?_
 rintro v ⟨vs,h,rfl⟩
 obtain ⟨v0,vs0,rfl,⟨x0,h0⟩,h⟩:=aW h
 obtain ⟨v1,vs1,rfl,⟨x1,h1⟩,h⟩:=aW h
 obtain ⟨v2,vs2,rfl,⟨x2,h2⟩,h⟩:=aW h
 obtain ⟨v3,vs3,rfl,⟨x3,h3⟩,h⟩:=aW h
 obtain ⟨v4,vs4,rfl,⟨x4,h4⟩,h⟩:=aW h
 obtain ⟨v5,vs5,rfl,⟨x5,h5⟩,h⟩:=aW h
 obtain ⟨v6,vs6,rfl,⟨x6,h6⟩,h⟩:=aW h
 obtain ⟨v7,vs7,rfl,⟨x7,h7⟩,h⟩:=aW h
 obtain ⟨v8,vs8,rfl,⟨x8,h8⟩,h⟩:=aW h
 cases dG h
 exact ⟨⟨x0,x1,x2,x3,x4,x5,x6,x7,x8⟩,by subst h0 h1 h2 h3 h4 h5 h6 h7 h8;simp only [go_sem,cZ]⟩
set_option maxRecDepth 100000 in
theorem OS (H:Type) (enc:TypeId×Value→H) (W:World) (base:Nat) (args:Array Value) (ds:List (DataW H)) (ps:List MemPlace) (hA:DataW.TrodAll enc En.P W 0 (fun _=>true) true Tryz.f3.params.toList args.toList ds ps)
  (hval: ∀(j:Nat) t v,Tryz.f3.params[j]? =some t→args[j]? =some v→Value.okWide En.P W .any base t v) (hb:Rows.uptoBulkAll ds≤1048576): ∃ws,rdT ro0 (gO W) ws args.toList∧aV En 3 ws (.bool true) []:=by
 rw [Tryz.params3] at hA hval
 obtain ⟨v0,vs0,d0,ds0,p0,q0,hargs,rfl,rfl,h0,r0⟩:=trodAll_cons hA
 obtain ⟨v1,vs1,d1,ds1,p1,q1,rfl,rfl,rfl,h1,r1⟩:=trodAll_cons r0
 obtain ⟨v2,vs2,d2,ds2,p2,q2,rfl,rfl,rfl,h2,r2⟩:=trodAll_cons r1
 obtain ⟨v3,vs3,d3,ds3,p3,q3,rfl,rfl,rfl,h3,r3⟩:=trodAll_cons r2
 obtain ⟨v4,vs4,d4,ds4,p4,q4,rfl,rfl,rfl,h4,r4⟩:=trodAll_cons r3
 obtain ⟨v5,vs5,d5,ds5,p5,q5,rfl,rfl,rfl,h5,r5⟩:=trodAll_cons r4
 obtain ⟨rfl,rfl,rfl⟩:=trodAll_nil r5
 obtain rfl:args= #[v0,v1,v2,v3,v4,v5]:=by cases args;simp_all
 simp only [Rows.uptoBulkAll] at hb
 obtain ⟨u0,⟨x0,rfl⟩,e0⟩:=nV aU (T:=25) (by rw [mQ]) (by rw [mQ];decide) Ou (hval 0 25 v0 rfl rfl) h0 (by omega)
 obtain ⟨u1,⟨x1,rfl⟩,e1⟩:=nV aU (T:=26) (by rw [mR]) (by rw [mR];decide) Ox (hval 1 26 v1 rfl rfl) h1 (by omega)
 obtain ⟨u2,⟨x2,rfl⟩,e2⟩:=nV aU (T:=3) (by rw [tb3]) (by rw [tb3];decide) op3 (hval 2 3 v2 rfl rfl) h2 (by omega)
 obtain ⟨u3,⟨x3,rfl⟩,e3⟩:=nV aU (T:=36) (by rw [mT]) (by rw [mT];decide) OR (hval 3 36 v3 rfl rfl) h3 (by omega)
 obtain ⟨u4,⟨x4,rfl⟩,e4⟩:=nV aU (T:=41) (by rw [i6]) (by rw [i6];decide) zO (hval 4 41 v4 rfl rfl) h4 (by omega)
 obtain ⟨u5,⟨x5,rfl⟩,e5⟩:=nV aU (T:=41) (by rw [i6]) (by rw [i6];decide) zO (hval 5 41 v5 rfl rfl) h5 (by omega)
 refine ⟨[bS x0,.sl none 11 true (x1.map cP),.int .i64 x2,bW x3,br x4,br x5],⟨v0,[v1,v2,v3,v4,v5],rfl,e0,v1,[v2,v3,v4,v5],rfl,e1,v2,[v3,v4,v5],rfl,e2,v3,[v4,v5],rfl,e3,v4,[v5],rfl,e4,v5,[],rfl,e5,rfl⟩,?_⟩
 have h:=(N8 x0 x1 x2 x3 x4 x5).ok
 rw [N_ x0 x1 x2 x3 x4 x5] at h
 exact h
theorem OT:ownKnob Tryz.prog.godebug=none:=by kernel_rfl
theorem OU:laidOutB Tryz.prog=true:=by kernel_rfl
set_option maxRecDepth 100000 in
theorem OV: ∀t∈Tryz.f3.params.toList,Tryz.prog.readableRec t=true∧t<Tryz.prog.types.size:=by
 intro t ht
 rw [Tryz.params3] at ht
 simp only [List.mem_cons,List.not_mem_nil,or_false] at ht
 rcases ht with rfl|rfl|rfl|rfl|rfl|rfl<;>exact ⟨by kernel_rfl,of_decide_eq_true (by kernel_rfl)⟩
set_option maxRecDepth 100000 in
theorem OW (H:Type) (ds:List (DataW H)) (h:ds.length=Tryz.f3.params.toList.length):Rows.merchantOnceSpec.fn H ds={results:=[.lit (.bool true)],args:=ds}:=by
 rw [Tryz.params3] at h
 match ds,h with
 | [d0,d1,d2,d3,d4,d5],_=>rfl
def uw:Array Value:= #[.agg #[.int .i64 0,.int .i64 0,.int .i64 0,.int .i64 0,.int .i64 0,.int .i64 0],.slice none 0 0,.int .i64 0,.agg #[.int .u8 0,.int .u8 0,.int .u8 0,.int .u8 0,.int .u8 0,.int .u8 0,.int .u8 0,.int .u8 0,.int .u8 0,.int .u8 0,.int .u8 0,.int .u8 0,.int .u8 0,.int .u8 0,.int .u8 0,.int .u8 0,.int .u8 0,.int .u8 0,.int .u8 0,.int .u8 0,.int .u8 0,.int .u8 0,.int .u8 0,.int .u8 0,.int .u8 0,.int .u8 0,.int .u8 0,.int .u8 0,.int .u8 0,.int .u8 0,.int .u8 0,.int .u8 0,.slice none 0 0,.slice none 0 0,.int .i64 0,.slice none 0 0,.slice none 0 0,.int .i64 0,.slice none 0 0,.int .i64 0],.agg #[.int .i64 0,.slice none 0 0,.slice none 0 0,.slice none 0 0],.agg #[.int .i64 0,.slice none 0 0,.slice none 0 0,.slice none 0 0]]
theorem OX (os:Os):laidMetH Tryz.prog Rows.merchantOnceUptoRow.laid ((World.laidAll Tryz.prog os Rows.merchantOnceUptoRow.laid).forCall (fun _ _=>0) ⟨#[],uw,[]⟩).memory:=by
 rw [MakeChecks.laidMetH_plain _ _ _ (by kernel_rfl)]
 exact laidMet_laidAll _ (by kernel_rfl) (by kernel_rfl)
theorem OY (os:Os) {H:Type} (enc:TypeId×Value→H): ∃places,DataW.whole enc Tryz.prog ((World.laidAll Tryz.prog os Rows.merchantOnceUptoRow.laid).forCall (fun _ _=>0) ⟨#[],uw,[]⟩).memory Tryz.f3.params.toList Rows.merchantOnceSpec.vars false (uw:Array Value).toList 8=some ([.agg [.agg [.lit (.int .i64 0),.lit (.int .i64 0),.lit (.int .i64 0)],.lit (.int .i64 0),.lit (.int .i64 0),.lit (.int .i64 0)],.nil,.lit (.int .i64 0),.agg [.agg (List.replicate 32 (.lit (.int .u8 0))),.agg [.nil],.nil,.lit (.int .i64 0),.nil,.nil,.lit (.int .i64 0),.nil,.lit (.int .i64 0)],.agg [.lit (.int .i64 0),.nil,.nil,.nil],.agg [.lit (.int .i64 0),.nil,.nil,.nil]],[],places):=⟨[],by kernel_rfl⟩
set_option maxRecDepth 100000 in
theorem OZ (os:Os) (started:os.Started) (H:Type) (enc:TypeId×Value→H) (F:Stop.Interp):
  ReturnsInHanded {} Tryz.checked os 3 .any ((Rows.OpenSpec.upto Rows.merchantOnceSpec).preRow enc Tryz.prog Tryz.f3 Rows.merchantOnceUptoRow.domain false Rows.merchantOnceUptoRow.laid) (((Rows.OpenSpec.upto Rows.merchantOnceSpec).at F).post enc Tryz.prog Tryz.f3 false true false false):=by
 obtain ⟨places,hx⟩:=OY os enc
 refine returnsInHanded_of_row (C:=Tryz.checked) (s:=(Rows.OpenSpec.upto Rows.merchantOnceSpec)) OT started (by kernel_rfl) Tryz.func3
  (witness_row_at (enc:=enc) (C:=Tryz.checked) false (World.laidAll Tryz.prog os Rows.merchantOnceUptoRow.laid) uw (World.laidAll_os _ _ _) (by kernel_rfl) (by kernel_rfl) (by kernel_rfl)
   (OpenSpec.preRow_of_cond 8 hx (by kernel_rfl) (fun k hk=>by cases hk;kernel_rfl) (by kernel_rfl) (OX os))) ?_
 intro W base args ds gs before hval hW _ hk _ hL hsh _
 exact On (E:=En) (bt:=4) Tryz.underlying4 rfl rfl OU OV OW OS H enc W base args ds gs before hval hW (hk _ rfl) rfl (Oq hL)
theorem O0 {a b:Bool} (ha:a=true) (hb:b=true):(a&&b)=true:=by rw [ha,hb];rfl
theorem O1:(Rows.merchantOnceUptoRow.wf (OpenSpec.ofChange (Rows.OpenSpec.upto Rows.merchantOnceSpec).bare))=true:=by kernel_rfl
theorem O2:(laidOutB Tryz.prog)=true:=by kernel_rfl
theorem O3:(mapsRowed Tryz.prog)=true:=by kernel_rfl
theorem O4:(Rows.merchantOnceUptoRow.inPlace==Tryz.prog.inPlace 3)=true:=by kernel_rfl
theorem O5:(Rows.merchantOnceUptoRow.unfollowed==Tryz.prog.unfollowed 3)=true:=by kernel_rfl
theorem O6:(Rows.merchantOnceUptoRow.recurses==Tryz.prog.recurses 3)=true:=by kernel_rfl
theorem O7:(Rows.merchantOnceUptoRow.named==Tryz.prog.varsNamed 3)=true:=by kernel_rfl
theorem O8:(Rows.merchantOnceUptoRow.plainKeys==Tryz.prog.plainKeys)=true:=by kernel_rfl
theorem O9:(Tryz.prog.stopsHeard)=true:=by kernel_rfl
theorem O_:(Tryz.prog.mayEnter)=true:=by kernel_rfl
theorem Pa:(Rows.merchantOnceUptoRow.lifted==Tryz.prog.liftsFinal)=true:=by kernel_rfl
theorem Pb:joinedFacts Tryz.prog 3 Tryz.f3 (Rows.OpenSpec.upto Rows.merchantOnceSpec).bare Rows.merchantOnceUptoRow=true:=by
 unfold joinedFacts
 repeat' (with_reducible refine O0 ?_ ?_)
 all_goals first|with_reducible exact O1|with_reducible exact O2|with_reducible exact O3|with_reducible exact O4|with_reducible exact O5|with_reducible exact O6|with_reducible exact O7|with_reducible exact O8|with_reducible exact O9|with_reducible exact O_|with_reducible exact Pa|kernel_rfl
theorem Pc:Rows.MerchantOnceUptoSaid:=
 OpenClaim.holds_of_cond 3 Tryz.f3 rfl rfl rfl rfl rfl rfl rfl ⟨rfl,rfl,rfl,rfl,rfl⟩ rfl rfl rfl rfl rfl (by kernel_rfl) Tryz.func3 Pb
  (of_decide_eq_true (by kernel_rfl)) (by unfold Func.isWrapper;first|(rw [if_pos (by decide+kernel)];kernel_rfl)|(rw [if_neg (by decide+kernel)];exact ⟨rfl,rfl⟩))
  (fun os started H enc _ F=>by rw [OpenClaim.pre_eq_preRow];exact OZ os started H enc F)
theorem Pd (f:FuncId) (fn:Func) (hf:Tryz.pinned.checked.prog.funcNamed "specie/specielaw47.MerchantOnce" =some f) (hfn:Tryz.pinned.checked.prog.funcs[f]? =some fn):
  false=Tryz.pinned.checked.prog.looks []∧ ∀(j:Nat) t,fn.params[j]? =some t→Tryz.pinned.checked.prog.wantsStandIn t=false:=by
 obtain rfl:f=3:=Option.some.inj ((show Tryz.prog.funcNamed "specie/specielaw47.MerchantOnce" =some 3 by kernel_rfl).symm.trans hf)|>.symm
 obtain rfl:fn=Tryz.f3:=(Option.some.inj (Tryz.func3.symm.trans hfn)).symm
 refine ⟨by kernel_rfl,fun j t ht=> ?_⟩
 have hall:(Tryz.f3.params.toList.all fun u=> !Tryz.prog.wantsStandIn u)=true:=by kernel_rfl
 have h0:=List.all_eq_true.1 hall t (Array.mem_toList_iff.2 (Array.mem_of_getElem? ht))
 exact (show Tryz.prog.wantsStandIn t=false by simpa using h0)
theorem merchantOnce_holds:Rows.MerchantOnceUptoCardSaid:=
 Claim7.holds_tied_plain_at .later [] _ _ _ _ Pc (fun _ h=>by cases h) (by kernel_rfl) (fun _ h=>by cases h) merchantOnceUpto_row_tie rfl ⟨rfl,rfl⟩ (by kernel_rfl) rfl Pd (by kernel_rfl)
end Go.Proofs.YteibkofekpejgaaGreatDoor
