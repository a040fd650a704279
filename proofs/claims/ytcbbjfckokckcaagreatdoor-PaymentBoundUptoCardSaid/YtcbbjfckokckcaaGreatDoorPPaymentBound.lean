/- PaymentBound: the law holds of what holds at most 1048576 values and letters together (printed by program, but for the law itself). -/
import Derived.Test.YtcbbjfckokckcaaGreatDoorZ14
import Derived.Test.YtcbbjfckokckcaaGreatDoorZ13
import Derived.Test.YtcbbjfckokckcaaGreatDoorCards
import Derived.Test.YtcbbjfckokckcaaGreatDoorTie
import Derived.Deep.DeepHandedRow
import Derived.Lay
import Derived.LaidMore
import Derived.SevenTiedAt
import Derived.Stop.Joined
namespace Go.Proofs.YtcbbjfckokckcaaGreatDoor
open Go.ChangeShapes Go.WideShapes Go.ChangeAt Go.RowKit
set_option maxHeartbeats 4000000 in
set_option maxRecDepth 100000 in
theorem op3:bV En (fun v=> ∃n:Int,v=V.int .i64 n) 3:=by
 have h:=A8 al (T:=3) (by rw [tb3]) (by rw [tb3])
 rw [tb3] at h
 exact h
set_option maxHeartbeats 4000000 in
set_option maxRecDepth 100000 in
theorem Kd:bV En (fun v=> ∃x:aP,v=uH x) 23:=by
 have h:=dT al (T:=23) (by rw [pZ]) (by rw [pZ]) [(fun v=> ∃n:Int,v=V.int .i64 n),(fun v=> ∃n:Int,v=V.int .i64 n),(fun v=> ∃n:Int,v=V.int .i64 n)] (by rw [pZ];exact ⟨op3,op3,op3,trivial⟩)
 rw [pZ] at h
 refine h.mono ?_
 rintro v ⟨vs,h,rfl⟩
 obtain ⟨v0,vs0,rfl,⟨x0,h0⟩,h⟩:=bh h
 obtain ⟨v1,vs1,rfl,⟨x1,h1⟩,h⟩:=bh h
 obtain ⟨v2,vs2,rfl,⟨x2,h2⟩,h⟩:=bh h
 cases dU h
 exact ⟨⟨x0,x1,x2⟩,by subst h0 h1 h2;simp only [go_sem,db]⟩
set_option maxHeartbeats 4000000 in
set_option maxRecDepth 100000 in
theorem Ke:bV En (fun v=> ∃x:bd,v=bQ x) 25:=by
 have h:=dT al (T:=25) (by rw [lP]) (by rw [lP]) [(fun v=> ∃x:aP,v=uH x),(fun v=> ∃n:Int,v=V.int .i64 n),(fun v=> ∃n:Int,v=V.int .i64 n),(fun v=> ∃n:Int,v=V.int .i64 n)] (by rw [lP];exact ⟨Kd,op3,op3,op3,trivial⟩)
 rw [lP] at h
 refine h.mono ?_
 rintro v ⟨vs,h,rfl⟩
 obtain ⟨v0,vs0,rfl,⟨x0,h0⟩,h⟩:=bh h
 obtain ⟨v1,vs1,rfl,⟨x1,h1⟩,h⟩:=bh h
 obtain ⟨v2,vs2,rfl,⟨x2,h2⟩,h⟩:=bh h
 obtain ⟨v3,vs3,rfl,⟨x3,h3⟩,h⟩:=bh h
 cases dU h
 exact ⟨⟨x0,x1,x2,x3⟩,by subst h0 h1 h2 h3;simp only [go_sem,db]⟩
set_option maxHeartbeats 4000000 in
set_option maxRecDepth 100000 in
theorem Kf:bV En (fun v=> ∃x:hP,v=uI x) 62:=by
 have h:=dT al (T:=62) (by rw [qk]) (by rw [qk]) [(fun v=> ∃n:Int,v=V.int .i64 n),(fun v=> ∃n:Int,v=V.int .i64 n),(fun v=> ∃n:Int,v=V.int .i64 n)] (by rw [qk];exact ⟨op3,op3,op3,trivial⟩)
 rw [qk] at h
 refine h.mono ?_
 rintro v ⟨vs,h,rfl⟩
 obtain ⟨v0,vs0,rfl,⟨x0,h0⟩,h⟩:=bh h
 obtain ⟨v1,vs1,rfl,⟨x1,h1⟩,h⟩:=bh h
 obtain ⟨v2,vs2,rfl,⟨x2,h2⟩,h⟩:=bh h
 cases dU h
 exact ⟨⟨x0,x1,x2⟩,by subst h0 h1 h2;simp only [go_sem,db]⟩
set_option maxHeartbeats 4000000 in
set_option maxRecDepth 100000 in
theorem Kg:bV En (fun v=> ∃x:bB,v=bR x) 64:=by
 have h:=dT al (T:=64) (by rw [nt]) (by rw [nt]) [(fun v=> ∃n:Int,v=V.int .i64 n),(fun v=> ∃n:Int,v=V.int .i64 n),(fun v=> ∃n:Int,v=V.int .i64 n),(fun v=> ∃n:Int,v=V.int .i64 n),(fun v=> ∃n:Int,v=V.int .i64 n),(fun v=> ∃x:hP,v=uI x),(fun v=> ∃n:Int,v=V.int .i64 n),(fun v=> ∃n:Int,v=V.int .i64 n),(fun v=> ∃n:Int,v=V.int .i64 n)] (by rw [nt];exact ⟨op3,op3,op3,op3,op3,Kf,op3,op3,op3,trivial⟩)
 rw [nt] at h
 refine h.mono ?_
 rintro v ⟨vs,h,rfl⟩
 obtain ⟨v0,vs0,rfl,⟨x0,h0⟩,h⟩:=bh h
 obtain ⟨v1,vs1,rfl,⟨x1,h1⟩,h⟩:=bh h
 obtain ⟨v2,vs2,rfl,⟨x2,h2⟩,h⟩:=bh h
 obtain ⟨v3,vs3,rfl,⟨x3,h3⟩,h⟩:=bh h
 obtain ⟨v4,vs4,rfl,⟨x4,h4⟩,h⟩:=bh h
 obtain ⟨v5,vs5,rfl,⟨x5,h5⟩,h⟩:=bh h
 obtain ⟨v6,vs6,rfl,⟨x6,h6⟩,h⟩:=bh h
 obtain ⟨v7,vs7,rfl,⟨x7,h7⟩,h⟩:=bh h
 obtain ⟨v8,vs8,rfl,⟨x8,h8⟩,h⟩:=bh h
 cases dU h
 exact ⟨⟨x0,x1,x2,x3,x4,x5,x6,x7,x8⟩,by subst h0 h1 h2 h3 h4 h5 h6 h7 h8;simp only [go_sem,db]⟩
set_option maxHeartbeats 4000000 in
set_option maxRecDepth 100000 in
theorem Kh:bV En (fun v=> ∃l:List bB,v=V.sl none 11 true (l.map bR)) 26:=by
 have h:=lf al (T:=26) (Q:=(fun v=> ∃x:bB,v=bR x)) (by rw [lQ]) (by rw [lQ]) (by rw [lQ];exact Kg)
 rw [lQ] at h
 refine h.mono ?_
 rintro v ⟨l,hl,rfl⟩
 obtain ⟨m,rfl⟩:=iZ (f:=bR) (fun d hd=>by obtain ⟨x,hx⟩:=hl d hd;exact ⟨x,hx⟩)
 exact ⟨m,by simp only [nt]⟩
set_option maxHeartbeats 4000000 in
set_option maxRecDepth 100000 in
theorem op5:bV En (fun v=> ∃n:Int,v=V.int .u8 n) 5:=by
 have h:=A8 al (T:=5) (by rw [tb5]) (by rw [tb5])
 rw [tb5] at h
 exact h
set_option maxHeartbeats 4000000 in
set_option maxRecDepth 100000 in
theorem rS:bV En (fun v=> ∃x:(List Int),v=aI x) 28:=by
 have h:=J8 al (T:=28) (Q:=(fun v=> ∃n:Int,v=V.int .u8 n)) (by rw [lR]) (by rw [lR]) (by rw [lR];exact op5)
 rw [lR] at h
 refine h.mono ?_
 rintro v ⟨l,hn,hl,rfl⟩
 obtain ⟨m,rfl⟩:=iZ (f:=(V.int .u8)) (fun d hd=>by obtain ⟨x,hx⟩:=hl d hd;exact ⟨x,hx⟩)
 refine ⟨m,?_⟩
 have hm:m.length=32:=by simpa only [List.length_map,lR] using hn
 rw [Kb (f:=(V.int .u8)) hm]
 simp only [tb5]
 rfl
set_option maxHeartbeats 4000000 in
set_option maxRecDepth 100000 in
theorem Bb:bV En (fun v=> ∃x:bL,v=cA x) 30:=by
 have h:=dT al (T:=30) (by rw [jt]) (by rw [jt]) [(fun v=> ∃x:(List Int),v=aI x),(fun v=> ∃n:Int,v=V.int .i64 n),(fun v=> ∃n:Int,v=V.int .i64 n),(fun v=> ∃n:Int,v=V.int .i64 n)] (by rw [jt];exact ⟨rS,op3,op3,op3,trivial⟩)
 rw [jt] at h
 refine h.mono ?_
 rintro v ⟨vs,h,rfl⟩
 obtain ⟨v0,vs0,rfl,⟨x0,h0⟩,h⟩:=bh h
 obtain ⟨v1,vs1,rfl,⟨x1,h1⟩,h⟩:=bh h
 obtain ⟨v2,vs2,rfl,⟨x2,h2⟩,h⟩:=bh h
 obtain ⟨v3,vs3,rfl,⟨x3,h3⟩,h⟩:=bh h
 cases dU h
 exact ⟨⟨x0,x1,x2,x3⟩,by subst h0 h1 h2 h3;simp only [go_sem,db]⟩
set_option maxHeartbeats 4000000 in
set_option maxRecDepth 100000 in
theorem Ki:bV En (fun v=> ∃x:g8,v=uB x) 44:=by
 have h:=dT al (T:=44) (by rw [qd]) (by rw [qd]) [(fun v=> ∃n:Int,v=V.int .i64 n),(fun v=> ∃n:Int,v=V.int .i64 n),(fun v=> ∃n:Int,v=V.int .i64 n),(fun v=> ∃n:Int,v=V.int .i64 n)] (by rw [qd];exact ⟨op3,op3,op3,op3,trivial⟩)
 rw [qd] at h
 refine h.mono ?_
 rintro v ⟨vs,h,rfl⟩
 obtain ⟨v0,vs0,rfl,⟨x0,h0⟩,h⟩:=bh h
 obtain ⟨v1,vs1,rfl,⟨x1,h1⟩,h⟩:=bh h
 obtain ⟨v2,vs2,rfl,⟨x2,h2⟩,h⟩:=bh h
 obtain ⟨v3,vs3,rfl,⟨x3,h3⟩,h⟩:=bh h
 cases dU h
 exact ⟨⟨x0,x1,x2,x3⟩,by subst h0 h1 h2 h3;simp only [go_sem,db]⟩
set_option maxHeartbeats 4000000 in
set_option maxRecDepth 100000 in
theorem Kj:bV En (fun v=> ∃x:bD,v=dj x) 46:=by
 have h:=dT al (T:=46) (by rw [qe]) (by rw [qe]) [(fun v=> ∃n:Int,v=V.int .i64 n),(fun v=> ∃n:Int,v=V.int .i64 n),(fun v=> ∃n:Int,v=V.int .i64 n),(fun v=> ∃n:Int,v=V.int .i64 n),(fun v=> ∃n:Int,v=V.int .i64 n),(fun v=> ∃x:(List Int),v=aI x),(fun v=> ∃x:g8,v=uB x)] (by rw [qe];exact ⟨op3,op3,op3,op3,op3,rS,Ki,trivial⟩)
 rw [qe] at h
 refine h.mono ?_
 rintro v ⟨vs,h,rfl⟩
 obtain ⟨v0,vs0,rfl,⟨x0,h0⟩,h⟩:=bh h
 obtain ⟨v1,vs1,rfl,⟨x1,h1⟩,h⟩:=bh h
 obtain ⟨v2,vs2,rfl,⟨x2,h2⟩,h⟩:=bh h
 obtain ⟨v3,vs3,rfl,⟨x3,h3⟩,h⟩:=bh h
 obtain ⟨v4,vs4,rfl,⟨x4,h4⟩,h⟩:=bh h
 obtain ⟨v5,vs5,rfl,⟨x5,h5⟩,h⟩:=bh h
 obtain ⟨v6,vs6,rfl,⟨x6,h6⟩,h⟩:=bh h
 cases dU h
 exact ⟨⟨x0,x1,x2,x3,x4,x5,x6⟩,by subst h0 h1 h2 h3 h4 h5 h6;simp only [go_sem,db]⟩
set_option maxHeartbeats 4000000 in
set_option maxRecDepth 100000 in
theorem Kk:bV En (fun v=> ∃x:gy,v=uC x) 48:=by
 have h:=dT al (T:=48) (by rw [qf]) (by rw [qf]) [(fun v=> ∃n:Int,v=V.int .i64 n),(fun v=> ∃n:Int,v=V.int .i64 n)] (by rw [qf];exact ⟨op3,op3,trivial⟩)
 rw [qf] at h
 refine h.mono ?_
 rintro v ⟨vs,h,rfl⟩
 obtain ⟨v0,vs0,rfl,⟨x0,h0⟩,h⟩:=bh h
 obtain ⟨v1,vs1,rfl,⟨x1,h1⟩,h⟩:=bh h
 cases dU h
 exact ⟨⟨x0,x1⟩,by subst h0 h1;simp only [go_sem,db]⟩
set_option maxHeartbeats 4000000 in
set_option maxRecDepth 100000 in
theorem Kl:bV En (fun v=> ∃x:dZ,v=kK x) 50:=by
 have h:=dT al (T:=50) (by rw [qg]) (by rw [qg]) [(fun v=> ∃x:(List Int),v=aI x),(fun v=> ∃n:Int,v=V.int .i64 n),(fun v=> ∃n:Int,v=V.int .i64 n)] (by rw [qg];exact ⟨rS,op3,op3,trivial⟩)
 rw [qg] at h
 refine h.mono ?_
 rintro v ⟨vs,h,rfl⟩
 obtain ⟨v0,vs0,rfl,⟨x0,h0⟩,h⟩:=bh h
 obtain ⟨v1,vs1,rfl,⟨x1,h1⟩,h⟩:=bh h
 obtain ⟨v2,vs2,rfl,⟨x2,h2⟩,h⟩:=bh h
 cases dU h
 exact ⟨⟨x0,x1,x2⟩,by subst h0 h1 h2;simp only [go_sem,db]⟩
set_option maxHeartbeats 4000000 in
set_option maxRecDepth 100000 in
theorem Km:bV En (fun v=> ∃x:fE,v=eJ x) 123:=by
 have h:=dT al (T:=123) (by rw [nv]) (by rw [nv]) [(fun v=> ∃n:Int,v=V.int .i64 n),(fun v=> ∃n:Int,v=V.int .i64 n),(fun v=> ∃n:Int,v=V.int .i64 n)] (by rw [nv];exact ⟨op3,op3,op3,trivial⟩)
 rw [nv] at h
 refine h.mono ?_
 rintro v ⟨vs,h,rfl⟩
 obtain ⟨v0,vs0,rfl,⟨x0,h0⟩,h⟩:=bh h
 obtain ⟨v1,vs1,rfl,⟨x1,h1⟩,h⟩:=bh h
 obtain ⟨v2,vs2,rfl,⟨x2,h2⟩,h⟩:=bh h
 cases dU h
 exact ⟨⟨x0,x1,x2⟩,by subst h0 h1 h2;simp only [go_sem,db]⟩
set_option maxHeartbeats 4000000 in
set_option maxRecDepth 100000 in
theorem Kn:bV En (fun v=> ∃l:List fE,v=V.sl none 3 true (l.map eJ)) 51:=by
 have h:=lf al (T:=51) (Q:=(fun v=> ∃x:fE,v=eJ x)) (by rw [qh]) (by rw [qh]) (by rw [qh];exact Km)
 rw [qh] at h
 refine h.mono ?_
 rintro v ⟨l,hl,rfl⟩
 obtain ⟨m,rfl⟩:=iZ (f:=eJ) (fun d hd=>by obtain ⟨x,hx⟩:=hl d hd;exact ⟨x,hx⟩)
 exact ⟨m,by simp only [nv]⟩
set_option maxHeartbeats 4000000 in
set_option maxRecDepth 100000 in
theorem Ko:bV En (fun v=> ∃l:List (List Int),v=V.sl none 32 true (l.map aI)) 52:=by
 have h:=lf al (T:=52) (Q:=(fun v=> ∃x:(List Int),v=aI x)) (by rw [qi]) (by rw [qi]) (by rw [qi];exact rS)
 rw [qi] at h
 refine h.mono ?_
 rintro v ⟨l,hl,rfl⟩
 obtain ⟨m,rfl⟩:=iZ (f:=aI) (fun d hd=>by obtain ⟨x,hx⟩:=hl d hd;exact ⟨x,hx⟩)
 exact ⟨m,by simp only [lR]⟩
set_option maxHeartbeats 4000000 in
set_option maxRecDepth 100000 in
theorem Kq:bV En (fun v=> ∃x:g_,v=uD x) 54:=by
 have h:=dT al (T:=54) (by rw [qj]) (by rw [qj]) [(fun v=> ∃n:Int,v=V.int .i64 n),(fun v=> ∃l:List (List Int),v=V.sl none 32 true (l.map aI))] (by rw [qj];exact ⟨op3,Ko,trivial⟩)
 rw [qj] at h
 refine h.mono ?_
 rintro v ⟨vs,h,rfl⟩
 obtain ⟨v0,vs0,rfl,⟨x0,h0⟩,h⟩:=bh h
 obtain ⟨v1,vs1,rfl,⟨x1,h1⟩,h⟩:=bh h
 cases dU h
 exact ⟨⟨x0,x1⟩,by subst h0 h1;simp only [go_sem,db]⟩
set_option maxHeartbeats 4000000 in
set_option maxRecDepth 100000 in
theorem Bc:bV En (fun v=> ∃x:aR,v=aY x) 56:=by
 have h:=dT al (T:=56) (by rw [nq]) (by rw [nq]) [(fun v=> ∃x:bD,v=dj x),(fun v=> ∃x:gy,v=uC x),(fun v=> ∃x:dZ,v=kK x),(fun v=> ∃l:List fE,v=V.sl none 3 true (l.map eJ)),(fun v=> ∃x:g_,v=uD x)] (by rw [nq];exact ⟨Kj,Kk,Kl,Kn,Kq,trivial⟩)
 rw [nq] at h
 refine h.mono ?_
 rintro v ⟨vs,h,rfl⟩
 obtain ⟨v0,vs0,rfl,⟨x0,h0⟩,h⟩:=bh h
 obtain ⟨v1,vs1,rfl,⟨x1,h1⟩,h⟩:=bh h
 obtain ⟨v2,vs2,rfl,⟨x2,h2⟩,h⟩:=bh h
 obtain ⟨v3,vs3,rfl,⟨x3,h3⟩,h⟩:=bh h
 obtain ⟨v4,vs4,rfl,⟨x4,h4⟩,h⟩:=bh h
 cases dU h
 exact ⟨⟨x0,x1,x2,x3,x4⟩,by subst h0 h1 h2 h3 h4;simp only [go_sem,db]⟩
set_option maxHeartbeats 4000000 in
set_option maxRecDepth 100000 in
theorem Bd:bV En (fun v=> ∃l:List aR,v=V.sl none 80 true (l.map aY)) 31:=by
 have h:=lf al (T:=31) (Q:=(fun v=> ∃x:aR,v=aY x)) (by rw [qa]) (by rw [qa]) (by rw [qa];exact Bc)
 rw [qa] at h
 refine h.mono ?_
 rintro v ⟨l,hl,rfl⟩
 obtain ⟨m,rfl⟩:=iZ (f:=aY) (fun d hd=>by obtain ⟨x,hx⟩:=hl d hd;exact ⟨x,hx⟩)
 exact ⟨m,by simp only [nq]⟩
set_option maxHeartbeats 4000000 in
set_option maxRecDepth 100000 in
theorem Kr:bV En (fun v=> ∃x:ce,v=bz x) 58:=by
 have h:=dT al (T:=58) (by rw [nr]) (by rw [nr]) [(fun v=> ∃x:aR,v=aY x),(fun v=> ∃l:List aR,v=V.sl none 80 true (l.map aY))] (by rw [nr];exact ⟨Bc,Bd,trivial⟩)
 rw [nr] at h
 refine h.mono ?_
 rintro v ⟨vs,h,rfl⟩
 obtain ⟨v0,vs0,rfl,⟨x0,h0⟩,h⟩:=bh h
 obtain ⟨v1,vs1,rfl,⟨x1,h1⟩,h⟩:=bh h
 cases dU h
 exact ⟨⟨x0,x1⟩,by subst h0 h1;simp only [go_sem,db]⟩
set_option maxHeartbeats 4000000 in
set_option maxRecDepth 100000 in
theorem Ks:bV En (fun v=> ∃l:List ce,v=V.sl none 81 true (l.map bz)) 32:=by
 have h:=lf al (T:=32) (Q:=(fun v=> ∃x:ce,v=bz x)) (by rw [qb]) (by rw [qb]) (by rw [qb];exact Kr)
 rw [qb] at h
 refine h.mono ?_
 rintro v ⟨l,hl,rfl⟩
 obtain ⟨m,rfl⟩:=iZ (f:=bz) (fun d hd=>by obtain ⟨x,hx⟩:=hl d hd;exact ⟨x,hx⟩)
 exact ⟨m,by simp only [nr]⟩
set_option maxHeartbeats 4000000 in
set_option maxRecDepth 100000 in
theorem Be:bV En (fun v=> ∃l:List Int,v=V.sl none 1 false (l.map (V.int .i64))) 79:=by
 have h:=lf al (T:=79) (Q:=(fun v=> ∃n:Int,v=V.int .i64 n)) (by rw [ql]) (by rw [ql]) (by rw [ql];exact op3)
 rw [ql] at h
 refine h.mono ?_
 rintro v ⟨l,hl,rfl⟩
 obtain ⟨m,rfl⟩:=iZ (f:=(V.int .i64)) (fun d hd=>by obtain ⟨x,hx⟩:=hl d hd;exact ⟨x,hx⟩)
 exact ⟨m,by simp only [tb3]⟩
set_option maxHeartbeats 4000000 in
set_option maxRecDepth 100000 in
theorem Kt:bV En (fun v=> ∃x:fF,v=uE x) 110:=by
 have h:=dT al (T:=110) (by rw [qm]) (by rw [qm]) [(fun v=> ∃l:List Int,v=V.sl none 1 false (l.map (V.int .i64))),(fun v=> ∃n:Int,v=V.int .i64 n),(fun v=> ∃l:List Int,v=V.sl none 1 false (l.map (V.int .i64)))] (by rw [qm];exact ⟨Be,op3,Be,trivial⟩)
 rw [qm] at h
 refine h.mono ?_
 rintro v ⟨vs,h,rfl⟩
 obtain ⟨v0,vs0,rfl,⟨x0,h0⟩,h⟩:=bh h
 obtain ⟨v1,vs1,rfl,⟨x1,h1⟩,h⟩:=bh h
 obtain ⟨v2,vs2,rfl,⟨x2,h2⟩,h⟩:=bh h
 cases dU h
 exact ⟨⟨x0,x1,x2⟩,by subst h0 h1 h2;simp only [go_sem,db]⟩
set_option maxHeartbeats 4000000 in
set_option maxRecDepth 100000 in
theorem Ku:bV En (fun v=> ∃x:cU,v=bH x) 112:=by
 have h:=dT al (T:=112) (by rw [nu]) (by rw [nu]) [(fun v=> ∃n:Int,v=V.int .i64 n),(fun v=> ∃n:Int,v=V.int .i64 n),(fun v=> ∃x:fF,v=uE x)] (by rw [nu];exact ⟨op3,op3,Kt,trivial⟩)
 rw [nu] at h
 refine h.mono ?_
 rintro v ⟨vs,h,rfl⟩
 obtain ⟨v0,vs0,rfl,⟨x0,h0⟩,h⟩:=bh h
 obtain ⟨v1,vs1,rfl,⟨x1,h1⟩,h⟩:=bh h
 obtain ⟨v2,vs2,rfl,⟨x2,h2⟩,h⟩:=bh h
 cases dU h
 exact ⟨⟨x0,x1,x2⟩,by subst h0 h1 h2;simp only [go_sem,db]⟩
set_option maxHeartbeats 4000000 in
set_option maxRecDepth 100000 in
theorem Kv:bV En (fun v=> ∃l:List cU,v=V.sl none 5 true (l.map bH)) 33:=by
 have h:=lf al (T:=33) (Q:=(fun v=> ∃x:cU,v=bH x)) (by rw [qc]) (by rw [qc]) (by rw [qc];exact Ku)
 rw [qc] at h
 refine h.mono ?_
 rintro v ⟨l,hl,rfl⟩
 obtain ⟨m,rfl⟩:=iZ (f:=bH) (fun d hd=>by obtain ⟨x,hx⟩:=hl d hd;exact ⟨x,hx⟩)
 exact ⟨m,by simp only [nu]⟩
set_option maxHeartbeats 4000000 in
set_option maxRecDepth 100000 in
theorem Kw:bV En (fun v=> ∃x:b9,v=jB x) 35:=by
 have h:=dT al (T:=35) (by rw [lS]) (by rw [lS]) [(fun v=> ∃n:Int,v=V.int .i64 n),(fun v=> ∃l:List aR,v=V.sl none 80 true (l.map aY)),(fun v=> ∃l:List ce,v=V.sl none 81 true (l.map bz)),(fun v=> ∃l:List cU,v=V.sl none 5 true (l.map bH))] (by rw [lS];exact ⟨op3,Bd,Ks,Kv,trivial⟩)
 rw [lS] at h
 refine h.mono ?_
 rintro v ⟨vs,h,rfl⟩
 obtain ⟨v0,vs0,rfl,⟨x0,h0⟩,h⟩:=bh h
 obtain ⟨v1,vs1,rfl,⟨x1,h1⟩,h⟩:=bh h
 obtain ⟨v2,vs2,rfl,⟨x2,h2⟩,h⟩:=bh h
 obtain ⟨v3,vs3,rfl,⟨x3,h3⟩,h⟩:=bh h
 cases dU h
 exact ⟨⟨x0,x1,x2,x3⟩,by subst h0 h1 h2 h3;simp only [go_sem,db]⟩
set_option maxRecDepth 100000 in
theorem Kx (H:Type) (enc:TypeId×Value→H) (W:World) (base:Nat) (args:Array Value) (ds:List (DataW H)) (ps:List MemPlace) (hA:DataW.TrodAll enc En.P W 0 (fun _=>true) true Tryz.f3.params.toList args.toList ds ps)
  (hval: ∀(j:Nat) t v,Tryz.f3.params[j]? =some t→args[j]? =some v→Value.okWide En.P W .any base t v) (hb:Rows.uptoBulkAll ds≤1048576): ∃ws,rdT ro0 (gD W) ws args.toList∧bn En 3 ws (.bool true) []:=by
 rw [Tryz.params3] at hA hval
 obtain ⟨v0,vs0,d0,ds0,p0,q0,hargs,rfl,rfl,h0,r0⟩:=trodAll_cons hA
 obtain ⟨v1,vs1,d1,ds1,p1,q1,rfl,rfl,rfl,h1,r1⟩:=trodAll_cons r0
 obtain ⟨v2,vs2,d2,ds2,p2,q2,rfl,rfl,rfl,h2,r2⟩:=trodAll_cons r1
 obtain ⟨v3,vs3,d3,ds3,p3,q3,rfl,rfl,rfl,h3,r3⟩:=trodAll_cons r2
 obtain ⟨v4,vs4,d4,ds4,p4,q4,rfl,rfl,rfl,h4,r4⟩:=trodAll_cons r3
 obtain ⟨v5,vs5,d5,ds5,p5,q5,rfl,rfl,rfl,h5,r5⟩:=trodAll_cons r4
 obtain ⟨rfl,rfl,rfl⟩:=trodAll_nil r5
 obtain rfl:args= #[v0,v1,v2,v3,v4,v5]:=by cases args;simp_all
 simp only [Rows.uptoBulkAll] at hb
 obtain ⟨u0,⟨x0,rfl⟩,e0⟩:=mN al (T:=25) (by rw [lP]) (by rw [lP];decide) Ke (hval 0 25 v0 rfl rfl) h0 (by omega)
 obtain ⟨u1,⟨x1,rfl⟩,e1⟩:=mN al (T:=26) (by rw [lQ]) (by rw [lQ];decide) Kh (hval 1 26 v1 rfl rfl) h1 (by omega)
 obtain ⟨u2,⟨x2,rfl⟩,e2⟩:=mN al (T:=3) (by rw [tb3]) (by rw [tb3];decide) op3 (hval 2 3 v2 rfl rfl) h2 (by omega)
 obtain ⟨u3,⟨x3,rfl⟩,e3⟩:=mN al (T:=30) (by rw [jt]) (by rw [jt];decide) Bb (hval 3 30 v3 rfl rfl) h3 (by omega)
 obtain ⟨u4,⟨x4,rfl⟩,e4⟩:=mN al (T:=30) (by rw [jt]) (by rw [jt];decide) Bb (hval 4 30 v4 rfl rfl) h4 (by omega)
 obtain ⟨u5,⟨x5,rfl⟩,e5⟩:=mN al (T:=35) (by rw [lS]) (by rw [lS];decide) Kw (hval 5 35 v5 rfl rfl) h5 (by omega)
 refine ⟨[bQ x0,.sl none 11 true (x1.map bR),.int .i64 x2,cA x3,cA x4,jB x5],⟨v0,[v1,v2,v3,v4,v5],rfl,e0,v1,[v2,v3,v4,v5],rfl,e1,v2,[v3,v4,v5],rfl,e2,v3,[v4,v5],rfl,e3,v4,[v5],rfl,e4,v5,[],rfl,e5,rfl⟩,?_⟩
 have h:=(JQ x0 x1 x2 x3 x4 x5).ok
 rw [JX x0 x1 x2 x3 x4 x5] at h
 exact h
theorem Ky:ownKnob Tryz.prog.godebug=none:=by kernel_rfl
theorem Kz:laidOutB Tryz.prog=true:=by kernel_rfl
set_option maxRecDepth 100000 in
theorem KA: ∀t∈Tryz.f3.params.toList,Tryz.prog.readableRec t=true∧t<Tryz.prog.types.size:=by
 intro t ht
 rw [Tryz.params3] at ht
 simp only [List.mem_cons,List.not_mem_nil,or_false] at ht
 rcases ht with rfl|rfl|rfl|rfl|rfl|rfl<;>exact ⟨by kernel_rfl,of_decide_eq_true (by kernel_rfl)⟩
set_option maxRecDepth 100000 in
theorem KB (H:Type) (ds:List (DataW H)) (h:ds.length=Tryz.f3.params.toList.length):Rows.paymentBoundSpec.fn H ds={results:=[.lit (.bool true)],args:=ds}:=by
 rw [Tryz.params3] at h
 match ds,h with
 | [d0,d1,d2,d3,d4,d5],_=>rfl
def rT:Array Value:= #[.agg #[.int .i64 0,.int .i64 0,.int .i64 0,.int .i64 0,.int .i64 0,.int .i64 0],.slice none 0 0,.int .i64 0,.agg #[.int .u8 0,.int .u8 0,.int .u8 0,.int .u8 0,.int .u8 0,.int .u8 0,.int .u8 0,.int .u8 0,.int .u8 0,.int .u8 0,.int .u8 0,.int .u8 0,.int .u8 0,.int .u8 0,.int .u8 0,.int .u8 0,.int .u8 0,.int .u8 0,.int .u8 0,.int .u8 0,.int .u8 0,.int .u8 0,.int .u8 0,.int .u8 0,.int .u8 0,.int .u8 0,.int .u8 0,.int .u8 0,.int .u8 0,.int .u8 0,.int .u8 0,.int .u8 0,.int .i64 0,.int .i64 0,.int .i64 0],.agg #[.int .u8 0,.int .u8 0,.int .u8 0,.int .u8 0,.int .u8 0,.int .u8 0,.int .u8 0,.int .u8 0,.int .u8 0,.int .u8 0,.int .u8 0,.int .u8 0,.int .u8 0,.int .u8 0,.int .u8 0,.int .u8 0,.int .u8 0,.int .u8 0,.int .u8 0,.int .u8 0,.int .u8 0,.int .u8 0,.int .u8 0,.int .u8 0,.int .u8 0,.int .u8 0,.int .u8 0,.int .u8 0,.int .u8 0,.int .u8 0,.int .u8 0,.int .u8 0,.int .i64 0,.int .i64 0,.int .i64 0],.agg #[.int .i64 0,.slice none 0 0,.slice none 0 0,.slice none 0 0]]
theorem KC (os:Os):laidMetH Tryz.prog Rows.paymentBoundUptoRow.laid ((World.laidAll Tryz.prog os Rows.paymentBoundUptoRow.laid).forCall (fun _ _=>0) ⟨#[],rT,[]⟩).memory:=by
 rw [MakeChecks.laidMetH_plain _ _ _ (by kernel_rfl)]
 exact laidMet_laidAll _ (by kernel_rfl) (by kernel_rfl)
theorem KD (os:Os) {H:Type} (enc:TypeId×Value→H): ∃places,DataW.whole enc Tryz.prog ((World.laidAll Tryz.prog os Rows.paymentBoundUptoRow.laid).forCall (fun _ _=>0) ⟨#[],rT,[]⟩).memory Tryz.f3.params.toList Rows.paymentBoundSpec.vars false (rT:Array Value).toList 8=some ([.agg [.agg [.lit (.int .i64 0),.lit (.int .i64 0),.lit (.int .i64 0)],.lit (.int .i64 0),.lit (.int .i64 0),.lit (.int .i64 0)],.nil,.lit (.int .i64 0),.agg [.agg (List.replicate 32 (.lit (.int .u8 0))),.lit (.int .i64 0),.lit (.int .i64 0),.lit (.int .i64 0)],.agg [.agg (List.replicate 32 (.lit (.int .u8 0))),.lit (.int .i64 0),.lit (.int .i64 0),.lit (.int .i64 0)],.agg [.lit (.int .i64 0),.nil,.nil,.nil]],[],places):=⟨[],by kernel_rfl⟩
set_option maxRecDepth 100000 in
theorem KE (os:Os) (started:os.Started) (H:Type) (enc:TypeId×Value→H) (F:Stop.Interp):
  ReturnsInHanded {} Tryz.checked os 3 .any ((Rows.OpenSpec.upto Rows.paymentBoundSpec).preRow enc Tryz.prog Tryz.f3 Rows.paymentBoundUptoRow.domain false Rows.paymentBoundUptoRow.laid) (((Rows.OpenSpec.upto Rows.paymentBoundSpec).at F).post enc Tryz.prog Tryz.f3 false true false false):=by
 obtain ⟨places,hx⟩:=KD os enc
 refine returnsInHanded_of_row (C:=Tryz.checked) (s:=(Rows.OpenSpec.upto Rows.paymentBoundSpec)) Ky started (by kernel_rfl) Tryz.func3
  (witness_row_at (enc:=enc) (C:=Tryz.checked) false (World.laidAll Tryz.prog os Rows.paymentBoundUptoRow.laid) rT (World.laidAll_os _ _ _) (by kernel_rfl) (by kernel_rfl) (by kernel_rfl)
   (OpenSpec.preRow_of_cond 8 hx (by kernel_rfl) (fun k hk=>by cases hk;kernel_rfl) (by kernel_rfl) (KC os))) ?_
 intro W base args ds gs before hval hW _ hk _ hL hsh _
 exact Ka (E:=En) (bt:=4) Tryz.underlying4 rfl rfl Kz KA KB Kx H enc W base args ds gs before hval hW (hk _ rfl) rfl (Kc hL)
theorem KF {a b:Bool} (ha:a=true) (hb:b=true):(a&&b)=true:=by rw [ha,hb];rfl
theorem KG:(Rows.paymentBoundUptoRow.wf (OpenSpec.ofChange (Rows.OpenSpec.upto Rows.paymentBoundSpec).bare))=true:=by kernel_rfl
theorem KH:(laidOutB Tryz.prog)=true:=by kernel_rfl
theorem KI:(mapsRowed Tryz.prog)=true:=by kernel_rfl
theorem KJ:(Rows.paymentBoundUptoRow.inPlace==Tryz.prog.inPlace 3)=true:=by kernel_rfl
theorem KK:(Rows.paymentBoundUptoRow.unfollowed==Tryz.prog.unfollowed 3)=true:=by kernel_rfl
theorem KL:(Rows.paymentBoundUptoRow.recurses==Tryz.prog.recurses 3)=true:=by kernel_rfl
theorem KM:(Rows.paymentBoundUptoRow.named==Tryz.prog.varsNamed 3)=true:=by kernel_rfl
theorem KN:(Rows.paymentBoundUptoRow.plainKeys==Tryz.prog.plainKeys)=true:=by kernel_rfl
theorem KO:(Tryz.prog.stopsHeard)=true:=by kernel_rfl
theorem KP:(Tryz.prog.mayEnter)=true:=by kernel_rfl
theorem KQ:(Rows.paymentBoundUptoRow.lifted==Tryz.prog.liftsFinal)=true:=by kernel_rfl
theorem KR:joinedFacts Tryz.prog 3 Tryz.f3 (Rows.OpenSpec.upto Rows.paymentBoundSpec).bare Rows.paymentBoundUptoRow=true:=by
 unfold joinedFacts
 repeat' (with_reducible refine KF ?_ ?_)
 all_goals first|with_reducible exact KG|with_reducible exact KH|with_reducible exact KI|with_reducible exact KJ|with_reducible exact KK|with_reducible exact KL|with_reducible exact KM|with_reducible exact KN|with_reducible exact KO|with_reducible exact KP|with_reducible exact KQ|kernel_rfl
theorem KS:Rows.PaymentBoundUptoSaid:=
 OpenClaim.holds_of_cond 3 Tryz.f3 rfl rfl rfl rfl rfl rfl rfl ⟨rfl,rfl,rfl,rfl,rfl⟩ rfl rfl rfl rfl rfl (by kernel_rfl) Tryz.func3 KR
  (of_decide_eq_true (by kernel_rfl)) (by unfold Func.isWrapper;first|(rw [if_pos (by decide+kernel)];kernel_rfl)|(rw [if_neg (by decide+kernel)];exact ⟨rfl,rfl⟩))
  (fun os started H enc _ F=>by rw [OpenClaim.pre_eq_preRow];exact KE os started H enc F)
theorem KU (f:FuncId) (fn:Func) (hf:Tryz.pinned.checked.prog.funcNamed "specie/specielaw38.PaymentBound" =some f) (hfn:Tryz.pinned.checked.prog.funcs[f]? =some fn):
  false=Tryz.pinned.checked.prog.looks []∧ ∀(j:Nat) t,fn.params[j]? =some t→Tryz.pinned.checked.prog.wantsStandIn t=false:=by
 obtain rfl:f=3:=Option.some.inj ((show Tryz.prog.funcNamed "specie/specielaw38.PaymentBound" =some 3 by kernel_rfl).symm.trans hf)|>.symm
 obtain rfl:fn=Tryz.f3:=(Option.some.inj (Tryz.func3.symm.trans hfn)).symm
 refine ⟨by kernel_rfl,fun j t ht=> ?_⟩
 have hall:(Tryz.f3.params.toList.all fun u=> !Tryz.prog.wantsStandIn u)=true:=by kernel_rfl
 have h0:=List.all_eq_true.1 hall t (Array.mem_toList_iff.2 (Array.mem_of_getElem? ht))
 exact (show Tryz.prog.wantsStandIn t=false by simpa using h0)
theorem paymentBound_holds:Rows.PaymentBoundUptoCardSaid:=
 Claim7.holds_tied_plain_at .later [] _ _ _ _ KS (fun _ h=>by cases h) (by kernel_rfl) (fun _ h=>by cases h) paymentBoundUpto_row_tie rfl ⟨rfl,rfl⟩ (by kernel_rfl) rfl KU (by kernel_rfl)
end Go.Proofs.YtcbbjfckokckcaaGreatDoor
