/- PaymentAmounts: the law holds of what holds at most 1048576 values and letters together (printed by program, but for the law itself). -/
import Derived.Test.YtcbbjfckokckcaaGreatDoorZ15
import Derived.Test.YtcbbjfckokckcaaGreatDoorZ14
import Derived.Test.YtcbbjfckokckcaaGreatDoorCards
import Derived.Test.YtcbbjfckokckcaaGreatDoorTie
import Derived.Deep.DeepHandedRow
import Derived.Lay
import Derived.LaidMore
import Derived.SevenTiedAt
import Derived.Stop.Joined
namespace Go.Proofs.YtcbbjfckokckcaaGreatDoor
open Go.ChangeShapes Go.WideShapes Go.ChangeAt Go.RowKit
set_option maxHeartbeats 4000000 in
set_option maxRecDepth 100000 in
theorem op3:bV En (fun v=> ∃n:Int,v=V.int .i64 n) 3:=by
 have h:=Bj al (T:=3) (by rw [tb3]) (by rw [tb3])
 rw [tb3] at h
 exact h
set_option maxHeartbeats 4000000 in
set_option maxRecDepth 100000 in
theorem KE:bV En (fun v=> ∃x:aQ,v=uT x) 23:=by
 have h:=dW al (T:=23) (by rw [ql]) (by rw [ql]) [(fun v=> ∃n:Int,v=V.int .i64 n),(fun v=> ∃n:Int,v=V.int .i64 n),(fun v=> ∃n:Int,v=V.int .i64 n)] (by rw [ql];exact ⟨op3,op3,op3,trivial⟩)
 rw [ql] at h
 refine h.mono ?_
 rintro v ⟨vs,h,rfl⟩
 obtain ⟨v0,vs0,rfl,⟨x0,h0⟩,h⟩:=bh h
 obtain ⟨v1,vs1,rfl,⟨x1,h1⟩,h⟩:=bh h
 obtain ⟨v2,vs2,rfl,⟨x2,h2⟩,h⟩:=bh h
 cases dX h
 exact ⟨⟨x0,x1,x2⟩,by subst h0 h1 h2;simp only [go_sem,de]⟩
set_option maxHeartbeats 4000000 in
set_option maxRecDepth 100000 in
theorem KF:bV En (fun v=> ∃x:a8,v=bS x) 25:=by
 have h:=dW al (T:=25) (by rw [mi]) (by rw [mi]) [(fun v=> ∃x:aQ,v=uT x),(fun v=> ∃n:Int,v=V.int .i64 n),(fun v=> ∃n:Int,v=V.int .i64 n),(fun v=> ∃n:Int,v=V.int .i64 n)] (by rw [mi];exact ⟨KE,op3,op3,op3,trivial⟩)
 rw [mi] at h
 refine h.mono ?_
 rintro v ⟨vs,h,rfl⟩
 obtain ⟨v0,vs0,rfl,⟨x0,h0⟩,h⟩:=bh h
 obtain ⟨v1,vs1,rfl,⟨x1,h1⟩,h⟩:=bh h
 obtain ⟨v2,vs2,rfl,⟨x2,h2⟩,h⟩:=bh h
 obtain ⟨v3,vs3,rfl,⟨x3,h3⟩,h⟩:=bh h
 cases dX h
 exact ⟨⟨x0,x1,x2,x3⟩,by subst h0 h1 h2 h3;simp only [go_sem,de]⟩
set_option maxHeartbeats 4000000 in
set_option maxRecDepth 100000 in
theorem KG:bV En (fun v=> ∃x:ig,v=uU x) 62:=by
 have h:=dW al (T:=62) (by rw [qx]) (by rw [qx]) [(fun v=> ∃n:Int,v=V.int .i64 n),(fun v=> ∃n:Int,v=V.int .i64 n),(fun v=> ∃n:Int,v=V.int .i64 n)] (by rw [qx];exact ⟨op3,op3,op3,trivial⟩)
 rw [qx] at h
 refine h.mono ?_
 rintro v ⟨vs,h,rfl⟩
 obtain ⟨v0,vs0,rfl,⟨x0,h0⟩,h⟩:=bh h
 obtain ⟨v1,vs1,rfl,⟨x1,h1⟩,h⟩:=bh h
 obtain ⟨v2,vs2,rfl,⟨x2,h2⟩,h⟩:=bh h
 cases dX h
 exact ⟨⟨x0,x1,x2⟩,by subst h0 h1 h2;simp only [go_sem,de]⟩
set_option maxHeartbeats 4000000 in
set_option maxRecDepth 100000 in
theorem KH:bV En (fun v=> ∃x:bu,v=bJ x) 64:=by
 have h:=dW al (T:=64) (by rw [nK]) (by rw [nK]) [(fun v=> ∃n:Int,v=V.int .i64 n),(fun v=> ∃n:Int,v=V.int .i64 n),(fun v=> ∃n:Int,v=V.int .i64 n),(fun v=> ∃n:Int,v=V.int .i64 n),(fun v=> ∃n:Int,v=V.int .i64 n),(fun v=> ∃x:ig,v=uU x),(fun v=> ∃n:Int,v=V.int .i64 n),(fun v=> ∃n:Int,v=V.int .i64 n),(fun v=> ∃n:Int,v=V.int .i64 n)] (by rw [nK];exact ⟨op3,op3,op3,op3,op3,KG,op3,op3,op3,trivial⟩)
 rw [nK] at h
 refine h.mono ?_
 rintro v ⟨vs,h,rfl⟩
 obtain ⟨v0,vs0,rfl,⟨x0,h0⟩,h⟩:=bh h
 obtain ⟨v1,vs1,rfl,⟨x1,h1⟩,h⟩:=bh h
 obtain ⟨v2,vs2,rfl,⟨x2,h2⟩,h⟩:=bh h
 obtain ⟨v3,vs3,rfl,⟨x3,h3⟩,h⟩:=bh h
 obtain ⟨v4,vs4,rfl,⟨x4,h4⟩,h⟩:=bh h
 obtain ⟨v5,vs5,rfl,⟨x5,h5⟩,h⟩:=bh h
 obtain ⟨v6,vs6,rfl,⟨x6,h6⟩,h⟩:=bh h
 obtain ⟨v7,vs7,rfl,⟨x7,h7⟩,h⟩:=bh h
 obtain ⟨v8,vs8,rfl,⟨x8,h8⟩,h⟩:=bh h
 cases dX h
 exact ⟨⟨x0,x1,x2,x3,x4,x5,x6,x7,x8⟩,by subst h0 h1 h2 h3 h4 h5 h6 h7 h8;simp only [go_sem,de]⟩
set_option maxHeartbeats 4000000 in
set_option maxRecDepth 100000 in
theorem KI:bV En (fun v=> ∃l:List bu,v=V.sl none 11 true (l.map bJ)) 26:=by
 have h:=lE al (T:=26) (Q:=(fun v=> ∃x:bu,v=bJ x)) (by rw [mj]) (by rw [mj]) (by rw [mj];exact KH)
 rw [mj] at h
 refine h.mono ?_
 rintro v ⟨l,hl,rfl⟩
 obtain ⟨m,rfl⟩:=jj (f:=bJ) (fun d hd=>by obtain ⟨x,hx⟩:=hl d hd;exact ⟨x,hx⟩)
 exact ⟨m,by simp only [nK]⟩
set_option maxHeartbeats 4000000 in
set_option maxRecDepth 100000 in
theorem op5:bV En (fun v=> ∃n:Int,v=V.int .u8 n) 5:=by
 have h:=Bj al (T:=5) (by rw [tb5]) (by rw [tb5])
 rw [tb5] at h
 exact h
set_option maxHeartbeats 4000000 in
set_option maxRecDepth 100000 in
theorem r8:bV En (fun v=> ∃x:(List Int),v=aI x) 28:=by
 have h:=Ky al (T:=28) (Q:=(fun v=> ∃n:Int,v=V.int .u8 n)) (by rw [ml]) (by rw [ml]) (by rw [ml];exact op5)
 rw [ml] at h
 refine h.mono ?_
 rintro v ⟨l,hn,hl,rfl⟩
 obtain ⟨m,rfl⟩:=jj (f:=(V.int .u8)) (fun d hd=>by obtain ⟨x,hx⟩:=hl d hd;exact ⟨x,hx⟩)
 refine ⟨m,?_⟩
 have hm:m.length=32:=by simpa only [List.length_map,ml] using hn
 rw [KC (f:=(V.int .u8)) hm]
 simp only [tb5]
 rfl
set_option maxHeartbeats 4000000 in
set_option maxRecDepth 100000 in
theorem KJ:bV En (fun v=> ∃x:bO,v=cA x) 30:=by
 have h:=dW al (T:=30) (by rw [mm]) (by rw [mm]) [(fun v=> ∃x:(List Int),v=aI x),(fun v=> ∃n:Int,v=V.int .i64 n),(fun v=> ∃n:Int,v=V.int .i64 n),(fun v=> ∃n:Int,v=V.int .i64 n)] (by rw [mm];exact ⟨r8,op3,op3,op3,trivial⟩)
 rw [mm] at h
 refine h.mono ?_
 rintro v ⟨vs,h,rfl⟩
 obtain ⟨v0,vs0,rfl,⟨x0,h0⟩,h⟩:=bh h
 obtain ⟨v1,vs1,rfl,⟨x1,h1⟩,h⟩:=bh h
 obtain ⟨v2,vs2,rfl,⟨x2,h2⟩,h⟩:=bh h
 obtain ⟨v3,vs3,rfl,⟨x3,h3⟩,h⟩:=bh h
 cases dX h
 exact ⟨⟨x0,x1,x2,x3⟩,by subst h0 h1 h2 h3;simp only [go_sem,de]⟩
set_option maxHeartbeats 4000000 in
set_option maxRecDepth 100000 in
theorem KK:bV En (fun v=> ∃x:ia,v=uN x) 44:=by
 have h:=dW al (T:=44) (by rw [qp]) (by rw [qp]) [(fun v=> ∃n:Int,v=V.int .i64 n),(fun v=> ∃n:Int,v=V.int .i64 n),(fun v=> ∃n:Int,v=V.int .i64 n),(fun v=> ∃n:Int,v=V.int .i64 n)] (by rw [qp];exact ⟨op3,op3,op3,op3,trivial⟩)
 rw [qp] at h
 refine h.mono ?_
 rintro v ⟨vs,h,rfl⟩
 obtain ⟨v0,vs0,rfl,⟨x0,h0⟩,h⟩:=bh h
 obtain ⟨v1,vs1,rfl,⟨x1,h1⟩,h⟩:=bh h
 obtain ⟨v2,vs2,rfl,⟨x2,h2⟩,h⟩:=bh h
 obtain ⟨v3,vs3,rfl,⟨x3,h3⟩,h⟩:=bh h
 cases dX h
 exact ⟨⟨x0,x1,x2,x3⟩,by subst h0 h1 h2 h3;simp only [go_sem,de]⟩
set_option maxHeartbeats 4000000 in
set_option maxRecDepth 100000 in
theorem KL:bV En (fun v=> ∃x:bD,v=dm x) 46:=by
 have h:=dW al (T:=46) (by rw [qq]) (by rw [qq]) [(fun v=> ∃n:Int,v=V.int .i64 n),(fun v=> ∃n:Int,v=V.int .i64 n),(fun v=> ∃n:Int,v=V.int .i64 n),(fun v=> ∃n:Int,v=V.int .i64 n),(fun v=> ∃n:Int,v=V.int .i64 n),(fun v=> ∃x:(List Int),v=aI x),(fun v=> ∃x:ia,v=uN x)] (by rw [qq];exact ⟨op3,op3,op3,op3,op3,r8,KK,trivial⟩)
 rw [qq] at h
 refine h.mono ?_
 rintro v ⟨vs,h,rfl⟩
 obtain ⟨v0,vs0,rfl,⟨x0,h0⟩,h⟩:=bh h
 obtain ⟨v1,vs1,rfl,⟨x1,h1⟩,h⟩:=bh h
 obtain ⟨v2,vs2,rfl,⟨x2,h2⟩,h⟩:=bh h
 obtain ⟨v3,vs3,rfl,⟨x3,h3⟩,h⟩:=bh h
 obtain ⟨v4,vs4,rfl,⟨x4,h4⟩,h⟩:=bh h
 obtain ⟨v5,vs5,rfl,⟨x5,h5⟩,h⟩:=bh h
 obtain ⟨v6,vs6,rfl,⟨x6,h6⟩,h⟩:=bh h
 cases dX h
 exact ⟨⟨x0,x1,x2,x3,x4,x5,x6⟩,by subst h0 h1 h2 h3 h4 h5 h6;simp only [go_sem,de]⟩
set_option maxHeartbeats 4000000 in
set_option maxRecDepth 100000 in
theorem KM:bV En (fun v=> ∃x:gB,v=uO x) 48:=by
 have h:=dW al (T:=48) (by rw [qr]) (by rw [qr]) [(fun v=> ∃n:Int,v=V.int .i64 n),(fun v=> ∃n:Int,v=V.int .i64 n)] (by rw [qr];exact ⟨op3,op3,trivial⟩)
 rw [qr] at h
 refine h.mono ?_
 rintro v ⟨vs,h,rfl⟩
 obtain ⟨v0,vs0,rfl,⟨x0,h0⟩,h⟩:=bh h
 obtain ⟨v1,vs1,rfl,⟨x1,h1⟩,h⟩:=bh h
 cases dX h
 exact ⟨⟨x0,x1⟩,by subst h0 h1;simp only [go_sem,de]⟩
set_option maxHeartbeats 4000000 in
set_option maxRecDepth 100000 in
theorem KN:bV En (fun v=> ∃x:eK,v=ld x) 50:=by
 have h:=dW al (T:=50) (by rw [qt]) (by rw [qt]) [(fun v=> ∃x:(List Int),v=aI x),(fun v=> ∃n:Int,v=V.int .i64 n),(fun v=> ∃n:Int,v=V.int .i64 n)] (by rw [qt];exact ⟨r8,op3,op3,trivial⟩)
 rw [qt] at h
 refine h.mono ?_
 rintro v ⟨vs,h,rfl⟩
 obtain ⟨v0,vs0,rfl,⟨x0,h0⟩,h⟩:=bh h
 obtain ⟨v1,vs1,rfl,⟨x1,h1⟩,h⟩:=bh h
 obtain ⟨v2,vs2,rfl,⟨x2,h2⟩,h⟩:=bh h
 cases dX h
 exact ⟨⟨x0,x1,x2⟩,by subst h0 h1 h2;simp only [go_sem,de]⟩
set_option maxHeartbeats 4000000 in
set_option maxRecDepth 100000 in
theorem KO:bV En (fun v=> ∃x:fG,v=eL x) 123:=by
 have h:=dW al (T:=123) (by rw [nM]) (by rw [nM]) [(fun v=> ∃n:Int,v=V.int .i64 n),(fun v=> ∃n:Int,v=V.int .i64 n),(fun v=> ∃n:Int,v=V.int .i64 n)] (by rw [nM];exact ⟨op3,op3,op3,trivial⟩)
 rw [nM] at h
 refine h.mono ?_
 rintro v ⟨vs,h,rfl⟩
 obtain ⟨v0,vs0,rfl,⟨x0,h0⟩,h⟩:=bh h
 obtain ⟨v1,vs1,rfl,⟨x1,h1⟩,h⟩:=bh h
 obtain ⟨v2,vs2,rfl,⟨x2,h2⟩,h⟩:=bh h
 cases dX h
 exact ⟨⟨x0,x1,x2⟩,by subst h0 h1 h2;simp only [go_sem,de]⟩
set_option maxHeartbeats 4000000 in
set_option maxRecDepth 100000 in
theorem KP:bV En (fun v=> ∃l:List fG,v=V.sl none 3 true (l.map eL)) 51:=by
 have h:=lE al (T:=51) (Q:=(fun v=> ∃x:fG,v=eL x)) (by rw [qu]) (by rw [qu]) (by rw [qu];exact KO)
 rw [qu] at h
 refine h.mono ?_
 rintro v ⟨l,hl,rfl⟩
 obtain ⟨m,rfl⟩:=jj (f:=eL) (fun d hd=>by obtain ⟨x,hx⟩:=hl d hd;exact ⟨x,hx⟩)
 exact ⟨m,by simp only [nM]⟩
set_option maxHeartbeats 4000000 in
set_option maxRecDepth 100000 in
theorem KQ:bV En (fun v=> ∃l:List (List Int),v=V.sl none 32 true (l.map aI)) 52:=by
 have h:=lE al (T:=52) (Q:=(fun v=> ∃x:(List Int),v=aI x)) (by rw [qv]) (by rw [qv]) (by rw [qv];exact r8)
 rw [qv] at h
 refine h.mono ?_
 rintro v ⟨l,hl,rfl⟩
 obtain ⟨m,rfl⟩:=jj (f:=aI) (fun d hd=>by obtain ⟨x,hx⟩:=hl d hd;exact ⟨x,hx⟩)
 exact ⟨m,by simp only [ml]⟩
set_option maxHeartbeats 4000000 in
set_option maxRecDepth 100000 in
theorem KR:bV En (fun v=> ∃x:ic,v=uP x) 54:=by
 have h:=dW al (T:=54) (by rw [qw]) (by rw [qw]) [(fun v=> ∃n:Int,v=V.int .i64 n),(fun v=> ∃l:List (List Int),v=V.sl none 32 true (l.map aI))] (by rw [qw];exact ⟨op3,KQ,trivial⟩)
 rw [qw] at h
 refine h.mono ?_
 rintro v ⟨vs,h,rfl⟩
 obtain ⟨v0,vs0,rfl,⟨x0,h0⟩,h⟩:=bh h
 obtain ⟨v1,vs1,rfl,⟨x1,h1⟩,h⟩:=bh h
 cases dX h
 exact ⟨⟨x0,x1⟩,by subst h0 h1;simp only [go_sem,de]⟩
set_option maxHeartbeats 4000000 in
set_option maxRecDepth 100000 in
theorem Bn:bV En (fun v=> ∃x:aO,v=aT x) 56:=by
 have h:=dW al (T:=56) (by rw [nI]) (by rw [nI]) [(fun v=> ∃x:bD,v=dm x),(fun v=> ∃x:gB,v=uO x),(fun v=> ∃x:eK,v=ld x),(fun v=> ∃l:List fG,v=V.sl none 3 true (l.map eL)),(fun v=> ∃x:ic,v=uP x)] (by rw [nI];exact ⟨KL,KM,KN,KP,KR,trivial⟩)
 rw [nI] at h
 refine h.mono ?_
 rintro v ⟨vs,h,rfl⟩
 obtain ⟨v0,vs0,rfl,⟨x0,h0⟩,h⟩:=bh h
 obtain ⟨v1,vs1,rfl,⟨x1,h1⟩,h⟩:=bh h
 obtain ⟨v2,vs2,rfl,⟨x2,h2⟩,h⟩:=bh h
 obtain ⟨v3,vs3,rfl,⟨x3,h3⟩,h⟩:=bh h
 obtain ⟨v4,vs4,rfl,⟨x4,h4⟩,h⟩:=bh h
 cases dX h
 exact ⟨⟨x0,x1,x2,x3,x4⟩,by subst h0 h1 h2 h3 h4;simp only [go_sem,de]⟩
set_option maxHeartbeats 4000000 in
set_option maxRecDepth 100000 in
theorem Bo:bV En (fun v=> ∃l:List aO,v=V.sl none 80 true (l.map aT)) 31:=by
 have h:=lE al (T:=31) (Q:=(fun v=> ∃x:aO,v=aT x)) (by rw [qm]) (by rw [qm]) (by rw [qm];exact Bn)
 rw [qm] at h
 refine h.mono ?_
 rintro v ⟨l,hl,rfl⟩
 obtain ⟨m,rfl⟩:=jj (f:=aT) (fun d hd=>by obtain ⟨x,hx⟩:=hl d hd;exact ⟨x,hx⟩)
 exact ⟨m,by simp only [nI]⟩
set_option maxHeartbeats 4000000 in
set_option maxRecDepth 100000 in
theorem KS:bV En (fun v=> ∃x:bX,v=bv x) 58:=by
 have h:=dW al (T:=58) (by rw [nJ]) (by rw [nJ]) [(fun v=> ∃x:aO,v=aT x),(fun v=> ∃l:List aO,v=V.sl none 80 true (l.map aT))] (by rw [nJ];exact ⟨Bn,Bo,trivial⟩)
 rw [nJ] at h
 refine h.mono ?_
 rintro v ⟨vs,h,rfl⟩
 obtain ⟨v0,vs0,rfl,⟨x0,h0⟩,h⟩:=bh h
 obtain ⟨v1,vs1,rfl,⟨x1,h1⟩,h⟩:=bh h
 cases dX h
 exact ⟨⟨x0,x1⟩,by subst h0 h1;simp only [go_sem,de]⟩
set_option maxHeartbeats 4000000 in
set_option maxRecDepth 100000 in
theorem KU:bV En (fun v=> ∃l:List bX,v=V.sl none 81 true (l.map bv)) 32:=by
 have h:=lE al (T:=32) (Q:=(fun v=> ∃x:bX,v=bv x)) (by rw [qn]) (by rw [qn]) (by rw [qn];exact KS)
 rw [qn] at h
 refine h.mono ?_
 rintro v ⟨l,hl,rfl⟩
 obtain ⟨m,rfl⟩:=jj (f:=bv) (fun d hd=>by obtain ⟨x,hx⟩:=hl d hd;exact ⟨x,hx⟩)
 exact ⟨m,by simp only [nJ]⟩
set_option maxHeartbeats 4000000 in
set_option maxRecDepth 100000 in
theorem Bp:bV En (fun v=> ∃l:List Int,v=V.sl none 1 false (l.map (V.int .i64))) 79:=by
 have h:=lE al (T:=79) (Q:=(fun v=> ∃n:Int,v=V.int .i64 n)) (by rw [qy]) (by rw [qy]) (by rw [qy];exact op3)
 rw [qy] at h
 refine h.mono ?_
 rintro v ⟨l,hl,rfl⟩
 obtain ⟨m,rfl⟩:=jj (f:=(V.int .i64)) (fun d hd=>by obtain ⟨x,hx⟩:=hl d hd;exact ⟨x,hx⟩)
 exact ⟨m,by simp only [tb3]⟩
set_option maxHeartbeats 4000000 in
set_option maxRecDepth 100000 in
theorem KV:bV En (fun v=> ∃x:fH,v=uQ x) 110:=by
 have h:=dW al (T:=110) (by rw [qz]) (by rw [qz]) [(fun v=> ∃l:List Int,v=V.sl none 1 false (l.map (V.int .i64))),(fun v=> ∃n:Int,v=V.int .i64 n),(fun v=> ∃l:List Int,v=V.sl none 1 false (l.map (V.int .i64)))] (by rw [qz];exact ⟨Bp,op3,Bp,trivial⟩)
 rw [qz] at h
 refine h.mono ?_
 rintro v ⟨vs,h,rfl⟩
 obtain ⟨v0,vs0,rfl,⟨x0,h0⟩,h⟩:=bh h
 obtain ⟨v1,vs1,rfl,⟨x1,h1⟩,h⟩:=bh h
 obtain ⟨v2,vs2,rfl,⟨x2,h2⟩,h⟩:=bh h
 cases dX h
 exact ⟨⟨x0,x1,x2⟩,by subst h0 h1 h2;simp only [go_sem,de]⟩
set_option maxHeartbeats 4000000 in
set_option maxRecDepth 100000 in
theorem KW:bV En (fun v=> ∃x:cW,v=bG x) 112:=by
 have h:=dW al (T:=112) (by rw [nL]) (by rw [nL]) [(fun v=> ∃n:Int,v=V.int .i64 n),(fun v=> ∃n:Int,v=V.int .i64 n),(fun v=> ∃x:fH,v=uQ x)] (by rw [nL];exact ⟨op3,op3,KV,trivial⟩)
 rw [nL] at h
 refine h.mono ?_
 rintro v ⟨vs,h,rfl⟩
 obtain ⟨v0,vs0,rfl,⟨x0,h0⟩,h⟩:=bh h
 obtain ⟨v1,vs1,rfl,⟨x1,h1⟩,h⟩:=bh h
 obtain ⟨v2,vs2,rfl,⟨x2,h2⟩,h⟩:=bh h
 cases dX h
 exact ⟨⟨x0,x1,x2⟩,by subst h0 h1 h2;simp only [go_sem,de]⟩
set_option maxHeartbeats 4000000 in
set_option maxRecDepth 100000 in
theorem KX:bV En (fun v=> ∃l:List cW,v=V.sl none 5 true (l.map bG)) 33:=by
 have h:=lE al (T:=33) (Q:=(fun v=> ∃x:cW,v=bG x)) (by rw [qo]) (by rw [qo]) (by rw [qo];exact KW)
 rw [qo] at h
 refine h.mono ?_
 rintro v ⟨l,hl,rfl⟩
 obtain ⟨m,rfl⟩:=jj (f:=bG) (fun d hd=>by obtain ⟨x,hx⟩:=hl d hd;exact ⟨x,hx⟩)
 exact ⟨m,by simp only [nL]⟩
set_option maxHeartbeats 4000000 in
set_option maxRecDepth 100000 in
theorem KY:bV En (fun v=> ∃x:bR,v=jQ x) 35:=by
 have h:=dW al (T:=35) (by rw [mn]) (by rw [mn]) [(fun v=> ∃n:Int,v=V.int .i64 n),(fun v=> ∃l:List aO,v=V.sl none 80 true (l.map aT)),(fun v=> ∃l:List bX,v=V.sl none 81 true (l.map bv)),(fun v=> ∃l:List cW,v=V.sl none 5 true (l.map bG))] (by rw [mn];exact ⟨op3,Bo,KU,KX,trivial⟩)
 rw [mn] at h
 refine h.mono ?_
 rintro v ⟨vs,h,rfl⟩
 obtain ⟨v0,vs0,rfl,⟨x0,h0⟩,h⟩:=bh h
 obtain ⟨v1,vs1,rfl,⟨x1,h1⟩,h⟩:=bh h
 obtain ⟨v2,vs2,rfl,⟨x2,h2⟩,h⟩:=bh h
 obtain ⟨v3,vs3,rfl,⟨x3,h3⟩,h⟩:=bh h
 cases dX h
 exact ⟨⟨x0,x1,x2,x3⟩,by subst h0 h1 h2 h3;simp only [go_sem,de]⟩
set_option maxRecDepth 100000 in
theorem KZ (H:Type) (enc:TypeId×Value→H) (W:World) (base:Nat) (args:Array Value) (ds:List (DataW H)) (ps:List MemPlace) (hA:DataW.TrodAll enc En.P W 0 (fun _=>true) true Tryz.f4.params.toList args.toList ds ps)
  (hval: ∀(j:Nat) t v,Tryz.f4.params[j]? =some t→args[j]? =some v→Value.okWide En.P W .any base t v) (hb:Rows.uptoBulkAll ds≤1048576): ∃ws,rdT ro0 (gJ W) ws args.toList∧bk En 4 ws (.bool true) []:=by
 rw [Tryz.params4] at hA hval
 obtain ⟨v0,vs0,d0,ds0,p0,q0,hargs,rfl,rfl,h0,r0⟩:=trodAll_cons hA
 obtain ⟨v1,vs1,d1,ds1,p1,q1,rfl,rfl,rfl,h1,r1⟩:=trodAll_cons r0
 obtain ⟨v2,vs2,d2,ds2,p2,q2,rfl,rfl,rfl,h2,r2⟩:=trodAll_cons r1
 obtain ⟨v3,vs3,d3,ds3,p3,q3,rfl,rfl,rfl,h3,r3⟩:=trodAll_cons r2
 obtain ⟨v4,vs4,d4,ds4,p4,q4,rfl,rfl,rfl,h4,r4⟩:=trodAll_cons r3
 obtain ⟨rfl,rfl,rfl⟩:=trodAll_nil r4
 obtain rfl:args= #[v0,v1,v2,v3,v4]:=by cases args;simp_all
 simp only [Rows.uptoBulkAll] at hb
 obtain ⟨u0,⟨x0,rfl⟩,e0⟩:=oN al (T:=25) (by rw [mi]) (by rw [mi];decide) KF (hval 0 25 v0 rfl rfl) h0 (by omega)
 obtain ⟨u1,⟨x1,rfl⟩,e1⟩:=oN al (T:=26) (by rw [mj]) (by rw [mj];decide) KI (hval 1 26 v1 rfl rfl) h1 (by omega)
 obtain ⟨u2,⟨x2,rfl⟩,e2⟩:=oN al (T:=3) (by rw [tb3]) (by rw [tb3];decide) op3 (hval 2 3 v2 rfl rfl) h2 (by omega)
 obtain ⟨u3,⟨x3,rfl⟩,e3⟩:=oN al (T:=30) (by rw [mm]) (by rw [mm];decide) KJ (hval 3 30 v3 rfl rfl) h3 (by omega)
 obtain ⟨u4,⟨x4,rfl⟩,e4⟩:=oN al (T:=35) (by rw [mn]) (by rw [mn];decide) KY (hval 4 35 v4 rfl rfl) h4 (by omega)
 refine ⟨[bS x0,.sl none 11 true (x1.map bJ),.int .i64 x2,cA x3,jQ x4],⟨v0,[v1,v2,v3,v4],rfl,e0,v1,[v2,v3,v4],rfl,e1,v2,[v3,v4],rfl,e2,v3,[v4],rfl,e3,v4,[],rfl,e4,rfl⟩,?_⟩
 have h:=(J3 x0 x1 x2 x3 x4).ok
 rw [Km x0 x1 x2 x3 x4] at h
 exact h
theorem K0:ownKnob Tryz.prog.godebug=none:=by kernel_rfl
theorem K1:laidOutB Tryz.prog=true:=by kernel_rfl
set_option maxRecDepth 100000 in
theorem K2: ∀t∈Tryz.f4.params.toList,Tryz.prog.readableRec t=true∧t<Tryz.prog.types.size:=by
 intro t ht
 rw [Tryz.params4] at ht
 simp only [List.mem_cons,List.not_mem_nil,or_false] at ht
 rcases ht with rfl|rfl|rfl|rfl|rfl<;>exact ⟨by kernel_rfl,of_decide_eq_true (by kernel_rfl)⟩
set_option maxRecDepth 100000 in
theorem K3 (H:Type) (ds:List (DataW H)) (h:ds.length=Tryz.f4.params.toList.length):Rows.paymentAmountsSpec.fn H ds={results:=[.lit (.bool true)],args:=ds}:=by
 rw [Tryz.params4] at h
 match ds,h with
 | [d0,d1,d2,d3,d4],_=>rfl
def r9:Array Value:= #[.agg #[.int .i64 0,.int .i64 0,.int .i64 0,.int .i64 0,.int .i64 0,.int .i64 0],.slice none 0 0,.int .i64 0,.agg #[.int .u8 0,.int .u8 0,.int .u8 0,.int .u8 0,.int .u8 0,.int .u8 0,.int .u8 0,.int .u8 0,.int .u8 0,.int .u8 0,.int .u8 0,.int .u8 0,.int .u8 0,.int .u8 0,.int .u8 0,.int .u8 0,.int .u8 0,.int .u8 0,.int .u8 0,.int .u8 0,.int .u8 0,.int .u8 0,.int .u8 0,.int .u8 0,.int .u8 0,.int .u8 0,.int .u8 0,.int .u8 0,.int .u8 0,.int .u8 0,.int .u8 0,.int .u8 0,.int .i64 0,.int .i64 0,.int .i64 0],.agg #[.int .i64 0,.slice none 0 0,.slice none 0 0,.slice none 0 0]]
theorem K6 (os:Os):laidMetH Tryz.prog Rows.paymentAmountsUptoRow.laid ((World.laidAll Tryz.prog os Rows.paymentAmountsUptoRow.laid).forCall (fun _ _=>0) ⟨#[],r9,[]⟩).memory:=by
 rw [MakeChecks.laidMetH_plain _ _ _ (by kernel_rfl)]
 exact laidMet_laidAll _ (by kernel_rfl) (by kernel_rfl)
theorem K7 (os:Os) {H:Type} (enc:TypeId×Value→H): ∃places,DataW.whole enc Tryz.prog ((World.laidAll Tryz.prog os Rows.paymentAmountsUptoRow.laid).forCall (fun _ _=>0) ⟨#[],r9,[]⟩).memory Tryz.f4.params.toList Rows.paymentAmountsSpec.vars false (r9:Array Value).toList 8=some ([.agg [.agg [.lit (.int .i64 0),.lit (.int .i64 0),.lit (.int .i64 0)],.lit (.int .i64 0),.lit (.int .i64 0),.lit (.int .i64 0)],.nil,.lit (.int .i64 0),.agg [.agg (List.replicate 32 (.lit (.int .u8 0))),.lit (.int .i64 0),.lit (.int .i64 0),.lit (.int .i64 0)],.agg [.lit (.int .i64 0),.nil,.nil,.nil]],[],places):=⟨[],by kernel_rfl⟩
set_option maxRecDepth 100000 in
theorem K8 (os:Os) (started:os.Started) (H:Type) (enc:TypeId×Value→H) (F:Stop.Interp):
  ReturnsInHanded {} Tryz.checked os 4 .any ((Rows.OpenSpec.upto Rows.paymentAmountsSpec).preRow enc Tryz.prog Tryz.f4 Rows.paymentAmountsUptoRow.domain false Rows.paymentAmountsUptoRow.laid) (((Rows.OpenSpec.upto Rows.paymentAmountsSpec).at F).post enc Tryz.prog Tryz.f4 false true false false):=by
 obtain ⟨places,hx⟩:=K7 os enc
 refine returnsInHanded_of_row (C:=Tryz.checked) (s:=(Rows.OpenSpec.upto Rows.paymentAmountsSpec)) K0 started (by kernel_rfl) Tryz.func4
  (witness_row_at (enc:=enc) (C:=Tryz.checked) false (World.laidAll Tryz.prog os Rows.paymentAmountsUptoRow.laid) r9 (World.laidAll_os _ _ _) (by kernel_rfl) (by kernel_rfl) (by kernel_rfl)
   (OpenSpec.preRow_of_cond 8 hx (by kernel_rfl) (fun k hk=>by cases hk;kernel_rfl) (by kernel_rfl) (K6 os))) ?_
 intro W base args ds gs before hval hW _ hk _ hL hsh _
 exact KB (E:=En) (bt:=4) Tryz.underlying4 rfl rfl K1 K2 K3 KZ H enc W base args ds gs before hval hW (hk _ rfl) rfl (KD hL)
theorem K_ {a b:Bool} (ha:a=true) (hb:b=true):(a&&b)=true:=by rw [ha,hb];rfl
theorem La:(Rows.paymentAmountsUptoRow.wf (OpenSpec.ofChange (Rows.OpenSpec.upto Rows.paymentAmountsSpec).bare))=true:=by kernel_rfl
theorem Lb:(laidOutB Tryz.prog)=true:=by kernel_rfl
theorem Lc:(mapsRowed Tryz.prog)=true:=by kernel_rfl
theorem Ld:(Rows.paymentAmountsUptoRow.inPlace==Tryz.prog.inPlace 4)=true:=by kernel_rfl
theorem Le:(Rows.paymentAmountsUptoRow.unfollowed==Tryz.prog.unfollowed 4)=true:=by kernel_rfl
theorem Lf:(Rows.paymentAmountsUptoRow.recurses==Tryz.prog.recurses 4)=true:=by kernel_rfl
theorem Lg:(Rows.paymentAmountsUptoRow.named==Tryz.prog.varsNamed 4)=true:=by kernel_rfl
theorem Lh:(Rows.paymentAmountsUptoRow.plainKeys==Tryz.prog.plainKeys)=true:=by kernel_rfl
theorem Li:(Tryz.prog.stopsHeard)=true:=by kernel_rfl
theorem Lj:(Tryz.prog.mayEnter)=true:=by kernel_rfl
theorem Lk:(Rows.paymentAmountsUptoRow.lifted==Tryz.prog.liftsFinal)=true:=by kernel_rfl
theorem Ll:joinedFacts Tryz.prog 4 Tryz.f4 (Rows.OpenSpec.upto Rows.paymentAmountsSpec).bare Rows.paymentAmountsUptoRow=true:=by
 unfold joinedFacts
 repeat' (with_reducible refine K_ ?_ ?_)
 all_goals first|with_reducible exact La|with_reducible exact Lb|with_reducible exact Lc|with_reducible exact Ld|with_reducible exact Le|with_reducible exact Lf|with_reducible exact Lg|with_reducible exact Lh|with_reducible exact Li|with_reducible exact Lj|with_reducible exact Lk|kernel_rfl
theorem Lm:Rows.PaymentAmountsUptoSaid:=
 OpenClaim.holds_of_cond 4 Tryz.f4 rfl rfl rfl rfl rfl rfl rfl ⟨rfl,rfl,rfl,rfl,rfl⟩ rfl rfl rfl rfl rfl (by kernel_rfl) Tryz.func4 Ll
  (of_decide_eq_true (by kernel_rfl)) (by unfold Func.isWrapper;first|(rw [if_pos (by decide+kernel)];kernel_rfl)|(rw [if_neg (by decide+kernel)];exact ⟨rfl,rfl⟩))
  (fun os started H enc _ F=>by rw [OpenClaim.pre_eq_preRow];exact K8 os started H enc F)
theorem Ln (f:FuncId) (fn:Func) (hf:Tryz.pinned.checked.prog.funcNamed "specie/specielaw38.PaymentAmounts" =some f) (hfn:Tryz.pinned.checked.prog.funcs[f]? =some fn):
  false=Tryz.pinned.checked.prog.looks []∧ ∀(j:Nat) t,fn.params[j]? =some t→Tryz.pinned.checked.prog.wantsStandIn t=false:=by
 obtain rfl:f=4:=Option.some.inj ((show Tryz.prog.funcNamed "specie/specielaw38.PaymentAmounts" =some 4 by kernel_rfl).symm.trans hf)|>.symm
 obtain rfl:fn=Tryz.f4:=(Option.some.inj (Tryz.func4.symm.trans hfn)).symm
 refine ⟨by kernel_rfl,fun j t ht=> ?_⟩
 have hall:(Tryz.f4.params.toList.all fun u=> !Tryz.prog.wantsStandIn u)=true:=by kernel_rfl
 have h0:=List.all_eq_true.1 hall t (Array.mem_toList_iff.2 (Array.mem_of_getElem? ht))
 exact (show Tryz.prog.wantsStandIn t=false by simpa using h0)
theorem paymentAmounts_holds:Rows.PaymentAmountsUptoCardSaid:=
 Claim7.holds_tied_plain_at .later [] _ _ _ _ Lm (fun _ h=>by cases h) (by kernel_rfl) (fun _ h=>by cases h) paymentAmountsUpto_row_tie rfl ⟨rfl,rfl⟩ (by kernel_rfl) rfl Ln (by kernel_rfl)
end Go.Proofs.YtcbbjfckokckcaaGreatDoor
