/- PurseCrash: the law holds of what holds at most 1048576 values and letters together (printed by program, but for the law itself). -/
import Derived.Test.YtlmleoeemmhboaaGreatDoorZ13
import Derived.Test.YtlmleoeemmhboaaGreatDoorZ11
import Derived.Test.YtlmleoeemmhboaaGreatDoorZ12
import Derived.Test.YtlmleoeemmhboaaGreatDoorCards
import Derived.Test.YtlmleoeemmhboaaGreatDoorTie
import Derived.Deep.DeepHandedRow
import Derived.Lay
import Derived.LaidMore
import Derived.SevenTiedAt
import Derived.Stop.Joined
namespace Go.Proofs.YtlmleoeemmhboaaGreatDoor
open Go.ChangeShapes Go.WideShapes Go.ChangeAt Go.RowKit
set_option maxHeartbeats 4000000 in
set_option maxRecDepth 100000 in
theorem op3:bM En (fun v=> ∃n:Int,v=V.int .i64 n) 3:=by
 have h:=AZ aA (T:=3) (by rw [tb3]) (by rw [tb3])
 rw [tb3] at h
 exact h
set_option maxHeartbeats 4000000 in
set_option maxRecDepth 100000 in
theorem op5:bM En (fun v=> ∃n:Int,v=V.int .u8 n) 5:=by
 have h:=AZ aA (T:=5) (by rw [tb5]) (by rw [tb5])
 rw [tb5] at h
 exact h
set_option maxHeartbeats 4000000 in
set_option maxRecDepth 100000 in
theorem rU:bM En (fun v=> ∃x:(List Int),v=bP x) 28:=by
 have h:=A0 aA (T:=28) (Q:=(fun v=> ∃n:Int,v=V.int .u8 n)) (by rw [l3]) (by rw [l3]) (by rw [l3];exact op5)
 rw [l3] at h
 refine h.mono ?_
 rintro v ⟨l,hn,hl,rfl⟩
 obtain ⟨m,rfl⟩:=hP (f:=(V.int .u8)) (fun d hd=>by obtain ⟨x,hx⟩:=hl d hd;exact ⟨x,hx⟩)
 refine ⟨m,?_⟩
 have hm:m.length=32:=by simpa only [List.length_map,l3] using hn
 rw [A3 (f:=(V.int .u8)) hm]
 simp only [tb5]
 rfl
set_option maxHeartbeats 4000000 in
set_option maxRecDepth 100000 in
theorem J9:bM En (fun v=> ∃x:kS,v=uC x) 76:=by
 have h:=fz aA (T:=76) (by rw [qw]) (by rw [qw]) [(fun v=> ∃n:Int,v=V.int .i64 n),(fun v=> ∃n:Int,v=V.int .i64 n),(fun v=> ∃n:Int,v=V.int .i64 n),(fun v=> ∃n:Int,v=V.int .i64 n)] (by rw [qw];exact ⟨op3,op3,op3,op3,trivial⟩)
 rw [qw] at h
 refine h.mono ?_
 rintro v ⟨vs,h,rfl⟩
 obtain ⟨v0,vs0,rfl,⟨x0,h0⟩,h⟩:=bl h
 obtain ⟨v1,vs1,rfl,⟨x1,h1⟩,h⟩:=bl h
 obtain ⟨v2,vs2,rfl,⟨x2,h2⟩,h⟩:=bl h
 obtain ⟨v3,vs3,rfl,⟨x3,h3⟩,h⟩:=bl h
 cases fA h
 exact ⟨⟨x0,x1,x2,x3⟩,by subst h0 h1 h2 h3;simp only [go_sem,dB]⟩
set_option maxHeartbeats 4000000 in
set_option maxRecDepth 100000 in
theorem vH:bM En (fun v=> ∃x:bV,v=dM x) 78:=by
 have h:=fz aA (T:=78) (by rw [qx]) (by rw [qx]) [(fun v=> ∃n:Int,v=V.int .i64 n),(fun v=> ∃n:Int,v=V.int .i64 n),(fun v=> ∃n:Int,v=V.int .i64 n),(fun v=> ∃n:Int,v=V.int .i64 n),(fun v=> ∃n:Int,v=V.int .i64 n),(fun v=> ∃x:(List Int),v=bP x),(fun v=> ∃x:kS,v=uC x)] (by rw [qx];exact ⟨op3,op3,op3,op3,op3,rU,J9,trivial⟩)
 rw [qx] at h
 refine h.mono ?_
 rintro v ⟨vs,h,rfl⟩
 obtain ⟨v0,vs0,rfl,⟨x0,h0⟩,h⟩:=bl h
 obtain ⟨v1,vs1,rfl,⟨x1,h1⟩,h⟩:=bl h
 obtain ⟨v2,vs2,rfl,⟨x2,h2⟩,h⟩:=bl h
 obtain ⟨v3,vs3,rfl,⟨x3,h3⟩,h⟩:=bl h
 obtain ⟨v4,vs4,rfl,⟨x4,h4⟩,h⟩:=bl h
 obtain ⟨v5,vs5,rfl,⟨x5,h5⟩,h⟩:=bl h
 obtain ⟨v6,vs6,rfl,⟨x6,h6⟩,h⟩:=bl h
 cases fA h
 exact ⟨⟨x0,x1,x2,x3,x4,x5,x6⟩,by subst h0 h1 h2 h3 h4 h5 h6;simp only [go_sem,dB]⟩
set_option maxHeartbeats 4000000 in
set_option maxRecDepth 100000 in
theorem J_:bM En (fun v=> ∃x:(List Int),v=(fun l=> .agg [.int .i64 (gt l 0),.int .i64 (gt l 1)]) x) 163:=by
 have h:=A0 aA (T:=163) (Q:=(fun v=> ∃n:Int,v=V.int .i64 n)) (by rw [l4]) (by rw [l4]) (by rw [l4];exact op3)
 rw [l4] at h
 refine h.mono ?_
 rintro v ⟨l,hn,hl,rfl⟩
 obtain ⟨m,rfl⟩:=hP (f:=(V.int .i64)) (fun d hd=>by obtain ⟨x,hx⟩:=hl d hd;exact ⟨x,hx⟩)
 refine ⟨m,?_⟩
 have hm:m.length=2:=by simpa only [List.length_map,l4] using hn
 rw [A3 (f:=(V.int .i64)) hm]
 simp only [tb3]
 rfl
set_option maxHeartbeats 4000000 in
set_option maxRecDepth 100000 in
theorem Ka:bM En (fun v=> ∃l:List (List Int),v=V.sl none 2 true (l.map (fun l=> .agg [.int .i64 (gt l 0),.int .i64 (gt l 1)]))) 68:=by
 have h:=kh aA (T:=68) (Q:=(fun v=> ∃x:(List Int),v=(fun l=> .agg [.int .i64 (gt l 0),.int .i64 (gt l 1)]) x)) (by rw [qr]) (by rw [qr]) (by rw [qr];exact J_)
 rw [qr] at h
 refine h.mono ?_
 rintro v ⟨l,hl,rfl⟩
 obtain ⟨m,rfl⟩:=hP (f:=(fun l=> .agg [.int .i64 (gt l 0),.int .i64 (gt l 1)])) (fun d hd=>by obtain ⟨x,hx⟩:=hl d hd;exact ⟨x,hx⟩)
 exact ⟨m,by simp only [l4]⟩
set_option maxHeartbeats 4000000 in
set_option maxRecDepth 100000 in
theorem A5:bM En (fun v=> ∃x:cH,v=qU x) 70:=by
 have h:=fz aA (T:=70) (by rw [qt]) (by rw [qt]) [(fun v=> ∃n:Int,v=V.int .i64 n),(fun v=> ∃n:Int,v=V.int .i64 n),(fun v=> ∃l:List (List Int),v=V.sl none 2 true (l.map (fun l=> .agg [.int .i64 (gt l 0),.int .i64 (gt l 1)])))] (by rw [qt];exact ⟨op3,op3,Ka,trivial⟩)
 rw [qt] at h
 refine h.mono ?_
 rintro v ⟨vs,h,rfl⟩
 obtain ⟨v0,vs0,rfl,⟨x0,h0⟩,h⟩:=bl h
 obtain ⟨v1,vs1,rfl,⟨x1,h1⟩,h⟩:=bl h
 obtain ⟨v2,vs2,rfl,⟨x2,h2⟩,h⟩:=bl h
 cases fA h
 exact ⟨⟨x0,x1,x2⟩,by subst h0 h1 h2;simp only [go_sem,dB]⟩
set_option maxHeartbeats 4000000 in
set_option maxRecDepth 100000 in
theorem op4:bM En (fun v=> ∃b:Bool,v=V.bool b) 4:=by
 have h:=J4 aA (T:=4) (by rw [tb4]) (by rw [tb4])
 exact h
set_option maxHeartbeats 4000000 in
set_option maxRecDepth 100000 in
theorem Kb:bM En (fun v=> ∃l:List Bool,v=V.sl none 1 false (l.map V.bool)) 83:=by
 have h:=kh aA (T:=83) (Q:=(fun v=> ∃b:Bool,v=V.bool b)) (by rw [qy]) (by rw [qy]) (by rw [qy];exact op4)
 rw [qy] at h
 refine h.mono ?_
 rintro v ⟨l,hl,rfl⟩
 obtain ⟨m,rfl⟩:=hP (f:=V.bool) (fun d hd=>by obtain ⟨x,hx⟩:=hl d hd;exact ⟨x,hx⟩)
 exact ⟨m,by simp only [tb4]⟩
set_option maxHeartbeats 4000000 in
set_option maxRecDepth 100000 in
theorem Kc:bM En (fun v=> ∃x:jN,v=uD x) 89:=by
 have h:=fz aA (T:=89) (by rw [qA]) (by rw [qA]) [(fun v=> ∃n:Int,v=V.int .i64 n),(fun v=> ∃n:Int,v=V.int .i64 n)] (by rw [qA];exact ⟨op3,op3,trivial⟩)
 rw [qA] at h
 refine h.mono ?_
 rintro v ⟨vs,h,rfl⟩
 obtain ⟨v0,vs0,rfl,⟨x0,h0⟩,h⟩:=bl h
 obtain ⟨v1,vs1,rfl,⟨x1,h1⟩,h⟩:=bl h
 cases fA h
 exact ⟨⟨x0,x1⟩,by subst h0 h1;simp only [go_sem,dB]⟩
set_option maxHeartbeats 4000000 in
set_option maxRecDepth 100000 in
theorem Kd:bM En (fun v=> ∃x:iB,v=uE x) 91:=by
 have h:=fz aA (T:=91) (by rw [qB]) (by rw [qB]) [(fun v=> ∃x:(List Int),v=bP x),(fun v=> ∃n:Int,v=V.int .i64 n),(fun v=> ∃n:Int,v=V.int .i64 n)] (by rw [qB];exact ⟨rU,op3,op3,trivial⟩)
 rw [qB] at h
 refine h.mono ?_
 rintro v ⟨vs,h,rfl⟩
 obtain ⟨v0,vs0,rfl,⟨x0,h0⟩,h⟩:=bl h
 obtain ⟨v1,vs1,rfl,⟨x1,h1⟩,h⟩:=bl h
 obtain ⟨v2,vs2,rfl,⟨x2,h2⟩,h⟩:=bl h
 cases fA h
 exact ⟨⟨x0,x1,x2⟩,by subst h0 h1 h2;simp only [go_sem,dB]⟩
set_option maxHeartbeats 4000000 in
set_option maxRecDepth 100000 in
theorem Ke:bM En (fun v=> ∃x:cA,v=eK x) 213:=by
 have h:=fz aA (T:=213) (by rw [nO]) (by rw [nO]) [(fun v=> ∃n:Int,v=V.int .i64 n),(fun v=> ∃n:Int,v=V.int .i64 n),(fun v=> ∃n:Int,v=V.int .i64 n)] (by rw [nO];exact ⟨op3,op3,op3,trivial⟩)
 rw [nO] at h
 refine h.mono ?_
 rintro v ⟨vs,h,rfl⟩
 obtain ⟨v0,vs0,rfl,⟨x0,h0⟩,h⟩:=bl h
 obtain ⟨v1,vs1,rfl,⟨x1,h1⟩,h⟩:=bl h
 obtain ⟨v2,vs2,rfl,⟨x2,h2⟩,h⟩:=bl h
 cases fA h
 exact ⟨⟨x0,x1,x2⟩,by subst h0 h1 h2;simp only [go_sem,dB]⟩
set_option maxHeartbeats 4000000 in
set_option maxRecDepth 100000 in
theorem Kf:bM En (fun v=> ∃l:List cA,v=V.sl none 3 true (l.map eK)) 92:=by
 have h:=kh aA (T:=92) (Q:=(fun v=> ∃x:cA,v=eK x)) (by rw [qC]) (by rw [qC]) (by rw [qC];exact Ke)
 rw [qC] at h
 refine h.mono ?_
 rintro v ⟨l,hl,rfl⟩
 obtain ⟨m,rfl⟩:=hP (f:=eK) (fun d hd=>by obtain ⟨x,hx⟩:=hl d hd;exact ⟨x,hx⟩)
 exact ⟨m,by simp only [nO]⟩
set_option maxHeartbeats 4000000 in
set_option maxRecDepth 100000 in
theorem Kg:bM En (fun v=> ∃l:List (List Int),v=V.sl none 32 true (l.map bP)) 93:=by
 have h:=kh aA (T:=93) (Q:=(fun v=> ∃x:(List Int),v=bP x)) (by rw [qD]) (by rw [qD]) (by rw [qD];exact rU)
 rw [qD] at h
 refine h.mono ?_
 rintro v ⟨l,hl,rfl⟩
 obtain ⟨m,rfl⟩:=hP (f:=bP) (fun d hd=>by obtain ⟨x,hx⟩:=hl d hd;exact ⟨x,hx⟩)
 exact ⟨m,by simp only [l3]⟩
set_option maxHeartbeats 4000000 in
set_option maxRecDepth 100000 in
theorem Kh:bM En (fun v=> ∃x:gu,v=uF x) 95:=by
 have h:=fz aA (T:=95) (by rw [qE]) (by rw [qE]) [(fun v=> ∃n:Int,v=V.int .i64 n),(fun v=> ∃l:List (List Int),v=V.sl none 32 true (l.map bP))] (by rw [qE];exact ⟨op3,Kg,trivial⟩)
 rw [qE] at h
 refine h.mono ?_
 rintro v ⟨vs,h,rfl⟩
 obtain ⟨v0,vs0,rfl,⟨x0,h0⟩,h⟩:=bl h
 obtain ⟨v1,vs1,rfl,⟨x1,h1⟩,h⟩:=bl h
 cases fA h
 exact ⟨⟨x0,x1⟩,by subst h0 h1;simp only [go_sem,dB]⟩
set_option maxHeartbeats 4000000 in
set_option maxRecDepth 100000 in
theorem Ki:bM En (fun v=> ∃x:aS,v=cB x) 97:=by
 have h:=fz aA (T:=97) (by rw [nN]) (by rw [nN]) [(fun v=> ∃x:bV,v=dM x),(fun v=> ∃x:jN,v=uD x),(fun v=> ∃x:iB,v=uE x),(fun v=> ∃l:List cA,v=V.sl none 3 true (l.map eK)),(fun v=> ∃x:gu,v=uF x)] (by rw [nN];exact ⟨vH,Kc,Kd,Kf,Kh,trivial⟩)
 rw [nN] at h
 refine h.mono ?_
 rintro v ⟨vs,h,rfl⟩
 obtain ⟨v0,vs0,rfl,⟨x0,h0⟩,h⟩:=bl h
 obtain ⟨v1,vs1,rfl,⟨x1,h1⟩,h⟩:=bl h
 obtain ⟨v2,vs2,rfl,⟨x2,h2⟩,h⟩:=bl h
 obtain ⟨v3,vs3,rfl,⟨x3,h3⟩,h⟩:=bl h
 obtain ⟨v4,vs4,rfl,⟨x4,h4⟩,h⟩:=bl h
 cases fA h
 exact ⟨⟨x0,x1,x2,x3,x4⟩,by subst h0 h1 h2 h3 h4;simp only [go_sem,dB]⟩
set_option maxHeartbeats 4000000 in
set_option maxRecDepth 100000 in
theorem Kj:bM En (fun v=> ∃l:List aS,v=V.sl none 80 true (l.map cB)) 84:=by
 have h:=kh aA (T:=84) (Q:=(fun v=> ∃x:aS,v=cB x)) (by rw [qz]) (by rw [qz]) (by rw [qz];exact Ki)
 rw [qz] at h
 refine h.mono ?_
 rintro v ⟨l,hl,rfl⟩
 obtain ⟨m,rfl⟩:=hP (f:=cB) (fun d hd=>by obtain ⟨x,hx⟩:=hl d hd;exact ⟨x,hx⟩)
 exact ⟨m,by simp only [nN]⟩
set_option maxHeartbeats 4000000 in
set_option maxRecDepth 100000 in
theorem Kk:bM En (fun v=> ∃x:aX,v=bL x) 86:=by
 have h:=fz aA (T:=86) (by rw [nM]) (by rw [nM]) [(fun v=> ∃x:bV,v=dM x),(fun v=> ∃x:cH,v=qU x),(fun v=> ∃l:List Bool,v=V.sl none 1 false (l.map V.bool)),(fun v=> ∃l:List aS,v=V.sl none 80 true (l.map cB))] (by rw [nM];exact ⟨vH,A5,Kb,Kj,trivial⟩)
 rw [nM] at h
 refine h.mono ?_
 rintro v ⟨vs,h,rfl⟩
 obtain ⟨v0,vs0,rfl,⟨x0,h0⟩,h⟩:=bl h
 obtain ⟨v1,vs1,rfl,⟨x1,h1⟩,h⟩:=bl h
 obtain ⟨v2,vs2,rfl,⟨x2,h2⟩,h⟩:=bl h
 obtain ⟨v3,vs3,rfl,⟨x3,h3⟩,h⟩:=bl h
 cases fA h
 exact ⟨⟨x0,x1,x2,x3⟩,by subst h0 h1 h2 h3;simp only [go_sem,dB]⟩
set_option maxHeartbeats 4000000 in
set_option maxRecDepth 100000 in
theorem Kl:bM En (fun v=> ∃l:List aX,v=V.sl none 46 true (l.map bL)) 25:=by
 have h:=kh aA (T:=25) (Q:=(fun v=> ∃x:aX,v=bL x)) (by rw [qo]) (by rw [qo]) (by rw [qo];exact Kk)
 rw [qo] at h
 refine h.mono ?_
 rintro v ⟨l,hl,rfl⟩
 obtain ⟨m,rfl⟩:=hP (f:=bL) (fun d hd=>by obtain ⟨x,hx⟩:=hl d hd;exact ⟨x,hx⟩)
 exact ⟨m,by simp only [nM]⟩
set_option maxHeartbeats 4000000 in
set_option maxRecDepth 100000 in
theorem Km:bM En (fun v=> ∃x:jO,v=uB x) 72:=by
 have h:=fz aA (T:=72) (by rw [qu]) (by rw [qu]) [(fun v=> ∃n:Int,v=V.int .i64 n),(fun v=> ∃n:Int,v=V.int .i64 n),(fun v=> ∃n:Int,v=V.int .i64 n)] (by rw [qu];exact ⟨op3,op3,op3,trivial⟩)
 rw [qu] at h
 refine h.mono ?_
 rintro v ⟨vs,h,rfl⟩
 obtain ⟨v0,vs0,rfl,⟨x0,h0⟩,h⟩:=bl h
 obtain ⟨v1,vs1,rfl,⟨x1,h1⟩,h⟩:=bl h
 obtain ⟨v2,vs2,rfl,⟨x2,h2⟩,h⟩:=bl h
 cases fA h
 exact ⟨⟨x0,x1,x2⟩,by subst h0 h1 h2;simp only [go_sem,dB]⟩
set_option maxHeartbeats 4000000 in
set_option maxRecDepth 100000 in
theorem Kn:bM En (fun v=> ∃x:jP,v=qV x) 74:=by
 have h:=fz aA (T:=74) (by rw [qv]) (by rw [qv]) [(fun v=> ∃n:Int,v=V.int .i64 n),(fun v=> ∃n:Int,v=V.int .i64 n),(fun v=> ∃n:Int,v=V.int .i64 n),(fun v=> ∃n:Int,v=V.int .i64 n),(fun v=> ∃n:Int,v=V.int .i64 n),(fun v=> ∃n:Int,v=V.int .i64 n)] (by rw [qv];exact ⟨op3,op3,op3,op3,op3,op3,trivial⟩)
 rw [qv] at h
 refine h.mono ?_
 rintro v ⟨vs,h,rfl⟩
 obtain ⟨v0,vs0,rfl,⟨x0,h0⟩,h⟩:=bl h
 obtain ⟨v1,vs1,rfl,⟨x1,h1⟩,h⟩:=bl h
 obtain ⟨v2,vs2,rfl,⟨x2,h2⟩,h⟩:=bl h
 obtain ⟨v3,vs3,rfl,⟨x3,h3⟩,h⟩:=bl h
 obtain ⟨v4,vs4,rfl,⟨x4,h4⟩,h⟩:=bl h
 obtain ⟨v5,vs5,rfl,⟨x5,h5⟩,h⟩:=bl h
 cases fA h
 exact ⟨⟨x0,x1,x2,x3,x4,x5⟩,by subst h0 h1 h2 h3 h4 h5;simp only [go_sem,dB]⟩
set_option maxHeartbeats 4000000 in
set_option maxRecDepth 100000 in
theorem Ko:bM En (fun v=> ∃x:bg,v=cc x) 80:=by
 have h:=fz aA (T:=80) (by rw [nL]) (by rw [nL]) [(fun v=> ∃n:Int,v=V.int .i64 n),(fun v=> ∃n:Int,v=V.int .i64 n),(fun v=> ∃n:Int,v=V.int .i64 n),(fun v=> ∃n:Int,v=V.int .i64 n),(fun v=> ∃n:Int,v=V.int .i64 n),(fun v=> ∃n:Int,v=V.int .i64 n),(fun v=> ∃x:cH,v=qU x),(fun v=> ∃x:jO,v=uB x),(fun v=> ∃x:jP,v=qV x),(fun v=> ∃x:bV,v=dM x)] (by rw [nL];exact ⟨op3,op3,op3,op3,op3,op3,A5,Km,Kn,vH,trivial⟩)
 rw [nL] at h
 refine h.mono ?_
 rintro v ⟨vs,h,rfl⟩
 obtain ⟨v0,vs0,rfl,⟨x0,h0⟩,h⟩:=bl h
 obtain ⟨v1,vs1,rfl,⟨x1,h1⟩,h⟩:=bl h
 obtain ⟨v2,vs2,rfl,⟨x2,h2⟩,h⟩:=bl h
 obtain ⟨v3,vs3,rfl,⟨x3,h3⟩,h⟩:=bl h
 obtain ⟨v4,vs4,rfl,⟨x4,h4⟩,h⟩:=bl h
 obtain ⟨v5,vs5,rfl,⟨x5,h5⟩,h⟩:=bl h
 obtain ⟨v6,vs6,rfl,⟨x6,h6⟩,h⟩:=bl h
 obtain ⟨v7,vs7,rfl,⟨x7,h7⟩,h⟩:=bl h
 obtain ⟨v8,vs8,rfl,⟨x8,h8⟩,h⟩:=bl h
 obtain ⟨v9,vs9,rfl,⟨x9,h9⟩,h⟩:=bl h
 cases fA h
 exact ⟨⟨x0,x1,x2,x3,x4,x5,x6,x7,x8,x9⟩,by subst h0 h1 h2 h3 h4 h5 h6 h7 h8 h9;simp only [go_sem,dB]⟩
set_option maxHeartbeats 4000000 in
set_option maxRecDepth 100000 in
theorem Kq:bM En (fun v=> ∃l:List bg,v=V.sl none 59 true (l.map cc)) 26:=by
 have h:=kh aA (T:=26) (Q:=(fun v=> ∃x:bg,v=cc x)) (by rw [qp]) (by rw [qp]) (by rw [qp];exact Ko)
 rw [qp] at h
 refine h.mono ?_
 rintro v ⟨l,hl,rfl⟩
 obtain ⟨m,rfl⟩:=hP (f:=cc) (fun d hd=>by obtain ⟨x,hx⟩:=hl d hd;exact ⟨x,hx⟩)
 exact ⟨m,by simp only [nL]⟩
set_option maxHeartbeats 4000000 in
set_option maxRecDepth 100000 in
theorem Kr:bM En (fun v=> ∃x:dZ,v=mu x) 30:=by
 have h:=fz aA (T:=30) (by rw [qq]) (by rw [qq]) [(fun v=> ∃x:(List Int),v=bP x),(fun v=> ∃n:Int,v=V.int .i64 n)] (by rw [qq];exact ⟨rU,op3,trivial⟩)
 rw [qq] at h
 refine h.mono ?_
 rintro v ⟨vs,h,rfl⟩
 obtain ⟨v0,vs0,rfl,⟨x0,h0⟩,h⟩:=bl h
 obtain ⟨v1,vs1,rfl,⟨x1,h1⟩,h⟩:=bl h
 cases fA h
 exact ⟨⟨x0,x1⟩,by subst h0 h1;simp only [go_sem,dB]⟩
set_option maxHeartbeats 4000000 in
set_option maxRecDepth 100000 in
theorem Ks:bM En (fun v=> ∃x:aP,v=bw x) 32:=by
 have h:=fz aA (T:=32) (by rw [nK]) (by rw [nK]) [(fun v=> ∃n:Int,v=V.int .i64 n),(fun v=> ∃n:Int,v=V.int .i64 n),(fun v=> ∃n:Int,v=V.int .i64 n),(fun v=> ∃n:Int,v=V.int .i64 n),(fun v=> ∃l:List aX,v=V.sl none 46 true (l.map bL)),(fun v=> ∃l:List bg,v=V.sl none 59 true (l.map cc)),(fun v=> ∃x:dZ,v=mu x)] (by rw [nK];exact ⟨op3,op3,op3,op3,Kl,Kq,Kr,trivial⟩)
 rw [nK] at h
 refine h.mono ?_
 rintro v ⟨vs,h,rfl⟩
 obtain ⟨v0,vs0,rfl,⟨x0,h0⟩,h⟩:=bl h
 obtain ⟨v1,vs1,rfl,⟨x1,h1⟩,h⟩:=bl h
 obtain ⟨v2,vs2,rfl,⟨x2,h2⟩,h⟩:=bl h
 obtain ⟨v3,vs3,rfl,⟨x3,h3⟩,h⟩:=bl h
 obtain ⟨v4,vs4,rfl,⟨x4,h4⟩,h⟩:=bl h
 obtain ⟨v5,vs5,rfl,⟨x5,h5⟩,h⟩:=bl h
 obtain ⟨v6,vs6,rfl,⟨x6,h6⟩,h⟩:=bl h
 cases fA h
 exact ⟨⟨x0,x1,x2,x3,x4,x5,x6⟩,by subst h0 h1 h2 h3 h4 h5 h6;simp only [go_sem,dB]⟩
set_option maxHeartbeats 4000000 in
set_option maxRecDepth 100000 in
theorem Kt:bM En (fun v=> ∃l:List aP,v=V.sl none 39 true (l.map bw)) 22:=by
 have h:=kh aA (T:=22) (Q:=(fun v=> ∃x:aP,v=bw x)) (by rw [lZ]) (by rw [lZ]) (by rw [lZ];exact Ks)
 rw [lZ] at h
 refine h.mono ?_
 rintro v ⟨l,hl,rfl⟩
 obtain ⟨m,rfl⟩:=hP (f:=bw) (fun d hd=>by obtain ⟨x,hx⟩:=hl d hd;exact ⟨x,hx⟩)
 exact ⟨m,by simp only [nK]⟩
set_option maxRecDepth 100000 in
theorem Ku (H:Type) (enc:TypeId×Value→H) (W:World) (base:Nat) (args:Array Value) (ds:List (DataW H)) (ps:List MemPlace) (hA:DataW.TrodAll enc En.P W 0 (fun _=>true) true Tryz.f3.params.toList args.toList ds ps)
  (hval: ∀(j:Nat) t v,Tryz.f3.params[j]? =some t→args[j]? =some v→Value.okWide En.P W .any base t v) (hb:Rows.uptoBulkAll ds≤1048576): ∃ws,rdT ro0 (gE W) ws args.toList∧bC En 3 ws (.bool true) []:=by
 rw [Tryz.params3] at hA hval
 obtain ⟨v0,vs0,d0,ds0,p0,q0,hargs,rfl,rfl,h0,r0⟩:=trodAll_cons hA
 obtain ⟨v1,vs1,d1,ds1,p1,q1,rfl,rfl,rfl,h1,r1⟩:=trodAll_cons r0
 obtain ⟨v2,vs2,d2,ds2,p2,q2,rfl,rfl,rfl,h2,r2⟩:=trodAll_cons r1
 obtain ⟨v3,vs3,d3,ds3,p3,q3,rfl,rfl,rfl,h3,r3⟩:=trodAll_cons r2
 obtain ⟨rfl,rfl,rfl⟩:=trodAll_nil r3
 obtain rfl:args= #[v0,v1,v2,v3]:=by cases args;simp_all
 simp only [Rows.uptoBulkAll] at hb
 obtain ⟨u0,⟨x0,rfl⟩,e0⟩:=rS aA (T:=22) (by rw [lZ]) (by rw [lZ];decide) Kt (hval 0 22 v0 rfl rfl) h0 (by omega)
 obtain ⟨u1,⟨x1,rfl⟩,e1⟩:=rS aA (T:=3) (by rw [tb3]) (by rw [tb3];decide) op3 (hval 1 3 v1 rfl rfl) h1 (by omega)
 obtain ⟨u2,⟨x2,rfl⟩,e2⟩:=rS aA (T:=3) (by rw [tb3]) (by rw [tb3];decide) op3 (hval 2 3 v2 rfl rfl) h2 (by omega)
 obtain ⟨u3,⟨x3,rfl⟩,e3⟩:=rS aA (T:=5) (by rw [tb5]) (by rw [tb5];decide) op5 (hval 3 5 v3 rfl rfl) h3 (by omega)
 refine ⟨[.sl none 39 true (x0.map bw),.int .i64 x1,.int .i64 x2,.int .u8 x3],⟨v0,[v1,v2,v3],rfl,e0,v1,[v2,v3],rfl,e1,v2,[v3],rfl,e2,v3,[],rfl,e3,rfl⟩,?_⟩
 have h:=(IV x0 x1 x2 x3).ok
 rw [JS x0 x1 x2 x3 (kq (c:=gE W) (cs:=[v0,v1,v2,v3]) ⟨v0,[v1,v2,v3],rfl,e0,v1,[v2,v3],rfl,e1,v2,[v3],rfl,e2,v3,[],rfl,e3,rfl⟩)] at h
 exact h
theorem Kv:ownKnob Tryz.prog.godebug=none:=by kernel_rfl
theorem Kw:laidOutB Tryz.prog=true:=by kernel_rfl
set_option maxRecDepth 100000 in
theorem Kx: ∀t∈Tryz.f3.params.toList,Tryz.prog.readableRec t=true∧t<Tryz.prog.types.size:=by
 intro t ht
 rw [Tryz.params3] at ht
 simp only [List.mem_cons,List.not_mem_nil,or_false] at ht
 rcases ht with rfl|rfl|rfl|rfl<;>exact ⟨by kernel_rfl,of_decide_eq_true (by kernel_rfl)⟩
set_option maxRecDepth 100000 in
theorem Ky (H:Type) (ds:List (DataW H)) (h:ds.length=Tryz.f3.params.toList.length):Rows.purseCrashSpec.fn H ds={results:=[.lit (.bool true)],args:=ds}:=by
 rw [Tryz.params3] at h
 match ds,h with
 | [d0,d1,d2,d3],_=>rfl
def rW:Array Value:= #[.slice none 0 0,.int .i64 0,.int .i64 0,.int .u8 0]
theorem Kz (os:Os):laidMetH Tryz.prog Rows.purseCrashUptoRow.laid ((World.laidAll Tryz.prog os Rows.purseCrashUptoRow.laid).forCall (fun _ _=>0) ⟨#[],rW,[]⟩).memory:=by
 rw [MakeChecks.laidMetH_plain _ _ _ (by kernel_rfl)]
 exact laidMet_laidAll _ (by kernel_rfl) (by kernel_rfl)
theorem KA (os:Os) {H:Type} (enc:TypeId×Value→H): ∃places,DataW.whole enc Tryz.prog ((World.laidAll Tryz.prog os Rows.purseCrashUptoRow.laid).forCall (fun _ _=>0) ⟨#[],rW,[]⟩).memory Tryz.f3.params.toList Rows.purseCrashSpec.vars false (rW:Array Value).toList 8=some ([.nil,.lit (.int .i64 0),.lit (.int .i64 0),.lit (.int .u8 0)],[],places):=⟨[],by kernel_rfl⟩
set_option maxRecDepth 100000 in
theorem KB (os:Os) (started:os.Started) (H:Type) (enc:TypeId×Value→H) (F:Stop.Interp):
  ReturnsInHanded {} Tryz.checked os 3 .any ((Rows.OpenSpec.upto Rows.purseCrashSpec).preRow enc Tryz.prog Tryz.f3 Rows.purseCrashUptoRow.domain false Rows.purseCrashUptoRow.laid) (((Rows.OpenSpec.upto Rows.purseCrashSpec).at F).post enc Tryz.prog Tryz.f3 false true false false):=by
 obtain ⟨places,hx⟩:=KA os enc
 refine returnsInHanded_of_row (C:=Tryz.checked) (s:=(Rows.OpenSpec.upto Rows.purseCrashSpec)) Kv started (by kernel_rfl) Tryz.func3
  (witness_row_at (enc:=enc) (C:=Tryz.checked) false (World.laidAll Tryz.prog os Rows.purseCrashUptoRow.laid) rW (World.laidAll_os _ _ _) (by kernel_rfl) (by kernel_rfl) (by kernel_rfl)
   (OpenSpec.preRow_of_cond 8 hx (by kernel_rfl) (fun k hk=>by cases hk;kernel_rfl) (by kernel_rfl) (Kz os))) ?_
 intro W base args ds gs before hval hW _ hk _ hL hsh _
 exact J7 (E:=En) (bt:=4) Tryz.underlying4 rfl rfl Kw Kx Ky Ku H enc W base args ds gs before hval hW (hk _ rfl) rfl (J8 hL)
theorem KC {a b:Bool} (ha:a=true) (hb:b=true):(a&&b)=true:=by rw [ha,hb];rfl
theorem KD:(Rows.purseCrashUptoRow.wf (OpenSpec.ofChange (Rows.OpenSpec.upto Rows.purseCrashSpec).bare))=true:=by kernel_rfl
theorem KE:(laidOutB Tryz.prog)=true:=by kernel_rfl
theorem KF:(mapsRowed Tryz.prog)=true:=by kernel_rfl
theorem KG:(Rows.purseCrashUptoRow.inPlace==Tryz.prog.inPlace 3)=true:=by kernel_rfl
theorem KH:(Rows.purseCrashUptoRow.unfollowed==Tryz.prog.unfollowed 3)=true:=by kernel_rfl
theorem KI:(Rows.purseCrashUptoRow.recurses==Tryz.prog.recurses 3)=true:=by kernel_rfl
theorem KJ:(Rows.purseCrashUptoRow.named==Tryz.prog.varsNamed 3)=true:=by kernel_rfl
theorem KK:(Rows.purseCrashUptoRow.plainKeys==Tryz.prog.plainKeys)=true:=by kernel_rfl
theorem KL:(Tryz.prog.stopsHeard)=true:=by kernel_rfl
theorem KM:(Tryz.prog.mayEnter)=true:=by kernel_rfl
theorem KN:(Rows.purseCrashUptoRow.lifted==Tryz.prog.liftsFinal)=true:=by kernel_rfl
theorem KO:joinedFacts Tryz.prog 3 Tryz.f3 (Rows.OpenSpec.upto Rows.purseCrashSpec).bare Rows.purseCrashUptoRow=true:=by
 unfold joinedFacts
 repeat' (with_reducible refine KC ?_ ?_)
 all_goals first|with_reducible exact KD|with_reducible exact KE|with_reducible exact KF|with_reducible exact KG|with_reducible exact KH|with_reducible exact KI|with_reducible exact KJ|with_reducible exact KK|with_reducible exact KL|with_reducible exact KM|with_reducible exact KN|kernel_rfl
theorem KP:Rows.PurseCrashUptoSaid:=
 OpenClaim.holds_of_cond 3 Tryz.f3 rfl rfl rfl rfl rfl rfl rfl ⟨rfl,rfl,rfl,rfl,rfl⟩ rfl rfl rfl rfl rfl (by kernel_rfl) Tryz.func3 KO
  (of_decide_eq_true (by kernel_rfl)) (by unfold Func.isWrapper;first|(rw [if_pos (by decide+kernel)];kernel_rfl)|(rw [if_neg (by decide+kernel)];exact ⟨rfl,rfl⟩))
  (fun os started H enc _ F=>by rw [OpenClaim.pre_eq_preRow];exact KB os started H enc F)
theorem KQ (f:FuncId) (fn:Func) (hf:Tryz.pinned.checked.prog.funcNamed "specie/specielaw42.PurseCrash" =some f) (hfn:Tryz.pinned.checked.prog.funcs[f]? =some fn):
  false=Tryz.pinned.checked.prog.looks []∧ ∀(j:Nat) t,fn.params[j]? =some t→Tryz.pinned.checked.prog.wantsStandIn t=false:=by
 obtain rfl:f=3:=Option.some.inj ((show Tryz.prog.funcNamed "specie/specielaw42.PurseCrash" =some 3 by kernel_rfl).symm.trans hf)|>.symm
 obtain rfl:fn=Tryz.f3:=(Option.some.inj (Tryz.func3.symm.trans hfn)).symm
 refine ⟨by kernel_rfl,fun j t ht=> ?_⟩
 have hall:(Tryz.f3.params.toList.all fun u=> !Tryz.prog.wantsStandIn u)=true:=by kernel_rfl
 have h0:=List.all_eq_true.1 hall t (Array.mem_toList_iff.2 (Array.mem_of_getElem? ht))
 exact (show Tryz.prog.wantsStandIn t=false by simpa using h0)
theorem purseCrash_holds:Rows.PurseCrashUptoCardSaid:=
 Claim7.holds_tied_plain_at .later [] _ _ _ _ KP (fun _ h=>by cases h) (by kernel_rfl) (fun _ h=>by cases h) purseCrashUpto_row_tie rfl ⟨rfl,rfl⟩ (by kernel_rfl) rfl KQ (by kernel_rfl)
end Go.Proofs.YtlmleoeemmhboaaGreatDoor
