/- PurseCodes: the law holds of what holds at most 1048576 values and letters together (printed by program, but for the law itself). -/
import Derived.Test.YtiknkaadhomeiaaGreatDoorZ12
import Derived.Test.YtiknkaadhomeiaaGreatDoorZ10
import Derived.Test.YtiknkaadhomeiaaGreatDoorZ11
import Derived.Test.YtiknkaadhomeiaaGreatDoorCards
import Derived.Test.YtiknkaadhomeiaaGreatDoorTie
import Derived.Deep.DeepHandedRow
import Derived.Lay
import Derived.LaidMore
import Derived.SevenTiedAt
import Derived.Stop.Joined
namespace Go.Proofs.YtiknkaadhomeiaaGreatDoor
open Go.ChangeShapes Go.WideShapes Go.ChangeAt Go.RowKit
set_option maxHeartbeats 4000000 in
set_option maxRecDepth 100000 in
theorem op3:bO En (fun v=> ∃n:Int,v=V.int .i64 n) 3:=by
 have h:=DT bn (T:=3) (by rw [tb3]) (by rw [tb3])
 rw [tb3] at h
 exact h
set_option maxHeartbeats 4000000 in
set_option maxRecDepth 100000 in
theorem op5:bO En (fun v=> ∃n:Int,v=V.int .u8 n) 5:=by
 have h:=DT bn (T:=5) (by rw [tb5]) (by rw [tb5])
 rw [tb5] at h
 exact h
set_option maxHeartbeats 4000000 in
set_option maxRecDepth 100000 in
theorem ua:bO En (fun v=> ∃x:(List Int),v=bI x) 41:=by
 have h:=DU bn (T:=41) (Q:=(fun v=> ∃n:Int,v=V.int .u8 n)) (by rw [nE]) (by rw [nE]) (by rw [nE];exact op5)
 rw [nE] at h
 refine h.mono ?_
 rintro v ⟨l,hn,hl,rfl⟩
 obtain ⟨m,rfl⟩:=iN (f:=(V.int .u8)) (fun d hd=>by obtain ⟨x,hx⟩:=hl d hd;exact ⟨x,hx⟩)
 refine ⟨m,?_⟩
 have hm:m.length=32:=by simpa only [List.length_map,nE] using hn
 rw [DX (f:=(V.int .u8)) hm]
 simp only [tb5]
 rfl
set_option maxHeartbeats 4000000 in
set_option maxRecDepth 100000 in
theorem Nr:bO En (fun v=> ∃x:k8,v=wO x) 100:=by
 have h:=fz bn (T:=100) (by rw [se]) (by rw [se]) [(fun v=> ∃n:Int,v=V.int .i64 n),(fun v=> ∃n:Int,v=V.int .i64 n),(fun v=> ∃n:Int,v=V.int .i64 n),(fun v=> ∃n:Int,v=V.int .i64 n)] (by rw [se];exact ⟨op3,op3,op3,op3,trivial⟩)
 rw [se] at h
 refine h.mono ?_
 rintro v ⟨vs,h,rfl⟩
 obtain ⟨v0,vs0,rfl,⟨x0,h0⟩,h⟩:=aZ h
 obtain ⟨v1,vs1,rfl,⟨x1,h1⟩,h⟩:=aZ h
 obtain ⟨v2,vs2,rfl,⟨x2,h2⟩,h⟩:=aZ h
 obtain ⟨v3,vs3,rfl,⟨x3,h3⟩,h⟩:=aZ h
 cases fA h
 exact ⟨⟨x0,x1,x2,x3⟩,by subst h0 h1 h2 h3;simp only [go_sem,dQ]⟩
set_option maxHeartbeats 4000000 in
set_option maxRecDepth 100000 in
theorem yp:bO En (fun v=> ∃x:br,v=dJ x) 102:=by
 have h:=fz bn (T:=102) (by rw [sf]) (by rw [sf]) [(fun v=> ∃n:Int,v=V.int .i64 n),(fun v=> ∃n:Int,v=V.int .i64 n),(fun v=> ∃n:Int,v=V.int .i64 n),(fun v=> ∃n:Int,v=V.int .i64 n),(fun v=> ∃n:Int,v=V.int .i64 n),(fun v=> ∃x:(List Int),v=bI x),(fun v=> ∃x:k8,v=wO x)] (by rw [sf];exact ⟨op3,op3,op3,op3,op3,ua,Nr,trivial⟩)
 rw [sf] at h
 refine h.mono ?_
 rintro v ⟨vs,h,rfl⟩
 obtain ⟨v0,vs0,rfl,⟨x0,h0⟩,h⟩:=aZ h
 obtain ⟨v1,vs1,rfl,⟨x1,h1⟩,h⟩:=aZ h
 obtain ⟨v2,vs2,rfl,⟨x2,h2⟩,h⟩:=aZ h
 obtain ⟨v3,vs3,rfl,⟨x3,h3⟩,h⟩:=aZ h
 obtain ⟨v4,vs4,rfl,⟨x4,h4⟩,h⟩:=aZ h
 obtain ⟨v5,vs5,rfl,⟨x5,h5⟩,h⟩:=aZ h
 obtain ⟨v6,vs6,rfl,⟨x6,h6⟩,h⟩:=aZ h
 cases fA h
 exact ⟨⟨x0,x1,x2,x3,x4,x5,x6⟩,by subst h0 h1 h2 h3 h4 h5 h6;simp only [go_sem,dQ]⟩
set_option maxHeartbeats 4000000 in
set_option maxRecDepth 100000 in
theorem Ns:bO En (fun v=> ∃x:(List Int),v=(fun l=> .agg [.int .i64 (gt l 0),.int .i64 (gt l 1)]) x) 193:=by
 have h:=DU bn (T:=193) (Q:=(fun v=> ∃n:Int,v=V.int .i64 n)) (by rw [nI]) (by rw [nI]) (by rw [nI];exact op3)
 rw [nI] at h
 refine h.mono ?_
 rintro v ⟨l,hn,hl,rfl⟩
 obtain ⟨m,rfl⟩:=iN (f:=(V.int .i64)) (fun d hd=>by obtain ⟨x,hx⟩:=hl d hd;exact ⟨x,hx⟩)
 refine ⟨m,?_⟩
 have hm:m.length=2:=by simpa only [List.length_map,nI] using hn
 rw [DX (f:=(V.int .i64)) hm]
 simp only [tb3]
 rfl
set_option maxHeartbeats 4000000 in
set_option maxRecDepth 100000 in
theorem Nt:bO En (fun v=> ∃l:List (List Int),v=V.sl none 2 true (l.map (fun l=> .agg [.int .i64 (gt l 0),.int .i64 (gt l 1)]))) 92:=by
 have h:=lP bn (T:=92) (Q:=(fun v=> ∃x:(List Int),v=(fun l=> .agg [.int .i64 (gt l 0),.int .i64 (gt l 1)]) x)) (by rw [sa]) (by rw [sa]) (by rw [sa];exact Ns)
 rw [sa] at h
 refine h.mono ?_
 rintro v ⟨l,hl,rfl⟩
 obtain ⟨m,rfl⟩:=iN (f:=(fun l=> .agg [.int .i64 (gt l 0),.int .i64 (gt l 1)])) (fun d hd=>by obtain ⟨x,hx⟩:=hl d hd;exact ⟨x,hx⟩)
 exact ⟨m,by simp only [nI]⟩
set_option maxHeartbeats 4000000 in
set_option maxRecDepth 100000 in
theorem DZ:bO En (fun v=> ∃x:cj,v=sM x) 94:=by
 have h:=fz bn (T:=94) (by rw [sb]) (by rw [sb]) [(fun v=> ∃n:Int,v=V.int .i64 n),(fun v=> ∃n:Int,v=V.int .i64 n),(fun v=> ∃l:List (List Int),v=V.sl none 2 true (l.map (fun l=> .agg [.int .i64 (gt l 0),.int .i64 (gt l 1)])))] (by rw [sb];exact ⟨op3,op3,Nt,trivial⟩)
 rw [sb] at h
 refine h.mono ?_
 rintro v ⟨vs,h,rfl⟩
 obtain ⟨v0,vs0,rfl,⟨x0,h0⟩,h⟩:=aZ h
 obtain ⟨v1,vs1,rfl,⟨x1,h1⟩,h⟩:=aZ h
 obtain ⟨v2,vs2,rfl,⟨x2,h2⟩,h⟩:=aZ h
 cases fA h
 exact ⟨⟨x0,x1,x2⟩,by subst h0 h1 h2;simp only [go_sem,dQ]⟩
set_option maxHeartbeats 4000000 in
set_option maxRecDepth 100000 in
theorem op4:bO En (fun v=> ∃b:Bool,v=V.bool b) 4:=by
 have h:=Nl bn (T:=4) (by rw [tb4]) (by rw [tb4])
 exact h
set_option maxHeartbeats 4000000 in
set_option maxRecDepth 100000 in
theorem Nu:bO En (fun v=> ∃l:List Bool,v=V.sl none 1 false (l.map V.bool)) 107:=by
 have h:=lP bn (T:=107) (Q:=(fun v=> ∃b:Bool,v=V.bool b)) (by rw [si]) (by rw [si]) (by rw [si];exact op4)
 rw [si] at h
 refine h.mono ?_
 rintro v ⟨l,hl,rfl⟩
 obtain ⟨m,rfl⟩:=iN (f:=V.bool) (fun d hd=>by obtain ⟨x,hx⟩:=hl d hd;exact ⟨x,hx⟩)
 exact ⟨m,by simp only [tb4]⟩
set_option maxHeartbeats 4000000 in
set_option maxRecDepth 100000 in
theorem Nv:bO En (fun v=> ∃x:jT,v=wP x) 113:=by
 have h:=fz bn (T:=113) (by rw [sk]) (by rw [sk]) [(fun v=> ∃n:Int,v=V.int .i64 n),(fun v=> ∃n:Int,v=V.int .i64 n)] (by rw [sk];exact ⟨op3,op3,trivial⟩)
 rw [sk] at h
 refine h.mono ?_
 rintro v ⟨vs,h,rfl⟩
 obtain ⟨v0,vs0,rfl,⟨x0,h0⟩,h⟩:=aZ h
 obtain ⟨v1,vs1,rfl,⟨x1,h1⟩,h⟩:=aZ h
 cases fA h
 exact ⟨⟨x0,x1⟩,by subst h0 h1;simp only [go_sem,dQ]⟩
set_option maxHeartbeats 4000000 in
set_option maxRecDepth 100000 in
theorem Nw:bO En (fun v=> ∃x:iz,v=wQ x) 115:=by
 have h:=fz bn (T:=115) (by rw [sm]) (by rw [sm]) [(fun v=> ∃x:(List Int),v=bI x),(fun v=> ∃n:Int,v=V.int .i64 n),(fun v=> ∃n:Int,v=V.int .i64 n)] (by rw [sm];exact ⟨ua,op3,op3,trivial⟩)
 rw [sm] at h
 refine h.mono ?_
 rintro v ⟨vs,h,rfl⟩
 obtain ⟨v0,vs0,rfl,⟨x0,h0⟩,h⟩:=aZ h
 obtain ⟨v1,vs1,rfl,⟨x1,h1⟩,h⟩:=aZ h
 obtain ⟨v2,vs2,rfl,⟨x2,h2⟩,h⟩:=aZ h
 cases fA h
 exact ⟨⟨x0,x1,x2⟩,by subst h0 h1 h2;simp only [go_sem,dQ]⟩
set_option maxHeartbeats 4000000 in
set_option maxRecDepth 100000 in
theorem Nx:bO En (fun v=> ∃x:bS,v=eJ x) 263:=by
 have h:=fz bn (T:=263) (by rw [pz]) (by rw [pz]) [(fun v=> ∃n:Int,v=V.int .i64 n),(fun v=> ∃n:Int,v=V.int .i64 n),(fun v=> ∃n:Int,v=V.int .i64 n)] (by rw [pz];exact ⟨op3,op3,op3,trivial⟩)
 rw [pz] at h
 refine h.mono ?_
 rintro v ⟨vs,h,rfl⟩
 obtain ⟨v0,vs0,rfl,⟨x0,h0⟩,h⟩:=aZ h
 obtain ⟨v1,vs1,rfl,⟨x1,h1⟩,h⟩:=aZ h
 obtain ⟨v2,vs2,rfl,⟨x2,h2⟩,h⟩:=aZ h
 cases fA h
 exact ⟨⟨x0,x1,x2⟩,by subst h0 h1 h2;simp only [go_sem,dQ]⟩
set_option maxHeartbeats 4000000 in
set_option maxRecDepth 100000 in
theorem Ny:bO En (fun v=> ∃l:List bS,v=V.sl none 3 true (l.map eJ)) 116:=by
 have h:=lP bn (T:=116) (Q:=(fun v=> ∃x:bS,v=eJ x)) (by rw [sn]) (by rw [sn]) (by rw [sn];exact Nx)
 rw [sn] at h
 refine h.mono ?_
 rintro v ⟨l,hl,rfl⟩
 obtain ⟨m,rfl⟩:=iN (f:=eJ) (fun d hd=>by obtain ⟨x,hx⟩:=hl d hd;exact ⟨x,hx⟩)
 exact ⟨m,by simp only [pz]⟩
set_option maxHeartbeats 4000000 in
set_option maxRecDepth 100000 in
theorem Nz:bO En (fun v=> ∃l:List (List Int),v=V.sl none 32 true (l.map bI)) 117:=by
 have h:=lP bn (T:=117) (Q:=(fun v=> ∃x:(List Int),v=bI x)) (by rw [so]) (by rw [so]) (by rw [so];exact ua)
 rw [so] at h
 refine h.mono ?_
 rintro v ⟨l,hl,rfl⟩
 obtain ⟨m,rfl⟩:=iN (f:=bI) (fun d hd=>by obtain ⟨x,hx⟩:=hl d hd;exact ⟨x,hx⟩)
 exact ⟨m,by simp only [nE]⟩
set_option maxHeartbeats 4000000 in
set_option maxRecDepth 100000 in
theorem NA:bO En (fun v=> ∃x:ga,v=wR x) 119:=by
 have h:=fz bn (T:=119) (by rw [sq]) (by rw [sq]) [(fun v=> ∃n:Int,v=V.int .i64 n),(fun v=> ∃l:List (List Int),v=V.sl none 32 true (l.map bI))] (by rw [sq];exact ⟨op3,Nz,trivial⟩)
 rw [sq] at h
 refine h.mono ?_
 rintro v ⟨vs,h,rfl⟩
 obtain ⟨v0,vs0,rfl,⟨x0,h0⟩,h⟩:=aZ h
 obtain ⟨v1,vs1,rfl,⟨x1,h1⟩,h⟩:=aZ h
 cases fA h
 exact ⟨⟨x0,x1⟩,by subst h0 h1;simp only [go_sem,dQ]⟩
set_option maxHeartbeats 4000000 in
set_option maxRecDepth 100000 in
theorem NB:bO En (fun v=> ∃x:aA,v=bX x) 121:=by
 have h:=fz bn (T:=121) (by rw [py]) (by rw [py]) [(fun v=> ∃x:br,v=dJ x),(fun v=> ∃x:jT,v=wP x),(fun v=> ∃x:iz,v=wQ x),(fun v=> ∃l:List bS,v=V.sl none 3 true (l.map eJ)),(fun v=> ∃x:ga,v=wR x)] (by rw [py];exact ⟨yp,Nv,Nw,Ny,NA,trivial⟩)
 rw [py] at h
 refine h.mono ?_
 rintro v ⟨vs,h,rfl⟩
 obtain ⟨v0,vs0,rfl,⟨x0,h0⟩,h⟩:=aZ h
 obtain ⟨v1,vs1,rfl,⟨x1,h1⟩,h⟩:=aZ h
 obtain ⟨v2,vs2,rfl,⟨x2,h2⟩,h⟩:=aZ h
 obtain ⟨v3,vs3,rfl,⟨x3,h3⟩,h⟩:=aZ h
 obtain ⟨v4,vs4,rfl,⟨x4,h4⟩,h⟩:=aZ h
 cases fA h
 exact ⟨⟨x0,x1,x2,x3,x4⟩,by subst h0 h1 h2 h3 h4;simp only [go_sem,dQ]⟩
set_option maxHeartbeats 4000000 in
set_option maxRecDepth 100000 in
theorem NC:bO En (fun v=> ∃l:List aA,v=V.sl none 80 true (l.map bX)) 108:=by
 have h:=lP bn (T:=108) (Q:=(fun v=> ∃x:aA,v=bX x)) (by rw [sj]) (by rw [sj]) (by rw [sj];exact NB)
 rw [sj] at h
 refine h.mono ?_
 rintro v ⟨l,hl,rfl⟩
 obtain ⟨m,rfl⟩:=iN (f:=bX) (fun d hd=>by obtain ⟨x,hx⟩:=hl d hd;exact ⟨x,hx⟩)
 exact ⟨m,by simp only [py]⟩
set_option maxHeartbeats 4000000 in
set_option maxRecDepth 100000 in
theorem ND:bO En (fun v=> ∃x:ay,v=bD x) 110:=by
 have h:=fz bn (T:=110) (by rw [px]) (by rw [px]) [(fun v=> ∃x:br,v=dJ x),(fun v=> ∃x:cj,v=sM x),(fun v=> ∃l:List Bool,v=V.sl none 1 false (l.map V.bool)),(fun v=> ∃l:List aA,v=V.sl none 80 true (l.map bX))] (by rw [px];exact ⟨yp,DZ,Nu,NC,trivial⟩)
 rw [px] at h
 refine h.mono ?_
 rintro v ⟨vs,h,rfl⟩
 obtain ⟨v0,vs0,rfl,⟨x0,h0⟩,h⟩:=aZ h
 obtain ⟨v1,vs1,rfl,⟨x1,h1⟩,h⟩:=aZ h
 obtain ⟨v2,vs2,rfl,⟨x2,h2⟩,h⟩:=aZ h
 obtain ⟨v3,vs3,rfl,⟨x3,h3⟩,h⟩:=aZ h
 cases fA h
 exact ⟨⟨x0,x1,x2,x3⟩,by subst h0 h1 h2 h3;simp only [go_sem,dQ]⟩
set_option maxHeartbeats 4000000 in
set_option maxRecDepth 100000 in
theorem NE:bO En (fun v=> ∃l:List ay,v=V.sl none 46 true (l.map bD)) 38:=by
 have h:=lP bn (T:=38) (Q:=(fun v=> ∃x:ay,v=bD x)) (by rw [r7]) (by rw [r7]) (by rw [r7];exact ND)
 rw [r7] at h
 refine h.mono ?_
 rintro v ⟨l,hl,rfl⟩
 obtain ⟨m,rfl⟩:=iN (f:=bD) (fun d hd=>by obtain ⟨x,hx⟩:=hl d hd;exact ⟨x,hx⟩)
 exact ⟨m,by simp only [px]⟩
set_option maxHeartbeats 4000000 in
set_option maxRecDepth 100000 in
theorem NF:bO En (fun v=> ∃x:jU,v=wN x) 96:=by
 have h:=fz bn (T:=96) (by rw [sc]) (by rw [sc]) [(fun v=> ∃n:Int,v=V.int .i64 n),(fun v=> ∃n:Int,v=V.int .i64 n),(fun v=> ∃n:Int,v=V.int .i64 n)] (by rw [sc];exact ⟨op3,op3,op3,trivial⟩)
 rw [sc] at h
 refine h.mono ?_
 rintro v ⟨vs,h,rfl⟩
 obtain ⟨v0,vs0,rfl,⟨x0,h0⟩,h⟩:=aZ h
 obtain ⟨v1,vs1,rfl,⟨x1,h1⟩,h⟩:=aZ h
 obtain ⟨v2,vs2,rfl,⟨x2,h2⟩,h⟩:=aZ h
 cases fA h
 exact ⟨⟨x0,x1,x2⟩,by subst h0 h1 h2;simp only [go_sem,dQ]⟩
set_option maxHeartbeats 4000000 in
set_option maxRecDepth 100000 in
theorem NG:bO En (fun v=> ∃x:jV,v=sN x) 98:=by
 have h:=fz bn (T:=98) (by rw [sd]) (by rw [sd]) [(fun v=> ∃n:Int,v=V.int .i64 n),(fun v=> ∃n:Int,v=V.int .i64 n),(fun v=> ∃n:Int,v=V.int .i64 n),(fun v=> ∃n:Int,v=V.int .i64 n),(fun v=> ∃n:Int,v=V.int .i64 n),(fun v=> ∃n:Int,v=V.int .i64 n)] (by rw [sd];exact ⟨op3,op3,op3,op3,op3,op3,trivial⟩)
 rw [sd] at h
 refine h.mono ?_
 rintro v ⟨vs,h,rfl⟩
 obtain ⟨v0,vs0,rfl,⟨x0,h0⟩,h⟩:=aZ h
 obtain ⟨v1,vs1,rfl,⟨x1,h1⟩,h⟩:=aZ h
 obtain ⟨v2,vs2,rfl,⟨x2,h2⟩,h⟩:=aZ h
 obtain ⟨v3,vs3,rfl,⟨x3,h3⟩,h⟩:=aZ h
 obtain ⟨v4,vs4,rfl,⟨x4,h4⟩,h⟩:=aZ h
 obtain ⟨v5,vs5,rfl,⟨x5,h5⟩,h⟩:=aZ h
 cases fA h
 exact ⟨⟨x0,x1,x2,x3,x4,x5⟩,by subst h0 h1 h2 h3 h4 h5;simp only [go_sem,dQ]⟩
set_option maxHeartbeats 4000000 in
set_option maxRecDepth 100000 in
theorem NH:bO En (fun v=> ∃x:aL,v=bU x) 104:=by
 have h:=fz bn (T:=104) (by rw [pw]) (by rw [pw]) [(fun v=> ∃n:Int,v=V.int .i64 n),(fun v=> ∃n:Int,v=V.int .i64 n),(fun v=> ∃n:Int,v=V.int .i64 n),(fun v=> ∃n:Int,v=V.int .i64 n),(fun v=> ∃n:Int,v=V.int .i64 n),(fun v=> ∃n:Int,v=V.int .i64 n),(fun v=> ∃x:cj,v=sM x),(fun v=> ∃x:jU,v=wN x),(fun v=> ∃x:jV,v=sN x),(fun v=> ∃x:br,v=dJ x)] (by rw [pw];exact ⟨op3,op3,op3,op3,op3,op3,DZ,NF,NG,yp,trivial⟩)
 rw [pw] at h
 refine h.mono ?_
 rintro v ⟨vs,h,rfl⟩
 obtain ⟨v0,vs0,rfl,⟨x0,h0⟩,h⟩:=aZ h
 obtain ⟨v1,vs1,rfl,⟨x1,h1⟩,h⟩:=aZ h
 obtain ⟨v2,vs2,rfl,⟨x2,h2⟩,h⟩:=aZ h
 obtain ⟨v3,vs3,rfl,⟨x3,h3⟩,h⟩:=aZ h
 obtain ⟨v4,vs4,rfl,⟨x4,h4⟩,h⟩:=aZ h
 obtain ⟨v5,vs5,rfl,⟨x5,h5⟩,h⟩:=aZ h
 obtain ⟨v6,vs6,rfl,⟨x6,h6⟩,h⟩:=aZ h
 obtain ⟨v7,vs7,rfl,⟨x7,h7⟩,h⟩:=aZ h
 obtain ⟨v8,vs8,rfl,⟨x8,h8⟩,h⟩:=aZ h
 obtain ⟨v9,vs9,rfl,⟨x9,h9⟩,h⟩:=aZ h
 cases fA h
 exact ⟨⟨x0,x1,x2,x3,x4,x5,x6,x7,x8,x9⟩,by subst h0 h1 h2 h3 h4 h5 h6 h7 h8 h9;simp only [go_sem,dQ]⟩
set_option maxHeartbeats 4000000 in
set_option maxRecDepth 100000 in
theorem NI:bO En (fun v=> ∃l:List aL,v=V.sl none 59 true (l.map bU)) 39:=by
 have h:=lP bn (T:=39) (Q:=(fun v=> ∃x:aL,v=bU x)) (by rw [r8]) (by rw [r8]) (by rw [r8];exact NH)
 rw [r8] at h
 refine h.mono ?_
 rintro v ⟨l,hl,rfl⟩
 obtain ⟨m,rfl⟩:=iN (f:=bU) (fun d hd=>by obtain ⟨x,hx⟩:=hl d hd;exact ⟨x,hx⟩)
 exact ⟨m,by simp only [pw]⟩
set_option maxHeartbeats 4000000 in
set_option maxRecDepth 100000 in
theorem NJ:bO En (fun v=> ∃x:dD,v=nZ x) 43:=by
 have h:=fz bn (T:=43) (by rw [r9]) (by rw [r9]) [(fun v=> ∃x:(List Int),v=bI x),(fun v=> ∃n:Int,v=V.int .i64 n)] (by rw [r9];exact ⟨ua,op3,trivial⟩)
 rw [r9] at h
 refine h.mono ?_
 rintro v ⟨vs,h,rfl⟩
 obtain ⟨v0,vs0,rfl,⟨x0,h0⟩,h⟩:=aZ h
 obtain ⟨v1,vs1,rfl,⟨x1,h1⟩,h⟩:=aZ h
 cases fA h
 exact ⟨⟨x0,x1⟩,by subst h0 h1;simp only [go_sem,dQ]⟩
set_option maxHeartbeats 4000000 in
set_option maxRecDepth 100000 in
theorem NL:bO En (fun v=> ∃x:av,v=bL x) 45:=by
 have h:=fz bn (T:=45) (by rw [nF]) (by rw [nF]) [(fun v=> ∃n:Int,v=V.int .i64 n),(fun v=> ∃n:Int,v=V.int .i64 n),(fun v=> ∃n:Int,v=V.int .i64 n),(fun v=> ∃n:Int,v=V.int .i64 n),(fun v=> ∃l:List ay,v=V.sl none 46 true (l.map bD)),(fun v=> ∃l:List aL,v=V.sl none 59 true (l.map bU)),(fun v=> ∃x:dD,v=nZ x)] (by rw [nF];exact ⟨op3,op3,op3,op3,NE,NI,NJ,trivial⟩)
 rw [nF] at h
 refine h.mono ?_
 rintro v ⟨vs,h,rfl⟩
 obtain ⟨v0,vs0,rfl,⟨x0,h0⟩,h⟩:=aZ h
 obtain ⟨v1,vs1,rfl,⟨x1,h1⟩,h⟩:=aZ h
 obtain ⟨v2,vs2,rfl,⟨x2,h2⟩,h⟩:=aZ h
 obtain ⟨v3,vs3,rfl,⟨x3,h3⟩,h⟩:=aZ h
 obtain ⟨v4,vs4,rfl,⟨x4,h4⟩,h⟩:=aZ h
 obtain ⟨v5,vs5,rfl,⟨x5,h5⟩,h⟩:=aZ h
 obtain ⟨v6,vs6,rfl,⟨x6,h6⟩,h⟩:=aZ h
 cases fA h
 exact ⟨⟨x0,x1,x2,x3,x4,x5,x6⟩,by subst h0 h1 h2 h3 h4 h5 h6;simp only [go_sem,dQ]⟩
set_option maxHeartbeats 4000000 in
set_option maxRecDepth 100000 in
theorem D0:bO En (fun v=> ∃l:List Int,v=V.sl none 1 false (l.map (V.int .u8))) 46:=by
 have h:=lP bn (T:=46) (Q:=(fun v=> ∃n:Int,v=V.int .u8 n)) (by rw [nG]) (by rw [nG]) (by rw [nG];exact op5)
 rw [nG] at h
 refine h.mono ?_
 rintro v ⟨l,hl,rfl⟩
 obtain ⟨m,rfl⟩:=iN (f:=(V.int .u8)) (fun d hd=>by obtain ⟨x,hx⟩:=hl d hd;exact ⟨x,hx⟩)
 exact ⟨m,by simp only [tb5]⟩
set_option maxHeartbeats 4000000 in
set_option maxRecDepth 100000 in
theorem NM:bO En (fun v=> ∃x:cy,v=pO x) 48:=by
 have h:=fz bn (T:=48) (by rw [nH]) (by rw [nH]) [(fun v=> ∃l:List Int,v=V.sl none 1 false (l.map (V.int .u8))),(fun v=> ∃n:Int,v=V.int .i64 n),(fun v=> ∃n:Int,v=V.int .i64 n)] (by rw [nH];exact ⟨D0,op3,op3,trivial⟩)
 rw [nH] at h
 refine h.mono ?_
 rintro v ⟨vs,h,rfl⟩
 obtain ⟨v0,vs0,rfl,⟨x0,h0⟩,h⟩:=aZ h
 obtain ⟨v1,vs1,rfl,⟨x1,h1⟩,h⟩:=aZ h
 obtain ⟨v2,vs2,rfl,⟨x2,h2⟩,h⟩:=aZ h
 cases fA h
 exact ⟨⟨x0,x1,x2⟩,by subst h0 h1 h2;simp only [go_sem,dQ]⟩
set_option maxRecDepth 100000 in
theorem NN (H:Type) (enc:TypeId×Value→H) (W:World) (base:Nat) (args:Array Value) (ds:List (DataW H)) (ps:List MemPlace) (hA:DataW.TrodAll enc En.P W 0 (fun _=>true) true Tryz.f4.params.toList args.toList ds ps)
  (hval: ∀(j:Nat) t v,Tryz.f4.params[j]? =some t→args[j]? =some v→Value.okWide En.P W .any base t v) (hb:Rows.uptoBulkAll ds≤1048576): ∃ws,rdT ro0 (gW W) ws args.toList∧a8 En 4 ws (.bool true) []:=by
 rw [Tryz.params4] at hA hval
 obtain ⟨v0,vs0,d0,ds0,p0,q0,hargs,rfl,rfl,h0,r0⟩:=trodAll_cons hA
 obtain ⟨v1,vs1,d1,ds1,p1,q1,rfl,rfl,rfl,h1,r1⟩:=trodAll_cons r0
 obtain ⟨v2,vs2,d2,ds2,p2,q2,rfl,rfl,rfl,h2,r2⟩:=trodAll_cons r1
 obtain ⟨rfl,rfl,rfl⟩:=trodAll_nil r2
 obtain rfl:args= #[v0,v1,v2]:=by cases args;simp_all
 simp only [Rows.uptoBulkAll] at hb
 obtain ⟨u0,⟨x0,rfl⟩,e0⟩:=yo bn (T:=45) (by rw [nF]) (by rw [nF];decide) NL (hval 0 45 v0 rfl rfl) h0 (by omega)
 obtain ⟨u1,⟨x1,rfl⟩,e1⟩:=yo bn (T:=46) (by rw [nG]) (by rw [nG];decide) D0 (hval 1 46 v1 rfl rfl) h1 (by omega)
 obtain ⟨u2,⟨x2,rfl⟩,e2⟩:=yo bn (T:=48) (by rw [nH]) (by rw [nH];decide) NM (hval 2 48 v2 rfl rfl) h2 (by omega)
 refine ⟨[bL x0,.sl none 1 false (x1.map (V.int .u8)),pO x2],⟨v0,[v1,v2],rfl,e0,v1,[v2],rfl,e1,v2,[],rfl,e2,rfl⟩,?_⟩
 have h:=(LL x0 x1 x2).ok
 rw [M9 x0 x1 x2 (lV (c:=gW W) (cs:=[v0,v1,v2]) ⟨v0,[v1,v2],rfl,e0,v1,[v2],rfl,e1,v2,[],rfl,e2,rfl⟩)] at h
 exact h
theorem NO:ownKnob Tryz.prog.godebug=none:=by kernel_rfl
theorem NP:laidOutB Tryz.prog=true:=by kernel_rfl
set_option maxRecDepth 100000 in
theorem NQ: ∀t∈Tryz.f4.params.toList,Tryz.prog.readableRec t=true∧t<Tryz.prog.types.size:=by
 intro t ht
 rw [Tryz.params4] at ht
 simp only [List.mem_cons,List.not_mem_nil,or_false] at ht
 rcases ht with rfl|rfl|rfl<;>exact ⟨by kernel_rfl,of_decide_eq_true (by kernel_rfl)⟩
set_option maxRecDepth 100000 in
theorem NR (H:Type) (ds:List (DataW H)) (h:ds.length=Tryz.f4.params.toList.length):Rows.purseCodesSpec.fn H ds={results:=[.lit (.bool true)],args:=ds}:=by
 rw [Tryz.params4] at h
 match ds,h with
 | [d0,d1,d2],_=>rfl
def uc:Array Value:= #[.agg #[.int .i64 0,.int .i64 0,.int .i64 0,.int .i64 0,.slice none 0 0,.slice none 0 0,.int .u8 0,.int .u8 0,.int .u8 0,.int .u8 0,.int .u8 0,.int .u8 0,.int .u8 0,.int .u8 0,.int .u8 0,.int .u8 0,.int .u8 0,.int .u8 0,.int .u8 0,.int .u8 0,.int .u8 0,.int .u8 0,.int .u8 0,.int .u8 0,.int .u8 0,.int .u8 0,.int .u8 0,.int .u8 0,.int .u8 0,.int .u8 0,.int .u8 0,.int .u8 0,.int .u8 0,.int .u8 0,.int .u8 0,.int .u8 0,.int .u8 0,.int .u8 0,.int .i64 0],.slice none 0 0,.agg #[.slice none 0 0,.int .i64 0,.int .i64 0]]
theorem NS (os:Os):laidMetH Tryz.prog Rows.purseCodesUptoRow.laid ((World.laidAll Tryz.prog os Rows.purseCodesUptoRow.laid).forCall (fun _ _=>0) ⟨#[],uc,[]⟩).memory:=by
 rw [MakeChecks.laidMetH_plain _ _ _ (by kernel_rfl)]
 exact laidMet_laidAll _ (by kernel_rfl) (by kernel_rfl)
theorem NT (os:Os) {H:Type} (enc:TypeId×Value→H): ∃places,DataW.whole enc Tryz.prog ((World.laidAll Tryz.prog os Rows.purseCodesUptoRow.laid).forCall (fun _ _=>0) ⟨#[],uc,[]⟩).memory Tryz.f4.params.toList Rows.purseCodesSpec.vars false (uc:Array Value).toList 8=some ([.agg [.lit (.int .i64 0),.lit (.int .i64 0),.lit (.int .i64 0),.lit (.int .i64 0),.nil,.nil,.agg [.agg (List.replicate 32 (.lit (.int .u8 0))),.lit (.int .i64 0)]],.nil,.agg [.nil,.lit (.int .i64 0),.lit (.int .i64 0)]],[],places):=⟨[],by kernel_rfl⟩
set_option maxRecDepth 100000 in
theorem NU (os:Os) (started:os.Started) (H:Type) (enc:TypeId×Value→H) (F:Stop.Interp):
  ReturnsInHanded {} Tryz.checked os 4 .any ((Rows.OpenSpec.upto Rows.purseCodesSpec).preRow enc Tryz.prog Tryz.f4 Rows.purseCodesUptoRow.domain false Rows.purseCodesUptoRow.laid) (((Rows.OpenSpec.upto Rows.purseCodesSpec).at F).post enc Tryz.prog Tryz.f4 false true false false):=by
 obtain ⟨places,hx⟩:=NT os enc
 refine returnsInHanded_of_row (C:=Tryz.checked) (s:=(Rows.OpenSpec.upto Rows.purseCodesSpec)) NO started (by kernel_rfl) Tryz.func4
  (witness_row_at (enc:=enc) (C:=Tryz.checked) false (World.laidAll Tryz.prog os Rows.purseCodesUptoRow.laid) uc (World.laidAll_os _ _ _) (by kernel_rfl) (by kernel_rfl) (by kernel_rfl)
   (OpenSpec.preRow_of_cond 8 hx (by kernel_rfl) (fun k hk=>by cases hk;kernel_rfl) (by kernel_rfl) (NS os))) ?_
 intro W base args ds gs before hval hW _ hk _ hL hsh _
 exact Np (E:=En) (bt:=4) Tryz.underlying4 rfl rfl NP NQ NR NN H enc W base args ds gs before hval hW (hk _ rfl) rfl (Nq hL hsh)
theorem NV {a b:Bool} (ha:a=true) (hb:b=true):(a&&b)=true:=by rw [ha,hb];rfl
theorem NW:(Rows.purseCodesUptoRow.wf (OpenSpec.ofChange (Rows.OpenSpec.upto Rows.purseCodesSpec).bare))=true:=by kernel_rfl
theorem NX:(laidOutB Tryz.prog)=true:=by kernel_rfl
theorem NY:(mapsRowed Tryz.prog)=true:=by kernel_rfl
theorem NZ:(Rows.purseCodesUptoRow.inPlace==Tryz.prog.inPlace 4)=true:=by kernel_rfl
theorem N0:(Rows.purseCodesUptoRow.unfollowed==Tryz.prog.unfollowed 4)=true:=by kernel_rfl
theorem N4:(Rows.purseCodesUptoRow.recurses==Tryz.prog.recurses 4)=true:=by kernel_rfl
theorem N5:(Rows.purseCodesUptoRow.named==Tryz.prog.varsNamed 4)=true:=by kernel_rfl
theorem N6:(Rows.purseCodesUptoRow.plainKeys==Tryz.prog.plainKeys)=true:=by kernel_rfl
theorem N7:(Tryz.prog.stopsHeard)=true:=by kernel_rfl
theorem N8:(Tryz.prog.mayEnter)=true:=by kernel_rfl
theorem N9:(Rows.purseCodesUptoRow.lifted==Tryz.prog.liftsFinal)=true:=by kernel_rfl
theorem N_:joinedFacts Tryz.prog 4 Tryz.f4 (Rows.OpenSpec.upto Rows.purseCodesSpec).bare Rows.purseCodesUptoRow=true:=by
 unfold joinedFacts
 repeat' (with_reducible refine NV ?_ ?_)
 all_goals first|with_reducible exact NW|with_reducible exact NX|with_reducible exact NY|with_reducible exact NZ|with_reducible exact N0|with_reducible exact N4|with_reducible exact N5|with_reducible exact N6|with_reducible exact N7|with_reducible exact N8|with_reducible exact N9|kernel_rfl
theorem Oa:Rows.PurseCodesUptoSaid:=
 OpenClaim.holds_of_cond 4 Tryz.f4 rfl rfl rfl rfl rfl rfl rfl ⟨rfl,rfl,rfl,rfl,rfl⟩ rfl rfl rfl rfl rfl (by kernel_rfl) Tryz.func4 N_
  (of_decide_eq_true (by kernel_rfl)) (by unfold Func.isWrapper;first|(rw [if_pos (by decide+kernel)];kernel_rfl)|(rw [if_neg (by decide+kernel)];exact ⟨rfl,rfl⟩))
  (fun os started H enc _ F=>by rw [OpenClaim.pre_eq_preRow];exact NU os started H enc F)
theorem Ob (f:FuncId) (fn:Func) (hf:Tryz.pinned.checked.prog.funcNamed "specie/specielaw42.PurseCodes" =some f) (hfn:Tryz.pinned.checked.prog.funcs[f]? =some fn):
  true=Tryz.pinned.checked.prog.looks []∧ ∀(j:Nat) t,fn.params[j]? =some t→Tryz.pinned.checked.prog.wantsStandIn t=false:=by
 obtain rfl:f=4:=Option.some.inj ((show Tryz.prog.funcNamed "specie/specielaw42.PurseCodes" =some 4 by kernel_rfl).symm.trans hf)|>.symm
 obtain rfl:fn=Tryz.f4:=(Option.some.inj (Tryz.func4.symm.trans hfn)).symm
 refine ⟨by kernel_rfl,fun j t ht=> ?_⟩
 have hall:(Tryz.f4.params.toList.all fun u=> !Tryz.prog.wantsStandIn u)=true:=by kernel_rfl
 have h0:=List.all_eq_true.1 hall t (Array.mem_toList_iff.2 (Array.mem_of_getElem? ht))
 exact (show Tryz.prog.wantsStandIn t=false by simpa using h0)
theorem purseCodes_holds:Rows.PurseCodesUptoCardSaid:=
 Claim7.holds_tied_plain_at .later [] _ _ _ _ Oa (fun _ h=>by cases h) (by kernel_rfl) (fun _ h=>by cases h) purseCodesUpto_row_tie rfl ⟨rfl,rfl⟩ (by kernel_rfl) rfl Ob (by kernel_rfl)
end Go.Proofs.YtiknkaadhomeiaaGreatDoor
