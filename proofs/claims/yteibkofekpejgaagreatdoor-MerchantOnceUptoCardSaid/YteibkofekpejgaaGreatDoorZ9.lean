/- Texts of this proof, one after the other: ED, M, H1, HS, HZ, H2. -/
import Derived.Test.YteibkofekpejgaaGreatDoorZ8
import Derived.Shelf.SlicesE.Delete
import Derived.TacticsInMore
import Derived.Test.YteibkofekpejgaaGreatDoorZ5
import Derived.Test.YteibkofekpejgaaGreatDoorZ6
import Derived.Test.YteibkofekpejgaaGreatDoorZ7
import Derived.Lib.BitFns
import Derived.KernelRfl
set_option linter.unusedVariables false
set_option linter.unusedSimpArgs false
namespace Go.Proofs.YteibkofekpejgaaGreatDoor
open Go.RowKit Go.Shelf Go.Lib
def py (s:List aL) (i j:Int):List aL:=s.take i.toNat++s.drop j.toNat
theorem Kx {P:Program} (w:World) (t e ty:TypeId) (z:Value) (zs:List Value) (ht:P.underlying t=some (.slice e)) (hv: ∀w,(zeroValue e).run P w= .ok z w) (b o n c:Nat) (hn:0<n) (hz:(Builtin.zeroCells z.cells n).toList=zs)
  (h1: ∀v∈zs,v.oneCell'=true) (hc: ∀j,j<zs.length→(w.cell? ⟨b,o+j,none⟩).isSome=true) (hf: ∀j,j<zs.length→w.frozen? ⟨b,o+j,none⟩=false):
  (Builtin.clear_ #[t] ty #[.slice (some ⟨b,o,none⟩) n c]).run P w= .ok (.tuple #[]) (w.setCells b o zs):=by
 have hst:=run_storeCells_cells (P:=P) b o zs 0 w (by simpa using hc) (by simpa using hf) h1
 simp only [Nat.add_zero] at hst
 obtain ⟨m,rfl⟩: ∃m,n=m+1:=⟨n - 1,by omega⟩
 simp [Builtin.clear_,run_underlying ht,hv,hz,hst]
set_option maxHeartbeats 4000000 in
set_option maxRecDepth 1000000 in
theorem Ky (w:World) (blk len cap i j:Nat) (news zs:List Value) (i0:TypeInfo) (hi0:Tryz.prog.info? 50=some i0) (hz1:i0.size=35) (z:Value) (hv: ∀w,(zeroValue 50).run Tryz.prog w= .ok z w) (hz:(Builtin.zeroCells z.cells (j - i)).toList=zs) (hzl:zs.length=(j - i)*35) (hz2: ∀v∈zs,v.oneCell'=true)
  (hij:i<j) (hj:j≤len) (hcap:len≤cap) (hm:cap≤9223372036854775807) (hn:news.length=(len - j)*35) (hn1: ∀u∈news,u.oneCell'=true)
  (hnc: ∀t u,news[t]? =some u→w.cell? ⟨blk,j*35+t,none⟩=some u) (hcs: ∀t,t<len*35→(w.cell? ⟨blk,t,none⟩).isSome=true) (hfz: ∀(w':World) t,(∀t,w'.frozen? ⟨blk,t,none⟩=w.frozen? ⟨blk,t,none⟩)→w'.frozen? ⟨blk,t,none⟩=false)
  (hset: ∀t,((w.drew.setCells blk (i*35) news).cell? ⟨blk,t,none⟩).isSome=(w.cell? ⟨blk,t,none⟩).isSome) (hsf: ∀t,(w.drew.setCells blk (i*35) news).frozen? ⟨blk,t,none⟩=w.frozen? ⟨blk,t,none⟩):
  Calls Tryz.prog 38 #[.slice (some ⟨blk,0,none⟩) len cap,.int .i64 (i:Int),.int .i64 (j:Int)] w fun e w'=>e= .returned (.slice (some ⟨blk,0,none⟩) (len - (j - i)) cap)∧w'=(w.drew.setCells blk (i*35) news).setCells blk ((i+(len - j))*35) zs:=by
 obtain ⟨A,hA,hsrc⟩: ∃A:Addr,(if cap=j then some (⟨blk,0,none⟩:Addr) else some ⟨blk,j*35,none⟩)=some A∧Hid (∀t u,news[t]? =some u→w.drew.cell? (A.add t)=some u):=by
  by_cases h:cap=j
  ·refine ⟨⟨blk,0,none⟩,by simp [h],⟨fun t u hu=> ?_⟩⟩
   have h0:news.length=0:=by rw [hn,show len - j=0 by omega]
   rw [List.length_eq_zero_iff.1 h0] at hu
   simp at hu
  ·refine ⟨⟨blk,j*35,none⟩,by simp [h],⟨fun t u hu=> ?_⟩⟩
   rw [Addr.add_lit]
   exact hnc t u hu
 have s1:Hid (news.length=(len - j)*35):=⟨hn⟩
 have s2:Hid (∀u∈news,u.oneCell'=true):=⟨hn1⟩
 have s3:Hid (∀t,t<news.length→(w.drew.cell? ⟨blk,0+i*35+t,none⟩).isSome=true∧w.drew.frozen? ⟨blk,0+i*35+t,none⟩=false):=⟨by
  intro t ht
  rw [hn] at ht
  refine ⟨?_,hfz w.drew _ fun t=>rfl⟩
  exact hcs (0+i*35+t) (by omega)⟩
 obtain ⟨W1,hW1⟩: ∃W1,W1=w.drew.setCells blk (0+i*35) news:=⟨_,rfl⟩
 have hcl: ∀ty,(Builtin.clear_ #[32] ty #[.slice (some ⟨blk,(i+(len - j))*35,none⟩) (len - (i+(len - j))) (cap - (i+(len - j)))]).run Tryz.prog W1= .ok (.tuple #[]) (W1.setCells blk ((i+(len - j))*35) zs):=fun ty=>
  Kx (P:=Tryz.prog) W1 32 50 ty z zs Tryz.underlying32 hv blk ((i+(len - j))*35) _ _ (by omega) (by rw [show len - (i+(len - j))=j - i by omega];exact hz) hz2
   (fun t ht=>by rw [hW1,Nat.zero_add,hset];rw [hzl] at ht;exact hcs _ (by omega)) (fun t ht=>by rw [hW1,Nat.zero_add];exact hfz _ _ hsf)
 have hW:Hid (W1=w.drew.setCells blk (0+i*35) news):=⟨hW1⟩
 have hic:i≤cap:=by omega
 have hjc:j≤cap:=by omega
 have hq1:(i:Int)≤(j:Int):=by omega
 have hq2:(j:Int)≤(len:Int):=by omega
 have hq3: ¬(i:Int)=(j:Int):=by omega
 clear hW1 hnc hcs hfz hset hsf hn hn1
 have mixed:Tryz.prog.follows Departure.mixedOrders=true:=by kernel_rfl
 go_enter Tryz.func38,Tryz.ntmps38
 go_wp2_with fail
 go_region_law_o (refine step_append_room rfl (.tmp 22) (.tmp 25) 32 rfl 50 i0 35 Tryz.underlying32 hi0 hz1 blk 0 i cap (by simp [Act.eval,Act.put]) A (len - j) (cap - j) news (by simp [Act.eval,Act.put]) s1.out hsrc.out s2.out (by omega) s3.out ?_;rw [←hW.out])
 go_wp2
 go_ret
 refine ⟨by rw [show len - (j - i)=i+(len - j) by omega];rfl,?_⟩
 rw [hW.out,Nat.zero_add]
theorem Kz: ∃i:TypeInfo,Tryz.prog.info? 50=some i∧i.size=35:=by
 have h:(Tryz.prog.info? 50).map (fun i=>i.size)=some 35:=by kernel_rfl
 cases hi:Tryz.prog.info? 50 with
 | none=>rw [hi] at h;cases h
 | some i=>rw [hi] at h;simp only [Option.map_some,Option.some.injEq] at h;exact ⟨i,rfl,h⟩
def pz:Value:= .agg (Array.replicate 32 (Value.int .u8 0)++ #[Value.int .i64 0,Value.int .i64 0,Value.int .i64 0])
theorem KA (w:World):(zeroValue 50).run Tryz.prog w= .ok pz w:=Tryz.zeroValue50 w
theorem KB:pz.cells.size=35:=by decide
theorem KC: ∀v∈pz.cells.toList,v.oneCell'=true:=by decide
theorem KD {cs:Array Value} {n:Nat} {v:Value} (h:v∈(Builtin.zeroCells cs n).toList):v∈cs.toList:=by
 unfold Builtin.zeroCells at h
 simp only [Array.toList_map,List.mem_map] at h
 obtain ⟨a,ha,rfl⟩:=h
 have ha':a<n*cs.size:=by simpa using ha
 have hs:0<cs.size:=by
  rcases Nat.eq_zero_or_pos cs.size with h|h
  ·rw [h,Nat.mul_zero] at ha';omega
  ·exact h
 have hlt:a% cs.size<cs.size:=Nat.mod_lt _ hs
 rw [getElem!_pos cs _ hlt]
 exact Array.mem_toList_iff.2 (Array.getElem_mem hlt)
set_option maxHeartbeats 4000000 in
theorem KE (z0:Option Bool) (l:List V) (i j:Nat) (hij:i<j) (hj:j≤l.length) (hl:l.length≤1000):
  eC En 38 [.own 0,.int .i64 (i:Int),.int .i64 (j:Int)] [.own 50 35 true z0 l] (.own 0) [.own 50 35 true none (l.take i++l.drop j)] []:=by
 refine ⟨(show∀xs w,(callFunc 38 xs).run Tryz.prog w= .ok (.enter 38 xs) w from enters_of Tryz.func38 (by kernel_rfl) rfl),rfl,fun c us ρ0 ks hg hin hus=> ?_⟩
 simp only [rdT,rd] at hus
 obtain ⟨u,c2,rfl,⟨hu0,hone⟩,ui,c3,rfl,⟨rfl,hir⟩,uj,c4,rfl,⟨rfl,hjr⟩,rfl⟩:=hus
 obtain ⟨u',e1,hso,hsm,hog,a,cp,es,hz⟩:=hin.1 0 _ rfl
 rw [hu0] at e1;cases e1
 rcases hso.2 with ⟨a',ea,h0⟩|⟨g,cap,cur,eu,gX,gh,g3,g4,g5,g6⟩
 ·subst h0;simp at hj;omega
 subst eu
 have g5':cur.size=(cap+1)*35:=by simpa [rV] using g5
 have g6':aZ (rV ro0 35 true) c (cur.toList.take (l.length*35)) l:=by simpa [rV] using g6
 have hglt:=c.ok g gX
 have hgY:g∈c.Y:=by
  rcases hsm g rfl with h|h
  ·omega
  ·exact h
 have hcl:cur.toList.length=(cap+1)*35:=by simpa using g5'
 have hcell: ∀t,c.w.cell? ⟨g,t,none⟩=cur.toList[t]? :=fun t=>by simp only [World.cell?,gh];simp
 obtain ⟨news,hnews⟩: ∃news,news=(cur.toList.take (l.length*35)).drop (j*35):=⟨_,rfl⟩
 have hnl:news.length=(l.length - j)*35:=by rw [hnews,List.length_drop,List.length_take,hcl];omega
 have h1c: ∀v∈cur.toList.take (l.length*35),v.oneCell'=true:=od g6'
 obtain ⟨zs,hzs⟩: ∃zs,(Builtin.zeroCells pz.cells (j - i)).toList=zs:=⟨_,rfl⟩
 have hzl:zs.length=(j - i)*35:=by rw [←hzs,Array.length_toList,size_zeroCells,KB]
 obtain ⟨i0,hi0,hs0⟩:=Kz
 have gh':c.w.drew.heap[g]? =some (.cells cur 50 (0,0)):=gh
 obtain ⟨cur1,q1,q2,q3⟩:=xr g news (i*35) c.w.drew cur 50 gh' (by rw [hnl,g5'];omega)
 have hfz: ∀t,c.w.frozen? ⟨g,t,none⟩=false:=fun t=>by simp [World.frozen?,gh]
 refine (Ky c.w g l.length (cap+1) i j news zs i0 hi0 hs0 pz KA hzs hzl (fun v hv=>KC v (KD (by rw [hzs];exact hv))) hij hj g3 (by unfold maxLen at g4;omega) hnl (fun u hu=>h1c u (by rw [hnews] at hu;exact List.mem_of_mem_drop hu))
  (fun t u hu=> ?_) (fun t ht=> ?_) (fun w' t h=>by rw [h];exact hfz t) (fun t=> ?_) (fun t=>by rw [hfz t];simp [World.frozen?,q1])).mono ?_
 ·rw [hcell]
  rw [hnews,List.getElem?_drop,List.getElem?_take] at hu
  split at hu
  ·exact hu
  ·cases hu
 ·rw [hcell,List.getElem?_eq_getElem (by rw [hcl];omega)];rfl
 ·rw [hcell]
  simp only [World.cell?,q1]
  by_cases ht:t<cur.size
  ·rw [List.getElem?_eq_getElem (by simpa using ht),Array.getElem?_eq_getElem (by omega)];rfl
  ·rw [List.getElem?_eq_none (by simpa using ht),Array.getElem?_eq_none (by omega)];rfl
 rintro e w' ⟨he,rfl⟩
 obtain ⟨l',hl'⟩: ∃l',l'=l.take i++l.drop j:=⟨_,rfl⟩
 have hll:l'.length=l.length - (j - i):=by rw [hl',List.length_append,List.length_take,List.length_drop];omega
 rw [←hl']
 obtain ⟨r1,r2,r3,r4⟩:=xu g news (i*35) c.w.drew
 obtain ⟨cur2,t1,t2,t3⟩:=xr g zs ((i+(l.length - j))*35) _ cur1 50 q1 (by rw [hzl,q2,g5'];omega)
 obtain ⟨y1,y2,y3,y4⟩:=xu g zs ((i+(l.length - j))*35) (c.w.drew.setCells g (i*35) news)
 have hlc1:cur1.toList.length=(cap+1)*35:=by rw [Array.length_toList,q2,g5']
 have hrow:cur2.toList.take (l'.length*35)=cur.toList.take (i*35)++news:=by
  have e1:cur2.toList.take (l'.length*35)=cur1.toList.take (l'.length*35):=by
   rw [t3,show (i+(l.length - j))*35=l'.length*35 by rw [hll];omega,List.append_assoc]
   exact List.take_left' (by rw [List.length_take,hlc1];omega)
  rw [e1,q3]
  exact List.take_left' (by rw [List.length_append,List.length_take,hcl,hnl];omega)
 have harr:aZ (rV ro0 35 true) c (cur.toList.take (i*35)++news) l':=by
  rw [hl',hnews]
  have h1:=oo i g6'
  have h2:=qJ j g6'
  rw [show (rV ro0 35 true).n=35 from rfl] at h1 h2
  rw [List.take_take,show min (i*35) (l.length*35)=i*35 by omega] at h1
  exact kL h1 h2
 have hoth: ∀k,k≠g→((c.w.drew.setCells g (i*35) news).setCells g ((i+(l.length - j))*35) zs).heap[k]? =c.w.heap[k]? :=fun k hk=>(xt g _ _ _ k hk).trans (xt g _ _ c.w.drew k hk)
 have hsz:((c.w.drew.setCells g (i*35) news).setCells g ((i+(l.length - j))*35) zs).heap.size=c.w.heap.size:=y1.trans r1
 generalize (c.w.drew.setCells g (i*35) news).setCells g ((i+(l.length - j))*35) zs=w' at*
 have hc': ∀k,k∈c.X→k<w'.heap.size:=fun k hk=>by rw [hsz];exact c.ok k hk
 have hpub:c.pub ⟨c.X,w',hc',[]⟩:=⟨by rw [hsz];exact Nat.le_refl _,fun k _ hkX=>⟨hkX,fun o ho _=>(hoth k (fun h=>hkX (h▸gX))).trans ho⟩⟩
 refine ⟨.slice (some ⟨g,0,none⟩) l'.length (cap+1),⟨c.X,w',hc',[]⟩,(fun i=>if i=0 then some (.slice (some ⟨g,0,none⟩) l'.length (cap+1)) else none),by rw [hll];exact he,rfl,⟨⟨y2.trans r2,y3.trans r3,y4.trans r4,by rw [hsz];exact Nat.le_refl _,fun k _ h2=>hoth k (fun h=>h2 (h▸hgY))⟩,fun k _ _=>Iff.rfl⟩,⟨rfl,rfl⟩,?_,?_,?_⟩
 ·intro q bb hq
  match q,hq with
  | 0,hq=>
   simp [bY,fy] at hq;subst hq
   refine ⟨_,rfl,⟨by show l'.length≤LEN;unfold LEN;omega,.inr ⟨g,cap,cur2,rfl,gX,t1,by omega,g4,by show cur2.size=(cap+1)*35;rw [t2,q2,g5'],?_⟩⟩,fun k hk=> ?_,fun h=>(by cases h),some ⟨g,0,none⟩,cap+1,rfl,by simp [zOk]⟩
   ·show aZ _ _ (cur2.toList.take (l'.length*35)) l'
    rw [hrow]
    exact c_ hpub harr
   ·have:k=g:=by
     rcases Nat.eq_zero_or_pos cap with h|h<;> · simp [blk] at hk;exact hk.symm
    subst this
    exact .inr hgY
  | q+1,hq=>simp [bY] at hq
 ·intro q hq
  simp [bY] at hq
  have h0:q≠0:=by omega
  simp [h0]
 ·intro q q' bq bq' k hne hq hq'
  match q,q',hq,hq' with
  | 0,0,_,_=>exact absurd rfl hne
  | q+1,_,hq,_=>simp [bY] at hq
  | 0,q'+1,_,hq'=>simp [bY] at hq'
theorem KF (z0:Option Bool) (s_:List aL) (i_ j_:Int) (hp0:0≤i_) (hp1:i_<j_) (hp2:j_.toNat≤s_.length) (hp3:s_.length≤1000):
  eC En 38 [.own 0,.int .i64 i_,.int .i64 j_] [.own 50 35 true z0 (s_.map aY)] (.own 0) [.own 50 35 true none ((py s_ i_ j_).map aY)] []:=by
 obtain ⟨i,rfl⟩: ∃i:Nat,i_=i:=⟨i_.toNat,by omega⟩
 obtain ⟨j,rfl⟩: ∃j:Nat,j_=j:=⟨j_.toNat,by omega⟩
 have:=KE z0 (s_.map aY) i j (by omega) (by simpa using hp2) (by simpa using hp3)
 simpa only [py,Int.toNat_natCast,List.map_append,List.map_take,List.map_drop] using this
end Go.Proofs.YteibkofekpejgaaGreatDoor
namespace Go.Proofs.YteibkofekpejgaaGreatDoor
open Go.RowKit
def eT (x_:Int) (low:Int) (high:Int):Bool:=
 (if (decide (x_≥low)) then (decide (x_≤high)) else false)
def pA (r_:bZ):Bool:=
 (mU (fun (p1:Bool)=>(if p1 then (aa (eT (r_.A) 0 1099511627776) (fun (x3:Bool)=>(if x3 then (r_.B==0) else false))) else (if (r_.Kind==2) then (aa (eT (r_.A) 0 1000) (fun (x9:Bool)=>(if x9 then (r_.B==0) else false))) else (if (r_.Kind==3) then (aa (eT (r_.A) 0 8) (fun (x16:Bool)=>(if x16 then (r_.B==0) else false))) else (if (r_.Kind==5) then (aa (eT (r_.A) 0 23) (fun (x23:Bool)=>(if x23 then (aa (eT (r_.B) 0 23) (fun (x27:Bool)=>(if x27 then (r_.A !=r_.B) else false))) else false))) else false))))) (fun j1=>(if (r_.Kind==1) then (j1 true) else (j1 (r_.Kind==4)))))
def ng (r_:bZ):Bool:=
 (aa (pA r_) (fun (x1:Bool)=>(!x1)))
def sZ (s:(List bZ)):Int:=
 (ae (((s.length:Int) - 0).toNat+1) (fun (ag1:Int→Int) (p1:Int)=>(if (decide (p1<(s.length:Int))) then (aa (ng (gt s p1)) (fun (x5:Bool)=>(if x5 then p1 else (ag1 (p1+1))))) else (-1))) (fun _=>default) 0)
def pB (s:(List bZ)):Bool:=
 (aa (sZ s) (fun (x1:Int)=>(decide (x1≥0))))
def kf (p_:dC):Bool:=
 (if (decide ((p_.Rules.length:Int)≤20)) then (aa (pB (p_.Rules)) (fun (x3:Bool)=>(!x3))) else false)
def s4 (s:List bZ):List bZ:=s
def xv (name:(List Int)) (p_:dC):(aw×Int):=
 (aa (kf p_) (fun (x1:Bool)=>(if (!x1) then (bK,1) else (aa (s4 (p_.Rules)) (fun (x7:(List bZ))=>(({Name:=name,Policy:=({Rules:=x7}:dC),Open:=([]:List aL),Next:=0,Queue:=([]:List aA),Paid:=([]:List aL),Total:=0,Blocked:=([]:List Int),Now:=0}:aw),0))))))
def kg (l:(List Int)):Bool:=
 (ae (((l.length:Int) - 1).toNat+1) (fun (ag1:Int→Bool) (p1:Int)=>(if (decide (p1<(l.length:Int))) then (if (decide ((gt l p1)≤(gt l (p1 - 1)))) then false else (ag1 (p1+1))) else true)) (fun _=>default) 1)
def lP (v:aL):Bool:=
 (if (decide (v.Amount≥1)) then (if (decide (v.Amount≤1099511627776)) then (if (decide (v.Time≥0)) then (if (decide (v.Time≤1099511627776)) then (if (decide (v.Number≥0)) then (decide (v.Number≤1073741824)) else false) else false) else false) else false) else false)
def pC (v:aL):(eF×Int):=
 (aa (lP v) (fun (x1:Bool)=>(if (!x1) then (lH,1) else (({Payee:=v.Payee,Time:=v.Time,Number:=v.Number}:eF),0))))
def iu (m:aw) (v:aL):Bool:=
 (aa (pC v) (fun (x1:(eF×Int))=>(if (x1.2==0) then (if (eH (v.Payee) (m.Name)) then (if (decide (v.Time≤m.Now)) then (decide (v.Number<m.Next)) else false) else false) else false)))
def s5 (s:(List Int)) (v:Int):Int:=
 (ae (((s.length:Int) - 0).toNat+1) (fun (ag1:Int→Int) (p1:Int)=>(if (decide (p1<(s.length:Int))) then (if (v==(gt s p1)) then p1 else (ag1 (p1+1))) else (-1))) (fun _=>default) 0)
def kh (s:(List Int)) (v:Int):Bool:=
 (aa (s5 s v) (fun (x1:Int)=>(decide (x1≥0))))
def di (m:aw):Bool:=
 (aa (kf (m.Policy)) (fun (x1:Bool)=>(if (!x1) then false else (if (decide (m.Now<0)) then false else (if (decide (m.Now>1099511627776)) then false else (if (decide (m.Next<0)) then false else (if (decide (m.Next>1073741824)) then false else (if (decide ((m.Open.length:Int)>50)) then false else (if (decide ((m.Queue.length:Int)>50)) then false else (if ((m.Paid.length:Int) !=(m.Queue.length:Int)) then false else (if (decide ((m.Blocked.length:Int)>100)) then false else (aa (kg (m.Blocked)) (fun (x23:Bool)=>(if (!x23) then false else (if (decide ((m.Blocked.length:Int)>0)) then (if (decide ((gt m.Blocked 0)≤0)) then false else (ae (((m.Open.length:Int) - 0).toNat+1) (fun (ag34:(Int×List Int)→Bool) (p34:Int×List Int)=>(if (decide (p34.1<(m.Open.length:Int))) then (aa (iu m (gt m.Open p34.1)) (fun (x38:Bool)=>(if (!x38) then false else (ag34 ((p34.1+1),(p34.2++([(gt m.Open p34.1).Number]:List Int))))))) else (aa (kg (p34.2)) (fun (x45:Bool)=>(if (!x45) then false else (ae (((m.Paid.length:Int) - 0).toNat+1) (fun (ag51:(Int×Int×List Int)→Bool) (p51:Int×Int×List Int)=>(if (decide (p51.2.1<(m.Paid.length:Int))) then (aa (iu m (gt m.Paid p51.2.1)) (fun (x55:Bool)=>(if (!x55) then false else (if ((gt m.Queue p51.2.1).Number !=(gt m.Paid p51.2.1).Number) then false else (aa (kh (p51.2.2) ((gt m.Paid p51.2.1).Number)) (fun (x62:Bool)=>(if x62 then false else (ag51 ((al .i64 p51.1 (gt m.Paid p51.2.1).Amount),(p51.2.1+1),(p51.2.2++([(gt m.Paid p51.2.1).Number]:List Int))))))))))) else (if (p51.1==m.Total) then (decide (p51.1≤1099511627776)) else false))) (fun _=>default) (0,0,p34.2))))))) (fun _=>default) (0,([]:List Int)))) else (ae (((m.Open.length:Int) - 0).toNat+1) (fun (ag73:(Int×List Int)→Bool) (p73:Int×List Int)=>(if (decide (p73.1<(m.Open.length:Int))) then (aa (iu m (gt m.Open p73.1)) (fun (x77:Bool)=>(if (!x77) then false else (ag73 ((p73.1+1),(p73.2++([(gt m.Open p73.1).Number]:List Int))))))) else (aa (kg (p73.2)) (fun (x84:Bool)=>(if (!x84) then false else (ae (((m.Paid.length:Int) - 0).toNat+1) (fun (ag90:(Int×Int×List Int)→Bool) (p90:Int×Int×List Int)=>(if (decide (p90.2.1<(m.Paid.length:Int))) then (aa (iu m (gt m.Paid p90.2.1)) (fun (x94:Bool)=>(if (!x94) then false else (if ((gt m.Queue p90.2.1).Number !=(gt m.Paid p90.2.1).Number) then false else (aa (kh (p90.2.2) ((gt m.Paid p90.2.1).Number)) (fun (x101:Bool)=>(if x101 then false else (ag90 ((al .i64 p90.1 (gt m.Paid p90.2.1).Amount),(p90.2.1+1),(p90.2.2++([(gt m.Paid p90.2.1).Number]:List Int))))))))))) else (if (p90.1==m.Total) then (decide (p90.1≤1099511627776)) else false))) (fun _=>default) (0,0,p73.2))))))) (fun _=>default) (0,([]:List Int))))))))))))))))))
def nh (now:Int):Int:=
 (cJ .i64 (cB .i64 now 3600) 24)
def xw (r_:bZ) (amount:Int) (number:Int) (transfers:Int) (hour:Int) (sum:Int):Bool:=
 (if (r_.Kind==1) then (decide (amount≤r_.A)) else (if (r_.Kind==2) then (decide (number≤r_.A)) else (if (r_.Kind==3) then (decide (transfers≤r_.A)) else (if (r_.Kind==4) then (decide ((al .i64 sum amount)≤r_.A)) else (if (decide (r_.A<r_.B)) then (if (decide (r_.A≤hour)) then (decide (hour<r_.B)) else false) else (if (decide (hour≥r_.A)) then true else (decide (hour<r_.B))))))))
def xx (r_:bZ) (c0:Int) (c1:Int) (c2:Int) (c3:Int) (c4:Int):Bool:=
 (aa (xw r_ c0 c1 c2 c3 c4) (fun (x1:Bool)=>(!x1)))
def xy (s:(List bZ)) (f__c0:Int) (f__c1:Int) (f__c2:Int) (f__c3:Int) (f__c4:Int):Int:=
 (ae (((s.length:Int) - 0).toNat+1) (fun (ag1:Int→Int) (p1:Int)=>(if (decide (p1<(s.length:Int))) then (aa (xx (gt s p1) f__c0 f__c1 f__c2 f__c3 f__c4) (fun (x5:Bool)=>(if x5 then p1 else (ag1 (p1+1))))) else (-1))) (fun _=>default) 0)
def ni (p_:dC) (amount:Int) (number:Int) (transfers:Int) (hour:Int) (sum:Int):(Bool×Int):=
 (aa (kf p_) (fun (x1:Bool)=>(if (!x1) then (false,(-1)) else (aa (eT amount 0 1099511627776) (fun (x6:Bool)=>(if (!x6) then (false,(-1)) else (aa (eT sum 0 1099511627776) (fun (x11:Bool)=>(if (!x11) then (false,(-1)) else (aa (eT number 0 1000) (fun (x16:Bool)=>(if (!x16) then (false,(-1)) else (aa (eT transfers 0 8) (fun (x21:Bool)=>(if (!x21) then (false,(-1)) else (aa (eT hour 0 23) (fun (x26:Bool)=>(if (!x26) then (false,(-1)) else (aa (xy (p_.Rules) amount number transfers hour sum) (fun (x32:Int)=>((decide (x32<0)),x32)))))))))))))))))))))
def xz (p_:dC) (hour:Int) (sum:Int):(Int×Int):=
 (aa (kf p_) (fun (x1:Bool)=>(if (!x1) then (0,1) else (aa (eT hour 0 23) (fun (x7:Bool)=>(if (!x7) then (0,2) else (aa (eT sum 0 1099511627776) (fun (x12:Bool)=>(if (!x12) then (0,2) else (aa (ni p_ 0 0 0 hour sum) (fun (x18:(Bool×Int))=>(if (!x18.1) then (0,16) else (ae (((p_.Rules.length:Int) - 0).toNat+1) (fun (ag24:(Int×Int)→(Int×Int)) (p24:Int×Int)=>(if (decide (p24.2<(p_.Rules.length:Int))) then (if ((gt p_.Rules p24.2).Kind==1) then (ag24 ((eK p24.1 (gt p_.Rules p24.2).A),(p24.2+1))) else (if ((gt p_.Rules p24.2).Kind==4) then (ag24 ((eK p24.1 (aB .i64 (gt p_.Rules p24.2).A sum)),(p24.2+1))) else (ag24 (p24.1,(p24.2+1))))) else (p24.1,0))) (fun _=>default) (1099511627776,0))))))))))))))
def s6 (s:List aL):List aL:=s
def nj (s:List Int):List Int:=s
def C6 (s:List dR):List dR:=s
def C7 (s:List (List Int)):List (List Int):=s
def pD (s:au):au:=
 (aa (C6 (s.Leaves)) (fun (x1:(List dR))=>(aa (C7 (s.Path.L)) (fun (x3:(List (List Int)))=>({Coin:=s.Coin,Node:=s.Node,Context:=s.Context,Leaves:=x1,Path:=({Index:=s.Path.Index,L:=x3}:eG)}:au)))))
def nk (l:(List au)):(List au):=
 (ae (((l.length:Int) - 0).toNat+1) (fun (ag1:(Int×List au)→(List au)) (p1:Int×List au)=>(if (decide (p1.1<(l.length:Int))) then (aa (pD (gt l p1.1)) (fun (x5:au)=>(ag1 ((p1.1+1),(p1.2++([x5]:List au)))))) else p1.2)) (fun _=>default) (0,([]:List au)))
def nl (p_:aA):aA:=
 (aa (nk (p_.Spends)) (fun (x1:(List au))=>(ae (((p_.Chains.length:Int) - 0).toNat+1) (fun (ag3:(Int×List bh)→aA) (p3:Int×List bh)=>(if (decide (p3.1<(p_.Chains.length:Int))) then (aa (pD ((gt p_.Chains p3.1).First)) (fun (x7:au)=>(aa (nk ((gt p_.Chains p3.1).L)) (fun (x9:(List au))=>(ag3 ((p3.1+1),(p3.2++([({First:=x7,L:=x9}:bh)]:List bh)))))))) else (ae (((p_.Escrow.length:Int) - 0).toNat+1) (fun (ag12:(Int×List b9)→aA) (p12:Int×List b9)=>(if (decide (p12.1<(p_.Escrow.length:Int))) then (aa (nj ((gt p_.Escrow p12.1).Proof.A)) (fun (x16:(List Int))=>(aa (nj ((gt p_.Escrow p12.1).Proof.Z)) (fun (x18:(List Int))=>(ag12 ((p12.1+1),(p12.2++([({E1:=(gt p_.Escrow p12.1).E1,E2:=(gt p_.Escrow p12.1).E2,Proof:=({A:=x16,C:=(gt p_.Escrow p12.1).Proof.C,Z:=x18}:dS)}:b9)]:List b9)))))))) else ({Number:=p_.Number,Spends:=x1,Chains:=p3.2,Escrow:=p12.2}:aA))) (fun _=>default) (0,([]:List b9))))) (fun _=>default) (0,([]:List bh)))))
def kj (m:aw):aw:=
 (aa (s4 (m.Policy.Rules)) (fun (x1:(List bZ))=>(aa (s6 (m.Open)) (fun (x4:(List aL))=>(aa (s6 (m.Paid)) (fun (x6:(List aL))=>(aa (nj (m.Blocked)) (fun (x8:(List Int))=>(ae (((m.Queue.length:Int) - 0).toNat+1) (fun (ag10:(Int×List aA)→aw) (p10:Int×List aA)=>(if (decide (p10.1<(m.Queue.length:Int))) then (aa (nl (gt m.Queue p10.1)) (fun (x14:aA)=>(ag10 ((p10.1+1),(p10.2++([x14]:List aA)))))) else ({Name:=m.Name,Policy:=({Rules:=x1}:dC),Open:=x4,Next:=m.Next,Queue:=p10.2,Paid:=x6,Total:=m.Total,Blocked:=x8,Now:=m.Now}:aw))) (fun _=>default) (0,([]:List aA)))))))))))
def pE (m:aw) (amount:Int):(aw×aL×Int):=
 (aa (di m) (fun (x1:Bool)=>(if (!x1) then (bK,eE,1) else (if (decide (amount<1)) then (bK,eE,2) else (if (decide (amount>1099511627776)) then (bK,eE,2) else (aa (nh (m.Now)) (fun (x14:Int)=>(aa (xz (m.Policy) x14 (m.Total)) (fun (x16:(Int×Int))=>(if (x16.2 !=0) then (bK,eE,16) else (if (decide (amount>x16.1)) then (bK,eE,16) else (if ((m.Open.length:Int)==50) then (bK,eE,5) else (if (m.Next==1073741824) then (bK,eE,5) else (aa (kj m) (fun (x28:aw)=>(({Name:=x28.Name,Policy:=x28.Policy,Open:=(x28.Open++([({Payee:=m.Name,Amount:=amount,Time:=m.Now,Number:=m.Next}:aL)]:List aL)),Next:=(al .i64 x28.Next 1),Queue:=x28.Queue,Paid:=x28.Paid,Total:=x28.Total,Blocked:=x28.Blocked,Now:=x28.Now}:aw),({Payee:=m.Name,Amount:=amount,Time:=m.Now,Number:=m.Next}:aL),0))))))))))))))))
def jm:Bool:=
 (aa (xv ([1,0,0,0,0,0,0,0,0,0,0,0,0,0,0,0,0,0,0,0,0,0,0,0,0,0,0,0,0,0,0,0]) ({Rules:=([({Kind:=1,A:=50,B:=0}:bZ)]:List bZ)}:dC)) (fun (x1:(aw×Int))=>(aa (pE (x1.1) 50) (fun (x4:(aw×aL×Int))=>(aa (pE (x4.1) 20) (fun (x7:(aw×aL×Int))=>(aa (pE (x7.1) 51) (fun (x10:(aw×aL×Int))=>(if (x1.2==0) then (if (x4.2.2==0) then (if (j5 (x4.2.1) ({Payee:=[1,0,0,0,0,0,0,0,0,0,0,0,0,0,0,0,0,0,0,0,0,0,0,0,0,0,0,0,0,0,0,0],Amount:=50,Time:=0,Number:=0}:aL)) then (if (x7.2.2==0) then (if (x7.2.1.Number==1) then (x10.2.2==16) else false) else false) else false) else false) else false)))))))))
def pF (h_:bh):Bool:=
 (decide ((h_.L.length:Int)>12))
def pG (x_:b9):Bool:=
 (if (decide ((x_.Proof.A.length:Int)>20)) then true else (decide ((x_.Proof.Z.length:Int)>20)))
def gK (h_:bh):(List au):=
 (([h_.First]:List au)++h_.L)
def lQ (p_:aA):(List au):=
 (ae (((p_.Spends.length:Int) - 0).toNat+1) (fun (ag1:(Int×List au)→(List au)) (p1:Int×List au)=>(if (decide (p1.1<(p_.Spends.length:Int))) then (ag1 ((p1.1+1),(p1.2++([(gt p_.Spends p1.1)]:List au)))) else (ae (((p_.Chains.length:Int) - 0).toNat+1) (fun (ag6:(Int×List au)→(List au)) (p6:Int×List au)=>(if (decide (p6.1<(p_.Chains.length:Int))) then (aa (gK (gt p_.Chains p6.1)) (fun (x10:(List au))=>(ae (((x10.length:Int) - 0).toNat+1) (fun (ag14:(Int×List au)→(List au)) (p14:Int×List au)=>(if (decide (p14.1<(x10.length:Int))) then (ag14 ((p14.1+1),(p14.2++([(gt x10 p14.1)]:List au)))) else (ag6 ((p6.1+1),p14.2)))) (fun _=>default) (0,p6.2)))) else p6.2)) (fun _=>default) (0,p1.2)))) (fun _=>default) (0,([]:List au)))
def pH (s:au):Bool:=
 (if (decide ((s.Leaves.length:Int)>40)) then true else (decide ((s.Path.L.length:Int)>20)))
def s7 (s:(List bh)):Int:=
 (ae (((s.length:Int) - 0).toNat+1) (fun (ag1:Int→Int) (p1:Int)=>(if (decide (p1<(s.length:Int))) then (aa (pF (gt s p1)) (fun (x5:Bool)=>(if x5 then p1 else (ag1 (p1+1))))) else (-1))) (fun _=>default) 0)
def kl (s:(List bh)):Bool:=
 (aa (s7 s) (fun (x1:Int)=>(decide (x1≥0))))
def s8 (s:(List b9)):Int:=
 (ae (((s.length:Int) - 0).toNat+1) (fun (ag1:Int→Int) (p1:Int)=>(if (decide (p1<(s.length:Int))) then (aa (pG (gt s p1)) (fun (x5:Bool)=>(if x5 then p1 else (ag1 (p1+1))))) else (-1))) (fun _=>default) 0)
def pI (s:(List b9)):Bool:=
 (aa (s8 s) (fun (x1:Int)=>(decide (x1≥0))))
def s9 (s:(List au)):Int:=
 (ae (((s.length:Int) - 0).toNat+1) (fun (ag1:Int→Int) (p1:Int)=>(if (decide (p1<(s.length:Int))) then (aa (pH (gt s p1)) (fun (x5:Bool)=>(if x5 then p1 else (ag1 (p1+1))))) else (-1))) (fun _=>default) 0)
def pJ (s:(List au)):Bool:=
 (aa (s9 s) (fun (x1:Int)=>(decide (x1≥0))))
def iv (p_:aA):Bool:=
 (if (decide ((p_.Spends.length:Int)>12)) then false else (if (decide ((p_.Chains.length:Int)>12)) then false else (if (decide ((p_.Escrow.length:Int)>30)) then false else (aa (kl (p_.Chains)) (fun (x7:Bool)=>(if x7 then false else (aa (pI (p_.Escrow)) (fun (x11:Bool)=>(if x11 then false else (aa (lQ p_) (fun (x15:(List au))=>(aa (pJ x15) (fun (x18:Bool)=>(!x18))))))))))))))
def pK (p_:aA):Bool:=
 (aa (iv p_) (fun (x1:Bool)=>(!x1)))
def tc (s:(List aA)):Int:=
 (ae (((s.length:Int) - 0).toNat+1) (fun (ag1:Int→Int) (p1:Int)=>(if (decide (p1<(s.length:Int))) then (aa (pK (gt s p1)) (fun (x5:Bool)=>(if x5 then p1 else (ag1 (p1+1))))) else (-1))) (fun _=>default) 0)
def pL (s:(List aA)):Bool:=
 (aa (tc s) (fun (x1:Int)=>(decide (x1≥0))))
def iw (m:aw):Bool:=
 (if (decide ((m.Open.length:Int)≤60)) then (if (decide ((m.Queue.length:Int)≤60)) then (if (decide ((m.Paid.length:Int)≤60)) then (if (decide ((m.Blocked.length:Int)≤120)) then (if (decide ((m.Policy.Rules.length:Int)≤30)) then (aa (pL (m.Queue)) (fun (x11:Bool)=>(!x11))) else false) else false) else false) else false) else false)
def km (v:aL) (c0:aA):Bool:=
 (v.Number==c0.Number)
def pM (x_:Int) (low:Int) (high:Int):Bool:=
 (if (decide (x_≥low)) then (decide (x_≤high)) else false)
def xA (bank:Int) (epoch:Int) (from_:Int) (until_:Int) (final:Int):Bool:=
 (aa (pM bank 0 7) (fun (x1:Bool)=>(if x1 then (aa (pM epoch 0 1000000) (fun (x5:Bool)=>(if x5 then (if (decide (from_≥0)) then (if (decide (from_<until_)) then (if (decide (until_≤final)) then (decide (final≤1099511627776)) else false) else false) else false) else false))) else false)))
def lR (d_:fi):Bool:=
 (if (pr d_ lI) then true else (if (decide (d_.Value≥1)) then (if (decide (d_.Value≤1099511627776)) then (if (decide (d_.Depth≥0)) then (if (decide (d_.Depth≤5)) then ((cJ .i64 d_.Value (ay .i64 1 d_.Depth))==0) else false) else false) else false) else false))
def nm (l:(List fi)):Bool:=
 (if (decide ((l.length:Int)<1)) then false else (if (decide ((l.length:Int)>16)) then false else (ae (((l.length:Int) - 0).toNat+1) (fun (ag6:Int→Bool) (p6:Int)=>(if (decide (p6<(l.length:Int))) then (aa (lR (gt l p6)) (fun (x10:Bool)=>(if (!x10) then false else (if (decide (p6>0)) then (if (decide ((gt l p6).Value<(gt l (p6 - 1)).Value)) then false else (if ((gt l p6).Value==(gt l (p6 - 1)).Value) then (if (decide ((gt l p6).Depth≤(gt l (p6 - 1)).Depth)) then false else (ag6 (p6+1))) else (ag6 (p6+1)))) else (ag6 (p6+1)))))) else true)) (fun _=>default) 0)))
def pN (x_:Int):Int:=
 (if (x_==0) then 64 else (ah .i64 (gt jV (aq .u64 (aS .u64 (bC .u64 x_ (jx .u64 x_)) 285870213051353865) 58))))
def kn (x_:Int) (y:Int):(Int×Int):=
 ((al .u64 (al .u64 (aS .u64 (aq .u64 x_ 32) (aq .u64 y 32)) (aq .u64 (al .u64 (aS .u64 (aq .u64 x_ 32) (bC .u64 y 4294967295)) (aq .u64 (aS .u64 (bC .u64 x_ 4294967295) (bC .u64 y 4294967295)) 32)) 32)) (aq .u64 (al .u64 (bC .u64 (al .u64 (aS .u64 (aq .u64 x_ 32) (bC .u64 y 4294967295)) (aq .u64 (aS .u64 (bC .u64 x_ 4294967295) (bC .u64 y 4294967295)) 32)) 4294967295) (aS .u64 (bC .u64 x_ 4294967295) (aq .u64 y 32))) 32)),(aS .u64 x_ y))
def lS (x_:Int):Int:=
 (aa (sX x_) (fun (x1:Int)=>(aB .i64 64 x1)))
def nn (hi:Int) (lo:Int) (y:Int):(Int×Int):=
 (if (y==0) then (default:(Int×Int)) else (if (decide (y≤hi)) then (default:(Int×Int)) else (if (hi==0) then ((cB .u64 lo y),(cJ .u64 lo y)) else (aa (lS y) (fun (x10:Int)=>(mU (fun (p14:Int)=>(mU (fun (p15:Int)=>((al .u64 (aS .u64 p14 4294967296) p15),(aq .u64 (aB .u64 (al .u64 (aS .u64 (aB .u64 (al .u64 (aS .u64 (orI .u64 (ay .u64 hi (ah .u64 x10)) (aq .u64 lo (aB .u64 64 (ah .u64 x10)))) 4294967296) (aq .u64 (ay .u64 lo (ah .u64 x10)) 32)) (aS .u64 p14 (ay .u64 y (ah .u64 x10)))) 4294967296) (bC .u64 (ay .u64 lo (ah .u64 x10)) 4294967295)) (aS .u64 p15 (ay .u64 y (ah .u64 x10)))) (ah .u64 x10)))) (fun j15=>(ae ((4294967296 - (aB .u64 (aB .u64 (al .u64 (aS .u64 (orI .u64 (ay .u64 hi (ah .u64 x10)) (aq .u64 lo (aB .u64 64 (ah .u64 x10)))) 4294967296) (aq .u64 (ay .u64 lo (ah .u64 x10)) 32)) (aS .u64 p14 (ay .u64 y (ah .u64 x10)))) (aS .u64 (cB .u64 (aB .u64 (al .u64 (aS .u64 (orI .u64 (ay .u64 hi (ah .u64 x10)) (aq .u64 lo (aB .u64 64 (ah .u64 x10)))) 4294967296) (aq .u64 (ay .u64 lo (ah .u64 x10)) 32)) (aS .u64 p14 (ay .u64 y (ah .u64 x10)))) (aq .u64 (ay .u64 y (ah .u64 x10)) 32)) (aq .u64 (ay .u64 y (ah .u64 x10)) 32)))).toNat+1) (fun (ag16:(Int×Int)→(Int×Int)) (p16:Int×Int)=>(if (decide (p16.2≥4294967296)) then (if (decide ((al .u64 p16.1 (aq .u64 (ay .u64 y (ah .u64 x10)) 32))≥4294967296)) then (j15 (aB .u64 p16.2 1)) else (ag16 ((al .u64 p16.1 (aq .u64 (ay .u64 y (ah .u64 x10)) 32)),(aB .u64 p16.2 1)))) else (if (decide ((aS .u64 p16.2 (bC .u64 (ay .u64 y (ah .u64 x10)) 4294967295))>(al .u64 (aS .u64 4294967296 p16.1) (bC .u64 (ay .u64 lo (ah .u64 x10)) 4294967295)))) then (if (decide ((al .u64 p16.1 (aq .u64 (ay .u64 y (ah .u64 x10)) 32))≥4294967296)) then (j15 (aB .u64 p16.2 1)) else (ag16 ((al .u64 p16.1 (aq .u64 (ay .u64 y (ah .u64 x10)) 32)),(aB .u64 p16.2 1)))) else (j15 p16.2)))) (fun _=>default) ((aB .u64 (aB .u64 (al .u64 (aS .u64 (orI .u64 (ay .u64 hi (ah .u64 x10)) (aq .u64 lo (aB .u64 64 (ah .u64 x10)))) 4294967296) (aq .u64 (ay .u64 lo (ah .u64 x10)) 32)) (aS .u64 p14 (ay .u64 y (ah .u64 x10)))) (aS .u64 (cB .u64 (aB .u64 (al .u64 (aS .u64 (orI .u64 (ay .u64 hi (ah .u64 x10)) (aq .u64 lo (aB .u64 64 (ah .u64 x10)))) 4294967296) (aq .u64 (ay .u64 lo (ah .u64 x10)) 32)) (aS .u64 p14 (ay .u64 y (ah .u64 x10)))) (aq .u64 (ay .u64 y (ah .u64 x10)) 32)) (aq .u64 (ay .u64 y (ah .u64 x10)) 32))),(cB .u64 (aB .u64 (al .u64 (aS .u64 (orI .u64 (ay .u64 hi (ah .u64 x10)) (aq .u64 lo (aB .u64 64 (ah .u64 x10)))) 4294967296) (aq .u64 (ay .u64 lo (ah .u64 x10)) 32)) (aS .u64 p14 (ay .u64 y (ah .u64 x10)))) (aq .u64 (ay .u64 y (ah .u64 x10)) 32))))))) (fun j14=>(ae ((4294967296 - (aB .u64 (orI .u64 (ay .u64 hi (ah .u64 x10)) (aq .u64 lo (aB .u64 64 (ah .u64 x10)))) (aS .u64 (cB .u64 (orI .u64 (ay .u64 hi (ah .u64 x10)) (aq .u64 lo (aB .u64 64 (ah .u64 x10)))) (aq .u64 (ay .u64 y (ah .u64 x10)) 32)) (aq .u64 (ay .u64 y (ah .u64 x10)) 32)))).toNat+1) (fun (ag29:(Int×Int)→(Int×Int)) (p29:Int×Int)=>(if (decide (p29.1≥4294967296)) then (if (decide ((al .u64 p29.2 (aq .u64 (ay .u64 y (ah .u64 x10)) 32))≥4294967296)) then (j14 (aB .u64 p29.1 1)) else (ag29 ((aB .u64 p29.1 1),(al .u64 p29.2 (aq .u64 (ay .u64 y (ah .u64 x10)) 32))))) else (if (decide ((aS .u64 p29.1 (bC .u64 (ay .u64 y (ah .u64 x10)) 4294967295))>(al .u64 (aS .u64 4294967296 p29.2) (aq .u64 (ay .u64 lo (ah .u64 x10)) 32)))) then (if (decide ((al .u64 p29.2 (aq .u64 (ay .u64 y (ah .u64 x10)) 32))≥4294967296)) then (j14 (aB .u64 p29.1 1)) else (ag29 ((aB .u64 p29.1 1),(al .u64 p29.2 (aq .u64 (ay .u64 y (ah .u64 x10)) 32))))) else (j14 p29.1)))) (fun _=>default) ((cB .u64 (orI .u64 (ay .u64 hi (ah .u64 x10)) (aq .u64 lo (aB .u64 64 (ah .u64 x10)))) (aq .u64 (ay .u64 y (ah .u64 x10)) 32)),(aB .u64 (orI .u64 (ay .u64 hi (ah .u64 x10)) (aq .u64 lo (aB .u64 64 (ah .u64 x10)))) (aS .u64 (cB .u64 (orI .u64 (ay .u64 hi (ah .u64 x10)) (aq .u64 lo (aB .u64 64 (ah .u64 x10)))) (aq .u64 (ay .u64 y (ah .u64 x10)) 32)) (aq .u64 (ay .u64 y (ah .u64 x10)) 32))))))))))))
def fE (a_:Int) (b:Int) (n_:Int):Int:=
 (aa (kn a_ b) (fun (x1:(Int×Int))=>(aa (nn (x1.1) (x1.2) n_) (fun (x5:(Int×Int))=>x5.2))))
def pO (a_:Int) (e_:Int) (n_:Int):Int:=
 (ae (e_.toNat+1) (fun (ag1:(Int×Int×Int)→Int) (p1:Int×Int×Int)=>(if (decide (p1.2.1>0)) then (if ((bC .u64 p1.2.1 1)==1) then (aa (fE (p1.2.2) (p1.1) n_) (fun (x6:Int)=>(aa (fE (p1.1) (p1.1) n_) (fun (x10:Int)=>(ag1 (x10,(aq .u64 p1.2.1 1),x6)))))) else (aa (fE (p1.1) (p1.1) n_) (fun (x15:Int)=>(ag1 (x15,(aq .u64 p1.2.1 1),p1.2.2))))) else p1.2.2)) (fun _=>default) (a_,e_,1))
def xB (a_:Int) (n_:Int) (d_:Int) (s:Int):Bool:=
 (aa (pO a_ d_ n_) (fun (x1:Int)=>(if (x1==1) then false else (if (x1==(aB .u64 n_ 1)) then false else (ae ((aB .i64 s 1 - 0).toNat+1) (fun (ag10:(Int×Int)→Bool) (p10:Int×Int)=>(if (decide (p10.2<(aB .i64 s 1))) then (aa (fE (p10.1) (p10.1) n_) (fun (x13:Int)=>(if (x13==(aB .u64 n_ 1)) then false else (ag10 (x13,(p10.2+1)))))) else true)) (fun _=>default) (x1,0))))))
def td (n_:Int):Bool:=
 (if (decide (n_<2)) then false else (ae (((12:Int) - 0).toNat+1) (fun (ag4:Int→Bool) (p4:Int)=>(if (decide (p4<12)) then (if ((cJ .u64 (ah .u64 n_) (gt dg p4))==0) then ((ah .u64 n_)==(gt dg p4)) else (ag4 (p4+1))) else (aa (pN (aB .u64 (ah .u64 n_) 1)) (fun (x12:Int)=>(ae (((12:Int) - 0).toNat+1) (fun (ag16:Int→Bool) (p16:Int)=>(if (decide (p16<12)) then (aa (xB (gt dg p16) (ah .u64 n_) (aq .u64 (aB .u64 (ah .u64 n_) 1) x12) x12) (fun (x20:Bool)=>(if x20 then false else (ag16 (p16+1))))) else true)) (fun _=>default) 0))))) (fun _=>default) 0))
def pP (a_:Int) (m:Int):Bool:=
 (if (decide (a_≥0)) then (decide (a_<m)) else false)
def jn (a_:Int) (b:Int) (m:Int):Int:=
 (if (decide (m<1)) then 1 else (if (decide (m≥2305843009213693952)) then 1 else (aa (pP a_ m) (fun (x6:Bool)=>(if (!x6) then 2 else (aa (pP b m) (fun (x11:Bool)=>(if (!x11) then 2 else 0))))))))
def jo (a_:Int) (b:Int) (m:Int):Int:=
 (aa (kn (ah .u64 a_) (ah .u64 b)) (fun (x1:(Int×Int))=>(aa (nn (x1.1) (x1.2) (ah .u64 m)) (fun (x5:(Int×Int))=>(ah .i64 x5.2)))))
def ix (a_:Int) (e_:Int) (m:Int):(Int×Int):=
 (aa (jn a_ a_ m) (fun (x1:Int)=>(if (x1 !=0) then (0,x1) else (if (decide (e_<0)) then (0,2) else (ae (e_.toNat+1) (fun (ag11:(Int×Int×Int)→(Int×Int)) (p11:Int×Int×Int)=>(if (decide (p11.2.1>0)) then (if ((bC .i64 p11.2.1 1)==1) then (aa (jo (p11.2.2) (p11.1) m) (fun (x16:Int)=>(aa (jo (p11.1) (p11.1) m) (fun (x20:Int)=>(ag11 (x20,(aq .i64 p11.2.1 1),x16)))))) else (aa (jo (p11.1) (p11.1) m) (fun (x25:Int)=>(ag11 (x25,(aq .i64 p11.2.1 1),p11.2.2))))) else (p11.2.2,0))) (fun _=>default) (a_,e_,(cJ .i64 1 m)))))))
def iy (g:aP):Bool:=
 (if (decide (g.P≥2305843009213693952)) then false else (if (decide (g.Q<3)) then false else (if ((cJ .i64 g.Q 2)==0) then false else (aa (td (g.P)) (fun (x7:Bool)=>(if (!x7) then false else (aa (td (g.Q)) (fun (x12:Bool)=>(if (!x12) then false else (if ((cJ .i64 (aB .i64 g.P 1) g.Q) !=0) then false else (if (decide (g.G<2)) then false else (if (decide (g.G≥g.P)) then false else (aa (ix (g.G) (g.Q) (g.P)) (fun (x24:(Int×Int))=>(if (x24.2==0) then (x24.1==1) else false)))))))))))))))
def te (g:aP) (x_:Int):Bool:=
 (if (decide (x_<1)) then false else (if (decide (x_≥g.P)) then false else (aa (ix x_ (g.Q) (g.P)) (fun (x6:(Int×Int))=>(x6.1==1)))))
def iz (g:aP) (x_:Int):Bool:=
 (aa (iy g) (fun (x1:Bool)=>(if x1 then (aa (te g x_) (fun (x5:Bool)=>x5)) else false)))
def ko (b:aX):Bool:=
 (aa (iy (b.Group)) (fun (x1:Bool)=>(if (!x1) then false else (ae (((3:Int) - 0).toNat+1) (fun (ag7:Int→Bool) (p7:Int)=>(if (decide (p7<(3:Int))) then (if ((gt ([b.G1,b.G2,b.H]:List Int) p7)==1) then false else (aa (iz (b.Group) (gt ([b.G1,b.G2,b.H]:List Int) p7)) (fun (x13:Bool)=>(if (!x13) then false else (ag7 (p7+1)))))) else true)) (fun _=>default) 0))))
def tf (b:aX) (x_:Int):Bool:=
 (if (decide (x_<1)) then false else (if (decide (x_≥b.Group.P)) then false else (aa (ix x_ (b.Group.Q) (b.Group.P)) (fun (x6:(Int×Int))=>(if (x6.2==0) then (x6.1==1) else false)))))
def np (b:aX) (m:Int):Bool:=
 (if (m !=1) then (aa (tf b m) (fun (x3:Bool)=>x3)) else false)
def nq (b:aX) (k_:ip):Bool:=
 (aa (ko b) (fun (x1:Bool)=>(if x1 then (aa (np b (k_.H)) (fun (x5:Bool)=>(if x5 then (aa (np b (k_.H1)) (fun (x9:Bool)=>(if x9 then (aa (np b (k_.H2)) (fun (x13:Bool)=>x13)) else false))) else false))) else false)))
def nr (b:aX) (r_:bg):Bool:=
 (aa (xA (r_.Bank) (r_.Epoch) (r_.From) (r_.Until) (r_.Final)) (fun (x1:Bool)=>(if x1 then (aa (pM (r_.Denom) 0 16) (fun (x5:Bool)=>(if x5 then (if (r_.Value==0) then (if (r_.Depth==0) then (aa (nq b (r_.Key)) (fun (x21:Bool)=>x21)) else (aa (nm ([({Value:=r_.Value,Depth:=r_.Depth}:fi)]:List fi)) (fun (x13:Bool)=>(if x13 then (aa (nq b (r_.Key)) (fun (x17:Bool)=>x17)) else false)))) else (aa (nm ([({Value:=r_.Value,Depth:=r_.Depth}:fi)]:List fi)) (fun (x25:Bool)=>(if x25 then (aa (nq b (r_.Key)) (fun (x29:Bool)=>x29)) else false)))) else false))) else false)))
def nt (k_:ci):Bool:=
 (ae (((k_.l.length:Int) - 0).toNat+1) (fun (ag1:Int→Bool) (p1:Int)=>(if (decide (p1<(k_.l.length:Int))) then (aa (nr (k_.b) (gt k_.l p1)) (fun (x5:Bool)=>(if (!x5) then false else (ag1 (p1+1))))) else (aa (ko (k_.b)) (fun (x12:Bool)=>(if x12 then (aa (lP (k_.v)) (fun (x16:Bool)=>(if x16 then (if (k_.y==0) then true else (if (k_.y !=1) then (aa (iz (k_.b.Group) (k_.y)) (fun (x24:Bool)=>x24)) else false)) else false))) else false))))) (fun _=>default) 0)
def kp (p_:aA):(List au):=
 (ae (((p_.Chains.length:Int) - 0).toNat+1) (fun (ag1:(Int×List au)→(List au)) (p1:Int×List au)=>(if (decide (p1.1<(p_.Chains.length:Int))) then (ag1 ((p1.1+1),((p1.2++([(gt p_.Chains p1.1).First]:List au))++(gt p_.Chains p1.1).L))) else p1.2)) (fun _=>default) (0,(([]:List au)++p_.Spends)))
def tg (c0:aA):Bool:=
 (aa (kp c0) (fun (x1:(List au))=>(decide ((x1.length:Int)≤100))))
def pQ (c0:aA) (c1:aL):Bool:=
 (c0.Number==c1.Number)
def nu (k_:ci):(List bv):=
 (ae (((k_.p.Spends.length:Int) - 0).toNat+1) (fun (ag1:(Int×List bv)→(List bv)) (p1:Int×List bv)=>(if (decide (p1.1<(k_.p.Spends.length:Int))) then (ag1 ((p1.1+1),(p1.2++([(gt k_.p.Spends p1.1).Coin]:List bv)))) else (ae (((k_.p.Chains.length:Int) - 0).toNat+1) (fun (ag6:(Int×List bv)→(List bv)) (p6:Int×List bv)=>(if (decide (p6.1<(k_.p.Chains.length:Int))) then (ag6 ((p6.1+1),(p6.2++([(gt k_.p.Chains p6.1).First.Coin]:List bv)))) else p6.2)) (fun _=>default) (0,p1.2)))) (fun _=>default) (0,([]:List bv)))
def xC (r_:bg) (c0:Int) (c1:Int) (c2:Int):Bool:=
 (if (r_.Bank==c0) then (if (r_.Epoch==c1) then (r_.Denom==c2) else false) else false)
def th (s:(List bg)) (f__c0:Int) (f__c1:Int) (f__c2:Int):Int:=
 (ae (((s.length:Int) - 0).toNat+1) (fun (ag1:Int→Int) (p1:Int)=>(if (decide (p1<(s.length:Int))) then (aa (xC (gt s p1) f__c0 f__c1 f__c2) (fun (x5:Bool)=>(if x5 then p1 else (ag1 (p1+1))))) else (-1))) (fun _=>default) 0)
def nv (l:(List bg)) (bank:Int) (epoch:Int) (number:Int):Int:=
 (aa (th l bank epoch number) (fun (x1:Int)=>x1))
def nw (k_:ci) (c:bv):(bg×Bool):=
 (aa (nv (k_.l) (c.Bank) (c.Epoch) (c.Denom)) (fun (x1:Int)=>(if (decide (x1<0)) then (fZ,false) else ((gt k_.l x1),true))))
def tj (k_:ci):Bool:=
 (aa (nu k_) (fun (x1:(List bv))=>(ae (((x1.length:Int) - 0).toNat+1) (fun (ag5:Int→Bool) (p5:Int)=>(if (decide (p5<(x1.length:Int))) then (aa (nw k_ (gt x1 p5)) (fun (x9:(bg×Bool))=>(if (!x9.2) then false else (ag5 (p5+1))))) else true)) (fun _=>default) 0)))
def xD (b:aX) (x_:Int):Bool:=
 (if (decide (x_≥0)) then (decide (x_<b.Group.Q)) else false)
def xE (b:aX) (l:(List Int)):Bool:=
 (ae (((l.length:Int) - 0).toNat+1) (fun (ag1:Int→Bool) (p1:Int)=>(if (decide (p1<(l.length:Int))) then (aa (tf b (gt l p1)) (fun (x5:Bool)=>(if (!x5) then false else (ag1 (p1+1))))) else true)) (fun _=>default) 0)
def lT (n_:Int):am:=
 ({Kind:=1,N:=n_,B:=([]:List Int),L:=([]:List am)}:am)
def lU (x_:am) (c0:Int):Bool:=
 (aa (gd x_ (c0 - 1)) (fun (x2:Bool)=>(!x2)))
def tk (s:(List am)) (f__c0:Int):Int:=
 (ae (((s.length:Int) - 0).toNat+1) (fun (ag1:Int→Int) (p1:Int)=>(if (decide (p1<(s.length:Int))) then (aa (lU (gt s p1) f__c0) (fun (x5:Bool)=>(if x5 then p1 else (ag1 (p1+1))))) else (-1))) (fun _=>default) 0)
def ny (s:(List am)) (f__c0:Int):Bool:=
 (aa (tk s f__c0) (fun (x1:Int)=>(decide (x1≥0))))
def pR (i_:am) (depth:Int):Bool:=
 (if (i_.Kind==1) then (if ((i_.B.length:Int)==0) then ((i_.L.length:Int)==0) else false) else (if (i_.Kind==2) then (if (i_.N==0) then ((i_.L.length:Int)==0) else false) else (if (i_.Kind==3) then (if (i_.N==0) then (if ((i_.B.length:Int)==0) then (if (decide (depth>0)) then (if (decide ((i_.L.length:Int)≤1000)) then (aa (ny (i_.L) depth) (fun (x23:Bool)=>(!x23))) else false) else false) else false) else false) else false)))
def xF (i_:am):Bool:=
 (aa (gd i_ 8) (fun (x1:Bool)=>x1))
def jp (out:(List Int)) (n_:Int) (size:Int):(List Int):=
 (ae (((size - 1)+1).toNat+1) (fun (ag2:(Int×List Int)→(List Int)) (p2:Int×List Int)=>(if (decide (p2.1≥0)) then (ag2 ((p2.1 - 1),(p2.2++([(ah .u8 (aq .u64 n_ (8*p2.1)))]:List Int)))) else p2.2)) (fun _=>default) ((size - 1),out))
def pS (out:(List Int)) (i_:am):(List Int):=
 (if (decide ((out.length:Int)>16384)) then out else (if (i_.Kind==1) then (aa (jp (out++([(ah .u8 i_.Kind)]:List Int)) (ah .u64 i_.N) 8) (fun (x6:(List Int))=>x6)) else (if (i_.Kind==2) then (aa (jp (out++([(ah .u8 i_.Kind)]:List Int)) (ah .u64 (i_.B.length:Int)) 4) (fun (x13:(List Int))=>(x13++i_.B))) else (aa (jp (out++([(ah .u8 i_.Kind)]:List Int)) (ah .u64 (i_.L.length:Int)) 4) (fun (x17:(List Int))=>(ae (((i_.L.length:Int) - 0).toNat+1) (fun (ag21:(Int×List Int)→(List Int)) (p21:Int×List Int)=>(if (decide (p21.1<(i_.L.length:Int))) then (aa (gg (p21.2) (gt i_.L p21.1)) (fun (x25:(List Int))=>(ag21 ((p21.1+1),x25)))) else p21.2)) (fun _=>default) (0,x17)))))))
def gk (i_:am):((List Int)×Int):=
 (aa (xF i_) (fun (x1:Bool)=>(if (!x1) then (([]:List Int),1) else (aa (gg ([]:List Int) i_) (fun (x7:(List Int))=>(if (decide ((x7.length:Int)>16384)) then (([]:List Int),5) else (x7,0)))))))
def tl (s:List Int):List Int:=s
def pT (n_:Int):(List Int):=
 (ae (((8:Int) - 0).toNat+1) (fun (ag1:(Int×List Int)→(List Int)) (p1:Int×List Int)=>(if (decide (p1.1<(8:Int))) then (ag1 ((p1.1+1),(st p1.2 p1.1 (ah .u8 (aq .u64 n_ (56 - (8*p1.1))))))) else p1.2)) (fun _=>default) (0,([(0:Int),(0:Int),(0:Int),(0:Int),(0:Int),(0:Int),(0:Int),(0:Int)]:List Int)))
def xG (x_:Int) (k_:Int):Int:=
 (orI .u32 (ay .u32 x_ (bC .u64 (ah .u64 k_) 31)) (aq .u32 x_ (aB .u64 32 (bC .u64 (ah .u64 k_) 31))))
def gm (x_:Int) (n_:Int):Int:=
 (aa (xG x_ (jx .i64 n_)) (fun (x1:Int)=>x1))
def xH (block:(List Int)):(List Int):=
 (ae (((16:Int) - 0).toNat+1) (fun (ag1:(Int×(List Int))→(List Int)) (p1:Int×(List Int))=>(if (decide (p1.1<16)) then (ae ((((sl block (4*p1.1) ((4*p1.1)+4)).length:Int) - 0).toNat+1) (fun (ag7:(Int×(List Int))→(List Int)) (p7:Int×(List Int))=>(if (decide (p7.1<((sl block (4*p1.1) ((4*p1.1)+4)).length:Int))) then (ag7 ((p7.1+1),(bc 64 (st (bc 64 p7.2) p1.1 (orI .u32 (ay .u32 (gt p7.2 p1.1) 8) (ah .u32 (gt (sl block (4*p1.1) ((4*p1.1)+4)) p7.1))))))) else (ag1 ((p1.1+1),p7.2)))) (fun _=>default) (0,p1.2)) else (ae (((64:Int) - 16).toNat+1) (fun (ag17:(Int×(List Int))→(List Int)) (p17:Int×(List Int))=>(if (decide (p17.1<64)) then (aa (gm (gt p17.2 (p17.1 - 15)) 7) (fun (x26:Int)=>(aa (gm (gt p17.2 (p17.1 - 15)) 18) (fun (x29:Int)=>(aa (gm (gt p17.2 (p17.1 - 2)) 17) (fun (x32:Int)=>(aa (gm (gt p17.2 (p17.1 - 2)) 19) (fun (x35:Int)=>(ag17 ((p17.1+1),(bc 64 (st (bc 64 p17.2) p17.1 (al .u32 (al .u32 (al .u32 (gt p17.2 (p17.1 - 16)) (cv .u32 (cv .u32 x26 x29) (aq .u32 (gt p17.2 (p17.1 - 15)) 3))) (gt p17.2 (p17.1 - 7))) (cv .u32 (cv .u32 x32 x35) (aq .u32 (gt p17.2 (p17.1 - 2)) 10))))))))))))))) else p17.2)) (fun _=>default) (16,p1.2)))) (fun _=>default) (0,[0,0,0,0,0,0,0,0,0,0,0,0,0,0,0,0,0,0,0,0,0,0,0,0,0,0,0,0,0,0,0,0,0,0,0,0,0,0,0,0,0,0,0,0,0,0,0,0,0,0,0,0,0,0,0,0,0,0,0,0,0,0,0,0]))
def xI (state:(List Int)) (block:(List Int)):(List Int):=
 (aa (xH block) (fun (x1:(List Int))=>(ae (((64:Int) - 0).toNat+1) (fun (ag4:(Int×Int×Int×Int×Int×Int×Int×Int×Int)→(List Int)) (p4:Int×Int×Int×Int×Int×Int×Int×Int×Int)=>(if (decide (p4.2.2.2.2.2.2.2.2<64)) then (aa (gm (p4.2.2.2.2.1) 6) (fun (x7:Int)=>(aa (gm (p4.2.2.2.2.1) 11) (fun (x9:Int)=>(aa (gm (p4.2.2.2.2.1) 25) (fun (x11:Int)=>(aa (gm (p4.1) 2) (fun (x16:Int)=>(aa (gm (p4.1) 13) (fun (x19:Int)=>(aa (gm (p4.1) 22) (fun (x22:Int)=>(ag4 ((al .u32 (al .u32 (al .u32 (al .u32 (al .u32 p4.2.2.2.2.2.2.2.1 (cv .u32 (cv .u32 x7 x9) x11)) (cv .u32 (bC .u32 p4.2.2.2.2.1 p4.2.2.2.2.2.1) (bC .u32 (kN .u32 p4.2.2.2.2.1) p4.2.2.2.2.2.2.1))) (gt lq p4.2.2.2.2.2.2.2.2)) (gt x1 p4.2.2.2.2.2.2.2.2)) (al .u32 (cv .u32 (cv .u32 x16 x19) x22) (cv .u32 (cv .u32 (bC .u32 p4.1 p4.2.1) (bC .u32 p4.1 p4.2.2.1)) (bC .u32 p4.2.1 p4.2.2.1)))),p4.1,p4.2.1,p4.2.2.1,(al .u32 p4.2.2.2.1 (al .u32 (al .u32 (al .u32 (al .u32 p4.2.2.2.2.2.2.2.1 (cv .u32 (cv .u32 x7 x9) x11)) (cv .u32 (bC .u32 p4.2.2.2.2.1 p4.2.2.2.2.2.1) (bC .u32 (kN .u32 p4.2.2.2.2.1) p4.2.2.2.2.2.2.1))) (gt lq p4.2.2.2.2.2.2.2.2)) (gt x1 p4.2.2.2.2.2.2.2.2))),p4.2.2.2.2.1,p4.2.2.2.2.2.1,p4.2.2.2.2.2.2.1,(p4.2.2.2.2.2.2.2.2+1))))))))))))))) else (ae (((8:Int) - 0).toNat+1) (fun (ag26:(Int×(List Int))→(List Int)) (p26:Int×(List Int))=>(if (decide (p26.1<8)) then (ag26 ((p26.1+1),(bc 8 (st (bc 8 p26.2) p26.1 (al .u32 (gt p26.2 p26.1) (gt ([p4.1,p4.2.1,p4.2.2.1,p4.2.2.2.1,p4.2.2.2.2.1,p4.2.2.2.2.2.1,p4.2.2.2.2.2.2.1,p4.2.2.2.2.2.2.2.1]:List Int) p26.1)))))) else p26.2)) (fun _=>default) (0,state)))) (fun _=>default) ((gt state 0),(gt state 1),(gt state 2),(gt state 3),(gt state 4),(gt state 5),(gt state 6),(gt state 7),0))))
def tn (b:(List Int)):(List Int):=
 (aa (tl b) (fun (x1:(List Int))=>(ae (((56 - (((x1++([128]:List Int))).length:Int))% 64).toNat+1) (fun (ag5:(List Int)→(List Int)) (p5:List Int)=>(if ((cJ .i64 (p5.length:Int) 64) !=56) then (ag5 (p5++([0]:List Int))) else (aa (pT (aS .u64 8 (ah .u64 (b.length:Int)))) (fun (x9:(List Int))=>(ae (((p5++x9)).length+1) (fun (ag13:(List Int×(List Int))→(List Int)) (p13:List Int×(List Int))=>(if (decide ((p13.1.length:Int)>0)) then (aa (xI (p13.2) (sl p13.1 0 64)) (fun (x16:(List Int))=>(ag13 ((sl p13.1 64 (p13.1.length:Int)),x16)))) else (ae (((8:Int) - 0).toNat+1) (fun (ag20:(Int×(List Int))→(List Int)) (p20:Int×(List Int))=>(if (decide (p20.1<8)) then (ae (((4:Int) - 0).toNat+1) (fun (ag24:(Int×(List Int))→(List Int)) (p24:Int×(List Int))=>(if (decide (p24.1<4)) then (ag24 ((p24.1+1),(bc 32 (st (bc 32 p24.2) ((4*p20.1)+p24.1) (ah .u8 (aq .u32 (gt p13.2 p20.1) (24 - (8*p24.1)))))))) else (ag20 ((p20.1+1),p24.2)))) (fun _=>default) (0,p20.2)) else p20.2)) (fun _=>default) (0,[0,0,0,0,0,0,0,0,0,0,0,0,0,0,0,0,0,0,0,0,0,0,0,0,0,0,0,0,0,0,0,0])))) (fun _=>default) ((p5++x9),[1779033703,3144134277,1013904242,2773480762,1359893119,2600822924,528734635,1541459225])))))) (fun _=>default) (x1++([128]:List Int)))))
def gn (tag:(List UInt8)) (b:(List Int)):((List Int)×Int):=
 (if (decide ((tag.length:Int)<1)) then ([0,0,0,0,0,0,0,0,0,0,0,0,0,0,0,0,0,0,0,0,0,0,0,0,0,0,0,0,0,0,0,0],2) else (if (decide ((tag.length:Int)>100)) then ([0,0,0,0,0,0,0,0,0,0,0,0,0,0,0,0,0,0,0,0,0,0,0,0,0,0,0,0,0,0,0,0],2) else (aa (tn (gG tag)) (fun (x6:(List Int))=>(aa (tl (bc 32 x6)) (fun (x9:(List Int))=>(aa (tn ((x9++(bc 32 x6))++b)) (fun (x12:(List Int))=>(x12,0)))))))))
def tp (a_:Int) (b:Int) (m:Int):(Int×Int):=
 (aa (jn a_ b m) (fun (x1:Int)=>(if (x1 !=0) then (0,x1) else ((cJ .i64 (al .i64 a_ b) m),0))))
def pU (h_:(List Int)) (m:Int):(Int×Int):=
 (if (decide (m<1)) then (0,1) else (if (decide (m≥2305843009213693952)) then (0,1) else (ae (((16:Int) - 0).toNat+1) (fun (ag6:(Int×Int)→(Int×Int)) (p6:Int×Int)=>(if (decide (p6.2<(16:Int))) then (ae (((8:Int) - 0).toNat+1) (fun (ag10:(Int×Int)→(Int×Int)) (p10:Int×Int)=>(if (decide (p10.2<8)) then (aa (tp (p10.1) (p10.1) m) (fun (x13:(Int×Int))=>(ag10 (x13.1,(p10.2+1))))) else (aa (tp (p10.1) (cJ .i64 (ah .i64 (gt ([(gt h_ 0),(gt h_ 1),(gt h_ 2),(gt h_ 3),(gt h_ 4),(gt h_ 5),(gt h_ 6),(gt h_ 7),(gt h_ 8),(gt h_ 9),(gt h_ 10),(gt h_ 11),(gt h_ 12),(gt h_ 13),(gt h_ 14),(gt h_ 15)]:List Int) p6.2)) m) m) (fun (x17:(Int×Int))=>(ag6 (x17.1,(p6.2+1))))))) (fun _=>default) (p6.1,0)) else (p6.1,0))) (fun _=>default) (0,0))))
def xJ (b:aX) (pseudonym:Int) (root:(List Int)) (s:ij):(Int×Int):=
 (aa (ko b) (fun (x1:Bool)=>(if (!x1) then (0,1) else (aa (xE b ([pseudonym,s.Z,s.A,s.B]:List Int)) (fun (x7:Bool)=>(if (!x7) then (0,2) else (ae (((7:Int) - 0).toNat+1) (fun (ag13:(Int×List am)→(Int×Int)) (p13:Int×List am)=>(if (decide (p13.1<(7:Int))) then (aa (lT (gt ([b.Group.P,b.Group.Q,b.Group.G,b.G1,b.G2,b.H,pseudonym]:List Int) p13.1)) (fun (x17:am)=>(ag13 ((p13.1+1),(p13.2++([x17]:List am)))))) else (aa (lT (s.Z)) (fun (x21:am)=>(aa (lT (s.A)) (fun (x24:am)=>(aa (lT (s.B)) (fun (x27:am)=>(aa (gk ({Kind:=3,N:=0,B:=([]:List Int),L:=(p13.2++([({Kind:=2,N:=0,B:=(bc 32 root),L:=([]:List am)}:am),x21,x24,x27]:List am))}:am)) (fun (x30:((List Int)×Int))=>(if (x30.2 !=0) then (0,x30.2) else (aa (gn ([115,112,101,99,105,101,47,99,111,105,110]) (x30.1)) (fun (x37:((List Int)×Int))=>(if (x37.2 !=0) then (0,x37.2) else (aa (pU (x37.1) (b.Group.Q)) (fun (x43:(Int×Int))=>(x43.1,x43.2))))))))))))))))) (fun _=>default) (0,([]:List am)))))))))
def nz (b:aX) (x_:Int) (e_:Int):Int:=
 (aa (ix x_ e_ (b.Group.P)) (fun (x1:(Int×Int))=>x1.1))
def nA (a_:Int) (b:Int) (m:Int):(Int×Int):=
 (aa (jn a_ b m) (fun (x1:Int)=>(if (x1 !=0) then (0,x1) else (aa (jo a_ b m) (fun (x8:Int)=>(x8,0))))))
def xK (b:aX) (x_:Int) (y:Int):Int:=
 (aa (nA x_ y (b.Group.P)) (fun (x1:(Int×Int))=>x1.1))
def tr (b:aX) (x_:Int) (e_:Int) (y:Int) (f_:Int):Int:=
 (aa (nz b x_ e_) (fun (x1:Int)=>(aa (nz b y f_) (fun (x3:Int)=>(aa (xK b x1 x3) (fun (x5:Int)=>x5))))))
def xL (b:aX) (k_:ip) (pseudonym:Int) (root:(List Int)) (s:ij):Bool:=
 (aa (nq b k_) (fun (x1:Bool)=>(if (!x1) then false else (aa (np b pseudonym) (fun (x6:Bool)=>(if (!x6) then false else (aa (xD b (s.R)) (fun (x11:Bool)=>(if (!x11) then false else (aa (xJ b pseudonym root s) (fun (x17:(Int×Int))=>(if (x17.2 !=0) then false else (if (x17.1==0) then false else (aa (nz b (b.Group.G) (s.R)) (fun (x25:Int)=>(aa (tr b (k_.H) (x17.1) (s.A) 1) (fun (x27:Int)=>(if (x25==x27) then (aa (nz b pseudonym (s.R)) (fun (x31:Int)=>(aa (tr b (s.Z) (x17.1) (s.B) 1) (fun (x33:Int)=>(x31==x33))))) else false))))))))))))))))))
def xM (b:aX) (r_:bg) (c:bv):Bool:=
 (aa (nr b r_) (fun (x1:Bool)=>(if x1 then (if (c.Bank==r_.Bank) then (if (c.Epoch==r_.Epoch) then (if (c.Denom==r_.Denom) then (if (c.Depth==r_.Depth) then (aa (xL b (r_.Key) (c.A) (c.Root) (c.Sign)) (fun (x13:Bool)=>x13)) else false) else false) else false) else false) else false)))
def nB (depth:Int) (n_:fC):Bool:=
 (if (decide (depth≥0)) then (if (decide (depth≤5)) then (if (decide (n_.Level≥0)) then (if (decide (n_.Level≤depth)) then (if (decide (n_.Index≥0)) then (decide (n_.Index<(ay .i64 1 n_.Level))) else false) else false) else false) else false) else false)
def xN (x_:eF):Bool:=
 (if (decide (x_.Time≥0)) then (if (decide (x_.Time≤1099511627776)) then (if (decide (x_.Number≥0)) then (decide (x_.Number≤1073741824)) else false) else false) else false)
def go (l:(List Int)):am:=
 (ae (((l.length:Int) - 0).toNat+1) (fun (ag1:(Int×List am)→am) (p1:Int×List am)=>(if (decide (p1.1<(l.length:Int))) then (ag1 ((p1.1+1),(p1.2++([({Kind:=1,N:=(gt l p1.1),B:=([]:List Int),L:=([]:List am)}:am)]:List am)))) else ({Kind:=3,N:=0,B:=([]:List Int),L:=p1.2}:am))) (fun _=>default) (0,([]:List am)))
def jq (w_:ee) (l_:(List Int)):ee:=
 (aa (go l_) (fun (x1:am)=>({l:=(w_.l++([x1]:List am))}:ee)))
def nC (s:List Int):List Int:=s
def kq (w_:ee) (b:(List Int)):ee:=
 (aa (nC b) (fun (x1:(List Int))=>({l:=(w_.l++([({Kind:=2,N:=0,B:=x1,L:=([]:List am)}:am)]:List am))}:ee)))
def lV (c:bv):am:=
 (aa (jq lK ([c.Bank,c.Epoch,c.Denom,c.Depth,c.A]:List Int)) (fun (x1:ee)=>(aa (kq x1 (bc 32 c.Root)) (fun (x5:ee)=>(aa (jq x5 ([c.Sign.Z,c.Sign.A,c.Sign.B,c.Sign.R]:List Int)) (fun (x9:ee)=>({Kind:=3,N:=0,B:=([]:List Int),L:=x9.l}:am)))))))
def tt (c:bv):(List Int):=
 (aa (lV c) (fun (x1:am)=>(aa (gk x1) (fun (x5:((List Int)×Int))=>(aa (gn ([115,112,101,99,105,101,47,99,111,105,110,45,105,116,101,109]) (x5.1)) (fun (x9:((List Int)×Int))=>x9.1))))))
def jr (h_:(List Int)):am:=
 (aa (nC (bc 32 h_)) (fun (x1:(List Int))=>({Kind:=2,N:=0,B:=x1,L:=([]:List am)}:am)))
def kr (l:(List am)):am:=
 ({Kind:=3,N:=0,B:=([]:List Int),L:=l}:am)
def xO (b:aX) (c:bv) (n_:fC) (x_:eF):Int:=
 (aa (tt c) (fun (x1:(List Int))=>(aa (jr x1) (fun (x3:am)=>(aa (go ([n_.Level,n_.Index]:List Int)) (fun (x6:am)=>(aa (jr (x_.Payee)) (fun (x9:am)=>(aa (go ([x_.Time,x_.Number]:List Int)) (fun (x12:am)=>(aa (kr ([x3,x6,x9,x12]:List am)) (fun (x15:am)=>(aa (gk x15) (fun (x18:((List Int)×Int))=>(aa (gn ([115,112,101,99,105,101,47,115,112,101,110,100]) (x18.1)) (fun (x21:((List Int)×Int))=>(aa (pU (x21.1) (b.Group.Q)) (fun (x24:(Int×Int))=>x24.1))))))))))))))))))
def tu (g:aP) (l:(List Int)):Int:=
 (aa (iy g) (fun (x1:Bool)=>(if (!x1) then 1 else (ae (((l.length:Int) - 0).toNat+1) (fun (ag7:Int→Int) (p7:Int)=>(if (decide (p7<(l.length:Int))) then (aa (te g (gt l p7)) (fun (x11:Bool)=>(if (!x11) then 2 else (ag7 (p7+1))))) else 0)) (fun _=>default) 0))))
def xP (a_:Int) (m:Int):(Int×Int):=
 (aa (jn 0 0 m) (fun (x1:Int)=>(if (x1 !=0) then (0,x1) else (if (decide ((cJ .i64 a_ m)<0)) then ((al .i64 (cJ .i64 a_ m) m),0) else ((cJ .i64 a_ m),0)))))
def pV (g:aP) (a_:Int) (e_:Int):(Int×Int):=
 (aa (tu g ([a_]:List Int)) (fun (x1:Int)=>(if (x1 !=0) then (0,x1) else (aa (xP e_ (g.Q)) (fun (x7:(Int×Int))=>(aa (ix a_ (x7.1) (g.P)) (fun (x10:(Int×Int))=>(x10.1,x10.2))))))))
def pW (g:aP) (a_:Int) (b:Int):(Int×Int):=
 (aa (tu g ([a_,b]:List Int)) (fun (x1:Int)=>(if (x1 !=0) then (0,x1) else (aa (nA a_ b (g.P)) (fun (x7:(Int×Int))=>(x7.1,x7.2))))))
def xQ (x_:Int) (c0:aP):Bool:=
 (aa (iz c0 x_) (fun (x1:Bool)=>(!x1)))
def xR (s:(List Int)) (f__c0:aP):Int:=
 (ae (((s.length:Int) - 0).toNat+1) (fun (ag1:Int→Int) (p1:Int)=>(if (decide (p1<(s.length:Int))) then (aa (xQ (gt s p1) f__c0) (fun (x5:Bool)=>(if x5 then p1 else (ag1 (p1+1))))) else (-1))) (fun _=>default) 0)
def xS (s:(List Int)) (f__c0:aP):Bool:=
 (aa (xR s f__c0) (fun (x1:Int)=>(decide (x1≥0))))
def xT (g:aP) (l:(List Int)):Bool:=
 (aa (xS l g) (fun (x1:Bool)=>(!x1)))
def xU (e_:Int) (c0:aP):Bool:=
 (if (decide (e_<0)) then true else (decide (e_≥c0.Q)))
def xV (s:(List Int)) (f__c0:aP):Int:=
 (ae (((s.length:Int) - 0).toNat+1) (fun (ag1:Int→Int) (p1:Int)=>(if (decide (p1<(s.length:Int))) then (aa (xU (gt s p1) f__c0) (fun (x5:Bool)=>(if x5 then p1 else (ag1 (p1+1))))) else (-1))) (fun _=>default) 0)
def xW (s:(List Int)) (f__c0:aP):Bool:=
 (aa (xV s f__c0) (fun (x1:Int)=>(decide (x1≥0))))
def xX (g:aP) (l:(List Int)):Bool:=
 (aa (xW l g) (fun (x1:Bool)=>(!x1)))
def xY (g:aP) (bases:(List Int)) (exps:(List Int)):(Int×Int):=
 (ae (((bases.length:Int) - 0).toNat+1) (fun (ag1:(Int×Int)→(Int×Int)) (p1:Int×Int)=>(if (decide (p1.2<(bases.length:Int))) then (aa (pV g (gt bases p1.2) (gt exps p1.2)) (fun (x6:(Int×Int))=>(if (x6.2 !=0) then (0,x6.2) else (aa (pW g (p1.1) (x6.1)) (fun (x11:(Int×Int))=>(if (x11.2 !=0) then (0,x11.2) else (ag1 (x11.1,(p1.2+1))))))))) else (p1.1,0))) (fun _=>default) (1,0))
def xZ (g:aP) (bases:(List Int)) (exps:(List Int)):(Int×Int):=
 (aa (iy g) (fun (x1:Bool)=>(if (!x1) then (0,1) else (if ((bases.length:Int) !=(exps.length:Int)) then (0,1) else (if (decide ((bases.length:Int)>100)) then (0,5) else (aa (xT g bases) (fun (x12:Bool)=>(if (!x12) then (0,2) else (aa (xX g exps) (fun (x17:Bool)=>(if (!x17) then (0,2) else (aa (xY g bases exps) (fun (x23:(Int×Int))=>(x23.1,x23.2))))))))))))))
def ya (g:aP) (y:Int) (bases:(List Int)) (exps:(List Int)):Bool:=
 (aa (xZ g bases exps) (fun (x1:(Int×Int))=>(if (x1.2==0) then (x1.1==y) else false)))
def yb (b:aX) (a_:Int) (k_:Int) (l:dR):Bool:=
 (aa (iz (b.Group) (l.B)) (fun (x1:Bool)=>(if (!x1) then false else (aa (pV (b.Group) a_ k_) (fun (x7:(Int×Int))=>(if (x7.2 !=0) then false else (aa (pW (b.Group) (x7.1) (l.B)) (fun (x13:(Int×Int))=>(if (x13.2==0) then (aa (ya (b.Group) (x13.1) ([b.G1,b.G2]:List Int) ([l.R1,l.R2]:List Int)) (fun (x18:Bool)=>x18)) else false)))))))))
def yc (d_:Int) (c0:Int):Bool:=
 (c0==(ay .i64 1 d_))
def yd (s:(List Int)) (f__c0:Int):Int:=
 (ae (((s.length:Int) - 0).toNat+1) (fun (ag1:Int→Int) (p1:Int)=>(if (decide (p1<(s.length:Int))) then (aa (yc (gt s p1) f__c0) (fun (x5:Bool)=>(if x5 then p1 else (ag1 (p1+1))))) else (-1))) (fun _=>default) 0)
def ye (s:(List Int)) (f__c0:Int):Bool:=
 (aa (yd s f__c0) (fun (x1:Int)=>(decide (x1≥0))))
def yf (n_:Int):Bool:=
 (aa (ye ([0,1,2,3,4,5]:List Int) n_) (fun (x1:Bool)=>x1))
def yg (b:(List Int)):((List Int)×Int):=
 (if (decide ((b.length:Int)>16384)) then ([0,0,0,0,0,0,0,0,0,0,0,0,0,0,0,0,0,0,0,0,0,0,0,0,0,0,0,0,0,0,0,0],5) else (aa (gn ([115,112,101,99,105,101,47,108,101,97,102]) b) (fun (x4:((List Int)×Int))=>(x4.1,x4.2))))
def yh (b:aX) (l:(List Int)):((List (List Int))×Int):=
 (aa (ko b) (fun (x1:Bool)=>(if (!x1) then (([]:List (List Int)),1) else (aa (yf (l.length:Int)) (fun (x6:Bool)=>(if (!x6) then (([]:List (List Int)),1) else (ae (((l.length:Int) - 0).toNat+1) (fun (ag12:(Int×List (List Int))→((List (List Int))×Int)) (p12:Int×List (List Int))=>(if (decide (p12.1<(l.length:Int))) then (aa (iz (b.Group) (gt l p12.1)) (fun (x16:Bool)=>(if (!x16) then (([]:List (List Int)),2) else (aa (gk ({Kind:=1,N:=(gt l p12.1),B:=([]:List Int),L:=([]:List am)}:am)) (fun (x22:((List Int)×Int))=>(aa (yg (x22.1)) (fun (x26:((List Int)×Int))=>(ag12 ((p12.1+1),(p12.2++([x26.1]:List (List Int)))))))))))) else (p12.2,0))) (fun _=>default) (0,([]:List (List Int))))))))))
def kt (n_:Int):(Int×Int):=
 (ae (((11:Int) - 0).toNat+1) (fun (ag1:Int→(Int×Int)) (p1:Int)=>(if (decide (p1<11)) then (if (n_==(ay .i64 1 p1)) then (p1,0) else (ag1 (p1+1))) else (0,1))) (fun _=>default) 0)
def tv (s:List Int) (_:Int):List Int:=s
def nD (slices:(List (List Int))):(List Int):=
 (ae (((slices.length:Int) - 0).toNat+1) (fun (ag1:(Int×Int)→(List Int)) (p1:Int×Int)=>(if (decide (p1.2<(slices.length:Int))) then (if (decide ((p1.1+((gt slices p1.2).length:Int))<0)) then (default:(List Int)) else (ag1 ((p1.1+((gt slices p1.2).length:Int)),(p1.2+1)))) else (aa (tv ([]:List Int) (p1.1)) (fun (x10:(List Int))=>(ae (((slices.length:Int) - 0).toNat+1) (fun (ag14:(Int×List Int)→(List Int)) (p14:Int×List Int)=>(if (decide (p14.1<(slices.length:Int))) then (ag14 ((p14.1+1),(p14.2++(gt slices p14.1)))) else p14.2)) (fun _=>default) (0,x10)))))) (fun _=>default) (0,0))
def js (l:(List Int)) (r_:(List Int)):(List Int):=
 (aa (nD ([(bc 32 l),(bc 32 r_)]:List (List Int))) (fun (x1:(List Int))=>(aa (gn ([115,112,101,99,105,101,47,110,111,100,101]) x1) (fun (x4:((List Int)×Int))=>x4.1))))
def lW (s:(List (List (List Int)))):(List (List (List Int))):=
 (ae ((((s.length:Int) - 1) - 0).toNat+1) (fun (ag2:(Int×Int×List (List (List Int)))→(List (List (List Int)))) (p2:Int×Int×List (List (List Int)))=>(if (decide (p2.1<p2.2.1)) then (ag2 ((p2.1+1),(p2.2.1 - 1),(st (st p2.2.2 p2.1 (gt p2.2.2 p2.2.1)) p2.2.1 (gt p2.2.2 p2.1)))) else p2.2.2)) (fun _=>default) (0,((s.length:Int) - 1),s))
def pX (l:(List (List Int))):(List (List (List Int))):=
 (ae ((l).length+1) (fun (ag1:(List (List Int)×List (List (List Int)))→(List (List (List Int)))) (p1:List (List Int)×List (List (List Int)))=>(if (decide ((p1.1.length:Int)>1)) then (ez (cG p1.1) (fun (ag5:(List (List Int))→(List (List (List Int)))) (y5:List (List Int)) (p5:List (List Int))=>(aa (js (gt y5 0) (gt y5 1)) (fun (x8:(List Int))=>(ag5 (p5++([x8]:List (List Int))))))) (fun (p5:List (List Int))=>(ag1 (p5,(p1.2++([p5]:List (List (List Int))))))) ([]:List (List Int))) else (aa (lW (p1.2)) (fun (x11:(List (List (List Int))))=>x11)))) (fun _=>default) (l,([l]:List (List (List Int)))))
def pY (l:(List (List Int))) (level:Int) (index:Int):((List (List (List Int)))×Int):=
 (aa (kt (l.length:Int)) (fun (x1:(Int×Int))=>(if (x1.2 !=0) then (([]:List (List (List Int))),x1.2) else (if (decide (level<0)) then (([]:List (List (List Int))),2) else (if (decide (level>x1.1)) then (([]:List (List (List Int))),2) else (if (decide (index<0)) then (([]:List (List (List Int))),2) else (if (decide (index≥(ay .i64 1 level))) then (([]:List (List (List Int))),2) else (aa (pX l) (fun (x16:(List (List (List Int))))=>(x16,0))))))))))
def yi (l:(List (List Int))) (level:Int) (index:Int):((List Int)×Int):=
 (aa (pY l level index) (fun (x1:((List (List (List Int)))×Int))=>(if (x1.2 !=0) then ([0,0,0,0,0,0,0,0,0,0,0,0,0,0,0,0,0,0,0,0,0,0,0,0,0,0,0,0,0,0,0,0],x1.2) else ((gt (gt x1.1 level) index),0))))
def yj (l:(List (List Int))):((List Int)×Int):=
 (aa (yi l 0 0) (fun (x1:((List Int)×Int))=>(x1.1,x1.2)))
def yk (h_:(List Int)) (level:Int) (p_:eG):((List Int)×Int):=
 (if (decide (level<0)) then ([0,0,0,0,0,0,0,0,0,0,0,0,0,0,0,0,0,0,0,0,0,0,0,0,0,0,0,0,0,0,0,0],2) else (if (decide (level>10)) then ([0,0,0,0,0,0,0,0,0,0,0,0,0,0,0,0,0,0,0,0,0,0,0,0,0,0,0,0,0,0,0,0],2) else (if (decide (p_.Index<0)) then ([0,0,0,0,0,0,0,0,0,0,0,0,0,0,0,0,0,0,0,0,0,0,0,0,0,0,0,0,0,0,0,0],2) else (if (decide (p_.Index≥(ay .i64 1 level))) then ([0,0,0,0,0,0,0,0,0,0,0,0,0,0,0,0,0,0,0,0,0,0,0,0,0,0,0,0,0,0,0,0],2) else (if ((p_.L.length:Int) !=level) then ([0,0,0,0,0,0,0,0,0,0,0,0,0,0,0,0,0,0,0,0,0,0,0,0,0,0,0,0,0,0,0,0],3) else (ae (((p_.L.length:Int) - 0).toNat+1) (fun (ag13:(Int×Int×(List Int))→((List Int)×Int)) (p13:Int×Int×(List Int))=>(if (decide (p13.2.1<(p_.L.length:Int))) then (if ((cJ .i64 p13.1 2)==0) then (aa (js (p13.2.2) (gt p_.L p13.2.1)) (fun (x19:(List Int))=>(ag13 ((cB .i64 p13.1 2),(p13.2.1+1),x19)))) else (aa (js (gt p_.L p13.2.1) (p13.2.2)) (fun (x23:(List Int))=>(ag13 ((cB .i64 p13.1 2),(p13.2.1+1),x23))))) else (p13.2.2,0))) (fun _=>default) (p_.Index,0,h_)))))))
def yl (root:(List Int)) (h_:(List Int)) (level:Int) (p_:eG):Bool:=
 (aa (yk h_ level p_) (fun (x1:((List Int)×Int))=>(if (x1.2==0) then (eH (x1.1) root) else false)))
def tw (b:aX) (r_:bg) (s:au):Bool:=
 (aa (xM b r_ (s.Coin)) (fun (x1:Bool)=>(if (!x1) then false else (aa (nB (s.Coin.Depth) (s.Node)) (fun (x5:Bool)=>(if (!x5) then false else (aa (xN (s.Context)) (fun (x10:Bool)=>(if (!x10) then false else (if ((s.Leaves.length:Int) !=(ay .i64 1 (s.Coin.Depth - s.Node.Level))) then false else (if (s.Path.Index !=s.Node.Index) then false else (aa (xO b (s.Coin) (s.Node) (s.Context)) (fun (x20:Int)=>(ae (((s.Leaves.length:Int) - 0).toNat+1) (fun (ag23:(Int×List Int)→Bool) (p23:Int×List Int)=>(if (decide (p23.1<(s.Leaves.length:Int))) then (aa (yb b (s.Coin.A) x20 (gt s.Leaves p23.1)) (fun (x27:Bool)=>(if (!x27) then false else (aa (kh (p23.2) ((gt s.Leaves p23.1).B)) (fun (x32:Bool)=>(if x32 then false else (ag23 ((p23.1+1),(p23.2++([(gt s.Leaves p23.1).B]:List Int)))))))))) else (aa (yh b (p23.2)) (fun (x38:((List (List Int))×Int))=>(if (x38.2 !=0) then false else (aa (yj (x38.1)) (fun (x44:((List Int)×Int))=>(if (x44.2==0) then (aa (yl (s.Coin.Root) (x44.1) (s.Node.Level) (s.Path)) (fun (x49:Bool)=>x49)) else false)))))))) (fun _=>default) (0,([]:List Int))))))))))))))))
def gL (h_:bh):(List au):=
 (([h_.First]:List au)++h_.L)
def tx (l:(List bg)) (c:bv):(bg×Bool):=
 (aa (nv l (c.Bank) (c.Epoch) (c.Denom)) (fun (x1:Int)=>(if (decide (x1<0)) then (fZ,false) else ((gt l x1),true))))
def nE (s:au):am:=
 (ae (((s.Leaves.length:Int) - 0).toNat+1) (fun (ag1:(Int×List Int)→am) (p1:Int×List Int)=>(if (decide (p1.1<(s.Leaves.length:Int))) then (ag1 ((p1.1+1),(p1.2++([(gt s.Leaves p1.1).B,(gt s.Leaves p1.1).R1,(gt s.Leaves p1.1).R2]:List Int)))) else (ae (((s.Path.L.length:Int) - 0).toNat+1) (fun (ag6:(Int×List am)→am) (p6:Int×List am)=>(if (decide (p6.1<(s.Path.L.length:Int))) then (aa (jr (gt s.Path.L p6.1)) (fun (x10:am)=>(ag6 ((p6.1+1),(p6.2++([x10]:List am)))))) else (aa (lV (s.Coin)) (fun (x14:am)=>(aa (go ([s.Node.Level,s.Node.Index]:List Int)) (fun (x16:am)=>(aa (jr (s.Context.Payee)) (fun (x18:am)=>(aa (go ([s.Context.Time,s.Context.Number]:List Int)) (fun (x20:am)=>(aa (go (p1.2)) (fun (x22:am)=>(aa (kr (p6.2)) (fun (x24:am)=>(aa (kr ([x14,x16,x18,x20,x22,x24]:List am)) (fun (x27:am)=>x27)))))))))))))))) (fun _=>default) (0,([({Kind:=1,N:=s.Path.Index,B:=([]:List Int),L:=([]:List am)}:am)]:List am))))) (fun _=>default) (0,([]:List Int)))
def ym (s:au):(List Int):=
 (aa (nE s) (fun (x1:am)=>(aa (gk x1) (fun (x5:((List Int)×Int))=>(if (x5.2 !=0) then [0,0,0,0,0,0,0,0,0,0,0,0,0,0,0,0,0,0,0,0,0,0,0,0,0,0,0,0,0,0,0,0] else (aa (gn ([115,112,101,99,105,101,47,115,112,101,110,100,45,105,116,101,109]) (x5.1)) (fun (x12:((List Int)×Int))=>x12.1)))))))
def tz (tag:(List UInt8)) (l:(List (List Int))):(List Int):=
 (ae (((l.length:Int) - 0).toNat+1) (fun (ag1:(Int×List am)→(List Int)) (p1:Int×List am)=>(if (decide (p1.1<(l.length:Int))) then (aa (nC (bc 32 (gt l p1.1))) (fun (x5:(List Int))=>(ag1 ((p1.1+1),(p1.2++([({Kind:=2,N:=0,B:=x5,L:=([]:List am)}:am)]:List am)))))) else (aa (gk ({Kind:=3,N:=0,B:=([]:List Int),L:=p1.2}:am)) (fun (x9:((List Int)×Int))=>(aa (gn tag (x9.1)) (fun (x13:((List Int)×Int))=>x13.1)))))) (fun _=>default) (0,([]:List am)))
def yn (l:(List au)):(List Int):=
 (if ((l.length:Int)==0) then [0,0,0,0,0,0,0,0,0,0,0,0,0,0,0,0,0,0,0,0,0,0,0,0,0,0,0,0,0,0,0,0] else (ae (((l.length:Int) - 0).toNat+1) (fun (ag4:(Int×List (List Int))→(List Int)) (p4:Int×List (List Int))=>(if (decide (p4.1<(l.length:Int))) then (aa (ym (gt l p4.1)) (fun (x8:(List Int))=>(ag4 ((p4.1+1),(p4.2++([x8]:List (List Int))))))) else (aa (tz ([115,112,101,99,105,101,47,99,104,97,105,110]) (p4.2)) (fun (x12:(List Int))=>x12)))) (fun _=>default) (0,([]:List (List Int)))))
def yo (c:bv) (before:(List Int)):(List Int):=
 (aa (tt c) (fun (x1:(List Int))=>(aa (tz ([115,112,101,99,105,101,47,99,104,97,105,110,45,110,101,120,116]) ([x1,before]:List (List Int))) (fun (x3:(List Int))=>x3))))
def nF (l:(List au)) (next:bv):Bool:=
 (if ((gt l ((l.length:Int) - 1)).Context.Number==((l.length:Int) - 1)) then (aa (yn (sl l 0 ((l.length:Int) - 1))) (fun (x5:(List Int))=>(aa (yo next x5) (fun (x7:(List Int))=>(eH ((gt l ((l.length:Int) - 1)).Context.Payee) x7))))) else false)
def yp (b:aX) (l:(List bg)) (h_:bh):Bool:=
 (aa (ko b) (fun (x1:Bool)=>(if (!x1) then false else (if (decide ((h_.L.length:Int)>8)) then false else (aa (gL h_) (fun (x9:(List au))=>(ae (((x9.length:Int) - 0).toNat+1) (fun (ag13:Int→Bool) (p13:Int)=>(if (decide (p13<(x9.length:Int))) then (aa (tx l ((gt x9 p13).Coin)) (fun (x17:(bg×Bool))=>(if (!x17.2) then false else (aa (tw b (x17.1) (gt x9 p13)) (fun (x22:Bool)=>(if (!x22) then false else (if (p13==0) then (if (decide (x17.1.Value≤0)) then false else (if (decide (p13>0)) then (if (x17.1.Value !=0) then false else (if (x17.1.Depth !=0) then false else (if (decide (p13>0)) then (aa (nF (sl x9 0 p13) ((gt x9 p13).Coin)) (fun (x39:Bool)=>(if (!x39) then false else (if (decide ((gt x9 p13).Context.Time<(gt x9 (p13 - 1)).Context.Time)) then false else (ag13 (p13+1)))))) else (ag13 (p13+1))))) else (if (decide (p13>0)) then (aa (nF (sl x9 0 p13) ((gt x9 p13).Coin)) (fun (x51:Bool)=>(if (!x51) then false else (if (decide ((gt x9 p13).Context.Time<(gt x9 (p13 - 1)).Context.Time)) then false else (ag13 (p13+1)))))) else (ag13 (p13+1))))) else (if (decide (p13>0)) then (if (x17.1.Value !=0) then false else (if (x17.1.Depth !=0) then false else (if (decide (p13>0)) then (aa (nF (sl x9 0 p13) ((gt x9 p13).Coin)) (fun (x70:Bool)=>(if (!x70) then false else (if (decide ((gt x9 p13).Context.Time<(gt x9 (p13 - 1)).Context.Time)) then false else (ag13 (p13+1)))))) else (ag13 (p13+1))))) else (if (decide (p13>0)) then (aa (nF (sl x9 0 p13) ((gt x9 p13).Coin)) (fun (x82:Bool)=>(if (!x82) then false else (if (decide ((gt x9 p13).Context.Time<(gt x9 (p13 - 1)).Context.Time)) then false else (ag13 (p13+1)))))) else (ag13 (p13+1))))))))))) else true)) (fun _=>default) 0)))))))
def nG (k_:ci):Bool:=
 (ae (((k_.p.Spends.length:Int) - 0).toNat+1) (fun (ag1:Int→Bool) (p1:Int)=>(if (decide (p1<(k_.p.Spends.length:Int))) then (aa (nw k_ ((gt k_.p.Spends p1).Coin)) (fun (x5:(bg×Bool))=>(aa (tw (k_.b) (x5.1) (gt k_.p.Spends p1)) (fun (x8:Bool)=>(if (!x8) then false else (ag1 (p1+1))))))) else (ae (((k_.p.Chains.length:Int) - 0).toNat+1) (fun (ag15:Int→Bool) (p15:Int)=>(if (decide (p15<(k_.p.Chains.length:Int))) then (aa (yp (k_.b) (k_.l) (gt k_.p.Chains p15)) (fun (x19:Bool)=>(if (!x19) then false else (ag15 (p15+1))))) else true)) (fun _=>default) 0))) (fun _=>default) 0)
def tA (h_:bh):au:=
 (if (decide ((h_.L.length:Int)>0)) then (gt h_.L ((h_.L.length:Int) - 1)) else h_.First)
def nH (k_:ci):(List au):=
 (ae (((k_.p.Chains.length:Int) - 0).toNat+1) (fun (ag1:(Int×List au)→(List au)) (p1:Int×List au)=>(if (decide (p1.1<(k_.p.Chains.length:Int))) then (aa (tA (gt k_.p.Chains p1.1)) (fun (x5:au)=>(ag1 ((p1.1+1),(p1.2++([x5]:List au)))))) else p1.2)) (fun _=>default) (0,(([]:List au)++k_.p.Spends)))
def tB (k_:ci):Bool:=
 (aa (pC (k_.v)) (fun (x1:(eF×Int))=>(aa (nH k_) (fun (x4:(List au))=>(ae (((x4.length:Int) - 0).toNat+1) (fun (ag8:Int→Bool) (p8:Int)=>(if (decide (p8<(x4.length:Int))) then (if (!(jk ((gt x4 p8).Context) (x1.1))) then false else (ag8 (p8+1))) else true)) (fun _=>default) 0)))))
def yq (r_:bg) (now:Int):Bool:=
 (if (decide (r_.From≤now)) then (decide (now<r_.Final)) else false)
def tC (k_:ci):Bool:=
 (aa (nu k_) (fun (x1:(List bv))=>(ae (((x1.length:Int) - 0).toNat+1) (fun (ag5:Int→Bool) (p5:Int)=>(if (decide (p5<(x1.length:Int))) then (aa (nw k_ (gt x1 p5)) (fun (x9:(bg×Bool))=>(aa (yq (x9.1) (k_.v.Time)) (fun (x12:Bool)=>(if (!x12) then false else (ag5 (p5+1))))))) else true)) (fun _=>default) 0)))
def dE (p_:aA):(List bD):=
 (aa (kp p_) (fun (x1:(List au))=>(ae (((x1.length:Int) - 0).toNat+1) (fun (ag5:(Int×List bD)→(List bD)) (p5:Int×List bD)=>(if (decide (p5.1<(x1.length:Int))) then (ae ((((gt x1 p5.1).Leaves.length:Int) - 0).toNat+1) (fun (ag9:(Int×List bD)→(List bD)) (p9:Int×List bD)=>(if (decide (p9.1<((gt x1 p5.1).Leaves.length:Int))) then (ag9 ((p9.1+1),(p9.2++([({A:=(gt x1 p5.1).Coin.A,B:=(gt (gt x1 p5.1).Leaves p9.1).B,Spend:=(gt x1 p5.1),Leaf:=p9.1}:bD)]:List bD)))) else (ag5 ((p5.1+1),p9.2)))) (fun _=>default) (0,p5.2)) else p5.2)) (fun _=>default) (0,([]:List bD)))))
def tD (k_:ci):Bool:=
 (aa (dE (k_.p)) (fun (x1:(List bD))=>(ae (((x1.length:Int) - 0).toNat+1) (fun (ag5:(Int×List (List Int))→Bool) (p5:Int×List (List Int))=>(if (decide (p5.1<(x1.length:Int))) then (if (List.contains p5.2 [(gt x1 p5.1).A,(gt x1 p5.1).B]) then false else (ag5 ((p5.1+1),(dA p5.2 [(gt x1 p5.1).A,(gt x1 p5.1).B])))) else true)) (fun _=>default) (0,([]:List (List Int))))))
def nI (n_:Int):am:=
 ({Kind:=1,N:=n_,B:=([]:List Int),L:=([]:List am)}:am)
def pZ (v:aL):((List Int)×Int):=
 (aa (lP v) (fun (x1:Bool)=>(if (!x1) then (([]:List Int),1) else (aa (nI (v.Amount)) (fun (x7:am)=>(aa (nI (v.Time)) (fun (x10:am)=>(aa (nI (v.Number)) (fun (x13:am)=>(aa (gk ({Kind:=3,N:=0,B:=([]:List Int),L:=([({Kind:=2,N:=0,B:=(bc 32 v.Payee),L:=([]:List am)}:am),x7,x10,x13]:List am)}:am)) (fun (x16:((List Int)×Int))=>(x16.1,x16.2))))))))))))
def yr (v:aL):((List UInt8)×Int):=
 (aa (pZ v) (fun (x1:((List Int)×Int))=>(if (x1.2 !=0) then ([],x1.2) else (aa (gn ([115,112,101,99,105,101,47,105,110,118,111,105,99,101]) (x1.1)) (fun (x8:((List Int)×Int))=>(if (x8.2 !=0) then ([],x8.2) else (aa (px (x8.1)) (fun (x14:(List UInt8))=>(([112,97,121,58]++((x14.drop (0:Int).toNat).take ((16:Int).toNat - (0:Int).toNat))),0)))))))))
def tE (b:aX) (x_:Int):Bool:=
 (if (x_ !=1) then (aa (iz (b.Group) x_) (fun (x3:Bool)=>x3)) else false)
def yt (b:aX) (x_:Int) (y:Int):Int:=
 (aa (pW (b.Group) x_ y) (fun (x1:(Int×Int))=>x1.1))
def tF (b:aX) (x_:Int) (e_:Int):Int:=
 (aa (pV (b.Group) x_ e_) (fun (x1:(Int×Int))=>x1.1))
def yu (b:aX) (y:Int) (pseudonym:Int) (x_:b9):cF:=
 (aa (yt b (x_.E2) (b.G2)) (fun (x1:Int)=>(aa (tF b y (-1)) (fun (x3:Int)=>(aa (tF b (b.Group.G) (-1)) (fun (x5:Int)=>({Y:=([pseudonym,1]:List Int),Bases:=([([x1,x3]:List Int),([x_.E1,x5]:List Int)]:List (List Int))}:cF)))))))
def yw (b:aX) (y:Int) (pseudonym:Int) (x_:b9):(cF×Int):=
 (aa (ko b) (fun (x1:Bool)=>(if (!x1) then (j4,1) else (aa (tE b y) (fun (x7:Bool)=>(if (!x7) then (j4,2) else (aa (tE b pseudonym) (fun (x12:Bool)=>(if (!x12) then (j4,2) else (aa (iz (b.Group) (x_.E1)) (fun (x17:Bool)=>(if (!x17) then (j4,2) else (aa (iz (b.Group) (x_.E2)) (fun (x22:Bool)=>(if (!x22) then (j4,2) else (aa (yu b y pseudonym x_) (fun (x28:cF)=>(x28,0))))))))))))))))))
def yx (g:aP) (x_:Int):Bool:=
 (if (decide (x_<1)) then false else (if (decide (x_≥g.P)) then false else (aa (ix x_ (g.Q) (g.P)) (fun (x6:(Int×Int))=>(if (x6.2==0) then (x6.1==1) else false)))))
def yy (x_:Int) (c0:aP):Bool:=
 (aa (yx c0 x_) (fun (x1:Bool)=>(!x1)))
def yz (s:(List Int)) (f__c0:aP):Int:=
 (ae (((s.length:Int) - 0).toNat+1) (fun (ag1:Int→Int) (p1:Int)=>(if (decide (p1<(s.length:Int))) then (aa (yy (gt s p1) f__c0) (fun (x5:Bool)=>(if x5 then p1 else (ag1 (p1+1))))) else (-1))) (fun _=>default) 0)
def yA (s:(List Int)) (f__c0:aP):Bool:=
 (aa (yz s f__c0) (fun (x1:Int)=>(decide (x1≥0))))
def tG (g:aP) (l:(List Int)):Bool:=
 (aa (yA l g) (fun (x1:Bool)=>(!x1)))
def qa (row:(List Int)) (c0:Int) (c1:aP):Bool:=
 (if ((row.length:Int) !=c0) then true else (aa (tG c1 row) (fun (x3:Bool)=>(!x3))))
def nJ (s:(List (List Int))) (f__c0:Int) (f__c1:aP):Int:=
 (ae (((s.length:Int) - 0).toNat+1) (fun (ag1:Int→Int) (p1:Int)=>(if (decide (p1<(s.length:Int))) then (aa (qa (gt s p1) f__c0 f__c1) (fun (x5:Bool)=>(if x5 then p1 else (ag1 (p1+1))))) else (-1))) (fun _=>default) 0)
def qb (s:(List (List Int))) (f__c0:Int) (f__c1:aP):Bool:=
 (aa (nJ s f__c0 f__c1) (fun (x1:Int)=>(decide (x1≥0))))
def lX (g:aP) (r_:cF):Bool:=
 (aa (iy g) (fun (x1:Bool)=>(if (!x1) then false else (if (decide ((r_.Y.length:Int)<1)) then false else (if (decide ((r_.Y.length:Int)>8)) then false else (if ((r_.Bases.length:Int) !=(r_.Y.length:Int)) then false else (aa (tG g (r_.Y)) (fun (x12:Bool)=>(if (!x12) then false else (if (decide (((gt r_.Bases 0).length:Int)<1)) then false else (if (decide (((gt r_.Bases 0).length:Int)>12)) then false else (aa (qb (r_.Bases) ((gt r_.Bases 0).length:Int) g) (fun (x24:Bool)=>(!x24))))))))))))))
def gM (r_:cF):Int:=
 ((gt r_.Bases 0).length:Int)
def yB (x_:Int) (c0:aP):Bool:=
 (if (decide (x_<0)) then true else (decide (x_≥c0.Q)))
def yC (s:(List Int)) (f__c0:aP):Int:=
 (ae (((s.length:Int) - 0).toNat+1) (fun (ag1:Int→Int) (p1:Int)=>(if (decide (p1<(s.length:Int))) then (aa (yB (gt s p1) f__c0) (fun (x5:Bool)=>(if x5 then p1 else (ag1 (p1+1))))) else (-1))) (fun _=>default) 0)
def yD (s:(List Int)) (f__c0:aP):Bool:=
 (aa (yC s f__c0) (fun (x1:Int)=>(decide (x1≥0))))
def tH (g:aP) (l:(List Int)):Bool:=
 (aa (yD l g) (fun (x1:Bool)=>(!x1)))
def tI (g:aP) (start:Int) (bases:(List Int)) (exps:(List Int)):Int:=
 (ae (((bases.length:Int) - 0).toNat+1) (fun (ag1:(Int×Int)→Int) (p1:Int×Int)=>(if (decide (p1.2<(bases.length:Int))) then (aa (ix (gt bases p1.2) (gt exps p1.2) (g.P)) (fun (x6:(Int×Int))=>(aa (nA (p1.1) (x6.1) (g.P)) (fun (x8:(Int×Int))=>(ag1 (x8.1,(p1.2+1))))))) else p1.1)) (fun _=>default) (start,0))
def qc (g:aP) (rows:(List (List Int))) (exps:(List Int)):(List Int):=
 (ae (((rows.length:Int) - 0).toNat+1) (fun (ag1:(Int×List Int)→(List Int)) (p1:Int×List Int)=>(if (decide (p1.1<(rows.length:Int))) then (aa (tI g 1 (gt rows p1.1) exps) (fun (x5:Int)=>(ag1 ((p1.1+1),(p1.2++([x5]:List Int)))))) else p1.2)) (fun _=>default) (0,([]:List Int)))
def yE (g:aP) (r_:cF) (c:Int) (z_:(List Int)):(List Int):=
 (aa (qc g (r_.Bases) z_) (fun (x1:(List Int))=>(ae (((r_.Y.length:Int) - 0).toNat+1) (fun (ag5:(Int×List Int)→(List Int)) (p5:Int×List Int)=>(if (decide (p5.1<(r_.Y.length:Int))) then (aa (ix (gt r_.Y p5.1) (cJ .i64 (aB .i64 g.Q c) g.Q) (g.P)) (fun (x9:(Int×Int))=>(aa (nA (gt p5.2 p5.1) (x9.1) (g.P)) (fun (x12:(Int×Int))=>(ag5 ((p5.1+1),(st p5.2 p5.1 x12.1))))))) else p5.2)) (fun _=>default) (0,x1))))
def yF (s1:(List Int)) (s2:(List Int)):Bool:=
 (if ((s1.length:Int) !=(s2.length:Int)) then false else (ae (((s1.length:Int) - 0).toNat+1) (fun (ag4:Int→Bool) (p4:Int)=>(if (decide (p4<(s1.length:Int))) then (if ((gt s1 p4) !=(gt s2 p4)) then false else (ag4 (p4+1))) else true)) (fun _=>default) 0))
def nK (g:aP) (r_:cF) (p_:dS):Bool:=
 (aa (lX g r_) (fun (x1:Bool)=>(if (!x1) then false else (if ((p_.A.length:Int) !=(r_.Y.length:Int)) then false else (aa (gM r_) (fun (x8:Int)=>(if ((p_.Z.length:Int) !=x8) then false else (aa (tH g ([p_.C]:List Int)) (fun (x12:Bool)=>(if (!x12) then false else (aa (tH g (p_.Z)) (fun (x16:Bool)=>(if (!x16) then false else (aa (yE g r_ (p_.C) (p_.Z)) (fun (x22:(List Int))=>(aa (yF x22 (p_.A)) (fun (x24:Bool)=>x24)))))))))))))))))
def yG (c:Int):Bool:=
 (if (decide (c<33)) then true else (decide (c>126)))
def yH (s:(List Int)):Int:=
 (ae (((s.length:Int) - 0).toNat+1) (fun (ag1:Int→Int) (p1:Int)=>(if (decide (p1<(s.length:Int))) then (aa (yG (gt s p1)) (fun (x5:Bool)=>(if x5 then p1 else (ag1 (p1+1))))) else (-1))) (fun _=>default) 0)
def yI (s:(List Int)):Bool:=
 (aa (yH s) (fun (x1:Int)=>(decide (x1≥0))))
def lY (label:(List UInt8)):Bool:=
 (if (decide ((label.length:Int)≥1)) then (if (decide ((label.length:Int)≤24)) then (aa (yI (gG label)) (fun (x5:Bool)=>(!x5))) else false) else false)
def yJ (label:(List UInt8)):(ce×Int):=
 (aa (lY label) (fun (x1:Bool)=>(if (!x1) then (ef,1) else (aa (gn ([115,112,101,99,105,101,47,116,114,97,110,115,99,114,105,112,116]) (gG label)) (fun (x8:((List Int)×Int))=>(({State:=x8.1,Count:=0}:ce),x8.2))))))
def tJ (t:ce):Bool:=
 (if (decide (t.Count≥0)) then (decide (t.Count≤1000)) else false)
def tK (tag:(List UInt8)) (t:ce) (label:(List UInt8)) (more:(List am)):((List Int)×Int):=
 (aa (gk ({Kind:=3,N:=0,B:=([]:List Int),L:=(([({Kind:=2,N:=0,B:=(bc 32 t.State),L:=([]:List am)}:am),({Kind:=2,N:=0,B:=(gG label),L:=([]:List am)}:am)]:List am)++more)}:am)) (fun (x1:((List Int)×Int))=>(if (x1.2 !=0) then ([0,0,0,0,0,0,0,0,0,0,0,0,0,0,0,0,0,0,0,0,0,0,0,0,0,0,0,0,0,0,0,0],x1.2) else (aa (gn tag (x1.1)) (fun (x8:((List Int)×Int))=>(x8.1,x8.2))))))
def tL (t:ce) (label:(List UInt8)) (i_:am):(ce×Int):=
 (aa (tJ t) (fun (x1:Bool)=>(if (!x1) then (ef,1) else (aa (lY label) (fun (x6:Bool)=>(if (!x6) then (ef,1) else (aa (tK ([115,112,101,99,105,101,47,97,98,115,111,114,98]) t label ([i_]:List am)) (fun (x13:((List Int)×Int))=>(if (x13.2==1) then (ef,1) else (if (x13.2 !=0) then (ef,5) else (if (t.Count==1000) then (ef,5) else (({State:=x13.1,Count:=(al .i64 t.Count 1)}:ce),0))))))))))))
def yK (t:ce) (label:(List UInt8)) (l:(List Int)):(ce×Int):=
 (aa (go l) (fun (x1:am)=>(aa (tL t label x1) (fun (x4:(ce×Int))=>(x4.1,x4.2)))))
def bM (name:(List UInt8)) (l_:(List Int)) (c0:Int) (c1:ce):(Int×ce):=
 (if (c0==0) then (aa (yK c1 name l_) (fun (x3:(ce×Int))=>(x3.2,x3.1))) else (c0,c1))
def yL (t:ce) (label:(List UInt8)) (q:Int):(ce×Int×Int):=
 (aa (tJ t) (fun (x1:Bool)=>(if (!x1) then (ef,0,1) else (aa (lY label) (fun (x6:Bool)=>(if (!x6) then (ef,0,1) else (if (decide (q<2)) then (ef,0,2) else (if (decide (q≥2305843009213693952)) then (ef,0,2) else (if (t.Count==1000) then (ef,0,5) else (aa (tK ([115,112,101,99,105,101,47,99,104,97,108,108,101,110,103,101]) t label ([]:List am)) (fun (x21:((List Int)×Int))=>(if (x21.2 !=0) then (ef,0,x21.2) else (aa (pU (x21.1) q) (fun (x27:(Int×Int))=>(if (x27.2 !=0) then (ef,0,x27.2) else (aa (tL t label ({Kind:=1,N:=x27.1,B:=([]:List Int),L:=([]:List am)}:am)) (fun (x33:(ce×Int))=>(if (x33.2 !=0) then (ef,0,x33.2) else (x33.1,x27.1,0)))))))))))))))))))
def yM (g:aP) (r_:cF) (a_:(List Int)) (label:(List UInt8)):(Int×Int):=
 (aa (yJ label) (fun (x1:(ce×Int))=>(aa (bM ([103,114,111,117,112]) ([g.P,g.Q,g.G]:List Int) (x1.2) (x1.1)) (fun (x4:(Int×ce))=>(aa (bM ([121]) (r_.Y) (x4.1) (x4.2)) (fun (x7:(Int×ce))=>(ae (((r_.Bases.length:Int) - 0).toNat+1) (fun (ag10:(Int×ce×Int)→(Int×Int)) (p10:Int×ce×Int)=>(if (decide (p10.1<(r_.Bases.length:Int))) then (aa (bM ([98,97,115,101,115]) (gt r_.Bases p10.1) (p10.2.2) (p10.2.1)) (fun (x14:(Int×ce))=>(ag10 ((p10.1+1),x14.2,x14.1)))) else (aa (bM ([99,111,109,109,105,116]) a_ (p10.2.2) (p10.2.1)) (fun (x18:(Int×ce))=>(if (x18.1 !=0) then (0,x18.1) else (aa (yL (x18.2) ([99,104,97,108,108,101,110,103,101]) (g.Q)) (fun (x24:(ce×Int×Int))=>(x24.2.1,x24.2.2)))))))) (fun _=>default) (0,x7.2,x7.1))))))))
def yN (g:aP) (r_:cF) (label:(List UInt8)) (p_:dS):Bool:=
 (aa (nK g r_ p_) (fun (x1:Bool)=>(if (!x1) then false else (aa (yM g r_ (p_.A) label) (fun (x8:(Int×Int))=>(if (x8.2==0) then (x8.1==p_.C) else false))))))
def yO (b:aX) (y:Int) (pseudonym:Int) (label:(List UInt8)) (x_:b9):Bool:=
 (aa (yw b y pseudonym x_) (fun (x1:(cF×Int))=>(if (x1.2==0) then (aa (yN (b.Group) (x1.1) label (x_.Proof)) (fun (x6:Bool)=>x6)) else false)))
def tM (k_:ci):Bool:=
 (if (k_.y==0) then ((k_.p.Escrow.length:Int)==0) else (aa (yr (k_.v)) (fun (x4:((List UInt8)×Int))=>(aa (nH k_) (fun (x7:(List au))=>(if ((x7.length:Int) !=(k_.p.Escrow.length:Int)) then false else (ae (((x7.length:Int) - 0).toNat+1) (fun (ag14:Int→Bool) (p14:Int)=>(if (decide (p14<(x7.length:Int))) then (aa (yO (k_.b) (k_.y) ((gt x7 p14).Coin.A) (x4.1) (gt k_.p.Escrow p14)) (fun (x19:Bool)=>(if (!x19) then false else (ag14 (p14+1))))) else true)) (fun _=>default) 0)))))))
def tN (r_:bg) (s:au):(Int×Int):=
 (if (decide (r_.Value<0)) then (0,1) else (if (decide (r_.Value>1099511627776)) then (0,1) else (if (decide (r_.Depth<0)) then (0,1) else (if (decide (r_.Depth>5)) then (0,1) else (aa (nB (r_.Depth) (s.Node)) (fun (x10:Bool)=>(if (!x10) then (0,2) else ((aq .i64 r_.Value s.Node.Level),0))))))))
def yP (l:(List bg)) (h_:bh):(Int×Int):=
 (aa (tx l (h_.First.Coin)) (fun (x1:(bg×Bool))=>(if (!x1.2) then (0,18) else (aa (tN (x1.1) (h_.First)) (fun (x7:(Int×Int))=>(x7.1,x7.2))))))
def yQ (k_:ci):Int:=
 (ae (((k_.p.Spends.length:Int) - 0).toNat+1) (fun (ag1:(Int×Int)→Int) (p1:Int×Int)=>(if (decide (p1.2<(k_.p.Spends.length:Int))) then (aa (nw k_ ((gt k_.p.Spends p1.2).Coin)) (fun (x5:(bg×Bool))=>(aa (tN (x5.1) (gt k_.p.Spends p1.2)) (fun (x8:(Int×Int))=>(ag1 ((al .i64 p1.1 x8.1),(p1.2+1))))))) else (ae (((k_.p.Chains.length:Int) - 0).toNat+1) (fun (ag12:(Int×Int)→Int) (p12:Int×Int)=>(if (decide (p12.2<(k_.p.Chains.length:Int))) then (aa (yP (k_.l) (gt k_.p.Chains p12.2)) (fun (x16:(Int×Int))=>(ag12 ((al .i64 p12.1 x16.1),(p12.2+1))))) else p12.1)) (fun _=>default) (p1.1,0)))) (fun _=>default) (0,0))
def tO (c0:ci) (c1:aL):Bool:=
 (aa (yQ c0) (fun (x1:Int)=>(x1==c1.Amount)))
def iA:List (Bool×Int)→Int→Int×Int
 | [],n=>(n,0)
 | (true,_)::l,n=>iA l n
 | (false,e)::_,_=>(0,e)
def qd (b:aX) (l:List bg) (y:Int) (v:aL) (p:aA):List (Bool×Int):=
 [(nt ⟨b,l,y,v,p⟩,1),(tg p,5),(pQ p v,14),(tj ⟨b,l,y,v,p⟩,18),(nG ⟨b,l,y,v,p⟩,11),(tB ⟨b,l,y,v,p⟩,16),(tC ⟨b,l,y,v,p⟩,15),(tD ⟨b,l,y,v,p⟩,8),(tM ⟨b,l,y,v,p⟩,12),(tO ⟨b,l,y,v,p⟩ v,17)]
def cQ (b:aX) (l:List bg) (y:Int) (v:aL) (p:aA):Int×Int:=iA (qd b l y v p) v.Amount
def fj (l:(List aA)):(List (List Int)):=
 (ae (((l.length:Int) - 0).toNat+1) (fun (ag1:(Int×List (List Int))→(List (List Int))) (p1:Int×List (List Int))=>(if (decide (p1.1<(l.length:Int))) then (aa (dE (gt l p1.1)) (fun (x5:(List bD))=>(ae (((x5.length:Int) - 0).toNat+1) (fun (ag9:(Int×List (List Int))→(List (List Int))) (p9:Int×List (List Int))=>(if (decide (p9.1<(x5.length:Int))) then (ag9 ((p9.1+1),(dA p9.2 [(gt x5 p9.1).A,(gt x5 p9.1).B]))) else (ag1 ((p1.1+1),p9.2)))) (fun _=>default) (0,p1.2)))) else p1.2)) (fun _=>default) (0,([]:List (List Int))))
def qe (p_:aA):Int:=
 (ae (((p_.Chains.length:Int) - 0).toNat+1) (fun (ag1:(Int×Int)→Int) (p1:Int×Int)=>(if (decide (p1.2<(p_.Chains.length:Int))) then (ag1 ((fL p1.1 ((gt p_.Chains p1.2).L.length:Int)),(p1.2+1))) else p1.1)) (fun _=>default) (0,0))
def tP (x_:Int):Bool:=
 (x_ !=x_)
def yR (x_:Int) (y:Int):Bool:=
 (aa (tP x_) (fun (x1:Bool)=>(if x1 then (aa (tP y) (fun (x5:Bool)=>(if (!x5) then true else (decide (x_<y))))) else (decide (x_<y)))))
def tQ (x_:Int):Bool:=
 (x_ !=x_)
def yS (x_:(List Int)) (target:Int):(Int×Bool):=
 (ae (((x_.length:Int) - 0).toNat+1) (fun (ag1:(Int×Int)→(Int×Bool)) (p1:Int×Int)=>(if (decide (p1.1<p1.2)) then (aa (yR (gt x_ (ah .i64 (aq .u64 (ah .u64 (p1.1+p1.2)) 1))) target) (fun (x6:Bool)=>(if x6 then (ag1 (((ah .i64 (aq .u64 (ah .u64 (p1.1+p1.2)) 1))+1),p1.2)) else (ag1 (p1.1,(ah .i64 (aq .u64 (ah .u64 (p1.1+p1.2)) 1))))))) else (if (decide (p1.1<(x_.length:Int))) then (if ((gt x_ p1.1)==target) then (p1.1,true) else (aa (tQ (gt x_ p1.1)) (fun (x17:Bool)=>(if x17 then (aa (tQ target) (fun (x21:Bool)=>(p1.1,x21))) else (p1.1,false))))) else (p1.1,false)))) (fun _=>default) (0,(x_.length:Int)))
def tR (s:au) (c0:aw):Bool:=
 (aa (yS (c0.Blocked) (s.Coin.A)) (fun (x1:(Int×Bool))=>x1.2))
def yT (s:(List au)) (f__c0:aw):Int:=
 (ae (((s.length:Int) - 0).toNat+1) (fun (ag1:Int→Int) (p1:Int)=>(if (decide (p1<(s.length:Int))) then (aa (tR (gt s p1) f__c0) (fun (x5:Bool)=>(if x5 then p1 else (ag1 (p1+1))))) else (-1))) (fun _=>default) 0)
def tS (s:(List au)) (f__c0:aw):Bool:=
 (aa (yT s f__c0) (fun (x1:Int)=>(decide (x1≥0))))
def yU (c:bh) (c0_c0:aw):Bool:=
 (aa (tR (c.First) c0_c0) (fun (x1:Bool)=>(if x1 then true else (aa (tS (c.L) c0_c0) (fun (x5:Bool)=>x5)))))
def yV (s:(List bh)) (f__c0_c0:aw):Int:=
 (ae (((s.length:Int) - 0).toNat+1) (fun (ag1:Int→Int) (p1:Int)=>(if (decide (p1<(s.length:Int))) then (aa (yU (gt s p1) f__c0_c0) (fun (x5:Bool)=>(if x5 then p1 else (ag1 (p1+1))))) else (-1))) (fun _=>default) 0)
def yW (s:(List bh)) (f__c0_c0:aw):Bool:=
 (aa (yV s f__c0_c0) (fun (x1:Int)=>(decide (x1≥0))))
def qf (m:aw) (p_:aA):Bool:=
 (aa (tS (p_.Spends) m) (fun (x1:Bool)=>(if x1 then true else (aa (yW (p_.Chains) m) (fun (x5:Bool)=>x5)))))
def fF (s:(List aL)) (f__c0:aA):Int:=
 (ae (((s.length:Int) - 0).toNat+1) (fun (ag1:Int→Int) (p1:Int)=>(if (decide (p1<(s.length:Int))) then (aa (km (gt s p1) f__c0) (fun (x5:Bool)=>(if x5 then p1 else (ag1 (p1+1))))) else (-1))) (fun _=>default) 0)
def cU (b:aX) (l:(List bg)) (y:Int) (m:aw) (p_:aA):(aw×Int×Int):=
 (aa (di m) (fun (x1:Bool)=>(if (!x1) then (bK,0,1) else (aa (fF (m.Open) p_) (fun (x9:Int)=>(if (decide (x9<0)) then (bK,0,7) else (aa (cQ b l y (gt m.Open x9) p_) (fun (x17:(Int×Int))=>(if (x17.2 !=0) then (bK,0,x17.2) else (aa (fj (m.Queue)) (fun (x23:(List (List Int)))=>(aa (fj ([p_]:List aA)) (fun (x26:(List (List Int)))=>(if (List.any x26 (fun x=>List.contains x23 x)) then (bK,0,8) else (aa (qe p_) (fun (x32:Int)=>(aa (nh (m.Now)) (fun (x34:Int)=>(aa (ni (m.Policy) (x17.1) (al .i64 (p_.Spends.length:Int) (p_.Chains.length:Int)) x32 x34 (m.Total)) (fun (x36:(Bool×Int))=>(aa (qf m p_) (fun (x38:Bool)=>(if x38 then (bK,0,16) else (if (!x36.1) then (bK,0,16) else (if ((m.Queue.length:Int)==50) then (bK,0,5) else (if (decide ((al .i64 m.Total x17.1)>1099511627776)) then (bK,0,5) else (aa (kj m) (fun (x50:aw)=>(aa (py (x50.Open) x9 (al .i64 x9 1)) (fun (x54:(List aL))=>(aa (nl p_) (fun (x57:aA)=>(({Name:=x50.Name,Policy:=x50.Policy,Open:=x54,Next:=x50.Next,Queue:=(x50.Queue++([x57]:List aA)),Paid:=(x50.Paid++([(gt m.Open x9)]:List aL)),Total:=(al .i64 x50.Total x17.1),Blocked:=x50.Blocked,Now:=x50.Now}:aw),x17.1,0)))))))))))))))))))))))))))))))))
def nL (a_:(List aL)) (b:(List aL)):Bool:=
 (if ((a_.length:Int) !=(b.length:Int)) then false else (ae (((a_.length:Int) - 0).toNat+1) (fun (ag4:Int→Bool) (p4:Int)=>(if (decide (p4<(a_.length:Int))) then (if (!(j5 (gt a_ p4) (gt b p4))) then false else (ag4 (p4+1))) else true)) (fun _=>default) 0))
def qg (p_:eG) (q:eG):Bool:=
 (if (p_.Index !=q.Index) then false else (if ((p_.L.length:Int) !=(q.L.length:Int)) then false else (ae (((p_.L.length:Int) - 0).toNat+1) (fun (ag6:Int→Bool) (p6:Int)=>(if (decide (p6<(p_.L.length:Int))) then (if (!(eH (gt p_.L p6) (gt q.L p6))) then false else (ag6 (p6+1))) else true)) (fun _=>default) 0)))
def ku (a_:au) (b:au):Bool:=
 (if (!(nb (a_.Coin) (b.Coin))) then false else (if (!(nc (a_.Node) (b.Node))) then false else (if (!(jk (a_.Context) (b.Context))) then false else (if ((a_.Leaves.length:Int) !=(b.Leaves.length:Int)) then false else (aa (qg (a_.Path) (b.Path)) (fun (x9:Bool)=>(if (!x9) then false else (ae (((a_.Leaves.length:Int) - 0).toNat+1) (fun (ag15:Int→Bool) (p15:Int)=>(if (decide (p15<(a_.Leaves.length:Int))) then (if (!(lM (gt a_.Leaves p15) (gt b.Leaves p15))) then false else (ag15 (p15+1))) else true)) (fun _=>default) 0))))))))
def nM (x_:bh) (y:bh):Bool:=
 (aa (gK x_) (fun (x1:(List au))=>(aa (gK y) (fun (x4:(List au))=>(if ((x1.length:Int) !=(x4.length:Int)) then false else (ae (((x1.length:Int) - 0).toNat+1) (fun (ag11:Int→Bool) (p11:Int)=>(if (decide (p11<(x1.length:Int))) then (aa (ku (gt x1 p11) (gt x4 p11)) (fun (x16:Bool)=>(if (!x16) then false else (ag11 (p11+1))))) else true)) (fun _=>default) 0))))))
def nN (a_:(List Int)) (b:(List Int)):Bool:=
 (if ((a_.length:Int) !=(b.length:Int)) then false else (ae (((a_.length:Int) - 0).toNat+1) (fun (ag4:Int→Bool) (p4:Int)=>(if (decide (p4<(a_.length:Int))) then (if ((gt a_ p4) !=(gt b p4)) then false else (ag4 (p4+1))) else true)) (fun _=>default) 0))
def tT (a_:dS) (b:dS):Bool:=
 (aa (nN (a_.A) (b.A)) (fun (x1:Bool)=>(if x1 then (if (a_.C==b.C) then (aa (nN (a_.Z) (b.Z)) (fun (x7:Bool)=>x7)) else false) else false)))
def nO (a_:b9) (b:b9):Bool:=
 (if (a_.E1==b.E1) then (if (a_.E2==b.E2) then (aa (tT (a_.Proof) (b.Proof)) (fun (x5:Bool)=>x5)) else false) else false)
def fG (p_:aA) (q:aA):Bool:=
 (if (p_.Number !=q.Number) then false else (if ((p_.Spends.length:Int) !=(q.Spends.length:Int)) then false else (if ((p_.Chains.length:Int) !=(q.Chains.length:Int)) then false else (if ((p_.Escrow.length:Int) !=(q.Escrow.length:Int)) then false else (ae (((p_.Spends.length:Int) - 0).toNat+1) (fun (ag10:Int→Bool) (p10:Int)=>(if (decide (p10<(p_.Spends.length:Int))) then (aa (ku (gt p_.Spends p10) (gt q.Spends p10)) (fun (x15:Bool)=>(if (!x15) then false else (ag10 (p10+1))))) else (ae (((p_.Chains.length:Int) - 0).toNat+1) (fun (ag22:Int→Bool) (p22:Int)=>(if (decide (p22<(p_.Chains.length:Int))) then (aa (nM (gt p_.Chains p22) (gt q.Chains p22)) (fun (x27:Bool)=>(if (!x27) then false else (ag22 (p22+1))))) else (ae (((p_.Escrow.length:Int) - 0).toNat+1) (fun (ag34:Int→Bool) (p34:Int)=>(if (decide (p34<(p_.Escrow.length:Int))) then (aa (nO (gt p_.Escrow p34) (gt q.Escrow p34)) (fun (x39:Bool)=>(if (!x39) then false else (ag34 (p34+1))))) else true)) (fun _=>default) 0))) (fun _=>default) 0))) (fun _=>default) 0)))))
def qh (a_:aw) (b:aw):Bool:=
 (if (!(eH (a_.Name) (b.Name))) then false else (if (a_.Next !=b.Next) then false else (if (a_.Total !=b.Total) then false else (if (a_.Now !=b.Now) then false else (if ((a_.Policy.Rules.length:Int) !=(b.Policy.Rules.length:Int)) then false else (if ((a_.Queue.length:Int) !=(b.Queue.length:Int)) then false else (if ((a_.Blocked.length:Int) !=(b.Blocked.length:Int)) then false else (aa (nL (a_.Open) (b.Open)) (fun (x15:Bool)=>(if (!x15) then false else (aa (nL (a_.Paid) (b.Paid)) (fun (x20:Bool)=>(if (!x20) then false else (ae (((a_.Policy.Rules.length:Int) - 0).toNat+1) (fun (ag26:Int→Bool) (p26:Int)=>(if (decide (p26<(a_.Policy.Rules.length:Int))) then (if (!(lN (gt a_.Policy.Rules p26) (gt b.Policy.Rules p26))) then false else (ag26 (p26+1))) else (ae (((a_.Queue.length:Int) - 0).toNat+1) (fun (ag35:Int→Bool) (p35:Int)=>(if (decide (p35<(a_.Queue.length:Int))) then (aa (fG (gt a_.Queue p35) (gt b.Queue p35)) (fun (x40:Bool)=>(if (!x40) then false else (ag35 (p35+1))))) else (ae (((a_.Blocked.length:Int) - 0).toNat+1) (fun (ag47:Int→Bool) (p47:Int)=>(if (decide (p47<(a_.Blocked.length:Int))) then (if ((gt a_.Blocked p47) !=(gt b.Blocked p47)) then false else (ag47 (p47+1))) else true)) (fun _=>default) 0))) (fun _=>default) 0))) (fun _=>default) 0))))))))))))))
def qi (m:aw):Bool:=
 (aa (qh m bK) (fun (x1:Bool)=>x1))
def jt (p_:aA):(List bD):=
 (aa (lQ p_) (fun (x1:(List au))=>(ae (((x1.length:Int) - 0).toNat+1) (fun (ag5:(Int×List bD)→(List bD)) (p5:Int×List bD)=>(if (decide (p5.1<(x1.length:Int))) then (ae ((((gt x1 p5.1).Leaves.length:Int) - 0).toNat+1) (fun (ag8:(Int×List bD)→(List bD)) (p8:Int×List bD)=>(if (decide (p8.1<((gt x1 p5.1).Leaves.length:Int))) then (ag8 ((p8.1+1),(p8.2++([({A:=(gt x1 p5.1).Coin.A,B:=(gt (gt x1 p5.1).Leaves p8.1).B,Spend:=(gt x1 p5.1),Leaf:=p8.1}:bD)]:List bD)))) else (ag5 ((p5.1+1),p8.2)))) (fun _=>default) (0,p5.2)) else p5.2)) (fun _=>default) (0,([]:List bD)))))
def kv (p_:aA) (q:aA):Bool:=
 (aa (jt p_) (fun (x1:(List bD))=>(aa (jt q) (fun (x4:(List bD))=>(ae (((x1.length:Int) - 0).toNat+1) (fun (ag8:Int→Bool) (p8:Int)=>(if (decide (p8<(x1.length:Int))) then (ae (((x4.length:Int) - 0).toNat+1) (fun (ag11:Int→Bool) (p11:Int)=>(if (decide (p11<(x4.length:Int))) then (if ((gt x1 p8).A==(gt x4 p11).A) then (if ((gt x1 p8).B==(gt x4 p11).B) then true else (ag11 (p11+1))) else (ag11 (p11+1))) else (ag8 (p8+1)))) (fun _=>default) 0) else false)) (fun _=>default) 0)))))
def cA (m:aw):(aw×aL×aA×Int):=
 (aa (di m) (fun (x1:Bool)=>(if (!x1) then (bK,eE,io,1) else (if ((m.Queue.length:Int)==0) then (bK,eE,io,7) else (aa (kj m) (fun (x12:aw)=>(({Name:=x12.Name,Policy:=x12.Policy,Open:=x12.Open,Next:=x12.Next,Queue:=(sl x12.Queue 1 (x12.Queue.length:Int)),Paid:=(sl x12.Paid 1 (x12.Paid.length:Int)),Total:=(aB .i64 x12.Total (gt x12.Paid 0).Amount),Blocked:=x12.Blocked,Now:=x12.Now}:aw),(gt x12.Paid 0),(gt x12.Queue 0),0)))))))
def tU (b:aX) (l:(List bg)) (y:Int) (m:aw) (p_:aA) (again:aA):Bool:=
 (aa (jm) (fun (x1:Bool)=>(if (!x1) then (aa (jm) (fun (x245:Bool)=>x245)) else (aa (iw m) (fun (x6:Bool)=>(if (!x6) then (aa (jm) (fun (x241:Bool)=>x241)) else (aa (iv p_) (fun (x11:Bool)=>(if (!x11) then (aa (jm) (fun (x237:Bool)=>x237)) else (aa (iv again) (fun (x16:Bool)=>(if (!x16) then (aa (jm) (fun (x233:Bool)=>x233)) else (if (decide ((l.length:Int)>60)) then (aa (jm) (fun (x23:Bool)=>x23)) else (aa (cU b l y m p_) (fun (x27:(aw×Int×Int))=>(if (x27.2.2 !=0) then (aa (qi (x27.1)) (fun (x34:Bool)=>(if x34 then (x27.2.1==0) else false))) else (aa (di (x27.1)) (fun (x39:Bool)=>(if (!x39) then false else (if (x27.1.Total !=(al .i64 m.Total x27.2.1)) then false else (if ((x27.1.Queue.length:Int) !=(al .i64 (m.Queue.length:Int) 1)) then false else (if ((x27.1.Paid.length:Int) !=(x27.1.Queue.length:Int)) then false else (if ((x27.1.Open.length:Int) !=(aB .i64 (m.Open.length:Int) 1)) then false else (aa (cU b l y (x27.1) p_) (fun (x54:(aw×Int×Int))=>(if (x54.2.2 !=7) then false else (aa (fG (gt x27.1.Queue (m.Queue.length:Int)) p_) (fun (x63:Bool)=>(if (!x63) then false else (if ((gt x27.1.Paid (m.Queue.length:Int)).Number !=p_.Number) then false else (if ((gt x27.1.Paid (m.Queue.length:Int)).Amount !=x27.2.1) then false else (aa (cU b l y (x27.1) again) (fun (x73:(aw×Int×Int))=>(aa (kv again p_) (fun (x78:Bool)=>(if x78 then (if (x73.2.2==0) then false else (if (x73.2.2==0) then (aa (di (x73.1)) (fun (x85:Bool)=>(if (!x85) then false else (ae (((m.Queue.length:Int) - 0).toNat+1) (fun (ag92:(Int×aw)→Bool) (p92:Int×aw)=>(if (decide (p92.1<(m.Queue.length:Int))) then (aa (cA (p92.2)) (fun (x95:(aw×aL×aA×Int))=>(if (x95.2.2.2 !=0) then false else (ag92 ((p92.1+1),x95.1))))) else (aa (cA (p92.2)) (fun (x102:(aw×aL×aA×Int))=>(if (x102.2.2.2 !=0) then false else (aa (fG (x102.2.2.1) p_) (fun (x107:Bool)=>(if (!x107) then false else (if (x102.2.1.Number !=p_.Number) then false else (if (x102.1.Total !=0) then false else (aa (cA (x102.1)) (fun (x117:(aw×aL×aA×Int))=>(x117.2.2.2==7))))))))))))) (fun _=>default) (0,x27.1))))) else (ae (((m.Queue.length:Int) - 0).toNat+1) (fun (ag123:(Int×aw)→Bool) (p123:Int×aw)=>(if (decide (p123.1<(m.Queue.length:Int))) then (aa (cA (p123.2)) (fun (x126:(aw×aL×aA×Int))=>(if (x126.2.2.2 !=0) then false else (ag123 ((p123.1+1),x126.1))))) else (aa (cA (p123.2)) (fun (x133:(aw×aL×aA×Int))=>(if (x133.2.2.2 !=0) then false else (aa (fG (x133.2.2.1) p_) (fun (x138:Bool)=>(if (!x138) then false else (if (x133.2.1.Number !=p_.Number) then false else (if (x133.1.Total !=0) then false else (aa (cA (x133.1)) (fun (x148:(aw×aL×aA×Int))=>(x148.2.2.2==7))))))))))))) (fun _=>default) (0,x27.1)))) else (if (x73.2.2==0) then (aa (di (x73.1)) (fun (x156:Bool)=>(if (!x156) then false else (ae (((m.Queue.length:Int) - 0).toNat+1) (fun (ag163:(Int×aw)→Bool) (p163:Int×aw)=>(if (decide (p163.1<(m.Queue.length:Int))) then (aa (cA (p163.2)) (fun (x166:(aw×aL×aA×Int))=>(if (x166.2.2.2 !=0) then false else (ag163 ((p163.1+1),x166.1))))) else (aa (cA (p163.2)) (fun (x173:(aw×aL×aA×Int))=>(if (x173.2.2.2 !=0) then false else (aa (fG (x173.2.2.1) p_) (fun (x178:Bool)=>(if (!x178) then false else (if (x173.2.1.Number !=p_.Number) then false else (if (x173.1.Total !=0) then false else (aa (cA (x173.1)) (fun (x188:(aw×aL×aA×Int))=>(x188.2.2.2==7))))))))))))) (fun _=>default) (0,x27.1))))) else (ae (((m.Queue.length:Int) - 0).toNat+1) (fun (ag195:(Int×aw)→Bool) (p195:Int×aw)=>(if (decide (p195.1<(m.Queue.length:Int))) then (aa (cA (p195.2)) (fun (x198:(aw×aL×aA×Int))=>(if (x198.2.2.2 !=0) then false else (ag195 ((p195.1+1),x198.1))))) else (aa (cA (p195.2)) (fun (x205:(aw×aL×aA×Int))=>(if (x205.2.2.2 !=0) then false else (aa (fG (x205.2.2.1) p_) (fun (x210:Bool)=>(if (!x210) then false else (if (x205.2.1.Number !=p_.Number) then false else (if (x205.1.Total !=0) then false else (aa (cA (x205.1)) (fun (x220:(aw×aL×aA×Int))=>(x220.2.2.2==7))))))))))))) (fun _=>default) (0,x27.1)))))))))))))))))))))))))))))))))))))))
def lZ (x_:Int) (low:Int) (high:Int):Bool:=
 (if (decide (x_≥low)) then (decide (x_≤high)) else false)
def qj (r_:bZ):Bool:=
 (if (r_.Kind==1) then (aa (lZ (r_.A) 0 1099511627776) (fun (x36:Bool)=>(if x36 then (r_.B==0) else false))) else (if (r_.Kind==4) then (aa (lZ (r_.A) 0 1099511627776) (fun (x5:Bool)=>(if x5 then (r_.B==0) else false))) else (if (r_.Kind==2) then (aa (lZ (r_.A) 0 1000) (fun (x12:Bool)=>(if x12 then (r_.B==0) else false))) else (if (r_.Kind==3) then (aa (lZ (r_.A) 0 8) (fun (x19:Bool)=>(if x19 then (r_.B==0) else false))) else (if (r_.Kind==5) then (aa (lZ (r_.A) 0 23) (fun (x26:Bool)=>(if x26 then (aa (lZ (r_.B) 0 23) (fun (x30:Bool)=>(if x30 then (r_.A !=r_.B) else false))) else false))) else false)))))
def nP (p_:dC):Bool:=
 (if (decide ((p_.Rules.length:Int)>20)) then false else (ae (((p_.Rules.length:Int) - 0).toNat+1) (fun (ag4:Int→Bool) (p4:Int)=>(if (decide (p4<(p_.Rules.length:Int))) then (aa (qj (gt p_.Rules p4)) (fun (x8:Bool)=>(if (!x8) then false else (ag4 (p4+1))))) else true)) (fun _=>default) 0))
def qk (x_:Int) (low:Int) (high:Int):Bool:=
 (if (decide (x_≥low)) then (decide (x_≤high)) else false)
def kw (v:aL):Bool:=
 (aa (qk (v.Amount) 1 1099511627776) (fun (x1:Bool)=>(if x1 then (aa (qk (v.Time) 0 1099511627776) (fun (x5:Bool)=>(if x5 then (aa (qk (v.Number) 0 1073741824) (fun (x9:Bool)=>x9)) else false))) else false)))
def dr (m:aw) (v:aL):Bool:=
 (aa (kw v) (fun (x1:Bool)=>(if x1 then (if (eH (v.Payee) (m.Name)) then (if (decide (v.Time≤m.Now)) then (decide (v.Number<m.Next)) else false) else false) else false)))
def gN (l:(List aL)) (number:Int):Int:=
 (ae (((l.length:Int) - 0).toNat+1) (fun (ag1:Int→Int) (p1:Int)=>(if (decide (p1<(l.length:Int))) then (if ((gt l p1).Number==number) then p1 else (ag1 (p1+1))) else (-1))) (fun _=>default) 0)
end Go.Proofs.YteibkofekpejgaaGreatDoor
namespace Go.Proofs.YteibkofekpejgaaGreatDoor
open Go.RowKit
theorem w64 (a:Int):IntKind.wrap .u64 a=a% 18446744073709551616:=by simp [IntKind.wrap,IntKind.bits,IntKind.signed]
theorem nQ {k:IntKind} {x:Int} {n:Int} {m:Nat} (hn:min n.toNat k.bits=m):aq k x n=x/2^m:=by
 unfold aq;rw [hn,Int.fdiv_eq_ediv_of_nonneg];exact Int.le_of_lt (Int.pow_pos (by decide))
theorem ky (x:Int):aq .u64 x 32=x/4294967296:=nQ (m:=32) rfl
theorem KG (x:Int):aq .u64 x 58=x/288230376151711744:=nQ (m:=58) rfl
theorem cV (x:Int):aq .u64 x 1=x/2:=nQ (m:=1) rfl
theorem cX (x:Int):aq .i64 x 1=x/2:=nQ (m:=1) rfl
theorem C8 {x:Int}:0≤aq .u64 (aS .u64 x 285870213051353865) 58∧aq .u64 (aS .u64 x 285870213051353865) 58<64:=by
 rw [KG];unfold aS;rw [w64];omega
def KH (x:Int) (l:Nat):Prop:=1≤l∧(2:Int)^(l - 1)≤x∧x<2^l
theorem KI (x:Nat):1≤x→x<2^64→1≤Lib.bitLen x∧2^(Lib.bitLen x - 1)≤x∧x<2^Lib.bitLen x:=by
 induction x using Nat.strongRecOn with
 | ind x ih=>
  intro h0 h1
  by_cases h:x=1
  ·subst h;decide
  ·obtain ⟨a1,a2,a3⟩:=ih (x/2) (by omega) (by omega) (by omega)
   rw [Lib.bitLen_half x (by omega) h1]
   generalize Lib.bitLen (x/2)=l at a1 a2 a3
   obtain ⟨l,rfl⟩: ∃k,l=k+1:=⟨l - 1,by omega⟩
   refine ⟨by omega,?_,?_⟩
   ·rw [show 1+(l+1) - 1=l+1 by omega,Nat.pow_succ]
    simp only [Nat.add_sub_cancel] at a2
    omega
   ·rw [show 1+(l+1)=(l+1)+1 by omega,Nat.pow_succ]
    omega
theorem KJ {x:Int} (h0:1≤x) (h1:x≤18446744073709551615): ∃l:Nat,sX x=l∧KH x l∧l≤64:=by
 obtain ⟨k,rfl⟩:=Int.eq_ofNat_of_zero_le (show 0≤x by omega)
 have hk:k<2^64:=by omega
 obtain ⟨a1,a2,a3⟩:=KI k (by omega) hk
 exact ⟨Lib.bitLen k,rfl,⟨a1,by exact_mod_cast a2,by exact_mod_cast a3⟩,Lib.bitLen_le k 64 (by decide) hk⟩
theorem C9 {x y:Int} (hx:x=lS y) (h0:1≤y) (h1:y≤18446744073709551615):0≤x∧x≤63∧9223372036854775808≤ay .u64 y (ah .u64 x)∧ay .u64 y (ah .u64 x)=y*2^x.toNat:=by
 obtain ⟨l,e1,⟨e2,e3,e4⟩,e5⟩:=KJ h0 h1
 have hx2:x=64 - (l:Int):=by
  rw [hx];unfold lS aa;rw [e1];simp only;unfold aB;rw [IntKind.wrap_i64];omega
 have hc:ah .u64 x=x:=lu (by omega) (by omega)
 have hn:x.toNat=64 - l:=by omega
 have hm:min (ah .u64 x).toNat IntKind.u64.bits=64 - l:=by rw [hc,hn];show min (64 - l) 64=_;omega
 have hp:(2:Int)^l*2^(64 - l)=18446744073709551616:=by rw [←Int.pow_add,show l+(64 - l)=64 by omega];decide
 have hq:(2:Int)^(l - 1)*2^(64 - l)=9223372036854775808:=by rw [←Int.pow_add,show l - 1+(64 - l)=63 by omega];decide
 have h2:(0:Int)<2^(64 - l):=Int.pow_pos (by decide)
 have g1:=Int.mul_le_mul_of_nonneg_right e3 (Int.le_of_lt h2)
 have g2:=Int.mul_lt_mul_of_pos_right e4 h2
 rw [hp] at g2;rw [hq] at g1
 have e:ay .u64 y (ah .u64 x)=y*2^x.toNat:=by
  unfold ay;rw [hm,w64,hn];exact Int.emod_eq_of_lt (by omega) g2
 exact ⟨by omega,by omega,by rw [e,hn];exact g1,e⟩
theorem ql {x:Int} (h0:0≤x) (h1:x≤18446744073709551615):bC .u64 x 4294967295=x% 4294967296:=by
 obtain ⟨k,rfl⟩:=Int.eq_ofNat_of_zero_le h0
 unfold bC
 have e1:(BitVec.ofInt IntKind.u64.bits (k:Int)).toNat=k:=by
  show (BitVec.ofInt 64 (k:Int)).toNat=k
  rw [BitVec.toNat_ofInt];omega
 have e2:(BitVec.ofInt IntKind.u64.bits 4294967295).toNat=2^32 - 1:=by decide
 rw [BitVec.toNat_and,e1,e2,Nat.and_two_pow_sub_one_eq_mod,w64]
 omega
theorem nR {a b A:Int} (h1:0≤a) (h2:a≤A) (h3:0≤b) (h4:b≤A):0≤a*b∧a*b≤A*A:=
 ⟨Int.mul_nonneg h1 h3,Int.mul_le_mul h2 h4 h3 (Int.le_trans h1 h2)⟩
theorem dz {a:Int} (h0:0≤a) (h1:a≤18446744073709551615):IntKind.wrap .u64 a=a:=by rw [w64];omega
theorem C_ {x y:Int} (hx0:0≤x) (hx1:x≤18446744073709551615) (hy0:0≤y) (hy1:y≤18446744073709551615):kn x y=(x*y/18446744073709551616,x*y% 18446744073709551616):=by
 unfold kn
 rw [ql hx0 hx1,ql hy0 hy1,ky x,ky y]
 obtain ⟨x1,x0,rfl,h1,h2,h3,h4⟩: ∃x1 x0:Int,x=x1*4294967296+x0∧0≤x1∧x1≤4294967295∧0≤x0∧x0≤4294967295:=⟨x/4294967296,x% 4294967296,by omega,by omega,by omega,by omega,by omega⟩
 obtain ⟨y1,y0,rfl,g1,g2,g3,g4⟩: ∃y1 y0:Int,y=y1*4294967296+y0∧0≤y1∧y1≤4294967295∧0≤y0∧y0≤4294967295:=⟨y/4294967296,y% 4294967296,by omega,by omega,by omega,by omega,by omega⟩
 rw [show (x1*4294967296+x0)/4294967296=x1 by omega,show (y1*4294967296+y0)/4294967296=y1 by omega,show (x1*4294967296+x0)% 4294967296=x0 by omega,show (y1*4294967296+y0)% 4294967296=y0 by omega]
 have ea:=nR h1 h2 g1 g2
 have eb:=nR h1 h2 g3 g4
 have ec:=nR h3 h4 g1 g2
 have ed:=nR h3 h4 g3 g4
 have ex:(x1*4294967296+x0)*(y1*4294967296+y0)=x1*y1*18446744073709551616+(x1*y0+x0*y1)*4294967296+x0*y0:=by
  simp only [Int.add_mul,Int.mul_add]
  rw [show x1*4294967296*(y1*4294967296)=x1*y1*18446744073709551616 by rw [Int.mul_assoc,Int.mul_comm 4294967296 (y1*4294967296),Int.mul_assoc y1,←Int.mul_assoc];rfl,show x1*4294967296*y0=x1*y0*4294967296 by rw [Int.mul_assoc,Int.mul_comm 4294967296,←Int.mul_assoc],show x0*(y1*4294967296)=x0*y1*4294967296 by rw [Int.mul_assoc]]
  omega
 have em:aS .u64 (x1*4294967296+x0) (y1*4294967296+y0)=((x1*4294967296+x0)*(y1*4294967296+y0))% 18446744073709551616:=by unfold aS;rw [w64]
 have ma:aS .u64 x1 y1=x1*y1:=dz ea.1 (by omega)
 have mb:aS .u64 x1 y0=x1*y0:=dz eb.1 (by omega)
 have mc:aS .u64 x0 y1=x0*y1:=dz ec.1 (by omega)
 have md:aS .u64 x0 y0=x0*y0:=dz ed.1 (by omega)
 rw [em,ex,ma,mb,mc,md]
 generalize x1*y1=a at ea
 generalize x1*y0=b at eb
 generalize x0*y1=c at ec
 generalize x0*y0=d at ed
 rw [ky d]
 have t1:al .u64 b (d/4294967296)=b+d/4294967296:=dz (by omega) (by omega)
 rw [t1,ky (b+d/4294967296),ql (by omega) (by omega)]
 have t2:al .u64 ((b+d/4294967296)% 4294967296) c=(b+d/4294967296)% 4294967296+c:=dz (by omega) (by omega)
 rw [t2,ky]
 have hxy:a*18446744073709551616+(b+c)*4294967296+d≤18446744073709551615*18446744073709551615:=by
  have:=(nR hx0 hx1 hy0 hy1).2
  omega
 have t3:al .u64 a ((b+d/4294967296)/4294967296)=a+(b+d/4294967296)/4294967296:=dz (by omega) (by omega)
 rw [t3]
 have t4:al .u64 (a+(b+d/4294967296)/4294967296) (((b+d/4294967296)% 4294967296+c)/4294967296)=a+(b+d/4294967296)/4294967296+((b+d/4294967296)% 4294967296+c)/4294967296:=dz (by omega) (by omega)
 rw [t4]
 congr 1
 omega
theorem KK {x y:Int} (hx:x=lS y) (h0:1≤y) (h1:y≤18446744073709551615):0≤x∧x≤63∧0≤ah .u64 x∧0≤aB .u64 64 (ah .u64 x)∧2147483648≤aq .u64 (ay .u64 y (ah .u64 x)) 32∧aq .u64 (ay .u64 y (ah .u64 x)) 32≤4294967295:=by
 obtain ⟨a1,a2,a3,a4⟩:=C9 hx h0 h1
 have h2:ay .u64 y (ah .u64 x)≤18446744073709551615:=(qF .u64 _ _).2
 refine ⟨a1,a2,mP _,(om .u64 _ _).1,?_,?_⟩<;>rw [ky]<;>omega
theorem yX {u d:Int} (h0:0≤u) (h1:u≤18446744073709551615) (hd:1≤d):aB .u64 u (aS .u64 (cB .u64 u d) d)=u% d∧cB .u64 u d=u/d∧0≤u% d∧u% d<d:=by
 have e1:u.tdiv d=u/d:=Int.tdiv_eq_ediv_of_nonneg h0
 have e2:u/d≤u:=Int.ediv_le_self _ h0
 have e3:0≤u/d:=Int.ediv_nonneg h0 (by omega)
 have e4:=Int.mul_ediv_add_emod u d
 have e5:=Int.emod_nonneg u (show d≠0 by omega)
 have e6:=Int.emod_lt_of_pos u (show 0<d by omega)
 have e7:cB .u64 u d=u/d:=by unfold cB;rw [e1];exact dz e3 (by omega)
 have e8:0≤u/d*d:=Int.mul_nonneg e3 (by omega)
 rw [Int.mul_comm] at e4
 have e9:aS .u64 (u/d) d=u/d*d:=dz e8 (by omega)
 refine ⟨?_,e7,e5,e6⟩
 rw [e7,e9];exact (dz (by omega) (by omega)).trans (by omega)
theorem KL {y1 y0 u a q r:Int} (ha1:a<4294967296) (hy0:0≤y0) (hu:u<y1*4294967296+y0) (hu0:0≤u) (hi:q*y1+r=u) (hr:0≤r) (ha:0≤a) (ht:q≥4294967296∨(q*y0>4294967296*r+a)):
  u*4294967296+a<q*(y1*4294967296+y0)∧1≤q:=by
 have e:q*(y1*4294967296+y0)=q*y1*4294967296+q*y0:=by rw [Int.mul_add,Int.mul_assoc]
 rcases ht with h|h
 ·refine ⟨?_,by omega⟩
  have h1:=Int.mul_le_mul_of_nonneg_right h (show 0≤y1*4294967296+y0 by omega)
  omega
 ·refine ⟨by omega,?_⟩
  refine Int.not_lt.1 fun hq=> ?_
  have:=Int.mul_nonneg (show 0≤ -q by omega) hy0
  rw [Int.neg_mul] at this
  omega
theorem KM {y1 y0 u a q r:Int} (hi:q*y1+r=u) (ht:q*y0≤4294967296*r+a):q*(y1*4294967296+y0)≤u*4294967296+a:=by
 have e:q*(y1*4294967296+y0)=q*y1*4294967296+q*y0:=by rw [Int.mul_add,Int.mul_assoc]
 omega
theorem KN {y1 y0 u a q r:Int} (ha:0≤a) (hi:q*y1+r=u) (hr:r≥4294967296) (hq:q≤4294967296) (hy0:0≤y0) (hy01:y0<4294967296):q*(y1*4294967296+y0)≤u*4294967296+a:=by
 have e:q*(y1*4294967296+y0)=q*y1*4294967296+q*y0:=by rw [Int.mul_add,Int.mul_assoc]
 have h1:=Int.mul_le_mul_of_nonneg_right hq hy0
 omega
def Dg (y1 y0 u a q:Int):Prop:=q*(y1*4294967296+y0)≤u*4294967296+a∧u*4294967296+a<(q+1)*(y1*4294967296+y0)
def DgI (y1 y0 u a:Int) (p:Int×Int):Prop:=p.1*y1+p.2=u∧0≤p.2∧p.2<4294967296∧0≤p.1∧p.1≤4294967297∧u*4294967296+a<(p.1+1)*(y1*4294967296+y0)
theorem Da {y1 y0 u a:Int} (hy1:2147483648≤y1) (hy11:y1<4294967296) (hy0:0≤y0) (hy01:y0<4294967296) (hu0:0≤u) (hu:u<y1*4294967296+y0) (ha:0≤a) (ha1:a<4294967296):DgI y1 y0 u a (u/y1,u% y1):=by
 have e4:=Int.mul_ediv_add_emod u y1
 have e5:=Int.emod_nonneg u (show y1≠0 by omega)
 have e6:=Int.emod_lt_of_pos u (show 0<y1 by omega)
 have e3:0≤u/y1:=Int.ediv_nonneg hu0 (by omega)
 have e7:u/y1≤4294967297:=by
  have:u/y1<4294967298:=(Int.ediv_lt_iff_lt_mul (by omega)).2 (by omega)
  omega
 rw [Int.mul_comm] at e4
 refine ⟨e4,e5,by show u% y1<_;omega,e3,e7,?_⟩
 have e8:(u/y1+1)*(y1*4294967296+y0)=u/y1*y1*4294967296+y1*4294967296+(u/y1)*y0+y0:=by
  rw [Int.add_mul,Int.mul_add,Int.one_mul,Int.mul_assoc];omega
 have e9:=Int.mul_nonneg e3 hy0
 show u*4294967296+a<(u/y1+1)*(y1*4294967296+y0)
 rw [e8]
 omega
theorem KO {y1 y0 u a q r:Int} (hy0:0≤y0) (h:DgI y1 y0 u a (q,r)) (hu:u<y1*4294967296+y0) (ha:0≤a) (ha1:a<4294967296) (hu0:0≤u) (ht:q≥4294967296∨(q*y0>4294967296*r+a)):
  (q - 1)*y1+(r+y1)=u∧1≤q∧u*4294967296+a<(q - 1+1)*(y1*4294967296+y0):=by
 obtain ⟨h1,h2,h3,h4,h5,h6⟩:=h
 obtain ⟨a1,a2⟩:=KL ha1 hy0 hu hu0 h1 h2 ha ht
 refine ⟨?_,a2,?_⟩
 ·rw [Int.sub_mul,Int.one_mul];simp only at h1;omega
 ·rw [Int.sub_add_cancel];exact a1
theorem yY {α R:Type} {gq gr:α→Int} {mk:Int→Int→α} (hmq: ∀q r,gq (mk q r)=q) (hmr: ∀q r,gr (mk q r)=r) {y1 y0 u a:Int} (hy1:2147483648≤y1) (hy11:y1<4294967296) (hy0:0≤y0) (hy01:y0<4294967296) (hu0:0≤u) (hu:u<y1*4294967296+y0) (ha:0≤a) (ha1:a<4294967296) {F:(α→R)→α→R} {d:α→R} {j:Int→R}
  (hF: ∀ag p,F ag p=if decide (gq p≥4294967296)=true then (if decide (al .u64 (gr p) y1≥4294967296)=true then j (aB .u64 (gq p) 1) else ag (mk (aB .u64 (gq p) 1) (al .u64 (gr p) y1))) else
   if decide (aS .u64 (gq p) y0>al .u64 (aS .u64 4294967296 (gr p)) a)=true then (if decide (al .u64 (gr p) y1≥4294967296)=true then j (aB .u64 (gq p) 1) else ag (mk (aB .u64 (gq p) 1) (al .u64 (gr p) y1))) else j (gq p))
  {v:R} (hv: ∀q,Dg y1 y0 u a q→j q=v): ∀(n:Nat) (p:α),DgI y1 y0 u a (gq p,gr p)→(4294967296 - gr p).toNat<n→ae n F d p=v
 | 0,p,_,h=>by omega
 | n+1,p,hI,hn=>by
  rw [ae,hF]
  obtain ⟨h1,h2,h3,h4,h5,h6⟩:=hI
  simp only at h1 h2 h3 h4 h5 h6
  generalize hq:gq p=q at*
  generalize hr:gr p=r at*
  have eA:al .u64 r y1=r+y1:=dz (by omega) (by omega)
  have eS:1≤q→aB .u64 q 1=q - 1:=fun h=>dz (by omega) (by omega)
  have down:(q≥4294967296∨(q*y0>4294967296*r+a))→(if decide (al .u64 r y1≥4294967296)=true then j (aB .u64 q 1) else ae n F d (mk (aB .u64 q 1) (al .u64 r y1)))=v:=by
   intro ht
   obtain ⟨d1,d2,d3⟩:=KO hy0 (show DgI y1 y0 u a (q,r) from ⟨h1,h2,h3,h4,h5,h6⟩) hu ha ha1 hu0 ht
   rw [eA,eS d2]
   by_cases hb:r+y1≥4294967296
   ·rw [if_pos (by simpa using hb)]
    exact hv _ ⟨KN ha d1 hb (by omega) hy0 hy01,d3⟩
   ·rw [if_neg (by simpa using hb)]
    exact yY hmq hmr hy1 hy11 hy0 hy01 hu0 hu ha ha1 hF hv n _ (by rw [hmq,hmr];exact ⟨d1,by show 0≤r+y1;omega,by show r+y1<_;omega,by show 0≤q - 1;omega,by show q - 1≤_;omega,d3⟩) (by rw [hmr];omega)
  by_cases ht:q≥4294967296
  ·rw [if_pos (by simpa using ht)]
   exact down (.inl ht)
  ·rw [if_neg (by simpa using ht)]
   have hm:=nR h4 (show q≤4294967295 by omega) hy0 (show y0≤4294967295 by omega)
   have e1:aS .u64 q y0=q*y0:=dz hm.1 (by omega)
   have e2:aS .u64 4294967296 r=4294967296*r:=dz (by omega) (by omega)
   have e3:al .u64 (4294967296*r) a=4294967296*r+a:=dz (by omega) (by omega)
   rw [e1,e2,e3]
   by_cases hc:q*y0>4294967296*r+a
   ·rw [if_pos (by simpa using hc)]
    exact down (.inr hc)
   ·rw [if_neg (by simpa using hc)]
    exact hv _ ⟨KM h1 (by omega),h6⟩
theorem KP {a b:Int} {s:Nat} (hs:s≤63) (ha0:0≤a) (ha:a*2^s<18446744073709551616) (hb0:0≤b) (hb:b<2^s):orI .u64 (a*2^s) b=a*2^s+b:=by
 obtain ⟨a,rfl⟩:=Int.eq_ofNat_of_zero_le ha0
 obtain ⟨b,rfl⟩:=Int.eq_ofNat_of_zero_le hb0
 have hp:2^s≤2^63:=Nat.pow_le_pow_right (by decide) hs
 have e0:((a:Int)*2^s)=((a*2^s:Nat):Int):=by push_cast;rfl
 have ha':a*2^s<18446744073709551616:=by
  rw [e0] at ha
  generalize a*2^s=t at ha⊢
  omega
 have hb':b<2^s:=by exact_mod_cast hb
 rw [e0]
 unfold orI
 have t: ∀n:Nat,n<18446744073709551616→(BitVec.ofInt IntKind.u64.bits (n:Int)).toNat=n:=by
  intro n hn
  show (BitVec.ofInt 64 (n:Int)).toNat=n
  rw [BitVec.toNat_ofInt];omega
 rw [BitVec.toNat_or,t _ ha',t _ (by omega),Nat.mul_comm a,←Nat.two_pow_add_eq_or_of_lt hb',w64]
 rw [Nat.mul_comm] at ha'
 have:2^s*a+b<18446744073709551616:=by
  have h1:2^s*(a+1)≤18446744073709551616:=by
   have h2:2^s∣18446744073709551616:=⟨2^(64 - s),by rw [←Nat.pow_add,show s+(64 - s)=64 by omega]⟩
   obtain ⟨c,hc⟩:=h2
   rw [hc] at ha'⊢
   exact Nat.mul_le_mul_left _ (Nat.lt_of_mul_lt_mul_left ha')
  rw [Nat.mul_add,Nat.mul_one] at h1
  omega
 omega
theorem KQ (a b:Int) {c:Int} (h:0<c):(a*c)% (b*c)=a% b*c:=by
 rw [Int.mul_comm a,Int.mul_comm b,Int.mul_emod_mul_of_pos _ _ h,Int.mul_comm]
theorem KR {N y Y p u w a1 a0 q1 q0 v:Int} (hp:0<p) (hY:Y=y*p) (hY0:0<Y) (hw:w=a1*4294967296+a0) (hN:u*18446744073709551616+w=N*p)
  (hv:v=u*4294967296+a1 - q1*Y) (h1:q0*Y≤v*4294967296+a0) (h2:v*4294967296+a0<(q0+1)*Y):
  q1*4294967296+q0=N/y∧v*4294967296+a0 - q0*Y=N% y*p:=by
 have e:N*p=(q1*4294967296+q0)*Y+(v*4294967296+a0 - q0*Y):=by
  have e1:(q1*4294967296+q0)*Y=q1*Y*4294967296+q0*Y:=by rw [Int.add_mul,Int.mul_right_comm]
  rw [e1];omega
 have e2:(q0+1)*Y=q0*Y+Y:=by rw [Int.add_mul,Int.one_mul]
 generalize hR:v*4294967296+a0 - q0*Y=R at*
 generalize hQ:q1*4294967296+q0=Q at*
 have hR0:0≤R:=by omega
 have hR1:R<Y:=by omega
 have d:N*p/Y=Q:=by
  rw [e,Int.add_comm,Int.add_mul_ediv_right _ _ (by omega),Int.ediv_eq_zero_of_lt hR0 hR1];omega
 have m:N*p% Y=R:=by rw [e,Int.add_comm,Int.add_mul_emod_self_right,Int.emod_eq_of_lt hR0 hR1]
 rw [hY] at d m
 rw [Int.mul_ediv_mul_of_pos_left _ _ hp] at d
 rw [KQ _ _ hp] at m
 exact ⟨d.symm,m.symm⟩
theorem Db {u a q Y:Int} (h0:0≤u*4294967296+a - q*Y) (h1:u*4294967296+a - q*Y≤18446744073709551615):aB .u64 (al .u64 (aS .u64 u 4294967296) a) (aS .u64 q Y)=u*4294967296+a - q*Y:=by
 unfold aB al aS
 simp only [w64]
 generalize q*Y=T at*
 omega
theorem KS {q r:Int} (h0:0≤q*4294967296+r) (h1:q*4294967296+r≤18446744073709551615):al .u64 (aS .u64 q 4294967296) r=q*4294967296+r:=by
 unfold al aS
 simp only [w64]
 omega
theorem Dc {α R:Type} {f:α→R} {G:(α→R)→R} {v:R} (h: ∀j,j=f→G j=v):mU f G=v:=h f rfl
set_option maxRecDepth 4000 in
theorem KU {hi lo y:Int} (hh0:0≤hi) (hl0:0≤lo) (hl1:lo≤18446744073709551615) (hy:hi<y) (hy1:y≤18446744073709551615):nn hi lo y=((hi*18446744073709551616+lo)/y,(hi*18446744073709551616+lo)% y):=by
 unfold nn
 rw [if_neg (by simp;omega),if_neg (by simp;omega)]
 by_cases h0:hi=0
 ·subst h0
  rw [if_pos (by decide)]
  have e1:lo.tdiv y=lo/y:=Int.tdiv_eq_ediv_of_nonneg hl0
  have e2:lo/y≤lo:=Int.ediv_le_self _ hl0
  have e3:0≤lo/y:=Int.ediv_nonneg hl0 (by omega)
  have e4:cB .u64 lo y=lo/y:=by unfold cB;rw [e1];exact dz e3 (by omega)
  have e5:cJ .u64 lo y=lo% y:=Int.tmod_eq_emod_of_nonneg hl0
  rw [e4,e5];simp
 ·rw [if_neg (by simpa using h0)]
  obtain ⟨s,hs⟩: ∃s,s=lS y:=⟨_,rfl⟩
  obtain ⟨s0,s1,s2,s3⟩:=C9 hs (by omega) hy1
  have hY:=(qF .u64 y (ah .u64 s)).2
  simp only [aa,←hs]
  obtain ⟨k,rfl⟩:=Int.eq_ofNat_of_zero_le s0
  rw [s3] at s2 hY
  simp only [Int.toNat_natCast] at s2 s3 hY
  rw [s3]
  have hk:k≤63:=by omega
  have hp:(0:Int)<2^k:=Int.pow_pos (by decide)
  have hp2:(2:Int)^k*2^(64 - k)=18446744073709551616:=by rw [←Int.pow_add,show k+(64 - k)=64 by omega];rfl
  have hc:ah .u64 (k:Int)=k:=lu (by omega) (by omega)
  have hYm:y*2^k≤18446744073709551615:=by show _≤(18446744073709551615:Int);exact hY
  -- the high part
  have hhi:hi*2^k<y*2^k:=Int.mul_lt_mul_of_pos_right hy hp
  have m1:ay .u64 hi (k:Int)=hi*2^k:=by
   unfold ay
   rw [Int.toNat_natCast,show min k IntKind.u64.bits=k by show min k 64=k;omega]
   exact dz (Int.mul_nonneg hh0 (Int.le_of_lt hp)) (by omega)
  have m2:aq .u64 lo (aB .u64 64 (k:Int))=lo/2^(64 - k):=by
   have e:aB .u64 64 (k:Int)=((64 - k:Nat):Int):=by
    have:aB .u64 64 (k:Int)=64 - (k:Int):=dz (by omega) (by omega)
    omega
   rw [e];exact nQ (by rw [Int.toNat_natCast];show min (64 - k) 64=_;omega)
  have m3:ay .u64 lo (k:Int)=lo*2^k% 18446744073709551616:=by
   unfold ay
   rw [Int.toNat_natCast,show min k IntKind.u64.bits=k by show min k 64=k;omega,w64]
  have hb0:0≤lo/2^(64 - k):=Int.ediv_nonneg hl0 (Int.le_of_lt (Int.pow_pos (by decide)))
  have hb1:lo/2^(64 - k)<2^k:=(Int.ediv_lt_iff_lt_mul (Int.pow_pos (by decide))).2 (by rw [hp2];omega)
  rw [hc,m1,m2,m3,KP hk hh0 (by omega) hb0 hb1]
  -- the whole, shifted
  have hN:(hi*2^k+lo/2^(64 - k))*18446744073709551616+lo*2^k% 18446744073709551616=(hi*18446744073709551616+lo)*2^k:=by
   have e:lo/2^(64 - k)=lo*2^k/18446744073709551616:=by
    rw [←hp2,Int.mul_comm ((2:Int)^k),Int.mul_ediv_mul_of_pos_left _ _ hp]
   rw [e,Int.add_mul,Int.add_mul (hi*18446744073709551616),Int.mul_right_comm hi]
   omega
  have hy1':0<y:=by omega
  have hQ0:0≤(hi*18446744073709551616+lo)/y:=Int.ediv_nonneg (by omega) (by omega)
  have hQ1:(hi*18446744073709551616+lo)/y<18446744073709551616:=(Int.ediv_lt_iff_lt_mul hy1').2 (by omega)
  have hu0:0≤hi*2^k+lo/2^(64 - k):=by have:=Int.mul_nonneg hh0 (Int.le_of_lt hp);omega
  have hu1:hi*2^k+lo/2^(64 - k)<y*2^k:=by
   have h1:=Int.mul_le_mul_of_nonneg_right (show hi+1≤y by omega) (Int.le_of_lt hp)
   rw [Int.add_mul,Int.one_mul] at h1
   omega
  obtain ⟨N,hNe⟩: ∃N,N=hi*18446744073709551616+lo:=⟨_,rfl⟩
  rw [←hNe] at hN hQ0 hQ1⊢
  obtain ⟨Y,hYe⟩: ∃Y,Y=y*2^k:=⟨_,rfl⟩
  rw [←hYe] at s2 hYm hu1⊢
  generalize hi*2^k+lo/2^(64 - k)=u at hN hu0 hu1⊢
  have hW0:0≤lo*2^k% 18446744073709551616:=Int.emod_nonneg _ (by decide)
  have hW1:lo*2^k% 18446744073709551616<18446744073709551616:=Int.emod_lt_of_pos _ (by decide)
  generalize lo*2^k% 18446744073709551616=W at hN hW0 hW1⊢
  rw [ky Y,ql (by omega) hYm,ky W,ql hW0 (by omega)]
  have hYs:Y/4294967296*4294967296+Y% 4294967296=Y:=by omega
  have hWs:W=W/4294967296*4294967296+W% 4294967296:=by omega
  have b1:2147483648≤Y/4294967296:=by omega
  have b2:Y/4294967296<4294967296:=by omega
  have b3:0≤Y% 4294967296:=by omega
  have b4:Y% 4294967296<4294967296:=by omega
  have b5:0≤W/4294967296:=by omega
  have b6:W/4294967296<4294967296:=by omega
  have b7:0≤W% 4294967296:=by omega
  have b8:W% 4294967296<4294967296:=by omega
  generalize Y/4294967296=y1 at*
  generalize Y% 4294967296=y0 at*
  generalize W/4294967296=a1 at*
  generalize W% 4294967296=a0 at*
  obtain ⟨r1,r2,r3,r4⟩:=yX (u:=u) (d:=y1) hu0 (by omega) (by omega)
  rw [r1,r2]
  refine Dc fun j8 hj8=> ?_
  refine yY (j:=j8) (gq:=fun p:Int×Int=>p.1) (gr:=fun p=>p.2) (mk:=fun q r=>(q,r)) (fun _ _=>rfl) (fun _ _=>rfl) b1 b2 b3 b4 hu0 (by omega) b5 b6 (by exact fun ag p=>rfl) (fun q1 hq1=> ?_) _ _ (by exact Da b1 b2 b3 b4 hu0 (by omega) b5 b6) (by show (4294967296 - u% y1).toNat<_;omega)
  obtain ⟨g1,g2⟩:=hq1
  subst hj8
  dsimp only
  rw [hYs] at g1 g2
  have g3:(q1+1)*Y=q1*Y+Y:=by rw [Int.add_mul,Int.one_mul]
  rw [g3] at g2
  have ev:=Db (u:=u) (a:=a1) (q:=q1) (Y:=Y) (by omega) (by omega)
  rw [ev]
  obtain ⟨v,hv⟩: ∃v,v=u*4294967296+a1 - q1*Y:=⟨_,rfl⟩
  rw [←hv]
  have hv0:0≤v:=by omega
  have hv1:v<Y:=by omega
  obtain ⟨t1,t2,t3,t4⟩:=yX (u:=v) (d:=y1) hv0 (by omega) (by omega)
  rw [t1,t2]
  refine Dc fun j9 hj9=> ?_
  refine yY (j:=j9) (gq:=fun p:Int×Int=>p.2) (gr:=fun p=>p.1) (mk:=fun q r=>(r,q)) (fun _ _=>rfl) (fun _ _=>rfl) b1 b2 b3 b4 hv0 (by omega) b7 b8 (by exact fun ag p=>rfl) (fun q0 hq0=> ?_) _ _ (by exact Da b1 b2 b3 b4 hv0 (by omega) b7 b8) (by show (4294967296 - v% y1).toNat<_;omega)
  obtain ⟨f1,f2⟩:=hq0
  subst hj9
  dsimp only
  rw [hYs] at f1 f2
  obtain ⟨z1,z2⟩:=KR hp hYe (by omega) hWs hN hv f1 f2
  have f3:(q0+1)*Y=q0*Y+Y:=by rw [Int.add_mul,Int.one_mul]
  rw [f3] at f2
  rw [Db (by omega) (by omega),KS (by omega) (by omega),z1,z2,nQ (m:=k) (by rw [Int.toNat_natCast];show min k 64=k;omega),Int.mul_ediv_cancel _ (Int.ne_of_gt hp)]
theorem KV (a b:Int):0≤orI .u64 a b∧orI .u64 a b≤18446744073709551615:=Ah .u64 a b
theorem KW (a b:Int):0≤aB .u64 a b∧aB .u64 a b≤18446744073709551615:=om .u64 a b
theorem kz {a b:Int} (h0:0≤a) (h1:a≤4294967295) (h2:0≤b) (h3:b≤4294967295):al .u64 a b=a+b:=dz (by omega) (by omega)
theorem Dd {a b n:Int} (ha:0≤a) (hn:a<n) (hn1:n≤18446744073709551615) (hb:0≤b) (hb1:b≤18446744073709551615):(kn a b).1<n:=by
 rw [C_ ha (by omega) hb hb1]
 refine (Int.ediv_lt_iff_lt_mul (by decide)).2 ?_
 have h1:=Int.mul_le_mul (show a≤n - 1 by omega) hb1 hb (by omega)
 omega
theorem De (n:Int) {a b:Int} {x:Int×Int} (hx:x=kn a b) (ha:0≤a) (hn:a<n) (hn1:n≤18446744073709551615) (hb:0≤b) (hb1:b≤18446744073709551615):x.1<n:=hx▸Dd ha hn hn1 hb hb1
theorem Df {u d:Int} (h:0≤u∧u≤18446744073709551615) (hd:1≤d) (hd1:d≤4294967295):0≤aB .u64 u (aS .u64 (cB .u64 u d) d)∧aB .u64 u (aS .u64 (cB .u64 u d) d)≤4294967295:=by
 obtain ⟨a1,a2,a3,a4⟩:=yX h.1 h.2 hd
 rw [a1];omega
theorem Dh {a b n:Int} (ha:0≤a) (hn:a<n) (hb:0≤b) (hb1:b≤18446744073709551615) (hn1:n≤18446744073709551615):fE a b n=a*b% n:=by
 have h1:=Dd ha hn hn1 hb hb1
 have hp:=Int.mul_nonneg ha hb
 unfold fE aa
 rw [C_ ha (by omega) hb hb1] at h1⊢
 simp only at h1⊢
 rw [KU (Int.ediv_nonneg hp (by decide)) (Int.emod_nonneg _ (by decide)) (by have:=Int.emod_lt_of_pos (a*b) (show (0:Int)<18446744073709551616 by decide);omega) h1 hn1]
 simp only
 congr 1
 omega
theorem l3 {a b n x:Int} (hx:x=fE a b n) (ha:0≤a) (hn:a<n) (hb:0≤b) (hb1:b≤18446744073709551615) (hn1:n≤18446744073709551615):0≤x∧x<n:=by
 rw [hx,Dh ha hn hb hb1 hn1];exact ⟨Int.emod_nonneg _ (by omega),Int.emod_lt_of_pos _ (by omega)⟩
theorem KX {a e n x:Int} (hx:x=pO a e n) (ha:0≤a) (hn:a<n) (h1:1<n) (hn1:n≤18446744073709551615):0≤x∧x<n:=by
 subst hx
 unfold pO
 refine gc (P:=fun p:Int×Int×Int=>0≤p.1∧p.1<n∧0≤p.2.2∧p.2.2<n) (Q:=fun x=>0≤x∧x<n) (meas:=fun p=>p.2.1.toNat) ?_ _ _ ⟨ha,hn,show (0:Int)≤1 by decide,h1⟩ (by show e.toNat<_;omega)
 rintro ag ⟨a,e,x⟩ ⟨p1,p2,p3,p4⟩ ih
 simp only at p1 p2 p3 p4 ih⊢
 by_cases he:e>0
 ·rw [if_pos (by simpa using he)]
  have hs:(aq .u64 e 1).toNat<e.toNat:=by rw [cV];omega
  simp only [aa]
  by_cases hc:(bC .u64 e 1==1)=true
  ·rw [if_pos hc]
   have m1:=l3 (x:=fE x a n) rfl p3 p4 p1 (by omega) hn1
   have m2:=l3 (x:=fE a a n) rfl p1 p2 p1 (by omega) hn1
   exact ih _ ⟨m2.1,m2.2,m1.1,m1.2⟩ hs
  ·rw [if_neg hc]
   have m2:=l3 (x:=fE a a n) rfl p1 p2 p1 (by omega) hn1
   exact ih _ ⟨m2.1,m2.2,p3,p4⟩ hs
 ·rw [if_neg (by simpa using he)]
  exact ⟨p3,p4⟩
@[go_sem] theorem KY {n:Nat} {k:IntKind}: ∀{l:List Int},ltL n (l.map (V.int k))=True
 | []=>by simp [ltL]
 | a::l=>by simp only [List.map_cons,ltL,KY (l:=l),ltV,and_self]
@[go_sem] theorem QV {k:IntKind} {a b c i:Int}:elt [V.int k a,V.int k b,V.int k c] i.toNat (V.int k 0)=V.int k (gt [a,b,c] i):=by
 unfold elt gt
 match i.toNat with
 | 0=>rfl
 | 1=>rfl
 | 2=>rfl
 | n+3=>rfl
theorem KZ:dg.length=12:=rfl
theorem K0:dg.all (fun x=>decide (2≤x)&&decide (x≤37))=true:=by decide
theorem cY {j:Int} (h0:0≤j) (h1:j<12):2≤gt dg j∧gt dg j≤37:=by
 have hm:gt dg j∈dg:=bG (by show j.toNat<12;omega)
 simpa using List.all_eq_true.1 K0 _ hm
def qm (u i:Int):Prop:= ∀k:Int,0≤k→k<i→u% gt dg k≠0
theorem K1 {u:Int}:qm u 0:=fun k h0 h1=>by omega
theorem K2 {u i:Int} (h:qm u i) (hu:0≤u) (h0:0≤i) (h1:i<12) (hr: ¬cJ .u64 u (gt dg i)=0):qm u (i+1):=by
 intro k k0 k1
 by_cases hk:k<i
 ·exact h k k0 hk
 ·obtain rfl:k=i:=by omega
  rwa [show cJ .u64 u (gt dg k)=u% gt dg k from Int.tmod_eq_emod_of_nonneg hu] at hr
theorem K3: ∀u:Fin 38,2≤u.val→ ∃k:Fin 12,((u.val:Nat):Int)% dg.getD k.val 0=0:=by decide
theorem K6 {u i:Int} (h:qm u i) (hi:12≤i) (h2:2≤u):37<u:=by
 refine Int.not_le.1 fun hu=> ?_
 obtain ⟨k,hk⟩:=K3 ⟨u.toNat,by omega⟩ (by show 2≤u.toNat;omega)
 refine h (k.val:Int) (by omega) (by omega) ?_
 have e:((u.toNat:Nat):Int)=u:=by omega
 rw [←e,qE]
 exact hk
theorem K7:jV.all (fun x=>decide (0≤x)&&decide (x≤63))=true:=by decide
theorem K8 {a x:Int} (hx:x=pN a):0≤x∧x≤64:=by
 subst hx
 unfold pN
 split
 ·omega
 ·have hi:=C8 (x:=bC .u64 a (jx .u64 a))
  have hm:=bG (l:=jV) (i:=aq .u64 (aS .u64 (bC .u64 a (jx .u64 a)) 285870213051353865) 58) (by show _<64;omega)
  have:=List.all_eq_true.1 K7 _ hm
  simp only [Bool.and_eq_true,decide_eq_true_eq] at this
  rw [wV (by omega) (by omega)];omega
theorem K_ {x:Int} (h0:0≤x) (h1:x≤64):aB .i64 x 1=x - 1:=by unfold aB;rw [IntKind.wrap_i64];omega
theorem La {m:Int} (h:1≤m):0≤cJ .i64 1 m∧cJ .i64 1 m<m:=by
 rw [show cJ .i64 1 m=1% m from Int.tmod_eq_emod_of_nonneg (by decide)]
 exact ⟨Int.emod_nonneg _ (by omega),Int.emod_lt_of_pos _ (by omega)⟩
theorem Lb {a b m:Int} (h:jn a b m=0):1≤m∧m<2305843009213693952∧0≤a∧a<m∧0≤b∧b<m:=by
 unfold jn at h
 simp only [aa,pP] at h
 repeat' (split at h)
 all_goals simp_all
 all_goals omega
instance QW (a b m:Int):CF (jn a b m) (fun x=>x=0→1≤m∧m<2305843009213693952∧0≤a∧a<m∧0≤b∧b<m):=⟨Lb⟩
theorem Lc {l:List Int} (h:l.all (fun x=>decide (0≤x))=true): ∀j:Int,0≤j→j.toNat<l.length→0≤gt l j:=fun j _ h1=>by simpa using List.all_eq_true.1 h _ (bG h1)
theorem Ld: ∀j:Int,0≤j→j.toNat<([0,1,2,3,4,5]:List Int).length→0≤gt ([0,1,2,3,4,5]:List Int) j:=Lc (by decide)
theorem tV {x:Int} (h0:0≤x) (h1:x≤9223372036854775807):ah .u64 x=x:=lu h0 (by omega)
theorem Le {a b n:Int} (ha:0≤a) (hn:a<n) (hb:0≤b) (hb1:b≤9223372036854775807) (hn1:n≤9223372036854775807):jo a b n=a*b% n:=by
 have h:=Dh ha hn hb (by omega) (by omega)
 have e:jo a b n=ah .i64 (fE (ah .u64 a) (ah .u64 b) (ah .u64 n)):=rfl
 have c1:ah .u64 a=a:=lu ha (by omega)
 have c2:ah .u64 b=b:=lu hb (by omega)
 have c3:ah .u64 n=n:=lu (by omega) (by omega)
 rw [e,c1,c2,c3,h]
 have:=Int.emod_nonneg (a*b) (show n≠0 by omega)
 have:=Int.emod_lt_of_pos (a*b) (show 0<n by omega)
 exact wV (by omega) (by omega)
theorem yZ {a b n x:Int} (hx:x=jo a b n) (ha:0≤a) (hn:a<n) (hb:0≤b) (hb1:b≤9223372036854775807) (hn1:n≤9223372036854775807):0≤x∧x<n:=by
 rw [hx,Le ha hn hb hb1 hn1];exact ⟨Int.emod_nonneg _ (by omega),Int.emod_lt_of_pos _ (by omega)⟩
end Go.Proofs.YteibkofekpejgaaGreatDoor
namespace Go.Proofs.YteibkofekpejgaaGreatDoor
open Go.RowKit
set_option linter.unusedVariables false
set_option linter.unusedSimpArgs false
instance QX {s:List Int}:CF (tl s) (fun x=>x.length=s.length):=⟨rfl⟩
theorem Lf (n:Int):pT n=[ah .u8 (aq .u64 n 56),ah .u8 (aq .u64 n 48),ah .u8 (aq .u64 n 40),ah .u8 (aq .u64 n 32),ah .u8 (aq .u64 n 24),ah .u8 (aq .u64 n 16),ah .u8 (aq .u64 n 8),ah .u8 (aq .u64 n 0)]:=by kernel_rfl
instance QY {n:Int}:CF (pT n) (fun x=>x.length=8):=⟨by rw [Lf];rfl⟩
end Go.Proofs.YteibkofekpejgaaGreatDoor
namespace Go.Proofs.YteibkofekpejgaaGreatDoor
open Go.RowKit
def fk (s:au):Prop:=s.Leaves.length≤40∧s.Path.L.length≤20
def nS (h:bh):Prop:=h.L.length≤12∧fk h.First∧ ∀x∈h.L,fk x
def Lg (x:b9):Prop:=x.Proof.A.length≤30∧x.Proof.Z.length≤30
structure cI (p:aA):Prop where
 s:p.Spends.length≤60∧ ∀x∈p.Spends,fk x
 c:p.Chains.length≤12∧ ∀x∈p.Chains,nS x
 e:p.Escrow.length≤60∧ ∀x∈p.Escrow,Lg x
def l4 (p:aA):List au:=p.Spends++p.Chains.flatMap fun h=>h.First::h.L
theorem Di {p:aA} (h:cI p):(l4 p).length≤220∧ ∀s∈l4 p,fk s:=by
 have key: ∀l:List bh,(∀c∈l,nS c)→(l.flatMap fun h=>h.First::h.L).length≤13*l.length∧ ∀s∈l.flatMap (fun h=>h.First::h.L),fk s:=by
  intro l
  induction l with
  | nil=>intro _;simp
  | cons a l ih=>
   intro hs
   obtain ⟨h1,h2⟩:=ih (fun c hc=>hs c (by simp [hc]))
   obtain ⟨h3,h4,h5⟩:=hs a (by simp)
   refine ⟨by simp only [List.flatMap_cons,List.length_append,List.length_cons];omega,fun s hm=> ?_⟩
   simp only [List.flatMap_cons,List.mem_append,List.mem_cons] at hm
   rcases hm with (rfl|hm)|hm
   ·exact h4
   ·exact h5 s hm
   ·exact h2 s hm
 obtain ⟨h1,h2⟩:=key p.Chains h.c.2
 have h3:=h.s.1
 have h4:=h.c.1
 refine ⟨by simp only [l4,List.length_append];omega,fun s hm=> ?_⟩
 rcases List.mem_append.1 hm with hm|hm
 ·exact h.s.2 s hm
 ·exact h2 s hm
def y6 (l:List au):Prop:=l.length≤220∧ ∀s∈l,fk s
theorem co {l:List au} {i:Int} (h:y6 l) (hi:i.toNat<l.length):(gt l i).Leaves.length≤40∧l.length≤220:=⟨(h.2 _ (bG hi)).1,h.1⟩
end Go.Proofs.YteibkofekpejgaaGreatDoor
namespace Go.Proofs.YteibkofekpejgaaGreatDoor
open Go.RowKit
set_option linter.unusedVariables false
set_option linter.unusedSimpArgs false
theorem Lh (i:am) (d:Int):pR i d=gd i d:=by
 obtain ⟨k,n,b,l⟩:=i
 have hany:ny l d= !(pw l (d - 1)):=by
  have h:=j7 (l:=l) (C:=fun x=>lU x d) (d:=fun _=>default) (F:=fun ag1 p1=>if decide (p1<(l.length:Int)) then (aa (lU (gt l p1) d) (fun x4=>if x4 then p1 else ag1 (p1+1))) else -1) (fun ag p=>rfl)
  have h2:ny l d=l.any (fun x=>lU x d):=h
  rw [h2,CY,List.not_all_eq_any_not];rfl
 unfold pR
 simp only [aa,gd,hany,Bool.not_not]
 by_cases e1:k=1
 ·subst e1;cases b with
  | nil=>cases l with
   | nil=>simp
   | cons y l=>simp;omega
  | cons x b=>simp;omega
 by_cases e2:k=2
 ·subst e2;cases l with
  | nil=>simp [Bool.beq_eq_decide_eq]
  | cons y l=>simp;omega
 by_cases e3:k=3
 ·subst e3
  by_cases h0:n=0
  ·cases b with
   | nil=>
    by_cases h1:0<d
    ·by_cases h2:l.length≤1000
     ·have h2':(l.length:Int)≤1000:=by omega
      simp [h0,h1,h2,h2']
     ·have h2': ¬(l.length:Int)≤1000:=by omega
      simp [h0,h1,h2,h2']
    ·simp [h0,h1]
   | cons x b=>simp [h0];omega
  ·simp [h0]
 ·simp [e1,e2,e3]
theorem Dj: ∀{k:Nat} {n:Int},be (k+1) n=(n/256^k)% 256::be k n
 | 0,n=>by simp [be]
 | k+1,n=>by
  rw [be,Dj (k:=k),be]
  simp only [List.cons_append,List.cons.injEq,and_true]
  rw [Int.ediv_ediv_of_nonneg (by omega),Int.pow_succ,Int.mul_comm (256^k)]
theorem Dk {n:Int} {F:(Int×List Int→List Int)→Int×List Int→List Int} {d:Int×List Int→List Int}
  (hF: ∀ag p,F ag p=if decide (p.1≥0)=true then ag (p.1 - 1,p.2++[ah .u8 (aq .u64 n (8*p.1))]) else p.2):
  ∀(k fuel:Nat) (out:List Int),k≤8→k<fuel→ae fuel F d ((k:Int) - 1,out)=out++be k n
 | 0,fuel,out,_,hf=>by
  obtain ⟨m,rfl⟩: ∃m,fuel=m+1:=⟨fuel - 1,by omega⟩
  rw [ae,hF];simp [be]
 | k+1,fuel,out,hk,hf=>by
  obtain ⟨m,rfl⟩: ∃m,fuel=m+1:=⟨fuel - 1,by omega⟩
  rw [ae,hF,if_pos (by simp)]
  have e1:ah .u8 (aq .u64 n (8*(((k+1:Nat):Int) - 1)))=(n/256^k)% 256:=by
   have e2:(8*(((k+1:Nat):Int) - 1)).toNat=8*k:=by omega
   unfold ah aq
   rw [e2,show min (8*k) (IntKind.bits .u64)=8*k by show min (8*k) 64=8*k;omega,Int.fdiv_eq_ediv_of_nonneg _ (Int.le_of_lt (Int.pow_pos (by omega))),Int.pow_mul]
   rfl
  simp only
  rw [e1,show ((k+1:Nat):Int) - 1 - 1=(k:Int) - 1 by omega,Dk hF k m _ (by omega) (by omega),Dj]
  simp
theorem tW {out:List Int} {n size:Int} (h0:0≤size) (h1:size≤8):jp out n size=out++be size.toNat n:=by
 unfold jp
 have:=Dk (n:=n) (d:=fun _=>default) (fun ag p=>rfl) size.toNat ((size - 1+1).toNat+1) out (by omega) (by omega)
 rw [show ((size.toNat:Nat):Int)=size by omega] at this
 exact this
theorem y7 {out x:List Int} {n size:Int} (h:x=jp out n size): ¬(0≤size∧size≤8)∨(x.length:Int)=out.length+size:=by
 by_cases hs:0≤size∧size≤8
 ·right;rw [h,tW hs.1 hs.2];simp [CU];omega
 ·exact .inl hs
theorem Li {n:Int}:be 8 (ah .u64 n)=be 8 n:=by
 apply xp
 have h8:(256:Int)^8=18446744073709551616:=by decide
 have:ah .u64 n=n% 18446744073709551616:=rfl
 rw [this,h8];omega
theorem Dl {n:Int}:be 4 (ah .u64 n)=be 4 n:=by
 apply xp
 have h8:(256:Int)^4=4294967296:=by decide
 have:ah .u64 n=n% 18446744073709551616:=rfl
 rw [this,h8];omega
theorem Dm: ∀{l:List am} {out:List Int},sV out l=l.foldl gg out
 | [],_=>rfl
 | x::l,out=>by simp only [sV,List.foldl_cons];exact Dm
theorem Lj (out:List Int) (i:am):pS out i=gg out i:=by
 obtain ⟨k,n,b,l⟩:=i
 unfold pS
 simp only [aa,gg]
 by_cases hl:out.length>16384
 ·have:(out.length:Int)>16384:=by omega
  simp [hl,this]
 have hl': ¬(out.length:Int)>16384:=by omega
 by_cases e1:k=1
 ·subst e1
  have:ah .u8 1=1:=rfl
  simp [hl,hl',tW,this,Li]
 by_cases e2:k=2
 ·subst e2
  have:ah .u8 2=2:=rfl
  simp [hl,hl',tW,this,Dl]
 have hk:ah .u8 k=k% 256:=rfl
 simp only [hl,hl',e1,e2,decide_false,Bool.false_eq_true,if_false,beq_iff_eq,tW (show (0:Int)≤4 by decide) (show (4:Int)≤8 by decide),hk,Int.reduceToNat,Dl]
 rw [ka (l:=l) (fun a s=> .inl (gg s a)) (fun s=>s) (fun ag i s=>by by_cases h:i<(l.length:Int)<;>simp [h]),jl,Dm]
 simp
theorem y8 {x:am} {n:Int} (h:x=nI n):hgt x=1:=by rw [h];rfl
theorem Dn {x w:ee} {l:List Int} (h:x=jq w l):x.l.length=w.l.length+1:=by
 rw [h];simp [jq,aa]
theorem Lk {x w:ee} {l:List Int} (h:x=kq w l):x.l.length=w.l.length+1:=by
 rw [h];simp [kq,aa]
def l5 (n:Int):am:=⟨1,n,[],[]⟩
def eI (l:List Int):am:=⟨3,0,[],l.map l5⟩
def eU (b:List Int):am:=⟨2,0,b,[]⟩
def l6 (l:List am):am:=⟨3,0,[],l⟩
theorem y9 (l:List Int):go l=eI l:=by
 unfold go
 exact pt (E:=fun p=>l6 p.2) l5 (fun ag p=>rfl)
theorem Ll (w:ee) (l:List Int):jq w l=⟨w.l++[eI l]⟩:=by
 unfold jq
 simp only [aa,y9]
theorem Lm (w:ee) (b:List Int):kq w b=⟨w.l++[eU b]⟩:=by
 unfold kq
 simp only [aa];rfl
def l7 (c:bv):am:=l6 [eI [c.Bank,c.Epoch,c.Denom,c.Depth,c.A],eU (bc 32 c.Root),eI [c.Sign.Z,c.Sign.A,c.Sign.B,c.Sign.R]]
theorem Do (c:bv):lV c=l7 c:=by
 unfold lV
 simp only [aa,Ll,Lm]
 rfl
def y_ (l:List dR):List Int:=l.flatMap fun x=> [x.B,x.R1,x.R2]
def tX (s:au):am:=l6 [l7 s.Coin,eI [s.Node.Level,s.Node.Index],eU (bc 32 s.Context.Payee),eI [s.Context.Time,s.Context.Number],eI (y_ s.Leaves),l6 (l5 s.Path.Index::s.Path.L.map fun h=>eU (bc 32 h))]
theorem Ln (h:List Int):jr h=eU (bc 32 h):=rfl
theorem za {α β:Type} {g:α→List β}: ∀{l:List α} {s:List β},l.foldl (fun s a=>s++g a) s=s++l.flatMap g
 | [],s=>by simp
 | a::l,s=>by rw [List.foldl_cons,za (l:=l)];simp
theorem Lo (s:au):nE s=tX s:=by
 unfold nE
 simp only [aa,Ln,y9,Do,kr]
 rw [ka (l:=s.Leaves) (fun a s=> .inl (s++[a.B,a.R1,a.R2])) (fun q=>ae (((s.Path.L.length:Int) - 0).toNat+1) (fun (ag4:(Int×List am)→am) (p4:Int×List am)=>(if (decide (p4.1<(s.Path.L.length:Int))) then ag4 ((p4.1+1),(p4.2++([eU (bc 32 (gt s.Path.L p4.1))]:List am))) else ⟨3,0,[],[l7 s.Coin,eI [s.Node.Level,s.Node.Index],eU (bc 32 s.Context.Payee),eI [s.Context.Time,s.Context.Number],eI q,⟨3,0,[],p4.2⟩]⟩)) (fun _=>default) (0,[⟨1,s.Path.Index,[],[]⟩])) (fun ag i q=>by by_cases h:i<(s.Leaves.length:Int)<;>simp [h]),jl,za]
 rw [ka (l:=s.Path.L) (fun a q=> .inl (q++[eU (bc 32 a)])) (fun q=>⟨3,0,[],[l7 s.Coin,eI [s.Node.Level,s.Node.Index],eU (bc 32 s.Context.Payee),eI [s.Context.Time,s.Context.Number],eI ([]++s.Leaves.flatMap fun x=> [x.B,x.R1,x.R2]),⟨3,0,[],q⟩]⟩) (fun ag i q=>by by_cases h:i<(s.Path.L.length:Int)<;>simp [h]),jl,za]
 simp only [List.nil_append]
 have:(s.Path.L.flatMap fun a=> [eU (bc 32 a)])=s.Path.L.map fun h=>eU (bc 32 h):=by
  induction s.Path.L with
  | nil=>rfl
  | cons x l ih=>rw [List.flatMap_cons,ih];rfl
 rw [this]
 rfl
theorem n11: ¬(((1:Int) !=1)=true):=by decide
theorem Lp {l:List am}:hgt (l6 l)=1+bL l:=by simp [l6,hgt]
theorem Dp {l:List Int}:hgt (eI l)=1+l.length:=by
 have: ∀l:List Int,bL (l.map l5)=l.length:=by
  intro l
  induction l with
  | nil=>rfl
  | cons a l ih=>simp [bL,ih,l5,hgt];omega
 simp [eI,hgt,this]
theorem Dq {b:List Int}:hgt (eU b)=1+b.length:=by simp [eU,hgt,bL]
theorem Lq {n:Int}:hgt (l5 n)=1:=rfl
theorem Lr {l:List dR}:(y_ l).length=3*l.length:=by
 unfold y_
 induction l with
 | nil=>rfl
 | cons a l ih=>rw [List.flatMap_cons,List.length_append,ih];simp;omega
theorem Ds: ∀{l:List (List Int)},bL (l.map fun h=>eU (bc 32 h))=33*l.length
 | []=>rfl
 | a::l=>by simp only [List.map_cons,bL,Ds (l:=l),Dq,dh,List.length_cons];omega
theorem Ls (s:au):hgt (tX s)=88+3*s.Leaves.length+33*s.Path.L.length:=by
 simp only [tX,l7,Lp,bL,Dp,Dq,Lq,dh,Lr,Ds,List.length_cons,List.length_nil]
 omega
theorem Lt {s:au} (h:fk s):hgt (tX s)≤1000:=by
 rw [Ls];have:=h.1;have:=h.2;omega
theorem zb: ∀{l:List bh} {o:List au},l.foldl (fun s h=>(s++[h.First])++h.L) o=o++l.flatMap fun h=>h.First::h.L
 | [],o=>by simp
 | a::l,o=>by simp only [List.foldl_cons,zb (l:=l)];simp
theorem zc (p:aA):kp p=l4 p:=by
 unfold kp
 have:=ka (l:=p.Chains) (d:=fun _=>default) (fun h o=> .inl ((o++[h.First])++h.L)) (fun o=>o) (F:=fun (ag1:(Int×List au)→(List au)) (p1:Int×List au)=>(if (decide (p1.1<(p.Chains.length:Int))) then (ag1 ((p1.1+1),((p1.2++([(gt p.Chains p1.1).First]:List au))++(gt p.Chains p1.1).L))) else p1.2)) (s:=[]++p.Spends) (fun ag i s=>by simp only [decide_eq_true_eq])
 rw [this,jl,zb];rfl
theorem Dt {p:aA} {x:List au} (h:cI p) (hx:x=kp p):y6 x:=by
 rw [hx,zc];exact Di h
theorem Du {α:Type}: ∀{l o:List α},l.foldl (fun s a=>s++[a]) o=o++l
 | [],o=>by simp
 | a::l,o=>by rw [List.foldl_cons,Du (l:=l)];simp
theorem Dv {R:Type} {l:List au} {E:List au→R} {F:(Int×List au→R)→Int×List au→R} {d:Int×List au→R} {o:List au}
  (hF: ∀ag p,F ag p=if decide (p.1<(l.length:Int))=true then ag (p.1+1,p.2++[gt l p.1]) else E p.2):ae (((l.length:Int) - 0).toNat+1) F d (0,o)=E (o++l):=by
 rw [ka (l:=l) (fun a s=> .inl (s++[a])) E (fun ag j s=>by rw [hF];by_cases h:j<(l.length:Int)<;>simp [h]),jl,Du]
theorem tY (p:aA):lQ p=l4 p:=by
 unfold lQ
 rw [Dv (l:=p.Spends) (E:=fun o=>ae (((p.Chains.length:Int) - 0).toNat+1) (fun (ag4:(Int×List au)→(List au)) (p4:Int×List au)=>(if (decide (p4.1<(p.Chains.length:Int))) then (aa (gK (gt p.Chains p4.1)) (fun (x7:(List au))=>(ae (((x7.length:Int) - 0).toNat+1) (fun (ag11:(Int×List au)→(List au)) (p11:Int×List au)=>(if (decide (p11.1<(x7.length:Int))) then (ag11 ((p11.1+1),(p11.2++([(gt x7 p11.1)]:List au)))) else (ag4 ((p4.1+1),p11.2)))) (fun _=>default) (0,p4.2)))) else p4.2)) (fun _=>default) (0,o)) (fun ag q=>rfl)]
 rw [ka (l:=p.Chains) (fun h o=> .inl ((o++[h.First])++h.L)) (fun o=>o) (fun ag j s=>by
  by_cases h:j<(p.Chains.length:Int)
  ·simp only [h,decide_true,if_true,aa]
   rw [Dv (E:=fun o=>ag (j+1,o)) (fun _ _=>rfl)]
   simp [gK]
  ·simp [h]),jl,zb]
 simp [l4]
theorem Lu {p:aA} {x:List au} (h:cI p) (hx:x=lQ p):y6 x:=by
 rw [hx,tY];exact Di h
theorem Lv (c:bv):hgt (l7 c)≤100:=by
 simp [l7,l6,eI,l5,eU,hgt,bL,dh]
theorem Lw {c:bv} {x:am} (h:x=lV c):hgt x≤100:=by rw [h,Do];exact Lv c
theorem kA {i:am} {x:List Int×Int} (h:x=gk i):x.1.length≤16384:=by
 rw [h]
 unfold gk
 simp only [aa]
 split
 ·simp
 ·split
  ·simp
  ·rename_i h2
   have h3:((gg [] i).length:Int)≤16384:=by simpa using h2
   show (gg [] i).length≤16384
   omega
theorem qn {α β:Type} {a:α} {f:α→β} (P:β→Prop) (h: ∀x,x=a→P (f x)):P (aa a f):=h a rfl
theorem Lx {v:aL} {x:List Int×Int} (h:x=pZ v):x.1.length≤16384:=by
 rw [h]
 unfold pZ
 refine qn (fun r:List Int×Int=>r.1.length≤16384) fun x1 h1=> ?_
 by_cases c:(!x1)=true
 ·rw [if_pos c];exact Nat.zero_le _
 ·rw [if_neg c]
  refine qn (fun r:List Int×Int=>r.1.length≤16384) fun x7 h7=> ?_
  refine qn (fun r:List Int×Int=>r.1.length≤16384) fun x10 h10=> ?_
  refine qn (fun r:List Int×Int=>r.1.length≤16384) fun x13 h13=> ?_
  refine qn (fun r:List Int×Int=>r.1.length≤16384) fun x16 h16=> ?_
  exact kA h16
instance QZ (h:List Int):CF (px h) (fun y=>y.length=64):=⟨sY _ _⟩
theorem qo: ∀{l m:List am},bL (l++m)=bL l+bL m
 | [],m=>by simp [bL]
 | x::l,m=>by rw [List.cons_append,bL,bL,qo];omega
theorem tZ {n:Int} {x:am} (h:x=lT n):hgt x=1:=by subst h;rfl
theorem Dw (n:Int):(∃d:Nat,d≤10∧n=2^d∧kt n=((d:Int),0))∨(kt n=(0,1)∧ ∀d:Nat,d≤10→n≠2^d):=by
 unfold kt
 refine gc (P:=fun p:Int=>0≤p∧p≤11∧ ∀d:Nat,d≤10→(d:Int)<p→n≠2^d) (Q:=fun x:Int×Int=>(∃d:Nat,d≤10∧n=2^d∧x=((d:Int),0))∨(x=(0,1)∧ ∀d:Nat,d≤10→n≠2^d)) (meas:=fun p=>(11 - p).toNat) ?_ _ _ ⟨by decide,by decide,fun d _ h=>absurd h (by omega)⟩ (by decide)
 rintro ag p ⟨h0,h1,h2⟩ ih
 by_cases hp:p<11
 ·rw [if_pos (by simpa using hp)]
  have e:=CZ (v:=p) h0 (by omega)
  by_cases hn:n=2^p.toNat
  ·rw [if_pos (by rw [e];simpa using hn)]
   exact .inl ⟨p.toNat,by omega,hn,by rw [show ((p.toNat:Nat):Int)=p by omega]⟩
  ·rw [if_neg (by rw [e];simpa using hn)]
   refine ih (p+1) ⟨by omega,by omega,fun d hd hlt=> ?_⟩ (by omega)
   rcases Int.lt_or_eq_of_le (show (d:Int)≤p by omega) with h|h
   ·exact h2 d hd h
   ·have:p.toNat=d:=by omega
    rw [←this];exact hn
 ·rw [if_neg (by simpa using hp)]
  exact .inr ⟨rfl,fun d hd=>h2 d hd (by omega)⟩
theorem Ly {l:List (List Int)} {x:Int×Int} (hx:x=kt (l.length:Int)) (h:(x.2 !=0)=false):ke l:=by
 rcases Dw (l.length:Int) with ⟨d,h1,h2,h3⟩|⟨h1,_⟩
 ·exact ⟨d,h1,by exact_mod_cast h2⟩
 ·rw [hx,h1] at h;exact absurd h (by decide)
section
variable {I:List Int→List Int→List Int}
theorem zd: ∀{k:Nat} {l:List (List Int)},l.length=2*k→(kc I l).length=k
 | 0,l,h=>by
  have:l=[]:=List.length_eq_zero_iff.1 (by omega)
  subst this;rfl
 | k+1,a::b::l,h=>by
  simp only [kc,List.length_cons] at h⊢
  rw [zd (k:=k) (by omega)]
 | k+1,[],h=>by simp at h
 | k+1,[a],h=>by simp at h;omega
end
section
variable {I:List Int→List Int→List Int}
def upL (I:List Int→List Int→List Int):Nat→List (List Int)→List (List Int)
 | 0,l=>l
 | k+1,l=>upL I k (kc I l)
end
section
variable {I:List Int→List Int→List Int}
theorem Dx: ∀{k d:Nat} {l:List (List Int)},l.length=2^d→k≤d→(upL I k l).length=2^(d - k)
 | 0,d,l,h,_=>by simpa [upL] using h
 | k+1,0,l,h,hk=>absurd hk (by omega)
 | k+1,d+1,l,h,hk=>by
  rw [upL,Dx (d:=d) (zd (by rw [h,Nat.pow_succ];omega)) (by omega)]
  congr 1;omega
end
section
variable {I:List Int→List Int→List Int}
theorem Dy {α:Type} {d:List (List Int)→α}: ∀{l p:List (List Int)},ez (cG l) (fun (ag:List (List Int)→α) (y:List (List Int)) (p:List (List Int))=>aa (I (gt y 0) (gt y 1)) fun x=>ag (p++[x])) d p=d (p++kc I l)
 | [],p=>by simp [cG,ez,kc]
 | [_],p=>by simp [cG,ez,kc]
 | a::b::l,p=>by
  rw [cG,ez,aa]
  refine (Dy (l:=l)).trans ?_
  simp [gt,kc]
end
theorem Lz (s:List (List (List Int))):lW s=s.reverse:=by
 unfold lW
 refine gc (P:=fun p:Int×Int×List (List (List Int))=>0≤p.1∧p.1+p.2.1=(s.length:Int) - 1∧p.1≤p.2.1+1∧p.2.2.length=s.length∧ ∀k:Nat,k<s.length→p.2.2[k]? =if (k:Int)<p.1∨p.2.1<k then s[s.length - 1 - k]? else s[k]?)
  (Q:=fun x=>x=s.reverse) (meas:=fun p=>(p.2.1 - p.1).toNat) ?_ _ _ ⟨Int.le_refl 0,by show (0:Int)+((s.length:Int) - 1)=_;omega,by show (0:Int)≤(s.length:Int) - 1+1;omega,rfl,fun k hk=>by rw [if_neg (by show¬((k:Int)<0∨(s.length:Int) - 1<k);omega)]⟩ (by show ((s.length:Int) - 1 - 0).toNat<((s.length:Int) - 1 - 0).toNat+1;omega)
 rintro ag ⟨i,j,t⟩ ⟨h0,h1,h2,h3,h4⟩ ih
 simp only at h0 h1 h2 h3 h4⊢
 by_cases hij:i<j
 ·rw [if_pos (by simpa using hij)]
  refine ih _ ⟨by simp only;omega,by simp only;omega,by simp only;omega,by simp [st,h3],fun k hk=> ?_⟩ (by simp only;omega)
  simp only [st]
  have gi:t[i.toNat]? =s[i.toNat]? :=by rw [h4 _ (by omega),if_neg (by omega)]
  have gj:t[j.toNat]? =s[j.toNat]? :=by rw [h4 _ (by omega),if_neg (by omega)]
  have vi:gt t i=(s[i.toNat]?).getD default:=by rw [←gi];obtain ⟨n,rfl⟩:=Int.eq_ofNat_of_zero_le h0;rw [qE];simp [List.getD_eq_getElem?_getD]
  have vj:gt t j=(s[j.toNat]?).getD default:=by rw [←gj];obtain ⟨n,rfl⟩:=Int.eq_ofNat_of_zero_le (show 0≤j by omega);rw [qE];simp [List.getD_eq_getElem?_getD]
  have si:s[i.toNat]? =some s[i.toNat]:=List.getElem?_eq_getElem (by omega)
  have sj:s[j.toNat]? =some s[j.toNat]:=List.getElem?_eq_getElem (by omega)
  rw [vi,vj]
  by_cases e1:k=j.toNat
  ·subst e1
   rw [List.getElem?_set_self (by rw [List.length_set,h3];omega),if_pos (by omega),show s.length - 1 - j.toNat=i.toNat by omega,si];rfl
  ·rw [List.getElem?_set_ne (Ne.symm e1)]
   by_cases e2:k=i.toNat
   ·subst e2
    rw [List.getElem?_set_self (by rw [h3];omega),if_pos (by omega),show s.length - 1 - i.toNat=j.toNat by omega,sj];rfl
   ·rw [List.getElem?_set_ne (Ne.symm e2),h4 k hk]
    by_cases c:(k:Int)<i∨j<k
    ·rw [if_pos c,if_pos (by omega)]
    ·rw [if_neg c,if_neg (by omega)]
 ·rw [if_neg (by simpa using hij)]
  refine List.ext_getElem? fun k=> ?_
  by_cases hk:k<s.length
  ·rw [List.getElem?_reverse hk,h4 k hk]
   split
   ·rfl
   ·congr 1;omega
  ·rw [List.getElem?_eq_none (by omega),List.getElem?_eq_none (by simp;omega)]
section
variable {I:List Int→List Int→List Int}
theorem Dz {α:Type} {rest:List (List (List Int))→α}: ∀{d n:Nat} {l:List (List Int)} {acc:List (List (List Int))} {dd:List (List Int)×List (List (List Int))→α},l.length=2^d→d<n→
  ae n (fun (ag:List (List Int)×List (List (List Int))→α) (p:List (List Int)×List (List (List Int)))=>if decide ((p.1.length:Int)>1) then ez (cG p.1) (fun ag5 y5 p5=>aa (I (gt y5 0) (gt y5 1)) fun x8=>ag5 (p5++[x8])) (fun p5=>ag (p5,p.2++[p5])) [] else rest p.2) dd (l,acc)=rest (acc++(List.range d).map fun k=>upL I (k+1) l)
 | 0,n+1,l,acc,dd,h,_=>by
  rw [ae,if_neg (by rw [h];decide)];simp
 | d+1,0,l,acc,dd,h,hn=>absurd hn (by omega)
 | 0,0,l,acc,dd,h,hn=>absurd hn (by omega)
 | d+1,n+1,l,acc,dd,h,hn=>by
  have hp:0<2^d:=Nat.pow_pos (by decide)
  rw [ae,if_pos (by simp only [decide_eq_true_eq];rw [h,Nat.pow_succ];omega),Dy,List.nil_append]
  rw [Dz (d:=d) (n:=n) (zd (by rw [h,Nat.pow_succ];omega)) (by omega)]
  rw [List.range_succ_eq_map,List.map_cons,List.map_map,List.append_assoc]
  rfl
end
section
variable {I:List Int→List Int→List Int}
theorem LA {l:List (List Int)} {d:Nat} (h:l.length=2^d) (hd:d≤10):pX l=(List.range (d+1)).map fun v=>upL js (d - v) l:=by
 unfold pX
 have hlt:d<l.length+1:=by rw [h];have:=Nat.lt_two_pow_self (n:=d);omega
 refine (Dz (I:=js) (rest:=fun x=>aa (lW x) fun y=>y) h hlt).trans ?_
 simp only [aa]
 rw [Lz]
 refine List.ext_getElem (by simp) fun i h1 h2=> ?_
 rw [List.getElem_reverse,List.getElem_map,List.getElem_range]
 simp only [List.length_reverse,List.length_append,List.length_map,List.length_range,List.length_cons,List.length_nil] at h1
 by_cases hi:i<d
 ·rw [List.getElem_append_right (by simp;omega),List.getElem_map,List.getElem_range]
  congr 1
  simp;omega
 ·have e:i=d:=by omega
  subst e
  rw [List.getElem_append_left (by simp)]
  simp [upL]
end
theorem LB {l:List (List Int)} {level index:Int} {x:List (List (List Int))×Int} (hx:x=pY l level index):x.2≠0∨(0≤level∧level<(x.1.length:Int)∧0≤index∧index<((gt x.1 level).length:Int)):=by
 subst hx
 unfold pY
 simp only [aa]
 rcases Dw (l.length:Int) with ⟨d,h1,h2,h3⟩|⟨h1,_⟩
 ·have hl:l.length=2^d:=by exact_mod_cast h2
  rw [h3]
  simp only [bne_self_eq_false,Bool.false_eq_true,if_false]
  by_cases c1:level<0
  ·left;simp [c1]
  by_cases c2:level>(d:Int)
  ·left;simp [c1,c2]
  by_cases c3:index<0
  ·left;simp [c1,c2,c3]
  have e:=CZ (v:=level) (by omega) (by omega)
  by_cases c4:index≥ay .i64 1 level
  ·left;simp [c1,c2,c3,c4]
  right
  simp only [c1,c2,c3,c4,decide_false,Bool.false_eq_true,if_false]
  rw [LA hl h1]
  have hlt:level.toNat<d+1:=by omega
  have hg:gt ((List.range (d+1)).map fun v=>upL js (d - v) l) level=upL js (d - level.toNat) l:=by
   obtain ⟨v,rfl⟩:=Int.eq_ofNat_of_zero_le (show 0≤level by omega)
   rw [qE,List.getD_eq_getElem?_getD,List.getElem?_eq_getElem (by simpa using hlt)]
   simp
  rw [hg,Dx hl (by omega)]
  rw [e] at c4
  refine ⟨by omega,by simp;omega,by omega,?_⟩
  rw [show d - (d - level.toNat)=level.toNat by omega]
  push_cast
  omega
 ·left;rw [h1];simp
theorem DA {a b:List Int} {n:Nat} (ha:a.length≤n) (hb:b.length≤n): ∀j:Int,(gt [a,b] j).length≤n:=by
 intro j
 unfold gt
 match h:j.toNat with
 | 0=>simpa using ha
 | 1=>simpa using hb
 | k+2=>exact Nat.zero_le _
theorem LC (a b:List Int):nD [a,b]=a++b:=by
 unfold nD aa tv
 have g0:gt [a,b] (0:Int)=a:=rfl
 have g1:gt [a,b] (1:Int)=b:=rfl
 have n0: ¬((a.length:Int)<0):=by omega
 have n1: ¬((a.length:Int)+(b.length:Int)<0):=by omega
 simp [ae,g0,g1,n0,n1]
theorem LD {a b x:List Int} (h:x=nD [a,b]) (ha:a.length≤32) (hb:b.length≤32):x.length≤64:=by
 rw [h,LC,List.length_append];omega
theorem DB {α:Type}: ∀{l:List α},2*(cG l).length≤l.length
 | a::b::l=>by
  have:=DB (l:=l)
  simp only [cG,List.length_cons];omega
 | []=>by simp [cG]
 | [_]=>by simp [cG]
theorem ze {l:List Int} {x:am} (hx:x=go l):hgt x=1+l.length:=by subst hx;rw [y9,Dp]
theorem LE (d:fi):nm [d]=lR d:=by
 unfold nm
 rw [if_neg (by simp),if_neg (by simp)]
 show ae 2 _ _ 0=_
 simp only [ae,aa]
 cases hx:lR d with
 | true=>simp [gt,hx]
 | false=>simp [gt,hx]
theorem LF {d:fi} (h:lR d=true):0≤d.Depth∧d.Depth≤5:=by
 unfold lR at h
 split at h
 ·rename_i h1
  simp only [pr,lI,Bool.and_eq_true,beq_iff_eq] at h1
  omega
 ·repeat' (split at h)
  all_goals first|cases h|(simp only [decide_eq_true_eq] at*;omega)
instance Q3 (b:aX) (r:bg):CF (nr b r) (fun x=>x=true→0≤r.Depth∧r.Depth≤5):=⟨fun h=>by
 unfold nr at h
 simp only [aa,LE] at h
 repeat' (split at h)
 all_goals first|cases h|(simp only [beq_iff_eq] at*;omega)|exact LF (by assumption)⟩
end Go.Proofs.YteibkofekpejgaaGreatDoor
