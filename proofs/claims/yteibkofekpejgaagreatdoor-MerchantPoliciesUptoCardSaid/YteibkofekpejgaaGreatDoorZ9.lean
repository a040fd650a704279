/- Texts of this proof, one after the other: ED, M, H1, HS, HZ, H2. -/
import Derived.Test.YteibkofekpejgaaGreatDoorZ8
import Derived.Shelf.SlicesE.Delete
import Derived.TacticsInMore
import Derived.Test.YteibkofekpejgaaGreatDoorZ5
import Derived.Test.YteibkofekpejgaaGreatDoorZ6
import Derived.Test.YteibkofekpejgaaGreatDoorZ7
import Derived.Lib.BitFns
import Derived.KernelRfl
set_option linter.unusedVariables false
set_option linter.unusedSimpArgs false
namespace Go.Proofs.YteibkofekpejgaaGreatDoor
open Go.RowKit Go.Shelf Go.Lib
def pS (s:List aN) (i j:Int):List aN:=s.take i.toNat++s.drop j.toNat
theorem KL {P:Program} (w:World) (t e ty:TypeId) (z:Value) (zs:List Value) (ht:P.underlying t=some (.slice e)) (hv: ∀w,(zeroValue e).run P w= .ok z w) (b o n c:Nat) (hn:0<n) (hz:(Builtin.zeroCells z.cells n).toList=zs)
  (h1: ∀v∈zs,v.oneCell'=true) (hc: ∀j,j<zs.length→(w.cell? ⟨b,o+j,none⟩).isSome=true) (hf: ∀j,j<zs.length→w.frozen? ⟨b,o+j,none⟩=false):
  (Builtin.clear_ #[t] ty #[.slice (some ⟨b,o,none⟩) n c]).run P w= .ok (.tuple #[]) (w.setCells b o zs):=by
 have hst:=run_storeCells_cells (P:=P) b o zs 0 w (by simpa using hc) (by simpa using hf) h1
 simp only [Nat.add_zero] at hst
 obtain ⟨m,rfl⟩: ∃m,n=m+1:=⟨n - 1,by omega⟩
 simp [Builtin.clear_,run_underlying ht,hv,hz,hst]
set_option maxHeartbeats 4000000 in
set_option maxRecDepth 1000000 in
theorem KM (w:World) (blk len cap i j:Nat) (news zs:List Value) (i0:TypeInfo) (hi0:Tryz.prog.info? 50=some i0) (hz1:i0.size=35) (z:Value) (hv: ∀w,(zeroValue 50).run Tryz.prog w= .ok z w) (hz:(Builtin.zeroCells z.cells (j - i)).toList=zs) (hzl:zs.length=(j - i)*35) (hz2: ∀v∈zs,v.oneCell'=true)
  (hij:i<j) (hj:j≤len) (hcap:len≤cap) (hm:cap≤9223372036854775807) (hn:news.length=(len - j)*35) (hn1: ∀u∈news,u.oneCell'=true)
  (hnc: ∀t u,news[t]? =some u→w.cell? ⟨blk,j*35+t,none⟩=some u) (hcs: ∀t,t<len*35→(w.cell? ⟨blk,t,none⟩).isSome=true) (hfz: ∀(w':World) t,(∀t,w'.frozen? ⟨blk,t,none⟩=w.frozen? ⟨blk,t,none⟩)→w'.frozen? ⟨blk,t,none⟩=false)
  (hset: ∀t,((w.drew.setCells blk (i*35) news).cell? ⟨blk,t,none⟩).isSome=(w.cell? ⟨blk,t,none⟩).isSome) (hsf: ∀t,(w.drew.setCells blk (i*35) news).frozen? ⟨blk,t,none⟩=w.frozen? ⟨blk,t,none⟩):
  Calls Tryz.prog 38 #[.slice (some ⟨blk,0,none⟩) len cap,.int .i64 (i:Int),.int .i64 (j:Int)] w fun e w'=>e= .returned (.slice (some ⟨blk,0,none⟩) (len - (j - i)) cap)∧w'=(w.drew.setCells blk (i*35) news).setCells blk ((i+(len - j))*35) zs:=by
 obtain ⟨A,hA,hsrc⟩: ∃A:Addr,(if cap=j then some (⟨blk,0,none⟩:Addr) else some ⟨blk,j*35,none⟩)=some A∧Hid (∀t u,news[t]? =some u→w.drew.cell? (A.add t)=some u):=by
  by_cases h:cap=j
  ·refine ⟨⟨blk,0,none⟩,by simp [h],⟨fun t u hu=> ?_⟩⟩
   have h0:news.length=0:=by rw [hn,show len - j=0 by omega]
   rw [List.length_eq_zero_iff.1 h0] at hu
   simp at hu
  ·refine ⟨⟨blk,j*35,none⟩,by simp [h],⟨fun t u hu=> ?_⟩⟩
   rw [Addr.add_lit]
   exact hnc t u hu
 have s1:Hid (news.length=(len - j)*35):=⟨hn⟩
 have s2:Hid (∀u∈news,u.oneCell'=true):=⟨hn1⟩
 have s3:Hid (∀t,t<news.length→(w.drew.cell? ⟨blk,0+i*35+t,none⟩).isSome=true∧w.drew.frozen? ⟨blk,0+i*35+t,none⟩=false):=⟨by
  intro t ht
  rw [hn] at ht
  refine ⟨?_,hfz w.drew _ fun t=>rfl⟩
  exact hcs (0+i*35+t) (by omega)⟩
 obtain ⟨W1,hW1⟩: ∃W1,W1=w.drew.setCells blk (0+i*35) news:=⟨_,rfl⟩
 have hcl: ∀ty,(Builtin.clear_ #[32] ty #[.slice (some ⟨blk,(i+(len - j))*35,none⟩) (len - (i+(len - j))) (cap - (i+(len - j)))]).run Tryz.prog W1= .ok (.tuple #[]) (W1.setCells blk ((i+(len - j))*35) zs):=fun ty=>
  KL (P:=Tryz.prog) W1 32 50 ty z zs Tryz.underlying32 hv blk ((i+(len - j))*35) _ _ (by omega) (by rw [show len - (i+(len - j))=j - i by omega];exact hz) hz2
   (fun t ht=>by rw [hW1,Nat.zero_add,hset];rw [hzl] at ht;exact hcs _ (by omega)) (fun t ht=>by rw [hW1,Nat.zero_add];exact hfz _ _ hsf)
 have hW:Hid (W1=w.drew.setCells blk (0+i*35) news):=⟨hW1⟩
 have hic:i≤cap:=by omega
 have hjc:j≤cap:=by omega
 have hq1:(i:Int)≤(j:Int):=by omega
 have hq2:(j:Int)≤(len:Int):=by omega
 have hq3: ¬(i:Int)=(j:Int):=by omega
 clear hW1 hnc hcs hfz hset hsf hn hn1
 have mixed:Tryz.prog.follows Departure.mixedOrders=true:=by kernel_rfl
 go_enter Tryz.func38,Tryz.ntmps38
 go_wp2_with fail
 go_region_law_o (refine step_append_room rfl (.tmp 22) (.tmp 25) 32 rfl 50 i0 35 Tryz.underlying32 hi0 hz1 blk 0 i cap (by simp [Act.eval,Act.put]) A (len - j) (cap - j) news (by simp [Act.eval,Act.put]) s1.out hsrc.out s2.out (by omega) s3.out ?_;rw [←hW.out])
 go_wp2
 go_ret
 refine ⟨by rw [show len - (j - i)=i+(len - j) by omega];rfl,?_⟩
 rw [hW.out,Nat.zero_add]
theorem KN: ∃i:TypeInfo,Tryz.prog.info? 50=some i∧i.size=35:=by
 have h:(Tryz.prog.info? 50).map (fun i=>i.size)=some 35:=by kernel_rfl
 cases hi:Tryz.prog.info? 50 with
 | none=>rw [hi] at h;cases h
 | some i=>rw [hi] at h;simp only [Option.map_some,Option.some.injEq] at h;exact ⟨i,rfl,h⟩
def pT:Value:= .agg (Array.replicate 32 (Value.int .u8 0)++ #[Value.int .i64 0,Value.int .i64 0,Value.int .i64 0])
theorem KO (w:World):(zeroValue 50).run Tryz.prog w= .ok pT w:=Tryz.zeroValue50 w
theorem KP:pT.cells.size=35:=by decide
theorem KQ: ∀v∈pT.cells.toList,v.oneCell'=true:=by decide
theorem KR {cs:Array Value} {n:Nat} {v:Value} (h:v∈(Builtin.zeroCells cs n).toList):v∈cs.toList:=by
 unfold Builtin.zeroCells at h
 simp only [Array.toList_map,List.mem_map] at h
 obtain ⟨a,ha,rfl⟩:=h
 have ha':a<n*cs.size:=by simpa using ha
 have hs:0<cs.size:=by
  rcases Nat.eq_zero_or_pos cs.size with h|h
  ·rw [h,Nat.mul_zero] at ha';omega
  ·exact h
 have hlt:a% cs.size<cs.size:=Nat.mod_lt _ hs
 rw [getElem!_pos cs _ hlt]
 exact Array.mem_toList_iff.2 (Array.getElem_mem hlt)
set_option maxHeartbeats 4000000 in
theorem KS (z0:Option Bool) (l:List V) (i j:Nat) (hij:i<j) (hj:j≤l.length) (hl:l.length≤1000):
  ee En 38 [.own 0,.int .i64 (i:Int),.int .i64 (j:Int)] [.own 50 35 true z0 l] (.own 0) [.own 50 35 true none (l.take i++l.drop j)] []:=by
 refine ⟨(show∀xs w,(callFunc 38 xs).run Tryz.prog w= .ok (.enter 38 xs) w from enters_of Tryz.func38 (by kernel_rfl) rfl),rfl,fun c us ρ0 ks hg hin hus=> ?_⟩
 simp only [rdT,rd] at hus
 obtain ⟨u,c2,rfl,⟨hu0,hone⟩,ui,c3,rfl,⟨rfl,hir⟩,uj,c4,rfl,⟨rfl,hjr⟩,rfl⟩:=hus
 obtain ⟨u',e1,hso,hsm,hog,a,cp,es,hz⟩:=hin.1 0 _ rfl
 rw [hu0] at e1;cases e1
 rcases hso.2 with ⟨a',ea,h0⟩|⟨g,cap,cur,eu,gX,gh,g3,g4,g5,g6⟩
 ·subst h0;simp at hj;omega
 subst eu
 have g5':cur.size=(cap+1)*35:=by simpa [rV] using g5
 have g6':a7 (rV ro0 35 true) c (cur.toList.take (l.length*35)) l:=by simpa [rV] using g6
 have hglt:=c.ok g gX
 have hgY:g∈c.Y:=by
  rcases hsm g rfl with h|h
  ·omega
  ·exact h
 have hcl:cur.toList.length=(cap+1)*35:=by simpa using g5'
 have hcell: ∀t,c.w.cell? ⟨g,t,none⟩=cur.toList[t]? :=fun t=>by simp only [World.cell?,gh];simp
 obtain ⟨news,hnews⟩: ∃news,news=(cur.toList.take (l.length*35)).drop (j*35):=⟨_,rfl⟩
 have hnl:news.length=(l.length - j)*35:=by rw [hnews,List.length_drop,List.length_take,hcl];omega
 have h1c: ∀v∈cur.toList.take (l.length*35),v.oneCell'=true:=oE g6'
 obtain ⟨zs,hzs⟩: ∃zs,(Builtin.zeroCells pT.cells (j - i)).toList=zs:=⟨_,rfl⟩
 have hzl:zs.length=(j - i)*35:=by rw [←hzs,Array.length_toList,size_zeroCells,KP]
 obtain ⟨i0,hi0,hs0⟩:=KN
 have gh':c.w.drew.heap[g]? =some (.cells cur 50 (0,0)):=gh
 obtain ⟨cur1,q1,q2,q3⟩:=kj g news (i*35) c.w.drew cur 50 gh' (by rw [hnl,g5'];omega)
 have hfz: ∀t,c.w.frozen? ⟨g,t,none⟩=false:=fun t=>by simp [World.frozen?,gh]
 refine (KM c.w g l.length (cap+1) i j news zs i0 hi0 hs0 pT KO hzs hzl (fun v hv=>KQ v (KR (by rw [hzs];exact hv))) hij hj g3 (by unfold maxLen at g4;omega) hnl (fun u hu=>h1c u (by rw [hnews] at hu;exact List.mem_of_mem_drop hu))
  (fun t u hu=> ?_) (fun t ht=> ?_) (fun w' t h=>by rw [h];exact hfz t) (fun t=> ?_) (fun t=>by rw [hfz t];simp [World.frozen?,q1])).mono ?_
 ·rw [hcell]
  rw [hnews,List.getElem?_drop,List.getElem?_take] at hu
  split at hu
  ·exact hu
  ·cases hu
 ·rw [hcell,List.getElem?_eq_getElem (by rw [hcl];omega)];rfl
 ·rw [hcell]
  simp only [World.cell?,q1]
  by_cases ht:t<cur.size
  ·rw [List.getElem?_eq_getElem (by simpa using ht),Array.getElem?_eq_getElem (by omega)];rfl
  ·rw [List.getElem?_eq_none (by simpa using ht),Array.getElem?_eq_none (by omega)];rfl
 rintro e w' ⟨he,rfl⟩
 obtain ⟨l',hl'⟩: ∃l',l'=l.take i++l.drop j:=⟨_,rfl⟩
 have hll:l'.length=l.length - (j - i):=by rw [hl',List.length_append,List.length_take,List.length_drop];omega
 rw [←hl']
 obtain ⟨r1,r2,r3,r4⟩:=km g news (i*35) c.w.drew
 obtain ⟨cur2,t1,t2,t3⟩:=kj g zs ((i+(l.length - j))*35) _ cur1 50 q1 (by rw [hzl,q2,g5'];omega)
 obtain ⟨y1,y2,y3,y4⟩:=km g zs ((i+(l.length - j))*35) (c.w.drew.setCells g (i*35) news)
 have hlc1:cur1.toList.length=(cap+1)*35:=by rw [Array.length_toList,q2,g5']
 have hrow:cur2.toList.take (l'.length*35)=cur.toList.take (i*35)++news:=by
  have e1:cur2.toList.take (l'.length*35)=cur1.toList.take (l'.length*35):=by
   rw [t3,show (i+(l.length - j))*35=l'.length*35 by rw [hll];omega,List.append_assoc]
   exact List.take_left' (by rw [List.length_take,hlc1];omega)
  rw [e1,q3]
  exact List.take_left' (by rw [List.length_append,List.length_take,hcl,hnl];omega)
 have harr:a7 (rV ro0 35 true) c (cur.toList.take (i*35)++news) l':=by
  rw [hl',hnews]
  have h1:=oK i g6'
  have h2:=rc j g6'
  rw [show (rV ro0 35 true).n=35 from rfl] at h1 h2
  rw [List.take_take,show min (i*35) (l.length*35)=i*35 by omega] at h1
  exact kS h1 h2
 have hoth: ∀k,k≠g→((c.w.drew.setCells g (i*35) news).setCells g ((i+(l.length - j))*35) zs).heap[k]? =c.w.heap[k]? :=fun k hk=>(kl g _ _ _ k hk).trans (kl g _ _ c.w.drew k hk)
 have hsz:((c.w.drew.setCells g (i*35) news).setCells g ((i+(l.length - j))*35) zs).heap.size=c.w.heap.size:=y1.trans r1
 generalize (c.w.drew.setCells g (i*35) news).setCells g ((i+(l.length - j))*35) zs=w' at*
 have hc': ∀k,k∈c.X→k<w'.heap.size:=fun k hk=>by rw [hsz];exact c.ok k hk
 have hpub:c.pub ⟨c.X,w',hc',[]⟩:=⟨by rw [hsz];exact Nat.le_refl _,fun k _ hkX=>⟨hkX,fun o ho _=>(hoth k (fun h=>hkX (h▸gX))).trans ho⟩⟩
 refine ⟨.slice (some ⟨g,0,none⟩) l'.length (cap+1),⟨c.X,w',hc',[]⟩,(fun i=>if i=0 then some (.slice (some ⟨g,0,none⟩) l'.length (cap+1)) else none),by rw [hll];exact he,rfl,⟨⟨y2.trans r2,y3.trans r3,y4.trans r4,by rw [hsz];exact Nat.le_refl _,fun k _ h2=>hoth k (fun h=>h2 (h▸hgY))⟩,fun k _ _=>Iff.rfl⟩,⟨rfl,rfl⟩,?_,?_,?_⟩
 ·intro q bb hq
  match q,hq with
  | 0,hq=>
   simp [bz,eU] at hq;subst hq
   refine ⟨_,rfl,⟨by show l'.length≤LEN;unfold LEN;omega,.inr ⟨g,cap,cur2,rfl,gX,t1,by omega,g4,by show cur2.size=(cap+1)*35;rw [t2,q2,g5'],?_⟩⟩,fun k hk=> ?_,fun h=>(by cases h),some ⟨g,0,none⟩,cap+1,rfl,by simp [zOk]⟩
   ·show a7 _ _ (cur2.toList.take (l'.length*35)) l'
    rw [hrow]
    exact cR hpub harr
   ·have:k=g:=by
     rcases Nat.eq_zero_or_pos cap with h|h<;> · simp [blk] at hk;exact hk.symm
    subst this
    exact .inr hgY
  | q+1,hq=>simp [bz] at hq
 ·intro q hq
  simp [bz] at hq
  have h0:q≠0:=by omega
  simp [h0]
 ·intro q q' bq bq' k hne hq hq'
  match q,q',hq,hq' with
  | 0,0,_,_=>exact absurd rfl hne
  | q+1,_,hq,_=>simp [bz] at hq
  | 0,q'+1,_,hq'=>simp [bz] at hq'
theorem KU (z0:Option Bool) (s_:List aN) (i_ j_:Int) (hp0:0≤i_) (hp1:i_<j_) (hp2:j_.toNat≤s_.length) (hp3:s_.length≤1000):
  ee En 38 [.own 0,.int .i64 i_,.int .i64 j_] [.own 50 35 true z0 (s_.map aZ)] (.own 0) [.own 50 35 true none ((pS s_ i_ j_).map aZ)] []:=by
 obtain ⟨i,rfl⟩: ∃i:Nat,i_=i:=⟨i_.toNat,by omega⟩
 obtain ⟨j,rfl⟩: ∃j:Nat,j_=j:=⟨j_.toNat,by omega⟩
 have:=KS z0 (s_.map aZ) i j (by omega) (by simpa using hp2) (by simpa using hp3)
 simpa only [pS,Int.toNat_natCast,List.map_append,List.map_take,List.map_drop] using this
end Go.Proofs.YteibkofekpejgaaGreatDoor
namespace Go.Proofs.YteibkofekpejgaaGreatDoor
open Go.RowKit
def eV (x_:Int) (low:Int) (high:Int):Bool:=
 (if (decide (x_≥low)) then (decide (x_≤high)) else false)
def pU (r_:bW):Bool:=
 (nc (fun (p1:Bool)=>(if p1 then (aa (eV (r_.A) 0 1099511627776) (fun (x3:Bool)=>(if x3 then (r_.B==0) else false))) else (if (r_.Kind==2) then (aa (eV (r_.A) 0 1000) (fun (x9:Bool)=>(if x9 then (r_.B==0) else false))) else (if (r_.Kind==3) then (aa (eV (r_.A) 0 8) (fun (x16:Bool)=>(if x16 then (r_.B==0) else false))) else (if (r_.Kind==5) then (aa (eV (r_.A) 0 23) (fun (x23:Bool)=>(if x23 then (aa (eV (r_.B) 0 23) (fun (x27:Bool)=>(if x27 then (r_.A !=r_.B) else false))) else false))) else false))))) (fun j1=>(if (r_.Kind==1) then (j1 true) else (j1 (r_.Kind==4)))))
def nB (r_:bW):Bool:=
 (aa (pU r_) (fun (x1:Bool)=>(!x1)))
def tE (s:(List bW)):Int:=
 (ae (((s.length:Int) - 0).toNat+1) (fun (ag1:Int→Int) (p1:Int)=>(if (decide (p1<(s.length:Int))) then (aa (nB (gt s p1)) (fun (x5:Bool)=>(if x5 then p1 else (ag1 (p1+1))))) else (-1))) (fun _=>default) 0)
def pV (s:(List bW)):Bool:=
 (aa (tE s) (fun (x1:Int)=>(decide (x1≥0))))
def kn (p_:dp):Bool:=
 (if (decide ((p_.Rules.length:Int)≤20)) then (aa (pV (p_.Rules)) (fun (x3:Bool)=>(!x3))) else false)
def tF (s:List bW):List bW:=s
def xR (name:(List Int)) (p_:dp):(aD×Int):=
 (aa (kn p_) (fun (x1:Bool)=>(if (!x1) then (bG,1) else (aa (tF (p_.Rules)) (fun (x7:(List bW))=>(({Name:=name,Policy:=({Rules:=x7}:dp),Open:=([]:List aN),Next:=0,Queue:=([]:List aK),Paid:=([]:List aN),Total:=0,Blocked:=([]:List Int),Now:=0}:aD),0))))))
def ko (l:(List Int)):Bool:=
 (ae (((l.length:Int) - 1).toNat+1) (fun (ag1:Int→Bool) (p1:Int)=>(if (decide (p1<(l.length:Int))) then (if (decide ((gt l p1)≤(gt l (p1 - 1)))) then false else (ag1 (p1+1))) else true)) (fun _=>default) 1)
def lZ (v:aN):Bool:=
 (if (decide (v.Amount≥1)) then (if (decide (v.Amount≤1099511627776)) then (if (decide (v.Time≥0)) then (if (decide (v.Time≤1099511627776)) then (if (decide (v.Number≥0)) then (decide (v.Number≤1073741824)) else false) else false) else false) else false) else false)
def pW (v:aN):(eH×Int):=
 (aa (lZ v) (fun (x1:Bool)=>(if (!x1) then (lP,1) else (({Payee:=v.Payee,Time:=v.Time,Number:=v.Number}:eH),0))))
def iy (m:aD) (v:aN):Bool:=
 (aa (pW v) (fun (x1:(eH×Int))=>(if (x1.2==0) then (if (eJ (v.Payee) (m.Name)) then (if (decide (v.Time≤m.Now)) then (decide (v.Number<m.Next)) else false) else false) else false)))
def tG (s:(List Int)) (v:Int):Int:=
 (ae (((s.length:Int) - 0).toNat+1) (fun (ag1:Int→Int) (p1:Int)=>(if (decide (p1<(s.length:Int))) then (if (v==(gt s p1)) then p1 else (ag1 (p1+1))) else (-1))) (fun _=>default) 0)
def gd (s:(List Int)) (v:Int):Bool:=
 (aa (tG s v) (fun (x1:Int)=>(decide (x1≥0))))
def dB (m:aD):Bool:=
 (aa (kn (m.Policy)) (fun (x1:Bool)=>(if (!x1) then false else (if (decide (m.Now<0)) then false else (if (decide (m.Now>1099511627776)) then false else (if (decide (m.Next<0)) then false else (if (decide (m.Next>1073741824)) then false else (if (decide ((m.Open.length:Int)>50)) then false else (if (decide ((m.Queue.length:Int)>50)) then false else (if ((m.Paid.length:Int) !=(m.Queue.length:Int)) then false else (if (decide ((m.Blocked.length:Int)>100)) then false else (aa (ko (m.Blocked)) (fun (x23:Bool)=>(if (!x23) then false else (if (decide ((m.Blocked.length:Int)>0)) then (if (decide ((gt m.Blocked 0)≤0)) then false else (ae (((m.Open.length:Int) - 0).toNat+1) (fun (ag34:(Int×List Int)→Bool) (p34:Int×List Int)=>(if (decide (p34.1<(m.Open.length:Int))) then (aa (iy m (gt m.Open p34.1)) (fun (x38:Bool)=>(if (!x38) then false else (ag34 ((p34.1+1),(p34.2++([(gt m.Open p34.1).Number]:List Int))))))) else (aa (ko (p34.2)) (fun (x45:Bool)=>(if (!x45) then false else (ae (((m.Paid.length:Int) - 0).toNat+1) (fun (ag51:(Int×Int×List Int)→Bool) (p51:Int×Int×List Int)=>(if (decide (p51.2.1<(m.Paid.length:Int))) then (aa (iy m (gt m.Paid p51.2.1)) (fun (x55:Bool)=>(if (!x55) then false else (if ((gt m.Queue p51.2.1).Number !=(gt m.Paid p51.2.1).Number) then false else (aa (gd (p51.2.2) ((gt m.Paid p51.2.1).Number)) (fun (x62:Bool)=>(if x62 then false else (ag51 ((al .i64 p51.1 (gt m.Paid p51.2.1).Amount),(p51.2.1+1),(p51.2.2++([(gt m.Paid p51.2.1).Number]:List Int))))))))))) else (if (p51.1==m.Total) then (decide (p51.1≤1099511627776)) else false))) (fun _=>default) (0,0,p34.2))))))) (fun _=>default) (0,([]:List Int)))) else (ae (((m.Open.length:Int) - 0).toNat+1) (fun (ag73:(Int×List Int)→Bool) (p73:Int×List Int)=>(if (decide (p73.1<(m.Open.length:Int))) then (aa (iy m (gt m.Open p73.1)) (fun (x77:Bool)=>(if (!x77) then false else (ag73 ((p73.1+1),(p73.2++([(gt m.Open p73.1).Number]:List Int))))))) else (aa (ko (p73.2)) (fun (x84:Bool)=>(if (!x84) then false else (ae (((m.Paid.length:Int) - 0).toNat+1) (fun (ag90:(Int×Int×List Int)→Bool) (p90:Int×Int×List Int)=>(if (decide (p90.2.1<(m.Paid.length:Int))) then (aa (iy m (gt m.Paid p90.2.1)) (fun (x94:Bool)=>(if (!x94) then false else (if ((gt m.Queue p90.2.1).Number !=(gt m.Paid p90.2.1).Number) then false else (aa (gd (p90.2.2) ((gt m.Paid p90.2.1).Number)) (fun (x101:Bool)=>(if x101 then false else (ag90 ((al .i64 p90.1 (gt m.Paid p90.2.1).Amount),(p90.2.1+1),(p90.2.2++([(gt m.Paid p90.2.1).Number]:List Int))))))))))) else (if (p90.1==m.Total) then (decide (p90.1≤1099511627776)) else false))) (fun _=>default) (0,0,p73.2))))))) (fun _=>default) (0,([]:List Int))))))))))))))))))
def l3 (now:Int):Int:=
 (cw .i64 (cm .i64 now 3600) 24)
def xS (r_:bW) (amount:Int) (number:Int) (transfers:Int) (hour:Int) (sum:Int):Bool:=
 (if (r_.Kind==1) then (decide (amount≤r_.A)) else (if (r_.Kind==2) then (decide (number≤r_.A)) else (if (r_.Kind==3) then (decide (transfers≤r_.A)) else (if (r_.Kind==4) then (decide ((al .i64 sum amount)≤r_.A)) else (if (decide (r_.A<r_.B)) then (if (decide (r_.A≤hour)) then (decide (hour<r_.B)) else false) else (if (decide (hour≥r_.A)) then true else (decide (hour<r_.B))))))))
def pX (r_:bW) (c0:Int) (c1:Int) (c2:Int) (c3:Int) (c4:Int):Bool:=
 (aa (xS r_ c0 c1 c2 c3 c4) (fun (x1:Bool)=>(!x1)))
def tH (s:(List bW)) (f__c0:Int) (f__c1:Int) (f__c2:Int) (f__c3:Int) (f__c4:Int):Int:=
 (ae (((s.length:Int) - 0).toNat+1) (fun (ag1:Int→Int) (p1:Int)=>(if (decide (p1<(s.length:Int))) then (aa (pX (gt s p1) f__c0 f__c1 f__c2 f__c3 f__c4) (fun (x5:Bool)=>(if x5 then p1 else (ag1 (p1+1))))) else (-1))) (fun _=>default) 0)
def gP (p_:dp) (amount:Int) (number:Int) (transfers:Int) (hour:Int) (sum:Int):(Bool×Int):=
 (aa (kn p_) (fun (x1:Bool)=>(if (!x1) then (false,(-1)) else (aa (eV amount 0 1099511627776) (fun (x6:Bool)=>(if (!x6) then (false,(-1)) else (aa (eV sum 0 1099511627776) (fun (x11:Bool)=>(if (!x11) then (false,(-1)) else (aa (eV number 0 1000) (fun (x16:Bool)=>(if (!x16) then (false,(-1)) else (aa (eV transfers 0 8) (fun (x21:Bool)=>(if (!x21) then (false,(-1)) else (aa (eV hour 0 23) (fun (x26:Bool)=>(if (!x26) then (false,(-1)) else (aa (tH (p_.Rules) amount number transfers hour sum) (fun (x32:Int)=>((decide (x32<0)),x32)))))))))))))))))))))
def xT (p_:dp) (hour:Int) (sum:Int):(Int×Int):=
 (aa (kn p_) (fun (x1:Bool)=>(if (!x1) then (0,1) else (aa (eV hour 0 23) (fun (x7:Bool)=>(if (!x7) then (0,2) else (aa (eV sum 0 1099511627776) (fun (x12:Bool)=>(if (!x12) then (0,2) else (aa (gP p_ 0 0 0 hour sum) (fun (x18:(Bool×Int))=>(if (!x18.1) then (0,16) else (ae (((p_.Rules.length:Int) - 0).toNat+1) (fun (ag24:(Int×Int)→(Int×Int)) (p24:Int×Int)=>(if (decide (p24.2<(p_.Rules.length:Int))) then (if ((gt p_.Rules p24.2).Kind==1) then (ag24 ((eN p24.1 (gt p_.Rules p24.2).A),(p24.2+1))) else (if ((gt p_.Rules p24.2).Kind==4) then (ag24 ((eN p24.1 (aA .i64 (gt p_.Rules p24.2).A sum)),(p24.2+1))) else (ag24 (p24.1,(p24.2+1))))) else (p24.1,0))) (fun _=>default) (1099511627776,0))))))))))))))
def tI (s:List aN):List aN:=s
def nC (s:List Int):List Int:=s
def Db (s:List dO):List dO:=s
def Dc (s:List (List Int)):List (List Int):=s
def pY (s:au):au:=
 (aa (Db (s.Leaves)) (fun (x1:(List dO))=>(aa (Dc (s.Path.L)) (fun (x3:(List (List Int)))=>({Coin:=s.Coin,Node:=s.Node,Context:=s.Context,Leaves:=x1,Path:=({Index:=s.Path.Index,L:=x3}:eI)}:au)))))
def nD (l:(List au)):(List au):=
 (ae (((l.length:Int) - 0).toNat+1) (fun (ag1:(Int×List au)→(List au)) (p1:Int×List au)=>(if (decide (p1.1<(l.length:Int))) then (aa (pY (gt l p1.1)) (fun (x5:au)=>(ag1 ((p1.1+1),(p1.2++([x5]:List au)))))) else p1.2)) (fun _=>default) (0,([]:List au)))
def nE (p_:aK):aK:=
 (aa (nD (p_.Spends)) (fun (x1:(List au))=>(ae (((p_.Chains.length:Int) - 0).toNat+1) (fun (ag3:(Int×List bh)→aK) (p3:Int×List bh)=>(if (decide (p3.1<(p_.Chains.length:Int))) then (aa (pY ((gt p_.Chains p3.1).First)) (fun (x7:au)=>(aa (nD ((gt p_.Chains p3.1).L)) (fun (x9:(List au))=>(ag3 ((p3.1+1),(p3.2++([({First:=x7,L:=x9}:bh)]:List bh)))))))) else (ae (((p_.Escrow.length:Int) - 0).toNat+1) (fun (ag12:(Int×List bZ)→aK) (p12:Int×List bZ)=>(if (decide (p12.1<(p_.Escrow.length:Int))) then (aa (nC ((gt p_.Escrow p12.1).Proof.A)) (fun (x16:(List Int))=>(aa (nC ((gt p_.Escrow p12.1).Proof.Z)) (fun (x18:(List Int))=>(ag12 ((p12.1+1),(p12.2++([({E1:=(gt p_.Escrow p12.1).E1,E2:=(gt p_.Escrow p12.1).E2,Proof:=({A:=x16,C:=(gt p_.Escrow p12.1).Proof.C,Z:=x18}:dP)}:bZ)]:List bZ)))))))) else ({Number:=p_.Number,Spends:=x1,Chains:=p3.2,Escrow:=p12.2}:aK))) (fun _=>default) (0,([]:List bZ))))) (fun _=>default) (0,([]:List bh)))))
def kp (m:aD):aD:=
 (aa (tF (m.Policy.Rules)) (fun (x1:(List bW))=>(aa (tI (m.Open)) (fun (x4:(List aN))=>(aa (tI (m.Paid)) (fun (x6:(List aN))=>(aa (nC (m.Blocked)) (fun (x8:(List Int))=>(ae (((m.Queue.length:Int) - 0).toNat+1) (fun (ag10:(Int×List aK)→aD) (p10:Int×List aK)=>(if (decide (p10.1<(m.Queue.length:Int))) then (aa (nE (gt m.Queue p10.1)) (fun (x14:aK)=>(ag10 ((p10.1+1),(p10.2++([x14]:List aK)))))) else ({Name:=m.Name,Policy:=({Rules:=x1}:dp),Open:=x4,Next:=m.Next,Queue:=p10.2,Paid:=x6,Total:=m.Total,Blocked:=x8,Now:=m.Now}:aD))) (fun _=>default) (0,([]:List aK)))))))))))
def pZ (m:aD) (amount:Int):(aD×aN×Int):=
 (aa (dB m) (fun (x1:Bool)=>(if (!x1) then (bG,fm,1) else (if (decide (amount<1)) then (bG,fm,2) else (if (decide (amount>1099511627776)) then (bG,fm,2) else (aa (l3 (m.Now)) (fun (x14:Int)=>(aa (xT (m.Policy) x14 (m.Total)) (fun (x16:(Int×Int))=>(if (x16.2 !=0) then (bG,fm,16) else (if (decide (amount>x16.1)) then (bG,fm,16) else (if ((m.Open.length:Int)==50) then (bG,fm,5) else (if (m.Next==1073741824) then (bG,fm,5) else (aa (kp m) (fun (x28:aD)=>(({Name:=x28.Name,Policy:=x28.Policy,Open:=(x28.Open++([({Payee:=m.Name,Amount:=amount,Time:=m.Now,Number:=m.Next}:aN)]:List aN)),Next:=(al .i64 x28.Next 1),Queue:=x28.Queue,Paid:=x28.Paid,Total:=x28.Total,Blocked:=x28.Blocked,Now:=x28.Now}:aD),({Payee:=m.Name,Amount:=amount,Time:=m.Now,Number:=m.Next}:aN),0))))))))))))))))
def kq:Bool:=
 (aa (xR ([1,0,0,0,0,0,0,0,0,0,0,0,0,0,0,0,0,0,0,0,0,0,0,0,0,0,0,0,0,0,0,0]) ({Rules:=([({Kind:=1,A:=50,B:=0}:bW)]:List bW)}:dp)) (fun (x1:(aD×Int))=>(aa (pZ (x1.1) 50) (fun (x4:(aD×aN×Int))=>(aa (pZ (x4.1) 20) (fun (x7:(aD×aN×Int))=>(aa (pZ (x7.1) 51) (fun (x10:(aD×aN×Int))=>(if (x1.2==0) then (if (x4.2.2==0) then (if (kc (x4.2.1) ({Payee:=[1,0,0,0,0,0,0,0,0,0,0,0,0,0,0,0,0,0,0,0,0,0,0,0,0,0,0,0,0,0,0,0],Amount:=50,Time:=0,Number:=0}:aN)) then (if (x7.2.2==0) then (if (x7.2.1.Number==1) then (x10.2.2==16) else false) else false) else false) else false) else false)))))))))
def qa (h_:bh):Bool:=
 (decide ((h_.L.length:Int)>12))
def qb (x_:bZ):Bool:=
 (if (decide ((x_.Proof.A.length:Int)>20)) then true else (decide ((x_.Proof.Z.length:Int)>20)))
def gQ (h_:bh):(List au):=
 (([h_.First]:List au)++h_.L)
def l4 (p_:aK):(List au):=
 (ae (((p_.Spends.length:Int) - 0).toNat+1) (fun (ag1:(Int×List au)→(List au)) (p1:Int×List au)=>(if (decide (p1.1<(p_.Spends.length:Int))) then (ag1 ((p1.1+1),(p1.2++([(gt p_.Spends p1.1)]:List au)))) else (ae (((p_.Chains.length:Int) - 0).toNat+1) (fun (ag6:(Int×List au)→(List au)) (p6:Int×List au)=>(if (decide (p6.1<(p_.Chains.length:Int))) then (aa (gQ (gt p_.Chains p6.1)) (fun (x10:(List au))=>(ae (((x10.length:Int) - 0).toNat+1) (fun (ag14:(Int×List au)→(List au)) (p14:Int×List au)=>(if (decide (p14.1<(x10.length:Int))) then (ag14 ((p14.1+1),(p14.2++([(gt x10 p14.1)]:List au)))) else (ag6 ((p6.1+1),p14.2)))) (fun _=>default) (0,p6.2)))) else p6.2)) (fun _=>default) (0,p1.2)))) (fun _=>default) (0,([]:List au)))
def qc (s:au):Bool:=
 (if (decide ((s.Leaves.length:Int)>40)) then true else (decide ((s.Path.L.length:Int)>20)))
def tJ (s:(List bh)):Int:=
 (ae (((s.length:Int) - 0).toNat+1) (fun (ag1:Int→Int) (p1:Int)=>(if (decide (p1<(s.length:Int))) then (aa (qa (gt s p1)) (fun (x5:Bool)=>(if x5 then p1 else (ag1 (p1+1))))) else (-1))) (fun _=>default) 0)
def kr (s:(List bh)):Bool:=
 (aa (tJ s) (fun (x1:Int)=>(decide (x1≥0))))
def tK (s:(List bZ)):Int:=
 (ae (((s.length:Int) - 0).toNat+1) (fun (ag1:Int→Int) (p1:Int)=>(if (decide (p1<(s.length:Int))) then (aa (qb (gt s p1)) (fun (x5:Bool)=>(if x5 then p1 else (ag1 (p1+1))))) else (-1))) (fun _=>default) 0)
def qd (s:(List bZ)):Bool:=
 (aa (tK s) (fun (x1:Int)=>(decide (x1≥0))))
def tL (s:(List au)):Int:=
 (ae (((s.length:Int) - 0).toNat+1) (fun (ag1:Int→Int) (p1:Int)=>(if (decide (p1<(s.length:Int))) then (aa (qc (gt s p1)) (fun (x5:Bool)=>(if x5 then p1 else (ag1 (p1+1))))) else (-1))) (fun _=>default) 0)
def qe (s:(List au)):Bool:=
 (aa (tL s) (fun (x1:Int)=>(decide (x1≥0))))
def kt (p_:aK):Bool:=
 (if (decide ((p_.Spends.length:Int)>12)) then false else (if (decide ((p_.Chains.length:Int)>12)) then false else (if (decide ((p_.Escrow.length:Int)>30)) then false else (aa (kr (p_.Chains)) (fun (x7:Bool)=>(if x7 then false else (aa (qd (p_.Escrow)) (fun (x11:Bool)=>(if x11 then false else (aa (l4 p_) (fun (x15:(List au))=>(aa (qe x15) (fun (x18:Bool)=>(!x18))))))))))))))
def qf (p_:aK):Bool:=
 (aa (kt p_) (fun (x1:Bool)=>(!x1)))
def tM (s:(List aK)):Int:=
 (ae (((s.length:Int) - 0).toNat+1) (fun (ag1:Int→Int) (p1:Int)=>(if (decide (p1<(s.length:Int))) then (aa (qf (gt s p1)) (fun (x5:Bool)=>(if x5 then p1 else (ag1 (p1+1))))) else (-1))) (fun _=>default) 0)
def qg (s:(List aK)):Bool:=
 (aa (tM s) (fun (x1:Int)=>(decide (x1≥0))))
def l5 (m:aD):Bool:=
 (if (decide ((m.Open.length:Int)≤60)) then (if (decide ((m.Queue.length:Int)≤60)) then (if (decide ((m.Paid.length:Int)≤60)) then (if (decide ((m.Blocked.length:Int)≤120)) then (if (decide ((m.Policy.Rules.length:Int)≤30)) then (aa (qg (m.Queue)) (fun (x11:Bool)=>(!x11))) else false) else false) else false) else false) else false)
def ku (v:aN) (c0:aK):Bool:=
 (v.Number==c0.Number)
def qh (x_:Int) (low:Int) (high:Int):Bool:=
 (if (decide (x_≥low)) then (decide (x_≤high)) else false)
def xU (bank:Int) (epoch:Int) (from_:Int) (until_:Int) (final:Int):Bool:=
 (aa (qh bank 0 7) (fun (x1:Bool)=>(if x1 then (aa (qh epoch 0 1000000) (fun (x5:Bool)=>(if x5 then (if (decide (from_≥0)) then (if (decide (from_<until_)) then (if (decide (until_≤final)) then (decide (final≤1099511627776)) else false) else false) else false) else false))) else false)))
def l6 (d_:fo):Bool:=
 (if (pM d_ lR) then true else (if (decide (d_.Value≥1)) then (if (decide (d_.Value≤1099511627776)) then (if (decide (d_.Depth≥0)) then (if (decide (d_.Depth≤5)) then ((cw .i64 d_.Value (ay .i64 1 d_.Depth))==0) else false) else false) else false) else false))
def nF (l:(List fo)):Bool:=
 (if (decide ((l.length:Int)<1)) then false else (if (decide ((l.length:Int)>16)) then false else (ae (((l.length:Int) - 0).toNat+1) (fun (ag6:Int→Bool) (p6:Int)=>(if (decide (p6<(l.length:Int))) then (aa (l6 (gt l p6)) (fun (x10:Bool)=>(if (!x10) then false else (if (decide (p6>0)) then (if (decide ((gt l p6).Value<(gt l (p6 - 1)).Value)) then false else (if ((gt l p6).Value==(gt l (p6 - 1)).Value) then (if (decide ((gt l p6).Depth≤(gt l (p6 - 1)).Depth)) then false else (ag6 (p6+1))) else (ag6 (p6+1)))) else (ag6 (p6+1)))))) else true)) (fun _=>default) 0)))
def qi (x_:Int):Int:=
 (if (x_==0) then 64 else (ah .i64 (gt j5 (ar .u64 (aS .u64 (bD .u64 x_ (jB .u64 x_)) 285870213051353865) 58))))
def kv (x_:Int) (y:Int):(Int×Int):=
 ((al .u64 (al .u64 (aS .u64 (ar .u64 x_ 32) (ar .u64 y 32)) (ar .u64 (al .u64 (aS .u64 (ar .u64 x_ 32) (bD .u64 y 4294967295)) (ar .u64 (aS .u64 (bD .u64 x_ 4294967295) (bD .u64 y 4294967295)) 32)) 32)) (ar .u64 (al .u64 (bD .u64 (al .u64 (aS .u64 (ar .u64 x_ 32) (bD .u64 y 4294967295)) (ar .u64 (aS .u64 (bD .u64 x_ 4294967295) (bD .u64 y 4294967295)) 32)) 4294967295) (aS .u64 (bD .u64 x_ 4294967295) (ar .u64 y 32))) 32)),(aS .u64 x_ y))
def l7 (x_:Int):Int:=
 (aa (tB x_) (fun (x1:Int)=>(aA .i64 64 x1)))
def nG (hi:Int) (lo:Int) (y:Int):(Int×Int):=
 (if (y==0) then (default:(Int×Int)) else (if (decide (y≤hi)) then (default:(Int×Int)) else (if (hi==0) then ((cm .u64 lo y),(cw .u64 lo y)) else (aa (l7 y) (fun (x10:Int)=>(nc (fun (p14:Int)=>(nc (fun (p15:Int)=>((al .u64 (aS .u64 p14 4294967296) p15),(ar .u64 (aA .u64 (al .u64 (aS .u64 (aA .u64 (al .u64 (aS .u64 (orI .u64 (ay .u64 hi (ah .u64 x10)) (ar .u64 lo (aA .u64 64 (ah .u64 x10)))) 4294967296) (ar .u64 (ay .u64 lo (ah .u64 x10)) 32)) (aS .u64 p14 (ay .u64 y (ah .u64 x10)))) 4294967296) (bD .u64 (ay .u64 lo (ah .u64 x10)) 4294967295)) (aS .u64 p15 (ay .u64 y (ah .u64 x10)))) (ah .u64 x10)))) (fun j15=>(ae ((4294967296 - (aA .u64 (aA .u64 (al .u64 (aS .u64 (orI .u64 (ay .u64 hi (ah .u64 x10)) (ar .u64 lo (aA .u64 64 (ah .u64 x10)))) 4294967296) (ar .u64 (ay .u64 lo (ah .u64 x10)) 32)) (aS .u64 p14 (ay .u64 y (ah .u64 x10)))) (aS .u64 (cm .u64 (aA .u64 (al .u64 (aS .u64 (orI .u64 (ay .u64 hi (ah .u64 x10)) (ar .u64 lo (aA .u64 64 (ah .u64 x10)))) 4294967296) (ar .u64 (ay .u64 lo (ah .u64 x10)) 32)) (aS .u64 p14 (ay .u64 y (ah .u64 x10)))) (ar .u64 (ay .u64 y (ah .u64 x10)) 32)) (ar .u64 (ay .u64 y (ah .u64 x10)) 32)))).toNat+1) (fun (ag16:(Int×Int)→(Int×Int)) (p16:Int×Int)=>(if (decide (p16.2≥4294967296)) then (if (decide ((al .u64 p16.1 (ar .u64 (ay .u64 y (ah .u64 x10)) 32))≥4294967296)) then (j15 (aA .u64 p16.2 1)) else (ag16 ((al .u64 p16.1 (ar .u64 (ay .u64 y (ah .u64 x10)) 32)),(aA .u64 p16.2 1)))) else (if (decide ((aS .u64 p16.2 (bD .u64 (ay .u64 y (ah .u64 x10)) 4294967295))>(al .u64 (aS .u64 4294967296 p16.1) (bD .u64 (ay .u64 lo (ah .u64 x10)) 4294967295)))) then (if (decide ((al .u64 p16.1 (ar .u64 (ay .u64 y (ah .u64 x10)) 32))≥4294967296)) then (j15 (aA .u64 p16.2 1)) else (ag16 ((al .u64 p16.1 (ar .u64 (ay .u64 y (ah .u64 x10)) 32)),(aA .u64 p16.2 1)))) else (j15 p16.2)))) (fun _=>default) ((aA .u64 (aA .u64 (al .u64 (aS .u64 (orI .u64 (ay .u64 hi (ah .u64 x10)) (ar .u64 lo (aA .u64 64 (ah .u64 x10)))) 4294967296) (ar .u64 (ay .u64 lo (ah .u64 x10)) 32)) (aS .u64 p14 (ay .u64 y (ah .u64 x10)))) (aS .u64 (cm .u64 (aA .u64 (al .u64 (aS .u64 (orI .u64 (ay .u64 hi (ah .u64 x10)) (ar .u64 lo (aA .u64 64 (ah .u64 x10)))) 4294967296) (ar .u64 (ay .u64 lo (ah .u64 x10)) 32)) (aS .u64 p14 (ay .u64 y (ah .u64 x10)))) (ar .u64 (ay .u64 y (ah .u64 x10)) 32)) (ar .u64 (ay .u64 y (ah .u64 x10)) 32))),(cm .u64 (aA .u64 (al .u64 (aS .u64 (orI .u64 (ay .u64 hi (ah .u64 x10)) (ar .u64 lo (aA .u64 64 (ah .u64 x10)))) 4294967296) (ar .u64 (ay .u64 lo (ah .u64 x10)) 32)) (aS .u64 p14 (ay .u64 y (ah .u64 x10)))) (ar .u64 (ay .u64 y (ah .u64 x10)) 32))))))) (fun j14=>(ae ((4294967296 - (aA .u64 (orI .u64 (ay .u64 hi (ah .u64 x10)) (ar .u64 lo (aA .u64 64 (ah .u64 x10)))) (aS .u64 (cm .u64 (orI .u64 (ay .u64 hi (ah .u64 x10)) (ar .u64 lo (aA .u64 64 (ah .u64 x10)))) (ar .u64 (ay .u64 y (ah .u64 x10)) 32)) (ar .u64 (ay .u64 y (ah .u64 x10)) 32)))).toNat+1) (fun (ag29:(Int×Int)→(Int×Int)) (p29:Int×Int)=>(if (decide (p29.1≥4294967296)) then (if (decide ((al .u64 p29.2 (ar .u64 (ay .u64 y (ah .u64 x10)) 32))≥4294967296)) then (j14 (aA .u64 p29.1 1)) else (ag29 ((aA .u64 p29.1 1),(al .u64 p29.2 (ar .u64 (ay .u64 y (ah .u64 x10)) 32))))) else (if (decide ((aS .u64 p29.1 (bD .u64 (ay .u64 y (ah .u64 x10)) 4294967295))>(al .u64 (aS .u64 4294967296 p29.2) (ar .u64 (ay .u64 lo (ah .u64 x10)) 32)))) then (if (decide ((al .u64 p29.2 (ar .u64 (ay .u64 y (ah .u64 x10)) 32))≥4294967296)) then (j14 (aA .u64 p29.1 1)) else (ag29 ((aA .u64 p29.1 1),(al .u64 p29.2 (ar .u64 (ay .u64 y (ah .u64 x10)) 32))))) else (j14 p29.1)))) (fun _=>default) ((cm .u64 (orI .u64 (ay .u64 hi (ah .u64 x10)) (ar .u64 lo (aA .u64 64 (ah .u64 x10)))) (ar .u64 (ay .u64 y (ah .u64 x10)) 32)),(aA .u64 (orI .u64 (ay .u64 hi (ah .u64 x10)) (ar .u64 lo (aA .u64 64 (ah .u64 x10)))) (aS .u64 (cm .u64 (orI .u64 (ay .u64 hi (ah .u64 x10)) (ar .u64 lo (aA .u64 64 (ah .u64 x10)))) (ar .u64 (ay .u64 y (ah .u64 x10)) 32)) (ar .u64 (ay .u64 y (ah .u64 x10)) 32))))))))))))
def fH (a_:Int) (b:Int) (n_:Int):Int:=
 (aa (kv a_ b) (fun (x1:(Int×Int))=>(aa (nG (x1.1) (x1.2) n_) (fun (x5:(Int×Int))=>x5.2))))
def qj (a_:Int) (e_:Int) (n_:Int):Int:=
 (ae (e_.toNat+1) (fun (ag1:(Int×Int×Int)→Int) (p1:Int×Int×Int)=>(if (decide (p1.2.1>0)) then (if ((bD .u64 p1.2.1 1)==1) then (aa (fH (p1.2.2) (p1.1) n_) (fun (x6:Int)=>(aa (fH (p1.1) (p1.1) n_) (fun (x10:Int)=>(ag1 (x10,(ar .u64 p1.2.1 1),x6)))))) else (aa (fH (p1.1) (p1.1) n_) (fun (x15:Int)=>(ag1 (x15,(ar .u64 p1.2.1 1),p1.2.2))))) else p1.2.2)) (fun _=>default) (a_,e_,1))
def xV (a_:Int) (n_:Int) (d_:Int) (s:Int):Bool:=
 (aa (qj a_ d_ n_) (fun (x1:Int)=>(if (x1==1) then false else (if (x1==(aA .u64 n_ 1)) then false else (ae ((aA .i64 s 1 - 0).toNat+1) (fun (ag10:(Int×Int)→Bool) (p10:Int×Int)=>(if (decide (p10.2<(aA .i64 s 1))) then (aa (fH (p10.1) (p10.1) n_) (fun (x13:Int)=>(if (x13==(aA .u64 n_ 1)) then false else (ag10 (x13,(p10.2+1)))))) else true)) (fun _=>default) (x1,0))))))
def tN (n_:Int):Bool:=
 (if (decide (n_<2)) then false else (ae (((12:Int) - 0).toNat+1) (fun (ag4:Int→Bool) (p4:Int)=>(if (decide (p4<12)) then (if ((cw .u64 (ah .u64 n_) (gt db p4))==0) then ((ah .u64 n_)==(gt db p4)) else (ag4 (p4+1))) else (aa (qi (aA .u64 (ah .u64 n_) 1)) (fun (x12:Int)=>(ae (((12:Int) - 0).toNat+1) (fun (ag16:Int→Bool) (p16:Int)=>(if (decide (p16<12)) then (aa (xV (gt db p16) (ah .u64 n_) (ar .u64 (aA .u64 (ah .u64 n_) 1) x12) x12) (fun (x20:Bool)=>(if x20 then false else (ag16 (p16+1))))) else true)) (fun _=>default) 0))))) (fun _=>default) 0))
def qk (a_:Int) (m:Int):Bool:=
 (if (decide (a_≥0)) then (decide (a_<m)) else false)
def js (a_:Int) (b:Int) (m:Int):Int:=
 (if (decide (m<1)) then 1 else (if (decide (m≥2305843009213693952)) then 1 else (aa (qk a_ m) (fun (x6:Bool)=>(if (!x6) then 2 else (aa (qk b m) (fun (x11:Bool)=>(if (!x11) then 2 else 0))))))))
def jt (a_:Int) (b:Int) (m:Int):Int:=
 (aa (kv (ah .u64 a_) (ah .u64 b)) (fun (x1:(Int×Int))=>(aa (nG (x1.1) (x1.2) (ah .u64 m)) (fun (x5:(Int×Int))=>(ah .i64 x5.2)))))
def iz (a_:Int) (e_:Int) (m:Int):(Int×Int):=
 (aa (js a_ a_ m) (fun (x1:Int)=>(if (x1 !=0) then (0,x1) else (if (decide (e_<0)) then (0,2) else (ae (e_.toNat+1) (fun (ag11:(Int×Int×Int)→(Int×Int)) (p11:Int×Int×Int)=>(if (decide (p11.2.1>0)) then (if ((bD .i64 p11.2.1 1)==1) then (aa (jt (p11.2.2) (p11.1) m) (fun (x16:Int)=>(aa (jt (p11.1) (p11.1) m) (fun (x20:Int)=>(ag11 (x20,(ar .i64 p11.2.1 1),x16)))))) else (aa (jt (p11.1) (p11.1) m) (fun (x25:Int)=>(ag11 (x25,(ar .i64 p11.2.1 1),p11.2.2))))) else (p11.2.2,0))) (fun _=>default) (a_,e_,(cw .i64 1 m)))))))
def iA (g:aO):Bool:=
 (if (decide (g.P≥2305843009213693952)) then false else (if (decide (g.Q<3)) then false else (if ((cw .i64 g.Q 2)==0) then false else (aa (tN (g.P)) (fun (x7:Bool)=>(if (!x7) then false else (aa (tN (g.Q)) (fun (x12:Bool)=>(if (!x12) then false else (if ((cw .i64 (aA .i64 g.P 1) g.Q) !=0) then false else (if (decide (g.G<2)) then false else (if (decide (g.G≥g.P)) then false else (aa (iz (g.G) (g.Q) (g.P)) (fun (x24:(Int×Int))=>(if (x24.2==0) then (x24.1==1) else false)))))))))))))))
def tO (g:aO) (x_:Int):Bool:=
 (if (decide (x_<1)) then false else (if (decide (x_≥g.P)) then false else (aa (iz x_ (g.Q) (g.P)) (fun (x6:(Int×Int))=>(x6.1==1)))))
def iB (g:aO) (x_:Int):Bool:=
 (aa (iA g) (fun (x1:Bool)=>(if x1 then (aa (tO g x_) (fun (x5:Bool)=>x5)) else false)))
def kw (b:aY):Bool:=
 (aa (iA (b.Group)) (fun (x1:Bool)=>(if (!x1) then false else (ae (((3:Int) - 0).toNat+1) (fun (ag7:Int→Bool) (p7:Int)=>(if (decide (p7<(3:Int))) then (if ((gt ([b.G1,b.G2,b.H]:List Int) p7)==1) then false else (aa (iB (b.Group) (gt ([b.G1,b.G2,b.H]:List Int) p7)) (fun (x13:Bool)=>(if (!x13) then false else (ag7 (p7+1)))))) else true)) (fun _=>default) 0))))
def ql (b:aY) (x_:Int):Bool:=
 (if (decide (x_<1)) then false else (if (decide (x_≥b.Group.P)) then false else (aa (iz x_ (b.Group.Q) (b.Group.P)) (fun (x6:(Int×Int))=>(if (x6.2==0) then (x6.1==1) else false)))))
def ky (b:aY) (m:Int):Bool:=
 (if (m !=1) then (aa (ql b m) (fun (x3:Bool)=>x3)) else false)
def nH (b:aY) (k_:gN):Bool:=
 (aa (kw b) (fun (x1:Bool)=>(if x1 then (aa (ky b (k_.H)) (fun (x5:Bool)=>(if x5 then (aa (ky b (k_.H1)) (fun (x9:Bool)=>(if x9 then (aa (ky b (k_.H2)) (fun (x13:Bool)=>x13)) else false))) else false))) else false)))
def nI (b:aY) (r_:bg):Bool:=
 (aa (xU (r_.Bank) (r_.Epoch) (r_.From) (r_.Until) (r_.Final)) (fun (x1:Bool)=>(if x1 then (aa (qh (r_.Denom) 0 16) (fun (x5:Bool)=>(if x5 then (if (r_.Value==0) then (if (r_.Depth==0) then (aa (nH b (r_.Key)) (fun (x21:Bool)=>x21)) else (aa (nF ([({Value:=r_.Value,Depth:=r_.Depth}:fo)]:List fo)) (fun (x13:Bool)=>(if x13 then (aa (nH b (r_.Key)) (fun (x17:Bool)=>x17)) else false)))) else (aa (nF ([({Value:=r_.Value,Depth:=r_.Depth}:fo)]:List fo)) (fun (x25:Bool)=>(if x25 then (aa (nH b (r_.Key)) (fun (x29:Bool)=>x29)) else false)))) else false))) else false)))
def nJ (k_:cj):Bool:=
 (ae (((k_.l.length:Int) - 0).toNat+1) (fun (ag1:Int→Bool) (p1:Int)=>(if (decide (p1<(k_.l.length:Int))) then (aa (nI (k_.b) (gt k_.l p1)) (fun (x5:Bool)=>(if (!x5) then false else (ag1 (p1+1))))) else (aa (kw (k_.b)) (fun (x12:Bool)=>(if x12 then (aa (lZ (k_.v)) (fun (x16:Bool)=>(if x16 then (if (k_.y==0) then true else (if (k_.y !=1) then (aa (iB (k_.b.Group) (k_.y)) (fun (x24:Bool)=>x24)) else false)) else false))) else false))))) (fun _=>default) 0)
def kz (p_:aK):(List au):=
 (ae (((p_.Chains.length:Int) - 0).toNat+1) (fun (ag1:(Int×List au)→(List au)) (p1:Int×List au)=>(if (decide (p1.1<(p_.Chains.length:Int))) then (ag1 ((p1.1+1),((p1.2++([(gt p_.Chains p1.1).First]:List au))++(gt p_.Chains p1.1).L))) else p1.2)) (fun _=>default) (0,(([]:List au)++p_.Spends)))
def tP (c0:aK):Bool:=
 (aa (kz c0) (fun (x1:(List au))=>(decide ((x1.length:Int)≤100))))
def qm (c0:aK) (c1:aN):Bool:=
 (c0.Number==c1.Number)
def nK (k_:cj):(List bu):=
 (ae (((k_.p.Spends.length:Int) - 0).toNat+1) (fun (ag1:(Int×List bu)→(List bu)) (p1:Int×List bu)=>(if (decide (p1.1<(k_.p.Spends.length:Int))) then (ag1 ((p1.1+1),(p1.2++([(gt k_.p.Spends p1.1).Coin]:List bu)))) else (ae (((k_.p.Chains.length:Int) - 0).toNat+1) (fun (ag6:(Int×List bu)→(List bu)) (p6:Int×List bu)=>(if (decide (p6.1<(k_.p.Chains.length:Int))) then (ag6 ((p6.1+1),(p6.2++([(gt k_.p.Chains p6.1).First.Coin]:List bu)))) else p6.2)) (fun _=>default) (0,p1.2)))) (fun _=>default) (0,([]:List bu)))
def xW (r_:bg) (c0:Int) (c1:Int) (c2:Int):Bool:=
 (if (r_.Bank==c0) then (if (r_.Epoch==c1) then (r_.Denom==c2) else false) else false)
def tQ (s:(List bg)) (f__c0:Int) (f__c1:Int) (f__c2:Int):Int:=
 (ae (((s.length:Int) - 0).toNat+1) (fun (ag1:Int→Int) (p1:Int)=>(if (decide (p1<(s.length:Int))) then (aa (xW (gt s p1) f__c0 f__c1 f__c2) (fun (x5:Bool)=>(if x5 then p1 else (ag1 (p1+1))))) else (-1))) (fun _=>default) 0)
def nL (l:(List bg)) (bank:Int) (epoch:Int) (number:Int):Int:=
 (aa (tQ l bank epoch number) (fun (x1:Int)=>x1))
def l8 (k_:cj) (c:bu):(bg×Bool):=
 (aa (nL (k_.l) (c.Bank) (c.Epoch) (c.Denom)) (fun (x1:Int)=>(if (decide (x1<0)) then (fX,false) else ((gt k_.l x1),true))))
def tR (k_:cj):Bool:=
 (aa (nK k_) (fun (x1:(List bu))=>(ae (((x1.length:Int) - 0).toNat+1) (fun (ag5:Int→Bool) (p5:Int)=>(if (decide (p5<(x1.length:Int))) then (aa (l8 k_ (gt x1 p5)) (fun (x9:(bg×Bool))=>(if (!x9.2) then false else (ag5 (p5+1))))) else true)) (fun _=>default) 0)))
def xX (b:aY) (x_:Int):Bool:=
 (if (decide (x_≥0)) then (decide (x_<b.Group.Q)) else false)
def xY (b:aY) (l:(List Int)):Bool:=
 (ae (((l.length:Int) - 0).toNat+1) (fun (ag1:Int→Bool) (p1:Int)=>(if (decide (p1<(l.length:Int))) then (aa (ql b (gt l p1)) (fun (x5:Bool)=>(if (!x5) then false else (ag1 (p1+1))))) else true)) (fun _=>default) 0)
def l9 (n_:Int):am:=
 ({Kind:=1,N:=n_,B:=([]:List Int),L:=([]:List am)}:am)
def me (x_:am) (c0:Int):Bool:=
 (aa (ga x_ (c0 - 1)) (fun (x2:Bool)=>(!x2)))
def tS (s:(List am)) (f__c0:Int):Int:=
 (ae (((s.length:Int) - 0).toNat+1) (fun (ag1:Int→Int) (p1:Int)=>(if (decide (p1<(s.length:Int))) then (aa (me (gt s p1) f__c0) (fun (x5:Bool)=>(if x5 then p1 else (ag1 (p1+1))))) else (-1))) (fun _=>default) 0)
def nM (s:(List am)) (f__c0:Int):Bool:=
 (aa (tS s f__c0) (fun (x1:Int)=>(decide (x1≥0))))
def qn (i_:am) (depth:Int):Bool:=
 (if (i_.Kind==1) then (if ((i_.B.length:Int)==0) then ((i_.L.length:Int)==0) else false) else (if (i_.Kind==2) then (if (i_.N==0) then ((i_.L.length:Int)==0) else false) else (if (i_.Kind==3) then (if (i_.N==0) then (if ((i_.B.length:Int)==0) then (if (decide (depth>0)) then (if (decide ((i_.L.length:Int)≤1000)) then (aa (nM (i_.L) depth) (fun (x23:Bool)=>(!x23))) else false) else false) else false) else false) else false)))
def xZ (i_:am):Bool:=
 (aa (ga i_ 8) (fun (x1:Bool)=>x1))
def ju (out:(List Int)) (n_:Int) (size:Int):(List Int):=
 (ae (((size - 1)+1).toNat+1) (fun (ag2:(Int×List Int)→(List Int)) (p2:Int×List Int)=>(if (decide (p2.1≥0)) then (ag2 ((p2.1 - 1),(p2.2++([(ah .u8 (ar .u64 n_ (8*p2.1)))]:List Int)))) else p2.2)) (fun _=>default) ((size - 1),out))
def qo (out:(List Int)) (i_:am):(List Int):=
 (if (decide ((out.length:Int)>16384)) then out else (if (i_.Kind==1) then (aa (ju (out++([(ah .u8 i_.Kind)]:List Int)) (ah .u64 i_.N) 8) (fun (x6:(List Int))=>x6)) else (if (i_.Kind==2) then (aa (ju (out++([(ah .u8 i_.Kind)]:List Int)) (ah .u64 (i_.B.length:Int)) 4) (fun (x13:(List Int))=>(x13++i_.B))) else (aa (ju (out++([(ah .u8 i_.Kind)]:List Int)) (ah .u64 (i_.L.length:Int)) 4) (fun (x17:(List Int))=>(ae (((i_.L.length:Int) - 0).toNat+1) (fun (ag21:(Int×List Int)→(List Int)) (p21:Int×List Int)=>(if (decide (p21.1<(i_.L.length:Int))) then (aa (gc (p21.2) (gt i_.L p21.1)) (fun (x25:(List Int))=>(ag21 ((p21.1+1),x25)))) else p21.2)) (fun _=>default) (0,x17)))))))
def gg (i_:am):((List Int)×Int):=
 (aa (xZ i_) (fun (x1:Bool)=>(if (!x1) then (([]:List Int),1) else (aa (gc ([]:List Int) i_) (fun (x7:(List Int))=>(if (decide ((x7.length:Int)>16384)) then (([]:List Int),5) else (x7,0)))))))
def tT (s:List Int):List Int:=s
def qp (n_:Int):(List Int):=
 (ae (((8:Int) - 0).toNat+1) (fun (ag1:(Int×List Int)→(List Int)) (p1:Int×List Int)=>(if (decide (p1.1<(8:Int))) then (ag1 ((p1.1+1),(st p1.2 p1.1 (ah .u8 (ar .u64 n_ (56 - (8*p1.1))))))) else p1.2)) (fun _=>default) (0,([(0:Int),(0:Int),(0:Int),(0:Int),(0:Int),(0:Int),(0:Int),(0:Int)]:List Int)))
def ya (x_:Int) (k_:Int):Int:=
 (orI .u32 (ay .u32 x_ (bD .u64 (ah .u64 k_) 31)) (ar .u32 x_ (aA .u64 32 (bD .u64 (ah .u64 k_) 31))))
def gk (x_:Int) (n_:Int):Int:=
 (aa (ya x_ (jB .i64 n_)) (fun (x1:Int)=>x1))
def yb (block:(List Int)):(List Int):=
 (ae (((16:Int) - 0).toNat+1) (fun (ag1:(Int×(List Int))→(List Int)) (p1:Int×(List Int))=>(if (decide (p1.1<16)) then (ae ((((sl block (4*p1.1) ((4*p1.1)+4)).length:Int) - 0).toNat+1) (fun (ag7:(Int×(List Int))→(List Int)) (p7:Int×(List Int))=>(if (decide (p7.1<((sl block (4*p1.1) ((4*p1.1)+4)).length:Int))) then (ag7 ((p7.1+1),(bd 64 (st (bd 64 p7.2) p1.1 (orI .u32 (ay .u32 (gt p7.2 p1.1) 8) (ah .u32 (gt (sl block (4*p1.1) ((4*p1.1)+4)) p7.1))))))) else (ag1 ((p1.1+1),p7.2)))) (fun _=>default) (0,p1.2)) else (ae (((64:Int) - 16).toNat+1) (fun (ag17:(Int×(List Int))→(List Int)) (p17:Int×(List Int))=>(if (decide (p17.1<64)) then (aa (gk (gt p17.2 (p17.1 - 15)) 7) (fun (x26:Int)=>(aa (gk (gt p17.2 (p17.1 - 15)) 18) (fun (x29:Int)=>(aa (gk (gt p17.2 (p17.1 - 2)) 17) (fun (x32:Int)=>(aa (gk (gt p17.2 (p17.1 - 2)) 19) (fun (x35:Int)=>(ag17 ((p17.1+1),(bd 64 (st (bd 64 p17.2) p17.1 (al .u32 (al .u32 (al .u32 (gt p17.2 (p17.1 - 16)) (cv .u32 (cv .u32 x26 x29) (ar .u32 (gt p17.2 (p17.1 - 15)) 3))) (gt p17.2 (p17.1 - 7))) (cv .u32 (cv .u32 x32 x35) (ar .u32 (gt p17.2 (p17.1 - 2)) 10))))))))))))))) else p17.2)) (fun _=>default) (16,p1.2)))) (fun _=>default) (0,[0,0,0,0,0,0,0,0,0,0,0,0,0,0,0,0,0,0,0,0,0,0,0,0,0,0,0,0,0,0,0,0,0,0,0,0,0,0,0,0,0,0,0,0,0,0,0,0,0,0,0,0,0,0,0,0,0,0,0,0,0,0,0,0]))
def yc (state:(List Int)) (block:(List Int)):(List Int):=
 (aa (yb block) (fun (x1:(List Int))=>(ae (((64:Int) - 0).toNat+1) (fun (ag4:(Int×Int×Int×Int×Int×Int×Int×Int×Int)→(List Int)) (p4:Int×Int×Int×Int×Int×Int×Int×Int×Int)=>(if (decide (p4.2.2.2.2.2.2.2.2<64)) then (aa (gk (p4.2.2.2.2.1) 6) (fun (x7:Int)=>(aa (gk (p4.2.2.2.2.1) 11) (fun (x9:Int)=>(aa (gk (p4.2.2.2.2.1) 25) (fun (x11:Int)=>(aa (gk (p4.1) 2) (fun (x16:Int)=>(aa (gk (p4.1) 13) (fun (x19:Int)=>(aa (gk (p4.1) 22) (fun (x22:Int)=>(ag4 ((al .u32 (al .u32 (al .u32 (al .u32 (al .u32 p4.2.2.2.2.2.2.2.1 (cv .u32 (cv .u32 x7 x9) x11)) (cv .u32 (bD .u32 p4.2.2.2.2.1 p4.2.2.2.2.2.1) (bD .u32 (kU .u32 p4.2.2.2.2.1) p4.2.2.2.2.2.2.1))) (gt lA p4.2.2.2.2.2.2.2.2)) (gt x1 p4.2.2.2.2.2.2.2.2)) (al .u32 (cv .u32 (cv .u32 x16 x19) x22) (cv .u32 (cv .u32 (bD .u32 p4.1 p4.2.1) (bD .u32 p4.1 p4.2.2.1)) (bD .u32 p4.2.1 p4.2.2.1)))),p4.1,p4.2.1,p4.2.2.1,(al .u32 p4.2.2.2.1 (al .u32 (al .u32 (al .u32 (al .u32 p4.2.2.2.2.2.2.2.1 (cv .u32 (cv .u32 x7 x9) x11)) (cv .u32 (bD .u32 p4.2.2.2.2.1 p4.2.2.2.2.2.1) (bD .u32 (kU .u32 p4.2.2.2.2.1) p4.2.2.2.2.2.2.1))) (gt lA p4.2.2.2.2.2.2.2.2)) (gt x1 p4.2.2.2.2.2.2.2.2))),p4.2.2.2.2.1,p4.2.2.2.2.2.1,p4.2.2.2.2.2.2.1,(p4.2.2.2.2.2.2.2.2+1))))))))))))))) else (ae (((8:Int) - 0).toNat+1) (fun (ag26:(Int×(List Int))→(List Int)) (p26:Int×(List Int))=>(if (decide (p26.1<8)) then (ag26 ((p26.1+1),(bd 8 (st (bd 8 p26.2) p26.1 (al .u32 (gt p26.2 p26.1) (gt ([p4.1,p4.2.1,p4.2.2.1,p4.2.2.2.1,p4.2.2.2.2.1,p4.2.2.2.2.2.1,p4.2.2.2.2.2.2.1,p4.2.2.2.2.2.2.2.1]:List Int) p26.1)))))) else p26.2)) (fun _=>default) (0,state)))) (fun _=>default) ((gt state 0),(gt state 1),(gt state 2),(gt state 3),(gt state 4),(gt state 5),(gt state 6),(gt state 7),0))))
def tU (b:(List Int)):(List Int):=
 (aa (tT b) (fun (x1:(List Int))=>(ae (((56 - (((x1++([128]:List Int))).length:Int))% 64).toNat+1) (fun (ag5:(List Int)→(List Int)) (p5:List Int)=>(if ((cw .i64 (p5.length:Int) 64) !=56) then (ag5 (p5++([0]:List Int))) else (aa (qp (aS .u64 8 (ah .u64 (b.length:Int)))) (fun (x9:(List Int))=>(ae (((p5++x9)).length+1) (fun (ag13:(List Int×(List Int))→(List Int)) (p13:List Int×(List Int))=>(if (decide ((p13.1.length:Int)>0)) then (aa (yc (p13.2) (sl p13.1 0 64)) (fun (x16:(List Int))=>(ag13 ((sl p13.1 64 (p13.1.length:Int)),x16)))) else (ae (((8:Int) - 0).toNat+1) (fun (ag20:(Int×(List Int))→(List Int)) (p20:Int×(List Int))=>(if (decide (p20.1<8)) then (ae (((4:Int) - 0).toNat+1) (fun (ag24:(Int×(List Int))→(List Int)) (p24:Int×(List Int))=>(if (decide (p24.1<4)) then (ag24 ((p24.1+1),(bd 32 (st (bd 32 p24.2) ((4*p20.1)+p24.1) (ah .u8 (ar .u32 (gt p13.2 p20.1) (24 - (8*p24.1)))))))) else (ag20 ((p20.1+1),p24.2)))) (fun _=>default) (0,p20.2)) else p20.2)) (fun _=>default) (0,[0,0,0,0,0,0,0,0,0,0,0,0,0,0,0,0,0,0,0,0,0,0,0,0,0,0,0,0,0,0,0,0])))) (fun _=>default) ((p5++x9),[1779033703,3144134277,1013904242,2773480762,1359893119,2600822924,528734635,1541459225])))))) (fun _=>default) (x1++([128]:List Int)))))
def gm (tag:(List UInt8)) (b:(List Int)):((List Int)×Int):=
 (if (decide ((tag.length:Int)<1)) then ([0,0,0,0,0,0,0,0,0,0,0,0,0,0,0,0,0,0,0,0,0,0,0,0,0,0,0,0,0,0,0,0],2) else (if (decide ((tag.length:Int)>100)) then ([0,0,0,0,0,0,0,0,0,0,0,0,0,0,0,0,0,0,0,0,0,0,0,0,0,0,0,0,0,0,0,0],2) else (aa (tU (gJ tag)) (fun (x6:(List Int))=>(aa (tT (bd 32 x6)) (fun (x9:(List Int))=>(aa (tU ((x9++(bd 32 x6))++b)) (fun (x12:(List Int))=>(x12,0)))))))))
def tV (a_:Int) (b:Int) (m:Int):(Int×Int):=
 (aa (js a_ b m) (fun (x1:Int)=>(if (x1 !=0) then (0,x1) else ((cw .i64 (al .i64 a_ b) m),0))))
def qq (h_:(List Int)) (m:Int):(Int×Int):=
 (if (decide (m<1)) then (0,1) else (if (decide (m≥2305843009213693952)) then (0,1) else (ae (((16:Int) - 0).toNat+1) (fun (ag6:(Int×Int)→(Int×Int)) (p6:Int×Int)=>(if (decide (p6.2<(16:Int))) then (ae (((8:Int) - 0).toNat+1) (fun (ag10:(Int×Int)→(Int×Int)) (p10:Int×Int)=>(if (decide (p10.2<8)) then (aa (tV (p10.1) (p10.1) m) (fun (x13:(Int×Int))=>(ag10 (x13.1,(p10.2+1))))) else (aa (tV (p10.1) (cw .i64 (ah .i64 (gt ([(gt h_ 0),(gt h_ 1),(gt h_ 2),(gt h_ 3),(gt h_ 4),(gt h_ 5),(gt h_ 6),(gt h_ 7),(gt h_ 8),(gt h_ 9),(gt h_ 10),(gt h_ 11),(gt h_ 12),(gt h_ 13),(gt h_ 14),(gt h_ 15)]:List Int) p6.2)) m) m) (fun (x17:(Int×Int))=>(ag6 (x17.1,(p6.2+1))))))) (fun _=>default) (p6.1,0)) else (p6.1,0))) (fun _=>default) (0,0))))
def yd (b:aY) (pseudonym:Int) (root:(List Int)) (s:gM):(Int×Int):=
 (aa (kw b) (fun (x1:Bool)=>(if (!x1) then (0,1) else (aa (xY b ([pseudonym,s.Z,s.A,s.B]:List Int)) (fun (x7:Bool)=>(if (!x7) then (0,2) else (ae (((7:Int) - 0).toNat+1) (fun (ag13:(Int×List am)→(Int×Int)) (p13:Int×List am)=>(if (decide (p13.1<(7:Int))) then (aa (l9 (gt ([b.Group.P,b.Group.Q,b.Group.G,b.G1,b.G2,b.H,pseudonym]:List Int) p13.1)) (fun (x17:am)=>(ag13 ((p13.1+1),(p13.2++([x17]:List am)))))) else (aa (l9 (s.Z)) (fun (x21:am)=>(aa (l9 (s.A)) (fun (x24:am)=>(aa (l9 (s.B)) (fun (x27:am)=>(aa (gg ({Kind:=3,N:=0,B:=([]:List Int),L:=(p13.2++([({Kind:=2,N:=0,B:=(bd 32 root),L:=([]:List am)}:am),x21,x24,x27]:List am))}:am)) (fun (x30:((List Int)×Int))=>(if (x30.2 !=0) then (0,x30.2) else (aa (gm ([115,112,101,99,105,101,47,99,111,105,110]) (x30.1)) (fun (x37:((List Int)×Int))=>(if (x37.2 !=0) then (0,x37.2) else (aa (qq (x37.1) (b.Group.Q)) (fun (x43:(Int×Int))=>(x43.1,x43.2))))))))))))))))) (fun _=>default) (0,([]:List am)))))))))
def nN (b:aY) (x_:Int) (e_:Int):Int:=
 (aa (iz x_ e_ (b.Group.P)) (fun (x1:(Int×Int))=>x1.1))
def nO (a_:Int) (b:Int) (m:Int):(Int×Int):=
 (aa (js a_ b m) (fun (x1:Int)=>(if (x1 !=0) then (0,x1) else (aa (jt a_ b m) (fun (x8:Int)=>(x8,0))))))
def ye (b:aY) (x_:Int) (y:Int):Int:=
 (aa (nO x_ y (b.Group.P)) (fun (x1:(Int×Int))=>x1.1))
def tW (b:aY) (x_:Int) (e_:Int) (y:Int) (f_:Int):Int:=
 (aa (nN b x_ e_) (fun (x1:Int)=>(aa (nN b y f_) (fun (x3:Int)=>(aa (ye b x1 x3) (fun (x5:Int)=>x5))))))
def qr (b:aY) (k_:gN) (pseudonym:Int) (root:(List Int)) (s:gM):Bool:=
 (aa (nH b k_) (fun (x1:Bool)=>(if (!x1) then false else (aa (ky b pseudonym) (fun (x6:Bool)=>(if (!x6) then false else (aa (xX b (s.R)) (fun (x11:Bool)=>(if (!x11) then false else (aa (yd b pseudonym root s) (fun (x17:(Int×Int))=>(if (x17.2 !=0) then false else (if (x17.1==0) then false else (aa (nN b (b.Group.G) (s.R)) (fun (x25:Int)=>(aa (tW b (k_.H) (x17.1) (s.A) 1) (fun (x27:Int)=>(if (x25==x27) then (aa (nN b pseudonym (s.R)) (fun (x31:Int)=>(aa (tW b (s.Z) (x17.1) (s.B) 1) (fun (x33:Int)=>(x31==x33))))) else false))))))))))))))))))
def qt (b:aY) (r_:bg) (c:bu):Bool:=
 (aa (nI b r_) (fun (x1:Bool)=>(if x1 then (if (c.Bank==r_.Bank) then (if (c.Epoch==r_.Epoch) then (if (c.Denom==r_.Denom) then (if (c.Depth==r_.Depth) then (aa (qr b (r_.Key) (c.A) (c.Root) (c.Sign)) (fun (x13:Bool)=>x13)) else false) else false) else false) else false) else false)))
def nP (depth:Int) (n_:fG):Bool:=
 (if (decide (depth≥0)) then (if (decide (depth≤5)) then (if (decide (n_.Level≥0)) then (if (decide (n_.Level≤depth)) then (if (decide (n_.Index≥0)) then (decide (n_.Index<(ay .i64 1 n_.Level))) else false) else false) else false) else false) else false)
def yf (x_:eH):Bool:=
 (if (decide (x_.Time≥0)) then (if (decide (x_.Time≤1099511627776)) then (if (decide (x_.Number≥0)) then (decide (x_.Number≤1073741824)) else false) else false) else false)
def gn (l:(List Int)):am:=
 (ae (((l.length:Int) - 0).toNat+1) (fun (ag1:(Int×List am)→am) (p1:Int×List am)=>(if (decide (p1.1<(l.length:Int))) then (ag1 ((p1.1+1),(p1.2++([({Kind:=1,N:=(gt l p1.1),B:=([]:List Int),L:=([]:List am)}:am)]:List am)))) else ({Kind:=3,N:=0,B:=([]:List Int),L:=p1.2}:am))) (fun _=>default) (0,([]:List am)))
def jv (w_:ef) (l_:(List Int)):ef:=
 (aa (gn l_) (fun (x1:am)=>({l:=(w_.l++([x1]:List am))}:ef)))
def nQ (s:List Int):List Int:=s
def kA (w_:ef) (b:(List Int)):ef:=
 (aa (nQ b) (fun (x1:(List Int))=>({l:=(w_.l++([({Kind:=2,N:=0,B:=x1,L:=([]:List am)}:am)]:List am))}:ef)))
def mf (c:bu):am:=
 (aa (jv lT ([c.Bank,c.Epoch,c.Denom,c.Depth,c.A]:List Int)) (fun (x1:ef)=>(aa (kA x1 (bd 32 c.Root)) (fun (x5:ef)=>(aa (jv x5 ([c.Sign.Z,c.Sign.A,c.Sign.B,c.Sign.R]:List Int)) (fun (x9:ef)=>({Kind:=3,N:=0,B:=([]:List Int),L:=x9.l}:am)))))))
def tX (c:bu):(List Int):=
 (aa (mf c) (fun (x1:am)=>(aa (gg x1) (fun (x5:((List Int)×Int))=>(aa (gm ([115,112,101,99,105,101,47,99,111,105,110,45,105,116,101,109]) (x5.1)) (fun (x9:((List Int)×Int))=>x9.1))))))
def jw (h_:(List Int)):am:=
 (aa (nQ (bd 32 h_)) (fun (x1:(List Int))=>({Kind:=2,N:=0,B:=x1,L:=([]:List am)}:am)))
def kB (l:(List am)):am:=
 ({Kind:=3,N:=0,B:=([]:List Int),L:=l}:am)
def yg (b:aY) (c:bu) (n_:fG) (x_:eH):Int:=
 (aa (tX c) (fun (x1:(List Int))=>(aa (jw x1) (fun (x3:am)=>(aa (gn ([n_.Level,n_.Index]:List Int)) (fun (x6:am)=>(aa (jw (x_.Payee)) (fun (x9:am)=>(aa (gn ([x_.Time,x_.Number]:List Int)) (fun (x12:am)=>(aa (kB ([x3,x6,x9,x12]:List am)) (fun (x15:am)=>(aa (gg x15) (fun (x18:((List Int)×Int))=>(aa (gm ([115,112,101,99,105,101,47,115,112,101,110,100]) (x18.1)) (fun (x21:((List Int)×Int))=>(aa (qq (x21.1) (b.Group.Q)) (fun (x24:(Int×Int))=>x24.1))))))))))))))))))
def tY (g:aO) (l:(List Int)):Int:=
 (aa (iA g) (fun (x1:Bool)=>(if (!x1) then 1 else (ae (((l.length:Int) - 0).toNat+1) (fun (ag7:Int→Int) (p7:Int)=>(if (decide (p7<(l.length:Int))) then (aa (tO g (gt l p7)) (fun (x11:Bool)=>(if (!x11) then 2 else (ag7 (p7+1))))) else 0)) (fun _=>default) 0))))
def yh (a_:Int) (m:Int):(Int×Int):=
 (aa (js 0 0 m) (fun (x1:Int)=>(if (x1 !=0) then (0,x1) else (if (decide ((cw .i64 a_ m)<0)) then ((al .i64 (cw .i64 a_ m) m),0) else ((cw .i64 a_ m),0)))))
def qu (g:aO) (a_:Int) (e_:Int):(Int×Int):=
 (aa (tY g ([a_]:List Int)) (fun (x1:Int)=>(if (x1 !=0) then (0,x1) else (aa (yh e_ (g.Q)) (fun (x7:(Int×Int))=>(aa (iz a_ (x7.1) (g.P)) (fun (x10:(Int×Int))=>(x10.1,x10.2))))))))
def qv (g:aO) (a_:Int) (b:Int):(Int×Int):=
 (aa (tY g ([a_,b]:List Int)) (fun (x1:Int)=>(if (x1 !=0) then (0,x1) else (aa (nO a_ b (g.P)) (fun (x7:(Int×Int))=>(x7.1,x7.2))))))
def yi (x_:Int) (c0:aO):Bool:=
 (aa (iB c0 x_) (fun (x1:Bool)=>(!x1)))
def yj (s:(List Int)) (f__c0:aO):Int:=
 (ae (((s.length:Int) - 0).toNat+1) (fun (ag1:Int→Int) (p1:Int)=>(if (decide (p1<(s.length:Int))) then (aa (yi (gt s p1) f__c0) (fun (x5:Bool)=>(if x5 then p1 else (ag1 (p1+1))))) else (-1))) (fun _=>default) 0)
def yk (s:(List Int)) (f__c0:aO):Bool:=
 (aa (yj s f__c0) (fun (x1:Int)=>(decide (x1≥0))))
def yl (g:aO) (l:(List Int)):Bool:=
 (aa (yk l g) (fun (x1:Bool)=>(!x1)))
def ym (e_:Int) (c0:aO):Bool:=
 (if (decide (e_<0)) then true else (decide (e_≥c0.Q)))
def yn (s:(List Int)) (f__c0:aO):Int:=
 (ae (((s.length:Int) - 0).toNat+1) (fun (ag1:Int→Int) (p1:Int)=>(if (decide (p1<(s.length:Int))) then (aa (ym (gt s p1) f__c0) (fun (x5:Bool)=>(if x5 then p1 else (ag1 (p1+1))))) else (-1))) (fun _=>default) 0)
def yo (s:(List Int)) (f__c0:aO):Bool:=
 (aa (yn s f__c0) (fun (x1:Int)=>(decide (x1≥0))))
def yp (g:aO) (l:(List Int)):Bool:=
 (aa (yo l g) (fun (x1:Bool)=>(!x1)))
def yq (g:aO) (bases:(List Int)) (exps:(List Int)):(Int×Int):=
 (ae (((bases.length:Int) - 0).toNat+1) (fun (ag1:(Int×Int)→(Int×Int)) (p1:Int×Int)=>(if (decide (p1.2<(bases.length:Int))) then (aa (qu g (gt bases p1.2) (gt exps p1.2)) (fun (x6:(Int×Int))=>(if (x6.2 !=0) then (0,x6.2) else (aa (qv g (p1.1) (x6.1)) (fun (x11:(Int×Int))=>(if (x11.2 !=0) then (0,x11.2) else (ag1 (x11.1,(p1.2+1))))))))) else (p1.1,0))) (fun _=>default) (1,0))
def yr (g:aO) (bases:(List Int)) (exps:(List Int)):(Int×Int):=
 (aa (iA g) (fun (x1:Bool)=>(if (!x1) then (0,1) else (if ((bases.length:Int) !=(exps.length:Int)) then (0,1) else (if (decide ((bases.length:Int)>100)) then (0,5) else (aa (yl g bases) (fun (x12:Bool)=>(if (!x12) then (0,2) else (aa (yp g exps) (fun (x17:Bool)=>(if (!x17) then (0,2) else (aa (yq g bases exps) (fun (x23:(Int×Int))=>(x23.1,x23.2))))))))))))))
def yt (g:aO) (y:Int) (bases:(List Int)) (exps:(List Int)):Bool:=
 (aa (yr g bases exps) (fun (x1:(Int×Int))=>(if (x1.2==0) then (x1.1==y) else false)))
def yu (b:aY) (a_:Int) (k_:Int) (l:dO):Bool:=
 (aa (iB (b.Group) (l.B)) (fun (x1:Bool)=>(if (!x1) then false else (aa (qu (b.Group) a_ k_) (fun (x7:(Int×Int))=>(if (x7.2 !=0) then false else (aa (qv (b.Group) (x7.1) (l.B)) (fun (x13:(Int×Int))=>(if (x13.2==0) then (aa (yt (b.Group) (x13.1) ([b.G1,b.G2]:List Int) ([l.R1,l.R2]:List Int)) (fun (x18:Bool)=>x18)) else false)))))))))
def yw (d_:Int) (c0:Int):Bool:=
 (c0==(ay .i64 1 d_))
def yx (s:(List Int)) (f__c0:Int):Int:=
 (ae (((s.length:Int) - 0).toNat+1) (fun (ag1:Int→Int) (p1:Int)=>(if (decide (p1<(s.length:Int))) then (aa (yw (gt s p1) f__c0) (fun (x5:Bool)=>(if x5 then p1 else (ag1 (p1+1))))) else (-1))) (fun _=>default) 0)
def yy (s:(List Int)) (f__c0:Int):Bool:=
 (aa (yx s f__c0) (fun (x1:Int)=>(decide (x1≥0))))
def yz (n_:Int):Bool:=
 (aa (yy ([0,1,2,3,4,5]:List Int) n_) (fun (x1:Bool)=>x1))
def yA (b:(List Int)):((List Int)×Int):=
 (if (decide ((b.length:Int)>16384)) then ([0,0,0,0,0,0,0,0,0,0,0,0,0,0,0,0,0,0,0,0,0,0,0,0,0,0,0,0,0,0,0,0],5) else (aa (gm ([115,112,101,99,105,101,47,108,101,97,102]) b) (fun (x4:((List Int)×Int))=>(x4.1,x4.2))))
def yB (b:aY) (l:(List Int)):((List (List Int))×Int):=
 (aa (kw b) (fun (x1:Bool)=>(if (!x1) then (([]:List (List Int)),1) else (aa (yz (l.length:Int)) (fun (x6:Bool)=>(if (!x6) then (([]:List (List Int)),1) else (ae (((l.length:Int) - 0).toNat+1) (fun (ag12:(Int×List (List Int))→((List (List Int))×Int)) (p12:Int×List (List Int))=>(if (decide (p12.1<(l.length:Int))) then (aa (iB (b.Group) (gt l p12.1)) (fun (x16:Bool)=>(if (!x16) then (([]:List (List Int)),2) else (aa (gg ({Kind:=1,N:=(gt l p12.1),B:=([]:List Int),L:=([]:List am)}:am)) (fun (x22:((List Int)×Int))=>(aa (yA (x22.1)) (fun (x26:((List Int)×Int))=>(ag12 ((p12.1+1),(p12.2++([x26.1]:List (List Int)))))))))))) else (p12.2,0))) (fun _=>default) (0,([]:List (List Int))))))))))
def kC (n_:Int):(Int×Int):=
 (ae (((11:Int) - 0).toNat+1) (fun (ag1:Int→(Int×Int)) (p1:Int)=>(if (decide (p1<11)) then (if (n_==(ay .i64 1 p1)) then (p1,0) else (ag1 (p1+1))) else (0,1))) (fun _=>default) 0)
def tZ (s:List Int) (_:Int):List Int:=s
def nR (slices:(List (List Int))):(List Int):=
 (ae (((slices.length:Int) - 0).toNat+1) (fun (ag1:(Int×Int)→(List Int)) (p1:Int×Int)=>(if (decide (p1.2<(slices.length:Int))) then (if (decide ((p1.1+((gt slices p1.2).length:Int))<0)) then (default:(List Int)) else (ag1 ((p1.1+((gt slices p1.2).length:Int)),(p1.2+1)))) else (aa (tZ ([]:List Int) (p1.1)) (fun (x10:(List Int))=>(ae (((slices.length:Int) - 0).toNat+1) (fun (ag14:(Int×List Int)→(List Int)) (p14:Int×List Int)=>(if (decide (p14.1<(slices.length:Int))) then (ag14 ((p14.1+1),(p14.2++(gt slices p14.1)))) else p14.2)) (fun _=>default) (0,x10)))))) (fun _=>default) (0,0))
def jx (l:(List Int)) (r_:(List Int)):(List Int):=
 (aa (nR ([(bd 32 l),(bd 32 r_)]:List (List Int))) (fun (x1:(List Int))=>(aa (gm ([115,112,101,99,105,101,47,110,111,100,101]) x1) (fun (x4:((List Int)×Int))=>x4.1))))
def mg (s:(List (List (List Int)))):(List (List (List Int))):=
 (ae ((((s.length:Int) - 1) - 0).toNat+1) (fun (ag2:(Int×Int×List (List (List Int)))→(List (List (List Int)))) (p2:Int×Int×List (List (List Int)))=>(if (decide (p2.1<p2.2.1)) then (ag2 ((p2.1+1),(p2.2.1 - 1),(st (st p2.2.2 p2.1 (gt p2.2.2 p2.2.1)) p2.2.1 (gt p2.2.2 p2.1)))) else p2.2.2)) (fun _=>default) (0,((s.length:Int) - 1),s))
def qw (l:(List (List Int))):(List (List (List Int))):=
 (ae ((l).length+1) (fun (ag1:(List (List Int)×List (List (List Int)))→(List (List (List Int)))) (p1:List (List Int)×List (List (List Int)))=>(if (decide ((p1.1.length:Int)>1)) then (eD (cE p1.1) (fun (ag5:(List (List Int))→(List (List (List Int)))) (y5:List (List Int)) (p5:List (List Int))=>(aa (jx (gt y5 0) (gt y5 1)) (fun (x8:(List Int))=>(ag5 (p5++([x8]:List (List Int))))))) (fun (p5:List (List Int))=>(ag1 (p5,(p1.2++([p5]:List (List (List Int))))))) ([]:List (List Int))) else (aa (mg (p1.2)) (fun (x11:(List (List (List Int))))=>x11)))) (fun _=>default) (l,([l]:List (List (List Int)))))
def qx (l:(List (List Int))) (level:Int) (index:Int):((List (List (List Int)))×Int):=
 (aa (kC (l.length:Int)) (fun (x1:(Int×Int))=>(if (x1.2 !=0) then (([]:List (List (List Int))),x1.2) else (if (decide (level<0)) then (([]:List (List (List Int))),2) else (if (decide (level>x1.1)) then (([]:List (List (List Int))),2) else (if (decide (index<0)) then (([]:List (List (List Int))),2) else (if (decide (index≥(ay .i64 1 level))) then (([]:List (List (List Int))),2) else (aa (qw l) (fun (x16:(List (List (List Int))))=>(x16,0))))))))))
def yC (l:(List (List Int))) (level:Int) (index:Int):((List Int)×Int):=
 (aa (qx l level index) (fun (x1:((List (List (List Int)))×Int))=>(if (x1.2 !=0) then ([0,0,0,0,0,0,0,0,0,0,0,0,0,0,0,0,0,0,0,0,0,0,0,0,0,0,0,0,0,0,0,0],x1.2) else ((gt (gt x1.1 level) index),0))))
def yD (l:(List (List Int))):((List Int)×Int):=
 (aa (yC l 0 0) (fun (x1:((List Int)×Int))=>(x1.1,x1.2)))
def yE (h_:(List Int)) (level:Int) (p_:eI):((List Int)×Int):=
 (if (decide (level<0)) then ([0,0,0,0,0,0,0,0,0,0,0,0,0,0,0,0,0,0,0,0,0,0,0,0,0,0,0,0,0,0,0,0],2) else (if (decide (level>10)) then ([0,0,0,0,0,0,0,0,0,0,0,0,0,0,0,0,0,0,0,0,0,0,0,0,0,0,0,0,0,0,0,0],2) else (if (decide (p_.Index<0)) then ([0,0,0,0,0,0,0,0,0,0,0,0,0,0,0,0,0,0,0,0,0,0,0,0,0,0,0,0,0,0,0,0],2) else (if (decide (p_.Index≥(ay .i64 1 level))) then ([0,0,0,0,0,0,0,0,0,0,0,0,0,0,0,0,0,0,0,0,0,0,0,0,0,0,0,0,0,0,0,0],2) else (if ((p_.L.length:Int) !=level) then ([0,0,0,0,0,0,0,0,0,0,0,0,0,0,0,0,0,0,0,0,0,0,0,0,0,0,0,0,0,0,0,0],3) else (ae (((p_.L.length:Int) - 0).toNat+1) (fun (ag13:(Int×Int×(List Int))→((List Int)×Int)) (p13:Int×Int×(List Int))=>(if (decide (p13.2.1<(p_.L.length:Int))) then (if ((cw .i64 p13.1 2)==0) then (aa (jx (p13.2.2) (gt p_.L p13.2.1)) (fun (x19:(List Int))=>(ag13 ((cm .i64 p13.1 2),(p13.2.1+1),x19)))) else (aa (jx (gt p_.L p13.2.1) (p13.2.2)) (fun (x23:(List Int))=>(ag13 ((cm .i64 p13.1 2),(p13.2.1+1),x23))))) else (p13.2.2,0))) (fun _=>default) (p_.Index,0,h_)))))))
def yF (root:(List Int)) (h_:(List Int)) (level:Int) (p_:eI):Bool:=
 (aa (yE h_ level p_) (fun (x1:((List Int)×Int))=>(if (x1.2==0) then (eJ (x1.1) root) else false)))
def mh (b:aY) (r_:bg) (s:au):Bool:=
 (aa (qt b r_ (s.Coin)) (fun (x1:Bool)=>(if (!x1) then false else (aa (nP (s.Coin.Depth) (s.Node)) (fun (x5:Bool)=>(if (!x5) then false else (aa (yf (s.Context)) (fun (x10:Bool)=>(if (!x10) then false else (if ((s.Leaves.length:Int) !=(ay .i64 1 (s.Coin.Depth - s.Node.Level))) then false else (if (s.Path.Index !=s.Node.Index) then false else (aa (yg b (s.Coin) (s.Node) (s.Context)) (fun (x20:Int)=>(ae (((s.Leaves.length:Int) - 0).toNat+1) (fun (ag23:(Int×List Int)→Bool) (p23:Int×List Int)=>(if (decide (p23.1<(s.Leaves.length:Int))) then (aa (yu b (s.Coin.A) x20 (gt s.Leaves p23.1)) (fun (x27:Bool)=>(if (!x27) then false else (aa (gd (p23.2) ((gt s.Leaves p23.1).B)) (fun (x32:Bool)=>(if x32 then false else (ag23 ((p23.1+1),(p23.2++([(gt s.Leaves p23.1).B]:List Int)))))))))) else (aa (yB b (p23.2)) (fun (x38:((List (List Int))×Int))=>(if (x38.2 !=0) then false else (aa (yD (x38.1)) (fun (x44:((List Int)×Int))=>(if (x44.2==0) then (aa (yF (s.Coin.Root) (x44.1) (s.Node.Level) (s.Path)) (fun (x49:Bool)=>x49)) else false)))))))) (fun _=>default) (0,([]:List Int))))))))))))))))
def go (h_:bh):(List au):=
 (([h_.First]:List au)++h_.L)
def t6 (l:(List bg)) (c:bu):(bg×Bool):=
 (aa (nL l (c.Bank) (c.Epoch) (c.Denom)) (fun (x1:Int)=>(if (decide (x1<0)) then (fX,false) else ((gt l x1),true))))
def nS (s:au):am:=
 (ae (((s.Leaves.length:Int) - 0).toNat+1) (fun (ag1:(Int×List Int)→am) (p1:Int×List Int)=>(if (decide (p1.1<(s.Leaves.length:Int))) then (ag1 ((p1.1+1),(p1.2++([(gt s.Leaves p1.1).B,(gt s.Leaves p1.1).R1,(gt s.Leaves p1.1).R2]:List Int)))) else (ae (((s.Path.L.length:Int) - 0).toNat+1) (fun (ag6:(Int×List am)→am) (p6:Int×List am)=>(if (decide (p6.1<(s.Path.L.length:Int))) then (aa (jw (gt s.Path.L p6.1)) (fun (x10:am)=>(ag6 ((p6.1+1),(p6.2++([x10]:List am)))))) else (aa (mf (s.Coin)) (fun (x14:am)=>(aa (gn ([s.Node.Level,s.Node.Index]:List Int)) (fun (x16:am)=>(aa (jw (s.Context.Payee)) (fun (x18:am)=>(aa (gn ([s.Context.Time,s.Context.Number]:List Int)) (fun (x20:am)=>(aa (gn (p1.2)) (fun (x22:am)=>(aa (kB (p6.2)) (fun (x24:am)=>(aa (kB ([x14,x16,x18,x20,x22,x24]:List am)) (fun (x27:am)=>x27)))))))))))))))) (fun _=>default) (0,([({Kind:=1,N:=s.Path.Index,B:=([]:List Int),L:=([]:List am)}:am)]:List am))))) (fun _=>default) (0,([]:List Int)))
def yG (s:au):(List Int):=
 (aa (nS s) (fun (x1:am)=>(aa (gg x1) (fun (x5:((List Int)×Int))=>(if (x5.2 !=0) then [0,0,0,0,0,0,0,0,0,0,0,0,0,0,0,0,0,0,0,0,0,0,0,0,0,0,0,0,0,0,0,0] else (aa (gm ([115,112,101,99,105,101,47,115,112,101,110,100,45,105,116,101,109]) (x5.1)) (fun (x12:((List Int)×Int))=>x12.1)))))))
def t7 (tag:(List UInt8)) (l:(List (List Int))):(List Int):=
 (ae (((l.length:Int) - 0).toNat+1) (fun (ag1:(Int×List am)→(List Int)) (p1:Int×List am)=>(if (decide (p1.1<(l.length:Int))) then (aa (nQ (bd 32 (gt l p1.1))) (fun (x5:(List Int))=>(ag1 ((p1.1+1),(p1.2++([({Kind:=2,N:=0,B:=x5,L:=([]:List am)}:am)]:List am)))))) else (aa (gg ({Kind:=3,N:=0,B:=([]:List Int),L:=p1.2}:am)) (fun (x9:((List Int)×Int))=>(aa (gm tag (x9.1)) (fun (x13:((List Int)×Int))=>x13.1)))))) (fun _=>default) (0,([]:List am)))
def yH (l:(List au)):(List Int):=
 (if ((l.length:Int)==0) then [0,0,0,0,0,0,0,0,0,0,0,0,0,0,0,0,0,0,0,0,0,0,0,0,0,0,0,0,0,0,0,0] else (ae (((l.length:Int) - 0).toNat+1) (fun (ag4:(Int×List (List Int))→(List Int)) (p4:Int×List (List Int))=>(if (decide (p4.1<(l.length:Int))) then (aa (yG (gt l p4.1)) (fun (x8:(List Int))=>(ag4 ((p4.1+1),(p4.2++([x8]:List (List Int))))))) else (aa (t7 ([115,112,101,99,105,101,47,99,104,97,105,110]) (p4.2)) (fun (x12:(List Int))=>x12)))) (fun _=>default) (0,([]:List (List Int)))))
def yI (c:bu) (before:(List Int)):(List Int):=
 (aa (tX c) (fun (x1:(List Int))=>(aa (t7 ([115,112,101,99,105,101,47,99,104,97,105,110,45,110,101,120,116]) ([x1,before]:List (List Int))) (fun (x3:(List Int))=>x3))))
def nT (l:(List au)) (next:bu):Bool:=
 (if ((gt l ((l.length:Int) - 1)).Context.Number==((l.length:Int) - 1)) then (aa (yH (sl l 0 ((l.length:Int) - 1))) (fun (x5:(List Int))=>(aa (yI next x5) (fun (x7:(List Int))=>(eJ ((gt l ((l.length:Int) - 1)).Context.Payee) x7))))) else false)
def mi (b:aY) (l:(List bg)) (h_:bh):Bool:=
 (aa (kw b) (fun (x1:Bool)=>(if (!x1) then false else (if (decide ((h_.L.length:Int)>8)) then false else (aa (go h_) (fun (x9:(List au))=>(ae (((x9.length:Int) - 0).toNat+1) (fun (ag13:Int→Bool) (p13:Int)=>(if (decide (p13<(x9.length:Int))) then (aa (t6 l ((gt x9 p13).Coin)) (fun (x17:(bg×Bool))=>(if (!x17.2) then false else (aa (mh b (x17.1) (gt x9 p13)) (fun (x22:Bool)=>(if (!x22) then false else (if (p13==0) then (if (decide (x17.1.Value≤0)) then false else (if (decide (p13>0)) then (if (x17.1.Value !=0) then false else (if (x17.1.Depth !=0) then false else (if (decide (p13>0)) then (aa (nT (sl x9 0 p13) ((gt x9 p13).Coin)) (fun (x39:Bool)=>(if (!x39) then false else (if (decide ((gt x9 p13).Context.Time<(gt x9 (p13 - 1)).Context.Time)) then false else (ag13 (p13+1)))))) else (ag13 (p13+1))))) else (if (decide (p13>0)) then (aa (nT (sl x9 0 p13) ((gt x9 p13).Coin)) (fun (x51:Bool)=>(if (!x51) then false else (if (decide ((gt x9 p13).Context.Time<(gt x9 (p13 - 1)).Context.Time)) then false else (ag13 (p13+1)))))) else (ag13 (p13+1))))) else (if (decide (p13>0)) then (if (x17.1.Value !=0) then false else (if (x17.1.Depth !=0) then false else (if (decide (p13>0)) then (aa (nT (sl x9 0 p13) ((gt x9 p13).Coin)) (fun (x70:Bool)=>(if (!x70) then false else (if (decide ((gt x9 p13).Context.Time<(gt x9 (p13 - 1)).Context.Time)) then false else (ag13 (p13+1)))))) else (ag13 (p13+1))))) else (if (decide (p13>0)) then (aa (nT (sl x9 0 p13) ((gt x9 p13).Coin)) (fun (x82:Bool)=>(if (!x82) then false else (if (decide ((gt x9 p13).Context.Time<(gt x9 (p13 - 1)).Context.Time)) then false else (ag13 (p13+1)))))) else (ag13 (p13+1))))))))))) else true)) (fun _=>default) 0)))))))
def kD (k_:cj):Bool:=
 (ae (((k_.p.Spends.length:Int) - 0).toNat+1) (fun (ag1:Int→Bool) (p1:Int)=>(if (decide (p1<(k_.p.Spends.length:Int))) then (aa (l8 k_ ((gt k_.p.Spends p1).Coin)) (fun (x5:(bg×Bool))=>(aa (mh (k_.b) (x5.1) (gt k_.p.Spends p1)) (fun (x8:Bool)=>(if (!x8) then false else (ag1 (p1+1))))))) else (ae (((k_.p.Chains.length:Int) - 0).toNat+1) (fun (ag15:Int→Bool) (p15:Int)=>(if (decide (p15<(k_.p.Chains.length:Int))) then (aa (mi (k_.b) (k_.l) (gt k_.p.Chains p15)) (fun (x19:Bool)=>(if (!x19) then false else (ag15 (p15+1))))) else true)) (fun _=>default) 0))) (fun _=>default) 0)
def t8 (h_:bh):au:=
 (if (decide ((h_.L.length:Int)>0)) then (gt h_.L ((h_.L.length:Int) - 1)) else h_.First)
def nU (k_:cj):(List au):=
 (ae (((k_.p.Chains.length:Int) - 0).toNat+1) (fun (ag1:(Int×List au)→(List au)) (p1:Int×List au)=>(if (decide (p1.1<(k_.p.Chains.length:Int))) then (aa (t8 (gt k_.p.Chains p1.1)) (fun (x5:au)=>(ag1 ((p1.1+1),(p1.2++([x5]:List au)))))) else p1.2)) (fun _=>default) (0,(([]:List au)++k_.p.Spends)))
def t_ (k_:cj):Bool:=
 (aa (pW (k_.v)) (fun (x1:(eH×Int))=>(aa (nU k_) (fun (x4:(List au))=>(ae (((x4.length:Int) - 0).toNat+1) (fun (ag8:Int→Bool) (p8:Int)=>(if (decide (p8<(x4.length:Int))) then (if (!(jq ((gt x4 p8).Context) (x1.1))) then false else (ag8 (p8+1))) else true)) (fun _=>default) 0)))))
def yJ (r_:bg) (now:Int):Bool:=
 (if (decide (r_.From≤now)) then (decide (now<r_.Final)) else false)
def ua (k_:cj):Bool:=
 (aa (nK k_) (fun (x1:(List bu))=>(ae (((x1.length:Int) - 0).toNat+1) (fun (ag5:Int→Bool) (p5:Int)=>(if (decide (p5<(x1.length:Int))) then (aa (l8 k_ (gt x1 p5)) (fun (x9:(bg×Bool))=>(aa (yJ (x9.1) (k_.v.Time)) (fun (x12:Bool)=>(if (!x12) then false else (ag5 (p5+1))))))) else true)) (fun _=>default) 0)))
def nV (p_:aK):(List de):=
 (aa (kz p_) (fun (x1:(List au))=>(ae (((x1.length:Int) - 0).toNat+1) (fun (ag5:(Int×List de)→(List de)) (p5:Int×List de)=>(if (decide (p5.1<(x1.length:Int))) then (ae ((((gt x1 p5.1).Leaves.length:Int) - 0).toNat+1) (fun (ag9:(Int×List de)→(List de)) (p9:Int×List de)=>(if (decide (p9.1<((gt x1 p5.1).Leaves.length:Int))) then (ag9 ((p9.1+1),(p9.2++([({A:=(gt x1 p5.1).Coin.A,B:=(gt (gt x1 p5.1).Leaves p9.1).B,Spend:=(gt x1 p5.1),Leaf:=p9.1}:de)]:List de)))) else (ag5 ((p5.1+1),p9.2)))) (fun _=>default) (0,p5.2)) else p5.2)) (fun _=>default) (0,([]:List de)))))
def uc (k_:cj):Bool:=
 (aa (nV (k_.p)) (fun (x1:(List de))=>(ae (((x1.length:Int) - 0).toNat+1) (fun (ag5:(Int×List (List Int))→Bool) (p5:Int×List (List Int))=>(if (decide (p5.1<(x1.length:Int))) then (if (List.contains p5.2 [(gt x1 p5.1).A,(gt x1 p5.1).B]) then false else (ag5 ((p5.1+1),(gY p5.2 [(gt x1 p5.1).A,(gt x1 p5.1).B])))) else true)) (fun _=>default) (0,([]:List (List Int))))))
def nW (n_:Int):am:=
 ({Kind:=1,N:=n_,B:=([]:List Int),L:=([]:List am)}:am)
def qy (v:aN):((List Int)×Int):=
 (aa (lZ v) (fun (x1:Bool)=>(if (!x1) then (([]:List Int),1) else (aa (nW (v.Amount)) (fun (x7:am)=>(aa (nW (v.Time)) (fun (x10:am)=>(aa (nW (v.Number)) (fun (x13:am)=>(aa (gg ({Kind:=3,N:=0,B:=([]:List Int),L:=([({Kind:=2,N:=0,B:=(bd 32 v.Payee),L:=([]:List am)}:am),x7,x10,x13]:List am)}:am)) (fun (x16:((List Int)×Int))=>(x16.1,x16.2))))))))))))
def yK (v:aN):((List UInt8)×Int):=
 (aa (qy v) (fun (x1:((List Int)×Int))=>(if (x1.2 !=0) then ([],x1.2) else (aa (gm ([115,112,101,99,105,101,47,105,110,118,111,105,99,101]) (x1.1)) (fun (x8:((List Int)×Int))=>(if (x8.2 !=0) then ([],x8.2) else (aa (pQ (x8.1)) (fun (x14:(List UInt8))=>(([112,97,121,58]++((x14.drop (0:Int).toNat).take ((16:Int).toNat - (0:Int).toNat))),0)))))))))
def ud (b:aY) (x_:Int):Bool:=
 (if (x_ !=1) then (aa (iB (b.Group) x_) (fun (x3:Bool)=>x3)) else false)
def yL (b:aY) (x_:Int) (y:Int):Int:=
 (aa (qv (b.Group) x_ y) (fun (x1:(Int×Int))=>x1.1))
def ue (b:aY) (x_:Int) (e_:Int):Int:=
 (aa (qu (b.Group) x_ e_) (fun (x1:(Int×Int))=>x1.1))
def yM (b:aY) (y:Int) (pseudonym:Int) (x_:bZ):cC:=
 (aa (yL b (x_.E2) (b.G2)) (fun (x1:Int)=>(aa (ue b y (-1)) (fun (x3:Int)=>(aa (ue b (b.Group.G) (-1)) (fun (x5:Int)=>({Y:=([pseudonym,1]:List Int),Bases:=([([x1,x3]:List Int),([x_.E1,x5]:List Int)]:List (List Int))}:cC)))))))
def yN (b:aY) (y:Int) (pseudonym:Int) (x_:bZ):(cC×Int):=
 (aa (kw b) (fun (x1:Bool)=>(if (!x1) then (kb,1) else (aa (ud b y) (fun (x7:Bool)=>(if (!x7) then (kb,2) else (aa (ud b pseudonym) (fun (x12:Bool)=>(if (!x12) then (kb,2) else (aa (iB (b.Group) (x_.E1)) (fun (x17:Bool)=>(if (!x17) then (kb,2) else (aa (iB (b.Group) (x_.E2)) (fun (x22:Bool)=>(if (!x22) then (kb,2) else (aa (yM b y pseudonym x_) (fun (x28:cC)=>(x28,0))))))))))))))))))
def yO (g:aO) (x_:Int):Bool:=
 (if (decide (x_<1)) then false else (if (decide (x_≥g.P)) then false else (aa (iz x_ (g.Q) (g.P)) (fun (x6:(Int×Int))=>(if (x6.2==0) then (x6.1==1) else false)))))
def yP (x_:Int) (c0:aO):Bool:=
 (aa (yO c0 x_) (fun (x1:Bool)=>(!x1)))
def yQ (s:(List Int)) (f__c0:aO):Int:=
 (ae (((s.length:Int) - 0).toNat+1) (fun (ag1:Int→Int) (p1:Int)=>(if (decide (p1<(s.length:Int))) then (aa (yP (gt s p1) f__c0) (fun (x5:Bool)=>(if x5 then p1 else (ag1 (p1+1))))) else (-1))) (fun _=>default) 0)
def yR (s:(List Int)) (f__c0:aO):Bool:=
 (aa (yQ s f__c0) (fun (x1:Int)=>(decide (x1≥0))))
def uf (g:aO) (l:(List Int)):Bool:=
 (aa (yR l g) (fun (x1:Bool)=>(!x1)))
def qz (row:(List Int)) (c0:Int) (c1:aO):Bool:=
 (if ((row.length:Int) !=c0) then true else (aa (uf c1 row) (fun (x3:Bool)=>(!x3))))
def nX (s:(List (List Int))) (f__c0:Int) (f__c1:aO):Int:=
 (ae (((s.length:Int) - 0).toNat+1) (fun (ag1:Int→Int) (p1:Int)=>(if (decide (p1<(s.length:Int))) then (aa (qz (gt s p1) f__c0 f__c1) (fun (x5:Bool)=>(if x5 then p1 else (ag1 (p1+1))))) else (-1))) (fun _=>default) 0)
def qA (s:(List (List Int))) (f__c0:Int) (f__c1:aO):Bool:=
 (aa (nX s f__c0 f__c1) (fun (x1:Int)=>(decide (x1≥0))))
def mj (g:aO) (r_:cC):Bool:=
 (aa (iA g) (fun (x1:Bool)=>(if (!x1) then false else (if (decide ((r_.Y.length:Int)<1)) then false else (if (decide ((r_.Y.length:Int)>8)) then false else (if ((r_.Bases.length:Int) !=(r_.Y.length:Int)) then false else (aa (uf g (r_.Y)) (fun (x12:Bool)=>(if (!x12) then false else (if (decide (((gt r_.Bases 0).length:Int)<1)) then false else (if (decide (((gt r_.Bases 0).length:Int)>12)) then false else (aa (qA (r_.Bases) ((gt r_.Bases 0).length:Int) g) (fun (x24:Bool)=>(!x24))))))))))))))
def gR (r_:cC):Int:=
 ((gt r_.Bases 0).length:Int)
def yS (x_:Int) (c0:aO):Bool:=
 (if (decide (x_<0)) then true else (decide (x_≥c0.Q)))
def yT (s:(List Int)) (f__c0:aO):Int:=
 (ae (((s.length:Int) - 0).toNat+1) (fun (ag1:Int→Int) (p1:Int)=>(if (decide (p1<(s.length:Int))) then (aa (yS (gt s p1) f__c0) (fun (x5:Bool)=>(if x5 then p1 else (ag1 (p1+1))))) else (-1))) (fun _=>default) 0)
def yU (s:(List Int)) (f__c0:aO):Bool:=
 (aa (yT s f__c0) (fun (x1:Int)=>(decide (x1≥0))))
def ug (g:aO) (l:(List Int)):Bool:=
 (aa (yU l g) (fun (x1:Bool)=>(!x1)))
def uh (g:aO) (start:Int) (bases:(List Int)) (exps:(List Int)):Int:=
 (ae (((bases.length:Int) - 0).toNat+1) (fun (ag1:(Int×Int)→Int) (p1:Int×Int)=>(if (decide (p1.2<(bases.length:Int))) then (aa (iz (gt bases p1.2) (gt exps p1.2) (g.P)) (fun (x6:(Int×Int))=>(aa (nO (p1.1) (x6.1) (g.P)) (fun (x8:(Int×Int))=>(ag1 (x8.1,(p1.2+1))))))) else p1.1)) (fun _=>default) (start,0))
def qB (g:aO) (rows:(List (List Int))) (exps:(List Int)):(List Int):=
 (ae (((rows.length:Int) - 0).toNat+1) (fun (ag1:(Int×List Int)→(List Int)) (p1:Int×List Int)=>(if (decide (p1.1<(rows.length:Int))) then (aa (uh g 1 (gt rows p1.1) exps) (fun (x5:Int)=>(ag1 ((p1.1+1),(p1.2++([x5]:List Int)))))) else p1.2)) (fun _=>default) (0,([]:List Int)))
def yV (g:aO) (r_:cC) (c:Int) (z_:(List Int)):(List Int):=
 (aa (qB g (r_.Bases) z_) (fun (x1:(List Int))=>(ae (((r_.Y.length:Int) - 0).toNat+1) (fun (ag5:(Int×List Int)→(List Int)) (p5:Int×List Int)=>(if (decide (p5.1<(r_.Y.length:Int))) then (aa (iz (gt r_.Y p5.1) (cw .i64 (aA .i64 g.Q c) g.Q) (g.P)) (fun (x9:(Int×Int))=>(aa (nO (gt p5.2 p5.1) (x9.1) (g.P)) (fun (x12:(Int×Int))=>(ag5 ((p5.1+1),(st p5.2 p5.1 x12.1))))))) else p5.2)) (fun _=>default) (0,x1))))
def yW (s1:(List Int)) (s2:(List Int)):Bool:=
 (if ((s1.length:Int) !=(s2.length:Int)) then false else (ae (((s1.length:Int) - 0).toNat+1) (fun (ag4:Int→Bool) (p4:Int)=>(if (decide (p4<(s1.length:Int))) then (if ((gt s1 p4) !=(gt s2 p4)) then false else (ag4 (p4+1))) else true)) (fun _=>default) 0))
def nY (g:aO) (r_:cC) (p_:dP):Bool:=
 (aa (mj g r_) (fun (x1:Bool)=>(if (!x1) then false else (if ((p_.A.length:Int) !=(r_.Y.length:Int)) then false else (aa (gR r_) (fun (x8:Int)=>(if ((p_.Z.length:Int) !=x8) then false else (aa (ug g ([p_.C]:List Int)) (fun (x12:Bool)=>(if (!x12) then false else (aa (ug g (p_.Z)) (fun (x16:Bool)=>(if (!x16) then false else (aa (yV g r_ (p_.C) (p_.Z)) (fun (x22:(List Int))=>(aa (yW x22 (p_.A)) (fun (x24:Bool)=>x24)))))))))))))))))
def yX (c:Int):Bool:=
 (if (decide (c<33)) then true else (decide (c>126)))
def yY (s:(List Int)):Int:=
 (ae (((s.length:Int) - 0).toNat+1) (fun (ag1:Int→Int) (p1:Int)=>(if (decide (p1<(s.length:Int))) then (aa (yX (gt s p1)) (fun (x5:Bool)=>(if x5 then p1 else (ag1 (p1+1))))) else (-1))) (fun _=>default) 0)
def yZ (s:(List Int)):Bool:=
 (aa (yY s) (fun (x1:Int)=>(decide (x1≥0))))
def ml (label:(List UInt8)):Bool:=
 (if (decide ((label.length:Int)≥1)) then (if (decide ((label.length:Int)≤24)) then (aa (yZ (gJ label)) (fun (x5:Bool)=>(!x5))) else false) else false)
def y6 (label:(List UInt8)):(cf×Int):=
 (aa (ml label) (fun (x1:Bool)=>(if (!x1) then (eg,1) else (aa (gm ([115,112,101,99,105,101,47,116,114,97,110,115,99,114,105,112,116]) (gJ label)) (fun (x8:((List Int)×Int))=>(({State:=x8.1,Count:=0}:cf),x8.2))))))
def uk (t:cf):Bool:=
 (if (decide (t.Count≥0)) then (decide (t.Count≤1000)) else false)
def ul (tag:(List UInt8)) (t:cf) (label:(List UInt8)) (more:(List am)):((List Int)×Int):=
 (aa (gg ({Kind:=3,N:=0,B:=([]:List Int),L:=(([({Kind:=2,N:=0,B:=(bd 32 t.State),L:=([]:List am)}:am),({Kind:=2,N:=0,B:=(gJ label),L:=([]:List am)}:am)]:List am)++more)}:am)) (fun (x1:((List Int)×Int))=>(if (x1.2 !=0) then ([0,0,0,0,0,0,0,0,0,0,0,0,0,0,0,0,0,0,0,0,0,0,0,0,0,0,0,0,0,0,0,0],x1.2) else (aa (gm tag (x1.1)) (fun (x8:((List Int)×Int))=>(x8.1,x8.2))))))
def um (t:cf) (label:(List UInt8)) (i_:am):(cf×Int):=
 (aa (uk t) (fun (x1:Bool)=>(if (!x1) then (eg,1) else (aa (ml label) (fun (x6:Bool)=>(if (!x6) then (eg,1) else (aa (ul ([115,112,101,99,105,101,47,97,98,115,111,114,98]) t label ([i_]:List am)) (fun (x13:((List Int)×Int))=>(if (x13.2==1) then (eg,1) else (if (x13.2 !=0) then (eg,5) else (if (t.Count==1000) then (eg,5) else (({State:=x13.1,Count:=(al .i64 t.Count 1)}:cf),0))))))))))))
def y7 (t:cf) (label:(List UInt8)) (l:(List Int)):(cf×Int):=
 (aa (gn l) (fun (x1:am)=>(aa (um t label x1) (fun (x4:(cf×Int))=>(x4.1,x4.2)))))
def bN (name:(List UInt8)) (l_:(List Int)) (c0:Int) (c1:cf):(Int×cf):=
 (if (c0==0) then (aa (y7 c1 name l_) (fun (x3:(cf×Int))=>(x3.2,x3.1))) else (c0,c1))
def y8 (t:cf) (label:(List UInt8)) (q:Int):(cf×Int×Int):=
 (aa (uk t) (fun (x1:Bool)=>(if (!x1) then (eg,0,1) else (aa (ml label) (fun (x6:Bool)=>(if (!x6) then (eg,0,1) else (if (decide (q<2)) then (eg,0,2) else (if (decide (q≥2305843009213693952)) then (eg,0,2) else (if (t.Count==1000) then (eg,0,5) else (aa (ul ([115,112,101,99,105,101,47,99,104,97,108,108,101,110,103,101]) t label ([]:List am)) (fun (x21:((List Int)×Int))=>(if (x21.2 !=0) then (eg,0,x21.2) else (aa (qq (x21.1) q) (fun (x27:(Int×Int))=>(if (x27.2 !=0) then (eg,0,x27.2) else (aa (um t label ({Kind:=1,N:=x27.1,B:=([]:List Int),L:=([]:List am)}:am)) (fun (x33:(cf×Int))=>(if (x33.2 !=0) then (eg,0,x33.2) else (x33.1,x27.1,0)))))))))))))))))))
def y9 (g:aO) (r_:cC) (a_:(List Int)) (label:(List UInt8)):(Int×Int):=
 (aa (y6 label) (fun (x1:(cf×Int))=>(aa (bN ([103,114,111,117,112]) ([g.P,g.Q,g.G]:List Int) (x1.2) (x1.1)) (fun (x4:(Int×cf))=>(aa (bN ([121]) (r_.Y) (x4.1) (x4.2)) (fun (x7:(Int×cf))=>(ae (((r_.Bases.length:Int) - 0).toNat+1) (fun (ag10:(Int×cf×Int)→(Int×Int)) (p10:Int×cf×Int)=>(if (decide (p10.1<(r_.Bases.length:Int))) then (aa (bN ([98,97,115,101,115]) (gt r_.Bases p10.1) (p10.2.2) (p10.2.1)) (fun (x14:(Int×cf))=>(ag10 ((p10.1+1),x14.2,x14.1)))) else (aa (bN ([99,111,109,109,105,116]) a_ (p10.2.2) (p10.2.1)) (fun (x18:(Int×cf))=>(if (x18.1 !=0) then (0,x18.1) else (aa (y8 (x18.2) ([99,104,97,108,108,101,110,103,101]) (g.Q)) (fun (x24:(cf×Int×Int))=>(x24.2.1,x24.2.2)))))))) (fun _=>default) (0,x7.2,x7.1))))))))
def y_ (g:aO) (r_:cC) (label:(List UInt8)) (p_:dP):Bool:=
 (aa (nY g r_ p_) (fun (x1:Bool)=>(if (!x1) then false else (aa (y9 g r_ (p_.A) label) (fun (x8:(Int×Int))=>(if (x8.2==0) then (x8.1==p_.C) else false))))))
def za (b:aY) (y:Int) (pseudonym:Int) (label:(List UInt8)) (x_:bZ):Bool:=
 (aa (yN b y pseudonym x_) (fun (x1:(cC×Int))=>(if (x1.2==0) then (aa (y_ (b.Group) (x1.1) label (x_.Proof)) (fun (x6:Bool)=>x6)) else false)))
def uo (k_:cj):Bool:=
 (if (k_.y==0) then ((k_.p.Escrow.length:Int)==0) else (aa (yK (k_.v)) (fun (x4:((List UInt8)×Int))=>(aa (nU k_) (fun (x7:(List au))=>(if ((x7.length:Int) !=(k_.p.Escrow.length:Int)) then false else (ae (((x7.length:Int) - 0).toNat+1) (fun (ag14:Int→Bool) (p14:Int)=>(if (decide (p14<(x7.length:Int))) then (aa (za (k_.b) (k_.y) ((gt x7 p14).Coin.A) (x4.1) (gt k_.p.Escrow p14)) (fun (x19:Bool)=>(if (!x19) then false else (ag14 (p14+1))))) else true)) (fun _=>default) 0)))))))
def uq (r_:bg) (s:au):(Int×Int):=
 (if (decide (r_.Value<0)) then (0,1) else (if (decide (r_.Value>1099511627776)) then (0,1) else (if (decide (r_.Depth<0)) then (0,1) else (if (decide (r_.Depth>5)) then (0,1) else (aa (nP (r_.Depth) (s.Node)) (fun (x10:Bool)=>(if (!x10) then (0,2) else ((ar .i64 r_.Value s.Node.Level),0))))))))
def zb (l:(List bg)) (h_:bh):(Int×Int):=
 (aa (t6 l (h_.First.Coin)) (fun (x1:(bg×Bool))=>(if (!x1.2) then (0,18) else (aa (uq (x1.1) (h_.First)) (fun (x7:(Int×Int))=>(x7.1,x7.2))))))
def zc (k_:cj):Int:=
 (ae (((k_.p.Spends.length:Int) - 0).toNat+1) (fun (ag1:(Int×Int)→Int) (p1:Int×Int)=>(if (decide (p1.2<(k_.p.Spends.length:Int))) then (aa (l8 k_ ((gt k_.p.Spends p1.2).Coin)) (fun (x5:(bg×Bool))=>(aa (uq (x5.1) (gt k_.p.Spends p1.2)) (fun (x8:(Int×Int))=>(ag1 ((al .i64 p1.1 x8.1),(p1.2+1))))))) else (ae (((k_.p.Chains.length:Int) - 0).toNat+1) (fun (ag12:(Int×Int)→Int) (p12:Int×Int)=>(if (decide (p12.2<(k_.p.Chains.length:Int))) then (aa (zb (k_.l) (gt k_.p.Chains p12.2)) (fun (x16:(Int×Int))=>(ag12 ((al .i64 p12.1 x16.1),(p12.2+1))))) else p12.1)) (fun _=>default) (p1.1,0)))) (fun _=>default) (0,0))
def ur (c0:cj) (c1:aN):Bool:=
 (aa (zc c0) (fun (x1:Int)=>(x1==c1.Amount)))
def iC:List (Bool×Int)→Int→Int×Int
 | [],n=>(n,0)
 | (true,_)::l,n=>iC l n
 | (false,e)::_,_=>(0,e)
def qC (b:aY) (l:List bg) (y:Int) (v:aN) (p:aK):List (Bool×Int):=
 [(nJ ⟨b,l,y,v,p⟩,1),(tP p,5),(qm p v,14),(tR ⟨b,l,y,v,p⟩,18),(kD ⟨b,l,y,v,p⟩,11),(t_ ⟨b,l,y,v,p⟩,16),(ua ⟨b,l,y,v,p⟩,15),(uc ⟨b,l,y,v,p⟩,8),(uo ⟨b,l,y,v,p⟩,12),(ur ⟨b,l,y,v,p⟩ v,17)]
def cF (b:aY) (l:List bg) (y:Int) (v:aN) (p:aK):Int×Int:=iC (qC b l y v p) v.Amount
def iD (l:(List aK)):(List (List Int)):=
 (ae (((l.length:Int) - 0).toNat+1) (fun (ag1:(Int×List (List Int))→(List (List Int))) (p1:Int×List (List Int))=>(if (decide (p1.1<(l.length:Int))) then (aa (nV (gt l p1.1)) (fun (x5:(List de))=>(ae (((x5.length:Int) - 0).toNat+1) (fun (ag9:(Int×List (List Int))→(List (List Int))) (p9:Int×List (List Int))=>(if (decide (p9.1<(x5.length:Int))) then (ag9 ((p9.1+1),(gY p9.2 [(gt x5 p9.1).A,(gt x5 p9.1).B]))) else (ag1 ((p1.1+1),p9.2)))) (fun _=>default) (0,p1.2)))) else p1.2)) (fun _=>default) (0,([]:List (List Int))))
def mm (p_:aK):Int:=
 (ae (((p_.Chains.length:Int) - 0).toNat+1) (fun (ag1:(Int×Int)→Int) (p1:Int×Int)=>(if (decide (p1.2<(p_.Chains.length:Int))) then (ag1 ((dT p1.1 ((gt p_.Chains p1.2).L.length:Int)),(p1.2+1))) else p1.1)) (fun _=>default) (0,0))
def qD (x_:Int):Bool:=
 (x_ !=x_)
def qE (x_:Int) (y:Int):Bool:=
 (aa (qD x_) (fun (x1:Bool)=>(if x1 then (aa (qD y) (fun (x5:Bool)=>(if (!x5) then true else (decide (x_<y))))) else (decide (x_<y)))))
def qF (x_:Int):Bool:=
 (x_ !=x_)
def dq (x_:(List Int)) (target:Int):(Int×Bool):=
 (ae (((x_.length:Int) - 0).toNat+1) (fun (ag1:(Int×Int)→(Int×Bool)) (p1:Int×Int)=>(if (decide (p1.1<p1.2)) then (aa (qE (gt x_ (ah .i64 (ar .u64 (ah .u64 (p1.1+p1.2)) 1))) target) (fun (x6:Bool)=>(if x6 then (ag1 (((ah .i64 (ar .u64 (ah .u64 (p1.1+p1.2)) 1))+1),p1.2)) else (ag1 (p1.1,(ah .i64 (ar .u64 (ah .u64 (p1.1+p1.2)) 1))))))) else (if (decide (p1.1<(x_.length:Int))) then (if ((gt x_ p1.1)==target) then (p1.1,true) else (aa (qF (gt x_ p1.1)) (fun (x17:Bool)=>(if x17 then (aa (qF target) (fun (x21:Bool)=>(p1.1,x21))) else (p1.1,false))))) else (p1.1,false)))) (fun _=>default) (0,(x_.length:Int)))
def nZ (s:au) (c0:aD):Bool:=
 (aa (dq (c0.Blocked) (s.Coin.A)) (fun (x1:(Int×Bool))=>x1.2))
def ut (s:(List au)) (f__c0:aD):Int:=
 (ae (((s.length:Int) - 0).toNat+1) (fun (ag1:Int→Int) (p1:Int)=>(if (decide (p1<(s.length:Int))) then (aa (nZ (gt s p1) f__c0) (fun (x5:Bool)=>(if x5 then p1 else (ag1 (p1+1))))) else (-1))) (fun _=>default) 0)
def oa (s:(List au)) (f__c0:aD):Bool:=
 (aa (ut s f__c0) (fun (x1:Int)=>(decide (x1≥0))))
def oc (c:bh) (c0_c0:aD):Bool:=
 (aa (nZ (c.First) c0_c0) (fun (x1:Bool)=>(if x1 then true else (aa (oa (c.L) c0_c0) (fun (x5:Bool)=>x5)))))
def uu (s:(List bh)) (f__c0_c0:aD):Int:=
 (ae (((s.length:Int) - 0).toNat+1) (fun (ag1:Int→Int) (p1:Int)=>(if (decide (p1<(s.length:Int))) then (aa (oc (gt s p1) f__c0_c0) (fun (x5:Bool)=>(if x5 then p1 else (ag1 (p1+1))))) else (-1))) (fun _=>default) 0)
def qG (s:(List bh)) (f__c0_c0:aD):Bool:=
 (aa (uu s f__c0_c0) (fun (x1:Int)=>(decide (x1≥0))))
def kE (m:aD) (p_:aK):Bool:=
 (aa (oa (p_.Spends) m) (fun (x1:Bool)=>(if x1 then true else (aa (qG (p_.Chains) m) (fun (x5:Bool)=>x5)))))
def gp (s:(List aN)) (f__c0:aK):Int:=
 (ae (((s.length:Int) - 0).toNat+1) (fun (ag1:Int→Int) (p1:Int)=>(if (decide (p1<(s.length:Int))) then (aa (ku (gt s p1) f__c0) (fun (x5:Bool)=>(if x5 then p1 else (ag1 (p1+1))))) else (-1))) (fun _=>default) 0)
def dg (b:aY) (l:(List bg)) (y:Int) (m:aD) (p_:aK):(aD×Int×Int):=
 (aa (dB m) (fun (x1:Bool)=>(if (!x1) then (bG,0,1) else (aa (gp (m.Open) p_) (fun (x9:Int)=>(if (decide (x9<0)) then (bG,0,7) else (aa (cF b l y (gt m.Open x9) p_) (fun (x17:(Int×Int))=>(if (x17.2 !=0) then (bG,0,x17.2) else (aa (iD (m.Queue)) (fun (x23:(List (List Int)))=>(aa (iD ([p_]:List aK)) (fun (x26:(List (List Int)))=>(if (List.any x26 (fun x=>List.contains x23 x)) then (bG,0,8) else (aa (mm p_) (fun (x32:Int)=>(aa (l3 (m.Now)) (fun (x34:Int)=>(aa (gP (m.Policy) (x17.1) (al .i64 (p_.Spends.length:Int) (p_.Chains.length:Int)) x32 x34 (m.Total)) (fun (x36:(Bool×Int))=>(aa (kE m p_) (fun (x38:Bool)=>(if x38 then (bG,0,16) else (if (!x36.1) then (bG,0,16) else (if ((m.Queue.length:Int)==50) then (bG,0,5) else (if (decide ((al .i64 m.Total x17.1)>1099511627776)) then (bG,0,5) else (aa (kp m) (fun (x50:aD)=>(aa (pS (x50.Open) x9 (al .i64 x9 1)) (fun (x54:(List aN))=>(aa (nE p_) (fun (x57:aK)=>(({Name:=x50.Name,Policy:=x50.Policy,Open:=x54,Next:=x50.Next,Queue:=(x50.Queue++([x57]:List aK)),Paid:=(x50.Paid++([(gt m.Open x9)]:List aN)),Total:=(al .i64 x50.Total x17.1),Blocked:=x50.Blocked,Now:=x50.Now}:aD),x17.1,0)))))))))))))))))))))))))))))))))
def od (a_:(List aN)) (b:(List aN)):Bool:=
 (if ((a_.length:Int) !=(b.length:Int)) then false else (ae (((a_.length:Int) - 0).toNat+1) (fun (ag4:Int→Bool) (p4:Int)=>(if (decide (p4<(a_.length:Int))) then (if (!(kc (gt a_ p4) (gt b p4))) then false else (ag4 (p4+1))) else true)) (fun _=>default) 0))
def qH (p_:eI) (q:eI):Bool:=
 (if (p_.Index !=q.Index) then false else (if ((p_.L.length:Int) !=(q.L.length:Int)) then false else (ae (((p_.L.length:Int) - 0).toNat+1) (fun (ag6:Int→Bool) (p6:Int)=>(if (decide (p6<(p_.L.length:Int))) then (if (!(eJ (gt p_.L p6) (gt q.L p6))) then false else (ag6 (p6+1))) else true)) (fun _=>default) 0)))
def kF (a_:au) (b:au):Bool:=
 (if (!(nw (a_.Coin) (b.Coin))) then false else (if (!(ny (a_.Node) (b.Node))) then false else (if (!(jq (a_.Context) (b.Context))) then false else (if ((a_.Leaves.length:Int) !=(b.Leaves.length:Int)) then false else (aa (qH (a_.Path) (b.Path)) (fun (x9:Bool)=>(if (!x9) then false else (ae (((a_.Leaves.length:Int) - 0).toNat+1) (fun (ag15:Int→Bool) (p15:Int)=>(if (decide (p15<(a_.Leaves.length:Int))) then (if (!(lV (gt a_.Leaves p15) (gt b.Leaves p15))) then false else (ag15 (p15+1))) else true)) (fun _=>default) 0))))))))
def og (x_:bh) (y:bh):Bool:=
 (aa (gQ x_) (fun (x1:(List au))=>(aa (gQ y) (fun (x4:(List au))=>(if ((x1.length:Int) !=(x4.length:Int)) then false else (ae (((x1.length:Int) - 0).toNat+1) (fun (ag11:Int→Bool) (p11:Int)=>(if (decide (p11<(x1.length:Int))) then (aa (kF (gt x1 p11) (gt x4 p11)) (fun (x16:Bool)=>(if (!x16) then false else (ag11 (p11+1))))) else true)) (fun _=>default) 0))))))
def oh (a_:(List Int)) (b:(List Int)):Bool:=
 (if ((a_.length:Int) !=(b.length:Int)) then false else (ae (((a_.length:Int) - 0).toNat+1) (fun (ag4:Int→Bool) (p4:Int)=>(if (decide (p4<(a_.length:Int))) then (if ((gt a_ p4) !=(gt b p4)) then false else (ag4 (p4+1))) else true)) (fun _=>default) 0))
def uw (a_:dP) (b:dP):Bool:=
 (aa (oh (a_.A) (b.A)) (fun (x1:Bool)=>(if x1 then (if (a_.C==b.C) then (aa (oh (a_.Z) (b.Z)) (fun (x7:Bool)=>x7)) else false) else false)))
def oi (a_:bZ) (b:bZ):Bool:=
 (if (a_.E1==b.E1) then (if (a_.E2==b.E2) then (aa (uw (a_.Proof) (b.Proof)) (fun (x5:Bool)=>x5)) else false) else false)
def ol (p_:aK) (q:aK):Bool:=
 (if (p_.Number !=q.Number) then false else (if ((p_.Spends.length:Int) !=(q.Spends.length:Int)) then false else (if ((p_.Chains.length:Int) !=(q.Chains.length:Int)) then false else (if ((p_.Escrow.length:Int) !=(q.Escrow.length:Int)) then false else (ae (((p_.Spends.length:Int) - 0).toNat+1) (fun (ag10:Int→Bool) (p10:Int)=>(if (decide (p10<(p_.Spends.length:Int))) then (aa (kF (gt p_.Spends p10) (gt q.Spends p10)) (fun (x15:Bool)=>(if (!x15) then false else (ag10 (p10+1))))) else (ae (((p_.Chains.length:Int) - 0).toNat+1) (fun (ag22:Int→Bool) (p22:Int)=>(if (decide (p22<(p_.Chains.length:Int))) then (aa (og (gt p_.Chains p22) (gt q.Chains p22)) (fun (x27:Bool)=>(if (!x27) then false else (ag22 (p22+1))))) else (ae (((p_.Escrow.length:Int) - 0).toNat+1) (fun (ag34:Int→Bool) (p34:Int)=>(if (decide (p34<(p_.Escrow.length:Int))) then (aa (oi (gt p_.Escrow p34) (gt q.Escrow p34)) (fun (x39:Bool)=>(if (!x39) then false else (ag34 (p34+1))))) else true)) (fun _=>default) 0))) (fun _=>default) 0))) (fun _=>default) 0)))))
def qI (a_:aD) (b:aD):Bool:=
 (if (!(eJ (a_.Name) (b.Name))) then false else (if (a_.Next !=b.Next) then false else (if (a_.Total !=b.Total) then false else (if (a_.Now !=b.Now) then false else (if ((a_.Policy.Rules.length:Int) !=(b.Policy.Rules.length:Int)) then false else (if ((a_.Queue.length:Int) !=(b.Queue.length:Int)) then false else (if ((a_.Blocked.length:Int) !=(b.Blocked.length:Int)) then false else (aa (od (a_.Open) (b.Open)) (fun (x15:Bool)=>(if (!x15) then false else (aa (od (a_.Paid) (b.Paid)) (fun (x20:Bool)=>(if (!x20) then false else (ae (((a_.Policy.Rules.length:Int) - 0).toNat+1) (fun (ag26:Int→Bool) (p26:Int)=>(if (decide (p26<(a_.Policy.Rules.length:Int))) then (if (!(lW (gt a_.Policy.Rules p26) (gt b.Policy.Rules p26))) then false else (ag26 (p26+1))) else (ae (((a_.Queue.length:Int) - 0).toNat+1) (fun (ag35:Int→Bool) (p35:Int)=>(if (decide (p35<(a_.Queue.length:Int))) then (aa (ol (gt a_.Queue p35) (gt b.Queue p35)) (fun (x40:Bool)=>(if (!x40) then false else (ag35 (p35+1))))) else (ae (((a_.Blocked.length:Int) - 0).toNat+1) (fun (ag47:Int→Bool) (p47:Int)=>(if (decide (p47<(a_.Blocked.length:Int))) then (if ((gt a_.Blocked p47) !=(gt b.Blocked p47)) then false else (ag47 (p47+1))) else true)) (fun _=>default) 0))) (fun _=>default) 0))) (fun _=>default) 0))))))))))))))
def qJ (m:aD):Bool:=
 (aa (qI m bG) (fun (x1:Bool)=>x1))
def zd (v:aN) (c0:aK):Bool:=
 (v.Number==c0.Number)
def jy (x_:Int) (low:Int) (high:Int):Bool:=
 (if (decide (x_≥low)) then (decide (x_≤high)) else false)
def mn (r_:bW):Bool:=
 (if (r_.Kind==1) then (aa (jy (r_.A) 0 1099511627776) (fun (x36:Bool)=>(if x36 then (r_.B==0) else false))) else (if (r_.Kind==4) then (aa (jy (r_.A) 0 1099511627776) (fun (x5:Bool)=>(if x5 then (r_.B==0) else false))) else (if (r_.Kind==2) then (aa (jy (r_.A) 0 1000) (fun (x12:Bool)=>(if x12 then (r_.B==0) else false))) else (if (r_.Kind==3) then (aa (jy (r_.A) 0 8) (fun (x19:Bool)=>(if x19 then (r_.B==0) else false))) else (if (r_.Kind==5) then (aa (jy (r_.A) 0 23) (fun (x26:Bool)=>(if x26 then (aa (jy (r_.B) 0 23) (fun (x30:Bool)=>(if x30 then (r_.A !=r_.B) else false))) else false))) else false)))))
def iE (p_:dp):Bool:=
 (if (decide ((p_.Rules.length:Int)>20)) then false else (ae (((p_.Rules.length:Int) - 0).toNat+1) (fun (ag4:Int→Bool) (p4:Int)=>(if (decide (p4<(p_.Rules.length:Int))) then (aa (mn (gt p_.Rules p4)) (fun (x8:Bool)=>(if (!x8) then false else (ag4 (p4+1))))) else true)) (fun _=>default) 0))
def mp (x_:Int) (low:Int) (high:Int):Bool:=
 (if (decide (x_≥low)) then (decide (x_≤high)) else false)
def iF (v:aN):Bool:=
 (aa (mp (v.Amount) 1 1099511627776) (fun (x1:Bool)=>(if x1 then (aa (mp (v.Time) 0 1099511627776) (fun (x5:Bool)=>(if x5 then (aa (mp (v.Number) 0 1073741824) (fun (x9:Bool)=>x9)) else false))) else false)))
def cG (m:aD) (v:aN):Bool:=
 (aa (iF v) (fun (x1:Bool)=>(if x1 then (if (eJ (v.Payee) (m.Name)) then (if (decide (v.Time≤m.Now)) then (decide (v.Number<m.Next)) else false) else false) else false)))
def eW (l:(List aN)) (number:Int):Int:=
 (ae (((l.length:Int) - 0).toNat+1) (fun (ag1:Int→Int) (p1:Int)=>(if (decide (p1<(l.length:Int))) then (if ((gt l p1).Number==number) then p1 else (ag1 (p1+1))) else (-1))) (fun _=>default) 0)
def mq (m:aD):Bool:=
 (aa (iE (m.Policy)) (fun (x1:Bool)=>(if (!x1) then false else (if (decide (m.Now<0)) then false else (if (decide (m.Now>1099511627776)) then false else (if (decide (m.Next<0)) then false else (if (decide (m.Next>1073741824)) then false else (if (decide ((m.Open.length:Int)>50)) then false else (if (decide ((m.Queue.length:Int)>50)) then false else (if ((m.Paid.length:Int) !=(m.Queue.length:Int)) then false else (if (decide ((m.Blocked.length:Int)>100)) then false else (ae (((m.Open.length:Int) - 0).toNat+1) (fun (ag23:Int→Bool) (p23:Int)=>(if (decide (p23<(m.Open.length:Int))) then (aa (cG m (gt m.Open p23)) (fun (x27:Bool)=>(if (!x27) then false else (if (decide (p23>0)) then (if (decide ((gt m.Open p23).Number≤(gt m.Open (p23 - 1)).Number)) then false else (ag23 (p23+1))) else (ag23 (p23+1)))))) else (ae (((m.Paid.length:Int) - 0).toNat+1) (fun (ag41:(Int×Int)→Bool) (p41:Int×Int)=>(if (decide (p41.2<(m.Paid.length:Int))) then (aa (cG m (gt m.Paid p41.2)) (fun (x45:Bool)=>(if (!x45) then false else (if ((gt m.Queue p41.2).Number !=(gt m.Paid p41.2).Number) then false else (aa (eW (m.Open) ((gt m.Paid p41.2).Number)) (fun (x52:Int)=>(if (decide (x52≥0)) then false else (aa (eW (sl m.Paid 0 p41.2) ((gt m.Paid p41.2).Number)) (fun (x56:Int)=>(if (decide (x56≥0)) then false else (ag41 ((al .i64 p41.1 (gt m.Paid p41.2).Amount),(p41.2+1))))))))))))) else (ae (((m.Blocked.length:Int) - 0).toNat+1) (fun (ag66:Int→Bool) (p66:Int)=>(if (decide (p66<(m.Blocked.length:Int))) then (if (decide ((gt m.Blocked p66)≤0)) then false else (if (decide (p66>0)) then (if (decide ((gt m.Blocked p66)≤(gt m.Blocked (p66 - 1)))) then false else (ag66 (p66+1))) else (ag66 (p66+1)))) else (if (p41.1==m.Total) then (decide (p41.1≤1099511627776)) else false))) (fun _=>default) 0))) (fun _=>default) (0,0)))) (fun _=>default) 0))))))))))))
def iG (m:aD) (pseudonym:Int):(aD×Int):=
 (aa (dB m) (fun (x1:Bool)=>(if (!x1) then (bG,1) else (if (decide (pseudonym≤0)) then (bG,2) else (aa (dq (m.Blocked) pseudonym) (fun (x12:(Int×Bool))=>(if x12.2 then (bG,8) else (if ((m.Blocked.length:Int)==100) then (bG,5) else (aa (kp m) (fun (x22:aD)=>(aa (eo (x22.Blocked) (x12.1) ([pseudonym]:List Int)) (fun (x26:(List Int))=>(({Name:=x22.Name,Policy:=x22.Policy,Open:=x22.Open,Next:=x22.Next,Queue:=x22.Queue,Paid:=x22.Paid,Total:=x22.Total,Blocked:=x26,Now:=x22.Now}:aD),0)))))))))))))
def om (s:(List aN)) (f__c0:aK):Int:=
 (ae (((s.length:Int) - 0).toNat+1) (fun (ag1:Int→Int) (p1:Int)=>(if (decide (p1<(s.length:Int))) then (aa (zd (gt s p1) f__c0) (fun (x5:Bool)=>(if x5 then p1 else (ag1 (p1+1))))) else (-1))) (fun _=>default) 0)
def ux (b:aY) (l:(List bg)) (y:Int) (m:aD) (p_:aK):Bool:=
 (aa (kq) (fun (x1:Bool)=>(if (!x1) then (aa (kq) (fun (x110:Bool)=>x110)) else (aa (l5 m) (fun (x6:Bool)=>(if (!x6) then (aa (kq) (fun (x106:Bool)=>x106)) else (aa (kt p_) (fun (x11:Bool)=>(if (!x11) then (aa (kq) (fun (x102:Bool)=>x102)) else (if (decide ((l.length:Int)>60)) then (aa (kq) (fun (x18:Bool)=>x18)) else (aa (dg b l y m p_) (fun (x22:(aD×Int×Int))=>(if (x22.2.2 !=0) then (aa (qJ (x22.1)) (fun (x28:Bool)=>(if x28 then (x22.2.1==0) else false))) else (aa (om (m.Open) p_) (fun (x33:Int)=>(if (decide (x33<0)) then false else (aa (mq m) (fun (x39:Bool)=>(if (!x39) then false else (aa (cF b l y (gt m.Open x33) p_) (fun (x46:(Int×Int))=>(ae (((p_.Chains.length:Int) - 0).toNat+1) (fun (ag48:(Int×Int)→Bool) (p48:Int×Int)=>(if (decide (p48.2<(p_.Chains.length:Int))) then (ag48 ((dT p48.1 ((gt p_.Chains p48.2).L.length:Int)),(p48.2+1))) else (aa (gP (m.Policy) (x22.2.1) ((p_.Spends.length:Int)+(p_.Chains.length:Int)) (p48.1) (cw .i64 (cm .i64 m.Now 3600) 24) (m.Total)) (fun (x54:(Bool×Int))=>(if (x46.2 !=0) then false else (if (x46.1 !=x22.2.1) then false else (if (x22.2.1 !=(gt m.Open x33).Amount) then false else (if (!x54.1) then false else (if (x54.2 !=(-1)) then false else (aa (l4 p_) (fun (x68:(List au))=>(ae (((x68.length:Int) - 0).toNat+1) (fun (ag71:Int→Bool) (p71:Int)=>(if (decide (p71<(x68.length:Int))) then (aa (gd (m.Blocked) ((gt x68 p71).Coin.A)) (fun (x75:Bool)=>(if x75 then false else (aa (iG m ((gt x68 p71).Coin.A)) (fun (x79:(aD×Int))=>(if (x79.2==5) then (ag71 (p71+1)) else (aa (dg b l y (x79.1) p_) (fun (x85:(aD×Int×Int))=>(if (x79.2 !=0) then false else (if (x85.2.2 !=16) then false else (ag71 (p71+1)))))))))))) else true)) (fun _=>default) 0)))))))))))) (fun _=>default) (0,0)))))))))))))))))))))))
end Go.Proofs.YteibkofekpejgaaGreatDoor
namespace Go.Proofs.YteibkofekpejgaaGreatDoor
open Go.RowKit
theorem w64 (a:Int):IntKind.wrap .u64 a=a% 18446744073709551616:=by simp [IntKind.wrap,IntKind.bits,IntKind.signed]
theorem oo {k:IntKind} {x:Int} {n:Int} {m:Nat} (hn:min n.toNat k.bits=m):ar k x n=x/2^m:=by
 unfold ar;rw [hn,Int.fdiv_eq_ediv_of_nonneg];exact Int.le_of_lt (Int.pow_pos (by decide))
theorem kG (x:Int):ar .u64 x 32=x/4294967296:=oo (m:=32) rfl
theorem KV (x:Int):ar .u64 x 58=x/288230376151711744:=oo (m:=58) rfl
theorem cQ (x:Int):ar .u64 x 1=x/2:=oo (m:=1) rfl
theorem cV (x:Int):ar .i64 x 1=x/2:=oo (m:=1) rfl
theorem Dd {x:Int}:0≤ar .u64 (aS .u64 x 285870213051353865) 58∧ar .u64 (aS .u64 x 285870213051353865) 58<64:=by
 rw [KV];unfold aS;rw [w64];omega
def KW (x:Int) (l:Nat):Prop:=1≤l∧(2:Int)^(l - 1)≤x∧x<2^l
theorem KX (x:Nat):1≤x→x<2^64→1≤Lib.bitLen x∧2^(Lib.bitLen x - 1)≤x∧x<2^Lib.bitLen x:=by
 induction x using Nat.strongRecOn with
 | ind x ih=>
  intro h0 h1
  by_cases h:x=1
  ·subst h;decide
  ·obtain ⟨a1,a2,a3⟩:=ih (x/2) (by omega) (by omega) (by omega)
   rw [Lib.bitLen_half x (by omega) h1]
   generalize Lib.bitLen (x/2)=l at a1 a2 a3
   obtain ⟨l,rfl⟩: ∃k,l=k+1:=⟨l - 1,by omega⟩
   refine ⟨by omega,?_,?_⟩
   ·rw [show 1+(l+1) - 1=l+1 by omega,Nat.pow_succ]
    simp only [Nat.add_sub_cancel] at a2
    omega
   ·rw [show 1+(l+1)=(l+1)+1 by omega,Nat.pow_succ]
    omega
theorem KY {x:Int} (h0:1≤x) (h1:x≤18446744073709551615): ∃l:Nat,tB x=l∧KW x l∧l≤64:=by
 obtain ⟨k,rfl⟩:=Int.eq_ofNat_of_zero_le (show 0≤x by omega)
 have hk:k<2^64:=by omega
 obtain ⟨a1,a2,a3⟩:=KX k (by omega) hk
 exact ⟨Lib.bitLen k,rfl,⟨a1,by exact_mod_cast a2,by exact_mod_cast a3⟩,Lib.bitLen_le k 64 (by decide) hk⟩
theorem De {x y:Int} (hx:x=l7 y) (h0:1≤y) (h1:y≤18446744073709551615):0≤x∧x≤63∧9223372036854775808≤ay .u64 y (ah .u64 x)∧ay .u64 y (ah .u64 x)=y*2^x.toNat:=by
 obtain ⟨l,e1,⟨e2,e3,e4⟩,e5⟩:=KY h0 h1
 have hx2:x=64 - (l:Int):=by
  rw [hx];unfold l7 aa;rw [e1];simp only;unfold aA;rw [IntKind.wrap_i64];omega
 have hc:ah .u64 x=x:=lC (by omega) (by omega)
 have hn:x.toNat=64 - l:=by omega
 have hm:min (ah .u64 x).toNat IntKind.u64.bits=64 - l:=by rw [hc,hn];show min (64 - l) 64=_;omega
 have hp:(2:Int)^l*2^(64 - l)=18446744073709551616:=by rw [←Int.pow_add,show l+(64 - l)=64 by omega];decide
 have hq:(2:Int)^(l - 1)*2^(64 - l)=9223372036854775808:=by rw [←Int.pow_add,show l - 1+(64 - l)=63 by omega];decide
 have h2:(0:Int)<2^(64 - l):=Int.pow_pos (by decide)
 have g1:=Int.mul_le_mul_of_nonneg_right e3 (Int.le_of_lt h2)
 have g2:=Int.mul_lt_mul_of_pos_right e4 h2
 rw [hp] at g2;rw [hq] at g1
 have e:ay .u64 y (ah .u64 x)=y*2^x.toNat:=by
  unfold ay;rw [hm,w64,hn];exact Int.emod_eq_of_lt (by omega) g2
 exact ⟨by omega,by omega,by rw [e,hn];exact g1,e⟩
theorem qK {x:Int} (h0:0≤x) (h1:x≤18446744073709551615):bD .u64 x 4294967295=x% 4294967296:=by
 obtain ⟨k,rfl⟩:=Int.eq_ofNat_of_zero_le h0
 unfold bD
 have e1:(BitVec.ofInt IntKind.u64.bits (k:Int)).toNat=k:=by
  show (BitVec.ofInt 64 (k:Int)).toNat=k
  rw [BitVec.toNat_ofInt];omega
 have e2:(BitVec.ofInt IntKind.u64.bits 4294967295).toNat=2^32 - 1:=by decide
 rw [BitVec.toNat_and,e1,e2,Nat.and_two_pow_sub_one_eq_mod,w64]
 omega
theorem oq {a b A:Int} (h1:0≤a) (h2:a≤A) (h3:0≤b) (h4:b≤A):0≤a*b∧a*b≤A*A:=
 ⟨Int.mul_nonneg h1 h3,Int.mul_le_mul h2 h4 h3 (Int.le_trans h1 h2)⟩
theorem dx {a:Int} (h0:0≤a) (h1:a≤18446744073709551615):IntKind.wrap .u64 a=a:=by rw [w64];omega
theorem Df {x y:Int} (hx0:0≤x) (hx1:x≤18446744073709551615) (hy0:0≤y) (hy1:y≤18446744073709551615):kv x y=(x*y/18446744073709551616,x*y% 18446744073709551616):=by
 unfold kv
 rw [qK hx0 hx1,qK hy0 hy1,kG x,kG y]
 obtain ⟨x1,x0,rfl,h1,h2,h3,h4⟩: ∃x1 x0:Int,x=x1*4294967296+x0∧0≤x1∧x1≤4294967295∧0≤x0∧x0≤4294967295:=⟨x/4294967296,x% 4294967296,by omega,by omega,by omega,by omega,by omega⟩
 obtain ⟨y1,y0,rfl,g1,g2,g3,g4⟩: ∃y1 y0:Int,y=y1*4294967296+y0∧0≤y1∧y1≤4294967295∧0≤y0∧y0≤4294967295:=⟨y/4294967296,y% 4294967296,by omega,by omega,by omega,by omega,by omega⟩
 rw [show (x1*4294967296+x0)/4294967296=x1 by omega,show (y1*4294967296+y0)/4294967296=y1 by omega,show (x1*4294967296+x0)% 4294967296=x0 by omega,show (y1*4294967296+y0)% 4294967296=y0 by omega]
 have ea:=oq h1 h2 g1 g2
 have eb:=oq h1 h2 g3 g4
 have ec:=oq h3 h4 g1 g2
 have ed:=oq h3 h4 g3 g4
 have ex:(x1*4294967296+x0)*(y1*4294967296+y0)=x1*y1*18446744073709551616+(x1*y0+x0*y1)*4294967296+x0*y0:=by
  simp only [Int.add_mul,Int.mul_add]
  rw [show x1*4294967296*(y1*4294967296)=x1*y1*18446744073709551616 by rw [Int.mul_assoc,Int.mul_comm 4294967296 (y1*4294967296),Int.mul_assoc y1,←Int.mul_assoc];rfl,show x1*4294967296*y0=x1*y0*4294967296 by rw [Int.mul_assoc,Int.mul_comm 4294967296,←Int.mul_assoc],show x0*(y1*4294967296)=x0*y1*4294967296 by rw [Int.mul_assoc]]
  omega
 have em:aS .u64 (x1*4294967296+x0) (y1*4294967296+y0)=((x1*4294967296+x0)*(y1*4294967296+y0))% 18446744073709551616:=by unfold aS;rw [w64]
 have ma:aS .u64 x1 y1=x1*y1:=dx ea.1 (by omega)
 have mb:aS .u64 x1 y0=x1*y0:=dx eb.1 (by omega)
 have mc:aS .u64 x0 y1=x0*y1:=dx ec.1 (by omega)
 have md:aS .u64 x0 y0=x0*y0:=dx ed.1 (by omega)
 rw [em,ex,ma,mb,mc,md]
 generalize x1*y1=a at ea
 generalize x1*y0=b at eb
 generalize x0*y1=c at ec
 generalize x0*y0=d at ed
 rw [kG d]
 have t1:al .u64 b (d/4294967296)=b+d/4294967296:=dx (by omega) (by omega)
 rw [t1,kG (b+d/4294967296),qK (by omega) (by omega)]
 have t2:al .u64 ((b+d/4294967296)% 4294967296) c=(b+d/4294967296)% 4294967296+c:=dx (by omega) (by omega)
 rw [t2,kG]
 have hxy:a*18446744073709551616+(b+c)*4294967296+d≤18446744073709551615*18446744073709551615:=by
  have:=(oq hx0 hx1 hy0 hy1).2
  omega
 have t3:al .u64 a ((b+d/4294967296)/4294967296)=a+(b+d/4294967296)/4294967296:=dx (by omega) (by omega)
 rw [t3]
 have t4:al .u64 (a+(b+d/4294967296)/4294967296) (((b+d/4294967296)% 4294967296+c)/4294967296)=a+(b+d/4294967296)/4294967296+((b+d/4294967296)% 4294967296+c)/4294967296:=dx (by omega) (by omega)
 rw [t4]
 congr 1
 omega
theorem KZ {x y:Int} (hx:x=l7 y) (h0:1≤y) (h1:y≤18446744073709551615):0≤x∧x≤63∧0≤ah .u64 x∧0≤aA .u64 64 (ah .u64 x)∧2147483648≤ar .u64 (ay .u64 y (ah .u64 x)) 32∧ar .u64 (ay .u64 y (ah .u64 x)) 32≤4294967295:=by
 obtain ⟨a1,a2,a3,a4⟩:=De hx h0 h1
 have h2:ay .u64 y (ah .u64 x)≤18446744073709551615:=(q8 .u64 _ _).2
 refine ⟨a1,a2,m8 _,(oJ .u64 _ _).1,?_,?_⟩<;>rw [kG]<;>omega
theorem ze {u d:Int} (h0:0≤u) (h1:u≤18446744073709551615) (hd:1≤d):aA .u64 u (aS .u64 (cm .u64 u d) d)=u% d∧cm .u64 u d=u/d∧0≤u% d∧u% d<d:=by
 have e1:u.tdiv d=u/d:=Int.tdiv_eq_ediv_of_nonneg h0
 have e2:u/d≤u:=Int.ediv_le_self _ h0
 have e3:0≤u/d:=Int.ediv_nonneg h0 (by omega)
 have e4:=Int.mul_ediv_add_emod u d
 have e5:=Int.emod_nonneg u (show d≠0 by omega)
 have e6:=Int.emod_lt_of_pos u (show 0<d by omega)
 have e7:cm .u64 u d=u/d:=by unfold cm;rw [e1];exact dx e3 (by omega)
 have e8:0≤u/d*d:=Int.mul_nonneg e3 (by omega)
 rw [Int.mul_comm] at e4
 have e9:aS .u64 (u/d) d=u/d*d:=dx e8 (by omega)
 refine ⟨?_,e7,e5,e6⟩
 rw [e7,e9];exact (dx (by omega) (by omega)).trans (by omega)
theorem K0 {y1 y0 u a q r:Int} (ha1:a<4294967296) (hy0:0≤y0) (hu:u<y1*4294967296+y0) (hu0:0≤u) (hi:q*y1+r=u) (hr:0≤r) (ha:0≤a) (ht:q≥4294967296∨(q*y0>4294967296*r+a)):
  u*4294967296+a<q*(y1*4294967296+y0)∧1≤q:=by
 have e:q*(y1*4294967296+y0)=q*y1*4294967296+q*y0:=by rw [Int.mul_add,Int.mul_assoc]
 rcases ht with h|h
 ·refine ⟨?_,by omega⟩
  have h1:=Int.mul_le_mul_of_nonneg_right h (show 0≤y1*4294967296+y0 by omega)
  omega
 ·refine ⟨by omega,?_⟩
  refine Int.not_lt.1 fun hq=> ?_
  have:=Int.mul_nonneg (show 0≤ -q by omega) hy0
  rw [Int.neg_mul] at this
  omega
theorem K1 {y1 y0 u a q r:Int} (hi:q*y1+r=u) (ht:q*y0≤4294967296*r+a):q*(y1*4294967296+y0)≤u*4294967296+a:=by
 have e:q*(y1*4294967296+y0)=q*y1*4294967296+q*y0:=by rw [Int.mul_add,Int.mul_assoc]
 omega
theorem K2 {y1 y0 u a q r:Int} (ha:0≤a) (hi:q*y1+r=u) (hr:r≥4294967296) (hq:q≤4294967296) (hy0:0≤y0) (hy01:y0<4294967296):q*(y1*4294967296+y0)≤u*4294967296+a:=by
 have e:q*(y1*4294967296+y0)=q*y1*4294967296+q*y0:=by rw [Int.mul_add,Int.mul_assoc]
 have h1:=Int.mul_le_mul_of_nonneg_right hq hy0
 omega
def Dg (y1 y0 u a q:Int):Prop:=q*(y1*4294967296+y0)≤u*4294967296+a∧u*4294967296+a<(q+1)*(y1*4294967296+y0)
def DgI (y1 y0 u a:Int) (p:Int×Int):Prop:=p.1*y1+p.2=u∧0≤p.2∧p.2<4294967296∧0≤p.1∧p.1≤4294967297∧u*4294967296+a<(p.1+1)*(y1*4294967296+y0)
theorem Dh {y1 y0 u a:Int} (hy1:2147483648≤y1) (hy11:y1<4294967296) (hy0:0≤y0) (hy01:y0<4294967296) (hu0:0≤u) (hu:u<y1*4294967296+y0) (ha:0≤a) (ha1:a<4294967296):DgI y1 y0 u a (u/y1,u% y1):=by
 have e4:=Int.mul_ediv_add_emod u y1
 have e5:=Int.emod_nonneg u (show y1≠0 by omega)
 have e6:=Int.emod_lt_of_pos u (show 0<y1 by omega)
 have e3:0≤u/y1:=Int.ediv_nonneg hu0 (by omega)
 have e7:u/y1≤4294967297:=by
  have:u/y1<4294967298:=(Int.ediv_lt_iff_lt_mul (by omega)).2 (by omega)
  omega
 rw [Int.mul_comm] at e4
 refine ⟨e4,e5,by show u% y1<_;omega,e3,e7,?_⟩
 have e8:(u/y1+1)*(y1*4294967296+y0)=u/y1*y1*4294967296+y1*4294967296+(u/y1)*y0+y0:=by
  rw [Int.add_mul,Int.mul_add,Int.one_mul,Int.mul_assoc];omega
 have e9:=Int.mul_nonneg e3 hy0
 show u*4294967296+a<(u/y1+1)*(y1*4294967296+y0)
 rw [e8]
 omega
theorem K3 {y1 y0 u a q r:Int} (hy0:0≤y0) (h:DgI y1 y0 u a (q,r)) (hu:u<y1*4294967296+y0) (ha:0≤a) (ha1:a<4294967296) (hu0:0≤u) (ht:q≥4294967296∨(q*y0>4294967296*r+a)):
  (q - 1)*y1+(r+y1)=u∧1≤q∧u*4294967296+a<(q - 1+1)*(y1*4294967296+y0):=by
 obtain ⟨h1,h2,h3,h4,h5,h6⟩:=h
 obtain ⟨a1,a2⟩:=K0 ha1 hy0 hu hu0 h1 h2 ha ht
 refine ⟨?_,a2,?_⟩
 ·rw [Int.sub_mul,Int.one_mul];simp only at h1;omega
 ·rw [Int.sub_add_cancel];exact a1
theorem zf {α R:Type} {gq gr:α→Int} {mk:Int→Int→α} (hmq: ∀q r,gq (mk q r)=q) (hmr: ∀q r,gr (mk q r)=r) {y1 y0 u a:Int} (hy1:2147483648≤y1) (hy11:y1<4294967296) (hy0:0≤y0) (hy01:y0<4294967296) (hu0:0≤u) (hu:u<y1*4294967296+y0) (ha:0≤a) (ha1:a<4294967296) {F:(α→R)→α→R} {d:α→R} {j:Int→R}
  (hF: ∀ag p,F ag p=if decide (gq p≥4294967296)=true then (if decide (al .u64 (gr p) y1≥4294967296)=true then j (aA .u64 (gq p) 1) else ag (mk (aA .u64 (gq p) 1) (al .u64 (gr p) y1))) else
   if decide (aS .u64 (gq p) y0>al .u64 (aS .u64 4294967296 (gr p)) a)=true then (if decide (al .u64 (gr p) y1≥4294967296)=true then j (aA .u64 (gq p) 1) else ag (mk (aA .u64 (gq p) 1) (al .u64 (gr p) y1))) else j (gq p))
  {v:R} (hv: ∀q,Dg y1 y0 u a q→j q=v): ∀(n:Nat) (p:α),DgI y1 y0 u a (gq p,gr p)→(4294967296 - gr p).toNat<n→ae n F d p=v
 | 0,p,_,h=>by omega
 | n+1,p,hI,hn=>by
  rw [ae,hF]
  obtain ⟨h1,h2,h3,h4,h5,h6⟩:=hI
  simp only at h1 h2 h3 h4 h5 h6
  generalize hq:gq p=q at*
  generalize hr:gr p=r at*
  have eA:al .u64 r y1=r+y1:=dx (by omega) (by omega)
  have eS:1≤q→aA .u64 q 1=q - 1:=fun h=>dx (by omega) (by omega)
  have down:(q≥4294967296∨(q*y0>4294967296*r+a))→(if decide (al .u64 r y1≥4294967296)=true then j (aA .u64 q 1) else ae n F d (mk (aA .u64 q 1) (al .u64 r y1)))=v:=by
   intro ht
   obtain ⟨d1,d2,d3⟩:=K3 hy0 (show DgI y1 y0 u a (q,r) from ⟨h1,h2,h3,h4,h5,h6⟩) hu ha ha1 hu0 ht
   rw [eA,eS d2]
   by_cases hb:r+y1≥4294967296
   ·rw [if_pos (by simpa using hb)]
    exact hv _ ⟨K2 ha d1 hb (by omega) hy0 hy01,d3⟩
   ·rw [if_neg (by simpa using hb)]
    exact zf hmq hmr hy1 hy11 hy0 hy01 hu0 hu ha ha1 hF hv n _ (by rw [hmq,hmr];exact ⟨d1,by show 0≤r+y1;omega,by show r+y1<_;omega,by show 0≤q - 1;omega,by show q - 1≤_;omega,d3⟩) (by rw [hmr];omega)
  by_cases ht:q≥4294967296
  ·rw [if_pos (by simpa using ht)]
   exact down (.inl ht)
  ·rw [if_neg (by simpa using ht)]
   have hm:=oq h4 (show q≤4294967295 by omega) hy0 (show y0≤4294967295 by omega)
   have e1:aS .u64 q y0=q*y0:=dx hm.1 (by omega)
   have e2:aS .u64 4294967296 r=4294967296*r:=dx (by omega) (by omega)
   have e3:al .u64 (4294967296*r) a=4294967296*r+a:=dx (by omega) (by omega)
   rw [e1,e2,e3]
   by_cases hc:q*y0>4294967296*r+a
   ·rw [if_pos (by simpa using hc)]
    exact down (.inr hc)
   ·rw [if_neg (by simpa using hc)]
    exact hv _ ⟨K1 h1 (by omega),h6⟩
theorem K6 {a b:Int} {s:Nat} (hs:s≤63) (ha0:0≤a) (ha:a*2^s<18446744073709551616) (hb0:0≤b) (hb:b<2^s):orI .u64 (a*2^s) b=a*2^s+b:=by
 obtain ⟨a,rfl⟩:=Int.eq_ofNat_of_zero_le ha0
 obtain ⟨b,rfl⟩:=Int.eq_ofNat_of_zero_le hb0
 have hp:2^s≤2^63:=Nat.pow_le_pow_right (by decide) hs
 have e0:((a:Int)*2^s)=((a*2^s:Nat):Int):=by push_cast;rfl
 have ha':a*2^s<18446744073709551616:=by
  rw [e0] at ha
  generalize a*2^s=t at ha⊢
  omega
 have hb':b<2^s:=by exact_mod_cast hb
 rw [e0]
 unfold orI
 have t: ∀n:Nat,n<18446744073709551616→(BitVec.ofInt IntKind.u64.bits (n:Int)).toNat=n:=by
  intro n hn
  show (BitVec.ofInt 64 (n:Int)).toNat=n
  rw [BitVec.toNat_ofInt];omega
 rw [BitVec.toNat_or,t _ ha',t _ (by omega),Nat.mul_comm a,←Nat.two_pow_add_eq_or_of_lt hb',w64]
 rw [Nat.mul_comm] at ha'
 have:2^s*a+b<18446744073709551616:=by
  have h1:2^s*(a+1)≤18446744073709551616:=by
   have h2:2^s∣18446744073709551616:=⟨2^(64 - s),by rw [←Nat.pow_add,show s+(64 - s)=64 by omega]⟩
   obtain ⟨c,hc⟩:=h2
   rw [hc] at ha'⊢
   exact Nat.mul_le_mul_left _ (Nat.lt_of_mul_lt_mul_left ha')
  rw [Nat.mul_add,Nat.mul_one] at h1
  omega
 omega
theorem K7 (a b:Int) {c:Int} (h:0<c):(a*c)% (b*c)=a% b*c:=by
 rw [Int.mul_comm a,Int.mul_comm b,Int.mul_emod_mul_of_pos _ _ h,Int.mul_comm]
theorem K8 {N y Y p u w a1 a0 q1 q0 v:Int} (hp:0<p) (hY:Y=y*p) (hY0:0<Y) (hw:w=a1*4294967296+a0) (hN:u*18446744073709551616+w=N*p)
  (hv:v=u*4294967296+a1 - q1*Y) (h1:q0*Y≤v*4294967296+a0) (h2:v*4294967296+a0<(q0+1)*Y):
  q1*4294967296+q0=N/y∧v*4294967296+a0 - q0*Y=N% y*p:=by
 have e:N*p=(q1*4294967296+q0)*Y+(v*4294967296+a0 - q0*Y):=by
  have e1:(q1*4294967296+q0)*Y=q1*Y*4294967296+q0*Y:=by rw [Int.add_mul,Int.mul_right_comm]
  rw [e1];omega
 have e2:(q0+1)*Y=q0*Y+Y:=by rw [Int.add_mul,Int.one_mul]
 generalize hR:v*4294967296+a0 - q0*Y=R at*
 generalize hQ:q1*4294967296+q0=Q at*
 have hR0:0≤R:=by omega
 have hR1:R<Y:=by omega
 have d:N*p/Y=Q:=by
  rw [e,Int.add_comm,Int.add_mul_ediv_right _ _ (by omega),Int.ediv_eq_zero_of_lt hR0 hR1];omega
 have m:N*p% Y=R:=by rw [e,Int.add_comm,Int.add_mul_emod_self_right,Int.emod_eq_of_lt hR0 hR1]
 rw [hY] at d m
 rw [Int.mul_ediv_mul_of_pos_left _ _ hp] at d
 rw [K7 _ _ hp] at m
 exact ⟨d.symm,m.symm⟩
theorem Di {u a q Y:Int} (h0:0≤u*4294967296+a - q*Y) (h1:u*4294967296+a - q*Y≤18446744073709551615):aA .u64 (al .u64 (aS .u64 u 4294967296) a) (aS .u64 q Y)=u*4294967296+a - q*Y:=by
 unfold aA al aS
 simp only [w64]
 generalize q*Y=T at*
 omega
theorem K_ {q r:Int} (h0:0≤q*4294967296+r) (h1:q*4294967296+r≤18446744073709551615):al .u64 (aS .u64 q 4294967296) r=q*4294967296+r:=by
 unfold al aS
 simp only [w64]
 omega
theorem Dj {α R:Type} {f:α→R} {G:(α→R)→R} {v:R} (h: ∀j,j=f→G j=v):nc f G=v:=h f rfl
set_option maxRecDepth 4000 in
theorem La {hi lo y:Int} (hh0:0≤hi) (hl0:0≤lo) (hl1:lo≤18446744073709551615) (hy:hi<y) (hy1:y≤18446744073709551615):nG hi lo y=((hi*18446744073709551616+lo)/y,(hi*18446744073709551616+lo)% y):=by
 unfold nG
 rw [if_neg (by simp;omega),if_neg (by simp;omega)]
 by_cases h0:hi=0
 ·subst h0
  rw [if_pos (by decide)]
  have e1:lo.tdiv y=lo/y:=Int.tdiv_eq_ediv_of_nonneg hl0
  have e2:lo/y≤lo:=Int.ediv_le_self _ hl0
  have e3:0≤lo/y:=Int.ediv_nonneg hl0 (by omega)
  have e4:cm .u64 lo y=lo/y:=by unfold cm;rw [e1];exact dx e3 (by omega)
  have e5:cw .u64 lo y=lo% y:=Int.tmod_eq_emod_of_nonneg hl0
  rw [e4,e5];simp
 ·rw [if_neg (by simpa using h0)]
  obtain ⟨s,hs⟩: ∃s,s=l7 y:=⟨_,rfl⟩
  obtain ⟨s0,s1,s2,s3⟩:=De hs (by omega) hy1
  have hY:=(q8 .u64 y (ah .u64 s)).2
  simp only [aa,←hs]
  obtain ⟨k,rfl⟩:=Int.eq_ofNat_of_zero_le s0
  rw [s3] at s2 hY
  simp only [Int.toNat_natCast] at s2 s3 hY
  rw [s3]
  have hk:k≤63:=by omega
  have hp:(0:Int)<2^k:=Int.pow_pos (by decide)
  have hp2:(2:Int)^k*2^(64 - k)=18446744073709551616:=by rw [←Int.pow_add,show k+(64 - k)=64 by omega];rfl
  have hc:ah .u64 (k:Int)=k:=lC (by omega) (by omega)
  have hYm:y*2^k≤18446744073709551615:=by show _≤(18446744073709551615:Int);exact hY
  -- the high part
  have hhi:hi*2^k<y*2^k:=Int.mul_lt_mul_of_pos_right hy hp
  have m1:ay .u64 hi (k:Int)=hi*2^k:=by
   unfold ay
   rw [Int.toNat_natCast,show min k IntKind.u64.bits=k by show min k 64=k;omega]
   exact dx (Int.mul_nonneg hh0 (Int.le_of_lt hp)) (by omega)
  have m2:ar .u64 lo (aA .u64 64 (k:Int))=lo/2^(64 - k):=by
   have e:aA .u64 64 (k:Int)=((64 - k:Nat):Int):=by
    have:aA .u64 64 (k:Int)=64 - (k:Int):=dx (by omega) (by omega)
    omega
   rw [e];exact oo (by rw [Int.toNat_natCast];show min (64 - k) 64=_;omega)
  have m3:ay .u64 lo (k:Int)=lo*2^k% 18446744073709551616:=by
   unfold ay
   rw [Int.toNat_natCast,show min k IntKind.u64.bits=k by show min k 64=k;omega,w64]
  have hb0:0≤lo/2^(64 - k):=Int.ediv_nonneg hl0 (Int.le_of_lt (Int.pow_pos (by decide)))
  have hb1:lo/2^(64 - k)<2^k:=(Int.ediv_lt_iff_lt_mul (Int.pow_pos (by decide))).2 (by rw [hp2];omega)
  rw [hc,m1,m2,m3,K6 hk hh0 (by omega) hb0 hb1]
  -- the whole, shifted
  have hN:(hi*2^k+lo/2^(64 - k))*18446744073709551616+lo*2^k% 18446744073709551616=(hi*18446744073709551616+lo)*2^k:=by
   have e:lo/2^(64 - k)=lo*2^k/18446744073709551616:=by
    rw [←hp2,Int.mul_comm ((2:Int)^k),Int.mul_ediv_mul_of_pos_left _ _ hp]
   rw [e,Int.add_mul,Int.add_mul (hi*18446744073709551616),Int.mul_right_comm hi]
   omega
  have hy1':0<y:=by omega
  have hQ0:0≤(hi*18446744073709551616+lo)/y:=Int.ediv_nonneg (by omega) (by omega)
  have hQ1:(hi*18446744073709551616+lo)/y<18446744073709551616:=(Int.ediv_lt_iff_lt_mul hy1').2 (by omega)
  have hu0:0≤hi*2^k+lo/2^(64 - k):=by have:=Int.mul_nonneg hh0 (Int.le_of_lt hp);omega
  have hu1:hi*2^k+lo/2^(64 - k)<y*2^k:=by
   have h1:=Int.mul_le_mul_of_nonneg_right (show hi+1≤y by omega) (Int.le_of_lt hp)
   rw [Int.add_mul,Int.one_mul] at h1
   omega
  obtain ⟨N,hNe⟩: ∃N,N=hi*18446744073709551616+lo:=⟨_,rfl⟩
  rw [←hNe] at hN hQ0 hQ1⊢
  obtain ⟨Y,hYe⟩: ∃Y,Y=y*2^k:=⟨_,rfl⟩
  rw [←hYe] at s2 hYm hu1⊢
  generalize hi*2^k+lo/2^(64 - k)=u at hN hu0 hu1⊢
  have hW0:0≤lo*2^k% 18446744073709551616:=Int.emod_nonneg _ (by decide)
  have hW1:lo*2^k% 18446744073709551616<18446744073709551616:=Int.emod_lt_of_pos _ (by decide)
  generalize lo*2^k% 18446744073709551616=W at hN hW0 hW1⊢
  rw [kG Y,qK (by omega) hYm,kG W,qK hW0 (by omega)]
  have hYs:Y/4294967296*4294967296+Y% 4294967296=Y:=by omega
  have hWs:W=W/4294967296*4294967296+W% 4294967296:=by omega
  have b1:2147483648≤Y/4294967296:=by omega
  have b2:Y/4294967296<4294967296:=by omega
  have b3:0≤Y% 4294967296:=by omega
  have b4:Y% 4294967296<4294967296:=by omega
  have b5:0≤W/4294967296:=by omega
  have b6:W/4294967296<4294967296:=by omega
  have b7:0≤W% 4294967296:=by omega
  have b8:W% 4294967296<4294967296:=by omega
  generalize Y/4294967296=y1 at*
  generalize Y% 4294967296=y0 at*
  generalize W/4294967296=a1 at*
  generalize W% 4294967296=a0 at*
  obtain ⟨r1,r2,r3,r4⟩:=ze (u:=u) (d:=y1) hu0 (by omega) (by omega)
  rw [r1,r2]
  refine Dj fun j8 hj8=> ?_
  refine zf (j:=j8) (gq:=fun p:Int×Int=>p.1) (gr:=fun p=>p.2) (mk:=fun q r=>(q,r)) (fun _ _=>rfl) (fun _ _=>rfl) b1 b2 b3 b4 hu0 (by omega) b5 b6 (by exact fun ag p=>rfl) (fun q1 hq1=> ?_) _ _ (by exact Dh b1 b2 b3 b4 hu0 (by omega) b5 b6) (by show (4294967296 - u% y1).toNat<_;omega)
  obtain ⟨g1,g2⟩:=hq1
  subst hj8
  dsimp only
  rw [hYs] at g1 g2
  have g3:(q1+1)*Y=q1*Y+Y:=by rw [Int.add_mul,Int.one_mul]
  rw [g3] at g2
  have ev:=Di (u:=u) (a:=a1) (q:=q1) (Y:=Y) (by omega) (by omega)
  rw [ev]
  obtain ⟨v,hv⟩: ∃v,v=u*4294967296+a1 - q1*Y:=⟨_,rfl⟩
  rw [←hv]
  have hv0:0≤v:=by omega
  have hv1:v<Y:=by omega
  obtain ⟨t1,t2,t3,t4⟩:=ze (u:=v) (d:=y1) hv0 (by omega) (by omega)
  rw [t1,t2]
  refine Dj fun j9 hj9=> ?_
  refine zf (j:=j9) (gq:=fun p:Int×Int=>p.2) (gr:=fun p=>p.1) (mk:=fun q r=>(r,q)) (fun _ _=>rfl) (fun _ _=>rfl) b1 b2 b3 b4 hv0 (by omega) b7 b8 (by exact fun ag p=>rfl) (fun q0 hq0=> ?_) _ _ (by exact Dh b1 b2 b3 b4 hv0 (by omega) b7 b8) (by show (4294967296 - v% y1).toNat<_;omega)
  obtain ⟨f1,f2⟩:=hq0
  subst hj9
  dsimp only
  rw [hYs] at f1 f2
  obtain ⟨z1,z2⟩:=K8 hp hYe (by omega) hWs hN hv f1 f2
  have f3:(q0+1)*Y=q0*Y+Y:=by rw [Int.add_mul,Int.one_mul]
  rw [f3] at f2
  rw [Di (by omega) (by omega),K_ (by omega) (by omega),z1,z2,oo (m:=k) (by rw [Int.toNat_natCast];show min k 64=k;omega),Int.mul_ediv_cancel _ (Int.ne_of_gt hp)]
theorem Lb (a b:Int):0≤orI .u64 a b∧orI .u64 a b≤18446744073709551615:=Ao .u64 a b
theorem Lc (a b:Int):0≤aA .u64 a b∧aA .u64 a b≤18446744073709551615:=oJ .u64 a b
theorem kH {a b:Int} (h0:0≤a) (h1:a≤4294967295) (h2:0≤b) (h3:b≤4294967295):al .u64 a b=a+b:=dx (by omega) (by omega)
theorem Dk {a b n:Int} (ha:0≤a) (hn:a<n) (hn1:n≤18446744073709551615) (hb:0≤b) (hb1:b≤18446744073709551615):(kv a b).1<n:=by
 rw [Df ha (by omega) hb hb1]
 refine (Int.ediv_lt_iff_lt_mul (by decide)).2 ?_
 have h1:=Int.mul_le_mul (show a≤n - 1 by omega) hb1 hb (by omega)
 omega
theorem Dl (n:Int) {a b:Int} {x:Int×Int} (hx:x=kv a b) (ha:0≤a) (hn:a<n) (hn1:n≤18446744073709551615) (hb:0≤b) (hb1:b≤18446744073709551615):x.1<n:=hx▸Dk ha hn hn1 hb hb1
theorem Dm {u d:Int} (h:0≤u∧u≤18446744073709551615) (hd:1≤d) (hd1:d≤4294967295):0≤aA .u64 u (aS .u64 (cm .u64 u d) d)∧aA .u64 u (aS .u64 (cm .u64 u d) d)≤4294967295:=by
 obtain ⟨a1,a2,a3,a4⟩:=ze h.1 h.2 hd
 rw [a1];omega
theorem Dn {a b n:Int} (ha:0≤a) (hn:a<n) (hb:0≤b) (hb1:b≤18446744073709551615) (hn1:n≤18446744073709551615):fH a b n=a*b% n:=by
 have h1:=Dk ha hn hn1 hb hb1
 have hp:=Int.mul_nonneg ha hb
 unfold fH aa
 rw [Df ha (by omega) hb hb1] at h1⊢
 simp only at h1⊢
 rw [La (Int.ediv_nonneg hp (by decide)) (Int.emod_nonneg _ (by decide)) (by have:=Int.emod_lt_of_pos (a*b) (show (0:Int)<18446744073709551616 by decide);omega) h1 hn1]
 simp only
 congr 1
 omega
theorem mr {a b n x:Int} (hx:x=fH a b n) (ha:0≤a) (hn:a<n) (hb:0≤b) (hb1:b≤18446744073709551615) (hn1:n≤18446744073709551615):0≤x∧x<n:=by
 rw [hx,Dn ha hn hb hb1 hn1];exact ⟨Int.emod_nonneg _ (by omega),Int.emod_lt_of_pos _ (by omega)⟩
theorem Ld {a e n x:Int} (hx:x=qj a e n) (ha:0≤a) (hn:a<n) (h1:1<n) (hn1:n≤18446744073709551615):0≤x∧x<n:=by
 subst hx
 unfold qj
 refine fp (P:=fun p:Int×Int×Int=>0≤p.1∧p.1<n∧0≤p.2.2∧p.2.2<n) (Q:=fun x=>0≤x∧x<n) (meas:=fun p=>p.2.1.toNat) ?_ _ _ ⟨ha,hn,show (0:Int)≤1 by decide,h1⟩ (by show e.toNat<_;omega)
 rintro ag ⟨a,e,x⟩ ⟨p1,p2,p3,p4⟩ ih
 simp only at p1 p2 p3 p4 ih⊢
 by_cases he:e>0
 ·rw [if_pos (by simpa using he)]
  have hs:(ar .u64 e 1).toNat<e.toNat:=by rw [cQ];omega
  simp only [aa]
  by_cases hc:(bD .u64 e 1==1)=true
  ·rw [if_pos hc]
   have m1:=mr (x:=fH x a n) rfl p3 p4 p1 (by omega) hn1
   have m2:=mr (x:=fH a a n) rfl p1 p2 p1 (by omega) hn1
   exact ih _ ⟨m2.1,m2.2,m1.1,m1.2⟩ hs
  ·rw [if_neg hc]
   have m2:=mr (x:=fH a a n) rfl p1 p2 p1 (by omega) hn1
   exact ih _ ⟨m2.1,m2.2,p3,p4⟩ hs
 ·rw [if_neg (by simpa using he)]
  exact ⟨p3,p4⟩
@[go_sem] theorem Le {n:Nat} {k:IntKind}: ∀{l:List Int},ltL n (l.map (V.int k))=True
 | []=>by simp [ltL]
 | a::l=>by simp only [List.map_cons,ltL,Le (l:=l),ltV,and_self]
@[go_sem] theorem Ri {k:IntKind} {a b c i:Int}:elt [V.int k a,V.int k b,V.int k c] i.toNat (V.int k 0)=V.int k (gt [a,b,c] i):=by
 unfold elt gt
 match i.toNat with
 | 0=>rfl
 | 1=>rfl
 | 2=>rfl
 | n+3=>rfl
theorem Lf:db.length=12:=rfl
theorem Lg:db.all (fun x=>decide (2≤x)&&decide (x≤37))=true:=by decide
theorem cW {j:Int} (h0:0≤j) (h1:j<12):2≤gt db j∧gt db j≤37:=by
 have hm:gt db j∈db:=bH (by show j.toNat<12;omega)
 simpa using List.all_eq_true.1 Lg _ hm
def qL (u i:Int):Prop:= ∀k:Int,0≤k→k<i→u% gt db k≠0
theorem Lh {u:Int}:qL u 0:=fun k h0 h1=>by omega
theorem Li {u i:Int} (h:qL u i) (hu:0≤u) (h0:0≤i) (h1:i<12) (hr: ¬cw .u64 u (gt db i)=0):qL u (i+1):=by
 intro k k0 k1
 by_cases hk:k<i
 ·exact h k k0 hk
 ·obtain rfl:k=i:=by omega
  rwa [show cw .u64 u (gt db k)=u% gt db k from Int.tmod_eq_emod_of_nonneg hu] at hr
theorem Lj: ∀u:Fin 38,2≤u.val→ ∃k:Fin 12,((u.val:Nat):Int)% db.getD k.val 0=0:=by decide
theorem Lk {u i:Int} (h:qL u i) (hi:12≤i) (h2:2≤u):37<u:=by
 refine Int.not_le.1 fun hu=> ?_
 obtain ⟨k,hk⟩:=Lj ⟨u.toNat,by omega⟩ (by show 2≤u.toNat;omega)
 refine h (k.val:Int) (by omega) (by omega) ?_
 have e:((u.toNat:Nat):Int)=u:=by omega
 rw [←e,q7]
 exact hk
theorem Ll:j5.all (fun x=>decide (0≤x)&&decide (x≤63))=true:=by decide
theorem Lm {a x:Int} (hx:x=qi a):0≤x∧x≤64:=by
 subst hx
 unfold qi
 split
 ·omega
 ·have hi:=Dd (x:=bD .u64 a (jB .u64 a))
  have hm:=bH (l:=j5) (i:=ar .u64 (aS .u64 (bD .u64 a (jB .u64 a)) 285870213051353865) 58) (by show _<64;omega)
  have:=List.all_eq_true.1 Ll _ hm
  simp only [Bool.and_eq_true,decide_eq_true_eq] at this
  rw [xn (by omega) (by omega)];omega
theorem Ln {x:Int} (h0:0≤x) (h1:x≤64):aA .i64 x 1=x - 1:=by unfold aA;rw [IntKind.wrap_i64];omega
theorem Lo {m:Int} (h:1≤m):0≤cw .i64 1 m∧cw .i64 1 m<m:=by
 rw [show cw .i64 1 m=1% m from Int.tmod_eq_emod_of_nonneg (by decide)]
 exact ⟨Int.emod_nonneg _ (by omega),Int.emod_lt_of_pos _ (by omega)⟩
theorem Lp {a b m:Int} (h:js a b m=0):1≤m∧m<2305843009213693952∧0≤a∧a<m∧0≤b∧b<m:=by
 unfold js at h
 simp only [aa,qk] at h
 repeat' (split at h)
 all_goals simp_all
 all_goals omega
instance Rj (a b m:Int):CF (js a b m) (fun x=>x=0→1≤m∧m<2305843009213693952∧0≤a∧a<m∧0≤b∧b<m):=⟨Lp⟩
theorem Lq {l:List Int} (h:l.all (fun x=>decide (0≤x))=true): ∀j:Int,0≤j→j.toNat<l.length→0≤gt l j:=fun j _ h1=>by simpa using List.all_eq_true.1 h _ (bH h1)
theorem Lr: ∀j:Int,0≤j→j.toNat<([0,1,2,3,4,5]:List Int).length→0≤gt ([0,1,2,3,4,5]:List Int) j:=Lq (by decide)
theorem uy {x:Int} (h0:0≤x) (h1:x≤9223372036854775807):ah .u64 x=x:=lC h0 (by omega)
theorem Ls {a b n:Int} (ha:0≤a) (hn:a<n) (hb:0≤b) (hb1:b≤9223372036854775807) (hn1:n≤9223372036854775807):jt a b n=a*b% n:=by
 have h:=Dn ha hn hb (by omega) (by omega)
 have e:jt a b n=ah .i64 (fH (ah .u64 a) (ah .u64 b) (ah .u64 n)):=rfl
 have c1:ah .u64 a=a:=lC ha (by omega)
 have c2:ah .u64 b=b:=lC hb (by omega)
 have c3:ah .u64 n=n:=lC (by omega) (by omega)
 rw [e,c1,c2,c3,h]
 have:=Int.emod_nonneg (a*b) (show n≠0 by omega)
 have:=Int.emod_lt_of_pos (a*b) (show 0<n by omega)
 exact xn (by omega) (by omega)
theorem zg {a b n x:Int} (hx:x=jt a b n) (ha:0≤a) (hn:a<n) (hb:0≤b) (hb1:b≤9223372036854775807) (hn1:n≤9223372036854775807):0≤x∧x<n:=by
 rw [hx,Ls ha hn hb hb1 hn1];exact ⟨Int.emod_nonneg _ (by omega),Int.emod_lt_of_pos _ (by omega)⟩
end Go.Proofs.YteibkofekpejgaaGreatDoor
namespace Go.Proofs.YteibkofekpejgaaGreatDoor
open Go.RowKit
set_option linter.unusedVariables false
set_option linter.unusedSimpArgs false
instance Rk {s:List Int}:CF (tT s) (fun x=>x.length=s.length):=⟨rfl⟩
theorem Lt (n:Int):qp n=[ah .u8 (ar .u64 n 56),ah .u8 (ar .u64 n 48),ah .u8 (ar .u64 n 40),ah .u8 (ar .u64 n 32),ah .u8 (ar .u64 n 24),ah .u8 (ar .u64 n 16),ah .u8 (ar .u64 n 8),ah .u8 (ar .u64 n 0)]:=by kernel_rfl
instance Rm {n:Int}:CF (qp n) (fun x=>x.length=8):=⟨by rw [Lt];rfl⟩
end Go.Proofs.YteibkofekpejgaaGreatDoor
namespace Go.Proofs.YteibkofekpejgaaGreatDoor
open Go.RowKit
def fq (s:au):Prop:=s.Leaves.length≤40∧s.Path.L.length≤20
def ot (h:bh):Prop:=h.L.length≤12∧fq h.First∧ ∀x∈h.L,fq x
def Lu (x:bZ):Prop:=x.Proof.A.length≤30∧x.Proof.Z.length≤30
structure dC (p:aK):Prop where
 s:p.Spends.length≤60∧ ∀x∈p.Spends,fq x
 c:p.Chains.length≤12∧ ∀x∈p.Chains,ot x
 e:p.Escrow.length≤60∧ ∀x∈p.Escrow,Lu x
def ft (p:aK):List au:=p.Spends++p.Chains.flatMap fun h=>h.First::h.L
theorem Lv {p:aK} (h:dC p):(ft p).length≤220∧ ∀s∈ft p,fq s:=by
 have key: ∀l:List bh,(∀c∈l,ot c)→(l.flatMap fun h=>h.First::h.L).length≤13*l.length∧ ∀s∈l.flatMap (fun h=>h.First::h.L),fq s:=by
  intro l
  induction l with
  | nil=>intro _;simp
  | cons a l ih=>
   intro hs
   obtain ⟨h1,h2⟩:=ih (fun c hc=>hs c (by simp [hc]))
   obtain ⟨h3,h4,h5⟩:=hs a (by simp)
   refine ⟨by simp only [List.flatMap_cons,List.length_append,List.length_cons];omega,fun s hm=> ?_⟩
   simp only [List.flatMap_cons,List.mem_append,List.mem_cons] at hm
   rcases hm with (rfl|hm)|hm
   ·exact h4
   ·exact h5 s hm
   ·exact h2 s hm
 obtain ⟨h1,h2⟩:=key p.Chains h.c.2
 have h3:=h.s.1
 have h4:=h.c.1
 refine ⟨by simp only [ft,List.length_append];omega,fun s hm=> ?_⟩
 rcases List.mem_append.1 hm with hm|hm
 ·exact h.s.2 s hm
 ·exact h2 s hm
def Do (l:List au):Prop:=l.length≤220∧ ∀s∈l,fq s
theorem ou {l:List au} {i:Int} (h:Do l) (hi:i.toNat<l.length):(gt l i).Leaves.length≤40∧l.length≤220:=⟨(h.2 _ (bH hi)).1,h.1⟩
end Go.Proofs.YteibkofekpejgaaGreatDoor
namespace Go.Proofs.YteibkofekpejgaaGreatDoor
open Go.RowKit
set_option linter.unusedVariables false
set_option linter.unusedSimpArgs false
theorem Lw (i:am) (d:Int):qn i d=ga i d:=by
 obtain ⟨k,n,b,l⟩:=i
 have hany:nM l d= !(pP l (d - 1)):=by
  have h:=iv (l:=l) (C:=fun x=>me x d) (d:=fun _=>default) (F:=fun ag1 p1=>if decide (p1<(l.length:Int)) then (aa (me (gt l p1) d) (fun x4=>if x4 then p1 else ag1 (p1+1))) else -1) (fun ag p=>rfl)
  have h2:nM l d=l.any (fun x=>me x d):=h
  rw [h2,C4,List.not_all_eq_any_not];rfl
 unfold qn
 simp only [aa,ga,hany,Bool.not_not]
 by_cases e1:k=1
 ·subst e1;cases b with
  | nil=>cases l with
   | nil=>simp
   | cons y l=>simp;omega
  | cons x b=>simp;omega
 by_cases e2:k=2
 ·subst e2;cases l with
  | nil=>simp [Bool.beq_eq_decide_eq]
  | cons y l=>simp;omega
 by_cases e3:k=3
 ·subst e3
  by_cases h0:n=0
  ·cases b with
   | nil=>
    by_cases h1:0<d
    ·by_cases h2:l.length≤1000
     ·have h2':(l.length:Int)≤1000:=by omega
      simp [h0,h1,h2,h2']
     ·have h2': ¬(l.length:Int)≤1000:=by omega
      simp [h0,h1,h2,h2']
    ·simp [h0,h1]
   | cons x b=>simp [h0];omega
  ·simp [h0]
 ·simp [e1,e2,e3]
theorem Dp: ∀{k:Nat} {n:Int},be (k+1) n=(n/256^k)% 256::be k n
 | 0,n=>by simp [be]
 | k+1,n=>by
  rw [be,Dp (k:=k),be]
  simp only [List.cons_append,List.cons.injEq,and_true]
  rw [Int.ediv_ediv_of_nonneg (by omega),Int.pow_succ,Int.mul_comm (256^k)]
theorem Dq {n:Int} {F:(Int×List Int→List Int)→Int×List Int→List Int} {d:Int×List Int→List Int}
  (hF: ∀ag p,F ag p=if decide (p.1≥0)=true then ag (p.1 - 1,p.2++[ah .u8 (ar .u64 n (8*p.1))]) else p.2):
  ∀(k fuel:Nat) (out:List Int),k≤8→k<fuel→ae fuel F d ((k:Int) - 1,out)=out++be k n
 | 0,fuel,out,_,hf=>by
  obtain ⟨m,rfl⟩: ∃m,fuel=m+1:=⟨fuel - 1,by omega⟩
  rw [ae,hF];simp [be]
 | k+1,fuel,out,hk,hf=>by
  obtain ⟨m,rfl⟩: ∃m,fuel=m+1:=⟨fuel - 1,by omega⟩
  rw [ae,hF,if_pos (by simp)]
  have e1:ah .u8 (ar .u64 n (8*(((k+1:Nat):Int) - 1)))=(n/256^k)% 256:=by
   have e2:(8*(((k+1:Nat):Int) - 1)).toNat=8*k:=by omega
   unfold ah ar
   rw [e2,show min (8*k) (IntKind.bits .u64)=8*k by show min (8*k) 64=8*k;omega,Int.fdiv_eq_ediv_of_nonneg _ (Int.le_of_lt (Int.pow_pos (by omega))),Int.pow_mul]
   rfl
  simp only
  rw [e1,show ((k+1:Nat):Int) - 1 - 1=(k:Int) - 1 by omega,Dq hF k m _ (by omega) (by omega),Dp]
  simp
theorem uz {out:List Int} {n size:Int} (h0:0≤size) (h1:size≤8):ju out n size=out++be size.toNat n:=by
 unfold ju
 have:=Dq (n:=n) (d:=fun _=>default) (fun ag p=>rfl) size.toNat ((size - 1+1).toNat+1) out (by omega) (by omega)
 rw [show ((size.toNat:Nat):Int)=size by omega] at this
 exact this
theorem zh {out x:List Int} {n size:Int} (h:x=ju out n size): ¬(0≤size∧size≤8)∨(x.length:Int)=out.length+size:=by
 by_cases hs:0≤size∧size≤8
 ·right;rw [h,uz hs.1 hs.2];simp [C0];omega
 ·exact .inl hs
theorem Lx {n:Int}:be 8 (ah .u64 n)=be 8 n:=by
 apply xM
 have h8:(256:Int)^8=18446744073709551616:=by decide
 have:ah .u64 n=n% 18446744073709551616:=rfl
 rw [this,h8];omega
theorem Ds {n:Int}:be 4 (ah .u64 n)=be 4 n:=by
 apply xM
 have h8:(256:Int)^4=4294967296:=by decide
 have:ah .u64 n=n% 18446744073709551616:=rfl
 rw [this,h8];omega
theorem Dt: ∀{l:List am} {out:List Int},tz out l=l.foldl gc out
 | [],_=>rfl
 | x::l,out=>by simp only [tz,List.foldl_cons];exact Dt
theorem Ly (out:List Int) (i:am):qo out i=gc out i:=by
 obtain ⟨k,n,b,l⟩:=i
 unfold qo
 simp only [aa,gc]
 by_cases hl:out.length>16384
 ·have:(out.length:Int)>16384:=by omega
  simp [hl,this]
 have hl': ¬(out.length:Int)>16384:=by omega
 by_cases e1:k=1
 ·subst e1
  have:ah .u8 1=1:=rfl
  simp [hl,hl',uz,this,Lx]
 by_cases e2:k=2
 ·subst e2
  have:ah .u8 2=2:=rfl
  simp [hl,hl',uz,this,Ds]
 have hk:ah .u8 k=k% 256:=rfl
 simp only [hl,hl',e1,e2,decide_false,Bool.false_eq_true,if_false,beq_iff_eq,uz (show (0:Int)≤4 by decide) (show (4:Int)≤8 by decide),hk,Int.reduceToNat,Ds]
 rw [nz (l:=l) (fun a s=> .inl (gc s a)) (fun s=>s) (fun ag i s=>by by_cases h:i<(l.length:Int)<;>simp [h]),jr,Dt]
 simp
theorem zi {x:am} {n:Int} (h:x=nW n):hgt x=1:=by rw [h];rfl
theorem Du {x w:ef} {l:List Int} (h:x=jv w l):x.l.length=w.l.length+1:=by
 rw [h];simp [jv,aa]
theorem Lz {x w:ef} {l:List Int} (h:x=kA w l):x.l.length=w.l.length+1:=by
 rw [h];simp [kA,aa]
def mu (n:Int):am:=⟨1,n,[],[]⟩
def eK (l:List Int):am:=⟨3,0,[],l.map mu⟩
def eX (b:List Int):am:=⟨2,0,b,[]⟩
def mv (l:List am):am:=⟨3,0,[],l⟩
theorem zj (l:List Int):gn l=eK l:=by
 unfold gn
 exact pN (E:=fun p=>mv p.2) mu (fun ag p=>rfl)
theorem LA (w:ef) (l:List Int):jv w l=⟨w.l++[eK l]⟩:=by
 unfold jv
 simp only [aa,zj]
theorem LB (w:ef) (b:List Int):kA w b=⟨w.l++[eX b]⟩:=by
 unfold kA
 simp only [aa];rfl
def mw (c:bu):am:=mv [eK [c.Bank,c.Epoch,c.Denom,c.Depth,c.A],eX (bd 32 c.Root),eK [c.Sign.Z,c.Sign.A,c.Sign.B,c.Sign.R]]
theorem Dv (c:bu):mf c=mw c:=by
 unfold mf
 simp only [aa,LA,LB]
 rfl
def zk (l:List dO):List Int:=l.flatMap fun x=> [x.B,x.R1,x.R2]
def uA (s:au):am:=mv [mw s.Coin,eK [s.Node.Level,s.Node.Index],eX (bd 32 s.Context.Payee),eK [s.Context.Time,s.Context.Number],eK (zk s.Leaves),mv (mu s.Path.Index::s.Path.L.map fun h=>eX (bd 32 h))]
theorem LC (h:List Int):jw h=eX (bd 32 h):=rfl
theorem zl {α β:Type} {g:α→List β}: ∀{l:List α} {s:List β},l.foldl (fun s a=>s++g a) s=s++l.flatMap g
 | [],s=>by simp
 | a::l,s=>by rw [List.foldl_cons,zl (l:=l)];simp
theorem LD (s:au):nS s=uA s:=by
 unfold nS
 simp only [aa,LC,zj,Dv,kB]
 rw [nz (l:=s.Leaves) (fun a s=> .inl (s++[a.B,a.R1,a.R2])) (fun q=>ae (((s.Path.L.length:Int) - 0).toNat+1) (fun (ag4:(Int×List am)→am) (p4:Int×List am)=>(if (decide (p4.1<(s.Path.L.length:Int))) then ag4 ((p4.1+1),(p4.2++([eX (bd 32 (gt s.Path.L p4.1))]:List am))) else ⟨3,0,[],[mw s.Coin,eK [s.Node.Level,s.Node.Index],eX (bd 32 s.Context.Payee),eK [s.Context.Time,s.Context.Number],eK q,⟨3,0,[],p4.2⟩]⟩)) (fun _=>default) (0,[⟨1,s.Path.Index,[],[]⟩])) (fun ag i q=>by by_cases h:i<(s.Leaves.length:Int)<;>simp [h]),jr,zl]
 rw [nz (l:=s.Path.L) (fun a q=> .inl (q++[eX (bd 32 a)])) (fun q=>⟨3,0,[],[mw s.Coin,eK [s.Node.Level,s.Node.Index],eX (bd 32 s.Context.Payee),eK [s.Context.Time,s.Context.Number],eK ([]++s.Leaves.flatMap fun x=> [x.B,x.R1,x.R2]),⟨3,0,[],q⟩]⟩) (fun ag i q=>by by_cases h:i<(s.Path.L.length:Int)<;>simp [h]),jr,zl]
 simp only [List.nil_append]
 have:(s.Path.L.flatMap fun a=> [eX (bd 32 a)])=s.Path.L.map fun h=>eX (bd 32 h):=by
  induction s.Path.L with
  | nil=>rfl
  | cons x l ih=>rw [List.flatMap_cons,ih];rfl
 rw [this]
 rfl
theorem n66: ¬(((6:Int) !=6)=true):=by decide
theorem n11: ¬(((1:Int) !=1)=true):=by decide
theorem LE {l:List am}:hgt (mv l)=1+bM l:=by simp [mv,hgt]
theorem Dw {l:List Int}:hgt (eK l)=1+l.length:=by
 have: ∀l:List Int,bM (l.map mu)=l.length:=by
  intro l
  induction l with
  | nil=>rfl
  | cons a l ih=>simp [bM,ih,mu,hgt];omega
 simp [eK,hgt,this]
theorem Dx {b:List Int}:hgt (eX b)=1+b.length:=by simp [eX,hgt,bM]
theorem LF {n:Int}:hgt (mu n)=1:=rfl
theorem LG {l:List dO}:(zk l).length=3*l.length:=by
 unfold zk
 induction l with
 | nil=>rfl
 | cons a l ih=>rw [List.flatMap_cons,List.length_append,ih];simp;omega
theorem Dy: ∀{l:List (List Int)},bM (l.map fun h=>eX (bd 32 h))=33*l.length
 | []=>rfl
 | a::l=>by simp only [List.map_cons,bM,Dy (l:=l),Dx,dc,List.length_cons];omega
theorem LH (s:au):hgt (uA s)=88+3*s.Leaves.length+33*s.Path.L.length:=by
 simp only [uA,mw,LE,bM,Dw,Dx,LF,dc,LG,Dy,List.length_cons,List.length_nil]
 omega
theorem LI {s:au} (h:fq s):hgt (uA s)≤1000:=by
 rw [LH];have:=h.1;have:=h.2;omega
theorem zm: ∀{l:List bh} {o:List au},l.foldl (fun s h=>(s++[h.First])++h.L) o=o++l.flatMap fun h=>h.First::h.L
 | [],o=>by simp
 | a::l,o=>by simp only [List.foldl_cons,zm (l:=l)];simp
theorem LJ (p:aK):kz p=ft p:=by
 unfold kz
 have:=nz (l:=p.Chains) (d:=fun _=>default) (fun h o=> .inl ((o++[h.First])++h.L)) (fun o=>o) (F:=fun (ag1:(Int×List au)→(List au)) (p1:Int×List au)=>(if (decide (p1.1<(p.Chains.length:Int))) then (ag1 ((p1.1+1),((p1.2++([(gt p.Chains p1.1).First]:List au))++(gt p.Chains p1.1).L))) else p1.2)) (s:=[]++p.Spends) (fun ag i s=>by simp only [decide_eq_true_eq])
 rw [this,jr,zm];rfl
theorem Dz {p:aK} {x:List au} (h:dC p) (hx:x=kz p):Do x:=by
 rw [hx,LJ];exact Lv h
theorem DA {α:Type}: ∀{l o:List α},l.foldl (fun s a=>s++[a]) o=o++l
 | [],o=>by simp
 | a::l,o=>by rw [List.foldl_cons,DA (l:=l)];simp
theorem DB {R:Type} {l:List au} {E:List au→R} {F:(Int×List au→R)→Int×List au→R} {d:Int×List au→R} {o:List au}
  (hF: ∀ag p,F ag p=if decide (p.1<(l.length:Int))=true then ag (p.1+1,p.2++[gt l p.1]) else E p.2):ae (((l.length:Int) - 0).toNat+1) F d (0,o)=E (o++l):=by
 rw [nz (l:=l) (fun a s=> .inl (s++[a])) E (fun ag j s=>by rw [hF];by_cases h:j<(l.length:Int)<;>simp [h]),jr,DA]
theorem DC (p:aK):l4 p=ft p:=by
 unfold l4
 rw [DB (l:=p.Spends) (E:=fun o=>ae (((p.Chains.length:Int) - 0).toNat+1) (fun (ag4:(Int×List au)→(List au)) (p4:Int×List au)=>(if (decide (p4.1<(p.Chains.length:Int))) then (aa (gQ (gt p.Chains p4.1)) (fun (x7:(List au))=>(ae (((x7.length:Int) - 0).toNat+1) (fun (ag11:(Int×List au)→(List au)) (p11:Int×List au)=>(if (decide (p11.1<(x7.length:Int))) then (ag11 ((p11.1+1),(p11.2++([(gt x7 p11.1)]:List au)))) else (ag4 ((p4.1+1),p11.2)))) (fun _=>default) (0,p4.2)))) else p4.2)) (fun _=>default) (0,o)) (fun ag q=>rfl)]
 rw [nz (l:=p.Chains) (fun h o=> .inl ((o++[h.First])++h.L)) (fun o=>o) (fun ag j s=>by
  by_cases h:j<(p.Chains.length:Int)
  ·simp only [h,decide_true,if_true,aa]
   rw [DB (E:=fun o=>ag (j+1,o)) (fun _ _=>rfl)]
   simp [gQ]
  ·simp [h]),jr,zm]
 simp [ft]
theorem LK (c:bu):hgt (mw c)≤100:=by
 simp [mw,mv,eK,mu,eX,hgt,bM,dc]
theorem LL {c:bu} {x:am} (h:x=mf c):hgt x≤100:=by rw [h,Dv];exact LK c
theorem kI {i:am} {x:List Int×Int} (h:x=gg i):x.1.length≤16384:=by
 rw [h]
 unfold gg
 simp only [aa]
 split
 ·simp
 ·split
  ·simp
  ·rename_i h2
   have h3:((gc [] i).length:Int)≤16384:=by simpa using h2
   show (gc [] i).length≤16384
   omega
theorem qM {α β:Type} {a:α} {f:α→β} (P:β→Prop) (h: ∀x,x=a→P (f x)):P (aa a f):=h a rfl
theorem LM {v:aN} {x:List Int×Int} (h:x=qy v):x.1.length≤16384:=by
 rw [h]
 unfold qy
 refine qM (fun r:List Int×Int=>r.1.length≤16384) fun x1 h1=> ?_
 by_cases c:(!x1)=true
 ·rw [if_pos c];exact Nat.zero_le _
 ·rw [if_neg c]
  refine qM (fun r:List Int×Int=>r.1.length≤16384) fun x7 h7=> ?_
  refine qM (fun r:List Int×Int=>r.1.length≤16384) fun x10 h10=> ?_
  refine qM (fun r:List Int×Int=>r.1.length≤16384) fun x13 h13=> ?_
  refine qM (fun r:List Int×Int=>r.1.length≤16384) fun x16 h16=> ?_
  exact kI h16
instance Rn (h:List Int):CF (pQ h) (fun y=>y.length=64):=⟨tC _ _⟩
theorem qN: ∀{l m:List am},bM (l++m)=bM l+bM m
 | [],m=>by simp [bM]
 | x::l,m=>by rw [List.cons_append,bM,bM,qN];omega
theorem uB {n:Int} {x:am} (h:x=l9 n):hgt x=1:=by subst h;rfl
theorem DD (n:Int):(∃d:Nat,d≤10∧n=2^d∧kC n=((d:Int),0))∨(kC n=(0,1)∧ ∀d:Nat,d≤10→n≠2^d):=by
 unfold kC
 refine fp (P:=fun p:Int=>0≤p∧p≤11∧ ∀d:Nat,d≤10→(d:Int)<p→n≠2^d) (Q:=fun x:Int×Int=>(∃d:Nat,d≤10∧n=2^d∧x=((d:Int),0))∨(x=(0,1)∧ ∀d:Nat,d≤10→n≠2^d)) (meas:=fun p=>(11 - p).toNat) ?_ _ _ ⟨by decide,by decide,fun d _ h=>absurd h (by omega)⟩ (by decide)
 rintro ag p ⟨h0,h1,h2⟩ ih
 by_cases hp:p<11
 ·rw [if_pos (by simpa using hp)]
  have e:=C5 (v:=p) h0 (by omega)
  by_cases hn:n=2^p.toNat
  ·rw [if_pos (by rw [e];simpa using hn)]
   exact .inl ⟨p.toNat,by omega,hn,by rw [show ((p.toNat:Nat):Int)=p by omega]⟩
  ·rw [if_neg (by rw [e];simpa using hn)]
   refine ih (p+1) ⟨by omega,by omega,fun d hd hlt=> ?_⟩ (by omega)
   rcases Int.lt_or_eq_of_le (show (d:Int)≤p by omega) with h|h
   ·exact h2 d hd h
   ·have:p.toNat=d:=by omega
    rw [←this];exact hn
 ·rw [if_neg (by simpa using hp)]
  exact .inr ⟨rfl,fun d hd=>h2 d hd (by omega)⟩
theorem LN {l:List (List Int)} {x:Int×Int} (hx:x=kC (l.length:Int)) (h:(x.2 !=0)=false):kh l:=by
 rcases DD (l.length:Int) with ⟨d,h1,h2,h3⟩|⟨h1,_⟩
 ·exact ⟨d,h1,by exact_mod_cast h2⟩
 ·rw [hx,h1] at h;exact absurd h (by decide)
section
variable {I:List Int→List Int→List Int}
theorem zn: ∀{k:Nat} {l:List (List Int)},l.length=2*k→(kg I l).length=k
 | 0,l,h=>by
  have:l=[]:=List.length_eq_zero_iff.1 (by omega)
  subst this;rfl
 | k+1,a::b::l,h=>by
  simp only [kg,List.length_cons] at h⊢
  rw [zn (k:=k) (by omega)]
 | k+1,[],h=>by simp at h
 | k+1,[a],h=>by simp at h;omega
end
section
variable {I:List Int→List Int→List Int}
def upL (I:List Int→List Int→List Int):Nat→List (List Int)→List (List Int)
 | 0,l=>l
 | k+1,l=>upL I k (kg I l)
end
section
variable {I:List Int→List Int→List Int}
theorem DE: ∀{k d:Nat} {l:List (List Int)},l.length=2^d→k≤d→(upL I k l).length=2^(d - k)
 | 0,d,l,h,_=>by simpa [upL] using h
 | k+1,0,l,h,hk=>absurd hk (by omega)
 | k+1,d+1,l,h,hk=>by
  rw [upL,DE (d:=d) (zn (by rw [h,Nat.pow_succ];omega)) (by omega)]
  congr 1;omega
end
section
variable {I:List Int→List Int→List Int}
theorem DF {α:Type} {d:List (List Int)→α}: ∀{l p:List (List Int)},eD (cE l) (fun (ag:List (List Int)→α) (y:List (List Int)) (p:List (List Int))=>aa (I (gt y 0) (gt y 1)) fun x=>ag (p++[x])) d p=d (p++kg I l)
 | [],p=>by simp [cE,eD,kg]
 | [_],p=>by simp [cE,eD,kg]
 | a::b::l,p=>by
  rw [cE,eD,aa]
  refine (DF (l:=l)).trans ?_
  simp [gt,kg]
end
theorem LO (s:List (List (List Int))):mg s=s.reverse:=by
 unfold mg
 refine fp (P:=fun p:Int×Int×List (List (List Int))=>0≤p.1∧p.1+p.2.1=(s.length:Int) - 1∧p.1≤p.2.1+1∧p.2.2.length=s.length∧ ∀k:Nat,k<s.length→p.2.2[k]? =if (k:Int)<p.1∨p.2.1<k then s[s.length - 1 - k]? else s[k]?)
  (Q:=fun x=>x=s.reverse) (meas:=fun p=>(p.2.1 - p.1).toNat) ?_ _ _ ⟨Int.le_refl 0,by show (0:Int)+((s.length:Int) - 1)=_;omega,by show (0:Int)≤(s.length:Int) - 1+1;omega,rfl,fun k hk=>by rw [if_neg (by show¬((k:Int)<0∨(s.length:Int) - 1<k);omega)]⟩ (by show ((s.length:Int) - 1 - 0).toNat<((s.length:Int) - 1 - 0).toNat+1;omega)
 rintro ag ⟨i,j,t⟩ ⟨h0,h1,h2,h3,h4⟩ ih
 simp only at h0 h1 h2 h3 h4⊢
 by_cases hij:i<j
 ·rw [if_pos (by simpa using hij)]
  refine ih _ ⟨by simp only;omega,by simp only;omega,by simp only;omega,by simp [st,h3],fun k hk=> ?_⟩ (by simp only;omega)
  simp only [st]
  have gi:t[i.toNat]? =s[i.toNat]? :=by rw [h4 _ (by omega),if_neg (by omega)]
  have gj:t[j.toNat]? =s[j.toNat]? :=by rw [h4 _ (by omega),if_neg (by omega)]
  have vi:gt t i=(s[i.toNat]?).getD default:=by rw [←gi];obtain ⟨n,rfl⟩:=Int.eq_ofNat_of_zero_le h0;rw [q7];simp [List.getD_eq_getElem?_getD]
  have vj:gt t j=(s[j.toNat]?).getD default:=by rw [←gj];obtain ⟨n,rfl⟩:=Int.eq_ofNat_of_zero_le (show 0≤j by omega);rw [q7];simp [List.getD_eq_getElem?_getD]
  have si:s[i.toNat]? =some s[i.toNat]:=List.getElem?_eq_getElem (by omega)
  have sj:s[j.toNat]? =some s[j.toNat]:=List.getElem?_eq_getElem (by omega)
  rw [vi,vj]
  by_cases e1:k=j.toNat
  ·subst e1
   rw [List.getElem?_set_self (by rw [List.length_set,h3];omega),if_pos (by omega),show s.length - 1 - j.toNat=i.toNat by omega,si];rfl
  ·rw [List.getElem?_set_ne (Ne.symm e1)]
   by_cases e2:k=i.toNat
   ·subst e2
    rw [List.getElem?_set_self (by rw [h3];omega),if_pos (by omega),show s.length - 1 - i.toNat=j.toNat by omega,sj];rfl
   ·rw [List.getElem?_set_ne (Ne.symm e2),h4 k hk]
    by_cases c:(k:Int)<i∨j<k
    ·rw [if_pos c,if_pos (by omega)]
    ·rw [if_neg c,if_neg (by omega)]
 ·rw [if_neg (by simpa using hij)]
  refine List.ext_getElem? fun k=> ?_
  by_cases hk:k<s.length
  ·rw [List.getElem?_reverse hk,h4 k hk]
   split
   ·rfl
   ·congr 1;omega
  ·rw [List.getElem?_eq_none (by omega),List.getElem?_eq_none (by simp;omega)]
section
variable {I:List Int→List Int→List Int}
theorem DG {α:Type} {rest:List (List (List Int))→α}: ∀{d n:Nat} {l:List (List Int)} {acc:List (List (List Int))} {dd:List (List Int)×List (List (List Int))→α},l.length=2^d→d<n→
  ae n (fun (ag:List (List Int)×List (List (List Int))→α) (p:List (List Int)×List (List (List Int)))=>if decide ((p.1.length:Int)>1) then eD (cE p.1) (fun ag5 y5 p5=>aa (I (gt y5 0) (gt y5 1)) fun x8=>ag5 (p5++[x8])) (fun p5=>ag (p5,p.2++[p5])) [] else rest p.2) dd (l,acc)=rest (acc++(List.range d).map fun k=>upL I (k+1) l)
 | 0,n+1,l,acc,dd,h,_=>by
  rw [ae,if_neg (by rw [h];decide)];simp
 | d+1,0,l,acc,dd,h,hn=>absurd hn (by omega)
 | 0,0,l,acc,dd,h,hn=>absurd hn (by omega)
 | d+1,n+1,l,acc,dd,h,hn=>by
  have hp:0<2^d:=Nat.pow_pos (by decide)
  rw [ae,if_pos (by simp only [decide_eq_true_eq];rw [h,Nat.pow_succ];omega),DF,List.nil_append]
  rw [DG (d:=d) (n:=n) (zn (by rw [h,Nat.pow_succ];omega)) (by omega)]
  rw [List.range_succ_eq_map,List.map_cons,List.map_map,List.append_assoc]
  rfl
end
section
variable {I:List Int→List Int→List Int}
theorem LQ {l:List (List Int)} {d:Nat} (h:l.length=2^d) (hd:d≤10):qw l=(List.range (d+1)).map fun v=>upL jx (d - v) l:=by
 unfold qw
 have hlt:d<l.length+1:=by rw [h];have:=Nat.lt_two_pow_self (n:=d);omega
 refine (DG (I:=jx) (rest:=fun x=>aa (mg x) fun y=>y) h hlt).trans ?_
 simp only [aa]
 rw [LO]
 refine List.ext_getElem (by simp) fun i h1 h2=> ?_
 rw [List.getElem_reverse,List.getElem_map,List.getElem_range]
 simp only [List.length_reverse,List.length_append,List.length_map,List.length_range,List.length_cons,List.length_nil] at h1
 by_cases hi:i<d
 ·rw [List.getElem_append_right (by simp;omega),List.getElem_map,List.getElem_range]
  congr 1
  simp;omega
 ·have e:i=d:=by omega
  subst e
  rw [List.getElem_append_left (by simp)]
  simp [upL]
end
theorem LR {l:List (List Int)} {level index:Int} {x:List (List (List Int))×Int} (hx:x=qx l level index):x.2≠0∨(0≤level∧level<(x.1.length:Int)∧0≤index∧index<((gt x.1 level).length:Int)):=by
 subst hx
 unfold qx
 simp only [aa]
 rcases DD (l.length:Int) with ⟨d,h1,h2,h3⟩|⟨h1,_⟩
 ·have hl:l.length=2^d:=by exact_mod_cast h2
  rw [h3]
  simp only [bne_self_eq_false,Bool.false_eq_true,if_false]
  by_cases c1:level<0
  ·left;simp [c1]
  by_cases c2:level>(d:Int)
  ·left;simp [c1,c2]
  by_cases c3:index<0
  ·left;simp [c1,c2,c3]
  have e:=C5 (v:=level) (by omega) (by omega)
  by_cases c4:index≥ay .i64 1 level
  ·left;simp [c1,c2,c3,c4]
  right
  simp only [c1,c2,c3,c4,decide_false,Bool.false_eq_true,if_false]
  rw [LQ hl h1]
  have hlt:level.toNat<d+1:=by omega
  have hg:gt ((List.range (d+1)).map fun v=>upL jx (d - v) l) level=upL jx (d - level.toNat) l:=by
   obtain ⟨v,rfl⟩:=Int.eq_ofNat_of_zero_le (show 0≤level by omega)
   rw [q7,List.getD_eq_getElem?_getD,List.getElem?_eq_getElem (by simpa using hlt)]
   simp
  rw [hg,DE hl (by omega)]
  rw [e] at c4
  refine ⟨by omega,by simp;omega,by omega,?_⟩
  rw [show d - (d - level.toNat)=level.toNat by omega]
  push_cast
  omega
 ·left;rw [h1];simp
theorem DH {a b:List Int} {n:Nat} (ha:a.length≤n) (hb:b.length≤n): ∀j:Int,(gt [a,b] j).length≤n:=by
 intro j
 unfold gt
 match h:j.toNat with
 | 0=>simpa using ha
 | 1=>simpa using hb
 | k+2=>exact Nat.zero_le _
theorem LS (a b:List Int):nR [a,b]=a++b:=by
 unfold nR aa tZ
 have g0:gt [a,b] (0:Int)=a:=rfl
 have g1:gt [a,b] (1:Int)=b:=rfl
 have n0: ¬((a.length:Int)<0):=by omega
 have n1: ¬((a.length:Int)+(b.length:Int)<0):=by omega
 simp [ae,g0,g1,n0,n1]
theorem LT {a b x:List Int} (h:x=nR [a,b]) (ha:a.length≤32) (hb:b.length≤32):x.length≤64:=by
 rw [h,LS,List.length_append];omega
theorem DI {α:Type}: ∀{l:List α},2*(cE l).length≤l.length
 | a::b::l=>by
  have:=DI (l:=l)
  simp only [cE,List.length_cons];omega
 | []=>by simp [cE]
 | [_]=>by simp [cE]
theorem zo {l:List Int} {x:am} (hx:x=gn l):hgt x=1+l.length:=by subst hx;rw [zj,Dw]
theorem LU (d:fo):nF [d]=l6 d:=by
 unfold nF
 rw [if_neg (by simp),if_neg (by simp)]
 show ae 2 _ _ 0=_
 simp only [ae,aa]
 cases hx:l6 d with
 | true=>simp [gt,hx]
 | false=>simp [gt,hx]
theorem LV {d:fo} (h:l6 d=true):0≤d.Depth∧d.Depth≤5:=by
 unfold l6 at h
 split at h
 ·rename_i h1
  simp only [pM,lR,Bool.and_eq_true,beq_iff_eq] at h1
  omega
 ·repeat' (split at h)
  all_goals first|cases h|(simp only [decide_eq_true_eq] at*;omega)
instance Rp (b:aY) (r:bg):CF (nI b r) (fun x=>x=true→0≤r.Depth∧r.Depth≤5):=⟨fun h=>by
 unfold nI at h
 simp only [aa,LU] at h
 repeat' (split at h)
 all_goals first|cases h|(simp only [beq_iff_eq] at*;omega)|exact LV (by assumption)⟩
end Go.Proofs.YteibkofekpejgaaGreatDoor
