/- Texts of this proof, one after the other: EI. -/
import Derived.Test.YteibkofekpejgaaGreatDoorZ5
import Derived.Test.YteibkofekpejgaaGreatDoorZ7
set_option linter.unusedVariables false
set_option linter.unusedSimpArgs false
namespace Go.Proofs.YteibkofekpejgaaGreatDoor
open Go.RowKit
def eo (s:List Int) (i:Int) (v:List Int):List Int:=s.take i.toNat++v++s.drop i.toNat
abbrev vi (n:Int):Value:= .int .i64 n
theorem pR {c:Cx}: ∀{l:List Int} {cs:List Value},a7 (rV ro0 1 false) c cs (l.map (V.int .i64))↔cs=l.map vi∧ ∀x∈l,Rng .i64 x
 | [],cs=>by simp [a7]
 | a::l,cs=>by
  simp only [List.map_cons,a7]
  constructor
  ·rintro ⟨c1,c2,rfl,⟨⟨h1,_,h3⟩,h2⟩,h⟩
   obtain ⟨rfl,h4⟩:=pR.1 h
   match c1,h1 with
   | [u],_=>
    simp only [mkV,List.headD_cons,rd] at h2
    obtain ⟨rfl,h5⟩:=h2
    refine ⟨rfl,fun x hx=> ?_⟩
    rcases List.mem_cons.1 hx with rfl|hx
    ·exact h5
    ·exact h4 x hx
  ·rintro ⟨rfl,h⟩
   refine ⟨[vi a],l.map vi,rfl,⟨⟨rfl,fun _=>rfl,by simp [Value.oneCell']⟩,?_⟩,pR.2 ⟨rfl,fun x hx=>h x (List.mem_cons_of_mem _ hx)⟩⟩
   simp only [mkV,List.headD_cons,rd]
   exact ⟨rfl,h a (by simp)⟩
theorem kj (b:Nat): ∀(vs:List Value) (o:Nat) (w:World) (cur:Array Value) (T:TypeId),w.heap[b]? =some (.cells cur T (0,0))→o+vs.length≤cur.size→
  ∃cur':Array Value,(w.setCells b o vs).heap[b]? =some (.cells cur' T (0,0))∧cur'.size=cur.size∧cur'.toList=cur.toList.take o++vs++cur.toList.drop (o+vs.length)
 | [],o,w,cur,T,h,_=>⟨cur,h,rfl,by simp⟩
 | v::vs,o,w,cur,T,h,hl=>by
  simp only [List.length_cons] at hl
  have h1:(w.setCell ⟨b,o,none⟩ v).heap[b]? =some (.cells (cur.setIfInBounds o v) T (0,0)):=by
   rw [setCell_eq_setRow w b o cur T (0,0) v h]
   exact setRow_heap w b cur _ T _ h
  obtain ⟨cur',g1,g2,g3⟩:=kj b vs (o+1) _ _ T h1 (by simp;omega)
  refine ⟨cur',g1,by simpa using g2,?_⟩
  rw [g3]
  have e:(cur.setIfInBounds o v).toList=cur.toList.set o v:=by simp
  have ho:o<cur.toList.length:=by simp;omega
  rw [e]
  rw [List.take_set,List.drop_set_of_lt (by omega)]
  rw [List.take_add_one,List.getElem?_eq_getElem ho]
  simp only [List.length_cons,Option.toList_some,List.append_assoc]
  rw [List.set_append_right _ _ (by simp;omega)]
  simp only [List.length_take,show min o cur.toList.length=o by omega,Nat.sub_self,List.set_cons_zero]
  simp [List.append_assoc,Nat.add_assoc,Nat.add_comm 1]
theorem kl (b:Nat): ∀(vs:List Value) (o:Nat) (w:World) (k:Nat),k≠b→(w.setCells b o vs).heap[k]? =w.heap[k]?
 | [],_,_,_,_=>rfl
 | v::vs,o,w,k,h=>by
  rw [World.setCells,kl b vs (o+1) _ k h]
  exact Below.heap_setCell _ _ _ _ h
theorem km (b:Nat): ∀(vs:List Value) (o:Nat) (w:World),(w.setCells b o vs).heap.size=w.heap.size∧(w.setCells b o vs).os=w.os∧(w.setCells b o vs).tape=w.tape∧(w.setCells b o vs).output=w.output
 | [],_,_=>⟨rfl,rfl,rfl,rfl⟩
 | v::vs,o,w=>by
  obtain ⟨h1,h2,h3,h4⟩:=km b vs (o+1) (w.setCell ⟨b,o,none⟩ v)
  exact ⟨by rw [World.setCells,h1];simp [World.setCell],h2,h3,h4⟩
theorem xO {c:Cx} {ρ0:Ro} {ks:Nat→Nat} {z z2:Option Bool} {s v l':List Int} {uv:Value} (hin:nk c c ρ0 (bz ks 0 [.own 3 1 false z (s.map (V.int .i64)),.own 3 1 false z2 (v.map (V.int .i64))])) (h1:ρ0 1=some uv) {vb b cap:Nat} {w':World} {cur:Array Value}
  (hvb:blk uv=some vb) (hne:vb≠b) (hb:(b∈c.X∧b∈c.Y)∨c.w.heap.size≤b) (hos:w'.os=c.w.os) (htp:w'.tape=c.w.tape) (hou:w'.output=c.w.output) (hsz:c.w.heap.size≤w'.heap.size) (hbs:b<w'.heap.size) (hk: ∀k,k<c.w.heap.size→k≠b→w'.heap[k]? =c.w.heap[k]?)
  (hrow:w'.heap[b]? =some (.cells cur 3 (0,0))) (hlen:l'.length≤cap+1) (hcap:cap+1≤maxLen) (hcs:cur.size=cap+1) (hl:cur.toList.take l'.length=l'.map vi) (hr: ∀x∈l',Rng .i64 x) (hL:l'.length≤LEN) (e:Ending) (he:e= .returned (.slice (some ⟨b,0,none⟩) l'.length (cap+1))):
  td En c (.own 0) (bz ks 0 [.own 3 1 false none (l'.map (V.int .i64)),.own 3 1 false none (v.map (V.int .i64))]++[]) e w':=by
 have hc': ∀k,k∈b::c.X→k<w'.heap.size:=by
  intro k hk
  rcases List.mem_cons.1 hk with rfl|hk
  ·exact hbs
  ·exact Nat.lt_of_lt_of_le (c.ok k hk) hsz
 obtain ⟨v',e1,ho,hge,hone,a,cp,es,hz⟩:=hin.1 1 _ rfl
 rw [h1] at e1;cases e1
 have hbY: ∀k,k<c.w.heap.size→k∉c.Y→k≠b:=by
  rintro k h1 h2 rfl
  rcases hb with h|h
  ·exact h2 h.2
  ·omega
 have hpub:c.pub ⟨b::c.X,w',hc',[]⟩:=by
  refine ⟨hsz,fun k hks hkX=> ?_⟩
  have hkb:k≠b:=by
   rintro rfl
   rcases hb with h|h
   ·exact hkX h.1
   ·omega
  exact ⟨fun h'=>by rcases List.mem_cons.1 h' with h'|h';exact hkb h';exact hkX h',fun o ho _=>(hk k hks hkb).trans ho⟩
 refine ⟨_,⟨b::c.X,w',hc',[]⟩,(fun i=>if i=0 then some (.slice (some ⟨b,0,none⟩) l'.length (cap+1)) else if i=1 then some uv else none),he,rfl,⟨⟨hos,htp,hou,hsz,fun k h1 h2=>hk k h1 (hbY k h1 h2)⟩,fun k h1 h2=> ?_⟩,⟨rfl,rfl⟩,?_,?_,?_⟩
 ·have:=hbY k h1 h2
  simp [this]
 ·intro i bb hi
  match i,hi with
  | 0,hi=>
   simp [bz,eU] at hi;subst hi
   refine ⟨_,rfl,⟨by simpa using hL,.inr ⟨b,cap,cur,by simp,by simp,hrow,by simpa using hlen,hcap,by simpa [rV] using hcs,?_⟩⟩,fun k hk=> ?_,fun _=>rfl,some ⟨b,0,none⟩,cap+1,by simp,by simp [zOk]⟩
   ·refine pR.2 ⟨?_,hr⟩
    simpa [rV] using hl
   ·simp [blk] at hk;subst hk
    rcases hb with h|h
    ·exact .inr h.2
    ·exact .inl h
  | 1,hi=>
   simp [bz,eU] at hi;subst hi
   refine ⟨uv,rfl,⟨ho.1,?_⟩,hge,hone,a,cp,by simpa using es,kY hz⟩
   rcases ho.2 with h'|⟨g',cap',cur',rfl,k1,k2,k3,k4,k5,k6⟩
   ·exact .inl h'
   ·have e3:g'=vb:=by simpa [blk] using hvb
    subst e3
    exact .inr ⟨g',cap',cur',rfl,by simp [k1],(hk g' (c.ok g' k1) hne).trans k2,k3,k4,k5,cR hpub k6⟩
  | i+2,hi=>simp [bz] at hi
 ·intro i hi
  simp [bz] at hi
  have h0:i≠0:=by omega
  have h1:i≠1:=by omega
  simp [h0,h1]
 ·have hu: ∀{ρ:Ro} {i:Nat} {y:Value} {n cp:Nat} {a:Option Addr},ρ i=some y→y= .slice a n cp→ak ρ i=blk y:=fun h e=>by unfold ak;rw [h,e]
  intro i j bi bj k hij hi hj hki hkj
  have f0:ak (fun i=>if i=0 then some (.slice (some ⟨b,0,none⟩) l'.length (cap+1)) else if i=1 then some uv else none) 0=some b:=by rw [hu rfl rfl];rfl
  have f1:ak (fun i=>if i=0 then some (.slice (some ⟨b,0,none⟩) l'.length (cap+1)) else if i=1 then some uv else none) 1=some vb:=by rw [hu rfl es];exact hvb
  match i,j,hi,hj with
  | 0,0,_,_=>exact hij rfl
  | 1,1,_,_=>exact hij rfl
  | 0,1,_,_=>rw [f0] at hki;rw [f1] at hkj;cases hki;cases hkj;exact hne rfl
  | 1,0,_,_=>rw [f1] at hki;rw [f0] at hkj;cases hki;cases hkj;exact hne rfl
  | i+2,_,hi,_=>simp [bz] at hi
  | 0,j+2,_,hj=>simp [bz] at hj
  | 1,j+2,_,hj=>simp [bz] at hj
theorem KI {s:List Int} {i:Nat} {x:Int} (h:i≤s.length):(eo s (i:Int) [x]).length=s.length+1:=by
 simp only [eo,Int.toNat_natCast,List.length_append,List.length_take,List.length_drop,List.length_cons,List.length_nil];omega
theorem xP {s:List Int} {i:Int} {x:Int} (h: ∀y∈s,Rng .i64 y) (hx:Rng .i64 x): ∀y∈eo s i [x],Rng .i64 y:=by
 intro y hy
 simp only [eo,List.mem_append,List.mem_singleton] at hy
 rcases hy with (hy|rfl)|hy
 ·exact h y (List.mem_of_mem_take hy)
 ·exact hx
 ·exact h y (List.mem_of_mem_drop hy)
theorem tD (w:World) (o:Obj):(w.alloc o).heap.size=w.heap.size+1:=by simp
theorem KJ (g j:Nat):(⟨g,0,none⟩:Addr).add j=⟨g,0+j,none⟩:=by unfold Addr.add;split<;>simp_all
theorem xQ {k:Nat}:(Builtin.zeroCells (Value.int .i64 0).cells k).size=k:=by simp [Builtin.zeroCells,Value.cells]
set_option maxHeartbeats 4000000 in
theorem KK (z0 z2:Option Bool) (s_:List Int) (i_:Int) (v:List Int) (hp0:0≤i_) (hp1:i_.toNat≤s_.length) (hp2:v.length=1) (hp3:s_.length≤1000):
  ee En 71 [.own 0,.int .i64 i_,.own 1] [.own 3 1 false z0 (s_.map (V.int .i64)),.own 3 1 false z2 (v.map (V.int .i64))] (.own 0) [.own 3 1 false none ((eo s_ i_ v).map (V.int .i64)),.own 3 1 false none (v.map (V.int .i64))] []:=by
 refine ⟨(show∀xs w,(callFunc 71 xs).run Tryz.prog w= .ok (.enter 71 xs) w from enters_of Tryz.func71 (by kernel_rfl) rfl),rfl,fun c us ρ0 ks hg hin hus=> ?_⟩
 simp only [rdT,rd] at hus
 obtain ⟨u,c2,rfl,⟨hu0,hone⟩,ui,c3,rfl,⟨rfl,hir⟩,uv,c4,rfl,⟨huv,honev⟩,rfl⟩:=hus
 obtain ⟨x,rfl⟩: ∃x,v=[x]:=by
  match v,hp2 with
  | [x],_=>exact ⟨x,rfl⟩
 obtain ⟨i,rfl⟩: ∃i:Nat,i_=i:=⟨i_.toNat,by omega⟩
 rw [Int.toNat_natCast] at hp1
 obtain ⟨u',e1,hso,hsm,_,a,cp,es,hz⟩:=hin.1 0 _ rfl
 rw [hu0] at e1;cases e1
 obtain ⟨uv',e1,hvo,hvm,_,av,cpv,esv,hzv⟩:=hin.1 1 _ rfl
 rw [huv] at e1;cases e1
 rcases hvo.2 with ⟨_,_,h0⟩|⟨vb,vcap,vcur,ev,vX,vh,v3,v4,v5,v6⟩
 ·simp at h0
 subst ev
 simp only [List.length_map,List.length_cons,List.length_nil,Nat.zero_add] at*
 obtain ⟨hvc,hvr⟩:=pR.1 v6
 have hxr:Rng .i64 x:=hvr x (by simp)
 have hvc':vcur.toList.take 1=[vi x]:=by simpa [rV] using hvc
 have hvz:0<vcur.size:=by
  have:=congrArg List.length hvc'
  simp at this;omega
 have hvcell:c.w.cell? ⟨vb,0,none⟩=some (vi x):=by
  simp only [World.cell?,vh]
  have e:=congrArg (·[0]?) hvc'
  simp only [List.getElem?_take,List.getElem?_cons_zero] at e
  simpa using e
 have hvs: ∀(j:Nat) (y:Value),[vi x][j]? =some y→c.w.cell? ⟨vb,0+j,none⟩=some y:=by
  intro j y hj
  match j,hj with
  | 0,hj=>simp at hj;subst hj;exact hvcell
  | j+1,hj=>simp at hj
 have h1v: ∀y∈ [vi x],y.oneCell'=true:=by simp [vi,Value.oneCell']
 have hvlt:=c.ok vb vX
 have L:=Tryz.laysNm221
 have hG: ∀n cap,n≤1000→ ∃G,grownCap c.w (n+1) cap 3=G+1∧n+1≤G+1∧G+1≤maxLen:=by
  intro n cap hn
  have h1:=grownCap_ge c.w (n+1) cap 3
  have h2:=grownCap_le_maxLen c.w (n+1) cap 3 (by unfold maxLen;omega)
  exact ⟨grownCap c.w (n+1) cap 3 - 1,by omega,by omega,by omega⟩
 rcases hso.2 with ⟨a',ea,h0⟩|⟨g,cap,cur,eu,gX,gh,g3,g4,g5,g6⟩
 · -- nothing there yet
  have hs:s_=[]:=by cases s_ with|nil=>rfl|cons y s=>simp at h0
  subst hs ea
  have hi:i=0:=by simp at hp1;omega
  subst hi
  obtain ⟨G,eG,hG1,hG2⟩:=hG 0 0 (by omega)
  refine (Any2.slices_Insert_int_end_grow (P:=Tryz.prog) (ρ:=Tryz.laysNm221_ren) L a' 0 0 vb 0 1 (vcap+1) [] [vi x] c.w (by omega) (by omega) (by omega) (by omega) rfl rfl (fun _=>rfl) (fun a _ j y hj=>by simp at hj) hvs h1v).mono ?_
  rintro e w' ⟨he,hw⟩
  rw [show Tryz.laysNm221_ren.t 3=3 from rfl] at he hw
  rw [eG] at he hw
  subst hw
  have hrow:=heap_alloc_new c.w.drew (.cells (([]++[vi x]).toArray++Builtin.zeroCells (Value.int .i64 0).cells (G+1 - (0+1))) 3)
  refine xO (vb:=vb) (w':=c.w.drew.alloc (.cells (([]++[vi x]).toArray++Builtin.zeroCells (Value.int .i64 0).cells (G+1 - (0+1))) 3)) (s:=[]) (v:=[x]) (l':=eo [] 0 [x]) (b:=c.w.heap.size) (cap:=G) hin huv rfl (by omega) (.inr (Nat.le_refl _)) rfl rfl rfl (by have:=tD c.w.drew;rw [this];exact Nat.le_succ _) (by have:=tD c.w.drew;rw [this];exact Nat.lt_succ_self _) (fun k hk _=>Below.heap_alloc c.w.drew _ k hk) hrow ?_ hG2 ?_ ?_ (xP (by simp) hxr) ?_ e ?_
  ·simp [eo]
  ·simp [xQ];omega
  ·simp [eo]
  ·simp [eo,LEN]
  ·simpa [eo] using he
 -- a row of one's own
 subst eu
 simp only [List.length_map] at*
 obtain ⟨hsc,hsr⟩:=pR.1 g6
 have hsc':cur.toList.take s_.length=s_.map vi:=by simpa [rV] using hsc
 have g5':cur.size=cap+1:=by simpa [rV] using g5
 have hglt:=c.ok g gX
 have hgY:g∈c.Y:=by
  rcases hsm g rfl with h|h
  ·omega
  ·exact h
 have hne:vb≠g:=by
  intro e
  refine hin.2.2 0 1 _ _ g (by omega) rfl rfl ?_ ?_
  ·simp only [ak,hu0];rfl
  ·simp only [ak,huv];rw [←e];rfl
 have hcell: ∀j,j<cap+1→ ∃y,cur.toList[j]? =some y∧c.w.cell? ⟨g,0+j,none⟩=some y:=by
  intro j hj
  have hj':j<cur.toList.length:=by simp [g5'];omega
  refine ⟨cur.toList[j],List.getElem?_eq_getElem hj',?_⟩
  simp only [World.cell?,gh,Nat.zero_add]
  simp
 have hcs: ∀(j:Nat) (y:Value),(s_.map vi)[j]? =some y→c.w.cell? ⟨g,0+j,none⟩=some y:=by
  intro j y hj
  have hjl:j<s_.length:=by have:=(List.getElem?_eq_some_iff.1 hj).1;simpa using this
  obtain ⟨y',h1,h2⟩:=hcell j (by omega)
  rw [h2,←h1,←hj,←hsc',List.getElem?_take,if_pos hjl]
 have hfz: ∀b' T cc,c.w.heap[b']? =some (.cells cc T (0,0))→ ∀j,c.w.frozen? ⟨b',j,none⟩=false:=by
  intro b' T cc h j
  simp [World.frozen?,h]
 have h1c: ∀y∈s_.map vi,y.oneCell'=true:=by
  intro y hy
  obtain ⟨n,_,rfl⟩:=List.mem_map.1 hy
  rfl
 have hlen:=KI (x:=x) hp1
 have hmap:(eo s_ (i:Int) [x]).map vi=(s_.map vi).take i++[vi x]++(s_.map vi).drop i:=by
  simp [eo,List.map_take,List.map_drop]
 by_cases hroom:s_.length+1≤cap+1
 · -- in place
  have fin: ∀e w' (cur':Array Value),w'.os=c.w.os→w'.tape=c.w.tape→w'.output=c.w.output→w'.heap.size=c.w.heap.size→(∀k,k≠g→w'.heap[k]? =c.w.heap[k]?)→w'.heap[g]? =some (.cells cur' 3 (0,0))→cur'.size=cur.size→
    cur'.toList.take (s_.length+1)=(eo s_ (i:Int) [x]).map vi→e= .returned (.slice (some ⟨g,0,none⟩) (s_.length+1) (cap+1))→
    td En c (.own 0) (bz ks 0 [.own 3 1 false none ((eo s_ (i:Int) [x]).map (V.int .i64)),.own 3 1 false none ([x].map (V.int .i64))]++[]) e w':=by
   intro e w' cur' k1 k2 k3 k4 k5 k6 k7 k8 k9
   refine xO (vb:=vb) (s:=s_) (v:=[x]) (b:=g) (cap:=cap) hin huv rfl hne (.inl ⟨gX,hgY⟩) k1 k2 k3 (by omega) (by omega) (fun k _ hk=>k5 k hk) k6 (by omega) g4 (by omega) (by rw [hlen];exact k8) (xP hsr hxr) (by rw [hlen];unfold LEN;omega) e (by rw [hlen];exact k9)
  by_cases hi:i=s_.length
  ·subst hi
   have hsp: ∀j,j<1→(c.w.cell? ⟨g,0+s_.length+j,none⟩).isSome=true:=by
    intro j hj
    obtain ⟨y,_,h2⟩:=hcell (s_.length+j) (by omega)
    rw [show 0+s_.length+j=0+(s_.length+j) by omega,h2];rfl
   refine (Any2.slices_Insert_int_end_room (P:=Tryz.prog) (ρ:=Tryz.laysNm221_ren) L g 0 s_.length (cap+1) vb 0 1 (vcap+1) [vi x] c.w (by omega) hroom (by unfold maxLen at g4;omega) rfl hsp (fun j hj=>hfz g _ _ gh _) hvs h1v).mono ?_
   rintro e w' ⟨he,rfl⟩
   obtain ⟨cur',q1,q2,q3⟩:=kj g [vi x] (0+s_.length) c.w cur 3 gh (by simp;omega)
   obtain ⟨r1,r2,r3,r4⟩:=km g [vi x] (0+s_.length) c.w
   refine fin e _ cur' r2 r3 r4 r1 (fun k hk=>kl g _ _ _ k hk) q1 q2 ?_ he
   rw [q3,hmap,Nat.zero_add,hsc',List.take_of_length_le (l:=s_.map vi) (by simp),List.drop_of_length_le (l:=s_.map vi) (by simp),List.append_nil]
   exact List.take_left' (by simp)
  ·have hsp: ∀j,j<s_.length+1→(c.w.cell? ⟨g,0+j,none⟩).isSome=true:=by
    intro j hj
    obtain ⟨y,_,h2⟩:=hcell j (by omega)
    rw [h2];rfl
   refine (Any2.slices_Insert_int_shift (P:=Tryz.prog) (ρ:=Tryz.laysNm221_ren) L g 0 s_.length (cap+1) i vb 0 1 (vcap+1) (s_.map vi) [vi x] c.w (by omega) (by omega) hroom (by unfold maxLen at g4;omega) hne (by simp) rfl hcs hsp (fun j hj=>hfz g _ _ gh _) hvs h1c h1v
    3 3 vcur.size cur.size (by simp [World.shape?,vh]) (by simp [World.shape?,gh]) (by omega) (hfz vb _ _ vh _) (hfz vb _ _ vh _)).mono ?_
   rintro e w' ⟨he,rfl⟩
   have gh':c.w.drew.heap[g]? =some (.cells cur 3 (0,0)):=gh
   have hdl:((s_.map vi).drop i).length=s_.length - i:=by simp
   obtain ⟨cur1,q1,q2,q3⟩:=kj g ((s_.map vi).drop i) (0+(i+1)) c.w.drew cur 3 gh' (by rw [hdl];omega)
   obtain ⟨r1,r2,r3,r4⟩:=km g ((s_.map vi).drop i) (0+(i+1)) c.w.drew
   obtain ⟨cur2,t1,t2,t3⟩:=kj g [vi x] (0+i) _ cur1 3 q1 (by simp;omega)
   obtain ⟨y1,y2,y3,y4⟩:=km g [vi x] (0+i) (c.w.drew.setCells g (0+(i+1)) ((s_.map vi).drop i))
   refine fin e _ cur2 (y2.trans r2) (y3.trans r3) (y4.trans r4) (y1.trans r1) (fun k hk=>(kl g _ _ _ k hk).trans (kl g _ _ c.w.drew k hk)) t1 (t2.trans q2) ?_ he
   have hcl:cur.toList.length=cap+1:=by simp [g5']
   have hci:cur.toList.take i=(s_.map vi).take i:=by
    rw [←hsc',List.take_take,show min i s_.length=i by omega]
   have e1:cur1.toList.take i=(s_.map vi).take i:=by
    rw [q3,Nat.zero_add,List.append_assoc,List.take_append_of_le_length (by rw [List.length_take];omega),List.take_take,show min i (i+1)=i by omega,hci]
   have e2:cur1.toList.drop (i+1)=(s_.map vi).drop i++cur.toList.drop (i+1+((s_.map vi).drop i).length):=by
    rw [q3,Nat.zero_add,List.append_assoc]
    exact List.drop_left' (by rw [List.length_take];omega)
   rw [t3,hmap,Nat.zero_add,List.length_singleton,e1,e2,←List.append_assoc]
   exact List.take_left' (by simp;omega)
 · -- a new row
  obtain ⟨G,eG,hG1,hG2⟩:=hG s_.length (cap+1) hp3
  have fin: ∀e w' (cur':Array Value),w'.os=c.w.os→w'.tape=c.w.tape→w'.output=c.w.output→w'.heap.size=c.w.heap.size+1→(∀k,k<c.w.heap.size→w'.heap[k]? =c.w.heap[k]?)→w'.heap[c.w.heap.size]? =some (.cells cur' 3 (0,0))→cur'.size=G+1→
    cur'.toList.take (s_.length+1)=(eo s_ (i:Int) [x]).map vi→e= .returned (.slice (some ⟨c.w.heap.size,0,none⟩) (s_.length+1) (G+1))→
    td En c (.own 0) (bz ks 0 [.own 3 1 false none ((eo s_ (i:Int) [x]).map (V.int .i64)),.own 3 1 false none ([x].map (V.int .i64))]++[]) e w':=by
   intro e w' cur' k1 k2 k3 k4 k5 k6 k7 k8 k9
   refine xO (vb:=vb) (s:=s_) (v:=[x]) (b:=c.w.heap.size) (cap:=G) hin huv rfl (by omega) (.inr (Nat.le_refl _)) k1 k2 k3 (by omega) (by omega) (fun k hk _=>k5 k hk) k6 (by omega) hG2 k7 (by rw [hlen];exact k8) (xP hsr hxr) (by rw [hlen];unfold LEN;omega) e (by rw [hlen];exact k9)
  by_cases hi:i=s_.length
  ·subst hi
   refine (Any2.slices_Insert_int_end_grow (P:=Tryz.prog) (ρ:=Tryz.laysNm221_ren) L (some ⟨g,0,none⟩) s_.length (cap+1) vb 0 1 (vcap+1) (s_.map vi) [vi x] c.w (by omega) (by omega) (by omega) (by omega) (by simp) rfl (fun h=>by cases h) (fun a ha j y hj=> ?_) hvs h1v).mono ?_
   ·cases ha
    have hadd:(⟨g,0,none⟩:Addr).add j=⟨g,0+j,none⟩:=KJ g j
    rw [hadd];exact hcs j y hj
   rintro e w' ⟨he,hw⟩
   rw [show Tryz.laysNm221_ren.t 3=3 from rfl] at he hw
   rw [eG] at he hw
   subst hw
   have hrow:=heap_alloc_new c.w.drew (.cells ((s_.map vi++[vi x]).toArray++Builtin.zeroCells (Value.int .i64 0).cells (G+1 - (s_.length+1))) 3)
   refine fin e _ _ rfl rfl rfl (tD c.w.drew _) (fun k hk=>Below.heap_alloc c.w.drew _ k hk) hrow ?_ ?_ he
   ·simp [xQ];omega
   ·rw [hmap,List.take_of_length_le (l:=s_.map vi) (by rw [List.length_map];exact Nat.le_refl _),List.drop_of_length_le (l:=s_.map vi) (by rw [List.length_map];exact Nat.le_refl _),List.append_nil,Array.toList_append]
    exact List.take_left' (by rw [List.toList_toArray,List.length_append,List.length_map];rfl)
  ·refine (Any2.slices_Insert_int_grow (P:=Tryz.prog) (ρ:=Tryz.laysNm221_ren) L g 0 s_.length (cap+1) i vb 0 1 (vcap+1) (s_.map vi) [vi x] c.w (by omega) (by omega) (by omega) (by omega) (by omega) (by simp) rfl hcs hvs h1c h1v).mono ?_
   rintro e w' ⟨he,hw⟩
   rw [show Tryz.laysNm221_ren.t 3=3 from rfl] at he hw
   rw [eG] at he hw
   subst hw
   obtain ⟨ROW,hROW⟩: ∃ROW:Array Value,ROW=((s_.map vi).take i).toArray++Builtin.zeroCells (Value.int .i64 0).cells (s_.length+1 - i)++Builtin.zeroCells (Value.int .i64 0).cells (G+1 - (s_.length+1)):=⟨_,rfl⟩
   rw [←hROW]
   have hRs:ROW.size=G+1:=by rw [hROW];simp [xQ];omega
   have hRt:ROW.toList.take i=(s_.map vi).take i:=by
    rw [hROW];simp [List.take_append,List.take_take,show min i s_.length=i by omega]
   have hrow:(c.w.alloc (.cells ROW 3)).drew.heap[c.w.heap.size]? =some (.cells ROW 3 (0,0)):=heap_alloc_new c.w (.cells ROW 3)
   have hdl:((s_.map vi).drop i).length=s_.length - i:=by simp
   obtain ⟨cur1,q1,q2,q3⟩:=kj c.w.heap.size [vi x] i (c.w.alloc (.cells ROW 3)).drew ROW 3 hrow (by simp;omega)
   obtain ⟨r1,r2,r3,r4⟩:=km c.w.heap.size [vi x] i (c.w.alloc (.cells ROW 3)).drew
   obtain ⟨cur2,t1,t2,t3⟩:=kj c.w.heap.size ((s_.map vi).drop i) (i+1) ((c.w.alloc (.cells ROW 3)).drew.setCells c.w.heap.size i [vi x]).drew cur1 3 q1 (by rw [hdl];omega)
   obtain ⟨y1,y2,y3,y4⟩:=km c.w.heap.size ((s_.map vi).drop i) (i+1) ((c.w.alloc (.cells ROW 3)).drew.setCells c.w.heap.size i [vi x]).drew
   refine fin e _ cur2 (y2.trans r2) (y3.trans r3) (y4.trans r4) (y1.trans (r1.trans (tD c.w _))) (fun k hk=>((kl c.w.heap.size _ _ ((c.w.alloc (.cells ROW 3)).drew.setCells c.w.heap.size i [vi x]).drew k (by omega)).trans (kl c.w.heap.size [vi x] i (c.w.alloc (.cells ROW 3)).drew k (by omega))).trans (Below.heap_alloc c.w _ k hk)) t1 (t2.trans (q2.trans hRs)) ?_ he
   have hcl:ROW.toList.length=G+1:=by simp [hRs]
   have e1:cur1.toList.take (i+1)=(s_.map vi).take i++[vi x]:=by
    rw [q3,hRt]
    exact List.take_left' (by simp;omega)
   rw [t3,hmap,e1]
   exact List.take_left' (by simp;omega)
end Go.Proofs.YteibkofekpejgaaGreatDoor
