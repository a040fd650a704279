import Derived.Test.YtcbdmoihobdjaaaVX
namespace Go.Proofs.Ytcbdmoihobdjaaa
open Go.RowKit
inductive Ct where
 | code (c : Code)
 | ops (i : Nat) (ds : List (Nat × Nat)) (l : List Oper)
 | blk (id : Nat)
 | lp (K : St → Prop)
 | fin (Q : Exit → St → Prop)
def cont (E : Env) (J : Cuts) : List Ct → Exit → St → Prop
 | [], _, _ => False
 | .code c :: k, .normal, S => wpA E J c (cont E J k) S
 | .code _ :: k, e, S => cont E J k e S
 | .ops i ds l :: k, .normal, S => opsK E i ds l (cont E J k .normal) S
 | .ops _ _ _ :: k, e, S => cont E J k e S
 | .blk id :: k, e, S => blockK (cont E J k) id e S
 | .lp K :: k, e, S => thenK (cont E J k) K e S
 | .fin Q :: _, e, S => Q e S
section
variable {E : Env} {J : Cuts} {k : List Ct} {S : St}
theorem ct_start {c : Code} {Q : Exit → St → Prop} (h : cont E J [.code c, .fin Q] .normal S) : wpA E J c Q S := h
def seqC (E : Env) (J : Cuts) (M : Bool) (a b : Code) (k : List Ct) (S : St) : Prop := match M with
 | false => cont E J (.code a :: .code b :: k) .normal S
 | true => cont E J (.code a :: .lp (weakK E (cont E J (.code b :: k) .normal)) :: k) .normal S
theorem then_code {b : Code} : thenK (cont E J k) (wpA E J b (cont E J k)) = cont E J (.code b :: k) := by funext e S'; cases e <;> rfl
theorem then_lp {K : St → Prop} : thenK (cont E J k) K = cont E J (.lp K :: k) := by funext e S'; cases e <;> rfl
theorem ct_seq {a b : Code} : cont E J (.code (.seq a b) :: k) .normal S = seqC E J (cutAt J b) a b k S := by
 simp only [cont, wpA, seqC]
 cases cutAt J b with
 | false => simp only [then_code]
 | true => rw [then_lp]
theorem seqC_none {a b : Code} : seqC E J false a b k S = cont E J (.code a :: .code b :: k) .normal S := Eq.trans rfl rfl
theorem seqC_intro {a b : Code} (M : St → Prop) (h2 : ∀ S1, M S1 → cont E J (.code b :: k) .normal S1)
  (h1 : (∀ S1, M S1 → cont E J (.code b :: k) .normal S1) → cont E J (.code a :: .lp (weakK E (cont E J (.code b :: k) .normal)) :: k) .normal S) : seqC E J true a b k S := h1 h2
theorem cut_intro {M : St → Prop} (S1 : St) (hF : subF S.F S1.nx S1.F) (hH : subH S.H S1.nx S1.H) (hM : M S1) : cont E J (.lp (weakK E M) :: k) .normal S := ⟨S1, weak_of hF hH, hM⟩
theorem seqC_congr {M M' : Bool} {a b : Code} (h : M = M') : seqC E J M a b k S = seqC E J M' a b k S := by rw [h]
theorem ct_skip : cont E J (.code .skip :: k) .normal S = cont E J k .normal S := Eq.trans rfl rfl
theorem ct_ret : cont E J (.code .ret :: k) .normal S = cont E J k .ret S := Eq.trans rfl rfl
theorem ct_exit {id : Nat} : cont E J (.code (.exit id) :: k) .normal S = cont E J k (.exit id) S := Eq.trans rfl rfl
theorem ct_code_ret {c : Code} : cont E J (.code c :: k) .ret S = cont E J k .ret S := Eq.trans rfl rfl
theorem ct_code_exit {c : Code} {i : Nat} : cont E J (.code c :: k) (.exit i) S = cont E J k (.exit i) S := Eq.trans rfl rfl
theorem ct_blk_ret {i : Nat} : cont E J (.blk i :: k) .ret S = cont E J k .ret S := Eq.trans rfl rfl
theorem ct_blk_normal {i : Nat} : cont E J (.blk i :: k) .normal S = cont E J k .normal S := Eq.trans rfl rfl
theorem ct_blk_exit {i j : Nat} : cont E J (.blk i :: k) (.exit j) S = if j = i then cont E J k .normal S else cont E J k (.exit j) S := Eq.trans rfl rfl
theorem ct_lp_ret {K : St → Prop} : cont E J (.lp K :: k) .ret S = cont E J k .ret S := Eq.trans rfl rfl
theorem ct_lp_exit {K : St → Prop} {i : Nat} : cont E J (.lp K :: k) (.exit i) S = cont E J k (.exit i) S := Eq.trans rfl rfl
theorem ct_fin {Q : Exit → St → Prop} {e : Exit} : cont E J (.fin Q :: k) e S = Q e S := by cases e <;> rfl
theorem ct_block {id : Nat} {a : Code} : cont E J (.code (.block id a) :: k) .normal S = cont E J (.code a :: .blk id :: k) .normal S := Eq.trans rfl rfl
theorem ct_region {id : Nat} {ops : Array Oper} : cont E J (.code (.region id ops false) :: k) .normal S = cont E J (.ops 0 [] ops.toList :: k) .normal S := Eq.trans rfl rfl
noncomputable def noJ : Cuts := []
def cutS (J : Cuts) : Option Nat → Bool
 | some i => memN J i
 | none => false
theorem cutAt_cons {p : Nat} {L : Cuts} {b : Code} : cutAt (p :: L) b = cutS (p :: L) (firstR b) := by
 unfold cutAt cutS; cases firstR b <;> rfl
theorem cutAt_noJ {b : Code} : cutAt noJ b = false := by unfold cutAt; split <;> rfl
def condC (E : Env) (J : Cuts) (v : Option V) (a b : Code) (k : List Ct) (S : St) : Prop := condK v (cont E J (.code a :: k) .normal S) (cont E J (.code b :: k) .normal S)
theorem ct_cond {x : Operand} {a b : Code} : cont E J (.code (.cond x a b) :: k) .normal S = condC E J (S.ev E.gv x) a b k S := Eq.trans rfl rfl
theorem condC_true {a b : Code} : condC E J (some (.bool true)) a b k S = cont E J (.code a :: k) .normal S := by simp [condC, condK, branch]
theorem condC_false {a b : Code} : condC E J (some (.bool false)) a b k S = cont E J (.code b :: k) .normal S := by simp [condC, condK, branch]
theorem condC_intro {c : Bool} {a b : Code} (h1 : c = true → cont E J (.code a :: k) .normal S) (h2 : c = false → cont E J (.code b :: k) .normal S) : condC E J (some (.bool c)) a b k S := ⟨h1, h2⟩
def bindC (E : Env) (J : Cuts) (r : Res) (S : St) (d : Option Nat) (k : List Ct) : Prop := bindK S S.nx d (cont E J k .normal) r
theorem bindC_true {v : V} {e : Eff} {d : Option Nat} : bindC E J (some (True, v, e)) S d k = cont E J k .normal ((S.eff S.nx e).put d v) := by simp [bindC, bindK]
theorem bindC_intro {c : Prop} {v : V} {e : Eff} {d : Option Nat} (h1 : c) (h2 : cont E J k .normal ((S.eff S.nx e).put d v)) : bindC E J (some (c, v, e)) S d k := ⟨h1, fun _ => h2⟩
def callC (E : Env) (J : Cuts) (v : Option V) (vs : Option (List V)) (S : St) (d : Option Nat) (k : List Ct) : Prop := callK E S d (cont E J k .normal) v vs
def opC (E : Env) (J : Cuts) (op : Op) (T : TypeId) (S : St) (d : Option Nat) (k : List Ct) : Prop :=
 match isCall op with
 | some (x, l, Ts) => callC E J (S.ev E.gv x) (evs E S l Ts) S d k
 | none => bindC E J (opF E S S.nx T op) S d k
def guardC (E : Env) (J : Cuts) (v : Option V) (op : Op) (T : TypeId) (want : Bool) (S : St) (d : Option Nat) (k : List Ct) : Prop :=
 guardV v want (opC E J op T S d k) (cont E J k .normal (S.put d (.tup [])))
def guardT (E : Env) (J : Cuts) (t : Option Nat) (op : Op) (T : TypeId) (want : Bool) (S : St) (d : Option Nat) (k : List Ct) : Prop :=
 match t with
 | some t => guardC E J (getA S.F t) op T want S d k
 | none => False
theorem ct_ops_nil {i : Nat} {ds : List (Nat × Nat)} : cont E J (.ops i ds [] :: k) .normal S = cont E J k .normal S := Eq.trans rfl rfl
theorem ct_op {i : Nat} {ds : List (Nat × Nat)} {l : List Oper} {d : Option Nat} {op : Op} {T : TypeId} {pos : String} {af : Array Edge} : cont E J (.ops i ds ({ dst := d, op := op, type := T, pos := pos, after := af, guard := none } :: l) :: k) .normal S = opC E J op T S d (.ops (i + 1) (pushD i d ds) l :: k) := Eq.trans rfl rfl
theorem ct_opg {i : Nat} {ds : List (Nat × Nat)} {l : List Oper} {d : Option Nat} {op : Op} {T : TypeId} {pos : String} {af : Array Edge} {j : Nat} {want : Bool} : cont E J (.ops i ds ({ dst := d, op := op, type := T, pos := pos, after := af, guard := some (j, want) } :: l) :: k) .normal S = guardT E J (getA ds j) op T want S d (.ops (i + 1) (pushD i d ds) l :: k) := Eq.trans rfl rfl
theorem guardC_tt {op : Op} {T : TypeId} {d : Option Nat} : guardC E J (some (.bool true)) op T true S d k = opC E J op T S d k := by simp [guardC, guardV, branch]
theorem guardC_ff {op : Op} {T : TypeId} {d : Option Nat} : guardC E J (some (.bool false)) op T false S d k = opC E J op T S d k := by simp [guardC, guardV, branch]
theorem guardC_tf {op : Op} {T : TypeId} {d : Option Nat} : guardC E J (some (.bool true)) op T false S d k = cont E J k .normal (S.put d (.tup [])) := by simp [guardC, guardV, branch]
theorem guardC_ft {op : Op} {T : TypeId} {d : Option Nat} : guardC E J (some (.bool false)) op T true S d k = cont E J k .normal (S.put d (.tup [])) := by simp [guardC, guardV, branch]
theorem guardC_ud {op : Op} {T : TypeId} {d : Option Nat} {w : Bool} : guardC E J (some (.tup [])) op T w S d k = cont E J k .normal (S.put d (.tup [])) := by simp [guardC, guardV]
theorem guardC_t {op : Op} {T : TypeId} {d : Option Nat} {b : Bool} (h1 : b = true → opC E J op T S d k) (h2 : b = false → cont E J k .normal (S.put d (.tup []))) : guardC E J (some (.bool b)) op T true S d k := ⟨h1, h2⟩
theorem guardC_f {op : Op} {T : TypeId} {d : Option Nat} {b : Bool} (h1 : b = false → opC E J op T S d k) (h2 : b = true → cont E J k .normal (S.put d (.tup []))) : guardC E J (some (.bool b)) op T false S d k := ⟨h1, h2⟩
theorem callC_give {f : FuncId} {caps vs : List V} {d : Option Nat} {ws : List V} {r : V} {H : List Blk} (hc : CallOk E f ws r H) (hp : pureL (vs ++ caps)) (hm : mtL (vs ++ caps) ws) (h : wfV r → cont E J k .normal (S.after d r H)) : callC E J (some (.fn f caps)) (some vs) S d k :=
 .inl ⟨ws, r, H, hc, .inl ⟨S, give_pure hp hm, h⟩⟩
theorem callC_look {f : FuncId} {caps vs : List V} {d : Option Nat} {ws : List V} {r : V} (hc : CallOk E f ws r []) (hf : flatV r) (hm : mtL (viewL S.H (vs ++ caps)) ws) (h : wfV r → cont E J k .normal (S.put d r)) : callC E J (some (.fn f caps)) (some vs) S d k :=
 .inl ⟨ws, r, [], hc, .inr ⟨hf, rfl, look_view hm, h⟩⟩
theorem ct_loop {a : Code} (I : Nat → St → Prop) (k0 : Nat) (S1 : St) (hF : subF S.F S1.nx S1.F) (hH : subH S.H S1.nx S1.H) (h0 : I k0 S1)
  (h : ∀ n S', I n S' → cont E J (.code a :: .lp (fun S2 => ∃ n', n' < n ∧ ∃ S3, Weak E S2 S3 ∧ I n' S3) :: k) .normal S') : cont E J (.code (.loop a) :: k) .normal S :=
 ⟨I, k0, ⟨S1, weak_of hF hH, h0⟩, h⟩
theorem lp_intro {I : Nat → St → Prop} {n : Nat} (n' : Nat) (S3 : St) (hlt : n' < n) (hF : subF S.F S3.nx S3.F) (hH : subH S.H S3.nx S3.H) (hI : I n' S3) : cont E J (.lp (fun S2 => ∃ n', n' < n ∧ ∃ S3, Weak E S2 S3 ∧ I n' S3) :: k) .normal S :=
 ⟨n', hlt, S3, weak_of hF hH, hI⟩
def retC (E : Env) (S : St) (r : V) (H : List Blk) : Option (List V) → Prop
 | some vs => outOk E S (tupV vs) r H
 | none => False
theorem retK_ret {rs : List ResultVar} {r : V} {H : List Blk} : retK E rs r H .ret S = retC E S r H (resL E.tb S rs) := Eq.trans rfl rfl
theorem retC_view {vs : List V} {r : V} (hm : mt (view S.H (tupV vs)) r) : retC E S r [] (some vs) := out_view hm
structure Dr where
 J : Cuts
 S0 : St
 wr : List Nat
 wl : List (Nat × Nat)
 need : List (List Nat)
 ub : List (Nat × Nat)
 k : List Ct
def drawC (E : Env) (D : Dr) (m i : Nat) (l : List Oper) (R : List (Nat × HRes)) : Prop := drawK E D.S0 D.wr D.wl D.need D.ub (cont E D.J D.k .normal) m i l R
theorem ct_draw {id : Nat} {ops : Array Oper} (n m : Nat) (wr : List Nat) (wl : List (Nat × Nat)) (need : List (List Nat)) (ub : List (Nat × Nat)) (hB : (wlB ops m wl && flowB n m ops wr need && ((List.range m).all fun i => (need.getD i []).all fun j => decide (j < i))) = true) (hU : ubB m need ub S.nx = true)
  (h : drawC E ⟨J, S, wr, wl, need, ub, k⟩ m 0 ops.toList []) : cont E J (.code (.region id ops true) :: k) .normal S := by
 exact ⟨n, m, wr, wl, need, ub, hB, hU, h⟩
section
variable {D : Dr} {m i : Nat} {l : List Oper} {R : List (Nat × HRes)} {d : Option Nat} {op : Op} {T : TypeId}
theorem drawC_zero : drawC E D 0 i l R = cont E D.J (.ops i (dsR R) l :: D.k) .normal (viewS D.S0 D.wr allN (endB D.ub R) R i) := Eq.trans rfl rfl
def hbindC (E : Env) (D : Dr) (m i : Nat) (l : List Oper) (R : List (Nat × HRes)) (d : Option Nat) (nid : Nat) (r : Res) : Prop := headRes D.ub i nid d (fun r => drawC E D m (i + 1) l ((i, r) :: R)) r
def hcallC (E : Env) (D : Dr) (m i : Nat) (l : List Oper) (R : List (Nat × HRes)) (d : Option Nat) (S : St) (v : Option V) (vs : Option (List V)) : Prop := headCall E S D.ub i d (fun r => drawC E D m (i + 1) l ((i, r) :: R)) v vs
def hopC (E : Env) (D : Dr) (m i : Nat) (l : List Oper) (R : List (Nat × HRes)) (d : Option Nat) (op : Op) (T : TypeId) (S : St) : Prop :=
 match isCall op with
 | some (x, xs, Ts) => hcallC E D m i l R d S (S.ev E.gv x) (evs E S xs Ts)
 | none => hbindC E D m i l R d S.nx (opH E S S.nx T op)
def hguardC (E : Env) (D : Dr) (m i : Nat) (l : List Oper) (R : List (Nat × HRes)) (d : Option Nat) (op : Op) (T : TypeId) (want : Bool) : Bool → Option HRes → Prop
 | true, some ⟨some _, v, _⟩ => guardV (some v) want (hopC E D m i l R d op T (viewS D.S0 (wrF D.wl D.need i D.wr) (memN (D.need.getD i [])) (banK D.ub D.need i R) R i)) (drawC E D m (i + 1) l ((i, ⟨d, .tup [], none⟩) :: R))
 | _, _ => False
theorem drawC_op {pos : String} {af : Array Edge} : drawC E D (m + 1) i ({ dst := d, op := op, type := T, pos := pos, after := af, guard := none } :: l) R = hopC E D m i l R d op T (viewS D.S0 (wrF D.wl D.need i D.wr) (memN (D.need.getD i [])) (banK D.ub D.need i R) R i) := by
 simp only [drawC, drawK, headGuard, headStep, hopC, hcallC, hbindC]
 cases isCall op <;> rfl
theorem drawC_opg {pos : String} {af : Array Edge} {j : Nat} {want : Bool} : drawC E D (m + 1) i ({ dst := d, op := op, type := T, pos := pos, after := af, guard := some (j, want) } :: l) R = hguardC E D m i l R d op T want (memN (D.need.getD i []) j) (getA R j) := by
 simp only [drawC, drawK, headGuard]
 cases memN (D.need.getD i []) j <;> cases getA R j with
 | none => rfl
 | some r =>
  obtain ⟨t, v, b⟩ := r
  cases t <;> first | rfl | (simp only [hguardC, headStep, hopC, hcallC, hbindC, drawC]; cases isCall op <;> rfl)
theorem hguardC_tt {t : Nat} {b : Option (Nat × Blk)} : hguardC E D m i l R d op T true true (some ⟨some t, .bool true, b⟩) = hopC E D m i l R d op T (viewS D.S0 (wrF D.wl D.need i D.wr) (memN (D.need.getD i [])) (banK D.ub D.need i R) R i) := by simp [hguardC, guardV, branch]
theorem hguardC_ff {t : Nat} {b : Option (Nat × Blk)} : hguardC E D m i l R d op T false true (some ⟨some t, .bool false, b⟩) = hopC E D m i l R d op T (viewS D.S0 (wrF D.wl D.need i D.wr) (memN (D.need.getD i [])) (banK D.ub D.need i R) R i) := by simp [hguardC, guardV, branch]
theorem hguardC_tf {t : Nat} {b : Option (Nat × Blk)} : hguardC E D m i l R d op T true true (some ⟨some t, .bool false, b⟩) = drawC E D m (i + 1) l ((i, ⟨d, .tup [], none⟩) :: R) := by simp [hguardC, guardV, branch]
theorem hguardC_ft {t : Nat} {b : Option (Nat × Blk)} : hguardC E D m i l R d op T false true (some ⟨some t, .bool true, b⟩) = drawC E D m (i + 1) l ((i, ⟨d, .tup [], none⟩) :: R) := by simp [hguardC, guardV, branch]
theorem hguardC_ud {t : Nat} {w : Bool} {b : Option (Nat × Blk)} : hguardC E D m i l R d op T w true (some ⟨some t, .tup [], b⟩) = drawC E D m (i + 1) l ((i, ⟨d, .tup [], none⟩) :: R) := by simp [hguardC, guardV]
theorem hguardC_t {t : Nat} {b : Option (Nat × Blk)} {x : Bool} (h1 : x = true → hopC E D m i l R d op T (viewS D.S0 (wrF D.wl D.need i D.wr) (memN (D.need.getD i [])) (banK D.ub D.need i R) R i)) (h2 : x = false → drawC E D m (i + 1) l ((i, ⟨d, .tup [], none⟩) :: R)) : hguardC E D m i l R d op T true true (some ⟨some t, .bool x, b⟩) := ⟨h1, h2⟩
theorem hguardC_f {t : Nat} {b : Option (Nat × Blk)} {x : Bool} (h1 : x = false → hopC E D m i l R d op T (viewS D.S0 (wrF D.wl D.need i D.wr) (memN (D.need.getD i [])) (banK D.ub D.need i R) R i)) (h2 : x = true → drawC E D m (i + 1) l ((i, ⟨d, .tup [], none⟩) :: R)) : hguardC E D m i l R d op T false true (some ⟨some t, .bool x, b⟩) := ⟨h1, h2⟩
section
variable {nid : Nat}
theorem hbindC_none {v : V} : hbindC E D m i l R d nid (some (True, v, .none)) = drawC E D m (i + 1) l ((i, ⟨d, v, none⟩) :: R) := by simp [hbindC, headRes]
theorem hbindC_var {v x : V} {n : Nat} {g : Bool} : hbindC E D m i l R d nid (some (True, v, .new (.var n g x))) = (match memP D.ub i nid with | true => False | false => drawC E D m (i + 1) l ((i, ⟨d, v, some (nid, .var n g x)⟩) :: R)) := by
 simp only [hbindC, headRes]; cases memP D.ub i nid <;> simp [pubK, privB]
theorem hbindC_own {k : Nat} {U : TypeId} {n : Nat} {g : Bool} {z : Option Bool} {ll : List V} : hbindC E D m i l R d nid (some (True, .own k, .new (.own U n g z ll))) = (match memP D.ub i nid with | true => (match decide (k = nid) with | true => drawC E D m (i + 1) l ((i, ⟨d, .sl z n g ll, none⟩) :: R) | false => False) | false => drawC E D m (i + 1) l ((i, ⟨d, .own k, some (nid, .own U n g z ll)⟩) :: R)) := by
 simp only [hbindC, headRes]; cases memP D.ub i nid
 ·simp [privB]
 ·by_cases hk : k = nid <;> simp [pubK, hk]
theorem hbindC_upd {v : V} {id : Nat} {b : Blk} : hbindC E D m i l R d nid (some (True, v, .upd id b)) = (match memP D.ub i id && privB b with | true => drawC E D m (i + 1) l ((i, ⟨d, v, some (id, b)⟩) :: R) | false => False) := by
 simp only [hbindC, headRes]; cases memP D.ub i id && privB b <;> simp
theorem hbindC_intro {c : Prop} {v : V} (h1 : c) (h2 : drawC E D m (i + 1) l ((i, ⟨d, v, none⟩) :: R)) : hbindC E D m i l R d nid (some (c, v, .none)) := ⟨h1, fun _ => h2⟩
theorem hbindC_introN {c : Prop} {v : V} {U : TypeId} {n : Nat} {g : Bool} {z : Option Bool} {ll : List V} (h1 : c) (hm : memP D.ub i nid = false) (h2 : drawC E D m (i + 1) l ((i, ⟨d, v, some (nid, .own U n g z ll)⟩) :: R)) : hbindC E D m i l R d nid (some (c, v, .new (.own U n g z ll))) := by
 simp only [hbindC, headRes, hm]; exact ⟨h1, fun _ => h2⟩
theorem hbindC_introP {c : Prop} {k : Nat} {U : TypeId} {n : Nat} {g : Bool} {z : Option Bool} {ll : List V} (h1 : c) (hm : (memP D.ub i nid && decide (k = nid)) = true) (h2 : drawC E D m (i + 1) l ((i, ⟨d, .sl z n g ll, none⟩) :: R)) : hbindC E D m i l R d nid (some (c, .own k, .new (.own U n g z ll))) := by
 simp only [Bool.and_eq_true] at hm
 simp only [hbindC, headRes, hm.1]; exact ⟨hm.2, h1, fun _ => h2⟩
theorem hbindC_introV {c : Prop} {v x : V} {n : Nat} {g : Bool} (h1 : c) (hm : memP D.ub i nid = false) (h2 : drawC E D m (i + 1) l ((i, ⟨d, v, some (nid, .var n g x)⟩) :: R)) : hbindC E D m i l R d nid (some (c, v, .new (.var n g x))) := by
 simp only [hbindC, headRes, hm]; exact ⟨h1, fun _ => h2⟩
theorem hbindC_introU {c : Prop} {v : V} {id : Nat} {b : Blk} (h1 : c) (hm : (memP D.ub i id && privB b) = true) (h2 : drawC E D m (i + 1) l ((i, ⟨d, v, some (id, b)⟩) :: R)) : hbindC E D m i l R d nid (some (c, v, .upd id b)) := by
 simp only [hbindC, headRes, hm]; exact ⟨h1, fun _ => h2⟩
end
theorem hcallC_give {f : FuncId} {caps vs ws : List V} {r : V} (hc : CallOk E f ws r []) (hp : pureL (vs ++ caps)) (hm : mtL (vs ++ caps) ws) (h : drawC E D m (i + 1) l ((i, ⟨d, r, none⟩) :: R)) : hcallC E D m i l R d S (some (.fn f caps)) (some vs) :=
 .inl (.inl ⟨ws, r, hc, .inl (head_pure hp hm), h⟩)
theorem hcallC_look {f : FuncId} {caps vs ws : List V} {r : V} (hc : CallOk E f ws r []) (hf : flatV r) (hm : mtL (viewL S.H (vs ++ caps)) ws) (h : drawC E D m (i + 1) l ((i, ⟨d, r, none⟩) :: R)) : hcallC E D m i l R d S (some (.fn f caps)) (some vs) :=
 .inl (.inl ⟨ws, r, hc, .inr ⟨hf, look_view hm⟩, h⟩)
theorem hbindC_introA {c : Prop} {id nid : Nat} {U : TypeId} {n : Nat} {g : Bool} {z : Option Bool} {ll : List V} (h1 : c) (hm : (memP D.ub i id && !decide (id = nid)) = true) (h2 : drawC E D m (i + 1) l ((i, ⟨d, .own nid, some (nid, .own U n g z ll)⟩) :: R)) : hbindC E D m i l R d nid (some (c, .own id, .app id (.own U n g z ll))) := by
 simp only [hbindC, headRes, decide_true, Bool.true_and, hm]
 exact ⟨h1, fun _ => h2⟩
theorem banK_nil {need : List (List Nat)} {i : Nat} : banK [] need i R = noBan := Eq.trans rfl rfl
theorem endB_nil : endB [] R = noBan := Eq.trans rfl rfl
theorem banK_cons {p : Nat × Nat} {ub : List (Nat × Nat)} {need : List (List Nat)} {i k : Nat} : banK (p :: ub) need i R k = (banF (p :: ub) need i k || killF (p :: ub) (memN (need.getD i [])) R k) := Eq.trans rfl rfl
theorem endB_cons {p : Nat × Nat} {ub : List (Nat × Nat)} {k : Nat} : endB (p :: ub) R k = killF (p :: ub) allN R k := Eq.trans rfl rfl
theorem killF_cons {ub : List (Nat × Nat)} {ns : Nat → Bool} {j k : Nat} {t : Option Nat} {v : V} {b : Option (Nat × Blk)} : killF ub ns ((j, ⟨t, v, b⟩) :: R) k = ((ns j && killsB ub j b k) || killF ub ns R k) := Eq.trans rfl rfl
theorem killF_end {ub : List (Nat × Nat)} {ns : Nat → Bool} {k : Nat} : killF ub ns [] k = false := Eq.trans rfl rfl
theorem killsB_none {ub : List (Nat × Nat)} {j k : Nat} : killsB ub j none k = false := Eq.trans rfl rfl
theorem killsB_some {ub : List (Nat × Nat)} {j k k' : Nat} {b : Blk} : killsB ub j (some (k', b)) k = (memP ub j k && !decide (k' = k)) := Eq.trans rfl rfl
theorem restH_consK {ub : List (Nat × Nat)} {p : Nat × Nat} {need : List (List Nat)} {i k : Nat} {b : Blk} {H : List (Nat × Blk)} : restH (banK (p :: ub) need i R) ((k, b) :: H) = if banK (p :: ub) need i R k = true then restH (banK (p :: ub) need i R) H else (k, b) :: restH (banK (p :: ub) need i R) H := by
 simp only [restH]; cases banK (p :: ub) need i R k <;> rfl
theorem restH_consE {ub : List (Nat × Nat)} {p : Nat × Nat} {k : Nat} {b : Blk} {H : List (Nat × Blk)} : restH (endB (p :: ub) R) ((k, b) :: H) = if endB (p :: ub) R k = true then restH (endB (p :: ub) R) H else (k, b) :: restH (endB (p :: ub) R) H := by
 simp only [restH]; cases endB (p :: ub) R k <;> rfl
theorem headF_some {ns : Nat → Bool} {j t : Nat} {v : V} {b : Option (Nat × Blk)} : headF ns ((j, ⟨some t, v, b⟩) :: R) = if ns j = true then (t, v) :: headF ns R else headF ns R := by
 simp only [headF]; cases ns j <;> rfl
theorem headF_none {ns : Nat → Bool} {j : Nat} {v : V} {b : Option (Nat × Blk)} : headF ns ((j, ⟨none, v, b⟩) :: R) = headF ns R := by
 simp only [headF]; cases ns j <;> rfl
theorem headH_some {ns : Nat → Bool} {j : Nat} {t : Option Nat} {v : V} {b : Nat × Blk} : headH ns ((j, ⟨t, v, some b⟩) :: R) = if ns j = true then b :: headH ns R else headH ns R := by
 simp only [headH]; cases ns j <;> rfl
theorem headHnone {ns : Nat → Bool} {j : Nat} {t : Option Nat} {v : V} : headH ns ((j, ⟨t, v, none⟩) :: R) = headH ns R := by
 simp only [headH]; cases ns j <;> rfl
theorem headF_nil {ns : Nat → Bool} : headF ns [] = [] := Eq.trans rfl rfl
theorem headH_nil {ns : Nat → Bool} : headH ns [] = [] := Eq.trans rfl rfl
theorem wrF_nil {need : List (List Nat)} {i : Nat} : ∀ {l : List Nat}, wrF [] need i l = l
 | [] => rfl
 | t :: l => congrArg (t :: ·) (wrF_nil (l := l))
theorem wrF_end {w k i : Nat} {wl : List (Nat × Nat)} {need : List (List Nat)} : wrF ((w, k) :: wl) need i [] = [] := Eq.trans rfl rfl
theorem wrF_cons {w k i t : Nat} {wl : List (Nat × Nat)} {need : List (List Nat)} {l : List Nat} : wrF ((w, k) :: wl) need i (t :: l) = if lateF ((w, k) :: wl) need i t = true then wrF ((w, k) :: wl) need i l else t :: wrF ((w, k) :: wl) need i l := by
 rw [wrF]; cases lateF ((w, k) :: wl) need i t <;> rfl
theorem lateF_cons {w k i t : Nat} {wl : List (Nat × Nat)} {need : List (List Nat)} : lateF ((w, k) :: wl) need i t = ((decide (k = t) && memN (need.getD w []) i) || lateF wl need i t) := Eq.trans rfl rfl
theorem lateF_nil {i t : Nat} {need : List (List Nat)} : lateF [] need i t = false := Eq.trans rfl rfl
theorem banF_nil {need : List (List Nat)} {i : Nat} : banF [] need i = noBan := by funext k; rfl
theorem restH_noBan : ∀ {H : List (Nat × Blk)}, restH noBan H = H
 | [] => rfl
 | (k, b) :: H => by simp only [restH, noBan, restH_noBan]
theorem restH_nil {ban : Nat → Bool} : restH ban [] = [] := Eq.trans rfl rfl
theorem banF_cons {w k i id : Nat} {ub : List (Nat × Nat)} {need : List (List Nat)} : banF ((w, k) :: ub) need i id = ((decide (k = id) && (!decide (w = i) && (!memN (need.getD i []) w && !memN (need.getD w []) i))) || banF ub need i id) := Eq.trans rfl rfl
theorem banF_end {id : Nat} : noBan id = false := Eq.trans rfl rfl
theorem dsR_some {j t : Nat} {v : V} {b : Option (Nat × Blk)} : dsR ((j, ⟨some t, v, b⟩) :: R) = (j, t) :: dsR R := Eq.trans rfl rfl
theorem dsR_none {j : Nat} {v : V} {b : Option (Nat × Blk)} : dsR ((j, ⟨none, v, b⟩) :: R) = dsR R := Eq.trans rfl rfl
theorem dsR_nil : dsR [] = [] := Eq.trans rfl rfl
theorem drawC_congr {R' : List (Nat × HRes)} (h : R = R') : drawC E D m i l R = drawC E D m i l R' := by rw [h]
theorem hbindC_congr {nid nid' : Nat} {r r' : Res} (h0 : nid = nid') (h : r = r') : hbindC E D m i l R d nid r = hbindC E D m i l R d nid' r' := by rw [h, h0]
theorem hcallC_congr {v v' : Option V} {vs vs' : Option (List V)} (h1 : v = v') (h2 : vs = vs') : hcallC E D m i l R d S v vs = hcallC E D m i l R d S v' vs' := by rw [h1, h2]
theorem hopC_congr {S S' : St} (h : S = S') : hopC E D m i l R d op T S = hopC E D m i l R d op T S' := by rw [h]
theorem hguardC_congr {w b b' : Bool} {r r' : Option HRes} (h1 : b = b') (h2 : r = r') : hguardC E D m i l R d op T w b r = hguardC E D m i l R d op T w b' r' := by rw [h1, h2]
end
theorem cont_congr {e : Exit} {S S' : St} (h : S = S') : cont E J k e S = cont E J k e S' := by rw [h]
theorem bindC_congr {r r' : Res} {d : Option Nat} (h : r = r') : bindC E J r S d k = bindC E J r' S d k := by rw [h]
theorem condC_congr {v v' : Option V} {a b : Code} (h : v = v') : condC E J v a b k S = condC E J v' a b k S := by rw [h]
theorem callC_congr {v v' : Option V} {vs vs' : Option (List V)} {d : Option Nat} (h1 : v = v') (h2 : vs = vs') : callC E J v vs S d k = callC E J v' vs' S d k := by rw [h1, h2]
theorem guardC_congr {v v' : Option V} {op : Op} {T : TypeId} {w : Bool} {d : Option Nat} (h : v = v') : guardC E J v op T w S d k = guardC E J v' op T w S d k := by rw [h]
theorem guardT_congr {t t' : Option Nat} {op : Op} {T : TypeId} {w : Bool} {d : Option Nat} (h : t = t') : guardT E J t op T w S d k = guardT E J t' op T w S d k := by rw [h]
end
attribute [congr] cont_congr bindC_congr condC_congr callC_congr guardC_congr guardT_congr seqC_congr drawC_congr hbindC_congr hcallC_congr hopC_congr hguardC_congr
theorem beq_ft : (false == true) = false := Eq.trans rfl rfl
theorem beq_tf : (true == false) = false := Eq.trans rfl rfl
theorem beq_tt : (true == true) = true := Eq.trans rfl rfl
theorem beq_ff : (false == false) = true := Eq.trans rfl rfl
theorem cutN_map {α : Type} {f : α → V} {l : List α} {i j : Nat} : cutN (l.map f) i j = (cutN l i j).map f := by simp [cutN, List.map_take, List.map_drop]
theorem spl_map {α : Type} {f : α → V} {l m : List α} {i k : Nat} : spl (l.map f) i k (m.map f) = (spl l i k m).map f := by simp [spl, List.map_take, List.map_drop]
theorem cutL_map {α : Type} {f : α → V} {l : List α} {i j : Int} : cutL (l.map f) i j = (sl l i j).map f := by simp [cutL, sl, List.map_take, List.map_drop]
theorem mtZ_self {z : Option Bool} : mtZ z z = True := by cases z <;> simp [mtZ]
theorem mtZ_none {z : Option Bool} : mtZ z none = True := by cases z <;> simp [mtZ]
theorem mtZ_some {a b : Bool} : mtZ (some a) (some b) = (a = b) := by simp [mtZ]
attribute [go_sem] drawC_zero drawC_op drawC_opg hopC hguardC_ud hguardC_tt hguardC_ff hguardC_tf hguardC_ft hbindC_none hbindC_var hbindC_own headF_some headF_none headH_some headHnone headF_nil headH_nil dsR_some dsR_none dsR_nil viewS restF memN allN wrF_nil wrF_end wrF_cons lateF_cons lateF_nil banF_nil restH_noBan restH_nil banK_nil endB_nil banK_cons endB_cons killF_cons killF_end killsB_none killsB_some restH_consK restH_consE banF_cons banF_end hbindC_upd memP privB ubB
 ct_seq ct_skip ct_ret ct_exit ct_code_ret ct_code_exit ct_blk_ret ct_blk_normal ct_blk_exit ct_lp_ret ct_lp_exit ct_fin ct_block ct_region seqC_none cutAt_noJ cutAt_cons cutS firstR ct_cond condC_true condC_false ct_ops_nil ct_op ct_opg guardT guardC_ud guardC_tt guardC_ff guardC_tf guardC_ft opC isCall bindC_true
 opH isSl subOf subO orElse opF mkFn evL evL.consO callF foldO byteV St.ev St.evT constV constT constI constS rngB nilT getA setA loadF loadV loadO loadPart storeF storeV storeO fieldF fieldP fieldX fieldY indexF indexO indexX intOp shOp boolOp strOp eqC eqOp nilB nilOp binF unF convF convS convB s2aF cutA zAgg zrB zrC Value.oneCell' pickF minF maxF lenF lenO extF nilChk setParts setPartsA buildF setElems sliceLit makeF allocF listF listO zApp appO appF loB hiB bound lenI sliceF rOk rIf rB
 St.eff St.put St.after shift shiftL shiftH purge purgeL purgeB purgeF purgeH part cellsN setPart pushD evs fitV pureV pureL flatV flatL retK_ret resL resV tupV
 view viewL view0 view0L ownV ptrV mt mtL mt_self mtL_self mtL_same mtZ_self mtZ_none mtZ_some subF subH mtO mtB ltV ltL ltB
 beq_ft beq_tf beq_tt beq_ff cutL_map
 slotsA moveF boxF Bool.or_true Bool.true_or Bool.or_false Bool.false_or Nat.sub_zero cutN_map spl_map copyF copyW copyN copyO rUpd lenS listS sliceO sliceP sliceAr giveR lenB isOwn Option.map_some Option.map_none Bool.and_true Bool.true_and Bool.false_and Bool.and_false Bool.not_true Bool.not_false decide_true decide_false true_and and_true false_and and_false true_implies false_implies implies_true and_self not_true_eq_false not_false_eq_true
 List.getElem?_cons_zero List.getElem?_cons_succ List.getD_cons_zero List.getD_cons_succ List.take_succ_cons List.take_zero List.take_nil List.drop_succ_cons List.drop_zero List.drop_nil List.cons_append List.nil_append List.append_nil List.length_cons List.length_nil List.set_cons_zero List.set_cons_succ List.replicate_zero List.replicate_succ List.map_cons List.map_nil List.map_append List.length_map List.map_set List.map_replicate List.tail_cons List.tail_nil List.headD_cons List.headD_nil
 Nat.add_zero Nat.zero_add ne_eq Prod.mk.injEq reduceCtorEq
theorem letk_opn {α β : Type} {a : α} {f : α → β} {R : β} (h : letk a f = R) : ∃ x, x = a ∧ f x = R := ⟨a, rfl, h⟩
end Go.Proofs.Ytcbdmoihobdjaaa
