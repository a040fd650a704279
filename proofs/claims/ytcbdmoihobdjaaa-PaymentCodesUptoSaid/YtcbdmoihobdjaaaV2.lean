import Derived.Test.YtcbdmoihobdjaaaV1
import Derived.Test.YtcbdmoihobdjaaaB11
namespace Go.Proofs.Ytcbdmoihobdjaaa
open Go.RowKit
structure TI where
 n : Nat := 1
 g : Bool := false
 z : V := .un
 el : TypeId := 0
 len : Nat := 0
 fs : List (Nat × TypeId) := []
 k : Nat := 99
 ik : IntKind := .i64
 by' : Nat := 8
 cmp : Bool := false
 ck : List Nat := []
 ok : Bool := false
structure Env where
 P : Program
 tb : TypeId → TI
 gv : Nat → Option V
inductive Blk where
 | var (n : Nat) (g : Bool) (d : V)
 | own (E : TypeId) (n : Nat) (g : Bool) (z : Option Bool) (l : List V)
 | ownI (E : TypeId) (n : Nat) (g : Bool) (z : Option Bool) (l : List V)
 | pvar (n : Nat) (g : Bool) (d : V)
 | pown (n : Nat) (g : Bool) (z : Option Bool) (l : List V)
 | lent (k n : Nat) (g : Bool) (d : V)
structure St where
 F : List (Nat × V)
 H : List (Nat × Blk)
 nx : Nat
def getA {α : Type} : List (Nat × α) → Nat → Option α
 | [], _ => none
 | (k, v) :: l, t => if k = t then some v else getA l t
def setA {α : Type} : List (Nat × α) → Nat → α → List (Nat × α)
 | [], t, x => [(t, x)]
 | (k, v) :: l, t, x => if k = t then (t, x) :: l else (k, v) :: setA l t x
def rngB (k : IntKind) (n : Int) : Bool :=
 match k with
 | .i64 => decide (-9223372036854775808 ≤ n) && decide (n ≤ 9223372036854775807)
 | .u64 => decide (0 ≤ n) && decide (n ≤ 18446744073709551615)
 | .u8 => decide (0 ≤ n) && decide (n ≤ 255)
 | .u32 => decide (0 ≤ n) && decide (n ≤ 4294967295)
 | .i32 => decide (-2147483648 ≤ n) && decide (n ≤ 2147483647)
 | .u16 => decide (0 ≤ n) && decide (n ≤ 65535)
 | .i8 => decide (-128 ≤ n) && decide (n ≤ 127)
 | .i16 => decide (-32768 ≤ n) && decide (n ≤ 32767)
mutual
def zrB : V → Value → Bool
 | .int k n, .int k' n' => decide (k = k') && decide (n = n') && rngB k n
 | .bool b, .bool b' => decide (b = b')
 | .str [], .string s => decide (s.data.toList = [])
 | .sl (some true) _ _ [], .slice none 0 0 => true
 | .agg l, .agg cs => zrC l cs.toList
 | .un, _ => true
 | _, _ => false
def zrC : List V → List Value → Bool
 | [], [] => true
 | d :: l, u :: cs => u.oneCell' && zrB d u && zrC l cs
 | _, _ => false
end
def constI (b : Bool) (k : IntKind) (n : Int) : Option V := match b with
 | true => some (.int k n)
 | false => none
def constS (s : ByteArray) : Option V := if s.size ≤ LEN then some (.str s.data.toList) else none
def constV : Value → Option V
 | .int k n => constI (rngB k n) k n
 | .bool b => some (.bool b)
 | .string s => constS s
 | .slice none 0 0 => some (.sl (some true) 0 false [])
 | _ => none
def St.ev (gv : Nat → Option V) (S : St) : Operand → Option V
 | .tmp t => getA S.F t
 | .const v => constV v
 | .func f => some (.fn f [])
 | .global g => gv g
def nilT (tb : TypeId → TI) (T : TypeId) : V := .sl (some true) (tb (tb T).el).n (tb (tb T).el).g []
def zAgg (z : V) (cs : Array Value) : Option V := match zrB z (.agg cs) with
 | true => some z
 | false => none
def constT (tb : TypeId → TI) (T : TypeId) : Value → Option V
 | .int k n => constI (rngB k n) k n
 | .bool b => some (.bool b)
 | .string s => constS s
 | .slice none 0 0 => some (nilT tb T)
 | .agg cs => zAgg (tb T).z cs
 | _ => none
def St.evT (E : Env) (S : St) (T : TypeId) : Operand → Option V
 | .tmp t => getA S.F t
 | .const v => constT E.tb T v
 | .func f => some (.fn f [])
 | .global g => E.gv g
inductive Eff where
 | none
 | new (b : Blk)
 | upd (id : Nat) (b : Blk)
 | app (id : Nat) (b : Blk)
 | giv (id : Nat) (b : Blk)
abbrev Res := Option (Prop × V × Eff)
def rOk (v : V) : Res := some (True, v, .none)
def rIf (c : Prop) (v : V) : Res := some (c, v, .none)
def rB (b : Bool) (r : Res) : Res := match b with
 | true => r
 | false => none
def loadPart (ti : TI) (n : Nat) (g : Bool) (off : Nat) (c : Prop) (d : V) : Res :=
 if off = 0 ∧ ti.n = n ∧ ti.g = g then rIf c d
 else if g = true ∧ off + ti.n ≤ n then rIf c (part d off ti.n ti.g) else none
def elt (l : List V) (i : Nat) (z : V) : V := l.getD i z
def loadV (tb : TypeId → TI) (ti : TI) (off : Nat) : Option Blk → Res
 | some (.var n g d) => loadPart ti n g off True d
 | some (.pvar n g d) => loadPart ti n g off True d
 | some (.lent _ n g d) => loadPart ti n g off True d
 | _ => none
def loadO (tb : TypeId → TI) (ti : TI) (m i off : Nat) : Option Blk → Res
 | some (.own E n g _ l) => if m = n then loadPart ti n g off (i < l.length) (elt l i (tb E).z) else none
 | some (.ownI E n g _ l) => if m = n then loadPart ti n g off (i < l.length) (elt l i (tb E).z) else none
 | _ => none
def loadF (tb : TypeId → TI) (H : List (Nat × Blk)) (ti : TI) : Option V → Res
 | some (.pp n g d) => if ti.n = n ∧ ti.g = g then rOk d else none
 | some (.ptr id off) => loadV tb ti off (getA H id)
 | some (.optr id m i off) => loadO tb ti m i off (getA H id)
 | _ => none
mutual
def pureV : V → Prop
 | .own _ => False
 | .ptr _ _ => False
 | .optr _ _ _ _ => False
 | .osub _ _ _ _ => False
 | .agg l => pureL l
 | .tup l => pureL l
 | .fn _ l => pureL l
 | _ => True
def pureL : List V → Prop
 | [] => True
 | d :: l => pureV d ∧ pureL l
end
def fitV (n : Nat) : Bool → V → Prop
 | true, .agg l => l.length = n
 | true, _ => False
 | false, .int _ _ => True
 | false, .bool _ => True
 | false, .str _ => True
 | false, .sl _ _ _ _ => True
 | false, .pp _ _ _ => True
 | false, .own _ => True
 | false, .ptr _ _ => True
 | false, .optr _ _ _ _ => True
 | false, .osub _ _ _ _ => True
 | false, .fn _ _ => True
 | false, .opq _ => True
 | false, _ => False
def storeV (ti : TI) (id off : Nat) (x : V) : Option Blk → Res
 | some (.var n g d) =>
  if off = 0 ∧ ti.n = n ∧ ti.g = g then some (fitV ti.n ti.g x, .un, .upd id (.var n g x))
  else if g = true ∧ off + ti.n ≤ n then some (fitV ti.n ti.g x, .un, .upd id (.var n g (setPart d off ti.n ti.g x))) else none
 | some (.lent k n g d) =>
  if off = 0 ∧ ti.n = n ∧ ti.g = g then some (fitV ti.n ti.g x, .un, .upd id (.lent k n g x))
  else if g = true ∧ off + ti.n ≤ n then some (fitV ti.n ti.g x, .un, .upd id (.lent k n g (setPart d off ti.n ti.g x))) else none
 | _ => none
def isOwn : V → Bool
 | .own _ => true
 | _ => false
def storeO (tb : TypeId → TI) (ti : TI) (id m i off : Nat) (x : V) : Option Blk → Res
 | some (.own E n g z l) =>
  if m = n then
   if off = 0 ∧ ti.n = n ∧ ti.g = g then (match isOwn x with
    | false => some (i < l.length ∧ pureV x ∧ fitV ti.n ti.g x, .un, .upd id (.own E n g z (l.set i x)))
    | true => some (i < l.length ∧ fitV ti.n ti.g x, .un, .upd id (.ownI E n g z (l.set i x))))
   else if g = true ∧ off + ti.n ≤ n then some (i < l.length ∧ pureV x ∧ fitV ti.n ti.g x, .un, .upd id (.own E n g z (l.set i (setPart (elt l i (tb E).z) off ti.n ti.g x)))) else none
  else none
 | _ => none
def storeF (tb : TypeId → TI) (H : List (Nat × Blk)) (ti : TI) : Option V → Option V → Res
 | some (.ptr id off), some x => storeV ti id off x (getA H id)
 | some (.optr id m i off), some x => storeO tb ti id m i off x (getA H id)
 | _, _ => none
def fieldP (tb : TypeId → TI) (ti : TI) (v : V) : Option (Nat × TypeId) → Res
 | some (o, U) => match v with
  | .ptr id off => rOk (.ptr id (off + o))
  | .optr id m i off => rOk (.optr id m i (off + o))
  | .pp n g d => if g = true ∧ ti.n = n then rOk (.pp (tb U).n (tb U).g (part d o (tb U).n (tb U).g)) else none
  | _ => none
 | none => none
def fieldF (tb : TypeId → TI) (ti : TI) (k : Nat) : Option V → Res
 | some v => if ti.k = 5 then fieldP tb ti v ti.fs[k]? else none
 | none => none
def fieldY (tb : TypeId → TI) (ti : TI) (l : List V) : Option (Nat × TypeId) → Res
 | some (o, U) => rIf (l.length = ti.n) (part (.agg l) o (tb U).n (tb U).g)
 | none => none
def fieldX (tb : TypeId → TI) (ti : TI) (k : Nat) : Option V → Res
 | some (.agg l) => if ti.k = 5 then fieldY tb ti l ti.fs[k]? else none
 | _ => none
def indexO (el : TI) (id : Nat) (i : Int) : Option Blk → Res
 | some (.own _ n g _ l) => if el.n = n ∧ el.g = g then rIf (0 ≤ i ∧ i.toNat < l.length) (.optr id n i.toNat 0) else none
 | some (.ownI _ n g _ l) => if el.n = n ∧ el.g = g then rIf (0 ≤ i ∧ i.toNat < l.length) (.optr id n i.toNat 0) else none
 | some (.pown n g _ l) => if el.n = n ∧ el.g = g then rIf (0 ≤ i ∧ i.toNat < l.length) (.pp n g (elt l i.toNat el.z)) else none
 | _ => none
def indexF (H : List (Nat × Blk)) (ti el : TI) : Option V → Option V → Res
 | some (.sl _ n g l), some (.int _ i) => if ti.k = 3 ∧ el.n = n ∧ el.g = g then rIf (0 ≤ i ∧ i.toNat < l.length) (.pp n g (elt l i.toNat el.z)) else none
 | some (.own id), some (.int _ i) => if ti.k = 3 then indexO el id i (getA H id) else none
 | some (.ptr id off), some (.int _ i) => if ti.k = 4 then rIf (0 ≤ i ∧ i < ti.len) (.ptr id (off + i.toNat * el.n)) else none
 | _, _ => none
def byteV (s : List UInt8) (i : Int) : V := .int .u8 ((s.getD i.toNat 0).toNat : Int)
def indexX (ti : TI) : Option V → Option V → Res
 | some (.str s), some (.int _ i) => if ti.k = 2 then rIf (0 ≤ i ∧ i.toNat < s.length) (byteV s i) else none
 | _, _ => none
def shOp (op : BinOp) (k : IntKind) (a b : Int) : Res :=
 match op with
 | .shl => rIf (0 ≤ b) (.int k (shlI k a b))
 | .shr => rIf (0 ≤ b) (.int k (shrI k a b))
 | _ => none
def intOp (op : BinOp) (k : IntKind) (a b : Int) : Res :=
 match op with
 | .add => rOk (.int k (addI k a b))
 | .sub => rOk (.int k (subI k a b))
 | .mul => rOk (.int k (mulI k a b))
 | .quo => rIf (b ≠ 0) (.int k (quoI k a b))
 | .rem => rIf (b ≠ 0) (.int k (remI k a b))
 | .lss => rOk (.bool (decide (a < b)))
 | .leq => rOk (.bool (decide (a ≤ b)))
 | .gtr => rOk (.bool (decide (a > b)))
 | .geq => rOk (.bool (decide (a ≥ b)))
 | .eql => rOk (.bool (a == b))
 | .neq => rOk (.bool (a != b))
 | .and => rOk (.int k (andI k a b))
 | .or => rOk (.int k (orI k a b))
 | .xor => rOk (.int k (xorI k a b))
 | .andNot => rOk (.int k (andNotI k a b))
 | .shl => rIf (0 ≤ b) (.int k (shlI k a b))
 | .shr => rIf (0 ≤ b) (.int k (shrI k a b))
def boolOp (ti : TI) (op : BinOp) (a b : Bool) : Res :=
 match op with
 | .eql => if ti.k = 1 then rOk (.bool (a == b)) else none
 | .neq => if ti.k = 1 then rOk (.bool (a != b)) else none
 | _ => none
def ltS (a b : List UInt8) : Bool := Op.bytesLess a b
def strOp (op : BinOp) (a b : List UInt8) : Res :=
 match op with
 | .add => rIf (a.length + b.length ≤ LEN) (.str (a ++ b))
 | .eql => rOk (.bool (a == b))
 | .neq => rOk (.bool (!(a == b)))
 | .lss => rOk (.bool (ltS a b))
 | .leq => rOk (.bool (ltS a b || a == b))
 | .gtr => rOk (.bool (!(ltS a b || a == b)))
 | .geq => rOk (.bool (!ltS a b))
 | _ => none
def nilB (z : Option Bool) (l : List V) : Option Bool := match z with
 | some b => some b
 | none => match l with
  | [] => none
  | _ :: _ => some false
def nilOp (op : BinOp) : Option Bool → Res
 | some b => match op with
  | .eql => rOk (.bool b)
  | .neq => rOk (.bool (!b))
  | _ => none
 | none => none
def eqC : List Nat → List V → List V → Option Bool
 | [], [], [] => some true
 | 0 :: ks, .int k a :: l, .int k' b :: m => if k = k' then (eqC ks l m).map fun r => a == b && r else none
 | 1 :: ks, .bool a :: l, .bool b :: m => (eqC ks l m).map fun r => a == b && r
 | 2 :: ks, .str a :: l, .str b :: m => (eqC ks l m).map fun r => a == b && r
 | _, _, _ => none
def eqOp (op : BinOp) : Option Bool → Res
 | some r => match op with
  | .eql => rOk (.bool r)
  | .neq => rOk (.bool (!r))
  | _ => none
 | none => none
def binF (ti : TI) (op : BinOp) : Option V → Option V → Res
 | some (.int k a), some (.int k' b) => if k = k' then intOp op k a b else shOp op k a b
 | some (.bool a), some (.bool b) => boolOp ti op a b
 | some (.str a), some (.str b) => strOp op a b
 | some (.agg a), some (.agg b) => if ti.cmp = true ∧ ti.g = true then eqOp op (eqC ti.ck a b) else none
 | some (.sl z n g l), some (.sl (some true) 0 false []) => if ti.k = 3 then nilOp op (nilB z l) else none
 | _, _ => none
def unF (op : UnOp) : Option V → Res
 | some (.bool b) => match op with
  | .not => rOk (.bool (!b))
  | _ => none
 | some (.int k a) => match op with
  | .neg => rOk (.int k (negI k a))
  | .xor => rOk (.int k (notI k a))
  | _ => none
 | _ => none
def numV : V → Int
 | .int _ n => n
 | _ => 0
def isU8 : V → Prop
 | .int .u8 _ => True
 | _ => False
def allU8 : List V → Prop
 | [] => True
 | d :: l => isU8 d ∧ allU8 l
def u8N (n : Int) : UInt8 := UInt8.ofNat n.toNat
def u8V (b : UInt8) : V := .int .u8 (b.toNat : Int)
def convS (tb : TypeId → TI) (s t : TI) (nid : Nat) (a : List UInt8) : Res :=
 if s.k = 2 ∧ t.k = 2 then rOk (.str a)
 else if s.k = 2 ∧ t.k = 3 ∧ (tb t.el).k = 0 ∧ (tb t.el).ik = .u8 then some (True, .own nid, .new (.pown 1 false (some false) (a.map u8V))) else none
def convB (tb : TypeId → TI) (s t : TI) : Option (List V) → Res
 | some l => if s.k = 3 ∧ t.k = 2 ∧ (tb s.el).k = 0 ∧ (tb s.el).ik = .u8 ∧ (tb s.el).n = 1 ∧ (tb s.el).g = false then rIf (allU8 l ∧ l.length ≤ 1073741824) (.str (l.map fun d => u8N (numV d))) else none
 | none => none
def convF (tb : TypeId → TI) (s t : TI) (nid : Nat) (l : Option (List V)) : Option V → Res
 | some (.int k a) => if s.k = 0 ∧ t.k = 0 ∧ s.ik = k then rOk (.int t.ik (convI t.ik a)) else none
 | some (.str a) => convS tb s t nid a
 | some _ => convB tb s t l
 | none => none
def eltsN (l : List V) : Nat → Nat → List V
 | 0, _ => []
 | k + 1, i => elt l i .un :: eltsN l k (i + 1)
def s2aF (ta el : TI) : Option V → Res
 | some (.sl _ n g l) => if ta.k = 4 ∧ el.n = 1 ∧ el.g = false ∧ n = 1 ∧ g = false ∧ 0 < ta.len then rIf (ta.len ≤ l.length) (.pp ta.len true (.agg (eltsN l ta.len 0))) else none
 | _ => none
def pickF : Option V → Option V → Option V → Res
 | some (.bool true), some a, _ => rOk a
 | some (.bool false), _, some b => rOk b
 | _, _, _ => none
def minF : Option V → Option V → Res
 | some (.int k a), some (.int k' b) => if k = k' then rOk (.int k (minI a b)) else none
 | _, _ => none
def maxF : Option V → Option V → Res
 | some (.int k a), some (.int k' b) => if k = k' then rOk (.int k (maxI a b)) else none
 | _, _ => none
def lenO : Option Blk → Res
 | some (.own _ _ _ _ l) => rOk (.int .i64 l.length)
 | some (.ownI _ _ _ _ l) => rOk (.int .i64 l.length)
 | some (.pown _ _ _ l) => rOk (.int .i64 l.length)
 | _ => none
def lenS (i j : Nat) : Option Blk → Res
 | some (.own _ _ _ _ _) => rOk (.int .i64 ((j - i : Nat) : Int))
 | _ => none
def lenF (H : List (Nat × Blk)) (ti : TI) : Option V → Res
 | some (.sl _ _ _ l) => if ti.k = 3 then rOk (.int .i64 l.length) else none
 | some (.str l) => if ti.k = 2 then rOk (.int .i64 l.length) else none
 | some (.own id) => if ti.k = 3 then lenO (getA H id) else none
 | some (.osub id _ i j) => if ti.k = 3 then lenS i j (getA H id) else none
 | _ => none
def extF (k : Nat) : Option V → Res
 | some (.tup l) => match l[k]? with
  | some v => rOk v
  | none => none
 | _ => none
def nilChk : Option V → Res
 | some (.ptr id off) => rOk (.ptr id off)
 | some (.optr id m i off) => rOk (.optr id m i off)
 | some (.pp n g d) => rOk (.pp n g d)
 | some (.fn f cap) => rOk (.fn f cap)
 | _ => none
def setParts (E : Env) (S : St) (fs : List (Nat × TypeId)) : Prop → V → List (Nat × Operand) → Res
 | c, d, [] => rIf c d
 | c, d, (k, x) :: l => match fs[k]? with
  | some (o, U) => match S.evT E U x with
   | some v => setParts E S fs (c ∧ fitV (E.tb U).n (E.tb U).g v) (setPart d o (E.tb U).n (E.tb U).g v) l
   | none => none
  | none => none
def setPartsA (E : Env) (S : St) (el : TypeId) (m : Nat) : Prop → V → List (Nat × Operand) → Res
 | c, d, [] => rIf c d
 | c, d, (k, x) :: l => match S.evT E el x with
  | some v => setPartsA E S el m (c ∧ k < m ∧ fitV (E.tb el).n (E.tb el).g v) (setPart d (k * (E.tb el).n) (E.tb el).n (E.tb el).g v) l
  | none => none
def buildF (E : Env) (S : St) (ti : TI) (ps : List (Nat × Operand)) : Res :=
 if ti.k = 5 then setParts E S ti.fs True ti.z ps else if ti.k = 4 then setPartsA E S ti.el ti.len True ti.z ps else none
def setElems (E : Env) (S : St) (el : TypeId) (n : Nat) : Prop → List V → List (Nat × Operand) → Option (Prop × List V)
 | c, l, [] => some (c, l)
 | c, l, (k, x) :: ps => match S.evT E el x with
  | some v => setElems E S el n (c ∧ k < n ∧ pureV v ∧ fitV (E.tb el).n (E.tb el).g v) (l.set k v) ps
  | none => none
def sliceLit (E : Env) (T : TypeId) (n nid : Nat) : Option (Prop × List V) → Res
 | some (c, l) => if (E.tb T).k = 3 ∧ n * (E.tb (E.tb T).el).n ≤ 16777216 then some (c, .own nid, .new (.own (E.tb T).el (E.tb (E.tb T).el).n (E.tb (E.tb T).el).g (some false) l)) else none
 | none => none
def makeF (E : Env) (T : TypeId) (nid : Nat) : Option V → Option V → Res
 | some (.int _ n), some (.int _ m) =>
  if (E.tb T).k = 3 then some (0 ≤ n ∧ n ≤ m ∧ m ≤ 1073741824, .own nid, .new (.own (E.tb T).el (E.tb (E.tb T).el).n (E.tb (E.tb T).el).g (some false) (List.replicate n.toNat (E.tb (E.tb T).el).z))) else none
 | _, _ => none
def moveF : Option V → Res
 | some v => rOk v
 | none => none
def allocF (ti : TI) (nid : Nat) (c : Prop) (d : V) : Res := some (c, .ptr nid 0, .new (.var ti.n ti.g d))
def boxF (ti : TI) (nid : Nat) : Option V → Res
 | some v => allocF ti nid (fitV ti.n ti.g v) v
 | none => none
def listO (el : TI) : Option Blk → Option (List V)
 | some (.own _ n g _ l) => if el.n = n ∧ el.g = g then some l else none
 | some (.pown n g _ l) => if el.n = n ∧ el.g = g then some l else none
 | _ => none
def cutN {α : Type} (l : List α) (i j : Nat) : List α := (l.drop i).take (j - i)
def listS (el : TI) (n i j : Nat) : Option Blk → Option (List V)
 | some (.own _ n' g _ l) => if el.n = n' ∧ el.g = g ∧ n = n' then some (cutN l i j) else none
 | _ => none
def listF (H : List (Nat × Blk)) (el : TI) : Option V → Option (List V)
 | some (.sl _ n g l) => if el.n = n ∧ el.g = g then some l else none
 | some (.own id) => listO el (getA H id)
 | some (.osub id n i j) => listS el n i j (getA H id)
 | _ => none
def zApp (m : List V) : Option Bool := match m with
 | [] => none
 | _ :: _ => some false
def appO (elT : TypeId) (el : TI) (id : Nat) (m : List V) : Option Blk → Res
 | some (.own E n g _ l) => if E = elT ∧ el.n = n ∧ el.g = g then some (l.length + m.length ≤ 1073741824, .own id, .app id (.own E n g (zApp m) (l ++ m))) else none
 | _ => none
def appF (H : List (Nat × Blk)) (ti el : TI) (nid : Nat) : Option V → Option (List V) → Res
 | some (.own id), some m => if ti.k = 3 then appO ti.el el id m (getA H id) else none
 | some (.sl (some true) _ _ []), some m => if ti.k = 3 then some (m.length ≤ 1073741824, .own nid, .new (.own ti.el el.n el.g (zApp m) m)) else none
 | _, _ => none
def bound (len : Int) : Option (Option V) → Option Int
 | none => some len
 | some (some (.int _ i)) => some i
 | _ => none
def loB (ev : Operand → Option V) : Option Operand → Option Int
 | none => some 0
 | some x => bound 0 (some (ev x))
def hiB (len : Int) (ev : Operand → Option V) : Option Operand → Option Int
 | none => some len
 | some x => bound len (some (ev x))
def cutL (l : List V) (i j : Int) : List V := (l.drop i.toNat).take (j.toNat - i.toNat)
def sliceO (el : TI) (id : Nat) (i j : Int) : Option Blk → Res
 | some (.own _ n g _ l) => if el.n = n ∧ el.g = g then rIf (0 ≤ i ∧ i ≤ j ∧ j ≤ l.length) (.osub id n i.toNat j.toNat) else none
 | some (.pown n g _ l) => if el.n = n ∧ el.g = g then rIf (0 ≤ i ∧ i ≤ j ∧ j ≤ l.length) (.sl none n g (cutL l i j)) else none
 | _ => none
def cutA (l : List V) (i j : Int) : List V := (l.drop i.toNat).take (j.toNat - i.toNat)
def sliceAr (el : TI) (m : Nat) (l : List V) (off : Nat) (i j : Int) : Res :=
 if el.n = 1 ∧ el.g = false ∧ off + m ≤ l.length ∧ m ≤ 1073741824 then rIf (0 ≤ i ∧ i ≤ j ∧ j ≤ m) (.sl (some false) 1 false (cutA (l.drop off) i j)) else none
def giveR (id : Nat) (b : Blk) (p : Prop) : Res → Res
 | some (c, v, _) => some (c ∧ p, v, .giv id b)
 | none => none
def sliceP (el : TI) (id m off : Nat) (i j : Int) : Option Blk → Res
 | some (.pvar _ true (.agg l)) => sliceAr el m l off i j
 | some (.var n true (.agg l)) => giveR id (.pvar n true (.agg l)) (pureL l) (sliceAr el m l off i j)
 | _ => none
def sliceF (H : List (Nat × Blk)) (ti el : TI) : Option V → Option Int → Option Int → Res
 | some (.sl z n g l), some i, some j => if ti.k = 3 ∧ el.n = n ∧ el.g = g then rIf (0 ≤ i ∧ i ≤ j ∧ j ≤ l.length) (.sl none n g (cutL l i j)) else none
 | some (.str s), some i, some j => if ti.k = 2 then rIf (0 ≤ i ∧ i ≤ j ∧ j ≤ s.length) (.str ((s.drop i.toNat).take (j.toNat - i.toNat))) else none
 | some (.own id), some i, some j => if ti.k = 3 then sliceO el id i j (getA H id) else none
 | some (.ptr id off), some i, some j => if ti.k = 4 then sliceP el id ti.len off i j (getA H id) else none
 | some (.pp _ true (.agg l)), some i, some j => if ti.k = 4 then sliceAr el ti.len l 0 i j else none
 | _, _, _ => none
def lenB : Option Blk → Int
 | some (.own _ _ _ _ l) => l.length
 | some (.pown _ _ _ l) => l.length
 | _ => 0
def lenI (m : Nat) (H : List (Nat × Blk)) : Option V → Int
 | some (.ptr _ _) => m
 | some (.pp _ _ _) => m
 | some (.sl _ _ _ l) => l.length
 | some (.str l) => l.length
 | some (.own id) => lenB (getA H id)
 | _ => 0
def rUpd (v : V) (id : Nat) (b : Blk) : Res := some (True, v, .upd id b)
def spl {α : Type} (l : List α) (i k : Nat) (m : List α) : List α := l.take i ++ m.take k ++ l.drop (i + k)
def copyO (el : TI) (id i j : Nat) (m : List V) : Option Blk → Res
 | some (.own E n g z l) => if el.n = n ∧ el.g = g then rUpd (.int .i64 ((min (j - i) m.length : Nat) : Int)) id (.own E n g z (spl l i (min (j - i) m.length) m)) else none
 | _ => none
def copyW (el : TI) (id : Nat) (m : List V) : Option Blk → Res
 | some (.own E n g z l) => copyO el id 0 l.length m (some (.own E n g z l))
 | _ => none
def copyN (el : TI) (id n i j : Nat) (m : List V) : Option Blk → Res
 | some (.own E n' g z l) => if n = n' then copyO el id i j m (some (.own E n' g z l)) else none
 | some (.var n' true (.agg l)) => if n = 1 ∧ i = 0 ∧ el.n = 1 ∧ el.g = false ∧ j = l.length ∧ 0 < l.length ∧ l.length ≤ 1073741824 then some (pureL l, .int .i64 ((min j m.length : Nat) : Int), .upd id (.var n' true (.agg (spl l 0 (min j m.length) m)))) else none
 | _ => none
def copyF (H : List (Nat × Blk)) (ti el : TI) : Option V → Option (List V) → Res
 | some (.own id), some m => if ti.k = 3 then copyW el id m (getA H id) else none
 | some (.osub id n i j), some m => if ti.k = 3 then copyN el id n i j m (getA H id) else none
 | _, _ => none
def foldO (gv : Nat → Option V) (S : St) (op : Int → Int → Int) : Option V → List Operand → Res
 | some (.int k a), [] => rOk (.int k a)
 | some (.int k a), x :: l => match S.ev gv x with
  | some (.int k' b) => if k = k' then foldO gv S op (some (.int k (op a b))) l else none
  | _ => none
 | _, _ => none
def callF (E : Env) (S : St) (nid : Nat) : Callee → List Operand → List TypeId → Res
 | .builtin .len, [x], [U] => rB (E.tb U).ok (lenF S.H (E.tb U) (S.ev E.gv x))
 | .builtin .min, [x, y], _ => minF (S.ev E.gv x) (S.ev E.gv y)
 | .builtin .max, [x, y], _ => maxF (S.ev E.gv x) (S.ev E.gv y)
 | .builtin .min, x :: y :: z :: l, _ => foldO E.gv S minI (S.ev E.gv x) (y :: z :: l)
 | .builtin .max, x :: y :: z :: l, _ => foldO E.gv S maxI (S.ev E.gv x) (y :: z :: l)
 | .builtin .copy, [x, y], [U, W] => if U = W ∧ (E.tb U).ok = true then copyF S.H (E.tb U) (E.tb (E.tb U).el) (S.ev E.gv x) (listF S.H (E.tb (E.tb U).el) (S.evT E U y)) else none
 | .builtin .append, [x, y], [U, W] => if U = W ∧ (E.tb U).ok = true then appF S.H (E.tb U) (E.tb (E.tb U).el) nid (S.evT E U x) (listF S.H (E.tb (E.tb U).el) (S.evT E U y)) else none
 | _, _, _ => none
def evL (ev : Operand → Option V) : List Operand → Option (List V)
 | [] => some []
 | x :: l => consO (ev x) (evL ev l)
where consO : Option V → Option (List V) → Option (List V)
 | some v, some vs => some (v :: vs)
 | _, _ => none
def mkFn : Fn → List Operand → Option (List V) → Res
 | .func f, [], some l => rOk (.fn f l)
 | _, _, _ => none
def opF (E : Env) (S : St) (nid : Nat) (T : TypeId) : Op → Res
 | .move x => moveF (S.evT E T x)
 | .assign x => moveF (S.evT E T x)
 | .pick c a b => pickF (S.ev E.gv c) (S.evT E T a) (S.evT E T b)
 | .load U x => rB (E.tb U).ok (loadF E.tb S.H (E.tb U) (S.ev E.gv x))
 | .store U x y => rB (E.tb U).ok (storeF E.tb S.H (E.tb U) (S.ev E.gv x) (S.evT E U y))
 | .fieldAddr U x k => rB (E.tb U).ok (fieldF E.tb (E.tb U) k (S.ev E.gv x))
 | .field U x k => rB (E.tb U).ok (fieldX E.tb (E.tb U) k (S.ev E.gv x))
 | .indexAddr U x y => rB (E.tb U).ok (indexF S.H (E.tb U) (E.tb (E.tb U).el) (S.ev E.gv x) (S.ev E.gv y))
 | .index U x y => rB (E.tb U).ok (indexX (E.tb U) (S.ev E.gv x) (S.ev E.gv y))
 | .alloc U => rB (E.tb U).ok (allocF (E.tb U) nid True (E.tb U).z)
 | .box U x => rB (E.tb U).ok (boxF (E.tb U) nid (S.evT E U x))
 | .build U ps => rB (E.tb U).ok (buildF E S (E.tb U) ps.toList)
 | .buildSlice U n ps => rB (E.tb U).ok (sliceLit E U n nid (setElems E S (E.tb U).el n True (List.replicate n (E.tb (E.tb U).el).z) ps.toList))
 | .makeSlice U n m => rB (E.tb U).ok (makeF E U nid (S.ev E.gv n) (S.ev E.gv m))
 | .binOp op U x y _ => rB (E.tb U).ok (binF (E.tb U) op (S.ev E.gv x) (S.ev E.gv y))
 | .unOp op _ x => unF op (S.ev E.gv x)
 | .convert U W x => rB ((E.tb U).ok && (E.tb W).ok) (convF E.tb (E.tb U) (E.tb W) nid (listF S.H (E.tb (E.tb U).el) (S.ev E.gv x)) (S.ev E.gv x))
 | .sliceToArrayPointer A x => rB (E.tb A).ok (s2aF (E.tb A) (E.tb (E.tb A).el) (S.ev E.gv x))
 | .extract x k => extF k (S.ev E.gv x)
 | .nilCheck x => nilChk (S.ev E.gv x)
 | .slice U x lo hi none => rB (E.tb U).ok (sliceF S.H (E.tb U) (E.tb (E.tb U).el) (S.ev E.gv x) (loB (S.ev E.gv) lo) (hiB (lenI (E.tb U).len S.H (S.ev E.gv x)) (S.ev E.gv) hi))
 | .call cl => callF E S nid cl.callee cl.args.toList cl.argTypes.toList
 | .makeFunc fn first cs => mkFn fn first.toList (evL (S.ev E.gv) cs.toList)
 | _ => none
def subO (tb : TypeId → TI) (U : TypeId) (id : Nat) : Option Blk → Res
 | some (.var _ true (.agg l)) => if (tb U).ok = true ∧ (tb U).k = 4 ∧ (tb (tb U).el).n = 1 ∧ (tb (tb U).el).g = false ∧ (tb U).len = l.length ∧ 0 < l.length ∧ l.length ≤ 1073741824 then some (True, .osub id 1 0 (tb U).len, .none) else none
 | _ => none
def subOf (tb : TypeId → TI) (H : List (Nat × Blk)) (U : TypeId) : Option V → Res
 | some (.ptr id 0) => subO tb U id (getA H id)
 | _ => none
def isSl : Op → Option (TypeId × Operand)
 | .slice U x none none none => some (U, x)
 | _ => none
def orElse : Res → Res → Res
 | some r, _ => some r
 | none, r => r
def opH (E : Env) (S : St) (nid : Nat) (T : TypeId) (op : Op) : Res := match isSl op with
 | some (U, x) => orElse (subOf E.tb S.H U (S.ev E.gv x)) (opF E S nid T op)
 | none => opF E S nid T op
mutual
def purge (id : Nat) : V → V
 | .own i => if i = id then .un else .own i
 | .ptr i o => if i = id then .un else .ptr i o
 | .optr i n k o => if i = id then .un else .optr i n k o
 | .osub i n k o => if i = id then .un else .osub i n k o
 | .agg l => .agg (purgeL id l)
 | .tup l => .tup (purgeL id l)
 | .fn f l => .fn f (purgeL id l)
 | v => v
def purgeL (id : Nat) : List V → List V
 | [] => []
 | d :: l => purge id d :: purgeL id l
end
def purgeB (id : Nat) : Blk → Blk
 | .var n g d => .var n g (purge id d)
 | .lent k n g d => .lent k n g (purge id d)
 | .ownI E n g z l => .ownI E n g z (purgeL id l)
 | b => b
def purgeF (id : Nat) : List (Nat × V) → List (Nat × V)
 | [] => []
 | (t, v) :: l => (t, purge id v) :: purgeF id l
def purgeH (id : Nat) : List (Nat × Blk) → List (Nat × Blk)
 | [] => []
 | (t, b) :: l => (t, purgeB id b) :: purgeH id l
def St.eff (S : St) (nid : Nat) : Eff → St
 | .none => S
 | .new b => { S with H := (nid, b) :: S.H, nx := nid + 1 }
 | .upd id b => { S with H := setA S.H id b }
 | .app id b => { S with H := setA (purgeH id S.H) id b, F := purgeF id S.F }
 | .giv id b => { S with H := setA S.H id b }
def St.put (S : St) (d : Option Nat) (v : V) : St :=
 match d with
 | some t => { S with F := (t, v) :: S.F }
 | none => S
end Go.Proofs.Ytcbdmoihobdjaaa
