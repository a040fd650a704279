/- Texts of this proof, one after the other: V2, V3, V4, V5, V6, V7, VQ. -/
import Derived.Test.YtgealhhkngbkbaaGreatDoorZ1
set_option linter.unusedSimpArgs false
set_option linter.unusedVariables false
namespace Go.Proofs.YtgealhhkngbkbaaGreatDoor
open Go.RowKit
structure TI where
 n:Nat:=1
 g:Bool:=false
 z:V:= .un
 el:TypeId:=0
 len:Nat:=0
 fs:List (Nat×TypeId):=[]
 k:Nat:=99
 ik:IntKind:= .i64
 by':Nat:=8
 cmp:Bool:=false
 ck:List Nat:=[]
 ok:Bool:=false
structure Env where
 P:Program
 tb:TypeId→TI
 gv:Nat→Option V
inductive Blk where
 | var (n:Nat) (g:Bool) (d:V)
 | own (E:TypeId) (n:Nat) (g:Bool) (z:Option Bool) (l:List V)
 | ownI (E:TypeId) (n:Nat) (g:Bool) (z:Option Bool) (l:List V)
 | pvar (n:Nat) (g:Bool) (d:V)
 | pown (n:Nat) (g:Bool) (z:Option Bool) (l:List V)
 | lent (k n:Nat) (g:Bool) (d:V)
 | kset (g:Bool) (k:IntKind) (n:Nat) (l:List (List Int))
structure St where
 F:List (Nat×V)
 H:List (Nat×Blk)
 nx:Nat
def ae {α:Type}:List (Nat×α)→Nat→Option α
 | [],_=>none
 | (k,v)::l,t=>if k=t then some v else ae l t
def dc {α:Type}:List (Nat×α)→Nat→α→List (Nat×α)
 | [],t,x=> [(t,x)]
 | (k,v)::l,t,x=>if k=t then (t,x)::l else (k,v)::dc l t x
def m9 (k:IntKind) (n:Int):Bool:=
 match k with
 | .i64=>decide (-9223372036854775808≤n)&&decide (n≤9223372036854775807)
 | .u64=>decide (0≤n)&&decide (n≤18446744073709551615)
 | .u8=>decide (0≤n)&&decide (n≤255)
 | .u32=>decide (0≤n)&&decide (n≤4294967295)
 | .i32=>decide (-2147483648≤n)&&decide (n≤2147483647)
 | .u16=>decide (0≤n)&&decide (n≤65535)
 | .i8=>decide (-128≤n)&&decide (n≤127)
 | .i16=>decide (-32768≤n)&&decide (n≤32767)
mutual
def zrB:V→Value→Bool
 | .int k n,.int k' n'=>decide (k=k')&&decide (n=n')&&m9 k n
 | .bool b,.bool b'=>decide (b=b')
 | .str [],.string s=>decide (s.data.toList=[])
 | .sl (some true) _ _ [],.slice none 0 0=>true
 | .agg l,.agg cs=>zrC l cs.toList
 | .un,_=>true
 | _,_=>false
def zrC:List V→List Value→Bool
 | [],[]=>true
 | d::l,u::cs=>u.oneCell'&&zrB d u&&zrC l cs
 | _,_=>false
end
def qW (b:Bool) (k:IntKind) (n:Int):Option V:=match b with
 | true=>some (.int k n)
 | false=>none
def uH (s:ByteArray):Option V:=if s.size≤LEN then some (.str s.data.toList) else none
def qX:Value→Option V
 | .int k n=>qW (m9 k n) k n
 | .bool b=>some (.bool b)
 | .string s=>uH s
 | .slice none 0 0=>some (.sl (some true) 0 false [])
 | .nilIface=>some (.ifc true)
 | _=>none
def St.ev (gv:Nat→Option V) (S:St):Operand→Option V
 | .tmp t=>ae S.F t
 | .const v=>qX v
 | .func f=>some (.fn f [])
 | .global g=>gv g
def qY (tb:TypeId→TI) (T:TypeId):V:= .sl (some true) (tb (tb T).el).n (tb (tb T).el).g []
def uI (z:V) (cs:Array Value):Option V:=match zrB z (.agg cs) with
 | true=>some z
 | false=>none
def uJ (tb:TypeId→TI) (T:TypeId):Value→Option V
 | .int k n=>qW (m9 k n) k n
 | .bool b=>some (.bool b)
 | .string s=>uH s
 | .slice none 0 0=>some (qY tb T)
 | .nilIface=>some (.ifc true)
 | .map none=>some .un
 | .pointer none=>some .un
 | .agg cs=>uI (tb T).z cs
 | _=>none
def St.evT (E:Env) (S:St) (T:TypeId):Operand→Option V
 | .tmp t=>ae S.F t
 | .const v=>uJ E.tb T v
 | .func f=>some (.fn f [])
 | .global g=>E.gv g
inductive Eff where
 | none
 | new (b:Blk)
 | upd (id:Nat) (b:Blk)
 | app (id:Nat) (b:Blk)
 | giv (id:Nat) (b:Blk)
 | mrk (id:Nat) (b:Blk)
abbrev Res:=Option (Prop×V×Eff)
def rOk (v:V):Res:=some (True,v,.none)
def rIf (c:Prop) (v:V):Res:=some (c,v,.none)
def rB (b:Bool) (r:Res):Res:=match b with
 | true=>r
 | false=>none
def kH (ti:TI) (n:Nat) (g:Bool) (off:Nat) (c:Prop) (d:V):Res:=
 if off=0∧ti.n=n∧ti.g=g then rIf c d
 else if g=true∧off+ti.n≤n then rIf c (part d off ti.n ti.g) else none
def elt (l:List V) (i:Nat) (z:V):V:=l.getD i z
def uK (tb:TypeId→TI) (ti:TI) (off:Nat):Option Blk→Res
 | some (.var n g d)=>kH ti n g off True d
 | some (.pvar n g d)=>kH ti n g off True d
 | some (.lent _ n g d)=>kH ti n g off True d
 | _=>none
def uL (tb:TypeId→TI) (ti:TI) (m i off:Nat):Option Blk→Res
 | some (.own E n g _ l)=>if m=n then kH ti n g off (i<l.length) (elt l i (tb E).z) else none
 | some (.ownI E n g _ l)=>if m=n then kH ti n g off (i<l.length) (elt l i (tb E).z) else none
 | _=>none
def qZ (tb:TypeId→TI) (H:List (Nat×Blk)) (ti:TI):Option V→Res
 | some (.pp n g d)=>if ti.n=n∧ti.g=g then rOk d else none
 | some (.ptr id off)=>uK tb ti off (ae H id)
 | some (.optr id m i off)=>uL tb ti m i off (ae H id)
 | _=>none
mutual
def dA:V→Prop
 | .own _=>False
 | .ptr _ _=>False
 | .optr _ _ _ _=>False
 | .osub _ _ _ _=>False
 | .agg l=>dU l
 | .tup l=>dU l
 | .fn _ l=>dU l
 | _=>True
def dU:List V→Prop
 | []=>True
 | d::l=>dA d∧dU l
end
def eK (n:Nat):Bool→V→Prop
 | true,.agg l=>l.length=n
 | true,_=>False
 | false,.int _ _=>True
 | false,.bool _=>True
 | false,.ifc _=>True
 | false,.str _=>True
 | false,.sl _ _ _ _=>True
 | false,.pp _ _ _=>True
 | false,.own _=>True
 | false,.ptr _ _=>True
 | false,.optr _ _ _ _=>True
 | false,.osub _ _ _ _=>True
 | false,.fn _ _=>True
 | false,.opq _=>True
 | false,_=>False
def uM (ti:TI) (id off:Nat) (x:V):Option Blk→Res
 | some (.var n g d)=>
  if off=0∧ti.n=n∧ti.g=g then some (eK ti.n ti.g x,.un,.upd id (.var n g x))
  else if g=true∧off+ti.n≤n then some (eK ti.n ti.g x,.un,.upd id (.var n g (kE d off ti.n ti.g x))) else none
 | some (.lent k n g d)=>
  if off=0∧ti.n=n∧ti.g=g then some (eK ti.n ti.g x,.un,.upd id (.lent k n g x))
  else if g=true∧off+ti.n≤n then some (eK ti.n ti.g x,.un,.upd id (.lent k n g (kE d off ti.n ti.g x))) else none
 | _=>none
def uN:V→Bool
 | .own _=>true
 | _=>false
def uO (tb:TypeId→TI) (ti:TI) (id m i off:Nat) (x:V):Option Blk→Res
 | some (.own E n g z l)=>
  if m=n then
   if off=0∧ti.n=n∧ti.g=g then (match uN x with
    | false=>some (i<l.length∧dA x∧eK ti.n ti.g x,.un,.upd id (.own E n g z (l.set i x)))
    | true=>some (i<l.length∧eK ti.n ti.g x,.un,.upd id (.ownI E n g z (l.set i x))))
   else if g=true∧off+ti.n≤n then some (i<l.length∧dA x∧eK ti.n ti.g x,.un,.upd id (.own E n g z (l.set i (kE (elt l i (tb E).z) off ti.n ti.g x)))) else none
  else none
 | _=>none
def q6 (tb:TypeId→TI) (H:List (Nat×Blk)) (ti:TI):Option V→Option V→Res
 | some (.ptr id off),some x=>uM ti id off x (ae H id)
 | some (.optr id m i off),some x=>uO tb ti id m i off x (ae H id)
 | _,_=>none
def uP (tb:TypeId→TI) (ti:TI) (v:V):Option (Nat×TypeId)→Res
 | some (o,U)=>match v with
  | .ptr id off=>rOk (.ptr id (off+o))
  | .optr id m i off=>rOk (.optr id m i (off+o))
  | .pp n g d=>if g=true∧ti.n=n then rOk (.pp (tb U).n (tb U).g (part d o (tb U).n (tb U).g)) else none
  | _=>none
 | none=>none
def q7 (tb:TypeId→TI) (ti:TI) (k:Nat):Option V→Res
 | some v=>if ti.k=5 then uP tb ti v ti.fs[k]? else none
 | none=>none
def uQ (tb:TypeId→TI) (ti:TI) (l:List V):Option (Nat×TypeId)→Res
 | some (o,U)=>rIf (l.length=ti.n) (part (.agg l) o (tb U).n (tb U).g)
 | none=>none
def q8 (tb:TypeId→TI) (ti:TI) (k:Nat):Option V→Res
 | some (.agg l)=>if ti.k=5 then uQ tb ti l ti.fs[k]? else none
 | _=>none
def uR (el:TI) (id:Nat) (i:Int):Option Blk→Res
 | some (.own _ n g _ l)=>if el.n=n∧el.g=g then rIf (0≤i∧i.toNat<l.length) (.optr id n i.toNat 0) else none
 | some (.ownI _ n g _ l)=>if el.n=n∧el.g=g then rIf (0≤i∧i.toNat<l.length) (.optr id n i.toNat 0) else none
 | some (.pown n g _ l)=>if el.n=n∧el.g=g then rIf (0≤i∧i.toNat<l.length) (.pp n g (elt l i.toNat el.z)) else none
 | _=>none
def q9 (H:List (Nat×Blk)) (ti el:TI):Option V→Option V→Res
 | some (.sl _ n g l),some (.int _ i)=>if ti.k=3∧el.n=n∧el.g=g then rIf (0≤i∧i.toNat<l.length) (.pp n g (elt l i.toNat el.z)) else none
 | some (.own id),some (.int _ i)=>if ti.k=3 then uR el id i (ae H id) else none
 | some (.ptr id off),some (.int _ i)=>if ti.k=4 then rIf (0≤i∧i<ti.len) (.ptr id (off+i.toNat*el.n)) else none
 | some (.pp n g d),some (.int _ i)=>if g=true∧ti.k=4 then rIf ((0≤i∧i<ti.len)∧i.toNat*el.n+el.n≤n) (.pp el.n el.g (part d (i.toNat*el.n) el.n el.g)) else none
 | _,_=>none
def zx (s:List UInt8) (i:Int):V:= .int .u8 ((s.getD i.toNat 0).toNat:Int)
def ra (ti el:TI):Option V→Option V→Res
 | some (.str s),some (.int _ i)=>if ti.k=2 then rIf (0≤i∧i.toNat<s.length) (zx s i) else none
 | some (.agg l),some (.int _ i)=>if ti.k=4 then rIf ((0≤i∧i<ti.len)∧l.length=ti.n∧i.toNat*el.n+el.n≤ti.n) (part (.agg l) (i.toNat*el.n) el.n el.g) else none
 | _,_=>none
def uS (op:BinOp) (k:IntKind) (a b:Int):Res:=
 match op with
 | .shl=>rIf (0≤b) (.int k (aC k a b))
 | .shr=>rIf (0≤b) (.int k (aB k a b))
 | _=>none
def rb (op:BinOp) (k:IntKind) (a b:Int):Res:=
 match op with
 | .add=>rOk (.int k (ao k a b))
 | .sub=>rOk (.int k (ap k a b))
 | .mul=>rOk (.int k (aX k a b))
 | .quo=>rIf (b≠0) (.int k (cm k a b))
 | .rem=>rIf (b≠0) (.int k (aO k a b))
 | .lss=>rOk (.bool (decide (a<b)))
 | .leq=>rOk (.bool (decide (a≤b)))
 | .gtr=>rOk (.bool (decide (a>b)))
 | .geq=>rOk (.bool (decide (a≥b)))
 | .eql=>rOk (.bool (a==b))
 | .neq=>rOk (.bool (a !=b))
 | .and=>rOk (.int k (bE k a b))
 | .or=>rOk (.int k (orI k a b))
 | .xor=>rOk (.int k (cw k a b))
 | .andNot=>rOk (.int k (oN k a b))
 | .shl=>rIf (0≤b) (.int k (aC k a b))
 | .shr=>rIf (0≤b) (.int k (aB k a b))
def rc (ti:TI) (op:BinOp) (a b:Bool):Res:=
 match op with
 | .eql=>if ti.k=1 then rOk (.bool (a==b)) else none
 | .neq=>if ti.k=1 then rOk (.bool (a !=b)) else none
 | _=>none
def ltS (a b:List UInt8):Bool:=Op.bytesLess a b
def uT (op:BinOp) (a b:List UInt8):Res:=
 match op with
 | .add=>rIf (a.length+b.length≤LEN) (.str (a++b))
 | .eql=>rOk (.bool (a==b))
 | .neq=>rOk (.bool (!(a==b)))
 | .lss=>rOk (.bool (ltS a b))
 | .leq=>rOk (.bool (ltS a b||a==b))
 | .gtr=>rOk (.bool (!(ltS a b||a==b)))
 | .geq=>rOk (.bool (!ltS a b))
 | _=>none
def oS (z:Option Bool) (l:List V):Option Bool:=match z with
 | some b=>some b
 | none=>match l with
  | []=>none
  | _::_=>some false
def kI (op:BinOp):Option Bool→Res
 | some b=>match op with
  | .eql=>rOk (.bool b)
  | .neq=>rOk (.bool (!b))
  | _=>none
 | none=>none
def eqC:List Nat→List V→List V→Option Bool
 | [],[],[]=>some true
 | 0::ks,.int k a::l,.int k' b::m=>if k=k' then (eqC ks l m).map fun r=>a==b&&r else none
 | 1::ks,.bool a::l,.bool b::m=>(eqC ks l m).map fun r=>a==b&&r
 | 2::ks,.str a::l,.str b::m=>(eqC ks l m).map fun r=>a==b&&r
 | _,_,_=>none
def oT (op:BinOp):Option Bool→Res
 | some r=>match op with
  | .eql=>rOk (.bool r)
  | .neq=>rOk (.bool (!r))
  | _=>none
 | none=>none
def isC:Operand→Bool
 | .const _=>true
 | _=>false
def uU (ti:TI) (op:BinOp) (lit:Bool):Option V→Option V→Res
 | some (.int k a),some (.int k' b)=>if k=k' then rb op k a b else uS op k a b
 | some (.bool a),some (.bool b)=>rc ti op a b
 | some (.str a),some (.str b)=>uT op a b
 | some (.agg a),some (.agg b)=>if ti.cmp=true∧ti.g=true then oT op (eqC ti.ck a b) else none
 | some (.sl z n g l),some (.sl (some true) 0 false [])=>if ti.k=3 then kI op (oS z l) else none
 | some (.ifc b),some (.ifc true)=>if lit=true∧ti.k=8 then kI op (some b) else none
 | _,_=>none
def unF (op:UnOp):Option V→Res
 | some (.bool b)=>match op with
  | .not=>rOk (.bool (!b))
  | _=>none
 | some (.int k a)=>match op with
  | .neg=>rOk (.int k (gA k a))
  | .xor=>rOk (.int k (lM k a))
  | _=>none
 | _=>none
def jI:V→Int
 | .int _ n=>n
 | _=>0
def uV:V→Prop
 | .int .u8 _=>True
 | _=>False
def re:List V→Prop
 | []=>True
 | d::l=>uV d∧re l
def u8N (n:Int):UInt8:=UInt8.ofNat n.toNat
def u8V (b:UInt8):V:= .int .u8 (b.toNat:Int)
def uW (tb:TypeId→TI) (s t:TI) (nid:Nat) (a:List UInt8):Res:=
 if s.k=2∧t.k=2 then rOk (.str a)
 else if s.k=2∧t.k=3∧(tb t.el).k=0∧(tb t.el).ik= .u8 then some (True,.own nid,.new (.pown 1 false (some false) (a.map u8V))) else none
def uX (tb:TypeId→TI) (s t:TI):Option (List V)→Res
 | some l=>if s.k=3∧t.k=2∧(tb s.el).k=0∧(tb s.el).ik= .u8∧(tb s.el).n=1∧(tb s.el).g=false then rIf (re l∧l.length≤1073741824) (.str (l.map fun d=>u8N (jI d))) else none
 | none=>none
def oU (tb:TypeId→TI) (s t:TI) (nid:Nat) (l:Option (List V)):Option V→Res
 | some (.int k a)=>if s.k=0∧t.k=0∧s.ik=k then rOk (.int t.ik (al t.ik a)) else none
 | some (.str a)=>uW tb s t nid a
 | some _=>uX tb s t l
 | none=>none
def rf (tb:TypeId→TI) (s:TI) (i:Nat):Option Blk→Res
 | some (.own _ n g z l)=>if s.k=3∧(tb s.el).k=0∧(tb s.el).ik= .u8∧n=1∧g=false then some (0<l.length,.sl z 1 false l,.mrk i (.pown 1 false z l)) else none
 | _=>none
def uY (tb:TypeId→TI) (s:TI) (H:List (Nat×Blk)) (v:Option V) (r:Res):Res:=match v with
 | some (.own i)=>rf tb s i (ae H i)
 | _=>r
def oV (l:List V):Nat→Nat→List V
 | 0,_=> []
 | k+1,i=>elt l i .un::oV l k (i+1)
def rg (ta el:TI):Option V→Res
 | some (.sl _ n g l)=>if ta.k=4∧el.n=1∧el.g=false∧n=1∧g=false∧0<ta.len then rIf (ta.len≤l.length) (.pp ta.len true (.agg (oV l ta.len 0))) else none
 | _=>none
def rh:Option V→Option V→Option V→Res
 | some (.bool true),some a,_=>rOk a
 | some (.bool false),_,some b=>rOk b
 | _,_,_=>none
def ri:Option V→Option V→Res
 | some (.int k a),some (.int k' b)=>if k=k' then rOk (.int k (dS a b)) else none
 | _,_=>none
def rk:Option V→Option V→Res
 | some (.int k a),some (.int k' b)=>if k=k' then rOk (.int k (b_ a b)) else none
 | _,_=>none
def uZ:Option Blk→Res
 | some (.own _ _ _ _ l)=>rOk (.int .i64 l.length)
 | some (.ownI _ _ _ _ l)=>rOk (.int .i64 l.length)
 | some (.pown _ _ _ l)=>rOk (.int .i64 l.length)
 | _=>none
def u6 (i j:Nat):Option Blk→Res
 | some (.own _ _ _ _ _)=>rOk (.int .i64 ((j - i:Nat):Int))
 | _=>none
def rl (H:List (Nat×Blk)) (ti:TI):Option V→Res
 | some (.sl _ _ _ l)=>if ti.k=3 then rOk (.int .i64 l.length) else none
 | some (.str l)=>if ti.k=2 then rOk (.int .i64 l.length) else none
 | some (.own id)=>if ti.k=3 then uZ (ae H id) else none
 | some (.osub id _ i j)=>if ti.k=3 then u6 i j (ae H id) else none
 | _=>none
def rm (k:Nat):Option V→Res
 | some (.tup l)=>match l[k]? with
  | some v=>rOk v
  | none=>none
 | _=>none
def rn:Option V→Res
 | some (.ptr id off)=>rOk (.ptr id off)
 | some (.optr id m i off)=>rOk (.optr id m i off)
 | some (.pp n g d)=>rOk (.pp n g d)
 | some (.fn f cap)=>rOk (.fn f cap)
 | _=>none
def m_ (E:Env) (S:St) (fs:List (Nat×TypeId)):Prop→V→List (Nat×Operand)→Res
 | c,d,[]=>rIf c d
 | c,d,(k,x)::l=>match fs[k]? with
  | some (o,U)=>match S.evT E U x with
   | some v=>m_ E S fs (c∧eK (E.tb U).n (E.tb U).g v) (kE d o (E.tb U).n (E.tb U).g v) l
   | none=>none
  | none=>none
def lR (E:Env) (S:St) (el:TypeId) (m:Nat):Prop→V→List (Nat×Operand)→Res
 | c,d,[]=>rIf c d
 | c,d,(k,x)::l=>match S.evT E el x with
  | some v=>lR E S el m (c∧k<m∧eK (E.tb el).n (E.tb el).g v) (kE d (k*(E.tb el).n) (E.tb el).n (E.tb el).g v) l
  | none=>none
def rp (E:Env) (S:St) (ti:TI) (ps:List (Nat×Operand)):Res:=
 if ti.k=5 then m_ E S ti.fs True ti.z ps else if ti.k=4 then lR E S ti.el ti.len True ti.z ps else none
def pvO (i:Nat):Option Blk→V
 | some (.pown n g z l)=> .sl z n g l
 | _=> .own i
mutual
def pvw (H:List (Nat×Blk)):V→V
 | .own i=>pvO i (ae H i)
 | .agg l=> .agg (lS H l)
 | v=>v
def lS (H:List (Nat×Blk)):List V→List V
 | []=> []
 | d::l=>pvw H d::lS H l
end
def kJ (E:Env) (S:St) (el:TypeId) (n:Nat):Prop→List V→List (Nat×Operand)→Option (Prop×List V)
 | c,l,[]=>some (c,l)
 | c,l,(k,x)::ps=>match S.evT E el x with
  | some v=>kJ E S el n (c∧k<n∧dA (pvw S.H v)∧eK (E.tb el).n (E.tb el).g (pvw S.H v)) (l.set k (pvw S.H v)) ps
  | none=>none
def rq (E:Env) (T:TypeId) (n nid:Nat):Option (Prop×List V)→Res
 | some (c,l)=>if (E.tb T).k=3∧n*(E.tb (E.tb T).el).n≤16777216 then some (c,.own nid,.new (.own (E.tb T).el (E.tb (E.tb T).el).n (E.tb (E.tb T).el).g (some false) l)) else none
 | none=>none
def rr (E:Env) (T:TypeId) (nid:Nat):Option V→Option V→Res
 | some (.int _ n),some (.int _ m)=>
  if (E.tb T).k=3 then some (0≤n∧n≤m∧m≤1073741824,.own nid,.new (.own (E.tb T).el (E.tb (E.tb T).el).n (E.tb (E.tb T).el).g (some false) (List.replicate n.toNat (E.tb (E.tb T).el).z))) else none
 | _,_=>none
def rt:Option V→Res
 | some v=>rOk v
 | none=>none
def ru (ti:TI) (nid:Nat) (c:Prop) (d:V):Res:=some (c,.ptr nid 0,.new (.var ti.n ti.g d))
def u7 (ti:TI) (nid:Nat):Option V→Res
 | some v=>ru ti nid (eK ti.n ti.g v) v
 | none=>none
def u_ (el:TI):Option Blk→Option (List V)
 | some (.own _ n g _ l)=>if el.n=n∧el.g=g then some l else none
 | some (.pown n g _ l)=>if el.n=n∧el.g=g then some l else none
 | _=>none
def lT {α:Type} (l:List α) (i j:Nat):List α:=(l.drop i).take (j - i)
def va (el:TI) (n i j:Nat):Option Blk→Option (List V)
 | some (.own _ n' g _ l)=>if el.n=n'∧el.g=g∧n=n' then some (lT l i j) else none
 | _=>none
def gC (H:List (Nat×Blk)) (el:TI):Option V→Option (List V)
 | some (.sl _ n g l)=>if el.n=n∧el.g=g then some l else none
 | some (.own id)=>u_ el (ae H id)
 | some (.osub id n i j)=>va el n i j (ae H id)
 | _=>none
def jJ (m:List V):Option Bool:=match m with
 | []=>none
 | _::_=>some false
def vb (elT:TypeId) (el:TI) (id:Nat) (m:List V):Option Blk→Res
 | some (.own E n g _ l)=>if E=elT∧el.n=n∧el.g=g then some (l.length+m.length≤1073741824,.own id,.app id (.own E n g (jJ m) (l++m))) else none
 | _=>none
def na (H:List (Nat×Blk)) (ti el:TI) (nid:Nat):Option V→Option (List V)→Res
 | some (.own id),some m=>if ti.k=3 then vb ti.el el id m (ae H id) else none
 | some (.sl (some true) _ _ []),some m=>if ti.k=3 then some (m.length≤1073741824,.own nid,.new (.own ti.el el.n el.g (jJ m) m)) else none
 | _,_=>none
def bound (len:Int):Option (Option V)→Option Int
 | none=>some len
 | some (some (.int _ i))=>some i
 | _=>none
def loB (ev:Operand→Option V):Option Operand→Option Int
 | none=>some 0
 | some x=>bound 0 (some (ev x))
def hiB (len:Int) (ev:Operand→Option V):Option Operand→Option Int
 | none=>some len
 | some x=>bound len (some (ev x))
def rx (l:List V) (i j:Int):List V:=(l.drop i.toNat).take (j.toNat - i.toNat)
def vc (el:TI) (id:Nat) (i j:Int):Option Blk→Res
 | some (.own _ n g _ l)=>if el.n=n∧el.g=g then rIf (0≤i∧i≤j∧j≤l.length) (.osub id n i.toNat j.toNat) else none
 | some (.pown n g _ l)=>if el.n=n∧el.g=g then rIf (0≤i∧i≤j∧j≤l.length) (.sl none n g (rx l i j)) else none
 | _=>none
def nb (l:List V) (i j:Int):List V:=(l.drop i.toNat).take (j.toNat - i.toNat)
def lU (el:TI) (m:Nat) (l:List V) (off:Nat) (i j:Int):Res:=
 if el.n=1∧el.g=false∧off+m≤l.length∧m≤1073741824 then rIf (0≤i∧i≤j∧j≤m) (.sl (some false) 1 false (nb (l.drop off) i j)) else none
def vd (id:Nat) (b:Blk) (p:Prop):Res→Res
 | some (c,v,_)=>some (c∧p,v,.giv id b)
 | none=>none
def ve (el:TI) (id m off:Nat) (i j:Int):Option Blk→Res
 | some (.pvar _ true (.agg l))=>lU el m l off i j
 | some (.var n true (.agg l))=>vd id (.pvar n true (.agg l)) (dU l) (lU el m l off i j)
 | _=>none
def ry (H:List (Nat×Blk)) (ti el:TI):Option V→Option Int→Option Int→Res
 | some (.sl z n g l),some i,some j=>if ti.k=3∧el.n=n∧el.g=g then rIf (0≤i∧i≤j∧j≤l.length) (.sl none n g (rx l i j)) else none
 | some (.str s),some i,some j=>if ti.k=2 then rIf (0≤i∧i≤j∧j≤s.length) (.str ((s.drop i.toNat).take (j.toNat - i.toNat))) else none
 | some (.own id),some i,some j=>if ti.k=3 then vc el id i j (ae H id) else none
 | some (.ptr id off),some i,some j=>if ti.k=4 then ve el id ti.len off i j (ae H id) else none
 | some (.pp _ true (.agg l)),some i,some j=>if ti.k=4 then lU el ti.len l 0 i j else none
 | _,_,_=>none
def rz:Option Blk→Int
 | some (.own _ _ _ _ l)=>l.length
 | some (.pown _ _ _ l)=>l.length
 | _=>0
def kK (m:Nat) (H:List (Nat×Blk)):Option V→Int
 | some (.ptr _ _)=>m
 | some (.pp _ _ _)=>m
 | some (.sl _ _ _ l)=>l.length
 | some (.str l)=>l.length
 | some (.own id)=>rz (ae H id)
 | _=>0
def zy (v:V) (id:Nat) (b:Blk):Res:=some (True,v,.upd id b)
def spl {α:Type} (l:List α) (i k:Nat) (m:List α):List α:=l.take i++m.take k++l.drop (i+k)
def oW (el:TI) (id i j:Nat) (m:List V):Option Blk→Res
 | some (.own E n g z l)=>if el.n=n∧el.g=g then zy (.int .i64 ((min (j - i) m.length:Nat):Int)) id (.own E n g z (spl l i (min (j - i) m.length) m)) else none
 | _=>none
def vf (el:TI) (id:Nat) (m:List V):Option Blk→Res
 | some (.own E n g z l)=>oW el id 0 l.length m (some (.own E n g z l))
 | _=>none
def vg (el:TI) (id n i j:Nat) (m:List V):Option Blk→Res
 | some (.own E n' g z l)=>if n=n' then oW el id i j m (some (.own E n' g z l)) else none
 | some (.var n' true (.agg l))=>if n=1∧i=0∧el.n=1∧el.g=false∧j=l.length∧0<l.length∧l.length≤1073741824 then some (dU l,.int .i64 ((min j m.length:Nat):Int),.upd id (.var n' true (.agg (spl l 0 (min j m.length) m)))) else none
 | _=>none
def nc (H:List (Nat×Blk)) (ti el:TI):Option V→Option (List V)→Res
 | some (.own id),some m=>if ti.k=3 then vf el id m (ae H id) else none
 | some (.osub id n i j),some m=>if ti.k=3 then vg el id n i j m (ae H id) else none
 | _,_=>none
def kL (gv:Nat→Option V) (S:St) (op:Int→Int→Int):Option V→List Operand→Res
 | some (.int k a),[]=>rOk (.int k a)
 | some (.int k a),x::l=>match S.ev gv x with
  | some (.int k' b)=>if k=k' then kL gv S op (some (.int k (op a b))) l else none
  | _=>none
 | _,_=>none
def vh (E:Env) (S:St) (nid:Nat):Callee→List Operand→List TypeId→Res
 | .builtin .len,[x],[U]=>rB (E.tb U).ok (rl S.H (E.tb U) (S.ev E.gv x))
 | .builtin .min,[x,y],_=>ri (S.ev E.gv x) (S.ev E.gv y)
 | .builtin .max,[x,y],_=>rk (S.ev E.gv x) (S.ev E.gv y)
 | .builtin .min,x::y::z::l,_=>kL E.gv S dS (S.ev E.gv x) (y::z::l)
 | .builtin .max,x::y::z::l,_=>kL E.gv S b_ (S.ev E.gv x) (y::z::l)
 | .builtin .copy,[x,y],[U,W]=>if U=W∧(E.tb U).ok=true then nc S.H (E.tb U) (E.tb (E.tb U).el) (S.ev E.gv x) (gC S.H (E.tb (E.tb U).el) (S.evT E U y)) else none
 | .builtin .append,[x,y],[U,W]=>if U=W∧(E.tb U).ok=true then na S.H (E.tb U) (E.tb (E.tb U).el) nid (S.evT E U x) (gC S.H (E.tb (E.tb U).el) (S.evT E U y)) else none
 | _,_,_=>none
def evL (ev:Operand→Option V):List Operand→Option (List V)
 | []=>some []
 | x::l=>consO (ev x) (evL ev l)
where consO:Option V→Option (List V)→Option (List V)
 | some v,some vs=>some (v::vs)
 | _,_=>none
def Ge (f:FuncId) (vs:List V) (c:Cx) (v:Value):Prop:= ∃cs:List Value,v= .func (.func f) cs.toArray #[]∧rdT ro0 c vs cs
def rA:Fn→List Operand→Option (List V)→Option (List V)→Res
 | .func f,[],_,some l=>rOk (.fn f l)
 | .func f,_::_,some vs,some []=>some (dU vs,.opq (Ge f vs),.none)
 | _,_,_,_=>none
def ic (k:IntKind):List V→Option (List Int)
 | []=>some []
 | .int k' a::l=>if k'=k then (match ic k l with|some m=>some (a::m)|none=>none) else none
 | _::_=>none
def lV (g:Bool) (k:IntKind):Option V→Option (List Int)
 | some (.int k' a)=>if g=false∧k'=k then some [a] else none
 | some (.agg l)=>if g=true then ic k l else none
 | _=>none
def rC (tb:TypeId→TI) (k:IntKind) (l:List (Nat×TypeId)):Bool:=l.all fun p=>decide ((tb p.2).k=0)&&decide ((tb p.2).ik=k)
def nd (tb:TypeId→TI) (T:TypeId):Option (Bool×IntKind×Nat):=match (tb T).k with
 | 0=>some (false,(tb T).ik,1)
 | 4=>if (tb (tb T).el).k=0 then some (true,(tb (tb T).el).ik,(tb T).len) else none
 | 5=>match (tb T).fs with
  | (_,U)::_=>if rC tb (tb U).ik (tb T).fs=true then some (true,(tb U).ik,(tb T).n) else none
  | []=>none
 | _=>none
def zF:V→Bool
 | .bool false=>true
 | _=>false
def rD (tb:TypeId→TI) (ti:TI) (nid:Nat):Res:=if ti.k=7 then (match nd tb ti.el with|some (g,k,n)=>some (True,.own nid,.new (.kset g k n []))|none=>none) else none
def oX (z:Option (List Int)) (f:List Int→Res):Res:=match z with
 | some z=>f z
 | none=>none
def vi (ki:Option (Bool×IntKind×Nat)) (y:Option V):Option Blk→Res
 | some (.kset g k n l)=>if ki=some (g,k,n) then oX (lV g k y) fun z=>rIf (z.length=n) (.bool (l.contains z)) else none
 | _=>none
def rE (tb:TypeId→TI) (H:List (Nat×Blk)) (ti:TI):Option V→Option V→Res
 | some (.own id),y=>if ti.k=7∧zF (tb ti.len).z=true then vi (nd tb ti.el) y (ae H id) else none
 | _,_=>none
def vj (ki:Option (Bool×IntKind×Nat)) (id:Nat) (y:Option V):Option Blk→Res
 | some (.kset g k n l)=>if ki=some (g,k,n) then oX (lV g k y) fun z=>some (z.length=n,.un,.upd id (.kset g k n (lQ l z))) else none
 | _=>none
def rF (tb:TypeId→TI) (H:List (Nat×Blk)) (ti:TI):Option V→Option V→Option V→Res
 | some (.own id),y,some (.bool true)=>if ti.k=7 then vj (nd tb ti.el) id y (ae H id) else none
 | _,_,_=>none
def opF (E:Env) (S:St) (nid:Nat) (T:TypeId):Op→Res
 | .move x=>rt (S.evT E T x)
 | .assign x=>rt (S.evT E T x)
 | .pick c a b=>rh (S.ev E.gv c) (S.evT E T a) (S.evT E T b)
 | .load U x=>rB (E.tb U).ok (qZ E.tb S.H (E.tb U) (S.ev E.gv x))
 | .store U x y=>rB (E.tb U).ok (q6 E.tb S.H (E.tb U) (S.ev E.gv x) (S.evT E U y))
 | .fieldAddr U x k=>rB (E.tb U).ok (q7 E.tb (E.tb U) k (S.ev E.gv x))
 | .field U x k=>rB (E.tb U).ok (q8 E.tb (E.tb U) k (S.ev E.gv x))
 | .indexAddr U x y=>rB (E.tb U).ok (q9 S.H (E.tb U) (E.tb (E.tb U).el) (S.ev E.gv x) (S.ev E.gv y))
 | .index U x y=>rB (E.tb U).ok (ra (E.tb U) (E.tb (E.tb U).el) (S.ev E.gv x) (S.ev E.gv y))
 | .alloc U=>rB (E.tb U).ok (ru (E.tb U) nid True (E.tb U).z)
 | .box U x=>rB (E.tb U).ok (u7 (E.tb U) nid (S.evT E U x))
 | .build U ps=>rB (E.tb U).ok (rp E S (E.tb U) ps.toList)
 | .buildSlice U n ps=>rB (E.tb U).ok (rq E U n nid (kJ E S (E.tb U).el n True (List.replicate n (E.tb (E.tb U).el).z) ps.toList))
 | .makeSlice U n m=>rB (E.tb U).ok (rr E U nid (S.ev E.gv n) (S.ev E.gv m))
 | .binOp op U x y _=>rB (E.tb U).ok (uU (E.tb U) op (isC y) (S.ev E.gv x) (S.ev E.gv y))
 | .unOp op _ x=>unF op (S.ev E.gv x)
 | .convert U W x=>rB ((E.tb U).ok&&(E.tb W).ok) (if U=W then uY E.tb (E.tb U) S.H (S.ev E.gv x) (oU E.tb (E.tb U) (E.tb W) nid (gC S.H (E.tb (E.tb U).el) (S.ev E.gv x)) (S.ev E.gv x)) else oU E.tb (E.tb U) (E.tb W) nid (gC S.H (E.tb (E.tb U).el) (S.ev E.gv x)) (S.ev E.gv x))
 | .sliceToArrayPointer A x=>rB (E.tb A).ok (rg (E.tb A) (E.tb (E.tb A).el) (S.ev E.gv x))
 | .extract x k=>rm k (S.ev E.gv x)
 | .nilCheck x=>rn (S.ev E.gv x)
 | .slice U x lo hi none=>rB (E.tb U).ok (ry S.H (E.tb U) (E.tb (E.tb U).el) (S.ev E.gv x) (loB (S.ev E.gv) lo) (hiB (kK (E.tb U).len S.H (S.ev E.gv x)) (S.ev E.gv) hi))
 | .call cl=>vh E S nid cl.callee cl.args.toList cl.argTypes.toList
 | .makeFunc fn first cs=>rA fn first.toList (evL (S.ev E.gv) first.toList) (evL (S.ev E.gv) cs.toList)
 | .makeMap T none=>rB (E.tb T).ok (rD E.tb (E.tb T) nid)
 | .lookup T x y false=>rB (E.tb T).ok (rE E.tb S.H (E.tb T) (S.ev E.gv x) (S.ev E.gv y))
 | .mapUpdate T x y v=>rB (E.tb T).ok (rF E.tb S.H (E.tb T) (S.ev E.gv x) (S.ev E.gv y) (S.ev E.gv v))
 | _=>none
def vk (tb:TypeId→TI) (U:TypeId) (id:Nat):Option Blk→Res
 | some (.var _ true (.agg l))=>if (tb U).ok=true∧(tb U).k=4∧(tb (tb U).el).n=1∧(tb (tb U).el).g=false∧(tb U).len=l.length∧0<l.length∧l.length≤1073741824 then some (True,.osub id 1 0 (tb U).len,.none) else none
 | _=>none
def rG (tb:TypeId→TI) (H:List (Nat×Blk)) (U:TypeId):Option V→Res
 | some (.ptr id 0)=>vk tb U id (ae H id)
 | _=>none
def vl:Op→Option (TypeId×Operand)
 | .slice U x none none none=>some (U,x)
 | _=>none
def vm:Res→Res→Res
 | some r,_=>some r
 | none,r=>r
def opH (E:Env) (S:St) (nid:Nat) (T:TypeId) (op:Op):Res:=match vl op with
 | some (U,x)=>vm (rG E.tb S.H U (S.ev E.gv x)) (opF E S nid T op)
 | none=>opF E S nid T op
mutual
def dV (id:Nat):V→V
 | .own i=>if i=id then .un else .own i
 | .ptr i o=>if i=id then .un else .ptr i o
 | .optr i n k o=>if i=id then .un else .optr i n k o
 | .osub i n k o=>if i=id then .un else .osub i n k o
 | .agg l=> .agg (dJ id l)
 | .tup l=> .tup (dJ id l)
 | .fn f l=> .fn f (dJ id l)
 | v=>v
def dJ (id:Nat):List V→List V
 | []=> []
 | d::l=>dV id d::dJ id l
end
def lW (id:Nat):Blk→Blk
 | .var n g d=> .var n g (dV id d)
 | .lent k n g d=> .lent k n g (dV id d)
 | .kset g k n l=> .kset g k n l
 | .ownI E n g z l=> .ownI E n g z (dJ id l)
 | b=>b
def nf (id:Nat):List (Nat×V)→List (Nat×V)
 | []=> []
 | (t,v)::l=>(t,dV id v)::nf id l
def kM (id:Nat):List (Nat×Blk)→List (Nat×Blk)
 | []=> []
 | (t,b)::l=>(t,lW id b)::kM id l
def St.eff (S:St) (nid:Nat):Eff→St
 | .none=>S
 | .new b=>{S with H:=(nid,b)::S.H,nx:=nid+1}
 | .upd id b=>{S with H:=dc S.H id b}
 | .app id b=>{S with H:=dc (kM id S.H) id b,F:=nf id S.F}
 | .giv id b=>{S with H:=dc S.H id b}
 | .mrk id b=>{S with H:=dc S.H id b}
def St.put (S:St) (d:Option Nat) (v:V):St:=
 match d with
 | some t=>{S with F:=(t,v)::S.F}
 | none=>S
end Go.Proofs.YtgealhhkngbkbaaGreatDoor
namespace Go.Proofs.YtgealhhkngbkbaaGreatDoor
open Go.RowKit
theorem zz {k:IntKind} {n:Int} (h:m9 k n=true):Rng k n:=by
 cases k<;>simp [m9,Rng,IntKind.min,IntKind.max,IntKind.bits,IntKind.signed] at h⊢ <;>omega
mutual
theorem vn {ρ:Ro} {c:Cx}: ∀{d:V} {v:Value},zrB d v=true→rd ρ c d v
 | .int k n,.int k' n',h=>by
  simp only [zrB,Bool.and_eq_true,decide_eq_true_eq] at h
  obtain ⟨⟨rfl,rfl⟩,h⟩:=h
  exact ⟨rfl,zz h⟩
 | .bool b,.bool b',h=>by
  simp only [zrB,decide_eq_true_eq] at h
  subst h;rfl
 | .str [],.string s,h=>by
  simp only [zrB,decide_eq_true_eq] at h
  refine ⟨?_,Nat.zero_le _⟩
  obtain ⟨⟨l⟩⟩:=s
  simp only at h
  subst h;rfl
 | .sl (some true) n g [],.slice none 0 0,h=>by
  simp only [rd]
  exact ⟨none,0,rfl,⟨Nat.zero_le _,Nat.zero_le _⟩,⟨rfl,rfl⟩,.inl trivial⟩
 | .agg l,.agg cs,h=>by
  simp only [zrB] at h
  simp only [rd]
  exact ⟨cs.toList,rfl,zA h⟩
 | .un,_,_=>trivial
theorem zA {ρ:Ro} {c:Cx}: ∀{l:List V} {cs:List Value},zrC l cs=true→rdC ρ c l cs
 | [],[],_=>rfl
 | d::l,u::cs,h=>by
  simp only [zrC,Bool.and_eq_true] at h
  simp only [rdC]
  exact ⟨u,cs,rfl,h.1.1,vn h.1.2,zA h.2⟩
end
def zB (ti:TI):Option Value→Bool
 | some zv=>zrB ti.z zv&&(match ti.g,zv with
  | true,.agg cs=>decide (cs.size=ti.n)&&cs.toList.all (·.oneCell')
  | false,u=>u.oneCell'
  | _,_=>false)
 | none=>false
def cK (tb:TypeId→TI) (n:Nat):Nat→List (Nat×TypeId)→List Field→Bool
 | off,[],[]=>decide (off=n)
 | off,(o,U)::l,f::fs=>decide (o=off)&&decide (f.offset=o)&&decide (f.type=U)&&(tb U).ok&&decide (f.name≠ "_")&&cK tb n (off+(tb U).n) l fs
 | _,_,_=>false
def bW (P:Program) (tb:TypeId→TI) (T:TypeId) (ti:TI):TypeDesc→Bool
 | .int k=>decide (ti.k=0)&&decide (ti.ik=k)&& !ti.g
 | .bool=>decide (ti.k=1)&& !ti.g
 | .string=>decide (ti.k=2)&& !ti.g
 | .slice e=>decide (ti.k=3)&&decide (ti.el=e)&&(tb e).ok&& !ti.g
 | .array m e=>decide (ti.k=4)&&decide (ti.el=e)&&decide (ti.len=m)&&(tb e).ok&&ti.g&&decide (ti.n=m*(tb e).n)
 | .struct fs=>decide (ti.k=5)&&ti.g&&cK tb ti.n 0 ti.fs fs.toList&& !(P.stoodInHeld T)
 | .map KT ET=>(decide (ti.k=6)||(decide (ti.k=7)&&decide (ti.el=KT)&&(tb KT).ok&&decide (ti.len=ET)&&(tb ET).ok&&decide ((tb ET).k=1)))&& !ti.g
 | .interface _=>(decide (ti.k=6)||decide (ti.k=8))&& !ti.g
 | _=>decide (ti.k=6)&& !ti.g
def lX (tb:TypeId→TI):Nat→TypeId→Bool
 | 0,_=>false
 | d+1,T=>(tb T).ok&&(decide ((tb T).k=0)||decide ((tb T).k=1)||decide ((tb T).k=2)||(decide ((tb T).k=5)&&(tb T).fs.all fun p=>lX tb d p.2)||(decide ((tb T).k=4)&&lX tb d (tb T).el))
def dK (tb:TypeId→TI):Nat→TypeId→List Nat
 | 0,_=> []
 | d+1,T=>match (tb T).k with
  | 5=>(tb T).fs.flatMap fun p=>dK tb d p.2
  | 4=>(List.replicate (tb T).len (dK tb d (tb T).el)).flatten
  | k=> [k]
def tiB (P:Program) (tb:TypeId→TI) (T:TypeId) (ti:TI):Bool:=
 match P.info? T,P.underlying T with
 | some i,some d=>decide (i.size=ti.n)&&decide (0<ti.n)&&decide (i.bytes=ti.by')&&decide (ti.by'≤32768)&&(ti.g||decide (ti.n=1))&&zB ti i.zero&&bW P tb T ti d&&(!ti.cmp||(lX tb 9 T&& !(P.eqGuardType P.depth T)&&decide (ti.ck=dK tb 9 T)))
 | _,_=>false
def lY (l:List (TypeId×TI)):TypeId→TI:=fun T=>(ae l T).getD {}
def zC (P:Program) (l:List (TypeId×TI)):Bool:=l.all fun p=>tiB P (lY l) p.1 (lY l p.1)
structure TOk (P:Program) (tb:TypeId→TI) (T:TypeId):Prop where
 ty: ∀ρ,er P T (rV ρ (tb T).n (tb T).g)
 one:(tb T).g=false→(tb T).n=1
 pos:0<(tb T).n
 info: ∃i zv,P.info? T=some i∧i.zero=some zv∧i.size=(tb T).n∧i.bytes=(tb T).by'∧ ∀ρ c,(rV ρ (tb T).n (tb T).g).val c zv (tb T).z
 by_:(tb T).by'≤32768
 kind: ∃d,P.underlying T=some d∧bW P tb T (tb T) d=true
 cmp:(tb T).cmp=true→lX tb 9 T=true∧P.eqGuardType P.depth T=false∧(tb T).ck=dK tb 9 T
theorem lZ {α:Type} {l:List (Nat×α)} {t:Nat} {v:α} (h:ae l t=some v):(t,v)∈l:=by
 induction l with
 | nil=>simp [ae] at h
 | cons p l ih=>
  obtain ⟨k,x⟩:=p
  simp only [ae] at h
  split at h
  ·rename_i e;subst e;cases h;simp
  ·exact List.mem_cons_of_mem _ (ih h)
theorem Gf {c:Cx} {ρ:Ro} {n:Nat} {g:Bool} {d:V} {v:Value} (h:rd ρ c d v) (hs:iN n g v.cells.toList) (hv:v=mkV g v.cells.toList):(rV ρ n g).val c v d:=⟨v.cells.toList,⟨hs,hv▸h⟩,hv⟩
theorem tOk {P:Program} {l:List (TypeId×TI)} (hB:zC P l=true) {T:TypeId} (h:(lY l T).ok=true):TOk P (lY l) T:=by
 have hmem: ∃ti,(T,ti)∈l:=by
  unfold lY at h
  cases hg:ae l T with
  | none=>rw [hg] at h;cases h
  | some ti=>exact ⟨ti,lZ hg⟩
 obtain ⟨ti,hm⟩:=hmem
 have h1:=List.all_eq_true.1 hB _ hm
 simp only at h1
 generalize hti:lY l T=ti at*
 unfold tiB at h1
 cases hi:P.info? T with
 | none=>rw [hi] at h1;cases h1
 | some i=>
  cases hu:P.underlying T with
  | none=>rw [hi,hu] at h1;cases h1
  | some d=>
   rw [hi,hu] at h1
   simp only [Bool.and_eq_true,Bool.or_eq_true,decide_eq_true_eq] at h1
   obtain ⟨⟨⟨⟨⟨⟨⟨h1,h2⟩,h3⟩,h4⟩,h5⟩,h6⟩,h7⟩,h8⟩:=h1
   have hone:ti.g=false→ti.n=1:=fun hg=>by rcases h5 with h5|h5;(rw [hg] at h5;cases h5);exact h5
   refine ⟨fun ρ=>⟨fun w=> ?_,fun w=> ?_⟩,?_,?_,?_,?_,?_,?_⟩<;>rw [hti]
   ·have hru:(underlying T).run P w= .ok d w:=by simp [underlying,hu]
    simp only [isAgg,Sem.run_bind,hru,Result.andThen_ok,rV]
    cases hg:ti.g<;>cases d<;>simp_all [bW]
   ·rw [cg hone]
    simp [sizeOf,typeInfo,hi,h1]
   ·exact hone
   ·exact h2
   ·unfold zB at h6
    cases hz:i.zero with
    | none=>rw [hz] at h6;cases h6
    | some zv=>
     rw [hz] at h6
     simp only [Bool.and_eq_true] at h6
     refine ⟨i,zv,hi,hz,h1,h3,fun ρ c=>Gf (vn h6.1) ?_ ?_⟩
     ·have h9:=h6.2
      cases hg:ti.g<;>rw [hg] at h9
      ·refine ⟨?_,fun _=>hone hg,?_⟩
       ·rw [hone hg]
        cases zv<;>simp_all [Value.cells,Value.oneCell']
       ·cases zv<;>simp_all [Value.cells,Value.oneCell']
      ·cases zv with
       | agg cs=>
        simp only [Bool.and_eq_true,decide_eq_true_eq,List.all_eq_true] at h9
        exact ⟨by simpa [Value.cells] using h9.1,(fun hf=>by cases hf),h9.2⟩
       | _=>cases h9
     ·have h9:=h6.2
      cases hg:ti.g<;>rw [hg] at h9
      ·cases zv<;>simp_all [Value.cells,Value.oneCell',mkV]
      ·cases zv<;>simp_all [Value.cells,mkV]
   ·exact h4
   ·exact ⟨d,hu,h7⟩
   ·intro hc
    rcases h8 with h8|h8
    ·rw [hc] at h8;cases h8
    ·exact ⟨h8.1.1,by simpa using h8.1.2,h8.2⟩
end Go.Proofs.YtgealhhkngbkbaaGreatDoor
namespace Go.Proofs.YtgealhhkngbkbaaGreatDoor
open Go.RowKit
structure bC (E:Env):Prop where
 t: ∀T,(E.tb T).ok=true→TOk E.P E.tb T
def Gl (E:Env) (c:Cx):Prop:= ∀g v,E.gv g=some v→dA v∧rd ro0 c v (.pointer (some ⟨g,0,none⟩))
theorem Gl.mono {E:Env} {c c':Cx} (h:Gl E c) (k:c.pub c'):Gl E c':=fun g v hg=>⟨(h g v hg).1,bI k (h g v hg).2⟩
def am (ρ:Ro) (i:Nat):Option Nat:=match ρ i with
 | some (.pointer (some a))=>some a.block
 | some v=>blk v
 | none=>none
def blkOk (c0 c:Cx) (ρ:Ro) (i:Nat):Blk→Prop
 | .var n g d=> ∃b,ρ i=some (.pointer (some ⟨b,0,none⟩))∧c0.mine b∧Var c b (rV ρ n g) d
 | .own E n g z l=> ∃v,ρ i=some v∧Own c E v (rV ro0 n g) l∧(∀k,blk v=some k→c0.mine k)∧(g=false→n=1)∧ ∃a cap,v= .slice a l.length cap∧zOk z a cap
 | .ownI E n g z l=> ∃v,ρ i=some v∧Own c E v (rV ρ n g) l∧(∀k,blk v=some k→c0.mine k)∧(g=false→n=1)∧ ∃a cap,v= .slice a l.length cap∧zOk z a cap
 | .pvar n g d=> ∃b,ρ i=some (.pointer (some ⟨b,0,none⟩))∧gz (rV ro0 n g) c (.pointer (some ⟨b,0,none⟩)) d
 | .pown n g z l=> ∃v,ρ i=some v∧rd ro0 c (.sl z n g l) v
 | .lent k n g d=>ρ i=some (.pointer (some ⟨k,0,none⟩))∧c0.mine k∧Var c k (rV ρ n g) d
 | .kset g k n l=> ∃r,ρ i=some (.map (some r))∧c0.mine r∧fr c r g k n l
def aY:Blk→Bool
 | .var _ _ _=>true
 | .own _ _ _ _ _=>true
 | .ownI _ _ _ _ _=>true
 | .lent _ _ _ _=>true
 | .kset _ _ _ _=>true
 | _=>false
structure Sim (E:Env) (c0 c:Cx) (ρ:Ro) (S:St) (F:Fm):Prop where
 since:cB c0 c
 gl:Gl E c
 slot: ∀t v,ae S.F t=some v→rd ρ c v (F t)
 heap: ∀i b,ae S.H i=some b→blkOk c0 c ρ i b
 sep: ∀i j bi bj k,i≠j→ae S.H i=some bi→ae S.H j=some bj→aY bi=true→aY bj=true→am ρ i=some k→am ρ j≠some k
def vo (ρ:Ro) (n:Nat):Prop:= ∀i,n≤i→ρ i=none
def vq (c0 c:Cx) (ρ:Ro) (nid:Nat) (c':Cx) (ρ':Ro):Eff→Prop
 | .none=>c'=c∧ρ'=ρ
 | .new b=>c.le c'∧(∀i,i≠nid→ρ' i=ρ i)∧blkOk c0 c' ρ' nid b∧(∀k,am ρ' nid=some k→c.w.heap.size≤k)
 | .upd id b=>c.chg (am ρ id) c'∧ρ'=ρ∧blkOk c0 c' ρ id b
 | .app id b=>c.chg (am ρ id) c'∧(∀i,i≠id→ρ' i=ρ i)∧blkOk c0 c' ρ' id b∧(∀k,am ρ' id=some k→am ρ id=some k∨c.w.heap.size≤k)
 | .giv id b=>ρ'=ρ∧blkOk c0 c' ρ id b∧ ∃k,ρ id=some (.pointer (some ⟨k,0,none⟩))∧c'=c.dropv (.slice (some ⟨k,0,none⟩) 0 1)
 | .mrk id b=>ρ'=ρ∧blkOk c0 c' ρ id b∧ ∃k n cap c1,ρ id=some (.slice (some ⟨k,0,none⟩) n (cap+1))∧c.chg (am ρ id) c1∧c'=c1.dropv (.slice (some ⟨k,0,none⟩) 0 1)
def vr (S:St):Eff→Prop
 | .upd id b=> ∃b0,ae S.H id=some b0∧aY b0=true∧aY b=true
 | .app id b=> ∃b0,ae S.H id=some b0∧aY b0=true∧aY b=true
 | .giv id b=> ∃n g d,ae S.H id=some (.var n g d)∧aY b=false
 | .mrk id b=> ∃T n g z l,ae S.H id=some (.own T n g z l)∧aY b=false
 | _=>True
def bJ (c0 c:Cx) (ρ:Ro) (S:St) (nid:Nat) (v:V) (e:Eff) (u:Value) (w':World):Prop:= ∃c' ρ',c'.w=w'∧vr S e∧vq c0 c ρ nid c' ρ' e∧rd ρ' c' v u
section
variable {E:Env} {c0 c:Cx} {ρ:Ro} {S:St} {F:Fm} {nid:Nat}
theorem bK {v:V} {u:Value} (h:rd ρ c v u):bJ c0 c ρ S nid v .none u c.w:=⟨c,ρ,rfl,trivial,⟨rfl,rfl⟩,h⟩
theorem oY {ρ ρ':Ro} {n:Nat} (h0:ρ n=none) (h: ∀i,i≠n→ρ' i=ρ i):iP ρ ρ':=by
 intro i v hi
 by_cases e:i=n
 ·subst e;rw [h0] at hi;cases hi
 ·rw [h i e];exact hi
theorem cZ {ρ ρ':Ro} {i:Nat} (h:ρ' i=ρ i):am ρ' i=am ρ i:=by unfold am;rw [h]
theorem zD {α β:Type} {r:Rep α} {s:Rep β} {f:α→β} (h: ∀{cs d},r.is c cs d→s.is c cs (f d)): ∀{l:List α} {cs:List Value},bv r c cs l→bv s c cs (l.map f)
 | [],cs,ha=>by simpa [bv] using ha
 | d::l,cs,ha=>by
  simp only [bv,List.map_cons] at ha⊢
  obtain ⟨c1,c2,e,h1,h2⟩:=ha
  exact ⟨c1,c2,e,h h1,zD h h2⟩
theorem Own.rep {E:TypeId} {v:Value} {r s:Rep V} {f:V→V} {l:List V} (h: ∀{cs d},r.is c cs d→s.is c cs (f d)) (hn:s.n=r.n) (ho:Own c E v r l):Own c E v s (l.map f):=by
 refine ⟨by simpa using ho.1,?_⟩
 rcases ho.2 with ⟨a,h1,rfl⟩|⟨g,cap,cur,e,h1,h2,h3,h4,h5,h6⟩
 ·exact .inl ⟨a,h1,rfl⟩
 ·exact .inr ⟨g,cap,cur,by simpa using e,h1,h2,by simpa using h3,h4,by rw [hn];exact h5,by rw [hn,List.length_map];exact zD h h6⟩
theorem Own.ro {E:TypeId} {v:Value} {ρ ρ':Ro} {n:Nat} {g:Bool} {l:List V} (h: ∀{d:V} {u:Value},rd ρ c d u→rd ρ' c d u) (ho:Own c E v (rV ρ n g) l):Own c E v (rV ρ' n g) l:=by
 have:=Own.rep (f:=id) (r:=rV ρ n g) (s:=rV ρ' n g) (fun {cs d} (h1:iN n g cs∧rd ρ c d (mkV g cs))=>⟨h1.1,h h1.2⟩) rfl ho
 simpa using this
theorem ng {ρ ρ':Ro} (k:iP ρ ρ') {i:Nat} {b:Blk} (h:blkOk c0 c ρ i b):blkOk c0 c ρ' i b:=by
 cases b with
 | var n g d=>
  obtain ⟨b,h1,h2,h3,T,cs,h4,h5,h6⟩:=h
  exact ⟨b,k _ _ h1,h2,h3,T,cs,h4,h5,dz k h6⟩
 | own E n g z l=>
  obtain ⟨v,h1,h2⟩:=h
  exact ⟨v,k _ _ h1,h2⟩
 | ownI E n g z l=>
  obtain ⟨v,h1,h2,h3⟩:=h
  exact ⟨v,k _ _ h1,h2.ro (dz k),h3⟩
 | pvar n g d=>
  obtain ⟨b,h1,h2⟩:=h
  exact ⟨b,k _ _ h1,h2⟩
 | pown n g z l=>
  obtain ⟨v,h1,h2⟩:=h
  exact ⟨v,k _ _ h1,h2⟩
 | lent k' n g d=>
  obtain ⟨h1,h2,h3,T,cs,h4,h5,h6⟩:=h
  exact ⟨k _ _ h1,h2,h3,T,cs,h4,h5,dz k h6⟩
 | kset g k' n l=>
  obtain ⟨r,h1,h2⟩:=h
  exact ⟨r,k _ _ h1,h2⟩
theorem iQ {c':Cx} {o:Option Nat} (k:c.chg o c') {i:Nat} {b:Blk} (hne:aY b=true→ ∀x,am ρ i=some x→o≠some x) (h:blkOk c0 c ρ i b):blkOk c0 c' ρ i b:=by
 cases b with
 | var n g d=>
  obtain ⟨b,h1,h2,h3⟩:=h
  exact ⟨b,h1,h2,k.var (hne rfl b (by simp [am,h1])) h3⟩
 | own E n g z l=>
  obtain ⟨v,h1,h2,h3⟩:=h
  refine ⟨v,h1,h2.chg k ?_,h3⟩
  intro x hx
  refine hne rfl x ?_
  unfold am
  rw [h1]
  cases v<;>simp_all [blk]
 | ownI E n g z l=>
  obtain ⟨v,h1,h2,h3⟩:=h
  refine ⟨v,h1,h2.chg k ?_,h3⟩
  intro x hx
  refine hne rfl x ?_
  unfold am
  rw [h1]
  cases v<;>simp_all [blk]
 | pvar n g d=>
  obtain ⟨b,h1,h2⟩:=h
  exact ⟨b,h1,(kz _).mono h2 k.pub⟩
 | pown n g z l=>
  obtain ⟨v,h1,h2⟩:=h
  exact ⟨v,h1,bI k.pub h2⟩
 | lent k' n g d=>
  obtain ⟨h1,h2,h3⟩:=h
  exact ⟨h1,h2,k.var (hne rfl k' (by simp [am,h1])) h3⟩
 | kset g k' n l=>
  obtain ⟨r,h1,h2,h3⟩:=h
  exact ⟨r,h1,h2,h3.chg k (hne rfl r (by simp [am,h1,blk]))⟩
theorem fI {i:Nat} {b:Blk} (hp:aY b=true) (h:blkOk c0 c ρ i b): ∀k,am ρ i=some k→k<c.w.heap.size:=by
 intro k hk
 cases b with
 | var n g d=>
  obtain ⟨b,h1,h2,h3⟩:=h
  simp only [am,h1,Option.some.injEq] at hk
  subst hk;exact h3.lt
 | own E n g z l=>
  obtain ⟨v,h1,h2,h3⟩:=h
  refine h2.lt k ?_
  unfold am at hk
  rw [h1] at hk
  rcases h2.2 with ⟨a,rfl,_⟩|⟨g',cap,cur,rfl,_⟩
  ·exact hk
  ·exact hk
 | ownI E n g z l=>
  obtain ⟨v,h1,h2,h3⟩:=h
  refine h2.lt k ?_
  unfold am at hk
  rw [h1] at hk
  rcases h2.2 with ⟨a,rfl,_⟩|⟨g',cap,cur,rfl,_⟩
  ·exact hk
  ·exact hk
 | pvar n g d=>cases hp
 | pown n g z l=>cases hp
 | lent k' n g d=>
  obtain ⟨h1,h2,h3⟩:=h
  simp only [am,h1,Option.some.injEq] at hk
  subst hk;exact h3.lt
 | kset g k' n l=>
  obtain ⟨r,h1,h2,h3⟩:=h
  simp only [am,h1,blk,Option.some.injEq] at hk
  subst hk;exact c.ok _ h3.1
mutual
theorem l3 {ρ ρ':Ro} {id:Nat} (k: ∀i,i≠id→ρ' i=ρ i): ∀{d:V} {v:Value},rd ρ c d v→rd ρ' c (dV id d) v
 | .int _ _,_,h=>h
 | .bool _,_,h=>h
 | .ifc _,_,h=>h
 | .str _,_,h=>h
 | .agg l,v,h=>by
  simp only [rd,dV] at h⊢
  obtain ⟨cs,e,h⟩:=h
  exact ⟨cs,e,zE k h⟩
 | .sl z n g l,v,h=>h
 | .pp n g d,v,h=>h
 | .own i,v,h=>by
  simp only [dV]
  split
  ·trivial
  ·rename_i hi
   exact ⟨(k _ hi).trans h.1,h.2⟩
 | .ptr i o,v,h=>by
  simp only [dV]
  split
  ·trivial
  ·rename_i hi
   simp only [rd] at h⊢
   obtain ⟨b,h1,h2⟩:=h
   exact ⟨b,(k _ hi).trans h1,h2⟩
 | .optr i n j o,v,h=>by
  simp only [dV]
  split
  ·trivial
  ·rename_i hi
   simp only [rd] at h⊢
   obtain ⟨u,h1,h2⟩:=h
   exact ⟨u,(k _ hi).trans h1,h2⟩
 | .osub i n j o,v,h=>by
  simp only [dV]
  split
  ·trivial
  ·rename_i hi
   simp only [rd] at h⊢
   obtain ⟨u,h1,h2⟩:=h
   exact ⟨u,(k _ hi).trans h1,h2⟩
 | .tup l,v,h=>by
  simp only [rd,dV] at h⊢
  obtain ⟨cs,e,h⟩:=h
  exact ⟨cs,e,vt k h⟩
 | .fn f l,v,h=>by
  simp only [rd,dV] at h⊢
  obtain ⟨cs,e,h⟩:=h
  exact ⟨cs,e,vt k h⟩
 | .opq p,v,h=>h
 | .un,_,_=>trivial
theorem zE {ρ ρ':Ro} {id:Nat} (k: ∀i,i≠id→ρ' i=ρ i): ∀{l:List V} {cs:List Value},rdC ρ c l cs→rdC ρ' c (dJ id l) cs
 | [],_,h=>h
 | d::l,cs,h=>by
  simp only [rdC,dJ] at h⊢
  obtain ⟨u,c2,e,h1,h2,h3⟩:=h
  exact ⟨u,c2,e,h1,l3 k h2,zE k h3⟩
theorem vt {ρ ρ':Ro} {id:Nat} (k: ∀i,i≠id→ρ' i=ρ i): ∀{l:List V} {cs:List Value},rdT ρ c l cs→rdT ρ' c (dJ id l) cs
 | [],_,h=>h
 | d::l,cs,h=>by
  simp only [rdT,dJ] at h⊢
  obtain ⟨u,c2,e,h2,h3⟩:=h
  exact ⟨u,c2,e,l3 k h2,vt k h3⟩
end
theorem zG {id:Nat}: ∀{l:List V},dJ id l=l.map (dV id)
 | []=>rfl
 | d::l=>by simp only [dJ,List.map_cons,zG]
theorem vu {id:Nat}: ∀{l:List (Nat×V)} {t:Nat},ae (nf id l) t=(ae l t).map (dV id)
 | [],_=>rfl
 | (k,v)::l,t=>by
  simp only [nf,ae]
  split
  ·rfl
  ·exact vu
theorem rH {id:Nat}: ∀{l:List (Nat×Blk)} {t:Nat},ae (kM id l) t=(ae l t).map (lW id)
 | [],_=>rfl
 | (k,v)::l,t=>by
  simp only [kM,ae]
  split
  ·rfl
  ·exact rH
theorem cV {α:Type}: ∀{l:List (Nat×α)} {i j:Nat} {x:α},ae (dc l i x) j=if i=j then some x else ae l j
 | [],i,j,x=>by simp only [dc,ae]
 | (k,v)::l,i,j,x=>by
  simp only [dc]
  by_cases h:k=i
  ·subst h
   rw [if_pos rfl]
   simp only [ae]
   split<;>rfl
  ·rw [if_neg h]
   simp only [ae,cV]
   by_cases h1:k=j
   ·subst h1
    simp [Ne.symm h]
   ·simp [h1]
theorem vw {ρ ρ':Ro} {id i:Nat} {b:Blk} (k: ∀i,i≠id→ρ' i=ρ i) (hi:i≠id) (h:blkOk c0 c ρ i b):blkOk c0 c ρ' i (lW id b):=by
 cases b with
 | var n g d=>
  obtain ⟨b,h1,h2,h3,T,cs,h4,h5,h6⟩:=h
  exact ⟨b,(k _ hi).trans h1,h2,h3,T,cs,h4,h5,l3 k h6⟩
 | own E n g z l=>
  obtain ⟨v,h1,h2⟩:=h
  exact ⟨v,(k _ hi).trans h1,h2⟩
 | ownI E n g z l=>
  obtain ⟨v,h1,h2,h3,h4,h5⟩:=h
  simp only [lW,blkOk,zG]
  exact ⟨v,(k _ hi).trans h1,Own.rep (f:=dV id) (r:=rV ρ n g) (s:=rV ρ' n g) (fun {cs d} (h1:iN n g cs∧rd ρ c d (mkV g cs))=>⟨h1.1,l3 k h1.2⟩) rfl h2,h3,h4,by simpa using h5⟩
 | pvar n g d=>
  obtain ⟨b,h1,h2⟩:=h
  exact ⟨b,(k _ hi).trans h1,h2⟩
 | pown n g z l=>
  obtain ⟨v,h1,h2⟩:=h
  exact ⟨v,(k _ hi).trans h1,h2⟩
 | lent k' n g d=>
  obtain ⟨h1,h2,h3,T,cs,h4,h5,h6⟩:=h
  exact ⟨(k _ hi).trans h1,h2,h3,T,cs,h4,h5,l3 k h6⟩
 | kset g k' n l=>
  obtain ⟨r,h1,h2⟩:=h
  exact ⟨r,(k _ hi).trans h1,h2⟩
theorem iR (h:Sim E c0 c ρ S F) {i:Nat} {b:Blk} (hb:ae S.H i=some b) (hp:aY b=true): ∀k,am ρ i=some k→c0.mine k:=by
 intro k hk
 have h1:=h.heap i b hb
 cases b with
 | var n g d=>
  obtain ⟨b,h1,h2,h3⟩:=h1
  simp only [am,h1,Option.some.injEq] at hk
  subst hk;exact h2
 | own E n g z l=>
  obtain ⟨v,h1,h2,h3,_,a,cap,e,_⟩:=h1
  refine h3 k ?_
  unfold am at hk
  rw [h1] at hk
  subst e
  exact hk
 | ownI E n g z l=>
  obtain ⟨v,h1,h2,h3,_,a,cap,e,_⟩:=h1
  refine h3 k ?_
  unfold am at hk
  rw [h1] at hk
  subst e
  exact hk
 | pvar n g d=>cases hp
 | pown n g z l=>cases hp
 | lent k' n g d=>
  obtain ⟨h1,h2,h3⟩:=h1
  simp only [am,h1,Option.some.injEq] at hk
  subst hk;exact h2
 | kset g k' n l=>
  obtain ⟨r,h1,h2,h3⟩:=h1
  simp only [am,h1,blk,Option.some.injEq] at hk
  subst hk;exact h2
theorem rI {id:Nat} {b:Blk}:aY (lW id b)=aY b:=by cases b<;>rfl
theorem Gg (h:Sim E c0 c ρ S F) (hf:ρ nid=none) {e:Eff} {c':Cx} {ρ':Ro} (hp:vr S e) (hr:vq c0 c ρ nid c' ρ' e):Sim E c0 c' ρ' (S.eff nid e) F∧c.pub c'∧ ∀i,nid≠i→ρ i=none→ρ' i=none:=by
 cases e with
 | none=>
  obtain ⟨rfl,rfl⟩:=hr
  exact ⟨h,Cx.pub.refl _,fun _ _ hi=>hi⟩
 | new b=>
  obtain ⟨h1,h2,h3,h4⟩:=hr
  have hro:=oY hf h2
  refine ⟨⟨h.since.le h1,h.gl.mono h1.pub,fun t v ht=>dz hro (bI h1.pub (h.slot t v ht)),?_,?_⟩,h1.pub,fun i hi hn=>by rw [h2 i (Ne.symm hi)];exact hn⟩
  ·intro i b' hb
   simp only [St.eff,ae] at hb
   split at hb
   ·rename_i e;subst e;cases hb;exact h3
   ·exact ng hro (iQ h1.chg (fun _ _ _ hx=>by cases hx) (h.heap i b' hb))
  ·intro i j bi bj k hij hbi hbj hpi hpj hk hk'
   simp only [St.eff,ae] at hbi hbj
   split at hbi<;>split at hbj
   ·omega
   ·rename_i e1 e2
    subst e1
    have h5:=h4 k hk
    rw [cZ (h2 j (Ne.symm e2))] at hk'
    have:=fI hpj (h.heap j bj hbj) k hk'
    omega
   ·rename_i e1 e2
    subst e2
    have h5:=h4 k hk'
    rw [cZ (h2 i (Ne.symm e1))] at hk
    have:=fI hpi (h.heap i bi hbi) k hk
    omega
   ·rename_i e1 e2
    rw [cZ (h2 i (Ne.symm e1))] at hk
    rw [cZ (h2 j (Ne.symm e2))] at hk'
    exact h.sep i j bi bj k hij hbi hbj hpi hpj hk hk'
 | upd id b=>
  obtain ⟨h1,rfl,h3⟩:=hr
  obtain ⟨b0,hb0,hp0,hpb⟩:=hp
  refine ⟨⟨h.since.chg h1 (iR h hb0 hp0),h.gl.mono h1.pub,fun t v ht=>bI h1.pub (h.slot t v ht),?_,?_⟩,h1.pub,fun _ _ hn=>hn⟩
  ·intro i b' hb
   simp only [St.eff,cV] at hb
   split at hb
   ·rename_i e;subst e;cases hb;exact h3
   ·rename_i hi
    refine iQ h1 (fun hpi x hx hx'=> ?_) (h.heap i b' hb)
    exact h.sep id i b0 b' x hi hb0 hb hp0 hpi hx' hx
  ·intro i j bi bj k hij hbi hbj hpi hpj hk hk'
   simp only [St.eff,cV] at hbi hbj
   have key: ∀x bx,(if id=x then some b else ae S.H x)=some bx→aY bx=true→ ∃by',ae S.H x=some by'∧aY by'=true:=by
    intro x bx hx hpx
    split at hx
    ·rename_i e;subst e;exact ⟨b0,hb0,hp0⟩
    ·exact ⟨bx,hx,hpx⟩
   obtain ⟨bi',hbi',hpi'⟩:=key i bi hbi hpi
   obtain ⟨bj',hbj',hpj'⟩:=key j bj hbj hpj
   exact h.sep i j bi' bj' k hij hbi' hbj' hpi' hpj' hk hk'
 | giv id b=>
  obtain ⟨rfl,h3,kk,hv,rfl⟩:=hr
  obtain ⟨n,g,d,hb0,hpb⟩:=hp
  obtain ⟨b',hv',hge,hvar⟩:=h.heap _ _ hb0
  rw [hv] at hv'
  cases hv'
  have hbv:blk (.slice (some ⟨kk,0,none⟩) 0 1)=some kk:=rfl
  have hpd:=c.pub_dropv (.slice (some ⟨kk,0,none⟩) 0 1)
  have hbo:am ρ' id=some kk:=by unfold am;rw [hv]
  have hsep: ∀j b',id≠j→ae S.H j=some b'→aY b'=true→ ∀x,am ρ' j=some x→blk (.slice (some ⟨kk,0,none⟩) 0 1)≠some x:=by
   intro j b' hij hb hp x hx hx'
   exact h.sep id j _ b' x hij hb0 hb rfl hp (hbo▸hx') hx
  refine ⟨⟨h.since.dropv (fun k hk=>by rw [hbv] at hk;cases hk;exact hge),h.gl.mono hpd,fun t x ht=>bI hpd (h.slot t x ht),?_,?_⟩,hpd,fun _ _ hn=>hn⟩
  ·intro j b' hb
   simp only [St.eff,cV] at hb
   split at hb
   ·rename_i e;subst e;cases hb;exact h3
   ·rename_i hij
    have hb0:=h.heap _ _ hb
    have hsp:=hsep j b' hij hb
    cases b' with
    | var n' g' d=>
     obtain ⟨b',h1,h2,h3⟩:=hb0
     exact ⟨b',h1,h2,Cx.dropv_var h3 (hsp rfl b' (by simp [am,h1]))⟩
    | own E' n' g' z' l'=>
     obtain ⟨v',h1,h2,h3,h4,a',cap',e',h5⟩:=hb0
     exact ⟨v',h1,Cx.dropv_own h2 (fun x hx=>hsp rfl x (by unfold am;rw [h1,e'];rw [e'] at hx;exact hx)),h3,h4,a',cap',e',h5⟩
    | ownI E' n' g' z' l'=>
     obtain ⟨v',h1,h2,h3,h4,a',cap',e',h5⟩:=hb0
     exact ⟨v',h1,Cx.dropv_own h2 (fun x hx=>hsp rfl x (by unfold am;rw [h1,e'];rw [e'] at hx;exact hx)),h3,h4,a',cap',e',h5⟩
    | pvar n' g' d=>
     obtain ⟨b',h1,h2⟩:=hb0
     exact ⟨b',h1,(kz _).mono h2 hpd⟩
    | pown n' g' z' l'=>
     obtain ⟨v',h1,h2⟩:=hb0
     exact ⟨v',h1,bI hpd h2⟩
    | lent k' n' g' d=>
     obtain ⟨h1,h2,h3⟩:=hb0
     exact ⟨h1,h2,Cx.dropv_var h3 (hsp rfl k' (by simp [am,h1]))⟩
    | kset g' k' n' l'=>
     obtain ⟨r,h1,h2,h3⟩:=hb0
     exact ⟨r,h1,h2,Cx.dropv_set h3 (hsp rfl r (by simp [am,h1,blk]))⟩
  ·intro a b1 ba bb x hab ha hb hpa hpb2 hx
   simp only [St.eff,cV] at ha hb
   split at ha
   ·cases ha;rw [hpb] at hpa;cases hpa
   ·split at hb
    ·cases hb;rw [hpb] at hpb2;cases hpb2
    ·exact h.sep a b1 ba bb x hab ha hb hpa hpb2 hx
 | mrk id b=>
  obtain ⟨rfl,h3,kk,n9,cap9,c1,hv,hch,rfl⟩:=hr
  obtain ⟨T9,n,g,z9,d,hb0,hpb⟩:=hp
  have hge9:=iR h hb0 rfl
  have hbv:blk (.slice (some ⟨kk,0,none⟩) 0 1)=some kk:=rfl
  have hbo:am ρ' id=some kk:=by unfold am;rw [hv];rfl
  have hpd:=hch.pub.trans (c1.pub_dropv (.slice (some ⟨kk,0,none⟩) 0 1))
  have hpd1:=c1.pub_dropv (.slice (some ⟨kk,0,none⟩) 0 1)
  have hsep: ∀j b',id≠j→ae S.H j=some b'→aY b'=true→ ∀x,am ρ' j=some x→blk (.slice (some ⟨kk,0,none⟩) 0 1)≠some x:=by
   intro j b' hij hb hp x hx hx'
   exact h.sep id j _ b' x hij hb0 hb rfl hp (hbo▸hx') hx
  refine ⟨⟨(h.since.chg hch hge9).dropv (fun k hk=>by rw [hbv] at hk;cases hk;exact hge9 _ hbo),h.gl.mono hpd,fun t x ht=>bI hpd (h.slot t x ht),?_,?_⟩,hpd,fun _ _ hn=>hn⟩
  ·intro j b' hb
   simp only [St.eff,cV] at hb
   split at hb
   ·rename_i e;subst e;cases hb;exact h3
   ·rename_i hij
    have hb0:=iQ hch (fun hpi x hx hx'=>h.sep id j _ b' x hij hb0 hb rfl hpi hx' hx) (h.heap _ _ hb)
    have hsp:=hsep j b' hij hb
    cases b' with
    | var n' g' d=>
     obtain ⟨b',h1,h2,h3⟩:=hb0
     exact ⟨b',h1,h2,Cx.dropv_var h3 (hsp rfl b' (by simp [am,h1]))⟩
    | own E' n' g' z' l'=>
     obtain ⟨v',h1,h2,h3,h4,a',cap',e',h5⟩:=hb0
     exact ⟨v',h1,Cx.dropv_own h2 (fun x hx=>hsp rfl x (by unfold am;rw [h1,e'];rw [e'] at hx;exact hx)),h3,h4,a',cap',e',h5⟩
    | ownI E' n' g' z' l'=>
     obtain ⟨v',h1,h2,h3,h4,a',cap',e',h5⟩:=hb0
     exact ⟨v',h1,Cx.dropv_own h2 (fun x hx=>hsp rfl x (by unfold am;rw [h1,e'];rw [e'] at hx;exact hx)),h3,h4,a',cap',e',h5⟩
    | pvar n' g' d=>
     obtain ⟨b',h1,h2⟩:=hb0
     exact ⟨b',h1,(kz _).mono h2 hpd1⟩
    | pown n' g' z' l'=>
     obtain ⟨v',h1,h2⟩:=hb0
     exact ⟨v',h1,bI hpd1 h2⟩
    | lent k' n' g' d=>
     obtain ⟨h1,h2,h3⟩:=hb0
     exact ⟨h1,h2,Cx.dropv_var h3 (hsp rfl k' (by simp [am,h1]))⟩
    | kset g' k' n' l'=>
     obtain ⟨r,h1,h2,h3⟩:=hb0
     exact ⟨r,h1,h2,Cx.dropv_set h3 (hsp rfl r (by simp [am,h1,blk]))⟩
  ·intro a b1 ba bb x hab ha hb hpa hpb2 hx
   simp only [St.eff,cV] at ha hb
   split at ha
   ·cases ha;rw [hpb] at hpa;cases hpa
   ·split at hb
    ·cases hb;rw [hpb] at hpb2;cases hpb2
    ·exact h.sep a b1 ba bb x hab ha hb hpa hpb2 hx
 | app id b=>
  obtain ⟨h1,h2,h3,h4⟩:=hr
  obtain ⟨b0,hb0,hp0,hpb⟩:=hp
  have hid:id≠nid:=by
   rintro rfl
   have:=h.heap _ _ hb0
   cases b0 with
   | var n g d=>obtain ⟨b,h5,_⟩:=this;rw [hf] at h5;cases h5
   | own E n g z l=>obtain ⟨b,h5,_⟩:=this;rw [hf] at h5;cases h5
   | ownI E n g z l=>obtain ⟨b,h5,_⟩:=this;rw [hf] at h5;cases h5
   | pvar n g d=>cases hp0
   | pown n g z l=>cases hp0
   | lent k' n g d=>obtain ⟨h5,_⟩:=this;rw [hf] at h5;cases h5
   | kset g k' n l=>obtain ⟨b,h5,_⟩:=this;rw [hf] at h5;cases h5
  refine ⟨⟨h.since.chg h1 (iR h hb0 hp0),h.gl.mono h1.pub,?_,?_,?_⟩,h1.pub,?_⟩
  ·intro t v ht
   simp only [St.eff,vu,Option.map_eq_some_iff] at ht
   obtain ⟨v0,hv0,rfl⟩:=ht
   exact l3 h2 (bI h1.pub (h.slot t v0 hv0))
  ·intro i b' hb
   simp only [St.eff,cV,rH] at hb
   split at hb
   ·rename_i e;subst e;cases hb;exact h3
   ·rename_i hi
    simp only [Option.map_eq_some_iff] at hb
    obtain ⟨b1,hb1,rfl⟩:=hb
    refine vw h2 (Ne.symm hi) (iQ h1 (fun hpi x hx hx'=> ?_) (h.heap i b1 hb1))
    exact h.sep id i b0 b1 x hi hb0 hb1 hp0 hpi hx' hx
  ·intro i j bi bj k hij hbi hbj hpi hpj hk hk'
   simp only [St.eff,cV,rH] at hbi hbj
   split at hbi<;>split at hbj
   ·omega
   ·rename_i e1 e2
    subst e1
    simp only [Option.map_eq_some_iff] at hbj
    obtain ⟨b1,hb1,rfl⟩:=hbj
    rw [rI] at hpj
    rw [cZ (h2 j (Ne.symm e2))] at hk'
    rcases h4 k hk with h5|h5
    ·exact h.sep id j b0 b1 k hij hb0 hb1 hp0 hpj h5 hk'
    ·have:=fI hpj (h.heap j b1 hb1) k hk'
     omega
   ·rename_i e1 e2
    subst e2
    simp only [Option.map_eq_some_iff] at hbi
    obtain ⟨b1,hb1,rfl⟩:=hbi
    rw [rI] at hpi
    rw [cZ (h2 i (Ne.symm e1))] at hk
    rcases h4 k hk' with h5|h5
    ·exact h.sep i id b1 b0 k hij hb1 hb0 hpi hp0 hk h5
    ·have:=fI hpi (h.heap i b1 hb1) k hk
     omega
   ·rename_i e1 e2
    simp only [Option.map_eq_some_iff] at hbi hbj
    obtain ⟨b1,hb1,rfl⟩:=hbi
    obtain ⟨b2,hb2,rfl⟩:=hbj
    rw [rI] at hpi hpj
    rw [cZ (h2 i (Ne.symm e1))] at hk
    rw [cZ (h2 j (Ne.symm e2))] at hk'
    exact h.sep i j b1 b2 k hij hb1 hb2 hpi hpj hk hk'
  ·intro i hi hn
   by_cases e:i=id
   ·subst e
    exfalso
    have:=h.heap _ _ hb0
    cases b0 with
    | var n g d=>obtain ⟨b,h5,_⟩:=this;rw [hn] at h5;cases h5
    | own E n g z l=>obtain ⟨b,h5,_⟩:=this;rw [hn] at h5;cases h5
    | ownI E n g z l=>obtain ⟨b,h5,_⟩:=this;rw [hn] at h5;cases h5
    | pvar n g d=>cases hp0
    | pown n g z l=>cases hp0
    | lent k' n g d=>obtain ⟨h5,_⟩:=this;rw [hn] at h5;cases h5
    | kset g k' n l=>obtain ⟨b,h5,_⟩:=this;rw [hn] at h5;cases h5
   ·rw [h2 i e];exact hn
theorem Gh (h:Sim E c0 c ρ S F) {d:Option Nat} {v:V} {u:Value} (hv:rd ρ c v u):Sim E c0 c ρ (S.put d v) (cu F d u):=by
 cases d with
 | none=>exact h
 | some t=>
  refine ⟨h.since,h.gl,?_,h.heap,h.sep⟩
  intro t' v' ht
  simp only [St.put,ae] at ht
  split at ht
  ·rename_i e;subst e;cases ht
   simpa [cu,ud] using hv
  ·rename_i hne
   simp only [cu]
   rw [oF _ _ (Ne.symm hne)]
   exact h.slot t' v' ht
end
end Go.Proofs.YtgealhhkngbkbaaGreatDoor
namespace Go.Proofs.YtgealhhkngbkbaaGreatDoor
open Go.RowKit
section
variable {E:Env} {c0 c:Cx} {ρ:Ro} {S:St} {F:Fm} {nid:Nat}
theorem dW {b:Bool} {r:Res} {x:Prop×V×Eff} (h:rB b r=some x):b=true∧r=some x:=by
 cases b
 ·cases h
 ·exact ⟨rfl,h⟩
theorem aZ {α:Type} {p:Prop} [Decidable p] {r:Option α} {x:α} (h:(if p then r else none)=some x):p∧r=some x:=by
 split at h
 ·rename_i hp;exact ⟨hp,h⟩
 ·cases h
theorem vx:ib true .nilIface:=by simp [ib]
theorem rJ {v:Value} {d:V} (h:qX v=some d):rd ρ c d v∧dA d:=by
 unfold qX at h
 split at h
 ·unfold qW at h
  split at h
  ·rename_i hb;cases h;exact ⟨⟨rfl,zz hb⟩,trivial⟩
  ·cases h
 ·cases h;exact ⟨rfl,trivial⟩
 ·obtain ⟨h1,h2⟩:=aZ h
  cases h2
  refine ⟨⟨?_,h1⟩,trivial⟩
  simp
 ·cases h
  refine ⟨?_,trivial⟩
  simp only [rd]
  exact ⟨none,0,rfl,⟨Nat.zero_le _,Nat.zero_le _⟩,⟨rfl,rfl⟩,.inl trivial⟩
 ·cases h;exact ⟨vx,trivial⟩
 ·cases h
theorem aR (h:Sim E c0 c ρ S F) {x:Operand} {d:V} (hx:S.ev E.gv x=some d):rd ρ c d (ev F x):=by
 cases x with
 | tmp t=>exact h.slot t d hx
 | const v=>exact (rJ hx).1
 | global g=>exact dz (fun i v hi=>by cases hi) (h.gl g d hx).2
 | func f=>
  simp only [St.ev,Option.some.injEq] at hx
  subst hx
  simp only [rd,ev]
  exact ⟨[],rfl,rfl⟩
theorem Gi {T:TypeId}:rd ρ c (qY E.tb T) (.slice none 0 0):=by
 simp only [qY,rd]
 exact ⟨none,0,rfl,⟨Nat.zero_le _,Nat.zero_le _⟩,⟨rfl,rfl⟩,.inl trivial⟩
theorem ft (h:Sim E c0 c ρ S F) {T:TypeId} {x:Operand} {d:V} (hx:S.evT E T x=some d):rd ρ c d (ev F x):=by
 cases x with
 | tmp t=>exact h.slot t d hx
 | const v=>
  simp only [St.evT] at hx
  unfold uJ at hx
  split at hx
  ·exact (rJ (v:= .int _ _) hx).1
  ·exact (rJ (v:= .bool _) hx).1
  ·exact (rJ (v:= .string _) hx).1
  ·cases hx;exact Gi
  ·cases hx;exact vx
  ·cases hx;trivial
  ·cases hx;trivial
  ·unfold uI at hx
   split at hx
   ·rename_i hz;cases hx;exact vn hz
   ·cases hx
  ·cases hx
 | global g=>exact aR h (x:= .global g) hx
 | func f=>exact aR h (x:= .func f) hx
mutual
theorem jK {ρ':Ro}: ∀{d:V} {v:Value},dA d→rd ρ c d v→rd ρ' c d v
 | .int _ _,_,_,h=>h
 | .bool _,_,_,h=>h
 | .ifc _,_,_,h=>h
 | .str _,_,_,h=>h
 | .agg l,v,hp,h=>by
  simp only [rd,dA] at h hp⊢
  obtain ⟨cs,e,h⟩:=h
  exact ⟨cs,e,rK hp h⟩
 | .sl z n g l,v,_,h=>h
 | .pp n g d,v,_,h=>h
 | .own _,_,hp,_=>by simp only [dA] at hp
 | .ptr _ _,_,hp,_=>by simp only [dA] at hp
 | .optr _ _ _ _,_,hp,_=>by simp only [dA] at hp
 | .osub _ _ _ _,_,hp,_=>by simp only [dA] at hp
 | .tup l,v,hp,h=>by
  simp only [rd,dA] at h hp⊢
  obtain ⟨cs,e,h⟩:=h
  exact ⟨cs,e,l4 hp h⟩
 | .fn f l,v,hp,h=>by
  simp only [rd,dA] at h hp⊢
  obtain ⟨cs,e,h⟩:=h
  exact ⟨cs,e,l4 hp h⟩
 | .opq p,v,_,h=>h
 | .un,_,_,_=>trivial
theorem rK {ρ':Ro}: ∀{l:List V} {cs:List Value},dU l→rdC ρ c l cs→rdC ρ' c l cs
 | [],_,_,h=>h
 | d::l,cs,hp,h=>by
  simp only [rdC,dU] at h hp⊢
  obtain ⟨u,c2,e,h1,h2,h3⟩:=h
  exact ⟨u,c2,e,h1,jK hp.1 h2,rK hp.2 h3⟩
theorem l4 {ρ':Ro}: ∀{l:List V} {cs:List Value},dU l→rdT ρ c l cs→rdT ρ' c l cs
 | [],_,_,h=>h
 | d::l,cs,hp,h=>by
  simp only [rdT,dU] at h hp⊢
  obtain ⟨u,c2,e,h2,h3⟩:=h
  exact ⟨u,c2,e,jK hp.1 h2,l4 hp.2 h3⟩
end
theorem fY {n:Nat} {g:Bool} {d:V} {v:Value} (h1:g=false→n=1) (hf:eK n g d) (h:rd ρ c d v):(rV ρ n g).val c v d:=by
 cases g with
 | true=>
  cases d<;>simp only [eK] at hf
  rename_i l
  have h0:=h
  simp only [rd] at h
  obtain ⟨cs,rfl,h⟩:=h
  refine ⟨cs,⟨⟨(iO h).trans hf,(fun e=>by cases e),m8 h⟩,h0⟩,rfl⟩
 | false=>
  have ho:v.oneCell'=true:=by
   cases d<;>simp only [eK] at hf<;>simp only [rd] at h
   ·rw [h.1];rfl
   ·rw [h];rfl
   ·unfold ib at h;split at h
    ·rw [h];rfl
    ·obtain ⟨_,_,e⟩:=h;rw [e];rfl
   ·rw [h.1];rfl
   ·obtain ⟨a,cap,e,_⟩:=h;rw [e];rfl
   ·obtain ⟨b,o,cs,e,_⟩:=h;rw [e];rfl
   ·exact h.2
   ·obtain ⟨b,_,e⟩:=h;rw [e];rfl
   ·obtain ⟨u,_,g,len,cap,_,e⟩:=h;rw [e];rfl
   ·obtain ⟨u,_,⟨a,len,cap,_,_,_,e⟩|⟨b,_,_,_,e⟩⟩:=h<;>(rw [e];rfl)
   ·obtain ⟨cs,e,_⟩:=h;rw [e];rfl
   ·exact h.2.1
  exact ⟨[v],⟨⟨(h1 rfl).symm,h1,by simpa using ho⟩,h⟩,rfl⟩
theorem fZ {n:Nat} {g:Bool} {d:V} {v:Value} (h:(rV ρ n g).val c v d):rd ρ c d v:=by
 obtain ⟨cs,h1,rfl⟩:=h
 exact h1.2
theorem nh {n:Nat} {g:Bool} {d:V} {v:Value} (h:(rV ro0 n g).val c v d):rd ρ c d v:=dz (fun i v hi=>by cases hi) (fZ h)
theorem rd0 {d:V} {v:Value} (h:rd ro0 c d v):rd ρ c d v:=dz (fun i v hi=>by cases hi) h
theorem iS (hE:bC E) {T:TypeId} (h:(E.tb T).ok=true) (hk:(E.tb T).k=0):E.P.underlying T=some (.int (E.tb T).ik):=by
 obtain ⟨d,hd,hb⟩:=(hE.t T h).kind
 cases d<;>simp_all [bW]
theorem rL (hE:bC E) {T:TypeId} (h:(E.tb T).ok=true) (hk:(E.tb T).k=1):E.P.underlying T=some .bool:=by
 obtain ⟨d,hd,hb⟩:=(hE.t T h).kind
 cases d<;>simp_all [bW]
theorem ie (hE:bC E) {T:TypeId} (h:(E.tb T).ok=true) (hk:(E.tb T).k=2):E.P.underlying T=some .string:=by
 obtain ⟨d,hd,hb⟩:=(hE.t T h).kind
 cases d<;>simp_all [bW]
theorem dm (hE:bC E) {T:TypeId} (h:(E.tb T).ok=true) (hk:(E.tb T).k=3):E.P.underlying T=some (.slice (E.tb T).el)∧(E.tb (E.tb T).el).ok=true:=by
 obtain ⟨d,hd,hb⟩:=(hE.t T h).kind
 cases d<;>simp_all [bW]
theorem Gj (hE:bC E) {T:TypeId} (h:(E.tb T).ok=true) (hk:(E.tb T).k=8): ∃ms,E.P.underlying T=some (.interface ms):=by
 obtain ⟨d,hd,hb⟩:=(hE.t T h).kind
 cases d<;>simp_all [bW]
theorem zH (hE:bC E) {T:TypeId} (h:(E.tb T).ok=true) (hk:(E.tb T).k=7):E.P.underlying T=some (.map (E.tb T).el (E.tb T).len)∧(E.tb (E.tb T).el).ok=true∧(E.tb (E.tb T).len).ok=true∧(E.tb (E.tb T).len).k=1:=by
 obtain ⟨d,hd,hb⟩:=(hE.t T h).kind
 cases d<;>simp_all [bW]
theorem jL (hE:bC E) {T:TypeId} (h:(E.tb T).ok=true) (hk:(E.tb T).k=4):E.P.underlying T=some (.array (E.tb T).len (E.tb T).el)∧(E.tb (E.tb T).el).ok=true:=by
 obtain ⟨d,hd,hb⟩:=(hE.t T h).kind
 cases d<;>simp_all [bW]
theorem ni {tb:TypeId→TI} {n:Nat}: ∀{l:List (Nat×TypeId)} {fs:List Field} {off:Nat},cK tb n off l fs=true→off≤n∧ ∀{k o:Nat} {U:TypeId},l[k]? =some (o,U)→
  ∃f,fs[k]? =some f∧f.offset=o∧f.type=U∧(tb U).ok=true∧f.name≠ "_" ∧o+(tb U).n≤n
 | [],[],off,h=>by
  simp only [cK,decide_eq_true_eq] at h
  exact ⟨by omega,by simp⟩
 | (o,U)::l,f::fs,off,h=>by
  simp only [cK,Bool.and_eq_true,decide_eq_true_eq] at h
  obtain ⟨⟨⟨⟨⟨h1,h2⟩,h3⟩,h4⟩,h5⟩,h6⟩:=h
  obtain ⟨h7,h8⟩:=ni h6
  refine ⟨by omega,?_⟩
  intro k o' U' hk
  cases k with
  | zero=>
   simp only [List.getElem?_cons_zero,Option.some.injEq,Prod.mk.injEq] at hk
   obtain ⟨rfl,rfl⟩:=hk
   exact ⟨f,rfl,h2,h3,h4,h5,by omega⟩
  | succ k=>
   simp only [List.getElem?_cons_succ] at hk
   obtain ⟨f',e,h9⟩:=h8 hk
   exact ⟨f',by simpa using e,h9⟩
 | [],_::_,_,h=>by simp [cK] at h
 | _::_,[],_,h=>by simp [cK] at h
theorem zI (hE:bC E) {T U:TypeId} {k o:Nat} (h:(E.tb T).ok=true) (hk:(E.tb T).fs[k]? =some (o,U)) (h5:(E.tb T).k=5):oM E.P T k o∧(E.tb U).ok=true∧o+(E.tb U).n≤(E.tb T).n∧(E.tb T).g=true:=by
 obtain ⟨d,hd,hb⟩:=(hE.t T h).kind
 cases d with
 | struct fs=>
  simp only [bW,Bool.and_eq_true] at hb
  obtain ⟨f,e1,e2,e3,e4,e5,e6⟩:=(ni hb.1.2).2 hk
  have hU:=hE.t U e4
  have hpos:=hU.pos
  refine ⟨E0 (n:=(E.tb U).n - 1) hd (by simpa using e1) e2 ?_,e4,e6,hb.1.1.2⟩
  intro w
  have:=(hU.ty ro0).size w
  rw [cg hU.one] at this
  rw [e3,this]
  congr 1;omega
 | _=>simp_all [bW]
theorem Gk {α β:Type} {r:Rep α} {s:Rep β} {off b o1:Nat} {get:α→β} {set:α→β→α} {d:α} (hs:Sub r off s get set) (hx:gz r c (.pointer (some ⟨b,o1,none⟩)) d):gz s c (.pointer (some ⟨b,o1+off,none⟩)) (get d):=by
 obtain ⟨b',o',cs,e,h1,h2,h3,h4⟩:=hx
 cases e
 exact ⟨b,o1+off,_,rfl,h1,h2,h3.part off s.n,hs.get_is h4⟩
theorem oZ {ti:TI} {n off:Nat} {g:Bool} {cd cnd:Prop} {d v:V} {e:Eff} (h:kH ti n g off cd d=some (cnd,v,e)):
  cnd=cd∧e= .none∧((off=0∧ti.n=n∧ti.g=g∧v=d)∨(g=true∧off+ti.n≤n∧v=part d off ti.n ti.g)):=by
 unfold kH at h
 split at h
 ·rename_i hp;cases h;exact ⟨rfl,rfl,.inl ⟨hp.1,hp.2.1,hp.2.2,rfl⟩⟩
 ·obtain ⟨h1,h2⟩:=aZ h
  cases h2;exact ⟨rfl,rfl,.inr ⟨h1.1,h1.2,rfl⟩⟩
theorem l5 {l:List V} {i:Nat} {z:V} (h:i<l.length):elt l i z=l.getD i default:=by
 unfold elt
 rw [List.getD_eq_getElem?_getD,List.getD_eq_getElem?_getD,List.getElem?_eq_getElem h];rfl
theorem Gm (hE:bC E) (h:Sim E c0 c ρ S F) {o:Oper} {U:TypeId} {x:Operand} (hop:o.op= .load U x) (hU:(E.tb U).ok=true) {cnd:Prop} {v:V} {e:Eff}
  (hr:qZ E.tb S.H (E.tb U) (S.ev E.gv x)=some (cnd,v,e)) (hc:cnd):aH E.P (bJ c0 c ρ S nid v e) (run E.P F o c.w):=by
 have hT:=hE.t U hU
 unfold qZ at hr
 split at hr
 ·rename_i n g d hx
  obtain ⟨⟨h1,h2⟩,h3⟩:=aZ hr
  cases h3
  subst h1 h2
  exact uk hop (hT.ty ro0) (gB.1 (aR h hx)) fun u hu=>bK (nh hu)
 ·rename_i id off hx
  have hp:=aR h hx
  simp only [rd] at hp
  obtain ⟨b,hb,he⟩:=hp
  unfold uK at hr
  split at hr
  ·rename_i n g d hH
   obtain ⟨b',e1,e2,hv⟩:=h.heap _ _ hH
   rw [hb] at e1;cases e1
   obtain ⟨rfl,rfl,hw|hw⟩:=oZ hr
   ·obtain ⟨rfl,rfl,rfl,rfl⟩:=hw
    exact qN hop (hT.ty ρ) hv (Sub.self _) he fun u hu=>bK (fZ hu)
   ·obtain ⟨rfl,hle,rfl⟩:=hw
    exact qN hop (hT.ty ρ) hv (fH hle hT.one) he fun u hu=>bK (fZ hu)
  ·rename_i n g d hH
   obtain ⟨b',e1,hv⟩:=h.heap _ _ hH
   rw [hb] at e1;cases e1
   obtain ⟨rfl,rfl,hw|hw⟩:=oZ hr
   ·obtain ⟨rfl,rfl,rfl,rfl⟩:=hw
    exact uk hop (hT.ty ro0) (he▸hv) fun u hu=>bK (nh hu)
   ·obtain ⟨rfl,hle,rfl⟩:=hw
    refine uk hop (hT.ty ro0) ?_ fun u hu=>bK (nh hu)
    rw [he]
    simpa using Gk (fH hle hT.one) hv
  ·rename_i k n g d hH
   obtain ⟨e1,e2,hv⟩:=h.heap _ _ hH
   rw [hb] at e1;cases e1
   obtain ⟨rfl,rfl,hw|hw⟩:=oZ hr
   ·obtain ⟨rfl,rfl,rfl,rfl⟩:=hw
    exact qN hop (hT.ty ρ) hv (Sub.self _) he fun u hu=>bK (fZ hu)
   ·obtain ⟨rfl,hle,rfl⟩:=hw
    exact qN hop (hT.ty ρ) hv (fH hle hT.one) he fun u hu=>bK (fZ hu)
  ·cases hr
 ·rename_i id m i off hx
  have hp:=aR h hx
  simp only [rd] at hp
  obtain ⟨u,hu,hop'⟩:=hp
  unfold uL at hr
  split at hr
  ·rename_i E' n g z l hH
   obtain ⟨rfl,hr⟩:=aZ hr
   obtain ⟨v',e1,hown,hge,hone,_⟩:=h.heap _ _ hH
   rw [hu] at e1;cases e1
   have hn:(rV ro0 m g).n=m:=cg hone
   obtain ⟨rfl,rfl,hw|hw⟩:=oZ hr
   ·obtain ⟨rfl,rfl,rfl,rfl⟩:=hw
    refine qS hop (hT.ty ro0) hown (Sub.self _) hc (hn.symm▸hop') fun u hu=>bK (by rw [l5 hc];exact nh hu)
   ·obtain ⟨rfl,hle,rfl⟩:=hw
    refine qS hop (hT.ty ro0) hown (fH hle hT.one) hc (hn.symm▸hop') fun u hu=>bK (by rw [l5 hc];exact nh hu)
  ·rename_i E' n g z l hH
   obtain ⟨rfl,hr⟩:=aZ hr
   obtain ⟨v',e1,hown,hge,hone,_⟩:=h.heap _ _ hH
   rw [hu] at e1;cases e1
   have hn:(rV ρ m g).n=m:=cg hone
   obtain ⟨rfl,rfl,hw|hw⟩:=oZ hr
   ·obtain ⟨rfl,rfl,rfl,rfl⟩:=hw
    refine qS hop (hT.ty ρ) hown (Sub.self _) hc (hn.symm▸hop') fun u hu=>bK (by rw [l5 hc];exact fZ hu)
   ·obtain ⟨rfl,hle,rfl⟩:=hw
    refine qS hop (hT.ty ρ) hown (fH hle hT.one) hc (hn.symm▸hop') fun u hu=>bK (by rw [l5 hc];exact fZ hu)
  ·cases hr
 ·cases hr
end
end Go.Proofs.YtgealhhkngbkbaaGreatDoor
namespace Go.Proofs.YtgealhhkngbkbaaGreatDoor
open Go.RowKit
section
variable {E:Env} {c0 c:Cx} {ρ:Ro} {S:St} {F:Fm} {nid:Nat}
theorem Var.blkOk {b n:Nat} {g:Bool} {d:V} {i:Nat} (h1:ρ i=some (.pointer (some ⟨b,0,none⟩))) (h2:c0.mine b) (hv:Var c b (rV ρ n g) d):blkOk c0 c ρ i (.var n g d):=⟨b,h1,h2,hv⟩
theorem Gn (hE:bC E) (h:Sim E c0 c ρ S F) {o:Oper} {U:TypeId} {x y:Operand} (hop:o.op= .store U x y) (hU:(E.tb U).ok=true) {cnd:Prop} {v:V} {e:Eff}
  (hr:q6 E.tb S.H (E.tb U) (S.ev E.gv x) (S.evT E U y)=some (cnd,v,e)) (hc:cnd):aH E.P (bJ c0 c ρ S nid v e) (run E.P F o c.w):=by
 have hT:=hE.t U hU
 unfold q6 at hr
 split at hr
 ·rename_i id off d hx hy
  have hp:=aR h hx
  simp only [rd] at hp
  obtain ⟨b,hb,he⟩:=hp
  have hy':=ft h hy
  unfold uM at hr
  split at hr
  ·rename_i n g d0 hH
   obtain ⟨b',e1,e2,hv⟩:=h.heap _ _ hH
   rw [hb] at e1;cases e1
   have hbo:am ρ id=some b:=by simp [am,hb]
   have hbX:=hv.1
   split at hr
   ·rename_i hw
    cases hr
    obtain ⟨rfl,rfl,rfl⟩:=hw
    refine qO hop (hT.ty ρ) hv (Sub.self _) he (fY hT.one hc hy') fun c' hm hv'=>⟨c',ρ,rfl,⟨_,hH,rfl,rfl⟩,⟨?_,rfl,b,hb,e2,hv'⟩,trivial⟩
    rw [hbo];exact hm.chg hbX
   ·obtain ⟨⟨rfl,hle⟩,hr⟩:=aZ hr
    cases hr
    refine qO hop (hT.ty ρ) hv (fH hle hT.one) he (fY hT.one hc hy') fun c' hm hv'=>⟨c',ρ,rfl,⟨_,hH,rfl,rfl⟩,⟨?_,rfl,b,hb,e2,hv'⟩,trivial⟩
    rw [hbo];exact hm.chg hbX
  ·rename_i k n g d0 hH
   obtain ⟨e1,e2,hv⟩:=h.heap _ _ hH
   rw [hb] at e1;cases e1
   have hbo:am ρ id=some b:=by simp [am,hb]
   have hbX:=hv.1
   split at hr
   ·rename_i hw
    cases hr
    obtain ⟨rfl,rfl,rfl⟩:=hw
    refine qO hop (hT.ty ρ) hv (Sub.self _) he (fY hT.one hc hy') fun c' hm hv'=>⟨c',ρ,rfl,⟨_,hH,rfl,rfl⟩,⟨?_,rfl,hb,e2,hv'⟩,trivial⟩
    rw [hbo];exact hm.chg hbX
   ·obtain ⟨⟨rfl,hle⟩,hr⟩:=aZ hr
    cases hr
    refine qO hop (hT.ty ρ) hv (fH hle hT.one) he (fY hT.one hc hy') fun c' hm hv'=>⟨c',ρ,rfl,⟨_,hH,rfl,rfl⟩,⟨?_,rfl,hb,e2,hv'⟩,trivial⟩
    rw [hbo];exact hm.chg hbX
  ·cases hr
 ·rename_i id m i off d hx hy
  have hp:=aR h hx
  simp only [rd] at hp
  obtain ⟨u,hu,hpu⟩:=hp
  have hy':=ft h hy
  unfold uO at hr
  split at hr
  ·rename_i E' n g z l hH
   obtain ⟨rfl,hr⟩:=aZ hr
   obtain ⟨v',e1,hown,hge,hone,a,cap,es,hz⟩:=h.heap _ _ hH
   rw [hu] at e1;cases e1
   have hn:(rV ro0 m g).n=m:=cg hone
   have hbo:am ρ id=blk u:=by unfold am;rw [hu,es]
   by_cases hw:off=0∧(E.tb U).n=m∧(E.tb U).g=g
   ·rw [if_pos hw] at hr
    obtain ⟨rfl,rfl,rfl⟩:=hw
    cases hio:uN d<;>rw [hio] at hr
    case true=>
     simp only [Option.some.injEq,Prod.mk.injEq] at hr
     obtain ⟨rfl,rfl,rfl⟩:=hr
     obtain ⟨hi,hfit⟩:=hc
     have hown':Own c E' u (rV ρ (E.tb U).n (E.tb U).g) l:=hown.ro rd0
     exact uw hop (hT.ty ρ) hown' (Sub.self _) hi (hn.symm▸hpu) (fY hT.one hfit hy') fun c' hch ho'=>⟨c',ρ,rfl,⟨_,hH,rfl,rfl⟩,⟨hbo▸hch,rfl,u,hu,ho',hge,hone,a,cap,by simpa using es,hz⟩,trivial⟩
    simp only [Option.some.injEq,Prod.mk.injEq] at hr
    obtain ⟨rfl,rfl,rfl⟩:=hr
    obtain ⟨hi,hpure,hfit⟩:=hc
    refine uw hop (hT.ty ro0) hown (Sub.self _) hi (hn.symm▸hpu) (fY hT.one hfit (jK hpure hy')) fun c' hch ho'=>⟨c',ρ,rfl,⟨_,hH,rfl,rfl⟩,⟨hbo▸hch,rfl,u,hu,ho',hge,hone,a,cap,by simpa using es,hz⟩,trivial⟩
   ·rw [if_neg hw] at hr
    obtain ⟨⟨rfl,hle⟩,hr⟩:=aZ hr
    cases hr
    obtain ⟨hi,hpure,hfit⟩:=hc
    refine uw hop (hT.ty ro0) hown (fH hle hT.one) hi (hn.symm▸hpu) (fY hT.one hfit (jK hpure hy')) fun c' hch ho'=>⟨c',ρ,rfl,⟨_,hH,rfl,rfl⟩,⟨hbo▸hch,rfl,u,hu,by rw [l5 hi];exact ho',hge,hone,a,cap,by simpa using es,hz⟩,trivial⟩
  ·cases hr
 ·cases hr
theorem Gp (hE:bC E) (h:Sim E c0 c ρ S F) {o:Oper} {U:TypeId} {x:Operand} {k:Nat} (hop:o.op= .fieldAddr U x k) (hU:(E.tb U).ok=true) {cnd:Prop} {v:V} {e:Eff}
  (hr:q7 E.tb (E.tb U) k (S.ev E.gv x)=some (cnd,v,e)):aH E.P (bJ c0 c ρ S nid v e) (run E.P F o c.w):=by
 unfold q7 at hr
 split at hr
 ·rename_i d hx
  obtain ⟨h5,hr⟩:=aZ hr
  have hp:=aR h hx
  unfold uP at hr
  split at hr
  ·rename_i off W hk
   obtain ⟨hf,hW,hle,hg⟩:=zI hE hU hk h5
   split at hr
   ·cases hr
    simp only [rd] at hp
    obtain ⟨b,hb,he⟩:=hp
    exact E4 hop hf he (bK (by simp only [rd];exact ⟨b,hb,rfl⟩))
   ·cases hr
    simp only [rd] at hp
    obtain ⟨u,hu,he⟩:=hp
    exact SD hop hf he fun u' hu'=>bK (by simp only [rd];exact ⟨u,hu,hu'⟩)
   ·rename_i n g d'
    obtain ⟨⟨rfl,rfl⟩,hr2⟩:=aZ hr
    cases hr2
    have hWT:=hE.t W hW
    exact E3 hop hf (fH hle hWT.one) (gB.1 hp) fun u hu=>bK (gB.2 hu)
   ·cases hr
  ·cases hr
 ·cases hr
theorem Gq (hE:bC E) (h:Sim E c0 c ρ S F) {o:Oper} {U:TypeId} {x:Operand} {k:Nat} (hop:o.op= .field U x k) (hU:(E.tb U).ok=true) {cnd:Prop} {v:V} {e:Eff}
  (hr:q8 E.tb (E.tb U) k (S.ev E.gv x)=some (cnd,v,e)) (hc:cnd):aH E.P (bJ c0 c ρ S nid v e) (run E.P F o c.w):=by
 unfold q8 at hr
 split at hr
 ·rename_i l hx
  obtain ⟨h5,hr⟩:=aZ hr
  have hp:=aR h hx
  unfold uQ at hr
  split at hr
  ·rename_i off W hk
   cases hr
   obtain ⟨hf,hW,hle,hg⟩:=zI hE hU hk h5
   have hWT:=hE.t W hW
   have hUT:=hE.t U hU
   obtain ⟨d,hd,hb⟩:=hUT.kind
   cases d with
   | struct fs=>
    simp only [bW,Bool.and_eq_true] at hb
    obtain ⟨f,e1,e2,e3,_⟩:=(ni hb.1.2).2 hk
    have hval:=fY (n:=(E.tb U).n) (g:=true) (fun e=>by cases e) (by simpa [eK] using hc) hp
    obtain ⟨cs,hcs,hv⟩:=hval
    obtain ⟨u,hu,hu'⟩:=zc (P:=E.P) (T:=W) (w:=c.w) (cs:=cs.toArray) (hWT.ty ρ) (fH hle hWT.one) (by simpa using hcs)
    refine yv (v:=u) (w':=c.w) ?_ (bK (fZ hu'))
    have hru:(underlying U).run E.P c.w= .ok (.struct fs) c.w:=by simp [underlying,hd]
    have e1':fs[k]? =some f:=by simpa using e1
    simp only [mkV,rV,if_true] at hv
    simp [run,execOp,hop,Instr.field,hv,asAgg,hru,e1',e2,e3,hu]
   | _=>simp_all [bW]
  ·cases hr
 ·cases hr
theorem Gr {α β:Type} {P:Program} {o:Oper} {F:Fm} {c:Cx} {K:Value→World→Prop} {r:Rep α} {s:Rep β} {T E:TypeId} {x y:Operand} {d:α} {i:Int} {k:IntKind} {m q:Nat} {get:α→β} {set:α→β→α} (ho:o.op= .indexAddr T x y) (hT:P.underlying T=some (.array m E)) (hE:er P E s) (hq:s.n=q)
  (hs:Sub r (i.toNat*q) s get set) (hx:gz r c (ev F x) d) (hy:ev F y= .int k i) (hi:0≤i∧i<m) (h: ∀v,gz s c v (get d)→K v c.w):aH P K (run P F o c.w):=by
 subst hq
 obtain ⟨b,o1,cs,e,h1,h2,h3,h4⟩:=hx
 have hru:(underlying T).run P c.w= .ok (.array m E) c.w:=by simp [underlying,hT]
 have hadd:(⟨b,o1,none⟩:Addr).add (i.toNat*s.n)=⟨b,o1+i.toNat*s.n,none⟩:=by unfold Addr.add;split<;>simp_all
 refine yv (v:= .pointer (some ⟨b,o1+i.toNat*s.n,none⟩)) (w':=c.w) ?_ (h _ ⟨b,o1+i.toNat*s.n,_,rfl,h1,h2,h3.part (i.toNat*s.n) s.n,hs.get_is h4⟩)
 simp [run,execOp,ho,Instr.indexAt,e,hy,asIntOf,hru,Instr.sureAddr,hi.1,hi.2,hE.size,hadd]
theorem Gs (hE:bC E) (h:Sim E c0 c ρ S F) {o:Oper} {U:TypeId} {x y:Operand} (hop:o.op= .indexAddr U x y) (hU:(E.tb U).ok=true) {cnd:Prop} {v:V} {e:Eff}
  (hr:q9 S.H (E.tb U) (E.tb (E.tb U).el) (S.ev E.gv x) (S.ev E.gv y)=some (cnd,v,e)) (hc:cnd):aH E.P (bJ c0 c ρ S nid v e) (run E.P F o c.w):=by
 unfold q9 at hr
 split at hr
 ·rename_i z n g l k i hx hy
  obtain ⟨⟨h3,rfl,rfl⟩,hr2⟩:=aZ hr
  cases hr2
  obtain ⟨hu,hel⟩:=dm hE hU h3
  have hET:=hE.t _ hel
  refine yY hop hu (hET.ty ro0) (kC (aR h hx)) (aR h hy).1 ⟨hc.1,by omega⟩ fun u hu=>bK (gB.2 ?_)
  rw [l5 hc.2];exact hu
 ·rename_i id k i hx hy
  obtain ⟨h3,hr⟩:=aZ hr
  obtain ⟨hu,hel⟩:=dm hE hU h3
  have hET:=hE.t _ hel
  have hp:=aR h hx
  simp only [rd] at hp
  unfold uR at hr
  split at hr
  ·rename_i E' n g z l hH
   obtain ⟨⟨rfl,rfl⟩,hr2⟩:=aZ hr
   cases hr2
   obtain ⟨v',e1,hown,hge,hone,_⟩:=h.heap _ _ hH
   rw [hp.1] at e1;cases e1
   have hT:er E.P (E.tb U).el (rV ro0 (E.tb (E.tb U).el).n (E.tb (E.tb U).el).g):=hET.ty ro0
   have hown':Own c E' (ev F x) (rV ro0 (E.tb (E.tb U).el).n (E.tb (E.tb U).el).g) l:=hown
   have hru:(underlying U).run E.P c.w= .ok (.slice (E.tb U).el) c.w:=by simp [underlying,hu]
   rcases hown'.2 with ⟨a,e,rfl⟩|⟨g',cap,cur,e,h1,h2,h3',h4,h5,h6⟩
   ·simp at hc
   ·have hadd:(⟨g',0,none⟩:Addr).add (i.toNat*(E.tb (E.tb U).el).n)=⟨g',i.toNat*(E.tb (E.tb U).el).n,none⟩:=by unfold Addr.add;split<;>simp_all
    have hsz:=hT.size c.w
    rw [cg hET.one] at hsz
    have hi:=hc.2
    have hil:i<(l.length:Int):=by omega
    refine yv (v:= .pointer (some ⟨g',i.toNat*(E.tb (E.tb U).el).n,none⟩)) (w':=c.w) ?_ (bK ?_)
    ·simp [run,execOp,hop,Instr.indexAt,e,(aR h hy).1,asIntOf,hru,hc.1,hil,hsz,hadd]
    ·simp only [rd]
     exact ⟨_,hp.1,g',_,_,e,by simp⟩
  ·rename_i E' n g z l hH
   obtain ⟨⟨rfl,rfl⟩,hr2⟩:=aZ hr
   cases hr2
   obtain ⟨v',e1,hown,hge,hone,_⟩:=h.heap _ _ hH
   rw [hp.1] at e1;cases e1
   have hT:er E.P (E.tb U).el (rV ρ (E.tb (E.tb U).el).n (E.tb (E.tb U).el).g):=hET.ty ρ
   have hown':Own c E' (ev F x) (rV ρ (E.tb (E.tb U).el).n (E.tb (E.tb U).el).g) l:=hown
   have hru:(underlying U).run E.P c.w= .ok (.slice (E.tb U).el) c.w:=by simp [underlying,hu]
   rcases hown'.2 with ⟨a,e,rfl⟩|⟨g',cap,cur,e,h1,h2,h3',h4,h5,h6⟩
   ·simp at hc
   ·have hadd:(⟨g',0,none⟩:Addr).add (i.toNat*(E.tb (E.tb U).el).n)=⟨g',i.toNat*(E.tb (E.tb U).el).n,none⟩:=by unfold Addr.add;split<;>simp_all
    have hsz:=hT.size c.w
    rw [cg hET.one] at hsz
    have hi:=hc.2
    have hil:i<(l.length:Int):=by omega
    refine yv (v:= .pointer (some ⟨g',i.toNat*(E.tb (E.tb U).el).n,none⟩)) (w':=c.w) ?_ (bK ?_)
    ·simp [run,execOp,hop,Instr.indexAt,e,(aR h hy).1,asIntOf,hru,hc.1,hil,hsz,hadd]
    ·simp only [rd]
     exact ⟨_,hp.1,g',_,_,e,by simp⟩
  ·rename_i n g z l hH
   obtain ⟨⟨rfl,rfl⟩,hr2⟩:=aZ hr
   cases hr2
   obtain ⟨v',e1,hsl⟩:=h.heap _ _ hH
   rw [hp.1] at e1;cases e1
   refine yY hop hu (hET.ty ro0) (kC hsl) (aR h hy).1 ⟨hc.1,by omega⟩ fun u hu=>bK (gB.2 ?_)
   rw [l5 hc.2];exact hu
  ·cases hr
 ·rename_i id off k i hx hy
  obtain ⟨h4,hr⟩:=aZ hr
  cases hr
  obtain ⟨hu,hel⟩:=jL hE hU h4
  have hET:=hE.t _ hel
  have hp:=aR h hx
  simp only [rd] at hp
  obtain ⟨b,hb,he⟩:=hp
  have hsz: ∀w,(sizeOf (E.tb U).el).run E.P w= .ok (E.tb (E.tb U).el).n w:=fun w=>by
   have:=(hET.ty ro0).size w
   rwa [cg hET.one] at this
  exact E6 hop hu hsz he (aR h hy).1 hc (bK (by simp only [rd];exact ⟨b,hb,rfl⟩))
 ·rename_i n g d k i hx hy
  obtain ⟨⟨rfl,h4⟩,hr2⟩:=aZ hr
  cases hr2
  obtain ⟨hu,hel⟩:=jL hE hU h4
  have hET:=hE.t _ hel
  have hpt:=Gr (K:=bJ c0 c ρ S nid (.pp (E.tb (E.tb U).el).n (E.tb (E.tb U).el).g (part d (i.toNat*(E.tb (E.tb U).el).n) (E.tb (E.tb U).el).n (E.tb (E.tb U).el).g)) .none) hop hu (hET.ty ro0) (cg hET.one) (fH (ρ:=ro0) hc.2 hET.one) (gB.1 (aR h hx)) (aR h hy).1 hc.1
  exact hpt fun u hu=>bK (gB.2 hu)
 ·cases hr
theorem Gt (hE:bC E) (h:Sim E c0 c ρ S F) {o:Oper} {U:TypeId} {x y:Operand} (hop:o.op= .index U x y) (hU:(E.tb U).ok=true) {cnd:Prop} {v:V} {e:Eff}
  (hr:ra (E.tb U) (E.tb (E.tb U).el) (S.ev E.gv x) (S.ev E.gv y)=some (cnd,v,e)) (hc:cnd):aH E.P (bJ c0 c ρ S nid v e) (run E.P F o c.w):=by
 unfold ra at hr
 split at hr
 ·rename_i s k i hx hy
  obtain ⟨h2,hr⟩:=aZ hr
  cases hr
  have hu:=ie hE hU h2
  have hru:(underlying U).run E.P c.w= .ok .string c.w:=by simp [underlying,hu]
  obtain ⟨e1,hl⟩:=aR h hx
  obtain ⟨e2,_⟩:=aR h hy
  have hb:s[i.toNat]? =some (s.getD i.toNat 0):=by rw [List.getElem?_eq_getElem hc.2,List.getD_eq_getElem?_getD,List.getElem?_eq_getElem hc.2];rfl
  have hlt:=UInt8.toNat_lt (s.getD i.toNat 0)
  refine yv (v:= .int .u8 ((s.getD i.toNat 0).toNat:Int)) (w':=c.w) ?_ (bK ⟨rfl,?_⟩)
  ·have hg:(⟨s.toArray⟩:ByteArray)[i.toNat]? =some (s.getD i.toNat 0):=by
    rw [←hb]
    have hsz:(⟨s.toArray⟩:ByteArray).size=s.length:=rfl
    rw [getElem?_pos _ _ (by rw [hsz];exact hc.2),List.getElem?_eq_getElem hc.2]
    rfl
   simp only [run,execOp,hop,Instr.index,e1,e2,asIntOf,Sem.run_bind,Sem.run_pure,Result.andThen_ok,hru,hc.1,if_true,hg]
  ·generalize s.getD i.toNat 0=b at hlt
   simp only [Rng,IntKind.min,IntKind.max,IntKind.bits,IntKind.signed]
   simp
   omega
 ·rename_i l k i hx hy
  obtain ⟨h4,hr⟩:=aZ hr
  cases hr
  obtain ⟨hu,hel⟩:=jL hE hU h4
  have hET:=hE.t _ hel
  have hru:(underlying U).run E.P c.w= .ok (.array (E.tb U).len (E.tb U).el) c.w:=by simp [underlying,hu]
  have hp:=aR h hx
  obtain ⟨e2,_⟩:=aR h hy
  obtain ⟨cs,hcs,hv⟩:=fY (n:=(E.tb U).n) (g:=true) (fun e=>by cases e) (by simpa [eK] using hc.2.1) hp
  obtain ⟨u,hu1,hu'⟩:=zc (P:=E.P) (T:=(E.tb U).el) (w:=c.w) (cs:=cs.toArray) (hET.ty ρ) (fH hc.2.2 hET.one) (by simpa using hcs)
  have hsz:=(hET.ty ρ).size c.w
  rw [cg hET.one] at hsz
  refine yv (v:=u) (w':=c.w) ?_ (bK (fZ hu'))
  simp only [mkV,rV,if_true] at hv
  have h0:=hc.1.1
  have h1:=hc.1.2
  simp [run,execOp,hop,Instr.index,hv,e2,asIntOf,hru,h0,h1,hsz,hu1]
 ·cases hr
theorem cL {k:IntKind} {a:Int} (h:Rng k a):bJ c0 c ρ S nid (.int k a) .none (.int k a) c.w:=bK ⟨rfl,h⟩
theorem et {b:Bool}:bJ c0 c ρ S nid (.bool b) .none (.bool b) c.w:=bK rfl
theorem Gu (hE:bC E) (h:Sim E c0 c ρ S F) {o:Oper} {op:BinOp} {U W:TypeId} {x y:Operand} {k k':IntKind} {a b:Int} (hop:o.op= .binOp op U x y W) {cnd:Prop} {v:V} {e:Eff}
  (hx:ev F x= .int k a) (hy:ev F y= .int k' b) (hxr:Rng k a) (hyr:Rng k' b) (hr:(if k=k' then rb op k a b else uS op k a b)=some (cnd,v,e)) (hc:cnd):aH E.P (bJ c0 c ρ S nid v e) (run E.P F o c.w):=by
 split at hr
 ·rename_i hk
  subst hk
  cases op<;>simp only [rb,rOk,rIf,Option.some.injEq,Prod.mk.injEq] at hr<;>obtain ⟨rfl,rfl,rfl⟩:=hr
  ·exact E9 hop hx hy (cL (FC k a b))
  ·exact E_ hop hx hy (cL (oO k a b))
  ·exact Fa hop hx hy (cL (FD k a b))
  ·exact Fc hop hx hy hc (cL (FE k a b))
  ·exact Fd hop hx hy hc (cL (FK b hxr))
  ·exact Fl hop hx hy (cL (um k a b))
  ·exact Fo hop hx hy (cL (y9 k a b))
  ·exact Fp hop hx hy (cL (FG k a b))
  ·exact yZ hop hx hy hc (cL (qQ k a b))
  ·exact y3 hop hx hy hc (cL (y_ b hxr))
  ·exact Fq hop hx hy (cL (FH k a b))
  ·exact Fj hop hx hy et
  ·exact Fk hop hx hy et
  ·exact Ff hop hx hy et
  ·exact Fg hop hx hy et
  ·exact Fh hop hx hy et
  ·exact Fi hop hx hy et
 ·cases op
  case shl=>cases hr;exact yZ hop hx hy hc (cL (qQ k a b))
  case shr=>cases hr;exact y3 hop hx hy hc (cL (y_ b hxr))
  all_goals cases hr
end
end Go.Proofs.YtgealhhkngbkbaaGreatDoor
namespace Go.Proofs.YtgealhhkngbkbaaGreatDoor
open Go.RowKit
section
variable {E:Env} {c0 c:Cx} {ρ:Ro} {S:St} {F:Fm} {nid:Nat}
theorem Gv (hE:bC E) {o:Oper} {op:BinOp} {U W:TypeId} {x y:Operand} {a b:Bool} (hop:o.op= .binOp op U x y W) (hU:(E.tb U).ok=true) {cnd:Prop} {v:V} {e:Eff}
  (hx:ev F x= .bool a) (hy:ev F y= .bool b) (hr:rc (E.tb U) op a b=some (cnd,v,e)):aH E.P (bJ c0 c ρ S nid v e) (run E.P F o c.w):=by
 unfold rc at hr
 split at hr
 ·obtain ⟨h1,h2⟩:=aZ hr
  cases h2
  exact Fu hop (rL hE hU h1) hx hy et
 ·obtain ⟨h1,h2⟩:=aZ hr
  cases h2
  exact Fv hop (rL hE hU h1) hx hy et
 ·cases hr
theorem Gw (a b:List UInt8):(⟨a.toArray⟩:ByteArray)++⟨b.toArray⟩=⟨(a++b).toArray⟩:=by
 apply ByteArray.ext
 simp
theorem Gx {o:Oper} {op:BinOp} {U W:TypeId} {x y:Operand} {a b:List UInt8} (hop:o.op= .binOp op U x y W) {cnd:Prop} {v:V} {e:Eff}
  (hx:ev F x= .string ⟨a.toArray⟩) (hy:ev F y= .string ⟨b.toArray⟩) (hr:uT op a b=some (cnd,v,e)) (hc:cnd):aH E.P (bJ c0 c ρ S nid v e) (run E.P F o c.w):=by
 have hg: ∀u,(eqGuard op U x y (.string ⟨a.toArray⟩) (.string ⟨b.toArray⟩)).run E.P u= .ok () u:=fun u=>by cases op<;>simp [eqGuard]
 cases op
 case add=>
  cases hr
  refine yv (v:= .string ⟨(a++b).toArray⟩) (w':=c.w) ?_ (bK ⟨rfl,by simpa using hc⟩)
  have h1: ¬(((⟨a.toArray⟩:ByteArray).size+(⟨b.toArray⟩:ByteArray).size:Nat):Int)>IntKind.i64.max:=by
   have e1:(⟨a.toArray⟩:ByteArray).size=a.length:=rfl
   have e2:(⟨b.toArray⟩:ByteArray).size=b.length:=rfl
   rw [e1,e2]
   unfold LEN at hc
   simp [IntKind.max,IntKind.bits,IntKind.signed]
   omega
  have hbin:(binOp .add U (.string ⟨a.toArray⟩) (.string ⟨b.toArray⟩)).run E.P c.w= .ok (.string ⟨(a++b).toArray⟩) c.w:=by
   simp only [binOp,Op.stringOp,if_neg h1,Gw,Sem.run_pure]
  simp only [run,execOp,hop,hx,hy,Sem.run_bind,hg,Result.andThen_ok,hbin,Sem.run_pure]
 all_goals cases hr
 all_goals
  refine yv (v:= .bool _) (w':=c.w) ?_ et
  simp only [run,execOp,hop,hx,hy,Sem.run_bind,hg,Result.andThen_ok,binOp,Op.stringOp,ut,Sem.run_pure,ltS]
theorem Gy (hE:bC E) {o:Oper} {op:BinOp} {U W:TypeId} {x y:Operand} {z:Option Bool} {n:Nat} {g:Bool} {l:List V} (hop:o.op= .binOp op U x y W) (hU:(E.tb U).ok=true) (hk:(E.tb U).k=3) {cnd:Prop} {v:V} {e:Eff}
  (hx:rd ρ c (.sl z n g l) (ev F x)) (hy:ev F y= .slice none 0 0) (hr:kI op (oS z l)=some (cnd,v,e)):aH E.P (bJ c0 c ρ S nid v e) (run E.P F o c.w):=by
 obtain ⟨hu,hel⟩:=dm hE hU hk
 obtain ⟨a,cap,he,hl,hz,hs⟩:=dx.1 hx
 have hru:(underlying U).run E.P c.w= .ok (.slice (E.tb U).el) c.w:=by simp [underlying,hu]
 have hq0: ∀n,(Op.equalIn (n+1) U (.slice a l.length cap) (.slice none 0 0)).run E.P c.w= .ok (decide (a=none)) c.w:=by
  intro n
  cases a<;>simp [Op.equalIn,hru]
 have hq:(Op.equal U (.slice a l.length cap) (.slice none 0 0)).run E.P c.w= .ok (decide (a=none)) c.w:=hq0 9999
 cases hb:oS z l with
 | none=>rw [hb] at hr;cases hr
 | some b=>
  rw [hb] at hr
  have hab:decide (a=none)=b:=by
   unfold oS at hb
   split at hb
   ·rename_i b'
    cases hb
    cases b<;>simp_all [zOk]
   ·split at hb
    ·cases hb
    ·cases hb
     rcases hs with h|⟨b,o,cs,e,_⟩
     ·cases h
     ·simp [e]
  cases op<;>simp only [kI,rOk] at hr<;>cases hr
  ·refine yv (v:= .bool b) (w':=c.w) ?_ et
   simp [run,execOp,hop,he,hy,eqGuard,binOp,hq,hab]
  ·refine yv (v:= .bool (!b)) (w':=c.w) ?_ et
   simp [run,execOp,hop,he,hy,eqGuard,binOp,hq,hab]
theorem Gz (hE:bC E) {o:Oper} {op:BinOp} {U W:TypeId} {x y:Operand} {b:Bool} (hop:o.op= .binOp op U x y W) (hU:(E.tb U).ok=true) (hk:(E.tb U).k=8) (hc:isC y=true) {cnd:Prop} {v:V} {e:Eff}
  (hx:rd ρ c (.ifc b) (ev F x)) (hy:ev F y= .nilIface) (hr:kI op (some b)=some (cnd,v,e)):aH E.P (bJ c0 c ρ S nid v e) (run E.P F o c.w):=by
 obtain ⟨ms,hu⟩:=Gj hE hU hk
 have hru:(underlying U).run E.P c.w= .ok (.interface ms) c.w:=by simp [underlying,hu]
 obtain ⟨w,rfl⟩: ∃w,y= .const w:=by
  cases y with
  | const w=>exact ⟨w,rfl⟩
  | tmp t=>cases hc
  | func f=>cases hc
  | global g=>cases hc
 have hx':ib b (ev F x):=hx
 unfold ib at hx'
 cases b with
 | true=>
  rw [if_pos rfl] at hx'
  have hq0: ∀n,(Op.equalIn (n+1) U .nilIface .nilIface).run E.P c.w= .ok true c.w:=by
   intro n;simp [Op.equalIn,hru]
  have hq:(Op.equal U .nilIface .nilIface).run E.P c.w= .ok true c.w:=hq0 9999
  cases op<;>simp only [kI,rOk] at hr<;>cases hr
  ·refine yv (v:= .bool true) (w':=c.w) ?_ et
   simp [run,execOp,hop,hx',hy,eqGuard,binOp,hq]
  ·refine yv (v:= .bool false) (w':=c.w) ?_ et
   simp [run,execOp,hop,hx',hy,eqGuard,binOp,hq]
 | false=>
  rw [if_neg (by decide)] at hx'
  obtain ⟨t,p,hx'⟩:=hx'
  have hq0: ∀n,(Op.equalIn (n+1) U (.iface t p) .nilIface).run E.P c.w= .ok false c.w:=by
   intro n;simp [Op.equalIn,hru]
  have hq:(Op.equal U (.iface t p) .nilIface).run E.P c.w= .ok false c.w:=hq0 9999
  cases op<;>simp only [kI,rOk] at hr<;>cases hr
  ·refine yv (v:= .bool false) (w':=c.w) ?_ et
   simp [run,execOp,hop,hx',hy,eqGuard,binOp,hq]
  ·refine yv (v:= .bool true) (w':=c.w) ?_ et
   simp [run,execOp,hop,hx',hy,eqGuard,binOp,hq]
theorem GA (h:Sim E c0 c ρ S F) {o:Oper} {op:UnOp} {U:TypeId} {x:Operand} (hop:o.op= .unOp op U x) {cnd:Prop} {v:V} {e:Eff}
  (hr:unF op (S.ev E.gv x)=some (cnd,v,e)):aH E.P (bJ c0 c ρ S nid v e) (run E.P F o c.w):=by
 unfold unF at hr
 split at hr
 ·rename_i b hx
  split at hr
  ·cases hr;exact Fw hop (aR h hx) et
  ·cases hr
 ·rename_i k a hx
  split at hr
  ·cases hr;exact Fx hop (aR h hx).1 (cL (FF _ _))
  ·cases hr;exact Fy hop (aR h hx).1 (cL (FI _ _))
  ·cases hr
 ·cases hr
theorem GB (h:Sim E c0 c ρ S F) {o:Oper} {T:TypeId} {x y z:Operand} (hop:o.op= .pick x y z) {cnd:Prop} {v:V} {e:Eff}
  (hr:rh (S.ev E.gv x) (S.evT E T y) (S.evT E T z)=some (cnd,v,e)):aH E.P (bJ c0 c ρ S nid v e) (run E.P F o c.w):=by
 unfold rh at hr
 split at hr
 ·rename_i a hx hy
  cases hr
  exact yW (b:=true) hop (aR h hx) (bK (ft h hy))
 ·rename_i a hx hz
  cases hr
  exact yW (b:=false) hop (aR h hx) (bK (ft h hz))
 ·cases hr
theorem GC (hE:bC E) (h:Sim E c0 c ρ S F) {o:Oper} {U:TypeId} {x:Operand} (hop:o.op= .call {callee:= .builtin .len,args:= #[x],argTypes:= #[U]}) (hU:(E.tb U).ok=true) {cnd:Prop} {v:V} {e:Eff}
  (hr:rl S.H (E.tb U) (S.ev E.gv x)=some (cnd,v,e)):aH E.P (bJ c0 c ρ S nid v e) (run E.P F o c.w):=by
 unfold rl at hr
 split at hr
 ·rename_i z n g l hx
  obtain ⟨h1,hr2⟩:=aZ hr
  cases hr2
  have hs:=kC (aR h hx)
  exact y6 (ats:= #[]) hop (dm hE hU h1).1 hs (cL (kA (za hs)))
 ·rename_i l hx
  obtain ⟨h1,hr2⟩:=aZ hr
  cases hr2
  have e:=aR h hx
  exact FA hop (ie hE hU h1) e.1 (cL (kA e.2))
 ·rename_i id hx
  obtain ⟨h1,hr2⟩:=aZ hr
  have hp:=aR h hx
  simp only [rd] at hp
  unfold uZ at hr2
  split at hr2
  ·rename_i E' n g z l hH
   cases hr2
   obtain ⟨v',e1,hown,_,_,a,cap,es,_⟩:=h.heap _ _ hH
   rw [hp.1] at e1;cases e1
   refine yv (v:= .int .i64 l.length) (w':=c.w) ?_ (cL (kA hown.len))
   simp [run,execOp,hop,resolve,invoke,builtin,Builtin.len_,underlying,(dm hE hU h1).1,es,goInt]
  ·rename_i E' n g z l hH
   cases hr2
   obtain ⟨v',e1,hown,_,_,a,cap,es,_⟩:=h.heap _ _ hH
   rw [hp.1] at e1;cases e1
   refine yv (v:= .int .i64 l.length) (w':=c.w) ?_ (cL (kA hown.len))
   simp [run,execOp,hop,resolve,invoke,builtin,Builtin.len_,underlying,(dm hE hU h1).1,es,goInt]
  ·rename_i n g z l hH
   cases hr2
   obtain ⟨v',e1,hsl⟩:=h.heap _ _ hH
   rw [hp.1] at e1;cases e1
   have hs:=kC hsl
   exact y6 (ats:= #[]) hop (dm hE hU h1).1 hs (cL (kA (za hs)))
  ·cases hr2
 ·rename_i id n i j hx
  obtain ⟨h1,hr2⟩:=aZ hr
  have hp:=aR h hx
  simp only [rd] at hp
  obtain ⟨u,hu,hsub⟩:=hp
  unfold u6 at hr2
  split at hr2
  ·rename_i E' n' g z l hH
   cases hr2
   obtain ⟨v',e2,hown,_,_,a',cap',es,_⟩:=h.heap _ _ hH
   rw [hu] at e2;cases e2
   obtain ⟨a,len,cap,e1,hij,hjl,hev⟩:=uB hsub es
   rw [es] at e1;cases e1
   have hlen:=hown.len
   refine yv (v:= .int .i64 ((j - i:Nat):Int)) (w':=c.w) ?_ (cL (kA (by omega)))
   simp [run,execOp,hop,resolve,invoke,builtin,Builtin.len_,underlying,(dm hE hU h1).1,hev,goInt]
  ·cases hr2
 ·cases hr
theorem vy (h:Sim E c0 c ρ S F) {f2:Value→Value→Sem Value} {op:Int→Int→Int} (hf: ∀k a b,f2 (.int k a) (.int k b)=pure (.int k (op a b))) (hr: ∀{k a b},Rng k a→Rng k b→Rng k (op a b)) {cnd:Prop} {v:V} {e:Eff}:
  ∀(l:List Operand) (k:IntKind) (a:Int),Rng k a→kL E.gv S op (some (.int k a)) l=some (cnd,v,e)→ ∃b,rOk (V.int k b)=some (cnd,v,e)∧Rng k b∧(l.map (ev F)).foldlM f2 (.int k a)=pure (.int k b)
 | [],k,a,ha,hd=>⟨a,hd,ha,rfl⟩
 | x::l,k,a,ha,hd=>by
  unfold kL at hd
  split at hd
  ·rename_i k' b hx
   obtain ⟨rfl,h2⟩:=aZ hd
   have hb:rd ρ c (.int k b) (ev F x):=aR h hx
   obtain ⟨b',h3,h4,h5⟩:=vy h hf hr l k (op a b) (hr ha hb.2) h2
   refine ⟨b',h3,h4,?_⟩
   rw [List.map_cons,List.foldlM_cons,show ev F x= .int k b from hb.1,hf]
   exact h5
  ·cases hd
theorem GD (h:Sim E c0 c ρ S F) {o:Oper} {x:Operand} {l:List Operand} {ats:Array TypeId} (hop:o.op= .call {callee:= .builtin .min,args:=⟨x::l⟩,argTypes:=ats}) {cnd:Prop} {v:V} {e:Eff}
  (hr:kL E.gv S dS (S.ev E.gv x) l=some (cnd,v,e)):aH E.P (bJ c0 c ρ S nid v e) (run E.P F o c.w):=by
 cases hx:S.ev E.gv x with
 | none=>rw [hx] at hr;cases l<;>cases hr
 | some d=>
  rw [hx] at hr
  cases d<;>try (cases l<;>cases hr<;>done)
  rename_i k a
  have hd:=aR h hx
  obtain ⟨b,h1,h2,h3⟩:=vy h (f2:=Builtin.min2) (op:=dS) (fun k a b=>rfl) zj l k a hd.2 hr
  cases h1
  refine yv (v:= .int k b) (w':=c.w) ?_ (cL h2)
  simp [run,execOp,hop,resolve,invoke,builtin,Builtin.min_,hd.1,h3]
theorem GE (h:Sim E c0 c ρ S F) {o:Oper} {x:Operand} {l:List Operand} {ats:Array TypeId} (hop:o.op= .call {callee:= .builtin .max,args:=⟨x::l⟩,argTypes:=ats}) {cnd:Prop} {v:V} {e:Eff}
  (hr:kL E.gv S b_ (S.ev E.gv x) l=some (cnd,v,e)):aH E.P (bJ c0 c ρ S nid v e) (run E.P F o c.w):=by
 cases hx:S.ev E.gv x with
 | none=>rw [hx] at hr;cases l<;>cases hr
 | some d=>
  rw [hx] at hr
  cases d<;>try (cases l<;>cases hr<;>done)
  rename_i k a
  have hd:=aR h hx
  obtain ⟨b,h1,h2,h3⟩:=vy h (f2:=Builtin.max2) (op:=b_) (fun k a b=>by simp [Builtin.max2,b_]) zk l k a hd.2 hr
  cases h1
  refine yv (v:= .int k b) (w':=c.w) ?_ (cL h2)
  simp [run,execOp,hop,resolve,invoke,builtin,Builtin.max_,hd.1,h3]
theorem GF (h:Sim E c0 c ρ S F) {o:Oper} {x y:Operand} {ats:Array TypeId} (hop:o.op= .call {callee:= .builtin .min,args:= #[x,y],argTypes:=ats}) {cnd:Prop} {v:V} {e:Eff}
  (hr:ri (S.ev E.gv x) (S.ev E.gv y)=some (cnd,v,e)):aH E.P (bJ c0 c ρ S nid v e) (run E.P F o c.w):=by
 unfold ri at hr
 split at hr
 ·rename_i k a k' b hx hy
  obtain ⟨rfl,hr2⟩:=aZ hr
  cases hr2
  exact F1 hop (aR h hx).1 (aR h hy).1 (cL (zj (aR h hx).2 (aR h hy).2))
 ·cases hr
theorem GG (h:Sim E c0 c ρ S F) {o:Oper} {x y:Operand} {ats:Array TypeId} (hop:o.op= .call {callee:= .builtin .max,args:= #[x,y],argTypes:=ats}) {cnd:Prop} {v:V} {e:Eff}
  (hr:rk (S.ev E.gv x) (S.ev E.gv y)=some (cnd,v,e)):aH E.P (bJ c0 c ρ S nid v e) (run E.P F o c.w):=by
 unfold rk at hr
 split at hr
 ·rename_i k a k' b hx hy
  obtain ⟨rfl,hr2⟩:=aZ hr
  cases hr2
  exact F3 hop (aR h hx).1 (aR h hy).1 (cL (zk (aR h hx).2 (aR h hy).2))
 ·cases hr
theorem vz {l:List V} {cs:List Value} (h:rdT ρ c l cs): ∀{k:Nat} {v:V},l[k]? =some v→ ∃u,cs[k]? =some u∧rd ρ c v u:=by
 induction l generalizing cs with
 | nil=>intro k v hk;simp at hk
 | cons d l ih=>
  intro k v hk
  simp only [rdT] at h
  obtain ⟨u,c2,rfl,h1,h2⟩:=h
  cases k with
  | zero=>simp at hk;subst hk;exact ⟨u,rfl,h1⟩
  | succ k=>exact ih h2 (by simpa using hk)
theorem GH (h:Sim E c0 c ρ S F) {o:Oper} {x:Operand} {k:Nat} (hop:o.op= .extract x k) {cnd:Prop} {v:V} {e:Eff}
  (hr:rm k (S.ev E.gv x)=some (cnd,v,e)):aH E.P (bJ c0 c ρ S nid v e) (run E.P F o c.w):=by
 unfold rm at hr
 split at hr
 ·rename_i l hx
  split at hr
  ·rename_i d hd
   cases hr
   have hp:=aR h hx
   simp only [rd] at hp
   obtain ⟨cs,he,hl⟩:=hp
   obtain ⟨u,hu,hu'⟩:=vz hl hd
   exact FB hop he (by simpa using hu) (bK hu')
  ·cases hr
 ·cases hr
theorem GI (h:Sim E c0 c ρ S F) {o:Oper} {x:Operand} (hop:o.op= .nilCheck x) {cnd:Prop} {v:V} {e:Eff}
  (hr:rn (S.ev E.gv x)=some (cnd,v,e)):aH E.P (bJ c0 c ρ S nid v e) (run E.P F o c.w):=by
 unfold rn at hr
 split at hr
 ·rename_i id off hx
  cases hr
  have hp:=aR h hx
  have hp':=hp
  simp only [rd] at hp'
  obtain ⟨b,_,he⟩:=hp'
  rw [he] at hp
  exact ul hop he (bK hp)
 ·rename_i id m i off hx
  cases hr
  have hp:=aR h hx
  have hp':=hp
  simp only [rd] at hp'
  obtain ⟨u,_,g,len,cap,_,he⟩:=hp'
  rw [he] at hp
  exact ul hop he (bK hp)
 ·rename_i n g d hx
  cases hr
  have hp:=aR h hx
  obtain ⟨b,o,cs,he,_⟩:=gB.1 hp
  rw [he] at hp
  exact ul hop he (bK hp)
 ·rename_i f cap hx
  cases hr
  have hp:=aR h hx
  have hp':=hp
  simp only [rd] at hp'
  obtain ⟨cs,he,_⟩:=hp'
  rw [he] at hp
  exact yv (v:= .func (.func f) #[] cs.toArray) (w':=c.w) (by simp [run,execOp,hop,he]) (bK hp)
 ·cases hr
end
end Go.Proofs.YtgealhhkngbkbaaGreatDoor
namespace Go.Proofs.YtgealhhkngbkbaaGreatDoor
open Go.RowKit
section
variable {E:Env} {c0 c:Cx} {ρ:Ro} {S:St} {F:Fm} {nid:Nat}
theorem o0: ∀{ks:List Nat} {l m:List V} {r:Bool},eqC ks l m=some r→l.length=ks.length∧m.length=ks.length
 | [],[],[],_,_=>⟨rfl,rfl⟩
 | k::ks,a::l,b::m,r,h=>by
  have key: ∀q,eqC ks l m=some q→(a::l).length=(k::ks).length∧(b::m).length=(k::ks).length:=fun q hq=>by
   have:=o0 hq
   simpa using this
  unfold eqC at h
  split at h
  ·rename_i e;cases e
  ·rename_i e1 e2 e3
   cases e1;cases e2;cases e3
   obtain ⟨hk,h⟩:=aZ h
   simp only [Option.map_eq_some_iff] at h
   obtain ⟨q,hq,_⟩:=h
   exact key q hq
  ·rename_i e1 e2 e3
   cases e1;cases e2;cases e3
   simp only [Option.map_eq_some_iff] at h
   obtain ⟨q,hq,_⟩:=h
   exact key q hq
  ·rename_i e1 e2 e3
   cases e1;cases e2;cases e3
   simp only [Option.map_eq_some_iff] at h
   obtain ⟨q,hq,_⟩:=h
   exact key q hq
  ·cases h
 | [],_::_,_,_,h=>by simp [eqC] at h
 | [],[],_::_,_,h=>by simp [eqC] at h
 | _::_,[],_,_,h=>by unfold eqC at h;split at h<;>simp_all
 | _::_,_::_,[],_,h=>by unfold eqC at h;split at h<;>simp_all
theorem rM: ∀{k1 k2:List Nat} {l1 m1 l2 m2:List V} {r:Bool},l1.length=k1.length→m1.length=k1.length→eqC (k1++k2) (l1++l2) (m1++m2)=some r→ ∃r1 r2,eqC k1 l1 m1=some r1∧eqC k2 l2 m2=some r2∧r=(r1&&r2)
 | [],k2,[],[],l2,m2,r,_,_,h=>⟨true,r,rfl,h,by simp⟩
 | k::k1,k2,a::l1,b::m1,l2,m2,r,hl,hm,h=>by
  have hl':l1.length=k1.length:=by simpa using hl
  have hm':m1.length=k1.length:=by simpa using hm
  simp only [List.cons_append] at h
  unfold eqC at h
  split at h
  ·rename_i e;cases e
  ·rename_i e1 e2 e3
   cases e1;cases e2;cases e3
   obtain ⟨hk,h⟩:=aZ h
   simp only [Option.map_eq_some_iff] at h
   obtain ⟨q,hq,rfl⟩:=h
   obtain ⟨r1,r2,e1,e2,rfl⟩:=rM hl' hm' hq
   refine ⟨_,r2,?_,e2,(Bool.and_assoc _ _ _).symm⟩
   simp [eqC,hk,e1]
  ·rename_i e1 e2 e3
   cases e1;cases e2;cases e3
   simp only [Option.map_eq_some_iff] at h
   obtain ⟨q,hq,rfl⟩:=h
   obtain ⟨r1,r2,e1,e2,rfl⟩:=rM hl' hm' hq
   exact ⟨_,r2,by simp [eqC,e1],e2,(Bool.and_assoc _ _ _).symm⟩
  ·rename_i e1 e2 e3
   cases e1;cases e2;cases e3
   simp only [Option.map_eq_some_iff] at h
   obtain ⟨q,hq,rfl⟩:=h
   obtain ⟨r1,r2,e1,e2,rfl⟩:=rM hl' hm' hq
   exact ⟨_,r2,by simp [eqC,e1],e2,(Bool.and_assoc _ _ _).symm⟩
  ·cases h
 | [],_,_::_,_,_,_,_,hl,_,_=>by simp at hl
 | [],_,[],_::_,_,_,_,_,hm,_=>by simp at hm
 | _::_,_,[],_,_,_,_,hl,_,_=>by simp at hl
 | _::_,_,_::_,[],_,_,_,_,hm,_=>by simp at hm
theorem zJ {k1 k2:List Nat} {la lb:List V} {r:Bool} {n:Nat} (h:eqC (k1++k2) la lb=some r) (hn:k1.length=n): ∃r1 r2,eqC k1 (la.take n) (lb.take n)=some r1∧eqC k2 (la.drop n) (lb.drop n)=some r2∧r=(r1&&r2):=by
 obtain ⟨h1,h2⟩:=o0 h
 simp only [List.length_append] at h1 h2
 refine rM (l1:=la.take n) (m1:=lb.take n) (by simp;omega) (by simp;omega) ?_
 rwa [List.take_append_drop,List.take_append_drop]
theorem rN {U:TypeId} {w:World} (hT:TOk E.P E.tb U) {cs:List Value} {off:Nat} (hlen:off+(E.tb U).n≤cs.length):
  (Go.part U cs.toArray off).run E.P w= .ok (mkV (E.tb U).g ((cs.drop off).take (E.tb U).n)) w:=by
 have hag:=(hT.ty ro0).agg w
 have hsz:=(hT.ty ro0).size w
 rw [cg hT.one] at hsz
 have hag':(isAgg U).run E.P w= .ok (E.tb U).g w:=hag
 have hpos:=hT.pos
 cases hg:(E.tb U).g with
 | true=>
  rw [hg] at hag'
  have e:cs.toArray.extract off (off+(E.tb U).n)=((cs.drop off).take (E.tb U).n).toArray:=by
   simp [List.extract_eq_take_drop]
  simp only [Go.part,hag',Sem.run_bind,Result.andThen_ok,if_true,hsz,Sem.run_pure,mkV,e]
 | false=>
  rw [hg] at hag'
  have h1:=hT.one hg
  have hlt:off<cs.length:=by omega
  have hgt:cs.toArray[off]? =some cs[off]:=by simp [hlt]
  simp only [Go.part,hag',Sem.run_bind,Result.andThen_ok,Bool.false_eq_true,if_false,hgt,Sem.run_pure,mkV,h1]
  congr 1
  rw [List.drop_eq_getElem_cons hlt];rfl
def vA (E:Env) (d n:Nat) (T:TypeId):Prop:=(dK E.tb d T).length=(E.tb T).n∧ ∀(ρ:Ro) (c:Cx) (w:World) (la lb:List V) (cs ds:List Value) (r:Bool),rdC ρ c la cs→rdC ρ c lb ds→eqC (dK E.tb d T) la lb=some r→
 (Op.equalIn n T (mkV (E.tb T).g cs) (mkV (E.tb T).g ds)).run E.P w= .ok r w
theorem nj {la:List V} {cs:List Value} (h:rdC ρ c la cs) (hl:la.length=1): ∃a u,la=[a]∧cs=[u]∧rd ρ c a u:=by
 match la,hl with
 | [a],_=>
  simp only [rdC] at h
  obtain ⟨u,c2,rfl,_,h1,rfl⟩:=h
  exact ⟨a,u,rfl,rfl,h1⟩
theorem zK (hE:bC E) {d m:Nat} {N:Nat}: ∀(l:List (Nat×TypeId)) (fl:List Field) (off:Nat),cK E.tb N off l fl=true→(∀p∈l,vA E d m p.2)→
  off+(l.flatMap fun p=>dK E.tb d p.2).length=N∧ ∀(w:World) (la lb:List V) (cs ds:List Value) (r:Bool),rdC ρ c la cs→rdC ρ c lb ds→la.length=N→lb.length=N→eqC (l.flatMap fun p=>dK E.tb d p.2) (la.drop off) (lb.drop off)=some r→(Op.eqFields m cs.toArray ds.toArray fl).run E.P w= .ok r w
 | [],[],off,hf,_=>by
  simp only [cK,decide_eq_true_eq] at hf
  refine ⟨by simpa using hf,fun w la lb cs ds r h1 h2 h3 h4 hr=> ?_⟩
  rw [List.drop_eq_nil_of_le (by omega),List.drop_eq_nil_of_le (by omega)] at hr
  simp only [List.flatMap_nil,eqC,Option.some.injEq] at hr
  subst hr
  simp [Op.eqFields]
 | (o,U)::l,f::fl,off,hf,hq=>by
  simp only [cK,Bool.and_eq_true,decide_eq_true_eq] at hf
  obtain ⟨⟨⟨⟨⟨rfl,hfo⟩,hft⟩,hok⟩,hname⟩,hrest⟩:=hf
  have hle:=(ni hrest).1
  have hT:=hE.t U hok
  obtain ⟨hcl,q⟩:=hq (o,U) (by simp)
  obtain ⟨hsum,ih⟩:=zK hE l fl _ hrest (fun p hp=>hq p (by simp [hp]))
  simp only at hcl q
  refine ⟨by simp only [List.flatMap_cons,List.length_append,hcl];omega,fun w la lb cs ds r h1 h2 h3 h4 hr=> ?_⟩
  have hl1:=iO h1
  have hl2:=iO h2
  rw [List.flatMap_cons] at hr
  obtain ⟨r1,r2,e1,e2,rfl⟩:=zJ hr hcl
  rw [List.drop_drop,List.drop_drop] at e2
  have p1:=rN (w:=w) hT (cs:=cs) (off:=o) (by omega)
  have p2:=rN (w:=w) hT (cs:=ds) (off:=o) (by omega)
  have q:=q ρ c w _ _ _ _ r1 (jH (E.tb U).n (jG o h1)) (jH (E.tb U).n (jG o h2)) e1
  have ih:=ih w la lb cs ds r2 h1 h2 h3 h4 e2
  simp only [Op.eqFields,hname,ne_eq,not_false_eq_true,if_true,Sem.run_bind,hft,hfo,p1,p2,Result.andThen_ok,q,Sem.run_ite]
  cases r1<;>simp [ih]
 | [],_::_,_,hf,_=>by simp [cK] at hf
 | _::_,[],_,hf,_=>by simp [cK] at hf
theorem zL {U:TypeId} (hT:TOk E.P E.tb U) {d m:Nat} (hq:vA E d m U) {w:World} {la lb:List V} {cs ds:List Value} (h1:rdC ρ c la cs) (h2:rdC ρ c lb ds):
  ∀(j k:Nat) (r:Bool),la.length=(k+j)*(E.tb U).n→lb.length=(k+j)*(E.tb U).n→eqC (List.replicate j (dK E.tb d U)).flatten (la.drop (k*(E.tb U).n)) (lb.drop (k*(E.tb U).n))=some r→
   (forIn (List.range' k j) ((none,()):Option Bool×Unit) fun i (_:Option Bool×Unit)=>do
      let a←Go.part U cs.toArray (i*(E.tb U).n)
      let b←Go.part U ds.toArray (i*(E.tb U).n)
      let t←Op.equalIn m U a b
      if (!t)=true then pure (ForInStep.done ((some false,()):Option Bool×Unit)) else pure (ForInStep.yield (none,()))).run E.P w= .ok (if r then (none,()) else (some false,())) w
 | 0,k,r,h3,h4,hr=>by
  rw [List.drop_eq_nil_of_le (by rw [h3];simp),List.drop_eq_nil_of_le (by rw [h4];simp)] at hr
  simp only [List.replicate_zero,List.flatten_nil,eqC,Option.some.injEq] at hr
  subst hr
  simp
 | j+1,k,r,h3,h4,hr=>by
  have hl1:=iO h1
  have hl2:=iO h2
  have hk:(k+1)*(E.tb U).n≤(k+(j+1))*(E.tb U).n:=Nat.mul_le_mul_right _ (by omega)
  have hk':(k+1)*(E.tb U).n=k*(E.tb U).n+(E.tb U).n:=by rw [Nat.add_mul,Nat.one_mul]
  rw [List.replicate_succ,List.flatten_cons] at hr
  obtain ⟨r1,r2,e1,e2,rfl⟩:=zJ hr hq.1
  rw [List.drop_drop,List.drop_drop,←hk'] at e2
  have p1:=rN (w:=w) hT (cs:=cs) (off:=k*(E.tb U).n) (by omega)
  have p2:=rN (w:=w) hT (cs:=ds) (off:=k*(E.tb U).n) (by omega)
  have q:=hq.2 ρ c w _ _ _ _ r1 (jH (E.tb U).n (jG (k*(E.tb U).n) h1)) (jH (E.tb U).n (jG (k*(E.tb U).n) h2)) e1
  have ih:=zL hT hq (w:=w) h1 h2 j (k+1) r2 (by rw [h3];congr 1;omega) (by rw [h4];congr 1;omega) e2
  simp only [List.range'_succ,List.forIn_cons,Sem.run_bind,p1,p2,q,Result.andThen_ok,Sem.run_ite]
  cases r1
  ·simp
  ·simp only [Bool.not_true,Bool.false_eq_true,if_false,Sem.run_pure,Result.andThen_ok,Bool.true_and]
   exact ih
theorem zM (l:List Nat): ∀m,(List.replicate m l).flatten.length=m*l.length
 | 0=>by simp
 | m+1=>by rw [List.replicate_succ,List.flatten_cons,List.length_append,zM l m,Nat.add_mul];omega
theorem vB {k:Nat} {la lb:List V} {r:Bool} (h:eqC [k] la lb=some r):
  (k=0∧ ∃q a b,la=[.int q a]∧lb=[.int q b]∧r=(a==b))∨(k=1∧ ∃a b,la=[.bool a]∧lb=[.bool b]∧r=(a==b))∨(k=2∧ ∃a b,la=[.str a]∧lb=[.str b]∧r=(a==b)):=by
 obtain ⟨h1,h2⟩:=o0 h
 match la,lb,h1,h2 with
 | [a],[b],_,_=>
  rcases k with _|_|_|k
  ·cases a<;>cases b<;>simp [eqC] at h
   obtain ⟨rfl,rfl⟩:=h
   exact .inl ⟨rfl,_,_,_,rfl,rfl,rfl⟩
  ·cases a<;>cases b<;>simp [eqC] at h
   exact .inr (.inl ⟨rfl,_,_,rfl,rfl,h.symm⟩)
  ·cases a<;>cases b<;>simp [eqC] at h
   exact .inr (.inr ⟨rfl,_,_,rfl,rfl,h.symm⟩)
  ·exfalso;cases a<;>cases b<;>simp [eqC] at h
theorem vC (hE:bC E): ∀(d n:Nat) (T:TypeId),d≤n→lX E.tb d T=true→vA E d n T
 | 0,_,_,_,h=>by simp [lX] at h
 | d+1,0,_,hn,_=>by omega
 | d+1,n+1,T,hn,h=>by
  simp only [lX,Bool.and_eq_true,Bool.or_eq_true,decide_eq_true_eq,List.all_eq_true] at h
  obtain ⟨hok,h⟩:=h
  have hT:=hE.t T hok
  have leaf: ∀k,(E.tb T).k=k→k≤2→dK E.tb (d+1) T=[k]∧(E.tb T).g=false∧(E.tb T).n=1:=by
   intro k hk hk2
   have hg:(E.tb T).g=false:=by
    obtain ⟨dd,hd,hb⟩:=hT.kind
    cases dd<;>simp only [bW,Bool.and_eq_true,decide_eq_true_eq,Bool.not_eq_true'] at hb<;>first|exact hb.2|omega
   refine ⟨?_,hg,hT.one hg⟩
   unfold dK
   split<;>first|omega|rw [hk]
  rcases h with (((hk|hk)|hk)|⟨hk,hfs⟩)|⟨hk,hel⟩
  ·obtain ⟨h1,h2,h3⟩:=leaf 0 hk (by omega)
   refine ⟨by rw [h1,h3];rfl,fun ρ c w la lb cs ds r r1 r2 hr=> ?_⟩
   rw [h1] at hr
   rw [h2]
   rcases vB hr with ⟨_,q,a,b,rfl,rfl,rfl⟩|⟨e,_⟩|⟨e,_⟩
   ·obtain ⟨a',u,e1,rfl,ha⟩:=nj r1 rfl
    obtain ⟨b',v,e2,rfl,hb⟩:=nj r2 rfl
    cases e1;cases e2
    rw [show mkV false [u]=u from rfl,show mkV false [v]=v from rfl,ha.1,hb.1]
    exact run_equalIn_int w n T q (E.tb T).ik a b (iS hE hok hk)
   ·cases e
   ·cases e
  ·obtain ⟨h1,h2,h3⟩:=leaf 1 hk (by omega)
   refine ⟨by rw [h1,h3];rfl,fun ρ c w la lb cs ds r r1 r2 hr=> ?_⟩
   rw [h1] at hr
   rw [h2]
   rcases vB hr with ⟨e,_⟩|⟨_,a,b,rfl,rfl,rfl⟩|⟨e,_⟩
   ·cases e
   ·obtain ⟨a',u,e1,rfl,ha⟩:=nj r1 rfl
    obtain ⟨b',v,e2,rfl,hb⟩:=nj r2 rfl
    cases e1;cases e2
    simp only [rd] at ha hb
    rw [show mkV false [u]=u from rfl,show mkV false [v]=v from rfl,ha,hb]
    exact run_equalIn_bool' w n T _ _ (rL hE hok hk)
   ·cases e
  ·obtain ⟨h1,h2,h3⟩:=leaf 2 hk (by omega)
   refine ⟨by rw [h1,h3];rfl,fun ρ c w la lb cs ds r r1 r2 hr=> ?_⟩
   rw [h1] at hr
   rw [h2]
   rcases vB hr with ⟨e,_⟩|⟨e,_⟩|⟨_,a,b,rfl,rfl,rfl⟩
   ·cases e
   ·cases e
   ·obtain ⟨a',u,e1,rfl,ha⟩:=nj r1 rfl
    obtain ⟨b',v,e2,rfl,hb⟩:=nj r2 rfl
    cases e1;cases e2
    rw [show mkV false [u]=u from rfl,show mkV false [v]=v from rfl,ha.1,hb.1]
    have:=run_equalIn_string (P:=E.P) w n T ⟨a.toArray⟩ ⟨b.toArray⟩ (ie hE hok hk)
    rwa [ut,ut] at this
  ·obtain ⟨dd,hd,hb⟩:=hT.kind
   cases dd with
   | struct fs=>
    simp only [bW,Bool.and_eq_true,Bool.not_eq_true'] at hb
    have hck:dK E.tb (d+1) T=(E.tb T).fs.flatMap fun p=>dK E.tb d p.2:=by
     simp only [dK,hk]
    have hfr:=fun (ρ:Ro) (c:Cx)=>zK (ρ:=ρ) (c:=c) hE _ _ 0 hb.1.2 (fun p hp=>vC hE d n p.2 (by omega) (hfs p hp))
    have hlen:(dK E.tb (d+1) T).length=(E.tb T).n:=by
     rw [hck];have:=(hfr ro0 ⟨[],default,(by simp),[]⟩).1;omega
    refine ⟨hlen,fun ρ c w la lb cs ds r r1 r2 hr=> ?_⟩
    obtain ⟨l1,l2⟩:=o0 hr
    rw [hlen] at l1 l2
    rw [hck] at hr
    rw [hb.1.1.2]
    have hfs':E.P.fieldsOf T=fs:=by simp [Program.fieldsOf,hd]
    simp only [mkV,if_true]
    rw [run_equalIn_struct w n T _ _ (by rw [hfs'];exact hd) hb.2,hfs']
    exact (hfr ρ c).2 w la lb cs ds r r1 r2 l1 l2 (by simpa using hr)
   | _=>simp_all [bW]
  ·obtain ⟨dd,hd,hb⟩:=hT.kind
   cases dd with
   | array m e=>
    simp only [bW,Bool.and_eq_true,decide_eq_true_eq] at hb
    obtain ⟨⟨⟨⟨⟨_,h6⟩,h7⟩,h8⟩,h9⟩,h10⟩:=hb
    subst h6 h7
    have hET:=hE.t _ h8
    have hq:=vC hE d n _ (by omega) hel
    have hck:dK E.tb (d+1) T=(List.replicate (E.tb T).len (dK E.tb d (E.tb T).el)).flatten:=by
     simp only [dK,hk]
    have hlen:(dK E.tb (d+1) T).length=(E.tb T).n:=by
     rw [hck,h10,zM,hq.1]
    refine ⟨hlen,fun ρ c w la lb cs ds r r1 r2 hr=> ?_⟩
    obtain ⟨l1,l2⟩:=o0 hr
    rw [hlen] at l1 l2
    rw [hck] at hr
    have hru:(underlying T).run E.P w= .ok (.array (E.tb T).len (E.tb T).el) w:=by simp [underlying,hd]
    have hsz:=(hET.ty ro0).size w
    rw [cg hET.one] at hsz
    have hloop:=zL hET hq (w:=w) r1 r2 (E.tb T).len 0 r (by rw [l1,h10];congr 1;omega) (by rw [l2,h10];congr 1;omega) (by simpa using hr)
    rw [h9]
    simp only [mkV,if_true,Op.equalIn,Sem.run_bind,hru,Result.andThen_ok,hsz,Std.Legacy.Range.forIn_eq_forIn_range',Std.Legacy.Range.size,Nat.sub_zero,Nat.add_one_sub_one,Nat.div_one]
    rw [hloop]
    simp only [Result.andThen_ok]
    cases r<;>simp
   | _=>simp_all [bW]
theorem GJ (hE:bC E) (h:Sim E c0 c ρ S F) {o:Oper} {op:BinOp} {U W:TypeId} {x y:Operand} {a b:List V} (hop:o.op= .binOp op U x y W) (hU:(E.tb U).ok=true) (hcm:(E.tb U).cmp=true) (hg:(E.tb U).g=true) {cnd:Prop} {v:V} {e:Eff}
  (hx:rd ρ c (.agg a) (ev F x)) (hy:rd ρ c (.agg b) (ev F y)) (hr:oT op (eqC (E.tb U).ck a b)=some (cnd,v,e)):aH E.P (bJ c0 c ρ S nid v e) (run E.P F o c.w):=by
 have hT:=hE.t U hU
 obtain ⟨h1,h2,h3⟩:=hT.cmp hcm
 rw [h3] at hr
 obtain ⟨hlen,hq⟩:=vC hE 9 10000 U (by omega) h1
 cases hb:eqC (dK E.tb 9 U) a b with
 | none=>rw [hb] at hr;simp [oT] at hr
 | some r=>
  rw [hb] at hr
  simp only [rd] at hx hy
  obtain ⟨cs,e1,l1⟩:=hx
  obtain ⟨ds,e2,l2⟩:=hy
  have hrun:=hq ρ c c.w a b cs ds r l1 l2 hb
  rw [hg] at hrun
  simp only [mkV,if_true] at hrun
  unfold oT at hr
  simp only at hr
  split at hr
  ·cases hr
   refine yv (v:= .bool r) (w':=c.w) ?_ et
   simp only [run,execOp,hop,e1,e2,Sem.run_bind,run_eqGuard_agg c.w .eql U x y _ _ h2,Result.andThen_ok,run_eql_struct,hrun,Sem.run_pure]
  ·cases hr
   refine yv (v:= .bool (!r)) (w':=c.w) ?_ et
   simp only [run,execOp,hop,e1,e2,Sem.run_bind,run_eqGuard_agg c.w .neq U x y _ _ h2,Result.andThen_ok,run_neq_struct,hrun,Sem.run_pure]
  ·cases hr
end
end Go.Proofs.YtgealhhkngbkbaaGreatDoor
