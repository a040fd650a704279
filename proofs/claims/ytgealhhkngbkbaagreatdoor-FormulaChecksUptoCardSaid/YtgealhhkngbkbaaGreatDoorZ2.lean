/- Texts of this proof, one after the other: V2, V3, V4, V5, V6, V7, VQ, V8. -/
import Derived.Test.YtgealhhkngbkbaaGreatDoorZ1
import Derived.Lib.ConvBytes
import Derived.Laws.BytesArg
set_option linter.unusedVariables false
set_option linter.unusedSimpArgs false
namespace Go.Proofs.YtgealhhkngbkbaaGreatDoor
open Go.RowKit
structure TI where
 n:Nat:=1
 g:Bool:=false
 z:V:= .un
 el:TypeId:=0
 len:Nat:=0
 fs:List (Nat×TypeId):=[]
 k:Nat:=99
 ik:IntKind:= .i64
 by':Nat:=8
 cmp:Bool:=false
 ck:List Nat:=[]
 ok:Bool:=false
structure Env where
 P:Program
 tb:TypeId→TI
 gv:Nat→Option V
inductive Blk where
 | var (n:Nat) (g:Bool) (d:V)
 | own (E:TypeId) (n:Nat) (g:Bool) (z:Option Bool) (l:List V)
 | ownI (E:TypeId) (n:Nat) (g:Bool) (z:Option Bool) (l:List V)
 | pvar (n:Nat) (g:Bool) (d:V)
 | pown (n:Nat) (g:Bool) (z:Option Bool) (l:List V)
 | lent (k n:Nat) (g:Bool) (d:V)
 | kset (g:Bool) (k:IntKind) (n:Nat) (l:List (List Int))
structure St where
 F:List (Nat×V)
 H:List (Nat×Blk)
 nx:Nat
def ak {α:Type}:List (Nat×α)→Nat→Option α
 | [],_=>none
 | (k,v)::l,t=>if k=t then some v else ak l t
def dH {α:Type}:List (Nat×α)→Nat→α→List (Nat×α)
 | [],t,x=> [(t,x)]
 | (k,v)::l,t,x=>if k=t then (t,x)::l else (k,v)::dH l t x
def mF (k:IntKind) (n:Int):Bool:=
 match k with
 | .i64=>decide (-9223372036854775808≤n)&&decide (n≤9223372036854775807)
 | .u64=>decide (0≤n)&&decide (n≤18446744073709551615)
 | .u8=>decide (0≤n)&&decide (n≤255)
 | .u32=>decide (0≤n)&&decide (n≤4294967295)
 | .i32=>decide (-2147483648≤n)&&decide (n≤2147483647)
 | .u16=>decide (0≤n)&&decide (n≤65535)
 | .i8=>decide (-128≤n)&&decide (n≤127)
 | .i16=>decide (-32768≤n)&&decide (n≤32767)
mutual
def zrB:V→Value→Bool
 | .int k n,.int k' n'=>decide (k=k')&&decide (n=n')&&mF k n
 | .bool b,.bool b'=>decide (b=b')
 | .str [],.string s=>decide (s.data.toList=[])
 | .sl (some true) _ _ [],.slice none 0 0=>true
 | .agg l,.agg cs=>zrC l cs.toList
 | .un,_=>true
 | _,_=>false
def zrC:List V→List Value→Bool
 | [],[]=>true
 | d::l,u::cs=>u.oneCell'&&zrB d u&&zrC l cs
 | _,_=>false
end
def qF (b:Bool) (k:IntKind) (n:Int):Option V:=match b with
 | true=>some (.int k n)
 | false=>none
def ug (s:ByteArray):Option V:=if s.size≤LEN then some (.str s.data.toList) else none
def qG:Value→Option V
 | .int k n=>qF (mF k n) k n
 | .bool b=>some (.bool b)
 | .string s=>ug s
 | .slice none 0 0=>some (.sl (some true) 0 false [])
 | .nilIface=>some (.ifc true)
 | _=>none
def St.ev (gv:Nat→Option V) (S:St):Operand→Option V
 | .tmp t=>ak S.F t
 | .const v=>qG v
 | .func f=>some (.fn f [])
 | .global g=>gv g
def qH (tb:TypeId→TI) (T:TypeId):V:= .sl (some true) (tb (tb T).el).n (tb (tb T).el).g []
def uh (z:V) (cs:Array Value):Option V:=match zrB z (.agg cs) with
 | true=>some z
 | false=>none
def ui (tb:TypeId→TI) (T:TypeId):Value→Option V
 | .int k n=>qF (mF k n) k n
 | .bool b=>some (.bool b)
 | .string s=>ug s
 | .slice none 0 0=>some (qH tb T)
 | .nilIface=>some (.ifc true)
 | .agg cs=>uh (tb T).z cs
 | _=>none
def St.evT (E:Env) (S:St) (T:TypeId):Operand→Option V
 | .tmp t=>ak S.F t
 | .const v=>ui E.tb T v
 | .func f=>some (.fn f [])
 | .global g=>E.gv g
inductive Eff where
 | none
 | new (b:Blk)
 | upd (id:Nat) (b:Blk)
 | app (id:Nat) (b:Blk)
 | giv (id:Nat) (b:Blk)
 | mrk (id:Nat) (b:Blk)
abbrev Res:=Option (Prop×V×Eff)
def rOk (v:V):Res:=some (True,v,.none)
def rIf (c:Prop) (v:V):Res:=some (c,v,.none)
def rB (b:Bool) (r:Res):Res:=match b with
 | true=>r
 | false=>none
def jV (ti:TI) (n:Nat) (g:Bool) (off:Nat) (c:Prop) (d:V):Res:=
 if off=0∧ti.n=n∧ti.g=g then rIf c d
 else if g=true∧off+ti.n≤n then rIf c (part d off ti.n ti.g) else none
def elt (l:List V) (i:Nat) (z:V):V:=l.getD i z
def uj (tb:TypeId→TI) (ti:TI) (off:Nat):Option Blk→Res
 | some (.var n g d)=>jV ti n g off True d
 | some (.pvar n g d)=>jV ti n g off True d
 | some (.lent _ n g d)=>jV ti n g off True d
 | _=>none
def uk (tb:TypeId→TI) (ti:TI) (m i off:Nat):Option Blk→Res
 | some (.own E n g _ l)=>if m=n then jV ti n g off (i<l.length) (elt l i (tb E).z) else none
 | some (.ownI E n g _ l)=>if m=n then jV ti n g off (i<l.length) (elt l i (tb E).z) else none
 | _=>none
def qI (tb:TypeId→TI) (H:List (Nat×Blk)) (ti:TI):Option V→Res
 | some (.pp n g d)=>if ti.n=n∧ti.g=g then rOk d else none
 | some (.ptr id off)=>uj tb ti off (ak H id)
 | some (.optr id m i off)=>uk tb ti m i off (ak H id)
 | _=>none
mutual
def dU:V→Prop
 | .own _=>False
 | .ptr _ _=>False
 | .optr _ _ _ _=>False
 | .osub _ _ _ _=>False
 | .agg l=>dI l
 | .tup l=>dI l
 | .fn _ l=>dI l
 | _=>True
def dI:List V→Prop
 | []=>True
 | d::l=>dU d∧dI l
end
def eo (n:Nat):Bool→V→Prop
 | true,.agg l=>l.length=n
 | true,_=>False
 | false,.int _ _=>True
 | false,.bool _=>True
 | false,.ifc _=>True
 | false,.str _=>True
 | false,.sl _ _ _ _=>True
 | false,.pp _ _ _=>True
 | false,.own _=>True
 | false,.ptr _ _=>True
 | false,.optr _ _ _ _=>True
 | false,.osub _ _ _ _=>True
 | false,.fn _ _=>True
 | false,.opq _=>True
 | false,_=>False
def ul (ti:TI) (id off:Nat) (x:V):Option Blk→Res
 | some (.var n g d)=>
  if off=0∧ti.n=n∧ti.g=g then some (eo ti.n ti.g x,.un,.upd id (.var n g x))
  else if g=true∧off+ti.n≤n then some (eo ti.n ti.g x,.un,.upd id (.var n g (jS d off ti.n ti.g x))) else none
 | some (.lent k n g d)=>
  if off=0∧ti.n=n∧ti.g=g then some (eo ti.n ti.g x,.un,.upd id (.lent k n g x))
  else if g=true∧off+ti.n≤n then some (eo ti.n ti.g x,.un,.upd id (.lent k n g (jS d off ti.n ti.g x))) else none
 | _=>none
def um:V→Bool
 | .own _=>true
 | _=>false
def uo (tb:TypeId→TI) (ti:TI) (id m i off:Nat) (x:V):Option Blk→Res
 | some (.own E n g z l)=>
  if m=n then
   if off=0∧ti.n=n∧ti.g=g then (match um x with
    | false=>some (i<l.length∧dU x∧eo ti.n ti.g x,.un,.upd id (.own E n g z (l.set i x)))
    | true=>some (i<l.length∧eo ti.n ti.g x,.un,.upd id (.ownI E n g z (l.set i x))))
   else if g=true∧off+ti.n≤n then some (i<l.length∧dU x∧eo ti.n ti.g x,.un,.upd id (.own E n g z (l.set i (jS (elt l i (tb E).z) off ti.n ti.g x)))) else none
  else none
 | _=>none
def qJ (tb:TypeId→TI) (H:List (Nat×Blk)) (ti:TI):Option V→Option V→Res
 | some (.ptr id off),some x=>ul ti id off x (ak H id)
 | some (.optr id m i off),some x=>uo tb ti id m i off x (ak H id)
 | _,_=>none
def uq (tb:TypeId→TI) (ti:TI) (v:V):Option (Nat×TypeId)→Res
 | some (o,U)=>match v with
  | .ptr id off=>rOk (.ptr id (off+o))
  | .optr id m i off=>rOk (.optr id m i (off+o))
  | .pp n g d=>if g=true∧ti.n=n then rOk (.pp (tb U).n (tb U).g (part d o (tb U).n (tb U).g)) else none
  | _=>none
 | none=>none
def qK (tb:TypeId→TI) (ti:TI) (k:Nat):Option V→Res
 | some v=>if ti.k=5 then uq tb ti v ti.fs[k]? else none
 | none=>none
def ur (tb:TypeId→TI) (ti:TI) (l:List V):Option (Nat×TypeId)→Res
 | some (o,U)=>rIf (l.length=ti.n) (part (.agg l) o (tb U).n (tb U).g)
 | none=>none
def qL (tb:TypeId→TI) (ti:TI) (k:Nat):Option V→Res
 | some (.agg l)=>if ti.k=5 then ur tb ti l ti.fs[k]? else none
 | _=>none
def ut (el:TI) (id:Nat) (i:Int):Option Blk→Res
 | some (.own _ n g _ l)=>if el.n=n∧el.g=g then rIf (0≤i∧i.toNat<l.length) (.optr id n i.toNat 0) else none
 | some (.ownI _ n g _ l)=>if el.n=n∧el.g=g then rIf (0≤i∧i.toNat<l.length) (.optr id n i.toNat 0) else none
 | some (.pown n g _ l)=>if el.n=n∧el.g=g then rIf (0≤i∧i.toNat<l.length) (.pp n g (elt l i.toNat el.z)) else none
 | _=>none
def qM (H:List (Nat×Blk)) (ti el:TI):Option V→Option V→Res
 | some (.sl _ n g l),some (.int _ i)=>if ti.k=3∧el.n=n∧el.g=g then rIf (0≤i∧i.toNat<l.length) (.pp n g (elt l i.toNat el.z)) else none
 | some (.own id),some (.int _ i)=>if ti.k=3 then ut el id i (ak H id) else none
 | some (.ptr id off),some (.int _ i)=>if ti.k=4 then rIf (0≤i∧i<ti.len) (.ptr id (off+i.toNat*el.n)) else none
 | some (.pp n g d),some (.int _ i)=>if g=true∧ti.k=4 then rIf ((0≤i∧i<ti.len)∧i.toNat*el.n+el.n≤n) (.pp el.n el.g (part d (i.toNat*el.n) el.n el.g)) else none
 | _,_=>none
def yE (s:List UInt8) (i:Int):V:= .int .u8 ((s.getD i.toNat 0).toNat:Int)
def qN (ti el:TI):Option V→Option V→Res
 | some (.str s),some (.int _ i)=>if ti.k=2 then rIf (0≤i∧i.toNat<s.length) (yE s i) else none
 | some (.agg l),some (.int _ i)=>if ti.k=4 then rIf ((0≤i∧i<ti.len)∧l.length=ti.n∧i.toNat*el.n+el.n≤ti.n) (part (.agg l) (i.toNat*el.n) el.n el.g) else none
 | _,_=>none
def uu (op:BinOp) (k:IntKind) (a b:Int):Res:=
 match op with
 | .shl=>rIf (0≤b) (.int k (aB k a b))
 | .shr=>rIf (0≤b) (.int k (aw k a b))
 | _=>none
def qO (op:BinOp) (k:IntKind) (a b:Int):Res:=
 match op with
 | .add=>rOk (.int k (al k a b))
 | .sub=>rOk (.int k (av k a b))
 | .mul=>rOk (.int k (aN k a b))
 | .quo=>rIf (b≠0) (.int k (bP k a b))
 | .rem=>rIf (b≠0) (.int k (aQ k a b))
 | .lss=>rOk (.bool (decide (a<b)))
 | .leq=>rOk (.bool (decide (a≤b)))
 | .gtr=>rOk (.bool (decide (a>b)))
 | .geq=>rOk (.bool (decide (a≥b)))
 | .eql=>rOk (.bool (a==b))
 | .neq=>rOk (.bool (a !=b))
 | .and=>rOk (.int k (aU k a b))
 | .or=>rOk (.int k (orI k a b))
 | .xor=>rOk (.int k (aW k a b))
 | .andNot=>rOk (.int k (oi k a b))
 | .shl=>rIf (0≤b) (.int k (aB k a b))
 | .shr=>rIf (0≤b) (.int k (aw k a b))
def qP (ti:TI) (op:BinOp) (a b:Bool):Res:=
 match op with
 | .eql=>if ti.k=1 then rOk (.bool (a==b)) else none
 | .neq=>if ti.k=1 then rOk (.bool (a !=b)) else none
 | _=>none
def ltS (a b:List UInt8):Bool:=Op.bytesLess a b
def uv (op:BinOp) (a b:List UInt8):Res:=
 match op with
 | .add=>rIf (a.length+b.length≤LEN) (.str (a++b))
 | .eql=>rOk (.bool (a==b))
 | .neq=>rOk (.bool (!(a==b)))
 | .lss=>rOk (.bool (ltS a b))
 | .leq=>rOk (.bool (ltS a b||a==b))
 | .gtr=>rOk (.bool (!(ltS a b||a==b)))
 | .geq=>rOk (.bool (!ltS a b))
 | _=>none
def ow (z:Option Bool) (l:List V):Option Bool:=match z with
 | some b=>some b
 | none=>match l with
  | []=>none
  | _::_=>some false
def jW (op:BinOp):Option Bool→Res
 | some b=>match op with
  | .eql=>rOk (.bool b)
  | .neq=>rOk (.bool (!b))
  | _=>none
 | none=>none
def eqC:List Nat→List V→List V→Option Bool
 | [],[],[]=>some true
 | 0::ks,.int k a::l,.int k' b::m=>if k=k' then (eqC ks l m).map fun r=>a==b&&r else none
 | 1::ks,.bool a::l,.bool b::m=>(eqC ks l m).map fun r=>a==b&&r
 | 2::ks,.str a::l,.str b::m=>(eqC ks l m).map fun r=>a==b&&r
 | _,_,_=>none
def ox (op:BinOp):Option Bool→Res
 | some r=>match op with
  | .eql=>rOk (.bool r)
  | .neq=>rOk (.bool (!r))
  | _=>none
 | none=>none
def isC:Operand→Bool
 | .const _=>true
 | _=>false
def uw (ti:TI) (op:BinOp) (lit:Bool):Option V→Option V→Res
 | some (.int k a),some (.int k' b)=>if k=k' then qO op k a b else uu op k a b
 | some (.bool a),some (.bool b)=>qP ti op a b
 | some (.str a),some (.str b)=>uv op a b
 | some (.agg a),some (.agg b)=>if ti.cmp=true∧ti.g=true then ox op (eqC ti.ck a b) else none
 | some (.sl z n g l),some (.sl (some true) 0 false [])=>if ti.k=3 then jW op (ow z l) else none
 | some (.ifc b),some (.ifc true)=>if lit=true∧ti.k=8 then jW op (some b) else none
 | _,_=>none
def unF (op:UnOp):Option V→Res
 | some (.bool b)=>match op with
  | .not=>rOk (.bool (!b))
  | _=>none
 | some (.int k a)=>match op with
  | .neg=>rOk (.int k (fZ k a))
  | .xor=>rOk (.int k (eR k a))
  | _=>none
 | _=>none
def iY:V→Int
 | .int _ n=>n
 | _=>0
def ux:V→Prop
 | .int .u8 _=>True
 | _=>False
def oy:List V→Prop
 | []=>True
 | d::l=>ux d∧oy l
def u8N (n:Int):UInt8:=UInt8.ofNat n.toNat
def u8V (b:UInt8):V:= .int .u8 (b.toNat:Int)
def uy (tb:TypeId→TI) (s t:TI) (nid:Nat) (a:List UInt8):Res:=
 if s.k=2∧t.k=2 then rOk (.str a)
 else if s.k=2∧t.k=3∧(tb t.el).k=0∧(tb t.el).ik= .u8 then some (True,.own nid,.new (.pown 1 false (some false) (a.map u8V))) else none
def uz (tb:TypeId→TI) (s t:TI):Option (List V)→Res
 | some l=>if s.k=3∧t.k=2∧(tb s.el).k=0∧(tb s.el).ik= .u8∧(tb s.el).n=1∧(tb s.el).g=false then rIf (oy l∧l.length≤1073741824) (.str (l.map fun d=>u8N (iY d))) else none
 | none=>none
def oz (tb:TypeId→TI) (s t:TI) (nid:Nat) (l:Option (List V)):Option V→Res
 | some (.int k a)=>if s.k=0∧t.k=0∧s.ik=k then rOk (.int t.ik (ah t.ik a)) else none
 | some (.str a)=>uy tb s t nid a
 | some _=>uz tb s t l
 | none=>none
def qQ (tb:TypeId→TI) (s:TI) (i:Nat):Option Blk→Res
 | some (.own _ n g z l)=>if s.k=3∧(tb s.el).k=0∧(tb s.el).ik= .u8∧n=1∧g=false then some (0<l.length,.sl z 1 false l,.mrk i (.pown 1 false z l)) else none
 | _=>none
def uA (tb:TypeId→TI) (s:TI) (H:List (Nat×Blk)) (v:Option V) (r:Res):Res:=match v with
 | some (.own i)=>qQ tb s i (ak H i)
 | _=>r
def oA (l:List V):Nat→Nat→List V
 | 0,_=> []
 | k+1,i=>elt l i .un::oA l k (i+1)
def qR (ta el:TI):Option V→Res
 | some (.sl _ n g l)=>if ta.k=4∧el.n=1∧el.g=false∧n=1∧g=false∧0<ta.len then rIf (ta.len≤l.length) (.pp ta.len true (.agg (oA l ta.len 0))) else none
 | _=>none
def qS:Option V→Option V→Option V→Res
 | some (.bool true),some a,_=>rOk a
 | some (.bool false),_,some b=>rOk b
 | _,_,_=>none
def qT:Option V→Option V→Res
 | some (.int k a),some (.int k' b)=>if k=k' then rOk (.int k (dG a b)) else none
 | _,_=>none
def qU:Option V→Option V→Res
 | some (.int k a),some (.int k' b)=>if k=k' then rOk (.int k (ca a b)) else none
 | _,_=>none
def uB:Option Blk→Res
 | some (.own _ _ _ _ l)=>rOk (.int .i64 l.length)
 | some (.ownI _ _ _ _ l)=>rOk (.int .i64 l.length)
 | some (.pown _ _ _ l)=>rOk (.int .i64 l.length)
 | _=>none
def uC (i j:Nat):Option Blk→Res
 | some (.own _ _ _ _ _)=>rOk (.int .i64 ((j - i:Nat):Int))
 | _=>none
def qV (H:List (Nat×Blk)) (ti:TI):Option V→Res
 | some (.sl _ _ _ l)=>if ti.k=3 then rOk (.int .i64 l.length) else none
 | some (.str l)=>if ti.k=2 then rOk (.int .i64 l.length) else none
 | some (.own id)=>if ti.k=3 then uB (ak H id) else none
 | some (.osub id _ i j)=>if ti.k=3 then uC i j (ak H id) else none
 | _=>none
def qW (k:Nat):Option V→Res
 | some (.tup l)=>match l[k]? with
  | some v=>rOk v
  | none=>none
 | _=>none
def qX:Option V→Res
 | some (.ptr id off)=>rOk (.ptr id off)
 | some (.optr id m i off)=>rOk (.optr id m i off)
 | some (.pp n g d)=>rOk (.pp n g d)
 | some (.fn f cap)=>rOk (.fn f cap)
 | _=>none
def mG (E:Env) (S:St) (fs:List (Nat×TypeId)):Prop→V→List (Nat×Operand)→Res
 | c,d,[]=>rIf c d
 | c,d,(k,x)::l=>match fs[k]? with
  | some (o,U)=>match S.evT E U x with
   | some v=>mG E S fs (c∧eo (E.tb U).n (E.tb U).g v) (jS d o (E.tb U).n (E.tb U).g v) l
   | none=>none
  | none=>none
def lf (E:Env) (S:St) (el:TypeId) (m:Nat):Prop→V→List (Nat×Operand)→Res
 | c,d,[]=>rIf c d
 | c,d,(k,x)::l=>match S.evT E el x with
  | some v=>lf E S el m (c∧k<m∧eo (E.tb el).n (E.tb el).g v) (jS d (k*(E.tb el).n) (E.tb el).n (E.tb el).g v) l
  | none=>none
def qY (E:Env) (S:St) (ti:TI) (ps:List (Nat×Operand)):Res:=
 if ti.k=5 then mG E S ti.fs True ti.z ps else if ti.k=4 then lf E S ti.el ti.len True ti.z ps else none
def pvO (i:Nat):Option Blk→V
 | some (.pown n g z l)=> .sl z n g l
 | _=> .own i
mutual
def pvw (H:List (Nat×Blk)):V→V
 | .own i=>pvO i (ak H i)
 | .agg l=> .agg (lg H l)
 | v=>v
def lg (H:List (Nat×Blk)):List V→List V
 | []=> []
 | d::l=>pvw H d::lg H l
end
def jX (E:Env) (S:St) (el:TypeId) (n:Nat):Prop→List V→List (Nat×Operand)→Option (Prop×List V)
 | c,l,[]=>some (c,l)
 | c,l,(k,x)::ps=>match S.evT E el x with
  | some v=>jX E S el n (c∧k<n∧dU (pvw S.H v)∧eo (E.tb el).n (E.tb el).g (pvw S.H v)) (l.set k (pvw S.H v)) ps
  | none=>none
def qZ (E:Env) (T:TypeId) (n nid:Nat):Option (Prop×List V)→Res
 | some (c,l)=>if (E.tb T).k=3∧n*(E.tb (E.tb T).el).n≤16777216 then some (c,.own nid,.new (.own (E.tb T).el (E.tb (E.tb T).el).n (E.tb (E.tb T).el).g (some false) l)) else none
 | none=>none
def q5 (E:Env) (T:TypeId) (nid:Nat):Option V→Option V→Res
 | some (.int _ n),some (.int _ m)=>
  if (E.tb T).k=3 then some (0≤n∧n≤m∧m≤1073741824,.own nid,.new (.own (E.tb T).el (E.tb (E.tb T).el).n (E.tb (E.tb T).el).g (some false) (List.replicate n.toNat (E.tb (E.tb T).el).z))) else none
 | _,_=>none
def q6:Option V→Res
 | some v=>rOk v
 | none=>none
def q7 (ti:TI) (nid:Nat) (c:Prop) (d:V):Res:=some (c,.ptr nid 0,.new (.var ti.n ti.g d))
def uD (ti:TI) (nid:Nat):Option V→Res
 | some v=>q7 ti nid (eo ti.n ti.g v) v
 | none=>none
def uE (el:TI):Option Blk→Option (List V)
 | some (.own _ n g _ l)=>if el.n=n∧el.g=g then some l else none
 | some (.pown n g _ l)=>if el.n=n∧el.g=g then some l else none
 | _=>none
def lh {α:Type} (l:List α) (i j:Nat):List α:=(l.drop i).take (j - i)
def uF (el:TI) (n i j:Nat):Option Blk→Option (List V)
 | some (.own _ n' g _ l)=>if el.n=n'∧el.g=g∧n=n' then some (lh l i j) else none
 | _=>none
def f0 (H:List (Nat×Blk)) (el:TI):Option V→Option (List V)
 | some (.sl _ n g l)=>if el.n=n∧el.g=g then some l else none
 | some (.own id)=>uE el (ak H id)
 | some (.osub id n i j)=>uF el n i j (ak H id)
 | _=>none
def iZ (m:List V):Option Bool:=match m with
 | []=>none
 | _::_=>some false
def uG (elT:TypeId) (el:TI) (id:Nat) (m:List V):Option Blk→Res
 | some (.own E n g _ l)=>if E=elT∧el.n=n∧el.g=g then some (l.length+m.length≤1073741824,.own id,.app id (.own E n g (iZ m) (l++m))) else none
 | _=>none
def mH (H:List (Nat×Blk)) (ti el:TI) (nid:Nat):Option V→Option (List V)→Res
 | some (.own id),some m=>if ti.k=3 then uG ti.el el id m (ak H id) else none
 | some (.sl (some true) _ _ []),some m=>if ti.k=3 then some (m.length≤1073741824,.own nid,.new (.own ti.el el.n el.g (iZ m) m)) else none
 | _,_=>none
def bound (len:Int):Option (Option V)→Option Int
 | none=>some len
 | some (some (.int _ i))=>some i
 | _=>none
def loB (ev:Operand→Option V):Option Operand→Option Int
 | none=>some 0
 | some x=>bound 0 (some (ev x))
def hiB (len:Int) (ev:Operand→Option V):Option Operand→Option Int
 | none=>some len
 | some x=>bound len (some (ev x))
def q8 (l:List V) (i j:Int):List V:=(l.drop i.toNat).take (j.toNat - i.toNat)
def uH (el:TI) (id:Nat) (i j:Int):Option Blk→Res
 | some (.own _ n g _ l)=>if el.n=n∧el.g=g then rIf (0≤i∧i≤j∧j≤l.length) (.osub id n i.toNat j.toNat) else none
 | some (.pown n g _ l)=>if el.n=n∧el.g=g then rIf (0≤i∧i≤j∧j≤l.length) (.sl none n g (q8 l i j)) else none
 | _=>none
def mI (l:List V) (i j:Int):List V:=(l.drop i.toNat).take (j.toNat - i.toNat)
def li (el:TI) (m:Nat) (l:List V) (off:Nat) (i j:Int):Res:=
 if el.n=1∧el.g=false∧off+m≤l.length∧m≤1073741824 then rIf (0≤i∧i≤j∧j≤m) (.sl (some false) 1 false (mI (l.drop off) i j)) else none
def uI (id:Nat) (b:Blk) (p:Prop):Res→Res
 | some (c,v,_)=>some (c∧p,v,.giv id b)
 | none=>none
def uJ (el:TI) (id m off:Nat) (i j:Int):Option Blk→Res
 | some (.pvar _ true (.agg l))=>li el m l off i j
 | some (.var n true (.agg l))=>uI id (.pvar n true (.agg l)) (dI l) (li el m l off i j)
 | _=>none
def q9 (H:List (Nat×Blk)) (ti el:TI):Option V→Option Int→Option Int→Res
 | some (.sl z n g l),some i,some j=>if ti.k=3∧el.n=n∧el.g=g then rIf (0≤i∧i≤j∧j≤l.length) (.sl none n g (q8 l i j)) else none
 | some (.str s),some i,some j=>if ti.k=2 then rIf (0≤i∧i≤j∧j≤s.length) (.str ((s.drop i.toNat).take (j.toNat - i.toNat))) else none
 | some (.own id),some i,some j=>if ti.k=3 then uH el id i j (ak H id) else none
 | some (.ptr id off),some i,some j=>if ti.k=4 then uJ el id ti.len off i j (ak H id) else none
 | some (.pp _ true (.agg l)),some i,some j=>if ti.k=4 then li el ti.len l 0 i j else none
 | _,_,_=>none
def q_:Option Blk→Int
 | some (.own _ _ _ _ l)=>l.length
 | some (.pown _ _ _ l)=>l.length
 | _=>0
def jY (m:Nat) (H:List (Nat×Blk)):Option V→Int
 | some (.ptr _ _)=>m
 | some (.pp _ _ _)=>m
 | some (.sl _ _ _ l)=>l.length
 | some (.str l)=>l.length
 | some (.own id)=>q_ (ak H id)
 | _=>0
def yF (v:V) (id:Nat) (b:Blk):Res:=some (True,v,.upd id b)
def spl {α:Type} (l:List α) (i k:Nat) (m:List α):List α:=l.take i++m.take k++l.drop (i+k)
def oB (el:TI) (id i j:Nat) (m:List V):Option Blk→Res
 | some (.own E n g z l)=>if el.n=n∧el.g=g then yF (.int .i64 ((min (j - i) m.length:Nat):Int)) id (.own E n g z (spl l i (min (j - i) m.length) m)) else none
 | _=>none
def uK (el:TI) (id:Nat) (m:List V):Option Blk→Res
 | some (.own E n g z l)=>oB el id 0 l.length m (some (.own E n g z l))
 | _=>none
def uL (el:TI) (id n i j:Nat) (m:List V):Option Blk→Res
 | some (.own E n' g z l)=>if n=n' then oB el id i j m (some (.own E n' g z l)) else none
 | some (.var n' true (.agg l))=>if n=1∧i=0∧el.n=1∧el.g=false∧j=l.length∧0<l.length∧l.length≤1073741824 then some (dI l,.int .i64 ((min j m.length:Nat):Int),.upd id (.var n' true (.agg (spl l 0 (min j m.length) m)))) else none
 | _=>none
def mJ (H:List (Nat×Blk)) (ti el:TI):Option V→Option (List V)→Res
 | some (.own id),some m=>if ti.k=3 then uK el id m (ak H id) else none
 | some (.osub id n i j),some m=>if ti.k=3 then uL el id n i j m (ak H id) else none
 | _,_=>none
def jZ (gv:Nat→Option V) (S:St) (op:Int→Int→Int):Option V→List Operand→Res
 | some (.int k a),[]=>rOk (.int k a)
 | some (.int k a),x::l=>match S.ev gv x with
  | some (.int k' b)=>if k=k' then jZ gv S op (some (.int k (op a b))) l else none
  | _=>none
 | _,_=>none
def uM (E:Env) (S:St) (nid:Nat):Callee→List Operand→List TypeId→Res
 | .builtin .len,[x],[U]=>rB (E.tb U).ok (qV S.H (E.tb U) (S.ev E.gv x))
 | .builtin .min,[x,y],_=>qT (S.ev E.gv x) (S.ev E.gv y)
 | .builtin .max,[x,y],_=>qU (S.ev E.gv x) (S.ev E.gv y)
 | .builtin .min,x::y::z::l,_=>jZ E.gv S dG (S.ev E.gv x) (y::z::l)
 | .builtin .max,x::y::z::l,_=>jZ E.gv S ca (S.ev E.gv x) (y::z::l)
 | .builtin .copy,[x,y],[U,W]=>if U=W∧(E.tb U).ok=true then mJ S.H (E.tb U) (E.tb (E.tb U).el) (S.ev E.gv x) (f0 S.H (E.tb (E.tb U).el) (S.evT E U y)) else none
 | .builtin .append,[x,y],[U,W]=>if U=W∧(E.tb U).ok=true then mH S.H (E.tb U) (E.tb (E.tb U).el) nid (S.evT E U x) (f0 S.H (E.tb (E.tb U).el) (S.evT E U y)) else none
 | _,_,_=>none
def evL (ev:Operand→Option V):List Operand→Option (List V)
 | []=>some []
 | x::l=>consO (ev x) (evL ev l)
where consO:Option V→Option (List V)→Option (List V)
 | some v,some vs=>some (v::vs)
 | _,_=>none
def FE (f:FuncId) (vs:List V) (c:Cx) (v:Value):Prop:= ∃cs:List Value,v= .func (.func f) cs.toArray #[]∧rdT ro0 c vs cs
def ra:Fn→List Operand→Option (List V)→Option (List V)→Res
 | .func f,[],_,some l=>rOk (.fn f l)
 | .func f,_::_,some vs,some []=>some (dI vs,.opq (FE f vs),.none)
 | _,_,_,_=>none
def lj (k:IntKind):List V→Option (List Int)
 | []=>some []
 | .int k' a::l=>if k'=k then (match lj k l with|some m=>some (a::m)|none=>none) else none
 | _::_=>none
def oC (g:Bool) (k:IntKind):Option V→Option (List Int)
 | some (.int k' a)=>if g=false∧k'=k then some [a] else none
 | some (.agg l)=>if g=true then lj k l else none
 | _=>none
def mK (tb:TypeId→TI) (T:TypeId):Option (Bool×IntKind×Nat):=match (tb T).k with
 | 0=>some (false,(tb T).ik,1)
 | 4=>if (tb (tb T).el).k=0 then some (true,(tb (tb T).el).ik,(tb T).len) else none
 | _=>none
def zF:V→Bool
 | .bool false=>true
 | _=>false
def rc (tb:TypeId→TI) (ti:TI) (nid:Nat):Res:=if ti.k=7 then (match mK tb ti.el with|some (g,k,n)=>some (True,.own nid,.new (.kset g k n []))|none=>none) else none
def oD (z:Option (List Int)) (f:List Int→Res):Res:=match z with
 | some z=>f z
 | none=>none
def uN (ki:Option (Bool×IntKind×Nat)) (y:Option V):Option Blk→Res
 | some (.kset g k n l)=>if ki=some (g,k,n) then oD (oC g k y) fun z=>rIf (z.length=n) (.bool (l.contains z)) else none
 | _=>none
def re (tb:TypeId→TI) (H:List (Nat×Blk)) (ti:TI):Option V→Option V→Res
 | some (.own id),y=>if ti.k=7∧zF (tb ti.len).z=true then uN (mK tb ti.el) y (ak H id) else none
 | _,_=>none
def uO (ki:Option (Bool×IntKind×Nat)) (id:Nat) (y:Option V):Option Blk→Res
 | some (.kset g k n l)=>if ki=some (g,k,n) then oD (oC g k y) fun z=>some (z.length=n,.un,.upd id (.kset g k n (ld l z))) else none
 | _=>none
def rf (tb:TypeId→TI) (H:List (Nat×Blk)) (ti:TI):Option V→Option V→Option V→Res
 | some (.own id),y,some (.bool true)=>if ti.k=7 then uO (mK tb ti.el) id y (ak H id) else none
 | _,_,_=>none
def opF (E:Env) (S:St) (nid:Nat) (T:TypeId):Op→Res
 | .move x=>q6 (S.evT E T x)
 | .assign x=>q6 (S.evT E T x)
 | .pick c a b=>qS (S.ev E.gv c) (S.evT E T a) (S.evT E T b)
 | .load U x=>rB (E.tb U).ok (qI E.tb S.H (E.tb U) (S.ev E.gv x))
 | .store U x y=>rB (E.tb U).ok (qJ E.tb S.H (E.tb U) (S.ev E.gv x) (S.evT E U y))
 | .fieldAddr U x k=>rB (E.tb U).ok (qK E.tb (E.tb U) k (S.ev E.gv x))
 | .field U x k=>rB (E.tb U).ok (qL E.tb (E.tb U) k (S.ev E.gv x))
 | .indexAddr U x y=>rB (E.tb U).ok (qM S.H (E.tb U) (E.tb (E.tb U).el) (S.ev E.gv x) (S.ev E.gv y))
 | .index U x y=>rB (E.tb U).ok (qN (E.tb U) (E.tb (E.tb U).el) (S.ev E.gv x) (S.ev E.gv y))
 | .alloc U=>rB (E.tb U).ok (q7 (E.tb U) nid True (E.tb U).z)
 | .box U x=>rB (E.tb U).ok (uD (E.tb U) nid (S.evT E U x))
 | .build U ps=>rB (E.tb U).ok (qY E S (E.tb U) ps.toList)
 | .buildSlice U n ps=>rB (E.tb U).ok (qZ E U n nid (jX E S (E.tb U).el n True (List.replicate n (E.tb (E.tb U).el).z) ps.toList))
 | .makeSlice U n m=>rB (E.tb U).ok (q5 E U nid (S.ev E.gv n) (S.ev E.gv m))
 | .binOp op U x y _=>rB (E.tb U).ok (uw (E.tb U) op (isC y) (S.ev E.gv x) (S.ev E.gv y))
 | .unOp op _ x=>unF op (S.ev E.gv x)
 | .convert U W x=>rB ((E.tb U).ok&&(E.tb W).ok) (if U=W then uA E.tb (E.tb U) S.H (S.ev E.gv x) (oz E.tb (E.tb U) (E.tb W) nid (f0 S.H (E.tb (E.tb U).el) (S.ev E.gv x)) (S.ev E.gv x)) else oz E.tb (E.tb U) (E.tb W) nid (f0 S.H (E.tb (E.tb U).el) (S.ev E.gv x)) (S.ev E.gv x))
 | .sliceToArrayPointer A x=>rB (E.tb A).ok (qR (E.tb A) (E.tb (E.tb A).el) (S.ev E.gv x))
 | .extract x k=>qW k (S.ev E.gv x)
 | .nilCheck x=>qX (S.ev E.gv x)
 | .slice U x lo hi none=>rB (E.tb U).ok (q9 S.H (E.tb U) (E.tb (E.tb U).el) (S.ev E.gv x) (loB (S.ev E.gv) lo) (hiB (jY (E.tb U).len S.H (S.ev E.gv x)) (S.ev E.gv) hi))
 | .call cl=>uM E S nid cl.callee cl.args.toList cl.argTypes.toList
 | .makeFunc fn first cs=>ra fn first.toList (evL (S.ev E.gv) first.toList) (evL (S.ev E.gv) cs.toList)
 | .makeMap T none=>rB (E.tb T).ok (rc E.tb (E.tb T) nid)
 | .lookup T x y false=>rB (E.tb T).ok (re E.tb S.H (E.tb T) (S.ev E.gv x) (S.ev E.gv y))
 | .mapUpdate T x y v=>rB (E.tb T).ok (rf E.tb S.H (E.tb T) (S.ev E.gv x) (S.ev E.gv y) (S.ev E.gv v))
 | _=>none
def uP (tb:TypeId→TI) (U:TypeId) (id:Nat):Option Blk→Res
 | some (.var _ true (.agg l))=>if (tb U).ok=true∧(tb U).k=4∧(tb (tb U).el).n=1∧(tb (tb U).el).g=false∧(tb U).len=l.length∧0<l.length∧l.length≤1073741824 then some (True,.osub id 1 0 (tb U).len,.none) else none
 | _=>none
def rg (tb:TypeId→TI) (H:List (Nat×Blk)) (U:TypeId):Option V→Res
 | some (.ptr id 0)=>uP tb U id (ak H id)
 | _=>none
def uQ:Op→Option (TypeId×Operand)
 | .slice U x none none none=>some (U,x)
 | _=>none
def uR:Res→Res→Res
 | some r,_=>some r
 | none,r=>r
def opH (E:Env) (S:St) (nid:Nat) (T:TypeId) (op:Op):Res:=match uQ op with
 | some (U,x)=>uR (rg E.tb S.H U (S.ev E.gv x)) (opF E S nid T op)
 | none=>opF E S nid T op
mutual
def eD (id:Nat):V→V
 | .own i=>if i=id then .un else .own i
 | .ptr i o=>if i=id then .un else .ptr i o
 | .optr i n k o=>if i=id then .un else .optr i n k o
 | .osub i n k o=>if i=id then .un else .osub i n k o
 | .agg l=> .agg (ga id l)
 | .tup l=> .tup (ga id l)
 | .fn f l=> .fn f (ga id l)
 | v=>v
def ga (id:Nat):List V→List V
 | []=> []
 | d::l=>eD id d::ga id l
end
def lm (id:Nat):Blk→Blk
 | .var n g d=> .var n g (eD id d)
 | .lent k n g d=> .lent k n g (eD id d)
 | .kset g k n l=> .kset g k n l
 | .ownI E n g z l=> .ownI E n g z (ga id l)
 | b=>b
def mL (id:Nat):List (Nat×V)→List (Nat×V)
 | []=> []
 | (t,v)::l=>(t,eD id v)::mL id l
def ln (id:Nat):List (Nat×Blk)→List (Nat×Blk)
 | []=> []
 | (t,b)::l=>(t,lm id b)::ln id l
def St.eff (S:St) (nid:Nat):Eff→St
 | .none=>S
 | .new b=>{S with H:=(nid,b)::S.H,nx:=nid+1}
 | .upd id b=>{S with H:=dH S.H id b}
 | .app id b=>{S with H:=dH (ln id S.H) id b,F:=mL id S.F}
 | .giv id b=>{S with H:=dH S.H id b}
 | .mrk id b=>{S with H:=dH S.H id b}
def St.put (S:St) (d:Option Nat) (v:V):St:=
 match d with
 | some t=>{S with F:=(t,v)::S.F}
 | none=>S
end Go.Proofs.YtgealhhkngbkbaaGreatDoor
namespace Go.Proofs.YtgealhhkngbkbaaGreatDoor
open Go.RowKit
theorem yG {k:IntKind} {n:Int} (h:mF k n=true):Rng k n:=by
 cases k<;>simp [mF,Rng,IntKind.min,IntKind.max,IntKind.bits,IntKind.signed] at h⊢ <;>omega
mutual
theorem uS {ρ:Ro} {c:Cx}: ∀{d:V} {v:Value},zrB d v=true→rd ρ c d v
 | .int k n,.int k' n',h=>by
  simp only [zrB,Bool.and_eq_true,decide_eq_true_eq] at h
  obtain ⟨⟨rfl,rfl⟩,h⟩:=h
  exact ⟨rfl,yG h⟩
 | .bool b,.bool b',h=>by
  simp only [zrB,decide_eq_true_eq] at h
  subst h;rfl
 | .str [],.string s,h=>by
  simp only [zrB,decide_eq_true_eq] at h
  refine ⟨?_,Nat.zero_le _⟩
  obtain ⟨⟨l⟩⟩:=s
  simp only at h
  subst h;rfl
 | .sl (some true) n g [],.slice none 0 0,h=>by
  simp only [rd]
  exact ⟨none,0,rfl,⟨Nat.zero_le _,Nat.zero_le _⟩,⟨rfl,rfl⟩,.inl trivial⟩
 | .agg l,.agg cs,h=>by
  simp only [zrB] at h
  simp only [rd]
  exact ⟨cs.toList,rfl,yH h⟩
 | .un,_,_=>trivial
theorem yH {ρ:Ro} {c:Cx}: ∀{l:List V} {cs:List Value},zrC l cs=true→rdC ρ c l cs
 | [],[],_=>rfl
 | d::l,u::cs,h=>by
  simp only [zrC,Bool.and_eq_true] at h
  simp only [rdC]
  exact ⟨u,cs,rfl,h.1.1,uS h.1.2,yH h.2⟩
end
def yI (ti:TI):Option Value→Bool
 | some zv=>zrB ti.z zv&&(match ti.g,zv with
  | true,.agg cs=>decide (cs.size=ti.n)&&cs.toList.all (·.oneCell')
  | false,u=>u.oneCell'
  | _,_=>false)
 | none=>false
def dm (tb:TypeId→TI) (n:Nat):Nat→List (Nat×TypeId)→List Field→Bool
 | off,[],[]=>decide (off=n)
 | off,(o,U)::l,f::fs=>decide (o=off)&&decide (f.offset=o)&&decide (f.type=U)&&(tb U).ok&&decide (f.name≠ "_")&&dm tb n (off+(tb U).n) l fs
 | _,_,_=>false
def bT (P:Program) (tb:TypeId→TI) (T:TypeId) (ti:TI):TypeDesc→Bool
 | .int k=>decide (ti.k=0)&&decide (ti.ik=k)&& !ti.g
 | .bool=>decide (ti.k=1)&& !ti.g
 | .string=>decide (ti.k=2)&& !ti.g
 | .slice e=>decide (ti.k=3)&&decide (ti.el=e)&&(tb e).ok&& !ti.g
 | .array m e=>decide (ti.k=4)&&decide (ti.el=e)&&decide (ti.len=m)&&(tb e).ok&&ti.g&&decide (ti.n=m*(tb e).n)
 | .struct fs=>decide (ti.k=5)&&ti.g&&dm tb ti.n 0 ti.fs fs.toList&& !(P.stoodInHeld T)
 | .map KT ET=>(decide (ti.k=6)||(decide (ti.k=7)&&decide (ti.el=KT)&&(tb KT).ok&&decide (ti.len=ET)&&(tb ET).ok&&decide ((tb ET).k=1)))&& !ti.g
 | .interface _=>(decide (ti.k=6)||decide (ti.k=8))&& !ti.g
 | _=>decide (ti.k=6)&& !ti.g
def lq (tb:TypeId→TI):Nat→TypeId→Bool
 | 0,_=>false
 | d+1,T=>(tb T).ok&&(decide ((tb T).k=0)||decide ((tb T).k=1)||decide ((tb T).k=2)||(decide ((tb T).k=5)&&(tb T).fs.all fun p=>lq tb d p.2)||(decide ((tb T).k=4)&&lq tb d (tb T).el))
def dx (tb:TypeId→TI):Nat→TypeId→List Nat
 | 0,_=> []
 | d+1,T=>match (tb T).k with
  | 5=>(tb T).fs.flatMap fun p=>dx tb d p.2
  | 4=>(List.replicate (tb T).len (dx tb d (tb T).el)).flatten
  | k=> [k]
def tiB (P:Program) (tb:TypeId→TI) (T:TypeId) (ti:TI):Bool:=
 match P.info? T,P.underlying T with
 | some i,some d=>decide (i.size=ti.n)&&decide (0<ti.n)&&decide (i.bytes=ti.by')&&decide (ti.by'≤32768)&&(ti.g||decide (ti.n=1))&&yI ti i.zero&&bT P tb T ti d&&(!ti.cmp||(lq tb 9 T&& !(P.eqGuardType P.depth T)&&decide (ti.ck=dx tb 9 T)))
 | _,_=>false
def lr (l:List (TypeId×TI)):TypeId→TI:=fun T=>(ak l T).getD {}
def yJ (P:Program) (l:List (TypeId×TI)):Bool:=l.all fun p=>tiB P (lr l) p.1 (lr l p.1)
structure TOk (P:Program) (tb:TypeId→TI) (T:TypeId):Prop where
 ty: ∀ρ,dS P T (rV ρ (tb T).n (tb T).g)
 one:(tb T).g=false→(tb T).n=1
 pos:0<(tb T).n
 info: ∃i zv,P.info? T=some i∧i.zero=some zv∧i.size=(tb T).n∧i.bytes=(tb T).by'∧ ∀ρ c,(rV ρ (tb T).n (tb T).g).val c zv (tb T).z
 by_:(tb T).by'≤32768
 kind: ∃d,P.underlying T=some d∧bT P tb T (tb T) d=true
 cmp:(tb T).cmp=true→lq tb 9 T=true∧P.eqGuardType P.depth T=false∧(tb T).ck=dx tb 9 T
theorem ls {α:Type} {l:List (Nat×α)} {t:Nat} {v:α} (h:ak l t=some v):(t,v)∈l:=by
 induction l with
 | nil=>simp [ak] at h
 | cons p l ih=>
  obtain ⟨k,x⟩:=p
  simp only [ak] at h
  split at h
  ·rename_i e;subst e;cases h;simp
  ·exact List.mem_cons_of_mem _ (ih h)
theorem FF {c:Cx} {ρ:Ro} {n:Nat} {g:Bool} {d:V} {v:Value} (h:rd ρ c d v) (hs:ie n g v.cells.toList) (hv:v=mkV g v.cells.toList):(rV ρ n g).val c v d:=⟨v.cells.toList,⟨hs,hv▸h⟩,hv⟩
theorem tOk {P:Program} {l:List (TypeId×TI)} (hB:yJ P l=true) {T:TypeId} (h:(lr l T).ok=true):TOk P (lr l) T:=by
 have hmem: ∃ti,(T,ti)∈l:=by
  unfold lr at h
  cases hg:ak l T with
  | none=>rw [hg] at h;cases h
  | some ti=>exact ⟨ti,ls hg⟩
 obtain ⟨ti,hm⟩:=hmem
 have h1:=List.all_eq_true.1 hB _ hm
 simp only at h1
 generalize hti:lr l T=ti at*
 unfold tiB at h1
 cases hi:P.info? T with
 | none=>rw [hi] at h1;cases h1
 | some i=>
  cases hu:P.underlying T with
  | none=>rw [hi,hu] at h1;cases h1
  | some d=>
   rw [hi,hu] at h1
   simp only [Bool.and_eq_true,Bool.or_eq_true,decide_eq_true_eq] at h1
   obtain ⟨⟨⟨⟨⟨⟨⟨h1,h2⟩,h3⟩,h4⟩,h5⟩,h6⟩,h7⟩,h8⟩:=h1
   have hone:ti.g=false→ti.n=1:=fun hg=>by rcases h5 with h5|h5;(rw [hg] at h5;cases h5);exact h5
   refine ⟨fun ρ=>⟨fun w=> ?_,fun w=> ?_⟩,?_,?_,?_,?_,?_,?_⟩<;>rw [hti]
   ·have hru:(underlying T).run P w= .ok d w:=by simp [underlying,hu]
    simp only [isAgg,Sem.run_bind,hru,Result.andThen_ok,rV]
    cases hg:ti.g<;>cases d<;>simp_all [bT]
   ·rw [cb hone]
    simp [sizeOf,typeInfo,hi,h1]
   ·exact hone
   ·exact h2
   ·unfold yI at h6
    cases hz:i.zero with
    | none=>rw [hz] at h6;cases h6
    | some zv=>
     rw [hz] at h6
     simp only [Bool.and_eq_true] at h6
     refine ⟨i,zv,hi,hz,h1,h3,fun ρ c=>FF (uS h6.1) ?_ ?_⟩
     ·have h9:=h6.2
      cases hg:ti.g<;>rw [hg] at h9
      ·refine ⟨?_,fun _=>hone hg,?_⟩
       ·rw [hone hg]
        cases zv<;>simp_all [Value.cells,Value.oneCell']
       ·cases zv<;>simp_all [Value.cells,Value.oneCell']
      ·cases zv with
       | agg cs=>
        simp only [Bool.and_eq_true,decide_eq_true_eq,List.all_eq_true] at h9
        exact ⟨by simpa [Value.cells] using h9.1,(fun hf=>by cases hf),h9.2⟩
       | _=>cases h9
     ·have h9:=h6.2
      cases hg:ti.g<;>rw [hg] at h9
      ·cases zv<;>simp_all [Value.cells,Value.oneCell',mkV]
      ·cases zv<;>simp_all [Value.cells,mkV]
   ·exact h4
   ·exact ⟨d,hu,h7⟩
   ·intro hc
    rcases h8 with h8|h8
    ·rw [hc] at h8;cases h8
    ·exact ⟨h8.1.1,by simpa using h8.1.2,h8.2⟩
end Go.Proofs.YtgealhhkngbkbaaGreatDoor
namespace Go.Proofs.YtgealhhkngbkbaaGreatDoor
open Go.RowKit
structure bn (E:Env):Prop where
 t: ∀T,(E.tb T).ok=true→TOk E.P E.tb T
def Gl (E:Env) (c:Cx):Prop:= ∀g v,E.gv g=some v→dU v∧rd ro0 c v (.pointer (some ⟨g,0,none⟩))
theorem Gl.mono {E:Env} {c c':Cx} (h:Gl E c) (k:c.pub c'):Gl E c':=fun g v hg=>⟨(h g v hg).1,bE k (h g v hg).2⟩
def an (ρ:Ro) (i:Nat):Option Nat:=match ρ i with
 | some (.pointer (some a))=>some a.block
 | some v=>blk v
 | none=>none
def blkOk (c0 c:Cx) (ρ:Ro) (i:Nat):Blk→Prop
 | .var n g d=> ∃b,ρ i=some (.pointer (some ⟨b,0,none⟩))∧c0.mine b∧Var c b (rV ρ n g) d
 | .own E n g z l=> ∃v,ρ i=some v∧Own c E v (rV ro0 n g) l∧(∀k,blk v=some k→c0.mine k)∧(g=false→n=1)∧ ∃a cap,v= .slice a l.length cap∧zOk z a cap
 | .ownI E n g z l=> ∃v,ρ i=some v∧Own c E v (rV ρ n g) l∧(∀k,blk v=some k→c0.mine k)∧(g=false→n=1)∧ ∃a cap,v= .slice a l.length cap∧zOk z a cap
 | .pvar n g d=> ∃b,ρ i=some (.pointer (some ⟨b,0,none⟩))∧fY (rV ro0 n g) c (.pointer (some ⟨b,0,none⟩)) d
 | .pown n g z l=> ∃v,ρ i=some v∧rd ro0 c (.sl z n g l) v
 | .lent k n g d=>ρ i=some (.pointer (some ⟨k,0,none⟩))∧c0.mine k∧Var c k (rV ρ n g) d
 | .kset g k n l=> ∃r,ρ i=some (.map (some r))∧c0.mine r∧eT c r g k n l
def aZ:Blk→Bool
 | .var _ _ _=>true
 | .own _ _ _ _ _=>true
 | .ownI _ _ _ _ _=>true
 | .lent _ _ _ _=>true
 | .kset _ _ _ _=>true
 | _=>false
structure Sim (E:Env) (c0 c:Cx) (ρ:Ro) (S:St) (F:Fm):Prop where
 since:cn c0 c
 gl:Gl E c
 slot: ∀t v,ak S.F t=some v→rd ρ c v (F t)
 heap: ∀i b,ak S.H i=some b→blkOk c0 c ρ i b
 sep: ∀i j bi bj k,i≠j→ak S.H i=some bi→ak S.H j=some bj→aZ bi=true→aZ bj=true→an ρ i=some k→an ρ j≠some k
def uT (ρ:Ro) (n:Nat):Prop:= ∀i,n≤i→ρ i=none
def uU (c0 c:Cx) (ρ:Ro) (nid:Nat) (c':Cx) (ρ':Ro):Eff→Prop
 | .none=>c'=c∧ρ'=ρ
 | .new b=>c.le c'∧(∀i,i≠nid→ρ' i=ρ i)∧blkOk c0 c' ρ' nid b∧(∀k,an ρ' nid=some k→c.w.heap.size≤k)
 | .upd id b=>c.chg (an ρ id) c'∧ρ'=ρ∧blkOk c0 c' ρ id b
 | .app id b=>c.chg (an ρ id) c'∧(∀i,i≠id→ρ' i=ρ i)∧blkOk c0 c' ρ' id b∧(∀k,an ρ' id=some k→an ρ id=some k∨c.w.heap.size≤k)
 | .giv id b=>ρ'=ρ∧blkOk c0 c' ρ id b∧ ∃k,ρ id=some (.pointer (some ⟨k,0,none⟩))∧c'=c.dropv (.slice (some ⟨k,0,none⟩) 0 1)
 | .mrk id b=>ρ'=ρ∧blkOk c0 c' ρ id b∧ ∃k n cap c1,ρ id=some (.slice (some ⟨k,0,none⟩) n (cap+1))∧c.chg (an ρ id) c1∧c'=c1.dropv (.slice (some ⟨k,0,none⟩) 0 1)
def uV (S:St):Eff→Prop
 | .upd id b=> ∃b0,ak S.H id=some b0∧aZ b0=true∧aZ b=true
 | .app id b=> ∃b0,ak S.H id=some b0∧aZ b0=true∧aZ b=true
 | .giv id b=> ∃n g d,ak S.H id=some (.var n g d)∧aZ b=false
 | .mrk id b=> ∃T n g z l,ak S.H id=some (.own T n g z l)∧aZ b=false
 | _=>True
def bC (c0 c:Cx) (ρ:Ro) (S:St) (nid:Nat) (v:V) (e:Eff) (u:Value) (w':World):Prop:= ∃c' ρ',c'.w=w'∧uV S e∧uU c0 c ρ nid c' ρ' e∧rd ρ' c' v u
section
variable {E:Env} {c0 c:Cx} {ρ:Ro} {S:St} {F:Fm} {nid:Nat}
theorem bD {v:V} {u:Value} (h:rd ρ c v u):bC c0 c ρ S nid v .none u c.w:=⟨c,ρ,rfl,trivial,⟨rfl,rfl⟩,h⟩
theorem oE {ρ ρ':Ro} {n:Nat} (h0:ρ n=none) (h: ∀i,i≠n→ρ' i=ρ i):ii ρ ρ':=by
 intro i v hi
 by_cases e:i=n
 ·subst e;rw [h0] at hi;cases hi
 ·rw [h i e];exact hi
theorem cP {ρ ρ':Ro} {i:Nat} (h:ρ' i=ρ i):an ρ' i=an ρ i:=by unfold an;rw [h]
theorem yK {α β:Type} {r:Rep α} {s:Rep β} {f:α→β} (h: ∀{cs d},r.is c cs d→s.is c cs (f d)): ∀{l:List α} {cs:List Value},bp r c cs l→bp s c cs (l.map f)
 | [],cs,ha=>by simpa [bp] using ha
 | d::l,cs,ha=>by
  simp only [bp,List.map_cons] at ha⊢
  obtain ⟨c1,c2,e,h1,h2⟩:=ha
  exact ⟨c1,c2,e,h h1,yK h h2⟩
theorem Own.rep {E:TypeId} {v:Value} {r s:Rep V} {f:V→V} {l:List V} (h: ∀{cs d},r.is c cs d→s.is c cs (f d)) (hn:s.n=r.n) (ho:Own c E v r l):Own c E v s (l.map f):=by
 refine ⟨by simpa using ho.1,?_⟩
 rcases ho.2 with ⟨a,h1,rfl⟩|⟨g,cap,cur,e,h1,h2,h3,h4,h5,h6⟩
 ·exact .inl ⟨a,h1,rfl⟩
 ·exact .inr ⟨g,cap,cur,by simpa using e,h1,h2,by simpa using h3,h4,by rw [hn];exact h5,by rw [hn,List.length_map];exact yK h h6⟩
theorem Own.ro {E:TypeId} {v:Value} {ρ ρ':Ro} {n:Nat} {g:Bool} {l:List V} (h: ∀{d:V} {u:Value},rd ρ c d u→rd ρ' c d u) (ho:Own c E v (rV ρ n g) l):Own c E v (rV ρ' n g) l:=by
 have:=Own.rep (f:=id) (r:=rV ρ n g) (s:=rV ρ' n g) (fun {cs d} (h1:ie n g cs∧rd ρ c d (mkV g cs))=>⟨h1.1,h h1.2⟩) rfl ho
 simpa using this
theorem mM {ρ ρ':Ro} (k:ii ρ ρ') {i:Nat} {b:Blk} (h:blkOk c0 c ρ i b):blkOk c0 c ρ' i b:=by
 cases b with
 | var n g d=>
  obtain ⟨b,h1,h2,h3,T,cs,h4,h5,h6⟩:=h
  exact ⟨b,k _ _ h1,h2,h3,T,cs,h4,h5,dl k h6⟩
 | own E n g z l=>
  obtain ⟨v,h1,h2⟩:=h
  exact ⟨v,k _ _ h1,h2⟩
 | ownI E n g z l=>
  obtain ⟨v,h1,h2,h3⟩:=h
  exact ⟨v,k _ _ h1,h2.ro (dl k),h3⟩
 | pvar n g d=>
  obtain ⟨b,h1,h2⟩:=h
  exact ⟨b,k _ _ h1,h2⟩
 | pown n g z l=>
  obtain ⟨v,h1,h2⟩:=h
  exact ⟨v,k _ _ h1,h2⟩
 | lent k' n g d=>
  obtain ⟨h1,h2,h3,T,cs,h4,h5,h6⟩:=h
  exact ⟨k _ _ h1,h2,h3,T,cs,h4,h5,dl k h6⟩
 | kset g k' n l=>
  obtain ⟨r,h1,h2⟩:=h
  exact ⟨r,k _ _ h1,h2⟩
theorem ij {c':Cx} {o:Option Nat} (k:c.chg o c') {i:Nat} {b:Blk} (hne:aZ b=true→ ∀x,an ρ i=some x→o≠some x) (h:blkOk c0 c ρ i b):blkOk c0 c' ρ i b:=by
 cases b with
 | var n g d=>
  obtain ⟨b,h1,h2,h3⟩:=h
  exact ⟨b,h1,h2,k.var (hne rfl b (by simp [an,h1])) h3⟩
 | own E n g z l=>
  obtain ⟨v,h1,h2,h3⟩:=h
  refine ⟨v,h1,h2.chg k ?_,h3⟩
  intro x hx
  refine hne rfl x ?_
  unfold an
  rw [h1]
  cases v<;>simp_all [blk]
 | ownI E n g z l=>
  obtain ⟨v,h1,h2,h3⟩:=h
  refine ⟨v,h1,h2.chg k ?_,h3⟩
  intro x hx
  refine hne rfl x ?_
  unfold an
  rw [h1]
  cases v<;>simp_all [blk]
 | pvar n g d=>
  obtain ⟨b,h1,h2⟩:=h
  exact ⟨b,h1,(jO _).mono h2 k.pub⟩
 | pown n g z l=>
  obtain ⟨v,h1,h2⟩:=h
  exact ⟨v,h1,bE k.pub h2⟩
 | lent k' n g d=>
  obtain ⟨h1,h2,h3⟩:=h
  exact ⟨h1,h2,k.var (hne rfl k' (by simp [an,h1])) h3⟩
 | kset g k' n l=>
  obtain ⟨r,h1,h2,h3⟩:=h
  exact ⟨r,h1,h2,h3.chg k (hne rfl r (by simp [an,h1,blk]))⟩
theorem fk {i:Nat} {b:Blk} (hp:aZ b=true) (h:blkOk c0 c ρ i b): ∀k,an ρ i=some k→k<c.w.heap.size:=by
 intro k hk
 cases b with
 | var n g d=>
  obtain ⟨b,h1,h2,h3⟩:=h
  simp only [an,h1,Option.some.injEq] at hk
  subst hk;exact h3.lt
 | own E n g z l=>
  obtain ⟨v,h1,h2,h3⟩:=h
  refine h2.lt k ?_
  unfold an at hk
  rw [h1] at hk
  rcases h2.2 with ⟨a,rfl,_⟩|⟨g',cap,cur,rfl,_⟩
  ·exact hk
  ·exact hk
 | ownI E n g z l=>
  obtain ⟨v,h1,h2,h3⟩:=h
  refine h2.lt k ?_
  unfold an at hk
  rw [h1] at hk
  rcases h2.2 with ⟨a,rfl,_⟩|⟨g',cap,cur,rfl,_⟩
  ·exact hk
  ·exact hk
 | pvar n g d=>cases hp
 | pown n g z l=>cases hp
 | lent k' n g d=>
  obtain ⟨h1,h2,h3⟩:=h
  simp only [an,h1,Option.some.injEq] at hk
  subst hk;exact h3.lt
 | kset g k' n l=>
  obtain ⟨r,h1,h2,h3⟩:=h
  simp only [an,h1,blk,Option.some.injEq] at hk
  subst hk;exact c.ok _ h3.1
mutual
theorem lu {ρ ρ':Ro} {id:Nat} (k: ∀i,i≠id→ρ' i=ρ i): ∀{d:V} {v:Value},rd ρ c d v→rd ρ' c (eD id d) v
 | .int _ _,_,h=>h
 | .bool _,_,h=>h
 | .ifc _,_,h=>h
 | .str _,_,h=>h
 | .agg l,v,h=>by
  simp only [rd,eD] at h⊢
  obtain ⟨cs,e,h⟩:=h
  exact ⟨cs,e,yL k h⟩
 | .sl z n g l,v,h=>h
 | .pp n g d,v,h=>h
 | .own i,v,h=>by
  simp only [eD]
  split
  ·trivial
  ·rename_i hi
   exact ⟨(k _ hi).trans h.1,h.2⟩
 | .ptr i o,v,h=>by
  simp only [eD]
  split
  ·trivial
  ·rename_i hi
   simp only [rd] at h⊢
   obtain ⟨b,h1,h2⟩:=h
   exact ⟨b,(k _ hi).trans h1,h2⟩
 | .optr i n j o,v,h=>by
  simp only [eD]
  split
  ·trivial
  ·rename_i hi
   simp only [rd] at h⊢
   obtain ⟨u,h1,h2⟩:=h
   exact ⟨u,(k _ hi).trans h1,h2⟩
 | .osub i n j o,v,h=>by
  simp only [eD]
  split
  ·trivial
  ·rename_i hi
   simp only [rd] at h⊢
   obtain ⟨u,h1,h2⟩:=h
   exact ⟨u,(k _ hi).trans h1,h2⟩
 | .tup l,v,h=>by
  simp only [rd,eD] at h⊢
  obtain ⟨cs,e,h⟩:=h
  exact ⟨cs,e,uW k h⟩
 | .fn f l,v,h=>by
  simp only [rd,eD] at h⊢
  obtain ⟨cs,e,h⟩:=h
  exact ⟨cs,e,uW k h⟩
 | .opq p,v,h=>h
 | .un,_,_=>trivial
theorem yL {ρ ρ':Ro} {id:Nat} (k: ∀i,i≠id→ρ' i=ρ i): ∀{l:List V} {cs:List Value},rdC ρ c l cs→rdC ρ' c (ga id l) cs
 | [],_,h=>h
 | d::l,cs,h=>by
  simp only [rdC,ga] at h⊢
  obtain ⟨u,c2,e,h1,h2,h3⟩:=h
  exact ⟨u,c2,e,h1,lu k h2,yL k h3⟩
theorem uW {ρ ρ':Ro} {id:Nat} (k: ∀i,i≠id→ρ' i=ρ i): ∀{l:List V} {cs:List Value},rdT ρ c l cs→rdT ρ' c (ga id l) cs
 | [],_,h=>h
 | d::l,cs,h=>by
  simp only [rdT,ga] at h⊢
  obtain ⟨u,c2,e,h2,h3⟩:=h
  exact ⟨u,c2,e,lu k h2,uW k h3⟩
end
theorem yM {id:Nat}: ∀{l:List V},ga id l=l.map (eD id)
 | []=>rfl
 | d::l=>by simp only [ga,List.map_cons,yM]
theorem uX {id:Nat}: ∀{l:List (Nat×V)} {t:Nat},ak (mL id l) t=(ak l t).map (eD id)
 | [],_=>rfl
 | (k,v)::l,t=>by
  simp only [mL,ak]
  split
  ·rfl
  ·exact uX
theorem rh {id:Nat}: ∀{l:List (Nat×Blk)} {t:Nat},ak (ln id l) t=(ak l t).map (lm id)
 | [],_=>rfl
 | (k,v)::l,t=>by
  simp only [ln,ak]
  split
  ·rfl
  ·exact rh
theorem c8 {α:Type}: ∀{l:List (Nat×α)} {i j:Nat} {x:α},ak (dH l i x) j=if i=j then some x else ak l j
 | [],i,j,x=>by simp only [dH,ak]
 | (k,v)::l,i,j,x=>by
  simp only [dH]
  by_cases h:k=i
  ·subst h
   rw [if_pos rfl]
   simp only [ak]
   split<;>rfl
  ·rw [if_neg h]
   simp only [ak,c8]
   by_cases h1:k=j
   ·subst h1
    simp [Ne.symm h]
   ·simp [h1]
theorem yN {ρ ρ':Ro} {id i:Nat} {b:Blk} (k: ∀i,i≠id→ρ' i=ρ i) (hi:i≠id) (h:blkOk c0 c ρ i b):blkOk c0 c ρ' i (lm id b):=by
 cases b with
 | var n g d=>
  obtain ⟨b,h1,h2,h3,T,cs,h4,h5,h6⟩:=h
  exact ⟨b,(k _ hi).trans h1,h2,h3,T,cs,h4,h5,lu k h6⟩
 | own E n g z l=>
  obtain ⟨v,h1,h2⟩:=h
  exact ⟨v,(k _ hi).trans h1,h2⟩
 | ownI E n g z l=>
  obtain ⟨v,h1,h2,h3,h4,h5⟩:=h
  simp only [lm,blkOk,yM]
  exact ⟨v,(k _ hi).trans h1,Own.rep (f:=eD id) (r:=rV ρ n g) (s:=rV ρ' n g) (fun {cs d} (h1:ie n g cs∧rd ρ c d (mkV g cs))=>⟨h1.1,lu k h1.2⟩) rfl h2,h3,h4,by simpa using h5⟩
 | pvar n g d=>
  obtain ⟨b,h1,h2⟩:=h
  exact ⟨b,(k _ hi).trans h1,h2⟩
 | pown n g z l=>
  obtain ⟨v,h1,h2⟩:=h
  exact ⟨v,(k _ hi).trans h1,h2⟩
 | lent k' n g d=>
  obtain ⟨h1,h2,h3,T,cs,h4,h5,h6⟩:=h
  exact ⟨(k _ hi).trans h1,h2,h3,T,cs,h4,h5,lu k h6⟩
 | kset g k' n l=>
  obtain ⟨r,h1,h2⟩:=h
  exact ⟨r,(k _ hi).trans h1,h2⟩
theorem il (h:Sim E c0 c ρ S F) {i:Nat} {b:Blk} (hb:ak S.H i=some b) (hp:aZ b=true): ∀k,an ρ i=some k→c0.mine k:=by
 intro k hk
 have h1:=h.heap i b hb
 cases b with
 | var n g d=>
  obtain ⟨b,h1,h2,h3⟩:=h1
  simp only [an,h1,Option.some.injEq] at hk
  subst hk;exact h2
 | own E n g z l=>
  obtain ⟨v,h1,h2,h3,_,a,cap,e,_⟩:=h1
  refine h3 k ?_
  unfold an at hk
  rw [h1] at hk
  subst e
  exact hk
 | ownI E n g z l=>
  obtain ⟨v,h1,h2,h3,_,a,cap,e,_⟩:=h1
  refine h3 k ?_
  unfold an at hk
  rw [h1] at hk
  subst e
  exact hk
 | pvar n g d=>cases hp
 | pown n g z l=>cases hp
 | lent k' n g d=>
  obtain ⟨h1,h2,h3⟩:=h1
  simp only [an,h1,Option.some.injEq] at hk
  subst hk;exact h2
 | kset g k' n l=>
  obtain ⟨r,h1,h2,h3⟩:=h1
  simp only [an,h1,blk,Option.some.injEq] at hk
  subst hk;exact h2
theorem mN {id:Nat} {b:Blk}:aZ (lm id b)=aZ b:=by cases b<;>rfl
theorem FG (h:Sim E c0 c ρ S F) (hf:ρ nid=none) {e:Eff} {c':Cx} {ρ':Ro} (hp:uV S e) (hr:uU c0 c ρ nid c' ρ' e):Sim E c0 c' ρ' (S.eff nid e) F∧c.pub c'∧ ∀i,nid≠i→ρ i=none→ρ' i=none:=by
 cases e with
 | none=>
  obtain ⟨rfl,rfl⟩:=hr
  exact ⟨h,Cx.pub.refl _,fun _ _ hi=>hi⟩
 | new b=>
  obtain ⟨h1,h2,h3,h4⟩:=hr
  have hro:=oE hf h2
  refine ⟨⟨h.since.le h1,h.gl.mono h1.pub,fun t v ht=>dl hro (bE h1.pub (h.slot t v ht)),?_,?_⟩,h1.pub,fun i hi hn=>by rw [h2 i (Ne.symm hi)];exact hn⟩
  ·intro i b' hb
   simp only [St.eff,ak] at hb
   split at hb
   ·rename_i e;subst e;cases hb;exact h3
   ·exact mM hro (ij h1.chg (fun _ _ _ hx=>by cases hx) (h.heap i b' hb))
  ·intro i j bi bj k hij hbi hbj hpi hpj hk hk'
   simp only [St.eff,ak] at hbi hbj
   split at hbi<;>split at hbj
   ·omega
   ·rename_i e1 e2
    subst e1
    have h5:=h4 k hk
    rw [cP (h2 j (Ne.symm e2))] at hk'
    have:=fk hpj (h.heap j bj hbj) k hk'
    omega
   ·rename_i e1 e2
    subst e2
    have h5:=h4 k hk'
    rw [cP (h2 i (Ne.symm e1))] at hk
    have:=fk hpi (h.heap i bi hbi) k hk
    omega
   ·rename_i e1 e2
    rw [cP (h2 i (Ne.symm e1))] at hk
    rw [cP (h2 j (Ne.symm e2))] at hk'
    exact h.sep i j bi bj k hij hbi hbj hpi hpj hk hk'
 | upd id b=>
  obtain ⟨h1,rfl,h3⟩:=hr
  obtain ⟨b0,hb0,hp0,hpb⟩:=hp
  refine ⟨⟨h.since.chg h1 (il h hb0 hp0),h.gl.mono h1.pub,fun t v ht=>bE h1.pub (h.slot t v ht),?_,?_⟩,h1.pub,fun _ _ hn=>hn⟩
  ·intro i b' hb
   simp only [St.eff,c8] at hb
   split at hb
   ·rename_i e;subst e;cases hb;exact h3
   ·rename_i hi
    refine ij h1 (fun hpi x hx hx'=> ?_) (h.heap i b' hb)
    exact h.sep id i b0 b' x hi hb0 hb hp0 hpi hx' hx
  ·intro i j bi bj k hij hbi hbj hpi hpj hk hk'
   simp only [St.eff,c8] at hbi hbj
   have key: ∀x bx,(if id=x then some b else ak S.H x)=some bx→aZ bx=true→ ∃by',ak S.H x=some by'∧aZ by'=true:=by
    intro x bx hx hpx
    split at hx
    ·rename_i e;subst e;exact ⟨b0,hb0,hp0⟩
    ·exact ⟨bx,hx,hpx⟩
   obtain ⟨bi',hbi',hpi'⟩:=key i bi hbi hpi
   obtain ⟨bj',hbj',hpj'⟩:=key j bj hbj hpj
   exact h.sep i j bi' bj' k hij hbi' hbj' hpi' hpj' hk hk'
 | giv id b=>
  obtain ⟨rfl,h3,kk,hv,rfl⟩:=hr
  obtain ⟨n,g,d,hb0,hpb⟩:=hp
  obtain ⟨b',hv',hge,hvar⟩:=h.heap _ _ hb0
  rw [hv] at hv'
  cases hv'
  have hbv:blk (.slice (some ⟨kk,0,none⟩) 0 1)=some kk:=rfl
  have hpd:=c.pub_dropv (.slice (some ⟨kk,0,none⟩) 0 1)
  have hbo:an ρ' id=some kk:=by unfold an;rw [hv]
  have hsep: ∀j b',id≠j→ak S.H j=some b'→aZ b'=true→ ∀x,an ρ' j=some x→blk (.slice (some ⟨kk,0,none⟩) 0 1)≠some x:=by
   intro j b' hij hb hp x hx hx'
   exact h.sep id j _ b' x hij hb0 hb rfl hp (hbo▸hx') hx
  refine ⟨⟨h.since.dropv (fun k hk=>by rw [hbv] at hk;cases hk;exact hge),h.gl.mono hpd,fun t x ht=>bE hpd (h.slot t x ht),?_,?_⟩,hpd,fun _ _ hn=>hn⟩
  ·intro j b' hb
   simp only [St.eff,c8] at hb
   split at hb
   ·rename_i e;subst e;cases hb;exact h3
   ·rename_i hij
    have hb0:=h.heap _ _ hb
    have hsp:=hsep j b' hij hb
    cases b' with
    | var n' g' d=>
     obtain ⟨b',h1,h2,h3⟩:=hb0
     exact ⟨b',h1,h2,Cx.dropv_var h3 (hsp rfl b' (by simp [an,h1]))⟩
    | own E' n' g' z' l'=>
     obtain ⟨v',h1,h2,h3,h4,a',cap',e',h5⟩:=hb0
     exact ⟨v',h1,Cx.dropv_own h2 (fun x hx=>hsp rfl x (by unfold an;rw [h1,e'];rw [e'] at hx;exact hx)),h3,h4,a',cap',e',h5⟩
    | ownI E' n' g' z' l'=>
     obtain ⟨v',h1,h2,h3,h4,a',cap',e',h5⟩:=hb0
     exact ⟨v',h1,Cx.dropv_own h2 (fun x hx=>hsp rfl x (by unfold an;rw [h1,e'];rw [e'] at hx;exact hx)),h3,h4,a',cap',e',h5⟩
    | pvar n' g' d=>
     obtain ⟨b',h1,h2⟩:=hb0
     exact ⟨b',h1,(jO _).mono h2 hpd⟩
    | pown n' g' z' l'=>
     obtain ⟨v',h1,h2⟩:=hb0
     exact ⟨v',h1,bE hpd h2⟩
    | lent k' n' g' d=>
     obtain ⟨h1,h2,h3⟩:=hb0
     exact ⟨h1,h2,Cx.dropv_var h3 (hsp rfl k' (by simp [an,h1]))⟩
    | kset g' k' n' l'=>
     obtain ⟨r,h1,h2,h3⟩:=hb0
     exact ⟨r,h1,h2,Cx.dropv_set h3 (hsp rfl r (by simp [an,h1,blk]))⟩
  ·intro a b1 ba bb x hab ha hb hpa hpb2 hx
   simp only [St.eff,c8] at ha hb
   split at ha
   ·cases ha;rw [hpb] at hpa;cases hpa
   ·split at hb
    ·cases hb;rw [hpb] at hpb2;cases hpb2
    ·exact h.sep a b1 ba bb x hab ha hb hpa hpb2 hx
 | mrk id b=>
  obtain ⟨rfl,h3,kk,n9,cap9,c1,hv,hch,rfl⟩:=hr
  obtain ⟨T9,n,g,z9,d,hb0,hpb⟩:=hp
  have hge9:=il h hb0 rfl
  have hbv:blk (.slice (some ⟨kk,0,none⟩) 0 1)=some kk:=rfl
  have hbo:an ρ' id=some kk:=by unfold an;rw [hv];rfl
  have hpd:=hch.pub.trans (c1.pub_dropv (.slice (some ⟨kk,0,none⟩) 0 1))
  have hpd1:=c1.pub_dropv (.slice (some ⟨kk,0,none⟩) 0 1)
  have hsep: ∀j b',id≠j→ak S.H j=some b'→aZ b'=true→ ∀x,an ρ' j=some x→blk (.slice (some ⟨kk,0,none⟩) 0 1)≠some x:=by
   intro j b' hij hb hp x hx hx'
   exact h.sep id j _ b' x hij hb0 hb rfl hp (hbo▸hx') hx
  refine ⟨⟨(h.since.chg hch hge9).dropv (fun k hk=>by rw [hbv] at hk;cases hk;exact hge9 _ hbo),h.gl.mono hpd,fun t x ht=>bE hpd (h.slot t x ht),?_,?_⟩,hpd,fun _ _ hn=>hn⟩
  ·intro j b' hb
   simp only [St.eff,c8] at hb
   split at hb
   ·rename_i e;subst e;cases hb;exact h3
   ·rename_i hij
    have hb0:=ij hch (fun hpi x hx hx'=>h.sep id j _ b' x hij hb0 hb rfl hpi hx' hx) (h.heap _ _ hb)
    have hsp:=hsep j b' hij hb
    cases b' with
    | var n' g' d=>
     obtain ⟨b',h1,h2,h3⟩:=hb0
     exact ⟨b',h1,h2,Cx.dropv_var h3 (hsp rfl b' (by simp [an,h1]))⟩
    | own E' n' g' z' l'=>
     obtain ⟨v',h1,h2,h3,h4,a',cap',e',h5⟩:=hb0
     exact ⟨v',h1,Cx.dropv_own h2 (fun x hx=>hsp rfl x (by unfold an;rw [h1,e'];rw [e'] at hx;exact hx)),h3,h4,a',cap',e',h5⟩
    | ownI E' n' g' z' l'=>
     obtain ⟨v',h1,h2,h3,h4,a',cap',e',h5⟩:=hb0
     exact ⟨v',h1,Cx.dropv_own h2 (fun x hx=>hsp rfl x (by unfold an;rw [h1,e'];rw [e'] at hx;exact hx)),h3,h4,a',cap',e',h5⟩
    | pvar n' g' d=>
     obtain ⟨b',h1,h2⟩:=hb0
     exact ⟨b',h1,(jO _).mono h2 hpd1⟩
    | pown n' g' z' l'=>
     obtain ⟨v',h1,h2⟩:=hb0
     exact ⟨v',h1,bE hpd1 h2⟩
    | lent k' n' g' d=>
     obtain ⟨h1,h2,h3⟩:=hb0
     exact ⟨h1,h2,Cx.dropv_var h3 (hsp rfl k' (by simp [an,h1]))⟩
    | kset g' k' n' l'=>
     obtain ⟨r,h1,h2,h3⟩:=hb0
     exact ⟨r,h1,h2,Cx.dropv_set h3 (hsp rfl r (by simp [an,h1,blk]))⟩
  ·intro a b1 ba bb x hab ha hb hpa hpb2 hx
   simp only [St.eff,c8] at ha hb
   split at ha
   ·cases ha;rw [hpb] at hpa;cases hpa
   ·split at hb
    ·cases hb;rw [hpb] at hpb2;cases hpb2
    ·exact h.sep a b1 ba bb x hab ha hb hpa hpb2 hx
 | app id b=>
  obtain ⟨h1,h2,h3,h4⟩:=hr
  obtain ⟨b0,hb0,hp0,hpb⟩:=hp
  have hid:id≠nid:=by
   rintro rfl
   have:=h.heap _ _ hb0
   cases b0 with
   | var n g d=>obtain ⟨b,h5,_⟩:=this;rw [hf] at h5;cases h5
   | own E n g z l=>obtain ⟨b,h5,_⟩:=this;rw [hf] at h5;cases h5
   | ownI E n g z l=>obtain ⟨b,h5,_⟩:=this;rw [hf] at h5;cases h5
   | pvar n g d=>cases hp0
   | pown n g z l=>cases hp0
   | lent k' n g d=>obtain ⟨h5,_⟩:=this;rw [hf] at h5;cases h5
   | kset g k' n l=>obtain ⟨b,h5,_⟩:=this;rw [hf] at h5;cases h5
  refine ⟨⟨h.since.chg h1 (il h hb0 hp0),h.gl.mono h1.pub,?_,?_,?_⟩,h1.pub,?_⟩
  ·intro t v ht
   simp only [St.eff,uX,Option.map_eq_some_iff] at ht
   obtain ⟨v0,hv0,rfl⟩:=ht
   exact lu h2 (bE h1.pub (h.slot t v0 hv0))
  ·intro i b' hb
   simp only [St.eff,c8,rh] at hb
   split at hb
   ·rename_i e;subst e;cases hb;exact h3
   ·rename_i hi
    simp only [Option.map_eq_some_iff] at hb
    obtain ⟨b1,hb1,rfl⟩:=hb
    refine yN h2 (Ne.symm hi) (ij h1 (fun hpi x hx hx'=> ?_) (h.heap i b1 hb1))
    exact h.sep id i b0 b1 x hi hb0 hb1 hp0 hpi hx' hx
  ·intro i j bi bj k hij hbi hbj hpi hpj hk hk'
   simp only [St.eff,c8,rh] at hbi hbj
   split at hbi<;>split at hbj
   ·omega
   ·rename_i e1 e2
    subst e1
    simp only [Option.map_eq_some_iff] at hbj
    obtain ⟨b1,hb1,rfl⟩:=hbj
    rw [mN] at hpj
    rw [cP (h2 j (Ne.symm e2))] at hk'
    rcases h4 k hk with h5|h5
    ·exact h.sep id j b0 b1 k hij hb0 hb1 hp0 hpj h5 hk'
    ·have:=fk hpj (h.heap j b1 hb1) k hk'
     omega
   ·rename_i e1 e2
    subst e2
    simp only [Option.map_eq_some_iff] at hbi
    obtain ⟨b1,hb1,rfl⟩:=hbi
    rw [mN] at hpi
    rw [cP (h2 i (Ne.symm e1))] at hk
    rcases h4 k hk' with h5|h5
    ·exact h.sep i id b1 b0 k hij hb1 hb0 hpi hp0 hk h5
    ·have:=fk hpi (h.heap i b1 hb1) k hk
     omega
   ·rename_i e1 e2
    simp only [Option.map_eq_some_iff] at hbi hbj
    obtain ⟨b1,hb1,rfl⟩:=hbi
    obtain ⟨b2,hb2,rfl⟩:=hbj
    rw [mN] at hpi hpj
    rw [cP (h2 i (Ne.symm e1))] at hk
    rw [cP (h2 j (Ne.symm e2))] at hk'
    exact h.sep i j b1 b2 k hij hb1 hb2 hpi hpj hk hk'
  ·intro i hi hn
   by_cases e:i=id
   ·subst e
    exfalso
    have:=h.heap _ _ hb0
    cases b0 with
    | var n g d=>obtain ⟨b,h5,_⟩:=this;rw [hn] at h5;cases h5
    | own E n g z l=>obtain ⟨b,h5,_⟩:=this;rw [hn] at h5;cases h5
    | ownI E n g z l=>obtain ⟨b,h5,_⟩:=this;rw [hn] at h5;cases h5
    | pvar n g d=>cases hp0
    | pown n g z l=>cases hp0
    | lent k' n g d=>obtain ⟨h5,_⟩:=this;rw [hn] at h5;cases h5
    | kset g k' n l=>obtain ⟨b,h5,_⟩:=this;rw [hn] at h5;cases h5
   ·rw [h2 i e];exact hn
theorem FH (h:Sim E c0 c ρ S F) {d:Option Nat} {v:V} {u:Value} (hv:rd ρ c v u):Sim E c0 c ρ (S.put d v) (ci F d u):=by
 cases d with
 | none=>exact h
 | some t=>
  refine ⟨h.since,h.gl,?_,h.heap,h.sep⟩
  intro t' v' ht
  simp only [St.put,ak] at ht
  split at ht
  ·rename_i e;subst e;cases ht
   simpa [ci,tI] using hv
  ·rename_i hne
   simp only [ci]
   rw [nZ _ _ (Ne.symm hne)]
   exact h.slot t' v' ht
end
end Go.Proofs.YtgealhhkngbkbaaGreatDoor
namespace Go.Proofs.YtgealhhkngbkbaaGreatDoor
open Go.RowKit
section
variable {E:Env} {c0 c:Cx} {ρ:Ro} {S:St} {F:Fm} {nid:Nat}
theorem dJ {b:Bool} {r:Res} {x:Prop×V×Eff} (h:rB b r=some x):b=true∧r=some x:=by
 cases b
 ·cases h
 ·exact ⟨rfl,h⟩
theorem aX {α:Type} {p:Prop} [Decidable p] {r:Option α} {x:α} (h:(if p then r else none)=some x):p∧r=some x:=by
 split at h
 ·rename_i hp;exact ⟨hp,h⟩
 ·cases h
theorem uY:gJ true .nilIface:=by simp [gJ]
theorem ri {v:Value} {d:V} (h:qG v=some d):rd ρ c d v∧dU d:=by
 unfold qG at h
 split at h
 ·unfold qF at h
  split at h
  ·rename_i hb;cases h;exact ⟨⟨rfl,yG hb⟩,trivial⟩
  ·cases h
 ·cases h;exact ⟨rfl,trivial⟩
 ·obtain ⟨h1,h2⟩:=aX h
  cases h2
  refine ⟨⟨?_,h1⟩,trivial⟩
  simp
 ·cases h
  refine ⟨?_,trivial⟩
  simp only [rd]
  exact ⟨none,0,rfl,⟨Nat.zero_le _,Nat.zero_le _⟩,⟨rfl,rfl⟩,.inl trivial⟩
 ·cases h;exact ⟨uY,trivial⟩
 ·cases h
theorem aR (h:Sim E c0 c ρ S F) {x:Operand} {d:V} (hx:S.ev E.gv x=some d):rd ρ c d (ev F x):=by
 cases x with
 | tmp t=>exact h.slot t d hx
 | const v=>exact (ri hx).1
 | global g=>exact dl (fun i v hi=>by cases hi) (h.gl g d hx).2
 | func f=>
  simp only [St.ev,Option.some.injEq] at hx
  subst hx
  simp only [rd,ev]
  exact ⟨[],rfl,rfl⟩
theorem FI {T:TypeId}:rd ρ c (qH E.tb T) (.slice none 0 0):=by
 simp only [qH,rd]
 exact ⟨none,0,rfl,⟨Nat.zero_le _,Nat.zero_le _⟩,⟨rfl,rfl⟩,.inl trivial⟩
theorem eU (h:Sim E c0 c ρ S F) {T:TypeId} {x:Operand} {d:V} (hx:S.evT E T x=some d):rd ρ c d (ev F x):=by
 cases x with
 | tmp t=>exact h.slot t d hx
 | const v=>
  simp only [St.evT] at hx
  unfold ui at hx
  split at hx
  ·exact (ri (v:= .int _ _) hx).1
  ·exact (ri (v:= .bool _) hx).1
  ·exact (ri (v:= .string _) hx).1
  ·cases hx;exact FI
  ·cases hx;exact uY
  ·unfold uh at hx
   split at hx
   ·rename_i hz;cases hx;exact uS hz
   ·cases hx
  ·cases hx
 | global g=>exact aR h (x:= .global g) hx
 | func f=>exact aR h (x:= .func f) hx
mutual
theorem j4 {ρ':Ro}: ∀{d:V} {v:Value},dU d→rd ρ c d v→rd ρ' c d v
 | .int _ _,_,_,h=>h
 | .bool _,_,_,h=>h
 | .ifc _,_,_,h=>h
 | .str _,_,_,h=>h
 | .agg l,v,hp,h=>by
  simp only [rd,dU] at h hp⊢
  obtain ⟨cs,e,h⟩:=h
  exact ⟨cs,e,rk hp h⟩
 | .sl z n g l,v,_,h=>h
 | .pp n g d,v,_,h=>h
 | .own _,_,hp,_=>by simp only [dU] at hp
 | .ptr _ _,_,hp,_=>by simp only [dU] at hp
 | .optr _ _ _ _,_,hp,_=>by simp only [dU] at hp
 | .osub _ _ _ _,_,hp,_=>by simp only [dU] at hp
 | .tup l,v,hp,h=>by
  simp only [rd,dU] at h hp⊢
  obtain ⟨cs,e,h⟩:=h
  exact ⟨cs,e,lv hp h⟩
 | .fn f l,v,hp,h=>by
  simp only [rd,dU] at h hp⊢
  obtain ⟨cs,e,h⟩:=h
  exact ⟨cs,e,lv hp h⟩
 | .opq p,v,_,h=>h
 | .un,_,_,_=>trivial
theorem rk {ρ':Ro}: ∀{l:List V} {cs:List Value},dI l→rdC ρ c l cs→rdC ρ' c l cs
 | [],_,_,h=>h
 | d::l,cs,hp,h=>by
  simp only [rdC,dI] at h hp⊢
  obtain ⟨u,c2,e,h1,h2,h3⟩:=h
  exact ⟨u,c2,e,h1,j4 hp.1 h2,rk hp.2 h3⟩
theorem lv {ρ':Ro}: ∀{l:List V} {cs:List Value},dI l→rdT ρ c l cs→rdT ρ' c l cs
 | [],_,_,h=>h
 | d::l,cs,hp,h=>by
  simp only [rdT,dI] at h hp⊢
  obtain ⟨u,c2,e,h2,h3⟩:=h
  exact ⟨u,c2,e,j4 hp.1 h2,lv hp.2 h3⟩
end
theorem fJ {n:Nat} {g:Bool} {d:V} {v:Value} (h1:g=false→n=1) (hf:eo n g d) (h:rd ρ c d v):(rV ρ n g).val c v d:=by
 cases g with
 | true=>
  cases d<;>simp only [eo] at hf
  rename_i l
  have h0:=h
  simp only [rd] at h
  obtain ⟨cs,rfl,h⟩:=h
  refine ⟨cs,⟨⟨(ig h).trans hf,(fun e=>by cases e),ot h⟩,h0⟩,rfl⟩
 | false=>
  have ho:v.oneCell'=true:=by
   cases d<;>simp only [eo] at hf<;>simp only [rd] at h
   ·rw [h.1];rfl
   ·rw [h];rfl
   ·unfold gJ at h;split at h
    ·rw [h];rfl
    ·obtain ⟨_,_,e⟩:=h;rw [e];rfl
   ·rw [h.1];rfl
   ·obtain ⟨a,cap,e,_⟩:=h;rw [e];rfl
   ·obtain ⟨b,o,cs,e,_⟩:=h;rw [e];rfl
   ·exact h.2
   ·obtain ⟨b,_,e⟩:=h;rw [e];rfl
   ·obtain ⟨u,_,g,len,cap,_,e⟩:=h;rw [e];rfl
   ·obtain ⟨u,_,⟨a,len,cap,_,_,_,e⟩|⟨b,_,_,_,e⟩⟩:=h<;>(rw [e];rfl)
   ·obtain ⟨cs,e,_⟩:=h;rw [e];rfl
   ·exact h.2.1
  exact ⟨[v],⟨⟨(h1 rfl).symm,h1,by simpa using ho⟩,h⟩,rfl⟩
theorem fK {n:Nat} {g:Bool} {d:V} {v:Value} (h:(rV ρ n g).val c v d):rd ρ c d v:=by
 obtain ⟨cs,h1,rfl⟩:=h
 exact h1.2
theorem mO {n:Nat} {g:Bool} {d:V} {v:Value} (h:(rV ro0 n g).val c v d):rd ρ c d v:=dl (fun i v hi=>by cases hi) (fK h)
theorem rd0 {d:V} {v:Value} (h:rd ro0 c d v):rd ρ c d v:=dl (fun i v hi=>by cases hi) h
theorem i6 (hE:bn E) {T:TypeId} (h:(E.tb T).ok=true) (hk:(E.tb T).k=0):E.P.underlying T=some (.int (E.tb T).ik):=by
 obtain ⟨d,hd,hb⟩:=(hE.t T h).kind
 cases d<;>simp_all [bT]
theorem rl (hE:bn E) {T:TypeId} (h:(E.tb T).ok=true) (hk:(E.tb T).k=1):E.P.underlying T=some .bool:=by
 obtain ⟨d,hd,hb⟩:=(hE.t T h).kind
 cases d<;>simp_all [bT]
theorem gL (hE:bn E) {T:TypeId} (h:(E.tb T).ok=true) (hk:(E.tb T).k=2):E.P.underlying T=some .string:=by
 obtain ⟨d,hd,hb⟩:=(hE.t T h).kind
 cases d<;>simp_all [bT]
theorem c_ (hE:bn E) {T:TypeId} (h:(E.tb T).ok=true) (hk:(E.tb T).k=3):E.P.underlying T=some (.slice (E.tb T).el)∧(E.tb (E.tb T).el).ok=true:=by
 obtain ⟨d,hd,hb⟩:=(hE.t T h).kind
 cases d<;>simp_all [bT]
theorem FJ (hE:bn E) {T:TypeId} (h:(E.tb T).ok=true) (hk:(E.tb T).k=8): ∃ms,E.P.underlying T=some (.interface ms):=by
 obtain ⟨d,hd,hb⟩:=(hE.t T h).kind
 cases d<;>simp_all [bT]
theorem yO (hE:bn E) {T:TypeId} (h:(E.tb T).ok=true) (hk:(E.tb T).k=7):E.P.underlying T=some (.map (E.tb T).el (E.tb T).len)∧(E.tb (E.tb T).el).ok=true∧(E.tb (E.tb T).len).ok=true∧(E.tb (E.tb T).len).k=1:=by
 obtain ⟨d,hd,hb⟩:=(hE.t T h).kind
 cases d<;>simp_all [bT]
theorem j5 (hE:bn E) {T:TypeId} (h:(E.tb T).ok=true) (hk:(E.tb T).k=4):E.P.underlying T=some (.array (E.tb T).len (E.tb T).el)∧(E.tb (E.tb T).el).ok=true:=by
 obtain ⟨d,hd,hb⟩:=(hE.t T h).kind
 cases d<;>simp_all [bT]
theorem mP {tb:TypeId→TI} {n:Nat}: ∀{l:List (Nat×TypeId)} {fs:List Field} {off:Nat},dm tb n off l fs=true→off≤n∧ ∀{k o:Nat} {U:TypeId},l[k]? =some (o,U)→
  ∃f,fs[k]? =some f∧f.offset=o∧f.type=U∧(tb U).ok=true∧f.name≠ "_" ∧o+(tb U).n≤n
 | [],[],off,h=>by
  simp only [dm,decide_eq_true_eq] at h
  exact ⟨by omega,by simp⟩
 | (o,U)::l,f::fs,off,h=>by
  simp only [dm,Bool.and_eq_true,decide_eq_true_eq] at h
  obtain ⟨⟨⟨⟨⟨h1,h2⟩,h3⟩,h4⟩,h5⟩,h6⟩:=h
  obtain ⟨h7,h8⟩:=mP h6
  refine ⟨by omega,?_⟩
  intro k o' U' hk
  cases k with
  | zero=>
   simp only [List.getElem?_cons_zero,Option.some.injEq,Prod.mk.injEq] at hk
   obtain ⟨rfl,rfl⟩:=hk
   exact ⟨f,rfl,h2,h3,h4,h5,by omega⟩
  | succ k=>
   simp only [List.getElem?_cons_succ] at hk
   obtain ⟨f',e,h9⟩:=h8 hk
   exact ⟨f',by simpa using e,h9⟩
 | [],_::_,_,h=>by simp [dm] at h
 | _::_,[],_,h=>by simp [dm] at h
theorem yP (hE:bn E) {T U:TypeId} {k o:Nat} (h:(E.tb T).ok=true) (hk:(E.tb T).fs[k]? =some (o,U)) (h5:(E.tb T).k=5):oh E.P T k o∧(E.tb U).ok=true∧o+(E.tb U).n≤(E.tb T).n∧(E.tb T).g=true:=by
 obtain ⟨d,hd,hb⟩:=(hE.t T h).kind
 cases d with
 | struct fs=>
  simp only [bT,Bool.and_eq_true] at hb
  obtain ⟨f,e1,e2,e3,e4,e5,e6⟩:=(mP hb.1.2).2 hk
  have hU:=hE.t U e4
  have hpos:=hU.pos
  refine ⟨Eo (n:=(E.tb U).n - 1) hd (by simpa using e1) e2 ?_,e4,e6,hb.1.1.2⟩
  intro w
  have:=(hU.ty ro0).size w
  rw [cb hU.one] at this
  rw [e3,this]
  congr 1;omega
 | _=>simp_all [bT]
theorem FK {α β:Type} {r:Rep α} {s:Rep β} {off b o1:Nat} {get:α→β} {set:α→β→α} {d:α} (hs:Sub r off s get set) (hx:fY r c (.pointer (some ⟨b,o1,none⟩)) d):fY s c (.pointer (some ⟨b,o1+off,none⟩)) (get d):=by
 obtain ⟨b',o',cs,e,h1,h2,h3,h4⟩:=hx
 cases e
 exact ⟨b,o1+off,_,rfl,h1,h2,h3.part off s.n,hs.get_is h4⟩
theorem oF {ti:TI} {n off:Nat} {g:Bool} {cd cnd:Prop} {d v:V} {e:Eff} (h:jV ti n g off cd d=some (cnd,v,e)):
  cnd=cd∧e= .none∧((off=0∧ti.n=n∧ti.g=g∧v=d)∨(g=true∧off+ti.n≤n∧v=part d off ti.n ti.g)):=by
 unfold jV at h
 split at h
 ·rename_i hp;cases h;exact ⟨rfl,rfl,.inl ⟨hp.1,hp.2.1,hp.2.2,rfl⟩⟩
 ·obtain ⟨h1,h2⟩:=aX h
  cases h2;exact ⟨rfl,rfl,.inr ⟨h1.1,h1.2,rfl⟩⟩
theorem lw {l:List V} {i:Nat} {z:V} (h:i<l.length):elt l i z=l.getD i default:=by
 unfold elt
 rw [List.getD_eq_getElem?_getD,List.getD_eq_getElem?_getD,List.getElem?_eq_getElem h];rfl
theorem FL (hE:bn E) (h:Sim E c0 c ρ S F) {o:Oper} {U:TypeId} {x:Operand} (hop:o.op= .load U x) (hU:(E.tb U).ok=true) {cnd:Prop} {v:V} {e:Eff}
  (hr:qI E.tb S.H (E.tb U) (S.ev E.gv x)=some (cnd,v,e)) (hc:cnd):aF E.P (bC c0 c ρ S nid v e) (run E.P F o c.w):=by
 have hT:=hE.t U hU
 unfold qI at hr
 split at hr
 ·rename_i n g d hx
  obtain ⟨⟨h1,h2⟩,h3⟩:=aX hr
  cases h3
  subst h1 h2
  exact tQ hop (hT.ty ro0) (gK.1 (aR h hx)) fun u hu=>bD (mO hu)
 ·rename_i id off hx
  have hp:=aR h hx
  simp only [rd] at hp
  obtain ⟨b,hb,he⟩:=hp
  unfold uj at hr
  split at hr
  ·rename_i n g d hH
   obtain ⟨b',e1,e2,hv⟩:=h.heap _ _ hH
   rw [hb] at e1;cases e1
   obtain ⟨rfl,rfl,hw|hw⟩:=oF hr
   ·obtain ⟨rfl,rfl,rfl,rfl⟩:=hw
    exact qw hop (hT.ty ρ) hv (Sub.self _) he fun u hu=>bD (fK hu)
   ·obtain ⟨rfl,hle,rfl⟩:=hw
    exact qw hop (hT.ty ρ) hv (fj hle hT.one) he fun u hu=>bD (fK hu)
  ·rename_i n g d hH
   obtain ⟨b',e1,hv⟩:=h.heap _ _ hH
   rw [hb] at e1;cases e1
   obtain ⟨rfl,rfl,hw|hw⟩:=oF hr
   ·obtain ⟨rfl,rfl,rfl,rfl⟩:=hw
    exact tQ hop (hT.ty ro0) (he▸hv) fun u hu=>bD (mO hu)
   ·obtain ⟨rfl,hle,rfl⟩:=hw
    refine tQ hop (hT.ty ro0) ?_ fun u hu=>bD (mO hu)
    rw [he]
    simpa using FK (fj hle hT.one) hv
  ·rename_i k n g d hH
   obtain ⟨e1,e2,hv⟩:=h.heap _ _ hH
   rw [hb] at e1;cases e1
   obtain ⟨rfl,rfl,hw|hw⟩:=oF hr
   ·obtain ⟨rfl,rfl,rfl,rfl⟩:=hw
    exact qw hop (hT.ty ρ) hv (Sub.self _) he fun u hu=>bD (fK hu)
   ·obtain ⟨rfl,hle,rfl⟩:=hw
    exact qw hop (hT.ty ρ) hv (fj hle hT.one) he fun u hu=>bD (fK hu)
  ·cases hr
 ·rename_i id m i off hx
  have hp:=aR h hx
  simp only [rd] at hp
  obtain ⟨u,hu,hop'⟩:=hp
  unfold uk at hr
  split at hr
  ·rename_i E' n g z l hH
   obtain ⟨rfl,hr⟩:=aX hr
   obtain ⟨v',e1,hown,hge,hone,_⟩:=h.heap _ _ hH
   rw [hu] at e1;cases e1
   have hn:(rV ro0 m g).n=m:=cb hone
   obtain ⟨rfl,rfl,hw|hw⟩:=oF hr
   ·obtain ⟨rfl,rfl,rfl,rfl⟩:=hw
    refine qB hop (hT.ty ro0) hown (Sub.self _) hc (hn.symm▸hop') fun u hu=>bD (by rw [lw hc];exact mO hu)
   ·obtain ⟨rfl,hle,rfl⟩:=hw
    refine qB hop (hT.ty ro0) hown (fj hle hT.one) hc (hn.symm▸hop') fun u hu=>bD (by rw [lw hc];exact mO hu)
  ·rename_i E' n g z l hH
   obtain ⟨rfl,hr⟩:=aX hr
   obtain ⟨v',e1,hown,hge,hone,_⟩:=h.heap _ _ hH
   rw [hu] at e1;cases e1
   have hn:(rV ρ m g).n=m:=cb hone
   obtain ⟨rfl,rfl,hw|hw⟩:=oF hr
   ·obtain ⟨rfl,rfl,rfl,rfl⟩:=hw
    refine qB hop (hT.ty ρ) hown (Sub.self _) hc (hn.symm▸hop') fun u hu=>bD (by rw [lw hc];exact fK hu)
   ·obtain ⟨rfl,hle,rfl⟩:=hw
    refine qB hop (hT.ty ρ) hown (fj hle hT.one) hc (hn.symm▸hop') fun u hu=>bD (by rw [lw hc];exact fK hu)
  ·cases hr
 ·cases hr
end
end Go.Proofs.YtgealhhkngbkbaaGreatDoor
namespace Go.Proofs.YtgealhhkngbkbaaGreatDoor
open Go.RowKit
section
variable {E:Env} {c0 c:Cx} {ρ:Ro} {S:St} {F:Fm} {nid:Nat}
theorem Var.blkOk {b n:Nat} {g:Bool} {d:V} {i:Nat} (h1:ρ i=some (.pointer (some ⟨b,0,none⟩))) (h2:c0.mine b) (hv:Var c b (rV ρ n g) d):blkOk c0 c ρ i (.var n g d):=⟨b,h1,h2,hv⟩
theorem FM (hE:bn E) (h:Sim E c0 c ρ S F) {o:Oper} {U:TypeId} {x y:Operand} (hop:o.op= .store U x y) (hU:(E.tb U).ok=true) {cnd:Prop} {v:V} {e:Eff}
  (hr:qJ E.tb S.H (E.tb U) (S.ev E.gv x) (S.evT E U y)=some (cnd,v,e)) (hc:cnd):aF E.P (bC c0 c ρ S nid v e) (run E.P F o c.w):=by
 have hT:=hE.t U hU
 unfold qJ at hr
 split at hr
 ·rename_i id off d hx hy
  have hp:=aR h hx
  simp only [rd] at hp
  obtain ⟨b,hb,he⟩:=hp
  have hy':=eU h hy
  unfold ul at hr
  split at hr
  ·rename_i n g d0 hH
   obtain ⟨b',e1,e2,hv⟩:=h.heap _ _ hH
   rw [hb] at e1;cases e1
   have hbo:an ρ id=some b:=by simp [an,hb]
   have hbX:=hv.1
   split at hr
   ·rename_i hw
    cases hr
    obtain ⟨rfl,rfl,rfl⟩:=hw
    refine qx hop (hT.ty ρ) hv (Sub.self _) he (fJ hT.one hc hy') fun c' hm hv'=>⟨c',ρ,rfl,⟨_,hH,rfl,rfl⟩,⟨?_,rfl,b,hb,e2,hv'⟩,trivial⟩
    rw [hbo];exact hm.chg hbX
   ·obtain ⟨⟨rfl,hle⟩,hr⟩:=aX hr
    cases hr
    refine qx hop (hT.ty ρ) hv (fj hle hT.one) he (fJ hT.one hc hy') fun c' hm hv'=>⟨c',ρ,rfl,⟨_,hH,rfl,rfl⟩,⟨?_,rfl,b,hb,e2,hv'⟩,trivial⟩
    rw [hbo];exact hm.chg hbX
  ·rename_i k n g d0 hH
   obtain ⟨e1,e2,hv⟩:=h.heap _ _ hH
   rw [hb] at e1;cases e1
   have hbo:an ρ id=some b:=by simp [an,hb]
   have hbX:=hv.1
   split at hr
   ·rename_i hw
    cases hr
    obtain ⟨rfl,rfl,rfl⟩:=hw
    refine qx hop (hT.ty ρ) hv (Sub.self _) he (fJ hT.one hc hy') fun c' hm hv'=>⟨c',ρ,rfl,⟨_,hH,rfl,rfl⟩,⟨?_,rfl,hb,e2,hv'⟩,trivial⟩
    rw [hbo];exact hm.chg hbX
   ·obtain ⟨⟨rfl,hle⟩,hr⟩:=aX hr
    cases hr
    refine qx hop (hT.ty ρ) hv (fj hle hT.one) he (fJ hT.one hc hy') fun c' hm hv'=>⟨c',ρ,rfl,⟨_,hH,rfl,rfl⟩,⟨?_,rfl,hb,e2,hv'⟩,trivial⟩
    rw [hbo];exact hm.chg hbX
  ·cases hr
 ·rename_i id m i off d hx hy
  have hp:=aR h hx
  simp only [rd] at hp
  obtain ⟨u,hu,hpu⟩:=hp
  have hy':=eU h hy
  unfold uo at hr
  split at hr
  ·rename_i E' n g z l hH
   obtain ⟨rfl,hr⟩:=aX hr
   obtain ⟨v',e1,hown,hge,hone,a,cap,es,hz⟩:=h.heap _ _ hH
   rw [hu] at e1;cases e1
   have hn:(rV ro0 m g).n=m:=cb hone
   have hbo:an ρ id=blk u:=by unfold an;rw [hu,es]
   by_cases hw:off=0∧(E.tb U).n=m∧(E.tb U).g=g
   ·rw [if_pos hw] at hr
    obtain ⟨rfl,rfl,rfl⟩:=hw
    cases hio:um d<;>rw [hio] at hr
    case true=>
     simp only [Option.some.injEq,Prod.mk.injEq] at hr
     obtain ⟨rfl,rfl,rfl⟩:=hr
     obtain ⟨hi,hfit⟩:=hc
     have hown':Own c E' u (rV ρ (E.tb U).n (E.tb U).g) l:=hown.ro rd0
     exact tY hop (hT.ty ρ) hown' (Sub.self _) hi (hn.symm▸hpu) (fJ hT.one hfit hy') fun c' hch ho'=>⟨c',ρ,rfl,⟨_,hH,rfl,rfl⟩,⟨hbo▸hch,rfl,u,hu,ho',hge,hone,a,cap,by simpa using es,hz⟩,trivial⟩
    simp only [Option.some.injEq,Prod.mk.injEq] at hr
    obtain ⟨rfl,rfl,rfl⟩:=hr
    obtain ⟨hi,hpure,hfit⟩:=hc
    refine tY hop (hT.ty ro0) hown (Sub.self _) hi (hn.symm▸hpu) (fJ hT.one hfit (j4 hpure hy')) fun c' hch ho'=>⟨c',ρ,rfl,⟨_,hH,rfl,rfl⟩,⟨hbo▸hch,rfl,u,hu,ho',hge,hone,a,cap,by simpa using es,hz⟩,trivial⟩
   ·rw [if_neg hw] at hr
    obtain ⟨⟨rfl,hle⟩,hr⟩:=aX hr
    cases hr
    obtain ⟨hi,hpure,hfit⟩:=hc
    refine tY hop (hT.ty ro0) hown (fj hle hT.one) hi (hn.symm▸hpu) (fJ hT.one hfit (j4 hpure hy')) fun c' hch ho'=>⟨c',ρ,rfl,⟨_,hH,rfl,rfl⟩,⟨hbo▸hch,rfl,u,hu,by rw [lw hi];exact ho',hge,hone,a,cap,by simpa using es,hz⟩,trivial⟩
  ·cases hr
 ·cases hr
theorem FN (hE:bn E) (h:Sim E c0 c ρ S F) {o:Oper} {U:TypeId} {x:Operand} {k:Nat} (hop:o.op= .fieldAddr U x k) (hU:(E.tb U).ok=true) {cnd:Prop} {v:V} {e:Eff}
  (hr:qK E.tb (E.tb U) k (S.ev E.gv x)=some (cnd,v,e)):aF E.P (bC c0 c ρ S nid v e) (run E.P F o c.w):=by
 unfold qK at hr
 split at hr
 ·rename_i d hx
  obtain ⟨h5,hr⟩:=aX hr
  have hp:=aR h hx
  unfold uq at hr
  split at hr
  ·rename_i off W hk
   obtain ⟨hf,hW,hle,hg⟩:=yP hE hU hk h5
   split at hr
   ·cases hr
    simp only [rd] at hp
    obtain ⟨b,hb,he⟩:=hp
    exact Er hop hf he (bD (by simp only [rd];exact ⟨b,hb,rfl⟩))
   ·cases hr
    simp only [rd] at hp
    obtain ⟨u,hu,he⟩:=hp
    exact Fh hop hf he fun u' hu'=>bD (by simp only [rd];exact ⟨u,hu,hu'⟩)
   ·rename_i n g d'
    obtain ⟨⟨rfl,rfl⟩,hr2⟩:=aX hr
    cases hr2
    have hWT:=hE.t W hW
    exact Ep hop hf (fj hle hWT.one) (gK.1 hp) fun u hu=>bD (gK.2 hu)
   ·cases hr
  ·cases hr
 ·cases hr
theorem FO (hE:bn E) (h:Sim E c0 c ρ S F) {o:Oper} {U:TypeId} {x:Operand} {k:Nat} (hop:o.op= .field U x k) (hU:(E.tb U).ok=true) {cnd:Prop} {v:V} {e:Eff}
  (hr:qL E.tb (E.tb U) k (S.ev E.gv x)=some (cnd,v,e)) (hc:cnd):aF E.P (bC c0 c ρ S nid v e) (run E.P F o c.w):=by
 unfold qL at hr
 split at hr
 ·rename_i l hx
  obtain ⟨h5,hr⟩:=aX hr
  have hp:=aR h hx
  unfold ur at hr
  split at hr
  ·rename_i off W hk
   cases hr
   obtain ⟨hf,hW,hle,hg⟩:=yP hE hU hk h5
   have hWT:=hE.t W hW
   have hUT:=hE.t U hU
   obtain ⟨d,hd,hb⟩:=hUT.kind
   cases d with
   | struct fs=>
    simp only [bT,Bool.and_eq_true] at hb
    obtain ⟨f,e1,e2,e3,_⟩:=(mP hb.1.2).2 hk
    have hval:=fJ (n:=(E.tb U).n) (g:=true) (fun e=>by cases e) (by simpa [eo] using hc) hp
    obtain ⟨cs,hcs,hv⟩:=hval
    obtain ⟨u,hu,hu'⟩:=yl (P:=E.P) (T:=W) (w:=c.w) (cs:=cs.toArray) (hWT.ty ρ) (fj hle hWT.one) (by simpa using hcs)
    refine yv (v:=u) (w':=c.w) ?_ (bD (fK hu'))
    have hru:(underlying U).run E.P c.w= .ok (.struct fs) c.w:=by simp [underlying,hd]
    have e1':fs[k]? =some f:=by simpa using e1
    simp only [mkV,rV,if_true] at hv
    simp [run,execOp,hop,Instr.field,hv,asAgg,hru,e1',e2,e3,hu]
   | _=>simp_all [bT]
  ·cases hr
 ·cases hr
theorem FP {α β:Type} {P:Program} {o:Oper} {F:Fm} {c:Cx} {K:Value→World→Prop} {r:Rep α} {s:Rep β} {T E:TypeId} {x y:Operand} {d:α} {i:Int} {k:IntKind} {m q:Nat} {get:α→β} {set:α→β→α} (ho:o.op= .indexAddr T x y) (hT:P.underlying T=some (.array m E)) (hE:dS P E s) (hq:s.n=q)
  (hs:Sub r (i.toNat*q) s get set) (hx:fY r c (ev F x) d) (hy:ev F y= .int k i) (hi:0≤i∧i<m) (h: ∀v,fY s c v (get d)→K v c.w):aF P K (run P F o c.w):=by
 subst hq
 obtain ⟨b,o1,cs,e,h1,h2,h3,h4⟩:=hx
 have hru:(underlying T).run P c.w= .ok (.array m E) c.w:=by simp [underlying,hT]
 have hadd:(⟨b,o1,none⟩:Addr).add (i.toNat*s.n)=⟨b,o1+i.toNat*s.n,none⟩:=by unfold Addr.add;split<;>simp_all
 refine yv (v:= .pointer (some ⟨b,o1+i.toNat*s.n,none⟩)) (w':=c.w) ?_ (h _ ⟨b,o1+i.toNat*s.n,_,rfl,h1,h2,h3.part (i.toNat*s.n) s.n,hs.get_is h4⟩)
 simp [run,execOp,ho,Instr.indexAt,e,hy,asIntOf,hru,Instr.sureAddr,hi.1,hi.2,hE.size,hadd]
theorem FR (hE:bn E) (h:Sim E c0 c ρ S F) {o:Oper} {U:TypeId} {x y:Operand} (hop:o.op= .indexAddr U x y) (hU:(E.tb U).ok=true) {cnd:Prop} {v:V} {e:Eff}
  (hr:qM S.H (E.tb U) (E.tb (E.tb U).el) (S.ev E.gv x) (S.ev E.gv y)=some (cnd,v,e)) (hc:cnd):aF E.P (bC c0 c ρ S nid v e) (run E.P F o c.w):=by
 unfold qM at hr
 split at hr
 ·rename_i z n g l k i hx hy
  obtain ⟨⟨h3,rfl,rfl⟩,hr2⟩:=aX hr
  cases hr2
  obtain ⟨hu,hel⟩:=c_ hE hU h3
  have hET:=hE.t _ hel
  refine xY hop hu (hET.ty ro0) (jR (aR h hx)) (aR h hy).1 ⟨hc.1,by omega⟩ fun u hu=>bD (gK.2 ?_)
  rw [lw hc.2];exact hu
 ·rename_i id k i hx hy
  obtain ⟨h3,hr⟩:=aX hr
  obtain ⟨hu,hel⟩:=c_ hE hU h3
  have hET:=hE.t _ hel
  have hp:=aR h hx
  simp only [rd] at hp
  unfold ut at hr
  split at hr
  ·rename_i E' n g z l hH
   obtain ⟨⟨rfl,rfl⟩,hr2⟩:=aX hr
   cases hr2
   obtain ⟨v',e1,hown,hge,hone,_⟩:=h.heap _ _ hH
   rw [hp.1] at e1;cases e1
   have hT:dS E.P (E.tb U).el (rV ro0 (E.tb (E.tb U).el).n (E.tb (E.tb U).el).g):=hET.ty ro0
   have hown':Own c E' (ev F x) (rV ro0 (E.tb (E.tb U).el).n (E.tb (E.tb U).el).g) l:=hown
   have hru:(underlying U).run E.P c.w= .ok (.slice (E.tb U).el) c.w:=by simp [underlying,hu]
   rcases hown'.2 with ⟨a,e,rfl⟩|⟨g',cap,cur,e,h1,h2,h3',h4,h5,h6⟩
   ·simp at hc
   ·have hadd:(⟨g',0,none⟩:Addr).add (i.toNat*(E.tb (E.tb U).el).n)=⟨g',i.toNat*(E.tb (E.tb U).el).n,none⟩:=by unfold Addr.add;split<;>simp_all
    have hsz:=hT.size c.w
    rw [cb hET.one] at hsz
    have hi:=hc.2
    have hil:i<(l.length:Int):=by omega
    refine yv (v:= .pointer (some ⟨g',i.toNat*(E.tb (E.tb U).el).n,none⟩)) (w':=c.w) ?_ (bD ?_)
    ·simp [run,execOp,hop,Instr.indexAt,e,(aR h hy).1,asIntOf,hru,hc.1,hil,hsz,hadd]
    ·simp only [rd]
     exact ⟨_,hp.1,g',_,_,e,by simp⟩
  ·rename_i E' n g z l hH
   obtain ⟨⟨rfl,rfl⟩,hr2⟩:=aX hr
   cases hr2
   obtain ⟨v',e1,hown,hge,hone,_⟩:=h.heap _ _ hH
   rw [hp.1] at e1;cases e1
   have hT:dS E.P (E.tb U).el (rV ρ (E.tb (E.tb U).el).n (E.tb (E.tb U).el).g):=hET.ty ρ
   have hown':Own c E' (ev F x) (rV ρ (E.tb (E.tb U).el).n (E.tb (E.tb U).el).g) l:=hown
   have hru:(underlying U).run E.P c.w= .ok (.slice (E.tb U).el) c.w:=by simp [underlying,hu]
   rcases hown'.2 with ⟨a,e,rfl⟩|⟨g',cap,cur,e,h1,h2,h3',h4,h5,h6⟩
   ·simp at hc
   ·have hadd:(⟨g',0,none⟩:Addr).add (i.toNat*(E.tb (E.tb U).el).n)=⟨g',i.toNat*(E.tb (E.tb U).el).n,none⟩:=by unfold Addr.add;split<;>simp_all
    have hsz:=hT.size c.w
    rw [cb hET.one] at hsz
    have hi:=hc.2
    have hil:i<(l.length:Int):=by omega
    refine yv (v:= .pointer (some ⟨g',i.toNat*(E.tb (E.tb U).el).n,none⟩)) (w':=c.w) ?_ (bD ?_)
    ·simp [run,execOp,hop,Instr.indexAt,e,(aR h hy).1,asIntOf,hru,hc.1,hil,hsz,hadd]
    ·simp only [rd]
     exact ⟨_,hp.1,g',_,_,e,by simp⟩
  ·rename_i n g z l hH
   obtain ⟨⟨rfl,rfl⟩,hr2⟩:=aX hr
   cases hr2
   obtain ⟨v',e1,hsl⟩:=h.heap _ _ hH
   rw [hp.1] at e1;cases e1
   refine xY hop hu (hET.ty ro0) (jR hsl) (aR h hy).1 ⟨hc.1,by omega⟩ fun u hu=>bD (gK.2 ?_)
   rw [lw hc.2];exact hu
  ·cases hr
 ·rename_i id off k i hx hy
  obtain ⟨h4,hr⟩:=aX hr
  cases hr
  obtain ⟨hu,hel⟩:=j5 hE hU h4
  have hET:=hE.t _ hel
  have hp:=aR h hx
  simp only [rd] at hp
  obtain ⟨b,hb,he⟩:=hp
  have hsz: ∀w,(sizeOf (E.tb U).el).run E.P w= .ok (E.tb (E.tb U).el).n w:=fun w=>by
   have:=(hET.ty ro0).size w
   rwa [cb hET.one] at this
  exact Et hop hu hsz he (aR h hy).1 hc (bD (by simp only [rd];exact ⟨b,hb,rfl⟩))
 ·rename_i n g d k i hx hy
  obtain ⟨⟨rfl,h4⟩,hr2⟩:=aX hr
  cases hr2
  obtain ⟨hu,hel⟩:=j5 hE hU h4
  have hET:=hE.t _ hel
  have hpt:=FP (K:=bC c0 c ρ S nid (.pp (E.tb (E.tb U).el).n (E.tb (E.tb U).el).g (part d (i.toNat*(E.tb (E.tb U).el).n) (E.tb (E.tb U).el).n (E.tb (E.tb U).el).g)) .none) hop hu (hET.ty ro0) (cb hET.one) (fj (ρ:=ro0) hc.2 hET.one) (gK.1 (aR h hx)) (aR h hy).1 hc.1
  exact hpt fun u hu=>bD (gK.2 hu)
 ·cases hr
theorem FS (hE:bn E) (h:Sim E c0 c ρ S F) {o:Oper} {U:TypeId} {x y:Operand} (hop:o.op= .index U x y) (hU:(E.tb U).ok=true) {cnd:Prop} {v:V} {e:Eff}
  (hr:qN (E.tb U) (E.tb (E.tb U).el) (S.ev E.gv x) (S.ev E.gv y)=some (cnd,v,e)) (hc:cnd):aF E.P (bC c0 c ρ S nid v e) (run E.P F o c.w):=by
 unfold qN at hr
 split at hr
 ·rename_i s k i hx hy
  obtain ⟨h2,hr⟩:=aX hr
  cases hr
  have hu:=gL hE hU h2
  have hru:(underlying U).run E.P c.w= .ok .string c.w:=by simp [underlying,hu]
  obtain ⟨e1,hl⟩:=aR h hx
  obtain ⟨e2,_⟩:=aR h hy
  have hb:s[i.toNat]? =some (s.getD i.toNat 0):=by rw [List.getElem?_eq_getElem hc.2,List.getD_eq_getElem?_getD,List.getElem?_eq_getElem hc.2];rfl
  have hlt:=UInt8.toNat_lt (s.getD i.toNat 0)
  refine yv (v:= .int .u8 ((s.getD i.toNat 0).toNat:Int)) (w':=c.w) ?_ (bD ⟨rfl,?_⟩)
  ·have hg:(⟨s.toArray⟩:ByteArray)[i.toNat]? =some (s.getD i.toNat 0):=by
    rw [←hb]
    have hsz:(⟨s.toArray⟩:ByteArray).size=s.length:=rfl
    rw [getElem?_pos _ _ (by rw [hsz];exact hc.2),List.getElem?_eq_getElem hc.2]
    rfl
   simp only [run,execOp,hop,Instr.index,e1,e2,asIntOf,Sem.run_bind,Sem.run_pure,Result.andThen_ok,hru,hc.1,if_true,hg]
  ·generalize s.getD i.toNat 0=b at hlt
   simp only [Rng,IntKind.min,IntKind.max,IntKind.bits,IntKind.signed]
   simp
   omega
 ·rename_i l k i hx hy
  obtain ⟨h4,hr⟩:=aX hr
  cases hr
  obtain ⟨hu,hel⟩:=j5 hE hU h4
  have hET:=hE.t _ hel
  have hru:(underlying U).run E.P c.w= .ok (.array (E.tb U).len (E.tb U).el) c.w:=by simp [underlying,hu]
  have hp:=aR h hx
  obtain ⟨e2,_⟩:=aR h hy
  obtain ⟨cs,hcs,hv⟩:=fJ (n:=(E.tb U).n) (g:=true) (fun e=>by cases e) (by simpa [eo] using hc.2.1) hp
  obtain ⟨u,hu1,hu'⟩:=yl (P:=E.P) (T:=(E.tb U).el) (w:=c.w) (cs:=cs.toArray) (hET.ty ρ) (fj hc.2.2 hET.one) (by simpa using hcs)
  have hsz:=(hET.ty ρ).size c.w
  rw [cb hET.one] at hsz
  refine yv (v:=u) (w':=c.w) ?_ (bD (fK hu'))
  simp only [mkV,rV,if_true] at hv
  have h0:=hc.1.1
  have h1:=hc.1.2
  simp [run,execOp,hop,Instr.index,hv,e2,asIntOf,hru,h0,h1,hsz,hu1]
 ·cases hr
theorem cD {k:IntKind} {a:Int} (h:Rng k a):bC c0 c ρ S nid (.int k a) .none (.int k a) c.w:=bD ⟨rfl,h⟩
theorem dV {b:Bool}:bC c0 c ρ S nid (.bool b) .none (.bool b) c.w:=bD rfl
theorem FT (hE:bn E) (h:Sim E c0 c ρ S F) {o:Oper} {op:BinOp} {U W:TypeId} {x y:Operand} {k k':IntKind} {a b:Int} (hop:o.op= .binOp op U x y W) {cnd:Prop} {v:V} {e:Eff}
  (hx:ev F x= .int k a) (hy:ev F y= .int k' b) (hxr:Rng k a) (hyr:Rng k' b) (hr:(if k=k' then qO op k a b else uu op k a b)=some (cnd,v,e)) (hc:cnd):aF E.P (bC c0 c ρ S nid v e) (run E.P F o c.w):=by
 split at hr
 ·rename_i hk
  subst hk
  cases op<;>simp only [qO,rOk,rIf,Option.some.injEq,Prod.mk.injEq] at hr<;>obtain ⟨rfl,rfl,rfl⟩:=hr
  ·exact Ew hop hx hy (cD (yf k a b))
  ·exact Ex hop hx hy (cD (ol k a b))
  ·exact Ey hop hx hy (cD (E0 k a b))
  ·exact Ez hop hx hy hc (cD (E3 k a b))
  ·exact EA hop hx hy hc (cD (E9 b hxr))
  ·exact EI hop hx hy (cD (yg k a b))
  ·exact EJ hop hx hy (cD (yh k a b))
  ·exact EK hop hx hy (cD (E5 k a b))
  ·exact xZ hop hx hy hc (cD (qz k a b))
  ·exact ya hop hx hy hc (cD (yi b hxr))
  ·exact EM hop hx hy (cD (E6 k a b))
  ·exact EG hop hx hy dV
  ·exact EH hop hx hy dV
  ·exact EB hop hx hy dV
  ·exact EC hop hx hy dV
  ·exact ED hop hx hy dV
  ·exact EE hop hx hy dV
 ·cases op
  case shl=>cases hr;exact xZ hop hx hy hc (cD (qz k a b))
  case shr=>cases hr;exact ya hop hx hy hc (cD (yi b hxr))
  all_goals cases hr
end
end Go.Proofs.YtgealhhkngbkbaaGreatDoor
namespace Go.Proofs.YtgealhhkngbkbaaGreatDoor
open Go.RowKit
section
variable {E:Env} {c0 c:Cx} {ρ:Ro} {S:St} {F:Fm} {nid:Nat}
theorem FU (hE:bn E) {o:Oper} {op:BinOp} {U W:TypeId} {x y:Operand} {a b:Bool} (hop:o.op= .binOp op U x y W) (hU:(E.tb U).ok=true) {cnd:Prop} {v:V} {e:Eff}
  (hx:ev F x= .bool a) (hy:ev F y= .bool b) (hr:qP (E.tb U) op a b=some (cnd,v,e)):aF E.P (bC c0 c ρ S nid v e) (run E.P F o c.w):=by
 unfold qP at hr
 split at hr
 ·obtain ⟨h1,h2⟩:=aX hr
  cases h2
  exact EP hop (rl hE hU h1) hx hy dV
 ·obtain ⟨h1,h2⟩:=aX hr
  cases h2
  exact ER hop (rl hE hU h1) hx hy dV
 ·cases hr
theorem FV (a b:List UInt8):(⟨a.toArray⟩:ByteArray)++⟨b.toArray⟩=⟨(a++b).toArray⟩:=by
 apply ByteArray.ext
 simp
theorem FW {o:Oper} {op:BinOp} {U W:TypeId} {x y:Operand} {a b:List UInt8} (hop:o.op= .binOp op U x y W) {cnd:Prop} {v:V} {e:Eff}
  (hx:ev F x= .string ⟨a.toArray⟩) (hy:ev F y= .string ⟨b.toArray⟩) (hr:uv op a b=some (cnd,v,e)) (hc:cnd):aF E.P (bC c0 c ρ S nid v e) (run E.P F o c.w):=by
 have hg: ∀u,(eqGuard op U x y (.string ⟨a.toArray⟩) (.string ⟨b.toArray⟩)).run E.P u= .ok () u:=fun u=>by cases op<;>simp [eqGuard]
 cases op
 case add=>
  cases hr
  refine yv (v:= .string ⟨(a++b).toArray⟩) (w':=c.w) ?_ (bD ⟨rfl,by simpa using hc⟩)
  have h1: ¬(((⟨a.toArray⟩:ByteArray).size+(⟨b.toArray⟩:ByteArray).size:Nat):Int)>IntKind.i64.max:=by
   have e1:(⟨a.toArray⟩:ByteArray).size=a.length:=rfl
   have e2:(⟨b.toArray⟩:ByteArray).size=b.length:=rfl
   rw [e1,e2]
   unfold LEN at hc
   simp [IntKind.max,IntKind.bits,IntKind.signed]
   omega
  have hbin:(binOp .add U (.string ⟨a.toArray⟩) (.string ⟨b.toArray⟩)).run E.P c.w= .ok (.string ⟨(a++b).toArray⟩) c.w:=by
   simp only [binOp,Op.stringOp,if_neg h1,FV,Sem.run_pure]
  simp only [run,execOp,hop,hx,hy,Sem.run_bind,hg,Result.andThen_ok,hbin,Sem.run_pure]
 all_goals cases hr
 all_goals
  refine yv (v:= .bool _) (w':=c.w) ?_ dV
  simp only [run,execOp,hop,hx,hy,Sem.run_bind,hg,Result.andThen_ok,binOp,Op.stringOp,tV,Sem.run_pure,ltS]
theorem FX (hE:bn E) {o:Oper} {op:BinOp} {U W:TypeId} {x y:Operand} {z:Option Bool} {n:Nat} {g:Bool} {l:List V} (hop:o.op= .binOp op U x y W) (hU:(E.tb U).ok=true) (hk:(E.tb U).k=3) {cnd:Prop} {v:V} {e:Eff}
  (hx:rd ρ c (.sl z n g l) (ev F x)) (hy:ev F y= .slice none 0 0) (hr:jW op (ow z l)=some (cnd,v,e)):aF E.P (bC c0 c ρ S nid v e) (run E.P F o c.w):=by
 obtain ⟨hu,hel⟩:=c_ hE hU hk
 obtain ⟨a,cap,he,hl,hz,hs⟩:=dk.1 hx
 have hru:(underlying U).run E.P c.w= .ok (.slice (E.tb U).el) c.w:=by simp [underlying,hu]
 have hq0: ∀n,(Op.equalIn (n+1) U (.slice a l.length cap) (.slice none 0 0)).run E.P c.w= .ok (decide (a=none)) c.w:=by
  intro n
  cases a<;>simp [Op.equalIn,hru]
 have hq:(Op.equal U (.slice a l.length cap) (.slice none 0 0)).run E.P c.w= .ok (decide (a=none)) c.w:=hq0 9999
 cases hb:ow z l with
 | none=>rw [hb] at hr;cases hr
 | some b=>
  rw [hb] at hr
  have hab:decide (a=none)=b:=by
   unfold ow at hb
   split at hb
   ·rename_i b'
    cases hb
    cases b<;>simp_all [zOk]
   ·split at hb
    ·cases hb
    ·cases hb
     rcases hs with h|⟨b,o,cs,e,_⟩
     ·cases h
     ·simp [e]
  cases op<;>simp only [jW,rOk] at hr<;>cases hr
  ·refine yv (v:= .bool b) (w':=c.w) ?_ dV
   simp [run,execOp,hop,he,hy,eqGuard,binOp,hq,hab]
  ·refine yv (v:= .bool (!b)) (w':=c.w) ?_ dV
   simp [run,execOp,hop,he,hy,eqGuard,binOp,hq,hab]
theorem FY (hE:bn E) {o:Oper} {op:BinOp} {U W:TypeId} {x y:Operand} {b:Bool} (hop:o.op= .binOp op U x y W) (hU:(E.tb U).ok=true) (hk:(E.tb U).k=8) (hc:isC y=true) {cnd:Prop} {v:V} {e:Eff}
  (hx:rd ρ c (.ifc b) (ev F x)) (hy:ev F y= .nilIface) (hr:jW op (some b)=some (cnd,v,e)):aF E.P (bC c0 c ρ S nid v e) (run E.P F o c.w):=by
 obtain ⟨ms,hu⟩:=FJ hE hU hk
 have hru:(underlying U).run E.P c.w= .ok (.interface ms) c.w:=by simp [underlying,hu]
 obtain ⟨w,rfl⟩: ∃w,y= .const w:=by
  cases y with
  | const w=>exact ⟨w,rfl⟩
  | tmp t=>cases hc
  | func f=>cases hc
  | global g=>cases hc
 have hx':gJ b (ev F x):=hx
 unfold gJ at hx'
 cases b with
 | true=>
  rw [if_pos rfl] at hx'
  have hq0: ∀n,(Op.equalIn (n+1) U .nilIface .nilIface).run E.P c.w= .ok true c.w:=by
   intro n;simp [Op.equalIn,hru]
  have hq:(Op.equal U .nilIface .nilIface).run E.P c.w= .ok true c.w:=hq0 9999
  cases op<;>simp only [jW,rOk] at hr<;>cases hr
  ·refine yv (v:= .bool true) (w':=c.w) ?_ dV
   simp [run,execOp,hop,hx',hy,eqGuard,binOp,hq]
  ·refine yv (v:= .bool false) (w':=c.w) ?_ dV
   simp [run,execOp,hop,hx',hy,eqGuard,binOp,hq]
 | false=>
  rw [if_neg (by decide)] at hx'
  obtain ⟨t,p,hx'⟩:=hx'
  have hq0: ∀n,(Op.equalIn (n+1) U (.iface t p) .nilIface).run E.P c.w= .ok false c.w:=by
   intro n;simp [Op.equalIn,hru]
  have hq:(Op.equal U (.iface t p) .nilIface).run E.P c.w= .ok false c.w:=hq0 9999
  cases op<;>simp only [jW,rOk] at hr<;>cases hr
  ·refine yv (v:= .bool false) (w':=c.w) ?_ dV
   simp [run,execOp,hop,hx',hy,eqGuard,binOp,hq]
  ·refine yv (v:= .bool true) (w':=c.w) ?_ dV
   simp [run,execOp,hop,hx',hy,eqGuard,binOp,hq]
theorem FZ (h:Sim E c0 c ρ S F) {o:Oper} {op:UnOp} {U:TypeId} {x:Operand} (hop:o.op= .unOp op U x) {cnd:Prop} {v:V} {e:Eff}
  (hr:unF op (S.ev E.gv x)=some (cnd,v,e)):aF E.P (bC c0 c ρ S nid v e) (run E.P F o c.w):=by
 unfold unF at hr
 split at hr
 ·rename_i b hx
  split at hr
  ·cases hr;exact ES hop (aR h hx) dV
  ·cases hr
 ·rename_i k a hx
  split at hr
  ·cases hr;exact EU hop (aR h hx).1 (cD (E4 _ _))
  ·cases hr;exact EV hop (aR h hx).1 (cD (E7 _ _))
  ·cases hr
 ·cases hr
theorem F1 (h:Sim E c0 c ρ S F) {o:Oper} {T:TypeId} {x y z:Operand} (hop:o.op= .pick x y z) {cnd:Prop} {v:V} {e:Eff}
  (hr:qS (S.ev E.gv x) (S.evT E T y) (S.evT E T z)=some (cnd,v,e)):aF E.P (bC c0 c ρ S nid v e) (run E.P F o c.w):=by
 unfold qS at hr
 split at hr
 ·rename_i a hx hy
  cases hr
  exact xW (b:=true) hop (aR h hx) (bD (eU h hy))
 ·rename_i a hx hz
  cases hr
  exact xW (b:=false) hop (aR h hx) (bD (eU h hz))
 ·cases hr
theorem F3 (hE:bn E) (h:Sim E c0 c ρ S F) {o:Oper} {U:TypeId} {x:Operand} (hop:o.op= .call {callee:= .builtin .len,args:= #[x],argTypes:= #[U]}) (hU:(E.tb U).ok=true) {cnd:Prop} {v:V} {e:Eff}
  (hr:qV S.H (E.tb U) (S.ev E.gv x)=some (cnd,v,e)):aF E.P (bC c0 c ρ S nid v e) (run E.P F o c.w):=by
 unfold qV at hr
 split at hr
 ·rename_i z n g l hx
  obtain ⟨h1,hr2⟩:=aX hr
  cases hr2
  have hs:=jR (aR h hx)
  exact yd (ats:= #[]) hop (c_ hE hU h1).1 hs (cD (jP (yj hs)))
 ·rename_i l hx
  obtain ⟨h1,hr2⟩:=aX hr
  cases hr2
  have e:=aR h hx
  exact EY hop (gL hE hU h1) e.1 (cD (jP e.2))
 ·rename_i id hx
  obtain ⟨h1,hr2⟩:=aX hr
  have hp:=aR h hx
  simp only [rd] at hp
  unfold uB at hr2
  split at hr2
  ·rename_i E' n g z l hH
   cases hr2
   obtain ⟨v',e1,hown,_,_,a,cap,es,_⟩:=h.heap _ _ hH
   rw [hp.1] at e1;cases e1
   refine yv (v:= .int .i64 l.length) (w':=c.w) ?_ (cD (jP hown.len))
   simp [run,execOp,hop,resolve,invoke,builtin,Builtin.len_,underlying,(c_ hE hU h1).1,es,goInt]
  ·rename_i E' n g z l hH
   cases hr2
   obtain ⟨v',e1,hown,_,_,a,cap,es,_⟩:=h.heap _ _ hH
   rw [hp.1] at e1;cases e1
   refine yv (v:= .int .i64 l.length) (w':=c.w) ?_ (cD (jP hown.len))
   simp [run,execOp,hop,resolve,invoke,builtin,Builtin.len_,underlying,(c_ hE hU h1).1,es,goInt]
  ·rename_i n g z l hH
   cases hr2
   obtain ⟨v',e1,hsl⟩:=h.heap _ _ hH
   rw [hp.1] at e1;cases e1
   have hs:=jR hsl
   exact yd (ats:= #[]) hop (c_ hE hU h1).1 hs (cD (jP (yj hs)))
  ·cases hr2
 ·rename_i id n i j hx
  obtain ⟨h1,hr2⟩:=aX hr
  have hp:=aR h hx
  simp only [rd] at hp
  obtain ⟨u,hu,hsub⟩:=hp
  unfold uC at hr2
  split at hr2
  ·rename_i E' n' g z l hH
   cases hr2
   obtain ⟨v',e2,hown,_,_,a',cap',es,_⟩:=h.heap _ _ hH
   rw [hu] at e2;cases e2
   obtain ⟨a,len,cap,e1,hij,hjl,hev⟩:=ua hsub es
   rw [es] at e1;cases e1
   have hlen:=hown.len
   refine yv (v:= .int .i64 ((j - i:Nat):Int)) (w':=c.w) ?_ (cD (jP (by omega)))
   simp [run,execOp,hop,resolve,invoke,builtin,Builtin.len_,underlying,(c_ hE hU h1).1,hev,goInt]
  ·cases hr2
 ·cases hr
theorem uZ (h:Sim E c0 c ρ S F) {f2:Value→Value→Sem Value} {op:Int→Int→Int} (hf: ∀k a b,f2 (.int k a) (.int k b)=pure (.int k (op a b))) (hr: ∀{k a b},Rng k a→Rng k b→Rng k (op a b)) {cnd:Prop} {v:V} {e:Eff}:
  ∀(l:List Operand) (k:IntKind) (a:Int),Rng k a→jZ E.gv S op (some (.int k a)) l=some (cnd,v,e)→ ∃b,rOk (V.int k b)=some (cnd,v,e)∧Rng k b∧(l.map (ev F)).foldlM f2 (.int k a)=pure (.int k b)
 | [],k,a,ha,hd=>⟨a,hd,ha,rfl⟩
 | x::l,k,a,ha,hd=>by
  unfold jZ at hd
  split at hd
  ·rename_i k' b hx
   obtain ⟨rfl,h2⟩:=aX hd
   have hb:rd ρ c (.int k b) (ev F x):=aR h hx
   obtain ⟨b',h3,h4,h5⟩:=uZ h hf hr l k (op a b) (hr ha hb.2) h2
   refine ⟨b',h3,h4,?_⟩
   rw [List.map_cons,List.foldlM_cons,show ev F x= .int k b from hb.1,hf]
   exact h5
  ·cases hd
theorem F4 (h:Sim E c0 c ρ S F) {o:Oper} {x:Operand} {l:List Operand} {ats:Array TypeId} (hop:o.op= .call {callee:= .builtin .min,args:=⟨x::l⟩,argTypes:=ats}) {cnd:Prop} {v:V} {e:Eff}
  (hr:jZ E.gv S dG (S.ev E.gv x) l=some (cnd,v,e)):aF E.P (bC c0 c ρ S nid v e) (run E.P F o c.w):=by
 cases hx:S.ev E.gv x with
 | none=>rw [hx] at hr;cases l<;>cases hr
 | some d=>
  rw [hx] at hr
  cases d<;>try (cases l<;>cases hr<;>done)
  rename_i k a
  have hd:=aR h hx
  obtain ⟨b,h1,h2,h3⟩:=uZ h (f2:=Builtin.min2) (op:=dG) (fun k a b=>rfl) yu l k a hd.2 hr
  cases h1
  refine yv (v:= .int k b) (w':=c.w) ?_ (cD h2)
  simp [run,execOp,hop,resolve,invoke,builtin,Builtin.min_,hd.1,h3]
theorem F5 (h:Sim E c0 c ρ S F) {o:Oper} {x:Operand} {l:List Operand} {ats:Array TypeId} (hop:o.op= .call {callee:= .builtin .max,args:=⟨x::l⟩,argTypes:=ats}) {cnd:Prop} {v:V} {e:Eff}
  (hr:jZ E.gv S ca (S.ev E.gv x) l=some (cnd,v,e)):aF E.P (bC c0 c ρ S nid v e) (run E.P F o c.w):=by
 cases hx:S.ev E.gv x with
 | none=>rw [hx] at hr;cases l<;>cases hr
 | some d=>
  rw [hx] at hr
  cases d<;>try (cases l<;>cases hr<;>done)
  rename_i k a
  have hd:=aR h hx
  obtain ⟨b,h1,h2,h3⟩:=uZ h (f2:=Builtin.max2) (op:=ca) (fun k a b=>by simp [Builtin.max2,ca]) yw l k a hd.2 hr
  cases h1
  refine yv (v:= .int k b) (w':=c.w) ?_ (cD h2)
  simp [run,execOp,hop,resolve,invoke,builtin,Builtin.max_,hd.1,h3]
theorem F6 (h:Sim E c0 c ρ S F) {o:Oper} {x y:Operand} {ats:Array TypeId} (hop:o.op= .call {callee:= .builtin .min,args:= #[x,y],argTypes:=ats}) {cnd:Prop} {v:V} {e:Eff}
  (hr:qT (S.ev E.gv x) (S.ev E.gv y)=some (cnd,v,e)):aF E.P (bC c0 c ρ S nid v e) (run E.P F o c.w):=by
 unfold qT at hr
 split at hr
 ·rename_i k a k' b hx hy
  obtain ⟨rfl,hr2⟩:=aX hr
  cases hr2
  exact Fs hop (aR h hx).1 (aR h hy).1 (cD (yu (aR h hx).2 (aR h hy).2))
 ·cases hr
theorem F7 (h:Sim E c0 c ρ S F) {o:Oper} {x y:Operand} {ats:Array TypeId} (hop:o.op= .call {callee:= .builtin .max,args:= #[x,y],argTypes:=ats}) {cnd:Prop} {v:V} {e:Eff}
  (hr:qU (S.ev E.gv x) (S.ev E.gv y)=some (cnd,v,e)):aF E.P (bC c0 c ρ S nid v e) (run E.P F o c.w):=by
 unfold qU at hr
 split at hr
 ·rename_i k a k' b hx hy
  obtain ⟨rfl,hr2⟩:=aX hr
  cases hr2
  exact Ft hop (aR h hx).1 (aR h hy).1 (cD (yw (aR h hx).2 (aR h hy).2))
 ·cases hr
theorem rm {l:List V} {cs:List Value} (h:rdT ρ c l cs): ∀{k:Nat} {v:V},l[k]? =some v→ ∃u,cs[k]? =some u∧rd ρ c v u:=by
 induction l generalizing cs with
 | nil=>intro k v hk;simp at hk
 | cons d l ih=>
  intro k v hk
  simp only [rdT] at h
  obtain ⟨u,c2,rfl,h1,h2⟩:=h
  cases k with
  | zero=>simp at hk;subst hk;exact ⟨u,rfl,h1⟩
  | succ k=>exact ih h2 (by simpa using hk)
theorem F8 (h:Sim E c0 c ρ S F) {o:Oper} {x:Operand} {k:Nat} (hop:o.op= .extract x k) {cnd:Prop} {v:V} {e:Eff}
  (hr:qW k (S.ev E.gv x)=some (cnd,v,e)):aF E.P (bC c0 c ρ S nid v e) (run E.P F o c.w):=by
 unfold qW at hr
 split at hr
 ·rename_i l hx
  split at hr
  ·rename_i d hd
   cases hr
   have hp:=aR h hx
   simp only [rd] at hp
   obtain ⟨cs,he,hl⟩:=hp
   obtain ⟨u,hu,hu'⟩:=rm hl hd
   exact EZ hop he (by simpa using hu) (bD hu')
  ·cases hr
 ·cases hr
theorem F9 (h:Sim E c0 c ρ S F) {o:Oper} {x:Operand} (hop:o.op= .nilCheck x) {cnd:Prop} {v:V} {e:Eff}
  (hr:qX (S.ev E.gv x)=some (cnd,v,e)):aF E.P (bC c0 c ρ S nid v e) (run E.P F o c.w):=by
 unfold qX at hr
 split at hr
 ·rename_i id off hx
  cases hr
  have hp:=aR h hx
  have hp':=hp
  simp only [rd] at hp'
  obtain ⟨b,_,he⟩:=hp'
  rw [he] at hp
  exact tR hop he (bD hp)
 ·rename_i id m i off hx
  cases hr
  have hp:=aR h hx
  have hp':=hp
  simp only [rd] at hp'
  obtain ⟨u,_,g,len,cap,_,he⟩:=hp'
  rw [he] at hp
  exact tR hop he (bD hp)
 ·rename_i n g d hx
  cases hr
  have hp:=aR h hx
  obtain ⟨b,o,cs,he,_⟩:=gK.1 hp
  rw [he] at hp
  exact tR hop he (bD hp)
 ·rename_i f cap hx
  cases hr
  have hp:=aR h hx
  have hp':=hp
  simp only [rd] at hp'
  obtain ⟨cs,he,_⟩:=hp'
  rw [he] at hp
  exact yv (v:= .func (.func f) #[] cs.toArray) (w':=c.w) (by simp [run,execOp,hop,he]) (bD hp)
 ·cases hr
end
end Go.Proofs.YtgealhhkngbkbaaGreatDoor
namespace Go.Proofs.YtgealhhkngbkbaaGreatDoor
open Go.RowKit
section
variable {E:Env} {c0 c:Cx} {ρ:Ro} {S:St} {F:Fm} {nid:Nat}
theorem oG: ∀{ks:List Nat} {l m:List V} {r:Bool},eqC ks l m=some r→l.length=ks.length∧m.length=ks.length
 | [],[],[],_,_=>⟨rfl,rfl⟩
 | k::ks,a::l,b::m,r,h=>by
  have key: ∀q,eqC ks l m=some q→(a::l).length=(k::ks).length∧(b::m).length=(k::ks).length:=fun q hq=>by
   have:=oG hq
   simpa using this
  unfold eqC at h
  split at h
  ·rename_i e;cases e
  ·rename_i e1 e2 e3
   cases e1;cases e2;cases e3
   obtain ⟨hk,h⟩:=aX h
   simp only [Option.map_eq_some_iff] at h
   obtain ⟨q,hq,_⟩:=h
   exact key q hq
  ·rename_i e1 e2 e3
   cases e1;cases e2;cases e3
   simp only [Option.map_eq_some_iff] at h
   obtain ⟨q,hq,_⟩:=h
   exact key q hq
  ·rename_i e1 e2 e3
   cases e1;cases e2;cases e3
   simp only [Option.map_eq_some_iff] at h
   obtain ⟨q,hq,_⟩:=h
   exact key q hq
  ·cases h
 | [],_::_,_,_,h=>by simp [eqC] at h
 | [],[],_::_,_,h=>by simp [eqC] at h
 | _::_,[],_,_,h=>by unfold eqC at h;split at h<;>simp_all
 | _::_,_::_,[],_,h=>by unfold eqC at h;split at h<;>simp_all
theorem rn: ∀{k1 k2:List Nat} {l1 m1 l2 m2:List V} {r:Bool},l1.length=k1.length→m1.length=k1.length→eqC (k1++k2) (l1++l2) (m1++m2)=some r→ ∃r1 r2,eqC k1 l1 m1=some r1∧eqC k2 l2 m2=some r2∧r=(r1&&r2)
 | [],k2,[],[],l2,m2,r,_,_,h=>⟨true,r,rfl,h,by simp⟩
 | k::k1,k2,a::l1,b::m1,l2,m2,r,hl,hm,h=>by
  have hl':l1.length=k1.length:=by simpa using hl
  have hm':m1.length=k1.length:=by simpa using hm
  simp only [List.cons_append] at h
  unfold eqC at h
  split at h
  ·rename_i e;cases e
  ·rename_i e1 e2 e3
   cases e1;cases e2;cases e3
   obtain ⟨hk,h⟩:=aX h
   simp only [Option.map_eq_some_iff] at h
   obtain ⟨q,hq,rfl⟩:=h
   obtain ⟨r1,r2,e1,e2,rfl⟩:=rn hl' hm' hq
   refine ⟨_,r2,?_,e2,(Bool.and_assoc _ _ _).symm⟩
   simp [eqC,hk,e1]
  ·rename_i e1 e2 e3
   cases e1;cases e2;cases e3
   simp only [Option.map_eq_some_iff] at h
   obtain ⟨q,hq,rfl⟩:=h
   obtain ⟨r1,r2,e1,e2,rfl⟩:=rn hl' hm' hq
   exact ⟨_,r2,by simp [eqC,e1],e2,(Bool.and_assoc _ _ _).symm⟩
  ·rename_i e1 e2 e3
   cases e1;cases e2;cases e3
   simp only [Option.map_eq_some_iff] at h
   obtain ⟨q,hq,rfl⟩:=h
   obtain ⟨r1,r2,e1,e2,rfl⟩:=rn hl' hm' hq
   exact ⟨_,r2,by simp [eqC,e1],e2,(Bool.and_assoc _ _ _).symm⟩
  ·cases h
 | [],_,_::_,_,_,_,_,hl,_,_=>by simp at hl
 | [],_,[],_::_,_,_,_,_,hm,_=>by simp at hm
 | _::_,_,[],_,_,_,_,hl,_,_=>by simp at hl
 | _::_,_,_::_,[],_,_,_,_,hm,_=>by simp at hm
theorem yQ {k1 k2:List Nat} {la lb:List V} {r:Bool} {n:Nat} (h:eqC (k1++k2) la lb=some r) (hn:k1.length=n): ∃r1 r2,eqC k1 (la.take n) (lb.take n)=some r1∧eqC k2 (la.drop n) (lb.drop n)=some r2∧r=(r1&&r2):=by
 obtain ⟨h1,h2⟩:=oG h
 simp only [List.length_append] at h1 h2
 refine rn (l1:=la.take n) (m1:=lb.take n) (by simp;omega) (by simp;omega) ?_
 rwa [List.take_append_drop,List.take_append_drop]
theorem rp {U:TypeId} {w:World} (hT:TOk E.P E.tb U) {cs:List Value} {off:Nat} (hlen:off+(E.tb U).n≤cs.length):
  (Go.part U cs.toArray off).run E.P w= .ok (mkV (E.tb U).g ((cs.drop off).take (E.tb U).n)) w:=by
 have hag:=(hT.ty ro0).agg w
 have hsz:=(hT.ty ro0).size w
 rw [cb hT.one] at hsz
 have hag':(isAgg U).run E.P w= .ok (E.tb U).g w:=hag
 have hpos:=hT.pos
 cases hg:(E.tb U).g with
 | true=>
  rw [hg] at hag'
  have e:cs.toArray.extract off (off+(E.tb U).n)=((cs.drop off).take (E.tb U).n).toArray:=by
   simp [List.extract_eq_take_drop]
  simp only [Go.part,hag',Sem.run_bind,Result.andThen_ok,if_true,hsz,Sem.run_pure,mkV,e]
 | false=>
  rw [hg] at hag'
  have h1:=hT.one hg
  have hlt:off<cs.length:=by omega
  have hgt:cs.toArray[off]? =some cs[off]:=by simp [hlt]
  simp only [Go.part,hag',Sem.run_bind,Result.andThen_ok,Bool.false_eq_true,if_false,hgt,Sem.run_pure,mkV,h1]
  congr 1
  rw [List.drop_eq_getElem_cons hlt];rfl
def u4 (E:Env) (d n:Nat) (T:TypeId):Prop:=(dx E.tb d T).length=(E.tb T).n∧ ∀(ρ:Ro) (c:Cx) (w:World) (la lb:List V) (cs ds:List Value) (r:Bool),rdC ρ c la cs→rdC ρ c lb ds→eqC (dx E.tb d T) la lb=some r→
 (Op.equalIn n T (mkV (E.tb T).g cs) (mkV (E.tb T).g ds)).run E.P w= .ok r w
theorem mQ {la:List V} {cs:List Value} (h:rdC ρ c la cs) (hl:la.length=1): ∃a u,la=[a]∧cs=[u]∧rd ρ c a u:=by
 match la,hl with
 | [a],_=>
  simp only [rdC] at h
  obtain ⟨u,c2,rfl,_,h1,rfl⟩:=h
  exact ⟨a,u,rfl,rfl,h1⟩
theorem yR (hE:bn E) {d m:Nat} {N:Nat}: ∀(l:List (Nat×TypeId)) (fl:List Field) (off:Nat),dm E.tb N off l fl=true→(∀p∈l,u4 E d m p.2)→
  off+(l.flatMap fun p=>dx E.tb d p.2).length=N∧ ∀(w:World) (la lb:List V) (cs ds:List Value) (r:Bool),rdC ρ c la cs→rdC ρ c lb ds→la.length=N→lb.length=N→eqC (l.flatMap fun p=>dx E.tb d p.2) (la.drop off) (lb.drop off)=some r→(Op.eqFields m cs.toArray ds.toArray fl).run E.P w= .ok r w
 | [],[],off,hf,_=>by
  simp only [dm,decide_eq_true_eq] at hf
  refine ⟨by simpa using hf,fun w la lb cs ds r h1 h2 h3 h4 hr=> ?_⟩
  rw [List.drop_eq_nil_of_le (by omega),List.drop_eq_nil_of_le (by omega)] at hr
  simp only [List.flatMap_nil,eqC,Option.some.injEq] at hr
  subst hr
  simp [Op.eqFields]
 | (o,U)::l,f::fl,off,hf,hq=>by
  simp only [dm,Bool.and_eq_true,decide_eq_true_eq] at hf
  obtain ⟨⟨⟨⟨⟨rfl,hfo⟩,hft⟩,hok⟩,hname⟩,hrest⟩:=hf
  have hle:=(mP hrest).1
  have hT:=hE.t U hok
  obtain ⟨hcl,q⟩:=hq (o,U) (by simp)
  obtain ⟨hsum,ih⟩:=yR hE l fl _ hrest (fun p hp=>hq p (by simp [hp]))
  simp only at hcl q
  refine ⟨by simp only [List.flatMap_cons,List.length_append,hcl];omega,fun w la lb cs ds r h1 h2 h3 h4 hr=> ?_⟩
  have hl1:=ig h1
  have hl2:=ig h2
  rw [List.flatMap_cons] at hr
  obtain ⟨r1,r2,e1,e2,rfl⟩:=yQ hr hcl
  rw [List.drop_drop,List.drop_drop] at e2
  have p1:=rp (w:=w) hT (cs:=cs) (off:=o) (by omega)
  have p2:=rp (w:=w) hT (cs:=ds) (off:=o) (by omega)
  have q:=q ρ c w _ _ _ _ r1 (iX (E.tb U).n (iW o h1)) (iX (E.tb U).n (iW o h2)) e1
  have ih:=ih w la lb cs ds r2 h1 h2 h3 h4 e2
  simp only [Op.eqFields,hname,ne_eq,not_false_eq_true,if_true,Sem.run_bind,hft,hfo,p1,p2,Result.andThen_ok,q,Sem.run_ite]
  cases r1<;>simp [ih]
 | [],_::_,_,hf,_=>by simp [dm] at hf
 | _::_,[],_,hf,_=>by simp [dm] at hf
theorem yS {U:TypeId} (hT:TOk E.P E.tb U) {d m:Nat} (hq:u4 E d m U) {w:World} {la lb:List V} {cs ds:List Value} (h1:rdC ρ c la cs) (h2:rdC ρ c lb ds):
  ∀(j k:Nat) (r:Bool),la.length=(k+j)*(E.tb U).n→lb.length=(k+j)*(E.tb U).n→eqC (List.replicate j (dx E.tb d U)).flatten (la.drop (k*(E.tb U).n)) (lb.drop (k*(E.tb U).n))=some r→
   (forIn (List.range' k j) ((none,()):Option Bool×Unit) fun i (_:Option Bool×Unit)=>do
      let a←Go.part U cs.toArray (i*(E.tb U).n)
      let b←Go.part U ds.toArray (i*(E.tb U).n)
      let t←Op.equalIn m U a b
      if (!t)=true then pure (ForInStep.done ((some false,()):Option Bool×Unit)) else pure (ForInStep.yield (none,()))).run E.P w= .ok (if r then (none,()) else (some false,())) w
 | 0,k,r,h3,h4,hr=>by
  rw [List.drop_eq_nil_of_le (by rw [h3];simp),List.drop_eq_nil_of_le (by rw [h4];simp)] at hr
  simp only [List.replicate_zero,List.flatten_nil,eqC,Option.some.injEq] at hr
  subst hr
  simp
 | j+1,k,r,h3,h4,hr=>by
  have hl1:=ig h1
  have hl2:=ig h2
  have hk:(k+1)*(E.tb U).n≤(k+(j+1))*(E.tb U).n:=Nat.mul_le_mul_right _ (by omega)
  have hk':(k+1)*(E.tb U).n=k*(E.tb U).n+(E.tb U).n:=by rw [Nat.add_mul,Nat.one_mul]
  rw [List.replicate_succ,List.flatten_cons] at hr
  obtain ⟨r1,r2,e1,e2,rfl⟩:=yQ hr hq.1
  rw [List.drop_drop,List.drop_drop,←hk'] at e2
  have p1:=rp (w:=w) hT (cs:=cs) (off:=k*(E.tb U).n) (by omega)
  have p2:=rp (w:=w) hT (cs:=ds) (off:=k*(E.tb U).n) (by omega)
  have q:=hq.2 ρ c w _ _ _ _ r1 (iX (E.tb U).n (iW (k*(E.tb U).n) h1)) (iX (E.tb U).n (iW (k*(E.tb U).n) h2)) e1
  have ih:=yS hT hq (w:=w) h1 h2 j (k+1) r2 (by rw [h3];congr 1;omega) (by rw [h4];congr 1;omega) e2
  simp only [List.range'_succ,List.forIn_cons,Sem.run_bind,p1,p2,q,Result.andThen_ok,Sem.run_ite]
  cases r1
  ·simp
  ·simp only [Bool.not_true,Bool.false_eq_true,if_false,Sem.run_pure,Result.andThen_ok,Bool.true_and]
   exact ih
theorem yT (l:List Nat): ∀m,(List.replicate m l).flatten.length=m*l.length
 | 0=>by simp
 | m+1=>by rw [List.replicate_succ,List.flatten_cons,List.length_append,yT l m,Nat.add_mul];omega
theorem u5 {k:Nat} {la lb:List V} {r:Bool} (h:eqC [k] la lb=some r):
  (k=0∧ ∃q a b,la=[.int q a]∧lb=[.int q b]∧r=(a==b))∨(k=1∧ ∃a b,la=[.bool a]∧lb=[.bool b]∧r=(a==b))∨(k=2∧ ∃a b,la=[.str a]∧lb=[.str b]∧r=(a==b)):=by
 obtain ⟨h1,h2⟩:=oG h
 match la,lb,h1,h2 with
 | [a],[b],_,_=>
  rcases k with _|_|_|k
  ·cases a<;>cases b<;>simp [eqC] at h
   obtain ⟨rfl,rfl⟩:=h
   exact .inl ⟨rfl,_,_,_,rfl,rfl,rfl⟩
  ·cases a<;>cases b<;>simp [eqC] at h
   exact .inr (.inl ⟨rfl,_,_,rfl,rfl,h.symm⟩)
  ·cases a<;>cases b<;>simp [eqC] at h
   exact .inr (.inr ⟨rfl,_,_,rfl,rfl,h.symm⟩)
  ·exfalso;cases a<;>cases b<;>simp [eqC] at h
theorem u6 (hE:bn E): ∀(d n:Nat) (T:TypeId),d≤n→lq E.tb d T=true→u4 E d n T
 | 0,_,_,_,h=>by simp [lq] at h
 | d+1,0,_,hn,_=>by omega
 | d+1,n+1,T,hn,h=>by
  simp only [lq,Bool.and_eq_true,Bool.or_eq_true,decide_eq_true_eq,List.all_eq_true] at h
  obtain ⟨hok,h⟩:=h
  have hT:=hE.t T hok
  have leaf: ∀k,(E.tb T).k=k→k≤2→dx E.tb (d+1) T=[k]∧(E.tb T).g=false∧(E.tb T).n=1:=by
   intro k hk hk2
   have hg:(E.tb T).g=false:=by
    obtain ⟨dd,hd,hb⟩:=hT.kind
    cases dd<;>simp only [bT,Bool.and_eq_true,decide_eq_true_eq,Bool.not_eq_true'] at hb<;>first|exact hb.2|omega
   refine ⟨?_,hg,hT.one hg⟩
   unfold dx
   split<;>first|omega|rw [hk]
  rcases h with (((hk|hk)|hk)|⟨hk,hfs⟩)|⟨hk,hel⟩
  ·obtain ⟨h1,h2,h3⟩:=leaf 0 hk (by omega)
   refine ⟨by rw [h1,h3];rfl,fun ρ c w la lb cs ds r r1 r2 hr=> ?_⟩
   rw [h1] at hr
   rw [h2]
   rcases u5 hr with ⟨_,q,a,b,rfl,rfl,rfl⟩|⟨e,_⟩|⟨e,_⟩
   ·obtain ⟨a',u,e1,rfl,ha⟩:=mQ r1 rfl
    obtain ⟨b',v,e2,rfl,hb⟩:=mQ r2 rfl
    cases e1;cases e2
    rw [show mkV false [u]=u from rfl,show mkV false [v]=v from rfl,ha.1,hb.1]
    exact run_equalIn_int w n T q (E.tb T).ik a b (i6 hE hok hk)
   ·cases e
   ·cases e
  ·obtain ⟨h1,h2,h3⟩:=leaf 1 hk (by omega)
   refine ⟨by rw [h1,h3];rfl,fun ρ c w la lb cs ds r r1 r2 hr=> ?_⟩
   rw [h1] at hr
   rw [h2]
   rcases u5 hr with ⟨e,_⟩|⟨_,a,b,rfl,rfl,rfl⟩|⟨e,_⟩
   ·cases e
   ·obtain ⟨a',u,e1,rfl,ha⟩:=mQ r1 rfl
    obtain ⟨b',v,e2,rfl,hb⟩:=mQ r2 rfl
    cases e1;cases e2
    simp only [rd] at ha hb
    rw [show mkV false [u]=u from rfl,show mkV false [v]=v from rfl,ha,hb]
    exact run_equalIn_bool' w n T _ _ (rl hE hok hk)
   ·cases e
  ·obtain ⟨h1,h2,h3⟩:=leaf 2 hk (by omega)
   refine ⟨by rw [h1,h3];rfl,fun ρ c w la lb cs ds r r1 r2 hr=> ?_⟩
   rw [h1] at hr
   rw [h2]
   rcases u5 hr with ⟨e,_⟩|⟨e,_⟩|⟨_,a,b,rfl,rfl,rfl⟩
   ·cases e
   ·cases e
   ·obtain ⟨a',u,e1,rfl,ha⟩:=mQ r1 rfl
    obtain ⟨b',v,e2,rfl,hb⟩:=mQ r2 rfl
    cases e1;cases e2
    rw [show mkV false [u]=u from rfl,show mkV false [v]=v from rfl,ha.1,hb.1]
    have:=run_equalIn_string (P:=E.P) w n T ⟨a.toArray⟩ ⟨b.toArray⟩ (gL hE hok hk)
    rwa [tV,tV] at this
  ·obtain ⟨dd,hd,hb⟩:=hT.kind
   cases dd with
   | struct fs=>
    simp only [bT,Bool.and_eq_true,Bool.not_eq_true'] at hb
    have hck:dx E.tb (d+1) T=(E.tb T).fs.flatMap fun p=>dx E.tb d p.2:=by
     simp only [dx,hk]
    have hfr:=fun (ρ:Ro) (c:Cx)=>yR (ρ:=ρ) (c:=c) hE _ _ 0 hb.1.2 (fun p hp=>u6 hE d n p.2 (by omega) (hfs p hp))
    have hlen:(dx E.tb (d+1) T).length=(E.tb T).n:=by
     rw [hck];have:=(hfr ro0 ⟨[],default,(by simp),[]⟩).1;omega
    refine ⟨hlen,fun ρ c w la lb cs ds r r1 r2 hr=> ?_⟩
    obtain ⟨l1,l2⟩:=oG hr
    rw [hlen] at l1 l2
    rw [hck] at hr
    rw [hb.1.1.2]
    have hfs':E.P.fieldsOf T=fs:=by simp [Program.fieldsOf,hd]
    simp only [mkV,if_true]
    rw [run_equalIn_struct w n T _ _ (by rw [hfs'];exact hd) hb.2,hfs']
    exact (hfr ρ c).2 w la lb cs ds r r1 r2 l1 l2 (by simpa using hr)
   | _=>simp_all [bT]
  ·obtain ⟨dd,hd,hb⟩:=hT.kind
   cases dd with
   | array m e=>
    simp only [bT,Bool.and_eq_true,decide_eq_true_eq] at hb
    obtain ⟨⟨⟨⟨⟨_,h6⟩,h7⟩,h8⟩,h9⟩,h10⟩:=hb
    subst h6 h7
    have hET:=hE.t _ h8
    have hq:=u6 hE d n _ (by omega) hel
    have hck:dx E.tb (d+1) T=(List.replicate (E.tb T).len (dx E.tb d (E.tb T).el)).flatten:=by
     simp only [dx,hk]
    have hlen:(dx E.tb (d+1) T).length=(E.tb T).n:=by
     rw [hck,h10,yT,hq.1]
    refine ⟨hlen,fun ρ c w la lb cs ds r r1 r2 hr=> ?_⟩
    obtain ⟨l1,l2⟩:=oG hr
    rw [hlen] at l1 l2
    rw [hck] at hr
    have hru:(underlying T).run E.P w= .ok (.array (E.tb T).len (E.tb T).el) w:=by simp [underlying,hd]
    have hsz:=(hET.ty ro0).size w
    rw [cb hET.one] at hsz
    have hloop:=yS hET hq (w:=w) r1 r2 (E.tb T).len 0 r (by rw [l1,h10];congr 1;omega) (by rw [l2,h10];congr 1;omega) (by simpa using hr)
    rw [h9]
    simp only [mkV,if_true,Op.equalIn,Sem.run_bind,hru,Result.andThen_ok,hsz,Std.Legacy.Range.forIn_eq_forIn_range',Std.Legacy.Range.size,Nat.sub_zero,Nat.add_one_sub_one,Nat.div_one]
    rw [hloop]
    simp only [Result.andThen_ok]
    cases r<;>simp
   | _=>simp_all [bT]
theorem F_ (hE:bn E) (h:Sim E c0 c ρ S F) {o:Oper} {op:BinOp} {U W:TypeId} {x y:Operand} {a b:List V} (hop:o.op= .binOp op U x y W) (hU:(E.tb U).ok=true) (hcm:(E.tb U).cmp=true) (hg:(E.tb U).g=true) {cnd:Prop} {v:V} {e:Eff}
  (hx:rd ρ c (.agg a) (ev F x)) (hy:rd ρ c (.agg b) (ev F y)) (hr:ox op (eqC (E.tb U).ck a b)=some (cnd,v,e)):aF E.P (bC c0 c ρ S nid v e) (run E.P F o c.w):=by
 have hT:=hE.t U hU
 obtain ⟨h1,h2,h3⟩:=hT.cmp hcm
 rw [h3] at hr
 obtain ⟨hlen,hq⟩:=u6 hE 9 10000 U (by omega) h1
 cases hb:eqC (dx E.tb 9 U) a b with
 | none=>rw [hb] at hr;simp [ox] at hr
 | some r=>
  rw [hb] at hr
  simp only [rd] at hx hy
  obtain ⟨cs,e1,l1⟩:=hx
  obtain ⟨ds,e2,l2⟩:=hy
  have hrun:=hq ρ c c.w a b cs ds r l1 l2 hb
  rw [hg] at hrun
  simp only [mkV,if_true] at hrun
  unfold ox at hr
  simp only at hr
  split at hr
  ·cases hr
   refine yv (v:= .bool r) (w':=c.w) ?_ dV
   simp only [run,execOp,hop,e1,e2,Sem.run_bind,run_eqGuard_agg c.w .eql U x y _ _ h2,Result.andThen_ok,run_eql_struct,hrun,Sem.run_pure]
  ·cases hr
   refine yv (v:= .bool (!r)) (w':=c.w) ?_ dV
   simp only [run,execOp,hop,e1,e2,Sem.run_bind,run_eqGuard_agg c.w .neq U x y _ _ h2,Result.andThen_ok,run_neq_struct,hrun,Sem.run_pure]
  ·cases hr
end
end Go.Proofs.YtgealhhkngbkbaaGreatDoor
namespace Go.Proofs.YtgealhhkngbkbaaGreatDoor
open Go.RowKit
section
variable {E:Env} {c0 c:Cx} {ρ:Ro} {S:St} {F:Fm} {nid:Nat}
def da (ρ:Ro) (n:Nat) (v:Value):Ro:=fun i=>if i=n then some v else ρ i
theorem dn {n:Nat} {v:Value}:da ρ n v n=some v:=by simp [da]
theorem im {n i:Nat} {v:Value} (h:i≠n):da ρ n v i=ρ i:=by simp [da,h]
theorem yU {b n:Nat} {g:Bool} {d:V} {c':Cx} (hf:ρ nid=none) (hs:cn c0 c) (hle:c.le c') (hb:c.w.heap.size=b) (hv:Var c' b (rV ρ n g) d):
  bC c0 c ρ S nid (.ptr nid 0) (.new (.var n g d)) (.pointer (some ⟨b,0,none⟩)) c'.w:=by
 have hro:=oE (ρ':=da ρ nid (.pointer (some ⟨b,0,none⟩))) hf (fun i hi=>im hi)
 refine ⟨c',da ρ nid (.pointer (some ⟨b,0,none⟩)),rfl,trivial,⟨hle,fun i hi=>im hi,?_,?_⟩,?_⟩
 ·obtain ⟨h1,T,cs,h2,h3,h4⟩:=hv
  exact ⟨b,dn,.inl (by rw [←hb];exact hs.size),h1,T,cs,h2,h3,dl hro h4⟩
 ·intro k hk
  simp only [an,dn,Option.some.injEq] at hk
  omega
 ·simp only [rd];exact ⟨b,dn,rfl⟩
theorem yV (hE:bn E) {T:TypeId} (h:(E.tb T).ok=true) {g:Bool} {k:IntKind} {n:Nat} (hr:mK E.tb T=some (g,k,n)):oq E.P T g k n:=by
 unfold mK at hr
 split at hr
 ·rename_i hk
  cases hr
  exact Fw (i6 hE h hk)
 ·rename_i hk
  obtain ⟨h0,hr⟩:=aX hr
  cases hr
  obtain ⟨h1,h2⟩:=j5 hE h hk
  have hg:(E.tb (E.tb T).el).g=false:=by
   obtain ⟨d,hd,hb⟩:=(hE.t _ h2).kind
   cases d<;>simp_all [bT]
  exact Fx h1 (i6 hE h2 h0) ((hE.t _ h2).ty ro0) hg (by rw [cb (hE.t _ h2).one];exact (hE.t _ h2).one hg)
 ·cases hr
theorem yW {k:IntKind}: ∀{l:List V} {cs:List Value} {z:List Int},lj k l=some z→rdC ρ c l cs→cs=z.map (Value.int k)
 | [],cs,z,h,hc=>by
  simp only [lj,Option.some.injEq] at h
  subst h
  simpa [rdC] using hc
 | a::l,cs,z,h,hc=>by
  unfold lj at h
  split at h
  ·rename_i e;cases e
  ·rename_i k' a' l' e
   cases e
   obtain ⟨rfl,h⟩:=aX h
   split at h
   ·rename_i m hm
    cases h
    simp only [rdC] at hc
    obtain ⟨u,c2,rfl,_,h1,h2⟩:=hc
    simp only [rd] at h1
    rw [yW hm h2,List.map_cons,h1.1]
   ·cases h
  ·cases h
theorem yX (h:Sim E c0 c ρ S F) {g:Bool} {k:IntKind} {y:Operand} {z:List Int} (hz:oC g k (S.ev E.gv y)=some z):ev F y=bM g k z:=by
 unfold oC at hz
 split at hz
 ·rename_i k' a hy
  split at hz
  ·rename_i hk
   obtain ⟨rfl,rfl⟩:=hk
   cases hz
   exact (aR h hy).1
  ·cases hz
 ·rename_i l hy
  obtain ⟨rfl,hz⟩:g=true∧lj k l=some z:=by
   split at hz
   ·exact ⟨by assumption,hz⟩
   ·cases hz
  have h1:=aR h hy
  simp only [rd] at h1
  obtain ⟨cs,e,h2⟩:=h1
  rw [e,yW hz h2]
  rfl
 ·cases hz
theorem Ga (hE:bn E) (h:Sim E c0 c ρ S F) (hf:ρ nid=none) {o:Oper} {T:TypeId} (hop:o.op= .makeMap T none) (hU:(E.tb T).ok=true) {cnd:Prop} {v:V} {e:Eff}
  (hr:rc E.tb (E.tb T) nid=some (cnd,v,e)):aF E.P (bC c0 c ρ S nid v e) (run E.P F o c.w):=by
 unfold rc at hr
 obtain ⟨_,hr⟩:=aX hr
 split at hr
 ·rename_i g k n hk
  cases hr
  refine Fv hop fun r c' hle hs hm=>⟨c',da ρ nid (.map (some r)),rfl,trivial,⟨hle,fun i hi=>im hi,⟨r,dn,.inl (by rw [←hs];exact h.since.size),hm⟩,fun q hq=> ?_⟩,?_⟩
  ·simp only [an,dn,blk,Option.some.injEq] at hq
   omega
  ·simp only [rd]
   exact ⟨dn,rfl⟩
 ·cases hr
theorem Gb (hE:bn E) (h:Sim E c0 c ρ S F) {o:Oper} {T:TypeId} {x y:Operand} (hop:o.op= .lookup T x y false) (hU:(E.tb T).ok=true) {cnd:Prop} {v:V} {e:Eff}
  (hr:re E.tb S.H (E.tb T) (S.ev E.gv x) (S.ev E.gv y)=some (cnd,v,e)) (hc:cnd):aF E.P (bC c0 c ρ S nid v e) (run E.P F o c.w):=by
 unfold re at hr
 split at hr
 ·rename_i id hx
  obtain ⟨⟨hk,hzf⟩,hr⟩:=aX hr
  obtain ⟨hT,hKT,hET,hb⟩:=yO hE hU hk
  unfold uN at hr
  split at hr
  ·rename_i g k n l hH
   obtain ⟨hki,hr⟩:=aX hr
   unfold oD at hr
   split at hr
   ·rename_i z hz
    cases hr
    obtain ⟨r,h1,_,h3⟩:=h.heap _ _ hH
    have hp:=aR h hx
    simp only [rd] at hp
    have e1:ev F x= .map (some r):=by have:=hp.1;rw [h1] at this;exact (Option.some.inj this).symm
    obtain ⟨i,zv,hi,hzz,_,_,hzr⟩:=(hE.t _ hET).info
    have hg:=(hE.t _ hET)
    have hzv: ∀w,(zeroValue (E.tb T).len).run E.P w= .ok (.bool false) w:=by
     have hgb:(E.tb (E.tb T).len).g=false:=by
      obtain ⟨d,hd,hbb⟩:=hg.kind
      cases d<;>simp_all [bT]
     have hz2:=hzr ρ c
     have:zv= .bool false:=by
      rw [hgb] at hz2
      have h0:=fK hz2
      cases hv0:(E.tb (E.tb T).len).z<;>rw [hv0] at h0 hzf<;>simp [zF] at hzf
      rename_i b0
      cases b0
      ·simpa [rd] using h0
      ·cases hzf
     exact fun w=>by simp [zeroValue,typeInfo,hi,hzz,this]
    exact Fy hop hT (yV hE hKT hki) (rl hE hET hb) e1 h3 (yX h hz) hc hzv (bD rfl)
   ·cases hr
  ·cases hr
 ·cases hr
theorem Gc (hE:bn E) (h:Sim E c0 c ρ S F) {o:Oper} {T:TypeId} {x y u:Operand} (hop:o.op= .mapUpdate T x y u) (hU:(E.tb T).ok=true) {cnd:Prop} {v:V} {e:Eff}
  (hr:rf E.tb S.H (E.tb T) (S.ev E.gv x) (S.ev E.gv y) (S.ev E.gv u)=some (cnd,v,e)) (hc:cnd):aF E.P (bC c0 c ρ S nid v e) (run E.P F o c.w):=by
 unfold rf at hr
 split at hr
 ·rename_i id hx hu
  obtain ⟨hk,hr⟩:=aX hr
  obtain ⟨hT,hKT,_,_⟩:=yO hE hU hk
  unfold uO at hr
  split at hr
  ·rename_i g k n l hH
   obtain ⟨hki,hr⟩:=aX hr
   unfold oD at hr
   split at hr
   ·rename_i z hz
    cases hr
    obtain ⟨r,h1,h2,h3⟩:=h.heap _ _ hH
    have hp:=aR h hx
    simp only [rd] at hp
    have e1:ev F x= .map (some r):=by have:=hp.1;rw [h1] at this;exact (Option.some.inj this).symm
    have hbo:an ρ id=some r:=by simp only [an,h1,blk]
    refine FB hop hT (yV hE hKT hki) e1 h3 (yX h hz) hc (aR h hu) fun c' hm hs=>⟨c',ρ,rfl,⟨_,hH,rfl,rfl⟩,⟨?_,rfl,⟨r,h1,h2,hs⟩⟩,trivial⟩
    rw [hbo]
    exact hm.chg h3.1
   ·cases hr
  ·cases hr
 ·cases hr
theorem Gd (hE:bn E) (h:Sim E c0 c ρ S F) (hf:ρ nid=none) {o:Oper} {U:TypeId} (hop:o.op= .alloc U) (hU:(E.tb U).ok=true) {cnd:Prop} {v:V} {e:Eff}
  (hr:q7 (E.tb U) nid True (E.tb U).z=some (cnd,v,e)):aF E.P (bC c0 c ρ S nid v e) (run E.P F o c.w):=by
 cases hr
 obtain ⟨i,zv,hi,hz,hsz,hb,hzr⟩:=(hE.t U hU).info
 have hzv: ∀w,(zeroValue U).run E.P w= .ok zv w:=fun w=>by simp [zeroValue,typeInfo,hi,hz]
 exact Ev hop hzv (hzr ρ c) fun b c' hle hbz hlt hv=>yU hf h.since hle hbz hv
theorem Ge (hE:bn E) (h:Sim E c0 c ρ S F) (hf:ρ nid=none) {o:Oper} {U:TypeId} {x:Operand} (hop:o.op= .box U x) (hU:(E.tb U).ok=true) {cnd:Prop} {v:V} {e:Eff}
  (hr:uD (E.tb U) nid (S.evT E U x)=some (cnd,v,e)) (hc:cnd):aF E.P (bC c0 c ρ S nid v e) (run E.P F o c.w):=by
 cases hx:S.evT E U x with
 | none=>rw [hx] at hr;cases hr
 | some d=>
  rw [hx] at hr
  cases hr
  exact Eu hop (fJ (hE.t U hU).one hc (eU h hx)) fun b c' hle hbz hlt hv=>yU hf h.since hle hbz hv
theorem yY (hE:bn E) (h:Sim E c0 c ρ S F) {pl:Array (Nat×Nat)} {n:Nat} {fs:List (Nat×TypeId)}
  (hfs: ∀(k o:Nat) (U:TypeId),fs[k]? =some (o,U)→(E.tb U).ok=true∧o+(E.tb U).n≤n∧pl[k]? =some (o,(E.tb U).n)):
  ∀(ps:List (Nat×Operand)) (c1:Prop) (d:V) {cnd:Prop} {v:V} {e:Eff},mG E S fs c1 d ps=some (cnd,v,e)→cnd→c1∧e= .none∧ic (pl[·]?) (rV ρ n true) c (ps.map fun p=>(p.1,ev F p.2)) d v
 | [],c1,d,cnd,v,e,hr,hc=>by
  simp only [mG] at hr
  cases hr
  exact ⟨hc,rfl,tT⟩
 | (k,x)::ps,c1,d,cnd,v,e,hr,hc=>by
  simp only [mG] at hr
  split at hr
  ·rename_i o U hk
   split at hr
   ·rename_i u hu
    obtain ⟨⟨h1,h2⟩,h3,h4⟩:=yY hE h hfs ps _ _ hr hc
    obtain ⟨h5,h6,h7⟩:=hfs k o U hk
    have hT:=hE.t U h5
    refine ⟨h1,h3,tU (fj h6 hT.one) ?_ (fJ hT.one h2 (eU h hu)) h4⟩
    rw [cb hT.one];exact h7
   ·cases hr
  ·cases hr
theorem yZ (hE:bn E) (h:Sim E c0 c ρ S F) {el:TypeId} {m n:Nat} (hel:(E.tb el).ok=true) (hn:n=m*(E.tb el).n):
  ∀(ps:List (Nat×Operand)) (c1:Prop) (d:V) {cnd:Prop} {v:V} {e:Eff},lf E S el m c1 d ps=some (cnd,v,e)→cnd→c1∧e= .none∧ic (fun i=>some (i*(E.tb el).n,(E.tb el).n)) (rV ρ n true) c (ps.map fun p=>(p.1,ev F p.2)) d v
 | [],c1,d,cnd,v,e,hr,hc=>by
  simp only [lf] at hr
  cases hr
  exact ⟨hc,rfl,tT⟩
 | (k,x)::ps,c1,d,cnd,v,e,hr,hc=>by
  simp only [lf] at hr
  split at hr
  ·rename_i u hu
   obtain ⟨⟨h1,hk,h2⟩,h3,h4⟩:=yZ hE h hel hn ps _ _ hr hc
   have hT:=hE.t el hel
   have h6:k*(E.tb el).n+(E.tb el).n≤n:=by
    have:=Nat.mul_le_mul_right (E.tb el).n (Nat.succ_le_of_lt hk)
    rw [Nat.succ_mul] at this
    omega
   refine ⟨h1,h3,tU (fj h6 hT.one) ?_ (fJ hT.one h2 (eU h hu)) h4⟩
   rw [cb hT.one]
  ·cases hr
theorem Gf (hE:bn E) (h:Sim E c0 c ρ S F) {o:Oper} {U:TypeId} {ps:Array (Nat×Operand)} (hop:o.op= .build U ps) (hU:(E.tb U).ok=true) (h4:(E.tb U).k=4) {cnd:Prop} {v:V} {e:Eff}
  (hr:lf E S (E.tb U).el (E.tb U).len True (E.tb U).z ps.toList=some (cnd,v,e)) (hc:cnd):aF E.P (bC c0 c ρ S nid v e) (run E.P F o c.w):=by
 have hT:=hE.t U hU
 obtain ⟨d,hd,hb⟩:=hT.kind
 cases d with
 | array m e1=>
  simp only [bT,Bool.and_eq_true,decide_eq_true_eq] at hb
  obtain ⟨⟨⟨⟨⟨_,h5⟩,h6⟩,h7⟩,hg⟩,h8⟩:=hb
  subst h5 h6
  have hE1:=hE.t _ h7
  have hsz1: ∀w,(sizeOf (E.tb U).el).run E.P w= .ok (E.tb (E.tb U).el).n w:=fun w=>by
   have:=(hE1.ty ro0).size w
   rwa [cb hE1.one] at this
  obtain ⟨i,zv,hi,hz,hsz,hby,hzr⟩:=hT.info
  have hzv: ∀w,(zeroValue U).run E.P w= .ok zv w:=fun w=>by simp [zeroValue,typeInfo,hi,hz]
  obtain ⟨_,rfl,hfill⟩:=yZ (ρ:=ρ) (c:=c) (F:=F) hE h h7 h8 ps.toList True (E.tb U).z hr hc
  have hzr':=hzr ρ c
  rw [hg] at hzr'
  exact Fd (parts:=ps.toList) (by simpa using hop) hd hsz1 hzv hzr' rfl hfill fun u hu=>bD (fK hu)
 | _=>simp_all [bT]
theorem Gg (hE:bn E) (h:Sim E c0 c ρ S F) {o:Oper} {U:TypeId} {ps:Array (Nat×Operand)} (hop:o.op= .build U ps) (hU:(E.tb U).ok=true) {cnd:Prop} {v:V} {e:Eff}
  (hr:qY E S (E.tb U) ps.toList=some (cnd,v,e)) (hc:cnd):aF E.P (bC c0 c ρ S nid v e) (run E.P F o c.w):=by
 unfold qY at hr
 by_cases h5:(E.tb U).k=5
 case neg=>
  rw [if_neg h5] at hr
  obtain ⟨h4,hr2⟩:=aX hr
  exact Gf hE h hop hU h4 hr2 hc
 rw [if_pos h5] at hr
 have hr2:=hr
 have hT:=hE.t U hU
 obtain ⟨d,hd,hb⟩:=hT.kind
 cases d with
 | struct fs=>
  simp only [bT,Bool.and_eq_true] at hb
  have hg:=hb.1.1.2
  have hget: ∀{k o:Nat} {W:TypeId},(E.tb U).fs[k]? =some (o,W)→ ∃f,fs.toList[k]? =some f∧f.offset=o∧f.type=W∧(E.tb W).ok=true∧f.name≠ "_" ∧o+(E.tb W).n≤(E.tb U).n:=fun hk=>(mP hb.1.2).2 hk
  -- the places
  have hpl: ∀(l:List (Nat×TypeId)) (fl:List Field) (off:Nat),dm E.tb (E.tb U).n off l fl=true→ ∀w,(fl.mapM fun f=>do pure (f.offset,←sizeOf f.type):Sem (List (Nat×Nat))).run E.P w= .ok (l.map fun p=>(p.1,(E.tb p.2).n)) w:=by
   intro l
   induction l with
   | nil=>intro fl off hf w;cases fl<;>simp_all [dm]
   | cons p l ih=>
    obtain ⟨o1,U1⟩:=p
    intro fl off hf w
    cases fl with
    | nil=>simp [dm] at hf
    | cons f fl=>
     simp only [dm,Bool.and_eq_true,decide_eq_true_eq] at hf
     obtain ⟨⟨⟨⟨⟨h1,h2⟩,h3⟩,h4⟩,h5⟩,h6⟩:=hf
     have hsz:=((hE.t U1 h4).ty ro0).size w
     rw [cb (hE.t U1 h4).one] at hsz
     have ih':=ih fl _ h6 w
     simp only [List.mapM_cons,Sem.run_bind,h3,hsz,Result.andThen_ok,Sem.run_pure,ih',List.map_cons,h2]
  have hbo:yk E.P U ((E.tb U).fs.map fun p=>(p.1,(E.tb p.2).n)).toArray:=by
   refine ⟨fs,hd,fun w=> ?_⟩
   have:=hpl _ _ _ hb.1.2 w
   rw [Array.mapM_eq_mapM_toList]
   simp only [map_eq_pure_bind,Sem.run_bind,this,Result.andThen_ok,Sem.run_pure]
  obtain ⟨i,zv,hi,hz,hsz,hby,hzr⟩:=hT.info
  have hzv: ∀w,(zeroValue U).run E.P w= .ok zv w:=fun w=>by simp [zeroValue,typeInfo,hi,hz]
  obtain ⟨_,rfl,hfill⟩:=yY (ρ:=ρ) (c:=c) (F:=F) (n:=(E.tb U).n) (pl:=((E.tb U).fs.map fun p=>(p.1,(E.tb p.2).n)).toArray) hE h (fun k o1 U1 hk=>by
   obtain ⟨f,e1,e2,e3,e4,e5,e6⟩:=hget hk
   exact ⟨e4,e6,by simp [hk]⟩) ps.toList True (E.tb U).z hr2 hc
  have hzr':=hzr ρ c
  rw [hg] at hzr'
  exact Fc (parts:=ps.toList) (by simpa using hop) hbo hzv hzr' rfl hfill fun u hu=>bD (fK hu)
 | _=>simp_all [bT]
theorem rq (hE:bn E) {T:TypeId} (h:(E.tb T).ok=true) (hk:(E.tb T).k=3):mD E.P T (E.tb T).el (rV ro0 (E.tb (E.tb T).el).n (E.tb (E.tb T).el).g) (E.tb (E.tb T).el).by' (E.tb (E.tb T).el).z:=by
 obtain ⟨hu,hel⟩:=c_ hE h hk
 have hT:=hE.t _ hel
 obtain ⟨i,zv,hi,hz,hsz,hby,hzr⟩:=hT.info
 refine ⟨hu,⟨i,zv,hi,hz,?_,hby,fun c=>hzr ro0 c⟩,?_⟩
 ·rw [cb hT.one];exact hsz
 ·rw [cb hT.one];exact hT.pos
theorem u7 {T:TypeId} {n:Nat} {g:Bool} {z:Option Bool} {l:List V} {c':Cx} {v:Value} (hf:ρ nid=none) (hs:cn c0 c) (hle:c.le c') (ho:Own c' T v (rV ro0 n g) l) (hk: ∀k,blk v=some k→c.w.heap.size≤k) (h1:g=false→n=1)
  (hz: ∃a cap,v= .slice a l.length cap∧zOk z a cap):bC c0 c ρ S nid (.own nid) (.new (.own T n g z l)) v c'.w:=by
 refine ⟨c',da ρ nid v,rfl,trivial,⟨hle,fun i hi=>im hi,?_,?_⟩,?_⟩
 ·exact ⟨v,dn,ho,fun k hk'=> .inl (Nat.le_trans hs.size (hk k hk')),h1,hz⟩
 ·intro k hk'
  obtain ⟨a,cap,rfl,_⟩:=hz
  simp only [an,dn] at hk'
  exact hk k hk'
 ·obtain ⟨a,cap,rfl,_⟩:=hz
  simp only [rd]
  exact ⟨dn,rfl⟩
mutual
theorem y3 (h:Sim E c0 c ρ S F): ∀{d:V} {v:Value},rd ρ c d v→rd ρ c (pvw S.H d) v
 | .int _ _,_,hr=>hr
 | .bool _,_,hr=>hr
 | .ifc _,_,hr=>hr
 | .str _,_,hr=>hr
 | .agg l,v,hr=>by
  simp only [rd,pvw] at hr⊢
  obtain ⟨cs,e,hr⟩:=hr
  exact ⟨cs,e,y4 h hr⟩
 | .sl _ _ _ _,_,hr=>hr
 | .pp _ _ _,_,hr=>hr
 | .own i,v,hr=>by
  simp only [pvw]
  cases hb:ak S.H i with
  | none=>exact hr
  | some b=>
   cases b with
   | pown n g z l=>
    have h1:=h.heap _ _ hb
    obtain ⟨v',h2,h3⟩:=h1
    simp only [rd] at hr
    rw [hr.1] at h2;cases h2
    exact h3
   | _=>exact hr
 | .ptr _ _,_,hr=>hr
 | .optr _ _ _ _,_,hr=>hr
 | .osub _ _ _ _,_,hr=>hr
 | .tup _,_,hr=>hr
 | .fn _ _,_,hr=>hr
 | .opq _,_,hr=>hr
 | .un,_,hr=>hr
theorem y4 (h:Sim E c0 c ρ S F): ∀{l:List V} {cs:List Value},rdC ρ c l cs→rdC ρ c (lg S.H l) cs
 | [],_,hr=>hr
 | d::l,cs,hr=>by
  simp only [rdC,lg] at hr⊢
  obtain ⟨u,c2,e,h1,h2,h3⟩:=hr
  exact ⟨u,c2,e,h1,y3 h h2,y4 h h3⟩
end
theorem y5 (hE:bn E) (h:Sim E c0 c ρ S F) {el:TypeId} (hel:(E.tb el).ok=true) {n:Nat}:
  ∀(ps:List (Nat×Operand)) (c1:Prop) (d:List V) {cnd:Prop} {l:List V},jX E S el n c1 d ps=some (cnd,l)→cnd→c1∧l.length=d.length∧
   ic (fun i=>some (i*(rV ro0 (E.tb el).n (E.tb el).g).n,(rV ro0 (E.tb el).n (E.tb el).g).n)) (mB (rV ro0 (E.tb el).n (E.tb el).g) n) c (ps.map fun p=>(p.1,ev F p.2)) d l
 | [],c1,d,cnd,l,hr,hc=>by
  simp only [jX] at hr
  cases hr
  exact ⟨hc,rfl,tT⟩
 | (k,x)::ps,c1,d,cnd,l,hr,hc=>by
  simp only [jX] at hr
  split at hr
  ·rename_i u hu
   obtain ⟨⟨h1,h2,h3,h4⟩,h5,h6⟩:=y5 hE h hel ps _ _ hr hc
   have hT:=hE.t el hel
   refine ⟨h1,by simpa using h5,tU (Sub.elem k h2) rfl (fJ hT.one h4 (j4 h3 (y3 h (eU h hu)))) h6⟩
  ·cases hr
theorem Gh {P:Program} {o:Oper} {α:Type} {T E:TypeId} {r:Rep α} {bytes n:Nat} {z:α} {parts:List (Nat×Operand)} {d:List α} (ho:o.op= .buildSlice T n parts.toArray) (hE:mD P T E r bytes z) (hn:n*r.n≤16777216)
  (hf:ic (fun i=>some (i*r.n,r.n)) (mB r n) c (parts.map fun p=>(p.1,ev F p.2)) (List.replicate n z) d):
  ∃w1,run P F o c.w= .ok (.value (.slice (some ⟨c.w.heap.size,0,none⟩) n n)) w1:=by
 obtain ⟨i,zv,hi,hz,hsz,hb,hzr⟩:=hE.info
 have hpos:=hE.pos
 have hzs:zv.cells.size=r.n:=by
  have:=r.len (hzr c).cells
  simpa using this
 have hru:(underlying T).run P c.w= .ok (.slice E) c.w:=by simp [underlying,hE.under]
 have hz0:(mB r n).is c (madeCells zv.cells (n*i.size)).toList (List.replicate n z):=by
  rw [hsz,←hzs,tX]
  exact ⟨by simp,tS n (hzr c).cells⟩
 obtain ⟨cs',h1,h2⟩:=hf _ hz0
 have hnot: ¬(16777216<n*r.n):=by omega
 refine ⟨c.w.alloc (.cells cs' E),?_⟩
 by_cases hn0:n=0
 ·subst hn0
  have h1':Instr.fill (fun i=>some (i*r.n,r.n)) #[] (parts.map fun p=>(p.1,ev F p.2))=some cs':=by simpa [madeCells,Array.range_zero'] using h1
  simp [run,execOp,ho,Instr.buildSlice,hru,sizeOf,typeInfo,hi,hsz,Array.range_zero',h1',newRow]
 ·have hne:n*r.n≠0:=Nat.mul_ne_zero hn0 (by omega)
  rw [hsz] at h1
  simp [run,execOp,ho,Instr.buildSlice,hru,sizeOf,typeInfo,hi,zeroValue,hz,hsz,hnot,hne]
  have hn0': ¬r.n=0:=by omega
  rw [show (Array.map (fun x=>zv.cells[x% zv.cells.size]!) (Array.range (n*r.n)))=madeCells zv.cells (n*r.n) from rfl,h1]
  simp [newRow]
theorem Gi (hE:bn E) (h:Sim E c0 c ρ S F) (hf:ρ nid=none) {o:Oper} {U:TypeId} {n:Nat} {ps:Array (Nat×Operand)} (hop:o.op= .buildSlice U n ps) (hU:(E.tb U).ok=true) {cnd:Prop} {v:V} {e:Eff}
  (hr:qZ E U n nid (jX E S (E.tb U).el n True (List.replicate n (E.tb (E.tb U).el).z) ps.toList)=some (cnd,v,e)) (hc:cnd):aF E.P (bC c0 c ρ S nid v e) (run E.P F o c.w):=by
 cases hs:jX E S (E.tb U).el n True (List.replicate n (E.tb (E.tb U).el).z) ps.toList with
 | none=>rw [hs] at hr;cases hr
 | some p=>
  obtain ⟨c1,l⟩:=p
  rw [hs] at hr
  unfold qZ at hr
  obtain ⟨⟨h3,h4⟩,hr2⟩:=aX hr
  cases hr2
  obtain ⟨hu,hel⟩:=c_ hE hU h3
  have hT:=hE.t _ hel
  obtain ⟨_,hlen,hfill⟩:=y5 (ρ:=ρ) (c:=c) (F:=F) hE h hel ps.toList True _ hs hc
  rw [List.length_replicate] at hlen
  have hEl:=rq hE hU h3
  obtain ⟨i,zv,hi,hz,hsz,hb,hzr⟩:=hEl.info
  have hn':n*(rV ro0 (E.tb (E.tb U).el).n (E.tb (E.tb U).el).g).n≤16777216:=by rw [cb hT.one];exact h4
  obtain ⟨w1,hw1⟩:=Gh (P:=E.P) (F:=F) (o:=o) (c:=c) (parts:=ps.toList) (by simpa using hop) hEl hn' hfill
  have key:=Fi (P:=E.P) (F:=F) (o:=o) (c:=c) (K:=fun u w'=>u= .slice (some ⟨c.w.heap.size,0,none⟩) n n→bC c0 c ρ S nid (.own nid) (.new (.own (E.tb U).el (E.tb (E.tb U).el).n (E.tb (E.tb U).el).g (some false) l)) u w') (parts:=ps.toList) (by simpa using hop) hEl hn' hfill hlen
   (fun u c' hle ho hk hu=>u7 hf h.since hle ho hk hT.one ⟨_,_,by rw [hlen];exact hu,by simp [zOk]⟩)
  rw [hw1] at key⊢
  exact key rfl
theorem Gj (hE:bn E) (h:Sim E c0 c ρ S F) (hf:ρ nid=none) {o:Oper} {U:TypeId} {x y:Operand} (hop:o.op= .makeSlice U x y) (hU:(E.tb U).ok=true) {cnd:Prop} {v:V} {e:Eff}
  (hr:q5 E U nid (S.ev E.gv x) (S.ev E.gv y)=some (cnd,v,e)) (hc:cnd):aF E.P (bC c0 c ρ S nid v e) (run E.P F o c.w):=by
 unfold q5 at hr
 split at hr
 ·rename_i k1 n k2 m hx hy
  obtain ⟨h3,hr2⟩:=aX hr
  cases hr2
  obtain ⟨hu,hel⟩:=c_ hE hU h3
  have hT:=hE.t _ hel
  have hEl:=rq hE hU h3
  obtain ⟨h0,hnm,hm⟩:=hc
  have e1:=(aR h hx).1
  have e2:=(aR h hy).1
  have hby:((E.tb (E.tb U).el).by':Int)*m≤281474976710656:=by
   have h1:=hT.by_
   have h2:((E.tb (E.tb U).el).by':Int)≤32768:=by omega
   have:((E.tb (E.tb U).el).by':Int)*m≤32768*1073741824:=Int.mul_le_mul h2 hm (by omega) (by omega)
   omega
  obtain ⟨i,zv,hi,hz,hsz,hb,hzr⟩:=hEl.info
  have hrm:=run_make (P:=E.P) c.w U (E.tb U).el i zv hEl.under hi hz k1 k2 n m h0 hnm (by rw [hb];exact hby) (by omega)
  have hw1:run E.P F o c.w= .ok (.value (.slice (some ⟨c.w.heap.size,0,none⟩) n.toNat m.toNat)) (c.w.alloc (.cells (madeCells zv.cells (m.toNat*i.size)) (E.tb U).el)):=by
   simp [run,execOp,hop,e1,e2,hrm]
  have key:=Fg (P:=E.P) (F:=F) (o:=o) (c:=c) (K:=fun u w'=>u= .slice (some ⟨c.w.heap.size,0,none⟩) n.toNat m.toNat→bC c0 c ρ S nid (.own nid) (.new (.own (E.tb U).el (E.tb (E.tb U).el).n (E.tb (E.tb U).el).g (some false) (List.replicate n.toNat (E.tb (E.tb U).el).z))) u w') hop hEl e1 e2 h0 hnm
   (by unfold LEN;omega) hby (fun u c' hle ho hk hu=>u7 hf h.since hle ho hk hT.one ⟨_,_,by rw [List.length_replicate];exact hu,by simp [zOk]⟩)
  rw [hw1] at key⊢
  exact key rfl
 ·cases hr
theorem u_ (h:Sim E c0 c ρ S F) {el:TI} {x:Operand} {d:V} {m:List V} (hx:rd ρ c d (ev F x)) (hm:f0 S.H el (some d)=some m):Src c (ev F x) (rV ro0 el.n el.g) m:=by
 unfold f0 at hm
 split at hm
 ·rename_i z n g l he
  cases he
  obtain ⟨⟨rfl,rfl⟩,hm2⟩:=aX hm
  cases hm2
  exact ym (jR hx)
 ·rename_i id he
  cases he
  simp only [rd] at hx
  unfold uE at hm
  split at hm
  ·rename_i E' n g z l hH
   obtain ⟨⟨rfl,rfl⟩,hm2⟩:=aX hm
   cases hm2
   obtain ⟨v',e1,hown,_⟩:=h.heap _ _ hH
   rw [hx.1] at e1;cases e1
   exact yn hown
  ·rename_i n g z l hH
   obtain ⟨⟨rfl,rfl⟩,hm2⟩:=aX hm
   cases hm2
   obtain ⟨v',e1,hsl⟩:=h.heap _ _ hH
   rw [hx.1] at e1;cases e1
   exact ym (jR hsl)
  ·cases hm
 ·rename_i id n i j he
  cases he
  simp only [rd] at hx
  obtain ⟨u,hu,hsub⟩:=hx
  unfold uF at hm
  split at hm
  ·rename_i E' n' g z l hH
   obtain ⟨⟨rfl,rfl,rfl⟩,hm2⟩:=aX hm
   cases hm2
   obtain ⟨v',e2,hown,_,hone,a',cap',es,_⟩:=h.heap _ _ hH
   rw [hu] at e2;cases e2
   obtain ⟨a,len,cap,e1,hij,hjl,hev⟩:=ua hsub es
   have hn:(rV ro0 el.n el.g).n=el.n:=cb hone
   rw [e1] at es
   have hll:l.length=len:=by cases es;rfl
   obtain ⟨a2,cap2,e3,hs⟩:=yn hown
   rw [e1] at e3;cases e3
   unfold lh
   refine ⟨_,cap - i,by rw [hev];congr 1;simp only [List.length_take,List.length_drop];omega,?_⟩
   by_cases h0:j=i
   ·subst h0;exact .inl (by simp)
   ·rcases hs with rfl|⟨b,o,cs,rfl,hc,ha⟩
    ·simp at hjl;omega
    ·have hcap: ¬cap=i:=by
      rcases hown.2 with ⟨a4,e4,rfl⟩|⟨g4,cp4,cur4,e4,_,_,k3,_⟩
      ·simp at hjl;omega
      ·rw [e1] at e4;cases e4;omega
     rw [if_neg hcap]
     have hadd:(⟨b,o,none⟩:Addr).add (i*el.n)=⟨b,o+i*el.n,none⟩:=by unfold Addr.add;split<;>simp_all
     refine .inr ⟨b,o+i*el.n,(cs.drop (i*el.n)).take ((j - i)*el.n),by simp [hadd],?_,?_⟩
     ·intro q x hq
      rw [List.getElem?_take] at hq
      split at hq
      ·rw [List.getElem?_drop] at hq
       have:=hc (i*el.n+q) x hq
       rwa [show o+i*el.n+q=o+(i*el.n+q) by omega]
      ·cases hq
     ·have:=qC (j - i) (t6 i ha)
      rwa [hn] at this
  ·cases hm
 ·cases hm
theorem rr {T:TypeId} {n:Nat} {g:Bool} {l m:List V} {v':Value} {c':Cx} (ho:Own c' T v' (rV ro0 n g) (l++m)): ∃a cap,v'= .slice a (l++m).length cap∧zOk (iZ m) a cap:=by
 rcases ho.2 with ⟨a,h1,h2⟩|⟨g',cap,cur,e,_⟩
 ·rw [h2]
  refine ⟨a,0,h1,?_⟩
  have:m=[]:=(List.append_eq_nil_iff.1 h2).2
  subst this
  exact fun _=>rfl
 ·refine ⟨_,_,e,?_⟩
  cases m<;>simp [iZ,zOk]
theorem y6 {H:List (Nat×Blk)} {ti el:TI} {a:Option V} {m:Option (List V)} (hm:m=none):mH H ti el nid a m=none:=by
 unfold mH;split<;>simp_all
theorem Gk (hE:bn E) (h:Sim E c0 c ρ S F) (hf:ρ nid=none) {o:Oper} {U:TypeId} {x y:Operand} (hop:o.op= .call {callee:= .builtin .append,args:= #[x,y],argTypes:= #[U,U]}) (hU:(E.tb U).ok=true) {cnd:Prop} {v:V} {e:Eff}
  (hr:mH S.H (E.tb U) (E.tb (E.tb U).el) nid (S.evT E U x) (f0 S.H (E.tb (E.tb U).el) (S.evT E U y))=some (cnd,v,e)) (hc:cnd):aF E.P (bC c0 c ρ S nid v e) (run E.P F o c.w):=by
 have hby2: ∀(k:Nat),(E.tb U).k=3→k≤1073741824→k*(E.tb (E.tb U).el).by'≤140737488355328:=by
  intro k h3 hk
  have h1:=(hE.t _ (c_ hE hU h3).2).by_
  have:k*(E.tb (E.tb U).el).by'≤1073741824*32768:=Nat.mul_le_mul hk h1
  omega
 cases hy:S.evT E U y with
 | none=>
  rw [hy] at hr
  rw [y6 (by rfl)] at hr
  cases hr
 | some dy=>
  rw [hy] at hr
  cases hm:f0 S.H (E.tb (E.tb U).el) (some dy) with
  | none=>rw [hm,y6 rfl] at hr;cases hr
  | some m=>
   rw [hm] at hr
   have hsrc:=u_ h (eU h hy) hm
   unfold mH at hr
   split at hr
   ·rename_i id m' hx hm'
    cases hm'
    obtain ⟨h3,hr2⟩:=aX hr
    have hT:=hE.t _ (c_ hE hU h3).2
    have hEl:=rq hE hU h3
    have hp:=eU h hx
    simp only [rd] at hp
    unfold uG at hr2
    split at hr2
    ·rename_i E' n g z l hH
     obtain ⟨⟨rfl,rfl,rfl⟩,hr3⟩:=aX hr2
     cases hr3
     obtain ⟨v',e1,hown,hge,hone,hz⟩:=h.heap _ _ hH
     have hbo:an ρ id=blk v':=by
      obtain ⟨a,cap,es,_⟩:=hz
      unfold an;rw [e1,es]
     rw [hp.1] at e1;cases e1
     refine yo hop hEl hown hsrc (by unfold LEN;omega) (hby2 _ h3 hc) fun u c' hch ho hk=> ?_
     refine ⟨c',da ρ id u,rfl,⟨_,hH,rfl,rfl⟩,⟨hbo▸hch,fun i hi=>im hi,?_,?_⟩,?_⟩
     ·refine ⟨u,dn,ho,fun k hk'=> ?_,hone,rr ho⟩
      rcases hk k hk' with h5|h5
      ·exact hge k h5
      ·exact .inl (Nat.le_trans h.since.size h5)
     ·intro k hk'
      obtain ⟨a,cap,es,_⟩:=rr ho
      subst es
      simp only [an,dn] at hk'
      rw [hbo]
      exact hk k hk'
     ·obtain ⟨a,cap,es,_⟩:=rr ho
      subst es
      simp only [rd]
      exact ⟨dn,rfl⟩
    ·cases hr2
   ·rename_i z g m' hx hm'
    cases hm'
    obtain ⟨h3,hr2⟩:=aX hr
    cases hr2
    have hT:=hE.t _ (c_ hE hU h3).2
    have hEl:=rq hE hU h3
    obtain ⟨a,cap,he,hl,hz,_⟩:=dk.1 (eU h hx)
    obtain ⟨rfl,rfl⟩:=hz
    have hown:Own c (E.tb U).el (ev F x) (rV ro0 (E.tb (E.tb U).el).n (E.tb (E.tb U).el).g) []:=by rw [he];exact Own.nil
    refine yo hop hEl hown hsrc (by unfold LEN;simp only [List.length_nil];omega) (by simpa using hby2 _ h3 hc) fun u c' hch ho hk=> ?_
    have hbn:blk (ev F x)=none:=by rw [he];rfl
    rw [hbn] at hch hk
    have hle:c.le c':=⟨⟨hch.os,hch.tape,hch.output,hch.size,fun k hk=>hch.keep k hk (by simp)⟩,hch.old⟩
    have ho':Own c' (E.tb U).el u (rV ro0 (E.tb (E.tb U).el).n (E.tb (E.tb U).el).g) m:=by simpa using ho
    refine u7 hf h.since hle ho' (fun k hk'=> ?_) hT.one (by simpa using rr ho)
    rcases hk k hk' with h5|h5
    ·cases h5
    ·exact h5
   ·cases hr
theorem Gm {T:TypeId} {n:Nat} {g:Bool} {l:List V} {v:Value} (ho:Own c T v (rV ro0 n g) l) {a:Option Addr} {cap:Nat} (hv:v= .slice a l.length cap):v= .slice (if cap=0 then a else a.map (·.add (0*(rV ro0 n g).n))) (l.length - 0) (cap - 0):=by
 rcases ho.2 with ⟨a',e1,rfl⟩|⟨g',cp,cur,e1,_⟩
 ·rw [e1] at hv;cases hv;simp [e1]
 ·rw [e1] at hv;cases hv
  have hadd:(⟨g',0,none⟩:Addr).add 0=⟨g',0,none⟩:=by unfold Addr.add;split<;>simp_all
  simp [e1,hadd]
theorem y7 (hE:bn E) (h:Sim E c0 c ρ S F) {o:Oper} {U:TypeId} {x y:Operand} (hop:o.op= .call {callee:= .builtin .copy,args:= #[x,y],argTypes:= #[U,U]}) (hU:(E.tb U).ok=true) (h3:(E.tb U).k=3) {id i j:Nat} {m:List V} {T:TypeId} {n:Nat} {g:Bool} {z:Option Bool} {l:List V} {cnd:Prop} {v:V} {e:Eff}
  (hH:ak S.H id=some (.own T n g z l)) {u:Value} (hu:ρ id=some u) {a:Option Addr} {len cap:Nat} (eu:u= .slice a len cap) (hij:i≤j) (hjl:j≤len) (hx:ev F x= .slice (if cap=i then a else a.map (·.add (i*n))) (j - i) (cap - i)) (hs:Src c (ev F y) (rV ro0 (E.tb (E.tb U).el).n (E.tb (E.tb U).el).g) m)
  (hr:oB (E.tb (E.tb U).el) id i j m (some (.own T n g z l))=some (cnd,v,e)):aF E.P (bC c0 c ρ S nid v e) (run E.P F o c.w):=by
 unfold oB at hr
 obtain ⟨⟨rfl,rfl⟩,hr2⟩:=aX hr
 cases hr2
 obtain ⟨hu3,hel⟩:=c_ hE hU h3
 have hT:=hE.t _ hel
 obtain ⟨v',e2,hown,hge,hone,a',cap',es,hz⟩:=h.heap _ _ hH
 rw [hu] at e2;cases e2
 rw [eu] at es
 have hll:l.length=len:=by cases es;rfl
 have hn:(rV ro0 (E.tb (E.tb U).el).n (E.tb (E.tb U).el).g).n=(E.tb (E.tb U).el).n:=cb hone
 have hbo:an ρ id=blk u:=by unfold an;rw [hu,eu]
 have hzz:zOk z a cap:=by cases es;exact hz
 obtain ⟨c',hrun,hch,hown'⟩:=yx (P:=E.P) (U:=o.type) (d:=ev F x) (u:=ev F y) hu3 (hT.ty ro0).size (by rw [hn];exact hT.pos) hown eu hij hjl (by rw [hn];exact hx) hs
 refine yv (v:= .int .i64 ((min (j - i) m.length:Nat):Int)) (w':=c'.w) ?_ ⟨c',ρ,rfl,⟨_,hH,rfl,rfl⟩,⟨hbo▸hch,rfl,u,hu,hown',hge,hone,a,cap,?_,hzz⟩,⟨rfl,?_⟩⟩
 ·simp only [run,execOp,hop,resolve,invoke,builtin,Sem.run_bind,Sem.run_pure,Result.andThen_ok,List.map_toArray,List.map_cons,List.map_nil,hrun]
 ·rw [eu]
  congr 1
  simp only [spl,List.length_append,List.length_take,List.length_drop]
  omega
 ·have:=hown.len
  exact jP (by omega)
theorem y8 {H:List (Nat×Blk)} {ti el:TI} {a:Option V} {m:Option (List V)} (hm:m=none):mJ H ti el a m=none:=by
 unfold mJ;split<;>simp_all
theorem va {ρ':Ro}: ∀{l:List V} {cs:List Value},(∀d∈l,∀v,rd ρ' c d v→rd ro0 c d v)→rdC ρ' c l cs→rdE c 1 false l cs
 | [],_,_,h=>by simp only [rdC] at h;subst h;rfl
 | d::l,cs,hp,h=>by
  simp only [rdC] at h
  obtain ⟨u,c2,rfl,h1,h2,h3⟩:=h
  simp only [rdE]
  exact ⟨[u],c2,rfl,⟨⟨rfl,fun _=>rfl,by simpa using h1⟩,hp d (by simp) u h2⟩,va (fun d hd=>hp d (by simp [hd])) h3⟩
theorem vb: ∀{l:List V} {cs:List Value},rdE c 1 false l cs→rdC ρ c l cs
 | [],cs,h=>by simpa [rdE,rdC] using h
 | d::l,cs,h=>by
  simp only [rdE,rdC] at h⊢
  obtain ⟨c1,c2,rfl,⟨h1,h2⟩,h3⟩:=h
  match c1,h1.1 with
  | [u],_=>exact ⟨u,c2,rfl,h1.2.2 u (by simp),dl (fun _ _ k=>by cases k) h2,vb h3⟩
theorem Gn (hE:bn E) (h:Sim E c0 c ρ S F) {o:Oper} {U:TypeId} {x y:Operand} (hop:o.op= .call {callee:= .builtin .copy,args:= #[x,y],argTypes:= #[U,U]}) (hU:(E.tb U).ok=true) (h3:(E.tb U).k=3) {id j n':Nat} {m l:List V}
  (hH:ak S.H id=some (.var n' true (.agg l))) {u:Value} (hu:ρ id=some u) (hsub:t8 u 1 0 j (ev F x)) (g1:(E.tb (E.tb U).el).n=1) (g2:(E.tb (E.tb U).el).g=false) (g3:j=l.length) (g4:0<l.length) (g5:l.length≤1073741824) (hpu:dI l)
  (hs:Src c (ev F y) (rV ro0 (E.tb (E.tb U).el).n (E.tb (E.tb U).el).g) m):
  aF E.P (bC c0 c ρ S nid (.int .i64 ((min j m.length:Nat):Int)) (.upd id (.var n' true (.agg (spl l 0 (min j m.length) m))))) (run E.P F o c.w):=by
 obtain ⟨hu3,hel⟩:=c_ hE hU h3
 have hT:=hE.t _ hel
 obtain ⟨b,e2,hmine,hX,T,cs,hh,hi⟩:=h.heap _ _ hH
 rw [hu] at e2;cases e2
 obtain ⟨b',_,_,e3,e4⟩:=hsub.resolve_left (by rintro ⟨a,len,cap,e,_⟩;cases e)
 cases e3
 obtain ⟨cs',e3,k6⟩:=(show rd ρ c (.agg l) (mkV true cs.toList) from hi.2)
 have e5:cs.toList=cs':=by
  have e5:cs=cs'.toArray:=by simpa [mkV] using e3
  rw [e5]
 subst e5
 have hlen:=ig k6
 have hn:(rV ro0 1 false).n=1:=cb (fun _=>rfl)
 have hE0:=va (ρ':=ro0) (fun _ _ _ h=>h) (rk hpu k6)
 obtain ⟨cp,hcp⟩: ∃cp,l.length=cp+1:=⟨l.length - 1,by omega⟩
 have hown:Own c T (.slice (some ⟨b,0,none⟩) l.length l.length) (rV ro0 1 false) l:=by
  refine ⟨by unfold LEN;omega,.inr ⟨b,cp,cs,by rw [hcp],hX,hh,by omega,by unfold maxLen;omega,by rw [hn,←Array.length_toList];omega,?_⟩⟩
  rw [hn,Nat.mul_one,←hlen,List.take_length]
  exact fI.1 hE0
 rw [g1,g2] at hs
 have hsz: ∀w,(sizeOf (E.tb U).el).run E.P w= .ok (rV ro0 1 false).n w:=fun w=>by
  have:=(hT.ty ro0).size w
  rwa [cb hT.one,g1,←hn] at this
 have hadd:(⟨b,0,none⟩:Addr).add (0*(rV ro0 1 false).n)=⟨b,0,none⟩:=by unfold Addr.add;split<;>simp_all
 obtain ⟨c',hrun,hch,hown'⟩:=yx (P:=E.P) (U:=o.type) (i:=0) (j:=j) (d:=ev F x) (u:=ev F y) hu3 hsz (by rw [hn];exact Nat.one_pos) hown rfl (Nat.zero_le _) (by omega) (by rw [e4,if_neg (by omega)];simp only [Option.map_some,hadd,Nat.sub_zero,g3]) hs
 have hbo:an ρ id=some b:=by unfold an;rw [hu]
 have hbl:blk (.slice (some ⟨b,0,none⟩) l.length l.length)=some b:=by rw [hcp];rfl
 rw [hbl] at hch
 rw [Nat.sub_zero] at hrun hown'
 refine yv (v:= .int .i64 ((min j m.length:Nat):Int)) (w':=c'.w) ?_ ⟨c',ρ,rfl,⟨_,hH,rfl,rfl⟩,⟨hbo▸hch,rfl,b,hu,hmine,?_⟩,⟨rfl,?_⟩⟩
 ·simp only [run,execOp,hop,resolve,invoke,builtin,Sem.run_bind,Sem.run_pure,Result.andThen_ok,List.map_toArray,List.map_cons,List.map_nil,hrun]
 ·obtain ⟨_,h5⟩:=hown'
  have hsl:(l.take 0++m.take (min j m.length)++l.drop (0+min j m.length)).length=l.length:=by
   simp only [List.length_append,List.length_take,List.length_drop];omega
  rcases h5 with ⟨a,e6,e7⟩|⟨g,cap,cur,e6,f1,f2,f3,f4,f5,f6⟩
  ·rw [e7] at hsl;simp at hsl;omega
  ·have e8:b=g∧l.length=cap+1:=by
    simp only [Value.slice.injEq,Option.some.injEq,Addr.mk.injEq] at e6
    exact ⟨e6.1.1,e6.2.2⟩
   obtain ⟨rfl,e9⟩:=e8
   have hcur:cur.size=l.length:=by rw [f5,hn];omega
   rw [hsl,hn,Nat.mul_one,←hcur,←Array.length_toList,List.take_length] at f6
   refine ⟨f1,T,cur,f2,⟨?_,?_⟩⟩
   ·have:=hi.1
    obtain ⟨s1,s2,s3⟩:=this
    have e10:=fI.2 f6
    refine ⟨?_,fun e=>s2 e,?_⟩
    ·rw [←s1];rw [Array.length_toList,hcur,hlen]
    ·exact ot (vb (ρ:=ρ) e10)
   ·refine ⟨cur.toList,by simp [mkV],?_⟩
    exact vb (fI.2 f6)
 ·exact jP (Nat.le_trans (Nat.min_le_left _ _) (by unfold LEN;omega))
theorem Gp (hE:bn E) (h:Sim E c0 c ρ S F) {o:Oper} {U:TypeId} {x y:Operand} (hop:o.op= .call {callee:= .builtin .copy,args:= #[x,y],argTypes:= #[U,U]}) (hU:(E.tb U).ok=true) {cnd:Prop} {v:V} {e:Eff}
  (hr:mJ S.H (E.tb U) (E.tb (E.tb U).el) (S.ev E.gv x) (f0 S.H (E.tb (E.tb U).el) (S.evT E U y))=some (cnd,v,e)) (hc:cnd):aF E.P (bC c0 c ρ S nid v e) (run E.P F o c.w):=by
 cases hy:S.evT E U y with
 | none=>rw [hy,y8 (by rfl)] at hr;cases hr
 | some dy=>
  rw [hy] at hr
  cases hm:f0 S.H (E.tb (E.tb U).el) (some dy) with
  | none=>rw [hm,y8 rfl] at hr;cases hr
  | some m=>
   rw [hm] at hr
   have hsrc:=u_ h (eU h hy) hm
   unfold mJ at hr
   split at hr
   ·rename_i id m' hx hm'
    cases hm'
    obtain ⟨h3,hr2⟩:=aX hr
    have hp:=aR h hx
    simp only [rd] at hp
    unfold uK at hr2
    split at hr2
    ·rename_i T n g z l hH
     obtain ⟨v',e1,hown,_,hone,a,cap,es,_⟩:=h.heap _ _ hH
     rw [hp.1] at e1;cases e1
     have hself:=Gm hown es
     rw [cb hone] at hself
     exact y7 hE h hop hU h3 hH hp.1 es (Nat.zero_le _) (Nat.le_refl _) hself hsrc hr2
    ·cases hr2
   ·rename_i id n i j m' hx hm'
    cases hm'
    obtain ⟨h3,hr2⟩:=aX hr
    have hp:=aR h hx
    simp only [rd] at hp
    obtain ⟨u,hu,hsub⟩:=hp
    unfold uL at hr2
    split at hr2
    ·rename_i T n' g z l hH
     obtain ⟨rfl,hr3⟩:=aX hr2
     obtain ⟨v',e2,_,_,_,a',cap',es,_⟩:=h.heap _ _ hH
     rw [hu] at e2;cases e2
     obtain ⟨a,len,cap,e1,hij,hjl,hev⟩:=ua hsub es
     exact y7 hE h hop hU h3 hH hu e1 hij hjl hev hsrc hr3
    ·rename_i n' l hH
     obtain ⟨⟨rfl,rfl,g1,g2,g3,g4,g5⟩,hr3⟩:=aX hr2
     cases hr3
     exact Gn hE h hop hU h3 hH hu hsub g1 g2 g3 g4 g5 hc hsrc
    ·cases hr2
   ·cases hr
theorem y9: ∀{l:List V} {cs:List Value},oy l→bp (rV ro0 1 false) c cs l→cs=(l.map iY).map (Value.int .u8)
 | [],cs,_,h=>by simp only [bp] at h;subst h;rfl
 | d::l,cs,hu,h=>by
  simp only [oy,bp] at hu h
  obtain ⟨c1,c2,rfl,⟨⟨h1,_⟩,h2⟩,h3⟩:=h
  obtain ⟨h4,h5⟩:=hu
  match c1,h1 with
  | [u],_=>
   cases d with
   | int k n=>
    cases k<;>simp only [ux] at h4
    have e:u= .int .u8 n:=h2.1
    subst e
    simp [y9 h5 h3,iY]
   | _=>simp only [ux] at h4
theorem y_: ∀{a:List UInt8},rdE c 1 false (a.map u8V) (a.map fun b=> .int .u8 b.toNat)
 | []=>rfl
 | x::a=>by
  simp only [List.map_cons,rdE]
  refine ⟨[_],_,rfl,⟨⟨rfl,fun _=>rfl,by simp [Value.oneCell']⟩,?_⟩,y_⟩
  refine ⟨rfl,?_⟩
  have:=UInt8.toNat_lt x
  simp [Rng,IntKind.min,IntKind.max,IntKind.bits,IntKind.signed];omega
theorem Gq {i n m k:Nat} (h:blk (.slice (some ⟨i,0,none⟩) n m)=some k):k=i:=by
 cases m with
 | zero=>cases h
 | succ m=>simp only [blk,Option.some.injEq] at h;exact h.symm
theorem Gr {P:Program} (w:World) (t e T:TypeId) (g off n c k:Nat) (ht:P.underlying t=some (.slice e)) (he:P.underlying e=some (.int .u8)) (hsh:w.shape? g=some (T,k)):
  (convert t t (.slice (some ⟨g,off,none⟩) n c)).run P w= .ok (.slice (some ⟨g,off,none⟩) n c) (w.freeze ⟨g,k,none⟩ 1):=by
 simp [convert,run_underlying ht,run_underlying he,markStringish,hsh]
theorem Gs (hE:bn E) (h:Sim E c0 c ρ S F) {o:Oper} {U:TypeId} {x:Operand} (hop:o.op= .convert U U x) (hU:(E.tb U).ok=true) {i:Nat} (hx:S.ev E.gv x=some (.own i)) {cnd:Prop} {v:V} {e:Eff}
  (hr:qQ E.tb (E.tb U) i (ak S.H i)=some (cnd,v,e)) (hc:cnd):aF E.P (bC c0 c ρ S nid v e) (run E.P F o c.w):=by
 cases hb:ak S.H i with
 | none=>rw [hb] at hr;cases hr
 | some b=>
  rw [hb] at hr
  cases b with
  | own T n g z l=>
   simp only [qQ] at hr
   obtain ⟨⟨k1,k2,k3,k4,k5⟩,hr2⟩:=aX hr
   cases hr2
   subst k4 k5
   obtain ⟨hu,hel⟩:=c_ hE hU k1
   have hue:=i6 hE hel k2
   rw [k3] at hue
   obtain ⟨u,hv,hown,hmine,hgn,a,cap,e1,hz⟩:=h.heap i _ hb
   have hev:=aR h hx
   simp only [rd] at hev
   have hev2:ev F x=u:=by have:=hev.1;rw [hv] at this;cases this;rfl
   rcases hown.2 with ⟨a',e2,rfl⟩|⟨gb,cp,cur,e2,g1,g2,g3,g4,g5,g6⟩
   ·exact absurd hc (by simp)
   ·have hlt:gb<c.w.heap.size:=c.ok gb g1
    rw [e2] at e1
    cases e1
    have hsh:c.w.shape? gb=some (T,cur.size):=by unfold World.shape?;rw [g2]
    have hw:(c.w.freeze ⟨gb,cur.size,none⟩ 1).heap=c.w.heap.modify gb fun
      | .cells c elem (lo,hi)=> .cells c elem (if lo==hi then (cur.size,cur.size+1) else (min lo cur.size,max hi (cur.size+1)))
      | o=>o:=rfl
    have hsz:(c.w.freeze ⟨gb,cur.size,none⟩ 1).heap.size=c.w.heap.size:=by rw [hw];simp
    have hother: ∀k,k≠gb→(c.w.freeze ⟨gb,cur.size,none⟩ 1).heap[k]? =c.w.heap[k]? :=fun k hk=>by rw [hw,Array.getElem?_modify,if_neg (Ne.symm hk)]
    have hnew:(c.w.freeze ⟨gb,cur.size,none⟩ 1).heap[gb]? =some (.cells cur T (cur.size,cur.size+1)):=by
     rw [hw,Array.getElem?_modify,if_pos rfl,g2];rfl
    have hok: ∀k,k∈c.X→k<(c.w.freeze ⟨gb,cur.size,none⟩ 1).heap.size:=fun k hk=>by rw [hsz];exact c.ok k hk
    have hbo:an ρ i=some gb:=by unfold an;rw [hv,e2];rfl
    have hch:c.chg (an ρ i) ⟨c.X,c.w.freeze ⟨gb,cur.size,none⟩ 1,hok,[]⟩:=by
     rw [hbo]
     exact ⟨rfl,rfl,rfl,by rw [hsz];exact Nat.le_refl _,fun k _ hk=>hother k (fun e=>hk (e▸rfl)),fun _ _=>Iff.rfl,fun k hk=>by cases hk;exact g1⟩
    have hpub:=hch.pub.trans (Cx.pub_dropv ⟨c.X,c.w.freeze ⟨gb,cur.size,none⟩ 1,hok,[]⟩ (.slice (some ⟨gb,0,none⟩) 0 1))
    have hrd: ∀ρ9:Ro,rd ρ9 (Cx.dropv ⟨c.X,c.w.freeze ⟨gb,cur.size,none⟩ 1,hok,[]⟩ (.slice (some ⟨gb,0,none⟩) 0 1)) (.sl z 1 false l) (.slice (some ⟨gb,0,none⟩) l.length (cp+1)):=fun ρ9=>by
     refine dk.2 ⟨_,_,rfl,⟨hown.1,g3⟩,hz,.inr ⟨gb,0,cur.toList.take (l.length*1),rfl,?_,?_,?_,?_⟩⟩
     ·show gb<(c.w.freeze ⟨gb,cur.size,none⟩ 1).heap.size
      rw [hsz];exact hlt
     ·intro hk
      have:=(List.mem_filter.1 hk).2
      simp [blk] at this
     ·intro j u9 hj
      rw [List.getElem?_take] at hj
      split at hj
      ·simp only [Nat.zero_add]
       show (c.w.freeze ⟨gb,cur.size,none⟩ 1).cell? _=_
       simp only [World.cell?,hnew]
       simpa using hj
      ·cases hj
     ·exact c7 hpub g6
    refine yv (v:=u) (w':=c.w.freeze ⟨gb,cur.size,none⟩ 1) ?_ ⟨Cx.dropv ⟨c.X,c.w.freeze ⟨gb,cur.size,none⟩ 1,hok,[]⟩ (.slice (some ⟨gb,0,none⟩) 0 1),ρ,rfl,⟨T,1,false,z,l,hb,rfl⟩,⟨rfl,⟨u,hv,by rw [e2];exact hrd ro0⟩,gb,_,_,_,by rw [hv,e2],hch,rfl⟩,by rw [e2];exact hrd ρ⟩
    have hrun:=Gr (P:=E.P) c.w U (E.tb U).el T gb 0 l.length (cp+1) cur.size hu hue hsh
    simp [run,execOp,hop,hev2,e2,hrun]
  | _=>cases hr
theorem za (hE:bn E) (h:Sim E c0 c ρ S F) (hf:ρ nid=none) {o:Oper} {U W:TypeId} {x:Operand} (hop:o.op= .convert U W x) (hU:(E.tb U).ok=true) (hW:(E.tb W).ok=true) {cnd:Prop} {v:V} {e:Eff}
  (hr:oz E.tb (E.tb U) (E.tb W) nid (f0 S.H (E.tb (E.tb U).el) (S.ev E.gv x)) (S.ev E.gv x)=some (cnd,v,e)) (hc:cnd):aF E.P (bC c0 c ρ S nid v e) (run E.P F o c.w):=by
 unfold oz at hr
 split at hr
 ·rename_i k a hx
  obtain ⟨⟨h1,h2,h3⟩,hr2⟩:=aX hr
  cases hr2
  have hu:=i6 hE hU h1
  rw [h3] at hu
  exact EX hop hu (i6 hE hW h2) (aR h hx).1 (cD (om _ _))
 ·rename_i a hx
  have e:=aR h hx
  unfold uy at hr
  split at hr
  ·rename_i hk
   cases hr
   refine yv (v:= .string ⟨a.toArray⟩) (w':=c.w) ?_ (bD ⟨rfl,e.2⟩)
   simp [run,execOp,hop,e.1,convert,underlying,gL hE hU hk.1,gL hE hW hk.2]
  ·obtain ⟨⟨k1,k2,k3,k4⟩,hr2⟩:=aX hr
   cases hr2
   obtain ⟨hu,hel⟩:=c_ hE hW k2
   have hue:=i6 hE hel k3
   rw [k4] at hue
   have hsz:(⟨a.toArray⟩:ByteArray).size=a.length:=by simp [ByteArray.size]
   have hrun:run E.P F o c.w= .ok (.value (.slice (some ⟨c.w.heap.size,0,none⟩) a.length (grownCap c.w a.length 0 (E.tb W).el))) (Lib.bytesWorld c.w (E.tb W).el ⟨a.toArray⟩):=by
    have:=Lib.run_convert_string_bytes (P:=E.P) c.w U W (E.tb W).el ⟨a.toArray⟩ (gL hE hU k1) hu hue
    rw [hsz] at this
    simp [run,execOp,hop,e.1,this]
   have hbe:Below c.w.heap.size c.w (Lib.bytesWorld c.w (E.tb W).el ⟨a.toArray⟩):=by
    refine ⟨?_,?_,?_,by rw [Lib.bytesWorld_size];omega,fun k hk=>Lib.bytesWorld_at_old _ _ _ k hk⟩<;>rfl
   have hrd:rd ro0 (c.at _ hbe.size) (.sl (some false) 1 false (a.map u8V)) (.slice (some ⟨c.w.heap.size,0,none⟩) a.length (grownCap c.w a.length 0 (E.tb W).el)):=by
    refine dk.2 ⟨_,_,by rw [List.length_map],⟨by rw [List.length_map];exact e.2,by rw [List.length_map];exact grownCap_ge _ _ _ _⟩,by simp [zOk],.inr ⟨c.w.heap.size,0,a.map fun b=> .int .u8 b.toNat,rfl,?_,?_,?_,?_⟩⟩
    ·show c.w.heap.size<(Lib.bytesWorld _ _ _).heap.size
     rw [Lib.bytesWorld_size];omega
    ·intro hk;exact absurd (c.ok _ hk) (Nat.lt_irrefl _)
    ·intro j u hj
     have hjl:j<a.length:=by
      have:=(List.getElem?_eq_some_iff.1 hj).1
      simpa using this
     show (Lib.bytesWorld _ _ _).cell? _=_
     rw [Nat.zero_add,Lib.bytesWorld_cell _ _ _ j (by rw [hsz];exact hjl)]
     simp [List.getElem?_eq_getElem hjl] at hj
     simp [List.getD,List.getElem?_eq_getElem hjl,←hj]
    ·refine fI.1 ?_
     exact y_
   rw [hrun]
   refine ⟨c.at _ hbe.size,da ρ nid _,rfl,trivial,⟨Cx.le_at hbe,fun i hi=>im hi,⟨_,dn,hrd⟩,fun k hk=> ?_⟩,⟨dn,rfl⟩⟩
   simp only [an,dn] at hk
   exact Nat.le_of_eq (Gq hk).symm
 ·rename_i d hn1 hn2 hx
  rw [hx] at hr
  unfold uz at hr
  split at hr
  ·rename_i l hl
   obtain ⟨⟨k1,k2,k3,k4,k5,k6⟩,hr2⟩:=aX hr
   cases hr2
   obtain ⟨hu,hel⟩:=c_ hE hU k1
   have hue:=i6 hE hel k3
   rw [k4] at hue
   obtain ⟨a,cap,ev1,hs⟩:=u_ h (aR h hx) hl
   rw [k5,k6] at hs
   have key:run E.P F o c.w= .ok (.value (.string ⟨(l.map fun d=>u8N (iY d)).toArray⟩)) c.w:=by
    have hcv:(convert U W (ev F x)).run E.P c.w= .ok (.string ⟨(l.map fun d=>u8N (iY d)).toArray⟩) c.w:=by
     rw [ev1]
     rcases hs with rfl|⟨b,o1,cs,rfl,hcell,harr⟩
     ·cases a with
      | none=>exact run_convert_bytes_nil c.w U _ hu hue _ _ W (gL hE hW k2)
      | some a=>
       rw [run_convert_bytes_string c.w U W _ _ _ _ hu hue (gL hE hW k2)]
       rw [run_bytesToString c.w a _ _ [] (by simpa using run_loadCells_list (P:=E.P) c.w a [] (fun j v hj=>by simp at hj))]
       rfl
     ·have hcs:=y9 hc.1 harr
      have hlen:cs.length=l.length:=by rw [hcs];simp
      have:=run_convert_bytes_arg c.w U _ hu hue b o1 l.length cap (l.map iY) (by simp) (fun i hi=>by
       have:=hcell i (.int .u8 ((l.map iY).getD i 0)) (by rw [hcs];simp [List.getD,List.getElem?_eq_getElem hi])
       exact this) W (gL hE hW k2)
      rw [this]
      simp only [strOfNums,List.map_map]
      rfl
    simp [run,execOp,hop,hcv]
   refine yv key (bD ⟨rfl,?_⟩)
   simpa [LEN] using hc.2
  ·cases hr
 ·cases hr
theorem zb: ∀{l:List V} {k i:Nat},i+k≤l.length→oA l k i=(l.drop i).take k
 | l,0,i,_=>by simp [oA]
 | l,k+1,i,h=>by
  have hi:i<l.length:=by omega
  rw [List.drop_eq_getElem_cons hi,List.take_succ_cons,oA,zb (k:=k) (i:=i+1) (by omega)]
  simp [elt,List.getD,List.getElem?_eq_getElem hi]
theorem zc: ∀{l:List V} {cs:List Value},bp (rV ro0 1 false) c cs l→rdC ro0 c l cs
 | [],cs,h=>by simp only [bp] at h;subst h;rfl
 | d::l,cs,h=>by
  simp only [bp] at h
  obtain ⟨c1,c2,rfl,⟨⟨h1,_,h0⟩,h2⟩,h3⟩:=h
  match c1,h1 with
  | [u],_=>
   simp only [rdC]
   exact ⟨u,c2,rfl,h0 u (by simp),h2,zc h3⟩
theorem Gt (hE:bn E) (h:Sim E c0 c ρ S F) {o:Oper} {A:TypeId} {x:Operand} (hop:o.op= .sliceToArrayPointer A x) (hA:(E.tb A).ok=true) {cnd:Prop} {v:V} {e:Eff}
  (hr:qR (E.tb A) (E.tb (E.tb A).el) (S.ev E.gv x)=some (cnd,v,e)) (hc:cnd):aF E.P (bC c0 c ρ S nid v e) (run E.P F o c.w):=by
 unfold qR at hr
 split at hr
 ·rename_i z n g l hx
  obtain ⟨⟨h4,g1,g2,rfl,rfl,g3⟩,hr2⟩:=aX hr
  cases hr2
  obtain ⟨hu,hel⟩:=j5 hE hA h4
  have hru:(underlying A).run E.P c.w= .ok (.array (E.tb A).len (E.tb (E.tb A).el).el) c.w∨(underlying A).run E.P c.w= .ok (.array (E.tb A).len (E.tb A).el) c.w:= .inr (by simp [underlying,hu])
  have hru2:(underlying A).run E.P c.w= .ok (.array (E.tb A).len (E.tb A).el) c.w:=by simp [underlying,hu]
  obtain ⟨a,cap,e1,⟨hl,_⟩,hz,hs⟩:=dk.1 (aR h hx)
  rcases hs with rfl|⟨b,o1,cs,rfl,k1,k2,k3,k4⟩
  ·simp at hc;omega
  refine yv (v:= .pointer (some ⟨b,o1,none⟩)) (w':=c.w) ?_ (bD ?_)
  ·simp [run,execOp,hop,Instr.arrayAt,e1,hru2,Nat.not_lt.2 hc]
  ·have hcd:=zc k4
   have hlen:=ig hcd
   refine gK.2 ⟨b,o1,(cs.take (E.tb A).len),rfl,k1,k2,by simpa using k3.part 0 (E.tb A).len,⟨by simp;omega,(fun hh=>nomatch hh),fun u hu=>ot hcd u (List.mem_of_mem_take hu)⟩,?_⟩
   rw [zb (by omega)]
   exact ⟨_,rfl,by simpa using iX (E.tb A).len hcd⟩
 ·cases hr
theorem zd {ρ':Ro} {z:Option Bool} {n:Nat} {g:Bool} {l l':List V} {v u:Value} {i q s:Nat} (hv:rd ρ' c (.sl z n g l) v) (hu:(ib (rV ro0 n g)).val c u l')
  (hhd: ∃a cap,v= .slice a l.length cap∧u= .slice (if cap=i then a else a.map (·.add (i*s))) q (cap - i)):rd ρ c (.sl none n g l') u:=by
 obtain ⟨a,cap,e,h1,h2⟩:=fG.1 hu
 obtain ⟨a1,cap1,e1,e2⟩:=hhd
 obtain ⟨a2,cap2,e3,_,hz,_⟩:=dk.1 hv
 rw [e1] at e3;cases e3
 refine dk.2 ⟨a,cap,e,h1,fun ha=> ?_,h2⟩
 rw [e2] at e
 simp only [Value.slice.injEq] at e
 obtain ⟨g1,g2,g3⟩:=e
 subst ha
 have:a1=none:=by
  split at g1
  ·exact g1
  ·cases a1 with
   | none=>rfl
   | some x=>cases g1
 have:=qD hz this
 omega
theorem vc {o:Oper} {U El:TypeId} {m b off o':Nat} {x:Operand} {lo hi:Option Operand} (hop:o.op= .slice U x lo hi none) (hu:E.P.underlying U=some (.array m El)) (hsz: ∀w,(sizeOf El).run E.P w= .ok 1 w)
  (hx:ev F x= .pointer (some ⟨b,o'+off,none⟩)) {i j:Int} (hlo:(lo=none∧i=0)∨ ∃y k,lo=some y∧ev F y= .int k i) (hhi:(hi=none∧j=m)∨ ∃y k,hi=some y∧ev F y= .int k j) (hc:0≤i∧i≤j∧j≤m) (hm:m≤1073741824)
  {l:List V} {cs:List Value} (h1:b<c.w.heap.size) (h2:b∉c.X) (h3:cU c.w b o' cs) (h4:rdC ro0 c l cs) (hl:off+m≤l.length) {ρ':Ro}:
  aF E.P (fun u w'=>w'=c.w∧rd ρ' c (.sl (some false) 1 false (mI (l.drop off) i j)) u) (run E.P F o c.w):=by
 have hru:(underlying U).run E.P c.w= .ok (.array m El) c.w:=by simp [underlying,hu]
 obtain ⟨c1,c2,c3⟩:=hc
 have hlen:=ig h4
 have hi':i=((i.toNat:Nat):Int):=by omega
 have hj':j=((j.toNat:Nat):Int):=by omega
 have hrun:run E.P F o c.w= .ok (.value (.slice (some (if m - i.toNat=0 then ⟨b,o'+off,none⟩ else ⟨b,o'+off+i.toNat,none⟩)) (j.toNat - i.toNat) (m - i.toNat))) c.w:=by
  have c4:(0:Int)≤j:=by omega
  have c5:i≤(m:Int):=by omega
  have hmi:(m=i.toNat)↔(m - i.toNat=0):=by omega
  rcases hlo with ⟨rfl,rfl⟩|⟨y,k,rfl,ey⟩<;>rcases hhi with ⟨rfl,rfl⟩|⟨y2,k2,rfl,ey2⟩
  ·simp [run,execOp,hop,Instr.sliceAt,hx,hru,Instr.sureAddr,Instr.sliceBounds,hsz,Addr.add]
  ·simp [run,execOp,hop,Instr.sliceAt,hx,hru,Instr.sureAddr,Instr.sliceBounds,Instr.sliceBound,asIntOf,ey2,hsz,Addr.add,c3,c4]
  ·simp [run,execOp,hop,Instr.sliceAt,hx,hru,Instr.sureAddr,Instr.sliceBounds,Instr.sliceBound,asIntOf,ey,hsz,Addr.add,c1,c2,hmi]
   split
   ·rfl
   ·split
    ·have e0:i.toNat=0:=by omega
     simp [e0]
    ·rfl
  ·simp [run,execOp,hop,Instr.sliceAt,hx,hru,Instr.sureAddr,Instr.sliceBounds,Instr.sliceBound,asIntOf,ey,ey2,hsz,Addr.add,c1,c2,c3,c4,hmi,hj'.symm]
   split
   ·rfl
   ·split
    ·have e0:i.toNat=0:=by omega
     simp [e0]
    ·rfl
 rw [hrun]
 refine ⟨rfl,dk.2 ?_⟩
 have hcl:(mI (l.drop off) i j).length=j.toNat - i.toNat:=by simp [mI];omega
 refine ⟨_,m - i.toNat,by rw [hcl],⟨by rw [hcl];unfold LEN;omega,by rw [hcl];omega⟩,by simp [zOk],?_⟩
 by_cases hz:m - i.toNat=0
 ·left
  exact List.eq_nil_of_length_eq_zero (by rw [hcl];omega)
 ·right
  rw [if_neg hz]
  have hp:=h3.part (off+i.toNat) (j.toNat - i.toNat)
  refine ⟨b,o'+off+i.toNat,_,rfl,h1,h2,by rw [Nat.add_assoc];exact hp,fI.1 (va (ρ':=ro0) (fun _ _ _ h=>h) ?_)⟩
  have:=iX (j.toNat - i.toNat) (iW (off+i.toNat) h4)
  simpa [mI,List.drop_drop] using this
theorem Gu (hE:bn E) (h:Sim E c0 c ρ S F) {o:Oper} {U:TypeId} {x:Operand} {lo hi:Option Operand} (hop:o.op= .slice U x lo hi none) (hU:(E.tb U).ok=true) {cnd:Prop} {v:V} {e:Eff}
  (hr:q9 S.H (E.tb U) (E.tb (E.tb U).el) (S.ev E.gv x) (loB (S.ev E.gv) lo) (hiB (jY (E.tb U).len S.H (S.ev E.gv x)) (S.ev E.gv) hi)=some (cnd,v,e)) (hc:cnd):aF E.P (bC c0 c ρ S nid v e) (run E.P F o c.w):=by
 have hlo: ∀i,loB (S.ev E.gv) lo=some i→(lo=none∧i=0)∨ ∃y k,lo=some y∧ev F y= .int k i:=by
  intro i hi
  cases lo with
  | none=>cases hi;exact .inl ⟨rfl,rfl⟩
  | some y=>
   simp only [loB] at hi
   unfold bound at hi
   split at hi
   ·rename_i e;cases e
   ·rename_i k i' e;cases hi
    simp only [Option.some.injEq] at e
    exact .inr ⟨y,k,rfl,(aR h e).1⟩
   ·cases hi
 have hhi: ∀n j,hiB n (S.ev E.gv) hi=some j→(hi=none∧j=n)∨ ∃y k,hi=some y∧ev F y= .int k j:=by
  intro n j hj
  cases hi with
  | none=>cases hj;exact .inl ⟨rfl,rfl⟩
  | some y=>
   simp only [hiB] at hj
   unfold bound at hj
   split at hj
   ·rename_i e;cases e
   ·rename_i k i' e;cases hj
    simp only [Option.some.injEq] at e
    exact .inr ⟨y,k,rfl,(aR h e).1⟩
   ·cases hj
 unfold q9 at hr
 split at hr
 ·rename_i z n g l i j hx hi1 hj1
  obtain ⟨⟨h3,rfl,rfl⟩,hr2⟩:=aX hr
  cases hr2
  obtain ⟨hu,hel⟩:=c_ hE hU h3
  have hT:=hE.t _ hel
  rw [hx] at hj1
  have hrd:=aR h hx
  refine yq hop hu (hT.ty ro0) (jR hrd) (hlo _ hi1) (hhi _ _ hj1) hc fun u hu' hhd=>bD ?_
  exact zd hrd hu' hhd
 ·rename_i s i j hx hi1 hj1
  obtain ⟨h2,hr2⟩:=aX hr
  cases hr2
  have hu:=gL hE hU h2
  have hru:(underlying U).run E.P c.w= .ok .string c.w:=by simp [underlying,hu]
  obtain ⟨e1,hl⟩:=aR h hx
  rw [hx] at hj1
  have hlo':=hlo _ hi1
  have hhi':=hhi _ _ hj1
  simp only [jY] at hhi'
  obtain ⟨c1,c2,c3⟩:=hc
  have hsz:(⟨s.toArray⟩:ByteArray).size=s.length:=rfl
  have hext:(⟨s.toArray⟩:ByteArray).extract i.toNat j.toNat=⟨((s.drop i.toNat).take (j.toNat - i.toNat)).toArray⟩:=by
   apply ByteArray.ext
   simp [ByteArray.data_extract,List.extract_eq_take_drop]
  have h0:(0:Int)≤(s.length:Int):=by omega
  have c4:(0:Int)≤j:=by omega
  refine yv (v:= .string ⟨((s.drop i.toNat).take (j.toNat - i.toNat)).toArray⟩) (w':=c.w) ?_ (bD ⟨rfl,by simp only [List.length_take,List.length_drop];omega⟩)
  rw [←hext]
  have hj':(j.toNat:Int)=j:=by omega
  rcases hlo' with ⟨rfl,rfl⟩|⟨y,k,rfl,ey⟩<;>rcases hhi' with ⟨rfl,rfl⟩|⟨y2,k2,rfl,ey2⟩
  ·have hfull:(⟨s.toArray⟩:ByteArray).extract 0 s.length=⟨s.toArray⟩:=by apply ByteArray.ext;simp
   simp [run,execOp,hop,Instr.sliceAt,e1,Instr.slice,hru,Instr.sliceBounds,hsz,hfull]
  ·simp [run,execOp,hop,Instr.sliceAt,e1,ey2,Instr.slice,hru,Instr.sliceBounds,Instr.sliceBound,asIntOf,hsz,c3,c4]
  ·simp [run,execOp,hop,Instr.sliceAt,e1,ey,Instr.slice,hru,Instr.sliceBounds,Instr.sliceBound,asIntOf,hsz,c1,c2]
  ·simp [run,execOp,hop,Instr.sliceAt,e1,ey,ey2,Instr.slice,hru,Instr.sliceBounds,Instr.sliceBound,asIntOf,hsz,c1,c2,c3,c4,hj']
 ·rename_i id i j hx hi1 hj1
  obtain ⟨h3,hr2⟩:=aX hr
  obtain ⟨hu,hel⟩:=c_ hE hU h3
  have hT:=hE.t _ hel
  have hp:=aR h hx
  simp only [rd] at hp
  rw [hx] at hj1
  unfold uH at hr2
  split at hr2
  ·rename_i E' n g z l hH
   obtain ⟨⟨rfl,rfl⟩,hr3⟩:=aX hr2
   cases hr3
   obtain ⟨v',e1,hown,_,hone,a,cap,es,_⟩:=h.heap _ _ hH
   rw [hp.1] at e1;cases e1
   simp only [jY,hH,q_] at hj1
   have hcap:l.length≤cap:=by
    rcases hown.2 with ⟨a4,e4,rfl⟩|⟨g4,cp4,cur4,e4,_,_,k3,_⟩
    ·simp
    ·rw [es] at e4;cases e4;exact k3
   have hsz: ∀w,(sizeOf (E.tb U).el).run E.P w= .ok (E.tb (E.tb U).el).n w:=fun w=>by
    have:=(hT.ty ro0).size w
    rwa [cb hT.one] at this
   refine Fu hop hu hsz es (hlo _ hi1) (hhi _ _ hj1) hc hcap (bD ?_)
   simp only [rd]
   exact ⟨_,hp.1,.inl ⟨a,_,cap,es,by omega,by omega,rfl⟩⟩
  ·rename_i n g z l hH
   obtain ⟨⟨rfl,rfl⟩,hr3⟩:=aX hr2
   cases hr3
   obtain ⟨v',e1,hsl⟩:=h.heap _ _ hH
   rw [hp.1] at e1;cases e1
   simp only [jY,hH,q_] at hj1
   refine yq hop hu (hT.ty ro0) (jR hsl) (hlo _ hi1) (hhi _ _ hj1) hc fun u hu' hhd=>bD ?_
   exact zd hsl hu' hhd
  ·cases hr2
 ·rename_i id off i j hx hi1 hj1
  obtain ⟨h4,hr2⟩:=aX hr
  obtain ⟨hu,hel⟩:=j5 hE hU h4
  have hT:=hE.t _ hel
  have hp:=aR h hx
  simp only [rd] at hp
  obtain ⟨b,hb,he⟩:=hp
  rw [hx] at hj1
  simp only [jY] at hj1
  unfold uJ at hr2
  split at hr2
  ·rename_i n l hH
   unfold li at hr2
   obtain ⟨⟨g1,g2,g3,g4⟩,hr3⟩:=aX hr2
   cases hr3
   obtain ⟨b',e1,b2,o2,cs,e2,k1,k2,k3,k4,k5⟩:=h.heap _ _ hH
   rw [hb] at e1;cases e1;cases e2
   have hsz: ∀w,(sizeOf (E.tb U).el).run E.P w= .ok 1 w:=fun w=>by
    have:=(hT.ty ro0).size w
    rwa [cb hT.one,g1] at this
   obtain ⟨cs',e3,k6⟩:=(show rd ro0 c (.agg l) (mkV true cs) from k5)
   have e4:cs=cs':=by simpa [mkV] using e3
   subst e4
   refine (vc (c:=c) (ρ':=ρ) (o':=0) hop hu hsz (by simpa using he) (hlo _ hi1) (hhi _ _ hj1) hc g4 k1 k2 k3 k6 g3).mono ?_
   rintro u w' ⟨rfl,hu'⟩
   exact bD hu'
  ·rename_i n l hH
   unfold uI at hr2
   split at hr2
   ·rename_i c9 v9 e9 hs
    cases hr2
    unfold li at hs
    obtain ⟨⟨g1,g2,g3,g4⟩,hr3⟩:=aX hs
    cases hr3
    obtain ⟨hc,hpu⟩:=hc
    obtain ⟨b',e1,hge,hX,T,cs,hh,hi⟩:=h.heap _ _ hH
    rw [hb] at e1;cases e1
    have hsz: ∀w,(sizeOf (E.tb U).el).run E.P w= .ok 1 w:=fun w=>by
     have:=(hT.ty ro0).size w
     rwa [cb hT.one,g1] at this
    obtain ⟨cs',e3,k6⟩:=(show rd ρ c (.agg l) (mkV true cs.toList) from hi.2)
    have e4:cs.toList=cs':=by
     have e5:cs=cs'.toArray:=by simpa [mkV] using e3
     rw [e5]
    subst e4
    have hbv:blk (.slice (some ⟨b,0,none⟩) 0 1)=some b:=rfl
    have hpd:=c.pub_dropv (.slice (some ⟨b,0,none⟩) 0 1)
    have k1:b<(c.dropv (.slice (some ⟨b,0,none⟩) 0 1)).w.heap.size:=c.ok b hX
    have k2:b∉(c.dropv (.slice (some ⟨b,0,none⟩) 0 1)).X:=by simp [Cx.dropv,List.mem_filter,hbv]
    have k3:cU (c.dropv (.slice (some ⟨b,0,none⟩) 0 1)).w b 0 cs.toList:=by
     intro j u hj
     simp only [Cx.dropv,World.cell?,hh]
     simpa using hj
    have k7:=uc hpd (rk (ρ':=ro0) hpu k6)
    refine (vc (c:=c.dropv (.slice (some ⟨b,0,none⟩) 0 1)) (ρ':=ρ) (o':=0) hop hu hsz (by simpa using he) (hlo _ hi1) (hhi _ _ hj1) hc g4 k1 k2 k3 k7 g3).mono ?_
    rintro u w' ⟨rfl,hu'⟩
    exact ⟨_,ρ,rfl,⟨_,_,_,hH,rfl⟩,⟨rfl,⟨b,hb,b,0,cs.toList,rfl,k1,k2,k3,hi.1,⟨_,rfl,k7⟩⟩,b,hb,rfl⟩,hu'⟩
   ·cases hr2
  ·cases hr2
 ·rename_i n l i j hx hi1 hj1
  obtain ⟨h4,hr2⟩:=aX hr
  obtain ⟨hu,hel⟩:=j5 hE hU h4
  have hT:=hE.t _ hel
  have hp:=aR h hx
  simp only [rd] at hp
  obtain ⟨b,o2,cs,e2,k1,k2,k3,k4,k5⟩:=hp
  rw [hx] at hj1
  simp only [jY] at hj1
  unfold li at hr2
  obtain ⟨⟨g1,g2,g3,g4⟩,hr3⟩:=aX hr2
  cases hr3
  have hsz: ∀w,(sizeOf (E.tb U).el).run E.P w= .ok 1 w:=fun w=>by
   have:=(hT.ty ro0).size w
   rwa [cb hT.one,g1] at this
  obtain ⟨cs',e3,k6⟩:=(show rd ro0 c (.agg l) (mkV true cs) from k5)
  have e4:cs=cs':=by simpa [mkV] using e3
  subst e4
  refine (vc (ρ':=ρ) (off:=0) (o':=o2) hop hu hsz (by simpa using e2) (hlo _ hi1) (hhi _ _ hj1) hc g4 k1 k2 k3 k6 g3).mono ?_
  rintro u w' ⟨rfl,hu'⟩
  exact bD hu'
 ·cases hr
theorem vd (h:Sim E c0 c ρ S F): ∀{l:List Operand} {vs:List V},evL (S.ev E.gv) l=some vs→rdT ρ c vs (l.map (ev F))
 | [],vs,e=>by simp only [evL,Option.some.injEq] at e;subst e;rfl
 | x::l,vs,e=>by
  unfold evL at e
  cases hx:S.ev E.gv x with
  | none=>rw [hx] at e;cases e
  | some v=>
   cases hl:evL (S.ev E.gv) l with
   | none=>rw [hx,hl] at e;cases e
   | some us=>
    rw [hx,hl] at e
    simp only [evL.consO,Option.some.injEq] at e
    subst e
    exact ⟨_,_,rfl,aR h hx,vd h hl⟩
theorem Gv (h:Sim E c0 c ρ S F) {o:Oper} {fn:Fn} {first cs:Array Operand} (hop:o.op= .makeFunc fn first cs) {cnd:Prop} {v:V} {e:Eff}
  (hr:ra fn first.toList (evL (S.ev E.gv) first.toList) (evL (S.ev E.gv) cs.toList)=some (cnd,v,e)) (hc:cnd):aF E.P (bC c0 c ρ S nid v e) (run E.P F o c.w):=by
 unfold ra at hr
 split at hr
 ·rename_i f l hf hl
  cases hr
  obtain ⟨first⟩:=first
  obtain ⟨cs⟩:=cs
  simp only at hf hl
  subst hf
  exact Fq hop rfl (bD ⟨_,rfl,vd h hl⟩)
 ·rename_i f x l vs hf h1 h2
  cases hr
  obtain ⟨first⟩:=first
  obtain ⟨cs⟩:=cs
  simp only at hf h1 h2
  have hcs:cs=[]:=by
   cases cs with
   | nil=>rfl
   | cons y m=>simp only [evL] at h2;unfold evL.consO at h2;split at h2<;>simp at h2
  subst hcs
  refine yv (v:= .func (.func f) (first.map (ev F)).toArray #[]) (w':=c.w) (by simp [run,execOp,hop,Instr.makeFunc]) (bD ?_)
  simp only [rd]
  refine ⟨⟨first.map (ev F),rfl,lv hc (vd h h1)⟩,rfl,?_⟩
  intro c1 c2 v hv k
  obtain ⟨cs,e,hr⟩:=hv
  exact ⟨cs,e,fH k hr⟩
 ·cases hr
theorem ve (hE:bn E) (h:Sim E c0 c ρ S F) (hf:ρ nid=none) {o:Oper} {cnd:Prop} {v:V} {e:Eff} (hr:opF E S nid o.type o.op=some (cnd,v,e)) (hc:cnd):aF E.P (bC c0 c ρ S nid v e) (run E.P F o c.w):=by
 have hbind: ∀{x:Option V},q6 x=some (cnd,v,e)→x=some v∧e= .none:=by
  intro x hx
  cases x with
  | none=>cases hx
  | some d=>cases hx;exact ⟨rfl,rfl⟩
 generalize hop:o.op=op at hr
 unfold opF at hr
 split at hr
 ·obtain ⟨h1,rfl⟩:=hbind hr
  exact Ej hop (bD (eU h h1))
 ·obtain ⟨h1,rfl⟩:=hbind hr
  exact Ek hop (bD (eU h h1))
 ·exact F1 h hop hr
 ·obtain ⟨h1,h2⟩:=dJ hr;exact FL hE h hop h1 h2 hc
 ·obtain ⟨h1,h2⟩:=dJ hr;exact FM hE h hop h1 h2 hc
 ·obtain ⟨h1,h2⟩:=dJ hr;exact FN hE h hop h1 h2
 ·obtain ⟨h1,h2⟩:=dJ hr;exact FO hE h hop h1 h2 hc
 ·obtain ⟨h1,h2⟩:=dJ hr;exact FR hE h hop h1 h2 hc
 ·obtain ⟨h1,h2⟩:=dJ hr;exact FS hE h hop h1 h2 hc
 ·obtain ⟨h1,h2⟩:=dJ hr;exact Gd hE h hf hop h1 h2
 ·obtain ⟨h1,h2⟩:=dJ hr;exact Ge hE h hf hop h1 h2 hc
 ·obtain ⟨h1,h2⟩:=dJ hr;exact Gg hE h hop h1 h2 hc
 ·obtain ⟨h1,h2⟩:=dJ hr;exact Gi hE h hf hop h1 h2 hc
 ·obtain ⟨h1,h2⟩:=dJ hr;exact Gj hE h hf hop h1 h2 hc
 ·obtain ⟨h1,h2⟩:=dJ hr
  rename_i bop U x y W
  unfold uw at h2
  split at h2
  ·rename_i k a k' b hx hy
   have e1:=aR h hx
   have e2:=aR h hy
   exact FT hE h hop e1.1 e2.1 e1.2 e2.2 h2 hc
  ·rename_i a b hx hy
   exact FU hE hop h1 (aR h hx) (aR h hy) h2
  ·rename_i a b hx hy
   exact FW hop (aR h hx).1 (aR h hy).1 h2 hc
  ·rename_i a b hx hy
   obtain ⟨⟨h3,h5⟩,h4⟩:=aX h2
   exact F_ hE h hop h1 h3 h5 (aR h hx) (aR h hy) h4
  ·rename_i z n g l hx hy
   obtain ⟨h3,h4⟩:=aX h2
   have hn:=aR h hy
   obtain ⟨a,cap,he,hl,hz,_⟩:=dk.1 hn
   obtain ⟨rfl,rfl⟩:=hz
   exact FX hE hop h1 h3 (aR h hx) he h4
  ·rename_i b hx hy
   obtain ⟨⟨h3,h5⟩,h4⟩:=aX h2
   have hn:gJ true (ev F y):=aR h hy
   exact FY hE hop h1 h5 h3 (aR h hx) (by simpa [gJ] using hn) h4
  ·cases h2
 ·exact FZ h hop hr
 ·obtain ⟨h1,h2⟩:=dJ hr
  simp only [Bool.and_eq_true] at h1
  split at h2
  ·rename_i e9
   subst e9
   unfold uA at h2
   split at h2
   ·rename_i i9 hx9
    exact Gs hE h hop h1.1 hx9 h2 hc
   ·exact za hE h hf hop h1.1 h1.2 h2 hc
  ·exact za hE h hf hop h1.1 h1.2 h2 hc
 ·obtain ⟨h1,h2⟩:=dJ hr;exact Gt hE h hop h1 h2 hc
 ·exact F8 h hop hr
 ·exact F9 h hop hr
 ·obtain ⟨h1,h2⟩:=dJ hr;exact Gu hE h hop h1 h2 hc
 ·rename_i cl
  obtain ⟨callee,args,ats⟩:=cl
  obtain ⟨args⟩:=args
  obtain ⟨ats⟩:=ats
  simp only at hr
  unfold uM at hr
  split at hr
  ·obtain ⟨h1,h2⟩:=dJ hr;exact F3 hE h hop h1 h2
  ·exact F6 h hop hr
  ·exact F7 h hop hr
  ·exact F4 h hop hr
  ·exact F5 h hop hr
  ·obtain ⟨⟨rfl,h1⟩,h2⟩:=aX hr
   exact Gp hE h hop h1 h2 hc
  ·obtain ⟨⟨rfl,h1⟩,h2⟩:=aX hr
   exact Gk hE h hf hop h1 h2 hc
  ·cases hr
 ·exact Gv h hop hr hc
 ·obtain ⟨h1,h2⟩:=dJ hr;exact Ga hE h hf hop h1 h2
 ·obtain ⟨h1,h2⟩:=dJ hr;exact Gb hE h hop h1 h2 hc
 ·obtain ⟨h1,h2⟩:=dJ hr;exact Gc hE h hop h1 h2 hc
 ·cases hr
theorem Gw (hE:bn E) (h:Sim E c0 c ρ S F) {o:Oper} {U:TypeId} {x:Operand} (hop:o.op= .slice U x none none none) {cnd:Prop} {v:V} {e:Eff}
  (hr:rg E.tb S.H U (S.ev E.gv x)=some (cnd,v,e)):aF E.P (bC c0 c ρ S nid v e) (run E.P F o c.w):=by
 unfold rg at hr
 split at hr
 ·rename_i id hx
  unfold uP at hr
  split at hr
  ·rename_i n l hH
   obtain ⟨⟨g0,g1,g2,g3,g4,g5,g6⟩,hr2⟩:=aX hr
   cases hr2
   obtain ⟨hu,hel⟩:=j5 hE g0 g1
   have hT:=hE.t _ hel
   have hp:=aR h hx
   simp only [rd] at hp
   obtain ⟨b,hb,he⟩:=hp
   have hsz: ∀w,(sizeOf (E.tb U).el).run E.P w= .ok 1 w:=fun w=>by
    have:=(hT.ty ro0).size w
    rwa [cb hT.one,g2] at this
   have hru:(underlying U).run E.P c.w= .ok (.array (E.tb U).len (E.tb U).el) c.w:=by simp [underlying,hu]
   have hne: ¬(E.tb U).len=0:=by omega
   refine yv (v:= .slice (some ⟨b,0,none⟩) (E.tb U).len (E.tb U).len) (w':=c.w) ?_ (bD ?_)
   ·simp [run,execOp,hop,Instr.sliceAt,he,hru,Instr.sureAddr,Instr.sliceBounds,hsz,Addr.add]
   ·simp only [rd]
    exact ⟨_,hb,.inr ⟨b,rfl,rfl,rfl,rfl⟩⟩
  ·cases hr
 ·cases hr
theorem Gx (hE:bn E) (h:Sim E c0 c ρ S F) (hf:ρ nid=none) {o:Oper} {cnd:Prop} {v:V} {e:Eff} (hr:opH E S nid o.type o.op=some (cnd,v,e)) (hc:cnd):aF E.P (bC c0 c ρ S nid v e) (run E.P F o c.w):=by
 unfold opH at hr
 split at hr
 ·rename_i U x hi
  have hop:o.op= .slice U x none none none:=by
   unfold uQ at hi
   split at hi
   ·rename_i hop;cases hi;exact hop
   ·cases hi
  unfold uR at hr
  split at hr
  ·rename_i r hr2
   cases hr
   exact Gw hE h hop hr2
  ·exact ve hE h hf hr hc
 ·exact ve hE h hf hr hc
end
end Go.Proofs.YtgealhhkngbkbaaGreatDoor
