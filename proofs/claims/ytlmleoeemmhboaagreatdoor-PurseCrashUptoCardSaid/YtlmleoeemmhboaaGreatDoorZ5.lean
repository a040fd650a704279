/- Texts of this proof, one after the other: T, L0, R0, R1, R2, RT. -/
import Derived.Test.YtlmleoeemmhboaaGreatDoorZ4
set_option linter.unusedVariables false
set_option linter.unusedSimpArgs false
namespace Go.Proofs.YtlmleoeemmhboaaGreatDoor
open Go.RowKit
structure dL where
 P:Int
 Q:Int
 G:Int
def ml:dL:={P:=(0:Int),Q:=(0:Int),G:=(0:Int)}
instance:Inhabited dL:=⟨ml⟩
@[go_sem] theorem KW:ml.P=(0:Int):=Eq.trans rfl rfl
@[go_sem] theorem KX:ml.Q=(0:Int):=Eq.trans rfl rfl
@[go_sem] theorem KY:ml.G=(0:Int):=Eq.trans rfl rfl
structure dY where
 Group:dL
 G1:Int
 G2:Int
 H:Int
def nY:dY:={Group:=ml,G1:=(0:Int),G2:=(0:Int),H:=(0:Int)}
instance:Inhabited dY:=⟨nY⟩
@[go_sem] theorem KZ:nY.Group=ml:=Eq.trans rfl rfl
@[go_sem] theorem K0:nY.G1=(0:Int):=Eq.trans rfl rfl
@[go_sem] theorem K1:nY.G2=(0:Int):=Eq.trans rfl rfl
@[go_sem] theorem K2:nY.H=(0:Int):=Eq.trans rfl rfl
structure dZ where
 Seed:(List Int)
 Counter:Int
def gR:dZ:={Seed:=[0,0,0,0,0,0,0,0,0,0,0,0,0,0,0,0,0,0,0,0,0,0,0,0,0,0,0,0,0,0,0,0],Counter:=(0:Int)}
instance:Inhabited dZ:=⟨gR⟩
@[go_sem] theorem K3:gR.Seed=[0,0,0,0,0,0,0,0,0,0,0,0,0,0,0,0,0,0,0,0,0,0,0,0,0,0,0,0,0,0,0,0]:=Eq.trans rfl rfl
@[go_sem] theorem K6:gR.Counter=(0:Int):=Eq.trans rfl rfl
structure kS where
 Z:Int
 A:Int
 B:Int
 R:Int
def kT:kS:={Z:=(0:Int),A:=(0:Int),B:=(0:Int),R:=(0:Int)}
instance:Inhabited kS:=⟨kT⟩
@[go_sem] theorem K7:kT.Z=(0:Int):=Eq.trans rfl rfl
@[go_sem] theorem K8:kT.A=(0:Int):=Eq.trans rfl rfl
@[go_sem] theorem K_:kT.B=(0:Int):=Eq.trans rfl rfl
@[go_sem] theorem La:kT.R=(0:Int):=Eq.trans rfl rfl
structure bV where
 Bank:Int
 Epoch:Int
 Denom:Int
 Depth:Int
 A:Int
 Root:(List Int)
 Sign:kS
def cX:bV:={Bank:=(0:Int),Epoch:=(0:Int),Denom:=(0:Int),Depth:=(0:Int),A:=(0:Int),Root:=[0,0,0,0,0,0,0,0,0,0,0,0,0,0,0,0,0,0,0,0,0,0,0,0,0,0,0,0,0,0,0,0],Sign:=kT}
instance:Inhabited bV:=⟨cX⟩
@[go_sem] theorem Lb:cX.Bank=(0:Int):=Eq.trans rfl rfl
@[go_sem] theorem Lc:cX.Epoch=(0:Int):=Eq.trans rfl rfl
@[go_sem] theorem Ld:cX.Denom=(0:Int):=Eq.trans rfl rfl
@[go_sem] theorem Le:cX.Depth=(0:Int):=Eq.trans rfl rfl
@[go_sem] theorem Lf:cX.A=(0:Int):=Eq.trans rfl rfl
@[go_sem] theorem Lg:cX.Root=[0,0,0,0,0,0,0,0,0,0,0,0,0,0,0,0,0,0,0,0,0,0,0,0,0,0,0,0,0,0,0,0]:=Eq.trans rfl rfl
@[go_sem] theorem Lh:cX.Sign=kT:=Eq.trans rfl rfl
structure cH where
 U:Int
 S:Int
 X:(List (List Int))
def gp:cH:={U:=(0:Int),S:=(0:Int),X:=[]}
instance:Inhabited cH:=⟨gp⟩
@[go_sem] theorem Li:gp.U=(0:Int):=Eq.trans rfl rfl
@[go_sem] theorem Lj:gp.S=(0:Int):=Eq.trans rfl rfl
@[go_sem] theorem Lk:gp.X=[]:=Eq.trans rfl rfl
structure jN where
 Level:Int
 Index:Int
def nZ:jN:={Level:=(0:Int),Index:=(0:Int)}
instance:Inhabited jN:=⟨nZ⟩
@[go_sem] theorem Ll:nZ.Level=(0:Int):=Eq.trans rfl rfl
@[go_sem] theorem Lm:nZ.Index=(0:Int):=Eq.trans rfl rfl
structure iB where
 Payee:(List Int)
 Time:Int
 Number:Int
def mm:iB:={Payee:=[0,0,0,0,0,0,0,0,0,0,0,0,0,0,0,0,0,0,0,0,0,0,0,0,0,0,0,0,0,0,0,0],Time:=(0:Int),Number:=(0:Int)}
instance:Inhabited iB:=⟨mm⟩
@[go_sem] theorem Ln:mm.Payee=[0,0,0,0,0,0,0,0,0,0,0,0,0,0,0,0,0,0,0,0,0,0,0,0,0,0,0,0,0,0,0,0]:=Eq.trans rfl rfl
@[go_sem] theorem Lo:mm.Time=(0:Int):=Eq.trans rfl rfl
@[go_sem] theorem Lp:mm.Number=(0:Int):=Eq.trans rfl rfl
structure cA where
 B:Int
 R1:Int
 R2:Int
def qS:cA:={B:=(0:Int),R1:=(0:Int),R2:=(0:Int)}
instance:Inhabited cA:=⟨qS⟩
@[go_sem] theorem Lq:qS.B=(0:Int):=Eq.trans rfl rfl
@[go_sem] theorem Lr:qS.R1=(0:Int):=Eq.trans rfl rfl
@[go_sem] theorem Ls:qS.R2=(0:Int):=Eq.trans rfl rfl
structure gu where
 Index:Int
 L:(List (List Int))
def oa:gu:={Index:=(0:Int),L:=[]}
instance:Inhabited gu:=⟨oa⟩
@[go_sem] theorem Lt:oa.Index=(0:Int):=Eq.trans rfl rfl
@[go_sem] theorem Lu:oa.L=[]:=Eq.trans rfl rfl
structure aS where
 Coin:bV
 Node:jN
 Context:iB
 Leaves:(List cA)
 Path:gu
def cI:aS:={Coin:=cX,Node:=nZ,Context:=mm,Leaves:=[],Path:=oa}
instance:Inhabited aS:=⟨cI⟩
@[go_sem] theorem Lv:cI.Coin=cX:=Eq.trans rfl rfl
@[go_sem] theorem Lw:cI.Node=nZ:=Eq.trans rfl rfl
@[go_sem] theorem Lx:cI.Context=mm:=Eq.trans rfl rfl
@[go_sem] theorem Ly:cI.Leaves=[]:=Eq.trans rfl rfl
@[go_sem] theorem Lz:cI.Path=oa:=Eq.trans rfl rfl
structure aX where
 Coin:bV
 Secret:cH
 Spent:(List Bool)
 Chain:(List aS)
def mn:aX:={Coin:=cX,Secret:=gp,Spent:=[],Chain:=[]}
instance:Inhabited aX:=⟨mn⟩
@[go_sem] theorem LA:mn.Coin=cX:=Eq.trans rfl rfl
@[go_sem] theorem LB:mn.Secret=gp:=Eq.trans rfl rfl
@[go_sem] theorem LC:mn.Spent=[]:=Eq.trans rfl rfl
@[go_sem] theorem LD:mn.Chain=[]:=Eq.trans rfl rfl
structure jO where
 S:Int
 U:Int
 V:Int
def mp:jO:={S:=(0:Int),U:=(0:Int),V:=(0:Int)}
instance:Inhabited jO:=⟨mp⟩
@[go_sem] theorem LE:mp.S=(0:Int):=Eq.trans rfl rfl
@[go_sem] theorem LF:mp.U=(0:Int):=Eq.trans rfl rfl
@[go_sem] theorem LG:mp.V=(0:Int):=Eq.trans rfl rfl
structure jP where
 M:Int
 Z:Int
 A:Int
 B:Int
 C:Int
 R:Int
def i7:jP:={M:=(0:Int),Z:=(0:Int),A:=(0:Int),B:=(0:Int),C:=(0:Int),R:=(0:Int)}
instance:Inhabited jP:=⟨i7⟩
@[go_sem] theorem LH:i7.M=(0:Int):=Eq.trans rfl rfl
@[go_sem] theorem LI:i7.Z=(0:Int):=Eq.trans rfl rfl
@[go_sem] theorem LJ:i7.A=(0:Int):=Eq.trans rfl rfl
@[go_sem] theorem LK:i7.B=(0:Int):=Eq.trans rfl rfl
@[go_sem] theorem LL:i7.C=(0:Int):=Eq.trans rfl rfl
@[go_sem] theorem LM:i7.R=(0:Int):=Eq.trans rfl rfl
structure bg where
 Phase:Int
 Number:Int
 Bank:Int
 Epoch:Int
 Denom:Int
 Depth:Int
 Secret:cH
 Factors:jO
 View:jP
 Coin:bV
def bO:bg:={Phase:=(0:Int),Number:=(0:Int),Bank:=(0:Int),Epoch:=(0:Int),Denom:=(0:Int),Depth:=(0:Int),Secret:=gp,Factors:=mp,View:=i7,Coin:=cX}
instance:Inhabited bg:=⟨bO⟩
@[go_sem] theorem LO:bO.Phase=(0:Int):=Eq.trans rfl rfl
@[go_sem] theorem LP:bO.Number=(0:Int):=Eq.trans rfl rfl
@[go_sem] theorem LQ:bO.Bank=(0:Int):=Eq.trans rfl rfl
@[go_sem] theorem LR:bO.Epoch=(0:Int):=Eq.trans rfl rfl
@[go_sem] theorem LS:bO.Denom=(0:Int):=Eq.trans rfl rfl
@[go_sem] theorem LT:bO.Depth=(0:Int):=Eq.trans rfl rfl
@[go_sem] theorem LU:bO.Secret=gp:=Eq.trans rfl rfl
@[go_sem] theorem LV:bO.Factors=mp:=Eq.trans rfl rfl
@[go_sem] theorem LW:bO.View=i7:=Eq.trans rfl rfl
@[go_sem] theorem LX:bO.Coin=cX:=Eq.trans rfl rfl
structure aP where
 Bank:Int
 U:Int
 Key:Int
 Next:Int
 Holdings:(List aX)
 Open:(List bg)
 Source:dZ
def bW:aP:={Bank:=(0:Int),U:=(0:Int),Key:=(0:Int),Next:=(0:Int),Holdings:=[],Open:=[],Source:=gR}
instance:Inhabited aP:=⟨bW⟩
@[go_sem] theorem LY:bW.Bank=(0:Int):=Eq.trans rfl rfl
@[go_sem] theorem LZ:bW.U=(0:Int):=Eq.trans rfl rfl
@[go_sem] theorem L1:bW.Key=(0:Int):=Eq.trans rfl rfl
@[go_sem] theorem L2:bW.Next=(0:Int):=Eq.trans rfl rfl
@[go_sem] theorem L3:bW.Holdings=[]:=Eq.trans rfl rfl
@[go_sem] theorem L4:bW.Open=[]:=Eq.trans rfl rfl
@[go_sem] theorem L5:bW.Source=gR:=Eq.trans rfl rfl
structure uy where
 H:Int
 H1:Int
 H2:Int
def mq:uy:={H:=(0:Int),H1:=(0:Int),H2:=(0:Int)}
instance:Inhabited uy:=⟨mq⟩
@[go_sem] theorem L6:mq.H=(0:Int):=Eq.trans rfl rfl
@[go_sem] theorem L7:mq.H1=(0:Int):=Eq.trans rfl rfl
@[go_sem] theorem L8:mq.H2=(0:Int):=Eq.trans rfl rfl
structure eJ where
 Bank:Int
 Epoch:Int
 Denom:Int
 Value:Int
 Depth:Int
 Key:uy
 From:Int
 Until:Int
 Final:Int
def iC:eJ:={Bank:=(0:Int),Epoch:=(0:Int),Denom:=(0:Int),Value:=(0:Int),Depth:=(0:Int),Key:=mq,From:=(0:Int),Until:=(0:Int),Final:=(0:Int)}
instance:Inhabited eJ:=⟨iC⟩
@[go_sem] theorem L9:iC.Bank=(0:Int):=Eq.trans rfl rfl
@[go_sem] theorem L_:iC.Epoch=(0:Int):=Eq.trans rfl rfl
@[go_sem] theorem Ma:iC.Denom=(0:Int):=Eq.trans rfl rfl
@[go_sem] theorem Mb:iC.Value=(0:Int):=Eq.trans rfl rfl
@[go_sem] theorem Mc:iC.Depth=(0:Int):=Eq.trans rfl rfl
@[go_sem] theorem Md:iC.Key=mq:=Eq.trans rfl rfl
@[go_sem] theorem Me:iC.From=(0:Int):=Eq.trans rfl rfl
@[go_sem] theorem Mf:iC.Until=(0:Int):=Eq.trans rfl rfl
@[go_sem] theorem Mg:iC.Final=(0:Int):=Eq.trans rfl rfl
structure ab where
 Kind:Int
 N:Int
 B:(List Int)
 L:(List ab)
def ee:ab:={Kind:=(0:Int),N:=(0:Int),B:=[],L:=[]}
instance:Inhabited ab:=⟨ee⟩
@[go_sem] theorem Mh:ee.Kind=(0:Int):=Eq.trans rfl rfl
@[go_sem] theorem Mi:ee.N=(0:Int):=Eq.trans rfl rfl
@[go_sem] theorem Mj:ee.B=[]:=Eq.trans rfl rfl
@[go_sem] theorem Mk:ee.L=[]:=Eq.trans rfl rfl
structure bh where
 Bytes:(List Int)
 Durable:Int
 After:Int
def gw:bh:={Bytes:=[],Durable:=(0:Int),After:=(0:Int)}
instance:Inhabited bh:=⟨gw⟩
@[go_sem] theorem Ml:gw.Bytes=[]:=Eq.trans rfl rfl
@[go_sem] theorem Mm:gw.Durable=(0:Int):=Eq.trans rfl rfl
@[go_sem] theorem Mn:gw.After=(0:Int):=Eq.trans rfl rfl
structure ef where
 l:(List ab)
def kU:ef:={l:=[]}
instance:Inhabited ef:=⟨kU⟩
@[go_sem] theorem Mp:kU.l=[]:=Eq.trans rfl rfl
structure fw where
 Journal:bh
def yR:fw:={Journal:=gw}
instance:Inhabited fw:=⟨yR⟩
@[go_sem] theorem Mq:yR.Journal=gw:=Eq.trans rfl rfl
structure aJ where
 b:(List Int)
 e:Int
def uz:aJ:={b:=[],e:=(0:Int)}
instance:Inhabited aJ:=⟨uz⟩
@[go_sem] theorem Mr:uz.b=[]:=Eq.trans rfl rfl
@[go_sem] theorem Ms:uz.e=(0:Int):=Eq.trans rfl rfl
def ja (x:dY):V:= .agg [.int .i64 x.Group.P,.int .i64 x.Group.Q,.int .i64 x.Group.G,.int .i64 x.G1,.int .i64 x.G2,.int .i64 x.H]
attribute [go_sem] ja
def qT:V:= .agg (.int .u32 0:: .int .u32 0:: .int .u32 0:: .int .u32 0:: .int .u32 0:: .int .u32 0:: .int .u32 0:: .int .u32 0:: .int .u32 0:: .int .u32 0:: .int .u32 0:: .int .u32 0:: .int .u32 0:: .int .u32 0:: .int .u32 0:: .int .u32 0:: .int .u32 0:: .int .u32 0:: .int .u32 0:: .int .u32 0:: .int .u32 0:: .int .u32 0:: .int .u32 0:: .int .u32 0:: .int .u32 0:: .int .u32 0:: .int .u32 0:: .int .u32 0:: .int .u32 0:: .int .u32 0:: .int .u32 0:: .int .u32 0:: .int .u32 0:: .int .u32 0:: .int .u32 0:: .int .u32 0:: .int .u32 0:: .int .u32 0:: .int .u32 0:: .int .u32 0:: .int .u32 0:: .int .u32 0:: .int .u32 0:: .int .u32 0:: .int .u32 0:: .int .u32 0:: .int .u32 0:: .int .u32 0:: .int .u32 0:: .int .u32 0:: .int .u32 0:: .int .u32 0:: .int .u32 0:: .int .u32 0:: .int .u32 0:: .int .u32 0:: .int .u32 0:: .int .u32 0:: .int .u32 0:: .int .u32 0:: .int .u32 0:: .int .u32 0:: .int .u32 0:: .int .u32 0::[])
attribute [go_sem] qT
def mr (l:(List Int)):V:= .agg (.int .u32 (gt l 0):: .int .u32 (gt l 1):: .int .u32 (gt l 2):: .int .u32 (gt l 3):: .int .u32 (gt l 4):: .int .u32 (gt l 5):: .int .u32 (gt l 6):: .int .u32 (gt l 7):: .int .u32 (gt l 8):: .int .u32 (gt l 9):: .int .u32 (gt l 10):: .int .u32 (gt l 11):: .int .u32 (gt l 12):: .int .u32 (gt l 13):: .int .u32 (gt l 14):: .int .u32 (gt l 15):: .int .u32 (gt l 16):: .int .u32 (gt l 17):: .int .u32 (gt l 18):: .int .u32 (gt l 19):: .int .u32 (gt l 20):: .int .u32 (gt l 21):: .int .u32 (gt l 22):: .int .u32 (gt l 23):: .int .u32 (gt l 24):: .int .u32 (gt l 25):: .int .u32 (gt l 26):: .int .u32 (gt l 27):: .int .u32 (gt l 28):: .int .u32 (gt l 29):: .int .u32 (gt l 30):: .int .u32 (gt l 31):: .int .u32 (gt l 32):: .int .u32 (gt l 33):: .int .u32 (gt l 34):: .int .u32 (gt l 35):: .int .u32 (gt l 36):: .int .u32 (gt l 37):: .int .u32 (gt l 38):: .int .u32 (gt l 39):: .int .u32 (gt l 40):: .int .u32 (gt l 41):: .int .u32 (gt l 42):: .int .u32 (gt l 43):: .int .u32 (gt l 44):: .int .u32 (gt l 45):: .int .u32 (gt l 46):: .int .u32 (gt l 47):: .int .u32 (gt l 48):: .int .u32 (gt l 49):: .int .u32 (gt l 50):: .int .u32 (gt l 51):: .int .u32 (gt l 52):: .int .u32 (gt l 53):: .int .u32 (gt l 54):: .int .u32 (gt l 55):: .int .u32 (gt l 56):: .int .u32 (gt l 57):: .int .u32 (gt l 58):: .int .u32 (gt l 59):: .int .u32 (gt l 60):: .int .u32 (gt l 61):: .int .u32 (gt l 62):: .int .u32 (gt l 63)::[])
attribute [go_sem] mr
def jQ (l:(List Int)):V:= .agg [.int .u32 (gt l 0),.int .u32 (gt l 1),.int .u32 (gt l 2),.int .u32 (gt l 3),.int .u32 (gt l 4),.int .u32 (gt l 5),.int .u32 (gt l 6),.int .u32 (gt l 7)]
attribute [go_sem] jQ
def uA:V:= .agg [.int .u32 0,.int .u32 0,.int .u32 0,.int .u32 0,.int .u32 0,.int .u32 0,.int .u32 0,.int .u32 0]
attribute [go_sem] uA
def kV:V:= .agg (.int .u8 0:: .int .u8 0:: .int .u8 0:: .int .u8 0:: .int .u8 0:: .int .u8 0:: .int .u8 0:: .int .u8 0:: .int .u8 0:: .int .u8 0:: .int .u8 0:: .int .u8 0:: .int .u8 0:: .int .u8 0:: .int .u8 0:: .int .u8 0:: .int .u8 0:: .int .u8 0:: .int .u8 0:: .int .u8 0:: .int .u8 0:: .int .u8 0:: .int .u8 0:: .int .u8 0:: .int .u8 0:: .int .u8 0:: .int .u8 0:: .int .u8 0:: .int .u8 0:: .int .u8 0:: .int .u8 0:: .int .u8 0::[])
attribute [go_sem] kV
def bP (l:(List Int)):V:= .agg (.int .u8 (gt l 0):: .int .u8 (gt l 1):: .int .u8 (gt l 2):: .int .u8 (gt l 3):: .int .u8 (gt l 4):: .int .u8 (gt l 5):: .int .u8 (gt l 6):: .int .u8 (gt l 7):: .int .u8 (gt l 8):: .int .u8 (gt l 9):: .int .u8 (gt l 10):: .int .u8 (gt l 11):: .int .u8 (gt l 12):: .int .u8 (gt l 13):: .int .u8 (gt l 14):: .int .u8 (gt l 15):: .int .u8 (gt l 16):: .int .u8 (gt l 17):: .int .u8 (gt l 18):: .int .u8 (gt l 19):: .int .u8 (gt l 20):: .int .u8 (gt l 21):: .int .u8 (gt l 22):: .int .u8 (gt l 23):: .int .u8 (gt l 24):: .int .u8 (gt l 25):: .int .u8 (gt l 26):: .int .u8 (gt l 27):: .int .u8 (gt l 28):: .int .u8 (gt l 29):: .int .u8 (gt l 30):: .int .u8 (gt l 31)::[])
attribute [go_sem] bP
def mu (x:dZ):V:= .agg (.int .u8 (gt x.Seed 0):: .int .u8 (gt x.Seed 1):: .int .u8 (gt x.Seed 2):: .int .u8 (gt x.Seed 3):: .int .u8 (gt x.Seed 4):: .int .u8 (gt x.Seed 5):: .int .u8 (gt x.Seed 6):: .int .u8 (gt x.Seed 7):: .int .u8 (gt x.Seed 8):: .int .u8 (gt x.Seed 9):: .int .u8 (gt x.Seed 10):: .int .u8 (gt x.Seed 11):: .int .u8 (gt x.Seed 12):: .int .u8 (gt x.Seed 13):: .int .u8 (gt x.Seed 14):: .int .u8 (gt x.Seed 15):: .int .u8 (gt x.Seed 16):: .int .u8 (gt x.Seed 17):: .int .u8 (gt x.Seed 18):: .int .u8 (gt x.Seed 19):: .int .u8 (gt x.Seed 20):: .int .u8 (gt x.Seed 21):: .int .u8 (gt x.Seed 22):: .int .u8 (gt x.Seed 23):: .int .u8 (gt x.Seed 24):: .int .u8 (gt x.Seed 25):: .int .u8 (gt x.Seed 26):: .int .u8 (gt x.Seed 27):: .int .u8 (gt x.Seed 28):: .int .u8 (gt x.Seed 29):: .int .u8 (gt x.Seed 30):: .int .u8 (gt x.Seed 31):: .int .i64 x.Counter::[])
attribute [go_sem] mu
def eK (x:cA):V:= .agg [.int .i64 x.B,.int .i64 x.R1,.int .i64 x.R2]
attribute [go_sem] eK
def cB (x:aS):V:= .agg (.int .i64 x.Coin.Bank:: .int .i64 x.Coin.Epoch:: .int .i64 x.Coin.Denom:: .int .i64 x.Coin.Depth:: .int .i64 x.Coin.A:: .int .u8 (gt x.Coin.Root 0):: .int .u8 (gt x.Coin.Root 1):: .int .u8 (gt x.Coin.Root 2):: .int .u8 (gt x.Coin.Root 3):: .int .u8 (gt x.Coin.Root 4):: .int .u8 (gt x.Coin.Root 5):: .int .u8 (gt x.Coin.Root 6):: .int .u8 (gt x.Coin.Root 7):: .int .u8 (gt x.Coin.Root 8):: .int .u8 (gt x.Coin.Root 9):: .int .u8 (gt x.Coin.Root 10):: .int .u8 (gt x.Coin.Root 11):: .int .u8 (gt x.Coin.Root 12):: .int .u8 (gt x.Coin.Root 13):: .int .u8 (gt x.Coin.Root 14):: .int .u8 (gt x.Coin.Root 15):: .int .u8 (gt x.Coin.Root 16):: .int .u8 (gt x.Coin.Root 17):: .int .u8 (gt x.Coin.Root 18):: .int .u8 (gt x.Coin.Root 19):: .int .u8 (gt x.Coin.Root 20):: .int .u8 (gt x.Coin.Root 21):: .int .u8 (gt x.Coin.Root 22):: .int .u8 (gt x.Coin.Root 23):: .int .u8 (gt x.Coin.Root 24):: .int .u8 (gt x.Coin.Root 25):: .int .u8 (gt x.Coin.Root 26):: .int .u8 (gt x.Coin.Root 27):: .int .u8 (gt x.Coin.Root 28):: .int .u8 (gt x.Coin.Root 29):: .int .u8 (gt x.Coin.Root 30):: .int .u8 (gt x.Coin.Root 31):: .int .i64 x.Coin.Sign.Z:: .int .i64 x.Coin.Sign.A:: .int .i64 x.Coin.Sign.B:: .int .i64 x.Coin.Sign.R:: .int .i64 x.Node.Level:: .int .i64 x.Node.Index:: .int .u8 (gt x.Context.Payee 0):: .int .u8 (gt x.Context.Payee 1):: .int .u8 (gt x.Context.Payee 2):: .int .u8 (gt x.Context.Payee 3):: .int .u8 (gt x.Context.Payee 4):: .int .u8 (gt x.Context.Payee 5):: .int .u8 (gt x.Context.Payee 6):: .int .u8 (gt x.Context.Payee 7):: .int .u8 (gt x.Context.Payee 8):: .int .u8 (gt x.Context.Payee 9):: .int .u8 (gt x.Context.Payee 10):: .int .u8 (gt x.Context.Payee 11):: .int .u8 (gt x.Context.Payee 12):: .int .u8 (gt x.Context.Payee 13):: .int .u8 (gt x.Context.Payee 14):: .int .u8 (gt x.Context.Payee 15):: .int .u8 (gt x.Context.Payee 16):: .int .u8 (gt x.Context.Payee 17):: .int .u8 (gt x.Context.Payee 18):: .int .u8 (gt x.Context.Payee 19):: .int .u8 (gt x.Context.Payee 20):: .int .u8 (gt x.Context.Payee 21):: .int .u8 (gt x.Context.Payee 22):: .int .u8 (gt x.Context.Payee 23):: .int .u8 (gt x.Context.Payee 24):: .int .u8 (gt x.Context.Payee 25):: .int .u8 (gt x.Context.Payee 26):: .int .u8 (gt x.Context.Payee 27):: .int .u8 (gt x.Context.Payee 28):: .int .u8 (gt x.Context.Payee 29):: .int .u8 (gt x.Context.Payee 30):: .int .u8 (gt x.Context.Payee 31):: .int .i64 x.Context.Time:: .int .i64 x.Context.Number:: .sl none 3 true (x.Leaves.map eK):: .int .i64 x.Path.Index:: .sl none 32 true (x.Path.L.map bP)::[])
attribute [go_sem] cB
def bL (x:aX):V:= .agg (.int .i64 x.Coin.Bank:: .int .i64 x.Coin.Epoch:: .int .i64 x.Coin.Denom:: .int .i64 x.Coin.Depth:: .int .i64 x.Coin.A:: .int .u8 (gt x.Coin.Root 0):: .int .u8 (gt x.Coin.Root 1):: .int .u8 (gt x.Coin.Root 2):: .int .u8 (gt x.Coin.Root 3):: .int .u8 (gt x.Coin.Root 4):: .int .u8 (gt x.Coin.Root 5):: .int .u8 (gt x.Coin.Root 6):: .int .u8 (gt x.Coin.Root 7):: .int .u8 (gt x.Coin.Root 8):: .int .u8 (gt x.Coin.Root 9):: .int .u8 (gt x.Coin.Root 10):: .int .u8 (gt x.Coin.Root 11):: .int .u8 (gt x.Coin.Root 12):: .int .u8 (gt x.Coin.Root 13):: .int .u8 (gt x.Coin.Root 14):: .int .u8 (gt x.Coin.Root 15):: .int .u8 (gt x.Coin.Root 16):: .int .u8 (gt x.Coin.Root 17):: .int .u8 (gt x.Coin.Root 18):: .int .u8 (gt x.Coin.Root 19):: .int .u8 (gt x.Coin.Root 20):: .int .u8 (gt x.Coin.Root 21):: .int .u8 (gt x.Coin.Root 22):: .int .u8 (gt x.Coin.Root 23):: .int .u8 (gt x.Coin.Root 24):: .int .u8 (gt x.Coin.Root 25):: .int .u8 (gt x.Coin.Root 26):: .int .u8 (gt x.Coin.Root 27):: .int .u8 (gt x.Coin.Root 28):: .int .u8 (gt x.Coin.Root 29):: .int .u8 (gt x.Coin.Root 30):: .int .u8 (gt x.Coin.Root 31):: .int .i64 x.Coin.Sign.Z:: .int .i64 x.Coin.Sign.A:: .int .i64 x.Coin.Sign.B:: .int .i64 x.Coin.Sign.R:: .int .i64 x.Secret.U:: .int .i64 x.Secret.S:: .sl none 2 true (x.Secret.X.map (fun l=> .agg [.int .i64 (gt l 0),.int .i64 (gt l 1)])):: .sl none 1 false (x.Spent.map V.bool):: .sl none 80 true (x.Chain.map cB)::[])
attribute [go_sem] bL
def cc (x:bg):V:= .agg (.int .i64 x.Phase:: .int .i64 x.Number:: .int .i64 x.Bank:: .int .i64 x.Epoch:: .int .i64 x.Denom:: .int .i64 x.Depth:: .int .i64 x.Secret.U:: .int .i64 x.Secret.S:: .sl none 2 true (x.Secret.X.map (fun l=> .agg [.int .i64 (gt l 0),.int .i64 (gt l 1)])):: .int .i64 x.Factors.S:: .int .i64 x.Factors.U:: .int .i64 x.Factors.V:: .int .i64 x.View.M:: .int .i64 x.View.Z:: .int .i64 x.View.A:: .int .i64 x.View.B:: .int .i64 x.View.C:: .int .i64 x.View.R:: .int .i64 x.Coin.Bank:: .int .i64 x.Coin.Epoch:: .int .i64 x.Coin.Denom:: .int .i64 x.Coin.Depth:: .int .i64 x.Coin.A:: .int .u8 (gt x.Coin.Root 0):: .int .u8 (gt x.Coin.Root 1):: .int .u8 (gt x.Coin.Root 2):: .int .u8 (gt x.Coin.Root 3):: .int .u8 (gt x.Coin.Root 4):: .int .u8 (gt x.Coin.Root 5):: .int .u8 (gt x.Coin.Root 6):: .int .u8 (gt x.Coin.Root 7):: .int .u8 (gt x.Coin.Root 8):: .int .u8 (gt x.Coin.Root 9):: .int .u8 (gt x.Coin.Root 10):: .int .u8 (gt x.Coin.Root 11):: .int .u8 (gt x.Coin.Root 12):: .int .u8 (gt x.Coin.Root 13):: .int .u8 (gt x.Coin.Root 14):: .int .u8 (gt x.Coin.Root 15):: .int .u8 (gt x.Coin.Root 16):: .int .u8 (gt x.Coin.Root 17):: .int .u8 (gt x.Coin.Root 18):: .int .u8 (gt x.Coin.Root 19):: .int .u8 (gt x.Coin.Root 20):: .int .u8 (gt x.Coin.Root 21):: .int .u8 (gt x.Coin.Root 22):: .int .u8 (gt x.Coin.Root 23):: .int .u8 (gt x.Coin.Root 24):: .int .u8 (gt x.Coin.Root 25):: .int .u8 (gt x.Coin.Root 26):: .int .u8 (gt x.Coin.Root 27):: .int .u8 (gt x.Coin.Root 28):: .int .u8 (gt x.Coin.Root 29):: .int .u8 (gt x.Coin.Root 30):: .int .u8 (gt x.Coin.Root 31):: .int .i64 x.Coin.Sign.Z:: .int .i64 x.Coin.Sign.A:: .int .i64 x.Coin.Sign.B:: .int .i64 x.Coin.Sign.R::[])
attribute [go_sem] cc
def bw (x:aP):V:= .agg (.int .i64 x.Bank:: .int .i64 x.U:: .int .i64 x.Key:: .int .i64 x.Next:: .sl none 46 true (x.Holdings.map bL):: .sl none 59 true (x.Open.map cc):: .int .u8 (gt x.Source.Seed 0):: .int .u8 (gt x.Source.Seed 1):: .int .u8 (gt x.Source.Seed 2):: .int .u8 (gt x.Source.Seed 3):: .int .u8 (gt x.Source.Seed 4):: .int .u8 (gt x.Source.Seed 5):: .int .u8 (gt x.Source.Seed 6):: .int .u8 (gt x.Source.Seed 7):: .int .u8 (gt x.Source.Seed 8):: .int .u8 (gt x.Source.Seed 9):: .int .u8 (gt x.Source.Seed 10):: .int .u8 (gt x.Source.Seed 11):: .int .u8 (gt x.Source.Seed 12):: .int .u8 (gt x.Source.Seed 13):: .int .u8 (gt x.Source.Seed 14):: .int .u8 (gt x.Source.Seed 15):: .int .u8 (gt x.Source.Seed 16):: .int .u8 (gt x.Source.Seed 17):: .int .u8 (gt x.Source.Seed 18):: .int .u8 (gt x.Source.Seed 19):: .int .u8 (gt x.Source.Seed 20):: .int .u8 (gt x.Source.Seed 21):: .int .u8 (gt x.Source.Seed 22):: .int .u8 (gt x.Source.Seed 23):: .int .u8 (gt x.Source.Seed 24):: .int .u8 (gt x.Source.Seed 25):: .int .u8 (gt x.Source.Seed 26):: .int .u8 (gt x.Source.Seed 27):: .int .u8 (gt x.Source.Seed 28):: .int .u8 (gt x.Source.Seed 29):: .int .u8 (gt x.Source.Seed 30):: .int .u8 (gt x.Source.Seed 31):: .int .i64 x.Source.Counter::[])
attribute [go_sem] bw
def jR (x:eJ):V:= .agg [.int .i64 x.Bank,.int .i64 x.Epoch,.int .i64 x.Denom,.int .i64 x.Value,.int .i64 x.Depth,.int .i64 x.Key.H,.int .i64 x.Key.H1,.int .i64 x.Key.H2,.int .i64 x.From,.int .i64 x.Until,.int .i64 x.Final]
attribute [go_sem] jR
def aw (x:ab):V:= .agg [.int .i64 x.Kind,.int .i64 x.N,.sl none 1 false (x.B.map (V.int .u8)),.sl none 4 true (x.L.map aw)]
termination_by SizeOf.sizeOf x
decreasing_by
 rename_i y h
 have:=List.sizeOf_lt_of_mem h
 cases x
 simp at*
 omega
attribute [go_sem] aw
def qU (x:cH):V:= .agg [.int .i64 x.U,.int .i64 x.S,.sl none 2 true (x.X.map (fun l=> .agg [.int .i64 (gt l 0),.int .i64 (gt l 1)]))]
attribute [go_sem] qU
def uB (x:jO):V:= .agg [.int .i64 x.S,.int .i64 x.U,.int .i64 x.V]
attribute [go_sem] uB
def qV (x:jP):V:= .agg [.int .i64 x.M,.int .i64 x.Z,.int .i64 x.A,.int .i64 x.B,.int .i64 x.C,.int .i64 x.R]
attribute [go_sem] qV
def uC (x:kS):V:= .agg [.int .i64 x.Z,.int .i64 x.A,.int .i64 x.B,.int .i64 x.R]
attribute [go_sem] uC
def dM (x:bV):V:= .agg (.int .i64 x.Bank:: .int .i64 x.Epoch:: .int .i64 x.Denom:: .int .i64 x.Depth:: .int .i64 x.A:: .int .u8 (gt x.Root 0):: .int .u8 (gt x.Root 1):: .int .u8 (gt x.Root 2):: .int .u8 (gt x.Root 3):: .int .u8 (gt x.Root 4):: .int .u8 (gt x.Root 5):: .int .u8 (gt x.Root 6):: .int .u8 (gt x.Root 7):: .int .u8 (gt x.Root 8):: .int .u8 (gt x.Root 9):: .int .u8 (gt x.Root 10):: .int .u8 (gt x.Root 11):: .int .u8 (gt x.Root 12):: .int .u8 (gt x.Root 13):: .int .u8 (gt x.Root 14):: .int .u8 (gt x.Root 15):: .int .u8 (gt x.Root 16):: .int .u8 (gt x.Root 17):: .int .u8 (gt x.Root 18):: .int .u8 (gt x.Root 19):: .int .u8 (gt x.Root 20):: .int .u8 (gt x.Root 21):: .int .u8 (gt x.Root 22):: .int .u8 (gt x.Root 23):: .int .u8 (gt x.Root 24):: .int .u8 (gt x.Root 25):: .int .u8 (gt x.Root 26):: .int .u8 (gt x.Root 27):: .int .u8 (gt x.Root 28):: .int .u8 (gt x.Root 29):: .int .u8 (gt x.Root 30):: .int .u8 (gt x.Root 31):: .int .i64 x.Sign.Z:: .int .i64 x.Sign.A:: .int .i64 x.Sign.B:: .int .i64 x.Sign.R::[])
attribute [go_sem] dM
def uD (x:jN):V:= .agg [.int .i64 x.Level,.int .i64 x.Index]
attribute [go_sem] uD
def uE (x:iB):V:= .agg (.int .u8 (gt x.Payee 0):: .int .u8 (gt x.Payee 1):: .int .u8 (gt x.Payee 2):: .int .u8 (gt x.Payee 3):: .int .u8 (gt x.Payee 4):: .int .u8 (gt x.Payee 5):: .int .u8 (gt x.Payee 6):: .int .u8 (gt x.Payee 7):: .int .u8 (gt x.Payee 8):: .int .u8 (gt x.Payee 9):: .int .u8 (gt x.Payee 10):: .int .u8 (gt x.Payee 11):: .int .u8 (gt x.Payee 12):: .int .u8 (gt x.Payee 13):: .int .u8 (gt x.Payee 14):: .int .u8 (gt x.Payee 15):: .int .u8 (gt x.Payee 16):: .int .u8 (gt x.Payee 17):: .int .u8 (gt x.Payee 18):: .int .u8 (gt x.Payee 19):: .int .u8 (gt x.Payee 20):: .int .u8 (gt x.Payee 21):: .int .u8 (gt x.Payee 22):: .int .u8 (gt x.Payee 23):: .int .u8 (gt x.Payee 24):: .int .u8 (gt x.Payee 25):: .int .u8 (gt x.Payee 26):: .int .u8 (gt x.Payee 27):: .int .u8 (gt x.Payee 28):: .int .u8 (gt x.Payee 29):: .int .u8 (gt x.Payee 30):: .int .u8 (gt x.Payee 31):: .int .i64 x.Time:: .int .i64 x.Number::[])
attribute [go_sem] uE
def uF (x:gu):V:= .agg [.int .i64 x.Index,.sl none 32 true (x.L.map bP)]
attribute [go_sem] uF
def gS (a b:(List Int)):Bool:=((gt a 0)==(gt b 0)&&((gt a 1)==(gt b 1)&&((gt a 2)==(gt b 2)&&((gt a 3)==(gt b 3)&&((gt a 4)==(gt b 4)&&((gt a 5)==(gt b 5)&&((gt a 6)==(gt b 6)&&((gt a 7)==(gt b 7)&&((gt a 8)==(gt b 8)&&((gt a 9)==(gt b 9)&&((gt a 10)==(gt b 10)&&((gt a 11)==(gt b 11)&&((gt a 12)==(gt b 12)&&((gt a 13)==(gt b 13)&&((gt a 14)==(gt b 14)&&((gt a 15)==(gt b 15)&&((gt a 16)==(gt b 16)&&((gt a 17)==(gt b 17)&&((gt a 18)==(gt b 18)&&((gt a 19)==(gt b 19)&&((gt a 20)==(gt b 20)&&((gt a 21)==(gt b 21)&&((gt a 22)==(gt b 22)&&((gt a 23)==(gt b 23)&&((gt a 24)==(gt b 24)&&((gt a 25)==(gt b 25)&&((gt a 26)==(gt b 26)&&((gt a 27)==(gt b 27)&&((gt a 28)==(gt b 28)&&((gt a 29)==(gt b 29)&&((gt a 30)==(gt b 30)&&(gt a 31)==(gt b 31))))))))))))))))))))))))))))))))
attribute [go_sem] gS
def yS:V:= .agg (.int .i64 0:: .int .i64 0:: .int .i64 0:: .int .i64 0:: .int .i64 0:: .int .u8 0:: .int .u8 0:: .int .u8 0:: .int .u8 0:: .int .u8 0:: .int .u8 0:: .int .u8 0:: .int .u8 0:: .int .u8 0:: .int .u8 0:: .int .u8 0:: .int .u8 0:: .int .u8 0:: .int .u8 0:: .int .u8 0:: .int .u8 0:: .int .u8 0:: .int .u8 0:: .int .u8 0:: .int .u8 0:: .int .u8 0:: .int .u8 0:: .int .u8 0:: .int .u8 0:: .int .u8 0:: .int .u8 0:: .int .u8 0:: .int .u8 0:: .int .u8 0:: .int .u8 0:: .int .u8 0:: .int .u8 0:: .int .i64 0:: .int .i64 0:: .int .i64 0:: .int .i64 0:: .int .i64 0:: .int .i64 0:: .int .u8 0:: .int .u8 0:: .int .u8 0:: .int .u8 0:: .int .u8 0:: .int .u8 0:: .int .u8 0:: .int .u8 0:: .int .u8 0:: .int .u8 0:: .int .u8 0:: .int .u8 0:: .int .u8 0:: .int .u8 0:: .int .u8 0:: .int .u8 0:: .int .u8 0:: .int .u8 0:: .int .u8 0:: .int .u8 0:: .int .u8 0:: .int .u8 0:: .int .u8 0:: .int .u8 0:: .int .u8 0:: .int .u8 0:: .int .u8 0:: .int .u8 0:: .int .u8 0:: .int .u8 0:: .int .u8 0:: .int .u8 0:: .int .i64 0:: .int .i64 0:: .sl (some true) 3 true []:: .int .i64 0:: .sl (some true) 32 true []::[])
attribute [go_sem] yS
def jb (a b:(List Int)):Bool:=((gt a 0)==(gt b 0)&&(gt a 1)==(gt b 1))
attribute [go_sem] jb
def eL (a b:bV):Bool:=(a.Bank==b.Bank&&(a.Epoch==b.Epoch&&(a.Denom==b.Denom&&(a.Depth==b.Depth&&(a.A==b.A&&((gt a.Root 0)==(gt b.Root 0)&&((gt a.Root 1)==(gt b.Root 1)&&((gt a.Root 2)==(gt b.Root 2)&&((gt a.Root 3)==(gt b.Root 3)&&((gt a.Root 4)==(gt b.Root 4)&&((gt a.Root 5)==(gt b.Root 5)&&((gt a.Root 6)==(gt b.Root 6)&&((gt a.Root 7)==(gt b.Root 7)&&((gt a.Root 8)==(gt b.Root 8)&&((gt a.Root 9)==(gt b.Root 9)&&((gt a.Root 10)==(gt b.Root 10)&&((gt a.Root 11)==(gt b.Root 11)&&((gt a.Root 12)==(gt b.Root 12)&&((gt a.Root 13)==(gt b.Root 13)&&((gt a.Root 14)==(gt b.Root 14)&&((gt a.Root 15)==(gt b.Root 15)&&((gt a.Root 16)==(gt b.Root 16)&&((gt a.Root 17)==(gt b.Root 17)&&((gt a.Root 18)==(gt b.Root 18)&&((gt a.Root 19)==(gt b.Root 19)&&((gt a.Root 20)==(gt b.Root 20)&&((gt a.Root 21)==(gt b.Root 21)&&((gt a.Root 22)==(gt b.Root 22)&&((gt a.Root 23)==(gt b.Root 23)&&((gt a.Root 24)==(gt b.Root 24)&&((gt a.Root 25)==(gt b.Root 25)&&((gt a.Root 26)==(gt b.Root 26)&&((gt a.Root 27)==(gt b.Root 27)&&((gt a.Root 28)==(gt b.Root 28)&&((gt a.Root 29)==(gt b.Root 29)&&((gt a.Root 30)==(gt b.Root 30)&&((gt a.Root 31)==(gt b.Root 31)&&(a.Sign.Z==b.Sign.Z&&(a.Sign.A==b.Sign.A&&(a.Sign.B==b.Sign.B&&a.Sign.R==b.Sign.R))))))))))))))))))))))))))))))))))))))))
attribute [go_sem] eL
def mv (a b:jN):Bool:=(a.Level==b.Level&&a.Index==b.Index)
attribute [go_sem] mv
def mw (a b:iB):Bool:=((gt a.Payee 0)==(gt b.Payee 0)&&((gt a.Payee 1)==(gt b.Payee 1)&&((gt a.Payee 2)==(gt b.Payee 2)&&((gt a.Payee 3)==(gt b.Payee 3)&&((gt a.Payee 4)==(gt b.Payee 4)&&((gt a.Payee 5)==(gt b.Payee 5)&&((gt a.Payee 6)==(gt b.Payee 6)&&((gt a.Payee 7)==(gt b.Payee 7)&&((gt a.Payee 8)==(gt b.Payee 8)&&((gt a.Payee 9)==(gt b.Payee 9)&&((gt a.Payee 10)==(gt b.Payee 10)&&((gt a.Payee 11)==(gt b.Payee 11)&&((gt a.Payee 12)==(gt b.Payee 12)&&((gt a.Payee 13)==(gt b.Payee 13)&&((gt a.Payee 14)==(gt b.Payee 14)&&((gt a.Payee 15)==(gt b.Payee 15)&&((gt a.Payee 16)==(gt b.Payee 16)&&((gt a.Payee 17)==(gt b.Payee 17)&&((gt a.Payee 18)==(gt b.Payee 18)&&((gt a.Payee 19)==(gt b.Payee 19)&&((gt a.Payee 20)==(gt b.Payee 20)&&((gt a.Payee 21)==(gt b.Payee 21)&&((gt a.Payee 22)==(gt b.Payee 22)&&((gt a.Payee 23)==(gt b.Payee 23)&&((gt a.Payee 24)==(gt b.Payee 24)&&((gt a.Payee 25)==(gt b.Payee 25)&&((gt a.Payee 26)==(gt b.Payee 26)&&((gt a.Payee 27)==(gt b.Payee 27)&&((gt a.Payee 28)==(gt b.Payee 28)&&((gt a.Payee 29)==(gt b.Payee 29)&&((gt a.Payee 30)==(gt b.Payee 30)&&((gt a.Payee 31)==(gt b.Payee 31)&&(a.Time==b.Time&&a.Number==b.Number)))))))))))))))))))))))))))))))))
attribute [go_sem] mw
def qW (a b:cA):Bool:=(a.B==b.B&&(a.R1==b.R1&&a.R2==b.R2))
attribute [go_sem] qW
def qX (a b:jO):Bool:=(a.S==b.S&&(a.U==b.U&&a.V==b.V))
attribute [go_sem] qX
def qY (a b:jP):Bool:=(a.M==b.M&&(a.Z==b.Z&&(a.A==b.A&&(a.B==b.B&&(a.C==b.C&&a.R==b.R)))))
attribute [go_sem] qY
def mx (a b:dZ):Bool:=((gt a.Seed 0)==(gt b.Seed 0)&&((gt a.Seed 1)==(gt b.Seed 1)&&((gt a.Seed 2)==(gt b.Seed 2)&&((gt a.Seed 3)==(gt b.Seed 3)&&((gt a.Seed 4)==(gt b.Seed 4)&&((gt a.Seed 5)==(gt b.Seed 5)&&((gt a.Seed 6)==(gt b.Seed 6)&&((gt a.Seed 7)==(gt b.Seed 7)&&((gt a.Seed 8)==(gt b.Seed 8)&&((gt a.Seed 9)==(gt b.Seed 9)&&((gt a.Seed 10)==(gt b.Seed 10)&&((gt a.Seed 11)==(gt b.Seed 11)&&((gt a.Seed 12)==(gt b.Seed 12)&&((gt a.Seed 13)==(gt b.Seed 13)&&((gt a.Seed 14)==(gt b.Seed 14)&&((gt a.Seed 15)==(gt b.Seed 15)&&((gt a.Seed 16)==(gt b.Seed 16)&&((gt a.Seed 17)==(gt b.Seed 17)&&((gt a.Seed 18)==(gt b.Seed 18)&&((gt a.Seed 19)==(gt b.Seed 19)&&((gt a.Seed 20)==(gt b.Seed 20)&&((gt a.Seed 21)==(gt b.Seed 21)&&((gt a.Seed 22)==(gt b.Seed 22)&&((gt a.Seed 23)==(gt b.Seed 23)&&((gt a.Seed 24)==(gt b.Seed 24)&&((gt a.Seed 25)==(gt b.Seed 25)&&((gt a.Seed 26)==(gt b.Seed 26)&&((gt a.Seed 27)==(gt b.Seed 27)&&((gt a.Seed 28)==(gt b.Seed 28)&&((gt a.Seed 29)==(gt b.Seed 29)&&((gt a.Seed 30)==(gt b.Seed 30)&&((gt a.Seed 31)==(gt b.Seed 31)&&a.Counter==b.Counter))))))))))))))))))))))))))))))))
attribute [go_sem] mx
end Go.Proofs.YtlmleoeemmhboaaGreatDoor
namespace Go.Proofs.YtlmleoeemmhboaaGreatDoor
open Go.RowKit
theorem Gy {C:Int→Bool} {n:Int} {F:(Int→Int)→Int→Int} (hF: ∀ag p,F ag p=if p<n then (if C p=true then p else ag (p+1)) else -1) {d:Int→Int}:
  ∀(fuel:Nat) (i:Int),0≤i→(n - i).toNat<fuel→(ao fuel F d i= -1∧ ∀j,i≤j→j<n→C j=false)∨(i≤ao fuel F d i∧ao fuel F d i<n∧C (ao fuel F d i)=true∧ ∀j,i≤j→j<ao fuel F d i→C j=false):=by
 intro fuel
 induction fuel with
 | zero=>intro i _ h;omega
 | succ k ih=>
  intro i h0 h
  rw [ao,hF]
  by_cases hi:i<n
  ·rw [if_pos hi]
   by_cases hc:C i=true
   ·rw [if_pos hc]
    exact .inr ⟨Int.le_refl _,hi,hc,fun j h1 h2=>by omega⟩
   ·rw [if_neg hc]
    have hc':C i=false:=by simpa using hc
    rcases ih (i+1) (by omega) (by omega) with ⟨h1,h2⟩|⟨h1,h2,h3,h4⟩
    ·refine .inl ⟨h1,fun j g1 g2=> ?_⟩
     by_cases e:j=i
     ·subst e;exact hc'
     ·exact h2 j (by omega) g2
    ·refine .inr ⟨by omega,h2,h3,fun j g1 g2=> ?_⟩
     by_cases e:j=i
     ·subst e;exact hc'
     ·exact h4 j (by omega) g2
  ·rw [if_neg hi]
   exact .inl ⟨rfl,fun j h1 h2=>by omega⟩
theorem bI {α β:Type} {a:α} {f:α→β}:ak a f=f a:=rfl
theorem my {α β:Type} [Inhabited α] [Inhabited β] {l:List α} {f:α→β} {i:Int} (h:i.toNat<l.length):gt (l.map f) i=f (gt l i):=by
 simp [gt,List.getD_eq_getElem?_getD,h]
theorem dN {α:Type} [Inhabited α] {l:List α} {i:Int} (h:i.toNat<l.length):gt l i∈l:=by
 simp [gt,List.getD_eq_getElem?_getD,h]
theorem Gz {α β R:Type} [Inhabited α] {f:α→β} {E:Int×List β→R} {l:List α} {F:(Int×List β→R)→Int×List β→R} {d:Int×List β→R}
  (hF: ∀ag p,F ag p=if decide (p.1<(l.length:Int))=true then ag (p.1+1,p.2++[f (gt l p.1)]) else E p):
  ∀(fuel k:Nat) (a:List β),k≤l.length→l.length - k<fuel→ao fuel F d ((k:Int),a)=E ((l.length:Int),a++(l.drop k).map f):=by
 intro fuel
 induction fuel with
 | zero=>intro k a _ h;omega
 | succ n ih=>
  intro k a hl h
  rw [ao,hF]
  by_cases hk:k<l.length
  ·rw [if_pos (decide_eq_true (show (k:Int)<_ by omega))]
   have:=ih (k+1) (a++[f (gt l k)]) (by omega) (by omega)
   rw [show ((k+1:Nat):Int)=(k:Int)+1 by omega] at this
   have hg:gt l (k:Int)=l[k]:=by simp [gt,List.getD_eq_getElem?_getD,hk]
   show ao n F d ((k:Int)+1,a++[f (gt l (k:Int))])=_
   rw [this,List.drop_eq_getElem_cons hk,hg]
   simp only [List.map_cons,List.append_assoc,List.singleton_append]
  ·obtain rfl:k=l.length:=by omega
   rw [if_neg (by simp),List.drop_eq_nil_of_le (by omega)]
   simp
theorem GA {α β R:Type} [Inhabited α] (f:α→β) {E:Int×List β→R} {l:List α} {F:(Int×List β→R)→Int×List β→R} {d:Int×List β→R}
  (hF: ∀ag p,F ag p=if decide (p.1<(l.length:Int))=true then ag (p.1+1,p.2++[f (gt l p.1)]) else E p):
  ao (((l.length:Int) - 0).toNat+1) F d (0,[])=E ((l.length:Int),l.map f):=by
 have:=Gz (d:=d) hF (((l.length:Int) - 0).toNat+1) 0 [] (by omega) (by omega)
 simpa using this
theorem mz {α:Type} [Inhabited α] {l:List α} {C:α→Bool} {F:(Int→Int)→Int→Int} {d:Int→Int}
  (hF: ∀ag p,F ag p=if decide (p<(l.length:Int))=true then (if C (gt l p)=true then p else ag (p+1)) else -1):
  decide (ao (((l.length:Int) - 0).toNat+1) F d 0≥0)=l.any C:=by
 have hg: ∀(j:Int),0≤j→j<l.length→gt l j∈l:=fun j h0 h1=>dN (by omega)
 rcases Gy (C:=fun p=>C (gt l p)) (n:=(l.length:Int)) (F:=F) (d:=d) (fun ag p=>by rw [hF];by_cases hp:p<(l.length:Int)<;>simp [hp]) (((l.length:Int) - 0).toNat+1) 0 (by omega) (by omega) with ⟨h1,h2⟩|⟨h1,h2,h3,_⟩
 ·rw [h1]
  symm
  rw [show decide ((-1:Int)≥0)=false by decide,List.any_eq_false]
  intro x hx
  obtain ⟨i,hi,rfl⟩:=List.mem_iff_getElem.1 hx
  have:=h2 (i:Int) (by omega) (by omega)
  simpa [gt,List.getD_eq_getElem?_getD,hi] using this
 ·rw [decide_eq_true h1]
  symm
  exact List.any_eq_true.2 ⟨_,hg _ h1 h2,h3⟩
theorem GB {α R:Type} {P:α→Prop} {Q:R→Prop} {meas:α→Nat} {F:(α→R)→α→R} {d:α→R}
  (hs: ∀ag p,P p→(∀q,P q→meas q<meas p→Q (ag q))→Q (F ag p)): ∀(fuel:Nat) (p:α),P p→meas p<fuel→Q (ao fuel F d p):=by
 intro fuel
 induction fuel with
 | zero=>intro p _ h;omega
 | succ k ih=>
  intro p hp hm
  rw [ao]
  exact hs _ p hp fun q hq hlt=>ih q hq (by omega)
theorem GC {C:Int→Bool} {n:Int} {X:Bool} {F:(Int→Bool)→Int→Bool} (hF: ∀ag p,F ag p=if decide (p<n)=true then (if C p=true then ag (p+1) else false) else X) {d:Int→Bool}:
  ∀(fuel:Nat) (i:Int),(n - i).toNat<fuel→(ao fuel F d i=true↔(∀j,i≤j→j<n→C j=true)∧X=true):=by
 intro fuel
 induction fuel with
 | zero=>intro i h;omega
 | succ k ih=>
  intro i h
  rw [ao,hF]
  by_cases hi:i<n
  ·rw [if_pos (decide_eq_true hi)]
   by_cases hc:C i=true
   ·rw [if_pos hc,ih (i+1) (by omega)]
    refine ⟨fun H=>⟨fun j h1 h2=> ?_,H.2⟩,fun H=>⟨fun j h1 h2=>H.1 j (by omega) h2,H.2⟩⟩
    by_cases e:j=i
    ·subst e;exact hc
    ·exact H.1 j (by omega) h2
   ·rw [if_neg hc]
    exact ⟨fun H=>Bool.noConfusion H,fun H=>absurd (H.1 i (Int.le_refl _) hi) hc⟩
  ·rw [if_neg (by simpa using hi)]
   exact ⟨fun H=>⟨fun j h1 h2=>by omega,H⟩,fun H=>H.2⟩
def dp {α σ R:Type} (st:α→σ→σ⊕R) (E:σ→R):List α→σ→R
 | [],s=>E s
 | a::l,s=>match st a s with
  | .inl s'=>dp st E l s'
  | .inr r=>r
theorem GD {α σ R:Type} [Inhabited α] {l:List α} {st:α→σ→σ⊕R} {E:σ→R} {F:(Int×σ→R)→Int×σ→R} {d:Int×σ→R}
  (hF: ∀ag i s,F ag (i,s)=if i<(l.length:Int) then (match st (gt l i) s with| .inl s'=>ag (i+1,s')| .inr r=>r) else E s):
  ∀(fuel k:Nat) (s:σ),k≤l.length→l.length - k<fuel→ao fuel F d ((k:Int),s)=dp st E (l.drop k) s:=by
 intro fuel
 induction fuel with
 | zero=>intro k s _ h;omega
 | succ n ih=>
  intro k s hl h
  rw [ao,hF]
  by_cases hk:k<l.length
  ·rw [if_pos (by omega),List.drop_eq_getElem_cons hk]
   have hg:gt l (k:Int)=l[k]:=by simp [gt,List.getD_eq_getElem?_getD,hk]
   rw [hg]
   simp only [dp]
   cases st l[k] s with
   | inl s'=>
    have:=ih (k+1) s' (by omega) (by omega)
    rw [show ((k+1:Nat):Int)=(k:Int)+1 by omega] at this
    exact this
   | inr r=>rfl
  ·obtain rfl:k=l.length:=by omega
   rw [if_neg (by simp),List.drop_eq_nil_of_le (by omega)];rfl
theorem oc {α σ R:Type} [Inhabited α] {l:List α} (st:α→σ→σ⊕R) (E:σ→R) {F:(Int×σ→R)→Int×σ→R} {d:Int×σ→R} {s:σ}
  (hF: ∀ag i s,F ag (i,s)=if i<(l.length:Int) then (match st (gt l i) s with| .inl s'=>ag (i+1,s')| .inr r=>r) else E s):
  ao (((l.length:Int) - 0).toNat+1) F d (0,s)=dp st E l s:=by
 have:=GD (d:=d) hF (((l.length:Int) - 0).toNat+1) 0 s (by omega) (by omega)
 simpa using this
theorem GE {α σ R:Type} [Inhabited α] {l:List α} {st:α→σ→σ⊕R} {E:σ→R} {F:(σ×Int→R)→σ×Int→R} {d:σ×Int→R}
  (hF: ∀ag i s,F ag (s,i)=if i<(l.length:Int) then (match st (gt l i) s with| .inl s'=>ag (s',i+1)| .inr r=>r) else E s):
  ∀(fuel k:Nat) (s:σ),k≤l.length→l.length - k<fuel→ao fuel F d (s,(k:Int))=dp st E (l.drop k) s:=by
 intro fuel
 induction fuel with
 | zero=>intro k s _ h;omega
 | succ n ih=>
  intro k s hl h
  rw [ao,hF]
  by_cases hk:k<l.length
  ·rw [if_pos (by omega),List.drop_eq_getElem_cons hk]
   have hg:gt l (k:Int)=l[k]:=by simp [gt,List.getD_eq_getElem?_getD,hk]
   rw [hg]
   simp only [dp]
   cases st l[k] s with
   | inl s'=>
    have:=ih (k+1) s' (by omega) (by omega)
    rw [show ((k+1:Nat):Int)=(k:Int)+1 by omega] at this
    exact this
   | inr r=>rfl
  ·obtain rfl:k=l.length:=by omega
   rw [if_neg (by simp),List.drop_eq_nil_of_le (by omega)];rfl
theorem GF {α σ R:Type} [Inhabited α] {l:List α} (st:α→σ→σ⊕R) (E:σ→R) {F:(σ×Int→R)→σ×Int→R} {d:σ×Int→R} {s:σ}
  (hF: ∀ag i s,F ag (s,i)=if i<(l.length:Int) then (match st (gt l i) s with| .inl s'=>ag (s',i+1)| .inr r=>r) else E s):
  ao (((l.length:Int) - 0).toNat+1) F d (s,0)=dp st E l s:=by
 have:=GE (d:=d) hF (((l.length:Int) - 0).toNat+1) 0 s (by omega) (by omega)
 simpa using this
theorem od {α σ R:Type} {g:α→σ→σ} {E:σ→R}: ∀{l:List α} {s:σ},dp (fun a s=> .inl (g a s)) E l s=E (l.foldl (fun s a=>g a s) s)
 | [],_=>rfl
 | a::l,s=>by simp only [dp,List.foldl_cons];exact od
theorem yT {α:Type} [Inhabited α]: ∀{k:Nat} {i:Nat} {l:List α},l.length=i+k→eZ l k i=l.drop i
 | 0,i,l,h=>by simp [eZ,h]
 | k+1,i,l,h=>by
  have hi:i<l.length:=by omega
  rw [List.drop_eq_getElem_cons hi]
  simp only [eZ]
  have:=yT (k:=k) (i:=i+1) (l:=l) (by omega)
  rw [show ((i+1:Nat):Int)=(i:Int)+1 by omega] at this
  rw [this]
  simp [gt,List.getD_eq_getElem?_getD,hi]
theorem uG {α:Type} [Inhabited α] {l:List α} {n:Nat} (h:l.length=n):aC n l=l:=by
 have:=yT (k:=n) (i:=0) (l:=l) (by omega)
 simpa [aC] using this
theorem GG {f:Int→V} {n:Nat} {A l:List Int} (h:A.length=n):spl (A.map f) 0 (min n l.length) (l.map f)=(aC n (spl A 0 (min n l.length) l)).map f:=by
 rw [xY,uG (by simp only [spl,List.length_append,List.length_take,List.length_drop];omega)]
theorem uH {α:Type} [Inhabited α] {l:List α}: ∀{k:Nat} {i j:Nat},j<k→(eZ l k i).getD j default=gt l ((i+j:Nat):Int)
 | k+1,i,0,_=>by simp [eZ]
 | k+1,i,j+1,h=>by
  have:=uH (l:=l) (k:=k) (i:=i+1) (j:=j) (by omega)
  simp only [eZ,List.getD_cons_succ]
  rw [show ((i:Int)+1)=((i+1:Nat):Int) from rfl,this]
  congr 1;omega
theorem jS {α:Type} [Inhabited α] {f:α→V} {n:Nat} {l:List α} {i:Int} (h:0≤i∧i.toNat<n):((aC n l).map f).getD (0+i.toNat*1) .un=f (gt l i):=by
 have h1:(aC n l).length=n:=bS
 have h2:=uH (l:=l) (k:=n) (i:=0) (j:=i.toNat) h.2
 have h3:gt (aC n l) i=gt l i:=by
  rw [show gt (aC n l) i=(eZ l n ((0:Nat):Int)).getD i.toNat default from rfl,h2]
  congr 1;omega
 rw [←h3]
 simp [gt,List.getD_eq_getElem?_getD,h1,h.2]
theorem GH {α:Type} [Inhabited α] {f:α→V} {n:Nat} {l:List α} {i:Int} (h:0≤i∧i.toNat<n):((aC n l).map f).getD (i.toNat*1) .un=f (gt l i):=by
 have:=jS (f:=f) (n:=n) (l:=l) (i:=i) h
 rwa [Nat.zero_add] at this
theorem og {α:Type} [Inhabited α] {f:α→V} {l:List α} {n:Nat} {i:Int} (hl:l.length=n) (h:0≤i∧i.toNat<n):(l.map f).getD (i.toNat*1) .un=f (gt l i):=by
 subst hl
 simp [gt,List.getD_eq_getElem?_getD,h.2]
theorem oh {α:Type} [Inhabited α] {f:α→V} {n:Nat} {l:List α} {i:Int} {v:α} (hl:l.length=n) (h:0≤i∧i.toNat<n):(l.map f).take (0+i.toNat*1)++[f v]++(l.map f).drop (0+i.toNat*1+1)=(aC n (st l i v)).map f:=by
 rw [uG (by rw [eG];exact hl)]
 unfold st
 rw [List.set_eq_take_append_cons_drop,if_pos (by omega)]
 simp [List.map_take,List.map_drop]
def uI {β:Type} (i:Nat):List (Nat×β)→List (Nat×β)
 | []=> []
 | (k,b)::l=>if k=i then uI i l else (k,b)::uI i l
attribute [go_sem] uI
theorem mA {b x:Bool}:(if (!b)=true then false else x)=(if b=true then x else false):=by cases b<;>rfl
end Go.Proofs.YtlmleoeemmhboaaGreatDoor
namespace Go.Proofs.YtlmleoeemmhboaaGreatDoor
open Go.RowKit
set_option linter.unusedVariables false
set_option linter.unusedSimpArgs false
def bE:Int→List Int→Int
 | a,[]=>a
 | a,x::l=>bE (256*a+x) l
def be:Nat→Int→List Int
 | 0,_=> []
 | k+1,n=>be k (n/256)++[n% 256]
def isB (l:List Int):Prop:= ∀x∈l,0≤x∧x≤255
theorem uJ: ∀{l m:List Int} {a:Int},bE a (l++m)=bE (bE a l) m
 | [],m,a=>rfl
 | x::l,m,a=>uJ (l:=l)
theorem gT: ∀{k:Nat} {n:Int},(be k n).length=k
 | 0,_=>rfl
 | k+1,n=>by simp [be,gT (k:=k)]
theorem qZ: ∀{k:Nat} {n:Int},isB (be k n)
 | 0,_=>by simp [isB,be]
 | k+1,n=>by
  intro x hx
  simp only [be,List.mem_append,List.mem_singleton] at hx
  rcases hx with hx|rfl
  ·exact qZ x hx
  ·omega
theorem uK (n m:Int) (h:0<m):n% (256*m)=256*(n/256% m)+n% 256:=by
 have h1:=Int.mul_ediv_add_emod n 256
 have h2:=Int.mul_ediv_add_emod (n/256) m
 have h3:=Int.emod_nonneg (n/256) (show m≠0 by omega)
 have h4:=Int.emod_lt_of_pos (n/256) h
 generalize n/256% m=s at*
 generalize hq:n/256/m=t at*
 have e:n=(256*s+n% 256)+256*m*t:=by
  have:256*m*t=256*(m*t):=by rw [Int.mul_assoc]
  omega
 have e2:n% (256*m)=(256*s+n% 256)% (256*m):=by
  conv=>lhs;rw [e]
  rw [Int.add_mul_emod_self_left]
 rw [e2]
 exact Int.emod_eq_of_lt (by omega) (by omega)
theorem uL: ∀{k:Nat} {n:Int},bE 0 (be k n)=n% 256^k
 | 0,n=>by simp [be,bE]
 | k+1,n=>by
  simp only [be,uJ,uL (k:=k),bE]
  have hp:(0:Int)<256^k:=Int.pow_pos (by omega)
  rw [show (256:Int)^(k+1)=256*256^k by rw [Int.pow_succ,Int.mul_comm],uK _ _ hp]
theorem yU: ∀{l:List Int},isB l→ ∀{a m:Int},0≤a→a<m→0≤bE a l∧bE a l<m*256^l.length
 | [],_,a,m,h0,h1=>by simpa [bE] using ⟨h0,h1⟩
 | x::l,h,a,m,h0,h1=>by
  have hx:=h x (by simp)
  have h2:=yU (l:=l) (fun y hy=>h y (by simp [hy])) (a:=256*a+x) (m:=m*256) (by omega) (by omega)
  simp only [bE,List.length_cons]
  rw [Int.pow_succ,Int.mul_comm (256^l.length),←Int.mul_assoc]
  exact h2
theorem yV {l:List Int} (h:isB l):0≤bE 0 l∧bE 0 l<256^l.length:=by
 have:=yU h (a:=0) (m:=1) (by omega) (by omega)
 simpa using this
theorem GI: ∀{k:Nat} {n x:Int},0≤x→x≤255→be (k+1) (256*n+x)=be k n++[x]:=by
 intro k n x h0 h1
 simp only [be]
 rw [show (256*n+x)/256=n by omega,show (256*n+x)% 256=x by omega]
theorem GJ: ∀(k:Nat) (l:List Int),l.length=k→isB l→be l.length (bE 0 l)=l:=by
 intro k
 induction k with
 | zero=>intro l hl _;rw [List.length_eq_zero_iff.1 hl];rfl
 | succ k ih=>
  intro l hl h
  have hne:l≠[]:=by intro e;simp [e] at hl
  obtain ⟨m,x,rfl⟩: ∃m x,l=m++[x]:=⟨l.dropLast,l.getLast hne,(List.dropLast_concat_getLast hne).symm⟩
  simp at hl
  have hx:=h x (by simp)
  rw [uJ]
  simp only [List.length_append,List.length_singleton,bE]
  rw [GI hx.1 hx.2,ih m hl (fun y hy=>h y (by simp [hy]))]
theorem GK {l:List Int} (h:isB l):be l.length (bE 0 l)=l:=GJ _ l rfl h
def toI (u:Int):Int:=if u≥9223372036854775808 then u - 18446744073709551616 else u
theorem q5: ∀{k:Nat} {n m:Int},n% 256^k=m% 256^k→be k n=be k m
 | 0,_,_,_=>rfl
 | k+1,n,m,h=>by
  have hp:(0:Int)<256^k:=Int.pow_pos (by omega)
  rw [show (256:Int)^(k+1)=256*256^k by rw [Int.pow_succ,Int.mul_comm],uK _ _ hp,uK _ _ hp] at h
  have h1:=Int.emod_nonneg (n/256) (show (256:Int)^k≠0 by omega)
  have h2:=Int.emod_nonneg (m/256) (show (256:Int)^k≠0 by omega)
  simp only [be]
  rw [show n% 256=m% 256 by omega,q5 (k:=k) (show n/256% 256^k=m/256% 256^k by omega)]
mutual
def hgt:ab→Nat
 | ⟨_,_,b,l⟩=>1+b.length+bX l
def bX:List ab→Nat
 | []=>0
 | x::l=>hgt x+bX l
end
theorem yW: ∀{l:List ab} {x:ab},x∈l→hgt x≤bX l
 | y::l,x,h=>by
  simp only [bX]
  rcases List.mem_cons.1 h with rfl|h
  ·omega
  ·have:=yW h;omega
theorem gx (i:ab):hgt i=1+i.B.length+bX i.L:=by cases i;rfl
theorem q6 {i x:ab} (h:x∈i.L):hgt x<hgt i:=by
 have:=yW h
 rw [gx i];omega
mutual
def a8:ab→Int→Bool
 | ⟨k,n,b,l⟩,d=>if k==1 then b.isEmpty&&l.isEmpty else if k==2 then n==0&&l.isEmpty else if k==3 then n==0&&(b.isEmpty&&(decide (0<d)&&(decide (l.length≤1000)&&eg l (d - 1)))) else false
def eg:List ab→Int→Bool
 | [],_=>true
 | x::l,d=>a8 x d&&eg l d
end
theorem q7: ∀{l:List ab} {d:Int},eg l d=l.all (fun x=>a8 x d)
 | [],_=>rfl
 | x::l,d=>by simp only [eg,List.all_cons,q7 (l:=l)]
mutual
def bQ:ab→List Int
 | ⟨k,n,b,l⟩=>if k==1 then 1::be 8 n else if k==2 then 2::(be 4 b.length++b) else 3::(be 4 l.length++gy l)
def gy:List ab→List Int
 | []=> []
 | x::l=>bQ x++gy l
end
mutual
def okI:ab→Prop
 | ⟨_,n,b,l⟩=>(-9223372036854775808≤n∧n≤9223372036854775807)∧isB b∧b.length<4294967296∧okL l
def okL:List ab→Prop
 | []=>True
 | x::l=>okI x∧okL l
end
def rdL (f:List Int→Except Int (ab×List Int)):Nat→List Int→Except Int (List ab×List Int)
 | 0,b=> .ok ([],b)
 | n+1,b=>match f b with
  | .error e=> .error e
  | .ok (i,r)=>match rdL f n r with
   | .error e=> .error e
   | .ok (l,r2)=> .ok (i::l,r2)
def rdG (f:Option (List Int→Except Int (ab×List Int))):List Int→Except Int (ab×List Int)
 | []=> .error 4
 | k::b=>if k==1 then (if b.length<8 then .error 4 else .ok (⟨1,toI (bE 0 (b.take 8)),[],[]⟩,b.drop 8))
  else if k==2 then (if b.length<4 then .error 4 else
   if ((b.drop 4).length:Int)<bE 0 (b.take 4) then .error 4 else .ok (⟨2,0,(b.drop 4).take (bE 0 (b.take 4)).toNat,[]⟩,(b.drop 4).drop (bE 0 (b.take 4)).toNat))
  else if k==3 then (match f with
   | none=> .error 3
   | some f=>if b.length<4 then .error 4 else if bE 0 (b.take 4)>1000 then .error 3 else
    match rdL f (bE 0 (b.take 4)).toNat (b.drop 4) with
    | .error e=> .error e
    | .ok (l,r)=> .ok (⟨3,0,[],l⟩,r))
  else .error 3
def rdI:Nat→List Int→Except Int (ab×List Int)
 | 0=>rdG none
 | d+1=>rdG (some (rdI d))
theorem yX {n:Int} (h: -9223372036854775808≤n∧n≤9223372036854775807):toI (bE 0 (be 8 n))=n:=by
 rw [uL];unfold toI
 have:(256:Int)^8=18446744073709551616:=by decide
 rw [this];split<;>omega
theorem uM {n:Nat} (h:n<4294967296):bE 0 (be 4 n)=n:=by
 rw [uL]
 have:(256:Int)^4=4294967296:=by decide
 rw [this];omega
theorem oi {k:Nat} {n:Int} {r:List Int}:(be k n++r).take k=be k n:=by
 rw [List.take_append_of_le_length (by rw [gT];omega),List.take_of_length_le (by rw [gT];omega)]
theorem ol {k:Nat} {n:Int} {r:List Int}:(be k n++r).drop k=r:=by
 rw [List.drop_append_of_le_length (by rw [gT];omega),List.drop_eq_nil_of_le (by rw [gT];omega)];rfl
theorem yY {d:Nat} (ih: ∀(i:ab) (r:List Int),a8 i d=true→okI i→rdI d (bQ i++r)= .ok (i,r)):
  ∀(l:List ab) (r:List Int),eg l d=true→okL l→rdL (rdI d) l.length (gy l++r)= .ok (l,r)
 | [],r,_,_=>rfl
 | x::l,r,h,h2=>by
  simp only [eg,Bool.and_eq_true] at h
  simp only [okL] at h2
  simp only [List.length_cons,rdL,gy,List.append_assoc,ih x _ h.1 h2.1,yY ih l r h.2 h2.2]
theorem GL: ∀(d:Nat) (i:ab) (r:List Int),a8 i d=true→okI i→rdI d (bQ i++r)= .ok (i,r):=by
 intro d
 induction d with
 | zero=>
  rintro ⟨k,n,b,l⟩ r h ⟨h1,h2,h3,h4⟩
  simp only [a8] at h
  simp only [rdI]
  by_cases e1:k=1
  ·subst e1
   simp at h
   obtain ⟨rfl,rfl⟩:=h
   simp [bQ,rdG,gT,oi,ol,yX h1]
  by_cases e2:k=2
  ·subst e2
   simp at h
   obtain ⟨rfl,rfl⟩:=h
   simp [bQ,rdG,gT,oi,ol,uM h3];rw [if_neg (by omega),if_neg (by omega)]
  by_cases e3:k=3
  ·subst e3;simp at h
  ·simp [e1,e2,e3] at h
 | succ d ih=>
  rintro ⟨k,n,b,l⟩ r h ⟨h1,h2,h3,h4⟩
  simp only [a8] at h
  simp only [rdI]
  by_cases e1:k=1
  ·subst e1
   simp at h
   obtain ⟨rfl,rfl⟩:=h
   simp [bQ,rdG,gT,oi,ol,yX h1]
  by_cases e2:k=2
  ·subst e2
   simp at h
   obtain ⟨rfl,rfl⟩:=h
   simp [bQ,rdG,gT,oi,ol,uM h3];rw [if_neg (by omega),if_neg (by omega)]
  by_cases e3:k=3
  ·subst e3
   simp at h
   obtain ⟨rfl,rfl,hl,hw⟩:=h
   have hw':eg l d=true:=by
    exact hw
   have hv:bE 0 (be 4 (l.length:Int))=l.length:=uM (by omega)
   have:=yY (d:=d) ih l r hw' h4
   simp [bQ,rdG,gT,oi,ol,hv,this];rw [if_neg (by omega),if_neg (by omega)]
  ·simp [e1,e2,e3] at h
theorem yZ {d:Nat} (ih: ∀(b:List Int) (i:ab) (r:List Int),isB b→rdI d b= .ok (i,r)→b=bQ i++r∧a8 i d=true∧okI i):
  ∀(n:Nat) (b:List Int) (l:List ab) (r:List Int),isB b→rdL (rdI d) n b= .ok (l,r)→b=gy l++r∧eg l d=true∧okL l∧l.length=n
 | 0,b,l,r,hb,h=>by
  simp only [rdL] at h
  cases h
  exact ⟨rfl,rfl,trivial,rfl⟩
 | n+1,b,l,r,hb,h=>by
  simp only [rdL] at h
  split at h
  ·cases h
  ·rename_i i r1 h1
   split at h
   ·cases h
   ·rename_i l2 r2 h2
    cases h
    obtain ⟨e,hw,ho⟩:=ih _ _ _ hb h1
    have hb1:isB r1:=fun x hx=>hb x (by rw [e];simp [hx])
    obtain ⟨e2,hw2,ho2,hl⟩:=yZ ih n r1 l2 r hb1 h2
    refine ⟨?_,?_,⟨ho,ho2⟩,by simp [hl]⟩
    ·rw [e,e2];simp [gy]
    ·simp [eg,hw,hw2]
theorem uN {k:Nat} {b:List Int} (h:k≤b.length) (hb:isB b):b=be k (bE 0 (b.take k))++b.drop k:=by
 have h1:isB (b.take k):=fun x hx=>hb x (List.mem_of_mem_take hx)
 have h2:=GK h1
 rw [List.length_take,Nat.min_eq_left h] at h2
 rw [h2,List.take_append_drop]
theorem om {k:Nat} {b:List Int} (h:k≤b.length) (hb:isB b):0≤bE 0 (b.take k)∧bE 0 (b.take k)<256^k:=by
 have h1:isB (b.take k):=fun x hx=>hb x (List.mem_of_mem_take hx)
 have:=yV h1
 rwa [List.length_take,Nat.min_eq_left h] at this
theorem GM {u:Int} (h0:0≤u) (h1:u<256^8):be 8 (toI u)=be 8 u:=by
 apply q5
 have:(256:Int)^8=18446744073709551616:=by decide
 rw [this] at*
 unfold toI;split<;>omega
theorem y3 {f:Option (List Int→Except Int (ab×List Int))} {d:Int} {k:Int} {b:List Int} {i:ab} {r:List Int} (hk:k=1∨k=2) (hb:isB (k::b)) (h:rdG f (k::b)= .ok (i,r)):k::b=bQ i++r∧a8 i d=true∧okI i:=by
 have hb':isB b:=fun x hx=>hb x (by simp [hx])
 rcases hk with rfl|rfl
 ·simp [rdG] at h
  split at h
  ·cases h
  ·rename_i hl
   cases h
   have hv:=om (k:=8) (by omega) hb'
   refine ⟨?_,?_,?_,?_⟩
   ·simp only [bQ];simp
    rw [GM hv.1 hv.2];exact uN (by omega) hb'
   ·simp [a8]
   ·have:(256:Int)^8=18446744073709551616:=by decide
    rw [this] at hv
    unfold toI;split<;>omega
   ·exact ⟨by simp [isB],by simp,trivial⟩
 ·simp [rdG] at h
  split at h
  ·cases h
  ·rename_i hl
   split at h
   ·cases h
   ·rename_i hn
    cases h
    have hv:=om (k:=4) (by omega) hb'
    have h4:(256:Int)^4=4294967296:=by decide
    rw [h4] at hv
    have hlen:((b.drop 4).take (bE 0 (b.take 4)).toNat).length=(bE 0 (b.take 4)).toNat:=by
     rw [List.length_take];simp;omega
    have e2:((bE 0 (b.take 4)).toNat:Int)=bE 0 (b.take 4):=by omega
    refine ⟨?_,?_,?_,?_,?_,trivial⟩
    ·simp only [bQ];simp only [hlen,e2];simp
     have:=uN (k:=4) (b:=b) (by omega) hb'
     conv=>lhs;rw [this]
     have e3:List.drop (4+(bE 0 (b.take 4)).toNat) b=List.drop (bE 0 (b.take 4)).toNat (b.drop 4):=by rw [List.drop_drop]
     rw [e3,List.take_append_drop]
    ·simp [a8]
    ·omega
    ·intro x hx;exact hb' x (List.mem_of_mem_drop (List.mem_of_mem_take hx))
    ·rw [hlen];omega
theorem GN: ∀(d:Nat) (b:List Int) (i:ab) (r:List Int),isB b→rdI d b= .ok (i,r)→b=bQ i++r∧a8 i d=true∧okI i:=by
 intro d
 induction d with
 | zero=>
  intro b i r hb h
  cases b with
  | nil=>simp [rdI,rdG] at h
  | cons k b=>
   by_cases e:k=1∨k=2
   ·exact y3 e hb h
   ·simp [rdI,rdG] at h
    split at h<;>simp_all
 | succ d ih=>
  intro b i r hb h
  cases b with
  | nil=>simp [rdI,rdG] at h
  | cons k b=>
   by_cases e:k=1∨k=2
   ·exact y3 e hb h
   by_cases e3:k=3
   ·subst e3
    have hb':isB b:=fun x hx=>hb x (by simp [hx])
    simp [rdI,rdG] at h
    split at h
    ·cases h
    split at h
    ·cases h
    rename_i hl hn
    split at h
    ·cases h
    rename_i l r2 h2
    cases h
    have hbd:isB (b.drop 4):=fun x hx=>hb' x (List.mem_of_mem_drop hx)
    obtain ⟨g1,g2,g3,g4⟩:=yZ ih _ _ _ _ hbd h2
    have hv:=om (k:=4) (by omega) hb'
    have e2:(l.length:Int)=bE 0 (b.take 4):=by omega
    refine ⟨?_,?_,?_,?_,?_,g3⟩
    ·simp only [bQ,e2];simp
     rw [←g1];exact uN (by omega) hb'
    ·have:((d:Int)+1 - 1)=d:=by omega
     simp [a8,this,g2];omega
    ·omega
    ·simp [isB]
    ·simp
   ·simp [rdI,rdG] at h
    split at h<;>simp_all
def dO (r:aJ) (e:Int):aJ:=if r.e==0 then {b:=r.b,e:=e} else r
def dP (r:aJ) (n:Int):List Int×aJ:=
 if r.e≠0∨n>r.b.length then ([],dO r 4) else (r.b.take n.toNat,{b:=r.b.drop n.toNat,e:=r.e})
def y4 (l:List Int):Int:=l.foldl (fun a x=>orI .u64 (ap .u64 a 8) (ae .u64 x)) 0
def dq (r:aJ) (n:Int):Int×aJ:=(y4 (dP r n).1,(dP r n).2)
theorem wrap_u64 {a:Int} (h0:0≤a) (h1:a<18446744073709551616):IntKind.wrap .u64 a=a:=by
 simp only [IntKind.wrap,IntKind.bits,IntKind.signed];simp;omega
theorem GO {a:Int} (h0:0≤a) (h1:a<18446744073709551616):ae .i64 a=toI a:=by
 unfold ae toI;rw [IntKind.wrap_i64];split<;>omega
theorem GP {a x:Int} (h0:0≤a) (h1:a<72057594037927936) (h2:0≤x) (h3:x≤255):orI .u64 (ap .u64 a 8) (ae .u64 x)=256*a+x:=by
 obtain ⟨n,rfl⟩: ∃n:Nat,a=n:=⟨a.toNat,by omega⟩
 obtain ⟨m,rfl⟩: ∃m:Nat,x=m:=⟨x.toNat,by omega⟩
 have e1:ap .u64 (n:Int) 8=((n*256:Nat):Int):=by
  unfold ap
  rw [show (2:Int)^min (8:Int).toNat (IntKind.bits .u64)=256 by decide,wrap_u64 (by omega) (by omega)];omega
 have e2:ae .u64 (m:Int)=m:=wrap_u64 (by omega) (by omega)
 rw [e1,e2]
 unfold orI
 have e3: ∀k:Nat,k<18446744073709551616→(BitVec.ofInt (IntKind.bits .u64) (k:Int)).toNat=k:=by
  intro k hk
  rw [BitVec.toNat_ofInt]
  have:(((2^IntKind.bits .u64:Nat)):Int)=18446744073709551616:=rfl
  rw [this];omega
 have e4:((BitVec.ofInt (IntKind.bits .u64) ((n*256:Nat):Int))|||(BitVec.ofInt (IntKind.bits .u64) ((m:Nat):Int))).toNat=256*n+m:=by
  rw [BitVec.toNat_or,e3 _ (by omega),e3 _ (by omega)]
  have:=Nat.shiftLeft_add_eq_or_of_lt (i:=8) (b:=m) (by show m<256;omega) n
  rw [Nat.shiftLeft_eq,show (2:Nat)^8=256 from rfl] at this
  rw [←this,Nat.mul_comm]
 rw [e4,wrap_u64 (by omega) (by omega)];omega
theorem y6: ∀{l:List Int},isB l→ ∀{a:Int} {k:Nat},0≤a→a<256^k→k+l.length≤8→l.foldl (fun a x=>orI .u64 (ap .u64 a 8) (ae .u64 x)) a=bE a l
 | [],_,a,k,_,_,_=>rfl
 | x::l,h,a,k,h0,h1,h2=>by
  have hx:=h x (by simp)
  simp only [List.length_cons] at h2
  have h3:(256:Int)^k≤256^7:=(by decide: ∀k,k<8→(256:Int)^k≤256^7) k (by omega)
  have h4:(256:Int)^7=72057594037927936:=by decide
  simp only [List.foldl_cons,bE]
  rw [GP h0 (by omega) hx.1 hx.2]
  exact y6 (k:=k+1) (fun y hy=>h y (by simp [hy])) (by omega) (by rw [Int.pow_succ];omega) (by omega)
theorem y7 {l:List Int} (h:isB l) (hl:l.length≤8):y4 l=bE 0 l:=y6 h (k:=0) (by omega) (by decide) (by omega)
def eM (f:aJ→ab×aJ):Nat→List ab→aJ→List ab×aJ
 | 0,l,r=>(l,r)
 | n+1,l,r=>if r.e≠0 then (l,r) else eM f n (l++[(f r).1]) (f r).2
def jc (f:Option (aJ→ab×aJ)) (r:aJ):ab×aJ:=
 let a:=dq r 1
 if ae .i64 a.1<1∨ae .i64 a.1>3∨(ae .i64 a.1=3∧f.isNone=true) then (ee,dO a.2 3)
 else if ae .i64 a.1=1 then (⟨ae .i64 a.1,ae .i64 (dq a.2 8).1,[],[]⟩,(dq a.2 8).2)
 else if ae .i64 a.1=2 then (⟨ae .i64 a.1,0,(dP (dq a.2 4).2 (ae .i64 (dq a.2 4).1)).1,[]⟩,(dP (dq a.2 4).2 (ae .i64 (dq a.2 4).1)).2)
 else match f with
  | none=>default
  | some f=>
   let b:=dq a.2 4
   let x:=eM f (ae .i64 b.1).toNat [] (if ae .i64 b.1>1000 then dO b.2 3 else b.2)
   (⟨ae .i64 a.1,0,[],x.1⟩,x.2)
def fg:Nat→aJ→ab×aJ
 | 0=>jc none
 | d+1=>jc (some (fg d))
def cJ (r:aJ) (depth:Int):ab×aJ:=fg depth.toNat r
theorem uO {f:aJ→ab×aJ} {n:Nat} {l:List ab} {r:aJ} (h:r.e≠0):eM f n l r=(l,r):=by
 cases n with
 | zero=>rfl
 | succ n=>simp only [eM];rw [if_pos h]
theorem y8 {b:List Int} {n:Int} (h:n≤b.length):dP ⟨b,0⟩ n=(b.take n.toNat,⟨b.drop n.toNat,0⟩):=by
 unfold dP;rw [if_neg];simp;omega
theorem y9 {b:List Int} {n:Int} (h:b.length<n):dP ⟨b,0⟩ n=([],⟨b,4⟩):=by
 unfold dP;rw [if_pos]
 ·simp [dO]
 ·simp;omega
theorem GQ {r:aJ} {n:Int} (h:r.e≠0):dP r n=([],r):=by
 unfold dP;rw [if_pos (.inl h)];simp [dO,h]
theorem y_ {b:List Int} (h:isB b) (n:Nat):isB (b.take n):=fun x hx=>h x (List.mem_of_mem_take hx)
theorem za {b:List Int} (h:isB b) (n:Nat):isB (b.drop n):=fun x hx=>h x (List.mem_of_mem_drop hx)
theorem q8 {b:List Int} {n:Int} (hb:isB b) (h:n≤b.length) (h8:n≤8):dq ⟨b,0⟩ n=(bE 0 (b.take n.toNat),⟨b.drop n.toNat,0⟩):=by
 unfold dq;rw [y8 h];simp only
 rw [y7 (y_ hb _) (by simp;omega)]
theorem q_ {b:List Int} {n:Int} (h:b.length<n):dq ⟨b,0⟩ n=(0,⟨b,4⟩):=by unfold dq;rw [y9 h];rfl
theorem zb:ae .i64 0=0:=l7 (by decide) (by decide)
theorem zc {b:List Int} (hb:isB b) (h:4≤b.length):ae .i64 (bE 0 (b.take 4))=bE 0 (b.take 4):=by
 have hv:=om h hb
 have h4:(256:Int)^4=4294967296:=by decide
 exact l7 (by omega) (by omega)
theorem GR {b:List Int} (hb:isB b) (h:8≤b.length):ae .i64 (bE 0 (b.take 8))=toI (bE 0 (b.take 8)):=by
 have hv:=om h hb
 have h8:(256:Int)^8=18446744073709551616:=by decide
 exact GO hv.1 (by omega)
def dx (x:ab×aJ):Except Int (ab×List Int)→Prop
 | .ok (i,r)=>x=(i,⟨r,0⟩)
 | .error e=>x.2.e=e∧e≠0
theorem zd {f:aJ→ab×aJ} {g:List Int→Except Int (ab×List Int)} (ih: ∀b,isB b→dx (f ⟨b,0⟩) (g b)) (hg: ∀b i r,isB b→g b= .ok (i,r)→isB r):
  ∀(n:Nat) (b:List Int) (l:List ab),isB b→match rdL g n b with
   | .ok (l2,r)=>eM f n l ⟨b,0⟩=(l++l2,⟨r,0⟩)
   | .error e=>(eM f n l ⟨b,0⟩).2.e=e∧e≠0
 | 0,b,l,_=>by simp [rdL,eM]
 | n+1,b,l,hb=>by
  have h:=ih b hb
  simp only [rdL,eM]
  rw [if_neg (by simp)]
  cases hgb:g b with
  | error e=>
   rw [hgb] at h
   simp only [dx] at h
   simp only
   rw [uO (by rw [h.1];exact h.2)]
   exact h
  | ok p=>
   obtain ⟨i,r⟩:=p
   rw [hgb] at h
   simp only [dx] at h
   rw [h]
   have h2:=zd ih hg n r (l++[i]) (hg b i r hb hgb)
   simp only
   cases hl:rdL g n r with
   | error e=>rw [hl] at h2;exact h2
   | ok p=>obtain ⟨l2,r2⟩:=p;rw [hl] at h2;simpa using h2
theorem ze {f:Option (aJ→ab×aJ)} {g:Option (List Int→Except Int (ab×List Int))}
  (ih:match f,g with|none,none=>True|some f,some g=>(∀b,isB b→dx (f ⟨b,0⟩) (g b))∧(∀b i r,isB b→g b= .ok (i,r)→isB r)|_,_=>False) (b:List Int) (hb:isB b):dx (jc f ⟨b,0⟩) (rdG g b):=by
 cases b with
 | nil=>
  have h1:dq ⟨[],0⟩ 1=(0,⟨[],4⟩):=q_ (by simp)
  simp [rdG,jc,h1,dO,dx,zb]
 | cons k b=>
  have hk:=hb k (by simp)
  have hb':isB b:=fun x hx=>hb x (by simp [hx])
  have h1:dq ⟨k::b,0⟩ 1=(k,⟨b,0⟩):=by rw [q8 hb (by simp;omega) (by omega)];simp [bE]
  have hc:ae .i64 k=k:=l7 (by omega) (by omega)
  simp only [jc,h1,rdG,hc]
  by_cases e1:k=1
  ·subst e1
   simp only [Int.reduceLT,false_or,Int.reduceEq,false_and,or_self,if_false,if_true,gt_iff_lt,beq_self_eq_true]
   by_cases hl:b.length<8
   ·rw [if_pos hl,q_ (by omega)];simp [dx]
   ·rw [if_neg hl,q8 hb' (by omega) (by omega)]
    have:=GR hb' (by omega)
    simp [dx,this]
  by_cases e2:k=2
  ·subst e2
   simp only [Int.reduceLT,false_or,Int.reduceEq,false_and,or_self,if_false,if_true,gt_iff_lt,beq_self_eq_true]
   rw [if_neg (by simp)]
   by_cases hl:b.length<4
   ·rw [if_pos hl,q_ (by omega)]
    simp only []
    rw [GQ (by simp)]
    simp [dx]
   ·rw [if_neg hl,q8 hb' (by omega) (by omega)]
    simp only [Int.reduceToNat]
    rw [zc hb' (by omega)]
    by_cases hn:((b.drop 4).length:Int)<bE 0 (b.take 4)
    ·rw [if_pos hn,y9 (by omega)];simp [dx]
    ·rw [if_neg hn,y8 (by omega)];simp [dx]
  by_cases e3:k=3
  ·subst e3
   cases f with
   | none=>cases g with
    | none=>simp [dx,dO]
    | some g=>cases ih
   | some f=>cases g with
    | none=>cases ih
    | some g=>
     simp at ih
     simp
     by_cases hl:b.length<4
     ·rw [if_pos hl,q_ (by omega)]
      simp only [zb]
      rw [if_neg (by omega)]
      simp [eM,dx]
     ·rw [if_neg hl,q8 hb' (by omega) (by omega)]
      simp only [Int.reduceToNat]
      rw [zc hb' (by omega)]
      by_cases hn:1000<bE 0 (b.take 4)
      ·rw [if_pos hn,if_pos hn,uO (by simp [dO])];simp [dx,dO]
      ·rw [if_neg hn,if_neg hn]
       have h2:=zd (fun b hb=>ih.1 b hb) (fun b i r hb he=>ih.2 b i r hb he) (bE 0 (b.take 4)).toNat (b.drop 4) [] (za hb' 4)
       cases hr:rdL g (bE 0 (b.take 4)).toNat (b.drop 4) with
       | error e=>rw [hr] at h2;exact h2
       | ok p=>obtain ⟨l2,r2⟩:=p;rw [hr] at h2;simp only [] at h2;simp [dx,h2]
  ·have:k<1∨k>3∨(k=3∧f.isNone=true):=by omega
   rw [if_pos this]
   simp [e1,e2,e3,dx,dO]
theorem zf: ∀(d:Nat) (b:List Int),isB b→dx (fg d ⟨b,0⟩) (rdI d b)
 | 0,b,hb=>ze (f:=none) (g:=none) trivial b hb
 | d+1,b,hb=>ze (f:=some (fg d)) (g:=some (rdI d)) ⟨fun b hb=>zf d b hb,fun b i r hb h x hx=>hb x (by rw [(GN d b i r hb h).1];simp [hx])⟩ b hb
theorem jT {r:aJ} {n:Int} (h:isB r.b):isB (dP r n).2.b:=by
 unfold dP
 split
 ·unfold dO;split<;>exact h
 ·exact za h _
theorem uP {r:aJ} {e:Int} (h:isB r.b):isB (dO r e).b:=by unfold dO;split<;>exact h
theorem zg {f:aJ→ab×aJ} (hf: ∀r,isB r.b→isB (f r).2.b): ∀{n:Nat} {l:List ab} {r:aJ},isB r.b→isB (eM f n l r).2.b
 | 0,_,_,h=>h
 | n+1,l,r,h=>by
  simp only [eM]
  split
  ·exact h
  ·exact zg hf (hf r h)
theorem zh {f:Option (aJ→ab×aJ)} (hf: ∀g,f=some g→ ∀r,isB r.b→isB (g r).2.b) {r:aJ} (h:isB r.b):isB (jc f r).2.b:=by
 have h1:isB (dq r 1).2.b:=jT h
 simp only [jc]
 split
 ·exact uP h1
 split
 ·exact jT h1
 split
 ·exact jT (jT h1)
 cases f with
 | none=>intro x hx;cases hx
 | some g=>
  refine zg (hf g rfl) ?_
  split
  ·exact uP (jT h1)
  ·exact jT h1
theorem zi: ∀{d:Nat} {r:aJ},isB r.b→isB (fg d r).2.b
 | 0,_,h=>zh (fun g e=>by cases e) h
 | d+1,_,h=>zh (fun g e r hr=>by cases e;exact zi hr) h
theorem GS {r:aJ} {x:ab×aJ} {d:Int} (e:x=cJ r d) (h:isB r.b):isB x.2.b:=by rw [e];exact zi h
theorem kW: ∀{l:List Int},wfL (l.map (V.int .u8))→isB l
 | [],_=>by simp [isB]
 | a::l,h=>by
  simp only [List.map_cons,wfL,wfV,yf] at h
  intro x hx
  rcases List.mem_cons.1 hx with rfl|hx
  ·exact h.1
  ·exact kW h.2 x hx
mutual
def eN:List Int→ab→List Int
 | out,⟨k,n,b,l⟩=>if out.length>16384 then out else if k==1 then out++(1::be 8 n) else if k==2 then out++(2::be 4 b.length)++b else iD (out++(k% 256::be 4 l.length)) l
def iD:List Int→List ab→List Int
 | out,[]=>out
 | out,x::l=>iD (eN out x) l
end
theorem zj {out:List Int} (h:16384<out.length) (i:ab):eN out i=out:=by
 cases i;simp only [eN];rw [if_pos h]
theorem zk: ∀{l:List ab} {out:List Int},16384<out.length→iD out l=out
 | [],_,_=>rfl
 | x::l,out,h=>by simp only [iD];rw [zj h];exact zk h
mutual
theorem zl: ∀(i:ab) (out:List Int) (d:Int),a8 i d=true→eN out i=out++bQ i∨(16384<(eN out i).length∧16384<(out++bQ i).length)
 | ⟨k,n,b,l⟩,out,d,h=>by
  by_cases hl:out.length>16384
  ·refine .inr ⟨?_,by simp;omega⟩
   rw [zj hl];exact hl
  simp only [eN,if_neg hl,bQ]
  simp only [a8] at h
  by_cases e1:k=1
  ·subst e1;simp
  by_cases e2:k=2
  ·subst e2;simp
  by_cases e3:k=3
  ·subst e3
   simp at h
   have:=zm l (out++(3::be 4 l.length)) (d - 1) h.2.2.2.2
   simpa using this
  ·simp [e1,e2,e3] at h
theorem zm: ∀(l:List ab) (out:List Int) (d:Int),eg l d=true→iD out l=out++gy l∨(16384<(iD out l).length∧16384<(out++gy l).length)
 | [],out,d,_=> .inl (by simp [iD,gy])
 | x::l,out,d,h=>by
  simp only [eg,Bool.and_eq_true] at h
  simp only [iD,gy]
  rcases zl x out d h.1 with e|⟨e1,e2⟩
  ·rw [e]
   have:=zm l (out++bQ x) d h.2
   simpa using this
  ·refine .inr ⟨by rw [zk e1];exact e1,?_⟩
   simp at e2⊢;omega
end
end Go.Proofs.YtlmleoeemmhboaaGreatDoor
namespace Go.Proofs.YtlmleoeemmhboaaGreatDoor
open Go.RowKit
end Go.Proofs.YtlmleoeemmhboaaGreatDoor
namespace Go.Proofs.YtlmleoeemmhboaaGreatDoor
open Go.RowKit
end Go.Proofs.YtlmleoeemmhboaaGreatDoor
namespace Go.Proofs.YtlmleoeemmhboaaGreatDoor
open Go.RowKit
def cN {α:Type}:List α→List (List α)
 | a::b::l=> [a,b]::cN l
 | _=> []
theorem zn {α:Type} {y:List α}: ∀{l:List α},y∈cN l→y.length=2
 | a::b::l,h=>by
  simp only [cN,List.mem_cons] at h
  rcases h with rfl|h
  ·rfl
  ·exact zn h
 | [],h=>by simp [cN] at h
 | [_],h=>by simp [cN] at h
theorem zo {α:Type}: ∀{k:Nat} {l:List α},l.length=2*k→(cN l).length=k
 | 0,l,h=>by
  have:l=[]:=List.length_eq_zero_iff.1 (by omega)
  subst this;rfl
 | k+1,a::b::l,h=>by
  simp only [cN,List.length_cons] at h⊢
  rw [zo (k:=k) (by omega)]
 | k+1,[],h=>by simp at h
 | k+1,[a],h=>by simp at h;omega
def fM (l:List (List Int)):List (Int×List Int):=(l.zipIdx.map fun p=>((p.2:Int),p.1)).reverse
end Go.Proofs.YtlmleoeemmhboaaGreatDoor
