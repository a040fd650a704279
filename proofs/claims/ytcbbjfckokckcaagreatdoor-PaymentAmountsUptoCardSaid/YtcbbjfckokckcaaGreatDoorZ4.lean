/- Texts of this proof, one after the other: K, VZ, VP, VO, VS, VI. -/
import Derived.Test.YtcbbjfckokckcaaGreatDoorZ3
import Derived.Test.YtcbbjfckokckcaaGreatDoorProg
import Derived.KernelRfl
import Derived.Lib.LaidTab
import Derived.Lib.ItoaNum
set_option linter.unusedVariables false
set_option linter.unusedSimpArgs false
namespace Go.Proofs.YtcbbjfckokckcaaGreatDoor
open Go.RowKit
def cT:List Int:=[2,3,5,7,11,13,17,19,23,29,31,37]
def jH:List Int:=[0,1,56,2,57,49,28,3,61,58,42,50,38,29,17,4,62,47,59,36,45,43,51,22,53,39,33,30,24,18,12,5,63,55,48,27,60,41,37,16,46,35,44,21,52,32,23,11,54,26,40,15,34,20,31,10,25,14,19,9,13,8,7,6]
def kR:List Int:=[1116352408,1899447441,3049323471,3921009573,961987163,1508970993,2453635748,2870763221,3624381080,310598401,607225278,1426881987,1925078388,2162078206,2614888103,3248222580,3835390401,4022224774,264347078,604807628,770255983,1249150122,1555081692,1996064986,2554220882,2821834349,2952996808,3210313671,3336571891,3584528711,113926993,338241895,666307205,773529912,1294757372,1396182291,1695183700,1986661051,2177026350,2456956037,2730485921,2820302411,3259730800,3345764771,3516065817,3600352804,4094571909,275423344,430227734,506948616,659060556,883997877,958139571,1322822218,1537002063,1747873779,1955562222,2024104815,2227730452,2361852424,2428436474,2756734187,3204031479,3329325298]
noncomputable def tbl:List (TypeId×TI):=[(1,{n:=1,g:=false,by':=8,ok:=true,z:= .un,k:=6}),
 (2,{n:=1,g:=false,by':=8,ok:=true,z:= .int .i64 0,k:=0,ik:= .i64}),
 (3,{n:=1,g:=false,by':=8,ok:=true,z:= .int .i64 0,k:=0,ik:= .i64}),
 (4,{n:=1,g:=false,by':=1,ok:=true,z:= .bool false,k:=1}),
 (5,{n:=1,g:=false,by':=1,ok:=true,z:= .int .u8 0,k:=0,ik:= .u8}),
 (9,{n:=1,g:=false,by':=16,ok:=true,z:= .str [],k:=2}),
 (12,{n:=1,g:=false,by':=8,ok:=true,z:= .int .u64 0,k:=0,ik:= .u64}),
 (15,{n:=1,g:=false,by':=8,ok:=true,z:= .un,k:=6}),
 (16,{n:=1,g:=false,by':=8,ok:=true,z:= .un,k:=6}),
 (17,{n:=1,g:=false,by':=8,ok:=true,z:= .un,k:=6}),
 (20,{n:=1,g:=false,by':=16,ok:=true,z:= .un,k:=8}),
 (21,{n:=1,g:=false,by':=4,ok:=true,z:= .int .i32 0,k:=0,ik:= .i32}),
 (23,{n:=3,g:=true,by':=24,ok:=true,z:= .agg [.int .i64 0,.int .i64 0,.int .i64 0],k:=5,fs:=[(0,3),(1,3),(2,3)],cmp:=true,ck:=[0,0,0]}),
 (25,{n:=6,g:=true,by':=48,ok:=true,z:= .agg [.int .i64 0,.int .i64 0,.int .i64 0,.int .i64 0,.int .i64 0,.int .i64 0],k:=5,fs:=[(0,23),(3,3),(4,3),(5,3)],cmp:=true,ck:=[0,0,0,0,0,0]}),
 (26,{n:=1,g:=false,by':=24,ok:=true,z:= .sl (some true) 11 true [],k:=3,el:=64}),
 (27,{n:=32,g:=true,by':=32,ok:=true,z:= .agg [.int .u8 0,.int .u8 0,.int .u8 0,.int .u8 0,.int .u8 0,.int .u8 0,.int .u8 0,.int .u8 0,.int .u8 0,.int .u8 0,.int .u8 0,.int .u8 0,.int .u8 0,.int .u8 0,.int .u8 0,.int .u8 0,.int .u8 0,.int .u8 0,.int .u8 0,.int .u8 0,.int .u8 0,.int .u8 0,.int .u8 0,.int .u8 0,.int .u8 0,.int .u8 0,.int .u8 0,.int .u8 0,.int .u8 0,.int .u8 0,.int .u8 0,.int .u8 0],k:=4,el:=5,len:=32,cmp:=true,ck:=[0,0,0,0,0,0,0,0,0,0,0,0,0,0,0,0,0,0,0,0,0,0,0,0,0,0,0,0,0,0,0,0]}),
 (28,{n:=32,g:=true,by':=32,ok:=true,z:= .agg [.int .u8 0,.int .u8 0,.int .u8 0,.int .u8 0,.int .u8 0,.int .u8 0,.int .u8 0,.int .u8 0,.int .u8 0,.int .u8 0,.int .u8 0,.int .u8 0,.int .u8 0,.int .u8 0,.int .u8 0,.int .u8 0,.int .u8 0,.int .u8 0,.int .u8 0,.int .u8 0,.int .u8 0,.int .u8 0,.int .u8 0,.int .u8 0,.int .u8 0,.int .u8 0,.int .u8 0,.int .u8 0,.int .u8 0,.int .u8 0,.int .u8 0,.int .u8 0],k:=4,el:=5,len:=32,cmp:=true,ck:=[0,0,0,0,0,0,0,0,0,0,0,0,0,0,0,0,0,0,0,0,0,0,0,0,0,0,0,0,0,0,0,0]}),
 (30,{n:=35,g:=true,by':=56,ok:=true,z:= .agg [.int .u8 0,.int .u8 0,.int .u8 0,.int .u8 0,.int .u8 0,.int .u8 0,.int .u8 0,.int .u8 0,.int .u8 0,.int .u8 0,.int .u8 0,.int .u8 0,.int .u8 0,.int .u8 0,.int .u8 0,.int .u8 0,.int .u8 0,.int .u8 0,.int .u8 0,.int .u8 0,.int .u8 0,.int .u8 0,.int .u8 0,.int .u8 0,.int .u8 0,.int .u8 0,.int .u8 0,.int .u8 0,.int .u8 0,.int .u8 0,.int .u8 0,.int .u8 0,.int .i64 0,.int .i64 0,.int .i64 0],k:=5,fs:=[(0,28),(32,3),(33,3),(34,3)],cmp:=true,ck:=[0,0,0,0,0,0,0,0,0,0,0,0,0,0,0,0,0,0,0,0,0,0,0,0,0,0,0,0,0,0,0,0,0,0,0]}),
 (31,{n:=1,g:=false,by':=24,ok:=true,z:= .sl (some true) 80 true [],k:=3,el:=56}),
 (32,{n:=1,g:=false,by':=24,ok:=true,z:= .sl (some true) 81 true [],k:=3,el:=58}),
 (33,{n:=1,g:=false,by':=24,ok:=true,z:= .sl (some true) 5 true [],k:=3,el:=112}),
 (35,{n:=4,g:=true,by':=80,ok:=true,z:= .agg [.int .i64 0,.sl (some true) 80 true [],.sl (some true) 81 true [],.sl (some true) 5 true []],k:=5,fs:=[(0,3),(1,31),(2,32),(3,33)]}),
 (36,{n:=1,g:=false,by':=8,ok:=true,z:= .un,k:=6}),
 (37,{n:=1,g:=false,by':=8,ok:=true,z:= .un,k:=6}),
 (38,{n:=1,g:=false,by':=8,ok:=true,z:= .int .i64 0,k:=0,ik:= .i64}),
 (40,{n:=1,g:=false,by':=8,ok:=true,z:= .un,k:=6}),
 (41,{n:=1,g:=false,by':=8,ok:=true,z:= .un,k:=6}),
 (42,{n:=1,g:=false,by':=8,ok:=true,z:= .un,k:=6}),
 (44,{n:=4,g:=true,by':=32,ok:=true,z:= .agg [.int .i64 0,.int .i64 0,.int .i64 0,.int .i64 0],k:=5,fs:=[(0,3),(1,3),(2,3),(3,3)],cmp:=true,ck:=[0,0,0,0]}),
 (46,{n:=41,g:=true,by':=104,ok:=true,z:= .agg [.int .i64 0,.int .i64 0,.int .i64 0,.int .i64 0,.int .i64 0,.int .u8 0,.int .u8 0,.int .u8 0,.int .u8 0,.int .u8 0,.int .u8 0,.int .u8 0,.int .u8 0,.int .u8 0,.int .u8 0,.int .u8 0,.int .u8 0,.int .u8 0,.int .u8 0,.int .u8 0,.int .u8 0,.int .u8 0,.int .u8 0,.int .u8 0,.int .u8 0,.int .u8 0,.int .u8 0,.int .u8 0,.int .u8 0,.int .u8 0,.int .u8 0,.int .u8 0,.int .u8 0,.int .u8 0,.int .u8 0,.int .u8 0,.int .u8 0,.int .i64 0,.int .i64 0,.int .i64 0,.int .i64 0],k:=5,fs:=[(0,3),(1,3),(2,3),(3,3),(4,3),(5,28),(37,44)],cmp:=true,ck:=[0,0,0,0,0,0,0,0,0,0,0,0,0,0,0,0,0,0,0,0,0,0,0,0,0,0,0,0,0,0,0,0,0,0,0,0,0,0,0,0,0]}),
 (48,{n:=2,g:=true,by':=16,ok:=true,z:= .agg [.int .i64 0,.int .i64 0],k:=5,fs:=[(0,3),(1,3)],cmp:=true,ck:=[0,0]}),
 (50,{n:=34,g:=true,by':=48,ok:=true,z:= .agg [.int .u8 0,.int .u8 0,.int .u8 0,.int .u8 0,.int .u8 0,.int .u8 0,.int .u8 0,.int .u8 0,.int .u8 0,.int .u8 0,.int .u8 0,.int .u8 0,.int .u8 0,.int .u8 0,.int .u8 0,.int .u8 0,.int .u8 0,.int .u8 0,.int .u8 0,.int .u8 0,.int .u8 0,.int .u8 0,.int .u8 0,.int .u8 0,.int .u8 0,.int .u8 0,.int .u8 0,.int .u8 0,.int .u8 0,.int .u8 0,.int .u8 0,.int .u8 0,.int .i64 0,.int .i64 0],k:=5,fs:=[(0,28),(32,3),(33,3)],cmp:=true,ck:=[0,0,0,0,0,0,0,0,0,0,0,0,0,0,0,0,0,0,0,0,0,0,0,0,0,0,0,0,0,0,0,0,0,0]}),
 (51,{n:=1,g:=false,by':=24,ok:=true,z:= .sl (some true) 3 true [],k:=3,el:=123}),
 (52,{n:=1,g:=false,by':=24,ok:=true,z:= .sl (some true) 32 true [],k:=3,el:=28}),
 (54,{n:=2,g:=true,by':=32,ok:=true,z:= .agg [.int .i64 0,.sl (some true) 32 true []],k:=5,fs:=[(0,3),(1,52)]}),
 (56,{n:=80,g:=true,by':=224,ok:=true,z:= .agg [.int .i64 0,.int .i64 0,.int .i64 0,.int .i64 0,.int .i64 0,.int .u8 0,.int .u8 0,.int .u8 0,.int .u8 0,.int .u8 0,.int .u8 0,.int .u8 0,.int .u8 0,.int .u8 0,.int .u8 0,.int .u8 0,.int .u8 0,.int .u8 0,.int .u8 0,.int .u8 0,.int .u8 0,.int .u8 0,.int .u8 0,.int .u8 0,.int .u8 0,.int .u8 0,.int .u8 0,.int .u8 0,.int .u8 0,.int .u8 0,.int .u8 0,.int .u8 0,.int .u8 0,.int .u8 0,.int .u8 0,.int .u8 0,.int .u8 0,.int .i64 0,.int .i64 0,.int .i64 0,.int .i64 0,.int .i64 0,.int .i64 0,.int .u8 0,.int .u8 0,.int .u8 0,.int .u8 0,.int .u8 0,.int .u8 0,.int .u8 0,.int .u8 0,.int .u8 0,.int .u8 0,.int .u8 0,.int .u8 0,.int .u8 0,.int .u8 0,.int .u8 0,.int .u8 0,.int .u8 0,.int .u8 0,.int .u8 0,.int .u8 0,.int .u8 0,.int .u8 0,.int .u8 0,.int .u8 0,.int .u8 0,.int .u8 0,.int .u8 0,.int .u8 0,.int .u8 0,.int .u8 0,.int .u8 0,.int .u8 0,.int .i64 0,.int .i64 0,.sl (some true) 3 true [],.int .i64 0,.sl (some true) 32 true []],k:=5,fs:=[(0,46),(41,48),(43,50),(77,51),(78,54)]}),
 (58,{n:=81,g:=true,by':=248,ok:=true,z:= .agg [.int .i64 0,.int .i64 0,.int .i64 0,.int .i64 0,.int .i64 0,.int .u8 0,.int .u8 0,.int .u8 0,.int .u8 0,.int .u8 0,.int .u8 0,.int .u8 0,.int .u8 0,.int .u8 0,.int .u8 0,.int .u8 0,.int .u8 0,.int .u8 0,.int .u8 0,.int .u8 0,.int .u8 0,.int .u8 0,.int .u8 0,.int .u8 0,.int .u8 0,.int .u8 0,.int .u8 0,.int .u8 0,.int .u8 0,.int .u8 0,.int .u8 0,.int .u8 0,.int .u8 0,.int .u8 0,.int .u8 0,.int .u8 0,.int .u8 0,.int .i64 0,.int .i64 0,.int .i64 0,.int .i64 0,.int .i64 0,.int .i64 0,.int .u8 0,.int .u8 0,.int .u8 0,.int .u8 0,.int .u8 0,.int .u8 0,.int .u8 0,.int .u8 0,.int .u8 0,.int .u8 0,.int .u8 0,.int .u8 0,.int .u8 0,.int .u8 0,.int .u8 0,.int .u8 0,.int .u8 0,.int .u8 0,.int .u8 0,.int .u8 0,.int .u8 0,.int .u8 0,.int .u8 0,.int .u8 0,.int .u8 0,.int .u8 0,.int .u8 0,.int .u8 0,.int .u8 0,.int .u8 0,.int .u8 0,.int .u8 0,.int .i64 0,.int .i64 0,.sl (some true) 3 true [],.int .i64 0,.sl (some true) 32 true [],.sl (some true) 80 true []],k:=5,fs:=[(0,56),(80,31)]}),
 (59,{n:=1,g:=false,by':=8,ok:=true,z:= .un,k:=6}),
 (60,{n:=1,g:=false,by':=8,ok:=true,z:= .un,k:=6}),
 (62,{n:=3,g:=true,by':=24,ok:=true,z:= .agg [.int .i64 0,.int .i64 0,.int .i64 0],k:=5,fs:=[(0,3),(1,3),(2,3)],cmp:=true,ck:=[0,0,0]}),
 (64,{n:=11,g:=true,by':=88,ok:=true,z:= .agg [.int .i64 0,.int .i64 0,.int .i64 0,.int .i64 0,.int .i64 0,.int .i64 0,.int .i64 0,.int .i64 0,.int .i64 0,.int .i64 0,.int .i64 0],k:=5,fs:=[(0,3),(1,3),(2,3),(3,3),(4,3),(5,62),(8,3),(9,3),(10,3)],cmp:=true,ck:=[0,0,0,0,0,0,0,0,0,0,0]}),
 (65,{n:=1,g:=false,by':=8,ok:=true,z:= .un,k:=7,el:=70,len:=4}),
 (66,{n:=1,g:=false,by':=24,ok:=true,z:= .sl (some true) 83 true [],k:=3,el:=69}),
 (67,{n:=1,g:=false,by':=8,ok:=true,z:= .un,k:=6}),
 (69,{n:=83,g:=true,by':=248,ok:=true,z:= .agg [.int .i64 0,.int .i64 0,.int .i64 0,.int .i64 0,.int .i64 0,.int .i64 0,.int .i64 0,.int .u8 0,.int .u8 0,.int .u8 0,.int .u8 0,.int .u8 0,.int .u8 0,.int .u8 0,.int .u8 0,.int .u8 0,.int .u8 0,.int .u8 0,.int .u8 0,.int .u8 0,.int .u8 0,.int .u8 0,.int .u8 0,.int .u8 0,.int .u8 0,.int .u8 0,.int .u8 0,.int .u8 0,.int .u8 0,.int .u8 0,.int .u8 0,.int .u8 0,.int .u8 0,.int .u8 0,.int .u8 0,.int .u8 0,.int .u8 0,.int .u8 0,.int .u8 0,.int .i64 0,.int .i64 0,.int .i64 0,.int .i64 0,.int .i64 0,.int .i64 0,.int .u8 0,.int .u8 0,.int .u8 0,.int .u8 0,.int .u8 0,.int .u8 0,.int .u8 0,.int .u8 0,.int .u8 0,.int .u8 0,.int .u8 0,.int .u8 0,.int .u8 0,.int .u8 0,.int .u8 0,.int .u8 0,.int .u8 0,.int .u8 0,.int .u8 0,.int .u8 0,.int .u8 0,.int .u8 0,.int .u8 0,.int .u8 0,.int .u8 0,.int .u8 0,.int .u8 0,.int .u8 0,.int .u8 0,.int .u8 0,.int .u8 0,.int .u8 0,.int .i64 0,.int .i64 0,.sl (some true) 3 true [],.int .i64 0,.sl (some true) 32 true [],.int .i64 0],k:=5,fs:=[(0,3),(1,3),(2,56),(82,3)]}),
 (70,{n:=2,g:=true,by':=16,ok:=true,z:= .agg [.int .i64 0,.int .i64 0],k:=4,el:=3,len:=2,cmp:=true,ck:=[0,0]}),
 (71,{n:=1,g:=false,by':=8,ok:=true,z:= .un,k:=6}),
 (73,{n:=1,g:=false,by':=8,ok:=true,z:= .un,k:=6}),
 (74,{n:=1,g:=false,by':=24,ok:=true,z:= .sl (some true) 3 true [],k:=3,el:=135}),
 (76,{n:=1,g:=true,by':=24,ok:=true,z:= .agg [.sl (some true) 3 true []],k:=5,fs:=[(0,74)]}),
 (77,{n:=1,g:=false,by':=24,ok:=true,z:= .sl (some true) 35 true [],k:=3,el:=30}),
 (78,{n:=1,g:=false,by':=24,ok:=true,z:= .sl (some true) 4 true [],k:=3,el:=35}),
 (79,{n:=1,g:=false,by':=24,ok:=true,z:= .sl (some true) 1 false [],k:=3,el:=3}),
 (81,{n:=40,g:=true,by':=176,ok:=true,z:= .agg [.int .u8 0,.int .u8 0,.int .u8 0,.int .u8 0,.int .u8 0,.int .u8 0,.int .u8 0,.int .u8 0,.int .u8 0,.int .u8 0,.int .u8 0,.int .u8 0,.int .u8 0,.int .u8 0,.int .u8 0,.int .u8 0,.int .u8 0,.int .u8 0,.int .u8 0,.int .u8 0,.int .u8 0,.int .u8 0,.int .u8 0,.int .u8 0,.int .u8 0,.int .u8 0,.int .u8 0,.int .u8 0,.int .u8 0,.int .u8 0,.int .u8 0,.int .u8 0,.sl (some true) 3 true [],.sl (some true) 35 true [],.int .i64 0,.sl (some true) 4 true [],.sl (some true) 35 true [],.int .i64 0,.sl (some true) 1 false [],.int .i64 0],k:=5,fs:=[(0,28),(32,76),(33,77),(34,3),(35,78),(36,77),(37,3),(38,79),(39,3)]}),
 (82,{n:=1,g:=false,by':=8,ok:=true,z:= .un,k:=6}),
 (84,{n:=1,g:=false,by':=8,ok:=true,z:= .un,k:=6}),
 (85,{n:=1,g:=false,by':=8,ok:=true,z:= .un,k:=6}),
 (87,{n:=1,g:=false,by':=8,ok:=true,z:= .un,k:=6}),
 (88,{n:=1,g:=false,by':=8,ok:=true,z:= .un,k:=6}),
 (89,{n:=1,g:=false,by':=8,ok:=true,z:= .un,k:=6}),
 (90,{n:=1,g:=false,by':=8,ok:=true,z:= .un,k:=6}),
 (92,{n:=1,g:=false,by':=8,ok:=true,z:= .un,k:=6}),
 (93,{n:=1,g:=false,by':=8,ok:=true,z:= .un,k:=6}),
 (94,{n:=1,g:=false,by':=8,ok:=true,z:= .un,k:=6}),
 (96,{n:=1,g:=false,by':=8,ok:=true,z:= .un,k:=6}),
 (97,{n:=1,g:=false,by':=8,ok:=true,z:= .un,k:=6}),
 (98,{n:=1,g:=false,by':=8,ok:=true,z:= .un,k:=6}),
 (99,{n:=1,g:=false,by':=24,ok:=true,z:= .sl (some true) 1 false [],k:=3,el:=5}),
 (101,{n:=1,g:=false,by':=8,ok:=true,z:= .un,k:=6}),
 (103,{n:=1,g:=false,by':=8,ok:=true,z:= .un,k:=6}),
 (104,{n:=1,g:=false,by':=8,ok:=true,z:= .un,k:=6}),
 (105,{n:=1,g:=false,by':=8,ok:=true,z:= .un,k:=6}),
 (106,{n:=1,g:=false,by':=8,ok:=true,z:= .un,k:=6}),
 (107,{n:=1,g:=false,by':=8,ok:=true,z:= .un,k:=6}),
 (108,{n:=1,g:=false,by':=8,ok:=true,z:= .un,k:=6}),
 (110,{n:=3,g:=true,by':=56,ok:=true,z:= .agg [.sl (some true) 1 false [],.int .i64 0,.sl (some true) 1 false []],k:=5,fs:=[(0,79),(1,3),(2,79)]}),
 (112,{n:=5,g:=true,by':=72,ok:=true,z:= .agg [.int .i64 0,.int .i64 0,.sl (some true) 1 false [],.int .i64 0,.sl (some true) 1 false []],k:=5,fs:=[(0,3),(1,3),(2,110)]}),
 (113,{n:=1,g:=false,by':=8,ok:=true,z:= .un,k:=6}),
 (115,{n:=47,g:=true,by':=216,ok:=true,z:= .agg [.int .i64 0,.int .i64 0,.int .i64 0,.int .i64 0,.int .i64 0,.int .i64 0,.sl (some true) 11 true [],.int .i64 0,.int .u8 0,.int .u8 0,.int .u8 0,.int .u8 0,.int .u8 0,.int .u8 0,.int .u8 0,.int .u8 0,.int .u8 0,.int .u8 0,.int .u8 0,.int .u8 0,.int .u8 0,.int .u8 0,.int .u8 0,.int .u8 0,.int .u8 0,.int .u8 0,.int .u8 0,.int .u8 0,.int .u8 0,.int .u8 0,.int .u8 0,.int .u8 0,.int .u8 0,.int .u8 0,.int .u8 0,.int .u8 0,.int .u8 0,.int .u8 0,.int .u8 0,.int .u8 0,.int .i64 0,.int .i64 0,.int .i64 0,.int .i64 0,.sl (some true) 80 true [],.sl (some true) 81 true [],.sl (some true) 5 true []],k:=5,fs:=[(0,25),(6,26),(7,3),(8,30),(43,35)]}),
 (116,{n:=1,g:=false,by':=8,ok:=true,z:= .un,k:=6}),
 (117,{n:=1,g:=false,by':=8,ok:=true,z:= .un,k:=6}),
 (118,{n:=1,g:=false,by':=8,ok:=true,z:= .un,k:=6}),
 (119,{n:=1,g:=false,by':=24,ok:=true,z:= .sl (some true) 1 false [],k:=3,el:=116}),
 (120,{n:=1,g:=false,by':=8,ok:=true,z:= .un,k:=6}),
 (121,{n:=1,g:=false,by':=8,ok:=true,z:= .un,k:=6}),
 (123,{n:=3,g:=true,by':=24,ok:=true,z:= .agg [.int .i64 0,.int .i64 0,.int .i64 0],k:=5,fs:=[(0,3),(1,3),(2,3)],cmp:=true,ck:=[0,0,0]}),
 (124,{n:=1,g:=false,by':=8,ok:=true,z:= .un,k:=6}),
 (126,{n:=1,g:=false,by':=8,ok:=true,z:= .un,k:=6}),
 (127,{n:=1,g:=false,by':=8,ok:=true,z:= .un,k:=6}),
 (128,{n:=1,g:=false,by':=8,ok:=true,z:= .un,k:=6}),
 (129,{n:=1,g:=false,by':=8,ok:=true,z:= .un,k:=6}),
 (130,{n:=1,g:=false,by':=8,ok:=true,z:= .un,k:=6}),
 (131,{n:=1,g:=false,by':=8,ok:=true,z:= .un,k:=6}),
 (132,{n:=1,g:=false,by':=8,ok:=true,z:= .un,k:=6}),
 (133,{n:=1,g:=false,by':=8,ok:=true,z:= .un,k:=6}),
 (135,{n:=3,g:=true,by':=24,ok:=true,z:= .agg [.int .i64 0,.int .i64 0,.int .i64 0],k:=5,fs:=[(0,3),(1,3),(2,3)],cmp:=true,ck:=[0,0,0]}),
 (137,{n:=1,g:=false,by':=8,ok:=true,z:= .un,k:=6}),
 (138,{n:=1,g:=false,by':=8,ok:=true,z:= .un,k:=6}),
 (139,{n:=1,g:=false,by':=8,ok:=true,z:= .un,k:=6}),
 (140,{n:=1,g:=false,by':=8,ok:=true,z:= .un,k:=6}),
 (142,{n:=2,g:=true,by':=16,ok:=true,z:= .agg [.int .i64 0,.int .i64 0],k:=5,fs:=[(0,3),(1,3)],cmp:=true,ck:=[0,0]}),
 (143,{n:=1,g:=false,by':=8,ok:=true,z:= .un,k:=6}),
 (144,{n:=1,g:=false,by':=8,ok:=true,z:= .un,k:=6}),
 (145,{n:=1,g:=false,by':=8,ok:=true,z:= .un,k:=6}),
 (146,{n:=1,g:=false,by':=8,ok:=true,z:= .un,k:=6}),
 (147,{n:=1,g:=false,by':=8,ok:=true,z:= .un,k:=6}),
 (148,{n:=1,g:=false,by':=8,ok:=true,z:= .un,k:=6}),
 (149,{n:=1,g:=false,by':=8,ok:=true,z:= .un,k:=6}),
 (150,{n:=1,g:=false,by':=8,ok:=true,z:= .un,k:=6}),
 (151,{n:=1,g:=false,by':=8,ok:=true,z:= .un,k:=6}),
 (152,{n:=1,g:=false,by':=8,ok:=true,z:= .un,k:=6}),
 (153,{n:=1,g:=false,by':=8,ok:=true,z:= .un,k:=6}),
 (154,{n:=1,g:=false,by':=8,ok:=true,z:= .un,k:=6}),
 (155,{n:=1,g:=false,by':=8,ok:=true,z:= .un,k:=6}),
 (156,{n:=1,g:=false,by':=8,ok:=true,z:= .un,k:=6}),
 (157,{n:=1,g:=false,by':=8,ok:=true,z:= .un,k:=6}),
 (158,{n:=1,g:=false,by':=8,ok:=true,z:= .un,k:=6}),
 (159,{n:=1,g:=false,by':=8,ok:=true,z:= .un,k:=6}),
 (160,{n:=1,g:=false,by':=8,ok:=true,z:= .un,k:=6}),
 (161,{n:=1,g:=false,by':=8,ok:=true,z:= .un,k:=6}),
 (163,{n:=1,g:=false,by':=8,ok:=true,z:= .un,k:=6}),
 (164,{n:=1,g:=false,by':=8,ok:=true,z:= .un,k:=6}),
 (165,{n:=1,g:=false,by':=8,ok:=true,z:= .un,k:=6}),
 (166,{n:=1,g:=false,by':=8,ok:=true,z:= .un,k:=6}),
 (167,{n:=1,g:=false,by':=8,ok:=true,z:= .un,k:=6}),
 (168,{n:=1,g:=false,by':=24,ok:=true,z:= .sl (some true) 4 true [],k:=3,el:=170}),
 (170,{n:=4,g:=true,by':=64,ok:=true,z:= .agg [.int .i64 0,.int .i64 0,.sl (some true) 1 false [],.sl (some true) 4 true []],k:=5,fs:=[(0,3),(1,3),(2,99),(3,168)]}),
 (171,{n:=1,g:=false,by':=8,ok:=true,z:= .un,k:=6}),
 (173,{n:=1,g:=false,by':=8,ok:=true,z:= .un,k:=6}),
 (175,{n:=1,g:=false,by':=8,ok:=true,z:= .un,k:=6}),
 (176,{n:=1,g:=false,by':=8,ok:=true,z:= .un,k:=6}),
 (177,{n:=1,g:=false,by':=8,ok:=true,z:= .un,k:=6}),
 (178,{n:=1,g:=false,by':=8,ok:=true,z:= .un,k:=6}),
 (179,{n:=1,g:=false,by':=8,ok:=true,z:= .un,k:=6}),
 (180,{n:=1,g:=false,by':=8,ok:=true,z:= .un,k:=6}),
 (181,{n:=1,g:=false,by':=8,ok:=true,z:= .un,k:=6}),
 (182,{n:=1,g:=false,by':=24,ok:=true,z:= .sl (some true) 41 true [],k:=3,el:=46}),
 (183,{n:=1,g:=false,by':=8,ok:=true,z:= .un,k:=6}),
 (184,{n:=1,g:=false,by':=8,ok:=true,z:= .un,k:=6}),
 (186,{n:=1,g:=false,by':=8,ok:=true,z:= .un,k:=6}),
 (187,{n:=1,g:=false,by':=8,ok:=true,z:= .un,k:=6}),
 (189,{n:=1,g:=false,by':=8,ok:=true,z:= .un,k:=6}),
 (190,{n:=1,g:=false,by':=8,ok:=true,z:= .un,k:=6}),
 (191,{n:=1,g:=false,by':=8,ok:=true,z:= .un,k:=6}),
 (192,{n:=1,g:=false,by':=8,ok:=true,z:= .un,k:=6}),
 (216,{n:=1,g:=false,by':=8,ok:=true,z:= .int .u64 0,k:=0,ik:= .u64}),
 (218,{n:=1,g:=false,by':=8,ok:=true,z:= .un,k:=6}),
 (223,{n:=1,g:=false,by':=8,ok:=true,z:= .un,k:=6}),
 (224,{n:=1,g:=false,by':=8,ok:=true,z:= .un,k:=6}),
 (225,{n:=1,g:=false,by':=8,ok:=true,z:= .un,k:=6}),
 (227,{n:=2,g:=true,by':=32,ok:=true,z:= .agg [.sl (some true) 1 false [],.int .i64 0],k:=5,fs:=[(0,99),(1,38)]}),
 (228,{n:=1,g:=false,by':=8,ok:=true,z:= .un,k:=6}),
 (229,{n:=1,g:=false,by':=8,ok:=true,z:= .un,k:=6}),
 (231,{n:=2,g:=true,by':=16,ok:=true,z:= .agg [.int .i64 0,.int .i64 0],k:=5,fs:=[(0,3),(1,3)],cmp:=true,ck:=[0,0]}),
 (232,{n:=1,g:=false,by':=24,ok:=true,z:= .sl (some true) 2 true [],k:=3,el:=231}),
 (233,{n:=1,g:=false,by':=8,ok:=true,z:= .un,k:=6}),
 (234,{n:=1,g:=false,by':=8,ok:=true,z:= .un,k:=6}),
 (236,{n:=1,g:=false,by':=8,ok:=true,z:= .un,k:=6}),
 (238,{n:=1,g:=false,by':=8,ok:=true,z:= .un,k:=6}),
 (239,{n:=1,g:=false,by':=8,ok:=true,z:= .un,k:=6}),
 (240,{n:=1,g:=false,by':=8,ok:=true,z:= .un,k:=6}),
 (241,{n:=1,g:=false,by':=8,ok:=true,z:= .un,k:=6}),
 (242,{n:=1,g:=false,by':=8,ok:=true,z:= .un,k:=6}),
 (243,{n:=1,g:=false,by':=24,ok:=true,z:= .sl (some true) 1 false [],k:=3,el:=79}),
 (245,{n:=2,g:=true,by':=48,ok:=true,z:= .agg [.sl (some true) 1 false [],.sl (some true) 1 false []],k:=5,fs:=[(0,79),(1,243)]}),
 (247,{n:=1,g:=false,by':=8,ok:=true,z:= .un,k:=6}),
 (248,{n:=1,g:=false,by':=8,ok:=true,z:= .un,k:=6}),
 (249,{n:=1,g:=false,by':=8,ok:=true,z:= .un,k:=6}),
 (250,{n:=1,g:=false,by':=8,ok:=true,z:= .un,k:=6}),
 (251,{n:=1,g:=false,by':=8,ok:=true,z:= .un,k:=6}),
 (252,{n:=1,g:=false,by':=8,ok:=true,z:= .un,k:=6}),
 (253,{n:=1,g:=false,by':=8,ok:=true,z:= .un,k:=6}),
 (254,{n:=1,g:=false,by':=8,ok:=true,z:= .un,k:=6}),
 (256,{n:=1,g:=false,by':=8,ok:=true,z:= .un,k:=6}),
 (269,{n:=1,g:=false,by':=8,ok:=true,z:= .int .u64 0,k:=0,ik:= .u64}),
 (282,{n:=1,g:=false,by':=8,ok:=true,z:= .un,k:=6}),
 (285,{n:=1,g:=false,by':=16,ok:=true,z:= .un,k:=8}),
 (286,{n:=1,g:=false,by':=16,ok:=true,z:= .un,k:=8}),
 (287,{n:=1,g:=false,by':=8,ok:=true,z:= .un,k:=6}),
 (288,{n:=1,g:=false,by':=8,ok:=true,z:= .un,k:=6}),
 (289,{n:=1,g:=false,by':=8,ok:=true,z:= .un,k:=6}),
 (290,{n:=1,g:=false,by':=8,ok:=true,z:= .un,k:=6}),
 (291,{n:=1,g:=false,by':=8,ok:=true,z:= .un,k:=6}),
 (292,{n:=1,g:=false,by':=8,ok:=true,z:= .un,k:=6}),
 (293,{n:=1,g:=false,by':=8,ok:=true,z:= .un,k:=6}),
 (294,{n:=1,g:=false,by':=8,ok:=true,z:= .un,k:=6}),
 (295,{n:=1,g:=false,by':=8,ok:=true,z:= .un,k:=6}),
 (296,{n:=1,g:=false,by':=8,ok:=true,z:= .un,k:=6}),
 (297,{n:=1,g:=false,by':=8,ok:=true,z:= .un,k:=6}),
 (298,{n:=1,g:=false,by':=8,ok:=true,z:= .un,k:=6}),
 (299,{n:=1,g:=false,by':=8,ok:=true,z:= .un,k:=6}),
 (300,{n:=1,g:=false,by':=8,ok:=true,z:= .un,k:=6}),
 (301,{n:=1,g:=false,by':=8,ok:=true,z:= .un,k:=6}),
 (302,{n:=1,g:=false,by':=8,ok:=true,z:= .un,k:=6}),
 (303,{n:=1,g:=false,by':=8,ok:=true,z:= .un,k:=6}),
 (304,{n:=1,g:=false,by':=8,ok:=true,z:= .un,k:=6}),
 (305,{n:=1,g:=false,by':=8,ok:=true,z:= .un,k:=6}),
 (306,{n:=1,g:=false,by':=8,ok:=true,z:= .un,k:=6}),
 (307,{n:=12,g:=true,by':=96,ok:=true,z:= .agg [.int .u64 0,.int .u64 0,.int .u64 0,.int .u64 0,.int .u64 0,.int .u64 0,.int .u64 0,.int .u64 0,.int .u64 0,.int .u64 0,.int .u64 0,.int .u64 0],k:=4,el:=269,len:=12,cmp:=true,ck:=[0,0,0,0,0,0,0,0,0,0,0,0]}),
 (308,{n:=1,g:=false,by':=8,ok:=true,z:= .un,k:=6}),
 (309,{n:=1,g:=false,by':=8,ok:=true,z:= .un,k:=6}),
 (310,{n:=1,g:=false,by':=8,ok:=true,z:= .un,k:=6}),
 (311,{n:=1,g:=false,by':=8,ok:=true,z:= .un,k:=6}),
 (312,{n:=1,g:=false,by':=8,ok:=true,z:= .un,k:=6}),
 (313,{n:=1,g:=false,by':=8,ok:=true,z:= .un,k:=6}),
 (314,{n:=1,g:=false,by':=8,ok:=true,z:= .un,k:=6}),
 (315,{n:=1,g:=false,by':=8,ok:=true,z:= .un,k:=6}),
 (316,{n:=1,g:=false,by':=8,ok:=true,z:= .un,k:=6}),
 (317,{n:=1,g:=false,by':=8,ok:=true,z:= .un,k:=6}),
 (318,{n:=1,g:=false,by':=24,ok:=true,z:= .sl (some true) 1 false [],k:=3,el:=52}),
 (320,{n:=1,g:=false,by':=8,ok:=true,z:= .un,k:=6}),
 (323,{n:=1,g:=false,by':=4,ok:=true,z:= .int .u32 0,k:=0,ik:= .u32}),
 (324,{n:=8,g:=true,by':=32,ok:=true,z:= .agg [.int .u32 0,.int .u32 0,.int .u32 0,.int .u32 0,.int .u32 0,.int .u32 0,.int .u32 0,.int .u32 0],k:=4,el:=323,len:=8,cmp:=true,ck:=[0,0,0,0,0,0,0,0]}),
 (326,{n:=1,g:=false,by':=8,ok:=true,z:= .un,k:=6}),
 (332,{n:=33,g:=true,by':=40,ok:=true,z:= .agg [.int .u8 0,.int .u8 0,.int .u8 0,.int .u8 0,.int .u8 0,.int .u8 0,.int .u8 0,.int .u8 0,.int .u8 0,.int .u8 0,.int .u8 0,.int .u8 0,.int .u8 0,.int .u8 0,.int .u8 0,.int .u8 0,.int .u8 0,.int .u8 0,.int .u8 0,.int .u8 0,.int .u8 0,.int .u8 0,.int .u8 0,.int .u8 0,.int .u8 0,.int .u8 0,.int .u8 0,.int .u8 0,.int .u8 0,.int .u8 0,.int .u8 0,.int .u8 0,.int .i64 0],k:=5,fs:=[(0,28),(32,3)],cmp:=true,ck:=[0,0,0,0,0,0,0,0,0,0,0,0,0,0,0,0,0,0,0,0,0,0,0,0,0,0,0,0,0,0,0,0,0]}),
 (336,{n:=1,g:=false,by':=8,ok:=true,z:= .un,k:=6}),
 (338,{n:=1,g:=false,by':=8,ok:=true,z:= .un,k:=6}),
 (339,{n:=1,g:=false,by':=8,ok:=true,z:= .un,k:=6}),
 (340,{n:=1,g:=false,by':=24,ok:=true,z:= .sl (some true) 1 false [],k:=3,el:=323}),
 (341,{n:=1,g:=false,by':=8,ok:=true,z:= .un,k:=6}),
 (342,{n:=1,g:=false,by':=8,ok:=true,z:= .un,k:=6}),
 (343,{n:=1,g:=false,by':=8,ok:=true,z:= .un,k:=6}),
 (344,{n:=1,g:=false,by':=8,ok:=true,z:= .un,k:=6}),
 (345,{n:=1,g:=false,by':=8,ok:=true,z:= .un,k:=6}),
 (346,{n:=1,g:=false,by':=8,ok:=true,z:= .un,k:=6}),
 (347,{n:=1,g:=false,by':=8,ok:=true,z:= .un,k:=6}),
 (349,{n:=1,g:=false,by':=8,ok:=true,z:= .un,k:=6}),
 (351,{n:=1,g:=false,by':=8,ok:=true,z:= .un,k:=6}),
 (352,{n:=1,g:=false,by':=8,ok:=true,z:= .un,k:=6}),
 (353,{n:=64,g:=true,by':=64,ok:=true,z:= .agg [.int .u8 0,.int .u8 0,.int .u8 0,.int .u8 0,.int .u8 0,.int .u8 0,.int .u8 0,.int .u8 0,.int .u8 0,.int .u8 0,.int .u8 0,.int .u8 0,.int .u8 0,.int .u8 0,.int .u8 0,.int .u8 0,.int .u8 0,.int .u8 0,.int .u8 0,.int .u8 0,.int .u8 0,.int .u8 0,.int .u8 0,.int .u8 0,.int .u8 0,.int .u8 0,.int .u8 0,.int .u8 0,.int .u8 0,.int .u8 0,.int .u8 0,.int .u8 0,.int .u8 0,.int .u8 0,.int .u8 0,.int .u8 0,.int .u8 0,.int .u8 0,.int .u8 0,.int .u8 0,.int .u8 0,.int .u8 0,.int .u8 0,.int .u8 0,.int .u8 0,.int .u8 0,.int .u8 0,.int .u8 0,.int .u8 0,.int .u8 0,.int .u8 0,.int .u8 0,.int .u8 0,.int .u8 0,.int .u8 0,.int .u8 0,.int .u8 0,.int .u8 0,.int .u8 0,.int .u8 0,.int .u8 0,.int .u8 0,.int .u8 0,.int .u8 0],k:=4,el:=5,len:=64,cmp:=true,ck:=[0,0,0,0,0,0,0,0,0,0,0,0,0,0,0,0,0,0,0,0,0,0,0,0,0,0,0,0,0,0,0,0,0,0,0,0,0,0,0,0,0,0,0,0,0,0,0,0,0,0,0,0,0,0,0,0,0,0,0,0,0,0,0,0]}),
 (354,{n:=1,g:=false,by':=8,ok:=true,z:= .un,k:=6}),
 (356,{n:=1,g:=false,by':=8,ok:=true,z:= .un,k:=6}),
 (357,{n:=1,g:=false,by':=8,ok:=true,z:= .un,k:=6}),
 (358,{n:=1,g:=false,by':=8,ok:=true,z:= .un,k:=6}),
 (359,{n:=1,g:=false,by':=8,ok:=true,z:= .un,k:=6}),
 (361,{n:=1,g:=true,by':=24,ok:=true,z:= .agg [.sl (some true) 4 true []],k:=5,fs:=[(0,168)]}),
 (362,{n:=1,g:=false,by':=8,ok:=true,z:= .un,k:=6}),
 (363,{n:=1,g:=false,by':=8,ok:=true,z:= .un,k:=6}),
 (364,{n:=1,g:=false,by':=8,ok:=true,z:= .un,k:=6}),
 (365,{n:=1,g:=false,by':=8,ok:=true,z:= .un,k:=6}),
 (366,{n:=1,g:=false,by':=8,ok:=true,z:= .un,k:=6}),
 (367,{n:=1,g:=false,by':=8,ok:=true,z:= .un,k:=6}),
 (368,{n:=64,g:=true,by':=256,ok:=true,z:= .agg [.int .u32 0,.int .u32 0,.int .u32 0,.int .u32 0,.int .u32 0,.int .u32 0,.int .u32 0,.int .u32 0,.int .u32 0,.int .u32 0,.int .u32 0,.int .u32 0,.int .u32 0,.int .u32 0,.int .u32 0,.int .u32 0,.int .u32 0,.int .u32 0,.int .u32 0,.int .u32 0,.int .u32 0,.int .u32 0,.int .u32 0,.int .u32 0,.int .u32 0,.int .u32 0,.int .u32 0,.int .u32 0,.int .u32 0,.int .u32 0,.int .u32 0,.int .u32 0,.int .u32 0,.int .u32 0,.int .u32 0,.int .u32 0,.int .u32 0,.int .u32 0,.int .u32 0,.int .u32 0,.int .u32 0,.int .u32 0,.int .u32 0,.int .u32 0,.int .u32 0,.int .u32 0,.int .u32 0,.int .u32 0,.int .u32 0,.int .u32 0,.int .u32 0,.int .u32 0,.int .u32 0,.int .u32 0,.int .u32 0,.int .u32 0,.int .u32 0,.int .u32 0,.int .u32 0,.int .u32 0,.int .u32 0,.int .u32 0,.int .u32 0,.int .u32 0],k:=4,el:=323,len:=64,cmp:=true,ck:=[0,0,0,0,0,0,0,0,0,0,0,0,0,0,0,0,0,0,0,0,0,0,0,0,0,0,0,0,0,0,0,0,0,0,0,0,0,0,0,0,0,0,0,0,0,0,0,0,0,0,0,0,0,0,0,0,0,0,0,0,0,0,0,0]}),
 (370,{n:=1,g:=false,by':=8,ok:=true,z:= .un,k:=6}),
 (379,{n:=1,g:=false,by':=8,ok:=true,z:= .un,k:=6}),
 (380,{n:=1,g:=false,by':=8,ok:=true,z:= .un,k:=6}),
 (381,{n:=1,g:=false,by':=8,ok:=true,z:= .un,k:=6}),
 (382,{n:=1,g:=false,by':=8,ok:=true,z:= .un,k:=6}),
 (383,{n:=1,g:=false,by':=8,ok:=true,z:= .un,k:=6}),
 (384,{n:=1,g:=false,by':=8,ok:=true,z:= .un,k:=6}),
 (386,{n:=1,g:=false,by':=8,ok:=true,z:= .un,k:=6}),
 (387,{n:=1,g:=false,by':=8,ok:=true,z:= .un,k:=6}),
 (388,{n:=1,g:=false,by':=24,ok:=true,z:= .sl (some true) 1 false [],k:=3,el:=99}),
 (389,{n:=1,g:=false,by':=8,ok:=true,z:= .un,k:=6}),
 (390,{n:=1,g:=false,by':=8,ok:=true,z:= .un,k:=6}),
 (391,{n:=1,g:=false,by':=8,ok:=true,z:= .un,k:=6}),
 (393,{n:=1,g:=false,by':=8,ok:=true,z:= .un,k:=6}),
 (398,{n:=1,g:=false,by':=8,ok:=true,z:= .un,k:=6}),
 (399,{n:=1,g:=false,by':=8,ok:=true,z:= .un,k:=6}),
 (400,{n:=1,g:=false,by':=8,ok:=true,z:= .un,k:=6}),
 (410,{n:=1,g:=false,by':=8,ok:=true,z:= .un,k:=6})]
noncomputable def En:Env:={P:=Tryz.prog,tb:=kE tbl,gv:=fun g=>if g=0 then some (.pp 12 true (.agg (cT.map (V.int .u64)))) else if g=1 then some (.pp 8 true (.agg [.int .u32 1779033703,.int .u32 3144134277,.int .u32 1013904242,.int .u32 2773480762,.int .u32 1359893119,.int .u32 2600822924,.int .u32 528734635,.int .u32 1541459225])) else if g=2 then some (.pp 64 true (.agg (jH.map (V.int .u8)))) else if g=3 then some (.pp 64 true (.agg (kR.map (V.int .u32)))) else none}
@[go_sem] theorem gv0:En.gv 0=some (.pp 12 true (.agg (cT.map (V.int .u64)))):=Eq.trans rfl rfl
@[go_sem] theorem gv1:En.gv 1=some (.pp 8 true (.agg [.int .u32 1779033703,.int .u32 3144134277,.int .u32 1013904242,.int .u32 2773480762,.int .u32 1359893119,.int .u32 2600822924,.int .u32 528734635,.int .u32 1541459225])):=Eq.trans rfl rfl
@[go_sem] theorem gv2:En.gv 2=some (.pp 64 true (.agg (jH.map (V.int .u8)))):=Eq.trans rfl rfl
@[go_sem] theorem gv3:En.gv 3=some (.pp 64 true (.agg (kR.map (V.int .u32)))):=Eq.trans rfl rfl
set_option maxRecDepth 100000
theorem Gd:xN Tryz.prog tbl=true:=by kernel_rfl
theorem al:bl En:=⟨fun _ h=>tOk (l:=tbl) Gd h⟩
theorem ar:En.P.follows .mixedOrders=true:=by kernel_rfl
@[go_sem] theorem tb1:En.tb 1={n:=1,g:=false,by':=8,ok:=true,z:= .un,k:=6}:=rfl
@[go_sem] theorem tb2:En.tb 2={n:=1,g:=false,by':=8,ok:=true,z:= .int .i64 0,k:=0,ik:= .i64}:=rfl
@[go_sem] theorem tb3:En.tb 3={n:=1,g:=false,by':=8,ok:=true,z:= .int .i64 0,k:=0,ik:= .i64}:=rfl
@[go_sem] theorem tb4:En.tb 4={n:=1,g:=false,by':=1,ok:=true,z:= .bool false,k:=1}:=rfl
@[go_sem] theorem tb5:En.tb 5={n:=1,g:=false,by':=1,ok:=true,z:= .int .u8 0,k:=0,ik:= .u8}:=rfl
@[go_sem] theorem tb9:En.tb 9={n:=1,g:=false,by':=16,ok:=true,z:= .str [],k:=2}:=rfl
@[go_sem] theorem tb12:En.tb 12={n:=1,g:=false,by':=8,ok:=true,z:= .int .u64 0,k:=0,ik:= .u64}:=rfl
@[go_sem] theorem tb15:En.tb 15={n:=1,g:=false,by':=8,ok:=true,z:= .un,k:=6}:=rfl
@[go_sem] theorem tb16:En.tb 16={n:=1,g:=false,by':=8,ok:=true,z:= .un,k:=6}:=rfl
@[go_sem] theorem tb17:En.tb 17={n:=1,g:=false,by':=8,ok:=true,z:= .un,k:=6}:=rfl
@[go_sem] theorem tb20:En.tb 20={n:=1,g:=false,by':=16,ok:=true,z:= .un,k:=8}:=rfl
@[go_sem] theorem tb21:En.tb 21={n:=1,g:=false,by':=4,ok:=true,z:= .int .i32 0,k:=0,ik:= .i32}:=rfl
@[go_sem] theorem ql:En.tb 23={n:=3,g:=true,by':=24,ok:=true,z:= .agg [.int .i64 0,.int .i64 0,.int .i64 0],k:=5,fs:=[(0,3),(1,3),(2,3)],cmp:=true,ck:=[0,0,0]}:=rfl
@[go_sem] theorem mi:En.tb 25={n:=6,g:=true,by':=48,ok:=true,z:= .agg [.int .i64 0,.int .i64 0,.int .i64 0,.int .i64 0,.int .i64 0,.int .i64 0],k:=5,fs:=[(0,23),(3,3),(4,3),(5,3)],cmp:=true,ck:=[0,0,0,0,0,0]}:=rfl
@[go_sem] theorem mj:En.tb 26={n:=1,g:=false,by':=24,ok:=true,z:= .sl (some true) 11 true [],k:=3,el:=64}:=rfl
@[go_sem] theorem tb27:En.tb 27={n:=32,g:=true,by':=32,ok:=true,z:= .agg [.int .u8 0,.int .u8 0,.int .u8 0,.int .u8 0,.int .u8 0,.int .u8 0,.int .u8 0,.int .u8 0,.int .u8 0,.int .u8 0,.int .u8 0,.int .u8 0,.int .u8 0,.int .u8 0,.int .u8 0,.int .u8 0,.int .u8 0,.int .u8 0,.int .u8 0,.int .u8 0,.int .u8 0,.int .u8 0,.int .u8 0,.int .u8 0,.int .u8 0,.int .u8 0,.int .u8 0,.int .u8 0,.int .u8 0,.int .u8 0,.int .u8 0,.int .u8 0],k:=4,el:=5,len:=32,cmp:=true,ck:=[0,0,0,0,0,0,0,0,0,0,0,0,0,0,0,0,0,0,0,0,0,0,0,0,0,0,0,0,0,0,0,0]}:=rfl
@[go_sem] theorem ml:En.tb 28={n:=32,g:=true,by':=32,ok:=true,z:= .agg [.int .u8 0,.int .u8 0,.int .u8 0,.int .u8 0,.int .u8 0,.int .u8 0,.int .u8 0,.int .u8 0,.int .u8 0,.int .u8 0,.int .u8 0,.int .u8 0,.int .u8 0,.int .u8 0,.int .u8 0,.int .u8 0,.int .u8 0,.int .u8 0,.int .u8 0,.int .u8 0,.int .u8 0,.int .u8 0,.int .u8 0,.int .u8 0,.int .u8 0,.int .u8 0,.int .u8 0,.int .u8 0,.int .u8 0,.int .u8 0,.int .u8 0,.int .u8 0],k:=4,el:=5,len:=32,cmp:=true,ck:=[0,0,0,0,0,0,0,0,0,0,0,0,0,0,0,0,0,0,0,0,0,0,0,0,0,0,0,0,0,0,0,0]}:=rfl
@[go_sem] theorem mm:En.tb 30={n:=35,g:=true,by':=56,ok:=true,z:= .agg [.int .u8 0,.int .u8 0,.int .u8 0,.int .u8 0,.int .u8 0,.int .u8 0,.int .u8 0,.int .u8 0,.int .u8 0,.int .u8 0,.int .u8 0,.int .u8 0,.int .u8 0,.int .u8 0,.int .u8 0,.int .u8 0,.int .u8 0,.int .u8 0,.int .u8 0,.int .u8 0,.int .u8 0,.int .u8 0,.int .u8 0,.int .u8 0,.int .u8 0,.int .u8 0,.int .u8 0,.int .u8 0,.int .u8 0,.int .u8 0,.int .u8 0,.int .u8 0,.int .i64 0,.int .i64 0,.int .i64 0],k:=5,fs:=[(0,28),(32,3),(33,3),(34,3)],cmp:=true,ck:=[0,0,0,0,0,0,0,0,0,0,0,0,0,0,0,0,0,0,0,0,0,0,0,0,0,0,0,0,0,0,0,0,0,0,0]}:=rfl
@[go_sem] theorem qm:En.tb 31={n:=1,g:=false,by':=24,ok:=true,z:= .sl (some true) 80 true [],k:=3,el:=56}:=rfl
@[go_sem] theorem qn:En.tb 32={n:=1,g:=false,by':=24,ok:=true,z:= .sl (some true) 81 true [],k:=3,el:=58}:=rfl
@[go_sem] theorem qo:En.tb 33={n:=1,g:=false,by':=24,ok:=true,z:= .sl (some true) 5 true [],k:=3,el:=112}:=rfl
@[go_sem] theorem mn:En.tb 35={n:=4,g:=true,by':=80,ok:=true,z:= .agg [.int .i64 0,.sl (some true) 80 true [],.sl (some true) 81 true [],.sl (some true) 5 true []],k:=5,fs:=[(0,3),(1,31),(2,32),(3,33)]}:=rfl
@[go_sem] theorem tb36:En.tb 36={n:=1,g:=false,by':=8,ok:=true,z:= .un,k:=6}:=rfl
@[go_sem] theorem tb37:En.tb 37={n:=1,g:=false,by':=8,ok:=true,z:= .un,k:=6}:=rfl
@[go_sem] theorem tb38:En.tb 38={n:=1,g:=false,by':=8,ok:=true,z:= .int .i64 0,k:=0,ik:= .i64}:=rfl
@[go_sem] theorem tb40:En.tb 40={n:=1,g:=false,by':=8,ok:=true,z:= .un,k:=6}:=rfl
@[go_sem] theorem tb41:En.tb 41={n:=1,g:=false,by':=8,ok:=true,z:= .un,k:=6}:=rfl
@[go_sem] theorem tb42:En.tb 42={n:=1,g:=false,by':=8,ok:=true,z:= .un,k:=6}:=rfl
@[go_sem] theorem qp:En.tb 44={n:=4,g:=true,by':=32,ok:=true,z:= .agg [.int .i64 0,.int .i64 0,.int .i64 0,.int .i64 0],k:=5,fs:=[(0,3),(1,3),(2,3),(3,3)],cmp:=true,ck:=[0,0,0,0]}:=rfl
@[go_sem] theorem qq:En.tb 46={n:=41,g:=true,by':=104,ok:=true,z:= .agg [.int .i64 0,.int .i64 0,.int .i64 0,.int .i64 0,.int .i64 0,.int .u8 0,.int .u8 0,.int .u8 0,.int .u8 0,.int .u8 0,.int .u8 0,.int .u8 0,.int .u8 0,.int .u8 0,.int .u8 0,.int .u8 0,.int .u8 0,.int .u8 0,.int .u8 0,.int .u8 0,.int .u8 0,.int .u8 0,.int .u8 0,.int .u8 0,.int .u8 0,.int .u8 0,.int .u8 0,.int .u8 0,.int .u8 0,.int .u8 0,.int .u8 0,.int .u8 0,.int .u8 0,.int .u8 0,.int .u8 0,.int .u8 0,.int .u8 0,.int .i64 0,.int .i64 0,.int .i64 0,.int .i64 0],k:=5,fs:=[(0,3),(1,3),(2,3),(3,3),(4,3),(5,28),(37,44)],cmp:=true,ck:=[0,0,0,0,0,0,0,0,0,0,0,0,0,0,0,0,0,0,0,0,0,0,0,0,0,0,0,0,0,0,0,0,0,0,0,0,0,0,0,0,0]}:=rfl
@[go_sem] theorem qr:En.tb 48={n:=2,g:=true,by':=16,ok:=true,z:= .agg [.int .i64 0,.int .i64 0],k:=5,fs:=[(0,3),(1,3)],cmp:=true,ck:=[0,0]}:=rfl
@[go_sem] theorem qt:En.tb 50={n:=34,g:=true,by':=48,ok:=true,z:= .agg [.int .u8 0,.int .u8 0,.int .u8 0,.int .u8 0,.int .u8 0,.int .u8 0,.int .u8 0,.int .u8 0,.int .u8 0,.int .u8 0,.int .u8 0,.int .u8 0,.int .u8 0,.int .u8 0,.int .u8 0,.int .u8 0,.int .u8 0,.int .u8 0,.int .u8 0,.int .u8 0,.int .u8 0,.int .u8 0,.int .u8 0,.int .u8 0,.int .u8 0,.int .u8 0,.int .u8 0,.int .u8 0,.int .u8 0,.int .u8 0,.int .u8 0,.int .u8 0,.int .i64 0,.int .i64 0],k:=5,fs:=[(0,28),(32,3),(33,3)],cmp:=true,ck:=[0,0,0,0,0,0,0,0,0,0,0,0,0,0,0,0,0,0,0,0,0,0,0,0,0,0,0,0,0,0,0,0,0,0]}:=rfl
@[go_sem] theorem qu:En.tb 51={n:=1,g:=false,by':=24,ok:=true,z:= .sl (some true) 3 true [],k:=3,el:=123}:=rfl
@[go_sem] theorem qv:En.tb 52={n:=1,g:=false,by':=24,ok:=true,z:= .sl (some true) 32 true [],k:=3,el:=28}:=rfl
@[go_sem] theorem qw:En.tb 54={n:=2,g:=true,by':=32,ok:=true,z:= .agg [.int .i64 0,.sl (some true) 32 true []],k:=5,fs:=[(0,3),(1,52)]}:=rfl
@[go_sem] theorem nI:En.tb 56={n:=80,g:=true,by':=224,ok:=true,z:= .agg [.int .i64 0,.int .i64 0,.int .i64 0,.int .i64 0,.int .i64 0,.int .u8 0,.int .u8 0,.int .u8 0,.int .u8 0,.int .u8 0,.int .u8 0,.int .u8 0,.int .u8 0,.int .u8 0,.int .u8 0,.int .u8 0,.int .u8 0,.int .u8 0,.int .u8 0,.int .u8 0,.int .u8 0,.int .u8 0,.int .u8 0,.int .u8 0,.int .u8 0,.int .u8 0,.int .u8 0,.int .u8 0,.int .u8 0,.int .u8 0,.int .u8 0,.int .u8 0,.int .u8 0,.int .u8 0,.int .u8 0,.int .u8 0,.int .u8 0,.int .i64 0,.int .i64 0,.int .i64 0,.int .i64 0,.int .i64 0,.int .i64 0,.int .u8 0,.int .u8 0,.int .u8 0,.int .u8 0,.int .u8 0,.int .u8 0,.int .u8 0,.int .u8 0,.int .u8 0,.int .u8 0,.int .u8 0,.int .u8 0,.int .u8 0,.int .u8 0,.int .u8 0,.int .u8 0,.int .u8 0,.int .u8 0,.int .u8 0,.int .u8 0,.int .u8 0,.int .u8 0,.int .u8 0,.int .u8 0,.int .u8 0,.int .u8 0,.int .u8 0,.int .u8 0,.int .u8 0,.int .u8 0,.int .u8 0,.int .u8 0,.int .i64 0,.int .i64 0,.sl (some true) 3 true [],.int .i64 0,.sl (some true) 32 true []],k:=5,fs:=[(0,46),(41,48),(43,50),(77,51),(78,54)]}:=rfl
@[go_sem] theorem nJ:En.tb 58={n:=81,g:=true,by':=248,ok:=true,z:= .agg [.int .i64 0,.int .i64 0,.int .i64 0,.int .i64 0,.int .i64 0,.int .u8 0,.int .u8 0,.int .u8 0,.int .u8 0,.int .u8 0,.int .u8 0,.int .u8 0,.int .u8 0,.int .u8 0,.int .u8 0,.int .u8 0,.int .u8 0,.int .u8 0,.int .u8 0,.int .u8 0,.int .u8 0,.int .u8 0,.int .u8 0,.int .u8 0,.int .u8 0,.int .u8 0,.int .u8 0,.int .u8 0,.int .u8 0,.int .u8 0,.int .u8 0,.int .u8 0,.int .u8 0,.int .u8 0,.int .u8 0,.int .u8 0,.int .u8 0,.int .i64 0,.int .i64 0,.int .i64 0,.int .i64 0,.int .i64 0,.int .i64 0,.int .u8 0,.int .u8 0,.int .u8 0,.int .u8 0,.int .u8 0,.int .u8 0,.int .u8 0,.int .u8 0,.int .u8 0,.int .u8 0,.int .u8 0,.int .u8 0,.int .u8 0,.int .u8 0,.int .u8 0,.int .u8 0,.int .u8 0,.int .u8 0,.int .u8 0,.int .u8 0,.int .u8 0,.int .u8 0,.int .u8 0,.int .u8 0,.int .u8 0,.int .u8 0,.int .u8 0,.int .u8 0,.int .u8 0,.int .u8 0,.int .u8 0,.int .u8 0,.int .i64 0,.int .i64 0,.sl (some true) 3 true [],.int .i64 0,.sl (some true) 32 true [],.sl (some true) 80 true []],k:=5,fs:=[(0,56),(80,31)]}:=rfl
@[go_sem] theorem tb59:En.tb 59={n:=1,g:=false,by':=8,ok:=true,z:= .un,k:=6}:=rfl
@[go_sem] theorem tb60:En.tb 60={n:=1,g:=false,by':=8,ok:=true,z:= .un,k:=6}:=rfl
@[go_sem] theorem qx:En.tb 62={n:=3,g:=true,by':=24,ok:=true,z:= .agg [.int .i64 0,.int .i64 0,.int .i64 0],k:=5,fs:=[(0,3),(1,3),(2,3)],cmp:=true,ck:=[0,0,0]}:=rfl
@[go_sem] theorem nK:En.tb 64={n:=11,g:=true,by':=88,ok:=true,z:= .agg [.int .i64 0,.int .i64 0,.int .i64 0,.int .i64 0,.int .i64 0,.int .i64 0,.int .i64 0,.int .i64 0,.int .i64 0,.int .i64 0,.int .i64 0],k:=5,fs:=[(0,3),(1,3),(2,3),(3,3),(4,3),(5,62),(8,3),(9,3),(10,3)],cmp:=true,ck:=[0,0,0,0,0,0,0,0,0,0,0]}:=rfl
@[go_sem] theorem tb65:En.tb 65={n:=1,g:=false,by':=8,ok:=true,z:= .un,k:=7,el:=70,len:=4}:=rfl
@[go_sem] theorem tb66:En.tb 66={n:=1,g:=false,by':=24,ok:=true,z:= .sl (some true) 83 true [],k:=3,el:=69}:=rfl
@[go_sem] theorem tb67:En.tb 67={n:=1,g:=false,by':=8,ok:=true,z:= .un,k:=6}:=rfl
@[go_sem] theorem tb69:En.tb 69={n:=83,g:=true,by':=248,ok:=true,z:= .agg [.int .i64 0,.int .i64 0,.int .i64 0,.int .i64 0,.int .i64 0,.int .i64 0,.int .i64 0,.int .u8 0,.int .u8 0,.int .u8 0,.int .u8 0,.int .u8 0,.int .u8 0,.int .u8 0,.int .u8 0,.int .u8 0,.int .u8 0,.int .u8 0,.int .u8 0,.int .u8 0,.int .u8 0,.int .u8 0,.int .u8 0,.int .u8 0,.int .u8 0,.int .u8 0,.int .u8 0,.int .u8 0,.int .u8 0,.int .u8 0,.int .u8 0,.int .u8 0,.int .u8 0,.int .u8 0,.int .u8 0,.int .u8 0,.int .u8 0,.int .u8 0,.int .u8 0,.int .i64 0,.int .i64 0,.int .i64 0,.int .i64 0,.int .i64 0,.int .i64 0,.int .u8 0,.int .u8 0,.int .u8 0,.int .u8 0,.int .u8 0,.int .u8 0,.int .u8 0,.int .u8 0,.int .u8 0,.int .u8 0,.int .u8 0,.int .u8 0,.int .u8 0,.int .u8 0,.int .u8 0,.int .u8 0,.int .u8 0,.int .u8 0,.int .u8 0,.int .u8 0,.int .u8 0,.int .u8 0,.int .u8 0,.int .u8 0,.int .u8 0,.int .u8 0,.int .u8 0,.int .u8 0,.int .u8 0,.int .u8 0,.int .u8 0,.int .u8 0,.int .i64 0,.int .i64 0,.sl (some true) 3 true [],.int .i64 0,.sl (some true) 32 true [],.int .i64 0],k:=5,fs:=[(0,3),(1,3),(2,56),(82,3)]}:=rfl
@[go_sem] theorem tb70:En.tb 70={n:=2,g:=true,by':=16,ok:=true,z:= .agg [.int .i64 0,.int .i64 0],k:=4,el:=3,len:=2,cmp:=true,ck:=[0,0]}:=rfl
@[go_sem] theorem tb71:En.tb 71={n:=1,g:=false,by':=8,ok:=true,z:= .un,k:=6}:=rfl
@[go_sem] theorem tb73:En.tb 73={n:=1,g:=false,by':=8,ok:=true,z:= .un,k:=6}:=rfl
@[go_sem] theorem tb74:En.tb 74={n:=1,g:=false,by':=24,ok:=true,z:= .sl (some true) 3 true [],k:=3,el:=135}:=rfl
@[go_sem] theorem tb76:En.tb 76={n:=1,g:=true,by':=24,ok:=true,z:= .agg [.sl (some true) 3 true []],k:=5,fs:=[(0,74)]}:=rfl
@[go_sem] theorem tb77:En.tb 77={n:=1,g:=false,by':=24,ok:=true,z:= .sl (some true) 35 true [],k:=3,el:=30}:=rfl
@[go_sem] theorem tb78:En.tb 78={n:=1,g:=false,by':=24,ok:=true,z:= .sl (some true) 4 true [],k:=3,el:=35}:=rfl
@[go_sem] theorem qy:En.tb 79={n:=1,g:=false,by':=24,ok:=true,z:= .sl (some true) 1 false [],k:=3,el:=3}:=rfl
@[go_sem] theorem tb81:En.tb 81={n:=40,g:=true,by':=176,ok:=true,z:= .agg [.int .u8 0,.int .u8 0,.int .u8 0,.int .u8 0,.int .u8 0,.int .u8 0,.int .u8 0,.int .u8 0,.int .u8 0,.int .u8 0,.int .u8 0,.int .u8 0,.int .u8 0,.int .u8 0,.int .u8 0,.int .u8 0,.int .u8 0,.int .u8 0,.int .u8 0,.int .u8 0,.int .u8 0,.int .u8 0,.int .u8 0,.int .u8 0,.int .u8 0,.int .u8 0,.int .u8 0,.int .u8 0,.int .u8 0,.int .u8 0,.int .u8 0,.int .u8 0,.sl (some true) 3 true [],.sl (some true) 35 true [],.int .i64 0,.sl (some true) 4 true [],.sl (some true) 35 true [],.int .i64 0,.sl (some true) 1 false [],.int .i64 0],k:=5,fs:=[(0,28),(32,76),(33,77),(34,3),(35,78),(36,77),(37,3),(38,79),(39,3)]}:=rfl
@[go_sem] theorem tb82:En.tb 82={n:=1,g:=false,by':=8,ok:=true,z:= .un,k:=6}:=rfl
@[go_sem] theorem tb84:En.tb 84={n:=1,g:=false,by':=8,ok:=true,z:= .un,k:=6}:=rfl
@[go_sem] theorem tb85:En.tb 85={n:=1,g:=false,by':=8,ok:=true,z:= .un,k:=6}:=rfl
@[go_sem] theorem tb87:En.tb 87={n:=1,g:=false,by':=8,ok:=true,z:= .un,k:=6}:=rfl
@[go_sem] theorem tb88:En.tb 88={n:=1,g:=false,by':=8,ok:=true,z:= .un,k:=6}:=rfl
@[go_sem] theorem tb89:En.tb 89={n:=1,g:=false,by':=8,ok:=true,z:= .un,k:=6}:=rfl
@[go_sem] theorem tb90:En.tb 90={n:=1,g:=false,by':=8,ok:=true,z:= .un,k:=6}:=rfl
@[go_sem] theorem tb92:En.tb 92={n:=1,g:=false,by':=8,ok:=true,z:= .un,k:=6}:=rfl
@[go_sem] theorem tb93:En.tb 93={n:=1,g:=false,by':=8,ok:=true,z:= .un,k:=6}:=rfl
@[go_sem] theorem tb94:En.tb 94={n:=1,g:=false,by':=8,ok:=true,z:= .un,k:=6}:=rfl
@[go_sem] theorem tb96:En.tb 96={n:=1,g:=false,by':=8,ok:=true,z:= .un,k:=6}:=rfl
@[go_sem] theorem tb97:En.tb 97={n:=1,g:=false,by':=8,ok:=true,z:= .un,k:=6}:=rfl
@[go_sem] theorem tb98:En.tb 98={n:=1,g:=false,by':=8,ok:=true,z:= .un,k:=6}:=rfl
@[go_sem] theorem tb99:En.tb 99={n:=1,g:=false,by':=24,ok:=true,z:= .sl (some true) 1 false [],k:=3,el:=5}:=rfl
@[go_sem] theorem tb101:En.tb 101={n:=1,g:=false,by':=8,ok:=true,z:= .un,k:=6}:=rfl
@[go_sem] theorem tb103:En.tb 103={n:=1,g:=false,by':=8,ok:=true,z:= .un,k:=6}:=rfl
@[go_sem] theorem tb104:En.tb 104={n:=1,g:=false,by':=8,ok:=true,z:= .un,k:=6}:=rfl
@[go_sem] theorem tb105:En.tb 105={n:=1,g:=false,by':=8,ok:=true,z:= .un,k:=6}:=rfl
@[go_sem] theorem tb106:En.tb 106={n:=1,g:=false,by':=8,ok:=true,z:= .un,k:=6}:=rfl
@[go_sem] theorem tb107:En.tb 107={n:=1,g:=false,by':=8,ok:=true,z:= .un,k:=6}:=rfl
@[go_sem] theorem tb108:En.tb 108={n:=1,g:=false,by':=8,ok:=true,z:= .un,k:=6}:=rfl
@[go_sem] theorem qz:En.tb 110={n:=3,g:=true,by':=56,ok:=true,z:= .agg [.sl (some true) 1 false [],.int .i64 0,.sl (some true) 1 false []],k:=5,fs:=[(0,79),(1,3),(2,79)]}:=rfl
@[go_sem] theorem nL:En.tb 112={n:=5,g:=true,by':=72,ok:=true,z:= .agg [.int .i64 0,.int .i64 0,.sl (some true) 1 false [],.int .i64 0,.sl (some true) 1 false []],k:=5,fs:=[(0,3),(1,3),(2,110)]}:=rfl
@[go_sem] theorem tb113:En.tb 113={n:=1,g:=false,by':=8,ok:=true,z:= .un,k:=6}:=rfl
@[go_sem] theorem tb115:En.tb 115={n:=47,g:=true,by':=216,ok:=true,z:= .agg [.int .i64 0,.int .i64 0,.int .i64 0,.int .i64 0,.int .i64 0,.int .i64 0,.sl (some true) 11 true [],.int .i64 0,.int .u8 0,.int .u8 0,.int .u8 0,.int .u8 0,.int .u8 0,.int .u8 0,.int .u8 0,.int .u8 0,.int .u8 0,.int .u8 0,.int .u8 0,.int .u8 0,.int .u8 0,.int .u8 0,.int .u8 0,.int .u8 0,.int .u8 0,.int .u8 0,.int .u8 0,.int .u8 0,.int .u8 0,.int .u8 0,.int .u8 0,.int .u8 0,.int .u8 0,.int .u8 0,.int .u8 0,.int .u8 0,.int .u8 0,.int .u8 0,.int .u8 0,.int .u8 0,.int .i64 0,.int .i64 0,.int .i64 0,.int .i64 0,.sl (some true) 80 true [],.sl (some true) 81 true [],.sl (some true) 5 true []],k:=5,fs:=[(0,25),(6,26),(7,3),(8,30),(43,35)]}:=rfl
@[go_sem] theorem tb116:En.tb 116={n:=1,g:=false,by':=8,ok:=true,z:= .un,k:=6}:=rfl
@[go_sem] theorem tb117:En.tb 117={n:=1,g:=false,by':=8,ok:=true,z:= .un,k:=6}:=rfl
@[go_sem] theorem tb118:En.tb 118={n:=1,g:=false,by':=8,ok:=true,z:= .un,k:=6}:=rfl
@[go_sem] theorem tb119:En.tb 119={n:=1,g:=false,by':=24,ok:=true,z:= .sl (some true) 1 false [],k:=3,el:=116}:=rfl
@[go_sem] theorem tb120:En.tb 120={n:=1,g:=false,by':=8,ok:=true,z:= .un,k:=6}:=rfl
@[go_sem] theorem tb121:En.tb 121={n:=1,g:=false,by':=8,ok:=true,z:= .un,k:=6}:=rfl
@[go_sem] theorem nM:En.tb 123={n:=3,g:=true,by':=24,ok:=true,z:= .agg [.int .i64 0,.int .i64 0,.int .i64 0],k:=5,fs:=[(0,3),(1,3),(2,3)],cmp:=true,ck:=[0,0,0]}:=rfl
@[go_sem] theorem tb124:En.tb 124={n:=1,g:=false,by':=8,ok:=true,z:= .un,k:=6}:=rfl
@[go_sem] theorem tb126:En.tb 126={n:=1,g:=false,by':=8,ok:=true,z:= .un,k:=6}:=rfl
@[go_sem] theorem tb127:En.tb 127={n:=1,g:=false,by':=8,ok:=true,z:= .un,k:=6}:=rfl
@[go_sem] theorem tb128:En.tb 128={n:=1,g:=false,by':=8,ok:=true,z:= .un,k:=6}:=rfl
@[go_sem] theorem tb129:En.tb 129={n:=1,g:=false,by':=8,ok:=true,z:= .un,k:=6}:=rfl
@[go_sem] theorem tb130:En.tb 130={n:=1,g:=false,by':=8,ok:=true,z:= .un,k:=6}:=rfl
@[go_sem] theorem tb131:En.tb 131={n:=1,g:=false,by':=8,ok:=true,z:= .un,k:=6}:=rfl
@[go_sem] theorem tb132:En.tb 132={n:=1,g:=false,by':=8,ok:=true,z:= .un,k:=6}:=rfl
@[go_sem] theorem tb133:En.tb 133={n:=1,g:=false,by':=8,ok:=true,z:= .un,k:=6}:=rfl
@[go_sem] theorem tb135:En.tb 135={n:=3,g:=true,by':=24,ok:=true,z:= .agg [.int .i64 0,.int .i64 0,.int .i64 0],k:=5,fs:=[(0,3),(1,3),(2,3)],cmp:=true,ck:=[0,0,0]}:=rfl
@[go_sem] theorem tb137:En.tb 137={n:=1,g:=false,by':=8,ok:=true,z:= .un,k:=6}:=rfl
@[go_sem] theorem tb138:En.tb 138={n:=1,g:=false,by':=8,ok:=true,z:= .un,k:=6}:=rfl
@[go_sem] theorem tb139:En.tb 139={n:=1,g:=false,by':=8,ok:=true,z:= .un,k:=6}:=rfl
@[go_sem] theorem tb140:En.tb 140={n:=1,g:=false,by':=8,ok:=true,z:= .un,k:=6}:=rfl
@[go_sem] theorem tb142:En.tb 142={n:=2,g:=true,by':=16,ok:=true,z:= .agg [.int .i64 0,.int .i64 0],k:=5,fs:=[(0,3),(1,3)],cmp:=true,ck:=[0,0]}:=rfl
@[go_sem] theorem tb143:En.tb 143={n:=1,g:=false,by':=8,ok:=true,z:= .un,k:=6}:=rfl
@[go_sem] theorem tb144:En.tb 144={n:=1,g:=false,by':=8,ok:=true,z:= .un,k:=6}:=rfl
@[go_sem] theorem tb145:En.tb 145={n:=1,g:=false,by':=8,ok:=true,z:= .un,k:=6}:=rfl
@[go_sem] theorem tb146:En.tb 146={n:=1,g:=false,by':=8,ok:=true,z:= .un,k:=6}:=rfl
@[go_sem] theorem tb147:En.tb 147={n:=1,g:=false,by':=8,ok:=true,z:= .un,k:=6}:=rfl
@[go_sem] theorem tb148:En.tb 148={n:=1,g:=false,by':=8,ok:=true,z:= .un,k:=6}:=rfl
@[go_sem] theorem tb149:En.tb 149={n:=1,g:=false,by':=8,ok:=true,z:= .un,k:=6}:=rfl
@[go_sem] theorem tb150:En.tb 150={n:=1,g:=false,by':=8,ok:=true,z:= .un,k:=6}:=rfl
@[go_sem] theorem tb151:En.tb 151={n:=1,g:=false,by':=8,ok:=true,z:= .un,k:=6}:=rfl
@[go_sem] theorem tb152:En.tb 152={n:=1,g:=false,by':=8,ok:=true,z:= .un,k:=6}:=rfl
@[go_sem] theorem tb153:En.tb 153={n:=1,g:=false,by':=8,ok:=true,z:= .un,k:=6}:=rfl
@[go_sem] theorem tb154:En.tb 154={n:=1,g:=false,by':=8,ok:=true,z:= .un,k:=6}:=rfl
@[go_sem] theorem tb155:En.tb 155={n:=1,g:=false,by':=8,ok:=true,z:= .un,k:=6}:=rfl
@[go_sem] theorem tb156:En.tb 156={n:=1,g:=false,by':=8,ok:=true,z:= .un,k:=6}:=rfl
@[go_sem] theorem tb157:En.tb 157={n:=1,g:=false,by':=8,ok:=true,z:= .un,k:=6}:=rfl
@[go_sem] theorem tb158:En.tb 158={n:=1,g:=false,by':=8,ok:=true,z:= .un,k:=6}:=rfl
@[go_sem] theorem tb159:En.tb 159={n:=1,g:=false,by':=8,ok:=true,z:= .un,k:=6}:=rfl
@[go_sem] theorem tb160:En.tb 160={n:=1,g:=false,by':=8,ok:=true,z:= .un,k:=6}:=rfl
@[go_sem] theorem tb161:En.tb 161={n:=1,g:=false,by':=8,ok:=true,z:= .un,k:=6}:=rfl
@[go_sem] theorem tb163:En.tb 163={n:=1,g:=false,by':=8,ok:=true,z:= .un,k:=6}:=rfl
@[go_sem] theorem tb164:En.tb 164={n:=1,g:=false,by':=8,ok:=true,z:= .un,k:=6}:=rfl
@[go_sem] theorem tb165:En.tb 165={n:=1,g:=false,by':=8,ok:=true,z:= .un,k:=6}:=rfl
@[go_sem] theorem tb166:En.tb 166={n:=1,g:=false,by':=8,ok:=true,z:= .un,k:=6}:=rfl
@[go_sem] theorem tb167:En.tb 167={n:=1,g:=false,by':=8,ok:=true,z:= .un,k:=6}:=rfl
@[go_sem] theorem tb168:En.tb 168={n:=1,g:=false,by':=24,ok:=true,z:= .sl (some true) 4 true [],k:=3,el:=170}:=rfl
@[go_sem] theorem tb170:En.tb 170={n:=4,g:=true,by':=64,ok:=true,z:= .agg [.int .i64 0,.int .i64 0,.sl (some true) 1 false [],.sl (some true) 4 true []],k:=5,fs:=[(0,3),(1,3),(2,99),(3,168)]}:=rfl
@[go_sem] theorem tb171:En.tb 171={n:=1,g:=false,by':=8,ok:=true,z:= .un,k:=6}:=rfl
@[go_sem] theorem tb173:En.tb 173={n:=1,g:=false,by':=8,ok:=true,z:= .un,k:=6}:=rfl
@[go_sem] theorem tb175:En.tb 175={n:=1,g:=false,by':=8,ok:=true,z:= .un,k:=6}:=rfl
@[go_sem] theorem tb176:En.tb 176={n:=1,g:=false,by':=8,ok:=true,z:= .un,k:=6}:=rfl
@[go_sem] theorem tb177:En.tb 177={n:=1,g:=false,by':=8,ok:=true,z:= .un,k:=6}:=rfl
@[go_sem] theorem tb178:En.tb 178={n:=1,g:=false,by':=8,ok:=true,z:= .un,k:=6}:=rfl
@[go_sem] theorem tb179:En.tb 179={n:=1,g:=false,by':=8,ok:=true,z:= .un,k:=6}:=rfl
@[go_sem] theorem tb180:En.tb 180={n:=1,g:=false,by':=8,ok:=true,z:= .un,k:=6}:=rfl
@[go_sem] theorem tb181:En.tb 181={n:=1,g:=false,by':=8,ok:=true,z:= .un,k:=6}:=rfl
@[go_sem] theorem tb182:En.tb 182={n:=1,g:=false,by':=24,ok:=true,z:= .sl (some true) 41 true [],k:=3,el:=46}:=rfl
@[go_sem] theorem tb183:En.tb 183={n:=1,g:=false,by':=8,ok:=true,z:= .un,k:=6}:=rfl
@[go_sem] theorem tb184:En.tb 184={n:=1,g:=false,by':=8,ok:=true,z:= .un,k:=6}:=rfl
@[go_sem] theorem tb186:En.tb 186={n:=1,g:=false,by':=8,ok:=true,z:= .un,k:=6}:=rfl
@[go_sem] theorem tb187:En.tb 187={n:=1,g:=false,by':=8,ok:=true,z:= .un,k:=6}:=rfl
@[go_sem] theorem tb189:En.tb 189={n:=1,g:=false,by':=8,ok:=true,z:= .un,k:=6}:=rfl
@[go_sem] theorem tb190:En.tb 190={n:=1,g:=false,by':=8,ok:=true,z:= .un,k:=6}:=rfl
@[go_sem] theorem tb191:En.tb 191={n:=1,g:=false,by':=8,ok:=true,z:= .un,k:=6}:=rfl
@[go_sem] theorem tb192:En.tb 192={n:=1,g:=false,by':=8,ok:=true,z:= .un,k:=6}:=rfl
@[go_sem] theorem tb216:En.tb 216={n:=1,g:=false,by':=8,ok:=true,z:= .int .u64 0,k:=0,ik:= .u64}:=rfl
@[go_sem] theorem tb218:En.tb 218={n:=1,g:=false,by':=8,ok:=true,z:= .un,k:=6}:=rfl
@[go_sem] theorem tb223:En.tb 223={n:=1,g:=false,by':=8,ok:=true,z:= .un,k:=6}:=rfl
@[go_sem] theorem tb224:En.tb 224={n:=1,g:=false,by':=8,ok:=true,z:= .un,k:=6}:=rfl
@[go_sem] theorem tb225:En.tb 225={n:=1,g:=false,by':=8,ok:=true,z:= .un,k:=6}:=rfl
@[go_sem] theorem tb227:En.tb 227={n:=2,g:=true,by':=32,ok:=true,z:= .agg [.sl (some true) 1 false [],.int .i64 0],k:=5,fs:=[(0,99),(1,38)]}:=rfl
@[go_sem] theorem tb228:En.tb 228={n:=1,g:=false,by':=8,ok:=true,z:= .un,k:=6}:=rfl
@[go_sem] theorem tb229:En.tb 229={n:=1,g:=false,by':=8,ok:=true,z:= .un,k:=6}:=rfl
@[go_sem] theorem tb231:En.tb 231={n:=2,g:=true,by':=16,ok:=true,z:= .agg [.int .i64 0,.int .i64 0],k:=5,fs:=[(0,3),(1,3)],cmp:=true,ck:=[0,0]}:=rfl
@[go_sem] theorem tb232:En.tb 232={n:=1,g:=false,by':=24,ok:=true,z:= .sl (some true) 2 true [],k:=3,el:=231}:=rfl
@[go_sem] theorem tb233:En.tb 233={n:=1,g:=false,by':=8,ok:=true,z:= .un,k:=6}:=rfl
@[go_sem] theorem tb234:En.tb 234={n:=1,g:=false,by':=8,ok:=true,z:= .un,k:=6}:=rfl
@[go_sem] theorem tb236:En.tb 236={n:=1,g:=false,by':=8,ok:=true,z:= .un,k:=6}:=rfl
@[go_sem] theorem tb238:En.tb 238={n:=1,g:=false,by':=8,ok:=true,z:= .un,k:=6}:=rfl
@[go_sem] theorem tb239:En.tb 239={n:=1,g:=false,by':=8,ok:=true,z:= .un,k:=6}:=rfl
@[go_sem] theorem tb240:En.tb 240={n:=1,g:=false,by':=8,ok:=true,z:= .un,k:=6}:=rfl
@[go_sem] theorem tb241:En.tb 241={n:=1,g:=false,by':=8,ok:=true,z:= .un,k:=6}:=rfl
@[go_sem] theorem tb242:En.tb 242={n:=1,g:=false,by':=8,ok:=true,z:= .un,k:=6}:=rfl
@[go_sem] theorem tb243:En.tb 243={n:=1,g:=false,by':=24,ok:=true,z:= .sl (some true) 1 false [],k:=3,el:=79}:=rfl
@[go_sem] theorem tb245:En.tb 245={n:=2,g:=true,by':=48,ok:=true,z:= .agg [.sl (some true) 1 false [],.sl (some true) 1 false []],k:=5,fs:=[(0,79),(1,243)]}:=rfl
@[go_sem] theorem tb247:En.tb 247={n:=1,g:=false,by':=8,ok:=true,z:= .un,k:=6}:=rfl
@[go_sem] theorem tb248:En.tb 248={n:=1,g:=false,by':=8,ok:=true,z:= .un,k:=6}:=rfl
@[go_sem] theorem tb249:En.tb 249={n:=1,g:=false,by':=8,ok:=true,z:= .un,k:=6}:=rfl
@[go_sem] theorem tb250:En.tb 250={n:=1,g:=false,by':=8,ok:=true,z:= .un,k:=6}:=rfl
@[go_sem] theorem tb251:En.tb 251={n:=1,g:=false,by':=8,ok:=true,z:= .un,k:=6}:=rfl
@[go_sem] theorem tb252:En.tb 252={n:=1,g:=false,by':=8,ok:=true,z:= .un,k:=6}:=rfl
@[go_sem] theorem tb253:En.tb 253={n:=1,g:=false,by':=8,ok:=true,z:= .un,k:=6}:=rfl
@[go_sem] theorem tb254:En.tb 254={n:=1,g:=false,by':=8,ok:=true,z:= .un,k:=6}:=rfl
@[go_sem] theorem tb256:En.tb 256={n:=1,g:=false,by':=8,ok:=true,z:= .un,k:=6}:=rfl
@[go_sem] theorem tb269:En.tb 269={n:=1,g:=false,by':=8,ok:=true,z:= .int .u64 0,k:=0,ik:= .u64}:=rfl
@[go_sem] theorem tb282:En.tb 282={n:=1,g:=false,by':=8,ok:=true,z:= .un,k:=6}:=rfl
@[go_sem] theorem tb285:En.tb 285={n:=1,g:=false,by':=16,ok:=true,z:= .un,k:=8}:=rfl
@[go_sem] theorem tb286:En.tb 286={n:=1,g:=false,by':=16,ok:=true,z:= .un,k:=8}:=rfl
@[go_sem] theorem tb287:En.tb 287={n:=1,g:=false,by':=8,ok:=true,z:= .un,k:=6}:=rfl
@[go_sem] theorem tb288:En.tb 288={n:=1,g:=false,by':=8,ok:=true,z:= .un,k:=6}:=rfl
@[go_sem] theorem tb289:En.tb 289={n:=1,g:=false,by':=8,ok:=true,z:= .un,k:=6}:=rfl
@[go_sem] theorem tb290:En.tb 290={n:=1,g:=false,by':=8,ok:=true,z:= .un,k:=6}:=rfl
@[go_sem] theorem tb291:En.tb 291={n:=1,g:=false,by':=8,ok:=true,z:= .un,k:=6}:=rfl
@[go_sem] theorem tb292:En.tb 292={n:=1,g:=false,by':=8,ok:=true,z:= .un,k:=6}:=rfl
@[go_sem] theorem tb293:En.tb 293={n:=1,g:=false,by':=8,ok:=true,z:= .un,k:=6}:=rfl
@[go_sem] theorem tb294:En.tb 294={n:=1,g:=false,by':=8,ok:=true,z:= .un,k:=6}:=rfl
@[go_sem] theorem tb295:En.tb 295={n:=1,g:=false,by':=8,ok:=true,z:= .un,k:=6}:=rfl
@[go_sem] theorem tb296:En.tb 296={n:=1,g:=false,by':=8,ok:=true,z:= .un,k:=6}:=rfl
@[go_sem] theorem tb297:En.tb 297={n:=1,g:=false,by':=8,ok:=true,z:= .un,k:=6}:=rfl
@[go_sem] theorem tb298:En.tb 298={n:=1,g:=false,by':=8,ok:=true,z:= .un,k:=6}:=rfl
@[go_sem] theorem tb299:En.tb 299={n:=1,g:=false,by':=8,ok:=true,z:= .un,k:=6}:=rfl
@[go_sem] theorem tb300:En.tb 300={n:=1,g:=false,by':=8,ok:=true,z:= .un,k:=6}:=rfl
@[go_sem] theorem tb301:En.tb 301={n:=1,g:=false,by':=8,ok:=true,z:= .un,k:=6}:=rfl
@[go_sem] theorem tb302:En.tb 302={n:=1,g:=false,by':=8,ok:=true,z:= .un,k:=6}:=rfl
@[go_sem] theorem tb303:En.tb 303={n:=1,g:=false,by':=8,ok:=true,z:= .un,k:=6}:=rfl
@[go_sem] theorem tb304:En.tb 304={n:=1,g:=false,by':=8,ok:=true,z:= .un,k:=6}:=rfl
@[go_sem] theorem tb305:En.tb 305={n:=1,g:=false,by':=8,ok:=true,z:= .un,k:=6}:=rfl
@[go_sem] theorem tb306:En.tb 306={n:=1,g:=false,by':=8,ok:=true,z:= .un,k:=6}:=rfl
@[go_sem] theorem tb307:En.tb 307={n:=12,g:=true,by':=96,ok:=true,z:= .agg [.int .u64 0,.int .u64 0,.int .u64 0,.int .u64 0,.int .u64 0,.int .u64 0,.int .u64 0,.int .u64 0,.int .u64 0,.int .u64 0,.int .u64 0,.int .u64 0],k:=4,el:=269,len:=12,cmp:=true,ck:=[0,0,0,0,0,0,0,0,0,0,0,0]}:=rfl
@[go_sem] theorem tb308:En.tb 308={n:=1,g:=false,by':=8,ok:=true,z:= .un,k:=6}:=rfl
@[go_sem] theorem tb309:En.tb 309={n:=1,g:=false,by':=8,ok:=true,z:= .un,k:=6}:=rfl
@[go_sem] theorem tb310:En.tb 310={n:=1,g:=false,by':=8,ok:=true,z:= .un,k:=6}:=rfl
@[go_sem] theorem tb311:En.tb 311={n:=1,g:=false,by':=8,ok:=true,z:= .un,k:=6}:=rfl
@[go_sem] theorem tb312:En.tb 312={n:=1,g:=false,by':=8,ok:=true,z:= .un,k:=6}:=rfl
@[go_sem] theorem tb313:En.tb 313={n:=1,g:=false,by':=8,ok:=true,z:= .un,k:=6}:=rfl
@[go_sem] theorem tb314:En.tb 314={n:=1,g:=false,by':=8,ok:=true,z:= .un,k:=6}:=rfl
@[go_sem] theorem tb315:En.tb 315={n:=1,g:=false,by':=8,ok:=true,z:= .un,k:=6}:=rfl
@[go_sem] theorem tb316:En.tb 316={n:=1,g:=false,by':=8,ok:=true,z:= .un,k:=6}:=rfl
@[go_sem] theorem tb317:En.tb 317={n:=1,g:=false,by':=8,ok:=true,z:= .un,k:=6}:=rfl
@[go_sem] theorem tb318:En.tb 318={n:=1,g:=false,by':=24,ok:=true,z:= .sl (some true) 1 false [],k:=3,el:=52}:=rfl
@[go_sem] theorem tb320:En.tb 320={n:=1,g:=false,by':=8,ok:=true,z:= .un,k:=6}:=rfl
@[go_sem] theorem tb323:En.tb 323={n:=1,g:=false,by':=4,ok:=true,z:= .int .u32 0,k:=0,ik:= .u32}:=rfl
@[go_sem] theorem tb324:En.tb 324={n:=8,g:=true,by':=32,ok:=true,z:= .agg [.int .u32 0,.int .u32 0,.int .u32 0,.int .u32 0,.int .u32 0,.int .u32 0,.int .u32 0,.int .u32 0],k:=4,el:=323,len:=8,cmp:=true,ck:=[0,0,0,0,0,0,0,0]}:=rfl
@[go_sem] theorem tb326:En.tb 326={n:=1,g:=false,by':=8,ok:=true,z:= .un,k:=6}:=rfl
@[go_sem] theorem tb332:En.tb 332={n:=33,g:=true,by':=40,ok:=true,z:= .agg [.int .u8 0,.int .u8 0,.int .u8 0,.int .u8 0,.int .u8 0,.int .u8 0,.int .u8 0,.int .u8 0,.int .u8 0,.int .u8 0,.int .u8 0,.int .u8 0,.int .u8 0,.int .u8 0,.int .u8 0,.int .u8 0,.int .u8 0,.int .u8 0,.int .u8 0,.int .u8 0,.int .u8 0,.int .u8 0,.int .u8 0,.int .u8 0,.int .u8 0,.int .u8 0,.int .u8 0,.int .u8 0,.int .u8 0,.int .u8 0,.int .u8 0,.int .u8 0,.int .i64 0],k:=5,fs:=[(0,28),(32,3)],cmp:=true,ck:=[0,0,0,0,0,0,0,0,0,0,0,0,0,0,0,0,0,0,0,0,0,0,0,0,0,0,0,0,0,0,0,0,0]}:=rfl
@[go_sem] theorem tb336:En.tb 336={n:=1,g:=false,by':=8,ok:=true,z:= .un,k:=6}:=rfl
@[go_sem] theorem tb338:En.tb 338={n:=1,g:=false,by':=8,ok:=true,z:= .un,k:=6}:=rfl
@[go_sem] theorem tb339:En.tb 339={n:=1,g:=false,by':=8,ok:=true,z:= .un,k:=6}:=rfl
@[go_sem] theorem tb340:En.tb 340={n:=1,g:=false,by':=24,ok:=true,z:= .sl (some true) 1 false [],k:=3,el:=323}:=rfl
@[go_sem] theorem tb341:En.tb 341={n:=1,g:=false,by':=8,ok:=true,z:= .un,k:=6}:=rfl
@[go_sem] theorem tb342:En.tb 342={n:=1,g:=false,by':=8,ok:=true,z:= .un,k:=6}:=rfl
@[go_sem] theorem tb343:En.tb 343={n:=1,g:=false,by':=8,ok:=true,z:= .un,k:=6}:=rfl
@[go_sem] theorem tb344:En.tb 344={n:=1,g:=false,by':=8,ok:=true,z:= .un,k:=6}:=rfl
@[go_sem] theorem tb345:En.tb 345={n:=1,g:=false,by':=8,ok:=true,z:= .un,k:=6}:=rfl
@[go_sem] theorem tb346:En.tb 346={n:=1,g:=false,by':=8,ok:=true,z:= .un,k:=6}:=rfl
@[go_sem] theorem tb347:En.tb 347={n:=1,g:=false,by':=8,ok:=true,z:= .un,k:=6}:=rfl
@[go_sem] theorem tb349:En.tb 349={n:=1,g:=false,by':=8,ok:=true,z:= .un,k:=6}:=rfl
@[go_sem] theorem tb351:En.tb 351={n:=1,g:=false,by':=8,ok:=true,z:= .un,k:=6}:=rfl
@[go_sem] theorem tb352:En.tb 352={n:=1,g:=false,by':=8,ok:=true,z:= .un,k:=6}:=rfl
@[go_sem] theorem tb353:En.tb 353={n:=64,g:=true,by':=64,ok:=true,z:= .agg [.int .u8 0,.int .u8 0,.int .u8 0,.int .u8 0,.int .u8 0,.int .u8 0,.int .u8 0,.int .u8 0,.int .u8 0,.int .u8 0,.int .u8 0,.int .u8 0,.int .u8 0,.int .u8 0,.int .u8 0,.int .u8 0,.int .u8 0,.int .u8 0,.int .u8 0,.int .u8 0,.int .u8 0,.int .u8 0,.int .u8 0,.int .u8 0,.int .u8 0,.int .u8 0,.int .u8 0,.int .u8 0,.int .u8 0,.int .u8 0,.int .u8 0,.int .u8 0,.int .u8 0,.int .u8 0,.int .u8 0,.int .u8 0,.int .u8 0,.int .u8 0,.int .u8 0,.int .u8 0,.int .u8 0,.int .u8 0,.int .u8 0,.int .u8 0,.int .u8 0,.int .u8 0,.int .u8 0,.int .u8 0,.int .u8 0,.int .u8 0,.int .u8 0,.int .u8 0,.int .u8 0,.int .u8 0,.int .u8 0,.int .u8 0,.int .u8 0,.int .u8 0,.int .u8 0,.int .u8 0,.int .u8 0,.int .u8 0,.int .u8 0,.int .u8 0],k:=4,el:=5,len:=64,cmp:=true,ck:=[0,0,0,0,0,0,0,0,0,0,0,0,0,0,0,0,0,0,0,0,0,0,0,0,0,0,0,0,0,0,0,0,0,0,0,0,0,0,0,0,0,0,0,0,0,0,0,0,0,0,0,0,0,0,0,0,0,0,0,0,0,0,0,0]}:=rfl
@[go_sem] theorem tb354:En.tb 354={n:=1,g:=false,by':=8,ok:=true,z:= .un,k:=6}:=rfl
@[go_sem] theorem tb356:En.tb 356={n:=1,g:=false,by':=8,ok:=true,z:= .un,k:=6}:=rfl
@[go_sem] theorem tb357:En.tb 357={n:=1,g:=false,by':=8,ok:=true,z:= .un,k:=6}:=rfl
@[go_sem] theorem tb358:En.tb 358={n:=1,g:=false,by':=8,ok:=true,z:= .un,k:=6}:=rfl
@[go_sem] theorem tb359:En.tb 359={n:=1,g:=false,by':=8,ok:=true,z:= .un,k:=6}:=rfl
@[go_sem] theorem tb361:En.tb 361={n:=1,g:=true,by':=24,ok:=true,z:= .agg [.sl (some true) 4 true []],k:=5,fs:=[(0,168)]}:=rfl
@[go_sem] theorem tb362:En.tb 362={n:=1,g:=false,by':=8,ok:=true,z:= .un,k:=6}:=rfl
@[go_sem] theorem tb363:En.tb 363={n:=1,g:=false,by':=8,ok:=true,z:= .un,k:=6}:=rfl
@[go_sem] theorem tb364:En.tb 364={n:=1,g:=false,by':=8,ok:=true,z:= .un,k:=6}:=rfl
@[go_sem] theorem tb365:En.tb 365={n:=1,g:=false,by':=8,ok:=true,z:= .un,k:=6}:=rfl
@[go_sem] theorem tb366:En.tb 366={n:=1,g:=false,by':=8,ok:=true,z:= .un,k:=6}:=rfl
@[go_sem] theorem tb367:En.tb 367={n:=1,g:=false,by':=8,ok:=true,z:= .un,k:=6}:=rfl
@[go_sem] theorem tb368:En.tb 368={n:=64,g:=true,by':=256,ok:=true,z:= .agg [.int .u32 0,.int .u32 0,.int .u32 0,.int .u32 0,.int .u32 0,.int .u32 0,.int .u32 0,.int .u32 0,.int .u32 0,.int .u32 0,.int .u32 0,.int .u32 0,.int .u32 0,.int .u32 0,.int .u32 0,.int .u32 0,.int .u32 0,.int .u32 0,.int .u32 0,.int .u32 0,.int .u32 0,.int .u32 0,.int .u32 0,.int .u32 0,.int .u32 0,.int .u32 0,.int .u32 0,.int .u32 0,.int .u32 0,.int .u32 0,.int .u32 0,.int .u32 0,.int .u32 0,.int .u32 0,.int .u32 0,.int .u32 0,.int .u32 0,.int .u32 0,.int .u32 0,.int .u32 0,.int .u32 0,.int .u32 0,.int .u32 0,.int .u32 0,.int .u32 0,.int .u32 0,.int .u32 0,.int .u32 0,.int .u32 0,.int .u32 0,.int .u32 0,.int .u32 0,.int .u32 0,.int .u32 0,.int .u32 0,.int .u32 0,.int .u32 0,.int .u32 0,.int .u32 0,.int .u32 0,.int .u32 0,.int .u32 0,.int .u32 0,.int .u32 0],k:=4,el:=323,len:=64,cmp:=true,ck:=[0,0,0,0,0,0,0,0,0,0,0,0,0,0,0,0,0,0,0,0,0,0,0,0,0,0,0,0,0,0,0,0,0,0,0,0,0,0,0,0,0,0,0,0,0,0,0,0,0,0,0,0,0,0,0,0,0,0,0,0,0,0,0,0]}:=rfl
@[go_sem] theorem tb370:En.tb 370={n:=1,g:=false,by':=8,ok:=true,z:= .un,k:=6}:=rfl
@[go_sem] theorem tb379:En.tb 379={n:=1,g:=false,by':=8,ok:=true,z:= .un,k:=6}:=rfl
@[go_sem] theorem tb380:En.tb 380={n:=1,g:=false,by':=8,ok:=true,z:= .un,k:=6}:=rfl
@[go_sem] theorem tb381:En.tb 381={n:=1,g:=false,by':=8,ok:=true,z:= .un,k:=6}:=rfl
@[go_sem] theorem tb382:En.tb 382={n:=1,g:=false,by':=8,ok:=true,z:= .un,k:=6}:=rfl
@[go_sem] theorem tb383:En.tb 383={n:=1,g:=false,by':=8,ok:=true,z:= .un,k:=6}:=rfl
@[go_sem] theorem tb384:En.tb 384={n:=1,g:=false,by':=8,ok:=true,z:= .un,k:=6}:=rfl
@[go_sem] theorem tb386:En.tb 386={n:=1,g:=false,by':=8,ok:=true,z:= .un,k:=6}:=rfl
@[go_sem] theorem tb387:En.tb 387={n:=1,g:=false,by':=8,ok:=true,z:= .un,k:=6}:=rfl
@[go_sem] theorem tb388:En.tb 388={n:=1,g:=false,by':=24,ok:=true,z:= .sl (some true) 1 false [],k:=3,el:=99}:=rfl
@[go_sem] theorem tb389:En.tb 389={n:=1,g:=false,by':=8,ok:=true,z:= .un,k:=6}:=rfl
@[go_sem] theorem tb390:En.tb 390={n:=1,g:=false,by':=8,ok:=true,z:= .un,k:=6}:=rfl
@[go_sem] theorem tb391:En.tb 391={n:=1,g:=false,by':=8,ok:=true,z:= .un,k:=6}:=rfl
@[go_sem] theorem tb393:En.tb 393={n:=1,g:=false,by':=8,ok:=true,z:= .un,k:=6}:=rfl
@[go_sem] theorem tb398:En.tb 398={n:=1,g:=false,by':=8,ok:=true,z:= .un,k:=6}:=rfl
@[go_sem] theorem tb399:En.tb 399={n:=1,g:=false,by':=8,ok:=true,z:= .un,k:=6}:=rfl
@[go_sem] theorem tb400:En.tb 400={n:=1,g:=false,by':=8,ok:=true,z:= .un,k:=6}:=rfl
@[go_sem] theorem tb410:En.tb 410={n:=1,g:=false,by':=8,ok:=true,z:= .un,k:=6}:=rfl
end Go.Proofs.YtcbbjfckokckcaaGreatDoor
namespace Go.Proofs.YtcbbjfckokckcaaGreatDoor
open Go.RowKit
section
variable {E:Env} {J:cq} {k:List Ct} {S S1 S2:St}
theorem cc.trans (h:cc E S S1) (h':cc E S1 S2):cc E S S2:=by
 intro c0 c ρ F hs
 obtain ⟨c1,ρ1,e,h1⟩:=h c0 c ρ F hs
 obtain ⟨c2,ρ2,e2,h2⟩:=h' c0 c1 ρ1 F h1
 exact ⟨c2,ρ2,e2.trans e,h2⟩
theorem jI (t T:Nat) {n:Nat} {g:Bool} (h:ah S.F t=some (.sl (some true) n g [])) (hg:g=false→n=1):cc E S ⟨(t,.own S.nx)::S.F,(S.nx,.own T n g (some true) [])::S.H,S.nx+1⟩:=by
 intro c0 c ρ F hs
 have hf:ρ S.nx=none:=hs.2 _ (Nat.le_refl _)
 have hrd:=hs.1.slot _ _ h
 have e:F t= .slice none 0 0:=by
  simp only [rd,zOk] at hrd
  obtain ⟨a,cap,e,_,⟨rfl,rfl⟩,_⟩:=hrd
  exact e
 have hro:fX ρ (fun i=>if i=S.nx then some (.slice none 0 0) else ρ i):=lY hf fun i hi=>by simp [hi]
 have hat:(fun i=>if i=S.nx then some (Value.slice none 0 0) else ρ i) S.nx=some (.slice none 0 0):=by simp
 have hoth: ∀i,i≠S.nx→(fun i=>if i=S.nx then some (Value.slice none 0 0) else ρ i) i=ρ i:=fun i hi=>by simp [hi]
 generalize (fun i=>if i=S.nx then some (Value.slice none 0 0) else ρ i)=ρ' at hro hat hoth
 refine ⟨c,ρ',rfl,⟨hs.1.since,hs.1.gl,?_,?_,?_⟩,?_⟩
 ·intro t' v ht
  simp only [ah] at ht
  split at ht
  ·rename_i e';subst e';cases ht
   simp only [rd]
   exact ⟨e▸hat,by rw [e];rfl⟩
  ·exact cP hro (hs.1.slot t' v ht)
 ·intro i b hb
  simp only [ah] at hb
  split at hb
  ·rename_i e';subst e';cases hb
   refine ⟨_,hat,Own.nil,fun k hk=>by simp [blk] at hk,hg,none,0,rfl,rfl,rfl⟩
  ·exact kG hro (hs.1.heap i b hb)
 ·intro i j bi bj k hij hbi hbj hpi hpj hk hk'
  have hn:an ρ' S.nx=none:=by simp [an,hat,blk]
  have hi:i≠S.nx:=fun e'=>by rw [e',hn] at hk;cases hk
  have hj:j≠S.nx:=fun e'=>by rw [e',hn] at hk';cases hk'
  simp only [ah,Ne.symm hi,Ne.symm hj,if_false] at hbi hbj
  rw [cB (hoth i hi)] at hk
  rw [cB (hoth j hj)] at hk'
  exact hs.1.sep i j bi bj k hij hbi hbj hpi hpj hk hk'
 ·intro i hi
  have hi':S.nx+1≤i:=hi
  rw [hoth i (by omega)]
  exact hs.2 i (by omega)
theorem fC {a:Code} (I:Nat→St→Prop) (k0:Nat) (S1 S2:St) (hW:cc E S S1) (hF:cJ S1.F S2.nx S2.F) (hH:cK S1.H S2.nx S2.H) (h0:I k0 S2)
  (h: ∀n S',I n S'→aM E J (.code a:: .lp (fun S2=> ∃n',n'<n∧ ∃S3,cc E S2 S3∧I n' S3)::k) .normal S'):aM E J (.code (.loop a)::k) .normal S:=
 ⟨I,k0,⟨S2,hW.trans (gX hF hH),h0⟩,h⟩
end
def am {α R:Type}:Nat→((α→R)→α→R)→(α→R)→α→R
 | 0,_,d,a=>d a
 | n+1,f,d,a=>f (am n f d) a
theorem aU {α R:Type} {n:Nat} {f:(α→R)→α→R} {d:α→R} {a:α} {r:R} (h:am n f d a=r): ∃g e,g=f∧e=d∧am n g e a=r:=⟨f,d,rfl,rfl,h⟩
theorem aV {α R:Type} {n:Nat} {f g:(α→R)→α→R} {d:α→R} {a:α} {r:R} (h:am n f d a=r) (hn:0<n) (hf:f=g): ∃ag,ag=am (n - 1) f d∧g ag a=r:=by
 subst hf
 cases n with
 | zero=>omega
 | succ m=>exact ⟨_,rfl,h⟩
theorem bI {α R:Type} {n:Nat} {f:(α→R)→α→R} {d ag:α→R} {a:α} {r:R} (h:ag a=r) (e:ag=am n f d):am n f d a=r:=e▸h
def dQ {α β R:Type}:List β→((α→R)→β→α→R)→(α→R)→α→R
 | [],_,d,a=>d a
 | y::l,f,d,a=>f (dQ l f d) y a
theorem Ge {α β R:Type} {ys:List β} {f:(α→R)→β→α→R} {d:α→R} {p:α} {n:Nat} {y:β} (h:ys[n]? =some y):dQ (ys.drop n) f d p=f (dQ (ys.drop (n+1)) f d) y p:=by
 obtain ⟨hn,rfl⟩:=List.getElem?_eq_some_iff.1 h
 rw [List.drop_eq_getElem_cons hn];rfl
theorem Gf {pre:List Nat} {i:Nat} (h:pre++[i]=List.range (pre.length+1)):pre=List.range pre.length∧i=pre.length:=by
 rw [List.range_succ] at h
 obtain ⟨h1,h2⟩:=List.append_inj' h rfl
 exact ⟨h1,by simpa using h2⟩
theorem Gg {α β R:Type} {ys:List β} {f:(α→R)→β→α→R} {d:α→R} {a:α} {r:R} (h:dQ ys f d a=r): ∃g e,g=f∧e=d∧dQ ys g e a=r:=⟨f,d,rfl,rfl,h⟩
theorem Gh {α β R:Type} {f g:(α→R)→β→α→R} {ag:α→R} {y:β} {a:α} {r:R} (h:f ag y a=r) (hf:f=g):g ag y a=r:=hf▸h
theorem Gi {E:Env} {S S1:St} (hF:cJ (dnF S.F) S1.nx S1.F) (hH:cK S.H S1.nx S1.H):cc E (dnS S) S1:=gX (S:=dnS S) hF hH
theorem Gj {E:Env} {J:cq} {k:List Ct} {e:Exit} {S S':St} (h:S=S') (hc:aM E J k e S'):aM E J k e S:=h▸hc
theorem Gk {E:Env} {J:cq} {k:List Ct} {K:Exit→St→Prop} {e:Exit} {S:St} (h:K e S):aM E J (.fin K::k) e S:=by rw [uo];exact h
theorem Gm {E:Env} {J:cq} {k:List Ct} {S:St} {α β R:Type} {g:Operand} {ps:Array Tmp} {as1 a:Code} {gf:FuncId} {caps:List V} {d p:Nat} (ys:List β) (enc:β→List V) (st:α→St) (fa:Nat→α→Prop) {f:(α→R)→β→α→R} {dd:α→R} {p0:α} {r:R}
  (hM:dQ ys f dd p0=r) (hit:t8 E gf caps (ys.map enc)) (hg:(st p0).ev E.gv g=some (.fn gf caps)) (hc:cH caps) (ha:asg as1=some (d,p)∧ps.toList.Nodup∧p∈ps.toList) (hl: ∀y,(enc y).length=ps.size)
  {S1:St} (hW:cc E S S1) (hF:cJ S1.F (st p0).nx (st p0).F) (hH:cK S1.H (st p0).nx (st p0).H) (h0:fa 0 p0) (hn: ∀n p,fa n p→(jC (st p).H&&qb (st p).F)=true)
  (hbody: ∀ag n y q r' (K:Exit→St→Prop),y∈ys→n<ys.length→fa n q→f ag y q=r'→(∀q' S,cc E (dnS S) (st q')→fa (n+1) q'→ag q'=r'→K .normal S)→(∀S,jC S.H=true→(r'=r→aM E J k .ret (dnS S))→K .ret S)→
   aM E J [.code a,.fin K] .normal (qc d p ps.toList (enc y) (st q)))
  (hend: ∀q,fa ys.length q→dd q=r→aM E J k .normal (st q)):aM E J (.code (.rangeFunc g ps as1 a)::k) .normal S:=by
 refine ⟨gf,caps,ys.map enc,d,p,fun pre S'=> ∃q,S'=st q∧fa pre.length q∧(pre=List.range pre.length→dQ (ys.drop pre.length) f dd q=r),st p0,hW.trans (gX hF hH),⟨p0,rfl,h0,fun _=>hM⟩,hg,hc,ha,hit,fun l hl'=> ?_,?_,?_,?_⟩
 ·obtain ⟨y,_,rfl⟩:=List.mem_map.1 hl';exact hl y
 ·rintro pre S' ⟨q,rfl,hq,_⟩;exact hn _ q hq
 ·rintro pre i l S' ⟨q,rfl,hq,hm⟩ hi hlt
  rw [List.getElem?_map,Option.map_eq_some_iff] at hi
  obtain ⟨y,hy,rfl⟩:=hi
  have hr:pre++[i]=List.range (pre.length+1)→f (dQ (ys.drop (pre.length+1)) f dd) y q=r:=fun h=>by
   obtain ⟨h1,rfl⟩:=Gf h
   rw [←hm h1,Ge hy]
  refine hbody (dQ (ys.drop (pre.length+1)) f dd) pre.length y q _ _ (List.mem_of_getElem? hy) (by simpa using hlt) hq rfl (fun q' S hw hf ha'=> ?_) (fun S h1 h2=> ?_)
  ·exact ⟨st q',hw,q',rfl,by simpa using hf,fun h=>by simp only [List.length_append,List.length_cons,List.length_nil,Nat.zero_add] at h⊢;exact ha'.trans (hr h)⟩
  ·exact ⟨h1,fun h=>h2 (hr h)⟩
 ·rintro S' ⟨q,rfl,hq,hm⟩
  refine hend q (by simpa using hq) ?_
  have:=hm (by simp)
  simpa [dQ] using this
def jJ {α R:Type} (j:α→R) (f:(α→R)→R):R:=f j
theorem nN {α R:Type} {j:α→R} {f:(α→R)→R} {r:R} (h:jJ j f=r): ∃g,g=j∧f g=r:=⟨j,rfl,h⟩
theorem mp {α R:Type} {g j:α→R} {a:α} {r:R} (h:g a=r) (e:g=j):j a=r:=e▸h
theorem aZ {i:Int} (h0: -9223372036854775808≤i) (h:i+1≤9223372036854775807):ax .i64 i 1=i+1:=by
 unfold ax;rw [IntKind.wrap_i64];omega
theorem dF:LEN=1073741824:=rfl
theorem gn {d:Int}:Rng .i64 d=(-9223372036854775808≤d∧d≤9223372036854775807):=by simp [Rng,IntKind.min,IntKind.max,IntKind.bits,IntKind.signed]
theorem go {d:Int}:Rng .u64 d=(0≤d∧d≤18446744073709551615):=by simp [Rng,IntKind.min,IntKind.max,IntKind.bits,IntKind.signed]
theorem za {d:Int}:Rng .u8 d=(0≤d∧d≤255):=by simp [Rng,IntKind.min,IntKind.max,IntKind.bits,IntKind.signed]
theorem gp {d:Int}:Rng .u32 d=(0≤d∧d≤4294967295):=by simp [Rng,IntKind.min,IntKind.max,IntKind.bits,IntKind.signed]
theorem gu {d:Int}:Rng .i32 d=(-2147483648≤d∧d≤2147483647):=by simp [Rng,IntKind.min,IntKind.max,IntKind.bits,IntKind.signed]
theorem eX {α:Type} {l:List α} {i j:Int}:(sl l i j).length=min (j.toNat - i.toNat) (l.length - i.toNat):=by simp [sl]
theorem eD {α:Type} {l:List α} {i:Int} {x:α}:(st l i x).length=l.length:=by simp [st]
theorem bE {α:Type} [Inhabited α] {l:List α} {f:α→V} {i:Int} (h:i.toNat<l.length) (d:V):elt (l.map f) i.toNat d=f (gt l i):=by
 simp [elt,gt,List.getD,h]
theorem ur {a b:Int} (h0: -9223372036854775808≤a+b) (h:a+b≤9223372036854775807):ax .i64 a b=a+b:=by
 unfold ax;rw [IntKind.wrap_i64];omega
theorem dl {a b:Int} (h0: -9223372036854775808≤a - b) (h:a - b≤9223372036854775807):aG .i64 a b=a - b:=by
 unfold aG;rw [IntKind.wrap_i64];omega
theorem bm {α:Type} [Inhabited α] {a:α} {l:List α}:gt (a::l) 0=a:=rfl
theorem bn {α:Type} [Inhabited α] {a:α} {l:List α} {i:Int} (h:0<i):gt (a::l) i=gt l (i - 1):=by
 obtain ⟨n,rfl⟩: ∃n:Nat,i=((n+1:Nat):Int):=⟨(i - 1).toNat,by omega⟩
 simp [gt]
theorem gw {k:IntKind} {n:Nat} {b:Int}:cj k ((n:Nat):Int) b=((n:Nat):Int)% b:=Int.tmod_eq_emod_of_nonneg (by omega)
@[go_sem] theorem Gn: ∀{B:List Int},(B.map (V.int .u8)).map (fun d=>u8N (js d))=B.map u8N
 | []=>rfl
 | x::B=>by rw [List.map_cons,List.map_cons,Gn (B:=B)];rfl
def gx (a:List UInt8):List Int:=a.map fun b=>(b.toNat:Int)
theorem eE {a:List UInt8}:(gx a).length=a.length:=by simp [gx]
@[go_sem] theorem Gp: ∀{a:List UInt8},a.map u8V=(gx a).map (V.int .u8)
 | []=>rfl
 | x::B=>by rw [List.map_cons,Gp (a:=B)];rfl
def nO {α:Type} [Inhabited α] (f:α→V) (l:List α):Nat→Int→List V
 | 0,_=> []
 | k+1,i=>f (gt l i)::nO f l k (i+1)
theorem zb {α:Type} [Inhabited α] {f:α→V} {l:List α}: ∀{k i:Nat},i+k≤l.length→jt (l.map f) k i=nO f l k i
 | 0,_,_=>rfl
 | k+1,i,h=>by
  simp only [jt,nO]
  rw [zb (k:=k) (i:=i+1) (by omega)]
  have h2:=bE (l:=l) (f:=f) (i:=(i:Int)) (by simp;omega) .un
  simp only [Int.toNat_natCast] at h2
  rw [h2];simp
theorem Gq {α:Type} [Inhabited α] {f:α→V} {l:List α} {k:Nat} (h:k≤l.length):jt (l.map f) k 0=nO f l k 0:=zb (i:=0) (by omega)
def fD {α:Type} [Inhabited α] (l:List α):Nat→Int→List α
 | 0,_=> []
 | k+1,i=>gt l i::fD l k (i+1)
def bc {α:Type} [Inhabited α] (n:Nat) (l:List α):List α:=fD l n 0
theorem zc {α:Type} [Inhabited α] {l:List α}: ∀{k:Nat} {i:Int},(fD l k i).length=k
 | 0,_=>rfl
 | k+1,i=>by simp [fD,zc (k:=k)]
theorem ce {α:Type} [Inhabited α] {l:List α} {n:Nat}:(bc n l).length=n:=zc
@[go_sem] theorem Lo {α β:Type} {l:List α} {f:α→β} {a b:β}:(l.map f++[a]).set l.length b=l.map f++[b]:=by
 rw [List.set_append_right _ _ (by simp)];simp
attribute [go_sem] nO bc fD
end Go.Proofs.YtcbbjfckokckcaaGreatDoor
namespace Go.Proofs.YtcbbjfckokckcaaGreatDoor
open Go.RowKit
section
variable {E:Env} {J:cq} {k:List Ct} {S S1 S2:St} {c0 c:Cx} {ρ:Ro} {F:Fm}
theorem nP (i:Nat) {T n:Nat} {g:Bool} {z:Option Bool} {l:List V} (h:ah S.H i=some (.own T n g z l)):cc E S ⟨S.F,cQ S.H i (.pown n g z l),S.nx⟩:=by
 intro c0 c ρ F hs
 obtain ⟨v,hv,hown,hge,hone,a,cap,es,hz⟩:=hs.1.heap _ _ h
 have hpd:=c.pub_dropv v
 have hbo:an ρ i=blk v:=by unfold an;rw [hv,es]
 have hsep: ∀j b,i≠j→ah S.H j=some b→aX b=true→ ∀x,an ρ j=some x→blk v≠some x:=by
  intro j b hij hb hp x hx hx'
  exact hs.1.sep i j _ b x hij h hb rfl hp (hbo▸hx') hx
 refine ⟨c.dropv v,ρ,rfl,⟨hs.1.since.dropv hge,hs.1.gl.mono hpd,fun t x ht=>bB hpd (hs.1.slot t x ht),?_,?_⟩,hs.2⟩
 ·intro j b hb
  simp only [cI] at hb
  split at hb
  ·rename_i e;subst e;cases hb
   refine ⟨v,hv,?_⟩
   obtain ⟨a',cap',e1,h1,h2⟩:=eR.1 hown.val
   rw [es] at e1;cases e1
   exact dg.2 ⟨a,cap,es,h1,hz,h2⟩
  ·rename_i hij
   have hb0:=hs.1.heap _ _ hb
   have hsp:=hsep j b hij hb
   cases b with
   | var n' g' d=>
    obtain ⟨b',h1,h2,h3⟩:=hb0
    exact ⟨b',h1,h2,Cx.dropv_var h3 (hsp rfl b' (by simp [an,h1]))⟩
   | own E' n' g' z' l'=>
    obtain ⟨v',h1,h2,h3,h4,a',cap',e',h5⟩:=hb0
    exact ⟨v',h1,Cx.dropv_own h2 (fun x hx=>hsp rfl x (by unfold an;rw [h1,e'];rw [e'] at hx;exact hx)),h3,h4,a',cap',e',h5⟩
   | ownI E' n' g' z' l'=>
    obtain ⟨v',h1,h2,h3,h4,a',cap',e',h5⟩:=hb0
    exact ⟨v',h1,Cx.dropv_own h2 (fun x hx=>hsp rfl x (by unfold an;rw [h1,e'];rw [e'] at hx;exact hx)),h3,h4,a',cap',e',h5⟩
   | pvar n' g' d=>
    obtain ⟨b',h1,h2⟩:=hb0
    exact ⟨b',h1,(kr _).mono h2 hpd⟩
   | pown n' g' z' l'=>
    obtain ⟨v',h1,h2⟩:=hb0
    exact ⟨v',h1,bB hpd h2⟩
   | lent k' n' g' d=>
    obtain ⟨h1,h2,h3⟩:=hb0
    exact ⟨h1,h2,Cx.dropv_var h3 (hsp rfl k' (by simp [an,h1]))⟩
   | kset g' k' n' l'=>
    obtain ⟨r,h1,h2,h3⟩:=hb0
    exact ⟨r,h1,h2,Cx.dropv_set h3 (hsp rfl r (by simp [an,h1,blk]))⟩
 ·intro a b ba bb x hab ha hb hpa hpb hx
  simp only [cI] at ha hb
  split at ha
  ·cases ha;cases hpa
  ·split at hb
   ·cases hb;cases hpb
   ·exact hs.1.sep a b ba bb x hab ha hb hpa hpb hx
theorem ut (t i:Nat) {n:Nat} {g:Bool} {z:Option Bool} {l:List V} (h:ah S.F t=some (.own i)) (h2:ah S.H i=some (.pown n g z l)):cc E S ⟨(t,.sl z n g l)::S.F,S.H,S.nx⟩:=by
 intro c0 c ρ F hs
 refine ⟨c,ρ,rfl,⟨hs.1.since,hs.1.gl,fun t' v ht=> ?_,hs.1.heap,hs.1.sep⟩,hs.2⟩
 simp only [ah] at ht
 split at ht
 ·rename_i e;subst e;cases ht
  have h3:=hs.1.slot _ _ h
  obtain ⟨v,h4,h5⟩:=hs.1.heap _ _ h2
  simp only [rd] at h3
  rw [h3.1] at h4;cases h4
  simpa only [rd] using h5
 ·exact hs.1.slot _ _ ht
theorem g7 (i:Nat) {n:Nat} {g:Bool} {d:V} (h:ah S.H i=some (.var n g d)) (hpu:dh d):cc E S ⟨S.F,cQ S.H i (.pvar n g d),S.nx⟩:=by
 intro c0 c ρ F hs
 obtain ⟨b,hv,hge,hvar⟩:=hs.1.heap _ _ h
 have hbv:blk (.slice (some ⟨b,0,none⟩) 0 1)=some b:=rfl
 have hpd:=c.pub_dropv (.slice (some ⟨b,0,none⟩) 0 1)
 have hbo:an ρ i=some b:=by unfold an;rw [hv]
 have hsep: ∀j b',i≠j→ah S.H j=some b'→aX b'=true→ ∀x,an ρ j=some x→blk (.slice (some ⟨b,0,none⟩) 0 1)≠some x:=by
  intro j b' hij hb hp x hx hx'
  exact hs.1.sep i j _ b' x hij h hb rfl hp (hbo▸hx') hx
 refine ⟨c.dropv (.slice (some ⟨b,0,none⟩) 0 1),ρ,rfl,⟨hs.1.since.dropv (fun k hk=>by rw [hbv] at hk;cases hk;exact hge),hs.1.gl.mono hpd,fun t x ht=>bB hpd (hs.1.slot t x ht),?_,?_⟩,hs.2⟩
 ·intro j b' hb
  simp only [cI] at hb
  split at hb
  ·rename_i e;subst e;cases hb
   obtain ⟨h1,T,cs,h2,h3⟩:=hvar
   refine ⟨b,hv,b,0,cs.toList,rfl,c.ok b h1,?_,?_,?_⟩
   ·simp only [Cx.dropv,List.mem_filter,hbv];simp
   ·intro j u hj
    show (c.dropv _).w.cell? _=_
    simp only [Cx.dropv,World.cell?,h2]
    simpa using hj
   ·exact ⟨h3.1,bB hpd (jx hpu h3.2)⟩
  ·rename_i hij
   have hb0:=hs.1.heap _ _ hb
   have hsp:=hsep j b' hij hb
   cases b' with
   | var n' g' d=>
    obtain ⟨b',h1,h2,h3⟩:=hb0
    exact ⟨b',h1,h2,Cx.dropv_var h3 (hsp rfl b' (by simp [an,h1]))⟩
   | own E' n' g' z' l'=>
    obtain ⟨v',h1,h2,h3,h4,a',cap',e',h5⟩:=hb0
    exact ⟨v',h1,Cx.dropv_own h2 (fun x hx=>hsp rfl x (by unfold an;rw [h1,e'];rw [e'] at hx;exact hx)),h3,h4,a',cap',e',h5⟩
   | ownI E' n' g' z' l'=>
    obtain ⟨v',h1,h2,h3,h4,a',cap',e',h5⟩:=hb0
    exact ⟨v',h1,Cx.dropv_own h2 (fun x hx=>hsp rfl x (by unfold an;rw [h1,e'];rw [e'] at hx;exact hx)),h3,h4,a',cap',e',h5⟩
   | pvar n' g' d=>
    obtain ⟨b',h1,h2⟩:=hb0
    exact ⟨b',h1,(kr _).mono h2 hpd⟩
   | pown n' g' z' l'=>
    obtain ⟨v',h1,h2⟩:=hb0
    exact ⟨v',h1,bB hpd h2⟩
   | lent k' n' g' d=>
    obtain ⟨h1,h2,h3⟩:=hb0
    exact ⟨h1,h2,Cx.dropv_var h3 (hsp rfl k' (by simp [an,h1]))⟩
   | kset g' k' n' l'=>
    obtain ⟨r,h1,h2,h3⟩:=hb0
    exact ⟨r,h1,h2,Cx.dropv_set h3 (hsp rfl r (by simp [an,h1,blk]))⟩
 ·intro a b1 ba bb x hab ha hb hpa hpb hx
  simp only [cI] at ha hb
  split at ha
  ·cases ha;cases hpa
  ·split at hb
   ·cases hb;cases hpb
   ·exact hs.1.sep a b1 ba bb x hab ha hb hpa hpb hx
def qA {α:Type} (f:α→V) (l:List α) (k:Int) (i:Nat):List V:=(l.map f).set k.toNat (.own i)
section
variable {α:Type} {f:α→V} {l:List α} {i:Nat} {q:Int}
theorem aE:(l.map f).set q.toNat (.own i)=qA f l q i:=rfl
theorem aF:(l.map f).set 0 (.own i)=qA f l 0 i:=rfl
theorem eY:(qA f l q i).length=l.length:=by simp [qA]
end
theorem br {α:Type} {f:α→V} {l:List α} {i:Int} {x:α}:(st l i x).map f=(l.map f).set i.toNat (f x):=by simp [st,List.map_set]
theorem eZ {α:Type} {l m:List α} {i k:Nat}:(spl l i k m).length=min i l.length+min k m.length+(l.length - (i+k)):=by simp only [spl,List.length_append,List.length_take,List.length_drop]
theorem fb {α:Type} {l:List α} {i j:Nat}:(ky l i j).length=min (j - i) (l.length - i):=by simp [ky]
theorem mq {a b:Int} (A B C:Int) (h1:0≤a) (h2:a≤A) (h3:0≤b) (h4:b≤B) (h5:A*B=C) (h6:C≤9223372036854775807):aR .i64 a b=a*b∧(0≤a*b∧a*b≤C):=by
 have e1:=Int.mul_nonneg h1 h3
 have e2:a*b≤A*B:=Int.mul_le_mul h2 h4 h3 (Int.le_trans h1 h2)
 rw [h5] at e2
 refine ⟨?_,e1,e2⟩
 unfold aR;rw [IntKind.wrap_i64];omega
theorem uu {a:Int} (h0: -9223372036854775808≤a) (h:a≤9223372036854775807):ae .i64 a=a:=by
 unfold ae;rw [IntKind.wrap_i64];omega
theorem mr {a:Int} (h0:0≤a) (h:a≤18446744073709551615):ae .u64 a=a:=by
 unfold ae;rw [IntKind.wrap_u64];omega
theorem gy {a b:Code} (h:aM E J (.code a:: .lp (kN E (aM E J (.code b::k) .normal))::k) .normal S):kP E J true a b k S:=h
theorem Gr {b:Code} (S1:St) (hF:cJ S.F S1.nx S1.F) (hH:cK S.H S1.nx S1.H) (h:aM E J (.code b::k) .normal S1):aM E J (.lp (kN E (aM E J (.code b::k) .normal))::k) .normal S:=⟨S1,gX hF hH,h⟩
theorem g8 {b:Code} (S2 S1:St) (hW:cc E S S2) (hF:cJ S2.F S1.nx S1.F) (hH:cK S2.H S1.nx S1.H) (h:aM E J (.code b::k) .normal S1):aM E J (.lp (kN E (aM E J (.code b::k) .normal))::k) .normal S:=⟨S1,hW.trans (gX hF hH),h⟩
theorem Gs {I:Nat→St→Prop} {n:Nat} (n':Nat) (S2 S3:St) (hlt:n'<n) (hW:cc E S S2) (hF:cJ S2.F S3.nx S3.F) (hH:cK S2.H S3.nx S3.H) (hI:I n' S3):aM E J (.lp (fun S2=> ∃n',n'<n∧ ∃S3,cc E S2 S3∧I n' S3)::k) .normal S:=
 ⟨n',hlt,S3,hW.trans (gX hF hH),hI⟩
theorem Gt {n:Nat} {a b:V} (h:mt a b):mtL (List.replicate n a) (List.replicate n b):=by
 induction n with
 | zero=>trivial
 | succ n ih=>simp only [List.replicate_succ,mtL];exact ⟨h,ih⟩
def rep {α:Type} (n:Nat) (a:α):List α:=List.replicate n a
theorem aD {α:Type} {n:Nat} {a:α}:(rep n a).length=n:=by simp [rep]
theorem gz {n:Nat} {a b:V}:mtL (List.replicate n a) (List.replicate n b)=(n=0∨mt a b):=by
 refine propext ⟨fun h=> ?_,fun h=> ?_⟩
 ·cases n with
  | zero=>exact .inl rfl
  | succ n=>simp only [List.replicate_succ,mtL] at h;exact .inr h.1
 ·rcases h with rfl|h
  ·trivial
  ·exact Gt h
theorem g9 {α:Type} {n:Nat} {a:V} {f:α→V} {x:α}:mtL (List.replicate n a) ((rep n x).map f)=(n=0∨mt a (f x)):=by
 unfold rep;rw [List.map_replicate];exact gz
end
end Go.Proofs.YtcbbjfckokckcaaGreatDoor
namespace Go.Proofs.YtcbbjfckokckcaaGreatDoor
open Go.RowKit
section
variable {E:Env} {J:cq} {k:List Ct} {S S1 S2:St} {c0 c:Cx} {ρ:Ro} {F:Fm}
def uv:Option Blk→V
 | some (.pown n g z l)=> .sl z n g l
 | _=> .un
def qB (off:Nat):Option Blk→V
 | some (.pvar n g d)=>if off=0 then .pp n g d else .un
 | _=> .un
mutual
def jK (H:List (Nat×Blk)):V→V
 | .own i=>uv (ah H i)
 | .ptr i o=>qB o (ah H i)
 | .optr _ _ _ _=> .un
 | .osub _ _ _ _=> .un
 | .agg l=> .agg (fE H l)
 | .tup l=> .tup (fE H l)
 | .fn f l=> .fn f (fE H l)
 | v=>v
def fE (H:List (Nat×Blk)):List V→List V
 | []=> []
 | d::l=>jK H d::fE H l
end
mutual
theorem qC (h:Sim E c0 c ρ S F): ∀{d:V} {v:Value},rd ρ c d v→rd ro0 c (jK S.H d) v
 | .int _ _,_,hr=>hr
 | .bool _,_,hr=>hr
 | .ifc _,_,hr=>hr
 | .str _,_,hr=>hr
 | .agg l,v,hr=>by
  simp only [rd,jK] at hr⊢
  obtain ⟨cs,e,hr⟩:=hr
  exact ⟨cs,e,zd h hr⟩
 | .sl z n g l,v,hr=>hr
 | .pp n g d,v,hr=>hr
 | .own i,v,hr=>by
  simp only [rd] at hr
  simp only [jK]
  cases hb:ah S.H i with
  | none=>trivial
  | some b=>
   cases b with
   | pown n g z l=>
    obtain ⟨v',h1,h2⟩:=h.heap _ _ hb
    rw [hr.1] at h1;cases h1
    exact h2
   | _=>trivial
 | .ptr i o,v,hr=>by
  simp only [rd] at hr
  simp only [jK]
  obtain ⟨b0,hb0,he⟩:=hr
  cases hb:ah S.H i with
  | none=>trivial
  | some b=>
   cases b with
   | pvar n g d=>
    obtain ⟨b',h1,h2⟩:=h.heap _ _ hb
    rw [hb0] at h1;cases h1
    simp only [qB]
    split
    ·rename_i e;subst e;subst he
     exact fW.2 h2
    ·trivial
   | _=>trivial
 | .optr _ _ _ _,_,_=>trivial
 | .osub _ _ _ _,_,_=>trivial
 | .tup l,v,hr=>by
  simp only [rd,jK] at hr⊢
  obtain ⟨cs,e,hr⟩:=hr
  exact ⟨cs,e,qD h hr⟩
 | .fn f l,v,hr=>by
  simp only [rd,jK] at hr⊢
  obtain ⟨cs,e,hr⟩:=hr
  exact ⟨cs,e,qD h hr⟩
 | .opq p,v,hr=>hr
 | .un,_,_=>trivial
theorem zd (h:Sim E c0 c ρ S F): ∀{l:List V} {cs:List Value},rdC ρ c l cs→rdC ro0 c (fE S.H l) cs
 | [],_,hr=>hr
 | d::l,cs,hr=>by
  simp only [rdC,fE] at hr⊢
  obtain ⟨u,c2,e,h1,h2,h3⟩:=hr
  exact ⟨u,c2,e,h1,qC h h2,zd h h3⟩
theorem qD (h:Sim E c0 c ρ S F): ∀{l:List V} {cs:List Value},rdT ρ c l cs→rdT ro0 c (fE S.H l) cs
 | [],_,hr=>hr
 | d::l,cs,hr=>by
  simp only [rdT,fE] at hr⊢
  obtain ⟨u,c2,e,h2,h3⟩:=hr
  exact ⟨u,c2,e,qC h h2,qD h h3⟩
end
theorem ze {vs ws:List V} (hm:mtL (fE S.H vs) ws):nv E S vs S ws:=
 fun _ c ρ _ _ h hr=>⟨c,ρ,rfl,Cx.pub.refl _,h,gg hm (qD h.1 hr)⟩
def eF (E:Env) (S S1:St):Prop:= ∀c0 c ρ F,bg E c0 c ρ S F→ ∃c1,c1.w=c.w∧c.pub c1∧bg E c0 c1 ρ S1 F
theorem eF.weak (h:eF E S S1):cc E S S1:=by
 intro c0 c ρ F hs
 obtain ⟨c1,e,_,h1⟩:=h c0 c ρ F hs
 exact ⟨c1,ρ,e,h1⟩
theorem eF.trans (h:eF E S S1) (h':eF E S1 S2):eF E S S2:=by
 intro c0 c ρ F hs
 obtain ⟨c1,e,p1,h1⟩:=h c0 c ρ F hs
 obtain ⟨c2,e2,p2,h2⟩:=h' c0 c1 ρ F h1
 exact ⟨c2,e2.trans e,p1.trans p2,h2⟩
def g_ (E:Env) (S S1:St):Prop:= ∀c0 c ρ F,bg E c0 c ρ S F→ ∃c1 ρ1,c1.w=c.w∧c.pub c1∧fX ρ ρ1∧bg E c0 c1 ρ1 S1 F
theorem g_.weak (h:g_ E S S1):cc E S S1:=by
 intro c0 c ρ F hs
 obtain ⟨c1,ρ1,e,_,_,h1⟩:=h c0 c ρ F hs
 exact ⟨c1,ρ1,e,h1⟩
theorem eF.toQ (h:eF E S S1):g_ E S S1:=by
 intro c0 c ρ F hs
 obtain ⟨c1,e,p,h1⟩:=h c0 c ρ F hs
 exact ⟨c1,ρ,e,p,fun _ _ h=>h,h1⟩
theorem g_.trans (h:g_ E S S1) (h':g_ E S1 S2):g_ E S S2:=by
 intro c0 c ρ F hs
 obtain ⟨c1,ρ1,e,p1,r1,h1⟩:=h c0 c ρ F hs
 obtain ⟨c2,ρ2,e2,p2,r2,h2⟩:=h' c0 c1 ρ1 F h1
 exact ⟨c2,ρ2,e2.trans e,p1.trans p2,fun i v hi=>r2 i v (r1 i v hi),h2⟩
theorem Gu {vs ws:List V} (h:eF E S S1) (hg:nv E S1 vs S2 ws):nv E S vs S2 ws:=by
 intro c0 c ρ F us hs hr
 obtain ⟨c1,e,p1,h1⟩:=h c0 c ρ F hs
 obtain ⟨c2,ρ2,e2,p2,h2,h3⟩:=hg c0 c1 ρ F us h1 (dZ p1 hr)
 exact ⟨c2,ρ2,e2.trans e,p1.trans p2,h2,h3⟩
theorem nQ {f:FuncId} {caps vs:List V} {d:Option Nat} {ws:List V} {r:V} {H:List Blk} (hc:bk E f ws r H) (hw:eF E S S1) (hm:mtL (fE S1.H (vs++caps)) ws) (h:wfV r→aM E J k .normal (S1.after d r H)):eC E J (some (.fn f caps)) (some vs) S d k:=
 .inl ⟨ws,r,H,hc,.inl ⟨S1,Gu hw (ze hm),h⟩⟩
theorem Gv {f:FuncId} {caps vs:List V} {d:Option Nat} {ws:List V} {r:V} {H:List Blk} (hc:bk E f ws r H) (hm:mtL (fE S.H (vs++caps)) ws) (h:wfV r→aM E J k .normal (S.after d r H)):eC E J (some (.fn f caps)) (some vs) S d k:=
 .inl ⟨ws,r,H,hc,.inl ⟨S,ze hm,h⟩⟩
theorem jL (i:Nat) {T n:Nat} {g:Bool} {z:Option Bool} {l:List V} (h:ah S.H i=some (.own T n g z l)):eF E S ⟨S.F,cQ S.H i (.pown n g z l),S.nx⟩:=by
 intro c0 c ρ F hs
 obtain ⟨v,hv,hown,hge,hone,a,cap,es,hz⟩:=hs.1.heap _ _ h
 obtain ⟨c1,ρ1,e,h1⟩:=nP i h c0 c ρ F hs
 have hpd:=c.pub_dropv v
 have hbo:an ρ i=blk v:=by unfold an;rw [hv,es]
 have hsep: ∀j b,i≠j→ah S.H j=some b→aX b=true→ ∀x,an ρ j=some x→blk v≠some x:=by
  intro j b hij hb hp x hx hx'
  exact hs.1.sep i j _ b x hij h hb rfl hp (hbo▸hx') hx
 refine ⟨c.dropv v,rfl,hpd,⟨hs.1.since.dropv hge,hs.1.gl.mono hpd,fun t x ht=>bB hpd (hs.1.slot t x ht),?_,?_⟩,hs.2⟩
 ·intro j b hb
  simp only [cI] at hb
  split at hb
  ·rename_i e;subst e;cases hb
   refine ⟨v,hv,?_⟩
   obtain ⟨a',cap',e1,h1,h2⟩:=eR.1 hown.val
   rw [es] at e1;cases e1
   exact dg.2 ⟨a,cap,es,h1,hz,h2⟩
  ·rename_i hij
   have hb0:=hs.1.heap _ _ hb
   have hsp:=hsep j b hij hb
   cases b with
   | var n' g' d=>
    obtain ⟨b',h1,h2,h3⟩:=hb0
    exact ⟨b',h1,h2,Cx.dropv_var h3 (hsp rfl b' (by simp [an,h1]))⟩
   | own E' n' g' z' l'=>
    obtain ⟨v',h1,h2,h3,h4,a',cap',e',h5⟩:=hb0
    exact ⟨v',h1,Cx.dropv_own h2 (fun x hx=>hsp rfl x (by unfold an;rw [h1,e'];rw [e'] at hx;exact hx)),h3,h4,a',cap',e',h5⟩
   | ownI E' n' g' z' l'=>
    obtain ⟨v',h1,h2,h3,h4,a',cap',e',h5⟩:=hb0
    exact ⟨v',h1,Cx.dropv_own h2 (fun x hx=>hsp rfl x (by unfold an;rw [h1,e'];rw [e'] at hx;exact hx)),h3,h4,a',cap',e',h5⟩
   | pvar n' g' d=>
    obtain ⟨b',h1,h2⟩:=hb0
    exact ⟨b',h1,(kr _).mono h2 hpd⟩
   | pown n' g' z' l'=>
    obtain ⟨v',h1,h2⟩:=hb0
    exact ⟨v',h1,bB hpd h2⟩
   | lent k' n' g' d=>
    obtain ⟨h1,h2,h3⟩:=hb0
    exact ⟨h1,h2,Cx.dropv_var h3 (hsp rfl k' (by simp [an,h1]))⟩
   | kset g' k' n' l'=>
    obtain ⟨r,h1,h2,h3⟩:=hb0
    exact ⟨r,h1,h2,Cx.dropv_set h3 (hsp rfl r (by simp [an,h1,blk]))⟩
 ·intro a b ba bb x hab ha hb hpa hpb hx
  simp only [cI] at ha hb
  split at ha
  ·cases ha;cases hpa
  ·split at hb
   ·cases hb;cases hpb
   ·exact hs.1.sep a b ba bb x hab ha hb hpa hpb hx
def dx:List Nat→Nat→Nat→Option Nat
 | [],_,_=>none
 | j::l,i,k=>if j=i then some k else dx l i (k+1)
def qE (H:List (Nat×Blk)) (i:Nat):Option Nat→V
 | some k=> .own k
 | none=>jE (ah H i)
mutual
def fc (H:List (Nat×Blk)) (ids:List Nat):V→V
 | .own i=>qE H i (dx ids i 0)
 | .ptr _ _=> .un
 | .optr _ _ _ _=> .un
 | .osub _ _ _ _=> .un
 | .agg l=> .agg (iW H ids l)
 | .tup l=> .tup (iW H ids l)
 | .fn f l=> .fn f (iW H ids l)
 | v=>v
def iW (H:List (Nat×Blk)) (ids:List Nat):List V→List V
 | []=> []
 | d::l=>fc H ids d::iW H ids l
end
theorem mu: ∀{l:List Nat} {i k q:Nat},dx l i k=some q→k≤q∧l[q - k]? =some i
 | [],_,_,_,h=>by simp [dx] at h
 | j::l,i,k,q,h=>by
  simp only [dx] at h
  split at h
  ·rename_i e;subst e;cases h;simp
  ·obtain ⟨h1,h2⟩:=mu h
   refine ⟨by omega,?_⟩
   rw [show q - k=(q - (k+1))+1 by omega,List.getElem?_cons_succ]
   exact h2
theorem uw: ∀{l:List Nat} {i k:Nat},dx l i k=none→i∉l
 | [],_,_,_=>by simp
 | j::l,i,k,h=>by
  simp only [dx] at h
  split at h
  ·cases h
  ·rename_i e
   simp only [List.mem_cons,not_or]
   exact ⟨fun e'=>e e'.symm,uw h⟩
def bY (ρ:Ro) (ids:List Nat):Ro:=fun k=>match ids[k]? with
 | some i=>ρ i
 | none=>none
def Cx.give (c0 c:Cx) (ρ:Ro) (ids:List Nat) (h0:c0.w.heap.size≤c.w.heap.size) (h: ∀i∈ids,∀k,an ρ i=some k→k<c.w.heap.size):Cx:=
 {X:=c0.X++ids.filterMap (an ρ),w:=c.w,ok:=fun k hk=>(by
  rcases List.mem_append.1 hk with hk|hk
  ·exact Nat.lt_of_lt_of_le (c0.ok k hk) h0
  ·obtain ⟨i,hi,hb⟩:=List.mem_filterMap.1 hk
   exact h i hi k hb)}
def jM (H:List (Nat×Blk)):List Nat→List Blk→Prop
 | [],[]=>True
 | i::ids,b::bs=>ah H i=some b∧(match b with| .own _ _ _ _ _=>True|_=>False)∧jM H ids bs
 | _,_=>False
theorem zf {H:List (Nat×Blk)}: ∀{ids:List Nat} {bs:List Blk},jM H ids bs→ids.length=bs.length∧(∀(k:Nat) (b:Blk),bs[k]? =some b→ ∃i,ids[k]? =some i∧ah H i=some b∧ ∃T n g z l,b= .own T n g z l)∧ ∀i∈ids,∃b,ah H i=some b∧ ∃T n g z l,b= .own T n g z l
 | [],[],_=>⟨rfl,by simp,by simp⟩
 | i::ids,b::bs,h=>by
  simp only [jM] at h
  obtain ⟨h1,h2,h3⟩:=h
  obtain ⟨g1,g2,g3⟩:=zf h3
  have hb: ∃T n g z l,b= .own T n g z l:=by
   cases b<;>first|exact ⟨_,_,_,_,_,rfl⟩|exact h2.elim
  refine ⟨by simp [g1],?_,?_⟩
  ·intro k b' hk
   cases k with
   | zero=>simp at hk;subst hk;exact ⟨i,by simp,h1,hb⟩
   | succ k=>obtain ⟨j,e,g⟩:=g2 k b' (by simpa using hk);exact ⟨j,by simpa using e,g⟩
  ·intro j hj
   rcases List.mem_cons.1 hj with rfl|hj
   ·exact ⟨b,h1,hb⟩
   ·exact g3 j hj
 | [],_::_,h=>by simp [jM] at h
 | _::_,[],h=>by simp [jM] at h
theorem Gw {c1:Cx} (hw:c1.w=c.w) (hpb:c.pub c1) (h:Sim E c0 c ρ S F) {i:Nat} {b:Blk} {v:Value} (hb:ah S.H i=some b) (hv:ρ i=some v) (hn:aX b=true→ ∀k,an ρ i=some k→k∉c1.X):rd ro0 c1 (jE (some b)) v:=by
 have hblk:=h.heap i b hb
 cases b with
 | own T n g z l=>
  obtain ⟨v',h1,h2,h3,h4,a,cap,e,hz⟩:=hblk
  rw [hv] at h1;cases h1
  simp only [jE]
  refine dg.2 ⟨a,cap,e,⟨h2.1,?_⟩,hz,?_⟩
  ·rcases h2.2 with ⟨a',_,rfl⟩|⟨g',cp,cur,e2,_,_,k3,_⟩
   ·simp
   ·rw [e] at e2;cases e2;exact k3
  ·rcases h2.2 with ⟨a',_,rfl⟩|⟨g',cp,cur,e2,k1,k2,k3,k4,k5,k6⟩
   ·exact .inl rfl
   ·rw [e] at e2;cases e2
    refine .inr ⟨g',0,_,rfl,by rw [hw];exact c.ok g' k1,hn rfl g' (by unfold an;rw [hv,e];rfl),?_,c7 hpb k6⟩
    intro j u hj
    rw [List.getElem?_take] at hj
    split at hj
    ·simp only [Nat.zero_add]
     show c1.w.cell? _=_
     rw [hw]
     simp only [World.cell?,k2]
     simpa using hj
    ·cases hj
 | pown n g z l=>
  obtain ⟨v',h1,h2⟩:=hblk
  rw [hv] at h1;cases h1
  exact bB hpb h2
 | _=>trivial
mutual
theorem nR {c1:Cx} {ids:List Nat} (hw:c1.w=c.w) (hpb:c.pub c1) (h:Sim E c0 c ρ S F) (hn: ∀i b,i∉ids→ah S.H i=some b→aX b=true→ ∀k,an ρ i=some k→k∉c1.X): ∀{d:V} {v:Value},rd ρ c d v→rd (bY ρ ids) c1 (fc S.H ids d) v
 | .int _ _,_,hr=>hr
 | .bool _,_,hr=>hr
 | .ifc _,_,hr=>hr
 | .str _,_,hr=>hr
 | .agg l,v,hr=>by
  simp only [rd,fc] at hr⊢
  obtain ⟨cs,e,hr⟩:=hr
  exact ⟨cs,e,zg hw hpb h hn hr⟩
 | .sl z n g l,v,hr=>bB hpb (show rd ro0 c (.sl z n g l) v from hr)
 | .pp n g d,v,hr=>bB hpb (show rd ro0 c (.pp n g d) v from hr)
 | .own i,v,hr=>by
  simp only [rd] at hr
  simp only [fc]
  cases hp:dx ids i 0 with
  | some q=>
   obtain ⟨_,h2⟩:=mu hp
   simp only [qE,rd]
   exact ⟨by simp only [bY];rw [show q - 0=q from rfl] at h2;rw [h2];exact hr.1,hr.2⟩
  | none=>
   simp only [qE]
   cases hb:ah S.H i with
   | none=>trivial
   | some b=>exact rd0 (Gw hw hpb h hb hr.1 (fun hp'=>hn i b (uw hp) hb hp'))
 | .ptr _ _,_,_=>trivial
 | .optr _ _ _ _,_,_=>trivial
 | .osub _ _ _ _,_,_=>trivial
 | .tup l,v,hr=>by
  simp only [rd,fc] at hr⊢
  obtain ⟨cs,e,hr⟩:=hr
  exact ⟨cs,e,ux hw hpb h hn hr⟩
 | .fn f l,v,hr=>by
  simp only [rd,fc] at hr⊢
  obtain ⟨cs,e,hr⟩:=hr
  exact ⟨cs,e,ux hw hpb h hn hr⟩
 | .opq p,v,hr=>bB hpb (show rd ro0 c (.opq p) v from hr)
 | .un,_,_=>trivial
theorem zg {c1:Cx} {ids:List Nat} (hw:c1.w=c.w) (hpb:c.pub c1) (h:Sim E c0 c ρ S F) (hn: ∀i b,i∉ids→ah S.H i=some b→aX b=true→ ∀k,an ρ i=some k→k∉c1.X): ∀{l:List V} {cs:List Value},rdC ρ c l cs→rdC (bY ρ ids) c1 (iW S.H ids l) cs
 | [],_,hr=>hr
 | d::l,cs,hr=>by
  simp only [rdC,iW] at hr⊢
  obtain ⟨u,c2,e,h1,h2,h3⟩:=hr
  exact ⟨u,c2,e,h1,nR hw hpb h hn h2,zg hw hpb h hn h3⟩
theorem ux {c1:Cx} {ids:List Nat} (hw:c1.w=c.w) (hpb:c.pub c1) (h:Sim E c0 c ρ S F) (hn: ∀i b,i∉ids→ah S.H i=some b→aX b=true→ ∀k,an ρ i=some k→k∉c1.X): ∀{l:List V} {cs:List Value},rdT ρ c l cs→rdT (bY ρ ids) c1 (iW S.H ids l) cs
 | [],_,hr=>hr
 | d::l,cs,hr=>by
  simp only [rdT,iW] at hr⊢
  obtain ⟨u,c2,e,h2,h3⟩:=hr
  exact ⟨u,c2,e,nR hw hpb h hn h2,ux hw hpb h hn h3⟩
end
theorem nS: ∀{l:List Nat} {i q q':Nat},l.Nodup→l[q]? =some i→l[q']? =some i→q=q'
 | [],_,_,_,_,h,_=>by simp at h
 | a::l,i,0,0,_,_,_=>rfl
 | a::l,i,0,q'+1,hd,h,h'=>by
  simp at h h';subst h
  exact absurd (List.mem_of_getElem? h') (List.nodup_cons.1 hd).1
 | a::l,i,q+1,0,hd,h,h'=>by
  simp at h h';subst h'
  exact absurd (List.mem_of_getElem? h) (List.nodup_cons.1 hd).1
 | a::l,i,q+1,q'+1,hd,h,h'=>by
  simp only [List.getElem?_cons_succ] at h h'
  rw [nS (List.nodup_cons.1 hd).2 h h']
theorem Gx {v r:V} (ids:List Nat) {bs:List Blk} (ho:jM S.H ids bs) (hd:ids.Nodup) (hm:mt (fc S.H ids v) r):qe E S v r bs:=by
 intro c0 c ρ F u hY h hr
 obtain ⟨hlen,hget,hall⟩:=zf ho
 have hlt: ∀i∈ids,∀k,an ρ i=some k→k<c.w.heap.size:=by
  intro i hi k hk
  obtain ⟨b,hb,T,n,g,z,l,rfl⟩:=hall i hi
  exact eo rfl (h.1.heap _ _ hb) k hk
 have hge: ∀i∈ids,∀k,an ρ i=some k→c0.w.heap.size≤k:=by
  intro i hi k hk
  obtain ⟨b,hb,T,n,g,z,l,rfl⟩:=hall i hi
  exact Cx.mine_of hY (iM h.1 hb rfl k hk)
 have hX: ∀i∈ids,∀k,an ρ i=some k→k∈c.X:=by
  intro i hi k hk
  obtain ⟨b,hb,T,n,g,z,l,rfl⟩:=hall i hi
  obtain ⟨v,h1,h2,_,_,a,cap,e,_⟩:=h.1.heap _ _ hb
  refine h2.isX k ?_
  unfold an at hk
  rw [h1,e] at hk
  rw [e];exact hk
 have hpub:c.pub (Cx.give c0 c ρ ids h.1.since.size hlt):=by
  refine ⟨Nat.le_refl _,fun k hk hx=>⟨fun h'=> ?_,fun _ h _=>h⟩⟩
  rcases List.mem_append.1 h' with h'|h'
  ·exact hx (h.1.since.X k h' (by rw [hY];simp))
  ·obtain ⟨i,hi,hb⟩:=List.mem_filterMap.1 h'
   exact hx (hX i hi k hb)
 have hle:c0.le (Cx.give c0 c ρ ids h.1.since.size hlt):=by
  refine Cx.leY.le ⟨h.1.since.below,fun k hk _=>⟨fun h'=> ?_,fun h'=>List.mem_append.2 (.inl h')⟩⟩ hY
  rcases List.mem_append.1 h' with h'|h'
  ·exact h'
  ·obtain ⟨i,hi,hb⟩:=List.mem_filterMap.1 h'
   have:=hge i hi k hb
   omega
 refine ⟨Cx.give c0 c ρ ids h.1.since.size hlt,bY ρ ids,rfl,hle,dO hm (nR (c:=c) (c1:=Cx.give c0 c ρ ids h.1.since.size hlt) (ids:=ids) rfl hpub h.1 ?_ hr),?_,?_,?_⟩
 ·intro i b hi hb hp k hk hmem
  rcases List.mem_append.1 hmem with h'|h'
  ·have h1:=Cx.mine_of hY (iM h.1 hb hp k hk)
   have h2:=c0.ok k h'
   omega
  ·obtain ⟨j,hj,hb'⟩:=List.mem_filterMap.1 h'
   obtain ⟨bj,hbj,T,n,g,z,l,rfl⟩:=hall j hj
   exact h.1.sep i j b _ k (fun e=>hi (e▸hj)) hb hbj hp rfl hk hb'
 ·intro q b hq
  obtain ⟨i,hi,hb,T,n,g,z,l,rfl⟩:=hget q b hq
  refine ⟨⟨T,n,g,z,l,rfl⟩,?_⟩
  obtain ⟨v,h1,h2,h3,h4,a,cap,e,h5⟩:=h.1.heap _ _ hb
  have hmem:i∈ids:=List.mem_of_getElem? hi
  refine ⟨v,by simp only [bY,hi];exact h1,⟨h2.1,?_⟩,h3,h4,a,cap,e,h5⟩
  rcases h2.2 with h'|⟨g',cp,cur,e2,k1,k2,k3,k4,k5,k6⟩
  ·exact .inl h'
  ·refine .inr ⟨g',cp,cur,e2,List.mem_append.2 (.inr (List.mem_filterMap.2 ⟨i,hmem,?_⟩)),k2,k3,k4,k5,c7 hpub k6⟩
   unfold an;rw [h1,e2];rfl
 ·intro q hq
  simp only [bY]
  rw [List.getElem?_eq_none (by omega)]
 ·intro q q' bq bq' k hne hq hq' hk hk'
  obtain ⟨i,hi,hb,T,n,g,z,l,rfl⟩:=hget q bq hq
  obtain ⟨i',hi',hb',T',n',g',z',l',rfl⟩:=hget q' bq' hq'
  have hii:i≠i':=by
   rintro rfl
   exact hne (nS hd hi hi')
  have e1:an (bY ρ ids) q=an ρ i:=by simp only [an,bY,hi]
  have e2:an (bY ρ ids) q'=an ρ i':=by simp only [an,bY,hi']
  rw [e1] at hk
  rw [e2] at hk'
  exact h.1.sep i i' _ _ k hii hb hb' rfl rfl hk hk'
def zN:Blk→Blk
 | .own T n g _ l=> .own T n g none l
 | b=>b
theorem Gy {c':Cx} {H:List Blk} (h:HOk c c' ρ H):HOk c c' ρ (H.map zN):=by
 obtain ⟨h1,h2,h3⟩:=h
 have key: ∀(i:Nat) (b:Blk),(H.map zN)[i]? =some b→ ∃T n g z l,H[i]? =some (Blk.own T n g z l)∧b=Blk.own T n g none l:=by
  intro i b hb
  rw [List.getElem?_map] at hb
  cases hi:H[i]? with
  | none=>rw [hi] at hb;cases hb
  | some b0=>
   rw [hi] at hb
   obtain ⟨⟨T,n,g,z,l,rfl⟩,_⟩:=h1 i b0 hi
   cases hb
   exact ⟨T,n,g,z,l,rfl,rfl⟩
 refine ⟨fun i b hb=> ?_,fun i hi=>h2 i (by simpa using hi),fun i j bi bj k hij hi hj=> ?_⟩
 ·obtain ⟨T,n,g,z,l,hi,rfl⟩:=key i b hb
  obtain ⟨_,v,g1,g2,g3,g4,a,cap,e,g5⟩:=h1 i _ hi
  exact ⟨⟨T,n,g,none,l,rfl⟩,v,g1,g2,g3,g4,a,cap,e,lN g5⟩
 ·obtain ⟨T,n,g,z,l,hi',rfl⟩:=key i bi hi
  obtain ⟨T',n',g',z',l',hj',rfl⟩:=key j bj hj
  exact h3 i j _ _ k hij hi' hj'
theorem uy {vs:List V} {r:V} (ids:List Nat) {bs:List Blk} (ho:jM S.H ids bs) (hd:ids.Nodup) (hm:mt (fc S.H ids (eB vs)) r):kQ E S r (bs.map zN) (some vs):=by
 intro c0 c ρ F u hY hs hr
 obtain ⟨c1,ρ1,e,hle,h1,h2⟩:=Gx ids ho hd hm c0 c ρ F u hY hs hr
 exact ⟨c1,ρ1,e,hle,h1,Gy h2⟩
theorem uz {vs:List V} {T n:Nat} {g:Bool} {z:Option Bool} {l:List V} (i:Nat) (h:ah S.H i=some (.own T n g z l)) (hm:mt (fc S.H [i] (eB vs)) (.own 0)):kQ E S (.own 0) [.own T n g none l] (some vs):=
 uy [i] (bs:=[.own T n g z l]) ⟨h,trivial,trivial⟩ (by simp) hm
theorem uA {T n:Nat} {g:Bool} (hone:g=false→n=1):kQ E S (.own 0) [.own T n g none []] (some [.sl (some true) n g []]):=by
 intro c0 c ρ F u hY h hr
 have e:u= .slice none 0 0:=by
  simp only [eB,rd,zOk] at hr
  obtain ⟨a,cap,e,_,⟨rfl,rfl⟩,_⟩:=hr
  exact e
 subst e
 refine ⟨c0.base c h.1.since.size,fun i=>if i=0 then some (.slice none 0 0) else none,rfl,Cx.leY.le ⟨h.1.since.below,fun k hk hy=>by rw [nu];exact ⟨fun h=>h.1,fun h=>⟨h,hy⟩⟩⟩ hY,⟨rfl,rfl⟩,?_,?_,?_⟩
 ·intro i b hb
  cases i with
  | zero=>
   simp at hb;subst hb
   exact ⟨⟨_,_,_,_,_,rfl⟩,.slice none 0 0,rfl,Own.nil,fun k hk=>by simp [blk] at hk,hone,none,0,rfl,fun _=>rfl⟩
  | succ i=>simp at hb
 ·intro i hi
  have:i≠0:=by simp at hi;omega
  simp [this]
 ·intro i j bi bj k hij hi hj
  cases i with
  | zero=>cases j with
   | zero=>exact absurd rfl hij
   | succ j=>simp at hj
  | succ i=>simp at hi
theorem uB {f:FuncId} {pre post:List V} {n:Nat} {g:Bool} {l:List V} {r:V} {H:List Blk} (h1:l=[]→bk E f (pre++ .sl (some true) n g []::post) r H) (h2:bk E f (pre++ .sl (some false) n g l::post) r H) (z:Option Bool):bk E f (pre++ .sl z n g l::post) r H:=by
 refine ⟨h2.1,fun c us hY hg hus=> ?_⟩
 have key: ∀{pre:List V} {us:List Value},rdT ro0 c (pre++ .sl z n g l::post) us→(l=[]∧rdT ro0 c (pre++ .sl (some true) n g []::post) us)∨rdT ro0 c (pre++ .sl (some false) n g l::post) us:=by
  intro pre
  induction pre with
  | nil=>
   intro us h
   simp only [List.nil_append,rdT] at h⊢
   obtain ⟨u,c2,rfl,hu,h3⟩:=h
   obtain ⟨a,cap,e,hl,hz,hs⟩:=dg.1 hu
   cases a with
   | some a=>exact .inr ⟨u,c2,rfl,dg.2 ⟨_,cap,e,hl,by simp [zOk],hs⟩,h3⟩
   | none=>
    rcases hs with rfl|⟨b,o,cs,e',_⟩
    ·have hc:=lN hz rfl
     subst hc
     exact .inl ⟨rfl,u,c2,rfl,dg.2 ⟨none,0,e,⟨Nat.zero_le _,Nat.zero_le _⟩,⟨rfl,rfl⟩,.inl rfl⟩,h3⟩
    ·cases e'
  | cons d pre ih=>
   intro us h
   simp only [List.cons_append,rdT] at h⊢
   obtain ⟨u,c2,rfl,hu,h3⟩:=h
   rcases ih h3 with ⟨e,h4⟩|h4
   ·exact .inl ⟨e,u,c2,rfl,hu,h4⟩
   ·exact .inr ⟨u,c2,rfl,hu,h4⟩
 rcases key hus with ⟨e,h⟩|h
 ·exact (h1 e).2 c us hY hg h
 ·exact h2.2 c us hY hg h
end
attribute [go_sem] jK fE uv qB jM fc iW dx qE
theorem bk.pub {E:Env} {f:FuncId} {ws:List V} {T n:Nat} {g:Bool} {z:Option Bool} {l:List V} (h:bk E f ws (.own 0) [.own T n g z l]):bk E f ws (.sl z n g l) []:=by
 refine ⟨h.1,fun c us hY hg hus=>(h.2 c us hY hg hus).mono ?_⟩
 rintro e w' ⟨v,c',ρ,rfl,rfl,hle,hrd,hH⟩
 obtain ⟨v',hv,hown,hge,hone,a,cap,es,hz⟩:=(hH.1 0 _ rfl).2
 have e:v=v':=by
  simp only [rd] at hrd
  rw [hv] at hrd
  exact (Option.some.inj hrd.1).symm
 subst e
 refine ⟨v,c'.dropv v,ro0,rfl,rfl,xx hle (fun g hg=>Cx.mine_of hY (hge g hg)),?_,fun i b hb=>by simp at hb,fun _ _=>rfl,fun i j bi bj k _ hb=>by simp at hb⟩
 obtain ⟨a',cap',e1,h1,h2⟩:=eR.1 hown.val
 rw [es] at e1;cases e1
 exact dg.2 ⟨a,cap,es,h1,hz,h2⟩
theorem zh {ρ ρ':Ro} {c:Cx} (hro:fX ρ ρ') {k:Nat} (hat:ρ' k=some (.slice none 0 0)): ∀{l:List V} {cs:List Value} {o n:Nat} {g:Bool},rdC ρ c l cs→l[o]? =some (.sl (some true) n g [])→rdC ρ' c (l.set o (.own k)) cs
 | [],cs,o,n,g,h,ho=>by simp at ho
 | d::l,cs,0,n,g,h,ho=>by
  simp only [List.getElem?_cons_zero,Option.some.injEq] at ho
  subst ho
  simp only [rdC] at h
  obtain ⟨u,c2,rfl,h1,h2,h3⟩:=h
  simp only [List.set_cons_zero,rdC]
  have e:u= .slice none 0 0:=by
   simp only [rd,zOk] at h2
   obtain ⟨a,cap,e,_,⟨rfl,rfl⟩,_⟩:=h2
   exact e
  subst e
  exact ⟨_,c2,rfl,h1,by simp only [rd];exact ⟨hat,rfl⟩,sH hro h3⟩
 | d::l,cs,o+1,n,g,h,ho=>by
  simp only [List.getElem?_cons_succ] at ho
  simp only [rdC] at h
  obtain ⟨u,c2,rfl,h1,h2,h3⟩:=h
  simp only [List.set_cons_succ,rdC]
  exact ⟨u,c2,rfl,h1,cP hro h2,zh hro hat h3 ho⟩
theorem zi {E:Env} {S:St} (j o T:Nat) {n' n:Nat} {g:Bool} {l:List V} (h:ah S.H j=some (.var n' true (.agg l))) (ho:l[o]? =some (.sl (some true) n g [])) (hg:g=false→n=1):
  g_ E S ⟨S.F,(S.nx,.own T n g (some true) [])::cQ S.H j (.var n' true (.agg (l.set o (.own S.nx)))),S.nx+1⟩:=by
 intro c0 c ρ F hs
 have hf:ρ S.nx=none:=hs.2 _ (Nat.le_refl _)
 have hro:fX ρ (fun i=>if i=S.nx then some (.slice none 0 0) else ρ i):=lY hf fun i hi=>by simp [hi]
 have hat:(fun i=>if i=S.nx then some (Value.slice none 0 0) else ρ i) S.nx=some (.slice none 0 0):=by simp
 have hoth: ∀i,i≠S.nx→(fun i=>if i=S.nx then some (Value.slice none 0 0) else ρ i) i=ρ i:=fun i hi=>by simp [hi]
 generalize (fun i=>if i=S.nx then some (Value.slice none 0 0) else ρ i)=ρ' at hro hat hoth
 obtain ⟨b0,g1,g2,g3⟩:=hs.1.heap _ _ h
 have hjn:j≠S.nx:=fun e=>by rw [e,hf] at g1;cases g1
 refine ⟨c,ρ',rfl,Cx.pub.refl _,hro,⟨hs.1.since,hs.1.gl,fun t v ht=>cP hro (hs.1.slot t v ht),?_,?_⟩,?_⟩
 ·intro i b hb
  simp only [ah] at hb
  split at hb
  ·rename_i e';subst e';cases hb
   exact ⟨_,hat,Own.nil,fun k hk=>by simp [blk] at hk,hg,none,0,rfl,rfl,rfl⟩
  ·rename_i hin
   rw [cI] at hb
   split at hb
   ·rename_i e';subst e';cases hb
    obtain ⟨hX,T',cs,hh,hsh,hrd⟩:=g3
    refine ⟨b0,by rw [hoth _ hjn];exact g1,g2,hX,T',cs,hh,hsh,?_⟩
    simp only [mkV,rd] at hrd⊢
    obtain ⟨cs',e1,e2⟩:=hrd
    exact ⟨cs',e1,zh hro hat e2 ho⟩
   ·exact kG hro (hs.1.heap i b hb)
 ·intro a b ba bb k hab hba hbb hpa hpb hk hk'
  have hn:an ρ' S.nx=none:=by simp [an,hat,blk]
  have hi:a≠S.nx:=fun e'=>by rw [e',hn] at hk;cases hk
  have hj:b≠S.nx:=fun e'=>by rw [e',hn] at hk';cases hk'
  simp only [ah,Ne.symm hi,Ne.symm hj,if_false,cI] at hba hbb
  rw [cB (hoth a hi)] at hk
  rw [cB (hoth b hj)] at hk'
  have back: ∀{x:Nat} {bx:Blk},(if j=x then some (Blk.var n' true (.agg (l.set o (.own S.nx)))) else ah S.H x)=some bx→aX bx=true→ ∃b',ah S.H x=some b'∧aX b'=true:=by
   intro x bx hx hp
   split at hx
   ·rename_i e;subst e;exact ⟨_,h,rfl⟩
   ·exact ⟨bx,hx,hp⟩
  obtain ⟨ba',h1,h2⟩:=back hba hpa
  obtain ⟨bb',h3,h4⟩:=back hbb hpb
  exact hs.1.sep a b ba' bb' k hab h1 h3 h2 h4 hk hk'
 ·intro i hi
  have:i≠S.nx:=fun e=>by subst e;simp only at hi;omega
  rw [hoth i this]
  exact hs.2 i (by simp only at hi;omega)
theorem qF {E:Env} {S:St} (j o T:Nat) {n' n:Nat} {g:Bool} {l:List V} (h:ah S.H j=some (.var n' true (.agg l))) (ho:l[o]? =some (.sl (some true) n g [])) (hg:g=false→n=1):
  cc E S ⟨S.F,(S.nx,.own T n g (some true) [])::cQ S.H j (.var n' true (.agg (l.set o (.own S.nx)))),S.nx+1⟩:=(zi j o T h ho hg).weak
theorem Gz {E:Env} {S:St} (j T:Nat) {n:Nat} {g:Bool} (h:ah S.H j=some (.var 1 false (.sl (some true) n g []))) (hg:g=false→n=1):
  g_ E S ⟨S.F,(S.nx,.own T n g (some true) [])::cQ S.H j (.var 1 false (.own S.nx)),S.nx+1⟩:=by
 intro c0 c ρ F hs
 have hf:ρ S.nx=none:=hs.2 _ (Nat.le_refl _)
 have hro:fX ρ (fun i=>if i=S.nx then some (.slice none 0 0) else ρ i):=lY hf fun i hi=>by simp [hi]
 have hat:(fun i=>if i=S.nx then some (Value.slice none 0 0) else ρ i) S.nx=some (.slice none 0 0):=by simp
 have hoth: ∀i,i≠S.nx→(fun i=>if i=S.nx then some (Value.slice none 0 0) else ρ i) i=ρ i:=fun i hi=>by simp [hi]
 generalize (fun i=>if i=S.nx then some (Value.slice none 0 0) else ρ i)=ρ' at hro hat hoth
 obtain ⟨b0,g1,g2,g3⟩:=hs.1.heap _ _ h
 have hjn:j≠S.nx:=fun e=>by rw [e,hf] at g1;cases g1
 refine ⟨c,ρ',rfl,Cx.pub.refl _,hro,⟨hs.1.since,hs.1.gl,fun t v ht=>cP hro (hs.1.slot t v ht),?_,?_⟩,?_⟩
 ·intro i b hb
  simp only [ah] at hb
  split at hb
  ·rename_i e';subst e';cases hb
   exact ⟨_,hat,Own.nil,fun k hk=>by simp [blk] at hk,hg,none,0,rfl,rfl,rfl⟩
  ·rename_i hin
   rw [cI] at hb
   split at hb
   ·rename_i e';subst e';cases hb
    obtain ⟨hX,T',cs,hh,hsh,hrd⟩:=g3
    refine ⟨b0,by rw [hoth _ hjn];exact g1,g2,hX,T',cs,hh,hsh,?_⟩
    have e:mkV false cs.toList= .slice none 0 0:=by
     simp only [rd,zOk] at hrd
     obtain ⟨a,cap,e,_,⟨rfl,rfl⟩,_⟩:=hrd
     exact e
    rw [e]
    exact ⟨hat,rfl⟩
   ·exact kG hro (hs.1.heap i b hb)
 ·intro a b ba bb k hab hba hbb hpa hpb hk hk'
  have hn:an ρ' S.nx=none:=by simp [an,hat,blk]
  have hi:a≠S.nx:=fun e'=>by rw [e',hn] at hk;cases hk
  have hj:b≠S.nx:=fun e'=>by rw [e',hn] at hk';cases hk'
  simp only [ah,Ne.symm hi,Ne.symm hj,if_false,cI] at hba hbb
  rw [cB (hoth a hi)] at hk
  rw [cB (hoth b hj)] at hk'
  have back: ∀{x:Nat} {bx:Blk},(if j=x then some (Blk.var 1 false (.own S.nx)) else ah S.H x)=some bx→aX bx=true→ ∃b',ah S.H x=some b'∧aX b'=true:=by
   intro x bx hx hp
   split at hx
   ·rename_i e;subst e;exact ⟨_,h,rfl⟩
   ·exact ⟨bx,hx,hp⟩
  obtain ⟨ba',h1,h2⟩:=back hba hpa
  obtain ⟨bb',h3,h4⟩:=back hbb hpb
  exact hs.1.sep a b ba' bb' k hab h1 h3 h2 h4 hk hk'
 ·intro i hi
  have:i≠S.nx:=fun e=>by subst e;simp only at hi;omega
  rw [hoth i this]
  exact hs.2 i (by simp only at hi;omega)
theorem GA {E:Env} {S:St} (j T:Nat) {n:Nat} {g:Bool} (h:ah S.H j=some (.var 1 false (.sl (some true) n g []))) (hg:g=false→n=1):
  cc E S ⟨S.F,(S.nx,.own T n g (some true) [])::cQ S.H j (.var 1 false (.own S.nx)),S.nx+1⟩:=(Gz j T h hg).weak
end Go.Proofs.YtcbbjfckokckcaaGreatDoor
namespace Go.Proofs.YtcbbjfckokckcaaGreatDoor
open Go.RowKit
@[go_sem] theorem Lp {α:Type} {a:α} {l m:List α}:List.append (a::l) m=a::List.append l m:=Eq.trans rfl rfl
@[go_sem] theorem Lq {α:Type} {m:List α}:List.append [] m=m:=Eq.trans rfl rfl
attribute [go_sem] Int.cast_ofNat_Int
@[go_sem] theorem Lr {l:List UInt8}:(l.toArray.size≤LEN)=(l.length≤1073741824):=by rw [List.size_toArray];rfl
theorem spQ {P Q:Prop} (h:Q) (e:P=Q:=by (simp only [go_sem,aE,aF,List.length_replicate,aD,Int.toNat_natCast,↓reduceIte,Nat.reduceEqDiff,Nat.reduceAdd,Int.reduceAdd,Nat.reduceMul,Nat.reduceLeDiff,Nat.reduceLT,Int.reduceLE,Int.reduceLT,Int.reduceNeg,Int.reduceToNat];rfl)):P:=e▸h
theorem aa {A P Q:Prop} (a:A) (h:Q) (e:A→P=Q:=by (intro hA;simp only [go_sem,aE,aF,List.length_replicate,aD,Int.toNat_natCast,↓reduceIte,Nat.reduceEqDiff,Nat.reduceAdd,Int.reduceAdd,Nat.reduceMul,Nat.reduceLeDiff,Nat.reduceLT,Int.reduceLE,Int.reduceLT,Int.reduceNeg,Int.reduceToNat,hA];rfl)):P:=e a▸h
theorem clQ {P:Prop} (h:P:=by (simp only [go_sem,aE,aF,List.length_replicate,aD,Int.toNat_natCast,↓reduceIte,Nat.reduceEqDiff,Nat.reduceAdd,Int.reduceAdd,Nat.reduceMul,Nat.reduceLeDiff,Nat.reduceLT,Int.reduceLE,Int.reduceLT,Int.reduceNeg,Int.reduceToNat,bm,bn,Int.reduceSub,or_self,or_true,true_or]<;>fail)):P:=h
theorem aC {A P:Prop} (a:A) (h:A→P:=by (intro hA;simp only [go_sem,aE,aF,List.length_replicate,aD,Int.toNat_natCast,↓reduceIte,Nat.reduceEqDiff,Nat.reduceAdd,Int.reduceAdd,Nat.reduceMul,Nat.reduceLeDiff,Nat.reduceLT,Int.reduceLE,Int.reduceLT,Int.reduceNeg,Int.reduceToNat,bm,bn,Int.reduceSub,or_self,or_true,true_or,hA]<;>fail)):P:=h a
theorem lfQ {P:Prop} (h:P:=by (simp only [go_sem,aE,aF,List.length_replicate,aD,Int.toNat_natCast,↓reduceIte,Nat.reduceEqDiff,Nat.reduceAdd,Int.reduceAdd,Nat.reduceMul,Nat.reduceLeDiff,Nat.reduceLT,Int.reduceLE,Int.reduceLT,Int.reduceNeg,Int.reduceToNat,bm,bn,Int.reduceSub,or_self,or_true,true_or]<;>fail)):P:=h
theorem az {A P:Prop} (a:A) (h:A→P:=by (intro hA;simp only [go_sem,aE,aF,List.length_replicate,aD,Int.toNat_natCast,↓reduceIte,Nat.reduceEqDiff,Nat.reduceAdd,Int.reduceAdd,Nat.reduceMul,Nat.reduceLeDiff,Nat.reduceLT,Int.reduceLE,Int.reduceLT,Int.reduceNeg,Int.reduceToNat,bm,bn,Int.reduceSub,or_self,or_true,true_or,hA]<;>fail)):P:=h a
theorem sbQ {P:Prop} (h:P:=by (simp only [go_sem,aE,aF,List.length_replicate,aD,Int.toNat_natCast,↓reduceIte,Nat.reduceEqDiff,Nat.reduceAdd,Int.reduceAdd,Nat.reduceMul,Nat.reduceLeDiff,Nat.reduceLT,Int.reduceLE,Int.reduceLT,Int.reduceNeg,Int.reduceToNat,br,gz,g9,cJ,cK,mtO,mtB,mt,mtL,aL,aK,ltV,ltL,ltB,eq_self,or_true,true_or,or_self,and_self]<;>fail)):P:=h
theorem zj {A P:Prop} (a:A) (h:A→P:=by (intro hA;simp only [go_sem,aE,aF,List.length_replicate,aD,Int.toNat_natCast,↓reduceIte,Nat.reduceEqDiff,Nat.reduceAdd,Int.reduceAdd,Nat.reduceMul,Nat.reduceLeDiff,Nat.reduceLT,Int.reduceLE,Int.reduceLT,Int.reduceNeg,Int.reduceToNat,br,gz,g9,cJ,cK,mtO,mtB,mt,mtL,aL,aK,ltV,ltL,ltB,eq_self,or_true,true_or,or_self,and_self,hA]<;>fail)):P:=h a
theorem alQ {P:Prop} (h:P:=by first|(simp only [go_sem,aE,aF,List.length_replicate,aD,Int.toNat_natCast,↓reduceIte,Nat.reduceEqDiff,Nat.reduceAdd,Int.reduceAdd,Nat.reduceMul,Nat.reduceLeDiff,Nat.reduceLT,Int.reduceLE,Int.reduceLT,Int.reduceNeg,Int.reduceToNat,List.all_nil,List.all_cons];done)|rfl):P:=h
theorem nzQ {P Q:Prop} (h:P) (e:P=Q:=by first|(simp only [decide_eq_true_eq,decide_eq_false_iff_not,Bool.and_eq_true,Bool.or_eq_true,Bool.not_eq_true',Bool.not_eq_false',beq_iff_eq,bne_iff_ne,beq_eq_false_iff_ne,bne_eq_false_iff_eq,ne_eq,Int.not_lt,Int.not_le,gt_iff_lt,ge_iff_le,List.length_map,wfL,wfV,and_true,true_and,dF,gn,go,gp,gu,eX,eD,List.length_append,List.length_cons,List.length_nil,List.length_replicate,aD,eY,eZ,fb,ce,eE,gw];rfl)|rfl):Q:=e▸h
theorem omQ {P:Prop} (h:P:=by (clear hM;(try simp only [List.length_map,List.length_set,eX,eD,List.length_append,List.length_cons,List.length_nil,List.length_replicate,aD,eY,eZ,fb,ce,eE,decide_eq_true_eq])<;>omega)):P:=h
theorem aq {P:Prop} (h:P:=by ((try simp only [List.length_map,List.length_set,eX,eD,List.length_append,List.length_cons,List.length_nil,List.length_replicate,aD,eY,eZ,fb,ce,eE,decide_eq_true_eq])<;>omega)):P:=h
theorem pfQ {P:Prop} (h:P:=by (clear hM;first|omega|(simp only [decide_eq_true_eq,decide_eq_false_iff_not,Bool.and_eq_true,Bool.or_eq_true,Bool.not_eq_true',Bool.not_eq_false',beq_iff_eq,bne_iff_ne,beq_eq_false_iff_ne,bne_eq_false_iff_eq,ne_eq,Int.not_lt,Int.not_le,gt_iff_lt,ge_iff_le,List.length_map,wfL,wfV,and_true,true_and,dF,gn,go,gp,gu,eX,eD,List.length_append,List.length_cons,List.length_nil,List.length_replicate,aD,eY,eZ,fb,ce,eE,gw] at*;omega))):P:=h
theorem spR {P Q:Prop} (h:P) (e:P=Q:=by first|(simp only [go_sem,aE,aF,List.length_replicate,aD,Int.toNat_natCast,↓reduceIte,Nat.reduceEqDiff,Nat.reduceAdd,Int.reduceAdd,Nat.reduceMul,Nat.reduceLeDiff,Nat.reduceLT,Int.reduceLE,Int.reduceLT,Int.reduceNeg,Int.reduceToNat];rfl)|rfl):Q:=e▸h
end Go.Proofs.YtcbbjfckokckcaaGreatDoor
namespace Go.Proofs.YtcbbjfckokckcaaGreatDoor
open Go.RowKit
section
variable {E:Env} {J:cq} {k:List Ct} {S S1:St} {c0 c:Cx} {ρ:Ro} {F:Fm}
mutual
def ren (s:Nat→Nat):V→V
 | .own i=> .own (s i)
 | .ptr i o=> .ptr (s i) o
 | .optr i m k o=> .optr (s i) m k o
 | .osub i m k o=> .osub (s i) m k o
 | .agg l=> .agg (iX s l)
 | .tup l=> .tup (iX s l)
 | .fn f l=> .fn f (iX s l)
 | v=>v
def iX (s:Nat→Nat):List V→List V
 | []=> []
 | d::l=>ren s d::iX s l
end
mutual
theorem qG {ρ':Ro} {s:Nat→Nat} (k: ∀i v,ρ i=some v→ρ' (s i)=some v): ∀{d:V} {v:Value},rd ρ c d v→rd ρ' c (ren s d) v
 | .int _ _,_,h=>h
 | .bool _,_,h=>h
 | .ifc _,_,h=>h
 | .str _,_,h=>h
 | .agg l,v,h=>by
  simp only [rd,ren] at h⊢
  obtain ⟨cs,e,h⟩:=h
  exact ⟨cs,e,zk k h⟩
 | .sl z n g l,v,h=>h
 | .pp n g d,v,h=>h
 | .own _,_,h=>⟨k _ _ h.1,h.2⟩
 | .ptr _ _,_,h=>by
  simp only [rd,ren] at h⊢
  obtain ⟨b,h1,h2⟩:=h
  exact ⟨b,k _ _ h1,h2⟩
 | .optr _ _ _ _,_,h=>by
  simp only [rd,ren] at h⊢
  obtain ⟨u,h1,h2⟩:=h
  exact ⟨u,k _ _ h1,h2⟩
 | .osub _ _ _ _,_,h=>by
  simp only [rd,ren] at h⊢
  obtain ⟨u,h1,h2⟩:=h
  exact ⟨u,k _ _ h1,h2⟩
 | .tup l,v,h=>by
  simp only [rd,ren] at h⊢
  obtain ⟨cs,e,h⟩:=h
  exact ⟨cs,e,uC k h⟩
 | .fn f l,v,h=>by
  simp only [rd,ren] at h⊢
  obtain ⟨cs,e,h⟩:=h
  exact ⟨cs,e,uC k h⟩
 | .opq p,v,h=>h
 | .un,_,_=>trivial
theorem zk {ρ':Ro} {s:Nat→Nat} (k: ∀i v,ρ i=some v→ρ' (s i)=some v): ∀{l:List V} {cs:List Value},rdC ρ c l cs→rdC ρ' c (iX s l) cs
 | [],_,h=>h
 | d::l,cs,h=>by
  simp only [rdC,iX] at h⊢
  obtain ⟨u,c2,e,h1,h2,h3⟩:=h
  exact ⟨u,c2,e,h1,qG k h2,zk k h3⟩
theorem uC {ρ':Ro} {s:Nat→Nat} (k: ∀i v,ρ i=some v→ρ' (s i)=some v): ∀{l:List V} {cs:List Value},rdT ρ c l cs→rdT ρ' c (iX s l) cs
 | [],_,h=>h
 | d::l,cs,h=>by
  simp only [rdT,iX] at h⊢
  obtain ⟨u,c2,e,h2,h3⟩:=h
  exact ⟨u,c2,e,qG k h2,uC k h3⟩
end
def hO (s:Nat→Nat):Blk→Blk
 | .var n g d=> .var n g (ren s d)
 | b=>b
def eG (s:Nat→Nat):List Blk→List Blk
 | []=> []
 | b::l=>hO s b::eG s l
theorem uD {s:Nat→Nat}: ∀{l:List Blk} {j:Nat},(eG s l)[j]? =(l[j]?).map (hO s)
 | [],j=>by simp [eG]
 | b::l,0=>by simp [eG]
 | b::l,j+1=>by simp [eG,uD (l:=l)]
mutual
def prV (p:Nat→Bool):V→V
 | .own i=>bif p i then .un else .own i
 | .ptr i o=>bif p i then .un else .ptr i o
 | .optr i n k o=>bif p i then .un else .optr i n k o
 | .osub i n k o=>bif p i then .un else .osub i n k o
 | .agg l=> .agg (prL p l)
 | .tup l=> .tup (prL p l)
 | .fn f l=> .fn f (prL p l)
 | v=>v
def prL (p:Nat→Bool):List V→List V
 | []=> []
 | d::l=>prV p d::prL p l
end
mutual
theorem mv {ρ':Ro} {p:Nat→Bool} (k: ∀i v,p i=false→ρ i=some v→ρ' i=some v): ∀{d:V} {v:Value},rd ρ c d v→rd ρ' c (prV p d) v
 | .int _ _,_,h=>h
 | .bool _,_,h=>h
 | .ifc _,_,h=>h
 | .str _,_,h=>h
 | .agg l,v,h=>by
  simp only [rd,prV] at h⊢
  obtain ⟨cs,e,h⟩:=h
  exact ⟨cs,e,zl k h⟩
 | .sl z n g l,v,h=>h
 | .pp n g d,v,h=>h
 | .own i,v,h=>by
  simp only [prV]
  cases hp:p i with
  | true=>trivial
  | false=>exact ⟨k _ _ hp h.1,h.2⟩
 | .ptr i o,v,h=>by
  simp only [prV]
  cases hp:p i with
  | true=>trivial
  | false=>
   simp only [cond_false,rd] at h⊢
   obtain ⟨b,h1,h2⟩:=h
   exact ⟨b,k _ _ hp h1,h2⟩
 | .optr i n j o,v,h=>by
  simp only [prV]
  cases hp:p i with
  | true=>trivial
  | false=>
   simp only [cond_false,rd] at h⊢
   obtain ⟨u,h1,h2⟩:=h
   exact ⟨u,k _ _ hp h1,h2⟩
 | .osub i n j o,v,h=>by
  simp only [prV]
  cases hp:p i with
  | true=>trivial
  | false=>
   simp only [cond_false,rd] at h⊢
   obtain ⟨u,h1,h2⟩:=h
   exact ⟨u,k _ _ hp h1,h2⟩
 | .tup l,v,h=>by
  simp only [rd,prV] at h⊢
  obtain ⟨cs,e,h⟩:=h
  exact ⟨cs,e,uE k h⟩
 | .fn f l,v,h=>by
  simp only [rd,prV] at h⊢
  obtain ⟨cs,e,h⟩:=h
  exact ⟨cs,e,uE k h⟩
 | .opq p,v,h=>h
 | .un,_,_=>trivial
theorem zl {ρ':Ro} {p:Nat→Bool} (k: ∀i v,p i=false→ρ i=some v→ρ' i=some v): ∀{l:List V} {cs:List Value},rdC ρ c l cs→rdC ρ' c (prL p l) cs
 | [],_,h=>h
 | d::l,cs,h=>by
  simp only [rdC,prL] at h⊢
  obtain ⟨u,c2,e,h1,h2,h3⟩:=h
  exact ⟨u,c2,e,h1,mv k h2,zl k h3⟩
theorem uE {ρ':Ro} {p:Nat→Bool} (k: ∀i v,p i=false→ρ i=some v→ρ' i=some v): ∀{l:List V} {cs:List Value},rdT ρ c l cs→rdT ρ' c (prL p l) cs
 | [],_,h=>h
 | d::l,cs,h=>by
  simp only [rdT,prL] at h⊢
  obtain ⟨u,c2,e,h2,h3⟩:=h
  exact ⟨u,c2,e,mv k h2,uE k h3⟩
end
theorem zm {p:Nat→Bool}: ∀{l:List V},prL p l=l.map (prV p)
 | []=>rfl
 | d::l=>by simp only [prL,List.map_cons,zm]
def prB (p:Nat→Bool):Blk→Blk
 | .var n g d=> .var n g (prV p d)
 | .lent k n g d=> .lent k n g (prV p d)
 | .ownI E n g z l=> .ownI E n g z (prL p l)
 | b=>b
def prF (p:Nat→Bool):List (Nat×V)→List (Nat×V)
 | []=> []
 | (t,v)::l=>(t,prV p v)::prF p l
def prH (p:Nat→Bool):List (Nat×Blk)→List (Nat×Blk)
 | []=> []
 | (t,b)::l=>(t,prB p b)::prH p l
theorem zn {p:Nat→Bool}: ∀{l:List (Nat×V)} {t:Nat},ah (prF p l) t=(ah l t).map (prV p)
 | [],_=>rfl
 | (k,v)::l,t=>by
  simp only [prF,ah]
  split
  ·rfl
  ·exact zn
theorem zo {p:Nat→Bool}: ∀{l:List (Nat×Blk)} {t:Nat},ah (prH p l) t=(ah l t).map (prB p)
 | [],_=>rfl
 | (k,v)::l,t=>by
  simp only [prH,ah]
  split
  ·rfl
  ·exact zo
theorem GB {p:Nat→Bool} {b:Blk}:aX (prB p b)=aX b:=by cases b<;>rfl
theorem zp {i:Nat} {b:Blk} (h:blkOk c0 c ρ i b): ∃v,ρ i=some v:=by
 cases b with
 | var n g d=>obtain ⟨b,h1,_⟩:=h;exact ⟨_,h1⟩
 | own E n g z l=>obtain ⟨v,h1,_⟩:=h;exact ⟨_,h1⟩
 | ownI E n g z l=>obtain ⟨v,h1,_⟩:=h;exact ⟨_,h1⟩
 | pvar n g d=>obtain ⟨b,h1,_⟩:=h;exact ⟨_,h1⟩
 | kset g k n l=>obtain ⟨r,h1,_⟩:=h;exact ⟨_,h1⟩
 | pown n g z l=>obtain ⟨v,h1,_⟩:=h;exact ⟨_,h1⟩
 | lent k n g d=>exact ⟨_,h.1⟩
def fF (k:Nat):Blk→Blk
 | .var n g d=> .lent k n g d
 | b=>b
def cf (ks:Nat→Nat):Nat→List Blk→List Blk
 | _,[]=> []
 | i,b::l=>fF (ks i) b::cf ks (i+1) l
theorem mw {ks:Nat→Nat}: ∀{l:List Blk} {i j:Nat},(cf ks i l)[j]? =(l[j]?).map (fF (ks (i+j)))
 | [],i,j=>by simp [cf]
 | b::l,i,0=>by simp [cf]
 | b::l,i,j+1=>by simp [cf,mw (l:=l),Nat.add_comm,Nat.add_left_comm,Nat.add_assoc]
theorem qH {ks:Nat→Nat}: ∀{l:List Blk} {i:Nat},(cf ks i l).length=l.length
 | [],i=>rfl
 | b::l,i=>by simp [cf,qH (l:=l)]
def nT (c0 c:Cx) (ρ:Ro) (H:List Blk):Prop:=
 (∀i b,H[i]? =some b→blkOk c0 c ρ i b)∧(∀i,H.length≤i→ρ i=none)∧
  ∀i j bi bj k,i≠j→H[i]? =some bi→H[j]? =some bj→an ρ i=some k→an ρ j≠some k
def hP:List Blk→List Blk→Bool
 | [],[]=>true
 | .var _ _ _::l,.var _ _ _::m=>hP l m
 | .own _ _ _ _ _::l,.own _ _ _ _ _::m=>hP l m
 | _,_=>false
def kS:List Blk→Bool
 | []=>true
 | .own _ _ _ _ _::l=>kS l
 | _=>false
def iY:Blk→Prop
 | .var _ _ _=>True
 | _=>False
def dR:Blk→Prop
 | .own _ _ _ _ _=>True
 | _=>False
theorem uF: ∀{l m:List Blk},hP l m=true→l.length=m.length∧ ∀(j:Nat) (b b':Blk),l[j]? =some b→m[j]? =some b'→(iY b∧iY b')∨(dR b∧dR b')
 | [],[],_=>⟨rfl,by simp⟩
 | a::l,a'::m,h=>by
  have key:hP l m=true∧((iY a∧iY a')∨(dR a∧dR a')):=by
   cases a<;>cases a'<;>simp only [hP] at h<;>first
    | exact ⟨h,.inl ⟨trivial,trivial⟩⟩
    | exact ⟨h,.inr ⟨trivial,trivial⟩⟩
    | cases h
  obtain ⟨h1,h2⟩:=uF key.1
  refine ⟨by simp [h1],fun j b b' hb hb'=> ?_⟩
  cases j with
  | zero=>simp at hb hb';subst hb hb';exact key.2
  | succ j=>exact h2 j b b' (by simpa using hb) (by simpa using hb')
 | [],_::_,h=>by simp [hP] at h
 | a::_,[],h=>by cases a<;>simp [hP] at h
theorem uG: ∀{l:List Blk},kS l=true→ ∀(j:Nat) (b:Blk),l[j]? =some b→dR b
 | [],_,j,b,hb=>by simp at hb
 | a::l,h,j,b,hb=>by
  have key:kS l=true∧dR a:=by
   cases a<;>simp only [kS] at h<;>first
    | exact ⟨h,trivial⟩
    | cases h
  cases j with
  | zero=>simp at hb;subst hb;exact key.2
  | succ j=>exact uG key.1 j b (by simpa using hb)
def GC (E:Env) (c:Cx) (r:V) (H:List Blk):Ending→World→Prop:=fun e w'=> ∃v c' ρ,e= .returned v∧c'.w=w'∧c.leY c'∧rd ρ c' r v∧nT c c' ρ H
def cZ (E:Env) (f:FuncId) (ws:List V) (Hin:List Blk) (r:V) (Hout Hnew:List Blk):Prop:=
 (∀aas w,(callFunc f aas).run E.P w= .ok (.enter f aas) w)∧(hP Hin Hout&&kS Hnew)=true∧
  ∀(c:Cx) (us:List Value) (ρ0:Ro) (ks:Nat→Nat),Gl E c→nT c c ρ0 (cf ks 0 Hin)→rdT ρ0 c ws us→Calls E.P f us.toArray c.w (GC E c r (cf ks 0 Hout++Hnew))
mutual
def inV (H:List (Nat×Blk)) (ids:List Nat):V→V
 | .own i=>match dx ids i 0 with
  | some j=> .own j
  | none=>uv (ah H i)
 | .ptr i o=>match dx ids i 0 with
  | some j=> .ptr j o
  | none=>qB o (ah H i)
 | .optr _ _ _ _=> .un
 | .osub _ _ _ _=> .un
 | .agg l=> .agg (eH H ids l)
 | .tup l=> .tup (eH H ids l)
 | .fn f l=> .fn f (eH H ids l)
 | v=>v
def eH (H:List (Nat×Blk)) (ids:List Nat):List V→List V
 | []=> []
 | d::l=>inV H ids d::eH H ids l
end
theorem qI {i:Nat} {v:Value} (h:ro0 i=some v):False:=by cases h
mutual
theorem qJ {ids:List Nat} (h:Sim E c0 c ρ S F): ∀{d:V} {v:Value},rd ρ c d v→rd (bY ρ ids) c (inV S.H ids d) v
 | .int _ _,_,hr=>hr
 | .bool _,_,hr=>hr
 | .ifc _,_,hr=>hr
 | .str _,_,hr=>hr
 | .agg l,v,hr=>by
  simp only [rd,inV] at hr⊢
  obtain ⟨cs,e,hr⟩:=hr
  exact ⟨cs,e,zq h hr⟩
 | .sl z n g l,v,hr=>hr
 | .pp n g d,v,hr=>hr
 | .own i,v,hr=>by
  simp only [inV]
  cases hp:dx ids i 0 with
  | some j=>
   simp only [rd] at hr⊢
   obtain ⟨_,h2⟩:=mu hp
   exact ⟨by simp only [bY];rw [show j - 0=j from rfl] at h2;rw [h2];exact hr.1,hr.2⟩
  | none=>exact cP (fun i v hi=>(qI hi).elim) (qC (d:= .own i) h hr)
 | .ptr i o,v,hr=>by
  simp only [inV]
  cases hp:dx ids i 0 with
  | some j=>
   simp only [rd] at hr⊢
   obtain ⟨b,h1,h3⟩:=hr
   obtain ⟨_,h2⟩:=mu hp
   exact ⟨b,by simp only [bY];rw [show j - 0=j from rfl] at h2;rw [h2];exact h1,h3⟩
  | none=>exact cP (fun i v hi=>(qI hi).elim) (qC (d:= .ptr i o) h hr)
 | .optr _ _ _ _,_,_=>trivial
 | .osub _ _ _ _,_,_=>trivial
 | .tup l,v,hr=>by
  simp only [rd,inV] at hr⊢
  obtain ⟨cs,e,hr⟩:=hr
  exact ⟨cs,e,kT h hr⟩
 | .fn f l,v,hr=>by
  simp only [rd,inV] at hr⊢
  obtain ⟨cs,e,hr⟩:=hr
  exact ⟨cs,e,kT h hr⟩
 | .opq p,v,hr=>hr
 | .un,_,_=>trivial
theorem zq {ids:List Nat} (h:Sim E c0 c ρ S F): ∀{l:List V} {cs:List Value},rdC ρ c l cs→rdC (bY ρ ids) c (eH S.H ids l) cs
 | [],_,hr=>hr
 | d::l,cs,hr=>by
  simp only [rdC,eH] at hr⊢
  obtain ⟨u,c2,e,h1,h2,h3⟩:=hr
  exact ⟨u,c2,e,h1,qJ h h2,zq h h3⟩
theorem kT {ids:List Nat} (h:Sim E c0 c ρ S F): ∀{l:List V} {cs:List Value},rdT ρ c l cs→rdT (bY ρ ids) c (eH S.H ids l) cs
 | [],_,hr=>hr
 | d::l,cs,hr=>by
  simp only [rdT,eH] at hr⊢
  obtain ⟨u,c2,e,h2,h3⟩:=hr
  exact ⟨u,c2,e,qJ h h2,kT h h3⟩
end
theorem zr {T n:Nat} {g:Bool} {l l':List V} {v:Value} (h:Own c T v (rV ro0 n g) l) (hm:mtL l l'):Own c T v (rV ro0 n g) l':=by
 have e:=jD hm
 refine ⟨by rw [←e];exact h.1,?_⟩
 rcases h.2 with ⟨a,h1,h2⟩|⟨g',cp,cur,h1,h2,h3,h4,h5,h6,h7⟩
 ·subst h2
  cases l' with
  | nil=>exact .inl ⟨a,h1,rfl⟩
  | cons x l'=>simp [mtL] at hm
 ·exact .inr ⟨g',cp,cur,by rw [←e];exact h1,h2,h3,by rw [←e];exact h4,h5,h6,by rw [←e];exact dL.1 (qf hm (dL.2 h7))⟩
def inO (H:List (Nat×Blk)) (ids:List Nat):Option Blk→Blk→Prop
 | some (.own T n g z l),.own T' n' g' z' l'=>T=T'∧n=n'∧g=g'∧mtZ z z'∧mtL l l'
 | some (.var n g d),.var n' g' d'=>n=n'∧g=g'∧mt (inV H ids d) d'
 | some (.lent _ n g d),.var n' g' d'=>n=n'∧g=g'∧mt (inV H ids d) d'
 | _,_=>False
def eI (H:List (Nat×Blk)) (ids:List Nat):List Nat→List Blk→Prop
 | [],[]=>True
 | i::l,b::m=>inO H ids (ah H i) b∧eI H ids l m
 | _,_=>False
theorem mx {H:List (Nat×Blk)} {ids:List Nat}: ∀{l:List Nat} {m:List Blk},eI H ids l m→l.length=m.length∧ ∀(j i:Nat) (b:Blk),l[j]? =some i→m[j]? =some b→inO H ids (ah H i) b
 | [],[],_=>⟨rfl,by simp⟩
 | i::l,b::m,h=>by
  simp only [eI] at h
  obtain ⟨h1,h2⟩:=mx h.2
  refine ⟨by simp [h1],fun j i' b' hi hb=> ?_⟩
  cases j with
  | zero=>simp at hi hb;subst hi hb;exact h.1
  | succ j=>exact h2 j i' b' (by simpa using hi) (by simpa using hb)
 | [],_::_,h=>by simp [eI] at h
 | _::_,[],h=>by simp [eI] at h
def dS (H:List (Nat×Blk)):List Nat→List Nat
 | []=> []
 | i::l=>ownI1 (ah H i) i (dS H l)
where ownI1:Option Blk→Nat→List Nat→List Nat
 | some (.own _ _ _ _ _),i,l=>i::l
 | _,_,l=>l
theorem zt {H:List (Nat×Blk)} {i:Nat} {T n:Nat} {g:Bool} {z:Option Bool} {m:List V} (hb:ah H i=some (.own T n g z m)): ∀{l:List Nat},i∈l→i∈dS H l
 | j::l,h=>by
  simp only [dS]
  rcases List.mem_cons.1 h with rfl|h
  ·rw [hb];simp [dS.ownI1]
  ·have:=zt hb h
   unfold dS.ownI1
   split
   ·exact List.mem_cons_of_mem _ this
   ·exact this
def sg (ids:List Nat) (nx j:Nat):Nat:=match ids[j]? with
 | some i=>i
 | none=>nx+(j - ids.length)
def hZ:Option Blk→Blk→Blk
 | some (.lent k _ _ _),.var n g d=> .lent k n g d
 | _,b=>b
def gA (H0:List (Nat×Blk)):List (Nat×Blk)→List Nat→List Blk→List (Nat×Blk)
 | h,i::l,b::m=>gA H0 (cQ h i (hZ (ah H0 i) b)) l m
 | h,_,_=>h
theorem uH {H0:List (Nat×Blk)} {i:Nat}: ∀{l:List Nat} {m:List Blk} {h:List (Nat×Blk)},i∉l→ah (gA H0 h l m) i=ah h i
 | [],[],_,_=>rfl
 | [],_::_,_,_=>rfl
 | _::_,[],_,_=>rfl
 | j::l,b::m,h,hi=>by
  simp only [List.mem_cons,not_or] at hi
  simp only [gA]
  rw [uH hi.2,cI,if_neg (Ne.symm hi.1)]
theorem zu {H0:List (Nat×Blk)} {i:Nat} {b:Blk}: ∀{l:List Nat} {m:List Blk} {h:List (Nat×Blk)} {j:Nat},l.Nodup→l[j]? =some i→m[j]? =some b→ah (gA H0 h l m) i=some (hZ (ah H0 i) b)
 | [],_,_,j,_,hi,_=>by simp at hi
 | _::_,[],_,j,_,_,hb=>by simp at hb
 | x::l,y::m,h,0,hd,hi,hb=>by
  simp at hi hb
  subst hi hb
  simp only [gA]
  rw [uH (List.nodup_cons.1 hd).1,cI,if_pos rfl]
 | x::l,y::m,h,j+1,hd,hi,hb=>by
  simp only [gA]
  exact zu (List.nodup_cons.1 hd).2 (by simpa using hi) (by simpa using hb)
def St.afterI (S:St) (ids:List Nat) (Hout Hnew:List Blk) (d:Option Nat) (r:V):St:=
 St.put ⟨prF (bw (dS S.H ids)) S.F,fZ S.nx 0 (eG (sg ids S.nx) Hnew)++gA S.H (prH (bw (dS S.H ids)) S.H) ids (eG (sg ids S.nx) Hout),S.nx+Hnew.length⟩ d (ren (sg ids S.nx) r)
def ro2 (ids:List Nat) (nx:Nat) (ρ ρr:Ro):Ro:=fun i=>match dx ids i 0 with
 | some j=>ρr j
 | none=>if i<nx then ρ i else ρr (ids.length+(i - nx))
theorem GD {ids:List Nat} {i j:Nat} (hd:ids.Nodup) (h:ids[j]? =some i):dx ids i 0=some j:=by
 cases hp:dx ids i 0 with
 | none=>exact absurd (List.mem_of_getElem? h) (uw hp)
 | some q=>
  obtain ⟨_,h2⟩:=mu hp
  rw [nS hd h h2]
  rfl
theorem zw {ids:List Nat} {i:Nat} (h:i∉ids):dx ids i 0=none:=by
 cases hp:dx ids i 0 with
 | none=>rfl
 | some q=>
  obtain ⟨_,h2⟩:=mu hp
  exact absurd (List.mem_of_getElem? h2) h
theorem qK {ids:List Nat} {nx i j:Nat} {ρr:Ro} (hd:ids.Nodup) (h:ids[j]? =some i):ro2 ids nx ρ ρr i=ρr j:=by
 simp only [ro2,GD hd h]
theorem my {ids:List Nat} {nx i:Nat} {ρr:Ro} (h:i∉ids) (hi:i<nx):ro2 ids nx ρ ρr i=ρ i:=by
 simp only [ro2,zw h,if_pos hi]
theorem zx {ids:List Nat} {nx i:Nat} {ρr:Ro} (h: ∀j∈ids,j<nx) (hi:nx≤i):ro2 ids nx ρ ρr i=ρr (ids.length+(i - nx)):=by
 have:i∉ids:=fun e=>by have:=h i e;omega
 simp only [ro2,zw this,if_neg (Nat.not_lt.2 hi)]
theorem GE {ids:List Nat} {nx:Nat} {ρr:Ro} (hd:ids.Nodup) (h: ∀j∈ids,j<nx) (j:Nat):ro2 ids nx ρ ρr (sg ids nx j)=ρr j:=by
 unfold sg
 cases hj:ids[j]? with
 | some i=>exact qK hd hj
 | none=>
  have hle:=List.getElem?_eq_none_iff.1 hj
  rw [zx h (Nat.le_add_right _ _)]
  congr 1;omega
theorem Var.leY {α:Type} {c c':Cx} {b:Nat} {r:Rep α} {d:α} (h:c.leY c') (hp:c.pub c') (hb:b∉c.Y) (hv:Var c b r d):Var c' b r d:=by
 obtain ⟨h1,T,cs,h2,h3⟩:=hv
 have hlt:=c.ok b h1
 exact ⟨(h.old b hlt hb).2 h1,T,cs,(h.below.block b hlt hb).trans h2,r.mono h3 hp⟩
theorem Own.leY {α:Type} {c c':Cx} {E:TypeId} {v:Value} {r:Rep α} {l:List α} (ho:Own c E v r l) (h:c.leY c') (hp:c.pub c') (hb: ∀i,blk v=some i→i∉c.Y):Own c' E v r l:=by
 refine ⟨ho.1,?_⟩
 rcases ho.2 with h'|⟨g',cap,cur,rfl,h1,h2,h3,h4,h5,h6⟩
 ·exact .inl h'
 ·have hlt:=c.ok g' h1
  exact .inr ⟨g',cap,cur,rfl,(h.old g' hlt (hb g' rfl)).2 h1,(h.below.block g' hlt (hb g' rfl)).trans h2,h3,h4,h5,c7 hp h6⟩
theorem dY.leY {c c':Cx} {r:Nat} {g:Bool} {k:IntKind} {n:Nat} {l:List (List Int)} (h:c.leY c') (hb:r∉c.Y) (hv:dY c r g k n l):dY c' r g k n l:=by
 obtain ⟨h1,h2,es,clock,h3,h4⟩:=hv
 have hlt:=c.ok r h1
 exact ⟨(h.old r hlt hb).2 h1,h2,es,clock,(h.below.block r hlt hb).trans h3,h4⟩
theorem GF {Y:List Nat} {c':Cx} (h:(c.lend Y).leY c') (hp:c.pub c') {i:Nat} {b:Blk} (hne:aX b=true→ ∀x,an ρ i=some x→x∉Y) (hb:blkOk c0 c ρ i b):blkOk c0 c' ρ i b:=by
 have hp':(c.lend Y).pub c':=⟨hp.size,fun k hk hx=>hp.keep k hk hx⟩
 cases b with
 | var n g d=>
  obtain ⟨b,h1,h2,h3⟩:=hb
  exact ⟨b,h1,h2,Var.leY h hp' (hne rfl b (by simp [an,h1])) ((c.chg_lend Y).var (by simp) h3)⟩
 | own E n g z l=>
  obtain ⟨v,h1,h2,h3,h4,a,cap,e,h5⟩:=hb
  exact ⟨v,h1,(h2.chg (c.chg_lend Y) (by simp)).leY h hp' (fun x hx=>hne rfl x (by rw [dD h1 e];exact hx)),h3,h4,a,cap,e,h5⟩
 | ownI E n g z l=>
  obtain ⟨v,h1,h2,h3,h4,a,cap,e,h5⟩:=hb
  exact ⟨v,h1,(h2.chg (c.chg_lend Y) (by simp)).leY h hp' (fun x hx=>hne rfl x (by rw [dD h1 e];exact hx)),h3,h4,a,cap,e,h5⟩
 | kset g k' n l=>
  obtain ⟨r,h1,h2,h3⟩:=hb
  exact ⟨r,h1,h2,dY.leY h (hne rfl r (by simp [an,h1,blk])) (h3.chg (c.chg_lend Y) (by simp))⟩
 | pvar n g d=>
  obtain ⟨b,h1,h2⟩:=hb
  exact ⟨b,h1,(kr _).mono h2 hp⟩
 | pown n g z l=>
  obtain ⟨v,h1,h2⟩:=hb
  exact ⟨v,h1,bB hp h2⟩
 | lent k' n g d=>
  obtain ⟨h1,h2,h3⟩:=hb
  exact ⟨h1,h2,Var.leY h hp' (hne rfl k' (by simp [an,h1])) ((c.chg_lend Y).var (by simp) h3)⟩
theorem GG {ρ':Ro} {p:Nat→Bool} {i:Nat} {b:Blk} (k: ∀i v,p i=false→ρ i=some v→ρ' i=some v) (hi: ∀v,ρ i=some v→ρ' i=some v) (h:blkOk c0 c ρ i b):blkOk c0 c ρ' i (prB p b):=by
 cases b with
 | var n g d=>
  obtain ⟨b,h1,h2,h3,T,cs,h4,h5,h6⟩:=h
  exact ⟨b,hi _ h1,h2,h3,T,cs,h4,h5,mv k h6⟩
 | own E n g z l=>
  obtain ⟨v,h1,h2⟩:=h
  exact ⟨v,hi _ h1,h2⟩
 | ownI E n g z l=>
  obtain ⟨v,h1,h2,h3,h4,h5⟩:=h
  simp only [prB,blkOk,zm]
  exact ⟨v,hi _ h1,Own.rep (f:=prV p) (r:=rV ρ n g) (s:=rV ρ' n g) (fun {cs d} (h1:gP n g cs∧rd ρ c d (mkV g cs))=>⟨h1.1,mv k h1.2⟩) rfl h2,h3,h4,by simpa using h5⟩
 | kset g k' n l=>
  obtain ⟨r,h1,h2⟩:=h
  exact ⟨r,hi _ h1,h2⟩
 | pvar n g d=>
  obtain ⟨b,h1,h2⟩:=h
  exact ⟨b,hi _ h1,h2⟩
 | pown n g z l=>
  obtain ⟨v,h1,h2⟩:=h
  exact ⟨v,hi _ h1,h2⟩
 | lent k' n g d=>
  obtain ⟨h1,h2,h3,T,cs,h4,h5,h6⟩:=h
  exact ⟨hi _ h1,h2,h3,T,cs,h4,h5,mv k h6⟩
def cu (ρ:Ro) (ids:List Nat):List Nat:=ids.filterMap (an ρ)
def cU (ρ:Ro) (ids:List Nat) (j:Nat):Nat:=match ids[j]? with
 | some i=>(an ρ i).getD 0
 | none=>0
theorem nU {H:List (Nat×Blk)} {ids:List Nat} {o:Option Blk} {b:Blk} (h:inO H ids o b): ∃a,o=some a∧aX a=true∧(iY b∨dR b):=by
 unfold inO at h
 split at h
 ·exact ⟨_,rfl,rfl,.inr trivial⟩
 ·exact ⟨_,rfl,rfl,.inl trivial⟩
 ·exact ⟨_,rfl,rfl,.inl trivial⟩
 ·exact h.elim
theorem qL (h:Sim E c0 c ρ S F) {ids:List Nat} {Hin:List Blk} (hd:ids.Nodup) (hi:eI S.H ids ids Hin):
  nT (c.lend (cu ρ ids)) (c.lend (cu ρ ids)) (bY ρ ids) (cf (cU ρ ids) 0 Hin):=by
 obtain ⟨hlen,hget⟩:=mx hi
 have hro: ∀{j i:Nat},ids[j]? =some i→bY ρ ids j=ρ i:=fun {j i} hj=>by simp only [bY,hj]
 refine ⟨?_,?_,?_⟩
 ·intro j b hb
  rw [mw,Nat.zero_add] at hb
  cases hj:Hin[j]? with
  | none=>rw [hj] at hb;cases hb
  | some b0=>
   rw [hj] at hb
   simp only [Option.map_some,Option.some.injEq] at hb
   subst hb
   have hjl:j<ids.length:=by rw [hlen];exact (List.getElem?_eq_some_iff.1 hj).1
   obtain ⟨i,hji⟩: ∃i,ids[j]? =some i:=⟨_,List.getElem?_eq_getElem hjl⟩
   have hin:=hget j i b0 hji hj
   have hmem:i∈ids:=List.mem_of_getElem? hji
   have hY: ∀k,an ρ i=some k→k∈cu ρ ids:=fun k hk=>List.mem_filterMap.2 ⟨i,hmem,hk⟩
   cases hS:ah S.H i with
   | none=>rw [hS] at hin;unfold inO at hin;exact hin.elim
   | some a=>
    have hblk:=h.heap i a hS
    rw [hS] at hin
    have hmy: ∀k,an ρ i=some k→(c.lend (cu ρ ids)).mine k:=fun k hk=> .inr (hY k hk)
    unfold inO at hin
    split at hin
    ·rename_i T n g z l T' n' g' z' l' e
     cases e
     obtain ⟨rfl,rfl,rfl,hz,hml⟩:=hin
     obtain ⟨v,h1,h2,h3,h4,a,cap,es,h5⟩:=hblk
     exact ⟨v,(hro hji).trans h1,zr (h2.chg (c.chg_lend _) (by simp)) hml,fun k hk=>hmy k (by rw [dD h1 es];exact hk),h4,a,cap,by rw [←jD hml];exact es,kO hz h5⟩
    ·rename_i n g d n' g' d' e
     cases e
     obtain ⟨rfl,rfl,hm⟩:=hin
     obtain ⟨b,h1,h2,h3⟩:=hblk
     have hb:an ρ i=some b:=by simp [an,h1]
     have hk:cU ρ ids j=b:=by simp [cU,hji,hb]
     simp only [fF,hk]
     obtain ⟨q1,T0,cs0,q2,q3,q4⟩:=h3
     exact ⟨(hro hji).trans h1,hmy b hb,q1,T0,cs0,q2,q3,bB (c.pub_lend _) (dO hm (qJ h q4))⟩
    ·rename_i k0 n g d n' g' d' e
     cases e
     obtain ⟨rfl,rfl,hm⟩:=hin
     obtain ⟨h1,h2,h3⟩:=hblk
     have hb:an ρ i=some k0:=by simp [an,h1]
     have hk:cU ρ ids j=k0:=by simp [cU,hji,hb]
     simp only [fF,hk]
     obtain ⟨q1,T0,cs0,q2,q3,q4⟩:=h3
     exact ⟨(hro hji).trans h1,hmy k0 hb,q1,T0,cs0,q2,q3,bB (c.pub_lend _) (dO hm (qJ h q4))⟩
    ·exact hin.elim
 ·intro j hj
  rw [qH] at hj
  simp only [bY]
  rw [List.getElem?_eq_none (by omega)]
 ·intro j j' b b' k hne hj hj' hk hk'
  rw [mw] at hj hj'
  have get: ∀{q:Nat} {x:Blk},(Hin[q]?).map (fF (cU ρ ids (0+q)))=some x→ ∃i a,ids[q]? =some i∧ah S.H i=some a∧aX a=true:=by
   intro q x hq
   cases hj:Hin[q]? with
   | none=>rw [hj] at hq;cases hq
   | some b0=>
    have hjl:q<ids.length:=by rw [hlen];exact (List.getElem?_eq_some_iff.1 hj).1
    have hji:ids[q]? =some ids[q]:=List.getElem?_eq_getElem hjl
    obtain ⟨a,h1,h2,_⟩:=nU (hget q _ b0 hji hj)
    exact ⟨_,a,hji,h1,h2⟩
  obtain ⟨i,a,g1,g2,g3⟩:=get hj
  obtain ⟨i',a',g1',g2',g3'⟩:=get hj'
  have hii:i≠i':=by
   rintro rfl
   exact hne (nS hd g1 g1')
  have e1:an (bY ρ ids) j=an ρ i:=blkOf_eq' (hro g1)
  have e2:an (bY ρ ids) j'=an ρ i':=blkOf_eq' (hro g1')
  rw [e1] at hk
  rw [e2] at hk'
  exact h.sep i i' a a' k hii g2 g2' g3 g3' hk hk'
where blkOf_eq' {ρ ρ':Ro} {i j:Nat} (h:ρ' j=ρ i):an ρ' j=an ρ i:=by unfold an;rw [h]
end
end Go.Proofs.YtcbbjfckokckcaaGreatDoor
