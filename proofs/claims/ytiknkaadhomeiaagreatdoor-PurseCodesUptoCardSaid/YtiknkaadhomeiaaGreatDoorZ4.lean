/- Texts of this proof, one after the other: K, VZ, VP, VO, VS, VI, VJ, VK, VT. -/
import Derived.Test.YtiknkaadhomeiaaGreatDoorZ3
import Derived.Test.YtiknkaadhomeiaaGreatDoorProg
import Derived.KernelRfl
import Derived.Lib.LaidTab
import Derived.Lib.ItoaNum
set_option linter.unusedVariables false
set_option linter.unusedSimpArgs false
namespace Go.Proofs.YtiknkaadhomeiaaGreatDoor
open Go.RowKit
def AB (_:Cx) (v:Value):Prop:= ∃m,v= .int .i64 m
def kO:List Int:=[1116352408,1899447441,3049323471,3921009573,961987163,1508970993,2453635748,2870763221,3624381080,310598401,607225278,1426881987,1925078388,2162078206,2614888103,3248222580,3835390401,4022224774,264347078,604807628,770255983,1249150122,1555081692,1996064986,2554220882,2821834349,2952996808,3210313671,3336571891,3584528711,113926993,338241895,666307205,773529912,1294757372,1396182291,1695183700,1986661051,2177026350,2456956037,2730485921,2820302411,3259730800,3345764771,3516065817,3600352804,4094571909,275423344,430227734,506948616,659060556,883997877,958139571,1322822218,1537002063,1747873779,1955562222,2024104815,2227730452,2361852424,2428436474,2756734187,3204031479,3329325298]
def da:List Int:=[2,3,5,7,11,13,17,19,23,29,31,37]
def kP:List Int:=[0,1,56,2,57,49,28,3,61,58,42,50,38,29,17,4,62,47,59,36,45,43,51,22,53,39,33,30,24,18,12,5,63,55,48,27,60,41,37,16,46,35,44,21,52,32,23,11,54,26,40,15,34,20,31,10,25,14,19,9,13,8,7,6]
noncomputable def tbl:List (TypeId×TI):=[(1,{n:=1,g:=false,by':=8,ok:=true,z:= .un,k:=6}),
 (2,{n:=1,g:=false,by':=8,ok:=true,z:= .int .i64 0,k:=0,ik:= .i64}),
 (3,{n:=1,g:=false,by':=8,ok:=true,z:= .int .i64 0,k:=0,ik:= .i64}),
 (4,{n:=1,g:=false,by':=1,ok:=true,z:= .bool false,k:=1}),
 (5,{n:=1,g:=false,by':=1,ok:=true,z:= .int .u8 0,k:=0,ik:= .u8}),
 (9,{n:=1,g:=false,by':=16,ok:=true,z:= .str [],k:=2}),
 (12,{n:=1,g:=false,by':=8,ok:=true,z:= .int .u64 0,k:=0,ik:= .u64}),
 (15,{n:=1,g:=false,by':=8,ok:=true,z:= .un,k:=6}),
 (16,{n:=1,g:=false,by':=8,ok:=true,z:= .un,k:=6}),
 (17,{n:=1,g:=false,by':=8,ok:=true,z:= .un,k:=6}),
 (20,{n:=1,g:=false,by':=16,ok:=true,z:= .un,k:=8}),
 (21,{n:=1,g:=false,by':=4,ok:=true,z:= .int .i32 0,k:=0,ik:= .i32}),
 (22,{n:=1,g:=false,by':=24,ok:=true,z:= .sl (some true) 1 false [],k:=3,el:=3}),
 (23,{n:=1,g:=false,by':=24,ok:=true,z:= .sl (some true) 1 false [],k:=3,el:=22}),
 (25,{n:=2,g:=true,by':=48,ok:=true,z:= .agg [.sl (some true) 1 false [],.sl (some true) 1 false []],k:=5,fs:=[(0,22),(1,23)]}),
 (26,{n:=1,g:=false,by':=24,ok:=true,z:= .sl (some true) 4 true [],k:=3,el:=28}),
 (28,{n:=4,g:=true,by':=80,ok:=true,z:= .agg [.int .i64 0,.sl (some true) 1 false [],.sl (some true) 1 false [],.sl (some true) 4 true []],k:=5,fs:=[(0,3),(1,25),(3,26)]}),
 (29,{n:=1,g:=false,by':=8,ok:=true,z:= .un,k:=6}),
 (30,{n:=1,g:=false,by':=8,ok:=true,z:= .un,k:=6}),
 (31,{n:=1,g:=false,by':=8,ok:=true,z:= .int .i64 0,k:=0,ik:= .i64}),
 (33,{n:=1,g:=false,by':=8,ok:=true,z:= .un,k:=6}),
 (35,{n:=1,g:=false,by':=8,ok:=true,z:= .un,k:=6}),
 (36,{n:=1,g:=false,by':=8,ok:=true,z:= .un,k:=6}),
 (37,{n:=1,g:=false,by':=8,ok:=true,z:= .un,k:=6}),
 (38,{n:=1,g:=false,by':=24,ok:=true,z:= .sl (some true) 46 true [],k:=3,el:=110}),
 (39,{n:=1,g:=false,by':=24,ok:=true,z:= .sl (some true) 59 true [],k:=3,el:=104}),
 (40,{n:=32,g:=true,by':=32,ok:=true,z:= .agg [.int .u8 0,.int .u8 0,.int .u8 0,.int .u8 0,.int .u8 0,.int .u8 0,.int .u8 0,.int .u8 0,.int .u8 0,.int .u8 0,.int .u8 0,.int .u8 0,.int .u8 0,.int .u8 0,.int .u8 0,.int .u8 0,.int .u8 0,.int .u8 0,.int .u8 0,.int .u8 0,.int .u8 0,.int .u8 0,.int .u8 0,.int .u8 0,.int .u8 0,.int .u8 0,.int .u8 0,.int .u8 0,.int .u8 0,.int .u8 0,.int .u8 0,.int .u8 0],k:=4,el:=5,len:=32,cmp:=true,ck:=[0,0,0,0,0,0,0,0,0,0,0,0,0,0,0,0,0,0,0,0,0,0,0,0,0,0,0,0,0,0,0,0]}),
 (41,{n:=32,g:=true,by':=32,ok:=true,z:= .agg [.int .u8 0,.int .u8 0,.int .u8 0,.int .u8 0,.int .u8 0,.int .u8 0,.int .u8 0,.int .u8 0,.int .u8 0,.int .u8 0,.int .u8 0,.int .u8 0,.int .u8 0,.int .u8 0,.int .u8 0,.int .u8 0,.int .u8 0,.int .u8 0,.int .u8 0,.int .u8 0,.int .u8 0,.int .u8 0,.int .u8 0,.int .u8 0,.int .u8 0,.int .u8 0,.int .u8 0,.int .u8 0,.int .u8 0,.int .u8 0,.int .u8 0,.int .u8 0],k:=4,el:=5,len:=32,cmp:=true,ck:=[0,0,0,0,0,0,0,0,0,0,0,0,0,0,0,0,0,0,0,0,0,0,0,0,0,0,0,0,0,0,0,0]}),
 (43,{n:=33,g:=true,by':=40,ok:=true,z:= .agg [.int .u8 0,.int .u8 0,.int .u8 0,.int .u8 0,.int .u8 0,.int .u8 0,.int .u8 0,.int .u8 0,.int .u8 0,.int .u8 0,.int .u8 0,.int .u8 0,.int .u8 0,.int .u8 0,.int .u8 0,.int .u8 0,.int .u8 0,.int .u8 0,.int .u8 0,.int .u8 0,.int .u8 0,.int .u8 0,.int .u8 0,.int .u8 0,.int .u8 0,.int .u8 0,.int .u8 0,.int .u8 0,.int .u8 0,.int .u8 0,.int .u8 0,.int .u8 0,.int .i64 0],k:=5,fs:=[(0,41),(32,3)],cmp:=true,ck:=[0,0,0,0,0,0,0,0,0,0,0,0,0,0,0,0,0,0,0,0,0,0,0,0,0,0,0,0,0,0,0,0,0]}),
 (45,{n:=39,g:=true,by':=120,ok:=true,z:= .agg [.int .i64 0,.int .i64 0,.int .i64 0,.int .i64 0,.sl (some true) 46 true [],.sl (some true) 59 true [],.int .u8 0,.int .u8 0,.int .u8 0,.int .u8 0,.int .u8 0,.int .u8 0,.int .u8 0,.int .u8 0,.int .u8 0,.int .u8 0,.int .u8 0,.int .u8 0,.int .u8 0,.int .u8 0,.int .u8 0,.int .u8 0,.int .u8 0,.int .u8 0,.int .u8 0,.int .u8 0,.int .u8 0,.int .u8 0,.int .u8 0,.int .u8 0,.int .u8 0,.int .u8 0,.int .u8 0,.int .u8 0,.int .u8 0,.int .u8 0,.int .u8 0,.int .u8 0,.int .i64 0],k:=5,fs:=[(0,3),(1,3),(2,3),(3,3),(4,38),(5,39),(6,43)]}),
 (46,{n:=1,g:=false,by':=24,ok:=true,z:= .sl (some true) 1 false [],k:=3,el:=5}),
 (48,{n:=3,g:=true,by':=40,ok:=true,z:= .agg [.sl (some true) 1 false [],.int .i64 0,.int .i64 0],k:=5,fs:=[(0,46),(1,3),(2,3)]}),
 (49,{n:=1,g:=false,by':=8,ok:=true,z:= .un,k:=6}),
 (51,{n:=1,g:=false,by':=8,ok:=true,z:= .un,k:=6}),
 (53,{n:=1,g:=false,by':=8,ok:=true,z:= .un,k:=6}),
 (54,{n:=1,g:=false,by':=8,ok:=true,z:= .un,k:=6}),
 (56,{n:=1,g:=false,by':=8,ok:=true,z:= .un,k:=6}),
 (57,{n:=1,g:=false,by':=8,ok:=true,z:= .un,k:=6}),
 (59,{n:=1,g:=false,by':=8,ok:=true,z:= .un,k:=6}),
 (60,{n:=1,g:=false,by':=8,ok:=true,z:= .un,k:=6}),
 (61,{n:=1,g:=false,by':=8,ok:=true,z:= .un,k:=6}),
 (62,{n:=1,g:=false,by':=8,ok:=true,z:= .un,k:=6}),
 (63,{n:=1,g:=false,by':=8,ok:=true,z:= .un,k:=6}),
 (65,{n:=3,g:=true,by':=24,ok:=true,z:= .agg [.int .i64 0,.int .i64 0,.int .i64 0],k:=5,fs:=[(0,3),(1,3),(2,3)],cmp:=true,ck:=[0,0,0]}),
 (66,{n:=1,g:=false,by':=8,ok:=true,z:= .un,k:=6}),
 (67,{n:=1,g:=false,by':=8,ok:=true,z:= .un,k:=6}),
 (68,{n:=1,g:=false,by':=24,ok:=true,z:= .sl (some true) 5 true [],k:=3,el:=75}),
 (69,{n:=1,g:=false,by':=8,ok:=true,z:= .un,k:=6}),
 (70,{n:=1,g:=false,by':=8,ok:=true,z:= .un,k:=6}),
 (71,{n:=1,g:=false,by':=8,ok:=true,z:= .un,k:=6}),
 (73,{n:=3,g:=true,by':=56,ok:=true,z:= .agg [.sl (some true) 1 false [],.int .i64 0,.sl (some true) 1 false []],k:=5,fs:=[(0,22),(1,3),(2,22)]}),
 (75,{n:=5,g:=true,by':=88,ok:=true,z:= .agg [.int .i64 0,.sl (some true) 1 false [],.int .i64 0,.sl (some true) 1 false [],.sl (some true) 5 true []],k:=5,fs:=[(0,3),(1,73),(4,68)]}),
 (76,{n:=1,g:=false,by':=8,ok:=true,z:= .un,k:=6}),
 (77,{n:=1,g:=false,by':=8,ok:=true,z:= .un,k:=6}),
 (78,{n:=1,g:=false,by':=8,ok:=true,z:= .un,k:=6}),
 (79,{n:=1,g:=false,by':=8,ok:=true,z:= .un,k:=6}),
 (80,{n:=1,g:=false,by':=8,ok:=true,z:= .un,k:=6}),
 (82,{n:=2,g:=true,by':=24,ok:=true,z:= .agg [.str [],.bool false],k:=5,fs:=[(0,9),(1,4)],cmp:=true,ck:=[2,1]}),
 (83,{n:=1,g:=false,by':=8,ok:=true,z:= .un,k:=6}),
 (84,{n:=1,g:=false,by':=8,ok:=true,z:= .un,k:=6}),
 (86,{n:=6,g:=true,by':=48,ok:=true,z:= .agg [.int .i64 0,.int .i64 0,.int .i64 0,.int .i64 0,.int .i64 0,.int .i64 0],k:=5,fs:=[(0,65),(3,3),(4,3),(5,3)],cmp:=true,ck:=[0,0,0,0,0,0]}),
 (87,{n:=1,g:=false,by':=8,ok:=true,z:= .un,k:=6}),
 (89,{n:=1,g:=false,by':=8,ok:=true,z:= .un,k:=6}),
 (90,{n:=1,g:=false,by':=8,ok:=true,z:= .un,k:=6}),
 (91,{n:=1,g:=false,by':=8,ok:=true,z:= .un,k:=6}),
 (92,{n:=1,g:=false,by':=24,ok:=true,z:= .sl (some true) 2 true [],k:=3,el:=193}),
 (94,{n:=3,g:=true,by':=40,ok:=true,z:= .agg [.int .i64 0,.int .i64 0,.sl (some true) 2 true []],k:=5,fs:=[(0,3),(1,3),(2,92)]}),
 (96,{n:=3,g:=true,by':=24,ok:=true,z:= .agg [.int .i64 0,.int .i64 0,.int .i64 0],k:=5,fs:=[(0,3),(1,3),(2,3)],cmp:=true,ck:=[0,0,0]}),
 (98,{n:=6,g:=true,by':=48,ok:=true,z:= .agg [.int .i64 0,.int .i64 0,.int .i64 0,.int .i64 0,.int .i64 0,.int .i64 0],k:=5,fs:=[(0,3),(1,3),(2,3),(3,3),(4,3),(5,3)],cmp:=true,ck:=[0,0,0,0,0,0]}),
 (100,{n:=4,g:=true,by':=32,ok:=true,z:= .agg [.int .i64 0,.int .i64 0,.int .i64 0,.int .i64 0],k:=5,fs:=[(0,3),(1,3),(2,3),(3,3)],cmp:=true,ck:=[0,0,0,0]}),
 (102,{n:=41,g:=true,by':=104,ok:=true,z:= .agg [.int .i64 0,.int .i64 0,.int .i64 0,.int .i64 0,.int .i64 0,.int .u8 0,.int .u8 0,.int .u8 0,.int .u8 0,.int .u8 0,.int .u8 0,.int .u8 0,.int .u8 0,.int .u8 0,.int .u8 0,.int .u8 0,.int .u8 0,.int .u8 0,.int .u8 0,.int .u8 0,.int .u8 0,.int .u8 0,.int .u8 0,.int .u8 0,.int .u8 0,.int .u8 0,.int .u8 0,.int .u8 0,.int .u8 0,.int .u8 0,.int .u8 0,.int .u8 0,.int .u8 0,.int .u8 0,.int .u8 0,.int .u8 0,.int .u8 0,.int .i64 0,.int .i64 0,.int .i64 0,.int .i64 0],k:=5,fs:=[(0,3),(1,3),(2,3),(3,3),(4,3),(5,41),(37,100)],cmp:=true,ck:=[0,0,0,0,0,0,0,0,0,0,0,0,0,0,0,0,0,0,0,0,0,0,0,0,0,0,0,0,0,0,0,0,0,0,0,0,0,0,0,0,0]}),
 (104,{n:=59,g:=true,by':=264,ok:=true,z:= .agg [.int .i64 0,.int .i64 0,.int .i64 0,.int .i64 0,.int .i64 0,.int .i64 0,.int .i64 0,.int .i64 0,.sl (some true) 2 true [],.int .i64 0,.int .i64 0,.int .i64 0,.int .i64 0,.int .i64 0,.int .i64 0,.int .i64 0,.int .i64 0,.int .i64 0,.int .i64 0,.int .i64 0,.int .i64 0,.int .i64 0,.int .i64 0,.int .u8 0,.int .u8 0,.int .u8 0,.int .u8 0,.int .u8 0,.int .u8 0,.int .u8 0,.int .u8 0,.int .u8 0,.int .u8 0,.int .u8 0,.int .u8 0,.int .u8 0,.int .u8 0,.int .u8 0,.int .u8 0,.int .u8 0,.int .u8 0,.int .u8 0,.int .u8 0,.int .u8 0,.int .u8 0,.int .u8 0,.int .u8 0,.int .u8 0,.int .u8 0,.int .u8 0,.int .u8 0,.int .u8 0,.int .u8 0,.int .u8 0,.int .u8 0,.int .i64 0,.int .i64 0,.int .i64 0,.int .i64 0],k:=5,fs:=[(0,3),(1,3),(2,3),(3,3),(4,3),(5,3),(6,94),(9,96),(12,98),(18,102)]}),
 (105,{n:=1,g:=false,by':=8,ok:=true,z:= .un,k:=6}),
 (106,{n:=1,g:=false,by':=8,ok:=true,z:= .un,k:=6}),
 (107,{n:=1,g:=false,by':=24,ok:=true,z:= .sl (some true) 1 false [],k:=3,el:=4}),
 (108,{n:=1,g:=false,by':=24,ok:=true,z:= .sl (some true) 80 true [],k:=3,el:=121}),
 (110,{n:=46,g:=true,by':=192,ok:=true,z:= .agg [.int .i64 0,.int .i64 0,.int .i64 0,.int .i64 0,.int .i64 0,.int .u8 0,.int .u8 0,.int .u8 0,.int .u8 0,.int .u8 0,.int .u8 0,.int .u8 0,.int .u8 0,.int .u8 0,.int .u8 0,.int .u8 0,.int .u8 0,.int .u8 0,.int .u8 0,.int .u8 0,.int .u8 0,.int .u8 0,.int .u8 0,.int .u8 0,.int .u8 0,.int .u8 0,.int .u8 0,.int .u8 0,.int .u8 0,.int .u8 0,.int .u8 0,.int .u8 0,.int .u8 0,.int .u8 0,.int .u8 0,.int .u8 0,.int .u8 0,.int .i64 0,.int .i64 0,.int .i64 0,.int .i64 0,.int .i64 0,.int .i64 0,.sl (some true) 2 true [],.sl (some true) 1 false [],.sl (some true) 80 true []],k:=5,fs:=[(0,102),(41,94),(44,107),(45,108)]}),
 (111,{n:=1,g:=false,by':=8,ok:=true,z:= .un,k:=6}),
 (113,{n:=2,g:=true,by':=16,ok:=true,z:= .agg [.int .i64 0,.int .i64 0],k:=5,fs:=[(0,3),(1,3)],cmp:=true,ck:=[0,0]}),
 (115,{n:=34,g:=true,by':=48,ok:=true,z:= .agg [.int .u8 0,.int .u8 0,.int .u8 0,.int .u8 0,.int .u8 0,.int .u8 0,.int .u8 0,.int .u8 0,.int .u8 0,.int .u8 0,.int .u8 0,.int .u8 0,.int .u8 0,.int .u8 0,.int .u8 0,.int .u8 0,.int .u8 0,.int .u8 0,.int .u8 0,.int .u8 0,.int .u8 0,.int .u8 0,.int .u8 0,.int .u8 0,.int .u8 0,.int .u8 0,.int .u8 0,.int .u8 0,.int .u8 0,.int .u8 0,.int .u8 0,.int .u8 0,.int .i64 0,.int .i64 0],k:=5,fs:=[(0,41),(32,3),(33,3)],cmp:=true,ck:=[0,0,0,0,0,0,0,0,0,0,0,0,0,0,0,0,0,0,0,0,0,0,0,0,0,0,0,0,0,0,0,0,0,0]}),
 (116,{n:=1,g:=false,by':=24,ok:=true,z:= .sl (some true) 3 true [],k:=3,el:=263}),
 (117,{n:=1,g:=false,by':=24,ok:=true,z:= .sl (some true) 32 true [],k:=3,el:=41}),
 (119,{n:=2,g:=true,by':=32,ok:=true,z:= .agg [.int .i64 0,.sl (some true) 32 true []],k:=5,fs:=[(0,3),(1,117)]}),
 (121,{n:=80,g:=true,by':=224,ok:=true,z:= .agg [.int .i64 0,.int .i64 0,.int .i64 0,.int .i64 0,.int .i64 0,.int .u8 0,.int .u8 0,.int .u8 0,.int .u8 0,.int .u8 0,.int .u8 0,.int .u8 0,.int .u8 0,.int .u8 0,.int .u8 0,.int .u8 0,.int .u8 0,.int .u8 0,.int .u8 0,.int .u8 0,.int .u8 0,.int .u8 0,.int .u8 0,.int .u8 0,.int .u8 0,.int .u8 0,.int .u8 0,.int .u8 0,.int .u8 0,.int .u8 0,.int .u8 0,.int .u8 0,.int .u8 0,.int .u8 0,.int .u8 0,.int .u8 0,.int .u8 0,.int .i64 0,.int .i64 0,.int .i64 0,.int .i64 0,.int .i64 0,.int .i64 0,.int .u8 0,.int .u8 0,.int .u8 0,.int .u8 0,.int .u8 0,.int .u8 0,.int .u8 0,.int .u8 0,.int .u8 0,.int .u8 0,.int .u8 0,.int .u8 0,.int .u8 0,.int .u8 0,.int .u8 0,.int .u8 0,.int .u8 0,.int .u8 0,.int .u8 0,.int .u8 0,.int .u8 0,.int .u8 0,.int .u8 0,.int .u8 0,.int .u8 0,.int .u8 0,.int .u8 0,.int .u8 0,.int .u8 0,.int .u8 0,.int .u8 0,.int .u8 0,.int .i64 0,.int .i64 0,.sl (some true) 3 true [],.int .i64 0,.sl (some true) 32 true []],k:=5,fs:=[(0,102),(41,113),(43,115),(77,116),(78,119)]}),
 (122,{n:=1,g:=false,by':=8,ok:=true,z:= .un,k:=6}),
 (123,{n:=1,g:=false,by':=8,ok:=true,z:= .un,k:=6}),
 (124,{n:=1,g:=false,by':=24,ok:=true,z:= .sl (some true) 4 true [],k:=3,el:=126}),
 (126,{n:=4,g:=true,by':=64,ok:=true,z:= .agg [.int .i64 0,.int .i64 0,.sl (some true) 1 false [],.sl (some true) 4 true []],k:=5,fs:=[(0,3),(1,3),(2,46),(3,124)]}),
 (127,{n:=1,g:=false,by':=8,ok:=true,z:= .un,k:=6}),
 (128,{n:=1,g:=false,by':=8,ok:=true,z:= .un,k:=6}),
 (129,{n:=1,g:=false,by':=8,ok:=true,z:= .un,k:=6}),
 (130,{n:=1,g:=false,by':=8,ok:=true,z:= .un,k:=6}),
 (131,{n:=1,g:=false,by':=8,ok:=true,z:= .un,k:=6}),
 (132,{n:=1,g:=false,by':=8,ok:=true,z:= .un,k:=6}),
 (133,{n:=1,g:=false,by':=8,ok:=true,z:= .un,k:=6}),
 (134,{n:=1,g:=false,by':=8,ok:=true,z:= .un,k:=6}),
 (136,{n:=1,g:=false,by':=8,ok:=true,z:= .un,k:=6}),
 (137,{n:=1,g:=false,by':=8,ok:=true,z:= .un,k:=6}),
 (139,{n:=1,g:=false,by':=8,ok:=true,z:= .un,k:=6}),
 (141,{n:=1,g:=false,by':=8,ok:=true,z:= .un,k:=6}),
 (143,{n:=1,g:=false,by':=8,ok:=true,z:= .un,k:=6}),
 (145,{n:=1,g:=false,by':=8,ok:=true,z:= .un,k:=6}),
 (146,{n:=1,g:=false,by':=8,ok:=true,z:= .un,k:=6}),
 (147,{n:=1,g:=false,by':=8,ok:=true,z:= .un,k:=6}),
 (149,{n:=1,g:=false,by':=8,ok:=true,z:= .un,k:=6}),
 (151,{n:=1,g:=false,by':=8,ok:=true,z:= .un,k:=6}),
 (153,{n:=1,g:=false,by':=8,ok:=true,z:= .un,k:=6}),
 (154,{n:=1,g:=false,by':=8,ok:=true,z:= .un,k:=6}),
 (156,{n:=1,g:=false,by':=8,ok:=true,z:= .un,k:=6}),
 (157,{n:=1,g:=false,by':=24,ok:=true,z:= .sl (some true) 1 false [],k:=3,el:=46}),
 (158,{n:=1,g:=false,by':=8,ok:=true,z:= .un,k:=6}),
 (159,{n:=1,g:=false,by':=8,ok:=true,z:= .un,k:=6}),
 (160,{n:=1,g:=false,by':=8,ok:=true,z:= .un,k:=6}),
 (161,{n:=1,g:=false,by':=8,ok:=true,z:= .un,k:=6}),
 (162,{n:=1,g:=false,by':=8,ok:=true,z:= .un,k:=6}),
 (163,{n:=1,g:=false,by':=8,ok:=true,z:= .un,k:=6}),
 (164,{n:=1,g:=false,by':=8,ok:=true,z:= .un,k:=6}),
 (165,{n:=1,g:=false,by':=8,ok:=true,z:= .un,k:=6}),
 (166,{n:=1,g:=false,by':=8,ok:=true,z:= .un,k:=6}),
 (167,{n:=1,g:=false,by':=8,ok:=true,z:= .un,k:=6}),
 (168,{n:=1,g:=false,by':=24,ok:=true,z:= .sl (some true) 1 false [],k:=3,el:=9}),
 (169,{n:=1,g:=false,by':=8,ok:=true,z:= .un,k:=6}),
 (170,{n:=1,g:=false,by':=8,ok:=true,z:= .un,k:=6}),
 (171,{n:=1,g:=false,by':=8,ok:=true,z:= .un,k:=6}),
 (172,{n:=1,g:=false,by':=8,ok:=true,z:= .un,k:=6}),
 (173,{n:=1,g:=false,by':=8,ok:=true,z:= .un,k:=6}),
 (174,{n:=1,g:=false,by':=8,ok:=true,z:= .un,k:=6}),
 (176,{n:=1,g:=false,by':=8,ok:=true,z:= .un,k:=6}),
 (177,{n:=1,g:=false,by':=24,ok:=true,z:= .sl (some true) 11 true [],k:=3,el:=181}),
 (179,{n:=3,g:=true,by':=24,ok:=true,z:= .agg [.int .i64 0,.int .i64 0,.int .i64 0],k:=5,fs:=[(0,3),(1,3),(2,3)],cmp:=true,ck:=[0,0,0]}),
 (181,{n:=11,g:=true,by':=88,ok:=true,z:= .agg [.int .i64 0,.int .i64 0,.int .i64 0,.int .i64 0,.int .i64 0,.int .i64 0,.int .i64 0,.int .i64 0,.int .i64 0,.int .i64 0,.int .i64 0],k:=5,fs:=[(0,3),(1,3),(2,3),(3,3),(4,3),(5,179),(8,3),(9,3),(10,3)],cmp:=true,ck:=[0,0,0,0,0,0,0,0,0,0,0]}),
 (183,{n:=1,g:=false,by':=8,ok:=true,z:= .un,k:=6}),
 (184,{n:=1,g:=false,by':=8,ok:=true,z:= .un,k:=6}),
 (185,{n:=1,g:=false,by':=8,ok:=true,z:= .un,k:=6}),
 (186,{n:=1,g:=false,by':=8,ok:=true,z:= .un,k:=6}),
 (187,{n:=1,g:=false,by':=8,ok:=true,z:= .un,k:=7,el:=3,len:=4}),
 (188,{n:=1,g:=false,by':=8,ok:=true,z:= .un,k:=6}),
 (189,{n:=1,g:=false,by':=8,ok:=true,z:= .un,k:=6}),
 (190,{n:=1,g:=false,by':=8,ok:=true,z:= .un,k:=6}),
 (191,{n:=1,g:=false,by':=8,ok:=true,z:= .un,k:=6}),
 (192,{n:=1,g:=false,by':=8,ok:=true,z:= .un,k:=6}),
 (193,{n:=2,g:=true,by':=16,ok:=true,z:= .agg [.int .i64 0,.int .i64 0],k:=4,el:=3,len:=2,cmp:=true,ck:=[0,0]}),
 (194,{n:=1,g:=false,by':=8,ok:=true,z:= .un,k:=6}),
 (195,{n:=1,g:=false,by':=8,ok:=true,z:= .un,k:=6}),
 (196,{n:=1,g:=false,by':=8,ok:=true,z:= .un,k:=6}),
 (197,{n:=1,g:=false,by':=8,ok:=true,z:= .un,k:=6}),
 (198,{n:=1,g:=false,by':=8,ok:=true,z:= .un,k:=6}),
 (199,{n:=1,g:=false,by':=8,ok:=true,z:= .un,k:=6}),
 (200,{n:=1,g:=false,by':=8,ok:=true,z:= .int .u64 0,k:=0,ik:= .u64}),
 (201,{n:=1,g:=false,by':=8,ok:=true,z:= .un,k:=6}),
 (203,{n:=2,g:=true,by':=32,ok:=true,z:= .agg [.sl (some true) 1 false [],.int .i64 0],k:=5,fs:=[(0,46),(1,31)]}),
 (204,{n:=1,g:=false,by':=8,ok:=true,z:= .un,k:=6}),
 (205,{n:=1,g:=false,by':=8,ok:=true,z:= .un,k:=6}),
 (207,{n:=1,g:=false,by':=8,ok:=true,z:= .un,k:=6}),
 (208,{n:=1,g:=false,by':=8,ok:=true,z:= .un,k:=6}),
 (210,{n:=1,g:=false,by':=8,ok:=true,z:= .un,k:=6}),
 (212,{n:=1,g:=false,by':=8,ok:=true,z:= .un,k:=6}),
 (213,{n:=4,g:=true,by':=96,ok:=true,z:= .agg [.sl (some true) 1 false [],.sl (some true) 1 false [],.sl (some true) 1 false [],.sl (some true) 1 false []],k:=4,el:=22,len:=4}),
 (214,{n:=1,g:=false,by':=8,ok:=true,z:= .un,k:=6}),
 (215,{n:=1,g:=false,by':=8,ok:=true,z:= .un,k:=6}),
 (217,{n:=1,g:=false,by':=8,ok:=true,z:= .un,k:=6}),
 (219,{n:=1,g:=false,by':=8,ok:=true,z:= .un,k:=6}),
 (220,{n:=1,g:=false,by':=8,ok:=true,z:= .un,k:=6}),
 (224,{n:=1,g:=false,by':=8,ok:=true,z:= .un,k:=6}),
 (225,{n:=1,g:=false,by':=8,ok:=true,z:= .int .u64 0,k:=0,ik:= .u64}),
 (232,{n:=1,g:=false,by':=8,ok:=true,z:= .un,k:=6}),
 (233,{n:=1,g:=false,by':=8,ok:=true,z:= .un,k:=6}),
 (234,{n:=1,g:=false,by':=8,ok:=true,z:= .un,k:=6}),
 (235,{n:=1,g:=false,by':=8,ok:=true,z:= .un,k:=6}),
 (236,{n:=1,g:=false,by':=8,ok:=true,z:= .un,k:=6}),
 (237,{n:=1,g:=false,by':=8,ok:=true,z:= .un,k:=6}),
 (238,{n:=1,g:=false,by':=8,ok:=true,z:= .un,k:=6}),
 (239,{n:=1,g:=false,by':=8,ok:=true,z:= .un,k:=6}),
 (242,{n:=1,g:=false,by':=8,ok:=true,z:= .un,k:=6}),
 (243,{n:=1,g:=false,by':=16,ok:=true,z:= .un,k:=8}),
 (244,{n:=1,g:=false,by':=16,ok:=true,z:= .un,k:=8}),
 (246,{n:=1,g:=false,by':=8,ok:=true,z:= .un,k:=6}),
 (247,{n:=1,g:=false,by':=8,ok:=true,z:= .un,k:=6}),
 (249,{n:=1,g:=false,by':=8,ok:=true,z:= .un,k:=6}),
 (250,{n:=1,g:=false,by':=8,ok:=true,z:= .un,k:=6}),
 (251,{n:=1,g:=false,by':=8,ok:=true,z:= .un,k:=6}),
 (253,{n:=1,g:=false,by':=8,ok:=true,z:= .un,k:=6}),
 (254,{n:=1,g:=false,by':=8,ok:=true,z:= .un,k:=6}),
 (255,{n:=1,g:=false,by':=8,ok:=true,z:= .un,k:=6}),
 (256,{n:=1,g:=false,by':=8,ok:=true,z:= .un,k:=6}),
 (257,{n:=1,g:=false,by':=8,ok:=true,z:= .un,k:=6}),
 (258,{n:=1,g:=false,by':=8,ok:=true,z:= .un,k:=6}),
 (259,{n:=1,g:=false,by':=8,ok:=true,z:= .un,k:=6}),
 (260,{n:=1,g:=false,by':=8,ok:=true,z:= .un,k:=6}),
 (263,{n:=3,g:=true,by':=24,ok:=true,z:= .agg [.int .i64 0,.int .i64 0,.int .i64 0],k:=5,fs:=[(0,3),(1,3),(2,3)],cmp:=true,ck:=[0,0,0]}),
 (264,{n:=1,g:=false,by':=8,ok:=true,z:= .un,k:=6}),
 (266,{n:=1,g:=true,by':=24,ok:=true,z:= .agg [.sl (some true) 4 true []],k:=5,fs:=[(0,124)]}),
 (270,{n:=1,g:=false,by':=8,ok:=true,z:= .un,k:=6}),
 (271,{n:=1,g:=false,by':=8,ok:=true,z:= .un,k:=6}),
 (273,{n:=1,g:=false,by':=8,ok:=true,z:= .un,k:=6}),
 (274,{n:=1,g:=false,by':=8,ok:=true,z:= .un,k:=6}),
 (275,{n:=1,g:=false,by':=8,ok:=true,z:= .un,k:=6}),
 (276,{n:=1,g:=false,by':=8,ok:=true,z:= .un,k:=6}),
 (277,{n:=1,g:=false,by':=4,ok:=true,z:= .int .u32 0,k:=0,ik:= .u32}),
 (278,{n:=8,g:=true,by':=32,ok:=true,z:= .agg [.int .u32 0,.int .u32 0,.int .u32 0,.int .u32 0,.int .u32 0,.int .u32 0,.int .u32 0,.int .u32 0],k:=4,el:=277,len:=8,cmp:=true,ck:=[0,0,0,0,0,0,0,0]}),
 (279,{n:=1,g:=false,by':=8,ok:=true,z:= .un,k:=6}),
 (280,{n:=1,g:=false,by':=24,ok:=true,z:= .sl (some true) 1 false [],k:=3,el:=277}),
 (281,{n:=1,g:=false,by':=8,ok:=true,z:= .un,k:=6}),
 (282,{n:=1,g:=false,by':=8,ok:=true,z:= .un,k:=6}),
 (283,{n:=1,g:=false,by':=8,ok:=true,z:= .un,k:=6}),
 (284,{n:=1,g:=false,by':=8,ok:=true,z:= .un,k:=6}),
 (286,{n:=1,g:=false,by':=8,ok:=true,z:= .un,k:=6}),
 (289,{n:=1,g:=false,by':=8,ok:=true,z:= .un,k:=6}),
 (293,{n:=1,g:=false,by':=8,ok:=true,z:= .un,k:=6}),
 (294,{n:=1,g:=false,by':=8,ok:=true,z:= .un,k:=6}),
 (295,{n:=1,g:=false,by':=8,ok:=true,z:= .un,k:=6}),
 (296,{n:=1,g:=false,by':=8,ok:=true,z:= .un,k:=6}),
 (297,{n:=1,g:=false,by':=8,ok:=true,z:= .un,k:=6}),
 (298,{n:=1,g:=false,by':=8,ok:=true,z:= .un,k:=6}),
 (303,{n:=1,g:=false,by':=8,ok:=true,z:= .un,k:=6}),
 (305,{n:=1,g:=false,by':=8,ok:=true,z:= .un,k:=6}),
 (306,{n:=1,g:=false,by':=8,ok:=true,z:= .un,k:=6}),
 (307,{n:=64,g:=true,by':=256,ok:=true,z:= .agg [.int .u32 0,.int .u32 0,.int .u32 0,.int .u32 0,.int .u32 0,.int .u32 0,.int .u32 0,.int .u32 0,.int .u32 0,.int .u32 0,.int .u32 0,.int .u32 0,.int .u32 0,.int .u32 0,.int .u32 0,.int .u32 0,.int .u32 0,.int .u32 0,.int .u32 0,.int .u32 0,.int .u32 0,.int .u32 0,.int .u32 0,.int .u32 0,.int .u32 0,.int .u32 0,.int .u32 0,.int .u32 0,.int .u32 0,.int .u32 0,.int .u32 0,.int .u32 0,.int .u32 0,.int .u32 0,.int .u32 0,.int .u32 0,.int .u32 0,.int .u32 0,.int .u32 0,.int .u32 0,.int .u32 0,.int .u32 0,.int .u32 0,.int .u32 0,.int .u32 0,.int .u32 0,.int .u32 0,.int .u32 0,.int .u32 0,.int .u32 0,.int .u32 0,.int .u32 0,.int .u32 0,.int .u32 0,.int .u32 0,.int .u32 0,.int .u32 0,.int .u32 0,.int .u32 0,.int .u32 0,.int .u32 0,.int .u32 0,.int .u32 0,.int .u32 0],k:=4,el:=277,len:=64,cmp:=true,ck:=[0,0,0,0,0,0,0,0,0,0,0,0,0,0,0,0,0,0,0,0,0,0,0,0,0,0,0,0,0,0,0,0,0,0,0,0,0,0,0,0,0,0,0,0,0,0,0,0,0,0,0,0,0,0,0,0,0,0,0,0,0,0,0,0]}),
 (309,{n:=12,g:=true,by':=96,ok:=true,z:= .agg [.int .u64 0,.int .u64 0,.int .u64 0,.int .u64 0,.int .u64 0,.int .u64 0,.int .u64 0,.int .u64 0,.int .u64 0,.int .u64 0,.int .u64 0,.int .u64 0],k:=4,el:=200,len:=12,cmp:=true,ck:=[0,0,0,0,0,0,0,0,0,0,0,0]}),
 (323,{n:=2,g:=true,by':=16,ok:=true,z:= .agg [.int .i64 0,.int .i64 0],k:=5,fs:=[(0,3),(1,3)],cmp:=true,ck:=[0,0]}),
 (324,{n:=1,g:=false,by':=24,ok:=true,z:= .sl (some true) 2 true [],k:=3,el:=323}),
 (338,{n:=64,g:=true,by':=64,ok:=true,z:= .agg [.int .u8 0,.int .u8 0,.int .u8 0,.int .u8 0,.int .u8 0,.int .u8 0,.int .u8 0,.int .u8 0,.int .u8 0,.int .u8 0,.int .u8 0,.int .u8 0,.int .u8 0,.int .u8 0,.int .u8 0,.int .u8 0,.int .u8 0,.int .u8 0,.int .u8 0,.int .u8 0,.int .u8 0,.int .u8 0,.int .u8 0,.int .u8 0,.int .u8 0,.int .u8 0,.int .u8 0,.int .u8 0,.int .u8 0,.int .u8 0,.int .u8 0,.int .u8 0,.int .u8 0,.int .u8 0,.int .u8 0,.int .u8 0,.int .u8 0,.int .u8 0,.int .u8 0,.int .u8 0,.int .u8 0,.int .u8 0,.int .u8 0,.int .u8 0,.int .u8 0,.int .u8 0,.int .u8 0,.int .u8 0,.int .u8 0,.int .u8 0,.int .u8 0,.int .u8 0,.int .u8 0,.int .u8 0,.int .u8 0,.int .u8 0,.int .u8 0,.int .u8 0,.int .u8 0,.int .u8 0,.int .u8 0,.int .u8 0,.int .u8 0,.int .u8 0],k:=4,el:=5,len:=64,cmp:=true,ck:=[0,0,0,0,0,0,0,0,0,0,0,0,0,0,0,0,0,0,0,0,0,0,0,0,0,0,0,0,0,0,0,0,0,0,0,0,0,0,0,0,0,0,0,0,0,0,0,0,0,0,0,0,0,0,0,0,0,0,0,0,0,0,0,0]}),
 (357,{n:=1,g:=false,by':=24,ok:=true,z:= .sl (some true) 1 false [],k:=3,el:=117}),
 (380,{n:=1,g:=false,by':=8,ok:=true,z:= .un,k:=6}),
 (385,{n:=1,g:=false,by':=8,ok:=true,z:= .un,k:=6}),
 (394,{n:=1,g:=false,by':=8,ok:=true,z:= .un,k:=6})]
noncomputable def En:Env:={P:=Tryz.prog,tb:=l9 tbl,gv:=fun g=>if g=0 then some (.pp 8 true (.agg [.int .u32 1779033703,.int .u32 3144134277,.int .u32 1013904242,.int .u32 2773480762,.int .u32 1359893119,.int .u32 2600822924,.int .u32 528734635,.int .u32 1541459225])) else if g=1 then some (.pp 64 true (.agg (kO.map (V.int .u32)))) else if g=2 then some (.pp 12 true (.agg (da.map (V.int .u64)))) else if g=3 then some (.pp 64 true (.agg (kP.map (V.int .u8)))) else if g=4 then some (.pp 1 false (.opq AB)) else none}
@[go_sem] theorem gv0:En.gv 0=some (.pp 8 true (.agg [.int .u32 1779033703,.int .u32 3144134277,.int .u32 1013904242,.int .u32 2773480762,.int .u32 1359893119,.int .u32 2600822924,.int .u32 528734635,.int .u32 1541459225])):=Eq.trans rfl rfl
@[go_sem] theorem gv1:En.gv 1=some (.pp 64 true (.agg (kO.map (V.int .u32)))):=Eq.trans rfl rfl
@[go_sem] theorem gv2:En.gv 2=some (.pp 12 true (.agg (da.map (V.int .u64)))):=Eq.trans rfl rfl
@[go_sem] theorem gv3:En.gv 3=some (.pp 64 true (.agg (kP.map (V.int .u8)))):=Eq.trans rfl rfl
set_option maxRecDepth 100000
theorem II:zj Tryz.prog tbl=true:=by kernel_rfl
theorem bn:bh En:=⟨fun _ h=>tOk (l:=tbl) II h⟩
theorem cJ:En.P.follows .mixedOrders=true:=by kernel_rfl
@[go_sem] theorem tb1:En.tb 1={n:=1,g:=false,by':=8,ok:=true,z:= .un,k:=6}:=rfl
@[go_sem] theorem tb2:En.tb 2={n:=1,g:=false,by':=8,ok:=true,z:= .int .i64 0,k:=0,ik:= .i64}:=rfl
@[go_sem] theorem tb3:En.tb 3={n:=1,g:=false,by':=8,ok:=true,z:= .int .i64 0,k:=0,ik:= .i64}:=rfl
@[go_sem] theorem tb4:En.tb 4={n:=1,g:=false,by':=1,ok:=true,z:= .bool false,k:=1}:=rfl
@[go_sem] theorem tb5:En.tb 5={n:=1,g:=false,by':=1,ok:=true,z:= .int .u8 0,k:=0,ik:= .u8}:=rfl
@[go_sem] theorem tb9:En.tb 9={n:=1,g:=false,by':=16,ok:=true,z:= .str [],k:=2}:=rfl
@[go_sem] theorem tb12:En.tb 12={n:=1,g:=false,by':=8,ok:=true,z:= .int .u64 0,k:=0,ik:= .u64}:=rfl
@[go_sem] theorem tb15:En.tb 15={n:=1,g:=false,by':=8,ok:=true,z:= .un,k:=6}:=rfl
@[go_sem] theorem tb16:En.tb 16={n:=1,g:=false,by':=8,ok:=true,z:= .un,k:=6}:=rfl
@[go_sem] theorem tb17:En.tb 17={n:=1,g:=false,by':=8,ok:=true,z:= .un,k:=6}:=rfl
@[go_sem] theorem tb20:En.tb 20={n:=1,g:=false,by':=16,ok:=true,z:= .un,k:=8}:=rfl
@[go_sem] theorem tb21:En.tb 21={n:=1,g:=false,by':=4,ok:=true,z:= .int .i32 0,k:=0,ik:= .i32}:=rfl
@[go_sem] theorem tb22:En.tb 22={n:=1,g:=false,by':=24,ok:=true,z:= .sl (some true) 1 false [],k:=3,el:=3}:=rfl
@[go_sem] theorem tb23:En.tb 23={n:=1,g:=false,by':=24,ok:=true,z:= .sl (some true) 1 false [],k:=3,el:=22}:=rfl
@[go_sem] theorem tb25:En.tb 25={n:=2,g:=true,by':=48,ok:=true,z:= .agg [.sl (some true) 1 false [],.sl (some true) 1 false []],k:=5,fs:=[(0,22),(1,23)]}:=rfl
@[go_sem] theorem tb26:En.tb 26={n:=1,g:=false,by':=24,ok:=true,z:= .sl (some true) 4 true [],k:=3,el:=28}:=rfl
@[go_sem] theorem tb28:En.tb 28={n:=4,g:=true,by':=80,ok:=true,z:= .agg [.int .i64 0,.sl (some true) 1 false [],.sl (some true) 1 false [],.sl (some true) 4 true []],k:=5,fs:=[(0,3),(1,25),(3,26)]}:=rfl
@[go_sem] theorem tb29:En.tb 29={n:=1,g:=false,by':=8,ok:=true,z:= .un,k:=6}:=rfl
@[go_sem] theorem tb30:En.tb 30={n:=1,g:=false,by':=8,ok:=true,z:= .un,k:=6}:=rfl
@[go_sem] theorem tb31:En.tb 31={n:=1,g:=false,by':=8,ok:=true,z:= .int .i64 0,k:=0,ik:= .i64}:=rfl
@[go_sem] theorem tb33:En.tb 33={n:=1,g:=false,by':=8,ok:=true,z:= .un,k:=6}:=rfl
@[go_sem] theorem tb35:En.tb 35={n:=1,g:=false,by':=8,ok:=true,z:= .un,k:=6}:=rfl
@[go_sem] theorem tb36:En.tb 36={n:=1,g:=false,by':=8,ok:=true,z:= .un,k:=6}:=rfl
@[go_sem] theorem tb37:En.tb 37={n:=1,g:=false,by':=8,ok:=true,z:= .un,k:=6}:=rfl
@[go_sem] theorem r7:En.tb 38={n:=1,g:=false,by':=24,ok:=true,z:= .sl (some true) 46 true [],k:=3,el:=110}:=rfl
@[go_sem] theorem r8:En.tb 39={n:=1,g:=false,by':=24,ok:=true,z:= .sl (some true) 59 true [],k:=3,el:=104}:=rfl
@[go_sem] theorem tb40:En.tb 40={n:=32,g:=true,by':=32,ok:=true,z:= .agg [.int .u8 0,.int .u8 0,.int .u8 0,.int .u8 0,.int .u8 0,.int .u8 0,.int .u8 0,.int .u8 0,.int .u8 0,.int .u8 0,.int .u8 0,.int .u8 0,.int .u8 0,.int .u8 0,.int .u8 0,.int .u8 0,.int .u8 0,.int .u8 0,.int .u8 0,.int .u8 0,.int .u8 0,.int .u8 0,.int .u8 0,.int .u8 0,.int .u8 0,.int .u8 0,.int .u8 0,.int .u8 0,.int .u8 0,.int .u8 0,.int .u8 0,.int .u8 0],k:=4,el:=5,len:=32,cmp:=true,ck:=[0,0,0,0,0,0,0,0,0,0,0,0,0,0,0,0,0,0,0,0,0,0,0,0,0,0,0,0,0,0,0,0]}:=rfl
@[go_sem] theorem nE:En.tb 41={n:=32,g:=true,by':=32,ok:=true,z:= .agg [.int .u8 0,.int .u8 0,.int .u8 0,.int .u8 0,.int .u8 0,.int .u8 0,.int .u8 0,.int .u8 0,.int .u8 0,.int .u8 0,.int .u8 0,.int .u8 0,.int .u8 0,.int .u8 0,.int .u8 0,.int .u8 0,.int .u8 0,.int .u8 0,.int .u8 0,.int .u8 0,.int .u8 0,.int .u8 0,.int .u8 0,.int .u8 0,.int .u8 0,.int .u8 0,.int .u8 0,.int .u8 0,.int .u8 0,.int .u8 0,.int .u8 0,.int .u8 0],k:=4,el:=5,len:=32,cmp:=true,ck:=[0,0,0,0,0,0,0,0,0,0,0,0,0,0,0,0,0,0,0,0,0,0,0,0,0,0,0,0,0,0,0,0]}:=rfl
@[go_sem] theorem r9:En.tb 43={n:=33,g:=true,by':=40,ok:=true,z:= .agg [.int .u8 0,.int .u8 0,.int .u8 0,.int .u8 0,.int .u8 0,.int .u8 0,.int .u8 0,.int .u8 0,.int .u8 0,.int .u8 0,.int .u8 0,.int .u8 0,.int .u8 0,.int .u8 0,.int .u8 0,.int .u8 0,.int .u8 0,.int .u8 0,.int .u8 0,.int .u8 0,.int .u8 0,.int .u8 0,.int .u8 0,.int .u8 0,.int .u8 0,.int .u8 0,.int .u8 0,.int .u8 0,.int .u8 0,.int .u8 0,.int .u8 0,.int .u8 0,.int .i64 0],k:=5,fs:=[(0,41),(32,3)],cmp:=true,ck:=[0,0,0,0,0,0,0,0,0,0,0,0,0,0,0,0,0,0,0,0,0,0,0,0,0,0,0,0,0,0,0,0,0]}:=rfl
@[go_sem] theorem nF:En.tb 45={n:=39,g:=true,by':=120,ok:=true,z:= .agg [.int .i64 0,.int .i64 0,.int .i64 0,.int .i64 0,.sl (some true) 46 true [],.sl (some true) 59 true [],.int .u8 0,.int .u8 0,.int .u8 0,.int .u8 0,.int .u8 0,.int .u8 0,.int .u8 0,.int .u8 0,.int .u8 0,.int .u8 0,.int .u8 0,.int .u8 0,.int .u8 0,.int .u8 0,.int .u8 0,.int .u8 0,.int .u8 0,.int .u8 0,.int .u8 0,.int .u8 0,.int .u8 0,.int .u8 0,.int .u8 0,.int .u8 0,.int .u8 0,.int .u8 0,.int .u8 0,.int .u8 0,.int .u8 0,.int .u8 0,.int .u8 0,.int .u8 0,.int .i64 0],k:=5,fs:=[(0,3),(1,3),(2,3),(3,3),(4,38),(5,39),(6,43)]}:=rfl
@[go_sem] theorem nG:En.tb 46={n:=1,g:=false,by':=24,ok:=true,z:= .sl (some true) 1 false [],k:=3,el:=5}:=rfl
@[go_sem] theorem nH:En.tb 48={n:=3,g:=true,by':=40,ok:=true,z:= .agg [.sl (some true) 1 false [],.int .i64 0,.int .i64 0],k:=5,fs:=[(0,46),(1,3),(2,3)]}:=rfl
@[go_sem] theorem tb49:En.tb 49={n:=1,g:=false,by':=8,ok:=true,z:= .un,k:=6}:=rfl
@[go_sem] theorem tb51:En.tb 51={n:=1,g:=false,by':=8,ok:=true,z:= .un,k:=6}:=rfl
@[go_sem] theorem tb53:En.tb 53={n:=1,g:=false,by':=8,ok:=true,z:= .un,k:=6}:=rfl
@[go_sem] theorem tb54:En.tb 54={n:=1,g:=false,by':=8,ok:=true,z:= .un,k:=6}:=rfl
@[go_sem] theorem tb56:En.tb 56={n:=1,g:=false,by':=8,ok:=true,z:= .un,k:=6}:=rfl
@[go_sem] theorem tb57:En.tb 57={n:=1,g:=false,by':=8,ok:=true,z:= .un,k:=6}:=rfl
@[go_sem] theorem tb59:En.tb 59={n:=1,g:=false,by':=8,ok:=true,z:= .un,k:=6}:=rfl
@[go_sem] theorem tb60:En.tb 60={n:=1,g:=false,by':=8,ok:=true,z:= .un,k:=6}:=rfl
@[go_sem] theorem tb61:En.tb 61={n:=1,g:=false,by':=8,ok:=true,z:= .un,k:=6}:=rfl
@[go_sem] theorem tb62:En.tb 62={n:=1,g:=false,by':=8,ok:=true,z:= .un,k:=6}:=rfl
@[go_sem] theorem tb63:En.tb 63={n:=1,g:=false,by':=8,ok:=true,z:= .un,k:=6}:=rfl
@[go_sem] theorem tb65:En.tb 65={n:=3,g:=true,by':=24,ok:=true,z:= .agg [.int .i64 0,.int .i64 0,.int .i64 0],k:=5,fs:=[(0,3),(1,3),(2,3)],cmp:=true,ck:=[0,0,0]}:=rfl
@[go_sem] theorem tb66:En.tb 66={n:=1,g:=false,by':=8,ok:=true,z:= .un,k:=6}:=rfl
@[go_sem] theorem tb67:En.tb 67={n:=1,g:=false,by':=8,ok:=true,z:= .un,k:=6}:=rfl
@[go_sem] theorem tb68:En.tb 68={n:=1,g:=false,by':=24,ok:=true,z:= .sl (some true) 5 true [],k:=3,el:=75}:=rfl
@[go_sem] theorem tb69:En.tb 69={n:=1,g:=false,by':=8,ok:=true,z:= .un,k:=6}:=rfl
@[go_sem] theorem tb70:En.tb 70={n:=1,g:=false,by':=8,ok:=true,z:= .un,k:=6}:=rfl
@[go_sem] theorem tb71:En.tb 71={n:=1,g:=false,by':=8,ok:=true,z:= .un,k:=6}:=rfl
@[go_sem] theorem tb73:En.tb 73={n:=3,g:=true,by':=56,ok:=true,z:= .agg [.sl (some true) 1 false [],.int .i64 0,.sl (some true) 1 false []],k:=5,fs:=[(0,22),(1,3),(2,22)]}:=rfl
@[go_sem] theorem tb75:En.tb 75={n:=5,g:=true,by':=88,ok:=true,z:= .agg [.int .i64 0,.sl (some true) 1 false [],.int .i64 0,.sl (some true) 1 false [],.sl (some true) 5 true []],k:=5,fs:=[(0,3),(1,73),(4,68)]}:=rfl
@[go_sem] theorem tb76:En.tb 76={n:=1,g:=false,by':=8,ok:=true,z:= .un,k:=6}:=rfl
@[go_sem] theorem tb77:En.tb 77={n:=1,g:=false,by':=8,ok:=true,z:= .un,k:=6}:=rfl
@[go_sem] theorem tb78:En.tb 78={n:=1,g:=false,by':=8,ok:=true,z:= .un,k:=6}:=rfl
@[go_sem] theorem tb79:En.tb 79={n:=1,g:=false,by':=8,ok:=true,z:= .un,k:=6}:=rfl
@[go_sem] theorem tb80:En.tb 80={n:=1,g:=false,by':=8,ok:=true,z:= .un,k:=6}:=rfl
@[go_sem] theorem tb82:En.tb 82={n:=2,g:=true,by':=24,ok:=true,z:= .agg [.str [],.bool false],k:=5,fs:=[(0,9),(1,4)],cmp:=true,ck:=[2,1]}:=rfl
@[go_sem] theorem tb83:En.tb 83={n:=1,g:=false,by':=8,ok:=true,z:= .un,k:=6}:=rfl
@[go_sem] theorem tb84:En.tb 84={n:=1,g:=false,by':=8,ok:=true,z:= .un,k:=6}:=rfl
@[go_sem] theorem tb86:En.tb 86={n:=6,g:=true,by':=48,ok:=true,z:= .agg [.int .i64 0,.int .i64 0,.int .i64 0,.int .i64 0,.int .i64 0,.int .i64 0],k:=5,fs:=[(0,65),(3,3),(4,3),(5,3)],cmp:=true,ck:=[0,0,0,0,0,0]}:=rfl
@[go_sem] theorem tb87:En.tb 87={n:=1,g:=false,by':=8,ok:=true,z:= .un,k:=6}:=rfl
@[go_sem] theorem tb89:En.tb 89={n:=1,g:=false,by':=8,ok:=true,z:= .un,k:=6}:=rfl
@[go_sem] theorem tb90:En.tb 90={n:=1,g:=false,by':=8,ok:=true,z:= .un,k:=6}:=rfl
@[go_sem] theorem tb91:En.tb 91={n:=1,g:=false,by':=8,ok:=true,z:= .un,k:=6}:=rfl
@[go_sem] theorem sa:En.tb 92={n:=1,g:=false,by':=24,ok:=true,z:= .sl (some true) 2 true [],k:=3,el:=193}:=rfl
@[go_sem] theorem sb:En.tb 94={n:=3,g:=true,by':=40,ok:=true,z:= .agg [.int .i64 0,.int .i64 0,.sl (some true) 2 true []],k:=5,fs:=[(0,3),(1,3),(2,92)]}:=rfl
@[go_sem] theorem sc:En.tb 96={n:=3,g:=true,by':=24,ok:=true,z:= .agg [.int .i64 0,.int .i64 0,.int .i64 0],k:=5,fs:=[(0,3),(1,3),(2,3)],cmp:=true,ck:=[0,0,0]}:=rfl
@[go_sem] theorem sd:En.tb 98={n:=6,g:=true,by':=48,ok:=true,z:= .agg [.int .i64 0,.int .i64 0,.int .i64 0,.int .i64 0,.int .i64 0,.int .i64 0],k:=5,fs:=[(0,3),(1,3),(2,3),(3,3),(4,3),(5,3)],cmp:=true,ck:=[0,0,0,0,0,0]}:=rfl
@[go_sem] theorem se:En.tb 100={n:=4,g:=true,by':=32,ok:=true,z:= .agg [.int .i64 0,.int .i64 0,.int .i64 0,.int .i64 0],k:=5,fs:=[(0,3),(1,3),(2,3),(3,3)],cmp:=true,ck:=[0,0,0,0]}:=rfl
@[go_sem] theorem sf:En.tb 102={n:=41,g:=true,by':=104,ok:=true,z:= .agg [.int .i64 0,.int .i64 0,.int .i64 0,.int .i64 0,.int .i64 0,.int .u8 0,.int .u8 0,.int .u8 0,.int .u8 0,.int .u8 0,.int .u8 0,.int .u8 0,.int .u8 0,.int .u8 0,.int .u8 0,.int .u8 0,.int .u8 0,.int .u8 0,.int .u8 0,.int .u8 0,.int .u8 0,.int .u8 0,.int .u8 0,.int .u8 0,.int .u8 0,.int .u8 0,.int .u8 0,.int .u8 0,.int .u8 0,.int .u8 0,.int .u8 0,.int .u8 0,.int .u8 0,.int .u8 0,.int .u8 0,.int .u8 0,.int .u8 0,.int .i64 0,.int .i64 0,.int .i64 0,.int .i64 0],k:=5,fs:=[(0,3),(1,3),(2,3),(3,3),(4,3),(5,41),(37,100)],cmp:=true,ck:=[0,0,0,0,0,0,0,0,0,0,0,0,0,0,0,0,0,0,0,0,0,0,0,0,0,0,0,0,0,0,0,0,0,0,0,0,0,0,0,0,0]}:=rfl
@[go_sem] theorem pw:En.tb 104={n:=59,g:=true,by':=264,ok:=true,z:= .agg [.int .i64 0,.int .i64 0,.int .i64 0,.int .i64 0,.int .i64 0,.int .i64 0,.int .i64 0,.int .i64 0,.sl (some true) 2 true [],.int .i64 0,.int .i64 0,.int .i64 0,.int .i64 0,.int .i64 0,.int .i64 0,.int .i64 0,.int .i64 0,.int .i64 0,.int .i64 0,.int .i64 0,.int .i64 0,.int .i64 0,.int .i64 0,.int .u8 0,.int .u8 0,.int .u8 0,.int .u8 0,.int .u8 0,.int .u8 0,.int .u8 0,.int .u8 0,.int .u8 0,.int .u8 0,.int .u8 0,.int .u8 0,.int .u8 0,.int .u8 0,.int .u8 0,.int .u8 0,.int .u8 0,.int .u8 0,.int .u8 0,.int .u8 0,.int .u8 0,.int .u8 0,.int .u8 0,.int .u8 0,.int .u8 0,.int .u8 0,.int .u8 0,.int .u8 0,.int .u8 0,.int .u8 0,.int .u8 0,.int .u8 0,.int .i64 0,.int .i64 0,.int .i64 0,.int .i64 0],k:=5,fs:=[(0,3),(1,3),(2,3),(3,3),(4,3),(5,3),(6,94),(9,96),(12,98),(18,102)]}:=rfl
@[go_sem] theorem tb105:En.tb 105={n:=1,g:=false,by':=8,ok:=true,z:= .un,k:=6}:=rfl
@[go_sem] theorem tb106:En.tb 106={n:=1,g:=false,by':=8,ok:=true,z:= .un,k:=6}:=rfl
@[go_sem] theorem si:En.tb 107={n:=1,g:=false,by':=24,ok:=true,z:= .sl (some true) 1 false [],k:=3,el:=4}:=rfl
@[go_sem] theorem sj:En.tb 108={n:=1,g:=false,by':=24,ok:=true,z:= .sl (some true) 80 true [],k:=3,el:=121}:=rfl
@[go_sem] theorem px:En.tb 110={n:=46,g:=true,by':=192,ok:=true,z:= .agg [.int .i64 0,.int .i64 0,.int .i64 0,.int .i64 0,.int .i64 0,.int .u8 0,.int .u8 0,.int .u8 0,.int .u8 0,.int .u8 0,.int .u8 0,.int .u8 0,.int .u8 0,.int .u8 0,.int .u8 0,.int .u8 0,.int .u8 0,.int .u8 0,.int .u8 0,.int .u8 0,.int .u8 0,.int .u8 0,.int .u8 0,.int .u8 0,.int .u8 0,.int .u8 0,.int .u8 0,.int .u8 0,.int .u8 0,.int .u8 0,.int .u8 0,.int .u8 0,.int .u8 0,.int .u8 0,.int .u8 0,.int .u8 0,.int .u8 0,.int .i64 0,.int .i64 0,.int .i64 0,.int .i64 0,.int .i64 0,.int .i64 0,.sl (some true) 2 true [],.sl (some true) 1 false [],.sl (some true) 80 true []],k:=5,fs:=[(0,102),(41,94),(44,107),(45,108)]}:=rfl
@[go_sem] theorem tb111:En.tb 111={n:=1,g:=false,by':=8,ok:=true,z:= .un,k:=6}:=rfl
@[go_sem] theorem sk:En.tb 113={n:=2,g:=true,by':=16,ok:=true,z:= .agg [.int .i64 0,.int .i64 0],k:=5,fs:=[(0,3),(1,3)],cmp:=true,ck:=[0,0]}:=rfl
@[go_sem] theorem sm:En.tb 115={n:=34,g:=true,by':=48,ok:=true,z:= .agg [.int .u8 0,.int .u8 0,.int .u8 0,.int .u8 0,.int .u8 0,.int .u8 0,.int .u8 0,.int .u8 0,.int .u8 0,.int .u8 0,.int .u8 0,.int .u8 0,.int .u8 0,.int .u8 0,.int .u8 0,.int .u8 0,.int .u8 0,.int .u8 0,.int .u8 0,.int .u8 0,.int .u8 0,.int .u8 0,.int .u8 0,.int .u8 0,.int .u8 0,.int .u8 0,.int .u8 0,.int .u8 0,.int .u8 0,.int .u8 0,.int .u8 0,.int .u8 0,.int .i64 0,.int .i64 0],k:=5,fs:=[(0,41),(32,3),(33,3)],cmp:=true,ck:=[0,0,0,0,0,0,0,0,0,0,0,0,0,0,0,0,0,0,0,0,0,0,0,0,0,0,0,0,0,0,0,0,0,0]}:=rfl
@[go_sem] theorem sn:En.tb 116={n:=1,g:=false,by':=24,ok:=true,z:= .sl (some true) 3 true [],k:=3,el:=263}:=rfl
@[go_sem] theorem so:En.tb 117={n:=1,g:=false,by':=24,ok:=true,z:= .sl (some true) 32 true [],k:=3,el:=41}:=rfl
@[go_sem] theorem sq:En.tb 119={n:=2,g:=true,by':=32,ok:=true,z:= .agg [.int .i64 0,.sl (some true) 32 true []],k:=5,fs:=[(0,3),(1,117)]}:=rfl
@[go_sem] theorem py:En.tb 121={n:=80,g:=true,by':=224,ok:=true,z:= .agg [.int .i64 0,.int .i64 0,.int .i64 0,.int .i64 0,.int .i64 0,.int .u8 0,.int .u8 0,.int .u8 0,.int .u8 0,.int .u8 0,.int .u8 0,.int .u8 0,.int .u8 0,.int .u8 0,.int .u8 0,.int .u8 0,.int .u8 0,.int .u8 0,.int .u8 0,.int .u8 0,.int .u8 0,.int .u8 0,.int .u8 0,.int .u8 0,.int .u8 0,.int .u8 0,.int .u8 0,.int .u8 0,.int .u8 0,.int .u8 0,.int .u8 0,.int .u8 0,.int .u8 0,.int .u8 0,.int .u8 0,.int .u8 0,.int .u8 0,.int .i64 0,.int .i64 0,.int .i64 0,.int .i64 0,.int .i64 0,.int .i64 0,.int .u8 0,.int .u8 0,.int .u8 0,.int .u8 0,.int .u8 0,.int .u8 0,.int .u8 0,.int .u8 0,.int .u8 0,.int .u8 0,.int .u8 0,.int .u8 0,.int .u8 0,.int .u8 0,.int .u8 0,.int .u8 0,.int .u8 0,.int .u8 0,.int .u8 0,.int .u8 0,.int .u8 0,.int .u8 0,.int .u8 0,.int .u8 0,.int .u8 0,.int .u8 0,.int .u8 0,.int .u8 0,.int .u8 0,.int .u8 0,.int .u8 0,.int .u8 0,.int .i64 0,.int .i64 0,.sl (some true) 3 true [],.int .i64 0,.sl (some true) 32 true []],k:=5,fs:=[(0,102),(41,113),(43,115),(77,116),(78,119)]}:=rfl
@[go_sem] theorem tb122:En.tb 122={n:=1,g:=false,by':=8,ok:=true,z:= .un,k:=6}:=rfl
@[go_sem] theorem tb123:En.tb 123={n:=1,g:=false,by':=8,ok:=true,z:= .un,k:=6}:=rfl
@[go_sem] theorem tb124:En.tb 124={n:=1,g:=false,by':=24,ok:=true,z:= .sl (some true) 4 true [],k:=3,el:=126}:=rfl
@[go_sem] theorem tb126:En.tb 126={n:=4,g:=true,by':=64,ok:=true,z:= .agg [.int .i64 0,.int .i64 0,.sl (some true) 1 false [],.sl (some true) 4 true []],k:=5,fs:=[(0,3),(1,3),(2,46),(3,124)]}:=rfl
@[go_sem] theorem tb127:En.tb 127={n:=1,g:=false,by':=8,ok:=true,z:= .un,k:=6}:=rfl
@[go_sem] theorem tb128:En.tb 128={n:=1,g:=false,by':=8,ok:=true,z:= .un,k:=6}:=rfl
@[go_sem] theorem tb129:En.tb 129={n:=1,g:=false,by':=8,ok:=true,z:= .un,k:=6}:=rfl
@[go_sem] theorem tb130:En.tb 130={n:=1,g:=false,by':=8,ok:=true,z:= .un,k:=6}:=rfl
@[go_sem] theorem tb131:En.tb 131={n:=1,g:=false,by':=8,ok:=true,z:= .un,k:=6}:=rfl
@[go_sem] theorem tb132:En.tb 132={n:=1,g:=false,by':=8,ok:=true,z:= .un,k:=6}:=rfl
@[go_sem] theorem tb133:En.tb 133={n:=1,g:=false,by':=8,ok:=true,z:= .un,k:=6}:=rfl
@[go_sem] theorem tb134:En.tb 134={n:=1,g:=false,by':=8,ok:=true,z:= .un,k:=6}:=rfl
@[go_sem] theorem tb136:En.tb 136={n:=1,g:=false,by':=8,ok:=true,z:= .un,k:=6}:=rfl
@[go_sem] theorem tb137:En.tb 137={n:=1,g:=false,by':=8,ok:=true,z:= .un,k:=6}:=rfl
@[go_sem] theorem tb139:En.tb 139={n:=1,g:=false,by':=8,ok:=true,z:= .un,k:=6}:=rfl
@[go_sem] theorem tb141:En.tb 141={n:=1,g:=false,by':=8,ok:=true,z:= .un,k:=6}:=rfl
@[go_sem] theorem tb143:En.tb 143={n:=1,g:=false,by':=8,ok:=true,z:= .un,k:=6}:=rfl
@[go_sem] theorem tb145:En.tb 145={n:=1,g:=false,by':=8,ok:=true,z:= .un,k:=6}:=rfl
@[go_sem] theorem tb146:En.tb 146={n:=1,g:=false,by':=8,ok:=true,z:= .un,k:=6}:=rfl
@[go_sem] theorem tb147:En.tb 147={n:=1,g:=false,by':=8,ok:=true,z:= .un,k:=6}:=rfl
@[go_sem] theorem tb149:En.tb 149={n:=1,g:=false,by':=8,ok:=true,z:= .un,k:=6}:=rfl
@[go_sem] theorem tb151:En.tb 151={n:=1,g:=false,by':=8,ok:=true,z:= .un,k:=6}:=rfl
@[go_sem] theorem tb153:En.tb 153={n:=1,g:=false,by':=8,ok:=true,z:= .un,k:=6}:=rfl
@[go_sem] theorem tb154:En.tb 154={n:=1,g:=false,by':=8,ok:=true,z:= .un,k:=6}:=rfl
@[go_sem] theorem tb156:En.tb 156={n:=1,g:=false,by':=8,ok:=true,z:= .un,k:=6}:=rfl
@[go_sem] theorem tb157:En.tb 157={n:=1,g:=false,by':=24,ok:=true,z:= .sl (some true) 1 false [],k:=3,el:=46}:=rfl
@[go_sem] theorem tb158:En.tb 158={n:=1,g:=false,by':=8,ok:=true,z:= .un,k:=6}:=rfl
@[go_sem] theorem tb159:En.tb 159={n:=1,g:=false,by':=8,ok:=true,z:= .un,k:=6}:=rfl
@[go_sem] theorem tb160:En.tb 160={n:=1,g:=false,by':=8,ok:=true,z:= .un,k:=6}:=rfl
@[go_sem] theorem tb161:En.tb 161={n:=1,g:=false,by':=8,ok:=true,z:= .un,k:=6}:=rfl
@[go_sem] theorem tb162:En.tb 162={n:=1,g:=false,by':=8,ok:=true,z:= .un,k:=6}:=rfl
@[go_sem] theorem tb163:En.tb 163={n:=1,g:=false,by':=8,ok:=true,z:= .un,k:=6}:=rfl
@[go_sem] theorem tb164:En.tb 164={n:=1,g:=false,by':=8,ok:=true,z:= .un,k:=6}:=rfl
@[go_sem] theorem tb165:En.tb 165={n:=1,g:=false,by':=8,ok:=true,z:= .un,k:=6}:=rfl
@[go_sem] theorem tb166:En.tb 166={n:=1,g:=false,by':=8,ok:=true,z:= .un,k:=6}:=rfl
@[go_sem] theorem tb167:En.tb 167={n:=1,g:=false,by':=8,ok:=true,z:= .un,k:=6}:=rfl
@[go_sem] theorem tb168:En.tb 168={n:=1,g:=false,by':=24,ok:=true,z:= .sl (some true) 1 false [],k:=3,el:=9}:=rfl
@[go_sem] theorem tb169:En.tb 169={n:=1,g:=false,by':=8,ok:=true,z:= .un,k:=6}:=rfl
@[go_sem] theorem tb170:En.tb 170={n:=1,g:=false,by':=8,ok:=true,z:= .un,k:=6}:=rfl
@[go_sem] theorem tb171:En.tb 171={n:=1,g:=false,by':=8,ok:=true,z:= .un,k:=6}:=rfl
@[go_sem] theorem tb172:En.tb 172={n:=1,g:=false,by':=8,ok:=true,z:= .un,k:=6}:=rfl
@[go_sem] theorem tb173:En.tb 173={n:=1,g:=false,by':=8,ok:=true,z:= .un,k:=6}:=rfl
@[go_sem] theorem tb174:En.tb 174={n:=1,g:=false,by':=8,ok:=true,z:= .un,k:=6}:=rfl
@[go_sem] theorem tb176:En.tb 176={n:=1,g:=false,by':=8,ok:=true,z:= .un,k:=6}:=rfl
@[go_sem] theorem tb177:En.tb 177={n:=1,g:=false,by':=24,ok:=true,z:= .sl (some true) 11 true [],k:=3,el:=181}:=rfl
@[go_sem] theorem tb179:En.tb 179={n:=3,g:=true,by':=24,ok:=true,z:= .agg [.int .i64 0,.int .i64 0,.int .i64 0],k:=5,fs:=[(0,3),(1,3),(2,3)],cmp:=true,ck:=[0,0,0]}:=rfl
@[go_sem] theorem tb181:En.tb 181={n:=11,g:=true,by':=88,ok:=true,z:= .agg [.int .i64 0,.int .i64 0,.int .i64 0,.int .i64 0,.int .i64 0,.int .i64 0,.int .i64 0,.int .i64 0,.int .i64 0,.int .i64 0,.int .i64 0],k:=5,fs:=[(0,3),(1,3),(2,3),(3,3),(4,3),(5,179),(8,3),(9,3),(10,3)],cmp:=true,ck:=[0,0,0,0,0,0,0,0,0,0,0]}:=rfl
@[go_sem] theorem tb183:En.tb 183={n:=1,g:=false,by':=8,ok:=true,z:= .un,k:=6}:=rfl
@[go_sem] theorem tb184:En.tb 184={n:=1,g:=false,by':=8,ok:=true,z:= .un,k:=6}:=rfl
@[go_sem] theorem tb185:En.tb 185={n:=1,g:=false,by':=8,ok:=true,z:= .un,k:=6}:=rfl
@[go_sem] theorem tb186:En.tb 186={n:=1,g:=false,by':=8,ok:=true,z:= .un,k:=6}:=rfl
@[go_sem] theorem tb187:En.tb 187={n:=1,g:=false,by':=8,ok:=true,z:= .un,k:=7,el:=3,len:=4}:=rfl
@[go_sem] theorem tb188:En.tb 188={n:=1,g:=false,by':=8,ok:=true,z:= .un,k:=6}:=rfl
@[go_sem] theorem tb189:En.tb 189={n:=1,g:=false,by':=8,ok:=true,z:= .un,k:=6}:=rfl
@[go_sem] theorem tb190:En.tb 190={n:=1,g:=false,by':=8,ok:=true,z:= .un,k:=6}:=rfl
@[go_sem] theorem tb191:En.tb 191={n:=1,g:=false,by':=8,ok:=true,z:= .un,k:=6}:=rfl
@[go_sem] theorem tb192:En.tb 192={n:=1,g:=false,by':=8,ok:=true,z:= .un,k:=6}:=rfl
@[go_sem] theorem nI:En.tb 193={n:=2,g:=true,by':=16,ok:=true,z:= .agg [.int .i64 0,.int .i64 0],k:=4,el:=3,len:=2,cmp:=true,ck:=[0,0]}:=rfl
@[go_sem] theorem tb194:En.tb 194={n:=1,g:=false,by':=8,ok:=true,z:= .un,k:=6}:=rfl
@[go_sem] theorem tb195:En.tb 195={n:=1,g:=false,by':=8,ok:=true,z:= .un,k:=6}:=rfl
@[go_sem] theorem tb196:En.tb 196={n:=1,g:=false,by':=8,ok:=true,z:= .un,k:=6}:=rfl
@[go_sem] theorem tb197:En.tb 197={n:=1,g:=false,by':=8,ok:=true,z:= .un,k:=6}:=rfl
@[go_sem] theorem tb198:En.tb 198={n:=1,g:=false,by':=8,ok:=true,z:= .un,k:=6}:=rfl
@[go_sem] theorem tb199:En.tb 199={n:=1,g:=false,by':=8,ok:=true,z:= .un,k:=6}:=rfl
@[go_sem] theorem tb200:En.tb 200={n:=1,g:=false,by':=8,ok:=true,z:= .int .u64 0,k:=0,ik:= .u64}:=rfl
@[go_sem] theorem tb201:En.tb 201={n:=1,g:=false,by':=8,ok:=true,z:= .un,k:=6}:=rfl
@[go_sem] theorem tb203:En.tb 203={n:=2,g:=true,by':=32,ok:=true,z:= .agg [.sl (some true) 1 false [],.int .i64 0],k:=5,fs:=[(0,46),(1,31)]}:=rfl
@[go_sem] theorem tb204:En.tb 204={n:=1,g:=false,by':=8,ok:=true,z:= .un,k:=6}:=rfl
@[go_sem] theorem tb205:En.tb 205={n:=1,g:=false,by':=8,ok:=true,z:= .un,k:=6}:=rfl
@[go_sem] theorem tb207:En.tb 207={n:=1,g:=false,by':=8,ok:=true,z:= .un,k:=6}:=rfl
@[go_sem] theorem tb208:En.tb 208={n:=1,g:=false,by':=8,ok:=true,z:= .un,k:=6}:=rfl
@[go_sem] theorem tb210:En.tb 210={n:=1,g:=false,by':=8,ok:=true,z:= .un,k:=6}:=rfl
@[go_sem] theorem tb212:En.tb 212={n:=1,g:=false,by':=8,ok:=true,z:= .un,k:=6}:=rfl
@[go_sem] theorem tb213:En.tb 213={n:=4,g:=true,by':=96,ok:=true,z:= .agg [.sl (some true) 1 false [],.sl (some true) 1 false [],.sl (some true) 1 false [],.sl (some true) 1 false []],k:=4,el:=22,len:=4}:=rfl
@[go_sem] theorem tb214:En.tb 214={n:=1,g:=false,by':=8,ok:=true,z:= .un,k:=6}:=rfl
@[go_sem] theorem tb215:En.tb 215={n:=1,g:=false,by':=8,ok:=true,z:= .un,k:=6}:=rfl
@[go_sem] theorem tb217:En.tb 217={n:=1,g:=false,by':=8,ok:=true,z:= .un,k:=6}:=rfl
@[go_sem] theorem tb219:En.tb 219={n:=1,g:=false,by':=8,ok:=true,z:= .un,k:=6}:=rfl
@[go_sem] theorem tb220:En.tb 220={n:=1,g:=false,by':=8,ok:=true,z:= .un,k:=6}:=rfl
@[go_sem] theorem tb224:En.tb 224={n:=1,g:=false,by':=8,ok:=true,z:= .un,k:=6}:=rfl
@[go_sem] theorem tb225:En.tb 225={n:=1,g:=false,by':=8,ok:=true,z:= .int .u64 0,k:=0,ik:= .u64}:=rfl
@[go_sem] theorem tb232:En.tb 232={n:=1,g:=false,by':=8,ok:=true,z:= .un,k:=6}:=rfl
@[go_sem] theorem tb233:En.tb 233={n:=1,g:=false,by':=8,ok:=true,z:= .un,k:=6}:=rfl
@[go_sem] theorem tb234:En.tb 234={n:=1,g:=false,by':=8,ok:=true,z:= .un,k:=6}:=rfl
@[go_sem] theorem tb235:En.tb 235={n:=1,g:=false,by':=8,ok:=true,z:= .un,k:=6}:=rfl
@[go_sem] theorem tb236:En.tb 236={n:=1,g:=false,by':=8,ok:=true,z:= .un,k:=6}:=rfl
@[go_sem] theorem tb237:En.tb 237={n:=1,g:=false,by':=8,ok:=true,z:= .un,k:=6}:=rfl
@[go_sem] theorem tb238:En.tb 238={n:=1,g:=false,by':=8,ok:=true,z:= .un,k:=6}:=rfl
@[go_sem] theorem tb239:En.tb 239={n:=1,g:=false,by':=8,ok:=true,z:= .un,k:=6}:=rfl
@[go_sem] theorem tb242:En.tb 242={n:=1,g:=false,by':=8,ok:=true,z:= .un,k:=6}:=rfl
@[go_sem] theorem tb243:En.tb 243={n:=1,g:=false,by':=16,ok:=true,z:= .un,k:=8}:=rfl
@[go_sem] theorem tb244:En.tb 244={n:=1,g:=false,by':=16,ok:=true,z:= .un,k:=8}:=rfl
@[go_sem] theorem tb246:En.tb 246={n:=1,g:=false,by':=8,ok:=true,z:= .un,k:=6}:=rfl
@[go_sem] theorem tb247:En.tb 247={n:=1,g:=false,by':=8,ok:=true,z:= .un,k:=6}:=rfl
@[go_sem] theorem tb249:En.tb 249={n:=1,g:=false,by':=8,ok:=true,z:= .un,k:=6}:=rfl
@[go_sem] theorem tb250:En.tb 250={n:=1,g:=false,by':=8,ok:=true,z:= .un,k:=6}:=rfl
@[go_sem] theorem tb251:En.tb 251={n:=1,g:=false,by':=8,ok:=true,z:= .un,k:=6}:=rfl
@[go_sem] theorem tb253:En.tb 253={n:=1,g:=false,by':=8,ok:=true,z:= .un,k:=6}:=rfl
@[go_sem] theorem tb254:En.tb 254={n:=1,g:=false,by':=8,ok:=true,z:= .un,k:=6}:=rfl
@[go_sem] theorem tb255:En.tb 255={n:=1,g:=false,by':=8,ok:=true,z:= .un,k:=6}:=rfl
@[go_sem] theorem tb256:En.tb 256={n:=1,g:=false,by':=8,ok:=true,z:= .un,k:=6}:=rfl
@[go_sem] theorem tb257:En.tb 257={n:=1,g:=false,by':=8,ok:=true,z:= .un,k:=6}:=rfl
@[go_sem] theorem tb258:En.tb 258={n:=1,g:=false,by':=8,ok:=true,z:= .un,k:=6}:=rfl
@[go_sem] theorem tb259:En.tb 259={n:=1,g:=false,by':=8,ok:=true,z:= .un,k:=6}:=rfl
@[go_sem] theorem tb260:En.tb 260={n:=1,g:=false,by':=8,ok:=true,z:= .un,k:=6}:=rfl
@[go_sem] theorem pz:En.tb 263={n:=3,g:=true,by':=24,ok:=true,z:= .agg [.int .i64 0,.int .i64 0,.int .i64 0],k:=5,fs:=[(0,3),(1,3),(2,3)],cmp:=true,ck:=[0,0,0]}:=rfl
@[go_sem] theorem tb264:En.tb 264={n:=1,g:=false,by':=8,ok:=true,z:= .un,k:=6}:=rfl
@[go_sem] theorem tb266:En.tb 266={n:=1,g:=true,by':=24,ok:=true,z:= .agg [.sl (some true) 4 true []],k:=5,fs:=[(0,124)]}:=rfl
@[go_sem] theorem tb270:En.tb 270={n:=1,g:=false,by':=8,ok:=true,z:= .un,k:=6}:=rfl
@[go_sem] theorem tb271:En.tb 271={n:=1,g:=false,by':=8,ok:=true,z:= .un,k:=6}:=rfl
@[go_sem] theorem tb273:En.tb 273={n:=1,g:=false,by':=8,ok:=true,z:= .un,k:=6}:=rfl
@[go_sem] theorem tb274:En.tb 274={n:=1,g:=false,by':=8,ok:=true,z:= .un,k:=6}:=rfl
@[go_sem] theorem tb275:En.tb 275={n:=1,g:=false,by':=8,ok:=true,z:= .un,k:=6}:=rfl
@[go_sem] theorem tb276:En.tb 276={n:=1,g:=false,by':=8,ok:=true,z:= .un,k:=6}:=rfl
@[go_sem] theorem tb277:En.tb 277={n:=1,g:=false,by':=4,ok:=true,z:= .int .u32 0,k:=0,ik:= .u32}:=rfl
@[go_sem] theorem tb278:En.tb 278={n:=8,g:=true,by':=32,ok:=true,z:= .agg [.int .u32 0,.int .u32 0,.int .u32 0,.int .u32 0,.int .u32 0,.int .u32 0,.int .u32 0,.int .u32 0],k:=4,el:=277,len:=8,cmp:=true,ck:=[0,0,0,0,0,0,0,0]}:=rfl
@[go_sem] theorem tb279:En.tb 279={n:=1,g:=false,by':=8,ok:=true,z:= .un,k:=6}:=rfl
@[go_sem] theorem tb280:En.tb 280={n:=1,g:=false,by':=24,ok:=true,z:= .sl (some true) 1 false [],k:=3,el:=277}:=rfl
@[go_sem] theorem tb281:En.tb 281={n:=1,g:=false,by':=8,ok:=true,z:= .un,k:=6}:=rfl
@[go_sem] theorem tb282:En.tb 282={n:=1,g:=false,by':=8,ok:=true,z:= .un,k:=6}:=rfl
@[go_sem] theorem tb283:En.tb 283={n:=1,g:=false,by':=8,ok:=true,z:= .un,k:=6}:=rfl
@[go_sem] theorem tb284:En.tb 284={n:=1,g:=false,by':=8,ok:=true,z:= .un,k:=6}:=rfl
@[go_sem] theorem tb286:En.tb 286={n:=1,g:=false,by':=8,ok:=true,z:= .un,k:=6}:=rfl
@[go_sem] theorem tb289:En.tb 289={n:=1,g:=false,by':=8,ok:=true,z:= .un,k:=6}:=rfl
@[go_sem] theorem tb293:En.tb 293={n:=1,g:=false,by':=8,ok:=true,z:= .un,k:=6}:=rfl
@[go_sem] theorem tb294:En.tb 294={n:=1,g:=false,by':=8,ok:=true,z:= .un,k:=6}:=rfl
@[go_sem] theorem tb295:En.tb 295={n:=1,g:=false,by':=8,ok:=true,z:= .un,k:=6}:=rfl
@[go_sem] theorem tb296:En.tb 296={n:=1,g:=false,by':=8,ok:=true,z:= .un,k:=6}:=rfl
@[go_sem] theorem tb297:En.tb 297={n:=1,g:=false,by':=8,ok:=true,z:= .un,k:=6}:=rfl
@[go_sem] theorem tb298:En.tb 298={n:=1,g:=false,by':=8,ok:=true,z:= .un,k:=6}:=rfl
@[go_sem] theorem tb303:En.tb 303={n:=1,g:=false,by':=8,ok:=true,z:= .un,k:=6}:=rfl
@[go_sem] theorem tb305:En.tb 305={n:=1,g:=false,by':=8,ok:=true,z:= .un,k:=6}:=rfl
@[go_sem] theorem tb306:En.tb 306={n:=1,g:=false,by':=8,ok:=true,z:= .un,k:=6}:=rfl
@[go_sem] theorem tb307:En.tb 307={n:=64,g:=true,by':=256,ok:=true,z:= .agg [.int .u32 0,.int .u32 0,.int .u32 0,.int .u32 0,.int .u32 0,.int .u32 0,.int .u32 0,.int .u32 0,.int .u32 0,.int .u32 0,.int .u32 0,.int .u32 0,.int .u32 0,.int .u32 0,.int .u32 0,.int .u32 0,.int .u32 0,.int .u32 0,.int .u32 0,.int .u32 0,.int .u32 0,.int .u32 0,.int .u32 0,.int .u32 0,.int .u32 0,.int .u32 0,.int .u32 0,.int .u32 0,.int .u32 0,.int .u32 0,.int .u32 0,.int .u32 0,.int .u32 0,.int .u32 0,.int .u32 0,.int .u32 0,.int .u32 0,.int .u32 0,.int .u32 0,.int .u32 0,.int .u32 0,.int .u32 0,.int .u32 0,.int .u32 0,.int .u32 0,.int .u32 0,.int .u32 0,.int .u32 0,.int .u32 0,.int .u32 0,.int .u32 0,.int .u32 0,.int .u32 0,.int .u32 0,.int .u32 0,.int .u32 0,.int .u32 0,.int .u32 0,.int .u32 0,.int .u32 0,.int .u32 0,.int .u32 0,.int .u32 0,.int .u32 0],k:=4,el:=277,len:=64,cmp:=true,ck:=[0,0,0,0,0,0,0,0,0,0,0,0,0,0,0,0,0,0,0,0,0,0,0,0,0,0,0,0,0,0,0,0,0,0,0,0,0,0,0,0,0,0,0,0,0,0,0,0,0,0,0,0,0,0,0,0,0,0,0,0,0,0,0,0]}:=rfl
@[go_sem] theorem tb309:En.tb 309={n:=12,g:=true,by':=96,ok:=true,z:= .agg [.int .u64 0,.int .u64 0,.int .u64 0,.int .u64 0,.int .u64 0,.int .u64 0,.int .u64 0,.int .u64 0,.int .u64 0,.int .u64 0,.int .u64 0,.int .u64 0],k:=4,el:=200,len:=12,cmp:=true,ck:=[0,0,0,0,0,0,0,0,0,0,0,0]}:=rfl
@[go_sem] theorem tb323:En.tb 323={n:=2,g:=true,by':=16,ok:=true,z:= .agg [.int .i64 0,.int .i64 0],k:=5,fs:=[(0,3),(1,3)],cmp:=true,ck:=[0,0]}:=rfl
@[go_sem] theorem tb324:En.tb 324={n:=1,g:=false,by':=24,ok:=true,z:= .sl (some true) 2 true [],k:=3,el:=323}:=rfl
@[go_sem] theorem tb338:En.tb 338={n:=64,g:=true,by':=64,ok:=true,z:= .agg [.int .u8 0,.int .u8 0,.int .u8 0,.int .u8 0,.int .u8 0,.int .u8 0,.int .u8 0,.int .u8 0,.int .u8 0,.int .u8 0,.int .u8 0,.int .u8 0,.int .u8 0,.int .u8 0,.int .u8 0,.int .u8 0,.int .u8 0,.int .u8 0,.int .u8 0,.int .u8 0,.int .u8 0,.int .u8 0,.int .u8 0,.int .u8 0,.int .u8 0,.int .u8 0,.int .u8 0,.int .u8 0,.int .u8 0,.int .u8 0,.int .u8 0,.int .u8 0,.int .u8 0,.int .u8 0,.int .u8 0,.int .u8 0,.int .u8 0,.int .u8 0,.int .u8 0,.int .u8 0,.int .u8 0,.int .u8 0,.int .u8 0,.int .u8 0,.int .u8 0,.int .u8 0,.int .u8 0,.int .u8 0,.int .u8 0,.int .u8 0,.int .u8 0,.int .u8 0,.int .u8 0,.int .u8 0,.int .u8 0,.int .u8 0,.int .u8 0,.int .u8 0,.int .u8 0,.int .u8 0,.int .u8 0,.int .u8 0,.int .u8 0,.int .u8 0],k:=4,el:=5,len:=64,cmp:=true,ck:=[0,0,0,0,0,0,0,0,0,0,0,0,0,0,0,0,0,0,0,0,0,0,0,0,0,0,0,0,0,0,0,0,0,0,0,0,0,0,0,0,0,0,0,0,0,0,0,0,0,0,0,0,0,0,0,0,0,0,0,0,0,0,0,0]}:=rfl
@[go_sem] theorem tb357:En.tb 357={n:=1,g:=false,by':=24,ok:=true,z:= .sl (some true) 1 false [],k:=3,el:=117}:=rfl
@[go_sem] theorem tb380:En.tb 380={n:=1,g:=false,by':=8,ok:=true,z:= .un,k:=6}:=rfl
@[go_sem] theorem tb385:En.tb 385={n:=1,g:=false,by':=8,ok:=true,z:= .un,k:=6}:=rfl
@[go_sem] theorem tb394:En.tb 394={n:=1,g:=false,by':=8,ok:=true,z:= .un,k:=6}:=rfl
end Go.Proofs.YtiknkaadhomeiaaGreatDoor
namespace Go.Proofs.YtiknkaadhomeiaaGreatDoor
open Go.RowKit
section
variable {E:Env} {J:cC} {k:List Ct} {S S1 S2:St}
theorem co.trans (h:co E S S1) (h':co E S1 S2):co E S S2:=by
 intro c0 c ρ F hs
 obtain ⟨c1,ρ1,e,h1⟩:=h c0 c ρ F hs
 obtain ⟨c2,ρ2,e2,h2⟩:=h' c0 c1 ρ1 F h1
 exact ⟨c2,ρ2,e2.trans e,h2⟩
theorem dV (t T:Nat) {n:Nat} {g:Bool} (h:al S.F t=some (.sl (some true) n g [])) (hg:g=false→n=1):co E S ⟨(t,.own S.nx)::S.F,(S.nx,.own T n g (some true) [])::S.H,S.nx+1⟩:=by
 intro c0 c ρ F hs
 have hf:ρ S.nx=none:=hs.2 _ (Nat.le_refl _)
 have hrd:=hs.1.slot _ _ h
 have e:F t= .slice none 0 0:=by
  simp only [rd,zOk] at hrd
  obtain ⟨a,cap,e,_,⟨rfl,rfl⟩,_⟩:=hrd
  exact e
 have hro:iX ρ (fun i=>if i=S.nx then some (.slice none 0 0) else ρ i):=pb hf fun i hi=>by simp [hi]
 have hat:(fun i=>if i=S.nx then some (Value.slice none 0 0) else ρ i) S.nx=some (.slice none 0 0):=by simp
 have hoth: ∀i,i≠S.nx→(fun i=>if i=S.nx then some (Value.slice none 0 0) else ρ i) i=ρ i:=fun i hi=>by simp [hi]
 generalize (fun i=>if i=S.nx then some (Value.slice none 0 0) else ρ i)=ρ' at hro hat hoth
 refine ⟨c,ρ',rfl,⟨hs.1.since,hs.1.gl,?_,?_,?_⟩,?_⟩
 ·intro t' v ht
  simp only [al] at ht
  split at ht
  ·rename_i e';subst e';cases ht
   simp only [rd]
   exact ⟨e▸hat,by rw [e];rfl⟩
  ·exact dw hro (hs.1.slot t' v ht)
 ·intro i b hb
  simp only [al] at hb
  split at hb
  ·rename_i e';subst e';cases hb
   refine ⟨_,hat,Own.nil,fun k hk=>by simp [blk] at hk,hg,none,0,rfl,rfl,rfl⟩
  ·exact nj hro (hs.1.heap i b hb)
 ·intro i j bi bj k hij hbi hbj hpi hpj hk hk'
  have hn:am ρ' S.nx=none:=by simp [am,hat,blk]
  have hi:i≠S.nx:=fun e'=>by rw [e',hn] at hk;cases hk
  have hj:j≠S.nx:=fun e'=>by rw [e',hn] at hk';cases hk'
  simp only [al,Ne.symm hi,Ne.symm hj,if_false] at hbi hbj
  rw [cW (hoth i hi)] at hk
  rw [cW (hoth j hj)] at hk'
  exact hs.1.sep i j bi bj k hij hbi hbj hpi hpj hk hk'
 ·intro i hi
  have hi':S.nx+1≤i:=hi
  rw [hoth i (by omega)]
  exact hs.2 i (by omega)
theorem bN {a:Code} (I:Nat→St→Prop) (k0:Nat) (S1 S2:St) (hW:co E S S1) (hF:eT S1.F S2.nx S2.F) (hH:eU S1.H S2.nx S2.H) (h0:I k0 S2)
  (h: ∀n S',I n S'→aE E J (.code a:: .lp (fun S2=> ∃n',n'<n∧ ∃S3,co E S2 S3∧I n' S3)::k) .normal S'):aE E J (.code (.loop a)::k) .normal S:=
 ⟨I,k0,⟨S2,hW.trans (kK hF hH),h0⟩,h⟩
end
def ah {α R:Type}:Nat→((α→R)→α→R)→(α→R)→α→R
 | 0,_,d,a=>d a
 | n+1,f,d,a=>f (ah n f d) a
theorem aH {α R:Type} {n:Nat} {f:(α→R)→α→R} {d:α→R} {a:α} {r:R} (h:ah n f d a=r): ∃g e,g=f∧e=d∧ah n g e a=r:=⟨f,d,rfl,rfl,h⟩
theorem aI {α R:Type} {n:Nat} {f g:(α→R)→α→R} {d:α→R} {a:α} {r:R} (h:ah n f d a=r) (hn:0<n) (hf:f=g): ∃ag,ag=ah (n - 1) f d∧g ag a=r:=by
 subst hf
 cases n with
 | zero=>omega
 | succ m=>exact ⟨_,rfl,h⟩
theorem aM {α R:Type} {n:Nat} {f:(α→R)→α→R} {d ag:α→R} {a:α} {r:R} (h:ag a=r) (e:ag=ah n f d):ah n f d a=r:=e▸h
def eX {α β R:Type}:List β→((α→R)→β→α→R)→(α→R)→α→R
 | [],_,d,a=>d a
 | y::l,f,d,a=>f (eX l f d) y a
theorem IJ {α β R:Type} {ys:List β} {f:(α→R)→β→α→R} {d:α→R} {p:α} {n:Nat} {y:β} (h:ys[n]? =some y):eX (ys.drop n) f d p=f (eX (ys.drop (n+1)) f d) y p:=by
 obtain ⟨hn,rfl⟩:=List.getElem?_eq_some_iff.1 h
 rw [List.drop_eq_getElem_cons hn];rfl
theorem IK {pre:List Nat} {i:Nat} (h:pre++[i]=List.range (pre.length+1)):pre=List.range pre.length∧i=pre.length:=by
 rw [List.range_succ] at h
 obtain ⟨h1,h2⟩:=List.append_inj' h rfl
 exact ⟨h1,by simpa using h2⟩
theorem IL {E:Env} {S:St}:co E S S:=fun _ c ρ _ h=>⟨c,ρ,rfl,h⟩
theorem AC {α β R:Type} {ys:List β} {f:(α→R)→β→α→R} {d:α→R} {a:α} {r:R} (h:eX ys f d a=r): ∃g e,g=f∧e=d∧eX ys g e a=r:=⟨f,d,rfl,rfl,h⟩
theorem AD {α β R:Type} {f g:(α→R)→β→α→R} {ag:α→R} {y:β} {a:α} {r:R} (h:f ag y a=r) (hf:f=g):g ag y a=r:=hf▸h
theorem AE {E:Env} {S S1:St} (hF:eT (dnF S.F) S1.nx S1.F) (hH:eU S.H S1.nx S1.H):co E (dnS S) S1:=kK (S:=dnS S) hF hH
theorem AF {E:Env} {J:cC} {k:List Ct} {e:Exit} {S S':St} (h:S=S') (hc:aE E J k e S'):aE E J k e S:=h▸hc
theorem AG {E:Env} {J:cC} {k:List Ct} {S:St} {α β R:Type} {g:Operand} {ps:Array Tmp} {as1 a:Code} {gf:FuncId} {caps:List V} {d p:Nat} (ys:List β) (enc:β→List V) (st:α→St) (fa:Nat→α→Prop) {f:(α→R)→β→α→R} {dd:α→R} {p0:α} {r:R}
  (hM:eX ys f dd p0=r) (hit:pr E gf caps (ys.map enc)) (hg:(st p0).ev E.gv g=some (.fn gf caps)) (hc:dG caps) (ha:asg as1=some (d,p)∧ps.toList.Nodup∧p∈ps.toList) (hl: ∀y,(enc y).length=ps.size)
  {S1:St} (hW:co E S S1) (hF:eT S1.F (st p0).nx (st p0).F) (hH:eU S1.H (st p0).nx (st p0).H) (h0:fa 0 p0) (hn: ∀n p,fa n p→(kJ (st p).H&&rP (st p).F)=true)
  (hbody: ∀ag n y q r' (K:Exit→St→Prop),y∈ys→n<ys.length→fa n q→f ag y q=r'→(∀q' S,co E (dnS S) (st q')→fa (n+1) q'→ag q'=r'→K .normal S)→(∀S,kJ S.H=true→(r'=r→aE E J k .ret (dnS S))→K .ret S)→
   aE E J [.code a,.fin K] .normal (rQ d p ps.toList (enc y) (st q)))
  (hend: ∀q,fa ys.length q→dd q=r→aE E J k .normal (st q)):aE E J (.code (.rangeFunc g ps as1 a)::k) .normal S:=by
 refine ⟨gf,caps,ys.map enc,d,p,fun pre S'=> ∃q,S'=st q∧fa pre.length q∧(pre=List.range pre.length→eX (ys.drop pre.length) f dd q=r),st p0,hW.trans (kK hF hH),⟨p0,rfl,h0,fun _=>hM⟩,hg,hc,ha,hit,fun l hl'=> ?_,?_,?_,?_⟩
 ·obtain ⟨y,_,rfl⟩:=List.mem_map.1 hl';exact hl y
 ·rintro pre S' ⟨q,rfl,hq,_⟩;exact hn _ q hq
 ·rintro pre i l S' ⟨q,rfl,hq,hm⟩ hi hlt
  rw [List.getElem?_map,Option.map_eq_some_iff] at hi
  obtain ⟨y,hy,rfl⟩:=hi
  have hr:pre++[i]=List.range (pre.length+1)→f (eX (ys.drop (pre.length+1)) f dd) y q=r:=fun h=>by
   obtain ⟨h1,rfl⟩:=IK h
   rw [←hm h1,IJ hy]
  refine hbody (eX (ys.drop (pre.length+1)) f dd) pre.length y q _ _ (List.mem_of_getElem? hy) (by simpa using hlt) hq rfl (fun q' S hw hf ha'=> ?_) (fun S h1 h2=> ?_)
  ·exact ⟨st q',hw,q',rfl,by simpa using hf,fun h=>by simp only [List.length_append,List.length_cons,List.length_nil,Nat.zero_add] at h⊢;exact ha'.trans (hr h)⟩
  ·exact ⟨h1,fun h=>h2 (hr h)⟩
 ·rintro S' ⟨q,rfl,hq,hm⟩
  refine hend q (by simpa using hq) ?_
  have:=hm (by simp)
  simpa [eX] using this
def im {α R:Type} (j:α→R) (f:(α→R)→R):R:=f j
theorem nJ {α R:Type} {j:α→R} {f:(α→R)→R} {r:R} (h:im j f=r): ∃g,g=j∧f g=r:=⟨j,rfl,h⟩
theorem kQ {α R:Type} {g j:α→R} {a:α} {r:R} (h:g a=r) (e:g=j):j a=r:=e▸h
theorem aR {i:Int} (h0: -9223372036854775808≤i) (h:i+1≤9223372036854775807):ak .i64 i 1=i+1:=by
 unfold ak;rw [IntKind.wrap_i64];omega
theorem io:LEN=1073741824:=rfl
theorem ip {d:Int}:Rng .i64 d=(-9223372036854775808≤d∧d≤9223372036854775807):=by simp [Rng,IntKind.min,IntKind.max,IntKind.bits,IntKind.signed]
theorem pA {d:Int}:Rng .u64 d=(0≤d∧d≤18446744073709551615):=by simp [Rng,IntKind.min,IntKind.max,IntKind.bits,IntKind.signed]
theorem sr {d:Int}:Rng .u8 d=(0≤d∧d≤255):=by simp [Rng,IntKind.min,IntKind.max,IntKind.bits,IntKind.signed]
theorem pB {d:Int}:Rng .u32 d=(0≤d∧d≤4294967295):=by simp [Rng,IntKind.min,IntKind.max,IntKind.bits,IntKind.signed]
theorem ss {d:Int}:Rng .i32 d=(-2147483648≤d∧d≤2147483647):=by simp [Rng,IntKind.min,IntKind.max,IntKind.bits,IntKind.signed]
theorem kR {α:Type} {l:List α} {i j:Int}:(sl l i j).length=min (j.toNat - i.toNat) (l.length - i.toNat):=by simp [sl]
theorem ja {α:Type} {l:List α} {i:Int} {x:α}:(st l i x).length=l.length:=by simp [st]
theorem cg {α:Type} [Inhabited α] {l:List α} {f:α→V} {i:Int} (h:i.toNat<l.length) (d:V):elt (l.map f) i.toNat d=f (gt l i):=by
 simp [elt,gt,List.getD,h]
theorem eY {a b:Int} (h0: -9223372036854775808≤a+b) (h:a+b≤9223372036854775807):ak .i64 a b=a+b:=by
 unfold ak;rw [IntKind.wrap_i64];omega
theorem cE {a b:Int} (h0: -9223372036854775808≤a - b) (h:a - b≤9223372036854775807):az .i64 a b=a - b:=by
 unfold az;rw [IntKind.wrap_i64];omega
theorem kS {α:Type} [Inhabited α] {a:α} {l:List α}:gt (a::l) 0=a:=rfl
theorem kT {α:Type} [Inhabited α] {a:α} {l:List α} {i:Int} (h:0<i):gt (a::l) i=gt l (i - 1):=by
 obtain ⟨n,rfl⟩: ∃n:Nat,i=((n+1:Nat):Int):=⟨(i - 1).toNat,by omega⟩
 simp [gt]
theorem jM {k:IntKind} {n:Nat} {b:Int}:bJ k ((n:Nat):Int) b=((n:Nat):Int)% b:=Int.tmod_eq_emod_of_nonneg (by omega)
theorem wt: ∀{B:List Int},oZ (B.map (V.int .u8))
 | []=>trivial
 | _::B=>⟨trivial,wt (B:=B)⟩
@[go_sem] theorem IM: ∀{B:List Int},(B.map (V.int .u8)).map (fun d=>u8N (kA d))=B.map u8N
 | []=>rfl
 | x::B=>by rw [List.map_cons,List.map_cons,IM (B:=B)];rfl
def pC (a:List UInt8):List Int:=a.map fun b=>(b.toNat:Int)
theorem nK {a:List UInt8}:(pC a).length=a.length:=by simp [pC]
@[go_sem] theorem IO: ∀{a:List UInt8},a.map u8V=(pC a).map (V.int .u8)
 | []=>rfl
 | x::B=>by rw [List.map_cons,IO (a:=B)];rfl
def pD {α:Type} [Inhabited α] (f:α→V) (l:List α):Nat→Int→List V
 | 0,_=> []
 | k+1,i=>f (gt l i)::pD f l k (i+1)
theorem AH {α:Type} [Inhabited α] {f:α→V} {l:List α}: ∀{k i:Nat},i+k≤l.length→kB (l.map f) k i=pD f l k i
 | 0,_,_=>rfl
 | k+1,i,h=>by
  simp only [kB,pD]
  rw [AH (k:=k) (i:=i+1) (by omega)]
  have h2:=cg (l:=l) (f:=f) (i:=(i:Int)) (by simp;omega) .un
  simp only [Int.toNat_natCast] at h2
  rw [h2];simp
theorem su {α:Type} [Inhabited α] {f:α→V} {l:List α} {k:Nat} (h:k≤l.length):kB (l.map f) k 0=pD f l k 0:=AH (i:=0) (by omega)
def eG {α:Type} [Inhabited α] (l:List α):Nat→Int→List α
 | 0,_=> []
 | k+1,i=>gt l i::eG l k (i+1)
def au {α:Type} [Inhabited α] (n:Nat) (l:List α):List α:=eG l n 0
theorem AJ {α:Type} [Inhabited α] {l:List α}: ∀{k:Nat} {i:Int},(eG l k i).length=k
 | 0,_=>rfl
 | k+1,i=>by simp [eG,AJ (k:=k)]
theorem cq {α:Type} [Inhabited α] {l:List α} {n:Nat}:(au n l).length=n:=AJ
@[go_sem] theorem Oc {α β:Type} {l:List α} {f:α→β} {a b:β}:(l.map f++[a]).set l.length b=l.map f++[b]:=by
 rw [List.set_append_right _ _ (by simp)];simp
attribute [go_sem] pD au eG
end Go.Proofs.YtiknkaadhomeiaaGreatDoor
namespace Go.Proofs.YtiknkaadhomeiaaGreatDoor
open Go.RowKit
section
variable {E:Env} {J:cC} {k:List Ct} {S S1 S2:St} {c0 c:Cx} {ρ:Ro} {F:Fm}
theorem gE (i:Nat) {T n:Nat} {g:Bool} {z:Option Bool} {l:List V} (h:al S.H i=some (.own T n g z l)):co E S ⟨S.F,fp S.H i (.pown n g z l),S.nx⟩:=by
 intro c0 c ρ F hs
 obtain ⟨v,hv,hown,hge,hone,a,cap,es,hz⟩:=hs.1.heap _ _ h
 have hpd:=c.pub_dropv v
 have hbo:am ρ i=blk v:=by unfold am;rw [hv,es]
 have hsep: ∀j b,i≠j→al S.H j=some b→aW b=true→ ∀x,am ρ j=some x→blk v≠some x:=by
  intro j b hij hb hp x hx hx'
  exact hs.1.sep i j _ b x hij h hb rfl hp (hbo▸hx') hx
 refine ⟨c.dropv v,ρ,rfl,⟨hs.1.since.dropv hge,hs.1.gl.mono hpd,fun t x ht=>bA hpd (hs.1.slot t x ht),?_,?_⟩,hs.2⟩
 ·intro j b hb
  simp only [dS] at hb
  split at hb
  ·rename_i e;subst e;cases hb
   refine ⟨v,hv,?_⟩
   obtain ⟨a',cap',e1,h1,h2⟩:=fT.1 hown.val
   rw [es] at e1;cases e1
   exact dv.2 ⟨a,cap,es,h1,hz,h2⟩
  ·rename_i hij
   have hb0:=hs.1.heap _ _ hb
   have hsp:=hsep j b hij hb
   cases b with
   | var n' g' d=>
    obtain ⟨b',h1,h2,h3⟩:=hb0
    exact ⟨b',h1,h2,Cx.dropv_var h3 (hsp rfl b' (by simp [am,h1]))⟩
   | own E' n' g' z' l'=>
    obtain ⟨v',h1,h2,h3,h4,a',cap',e',h5⟩:=hb0
    exact ⟨v',h1,Cx.dropv_own h2 (fun x hx=>hsp rfl x (by unfold am;rw [h1,e'];rw [e'] at hx;exact hx)),h3,h4,a',cap',e',h5⟩
   | ownI E' n' g' z' l'=>
    obtain ⟨v',h1,h2,h3,h4,a',cap',e',h5⟩:=hb0
    exact ⟨v',h1,Cx.dropv_own h2 (fun x hx=>hsp rfl x (by unfold am;rw [h1,e'];rw [e'] at hx;exact hx)),h3,h4,a',cap',e',h5⟩
   | pvar n' g' d=>
    obtain ⟨b',h1,h2⟩:=hb0
    exact ⟨b',h1,(kp _).mono h2 hpd⟩
   | pown n' g' z' l'=>
    obtain ⟨v',h1,h2⟩:=hb0
    exact ⟨v',h1,bA hpd h2⟩
   | lent k' n' g' d=>
    obtain ⟨h1,h2,h3⟩:=hb0
    exact ⟨h1,h2,Cx.dropv_var h3 (hsp rfl k' (by simp [am,h1]))⟩
   | kset g' k' n' l'=>
    obtain ⟨r,h1,h2,h3⟩:=hb0
    exact ⟨r,h1,h2,Cx.dropv_set h3 (hsp rfl r (by simp [am,h1,blk]))⟩
 ·intro a b ba bb x hab ha hb hpa hpb hx
  simp only [dS] at ha hb
  split at ha
  ·cases ha;cases hpa
  ·split at hb
   ·cases hb;cases hpb
   ·exact hs.1.sep a b ba bb x hab ha hb hpa hpb hx
theorem iq (t i:Nat) {n:Nat} {g:Bool} {z:Option Bool} {l:List V} (h:al S.F t=some (.own i)) (h2:al S.H i=some (.pown n g z l)):co E S ⟨(t,.sl z n g l)::S.F,S.H,S.nx⟩:=by
 intro c0 c ρ F hs
 refine ⟨c,ρ,rfl,⟨hs.1.since,hs.1.gl,fun t' v ht=> ?_,hs.1.heap,hs.1.sep⟩,hs.2⟩
 simp only [al] at ht
 split at ht
 ·rename_i e;subst e;cases ht
  have h3:=hs.1.slot _ _ h
  obtain ⟨v,h4,h5⟩:=hs.1.heap _ _ h2
  simp only [rd] at h3
  rw [h3.1] at h4;cases h4
  simpa only [rd] using h5
 ·exact hs.1.slot _ _ ht
theorem wu (i:Nat) {n:Nat} {g:Bool} {d:V} (h:al S.H i=some (.var n g d)) (hpu:dY d):co E S ⟨S.F,fp S.H i (.pvar n g d),S.nx⟩:=by
 intro c0 c ρ F hs
 obtain ⟨b,hv,hge,hvar⟩:=hs.1.heap _ _ h
 have hbv:blk (.slice (some ⟨b,0,none⟩) 0 1)=some b:=rfl
 have hpd:=c.pub_dropv (.slice (some ⟨b,0,none⟩) 0 1)
 have hbo:am ρ i=some b:=by unfold am;rw [hv]
 have hsep: ∀j b',i≠j→al S.H j=some b'→aW b'=true→ ∀x,am ρ j=some x→blk (.slice (some ⟨b,0,none⟩) 0 1)≠some x:=by
  intro j b' hij hb hp x hx hx'
  exact hs.1.sep i j _ b' x hij h hb rfl hp (hbo▸hx') hx
 refine ⟨c.dropv (.slice (some ⟨b,0,none⟩) 0 1),ρ,rfl,⟨hs.1.since.dropv (fun k hk=>by rw [hbv] at hk;cases hk;exact hge),hs.1.gl.mono hpd,fun t x ht=>bA hpd (hs.1.slot t x ht),?_,?_⟩,hs.2⟩
 ·intro j b' hb
  simp only [dS] at hb
  split at hb
  ·rename_i e;subst e;cases hb
   obtain ⟨h1,T,cs,h2,h3⟩:=hvar
   refine ⟨b,hv,b,0,cs.toList,rfl,c.ok b h1,?_,?_,?_⟩
   ·simp only [Cx.dropv,List.mem_filter,hbv];simp
   ·intro j u hj
    show (c.dropv _).w.cell? _=_
    simp only [Cx.dropv,World.cell?,h2]
    simpa using hj
   ·exact ⟨h3.1,bA hpd (kF hpu h3.2)⟩
  ·rename_i hij
   have hb0:=hs.1.heap _ _ hb
   have hsp:=hsep j b' hij hb
   cases b' with
   | var n' g' d=>
    obtain ⟨b',h1,h2,h3⟩:=hb0
    exact ⟨b',h1,h2,Cx.dropv_var h3 (hsp rfl b' (by simp [am,h1]))⟩
   | own E' n' g' z' l'=>
    obtain ⟨v',h1,h2,h3,h4,a',cap',e',h5⟩:=hb0
    exact ⟨v',h1,Cx.dropv_own h2 (fun x hx=>hsp rfl x (by unfold am;rw [h1,e'];rw [e'] at hx;exact hx)),h3,h4,a',cap',e',h5⟩
   | ownI E' n' g' z' l'=>
    obtain ⟨v',h1,h2,h3,h4,a',cap',e',h5⟩:=hb0
    exact ⟨v',h1,Cx.dropv_own h2 (fun x hx=>hsp rfl x (by unfold am;rw [h1,e'];rw [e'] at hx;exact hx)),h3,h4,a',cap',e',h5⟩
   | pvar n' g' d=>
    obtain ⟨b',h1,h2⟩:=hb0
    exact ⟨b',h1,(kp _).mono h2 hpd⟩
   | pown n' g' z' l'=>
    obtain ⟨v',h1,h2⟩:=hb0
    exact ⟨v',h1,bA hpd h2⟩
   | lent k' n' g' d=>
    obtain ⟨h1,h2,h3⟩:=hb0
    exact ⟨h1,h2,Cx.dropv_var h3 (hsp rfl k' (by simp [am,h1]))⟩
   | kset g' k' n' l'=>
    obtain ⟨r,h1,h2,h3⟩:=hb0
    exact ⟨r,h1,h2,Cx.dropv_set h3 (hsp rfl r (by simp [am,h1,blk]))⟩
 ·intro a b1 ba bb x hab ha hb hpa hpb hx
  simp only [dS] at ha hb
  split at ha
  ·cases ha;cases hpa
  ·split at hb
   ·cases hb;cases hpb
   ·exact hs.1.sep a b1 ba bb x hab ha hb hpa hpb hx
def sv {α:Type} (f:α→V) (l:List α) (k:Int) (i:Nat):List V:=(l.map f).set k.toNat (.own i)
section
variable {α:Type} {f:α→V} {l:List α} {i:Nat} {q:Int}
theorem eZ:(l.map f).set q.toNat (.own i)=sv f l q i:=rfl
theorem fb:(l.map f).set 0 (.own i)=sv f l 0 i:=rfl
theorem nL:(sv f l q i).length=l.length:=by simp [sv]
end
theorem pE {α:Type} {f:α→V} {l:List α} {i:Int} {x:α}:(st l i x).map f=(l.map f).set i.toNat (f x):=by simp [st,List.map_set]
theorem nM {α:Type} {l m:List α} {i k:Nat}:(spl l i k m).length=min i l.length+min k m.length+(l.length - (i+k)):=by simp only [spl,List.length_append,List.length_take,List.length_drop]
theorem nN {α:Type} {l:List α} {i j:Nat}:(lY l i j).length=min (j - i) (l.length - i):=by simp [lY]
theorem kU {a b:Int} (A B C:Int) (h1:0≤a) (h2:a≤A) (h3:0≤b) (h4:b≤B) (h5:A*B=C) (h6:C≤9223372036854775807):aK .i64 a b=a*b∧(0≤a*b∧a*b≤C):=by
 have e1:=Int.mul_nonneg h1 h3
 have e2:a*b≤A*B:=Int.mul_le_mul h2 h4 h3 (Int.le_trans h1 h2)
 rw [h5] at e2
 refine ⟨?_,e1,e2⟩
 unfold aK;rw [IntKind.wrap_i64];omega
theorem kV {a:Int} (h0: -9223372036854775808≤a) (h:a≤9223372036854775807):ae .i64 a=a:=by
 unfold ae;rw [IntKind.wrap_i64];omega
theorem nO {a:Int} (h0:0≤a) (h:a≤18446744073709551615):ae .u64 a=a:=by
 unfold ae;rw [IntKind.wrap_u64];omega
theorem jN {a b:Code} (h:aE E J (.code a:: .lp (nt E (aE E J (.code b::k) .normal))::k) .normal S):mp E J true a b k S:=h
theorem jO {b:Code} (S2 S1:St) (hW:co E S S2) (hF:eT S2.F S1.nx S1.F) (hH:eU S2.H S1.nx S1.H) (h:aE E J (.code b::k) .normal S1):aE E J (.lp (nt E (aE E J (.code b::k) .normal))::k) .normal S:=⟨S1,hW.trans (kK hF hH),h⟩
theorem IP {I:Nat→St→Prop} {n:Nat} (n':Nat) (S2 S3:St) (hlt:n'<n) (hW:co E S S2) (hF:eT S2.F S3.nx S3.F) (hH:eU S2.H S3.nx S3.H) (hI:I n' S3):aE E J (.lp (fun S2=> ∃n',n'<n∧ ∃S3,co E S2 S3∧I n' S3)::k) .normal S:=
 ⟨n',hlt,S3,hW.trans (kK hF hH),hI⟩
theorem IQ {n:Nat} {a b:V} (h:mt a b):mtL (List.replicate n a) (List.replicate n b):=by
 induction n with
 | zero=>trivial
 | succ n ih=>simp only [List.replicate_succ,mtL];exact ⟨h,ih⟩
def rep {α:Type} (n:Nat) (a:α):List α:=List.replicate n a
theorem dl {α:Type} {n:Nat} {a:α}:(rep n a).length=n:=by simp [rep]
theorem sw {n:Nat} {a b:V}:mtL (List.replicate n a) (List.replicate n b)=(n=0∨mt a b):=by
 refine propext ⟨fun h=> ?_,fun h=> ?_⟩
 ·cases n with
  | zero=>exact .inl rfl
  | succ n=>simp only [List.replicate_succ,mtL] at h;exact .inr h.1
 ·rcases h with rfl|h
  ·trivial
  ·exact IQ h
theorem wv {α:Type} {n:Nat} {a:V} {f:α→V} {x:α}:mtL (List.replicate n a) ((rep n x).map f)=(n=0∨mt a (f x)):=by
 unfold rep;rw [List.map_replicate];exact sw
end
end Go.Proofs.YtiknkaadhomeiaaGreatDoor
namespace Go.Proofs.YtiknkaadhomeiaaGreatDoor
open Go.RowKit
section
variable {E:Env} {J:cC} {k:List Ct} {S S1 S2:St} {c0 c:Cx} {ρ:Ro} {F:Fm}
def ww:Option Blk→V
 | some (.pown n g z l)=> .sl z n g l
 | _=> .un
def sx (off:Nat):Option Blk→V
 | some (.pvar n g d)=>if off=0 then .pp n g d else .un
 | _=> .un
mutual
def kW (H:List (Nat×Blk)):V→V
 | .own i=>ww (al H i)
 | .ptr i o=>sx o (al H i)
 | .optr _ _ _ _=> .un
 | .osub _ _ _ _=> .un
 | .agg l=> .agg (gF H l)
 | .tup l=> .tup (gF H l)
 | .fn f l=> .fn f (gF H l)
 | v=>v
def gF (H:List (Nat×Blk)):List V→List V
 | []=> []
 | d::l=>kW H d::gF H l
end
mutual
theorem sy (h:Sim E c0 c ρ S F): ∀{d:V} {v:Value},rd ρ c d v→rd ro0 c (kW S.H d) v
 | .int _ _,_,hr=>hr
 | .bool _,_,hr=>hr
 | .ifc _,_,hr=>hr
 | .str _,_,hr=>hr
 | .agg l,v,hr=>by
  simp only [rd,kW] at hr⊢
  obtain ⟨cs,e,hr⟩:=hr
  exact ⟨cs,e,AK h hr⟩
 | .sl z n g l,v,hr=>hr
 | .pp n g d,v,hr=>hr
 | .own i,v,hr=>by
  simp only [rd] at hr
  simp only [kW]
  cases hb:al S.H i with
  | none=>trivial
  | some b=>
   cases b with
   | pown n g z l=>
    obtain ⟨v',h1,h2⟩:=h.heap _ _ hb
    rw [hr.1] at h1;cases h1
    exact h2
   | _=>trivial
 | .ptr i o,v,hr=>by
  simp only [rd] at hr
  simp only [kW]
  obtain ⟨b0,hb0,he⟩:=hr
  cases hb:al S.H i with
  | none=>trivial
  | some b=>
   cases b with
   | pvar n g d=>
    obtain ⟨b',h1,h2⟩:=h.heap _ _ hb
    rw [hb0] at h1;cases h1
    simp only [sx]
    split
    ·rename_i e;subst e;subst he
     exact g7.2 h2
    ·trivial
   | _=>trivial
 | .optr _ _ _ _,_,_=>trivial
 | .osub _ _ _ _,_,_=>trivial
 | .tup l,v,hr=>by
  simp only [rd,kW] at hr⊢
  obtain ⟨cs,e,hr⟩:=hr
  exact ⟨cs,e,sA h hr⟩
 | .fn f l,v,hr=>by
  simp only [rd,kW] at hr⊢
  obtain ⟨cs,e,hr⟩:=hr
  exact ⟨cs,e,sA h hr⟩
 | .opq p,v,hr=>hr
 | .un,_,_=>trivial
theorem AK (h:Sim E c0 c ρ S F): ∀{l:List V} {cs:List Value},rdC ρ c l cs→rdC ro0 c (gF S.H l) cs
 | [],_,hr=>hr
 | d::l,cs,hr=>by
  simp only [rdC,gF] at hr⊢
  obtain ⟨u,c2,e,h1,h2,h3⟩:=hr
  exact ⟨u,c2,e,h1,sy h h2,AK h h3⟩
theorem sA (h:Sim E c0 c ρ S F): ∀{l:List V} {cs:List Value},rdT ρ c l cs→rdT ro0 c (gF S.H l) cs
 | [],_,hr=>hr
 | d::l,cs,hr=>by
  simp only [rdT,gF] at hr⊢
  obtain ⟨u,c2,e,h2,h3⟩:=hr
  exact ⟨u,c2,e,sy h h2,sA h h3⟩
end
theorem AL {vs ws:List V} (hm:mtL (gF S.H vs) ws):pg E S vs S ws:=
 fun _ c ρ _ _ h hr=>⟨c,ρ,rfl,Cx.pub.refl _,h,ib hm (sA h.1 hr)⟩
def gG (E:Env) (S S1:St):Prop:= ∀c0 c ρ F,bf E c0 c ρ S F→ ∃c1,c1.w=c.w∧c.pub c1∧bf E c0 c1 ρ S1 F
theorem gG.weak (h:gG E S S1):co E S S1:=by
 intro c0 c ρ F hs
 obtain ⟨c1,e,_,h1⟩:=h c0 c ρ F hs
 exact ⟨c1,ρ,e,h1⟩
theorem gG.trans (h:gG E S S1) (h':gG E S1 S2):gG E S S2:=by
 intro c0 c ρ F hs
 obtain ⟨c1,e,p1,h1⟩:=h c0 c ρ F hs
 obtain ⟨c2,e2,p2,h2⟩:=h' c0 c1 ρ F h1
 exact ⟨c2,e2.trans e,p1.trans p2,h2⟩
def jP (E:Env) (S S1:St):Prop:= ∀c0 c ρ F,bf E c0 c ρ S F→ ∃c1 ρ1,c1.w=c.w∧c.pub c1∧iX ρ ρ1∧bf E c0 c1 ρ1 S1 F
theorem jP.weak (h:jP E S S1):co E S S1:=by
 intro c0 c ρ F hs
 obtain ⟨c1,ρ1,e,_,_,h1⟩:=h c0 c ρ F hs
 exact ⟨c1,ρ1,e,h1⟩
theorem gG.toQ (h:gG E S S1):jP E S S1:=by
 intro c0 c ρ F hs
 obtain ⟨c1,e,p,h1⟩:=h c0 c ρ F hs
 exact ⟨c1,ρ,e,p,fun _ _ h=>h,h1⟩
theorem jP.trans (h:jP E S S1) (h':jP E S1 S2):jP E S S2:=by
 intro c0 c ρ F hs
 obtain ⟨c1,ρ1,e,p1,r1,h1⟩:=h c0 c ρ F hs
 obtain ⟨c2,ρ2,e2,p2,r2,h2⟩:=h' c0 c1 ρ1 F h1
 exact ⟨c2,ρ2,e2.trans e,p1.trans p2,fun i v hi=>r2 i v (r1 i v hi),h2⟩
theorem IR {vs ws:List V} (h:gG E S S1) (hg:pg E S1 vs S2 ws):pg E S vs S2 ws:=by
 intro c0 c ρ F us hs hr
 obtain ⟨c1,e,p1,h1⟩:=h c0 c ρ F hs
 obtain ⟨c2,ρ2,e2,p2,h2,h3⟩:=hg c0 c1 ρ F us h1 (fo p1 hr)
 exact ⟨c2,ρ2,e2.trans e,p1.trans p2,h2,h3⟩
theorem ir {f:FuncId} {caps vs:List V} {d:Option Nat} {ws:List V} {r:V} {H:List Blk} (hc:a8 E f ws r H) (hw:gG E S S1) (hm:mtL (gF S1.H (vs++caps)) ws) (h:wfV r→aE E J k .normal (S1.after d r H)):gC E J (some (.fn f caps)) (some vs) S d k:=
 .inl ⟨ws,r,H,hc,.inl ⟨S1,IR hw (AL hm),h⟩⟩
theorem IU {f:FuncId} {caps vs:List V} {d:Option Nat} {ws:List V} {r:V} {H:List Blk} (hc:a8 E f ws r H) (hm:mtL (gF S.H (vs++caps)) ws) (h:wfV r→aE E J k .normal (S.after d r H)):gC E J (some (.fn f caps)) (some vs) S d k:=
 .inl ⟨ws,r,H,hc,.inl ⟨S,AL hm,h⟩⟩
theorem f0 (i:Nat) {T n:Nat} {g:Bool} {z:Option Bool} {l:List V} (h:al S.H i=some (.own T n g z l)):gG E S ⟨S.F,fp S.H i (.pown n g z l),S.nx⟩:=by
 intro c0 c ρ F hs
 obtain ⟨v,hv,hown,hge,hone,a,cap,es,hz⟩:=hs.1.heap _ _ h
 obtain ⟨c1,ρ1,e,h1⟩:=gE i h c0 c ρ F hs
 have hpd:=c.pub_dropv v
 have hbo:am ρ i=blk v:=by unfold am;rw [hv,es]
 have hsep: ∀j b,i≠j→al S.H j=some b→aW b=true→ ∀x,am ρ j=some x→blk v≠some x:=by
  intro j b hij hb hp x hx hx'
  exact hs.1.sep i j _ b x hij h hb rfl hp (hbo▸hx') hx
 refine ⟨c.dropv v,rfl,hpd,⟨hs.1.since.dropv hge,hs.1.gl.mono hpd,fun t x ht=>bA hpd (hs.1.slot t x ht),?_,?_⟩,hs.2⟩
 ·intro j b hb
  simp only [dS] at hb
  split at hb
  ·rename_i e;subst e;cases hb
   refine ⟨v,hv,?_⟩
   obtain ⟨a',cap',e1,h1,h2⟩:=fT.1 hown.val
   rw [es] at e1;cases e1
   exact dv.2 ⟨a,cap,es,h1,hz,h2⟩
  ·rename_i hij
   have hb0:=hs.1.heap _ _ hb
   have hsp:=hsep j b hij hb
   cases b with
   | var n' g' d=>
    obtain ⟨b',h1,h2,h3⟩:=hb0
    exact ⟨b',h1,h2,Cx.dropv_var h3 (hsp rfl b' (by simp [am,h1]))⟩
   | own E' n' g' z' l'=>
    obtain ⟨v',h1,h2,h3,h4,a',cap',e',h5⟩:=hb0
    exact ⟨v',h1,Cx.dropv_own h2 (fun x hx=>hsp rfl x (by unfold am;rw [h1,e'];rw [e'] at hx;exact hx)),h3,h4,a',cap',e',h5⟩
   | ownI E' n' g' z' l'=>
    obtain ⟨v',h1,h2,h3,h4,a',cap',e',h5⟩:=hb0
    exact ⟨v',h1,Cx.dropv_own h2 (fun x hx=>hsp rfl x (by unfold am;rw [h1,e'];rw [e'] at hx;exact hx)),h3,h4,a',cap',e',h5⟩
   | pvar n' g' d=>
    obtain ⟨b',h1,h2⟩:=hb0
    exact ⟨b',h1,(kp _).mono h2 hpd⟩
   | pown n' g' z' l'=>
    obtain ⟨v',h1,h2⟩:=hb0
    exact ⟨v',h1,bA hpd h2⟩
   | lent k' n' g' d=>
    obtain ⟨h1,h2,h3⟩:=hb0
    exact ⟨h1,h2,Cx.dropv_var h3 (hsp rfl k' (by simp [am,h1]))⟩
   | kset g' k' n' l'=>
    obtain ⟨r,h1,h2,h3⟩:=hb0
    exact ⟨r,h1,h2,Cx.dropv_set h3 (hsp rfl r (by simp [am,h1,blk]))⟩
 ·intro a b ba bb x hab ha hb hpa hpb hx
  simp only [dS] at ha hb
  split at ha
  ·cases ha;cases hpa
  ·split at hb
   ·cases hb;cases hpb
   ·exact hs.1.sep a b ba bb x hab ha hb hpa hpb hx
def eg:List Nat→Nat→Nat→Option Nat
 | [],_,_=>none
 | j::l,i,k=>if j=i then some k else eg l i (k+1)
def sB (H:List (Nat×Blk)) (i:Nat):Option Nat→V
 | some k=> .own k
 | none=>kL (al H i)
mutual
def f_ (H:List (Nat×Blk)) (ids:List Nat):V→V
 | .own i=>sB H i (eg ids i 0)
 | .ptr _ _=> .un
 | .optr _ _ _ _=> .un
 | .osub _ _ _ _=> .un
 | .agg l=> .agg (jQ H ids l)
 | .tup l=> .tup (jQ H ids l)
 | .fn f l=> .fn f (jQ H ids l)
 | v=>v
def jQ (H:List (Nat×Blk)) (ids:List Nat):List V→List V
 | []=> []
 | d::l=>f_ H ids d::jQ H ids l
end
theorem nP: ∀{l:List Nat} {i k q:Nat},eg l i k=some q→k≤q∧l[q - k]? =some i
 | [],_,_,_,h=>by simp [eg] at h
 | j::l,i,k,q,h=>by
  simp only [eg] at h
  split at h
  ·rename_i e;subst e;cases h;simp
  ·obtain ⟨h1,h2⟩:=nP h
   refine ⟨by omega,?_⟩
   rw [show q - k=(q - (k+1))+1 by omega,List.getElem?_cons_succ]
   exact h2
theorem wx: ∀{l:List Nat} {i k:Nat},eg l i k=none→i∉l
 | [],_,_,_=>by simp
 | j::l,i,k,h=>by
  simp only [eg] at h
  split at h
  ·cases h
  ·rename_i e
   simp only [List.mem_cons,not_or]
   exact ⟨fun e'=>e e'.symm,wx h⟩
def bW (ρ:Ro) (ids:List Nat):Ro:=fun k=>match ids[k]? with
 | some i=>ρ i
 | none=>none
def Cx.give (c0 c:Cx) (ρ:Ro) (ids:List Nat) (h0:c0.w.heap.size≤c.w.heap.size) (h: ∀i∈ids,∀k,am ρ i=some k→k<c.w.heap.size):Cx:=
 {X:=c0.X++ids.filterMap (am ρ),w:=c.w,ok:=fun k hk=>(by
  rcases List.mem_append.1 hk with hk|hk
  ·exact Nat.lt_of_lt_of_le (c0.ok k hk) h0
  ·obtain ⟨i,hi,hb⟩:=List.mem_filterMap.1 hk
   exact h i hi k hb)}
def kX (H:List (Nat×Blk)):List Nat→List Blk→Prop
 | [],[]=>True
 | i::ids,b::bs=>al H i=some b∧(match b with| .own _ _ _ _ _=>True|_=>False)∧kX H ids bs
 | _,_=>False
theorem AM {H:List (Nat×Blk)}: ∀{ids:List Nat} {bs:List Blk},kX H ids bs→ids.length=bs.length∧(∀(k:Nat) (b:Blk),bs[k]? =some b→ ∃i,ids[k]? =some i∧al H i=some b∧ ∃T n g z l,b= .own T n g z l)∧ ∀i∈ids,∃b,al H i=some b∧ ∃T n g z l,b= .own T n g z l
 | [],[],_=>⟨rfl,by simp,by simp⟩
 | i::ids,b::bs,h=>by
  simp only [kX] at h
  obtain ⟨h1,h2,h3⟩:=h
  obtain ⟨g1,g2,g3⟩:=AM h3
  have hb: ∃T n g z l,b= .own T n g z l:=by
   cases b<;>first|exact ⟨_,_,_,_,_,rfl⟩|exact h2.elim
  refine ⟨by simp [g1],?_,?_⟩
  ·intro k b' hk
   cases k with
   | zero=>simp at hk;subst hk;exact ⟨i,by simp,h1,hb⟩
   | succ k=>obtain ⟨j,e,g⟩:=g2 k b' (by simpa using hk);exact ⟨j,by simpa using e,g⟩
  ·intro j hj
   rcases List.mem_cons.1 hj with rfl|hj
   ·exact ⟨b,h1,hb⟩
   ·exact g3 j hj
 | [],_::_,h=>by simp [kX] at h
 | _::_,[],h=>by simp [kX] at h
theorem IV {c1:Cx} (hw:c1.w=c.w) (hpb:c.pub c1) (h:Sim E c0 c ρ S F) {i:Nat} {b:Blk} {v:Value} (hb:al S.H i=some b) (hv:ρ i=some v) (hn:aW b=true→ ∀k,am ρ i=some k→k∉c1.X):rd ro0 c1 (kL (some b)) v:=by
 have hblk:=h.heap i b hb
 cases b with
 | own T n g z l=>
  obtain ⟨v',h1,h2,h3,h4,a,cap,e,hz⟩:=hblk
  rw [hv] at h1;cases h1
  simp only [kL]
  refine dv.2 ⟨a,cap,e,⟨h2.1,?_⟩,hz,?_⟩
  ·rcases h2.2 with ⟨a',_,rfl⟩|⟨g',cp,cur,e2,_,_,k3,_⟩
   ·simp
   ·rw [e] at e2;cases e2;exact k3
  ·rcases h2.2 with ⟨a',_,rfl⟩|⟨g',cp,cur,e2,k1,k2,k3,k4,k5,k6⟩
   ·exact .inl rfl
   ·rw [e] at e2;cases e2
    refine .inr ⟨g',0,_,rfl,by rw [hw];exact c.ok g' k1,hn rfl g' (by unfold am;rw [hv,e];rfl),?_,dh hpb k6⟩
    intro j u hj
    rw [List.getElem?_take] at hj
    split at hj
    ·simp only [Nat.zero_add]
     show c1.w.cell? _=_
     rw [hw]
     simp only [World.cell?,k2]
     simpa using hj
    ·cases hj
 | pown n g z l=>
  obtain ⟨v',h1,h2⟩:=hblk
  rw [hv] at h1;cases h1
  exact bA hpb h2
 | _=>trivial
mutual
theorem pF {c1:Cx} {ids:List Nat} (hw:c1.w=c.w) (hpb:c.pub c1) (h:Sim E c0 c ρ S F) (hn: ∀i b,i∉ids→al S.H i=some b→aW b=true→ ∀k,am ρ i=some k→k∉c1.X): ∀{d:V} {v:Value},rd ρ c d v→rd (bW ρ ids) c1 (f_ S.H ids d) v
 | .int _ _,_,hr=>hr
 | .bool _,_,hr=>hr
 | .ifc _,_,hr=>hr
 | .str _,_,hr=>hr
 | .agg l,v,hr=>by
  simp only [rd,f_] at hr⊢
  obtain ⟨cs,e,hr⟩:=hr
  exact ⟨cs,e,AN hw hpb h hn hr⟩
 | .sl z n g l,v,hr=>bA hpb (show rd ro0 c (.sl z n g l) v from hr)
 | .pp n g d,v,hr=>bA hpb (show rd ro0 c (.pp n g d) v from hr)
 | .own i,v,hr=>by
  simp only [rd] at hr
  simp only [f_]
  cases hp:eg ids i 0 with
  | some q=>
   obtain ⟨_,h2⟩:=nP hp
   simp only [sB,rd]
   exact ⟨by simp only [bW];rw [show q - 0=q from rfl] at h2;rw [h2];exact hr.1,hr.2⟩
  | none=>
   simp only [sB]
   cases hb:al S.H i with
   | none=>trivial
   | some b=>exact rd0 (IV hw hpb h hb hr.1 (fun hp'=>hn i b (wx hp) hb hp'))
 | .ptr _ _,_,_=>trivial
 | .optr _ _ _ _,_,_=>trivial
 | .osub _ _ _ _,_,_=>trivial
 | .tup l,v,hr=>by
  simp only [rd,f_] at hr⊢
  obtain ⟨cs,e,hr⟩:=hr
  exact ⟨cs,e,wy hw hpb h hn hr⟩
 | .fn f l,v,hr=>by
  simp only [rd,f_] at hr⊢
  obtain ⟨cs,e,hr⟩:=hr
  exact ⟨cs,e,wy hw hpb h hn hr⟩
 | .opq p,v,hr=>bA hpb (show rd ro0 c (.opq p) v from hr)
 | .un,_,_=>trivial
theorem AN {c1:Cx} {ids:List Nat} (hw:c1.w=c.w) (hpb:c.pub c1) (h:Sim E c0 c ρ S F) (hn: ∀i b,i∉ids→al S.H i=some b→aW b=true→ ∀k,am ρ i=some k→k∉c1.X): ∀{l:List V} {cs:List Value},rdC ρ c l cs→rdC (bW ρ ids) c1 (jQ S.H ids l) cs
 | [],_,hr=>hr
 | d::l,cs,hr=>by
  simp only [rdC,jQ] at hr⊢
  obtain ⟨u,c2,e,h1,h2,h3⟩:=hr
  exact ⟨u,c2,e,h1,pF hw hpb h hn h2,AN hw hpb h hn h3⟩
theorem wy {c1:Cx} {ids:List Nat} (hw:c1.w=c.w) (hpb:c.pub c1) (h:Sim E c0 c ρ S F) (hn: ∀i b,i∉ids→al S.H i=some b→aW b=true→ ∀k,am ρ i=some k→k∉c1.X): ∀{l:List V} {cs:List Value},rdT ρ c l cs→rdT (bW ρ ids) c1 (jQ S.H ids l) cs
 | [],_,hr=>hr
 | d::l,cs,hr=>by
  simp only [rdT,jQ] at hr⊢
  obtain ⟨u,c2,e,h2,h3⟩:=hr
  exact ⟨u,c2,e,pF hw hpb h hn h2,wy hw hpb h hn h3⟩
end
theorem pG: ∀{l:List Nat} {i q q':Nat},l.Nodup→l[q]? =some i→l[q']? =some i→q=q'
 | [],_,_,_,_,h,_=>by simp at h
 | a::l,i,0,0,_,_,_=>rfl
 | a::l,i,0,q'+1,hd,h,h'=>by
  simp at h h';subst h
  exact absurd (List.mem_of_getElem? h') (List.nodup_cons.1 hd).1
 | a::l,i,q+1,0,hd,h,h'=>by
  simp at h h';subst h'
  exact absurd (List.mem_of_getElem? h) (List.nodup_cons.1 hd).1
 | a::l,i,q+1,q'+1,hd,h,h'=>by
  simp only [List.getElem?_cons_succ] at h h'
  rw [pG (List.nodup_cons.1 hd).2 h h']
theorem IW {v r:V} (ids:List Nat) {bs:List Blk} (ho:kX S.H ids bs) (hd:ids.Nodup) (hm:mt (f_ S.H ids v) r):rS E S v r bs:=by
 intro c0 c ρ F u hY h hr
 obtain ⟨hlen,hget,hall⟩:=AM ho
 have hlt: ∀i∈ids,∀k,am ρ i=some k→k<c.w.heap.size:=by
  intro i hi k hk
  obtain ⟨b,hb,T,n,g,z,l,rfl⟩:=hall i hi
  exact fC rfl (h.1.heap _ _ hb) k hk
 have hge: ∀i∈ids,∀k,am ρ i=some k→c0.w.heap.size≤k:=by
  intro i hi k hk
  obtain ⟨b,hb,T,n,g,z,l,rfl⟩:=hall i hi
  exact Cx.mine_of hY (iZ h.1 hb rfl k hk)
 have hX: ∀i∈ids,∀k,am ρ i=some k→k∈c.X:=by
  intro i hi k hk
  obtain ⟨b,hb,T,n,g,z,l,rfl⟩:=hall i hi
  obtain ⟨v,h1,h2,_,_,a,cap,e,_⟩:=h.1.heap _ _ hb
  refine h2.isX k ?_
  unfold am at hk
  rw [h1,e] at hk
  rw [e];exact hk
 have hpub:c.pub (Cx.give c0 c ρ ids h.1.since.size hlt):=by
  refine ⟨Nat.le_refl _,fun k hk hx=>⟨fun h'=> ?_,fun _ h _=>h⟩⟩
  rcases List.mem_append.1 h' with h'|h'
  ·exact hx (h.1.since.X k h' (by rw [hY];simp))
  ·obtain ⟨i,hi,hb⟩:=List.mem_filterMap.1 h'
   exact hx (hX i hi k hb)
 have hle:c0.le (Cx.give c0 c ρ ids h.1.since.size hlt):=by
  refine Cx.leY.le ⟨h.1.since.below,fun k hk _=>⟨fun h'=> ?_,fun h'=>List.mem_append.2 (.inl h')⟩⟩ hY
  rcases List.mem_append.1 h' with h'|h'
  ·exact h'
  ·obtain ⟨i,hi,hb⟩:=List.mem_filterMap.1 h'
   have:=hge i hi k hb
   omega
 refine ⟨Cx.give c0 c ρ ids h.1.since.size hlt,bW ρ ids,rfl,hle,eR hm (pF (c:=c) (c1:=Cx.give c0 c ρ ids h.1.since.size hlt) (ids:=ids) rfl hpub h.1 ?_ hr),?_,?_,?_⟩
 ·intro i b hi hb hp k hk hmem
  rcases List.mem_append.1 hmem with h'|h'
  ·have h1:=Cx.mine_of hY (iZ h.1 hb hp k hk)
   have h2:=c0.ok k h'
   omega
  ·obtain ⟨j,hj,hb'⟩:=List.mem_filterMap.1 h'
   obtain ⟨bj,hbj,T,n,g,z,l,rfl⟩:=hall j hj
   exact h.1.sep i j b _ k (fun e=>hi (e▸hj)) hb hbj hp rfl hk hb'
 ·intro q b hq
  obtain ⟨i,hi,hb,T,n,g,z,l,rfl⟩:=hget q b hq
  refine ⟨⟨T,n,g,z,l,rfl⟩,?_⟩
  obtain ⟨v,h1,h2,h3,h4,a,cap,e,h5⟩:=h.1.heap _ _ hb
  have hmem:i∈ids:=List.mem_of_getElem? hi
  refine ⟨v,by simp only [bW,hi];exact h1,⟨h2.1,?_⟩,h3,h4,a,cap,e,h5⟩
  rcases h2.2 with h'|⟨g',cp,cur,e2,k1,k2,k3,k4,k5,k6⟩
  ·exact .inl h'
  ·refine .inr ⟨g',cp,cur,e2,List.mem_append.2 (.inr (List.mem_filterMap.2 ⟨i,hmem,?_⟩)),k2,k3,k4,k5,dh hpub k6⟩
   unfold am;rw [h1,e2];rfl
 ·intro q hq
  simp only [bW]
  rw [List.getElem?_eq_none (by omega)]
 ·intro q q' bq bq' k hne hq hq' hk hk'
  obtain ⟨i,hi,hb,T,n,g,z,l,rfl⟩:=hget q bq hq
  obtain ⟨i',hi',hb',T',n',g',z',l',rfl⟩:=hget q' bq' hq'
  have hii:i≠i':=by
   rintro rfl
   exact hne (pG hd hi hi')
  have e1:am (bW ρ ids) q=am ρ i:=by simp only [am,bW,hi]
  have e2:am (bW ρ ids) q'=am ρ i':=by simp only [am,bW,hi']
  rw [e1] at hk
  rw [e2] at hk'
  exact h.1.sep i i' _ _ k hii hb hb' rfl rfl hk hk'
def zN:Blk→Blk
 | .own T n g _ l=> .own T n g none l
 | b=>b
theorem IX {c':Cx} {H:List Blk} (h:HOk c c' ρ H):HOk c c' ρ (H.map zN):=by
 obtain ⟨h1,h2,h3⟩:=h
 have key: ∀(i:Nat) (b:Blk),(H.map zN)[i]? =some b→ ∃T n g z l,H[i]? =some (Blk.own T n g z l)∧b=Blk.own T n g none l:=by
  intro i b hb
  rw [List.getElem?_map] at hb
  cases hi:H[i]? with
  | none=>rw [hi] at hb;cases hb
  | some b0=>
   rw [hi] at hb
   obtain ⟨⟨T,n,g,z,l,rfl⟩,_⟩:=h1 i b0 hi
   cases hb
   exact ⟨T,n,g,z,l,rfl,rfl⟩
 refine ⟨fun i b hb=> ?_,fun i hi=>h2 i (by simpa using hi),fun i j bi bj k hij hi hj=> ?_⟩
 ·obtain ⟨T,n,g,z,l,hi,rfl⟩:=key i b hb
  obtain ⟨_,v,g1,g2,g3,g4,a,cap,e,g5⟩:=h1 i _ hi
  exact ⟨⟨T,n,g,none,l,rfl⟩,v,g1,g2,g3,g4,a,cap,e,m9 g5⟩
 ·obtain ⟨T,n,g,z,l,hi',rfl⟩:=key i bi hi
  obtain ⟨T',n',g',z',l',hj',rfl⟩:=key j bj hj
  exact h3 i j _ _ k hij hi' hj'
theorem IY {vs:List V} {r:V} (ids:List Nat) {bs:List Blk} (ho:kX S.H ids bs) (hd:ids.Nodup) (hm:mt (f_ S.H ids (fG vs)) r):mr E S r (bs.map zN) (some vs):=by
 intro c0 c ρ F u hY hs hr
 obtain ⟨c1,ρ1,e,hle,h1,h2⟩:=IW ids ho hd hm c0 c ρ F u hY hs hr
 exact ⟨c1,ρ1,e,hle,h1,IX h2⟩
theorem AO {vs:List V} {T n:Nat} {g:Bool} {z:Option Bool} {l:List V} (i:Nat) (h:al S.H i=some (.own T n g z l)) (hm:mt (f_ S.H [i] (fG vs)) (.own 0)):mr E S (.own 0) [.own T n g none l] (some vs):=
 IY [i] (bs:=[.own T n g z l]) ⟨h,trivial,trivial⟩ (by simp) hm
theorem AP {T n:Nat} {g:Bool} (hone:g=false→n=1):mr E S (.own 0) [.own T n g none []] (some [.sl (some true) n g []]):=by
 intro c0 c ρ F u hY h hr
 have e:u= .slice none 0 0:=by
  simp only [fG,rd,zOk] at hr
  obtain ⟨a,cap,e,_,⟨rfl,rfl⟩,_⟩:=hr
  exact e
 subst e
 refine ⟨c0.base c h.1.since.size,fun i=>if i=0 then some (.slice none 0 0) else none,rfl,Cx.leY.le ⟨h.1.since.below,fun k hk hy=>by rw [pf];exact ⟨fun h=>h.1,fun h=>⟨h,hy⟩⟩⟩ hY,⟨rfl,rfl⟩,?_,?_,?_⟩
 ·intro i b hb
  cases i with
  | zero=>
   simp at hb;subst hb
   exact ⟨⟨_,_,_,_,_,rfl⟩,.slice none 0 0,rfl,Own.nil,fun k hk=>by simp [blk] at hk,hone,none,0,rfl,fun _=>rfl⟩
  | succ i=>simp at hb
 ·intro i hi
  have:i≠0:=by simp at hi;omega
  simp [this]
 ·intro i j bi bj k hij hi hj
  cases i with
  | zero=>cases j with
   | zero=>exact absurd rfl hij
   | succ j=>simp at hj
  | succ i=>simp at hi
theorem AQ {f:FuncId} {pre post:List V} {n:Nat} {g:Bool} {l:List V} {r:V} {H:List Blk} (h1:l=[]→a8 E f (pre++ .sl (some true) n g []::post) r H) (h2:a8 E f (pre++ .sl (some false) n g l::post) r H) (z:Option Bool):a8 E f (pre++ .sl z n g l::post) r H:=by
 refine ⟨h2.1,fun c us hY hg hus=> ?_⟩
 have key: ∀{pre:List V} {us:List Value},rdT ro0 c (pre++ .sl z n g l::post) us→(l=[]∧rdT ro0 c (pre++ .sl (some true) n g []::post) us)∨rdT ro0 c (pre++ .sl (some false) n g l::post) us:=by
  intro pre
  induction pre with
  | nil=>
   intro us h
   simp only [List.nil_append,rdT] at h⊢
   obtain ⟨u,c2,rfl,hu,h3⟩:=h
   obtain ⟨a,cap,e,hl,hz,hs⟩:=dv.1 hu
   cases a with
   | some a=>exact .inr ⟨u,c2,rfl,dv.2 ⟨_,cap,e,hl,by simp [zOk],hs⟩,h3⟩
   | none=>
    rcases hs with rfl|⟨b,o,cs,e',_⟩
    ·have hc:=m9 hz rfl
     subst hc
     exact .inl ⟨rfl,u,c2,rfl,dv.2 ⟨none,0,e,⟨Nat.zero_le _,Nat.zero_le _⟩,⟨rfl,rfl⟩,.inl rfl⟩,h3⟩
    ·cases e'
  | cons d pre ih=>
   intro us h
   simp only [List.cons_append,rdT] at h⊢
   obtain ⟨u,c2,rfl,hu,h3⟩:=h
   rcases ih h3 with ⟨e,h4⟩|h4
   ·exact .inl ⟨e,u,c2,rfl,hu,h4⟩
   ·exact .inr ⟨u,c2,rfl,hu,h4⟩
 rcases key hus with ⟨e,h⟩|h
 ·exact (h1 e).2 c us hY hg h
 ·exact h2.2 c us hY hg h
end
attribute [go_sem] kW gF ww sx kX f_ jQ eg sB
theorem a8.pub {E:Env} {f:FuncId} {ws:List V} {T n:Nat} {g:Bool} {z:Option Bool} {l:List V} (h:a8 E f ws (.own 0) [.own T n g z l]):a8 E f ws (.sl z n g l) []:=by
 refine ⟨h.1,fun c us hY hg hus=>(h.2 c us hY hg hus).mono ?_⟩
 rintro e w' ⟨v,c',ρ,rfl,rfl,hle,hrd,hH⟩
 obtain ⟨v',hv,hown,hge,hone,a,cap,es,hz⟩:=(hH.1 0 _ rfl).2
 have e:v=v':=by
  simp only [rd] at hrd
  rw [hv] at hrd
  exact (Option.some.inj hrd.1).symm
 subst e
 refine ⟨v,c'.dropv v,ro0,rfl,rfl,y3 hle (fun g hg=>Cx.mine_of hY (hge g hg)),?_,fun i b hb=>by simp at hb,fun _ _=>rfl,fun i j bi bj k _ hb=>by simp at hb⟩
 obtain ⟨a',cap',e1,h1,h2⟩:=fT.1 hown.val
 rw [es] at e1;cases e1
 exact dv.2 ⟨a,cap,es,h1,hz,h2⟩
theorem AR {ρ ρ':Ro} {c:Cx} (hro:iX ρ ρ') {k:Nat} (hat:ρ' k=some (.slice none 0 0)): ∀{l:List V} {cs:List Value} {o n:Nat} {g:Bool},rdC ρ c l cs→l[o]? =some (.sl (some true) n g [])→rdC ρ' c (l.set o (.own k)) cs
 | [],cs,o,n,g,h,ho=>by simp at ho
 | d::l,cs,0,n,g,h,ho=>by
  simp only [List.getElem?_cons_zero,Option.some.injEq] at ho
  subst ho
  simp only [rdC] at h
  obtain ⟨u,c2,rfl,h1,h2,h3⟩:=h
  simp only [List.set_cons_zero,rdC]
  have e:u= .slice none 0 0:=by
   simp only [rd,zOk] at h2
   obtain ⟨a,cap,e,_,⟨rfl,rfl⟩,_⟩:=h2
   exact e
  subst e
  exact ⟨_,c2,rfl,h1,by simp only [rd];exact ⟨hat,rfl⟩,uH hro h3⟩
 | d::l,cs,o+1,n,g,h,ho=>by
  simp only [List.getElem?_cons_succ] at ho
  simp only [rdC] at h
  obtain ⟨u,c2,rfl,h1,h2,h3⟩:=h
  simp only [List.set_cons_succ,rdC]
  exact ⟨u,c2,rfl,h1,dw hro h2,AR hro hat h3 ho⟩
theorem AU {E:Env} {S:St} (j o T:Nat) {n' n:Nat} {g:Bool} {l:List V} (h:al S.H j=some (.var n' true (.agg l))) (ho:l[o]? =some (.sl (some true) n g [])) (hg:g=false→n=1):
  jP E S ⟨S.F,(S.nx,.own T n g (some true) [])::fp S.H j (.var n' true (.agg (l.set o (.own S.nx)))),S.nx+1⟩:=by
 intro c0 c ρ F hs
 have hf:ρ S.nx=none:=hs.2 _ (Nat.le_refl _)
 have hro:iX ρ (fun i=>if i=S.nx then some (.slice none 0 0) else ρ i):=pb hf fun i hi=>by simp [hi]
 have hat:(fun i=>if i=S.nx then some (Value.slice none 0 0) else ρ i) S.nx=some (.slice none 0 0):=by simp
 have hoth: ∀i,i≠S.nx→(fun i=>if i=S.nx then some (Value.slice none 0 0) else ρ i) i=ρ i:=fun i hi=>by simp [hi]
 generalize (fun i=>if i=S.nx then some (Value.slice none 0 0) else ρ i)=ρ' at hro hat hoth
 obtain ⟨b0,g1,g2,g3⟩:=hs.1.heap _ _ h
 have hjn:j≠S.nx:=fun e=>by rw [e,hf] at g1;cases g1
 refine ⟨c,ρ',rfl,Cx.pub.refl _,hro,⟨hs.1.since,hs.1.gl,fun t v ht=>dw hro (hs.1.slot t v ht),?_,?_⟩,?_⟩
 ·intro i b hb
  simp only [al] at hb
  split at hb
  ·rename_i e';subst e';cases hb
   exact ⟨_,hat,Own.nil,fun k hk=>by simp [blk] at hk,hg,none,0,rfl,rfl,rfl⟩
  ·rename_i hin
   rw [dS] at hb
   split at hb
   ·rename_i e';subst e';cases hb
    obtain ⟨hX,T',cs,hh,hsh,hrd⟩:=g3
    refine ⟨b0,by rw [hoth _ hjn];exact g1,g2,hX,T',cs,hh,hsh,?_⟩
    simp only [mkV,rd] at hrd⊢
    obtain ⟨cs',e1,e2⟩:=hrd
    exact ⟨cs',e1,AR hro hat e2 ho⟩
   ·exact nj hro (hs.1.heap i b hb)
 ·intro a b ba bb k hab hba hbb hpa hpb hk hk'
  have hn:am ρ' S.nx=none:=by simp [am,hat,blk]
  have hi:a≠S.nx:=fun e'=>by rw [e',hn] at hk;cases hk
  have hj:b≠S.nx:=fun e'=>by rw [e',hn] at hk';cases hk'
  simp only [al,Ne.symm hi,Ne.symm hj,if_false,dS] at hba hbb
  rw [cW (hoth a hi)] at hk
  rw [cW (hoth b hj)] at hk'
  have back: ∀{x:Nat} {bx:Blk},(if j=x then some (Blk.var n' true (.agg (l.set o (.own S.nx)))) else al S.H x)=some bx→aW bx=true→ ∃b',al S.H x=some b'∧aW b'=true:=by
   intro x bx hx hp
   split at hx
   ·rename_i e;subst e;exact ⟨_,h,rfl⟩
   ·exact ⟨bx,hx,hp⟩
  obtain ⟨ba',h1,h2⟩:=back hba hpa
  obtain ⟨bb',h3,h4⟩:=back hbb hpb
  exact hs.1.sep a b ba' bb' k hab h1 h3 h2 h4 hk hk'
 ·intro i hi
  have:i≠S.nx:=fun e=>by subst e;simp only at hi;omega
  rw [hoth i this]
  exact hs.2 i (by simp only at hi;omega)
theorem dm {E:Env} {S:St} (j o T:Nat) {n' n:Nat} {g:Bool} {l:List V} (h:al S.H j=some (.var n' true (.agg l))) (ho:l[o]? =some (.sl (some true) n g [])) (hg:g=false→n=1):
  co E S ⟨S.F,(S.nx,.own T n g (some true) [])::fp S.H j (.var n' true (.agg (l.set o (.own S.nx)))),S.nx+1⟩:=(AU j o T h ho hg).weak
end Go.Proofs.YtiknkaadhomeiaaGreatDoor
namespace Go.Proofs.YtiknkaadhomeiaaGreatDoor
open Go.RowKit
@[go_sem] theorem Od {α:Type} {a:α} {l m:List α}:List.append (a::l) m=a::List.append l m:=Eq.trans rfl rfl
@[go_sem] theorem Oe {α:Type} {m:List α}:List.append [] m=m:=Eq.trans rfl rfl
attribute [go_sem] Int.cast_ofNat_Int
@[go_sem] theorem Of {l:List UInt8}:(l.toArray.size≤LEN)=(l.length≤1073741824):=by rw [List.size_toArray];rfl
theorem spQ {P Q:Prop} (h:Q) (e:P=Q:=by (simp only [go_sem,eZ,fb,List.length_replicate,dl,Int.toNat_natCast,↓reduceIte,Nat.reduceEqDiff,Nat.reduceAdd,Int.reduceAdd,Nat.reduceMul,Nat.reduceLeDiff,Nat.reduceLT,Int.reduceLE,Int.reduceLT,Int.reduceNeg,Int.reduceToNat];rfl)):P:=e▸h
theorem aq {A P Q:Prop} (a:A) (h:Q) (e:A→P=Q:=by (intro hA;simp only [go_sem,eZ,fb,List.length_replicate,dl,Int.toNat_natCast,↓reduceIte,Nat.reduceEqDiff,Nat.reduceAdd,Int.reduceAdd,Nat.reduceMul,Nat.reduceLeDiff,Nat.reduceLT,Int.reduceLE,Int.reduceLT,Int.reduceNeg,Int.reduceToNat,hA];rfl)):P:=e a▸h
theorem clQ {P:Prop} (h:P:=by (simp only [go_sem,eZ,fb,List.length_replicate,dl,Int.toNat_natCast,↓reduceIte,Nat.reduceEqDiff,Nat.reduceAdd,Int.reduceAdd,Nat.reduceMul,Nat.reduceLeDiff,Nat.reduceLT,Int.reduceLE,Int.reduceLT,Int.reduceNeg,Int.reduceToNat,kS,kT,Int.reduceSub,or_self,or_true,true_or]<;>fail)):P:=h
theorem an {A P:Prop} (a:A) (h:A→P:=by (intro hA;simp only [go_sem,eZ,fb,List.length_replicate,dl,Int.toNat_natCast,↓reduceIte,Nat.reduceEqDiff,Nat.reduceAdd,Int.reduceAdd,Nat.reduceMul,Nat.reduceLeDiff,Nat.reduceLT,Int.reduceLE,Int.reduceLT,Int.reduceNeg,Int.reduceToNat,kS,kT,Int.reduceSub,or_self,or_true,true_or,hA]<;>fail)):P:=h a
theorem cK {A P:Prop} (a:A) (h:A→P:=by (intro hA;simp only [go_sem,eZ,fb,List.length_replicate,dl,Int.toNat_natCast,↓reduceIte,Nat.reduceEqDiff,Nat.reduceAdd,Int.reduceAdd,Nat.reduceMul,Nat.reduceLeDiff,Nat.reduceLT,Int.reduceLE,Int.reduceLT,Int.reduceNeg,Int.reduceToNat,kS,kT,Int.reduceSub,or_self,or_true,true_or,hA]<;>fail)):P:=h a
theorem sbQ {P:Prop} (h:P:=by (simp only [go_sem,eZ,fb,List.length_replicate,dl,Int.toNat_natCast,↓reduceIte,Nat.reduceEqDiff,Nat.reduceAdd,Int.reduceAdd,Nat.reduceMul,Nat.reduceLeDiff,Nat.reduceLT,Int.reduceLE,Int.reduceLT,Int.reduceNeg,Int.reduceToNat,pE,sw,wv,eT,eU,mtO,mtB,mt,mtL,ny,nw,ltV,ltL,ltB,eq_self,or_true,true_or,or_self,and_self]<;>fail)):P:=h
theorem AV {A P:Prop} (a:A) (h:A→P:=by (intro hA;simp only [go_sem,eZ,fb,List.length_replicate,dl,Int.toNat_natCast,↓reduceIte,Nat.reduceEqDiff,Nat.reduceAdd,Int.reduceAdd,Nat.reduceMul,Nat.reduceLeDiff,Nat.reduceLT,Int.reduceLE,Int.reduceLT,Int.reduceNeg,Int.reduceToNat,pE,sw,wv,eT,eU,mtO,mtB,mt,mtL,ny,nw,ltV,ltL,ltB,eq_self,or_true,true_or,or_self,and_self,hA]<;>fail)):P:=h a
theorem alQ {P:Prop} (h:P:=by first|(simp only [go_sem,eZ,fb,List.length_replicate,dl,Int.toNat_natCast,↓reduceIte,Nat.reduceEqDiff,Nat.reduceAdd,Int.reduceAdd,Nat.reduceMul,Nat.reduceLeDiff,Nat.reduceLT,Int.reduceLE,Int.reduceLT,Int.reduceNeg,Int.reduceToNat,List.all_nil,List.all_cons];done)|rfl):P:=h
theorem nzQ {P Q:Prop} (h:P) (e:P=Q:=by first|(simp only [decide_eq_true_eq,decide_eq_false_iff_not,Bool.and_eq_true,Bool.or_eq_true,Bool.not_eq_true',Bool.not_eq_false',beq_iff_eq,bne_iff_ne,beq_eq_false_iff_ne,bne_eq_false_iff_eq,ne_eq,Int.not_lt,Int.not_le,gt_iff_lt,ge_iff_le,List.length_map,wfL,wfV,and_true,true_and,io,ip,pA,pB,ss,kR,ja,List.length_append,List.length_cons,List.length_nil,List.length_replicate,dl,nL,nM,nN,cq,nK,jM];rfl)|rfl):Q:=e▸h
theorem cF {P Q:Prop} (h:P) (e:P=Q:=by first|(simp only [decide_eq_true_eq,decide_eq_false_iff_not,Bool.and_eq_true,Bool.or_eq_true,Bool.not_eq_true',Bool.not_eq_false',beq_iff_eq,bne_iff_ne,beq_eq_false_iff_ne,bne_eq_false_iff_eq,ne_eq,Int.not_lt,Int.not_le,gt_iff_lt,ge_iff_le,List.length_map,wfL,wfV,and_true,true_and,io,ip,pA,pB,ss,kR,ja,List.length_append,List.length_cons,List.length_nil,List.length_replicate,dl,nL,nM,nN,cq,nK,jM,sr];rfl)|rfl):Q:=e▸h
theorem omQ {P:Prop} (h:P:=by (clear hM;(try simp only [List.length_map,List.length_set,kR,ja,List.length_append,List.length_cons,List.length_nil,List.length_replicate,dl,nL,nM,nN,cq,nK,decide_eq_true_eq])<;>omega)):P:=h
theorem ap {P:Prop} (h:P:=by ((try simp only [List.length_map,List.length_set,kR,ja,List.length_append,List.length_cons,List.length_nil,List.length_replicate,dl,nL,nM,nN,cq,nK,decide_eq_true_eq])<;>omega)):P:=h
theorem pfQ {P:Prop} (h:P:=by (clear hM;first|omega|(simp only [decide_eq_true_eq,decide_eq_false_iff_not,Bool.and_eq_true,Bool.or_eq_true,Bool.not_eq_true',Bool.not_eq_false',beq_iff_eq,bne_iff_ne,beq_eq_false_iff_ne,bne_eq_false_iff_eq,ne_eq,Int.not_lt,Int.not_le,gt_iff_lt,ge_iff_le,List.length_map,wfL,wfV,and_true,true_and,io,ip,pA,pB,ss,kR,ja,List.length_append,List.length_cons,List.length_nil,List.length_replicate,dl,nL,nM,nN,cq,nK,jM] at*;omega))):P:=h
theorem spR {P Q:Prop} (h:P) (e:P=Q:=by first|(simp only [go_sem,eZ,fb,List.length_replicate,dl,Int.toNat_natCast,↓reduceIte,Nat.reduceEqDiff,Nat.reduceAdd,Int.reduceAdd,Nat.reduceMul,Nat.reduceLeDiff,Nat.reduceLT,Int.reduceLE,Int.reduceLT,Int.reduceNeg,Int.reduceToNat];rfl)|rfl):Q:=e▸h
end Go.Proofs.YtiknkaadhomeiaaGreatDoor
namespace Go.Proofs.YtiknkaadhomeiaaGreatDoor
open Go.RowKit
section
variable {E:Env} {J:cC} {k:List Ct} {S S1:St} {c0 c:Cx} {ρ:Ro} {F:Fm}
mutual
def ren (s:Nat→Nat):V→V
 | .own i=> .own (s i)
 | .ptr i o=> .ptr (s i) o
 | .optr i m k o=> .optr (s i) m k o
 | .osub i m k o=> .osub (s i) m k o
 | .agg l=> .agg (jR s l)
 | .tup l=> .tup (jR s l)
 | .fn f l=> .fn f (jR s l)
 | v=>v
def jR (s:Nat→Nat):List V→List V
 | []=> []
 | d::l=>ren s d::jR s l
end
mutual
theorem sC {ρ':Ro} {s:Nat→Nat} (k: ∀i v,ρ i=some v→ρ' (s i)=some v): ∀{d:V} {v:Value},rd ρ c d v→rd ρ' c (ren s d) v
 | .int _ _,_,h=>h
 | .bool _,_,h=>h
 | .ifc _,_,h=>h
 | .str _,_,h=>h
 | .agg l,v,h=>by
  simp only [rd,ren] at h⊢
  obtain ⟨cs,e,h⟩:=h
  exact ⟨cs,e,AW k h⟩
 | .sl z n g l,v,h=>h
 | .pp n g d,v,h=>h
 | .own _,_,h=>⟨k _ _ h.1,h.2⟩
 | .ptr _ _,_,h=>by
  simp only [rd,ren] at h⊢
  obtain ⟨b,h1,h2⟩:=h
  exact ⟨b,k _ _ h1,h2⟩
 | .optr _ _ _ _,_,h=>by
  simp only [rd,ren] at h⊢
  obtain ⟨u,h1,h2⟩:=h
  exact ⟨u,k _ _ h1,h2⟩
 | .osub _ _ _ _,_,h=>by
  simp only [rd,ren] at h⊢
  obtain ⟨u,h1,h2⟩:=h
  exact ⟨u,k _ _ h1,h2⟩
 | .tup l,v,h=>by
  simp only [rd,ren] at h⊢
  obtain ⟨cs,e,h⟩:=h
  exact ⟨cs,e,wz k h⟩
 | .fn f l,v,h=>by
  simp only [rd,ren] at h⊢
  obtain ⟨cs,e,h⟩:=h
  exact ⟨cs,e,wz k h⟩
 | .opq p,v,h=>h
 | .un,_,_=>trivial
theorem AW {ρ':Ro} {s:Nat→Nat} (k: ∀i v,ρ i=some v→ρ' (s i)=some v): ∀{l:List V} {cs:List Value},rdC ρ c l cs→rdC ρ' c (jR s l) cs
 | [],_,h=>h
 | d::l,cs,h=>by
  simp only [rdC,jR] at h⊢
  obtain ⟨u,c2,e,h1,h2,h3⟩:=h
  exact ⟨u,c2,e,h1,sC k h2,AW k h3⟩
theorem wz {ρ':Ro} {s:Nat→Nat} (k: ∀i v,ρ i=some v→ρ' (s i)=some v): ∀{l:List V} {cs:List Value},rdT ρ c l cs→rdT ρ' c (jR s l) cs
 | [],_,h=>h
 | d::l,cs,h=>by
  simp only [rdT,jR] at h⊢
  obtain ⟨u,c2,e,h2,h3⟩:=h
  exact ⟨u,c2,e,sC k h2,wz k h3⟩
end
def jb (s:Nat→Nat):Blk→Blk
 | .var n g d=> .var n g (ren s d)
 | b=>b
def fI (s:Nat→Nat):List Blk→List Blk
 | []=> []
 | b::l=>jb s b::fI s l
theorem wA {s:Nat→Nat}: ∀{l:List Blk} {j:Nat},(fI s l)[j]? =(l[j]?).map (jb s)
 | [],j=>by simp [fI]
 | b::l,0=>by simp [fI]
 | b::l,j+1=>by simp [fI,wA (l:=l)]
mutual
def prV (p:Nat→Bool):V→V
 | .own i=>bif p i then .un else .own i
 | .ptr i o=>bif p i then .un else .ptr i o
 | .optr i n k o=>bif p i then .un else .optr i n k o
 | .osub i n k o=>bif p i then .un else .osub i n k o
 | .agg l=> .agg (prL p l)
 | .tup l=> .tup (prL p l)
 | .fn f l=> .fn f (prL p l)
 | v=>v
def prL (p:Nat→Bool):List V→List V
 | []=> []
 | d::l=>prV p d::prL p l
end
mutual
theorem nQ {ρ':Ro} {p:Nat→Bool} (k: ∀i v,p i=false→ρ i=some v→ρ' i=some v): ∀{d:V} {v:Value},rd ρ c d v→rd ρ' c (prV p d) v
 | .int _ _,_,h=>h
 | .bool _,_,h=>h
 | .ifc _,_,h=>h
 | .str _,_,h=>h
 | .agg l,v,h=>by
  simp only [rd,prV] at h⊢
  obtain ⟨cs,e,h⟩:=h
  exact ⟨cs,e,AX k h⟩
 | .sl z n g l,v,h=>h
 | .pp n g d,v,h=>h
 | .own i,v,h=>by
  simp only [prV]
  cases hp:p i with
  | true=>trivial
  | false=>exact ⟨k _ _ hp h.1,h.2⟩
 | .ptr i o,v,h=>by
  simp only [prV]
  cases hp:p i with
  | true=>trivial
  | false=>
   simp only [cond_false,rd] at h⊢
   obtain ⟨b,h1,h2⟩:=h
   exact ⟨b,k _ _ hp h1,h2⟩
 | .optr i n j o,v,h=>by
  simp only [prV]
  cases hp:p i with
  | true=>trivial
  | false=>
   simp only [cond_false,rd] at h⊢
   obtain ⟨u,h1,h2⟩:=h
   exact ⟨u,k _ _ hp h1,h2⟩
 | .osub i n j o,v,h=>by
  simp only [prV]
  cases hp:p i with
  | true=>trivial
  | false=>
   simp only [cond_false,rd] at h⊢
   obtain ⟨u,h1,h2⟩:=h
   exact ⟨u,k _ _ hp h1,h2⟩
 | .tup l,v,h=>by
  simp only [rd,prV] at h⊢
  obtain ⟨cs,e,h⟩:=h
  exact ⟨cs,e,wB k h⟩
 | .fn f l,v,h=>by
  simp only [rd,prV] at h⊢
  obtain ⟨cs,e,h⟩:=h
  exact ⟨cs,e,wB k h⟩
 | .opq p,v,h=>h
 | .un,_,_=>trivial
theorem AX {ρ':Ro} {p:Nat→Bool} (k: ∀i v,p i=false→ρ i=some v→ρ' i=some v): ∀{l:List V} {cs:List Value},rdC ρ c l cs→rdC ρ' c (prL p l) cs
 | [],_,h=>h
 | d::l,cs,h=>by
  simp only [rdC,prL] at h⊢
  obtain ⟨u,c2,e,h1,h2,h3⟩:=h
  exact ⟨u,c2,e,h1,nQ k h2,AX k h3⟩
theorem wB {ρ':Ro} {p:Nat→Bool} (k: ∀i v,p i=false→ρ i=some v→ρ' i=some v): ∀{l:List V} {cs:List Value},rdT ρ c l cs→rdT ρ' c (prL p l) cs
 | [],_,h=>h
 | d::l,cs,h=>by
  simp only [rdT,prL] at h⊢
  obtain ⟨u,c2,e,h2,h3⟩:=h
  exact ⟨u,c2,e,nQ k h2,wB k h3⟩
end
theorem AY {p:Nat→Bool}: ∀{l:List V},prL p l=l.map (prV p)
 | []=>rfl
 | d::l=>by simp only [prL,List.map_cons,AY]
def prB (p:Nat→Bool):Blk→Blk
 | .var n g d=> .var n g (prV p d)
 | .lent k n g d=> .lent k n g (prV p d)
 | .ownI E n g z l=> .ownI E n g z (prL p l)
 | b=>b
def prF (p:Nat→Bool):List (Nat×V)→List (Nat×V)
 | []=> []
 | (t,v)::l=>(t,prV p v)::prF p l
def prH (p:Nat→Bool):List (Nat×Blk)→List (Nat×Blk)
 | []=> []
 | (t,b)::l=>(t,prB p b)::prH p l
theorem AZ {p:Nat→Bool}: ∀{l:List (Nat×V)} {t:Nat},al (prF p l) t=(al l t).map (prV p)
 | [],_=>rfl
 | (k,v)::l,t=>by
  simp only [prF,al]
  split
  ·rfl
  ·exact AZ
theorem A0 {p:Nat→Bool}: ∀{l:List (Nat×Blk)} {t:Nat},al (prH p l) t=(al l t).map (prB p)
 | [],_=>rfl
 | (k,v)::l,t=>by
  simp only [prH,al]
  split
  ·rfl
  ·exact A0
theorem IZ {p:Nat→Bool} {b:Blk}:aW (prB p b)=aW b:=by cases b<;>rfl
theorem A1 {i:Nat} {b:Blk} (h:blkOk c0 c ρ i b): ∃v,ρ i=some v:=by
 cases b with
 | var n g d=>obtain ⟨b,h1,_⟩:=h;exact ⟨_,h1⟩
 | own E n g z l=>obtain ⟨v,h1,_⟩:=h;exact ⟨_,h1⟩
 | ownI E n g z l=>obtain ⟨v,h1,_⟩:=h;exact ⟨_,h1⟩
 | pvar n g d=>obtain ⟨b,h1,_⟩:=h;exact ⟨_,h1⟩
 | kset g k n l=>obtain ⟨r,h1,_⟩:=h;exact ⟨_,h1⟩
 | pown n g z l=>obtain ⟨v,h1,_⟩:=h;exact ⟨_,h1⟩
 | lent k n g d=>exact ⟨_,h.1⟩
def gH (k:Nat):Blk→Blk
 | .var n g d=> .lent k n g d
 | b=>b
def ci (ks:Nat→Nat):Nat→List Blk→List Blk
 | _,[]=> []
 | i,b::l=>gH (ks i) b::ci ks (i+1) l
theorem nR {ks:Nat→Nat}: ∀{l:List Blk} {i j:Nat},(ci ks i l)[j]? =(l[j]?).map (gH (ks (i+j)))
 | [],i,j=>by simp [ci]
 | b::l,i,0=>by simp [ci]
 | b::l,i,j+1=>by simp [ci,nR (l:=l),Nat.add_comm,Nat.add_left_comm,Nat.add_assoc]
theorem sD {ks:Nat→Nat}: ∀{l:List Blk} {i:Nat},(ci ks i l).length=l.length
 | [],i=>rfl
 | b::l,i=>by simp [ci,sD (l:=l)]
def pH (c0 c:Cx) (ρ:Ro) (H:List Blk):Prop:=
 (∀i b,H[i]? =some b→blkOk c0 c ρ i b)∧(∀i,H.length≤i→ρ i=none)∧
  ∀i j bi bj k,i≠j→H[i]? =some bi→H[j]? =some bj→am ρ i=some k→am ρ j≠some k
def jc:List Blk→List Blk→Bool
 | [],[]=>true
 | .var _ _ _::l,.var _ _ _::m=>jc l m
 | .own _ _ _ _ _::l,.own _ _ _ _ _::m=>jc l m
 | _,_=>false
def mv:List Blk→Bool
 | []=>true
 | .own _ _ _ _ _::l=>mv l
 | _=>false
def jS:Blk→Prop
 | .var _ _ _=>True
 | _=>False
def fc:Blk→Prop
 | .own _ _ _ _ _=>True
 | _=>False
theorem wC: ∀{l m:List Blk},jc l m=true→l.length=m.length∧ ∀(j:Nat) (b b':Blk),l[j]? =some b→m[j]? =some b'→(jS b∧jS b')∨(fc b∧fc b')
 | [],[],_=>⟨rfl,by simp⟩
 | a::l,a'::m,h=>by
  have key:jc l m=true∧((jS a∧jS a')∨(fc a∧fc a')):=by
   cases a<;>cases a'<;>simp only [jc] at h<;>first
    | exact ⟨h,.inl ⟨trivial,trivial⟩⟩
    | exact ⟨h,.inr ⟨trivial,trivial⟩⟩
    | cases h
  obtain ⟨h1,h2⟩:=wC key.1
  refine ⟨by simp [h1],fun j b b' hb hb'=> ?_⟩
  cases j with
  | zero=>simp at hb hb';subst hb hb';exact key.2
  | succ j=>exact h2 j b b' (by simpa using hb) (by simpa using hb')
 | [],_::_,h=>by simp [jc] at h
 | a::_,[],h=>by cases a<;>simp [jc] at h
theorem wD: ∀{l:List Blk},mv l=true→ ∀(j:Nat) (b:Blk),l[j]? =some b→fc b
 | [],_,j,b,hb=>by simp at hb
 | a::l,h,j,b,hb=>by
  have key:mv l=true∧fc a:=by
   cases a<;>simp only [mv] at h<;>first
    | exact ⟨h,trivial⟩
    | cases h
  cases j with
  | zero=>simp at hb;subst hb;exact key.2
  | succ j=>exact wD key.1 j b (by simpa using hb)
def I0 (E:Env) (c:Cx) (r:V) (H:List Blk):Ending→World→Prop:=fun e w'=> ∃v c' ρ,e= .returned v∧c'.w=w'∧c.leY c'∧rd ρ c' r v∧pH c c' ρ H
def dB (E:Env) (f:FuncId) (ws:List V) (Hin:List Blk) (r:V) (Hout Hnew:List Blk):Prop:=
 (∀aas w,(callFunc f aas).run E.P w= .ok (.enter f aas) w)∧(jc Hin Hout&&mv Hnew)=true∧
  ∀(c:Cx) (us:List Value) (ρ0:Ro) (ks:Nat→Nat),Gl E c→pH c c ρ0 (ci ks 0 Hin)→rdT ρ0 c ws us→Calls E.P f us.toArray c.w (I0 E c r (ci ks 0 Hout++Hnew))
mutual
def inV (H:List (Nat×Blk)) (ids:List Nat):V→V
 | .own i=>match eg ids i 0 with
  | some j=> .own j
  | none=>ww (al H i)
 | .ptr i o=>match eg ids i 0 with
  | some j=> .ptr j o
  | none=>sx o (al H i)
 | .optr _ _ _ _=> .un
 | .osub _ _ _ _=> .un
 | .agg l=> .agg (fJ H ids l)
 | .tup l=> .tup (fJ H ids l)
 | .fn f l=> .fn f (fJ H ids l)
 | v=>v
def fJ (H:List (Nat×Blk)) (ids:List Nat):List V→List V
 | []=> []
 | d::l=>inV H ids d::fJ H ids l
end
theorem sE {i:Nat} {v:Value} (h:ro0 i=some v):False:=by cases h
mutual
theorem sF {ids:List Nat} (h:Sim E c0 c ρ S F): ∀{d:V} {v:Value},rd ρ c d v→rd (bW ρ ids) c (inV S.H ids d) v
 | .int _ _,_,hr=>hr
 | .bool _,_,hr=>hr
 | .ifc _,_,hr=>hr
 | .str _,_,hr=>hr
 | .agg l,v,hr=>by
  simp only [rd,inV] at hr⊢
  obtain ⟨cs,e,hr⟩:=hr
  exact ⟨cs,e,A2 h hr⟩
 | .sl z n g l,v,hr=>hr
 | .pp n g d,v,hr=>hr
 | .own i,v,hr=>by
  simp only [inV]
  cases hp:eg ids i 0 with
  | some j=>
   simp only [rd] at hr⊢
   obtain ⟨_,h2⟩:=nP hp
   exact ⟨by simp only [bW];rw [show j - 0=j from rfl] at h2;rw [h2];exact hr.1,hr.2⟩
  | none=>exact dw (fun i v hi=>(sE hi).elim) (sy (d:= .own i) h hr)
 | .ptr i o,v,hr=>by
  simp only [inV]
  cases hp:eg ids i 0 with
  | some j=>
   simp only [rd] at hr⊢
   obtain ⟨b,h1,h3⟩:=hr
   obtain ⟨_,h2⟩:=nP hp
   exact ⟨b,by simp only [bW];rw [show j - 0=j from rfl] at h2;rw [h2];exact h1,h3⟩
  | none=>exact dw (fun i v hi=>(sE hi).elim) (sy (d:= .ptr i o) h hr)
 | .optr _ _ _ _,_,_=>trivial
 | .osub _ _ _ _,_,_=>trivial
 | .tup l,v,hr=>by
  simp only [rd,inV] at hr⊢
  obtain ⟨cs,e,hr⟩:=hr
  exact ⟨cs,e,mw h hr⟩
 | .fn f l,v,hr=>by
  simp only [rd,inV] at hr⊢
  obtain ⟨cs,e,hr⟩:=hr
  exact ⟨cs,e,mw h hr⟩
 | .opq p,v,hr=>hr
 | .un,_,_=>trivial
theorem A2 {ids:List Nat} (h:Sim E c0 c ρ S F): ∀{l:List V} {cs:List Value},rdC ρ c l cs→rdC (bW ρ ids) c (fJ S.H ids l) cs
 | [],_,hr=>hr
 | d::l,cs,hr=>by
  simp only [rdC,fJ] at hr⊢
  obtain ⟨u,c2,e,h1,h2,h3⟩:=hr
  exact ⟨u,c2,e,h1,sF h h2,A2 h h3⟩
theorem mw {ids:List Nat} (h:Sim E c0 c ρ S F): ∀{l:List V} {cs:List Value},rdT ρ c l cs→rdT (bW ρ ids) c (fJ S.H ids l) cs
 | [],_,hr=>hr
 | d::l,cs,hr=>by
  simp only [rdT,fJ] at hr⊢
  obtain ⟨u,c2,e,h2,h3⟩:=hr
  exact ⟨u,c2,e,sF h h2,mw h h3⟩
end
theorem A3 {T n:Nat} {g:Bool} {l l':List V} {v:Value} (h:Own c T v (rV ro0 n g) l) (hm:mtL l l'):Own c T v (rV ro0 n g) l':=by
 have e:=ml hm
 refine ⟨by rw [←e];exact h.1,?_⟩
 rcases h.2 with ⟨a,h1,h2⟩|⟨g',cp,cur,h1,h2,h3,h4,h5,h6,h7⟩
 ·subst h2
  cases l' with
  | nil=>exact .inl ⟨a,h1,rfl⟩
  | cons x l'=>simp [mtL] at hm
 ·exact .inr ⟨g',cp,cur,by rw [←e];exact h1,h2,h3,by rw [←e];exact h4,h5,h6,by rw [←e];exact eN.1 (rT hm (eN.2 h7))⟩
def inO (H:List (Nat×Blk)) (ids:List Nat):Option Blk→Blk→Prop
 | some (.own T n g z l),.own T' n' g' z' l'=>T=T'∧n=n'∧g=g'∧mtZ z z'∧mtL l l'
 | some (.var n g d),.var n' g' d'=>n=n'∧g=g'∧mt (inV H ids d) d'
 | some (.lent _ n g d),.var n' g' d'=>n=n'∧g=g'∧mt (inV H ids d) d'
 | _,_=>False
def fK (H:List (Nat×Blk)) (ids:List Nat):List Nat→List Blk→Prop
 | [],[]=>True
 | i::l,b::m=>inO H ids (al H i) b∧fK H ids l m
 | _,_=>False
theorem nS {H:List (Nat×Blk)} {ids:List Nat}: ∀{l:List Nat} {m:List Blk},fK H ids l m→l.length=m.length∧ ∀(j i:Nat) (b:Blk),l[j]? =some i→m[j]? =some b→inO H ids (al H i) b
 | [],[],_=>⟨rfl,by simp⟩
 | i::l,b::m,h=>by
  simp only [fK] at h
  obtain ⟨h1,h2⟩:=nS h.2
  refine ⟨by simp [h1],fun j i' b' hi hb=> ?_⟩
  cases j with
  | zero=>simp at hi hb;subst hi hb;exact h.1
  | succ j=>exact h2 j i' b' (by simpa using hi) (by simpa using hb)
 | [],_::_,h=>by simp [fK] at h
 | _::_,[],h=>by simp [fK] at h
def fd (H:List (Nat×Blk)):List Nat→List Nat
 | []=> []
 | i::l=>ownI1 (al H i) i (fd H l)
where ownI1:Option Blk→Nat→List Nat→List Nat
 | some (.own _ _ _ _ _),i,l=>i::l
 | _,_,l=>l
theorem A4 {H:List (Nat×Blk)} {i:Nat} {T n:Nat} {g:Bool} {z:Option Bool} {m:List V} (hb:al H i=some (.own T n g z m)): ∀{l:List Nat},i∈l→i∈fd H l
 | j::l,h=>by
  simp only [fd]
  rcases List.mem_cons.1 h with rfl|h
  ·rw [hb];simp [fd.ownI1]
  ·have:=A4 hb h
   unfold fd.ownI1
   split
   ·exact List.mem_cons_of_mem _ this
   ·exact this
def sg (ids:List Nat) (nx j:Nat):Nat:=match ids[j]? with
 | some i=>i
 | none=>nx+(j - ids.length)
def jd:Option Blk→Blk→Blk
 | some (.lent k _ _ _),.var n g d=> .lent k n g d
 | _,b=>b
def iu (H0:List (Nat×Blk)):List (Nat×Blk)→List Nat→List Blk→List (Nat×Blk)
 | h,i::l,b::m=>iu H0 (fp h i (jd (al H0 i) b)) l m
 | h,_,_=>h
theorem wE {H0:List (Nat×Blk)} {i:Nat}: ∀{l:List Nat} {m:List Blk} {h:List (Nat×Blk)},i∉l→al (iu H0 h l m) i=al h i
 | [],[],_,_=>rfl
 | [],_::_,_,_=>rfl
 | _::_,[],_,_=>rfl
 | j::l,b::m,h,hi=>by
  simp only [List.mem_cons,not_or] at hi
  simp only [iu]
  rw [wE hi.2,dS,if_neg (Ne.symm hi.1)]
theorem A5 {H0:List (Nat×Blk)} {i:Nat} {b:Blk}: ∀{l:List Nat} {m:List Blk} {h:List (Nat×Blk)} {j:Nat},l.Nodup→l[j]? =some i→m[j]? =some b→al (iu H0 h l m) i=some (jd (al H0 i) b)
 | [],_,_,j,_,hi,_=>by simp at hi
 | _::_,[],_,j,_,_,hb=>by simp at hb
 | x::l,y::m,h,0,hd,hi,hb=>by
  simp at hi hb
  subst hi hb
  simp only [iu]
  rw [wE (List.nodup_cons.1 hd).1,dS,if_pos rfl]
 | x::l,y::m,h,j+1,hd,hi,hb=>by
  simp only [iu]
  exact A5 (List.nodup_cons.1 hd).2 (by simpa using hi) (by simpa using hb)
def St.afterI (S:St) (ids:List Nat) (Hout Hnew:List Blk) (d:Option Nat) (r:V):St:=
 St.put ⟨prF (bp (fd S.H ids)) S.F,g8 S.nx 0 (fI (sg ids S.nx) Hnew)++iu S.H (prH (bp (fd S.H ids)) S.H) ids (fI (sg ids S.nx) Hout),S.nx+Hnew.length⟩ d (ren (sg ids S.nx) r)
def ro2 (ids:List Nat) (nx:Nat) (ρ ρr:Ro):Ro:=fun i=>match eg ids i 0 with
 | some j=>ρr j
 | none=>if i<nx then ρ i else ρr (ids.length+(i - nx))
theorem I1 {ids:List Nat} {i j:Nat} (hd:ids.Nodup) (h:ids[j]? =some i):eg ids i 0=some j:=by
 cases hp:eg ids i 0 with
 | none=>exact absurd (List.mem_of_getElem? h) (wx hp)
 | some q=>
  obtain ⟨_,h2⟩:=nP hp
  rw [pG hd h h2]
  rfl
theorem A6 {ids:List Nat} {i:Nat} (h:i∉ids):eg ids i 0=none:=by
 cases hp:eg ids i 0 with
 | none=>rfl
 | some q=>
  obtain ⟨_,h2⟩:=nP hp
  exact absurd (List.mem_of_getElem? h2) h
theorem sG {ids:List Nat} {nx i j:Nat} {ρr:Ro} (hd:ids.Nodup) (h:ids[j]? =some i):ro2 ids nx ρ ρr i=ρr j:=by
 simp only [ro2,I1 hd h]
theorem nT {ids:List Nat} {nx i:Nat} {ρr:Ro} (h:i∉ids) (hi:i<nx):ro2 ids nx ρ ρr i=ρ i:=by
 simp only [ro2,A6 h,if_pos hi]
theorem A7 {ids:List Nat} {nx i:Nat} {ρr:Ro} (h: ∀j∈ids,j<nx) (hi:nx≤i):ro2 ids nx ρ ρr i=ρr (ids.length+(i - nx)):=by
 have:i∉ids:=fun e=>by have:=h i e;omega
 simp only [ro2,A6 this,if_neg (Nat.not_lt.2 hi)]
theorem I2 {ids:List Nat} {nx:Nat} {ρr:Ro} (hd:ids.Nodup) (h: ∀j∈ids,j<nx) (j:Nat):ro2 ids nx ρ ρr (sg ids nx j)=ρr j:=by
 unfold sg
 cases hj:ids[j]? with
 | some i=>exact sG hd hj
 | none=>
  have hle:=List.getElem?_eq_none_iff.1 hj
  rw [A7 h (Nat.le_add_right _ _)]
  congr 1;omega
theorem Var.leY {α:Type} {c c':Cx} {b:Nat} {r:Rep α} {d:α} (h:c.leY c') (hp:c.pub c') (hb:b∉c.Y) (hv:Var c b r d):Var c' b r d:=by
 obtain ⟨h1,T,cs,h2,h3⟩:=hv
 have hlt:=c.ok b h1
 exact ⟨(h.old b hlt hb).2 h1,T,cs,(h.below.block b hlt hb).trans h2,r.mono h3 hp⟩
theorem Own.leY {α:Type} {c c':Cx} {E:TypeId} {v:Value} {r:Rep α} {l:List α} (ho:Own c E v r l) (h:c.leY c') (hp:c.pub c') (hb: ∀i,blk v=some i→i∉c.Y):Own c' E v r l:=by
 refine ⟨ho.1,?_⟩
 rcases ho.2 with h'|⟨g',cap,cur,rfl,h1,h2,h3,h4,h5,h6⟩
 ·exact .inl h'
 ·have hlt:=c.ok g' h1
  exact .inr ⟨g',cap,cur,rfl,(h.old g' hlt (hb g' rfl)).2 h1,(h.below.block g' hlt (hb g' rfl)).trans h2,h3,h4,h5,dh hp h6⟩
theorem fm.leY {c c':Cx} {r:Nat} {g:Bool} {k:IntKind} {n:Nat} {l:List (List Int)} (h:c.leY c') (hb:r∉c.Y) (hv:fm c r g k n l):fm c' r g k n l:=by
 obtain ⟨h1,h2,es,clock,h3,h4⟩:=hv
 have hlt:=c.ok r h1
 exact ⟨(h.old r hlt hb).2 h1,h2,es,clock,(h.below.block r hlt hb).trans h3,h4⟩
theorem I3 {Y:List Nat} {c':Cx} (h:(c.lend Y).leY c') (hp:c.pub c') {i:Nat} {b:Blk} (hne:aW b=true→ ∀x,am ρ i=some x→x∉Y) (hb:blkOk c0 c ρ i b):blkOk c0 c' ρ i b:=by
 have hp':(c.lend Y).pub c':=⟨hp.size,fun k hk hx=>hp.keep k hk hx⟩
 cases b with
 | var n g d=>
  obtain ⟨b,h1,h2,h3⟩:=hb
  exact ⟨b,h1,h2,Var.leY h hp' (hne rfl b (by simp [am,h1])) ((c.chg_lend Y).var (by simp) h3)⟩
 | own E n g z l=>
  obtain ⟨v,h1,h2,h3,h4,a,cap,e,h5⟩:=hb
  exact ⟨v,h1,(h2.chg (c.chg_lend Y) (by simp)).leY h hp' (fun x hx=>hne rfl x (by rw [eQ h1 e];exact hx)),h3,h4,a,cap,e,h5⟩
 | ownI E n g z l=>
  obtain ⟨v,h1,h2,h3,h4,a,cap,e,h5⟩:=hb
  exact ⟨v,h1,(h2.chg (c.chg_lend Y) (by simp)).leY h hp' (fun x hx=>hne rfl x (by rw [eQ h1 e];exact hx)),h3,h4,a,cap,e,h5⟩
 | kset g k' n l=>
  obtain ⟨r,h1,h2,h3⟩:=hb
  exact ⟨r,h1,h2,fm.leY h (hne rfl r (by simp [am,h1,blk])) (h3.chg (c.chg_lend Y) (by simp))⟩
 | pvar n g d=>
  obtain ⟨b,h1,h2⟩:=hb
  exact ⟨b,h1,(kp _).mono h2 hp⟩
 | pown n g z l=>
  obtain ⟨v,h1,h2⟩:=hb
  exact ⟨v,h1,bA hp h2⟩
 | lent k' n g d=>
  obtain ⟨h1,h2,h3⟩:=hb
  exact ⟨h1,h2,Var.leY h hp' (hne rfl k' (by simp [am,h1])) ((c.chg_lend Y).var (by simp) h3)⟩
theorem I4 {ρ':Ro} {p:Nat→Bool} {i:Nat} {b:Blk} (k: ∀i v,p i=false→ρ i=some v→ρ' i=some v) (hi: ∀v,ρ i=some v→ρ' i=some v) (h:blkOk c0 c ρ i b):blkOk c0 c ρ' i (prB p b):=by
 cases b with
 | var n g d=>
  obtain ⟨b,h1,h2,h3,T,cs,h4,h5,h6⟩:=h
  exact ⟨b,hi _ h1,h2,h3,T,cs,h4,h5,nQ k h6⟩
 | own E n g z l=>
  obtain ⟨v,h1,h2⟩:=h
  exact ⟨v,hi _ h1,h2⟩
 | ownI E n g z l=>
  obtain ⟨v,h1,h2,h3,h4,h5⟩:=h
  simp only [prB,blkOk,AY]
  exact ⟨v,hi _ h1,Own.rep (f:=prV p) (r:=rV ρ n g) (s:=rV ρ' n g) (fun {cs d} (h1:iV n g cs∧rd ρ c d (mkV g cs))=>⟨h1.1,nQ k h1.2⟩) rfl h2,h3,h4,by simpa using h5⟩
 | kset g k' n l=>
  obtain ⟨r,h1,h2⟩:=h
  exact ⟨r,hi _ h1,h2⟩
 | pvar n g d=>
  obtain ⟨b,h1,h2⟩:=h
  exact ⟨b,hi _ h1,h2⟩
 | pown n g z l=>
  obtain ⟨v,h1,h2⟩:=h
  exact ⟨v,hi _ h1,h2⟩
 | lent k' n g d=>
  obtain ⟨h1,h2,h3,T,cs,h4,h5,h6⟩:=h
  exact ⟨hi _ h1,h2,h3,T,cs,h4,h5,nQ k h6⟩
def cG (ρ:Ro) (ids:List Nat):List Nat:=ids.filterMap (am ρ)
def db (ρ:Ro) (ids:List Nat) (j:Nat):Nat:=match ids[j]? with
 | some i=>(am ρ i).getD 0
 | none=>0
theorem pI {H:List (Nat×Blk)} {ids:List Nat} {o:Option Blk} {b:Blk} (h:inO H ids o b): ∃a,o=some a∧aW a=true∧(jS b∨fc b):=by
 unfold inO at h
 split at h
 ·exact ⟨_,rfl,rfl,.inr trivial⟩
 ·exact ⟨_,rfl,rfl,.inl trivial⟩
 ·exact ⟨_,rfl,rfl,.inl trivial⟩
 ·exact h.elim
theorem sH (h:Sim E c0 c ρ S F) {ids:List Nat} {Hin:List Blk} (hd:ids.Nodup) (hi:fK S.H ids ids Hin):
  pH (c.lend (cG ρ ids)) (c.lend (cG ρ ids)) (bW ρ ids) (ci (db ρ ids) 0 Hin):=by
 obtain ⟨hlen,hget⟩:=nS hi
 have hro: ∀{j i:Nat},ids[j]? =some i→bW ρ ids j=ρ i:=fun {j i} hj=>by simp only [bW,hj]
 refine ⟨?_,?_,?_⟩
 ·intro j b hb
  rw [nR,Nat.zero_add] at hb
  cases hj:Hin[j]? with
  | none=>rw [hj] at hb;cases hb
  | some b0=>
   rw [hj] at hb
   simp only [Option.map_some,Option.some.injEq] at hb
   subst hb
   have hjl:j<ids.length:=by rw [hlen];exact (List.getElem?_eq_some_iff.1 hj).1
   obtain ⟨i,hji⟩: ∃i,ids[j]? =some i:=⟨_,List.getElem?_eq_getElem hjl⟩
   have hin:=hget j i b0 hji hj
   have hmem:i∈ids:=List.mem_of_getElem? hji
   have hY: ∀k,am ρ i=some k→k∈cG ρ ids:=fun k hk=>List.mem_filterMap.2 ⟨i,hmem,hk⟩
   cases hS:al S.H i with
   | none=>rw [hS] at hin;unfold inO at hin;exact hin.elim
   | some a=>
    have hblk:=h.heap i a hS
    rw [hS] at hin
    have hmy: ∀k,am ρ i=some k→(c.lend (cG ρ ids)).mine k:=fun k hk=> .inr (hY k hk)
    unfold inO at hin
    split at hin
    ·rename_i T n g z l T' n' g' z' l' e
     cases e
     obtain ⟨rfl,rfl,rfl,hz,hml⟩:=hin
     obtain ⟨v,h1,h2,h3,h4,a,cap,es,h5⟩:=hblk
     exact ⟨v,(hro hji).trans h1,A3 (h2.chg (c.chg_lend _) (by simp)) hml,fun k hk=>hmy k (by rw [eQ h1 es];exact hk),h4,a,cap,by rw [←ml hml];exact es,nv hz h5⟩
    ·rename_i n g d n' g' d' e
     cases e
     obtain ⟨rfl,rfl,hm⟩:=hin
     obtain ⟨b,h1,h2,h3⟩:=hblk
     have hb:am ρ i=some b:=by simp [am,h1]
     have hk:db ρ ids j=b:=by simp [db,hji,hb]
     simp only [gH,hk]
     obtain ⟨q1,T0,cs0,q2,q3,q4⟩:=h3
     exact ⟨(hro hji).trans h1,hmy b hb,q1,T0,cs0,q2,q3,bA (c.pub_lend _) (eR hm (sF h q4))⟩
    ·rename_i k0 n g d n' g' d' e
     cases e
     obtain ⟨rfl,rfl,hm⟩:=hin
     obtain ⟨h1,h2,h3⟩:=hblk
     have hb:am ρ i=some k0:=by simp [am,h1]
     have hk:db ρ ids j=k0:=by simp [db,hji,hb]
     simp only [gH,hk]
     obtain ⟨q1,T0,cs0,q2,q3,q4⟩:=h3
     exact ⟨(hro hji).trans h1,hmy k0 hb,q1,T0,cs0,q2,q3,bA (c.pub_lend _) (eR hm (sF h q4))⟩
    ·exact hin.elim
 ·intro j hj
  rw [sD] at hj
  simp only [bW]
  rw [List.getElem?_eq_none (by omega)]
 ·intro j j' b b' k hne hj hj' hk hk'
  rw [nR] at hj hj'
  have get: ∀{q:Nat} {x:Blk},(Hin[q]?).map (gH (db ρ ids (0+q)))=some x→ ∃i a,ids[q]? =some i∧al S.H i=some a∧aW a=true:=by
   intro q x hq
   cases hj:Hin[q]? with
   | none=>rw [hj] at hq;cases hq
   | some b0=>
    have hjl:q<ids.length:=by rw [hlen];exact (List.getElem?_eq_some_iff.1 hj).1
    have hji:ids[q]? =some ids[q]:=List.getElem?_eq_getElem hjl
    obtain ⟨a,h1,h2,_⟩:=pI (hget q _ b0 hji hj)
    exact ⟨_,a,hji,h1,h2⟩
  obtain ⟨i,a,g1,g2,g3⟩:=get hj
  obtain ⟨i',a',g1',g2',g3'⟩:=get hj'
  have hii:i≠i':=by
   rintro rfl
   exact hne (pG hd g1 g1')
  have e1:am (bW ρ ids) j=am ρ i:=blkOf_eq' (hro g1)
  have e2:am (bW ρ ids) j'=am ρ i':=blkOf_eq' (hro g1')
  rw [e1] at hk
  rw [e2] at hk'
  exact h.sep i i' a a' k hii g2 g2' g3 g3' hk hk'
where blkOf_eq' {ρ ρ':Ro} {i j:Nat} (h:ρ' j=ρ i):am ρ' j=am ρ i:=by unfold am;rw [h]
end
end Go.Proofs.YtiknkaadhomeiaaGreatDoor
namespace Go.Proofs.YtiknkaadhomeiaaGreatDoor
open Go.RowKit
section
variable {E:Env} {J:cC} {k:List Ct} {S S1:St} {c0 c:Cx} {ρ:Ro} {F:Fm}
theorem mx (h:Sim E c0 c ρ S F) {ids:List Nat} {Hin:List Blk} (hi:fK S.H ids ids Hin) {x:Nat} (hx:x∈cG ρ ids): ∃i a,i∈ids∧al S.H i=some a∧aW a=true∧am ρ i=some x:=by
 obtain ⟨hlen,hget⟩:=nS hi
 obtain ⟨i,hm,hb⟩:=List.mem_filterMap.1 hx
 obtain ⟨j,hj,e⟩:=List.getElem_of_mem hm
 have hjH:j<Hin.length:=by omega
 obtain ⟨a,h1,h2,_⟩:=pI (hget j i Hin[j] (by rw [List.getElem?_eq_getElem hj,e]) (List.getElem?_eq_getElem hjH))
 exact ⟨i,a,hm,h1,h2,hb⟩
theorem A8 (h:bf E c0 c ρ S F) {ids:List Nat} {Hin Hout Hnew:List Blk} (hd:ids.Nodup) (hi:fK S.H ids ids Hin) (hk:jc Hin Hout=true) (hn:mv Hnew=true) {c':Cx} {ρr:Ro} {r:V} {v:Value}
  (hle:(c.lend (cG ρ ids)).leY c') (hr:rd ρr c' r v) (hH:pH (c.lend (cG ρ ids)) c' ρr (ci (db ρ ids) 0 Hout++Hnew)) (d:Option Nat):
  bf E c0 c' (ro2 ids S.nx ρ ρr) (S.afterI ids Hout Hnew d r) (cn F d v):=by
 obtain ⟨hlen,hget⟩:=nS hi
 obtain ⟨hkl,hkk⟩:=wC hk
 have hlO:(ci (db ρ ids) 0 Hout).length=ids.length:=by rw [sD];omega
 have hlt: ∀i∈ids,i<S.nx:=by
  intro i hm
  obtain ⟨j,hj,e⟩:=List.getElem_of_mem hm
  obtain ⟨a,h1,_⟩:=pI (hget j i Hin[j] (by rw [List.getElem?_eq_getElem hj,e]) (List.getElem?_eq_getElem (by omega)))
  obtain ⟨x,hx⟩:=A1 (h.1.heap i a h1)
  rcases Nat.lt_or_ge i S.nx with h2|h2
  ·exact h2
  ·rw [h.2 i h2] at hx;cases hx
 have hYX: ∀x,x∈cG ρ ids→c0.mine x:=by
  intro x hx
  obtain ⟨i,a,_,h2,h3,h4⟩:=mx h.1 hi hx
  exact iZ h.1 h2 h3 x h4
 have hYlt: ∀x,x∈cG ρ ids→x<c.w.heap.size:=by
  intro x hx
  obtain ⟨i,a,_,h2,h3,h4⟩:=mx h.1 hi hx
  exact fC h3 (h.1.heap i a h2) x h4
 have hYp: ∀x,x∈cG ρ ids→x∈c.X:=by
  intro x hx
  obtain ⟨i,a,_,h2,h3,h4⟩:=mx h.1 hi hx
  have hb:=h.1.heap i a h2
  cases a with
  | var n g d=>obtain ⟨b,g1,_,g3⟩:=hb;simp only [am,g1,Option.some.injEq] at h4;subst h4;exact g3.1
  | lent b n g d=>obtain ⟨g1,_,g3⟩:=hb;simp only [am,g1,Option.some.injEq] at h4;subst h4;exact g3.1
  | own T n g z l=>obtain ⟨u,g1,g2,_,_,a,cap,e,_⟩:=hb;rw [eQ g1 e] at h4;exact g2.isX x h4
  | ownI T n g z l=>obtain ⟨u,g1,g2,_,_,a,cap,e,_⟩:=hb;rw [eQ g1 e] at h4;exact g2.isX x h4
  | kset g k' n l=>obtain ⟨r,g1,_,g3⟩:=hb;simp only [am,g1,blk,Option.some.injEq] at h4;subst h4;exact g3.1
  | pvar n g d=>cases h3
  | pown n g z l=>cases h3
 have hpub:c.pub c':=⟨hle.below.size,fun x hx hnX=>⟨fun h'=>hnX ((hle.old x hx (fun hy=>hnX (hYp x hy))).1 h'),fun o ho _=>(hle.below.block x hx (fun hy=>hnX (hYp x hy))).trans ho⟩⟩
 have hsince:cB c0 c':=by
  refine ⟨⟨hle.below.os.trans h.1.since.below.os,hle.below.tape.trans h.1.since.below.tape,hle.below.output.trans h.1.since.below.output,Nat.le_trans h.1.since.size hle.below.size,?_⟩,?_,fun x hx hnX h'=>(h.1.since.Xn x hx hnX) (by
   by_cases hY:x∈cG ρ ids
   ·exact hYp x hY
   ·exact (hle.old x (Nat.lt_of_lt_of_le hx h.1.since.size) hY).1 h')⟩
  ·intro x hx hy
   refine (hle.below.block x (Nat.lt_of_lt_of_le hx h.1.since.size) (fun hY=> ?_)).trans (h.1.since.below.block x hx hy)
   rcases hYX x hY with h1|h1
   ·omega
   ·exact hy h1
  ·intro x hx hy
   have hxX:=h.1.since.X x hx hy
   refine (hle.old x (c.ok x hxX) (fun hY=> ?_)).2 hxX
   rcases hYX x hY with h1|h1
   ·have:=c0.ok x hx;omega
   ·exact hy h1
 have hmine: ∀x,(c.lend (cG ρ ids)).mine x→c0.mine x:=by
  rintro x (h1|h1)
  ·exact .inl (Nat.le_trans h.1.since.size h1)
  ·exact hYX x h1
 -- names
 have hsg: ∀j x,ρr j=some x→ro2 ids S.nx ρ ρr (sg ids S.nx j)=some x:=fun j x hx=>(I2 hd hlt j).trans hx
 have hnew: ∀i,S.nx≤i→ro2 ids S.nx ρ ρr i=ρr (ids.length+(i - S.nx)):=fun i hi=>A7 hlt hi
 have hold: ∀i b,al S.H i=some b→i<S.nx:=by
  intro i b hb
  obtain ⟨x,hx⟩:=A1 (h.1.heap i b hb)
  rcases Nat.lt_or_ge i S.nx with h2|h2
  ·exact h2
  ·rw [h.2 i h2] at hx;cases hx
 -- what the call gives back under a lent name
 have hback: ∀j i,ids[j]? =some i→ ∃b a,Hout[j]? =some b∧al S.H i=some a∧((jS b∧ ∀x,ρ i=some x→ρr j=some x)∨(fc b∧ ∃T n g z l,a= .own T n g z l))∧blkOk c0 c' (ro2 ids S.nx ρ ρr) i (jd (al S.H i) (jb (sg ids S.nx) b)):=by
  intro j i hj
  have hjl:=(List.getElem?_eq_some_iff.1 hj).1
  have hHi:Hin[j]? =some Hin[j]:=List.getElem?_eq_getElem (by omega)
  have hHo:Hout[j]? =some Hout[j]:=List.getElem?_eq_getElem (by omega)
  have hin:=hget j i _ hj hHi
  have hkj:=hkk j _ _ hHi hHo
  generalize Hin[j]=bi at hin hkj hHi
  generalize Hout[j]=bo at hkj hHo
  have hblk:blkOk (c.lend (cG ρ ids)) c' ρr j (gH (db ρ ids j) bo):=by
   refine hH.1 j _ ?_
   rw [List.getElem?_append_left (by omega),nR,Nat.zero_add,hHo];rfl
  have hro:ro2 ids S.nx ρ ρr i=ρr j:=sG hd hj
  cases hS:al S.H i with
  | none=>rw [hS] at hin;unfold inO at hin;exact hin.elim
  | some a=>
   have hold:=h.1.heap i a hS
   rw [hS] at hin
   have var: ∀{n g d} {b:Nat},bo= .var n g d→db ρ ids j=b→ρ i=some (.pointer (some ⟨b,0,none⟩))→am ρ i=some b→c0.mine b∧ρr j=some (.pointer (some ⟨b,0,none⟩))∧Var c' b (rV (ro2 ids S.nx ρ ρr) n g) (ren (sg ids S.nx) d):=by
    intro n g d b e hb hp hbo
    subst e
    simp only [gH,hb] at hblk
    obtain ⟨g1,g2,g3,T,cs,g4,g5,g6⟩:=hblk
    exact ⟨hmine b g2,g1,g3,T,cs,g4,g5,sC hsg g6⟩
   unfold inO at hin
   split at hin
   ·rename_i T n g z l T' n' g' z' l' e
    cases e
    rcases hkj with ⟨h1,_⟩|⟨_,h1⟩
    ·exact h1.elim
    ·refine ⟨bo,_,hHo,rfl,.inr ⟨h1,_,_,_,_,_,rfl⟩,?_⟩
     cases bo<;>simp only [fc] at h1
     simp only [gH] at hblk
     obtain ⟨x,g1,g2,g3,g4,g5⟩:=hblk
     simp only [jb,jd]
     exact ⟨x,hro.trans g1,g2,fun k hk=>hmine k (g3 k hk),g4,g5⟩
   ·rename_i n g d n' g' d' e
    cases e
    rcases hkj with ⟨_,h1⟩|⟨h1,_⟩
    ·obtain ⟨b,g1,_⟩:=hold
     have hbo:am ρ i=some b:=by simp [am,g1]
     cases bo<;>simp only [jS] at h1
     obtain ⟨k1,k2,k3⟩:=var rfl (by simp [db,hj,hbo]) g1 hbo
     refine ⟨_,_,hHo,rfl,.inl ⟨trivial,fun x hx=> ?_⟩,?_⟩
     ·rw [g1] at hx;cases hx;exact k2
     ·simp only [jb,jd]
      exact ⟨b,hro.trans k2,k1,k3⟩
    ·exact h1.elim
   ·rename_i k0 n g d n' g' d' e
    cases e
    rcases hkj with ⟨_,h1⟩|⟨h1,_⟩
    ·obtain ⟨g1,_⟩:=hold
     have hbo:am ρ i=some k0:=by simp [am,g1]
     cases bo<;>simp only [jS] at h1
     obtain ⟨k1,k2,k3⟩:=var rfl (by simp [db,hj,hbo]) g1 hbo
     refine ⟨_,_,hHo,rfl,.inl ⟨trivial,fun x hx=> ?_⟩,?_⟩
     ·rw [g1] at hx;cases hx;exact k2
     ·simp only [jb,jd]
      exact ⟨hro.trans k2,k1,k3⟩
    ·exact h1.elim
   ·exact hin.elim
 have hpr: ∀i x,bp (fd S.H ids) i=false→ρ i=some x→ro2 ids S.nx ρ ρr i=some x:=by
  intro i x hp hx
  have hilt:i<S.nx:=by
   rcases Nat.lt_or_ge i S.nx with h2|h2
   ·exact h2
   ·rw [h.2 i h2] at hx;cases hx
  by_cases hm:i∈ids
  ·obtain ⟨j,hj,e⟩:=List.getElem_of_mem hm
   have hj':ids[j]? =some i:=by rw [List.getElem?_eq_getElem hj,e]
   obtain ⟨b,a,_,h2,h3,_⟩:=hback j i hj'
   rcases h3 with ⟨_,h3⟩|⟨_,T,n,g,z,l,rfl⟩
   ·rw [sG hd hj'];exact h3 x hx
   ·have:=fF.2 (A4 h2 hm)
    rw [hp] at this;cases this
  ·rw [nT hm hilt];exact hx
 -- the blocks behind the call
 have hcase: ∀i b,al (g8 S.nx 0 (fI (sg ids S.nx) Hnew)++iu S.H (prH (bp (fd S.H ids)) S.H) ids (fI (sg ids S.nx) Hout)) i=some b→
   (∃(q:Nat) (b0:Blk),i=S.nx+q∧Hnew[q]? =some b0∧b=jb (sg ids S.nx) b0)∨(∃(j:Nat) (b0:Blk),ids[j]? =some i∧Hout[j]? =some b0∧b=jd (al S.H i) (jb (sg ids S.nx) b0))∨(i∉ids∧ ∃b0,al S.H i=some b0∧b=prB (bp (fd S.H ids)) b0):=by
  intro i b hb
  have rest:al (iu S.H (prH (bp (fd S.H ids)) S.H) ids (fI (sg ids S.nx) Hout)) i=some b→(∃(j:Nat) (b0:Blk),ids[j]? =some i∧Hout[j]? =some b0∧b=jd (al S.H i) (jb (sg ids S.nx) b0))∨(i∉ids∧ ∃b0,al S.H i=some b0∧b=prB (bp (fd S.H ids)) b0):=by
   intro hb
   by_cases hm:i∈ids
   ·obtain ⟨j,hj,e⟩:=List.getElem_of_mem hm
    have hj':ids[j]? =some i:=by rw [List.getElem?_eq_getElem hj,e]
    obtain ⟨b0,_,h1,_⟩:=hback j i hj'
    have:=A5 (H0:=S.H) (h:=prH (bp (fd S.H ids)) S.H) (m:=fI (sg ids S.nx) Hout) hd hj' (by rw [wA,h1];rfl)
    rw [this] at hb
    cases hb
    exact .inl ⟨j,b0,hj',h1,rfl⟩
   ·rw [wE hm,A0] at hb
    cases hS:al S.H i with
    | none=>rw [hS] at hb;cases hb
    | some b0=>rw [hS] at hb;cases hb;exact .inr ⟨hm,b0,rfl,rfl⟩
  simp only [np,rF,Nat.add_zero] at hb
  by_cases h1:S.nx≤i
  ·rw [if_pos h1,wA] at hb
   cases hq:Hnew[i - S.nx]? with
   | some x=>rw [hq] at hb;simp only [Option.map_some,Option.some.injEq] at hb;exact .inl ⟨i - S.nx,x,by omega,hq,hb.symm⟩
   | none=>rw [hq] at hb;exact .inr (rest hb)
  ·rw [if_neg h1] at hb;exact .inr (rest hb)
 have hnewOk: ∀q b,Hnew[q]? =some b→(∃T n g z l,b= .own T n g z l)∧blkOk (c.lend (cG ρ ids)) c' ρr (ids.length+q) b:=by
  intro q b hq
  have h1:=wD hn q b hq
  refine ⟨?_,hH.1 (ids.length+q) b ?_⟩
  ·cases b<;>simp only [fc] at h1
   exact ⟨_,_,_,_,_,rfl⟩
  ·rw [List.getElem?_append_right (by omega),hlO,Nat.add_sub_cancel_left];exact hq
 have hput: ∀(S':St),bf E c0 c' (ro2 ids S.nx ρ ρr) S' F→bf E c0 c' (ro2 ids S.nx ρ ρr) (S'.put d (ren (sg ids S.nx) r)) (cn F d v):=
  fun S' hS=>ph hS (sC hsg hr)
 refine hput _ ⟨⟨hsince,h.1.gl.mono hpub,?_,?_,?_⟩,?_⟩
 ·intro t x ht
  simp only [AZ,Option.map_eq_some_iff] at ht
  obtain ⟨x0,hx0,rfl⟩:=ht
  exact nQ hpr (bA hpub (h.1.slot t x0 hx0))
 ·intro i b hb
  rcases hcase i b hb with ⟨q,b0,rfl,hq,rfl⟩|⟨j,b0,hj,hb0,rfl⟩|⟨hm,b0,hS,rfl⟩
  ·obtain ⟨⟨T,n,g,z,l,rfl⟩,x,g1,g2,g3,g4⟩:=hnewOk q _ hq
   refine ⟨x,?_,g2,fun k hk=>hmine k (g3 k hk),g4⟩
   rw [hnew _ (Nat.le_add_right _ _),Nat.add_sub_cancel_left];exact g1
  ·obtain ⟨b1,a,h1,_,_,h4⟩:=hback j i hj
   rw [hb0] at h1;cases h1
   exact h4
  ·refine I4 hpr (fun x hx=> ?_) (I3 hle hpub (fun hp x hx hY=> ?_) (h.1.heap i b0 hS))
   ·rw [nT hm (hold i b0 hS)];exact hx
   ·obtain ⟨i',a,h1,h2,h3,h4⟩:=mx h.1 hi hY
    exact h.1.sep i i' b0 a x (fun e=>hm (e▸h1)) hS h2 hp h3 hx h4
 ·-- apart
  have hname: ∀i b,al (g8 S.nx 0 (fI (sg ids S.nx) Hnew)++iu S.H (prH (bp (fd S.H ids)) S.H) ids (fI (sg ids S.nx) Hout)) i=some b→aW b=true→
    (∃(q:Nat) (bq:Blk),(ci (db ρ ids) 0 Hout++Hnew)[q]? =some bq∧ro2 ids S.nx ρ ρr i=ρr q∧i=sg ids S.nx q∧ ∀x,am ρr q=some x→(c.lend (cG ρ ids)).mine x)∨(i∉ids∧i<S.nx∧ ∃b0,al S.H i=some b0∧aW b0=true):=by
   intro i b hb hp
   have hm9: ∀q bq,(ci (db ρ ids) 0 Hout++Hnew)[q]? =some bq→aW bq=true→ ∀x,am ρr q=some x→(c.lend (cG ρ ids)).mine x:=by
    intro q bq hq hpq x hx
    have hb:=hH.1 q bq hq
    cases bq with
    | var n g d=>obtain ⟨b,g1,g2,_⟩:=hb;simp only [am,g1,Option.some.injEq] at hx;subst hx;exact g2
    | lent b n g d=>obtain ⟨g1,g2,_⟩:=hb;simp only [am,g1,Option.some.injEq] at hx;subst hx;exact g2
    | own T n g z l=>obtain ⟨u,g1,g2,g3,_,a,cap,e,_⟩:=hb;rw [eQ g1 e] at hx;exact g3 x hx
    | ownI T n g z l=>obtain ⟨u,g1,g2,g3,_,a,cap,e,_⟩:=hb;rw [eQ g1 e] at hx;exact g3 x hx
    | kset g k' n l=>obtain ⟨r,g1,g2,_⟩:=hb;simp only [am,g1,blk,Option.some.injEq] at hx;subst hx;exact g2
    | pvar n g d=>cases hpq
    | pown n g z l=>cases hpq
   rcases hcase i b hb with ⟨q,b0,rfl,hq,rfl⟩|⟨j,b0,hj,hb0,rfl⟩|⟨hm,b0,hS,rfl⟩
   ·obtain ⟨⟨T,n,g,z,l,rfl⟩,_⟩:=hnewOk q b0 hq
    have hq':(ci (db ρ ids) 0 Hout++Hnew)[ids.length+q]? =some (.own T n g z l):=by
     rw [List.getElem?_append_right (by omega),hlO,Nat.add_sub_cancel_left];exact hq
    refine .inl ⟨ids.length+q,_,hq',?_,?_,hm9 _ _ hq' rfl⟩
    ·rw [hnew _ (Nat.le_add_right _ _),Nat.add_sub_cancel_left]
    ·simp only [sg,List.getElem?_eq_none (Nat.le_add_right _ _),Nat.add_sub_cancel_left]
   ·have hjl:=(List.getElem?_eq_some_iff.1 hj).1
    have hq':(ci (db ρ ids) 0 Hout++Hnew)[j]? =some (gH (db ρ ids j) b0):=by
     rw [List.getElem?_append_left (by omega),nR,Nat.zero_add,hb0];rfl
    refine .inl ⟨j,_,hq',sG hd hj,by simp only [sg,hj],hm9 _ _ hq' ?_⟩
    obtain ⟨b1,a,h1,_,h3,_⟩:=hback j i hj
    rw [hb0] at h1;cases h1
    rcases h3 with ⟨h3,_⟩|⟨h3,_⟩<;>cases b0<;>simp only [jS,fc] at h3<;>rfl
   ·exact .inr ⟨hm,hold i b0 hS,b0,hS,by rw [IZ] at hp;exact hp⟩
  intro i j bi bj x hij hbi hbj hpi hpj hx hx'
  rcases hname i bi hbi hpi with ⟨q,bq,hq,e,ei,hmq⟩|⟨hm,hl,b0,hS,hp0⟩<;>rcases hname j bj hbj hpj with ⟨q',bq',hq',e',ej,hmq'⟩|⟨hm',hl',b0',hS',hp0'⟩
  ·rw [blkOf_eq2 e] at hx
   rw [blkOf_eq2 e'] at hx'
   exact hH.2.2 q q' bq bq' x (fun eq=>hij (by rw [ei,ej,eq])) hq hq' hx hx'
  ·rw [blkOf_eq2 e] at hx
   rw [cW (nT hm' hl')] at hx'
   have hlt':=fC hp0' (h.1.heap j b0' hS') x hx'
   rcases hmq x hx with h1|h1
   ·have h1:c.w.heap.size≤x:=h1
    omega
   ·obtain ⟨i',a,h1,h2,h3,h4⟩:=mx h.1 hi h1
    exact h.1.sep i' j a b0' x (fun e=>hm' (e▸h1)) h2 hS' h3 hp0' h4 hx'
  ·rw [blkOf_eq2 e'] at hx'
   rw [cW (nT hm hl)] at hx
   have hlt':=fC hp0 (h.1.heap i b0 hS) x hx
   rcases hmq' x hx' with h1|h1
   ·have h1:c.w.heap.size≤x:=h1
    omega
   ·obtain ⟨i',a,h1,h2,h3,h4⟩:=mx h.1 hi h1
    exact h.1.sep i' i a b0 x (fun e=>hm (e▸h1)) h2 hS h3 hp0 h4 hx
  ·rw [cW (nT hm hl)] at hx
   rw [cW (nT hm' hl')] at hx'
   exact h.1.sep i j b0 b0' x hij hS hS' hp0 hp0' hx hx'
 ·intro i hi'
  simp only at hi'
  rw [hnew i (by omega)]
  exact hH.2.1 _ (by rw [List.length_append,hlO];omega)
where blkOf_eq2 {ρ ρ':Ro} {i j:Nat} (h:ρ' i=ρ j):am ρ' i=am ρ j:=by unfold am;rw [h]
theorem eh {f:FuncId} {caps vs:List V} {d:Option Nat} {ws:List V} {r:V} {Hin Hout Hnew:List Blk} (ids:List Nat) (hc:dB E f ws Hin r Hout Hnew) (hd:ids.Nodup) (hi:fK S.H ids ids Hin) (hm:mtL (fJ S.H ids (vs++caps)) ws)
  (h:wfV r→aE E J k .normal (S.afterI ids Hout Hnew d r)):gC E J (some (.fn f caps)) (some vs) S d k:=by
 refine .inr ⟨hc.1,_,r,?_,h⟩
 intro c0 c ρ F us hs hus
 have hk:=hc.2.1
 simp only [Bool.and_eq_true] at hk
 have hrd:=ib hm (mw (ids:=ids) hs.1 hus)
 refine (show Calls E.P f us.toArray c.w _ from hc.2.2 (c.lend (cG ρ ids)) us (bW ρ ids) (db ρ ids) (hs.1.gl.mono (c.pub_lend _)) (sH hs.1 hd hi) (fo (c.pub_lend _) hrd)).mono ?_
 rintro e w' ⟨v,c',ρr,rfl,rfl,hle,hr,hH⟩
 exact ⟨v,c',_,rfl,rfl,A8 hs hd hi hk.1 hk.2 hle hr hH d,jB hr⟩
theorem A9 {f:FuncId} {caps vs:List V} {d:Option Nat} {ws:List V} {r:V} {Hin Hout Hnew:List Blk} (ids:List Nat) (hc:dB E f ws Hin r Hout Hnew) (hw:jP E S S1) (hd:ids.Nodup) (hi:fK S1.H ids ids Hin) (hm:mtL (fJ S1.H ids (vs++caps)) ws)
  (h:wfV r→aE E J k .normal (S1.afterI ids Hout Hnew d r)):gC E J (some (.fn f caps)) (some vs) S d k:=by
 refine .inr ⟨hc.1,_,r,?_,h⟩
 intro c0 c0' ρ0 F us hs0 hus0
 obtain ⟨c,ρ,ew,hpb,hro,hs⟩:=hw c0 c0' ρ0 F hs0
 have hus:=na hro (fo hpb hus0)
 have hk:=hc.2.1
 simp only [Bool.and_eq_true] at hk
 have hrd:=ib hm (mw (ids:=ids) hs.1 hus)
 rw [←ew]
 refine (show Calls E.P f us.toArray c.w _ from hc.2.2 (c.lend (cG ρ ids)) us (bW ρ ids) (db ρ ids) (hs.1.gl.mono (c.pub_lend _)) (sH hs.1 hd hi) (fo (c.pub_lend _) hrd)).mono ?_
 rintro e w' ⟨v,c',ρr,rfl,rfl,hle,hr,hH⟩
 exact ⟨v,c',_,rfl,rfl,A8 hs hd hi hk.1 hk.2 hle hr hH d,jB hr⟩
theorem I5 {f:FuncId} {caps vs:List V} {d:Option Nat} {ws:List V} {r:V} {Hin Hout Hnew:List Blk} (ids:List Nat) (hc:dB E f ws Hin r Hout Hnew) (hw:gG E S S1) (hd:ids.Nodup) (hi:fK S1.H ids ids Hin) (hm:mtL (fJ S1.H ids (vs++caps)) ws)
  (h:wfV r→aE E J k .normal (S1.afterI ids Hout Hnew d r)):gC E J (some (.fn f caps)) (some vs) S d k:=A9 ids hc hw.toQ hd hi hm h
theorem A_ {c c':Cx} {n:Nat} {g:Bool}: ∀{l:List V} {cs:List Value},gx l→bd (rV ro0 n g) c cs l→bd (rV ro0 n g) c' cs l
 | [],_,_,h=>h
 | a::l,cs,hf,h=>by
  simp only [gx,bd] at hf h⊢
  obtain ⟨c1,c2,e,⟨h1,h2⟩,h3⟩:=h
  exact ⟨c1,c2,e,⟨h1,pi hf.1 h2⟩,A_ hf.2 h3⟩
theorem Ba {α:Type} {f:α→V} (h: ∀x,dA (f x)): ∀{l:List α},gx (l.map f)
 | []=>trivial
 | a::l=>⟨h a,Ba h⟩
section
variable {D:Dr} {m i:Nat} {ll:List Oper} {R:List (Nat×aY)}
theorem I6 {f:FuncId} {caps vs ws:List V} {d:Option Nat} {T n:Nat} {g:Bool} {z z':Option Bool} {l l':List V} (id:Nat) (hc:dB E f ws [.own T n g z l] (.own 0) [.own T n g z' l'] []) (hm:(bF D.ub i id&& !decide (id=S.nx))=true) (hi:fK S.H [id] [id] [.own T n g z l]) (ha:mtL (fJ S.H [id] (vs++caps)) ws) (hfl:gx l')
  (h:bV E D m (i+1) ll ((i,⟨d,.own S.nx,some (S.nx,.own T n g z' l')⟩)::R)):gD E D m i ll R d S (some (.fn f caps)) (some vs):=by
 obtain ⟨hlen,hget⟩:=nS hi
 obtain ⟨b0,hb0,hp0,_⟩:=pI (hget 0 id _ rfl rfl)
 refine .inr (.inr ⟨hc.1,id,T,n,g,z',l',hm,⟨b0,hb0,hp0⟩,fun c0 c ρ F us hs hus=> ?_,h⟩)
 have hrd:=ib ha (mw (ids:=[id]) hs hus)
 refine (show Calls E.P f us.toArray c.w _ from hc.2.2 (c.lend (cG ρ [id])) us (bW ρ [id]) (db ρ [id]) (hs.gl.mono (c.pub_lend _)) (sH hs (by simp) hi) (fo (c.pub_lend _) hrd)).mono ?_
 rintro e w' ⟨v,c',ρr,rfl,rfl,hle,hr,hH⟩
 obtain ⟨v',e1,hown,hge,hone,a,cap,es,hz⟩:=hH.1 0 _ rfl
 simp only [rd] at hr
 have ev:v'=v:=by rw [hr.1] at e1;exact (Option.some.inj e1).symm
 subst ev
 have hY: ∀k,k∈cG ρ [id]↔am ρ id=some k:=by
  intro k
  simp only [cG,List.mem_filterMap,List.mem_singleton]
  exact ⟨fun ⟨i,hi,hb⟩=>hi▸hb,fun hb=>⟨id,rfl,hb⟩⟩
 have hYlt: ∀k,k∈cG ρ [id]→k<c.w.heap.size:=fun k hk=>fC hp0 (hs.heap id b0 hb0) k ((hY k).1 hk)
 have hYX: ∀k,k∈cG ρ [id]→k∈c.X:=by
  intro k hk
  obtain ⟨i',a,h1,h2,h3,h4⟩:=mx hs hi hk
  have hb:=hs.heap i' a h2
  cases a with
  | var n g d=>obtain ⟨b,g1,_,g3⟩:=hb;simp only [am,g1,Option.some.injEq] at h4;subst h4;exact g3.1
  | lent b n g d=>obtain ⟨g1,_,g3⟩:=hb;simp only [am,g1,Option.some.injEq] at h4;subst h4;exact g3.1
  | own T n g z l=>obtain ⟨u,g1,g2,_,_,a,cap,e,_⟩:=hb;rw [eQ g1 e] at h4;exact g2.isX k h4
  | ownI T n g z l=>obtain ⟨u,g1,g2,_,_,a,cap,e,_⟩:=hb;rw [eQ g1 e] at h4;exact g2.isX k h4
  | kset g k' n l=>obtain ⟨r,g1,_,g3⟩:=hb;simp only [am,g1,blk,Option.some.injEq] at h4;subst h4;exact g3.1
  | pvar n g d=>cases h3
  | pown n g z l=>cases h3
 refine ⟨v',{X:=cG ρ [id]++c'.X,w:=c'.w,ok:=fun k hk=> ?_},rfl,rfl,⟨hle.below.os,hle.below.tape,hle.below.output,hle.below.size,fun k hk hne=>hle.below.block k hk (fun hy=>hne ((hY k).1 hy)),fun k hk=> ?_,fun k hk=>hYX k ((hY k).2 hk)⟩,⟨hown.1,?_⟩,fun k hk=> ?_,hone,a,cap,es,hz⟩
 ·rcases List.mem_append.1 hk with hk|hk
  ·exact Nat.lt_of_lt_of_le (hYlt k hk) hle.below.size
  ·exact c'.ok k hk
 ·simp only [List.mem_append]
  by_cases hy:k∈cG ρ [id]
  ·exact ⟨fun _=>hYX k hy,fun _=> .inl hy⟩
  ·exact ⟨fun h'=>(hle.old k hk hy).1 (h'.resolve_left hy),fun h'=> .inr ((hle.old k hk hy).2 h')⟩
 ·rcases hown.2 with h'|⟨g',cp,cur,e,k1,k2,k3,k4,k5,k6⟩
  ·exact .inl h'
  ·exact .inr ⟨g',cp,cur,e,List.mem_append.2 (.inr k1),k2,k3,k4,k5,A_ hfl k6⟩
 ·rcases hge k hk with h'|h'
  ·exact .inr h'
  ·exact .inl ((hY k).1 h')
theorem I7 {f:FuncId} {caps vs ws:List V} {d:Option Nat} {n:Nat} {g:Bool} {d0 d1 r:V} (id:Nat) {b0 b1:Blk} (hc:dB E f ws [.var n g d0] r [.var n g d1] []) (hb0:al S.H id=some b0) (hb1:jd (some b0) (.var n g d1)=b1) (hm:bF D.ub i id=true) (hi:fK S.H [id] [id] [.var n g d0]) (ha:mtL (fJ S.H [id] (vs++caps)) ws) (hpr:dY r) (hpd:dY d1)
  (h:bV E D m (i+1) ll ((i,⟨d,r,some (id,b1)⟩)::R)):gD E D m i ll R d S (some (.fn f caps)) (some vs):=by
 obtain ⟨hlen,hget⟩:=nS hi
 have hin:=hget 0 id _ rfl rfl
 rw [hb0] at hin
 have hk:aW b1=true:=by
  subst hb1
  cases b0<;>rfl
 refine .inr (.inl ⟨hc.1,r,id,b1,hm,hk,⟨b0,hb0,?_⟩,fun c0 c ρ F us hs hus=> ?_,h⟩)
 ·obtain ⟨a,e,h1,_⟩:=pI hin
  cases e;exact h1
 have hrd:=ib ha (mw (ids:=[id]) hs hus)
 refine (show Calls E.P f us.toArray c.w _ from hc.2.2 (c.lend (cG ρ [id])) us (bW ρ [id]) (db ρ [id]) (hs.gl.mono (c.pub_lend _)) (sH hs (by simp) hi) (fo (c.pub_lend _) hrd)).mono ?_
 rintro e w' ⟨v,c',ρr,rfl,rfl,hle,hr,hH⟩
 obtain ⟨e1,hmi,hv1,T,cs,g4,g5,g6⟩:=hH.1 0 _ rfl
 have hblk:=hs.heap id b0 hb0
 have key: ∃k,ρ id=some (.pointer (some ⟨k,0,none⟩))∧c0.mine k∧k∈c.X∧(∀q,b0= .lent q n g d0→True):=by
  cases b0 with
  | var n' g' d'=>
   obtain ⟨b,h1,h2,h3⟩:=hblk
   exact ⟨b,h1,h2,h3.1,fun _ _=>trivial⟩
  | lent q n' g' d'=>
   obtain ⟨h1,h2,h3⟩:=hblk
   exact ⟨_,h1,h2,h3.1,fun _ _=>trivial⟩
  | _=>simp only [inO] at hin
 obtain ⟨k,hk1,hk2,hk3,_⟩:=key
 have hbo:am ρ id=some k:=by simp [am,hk1]
 have hK:db ρ [id] 0=k:=by simp [db,hbo]
 rw [hK] at e1 hmi hv1 g4
 have hY: ∀q,q∈cG ρ [id]↔q=k:=by
  intro q
  simp only [cG,List.mem_filterMap,List.mem_singleton]
  constructor
  ·rintro ⟨i,rfl,hb⟩;rw [hbo] at hb;exact (Option.some.inj hb).symm
  ·rintro rfl;exact ⟨id,rfl,hbo⟩
 refine ⟨v,c',rfl,rfl,⟨hle.below.os,hle.below.tape,hle.below.output,hle.below.size,fun q hq hne=>hle.below.block q hq (fun hy=>hne (by rw [hbo,(hY q).1 hy])),fun q hq=> ?_,fun q hq=> ?_⟩,?_,kF hpr hr⟩
 ·by_cases hq':q=k
  ·subst hq';exact ⟨fun _=>hk3,fun _=>hv1⟩
  ·exact hle.old q hq (fun hy=>hq' ((hY q).1 hy))
 ·rw [hbo] at hq;cases hq;exact hk3
 ·have hvar:Var c' k (rV ρ n g) d1:=⟨hv1,T,cs,g4,g5,kF hpd g6⟩
  subst hb1
  cases b0 with
  | var n' g' d'=>exact ⟨k,hk1,hk2,hvar⟩
  | lent q n' g' d'=>
   obtain ⟨h1,_⟩:=hblk
   rw [hk1] at h1
   cases h1
   exact ⟨hk1,hk2,hvar⟩
  | _=>simp only [inO] at hin
end
def sI (E:Env) (S:St) (ks:Nat→Nat) (v r:V) (Hout Hnew:List Blk):Prop:=
 ∀c0 c ρ F u,bf E c0 c ρ S F→rd ρ c v u→ ∃c1 ρ1,c1.w=c.w∧c0.leY c1∧rd ρ1 c1 r u∧pH c0 c1 ρ1 (ci ks 0 Hout++Hnew)
def pJ (E:Env) (rs:List ResultVar) (ks:Nat→Nat) (r:V) (Hout Hnew:List Blk):Exit→St→Prop
 | .ret,S=>match gA E.tb S rs with
  | some vs=>sI E S ks (fG vs) r Hout Hnew
  | none=>False
 | .normal,S=>match gA E.tb S rs with
  | some vs=>sI E S ks (fG vs) r Hout Hnew
  | none=>False
 | _,_=>False
def wF (E:Env) (S:St) (ks:Nat→Nat) (r:V) (Hout Hnew:List Blk):Option (List V)→Prop
 | some vs=>sI E S ks (fG vs) r Hout Hnew
 | none=>False
theorem I8 {rs:List ResultVar} {ks:Nat→Nat} {r:V} {Hout Hnew:List Blk}:pJ E rs ks r Hout Hnew .ret S=wF E S ks r Hout Hnew (gA E.tb S rs):=Eq.trans rfl rfl
theorem I9 {rs:List ResultVar} {ks:Nat→Nat} {r:V} {Hout Hnew:List Blk}:pJ E rs ks r Hout Hnew .normal S=wF E S ks r Hout Hnew (gA E.tb S rs):=Eq.trans rfl rfl
def my (H:List (Nat×Blk)) (ids:List Nat):Option Blk→Blk→Prop
 | some (.own T n g z l),.own T' n' g' z' l'=>T=T'∧n=n'∧g=g'∧mtZ z z'∧mtL l l'
 | some (.lent k n g d),.lent k' n' g' d'=>k=k'∧n=n'∧g=g'∧mt (f_ H ids d) d'
 | _,_=>False
def kY (H:List (Nat×Blk)) (ids:List Nat):List Nat→List Blk→Prop
 | [],[]=>True
 | i::l,b::m=>my H ids (al H i) b∧kY H ids l m
 | _,_=>False
theorem Bb {H:List (Nat×Blk)} {ids:List Nat}: ∀{l:List Nat} {m:List Blk},kY H ids l m→l.length=m.length∧ ∀(j i:Nat) (b:Blk),l[j]? =some i→m[j]? =some b→my H ids (al H i) b
 | [],[],_=>⟨rfl,by simp⟩
 | i::l,b::m,h=>by
  simp only [kY] at h
  obtain ⟨h1,h2⟩:=Bb h.2
  refine ⟨by simp [h1],fun j i' b' hi hb=> ?_⟩
  cases j with
  | zero=>simp at hi hb;subst hi hb;exact h.1
  | succ j=>exact h2 j i' b' (by simpa using hi) (by simpa using hb)
 | [],_::_,h=>by simp [kY] at h
 | _::_,[],h=>by simp [kY] at h
theorem I_ {H:List (Nat×Blk)} {ids:List Nat} {o:Option Blk} {b:Blk} (h:my H ids o b): ∃a,o=some a∧aW a=true:=by
 unfold my at h
 split at h
 ·exact ⟨_,rfl,rfl⟩
 ·exact ⟨_,rfl,rfl⟩
 ·exact h.elim
def Cx.giveI (c0 c:Cx) (L:List Nat) (h0:c0.w.heap.size≤c.w.heap.size) (h: ∀k∈L,k<c.w.heap.size):Cx:=
 {X:=c0.X.filter (fun k=>k∉c0.Y)++L,w:=c.w,ok:=fun k hk=>(by
  rcases List.mem_append.1 hk with hk|hk
  ·exact Nat.lt_of_lt_of_le (c0.ok k (List.mem_filter.1 hk).1) h0
  ·exact h k hk)}
theorem Ja {c0 c:Cx} {L:List Nat} {h0:c0.w.heap.size≤c.w.heap.size} {h: ∀k∈L,k<c.w.heap.size} {x:Nat}:x∈(Cx.giveI c0 c L h0 h).X↔(x∈c0.X∧x∉c0.Y)∨x∈L:=by
 simp [Cx.giveI]
theorem Jb {ks:Nat→Nat} {v r:V} {Hout Hnew:List Blk} (ids:List Nat) (ho:kY S.H ids ids (ci ks 0 Hout++Hnew)) (hd:ids.Nodup) (hm:mt (f_ S.H ids v) r):sI E S ks v r Hout Hnew:=by
 intro c0 c ρ F u h hr
 obtain ⟨hlen,hget⟩:=Bb ho
 have hpriv: ∀i∈ids,∃a,al S.H i=some a∧aW a=true:=by
  intro i hi
  obtain ⟨j,hj,e⟩:=List.getElem_of_mem hi
  exact I_ (hget j i (ci ks 0 Hout++Hnew)[j] (by rw [List.getElem?_eq_getElem hj,e]) (List.getElem?_eq_getElem (by omega)))
 have hL: ∀x∈ids.filterMap (am ρ),x<c.w.heap.size∧c0.mine x∧x∈c.X∧ ∃i∈ids,am ρ i=some x:=by
  intro x hx
  obtain ⟨i,hi,hb⟩:=List.mem_filterMap.1 hx
  obtain ⟨a,h1,h2⟩:=hpriv i hi
  refine ⟨fC h2 (h.1.heap i a h1) x hb,iZ h.1 h1 h2 x hb,?_,i,hi,hb⟩
  have hbk:=h.1.heap i a h1
  cases a with
  | var n g d=>obtain ⟨b,g1,_,g3⟩:=hbk;simp only [am,g1,Option.some.injEq] at hb;subst hb;exact g3.1
  | lent b n g d=>obtain ⟨g1,_,g3⟩:=hbk;simp only [am,g1,Option.some.injEq] at hb;subst hb;exact g3.1
  | own T n g z l=>obtain ⟨u,g1,g2,_,_,a,cap,e,_⟩:=hbk;rw [eQ g1 e] at hb;exact g2.isX x hb
  | ownI T n g z l=>obtain ⟨u,g1,g2,_,_,a,cap,e,_⟩:=hbk;rw [eQ g1 e] at hb;exact g2.isX x hb
  | kset g k' n l=>obtain ⟨r,g1,_,g3⟩:=hbk;simp only [am,g1,blk,Option.some.injEq] at hb;subst hb;exact g3.1
  | pvar n g d=>cases h2
  | pown n g z l=>cases h2
 generalize hc1:Cx.giveI c0 c (ids.filterMap (am ρ)) h.1.since.size (fun k hk=>(hL k hk).1)=c1
 have hw:c1.w=c.w:=by subst hc1;rfl
 have hX: ∀x,x∈c1.X↔(x∈c0.X∧x∉c0.Y)∨x∈ids.filterMap (am ρ):=by subst hc1;intro x;exact Ja
 have hpub:c.pub c1:=by
  refine ⟨by rw [hw];exact Nat.le_refl _,fun k hk hx=>⟨fun h'=> ?_,by rw [hw];exact fun _ h _=>h⟩⟩
  rcases (hX k).1 h' with h'|h'
  ·exact hx (h.1.since.X k h'.1 h'.2)
  ·exact hx (hL k h').2.2.1
 have hle:c0.leY c1:=by
  refine ⟨by rw [hw];exact h.1.since.below,fun k hk hy=>⟨fun h'=> ?_,fun h'=>(hX k).2 (.inl ⟨h',hy⟩)⟩⟩
  rcases (hX k).1 h' with h'|h'
  ·exact h'.1
  ·rcases (hL k h').2.1 with h1|h1
   ·omega
   ·exact absurd h1 hy
 have hn: ∀i b,i∉ids→al S.H i=some b→aW b=true→ ∀k,am ρ i=some k→k∉c1.X:=by
  intro i b hi hb hp k hk hmem
  rcases (hX k).1 hmem with h'|h'
  ·rcases iZ h.1 hb hp k hk with h1|h1
   ·have:=c0.ok k h'.1;omega
   ·exact h'.2 h1
  ·obtain ⟨_,_,_,j,hj,hb'⟩:=hL k h'
   obtain ⟨a,h1,h2⟩:=hpriv j hj
   exact h.1.sep i j b a k (fun e=>hi (e▸hj)) hb h1 hp h2 hk hb'
 refine ⟨c1,bW ρ ids,hw,hle,eR hm (pF hw hpub h.1 hn hr),?_,?_,?_⟩
 ·intro q b hq
  have hql:q<ids.length:=by rw [hlen];exact (List.getElem?_eq_some_iff.1 hq).1
  obtain ⟨i,hi⟩: ∃i,ids[q]? =some i:=⟨_,List.getElem?_eq_getElem hql⟩
  have ho':=hget q i b hi hq
  have hmem:i∈ids:=List.mem_of_getElem? hi
  have hro:bW ρ ids q=ρ i:=by simp only [bW,hi]
  have hmemX: ∀x,am ρ i=some x→x∈c1.X:=fun x hx=>(hX x).2 (.inr (List.mem_filterMap.2 ⟨i,hmem,hx⟩))
  cases hS:al S.H i with
  | none=>rw [hS] at ho';unfold my at ho';exact ho'.elim
  | some a=>
   have hbk:=h.1.heap i a hS
   rw [hS] at ho'
   unfold my at ho'
   split at ho'
   ·rename_i T n g z l T' n' g' z' l' e
    cases e
    obtain ⟨rfl,rfl,rfl,hz,hml⟩:=ho'
    obtain ⟨x,h1,h2,h3,h4,a,cap,e,h5⟩:=hbk
    refine ⟨x,hro.trans h1,A3 ⟨h2.1,?_⟩ hml,h3,h4,a,cap,by rw [←ml hml];exact e,nv hz h5⟩
    rcases h2.2 with h'|⟨g',cp,cur,e2,k1,k2,k3,k4,k5,k6⟩
    ·exact .inl h'
    ·exact .inr ⟨g',cp,cur,e2,hmemX g' (by rw [eQ h1 e,e2];rfl),by rw [hw];exact k2,k3,k4,k5,dh hpub k6⟩
   ·rename_i k n g d k' n' g' d' e
    cases e
    obtain ⟨rfl,rfl,rfl,hm⟩:=ho'
    obtain ⟨h1,h2,h3,T,cs,h4,h5,h6⟩:=hbk
    exact ⟨hro.trans h1,h2,hmemX k (by simp [am,h1]),T,cs,by rw [hw];exact h4,h5,eR hm (pF hw hpub h.1 hn h6)⟩
   ·exact ho'.elim
 ·intro q hq
  simp only [bW]
  rw [List.getElem?_eq_none (by omega)]
 ·intro q q' bq bq' x hne hq hq' hk hk'
  have get: ∀{q:Nat} {b:Blk},(ci ks 0 Hout++Hnew)[q]? =some b→ ∃i a,ids[q]? =some i∧al S.H i=some a∧aW a=true:=by
   intro q b hq
   have hql:q<ids.length:=by rw [hlen];exact (List.getElem?_eq_some_iff.1 hq).1
   have hi:ids[q]? =some ids[q]:=List.getElem?_eq_getElem hql
   obtain ⟨a,h1,h2⟩:=hpriv ids[q] (List.getElem_mem hql)
   exact ⟨_,a,hi,h1,h2⟩
  obtain ⟨i,a,g1,g2,g3⟩:=get hq
  obtain ⟨i',a',g1',g2',g3'⟩:=get hq'
  have hii:i≠i':=by
   rintro rfl
   exact hne (pG hd g1 g1')
  rw [blkOf_eq3 (show bW ρ ids q=ρ i by simp only [bW,g1])] at hk
  rw [blkOf_eq3 (show bW ρ ids q'=ρ i' by simp only [bW,g1'])] at hk'
  exact h.1.sep i i' a a' x hii g2 g2' g3 g3' hk hk'
where blkOf_eq3 {ρ ρ':Ro} {i j:Nat} (h:ρ' i=ρ j):am ρ' i=am ρ j:=by unfold am;rw [h]
theorem dC {ks:Nat→Nat} {vs:List V} {r:V} {Hout Hnew:List Blk} (ids:List Nat) (ho:kY S.H ids ids (ci ks 0 Hout++Hnew)) (hd:ids.Nodup) (hm:mt (f_ S.H ids (fG vs)) r):wF E S ks r Hout Hnew (some vs):=Jb ids ho hd hm
def mz:Nat→List Blk→List (Nat×Blk)
 | _,[]=> []
 | i,b::l=>(i,b)::mz (i+1) l
theorem wG: ∀{l:List Blk} {i t:Nat},al (mz i l) t=if i≤t then l[t - i]? else none
 | [],i,t=>by simp [mz,al]
 | v::l,i,t=>by
  simp only [mz,al,wG]
  by_cases h:i=t
  ·subst h;simp
  ·rw [if_neg h]
   by_cases h1:i≤t
   ·rw [if_pos h1,if_pos (by omega)]
    have:t - i=(t - (i+1))+1:=by omega
    rw [this,List.getElem?_cons_succ]
   ·rw [if_neg h1,if_neg (by omega)]
def wfB:Blk→Prop
 | .var _ _ d=>wfV d
 | .own _ _ _ _ l=>l.length≤LEN∧wfL l
 | _=>True
def pK:List Blk→Prop
 | []=>True
 | b::l=>wfB b∧pK l
theorem Bc: ∀{l:List Blk},(∀(j:Nat) (b:Blk),l[j]? =some b→wfB b)→pK l
 | [],_=>trivial
 | b::l,h=>⟨h 0 b rfl,Bc fun j b' hb=>h (j+1) b' (by simpa using hb)⟩
theorem kZ (hE:bh E) (hmo:E.P.follows .mixedOrders=true) {f:FuncId} {fn:Func} {code:Code} {ws:List V} {r:V} {Hin Hout Hnew:List Blk} {n:Nat} (J:cC) (hf:E.P.funcs[f]? =some fn) (hb:fn.body=some code) (hnt:fn.ntmps=n)
  (hsl:(fr n code&&decide (ws.length≤n)&& !(fn.name== "runtime.NumGoroutine"))=true) (hkn:(jc Hin Hout&&mv Hnew)=true)
  (h: ∀ks:Nat→Nat,wfL ws→pK Hin→wpA E J code (pJ E fn.results.toList ks r Hout Hnew) ⟨ia 0 ws,mz 0 (ci ks 0 Hin),Hin.length⟩):dB E f ws Hin r Hout Hnew:=by
 simp only [Bool.and_eq_true,Bool.not_eq_true',decide_eq_true_eq] at hsl
 refine ⟨fun aas w=> ?_,hkn,fun c us ρ0 ks hg hin hus=> ?_⟩
 ·have hn: ¬fn.name= "runtime.NumGoroutine" :=by simpa using hsl.2
  simp [callFunc,hf,hb,hn]
 have hlen:us.length=ws.length:=by
  have: ∀{l:List V} {cs:List Value},rdT ρ0 c l cs→cs.length=l.length:=by
   intro l
   induction l with
   | nil=>intro cs hc;simp only [rdT] at hc;subst hc;rfl
   | cons d l ih=>
    intro cs hc
    simp only [rdT] at hc
    obtain ⟨u,c2,rfl,_,h3⟩:=hc
    simp [ih h3]
  exact this hus
 have hwfB:pK Hin:=by
  refine Bc fun j b hb=> ?_
  have h1:=hin.1 j (gH (ks j) b) (by rw [nR,Nat.zero_add,hb];rfl)
  cases b with
  | var n g d=>
   obtain ⟨_,_,_,T,cs,_,_,h6⟩:=h1
   exact jB h6
  | own T n g z l=>
   obtain ⟨v,_,h2,_⟩:=h1
   refine ⟨h2.1,?_⟩
   rcases h2.2 with ⟨_,_,rfl⟩|⟨g',cp,cur,e2,k1,k2,k3,k4,k5,k6⟩
   ·trivial
   ·exact uG (eN.2 k6)
  | _=>trivial
 have hall:=h ks (lV hus) hwfB
 refine (callsIn_wide (n:=1)).1 (callsIn_of_wp_marks hf hb trivial ?_ rfl)
 have hfr:Fr (mo:=iO) n (fun t=>(us.toArray++Array.replicate (n - us.toArray.size) undef).getD t undef) {tmps:=us.toArray++Array.replicate (fn.ntmps - us.toArray.size) undef,defers:=[]}:=by
  refine Fr.of ?_ rfl fun t=>by rw [hnt]
  simp [hnt];omega
 have hS:bf E c c ρ0 ⟨ia 0 ws,mz 0 (ci ks 0 Hin),Hin.length⟩ (fun t=>(us.toArray++Array.replicate (n - us.toArray.size) undef).getD t undef):=by
  refine ⟨⟨cB.refl c,hg,?_,?_,?_⟩,fun i hi=>hin.2.1 i (by rw [sD];exact hi)⟩
  ·intro t v ht
   rw [wd] at ht
   simp only [Nat.zero_le,if_true,Nat.sub_zero] at ht
   obtain ⟨u,hu,hr⟩:=vu hus ht
   have hlt:t<us.length:=(List.getElem?_eq_some_iff.1 hu).1
   have:(us.toArray++Array.replicate (n - us.toArray.size) undef).getD t undef=u:=by
    have he:us[t]=u:=by simpa [List.getElem?_eq_getElem hlt] using hu
    simp [Array.getD_eq_getD_getElem?,Array.getElem?_append,hlt,he]
   rw [this];exact hr
  ·intro i b hb
   rw [wG] at hb
   simp only [Nat.zero_le,if_true,Nat.sub_zero] at hb
   exact hin.1 i b hb
  ·intro i j bi bj x hij hbi hbj _ _ hx
   rw [wG] at hbi hbj
   simp only [Nat.zero_le,if_true,Nat.sub_zero] at hbi hbj
   exact hin.2.2 i j bi bj x hij hbi hbj hx
 refine An hE hmo code none _ c _ _ hsl.1.1 (.inl ⟨rfl,rfl⟩) ?_ c ρ0 _ _ _ [] hS hfr trivial hall
 rintro e a w ⟨c',ρ',S',F',ds,rfl,hS,hf',hd,hk⟩
 cases e with
 | ret=>
  simp only [pJ] at hk
  split at hk
  ·rename_i vs hvs
   show LeavesInM _ _ _ _ _ _ a.defers .returning c'.w
   rw [hf'.df]
   refine rO hS hd fun c2 hS2=> ?_
   obtain ⟨u,hu,hr⟩:=wc hE hS2.1 hf' rfl hvs
   obtain ⟨c1,ρ1,e1,hle,hr1,hH⟩:=hk c c2 ρ' F' u hS2 hr
   exact ⟨u,hu,u,c1,ρ1,rfl,e1,hle,hr1,hH⟩
  ·exact hk.elim
 | normal=>
  simp only [pJ] at hk
  split at hk
  ·rename_i vs hvs
   show LeavesInM _ _ _ _ _ _ a.defers .returning c'.w
   rw [hf'.df]
   refine rO hS hd fun c2 hS2=> ?_
   obtain ⟨u,hu,hr⟩:=wc hE hS2.1 hf' rfl hvs
   obtain ⟨c1,ρ1,e1,hle,hr1,hH⟩:=hk c c2 ρ' F' u hS2 hr
   exact ⟨u,hu,u,c1,ρ1,rfl,e1,hle,hr1,hH⟩
  ·exact hk.elim
 | _=>exact hk.elim
end
end Go.Proofs.YtiknkaadhomeiaaGreatDoor
namespace Go.Proofs.YtiknkaadhomeiaaGreatDoor
open Go.RowKit
attribute [go_sem] St.afterI prF prV prL prH prB fd fd.ownI1 sg iu jd fI jb ren jR ci gH mz fK inO kY my inV fJ I8 I9 g8 cond_true cond_false Nat.sub_self List.getElem?_nil Nat.reduceSub
theorem Bd {c:Cx} {ρ:Ro} {n:Nat} {g:Bool} {post:List V} (h0:ρ 0=some (.slice none 0 0)): ∀{pre:List V} {us:List Value},rdT ro0 c (pre++ .sl (some true) n g []::post) us→rdT ρ c (pre++ .own 0::post) us
 | [],us,h=>by
  simp only [List.nil_append,rdT] at h⊢
  obtain ⟨u,c2,e,h1,h2⟩:=h
  have e2:u= .slice none 0 0:=by
   simp only [rd,zOk] at h1
   obtain ⟨a,cap,e,_,⟨rfl,rfl⟩,_⟩:=h1
   exact e
  subst e2
  refine ⟨_,c2,e,?_,?_⟩
  ·simp only [rd];exact ⟨h0,rfl⟩
  ·exact na (fun i v hi=>(sE hi).elim) h2
 | d::pre,us,h=>by
  simp only [List.cons_append,rdT] at h⊢
  obtain ⟨u,c2,e,h1,h2⟩:=h
  exact ⟨u,c2,e,dw (fun i v hi=>(sE hi).elim) h1,Bd h0 h2⟩
theorem Jc {E:Env} {f:FuncId} {pre post:List V} {T n:Nat} {g:Bool} {r:V} {Hout Hnew:List Blk} (h:dB E f (pre++ .own 0::post) [.own T n g (some true) []] r Hout Hnew) (hone:g=false→n=1):a8 E f (pre++ .sl (some true) n g []::post) r (Hout++Hnew):=by
 refine ⟨h.1,fun c us hY hg hus=> ?_⟩
 have hk:=h.2.1
 simp only [Bool.and_eq_true] at hk
 obtain ⟨hkl,hkk⟩:=wC hk.1
 have hall: ∀(q:Nat) (b:Blk),Hout[q]? =some b→fc b:=by
  intro q b hb
  have hq:q<1:=by have:=(List.getElem?_eq_some_iff.1 hb).1;simp at hkl;omega
  have e:q=0:=by omega
  subst e
  rcases hkk 0 _ b rfl hb with ⟨h1,_⟩|⟨_,h1⟩
  ·exact h1.elim
  ·exact h1
 have hlent: ∀{l:List Blk} {i:Nat},(∀(q:Nat) (b:Blk),l[q]? =some b→fc b)→ci (fun _=>0) i l=l:=by
  intro l
  induction l with
  | nil=>intro i _;rfl
  | cons b l ih=>
   intro i hb
   have h1:=hb 0 b rfl
   simp only [ci]
   rw [ih fun q b hq=>hb (q+1) b (by simpa using hq)]
   cases b<;>simp only [fc] at h1<;>rfl
 refine (h.2.2 c us (fun i=>if i=0 then some (.slice none 0 0) else none) (fun _=>0) hg ?_ (Bd (by simp) hus)).mono ?_
 ·refine ⟨fun i b hb=> ?_,fun i hi=> ?_,fun i j bi bj k hij hi hj=> ?_⟩
  ·cases i with
   | zero=>
    simp [ci,gH] at hb;subst hb
    exact ⟨.slice none 0 0,by simp,Own.nil,fun k hk=>by simp [blk] at hk,hone,none,0,rfl,rfl,rfl⟩
   | succ i=>simp [ci] at hb
  ·have:i≠0:=by simp [ci] at hi;omega
   simp [this]
  ·cases i with
   | zero=>cases j with
    | zero=>exact absurd rfl hij
    | succ j=>simp [ci] at hj
   | succ i=>simp [ci] at hi
 ·rintro e w' ⟨v,c',ρ,rfl,rfl,hle,hr,hH⟩
  rw [hlent hall] at hH
  refine ⟨v,c',ρ,rfl,rfl,hle.le hY,hr,fun i b hb=>⟨?_,hH.1 i b hb⟩,hH.2.1,hH.2.2⟩
  have hb':fc b:=by
   rcases Nat.lt_or_ge i Hout.length with h1|h1
   ·rw [List.getElem?_append_left h1] at hb;exact hall i b hb
   ·rw [List.getElem?_append_right h1] at hb;exact wD hk.2 _ b hb
  cases b<;>simp only [fc] at hb'
  exact ⟨_,_,_,_,_,rfl⟩
end Go.Proofs.YtiknkaadhomeiaaGreatDoor
namespace Go.Proofs.YtiknkaadhomeiaaGreatDoor
open Go.RowKit
section
variable {E:Env}
end
end Go.Proofs.YtiknkaadhomeiaaGreatDoor
