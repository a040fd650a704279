/- Texts of this proof, one after the other: K, VZ, VP, VO, VS, VI, VJ, VK, VT, VA. -/
import Derived.Test.YtjnikknlcmbcmaaGreatDoorZ3
import Derived.Test.YtjnikknlcmbcmaaGreatDoorProg
import Derived.KernelRfl
import Derived.Lib.LaidTab
import Derived.Lib.ItoaNum
set_option linter.unusedVariables false
set_option linter.unusedSimpArgs false
namespace Go.Proofs.YtjnikknlcmbcmaaGreatDoor
open Go.RowKit
def kg_0 : List Int := [2, 3, 5, 7, 11, 13, 17, 19, 23, 29, 31, 37]
def kg_4 : List Int := [0, 1, 56, 2, 57, 49, 28, 3, 61, 58, 42, 50, 38, 29, 17, 4, 62, 47, 59, 36, 45, 43, 51, 22, 53, 39, 33, 30, 24, 18, 12, 5, 63, 55, 48, 27, 60, 41, 37, 16, 46, 35, 44, 21, 52, 32, 23, 11, 54, 26, 40, 15, 34, 20, 31, 10, 25, 14, 19, 9, 13, 8, 7, 6]
def kg_5 : List Int := [1116352408, 1899447441, 3049323471, 3921009573, 961987163, 1508970993, 2453635748, 2870763221, 3624381080, 310598401, 607225278, 1426881987, 1925078388, 2162078206, 2614888103, 3248222580, 3835390401, 4022224774, 264347078, 604807628, 770255983, 1249150122, 1555081692, 1996064986, 2554220882, 2821834349, 2952996808, 3210313671, 3336571891, 3584528711, 113926993, 338241895, 666307205, 773529912, 1294757372, 1396182291, 1695183700, 1986661051, 2177026350, 2456956037, 2730485921, 2820302411, 3259730800, 3345764771, 3516065817, 3600352804, 4094571909, 275423344, 430227734, 506948616, 659060556, 883997877, 958139571, 1322822218, 1537002063, 1747873779, 1955562222, 2024104815, 2227730452, 2361852424, 2428436474, 2756734187, 3204031479, 3329325298]
noncomputable def tbl : List (TypeId × TI) := [(1, { n := 1, g := false, by' := 8, ok := true, z := .un, k := 6 }),
 (2, { n := 1, g := false, by' := 8, ok := true, z := .int .i64 0, k := 0, ik := .i64 }),
 (3, { n := 1, g := false, by' := 8, ok := true, z := .int .i64 0, k := 0, ik := .i64 }),
 (4, { n := 1, g := false, by' := 1, ok := true, z := .bool false, k := 1 }),
 (5, { n := 1, g := false, by' := 1, ok := true, z := .int .u8 0, k := 0, ik := .u8 }),
 (9, { n := 1, g := false, by' := 16, ok := true, z := .str [], k := 2 }),
 (12, { n := 1, g := false, by' := 8, ok := true, z := .int .u64 0, k := 0, ik := .u64 }),
 (15, { n := 1, g := false, by' := 8, ok := true, z := .un, k := 6 }),
 (16, { n := 1, g := false, by' := 8, ok := true, z := .un, k := 6 }),
 (17, { n := 1, g := false, by' := 8, ok := true, z := .un, k := 6 }),
 (20, { n := 1, g := false, by' := 16, ok := true, z := .un, k := 8 }),
 (21, { n := 1, g := false, by' := 4, ok := true, z := .int .i32 0, k := 0, ik := .i32 }),
 (23, { n := 3, g := true, by' := 24, ok := true, z := .agg [.int .i64 0, .int .i64 0, .int .i64 0], k := 5, fs := [(0, 3), (1, 3), (2, 3)], cmp := true, ck := [0, 0, 0] }),
 (25, { n := 6, g := true, by' := 48, ok := true, z := .agg [.int .i64 0, .int .i64 0, .int .i64 0, .int .i64 0, .int .i64 0, .int .i64 0], k := 5, fs := [(0, 23), (3, 3), (4, 3), (5, 3)], cmp := true, ck := [0, 0, 0, 0, 0, 0] }),
 (26, { n := 1, g := false, by' := 24, ok := true, z := .sl (some true) 2 true [], k := 3, el := 57 }),
 (28, { n := 3, g := true, by' := 40, ok := true, z := .agg [.int .i64 0, .int .i64 0, .sl (some true) 2 true []], k := 5, fs := [(0, 3), (1, 3), (2, 26)] }),
 (29, { n := 1, g := false, by' := 24, ok := true, z := .sl (some true) 1 false [], k := 3, el := 3 }),
 (30, { n := 1, g := false, by' := 8, ok := true, z := .un, k := 6 }),
 (31, { n := 1, g := false, by' := 8, ok := true, z := .int .i64 0, k := 0, ik := .i64 }),
 (33, { n := 1, g := false, by' := 8, ok := true, z := .un, k := 6 }),
 (35, { n := 1, g := false, by' := 8, ok := true, z := .un, k := 6 }),
 (36, { n := 1, g := false, by' := 24, ok := true, z := .sl (some true) 32 true [], k := 3, el := 40 }),
 (38, { n := 1, g := false, by' := 8, ok := true, z := .un, k := 6 }),
 (39, { n := 32, g := true, by' := 32, ok := true, z := .agg [.int .u8 0, .int .u8 0, .int .u8 0, .int .u8 0, .int .u8 0, .int .u8 0, .int .u8 0, .int .u8 0, .int .u8 0, .int .u8 0, .int .u8 0, .int .u8 0, .int .u8 0, .int .u8 0, .int .u8 0, .int .u8 0, .int .u8 0, .int .u8 0, .int .u8 0, .int .u8 0, .int .u8 0, .int .u8 0, .int .u8 0, .int .u8 0, .int .u8 0, .int .u8 0, .int .u8 0, .int .u8 0, .int .u8 0, .int .u8 0, .int .u8 0, .int .u8 0], k := 4, el := 5, len := 32, cmp := true, ck := [0, 0, 0, 0, 0, 0, 0, 0, 0, 0, 0, 0, 0, 0, 0, 0, 0, 0, 0, 0, 0, 0, 0, 0, 0, 0, 0, 0, 0, 0, 0, 0] }),
 (40, { n := 32, g := true, by' := 32, ok := true, z := .agg [.int .u8 0, .int .u8 0, .int .u8 0, .int .u8 0, .int .u8 0, .int .u8 0, .int .u8 0, .int .u8 0, .int .u8 0, .int .u8 0, .int .u8 0, .int .u8 0, .int .u8 0, .int .u8 0, .int .u8 0, .int .u8 0, .int .u8 0, .int .u8 0, .int .u8 0, .int .u8 0, .int .u8 0, .int .u8 0, .int .u8 0, .int .u8 0, .int .u8 0, .int .u8 0, .int .u8 0, .int .u8 0, .int .u8 0, .int .u8 0, .int .u8 0, .int .u8 0], k := 4, el := 5, len := 32, cmp := true, ck := [0, 0, 0, 0, 0, 0, 0, 0, 0, 0, 0, 0, 0, 0, 0, 0, 0, 0, 0, 0, 0, 0, 0, 0, 0, 0, 0, 0, 0, 0, 0, 0] }),
 (42, { n := 1, g := false, by' := 8, ok := true, z := .un, k := 6 }),
 (43, { n := 1, g := false, by' := 8, ok := true, z := .un, k := 6 }),
 (44, { n := 1, g := false, by' := 8, ok := true, z := .un, k := 6 }),
 (45, { n := 1, g := false, by' := 8, ok := true, z := .un, k := 6 }),
 (46, { n := 1, g := false, by' := 8, ok := true, z := .un, k := 6 }),
 (47, { n := 1, g := false, by' := 8, ok := true, z := .un, k := 6 }),
 (48, { n := 1, g := false, by' := 8, ok := true, z := .un, k := 6 }),
 (49, { n := 1, g := false, by' := 8, ok := true, z := .un, k := 6 }),
 (50, { n := 1, g := false, by' := 8, ok := true, z := .un, k := 6 }),
 (51, { n := 1, g := false, by' := 8, ok := true, z := .un, k := 6 }),
 (52, { n := 1, g := false, by' := 8, ok := true, z := .un, k := 6 }),
 (53, { n := 1, g := false, by' := 8, ok := true, z := .un, k := 6 }),
 (54, { n := 1, g := false, by' := 8, ok := true, z := .un, k := 6 }),
 (55, { n := 1, g := false, by' := 8, ok := true, z := .un, k := 6 }),
 (56, { n := 1, g := false, by' := 8, ok := true, z := .un, k := 6 }),
 (57, { n := 2, g := true, by' := 16, ok := true, z := .agg [.int .i64 0, .int .i64 0], k := 4, el := 3, len := 2, cmp := true, ck := [0, 0] }),
 (58, { n := 1, g := false, by' := 8, ok := true, z := .un, k := 6 }),
 (60, { n := 2, g := true, by' := 32, ok := true, z := .agg [.int .i64 0, .sl (some true) 32 true []], k := 5, fs := [(0, 3), (1, 36)] }),
 (62, { n := 1, g := false, by' := 8, ok := true, z := .un, k := 6 }),
 (63, { n := 1, g := false, by' := 8, ok := true, z := .un, k := 6 }),
 (64, { n := 1, g := false, by' := 8, ok := true, z := .un, k := 6 }),
 (65, { n := 1, g := false, by' := 8, ok := true, z := .un, k := 6 }),
 (66, { n := 1, g := false, by' := 8, ok := true, z := .un, k := 6 }),
 (68, { n := 3, g := true, by' := 24, ok := true, z := .agg [.int .i64 0, .int .i64 0, .int .i64 0], k := 5, fs := [(0, 3), (1, 3), (2, 3)], cmp := true, ck := [0, 0, 0] }),
 (70, { n := 11, g := true, by' := 88, ok := true, z := .agg [.int .i64 0, .int .i64 0, .int .i64 0, .int .i64 0, .int .i64 0, .int .i64 0, .int .i64 0, .int .i64 0, .int .i64 0, .int .i64 0, .int .i64 0], k := 5, fs := [(0, 3), (1, 3), (2, 3), (3, 3), (4, 3), (5, 68), (8, 3), (9, 3), (10, 3)], cmp := true, ck := [0, 0, 0, 0, 0, 0, 0, 0, 0, 0, 0] }),
 (72, { n := 3, g := true, by' := 24, ok := true, z := .agg [.int .i64 0, .int .i64 0, .int .i64 0], k := 5, fs := [(0, 3), (1, 3), (2, 3)], cmp := true, ck := [0, 0, 0] }),
 (74, { n := 6, g := true, by' := 48, ok := true, z := .agg [.int .i64 0, .int .i64 0, .int .i64 0, .int .i64 0, .int .i64 0, .int .i64 0], k := 5, fs := [(0, 3), (1, 3), (2, 3), (3, 3), (4, 3), (5, 3)], cmp := true, ck := [0, 0, 0, 0, 0, 0] }),
 (76, { n := 4, g := true, by' := 32, ok := true, z := .agg [.int .i64 0, .int .i64 0, .int .i64 0, .int .i64 0], k := 5, fs := [(0, 3), (1, 3), (2, 3), (3, 3)], cmp := true, ck := [0, 0, 0, 0] }),
 (78, { n := 41, g := true, by' := 104, ok := true, z := .agg [.int .i64 0, .int .i64 0, .int .i64 0, .int .i64 0, .int .i64 0, .int .u8 0, .int .u8 0, .int .u8 0, .int .u8 0, .int .u8 0, .int .u8 0, .int .u8 0, .int .u8 0, .int .u8 0, .int .u8 0, .int .u8 0, .int .u8 0, .int .u8 0, .int .u8 0, .int .u8 0, .int .u8 0, .int .u8 0, .int .u8 0, .int .u8 0, .int .u8 0, .int .u8 0, .int .u8 0, .int .u8 0, .int .u8 0, .int .u8 0, .int .u8 0, .int .u8 0, .int .u8 0, .int .u8 0, .int .u8 0, .int .u8 0, .int .u8 0, .int .i64 0, .int .i64 0, .int .i64 0, .int .i64 0], k := 5, fs := [(0, 3), (1, 3), (2, 3), (3, 3), (4, 3), (5, 40), (37, 76)], cmp := true, ck := [0, 0, 0, 0, 0, 0, 0, 0, 0, 0, 0, 0, 0, 0, 0, 0, 0, 0, 0, 0, 0, 0, 0, 0, 0, 0, 0, 0, 0, 0, 0, 0, 0, 0, 0, 0, 0, 0, 0, 0, 0] }),
 (80, { n := 59, g := true, by' := 264, ok := true, z := .agg [.int .i64 0, .int .i64 0, .int .i64 0, .int .i64 0, .int .i64 0, .int .i64 0, .int .i64 0, .int .i64 0, .sl (some true) 2 true [], .int .i64 0, .int .i64 0, .int .i64 0, .int .i64 0, .int .i64 0, .int .i64 0, .int .i64 0, .int .i64 0, .int .i64 0, .int .i64 0, .int .i64 0, .int .i64 0, .int .i64 0, .int .i64 0, .int .u8 0, .int .u8 0, .int .u8 0, .int .u8 0, .int .u8 0, .int .u8 0, .int .u8 0, .int .u8 0, .int .u8 0, .int .u8 0, .int .u8 0, .int .u8 0, .int .u8 0, .int .u8 0, .int .u8 0, .int .u8 0, .int .u8 0, .int .u8 0, .int .u8 0, .int .u8 0, .int .u8 0, .int .u8 0, .int .u8 0, .int .u8 0, .int .u8 0, .int .u8 0, .int .u8 0, .int .u8 0, .int .u8 0, .int .u8 0, .int .u8 0, .int .u8 0, .int .i64 0, .int .i64 0, .int .i64 0, .int .i64 0], k := 5, fs := [(0, 3), (1, 3), (2, 3), (3, 3), (4, 3), (5, 3), (6, 28), (9, 72), (12, 74), (18, 78)] }),
 (82, { n := 21, g := true, by' := 168, ok := true, z := .agg [.int .i64 0, .int .i64 0, .int .i64 0, .int .i64 0, .int .i64 0, .int .i64 0, .int .i64 0, .int .i64 0, .int .i64 0, .int .i64 0, .int .i64 0, .int .i64 0, .int .i64 0, .int .i64 0, .int .i64 0, .int .i64 0, .int .i64 0, .int .i64 0, .int .i64 0, .int .i64 0, .int .i64 0], k := 5, fs := [(0, 3), (1, 3), (2, 3), (3, 70), (14, 3), (15, 74)], cmp := true, ck := [0, 0, 0, 0, 0, 0, 0, 0, 0, 0, 0, 0, 0, 0, 0, 0, 0, 0, 0, 0, 0] }),
 (83, { n := 1, g := false, by' := 8, ok := true, z := .un, k := 6 }),
 (84, { n := 1, g := false, by' := 8, ok := true, z := .un, k := 6 }),
 (85, { n := 1, g := false, by' := 8, ok := true, z := .un, k := 6 }),
 (86, { n := 1, g := false, by' := 8, ok := true, z := .un, k := 6 }),
 (87, { n := 1, g := false, by' := 24, ok := true, z := .sl (some true) 1 false [], k := 3, el := 5 }),
 (88, { n := 1, g := false, by' := 24, ok := true, z := .sl (some true) 4 true [], k := 3, el := 90 }),
 (90, { n := 4, g := true, by' := 64, ok := true, z := .agg [.int .i64 0, .int .i64 0, .sl (some true) 1 false [], .sl (some true) 4 true []], k := 5, fs := [(0, 3), (1, 3), (2, 87), (3, 88)] }),
 (91, { n := 1, g := false, by' := 8, ok := true, z := .un, k := 6 }),
 (93, { n := 1, g := false, by' := 8, ok := true, z := .un, k := 6 }),
 (95, { n := 1, g := false, by' := 8, ok := true, z := .un, k := 6 }),
 (96, { n := 1, g := false, by' := 8, ok := true, z := .un, k := 6 }),
 (97, { n := 1, g := false, by' := 8, ok := true, z := .un, k := 6 }),
 (98, { n := 1, g := false, by' := 8, ok := true, z := .un, k := 6 }),
 (99, { n := 1, g := false, by' := 8, ok := true, z := .un, k := 6 }),
 (101, { n := 1, g := false, by' := 8, ok := true, z := .un, k := 6 }),
 (103, { n := 1, g := false, by' := 8, ok := true, z := .un, k := 6 }),
 (104, { n := 1, g := false, by' := 8, ok := true, z := .un, k := 6 }),
 (105, { n := 1, g := false, by' := 8, ok := true, z := .un, k := 6 }),
 (106, { n := 1, g := false, by' := 8, ok := true, z := .un, k := 6 }),
 (107, { n := 1, g := false, by' := 8, ok := true, z := .un, k := 6 }),
 (109, { n := 1, g := false, by' := 8, ok := true, z := .un, k := 6 }),
 (111, { n := 1, g := false, by' := 8, ok := true, z := .un, k := 6 }),
 (112, { n := 1, g := false, by' := 8, ok := true, z := .un, k := 6 }),
 (113, { n := 1, g := false, by' := 4, ok := true, z := .int .u32 0, k := 0, ik := .u32 }),
 (114, { n := 1, g := false, by' := 8, ok := true, z := .un, k := 6 }),
 (115, { n := 1, g := false, by' := 8, ok := true, z := .un, k := 6 }),
 (116, { n := 1, g := false, by' := 8, ok := true, z := .un, k := 6 }),
 (117, { n := 1, g := false, by' := 8, ok := true, z := .un, k := 6 }),
 (118, { n := 1, g := false, by' := 8, ok := true, z := .un, k := 6 }),
 (120, { n := 1, g := false, by' := 8, ok := true, z := .un, k := 6 }),
 (121, { n := 1, g := false, by' := 8, ok := true, z := .un, k := 6 }),
 (122, { n := 1, g := false, by' := 8, ok := true, z := .un, k := 6 }),
 (123, { n := 1, g := false, by' := 8, ok := true, z := .un, k := 6 }),
 (124, { n := 1, g := false, by' := 8, ok := true, z := .un, k := 6 }),
 (125, { n := 1, g := false, by' := 8, ok := true, z := .un, k := 6 }),
 (126, { n := 1, g := false, by' := 8, ok := true, z := .un, k := 6 }),
 (127, { n := 1, g := false, by' := 8, ok := true, z := .un, k := 6 }),
 (128, { n := 1, g := false, by' := 8, ok := true, z := .un, k := 6 }),
 (129, { n := 1, g := false, by' := 8, ok := true, z := .un, k := 6 }),
 (130, { n := 1, g := false, by' := 8, ok := true, z := .un, k := 6 }),
 (131, { n := 1, g := false, by' := 8, ok := true, z := .un, k := 6 }),
 (132, { n := 1, g := false, by' := 8, ok := true, z := .un, k := 6 }),
 (133, { n := 1, g := false, by' := 8, ok := true, z := .un, k := 6 }),
 (134, { n := 1, g := false, by' := 8, ok := true, z := .un, k := 6 }),
 (135, { n := 1, g := false, by' := 8, ok := true, z := .un, k := 6 }),
 (136, { n := 1, g := false, by' := 24, ok := true, z := .sl (some true) 1 false [], k := 3, el := 36 }),
 (138, { n := 1, g := false, by' := 8, ok := true, z := .un, k := 6 }),
 (139, { n := 1, g := false, by' := 8, ok := true, z := .un, k := 6 }),
 (140, { n := 1, g := false, by' := 8, ok := true, z := .un, k := 6 }),
 (141, { n := 1, g := false, by' := 8, ok := true, z := .un, k := 6 }),
 (142, { n := 1, g := false, by' := 8, ok := true, z := .un, k := 6 }),
 (143, { n := 1, g := false, by' := 8, ok := true, z := .int .u64 0, k := 0, ik := .u64 }),
 (145, { n := 33, g := true, by' := 40, ok := true, z := .agg [.int .u8 0, .int .u8 0, .int .u8 0, .int .u8 0, .int .u8 0, .int .u8 0, .int .u8 0, .int .u8 0, .int .u8 0, .int .u8 0, .int .u8 0, .int .u8 0, .int .u8 0, .int .u8 0, .int .u8 0, .int .u8 0, .int .u8 0, .int .u8 0, .int .u8 0, .int .u8 0, .int .u8 0, .int .u8 0, .int .u8 0, .int .u8 0, .int .u8 0, .int .u8 0, .int .u8 0, .int .u8 0, .int .u8 0, .int .u8 0, .int .u8 0, .int .u8 0, .int .i64 0], k := 5, fs := [(0, 40), (32, 3)], cmp := true, ck := [0, 0, 0, 0, 0, 0, 0, 0, 0, 0, 0, 0, 0, 0, 0, 0, 0, 0, 0, 0, 0, 0, 0, 0, 0, 0, 0, 0, 0, 0, 0, 0, 0] }),
 (147, { n := 1, g := false, by' := 8, ok := true, z := .un, k := 6 }),
 (149, { n := 1, g := false, by' := 8, ok := true, z := .un, k := 6 }),
 (150, { n := 1, g := false, by' := 8, ok := true, z := .un, k := 6 }),
 (152, { n := 1, g := false, by' := 8, ok := true, z := .un, k := 6 }),
 (154, { n := 1, g := false, by' := 8, ok := true, z := .un, k := 6 }),
 (155, { n := 1, g := false, by' := 8, ok := true, z := .un, k := 6 }),
 (156, { n := 1, g := false, by' := 8, ok := true, z := .un, k := 6 }),
 (158, { n := 1, g := false, by' := 8, ok := true, z := .un, k := 6 }),
 (159, { n := 1, g := false, by' := 8, ok := true, z := .un, k := 6 }),
 (161, { n := 1, g := false, by' := 8, ok := true, z := .un, k := 6 }),
 (162, { n := 1, g := false, by' := 8, ok := true, z := .un, k := 6 }),
 (163, { n := 1, g := false, by' := 8, ok := true, z := .un, k := 6 }),
 (164, { n := 1, g := false, by' := 8, ok := true, z := .un, k := 6 }),
 (165, { n := 4, g := true, by' := 96, ok := true, z := .agg [.sl (some true) 1 false [], .sl (some true) 1 false [], .sl (some true) 1 false [], .sl (some true) 1 false []], k := 4, el := 29, len := 4 }),
 (167, { n := 1, g := false, by' := 8, ok := true, z := .un, k := 6 }),
 (169, { n := 1, g := false, by' := 8, ok := true, z := .un, k := 6 }),
 (171, { n := 1, g := false, by' := 8, ok := true, z := .un, k := 6 }),
 (172, { n := 1, g := false, by' := 8, ok := true, z := .un, k := 6 }),
 (173, { n := 1, g := false, by' := 8, ok := true, z := .un, k := 6 }),
 (174, { n := 1, g := false, by' := 8, ok := true, z := .un, k := 6 }),
 (175, { n := 1, g := false, by' := 8, ok := true, z := .un, k := 6 }),
 (176, { n := 1, g := false, by' := 8, ok := true, z := .un, k := 6 }),
 (177, { n := 1, g := false, by' := 8, ok := true, z := .un, k := 6 }),
 (178, { n := 1, g := false, by' := 8, ok := true, z := .un, k := 6 }),
 (179, { n := 1, g := false, by' := 8, ok := true, z := .un, k := 6 }),
 (180, { n := 1, g := false, by' := 8, ok := true, z := .un, k := 7, el := 3, len := 4 }),
 (181, { n := 1, g := false, by' := 8, ok := true, z := .un, k := 6 }),
 (182, { n := 1, g := false, by' := 8, ok := true, z := .un, k := 6 }),
 (183, { n := 1, g := false, by' := 8, ok := true, z := .un, k := 6 }),
 (184, { n := 1, g := false, by' := 8, ok := true, z := .un, k := 6 }),
 (185, { n := 1, g := false, by' := 8, ok := true, z := .un, k := 6 }),
 (186, { n := 1, g := false, by' := 8, ok := true, z := .un, k := 6 }),
 (187, { n := 1, g := false, by' := 8, ok := true, z := .un, k := 6 }),
 (188, { n := 1, g := false, by' := 8, ok := true, z := .int .u64 0, k := 0, ik := .u64 }),
 (189, { n := 1, g := false, by' := 8, ok := true, z := .un, k := 6 }),
 (190, { n := 1, g := false, by' := 8, ok := true, z := .un, k := 6 }),
 (191, { n := 1, g := false, by' := 8, ok := true, z := .un, k := 6 }),
 (192, { n := 1, g := false, by' := 8, ok := true, z := .un, k := 6 }),
 (195, { n := 1, g := false, by' := 8, ok := true, z := .un, k := 6 }),
 (196, { n := 1, g := false, by' := 8, ok := true, z := .un, k := 6 }),
 (197, { n := 1, g := false, by' := 8, ok := true, z := .un, k := 6 }),
 (198, { n := 1, g := false, by' := 8, ok := true, z := .un, k := 6 }),
 (200, { n := 1, g := false, by' := 8, ok := true, z := .un, k := 6 }),
 (203, { n := 1, g := false, by' := 8, ok := true, z := .un, k := 6 }),
 (204, { n := 1, g := false, by' := 8, ok := true, z := .un, k := 6 }),
 (205, { n := 1, g := false, by' := 8, ok := true, z := .un, k := 6 }),
 (207, { n := 1, g := false, by' := 8, ok := true, z := .un, k := 6 }),
 (209, { n := 1, g := false, by' := 8, ok := true, z := .un, k := 6 }),
 (210, { n := 1, g := false, by' := 8, ok := true, z := .un, k := 6 }),
 (212, { n := 2, g := true, by' := 32, ok := true, z := .agg [.sl (some true) 1 false [], .int .i64 0], k := 5, fs := [(0, 87), (1, 31)] }),
 (216, { n := 1, g := false, by' := 8, ok := true, z := .un, k := 6 }),
 (217, { n := 1, g := false, by' := 8, ok := true, z := .un, k := 6 }),
 (218, { n := 1, g := false, by' := 8, ok := true, z := .un, k := 6 }),
 (219, { n := 1, g := false, by' := 8, ok := true, z := .un, k := 6 }),
 (220, { n := 1, g := false, by' := 8, ok := true, z := .un, k := 6 }),
 (223, { n := 2, g := true, by' := 16, ok := true, z := .agg [.int .i64 0, .int .i64 0], k := 5, fs := [(0, 3), (1, 3)], cmp := true, ck := [0, 0] }),
 (227, { n := 1, g := false, by' := 24, ok := true, z := .sl (some true) 2 true [], k := 3, el := 223 }),
 (228, { n := 1, g := false, by' := 8, ok := true, z := .un, k := 6 }),
 (229, { n := 1, g := false, by' := 8, ok := true, z := .un, k := 6 }),
 (230, { n := 1, g := false, by' := 8, ok := true, z := .un, k := 6 }),
 (231, { n := 1, g := false, by' := 8, ok := true, z := .un, k := 6 }),
 (233, { n := 1, g := false, by' := 8, ok := true, z := .un, k := 6 }),
 (234, { n := 1, g := false, by' := 8, ok := true, z := .un, k := 6 }),
 (236, { n := 1, g := true, by' := 24, ok := true, z := .agg [.sl (some true) 4 true []], k := 5, fs := [(0, 88)] }),
 (239, { n := 1, g := false, by' := 8, ok := true, z := .un, k := 6 }),
 (240, { n := 1, g := false, by' := 8, ok := true, z := .un, k := 6 }),
 (241, { n := 1, g := false, by' := 8, ok := true, z := .un, k := 6 }),
 (243, { n := 1, g := false, by' := 8, ok := true, z := .un, k := 6 }),
 (244, { n := 1, g := false, by' := 8, ok := true, z := .un, k := 6 }),
 (246, { n := 1, g := false, by' := 8, ok := true, z := .un, k := 6 }),
 (247, { n := 1, g := false, by' := 8, ok := true, z := .un, k := 6 }),
 (249, { n := 1, g := false, by' := 8, ok := true, z := .un, k := 6 }),
 (250, { n := 1, g := false, by' := 8, ok := true, z := .un, k := 6 }),
 (251, { n := 1, g := false, by' := 8, ok := true, z := .un, k := 6 }),
 (260, { n := 1, g := false, by' := 8, ok := true, z := .un, k := 6 }),
 (261, { n := 1, g := false, by' := 8, ok := true, z := .un, k := 6 }),
 (264, { n := 1, g := false, by' := 8, ok := true, z := .un, k := 6 }),
 (265, { n := 1, g := false, by' := 8, ok := true, z := .un, k := 6 }),
 (267, { n := 34, g := true, by' := 48, ok := true, z := .agg [.int .u8 0, .int .u8 0, .int .u8 0, .int .u8 0, .int .u8 0, .int .u8 0, .int .u8 0, .int .u8 0, .int .u8 0, .int .u8 0, .int .u8 0, .int .u8 0, .int .u8 0, .int .u8 0, .int .u8 0, .int .u8 0, .int .u8 0, .int .u8 0, .int .u8 0, .int .u8 0, .int .u8 0, .int .u8 0, .int .u8 0, .int .u8 0, .int .u8 0, .int .u8 0, .int .u8 0, .int .u8 0, .int .u8 0, .int .u8 0, .int .u8 0, .int .u8 0, .int .i64 0, .bool false], k := 5, fs := [(0, 145), (33, 4)], cmp := true, ck := [0, 0, 0, 0, 0, 0, 0, 0, 0, 0, 0, 0, 0, 0, 0, 0, 0, 0, 0, 0, 0, 0, 0, 0, 0, 0, 0, 0, 0, 0, 0, 0, 0, 1] }),
 (275, { n := 1, g := false, by' := 8, ok := true, z := .un, k := 6 }),
 (276, { n := 1, g := false, by' := 8, ok := true, z := .un, k := 6 }),
 (277, { n := 1, g := false, by' := 8, ok := true, z := .un, k := 6 }),
 (280, { n := 12, g := true, by' := 96, ok := true, z := .agg [.int .u64 0, .int .u64 0, .int .u64 0, .int .u64 0, .int .u64 0, .int .u64 0, .int .u64 0, .int .u64 0, .int .u64 0, .int .u64 0, .int .u64 0, .int .u64 0], k := 4, el := 188, len := 12, cmp := true, ck := [0, 0, 0, 0, 0, 0, 0, 0, 0, 0, 0, 0] }),
 (283, { n := 8, g := true, by' := 32, ok := true, z := .agg [.int .u32 0, .int .u32 0, .int .u32 0, .int .u32 0, .int .u32 0, .int .u32 0, .int .u32 0, .int .u32 0], k := 4, el := 113, len := 8, cmp := true, ck := [0, 0, 0, 0, 0, 0, 0, 0] }),
 (285, { n := 1, g := false, by' := 24, ok := true, z := .sl (some true) 1 false [], k := 3, el := 113 }),
 (287, { n := 1, g := true, by' := 24, ok := true, z := .agg [.sl (some true) 1 false []], k := 5, fs := [(0, 285)] }),
 (289, { n := 1, g := false, by' := 8, ok := true, z := .un, k := 6 }),
 (295, { n := 1, g := false, by' := 16, ok := true, z := .un, k := 8 }),
 (296, { n := 1, g := false, by' := 8, ok := true, z := .un, k := 6 }),
 (297, { n := 1, g := false, by' := 24, ok := true, z := .sl (some true) 1 false [], k := 3, el := 87 }),
 (309, { n := 64, g := true, by' := 64, ok := true, z := .agg [.int .u8 0, .int .u8 0, .int .u8 0, .int .u8 0, .int .u8 0, .int .u8 0, .int .u8 0, .int .u8 0, .int .u8 0, .int .u8 0, .int .u8 0, .int .u8 0, .int .u8 0, .int .u8 0, .int .u8 0, .int .u8 0, .int .u8 0, .int .u8 0, .int .u8 0, .int .u8 0, .int .u8 0, .int .u8 0, .int .u8 0, .int .u8 0, .int .u8 0, .int .u8 0, .int .u8 0, .int .u8 0, .int .u8 0, .int .u8 0, .int .u8 0, .int .u8 0, .int .u8 0, .int .u8 0, .int .u8 0, .int .u8 0, .int .u8 0, .int .u8 0, .int .u8 0, .int .u8 0, .int .u8 0, .int .u8 0, .int .u8 0, .int .u8 0, .int .u8 0, .int .u8 0, .int .u8 0, .int .u8 0, .int .u8 0, .int .u8 0, .int .u8 0, .int .u8 0, .int .u8 0, .int .u8 0, .int .u8 0, .int .u8 0, .int .u8 0, .int .u8 0, .int .u8 0, .int .u8 0, .int .u8 0, .int .u8 0, .int .u8 0, .int .u8 0], k := 4, el := 5, len := 64, cmp := true, ck := [0, 0, 0, 0, 0, 0, 0, 0, 0, 0, 0, 0, 0, 0, 0, 0, 0, 0, 0, 0, 0, 0, 0, 0, 0, 0, 0, 0, 0, 0, 0, 0, 0, 0, 0, 0, 0, 0, 0, 0, 0, 0, 0, 0, 0, 0, 0, 0, 0, 0, 0, 0, 0, 0, 0, 0, 0, 0, 0, 0, 0, 0, 0, 0] }),
 (311, { n := 64, g := true, by' := 256, ok := true, z := .agg [.int .u32 0, .int .u32 0, .int .u32 0, .int .u32 0, .int .u32 0, .int .u32 0, .int .u32 0, .int .u32 0, .int .u32 0, .int .u32 0, .int .u32 0, .int .u32 0, .int .u32 0, .int .u32 0, .int .u32 0, .int .u32 0, .int .u32 0, .int .u32 0, .int .u32 0, .int .u32 0, .int .u32 0, .int .u32 0, .int .u32 0, .int .u32 0, .int .u32 0, .int .u32 0, .int .u32 0, .int .u32 0, .int .u32 0, .int .u32 0, .int .u32 0, .int .u32 0, .int .u32 0, .int .u32 0, .int .u32 0, .int .u32 0, .int .u32 0, .int .u32 0, .int .u32 0, .int .u32 0, .int .u32 0, .int .u32 0, .int .u32 0, .int .u32 0, .int .u32 0, .int .u32 0, .int .u32 0, .int .u32 0, .int .u32 0, .int .u32 0, .int .u32 0, .int .u32 0, .int .u32 0, .int .u32 0, .int .u32 0, .int .u32 0, .int .u32 0, .int .u32 0, .int .u32 0, .int .u32 0, .int .u32 0, .int .u32 0, .int .u32 0, .int .u32 0], k := 4, el := 113, len := 64, cmp := true, ck := [0, 0, 0, 0, 0, 0, 0, 0, 0, 0, 0, 0, 0, 0, 0, 0, 0, 0, 0, 0, 0, 0, 0, 0, 0, 0, 0, 0, 0, 0, 0, 0, 0, 0, 0, 0, 0, 0, 0, 0, 0, 0, 0, 0, 0, 0, 0, 0, 0, 0, 0, 0, 0, 0, 0, 0, 0, 0, 0, 0, 0, 0, 0, 0] }),
 (330, { n := 1, g := false, by' := 8, ok := true, z := .un, k := 6 }),
 (331, { n := 1, g := false, by' := 8, ok := true, z := .un, k := 6 })]
noncomputable def En : Env := { P := Tryz.prog, tb := tbOf tbl, gv := fun g => if g = 0 then some (.pp 12 true (.agg (kg_0.map (V.int .u64)))) else if g = 1 then some (.pp 8 true (.agg [.int .u32 1779033703, .int .u32 3144134277, .int .u32 1013904242, .int .u32 2773480762, .int .u32 1359893119, .int .u32 2600822924, .int .u32 528734635, .int .u32 1541459225])) else if g = 4 then some (.pp 64 true (.agg (kg_4.map (V.int .u8)))) else if g = 5 then some (.pp 64 true (.agg (kg_5.map (V.int .u32)))) else none }
@[go_sem] theorem gv0 : En.gv 0 = some (.pp 12 true (.agg (kg_0.map (V.int .u64)))) := Eq.trans rfl rfl
@[go_sem] theorem gv1 : En.gv 1 = some (.pp 8 true (.agg [.int .u32 1779033703, .int .u32 3144134277, .int .u32 1013904242, .int .u32 2773480762, .int .u32 1359893119, .int .u32 2600822924, .int .u32 528734635, .int .u32 1541459225])) := Eq.trans rfl rfl
@[go_sem] theorem gv4 : En.gv 4 = some (.pp 64 true (.agg (kg_4.map (V.int .u8)))) := Eq.trans rfl rfl
@[go_sem] theorem gv5 : En.gv 5 = some (.pp 64 true (.agg (kg_5.map (V.int .u32)))) := Eq.trans rfl rfl
set_option maxRecDepth 100000
theorem tbl_ok : tablesB Tryz.prog tbl = true := by kernel_rfl
theorem En_ok : EnvOk En := ⟨fun _ h => tOk (l := tbl) tbl_ok h⟩
theorem En_mo : En.P.follows .mixedOrders = true := by kernel_rfl
@[go_sem] theorem tb1 : En.tb 1 = { n := 1, g := false, by' := 8, ok := true, z := .un, k := 6 } := rfl
@[go_sem] theorem tb2 : En.tb 2 = { n := 1, g := false, by' := 8, ok := true, z := .int .i64 0, k := 0, ik := .i64 } := rfl
@[go_sem] theorem tb3 : En.tb 3 = { n := 1, g := false, by' := 8, ok := true, z := .int .i64 0, k := 0, ik := .i64 } := rfl
@[go_sem] theorem tb4 : En.tb 4 = { n := 1, g := false, by' := 1, ok := true, z := .bool false, k := 1 } := rfl
@[go_sem] theorem tb5 : En.tb 5 = { n := 1, g := false, by' := 1, ok := true, z := .int .u8 0, k := 0, ik := .u8 } := rfl
@[go_sem] theorem tb9 : En.tb 9 = { n := 1, g := false, by' := 16, ok := true, z := .str [], k := 2 } := rfl
@[go_sem] theorem tb12 : En.tb 12 = { n := 1, g := false, by' := 8, ok := true, z := .int .u64 0, k := 0, ik := .u64 } := rfl
@[go_sem] theorem tb15 : En.tb 15 = { n := 1, g := false, by' := 8, ok := true, z := .un, k := 6 } := rfl
@[go_sem] theorem tb16 : En.tb 16 = { n := 1, g := false, by' := 8, ok := true, z := .un, k := 6 } := rfl
@[go_sem] theorem tb17 : En.tb 17 = { n := 1, g := false, by' := 8, ok := true, z := .un, k := 6 } := rfl
@[go_sem] theorem tb20 : En.tb 20 = { n := 1, g := false, by' := 16, ok := true, z := .un, k := 8 } := rfl
@[go_sem] theorem tb21 : En.tb 21 = { n := 1, g := false, by' := 4, ok := true, z := .int .i32 0, k := 0, ik := .i32 } := rfl
@[go_sem] theorem tb23 : En.tb 23 = { n := 3, g := true, by' := 24, ok := true, z := .agg [.int .i64 0, .int .i64 0, .int .i64 0], k := 5, fs := [(0, 3), (1, 3), (2, 3)], cmp := true, ck := [0, 0, 0] } := rfl
@[go_sem] theorem tb25 : En.tb 25 = { n := 6, g := true, by' := 48, ok := true, z := .agg [.int .i64 0, .int .i64 0, .int .i64 0, .int .i64 0, .int .i64 0, .int .i64 0], k := 5, fs := [(0, 23), (3, 3), (4, 3), (5, 3)], cmp := true, ck := [0, 0, 0, 0, 0, 0] } := rfl
@[go_sem] theorem tb26 : En.tb 26 = { n := 1, g := false, by' := 24, ok := true, z := .sl (some true) 2 true [], k := 3, el := 57 } := rfl
@[go_sem] theorem tb28 : En.tb 28 = { n := 3, g := true, by' := 40, ok := true, z := .agg [.int .i64 0, .int .i64 0, .sl (some true) 2 true []], k := 5, fs := [(0, 3), (1, 3), (2, 26)] } := rfl
@[go_sem] theorem tb29 : En.tb 29 = { n := 1, g := false, by' := 24, ok := true, z := .sl (some true) 1 false [], k := 3, el := 3 } := rfl
@[go_sem] theorem tb30 : En.tb 30 = { n := 1, g := false, by' := 8, ok := true, z := .un, k := 6 } := rfl
@[go_sem] theorem tb31 : En.tb 31 = { n := 1, g := false, by' := 8, ok := true, z := .int .i64 0, k := 0, ik := .i64 } := rfl
@[go_sem] theorem tb33 : En.tb 33 = { n := 1, g := false, by' := 8, ok := true, z := .un, k := 6 } := rfl
@[go_sem] theorem tb35 : En.tb 35 = { n := 1, g := false, by' := 8, ok := true, z := .un, k := 6 } := rfl
@[go_sem] theorem tb36 : En.tb 36 = { n := 1, g := false, by' := 24, ok := true, z := .sl (some true) 32 true [], k := 3, el := 40 } := rfl
@[go_sem] theorem tb38 : En.tb 38 = { n := 1, g := false, by' := 8, ok := true, z := .un, k := 6 } := rfl
@[go_sem] theorem tb39 : En.tb 39 = { n := 32, g := true, by' := 32, ok := true, z := .agg [.int .u8 0, .int .u8 0, .int .u8 0, .int .u8 0, .int .u8 0, .int .u8 0, .int .u8 0, .int .u8 0, .int .u8 0, .int .u8 0, .int .u8 0, .int .u8 0, .int .u8 0, .int .u8 0, .int .u8 0, .int .u8 0, .int .u8 0, .int .u8 0, .int .u8 0, .int .u8 0, .int .u8 0, .int .u8 0, .int .u8 0, .int .u8 0, .int .u8 0, .int .u8 0, .int .u8 0, .int .u8 0, .int .u8 0, .int .u8 0, .int .u8 0, .int .u8 0], k := 4, el := 5, len := 32, cmp := true, ck := [0, 0, 0, 0, 0, 0, 0, 0, 0, 0, 0, 0, 0, 0, 0, 0, 0, 0, 0, 0, 0, 0, 0, 0, 0, 0, 0, 0, 0, 0, 0, 0] } := rfl
@[go_sem] theorem tb40 : En.tb 40 = { n := 32, g := true, by' := 32, ok := true, z := .agg [.int .u8 0, .int .u8 0, .int .u8 0, .int .u8 0, .int .u8 0, .int .u8 0, .int .u8 0, .int .u8 0, .int .u8 0, .int .u8 0, .int .u8 0, .int .u8 0, .int .u8 0, .int .u8 0, .int .u8 0, .int .u8 0, .int .u8 0, .int .u8 0, .int .u8 0, .int .u8 0, .int .u8 0, .int .u8 0, .int .u8 0, .int .u8 0, .int .u8 0, .int .u8 0, .int .u8 0, .int .u8 0, .int .u8 0, .int .u8 0, .int .u8 0, .int .u8 0], k := 4, el := 5, len := 32, cmp := true, ck := [0, 0, 0, 0, 0, 0, 0, 0, 0, 0, 0, 0, 0, 0, 0, 0, 0, 0, 0, 0, 0, 0, 0, 0, 0, 0, 0, 0, 0, 0, 0, 0] } := rfl
@[go_sem] theorem tb42 : En.tb 42 = { n := 1, g := false, by' := 8, ok := true, z := .un, k := 6 } := rfl
@[go_sem] theorem tb43 : En.tb 43 = { n := 1, g := false, by' := 8, ok := true, z := .un, k := 6 } := rfl
@[go_sem] theorem tb44 : En.tb 44 = { n := 1, g := false, by' := 8, ok := true, z := .un, k := 6 } := rfl
@[go_sem] theorem tb45 : En.tb 45 = { n := 1, g := false, by' := 8, ok := true, z := .un, k := 6 } := rfl
@[go_sem] theorem tb46 : En.tb 46 = { n := 1, g := false, by' := 8, ok := true, z := .un, k := 6 } := rfl
@[go_sem] theorem tb47 : En.tb 47 = { n := 1, g := false, by' := 8, ok := true, z := .un, k := 6 } := rfl
@[go_sem] theorem tb48 : En.tb 48 = { n := 1, g := false, by' := 8, ok := true, z := .un, k := 6 } := rfl
@[go_sem] theorem tb49 : En.tb 49 = { n := 1, g := false, by' := 8, ok := true, z := .un, k := 6 } := rfl
@[go_sem] theorem tb50 : En.tb 50 = { n := 1, g := false, by' := 8, ok := true, z := .un, k := 6 } := rfl
@[go_sem] theorem tb51 : En.tb 51 = { n := 1, g := false, by' := 8, ok := true, z := .un, k := 6 } := rfl
@[go_sem] theorem tb52 : En.tb 52 = { n := 1, g := false, by' := 8, ok := true, z := .un, k := 6 } := rfl
@[go_sem] theorem tb53 : En.tb 53 = { n := 1, g := false, by' := 8, ok := true, z := .un, k := 6 } := rfl
@[go_sem] theorem tb54 : En.tb 54 = { n := 1, g := false, by' := 8, ok := true, z := .un, k := 6 } := rfl
@[go_sem] theorem tb55 : En.tb 55 = { n := 1, g := false, by' := 8, ok := true, z := .un, k := 6 } := rfl
@[go_sem] theorem tb56 : En.tb 56 = { n := 1, g := false, by' := 8, ok := true, z := .un, k := 6 } := rfl
@[go_sem] theorem tb57 : En.tb 57 = { n := 2, g := true, by' := 16, ok := true, z := .agg [.int .i64 0, .int .i64 0], k := 4, el := 3, len := 2, cmp := true, ck := [0, 0] } := rfl
@[go_sem] theorem tb58 : En.tb 58 = { n := 1, g := false, by' := 8, ok := true, z := .un, k := 6 } := rfl
@[go_sem] theorem tb60 : En.tb 60 = { n := 2, g := true, by' := 32, ok := true, z := .agg [.int .i64 0, .sl (some true) 32 true []], k := 5, fs := [(0, 3), (1, 36)] } := rfl
@[go_sem] theorem tb62 : En.tb 62 = { n := 1, g := false, by' := 8, ok := true, z := .un, k := 6 } := rfl
@[go_sem] theorem tb63 : En.tb 63 = { n := 1, g := false, by' := 8, ok := true, z := .un, k := 6 } := rfl
@[go_sem] theorem tb64 : En.tb 64 = { n := 1, g := false, by' := 8, ok := true, z := .un, k := 6 } := rfl
@[go_sem] theorem tb65 : En.tb 65 = { n := 1, g := false, by' := 8, ok := true, z := .un, k := 6 } := rfl
@[go_sem] theorem tb66 : En.tb 66 = { n := 1, g := false, by' := 8, ok := true, z := .un, k := 6 } := rfl
@[go_sem] theorem tb68 : En.tb 68 = { n := 3, g := true, by' := 24, ok := true, z := .agg [.int .i64 0, .int .i64 0, .int .i64 0], k := 5, fs := [(0, 3), (1, 3), (2, 3)], cmp := true, ck := [0, 0, 0] } := rfl
@[go_sem] theorem tb70 : En.tb 70 = { n := 11, g := true, by' := 88, ok := true, z := .agg [.int .i64 0, .int .i64 0, .int .i64 0, .int .i64 0, .int .i64 0, .int .i64 0, .int .i64 0, .int .i64 0, .int .i64 0, .int .i64 0, .int .i64 0], k := 5, fs := [(0, 3), (1, 3), (2, 3), (3, 3), (4, 3), (5, 68), (8, 3), (9, 3), (10, 3)], cmp := true, ck := [0, 0, 0, 0, 0, 0, 0, 0, 0, 0, 0] } := rfl
@[go_sem] theorem tb72 : En.tb 72 = { n := 3, g := true, by' := 24, ok := true, z := .agg [.int .i64 0, .int .i64 0, .int .i64 0], k := 5, fs := [(0, 3), (1, 3), (2, 3)], cmp := true, ck := [0, 0, 0] } := rfl
@[go_sem] theorem tb74 : En.tb 74 = { n := 6, g := true, by' := 48, ok := true, z := .agg [.int .i64 0, .int .i64 0, .int .i64 0, .int .i64 0, .int .i64 0, .int .i64 0], k := 5, fs := [(0, 3), (1, 3), (2, 3), (3, 3), (4, 3), (5, 3)], cmp := true, ck := [0, 0, 0, 0, 0, 0] } := rfl
@[go_sem] theorem tb76 : En.tb 76 = { n := 4, g := true, by' := 32, ok := true, z := .agg [.int .i64 0, .int .i64 0, .int .i64 0, .int .i64 0], k := 5, fs := [(0, 3), (1, 3), (2, 3), (3, 3)], cmp := true, ck := [0, 0, 0, 0] } := rfl
@[go_sem] theorem tb78 : En.tb 78 = { n := 41, g := true, by' := 104, ok := true, z := .agg [.int .i64 0, .int .i64 0, .int .i64 0, .int .i64 0, .int .i64 0, .int .u8 0, .int .u8 0, .int .u8 0, .int .u8 0, .int .u8 0, .int .u8 0, .int .u8 0, .int .u8 0, .int .u8 0, .int .u8 0, .int .u8 0, .int .u8 0, .int .u8 0, .int .u8 0, .int .u8 0, .int .u8 0, .int .u8 0, .int .u8 0, .int .u8 0, .int .u8 0, .int .u8 0, .int .u8 0, .int .u8 0, .int .u8 0, .int .u8 0, .int .u8 0, .int .u8 0, .int .u8 0, .int .u8 0, .int .u8 0, .int .u8 0, .int .u8 0, .int .i64 0, .int .i64 0, .int .i64 0, .int .i64 0], k := 5, fs := [(0, 3), (1, 3), (2, 3), (3, 3), (4, 3), (5, 40), (37, 76)], cmp := true, ck := [0, 0, 0, 0, 0, 0, 0, 0, 0, 0, 0, 0, 0, 0, 0, 0, 0, 0, 0, 0, 0, 0, 0, 0, 0, 0, 0, 0, 0, 0, 0, 0, 0, 0, 0, 0, 0, 0, 0, 0, 0] } := rfl
@[go_sem] theorem tb80 : En.tb 80 = { n := 59, g := true, by' := 264, ok := true, z := .agg [.int .i64 0, .int .i64 0, .int .i64 0, .int .i64 0, .int .i64 0, .int .i64 0, .int .i64 0, .int .i64 0, .sl (some true) 2 true [], .int .i64 0, .int .i64 0, .int .i64 0, .int .i64 0, .int .i64 0, .int .i64 0, .int .i64 0, .int .i64 0, .int .i64 0, .int .i64 0, .int .i64 0, .int .i64 0, .int .i64 0, .int .i64 0, .int .u8 0, .int .u8 0, .int .u8 0, .int .u8 0, .int .u8 0, .int .u8 0, .int .u8 0, .int .u8 0, .int .u8 0, .int .u8 0, .int .u8 0, .int .u8 0, .int .u8 0, .int .u8 0, .int .u8 0, .int .u8 0, .int .u8 0, .int .u8 0, .int .u8 0, .int .u8 0, .int .u8 0, .int .u8 0, .int .u8 0, .int .u8 0, .int .u8 0, .int .u8 0, .int .u8 0, .int .u8 0, .int .u8 0, .int .u8 0, .int .u8 0, .int .u8 0, .int .i64 0, .int .i64 0, .int .i64 0, .int .i64 0], k := 5, fs := [(0, 3), (1, 3), (2, 3), (3, 3), (4, 3), (5, 3), (6, 28), (9, 72), (12, 74), (18, 78)] } := rfl
@[go_sem] theorem tb82 : En.tb 82 = { n := 21, g := true, by' := 168, ok := true, z := .agg [.int .i64 0, .int .i64 0, .int .i64 0, .int .i64 0, .int .i64 0, .int .i64 0, .int .i64 0, .int .i64 0, .int .i64 0, .int .i64 0, .int .i64 0, .int .i64 0, .int .i64 0, .int .i64 0, .int .i64 0, .int .i64 0, .int .i64 0, .int .i64 0, .int .i64 0, .int .i64 0, .int .i64 0], k := 5, fs := [(0, 3), (1, 3), (2, 3), (3, 70), (14, 3), (15, 74)], cmp := true, ck := [0, 0, 0, 0, 0, 0, 0, 0, 0, 0, 0, 0, 0, 0, 0, 0, 0, 0, 0, 0, 0] } := rfl
@[go_sem] theorem tb83 : En.tb 83 = { n := 1, g := false, by' := 8, ok := true, z := .un, k := 6 } := rfl
@[go_sem] theorem tb84 : En.tb 84 = { n := 1, g := false, by' := 8, ok := true, z := .un, k := 6 } := rfl
@[go_sem] theorem tb85 : En.tb 85 = { n := 1, g := false, by' := 8, ok := true, z := .un, k := 6 } := rfl
@[go_sem] theorem tb86 : En.tb 86 = { n := 1, g := false, by' := 8, ok := true, z := .un, k := 6 } := rfl
@[go_sem] theorem tb87 : En.tb 87 = { n := 1, g := false, by' := 24, ok := true, z := .sl (some true) 1 false [], k := 3, el := 5 } := rfl
@[go_sem] theorem tb88 : En.tb 88 = { n := 1, g := false, by' := 24, ok := true, z := .sl (some true) 4 true [], k := 3, el := 90 } := rfl
@[go_sem] theorem tb90 : En.tb 90 = { n := 4, g := true, by' := 64, ok := true, z := .agg [.int .i64 0, .int .i64 0, .sl (some true) 1 false [], .sl (some true) 4 true []], k := 5, fs := [(0, 3), (1, 3), (2, 87), (3, 88)] } := rfl
@[go_sem] theorem tb91 : En.tb 91 = { n := 1, g := false, by' := 8, ok := true, z := .un, k := 6 } := rfl
@[go_sem] theorem tb93 : En.tb 93 = { n := 1, g := false, by' := 8, ok := true, z := .un, k := 6 } := rfl
@[go_sem] theorem tb95 : En.tb 95 = { n := 1, g := false, by' := 8, ok := true, z := .un, k := 6 } := rfl
@[go_sem] theorem tb96 : En.tb 96 = { n := 1, g := false, by' := 8, ok := true, z := .un, k := 6 } := rfl
@[go_sem] theorem tb97 : En.tb 97 = { n := 1, g := false, by' := 8, ok := true, z := .un, k := 6 } := rfl
@[go_sem] theorem tb98 : En.tb 98 = { n := 1, g := false, by' := 8, ok := true, z := .un, k := 6 } := rfl
@[go_sem] theorem tb99 : En.tb 99 = { n := 1, g := false, by' := 8, ok := true, z := .un, k := 6 } := rfl
@[go_sem] theorem tb101 : En.tb 101 = { n := 1, g := false, by' := 8, ok := true, z := .un, k := 6 } := rfl
@[go_sem] theorem tb103 : En.tb 103 = { n := 1, g := false, by' := 8, ok := true, z := .un, k := 6 } := rfl
@[go_sem] theorem tb104 : En.tb 104 = { n := 1, g := false, by' := 8, ok := true, z := .un, k := 6 } := rfl
@[go_sem] theorem tb105 : En.tb 105 = { n := 1, g := false, by' := 8, ok := true, z := .un, k := 6 } := rfl
@[go_sem] theorem tb106 : En.tb 106 = { n := 1, g := false, by' := 8, ok := true, z := .un, k := 6 } := rfl
@[go_sem] theorem tb107 : En.tb 107 = { n := 1, g := false, by' := 8, ok := true, z := .un, k := 6 } := rfl
@[go_sem] theorem tb109 : En.tb 109 = { n := 1, g := false, by' := 8, ok := true, z := .un, k := 6 } := rfl
@[go_sem] theorem tb111 : En.tb 111 = { n := 1, g := false, by' := 8, ok := true, z := .un, k := 6 } := rfl
@[go_sem] theorem tb112 : En.tb 112 = { n := 1, g := false, by' := 8, ok := true, z := .un, k := 6 } := rfl
@[go_sem] theorem tb113 : En.tb 113 = { n := 1, g := false, by' := 4, ok := true, z := .int .u32 0, k := 0, ik := .u32 } := rfl
@[go_sem] theorem tb114 : En.tb 114 = { n := 1, g := false, by' := 8, ok := true, z := .un, k := 6 } := rfl
@[go_sem] theorem tb115 : En.tb 115 = { n := 1, g := false, by' := 8, ok := true, z := .un, k := 6 } := rfl
@[go_sem] theorem tb116 : En.tb 116 = { n := 1, g := false, by' := 8, ok := true, z := .un, k := 6 } := rfl
@[go_sem] theorem tb117 : En.tb 117 = { n := 1, g := false, by' := 8, ok := true, z := .un, k := 6 } := rfl
@[go_sem] theorem tb118 : En.tb 118 = { n := 1, g := false, by' := 8, ok := true, z := .un, k := 6 } := rfl
@[go_sem] theorem tb120 : En.tb 120 = { n := 1, g := false, by' := 8, ok := true, z := .un, k := 6 } := rfl
@[go_sem] theorem tb121 : En.tb 121 = { n := 1, g := false, by' := 8, ok := true, z := .un, k := 6 } := rfl
@[go_sem] theorem tb122 : En.tb 122 = { n := 1, g := false, by' := 8, ok := true, z := .un, k := 6 } := rfl
@[go_sem] theorem tb123 : En.tb 123 = { n := 1, g := false, by' := 8, ok := true, z := .un, k := 6 } := rfl
@[go_sem] theorem tb124 : En.tb 124 = { n := 1, g := false, by' := 8, ok := true, z := .un, k := 6 } := rfl
@[go_sem] theorem tb125 : En.tb 125 = { n := 1, g := false, by' := 8, ok := true, z := .un, k := 6 } := rfl
@[go_sem] theorem tb126 : En.tb 126 = { n := 1, g := false, by' := 8, ok := true, z := .un, k := 6 } := rfl
@[go_sem] theorem tb127 : En.tb 127 = { n := 1, g := false, by' := 8, ok := true, z := .un, k := 6 } := rfl
@[go_sem] theorem tb128 : En.tb 128 = { n := 1, g := false, by' := 8, ok := true, z := .un, k := 6 } := rfl
@[go_sem] theorem tb129 : En.tb 129 = { n := 1, g := false, by' := 8, ok := true, z := .un, k := 6 } := rfl
@[go_sem] theorem tb130 : En.tb 130 = { n := 1, g := false, by' := 8, ok := true, z := .un, k := 6 } := rfl
@[go_sem] theorem tb131 : En.tb 131 = { n := 1, g := false, by' := 8, ok := true, z := .un, k := 6 } := rfl
@[go_sem] theorem tb132 : En.tb 132 = { n := 1, g := false, by' := 8, ok := true, z := .un, k := 6 } := rfl
@[go_sem] theorem tb133 : En.tb 133 = { n := 1, g := false, by' := 8, ok := true, z := .un, k := 6 } := rfl
@[go_sem] theorem tb134 : En.tb 134 = { n := 1, g := false, by' := 8, ok := true, z := .un, k := 6 } := rfl
@[go_sem] theorem tb135 : En.tb 135 = { n := 1, g := false, by' := 8, ok := true, z := .un, k := 6 } := rfl
@[go_sem] theorem tb136 : En.tb 136 = { n := 1, g := false, by' := 24, ok := true, z := .sl (some true) 1 false [], k := 3, el := 36 } := rfl
@[go_sem] theorem tb138 : En.tb 138 = { n := 1, g := false, by' := 8, ok := true, z := .un, k := 6 } := rfl
@[go_sem] theorem tb139 : En.tb 139 = { n := 1, g := false, by' := 8, ok := true, z := .un, k := 6 } := rfl
@[go_sem] theorem tb140 : En.tb 140 = { n := 1, g := false, by' := 8, ok := true, z := .un, k := 6 } := rfl
@[go_sem] theorem tb141 : En.tb 141 = { n := 1, g := false, by' := 8, ok := true, z := .un, k := 6 } := rfl
@[go_sem] theorem tb142 : En.tb 142 = { n := 1, g := false, by' := 8, ok := true, z := .un, k := 6 } := rfl
@[go_sem] theorem tb143 : En.tb 143 = { n := 1, g := false, by' := 8, ok := true, z := .int .u64 0, k := 0, ik := .u64 } := rfl
@[go_sem] theorem tb145 : En.tb 145 = { n := 33, g := true, by' := 40, ok := true, z := .agg [.int .u8 0, .int .u8 0, .int .u8 0, .int .u8 0, .int .u8 0, .int .u8 0, .int .u8 0, .int .u8 0, .int .u8 0, .int .u8 0, .int .u8 0, .int .u8 0, .int .u8 0, .int .u8 0, .int .u8 0, .int .u8 0, .int .u8 0, .int .u8 0, .int .u8 0, .int .u8 0, .int .u8 0, .int .u8 0, .int .u8 0, .int .u8 0, .int .u8 0, .int .u8 0, .int .u8 0, .int .u8 0, .int .u8 0, .int .u8 0, .int .u8 0, .int .u8 0, .int .i64 0], k := 5, fs := [(0, 40), (32, 3)], cmp := true, ck := [0, 0, 0, 0, 0, 0, 0, 0, 0, 0, 0, 0, 0, 0, 0, 0, 0, 0, 0, 0, 0, 0, 0, 0, 0, 0, 0, 0, 0, 0, 0, 0, 0] } := rfl
@[go_sem] theorem tb147 : En.tb 147 = { n := 1, g := false, by' := 8, ok := true, z := .un, k := 6 } := rfl
@[go_sem] theorem tb149 : En.tb 149 = { n := 1, g := false, by' := 8, ok := true, z := .un, k := 6 } := rfl
@[go_sem] theorem tb150 : En.tb 150 = { n := 1, g := false, by' := 8, ok := true, z := .un, k := 6 } := rfl
@[go_sem] theorem tb152 : En.tb 152 = { n := 1, g := false, by' := 8, ok := true, z := .un, k := 6 } := rfl
@[go_sem] theorem tb154 : En.tb 154 = { n := 1, g := false, by' := 8, ok := true, z := .un, k := 6 } := rfl
@[go_sem] theorem tb155 : En.tb 155 = { n := 1, g := false, by' := 8, ok := true, z := .un, k := 6 } := rfl
@[go_sem] theorem tb156 : En.tb 156 = { n := 1, g := false, by' := 8, ok := true, z := .un, k := 6 } := rfl
@[go_sem] theorem tb158 : En.tb 158 = { n := 1, g := false, by' := 8, ok := true, z := .un, k := 6 } := rfl
@[go_sem] theorem tb159 : En.tb 159 = { n := 1, g := false, by' := 8, ok := true, z := .un, k := 6 } := rfl
@[go_sem] theorem tb161 : En.tb 161 = { n := 1, g := false, by' := 8, ok := true, z := .un, k := 6 } := rfl
@[go_sem] theorem tb162 : En.tb 162 = { n := 1, g := false, by' := 8, ok := true, z := .un, k := 6 } := rfl
@[go_sem] theorem tb163 : En.tb 163 = { n := 1, g := false, by' := 8, ok := true, z := .un, k := 6 } := rfl
@[go_sem] theorem tb164 : En.tb 164 = { n := 1, g := false, by' := 8, ok := true, z := .un, k := 6 } := rfl
@[go_sem] theorem tb165 : En.tb 165 = { n := 4, g := true, by' := 96, ok := true, z := .agg [.sl (some true) 1 false [], .sl (some true) 1 false [], .sl (some true) 1 false [], .sl (some true) 1 false []], k := 4, el := 29, len := 4 } := rfl
@[go_sem] theorem tb167 : En.tb 167 = { n := 1, g := false, by' := 8, ok := true, z := .un, k := 6 } := rfl
@[go_sem] theorem tb169 : En.tb 169 = { n := 1, g := false, by' := 8, ok := true, z := .un, k := 6 } := rfl
@[go_sem] theorem tb171 : En.tb 171 = { n := 1, g := false, by' := 8, ok := true, z := .un, k := 6 } := rfl
@[go_sem] theorem tb172 : En.tb 172 = { n := 1, g := false, by' := 8, ok := true, z := .un, k := 6 } := rfl
@[go_sem] theorem tb173 : En.tb 173 = { n := 1, g := false, by' := 8, ok := true, z := .un, k := 6 } := rfl
@[go_sem] theorem tb174 : En.tb 174 = { n := 1, g := false, by' := 8, ok := true, z := .un, k := 6 } := rfl
@[go_sem] theorem tb175 : En.tb 175 = { n := 1, g := false, by' := 8, ok := true, z := .un, k := 6 } := rfl
@[go_sem] theorem tb176 : En.tb 176 = { n := 1, g := false, by' := 8, ok := true, z := .un, k := 6 } := rfl
@[go_sem] theorem tb177 : En.tb 177 = { n := 1, g := false, by' := 8, ok := true, z := .un, k := 6 } := rfl
@[go_sem] theorem tb178 : En.tb 178 = { n := 1, g := false, by' := 8, ok := true, z := .un, k := 6 } := rfl
@[go_sem] theorem tb179 : En.tb 179 = { n := 1, g := false, by' := 8, ok := true, z := .un, k := 6 } := rfl
@[go_sem] theorem tb180 : En.tb 180 = { n := 1, g := false, by' := 8, ok := true, z := .un, k := 7, el := 3, len := 4 } := rfl
@[go_sem] theorem tb181 : En.tb 181 = { n := 1, g := false, by' := 8, ok := true, z := .un, k := 6 } := rfl
@[go_sem] theorem tb182 : En.tb 182 = { n := 1, g := false, by' := 8, ok := true, z := .un, k := 6 } := rfl
@[go_sem] theorem tb183 : En.tb 183 = { n := 1, g := false, by' := 8, ok := true, z := .un, k := 6 } := rfl
@[go_sem] theorem tb184 : En.tb 184 = { n := 1, g := false, by' := 8, ok := true, z := .un, k := 6 } := rfl
@[go_sem] theorem tb185 : En.tb 185 = { n := 1, g := false, by' := 8, ok := true, z := .un, k := 6 } := rfl
@[go_sem] theorem tb186 : En.tb 186 = { n := 1, g := false, by' := 8, ok := true, z := .un, k := 6 } := rfl
@[go_sem] theorem tb187 : En.tb 187 = { n := 1, g := false, by' := 8, ok := true, z := .un, k := 6 } := rfl
@[go_sem] theorem tb188 : En.tb 188 = { n := 1, g := false, by' := 8, ok := true, z := .int .u64 0, k := 0, ik := .u64 } := rfl
@[go_sem] theorem tb189 : En.tb 189 = { n := 1, g := false, by' := 8, ok := true, z := .un, k := 6 } := rfl
@[go_sem] theorem tb190 : En.tb 190 = { n := 1, g := false, by' := 8, ok := true, z := .un, k := 6 } := rfl
@[go_sem] theorem tb191 : En.tb 191 = { n := 1, g := false, by' := 8, ok := true, z := .un, k := 6 } := rfl
@[go_sem] theorem tb192 : En.tb 192 = { n := 1, g := false, by' := 8, ok := true, z := .un, k := 6 } := rfl
@[go_sem] theorem tb195 : En.tb 195 = { n := 1, g := false, by' := 8, ok := true, z := .un, k := 6 } := rfl
@[go_sem] theorem tb196 : En.tb 196 = { n := 1, g := false, by' := 8, ok := true, z := .un, k := 6 } := rfl
@[go_sem] theorem tb197 : En.tb 197 = { n := 1, g := false, by' := 8, ok := true, z := .un, k := 6 } := rfl
@[go_sem] theorem tb198 : En.tb 198 = { n := 1, g := false, by' := 8, ok := true, z := .un, k := 6 } := rfl
@[go_sem] theorem tb200 : En.tb 200 = { n := 1, g := false, by' := 8, ok := true, z := .un, k := 6 } := rfl
@[go_sem] theorem tb203 : En.tb 203 = { n := 1, g := false, by' := 8, ok := true, z := .un, k := 6 } := rfl
@[go_sem] theorem tb204 : En.tb 204 = { n := 1, g := false, by' := 8, ok := true, z := .un, k := 6 } := rfl
@[go_sem] theorem tb205 : En.tb 205 = { n := 1, g := false, by' := 8, ok := true, z := .un, k := 6 } := rfl
@[go_sem] theorem tb207 : En.tb 207 = { n := 1, g := false, by' := 8, ok := true, z := .un, k := 6 } := rfl
@[go_sem] theorem tb209 : En.tb 209 = { n := 1, g := false, by' := 8, ok := true, z := .un, k := 6 } := rfl
@[go_sem] theorem tb210 : En.tb 210 = { n := 1, g := false, by' := 8, ok := true, z := .un, k := 6 } := rfl
@[go_sem] theorem tb212 : En.tb 212 = { n := 2, g := true, by' := 32, ok := true, z := .agg [.sl (some true) 1 false [], .int .i64 0], k := 5, fs := [(0, 87), (1, 31)] } := rfl
@[go_sem] theorem tb216 : En.tb 216 = { n := 1, g := false, by' := 8, ok := true, z := .un, k := 6 } := rfl
@[go_sem] theorem tb217 : En.tb 217 = { n := 1, g := false, by' := 8, ok := true, z := .un, k := 6 } := rfl
@[go_sem] theorem tb218 : En.tb 218 = { n := 1, g := false, by' := 8, ok := true, z := .un, k := 6 } := rfl
@[go_sem] theorem tb219 : En.tb 219 = { n := 1, g := false, by' := 8, ok := true, z := .un, k := 6 } := rfl
@[go_sem] theorem tb220 : En.tb 220 = { n := 1, g := false, by' := 8, ok := true, z := .un, k := 6 } := rfl
@[go_sem] theorem tb223 : En.tb 223 = { n := 2, g := true, by' := 16, ok := true, z := .agg [.int .i64 0, .int .i64 0], k := 5, fs := [(0, 3), (1, 3)], cmp := true, ck := [0, 0] } := rfl
@[go_sem] theorem tb227 : En.tb 227 = { n := 1, g := false, by' := 24, ok := true, z := .sl (some true) 2 true [], k := 3, el := 223 } := rfl
@[go_sem] theorem tb228 : En.tb 228 = { n := 1, g := false, by' := 8, ok := true, z := .un, k := 6 } := rfl
@[go_sem] theorem tb229 : En.tb 229 = { n := 1, g := false, by' := 8, ok := true, z := .un, k := 6 } := rfl
@[go_sem] theorem tb230 : En.tb 230 = { n := 1, g := false, by' := 8, ok := true, z := .un, k := 6 } := rfl
@[go_sem] theorem tb231 : En.tb 231 = { n := 1, g := false, by' := 8, ok := true, z := .un, k := 6 } := rfl
@[go_sem] theorem tb233 : En.tb 233 = { n := 1, g := false, by' := 8, ok := true, z := .un, k := 6 } := rfl
@[go_sem] theorem tb234 : En.tb 234 = { n := 1, g := false, by' := 8, ok := true, z := .un, k := 6 } := rfl
@[go_sem] theorem tb236 : En.tb 236 = { n := 1, g := true, by' := 24, ok := true, z := .agg [.sl (some true) 4 true []], k := 5, fs := [(0, 88)] } := rfl
@[go_sem] theorem tb239 : En.tb 239 = { n := 1, g := false, by' := 8, ok := true, z := .un, k := 6 } := rfl
@[go_sem] theorem tb240 : En.tb 240 = { n := 1, g := false, by' := 8, ok := true, z := .un, k := 6 } := rfl
@[go_sem] theorem tb241 : En.tb 241 = { n := 1, g := false, by' := 8, ok := true, z := .un, k := 6 } := rfl
@[go_sem] theorem tb243 : En.tb 243 = { n := 1, g := false, by' := 8, ok := true, z := .un, k := 6 } := rfl
@[go_sem] theorem tb244 : En.tb 244 = { n := 1, g := false, by' := 8, ok := true, z := .un, k := 6 } := rfl
@[go_sem] theorem tb246 : En.tb 246 = { n := 1, g := false, by' := 8, ok := true, z := .un, k := 6 } := rfl
@[go_sem] theorem tb247 : En.tb 247 = { n := 1, g := false, by' := 8, ok := true, z := .un, k := 6 } := rfl
@[go_sem] theorem tb249 : En.tb 249 = { n := 1, g := false, by' := 8, ok := true, z := .un, k := 6 } := rfl
@[go_sem] theorem tb250 : En.tb 250 = { n := 1, g := false, by' := 8, ok := true, z := .un, k := 6 } := rfl
@[go_sem] theorem tb251 : En.tb 251 = { n := 1, g := false, by' := 8, ok := true, z := .un, k := 6 } := rfl
@[go_sem] theorem tb260 : En.tb 260 = { n := 1, g := false, by' := 8, ok := true, z := .un, k := 6 } := rfl
@[go_sem] theorem tb261 : En.tb 261 = { n := 1, g := false, by' := 8, ok := true, z := .un, k := 6 } := rfl
@[go_sem] theorem tb264 : En.tb 264 = { n := 1, g := false, by' := 8, ok := true, z := .un, k := 6 } := rfl
@[go_sem] theorem tb265 : En.tb 265 = { n := 1, g := false, by' := 8, ok := true, z := .un, k := 6 } := rfl
@[go_sem] theorem tb267 : En.tb 267 = { n := 34, g := true, by' := 48, ok := true, z := .agg [.int .u8 0, .int .u8 0, .int .u8 0, .int .u8 0, .int .u8 0, .int .u8 0, .int .u8 0, .int .u8 0, .int .u8 0, .int .u8 0, .int .u8 0, .int .u8 0, .int .u8 0, .int .u8 0, .int .u8 0, .int .u8 0, .int .u8 0, .int .u8 0, .int .u8 0, .int .u8 0, .int .u8 0, .int .u8 0, .int .u8 0, .int .u8 0, .int .u8 0, .int .u8 0, .int .u8 0, .int .u8 0, .int .u8 0, .int .u8 0, .int .u8 0, .int .u8 0, .int .i64 0, .bool false], k := 5, fs := [(0, 145), (33, 4)], cmp := true, ck := [0, 0, 0, 0, 0, 0, 0, 0, 0, 0, 0, 0, 0, 0, 0, 0, 0, 0, 0, 0, 0, 0, 0, 0, 0, 0, 0, 0, 0, 0, 0, 0, 0, 1] } := rfl
@[go_sem] theorem tb275 : En.tb 275 = { n := 1, g := false, by' := 8, ok := true, z := .un, k := 6 } := rfl
@[go_sem] theorem tb276 : En.tb 276 = { n := 1, g := false, by' := 8, ok := true, z := .un, k := 6 } := rfl
@[go_sem] theorem tb277 : En.tb 277 = { n := 1, g := false, by' := 8, ok := true, z := .un, k := 6 } := rfl
@[go_sem] theorem tb280 : En.tb 280 = { n := 12, g := true, by' := 96, ok := true, z := .agg [.int .u64 0, .int .u64 0, .int .u64 0, .int .u64 0, .int .u64 0, .int .u64 0, .int .u64 0, .int .u64 0, .int .u64 0, .int .u64 0, .int .u64 0, .int .u64 0], k := 4, el := 188, len := 12, cmp := true, ck := [0, 0, 0, 0, 0, 0, 0, 0, 0, 0, 0, 0] } := rfl
@[go_sem] theorem tb283 : En.tb 283 = { n := 8, g := true, by' := 32, ok := true, z := .agg [.int .u32 0, .int .u32 0, .int .u32 0, .int .u32 0, .int .u32 0, .int .u32 0, .int .u32 0, .int .u32 0], k := 4, el := 113, len := 8, cmp := true, ck := [0, 0, 0, 0, 0, 0, 0, 0] } := rfl
@[go_sem] theorem tb285 : En.tb 285 = { n := 1, g := false, by' := 24, ok := true, z := .sl (some true) 1 false [], k := 3, el := 113 } := rfl
@[go_sem] theorem tb287 : En.tb 287 = { n := 1, g := true, by' := 24, ok := true, z := .agg [.sl (some true) 1 false []], k := 5, fs := [(0, 285)] } := rfl
@[go_sem] theorem tb289 : En.tb 289 = { n := 1, g := false, by' := 8, ok := true, z := .un, k := 6 } := rfl
@[go_sem] theorem tb295 : En.tb 295 = { n := 1, g := false, by' := 16, ok := true, z := .un, k := 8 } := rfl
@[go_sem] theorem tb296 : En.tb 296 = { n := 1, g := false, by' := 8, ok := true, z := .un, k := 6 } := rfl
@[go_sem] theorem tb297 : En.tb 297 = { n := 1, g := false, by' := 24, ok := true, z := .sl (some true) 1 false [], k := 3, el := 87 } := rfl
@[go_sem] theorem tb309 : En.tb 309 = { n := 64, g := true, by' := 64, ok := true, z := .agg [.int .u8 0, .int .u8 0, .int .u8 0, .int .u8 0, .int .u8 0, .int .u8 0, .int .u8 0, .int .u8 0, .int .u8 0, .int .u8 0, .int .u8 0, .int .u8 0, .int .u8 0, .int .u8 0, .int .u8 0, .int .u8 0, .int .u8 0, .int .u8 0, .int .u8 0, .int .u8 0, .int .u8 0, .int .u8 0, .int .u8 0, .int .u8 0, .int .u8 0, .int .u8 0, .int .u8 0, .int .u8 0, .int .u8 0, .int .u8 0, .int .u8 0, .int .u8 0, .int .u8 0, .int .u8 0, .int .u8 0, .int .u8 0, .int .u8 0, .int .u8 0, .int .u8 0, .int .u8 0, .int .u8 0, .int .u8 0, .int .u8 0, .int .u8 0, .int .u8 0, .int .u8 0, .int .u8 0, .int .u8 0, .int .u8 0, .int .u8 0, .int .u8 0, .int .u8 0, .int .u8 0, .int .u8 0, .int .u8 0, .int .u8 0, .int .u8 0, .int .u8 0, .int .u8 0, .int .u8 0, .int .u8 0, .int .u8 0, .int .u8 0, .int .u8 0], k := 4, el := 5, len := 64, cmp := true, ck := [0, 0, 0, 0, 0, 0, 0, 0, 0, 0, 0, 0, 0, 0, 0, 0, 0, 0, 0, 0, 0, 0, 0, 0, 0, 0, 0, 0, 0, 0, 0, 0, 0, 0, 0, 0, 0, 0, 0, 0, 0, 0, 0, 0, 0, 0, 0, 0, 0, 0, 0, 0, 0, 0, 0, 0, 0, 0, 0, 0, 0, 0, 0, 0] } := rfl
@[go_sem] theorem tb311 : En.tb 311 = { n := 64, g := true, by' := 256, ok := true, z := .agg [.int .u32 0, .int .u32 0, .int .u32 0, .int .u32 0, .int .u32 0, .int .u32 0, .int .u32 0, .int .u32 0, .int .u32 0, .int .u32 0, .int .u32 0, .int .u32 0, .int .u32 0, .int .u32 0, .int .u32 0, .int .u32 0, .int .u32 0, .int .u32 0, .int .u32 0, .int .u32 0, .int .u32 0, .int .u32 0, .int .u32 0, .int .u32 0, .int .u32 0, .int .u32 0, .int .u32 0, .int .u32 0, .int .u32 0, .int .u32 0, .int .u32 0, .int .u32 0, .int .u32 0, .int .u32 0, .int .u32 0, .int .u32 0, .int .u32 0, .int .u32 0, .int .u32 0, .int .u32 0, .int .u32 0, .int .u32 0, .int .u32 0, .int .u32 0, .int .u32 0, .int .u32 0, .int .u32 0, .int .u32 0, .int .u32 0, .int .u32 0, .int .u32 0, .int .u32 0, .int .u32 0, .int .u32 0, .int .u32 0, .int .u32 0, .int .u32 0, .int .u32 0, .int .u32 0, .int .u32 0, .int .u32 0, .int .u32 0, .int .u32 0, .int .u32 0], k := 4, el := 113, len := 64, cmp := true, ck := [0, 0, 0, 0, 0, 0, 0, 0, 0, 0, 0, 0, 0, 0, 0, 0, 0, 0, 0, 0, 0, 0, 0, 0, 0, 0, 0, 0, 0, 0, 0, 0, 0, 0, 0, 0, 0, 0, 0, 0, 0, 0, 0, 0, 0, 0, 0, 0, 0, 0, 0, 0, 0, 0, 0, 0, 0, 0, 0, 0, 0, 0, 0, 0] } := rfl
@[go_sem] theorem tb330 : En.tb 330 = { n := 1, g := false, by' := 8, ok := true, z := .un, k := 6 } := rfl
@[go_sem] theorem tb331 : En.tb 331 = { n := 1, g := false, by' := 8, ok := true, z := .un, k := 6 } := rfl
end Go.Proofs.YtjnikknlcmbcmaaGreatDoor
namespace Go.Proofs.YtjnikknlcmbcmaaGreatDoor
open Go.RowKit
section
variable {E : Env} {J : Cuts} {k : List Ct} {S S1 S2 : St}
theorem Weak.trans (h : Weak E S S1) (h' : Weak E S1 S2) : Weak E S S2 := by
 intro c0 c ρ F hs
 obtain ⟨c1, ρ1, e, h1⟩ := h c0 c ρ F hs
 obtain ⟨c2, ρ2, e2, h2⟩ := h' c0 c1 ρ1 F h1
 exact ⟨c2, ρ2, e2.trans e, h2⟩
theorem weak_nil (t T : Nat) {n : Nat} {g : Bool} (h : getA S.F t = some (.sl (some true) n g [])) (hg : g = false → n = 1) : Weak E S ⟨(t, .own S.nx) :: S.F, (S.nx, .own T n g (some true) []) :: S.H, S.nx + 1⟩ := by
 intro c0 c ρ F hs
 have hf : ρ S.nx = none := hs.2 _ (Nat.le_refl _)
 have hrd := hs.1.slot _ _ h
 have e : F t = .slice none 0 0 := by
  simp only [rd, zOk] at hrd
  obtain ⟨a, cap, e, _, ⟨rfl, rfl⟩, _⟩ := hrd
  exact e
 have hro : roLe ρ (fun i => if i = S.nx then some (.slice none 0 0) else ρ i) := roLe_new hf fun i hi => by simp [hi]
 have hat : (fun i => if i = S.nx then some (Value.slice none 0 0) else ρ i) S.nx = some (.slice none 0 0) := by simp
 have hoth : ∀ i, i ≠ S.nx → (fun i => if i = S.nx then some (Value.slice none 0 0) else ρ i) i = ρ i := fun i hi => by simp [hi]
 generalize (fun i => if i = S.nx then some (Value.slice none 0 0) else ρ i) = ρ' at hro hat hoth
 refine ⟨c, ρ', rfl, ⟨hs.1.since, hs.1.gl, ?_, ?_, ?_⟩, ?_⟩
 ·intro t' v ht
  simp only [getA] at ht
  split at ht
  ·rename_i e'; subst e'; cases ht
   simp only [rd]
   exact ⟨e ▸ hat, by rw [e]; rfl⟩
  ·exact rd_ro hro (hs.1.slot t' v ht)
 ·intro i b hb
  simp only [getA] at hb
  split at hb
  ·rename_i e'; subst e'; cases hb
   refine ⟨_, hat, Own.nil, fun k hk => by simp [blk] at hk, hg, none, 0, rfl, rfl, rfl⟩
  ·exact blkOk_ro hro (hs.1.heap i b hb)
 ·intro i j bi bj k hij hbi hbj hpi hpj hk hk'
  have hn : blkOf ρ' S.nx = none := by simp [blkOf, hat, blk]
  have hi : i ≠ S.nx := fun e' => by rw [e', hn] at hk; cases hk
  have hj : j ≠ S.nx := fun e' => by rw [e', hn] at hk'; cases hk'
  simp only [getA, Ne.symm hi, Ne.symm hj, if_false] at hbi hbj
  rw [blkOf_eq (hoth i hi)] at hk
  rw [blkOf_eq (hoth j hj)] at hk'
  exact hs.1.sep i j bi bj k hij hbi hbj hpi hpj hk hk'
 ·intro i hi
  have hi' : S.nx + 1 ≤ i := hi
  rw [hoth i (by omega)]
  exact hs.2 i (by omega)
theorem ct_loopW {a : Code} (I : Nat → St → Prop) (k0 : Nat) (S1 S2 : St) (hW : Weak E S S1) (hF : subF S1.F S2.nx S2.F) (hH : subH S1.H S2.nx S2.H) (h0 : I k0 S2)
  (h : ∀ n S', I n S' → cont E J (.code a :: .lp (fun S2 => ∃ n', n' < n ∧ ∃ S3, Weak E S2 S3 ∧ I n' S3) :: k) .normal S') : cont E J (.code (.loop a) :: k) .normal S :=
 ⟨I, k0, ⟨S2, hW.trans (weak_of hF hH), h0⟩, h⟩
end
def iter {α R : Type} : Nat → ((α → R) → α → R) → (α → R) → α → R
 | 0, _, d, a => d a
 | n + 1, f, d, a => f (iter n f d) a
theorem iter_opn {α R : Type} {n : Nat} {f : (α → R) → α → R} {d : α → R} {a : α} {r : R} (h : iter n f d a = r) : ∃ g e, g = f ∧ e = d ∧ iter n g e a = r := ⟨f, d, rfl, rfl, h⟩
theorem iter_step {α R : Type} {n : Nat} {f g : (α → R) → α → R} {d : α → R} {a : α} {r : R} (h : iter n f d a = r) (hn : 0 < n) (hf : f = g) : ∃ ag, ag = iter (n - 1) f d ∧ g ag a = r := by
 subst hf
 cases n with
 | zero => omega
 | succ m => exact ⟨_, rfl, h⟩
theorem iter_again {α R : Type} {n : Nat} {f : (α → R) → α → R} {d ag : α → R} {a : α} {r : R} (h : ag a = r) (e : ag = iter n f d) : iter n f d a = r := e ▸ h
def letj {α R : Type} (j : α → R) (f : (α → R) → R) : R := f j
theorem letj_opn {α R : Type} {j : α → R} {f : (α → R) → R} {r : R} (h : letj j f = r) : ∃ g, g = j ∧ f g = r := ⟨j, rfl, h⟩
theorem letj_use {α R : Type} {g j : α → R} {a : α} {r : R} (h : g a = r) (e : g = j) : j a = r := e ▸ h
theorem add_one {i : Int} (h0 : -9223372036854775808 ≤ i) (h : i + 1 ≤ 9223372036854775807) : addI .i64 i 1 = i + 1 := by
 unfold addI; rw [IntKind.wrap_i64]; omega
theorem LEN_eq : LEN = 1073741824 := rfl
theorem rng_i64 {d : Int} : Rng .i64 d = (-9223372036854775808 ≤ d ∧ d ≤ 9223372036854775807) := by simp [Rng, IntKind.min, IntKind.max, IntKind.bits, IntKind.signed]
theorem rng_u64 {d : Int} : Rng .u64 d = (0 ≤ d ∧ d ≤ 18446744073709551615) := by simp [Rng, IntKind.min, IntKind.max, IntKind.bits, IntKind.signed]
theorem rng_u8 {d : Int} : Rng .u8 d = (0 ≤ d ∧ d ≤ 255) := by simp [Rng, IntKind.min, IntKind.max, IntKind.bits, IntKind.signed]
theorem rng_u32 {d : Int} : Rng .u32 d = (0 ≤ d ∧ d ≤ 4294967295) := by simp [Rng, IntKind.min, IntKind.max, IntKind.bits, IntKind.signed]
theorem rng_i32 {d : Int} : Rng .i32 d = (-2147483648 ≤ d ∧ d ≤ 2147483647) := by simp [Rng, IntKind.min, IntKind.max, IntKind.bits, IntKind.signed]
theorem sl_len {α : Type} {l : List α} {i j : Int} : (sl l i j).length = min (j.toNat - i.toNat) (l.length - i.toNat) := by simp [sl]
theorem st_len {α : Type} {l : List α} {i : Int} {x : α} : (st l i x).length = l.length := by simp [st]
theorem elt_mp {α : Type} [Inhabited α] {l : List α} {f : α → V} {i : Int} (h : i.toNat < l.length) (d : V) : elt (l.map f) i.toNat d = f (gt l i) := by
 simp [elt, gt, List.getD, h]
theorem add_ok {a b : Int} (h0 : -9223372036854775808 ≤ a + b) (h : a + b ≤ 9223372036854775807) : addI .i64 a b = a + b := by
 unfold addI; rw [IntKind.wrap_i64]; omega
theorem sub_ok {a b : Int} (h0 : -9223372036854775808 ≤ a - b) (h : a - b ≤ 9223372036854775807) : subI .i64 a b = a - b := by
 unfold subI; rw [IntKind.wrap_i64]; omega
theorem gt_cons0 {α : Type} [Inhabited α] {a : α} {l : List α} : gt (a :: l) 0 = a := rfl
theorem gt_conss {α : Type} [Inhabited α] {a : α} {l : List α} {i : Int} (h : 0 < i) : gt (a :: l) i = gt l (i - 1) := by
 obtain ⟨n, rfl⟩ : ∃ n : Nat, i = ((n + 1 : Nat) : Int) := ⟨(i - 1).toNat, by omega⟩
 simp [gt]
theorem remI_nn {k : IntKind} {n : Nat} {b : Int} : remI k ((n : Nat) : Int) b = ((n : Nat) : Int) % b := Int.tmod_eq_emod_of_nonneg (by omega)
theorem allU8_map : ∀ {B : List Int}, allU8 (B.map (V.int .u8))
 | [] => trivial
 | _ :: B => ⟨trivial, allU8_map (B := B)⟩
@[go_sem] theorem u8s_map : ∀ {B : List Int}, (B.map (V.int .u8)).map (fun d => u8N (numV d)) = B.map u8N
 | [] => rfl
 | x :: B => by rw [List.map_cons, List.map_cons, u8s_map (B := B)]; rfl
def nat8 (a : List UInt8) : List Int := a.map fun b => (b.toNat : Int)
theorem nat8_len {a : List UInt8} : (nat8 a).length = a.length := by simp [nat8]
@[go_sem] theorem u8V_map : ∀ {a : List UInt8}, a.map u8V = (nat8 a).map (V.int .u8)
 | [] => rfl
 | x :: B => by rw [List.map_cons, u8V_map (a := B)]; rfl
def gtsN {α : Type} [Inhabited α] (f : α → V) (l : List α) : Nat → Int → List V
 | 0, _ => []
 | k + 1, i => f (gt l i) :: gtsN f l k (i + 1)
theorem eltsN_mpA {α : Type} [Inhabited α] {f : α → V} {l : List α} : ∀ {k i : Nat}, i + k ≤ l.length → eltsN (l.map f) k i = gtsN f l k i
 | 0, _, _ => rfl
 | k + 1, i, h => by
  simp only [eltsN, gtsN]
  rw [eltsN_mpA (k := k) (i := i + 1) (by omega)]
  have h2 := elt_mp (l := l) (f := f) (i := (i : Int)) (by simp; omega) .un
  simp only [Int.toNat_natCast] at h2
  rw [h2]; simp
theorem eltsN_mp {α : Type} [Inhabited α] {f : α → V} {l : List α} {k : Nat} (h : k ≤ l.length) : eltsN (l.map f) k 0 = gtsN f l k 0 := eltsN_mpA (i := 0) (by omega)
def arrF {α : Type} [Inhabited α] (l : List α) : Nat → Int → List α
 | 0, _ => []
 | k + 1, i => gt l i :: arrF l k (i + 1)
def arrN {α : Type} [Inhabited α] (n : Nat) (l : List α) : List α := arrF l n 0
theorem arrF_len {α : Type} [Inhabited α] {l : List α} : ∀ {k : Nat} {i : Int}, (arrF l k i).length = k
 | 0, _ => rfl
 | k + 1, i => by simp [arrF, arrF_len (k := k)]
theorem arrN_len {α : Type} [Inhabited α] {l : List α} {n : Nat} : (arrN n l).length = n := arrF_len
@[go_sem] theorem set_snoc {α β : Type} {l : List α} {f : α → β} {a b : β} : (l.map f ++ [a]).set l.length b = l.map f ++ [b] := by
 rw [List.set_append_right _ _ (by simp)]; simp
attribute [go_sem] gtsN arrN arrF
end Go.Proofs.YtjnikknlcmbcmaaGreatDoor
namespace Go.Proofs.YtjnikknlcmbcmaaGreatDoor
open Go.RowKit
section
variable {E : Env} {J : Cuts} {k : List Ct} {S S1 S2 : St} {c0 c : Cx} {ρ : Ro} {F : Fm}
theorem weak_pub (i : Nat) {T n : Nat} {g : Bool} {z : Option Bool} {l : List V} (h : getA S.H i = some (.own T n g z l)) : Weak E S ⟨S.F, setA S.H i (.pown n g z l), S.nx⟩ := by
 intro c0 c ρ F hs
 obtain ⟨v, hv, hown, hge, hone, a, cap, es, hz⟩ := hs.1.heap _ _ h
 have hpd := c.pub_dropv v
 have hbo : blkOf ρ i = blk v := by unfold blkOf; rw [hv, es]
 have hsep : ∀ j b, i ≠ j → getA S.H j = some b → privB b = true → ∀ x, blkOf ρ j = some x → blk v ≠ some x := by
  intro j b hij hb hp x hx hx'
  exact hs.1.sep i j _ b x hij h hb rfl hp (hbo ▸ hx') hx
 refine ⟨c.dropv v, ρ, rfl, ⟨hs.1.since.dropv hge, hs.1.gl.mono hpd, fun t x ht => rd_mono hpd (hs.1.slot t x ht), ?_, ?_⟩, hs.2⟩
 ·intro j b hb
  simp only [getA_setA] at hb
  split at hb
  ·rename_i e; subst e; cases hb
   refine ⟨v, hv, ?_⟩
   obtain ⟨a', cap', e1, h1, h2⟩ := slice_val.1 hown.val
   rw [es] at e1; cases e1
   exact rd_sl.2 ⟨a, cap, es, h1, hz, h2⟩
  ·rename_i hij
   have hb0 := hs.1.heap _ _ hb
   have hsp := hsep j b hij hb
   cases b with
   | var n' g' d =>
    obtain ⟨b', h1, h2, h3⟩ := hb0
    exact ⟨b', h1, h2, Cx.dropv_var h3 (hsp rfl b' (by simp [blkOf, h1]))⟩
   | own E' n' g' z' l' =>
    obtain ⟨v', h1, h2, h3, h4, a', cap', e', h5⟩ := hb0
    exact ⟨v', h1, Cx.dropv_own h2 (fun x hx => hsp rfl x (by unfold blkOf; rw [h1, e']; rw [e'] at hx; exact hx)), h3, h4, a', cap', e', h5⟩
   | ownI E' n' g' z' l' =>
    obtain ⟨v', h1, h2, h3, h4, a', cap', e', h5⟩ := hb0
    exact ⟨v', h1, Cx.dropv_own h2 (fun x hx => hsp rfl x (by unfold blkOf; rw [h1, e']; rw [e'] at hx; exact hx)), h3, h4, a', cap', e', h5⟩
   | pvar n' g' d =>
    obtain ⟨b', h1, h2⟩ := hb0
    exact ⟨b', h1, (rvPt _).mono h2 hpd⟩
   | pown n' g' z' l' =>
    obtain ⟨v', h1, h2⟩ := hb0
    exact ⟨v', h1, rd_mono hpd h2⟩
   | lent k' n' g' d =>
    obtain ⟨h1, h2, h3⟩ := hb0
    exact ⟨h1, h2, Cx.dropv_var h3 (hsp rfl k' (by simp [blkOf, h1]))⟩
   | kset g' k' n' l' =>
    obtain ⟨r, h1, h2, h3⟩ := hb0
    exact ⟨r, h1, h2, Cx.dropv_set h3 (hsp rfl r (by simp [blkOf, h1, blk]))⟩
 ·intro a b ba bb x hab ha hb hpa hpb hx
  simp only [getA_setA] at ha hb
  split at ha
  ·cases ha; cases hpa
  ·split at hb
   ·cases hb; cases hpb
   ·exact hs.1.sep a b ba bb x hab ha hb hpa hpb hx
theorem weak_slot (t i : Nat) {n : Nat} {g : Bool} {z : Option Bool} {l : List V} (h : getA S.F t = some (.own i)) (h2 : getA S.H i = some (.pown n g z l)) : Weak E S ⟨(t, .sl z n g l) :: S.F, S.H, S.nx⟩ := by
 intro c0 c ρ F hs
 refine ⟨c, ρ, rfl, ⟨hs.1.since, hs.1.gl, fun t' v ht => ?_, hs.1.heap, hs.1.sep⟩, hs.2⟩
 simp only [getA] at ht
 split at ht
 ·rename_i e; subst e; cases ht
  have h3 := hs.1.slot _ _ h
  obtain ⟨v, h4, h5⟩ := hs.1.heap _ _ h2
  simp only [rd] at h3
  rw [h3.1] at h4; cases h4
  simpa only [rd] using h5
 ·exact hs.1.slot _ _ ht
theorem weak_pubv (i : Nat) {n : Nat} {g : Bool} {d : V} (h : getA S.H i = some (.var n g d)) (hpu : pureV d) : Weak E S ⟨S.F, setA S.H i (.pvar n g d), S.nx⟩ := by
 intro c0 c ρ F hs
 obtain ⟨b, hv, hge, hvar⟩ := hs.1.heap _ _ h
 have hbv : blk (.slice (some ⟨b, 0, none⟩) 0 1) = some b := rfl
 have hpd := c.pub_dropv (.slice (some ⟨b, 0, none⟩) 0 1)
 have hbo : blkOf ρ i = some b := by unfold blkOf; rw [hv]
 have hsep : ∀ j b', i ≠ j → getA S.H j = some b' → privB b' = true → ∀ x, blkOf ρ j = some x → blk (.slice (some ⟨b, 0, none⟩) 0 1) ≠ some x := by
  intro j b' hij hb hp x hx hx'
  exact hs.1.sep i j _ b' x hij h hb rfl hp (hbo ▸ hx') hx
 refine ⟨c.dropv (.slice (some ⟨b, 0, none⟩) 0 1), ρ, rfl, ⟨hs.1.since.dropv (fun k hk => by rw [hbv] at hk; cases hk; exact hge), hs.1.gl.mono hpd, fun t x ht => rd_mono hpd (hs.1.slot t x ht), ?_, ?_⟩, hs.2⟩
 ·intro j b' hb
  simp only [getA_setA] at hb
  split at hb
  ·rename_i e; subst e; cases hb
   obtain ⟨h1, T, cs, h2, h3⟩ := hvar
   refine ⟨b, hv, b, 0, cs.toList, rfl, c.ok b h1, ?_, ?_, ?_⟩
   ·simp only [Cx.dropv, List.mem_filter, hbv]; simp
   ·intro j u hj
    show (c.dropv _).w.cell? _ = _
    simp only [Cx.dropv, World.cell?, h2]
    simpa using hj
   ·exact ⟨h3.1, rd_mono hpd (pure_rd hpu h3.2)⟩
  ·rename_i hij
   have hb0 := hs.1.heap _ _ hb
   have hsp := hsep j b' hij hb
   cases b' with
   | var n' g' d =>
    obtain ⟨b', h1, h2, h3⟩ := hb0
    exact ⟨b', h1, h2, Cx.dropv_var h3 (hsp rfl b' (by simp [blkOf, h1]))⟩
   | own E' n' g' z' l' =>
    obtain ⟨v', h1, h2, h3, h4, a', cap', e', h5⟩ := hb0
    exact ⟨v', h1, Cx.dropv_own h2 (fun x hx => hsp rfl x (by unfold blkOf; rw [h1, e']; rw [e'] at hx; exact hx)), h3, h4, a', cap', e', h5⟩
   | ownI E' n' g' z' l' =>
    obtain ⟨v', h1, h2, h3, h4, a', cap', e', h5⟩ := hb0
    exact ⟨v', h1, Cx.dropv_own h2 (fun x hx => hsp rfl x (by unfold blkOf; rw [h1, e']; rw [e'] at hx; exact hx)), h3, h4, a', cap', e', h5⟩
   | pvar n' g' d =>
    obtain ⟨b', h1, h2⟩ := hb0
    exact ⟨b', h1, (rvPt _).mono h2 hpd⟩
   | pown n' g' z' l' =>
    obtain ⟨v', h1, h2⟩ := hb0
    exact ⟨v', h1, rd_mono hpd h2⟩
   | lent k' n' g' d =>
    obtain ⟨h1, h2, h3⟩ := hb0
    exact ⟨h1, h2, Cx.dropv_var h3 (hsp rfl k' (by simp [blkOf, h1]))⟩
   | kset g' k' n' l' =>
    obtain ⟨r, h1, h2, h3⟩ := hb0
    exact ⟨r, h1, h2, Cx.dropv_set h3 (hsp rfl r (by simp [blkOf, h1, blk]))⟩
 ·intro a b1 ba bb x hab ha hb hpa hpb hx
  simp only [getA_setA] at ha hb
  split at ha
  ·cases ha; cases hpa
  ·split at hb
   ·cases hb; cases hpb
   ·exact hs.1.sep a b1 ba bb x hab ha hb hpa hpb hx
def rowV {α : Type} (f : α → V) (l : List α) (k : Int) (i : Nat) : List V := (l.map f).set k.toNat (.own i)
section
variable {α : Type} {f : α → V} {l : List α} {i : Nat} {q : Int}
theorem rowV_eq : (l.map f).set q.toNat (.own i) = rowV f l q i := rfl
theorem rowV_eq0 : (l.map f).set 0 (.own i) = rowV f l 0 i := rfl
theorem rowV_len : (rowV f l q i).length = l.length := by simp [rowV]
end
theorem map_st {α : Type} {f : α → V} {l : List α} {i : Int} {x : α} : (st l i x).map f = (l.map f).set i.toNat (f x) := by simp [st, List.map_set]
theorem spl_len {α : Type} {l m : List α} {i k : Nat} : (spl l i k m).length = min i l.length + min k m.length + (l.length - (i + k)) := by simp only [spl, List.length_append, List.length_take, List.length_drop]
theorem cutN_len {α : Type} {l : List α} {i j : Nat} : (cutN l i j).length = min (j - i) (l.length - i) := by simp [cutN]
theorem mul_pos_ok {a b : Int} (A B C : Int) (h1 : 0 ≤ a) (h2 : a ≤ A) (h3 : 0 ≤ b) (h4 : b ≤ B) (h5 : A * B = C) (h6 : C ≤ 9223372036854775807) : mulI .i64 a b = a * b ∧ (0 ≤ a * b ∧ a * b ≤ C) := by
 have e1 := Int.mul_nonneg h1 h3
 have e2 : a * b ≤ A * B := Int.mul_le_mul h2 h4 h3 (Int.le_trans h1 h2)
 rw [h5] at e2
 refine ⟨?_, e1, e2⟩
 unfold mulI; rw [IntKind.wrap_i64]; omega
theorem conv_i64 {a : Int} (h0 : -9223372036854775808 ≤ a) (h : a ≤ 9223372036854775807) : convI .i64 a = a := by
 unfold convI; rw [IntKind.wrap_i64]; omega
theorem conv_u64 {a : Int} (h0 : 0 ≤ a) (h : a ≤ 18446744073709551615) : convI .u64 a = a := by
 unfold convI; rw [IntKind.wrap_u64]; omega
theorem seqC_pass {a b : Code} (h : cont E J (.code a :: .lp (weakK E (cont E J (.code b :: k) .normal)) :: k) .normal S) : seqC E J true a b k S := h
theorem cut_weakW {b : Code} (S2 S1 : St) (hW : Weak E S S2) (hF : subF S2.F S1.nx S1.F) (hH : subH S2.H S1.nx S1.H) (h : cont E J (.code b :: k) .normal S1) : cont E J (.lp (weakK E (cont E J (.code b :: k) .normal)) :: k) .normal S := ⟨S1, hW.trans (weak_of hF hH), h⟩
theorem mtL_rep {n : Nat} {a b : V} (h : mt a b) : mtL (List.replicate n a) (List.replicate n b) := by
 induction n with
 | zero => trivial
 | succ n ih => simp only [List.replicate_succ, mtL]; exact ⟨h, ih⟩
def rep {α : Type} (n : Nat) (a : α) : List α := List.replicate n a
theorem rep_len {α : Type} {n : Nat} {a : α} : (rep n a).length = n := by simp [rep]
theorem mtL_repE {n : Nat} {a b : V} : mtL (List.replicate n a) (List.replicate n b) = (n = 0 ∨ mt a b) := by
 refine propext ⟨fun h => ?_, fun h => ?_⟩
 ·cases n with
  | zero => exact .inl rfl
  | succ n => simp only [List.replicate_succ, mtL] at h; exact .inr h.1
 ·rcases h with rfl | h
  ·trivial
  ·exact mtL_rep h
theorem mtL_repM {α : Type} {n : Nat} {a : V} {f : α → V} {x : α} : mtL (List.replicate n a) ((rep n x).map f) = (n = 0 ∨ mt a (f x)) := by
 unfold rep; rw [List.map_replicate]; exact mtL_repE
end
end Go.Proofs.YtjnikknlcmbcmaaGreatDoor
namespace Go.Proofs.YtjnikknlcmbcmaaGreatDoor
open Go.RowKit
section
variable {E : Env} {J : Cuts} {k : List Ct} {S S1 S2 : St} {c0 c : Cx} {ρ : Ro} {F : Fm}
def pubV : Option Blk → V
 | some (.pown n g z l) => .sl z n g l
 | _ => .un
def pubP (off : Nat) : Option Blk → V
 | some (.pvar n g d) => if off = 0 then .pp n g d else .un
 | _ => .un
mutual
def gview (H : List (Nat × Blk)) : V → V
 | .own i => pubV (getA H i)
 | .ptr i o => pubP o (getA H i)
 | .optr _ _ _ _ => .un
 | .osub _ _ _ _ => .un
 | .agg l => .agg (gviewL H l)
 | .tup l => .tup (gviewL H l)
 | .fn f l => .fn f (gviewL H l)
 | v => v
def gviewL (H : List (Nat × Blk)) : List V → List V
 | [] => []
 | d :: l => gview H d :: gviewL H l
end
mutual
theorem gview_rd (h : Sim E c0 c ρ S F) : ∀ {d : V} {v : Value}, rd ρ c d v → rd ro0 c (gview S.H d) v
 | .int _ _, _, hr => hr
 | .bool _, _, hr => hr
 | .ifc _, _, hr => hr
 | .str _, _, hr => hr
 | .agg l, v, hr => by
  simp only [rd, gview] at hr ⊢
  obtain ⟨cs, e, hr⟩ := hr
  exact ⟨cs, e, gview_rdC h hr⟩
 | .sl z n g l, v, hr => hr
 | .pp n g d, v, hr => hr
 | .own i, v, hr => by
  simp only [rd] at hr
  simp only [gview]
  cases hb : getA S.H i with
  | none => trivial
  | some b =>
   cases b with
   | pown n g z l =>
    obtain ⟨v', h1, h2⟩ := h.heap _ _ hb
    rw [hr.1] at h1; cases h1
    exact h2
   | _ => trivial
 | .ptr i o, v, hr => by
  simp only [rd] at hr
  simp only [gview]
  obtain ⟨b0, hb0, he⟩ := hr
  cases hb : getA S.H i with
  | none => trivial
  | some b =>
   cases b with
   | pvar n g d =>
    obtain ⟨b', h1, h2⟩ := h.heap _ _ hb
    rw [hb0] at h1; cases h1
    simp only [pubP]
    split
    ·rename_i e; subst e; subst he
     exact rd_pp.2 h2
    ·trivial
   | _ => trivial
 | .optr _ _ _ _, _, _ => trivial
 | .osub _ _ _ _, _, _ => trivial
 | .tup l, v, hr => by
  simp only [rd, gview] at hr ⊢
  obtain ⟨cs, e, hr⟩ := hr
  exact ⟨cs, e, gview_rdT h hr⟩
 | .fn f l, v, hr => by
  simp only [rd, gview] at hr ⊢
  obtain ⟨cs, e, hr⟩ := hr
  exact ⟨cs, e, gview_rdT h hr⟩
 | .opq p, v, hr => hr
 | .un, _, _ => trivial
theorem gview_rdC (h : Sim E c0 c ρ S F) : ∀ {l : List V} {cs : List Value}, rdC ρ c l cs → rdC ro0 c (gviewL S.H l) cs
 | [], _, hr => hr
 | d :: l, cs, hr => by
  simp only [rdC, gviewL] at hr ⊢
  obtain ⟨u, c2, e, h1, h2, h3⟩ := hr
  exact ⟨u, c2, e, h1, gview_rd h h2, gview_rdC h h3⟩
theorem gview_rdT (h : Sim E c0 c ρ S F) : ∀ {l : List V} {cs : List Value}, rdT ρ c l cs → rdT ro0 c (gviewL S.H l) cs
 | [], _, hr => hr
 | d :: l, cs, hr => by
  simp only [rdT, gviewL] at hr ⊢
  obtain ⟨u, c2, e, h2, h3⟩ := hr
  exact ⟨u, c2, e, gview_rd h h2, gview_rdT h h3⟩
end
theorem give_gview {vs ws : List V} (hm : mtL (gviewL S.H vs) ws) : giveOk E S vs S ws :=
 fun _ c ρ _ _ h hr => ⟨c, ρ, rfl, Cx.pub.refl _, h, mt_rdT hm (gview_rdT h.1 hr)⟩
def WeakP (E : Env) (S S1 : St) : Prop := ∀ c0 c ρ F, SimN E c0 c ρ S F → ∃ c1, c1.w = c.w ∧ c.pub c1 ∧ SimN E c0 c1 ρ S1 F
theorem WeakP.weak (h : WeakP E S S1) : Weak E S S1 := by
 intro c0 c ρ F hs
 obtain ⟨c1, e, _, h1⟩ := h c0 c ρ F hs
 exact ⟨c1, ρ, e, h1⟩
theorem WeakP.trans (h : WeakP E S S1) (h' : WeakP E S1 S2) : WeakP E S S2 := by
 intro c0 c ρ F hs
 obtain ⟨c1, e, p1, h1⟩ := h c0 c ρ F hs
 obtain ⟨c2, e2, p2, h2⟩ := h' c0 c1 ρ F h1
 exact ⟨c2, e2.trans e, p1.trans p2, h2⟩
def WeakQ (E : Env) (S S1 : St) : Prop := ∀ c0 c ρ F, SimN E c0 c ρ S F → ∃ c1 ρ1, c1.w = c.w ∧ c.pub c1 ∧ roLe ρ ρ1 ∧ SimN E c0 c1 ρ1 S1 F
theorem WeakQ.weak (h : WeakQ E S S1) : Weak E S S1 := by
 intro c0 c ρ F hs
 obtain ⟨c1, ρ1, e, _, _, h1⟩ := h c0 c ρ F hs
 exact ⟨c1, ρ1, e, h1⟩
theorem WeakP.toQ (h : WeakP E S S1) : WeakQ E S S1 := by
 intro c0 c ρ F hs
 obtain ⟨c1, e, p, h1⟩ := h c0 c ρ F hs
 exact ⟨c1, ρ, e, p, fun _ _ h => h, h1⟩
theorem WeakQ.trans (h : WeakQ E S S1) (h' : WeakQ E S1 S2) : WeakQ E S S2 := by
 intro c0 c ρ F hs
 obtain ⟨c1, ρ1, e, p1, r1, h1⟩ := h c0 c ρ F hs
 obtain ⟨c2, ρ2, e2, p2, r2, h2⟩ := h' c0 c1 ρ1 F h1
 exact ⟨c2, ρ2, e2.trans e, p1.trans p2, fun i v hi => r2 i v (r1 i v hi), h2⟩
theorem callC_giveG {f : FuncId} {caps vs : List V} {d : Option Nat} {ws : List V} {r : V} {H : List Blk} (hc : CallOk E f ws r H) (hm : mtL (gviewL S.H (vs ++ caps)) ws) (h : wfV r → cont E J k .normal (S.after d r H)) : callC E J (some (.fn f caps)) (some vs) S d k :=
 .inl ⟨ws, r, H, hc, .inl ⟨S, give_gview hm, h⟩⟩
theorem weakP_pub (i : Nat) {T n : Nat} {g : Bool} {z : Option Bool} {l : List V} (h : getA S.H i = some (.own T n g z l)) : WeakP E S ⟨S.F, setA S.H i (.pown n g z l), S.nx⟩ := by
 intro c0 c ρ F hs
 obtain ⟨v, hv, hown, hge, hone, a, cap, es, hz⟩ := hs.1.heap _ _ h
 obtain ⟨c1, ρ1, e, h1⟩ := weak_pub i h c0 c ρ F hs
 have hpd := c.pub_dropv v
 have hbo : blkOf ρ i = blk v := by unfold blkOf; rw [hv, es]
 have hsep : ∀ j b, i ≠ j → getA S.H j = some b → privB b = true → ∀ x, blkOf ρ j = some x → blk v ≠ some x := by
  intro j b hij hb hp x hx hx'
  exact hs.1.sep i j _ b x hij h hb rfl hp (hbo ▸ hx') hx
 refine ⟨c.dropv v, rfl, hpd, ⟨hs.1.since.dropv hge, hs.1.gl.mono hpd, fun t x ht => rd_mono hpd (hs.1.slot t x ht), ?_, ?_⟩, hs.2⟩
 ·intro j b hb
  simp only [getA_setA] at hb
  split at hb
  ·rename_i e; subst e; cases hb
   refine ⟨v, hv, ?_⟩
   obtain ⟨a', cap', e1, h1, h2⟩ := slice_val.1 hown.val
   rw [es] at e1; cases e1
   exact rd_sl.2 ⟨a, cap, es, h1, hz, h2⟩
  ·rename_i hij
   have hb0 := hs.1.heap _ _ hb
   have hsp := hsep j b hij hb
   cases b with
   | var n' g' d =>
    obtain ⟨b', h1, h2, h3⟩ := hb0
    exact ⟨b', h1, h2, Cx.dropv_var h3 (hsp rfl b' (by simp [blkOf, h1]))⟩
   | own E' n' g' z' l' =>
    obtain ⟨v', h1, h2, h3, h4, a', cap', e', h5⟩ := hb0
    exact ⟨v', h1, Cx.dropv_own h2 (fun x hx => hsp rfl x (by unfold blkOf; rw [h1, e']; rw [e'] at hx; exact hx)), h3, h4, a', cap', e', h5⟩
   | ownI E' n' g' z' l' =>
    obtain ⟨v', h1, h2, h3, h4, a', cap', e', h5⟩ := hb0
    exact ⟨v', h1, Cx.dropv_own h2 (fun x hx => hsp rfl x (by unfold blkOf; rw [h1, e']; rw [e'] at hx; exact hx)), h3, h4, a', cap', e', h5⟩
   | pvar n' g' d =>
    obtain ⟨b', h1, h2⟩ := hb0
    exact ⟨b', h1, (rvPt _).mono h2 hpd⟩
   | pown n' g' z' l' =>
    obtain ⟨v', h1, h2⟩ := hb0
    exact ⟨v', h1, rd_mono hpd h2⟩
   | lent k' n' g' d =>
    obtain ⟨h1, h2, h3⟩ := hb0
    exact ⟨h1, h2, Cx.dropv_var h3 (hsp rfl k' (by simp [blkOf, h1]))⟩
   | kset g' k' n' l' =>
    obtain ⟨r, h1, h2, h3⟩ := hb0
    exact ⟨r, h1, h2, Cx.dropv_set h3 (hsp rfl r (by simp [blkOf, h1, blk]))⟩
 ·intro a b ba bb x hab ha hb hpa hpb hx
  simp only [getA_setA] at ha hb
  split at ha
  ·cases ha; cases hpa
  ·split at hb
   ·cases hb; cases hpb
   ·exact hs.1.sep a b ba bb x hab ha hb hpa hpb hx
def posN : List Nat → Nat → Nat → Option Nat
 | [], _, _ => none
 | j :: l, i, k => if j = i then some k else posN l i (k + 1)
def ownAt (H : List (Nat × Blk)) (i : Nat) : Option Nat → V
 | some k => .own k
 | none => ownV (getA H i)
mutual
def viewO (H : List (Nat × Blk)) (ids : List Nat) : V → V
 | .own i => ownAt H i (posN ids i 0)
 | .ptr _ _ => .un
 | .optr _ _ _ _ => .un
 | .osub _ _ _ _ => .un
 | .agg l => .agg (viewOL H ids l)
 | .tup l => .tup (viewOL H ids l)
 | .fn f l => .fn f (viewOL H ids l)
 | v => v
def viewOL (H : List (Nat × Blk)) (ids : List Nat) : List V → List V
 | [] => []
 | d :: l => viewO H ids d :: viewOL H ids l
end
theorem posN_some : ∀ {l : List Nat} {i k q : Nat}, posN l i k = some q → k ≤ q ∧ l[q - k]? = some i
 | [], _, _, _, h => by simp [posN] at h
 | j :: l, i, k, q, h => by
  simp only [posN] at h
  split at h
  ·rename_i e; subst e; cases h; simp
  ·obtain ⟨h1, h2⟩ := posN_some h
   refine ⟨by omega, ?_⟩
   rw [show q - k = (q - (k + 1)) + 1 by omega, List.getElem?_cons_succ]
   exact h2
theorem posN_none : ∀ {l : List Nat} {i k : Nat}, posN l i k = none → i ∉ l
 | [], _, _, _ => by simp
 | j :: l, i, k, h => by
  simp only [posN] at h
  split at h
  ·cases h
  ·rename_i e
   simp only [List.mem_cons, not_or]
   exact ⟨fun e' => e e'.symm, posN_none h⟩
def roIds (ρ : Ro) (ids : List Nat) : Ro := fun k => match ids[k]? with
 | some i => ρ i
 | none => none
def Cx.give (c0 c : Cx) (ρ : Ro) (ids : List Nat) (h0 : c0.w.heap.size ≤ c.w.heap.size) (h : ∀ i ∈ ids, ∀ k, blkOf ρ i = some k → k < c.w.heap.size) : Cx :=
 { X := c0.X ++ ids.filterMap (blkOf ρ), w := c.w, ok := fun k hk => (by
  rcases List.mem_append.1 hk with hk | hk
  ·exact Nat.lt_of_lt_of_le (c0.ok k hk) h0
  ·obtain ⟨i, hi, hb⟩ := List.mem_filterMap.1 hk
   exact h i hi k hb) }
def ownsL (H : List (Nat × Blk)) : List Nat → List Blk → Prop
 | [], [] => True
 | i :: ids, b :: bs => getA H i = some b ∧ (match b with | .own _ _ _ _ _ => True | _ => False) ∧ ownsL H ids bs
 | _, _ => False
theorem ownsL_get {H : List (Nat × Blk)} : ∀ {ids : List Nat} {bs : List Blk}, ownsL H ids bs → ids.length = bs.length ∧ (∀ (k : Nat) (b : Blk), bs[k]? = some b → ∃ i, ids[k]? = some i ∧ getA H i = some b ∧ ∃ T n g z l, b = .own T n g z l) ∧ ∀ i ∈ ids, ∃ b, getA H i = some b ∧ ∃ T n g z l, b = .own T n g z l
 | [], [], _ => ⟨rfl, by simp, by simp⟩
 | i :: ids, b :: bs, h => by
  simp only [ownsL] at h
  obtain ⟨h1, h2, h3⟩ := h
  obtain ⟨g1, g2, g3⟩ := ownsL_get h3
  have hb : ∃ T n g z l, b = .own T n g z l := by
   cases b <;> first | exact ⟨_, _, _, _, _, rfl⟩ | exact h2.elim
  refine ⟨by simp [g1], ?_, ?_⟩
  ·intro k b' hk
   cases k with
   | zero => simp at hk; subst hk; exact ⟨i, by simp, h1, hb⟩
   | succ k => obtain ⟨j, e, g⟩ := g2 k b' (by simpa using hk); exact ⟨j, by simpa using e, g⟩
  ·intro j hj
   rcases List.mem_cons.1 hj with rfl | hj
   ·exact ⟨b, h1, hb⟩
   ·exact g3 j hj
 | [], _ :: _, h => by simp [ownsL] at h
 | _ :: _, [], h => by simp [ownsL] at h
theorem own_at {c1 : Cx} (hw : c1.w = c.w) (hpb : c.pub c1) (h : Sim E c0 c ρ S F) {i : Nat} {b : Blk} {v : Value} (hb : getA S.H i = some b) (hv : ρ i = some v) (hn : privB b = true → ∀ k, blkOf ρ i = some k → k ∉ c1.X) : rd ro0 c1 (ownV (some b)) v := by
 have hblk := h.heap i b hb
 cases b with
 | own T n g z l =>
  obtain ⟨v', h1, h2, h3, h4, a, cap, e, hz⟩ := hblk
  rw [hv] at h1; cases h1
  simp only [ownV]
  refine rd_sl.2 ⟨a, cap, e, ⟨h2.1, ?_⟩, hz, ?_⟩
  ·rcases h2.2 with ⟨a', _, rfl⟩ | ⟨g', cp, cur, e2, _, _, k3, _⟩
   ·simp
   ·rw [e] at e2; cases e2; exact k3
  ·rcases h2.2 with ⟨a', _, rfl⟩ | ⟨g', cp, cur, e2, k1, k2, k3, k4, k5, k6⟩
   ·exact .inl rfl
   ·rw [e] at e2; cases e2
    refine .inr ⟨g', 0, _, rfl, by rw [hw]; exact c.ok g' k1, hn rfl g' (by unfold blkOf; rw [hv, e]; rfl), ?_, arrIs_mono hpb k6⟩
    intro j u hj
    rw [List.getElem?_take] at hj
    split at hj
    ·simp only [Nat.zero_add]
     show c1.w.cell? _ = _
     rw [hw]
     simp only [World.cell?, k2]
     simpa using hj
    ·cases hj
 | pown n g z l =>
  obtain ⟨v', h1, h2⟩ := hblk
  rw [hv] at h1; cases h1
  exact rd_mono hpb h2
 | _ => trivial
mutual
theorem viewO_rd {c1 : Cx} {ids : List Nat} (hw : c1.w = c.w) (hpb : c.pub c1) (h : Sim E c0 c ρ S F) (hn : ∀ i b, i ∉ ids → getA S.H i = some b → privB b = true → ∀ k, blkOf ρ i = some k → k ∉ c1.X) : ∀ {d : V} {v : Value}, rd ρ c d v → rd (roIds ρ ids) c1 (viewO S.H ids d) v
 | .int _ _, _, hr => hr
 | .bool _, _, hr => hr
 | .ifc _, _, hr => hr
 | .str _, _, hr => hr
 | .agg l, v, hr => by
  simp only [rd, viewO] at hr ⊢
  obtain ⟨cs, e, hr⟩ := hr
  exact ⟨cs, e, viewO_rdC hw hpb h hn hr⟩
 | .sl z n g l, v, hr => rd_mono hpb (show rd ro0 c (.sl z n g l) v from hr)
 | .pp n g d, v, hr => rd_mono hpb (show rd ro0 c (.pp n g d) v from hr)
 | .own i, v, hr => by
  simp only [rd] at hr
  simp only [viewO]
  cases hp : posN ids i 0 with
  | some q =>
   obtain ⟨_, h2⟩ := posN_some hp
   simp only [ownAt, rd]
   exact ⟨by simp only [roIds]; rw [show q - 0 = q from rfl] at h2; rw [h2]; exact hr.1, hr.2⟩
  | none =>
   simp only [ownAt]
   cases hb : getA S.H i with
   | none => trivial
   | some b => exact rd0 (own_at hw hpb h hb hr.1 (fun hp' => hn i b (posN_none hp) hb hp'))
 | .ptr _ _, _, _ => trivial
 | .optr _ _ _ _, _, _ => trivial
 | .osub _ _ _ _, _, _ => trivial
 | .tup l, v, hr => by
  simp only [rd, viewO] at hr ⊢
  obtain ⟨cs, e, hr⟩ := hr
  exact ⟨cs, e, viewO_rdT hw hpb h hn hr⟩
 | .fn f l, v, hr => by
  simp only [rd, viewO] at hr ⊢
  obtain ⟨cs, e, hr⟩ := hr
  exact ⟨cs, e, viewO_rdT hw hpb h hn hr⟩
 | .opq p, v, hr => rd_mono hpb (show rd ro0 c (.opq p) v from hr)
 | .un, _, _ => trivial
theorem viewO_rdC {c1 : Cx} {ids : List Nat} (hw : c1.w = c.w) (hpb : c.pub c1) (h : Sim E c0 c ρ S F) (hn : ∀ i b, i ∉ ids → getA S.H i = some b → privB b = true → ∀ k, blkOf ρ i = some k → k ∉ c1.X) : ∀ {l : List V} {cs : List Value}, rdC ρ c l cs → rdC (roIds ρ ids) c1 (viewOL S.H ids l) cs
 | [], _, hr => hr
 | d :: l, cs, hr => by
  simp only [rdC, viewOL] at hr ⊢
  obtain ⟨u, c2, e, h1, h2, h3⟩ := hr
  exact ⟨u, c2, e, h1, viewO_rd hw hpb h hn h2, viewO_rdC hw hpb h hn h3⟩
theorem viewO_rdT {c1 : Cx} {ids : List Nat} (hw : c1.w = c.w) (hpb : c.pub c1) (h : Sim E c0 c ρ S F) (hn : ∀ i b, i ∉ ids → getA S.H i = some b → privB b = true → ∀ k, blkOf ρ i = some k → k ∉ c1.X) : ∀ {l : List V} {cs : List Value}, rdT ρ c l cs → rdT (roIds ρ ids) c1 (viewOL S.H ids l) cs
 | [], _, hr => hr
 | d :: l, cs, hr => by
  simp only [rdT, viewOL] at hr ⊢
  obtain ⟨u, c2, e, h2, h3⟩ := hr
  exact ⟨u, c2, e, viewO_rd hw hpb h hn h2, viewO_rdT hw hpb h hn h3⟩
end
theorem nodup_idx : ∀ {l : List Nat} {i q q' : Nat}, l.Nodup → l[q]? = some i → l[q']? = some i → q = q'
 | [], _, _, _, _, h, _ => by simp at h
 | a :: l, i, 0, 0, _, _, _ => rfl
 | a :: l, i, 0, q' + 1, hd, h, h' => by
  simp at h h'; subst h
  exact absurd (List.mem_of_getElem? h') (List.nodup_cons.1 hd).1
 | a :: l, i, q + 1, 0, hd, h, h' => by
  simp at h h'; subst h'
  exact absurd (List.mem_of_getElem? h) (List.nodup_cons.1 hd).1
 | a :: l, i, q + 1, q' + 1, hd, h, h' => by
  simp only [List.getElem?_cons_succ] at h h'
  rw [nodup_idx (List.nodup_cons.1 hd).2 h h']
theorem out_own {v r : V} (ids : List Nat) {bs : List Blk} (ho : ownsL S.H ids bs) (hd : ids.Nodup) (hm : mt (viewO S.H ids v) r) : outOk E S v r bs := by
 intro c0 c ρ F u hY h hr
 obtain ⟨hlen, hget, hall⟩ := ownsL_get ho
 have hlt : ∀ i ∈ ids, ∀ k, blkOf ρ i = some k → k < c.w.heap.size := by
  intro i hi k hk
  obtain ⟨b, hb, T, n, g, z, l, rfl⟩ := hall i hi
  exact blkOk_lt rfl (h.1.heap _ _ hb) k hk
 have hge : ∀ i ∈ ids, ∀ k, blkOf ρ i = some k → c0.w.heap.size ≤ k := by
  intro i hi k hk
  obtain ⟨b, hb, T, n, g, z, l, rfl⟩ := hall i hi
  exact Cx.mine_of hY (blkOf_ge h.1 hb rfl k hk)
 have hX : ∀ i ∈ ids, ∀ k, blkOf ρ i = some k → k ∈ c.X := by
  intro i hi k hk
  obtain ⟨b, hb, T, n, g, z, l, rfl⟩ := hall i hi
  obtain ⟨v, h1, h2, _, _, a, cap, e, _⟩ := h.1.heap _ _ hb
  refine h2.isX k ?_
  unfold blkOf at hk
  rw [h1, e] at hk
  rw [e]; exact hk
 have hpub : c.pub (Cx.give c0 c ρ ids h.1.since.size hlt) := by
  refine ⟨Nat.le_refl _, fun k hk hx => ⟨fun h' => ?_, fun _ h _ => h⟩⟩
  rcases List.mem_append.1 h' with h' | h'
  ·exact hx (h.1.since.X k h' (by rw [hY]; simp))
  ·obtain ⟨i, hi, hb⟩ := List.mem_filterMap.1 h'
   exact hx (hX i hi k hb)
 have hle : c0.le (Cx.give c0 c ρ ids h.1.since.size hlt) := by
  refine Cx.leY.le ⟨h.1.since.below, fun k hk _ => ⟨fun h' => ?_, fun h' => List.mem_append.2 (.inl h')⟩⟩ hY
  rcases List.mem_append.1 h' with h' | h'
  ·exact h'
  ·obtain ⟨i, hi, hb⟩ := List.mem_filterMap.1 h'
   have := hge i hi k hb
   omega
 refine ⟨Cx.give c0 c ρ ids h.1.since.size hlt, roIds ρ ids, rfl, hle, mt_rd hm (viewO_rd (c := c) (c1 := Cx.give c0 c ρ ids h.1.since.size hlt) (ids := ids) rfl hpub h.1 ?_ hr), ?_, ?_, ?_⟩
 ·intro i b hi hb hp k hk hmem
  rcases List.mem_append.1 hmem with h' | h'
  ·have h1 := Cx.mine_of hY (blkOf_ge h.1 hb hp k hk)
   have h2 := c0.ok k h'
   omega
  ·obtain ⟨j, hj, hb'⟩ := List.mem_filterMap.1 h'
   obtain ⟨bj, hbj, T, n, g, z, l, rfl⟩ := hall j hj
   exact h.1.sep i j b _ k (fun e => hi (e ▸ hj)) hb hbj hp rfl hk hb'
 ·intro q b hq
  obtain ⟨i, hi, hb, T, n, g, z, l, rfl⟩ := hget q b hq
  refine ⟨⟨T, n, g, z, l, rfl⟩, ?_⟩
  obtain ⟨v, h1, h2, h3, h4, a, cap, e, h5⟩ := h.1.heap _ _ hb
  have hmem : i ∈ ids := List.mem_of_getElem? hi
  refine ⟨v, by simp only [roIds, hi]; exact h1, ⟨h2.1, ?_⟩, h3, h4, a, cap, e, h5⟩
  rcases h2.2 with h' | ⟨g', cp, cur, e2, k1, k2, k3, k4, k5, k6⟩
  ·exact .inl h'
  ·refine .inr ⟨g', cp, cur, e2, List.mem_append.2 (.inr (List.mem_filterMap.2 ⟨i, hmem, ?_⟩)), k2, k3, k4, k5, arrIs_mono hpub k6⟩
   unfold blkOf; rw [h1, e2]; rfl
 ·intro q hq
  simp only [roIds]
  rw [List.getElem?_eq_none (by omega)]
 ·intro q q' bq bq' k hne hq hq' hk hk'
  obtain ⟨i, hi, hb, T, n, g, z, l, rfl⟩ := hget q bq hq
  obtain ⟨i', hi', hb', T', n', g', z', l', rfl⟩ := hget q' bq' hq'
  have hii : i ≠ i' := by
   rintro rfl
   exact hne (nodup_idx hd hi hi')
  have e1 : blkOf (roIds ρ ids) q = blkOf ρ i := by simp only [blkOf, roIds, hi]
  have e2 : blkOf (roIds ρ ids) q' = blkOf ρ i' := by simp only [blkOf, roIds, hi']
  rw [e1] at hk
  rw [e2] at hk'
  exact h.1.sep i i' _ _ k hii hb hb' rfl rfl hk hk'
def zN : Blk → Blk
 | .own T n g _ l => .own T n g none l
 | b => b
theorem HOk_zN {c' : Cx} {H : List Blk} (h : HOk c c' ρ H) : HOk c c' ρ (H.map zN) := by
 obtain ⟨h1, h2, h3⟩ := h
 have key : ∀ (i : Nat) (b : Blk), (H.map zN)[i]? = some b → ∃ T n g z l, H[i]? = some (Blk.own T n g z l) ∧ b = Blk.own T n g none l := by
  intro i b hb
  rw [List.getElem?_map] at hb
  cases hi : H[i]? with
  | none => rw [hi] at hb; cases hb
  | some b0 =>
   rw [hi] at hb
   obtain ⟨⟨T, n, g, z, l, rfl⟩, _⟩ := h1 i b0 hi
   cases hb
   exact ⟨T, n, g, z, l, rfl, rfl⟩
 refine ⟨fun i b hb => ?_, fun i hi => h2 i (by simpa using hi), fun i j bi bj k hij hi hj => ?_⟩
 ·obtain ⟨T, n, g, z, l, hi, rfl⟩ := key i b hb
  obtain ⟨_, v, g1, g2, g3, g4, a, cap, e, g5⟩ := h1 i _ hi
  exact ⟨⟨T, n, g, none, l, rfl⟩, v, g1, g2, g3, g4, a, cap, e, zOk_none g5⟩
 ·obtain ⟨T, n, g, z, l, hi', rfl⟩ := key i bi hi
  obtain ⟨T', n', g', z', l', hj', rfl⟩ := key j bj hj
  exact h3 i j _ _ k hij hi' hj'
theorem retC_owns {vs : List V} {r : V} (ids : List Nat) {bs : List Blk} (ho : ownsL S.H ids bs) (hd : ids.Nodup) (hm : mt (viewO S.H ids (tupV vs)) r) : retC E S r (bs.map zN) (some vs) := by
 intro c0 c ρ F u hY hs hr
 obtain ⟨c1, ρ1, e, hle, h1, h2⟩ := out_own ids ho hd hm c0 c ρ F u hY hs hr
 exact ⟨c1, ρ1, e, hle, h1, HOk_zN h2⟩
theorem retC_ownZ {vs : List V} {T n : Nat} {g : Bool} {z : Option Bool} {l : List V} (i : Nat) (h : getA S.H i = some (.own T n g z l)) (hm : mt (viewO S.H [i] (tupV vs)) (.own 0)) : retC E S (.own 0) [.own T n g none l] (some vs) :=
 retC_owns [i] (bs := [.own T n g z l]) ⟨h, trivial, trivial⟩ (by simp) hm
theorem retC_nil {T n : Nat} {g : Bool} (hone : g = false → n = 1) : retC E S (.own 0) [.own T n g none []] (some [.sl (some true) n g []]) := by
 intro c0 c ρ F u hY h hr
 have e : u = .slice none 0 0 := by
  simp only [tupV, rd, zOk] at hr
  obtain ⟨a, cap, e, _, ⟨rfl, rfl⟩, _⟩ := hr
  exact e
 subst e
 refine ⟨c0.base c h.1.since.size, fun i => if i = 0 then some (.slice none 0 0) else none, rfl, Cx.leY.le ⟨h.1.since.below, fun k hk hy => by rw [base_X]; exact ⟨fun h => h.1, fun h => ⟨h, hy⟩⟩⟩ hY, ⟨rfl, rfl⟩, ?_, ?_, ?_⟩
 ·intro i b hb
  cases i with
  | zero =>
   simp at hb; subst hb
   exact ⟨⟨_, _, _, _, _, rfl⟩, .slice none 0 0, rfl, Own.nil, fun k hk => by simp [blk] at hk, hone, none, 0, rfl, fun _ => rfl⟩
  | succ i => simp at hb
 ·intro i hi
  have : i ≠ 0 := by simp at hi; omega
  simp [this]
 ·intro i j bi bj k hij hi hj
  cases i with
  | zero => cases j with
   | zero => exact absurd rfl hij
   | succ j => simp at hj
  | succ i => simp at hi
theorem callOk_nil {f : FuncId} {pre post : List V} {n : Nat} {g : Bool} {l : List V} {r : V} {H : List Blk} (h1 : l = [] → CallOk E f (pre ++ .sl (some true) n g [] :: post) r H) (h2 : CallOk E f (pre ++ .sl (some false) n g l :: post) r H) (z : Option Bool) : CallOk E f (pre ++ .sl z n g l :: post) r H := by
 refine ⟨h2.1, fun c us hY hg hus => ?_⟩
 have key : ∀ {pre : List V} {us : List Value}, rdT ro0 c (pre ++ .sl z n g l :: post) us → (l = [] ∧ rdT ro0 c (pre ++ .sl (some true) n g [] :: post) us) ∨ rdT ro0 c (pre ++ .sl (some false) n g l :: post) us := by
  intro pre
  induction pre with
  | nil =>
   intro us h
   simp only [List.nil_append, rdT] at h ⊢
   obtain ⟨u, c2, rfl, hu, h3⟩ := h
   obtain ⟨a, cap, e, hl, hz, hs⟩ := rd_sl.1 hu
   cases a with
   | some a => exact .inr ⟨u, c2, rfl, rd_sl.2 ⟨_, cap, e, hl, by simp [zOk], hs⟩, h3⟩
   | none =>
    rcases hs with rfl | ⟨b, o, cs, e', _⟩
    ·have hc := zOk_none hz rfl
     subst hc
     exact .inl ⟨rfl, u, c2, rfl, rd_sl.2 ⟨none, 0, e, ⟨Nat.zero_le _, Nat.zero_le _⟩, ⟨rfl, rfl⟩, .inl rfl⟩, h3⟩
    ·cases e'
  | cons d pre ih =>
   intro us h
   simp only [List.cons_append, rdT] at h ⊢
   obtain ⟨u, c2, rfl, hu, h3⟩ := h
   rcases ih h3 with ⟨e, h4⟩ | h4
   ·exact .inl ⟨e, u, c2, rfl, hu, h4⟩
   ·exact .inr ⟨u, c2, rfl, hu, h4⟩
 rcases key hus with ⟨e, h⟩ | h
 ·exact (h1 e).2 c us hY hg h
 ·exact h2.2 c us hY hg h
end
attribute [go_sem] gview gviewL pubV pubP ownsL viewO viewOL posN ownAt
theorem CallOk.pub {E : Env} {f : FuncId} {ws : List V} {T n : Nat} {g : Bool} {z : Option Bool} {l : List V} (h : CallOk E f ws (.own 0) [.own T n g z l]) : CallOk E f ws (.sl z n g l) [] := by
 refine ⟨h.1, fun c us hY hg hus => (h.2 c us hY hg hus).mono ?_⟩
 rintro e w' ⟨v, c', ρ, rfl, rfl, hle, hrd, hH⟩
 obtain ⟨v', hv, hown, hge, hone, a, cap, es, hz⟩ := (hH.1 0 _ rfl).2
 have e : v = v' := by
  simp only [rd] at hrd
  rw [hv] at hrd
  exact (Option.some.inj hrd.1).symm
 subst e
 refine ⟨v, c'.dropv v, ro0, rfl, rfl, le_dropv hle (fun g hg => Cx.mine_of hY (hge g hg)), ?_, fun i b hb => by simp at hb, fun _ _ => rfl, fun i j bi bj k _ hb => by simp at hb⟩
 obtain ⟨a', cap', e1, h1, h2⟩ := slice_val.1 hown.val
 rw [es] at e1; cases e1
 exact rd_sl.2 ⟨a, cap, es, h1, hz, h2⟩
theorem rdC_nil {ρ ρ' : Ro} {c : Cx} (hro : roLe ρ ρ') {k : Nat} (hat : ρ' k = some (.slice none 0 0)) : ∀ {l : List V} {cs : List Value} {o n : Nat} {g : Bool}, rdC ρ c l cs → l[o]? = some (.sl (some true) n g []) → rdC ρ' c (l.set o (.own k)) cs
 | [], cs, o, n, g, h, ho => by simp at ho
 | d :: l, cs, 0, n, g, h, ho => by
  simp only [List.getElem?_cons_zero, Option.some.injEq] at ho
  subst ho
  simp only [rdC] at h
  obtain ⟨u, c2, rfl, h1, h2, h3⟩ := h
  simp only [List.set_cons_zero, rdC]
  have e : u = .slice none 0 0 := by
   simp only [rd, zOk] at h2
   obtain ⟨a, cap, e, _, ⟨rfl, rfl⟩, _⟩ := h2
   exact e
  subst e
  exact ⟨_, c2, rfl, h1, by simp only [rd]; exact ⟨hat, rfl⟩, rdC_ro hro h3⟩
 | d :: l, cs, o + 1, n, g, h, ho => by
  simp only [List.getElem?_cons_succ] at ho
  simp only [rdC] at h
  obtain ⟨u, c2, rfl, h1, h2, h3⟩ := h
  simp only [List.set_cons_succ, rdC]
  exact ⟨u, c2, rfl, h1, rd_ro hro h2, rdC_nil hro hat h3 ho⟩
theorem weakQ_nilV {E : Env} {S : St} (j o T : Nat) {n' n : Nat} {g : Bool} {l : List V} (h : getA S.H j = some (.var n' true (.agg l))) (ho : l[o]? = some (.sl (some true) n g [])) (hg : g = false → n = 1) :
  WeakQ E S ⟨S.F, (S.nx, .own T n g (some true) []) :: setA S.H j (.var n' true (.agg (l.set o (.own S.nx)))), S.nx + 1⟩ := by
 intro c0 c ρ F hs
 have hf : ρ S.nx = none := hs.2 _ (Nat.le_refl _)
 have hro : roLe ρ (fun i => if i = S.nx then some (.slice none 0 0) else ρ i) := roLe_new hf fun i hi => by simp [hi]
 have hat : (fun i => if i = S.nx then some (Value.slice none 0 0) else ρ i) S.nx = some (.slice none 0 0) := by simp
 have hoth : ∀ i, i ≠ S.nx → (fun i => if i = S.nx then some (Value.slice none 0 0) else ρ i) i = ρ i := fun i hi => by simp [hi]
 generalize (fun i => if i = S.nx then some (Value.slice none 0 0) else ρ i) = ρ' at hro hat hoth
 obtain ⟨b0, g1, g2, g3⟩ := hs.1.heap _ _ h
 have hjn : j ≠ S.nx := fun e => by rw [e, hf] at g1; cases g1
 refine ⟨c, ρ', rfl, Cx.pub.refl _, hro, ⟨hs.1.since, hs.1.gl, fun t v ht => rd_ro hro (hs.1.slot t v ht), ?_, ?_⟩, ?_⟩
 ·intro i b hb
  simp only [getA] at hb
  split at hb
  ·rename_i e'; subst e'; cases hb
   exact ⟨_, hat, Own.nil, fun k hk => by simp [blk] at hk, hg, none, 0, rfl, rfl, rfl⟩
  ·rename_i hin
   rw [getA_setA] at hb
   split at hb
   ·rename_i e'; subst e'; cases hb
    obtain ⟨hX, T', cs, hh, hsh, hrd⟩ := g3
    refine ⟨b0, by rw [hoth _ hjn]; exact g1, g2, hX, T', cs, hh, hsh, ?_⟩
    simp only [mkV, rd] at hrd ⊢
    obtain ⟨cs', e1, e2⟩ := hrd
    exact ⟨cs', e1, rdC_nil hro hat e2 ho⟩
   ·exact blkOk_ro hro (hs.1.heap i b hb)
 ·intro a b ba bb k hab hba hbb hpa hpb hk hk'
  have hn : blkOf ρ' S.nx = none := by simp [blkOf, hat, blk]
  have hi : a ≠ S.nx := fun e' => by rw [e', hn] at hk; cases hk
  have hj : b ≠ S.nx := fun e' => by rw [e', hn] at hk'; cases hk'
  simp only [getA, Ne.symm hi, Ne.symm hj, if_false, getA_setA] at hba hbb
  rw [blkOf_eq (hoth a hi)] at hk
  rw [blkOf_eq (hoth b hj)] at hk'
  have back : ∀ {x : Nat} {bx : Blk}, (if j = x then some (Blk.var n' true (.agg (l.set o (.own S.nx)))) else getA S.H x) = some bx → privB bx = true → ∃ b', getA S.H x = some b' ∧ privB b' = true := by
   intro x bx hx hp
   split at hx
   ·rename_i e; subst e; exact ⟨_, h, rfl⟩
   ·exact ⟨bx, hx, hp⟩
  obtain ⟨ba', h1, h2⟩ := back hba hpa
  obtain ⟨bb', h3, h4⟩ := back hbb hpb
  exact hs.1.sep a b ba' bb' k hab h1 h3 h2 h4 hk hk'
 ·intro i hi
  have : i ≠ S.nx := fun e => by subst e; simp only at hi; omega
  rw [hoth i this]
  exact hs.2 i (by simp only at hi; omega)
theorem weak_nilV {E : Env} {S : St} (j o T : Nat) {n' n : Nat} {g : Bool} {l : List V} (h : getA S.H j = some (.var n' true (.agg l))) (ho : l[o]? = some (.sl (some true) n g [])) (hg : g = false → n = 1) :
  Weak E S ⟨S.F, (S.nx, .own T n g (some true) []) :: setA S.H j (.var n' true (.agg (l.set o (.own S.nx)))), S.nx + 1⟩ := (weakQ_nilV j o T h ho hg).weak
end Go.Proofs.YtjnikknlcmbcmaaGreatDoor
namespace Go.Proofs.YtjnikknlcmbcmaaGreatDoor
open Go.RowKit
@[go_sem] theorem app_cons {α : Type} {a : α} {l m : List α} : List.append (a :: l) m = a :: List.append l m := Eq.trans rfl rfl
@[go_sem] theorem app_nil {α : Type} {m : List α} : List.append [] m = m := Eq.trans rfl rfl
attribute [go_sem] Int.cast_ofNat_Int
@[go_sem] theorem lit_len {l : List UInt8} : (l.toArray.size ≤ LEN) = (l.length ≤ 1073741824) := by rw [List.size_toArray]; rfl
theorem spQ {P Q : Prop} (h : Q) (e : P = Q := by (simp only [go_sem, rowV_eq, rowV_eq0, List.length_replicate, rep_len, Int.toNat_natCast, ↓reduceIte, Nat.reduceEqDiff, Nat.reduceAdd, Int.reduceAdd, Nat.reduceMul, Nat.reduceLeDiff, Nat.reduceLT, Int.reduceLE, Int.reduceLT, Int.reduceNeg, Int.reduceToNat]; rfl)) : P := e ▸ h
theorem spQA {A P Q : Prop} (a : A) (h : Q) (e : A → P = Q := by (intro hA; simp only [go_sem, rowV_eq, rowV_eq0, List.length_replicate, rep_len, Int.toNat_natCast, ↓reduceIte, Nat.reduceEqDiff, Nat.reduceAdd, Int.reduceAdd, Nat.reduceMul, Nat.reduceLeDiff, Nat.reduceLT, Int.reduceLE, Int.reduceLT, Int.reduceNeg, Int.reduceToNat, hA]; rfl)) : P := e a ▸ h
theorem clQ {P : Prop} (h : P := by (simp only [go_sem, rowV_eq, rowV_eq0, List.length_replicate, rep_len, Int.toNat_natCast, ↓reduceIte, Nat.reduceEqDiff, Nat.reduceAdd, Int.reduceAdd, Nat.reduceMul, Nat.reduceLeDiff, Nat.reduceLT, Int.reduceLE, Int.reduceLT, Int.reduceNeg, Int.reduceToNat, gt_cons0, gt_conss, Int.reduceSub, or_self, or_true, true_or] <;> fail)) : P := h
theorem clQA {A P : Prop} (a : A) (h : A → P := by (intro hA; simp only [go_sem, rowV_eq, rowV_eq0, List.length_replicate, rep_len, Int.toNat_natCast, ↓reduceIte, Nat.reduceEqDiff, Nat.reduceAdd, Int.reduceAdd, Nat.reduceMul, Nat.reduceLeDiff, Nat.reduceLT, Int.reduceLE, Int.reduceLT, Int.reduceNeg, Int.reduceToNat, gt_cons0, gt_conss, Int.reduceSub, or_self, or_true, true_or, hA] <;> fail)) : P := h a
theorem lfQ {P : Prop} (h : P := by (simp only [go_sem, rowV_eq, rowV_eq0, List.length_replicate, rep_len, Int.toNat_natCast, ↓reduceIte, Nat.reduceEqDiff, Nat.reduceAdd, Int.reduceAdd, Nat.reduceMul, Nat.reduceLeDiff, Nat.reduceLT, Int.reduceLE, Int.reduceLT, Int.reduceNeg, Int.reduceToNat, gt_cons0, gt_conss, Int.reduceSub, or_self, or_true, true_or] <;> fail)) : P := h
theorem lfQA {A P : Prop} (a : A) (h : A → P := by (intro hA; simp only [go_sem, rowV_eq, rowV_eq0, List.length_replicate, rep_len, Int.toNat_natCast, ↓reduceIte, Nat.reduceEqDiff, Nat.reduceAdd, Int.reduceAdd, Nat.reduceMul, Nat.reduceLeDiff, Nat.reduceLT, Int.reduceLE, Int.reduceLT, Int.reduceNeg, Int.reduceToNat, gt_cons0, gt_conss, Int.reduceSub, or_self, or_true, true_or, hA] <;> fail)) : P := h a
theorem sbQ {P : Prop} (h : P := by (simp only [go_sem, rowV_eq, rowV_eq0, List.length_replicate, rep_len, Int.toNat_natCast, ↓reduceIte, Nat.reduceEqDiff, Nat.reduceAdd, Int.reduceAdd, Nat.reduceMul, Nat.reduceLeDiff, Nat.reduceLT, Int.reduceLE, Int.reduceLT, Int.reduceNeg, Int.reduceToNat, map_st, mtL_repE, mtL_repM, subF, subH, mtO, mtB, mt, mtL, mtL_self, mt_self, ltV, ltL, ltB, eq_self, or_true, true_or, or_self, and_self] <;> fail)) : P := h
theorem sbQA {A P : Prop} (a : A) (h : A → P := by (intro hA; simp only [go_sem, rowV_eq, rowV_eq0, List.length_replicate, rep_len, Int.toNat_natCast, ↓reduceIte, Nat.reduceEqDiff, Nat.reduceAdd, Int.reduceAdd, Nat.reduceMul, Nat.reduceLeDiff, Nat.reduceLT, Int.reduceLE, Int.reduceLT, Int.reduceNeg, Int.reduceToNat, map_st, mtL_repE, mtL_repM, subF, subH, mtO, mtB, mt, mtL, mtL_self, mt_self, ltV, ltL, ltB, eq_self, or_true, true_or, or_self, and_self, hA] <;> fail)) : P := h a
theorem alQ {P : Prop} (h : P := by first | (simp only [go_sem, rowV_eq, rowV_eq0, List.length_replicate, rep_len, Int.toNat_natCast, ↓reduceIte, Nat.reduceEqDiff, Nat.reduceAdd, Int.reduceAdd, Nat.reduceMul, Nat.reduceLeDiff, Nat.reduceLT, Int.reduceLE, Int.reduceLT, Int.reduceNeg, Int.reduceToNat, List.all_nil, List.all_cons]; done) | rfl) : P := h
theorem nzQ {P Q : Prop} (h : P) (e : P = Q := by first | (simp only [decide_eq_true_eq, decide_eq_false_iff_not, Bool.and_eq_true, Bool.or_eq_true, Bool.not_eq_true', Bool.not_eq_false', beq_iff_eq, bne_iff_ne, beq_eq_false_iff_ne, bne_eq_false_iff_eq, ne_eq, Int.not_lt, Int.not_le, gt_iff_lt, ge_iff_le, List.length_map, wfL, wfV, and_true, true_and, LEN_eq, rng_i64, rng_u64, rng_u32, rng_i32, sl_len, st_len, List.length_append, List.length_cons, List.length_nil, List.length_replicate, rep_len, rowV_len, spl_len, cutN_len, arrN_len, nat8_len, remI_nn]; rfl) | rfl) : Q := e ▸ h
theorem omQ {P : Prop} (h : P := by (clear hM; (try simp only [List.length_map, List.length_set, sl_len, st_len, List.length_append, List.length_cons, List.length_nil, List.length_replicate, rep_len, rowV_len, spl_len, cutN_len, arrN_len, nat8_len, decide_eq_true_eq]) <;> omega)) : P := h
theorem omQ' {P : Prop} (h : P := by ((try simp only [List.length_map, List.length_set, sl_len, st_len, List.length_append, List.length_cons, List.length_nil, List.length_replicate, rep_len, rowV_len, spl_len, cutN_len, arrN_len, nat8_len, decide_eq_true_eq]) <;> omega)) : P := h
theorem pfQ {P : Prop} (h : P := by (clear hM; first | omega | (simp only [decide_eq_true_eq, decide_eq_false_iff_not, Bool.and_eq_true, Bool.or_eq_true, Bool.not_eq_true', Bool.not_eq_false', beq_iff_eq, bne_iff_ne, beq_eq_false_iff_ne, bne_eq_false_iff_eq, ne_eq, Int.not_lt, Int.not_le, gt_iff_lt, ge_iff_le, List.length_map, wfL, wfV, and_true, true_and, LEN_eq, rng_i64, rng_u64, rng_u32, rng_i32, sl_len, st_len, List.length_append, List.length_cons, List.length_nil, List.length_replicate, rep_len, rowV_len, spl_len, cutN_len, arrN_len, nat8_len, remI_nn] at *; omega))) : P := h
theorem spR {P Q : Prop} (h : P) (e : P = Q := by first | (simp only [go_sem, rowV_eq, rowV_eq0, List.length_replicate, rep_len, Int.toNat_natCast, ↓reduceIte, Nat.reduceEqDiff, Nat.reduceAdd, Int.reduceAdd, Nat.reduceMul, Nat.reduceLeDiff, Nat.reduceLT, Int.reduceLE, Int.reduceLT, Int.reduceNeg, Int.reduceToNat]; rfl) | rfl) : Q := e ▸ h
end Go.Proofs.YtjnikknlcmbcmaaGreatDoor
namespace Go.Proofs.YtjnikknlcmbcmaaGreatDoor
open Go.RowKit
section
variable {E : Env} {J : Cuts} {k : List Ct} {S S1 : St} {c0 c : Cx} {ρ : Ro} {F : Fm}
mutual
def ren (s : Nat → Nat) : V → V
 | .own i => .own (s i)
 | .ptr i o => .ptr (s i) o
 | .optr i m k o => .optr (s i) m k o
 | .osub i m k o => .osub (s i) m k o
 | .agg l => .agg (renL s l)
 | .tup l => .tup (renL s l)
 | .fn f l => .fn f (renL s l)
 | v => v
def renL (s : Nat → Nat) : List V → List V
 | [] => []
 | d :: l => ren s d :: renL s l
end
mutual
theorem ren_rd {ρ' : Ro} {s : Nat → Nat} (k : ∀ i v, ρ i = some v → ρ' (s i) = some v) : ∀ {d : V} {v : Value}, rd ρ c d v → rd ρ' c (ren s d) v
 | .int _ _, _, h => h
 | .bool _, _, h => h
 | .ifc _, _, h => h
 | .str _, _, h => h
 | .agg l, v, h => by
  simp only [rd, ren] at h ⊢
  obtain ⟨cs, e, h⟩ := h
  exact ⟨cs, e, ren_rdC k h⟩
 | .sl z n g l, v, h => h
 | .pp n g d, v, h => h
 | .own _, _, h => ⟨k _ _ h.1, h.2⟩
 | .ptr _ _, _, h => by
  simp only [rd, ren] at h ⊢
  obtain ⟨b, h1, h2⟩ := h
  exact ⟨b, k _ _ h1, h2⟩
 | .optr _ _ _ _, _, h => by
  simp only [rd, ren] at h ⊢
  obtain ⟨u, h1, h2⟩ := h
  exact ⟨u, k _ _ h1, h2⟩
 | .osub _ _ _ _, _, h => by
  simp only [rd, ren] at h ⊢
  obtain ⟨u, h1, h2⟩ := h
  exact ⟨u, k _ _ h1, h2⟩
 | .tup l, v, h => by
  simp only [rd, ren] at h ⊢
  obtain ⟨cs, e, h⟩ := h
  exact ⟨cs, e, ren_rdT k h⟩
 | .fn f l, v, h => by
  simp only [rd, ren] at h ⊢
  obtain ⟨cs, e, h⟩ := h
  exact ⟨cs, e, ren_rdT k h⟩
 | .opq p, v, h => h
 | .un, _, _ => trivial
theorem ren_rdC {ρ' : Ro} {s : Nat → Nat} (k : ∀ i v, ρ i = some v → ρ' (s i) = some v) : ∀ {l : List V} {cs : List Value}, rdC ρ c l cs → rdC ρ' c (renL s l) cs
 | [], _, h => h
 | d :: l, cs, h => by
  simp only [rdC, renL] at h ⊢
  obtain ⟨u, c2, e, h1, h2, h3⟩ := h
  exact ⟨u, c2, e, h1, ren_rd k h2, ren_rdC k h3⟩
theorem ren_rdT {ρ' : Ro} {s : Nat → Nat} (k : ∀ i v, ρ i = some v → ρ' (s i) = some v) : ∀ {l : List V} {cs : List Value}, rdT ρ c l cs → rdT ρ' c (renL s l) cs
 | [], _, h => h
 | d :: l, cs, h => by
  simp only [rdT, renL] at h ⊢
  obtain ⟨u, c2, e, h2, h3⟩ := h
  exact ⟨u, c2, e, ren_rd k h2, ren_rdT k h3⟩
end
def renB (s : Nat → Nat) : Blk → Blk
 | .var n g d => .var n g (ren s d)
 | b => b
def renBs (s : Nat → Nat) : List Blk → List Blk
 | [] => []
 | b :: l => renB s b :: renBs s l
theorem renBs_get {s : Nat → Nat} : ∀ {l : List Blk} {j : Nat}, (renBs s l)[j]? = (l[j]?).map (renB s)
 | [], j => by simp [renBs]
 | b :: l, 0 => by simp [renBs]
 | b :: l, j + 1 => by simp [renBs, renBs_get (l := l)]
mutual
def prV (p : Nat → Bool) : V → V
 | .own i => bif p i then .un else .own i
 | .ptr i o => bif p i then .un else .ptr i o
 | .optr i n k o => bif p i then .un else .optr i n k o
 | .osub i n k o => bif p i then .un else .osub i n k o
 | .agg l => .agg (prL p l)
 | .tup l => .tup (prL p l)
 | .fn f l => .fn f (prL p l)
 | v => v
def prL (p : Nat → Bool) : List V → List V
 | [] => []
 | d :: l => prV p d :: prL p l
end
mutual
theorem pr_rd {ρ' : Ro} {p : Nat → Bool} (k : ∀ i v, p i = false → ρ i = some v → ρ' i = some v) : ∀ {d : V} {v : Value}, rd ρ c d v → rd ρ' c (prV p d) v
 | .int _ _, _, h => h
 | .bool _, _, h => h
 | .ifc _, _, h => h
 | .str _, _, h => h
 | .agg l, v, h => by
  simp only [rd, prV] at h ⊢
  obtain ⟨cs, e, h⟩ := h
  exact ⟨cs, e, pr_rdC k h⟩
 | .sl z n g l, v, h => h
 | .pp n g d, v, h => h
 | .own i, v, h => by
  simp only [prV]
  cases hp : p i with
  | true => trivial
  | false => exact ⟨k _ _ hp h.1, h.2⟩
 | .ptr i o, v, h => by
  simp only [prV]
  cases hp : p i with
  | true => trivial
  | false =>
   simp only [cond_false, rd] at h ⊢
   obtain ⟨b, h1, h2⟩ := h
   exact ⟨b, k _ _ hp h1, h2⟩
 | .optr i n j o, v, h => by
  simp only [prV]
  cases hp : p i with
  | true => trivial
  | false =>
   simp only [cond_false, rd] at h ⊢
   obtain ⟨u, h1, h2⟩ := h
   exact ⟨u, k _ _ hp h1, h2⟩
 | .osub i n j o, v, h => by
  simp only [prV]
  cases hp : p i with
  | true => trivial
  | false =>
   simp only [cond_false, rd] at h ⊢
   obtain ⟨u, h1, h2⟩ := h
   exact ⟨u, k _ _ hp h1, h2⟩
 | .tup l, v, h => by
  simp only [rd, prV] at h ⊢
  obtain ⟨cs, e, h⟩ := h
  exact ⟨cs, e, pr_rdT k h⟩
 | .fn f l, v, h => by
  simp only [rd, prV] at h ⊢
  obtain ⟨cs, e, h⟩ := h
  exact ⟨cs, e, pr_rdT k h⟩
 | .opq p, v, h => h
 | .un, _, _ => trivial
theorem pr_rdC {ρ' : Ro} {p : Nat → Bool} (k : ∀ i v, p i = false → ρ i = some v → ρ' i = some v) : ∀ {l : List V} {cs : List Value}, rdC ρ c l cs → rdC ρ' c (prL p l) cs
 | [], _, h => h
 | d :: l, cs, h => by
  simp only [rdC, prL] at h ⊢
  obtain ⟨u, c2, e, h1, h2, h3⟩ := h
  exact ⟨u, c2, e, h1, pr_rd k h2, pr_rdC k h3⟩
theorem pr_rdT {ρ' : Ro} {p : Nat → Bool} (k : ∀ i v, p i = false → ρ i = some v → ρ' i = some v) : ∀ {l : List V} {cs : List Value}, rdT ρ c l cs → rdT ρ' c (prL p l) cs
 | [], _, h => h
 | d :: l, cs, h => by
  simp only [rdT, prL] at h ⊢
  obtain ⟨u, c2, e, h2, h3⟩ := h
  exact ⟨u, c2, e, pr_rd k h2, pr_rdT k h3⟩
end
theorem prL_map {p : Nat → Bool} : ∀ {l : List V}, prL p l = l.map (prV p)
 | [] => rfl
 | d :: l => by simp only [prL, List.map_cons, prL_map]
def prB (p : Nat → Bool) : Blk → Blk
 | .var n g d => .var n g (prV p d)
 | .lent k n g d => .lent k n g (prV p d)
 | .ownI E n g z l => .ownI E n g z (prL p l)
 | b => b
def prF (p : Nat → Bool) : List (Nat × V) → List (Nat × V)
 | [] => []
 | (t, v) :: l => (t, prV p v) :: prF p l
def prH (p : Nat → Bool) : List (Nat × Blk) → List (Nat × Blk)
 | [] => []
 | (t, b) :: l => (t, prB p b) :: prH p l
theorem getA_prF {p : Nat → Bool} : ∀ {l : List (Nat × V)} {t : Nat}, getA (prF p l) t = (getA l t).map (prV p)
 | [], _ => rfl
 | (k, v) :: l, t => by
  simp only [prF, getA]
  split
  ·rfl
  ·exact getA_prF
theorem getA_prH {p : Nat → Bool} : ∀ {l : List (Nat × Blk)} {t : Nat}, getA (prH p l) t = (getA l t).map (prB p)
 | [], _ => rfl
 | (k, v) :: l, t => by
  simp only [prH, getA]
  split
  ·rfl
  ·exact getA_prH
theorem privB_pr {p : Nat → Bool} {b : Blk} : privB (prB p b) = privB b := by cases b <;> rfl
theorem blkOk_some {i : Nat} {b : Blk} (h : blkOk c0 c ρ i b) : ∃ v, ρ i = some v := by
 cases b with
 | var n g d => obtain ⟨b, h1, _⟩ := h; exact ⟨_, h1⟩
 | own E n g z l => obtain ⟨v, h1, _⟩ := h; exact ⟨_, h1⟩
 | ownI E n g z l => obtain ⟨v, h1, _⟩ := h; exact ⟨_, h1⟩
 | pvar n g d => obtain ⟨b, h1, _⟩ := h; exact ⟨_, h1⟩
 | kset g k n l => obtain ⟨r, h1, _⟩ := h; exact ⟨_, h1⟩
 | pown n g z l => obtain ⟨v, h1, _⟩ := h; exact ⟨_, h1⟩
 | lent k n g d => exact ⟨_, h.1⟩
def lentB (k : Nat) : Blk → Blk
 | .var n g d => .lent k n g d
 | b => b
def lentL (ks : Nat → Nat) : Nat → List Blk → List Blk
 | _, [] => []
 | i, b :: l => lentB (ks i) b :: lentL ks (i + 1) l
theorem lentL_get {ks : Nat → Nat} : ∀ {l : List Blk} {i j : Nat}, (lentL ks i l)[j]? = (l[j]?).map (lentB (ks (i + j)))
 | [], i, j => by simp [lentL]
 | b :: l, i, 0 => by simp [lentL]
 | b :: l, i, j + 1 => by simp [lentL, lentL_get (l := l), Nat.add_comm, Nat.add_left_comm, Nat.add_assoc]
theorem lentL_len {ks : Nat → Nat} : ∀ {l : List Blk} {i : Nat}, (lentL ks i l).length = l.length
 | [], i => rfl
 | b :: l, i => by simp [lentL, lentL_len (l := l)]
def HOkI (c0 c : Cx) (ρ : Ro) (H : List Blk) : Prop :=
 (∀ i b, H[i]? = some b → blkOk c0 c ρ i b) ∧ (∀ i, H.length ≤ i → ρ i = none) ∧
  ∀ i j bi bj k, i ≠ j → H[i]? = some bi → H[j]? = some bj → blkOf ρ i = some k → blkOf ρ j ≠ some k
def kndB : List Blk → List Blk → Bool
 | [], [] => true
 | .var _ _ _ :: l, .var _ _ _ :: m => kndB l m
 | .own _ _ _ _ _ :: l, .own _ _ _ _ _ :: m => kndB l m
 | _, _ => false
def ownsB : List Blk → Bool
 | [] => true
 | .own _ _ _ _ _ :: l => ownsB l
 | _ => false
def isVarB : Blk → Prop
 | .var _ _ _ => True
 | _ => False
def isOwnB : Blk → Prop
 | .own _ _ _ _ _ => True
 | _ => False
theorem kndB_spec : ∀ {l m : List Blk}, kndB l m = true → l.length = m.length ∧ ∀ (j : Nat) (b b' : Blk), l[j]? = some b → m[j]? = some b' → (isVarB b ∧ isVarB b') ∨ (isOwnB b ∧ isOwnB b')
 | [], [], _ => ⟨rfl, by simp⟩
 | a :: l, a' :: m, h => by
  have key : kndB l m = true ∧ ((isVarB a ∧ isVarB a') ∨ (isOwnB a ∧ isOwnB a')) := by
   cases a <;> cases a' <;> simp only [kndB] at h <;> first
    | exact ⟨h, .inl ⟨trivial, trivial⟩⟩
    | exact ⟨h, .inr ⟨trivial, trivial⟩⟩
    | cases h
  obtain ⟨h1, h2⟩ := kndB_spec key.1
  refine ⟨by simp [h1], fun j b b' hb hb' => ?_⟩
  cases j with
  | zero => simp at hb hb'; subst hb hb'; exact key.2
  | succ j => exact h2 j b b' (by simpa using hb) (by simpa using hb')
 | [], _ :: _, h => by simp [kndB] at h
 | a :: _, [], h => by cases a <;> simp [kndB] at h
theorem ownsB_spec : ∀ {l : List Blk}, ownsB l = true → ∀ (j : Nat) (b : Blk), l[j]? = some b → isOwnB b
 | [], _, j, b, hb => by simp at hb
 | a :: l, h, j, b, hb => by
  have key : ownsB l = true ∧ isOwnB a := by
   cases a <;> simp only [ownsB] at h <;> first
    | exact ⟨h, trivial⟩
    | cases h
  cases j with
  | zero => simp at hb; subst hb; exact key.2
  | succ j => exact ownsB_spec key.1 j b (by simpa using hb)
def PostI (E : Env) (c : Cx) (r : V) (H : List Blk) : Ending → World → Prop := fun e w' => ∃ v c' ρ, e = .returned v ∧ c'.w = w' ∧ c.leY c' ∧ rd ρ c' r v ∧ HOkI c c' ρ H
def CallIn (E : Env) (f : FuncId) (ws : List V) (Hin : List Blk) (r : V) (Hout Hnew : List Blk) : Prop :=
 (∀ aas w, (callFunc f aas).run E.P w = .ok (.enter f aas) w) ∧ (kndB Hin Hout && ownsB Hnew) = true ∧
  ∀ (c : Cx) (us : List Value) (ρ0 : Ro) (ks : Nat → Nat), Gl E c → HOkI c c ρ0 (lentL ks 0 Hin) → rdT ρ0 c ws us → Calls E.P f us.toArray c.w (PostI E c r (lentL ks 0 Hout ++ Hnew))
mutual
def inV (H : List (Nat × Blk)) (ids : List Nat) : V → V
 | .own i => match posN ids i 0 with
  | some j => .own j
  | none => pubV (getA H i)
 | .ptr i o => match posN ids i 0 with
  | some j => .ptr j o
  | none => pubP o (getA H i)
 | .optr _ _ _ _ => .un
 | .osub _ _ _ _ => .un
 | .agg l => .agg (inVL H ids l)
 | .tup l => .tup (inVL H ids l)
 | .fn f l => .fn f (inVL H ids l)
 | v => v
def inVL (H : List (Nat × Blk)) (ids : List Nat) : List V → List V
 | [] => []
 | d :: l => inV H ids d :: inVL H ids l
end
theorem ro0_some {i : Nat} {v : Value} (h : ro0 i = some v) : False := by cases h
mutual
theorem inV_rd {ids : List Nat} (h : Sim E c0 c ρ S F) : ∀ {d : V} {v : Value}, rd ρ c d v → rd (roIds ρ ids) c (inV S.H ids d) v
 | .int _ _, _, hr => hr
 | .bool _, _, hr => hr
 | .ifc _, _, hr => hr
 | .str _, _, hr => hr
 | .agg l, v, hr => by
  simp only [rd, inV] at hr ⊢
  obtain ⟨cs, e, hr⟩ := hr
  exact ⟨cs, e, inV_rdC h hr⟩
 | .sl z n g l, v, hr => hr
 | .pp n g d, v, hr => hr
 | .own i, v, hr => by
  simp only [inV]
  cases hp : posN ids i 0 with
  | some j =>
   simp only [rd] at hr ⊢
   obtain ⟨_, h2⟩ := posN_some hp
   exact ⟨by simp only [roIds]; rw [show j - 0 = j from rfl] at h2; rw [h2]; exact hr.1, hr.2⟩
  | none => exact rd_ro (fun i v hi => (ro0_some hi).elim) (gview_rd (d := .own i) h hr)
 | .ptr i o, v, hr => by
  simp only [inV]
  cases hp : posN ids i 0 with
  | some j =>
   simp only [rd] at hr ⊢
   obtain ⟨b, h1, h3⟩ := hr
   obtain ⟨_, h2⟩ := posN_some hp
   exact ⟨b, by simp only [roIds]; rw [show j - 0 = j from rfl] at h2; rw [h2]; exact h1, h3⟩
  | none => exact rd_ro (fun i v hi => (ro0_some hi).elim) (gview_rd (d := .ptr i o) h hr)
 | .optr _ _ _ _, _, _ => trivial
 | .osub _ _ _ _, _, _ => trivial
 | .tup l, v, hr => by
  simp only [rd, inV] at hr ⊢
  obtain ⟨cs, e, hr⟩ := hr
  exact ⟨cs, e, inV_rdT h hr⟩
 | .fn f l, v, hr => by
  simp only [rd, inV] at hr ⊢
  obtain ⟨cs, e, hr⟩ := hr
  exact ⟨cs, e, inV_rdT h hr⟩
 | .opq p, v, hr => hr
 | .un, _, _ => trivial
theorem inV_rdC {ids : List Nat} (h : Sim E c0 c ρ S F) : ∀ {l : List V} {cs : List Value}, rdC ρ c l cs → rdC (roIds ρ ids) c (inVL S.H ids l) cs
 | [], _, hr => hr
 | d :: l, cs, hr => by
  simp only [rdC, inVL] at hr ⊢
  obtain ⟨u, c2, e, h1, h2, h3⟩ := hr
  exact ⟨u, c2, e, h1, inV_rd h h2, inV_rdC h h3⟩
theorem inV_rdT {ids : List Nat} (h : Sim E c0 c ρ S F) : ∀ {l : List V} {cs : List Value}, rdT ρ c l cs → rdT (roIds ρ ids) c (inVL S.H ids l) cs
 | [], _, hr => hr
 | d :: l, cs, hr => by
  simp only [rdT, inVL] at hr ⊢
  obtain ⟨u, c2, e, h2, h3⟩ := hr
  exact ⟨u, c2, e, inV_rd h h2, inV_rdT h h3⟩
end
theorem own_mt {T n : Nat} {g : Bool} {l l' : List V} {v : Value} (h : Own c T v (rV ro0 n g) l) (hm : mtL l l') : Own c T v (rV ro0 n g) l' := by
 have e := mtL_len hm
 refine ⟨by rw [← e]; exact h.1, ?_⟩
 rcases h.2 with ⟨a, h1, h2⟩ | ⟨g', cp, cur, h1, h2, h3, h4, h5, h6, h7⟩
 ·subst h2
  cases l' with
  | nil => exact .inl ⟨a, h1, rfl⟩
  | cons x l' => simp [mtL] at hm
 ·exact .inr ⟨g', cp, cur, by rw [← e]; exact h1, h2, h3, by rw [← e]; exact h4, h5, h6, by rw [← e]; exact rdE_arr.1 (mt_rdE hm (rdE_arr.2 h7))⟩
def inO (H : List (Nat × Blk)) (ids : List Nat) : Option Blk → Blk → Prop
 | some (.own T n g z l), .own T' n' g' z' l' => T = T' ∧ n = n' ∧ g = g' ∧ mtZ z z' ∧ mtL l l'
 | some (.var n g d), .var n' g' d' => n = n' ∧ g = g' ∧ mt (inV H ids d) d'
 | some (.lent _ n g d), .var n' g' d' => n = n' ∧ g = g' ∧ mt (inV H ids d) d'
 | _, _ => False
def insB (H : List (Nat × Blk)) (ids : List Nat) : List Nat → List Blk → Prop
 | [], [] => True
 | i :: l, b :: m => inO H ids (getA H i) b ∧ insB H ids l m
 | _, _ => False
theorem insB_get {H : List (Nat × Blk)} {ids : List Nat} : ∀ {l : List Nat} {m : List Blk}, insB H ids l m → l.length = m.length ∧ ∀ (j i : Nat) (b : Blk), l[j]? = some i → m[j]? = some b → inO H ids (getA H i) b
 | [], [], _ => ⟨rfl, by simp⟩
 | i :: l, b :: m, h => by
  simp only [insB] at h
  obtain ⟨h1, h2⟩ := insB_get h.2
  refine ⟨by simp [h1], fun j i' b' hi hb => ?_⟩
  cases j with
  | zero => simp at hi hb; subst hi hb; exact h.1
  | succ j => exact h2 j i' b' (by simpa using hi) (by simpa using hb)
 | [], _ :: _, h => by simp [insB] at h
 | _ :: _, [], h => by simp [insB] at h
def ownIds (H : List (Nat × Blk)) : List Nat → List Nat
 | [] => []
 | i :: l => ownI1 (getA H i) i (ownIds H l)
where ownI1 : Option Blk → Nat → List Nat → List Nat
 | some (.own _ _ _ _ _), i, l => i :: l
 | _, _, l => l
theorem ownIds_mem {H : List (Nat × Blk)} {i : Nat} {T n : Nat} {g : Bool} {z : Option Bool} {m : List V} (hb : getA H i = some (.own T n g z m)) : ∀ {l : List Nat}, i ∈ l → i ∈ ownIds H l
 | j :: l, h => by
  simp only [ownIds]
  rcases List.mem_cons.1 h with rfl | h
  ·rw [hb]; simp [ownIds.ownI1]
  ·have := ownIds_mem hb h
   unfold ownIds.ownI1
   split
   ·exact List.mem_cons_of_mem _ this
   ·exact this
def sg (ids : List Nat) (nx j : Nat) : Nat := match ids[j]? with
 | some i => i
 | none => nx + (j - ids.length)
def backB : Option Blk → Blk → Blk
 | some (.lent k _ _ _), .var n g d => .lent k n g d
 | _, b => b
def setIds (H0 : List (Nat × Blk)) : List (Nat × Blk) → List Nat → List Blk → List (Nat × Blk)
 | h, i :: l, b :: m => setIds H0 (setA h i (backB (getA H0 i) b)) l m
 | h, _, _ => h
theorem setIds_out {H0 : List (Nat × Blk)} {i : Nat} : ∀ {l : List Nat} {m : List Blk} {h : List (Nat × Blk)}, i ∉ l → getA (setIds H0 h l m) i = getA h i
 | [], [], _, _ => rfl
 | [], _ :: _, _, _ => rfl
 | _ :: _, [], _, _ => rfl
 | j :: l, b :: m, h, hi => by
  simp only [List.mem_cons, not_or] at hi
  simp only [setIds]
  rw [setIds_out hi.2, getA_setA, if_neg (Ne.symm hi.1)]
theorem setIds_in {H0 : List (Nat × Blk)} {i : Nat} {b : Blk} : ∀ {l : List Nat} {m : List Blk} {h : List (Nat × Blk)} {j : Nat}, l.Nodup → l[j]? = some i → m[j]? = some b → getA (setIds H0 h l m) i = some (backB (getA H0 i) b)
 | [], _, _, j, _, hi, _ => by simp at hi
 | _ :: _, [], _, j, _, _, hb => by simp at hb
 | x :: l, y :: m, h, 0, hd, hi, hb => by
  simp at hi hb
  subst hi hb
  simp only [setIds]
  rw [setIds_out (List.nodup_cons.1 hd).1, getA_setA, if_pos rfl]
 | x :: l, y :: m, h, j + 1, hd, hi, hb => by
  simp only [setIds]
  exact setIds_in (List.nodup_cons.1 hd).2 (by simpa using hi) (by simpa using hb)
def St.afterI (S : St) (ids : List Nat) (Hout Hnew : List Blk) (d : Option Nat) (r : V) : St :=
 St.put ⟨prF (memN (ownIds S.H ids)) S.F, shiftH S.nx 0 (renBs (sg ids S.nx) Hnew) ++ setIds S.H (prH (memN (ownIds S.H ids)) S.H) ids (renBs (sg ids S.nx) Hout), S.nx + Hnew.length⟩ d (ren (sg ids S.nx) r)
def ro2 (ids : List Nat) (nx : Nat) (ρ ρr : Ro) : Ro := fun i => match posN ids i 0 with
 | some j => ρr j
 | none => if i < nx then ρ i else ρr (ids.length + (i - nx))
theorem posN_get {ids : List Nat} {i j : Nat} (hd : ids.Nodup) (h : ids[j]? = some i) : posN ids i 0 = some j := by
 cases hp : posN ids i 0 with
 | none => exact absurd (List.mem_of_getElem? h) (posN_none hp)
 | some q =>
  obtain ⟨_, h2⟩ := posN_some hp
  rw [nodup_idx hd h h2]
  rfl
theorem posN_not {ids : List Nat} {i : Nat} (h : i ∉ ids) : posN ids i 0 = none := by
 cases hp : posN ids i 0 with
 | none => rfl
 | some q =>
  obtain ⟨_, h2⟩ := posN_some hp
  exact absurd (List.mem_of_getElem? h2) h
theorem ro2_in {ids : List Nat} {nx i j : Nat} {ρr : Ro} (hd : ids.Nodup) (h : ids[j]? = some i) : ro2 ids nx ρ ρr i = ρr j := by
 simp only [ro2, posN_get hd h]
theorem ro2_old {ids : List Nat} {nx i : Nat} {ρr : Ro} (h : i ∉ ids) (hi : i < nx) : ro2 ids nx ρ ρr i = ρ i := by
 simp only [ro2, posN_not h, if_pos hi]
theorem ro2_new {ids : List Nat} {nx i : Nat} {ρr : Ro} (h : ∀ j ∈ ids, j < nx) (hi : nx ≤ i) : ro2 ids nx ρ ρr i = ρr (ids.length + (i - nx)) := by
 have : i ∉ ids := fun e => by have := h i e; omega
 simp only [ro2, posN_not this, if_neg (Nat.not_lt.2 hi)]
theorem ro2_sg {ids : List Nat} {nx : Nat} {ρr : Ro} (hd : ids.Nodup) (h : ∀ j ∈ ids, j < nx) (j : Nat) : ro2 ids nx ρ ρr (sg ids nx j) = ρr j := by
 unfold sg
 cases hj : ids[j]? with
 | some i => exact ro2_in hd hj
 | none =>
  have hle := List.getElem?_eq_none_iff.1 hj
  rw [ro2_new h (Nat.le_add_right _ _)]
  congr 1; omega
theorem Var.leY {α : Type} {c c' : Cx} {b : Nat} {r : Rep α} {d : α} (h : c.leY c') (hp : c.pub c') (hb : b ∉ c.Y) (hv : Var c b r d) : Var c' b r d := by
 obtain ⟨h1, T, cs, h2, h3⟩ := hv
 have hlt := c.ok b h1
 exact ⟨(h.old b hlt hb).2 h1, T, cs, (h.below.block b hlt hb).trans h2, r.mono h3 hp⟩
theorem Own.leY {α : Type} {c c' : Cx} {E : TypeId} {v : Value} {r : Rep α} {l : List α} (ho : Own c E v r l) (h : c.leY c') (hp : c.pub c') (hb : ∀ i, blk v = some i → i ∉ c.Y) : Own c' E v r l := by
 refine ⟨ho.1, ?_⟩
 rcases ho.2 with h' | ⟨g', cap, cur, rfl, h1, h2, h3, h4, h5, h6⟩
 ·exact .inl h'
 ·have hlt := c.ok g' h1
  exact .inr ⟨g', cap, cur, rfl, (h.old g' hlt (hb g' rfl)).2 h1, (h.below.block g' hlt (hb g' rfl)).trans h2, h3, h4, h5, arrIs_mono hp h6⟩
theorem MSet.leY {c c' : Cx} {r : Nat} {g : Bool} {k : IntKind} {n : Nat} {l : List (List Int)} (h : c.leY c') (hb : r ∉ c.Y) (hv : MSet c r g k n l) : MSet c' r g k n l := by
 obtain ⟨h1, h2, es, clock, h3, h4⟩ := hv
 have hlt := c.ok r h1
 exact ⟨(h.old r hlt hb).2 h1, h2, es, clock, (h.below.block r hlt hb).trans h3, h4⟩
theorem blkOk_leY {Y : List Nat} {c' : Cx} (h : (c.lend Y).leY c') (hp : c.pub c') {i : Nat} {b : Blk} (hne : privB b = true → ∀ x, blkOf ρ i = some x → x ∉ Y) (hb : blkOk c0 c ρ i b) : blkOk c0 c' ρ i b := by
 have hp' : (c.lend Y).pub c' := ⟨hp.size, fun k hk hx => hp.keep k hk hx⟩
 cases b with
 | var n g d =>
  obtain ⟨b, h1, h2, h3⟩ := hb
  exact ⟨b, h1, h2, Var.leY h hp' (hne rfl b (by simp [blkOf, h1])) ((c.chg_lend Y).var (by simp) h3)⟩
 | own E n g z l =>
  obtain ⟨v, h1, h2, h3, h4, a, cap, e, h5⟩ := hb
  exact ⟨v, h1, (h2.chg (c.chg_lend Y) (by simp)).leY h hp' (fun x hx => hne rfl x (by rw [blkOf_own h1 e]; exact hx)), h3, h4, a, cap, e, h5⟩
 | ownI E n g z l =>
  obtain ⟨v, h1, h2, h3, h4, a, cap, e, h5⟩ := hb
  exact ⟨v, h1, (h2.chg (c.chg_lend Y) (by simp)).leY h hp' (fun x hx => hne rfl x (by rw [blkOf_own h1 e]; exact hx)), h3, h4, a, cap, e, h5⟩
 | kset g k' n l =>
  obtain ⟨r, h1, h2, h3⟩ := hb
  exact ⟨r, h1, h2, MSet.leY h (hne rfl r (by simp [blkOf, h1, blk])) (h3.chg (c.chg_lend Y) (by simp))⟩
 | pvar n g d =>
  obtain ⟨b, h1, h2⟩ := hb
  exact ⟨b, h1, (rvPt _).mono h2 hp⟩
 | pown n g z l =>
  obtain ⟨v, h1, h2⟩ := hb
  exact ⟨v, h1, rd_mono hp h2⟩
 | lent k' n g d =>
  obtain ⟨h1, h2, h3⟩ := hb
  exact ⟨h1, h2, Var.leY h hp' (hne rfl k' (by simp [blkOf, h1])) ((c.chg_lend Y).var (by simp) h3)⟩
theorem blkOk_pr {ρ' : Ro} {p : Nat → Bool} {i : Nat} {b : Blk} (k : ∀ i v, p i = false → ρ i = some v → ρ' i = some v) (hi : ∀ v, ρ i = some v → ρ' i = some v) (h : blkOk c0 c ρ i b) : blkOk c0 c ρ' i (prB p b) := by
 cases b with
 | var n g d =>
  obtain ⟨b, h1, h2, h3, T, cs, h4, h5, h6⟩ := h
  exact ⟨b, hi _ h1, h2, h3, T, cs, h4, h5, pr_rd k h6⟩
 | own E n g z l =>
  obtain ⟨v, h1, h2⟩ := h
  exact ⟨v, hi _ h1, h2⟩
 | ownI E n g z l =>
  obtain ⟨v, h1, h2, h3, h4, h5⟩ := h
  simp only [prB, blkOk, prL_map]
  exact ⟨v, hi _ h1, Own.rep (f := prV p) (r := rV ρ n g) (s := rV ρ' n g) (fun {cs d} (h1 : shapeOk n g cs ∧ rd ρ c d (mkV g cs)) => ⟨h1.1, pr_rd k h1.2⟩) rfl h2, h3, h4, by simpa using h5⟩
 | kset g k' n l =>
  obtain ⟨r, h1, h2⟩ := h
  exact ⟨r, hi _ h1, h2⟩
 | pvar n g d =>
  obtain ⟨b, h1, h2⟩ := h
  exact ⟨b, hi _ h1, h2⟩
 | pown n g z l =>
  obtain ⟨v, h1, h2⟩ := h
  exact ⟨v, hi _ h1, h2⟩
 | lent k' n g d =>
  obtain ⟨h1, h2, h3, T, cs, h4, h5, h6⟩ := h
  exact ⟨hi _ h1, h2, h3, T, cs, h4, h5, pr_rd k h6⟩
def lentY (ρ : Ro) (ids : List Nat) : List Nat := ids.filterMap (blkOf ρ)
def lentK (ρ : Ro) (ids : List Nat) (j : Nat) : Nat := match ids[j]? with
 | some i => (blkOf ρ i).getD 0
 | none => 0
theorem inO_priv {H : List (Nat × Blk)} {ids : List Nat} {o : Option Blk} {b : Blk} (h : inO H ids o b) : ∃ a, o = some a ∧ privB a = true ∧ (isVarB b ∨ isOwnB b) := by
 unfold inO at h
 split at h
 ·exact ⟨_, rfl, rfl, .inr trivial⟩
 ·exact ⟨_, rfl, rfl, .inl trivial⟩
 ·exact ⟨_, rfl, rfl, .inl trivial⟩
 ·exact h.elim
theorem lent_ok (h : Sim E c0 c ρ S F) {ids : List Nat} {Hin : List Blk} (hd : ids.Nodup) (hi : insB S.H ids ids Hin) :
  HOkI (c.lend (lentY ρ ids)) (c.lend (lentY ρ ids)) (roIds ρ ids) (lentL (lentK ρ ids) 0 Hin) := by
 obtain ⟨hlen, hget⟩ := insB_get hi
 have hro : ∀ {j i : Nat}, ids[j]? = some i → roIds ρ ids j = ρ i := fun {j i} hj => by simp only [roIds, hj]
 refine ⟨?_, ?_, ?_⟩
 ·intro j b hb
  rw [lentL_get, Nat.zero_add] at hb
  cases hj : Hin[j]? with
  | none => rw [hj] at hb; cases hb
  | some b0 =>
   rw [hj] at hb
   simp only [Option.map_some, Option.some.injEq] at hb
   subst hb
   have hjl : j < ids.length := by rw [hlen]; exact (List.getElem?_eq_some_iff.1 hj).1
   obtain ⟨i, hji⟩ : ∃ i, ids[j]? = some i := ⟨_, List.getElem?_eq_getElem hjl⟩
   have hin := hget j i b0 hji hj
   have hmem : i ∈ ids := List.mem_of_getElem? hji
   have hY : ∀ k, blkOf ρ i = some k → k ∈ lentY ρ ids := fun k hk => List.mem_filterMap.2 ⟨i, hmem, hk⟩
   cases hS : getA S.H i with
   | none => rw [hS] at hin; unfold inO at hin; exact hin.elim
   | some a =>
    have hblk := h.heap i a hS
    rw [hS] at hin
    have hmy : ∀ k, blkOf ρ i = some k → (c.lend (lentY ρ ids)).mine k := fun k hk => .inr (hY k hk)
    unfold inO at hin
    split at hin
    ·rename_i T n g z l T' n' g' z' l' e
     cases e
     obtain ⟨rfl, rfl, rfl, hz, hml⟩ := hin
     obtain ⟨v, h1, h2, h3, h4, a, cap, es, h5⟩ := hblk
     exact ⟨v, (hro hji).trans h1, own_mt (h2.chg (c.chg_lend _) (by simp)) hml, fun k hk => hmy k (by rw [blkOf_own h1 es]; exact hk), h4, a, cap, by rw [← mtL_len hml]; exact es, mtZ_ok hz h5⟩
    ·rename_i n g d n' g' d' e
     cases e
     obtain ⟨rfl, rfl, hm⟩ := hin
     obtain ⟨b, h1, h2, h3⟩ := hblk
     have hb : blkOf ρ i = some b := by simp [blkOf, h1]
     have hk : lentK ρ ids j = b := by simp [lentK, hji, hb]
     simp only [lentB, hk]
     obtain ⟨q1, T0, cs0, q2, q3, q4⟩ := h3
     exact ⟨(hro hji).trans h1, hmy b hb, q1, T0, cs0, q2, q3, rd_mono (c.pub_lend _) (mt_rd hm (inV_rd h q4))⟩
    ·rename_i k0 n g d n' g' d' e
     cases e
     obtain ⟨rfl, rfl, hm⟩ := hin
     obtain ⟨h1, h2, h3⟩ := hblk
     have hb : blkOf ρ i = some k0 := by simp [blkOf, h1]
     have hk : lentK ρ ids j = k0 := by simp [lentK, hji, hb]
     simp only [lentB, hk]
     obtain ⟨q1, T0, cs0, q2, q3, q4⟩ := h3
     exact ⟨(hro hji).trans h1, hmy k0 hb, q1, T0, cs0, q2, q3, rd_mono (c.pub_lend _) (mt_rd hm (inV_rd h q4))⟩
    ·exact hin.elim
 ·intro j hj
  rw [lentL_len] at hj
  simp only [roIds]
  rw [List.getElem?_eq_none (by omega)]
 ·intro j j' b b' k hne hj hj' hk hk'
  rw [lentL_get] at hj hj'
  have get : ∀ {q : Nat} {x : Blk}, (Hin[q]?).map (lentB (lentK ρ ids (0 + q))) = some x → ∃ i a, ids[q]? = some i ∧ getA S.H i = some a ∧ privB a = true := by
   intro q x hq
   cases hj : Hin[q]? with
   | none => rw [hj] at hq; cases hq
   | some b0 =>
    have hjl : q < ids.length := by rw [hlen]; exact (List.getElem?_eq_some_iff.1 hj).1
    have hji : ids[q]? = some ids[q] := List.getElem?_eq_getElem hjl
    obtain ⟨a, h1, h2, _⟩ := inO_priv (hget q _ b0 hji hj)
    exact ⟨_, a, hji, h1, h2⟩
  obtain ⟨i, a, g1, g2, g3⟩ := get hj
  obtain ⟨i', a', g1', g2', g3'⟩ := get hj'
  have hii : i ≠ i' := by
   rintro rfl
   exact hne (nodup_idx hd g1 g1')
  have e1 : blkOf (roIds ρ ids) j = blkOf ρ i := blkOf_eq' (hro g1)
  have e2 : blkOf (roIds ρ ids) j' = blkOf ρ i' := blkOf_eq' (hro g1')
  rw [e1] at hk
  rw [e2] at hk'
  exact h.sep i i' a a' k hii g2 g2' g3 g3' hk hk'
where blkOf_eq' {ρ ρ' : Ro} {i j : Nat} (h : ρ' j = ρ i) : blkOf ρ' j = blkOf ρ i := by unfold blkOf; rw [h]
end
end Go.Proofs.YtjnikknlcmbcmaaGreatDoor
namespace Go.Proofs.YtjnikknlcmbcmaaGreatDoor
open Go.RowKit
section
variable {E : Env} {J : Cuts} {k : List Ct} {S S1 : St} {c0 c : Cx} {ρ : Ro} {F : Fm}
theorem lentY_mine (h : Sim E c0 c ρ S F) {ids : List Nat} {Hin : List Blk} (hi : insB S.H ids ids Hin) {x : Nat} (hx : x ∈ lentY ρ ids) : ∃ i a, i ∈ ids ∧ getA S.H i = some a ∧ privB a = true ∧ blkOf ρ i = some x := by
 obtain ⟨hlen, hget⟩ := insB_get hi
 obtain ⟨i, hm, hb⟩ := List.mem_filterMap.1 hx
 obtain ⟨j, hj, e⟩ := List.getElem_of_mem hm
 have hjH : j < Hin.length := by omega
 obtain ⟨a, h1, h2, _⟩ := inO_priv (hget j i Hin[j] (by rw [List.getElem?_eq_getElem hj, e]) (List.getElem?_eq_getElem hjH))
 exact ⟨i, a, hm, h1, h2, hb⟩
theorem simN_afterI (h : SimN E c0 c ρ S F) {ids : List Nat} {Hin Hout Hnew : List Blk} (hd : ids.Nodup) (hi : insB S.H ids ids Hin) (hk : kndB Hin Hout = true) (hn : ownsB Hnew = true) {c' : Cx} {ρr : Ro} {r : V} {v : Value}
  (hle : (c.lend (lentY ρ ids)).leY c') (hr : rd ρr c' r v) (hH : HOkI (c.lend (lentY ρ ids)) c' ρr (lentL (lentK ρ ids) 0 Hout ++ Hnew)) (d : Option Nat) :
  SimN E c0 c' (ro2 ids S.nx ρ ρr) (S.afterI ids Hout Hnew d r) (updO F d v) := by
 obtain ⟨hlen, hget⟩ := insB_get hi
 obtain ⟨hkl, hkk⟩ := kndB_spec hk
 have hlO : (lentL (lentK ρ ids) 0 Hout).length = ids.length := by rw [lentL_len]; omega
 have hlt : ∀ i ∈ ids, i < S.nx := by
  intro i hm
  obtain ⟨j, hj, e⟩ := List.getElem_of_mem hm
  obtain ⟨a, h1, _⟩ := inO_priv (hget j i Hin[j] (by rw [List.getElem?_eq_getElem hj, e]) (List.getElem?_eq_getElem (by omega)))
  obtain ⟨x, hx⟩ := blkOk_some (h.1.heap i a h1)
  rcases Nat.lt_or_ge i S.nx with h2 | h2
  ·exact h2
  ·rw [h.2 i h2] at hx; cases hx
 have hYX : ∀ x, x ∈ lentY ρ ids → c0.mine x := by
  intro x hx
  obtain ⟨i, a, _, h2, h3, h4⟩ := lentY_mine h.1 hi hx
  exact blkOf_ge h.1 h2 h3 x h4
 have hYlt : ∀ x, x ∈ lentY ρ ids → x < c.w.heap.size := by
  intro x hx
  obtain ⟨i, a, _, h2, h3, h4⟩ := lentY_mine h.1 hi hx
  exact blkOk_lt h3 (h.1.heap i a h2) x h4
 have hYp : ∀ x, x ∈ lentY ρ ids → x ∈ c.X := by
  intro x hx
  obtain ⟨i, a, _, h2, h3, h4⟩ := lentY_mine h.1 hi hx
  have hb := h.1.heap i a h2
  cases a with
  | var n g d => obtain ⟨b, g1, _, g3⟩ := hb; simp only [blkOf, g1, Option.some.injEq] at h4; subst h4; exact g3.1
  | lent b n g d => obtain ⟨g1, _, g3⟩ := hb; simp only [blkOf, g1, Option.some.injEq] at h4; subst h4; exact g3.1
  | own T n g z l => obtain ⟨u, g1, g2, _, _, a, cap, e, _⟩ := hb; rw [blkOf_own g1 e] at h4; exact g2.isX x h4
  | ownI T n g z l => obtain ⟨u, g1, g2, _, _, a, cap, e, _⟩ := hb; rw [blkOf_own g1 e] at h4; exact g2.isX x h4
  | kset g k' n l => obtain ⟨r, g1, _, g3⟩ := hb; simp only [blkOf, g1, blk, Option.some.injEq] at h4; subst h4; exact g3.1
  | pvar n g d => cases h3
  | pown n g z l => cases h3
 have hpub : c.pub c' := ⟨hle.below.size, fun x hx hnX => ⟨fun h' => hnX ((hle.old x hx (fun hy => hnX (hYp x hy))).1 h'), fun o ho _ => (hle.below.block x hx (fun hy => hnX (hYp x hy))).trans ho⟩⟩
 have hsince : Since c0 c' := by
  refine ⟨⟨hle.below.os.trans h.1.since.below.os, hle.below.tape.trans h.1.since.below.tape, hle.below.output.trans h.1.since.below.output, Nat.le_trans h.1.since.size hle.below.size, ?_⟩, ?_, fun x hx hnX h' => (h.1.since.Xn x hx hnX) (by
   by_cases hY : x ∈ lentY ρ ids
   ·exact hYp x hY
   ·exact (hle.old x (Nat.lt_of_lt_of_le hx h.1.since.size) hY).1 h')⟩
  ·intro x hx hy
   refine (hle.below.block x (Nat.lt_of_lt_of_le hx h.1.since.size) (fun hY => ?_)).trans (h.1.since.below.block x hx hy)
   rcases hYX x hY with h1 | h1
   ·omega
   ·exact hy h1
  ·intro x hx hy
   have hxX := h.1.since.X x hx hy
   refine (hle.old x (c.ok x hxX) (fun hY => ?_)).2 hxX
   rcases hYX x hY with h1 | h1
   ·have := c0.ok x hx; omega
   ·exact hy h1
 have hmine : ∀ x, (c.lend (lentY ρ ids)).mine x → c0.mine x := by
  rintro x (h1 | h1)
  ·exact .inl (Nat.le_trans h.1.since.size h1)
  ·exact hYX x h1
 -- names
 have hsg : ∀ j x, ρr j = some x → ro2 ids S.nx ρ ρr (sg ids S.nx j) = some x := fun j x hx => (ro2_sg hd hlt j).trans hx
 have hnew : ∀ i, S.nx ≤ i → ro2 ids S.nx ρ ρr i = ρr (ids.length + (i - S.nx)) := fun i hi => ro2_new hlt hi
 have hold : ∀ i b, getA S.H i = some b → i < S.nx := by
  intro i b hb
  obtain ⟨x, hx⟩ := blkOk_some (h.1.heap i b hb)
  rcases Nat.lt_or_ge i S.nx with h2 | h2
  ·exact h2
  ·rw [h.2 i h2] at hx; cases hx
 -- what the call gives back under a lent name
 have hback : ∀ j i, ids[j]? = some i → ∃ b a, Hout[j]? = some b ∧ getA S.H i = some a ∧ ((isVarB b ∧ ∀ x, ρ i = some x → ρr j = some x) ∨ (isOwnB b ∧ ∃ T n g z l, a = .own T n g z l)) ∧ blkOk c0 c' (ro2 ids S.nx ρ ρr) i (backB (getA S.H i) (renB (sg ids S.nx) b)) := by
  intro j i hj
  have hjl := (List.getElem?_eq_some_iff.1 hj).1
  have hHi : Hin[j]? = some Hin[j] := List.getElem?_eq_getElem (by omega)
  have hHo : Hout[j]? = some Hout[j] := List.getElem?_eq_getElem (by omega)
  have hin := hget j i _ hj hHi
  have hkj := hkk j _ _ hHi hHo
  generalize Hin[j] = bi at hin hkj hHi
  generalize Hout[j] = bo at hkj hHo
  have hblk : blkOk (c.lend (lentY ρ ids)) c' ρr j (lentB (lentK ρ ids j) bo) := by
   refine hH.1 j _ ?_
   rw [List.getElem?_append_left (by omega), lentL_get, Nat.zero_add, hHo]; rfl
  have hro : ro2 ids S.nx ρ ρr i = ρr j := ro2_in hd hj
  cases hS : getA S.H i with
  | none => rw [hS] at hin; unfold inO at hin; exact hin.elim
  | some a =>
   have hold := h.1.heap i a hS
   rw [hS] at hin
   have var : ∀ {n g d} {b : Nat}, bo = .var n g d → lentK ρ ids j = b → ρ i = some (.pointer (some ⟨b, 0, none⟩)) → blkOf ρ i = some b → c0.mine b ∧ ρr j = some (.pointer (some ⟨b, 0, none⟩)) ∧ Var c' b (rV (ro2 ids S.nx ρ ρr) n g) (ren (sg ids S.nx) d) := by
    intro n g d b e hb hp hbo
    subst e
    simp only [lentB, hb] at hblk
    obtain ⟨g1, g2, g3, T, cs, g4, g5, g6⟩ := hblk
    exact ⟨hmine b g2, g1, g3, T, cs, g4, g5, ren_rd hsg g6⟩
   unfold inO at hin
   split at hin
   ·rename_i T n g z l T' n' g' z' l' e
    cases e
    rcases hkj with ⟨h1, _⟩ | ⟨_, h1⟩
    ·exact h1.elim
    ·refine ⟨bo, _, hHo, rfl, .inr ⟨h1, _, _, _, _, _, rfl⟩, ?_⟩
     cases bo <;> simp only [isOwnB] at h1
     simp only [lentB] at hblk
     obtain ⟨x, g1, g2, g3, g4, g5⟩ := hblk
     simp only [renB, backB]
     exact ⟨x, hro.trans g1, g2, fun k hk => hmine k (g3 k hk), g4, g5⟩
   ·rename_i n g d n' g' d' e
    cases e
    rcases hkj with ⟨_, h1⟩ | ⟨h1, _⟩
    ·obtain ⟨b, g1, _⟩ := hold
     have hbo : blkOf ρ i = some b := by simp [blkOf, g1]
     cases bo <;> simp only [isVarB] at h1
     obtain ⟨k1, k2, k3⟩ := var rfl (by simp [lentK, hj, hbo]) g1 hbo
     refine ⟨_, _, hHo, rfl, .inl ⟨trivial, fun x hx => ?_⟩, ?_⟩
     ·rw [g1] at hx; cases hx; exact k2
     ·simp only [renB, backB]
      exact ⟨b, hro.trans k2, k1, k3⟩
    ·exact h1.elim
   ·rename_i k0 n g d n' g' d' e
    cases e
    rcases hkj with ⟨_, h1⟩ | ⟨h1, _⟩
    ·obtain ⟨g1, _⟩ := hold
     have hbo : blkOf ρ i = some k0 := by simp [blkOf, g1]
     cases bo <;> simp only [isVarB] at h1
     obtain ⟨k1, k2, k3⟩ := var rfl (by simp [lentK, hj, hbo]) g1 hbo
     refine ⟨_, _, hHo, rfl, .inl ⟨trivial, fun x hx => ?_⟩, ?_⟩
     ·rw [g1] at hx; cases hx; exact k2
     ·simp only [renB, backB]
      exact ⟨hro.trans k2, k1, k3⟩
    ·exact h1.elim
   ·exact hin.elim
 have hpr : ∀ i x, memN (ownIds S.H ids) i = false → ρ i = some x → ro2 ids S.nx ρ ρr i = some x := by
  intro i x hp hx
  have hilt : i < S.nx := by
   rcases Nat.lt_or_ge i S.nx with h2 | h2
   ·exact h2
   ·rw [h.2 i h2] at hx; cases hx
  by_cases hm : i ∈ ids
  ·obtain ⟨j, hj, e⟩ := List.getElem_of_mem hm
   have hj' : ids[j]? = some i := by rw [List.getElem?_eq_getElem hj, e]
   obtain ⟨b, a, _, h2, h3, _⟩ := hback j i hj'
   rcases h3 with ⟨_, h3⟩ | ⟨_, T, n, g, z, l, rfl⟩
   ·rw [ro2_in hd hj']; exact h3 x hx
   ·have := memN_iff.2 (ownIds_mem h2 hm)
    rw [hp] at this; cases this
  ·rw [ro2_old hm hilt]; exact hx
 -- the blocks behind the call
 have hcase : ∀ i b, getA (shiftH S.nx 0 (renBs (sg ids S.nx) Hnew) ++ setIds S.H (prH (memN (ownIds S.H ids)) S.H) ids (renBs (sg ids S.nx) Hout)) i = some b →
   (∃ (q : Nat) (b0 : Blk), i = S.nx + q ∧ Hnew[q]? = some b0 ∧ b = renB (sg ids S.nx) b0) ∨ (∃ (j : Nat) (b0 : Blk), ids[j]? = some i ∧ Hout[j]? = some b0 ∧ b = backB (getA S.H i) (renB (sg ids S.nx) b0)) ∨ (i ∉ ids ∧ ∃ b0, getA S.H i = some b0 ∧ b = prB (memN (ownIds S.H ids)) b0) := by
  intro i b hb
  have rest : getA (setIds S.H (prH (memN (ownIds S.H ids)) S.H) ids (renBs (sg ids S.nx) Hout)) i = some b → (∃ (j : Nat) (b0 : Blk), ids[j]? = some i ∧ Hout[j]? = some b0 ∧ b = backB (getA S.H i) (renB (sg ids S.nx) b0)) ∨ (i ∉ ids ∧ ∃ b0, getA S.H i = some b0 ∧ b = prB (memN (ownIds S.H ids)) b0) := by
   intro hb
   by_cases hm : i ∈ ids
   ·obtain ⟨j, hj, e⟩ := List.getElem_of_mem hm
    have hj' : ids[j]? = some i := by rw [List.getElem?_eq_getElem hj, e]
    obtain ⟨b0, _, h1, _⟩ := hback j i hj'
    have := setIds_in (H0 := S.H) (h := prH (memN (ownIds S.H ids)) S.H) (m := renBs (sg ids S.nx) Hout) hd hj' (by rw [renBs_get, h1]; rfl)
    rw [this] at hb
    cases hb
    exact .inl ⟨j, b0, hj', h1, rfl⟩
   ·rw [setIds_out hm, getA_prH] at hb
    cases hS : getA S.H i with
    | none => rw [hS] at hb; cases hb
    | some b0 => rw [hS] at hb; cases hb; exact .inr ⟨hm, b0, rfl, rfl⟩
  simp only [getA_append, getA_shiftH, Nat.add_zero] at hb
  by_cases h1 : S.nx ≤ i
  ·rw [if_pos h1, renBs_get] at hb
   cases hq : Hnew[i - S.nx]? with
   | some x => rw [hq] at hb; simp only [Option.map_some, Option.some.injEq] at hb; exact .inl ⟨i - S.nx, x, by omega, hq, hb.symm⟩
   | none => rw [hq] at hb; exact .inr (rest hb)
  ·rw [if_neg h1] at hb; exact .inr (rest hb)
 have hnewOk : ∀ q b, Hnew[q]? = some b → (∃ T n g z l, b = .own T n g z l) ∧ blkOk (c.lend (lentY ρ ids)) c' ρr (ids.length + q) b := by
  intro q b hq
  have h1 := ownsB_spec hn q b hq
  refine ⟨?_, hH.1 (ids.length + q) b ?_⟩
  ·cases b <;> simp only [isOwnB] at h1
   exact ⟨_, _, _, _, _, rfl⟩
  ·rw [List.getElem?_append_right (by omega), hlO, Nat.add_sub_cancel_left]; exact hq
 have hput : ∀ (S' : St), SimN E c0 c' (ro2 ids S.nx ρ ρr) S' F → SimN E c0 c' (ro2 ids S.nx ρ ρr) (S'.put d (ren (sg ids S.nx) r)) (updO F d v) :=
  fun S' hS => simN_put hS (ren_rd hsg hr)
 refine hput _ ⟨⟨hsince, h.1.gl.mono hpub, ?_, ?_, ?_⟩, ?_⟩
 ·intro t x ht
  simp only [getA_prF, Option.map_eq_some_iff] at ht
  obtain ⟨x0, hx0, rfl⟩ := ht
  exact pr_rd hpr (rd_mono hpub (h.1.slot t x0 hx0))
 ·intro i b hb
  rcases hcase i b hb with ⟨q, b0, rfl, hq, rfl⟩ | ⟨j, b0, hj, hb0, rfl⟩ | ⟨hm, b0, hS, rfl⟩
  ·obtain ⟨⟨T, n, g, z, l, rfl⟩, x, g1, g2, g3, g4⟩ := hnewOk q _ hq
   refine ⟨x, ?_, g2, fun k hk => hmine k (g3 k hk), g4⟩
   rw [hnew _ (Nat.le_add_right _ _), Nat.add_sub_cancel_left]; exact g1
  ·obtain ⟨b1, a, h1, _, _, h4⟩ := hback j i hj
   rw [hb0] at h1; cases h1
   exact h4
  ·refine blkOk_pr hpr (fun x hx => ?_) (blkOk_leY hle hpub (fun hp x hx hY => ?_) (h.1.heap i b0 hS))
   ·rw [ro2_old hm (hold i b0 hS)]; exact hx
   ·obtain ⟨i', a, h1, h2, h3, h4⟩ := lentY_mine h.1 hi hY
    exact h.1.sep i i' b0 a x (fun e => hm (e ▸ h1)) hS h2 hp h3 hx h4
 ·-- apart
  have hname : ∀ i b, getA (shiftH S.nx 0 (renBs (sg ids S.nx) Hnew) ++ setIds S.H (prH (memN (ownIds S.H ids)) S.H) ids (renBs (sg ids S.nx) Hout)) i = some b → privB b = true →
    (∃ (q : Nat) (bq : Blk), (lentL (lentK ρ ids) 0 Hout ++ Hnew)[q]? = some bq ∧ ro2 ids S.nx ρ ρr i = ρr q ∧ i = sg ids S.nx q ∧ ∀ x, blkOf ρr q = some x → (c.lend (lentY ρ ids)).mine x) ∨ (i ∉ ids ∧ i < S.nx ∧ ∃ b0, getA S.H i = some b0 ∧ privB b0 = true) := by
   intro i b hb hp
   have hm9 : ∀ q bq, (lentL (lentK ρ ids) 0 Hout ++ Hnew)[q]? = some bq → privB bq = true → ∀ x, blkOf ρr q = some x → (c.lend (lentY ρ ids)).mine x := by
    intro q bq hq hpq x hx
    have hb := hH.1 q bq hq
    cases bq with
    | var n g d => obtain ⟨b, g1, g2, _⟩ := hb; simp only [blkOf, g1, Option.some.injEq] at hx; subst hx; exact g2
    | lent b n g d => obtain ⟨g1, g2, _⟩ := hb; simp only [blkOf, g1, Option.some.injEq] at hx; subst hx; exact g2
    | own T n g z l => obtain ⟨u, g1, g2, g3, _, a, cap, e, _⟩ := hb; rw [blkOf_own g1 e] at hx; exact g3 x hx
    | ownI T n g z l => obtain ⟨u, g1, g2, g3, _, a, cap, e, _⟩ := hb; rw [blkOf_own g1 e] at hx; exact g3 x hx
    | kset g k' n l => obtain ⟨r, g1, g2, _⟩ := hb; simp only [blkOf, g1, blk, Option.some.injEq] at hx; subst hx; exact g2
    | pvar n g d => cases hpq
    | pown n g z l => cases hpq
   rcases hcase i b hb with ⟨q, b0, rfl, hq, rfl⟩ | ⟨j, b0, hj, hb0, rfl⟩ | ⟨hm, b0, hS, rfl⟩
   ·obtain ⟨⟨T, n, g, z, l, rfl⟩, _⟩ := hnewOk q b0 hq
    have hq' : (lentL (lentK ρ ids) 0 Hout ++ Hnew)[ids.length + q]? = some (.own T n g z l) := by
     rw [List.getElem?_append_right (by omega), hlO, Nat.add_sub_cancel_left]; exact hq
    refine .inl ⟨ids.length + q, _, hq', ?_, ?_, hm9 _ _ hq' rfl⟩
    ·rw [hnew _ (Nat.le_add_right _ _), Nat.add_sub_cancel_left]
    ·simp only [sg, List.getElem?_eq_none (Nat.le_add_right _ _), Nat.add_sub_cancel_left]
   ·have hjl := (List.getElem?_eq_some_iff.1 hj).1
    have hq' : (lentL (lentK ρ ids) 0 Hout ++ Hnew)[j]? = some (lentB (lentK ρ ids j) b0) := by
     rw [List.getElem?_append_left (by omega), lentL_get, Nat.zero_add, hb0]; rfl
    refine .inl ⟨j, _, hq', ro2_in hd hj, by simp only [sg, hj], hm9 _ _ hq' ?_⟩
    obtain ⟨b1, a, h1, _, h3, _⟩ := hback j i hj
    rw [hb0] at h1; cases h1
    rcases h3 with ⟨h3, _⟩ | ⟨h3, _⟩ <;> cases b0 <;> simp only [isVarB, isOwnB] at h3 <;> rfl
   ·exact .inr ⟨hm, hold i b0 hS, b0, hS, by rw [privB_pr] at hp; exact hp⟩
  intro i j bi bj x hij hbi hbj hpi hpj hx hx'
  rcases hname i bi hbi hpi with ⟨q, bq, hq, e, ei, hmq⟩ | ⟨hm, hl, b0, hS, hp0⟩ <;> rcases hname j bj hbj hpj with ⟨q', bq', hq', e', ej, hmq'⟩ | ⟨hm', hl', b0', hS', hp0'⟩
  ·rw [blkOf_eq2 e] at hx
   rw [blkOf_eq2 e'] at hx'
   exact hH.2.2 q q' bq bq' x (fun eq => hij (by rw [ei, ej, eq])) hq hq' hx hx'
  ·rw [blkOf_eq2 e] at hx
   rw [blkOf_eq (ro2_old hm' hl')] at hx'
   have hlt' := blkOk_lt hp0' (h.1.heap j b0' hS') x hx'
   rcases hmq x hx with h1 | h1
   ·have h1 : c.w.heap.size ≤ x := h1
    omega
   ·obtain ⟨i', a, h1, h2, h3, h4⟩ := lentY_mine h.1 hi h1
    exact h.1.sep i' j a b0' x (fun e => hm' (e ▸ h1)) h2 hS' h3 hp0' h4 hx'
  ·rw [blkOf_eq2 e'] at hx'
   rw [blkOf_eq (ro2_old hm hl)] at hx
   have hlt' := blkOk_lt hp0 (h.1.heap i b0 hS) x hx
   rcases hmq' x hx' with h1 | h1
   ·have h1 : c.w.heap.size ≤ x := h1
    omega
   ·obtain ⟨i', a, h1, h2, h3, h4⟩ := lentY_mine h.1 hi h1
    exact h.1.sep i' i a b0 x (fun e => hm (e ▸ h1)) h2 hS h3 hp0 h4 hx
  ·rw [blkOf_eq (ro2_old hm hl)] at hx
   rw [blkOf_eq (ro2_old hm' hl')] at hx'
   exact h.1.sep i j b0 b0' x hij hS hS' hp0 hp0' hx hx'
 ·intro i hi'
  simp only at hi'
  rw [hnew i (by omega)]
  exact hH.2.1 _ (by rw [List.length_append, hlO]; omega)
where blkOf_eq2 {ρ ρ' : Ro} {i j : Nat} (h : ρ' i = ρ j) : blkOf ρ' i = blkOf ρ j := by unfold blkOf; rw [h]
theorem callC_in {f : FuncId} {caps vs : List V} {d : Option Nat} {ws : List V} {r : V} {Hin Hout Hnew : List Blk} (ids : List Nat) (hc : CallIn E f ws Hin r Hout Hnew) (hd : ids.Nodup) (hi : insB S.H ids ids Hin) (hm : mtL (inVL S.H ids (vs ++ caps)) ws)
  (h : wfV r → cont E J k .normal (S.afterI ids Hout Hnew d r)) : callC E J (some (.fn f caps)) (some vs) S d k := by
 refine .inr ⟨hc.1, _, r, ?_, h⟩
 intro c0 c ρ F us hs hus
 have hk := hc.2.1
 simp only [Bool.and_eq_true] at hk
 have hrd := mt_rdT hm (inV_rdT (ids := ids) hs.1 hus)
 refine (show Calls E.P f us.toArray c.w _ from hc.2.2 (c.lend (lentY ρ ids)) us (roIds ρ ids) (lentK ρ ids) (hs.1.gl.mono (c.pub_lend _)) (lent_ok hs.1 hd hi) (rdT_mono (c.pub_lend _) hrd)).mono ?_
 rintro e w' ⟨v, c', ρr, rfl, rfl, hle, hr, hH⟩
 exact ⟨v, c', _, rfl, rfl, simN_afterI hs hd hi hk.1 hk.2 hle hr hH d, rd_wf hr⟩
theorem callC_inQ {f : FuncId} {caps vs : List V} {d : Option Nat} {ws : List V} {r : V} {Hin Hout Hnew : List Blk} (ids : List Nat) (hc : CallIn E f ws Hin r Hout Hnew) (hw : WeakQ E S S1) (hd : ids.Nodup) (hi : insB S1.H ids ids Hin) (hm : mtL (inVL S1.H ids (vs ++ caps)) ws)
  (h : wfV r → cont E J k .normal (S1.afterI ids Hout Hnew d r)) : callC E J (some (.fn f caps)) (some vs) S d k := by
 refine .inr ⟨hc.1, _, r, ?_, h⟩
 intro c0 c0' ρ0 F us hs0 hus0
 obtain ⟨c, ρ, ew, hpb, hro, hs⟩ := hw c0 c0' ρ0 F hs0
 have hus := rdT_ro hro (rdT_mono hpb hus0)
 have hk := hc.2.1
 simp only [Bool.and_eq_true] at hk
 have hrd := mt_rdT hm (inV_rdT (ids := ids) hs.1 hus)
 rw [← ew]
 refine (show Calls E.P f us.toArray c.w _ from hc.2.2 (c.lend (lentY ρ ids)) us (roIds ρ ids) (lentK ρ ids) (hs.1.gl.mono (c.pub_lend _)) (lent_ok hs.1 hd hi) (rdT_mono (c.pub_lend _) hrd)).mono ?_
 rintro e w' ⟨v, c', ρr, rfl, rfl, hle, hr, hH⟩
 exact ⟨v, c', _, rfl, rfl, simN_afterI hs hd hi hk.1 hk.2 hle hr hH d, rd_wf hr⟩
theorem callC_inP {f : FuncId} {caps vs : List V} {d : Option Nat} {ws : List V} {r : V} {Hin Hout Hnew : List Blk} (ids : List Nat) (hc : CallIn E f ws Hin r Hout Hnew) (hw : WeakP E S S1) (hd : ids.Nodup) (hi : insB S1.H ids ids Hin) (hm : mtL (inVL S1.H ids (vs ++ caps)) ws)
  (h : wfV r → cont E J k .normal (S1.afterI ids Hout Hnew d r)) : callC E J (some (.fn f caps)) (some vs) S d k := callC_inQ ids hc hw.toQ hd hi hm h
theorem arr_flat {c c' : Cx} {n : Nat} {g : Bool} : ∀ {l : List V} {cs : List Value}, flatL l → arrIs (rV ro0 n g) c cs l → arrIs (rV ro0 n g) c' cs l
 | [], _, _, h => h
 | a :: l, cs, hf, h => by
  simp only [flatL, arrIs] at hf h ⊢
  obtain ⟨c1, c2, e, ⟨h1, h2⟩, h3⟩ := h
  exact ⟨c1, c2, e, ⟨h1, flat_rd hf.1 h2⟩, arr_flat hf.2 h3⟩
theorem flatL_map {α : Type} {f : α → V} (h : ∀ x, flatV (f x)) : ∀ {l : List α}, flatL (l.map f)
 | [] => trivial
 | a :: l => ⟨h a, flatL_map h⟩
section
variable {D : Dr} {m i : Nat} {ll : List Oper} {R : List (Nat × HRes)}
theorem hcallC_kill {f : FuncId} {caps vs ws : List V} {d : Option Nat} {T n : Nat} {g : Bool} {z z' : Option Bool} {l l' : List V} (id : Nat) (hc : CallIn E f ws [.own T n g z l] (.own 0) [.own T n g z' l'] []) (hm : (memP D.ub i id && !decide (id = S.nx)) = true) (hi : insB S.H [id] [id] [.own T n g z l]) (ha : mtL (inVL S.H [id] (vs ++ caps)) ws) (hfl : flatL l')
  (h : drawC E D m (i + 1) ll ((i, ⟨d, .own S.nx, some (S.nx, .own T n g z' l')⟩) :: R)) : hcallC E D m i ll R d S (some (.fn f caps)) (some vs) := by
 obtain ⟨hlen, hget⟩ := insB_get hi
 obtain ⟨b0, hb0, hp0, _⟩ := inO_priv (hget 0 id _ rfl rfl)
 refine .inr (.inr ⟨hc.1, id, T, n, g, z', l', hm, ⟨b0, hb0, hp0⟩, fun c0 c ρ F us hs hus => ?_, h⟩)
 have hrd := mt_rdT ha (inV_rdT (ids := [id]) hs hus)
 refine (show Calls E.P f us.toArray c.w _ from hc.2.2 (c.lend (lentY ρ [id])) us (roIds ρ [id]) (lentK ρ [id]) (hs.gl.mono (c.pub_lend _)) (lent_ok hs (by simp) hi) (rdT_mono (c.pub_lend _) hrd)).mono ?_
 rintro e w' ⟨v, c', ρr, rfl, rfl, hle, hr, hH⟩
 obtain ⟨v', e1, hown, hge, hone, a, cap, es, hz⟩ := hH.1 0 _ rfl
 simp only [rd] at hr
 have ev : v' = v := by rw [hr.1] at e1; exact (Option.some.inj e1).symm
 subst ev
 have hY : ∀ k, k ∈ lentY ρ [id] ↔ blkOf ρ id = some k := by
  intro k
  simp only [lentY, List.mem_filterMap, List.mem_singleton]
  exact ⟨fun ⟨i, hi, hb⟩ => hi ▸ hb, fun hb => ⟨id, rfl, hb⟩⟩
 have hYlt : ∀ k, k ∈ lentY ρ [id] → k < c.w.heap.size := fun k hk => blkOk_lt hp0 (hs.heap id b0 hb0) k ((hY k).1 hk)
 have hYX : ∀ k, k ∈ lentY ρ [id] → k ∈ c.X := by
  intro k hk
  obtain ⟨i', a, h1, h2, h3, h4⟩ := lentY_mine hs hi hk
  have hb := hs.heap i' a h2
  cases a with
  | var n g d => obtain ⟨b, g1, _, g3⟩ := hb; simp only [blkOf, g1, Option.some.injEq] at h4; subst h4; exact g3.1
  | lent b n g d => obtain ⟨g1, _, g3⟩ := hb; simp only [blkOf, g1, Option.some.injEq] at h4; subst h4; exact g3.1
  | own T n g z l => obtain ⟨u, g1, g2, _, _, a, cap, e, _⟩ := hb; rw [blkOf_own g1 e] at h4; exact g2.isX k h4
  | ownI T n g z l => obtain ⟨u, g1, g2, _, _, a, cap, e, _⟩ := hb; rw [blkOf_own g1 e] at h4; exact g2.isX k h4
  | kset g k' n l => obtain ⟨r, g1, _, g3⟩ := hb; simp only [blkOf, g1, blk, Option.some.injEq] at h4; subst h4; exact g3.1
  | pvar n g d => cases h3
  | pown n g z l => cases h3
 refine ⟨v', { X := lentY ρ [id] ++ c'.X, w := c'.w, ok := fun k hk => ?_ }, rfl, rfl, ⟨hle.below.os, hle.below.tape, hle.below.output, hle.below.size, fun k hk hne => hle.below.block k hk (fun hy => hne ((hY k).1 hy)), fun k hk => ?_, fun k hk => hYX k ((hY k).2 hk)⟩, ⟨hown.1, ?_⟩, fun k hk => ?_, hone, a, cap, es, hz⟩
 ·rcases List.mem_append.1 hk with hk | hk
  ·exact Nat.lt_of_lt_of_le (hYlt k hk) hle.below.size
  ·exact c'.ok k hk
 ·simp only [List.mem_append]
  by_cases hy : k ∈ lentY ρ [id]
  ·exact ⟨fun _ => hYX k hy, fun _ => .inl hy⟩
  ·exact ⟨fun h' => (hle.old k hk hy).1 (h'.resolve_left hy), fun h' => .inr ((hle.old k hk hy).2 h')⟩
 ·rcases hown.2 with h' | ⟨g', cp, cur, e, k1, k2, k3, k4, k5, k6⟩
  ·exact .inl h'
  ·exact .inr ⟨g', cp, cur, e, List.mem_append.2 (.inr k1), k2, k3, k4, k5, arr_flat hfl k6⟩
 ·rcases hge k hk with h' | h'
  ·exact .inr h'
  ·exact .inl ((hY k).1 h')
theorem hcallC_upd {f : FuncId} {caps vs ws : List V} {d : Option Nat} {n : Nat} {g : Bool} {d0 d1 r : V} (id : Nat) {b0 b1 : Blk} (hc : CallIn E f ws [.var n g d0] r [.var n g d1] []) (hb0 : getA S.H id = some b0) (hb1 : backB (some b0) (.var n g d1) = b1) (hm : memP D.ub i id = true) (hi : insB S.H [id] [id] [.var n g d0]) (ha : mtL (inVL S.H [id] (vs ++ caps)) ws) (hpr : pureV r) (hpd : pureV d1)
  (h : drawC E D m (i + 1) ll ((i, ⟨d, r, some (id, b1)⟩) :: R)) : hcallC E D m i ll R d S (some (.fn f caps)) (some vs) := by
 obtain ⟨hlen, hget⟩ := insB_get hi
 have hin := hget 0 id _ rfl rfl
 rw [hb0] at hin
 have hk : privB b1 = true := by
  subst hb1
  cases b0 <;> rfl
 refine .inr (.inl ⟨hc.1, r, id, b1, hm, hk, ⟨b0, hb0, ?_⟩, fun c0 c ρ F us hs hus => ?_, h⟩)
 ·obtain ⟨a, e, h1, _⟩ := inO_priv hin
  cases e; exact h1
 have hrd := mt_rdT ha (inV_rdT (ids := [id]) hs hus)
 refine (show Calls E.P f us.toArray c.w _ from hc.2.2 (c.lend (lentY ρ [id])) us (roIds ρ [id]) (lentK ρ [id]) (hs.gl.mono (c.pub_lend _)) (lent_ok hs (by simp) hi) (rdT_mono (c.pub_lend _) hrd)).mono ?_
 rintro e w' ⟨v, c', ρr, rfl, rfl, hle, hr, hH⟩
 obtain ⟨e1, hmi, hv1, T, cs, g4, g5, g6⟩ := hH.1 0 _ rfl
 have hblk := hs.heap id b0 hb0
 have key : ∃ k, ρ id = some (.pointer (some ⟨k, 0, none⟩)) ∧ c0.mine k ∧ k ∈ c.X ∧ (∀ q, b0 = .lent q n g d0 → True) := by
  cases b0 with
  | var n' g' d' =>
   obtain ⟨b, h1, h2, h3⟩ := hblk
   exact ⟨b, h1, h2, h3.1, fun _ _ => trivial⟩
  | lent q n' g' d' =>
   obtain ⟨h1, h2, h3⟩ := hblk
   exact ⟨_, h1, h2, h3.1, fun _ _ => trivial⟩
  | _ => simp only [inO] at hin
 obtain ⟨k, hk1, hk2, hk3, _⟩ := key
 have hbo : blkOf ρ id = some k := by simp [blkOf, hk1]
 have hK : lentK ρ [id] 0 = k := by simp [lentK, hbo]
 rw [hK] at e1 hmi hv1 g4
 have hY : ∀ q, q ∈ lentY ρ [id] ↔ q = k := by
  intro q
  simp only [lentY, List.mem_filterMap, List.mem_singleton]
  constructor
  ·rintro ⟨i, rfl, hb⟩; rw [hbo] at hb; exact (Option.some.inj hb).symm
  ·rintro rfl; exact ⟨id, rfl, hbo⟩
 refine ⟨v, c', rfl, rfl, ⟨hle.below.os, hle.below.tape, hle.below.output, hle.below.size, fun q hq hne => hle.below.block q hq (fun hy => hne (by rw [hbo, (hY q).1 hy])), fun q hq => ?_, fun q hq => ?_⟩, ?_, pure_rd hpr hr⟩
 ·by_cases hq' : q = k
  ·subst hq'; exact ⟨fun _ => hk3, fun _ => hv1⟩
  ·exact hle.old q hq (fun hy => hq' ((hY q).1 hy))
 ·rw [hbo] at hq; cases hq; exact hk3
 ·have hvar : Var c' k (rV ρ n g) d1 := ⟨hv1, T, cs, g4, g5, pure_rd hpd g6⟩
  subst hb1
  cases b0 with
  | var n' g' d' => exact ⟨k, hk1, hk2, hvar⟩
  | lent q n' g' d' =>
   obtain ⟨h1, _⟩ := hblk
   rw [hk1] at h1
   cases h1
   exact ⟨hk1, hk2, hvar⟩
  | _ => simp only [inO] at hin
end
def outI (E : Env) (S : St) (ks : Nat → Nat) (v r : V) (Hout Hnew : List Blk) : Prop :=
 ∀ c0 c ρ F u, SimN E c0 c ρ S F → rd ρ c v u → ∃ c1 ρ1, c1.w = c.w ∧ c0.leY c1 ∧ rd ρ1 c1 r u ∧ HOkI c0 c1 ρ1 (lentL ks 0 Hout ++ Hnew)
def retKI (E : Env) (rs : List ResultVar) (ks : Nat → Nat) (r : V) (Hout Hnew : List Blk) : Exit → St → Prop
 | .ret, S => match resL E.tb S rs with
  | some vs => outI E S ks (tupV vs) r Hout Hnew
  | none => False
 | .normal, S => match resL E.tb S rs with
  | some vs => outI E S ks (tupV vs) r Hout Hnew
  | none => False
 | _, _ => False
def retCI (E : Env) (S : St) (ks : Nat → Nat) (r : V) (Hout Hnew : List Blk) : Option (List V) → Prop
 | some vs => outI E S ks (tupV vs) r Hout Hnew
 | none => False
theorem retKI_ret {rs : List ResultVar} {ks : Nat → Nat} {r : V} {Hout Hnew : List Blk} : retKI E rs ks r Hout Hnew .ret S = retCI E S ks r Hout Hnew (resL E.tb S rs) := Eq.trans rfl rfl
theorem retKI_normal {rs : List ResultVar} {ks : Nat → Nat} {r : V} {Hout Hnew : List Blk} : retKI E rs ks r Hout Hnew .normal S = retCI E S ks r Hout Hnew (resL E.tb S rs) := Eq.trans rfl rfl
def outB (H : List (Nat × Blk)) (ids : List Nat) : Option Blk → Blk → Prop
 | some (.own T n g z l), .own T' n' g' z' l' => T = T' ∧ n = n' ∧ g = g' ∧ mtZ z z' ∧ mtL l l'
 | some (.lent k n g d), .lent k' n' g' d' => k = k' ∧ n = n' ∧ g = g' ∧ mt (viewO H ids d) d'
 | _, _ => False
def outsB (H : List (Nat × Blk)) (ids : List Nat) : List Nat → List Blk → Prop
 | [], [] => True
 | i :: l, b :: m => outB H ids (getA H i) b ∧ outsB H ids l m
 | _, _ => False
theorem outsB_get {H : List (Nat × Blk)} {ids : List Nat} : ∀ {l : List Nat} {m : List Blk}, outsB H ids l m → l.length = m.length ∧ ∀ (j i : Nat) (b : Blk), l[j]? = some i → m[j]? = some b → outB H ids (getA H i) b
 | [], [], _ => ⟨rfl, by simp⟩
 | i :: l, b :: m, h => by
  simp only [outsB] at h
  obtain ⟨h1, h2⟩ := outsB_get h.2
  refine ⟨by simp [h1], fun j i' b' hi hb => ?_⟩
  cases j with
  | zero => simp at hi hb; subst hi hb; exact h.1
  | succ j => exact h2 j i' b' (by simpa using hi) (by simpa using hb)
 | [], _ :: _, h => by simp [outsB] at h
 | _ :: _, [], h => by simp [outsB] at h
theorem outB_priv {H : List (Nat × Blk)} {ids : List Nat} {o : Option Blk} {b : Blk} (h : outB H ids o b) : ∃ a, o = some a ∧ privB a = true := by
 unfold outB at h
 split at h
 ·exact ⟨_, rfl, rfl⟩
 ·exact ⟨_, rfl, rfl⟩
 ·exact h.elim
def Cx.giveI (c0 c : Cx) (L : List Nat) (h0 : c0.w.heap.size ≤ c.w.heap.size) (h : ∀ k ∈ L, k < c.w.heap.size) : Cx :=
 { X := c0.X.filter (fun k => k ∉ c0.Y) ++ L, w := c.w, ok := fun k hk => (by
  rcases List.mem_append.1 hk with hk | hk
  ·exact Nat.lt_of_lt_of_le (c0.ok k (List.mem_filter.1 hk).1) h0
  ·exact h k hk) }
theorem giveI_X {c0 c : Cx} {L : List Nat} {h0 : c0.w.heap.size ≤ c.w.heap.size} {h : ∀ k ∈ L, k < c.w.heap.size} {x : Nat} : x ∈ (Cx.giveI c0 c L h0 h).X ↔ (x ∈ c0.X ∧ x ∉ c0.Y) ∨ x ∈ L := by
 simp [Cx.giveI]
theorem out_in {ks : Nat → Nat} {v r : V} {Hout Hnew : List Blk} (ids : List Nat) (ho : outsB S.H ids ids (lentL ks 0 Hout ++ Hnew)) (hd : ids.Nodup) (hm : mt (viewO S.H ids v) r) : outI E S ks v r Hout Hnew := by
 intro c0 c ρ F u h hr
 obtain ⟨hlen, hget⟩ := outsB_get ho
 have hpriv : ∀ i ∈ ids, ∃ a, getA S.H i = some a ∧ privB a = true := by
  intro i hi
  obtain ⟨j, hj, e⟩ := List.getElem_of_mem hi
  exact outB_priv (hget j i (lentL ks 0 Hout ++ Hnew)[j] (by rw [List.getElem?_eq_getElem hj, e]) (List.getElem?_eq_getElem (by omega)))
 have hL : ∀ x ∈ ids.filterMap (blkOf ρ), x < c.w.heap.size ∧ c0.mine x ∧ x ∈ c.X ∧ ∃ i ∈ ids, blkOf ρ i = some x := by
  intro x hx
  obtain ⟨i, hi, hb⟩ := List.mem_filterMap.1 hx
  obtain ⟨a, h1, h2⟩ := hpriv i hi
  refine ⟨blkOk_lt h2 (h.1.heap i a h1) x hb, blkOf_ge h.1 h1 h2 x hb, ?_, i, hi, hb⟩
  have hbk := h.1.heap i a h1
  cases a with
  | var n g d => obtain ⟨b, g1, _, g3⟩ := hbk; simp only [blkOf, g1, Option.some.injEq] at hb; subst hb; exact g3.1
  | lent b n g d => obtain ⟨g1, _, g3⟩ := hbk; simp only [blkOf, g1, Option.some.injEq] at hb; subst hb; exact g3.1
  | own T n g z l => obtain ⟨u, g1, g2, _, _, a, cap, e, _⟩ := hbk; rw [blkOf_own g1 e] at hb; exact g2.isX x hb
  | ownI T n g z l => obtain ⟨u, g1, g2, _, _, a, cap, e, _⟩ := hbk; rw [blkOf_own g1 e] at hb; exact g2.isX x hb
  | kset g k' n l => obtain ⟨r, g1, _, g3⟩ := hbk; simp only [blkOf, g1, blk, Option.some.injEq] at hb; subst hb; exact g3.1
  | pvar n g d => cases h2
  | pown n g z l => cases h2
 generalize hc1 : Cx.giveI c0 c (ids.filterMap (blkOf ρ)) h.1.since.size (fun k hk => (hL k hk).1) = c1
 have hw : c1.w = c.w := by subst hc1; rfl
 have hX : ∀ x, x ∈ c1.X ↔ (x ∈ c0.X ∧ x ∉ c0.Y) ∨ x ∈ ids.filterMap (blkOf ρ) := by subst hc1; intro x; exact giveI_X
 have hpub : c.pub c1 := by
  refine ⟨by rw [hw]; exact Nat.le_refl _, fun k hk hx => ⟨fun h' => ?_, by rw [hw]; exact fun _ h _ => h⟩⟩
  rcases (hX k).1 h' with h' | h'
  ·exact hx (h.1.since.X k h'.1 h'.2)
  ·exact hx (hL k h').2.2.1
 have hle : c0.leY c1 := by
  refine ⟨by rw [hw]; exact h.1.since.below, fun k hk hy => ⟨fun h' => ?_, fun h' => (hX k).2 (.inl ⟨h', hy⟩)⟩⟩
  rcases (hX k).1 h' with h' | h'
  ·exact h'.1
  ·rcases (hL k h').2.1 with h1 | h1
   ·omega
   ·exact absurd h1 hy
 have hn : ∀ i b, i ∉ ids → getA S.H i = some b → privB b = true → ∀ k, blkOf ρ i = some k → k ∉ c1.X := by
  intro i b hi hb hp k hk hmem
  rcases (hX k).1 hmem with h' | h'
  ·rcases blkOf_ge h.1 hb hp k hk with h1 | h1
   ·have := c0.ok k h'.1; omega
   ·exact h'.2 h1
  ·obtain ⟨_, _, _, j, hj, hb'⟩ := hL k h'
   obtain ⟨a, h1, h2⟩ := hpriv j hj
   exact h.1.sep i j b a k (fun e => hi (e ▸ hj)) hb h1 hp h2 hk hb'
 refine ⟨c1, roIds ρ ids, hw, hle, mt_rd hm (viewO_rd hw hpub h.1 hn hr), ?_, ?_, ?_⟩
 ·intro q b hq
  have hql : q < ids.length := by rw [hlen]; exact (List.getElem?_eq_some_iff.1 hq).1
  obtain ⟨i, hi⟩ : ∃ i, ids[q]? = some i := ⟨_, List.getElem?_eq_getElem hql⟩
  have ho' := hget q i b hi hq
  have hmem : i ∈ ids := List.mem_of_getElem? hi
  have hro : roIds ρ ids q = ρ i := by simp only [roIds, hi]
  have hmemX : ∀ x, blkOf ρ i = some x → x ∈ c1.X := fun x hx => (hX x).2 (.inr (List.mem_filterMap.2 ⟨i, hmem, hx⟩))
  cases hS : getA S.H i with
  | none => rw [hS] at ho'; unfold outB at ho'; exact ho'.elim
  | some a =>
   have hbk := h.1.heap i a hS
   rw [hS] at ho'
   unfold outB at ho'
   split at ho'
   ·rename_i T n g z l T' n' g' z' l' e
    cases e
    obtain ⟨rfl, rfl, rfl, hz, hml⟩ := ho'
    obtain ⟨x, h1, h2, h3, h4, a, cap, e, h5⟩ := hbk
    refine ⟨x, hro.trans h1, own_mt ⟨h2.1, ?_⟩ hml, h3, h4, a, cap, by rw [← mtL_len hml]; exact e, mtZ_ok hz h5⟩
    rcases h2.2 with h' | ⟨g', cp, cur, e2, k1, k2, k3, k4, k5, k6⟩
    ·exact .inl h'
    ·exact .inr ⟨g', cp, cur, e2, hmemX g' (by rw [blkOf_own h1 e, e2]; rfl), by rw [hw]; exact k2, k3, k4, k5, arrIs_mono hpub k6⟩
   ·rename_i k n g d k' n' g' d' e
    cases e
    obtain ⟨rfl, rfl, rfl, hm⟩ := ho'
    obtain ⟨h1, h2, h3, T, cs, h4, h5, h6⟩ := hbk
    exact ⟨hro.trans h1, h2, hmemX k (by simp [blkOf, h1]), T, cs, by rw [hw]; exact h4, h5, mt_rd hm (viewO_rd hw hpub h.1 hn h6)⟩
   ·exact ho'.elim
 ·intro q hq
  simp only [roIds]
  rw [List.getElem?_eq_none (by omega)]
 ·intro q q' bq bq' x hne hq hq' hk hk'
  have get : ∀ {q : Nat} {b : Blk}, (lentL ks 0 Hout ++ Hnew)[q]? = some b → ∃ i a, ids[q]? = some i ∧ getA S.H i = some a ∧ privB a = true := by
   intro q b hq
   have hql : q < ids.length := by rw [hlen]; exact (List.getElem?_eq_some_iff.1 hq).1
   have hi : ids[q]? = some ids[q] := List.getElem?_eq_getElem hql
   obtain ⟨a, h1, h2⟩ := hpriv ids[q] (List.getElem_mem hql)
   exact ⟨_, a, hi, h1, h2⟩
  obtain ⟨i, a, g1, g2, g3⟩ := get hq
  obtain ⟨i', a', g1', g2', g3'⟩ := get hq'
  have hii : i ≠ i' := by
   rintro rfl
   exact hne (nodup_idx hd g1 g1')
  rw [blkOf_eq3 (show roIds ρ ids q = ρ i by simp only [roIds, g1])] at hk
  rw [blkOf_eq3 (show roIds ρ ids q' = ρ i' by simp only [roIds, g1'])] at hk'
  exact h.1.sep i i' a a' x hii g2 g2' g3 g3' hk hk'
where blkOf_eq3 {ρ ρ' : Ro} {i j : Nat} (h : ρ' i = ρ j) : blkOf ρ' i = blkOf ρ j := by unfold blkOf; rw [h]
theorem retCI_in {ks : Nat → Nat} {vs : List V} {r : V} {Hout Hnew : List Blk} (ids : List Nat) (ho : outsB S.H ids ids (lentL ks 0 Hout ++ Hnew)) (hd : ids.Nodup) (hm : mt (viewO S.H ids (tupV vs)) r) : retCI E S ks r Hout Hnew (some vs) := out_in ids ho hd hm
def heapA : Nat → List Blk → List (Nat × Blk)
 | _, [] => []
 | i, b :: l => (i, b) :: heapA (i + 1) l
theorem getA_heapA : ∀ {l : List Blk} {i t : Nat}, getA (heapA i l) t = if i ≤ t then l[t - i]? else none
 | [], i, t => by simp [heapA, getA]
 | v :: l, i, t => by
  simp only [heapA, getA, getA_heapA]
  by_cases h : i = t
  ·subst h; simp
  ·rw [if_neg h]
   by_cases h1 : i ≤ t
   ·rw [if_pos h1, if_pos (by omega)]
    have : t - i = (t - (i + 1)) + 1 := by omega
    rw [this, List.getElem?_cons_succ]
   ·rw [if_neg h1, if_neg (by omega)]
def wfB : Blk → Prop
 | .var _ _ d => wfV d
 | .own _ _ _ _ l => l.length ≤ LEN ∧ wfL l
 | _ => True
def wfBs : List Blk → Prop
 | [] => True
 | b :: l => wfB b ∧ wfBs l
theorem wfBs_of : ∀ {l : List Blk}, (∀ (j : Nat) (b : Blk), l[j]? = some b → wfB b) → wfBs l
 | [], _ => trivial
 | b :: l, h => ⟨h 0 b rfl, wfBs_of fun j b' hb => h (j + 1) b' (by simpa using hb)⟩
theorem enterI (hE : EnvOk E) (hmo : E.P.follows .mixedOrders = true) {f : FuncId} {fn : Func} {code : Code} {ws : List V} {r : V} {Hin Hout Hnew : List Blk} {n : Nat} (J : Cuts) (hf : E.P.funcs[f]? = some fn) (hb : fn.body = some code) (hnt : fn.ntmps = n)
  (hsl : (slotsC n code && decide (ws.length ≤ n) && !(fn.name == "runtime.NumGoroutine")) = true) (hkn : (kndB Hin Hout && ownsB Hnew) = true)
  (h : ∀ ks : Nat → Nat, wfL ws → wfBs Hin → wpA E J code (retKI E fn.results.toList ks r Hout Hnew) ⟨slotsA 0 ws, heapA 0 (lentL ks 0 Hin), Hin.length⟩) : CallIn E f ws Hin r Hout Hnew := by
 simp only [Bool.and_eq_true, Bool.not_eq_true', decide_eq_true_eq] at hsl
 refine ⟨fun aas w => ?_, hkn, fun c us ρ0 ks hg hin hus => ?_⟩
 ·have hn : ¬ fn.name = "runtime.NumGoroutine" := by simpa using hsl.2
  simp [callFunc, hf, hb, hn]
 have hlen : us.length = ws.length := by
  have : ∀ {l : List V} {cs : List Value}, rdT ρ0 c l cs → cs.length = l.length := by
   intro l
   induction l with
   | nil => intro cs hc; simp only [rdT] at hc; subst hc; rfl
   | cons d l ih =>
    intro cs hc
    simp only [rdT] at hc
    obtain ⟨u, c2, rfl, _, h3⟩ := hc
    simp [ih h3]
  exact this hus
 have hwfB : wfBs Hin := by
  refine wfBs_of fun j b hb => ?_
  have h1 := hin.1 j (lentB (ks j) b) (by rw [lentL_get, Nat.zero_add, hb]; rfl)
  cases b with
  | var n g d =>
   obtain ⟨_, _, _, T, cs, _, _, h6⟩ := h1
   exact rd_wf h6
  | own T n g z l =>
   obtain ⟨v, _, h2, _⟩ := h1
   refine ⟨h2.1, ?_⟩
   rcases h2.2 with ⟨_, _, rfl⟩ | ⟨g', cp, cur, e2, k1, k2, k3, k4, k5, k6⟩
   ·trivial
   ·exact rdE_wf (rdE_arr.2 k6)
  | _ => trivial
 have hall := h ks (rdT_wf hus) hwfB
 refine (callsIn_wide (n := 1)).1 (callsIn_of_wp_marks hf hb trivial ?_ rfl)
 have hfr : Fr (mo := plainMo) n (fun t => (us.toArray ++ Array.replicate (n - us.toArray.size) undef).getD t undef) { tmps := us.toArray ++ Array.replicate (fn.ntmps - us.toArray.size) undef, defers := [] } := by
  refine Fr.of ?_ rfl fun t => by rw [hnt]
  simp [hnt]; omega
 have hS : SimN E c c ρ0 ⟨slotsA 0 ws, heapA 0 (lentL ks 0 Hin), Hin.length⟩ (fun t => (us.toArray ++ Array.replicate (n - us.toArray.size) undef).getD t undef) := by
  refine ⟨⟨Since.refl c, hg, ?_, ?_, ?_⟩, fun i hi => hin.2.1 i (by rw [lentL_len]; exact hi)⟩
  ·intro t v ht
   rw [getA_slotsA] at ht
   simp only [Nat.zero_le, if_true, Nat.sub_zero] at ht
   obtain ⟨u, hu, hr⟩ := rdT_get hus ht
   have hlt : t < us.length := (List.getElem?_eq_some_iff.1 hu).1
   have : (us.toArray ++ Array.replicate (n - us.toArray.size) undef).getD t undef = u := by
    have he : us[t] = u := by simpa [List.getElem?_eq_getElem hlt] using hu
    simp [Array.getD_eq_getD_getElem?, Array.getElem?_append, hlt, he]
   rw [this]; exact hr
  ·intro i b hb
   rw [getA_heapA] at hb
   simp only [Nat.zero_le, if_true, Nat.sub_zero] at hb
   exact hin.1 i b hb
  ·intro i j bi bj x hij hbi hbj _ _ hx
   rw [getA_heapA] at hbi hbj
   simp only [Nat.zero_le, if_true, Nat.sub_zero] at hbi hbj
   exact hin.2.2 i j bi bj x hij hbi hbj hx
 refine wpA_sound hE hmo code none _ c _ _ hsl.1.1 (.inl ⟨rfl, rfl⟩) ?_ c ρ0 _ _ _ [] hS hfr trivial hall
 rintro e a w ⟨c', ρ', S', F', ds, rfl, hS, hf', hd, hk⟩
 cases e with
 | ret =>
  simp only [retKI] at hk
  split at hk
  ·rename_i vs hvs
   show LeavesInM _ _ _ _ _ _ a.defers .returning c'.w
   rw [hf'.df]
   refine leave_marks hS hd fun c2 hS2 => ?_
   obtain ⟨u, hu, hr⟩ := results_run hE hS2.1 hf' rfl hvs
   obtain ⟨c1, ρ1, e1, hle, hr1, hH⟩ := hk c c2 ρ' F' u hS2 hr
   exact ⟨u, hu, u, c1, ρ1, rfl, e1, hle, hr1, hH⟩
  ·exact hk.elim
 | normal =>
  simp only [retKI] at hk
  split at hk
  ·rename_i vs hvs
   show LeavesInM _ _ _ _ _ _ a.defers .returning c'.w
   rw [hf'.df]
   refine leave_marks hS hd fun c2 hS2 => ?_
   obtain ⟨u, hu, hr⟩ := results_run hE hS2.1 hf' rfl hvs
   obtain ⟨c1, ρ1, e1, hle, hr1, hH⟩ := hk c c2 ρ' F' u hS2 hr
   exact ⟨u, hu, u, c1, ρ1, rfl, e1, hle, hr1, hH⟩
  ·exact hk.elim
 | _ => exact hk.elim
end
end Go.Proofs.YtjnikknlcmbcmaaGreatDoor
namespace Go.Proofs.YtjnikknlcmbcmaaGreatDoor
open Go.RowKit
attribute [go_sem] St.afterI prF prV prL prH prB ownIds ownIds.ownI1 sg setIds backB renBs renB ren renL lentL lentB heapA insB inO outsB outB inV inVL retKI_ret retKI_normal shiftH cond_true cond_false Nat.sub_self List.getElem?_nil Nat.reduceSub
theorem rdT_nil {c : Cx} {ρ : Ro} {n : Nat} {g : Bool} {post : List V} (h0 : ρ 0 = some (.slice none 0 0)) : ∀ {pre : List V} {us : List Value}, rdT ro0 c (pre ++ .sl (some true) n g [] :: post) us → rdT ρ c (pre ++ .own 0 :: post) us
 | [], us, h => by
  simp only [List.nil_append, rdT] at h ⊢
  obtain ⟨u, c2, e, h1, h2⟩ := h
  have e2 : u = .slice none 0 0 := by
   simp only [rd, zOk] at h1
   obtain ⟨a, cap, e, _, ⟨rfl, rfl⟩, _⟩ := h1
   exact e
  subst e2
  refine ⟨_, c2, e, ?_, ?_⟩
  ·simp only [rd]; exact ⟨h0, rfl⟩
  ·exact rdT_ro (fun i v hi => (ro0_some hi).elim) h2
 | d :: pre, us, h => by
  simp only [List.cons_append, rdT] at h ⊢
  obtain ⟨u, c2, e, h1, h2⟩ := h
  exact ⟨u, c2, e, rd_ro (fun i v hi => (ro0_some hi).elim) h1, rdT_nil h0 h2⟩
theorem callIn_nil {E : Env} {f : FuncId} {pre post : List V} {T n : Nat} {g : Bool} {r : V} {Hout Hnew : List Blk} (h : CallIn E f (pre ++ .own 0 :: post) [.own T n g (some true) []] r Hout Hnew) (hone : g = false → n = 1) : CallOk E f (pre ++ .sl (some true) n g [] :: post) r (Hout ++ Hnew) := by
 refine ⟨h.1, fun c us hY hg hus => ?_⟩
 have hk := h.2.1
 simp only [Bool.and_eq_true] at hk
 obtain ⟨hkl, hkk⟩ := kndB_spec hk.1
 have hall : ∀ (q : Nat) (b : Blk), Hout[q]? = some b → isOwnB b := by
  intro q b hb
  have hq : q < 1 := by have := (List.getElem?_eq_some_iff.1 hb).1; simp at hkl; omega
  have e : q = 0 := by omega
  subst e
  rcases hkk 0 _ b rfl hb with ⟨h1, _⟩ | ⟨_, h1⟩
  ·exact h1.elim
  ·exact h1
 have hlent : ∀ {l : List Blk} {i : Nat}, (∀ (q : Nat) (b : Blk), l[q]? = some b → isOwnB b) → lentL (fun _ => 0) i l = l := by
  intro l
  induction l with
  | nil => intro i _; rfl
  | cons b l ih =>
   intro i hb
   have h1 := hb 0 b rfl
   simp only [lentL]
   rw [ih fun q b hq => hb (q + 1) b (by simpa using hq)]
   cases b <;> simp only [isOwnB] at h1 <;> rfl
 refine (h.2.2 c us (fun i => if i = 0 then some (.slice none 0 0) else none) (fun _ => 0) hg ?_ (rdT_nil (by simp) hus)).mono ?_
 ·refine ⟨fun i b hb => ?_, fun i hi => ?_, fun i j bi bj k hij hi hj => ?_⟩
  ·cases i with
   | zero =>
    simp [lentL, lentB] at hb; subst hb
    exact ⟨.slice none 0 0, by simp, Own.nil, fun k hk => by simp [blk] at hk, hone, none, 0, rfl, rfl, rfl⟩
   | succ i => simp [lentL] at hb
  ·have : i ≠ 0 := by simp [lentL] at hi; omega
   simp [this]
  ·cases i with
   | zero => cases j with
    | zero => exact absurd rfl hij
    | succ j => simp [lentL] at hj
   | succ i => simp [lentL] at hi
 ·rintro e w' ⟨v, c', ρ, rfl, rfl, hle, hr, hH⟩
  rw [hlent hall] at hH
  refine ⟨v, c', ρ, rfl, rfl, hle.le hY, hr, fun i b hb => ⟨?_, hH.1 i b hb⟩, hH.2.1, hH.2.2⟩
  have hb' : isOwnB b := by
   rcases Nat.lt_or_ge i Hout.length with h1 | h1
   ·rw [List.getElem?_append_left h1] at hb; exact hall i b hb
   ·rw [List.getElem?_append_right h1] at hb; exact ownsB_spec hk.2 _ b hb
  cases b <;> simp only [isOwnB] at hb'
  exact ⟨_, _, _, _, _, rfl⟩
end Go.Proofs.YtjnikknlcmbcmaaGreatDoor
namespace Go.Proofs.YtjnikknlcmbcmaaGreatDoor
open Go.RowKit
section
variable {E : Env}
end
end Go.Proofs.YtjnikknlcmbcmaaGreatDoor
namespace Go.Proofs.YtjnikknlcmbcmaaGreatDoor
open Go.RowKit
class CM (E : outParam Env) {α : Type} (m : α) (f : outParam FuncId) (ws : outParam (List V)) (R : outParam (α → V)) (Hs : outParam (α → List Blk)) : Prop where
  ok : CallOk E f ws (R m) (Hs m)
class DRD (id : Nat) (n m : outParam Nat) (wr : outParam (List Nat)) (wl : outParam (List (Nat × Nat))) (need : outParam (List (List Nat))) (ub : outParam (List (Nat × Nat))) : Prop where
  ok : True
class CF {α : Type} (m : α) (P : outParam (α → Prop)) : Prop where
  ok : P m
theorem cfU {α : Type} {x m : α} {P : α → Prop} (hx : x = m) [h : CF m P] : P x := by subst hx; exact h.ok
theorem mpQ {a b : Prop} (h : a) (f : a → b := by assumption) : b := f h
section
variable {E : Env} {J : Cuts} {k : List Ct} {S : St} {α : Type} {f : FuncId} {ws : List V} {R : α → V} {Hs : α → List Blk}
theorem cmQ {m : α} (h : ∀ r, m = r → CallOk E f ws (R r) (Hs r)) : CM E m f ws R Hs := ⟨h m rfl⟩
theorem cmU {x m : α} (hx : x = m) [h : CM E m f ws R Hs] : CallOk E f ws (R x) (Hs x) := by subst hx; exact h.ok
theorem cmH {x m : α} (hx : x = m) (h : CM E m f ws R Hs) : CallOk E f ws (R x) (Hs x) := by subst hx; exact h.ok
theorem ifQ_t {β : Type} {c : Bool} {a b r : β} (hM : (if c = true then a else b) = r) (h : c = true) : a = r := by rw [if_pos h] at hM; exact hM
theorem ifQ_f {β : Type} {c : Bool} {a b r : β} (hM : (if c = true then a else b) = r) (h : c = false) : b = r := by rw [if_neg (by rw [h]; decide)] at hM; exact hM
theorem bindP {r : Res} {d : Option Nat} (h : bindC E J r S d k) : bindC E J r S d k := h
theorem callP {v : Option V} {vs : Option (List V)} {d : Option Nat} (h : callC E J v vs S d k) : callC E J v vs S d k := h
theorem retP {r : V} {H : List Blk} {o : Option (List V)} (h : retC E S r H o) : retC E S r H o := h
theorem lpP {K : St → Prop} (h : cont E J (.lp K :: k) .normal S) : cont E J (.lp K :: k) .normal S := h
theorem drawP {id : Nat} {ops : Array Oper} (h : cont E J (.code (.region id ops true) :: k) .normal S) : cont E J (.code (.region id ops true) :: k) .normal S := h
theorem ct_drawI {id : Nat} {ops : Array Oper} {n m : Nat} {wr : List Nat} {wl : List (Nat × Nat)} {need : List (List Nat)} {ub : List (Nat × Nat)} [DRD id n m wr wl need ub] (hB : (wlB ops m wl && flowB n m ops wr need && ((List.range m).all fun i => (need.getD i []).all fun j => decide (j < i))) = true) (hU : ubB m need ub S.nx = true)
    (h : drawC E ⟨J, S, wr, wl, need, ub, k⟩ m 0 ops.toList []) : cont E J (.code (.region id ops true) :: k) .normal S := ct_draw n m wr wl need ub hB hU h
section
variable {D : Dr} {m i : Nat} {l : List Oper} {L : List (Nat × HRes)} {d : Option Nat}
theorem hbindP {nid : Nat} {r : Res} (h : hbindC E D m i l L d nid r) : hbindC E D m i l L d nid r := h
theorem hcallP {v : Option V} {vs : Option (List V)} (h : hcallC E D m i l L d S v vs) : hcallC E D m i l L d S v vs := h
end
theorem trueQ : True := trivial
theorem elt_mpN {β : Type} [Inhabited β] {l : List β} {g : β → V} {i : Nat} (h : i < l.length) (d : V) : elt (l.map g) i d = g (gt l (i : Int)) := elt_mp (i := (i : Int)) h d
end
theorem auQ {P : Prop} (h : P := by
  repeat' (first
    | ((first | (with_reducible refine condC_intro ?_ ?_) | (with_reducible refine guardC_t ?_ ?_) | (with_reducible refine guardC_f ?_ ?_) | (with_reducible refine hguardC_t ?_ ?_) | (with_reducible refine hguardC_f ?_ ?_)) <;> (intro h0; (first | replace hM := ifQ_t hM h0 | replace hM := ifQ_f hM h0); replace hF := And.intro h0 hF; replace h0 := nzQ h0; (try have h1 := mpQ h0); (first | refine spQA hF ?_ | skip)))
    | (with_reducible refine bindP ?_
       refine bindC_intro ?h9 ?_
       case h9 => exact omQ
       first
         | (rw [elt_mp ?h9]; case h9 => exact omQ)
         | (rw [elt_mpN ?h9]; case h9 => exact omQ)
         | skip
       refine spQA hF ?_)
    | (with_reducible refine hbindP ?_
       first
         | (refine hbindC_intro ?h9 ?_; case h9 => exact omQ)
         | (refine hbindC_introN ?h9 (clQA hF) ?_; case h9 => exact omQ)
         | (refine hbindC_introP ?h9 (clQA hF) ?_; case h9 => exact omQ)
         | (refine hbindC_introA ?h9 (clQA hF) ?_; case h9 => exact omQ)
         | (refine hbindC_introV ?h9 (clQA hF) ?_; case h9 => exact omQ)
         | (refine hbindC_introU ?h9 (clQA hF) ?_; case h9 => exact omQ)
       first
         | (rw [elt_mp ?h9]; case h9 => exact omQ)
         | (rw [elt_mpN ?h9]; case h9 => exact omQ)
         | skip
       refine spQA hF ?_)
    | (with_reducible refine callP ?_
       have hM0 := hM; clear hM; obtain ⟨x0, hx0, hM⟩ := letk_opn hM0; clear hM0
       first
         | refine callC_give (cmU hx0) (clQA hF) (clQA hF) (fun hw0 => ?_)
         | refine callC_look (cmU hx0) (clQA hF) (clQA hF) (fun hw0 => ?_)
       replace hw0 := nzQ hw0
       try have hq0 := nzQ (cfU hx0)
       refine spQA hF ?_)
    | (with_reducible refine hcallP ?_
       have hM0 := hM; clear hM; obtain ⟨x0, hx0, hM⟩ := letk_opn hM0; clear hM0
       first
         | refine hcallC_give (cmU hx0) (clQA hF) (clQA hF) ?_
         | refine hcallC_give (CallOk.pub (cmU hx0)) (clQA hF) (clQA hF) ?_
         | refine hcallC_look (cmU hx0) (clQA hF) (clQA hF) ?_
       try have hq0 := nzQ (cfU hx0)
       refine spQA hF ?_)
    | (with_reducible refine drawP ?_
       refine ct_drawI (by kernel_rfl) (by exact alQ) ?_
       refine spQA hF ?_)
    | (with_reducible refine retP ?_
       subst hM
       exact retC_view (lfQA hF))
    | (with_reducible refine lpP ?_
       refine lp_intro ?_ _ ?h1 ?h2 ?h3 ⟨_, rfl, ?h4, ?h5, iter_again hM ?h6⟩
       case h6 => assumption
       case h1 => omega
       case h2 => first | exact sbQ | exact sbQA (And.intro @gt_cons0 (And.intro @gt_conss hF))
       case h3 => first | exact sbQ | exact sbQA (And.intro @gt_cons0 (And.intro @gt_conss hF))
       case h4 => first | trivial | exact omQ
       case h5 => exact omQ))) : P := h
end Go.Proofs.YtjnikknlcmbcmaaGreatDoor
