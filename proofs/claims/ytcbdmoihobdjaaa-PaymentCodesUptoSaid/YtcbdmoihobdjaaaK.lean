import Derived.Test.YtcbdmoihobdjaaaVY
import Derived.Test.YtcbdmoihobdjaaaProg
import Derived.KernelRfl
namespace Go.Proofs.Ytcbdmoihobdjaaa
open Go.RowKit
noncomputable def tbl : List (TypeId × TI) := [(1, { n := 1, g := false, by' := 8, ok := true, z := .un, k := 6 }),
 (2, { n := 1, g := false, by' := 8, ok := true, z := .int .i64 0, k := 0, ik := .i64 }),
 (3, { n := 1, g := false, by' := 8, ok := true, z := .int .i64 0, k := 0, ik := .i64 }),
 (4, { n := 1, g := false, by' := 1, ok := true, z := .bool false, k := 1 }),
 (5, { n := 1, g := false, by' := 1, ok := true, z := .int .u8 0, k := 0, ik := .u8 }),
 (9, { n := 1, g := false, by' := 16, ok := true, z := .str [], k := 2 }),
 (12, { n := 1, g := false, by' := 8, ok := true, z := .int .u64 0, k := 0, ik := .u64 }),
 (15, { n := 1, g := false, by' := 8, ok := true, z := .un, k := 6 }),
 (16, { n := 1, g := false, by' := 8, ok := true, z := .un, k := 6 }),
 (17, { n := 1, g := false, by' := 8, ok := true, z := .un, k := 6 }),
 (20, { n := 1, g := false, by' := 16, ok := true, z := .un, k := 6 }),
 (21, { n := 1, g := false, by' := 4, ok := true, z := .int .i32 0, k := 0, ik := .i32 }),
 (22, { n := 1, g := false, by' := 24, ok := true, z := .sl (some true) 80 true [], k := 3, el := 59 }),
 (23, { n := 1, g := false, by' := 24, ok := true, z := .sl (some true) 81 true [], k := 3, el := 74 }),
 (24, { n := 1, g := false, by' := 24, ok := true, z := .sl (some true) 5 true [], k := 3, el := 81 }),
 (26, { n := 4, g := true, by' := 80, ok := true, z := .agg [.int .i64 0, .sl (some true) 80 true [], .sl (some true) 81 true [], .sl (some true) 5 true []], k := 5, fs := [(0, 3), (1, 22), (2, 23), (3, 24)] }),
 (27, { n := 1, g := false, by' := 24, ok := true, z := .sl (some true) 1 false [], k := 3, el := 5 }),
 (28, { n := 1, g := false, by' := 8, ok := true, z := .un, k := 6 }),
 (29, { n := 1, g := false, by' := 8, ok := true, z := .un, k := 6 }),
 (30, { n := 1, g := false, by' := 8, ok := true, z := .int .i64 0, k := 0, ik := .i64 }),
 (32, { n := 1, g := false, by' := 8, ok := true, z := .un, k := 6 }),
 (34, { n := 1, g := false, by' := 8, ok := true, z := .un, k := 6 }),
 (35, { n := 1, g := false, by' := 8, ok := true, z := .un, k := 6 }),
 (36, { n := 1, g := false, by' := 8, ok := true, z := .un, k := 6 }),
 (37, { n := 1, g := false, by' := 8, ok := true, z := .un, k := 6 }),
 (39, { n := 1, g := false, by' := 8, ok := true, z := .un, k := 6 }),
 (41, { n := 1, g := false, by' := 8, ok := true, z := .un, k := 6 }),
 (42, { n := 1, g := false, by' := 8, ok := true, z := .un, k := 6 }),
 (43, { n := 1, g := false, by' := 24, ok := true, z := .sl (some true) 83 true [], k := 3, el := 61 }),
 (44, { n := 32, g := true, by' := 32, ok := true, z := .agg [.int .u8 0, .int .u8 0, .int .u8 0, .int .u8 0, .int .u8 0, .int .u8 0, .int .u8 0, .int .u8 0, .int .u8 0, .int .u8 0, .int .u8 0, .int .u8 0, .int .u8 0, .int .u8 0, .int .u8 0, .int .u8 0, .int .u8 0, .int .u8 0, .int .u8 0, .int .u8 0, .int .u8 0, .int .u8 0, .int .u8 0, .int .u8 0, .int .u8 0, .int .u8 0, .int .u8 0, .int .u8 0, .int .u8 0, .int .u8 0, .int .u8 0, .int .u8 0], k := 4, el := 5, len := 32, cmp := true, ck := [0, 0, 0, 0, 0, 0, 0, 0, 0, 0, 0, 0, 0, 0, 0, 0, 0, 0, 0, 0, 0, 0, 0, 0, 0, 0, 0, 0, 0, 0, 0, 0] }),
 (45, { n := 32, g := true, by' := 32, ok := true, z := .agg [.int .u8 0, .int .u8 0, .int .u8 0, .int .u8 0, .int .u8 0, .int .u8 0, .int .u8 0, .int .u8 0, .int .u8 0, .int .u8 0, .int .u8 0, .int .u8 0, .int .u8 0, .int .u8 0, .int .u8 0, .int .u8 0, .int .u8 0, .int .u8 0, .int .u8 0, .int .u8 0, .int .u8 0, .int .u8 0, .int .u8 0, .int .u8 0, .int .u8 0, .int .u8 0, .int .u8 0, .int .u8 0, .int .u8 0, .int .u8 0, .int .u8 0, .int .u8 0], k := 4, el := 5, len := 32, cmp := true, ck := [0, 0, 0, 0, 0, 0, 0, 0, 0, 0, 0, 0, 0, 0, 0, 0, 0, 0, 0, 0, 0, 0, 0, 0, 0, 0, 0, 0, 0, 0, 0, 0] }),
 (47, { n := 4, g := true, by' := 32, ok := true, z := .agg [.int .i64 0, .int .i64 0, .int .i64 0, .int .i64 0], k := 5, fs := [(0, 3), (1, 3), (2, 3), (3, 3)], cmp := true, ck := [0, 0, 0, 0] }),
 (49, { n := 41, g := true, by' := 104, ok := true, z := .agg [.int .i64 0, .int .i64 0, .int .i64 0, .int .i64 0, .int .i64 0, .int .u8 0, .int .u8 0, .int .u8 0, .int .u8 0, .int .u8 0, .int .u8 0, .int .u8 0, .int .u8 0, .int .u8 0, .int .u8 0, .int .u8 0, .int .u8 0, .int .u8 0, .int .u8 0, .int .u8 0, .int .u8 0, .int .u8 0, .int .u8 0, .int .u8 0, .int .u8 0, .int .u8 0, .int .u8 0, .int .u8 0, .int .u8 0, .int .u8 0, .int .u8 0, .int .u8 0, .int .u8 0, .int .u8 0, .int .u8 0, .int .u8 0, .int .u8 0, .int .i64 0, .int .i64 0, .int .i64 0, .int .i64 0], k := 5, fs := [(0, 3), (1, 3), (2, 3), (3, 3), (4, 3), (5, 45), (37, 47)], cmp := true, ck := [0, 0, 0, 0, 0, 0, 0, 0, 0, 0, 0, 0, 0, 0, 0, 0, 0, 0, 0, 0, 0, 0, 0, 0, 0, 0, 0, 0, 0, 0, 0, 0, 0, 0, 0, 0, 0, 0, 0, 0, 0] }),
 (51, { n := 2, g := true, by' := 16, ok := true, z := .agg [.int .i64 0, .int .i64 0], k := 5, fs := [(0, 3), (1, 3)], cmp := true, ck := [0, 0] }),
 (53, { n := 34, g := true, by' := 48, ok := true, z := .agg [.int .u8 0, .int .u8 0, .int .u8 0, .int .u8 0, .int .u8 0, .int .u8 0, .int .u8 0, .int .u8 0, .int .u8 0, .int .u8 0, .int .u8 0, .int .u8 0, .int .u8 0, .int .u8 0, .int .u8 0, .int .u8 0, .int .u8 0, .int .u8 0, .int .u8 0, .int .u8 0, .int .u8 0, .int .u8 0, .int .u8 0, .int .u8 0, .int .u8 0, .int .u8 0, .int .u8 0, .int .u8 0, .int .u8 0, .int .u8 0, .int .u8 0, .int .u8 0, .int .i64 0, .int .i64 0], k := 5, fs := [(0, 45), (32, 3), (33, 3)], cmp := true, ck := [0, 0, 0, 0, 0, 0, 0, 0, 0, 0, 0, 0, 0, 0, 0, 0, 0, 0, 0, 0, 0, 0, 0, 0, 0, 0, 0, 0, 0, 0, 0, 0, 0, 0] }),
 (54, { n := 1, g := false, by' := 24, ok := true, z := .sl (some true) 3 true [], k := 3, el := 116 }),
 (55, { n := 1, g := false, by' := 24, ok := true, z := .sl (some true) 32 true [], k := 3, el := 45 }),
 (57, { n := 2, g := true, by' := 32, ok := true, z := .agg [.int .i64 0, .sl (some true) 32 true []], k := 5, fs := [(0, 3), (1, 55)] }),
 (59, { n := 80, g := true, by' := 224, ok := true, z := .agg [.int .i64 0, .int .i64 0, .int .i64 0, .int .i64 0, .int .i64 0, .int .u8 0, .int .u8 0, .int .u8 0, .int .u8 0, .int .u8 0, .int .u8 0, .int .u8 0, .int .u8 0, .int .u8 0, .int .u8 0, .int .u8 0, .int .u8 0, .int .u8 0, .int .u8 0, .int .u8 0, .int .u8 0, .int .u8 0, .int .u8 0, .int .u8 0, .int .u8 0, .int .u8 0, .int .u8 0, .int .u8 0, .int .u8 0, .int .u8 0, .int .u8 0, .int .u8 0, .int .u8 0, .int .u8 0, .int .u8 0, .int .u8 0, .int .u8 0, .int .i64 0, .int .i64 0, .int .i64 0, .int .i64 0, .int .i64 0, .int .i64 0, .int .u8 0, .int .u8 0, .int .u8 0, .int .u8 0, .int .u8 0, .int .u8 0, .int .u8 0, .int .u8 0, .int .u8 0, .int .u8 0, .int .u8 0, .int .u8 0, .int .u8 0, .int .u8 0, .int .u8 0, .int .u8 0, .int .u8 0, .int .u8 0, .int .u8 0, .int .u8 0, .int .u8 0, .int .u8 0, .int .u8 0, .int .u8 0, .int .u8 0, .int .u8 0, .int .u8 0, .int .u8 0, .int .u8 0, .int .u8 0, .int .u8 0, .int .u8 0, .int .i64 0, .int .i64 0, .sl (some true) 3 true [], .int .i64 0, .sl (some true) 32 true []], k := 5, fs := [(0, 49), (41, 51), (43, 53), (77, 54), (78, 57)] }),
 (61, { n := 83, g := true, by' := 248, ok := true, z := .agg [.int .i64 0, .int .i64 0, .int .i64 0, .int .i64 0, .int .i64 0, .int .i64 0, .int .i64 0, .int .u8 0, .int .u8 0, .int .u8 0, .int .u8 0, .int .u8 0, .int .u8 0, .int .u8 0, .int .u8 0, .int .u8 0, .int .u8 0, .int .u8 0, .int .u8 0, .int .u8 0, .int .u8 0, .int .u8 0, .int .u8 0, .int .u8 0, .int .u8 0, .int .u8 0, .int .u8 0, .int .u8 0, .int .u8 0, .int .u8 0, .int .u8 0, .int .u8 0, .int .u8 0, .int .u8 0, .int .u8 0, .int .u8 0, .int .u8 0, .int .u8 0, .int .u8 0, .int .i64 0, .int .i64 0, .int .i64 0, .int .i64 0, .int .i64 0, .int .i64 0, .int .u8 0, .int .u8 0, .int .u8 0, .int .u8 0, .int .u8 0, .int .u8 0, .int .u8 0, .int .u8 0, .int .u8 0, .int .u8 0, .int .u8 0, .int .u8 0, .int .u8 0, .int .u8 0, .int .u8 0, .int .u8 0, .int .u8 0, .int .u8 0, .int .u8 0, .int .u8 0, .int .u8 0, .int .u8 0, .int .u8 0, .int .u8 0, .int .u8 0, .int .u8 0, .int .u8 0, .int .u8 0, .int .u8 0, .int .u8 0, .int .u8 0, .int .u8 0, .int .i64 0, .int .i64 0, .sl (some true) 3 true [], .int .i64 0, .sl (some true) 32 true [], .int .i64 0], k := 5, fs := [(0, 3), (1, 3), (2, 59), (82, 3)] }),
 (62, { n := 1, g := false, by' := 8, ok := true, z := .un, k := 6 }),
 (63, { n := 1, g := false, by' := 8, ok := true, z := .un, k := 6 }),
 (64, { n := 1, g := false, by' := 8, ok := true, z := .un, k := 6 }),
 (65, { n := 1, g := false, by' := 8, ok := true, z := .un, k := 6 }),
 (67, { n := 35, g := true, by' := 56, ok := true, z := .agg [.int .u8 0, .int .u8 0, .int .u8 0, .int .u8 0, .int .u8 0, .int .u8 0, .int .u8 0, .int .u8 0, .int .u8 0, .int .u8 0, .int .u8 0, .int .u8 0, .int .u8 0, .int .u8 0, .int .u8 0, .int .u8 0, .int .u8 0, .int .u8 0, .int .u8 0, .int .u8 0, .int .u8 0, .int .u8 0, .int .u8 0, .int .u8 0, .int .u8 0, .int .u8 0, .int .u8 0, .int .u8 0, .int .u8 0, .int .u8 0, .int .u8 0, .int .u8 0, .int .i64 0, .int .i64 0, .int .i64 0], k := 5, fs := [(0, 45), (32, 3), (33, 3), (34, 3)], cmp := true, ck := [0, 0, 0, 0, 0, 0, 0, 0, 0, 0, 0, 0, 0, 0, 0, 0, 0, 0, 0, 0, 0, 0, 0, 0, 0, 0, 0, 0, 0, 0, 0, 0, 0, 0, 0] }),
 (69, { n := 1, g := false, by' := 8, ok := true, z := .un, k := 6 }),
 (70, { n := 1, g := false, by' := 8, ok := true, z := .un, k := 6 }),
 (71, { n := 1, g := false, by' := 8, ok := true, z := .un, k := 6 }),
 (72, { n := 1, g := false, by' := 8, ok := true, z := .un, k := 6 }),
 (74, { n := 81, g := true, by' := 248, ok := true, z := .agg [.int .i64 0, .int .i64 0, .int .i64 0, .int .i64 0, .int .i64 0, .int .u8 0, .int .u8 0, .int .u8 0, .int .u8 0, .int .u8 0, .int .u8 0, .int .u8 0, .int .u8 0, .int .u8 0, .int .u8 0, .int .u8 0, .int .u8 0, .int .u8 0, .int .u8 0, .int .u8 0, .int .u8 0, .int .u8 0, .int .u8 0, .int .u8 0, .int .u8 0, .int .u8 0, .int .u8 0, .int .u8 0, .int .u8 0, .int .u8 0, .int .u8 0, .int .u8 0, .int .u8 0, .int .u8 0, .int .u8 0, .int .u8 0, .int .u8 0, .int .i64 0, .int .i64 0, .int .i64 0, .int .i64 0, .int .i64 0, .int .i64 0, .int .u8 0, .int .u8 0, .int .u8 0, .int .u8 0, .int .u8 0, .int .u8 0, .int .u8 0, .int .u8 0, .int .u8 0, .int .u8 0, .int .u8 0, .int .u8 0, .int .u8 0, .int .u8 0, .int .u8 0, .int .u8 0, .int .u8 0, .int .u8 0, .int .u8 0, .int .u8 0, .int .u8 0, .int .u8 0, .int .u8 0, .int .u8 0, .int .u8 0, .int .u8 0, .int .u8 0, .int .u8 0, .int .u8 0, .int .u8 0, .int .u8 0, .int .u8 0, .int .i64 0, .int .i64 0, .sl (some true) 3 true [], .int .i64 0, .sl (some true) 32 true [], .sl (some true) 80 true []], k := 5, fs := [(0, 59), (80, 22)] }),
 (75, { n := 1, g := false, by' := 8, ok := true, z := .un, k := 6 }),
 (76, { n := 1, g := false, by' := 8, ok := true, z := .un, k := 6 }),
 (77, { n := 1, g := false, by' := 24, ok := true, z := .sl (some true) 1 false [], k := 3, el := 3 }),
 (79, { n := 3, g := true, by' := 56, ok := true, z := .agg [.sl (some true) 1 false [], .int .i64 0, .sl (some true) 1 false []], k := 5, fs := [(0, 77), (1, 3), (2, 77)] }),
 (81, { n := 5, g := true, by' := 72, ok := true, z := .agg [.int .i64 0, .int .i64 0, .sl (some true) 1 false [], .int .i64 0, .sl (some true) 1 false []], k := 5, fs := [(0, 3), (1, 3), (2, 79)] }),
 (82, { n := 1, g := false, by' := 8, ok := true, z := .un, k := 6 }),
 (83, { n := 1, g := false, by' := 8, ok := true, z := .un, k := 6 }),
 (84, { n := 1, g := false, by' := 24, ok := true, z := .sl (some true) 4 true [], k := 3, el := 86 }),
 (86, { n := 4, g := true, by' := 64, ok := true, z := .agg [.int .i64 0, .int .i64 0, .sl (some true) 1 false [], .sl (some true) 4 true []], k := 5, fs := [(0, 3), (1, 3), (2, 27), (3, 84)] }),
 (87, { n := 1, g := false, by' := 8, ok := true, z := .un, k := 6 }),
 (88, { n := 1, g := false, by' := 8, ok := true, z := .un, k := 6 }),
 (89, { n := 1, g := false, by' := 8, ok := true, z := .un, k := 6 }),
 (90, { n := 1, g := false, by' := 8, ok := true, z := .un, k := 6 }),
 (91, { n := 1, g := false, by' := 8, ok := true, z := .un, k := 6 }),
 (92, { n := 1, g := false, by' := 8, ok := true, z := .un, k := 6 }),
 (93, { n := 1, g := false, by' := 8, ok := true, z := .un, k := 6 }),
 (95, { n := 1, g := false, by' := 8, ok := true, z := .un, k := 6 }),
 (97, { n := 1, g := false, by' := 8, ok := true, z := .un, k := 6 }),
 (98, { n := 1, g := false, by' := 8, ok := true, z := .un, k := 6 }),
 (100, { n := 1, g := false, by' := 8, ok := true, z := .un, k := 6 }),
 (101, { n := 1, g := false, by' := 8, ok := true, z := .un, k := 6 }),
 (103, { n := 1, g := false, by' := 8, ok := true, z := .un, k := 6 }),
 (104, { n := 1, g := false, by' := 8, ok := true, z := .un, k := 6 }),
 (105, { n := 1, g := false, by' := 8, ok := true, z := .un, k := 6 }),
 (106, { n := 1, g := false, by' := 8, ok := true, z := .un, k := 6 }),
 (107, { n := 1, g := false, by' := 8, ok := true, z := .un, k := 6 }),
 (108, { n := 1, g := false, by' := 8, ok := true, z := .un, k := 6 }),
 (109, { n := 1, g := false, by' := 8, ok := true, z := .un, k := 6 }),
 (110, { n := 1, g := false, by' := 8, ok := true, z := .un, k := 6 }),
 (113, { n := 1, g := false, by' := 8, ok := true, z := .un, k := 6 }),
 (114, { n := 1, g := false, by' := 8, ok := true, z := .un, k := 6 }),
 (116, { n := 3, g := true, by' := 24, ok := true, z := .agg [.int .i64 0, .int .i64 0, .int .i64 0], k := 5, fs := [(0, 3), (1, 3), (2, 3)], cmp := true, ck := [0, 0, 0] }),
 (117, { n := 1, g := false, by' := 8, ok := true, z := .un, k := 6 }),
 (118, { n := 1, g := false, by' := 8, ok := true, z := .un, k := 6 }),
 (120, { n := 1, g := false, by' := 8, ok := true, z := .un, k := 6 }),
 (121, { n := 1, g := false, by' := 8, ok := true, z := .un, k := 6 }),
 (122, { n := 1, g := false, by' := 8, ok := true, z := .un, k := 6 }),
 (123, { n := 1, g := false, by' := 8, ok := true, z := .un, k := 6 }),
 (124, { n := 1, g := false, by' := 8, ok := true, z := .un, k := 6 }),
 (125, { n := 1, g := false, by' := 8, ok := true, z := .un, k := 6 }),
 (126, { n := 1, g := false, by' := 8, ok := true, z := .un, k := 6 }),
 (127, { n := 1, g := false, by' := 8, ok := true, z := .un, k := 6 }),
 (128, { n := 1, g := false, by' := 8, ok := true, z := .un, k := 6 }),
 (129, { n := 1, g := false, by' := 8, ok := true, z := .un, k := 6 }),
 (131, { n := 2, g := true, by' := 32, ok := true, z := .agg [.sl (some true) 1 false [], .int .i64 0], k := 5, fs := [(0, 27), (1, 30)] }),
 (132, { n := 1, g := false, by' := 8, ok := true, z := .un, k := 6 }),
 (134, { n := 1, g := false, by' := 8, ok := true, z := .un, k := 6 }),
 (138, { n := 1, g := false, by' := 8, ok := true, z := .un, k := 6 }),
 (139, { n := 1, g := false, by' := 8, ok := true, z := .un, k := 6 }),
 (140, { n := 1, g := false, by' := 8, ok := true, z := .un, k := 6 }),
 (141, { n := 1, g := false, by' := 8, ok := true, z := .un, k := 6 }),
 (142, { n := 1, g := false, by' := 8, ok := true, z := .un, k := 6 }),
 (143, { n := 1, g := false, by' := 8, ok := true, z := .un, k := 6 }),
 (144, { n := 1, g := false, by' := 8, ok := true, z := .un, k := 6 }),
 (145, { n := 1, g := false, by' := 8, ok := true, z := .int .u64 0, k := 0, ik := .u64 }),
 (147, { n := 1, g := false, by' := 8, ok := true, z := .un, k := 6 }),
 (149, { n := 1, g := false, by' := 8, ok := true, z := .un, k := 6 }),
 (151, { n := 1, g := false, by' := 8, ok := true, z := .un, k := 6 }),
 (153, { n := 1, g := false, by' := 8, ok := true, z := .un, k := 6 }),
 (154, { n := 1, g := false, by' := 8, ok := true, z := .un, k := 6 }),
 (155, { n := 1, g := false, by' := 8, ok := true, z := .un, k := 6 }),
 (156, { n := 1, g := false, by' := 8, ok := true, z := .un, k := 6 }),
 (158, { n := 1, g := true, by' := 24, ok := true, z := .agg [.sl (some true) 4 true []], k := 5, fs := [(0, 84)] }),
 (159, { n := 1, g := false, by' := 8, ok := true, z := .un, k := 6 }),
 (160, { n := 1, g := false, by' := 8, ok := true, z := .un, k := 6 }),
 (161, { n := 1, g := false, by' := 8, ok := true, z := .un, k := 6 }),
 (162, { n := 1, g := false, by' := 8, ok := true, z := .un, k := 6 }),
 (164, { n := 1, g := false, by' := 8, ok := true, z := .un, k := 6 }),
 (166, { n := 1, g := false, by' := 8, ok := true, z := .un, k := 6 }),
 (167, { n := 1, g := false, by' := 8, ok := true, z := .un, k := 6 }),
 (168, { n := 1, g := false, by' := 8, ok := true, z := .un, k := 6 }),
 (169, { n := 1, g := false, by' := 8, ok := true, z := .un, k := 6 }),
 (170, { n := 1, g := false, by' := 8, ok := true, z := .int .u64 0, k := 0, ik := .u64 }),
 (171, { n := 1, g := false, by' := 8, ok := true, z := .un, k := 6 }),
 (172, { n := 1, g := false, by' := 8, ok := true, z := .un, k := 6 }),
 (178, { n := 1, g := false, by' := 8, ok := true, z := .un, k := 6 }),
 (179, { n := 1, g := false, by' := 4, ok := true, z := .int .u32 0, k := 0, ik := .u32 }),
 (182, { n := 1, g := false, by' := 8, ok := true, z := .un, k := 6 }),
 (183, { n := 1, g := false, by' := 8, ok := true, z := .un, k := 6 }),
 (188, { n := 1, g := false, by' := 8, ok := true, z := .un, k := 6 })]
noncomputable def En : Env := { P := Try.prog, tb := tbOf tbl, gv := fun _ => none }
set_option maxRecDepth 100000 in
theorem tbl_ok : tablesB Try.prog tbl = true := by kernel_rfl
theorem En_ok : EnvOk En := ⟨fun _ h => tOk (l := tbl) tbl_ok h⟩
theorem En_mo : En.P.follows .mixedOrders = true := by kernel_rfl
@[go_sem] theorem tb1 : En.tb 1 = { n := 1, g := false, by' := 8, ok := true, z := .un, k := 6 } := rfl
@[go_sem] theorem tb2 : En.tb 2 = { n := 1, g := false, by' := 8, ok := true, z := .int .i64 0, k := 0, ik := .i64 } := rfl
@[go_sem] theorem tb3 : En.tb 3 = { n := 1, g := false, by' := 8, ok := true, z := .int .i64 0, k := 0, ik := .i64 } := rfl
@[go_sem] theorem tb4 : En.tb 4 = { n := 1, g := false, by' := 1, ok := true, z := .bool false, k := 1 } := rfl
@[go_sem] theorem tb5 : En.tb 5 = { n := 1, g := false, by' := 1, ok := true, z := .int .u8 0, k := 0, ik := .u8 } := rfl
@[go_sem] theorem tb9 : En.tb 9 = { n := 1, g := false, by' := 16, ok := true, z := .str [], k := 2 } := rfl
@[go_sem] theorem tb12 : En.tb 12 = { n := 1, g := false, by' := 8, ok := true, z := .int .u64 0, k := 0, ik := .u64 } := rfl
@[go_sem] theorem tb15 : En.tb 15 = { n := 1, g := false, by' := 8, ok := true, z := .un, k := 6 } := rfl
@[go_sem] theorem tb16 : En.tb 16 = { n := 1, g := false, by' := 8, ok := true, z := .un, k := 6 } := rfl
@[go_sem] theorem tb17 : En.tb 17 = { n := 1, g := false, by' := 8, ok := true, z := .un, k := 6 } := rfl
@[go_sem] theorem tb20 : En.tb 20 = { n := 1, g := false, by' := 16, ok := true, z := .un, k := 6 } := rfl
@[go_sem] theorem tb21 : En.tb 21 = { n := 1, g := false, by' := 4, ok := true, z := .int .i32 0, k := 0, ik := .i32 } := rfl
@[go_sem] theorem tb22 : En.tb 22 = { n := 1, g := false, by' := 24, ok := true, z := .sl (some true) 80 true [], k := 3, el := 59 } := rfl
@[go_sem] theorem tb23 : En.tb 23 = { n := 1, g := false, by' := 24, ok := true, z := .sl (some true) 81 true [], k := 3, el := 74 } := rfl
@[go_sem] theorem tb24 : En.tb 24 = { n := 1, g := false, by' := 24, ok := true, z := .sl (some true) 5 true [], k := 3, el := 81 } := rfl
@[go_sem] theorem tb26 : En.tb 26 = { n := 4, g := true, by' := 80, ok := true, z := .agg [.int .i64 0, .sl (some true) 80 true [], .sl (some true) 81 true [], .sl (some true) 5 true []], k := 5, fs := [(0, 3), (1, 22), (2, 23), (3, 24)] } := rfl
@[go_sem] theorem tb27 : En.tb 27 = { n := 1, g := false, by' := 24, ok := true, z := .sl (some true) 1 false [], k := 3, el := 5 } := rfl
@[go_sem] theorem tb28 : En.tb 28 = { n := 1, g := false, by' := 8, ok := true, z := .un, k := 6 } := rfl
@[go_sem] theorem tb29 : En.tb 29 = { n := 1, g := false, by' := 8, ok := true, z := .un, k := 6 } := rfl
@[go_sem] theorem tb30 : En.tb 30 = { n := 1, g := false, by' := 8, ok := true, z := .int .i64 0, k := 0, ik := .i64 } := rfl
@[go_sem] theorem tb32 : En.tb 32 = { n := 1, g := false, by' := 8, ok := true, z := .un, k := 6 } := rfl
@[go_sem] theorem tb34 : En.tb 34 = { n := 1, g := false, by' := 8, ok := true, z := .un, k := 6 } := rfl
@[go_sem] theorem tb35 : En.tb 35 = { n := 1, g := false, by' := 8, ok := true, z := .un, k := 6 } := rfl
@[go_sem] theorem tb36 : En.tb 36 = { n := 1, g := false, by' := 8, ok := true, z := .un, k := 6 } := rfl
@[go_sem] theorem tb37 : En.tb 37 = { n := 1, g := false, by' := 8, ok := true, z := .un, k := 6 } := rfl
@[go_sem] theorem tb39 : En.tb 39 = { n := 1, g := false, by' := 8, ok := true, z := .un, k := 6 } := rfl
@[go_sem] theorem tb41 : En.tb 41 = { n := 1, g := false, by' := 8, ok := true, z := .un, k := 6 } := rfl
@[go_sem] theorem tb42 : En.tb 42 = { n := 1, g := false, by' := 8, ok := true, z := .un, k := 6 } := rfl
@[go_sem] theorem tb43 : En.tb 43 = { n := 1, g := false, by' := 24, ok := true, z := .sl (some true) 83 true [], k := 3, el := 61 } := rfl
@[go_sem] theorem tb44 : En.tb 44 = { n := 32, g := true, by' := 32, ok := true, z := .agg [.int .u8 0, .int .u8 0, .int .u8 0, .int .u8 0, .int .u8 0, .int .u8 0, .int .u8 0, .int .u8 0, .int .u8 0, .int .u8 0, .int .u8 0, .int .u8 0, .int .u8 0, .int .u8 0, .int .u8 0, .int .u8 0, .int .u8 0, .int .u8 0, .int .u8 0, .int .u8 0, .int .u8 0, .int .u8 0, .int .u8 0, .int .u8 0, .int .u8 0, .int .u8 0, .int .u8 0, .int .u8 0, .int .u8 0, .int .u8 0, .int .u8 0, .int .u8 0], k := 4, el := 5, len := 32, cmp := true, ck := [0, 0, 0, 0, 0, 0, 0, 0, 0, 0, 0, 0, 0, 0, 0, 0, 0, 0, 0, 0, 0, 0, 0, 0, 0, 0, 0, 0, 0, 0, 0, 0] } := rfl
@[go_sem] theorem tb45 : En.tb 45 = { n := 32, g := true, by' := 32, ok := true, z := .agg [.int .u8 0, .int .u8 0, .int .u8 0, .int .u8 0, .int .u8 0, .int .u8 0, .int .u8 0, .int .u8 0, .int .u8 0, .int .u8 0, .int .u8 0, .int .u8 0, .int .u8 0, .int .u8 0, .int .u8 0, .int .u8 0, .int .u8 0, .int .u8 0, .int .u8 0, .int .u8 0, .int .u8 0, .int .u8 0, .int .u8 0, .int .u8 0, .int .u8 0, .int .u8 0, .int .u8 0, .int .u8 0, .int .u8 0, .int .u8 0, .int .u8 0, .int .u8 0], k := 4, el := 5, len := 32, cmp := true, ck := [0, 0, 0, 0, 0, 0, 0, 0, 0, 0, 0, 0, 0, 0, 0, 0, 0, 0, 0, 0, 0, 0, 0, 0, 0, 0, 0, 0, 0, 0, 0, 0] } := rfl
@[go_sem] theorem tb47 : En.tb 47 = { n := 4, g := true, by' := 32, ok := true, z := .agg [.int .i64 0, .int .i64 0, .int .i64 0, .int .i64 0], k := 5, fs := [(0, 3), (1, 3), (2, 3), (3, 3)], cmp := true, ck := [0, 0, 0, 0] } := rfl
@[go_sem] theorem tb49 : En.tb 49 = { n := 41, g := true, by' := 104, ok := true, z := .agg [.int .i64 0, .int .i64 0, .int .i64 0, .int .i64 0, .int .i64 0, .int .u8 0, .int .u8 0, .int .u8 0, .int .u8 0, .int .u8 0, .int .u8 0, .int .u8 0, .int .u8 0, .int .u8 0, .int .u8 0, .int .u8 0, .int .u8 0, .int .u8 0, .int .u8 0, .int .u8 0, .int .u8 0, .int .u8 0, .int .u8 0, .int .u8 0, .int .u8 0, .int .u8 0, .int .u8 0, .int .u8 0, .int .u8 0, .int .u8 0, .int .u8 0, .int .u8 0, .int .u8 0, .int .u8 0, .int .u8 0, .int .u8 0, .int .u8 0, .int .i64 0, .int .i64 0, .int .i64 0, .int .i64 0], k := 5, fs := [(0, 3), (1, 3), (2, 3), (3, 3), (4, 3), (5, 45), (37, 47)], cmp := true, ck := [0, 0, 0, 0, 0, 0, 0, 0, 0, 0, 0, 0, 0, 0, 0, 0, 0, 0, 0, 0, 0, 0, 0, 0, 0, 0, 0, 0, 0, 0, 0, 0, 0, 0, 0, 0, 0, 0, 0, 0, 0] } := rfl
@[go_sem] theorem tb51 : En.tb 51 = { n := 2, g := true, by' := 16, ok := true, z := .agg [.int .i64 0, .int .i64 0], k := 5, fs := [(0, 3), (1, 3)], cmp := true, ck := [0, 0] } := rfl
@[go_sem] theorem tb53 : En.tb 53 = { n := 34, g := true, by' := 48, ok := true, z := .agg [.int .u8 0, .int .u8 0, .int .u8 0, .int .u8 0, .int .u8 0, .int .u8 0, .int .u8 0, .int .u8 0, .int .u8 0, .int .u8 0, .int .u8 0, .int .u8 0, .int .u8 0, .int .u8 0, .int .u8 0, .int .u8 0, .int .u8 0, .int .u8 0, .int .u8 0, .int .u8 0, .int .u8 0, .int .u8 0, .int .u8 0, .int .u8 0, .int .u8 0, .int .u8 0, .int .u8 0, .int .u8 0, .int .u8 0, .int .u8 0, .int .u8 0, .int .u8 0, .int .i64 0, .int .i64 0], k := 5, fs := [(0, 45), (32, 3), (33, 3)], cmp := true, ck := [0, 0, 0, 0, 0, 0, 0, 0, 0, 0, 0, 0, 0, 0, 0, 0, 0, 0, 0, 0, 0, 0, 0, 0, 0, 0, 0, 0, 0, 0, 0, 0, 0, 0] } := rfl
@[go_sem] theorem tb54 : En.tb 54 = { n := 1, g := false, by' := 24, ok := true, z := .sl (some true) 3 true [], k := 3, el := 116 } := rfl
@[go_sem] theorem tb55 : En.tb 55 = { n := 1, g := false, by' := 24, ok := true, z := .sl (some true) 32 true [], k := 3, el := 45 } := rfl
@[go_sem] theorem tb57 : En.tb 57 = { n := 2, g := true, by' := 32, ok := true, z := .agg [.int .i64 0, .sl (some true) 32 true []], k := 5, fs := [(0, 3), (1, 55)] } := rfl
@[go_sem] theorem tb59 : En.tb 59 = { n := 80, g := true, by' := 224, ok := true, z := .agg [.int .i64 0, .int .i64 0, .int .i64 0, .int .i64 0, .int .i64 0, .int .u8 0, .int .u8 0, .int .u8 0, .int .u8 0, .int .u8 0, .int .u8 0, .int .u8 0, .int .u8 0, .int .u8 0, .int .u8 0, .int .u8 0, .int .u8 0, .int .u8 0, .int .u8 0, .int .u8 0, .int .u8 0, .int .u8 0, .int .u8 0, .int .u8 0, .int .u8 0, .int .u8 0, .int .u8 0, .int .u8 0, .int .u8 0, .int .u8 0, .int .u8 0, .int .u8 0, .int .u8 0, .int .u8 0, .int .u8 0, .int .u8 0, .int .u8 0, .int .i64 0, .int .i64 0, .int .i64 0, .int .i64 0, .int .i64 0, .int .i64 0, .int .u8 0, .int .u8 0, .int .u8 0, .int .u8 0, .int .u8 0, .int .u8 0, .int .u8 0, .int .u8 0, .int .u8 0, .int .u8 0, .int .u8 0, .int .u8 0, .int .u8 0, .int .u8 0, .int .u8 0, .int .u8 0, .int .u8 0, .int .u8 0, .int .u8 0, .int .u8 0, .int .u8 0, .int .u8 0, .int .u8 0, .int .u8 0, .int .u8 0, .int .u8 0, .int .u8 0, .int .u8 0, .int .u8 0, .int .u8 0, .int .u8 0, .int .u8 0, .int .i64 0, .int .i64 0, .sl (some true) 3 true [], .int .i64 0, .sl (some true) 32 true []], k := 5, fs := [(0, 49), (41, 51), (43, 53), (77, 54), (78, 57)] } := rfl
@[go_sem] theorem tb61 : En.tb 61 = { n := 83, g := true, by' := 248, ok := true, z := .agg [.int .i64 0, .int .i64 0, .int .i64 0, .int .i64 0, .int .i64 0, .int .i64 0, .int .i64 0, .int .u8 0, .int .u8 0, .int .u8 0, .int .u8 0, .int .u8 0, .int .u8 0, .int .u8 0, .int .u8 0, .int .u8 0, .int .u8 0, .int .u8 0, .int .u8 0, .int .u8 0, .int .u8 0, .int .u8 0, .int .u8 0, .int .u8 0, .int .u8 0, .int .u8 0, .int .u8 0, .int .u8 0, .int .u8 0, .int .u8 0, .int .u8 0, .int .u8 0, .int .u8 0, .int .u8 0, .int .u8 0, .int .u8 0, .int .u8 0, .int .u8 0, .int .u8 0, .int .i64 0, .int .i64 0, .int .i64 0, .int .i64 0, .int .i64 0, .int .i64 0, .int .u8 0, .int .u8 0, .int .u8 0, .int .u8 0, .int .u8 0, .int .u8 0, .int .u8 0, .int .u8 0, .int .u8 0, .int .u8 0, .int .u8 0, .int .u8 0, .int .u8 0, .int .u8 0, .int .u8 0, .int .u8 0, .int .u8 0, .int .u8 0, .int .u8 0, .int .u8 0, .int .u8 0, .int .u8 0, .int .u8 0, .int .u8 0, .int .u8 0, .int .u8 0, .int .u8 0, .int .u8 0, .int .u8 0, .int .u8 0, .int .u8 0, .int .u8 0, .int .i64 0, .int .i64 0, .sl (some true) 3 true [], .int .i64 0, .sl (some true) 32 true [], .int .i64 0], k := 5, fs := [(0, 3), (1, 3), (2, 59), (82, 3)] } := rfl
@[go_sem] theorem tb62 : En.tb 62 = { n := 1, g := false, by' := 8, ok := true, z := .un, k := 6 } := rfl
@[go_sem] theorem tb63 : En.tb 63 = { n := 1, g := false, by' := 8, ok := true, z := .un, k := 6 } := rfl
@[go_sem] theorem tb64 : En.tb 64 = { n := 1, g := false, by' := 8, ok := true, z := .un, k := 6 } := rfl
@[go_sem] theorem tb65 : En.tb 65 = { n := 1, g := false, by' := 8, ok := true, z := .un, k := 6 } := rfl
@[go_sem] theorem tb67 : En.tb 67 = { n := 35, g := true, by' := 56, ok := true, z := .agg [.int .u8 0, .int .u8 0, .int .u8 0, .int .u8 0, .int .u8 0, .int .u8 0, .int .u8 0, .int .u8 0, .int .u8 0, .int .u8 0, .int .u8 0, .int .u8 0, .int .u8 0, .int .u8 0, .int .u8 0, .int .u8 0, .int .u8 0, .int .u8 0, .int .u8 0, .int .u8 0, .int .u8 0, .int .u8 0, .int .u8 0, .int .u8 0, .int .u8 0, .int .u8 0, .int .u8 0, .int .u8 0, .int .u8 0, .int .u8 0, .int .u8 0, .int .u8 0, .int .i64 0, .int .i64 0, .int .i64 0], k := 5, fs := [(0, 45), (32, 3), (33, 3), (34, 3)], cmp := true, ck := [0, 0, 0, 0, 0, 0, 0, 0, 0, 0, 0, 0, 0, 0, 0, 0, 0, 0, 0, 0, 0, 0, 0, 0, 0, 0, 0, 0, 0, 0, 0, 0, 0, 0, 0] } := rfl
@[go_sem] theorem tb69 : En.tb 69 = { n := 1, g := false, by' := 8, ok := true, z := .un, k := 6 } := rfl
@[go_sem] theorem tb70 : En.tb 70 = { n := 1, g := false, by' := 8, ok := true, z := .un, k := 6 } := rfl
@[go_sem] theorem tb71 : En.tb 71 = { n := 1, g := false, by' := 8, ok := true, z := .un, k := 6 } := rfl
@[go_sem] theorem tb72 : En.tb 72 = { n := 1, g := false, by' := 8, ok := true, z := .un, k := 6 } := rfl
@[go_sem] theorem tb74 : En.tb 74 = { n := 81, g := true, by' := 248, ok := true, z := .agg [.int .i64 0, .int .i64 0, .int .i64 0, .int .i64 0, .int .i64 0, .int .u8 0, .int .u8 0, .int .u8 0, .int .u8 0, .int .u8 0, .int .u8 0, .int .u8 0, .int .u8 0, .int .u8 0, .int .u8 0, .int .u8 0, .int .u8 0, .int .u8 0, .int .u8 0, .int .u8 0, .int .u8 0, .int .u8 0, .int .u8 0, .int .u8 0, .int .u8 0, .int .u8 0, .int .u8 0, .int .u8 0, .int .u8 0, .int .u8 0, .int .u8 0, .int .u8 0, .int .u8 0, .int .u8 0, .int .u8 0, .int .u8 0, .int .u8 0, .int .i64 0, .int .i64 0, .int .i64 0, .int .i64 0, .int .i64 0, .int .i64 0, .int .u8 0, .int .u8 0, .int .u8 0, .int .u8 0, .int .u8 0, .int .u8 0, .int .u8 0, .int .u8 0, .int .u8 0, .int .u8 0, .int .u8 0, .int .u8 0, .int .u8 0, .int .u8 0, .int .u8 0, .int .u8 0, .int .u8 0, .int .u8 0, .int .u8 0, .int .u8 0, .int .u8 0, .int .u8 0, .int .u8 0, .int .u8 0, .int .u8 0, .int .u8 0, .int .u8 0, .int .u8 0, .int .u8 0, .int .u8 0, .int .u8 0, .int .u8 0, .int .i64 0, .int .i64 0, .sl (some true) 3 true [], .int .i64 0, .sl (some true) 32 true [], .sl (some true) 80 true []], k := 5, fs := [(0, 59), (80, 22)] } := rfl
@[go_sem] theorem tb75 : En.tb 75 = { n := 1, g := false, by' := 8, ok := true, z := .un, k := 6 } := rfl
@[go_sem] theorem tb76 : En.tb 76 = { n := 1, g := false, by' := 8, ok := true, z := .un, k := 6 } := rfl
@[go_sem] theorem tb77 : En.tb 77 = { n := 1, g := false, by' := 24, ok := true, z := .sl (some true) 1 false [], k := 3, el := 3 } := rfl
@[go_sem] theorem tb79 : En.tb 79 = { n := 3, g := true, by' := 56, ok := true, z := .agg [.sl (some true) 1 false [], .int .i64 0, .sl (some true) 1 false []], k := 5, fs := [(0, 77), (1, 3), (2, 77)] } := rfl
@[go_sem] theorem tb81 : En.tb 81 = { n := 5, g := true, by' := 72, ok := true, z := .agg [.int .i64 0, .int .i64 0, .sl (some true) 1 false [], .int .i64 0, .sl (some true) 1 false []], k := 5, fs := [(0, 3), (1, 3), (2, 79)] } := rfl
@[go_sem] theorem tb82 : En.tb 82 = { n := 1, g := false, by' := 8, ok := true, z := .un, k := 6 } := rfl
@[go_sem] theorem tb83 : En.tb 83 = { n := 1, g := false, by' := 8, ok := true, z := .un, k := 6 } := rfl
@[go_sem] theorem tb84 : En.tb 84 = { n := 1, g := false, by' := 24, ok := true, z := .sl (some true) 4 true [], k := 3, el := 86 } := rfl
@[go_sem] theorem tb86 : En.tb 86 = { n := 4, g := true, by' := 64, ok := true, z := .agg [.int .i64 0, .int .i64 0, .sl (some true) 1 false [], .sl (some true) 4 true []], k := 5, fs := [(0, 3), (1, 3), (2, 27), (3, 84)] } := rfl
@[go_sem] theorem tb87 : En.tb 87 = { n := 1, g := false, by' := 8, ok := true, z := .un, k := 6 } := rfl
@[go_sem] theorem tb88 : En.tb 88 = { n := 1, g := false, by' := 8, ok := true, z := .un, k := 6 } := rfl
@[go_sem] theorem tb89 : En.tb 89 = { n := 1, g := false, by' := 8, ok := true, z := .un, k := 6 } := rfl
@[go_sem] theorem tb90 : En.tb 90 = { n := 1, g := false, by' := 8, ok := true, z := .un, k := 6 } := rfl
@[go_sem] theorem tb91 : En.tb 91 = { n := 1, g := false, by' := 8, ok := true, z := .un, k := 6 } := rfl
@[go_sem] theorem tb92 : En.tb 92 = { n := 1, g := false, by' := 8, ok := true, z := .un, k := 6 } := rfl
@[go_sem] theorem tb93 : En.tb 93 = { n := 1, g := false, by' := 8, ok := true, z := .un, k := 6 } := rfl
@[go_sem] theorem tb95 : En.tb 95 = { n := 1, g := false, by' := 8, ok := true, z := .un, k := 6 } := rfl
@[go_sem] theorem tb97 : En.tb 97 = { n := 1, g := false, by' := 8, ok := true, z := .un, k := 6 } := rfl
@[go_sem] theorem tb98 : En.tb 98 = { n := 1, g := false, by' := 8, ok := true, z := .un, k := 6 } := rfl
@[go_sem] theorem tb100 : En.tb 100 = { n := 1, g := false, by' := 8, ok := true, z := .un, k := 6 } := rfl
@[go_sem] theorem tb101 : En.tb 101 = { n := 1, g := false, by' := 8, ok := true, z := .un, k := 6 } := rfl
@[go_sem] theorem tb103 : En.tb 103 = { n := 1, g := false, by' := 8, ok := true, z := .un, k := 6 } := rfl
@[go_sem] theorem tb104 : En.tb 104 = { n := 1, g := false, by' := 8, ok := true, z := .un, k := 6 } := rfl
@[go_sem] theorem tb105 : En.tb 105 = { n := 1, g := false, by' := 8, ok := true, z := .un, k := 6 } := rfl
@[go_sem] theorem tb106 : En.tb 106 = { n := 1, g := false, by' := 8, ok := true, z := .un, k := 6 } := rfl
@[go_sem] theorem tb107 : En.tb 107 = { n := 1, g := false, by' := 8, ok := true, z := .un, k := 6 } := rfl
@[go_sem] theorem tb108 : En.tb 108 = { n := 1, g := false, by' := 8, ok := true, z := .un, k := 6 } := rfl
@[go_sem] theorem tb109 : En.tb 109 = { n := 1, g := false, by' := 8, ok := true, z := .un, k := 6 } := rfl
@[go_sem] theorem tb110 : En.tb 110 = { n := 1, g := false, by' := 8, ok := true, z := .un, k := 6 } := rfl
@[go_sem] theorem tb113 : En.tb 113 = { n := 1, g := false, by' := 8, ok := true, z := .un, k := 6 } := rfl
@[go_sem] theorem tb114 : En.tb 114 = { n := 1, g := false, by' := 8, ok := true, z := .un, k := 6 } := rfl
@[go_sem] theorem tb116 : En.tb 116 = { n := 3, g := true, by' := 24, ok := true, z := .agg [.int .i64 0, .int .i64 0, .int .i64 0], k := 5, fs := [(0, 3), (1, 3), (2, 3)], cmp := true, ck := [0, 0, 0] } := rfl
@[go_sem] theorem tb117 : En.tb 117 = { n := 1, g := false, by' := 8, ok := true, z := .un, k := 6 } := rfl
@[go_sem] theorem tb118 : En.tb 118 = { n := 1, g := false, by' := 8, ok := true, z := .un, k := 6 } := rfl
@[go_sem] theorem tb120 : En.tb 120 = { n := 1, g := false, by' := 8, ok := true, z := .un, k := 6 } := rfl
@[go_sem] theorem tb121 : En.tb 121 = { n := 1, g := false, by' := 8, ok := true, z := .un, k := 6 } := rfl
@[go_sem] theorem tb122 : En.tb 122 = { n := 1, g := false, by' := 8, ok := true, z := .un, k := 6 } := rfl
@[go_sem] theorem tb123 : En.tb 123 = { n := 1, g := false, by' := 8, ok := true, z := .un, k := 6 } := rfl
@[go_sem] theorem tb124 : En.tb 124 = { n := 1, g := false, by' := 8, ok := true, z := .un, k := 6 } := rfl
@[go_sem] theorem tb125 : En.tb 125 = { n := 1, g := false, by' := 8, ok := true, z := .un, k := 6 } := rfl
@[go_sem] theorem tb126 : En.tb 126 = { n := 1, g := false, by' := 8, ok := true, z := .un, k := 6 } := rfl
@[go_sem] theorem tb127 : En.tb 127 = { n := 1, g := false, by' := 8, ok := true, z := .un, k := 6 } := rfl
@[go_sem] theorem tb128 : En.tb 128 = { n := 1, g := false, by' := 8, ok := true, z := .un, k := 6 } := rfl
@[go_sem] theorem tb129 : En.tb 129 = { n := 1, g := false, by' := 8, ok := true, z := .un, k := 6 } := rfl
@[go_sem] theorem tb131 : En.tb 131 = { n := 2, g := true, by' := 32, ok := true, z := .agg [.sl (some true) 1 false [], .int .i64 0], k := 5, fs := [(0, 27), (1, 30)] } := rfl
@[go_sem] theorem tb132 : En.tb 132 = { n := 1, g := false, by' := 8, ok := true, z := .un, k := 6 } := rfl
@[go_sem] theorem tb134 : En.tb 134 = { n := 1, g := false, by' := 8, ok := true, z := .un, k := 6 } := rfl
@[go_sem] theorem tb138 : En.tb 138 = { n := 1, g := false, by' := 8, ok := true, z := .un, k := 6 } := rfl
@[go_sem] theorem tb139 : En.tb 139 = { n := 1, g := false, by' := 8, ok := true, z := .un, k := 6 } := rfl
@[go_sem] theorem tb140 : En.tb 140 = { n := 1, g := false, by' := 8, ok := true, z := .un, k := 6 } := rfl
@[go_sem] theorem tb141 : En.tb 141 = { n := 1, g := false, by' := 8, ok := true, z := .un, k := 6 } := rfl
@[go_sem] theorem tb142 : En.tb 142 = { n := 1, g := false, by' := 8, ok := true, z := .un, k := 6 } := rfl
@[go_sem] theorem tb143 : En.tb 143 = { n := 1, g := false, by' := 8, ok := true, z := .un, k := 6 } := rfl
@[go_sem] theorem tb144 : En.tb 144 = { n := 1, g := false, by' := 8, ok := true, z := .un, k := 6 } := rfl
@[go_sem] theorem tb145 : En.tb 145 = { n := 1, g := false, by' := 8, ok := true, z := .int .u64 0, k := 0, ik := .u64 } := rfl
@[go_sem] theorem tb147 : En.tb 147 = { n := 1, g := false, by' := 8, ok := true, z := .un, k := 6 } := rfl
@[go_sem] theorem tb149 : En.tb 149 = { n := 1, g := false, by' := 8, ok := true, z := .un, k := 6 } := rfl
@[go_sem] theorem tb151 : En.tb 151 = { n := 1, g := false, by' := 8, ok := true, z := .un, k := 6 } := rfl
@[go_sem] theorem tb153 : En.tb 153 = { n := 1, g := false, by' := 8, ok := true, z := .un, k := 6 } := rfl
@[go_sem] theorem tb154 : En.tb 154 = { n := 1, g := false, by' := 8, ok := true, z := .un, k := 6 } := rfl
@[go_sem] theorem tb155 : En.tb 155 = { n := 1, g := false, by' := 8, ok := true, z := .un, k := 6 } := rfl
@[go_sem] theorem tb156 : En.tb 156 = { n := 1, g := false, by' := 8, ok := true, z := .un, k := 6 } := rfl
@[go_sem] theorem tb158 : En.tb 158 = { n := 1, g := true, by' := 24, ok := true, z := .agg [.sl (some true) 4 true []], k := 5, fs := [(0, 84)] } := rfl
@[go_sem] theorem tb159 : En.tb 159 = { n := 1, g := false, by' := 8, ok := true, z := .un, k := 6 } := rfl
@[go_sem] theorem tb160 : En.tb 160 = { n := 1, g := false, by' := 8, ok := true, z := .un, k := 6 } := rfl
@[go_sem] theorem tb161 : En.tb 161 = { n := 1, g := false, by' := 8, ok := true, z := .un, k := 6 } := rfl
@[go_sem] theorem tb162 : En.tb 162 = { n := 1, g := false, by' := 8, ok := true, z := .un, k := 6 } := rfl
@[go_sem] theorem tb164 : En.tb 164 = { n := 1, g := false, by' := 8, ok := true, z := .un, k := 6 } := rfl
@[go_sem] theorem tb166 : En.tb 166 = { n := 1, g := false, by' := 8, ok := true, z := .un, k := 6 } := rfl
@[go_sem] theorem tb167 : En.tb 167 = { n := 1, g := false, by' := 8, ok := true, z := .un, k := 6 } := rfl
@[go_sem] theorem tb168 : En.tb 168 = { n := 1, g := false, by' := 8, ok := true, z := .un, k := 6 } := rfl
@[go_sem] theorem tb169 : En.tb 169 = { n := 1, g := false, by' := 8, ok := true, z := .un, k := 6 } := rfl
@[go_sem] theorem tb170 : En.tb 170 = { n := 1, g := false, by' := 8, ok := true, z := .int .u64 0, k := 0, ik := .u64 } := rfl
@[go_sem] theorem tb171 : En.tb 171 = { n := 1, g := false, by' := 8, ok := true, z := .un, k := 6 } := rfl
@[go_sem] theorem tb172 : En.tb 172 = { n := 1, g := false, by' := 8, ok := true, z := .un, k := 6 } := rfl
@[go_sem] theorem tb178 : En.tb 178 = { n := 1, g := false, by' := 8, ok := true, z := .un, k := 6 } := rfl
@[go_sem] theorem tb179 : En.tb 179 = { n := 1, g := false, by' := 4, ok := true, z := .int .u32 0, k := 0, ik := .u32 } := rfl
@[go_sem] theorem tb182 : En.tb 182 = { n := 1, g := false, by' := 8, ok := true, z := .un, k := 6 } := rfl
@[go_sem] theorem tb183 : En.tb 183 = { n := 1, g := false, by' := 8, ok := true, z := .un, k := 6 } := rfl
@[go_sem] theorem tb188 : En.tb 188 = { n := 1, g := false, by' := 8, ok := true, z := .un, k := 6 } := rfl
end Go.Proofs.Ytcbdmoihobdjaaa
