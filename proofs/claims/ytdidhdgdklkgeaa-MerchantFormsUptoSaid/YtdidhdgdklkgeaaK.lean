/- What the types of the program are, as the machine asks it (printed by program, checked in Lean). -/
import Derived.Test.YtdidhdgdklkgeaaVY
import Derived.Test.YtdidhdgdklkgeaaProg
import Derived.KernelRfl
namespace Go.Proofs.Ytdidhdgdklkgeaa
open Go.RowKit
noncomputable def tbl : List (TypeId × TI) := [(1, { n := 1, g := false, by' := 8, ok := true, z := .un, k := 6 }),
  (2, { n := 1, g := false, by' := 8, ok := true, z := .int .i64 0, k := 0, ik := .i64 }),
  (3, { n := 1, g := false, by' := 8, ok := true, z := .int .i64 0, k := 0, ik := .i64 }),
  (4, { n := 1, g := false, by' := 1, ok := true, z := .bool false, k := 1 }),
  (5, { n := 1, g := false, by' := 1, ok := true, z := .int .u8 0, k := 0, ik := .u8 }),
  (9, { n := 1, g := false, by' := 16, ok := true, z := .str [], k := 2 }),
  (12, { n := 1, g := false, by' := 8, ok := true, z := .int .u64 0, k := 0, ik := .u64 }),
  (15, { n := 1, g := false, by' := 8, ok := true, z := .un, k := 6 }),
  (16, { n := 1, g := false, by' := 8, ok := true, z := .un, k := 6 }),
  (17, { n := 1, g := false, by' := 8, ok := true, z := .un, k := 6 }),
  (20, { n := 1, g := false, by' := 16, ok := true, z := .un, k := 6 }),
  (21, { n := 1, g := false, by' := 4, ok := true, z := .int .i32 0, k := 0, ik := .i32 }),
  (22, { n := 32, g := true, by' := 32, ok := true, z := .agg [.int .u8 0, .int .u8 0, .int .u8 0, .int .u8 0, .int .u8 0, .int .u8 0, .int .u8 0, .int .u8 0, .int .u8 0, .int .u8 0, .int .u8 0, .int .u8 0, .int .u8 0, .int .u8 0, .int .u8 0, .int .u8 0, .int .u8 0, .int .u8 0, .int .u8 0, .int .u8 0, .int .u8 0, .int .u8 0, .int .u8 0, .int .u8 0, .int .u8 0, .int .u8 0, .int .u8 0, .int .u8 0, .int .u8 0, .int .u8 0, .int .u8 0, .int .u8 0], k := 4, el := 5, len := 32, cmp := true, ck := [0, 0, 0, 0, 0, 0, 0, 0, 0, 0, 0, 0, 0, 0, 0, 0, 0, 0, 0, 0, 0, 0, 0, 0, 0, 0, 0, 0, 0, 0, 0, 0] }),
  (23, { n := 32, g := true, by' := 32, ok := true, z := .agg [.int .u8 0, .int .u8 0, .int .u8 0, .int .u8 0, .int .u8 0, .int .u8 0, .int .u8 0, .int .u8 0, .int .u8 0, .int .u8 0, .int .u8 0, .int .u8 0, .int .u8 0, .int .u8 0, .int .u8 0, .int .u8 0, .int .u8 0, .int .u8 0, .int .u8 0, .int .u8 0, .int .u8 0, .int .u8 0, .int .u8 0, .int .u8 0, .int .u8 0, .int .u8 0, .int .u8 0, .int .u8 0, .int .u8 0, .int .u8 0, .int .u8 0, .int .u8 0], k := 4, el := 5, len := 32, cmp := true, ck := [0, 0, 0, 0, 0, 0, 0, 0, 0, 0, 0, 0, 0, 0, 0, 0, 0, 0, 0, 0, 0, 0, 0, 0, 0, 0, 0, 0, 0, 0, 0, 0] }),
  (24, { n := 1, g := false, by' := 24, ok := true, z := .sl (some true) 3 true [], k := 3, el := 64 }),
  (26, { n := 1, g := true, by' := 24, ok := true, z := .agg [.sl (some true) 3 true []], k := 5, fs := [(0, 24)] }),
  (27, { n := 1, g := false, by' := 24, ok := true, z := .sl (some true) 35 true [], k := 3, el := 35 }),
  (28, { n := 1, g := false, by' := 24, ok := true, z := .sl (some true) 4 true [], k := 3, el := 43 }),
  (29, { n := 1, g := false, by' := 24, ok := true, z := .sl (some true) 1 false [], k := 3, el := 3 }),
  (31, { n := 40, g := true, by' := 176, ok := true, z := .agg [.int .u8 0, .int .u8 0, .int .u8 0, .int .u8 0, .int .u8 0, .int .u8 0, .int .u8 0, .int .u8 0, .int .u8 0, .int .u8 0, .int .u8 0, .int .u8 0, .int .u8 0, .int .u8 0, .int .u8 0, .int .u8 0, .int .u8 0, .int .u8 0, .int .u8 0, .int .u8 0, .int .u8 0, .int .u8 0, .int .u8 0, .int .u8 0, .int .u8 0, .int .u8 0, .int .u8 0, .int .u8 0, .int .u8 0, .int .u8 0, .int .u8 0, .int .u8 0, .sl (some true) 3 true [], .sl (some true) 35 true [], .int .i64 0, .sl (some true) 4 true [], .sl (some true) 35 true [], .int .i64 0, .sl (some true) 1 false [], .int .i64 0], k := 5, fs := [(0, 23), (32, 26), (33, 27), (34, 3), (35, 28), (36, 27), (37, 3), (38, 29), (39, 3)] }),
  (32, { n := 1, g := false, by' := 8, ok := true, z := .un, k := 6 }),
  (33, { n := 1, g := false, by' := 8, ok := true, z := .un, k := 6 }),
  (35, { n := 35, g := true, by' := 56, ok := true, z := .agg [.int .u8 0, .int .u8 0, .int .u8 0, .int .u8 0, .int .u8 0, .int .u8 0, .int .u8 0, .int .u8 0, .int .u8 0, .int .u8 0, .int .u8 0, .int .u8 0, .int .u8 0, .int .u8 0, .int .u8 0, .int .u8 0, .int .u8 0, .int .u8 0, .int .u8 0, .int .u8 0, .int .u8 0, .int .u8 0, .int .u8 0, .int .u8 0, .int .u8 0, .int .u8 0, .int .u8 0, .int .u8 0, .int .u8 0, .int .u8 0, .int .u8 0, .int .u8 0, .int .i64 0, .int .i64 0, .int .i64 0], k := 5, fs := [(0, 23), (32, 3), (33, 3), (34, 3)], cmp := true, ck := [0, 0, 0, 0, 0, 0, 0, 0, 0, 0, 0, 0, 0, 0, 0, 0, 0, 0, 0, 0, 0, 0, 0, 0, 0, 0, 0, 0, 0, 0, 0, 0, 0, 0, 0] }),
  (36, { n := 1, g := false, by' := 8, ok := true, z := .int .i64 0, k := 0, ik := .i64 }),
  (38, { n := 1, g := false, by' := 8, ok := true, z := .un, k := 6 }),
  (39, { n := 1, g := false, by' := 24, ok := true, z := .sl (some true) 80 true [], k := 3, el := 84 }),
  (40, { n := 1, g := false, by' := 24, ok := true, z := .sl (some true) 81 true [], k := 3, el := 87 }),
  (41, { n := 1, g := false, by' := 24, ok := true, z := .sl (some true) 5 true [], k := 3, el := 92 }),
  (43, { n := 4, g := true, by' := 80, ok := true, z := .agg [.int .i64 0, .sl (some true) 80 true [], .sl (some true) 81 true [], .sl (some true) 5 true []], k := 5, fs := [(0, 3), (1, 39), (2, 40), (3, 41)] }),
  (45, { n := 1, g := false, by' := 8, ok := true, z := .un, k := 6 }),
  (46, { n := 1, g := false, by' := 8, ok := true, z := .un, k := 6 }),
  (47, { n := 1, g := false, by' := 8, ok := true, z := .un, k := 6 }),
  (48, { n := 1, g := false, by' := 8, ok := true, z := .un, k := 6 }),
  (49, { n := 1, g := false, by' := 8, ok := true, z := .un, k := 6 }),
  (50, { n := 1, g := false, by' := 24, ok := true, z := .sl (some true) 1 false [], k := 3, el := 54 }),
  (52, { n := 1, g := false, by' := 8, ok := true, z := .un, k := 6 }),
  (53, { n := 1, g := false, by' := 8, ok := true, z := .un, k := 6 }),
  (54, { n := 1, g := false, by' := 2, ok := true, z := .int .u16 0, k := 0, ik := .u16 }),
  (55, { n := 1, g := false, by' := 8, ok := true, z := .un, k := 6 }),
  (57, { n := 1, g := false, by' := 8, ok := true, z := .un, k := 6 }),
  (58, { n := 1, g := false, by' := 8, ok := true, z := .un, k := 6 }),
  (60, { n := 1, g := false, by' := 8, ok := true, z := .un, k := 6 }),
  (61, { n := 1, g := false, by' := 8, ok := true, z := .un, k := 6 }),
  (62, { n := 1, g := false, by' := 8, ok := true, z := .un, k := 6 }),
  (64, { n := 3, g := true, by' := 24, ok := true, z := .agg [.int .i64 0, .int .i64 0, .int .i64 0], k := 5, fs := [(0, 3), (1, 3), (2, 3)], cmp := true, ck := [0, 0, 0] }),
  (65, { n := 1, g := false, by' := 8, ok := true, z := .un, k := 6 }),
  (66, { n := 1, g := false, by' := 8, ok := true, z := .un, k := 6 }),
  (67, { n := 1, g := false, by' := 8, ok := true, z := .un, k := 6 }),
  (68, { n := 1, g := false, by' := 8, ok := true, z := .un, k := 6 }),
  (69, { n := 1, g := false, by' := 8, ok := true, z := .un, k := 6 }),
  (70, { n := 1, g := false, by' := 8, ok := true, z := .un, k := 6 }),
  (72, { n := 4, g := true, by' := 32, ok := true, z := .agg [.int .i64 0, .int .i64 0, .int .i64 0, .int .i64 0], k := 5, fs := [(0, 3), (1, 3), (2, 3), (3, 3)], cmp := true, ck := [0, 0, 0, 0] }),
  (74, { n := 41, g := true, by' := 104, ok := true, z := .agg [.int .i64 0, .int .i64 0, .int .i64 0, .int .i64 0, .int .i64 0, .int .u8 0, .int .u8 0, .int .u8 0, .int .u8 0, .int .u8 0, .int .u8 0, .int .u8 0, .int .u8 0, .int .u8 0, .int .u8 0, .int .u8 0, .int .u8 0, .int .u8 0, .int .u8 0, .int .u8 0, .int .u8 0, .int .u8 0, .int .u8 0, .int .u8 0, .int .u8 0, .int .u8 0, .int .u8 0, .int .u8 0, .int .u8 0, .int .u8 0, .int .u8 0, .int .u8 0, .int .u8 0, .int .u8 0, .int .u8 0, .int .u8 0, .int .u8 0, .int .i64 0, .int .i64 0, .int .i64 0, .int .i64 0], k := 5, fs := [(0, 3), (1, 3), (2, 3), (3, 3), (4, 3), (5, 23), (37, 72)], cmp := true, ck := [0, 0, 0, 0, 0, 0, 0, 0, 0, 0, 0, 0, 0, 0, 0, 0, 0, 0, 0, 0, 0, 0, 0, 0, 0, 0, 0, 0, 0, 0, 0, 0, 0, 0, 0, 0, 0, 0, 0, 0, 0] }),
  (76, { n := 2, g := true, by' := 16, ok := true, z := .agg [.int .i64 0, .int .i64 0], k := 5, fs := [(0, 3), (1, 3)], cmp := true, ck := [0, 0] }),
  (78, { n := 34, g := true, by' := 48, ok := true, z := .agg [.int .u8 0, .int .u8 0, .int .u8 0, .int .u8 0, .int .u8 0, .int .u8 0, .int .u8 0, .int .u8 0, .int .u8 0, .int .u8 0, .int .u8 0, .int .u8 0, .int .u8 0, .int .u8 0, .int .u8 0, .int .u8 0, .int .u8 0, .int .u8 0, .int .u8 0, .int .u8 0, .int .u8 0, .int .u8 0, .int .u8 0, .int .u8 0, .int .u8 0, .int .u8 0, .int .u8 0, .int .u8 0, .int .u8 0, .int .u8 0, .int .u8 0, .int .u8 0, .int .i64 0, .int .i64 0], k := 5, fs := [(0, 23), (32, 3), (33, 3)], cmp := true, ck := [0, 0, 0, 0, 0, 0, 0, 0, 0, 0, 0, 0, 0, 0, 0, 0, 0, 0, 0, 0, 0, 0, 0, 0, 0, 0, 0, 0, 0, 0, 0, 0, 0, 0] }),
  (79, { n := 1, g := false, by' := 24, ok := true, z := .sl (some true) 3 true [], k := 3, el := 122 }),
  (80, { n := 1, g := false, by' := 24, ok := true, z := .sl (some true) 32 true [], k := 3, el := 23 }),
  (82, { n := 2, g := true, by' := 32, ok := true, z := .agg [.int .i64 0, .sl (some true) 32 true []], k := 5, fs := [(0, 3), (1, 80)] }),
  (84, { n := 80, g := true, by' := 224, ok := true, z := .agg [.int .i64 0, .int .i64 0, .int .i64 0, .int .i64 0, .int .i64 0, .int .u8 0, .int .u8 0, .int .u8 0, .int .u8 0, .int .u8 0, .int .u8 0, .int .u8 0, .int .u8 0, .int .u8 0, .int .u8 0, .int .u8 0, .int .u8 0, .int .u8 0, .int .u8 0, .int .u8 0, .int .u8 0, .int .u8 0, .int .u8 0, .int .u8 0, .int .u8 0, .int .u8 0, .int .u8 0, .int .u8 0, .int .u8 0, .int .u8 0, .int .u8 0, .int .u8 0, .int .u8 0, .int .u8 0, .int .u8 0, .int .u8 0, .int .u8 0, .int .i64 0, .int .i64 0, .int .i64 0, .int .i64 0, .int .i64 0, .int .i64 0, .int .u8 0, .int .u8 0, .int .u8 0, .int .u8 0, .int .u8 0, .int .u8 0, .int .u8 0, .int .u8 0, .int .u8 0, .int .u8 0, .int .u8 0, .int .u8 0, .int .u8 0, .int .u8 0, .int .u8 0, .int .u8 0, .int .u8 0, .int .u8 0, .int .u8 0, .int .u8 0, .int .u8 0, .int .u8 0, .int .u8 0, .int .u8 0, .int .u8 0, .int .u8 0, .int .u8 0, .int .u8 0, .int .u8 0, .int .u8 0, .int .u8 0, .int .u8 0, .int .i64 0, .int .i64 0, .sl (some true) 3 true [], .int .i64 0, .sl (some true) 32 true []], k := 5, fs := [(0, 74), (41, 76), (43, 78), (77, 79), (78, 82)] }),
  (85, { n := 1, g := false, by' := 8, ok := true, z := .un, k := 6 }),
  (87, { n := 81, g := true, by' := 248, ok := true, z := .agg [.int .i64 0, .int .i64 0, .int .i64 0, .int .i64 0, .int .i64 0, .int .u8 0, .int .u8 0, .int .u8 0, .int .u8 0, .int .u8 0, .int .u8 0, .int .u8 0, .int .u8 0, .int .u8 0, .int .u8 0, .int .u8 0, .int .u8 0, .int .u8 0, .int .u8 0, .int .u8 0, .int .u8 0, .int .u8 0, .int .u8 0, .int .u8 0, .int .u8 0, .int .u8 0, .int .u8 0, .int .u8 0, .int .u8 0, .int .u8 0, .int .u8 0, .int .u8 0, .int .u8 0, .int .u8 0, .int .u8 0, .int .u8 0, .int .u8 0, .int .i64 0, .int .i64 0, .int .i64 0, .int .i64 0, .int .i64 0, .int .i64 0, .int .u8 0, .int .u8 0, .int .u8 0, .int .u8 0, .int .u8 0, .int .u8 0, .int .u8 0, .int .u8 0, .int .u8 0, .int .u8 0, .int .u8 0, .int .u8 0, .int .u8 0, .int .u8 0, .int .u8 0, .int .u8 0, .int .u8 0, .int .u8 0, .int .u8 0, .int .u8 0, .int .u8 0, .int .u8 0, .int .u8 0, .int .u8 0, .int .u8 0, .int .u8 0, .int .u8 0, .int .u8 0, .int .u8 0, .int .u8 0, .int .u8 0, .int .u8 0, .int .i64 0, .int .i64 0, .sl (some true) 3 true [], .int .i64 0, .sl (some true) 32 true [], .sl (some true) 80 true []], k := 5, fs := [(0, 84), (80, 39)] }),
  (88, { n := 1, g := false, by' := 8, ok := true, z := .un, k := 6 }),
  (90, { n := 3, g := true, by' := 56, ok := true, z := .agg [.sl (some true) 1 false [], .int .i64 0, .sl (some true) 1 false []], k := 5, fs := [(0, 29), (1, 3), (2, 29)] }),
  (92, { n := 5, g := true, by' := 72, ok := true, z := .agg [.int .i64 0, .int .i64 0, .sl (some true) 1 false [], .int .i64 0, .sl (some true) 1 false []], k := 5, fs := [(0, 3), (1, 3), (2, 90)] }),
  (93, { n := 1, g := false, by' := 8, ok := true, z := .un, k := 6 }),
  (94, { n := 1, g := false, by' := 8, ok := true, z := .un, k := 6 }),
  (95, { n := 1, g := false, by' := 8, ok := true, z := .un, k := 6 }),
  (96, { n := 1, g := false, by' := 8, ok := true, z := .un, k := 6 }),
  (97, { n := 1, g := false, by' := 8, ok := true, z := .un, k := 6 }),
  (98, { n := 1, g := false, by' := 8, ok := true, z := .un, k := 6 }),
  (100, { n := 1, g := false, by' := 8, ok := true, z := .un, k := 6 }),
  (101, { n := 1, g := false, by' := 8, ok := true, z := .un, k := 6 }),
  (102, { n := 1, g := false, by' := 8, ok := true, z := .un, k := 6 }),
  (103, { n := 1, g := false, by' := 8, ok := true, z := .int .u64 0, k := 0, ik := .u64 }),
  (104, { n := 1, g := false, by' := 8, ok := true, z := .un, k := 6 }),
  (105, { n := 1, g := false, by' := 8, ok := true, z := .un, k := 6 }),
  (106, { n := 1, g := false, by' := 8, ok := true, z := .un, k := 6 }),
  (107, { n := 1, g := false, by' := 8, ok := true, z := .un, k := 6 }),
  (108, { n := 1, g := false, by' := 8, ok := true, z := .un, k := 6 }),
  (109, { n := 1, g := false, by' := 8, ok := true, z := .un, k := 6 }),
  (110, { n := 1, g := false, by' := 8, ok := true, z := .un, k := 6 }),
  (111, { n := 1, g := false, by' := 8, ok := true, z := .un, k := 6 }),
  (112, { n := 1, g := false, by' := 8, ok := true, z := .un, k := 6 }),
  (113, { n := 1, g := false, by' := 8, ok := true, z := .un, k := 6 }),
  (114, { n := 1, g := false, by' := 8, ok := true, z := .un, k := 6 }),
  (115, { n := 1, g := false, by' := 8, ok := true, z := .un, k := 6 }),
  (116, { n := 1, g := false, by' := 8, ok := true, z := .un, k := 6 }),
  (117, { n := 1, g := false, by' := 8, ok := true, z := .un, k := 6 }),
  (118, { n := 1, g := false, by' := 8, ok := true, z := .un, k := 6 }),
  (119, { n := 1, g := false, by' := 8, ok := true, z := .un, k := 6 }),
  (120, { n := 1, g := false, by' := 8, ok := true, z := .un, k := 6 }),
  (122, { n := 3, g := true, by' := 24, ok := true, z := .agg [.int .i64 0, .int .i64 0, .int .i64 0], k := 5, fs := [(0, 3), (1, 3), (2, 3)], cmp := true, ck := [0, 0, 0] }),
  (123, { n := 1, g := false, by' := 8, ok := true, z := .un, k := 6 }),
  (124, { n := 1, g := false, by' := 8, ok := true, z := .un, k := 6 }),
  (125, { n := 1, g := false, by' := 8, ok := true, z := .un, k := 6 }),
  (126, { n := 1, g := false, by' := 8, ok := true, z := .un, k := 6 }),
  (127, { n := 1, g := false, by' := 8, ok := true, z := .un, k := 6 }),
  (129, { n := 1, g := false, by' := 8, ok := true, z := .un, k := 6 }),
  (130, { n := 1, g := false, by' := 8, ok := true, z := .un, k := 6 }),
  (131, { n := 1, g := false, by' := 8, ok := true, z := .un, k := 6 }),
  (132, { n := 1, g := false, by' := 8, ok := true, z := .un, k := 6 }),
  (133, { n := 1, g := false, by' := 8, ok := true, z := .un, k := 6 }),
  (134, { n := 1, g := false, by' := 8, ok := true, z := .un, k := 6 }),
  (135, { n := 1, g := false, by' := 8, ok := true, z := .un, k := 6 }),
  (136, { n := 1, g := false, by' := 8, ok := true, z := .un, k := 6 }),
  (137, { n := 1, g := false, by' := 8, ok := true, z := .un, k := 6 }),
  (138, { n := 1, g := false, by' := 8, ok := true, z := .un, k := 6 }),
  (139, { n := 1, g := false, by' := 8, ok := true, z := .un, k := 6 }),
  (145, { n := 1, g := false, by' := 8, ok := true, z := .un, k := 6 }),
  (146, { n := 1, g := false, by' := 4, ok := true, z := .int .u32 0, k := 0, ik := .u32 }),
  (149, { n := 1, g := false, by' := 8, ok := true, z := .un, k := 6 }),
  (150, { n := 1, g := false, by' := 8, ok := true, z := .un, k := 6 }),
  (155, { n := 1, g := false, by' := 8, ok := true, z := .un, k := 6 })]
noncomputable def En : Env := { P := Try.prog, tb := tbOf tbl, gv := fun _ => none }
set_option maxRecDepth 100000 in
theorem tbl_ok : tablesB Try.prog tbl = true := by kernel_rfl
theorem En_ok : EnvOk En := ⟨fun _ h => tOk (l := tbl) tbl_ok h⟩
theorem En_mo : En.P.follows .mixedOrders = true := by kernel_rfl
@[go_sem] theorem tb1 : En.tb 1 = { n := 1, g := false, by' := 8, ok := true, z := .un, k := 6 } := rfl
@[go_sem] theorem tb2 : En.tb 2 = { n := 1, g := false, by' := 8, ok := true, z := .int .i64 0, k := 0, ik := .i64 } := rfl
@[go_sem] theorem tb3 : En.tb 3 = { n := 1, g := false, by' := 8, ok := true, z := .int .i64 0, k := 0, ik := .i64 } := rfl
@[go_sem] theorem tb4 : En.tb 4 = { n := 1, g := false, by' := 1, ok := true, z := .bool false, k := 1 } := rfl
@[go_sem] theorem tb5 : En.tb 5 = { n := 1, g := false, by' := 1, ok := true, z := .int .u8 0, k := 0, ik := .u8 } := rfl
@[go_sem] theorem tb9 : En.tb 9 = { n := 1, g := false, by' := 16, ok := true, z := .str [], k := 2 } := rfl
@[go_sem] theorem tb12 : En.tb 12 = { n := 1, g := false, by' := 8, ok := true, z := .int .u64 0, k := 0, ik := .u64 } := rfl
@[go_sem] theorem tb15 : En.tb 15 = { n := 1, g := false, by' := 8, ok := true, z := .un, k := 6 } := rfl
@[go_sem] theorem tb16 : En.tb 16 = { n := 1, g := false, by' := 8, ok := true, z := .un, k := 6 } := rfl
@[go_sem] theorem tb17 : En.tb 17 = { n := 1, g := false, by' := 8, ok := true, z := .un, k := 6 } := rfl
@[go_sem] theorem tb20 : En.tb 20 = { n := 1, g := false, by' := 16, ok := true, z := .un, k := 6 } := rfl
@[go_sem] theorem tb21 : En.tb 21 = { n := 1, g := false, by' := 4, ok := true, z := .int .i32 0, k := 0, ik := .i32 } := rfl
@[go_sem] theorem tb22 : En.tb 22 = { n := 32, g := true, by' := 32, ok := true, z := .agg [.int .u8 0, .int .u8 0, .int .u8 0, .int .u8 0, .int .u8 0, .int .u8 0, .int .u8 0, .int .u8 0, .int .u8 0, .int .u8 0, .int .u8 0, .int .u8 0, .int .u8 0, .int .u8 0, .int .u8 0, .int .u8 0, .int .u8 0, .int .u8 0, .int .u8 0, .int .u8 0, .int .u8 0, .int .u8 0, .int .u8 0, .int .u8 0, .int .u8 0, .int .u8 0, .int .u8 0, .int .u8 0, .int .u8 0, .int .u8 0, .int .u8 0, .int .u8 0], k := 4, el := 5, len := 32, cmp := true, ck := [0, 0, 0, 0, 0, 0, 0, 0, 0, 0, 0, 0, 0, 0, 0, 0, 0, 0, 0, 0, 0, 0, 0, 0, 0, 0, 0, 0, 0, 0, 0, 0] } := rfl
@[go_sem] theorem tb23 : En.tb 23 = { n := 32, g := true, by' := 32, ok := true, z := .agg [.int .u8 0, .int .u8 0, .int .u8 0, .int .u8 0, .int .u8 0, .int .u8 0, .int .u8 0, .int .u8 0, .int .u8 0, .int .u8 0, .int .u8 0, .int .u8 0, .int .u8 0, .int .u8 0, .int .u8 0, .int .u8 0, .int .u8 0, .int .u8 0, .int .u8 0, .int .u8 0, .int .u8 0, .int .u8 0, .int .u8 0, .int .u8 0, .int .u8 0, .int .u8 0, .int .u8 0, .int .u8 0, .int .u8 0, .int .u8 0, .int .u8 0, .int .u8 0], k := 4, el := 5, len := 32, cmp := true, ck := [0, 0, 0, 0, 0, 0, 0, 0, 0, 0, 0, 0, 0, 0, 0, 0, 0, 0, 0, 0, 0, 0, 0, 0, 0, 0, 0, 0, 0, 0, 0, 0] } := rfl
@[go_sem] theorem tb24 : En.tb 24 = { n := 1, g := false, by' := 24, ok := true, z := .sl (some true) 3 true [], k := 3, el := 64 } := rfl
@[go_sem] theorem tb26 : En.tb 26 = { n := 1, g := true, by' := 24, ok := true, z := .agg [.sl (some true) 3 true []], k := 5, fs := [(0, 24)] } := rfl
@[go_sem] theorem tb27 : En.tb 27 = { n := 1, g := false, by' := 24, ok := true, z := .sl (some true) 35 true [], k := 3, el := 35 } := rfl
@[go_sem] theorem tb28 : En.tb 28 = { n := 1, g := false, by' := 24, ok := true, z := .sl (some true) 4 true [], k := 3, el := 43 } := rfl
@[go_sem] theorem tb29 : En.tb 29 = { n := 1, g := false, by' := 24, ok := true, z := .sl (some true) 1 false [], k := 3, el := 3 } := rfl
@[go_sem] theorem tb31 : En.tb 31 = { n := 40, g := true, by' := 176, ok := true, z := .agg [.int .u8 0, .int .u8 0, .int .u8 0, .int .u8 0, .int .u8 0, .int .u8 0, .int .u8 0, .int .u8 0, .int .u8 0, .int .u8 0, .int .u8 0, .int .u8 0, .int .u8 0, .int .u8 0, .int .u8 0, .int .u8 0, .int .u8 0, .int .u8 0, .int .u8 0, .int .u8 0, .int .u8 0, .int .u8 0, .int .u8 0, .int .u8 0, .int .u8 0, .int .u8 0, .int .u8 0, .int .u8 0, .int .u8 0, .int .u8 0, .int .u8 0, .int .u8 0, .sl (some true) 3 true [], .sl (some true) 35 true [], .int .i64 0, .sl (some true) 4 true [], .sl (some true) 35 true [], .int .i64 0, .sl (some true) 1 false [], .int .i64 0], k := 5, fs := [(0, 23), (32, 26), (33, 27), (34, 3), (35, 28), (36, 27), (37, 3), (38, 29), (39, 3)] } := rfl
@[go_sem] theorem tb32 : En.tb 32 = { n := 1, g := false, by' := 8, ok := true, z := .un, k := 6 } := rfl
@[go_sem] theorem tb33 : En.tb 33 = { n := 1, g := false, by' := 8, ok := true, z := .un, k := 6 } := rfl
@[go_sem] theorem tb35 : En.tb 35 = { n := 35, g := true, by' := 56, ok := true, z := .agg [.int .u8 0, .int .u8 0, .int .u8 0, .int .u8 0, .int .u8 0, .int .u8 0, .int .u8 0, .int .u8 0, .int .u8 0, .int .u8 0, .int .u8 0, .int .u8 0, .int .u8 0, .int .u8 0, .int .u8 0, .int .u8 0, .int .u8 0, .int .u8 0, .int .u8 0, .int .u8 0, .int .u8 0, .int .u8 0, .int .u8 0, .int .u8 0, .int .u8 0, .int .u8 0, .int .u8 0, .int .u8 0, .int .u8 0, .int .u8 0, .int .u8 0, .int .u8 0, .int .i64 0, .int .i64 0, .int .i64 0], k := 5, fs := [(0, 23), (32, 3), (33, 3), (34, 3)], cmp := true, ck := [0, 0, 0, 0, 0, 0, 0, 0, 0, 0, 0, 0, 0, 0, 0, 0, 0, 0, 0, 0, 0, 0, 0, 0, 0, 0, 0, 0, 0, 0, 0, 0, 0, 0, 0] } := rfl
@[go_sem] theorem tb36 : En.tb 36 = { n := 1, g := false, by' := 8, ok := true, z := .int .i64 0, k := 0, ik := .i64 } := rfl
@[go_sem] theorem tb38 : En.tb 38 = { n := 1, g := false, by' := 8, ok := true, z := .un, k := 6 } := rfl
@[go_sem] theorem tb39 : En.tb 39 = { n := 1, g := false, by' := 24, ok := true, z := .sl (some true) 80 true [], k := 3, el := 84 } := rfl
@[go_sem] theorem tb40 : En.tb 40 = { n := 1, g := false, by' := 24, ok := true, z := .sl (some true) 81 true [], k := 3, el := 87 } := rfl
@[go_sem] theorem tb41 : En.tb 41 = { n := 1, g := false, by' := 24, ok := true, z := .sl (some true) 5 true [], k := 3, el := 92 } := rfl
@[go_sem] theorem tb43 : En.tb 43 = { n := 4, g := true, by' := 80, ok := true, z := .agg [.int .i64 0, .sl (some true) 80 true [], .sl (some true) 81 true [], .sl (some true) 5 true []], k := 5, fs := [(0, 3), (1, 39), (2, 40), (3, 41)] } := rfl
@[go_sem] theorem tb45 : En.tb 45 = { n := 1, g := false, by' := 8, ok := true, z := .un, k := 6 } := rfl
@[go_sem] theorem tb46 : En.tb 46 = { n := 1, g := false, by' := 8, ok := true, z := .un, k := 6 } := rfl
@[go_sem] theorem tb47 : En.tb 47 = { n := 1, g := false, by' := 8, ok := true, z := .un, k := 6 } := rfl
@[go_sem] theorem tb48 : En.tb 48 = { n := 1, g := false, by' := 8, ok := true, z := .un, k := 6 } := rfl
@[go_sem] theorem tb49 : En.tb 49 = { n := 1, g := false, by' := 8, ok := true, z := .un, k := 6 } := rfl
@[go_sem] theorem tb50 : En.tb 50 = { n := 1, g := false, by' := 24, ok := true, z := .sl (some true) 1 false [], k := 3, el := 54 } := rfl
@[go_sem] theorem tb52 : En.tb 52 = { n := 1, g := false, by' := 8, ok := true, z := .un, k := 6 } := rfl
@[go_sem] theorem tb53 : En.tb 53 = { n := 1, g := false, by' := 8, ok := true, z := .un, k := 6 } := rfl
@[go_sem] theorem tb54 : En.tb 54 = { n := 1, g := false, by' := 2, ok := true, z := .int .u16 0, k := 0, ik := .u16 } := rfl
@[go_sem] theorem tb55 : En.tb 55 = { n := 1, g := false, by' := 8, ok := true, z := .un, k := 6 } := rfl
@[go_sem] theorem tb57 : En.tb 57 = { n := 1, g := false, by' := 8, ok := true, z := .un, k := 6 } := rfl
@[go_sem] theorem tb58 : En.tb 58 = { n := 1, g := false, by' := 8, ok := true, z := .un, k := 6 } := rfl
@[go_sem] theorem tb60 : En.tb 60 = { n := 1, g := false, by' := 8, ok := true, z := .un, k := 6 } := rfl
@[go_sem] theorem tb61 : En.tb 61 = { n := 1, g := false, by' := 8, ok := true, z := .un, k := 6 } := rfl
@[go_sem] theorem tb62 : En.tb 62 = { n := 1, g := false, by' := 8, ok := true, z := .un, k := 6 } := rfl
@[go_sem] theorem tb64 : En.tb 64 = { n := 3, g := true, by' := 24, ok := true, z := .agg [.int .i64 0, .int .i64 0, .int .i64 0], k := 5, fs := [(0, 3), (1, 3), (2, 3)], cmp := true, ck := [0, 0, 0] } := rfl
@[go_sem] theorem tb65 : En.tb 65 = { n := 1, g := false, by' := 8, ok := true, z := .un, k := 6 } := rfl
@[go_sem] theorem tb66 : En.tb 66 = { n := 1, g := false, by' := 8, ok := true, z := .un, k := 6 } := rfl
@[go_sem] theorem tb67 : En.tb 67 = { n := 1, g := false, by' := 8, ok := true, z := .un, k := 6 } := rfl
@[go_sem] theorem tb68 : En.tb 68 = { n := 1, g := false, by' := 8, ok := true, z := .un, k := 6 } := rfl
@[go_sem] theorem tb69 : En.tb 69 = { n := 1, g := false, by' := 8, ok := true, z := .un, k := 6 } := rfl
@[go_sem] theorem tb70 : En.tb 70 = { n := 1, g := false, by' := 8, ok := true, z := .un, k := 6 } := rfl
@[go_sem] theorem tb72 : En.tb 72 = { n := 4, g := true, by' := 32, ok := true, z := .agg [.int .i64 0, .int .i64 0, .int .i64 0, .int .i64 0], k := 5, fs := [(0, 3), (1, 3), (2, 3), (3, 3)], cmp := true, ck := [0, 0, 0, 0] } := rfl
@[go_sem] theorem tb74 : En.tb 74 = { n := 41, g := true, by' := 104, ok := true, z := .agg [.int .i64 0, .int .i64 0, .int .i64 0, .int .i64 0, .int .i64 0, .int .u8 0, .int .u8 0, .int .u8 0, .int .u8 0, .int .u8 0, .int .u8 0, .int .u8 0, .int .u8 0, .int .u8 0, .int .u8 0, .int .u8 0, .int .u8 0, .int .u8 0, .int .u8 0, .int .u8 0, .int .u8 0, .int .u8 0, .int .u8 0, .int .u8 0, .int .u8 0, .int .u8 0, .int .u8 0, .int .u8 0, .int .u8 0, .int .u8 0, .int .u8 0, .int .u8 0, .int .u8 0, .int .u8 0, .int .u8 0, .int .u8 0, .int .u8 0, .int .i64 0, .int .i64 0, .int .i64 0, .int .i64 0], k := 5, fs := [(0, 3), (1, 3), (2, 3), (3, 3), (4, 3), (5, 23), (37, 72)], cmp := true, ck := [0, 0, 0, 0, 0, 0, 0, 0, 0, 0, 0, 0, 0, 0, 0, 0, 0, 0, 0, 0, 0, 0, 0, 0, 0, 0, 0, 0, 0, 0, 0, 0, 0, 0, 0, 0, 0, 0, 0, 0, 0] } := rfl
@[go_sem] theorem tb76 : En.tb 76 = { n := 2, g := true, by' := 16, ok := true, z := .agg [.int .i64 0, .int .i64 0], k := 5, fs := [(0, 3), (1, 3)], cmp := true, ck := [0, 0] } := rfl
@[go_sem] theorem tb78 : En.tb 78 = { n := 34, g := true, by' := 48, ok := true, z := .agg [.int .u8 0, .int .u8 0, .int .u8 0, .int .u8 0, .int .u8 0, .int .u8 0, .int .u8 0, .int .u8 0, .int .u8 0, .int .u8 0, .int .u8 0, .int .u8 0, .int .u8 0, .int .u8 0, .int .u8 0, .int .u8 0, .int .u8 0, .int .u8 0, .int .u8 0, .int .u8 0, .int .u8 0, .int .u8 0, .int .u8 0, .int .u8 0, .int .u8 0, .int .u8 0, .int .u8 0, .int .u8 0, .int .u8 0, .int .u8 0, .int .u8 0, .int .u8 0, .int .i64 0, .int .i64 0], k := 5, fs := [(0, 23), (32, 3), (33, 3)], cmp := true, ck := [0, 0, 0, 0, 0, 0, 0, 0, 0, 0, 0, 0, 0, 0, 0, 0, 0, 0, 0, 0, 0, 0, 0, 0, 0, 0, 0, 0, 0, 0, 0, 0, 0, 0] } := rfl
@[go_sem] theorem tb79 : En.tb 79 = { n := 1, g := false, by' := 24, ok := true, z := .sl (some true) 3 true [], k := 3, el := 122 } := rfl
@[go_sem] theorem tb80 : En.tb 80 = { n := 1, g := false, by' := 24, ok := true, z := .sl (some true) 32 true [], k := 3, el := 23 } := rfl
@[go_sem] theorem tb82 : En.tb 82 = { n := 2, g := true, by' := 32, ok := true, z := .agg [.int .i64 0, .sl (some true) 32 true []], k := 5, fs := [(0, 3), (1, 80)] } := rfl
@[go_sem] theorem tb84 : En.tb 84 = { n := 80, g := true, by' := 224, ok := true, z := .agg [.int .i64 0, .int .i64 0, .int .i64 0, .int .i64 0, .int .i64 0, .int .u8 0, .int .u8 0, .int .u8 0, .int .u8 0, .int .u8 0, .int .u8 0, .int .u8 0, .int .u8 0, .int .u8 0, .int .u8 0, .int .u8 0, .int .u8 0, .int .u8 0, .int .u8 0, .int .u8 0, .int .u8 0, .int .u8 0, .int .u8 0, .int .u8 0, .int .u8 0, .int .u8 0, .int .u8 0, .int .u8 0, .int .u8 0, .int .u8 0, .int .u8 0, .int .u8 0, .int .u8 0, .int .u8 0, .int .u8 0, .int .u8 0, .int .u8 0, .int .i64 0, .int .i64 0, .int .i64 0, .int .i64 0, .int .i64 0, .int .i64 0, .int .u8 0, .int .u8 0, .int .u8 0, .int .u8 0, .int .u8 0, .int .u8 0, .int .u8 0, .int .u8 0, .int .u8 0, .int .u8 0, .int .u8 0, .int .u8 0, .int .u8 0, .int .u8 0, .int .u8 0, .int .u8 0, .int .u8 0, .int .u8 0, .int .u8 0, .int .u8 0, .int .u8 0, .int .u8 0, .int .u8 0, .int .u8 0, .int .u8 0, .int .u8 0, .int .u8 0, .int .u8 0, .int .u8 0, .int .u8 0, .int .u8 0, .int .u8 0, .int .i64 0, .int .i64 0, .sl (some true) 3 true [], .int .i64 0, .sl (some true) 32 true []], k := 5, fs := [(0, 74), (41, 76), (43, 78), (77, 79), (78, 82)] } := rfl
@[go_sem] theorem tb85 : En.tb 85 = { n := 1, g := false, by' := 8, ok := true, z := .un, k := 6 } := rfl
@[go_sem] theorem tb87 : En.tb 87 = { n := 81, g := true, by' := 248, ok := true, z := .agg [.int .i64 0, .int .i64 0, .int .i64 0, .int .i64 0, .int .i64 0, .int .u8 0, .int .u8 0, .int .u8 0, .int .u8 0, .int .u8 0, .int .u8 0, .int .u8 0, .int .u8 0, .int .u8 0, .int .u8 0, .int .u8 0, .int .u8 0, .int .u8 0, .int .u8 0, .int .u8 0, .int .u8 0, .int .u8 0, .int .u8 0, .int .u8 0, .int .u8 0, .int .u8 0, .int .u8 0, .int .u8 0, .int .u8 0, .int .u8 0, .int .u8 0, .int .u8 0, .int .u8 0, .int .u8 0, .int .u8 0, .int .u8 0, .int .u8 0, .int .i64 0, .int .i64 0, .int .i64 0, .int .i64 0, .int .i64 0, .int .i64 0, .int .u8 0, .int .u8 0, .int .u8 0, .int .u8 0, .int .u8 0, .int .u8 0, .int .u8 0, .int .u8 0, .int .u8 0, .int .u8 0, .int .u8 0, .int .u8 0, .int .u8 0, .int .u8 0, .int .u8 0, .int .u8 0, .int .u8 0, .int .u8 0, .int .u8 0, .int .u8 0, .int .u8 0, .int .u8 0, .int .u8 0, .int .u8 0, .int .u8 0, .int .u8 0, .int .u8 0, .int .u8 0, .int .u8 0, .int .u8 0, .int .u8 0, .int .u8 0, .int .i64 0, .int .i64 0, .sl (some true) 3 true [], .int .i64 0, .sl (some true) 32 true [], .sl (some true) 80 true []], k := 5, fs := [(0, 84), (80, 39)] } := rfl
@[go_sem] theorem tb88 : En.tb 88 = { n := 1, g := false, by' := 8, ok := true, z := .un, k := 6 } := rfl
@[go_sem] theorem tb90 : En.tb 90 = { n := 3, g := true, by' := 56, ok := true, z := .agg [.sl (some true) 1 false [], .int .i64 0, .sl (some true) 1 false []], k := 5, fs := [(0, 29), (1, 3), (2, 29)] } := rfl
@[go_sem] theorem tb92 : En.tb 92 = { n := 5, g := true, by' := 72, ok := true, z := .agg [.int .i64 0, .int .i64 0, .sl (some true) 1 false [], .int .i64 0, .sl (some true) 1 false []], k := 5, fs := [(0, 3), (1, 3), (2, 90)] } := rfl
@[go_sem] theorem tb93 : En.tb 93 = { n := 1, g := false, by' := 8, ok := true, z := .un, k := 6 } := rfl
@[go_sem] theorem tb94 : En.tb 94 = { n := 1, g := false, by' := 8, ok := true, z := .un, k := 6 } := rfl
@[go_sem] theorem tb95 : En.tb 95 = { n := 1, g := false, by' := 8, ok := true, z := .un, k := 6 } := rfl
@[go_sem] theorem tb96 : En.tb 96 = { n := 1, g := false, by' := 8, ok := true, z := .un, k := 6 } := rfl
@[go_sem] theorem tb97 : En.tb 97 = { n := 1, g := false, by' := 8, ok := true, z := .un, k := 6 } := rfl
@[go_sem] theorem tb98 : En.tb 98 = { n := 1, g := false, by' := 8, ok := true, z := .un, k := 6 } := rfl
@[go_sem] theorem tb100 : En.tb 100 = { n := 1, g := false, by' := 8, ok := true, z := .un, k := 6 } := rfl
@[go_sem] theorem tb101 : En.tb 101 = { n := 1, g := false, by' := 8, ok := true, z := .un, k := 6 } := rfl
@[go_sem] theorem tb102 : En.tb 102 = { n := 1, g := false, by' := 8, ok := true, z := .un, k := 6 } := rfl
@[go_sem] theorem tb103 : En.tb 103 = { n := 1, g := false, by' := 8, ok := true, z := .int .u64 0, k := 0, ik := .u64 } := rfl
@[go_sem] theorem tb104 : En.tb 104 = { n := 1, g := false, by' := 8, ok := true, z := .un, k := 6 } := rfl
@[go_sem] theorem tb105 : En.tb 105 = { n := 1, g := false, by' := 8, ok := true, z := .un, k := 6 } := rfl
@[go_sem] theorem tb106 : En.tb 106 = { n := 1, g := false, by' := 8, ok := true, z := .un, k := 6 } := rfl
@[go_sem] theorem tb107 : En.tb 107 = { n := 1, g := false, by' := 8, ok := true, z := .un, k := 6 } := rfl
@[go_sem] theorem tb108 : En.tb 108 = { n := 1, g := false, by' := 8, ok := true, z := .un, k := 6 } := rfl
@[go_sem] theorem tb109 : En.tb 109 = { n := 1, g := false, by' := 8, ok := true, z := .un, k := 6 } := rfl
@[go_sem] theorem tb110 : En.tb 110 = { n := 1, g := false, by' := 8, ok := true, z := .un, k := 6 } := rfl
@[go_sem] theorem tb111 : En.tb 111 = { n := 1, g := false, by' := 8, ok := true, z := .un, k := 6 } := rfl
@[go_sem] theorem tb112 : En.tb 112 = { n := 1, g := false, by' := 8, ok := true, z := .un, k := 6 } := rfl
@[go_sem] theorem tb113 : En.tb 113 = { n := 1, g := false, by' := 8, ok := true, z := .un, k := 6 } := rfl
@[go_sem] theorem tb114 : En.tb 114 = { n := 1, g := false, by' := 8, ok := true, z := .un, k := 6 } := rfl
@[go_sem] theorem tb115 : En.tb 115 = { n := 1, g := false, by' := 8, ok := true, z := .un, k := 6 } := rfl
@[go_sem] theorem tb116 : En.tb 116 = { n := 1, g := false, by' := 8, ok := true, z := .un, k := 6 } := rfl
@[go_sem] theorem tb117 : En.tb 117 = { n := 1, g := false, by' := 8, ok := true, z := .un, k := 6 } := rfl
@[go_sem] theorem tb118 : En.tb 118 = { n := 1, g := false, by' := 8, ok := true, z := .un, k := 6 } := rfl
@[go_sem] theorem tb119 : En.tb 119 = { n := 1, g := false, by' := 8, ok := true, z := .un, k := 6 } := rfl
@[go_sem] theorem tb120 : En.tb 120 = { n := 1, g := false, by' := 8, ok := true, z := .un, k := 6 } := rfl
@[go_sem] theorem tb122 : En.tb 122 = { n := 3, g := true, by' := 24, ok := true, z := .agg [.int .i64 0, .int .i64 0, .int .i64 0], k := 5, fs := [(0, 3), (1, 3), (2, 3)], cmp := true, ck := [0, 0, 0] } := rfl
@[go_sem] theorem tb123 : En.tb 123 = { n := 1, g := false, by' := 8, ok := true, z := .un, k := 6 } := rfl
@[go_sem] theorem tb124 : En.tb 124 = { n := 1, g := false, by' := 8, ok := true, z := .un, k := 6 } := rfl
@[go_sem] theorem tb125 : En.tb 125 = { n := 1, g := false, by' := 8, ok := true, z := .un, k := 6 } := rfl
@[go_sem] theorem tb126 : En.tb 126 = { n := 1, g := false, by' := 8, ok := true, z := .un, k := 6 } := rfl
@[go_sem] theorem tb127 : En.tb 127 = { n := 1, g := false, by' := 8, ok := true, z := .un, k := 6 } := rfl
@[go_sem] theorem tb129 : En.tb 129 = { n := 1, g := false, by' := 8, ok := true, z := .un, k := 6 } := rfl
@[go_sem] theorem tb130 : En.tb 130 = { n := 1, g := false, by' := 8, ok := true, z := .un, k := 6 } := rfl
@[go_sem] theorem tb131 : En.tb 131 = { n := 1, g := false, by' := 8, ok := true, z := .un, k := 6 } := rfl
@[go_sem] theorem tb132 : En.tb 132 = { n := 1, g := false, by' := 8, ok := true, z := .un, k := 6 } := rfl
@[go_sem] theorem tb133 : En.tb 133 = { n := 1, g := false, by' := 8, ok := true, z := .un, k := 6 } := rfl
@[go_sem] theorem tb134 : En.tb 134 = { n := 1, g := false, by' := 8, ok := true, z := .un, k := 6 } := rfl
@[go_sem] theorem tb135 : En.tb 135 = { n := 1, g := false, by' := 8, ok := true, z := .un, k := 6 } := rfl
@[go_sem] theorem tb136 : En.tb 136 = { n := 1, g := false, by' := 8, ok := true, z := .un, k := 6 } := rfl
@[go_sem] theorem tb137 : En.tb 137 = { n := 1, g := false, by' := 8, ok := true, z := .un, k := 6 } := rfl
@[go_sem] theorem tb138 : En.tb 138 = { n := 1, g := false, by' := 8, ok := true, z := .un, k := 6 } := rfl
@[go_sem] theorem tb139 : En.tb 139 = { n := 1, g := false, by' := 8, ok := true, z := .un, k := 6 } := rfl
@[go_sem] theorem tb145 : En.tb 145 = { n := 1, g := false, by' := 8, ok := true, z := .un, k := 6 } := rfl
@[go_sem] theorem tb146 : En.tb 146 = { n := 1, g := false, by' := 4, ok := true, z := .int .u32 0, k := 0, ik := .u32 } := rfl
@[go_sem] theorem tb149 : En.tb 149 = { n := 1, g := false, by' := 8, ok := true, z := .un, k := 6 } := rfl
@[go_sem] theorem tb150 : En.tb 150 = { n := 1, g := false, by' := 8, ok := true, z := .un, k := 6 } := rfl
@[go_sem] theorem tb155 : En.tb 155 = { n := 1, g := false, by' := 8, ok := true, z := .un, k := 6 } := rfl
end Go.Proofs.Ytdidhdgdklkgeaa
