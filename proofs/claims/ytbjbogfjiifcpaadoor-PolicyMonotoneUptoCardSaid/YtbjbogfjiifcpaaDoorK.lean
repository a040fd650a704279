/- What the types of the program are, as the machine asks it (printed by program, checked in Lean). -/
import Derived.Test.YtbjbogfjiifcpaaDoorVY
import Derived.Test.YtbjbogfjiifcpaaDoorProg
import Derived.KernelRfl
namespace Go.Proofs.YtbjbogfjiifcpaaDoor
open Go.RowKit
def isI64 (_ : Cx) (v : Value) : Prop := ∃ m, v = .int .i64 m
noncomputable def tbl : List (TypeId × TI) := [(1, { n := 1, g := false, by' := 8, ok := true, z := .un, k := 6 }),
  (2, { n := 1, g := false, by' := 8, ok := true, z := .int .i64 0, k := 0, ik := .i64 }),
  (3, { n := 1, g := false, by' := 8, ok := true, z := .int .i64 0, k := 0, ik := .i64 }),
  (4, { n := 1, g := false, by' := 1, ok := true, z := .bool false, k := 1 }),
  (5, { n := 1, g := false, by' := 1, ok := true, z := .int .u8 0, k := 0, ik := .u8 }),
  (9, { n := 1, g := false, by' := 16, ok := true, z := .str [], k := 2 }),
  (12, { n := 1, g := false, by' := 8, ok := true, z := .int .u64 0, k := 0, ik := .u64 }),
  (15, { n := 1, g := false, by' := 8, ok := true, z := .un, k := 6 }),
  (16, { n := 1, g := false, by' := 8, ok := true, z := .un, k := 6 }),
  (17, { n := 1, g := false, by' := 8, ok := true, z := .un, k := 6 }),
  (20, { n := 1, g := false, by' := 16, ok := true, z := .un, k := 6 }),
  (21, { n := 1, g := false, by' := 4, ok := true, z := .int .i32 0, k := 0, ik := .i32 }),
  (22, { n := 1, g := false, by' := 24, ok := true, z := .sl (some true) 2 true [], k := 3, el := 70 }),
  (23, { n := 1, g := false, by' := 8, ok := true, z := .un, k := 6 }),
  (24, { n := 1, g := false, by' := 8, ok := true, z := .un, k := 6 }),
  (25, { n := 1, g := false, by' := 8, ok := true, z := .int .i64 0, k := 0, ik := .i64 }),
  (27, { n := 1, g := false, by' := 8, ok := true, z := .un, k := 6 }),
  (29, { n := 1, g := false, by' := 8, ok := true, z := .un, k := 6 }),
  (30, { n := 1, g := false, by' := 8, ok := true, z := .un, k := 6 }),
  (31, { n := 1, g := false, by' := 8, ok := true, z := .un, k := 6 }),
  (33, { n := 1, g := false, by' := 8, ok := true, z := .un, k := 6 }),
  (34, { n := 1, g := false, by' := 8, ok := true, z := .un, k := 6 }),
  (35, { n := 1, g := false, by' := 24, ok := true, z := .sl (some true) 3 true [], k := 3, el := 53 }),
  (37, { n := 1, g := true, by' := 24, ok := true, z := .agg [.sl (some true) 3 true []], k := 5, fs := [(0, 35)] }),
  (38, { n := 1, g := false, by' := 8, ok := true, z := .un, k := 6 }),
  (40, { n := 1, g := false, by' := 8, ok := true, z := .un, k := 6 }),
  (42, { n := 1, g := false, by' := 8, ok := true, z := .un, k := 6 }),
  (43, { n := 1, g := false, by' := 8, ok := true, z := .un, k := 6 }),
  (44, { n := 1, g := false, by' := 8, ok := true, z := .un, k := 6 }),
  (45, { n := 1, g := false, by' := 8, ok := true, z := .un, k := 6 }),
  (47, { n := 1, g := false, by' := 8, ok := true, z := .un, k := 6 }),
  (48, { n := 1, g := false, by' := 8, ok := true, z := .un, k := 6 }),
  (49, { n := 2, g := true, by' := 16, ok := true, z := .agg [.int .i64 0, .int .i64 0], k := 4, el := 3, len := 2, cmp := true, ck := [0, 0] }),
  (50, { n := 1, g := false, by' := 8, ok := true, z := .un, k := 6 }),
  (51, { n := 1, g := false, by' := 8, ok := true, z := .un, k := 6 }),
  (53, { n := 3, g := true, by' := 24, ok := true, z := .agg [.int .i64 0, .int .i64 0, .int .i64 0], k := 5, fs := [(0, 3), (1, 3), (2, 3)], cmp := true, ck := [0, 0, 0] }),
  (54, { n := 1, g := false, by' := 8, ok := true, z := .un, k := 6 }),
  (56, { n := 1, g := false, by' := 8, ok := true, z := .un, k := 6 }),
  (57, { n := 1, g := false, by' := 8, ok := true, z := .un, k := 6 }),
  (58, { n := 1, g := false, by' := 8, ok := true, z := .un, k := 6 }),
  (59, { n := 1, g := false, by' := 8, ok := true, z := .un, k := 6 }),
  (60, { n := 1, g := false, by' := 8, ok := true, z := .un, k := 6 }),
  (61, { n := 1, g := false, by' := 8, ok := true, z := .un, k := 6 }),
  (62, { n := 1, g := false, by' := 8, ok := true, z := .un, k := 6 }),
  (64, { n := 1, g := false, by' := 8, ok := true, z := .un, k := 6 }),
  (65, { n := 1, g := false, by' := 8, ok := true, z := .un, k := 6 }),
  (66, { n := 1, g := false, by' := 24, ok := true, z := .sl (some true) 1 false [], k := 3, el := 3 }),
  (68, { n := 1, g := false, by' := 8, ok := true, z := .un, k := 6 }),
  (70, { n := 2, g := true, by' := 16, ok := true, z := .agg [.int .i64 0, .int .i64 0], k := 5, fs := [(0, 3), (1, 3)], cmp := true, ck := [0, 0] }),
  (71, { n := 1, g := false, by' := 8, ok := true, z := .un, k := 6 }),
  (72, { n := 1, g := false, by' := 24, ok := true, z := .sl (some true) 1 false [], k := 3, el := 9 }),
  (73, { n := 1, g := false, by' := 8, ok := true, z := .un, k := 6 }),
  (74, { n := 1, g := false, by' := 8, ok := true, z := .un, k := 6 }),
  (75, { n := 1, g := false, by' := 8, ok := true, z := .un, k := 6 }),
  (76, { n := 1, g := false, by' := 8, ok := true, z := .un, k := 6 }),
  (78, { n := 1, g := false, by' := 8, ok := true, z := .un, k := 6 }),
  (79, { n := 1, g := false, by' := 8, ok := true, z := .un, k := 6 }),
  (81, { n := 1, g := false, by' := 8, ok := true, z := .un, k := 6 }),
  (82, { n := 1, g := false, by' := 24, ok := true, z := .sl (some true) 1 true [], k := 3, el := 37 }),
  (83, { n := 1, g := false, by' := 8, ok := true, z := .un, k := 6 }),
  (84, { n := 1, g := false, by' := 8, ok := true, z := .un, k := 6 }),
  (85, { n := 1, g := false, by' := 8, ok := true, z := .un, k := 6 }),
  (86, { n := 1, g := false, by' := 8, ok := true, z := .un, k := 6 }),
  (87, { n := 1, g := false, by' := 8, ok := true, z := .un, k := 6 }),
  (88, { n := 1, g := false, by' := 8, ok := true, z := .un, k := 6 }),
  (89, { n := 1, g := false, by' := 8, ok := true, z := .un, k := 6 }),
  (90, { n := 1, g := false, by' := 8, ok := true, z := .un, k := 6 }),
  (91, { n := 1, g := false, by' := 8, ok := true, z := .un, k := 6 }),
  (92, { n := 1, g := false, by' := 24, ok := true, z := .sl (some true) 1 false [], k := 3, el := 5 }),
  (95, { n := 1, g := false, by' := 16, ok := true, z := .un, k := 6 }),
  (98, { n := 1, g := false, by' := 8, ok := true, z := .un, k := 6 }),
  (99, { n := 1, g := false, by' := 8, ok := true, z := .un, k := 6 }),
  (100, { n := 1, g := false, by' := 8, ok := true, z := .un, k := 6 }),
  (101, { n := 1, g := false, by' := 8, ok := true, z := .un, k := 6 }),
  (102, { n := 1, g := false, by' := 8, ok := true, z := .un, k := 6 }),
  (104, { n := 1, g := false, by' := 8, ok := true, z := .un, k := 6 }),
  (105, { n := 1, g := false, by' := 8, ok := true, z := .un, k := 6 }),
  (106, { n := 1, g := false, by' := 8, ok := true, z := .un, k := 6 }),
  (107, { n := 1, g := false, by' := 8, ok := true, z := .un, k := 6 }),
  (108, { n := 1, g := false, by' := 8, ok := true, z := .un, k := 6 }),
  (109, { n := 1, g := false, by' := 8, ok := true, z := .int .u64 0, k := 0, ik := .u64 }),
  (110, { n := 1, g := false, by' := 8, ok := true, z := .un, k := 6 }),
  (111, { n := 1, g := false, by' := 8, ok := true, z := .un, k := 6 }),
  (112, { n := 1, g := false, by' := 8, ok := true, z := .un, k := 6 }),
  (113, { n := 1, g := false, by' := 8, ok := true, z := .un, k := 6 }),
  (114, { n := 1, g := false, by' := 8, ok := true, z := .un, k := 6 }),
  (115, { n := 1, g := false, by' := 8, ok := true, z := .un, k := 6 }),
  (117, { n := 1, g := false, by' := 8, ok := true, z := .un, k := 6 }),
  (119, { n := 1, g := false, by' := 8, ok := true, z := .un, k := 6 }),
  (120, { n := 1, g := false, by' := 8, ok := true, z := .un, k := 6 }),
  (121, { n := 1, g := false, by' := 8, ok := true, z := .un, k := 6 }),
  (122, { n := 1, g := false, by' := 8, ok := true, z := .un, k := 6 }),
  (123, { n := 1, g := false, by' := 8, ok := true, z := .un, k := 6 }),
  (124, { n := 1, g := false, by' := 8, ok := true, z := .un, k := 6 }),
  (125, { n := 1, g := false, by' := 8, ok := true, z := .un, k := 6 }),
  (126, { n := 1, g := false, by' := 8, ok := true, z := .un, k := 6 }),
  (127, { n := 1, g := false, by' := 8, ok := true, z := .un, k := 6 }),
  (128, { n := 1, g := false, by' := 24, ok := true, z := .sl (some true) 1 false [], k := 3, el := 129 }),
  (129, { n := 1, g := false, by' := 24, ok := true, z := .sl (some true) 3 true [], k := 3, el := 131 }),
  (131, { n := 3, g := true, by' := 24, ok := true, z := .agg [.bool false, .int .i64 0, .int .i64 0], k := 5, fs := [(0, 4), (1, 3), (2, 3)], cmp := true, ck := [1, 0, 0] }),
  (132, { n := 1, g := false, by' := 8, ok := true, z := .un, k := 6 }),
  (133, { n := 1, g := false, by' := 4, ok := true, z := .int .u32 0, k := 0, ik := .u32 }),
  (135, { n := 1, g := false, by' := 8, ok := true, z := .un, k := 6 }),
  (136, { n := 1, g := false, by' := 8, ok := true, z := .int .u64 0, k := 0, ik := .u64 }),
  (138, { n := 1, g := false, by' := 8, ok := true, z := .un, k := 6 }),
  (139, { n := 24, g := true, by' := 24, ok := true, z := .agg [.int .u8 0, .int .u8 0, .int .u8 0, .int .u8 0, .int .u8 0, .int .u8 0, .int .u8 0, .int .u8 0, .int .u8 0, .int .u8 0, .int .u8 0, .int .u8 0, .int .u8 0, .int .u8 0, .int .u8 0, .int .u8 0, .int .u8 0, .int .u8 0, .int .u8 0, .int .u8 0, .int .u8 0, .int .u8 0, .int .u8 0, .int .u8 0], k := 4, el := 5, len := 24, cmp := true, ck := [0, 0, 0, 0, 0, 0, 0, 0, 0, 0, 0, 0, 0, 0, 0, 0, 0, 0, 0, 0, 0, 0, 0, 0] }),
  (140, { n := 1, g := false, by' := 8, ok := true, z := .un, k := 6 }),
  (141, { n := 1, g := false, by' := 8, ok := true, z := .un, k := 6 }),
  (143, { n := 1, g := false, by' := 8, ok := true, z := .un, k := 6 }),
  (144, { n := 1, g := false, by' := 8, ok := true, z := .un, k := 6 }),
  (145, { n := 1, g := false, by' := 8, ok := true, z := .un, k := 6 }),
  (147, { n := 1, g := false, by' := 8, ok := true, z := .un, k := 6 }),
  (148, { n := 1, g := false, by' := 8, ok := true, z := .un, k := 6 }),
  (149, { n := 1, g := false, by' := 8, ok := true, z := .un, k := 6 }),
  (150, { n := 1, g := false, by' := 8, ok := true, z := .un, k := 6 }),
  (154, { n := 1, g := false, by' := 8, ok := true, z := .un, k := 6 }),
  (155, { n := 1, g := false, by' := 8, ok := true, z := .un, k := 6 }),
  (156, { n := 1, g := false, by' := 8, ok := true, z := .un, k := 6 }),
  (157, { n := 1, g := false, by' := 8, ok := true, z := .un, k := 6 }),
  (158, { n := 1, g := false, by' := 8, ok := true, z := .un, k := 6 }),
  (159, { n := 1, g := false, by' := 8, ok := true, z := .un, k := 6 }),
  (160, { n := 20, g := true, by' := 160, ok := true, z := .agg [.int .u64 0, .int .u64 0, .int .u64 0, .int .u64 0, .int .u64 0, .int .u64 0, .int .u64 0, .int .u64 0, .int .u64 0, .int .u64 0, .int .u64 0, .int .u64 0, .int .u64 0, .int .u64 0, .int .u64 0, .int .u64 0, .int .u64 0, .int .u64 0, .int .u64 0, .int .u64 0], k := 4, el := 136, len := 20, cmp := true, ck := [0, 0, 0, 0, 0, 0, 0, 0, 0, 0, 0, 0, 0, 0, 0, 0, 0, 0, 0, 0] }),
  (161, { n := 65, g := true, by' := 65, ok := true, z := .agg [.int .u8 0, .int .u8 0, .int .u8 0, .int .u8 0, .int .u8 0, .int .u8 0, .int .u8 0, .int .u8 0, .int .u8 0, .int .u8 0, .int .u8 0, .int .u8 0, .int .u8 0, .int .u8 0, .int .u8 0, .int .u8 0, .int .u8 0, .int .u8 0, .int .u8 0, .int .u8 0, .int .u8 0, .int .u8 0, .int .u8 0, .int .u8 0, .int .u8 0, .int .u8 0, .int .u8 0, .int .u8 0, .int .u8 0, .int .u8 0, .int .u8 0, .int .u8 0, .int .u8 0, .int .u8 0, .int .u8 0, .int .u8 0, .int .u8 0, .int .u8 0, .int .u8 0, .int .u8 0, .int .u8 0, .int .u8 0, .int .u8 0, .int .u8 0, .int .u8 0, .int .u8 0, .int .u8 0, .int .u8 0, .int .u8 0, .int .u8 0, .int .u8 0, .int .u8 0, .int .u8 0, .int .u8 0, .int .u8 0, .int .u8 0, .int .u8 0, .int .u8 0, .int .u8 0, .int .u8 0, .int .u8 0, .int .u8 0, .int .u8 0, .int .u8 0, .int .u8 0], k := 4, el := 5, len := 65, cmp := true, ck := [0, 0, 0, 0, 0, 0, 0, 0, 0, 0, 0, 0, 0, 0, 0, 0, 0, 0, 0, 0, 0, 0, 0, 0, 0, 0, 0, 0, 0, 0, 0, 0, 0, 0, 0, 0, 0, 0, 0, 0, 0, 0, 0, 0, 0, 0, 0, 0, 0, 0, 0, 0, 0, 0, 0, 0, 0, 0, 0, 0, 0, 0, 0, 0, 0] }),
  (162, { n := 1, g := false, by' := 8, ok := true, z := .un, k := 6 }),
  (163, { n := 1, g := false, by' := 8, ok := true, z := .un, k := 6 }),
  (164, { n := 1, g := false, by' := 8, ok := true, z := .un, k := 6 }),
  (165, { n := 1, g := false, by' := 8, ok := true, z := .un, k := 6 }),
  (168, { n := 1, g := false, by' := 8, ok := true, z := .un, k := 6 }),
  (169, { n := 1, g := false, by' := 8, ok := true, z := .un, k := 6 }),
  (170, { n := 1, g := false, by' := 8, ok := true, z := .un, k := 6 }),
  (171, { n := 1, g := false, by' := 8, ok := true, z := .un, k := 6 }),
  (172, { n := 1, g := false, by' := 8, ok := true, z := .un, k := 6 }),
  (177, { n := 1, g := false, by' := 8, ok := true, z := .un, k := 6 }),
  (179, { n := 1, g := false, by' := 8, ok := true, z := .un, k := 6 }),
  (180, { n := 1, g := false, by' := 8, ok := true, z := .un, k := 6 }),
  (183, { n := 1, g := false, by' := 8, ok := true, z := .un, k := 6 }),
  (184, { n := 32, g := true, by' := 32, ok := true, z := .agg [.int .u8 0, .int .u8 0, .int .u8 0, .int .u8 0, .int .u8 0, .int .u8 0, .int .u8 0, .int .u8 0, .int .u8 0, .int .u8 0, .int .u8 0, .int .u8 0, .int .u8 0, .int .u8 0, .int .u8 0, .int .u8 0, .int .u8 0, .int .u8 0, .int .u8 0, .int .u8 0, .int .u8 0, .int .u8 0, .int .u8 0, .int .u8 0, .int .u8 0, .int .u8 0, .int .u8 0, .int .u8 0, .int .u8 0, .int .u8 0, .int .u8 0, .int .u8 0], k := 4, el := 5, len := 32, cmp := true, ck := [0, 0, 0, 0, 0, 0, 0, 0, 0, 0, 0, 0, 0, 0, 0, 0, 0, 0, 0, 0, 0, 0, 0, 0, 0, 0, 0, 0, 0, 0, 0, 0] }),
  (185, { n := 64, g := true, by' := 64, ok := true, z := .agg [.int .u8 0, .int .u8 0, .int .u8 0, .int .u8 0, .int .u8 0, .int .u8 0, .int .u8 0, .int .u8 0, .int .u8 0, .int .u8 0, .int .u8 0, .int .u8 0, .int .u8 0, .int .u8 0, .int .u8 0, .int .u8 0, .int .u8 0, .int .u8 0, .int .u8 0, .int .u8 0, .int .u8 0, .int .u8 0, .int .u8 0, .int .u8 0, .int .u8 0, .int .u8 0, .int .u8 0, .int .u8 0, .int .u8 0, .int .u8 0, .int .u8 0, .int .u8 0, .int .u8 0, .int .u8 0, .int .u8 0, .int .u8 0, .int .u8 0, .int .u8 0, .int .u8 0, .int .u8 0, .int .u8 0, .int .u8 0, .int .u8 0, .int .u8 0, .int .u8 0, .int .u8 0, .int .u8 0, .int .u8 0, .int .u8 0, .int .u8 0, .int .u8 0, .int .u8 0, .int .u8 0, .int .u8 0, .int .u8 0, .int .u8 0, .int .u8 0, .int .u8 0, .int .u8 0, .int .u8 0, .int .u8 0, .int .u8 0, .int .u8 0, .int .u8 0], k := 4, el := 5, len := 64, cmp := true, ck := [0, 0, 0, 0, 0, 0, 0, 0, 0, 0, 0, 0, 0, 0, 0, 0, 0, 0, 0, 0, 0, 0, 0, 0, 0, 0, 0, 0, 0, 0, 0, 0, 0, 0, 0, 0, 0, 0, 0, 0, 0, 0, 0, 0, 0, 0, 0, 0, 0, 0, 0, 0, 0, 0, 0, 0, 0, 0, 0, 0, 0, 0, 0, 0] }),
  (186, { n := 1, g := false, by' := 8, ok := true, z := .un, k := 6 }),
  (187, { n := 1, g := false, by' := 8, ok := true, z := .un, k := 6 }),
  (188, { n := 1, g := false, by' := 8, ok := true, z := .un, k := 6 }),
  (189, { n := 1, g := false, by' := 8, ok := true, z := .un, k := 6 }),
  (197, { n := 1, g := false, by' := 8, ok := true, z := .un, k := 6 }),
  (200, { n := 1, g := false, by' := 8, ok := true, z := .un, k := 6 })]
noncomputable def En : Env := { P := Tryd.prog, tb := tbOf tbl, gv := fun g => if g = 0 then some (.pp 1 false (.opq isI64)) else none }
set_option maxRecDepth 100000 in
theorem tbl_ok : tablesB Tryd.prog tbl = true := by kernel_rfl
theorem En_ok : EnvOk En := ⟨fun _ h => tOk (l := tbl) tbl_ok h⟩
theorem En_mo : En.P.follows .mixedOrders = true := by kernel_rfl
@[go_sem] theorem tb1 : En.tb 1 = { n := 1, g := false, by' := 8, ok := true, z := .un, k := 6 } := rfl
@[go_sem] theorem tb2 : En.tb 2 = { n := 1, g := false, by' := 8, ok := true, z := .int .i64 0, k := 0, ik := .i64 } := rfl
@[go_sem] theorem tb3 : En.tb 3 = { n := 1, g := false, by' := 8, ok := true, z := .int .i64 0, k := 0, ik := .i64 } := rfl
@[go_sem] theorem tb4 : En.tb 4 = { n := 1, g := false, by' := 1, ok := true, z := .bool false, k := 1 } := rfl
@[go_sem] theorem tb5 : En.tb 5 = { n := 1, g := false, by' := 1, ok := true, z := .int .u8 0, k := 0, ik := .u8 } := rfl
@[go_sem] theorem tb9 : En.tb 9 = { n := 1, g := false, by' := 16, ok := true, z := .str [], k := 2 } := rfl
@[go_sem] theorem tb12 : En.tb 12 = { n := 1, g := false, by' := 8, ok := true, z := .int .u64 0, k := 0, ik := .u64 } := rfl
@[go_sem] theorem tb15 : En.tb 15 = { n := 1, g := false, by' := 8, ok := true, z := .un, k := 6 } := rfl
@[go_sem] theorem tb16 : En.tb 16 = { n := 1, g := false, by' := 8, ok := true, z := .un, k := 6 } := rfl
@[go_sem] theorem tb17 : En.tb 17 = { n := 1, g := false, by' := 8, ok := true, z := .un, k := 6 } := rfl
@[go_sem] theorem tb20 : En.tb 20 = { n := 1, g := false, by' := 16, ok := true, z := .un, k := 6 } := rfl
@[go_sem] theorem tb21 : En.tb 21 = { n := 1, g := false, by' := 4, ok := true, z := .int .i32 0, k := 0, ik := .i32 } := rfl
@[go_sem] theorem tb22 : En.tb 22 = { n := 1, g := false, by' := 24, ok := true, z := .sl (some true) 2 true [], k := 3, el := 70 } := rfl
@[go_sem] theorem tb23 : En.tb 23 = { n := 1, g := false, by' := 8, ok := true, z := .un, k := 6 } := rfl
@[go_sem] theorem tb24 : En.tb 24 = { n := 1, g := false, by' := 8, ok := true, z := .un, k := 6 } := rfl
@[go_sem] theorem tb25 : En.tb 25 = { n := 1, g := false, by' := 8, ok := true, z := .int .i64 0, k := 0, ik := .i64 } := rfl
@[go_sem] theorem tb27 : En.tb 27 = { n := 1, g := false, by' := 8, ok := true, z := .un, k := 6 } := rfl
@[go_sem] theorem tb29 : En.tb 29 = { n := 1, g := false, by' := 8, ok := true, z := .un, k := 6 } := rfl
@[go_sem] theorem tb30 : En.tb 30 = { n := 1, g := false, by' := 8, ok := true, z := .un, k := 6 } := rfl
@[go_sem] theorem tb31 : En.tb 31 = { n := 1, g := false, by' := 8, ok := true, z := .un, k := 6 } := rfl
@[go_sem] theorem tb33 : En.tb 33 = { n := 1, g := false, by' := 8, ok := true, z := .un, k := 6 } := rfl
@[go_sem] theorem tb34 : En.tb 34 = { n := 1, g := false, by' := 8, ok := true, z := .un, k := 6 } := rfl
@[go_sem] theorem tb35 : En.tb 35 = { n := 1, g := false, by' := 24, ok := true, z := .sl (some true) 3 true [], k := 3, el := 53 } := rfl
@[go_sem] theorem tb37 : En.tb 37 = { n := 1, g := true, by' := 24, ok := true, z := .agg [.sl (some true) 3 true []], k := 5, fs := [(0, 35)] } := rfl
@[go_sem] theorem tb38 : En.tb 38 = { n := 1, g := false, by' := 8, ok := true, z := .un, k := 6 } := rfl
@[go_sem] theorem tb40 : En.tb 40 = { n := 1, g := false, by' := 8, ok := true, z := .un, k := 6 } := rfl
@[go_sem] theorem tb42 : En.tb 42 = { n := 1, g := false, by' := 8, ok := true, z := .un, k := 6 } := rfl
@[go_sem] theorem tb43 : En.tb 43 = { n := 1, g := false, by' := 8, ok := true, z := .un, k := 6 } := rfl
@[go_sem] theorem tb44 : En.tb 44 = { n := 1, g := false, by' := 8, ok := true, z := .un, k := 6 } := rfl
@[go_sem] theorem tb45 : En.tb 45 = { n := 1, g := false, by' := 8, ok := true, z := .un, k := 6 } := rfl
@[go_sem] theorem tb47 : En.tb 47 = { n := 1, g := false, by' := 8, ok := true, z := .un, k := 6 } := rfl
@[go_sem] theorem tb48 : En.tb 48 = { n := 1, g := false, by' := 8, ok := true, z := .un, k := 6 } := rfl
@[go_sem] theorem tb49 : En.tb 49 = { n := 2, g := true, by' := 16, ok := true, z := .agg [.int .i64 0, .int .i64 0], k := 4, el := 3, len := 2, cmp := true, ck := [0, 0] } := rfl
@[go_sem] theorem tb50 : En.tb 50 = { n := 1, g := false, by' := 8, ok := true, z := .un, k := 6 } := rfl
@[go_sem] theorem tb51 : En.tb 51 = { n := 1, g := false, by' := 8, ok := true, z := .un, k := 6 } := rfl
@[go_sem] theorem tb53 : En.tb 53 = { n := 3, g := true, by' := 24, ok := true, z := .agg [.int .i64 0, .int .i64 0, .int .i64 0], k := 5, fs := [(0, 3), (1, 3), (2, 3)], cmp := true, ck := [0, 0, 0] } := rfl
@[go_sem] theorem tb54 : En.tb 54 = { n := 1, g := false, by' := 8, ok := true, z := .un, k := 6 } := rfl
@[go_sem] theorem tb56 : En.tb 56 = { n := 1, g := false, by' := 8, ok := true, z := .un, k := 6 } := rfl
@[go_sem] theorem tb57 : En.tb 57 = { n := 1, g := false, by' := 8, ok := true, z := .un, k := 6 } := rfl
@[go_sem] theorem tb58 : En.tb 58 = { n := 1, g := false, by' := 8, ok := true, z := .un, k := 6 } := rfl
@[go_sem] theorem tb59 : En.tb 59 = { n := 1, g := false, by' := 8, ok := true, z := .un, k := 6 } := rfl
@[go_sem] theorem tb60 : En.tb 60 = { n := 1, g := false, by' := 8, ok := true, z := .un, k := 6 } := rfl
@[go_sem] theorem tb61 : En.tb 61 = { n := 1, g := false, by' := 8, ok := true, z := .un, k := 6 } := rfl
@[go_sem] theorem tb62 : En.tb 62 = { n := 1, g := false, by' := 8, ok := true, z := .un, k := 6 } := rfl
@[go_sem] theorem tb64 : En.tb 64 = { n := 1, g := false, by' := 8, ok := true, z := .un, k := 6 } := rfl
@[go_sem] theorem tb65 : En.tb 65 = { n := 1, g := false, by' := 8, ok := true, z := .un, k := 6 } := rfl
@[go_sem] theorem tb66 : En.tb 66 = { n := 1, g := false, by' := 24, ok := true, z := .sl (some true) 1 false [], k := 3, el := 3 } := rfl
@[go_sem] theorem tb68 : En.tb 68 = { n := 1, g := false, by' := 8, ok := true, z := .un, k := 6 } := rfl
@[go_sem] theorem tb70 : En.tb 70 = { n := 2, g := true, by' := 16, ok := true, z := .agg [.int .i64 0, .int .i64 0], k := 5, fs := [(0, 3), (1, 3)], cmp := true, ck := [0, 0] } := rfl
@[go_sem] theorem tb71 : En.tb 71 = { n := 1, g := false, by' := 8, ok := true, z := .un, k := 6 } := rfl
@[go_sem] theorem tb72 : En.tb 72 = { n := 1, g := false, by' := 24, ok := true, z := .sl (some true) 1 false [], k := 3, el := 9 } := rfl
@[go_sem] theorem tb73 : En.tb 73 = { n := 1, g := false, by' := 8, ok := true, z := .un, k := 6 } := rfl
@[go_sem] theorem tb74 : En.tb 74 = { n := 1, g := false, by' := 8, ok := true, z := .un, k := 6 } := rfl
@[go_sem] theorem tb75 : En.tb 75 = { n := 1, g := false, by' := 8, ok := true, z := .un, k := 6 } := rfl
@[go_sem] theorem tb76 : En.tb 76 = { n := 1, g := false, by' := 8, ok := true, z := .un, k := 6 } := rfl
@[go_sem] theorem tb78 : En.tb 78 = { n := 1, g := false, by' := 8, ok := true, z := .un, k := 6 } := rfl
@[go_sem] theorem tb79 : En.tb 79 = { n := 1, g := false, by' := 8, ok := true, z := .un, k := 6 } := rfl
@[go_sem] theorem tb81 : En.tb 81 = { n := 1, g := false, by' := 8, ok := true, z := .un, k := 6 } := rfl
@[go_sem] theorem tb82 : En.tb 82 = { n := 1, g := false, by' := 24, ok := true, z := .sl (some true) 1 true [], k := 3, el := 37 } := rfl
@[go_sem] theorem tb83 : En.tb 83 = { n := 1, g := false, by' := 8, ok := true, z := .un, k := 6 } := rfl
@[go_sem] theorem tb84 : En.tb 84 = { n := 1, g := false, by' := 8, ok := true, z := .un, k := 6 } := rfl
@[go_sem] theorem tb85 : En.tb 85 = { n := 1, g := false, by' := 8, ok := true, z := .un, k := 6 } := rfl
@[go_sem] theorem tb86 : En.tb 86 = { n := 1, g := false, by' := 8, ok := true, z := .un, k := 6 } := rfl
@[go_sem] theorem tb87 : En.tb 87 = { n := 1, g := false, by' := 8, ok := true, z := .un, k := 6 } := rfl
@[go_sem] theorem tb88 : En.tb 88 = { n := 1, g := false, by' := 8, ok := true, z := .un, k := 6 } := rfl
@[go_sem] theorem tb89 : En.tb 89 = { n := 1, g := false, by' := 8, ok := true, z := .un, k := 6 } := rfl
@[go_sem] theorem tb90 : En.tb 90 = { n := 1, g := false, by' := 8, ok := true, z := .un, k := 6 } := rfl
@[go_sem] theorem tb91 : En.tb 91 = { n := 1, g := false, by' := 8, ok := true, z := .un, k := 6 } := rfl
@[go_sem] theorem tb92 : En.tb 92 = { n := 1, g := false, by' := 24, ok := true, z := .sl (some true) 1 false [], k := 3, el := 5 } := rfl
@[go_sem] theorem tb95 : En.tb 95 = { n := 1, g := false, by' := 16, ok := true, z := .un, k := 6 } := rfl
@[go_sem] theorem tb98 : En.tb 98 = { n := 1, g := false, by' := 8, ok := true, z := .un, k := 6 } := rfl
@[go_sem] theorem tb99 : En.tb 99 = { n := 1, g := false, by' := 8, ok := true, z := .un, k := 6 } := rfl
@[go_sem] theorem tb100 : En.tb 100 = { n := 1, g := false, by' := 8, ok := true, z := .un, k := 6 } := rfl
@[go_sem] theorem tb101 : En.tb 101 = { n := 1, g := false, by' := 8, ok := true, z := .un, k := 6 } := rfl
@[go_sem] theorem tb102 : En.tb 102 = { n := 1, g := false, by' := 8, ok := true, z := .un, k := 6 } := rfl
@[go_sem] theorem tb104 : En.tb 104 = { n := 1, g := false, by' := 8, ok := true, z := .un, k := 6 } := rfl
@[go_sem] theorem tb105 : En.tb 105 = { n := 1, g := false, by' := 8, ok := true, z := .un, k := 6 } := rfl
@[go_sem] theorem tb106 : En.tb 106 = { n := 1, g := false, by' := 8, ok := true, z := .un, k := 6 } := rfl
@[go_sem] theorem tb107 : En.tb 107 = { n := 1, g := false, by' := 8, ok := true, z := .un, k := 6 } := rfl
@[go_sem] theorem tb108 : En.tb 108 = { n := 1, g := false, by' := 8, ok := true, z := .un, k := 6 } := rfl
@[go_sem] theorem tb109 : En.tb 109 = { n := 1, g := false, by' := 8, ok := true, z := .int .u64 0, k := 0, ik := .u64 } := rfl
@[go_sem] theorem tb110 : En.tb 110 = { n := 1, g := false, by' := 8, ok := true, z := .un, k := 6 } := rfl
@[go_sem] theorem tb111 : En.tb 111 = { n := 1, g := false, by' := 8, ok := true, z := .un, k := 6 } := rfl
@[go_sem] theorem tb112 : En.tb 112 = { n := 1, g := false, by' := 8, ok := true, z := .un, k := 6 } := rfl
@[go_sem] theorem tb113 : En.tb 113 = { n := 1, g := false, by' := 8, ok := true, z := .un, k := 6 } := rfl
@[go_sem] theorem tb114 : En.tb 114 = { n := 1, g := false, by' := 8, ok := true, z := .un, k := 6 } := rfl
@[go_sem] theorem tb115 : En.tb 115 = { n := 1, g := false, by' := 8, ok := true, z := .un, k := 6 } := rfl
@[go_sem] theorem tb117 : En.tb 117 = { n := 1, g := false, by' := 8, ok := true, z := .un, k := 6 } := rfl
@[go_sem] theorem tb119 : En.tb 119 = { n := 1, g := false, by' := 8, ok := true, z := .un, k := 6 } := rfl
@[go_sem] theorem tb120 : En.tb 120 = { n := 1, g := false, by' := 8, ok := true, z := .un, k := 6 } := rfl
@[go_sem] theorem tb121 : En.tb 121 = { n := 1, g := false, by' := 8, ok := true, z := .un, k := 6 } := rfl
@[go_sem] theorem tb122 : En.tb 122 = { n := 1, g := false, by' := 8, ok := true, z := .un, k := 6 } := rfl
@[go_sem] theorem tb123 : En.tb 123 = { n := 1, g := false, by' := 8, ok := true, z := .un, k := 6 } := rfl
@[go_sem] theorem tb124 : En.tb 124 = { n := 1, g := false, by' := 8, ok := true, z := .un, k := 6 } := rfl
@[go_sem] theorem tb125 : En.tb 125 = { n := 1, g := false, by' := 8, ok := true, z := .un, k := 6 } := rfl
@[go_sem] theorem tb126 : En.tb 126 = { n := 1, g := false, by' := 8, ok := true, z := .un, k := 6 } := rfl
@[go_sem] theorem tb127 : En.tb 127 = { n := 1, g := false, by' := 8, ok := true, z := .un, k := 6 } := rfl
@[go_sem] theorem tb128 : En.tb 128 = { n := 1, g := false, by' := 24, ok := true, z := .sl (some true) 1 false [], k := 3, el := 129 } := rfl
@[go_sem] theorem tb129 : En.tb 129 = { n := 1, g := false, by' := 24, ok := true, z := .sl (some true) 3 true [], k := 3, el := 131 } := rfl
@[go_sem] theorem tb131 : En.tb 131 = { n := 3, g := true, by' := 24, ok := true, z := .agg [.bool false, .int .i64 0, .int .i64 0], k := 5, fs := [(0, 4), (1, 3), (2, 3)], cmp := true, ck := [1, 0, 0] } := rfl
@[go_sem] theorem tb132 : En.tb 132 = { n := 1, g := false, by' := 8, ok := true, z := .un, k := 6 } := rfl
@[go_sem] theorem tb133 : En.tb 133 = { n := 1, g := false, by' := 4, ok := true, z := .int .u32 0, k := 0, ik := .u32 } := rfl
@[go_sem] theorem tb135 : En.tb 135 = { n := 1, g := false, by' := 8, ok := true, z := .un, k := 6 } := rfl
@[go_sem] theorem tb136 : En.tb 136 = { n := 1, g := false, by' := 8, ok := true, z := .int .u64 0, k := 0, ik := .u64 } := rfl
@[go_sem] theorem tb138 : En.tb 138 = { n := 1, g := false, by' := 8, ok := true, z := .un, k := 6 } := rfl
@[go_sem] theorem tb139 : En.tb 139 = { n := 24, g := true, by' := 24, ok := true, z := .agg [.int .u8 0, .int .u8 0, .int .u8 0, .int .u8 0, .int .u8 0, .int .u8 0, .int .u8 0, .int .u8 0, .int .u8 0, .int .u8 0, .int .u8 0, .int .u8 0, .int .u8 0, .int .u8 0, .int .u8 0, .int .u8 0, .int .u8 0, .int .u8 0, .int .u8 0, .int .u8 0, .int .u8 0, .int .u8 0, .int .u8 0, .int .u8 0], k := 4, el := 5, len := 24, cmp := true, ck := [0, 0, 0, 0, 0, 0, 0, 0, 0, 0, 0, 0, 0, 0, 0, 0, 0, 0, 0, 0, 0, 0, 0, 0] } := rfl
@[go_sem] theorem tb140 : En.tb 140 = { n := 1, g := false, by' := 8, ok := true, z := .un, k := 6 } := rfl
@[go_sem] theorem tb141 : En.tb 141 = { n := 1, g := false, by' := 8, ok := true, z := .un, k := 6 } := rfl
@[go_sem] theorem tb143 : En.tb 143 = { n := 1, g := false, by' := 8, ok := true, z := .un, k := 6 } := rfl
@[go_sem] theorem tb144 : En.tb 144 = { n := 1, g := false, by' := 8, ok := true, z := .un, k := 6 } := rfl
@[go_sem] theorem tb145 : En.tb 145 = { n := 1, g := false, by' := 8, ok := true, z := .un, k := 6 } := rfl
@[go_sem] theorem tb147 : En.tb 147 = { n := 1, g := false, by' := 8, ok := true, z := .un, k := 6 } := rfl
@[go_sem] theorem tb148 : En.tb 148 = { n := 1, g := false, by' := 8, ok := true, z := .un, k := 6 } := rfl
@[go_sem] theorem tb149 : En.tb 149 = { n := 1, g := false, by' := 8, ok := true, z := .un, k := 6 } := rfl
@[go_sem] theorem tb150 : En.tb 150 = { n := 1, g := false, by' := 8, ok := true, z := .un, k := 6 } := rfl
@[go_sem] theorem tb154 : En.tb 154 = { n := 1, g := false, by' := 8, ok := true, z := .un, k := 6 } := rfl
@[go_sem] theorem tb155 : En.tb 155 = { n := 1, g := false, by' := 8, ok := true, z := .un, k := 6 } := rfl
@[go_sem] theorem tb156 : En.tb 156 = { n := 1, g := false, by' := 8, ok := true, z := .un, k := 6 } := rfl
@[go_sem] theorem tb157 : En.tb 157 = { n := 1, g := false, by' := 8, ok := true, z := .un, k := 6 } := rfl
@[go_sem] theorem tb158 : En.tb 158 = { n := 1, g := false, by' := 8, ok := true, z := .un, k := 6 } := rfl
@[go_sem] theorem tb159 : En.tb 159 = { n := 1, g := false, by' := 8, ok := true, z := .un, k := 6 } := rfl
@[go_sem] theorem tb160 : En.tb 160 = { n := 20, g := true, by' := 160, ok := true, z := .agg [.int .u64 0, .int .u64 0, .int .u64 0, .int .u64 0, .int .u64 0, .int .u64 0, .int .u64 0, .int .u64 0, .int .u64 0, .int .u64 0, .int .u64 0, .int .u64 0, .int .u64 0, .int .u64 0, .int .u64 0, .int .u64 0, .int .u64 0, .int .u64 0, .int .u64 0, .int .u64 0], k := 4, el := 136, len := 20, cmp := true, ck := [0, 0, 0, 0, 0, 0, 0, 0, 0, 0, 0, 0, 0, 0, 0, 0, 0, 0, 0, 0] } := rfl
@[go_sem] theorem tb161 : En.tb 161 = { n := 65, g := true, by' := 65, ok := true, z := .agg [.int .u8 0, .int .u8 0, .int .u8 0, .int .u8 0, .int .u8 0, .int .u8 0, .int .u8 0, .int .u8 0, .int .u8 0, .int .u8 0, .int .u8 0, .int .u8 0, .int .u8 0, .int .u8 0, .int .u8 0, .int .u8 0, .int .u8 0, .int .u8 0, .int .u8 0, .int .u8 0, .int .u8 0, .int .u8 0, .int .u8 0, .int .u8 0, .int .u8 0, .int .u8 0, .int .u8 0, .int .u8 0, .int .u8 0, .int .u8 0, .int .u8 0, .int .u8 0, .int .u8 0, .int .u8 0, .int .u8 0, .int .u8 0, .int .u8 0, .int .u8 0, .int .u8 0, .int .u8 0, .int .u8 0, .int .u8 0, .int .u8 0, .int .u8 0, .int .u8 0, .int .u8 0, .int .u8 0, .int .u8 0, .int .u8 0, .int .u8 0, .int .u8 0, .int .u8 0, .int .u8 0, .int .u8 0, .int .u8 0, .int .u8 0, .int .u8 0, .int .u8 0, .int .u8 0, .int .u8 0, .int .u8 0, .int .u8 0, .int .u8 0, .int .u8 0, .int .u8 0], k := 4, el := 5, len := 65, cmp := true, ck := [0, 0, 0, 0, 0, 0, 0, 0, 0, 0, 0, 0, 0, 0, 0, 0, 0, 0, 0, 0, 0, 0, 0, 0, 0, 0, 0, 0, 0, 0, 0, 0, 0, 0, 0, 0, 0, 0, 0, 0, 0, 0, 0, 0, 0, 0, 0, 0, 0, 0, 0, 0, 0, 0, 0, 0, 0, 0, 0, 0, 0, 0, 0, 0, 0] } := rfl
@[go_sem] theorem tb162 : En.tb 162 = { n := 1, g := false, by' := 8, ok := true, z := .un, k := 6 } := rfl
@[go_sem] theorem tb163 : En.tb 163 = { n := 1, g := false, by' := 8, ok := true, z := .un, k := 6 } := rfl
@[go_sem] theorem tb164 : En.tb 164 = { n := 1, g := false, by' := 8, ok := true, z := .un, k := 6 } := rfl
@[go_sem] theorem tb165 : En.tb 165 = { n := 1, g := false, by' := 8, ok := true, z := .un, k := 6 } := rfl
@[go_sem] theorem tb168 : En.tb 168 = { n := 1, g := false, by' := 8, ok := true, z := .un, k := 6 } := rfl
@[go_sem] theorem tb169 : En.tb 169 = { n := 1, g := false, by' := 8, ok := true, z := .un, k := 6 } := rfl
@[go_sem] theorem tb170 : En.tb 170 = { n := 1, g := false, by' := 8, ok := true, z := .un, k := 6 } := rfl
@[go_sem] theorem tb171 : En.tb 171 = { n := 1, g := false, by' := 8, ok := true, z := .un, k := 6 } := rfl
@[go_sem] theorem tb172 : En.tb 172 = { n := 1, g := false, by' := 8, ok := true, z := .un, k := 6 } := rfl
@[go_sem] theorem tb177 : En.tb 177 = { n := 1, g := false, by' := 8, ok := true, z := .un, k := 6 } := rfl
@[go_sem] theorem tb179 : En.tb 179 = { n := 1, g := false, by' := 8, ok := true, z := .un, k := 6 } := rfl
@[go_sem] theorem tb180 : En.tb 180 = { n := 1, g := false, by' := 8, ok := true, z := .un, k := 6 } := rfl
@[go_sem] theorem tb183 : En.tb 183 = { n := 1, g := false, by' := 8, ok := true, z := .un, k := 6 } := rfl
@[go_sem] theorem tb184 : En.tb 184 = { n := 32, g := true, by' := 32, ok := true, z := .agg [.int .u8 0, .int .u8 0, .int .u8 0, .int .u8 0, .int .u8 0, .int .u8 0, .int .u8 0, .int .u8 0, .int .u8 0, .int .u8 0, .int .u8 0, .int .u8 0, .int .u8 0, .int .u8 0, .int .u8 0, .int .u8 0, .int .u8 0, .int .u8 0, .int .u8 0, .int .u8 0, .int .u8 0, .int .u8 0, .int .u8 0, .int .u8 0, .int .u8 0, .int .u8 0, .int .u8 0, .int .u8 0, .int .u8 0, .int .u8 0, .int .u8 0, .int .u8 0], k := 4, el := 5, len := 32, cmp := true, ck := [0, 0, 0, 0, 0, 0, 0, 0, 0, 0, 0, 0, 0, 0, 0, 0, 0, 0, 0, 0, 0, 0, 0, 0, 0, 0, 0, 0, 0, 0, 0, 0] } := rfl
@[go_sem] theorem tb185 : En.tb 185 = { n := 64, g := true, by' := 64, ok := true, z := .agg [.int .u8 0, .int .u8 0, .int .u8 0, .int .u8 0, .int .u8 0, .int .u8 0, .int .u8 0, .int .u8 0, .int .u8 0, .int .u8 0, .int .u8 0, .int .u8 0, .int .u8 0, .int .u8 0, .int .u8 0, .int .u8 0, .int .u8 0, .int .u8 0, .int .u8 0, .int .u8 0, .int .u8 0, .int .u8 0, .int .u8 0, .int .u8 0, .int .u8 0, .int .u8 0, .int .u8 0, .int .u8 0, .int .u8 0, .int .u8 0, .int .u8 0, .int .u8 0, .int .u8 0, .int .u8 0, .int .u8 0, .int .u8 0, .int .u8 0, .int .u8 0, .int .u8 0, .int .u8 0, .int .u8 0, .int .u8 0, .int .u8 0, .int .u8 0, .int .u8 0, .int .u8 0, .int .u8 0, .int .u8 0, .int .u8 0, .int .u8 0, .int .u8 0, .int .u8 0, .int .u8 0, .int .u8 0, .int .u8 0, .int .u8 0, .int .u8 0, .int .u8 0, .int .u8 0, .int .u8 0, .int .u8 0, .int .u8 0, .int .u8 0, .int .u8 0], k := 4, el := 5, len := 64, cmp := true, ck := [0, 0, 0, 0, 0, 0, 0, 0, 0, 0, 0, 0, 0, 0, 0, 0, 0, 0, 0, 0, 0, 0, 0, 0, 0, 0, 0, 0, 0, 0, 0, 0, 0, 0, 0, 0, 0, 0, 0, 0, 0, 0, 0, 0, 0, 0, 0, 0, 0, 0, 0, 0, 0, 0, 0, 0, 0, 0, 0, 0, 0, 0, 0, 0] } := rfl
@[go_sem] theorem tb186 : En.tb 186 = { n := 1, g := false, by' := 8, ok := true, z := .un, k := 6 } := rfl
@[go_sem] theorem tb187 : En.tb 187 = { n := 1, g := false, by' := 8, ok := true, z := .un, k := 6 } := rfl
@[go_sem] theorem tb188 : En.tb 188 = { n := 1, g := false, by' := 8, ok := true, z := .un, k := 6 } := rfl
@[go_sem] theorem tb189 : En.tb 189 = { n := 1, g := false, by' := 8, ok := true, z := .un, k := 6 } := rfl
@[go_sem] theorem tb197 : En.tb 197 = { n := 1, g := false, by' := 8, ok := true, z := .un, k := 6 } := rfl
@[go_sem] theorem tb200 : En.tb 200 = { n := 1, g := false, by' := 8, ok := true, z := .un, k := 6 } := rfl
end Go.Proofs.YtbjbogfjiifcpaaDoor
