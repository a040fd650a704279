/- What the types of the program are, as the machine asks it (printed by program, checked in Lean). -/
import Derived.Test.YtndjbfdbngkkiaaVY
import Derived.Test.YtndjbfdbngkkiaaProg
import Derived.KernelRfl
namespace Go.Proofs.Ytndjbfdbngkkiaa
open Go.RowKit
noncomputable def tbl : List (TypeId × TI) := [(1, { n := 1, g := false, by' := 8, ok := true, z := .un, k := 6 }),
  (2, { n := 1, g := false, by' := 8, ok := true, z := .int .i64 0, k := 0, ik := .i64 }),
  (3, { n := 1, g := false, by' := 8, ok := true, z := .int .i64 0, k := 0, ik := .i64 }),
  (4, { n := 1, g := false, by' := 1, ok := true, z := .bool false, k := 1 }),
  (5, { n := 1, g := false, by' := 1, ok := true, z := .int .u8 0, k := 0, ik := .u8 }),
  (9, { n := 1, g := false, by' := 16, ok := true, z := .str [], k := 2 }),
  (12, { n := 1, g := false, by' := 8, ok := true, z := .int .u64 0, k := 0, ik := .u64 }),
  (15, { n := 1, g := false, by' := 8, ok := true, z := .un, k := 6 }),
  (16, { n := 1, g := false, by' := 8, ok := true, z := .un, k := 6 }),
  (17, { n := 1, g := false, by' := 8, ok := true, z := .un, k := 6 }),
  (20, { n := 1, g := false, by' := 16, ok := true, z := .un, k := 6 }),
  (21, { n := 1, g := false, by' := 4, ok := true, z := .int .i32 0, k := 0, ik := .i32 }),
  (22, { n := 1, g := false, by' := 24, ok := true, z := .sl (some true) 2 true [], k := 3, el := 43 }),
  (23, { n := 1, g := false, by' := 24, ok := true, z := .sl (some true) 1 false [], k := 3, el := 3 }),
  (24, { n := 1, g := false, by' := 8, ok := true, z := .un, k := 6 }),
  (25, { n := 1, g := false, by' := 8, ok := true, z := .un, k := 6 }),
  (26, { n := 1, g := false, by' := 8, ok := true, z := .int .i64 0, k := 0, ik := .i64 }),
  (28, { n := 1, g := false, by' := 8, ok := true, z := .un, k := 6 }),
  (29, { n := 1, g := false, by' := 8, ok := true, z := .un, k := 6 }),
  (30, { n := 1, g := false, by' := 8, ok := true, z := .un, k := 6 }),
  (31, { n := 1, g := false, by' := 8, ok := true, z := .un, k := 6 }),
  (32, { n := 1, g := false, by' := 8, ok := true, z := .un, k := 6 }),
  (33, { n := 1, g := false, by' := 8, ok := true, z := .un, k := 6 }),
  (34, { n := 1, g := false, by' := 8, ok := true, z := .un, k := 6 }),
  (35, { n := 1, g := false, by' := 8, ok := true, z := .un, k := 6 }),
  (36, { n := 1, g := false, by' := 8, ok := true, z := .un, k := 6 }),
  (37, { n := 1, g := false, by' := 24, ok := true, z := .sl (some true) 1 false [], k := 3, el := 5 }),
  (38, { n := 1, g := false, by' := 8, ok := true, z := .un, k := 6 }),
  (39, { n := 1, g := false, by' := 8, ok := true, z := .un, k := 6 }),
  (41, { n := 1, g := false, by' := 8, ok := true, z := .un, k := 6 }),
  (43, { n := 2, g := true, by' := 16, ok := true, z := .agg [.int .i64 0, .int .i64 0], k := 5, fs := [(0, 3), (1, 3)], cmp := true, ck := [0, 0] }),
  (44, { n := 1, g := false, by' := 8, ok := true, z := .un, k := 6 }),
  (45, { n := 1, g := false, by' := 8, ok := true, z := .un, k := 6 }),
  (46, { n := 1, g := false, by' := 8, ok := true, z := .un, k := 6 }),
  (47, { n := 1, g := false, by' := 8, ok := true, z := .un, k := 6 }),
  (48, { n := 1, g := false, by' := 8, ok := true, z := .un, k := 6 }),
  (50, { n := 1, g := false, by' := 8, ok := true, z := .un, k := 6 }),
  (51, { n := 1, g := false, by' := 24, ok := true, z := .sl (some true) 1 false [], k := 3, el := 23 }),
  (52, { n := 1, g := false, by' := 8, ok := true, z := .int .u64 0, k := 0, ik := .u64 }),
  (54, { n := 1, g := false, by' := 8, ok := true, z := .un, k := 6 }),
  (55, { n := 1, g := false, by' := 8, ok := true, z := .un, k := 6 }),
  (56, { n := 1, g := false, by' := 8, ok := true, z := .un, k := 6 }),
  (57, { n := 1, g := false, by' := 24, ok := true, z := .sl (some true) 1 false [], k := 3, el := 58 }),
  (58, { n := 1, g := false, by' := 24, ok := true, z := .sl (some true) 3 true [], k := 3, el := 60 }),
  (60, { n := 3, g := true, by' := 24, ok := true, z := .agg [.bool false, .int .i64 0, .int .i64 0], k := 5, fs := [(0, 4), (1, 3), (2, 3)], cmp := true, ck := [1, 0, 0] }),
  (61, { n := 1, g := false, by' := 8, ok := true, z := .un, k := 6 }),
  (62, { n := 1, g := false, by' := 8, ok := true, z := .un, k := 6 }),
  (63, { n := 1, g := false, by' := 4, ok := true, z := .int .u32 0, k := 0, ik := .u32 }),
  (65, { n := 1, g := false, by' := 8, ok := true, z := .un, k := 6 }),
  (66, { n := 1, g := false, by' := 8, ok := true, z := .int .u64 0, k := 0, ik := .u64 }),
  (68, { n := 1, g := false, by' := 8, ok := true, z := .un, k := 6 }),
  (69, { n := 1, g := false, by' := 8, ok := true, z := .un, k := 6 }),
  (70, { n := 1, g := false, by' := 8, ok := true, z := .un, k := 6 }),
  (76, { n := 1, g := false, by' := 8, ok := true, z := .un, k := 6 }),
  (79, { n := 1, g := false, by' := 8, ok := true, z := .un, k := 6 }),
  (80, { n := 1, g := false, by' := 8, ok := true, z := .un, k := 6 }),
  (85, { n := 1, g := false, by' := 8, ok := true, z := .un, k := 6 })]
noncomputable def En : Env := { P := Try.prog, tb := tbOf tbl, gv := fun _ => none }
set_option maxRecDepth 100000 in
theorem tbl_ok : tablesB Try.prog tbl = true := by kernel_rfl
theorem En_ok : EnvOk En := ⟨fun _ h => tOk (l := tbl) tbl_ok h⟩
theorem En_mo : En.P.follows .mixedOrders = true := by kernel_rfl
@[go_sem] theorem tb1 : En.tb 1 = { n := 1, g := false, by' := 8, ok := true, z := .un, k := 6 } := rfl
@[go_sem] theorem tb2 : En.tb 2 = { n := 1, g := false, by' := 8, ok := true, z := .int .i64 0, k := 0, ik := .i64 } := rfl
@[go_sem] theorem tb3 : En.tb 3 = { n := 1, g := false, by' := 8, ok := true, z := .int .i64 0, k := 0, ik := .i64 } := rfl
@[go_sem] theorem tb4 : En.tb 4 = { n := 1, g := false, by' := 1, ok := true, z := .bool false, k := 1 } := rfl
@[go_sem] theorem tb5 : En.tb 5 = { n := 1, g := false, by' := 1, ok := true, z := .int .u8 0, k := 0, ik := .u8 } := rfl
@[go_sem] theorem tb9 : En.tb 9 = { n := 1, g := false, by' := 16, ok := true, z := .str [], k := 2 } := rfl
@[go_sem] theorem tb12 : En.tb 12 = { n := 1, g := false, by' := 8, ok := true, z := .int .u64 0, k := 0, ik := .u64 } := rfl
@[go_sem] theorem tb15 : En.tb 15 = { n := 1, g := false, by' := 8, ok := true, z := .un, k := 6 } := rfl
@[go_sem] theorem tb16 : En.tb 16 = { n := 1, g := false, by' := 8, ok := true, z := .un, k := 6 } := rfl
@[go_sem] theorem tb17 : En.tb 17 = { n := 1, g := false, by' := 8, ok := true, z := .un, k := 6 } := rfl
@[go_sem] theorem tb20 : En.tb 20 = { n := 1, g := false, by' := 16, ok := true, z := .un, k := 6 } := rfl
@[go_sem] theorem tb21 : En.tb 21 = { n := 1, g := false, by' := 4, ok := true, z := .int .i32 0, k := 0, ik := .i32 } := rfl
@[go_sem] theorem tb22 : En.tb 22 = { n := 1, g := false, by' := 24, ok := true, z := .sl (some true) 2 true [], k := 3, el := 43 } := rfl
@[go_sem] theorem tb23 : En.tb 23 = { n := 1, g := false, by' := 24, ok := true, z := .sl (some true) 1 false [], k := 3, el := 3 } := rfl
@[go_sem] theorem tb24 : En.tb 24 = { n := 1, g := false, by' := 8, ok := true, z := .un, k := 6 } := rfl
@[go_sem] theorem tb25 : En.tb 25 = { n := 1, g := false, by' := 8, ok := true, z := .un, k := 6 } := rfl
@[go_sem] theorem tb26 : En.tb 26 = { n := 1, g := false, by' := 8, ok := true, z := .int .i64 0, k := 0, ik := .i64 } := rfl
@[go_sem] theorem tb28 : En.tb 28 = { n := 1, g := false, by' := 8, ok := true, z := .un, k := 6 } := rfl
@[go_sem] theorem tb29 : En.tb 29 = { n := 1, g := false, by' := 8, ok := true, z := .un, k := 6 } := rfl
@[go_sem] theorem tb30 : En.tb 30 = { n := 1, g := false, by' := 8, ok := true, z := .un, k := 6 } := rfl
@[go_sem] theorem tb31 : En.tb 31 = { n := 1, g := false, by' := 8, ok := true, z := .un, k := 6 } := rfl
@[go_sem] theorem tb32 : En.tb 32 = { n := 1, g := false, by' := 8, ok := true, z := .un, k := 6 } := rfl
@[go_sem] theorem tb33 : En.tb 33 = { n := 1, g := false, by' := 8, ok := true, z := .un, k := 6 } := rfl
@[go_sem] theorem tb34 : En.tb 34 = { n := 1, g := false, by' := 8, ok := true, z := .un, k := 6 } := rfl
@[go_sem] theorem tb35 : En.tb 35 = { n := 1, g := false, by' := 8, ok := true, z := .un, k := 6 } := rfl
@[go_sem] theorem tb36 : En.tb 36 = { n := 1, g := false, by' := 8, ok := true, z := .un, k := 6 } := rfl
@[go_sem] theorem tb37 : En.tb 37 = { n := 1, g := false, by' := 24, ok := true, z := .sl (some true) 1 false [], k := 3, el := 5 } := rfl
@[go_sem] theorem tb38 : En.tb 38 = { n := 1, g := false, by' := 8, ok := true, z := .un, k := 6 } := rfl
@[go_sem] theorem tb39 : En.tb 39 = { n := 1, g := false, by' := 8, ok := true, z := .un, k := 6 } := rfl
@[go_sem] theorem tb41 : En.tb 41 = { n := 1, g := false, by' := 8, ok := true, z := .un, k := 6 } := rfl
@[go_sem] theorem tb43 : En.tb 43 = { n := 2, g := true, by' := 16, ok := true, z := .agg [.int .i64 0, .int .i64 0], k := 5, fs := [(0, 3), (1, 3)], cmp := true, ck := [0, 0] } := rfl
@[go_sem] theorem tb44 : En.tb 44 = { n := 1, g := false, by' := 8, ok := true, z := .un, k := 6 } := rfl
@[go_sem] theorem tb45 : En.tb 45 = { n := 1, g := false, by' := 8, ok := true, z := .un, k := 6 } := rfl
@[go_sem] theorem tb46 : En.tb 46 = { n := 1, g := false, by' := 8, ok := true, z := .un, k := 6 } := rfl
@[go_sem] theorem tb47 : En.tb 47 = { n := 1, g := false, by' := 8, ok := true, z := .un, k := 6 } := rfl
@[go_sem] theorem tb48 : En.tb 48 = { n := 1, g := false, by' := 8, ok := true, z := .un, k := 6 } := rfl
@[go_sem] theorem tb50 : En.tb 50 = { n := 1, g := false, by' := 8, ok := true, z := .un, k := 6 } := rfl
@[go_sem] theorem tb51 : En.tb 51 = { n := 1, g := false, by' := 24, ok := true, z := .sl (some true) 1 false [], k := 3, el := 23 } := rfl
@[go_sem] theorem tb52 : En.tb 52 = { n := 1, g := false, by' := 8, ok := true, z := .int .u64 0, k := 0, ik := .u64 } := rfl
@[go_sem] theorem tb54 : En.tb 54 = { n := 1, g := false, by' := 8, ok := true, z := .un, k := 6 } := rfl
@[go_sem] theorem tb55 : En.tb 55 = { n := 1, g := false, by' := 8, ok := true, z := .un, k := 6 } := rfl
@[go_sem] theorem tb56 : En.tb 56 = { n := 1, g := false, by' := 8, ok := true, z := .un, k := 6 } := rfl
@[go_sem] theorem tb57 : En.tb 57 = { n := 1, g := false, by' := 24, ok := true, z := .sl (some true) 1 false [], k := 3, el := 58 } := rfl
@[go_sem] theorem tb58 : En.tb 58 = { n := 1, g := false, by' := 24, ok := true, z := .sl (some true) 3 true [], k := 3, el := 60 } := rfl
@[go_sem] theorem tb60 : En.tb 60 = { n := 3, g := true, by' := 24, ok := true, z := .agg [.bool false, .int .i64 0, .int .i64 0], k := 5, fs := [(0, 4), (1, 3), (2, 3)], cmp := true, ck := [1, 0, 0] } := rfl
@[go_sem] theorem tb61 : En.tb 61 = { n := 1, g := false, by' := 8, ok := true, z := .un, k := 6 } := rfl
@[go_sem] theorem tb62 : En.tb 62 = { n := 1, g := false, by' := 8, ok := true, z := .un, k := 6 } := rfl
@[go_sem] theorem tb63 : En.tb 63 = { n := 1, g := false, by' := 4, ok := true, z := .int .u32 0, k := 0, ik := .u32 } := rfl
@[go_sem] theorem tb65 : En.tb 65 = { n := 1, g := false, by' := 8, ok := true, z := .un, k := 6 } := rfl
@[go_sem] theorem tb66 : En.tb 66 = { n := 1, g := false, by' := 8, ok := true, z := .int .u64 0, k := 0, ik := .u64 } := rfl
@[go_sem] theorem tb68 : En.tb 68 = { n := 1, g := false, by' := 8, ok := true, z := .un, k := 6 } := rfl
@[go_sem] theorem tb69 : En.tb 69 = { n := 1, g := false, by' := 8, ok := true, z := .un, k := 6 } := rfl
@[go_sem] theorem tb70 : En.tb 70 = { n := 1, g := false, by' := 8, ok := true, z := .un, k := 6 } := rfl
@[go_sem] theorem tb76 : En.tb 76 = { n := 1, g := false, by' := 8, ok := true, z := .un, k := 6 } := rfl
@[go_sem] theorem tb79 : En.tb 79 = { n := 1, g := false, by' := 8, ok := true, z := .un, k := 6 } := rfl
@[go_sem] theorem tb80 : En.tb 80 = { n := 1, g := false, by' := 8, ok := true, z := .un, k := 6 } := rfl
@[go_sem] theorem tb85 : En.tb 85 = { n := 1, g := false, by' := 8, ok := true, z := .un, k := 6 } := rfl
end Go.Proofs.Ytndjbfdbngkkiaa
