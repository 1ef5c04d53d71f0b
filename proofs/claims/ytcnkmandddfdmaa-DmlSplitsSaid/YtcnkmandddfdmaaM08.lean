/- The table of types of this program, for the abstract machine. -/
import Derived.Test.YtcnkmandddfdmaaM07
import Derived.Test.YtcnkmandddfdmaaRows
set_option linter.unusedSimpArgs false
set_option linter.unusedVariables false
namespace Go.Proofs.Ytcnkmandddfdmaa
def cxL : List (TypeId × TI) := [
  (1, ⟨1, false, [.nilFunc], .other⟩),
  (2, ⟨1, false, [.int .i64 0], .int .i64⟩),
  (3, ⟨1, false, [.int .i64 0], .int .i64⟩),
  (4, ⟨1, false, [.bool false], .bool⟩),
  (5, ⟨1, false, [.int .u8 0], .int .u8⟩),
  (9, ⟨1, false, [.string ⟨#[]⟩], .str⟩),
  (12, ⟨1, false, [.int .u64 0], .int .u64⟩),
  (13, ⟨2, true, [.string ⟨#[]⟩, .int .u64 0], .struct [(0, 1, false), (1, 1, false)]⟩),
  (19, ⟨1, true, [.pointer none], .struct [(0, 1, false)]⟩),
  (21, ⟨1, false, [.int .i32 0], .int .i32⟩),
  (22, ⟨1, false, [.slice none 0 0], .slice 54 4 32 [.string ⟨#[]⟩, .int .i64 0, .bool false, .bool false]⟩),
  (23, ⟨2, true, [.string ⟨#[]⟩, .slice none 0 0], .struct [(0, 1, false), (1, 1, false)]⟩),
  (24, ⟨2, true, [.string ⟨#[]⟩, .slice none 0 0], .struct [(0, 1, false), (1, 1, false)]⟩),
  (25, ⟨1, false, [.slice none 0 0], .slice 46 1 24 [.slice none 0 0]⟩),
  (26, ⟨4, true, [.string ⟨#[]⟩, .string ⟨#[]⟩, .slice none 0 0, .slice none 0 0], .struct [(0, 1, false), (1, 2, true), (3, 1, false)]⟩),
  (27, ⟨4, true, [.string ⟨#[]⟩, .string ⟨#[]⟩, .slice none 0 0, .slice none 0 0], .struct [(0, 1, false), (1, 2, true), (3, 1, false)]⟩),
  (28, ⟨1, false, [.nilFunc], .other⟩),
  (29, ⟨1, false, [.slice none 0 0], .slice 9 1 16 [.string ⟨#[]⟩]⟩),
  (30, ⟨1, false, [.slice none 0 0], .slice 33 1 24 [.slice none 0 0]⟩),
  (31, ⟨1, false, [.slice none 0 0], .slice 113 9 112 [.bool false, .int .i64 0, .int .i64 0, .int .i64 0, .string ⟨#[]⟩, .string ⟨#[]⟩, .string ⟨#[]⟩, .int .i64 0, .slice none 0 0]⟩),
  (32, ⟨1, false, [.slice none 0 0], .slice 116 3 56 [.string ⟨#[]⟩, .string ⟨#[]⟩, .slice none 0 0]⟩),
  (33, ⟨1, false, [.slice none 0 0], .slice 86 8 104 [.int .i64 0, .int .i64 0, .int .i64 0, .string ⟨#[]⟩, .string ⟨#[]⟩, .string ⟨#[]⟩, .int .i64 0, .slice none 0 0]⟩),
  (34, ⟨1, false, [.slice none 0 0], .slice 120 9 112 [.int .i64 0, .int .i64 0, .int .i64 0, .string ⟨#[]⟩, .string ⟨#[]⟩, .string ⟨#[]⟩, .int .i64 0, .slice none 0 0, .bool false]⟩),
  (35, ⟨14, true, [.int .i64 0, .string ⟨#[]⟩, .string ⟨#[]⟩, .slice none 0 0, .slice none 0 0, .slice none 0 0, .slice none 0 0, .slice none 0 0, .slice none 0 0, .slice none 0 0, .slice none 0 0, .int .i64 0, .slice none 0 0, .bool false], .struct [(0, 1, false), (1, 1, false), (2, 1, false), (3, 1, false), (4, 1, false), (5, 1, false), (6, 1, false), (7, 1, false), (8, 1, false), (9, 1, false), (10, 1, false), (11, 1, false), (12, 1, false), (13, 1, false)]⟩),
  (36, ⟨14, true, [.int .i64 0, .string ⟨#[]⟩, .string ⟨#[]⟩, .slice none 0 0, .slice none 0 0, .slice none 0 0, .slice none 0 0, .slice none 0 0, .slice none 0 0, .slice none 0 0, .slice none 0 0, .int .i64 0, .slice none 0 0, .bool false], .struct [(0, 1, false), (1, 1, false), (2, 1, false), (3, 1, false), (4, 1, false), (5, 1, false), (6, 1, false), (7, 1, false), (8, 1, false), (9, 1, false), (10, 1, false), (11, 1, false), (12, 1, false), (13, 1, false)]⟩),
  (38, ⟨1, false, [.nilFunc], .other⟩),
  (39, ⟨1, false, [.slice none 0 0], .slice 48 3 64 [.string ⟨#[]⟩, .slice none 0 0, .slice none 0 0]⟩),
  (40, ⟨1, false, [.int .i64 0], .int .i64⟩),
  (42, ⟨1, false, [.nilFunc], .other⟩),
  (43, ⟨1, false, [.nilFunc], .other⟩),
  (44, ⟨1, false, [.nilFunc], .other⟩),
  (45, ⟨1, false, [.nilFunc], .other⟩),
  (46, ⟨1, false, [.slice none 0 0], .slice 50 3 32 [.int .i64 0, .int .i64 0, .string ⟨#[]⟩]⟩),
  (47, ⟨3, true, [.string ⟨#[]⟩, .slice none 0 0, .slice none 0 0], .struct [(0, 1, false), (1, 1, false), (2, 1, false)]⟩),
  (48, ⟨3, true, [.string ⟨#[]⟩, .slice none 0 0, .slice none 0 0], .struct [(0, 1, false), (1, 1, false), (2, 1, false)]⟩),
  (49, ⟨3, true, [.int .i64 0, .int .i64 0, .string ⟨#[]⟩], .struct [(0, 1, false), (1, 1, false), (2, 1, false)]⟩),
  (50, ⟨3, true, [.int .i64 0, .int .i64 0, .string ⟨#[]⟩], .struct [(0, 1, false), (1, 1, false), (2, 1, false)]⟩),
  (51, ⟨1, false, [.nilFunc], .other⟩),
  (52, ⟨1, false, [.nilFunc], .other⟩),
  (53, ⟨4, true, [.string ⟨#[]⟩, .int .i64 0, .bool false, .bool false], .struct [(0, 1, false), (1, 1, false), (2, 1, false), (3, 1, false)]⟩),
  (54, ⟨4, true, [.string ⟨#[]⟩, .int .i64 0, .bool false, .bool false], .struct [(0, 1, false), (1, 1, false), (2, 1, false), (3, 1, false)]⟩),
  (56, ⟨1, false, [.nilFunc], .other⟩),
  (58, ⟨1, false, [.nilFunc], .other⟩),
  (59, ⟨1, false, [.nilFunc], .other⟩),
  (60, ⟨1, false, [.nilFunc], .other⟩),
  (61, ⟨1, false, [.slice none 0 0], .slice 3 1 8 [.int .i64 0]⟩),
  (63, ⟨1, false, [.nilFunc], .other⟩),
  (65, ⟨1, false, [.nilFunc], .other⟩),
  (66, ⟨1, false, [.slice none 0 0], .slice 93 3 32 [.string ⟨#[]⟩, .string ⟨#[]⟩, .int .i64 0]⟩),
  (67, ⟨1, false, [.nilFunc], .other⟩),
  (68, ⟨1, false, [.nilFunc], .other⟩),
  (70, ⟨1, false, [.nilFunc], .other⟩),
  (71, ⟨1, false, [.nilFunc], .other⟩),
  (72, ⟨1, false, [.slice none 0 0], .slice 102 3 32 [.int .i64 0, .string ⟨#[]⟩, .int .i64 0]⟩),
  (74, ⟨1, false, [.nilFunc], .other⟩),
  (75, ⟨1, false, [.pointer none], .other⟩),
  (76, ⟨3, true, [.slice none 0 0, .int .i64 0, .bool false], .struct [(0, 1, false), (1, 1, false), (2, 1, false)]⟩),
  (77, ⟨3, true, [.slice none 0 0, .int .i64 0, .bool false], .struct [(0, 1, false), (1, 1, false), (2, 1, false)]⟩),
  (78, ⟨1, false, [.nilFunc], .other⟩),
  (79, ⟨1, false, [.nilFunc], .other⟩),
  (80, ⟨1, false, [.nilFunc], .other⟩),
  (81, ⟨1, false, [.nilFunc], .other⟩),
  (82, ⟨1, false, [.nilFunc], .other⟩),
  (83, ⟨1, false, [.nilFunc], .other⟩),
  (84, ⟨1, false, [.nilFunc], .other⟩),
  (85, ⟨8, true, [.int .i64 0, .int .i64 0, .int .i64 0, .string ⟨#[]⟩, .string ⟨#[]⟩, .string ⟨#[]⟩, .int .i64 0, .slice none 0 0], .struct [(0, 1, false), (1, 3, true), (4, 1, false), (5, 1, false), (6, 1, false), (7, 1, false)]⟩),
  (86, ⟨8, true, [.int .i64 0, .int .i64 0, .int .i64 0, .string ⟨#[]⟩, .string ⟨#[]⟩, .string ⟨#[]⟩, .int .i64 0, .slice none 0 0], .struct [(0, 1, false), (1, 3, true), (4, 1, false), (5, 1, false), (6, 1, false), (7, 1, false)]⟩),
  (87, ⟨1, false, [.nilFunc], .other⟩),
  (88, ⟨1, false, [.nilFunc], .other⟩),
  (89, ⟨1, false, [.nilFunc], .other⟩),
  (91, ⟨1, false, [.nilFunc], .other⟩),
  (92, ⟨3, true, [.string ⟨#[]⟩, .string ⟨#[]⟩, .int .i64 0], .struct [(0, 1, false), (1, 1, false), (2, 1, false)]⟩),
  (93, ⟨3, true, [.string ⟨#[]⟩, .string ⟨#[]⟩, .int .i64 0], .struct [(0, 1, false), (1, 1, false), (2, 1, false)]⟩),
  (94, ⟨1, false, [.nilFunc], .other⟩),
  (95, ⟨1, false, [.nilFunc], .other⟩),
  (96, ⟨1, false, [.nilFunc], .other⟩),
  (98, ⟨1, false, [.nilFunc], .other⟩),
  (99, ⟨1, false, [.nilFunc], .other⟩),
  (100, ⟨1, false, [.nilFunc], .other⟩),
  (101, ⟨3, true, [.int .i64 0, .string ⟨#[]⟩, .int .i64 0], .struct [(0, 1, false), (1, 1, false), (2, 1, false)]⟩),
  (102, ⟨3, true, [.int .i64 0, .string ⟨#[]⟩, .int .i64 0], .struct [(0, 1, false), (1, 1, false), (2, 1, false)]⟩),
  (104, ⟨1, false, [.nilFunc], .other⟩),
  (106, ⟨1, false, [.nilFunc], .other⟩),
  (108, ⟨1, false, [.nilFunc], .other⟩),
  (109, ⟨1, false, [.nilFunc], .other⟩),
  (110, ⟨1, false, [.nilFunc], .other⟩),
  (111, ⟨1, false, [.nilFunc], .other⟩),
  (112, ⟨9, true, [.bool false, .int .i64 0, .int .i64 0, .int .i64 0, .string ⟨#[]⟩, .string ⟨#[]⟩, .string ⟨#[]⟩, .int .i64 0, .slice none 0 0], .struct [(0, 1, false), (1, 8, true)]⟩),
  (113, ⟨9, true, [.bool false, .int .i64 0, .int .i64 0, .int .i64 0, .string ⟨#[]⟩, .string ⟨#[]⟩, .string ⟨#[]⟩, .int .i64 0, .slice none 0 0], .struct [(0, 1, false), (1, 8, true)]⟩),
  (114, ⟨1, false, [.nilFunc], .other⟩),
  (115, ⟨3, true, [.string ⟨#[]⟩, .string ⟨#[]⟩, .slice none 0 0], .struct [(0, 1, false), (1, 1, false), (2, 1, false)]⟩),
  (116, ⟨3, true, [.string ⟨#[]⟩, .string ⟨#[]⟩, .slice none 0 0], .struct [(0, 1, false), (1, 1, false), (2, 1, false)]⟩),
  (117, ⟨1, false, [.nilFunc], .other⟩),
  (118, ⟨1, false, [.nilFunc], .other⟩),
  (119, ⟨9, true, [.int .i64 0, .int .i64 0, .int .i64 0, .string ⟨#[]⟩, .string ⟨#[]⟩, .string ⟨#[]⟩, .int .i64 0, .slice none 0 0, .bool false], .struct [(0, 8, true), (8, 1, false)]⟩),
  (120, ⟨9, true, [.int .i64 0, .int .i64 0, .int .i64 0, .string ⟨#[]⟩, .string ⟨#[]⟩, .string ⟨#[]⟩, .int .i64 0, .slice none 0 0, .bool false], .struct [(0, 8, true), (8, 1, false)]⟩),
  (121, ⟨1, false, [.nilFunc], .other⟩),
  (122, ⟨1, false, [.nilFunc], .other⟩),
  (123, ⟨1, false, [.nilFunc], .other⟩),
  (124, ⟨1, false, [.nilFunc], .other⟩),
  (125, ⟨1, false, [.nilFunc], .other⟩),
  (127, ⟨1, false, [.nilFunc], .other⟩),
  (129, ⟨1, false, [.nilFunc], .other⟩),
  (130, ⟨1, false, [.int .i64 0], .int .i64⟩),
  (132, ⟨1, false, [.nilFunc], .other⟩),
  (133, ⟨1, false, [.nilFunc], .other⟩),
  (134, ⟨1, false, [.nilFunc], .other⟩),
  (135, ⟨1, false, [.pointer none], .other⟩),
  (136, ⟨2, true, [.slice none 0 0, .int .i64 0], .struct [(0, 1, false), (1, 1, false)]⟩),
  (137, ⟨2, true, [.slice none 0 0, .int .i64 0], .struct [(0, 1, false), (1, 1, false)]⟩),
  (138, ⟨1, false, [.nilFunc], .other⟩),
  (139, ⟨1, false, [.slice none 0 0], .slice 5 1 1 [.int .u8 0]⟩),
  (141, ⟨1, false, [.nilFunc], .other⟩),
  (142, ⟨1, false, [.nilFunc], .other⟩),
  (143, ⟨1, false, [.nilFunc], .other⟩),
  (144, ⟨1, false, [.int .u64 0], .int .u64⟩),
  (145, ⟨1, false, [.nilFunc], .other⟩),
  (146, ⟨1, false, [.nilFunc], .other⟩),
  (148, ⟨1, false, [.nilFunc], .other⟩),
  (149, ⟨1, false, [.int .u64 0], .int .u64⟩),
  (150, ⟨1, false, [.nilFunc], .other⟩),
  (151, ⟨1, false, [.pointer none], .other⟩),
  (152, ⟨1, false, [.nilFunc], .other⟩),
  (153, ⟨1, false, [.slice none 0 0], .slice 138 1 8 [.nilFunc]⟩),
  (154, ⟨1, false, [.nilFunc], .other⟩),
  (155, ⟨4, true, [.string ⟨#[]⟩, .string ⟨#[]⟩, .string ⟨#[]⟩, .string ⟨#[]⟩], .arr 4 1 false⟩),
  (156, ⟨13, true, [.string ⟨#[]⟩, .string ⟨#[]⟩, .string ⟨#[]⟩, .string ⟨#[]⟩, .string ⟨#[]⟩, .string ⟨#[]⟩, .string ⟨#[]⟩, .string ⟨#[]⟩, .string ⟨#[]⟩, .string ⟨#[]⟩, .string ⟨#[]⟩, .string ⟨#[]⟩, .string ⟨#[]⟩], .arr 13 1 false⟩),
  (157, ⟨13, true, [.int .i64 0, .int .i64 0, .int .i64 0, .int .i64 0, .int .i64 0, .int .i64 0, .int .i64 0, .int .i64 0, .int .i64 0, .int .i64 0, .int .i64 0, .int .i64 0, .int .i64 0], .arr 13 1 false⟩),
  (158, ⟨1, false, [.nilFunc], .other⟩),
  (159, ⟨1, false, [.nilFunc], .other⟩),
  (160, ⟨1, false, [.nilFunc], .other⟩),
  (161, ⟨1, false, [.nilFunc], .other⟩),
  (162, ⟨1, false, [.nilFunc], .other⟩),
  (163, ⟨1, false, [.slice none 0 0], .slice 4 1 1 [.bool false]⟩),
  (164, ⟨1, false, [.nilFunc], .other⟩),
  (165, ⟨1, false, [.nilFunc], .other⟩),
  (166, ⟨1, false, [.nilFunc], .other⟩),
  (167, ⟨1, false, [.nilFunc], .other⟩),
  (168, ⟨1, false, [.nilFunc], .other⟩),
  (174, ⟨1, false, [.nilFunc], .other⟩),
  (175, ⟨1, false, [.int .u32 0], .int .u32⟩),
  (178, ⟨1, false, [.nilFunc], .other⟩),
  (179, ⟨1, false, [.pointer none], .other⟩)]
def cxQ : List (TypeId × List EK) := [(50, [.int, .int, .str]), (54, [.str, .int, .bool, .bool]), (93, [.str, .str, .int]), (102, [.int, .str, .int])]
def cx : Ctx := tabCtx cxL [] cxQ
theorem cx_ok : cx.ok Try.prog := tabCtx_ok (by kernel_rfl) (by kernel_rfl)
theorem dr_ok : DrawOk Try.prog (aDraw Try.prog cx) := aDraw_ok cx_ok (by kernel_rfl)
theorem cx_muts : cx.muts = [] := nr rfl
theorem cx_1 : cx.ty 1 = some ⟨1, false, [.nilFunc], .other⟩ := nr rfl
theorem ck_1 : cx.kind 1 = some (.other) := nr rfl
theorem cx_2 : cx.ty 2 = some ⟨1, false, [.int .i64 0], .int .i64⟩ := nr rfl
theorem ck_2 : cx.kind 2 = some (.int .i64) := nr rfl
theorem cx_3 : cx.ty 3 = some ⟨1, false, [.int .i64 0], .int .i64⟩ := nr rfl
theorem ck_3 : cx.kind 3 = some (.int .i64) := nr rfl
theorem cx_4 : cx.ty 4 = some ⟨1, false, [.bool false], .bool⟩ := nr rfl
theorem ck_4 : cx.kind 4 = some (.bool) := nr rfl
theorem cx_5 : cx.ty 5 = some ⟨1, false, [.int .u8 0], .int .u8⟩ := nr rfl
theorem ck_5 : cx.kind 5 = some (.int .u8) := nr rfl
theorem cx_9 : cx.ty 9 = some ⟨1, false, [.string ⟨#[]⟩], .str⟩ := nr rfl
theorem ck_9 : cx.kind 9 = some (.str) := nr rfl
theorem cx_12 : cx.ty 12 = some ⟨1, false, [.int .u64 0], .int .u64⟩ := nr rfl
theorem ck_12 : cx.kind 12 = some (.int .u64) := nr rfl
theorem cx_13 : cx.ty 13 = some ⟨2, true, [.string ⟨#[]⟩, .int .u64 0], .struct [(0, 1, false), (1, 1, false)]⟩ := nr rfl
theorem ck_13 : cx.kind 13 = some (.struct [(0, 1, false), (1, 1, false)]) := nr rfl
theorem cx_19 : cx.ty 19 = some ⟨1, true, [.pointer none], .struct [(0, 1, false)]⟩ := nr rfl
theorem ck_19 : cx.kind 19 = some (.struct [(0, 1, false)]) := nr rfl
theorem cx_21 : cx.ty 21 = some ⟨1, false, [.int .i32 0], .int .i32⟩ := nr rfl
theorem ck_21 : cx.kind 21 = some (.int .i32) := nr rfl
theorem cx_22 : cx.ty 22 = some ⟨1, false, [.slice none 0 0], .slice 54 4 32 [.string ⟨#[]⟩, .int .i64 0, .bool false, .bool false]⟩ := nr rfl
theorem ck_22 : cx.kind 22 = some (.slice 54 4 32 [.string ⟨#[]⟩, .int .i64 0, .bool false, .bool false]) := nr rfl
theorem ks_22 {e : Nat} {ls : List (List PV)} : lenA cx 22 (.p (.sl e ls)) = some ls.length := nr (len_sl ck_22)
theorem ko_22 {t e : Nat} {ls : List (List PV)} : lenA cx 22 (.own t e ls) = some ls.length := nr (len_own ck_22)
theorem kn_22 {t e : Nat} {ls : List (List PV)} : lenA cx 22 (.nown t e ls) = some ls.length := nr (len_nown ck_22)
theorem kz_22 : lenA cx 22 (.p (.v (.slice none 0 0))) = some 0 := nr (len_nil ck_22)
theorem cx_23 : cx.ty 23 = some ⟨2, true, [.string ⟨#[]⟩, .slice none 0 0], .struct [(0, 1, false), (1, 1, false)]⟩ := nr rfl
theorem ck_23 : cx.kind 23 = some (.struct [(0, 1, false), (1, 1, false)]) := nr rfl
theorem cx_24 : cx.ty 24 = some ⟨2, true, [.string ⟨#[]⟩, .slice none 0 0], .struct [(0, 1, false), (1, 1, false)]⟩ := nr rfl
theorem ck_24 : cx.kind 24 = some (.struct [(0, 1, false), (1, 1, false)]) := nr rfl
theorem cx_25 : cx.ty 25 = some ⟨1, false, [.slice none 0 0], .slice 46 1 24 [.slice none 0 0]⟩ := nr rfl
theorem ck_25 : cx.kind 25 = some (.slice 46 1 24 [.slice none 0 0]) := nr rfl
theorem ks_25 {e : Nat} {ls : List (List PV)} : lenA cx 25 (.p (.sl e ls)) = some ls.length := nr (len_sl ck_25)
theorem ko_25 {t e : Nat} {ls : List (List PV)} : lenA cx 25 (.own t e ls) = some ls.length := nr (len_own ck_25)
theorem kn_25 {t e : Nat} {ls : List (List PV)} : lenA cx 25 (.nown t e ls) = some ls.length := nr (len_nown ck_25)
theorem kz_25 : lenA cx 25 (.p (.v (.slice none 0 0))) = some 0 := nr (len_nil ck_25)
theorem cx_26 : cx.ty 26 = some ⟨4, true, [.string ⟨#[]⟩, .string ⟨#[]⟩, .slice none 0 0, .slice none 0 0], .struct [(0, 1, false), (1, 2, true), (3, 1, false)]⟩ := nr rfl
theorem ck_26 : cx.kind 26 = some (.struct [(0, 1, false), (1, 2, true), (3, 1, false)]) := nr rfl
theorem cx_27 : cx.ty 27 = some ⟨4, true, [.string ⟨#[]⟩, .string ⟨#[]⟩, .slice none 0 0, .slice none 0 0], .struct [(0, 1, false), (1, 2, true), (3, 1, false)]⟩ := nr rfl
theorem ck_27 : cx.kind 27 = some (.struct [(0, 1, false), (1, 2, true), (3, 1, false)]) := nr rfl
theorem cx_28 : cx.ty 28 = some ⟨1, false, [.nilFunc], .other⟩ := nr rfl
theorem ck_28 : cx.kind 28 = some (.other) := nr rfl
theorem cx_29 : cx.ty 29 = some ⟨1, false, [.slice none 0 0], .slice 9 1 16 [.string ⟨#[]⟩]⟩ := nr rfl
theorem ck_29 : cx.kind 29 = some (.slice 9 1 16 [.string ⟨#[]⟩]) := nr rfl
theorem ks_29 {e : Nat} {ls : List (List PV)} : lenA cx 29 (.p (.sl e ls)) = some ls.length := nr (len_sl ck_29)
theorem ko_29 {t e : Nat} {ls : List (List PV)} : lenA cx 29 (.own t e ls) = some ls.length := nr (len_own ck_29)
theorem kn_29 {t e : Nat} {ls : List (List PV)} : lenA cx 29 (.nown t e ls) = some ls.length := nr (len_nown ck_29)
theorem kz_29 : lenA cx 29 (.p (.v (.slice none 0 0))) = some 0 := nr (len_nil ck_29)
theorem cx_30 : cx.ty 30 = some ⟨1, false, [.slice none 0 0], .slice 33 1 24 [.slice none 0 0]⟩ := nr rfl
theorem ck_30 : cx.kind 30 = some (.slice 33 1 24 [.slice none 0 0]) := nr rfl
theorem ks_30 {e : Nat} {ls : List (List PV)} : lenA cx 30 (.p (.sl e ls)) = some ls.length := nr (len_sl ck_30)
theorem ko_30 {t e : Nat} {ls : List (List PV)} : lenA cx 30 (.own t e ls) = some ls.length := nr (len_own ck_30)
theorem kn_30 {t e : Nat} {ls : List (List PV)} : lenA cx 30 (.nown t e ls) = some ls.length := nr (len_nown ck_30)
theorem kz_30 : lenA cx 30 (.p (.v (.slice none 0 0))) = some 0 := nr (len_nil ck_30)
theorem cx_31 : cx.ty 31 = some ⟨1, false, [.slice none 0 0], .slice 113 9 112 [.bool false, .int .i64 0, .int .i64 0, .int .i64 0, .string ⟨#[]⟩, .string ⟨#[]⟩, .string ⟨#[]⟩, .int .i64 0, .slice none 0 0]⟩ := nr rfl
theorem ck_31 : cx.kind 31 = some (.slice 113 9 112 [.bool false, .int .i64 0, .int .i64 0, .int .i64 0, .string ⟨#[]⟩, .string ⟨#[]⟩, .string ⟨#[]⟩, .int .i64 0, .slice none 0 0]) := nr rfl
theorem ks_31 {e : Nat} {ls : List (List PV)} : lenA cx 31 (.p (.sl e ls)) = some ls.length := nr (len_sl ck_31)
theorem ko_31 {t e : Nat} {ls : List (List PV)} : lenA cx 31 (.own t e ls) = some ls.length := nr (len_own ck_31)
theorem kn_31 {t e : Nat} {ls : List (List PV)} : lenA cx 31 (.nown t e ls) = some ls.length := nr (len_nown ck_31)
theorem kz_31 : lenA cx 31 (.p (.v (.slice none 0 0))) = some 0 := nr (len_nil ck_31)
theorem cx_32 : cx.ty 32 = some ⟨1, false, [.slice none 0 0], .slice 116 3 56 [.string ⟨#[]⟩, .string ⟨#[]⟩, .slice none 0 0]⟩ := nr rfl
theorem ck_32 : cx.kind 32 = some (.slice 116 3 56 [.string ⟨#[]⟩, .string ⟨#[]⟩, .slice none 0 0]) := nr rfl
theorem ks_32 {e : Nat} {ls : List (List PV)} : lenA cx 32 (.p (.sl e ls)) = some ls.length := nr (len_sl ck_32)
theorem ko_32 {t e : Nat} {ls : List (List PV)} : lenA cx 32 (.own t e ls) = some ls.length := nr (len_own ck_32)
theorem kn_32 {t e : Nat} {ls : List (List PV)} : lenA cx 32 (.nown t e ls) = some ls.length := nr (len_nown ck_32)
theorem kz_32 : lenA cx 32 (.p (.v (.slice none 0 0))) = some 0 := nr (len_nil ck_32)
theorem cx_33 : cx.ty 33 = some ⟨1, false, [.slice none 0 0], .slice 86 8 104 [.int .i64 0, .int .i64 0, .int .i64 0, .string ⟨#[]⟩, .string ⟨#[]⟩, .string ⟨#[]⟩, .int .i64 0, .slice none 0 0]⟩ := nr rfl
theorem ck_33 : cx.kind 33 = some (.slice 86 8 104 [.int .i64 0, .int .i64 0, .int .i64 0, .string ⟨#[]⟩, .string ⟨#[]⟩, .string ⟨#[]⟩, .int .i64 0, .slice none 0 0]) := nr rfl
theorem ks_33 {e : Nat} {ls : List (List PV)} : lenA cx 33 (.p (.sl e ls)) = some ls.length := nr (len_sl ck_33)
theorem ko_33 {t e : Nat} {ls : List (List PV)} : lenA cx 33 (.own t e ls) = some ls.length := nr (len_own ck_33)
theorem kn_33 {t e : Nat} {ls : List (List PV)} : lenA cx 33 (.nown t e ls) = some ls.length := nr (len_nown ck_33)
theorem kz_33 : lenA cx 33 (.p (.v (.slice none 0 0))) = some 0 := nr (len_nil ck_33)
theorem cx_34 : cx.ty 34 = some ⟨1, false, [.slice none 0 0], .slice 120 9 112 [.int .i64 0, .int .i64 0, .int .i64 0, .string ⟨#[]⟩, .string ⟨#[]⟩, .string ⟨#[]⟩, .int .i64 0, .slice none 0 0, .bool false]⟩ := nr rfl
theorem ck_34 : cx.kind 34 = some (.slice 120 9 112 [.int .i64 0, .int .i64 0, .int .i64 0, .string ⟨#[]⟩, .string ⟨#[]⟩, .string ⟨#[]⟩, .int .i64 0, .slice none 0 0, .bool false]) := nr rfl
theorem ks_34 {e : Nat} {ls : List (List PV)} : lenA cx 34 (.p (.sl e ls)) = some ls.length := nr (len_sl ck_34)
theorem ko_34 {t e : Nat} {ls : List (List PV)} : lenA cx 34 (.own t e ls) = some ls.length := nr (len_own ck_34)
theorem kn_34 {t e : Nat} {ls : List (List PV)} : lenA cx 34 (.nown t e ls) = some ls.length := nr (len_nown ck_34)
theorem kz_34 : lenA cx 34 (.p (.v (.slice none 0 0))) = some 0 := nr (len_nil ck_34)
theorem cx_35 : cx.ty 35 = some ⟨14, true, [.int .i64 0, .string ⟨#[]⟩, .string ⟨#[]⟩, .slice none 0 0, .slice none 0 0, .slice none 0 0, .slice none 0 0, .slice none 0 0, .slice none 0 0, .slice none 0 0, .slice none 0 0, .int .i64 0, .slice none 0 0, .bool false], .struct [(0, 1, false), (1, 1, false), (2, 1, false), (3, 1, false), (4, 1, false), (5, 1, false), (6, 1, false), (7, 1, false), (8, 1, false), (9, 1, false), (10, 1, false), (11, 1, false), (12, 1, false), (13, 1, false)]⟩ := nr rfl
theorem ck_35 : cx.kind 35 = some (.struct [(0, 1, false), (1, 1, false), (2, 1, false), (3, 1, false), (4, 1, false), (5, 1, false), (6, 1, false), (7, 1, false), (8, 1, false), (9, 1, false), (10, 1, false), (11, 1, false), (12, 1, false), (13, 1, false)]) := nr rfl
theorem cx_36 : cx.ty 36 = some ⟨14, true, [.int .i64 0, .string ⟨#[]⟩, .string ⟨#[]⟩, .slice none 0 0, .slice none 0 0, .slice none 0 0, .slice none 0 0, .slice none 0 0, .slice none 0 0, .slice none 0 0, .slice none 0 0, .int .i64 0, .slice none 0 0, .bool false], .struct [(0, 1, false), (1, 1, false), (2, 1, false), (3, 1, false), (4, 1, false), (5, 1, false), (6, 1, false), (7, 1, false), (8, 1, false), (9, 1, false), (10, 1, false), (11, 1, false), (12, 1, false), (13, 1, false)]⟩ := nr rfl
theorem ck_36 : cx.kind 36 = some (.struct [(0, 1, false), (1, 1, false), (2, 1, false), (3, 1, false), (4, 1, false), (5, 1, false), (6, 1, false), (7, 1, false), (8, 1, false), (9, 1, false), (10, 1, false), (11, 1, false), (12, 1, false), (13, 1, false)]) := nr rfl
theorem cx_38 : cx.ty 38 = some ⟨1, false, [.nilFunc], .other⟩ := nr rfl
theorem ck_38 : cx.kind 38 = some (.other) := nr rfl
theorem cx_39 : cx.ty 39 = some ⟨1, false, [.slice none 0 0], .slice 48 3 64 [.string ⟨#[]⟩, .slice none 0 0, .slice none 0 0]⟩ := nr rfl
theorem ck_39 : cx.kind 39 = some (.slice 48 3 64 [.string ⟨#[]⟩, .slice none 0 0, .slice none 0 0]) := nr rfl
theorem ks_39 {e : Nat} {ls : List (List PV)} : lenA cx 39 (.p (.sl e ls)) = some ls.length := nr (len_sl ck_39)
theorem ko_39 {t e : Nat} {ls : List (List PV)} : lenA cx 39 (.own t e ls) = some ls.length := nr (len_own ck_39)
theorem kn_39 {t e : Nat} {ls : List (List PV)} : lenA cx 39 (.nown t e ls) = some ls.length := nr (len_nown ck_39)
theorem kz_39 : lenA cx 39 (.p (.v (.slice none 0 0))) = some 0 := nr (len_nil ck_39)
theorem cx_40 : cx.ty 40 = some ⟨1, false, [.int .i64 0], .int .i64⟩ := nr rfl
theorem ck_40 : cx.kind 40 = some (.int .i64) := nr rfl
theorem cx_42 : cx.ty 42 = some ⟨1, false, [.nilFunc], .other⟩ := nr rfl
theorem ck_42 : cx.kind 42 = some (.other) := nr rfl
theorem cx_43 : cx.ty 43 = some ⟨1, false, [.nilFunc], .other⟩ := nr rfl
theorem ck_43 : cx.kind 43 = some (.other) := nr rfl
theorem cx_44 : cx.ty 44 = some ⟨1, false, [.nilFunc], .other⟩ := nr rfl
theorem ck_44 : cx.kind 44 = some (.other) := nr rfl
theorem cx_45 : cx.ty 45 = some ⟨1, false, [.nilFunc], .other⟩ := nr rfl
theorem ck_45 : cx.kind 45 = some (.other) := nr rfl
theorem cx_46 : cx.ty 46 = some ⟨1, false, [.slice none 0 0], .slice 50 3 32 [.int .i64 0, .int .i64 0, .string ⟨#[]⟩]⟩ := nr rfl
theorem ck_46 : cx.kind 46 = some (.slice 50 3 32 [.int .i64 0, .int .i64 0, .string ⟨#[]⟩]) := nr rfl
theorem ks_46 {e : Nat} {ls : List (List PV)} : lenA cx 46 (.p (.sl e ls)) = some ls.length := nr (len_sl ck_46)
theorem ko_46 {t e : Nat} {ls : List (List PV)} : lenA cx 46 (.own t e ls) = some ls.length := nr (len_own ck_46)
theorem kn_46 {t e : Nat} {ls : List (List PV)} : lenA cx 46 (.nown t e ls) = some ls.length := nr (len_nown ck_46)
theorem kz_46 : lenA cx 46 (.p (.v (.slice none 0 0))) = some 0 := nr (len_nil ck_46)
theorem cx_47 : cx.ty 47 = some ⟨3, true, [.string ⟨#[]⟩, .slice none 0 0, .slice none 0 0], .struct [(0, 1, false), (1, 1, false), (2, 1, false)]⟩ := nr rfl
theorem ck_47 : cx.kind 47 = some (.struct [(0, 1, false), (1, 1, false), (2, 1, false)]) := nr rfl
theorem cx_48 : cx.ty 48 = some ⟨3, true, [.string ⟨#[]⟩, .slice none 0 0, .slice none 0 0], .struct [(0, 1, false), (1, 1, false), (2, 1, false)]⟩ := nr rfl
theorem ck_48 : cx.kind 48 = some (.struct [(0, 1, false), (1, 1, false), (2, 1, false)]) := nr rfl
theorem cx_49 : cx.ty 49 = some ⟨3, true, [.int .i64 0, .int .i64 0, .string ⟨#[]⟩], .struct [(0, 1, false), (1, 1, false), (2, 1, false)]⟩ := nr rfl
theorem ck_49 : cx.kind 49 = some (.struct [(0, 1, false), (1, 1, false), (2, 1, false)]) := nr rfl
theorem cx_50 : cx.ty 50 = some ⟨3, true, [.int .i64 0, .int .i64 0, .string ⟨#[]⟩], .struct [(0, 1, false), (1, 1, false), (2, 1, false)]⟩ := nr rfl
theorem ck_50 : cx.kind 50 = some (.struct [(0, 1, false), (1, 1, false), (2, 1, false)]) := nr rfl
theorem cx_51 : cx.ty 51 = some ⟨1, false, [.nilFunc], .other⟩ := nr rfl
theorem ck_51 : cx.kind 51 = some (.other) := nr rfl
theorem cx_52 : cx.ty 52 = some ⟨1, false, [.nilFunc], .other⟩ := nr rfl
theorem ck_52 : cx.kind 52 = some (.other) := nr rfl
theorem cx_53 : cx.ty 53 = some ⟨4, true, [.string ⟨#[]⟩, .int .i64 0, .bool false, .bool false], .struct [(0, 1, false), (1, 1, false), (2, 1, false), (3, 1, false)]⟩ := nr rfl
theorem ck_53 : cx.kind 53 = some (.struct [(0, 1, false), (1, 1, false), (2, 1, false), (3, 1, false)]) := nr rfl
theorem cx_54 : cx.ty 54 = some ⟨4, true, [.string ⟨#[]⟩, .int .i64 0, .bool false, .bool false], .struct [(0, 1, false), (1, 1, false), (2, 1, false), (3, 1, false)]⟩ := nr rfl
theorem ck_54 : cx.kind 54 = some (.struct [(0, 1, false), (1, 1, false), (2, 1, false), (3, 1, false)]) := nr rfl
theorem cx_56 : cx.ty 56 = some ⟨1, false, [.nilFunc], .other⟩ := nr rfl
theorem ck_56 : cx.kind 56 = some (.other) := nr rfl
theorem cx_58 : cx.ty 58 = some ⟨1, false, [.nilFunc], .other⟩ := nr rfl
theorem ck_58 : cx.kind 58 = some (.other) := nr rfl
theorem cx_59 : cx.ty 59 = some ⟨1, false, [.nilFunc], .other⟩ := nr rfl
theorem ck_59 : cx.kind 59 = some (.other) := nr rfl
theorem cx_60 : cx.ty 60 = some ⟨1, false, [.nilFunc], .other⟩ := nr rfl
theorem ck_60 : cx.kind 60 = some (.other) := nr rfl
theorem cx_61 : cx.ty 61 = some ⟨1, false, [.slice none 0 0], .slice 3 1 8 [.int .i64 0]⟩ := nr rfl
theorem ck_61 : cx.kind 61 = some (.slice 3 1 8 [.int .i64 0]) := nr rfl
theorem ks_61 {e : Nat} {ls : List (List PV)} : lenA cx 61 (.p (.sl e ls)) = some ls.length := nr (len_sl ck_61)
theorem ko_61 {t e : Nat} {ls : List (List PV)} : lenA cx 61 (.own t e ls) = some ls.length := nr (len_own ck_61)
theorem kn_61 {t e : Nat} {ls : List (List PV)} : lenA cx 61 (.nown t e ls) = some ls.length := nr (len_nown ck_61)
theorem kz_61 : lenA cx 61 (.p (.v (.slice none 0 0))) = some 0 := nr (len_nil ck_61)
theorem cx_63 : cx.ty 63 = some ⟨1, false, [.nilFunc], .other⟩ := nr rfl
theorem ck_63 : cx.kind 63 = some (.other) := nr rfl
theorem cx_65 : cx.ty 65 = some ⟨1, false, [.nilFunc], .other⟩ := nr rfl
theorem ck_65 : cx.kind 65 = some (.other) := nr rfl
theorem cx_66 : cx.ty 66 = some ⟨1, false, [.slice none 0 0], .slice 93 3 32 [.string ⟨#[]⟩, .string ⟨#[]⟩, .int .i64 0]⟩ := nr rfl
theorem ck_66 : cx.kind 66 = some (.slice 93 3 32 [.string ⟨#[]⟩, .string ⟨#[]⟩, .int .i64 0]) := nr rfl
theorem ks_66 {e : Nat} {ls : List (List PV)} : lenA cx 66 (.p (.sl e ls)) = some ls.length := nr (len_sl ck_66)
theorem ko_66 {t e : Nat} {ls : List (List PV)} : lenA cx 66 (.own t e ls) = some ls.length := nr (len_own ck_66)
theorem kn_66 {t e : Nat} {ls : List (List PV)} : lenA cx 66 (.nown t e ls) = some ls.length := nr (len_nown ck_66)
theorem kz_66 : lenA cx 66 (.p (.v (.slice none 0 0))) = some 0 := nr (len_nil ck_66)
theorem cx_67 : cx.ty 67 = some ⟨1, false, [.nilFunc], .other⟩ := nr rfl
theorem ck_67 : cx.kind 67 = some (.other) := nr rfl
theorem cx_68 : cx.ty 68 = some ⟨1, false, [.nilFunc], .other⟩ := nr rfl
theorem ck_68 : cx.kind 68 = some (.other) := nr rfl
theorem cx_70 : cx.ty 70 = some ⟨1, false, [.nilFunc], .other⟩ := nr rfl
theorem ck_70 : cx.kind 70 = some (.other) := nr rfl
theorem cx_71 : cx.ty 71 = some ⟨1, false, [.nilFunc], .other⟩ := nr rfl
theorem ck_71 : cx.kind 71 = some (.other) := nr rfl
theorem cx_72 : cx.ty 72 = some ⟨1, false, [.slice none 0 0], .slice 102 3 32 [.int .i64 0, .string ⟨#[]⟩, .int .i64 0]⟩ := nr rfl
theorem ck_72 : cx.kind 72 = some (.slice 102 3 32 [.int .i64 0, .string ⟨#[]⟩, .int .i64 0]) := nr rfl
theorem ks_72 {e : Nat} {ls : List (List PV)} : lenA cx 72 (.p (.sl e ls)) = some ls.length := nr (len_sl ck_72)
theorem ko_72 {t e : Nat} {ls : List (List PV)} : lenA cx 72 (.own t e ls) = some ls.length := nr (len_own ck_72)
theorem kn_72 {t e : Nat} {ls : List (List PV)} : lenA cx 72 (.nown t e ls) = some ls.length := nr (len_nown ck_72)
theorem kz_72 : lenA cx 72 (.p (.v (.slice none 0 0))) = some 0 := nr (len_nil ck_72)
theorem cx_74 : cx.ty 74 = some ⟨1, false, [.nilFunc], .other⟩ := nr rfl
theorem ck_74 : cx.kind 74 = some (.other) := nr rfl
theorem cx_75 : cx.ty 75 = some ⟨1, false, [.pointer none], .other⟩ := nr rfl
theorem ck_75 : cx.kind 75 = some (.other) := nr rfl
theorem cx_76 : cx.ty 76 = some ⟨3, true, [.slice none 0 0, .int .i64 0, .bool false], .struct [(0, 1, false), (1, 1, false), (2, 1, false)]⟩ := nr rfl
theorem ck_76 : cx.kind 76 = some (.struct [(0, 1, false), (1, 1, false), (2, 1, false)]) := nr rfl
theorem cx_77 : cx.ty 77 = some ⟨3, true, [.slice none 0 0, .int .i64 0, .bool false], .struct [(0, 1, false), (1, 1, false), (2, 1, false)]⟩ := nr rfl
theorem ck_77 : cx.kind 77 = some (.struct [(0, 1, false), (1, 1, false), (2, 1, false)]) := nr rfl
theorem cx_78 : cx.ty 78 = some ⟨1, false, [.nilFunc], .other⟩ := nr rfl
theorem ck_78 : cx.kind 78 = some (.other) := nr rfl
theorem cx_79 : cx.ty 79 = some ⟨1, false, [.nilFunc], .other⟩ := nr rfl
theorem ck_79 : cx.kind 79 = some (.other) := nr rfl
theorem cx_80 : cx.ty 80 = some ⟨1, false, [.nilFunc], .other⟩ := nr rfl
theorem ck_80 : cx.kind 80 = some (.other) := nr rfl
theorem cx_81 : cx.ty 81 = some ⟨1, false, [.nilFunc], .other⟩ := nr rfl
theorem ck_81 : cx.kind 81 = some (.other) := nr rfl
theorem cx_82 : cx.ty 82 = some ⟨1, false, [.nilFunc], .other⟩ := nr rfl
theorem ck_82 : cx.kind 82 = some (.other) := nr rfl
theorem cx_83 : cx.ty 83 = some ⟨1, false, [.nilFunc], .other⟩ := nr rfl
theorem ck_83 : cx.kind 83 = some (.other) := nr rfl
theorem cx_84 : cx.ty 84 = some ⟨1, false, [.nilFunc], .other⟩ := nr rfl
theorem ck_84 : cx.kind 84 = some (.other) := nr rfl
theorem cx_85 : cx.ty 85 = some ⟨8, true, [.int .i64 0, .int .i64 0, .int .i64 0, .string ⟨#[]⟩, .string ⟨#[]⟩, .string ⟨#[]⟩, .int .i64 0, .slice none 0 0], .struct [(0, 1, false), (1, 3, true), (4, 1, false), (5, 1, false), (6, 1, false), (7, 1, false)]⟩ := nr rfl
theorem ck_85 : cx.kind 85 = some (.struct [(0, 1, false), (1, 3, true), (4, 1, false), (5, 1, false), (6, 1, false), (7, 1, false)]) := nr rfl
theorem cx_86 : cx.ty 86 = some ⟨8, true, [.int .i64 0, .int .i64 0, .int .i64 0, .string ⟨#[]⟩, .string ⟨#[]⟩, .string ⟨#[]⟩, .int .i64 0, .slice none 0 0], .struct [(0, 1, false), (1, 3, true), (4, 1, false), (5, 1, false), (6, 1, false), (7, 1, false)]⟩ := nr rfl
theorem ck_86 : cx.kind 86 = some (.struct [(0, 1, false), (1, 3, true), (4, 1, false), (5, 1, false), (6, 1, false), (7, 1, false)]) := nr rfl
theorem cx_87 : cx.ty 87 = some ⟨1, false, [.nilFunc], .other⟩ := nr rfl
theorem ck_87 : cx.kind 87 = some (.other) := nr rfl
theorem cx_88 : cx.ty 88 = some ⟨1, false, [.nilFunc], .other⟩ := nr rfl
theorem ck_88 : cx.kind 88 = some (.other) := nr rfl
theorem cx_89 : cx.ty 89 = some ⟨1, false, [.nilFunc], .other⟩ := nr rfl
theorem ck_89 : cx.kind 89 = some (.other) := nr rfl
theorem cx_91 : cx.ty 91 = some ⟨1, false, [.nilFunc], .other⟩ := nr rfl
theorem ck_91 : cx.kind 91 = some (.other) := nr rfl
theorem cx_92 : cx.ty 92 = some ⟨3, true, [.string ⟨#[]⟩, .string ⟨#[]⟩, .int .i64 0], .struct [(0, 1, false), (1, 1, false), (2, 1, false)]⟩ := nr rfl
theorem ck_92 : cx.kind 92 = some (.struct [(0, 1, false), (1, 1, false), (2, 1, false)]) := nr rfl
theorem cx_93 : cx.ty 93 = some ⟨3, true, [.string ⟨#[]⟩, .string ⟨#[]⟩, .int .i64 0], .struct [(0, 1, false), (1, 1, false), (2, 1, false)]⟩ := nr rfl
theorem ck_93 : cx.kind 93 = some (.struct [(0, 1, false), (1, 1, false), (2, 1, false)]) := nr rfl
theorem cx_94 : cx.ty 94 = some ⟨1, false, [.nilFunc], .other⟩ := nr rfl
theorem ck_94 : cx.kind 94 = some (.other) := nr rfl
theorem cx_95 : cx.ty 95 = some ⟨1, false, [.nilFunc], .other⟩ := nr rfl
theorem ck_95 : cx.kind 95 = some (.other) := nr rfl
theorem cx_96 : cx.ty 96 = some ⟨1, false, [.nilFunc], .other⟩ := nr rfl
theorem ck_96 : cx.kind 96 = some (.other) := nr rfl
theorem cx_98 : cx.ty 98 = some ⟨1, false, [.nilFunc], .other⟩ := nr rfl
theorem ck_98 : cx.kind 98 = some (.other) := nr rfl
theorem cx_99 : cx.ty 99 = some ⟨1, false, [.nilFunc], .other⟩ := nr rfl
theorem ck_99 : cx.kind 99 = some (.other) := nr rfl
theorem cx_100 : cx.ty 100 = some ⟨1, false, [.nilFunc], .other⟩ := nr rfl
theorem ck_100 : cx.kind 100 = some (.other) := nr rfl
theorem cx_101 : cx.ty 101 = some ⟨3, true, [.int .i64 0, .string ⟨#[]⟩, .int .i64 0], .struct [(0, 1, false), (1, 1, false), (2, 1, false)]⟩ := nr rfl
theorem ck_101 : cx.kind 101 = some (.struct [(0, 1, false), (1, 1, false), (2, 1, false)]) := nr rfl
theorem cx_102 : cx.ty 102 = some ⟨3, true, [.int .i64 0, .string ⟨#[]⟩, .int .i64 0], .struct [(0, 1, false), (1, 1, false), (2, 1, false)]⟩ := nr rfl
theorem ck_102 : cx.kind 102 = some (.struct [(0, 1, false), (1, 1, false), (2, 1, false)]) := nr rfl
theorem cx_104 : cx.ty 104 = some ⟨1, false, [.nilFunc], .other⟩ := nr rfl
theorem ck_104 : cx.kind 104 = some (.other) := nr rfl
theorem cx_106 : cx.ty 106 = some ⟨1, false, [.nilFunc], .other⟩ := nr rfl
theorem ck_106 : cx.kind 106 = some (.other) := nr rfl
theorem cx_108 : cx.ty 108 = some ⟨1, false, [.nilFunc], .other⟩ := nr rfl
theorem ck_108 : cx.kind 108 = some (.other) := nr rfl
theorem cx_109 : cx.ty 109 = some ⟨1, false, [.nilFunc], .other⟩ := nr rfl
theorem ck_109 : cx.kind 109 = some (.other) := nr rfl
theorem cx_110 : cx.ty 110 = some ⟨1, false, [.nilFunc], .other⟩ := nr rfl
theorem ck_110 : cx.kind 110 = some (.other) := nr rfl
theorem cx_111 : cx.ty 111 = some ⟨1, false, [.nilFunc], .other⟩ := nr rfl
theorem ck_111 : cx.kind 111 = some (.other) := nr rfl
theorem cx_112 : cx.ty 112 = some ⟨9, true, [.bool false, .int .i64 0, .int .i64 0, .int .i64 0, .string ⟨#[]⟩, .string ⟨#[]⟩, .string ⟨#[]⟩, .int .i64 0, .slice none 0 0], .struct [(0, 1, false), (1, 8, true)]⟩ := nr rfl
theorem ck_112 : cx.kind 112 = some (.struct [(0, 1, false), (1, 8, true)]) := nr rfl
theorem cx_113 : cx.ty 113 = some ⟨9, true, [.bool false, .int .i64 0, .int .i64 0, .int .i64 0, .string ⟨#[]⟩, .string ⟨#[]⟩, .string ⟨#[]⟩, .int .i64 0, .slice none 0 0], .struct [(0, 1, false), (1, 8, true)]⟩ := nr rfl
theorem ck_113 : cx.kind 113 = some (.struct [(0, 1, false), (1, 8, true)]) := nr rfl
theorem cx_114 : cx.ty 114 = some ⟨1, false, [.nilFunc], .other⟩ := nr rfl
theorem ck_114 : cx.kind 114 = some (.other) := nr rfl
theorem cx_115 : cx.ty 115 = some ⟨3, true, [.string ⟨#[]⟩, .string ⟨#[]⟩, .slice none 0 0], .struct [(0, 1, false), (1, 1, false), (2, 1, false)]⟩ := nr rfl
theorem ck_115 : cx.kind 115 = some (.struct [(0, 1, false), (1, 1, false), (2, 1, false)]) := nr rfl
theorem cx_116 : cx.ty 116 = some ⟨3, true, [.string ⟨#[]⟩, .string ⟨#[]⟩, .slice none 0 0], .struct [(0, 1, false), (1, 1, false), (2, 1, false)]⟩ := nr rfl
theorem ck_116 : cx.kind 116 = some (.struct [(0, 1, false), (1, 1, false), (2, 1, false)]) := nr rfl
theorem cx_117 : cx.ty 117 = some ⟨1, false, [.nilFunc], .other⟩ := nr rfl
theorem ck_117 : cx.kind 117 = some (.other) := nr rfl
theorem cx_118 : cx.ty 118 = some ⟨1, false, [.nilFunc], .other⟩ := nr rfl
theorem ck_118 : cx.kind 118 = some (.other) := nr rfl
theorem cx_119 : cx.ty 119 = some ⟨9, true, [.int .i64 0, .int .i64 0, .int .i64 0, .string ⟨#[]⟩, .string ⟨#[]⟩, .string ⟨#[]⟩, .int .i64 0, .slice none 0 0, .bool false], .struct [(0, 8, true), (8, 1, false)]⟩ := nr rfl
theorem ck_119 : cx.kind 119 = some (.struct [(0, 8, true), (8, 1, false)]) := nr rfl
theorem cx_120 : cx.ty 120 = some ⟨9, true, [.int .i64 0, .int .i64 0, .int .i64 0, .string ⟨#[]⟩, .string ⟨#[]⟩, .string ⟨#[]⟩, .int .i64 0, .slice none 0 0, .bool false], .struct [(0, 8, true), (8, 1, false)]⟩ := nr rfl
theorem ck_120 : cx.kind 120 = some (.struct [(0, 8, true), (8, 1, false)]) := nr rfl
theorem cx_121 : cx.ty 121 = some ⟨1, false, [.nilFunc], .other⟩ := nr rfl
theorem ck_121 : cx.kind 121 = some (.other) := nr rfl
theorem cx_122 : cx.ty 122 = some ⟨1, false, [.nilFunc], .other⟩ := nr rfl
theorem ck_122 : cx.kind 122 = some (.other) := nr rfl
theorem cx_123 : cx.ty 123 = some ⟨1, false, [.nilFunc], .other⟩ := nr rfl
theorem ck_123 : cx.kind 123 = some (.other) := nr rfl
theorem cx_124 : cx.ty 124 = some ⟨1, false, [.nilFunc], .other⟩ := nr rfl
theorem ck_124 : cx.kind 124 = some (.other) := nr rfl
theorem cx_125 : cx.ty 125 = some ⟨1, false, [.nilFunc], .other⟩ := nr rfl
theorem ck_125 : cx.kind 125 = some (.other) := nr rfl
theorem cx_127 : cx.ty 127 = some ⟨1, false, [.nilFunc], .other⟩ := nr rfl
theorem ck_127 : cx.kind 127 = some (.other) := nr rfl
theorem cx_129 : cx.ty 129 = some ⟨1, false, [.nilFunc], .other⟩ := nr rfl
theorem ck_129 : cx.kind 129 = some (.other) := nr rfl
theorem cx_130 : cx.ty 130 = some ⟨1, false, [.int .i64 0], .int .i64⟩ := nr rfl
theorem ck_130 : cx.kind 130 = some (.int .i64) := nr rfl
theorem cx_132 : cx.ty 132 = some ⟨1, false, [.nilFunc], .other⟩ := nr rfl
theorem ck_132 : cx.kind 132 = some (.other) := nr rfl
theorem cx_133 : cx.ty 133 = some ⟨1, false, [.nilFunc], .other⟩ := nr rfl
theorem ck_133 : cx.kind 133 = some (.other) := nr rfl
theorem cx_134 : cx.ty 134 = some ⟨1, false, [.nilFunc], .other⟩ := nr rfl
theorem ck_134 : cx.kind 134 = some (.other) := nr rfl
theorem cx_135 : cx.ty 135 = some ⟨1, false, [.pointer none], .other⟩ := nr rfl
theorem ck_135 : cx.kind 135 = some (.other) := nr rfl
theorem cx_136 : cx.ty 136 = some ⟨2, true, [.slice none 0 0, .int .i64 0], .struct [(0, 1, false), (1, 1, false)]⟩ := nr rfl
theorem ck_136 : cx.kind 136 = some (.struct [(0, 1, false), (1, 1, false)]) := nr rfl
theorem cx_137 : cx.ty 137 = some ⟨2, true, [.slice none 0 0, .int .i64 0], .struct [(0, 1, false), (1, 1, false)]⟩ := nr rfl
theorem ck_137 : cx.kind 137 = some (.struct [(0, 1, false), (1, 1, false)]) := nr rfl
theorem cx_138 : cx.ty 138 = some ⟨1, false, [.nilFunc], .other⟩ := nr rfl
theorem ck_138 : cx.kind 138 = some (.other) := nr rfl
theorem cx_139 : cx.ty 139 = some ⟨1, false, [.slice none 0 0], .slice 5 1 1 [.int .u8 0]⟩ := nr rfl
theorem ck_139 : cx.kind 139 = some (.slice 5 1 1 [.int .u8 0]) := nr rfl
theorem ks_139 {e : Nat} {ls : List (List PV)} : lenA cx 139 (.p (.sl e ls)) = some ls.length := nr (len_sl ck_139)
theorem ko_139 {t e : Nat} {ls : List (List PV)} : lenA cx 139 (.own t e ls) = some ls.length := nr (len_own ck_139)
theorem kn_139 {t e : Nat} {ls : List (List PV)} : lenA cx 139 (.nown t e ls) = some ls.length := nr (len_nown ck_139)
theorem kz_139 : lenA cx 139 (.p (.v (.slice none 0 0))) = some 0 := nr (len_nil ck_139)
theorem cx_141 : cx.ty 141 = some ⟨1, false, [.nilFunc], .other⟩ := nr rfl
theorem ck_141 : cx.kind 141 = some (.other) := nr rfl
theorem cx_142 : cx.ty 142 = some ⟨1, false, [.nilFunc], .other⟩ := nr rfl
theorem ck_142 : cx.kind 142 = some (.other) := nr rfl
theorem cx_143 : cx.ty 143 = some ⟨1, false, [.nilFunc], .other⟩ := nr rfl
theorem ck_143 : cx.kind 143 = some (.other) := nr rfl
theorem cx_144 : cx.ty 144 = some ⟨1, false, [.int .u64 0], .int .u64⟩ := nr rfl
theorem ck_144 : cx.kind 144 = some (.int .u64) := nr rfl
theorem cx_145 : cx.ty 145 = some ⟨1, false, [.nilFunc], .other⟩ := nr rfl
theorem ck_145 : cx.kind 145 = some (.other) := nr rfl
theorem cx_146 : cx.ty 146 = some ⟨1, false, [.nilFunc], .other⟩ := nr rfl
theorem ck_146 : cx.kind 146 = some (.other) := nr rfl
theorem cx_148 : cx.ty 148 = some ⟨1, false, [.nilFunc], .other⟩ := nr rfl
theorem ck_148 : cx.kind 148 = some (.other) := nr rfl
theorem cx_149 : cx.ty 149 = some ⟨1, false, [.int .u64 0], .int .u64⟩ := nr rfl
theorem ck_149 : cx.kind 149 = some (.int .u64) := nr rfl
theorem cx_150 : cx.ty 150 = some ⟨1, false, [.nilFunc], .other⟩ := nr rfl
theorem ck_150 : cx.kind 150 = some (.other) := nr rfl
theorem cx_151 : cx.ty 151 = some ⟨1, false, [.pointer none], .other⟩ := nr rfl
theorem ck_151 : cx.kind 151 = some (.other) := nr rfl
theorem cx_152 : cx.ty 152 = some ⟨1, false, [.nilFunc], .other⟩ := nr rfl
theorem ck_152 : cx.kind 152 = some (.other) := nr rfl
theorem cx_153 : cx.ty 153 = some ⟨1, false, [.slice none 0 0], .slice 138 1 8 [.nilFunc]⟩ := nr rfl
theorem ck_153 : cx.kind 153 = some (.slice 138 1 8 [.nilFunc]) := nr rfl
theorem ks_153 {e : Nat} {ls : List (List PV)} : lenA cx 153 (.p (.sl e ls)) = some ls.length := nr (len_sl ck_153)
theorem ko_153 {t e : Nat} {ls : List (List PV)} : lenA cx 153 (.own t e ls) = some ls.length := nr (len_own ck_153)
theorem kn_153 {t e : Nat} {ls : List (List PV)} : lenA cx 153 (.nown t e ls) = some ls.length := nr (len_nown ck_153)
theorem kz_153 : lenA cx 153 (.p (.v (.slice none 0 0))) = some 0 := nr (len_nil ck_153)
theorem cx_154 : cx.ty 154 = some ⟨1, false, [.nilFunc], .other⟩ := nr rfl
theorem ck_154 : cx.kind 154 = some (.other) := nr rfl
theorem cx_155 : cx.ty 155 = some ⟨4, true, [.string ⟨#[]⟩, .string ⟨#[]⟩, .string ⟨#[]⟩, .string ⟨#[]⟩], .arr 4 1 false⟩ := nr rfl
theorem ck_155 : cx.kind 155 = some (.arr 4 1 false) := nr rfl
theorem cx_156 : cx.ty 156 = some ⟨13, true, [.string ⟨#[]⟩, .string ⟨#[]⟩, .string ⟨#[]⟩, .string ⟨#[]⟩, .string ⟨#[]⟩, .string ⟨#[]⟩, .string ⟨#[]⟩, .string ⟨#[]⟩, .string ⟨#[]⟩, .string ⟨#[]⟩, .string ⟨#[]⟩, .string ⟨#[]⟩, .string ⟨#[]⟩], .arr 13 1 false⟩ := nr rfl
theorem ck_156 : cx.kind 156 = some (.arr 13 1 false) := nr rfl
theorem cx_157 : cx.ty 157 = some ⟨13, true, [.int .i64 0, .int .i64 0, .int .i64 0, .int .i64 0, .int .i64 0, .int .i64 0, .int .i64 0, .int .i64 0, .int .i64 0, .int .i64 0, .int .i64 0, .int .i64 0, .int .i64 0], .arr 13 1 false⟩ := nr rfl
theorem ck_157 : cx.kind 157 = some (.arr 13 1 false) := nr rfl
theorem cx_158 : cx.ty 158 = some ⟨1, false, [.nilFunc], .other⟩ := nr rfl
theorem ck_158 : cx.kind 158 = some (.other) := nr rfl
theorem cx_159 : cx.ty 159 = some ⟨1, false, [.nilFunc], .other⟩ := nr rfl
theorem ck_159 : cx.kind 159 = some (.other) := nr rfl
theorem cx_160 : cx.ty 160 = some ⟨1, false, [.nilFunc], .other⟩ := nr rfl
theorem ck_160 : cx.kind 160 = some (.other) := nr rfl
theorem cx_161 : cx.ty 161 = some ⟨1, false, [.nilFunc], .other⟩ := nr rfl
theorem ck_161 : cx.kind 161 = some (.other) := nr rfl
theorem cx_162 : cx.ty 162 = some ⟨1, false, [.nilFunc], .other⟩ := nr rfl
theorem ck_162 : cx.kind 162 = some (.other) := nr rfl
theorem cx_163 : cx.ty 163 = some ⟨1, false, [.slice none 0 0], .slice 4 1 1 [.bool false]⟩ := nr rfl
theorem ck_163 : cx.kind 163 = some (.slice 4 1 1 [.bool false]) := nr rfl
theorem ks_163 {e : Nat} {ls : List (List PV)} : lenA cx 163 (.p (.sl e ls)) = some ls.length := nr (len_sl ck_163)
theorem ko_163 {t e : Nat} {ls : List (List PV)} : lenA cx 163 (.own t e ls) = some ls.length := nr (len_own ck_163)
theorem kn_163 {t e : Nat} {ls : List (List PV)} : lenA cx 163 (.nown t e ls) = some ls.length := nr (len_nown ck_163)
theorem kz_163 : lenA cx 163 (.p (.v (.slice none 0 0))) = some 0 := nr (len_nil ck_163)
theorem cx_164 : cx.ty 164 = some ⟨1, false, [.nilFunc], .other⟩ := nr rfl
theorem ck_164 : cx.kind 164 = some (.other) := nr rfl
theorem cx_165 : cx.ty 165 = some ⟨1, false, [.nilFunc], .other⟩ := nr rfl
theorem ck_165 : cx.kind 165 = some (.other) := nr rfl
theorem cx_166 : cx.ty 166 = some ⟨1, false, [.nilFunc], .other⟩ := nr rfl
theorem ck_166 : cx.kind 166 = some (.other) := nr rfl
theorem cx_167 : cx.ty 167 = some ⟨1, false, [.nilFunc], .other⟩ := nr rfl
theorem ck_167 : cx.kind 167 = some (.other) := nr rfl
theorem cx_168 : cx.ty 168 = some ⟨1, false, [.nilFunc], .other⟩ := nr rfl
theorem ck_168 : cx.kind 168 = some (.other) := nr rfl
theorem cx_174 : cx.ty 174 = some ⟨1, false, [.nilFunc], .other⟩ := nr rfl
theorem ck_174 : cx.kind 174 = some (.other) := nr rfl
theorem cx_175 : cx.ty 175 = some ⟨1, false, [.int .u32 0], .int .u32⟩ := nr rfl
theorem ck_175 : cx.kind 175 = some (.int .u32) := nr rfl
theorem cx_178 : cx.ty 178 = some ⟨1, false, [.nilFunc], .other⟩ := nr rfl
theorem ck_178 : cx.kind 178 = some (.other) := nr rfl
theorem cx_179 : cx.ty 179 = some ⟨1, false, [.pointer none], .other⟩ := nr rfl
theorem ck_179 : cx.kind 179 = some (.other) := nr rfl
theorem ce_50 : cx.eqs 50 = some [.int, .int, .str] := nr rfl
theorem ce_54 : cx.eqs 54 = some [.str, .int, .bool, .bool] := nr rfl
theorem ce_93 : cx.eqs 93 = some [.str, .str, .int] := nr rfl
theorem ce_102 : cx.eqs 102 = some [.int, .str, .int] := nr rfl
theorem ca_4_1_false : arrF 4 1 false = [(0, 1, false), (1, 1, false), (2, 1, false), (3, 1, false)] := nr rfl
theorem ca_13_1_false : arrF 13 1 false = [(0, 1, false), (1, 1, false), (2, 1, false), (3, 1, false), (4, 1, false), (5, 1, false), (6, 1, false), (7, 1, false), (8, 1, false), (9, 1, false), (10, 1, false), (11, 1, false), (12, 1, false)] := nr rfl
theorem cx_arr : (type_of% ca_4_1_false) ∧ (type_of% ca_13_1_false) := ⟨ca_4_1_false, ca_13_1_false⟩
end Go.Proofs.Ytcnkmandddfdmaa
