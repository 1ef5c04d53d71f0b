/- The table of types of this program, for the abstract machine. -/
import Derived.Test.YtcnkmandddfdmaaM16
import Derived.Test.YtcnkmandddfdmaaRows
set_option linter.unusedSimpArgs false
set_option linter.unusedVariables false
set_option linter.defProp false
set_option maxRecDepth 100000
set_option maxHeartbeats 32000000
namespace Go.Proofs.Ytcnkmandddfdmaa
def cxL : List (TypeId × TI) := [
 (1, ⟨1, false, [.nilFunc], .other⟩),
 (2, ⟨1, false, [.int .i64 0], .int .i64⟩),
 (3, ⟨1, false, [.int .i64 0], .int .i64⟩),
 (4, ⟨1, false, [.bool false], .bool⟩),
 (5, ⟨1, false, [.int .u8 0], .int .u8⟩),
 (9, ⟨1, false, [.string ⟨#[]⟩], .str⟩),
 (12, ⟨1, false, [.int .u64 0], .int .u64⟩),
 (13, ⟨2, true, [.string ⟨#[]⟩, .int .u64 0], .struct [(0, 1, false), (1, 1, false)]⟩),
 (19, ⟨1, true, [.pointer none], .struct [(0, 1, false)]⟩),
 (21, ⟨1, false, [.int .i32 0], .int .i32⟩),
 (22, ⟨1, false, [.slice none 0 0], .slice 54 4 32 [.string ⟨#[]⟩, .int .i64 0, .bool false, .bool false]⟩),
 (23, ⟨2, true, [.string ⟨#[]⟩, .slice none 0 0], .struct [(0, 1, false), (1, 1, false)]⟩),
 (24, ⟨2, true, [.string ⟨#[]⟩, .slice none 0 0], .struct [(0, 1, false), (1, 1, false)]⟩),
 (25, ⟨1, false, [.slice none 0 0], .slice 46 1 24 [.slice none 0 0]⟩),
 (26, ⟨4, true, [.string ⟨#[]⟩, .string ⟨#[]⟩, .slice none 0 0, .slice none 0 0], .struct [(0, 1, false), (1, 2, true), (3, 1, false)]⟩),
 (27, ⟨4, true, [.string ⟨#[]⟩, .string ⟨#[]⟩, .slice none 0 0, .slice none 0 0], .struct [(0, 1, false), (1, 2, true), (3, 1, false)]⟩),
 (28, ⟨1, false, [.nilFunc], .other⟩),
 (29, ⟨1, false, [.slice none 0 0], .slice 9 1 16 [.string ⟨#[]⟩]⟩),
 (30, ⟨1, false, [.slice none 0 0], .slice 33 1 24 [.slice none 0 0]⟩),
 (31, ⟨1, false, [.slice none 0 0], .slice 113 9 112 [.bool false, .int .i64 0, .int .i64 0, .int .i64 0, .string ⟨#[]⟩, .string ⟨#[]⟩, .string ⟨#[]⟩, .int .i64 0, .slice none 0 0]⟩),
 (32, ⟨1, false, [.slice none 0 0], .slice 116 3 56 [.string ⟨#[]⟩, .string ⟨#[]⟩, .slice none 0 0]⟩),
 (33, ⟨1, false, [.slice none 0 0], .slice 86 8 104 [.int .i64 0, .int .i64 0, .int .i64 0, .string ⟨#[]⟩, .string ⟨#[]⟩, .string ⟨#[]⟩, .int .i64 0, .slice none 0 0]⟩),
 (34, ⟨1, false, [.slice none 0 0], .slice 120 9 112 [.int .i64 0, .int .i64 0, .int .i64 0, .string ⟨#[]⟩, .string ⟨#[]⟩, .string ⟨#[]⟩, .int .i64 0, .slice none 0 0, .bool false]⟩),
 (35, ⟨14, true, [.int .i64 0, .string ⟨#[]⟩, .string ⟨#[]⟩, .slice none 0 0, .slice none 0 0, .slice none 0 0, .slice none 0 0, .slice none 0 0, .slice none 0 0, .slice none 0 0, .slice none 0 0, .int .i64 0, .slice none 0 0, .bool false], .struct [(0, 1, false), (1, 1, false), (2, 1, false), (3, 1, false), (4, 1, false), (5, 1, false), (6, 1, false), (7, 1, false), (8, 1, false), (9, 1, false), (10, 1, false), (11, 1, false), (12, 1, false), (13, 1, false)]⟩),
 (36, ⟨14, true, [.int .i64 0, .string ⟨#[]⟩, .string ⟨#[]⟩, .slice none 0 0, .slice none 0 0, .slice none 0 0, .slice none 0 0, .slice none 0 0, .slice none 0 0, .slice none 0 0, .slice none 0 0, .int .i64 0, .slice none 0 0, .bool false], .struct [(0, 1, false), (1, 1, false), (2, 1, false), (3, 1, false), (4, 1, false), (5, 1, false), (6, 1, false), (7, 1, false), (8, 1, false), (9, 1, false), (10, 1, false), (11, 1, false), (12, 1, false), (13, 1, false)]⟩),
 (38, ⟨1, false, [.nilFunc], .other⟩),
 (39, ⟨1, false, [.slice none 0 0], .slice 48 3 64 [.string ⟨#[]⟩, .slice none 0 0, .slice none 0 0]⟩),
 (40, ⟨1, false, [.int .i64 0], .int .i64⟩),
 (42, ⟨1, false, [.nilFunc], .other⟩),
 (43, ⟨1, false, [.nilFunc], .other⟩),
 (44, ⟨1, false, [.nilFunc], .other⟩),
 (45, ⟨1, false, [.nilFunc], .other⟩),
 (46, ⟨1, false, [.slice none 0 0], .slice 50 3 32 [.int .i64 0, .int .i64 0, .string ⟨#[]⟩]⟩),
 (47, ⟨3, true, [.string ⟨#[]⟩, .slice none 0 0, .slice none 0 0], .struct [(0, 1, false), (1, 1, false), (2, 1, false)]⟩),
 (48, ⟨3, true, [.string ⟨#[]⟩, .slice none 0 0, .slice none 0 0], .struct [(0, 1, false), (1, 1, false), (2, 1, false)]⟩),
 (49, ⟨3, true, [.int .i64 0, .int .i64 0, .string ⟨#[]⟩], .struct [(0, 1, false), (1, 1, false), (2, 1, false)]⟩),
 (50, ⟨3, true, [.int .i64 0, .int .i64 0, .string ⟨#[]⟩], .struct [(0, 1, false), (1, 1, false), (2, 1, false)]⟩),
 (51, ⟨1, false, [.nilFunc], .other⟩),
 (52, ⟨1, false, [.nilFunc], .other⟩),
 (53, ⟨4, true, [.string ⟨#[]⟩, .int .i64 0, .bool false, .bool false], .struct [(0, 1, false), (1, 1, false), (2, 1, false), (3, 1, false)]⟩),
 (54, ⟨4, true, [.string ⟨#[]⟩, .int .i64 0, .bool false, .bool false], .struct [(0, 1, false), (1, 1, false), (2, 1, false), (3, 1, false)]⟩),
 (56, ⟨1, false, [.nilFunc], .other⟩),
 (58, ⟨1, false, [.nilFunc], .other⟩),
 (59, ⟨1, false, [.nilFunc], .other⟩),
 (60, ⟨1, false, [.nilFunc], .other⟩),
 (61, ⟨1, false, [.slice none 0 0], .slice 3 1 8 [.int .i64 0]⟩),
 (63, ⟨1, false, [.nilFunc], .other⟩),
 (65, ⟨1, false, [.nilFunc], .other⟩),
 (66, ⟨1, false, [.slice none 0 0], .slice 93 3 32 [.string ⟨#[]⟩, .string ⟨#[]⟩, .int .i64 0]⟩),
 (67, ⟨1, false, [.nilFunc], .other⟩),
 (68, ⟨1, false, [.nilFunc], .other⟩),
 (70, ⟨1, false, [.nilFunc], .other⟩),
 (71, ⟨1, false, [.nilFunc], .other⟩),
 (72, ⟨1, false, [.slice none 0 0], .slice 102 3 32 [.int .i64 0, .string ⟨#[]⟩, .int .i64 0]⟩),
 (74, ⟨1, false, [.nilFunc], .other⟩),
 (75, ⟨1, false, [.pointer none], .other⟩),
 (76, ⟨3, true, [.slice none 0 0, .int .i64 0, .bool false], .struct [(0, 1, false), (1, 1, false), (2, 1, false)]⟩),
 (77, ⟨3, true, [.slice none 0 0, .int .i64 0, .bool false], .struct [(0, 1, false), (1, 1, false), (2, 1, false)]⟩),
 (78, ⟨1, false, [.nilFunc], .other⟩),
 (79, ⟨1, false, [.nilFunc], .other⟩),
 (80, ⟨1, false, [.nilFunc], .other⟩),
 (81, ⟨1, false, [.nilFunc], .other⟩),
 (82, ⟨1, false, [.nilFunc], .other⟩),
 (83, ⟨1, false, [.nilFunc], .other⟩),
 (84, ⟨1, false, [.nilFunc], .other⟩),
 (85, ⟨8, true, [.int .i64 0, .int .i64 0, .int .i64 0, .string ⟨#[]⟩, .string ⟨#[]⟩, .string ⟨#[]⟩, .int .i64 0, .slice none 0 0], .struct [(0, 1, false), (1, 3, true), (4, 1, false), (5, 1, false), (6, 1, false), (7, 1, false)]⟩),
 (86, ⟨8, true, [.int .i64 0, .int .i64 0, .int .i64 0, .string ⟨#[]⟩, .string ⟨#[]⟩, .string ⟨#[]⟩, .int .i64 0, .slice none 0 0], .struct [(0, 1, false), (1, 3, true), (4, 1, false), (5, 1, false), (6, 1, false), (7, 1, false)]⟩),
 (87, ⟨1, false, [.nilFunc], .other⟩),
 (88, ⟨1, false, [.nilFunc], .other⟩),
 (89, ⟨1, false, [.nilFunc], .other⟩),
 (91, ⟨1, false, [.nilFunc], .other⟩),
 (92, ⟨3, true, [.string ⟨#[]⟩, .string ⟨#[]⟩, .int .i64 0], .struct [(0, 1, false), (1, 1, false), (2, 1, false)]⟩),
 (93, ⟨3, true, [.string ⟨#[]⟩, .string ⟨#[]⟩, .int .i64 0], .struct [(0, 1, false), (1, 1, false), (2, 1, false)]⟩),
 (94, ⟨1, false, [.nilFunc], .other⟩),
 (95, ⟨1, false, [.nilFunc], .other⟩),
 (96, ⟨1, false, [.nilFunc], .other⟩),
 (98, ⟨1, false, [.nilFunc], .other⟩),
 (99, ⟨1, false, [.nilFunc], .other⟩),
 (100, ⟨1, false, [.nilFunc], .other⟩),
 (101, ⟨3, true, [.int .i64 0, .string ⟨#[]⟩, .int .i64 0], .struct [(0, 1, false), (1, 1, false), (2, 1, false)]⟩),
 (102, ⟨3, true, [.int .i64 0, .string ⟨#[]⟩, .int .i64 0], .struct [(0, 1, false), (1, 1, false), (2, 1, false)]⟩),
 (104, ⟨1, false, [.nilFunc], .other⟩),
 (106, ⟨1, false, [.nilFunc], .other⟩),
 (108, ⟨1, false, [.nilFunc], .other⟩),
 (109, ⟨1, false, [.nilFunc], .other⟩),
 (110, ⟨1, false, [.nilFunc], .other⟩),
 (111, ⟨1, false, [.nilFunc], .other⟩),
 (112, ⟨9, true, [.bool false, .int .i64 0, .int .i64 0, .int .i64 0, .string ⟨#[]⟩, .string ⟨#[]⟩, .string ⟨#[]⟩, .int .i64 0, .slice none 0 0], .struct [(0, 1, false), (1, 8, true)]⟩),
 (113, ⟨9, true, [.bool false, .int .i64 0, .int .i64 0, .int .i64 0, .string ⟨#[]⟩, .string ⟨#[]⟩, .string ⟨#[]⟩, .int .i64 0, .slice none 0 0], .struct [(0, 1, false), (1, 8, true)]⟩),
 (114, ⟨1, false, [.nilFunc], .other⟩),
 (115, ⟨3, true, [.string ⟨#[]⟩, .string ⟨#[]⟩, .slice none 0 0], .struct [(0, 1, false), (1, 1, false), (2, 1, false)]⟩),
 (116, ⟨3, true, [.string ⟨#[]⟩, .string ⟨#[]⟩, .slice none 0 0], .struct [(0, 1, false), (1, 1, false), (2, 1, false)]⟩),
 (117, ⟨1, false, [.nilFunc], .other⟩),
 (118, ⟨1, false, [.nilFunc], .other⟩),
 (119, ⟨9, true, [.int .i64 0, .int .i64 0, .int .i64 0, .string ⟨#[]⟩, .string ⟨#[]⟩, .string ⟨#[]⟩, .int .i64 0, .slice none 0 0, .bool false], .struct [(0, 8, true), (8, 1, false)]⟩),
 (120, ⟨9, true, [.int .i64 0, .int .i64 0, .int .i64 0, .string ⟨#[]⟩, .string ⟨#[]⟩, .string ⟨#[]⟩, .int .i64 0, .slice none 0 0, .bool false], .struct [(0, 8, true), (8, 1, false)]⟩),
 (121, ⟨1, false, [.nilFunc], .other⟩),
 (122, ⟨1, false, [.nilFunc], .other⟩),
 (123, ⟨1, false, [.nilFunc], .other⟩),
 (124, ⟨1, false, [.nilFunc], .other⟩),
 (125, ⟨1, false, [.nilFunc], .other⟩),
 (127, ⟨1, false, [.nilFunc], .other⟩),
 (129, ⟨1, false, [.nilFunc], .other⟩),
 (130, ⟨1, false, [.int .i64 0], .int .i64⟩),
 (132, ⟨1, false, [.nilFunc], .other⟩),
 (133, ⟨1, false, [.nilFunc], .other⟩),
 (134, ⟨1, false, [.nilFunc], .other⟩),
 (135, ⟨1, false, [.pointer none], .other⟩),
 (136, ⟨2, true, [.slice none 0 0, .int .i64 0], .struct [(0, 1, false), (1, 1, false)]⟩),
 (137, ⟨2, true, [.slice none 0 0, .int .i64 0], .struct [(0, 1, false), (1, 1, false)]⟩),
 (138, ⟨1, false, [.nilFunc], .other⟩),
 (139, ⟨1, false, [.slice none 0 0], .slice 5 1 1 [.int .u8 0]⟩),
 (141, ⟨1, false, [.nilFunc], .other⟩),
 (142, ⟨1, false, [.nilFunc], .other⟩),
 (143, ⟨1, false, [.nilFunc], .other⟩),
 (144, ⟨1, false, [.int .u64 0], .int .u64⟩),
 (145, ⟨1, false, [.nilFunc], .other⟩),
 (146, ⟨1, false, [.nilFunc], .other⟩),
 (148, ⟨1, false, [.nilFunc], .other⟩),
 (149, ⟨1, false, [.int .u64 0], .int .u64⟩),
 (150, ⟨1, false, [.nilFunc], .other⟩),
 (151, ⟨1, false, [.pointer none], .other⟩),
 (152, ⟨1, false, [.nilFunc], .other⟩),
 (153, ⟨1, false, [.slice none 0 0], .slice 138 1 8 [.nilFunc]⟩),
 (154, ⟨1, false, [.nilFunc], .other⟩),
 (155, ⟨4, true, [.string ⟨#[]⟩, .string ⟨#[]⟩, .string ⟨#[]⟩, .string ⟨#[]⟩], .arr 4 1 false⟩),
 (156, ⟨13, true, [.string ⟨#[]⟩, .string ⟨#[]⟩, .string ⟨#[]⟩, .string ⟨#[]⟩, .string ⟨#[]⟩, .string ⟨#[]⟩, .string ⟨#[]⟩, .string ⟨#[]⟩, .string ⟨#[]⟩, .string ⟨#[]⟩, .string ⟨#[]⟩, .string ⟨#[]⟩, .string ⟨#[]⟩], .arr 13 1 false⟩),
 (157, ⟨13, true, [.int .i64 0, .int .i64 0, .int .i64 0, .int .i64 0, .int .i64 0, .int .i64 0, .int .i64 0, .int .i64 0, .int .i64 0, .int .i64 0, .int .i64 0, .int .i64 0, .int .i64 0], .arr 13 1 false⟩),
 (158, ⟨1, false, [.nilFunc], .other⟩),
 (159, ⟨1, false, [.nilFunc], .other⟩),
 (160, ⟨1, false, [.nilFunc], .other⟩),
 (161, ⟨1, false, [.nilFunc], .other⟩),
 (162, ⟨1, false, [.nilFunc], .other⟩),
 (163, ⟨1, false, [.slice none 0 0], .slice 4 1 1 [.bool false]⟩),
 (164, ⟨1, false, [.nilFunc], .other⟩),
 (165, ⟨1, false, [.nilFunc], .other⟩),
 (166, ⟨1, false, [.nilFunc], .other⟩),
 (167, ⟨1, false, [.nilFunc], .other⟩),
 (168, ⟨1, false, [.nilFunc], .other⟩),
 (174, ⟨1, false, [.nilFunc], .other⟩),
 (175, ⟨1, false, [.int .u32 0], .int .u32⟩),
 (178, ⟨1, false, [.nilFunc], .other⟩),
 (179, ⟨1, false, [.pointer none], .other⟩)]
def cxQ : List (TypeId × List EK) := [(50, [.int, .int, .str]), (54, [.str, .int, .bool, .bool]), (93, [.str, .str, .int]), (102, [.int, .str, .int])]
def cx : Ctx := tabCtx cxL [] cxQ
theorem cx_ok : cx.ok Try.prog := tabCtx_ok (by kernel_rfl) (by kernel_rfl)
theorem dr_ok : DrawOk Try.prog (aDraw Try.prog cx) := aDraw_ok cx_ok (by kernel_rfl)
theorem cx_muts : cx.muts = [] := nr rfl
theorem cx_2 : cx.ty 2 = some ⟨1, false, [.int .i64 0], .int .i64⟩ := nr rfl
theorem ck_2 : cx.kind 2 = some (.int .i64) := nr rfl
theorem cx_3 : cx.ty 3 = some ⟨1, false, [.int .i64 0], .int .i64⟩ := nr rfl
theorem ck_3 : cx.kind 3 = some (.int .i64) := nr rfl
theorem cx_4 : cx.ty 4 = some ⟨1, false, [.bool false], .bool⟩ := nr rfl
theorem ck_4 : cx.kind 4 = some (.bool) := nr rfl
theorem cx_5 : cx.ty 5 = some ⟨1, false, [.int .u8 0], .int .u8⟩ := nr rfl
theorem ck_5 : cx.kind 5 = some (.int .u8) := nr rfl
theorem cx_9 : cx.ty 9 = some ⟨1, false, [.string ⟨#[]⟩], .str⟩ := nr rfl
theorem ck_9 : cx.kind 9 = some (.str) := nr rfl
theorem cx_22 : cx.ty 22 = some ⟨1, false, [.slice none 0 0], .slice 54 4 32 [.string ⟨#[]⟩, .int .i64 0, .bool false, .bool false]⟩ := nr rfl
theorem ck_22 : cx.kind 22 = some (.slice 54 4 32 [.string ⟨#[]⟩, .int .i64 0, .bool false, .bool false]) := nr rfl
theorem ks_22 {e : Nat} {ls : List (List PV)} : lenA cx 22 (.p (.sl e ls)) = some ls.length := nr (len_sl ck_22)
theorem ko_22 {t e : Nat} {ls : List (List PV)} : lenA cx 22 (.own t e ls) = some ls.length := nr (len_own ck_22)
theorem kn_22 {t e : Nat} {ls : List (List PV)} : lenA cx 22 (.nown t e ls) = some ls.length := nr (len_nown ck_22)
theorem kz_22 : lenA cx 22 (.p (.v (.slice none 0 0))) = some 0 := nr (len_nil ck_22)
theorem km_22 {t e j n : Nat} : lenA cx 22 (.ms t e j n) = some n := nr (len_ms ck_22)
theorem cx_24 : cx.ty 24 = some ⟨2, true, [.string ⟨#[]⟩, .slice none 0 0], .struct [(0, 1, false), (1, 1, false)]⟩ := nr rfl
theorem ck_24 : cx.kind 24 = some (.struct [(0, 1, false), (1, 1, false)]) := nr rfl
theorem cx_25 : cx.ty 25 = some ⟨1, false, [.slice none 0 0], .slice 46 1 24 [.slice none 0 0]⟩ := nr rfl
theorem ck_25 : cx.kind 25 = some (.slice 46 1 24 [.slice none 0 0]) := nr rfl
theorem ks_25 {e : Nat} {ls : List (List PV)} : lenA cx 25 (.p (.sl e ls)) = some ls.length := nr (len_sl ck_25)
theorem ko_25 {t e : Nat} {ls : List (List PV)} : lenA cx 25 (.own t e ls) = some ls.length := nr (len_own ck_25)
theorem kn_25 {t e : Nat} {ls : List (List PV)} : lenA cx 25 (.nown t e ls) = some ls.length := nr (len_nown ck_25)
theorem kz_25 : lenA cx 25 (.p (.v (.slice none 0 0))) = some 0 := nr (len_nil ck_25)
theorem km_25 {t e j n : Nat} : lenA cx 25 (.ms t e j n) = some n := nr (len_ms ck_25)
theorem cx_27 : cx.ty 27 = some ⟨4, true, [.string ⟨#[]⟩, .string ⟨#[]⟩, .slice none 0 0, .slice none 0 0], .struct [(0, 1, false), (1, 2, true), (3, 1, false)]⟩ := nr rfl
theorem ck_27 : cx.kind 27 = some (.struct [(0, 1, false), (1, 2, true), (3, 1, false)]) := nr rfl
theorem cx_29 : cx.ty 29 = some ⟨1, false, [.slice none 0 0], .slice 9 1 16 [.string ⟨#[]⟩]⟩ := nr rfl
theorem ck_29 : cx.kind 29 = some (.slice 9 1 16 [.string ⟨#[]⟩]) := nr rfl
theorem ks_29 {e : Nat} {ls : List (List PV)} : lenA cx 29 (.p (.sl e ls)) = some ls.length := nr (len_sl ck_29)
theorem ko_29 {t e : Nat} {ls : List (List PV)} : lenA cx 29 (.own t e ls) = some ls.length := nr (len_own ck_29)
theorem kn_29 {t e : Nat} {ls : List (List PV)} : lenA cx 29 (.nown t e ls) = some ls.length := nr (len_nown ck_29)
theorem kz_29 : lenA cx 29 (.p (.v (.slice none 0 0))) = some 0 := nr (len_nil ck_29)
theorem km_29 {t e j n : Nat} : lenA cx 29 (.ms t e j n) = some n := nr (len_ms ck_29)
theorem cx_30 : cx.ty 30 = some ⟨1, false, [.slice none 0 0], .slice 33 1 24 [.slice none 0 0]⟩ := nr rfl
theorem ck_30 : cx.kind 30 = some (.slice 33 1 24 [.slice none 0 0]) := nr rfl
theorem ks_30 {e : Nat} {ls : List (List PV)} : lenA cx 30 (.p (.sl e ls)) = some ls.length := nr (len_sl ck_30)
theorem ko_30 {t e : Nat} {ls : List (List PV)} : lenA cx 30 (.own t e ls) = some ls.length := nr (len_own ck_30)
theorem kn_30 {t e : Nat} {ls : List (List PV)} : lenA cx 30 (.nown t e ls) = some ls.length := nr (len_nown ck_30)
theorem kz_30 : lenA cx 30 (.p (.v (.slice none 0 0))) = some 0 := nr (len_nil ck_30)
theorem km_30 {t e j n : Nat} : lenA cx 30 (.ms t e j n) = some n := nr (len_ms ck_30)
theorem cx_31 : cx.ty 31 = some ⟨1, false, [.slice none 0 0], .slice 113 9 112 [.bool false, .int .i64 0, .int .i64 0, .int .i64 0, .string ⟨#[]⟩, .string ⟨#[]⟩, .string ⟨#[]⟩, .int .i64 0, .slice none 0 0]⟩ := nr rfl
theorem ck_31 : cx.kind 31 = some (.slice 113 9 112 [.bool false, .int .i64 0, .int .i64 0, .int .i64 0, .string ⟨#[]⟩, .string ⟨#[]⟩, .string ⟨#[]⟩, .int .i64 0, .slice none 0 0]) := nr rfl
theorem ks_31 {e : Nat} {ls : List (List PV)} : lenA cx 31 (.p (.sl e ls)) = some ls.length := nr (len_sl ck_31)
theorem ko_31 {t e : Nat} {ls : List (List PV)} : lenA cx 31 (.own t e ls) = some ls.length := nr (len_own ck_31)
theorem kn_31 {t e : Nat} {ls : List (List PV)} : lenA cx 31 (.nown t e ls) = some ls.length := nr (len_nown ck_31)
theorem kz_31 : lenA cx 31 (.p (.v (.slice none 0 0))) = some 0 := nr (len_nil ck_31)
theorem km_31 {t e j n : Nat} : lenA cx 31 (.ms t e j n) = some n := nr (len_ms ck_31)
theorem cx_32 : cx.ty 32 = some ⟨1, false, [.slice none 0 0], .slice 116 3 56 [.string ⟨#[]⟩, .string ⟨#[]⟩, .slice none 0 0]⟩ := nr rfl
theorem ck_32 : cx.kind 32 = some (.slice 116 3 56 [.string ⟨#[]⟩, .string ⟨#[]⟩, .slice none 0 0]) := nr rfl
theorem ks_32 {e : Nat} {ls : List (List PV)} : lenA cx 32 (.p (.sl e ls)) = some ls.length := nr (len_sl ck_32)
theorem ko_32 {t e : Nat} {ls : List (List PV)} : lenA cx 32 (.own t e ls) = some ls.length := nr (len_own ck_32)
theorem kn_32 {t e : Nat} {ls : List (List PV)} : lenA cx 32 (.nown t e ls) = some ls.length := nr (len_nown ck_32)
theorem kz_32 : lenA cx 32 (.p (.v (.slice none 0 0))) = some 0 := nr (len_nil ck_32)
theorem km_32 {t e j n : Nat} : lenA cx 32 (.ms t e j n) = some n := nr (len_ms ck_32)
theorem cx_33 : cx.ty 33 = some ⟨1, false, [.slice none 0 0], .slice 86 8 104 [.int .i64 0, .int .i64 0, .int .i64 0, .string ⟨#[]⟩, .string ⟨#[]⟩, .string ⟨#[]⟩, .int .i64 0, .slice none 0 0]⟩ := nr rfl
theorem ck_33 : cx.kind 33 = some (.slice 86 8 104 [.int .i64 0, .int .i64 0, .int .i64 0, .string ⟨#[]⟩, .string ⟨#[]⟩, .string ⟨#[]⟩, .int .i64 0, .slice none 0 0]) := nr rfl
theorem ks_33 {e : Nat} {ls : List (List PV)} : lenA cx 33 (.p (.sl e ls)) = some ls.length := nr (len_sl ck_33)
theorem ko_33 {t e : Nat} {ls : List (List PV)} : lenA cx 33 (.own t e ls) = some ls.length := nr (len_own ck_33)
theorem kn_33 {t e : Nat} {ls : List (List PV)} : lenA cx 33 (.nown t e ls) = some ls.length := nr (len_nown ck_33)
theorem kz_33 : lenA cx 33 (.p (.v (.slice none 0 0))) = some 0 := nr (len_nil ck_33)
theorem km_33 {t e j n : Nat} : lenA cx 33 (.ms t e j n) = some n := nr (len_ms ck_33)
theorem cx_34 : cx.ty 34 = some ⟨1, false, [.slice none 0 0], .slice 120 9 112 [.int .i64 0, .int .i64 0, .int .i64 0, .string ⟨#[]⟩, .string ⟨#[]⟩, .string ⟨#[]⟩, .int .i64 0, .slice none 0 0, .bool false]⟩ := nr rfl
theorem ck_34 : cx.kind 34 = some (.slice 120 9 112 [.int .i64 0, .int .i64 0, .int .i64 0, .string ⟨#[]⟩, .string ⟨#[]⟩, .string ⟨#[]⟩, .int .i64 0, .slice none 0 0, .bool false]) := nr rfl
theorem ks_34 {e : Nat} {ls : List (List PV)} : lenA cx 34 (.p (.sl e ls)) = some ls.length := nr (len_sl ck_34)
theorem ko_34 {t e : Nat} {ls : List (List PV)} : lenA cx 34 (.own t e ls) = some ls.length := nr (len_own ck_34)
theorem kn_34 {t e : Nat} {ls : List (List PV)} : lenA cx 34 (.nown t e ls) = some ls.length := nr (len_nown ck_34)
theorem kz_34 : lenA cx 34 (.p (.v (.slice none 0 0))) = some 0 := nr (len_nil ck_34)
theorem km_34 {t e j n : Nat} : lenA cx 34 (.ms t e j n) = some n := nr (len_ms ck_34)
theorem cx_36 : cx.ty 36 = some ⟨14, true, [.int .i64 0, .string ⟨#[]⟩, .string ⟨#[]⟩, .slice none 0 0, .slice none 0 0, .slice none 0 0, .slice none 0 0, .slice none 0 0, .slice none 0 0, .slice none 0 0, .slice none 0 0, .int .i64 0, .slice none 0 0, .bool false], .struct [(0, 1, false), (1, 1, false), (2, 1, false), (3, 1, false), (4, 1, false), (5, 1, false), (6, 1, false), (7, 1, false), (8, 1, false), (9, 1, false), (10, 1, false), (11, 1, false), (12, 1, false), (13, 1, false)]⟩ := nr rfl
theorem ck_36 : cx.kind 36 = some (.struct [(0, 1, false), (1, 1, false), (2, 1, false), (3, 1, false), (4, 1, false), (5, 1, false), (6, 1, false), (7, 1, false), (8, 1, false), (9, 1, false), (10, 1, false), (11, 1, false), (12, 1, false), (13, 1, false)]) := nr rfl
theorem cx_39 : cx.ty 39 = some ⟨1, false, [.slice none 0 0], .slice 48 3 64 [.string ⟨#[]⟩, .slice none 0 0, .slice none 0 0]⟩ := nr rfl
theorem ck_39 : cx.kind 39 = some (.slice 48 3 64 [.string ⟨#[]⟩, .slice none 0 0, .slice none 0 0]) := nr rfl
theorem ks_39 {e : Nat} {ls : List (List PV)} : lenA cx 39 (.p (.sl e ls)) = some ls.length := nr (len_sl ck_39)
theorem ko_39 {t e : Nat} {ls : List (List PV)} : lenA cx 39 (.own t e ls) = some ls.length := nr (len_own ck_39)
theorem kn_39 {t e : Nat} {ls : List (List PV)} : lenA cx 39 (.nown t e ls) = some ls.length := nr (len_nown ck_39)
theorem kz_39 : lenA cx 39 (.p (.v (.slice none 0 0))) = some 0 := nr (len_nil ck_39)
theorem km_39 {t e j n : Nat} : lenA cx 39 (.ms t e j n) = some n := nr (len_ms ck_39)
theorem cx_40 : cx.ty 40 = some ⟨1, false, [.int .i64 0], .int .i64⟩ := nr rfl
theorem ck_40 : cx.kind 40 = some (.int .i64) := nr rfl
theorem cx_46 : cx.ty 46 = some ⟨1, false, [.slice none 0 0], .slice 50 3 32 [.int .i64 0, .int .i64 0, .string ⟨#[]⟩]⟩ := nr rfl
theorem ck_46 : cx.kind 46 = some (.slice 50 3 32 [.int .i64 0, .int .i64 0, .string ⟨#[]⟩]) := nr rfl
theorem ks_46 {e : Nat} {ls : List (List PV)} : lenA cx 46 (.p (.sl e ls)) = some ls.length := nr (len_sl ck_46)
theorem ko_46 {t e : Nat} {ls : List (List PV)} : lenA cx 46 (.own t e ls) = some ls.length := nr (len_own ck_46)
theorem kn_46 {t e : Nat} {ls : List (List PV)} : lenA cx 46 (.nown t e ls) = some ls.length := nr (len_nown ck_46)
theorem kz_46 : lenA cx 46 (.p (.v (.slice none 0 0))) = some 0 := nr (len_nil ck_46)
theorem km_46 {t e j n : Nat} : lenA cx 46 (.ms t e j n) = some n := nr (len_ms ck_46)
theorem cx_48 : cx.ty 48 = some ⟨3, true, [.string ⟨#[]⟩, .slice none 0 0, .slice none 0 0], .struct [(0, 1, false), (1, 1, false), (2, 1, false)]⟩ := nr rfl
theorem ck_48 : cx.kind 48 = some (.struct [(0, 1, false), (1, 1, false), (2, 1, false)]) := nr rfl
theorem cx_50 : cx.ty 50 = some ⟨3, true, [.int .i64 0, .int .i64 0, .string ⟨#[]⟩], .struct [(0, 1, false), (1, 1, false), (2, 1, false)]⟩ := nr rfl
theorem ck_50 : cx.kind 50 = some (.struct [(0, 1, false), (1, 1, false), (2, 1, false)]) := nr rfl
theorem cx_54 : cx.ty 54 = some ⟨4, true, [.string ⟨#[]⟩, .int .i64 0, .bool false, .bool false], .struct [(0, 1, false), (1, 1, false), (2, 1, false), (3, 1, false)]⟩ := nr rfl
theorem ck_54 : cx.kind 54 = some (.struct [(0, 1, false), (1, 1, false), (2, 1, false), (3, 1, false)]) := nr rfl
theorem cx_61 : cx.ty 61 = some ⟨1, false, [.slice none 0 0], .slice 3 1 8 [.int .i64 0]⟩ := nr rfl
theorem ck_61 : cx.kind 61 = some (.slice 3 1 8 [.int .i64 0]) := nr rfl
theorem ks_61 {e : Nat} {ls : List (List PV)} : lenA cx 61 (.p (.sl e ls)) = some ls.length := nr (len_sl ck_61)
theorem ko_61 {t e : Nat} {ls : List (List PV)} : lenA cx 61 (.own t e ls) = some ls.length := nr (len_own ck_61)
theorem kn_61 {t e : Nat} {ls : List (List PV)} : lenA cx 61 (.nown t e ls) = some ls.length := nr (len_nown ck_61)
theorem kz_61 : lenA cx 61 (.p (.v (.slice none 0 0))) = some 0 := nr (len_nil ck_61)
theorem km_61 {t e j n : Nat} : lenA cx 61 (.ms t e j n) = some n := nr (len_ms ck_61)
theorem cx_66 : cx.ty 66 = some ⟨1, false, [.slice none 0 0], .slice 93 3 32 [.string ⟨#[]⟩, .string ⟨#[]⟩, .int .i64 0]⟩ := nr rfl
theorem ck_66 : cx.kind 66 = some (.slice 93 3 32 [.string ⟨#[]⟩, .string ⟨#[]⟩, .int .i64 0]) := nr rfl
theorem ks_66 {e : Nat} {ls : List (List PV)} : lenA cx 66 (.p (.sl e ls)) = some ls.length := nr (len_sl ck_66)
theorem ko_66 {t e : Nat} {ls : List (List PV)} : lenA cx 66 (.own t e ls) = some ls.length := nr (len_own ck_66)
theorem kn_66 {t e : Nat} {ls : List (List PV)} : lenA cx 66 (.nown t e ls) = some ls.length := nr (len_nown ck_66)
theorem kz_66 : lenA cx 66 (.p (.v (.slice none 0 0))) = some 0 := nr (len_nil ck_66)
theorem km_66 {t e j n : Nat} : lenA cx 66 (.ms t e j n) = some n := nr (len_ms ck_66)
theorem cx_72 : cx.ty 72 = some ⟨1, false, [.slice none 0 0], .slice 102 3 32 [.int .i64 0, .string ⟨#[]⟩, .int .i64 0]⟩ := nr rfl
theorem ck_72 : cx.kind 72 = some (.slice 102 3 32 [.int .i64 0, .string ⟨#[]⟩, .int .i64 0]) := nr rfl
theorem ks_72 {e : Nat} {ls : List (List PV)} : lenA cx 72 (.p (.sl e ls)) = some ls.length := nr (len_sl ck_72)
theorem ko_72 {t e : Nat} {ls : List (List PV)} : lenA cx 72 (.own t e ls) = some ls.length := nr (len_own ck_72)
theorem kn_72 {t e : Nat} {ls : List (List PV)} : lenA cx 72 (.nown t e ls) = some ls.length := nr (len_nown ck_72)
theorem kz_72 : lenA cx 72 (.p (.v (.slice none 0 0))) = some 0 := nr (len_nil ck_72)
theorem km_72 {t e j n : Nat} : lenA cx 72 (.ms t e j n) = some n := nr (len_ms ck_72)
theorem cx_75 : cx.ty 75 = some ⟨1, false, [.pointer none], .other⟩ := nr rfl
theorem ck_75 : cx.kind 75 = some (.other) := nr rfl
theorem cx_77 : cx.ty 77 = some ⟨3, true, [.slice none 0 0, .int .i64 0, .bool false], .struct [(0, 1, false), (1, 1, false), (2, 1, false)]⟩ := nr rfl
theorem ck_77 : cx.kind 77 = some (.struct [(0, 1, false), (1, 1, false), (2, 1, false)]) := nr rfl
theorem cx_86 : cx.ty 86 = some ⟨8, true, [.int .i64 0, .int .i64 0, .int .i64 0, .string ⟨#[]⟩, .string ⟨#[]⟩, .string ⟨#[]⟩, .int .i64 0, .slice none 0 0], .struct [(0, 1, false), (1, 3, true), (4, 1, false), (5, 1, false), (6, 1, false), (7, 1, false)]⟩ := nr rfl
theorem ck_86 : cx.kind 86 = some (.struct [(0, 1, false), (1, 3, true), (4, 1, false), (5, 1, false), (6, 1, false), (7, 1, false)]) := nr rfl
theorem cx_88 : cx.ty 88 = some ⟨1, false, [.nilFunc], .other⟩ := nr rfl
theorem ck_88 : cx.kind 88 = some (.other) := nr rfl
theorem cx_93 : cx.ty 93 = some ⟨3, true, [.string ⟨#[]⟩, .string ⟨#[]⟩, .int .i64 0], .struct [(0, 1, false), (1, 1, false), (2, 1, false)]⟩ := nr rfl
theorem ck_93 : cx.kind 93 = some (.struct [(0, 1, false), (1, 1, false), (2, 1, false)]) := nr rfl
theorem cx_102 : cx.ty 102 = some ⟨3, true, [.int .i64 0, .string ⟨#[]⟩, .int .i64 0], .struct [(0, 1, false), (1, 1, false), (2, 1, false)]⟩ := nr rfl
theorem ck_102 : cx.kind 102 = some (.struct [(0, 1, false), (1, 1, false), (2, 1, false)]) := nr rfl
theorem cx_113 : cx.ty 113 = some ⟨9, true, [.bool false, .int .i64 0, .int .i64 0, .int .i64 0, .string ⟨#[]⟩, .string ⟨#[]⟩, .string ⟨#[]⟩, .int .i64 0, .slice none 0 0], .struct [(0, 1, false), (1, 8, true)]⟩ := nr rfl
theorem ck_113 : cx.kind 113 = some (.struct [(0, 1, false), (1, 8, true)]) := nr rfl
theorem cx_116 : cx.ty 116 = some ⟨3, true, [.string ⟨#[]⟩, .string ⟨#[]⟩, .slice none 0 0], .struct [(0, 1, false), (1, 1, false), (2, 1, false)]⟩ := nr rfl
theorem ck_116 : cx.kind 116 = some (.struct [(0, 1, false), (1, 1, false), (2, 1, false)]) := nr rfl
theorem cx_120 : cx.ty 120 = some ⟨9, true, [.int .i64 0, .int .i64 0, .int .i64 0, .string ⟨#[]⟩, .string ⟨#[]⟩, .string ⟨#[]⟩, .int .i64 0, .slice none 0 0, .bool false], .struct [(0, 8, true), (8, 1, false)]⟩ := nr rfl
theorem ck_120 : cx.kind 120 = some (.struct [(0, 8, true), (8, 1, false)]) := nr rfl
theorem cx_124 : cx.ty 124 = some ⟨1, false, [.nilFunc], .other⟩ := nr rfl
theorem ck_124 : cx.kind 124 = some (.other) := nr rfl
theorem cx_130 : cx.ty 130 = some ⟨1, false, [.int .i64 0], .int .i64⟩ := nr rfl
theorem ck_130 : cx.kind 130 = some (.int .i64) := nr rfl
theorem cx_135 : cx.ty 135 = some ⟨1, false, [.pointer none], .other⟩ := nr rfl
theorem ck_135 : cx.kind 135 = some (.other) := nr rfl
theorem cx_137 : cx.ty 137 = some ⟨2, true, [.slice none 0 0, .int .i64 0], .struct [(0, 1, false), (1, 1, false)]⟩ := nr rfl
theorem ck_137 : cx.kind 137 = some (.struct [(0, 1, false), (1, 1, false)]) := nr rfl
theorem cx_138 : cx.ty 138 = some ⟨1, false, [.nilFunc], .other⟩ := nr rfl
theorem ck_138 : cx.kind 138 = some (.other) := nr rfl
theorem cx_139 : cx.ty 139 = some ⟨1, false, [.slice none 0 0], .slice 5 1 1 [.int .u8 0]⟩ := nr rfl
theorem ck_139 : cx.kind 139 = some (.slice 5 1 1 [.int .u8 0]) := nr rfl
theorem ks_139 {e : Nat} {ls : List (List PV)} : lenA cx 139 (.p (.sl e ls)) = some ls.length := nr (len_sl ck_139)
theorem ko_139 {t e : Nat} {ls : List (List PV)} : lenA cx 139 (.own t e ls) = some ls.length := nr (len_own ck_139)
theorem kn_139 {t e : Nat} {ls : List (List PV)} : lenA cx 139 (.nown t e ls) = some ls.length := nr (len_nown ck_139)
theorem kz_139 : lenA cx 139 (.p (.v (.slice none 0 0))) = some 0 := nr (len_nil ck_139)
theorem km_139 {t e j n : Nat} : lenA cx 139 (.ms t e j n) = some n := nr (len_ms ck_139)
theorem cx_144 : cx.ty 144 = some ⟨1, false, [.int .u64 0], .int .u64⟩ := nr rfl
theorem ck_144 : cx.kind 144 = some (.int .u64) := nr rfl
theorem cx_153 : cx.ty 153 = some ⟨1, false, [.slice none 0 0], .slice 138 1 8 [.nilFunc]⟩ := nr rfl
theorem ck_153 : cx.kind 153 = some (.slice 138 1 8 [.nilFunc]) := nr rfl
theorem ks_153 {e : Nat} {ls : List (List PV)} : lenA cx 153 (.p (.sl e ls)) = some ls.length := nr (len_sl ck_153)
theorem ko_153 {t e : Nat} {ls : List (List PV)} : lenA cx 153 (.own t e ls) = some ls.length := nr (len_own ck_153)
theorem kn_153 {t e : Nat} {ls : List (List PV)} : lenA cx 153 (.nown t e ls) = some ls.length := nr (len_nown ck_153)
theorem kz_153 : lenA cx 153 (.p (.v (.slice none 0 0))) = some 0 := nr (len_nil ck_153)
theorem km_153 {t e j n : Nat} : lenA cx 153 (.ms t e j n) = some n := nr (len_ms ck_153)
theorem cx_155 : cx.ty 155 = some ⟨4, true, [.string ⟨#[]⟩, .string ⟨#[]⟩, .string ⟨#[]⟩, .string ⟨#[]⟩], .arr 4 1 false⟩ := nr rfl
theorem ck_155 : cx.kind 155 = some (.arr 4 1 false) := nr rfl
theorem cx_156 : cx.ty 156 = some ⟨13, true, [.string ⟨#[]⟩, .string ⟨#[]⟩, .string ⟨#[]⟩, .string ⟨#[]⟩, .string ⟨#[]⟩, .string ⟨#[]⟩, .string ⟨#[]⟩, .string ⟨#[]⟩, .string ⟨#[]⟩, .string ⟨#[]⟩, .string ⟨#[]⟩, .string ⟨#[]⟩, .string ⟨#[]⟩], .arr 13 1 false⟩ := nr rfl
theorem ck_156 : cx.kind 156 = some (.arr 13 1 false) := nr rfl
theorem cx_157 : cx.ty 157 = some ⟨13, true, [.int .i64 0, .int .i64 0, .int .i64 0, .int .i64 0, .int .i64 0, .int .i64 0, .int .i64 0, .int .i64 0, .int .i64 0, .int .i64 0, .int .i64 0, .int .i64 0, .int .i64 0], .arr 13 1 false⟩ := nr rfl
theorem ck_157 : cx.kind 157 = some (.arr 13 1 false) := nr rfl
theorem cx_163 : cx.ty 163 = some ⟨1, false, [.slice none 0 0], .slice 4 1 1 [.bool false]⟩ := nr rfl
theorem ck_163 : cx.kind 163 = some (.slice 4 1 1 [.bool false]) := nr rfl
theorem ks_163 {e : Nat} {ls : List (List PV)} : lenA cx 163 (.p (.sl e ls)) = some ls.length := nr (len_sl ck_163)
theorem ko_163 {t e : Nat} {ls : List (List PV)} : lenA cx 163 (.own t e ls) = some ls.length := nr (len_own ck_163)
theorem kn_163 {t e : Nat} {ls : List (List PV)} : lenA cx 163 (.nown t e ls) = some ls.length := nr (len_nown ck_163)
theorem kz_163 : lenA cx 163 (.p (.v (.slice none 0 0))) = some 0 := nr (len_nil ck_163)
theorem km_163 {t e j n : Nat} : lenA cx 163 (.ms t e j n) = some n := nr (len_ms ck_163)
theorem ce_50 : cx.eqs 50 = some [.int, .int, .str] := nr rfl
theorem ce_54 : cx.eqs 54 = some [.str, .int, .bool, .bool] := nr rfl
theorem ce_93 : cx.eqs 93 = some [.str, .str, .int] := nr rfl
theorem ce_102 : cx.eqs 102 = some [.int, .str, .int] := nr rfl
theorem ca_4_1_false : arrF 4 1 false = [(0, 1, false), (1, 1, false), (2, 1, false), (3, 1, false)] := nr rfl
theorem ca_13_1_false : arrF 13 1 false = [(0, 1, false), (1, 1, false), (2, 1, false), (3, 1, false), (4, 1, false), (5, 1, false), (6, 1, false), (7, 1, false), (8, 1, false), (9, 1, false), (10, 1, false), (11, 1, false), (12, 1, false)] := nr rfl
theorem cx_arr : (type_of% ca_4_1_false) ∧ (type_of% ca_13_1_false) := ⟨ca_4_1_false, ca_13_1_false⟩
theorem aa {p q : Prop} (h : p) (k : q) : p ∧ q := ⟨h, k⟩
def T2 := aa ck_2 cx_2
def T3 := aa ck_3 cx_3
def T4 := aa ck_4 cx_4
def T5 := aa ck_5 cx_5
def T9 := aa ck_9 cx_9
def T22 := aa ck_22 <| aa cx_22 <| aa @ks_22 <| aa @ko_22 <| aa @kn_22 <| aa @km_22 kz_22
def T24 := aa ck_24 cx_24
def T25 := aa ck_25 <| aa cx_25 <| aa @ks_25 <| aa @ko_25 <| aa @kn_25 <| aa @km_25 kz_25
def T27 := aa ck_27 cx_27
def T29 := aa ck_29 <| aa cx_29 <| aa @ks_29 <| aa @ko_29 <| aa @kn_29 <| aa @km_29 kz_29
def T30 := aa ck_30 <| aa cx_30 <| aa @ks_30 <| aa @ko_30 <| aa @kn_30 <| aa @km_30 kz_30
def T31 := aa ck_31 <| aa cx_31 <| aa @ks_31 <| aa @ko_31 <| aa @kn_31 <| aa @km_31 kz_31
def T32 := aa ck_32 <| aa cx_32 <| aa @ks_32 <| aa @ko_32 <| aa @kn_32 <| aa @km_32 kz_32
def T33 := aa ck_33 <| aa cx_33 <| aa @ks_33 <| aa @ko_33 <| aa @kn_33 <| aa @km_33 kz_33
def T34 := aa ck_34 <| aa cx_34 <| aa @ks_34 <| aa @ko_34 <| aa @kn_34 <| aa @km_34 kz_34
def T36 := aa ck_36 cx_36
def T39 := aa ck_39 <| aa cx_39 <| aa @ks_39 <| aa @ko_39 <| aa @kn_39 <| aa @km_39 kz_39
def T40 := aa ck_40 cx_40
def T46 := aa ck_46 <| aa cx_46 <| aa @ks_46 <| aa @ko_46 <| aa @kn_46 <| aa @km_46 kz_46
def T48 := aa ck_48 cx_48
def T50 := aa ck_50 <| aa cx_50 ce_50
def T54 := aa ck_54 <| aa cx_54 ce_54
def T61 := aa ck_61 <| aa cx_61 <| aa @ks_61 <| aa @ko_61 <| aa @kn_61 <| aa @km_61 kz_61
def T66 := aa ck_66 <| aa cx_66 <| aa @ks_66 <| aa @ko_66 <| aa @kn_66 <| aa @km_66 kz_66
def T72 := aa ck_72 <| aa cx_72 <| aa @ks_72 <| aa @ko_72 <| aa @kn_72 <| aa @km_72 kz_72
def T75 := aa ck_75 cx_75
def T77 := aa ck_77 cx_77
def T86 := aa ck_86 cx_86
def T88 := aa ck_88 cx_88
def T93 := aa ck_93 <| aa cx_93 ce_93
def T102 := aa ck_102 <| aa cx_102 ce_102
def T113 := aa ck_113 cx_113
def T116 := aa ck_116 cx_116
def T120 := aa ck_120 cx_120
def T124 := aa ck_124 cx_124
def T130 := aa ck_130 cx_130
def T135 := aa ck_135 cx_135
def T137 := aa ck_137 cx_137
def T138 := aa ck_138 cx_138
def T139 := aa ck_139 <| aa cx_139 <| aa @ks_139 <| aa @ko_139 <| aa @kn_139 <| aa @km_139 kz_139
def T144 := aa ck_144 cx_144
def T153 := aa ck_153 <| aa cx_153 <| aa @ks_153 <| aa @ko_153 <| aa @kn_153 <| aa @km_153 kz_153
def T155 := aa ck_155 cx_155
def T156 := aa ck_156 cx_156
def T157 := aa ck_157 cx_157
def T163 := aa ck_163 <| aa cx_163 <| aa @ks_163 <| aa @ko_163 <| aa @kn_163 <| aa @km_163 kz_163
theorem wX : (type_of% @wBB) ∧ (type_of% @wBC) ∧ (type_of% @cx_muts) ∧ (type_of% @cx_arr) ∧ (type_of% @wBD) := ⟨wBB, wBC, cx_muts, cx_arr, wBD⟩
end Go.Proofs.Ytcnkmandddfdmaa
