/- The table of types of this program, for the abstract machine. A contract at a small state, used at a great one: the objects get other numbers. -/
import Derived.Test.YtcnkmandddfdmaaGreatM07
import Derived.Test.YtcnkmandddfdmaaGreatRows
set_option linter.unusedSimpArgs false
set_option linter.unusedVariables false
set_option linter.defProp false
set_option maxRecDepth 100000
set_option maxHeartbeats 32000000
namespace Go.Proofs.YtcnkmandddfdmaaGreat
def cxL : List (TypeId × TI) := [
 (1, ⟨1, false, [.nilFunc], .other⟩),
 (2, ⟨1, false, [.int .i64 0], .int .i64⟩),
 (3, ⟨1, false, [.int .i64 0], .int .i64⟩),
 (4, ⟨1, false, [.bool false], .bool⟩),
 (5, ⟨1, false, [.int .u8 0], .int .u8⟩),
 (9, ⟨1, false, [.string ⟨#[]⟩], .str⟩),
 (12, ⟨1, false, [.int .u64 0], .int .u64⟩),
 (13, ⟨2, true, [.string ⟨#[]⟩, .int .u64 0], .struct [(0, 1, false), (1, 1, false)]⟩),
 (19, ⟨1, true, [.pointer none], .struct [(0, 1, false)]⟩),
 (21, ⟨1, false, [.int .i32 0], .int .i32⟩),
 (22, ⟨1, false, [.slice none 0 0], .slice 52 4 32 [.string ⟨#[]⟩, .int .i64 0, .bool false, .bool false]⟩),
 (23, ⟨2, true, [.string ⟨#[]⟩, .slice none 0 0], .struct [(0, 1, false), (1, 1, false)]⟩),
 (24, ⟨2, true, [.string ⟨#[]⟩, .slice none 0 0], .struct [(0, 1, false), (1, 1, false)]⟩),
 (25, ⟨1, false, [.slice none 0 0], .slice 58 1 24 [.slice none 0 0]⟩),
 (26, ⟨4, true, [.string ⟨#[]⟩, .string ⟨#[]⟩, .slice none 0 0, .slice none 0 0], .struct [(0, 1, false), (1, 2, true), (3, 1, false)]⟩),
 (27, ⟨4, true, [.string ⟨#[]⟩, .string ⟨#[]⟩, .slice none 0 0, .slice none 0 0], .struct [(0, 1, false), (1, 2, true), (3, 1, false)]⟩),
 (28, ⟨1, false, [.nilFunc], .other⟩),
 (29, ⟨1, false, [.slice none 0 0], .slice 9 1 16 [.string ⟨#[]⟩]⟩),
 (30, ⟨1, false, [.slice none 0 0], .slice 33 1 24 [.slice none 0 0]⟩),
 (31, ⟨1, false, [.slice none 0 0], .slice 130 9 112 [.bool false, .int .i64 0, .int .i64 0, .int .i64 0, .string ⟨#[]⟩, .string ⟨#[]⟩, .string ⟨#[]⟩, .int .i64 0, .slice none 0 0]⟩),
 (32, ⟨1, false, [.slice none 0 0], .slice 133 3 56 [.string ⟨#[]⟩, .string ⟨#[]⟩, .slice none 0 0]⟩),
 (33, ⟨1, false, [.slice none 0 0], .slice 70 8 104 [.int .i64 0, .int .i64 0, .int .i64 0, .string ⟨#[]⟩, .string ⟨#[]⟩, .string ⟨#[]⟩, .int .i64 0, .slice none 0 0]⟩),
 (34, ⟨1, false, [.slice none 0 0], .slice 137 9 112 [.int .i64 0, .int .i64 0, .int .i64 0, .string ⟨#[]⟩, .string ⟨#[]⟩, .string ⟨#[]⟩, .int .i64 0, .slice none 0 0, .bool false]⟩),
 (35, ⟨14, true, [.int .i64 0, .string ⟨#[]⟩, .string ⟨#[]⟩, .slice none 0 0, .slice none 0 0, .slice none 0 0, .slice none 0 0, .slice none 0 0, .slice none 0 0, .slice none 0 0, .slice none 0 0, .int .i64 0, .slice none 0 0, .bool false], .struct [(0, 1, false), (1, 1, false), (2, 1, false), (3, 1, false), (4, 1, false), (5, 1, false), (6, 1, false), (7, 1, false), (8, 1, false), (9, 1, false), (10, 1, false), (11, 1, false), (12, 1, false), (13, 1, false)]⟩),
 (36, ⟨14, true, [.int .i64 0, .string ⟨#[]⟩, .string ⟨#[]⟩, .slice none 0 0, .slice none 0 0, .slice none 0 0, .slice none 0 0, .slice none 0 0, .slice none 0 0, .slice none 0 0, .slice none 0 0, .int .i64 0, .slice none 0 0, .bool false], .struct [(0, 1, false), (1, 1, false), (2, 1, false), (3, 1, false), (4, 1, false), (5, 1, false), (6, 1, false), (7, 1, false), (8, 1, false), (9, 1, false), (10, 1, false), (11, 1, false), (12, 1, false), (13, 1, false)]⟩),
 (38, ⟨1, false, [.nilFunc], .other⟩),
 (39, ⟨1, false, [.int .i64 0], .int .i64⟩),
 (41, ⟨1, false, [.nilFunc], .other⟩),
 (43, ⟨1, false, [.nilFunc], .other⟩),
 (44, ⟨1, false, [.nilFunc], .other⟩),
 (45, ⟨1, false, [.nilFunc], .other⟩),
 (46, ⟨1, false, [.slice none 0 0], .slice 60 3 64 [.string ⟨#[]⟩, .slice none 0 0, .slice none 0 0]⟩),
 (48, ⟨1, false, [.nilFunc], .other⟩),
 (49, ⟨1, false, [.nilFunc], .other⟩),
 (50, ⟨1, false, [.nilFunc], .other⟩),
 (51, ⟨4, true, [.string ⟨#[]⟩, .int .i64 0, .bool false, .bool false], .struct [(0, 1, false), (1, 1, false), (2, 1, false), (3, 1, false)]⟩),
 (52, ⟨4, true, [.string ⟨#[]⟩, .int .i64 0, .bool false, .bool false], .struct [(0, 1, false), (1, 1, false), (2, 1, false), (3, 1, false)]⟩),
 (54, ⟨1, false, [.nilFunc], .other⟩),
 (55, ⟨3, true, [.int .i64 0, .int .i64 0, .string ⟨#[]⟩], .struct [(0, 1, false), (1, 1, false), (2, 1, false)]⟩),
 (56, ⟨3, true, [.int .i64 0, .int .i64 0, .string ⟨#[]⟩], .struct [(0, 1, false), (1, 1, false), (2, 1, false)]⟩),
 (57, ⟨1, false, [.nilFunc], .other⟩),
 (58, ⟨1, false, [.slice none 0 0], .slice 56 3 32 [.int .i64 0, .int .i64 0, .string ⟨#[]⟩]⟩),
 (59, ⟨3, true, [.string ⟨#[]⟩, .slice none 0 0, .slice none 0 0], .struct [(0, 1, false), (1, 1, false), (2, 1, false)]⟩),
 (60, ⟨3, true, [.string ⟨#[]⟩, .slice none 0 0, .slice none 0 0], .struct [(0, 1, false), (1, 1, false), (2, 1, false)]⟩),
 (61, ⟨1, false, [.nilFunc], .other⟩),
 (62, ⟨1, false, [.slice none 0 0], .slice 3 1 8 [.int .i64 0]⟩),
 (64, ⟨1, false, [.nilFunc], .other⟩),
 (65, ⟨1, false, [.nilFunc], .other⟩),
 (67, ⟨1, false, [.nilFunc], .other⟩),
 (68, ⟨1, false, [.nilFunc], .other⟩),
 (69, ⟨8, true, [.int .i64 0, .int .i64 0, .int .i64 0, .string ⟨#[]⟩, .string ⟨#[]⟩, .string ⟨#[]⟩, .int .i64 0, .slice none 0 0], .struct [(0, 1, false), (1, 3, true), (4, 1, false), (5, 1, false), (6, 1, false), (7, 1, false)]⟩),
 (70, ⟨8, true, [.int .i64 0, .int .i64 0, .int .i64 0, .string ⟨#[]⟩, .string ⟨#[]⟩, .string ⟨#[]⟩, .int .i64 0, .slice none 0 0], .struct [(0, 1, false), (1, 3, true), (4, 1, false), (5, 1, false), (6, 1, false), (7, 1, false)]⟩),
 (72, ⟨1, false, [.nilFunc], .other⟩),
 (73, ⟨1, false, [.nilFunc], .other⟩),
 (74, ⟨1, false, [.nilFunc], .other⟩),
 (75, ⟨1, false, [.nilFunc], .other⟩),
 (77, ⟨1, false, [.nilFunc], .other⟩),
 (78, ⟨1, false, [.slice none 0 0], .slice 111 3 32 [.string ⟨#[]⟩, .string ⟨#[]⟩, .int .i64 0]⟩),
 (79, ⟨1, false, [.nilFunc], .other⟩),
 (80, ⟨1, false, [.slice none 0 0], .slice 114 3 32 [.string ⟨#[]⟩, .string ⟨#[]⟩, .int .i64 0]⟩),
 (81, ⟨1, false, [.nilFunc], .other⟩),
 (82, ⟨1, false, [.nilFunc], .other⟩),
 (83, ⟨1, false, [.nilFunc], .other⟩),
 (84, ⟨1, false, [.nilFunc], .other⟩),
 (85, ⟨1, false, [.slice none 0 0], .slice 119 3 32 [.int .i64 0, .string ⟨#[]⟩, .int .i64 0]⟩),
 (87, ⟨1, false, [.nilFunc], .other⟩),
 (88, ⟨1, false, [.pointer none], .other⟩),
 (89, ⟨3, true, [.slice none 0 0, .int .i64 0, .bool false], .struct [(0, 1, false), (1, 1, false), (2, 1, false)]⟩),
 (90, ⟨3, true, [.slice none 0 0, .int .i64 0, .bool false], .struct [(0, 1, false), (1, 1, false), (2, 1, false)]⟩),
 (91, ⟨1, false, [.nilFunc], .other⟩),
 (92, ⟨1, false, [.nilFunc], .other⟩),
 (93, ⟨1, false, [.nilFunc], .other⟩),
 (94, ⟨1, false, [.nilFunc], .other⟩),
 (95, ⟨1, false, [.nilFunc], .other⟩),
 (96, ⟨1, false, [.nilFunc], .other⟩),
 (97, ⟨1, false, [.nilFunc], .other⟩),
 (98, ⟨1, false, [.nilFunc], .other⟩),
 (99, ⟨1, false, [.nilFunc], .other⟩),
 (100, ⟨1, false, [.nilFunc], .other⟩),
 (101, ⟨1, false, [.nilFunc], .other⟩),
 (103, ⟨1, false, [.nilFunc], .other⟩),
 (104, ⟨1, false, [.nilFunc], .other⟩),
 (105, ⟨1, false, [.nilFunc], .other⟩),
 (106, ⟨1, false, [.nilFunc], .other⟩),
 (107, ⟨1, false, [.nilFunc], .other⟩),
 (109, ⟨1, false, [.nilFunc], .other⟩),
 (110, ⟨3, true, [.string ⟨#[]⟩, .string ⟨#[]⟩, .int .i64 0], .struct [(0, 1, false), (1, 1, false), (2, 1, false)]⟩),
 (111, ⟨3, true, [.string ⟨#[]⟩, .string ⟨#[]⟩, .int .i64 0], .struct [(0, 1, false), (1, 1, false), (2, 1, false)]⟩),
 (113, ⟨1, false, [.nilFunc], .other⟩),
 (114, ⟨3, true, [.string ⟨#[]⟩, .string ⟨#[]⟩, .int .i64 0], .struct [(0, 1, false), (1, 1, false), (2, 1, false)]⟩),
 (115, ⟨1, false, [.nilFunc], .other⟩),
 (116, ⟨1, false, [.nilFunc], .other⟩),
 (117, ⟨1, false, [.nilFunc], .other⟩),
 (118, ⟨3, true, [.int .i64 0, .string ⟨#[]⟩, .int .i64 0], .struct [(0, 1, false), (1, 1, false), (2, 1, false)]⟩),
 (119, ⟨3, true, [.int .i64 0, .string ⟨#[]⟩, .int .i64 0], .struct [(0, 1, false), (1, 1, false), (2, 1, false)]⟩),
 (121, ⟨1, false, [.nilFunc], .other⟩),
 (123, ⟨1, false, [.nilFunc], .other⟩),
 (125, ⟨1, false, [.nilFunc], .other⟩),
 (126, ⟨1, false, [.nilFunc], .other⟩),
 (127, ⟨1, false, [.nilFunc], .other⟩),
 (128, ⟨1, false, [.nilFunc], .other⟩),
 (129, ⟨9, true, [.bool false, .int .i64 0, .int .i64 0, .int .i64 0, .string ⟨#[]⟩, .string ⟨#[]⟩, .string ⟨#[]⟩, .int .i64 0, .slice none 0 0], .struct [(0, 1, false), (1, 8, true)]⟩),
 (130, ⟨9, true, [.bool false, .int .i64 0, .int .i64 0, .int .i64 0, .string ⟨#[]⟩, .string ⟨#[]⟩, .string ⟨#[]⟩, .int .i64 0, .slice none 0 0], .struct [(0, 1, false), (1, 8, true)]⟩),
 (131, ⟨1, false, [.nilFunc], .other⟩),
 (132, ⟨3, true, [.string ⟨#[]⟩, .string ⟨#[]⟩, .slice none 0 0], .struct [(0, 1, false), (1, 1, false), (2, 1, false)]⟩),
 (133, ⟨3, true, [.string ⟨#[]⟩, .string ⟨#[]⟩, .slice none 0 0], .struct [(0, 1, false), (1, 1, false), (2, 1, false)]⟩),
 (134, ⟨1, false, [.nilFunc], .other⟩),
 (135, ⟨1, false, [.nilFunc], .other⟩),
 (136, ⟨9, true, [.int .i64 0, .int .i64 0, .int .i64 0, .string ⟨#[]⟩, .string ⟨#[]⟩, .string ⟨#[]⟩, .int .i64 0, .slice none 0 0, .bool false], .struct [(0, 8, true), (8, 1, false)]⟩),
 (137, ⟨9, true, [.int .i64 0, .int .i64 0, .int .i64 0, .string ⟨#[]⟩, .string ⟨#[]⟩, .string ⟨#[]⟩, .int .i64 0, .slice none 0 0, .bool false], .struct [(0, 8, true), (8, 1, false)]⟩),
 (138, ⟨1, false, [.nilFunc], .other⟩),
 (139, ⟨1, false, [.nilFunc], .other⟩),
 (140, ⟨1, false, [.nilFunc], .other⟩),
 (141, ⟨1, false, [.pointer none], .other⟩),
 (142, ⟨2, true, [.slice none 0 0, .int .i64 0], .struct [(0, 1, false), (1, 1, false)]⟩),
 (143, ⟨2, true, [.slice none 0 0, .int .i64 0], .struct [(0, 1, false), (1, 1, false)]⟩),
 (144, ⟨1, false, [.nilFunc], .other⟩),
 (145, ⟨1, false, [.slice none 0 0], .slice 5 1 1 [.int .u8 0]⟩),
 (147, ⟨1, false, [.nilFunc], .other⟩),
 (148, ⟨1, false, [.nilFunc], .other⟩),
 (149, ⟨2, true, [.int .i64 0, .int .i64 0], .arr 2 1 false⟩),
 (150, ⟨1, false, [.nilFunc], .other⟩),
 (151, ⟨1, false, [.nilFunc], .other⟩),
 (152, ⟨1, false, [.nilFunc], .other⟩),
 (153, ⟨6, true, [.bool false, .bool false, .bool false, .bool false, .bool false, .bool false], .arr 6 1 false⟩),
 (154, ⟨1, false, [.nilFunc], .other⟩),
 (155, ⟨1, false, [.int .u64 0], .int .u64⟩),
 (156, ⟨1, false, [.nilFunc], .other⟩),
 (157, ⟨1, false, [.int .i64 0], .int .i64⟩),
 (159, ⟨1, false, [.nilFunc], .other⟩),
 (160, ⟨1, false, [.nilFunc], .other⟩),
 (161, ⟨1, false, [.nilFunc], .other⟩),
 (162, ⟨1, false, [.nilFunc], .other⟩),
 (163, ⟨1, false, [.nilFunc], .other⟩),
 (164, ⟨1, false, [.nilFunc], .other⟩),
 (165, ⟨1, false, [.int .u64 0], .int .u64⟩),
 (166, ⟨1, false, [.nilFunc], .other⟩),
 (167, ⟨1, false, [.nilFunc], .other⟩),
 (169, ⟨1, false, [.nilFunc], .other⟩),
 (170, ⟨1, false, [.nilFunc], .other⟩),
 (171, ⟨1, false, [.slice none 0 0], .slice 144 1 8 [.nilFunc]⟩),
 (172, ⟨1, false, [.nilFunc], .other⟩),
 (173, ⟨1, false, [.nilFunc], .other⟩),
 (174, ⟨1, false, [.nilFunc], .other⟩),
 (175, ⟨1, false, [.nilFunc], .other⟩),
 (176, ⟨1, false, [.nilFunc], .other⟩),
 (177, ⟨1, false, [.nilFunc], .other⟩),
 (178, ⟨1, false, [.pointer none], .other⟩),
 (179, ⟨4, true, [.string ⟨#[]⟩, .string ⟨#[]⟩, .string ⟨#[]⟩, .string ⟨#[]⟩], .arr 4 1 false⟩),
 (180, ⟨13, true, [.string ⟨#[]⟩, .string ⟨#[]⟩, .string ⟨#[]⟩, .string ⟨#[]⟩, .string ⟨#[]⟩, .string ⟨#[]⟩, .string ⟨#[]⟩, .string ⟨#[]⟩, .string ⟨#[]⟩, .string ⟨#[]⟩, .string ⟨#[]⟩, .string ⟨#[]⟩, .string ⟨#[]⟩], .arr 13 1 false⟩),
 (181, ⟨13, true, [.int .i64 0, .int .i64 0, .int .i64 0, .int .i64 0, .int .i64 0, .int .i64 0, .int .i64 0, .int .i64 0, .int .i64 0, .int .i64 0, .int .i64 0, .int .i64 0, .int .i64 0], .arr 13 1 false⟩),
 (182, ⟨1, false, [.nilFunc], .other⟩),
 (183, ⟨1, false, [.nilFunc], .other⟩),
 (184, ⟨1, false, [.slice none 0 0], .slice 4 1 1 [.bool false]⟩),
 (185, ⟨1, false, [.nilFunc], .other⟩),
 (186, ⟨1, false, [.nilFunc], .other⟩),
 (187, ⟨1, false, [.nilFunc], .other⟩),
 (188, ⟨1, false, [.nilFunc], .other⟩),
 (189, ⟨1, false, [.nilFunc], .other⟩),
 (195, ⟨1, false, [.nilFunc], .other⟩),
 (196, ⟨1, false, [.int .u32 0], .int .u32⟩),
 (199, ⟨1, false, [.nilFunc], .other⟩),
 (200, ⟨1, false, [.pointer none], .other⟩)]
def cxQ : List (TypeId × List EK) := [(52, [.str, .int, .bool, .bool]), (56, [.int, .int, .str]), (111, [.str, .str, .int]), (114, [.str, .str, .int]), (119, [.int, .str, .int])]
def cx : Ctx := tabCtx cxL [] cxQ
theorem cx_ok : cx.ok Tryz.prog := tabCtx_ok (by kernel_rfl) (by kernel_rfl)
theorem dr_ok : DrawOk Tryz.prog (aDraw Tryz.prog cx) := aDraw_ok cx_ok (by kernel_rfl)
theorem cx_muts : cx.muts = [] := nr rfl
theorem cx_2 : cx.ty 2 = some ⟨1, false, [.int .i64 0], .int .i64⟩ := nr rfl
theorem ck_2 : cx.kind 2 = some (.int .i64) := nr rfl
theorem cx_3 : cx.ty 3 = some ⟨1, false, [.int .i64 0], .int .i64⟩ := nr rfl
theorem ck_3 : cx.kind 3 = some (.int .i64) := nr rfl
theorem cx_4 : cx.ty 4 = some ⟨1, false, [.bool false], .bool⟩ := nr rfl
theorem ck_4 : cx.kind 4 = some (.bool) := nr rfl
theorem cx_5 : cx.ty 5 = some ⟨1, false, [.int .u8 0], .int .u8⟩ := nr rfl
theorem ck_5 : cx.kind 5 = some (.int .u8) := nr rfl
theorem cx_9 : cx.ty 9 = some ⟨1, false, [.string ⟨#[]⟩], .str⟩ := nr rfl
theorem ck_9 : cx.kind 9 = some (.str) := nr rfl
theorem cx_22 : cx.ty 22 = some ⟨1, false, [.slice none 0 0], .slice 52 4 32 [.string ⟨#[]⟩, .int .i64 0, .bool false, .bool false]⟩ := nr rfl
theorem ck_22 : cx.kind 22 = some (.slice 52 4 32 [.string ⟨#[]⟩, .int .i64 0, .bool false, .bool false]) := nr rfl
theorem ks_22 {e : Nat} {ls : List (List PV)} : lenA cx 22 (.p (.sl e ls)) = some ls.length := nr (len_sl ck_22)
theorem ko_22 {t e : Nat} {ls : List (List PV)} : lenA cx 22 (.own t e ls) = some ls.length := nr (len_own ck_22)
theorem kn_22 {t e : Nat} {ls : List (List PV)} : lenA cx 22 (.nown t e ls) = some ls.length := nr (len_nown ck_22)
theorem kz_22 : lenA cx 22 (.p (.v (.slice none 0 0))) = some 0 := nr (len_nil ck_22)
theorem cx_24 : cx.ty 24 = some ⟨2, true, [.string ⟨#[]⟩, .slice none 0 0], .struct [(0, 1, false), (1, 1, false)]⟩ := nr rfl
theorem ck_24 : cx.kind 24 = some (.struct [(0, 1, false), (1, 1, false)]) := nr rfl
theorem cx_25 : cx.ty 25 = some ⟨1, false, [.slice none 0 0], .slice 58 1 24 [.slice none 0 0]⟩ := nr rfl
theorem ck_25 : cx.kind 25 = some (.slice 58 1 24 [.slice none 0 0]) := nr rfl
theorem ks_25 {e : Nat} {ls : List (List PV)} : lenA cx 25 (.p (.sl e ls)) = some ls.length := nr (len_sl ck_25)
theorem ko_25 {t e : Nat} {ls : List (List PV)} : lenA cx 25 (.own t e ls) = some ls.length := nr (len_own ck_25)
theorem kn_25 {t e : Nat} {ls : List (List PV)} : lenA cx 25 (.nown t e ls) = some ls.length := nr (len_nown ck_25)
theorem kz_25 : lenA cx 25 (.p (.v (.slice none 0 0))) = some 0 := nr (len_nil ck_25)
theorem cx_27 : cx.ty 27 = some ⟨4, true, [.string ⟨#[]⟩, .string ⟨#[]⟩, .slice none 0 0, .slice none 0 0], .struct [(0, 1, false), (1, 2, true), (3, 1, false)]⟩ := nr rfl
theorem ck_27 : cx.kind 27 = some (.struct [(0, 1, false), (1, 2, true), (3, 1, false)]) := nr rfl
theorem cx_29 : cx.ty 29 = some ⟨1, false, [.slice none 0 0], .slice 9 1 16 [.string ⟨#[]⟩]⟩ := nr rfl
theorem ck_29 : cx.kind 29 = some (.slice 9 1 16 [.string ⟨#[]⟩]) := nr rfl
theorem ks_29 {e : Nat} {ls : List (List PV)} : lenA cx 29 (.p (.sl e ls)) = some ls.length := nr (len_sl ck_29)
theorem ko_29 {t e : Nat} {ls : List (List PV)} : lenA cx 29 (.own t e ls) = some ls.length := nr (len_own ck_29)
theorem kn_29 {t e : Nat} {ls : List (List PV)} : lenA cx 29 (.nown t e ls) = some ls.length := nr (len_nown ck_29)
theorem kz_29 : lenA cx 29 (.p (.v (.slice none 0 0))) = some 0 := nr (len_nil ck_29)
theorem cx_30 : cx.ty 30 = some ⟨1, false, [.slice none 0 0], .slice 33 1 24 [.slice none 0 0]⟩ := nr rfl
theorem ck_30 : cx.kind 30 = some (.slice 33 1 24 [.slice none 0 0]) := nr rfl
theorem ks_30 {e : Nat} {ls : List (List PV)} : lenA cx 30 (.p (.sl e ls)) = some ls.length := nr (len_sl ck_30)
theorem ko_30 {t e : Nat} {ls : List (List PV)} : lenA cx 30 (.own t e ls) = some ls.length := nr (len_own ck_30)
theorem kn_30 {t e : Nat} {ls : List (List PV)} : lenA cx 30 (.nown t e ls) = some ls.length := nr (len_nown ck_30)
theorem kz_30 : lenA cx 30 (.p (.v (.slice none 0 0))) = some 0 := nr (len_nil ck_30)
theorem cx_31 : cx.ty 31 = some ⟨1, false, [.slice none 0 0], .slice 130 9 112 [.bool false, .int .i64 0, .int .i64 0, .int .i64 0, .string ⟨#[]⟩, .string ⟨#[]⟩, .string ⟨#[]⟩, .int .i64 0, .slice none 0 0]⟩ := nr rfl
theorem ck_31 : cx.kind 31 = some (.slice 130 9 112 [.bool false, .int .i64 0, .int .i64 0, .int .i64 0, .string ⟨#[]⟩, .string ⟨#[]⟩, .string ⟨#[]⟩, .int .i64 0, .slice none 0 0]) := nr rfl
theorem ks_31 {e : Nat} {ls : List (List PV)} : lenA cx 31 (.p (.sl e ls)) = some ls.length := nr (len_sl ck_31)
theorem ko_31 {t e : Nat} {ls : List (List PV)} : lenA cx 31 (.own t e ls) = some ls.length := nr (len_own ck_31)
theorem kn_31 {t e : Nat} {ls : List (List PV)} : lenA cx 31 (.nown t e ls) = some ls.length := nr (len_nown ck_31)
theorem kz_31 : lenA cx 31 (.p (.v (.slice none 0 0))) = some 0 := nr (len_nil ck_31)
theorem cx_32 : cx.ty 32 = some ⟨1, false, [.slice none 0 0], .slice 133 3 56 [.string ⟨#[]⟩, .string ⟨#[]⟩, .slice none 0 0]⟩ := nr rfl
theorem ck_32 : cx.kind 32 = some (.slice 133 3 56 [.string ⟨#[]⟩, .string ⟨#[]⟩, .slice none 0 0]) := nr rfl
theorem ks_32 {e : Nat} {ls : List (List PV)} : lenA cx 32 (.p (.sl e ls)) = some ls.length := nr (len_sl ck_32)
theorem ko_32 {t e : Nat} {ls : List (List PV)} : lenA cx 32 (.own t e ls) = some ls.length := nr (len_own ck_32)
theorem kn_32 {t e : Nat} {ls : List (List PV)} : lenA cx 32 (.nown t e ls) = some ls.length := nr (len_nown ck_32)
theorem kz_32 : lenA cx 32 (.p (.v (.slice none 0 0))) = some 0 := nr (len_nil ck_32)
theorem cx_33 : cx.ty 33 = some ⟨1, false, [.slice none 0 0], .slice 70 8 104 [.int .i64 0, .int .i64 0, .int .i64 0, .string ⟨#[]⟩, .string ⟨#[]⟩, .string ⟨#[]⟩, .int .i64 0, .slice none 0 0]⟩ := nr rfl
theorem ck_33 : cx.kind 33 = some (.slice 70 8 104 [.int .i64 0, .int .i64 0, .int .i64 0, .string ⟨#[]⟩, .string ⟨#[]⟩, .string ⟨#[]⟩, .int .i64 0, .slice none 0 0]) := nr rfl
theorem ks_33 {e : Nat} {ls : List (List PV)} : lenA cx 33 (.p (.sl e ls)) = some ls.length := nr (len_sl ck_33)
theorem ko_33 {t e : Nat} {ls : List (List PV)} : lenA cx 33 (.own t e ls) = some ls.length := nr (len_own ck_33)
theorem kn_33 {t e : Nat} {ls : List (List PV)} : lenA cx 33 (.nown t e ls) = some ls.length := nr (len_nown ck_33)
theorem kz_33 : lenA cx 33 (.p (.v (.slice none 0 0))) = some 0 := nr (len_nil ck_33)
theorem cx_34 : cx.ty 34 = some ⟨1, false, [.slice none 0 0], .slice 137 9 112 [.int .i64 0, .int .i64 0, .int .i64 0, .string ⟨#[]⟩, .string ⟨#[]⟩, .string ⟨#[]⟩, .int .i64 0, .slice none 0 0, .bool false]⟩ := nr rfl
theorem ck_34 : cx.kind 34 = some (.slice 137 9 112 [.int .i64 0, .int .i64 0, .int .i64 0, .string ⟨#[]⟩, .string ⟨#[]⟩, .string ⟨#[]⟩, .int .i64 0, .slice none 0 0, .bool false]) := nr rfl
theorem ks_34 {e : Nat} {ls : List (List PV)} : lenA cx 34 (.p (.sl e ls)) = some ls.length := nr (len_sl ck_34)
theorem ko_34 {t e : Nat} {ls : List (List PV)} : lenA cx 34 (.own t e ls) = some ls.length := nr (len_own ck_34)
theorem kn_34 {t e : Nat} {ls : List (List PV)} : lenA cx 34 (.nown t e ls) = some ls.length := nr (len_nown ck_34)
theorem kz_34 : lenA cx 34 (.p (.v (.slice none 0 0))) = some 0 := nr (len_nil ck_34)
theorem cx_36 : cx.ty 36 = some ⟨14, true, [.int .i64 0, .string ⟨#[]⟩, .string ⟨#[]⟩, .slice none 0 0, .slice none 0 0, .slice none 0 0, .slice none 0 0, .slice none 0 0, .slice none 0 0, .slice none 0 0, .slice none 0 0, .int .i64 0, .slice none 0 0, .bool false], .struct [(0, 1, false), (1, 1, false), (2, 1, false), (3, 1, false), (4, 1, false), (5, 1, false), (6, 1, false), (7, 1, false), (8, 1, false), (9, 1, false), (10, 1, false), (11, 1, false), (12, 1, false), (13, 1, false)]⟩ := nr rfl
theorem ck_36 : cx.kind 36 = some (.struct [(0, 1, false), (1, 1, false), (2, 1, false), (3, 1, false), (4, 1, false), (5, 1, false), (6, 1, false), (7, 1, false), (8, 1, false), (9, 1, false), (10, 1, false), (11, 1, false), (12, 1, false), (13, 1, false)]) := nr rfl
theorem cx_39 : cx.ty 39 = some ⟨1, false, [.int .i64 0], .int .i64⟩ := nr rfl
theorem ck_39 : cx.kind 39 = some (.int .i64) := nr rfl
theorem cx_46 : cx.ty 46 = some ⟨1, false, [.slice none 0 0], .slice 60 3 64 [.string ⟨#[]⟩, .slice none 0 0, .slice none 0 0]⟩ := nr rfl
theorem ck_46 : cx.kind 46 = some (.slice 60 3 64 [.string ⟨#[]⟩, .slice none 0 0, .slice none 0 0]) := nr rfl
theorem ks_46 {e : Nat} {ls : List (List PV)} : lenA cx 46 (.p (.sl e ls)) = some ls.length := nr (len_sl ck_46)
theorem ko_46 {t e : Nat} {ls : List (List PV)} : lenA cx 46 (.own t e ls) = some ls.length := nr (len_own ck_46)
theorem kn_46 {t e : Nat} {ls : List (List PV)} : lenA cx 46 (.nown t e ls) = some ls.length := nr (len_nown ck_46)
theorem kz_46 : lenA cx 46 (.p (.v (.slice none 0 0))) = some 0 := nr (len_nil ck_46)
theorem cx_52 : cx.ty 52 = some ⟨4, true, [.string ⟨#[]⟩, .int .i64 0, .bool false, .bool false], .struct [(0, 1, false), (1, 1, false), (2, 1, false), (3, 1, false)]⟩ := nr rfl
theorem ck_52 : cx.kind 52 = some (.struct [(0, 1, false), (1, 1, false), (2, 1, false), (3, 1, false)]) := nr rfl
theorem cx_56 : cx.ty 56 = some ⟨3, true, [.int .i64 0, .int .i64 0, .string ⟨#[]⟩], .struct [(0, 1, false), (1, 1, false), (2, 1, false)]⟩ := nr rfl
theorem ck_56 : cx.kind 56 = some (.struct [(0, 1, false), (1, 1, false), (2, 1, false)]) := nr rfl
theorem cx_58 : cx.ty 58 = some ⟨1, false, [.slice none 0 0], .slice 56 3 32 [.int .i64 0, .int .i64 0, .string ⟨#[]⟩]⟩ := nr rfl
theorem ck_58 : cx.kind 58 = some (.slice 56 3 32 [.int .i64 0, .int .i64 0, .string ⟨#[]⟩]) := nr rfl
theorem ks_58 {e : Nat} {ls : List (List PV)} : lenA cx 58 (.p (.sl e ls)) = some ls.length := nr (len_sl ck_58)
theorem ko_58 {t e : Nat} {ls : List (List PV)} : lenA cx 58 (.own t e ls) = some ls.length := nr (len_own ck_58)
theorem kn_58 {t e : Nat} {ls : List (List PV)} : lenA cx 58 (.nown t e ls) = some ls.length := nr (len_nown ck_58)
theorem kz_58 : lenA cx 58 (.p (.v (.slice none 0 0))) = some 0 := nr (len_nil ck_58)
theorem cx_60 : cx.ty 60 = some ⟨3, true, [.string ⟨#[]⟩, .slice none 0 0, .slice none 0 0], .struct [(0, 1, false), (1, 1, false), (2, 1, false)]⟩ := nr rfl
theorem ck_60 : cx.kind 60 = some (.struct [(0, 1, false), (1, 1, false), (2, 1, false)]) := nr rfl
theorem cx_62 : cx.ty 62 = some ⟨1, false, [.slice none 0 0], .slice 3 1 8 [.int .i64 0]⟩ := nr rfl
theorem ck_62 : cx.kind 62 = some (.slice 3 1 8 [.int .i64 0]) := nr rfl
theorem ks_62 {e : Nat} {ls : List (List PV)} : lenA cx 62 (.p (.sl e ls)) = some ls.length := nr (len_sl ck_62)
theorem ko_62 {t e : Nat} {ls : List (List PV)} : lenA cx 62 (.own t e ls) = some ls.length := nr (len_own ck_62)
theorem kn_62 {t e : Nat} {ls : List (List PV)} : lenA cx 62 (.nown t e ls) = some ls.length := nr (len_nown ck_62)
theorem kz_62 : lenA cx 62 (.p (.v (.slice none 0 0))) = some 0 := nr (len_nil ck_62)
theorem cx_70 : cx.ty 70 = some ⟨8, true, [.int .i64 0, .int .i64 0, .int .i64 0, .string ⟨#[]⟩, .string ⟨#[]⟩, .string ⟨#[]⟩, .int .i64 0, .slice none 0 0], .struct [(0, 1, false), (1, 3, true), (4, 1, false), (5, 1, false), (6, 1, false), (7, 1, false)]⟩ := nr rfl
theorem ck_70 : cx.kind 70 = some (.struct [(0, 1, false), (1, 3, true), (4, 1, false), (5, 1, false), (6, 1, false), (7, 1, false)]) := nr rfl
theorem cx_78 : cx.ty 78 = some ⟨1, false, [.slice none 0 0], .slice 111 3 32 [.string ⟨#[]⟩, .string ⟨#[]⟩, .int .i64 0]⟩ := nr rfl
theorem ck_78 : cx.kind 78 = some (.slice 111 3 32 [.string ⟨#[]⟩, .string ⟨#[]⟩, .int .i64 0]) := nr rfl
theorem ks_78 {e : Nat} {ls : List (List PV)} : lenA cx 78 (.p (.sl e ls)) = some ls.length := nr (len_sl ck_78)
theorem ko_78 {t e : Nat} {ls : List (List PV)} : lenA cx 78 (.own t e ls) = some ls.length := nr (len_own ck_78)
theorem kn_78 {t e : Nat} {ls : List (List PV)} : lenA cx 78 (.nown t e ls) = some ls.length := nr (len_nown ck_78)
theorem kz_78 : lenA cx 78 (.p (.v (.slice none 0 0))) = some 0 := nr (len_nil ck_78)
theorem cx_80 : cx.ty 80 = some ⟨1, false, [.slice none 0 0], .slice 114 3 32 [.string ⟨#[]⟩, .string ⟨#[]⟩, .int .i64 0]⟩ := nr rfl
theorem ck_80 : cx.kind 80 = some (.slice 114 3 32 [.string ⟨#[]⟩, .string ⟨#[]⟩, .int .i64 0]) := nr rfl
theorem ks_80 {e : Nat} {ls : List (List PV)} : lenA cx 80 (.p (.sl e ls)) = some ls.length := nr (len_sl ck_80)
theorem ko_80 {t e : Nat} {ls : List (List PV)} : lenA cx 80 (.own t e ls) = some ls.length := nr (len_own ck_80)
theorem kn_80 {t e : Nat} {ls : List (List PV)} : lenA cx 80 (.nown t e ls) = some ls.length := nr (len_nown ck_80)
theorem kz_80 : lenA cx 80 (.p (.v (.slice none 0 0))) = some 0 := nr (len_nil ck_80)
theorem cx_85 : cx.ty 85 = some ⟨1, false, [.slice none 0 0], .slice 119 3 32 [.int .i64 0, .string ⟨#[]⟩, .int .i64 0]⟩ := nr rfl
theorem ck_85 : cx.kind 85 = some (.slice 119 3 32 [.int .i64 0, .string ⟨#[]⟩, .int .i64 0]) := nr rfl
theorem ks_85 {e : Nat} {ls : List (List PV)} : lenA cx 85 (.p (.sl e ls)) = some ls.length := nr (len_sl ck_85)
theorem ko_85 {t e : Nat} {ls : List (List PV)} : lenA cx 85 (.own t e ls) = some ls.length := nr (len_own ck_85)
theorem kn_85 {t e : Nat} {ls : List (List PV)} : lenA cx 85 (.nown t e ls) = some ls.length := nr (len_nown ck_85)
theorem kz_85 : lenA cx 85 (.p (.v (.slice none 0 0))) = some 0 := nr (len_nil ck_85)
theorem cx_88 : cx.ty 88 = some ⟨1, false, [.pointer none], .other⟩ := nr rfl
theorem ck_88 : cx.kind 88 = some (.other) := nr rfl
theorem cx_90 : cx.ty 90 = some ⟨3, true, [.slice none 0 0, .int .i64 0, .bool false], .struct [(0, 1, false), (1, 1, false), (2, 1, false)]⟩ := nr rfl
theorem ck_90 : cx.kind 90 = some (.struct [(0, 1, false), (1, 1, false), (2, 1, false)]) := nr rfl
theorem cx_99 : cx.ty 99 = some ⟨1, false, [.nilFunc], .other⟩ := nr rfl
theorem ck_99 : cx.kind 99 = some (.other) := nr rfl
theorem cx_106 : cx.ty 106 = some ⟨1, false, [.nilFunc], .other⟩ := nr rfl
theorem ck_106 : cx.kind 106 = some (.other) := nr rfl
theorem cx_111 : cx.ty 111 = some ⟨3, true, [.string ⟨#[]⟩, .string ⟨#[]⟩, .int .i64 0], .struct [(0, 1, false), (1, 1, false), (2, 1, false)]⟩ := nr rfl
theorem ck_111 : cx.kind 111 = some (.struct [(0, 1, false), (1, 1, false), (2, 1, false)]) := nr rfl
theorem cx_114 : cx.ty 114 = some ⟨3, true, [.string ⟨#[]⟩, .string ⟨#[]⟩, .int .i64 0], .struct [(0, 1, false), (1, 1, false), (2, 1, false)]⟩ := nr rfl
theorem ck_114 : cx.kind 114 = some (.struct [(0, 1, false), (1, 1, false), (2, 1, false)]) := nr rfl
theorem cx_119 : cx.ty 119 = some ⟨3, true, [.int .i64 0, .string ⟨#[]⟩, .int .i64 0], .struct [(0, 1, false), (1, 1, false), (2, 1, false)]⟩ := nr rfl
theorem ck_119 : cx.kind 119 = some (.struct [(0, 1, false), (1, 1, false), (2, 1, false)]) := nr rfl
theorem cx_130 : cx.ty 130 = some ⟨9, true, [.bool false, .int .i64 0, .int .i64 0, .int .i64 0, .string ⟨#[]⟩, .string ⟨#[]⟩, .string ⟨#[]⟩, .int .i64 0, .slice none 0 0], .struct [(0, 1, false), (1, 8, true)]⟩ := nr rfl
theorem ck_130 : cx.kind 130 = some (.struct [(0, 1, false), (1, 8, true)]) := nr rfl
theorem cx_133 : cx.ty 133 = some ⟨3, true, [.string ⟨#[]⟩, .string ⟨#[]⟩, .slice none 0 0], .struct [(0, 1, false), (1, 1, false), (2, 1, false)]⟩ := nr rfl
theorem ck_133 : cx.kind 133 = some (.struct [(0, 1, false), (1, 1, false), (2, 1, false)]) := nr rfl
theorem cx_137 : cx.ty 137 = some ⟨9, true, [.int .i64 0, .int .i64 0, .int .i64 0, .string ⟨#[]⟩, .string ⟨#[]⟩, .string ⟨#[]⟩, .int .i64 0, .slice none 0 0, .bool false], .struct [(0, 8, true), (8, 1, false)]⟩ := nr rfl
theorem ck_137 : cx.kind 137 = some (.struct [(0, 8, true), (8, 1, false)]) := nr rfl
theorem cx_141 : cx.ty 141 = some ⟨1, false, [.pointer none], .other⟩ := nr rfl
theorem ck_141 : cx.kind 141 = some (.other) := nr rfl
theorem cx_143 : cx.ty 143 = some ⟨2, true, [.slice none 0 0, .int .i64 0], .struct [(0, 1, false), (1, 1, false)]⟩ := nr rfl
theorem ck_143 : cx.kind 143 = some (.struct [(0, 1, false), (1, 1, false)]) := nr rfl
theorem cx_144 : cx.ty 144 = some ⟨1, false, [.nilFunc], .other⟩ := nr rfl
theorem ck_144 : cx.kind 144 = some (.other) := nr rfl
theorem cx_145 : cx.ty 145 = some ⟨1, false, [.slice none 0 0], .slice 5 1 1 [.int .u8 0]⟩ := nr rfl
theorem ck_145 : cx.kind 145 = some (.slice 5 1 1 [.int .u8 0]) := nr rfl
theorem ks_145 {e : Nat} {ls : List (List PV)} : lenA cx 145 (.p (.sl e ls)) = some ls.length := nr (len_sl ck_145)
theorem ko_145 {t e : Nat} {ls : List (List PV)} : lenA cx 145 (.own t e ls) = some ls.length := nr (len_own ck_145)
theorem kn_145 {t e : Nat} {ls : List (List PV)} : lenA cx 145 (.nown t e ls) = some ls.length := nr (len_nown ck_145)
theorem kz_145 : lenA cx 145 (.p (.v (.slice none 0 0))) = some 0 := nr (len_nil ck_145)
theorem cx_149 : cx.ty 149 = some ⟨2, true, [.int .i64 0, .int .i64 0], .arr 2 1 false⟩ := nr rfl
theorem ck_149 : cx.kind 149 = some (.arr 2 1 false) := nr rfl
theorem cx_153 : cx.ty 153 = some ⟨6, true, [.bool false, .bool false, .bool false, .bool false, .bool false, .bool false], .arr 6 1 false⟩ := nr rfl
theorem ck_153 : cx.kind 153 = some (.arr 6 1 false) := nr rfl
theorem cx_157 : cx.ty 157 = some ⟨1, false, [.int .i64 0], .int .i64⟩ := nr rfl
theorem ck_157 : cx.kind 157 = some (.int .i64) := nr rfl
theorem cx_165 : cx.ty 165 = some ⟨1, false, [.int .u64 0], .int .u64⟩ := nr rfl
theorem ck_165 : cx.kind 165 = some (.int .u64) := nr rfl
theorem cx_171 : cx.ty 171 = some ⟨1, false, [.slice none 0 0], .slice 144 1 8 [.nilFunc]⟩ := nr rfl
theorem ck_171 : cx.kind 171 = some (.slice 144 1 8 [.nilFunc]) := nr rfl
theorem ks_171 {e : Nat} {ls : List (List PV)} : lenA cx 171 (.p (.sl e ls)) = some ls.length := nr (len_sl ck_171)
theorem ko_171 {t e : Nat} {ls : List (List PV)} : lenA cx 171 (.own t e ls) = some ls.length := nr (len_own ck_171)
theorem kn_171 {t e : Nat} {ls : List (List PV)} : lenA cx 171 (.nown t e ls) = some ls.length := nr (len_nown ck_171)
theorem kz_171 : lenA cx 171 (.p (.v (.slice none 0 0))) = some 0 := nr (len_nil ck_171)
theorem cx_179 : cx.ty 179 = some ⟨4, true, [.string ⟨#[]⟩, .string ⟨#[]⟩, .string ⟨#[]⟩, .string ⟨#[]⟩], .arr 4 1 false⟩ := nr rfl
theorem ck_179 : cx.kind 179 = some (.arr 4 1 false) := nr rfl
theorem cx_180 : cx.ty 180 = some ⟨13, true, [.string ⟨#[]⟩, .string ⟨#[]⟩, .string ⟨#[]⟩, .string ⟨#[]⟩, .string ⟨#[]⟩, .string ⟨#[]⟩, .string ⟨#[]⟩, .string ⟨#[]⟩, .string ⟨#[]⟩, .string ⟨#[]⟩, .string ⟨#[]⟩, .string ⟨#[]⟩, .string ⟨#[]⟩], .arr 13 1 false⟩ := nr rfl
theorem ck_180 : cx.kind 180 = some (.arr 13 1 false) := nr rfl
theorem cx_181 : cx.ty 181 = some ⟨13, true, [.int .i64 0, .int .i64 0, .int .i64 0, .int .i64 0, .int .i64 0, .int .i64 0, .int .i64 0, .int .i64 0, .int .i64 0, .int .i64 0, .int .i64 0, .int .i64 0, .int .i64 0], .arr 13 1 false⟩ := nr rfl
theorem ck_181 : cx.kind 181 = some (.arr 13 1 false) := nr rfl
theorem cx_184 : cx.ty 184 = some ⟨1, false, [.slice none 0 0], .slice 4 1 1 [.bool false]⟩ := nr rfl
theorem ck_184 : cx.kind 184 = some (.slice 4 1 1 [.bool false]) := nr rfl
theorem ks_184 {e : Nat} {ls : List (List PV)} : lenA cx 184 (.p (.sl e ls)) = some ls.length := nr (len_sl ck_184)
theorem ko_184 {t e : Nat} {ls : List (List PV)} : lenA cx 184 (.own t e ls) = some ls.length := nr (len_own ck_184)
theorem kn_184 {t e : Nat} {ls : List (List PV)} : lenA cx 184 (.nown t e ls) = some ls.length := nr (len_nown ck_184)
theorem kz_184 : lenA cx 184 (.p (.v (.slice none 0 0))) = some 0 := nr (len_nil ck_184)
theorem ce_52 : cx.eqs 52 = some [.str, .int, .bool, .bool] := nr rfl
theorem ce_56 : cx.eqs 56 = some [.int, .int, .str] := nr rfl
theorem ce_111 : cx.eqs 111 = some [.str, .str, .int] := nr rfl
theorem ce_114 : cx.eqs 114 = some [.str, .str, .int] := nr rfl
theorem ce_119 : cx.eqs 119 = some [.int, .str, .int] := nr rfl
theorem ca_2_1_false : arrF 2 1 false = [(0, 1, false), (1, 1, false)] := nr rfl
theorem ca_4_1_false : arrF 4 1 false = [(0, 1, false), (1, 1, false), (2, 1, false), (3, 1, false)] := nr rfl
theorem ca_6_1_false : arrF 6 1 false = [(0, 1, false), (1, 1, false), (2, 1, false), (3, 1, false), (4, 1, false), (5, 1, false)] := nr rfl
theorem ca_13_1_false : arrF 13 1 false = [(0, 1, false), (1, 1, false), (2, 1, false), (3, 1, false), (4, 1, false), (5, 1, false), (6, 1, false), (7, 1, false), (8, 1, false), (9, 1, false), (10, 1, false), (11, 1, false), (12, 1, false)] := nr rfl
theorem cx_arr : (type_of% ca_2_1_false) ∧ (type_of% ca_4_1_false) ∧ (type_of% ca_6_1_false) ∧ (type_of% ca_13_1_false) := ⟨ca_2_1_false, ca_4_1_false, ca_6_1_false, ca_13_1_false⟩
theorem aa {p q : Prop} (h : p) (k : q) : p ∧ q := ⟨h, k⟩
def T2 := aa ck_2 cx_2
def T3 := aa ck_3 cx_3
def T4 := aa ck_4 cx_4
def T5 := aa ck_5 cx_5
def T9 := aa ck_9 cx_9
def T22 := aa ck_22 <| aa cx_22 <| aa @ks_22 <| aa @ko_22 <| aa @kn_22 kz_22
def T24 := aa ck_24 cx_24
def T25 := aa ck_25 <| aa cx_25 <| aa @ks_25 <| aa @ko_25 <| aa @kn_25 kz_25
def T27 := aa ck_27 cx_27
def T29 := aa ck_29 <| aa cx_29 <| aa @ks_29 <| aa @ko_29 <| aa @kn_29 kz_29
def T30 := aa ck_30 <| aa cx_30 <| aa @ks_30 <| aa @ko_30 <| aa @kn_30 kz_30
def T31 := aa ck_31 <| aa cx_31 <| aa @ks_31 <| aa @ko_31 <| aa @kn_31 kz_31
def T32 := aa ck_32 <| aa cx_32 <| aa @ks_32 <| aa @ko_32 <| aa @kn_32 kz_32
def T33 := aa ck_33 <| aa cx_33 <| aa @ks_33 <| aa @ko_33 <| aa @kn_33 kz_33
def T34 := aa ck_34 <| aa cx_34 <| aa @ks_34 <| aa @ko_34 <| aa @kn_34 kz_34
def T36 := aa ck_36 cx_36
def T39 := aa ck_39 cx_39
def T46 := aa ck_46 <| aa cx_46 <| aa @ks_46 <| aa @ko_46 <| aa @kn_46 kz_46
def T52 := aa ck_52 <| aa cx_52 ce_52
def T56 := aa ck_56 <| aa cx_56 ce_56
def T58 := aa ck_58 <| aa cx_58 <| aa @ks_58 <| aa @ko_58 <| aa @kn_58 kz_58
def T60 := aa ck_60 cx_60
def T62 := aa ck_62 <| aa cx_62 <| aa @ks_62 <| aa @ko_62 <| aa @kn_62 kz_62
def T70 := aa ck_70 cx_70
def T78 := aa ck_78 <| aa cx_78 <| aa @ks_78 <| aa @ko_78 <| aa @kn_78 kz_78
def T80 := aa ck_80 <| aa cx_80 <| aa @ks_80 <| aa @ko_80 <| aa @kn_80 kz_80
def T85 := aa ck_85 <| aa cx_85 <| aa @ks_85 <| aa @ko_85 <| aa @kn_85 kz_85
def T88 := aa ck_88 cx_88
def T90 := aa ck_90 cx_90
def T99 := aa ck_99 cx_99
def T106 := aa ck_106 cx_106
def T111 := aa ck_111 <| aa cx_111 ce_111
def T114 := aa ck_114 <| aa cx_114 ce_114
def T119 := aa ck_119 <| aa cx_119 ce_119
def T130 := aa ck_130 cx_130
def T133 := aa ck_133 cx_133
def T137 := aa ck_137 cx_137
def T141 := aa ck_141 cx_141
def T143 := aa ck_143 cx_143
def T144 := aa ck_144 cx_144
def T145 := aa ck_145 <| aa cx_145 <| aa @ks_145 <| aa @ko_145 <| aa @kn_145 kz_145
def T149 := aa ck_149 cx_149
def T153 := aa ck_153 cx_153
def T157 := aa ck_157 cx_157
def T165 := aa ck_165 cx_165
def T171 := aa ck_171 <| aa cx_171 <| aa @ks_171 <| aa @ko_171 <| aa @kn_171 kz_171
def T179 := aa ck_179 cx_179
def T180 := aa ck_180 cx_180
def T181 := aa ck_181 cx_181
def T184 := aa ck_184 <| aa cx_184 <| aa @ks_184 <| aa @ko_184 <| aa @kn_184 kz_184
theorem wX : (type_of% @wBB) ∧ (type_of% @wBC) ∧ (type_of% @cx_muts) ∧ (type_of% @cx_arr) ∧ (type_of% @wBD) := ⟨wBB, wBC, cx_muts, cx_arr, wBD⟩
end Go.Proofs.YtcnkmandddfdmaaGreat
namespace Go.Proofs.YtcnkmandddfdmaaGreat
open Go.RowKit
mutual
def renA (g : Nat → Nat) : AV → AV
 | .any => .any
 | .p x => .p x
 | .own t e ls => .own (g t) e ls
 | .nown t e ls => .nown (g t) e ls
 | .ip c o => .ip c o
 | .mp t e i o => .mp (g t) e i o
 | .ms t e i n => .ms (g t) e i n
 | .fn f us vs => .fn f (renL g us) (renL g vs)
 | .agg l => .agg (renL g l)
 | .tup l => .tup (renL g l)
def renL (g : Nat → Nat) : List AV → List AV
 | [] => []
 | a :: l => renA g a :: renL g l
end
def renOb (g : Nat → Nat) : Ob → Ob
 | .row e ls => .row e (ls.map (renL g))
 | .right E n => .right E n
 | .nright E n => .nright E n
def tokOb (n : Nat) : Ob → Bool
 | .row _ ls => ls.all (tokLtL n)
 | _ => true
theorem renL_get (g : Nat → Nat) : ∀ (l : List AV) (i : Nat), (renL g l)[i]? = l[i]?.map (renA g)
 | [], i => by simp [renL]
 | a :: l, 0 => by simp [renL]
 | a :: l, i + 1 => by simpa [renL] using renL_get g l i
theorem renL_len (g : Nat → Nat) : ∀ l : List AV, (renL g l).length = l.length
 | [] => rfl
 | a :: l => by simp [renL, renL_len g l]
theorem leaf_ren (g : Nat → Nat) (a : AV) : leaf (renA g a) = leaf a := by cases a <;> rfl
theorem leaf_renL (g : Nat → Nat) : ∀ l : List AV, (renL g l).all leaf = l.all leaf
 | [] => rfl
 | a :: l => by simp [renL, leaf_ren, leaf_renL g l]
theorem tokLtL_get {n : Nat} : ∀ {l : List AV} {i : Nat} {a : AV}, tokLtL n l = true → l[i]? = some a → tokLt n a = true
 | [], i, a, _, h => by simp at h
 | b :: l, 0, a, ht, h => by simp at h; subst h; simp only [tokLtL, Bool.and_eq_true] at ht; exact ht.1
 | b :: l, i + 1, a, ht, h => by simp only [tokLtL, Bool.and_eq_true] at ht; exact tokLtL_get ht.2 (by simpa using h)
structure Ren (g : Nat → Nat) (n : Nat) (M0 M : View) : Prop where
 w : M.w = M0.w
 I : M.I = M0.I
 mu : ∀ t, t < n → M.mu (g t) = M0.mu t
 len : ∀ t, t < n → M.len (g t) = M0.len t
 cap : ∀ t, t < n → M.cap (g t) = M0.cap t
section
variable {g : Nat → Nat} {n : Nat} {M0 M : View}
mutual
theorem ARep.ren (h : Ren g n M0 M) : ∀ (a : AV) (u : Value), tokLt n a = true → (ARep M (renA g a) u ↔ ARep M0 a u)
 | .any, u, ht => by simp [ARep, renA]
 | .p x, u, ht => by simp only [renA, ARep]; rw [h.w, h.I]
 | .own t e ls, u, ht => by
   simp only [tokLt, decide_eq_true_eq] at ht
   simp only [renA, ARep]
   rw [h.w, h.I, h.mu t ht, h.len t ht, h.cap t ht]
 | .nown t e ls, u, ht => by
   simp only [tokLt, decide_eq_true_eq] at ht
   simp only [renA, ARep]
   rw [h.w, h.I, h.mu t ht, h.len t ht, h.cap t ht]
 | .ip c o, u, ht => by simp only [renA, ARep]; rw [h.w, h.I]
 | .mp t e i o, u, ht => by
   simp only [tokLt, decide_eq_true_eq] at ht
   simp only [renA, ARep]
   rw [h.mu t ht, h.len t ht]
 | .ms t e i m, u, ht => by
   simp only [tokLt, decide_eq_true_eq] at ht
   simp only [renA, ARep]
   rw [h.mu t ht, h.len t ht]
 | .fn f us vs, u, ht => by
   simp only [tokLt, Bool.and_eq_true] at ht
   simp only [renA, ARep]
   constructor
   ·rintro ⟨a, b, h1, h2, h3⟩; exact ⟨a, b, h1, (ARepL.ren h us a ht.1).1 h2, (ARepL.ren h vs b ht.2).1 h3⟩
   ·rintro ⟨a, b, h1, h2, h3⟩; exact ⟨a, b, h1, (ARepL.ren h us a ht.1).2 h2, (ARepL.ren h vs b ht.2).2 h3⟩
 | .agg l, u, ht => by
   simp only [tokLt] at ht
   simp only [renA, ARep, leaf_renL]
   constructor
   ·rintro ⟨h0, a, h1, h2⟩; exact ⟨h0, a, h1, (ARepL.ren h l a ht).1 h2⟩
   ·rintro ⟨h0, a, h1, h2⟩; exact ⟨h0, a, h1, (ARepL.ren h l a ht).2 h2⟩
 | .tup l, u, ht => by
   simp only [tokLt] at ht
   simp only [renA, ARep]
   constructor
   ·rintro ⟨a, h1, h2⟩; exact ⟨a, h1, (ARepL.ren h l a ht).1 h2⟩
   ·rintro ⟨a, h1, h2⟩; exact ⟨a, h1, (ARepL.ren h l a ht).2 h2⟩
theorem ARepL.ren (h : Ren g n M0 M) : ∀ (l : List AV) (us : List Value), tokLtL n l = true → (ARepL M (renL g l) us ↔ ARepL M0 l us)
 | [], us, ht => by simp [ARepL, renL]
 | a :: l, us, ht => by
   simp only [tokLtL, Bool.and_eq_true] at ht
   simp only [renL, ARepL]
   constructor
   ·rintro ⟨u, us', h1, h2, h3⟩; exact ⟨u, us', h1, (ARep.ren h a u ht.1).1 h2, (ARepL.ren h l us' ht.2).1 h3⟩
   ·rintro ⟨u, us', h1, h2, h3⟩; exact ⟨u, us', h1, (ARep.ren h a u ht.1).2 h2, (ARepL.ren h l us' ht.2).2 h3⟩
end
theorem RowRep.ren (h : Ren g n M0 M) {cur : Array Value} {e : Nat} {ls : List (List AV)} (ht : ls.all (tokLtL n) = true) : RowRep M cur e (ls.map (renL g)) ↔ RowRep M0 cur e ls := by
 have htc : ∀ i c, ls[i]? = some c → tokLtL n c = true := fun i c hc => List.all_eq_true.1 ht c (List.mem_of_getElem? hc)
 constructor
 ·intro hr i c hc
  obtain ⟨h1, h2⟩ := hr i (renL g c) (by simp [hc])
  refine ⟨by rw [renL_len] at h1; exact h1, fun j a ha => ?_⟩
  obtain ⟨h3, u, h4, h5⟩ := h2 j (renA g a) (by rw [renL_get, ha]; rfl)
  exact ⟨by rw [leaf_ren] at h3; exact h3, u, h4, (ARep.ren h a u (tokLtL_get (htc i c hc) ha)).1 h5⟩
 ·intro hr i c hc
  rw [List.getElem?_map] at hc
  cases hi : ls[i]? with
  | none => rw [hi] at hc; simp at hc
  | some c0 =>
    rw [hi] at hc; simp at hc; subst hc
    obtain ⟨h1, h2⟩ := hr i c0 hi
    refine ⟨by rw [renL_len]; exact h1, fun j a ha => ?_⟩
    rw [renL_get] at ha
    cases hj : c0[j]? with
    | none => rw [hj] at ha; simp at ha
    | some a0 =>
      rw [hj] at ha; simp at ha; subst ha
      obtain ⟨h3, u, h4, h5⟩ := h2 j a0 hj
      exact ⟨by rw [leaf_ren]; exact h3, u, h4, (ARep.ren h a0 u (tokLtL_get (htc i c0 hi) hj)).2 h5⟩
theorem ObRep.ren (h : Ren g n M0 M) {t : Nat} (htn : t < n) {ob : Ob} (ht : tokOb n ob = true) : ObRep M (g t) (renOb g ob) ↔ ObRep M0 t ob := by
 cases ob with
 | row e ls =>
   simp only [renOb, ObRep, tokOb] at ht ⊢
   rw [h.len t htn, h.mu t htn, h.w, h.I]
   constructor
   ·rintro ⟨h1, b, cur, T, h2, h3, h4, h5⟩; exact ⟨h1, b, cur, T, h2, h3, h4, (RowRep.ren h ht).1 h5⟩
   ·rintro ⟨h1, b, cur, T, h2, h3, h4, h5⟩; exact ⟨h1, b, cur, T, h2, h3, h4, (RowRep.ren h ht).2 h5⟩
 | right E m =>
   simp only [renOb, ObRep, OwnRep]
   rw [h.len t htn, h.mu t htn, h.w, h.I, h.cap t htn]
 | nright E m =>
   simp only [renOb, ObRep, OwnRep]
   rw [h.len t htn, h.mu t htn, h.w, h.I, h.cap t htn]
end
def setsS (g : Nat → Nat) : List Nat → St → St → St
 | s :: ts, σ, o :: σ0 => setsS g ts (σ.set s (o.map (renOb g))) σ0
 | _, σ, _ => σ
theorem setsS_len (g : Nat → Nat) : ∀ (ts : List Nat) (σ σ0 : St), (setsS g ts σ σ0).length = σ.length
 | [], σ, σ0 => rfl
 | s :: ts, σ, [] => rfl
 | s :: ts, σ, o :: σ0 => by rw [setsS, setsS_len g ts]; simp
theorem setsS_other (g : Nat → Nat) : ∀ (ts : List Nat) (σ σ0 : St) (s : Nat), s ∉ ts → (setsS g ts σ σ0)[s]? = σ[s]?
 | [], σ, σ0, s, h => rfl
 | s' :: ts, σ, [], s, h => rfl
 | s' :: ts, σ, o :: σ0, s, h => by
   simp only [List.mem_cons, not_or] at h
   rw [setsS, setsS_other g ts _ _ s h.2, List.getElem?_set, if_neg (fun e => h.1 e.symm)]
theorem setsS_get (g : Nat → Nat) : ∀ (ts : List Nat) (σ σ0 : St) (t s : Nat), ts.Nodup → (∀ s ∈ ts, s < σ.length) → ts[t]? = some s → t < σ0.length → (setsS g ts σ σ0)[s]? = σ0[t]?.map (·.map (renOb g))
 | [], σ, σ0, t, s, hn, hl, ht, _ => by simp at ht
 | s' :: ts, σ, [], t, s, hn, hl, ht, h0 => by simp at h0
 | s' :: ts, σ, o :: σ0, 0, s, hn, hl, ht, h0 => by
   simp at ht; subst ht
   rw [List.nodup_cons] at hn
   rw [setsS, setsS_other g ts _ _ s' hn.1, List.getElem?_set, if_pos rfl, if_pos (hl s' (by simp))]
   simp
 | s' :: ts, σ, o :: σ0, t + 1, s, hn, hl, ht, h0 => by
   rw [List.nodup_cons] at hn
   rw [setsS, setsS_get g ts _ σ0 t s hn.2 (fun s hs => by simpa using hl s (by simp [hs])) (by simpa using ht) (by simpa using h0)]
   simp
open Classical in
theorem ACalls.at {P : Program} {f : FuncId} {args0 : List AV} {σ0 : St} {R0 : AV → St → Prop} (h0 : ACalls P f args0 σ0 R0) (ts : List Nat) (σ : St) (hn : ts.Nodup) (hl : ts.length = σ0.length)
 (hσ : ∀ t s, ts[t]? = some s → ∃ ob, σ0.at t ob ∧ tokOb σ0.length ob = true ∧ σ.at s (renOb (fun t => ts.getD t 0) ob)) (ha : tokLtL σ0.length args0 = true)
 (hR : ∀ r s, R0 r s → tokLt σ0.length r = true ∧ ∀ t ob, t < σ0.length → s.at t ob → tokOb σ0.length ob = true) :
 ACalls P f (renL (fun t => ts.getD t 0) args0) σ fun r σ' => ∃ r0 σ0', R0 r0 σ0' ∧ r = renA (fun t => ts.getD t 0) r0 ∧ σ' = setsS (fun t => ts.getD t 0) ts σ σ0' := by
 refine ⟨h0.1, fun M vs hM hv => ?_⟩
 generalize hgd : (fun t => ts.getD t 0) = g at *
 generalize hnd : σ0.length = n at *
 have hgt : ∀ t, t < n → ts[t]? = some (g t) := fun t ht => by
  rw [← hgd]
  have : t < ts.length := by omega
  simp [this]
 have hinj : ∀ t t', t < n → t' < n → g t = g t' → t = t' := fun t t' ht ht' e => by
  have h1 := hgt t ht
  have h2 := hgt t' ht'
  rw [e] at h1
  exact (List.getElem?_inj (by omega) hn).1 (h1.trans h2.symm)
 have hob : ∀ t, t < n → ∃ ob, σ0.at t ob ∧ tokOb n ob = true ∧ σ.at (g t) (renOb g ob) := fun t ht => hσ t (g t) (hgt t ht)
 have hat : ∀ t ob, σ0.at t ob → t < n ∧ tokOb n ob = true ∧ σ.at (g t) (renOb g ob) := fun t ob h => by
  have ht : t < n := by rw [← hnd]; exact (List.getElem?_eq_some_iff.1 h).1
  obtain ⟨ob', h1, h2, h3⟩ := hob t ht
  have : ob' = ob := by unfold St.at at h h1; rw [h] at h1; simpa using h1.symm
  subst this
  exact ⟨ht, h2, h3⟩
 have hgl : ∀ t, t < n → g t < σ.length := fun t ht => by
  obtain ⟨ob, _, _, h⟩ := hob t ht
  exact (List.getElem?_eq_some_iff.1 h).1
 let M0 : View := { w := M.w, I := M.I, mu := fun t => if t < n then M.mu (g t) else none, len := fun t => if t < n then M.len (g t) else none, cap := fun t => M.cap (g t) }
 have hren : Ren g n M0 M := ⟨rfl, rfl, fun t ht => by simp [M0, ht], fun t ht => by simp [M0, ht], fun t ht => rfl⟩
 have hmu0 : ∀ t, t < n → M0.mu t = M.mu (g t) := fun t ht => by simp [M0, ht]
 have hM0 : Match M0 σ0 := by
  refine ⟨fun t ob ht => ?_, fun t t' ob ob' b h1 h2 h3 h4 => ?_, fun t ht => ?_, fun t b hb => ?_, hM.imm⟩
  ·obtain ⟨h1, h2, h3⟩ := hat t ob ht
   exact (ObRep.ren hren h1 h2).1 (hM.obj _ _ h3)
  ·obtain ⟨g1, _, g2⟩ := hat t ob h1
   obtain ⟨g3, _, g4⟩ := hat t' ob' h2
   rw [hmu0 t g1] at h3
   rw [hmu0 t' g3] at h4
   exact hinj t t' g1 g3 (hM.inj _ _ _ _ b g2 g4 h3 h4)
  ·have : ¬ t < n := by omega
   simp [M0, this]
  ·by_cases ht : t < n
   ·rw [hmu0 t ht] at hb; exact hM.lt _ b hb
   ·simp [M0, ht] at hb
 refine (h0.2 M0 vs hM0 ((ARepL.ren hren _ _ ha).1 hv)).mono ?_
 rintro e w' ⟨v, r0, σ1, M1, rfl, rfl, hE, hM1, hr, hlen, hR0⟩
 obtain ⟨hrt, hot⟩ := hR r0 σ1 hR0
 have hmem : ∀ s, s ∈ ts ↔ ∃ t, t < n ∧ g t = s := fun s => by
  constructor
  ·intro h
   obtain ⟨t, ht⟩ := List.mem_iff_getElem?.1 h
   have htn : t < n := by have := (List.getElem?_eq_some_iff.1 ht).1; omega
   have := hgt t htn
   rw [ht] at this
   exact ⟨t, htn, by simpa using this.symm⟩
  ·rintro ⟨t, ht, rfl⟩
   exact List.mem_of_getElem? (hgt t ht)
 let pick : Nat → Nat := fun s => if h : ∃ t, t < n ∧ g t = s then Classical.choose h else 0
 have hpick : ∀ t, t < n → pick (g t) = t := fun t ht => by
  have h : ∃ t', t' < n ∧ g t' = g t := ⟨t, ht, rfl⟩
  have h2 := Classical.choose_spec h
  simp only [pick, h, dif_pos]
  exact hinj _ _ h2.1 ht h2.2
 let M' : View := { w := M1.w, I := M1.I, mu := fun s => if s ∈ ts then M1.mu (pick s) else M.mu s, len := fun s => if s ∈ ts then M1.len (pick s) else M.len s, cap := fun s => if s ∈ ts then M1.cap (pick s) else M.cap s }
 have hin : ∀ t, t < n → g t ∈ ts := fun t ht => (hmem _).2 ⟨t, ht, rfl⟩
 have hren' : Ren g n M1 M' := ⟨rfl, rfl, fun t ht => by simp only [M', hin t ht, if_true, hpick t ht], fun t ht => by simp only [M', hin t ht, if_true, hpick t ht], fun t ht => by simp only [M', hin t ht, if_true, hpick t ht]⟩
 have hmu' : ∀ s, s ∉ ts → M'.mu s = M.mu s ∧ M'.len s = M.len s ∧ M'.cap s = M.cap s := fun s hs => by simp [M', hs]
 have hL : Later M M' := by
  refine ⟨fun s b h1 h2 => ?_, fun s m h1 => ?_, hE.imm, hE.cell⟩
  ·by_cases hs : s ∈ ts
   ·obtain ⟨t, ht, rfl⟩ := (hmem s).1 hs
    rw [hren'.mu t ht, hren'.len t ht]
    exact hE.mu t b (by rw [hmu0 t ht]; exact h1) (by rw [← hren.len t ht]; exact h2)
   ·rw [(hmu' s hs).1, (hmu' s hs).2.1]; exact ⟨h1, h2⟩
  ·by_cases hs : s ∈ ts
   ·obtain ⟨t, ht, rfl⟩ := (hmem s).1 hs
    obtain ⟨m', h3, h4, h5⟩ := hE.own t m (by rw [← hren.len t ht]; exact h1)
    refine ⟨m', by rw [hren'.len t ht]; exact h3, h4, fun e => ?_⟩
    rw [hren'.mu t ht, hren'.cap t ht, hren.mu t ht, hren.cap t ht]
    exact h5 e
   ·exact ⟨m, by rw [(hmu' s hs).2.1]; exact h1, Nat.le_refl _, fun _ => ⟨(hmu' s hs).1, (hmu' s hs).2.2⟩⟩
 have hkeep : ∀ b, b < M.w.heap.size → (∀ t ob, σ0.at t ob → M0.mu t ≠ some b) → M1.w.heap[b]? = M.w.heap[b]? ∧ ∀ o, M1.I b o → M.I b o := fun b hb hk => hE.keep b hb hk
 have hnew : ∀ t ob b, σ1.at t ob → M1.mu t = some b → M.w.heap.size ≤ b ∨ ∃ t0 ob0, σ0.at t0 ob0 ∧ M0.mu t0 = some b := fun t ob b h1 h2 => hE.new t ob b h1 h2
 have hatS : ∀ s ob, (setsS g ts σ σ1).at s ob → (∃ t ob0, t < n ∧ g t = s ∧ σ1.at t ob0 ∧ ob = renOb g ob0) ∨ (s ∉ ts ∧ σ.at s ob) := fun s ob h => by
  by_cases hs : s ∈ ts
  ·obtain ⟨t, ht, rfl⟩ := (hmem s).1 hs
   left
   have := setsS_get g ts σ σ1 t (g t) hn (fun s hs => by obtain ⟨t, ht, rfl⟩ := (hmem s).1 hs; exact hgl t ht) (hgt t ht) (by omega)
   unfold St.at at h
   rw [this] at h
   cases h1 : σ1[t]? with
   | none => rw [h1] at h; simp at h
   | some o =>
     rw [h1] at h
     cases o with
     | none => simp at h
     | some ob0 => simp at h; exact ⟨t, ob0, ht, rfl, h1, h.symm⟩
  ·right
   unfold St.at at h
   rw [setsS_other g ts σ σ1 s hs] at h
   exact ⟨hs, h⟩
 have hblk : ∀ s ob b, s ∉ ts → σ.at s ob → M.mu s = some b → ∀ t ob, σ0.at t ob → M0.mu t ≠ some b := fun s ob b hs hso hb t ob' ht hb' => by
  obtain ⟨g1, _, g2⟩ := hat t ob' ht
  rw [hmu0 t g1] at hb'
  exact hs ((hmem s).2 ⟨t, g1, hM.inj _ _ _ _ b g2 hso hb' hb⟩)
 refine ⟨v, renA g r0, setsS g ts σ σ1, M', rfl, rfl, ⟨hL.mu, hL.own, hL.imm, hL.cell, fun b hb hk => hkeep b hb fun t ob ht => ?_, fun s ob b h1 h2 => ?_, hE.size, hE.os, hE.tape, hE.output⟩, ⟨fun s ob h => ?_, fun s s' ob ob' b h1 h2 h3 h4 => ?_, fun s hs => ?_, fun s b hb => ?_, hM1.imm⟩, (ARep.ren hren' _ _ hrt).2 hr, Nat.le_of_eq (setsS_len g ts σ σ1).symm, r0, σ1, hR0, rfl, rfl⟩
 ·obtain ⟨g1, _, g2⟩ := hat t ob ht
  rw [hmu0 t g1]; exact hk _ _ g2
 ·rcases hatS s ob h1 with ⟨t, ob0, ht, rfl, h3, _⟩ | ⟨hs, h3⟩
  ·rw [hren'.mu t ht] at h2
   rcases hnew t ob0 b h3 h2 with h4 | ⟨t0, ob1, h4, h5⟩
   ·exact .inl h4
   ·obtain ⟨g1, _, g2⟩ := hat t0 ob1 h4
    rw [hmu0 t0 g1] at h5
    exact .inr ⟨_, _, g2, h5⟩
  ·rw [(hmu' s hs).1] at h2
   exact .inr ⟨s, ob, h3, h2⟩
 ·rcases hatS s ob h with ⟨t, ob0, ht, rfl, h3, rfl⟩ | ⟨hs, h3⟩
  ·exact (ObRep.ren hren' ht (hot t ob0 ht h3)).2 (hM1.obj t ob0 h3)
  ·exact (hM.obj s ob h3).later hL (hmu' s hs).1 (hmu' s hs).2.1 (hmu' s hs).2.2 fun b hb => hkeep b (hM.lt s b hb) (hblk s ob b hs h3 hb)
 ·rcases hatS s ob h1 with ⟨t, ob0, ht, rfl, g1, _⟩ | ⟨hs, g1⟩
  ·rw [hren'.mu t ht] at h3
   rcases hatS s' ob' h2 with ⟨t', ob0', ht', rfl, g2, _⟩ | ⟨hs', g2⟩
   ·rw [hren'.mu t' ht'] at h4
    rw [hM1.inj t t' ob0 ob0' b g1 g2 h3 h4]
   ·rw [(hmu' s' hs').1] at h4
    rcases hnew t ob0 b g1 h3 with h5 | ⟨t0, ob1, h5, h6⟩
    ·have := hM.lt s' b h4; omega
    ·exact absurd h6 (hblk s' ob' b hs' g2 h4 t0 ob1 h5)
  ·rw [(hmu' s hs).1] at h3
   rcases hatS s' ob' h2 with ⟨t', ob0', ht', rfl, g2, _⟩ | ⟨hs', g2⟩
   ·rw [hren'.mu t' ht'] at h4
    rcases hnew t' ob0' b g2 h4 with h5 | ⟨t0, ob1, h5, h6⟩
    ·have := hM.lt s b h3; omega
    ·exact absurd h6 (hblk s ob b hs g1 h3 t0 ob1 h5)
   ·rw [(hmu' s' hs').1] at h4
    exact hM.inj s s' ob ob' b g1 g2 h3 h4
 ·rw [setsS_len] at hs
  have hs' : s ∉ ts := fun h => by obtain ⟨t, ht, rfl⟩ := (hmem s).1 h; have := hgl t ht; omega
  rw [(hmu' s hs').1, (hmu' s hs').2.1]; exact hM.fresh s hs
 ·by_cases hs : s ∈ ts
  ·obtain ⟨t, ht, rfl⟩ := (hmem s).1 hs
   rw [hren'.mu t ht] at hb; exact hM1.lt t b hb
  ·rw [(hmu' s hs).1] at hb; exact Nat.lt_of_lt_of_le (hM.lt s b hb) hE.size
end Go.Proofs.YtcnkmandddfdmaaGreat
