/- The table of types of this program, for the abstract machine. Expressions as trees, and their cells. Values, rows, and what expressions come to over a row, as the program reckons it. -/
import Derived.Test.YtpcblbbddccgpaaDoorM17
import Derived.Test.YtpcblbbddccgpaaDoorRows
import Derived.Test.YtpcblbbddccgpaaDoorM18
set_option linter.unusedSimpArgs false
set_option linter.unusedVariables false
set_option linter.defProp false
set_option maxRecDepth 100000
set_option maxHeartbeats 32000000
namespace Go.Proofs.YtpcblbbddccgpaaDoor
def cxL : List (TypeId × TI) := [
 (1, ⟨1, false, [.nilFunc], .other⟩),
 (2, ⟨1, false, [.int .i64 0], .int .i64⟩),
 (3, ⟨1, false, [.int .i64 0], .int .i64⟩),
 (4, ⟨1, false, [.bool false], .bool⟩),
 (5, ⟨1, false, [.int .u8 0], .int .u8⟩),
 (9, ⟨1, false, [.string ⟨#[]⟩], .str⟩),
 (12, ⟨1, false, [.int .u64 0], .int .u64⟩),
 (13, ⟨2, true, [.string ⟨#[]⟩, .int .u64 0], .struct [(0, 1, false), (1, 1, false)]⟩),
 (19, ⟨1, true, [.pointer none], .struct [(0, 1, false)]⟩),
 (21, ⟨1, false, [.int .i32 0], .int .i32⟩),
 (22, ⟨1, false, [.slice none 0 0], .slice 36 1 24 [.slice none 0 0]⟩),
 (23, ⟨3, true, [.int .i64 0, .int .i64 0, .string ⟨#[]⟩], .struct [(0, 1, false), (1, 1, false), (2, 1, false)]⟩),
 (24, ⟨3, true, [.int .i64 0, .int .i64 0, .string ⟨#[]⟩], .struct [(0, 1, false), (1, 1, false), (2, 1, false)]⟩),
 (25, ⟨1, false, [.slice none 0 0], .slice 27 8 104 [.int .i64 0, .int .i64 0, .int .i64 0, .string ⟨#[]⟩, .string ⟨#[]⟩, .string ⟨#[]⟩, .int .i64 0, .slice none 0 0]⟩),
 (26, ⟨8, true, [.int .i64 0, .int .i64 0, .int .i64 0, .string ⟨#[]⟩, .string ⟨#[]⟩, .string ⟨#[]⟩, .int .i64 0, .slice none 0 0], .struct [(0, 1, false), (1, 3, true), (4, 1, false), (5, 1, false), (6, 1, false), (7, 1, false)]⟩),
 (27, ⟨8, true, [.int .i64 0, .int .i64 0, .int .i64 0, .string ⟨#[]⟩, .string ⟨#[]⟩, .string ⟨#[]⟩, .int .i64 0, .slice none 0 0], .struct [(0, 1, false), (1, 3, true), (4, 1, false), (5, 1, false), (6, 1, false), (7, 1, false)]⟩),
 (28, ⟨18, true, [.slice none 0 0, .int .i64 0, .int .i64 0, .int .i64 0, .string ⟨#[]⟩, .string ⟨#[]⟩, .string ⟨#[]⟩, .int .i64 0, .slice none 0 0, .int .i64 0, .int .i64 0, .int .i64 0, .string ⟨#[]⟩, .string ⟨#[]⟩, .string ⟨#[]⟩, .int .i64 0, .slice none 0 0, .int .u8 0], .struct [(0, 1, false), (1, 8, true), (9, 8, true), (17, 1, false)]⟩),
 (29, ⟨18, true, [.slice none 0 0, .int .i64 0, .int .i64 0, .int .i64 0, .string ⟨#[]⟩, .string ⟨#[]⟩, .string ⟨#[]⟩, .int .i64 0, .slice none 0 0, .int .i64 0, .int .i64 0, .int .i64 0, .string ⟨#[]⟩, .string ⟨#[]⟩, .string ⟨#[]⟩, .int .i64 0, .slice none 0 0, .int .u8 0], .struct [(0, 1, false), (1, 8, true), (9, 8, true), (17, 1, false)]⟩),
 (30, ⟨1, false, [.nilFunc], .other⟩),
 (31, ⟨1, false, [.int .i64 0], .int .i64⟩),
 (33, ⟨1, false, [.nilFunc], .other⟩),
 (34, ⟨1, false, [.nilFunc], .other⟩),
 (35, ⟨1, false, [.nilFunc], .other⟩),
 (36, ⟨1, false, [.slice none 0 0], .slice 24 3 32 [.int .i64 0, .int .i64 0, .string ⟨#[]⟩]⟩),
 (37, ⟨1, false, [.nilFunc], .other⟩),
 (38, ⟨1, false, [.nilFunc], .other⟩),
 (39, ⟨1, false, [.nilFunc], .other⟩),
 (40, ⟨1, false, [.nilFunc], .other⟩),
 (41, ⟨1, false, [.nilFunc], .other⟩),
 (42, ⟨1, false, [.nilFunc], .other⟩),
 (43, ⟨1, false, [.nilFunc], .other⟩),
 (44, ⟨1, false, [.nilFunc], .other⟩),
 (45, ⟨1, false, [.int .i64 0], .int .i64⟩),
 (47, ⟨1, false, [.nilFunc], .other⟩),
 (48, ⟨1, false, [.nilFunc], .other⟩),
 (49, ⟨1, false, [.nilFunc], .other⟩),
 (50, ⟨1, false, [.nilFunc], .other⟩),
 (51, ⟨1, false, [.nilFunc], .other⟩),
 (52, ⟨1, false, [.nilFunc], .other⟩),
 (53, ⟨1, false, [.nilFunc], .other⟩),
 (54, ⟨1, false, [.map none], .map (.string) (.slice none 0 0)⟩),
 (56, ⟨1, false, [.nilFunc], .other⟩),
 (57, ⟨1, false, [.nilFunc], .other⟩),
 (58, ⟨1, false, [.slice none 0 0], .slice 4 1 1 [.bool false]⟩),
 (59, ⟨1, false, [.nilFunc], .other⟩),
 (60, ⟨1, false, [.nilFunc], .other⟩),
 (62, ⟨1, false, [.nilFunc], .other⟩),
 (63, ⟨1, false, [.pointer none], .other⟩),
 (64, ⟨1, false, [.nilFunc], .other⟩),
 (65, ⟨1, false, [.nilFunc], .other⟩),
 (66, ⟨1, false, [.nilFunc], .other⟩),
 (67, ⟨1, false, [.nilFunc], .other⟩),
 (68, ⟨1, false, [.nilFunc], .other⟩),
 (69, ⟨1, false, [.pointer none], .other⟩),
 (70, ⟨2, true, [.slice none 0 0, .int .i64 0], .struct [(0, 1, false), (1, 1, false)]⟩),
 (71, ⟨2, true, [.slice none 0 0, .int .i64 0], .struct [(0, 1, false), (1, 1, false)]⟩),
 (72, ⟨1, false, [.nilFunc], .other⟩),
 (73, ⟨1, false, [.int .u64 0], .int .u64⟩),
 (74, ⟨1, false, [.nilFunc], .other⟩),
 (75, ⟨1, false, [.nilFunc], .other⟩),
 (76, ⟨1, false, [.nilFunc], .other⟩),
 (77, ⟨1, false, [.nilFunc], .other⟩),
 (78, ⟨1, false, [.nilFunc], .other⟩),
 (79, ⟨1, false, [.nilFunc], .other⟩),
 (80, ⟨1, false, [.slice none 0 0], .slice 72 1 8 [.nilFunc]⟩),
 (81, ⟨1, false, [.pointer none], .other⟩),
 (82, ⟨1, false, [.slice none 0 0], .slice 5 1 1 [.int .u8 0]⟩),
 (83, ⟨2, true, [.pointer none, .slice none 0 0], .struct [(0, 1, false), (1, 1, false)]⟩),
 (84, ⟨2, true, [.pointer none, .slice none 0 0], .struct [(0, 1, false), (1, 1, false)]⟩),
 (85, ⟨1, false, [.nilFunc], .other⟩),
 (89, ⟨1, false, [.nilFunc], .other⟩),
 (90, ⟨1, false, [.nilFunc], .other⟩),
 (91, ⟨1, false, [.nilFunc], .other⟩),
 (92, ⟨1, false, [.nilFunc], .other⟩),
 (93, ⟨1, false, [.nilFunc], .other⟩),
 (94, ⟨1, false, [.nilFunc], .other⟩),
 (95, ⟨1, false, [.nilFunc], .other⟩),
 (96, ⟨1, false, [.nilFunc], .other⟩),
 (97, ⟨1, false, [.nilFunc], .other⟩),
 (98, ⟨1, false, [.nilFunc], .other⟩),
 (99, ⟨24, true, (zB 24), .barr 24⟩),
 (100, ⟨1, false, [.int .u64 0], .int .u64⟩),
 (101, ⟨1, false, [.nilFunc], .other⟩),
 (102, ⟨1, false, [.nilFunc], .other⟩),
 (104, ⟨1, false, [.nilFunc], .other⟩),
 (105, ⟨1, false, [.pointer none], .other⟩),
 (107, ⟨1, false, [.nilFunc], .other⟩),
 (108, ⟨1, false, [.nilFunc], .other⟩),
 (109, ⟨1, false, [.nilFunc], .other⟩),
 (110, ⟨1, false, [.nilFunc], .other⟩),
 (111, ⟨1, false, [.nilFunc], .other⟩),
 (112, ⟨1, false, [.nilFunc], .other⟩),
 (113, ⟨1, false, [.nilFunc], .other⟩),
 (114, ⟨1, false, [.nilFunc], .other⟩),
 (115, ⟨1, false, [.nilFunc], .other⟩),
 (116, ⟨1, false, [.nilFunc], .other⟩),
 (117, ⟨20, true, (List.replicate 20 (.int .u64 0)), .arr 20 1 false⟩),
 (118, ⟨1, false, [.int .u32 0], .int .u32⟩),
 (119, ⟨65, true, (zB 65), .barr 65⟩),
 (120, ⟨1, false, [.nilFunc], .other⟩),
 (121, ⟨1, false, [.nilFunc], .other⟩),
 (123, ⟨1, false, [.nilFunc], .other⟩),
 (124, ⟨1, false, [.nilFunc], .other⟩),
 (125, ⟨1, false, [.nilFunc], .other⟩),
 (127, ⟨1, false, [.nilFunc], .other⟩),
 (128, ⟨1, false, [.slice none 0 0], .slice 147 5 20 [.int .u32 0, .int .u32 0, .int .i32 0, .int .i32 0, .int .i32 0]⟩),
 (129, ⟨1, false, [.nilFunc], .other⟩),
 (130, ⟨1, false, [.nilFunc], .other⟩),
 (131, ⟨1, false, [.slice none 0 0], .slice 3 1 8 [.int .i64 0]⟩),
 (132, ⟨1, false, [.nilFunc], .other⟩),
 (133, ⟨1, false, [.nilFunc], .other⟩),
 (134, ⟨1, false, [.nilFunc], .other⟩),
 (135, ⟨256, true, (zB 256), .barr 256⟩),
 (136, ⟨2, true, [.int .u8 0, .int .u8 0], .struct [(0, 1, false), (1, 1, false)]⟩),
 (137, ⟨2, true, [.int .u8 0, .int .u8 0], .struct [(0, 1, false), (1, 1, false)]⟩),
 (138, ⟨32, true, (zB 32), .arr 16 2 true⟩),
 (139, ⟨1, false, [.pointer none], .other⟩),
 (140, ⟨1, false, [.nilFunc], .other⟩),
 (141, ⟨1, false, [.nilFunc], .other⟩),
 (142, ⟨32, true, (zB 32), .barr 32⟩),
 (143, ⟨64, true, (zB 64), .barr 64⟩),
 (144, ⟨3, true, [.int .i32 0, .int .i32 0, .int .i32 0], .arr 3 1 false⟩),
 (145, ⟨3, true, [.int .i32 0, .int .i32 0, .int .i32 0], .arr 3 1 false⟩),
 (146, ⟨5, true, [.int .u32 0, .int .u32 0, .int .i32 0, .int .i32 0, .int .i32 0], .struct [(0, 1, false), (1, 1, false), (2, 3, true)]⟩),
 (147, ⟨5, true, [.int .u32 0, .int .u32 0, .int .i32 0, .int .i32 0, .int .i32 0], .struct [(0, 1, false), (1, 1, false), (2, 3, true)]⟩),
 (149, ⟨1, false, [.nilFunc], .other⟩),
 (157, ⟨1, false, [.nilFunc], .other⟩)]
def cxQ : List (TypeId × List EK) := [(24, [.int, .int, .str]), (137, [.int, .int])]
def cx : Ctx := tabCtx cxL [] cxQ
theorem cx_ok : cx.ok Tryd.prog := tabCtx_ok (by kernel_rfl) (by kernel_rfl)
theorem dr_ok : DrawOk Tryd.prog (aDraw Tryd.prog cx) := aDraw_ok cx_ok (by kernel_rfl)
theorem cx_muts : cx.muts = [] := nr rfl
theorem cx_2 : cx.ty 2 = some ⟨1, false, [.int .i64 0], .int .i64⟩ := nr rfl
theorem ck_2 : cx.kind 2 = some (.int .i64) := nr rfl
theorem cx_3 : cx.ty 3 = some ⟨1, false, [.int .i64 0], .int .i64⟩ := nr rfl
theorem ck_3 : cx.kind 3 = some (.int .i64) := nr rfl
theorem cx_4 : cx.ty 4 = some ⟨1, false, [.bool false], .bool⟩ := nr rfl
theorem ck_4 : cx.kind 4 = some (.bool) := nr rfl
theorem cx_5 : cx.ty 5 = some ⟨1, false, [.int .u8 0], .int .u8⟩ := nr rfl
theorem ck_5 : cx.kind 5 = some (.int .u8) := nr rfl
theorem cx_9 : cx.ty 9 = some ⟨1, false, [.string ⟨#[]⟩], .str⟩ := nr rfl
theorem ck_9 : cx.kind 9 = some (.str) := nr rfl
theorem cx_22 : cx.ty 22 = some ⟨1, false, [.slice none 0 0], .slice 36 1 24 [.slice none 0 0]⟩ := nr rfl
theorem ck_22 : cx.kind 22 = some (.slice 36 1 24 [.slice none 0 0]) := nr rfl
theorem ks_22 {e : Nat} {ls : List (List PV)} : lenA cx 22 (.p (.sl e ls)) = some ls.length := nr (len_sl ck_22)
theorem ko_22 {t e : Nat} {ls : List (List PV)} : lenA cx 22 (.own t e ls) = some ls.length := nr (len_own ck_22)
theorem kn_22 {t e : Nat} {ls : List (List PV)} : lenA cx 22 (.nown t e ls) = some ls.length := nr (len_nown ck_22)
theorem kz_22 : lenA cx 22 (.p (.v (.slice none 0 0))) = some 0 := nr (len_nil ck_22)
theorem km_22 {t e j n : Nat} : lenA cx 22 (.ms t e j n) = some n := nr (len_ms ck_22)
theorem cx_24 : cx.ty 24 = some ⟨3, true, [.int .i64 0, .int .i64 0, .string ⟨#[]⟩], .struct [(0, 1, false), (1, 1, false), (2, 1, false)]⟩ := nr rfl
theorem ck_24 : cx.kind 24 = some (.struct [(0, 1, false), (1, 1, false), (2, 1, false)]) := nr rfl
theorem cx_25 : cx.ty 25 = some ⟨1, false, [.slice none 0 0], .slice 27 8 104 [.int .i64 0, .int .i64 0, .int .i64 0, .string ⟨#[]⟩, .string ⟨#[]⟩, .string ⟨#[]⟩, .int .i64 0, .slice none 0 0]⟩ := nr rfl
theorem ck_25 : cx.kind 25 = some (.slice 27 8 104 [.int .i64 0, .int .i64 0, .int .i64 0, .string ⟨#[]⟩, .string ⟨#[]⟩, .string ⟨#[]⟩, .int .i64 0, .slice none 0 0]) := nr rfl
theorem ks_25 {e : Nat} {ls : List (List PV)} : lenA cx 25 (.p (.sl e ls)) = some ls.length := nr (len_sl ck_25)
theorem ko_25 {t e : Nat} {ls : List (List PV)} : lenA cx 25 (.own t e ls) = some ls.length := nr (len_own ck_25)
theorem kn_25 {t e : Nat} {ls : List (List PV)} : lenA cx 25 (.nown t e ls) = some ls.length := nr (len_nown ck_25)
theorem kz_25 : lenA cx 25 (.p (.v (.slice none 0 0))) = some 0 := nr (len_nil ck_25)
theorem km_25 {t e j n : Nat} : lenA cx 25 (.ms t e j n) = some n := nr (len_ms ck_25)
theorem cx_27 : cx.ty 27 = some ⟨8, true, [.int .i64 0, .int .i64 0, .int .i64 0, .string ⟨#[]⟩, .string ⟨#[]⟩, .string ⟨#[]⟩, .int .i64 0, .slice none 0 0], .struct [(0, 1, false), (1, 3, true), (4, 1, false), (5, 1, false), (6, 1, false), (7, 1, false)]⟩ := nr rfl
theorem ck_27 : cx.kind 27 = some (.struct [(0, 1, false), (1, 3, true), (4, 1, false), (5, 1, false), (6, 1, false), (7, 1, false)]) := nr rfl
theorem cx_29 : cx.ty 29 = some ⟨18, true, [.slice none 0 0, .int .i64 0, .int .i64 0, .int .i64 0, .string ⟨#[]⟩, .string ⟨#[]⟩, .string ⟨#[]⟩, .int .i64 0, .slice none 0 0, .int .i64 0, .int .i64 0, .int .i64 0, .string ⟨#[]⟩, .string ⟨#[]⟩, .string ⟨#[]⟩, .int .i64 0, .slice none 0 0, .int .u8 0], .struct [(0, 1, false), (1, 8, true), (9, 8, true), (17, 1, false)]⟩ := nr rfl
theorem ck_29 : cx.kind 29 = some (.struct [(0, 1, false), (1, 8, true), (9, 8, true), (17, 1, false)]) := nr rfl
theorem cx_31 : cx.ty 31 = some ⟨1, false, [.int .i64 0], .int .i64⟩ := nr rfl
theorem ck_31 : cx.kind 31 = some (.int .i64) := nr rfl
theorem cx_36 : cx.ty 36 = some ⟨1, false, [.slice none 0 0], .slice 24 3 32 [.int .i64 0, .int .i64 0, .string ⟨#[]⟩]⟩ := nr rfl
theorem ck_36 : cx.kind 36 = some (.slice 24 3 32 [.int .i64 0, .int .i64 0, .string ⟨#[]⟩]) := nr rfl
theorem ks_36 {e : Nat} {ls : List (List PV)} : lenA cx 36 (.p (.sl e ls)) = some ls.length := nr (len_sl ck_36)
theorem ko_36 {t e : Nat} {ls : List (List PV)} : lenA cx 36 (.own t e ls) = some ls.length := nr (len_own ck_36)
theorem kn_36 {t e : Nat} {ls : List (List PV)} : lenA cx 36 (.nown t e ls) = some ls.length := nr (len_nown ck_36)
theorem kz_36 : lenA cx 36 (.p (.v (.slice none 0 0))) = some 0 := nr (len_nil ck_36)
theorem km_36 {t e j n : Nat} : lenA cx 36 (.ms t e j n) = some n := nr (len_ms ck_36)
theorem cx_45 : cx.ty 45 = some ⟨1, false, [.int .i64 0], .int .i64⟩ := nr rfl
theorem ck_45 : cx.kind 45 = some (.int .i64) := nr rfl
theorem cx_54 : cx.ty 54 = some ⟨1, false, [.map none], .map (.string) (.slice none 0 0)⟩ := nr rfl
theorem ck_54 : cx.kind 54 = some (.map (.string) (.slice none 0 0)) := nr rfl
theorem cx_58 : cx.ty 58 = some ⟨1, false, [.slice none 0 0], .slice 4 1 1 [.bool false]⟩ := nr rfl
theorem ck_58 : cx.kind 58 = some (.slice 4 1 1 [.bool false]) := nr rfl
theorem ks_58 {e : Nat} {ls : List (List PV)} : lenA cx 58 (.p (.sl e ls)) = some ls.length := nr (len_sl ck_58)
theorem ko_58 {t e : Nat} {ls : List (List PV)} : lenA cx 58 (.own t e ls) = some ls.length := nr (len_own ck_58)
theorem kn_58 {t e : Nat} {ls : List (List PV)} : lenA cx 58 (.nown t e ls) = some ls.length := nr (len_nown ck_58)
theorem kz_58 : lenA cx 58 (.p (.v (.slice none 0 0))) = some 0 := nr (len_nil ck_58)
theorem km_58 {t e j n : Nat} : lenA cx 58 (.ms t e j n) = some n := nr (len_ms ck_58)
theorem cx_69 : cx.ty 69 = some ⟨1, false, [.pointer none], .other⟩ := nr rfl
theorem ck_69 : cx.kind 69 = some (.other) := nr rfl
theorem cx_71 : cx.ty 71 = some ⟨2, true, [.slice none 0 0, .int .i64 0], .struct [(0, 1, false), (1, 1, false)]⟩ := nr rfl
theorem ck_71 : cx.kind 71 = some (.struct [(0, 1, false), (1, 1, false)]) := nr rfl
theorem cx_72 : cx.ty 72 = some ⟨1, false, [.nilFunc], .other⟩ := nr rfl
theorem ck_72 : cx.kind 72 = some (.other) := nr rfl
theorem cx_80 : cx.ty 80 = some ⟨1, false, [.slice none 0 0], .slice 72 1 8 [.nilFunc]⟩ := nr rfl
theorem ck_80 : cx.kind 80 = some (.slice 72 1 8 [.nilFunc]) := nr rfl
theorem ks_80 {e : Nat} {ls : List (List PV)} : lenA cx 80 (.p (.sl e ls)) = some ls.length := nr (len_sl ck_80)
theorem ko_80 {t e : Nat} {ls : List (List PV)} : lenA cx 80 (.own t e ls) = some ls.length := nr (len_own ck_80)
theorem kn_80 {t e : Nat} {ls : List (List PV)} : lenA cx 80 (.nown t e ls) = some ls.length := nr (len_nown ck_80)
theorem kz_80 : lenA cx 80 (.p (.v (.slice none 0 0))) = some 0 := nr (len_nil ck_80)
theorem km_80 {t e j n : Nat} : lenA cx 80 (.ms t e j n) = some n := nr (len_ms ck_80)
theorem cx_131 : cx.ty 131 = some ⟨1, false, [.slice none 0 0], .slice 3 1 8 [.int .i64 0]⟩ := nr rfl
theorem ck_131 : cx.kind 131 = some (.slice 3 1 8 [.int .i64 0]) := nr rfl
theorem ks_131 {e : Nat} {ls : List (List PV)} : lenA cx 131 (.p (.sl e ls)) = some ls.length := nr (len_sl ck_131)
theorem ko_131 {t e : Nat} {ls : List (List PV)} : lenA cx 131 (.own t e ls) = some ls.length := nr (len_own ck_131)
theorem kn_131 {t e : Nat} {ls : List (List PV)} : lenA cx 131 (.nown t e ls) = some ls.length := nr (len_nown ck_131)
theorem kz_131 : lenA cx 131 (.p (.v (.slice none 0 0))) = some 0 := nr (len_nil ck_131)
theorem km_131 {t e j n : Nat} : lenA cx 131 (.ms t e j n) = some n := nr (len_ms ck_131)
theorem ce_24 : cx.eqs 24 = some [.int, .int, .str] := nr rfl
theorem ca_3_1_false : arrF 3 1 false = [(0, 1, false), (1, 1, false), (2, 1, false)] := nr rfl
theorem ca_16_2_true : arrF 16 2 true = [(0, 2, true), (2, 2, true), (4, 2, true), (6, 2, true), (8, 2, true), (10, 2, true), (12, 2, true), (14, 2, true), (16, 2, true), (18, 2, true), (20, 2, true), (22, 2, true), (24, 2, true), (26, 2, true), (28, 2, true), (30, 2, true)] := nr rfl
theorem ca_20_1_false : arrF 20 1 false = [(0, 1, false), (1, 1, false), (2, 1, false), (3, 1, false), (4, 1, false), (5, 1, false), (6, 1, false), (7, 1, false), (8, 1, false), (9, 1, false), (10, 1, false), (11, 1, false), (12, 1, false), (13, 1, false), (14, 1, false), (15, 1, false), (16, 1, false), (17, 1, false), (18, 1, false), (19, 1, false)] := nr rfl
theorem cx_arr : (type_of% ca_3_1_false) ∧ (type_of% ca_16_2_true) ∧ (type_of% ca_20_1_false) := ⟨ca_3_1_false, ca_16_2_true, ca_20_1_false⟩
theorem aa {p q : Prop} (h : p) (k : q) : p ∧ q := ⟨h, k⟩
def T2 := aa ck_2 cx_2
def T3 := aa ck_3 cx_3
def T4 := aa ck_4 cx_4
def T5 := aa ck_5 cx_5
def T9 := aa ck_9 cx_9
def T22 := aa ck_22 <| aa cx_22 <| aa @ks_22 <| aa @ko_22 <| aa @kn_22 <| aa @km_22 kz_22
def T24 := aa ck_24 <| aa cx_24 ce_24
def T25 := aa ck_25 <| aa cx_25 <| aa @ks_25 <| aa @ko_25 <| aa @kn_25 <| aa @km_25 kz_25
def T27 := aa ck_27 cx_27
def T29 := aa ck_29 cx_29
def T31 := aa ck_31 cx_31
def T36 := aa ck_36 <| aa cx_36 <| aa @ks_36 <| aa @ko_36 <| aa @kn_36 <| aa @km_36 kz_36
def T45 := aa ck_45 cx_45
def T54 := aa ck_54 cx_54
def T58 := aa ck_58 <| aa cx_58 <| aa @ks_58 <| aa @ko_58 <| aa @kn_58 <| aa @km_58 kz_58
def T69 := aa ck_69 cx_69
def T71 := aa ck_71 cx_71
def T72 := aa ck_72 cx_72
def T80 := aa ck_80 <| aa cx_80 <| aa @ks_80 <| aa @ko_80 <| aa @kn_80 <| aa @km_80 kz_80
def T131 := aa ck_131 <| aa cx_131 <| aa @ks_131 <| aa @ko_131 <| aa @kn_131 <| aa @km_131 kz_131
theorem wX : (type_of% @wBB) ∧ (type_of% @wBC) ∧ (type_of% @cx_muts) ∧ (type_of% @cx_arr) ∧ (type_of% @wBD) := ⟨wBB, wBC, cx_muts, cx_arr, wBD⟩
end Go.Proofs.YtpcblbbddccgpaaDoor
namespace Go.Proofs.YtpcblbbddccgpaaDoor
open Go.RowKit
inductive Ex where
 | mk (kind vk vn : Int) (vs tb nm : ByteArray) (slot : Int) (kids : List Ex)
mutual
def exC : Ex → List PV
 | .mk kind vk vn vs tb nm slot kids => [.v (.int .i64 kind), .v (.int .i64 vk), .v (.int .i64 vn), .v (.string vs), .v (.string tb), .v (.string nm), .v (.int .i64 slot), .sl 8 (exL kids)]
def exL : List Ex → List (List PV)
 | [] => []
 | x :: l => exC x :: exL l
end
def exA (x : Ex) : AV := .agg ((exC x).map .p)
def emp : ByteArray := ⟨#[]⟩
theorem exL_len : ∀ l : List Ex, (exL l).length = l.length
 | [] => rfl
 | x :: l => by simp [exL, exL_len l]
theorem exC_len (x : Ex) : (exC x).length = 8 := by cases x; rfl
end Go.Proofs.YtpcblbbddccgpaaDoor
namespace Go.Proofs.YtpcblbbddccgpaaDoor
open Go.RowKit
abbrev Va := Int × Int × ByteArray
def vaC (v : Va) : List PV := [.v (.int .i64 v.1), .v (.int .i64 v.2.1), .v (.string v.2.2)]
def vaA (v : Va) : AV := .agg ((vaC v).map .p)
def va0 : Va := (0, 0, emp)
def enV (l : List Va) : List (List PV) := l.map vaC
theorem enV_len (l : List Va) : (enV l).length = l.length := by simp [enV]
theorem enV_get (l : List Va) (i : Nat) (h : i < l.length) : (enV l)[i]? = some (vaC l[i]) := by simp [enV, h]
theorem vaC_len (v : Va) : (vaC v).length = 3 := rfl
theorem enV_app (l m : List Va) : enV (l ++ m) = enV l ++ enV m := by simp [enV]
def enVV (l : List (List Va)) : List (List PV) := l.map fun r => [.sl 3 (enV r)]
theorem enVV_len (l : List (List Va)) : (enVV l).length = l.length := by simp [enVV]
theorem enVV_get (l : List (List Va)) (i : Nat) (h : i < l.length) : (enVV l)[i]? = some [.sl 3 (enV l[i])] := by simp [enVV, h]
theorem enVV_app (l m : List (List Va)) : enVV (l ++ m) = enVV l ++ enVV m := by simp [enVV]
def okV (v : Va) : Bool :=
 if v.1 = 0 then decide (v.2.1 = 0) && (v.2.2.toList == emp.toList)
 else if v.1 = 1 then v.2.2.toList == emp.toList
 else if v.1 = 2 then (v.2.1.fdiv 2 == 0) && (v.2.2.toList == emp.toList)
 else (v.1 == 3) && (v.2.1 == 0) && decide ((v.2.2.size : Int) ≤ 64)
def trV (b : Bool) : Va := (2, if b then 1 else 0, emp)
def failV (c : Int) (e : Int) : Va × Int := (va0, if e = 0 then c else e)
def kidsV (k : Int) : Int := if k = 1 ∨ k = 24 ∨ k = 2 then 0 else if k = 3 ∨ k = 4 ∨ k = 18 ∨ k = 19 then 1 else if 5 ≤ k ∧ k ≤ 17 then 2 else -1
def cmpI (a b : Int) : Int := if a < b then -1 else if a > b then 1 else 0
def cmpS (a b : ByteArray) : Int := if Op.bytesLess a.toList b.toList then -1 else if a.toList == b.toList then 0 else 1
def cmpV (a b : Va) : Int := if cmpI a.1 b.1 ≠ 0 then cmpI a.1 b.1 else if cmpI a.2.1 b.2.1 ≠ 0 then cmpI a.2.1 b.2.1 else cmpS a.2.2 b.2.2
def numV (k a b : Int) (e : Int) : Va × Int :=
 let w := IntKind.i64.wrap
 let fin := fun (n : Int) (ok : Bool) => if ok then (((1, n, emp) : Va), e) else failV 35 e
 if k = 5 then fin (w (a + b)) (decide (w (a + b) > a) == decide (b > 0))
 else if k = 6 then fin (w (a - b)) (decide (w (a - b) < a) == decide (b > 0))
 else if k = 7 then fin (w (a * b)) (decide (a = 0) || (w ((w (a * b)).tdiv a) == b && !(decide (a = -1) && decide (b = -9223372036854775808))))
 else if b = 0 then failV 36 e
 else if b = -1 then (if k = 9 then fin 0 true else fin (w (0 - a)) (decide (a ≠ -9223372036854775808)))
 else if k = 9 then fin (a.tmod b) true
 else fin (w (a.tdiv b)) true
def leafV (row : List Va) (k : Int) (v : Va) (s : Int) (e : Int) : Va × Int :=
 if k = 2 then failV 32 e
 else if k = 1 ∧ okV v = true then (v, e)
 else if k = 24 ∧ 0 ≤ s ∧ s < row.length ∧ okV (row.getD s.toNat va0) = true then (row.getD s.toNat va0, e)
 else failV 1 e
def oneV (k : Int) (v : Va) (e : Int) : Va × Int :=
 if k = 18 then (trV (v.1 = 0), e)
 else if k = 19 then (trV (v.1 ≠ 0), e)
 else if v.1 = 0 then (v, e)
 else if k = 4 ∧ v.1 = 2 then (trV (v.2.1 = 0), e)
 else if k = 4 ∨ v.1 ≠ 1 then failV 33 e
 else if v.2.1 = -9223372036854775808 then failV 35 e
 else ((1, IntKind.i64.wrap (0 - v.2.1), emp), e)
def relV (k : Int) (c : Int) : Bool := if k = 10 then c = 0 else if k = 11 then c ≠ 0 else if k = 12 then c < 0 else if k = 13 then c ≤ 0 else if k = 14 then c > 0 else c ≥ 0
def twoV (k : Int) (a b : Va) (e : Int) : Va × Int :=
 if e ≠ 0 then (va0, e)
 else if k ≤ 9 then
  if a.1 > 1 ∨ b.1 > 1 then failV 33 e
  else if a.1 = 0 ∨ b.1 = 0 then (va0, e)
  else numV k a.2.1 b.2.1 e
 else if a.1 = 0 ∨ b.1 = 0 then (va0, e)
 else if a.1 ≠ b.1 then failV 33 e
 else (trV (relV k (cmpV a b)), e)
def someV (v : Va) : Bool := v.1 ≠ 0 ∧ v.1 ≠ 2
def eqV (a b : Va) : Bool := a.1 = b.1 ∧ a.2.1 = b.2.1 ∧ a.2.2.toList = b.2.2.toList
def logA (k : Int) (a : Va) (e : Int) : Option (Va × Int) :=
 if e = 0 ∧ someV a = true then some (failV 33 e)
 else if e ≠ 0 ∨ eqV a (trV (k = 17)) = true then some (a, e)
 else none
def logB (k : Int) (a b : Va) (e : Int) : Va × Int :=
 if e = 0 ∧ someV b = true then failV 33 e
 else if eqV b (trV (k = 17)) = true then (b, e)
 else if a.1 = 0 then (a, e)
 else (b, e)
def findV (row : List Va) : Ex → Int → Va × Int
 | .mk k vk vn vs tb nm s [], e => if kidsV k ≠ 0 then failV 1 e else leafV row k (vk, vn, vs) s e
 | .mk k vk vn vs tb nm s [x], e => if kidsV k ≠ 1 then failV 1 e else oneV k (findV row x e).1 (findV row x e).2
 | .mk k vk vn vs tb nm s [x, y], e =>
   if kidsV k ≠ 2 then failV 1 e
   else if 16 ≤ k then (match logA k (findV row x e).1 (findV row x e).2 with
    | some r => r
    | none => logB k (findV row x e).1 (findV row y (findV row x e).2).1 (findV row y (findV row x e).2).2)
   else twoV k (findV row x e).1 (findV row y (findV row x e).2).1 (findV row y (findV row x e).2).2
 | .mk k vk vn vs tb nm s (_ :: _ :: _ :: _), e => failV 1 e
def evalV (row : List Va) (x : Ex) : Va × Int := if (findV row x 0).2 ≠ 0 then (va0, (findV row x 0).2) else ((findV row x 0).1, 0)
def holdsV (row : List Va) (x : Ex) : Bool × Int :=
 let r := evalV row x
 let e := if r.2 = 0 ∧ r.1.1 ≠ 0 ∧ r.1.1 ≠ 2 then 33 else r.2
 (decide (e = 0) && decide (r.1.1 = 2) && decide (r.1.2.1 = 1), e)
end Go.Proofs.YtpcblbbddccgpaaDoor
