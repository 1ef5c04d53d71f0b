/- The table of types of this program, for the abstract machine. Expressions as trees, and their cells. Values, rows, and what expressions come to over a row, as the program reckons it. Values without objects under other numbers. Objects that name no others: contracts of their methods at any state. Small functions of values and of expressions. Values compared. The finder's methods: what expressions come to. -/
import Derived.Test.YtpcblbbddccgpaaDoorM09
import Derived.Test.YtpcblbbddccgpaaDoorRows
import Derived.Test.YtpcblbbddccgpaaDoorM10
set_option linter.unusedSimpArgs false
set_option linter.unusedVariables false
set_option linter.defProp false
set_option maxRecDepth 100000
set_option maxHeartbeats 32000000
namespace Go.Proofs.YtpcblbbddccgpaaDoor
def cxL : List (TypeId × TI) := [
 (1, ⟨1, false, [.nilFunc], .other⟩),
 (2, ⟨1, false, [.int .i64 0], .int .i64⟩),
 (3, ⟨1, false, [.int .i64 0], .int .i64⟩),
 (4, ⟨1, false, [.bool false], .bool⟩),
 (5, ⟨1, false, [.int .u8 0], .int .u8⟩),
 (9, ⟨1, false, [.string ⟨#[]⟩], .str⟩),
 (12, ⟨1, false, [.int .u64 0], .int .u64⟩),
 (13, ⟨2, true, [.string ⟨#[]⟩, .int .u64 0], .struct [(0, 1, false), (1, 1, false)]⟩),
 (19, ⟨1, true, [.pointer none], .struct [(0, 1, false)]⟩),
 (21, ⟨1, false, [.int .i32 0], .int .i32⟩),
 (22, ⟨1, false, [.slice none 0 0], .slice 36 1 24 [.slice none 0 0]⟩),
 (23, ⟨3, true, [.int .i64 0, .int .i64 0, .string ⟨#[]⟩], .struct [(0, 1, false), (1, 1, false), (2, 1, false)]⟩),
 (24, ⟨3, true, [.int .i64 0, .int .i64 0, .string ⟨#[]⟩], .struct [(0, 1, false), (1, 1, false), (2, 1, false)]⟩),
 (25, ⟨1, false, [.slice none 0 0], .slice 27 8 104 [.int .i64 0, .int .i64 0, .int .i64 0, .string ⟨#[]⟩, .string ⟨#[]⟩, .string ⟨#[]⟩, .int .i64 0, .slice none 0 0]⟩),
 (26, ⟨8, true, [.int .i64 0, .int .i64 0, .int .i64 0, .string ⟨#[]⟩, .string ⟨#[]⟩, .string ⟨#[]⟩, .int .i64 0, .slice none 0 0], .struct [(0, 1, false), (1, 3, true), (4, 1, false), (5, 1, false), (6, 1, false), (7, 1, false)]⟩),
 (27, ⟨8, true, [.int .i64 0, .int .i64 0, .int .i64 0, .string ⟨#[]⟩, .string ⟨#[]⟩, .string ⟨#[]⟩, .int .i64 0, .slice none 0 0], .struct [(0, 1, false), (1, 3, true), (4, 1, false), (5, 1, false), (6, 1, false), (7, 1, false)]⟩),
 (28, ⟨18, true, [.slice none 0 0, .int .i64 0, .int .i64 0, .int .i64 0, .string ⟨#[]⟩, .string ⟨#[]⟩, .string ⟨#[]⟩, .int .i64 0, .slice none 0 0, .int .i64 0, .int .i64 0, .int .i64 0, .string ⟨#[]⟩, .string ⟨#[]⟩, .string ⟨#[]⟩, .int .i64 0, .slice none 0 0, .int .u8 0], .struct [(0, 1, false), (1, 8, true), (9, 8, true), (17, 1, false)]⟩),
 (29, ⟨18, true, [.slice none 0 0, .int .i64 0, .int .i64 0, .int .i64 0, .string ⟨#[]⟩, .string ⟨#[]⟩, .string ⟨#[]⟩, .int .i64 0, .slice none 0 0, .int .i64 0, .int .i64 0, .int .i64 0, .string ⟨#[]⟩, .string ⟨#[]⟩, .string ⟨#[]⟩, .int .i64 0, .slice none 0 0, .int .u8 0], .struct [(0, 1, false), (1, 8, true), (9, 8, true), (17, 1, false)]⟩),
 (30, ⟨1, false, [.nilFunc], .other⟩),
 (31, ⟨1, false, [.int .i64 0], .int .i64⟩),
 (33, ⟨1, false, [.nilFunc], .other⟩),
 (34, ⟨1, false, [.nilFunc], .other⟩),
 (35, ⟨1, false, [.nilFunc], .other⟩),
 (36, ⟨1, false, [.slice none 0 0], .slice 24 3 32 [.int .i64 0, .int .i64 0, .string ⟨#[]⟩]⟩),
 (37, ⟨1, false, [.nilFunc], .other⟩),
 (38, ⟨1, false, [.nilFunc], .other⟩),
 (39, ⟨1, false, [.nilFunc], .other⟩),
 (40, ⟨1, false, [.nilFunc], .other⟩),
 (41, ⟨1, false, [.nilFunc], .other⟩),
 (42, ⟨1, false, [.nilFunc], .other⟩),
 (43, ⟨1, false, [.nilFunc], .other⟩),
 (44, ⟨1, false, [.nilFunc], .other⟩),
 (45, ⟨1, false, [.int .i64 0], .int .i64⟩),
 (47, ⟨1, false, [.nilFunc], .other⟩),
 (48, ⟨1, false, [.nilFunc], .other⟩),
 (49, ⟨1, false, [.nilFunc], .other⟩),
 (50, ⟨1, false, [.nilFunc], .other⟩),
 (51, ⟨1, false, [.nilFunc], .other⟩),
 (52, ⟨1, false, [.nilFunc], .other⟩),
 (53, ⟨1, false, [.nilFunc], .other⟩),
 (54, ⟨1, false, [.map none], .map (.string) (.slice none 0 0)⟩),
 (56, ⟨1, false, [.nilFunc], .other⟩),
 (57, ⟨1, false, [.nilFunc], .other⟩),
 (58, ⟨1, false, [.slice none 0 0], .slice 4 1 1 [.bool false]⟩),
 (59, ⟨1, false, [.nilFunc], .other⟩),
 (60, ⟨1, false, [.nilFunc], .other⟩),
 (62, ⟨1, false, [.nilFunc], .other⟩),
 (63, ⟨1, false, [.pointer none], .other⟩),
 (64, ⟨1, false, [.nilFunc], .other⟩),
 (65, ⟨1, false, [.nilFunc], .other⟩),
 (66, ⟨1, false, [.nilFunc], .other⟩),
 (67, ⟨1, false, [.nilFunc], .other⟩),
 (68, ⟨1, false, [.nilFunc], .other⟩),
 (69, ⟨1, false, [.pointer none], .other⟩),
 (70, ⟨2, true, [.slice none 0 0, .int .i64 0], .struct [(0, 1, false), (1, 1, false)]⟩),
 (71, ⟨2, true, [.slice none 0 0, .int .i64 0], .struct [(0, 1, false), (1, 1, false)]⟩),
 (72, ⟨1, false, [.nilFunc], .other⟩),
 (73, ⟨1, false, [.int .u64 0], .int .u64⟩),
 (74, ⟨1, false, [.nilFunc], .other⟩),
 (75, ⟨1, false, [.nilFunc], .other⟩),
 (76, ⟨1, false, [.nilFunc], .other⟩),
 (77, ⟨1, false, [.nilFunc], .other⟩),
 (78, ⟨1, false, [.nilFunc], .other⟩),
 (79, ⟨1, false, [.nilFunc], .other⟩),
 (80, ⟨1, false, [.slice none 0 0], .slice 72 1 8 [.nilFunc]⟩),
 (81, ⟨1, false, [.pointer none], .other⟩),
 (82, ⟨1, false, [.slice none 0 0], .slice 5 1 1 [.int .u8 0]⟩),
 (83, ⟨2, true, [.pointer none, .slice none 0 0], .struct [(0, 1, false), (1, 1, false)]⟩),
 (84, ⟨2, true, [.pointer none, .slice none 0 0], .struct [(0, 1, false), (1, 1, false)]⟩),
 (85, ⟨1, false, [.nilFunc], .other⟩),
 (89, ⟨1, false, [.nilFunc], .other⟩),
 (90, ⟨1, false, [.nilFunc], .other⟩),
 (91, ⟨1, false, [.nilFunc], .other⟩),
 (92, ⟨1, false, [.nilFunc], .other⟩),
 (93, ⟨1, false, [.nilFunc], .other⟩),
 (94, ⟨1, false, [.nilFunc], .other⟩),
 (95, ⟨1, false, [.nilFunc], .other⟩),
 (96, ⟨1, false, [.nilFunc], .other⟩),
 (97, ⟨1, false, [.nilFunc], .other⟩),
 (98, ⟨1, false, [.nilFunc], .other⟩),
 (99, ⟨24, true, (zB 24), .barr 24⟩),
 (100, ⟨1, false, [.int .u64 0], .int .u64⟩),
 (101, ⟨1, false, [.nilFunc], .other⟩),
 (102, ⟨1, false, [.nilFunc], .other⟩),
 (104, ⟨1, false, [.nilFunc], .other⟩),
 (105, ⟨1, false, [.pointer none], .other⟩),
 (107, ⟨1, false, [.nilFunc], .other⟩),
 (108, ⟨1, false, [.nilFunc], .other⟩),
 (109, ⟨1, false, [.nilFunc], .other⟩),
 (110, ⟨1, false, [.nilFunc], .other⟩),
 (111, ⟨1, false, [.nilFunc], .other⟩),
 (112, ⟨1, false, [.nilFunc], .other⟩),
 (113, ⟨1, false, [.nilFunc], .other⟩),
 (114, ⟨1, false, [.nilFunc], .other⟩),
 (115, ⟨1, false, [.nilFunc], .other⟩),
 (116, ⟨1, false, [.nilFunc], .other⟩),
 (117, ⟨20, true, (List.replicate 20 (.int .u64 0)), .arr 20 1 false⟩),
 (118, ⟨1, false, [.int .u32 0], .int .u32⟩),
 (119, ⟨65, true, (zB 65), .barr 65⟩),
 (120, ⟨1, false, [.nilFunc], .other⟩),
 (121, ⟨1, false, [.nilFunc], .other⟩),
 (123, ⟨1, false, [.nilFunc], .other⟩),
 (124, ⟨1, false, [.nilFunc], .other⟩),
 (125, ⟨1, false, [.nilFunc], .other⟩),
 (127, ⟨1, false, [.nilFunc], .other⟩),
 (128, ⟨1, false, [.slice none 0 0], .slice 147 5 20 [.int .u32 0, .int .u32 0, .int .i32 0, .int .i32 0, .int .i32 0]⟩),
 (129, ⟨1, false, [.nilFunc], .other⟩),
 (130, ⟨1, false, [.nilFunc], .other⟩),
 (131, ⟨1, false, [.slice none 0 0], .slice 3 1 8 [.int .i64 0]⟩),
 (132, ⟨1, false, [.nilFunc], .other⟩),
 (133, ⟨1, false, [.nilFunc], .other⟩),
 (134, ⟨1, false, [.nilFunc], .other⟩),
 (135, ⟨256, true, (zB 256), .barr 256⟩),
 (136, ⟨2, true, [.int .u8 0, .int .u8 0], .struct [(0, 1, false), (1, 1, false)]⟩),
 (137, ⟨2, true, [.int .u8 0, .int .u8 0], .struct [(0, 1, false), (1, 1, false)]⟩),
 (138, ⟨32, true, (zB 32), .arr 16 2 true⟩),
 (139, ⟨1, false, [.pointer none], .other⟩),
 (140, ⟨1, false, [.nilFunc], .other⟩),
 (141, ⟨1, false, [.nilFunc], .other⟩),
 (142, ⟨32, true, (zB 32), .barr 32⟩),
 (143, ⟨64, true, (zB 64), .barr 64⟩),
 (144, ⟨3, true, [.int .i32 0, .int .i32 0, .int .i32 0], .arr 3 1 false⟩),
 (145, ⟨3, true, [.int .i32 0, .int .i32 0, .int .i32 0], .arr 3 1 false⟩),
 (146, ⟨5, true, [.int .u32 0, .int .u32 0, .int .i32 0, .int .i32 0, .int .i32 0], .struct [(0, 1, false), (1, 1, false), (2, 3, true)]⟩),
 (147, ⟨5, true, [.int .u32 0, .int .u32 0, .int .i32 0, .int .i32 0, .int .i32 0], .struct [(0, 1, false), (1, 1, false), (2, 3, true)]⟩),
 (149, ⟨1, false, [.nilFunc], .other⟩),
 (157, ⟨1, false, [.nilFunc], .other⟩)]
def cxQ : List (TypeId × List EK) := [(24, [.int, .int, .str]), (137, [.int, .int])]
def cx : Ctx := tabCtx cxL [] cxQ
theorem cx_ok : cx.ok Tryd.prog := tabCtx_ok (by kernel_rfl) (by kernel_rfl)
theorem dr_ok : DrawOk Tryd.prog (aDraw Tryd.prog cx) := aDraw_ok cx_ok (by kernel_rfl)
theorem cx_muts : cx.muts = [] := nr rfl
theorem cx_2 : cx.ty 2 = some ⟨1, false, [.int .i64 0], .int .i64⟩ := nr rfl
theorem ck_2 : cx.kind 2 = some (.int .i64) := nr rfl
theorem cx_3 : cx.ty 3 = some ⟨1, false, [.int .i64 0], .int .i64⟩ := nr rfl
theorem ck_3 : cx.kind 3 = some (.int .i64) := nr rfl
theorem cx_4 : cx.ty 4 = some ⟨1, false, [.bool false], .bool⟩ := nr rfl
theorem ck_4 : cx.kind 4 = some (.bool) := nr rfl
theorem cx_9 : cx.ty 9 = some ⟨1, false, [.string ⟨#[]⟩], .str⟩ := nr rfl
theorem ck_9 : cx.kind 9 = some (.str) := nr rfl
theorem cx_22 : cx.ty 22 = some ⟨1, false, [.slice none 0 0], .slice 36 1 24 [.slice none 0 0]⟩ := nr rfl
theorem ck_22 : cx.kind 22 = some (.slice 36 1 24 [.slice none 0 0]) := nr rfl
theorem ks_22 {e : Nat} {ls : List (List PV)} : lenA cx 22 (.p (.sl e ls)) = some ls.length := nr (len_sl ck_22)
theorem ko_22 {t e : Nat} {ls : List (List PV)} : lenA cx 22 (.own t e ls) = some ls.length := nr (len_own ck_22)
theorem kn_22 {t e : Nat} {ls : List (List PV)} : lenA cx 22 (.nown t e ls) = some ls.length := nr (len_nown ck_22)
theorem kz_22 : lenA cx 22 (.p (.v (.slice none 0 0))) = some 0 := nr (len_nil ck_22)
theorem cx_24 : cx.ty 24 = some ⟨3, true, [.int .i64 0, .int .i64 0, .string ⟨#[]⟩], .struct [(0, 1, false), (1, 1, false), (2, 1, false)]⟩ := nr rfl
theorem ck_24 : cx.kind 24 = some (.struct [(0, 1, false), (1, 1, false), (2, 1, false)]) := nr rfl
theorem cx_25 : cx.ty 25 = some ⟨1, false, [.slice none 0 0], .slice 27 8 104 [.int .i64 0, .int .i64 0, .int .i64 0, .string ⟨#[]⟩, .string ⟨#[]⟩, .string ⟨#[]⟩, .int .i64 0, .slice none 0 0]⟩ := nr rfl
theorem ck_25 : cx.kind 25 = some (.slice 27 8 104 [.int .i64 0, .int .i64 0, .int .i64 0, .string ⟨#[]⟩, .string ⟨#[]⟩, .string ⟨#[]⟩, .int .i64 0, .slice none 0 0]) := nr rfl
theorem ks_25 {e : Nat} {ls : List (List PV)} : lenA cx 25 (.p (.sl e ls)) = some ls.length := nr (len_sl ck_25)
theorem ko_25 {t e : Nat} {ls : List (List PV)} : lenA cx 25 (.own t e ls) = some ls.length := nr (len_own ck_25)
theorem kn_25 {t e : Nat} {ls : List (List PV)} : lenA cx 25 (.nown t e ls) = some ls.length := nr (len_nown ck_25)
theorem kz_25 : lenA cx 25 (.p (.v (.slice none 0 0))) = some 0 := nr (len_nil ck_25)
theorem cx_27 : cx.ty 27 = some ⟨8, true, [.int .i64 0, .int .i64 0, .int .i64 0, .string ⟨#[]⟩, .string ⟨#[]⟩, .string ⟨#[]⟩, .int .i64 0, .slice none 0 0], .struct [(0, 1, false), (1, 3, true), (4, 1, false), (5, 1, false), (6, 1, false), (7, 1, false)]⟩ := nr rfl
theorem ck_27 : cx.kind 27 = some (.struct [(0, 1, false), (1, 3, true), (4, 1, false), (5, 1, false), (6, 1, false), (7, 1, false)]) := nr rfl
theorem cx_31 : cx.ty 31 = some ⟨1, false, [.int .i64 0], .int .i64⟩ := nr rfl
theorem ck_31 : cx.kind 31 = some (.int .i64) := nr rfl
theorem cx_36 : cx.ty 36 = some ⟨1, false, [.slice none 0 0], .slice 24 3 32 [.int .i64 0, .int .i64 0, .string ⟨#[]⟩]⟩ := nr rfl
theorem ck_36 : cx.kind 36 = some (.slice 24 3 32 [.int .i64 0, .int .i64 0, .string ⟨#[]⟩]) := nr rfl
theorem ks_36 {e : Nat} {ls : List (List PV)} : lenA cx 36 (.p (.sl e ls)) = some ls.length := nr (len_sl ck_36)
theorem ko_36 {t e : Nat} {ls : List (List PV)} : lenA cx 36 (.own t e ls) = some ls.length := nr (len_own ck_36)
theorem kn_36 {t e : Nat} {ls : List (List PV)} : lenA cx 36 (.nown t e ls) = some ls.length := nr (len_nown ck_36)
theorem kz_36 : lenA cx 36 (.p (.v (.slice none 0 0))) = some 0 := nr (len_nil ck_36)
theorem cx_45 : cx.ty 45 = some ⟨1, false, [.int .i64 0], .int .i64⟩ := nr rfl
theorem ck_45 : cx.kind 45 = some (.int .i64) := nr rfl
theorem cx_54 : cx.ty 54 = some ⟨1, false, [.map none], .map (.string) (.slice none 0 0)⟩ := nr rfl
theorem ck_54 : cx.kind 54 = some (.map (.string) (.slice none 0 0)) := nr rfl
theorem cx_58 : cx.ty 58 = some ⟨1, false, [.slice none 0 0], .slice 4 1 1 [.bool false]⟩ := nr rfl
theorem ck_58 : cx.kind 58 = some (.slice 4 1 1 [.bool false]) := nr rfl
theorem ks_58 {e : Nat} {ls : List (List PV)} : lenA cx 58 (.p (.sl e ls)) = some ls.length := nr (len_sl ck_58)
theorem ko_58 {t e : Nat} {ls : List (List PV)} : lenA cx 58 (.own t e ls) = some ls.length := nr (len_own ck_58)
theorem kn_58 {t e : Nat} {ls : List (List PV)} : lenA cx 58 (.nown t e ls) = some ls.length := nr (len_nown ck_58)
theorem kz_58 : lenA cx 58 (.p (.v (.slice none 0 0))) = some 0 := nr (len_nil ck_58)
theorem cx_69 : cx.ty 69 = some ⟨1, false, [.pointer none], .other⟩ := nr rfl
theorem ck_69 : cx.kind 69 = some (.other) := nr rfl
theorem cx_71 : cx.ty 71 = some ⟨2, true, [.slice none 0 0, .int .i64 0], .struct [(0, 1, false), (1, 1, false)]⟩ := nr rfl
theorem ck_71 : cx.kind 71 = some (.struct [(0, 1, false), (1, 1, false)]) := nr rfl
theorem cx_72 : cx.ty 72 = some ⟨1, false, [.nilFunc], .other⟩ := nr rfl
theorem ck_72 : cx.kind 72 = some (.other) := nr rfl
theorem cx_80 : cx.ty 80 = some ⟨1, false, [.slice none 0 0], .slice 72 1 8 [.nilFunc]⟩ := nr rfl
theorem ck_80 : cx.kind 80 = some (.slice 72 1 8 [.nilFunc]) := nr rfl
theorem ks_80 {e : Nat} {ls : List (List PV)} : lenA cx 80 (.p (.sl e ls)) = some ls.length := nr (len_sl ck_80)
theorem ko_80 {t e : Nat} {ls : List (List PV)} : lenA cx 80 (.own t e ls) = some ls.length := nr (len_own ck_80)
theorem kn_80 {t e : Nat} {ls : List (List PV)} : lenA cx 80 (.nown t e ls) = some ls.length := nr (len_nown ck_80)
theorem kz_80 : lenA cx 80 (.p (.v (.slice none 0 0))) = some 0 := nr (len_nil ck_80)
theorem cx_131 : cx.ty 131 = some ⟨1, false, [.slice none 0 0], .slice 3 1 8 [.int .i64 0]⟩ := nr rfl
theorem ck_131 : cx.kind 131 = some (.slice 3 1 8 [.int .i64 0]) := nr rfl
theorem ks_131 {e : Nat} {ls : List (List PV)} : lenA cx 131 (.p (.sl e ls)) = some ls.length := nr (len_sl ck_131)
theorem ko_131 {t e : Nat} {ls : List (List PV)} : lenA cx 131 (.own t e ls) = some ls.length := nr (len_own ck_131)
theorem kn_131 {t e : Nat} {ls : List (List PV)} : lenA cx 131 (.nown t e ls) = some ls.length := nr (len_nown ck_131)
theorem kz_131 : lenA cx 131 (.p (.v (.slice none 0 0))) = some 0 := nr (len_nil ck_131)
theorem ce_24 : cx.eqs 24 = some [.int, .int, .str] := nr rfl
theorem ca_3_1_false : arrF 3 1 false = [(0, 1, false), (1, 1, false), (2, 1, false)] := nr rfl
theorem ca_16_2_true : arrF 16 2 true = [(0, 2, true), (2, 2, true), (4, 2, true), (6, 2, true), (8, 2, true), (10, 2, true), (12, 2, true), (14, 2, true), (16, 2, true), (18, 2, true), (20, 2, true), (22, 2, true), (24, 2, true), (26, 2, true), (28, 2, true), (30, 2, true)] := nr rfl
theorem ca_20_1_false : arrF 20 1 false = [(0, 1, false), (1, 1, false), (2, 1, false), (3, 1, false), (4, 1, false), (5, 1, false), (6, 1, false), (7, 1, false), (8, 1, false), (9, 1, false), (10, 1, false), (11, 1, false), (12, 1, false), (13, 1, false), (14, 1, false), (15, 1, false), (16, 1, false), (17, 1, false), (18, 1, false), (19, 1, false)] := nr rfl
theorem cx_arr : (type_of% ca_3_1_false) ∧ (type_of% ca_16_2_true) ∧ (type_of% ca_20_1_false) := ⟨ca_3_1_false, ca_16_2_true, ca_20_1_false⟩
theorem aa {p q : Prop} (h : p) (k : q) : p ∧ q := ⟨h, k⟩
def T2 := aa ck_2 cx_2
def T3 := aa ck_3 cx_3
def T4 := aa ck_4 cx_4
def T9 := aa ck_9 cx_9
def T22 := aa ck_22 <| aa cx_22 <| aa @ks_22 <| aa @ko_22 <| aa @kn_22 kz_22
def T24 := aa ck_24 <| aa cx_24 ce_24
def T25 := aa ck_25 <| aa cx_25 <| aa @ks_25 <| aa @ko_25 <| aa @kn_25 kz_25
def T27 := aa ck_27 cx_27
def T31 := aa ck_31 cx_31
def T36 := aa ck_36 <| aa cx_36 <| aa @ks_36 <| aa @ko_36 <| aa @kn_36 kz_36
def T45 := aa ck_45 cx_45
def T54 := aa ck_54 cx_54
def T58 := aa ck_58 <| aa cx_58 <| aa @ks_58 <| aa @ko_58 <| aa @kn_58 kz_58
def T69 := aa ck_69 cx_69
def T71 := aa ck_71 cx_71
def T72 := aa ck_72 cx_72
def T80 := aa ck_80 <| aa cx_80 <| aa @ks_80 <| aa @ko_80 <| aa @kn_80 kz_80
def T131 := aa ck_131 <| aa cx_131 <| aa @ks_131 <| aa @ko_131 <| aa @kn_131 kz_131
theorem wX : (type_of% @wBB) ∧ (type_of% @wBC) ∧ (type_of% @cx_muts) ∧ (type_of% @cx_arr) ∧ (type_of% @wBD) := ⟨wBB, wBC, cx_muts, cx_arr, wBD⟩
end Go.Proofs.YtpcblbbddccgpaaDoor
namespace Go.Proofs.YtpcblbbddccgpaaDoor
open Go.RowKit
inductive Ex where
 | mk (kind vk vn : Int) (vs tb nm : ByteArray) (slot : Int) (kids : List Ex)
mutual
def exC : Ex → List PV
 | .mk kind vk vn vs tb nm slot kids => [.v (.int .i64 kind), .v (.int .i64 vk), .v (.int .i64 vn), .v (.string vs), .v (.string tb), .v (.string nm), .v (.int .i64 slot), .sl 8 (exL kids)]
def exL : List Ex → List (List PV)
 | [] => []
 | x :: l => exC x :: exL l
end
def exA (x : Ex) : AV := .agg ((exC x).map .p)
def emp : ByteArray := ⟨#[]⟩
theorem exL_len : ∀ l : List Ex, (exL l).length = l.length
 | [] => rfl
 | x :: l => by simp [exL, exL_len l]
theorem exC_len (x : Ex) : (exC x).length = 8 := by cases x; rfl
end Go.Proofs.YtpcblbbddccgpaaDoor
namespace Go.Proofs.YtpcblbbddccgpaaDoor
open Go.RowKit
abbrev Va := Int × Int × ByteArray
def vaC (v : Va) : List PV := [.v (.int .i64 v.1), .v (.int .i64 v.2.1), .v (.string v.2.2)]
def vaA (v : Va) : AV := .agg ((vaC v).map .p)
def va0 : Va := (0, 0, emp)
def enV (l : List Va) : List (List PV) := l.map vaC
theorem enV_len (l : List Va) : (enV l).length = l.length := by simp [enV]
theorem enV_get (l : List Va) (i : Nat) (h : i < l.length) : (enV l)[i]? = some (vaC l[i]) := by simp [enV, h]
theorem vaC_len (v : Va) : (vaC v).length = 3 := rfl
theorem enV_app (l m : List Va) : enV (l ++ m) = enV l ++ enV m := by simp [enV]
def enVV (l : List (List Va)) : List (List PV) := l.map fun r => [.sl 3 (enV r)]
theorem enVV_len (l : List (List Va)) : (enVV l).length = l.length := by simp [enVV]
theorem enVV_get (l : List (List Va)) (i : Nat) (h : i < l.length) : (enVV l)[i]? = some [.sl 3 (enV l[i])] := by simp [enVV, h]
theorem enVV_app (l m : List (List Va)) : enVV (l ++ m) = enVV l ++ enVV m := by simp [enVV]
def okV (v : Va) : Bool :=
 if v.1 = 0 then decide (v.2.1 = 0) && (v.2.2.toList == emp.toList)
 else if v.1 = 1 then v.2.2.toList == emp.toList
 else if v.1 = 2 then (v.2.1.fdiv 2 == 0) && (v.2.2.toList == emp.toList)
 else (v.1 == 3) && (v.2.1 == 0) && decide ((v.2.2.size : Int) ≤ 64)
def trV (b : Bool) : Va := (2, if b then 1 else 0, emp)
def failV (c : Int) (e : Int) : Va × Int := (va0, if e = 0 then c else e)
def kidsV (k : Int) : Int := if k = 1 ∨ k = 24 ∨ k = 2 then 0 else if k = 3 ∨ k = 4 ∨ k = 18 ∨ k = 19 then 1 else if 5 ≤ k ∧ k ≤ 17 then 2 else -1
def cmpI (a b : Int) : Int := if a < b then -1 else if a > b then 1 else 0
def cmpS (a b : ByteArray) : Int := if Op.bytesLess a.toList b.toList then -1 else if a.toList == b.toList then 0 else 1
def cmpV (a b : Va) : Int := if cmpI a.1 b.1 ≠ 0 then cmpI a.1 b.1 else if cmpI a.2.1 b.2.1 ≠ 0 then cmpI a.2.1 b.2.1 else cmpS a.2.2 b.2.2
def numV (k a b : Int) (e : Int) : Va × Int :=
 let w := IntKind.i64.wrap
 let fin := fun (n : Int) (ok : Bool) => if ok then (((1, n, emp) : Va), e) else failV 35 e
 if k = 5 then fin (w (a + b)) (decide (w (a + b) > a) == decide (b > 0))
 else if k = 6 then fin (w (a - b)) (decide (w (a - b) < a) == decide (b > 0))
 else if k = 7 then fin (w (a * b)) (decide (a = 0) || (w ((w (a * b)).tdiv a) == b && !(decide (a = -1) && decide (b = -9223372036854775808))))
 else if b = 0 then failV 36 e
 else if b = -1 then (if k = 9 then fin 0 true else fin (w (0 - a)) (decide (a ≠ -9223372036854775808)))
 else if k = 9 then fin (a.tmod b) true
 else fin (w (a.tdiv b)) true
def leafV (row : List Va) (k : Int) (v : Va) (s : Int) (e : Int) : Va × Int :=
 if k = 2 then failV 32 e
 else if k = 1 ∧ okV v = true then (v, e)
 else if k = 24 ∧ 0 ≤ s ∧ s < row.length ∧ okV (row.getD s.toNat va0) = true then (row.getD s.toNat va0, e)
 else failV 1 e
def oneV (k : Int) (v : Va) (e : Int) : Va × Int :=
 if k = 18 then (trV (v.1 = 0), e)
 else if k = 19 then (trV (v.1 ≠ 0), e)
 else if v.1 = 0 then (v, e)
 else if k = 4 ∧ v.1 = 2 then (trV (v.2.1 = 0), e)
 else if k = 4 ∨ v.1 ≠ 1 then failV 33 e
 else if v.2.1 = -9223372036854775808 then failV 35 e
 else ((1, IntKind.i64.wrap (0 - v.2.1), emp), e)
def relV (k : Int) (c : Int) : Bool := if k = 10 then c = 0 else if k = 11 then c ≠ 0 else if k = 12 then c < 0 else if k = 13 then c ≤ 0 else if k = 14 then c > 0 else c ≥ 0
def twoV (k : Int) (a b : Va) (e : Int) : Va × Int :=
 if e ≠ 0 then (va0, e)
 else if k ≤ 9 then
  if a.1 > 1 ∨ b.1 > 1 then failV 33 e
  else if a.1 = 0 ∨ b.1 = 0 then (va0, e)
  else numV k a.2.1 b.2.1 e
 else if a.1 = 0 ∨ b.1 = 0 then (va0, e)
 else if a.1 ≠ b.1 then failV 33 e
 else (trV (relV k (cmpV a b)), e)
def someV (v : Va) : Bool := v.1 ≠ 0 ∧ v.1 ≠ 2
def eqV (a b : Va) : Bool := a.1 = b.1 ∧ a.2.1 = b.2.1 ∧ a.2.2.toList = b.2.2.toList
def logA (k : Int) (a : Va) (e : Int) : Option (Va × Int) :=
 if e = 0 ∧ someV a = true then some (failV 33 e)
 else if e ≠ 0 ∨ eqV a (trV (k = 17)) = true then some (a, e)
 else none
def logB (k : Int) (a b : Va) (e : Int) : Va × Int :=
 if e = 0 ∧ someV b = true then failV 33 e
 else if eqV b (trV (k = 17)) = true then (b, e)
 else if a.1 = 0 then (a, e)
 else (b, e)
def findV (row : List Va) : Ex → Int → Va × Int
 | .mk k vk vn vs tb nm s [], e => if kidsV k ≠ 0 then failV 1 e else leafV row k (vk, vn, vs) s e
 | .mk k vk vn vs tb nm s [x], e => if kidsV k ≠ 1 then failV 1 e else oneV k (findV row x e).1 (findV row x e).2
 | .mk k vk vn vs tb nm s [x, y], e =>
   if kidsV k ≠ 2 then failV 1 e
   else if 16 ≤ k then (match logA k (findV row x e).1 (findV row x e).2 with
    | some r => r
    | none => logB k (findV row x e).1 (findV row y (findV row x e).2).1 (findV row y (findV row x e).2).2)
   else twoV k (findV row x e).1 (findV row y (findV row x e).2).1 (findV row y (findV row x e).2).2
 | .mk k vk vn vs tb nm s (_ :: _ :: _ :: _), e => failV 1 e
def evalV (row : List Va) (x : Ex) : Va × Int := if (findV row x 0).2 ≠ 0 then (va0, (findV row x 0).2) else ((findV row x 0).1, 0)
def holdsV (row : List Va) (x : Ex) : Bool × Int :=
 let r := evalV row x
 let e := if r.2 = 0 ∧ r.1.1 ≠ 0 ∧ r.1.1 ≠ 2 then 33 else r.2
 (decide (e = 0) && decide (r.1.1 = 2) && decide (r.1.2.1 = 1), e)
end Go.Proofs.YtpcblbbddccgpaaDoor
namespace Go.Proofs.YtpcblbbddccgpaaDoor
open Go.RowKit
theorem bu_len {C : Ctx} {tk : Nat} {T : TypeId} {x : AV} {σ : St} : builtinA C tk .len [T] [x] σ = (lenA C T x).map fun (n : Nat) => (intV .i64 (n : Int), σ) := nr rfl
mutual
theorem renA_free (g : Nat → Nat) : ∀ (a : AV), tokLt 0 a = true → renA g a = a
 | .any, h => by rfl
 | .p x, h => by rfl
 | .ip c o, h => by rfl
 | .own t e ls, h => by simp [tokLt] at h
 | .nown t e ls, h => by simp [tokLt] at h
 | .mp t e i o, h => by simp [tokLt] at h
 | .ms t e i n, h => by simp [tokLt] at h
 | .mmap t, h => by simp [tokLt] at h
 | .raw t e k, h => by simp [tokLt] at h
 | .fn f us vs, h => by
   simp only [tokLt, Bool.and_eq_true] at h
   simp only [renA, renL_free g us h.1, renL_free g vs h.2]
 | .agg l, h => by
   simp only [tokLt] at h
   simp only [renA, renL_free g l h]
 | .tup l, h => by
   simp only [tokLt] at h
   simp only [renA, renL_free g l h]
theorem renL_free (g : Nat → Nat) : ∀ (l : List AV), tokLtL 0 l = true → renL g l = l
 | [], h => by rfl
 | a :: l, h => by
   simp only [tokLtL, Bool.and_eq_true] at h
   simp only [renL, renA_free g a h.1, renL_free g l h.2]
end
mutual
theorem tokLt_mono (n : Nat) : ∀ (a : AV), tokLt 0 a = true → tokLt n a = true
 | .any, h => by rfl
 | .p x, h => by rfl
 | .ip c o, h => by rfl
 | .own t e ls, h => by simp [tokLt] at h
 | .nown t e ls, h => by simp [tokLt] at h
 | .mp t e i o, h => by simp [tokLt] at h
 | .ms t e i m, h => by simp [tokLt] at h
 | .mmap t, h => by simp [tokLt] at h
 | .raw t e k, h => by simp [tokLt] at h
 | .fn f us vs, h => by
   simp only [tokLt, Bool.and_eq_true] at h ⊢
   exact ⟨tokLtL_mono n us h.1, tokLtL_mono n vs h.2⟩
 | .agg l, h => by
   simp only [tokLt] at h ⊢
   exact tokLtL_mono n l h
 | .tup l, h => by
   simp only [tokLt] at h ⊢
   exact tokLtL_mono n l h
theorem tokLtL_mono (n : Nat) : ∀ (l : List AV), tokLtL 0 l = true → tokLtL n l = true
 | [], h => by rfl
 | a :: l, h => by
   simp only [tokLtL, Bool.and_eq_true] at h ⊢
   exact ⟨tokLt_mono n a h.1, tokLtL_mono n l h.2⟩
end
end Go.Proofs.YtpcblbbddccgpaaDoor
namespace Go.Proofs.YtpcblbbddccgpaaDoor
open Go.RowKit
structure PlainOb (ob : Ob) : Prop where
 ren : ∀ g, renOb g ob = ob
 tok : ∀ n, tokOb n ob = true
 row : ∃ e ls, ob = .row e ls
def OCalls {S : Type} (obj : S → Ob) (f : FuncId) (args : Nat → List AV) (s : S) (R : AV → S → Prop) : Prop :=
 ∀ (σ : St) (t : Nat), σ[t]? = some (some (obj s)) → ACalls Tryd.prog f (args t) σ fun r σ' => ∃ s', R r s' ∧ σ' = σ.set t (some (obj s'))
def OPost {S : Type} (obj : S → Ob) (R : AV → S → Prop) (r : AV) (σ' : St) : Prop := ∃ s', tokLt 0 r = true ∧ R r s' ∧ σ'[0]? = some (some (obj s'))
theorem OCalls.mono {S : Type} {obj : S → Ob} {f : FuncId} {args : Nat → List AV} {s : S} {R R' : AV → S → Prop} (h : OCalls obj f args s R) (hR : ∀ r s, R r s → R' r s) : OCalls obj f args s R' := fun σ t ht =>
 (h σ t ht).mono fun r σ' ⟨s', h1, h2⟩ => ⟨s', hR _ _ h1, h2⟩
theorem OCalls.of {S : Type} {obj : S → Ob} {f : FuncId} {args : Nat → List AV} {s : S} {R : AV → S → Prop} (hp : ∀ s, PlainOb (obj s)) (hr : ∀ t, renL (fun t' => [t].getD t' 0) (args 0) = args t) (ha : tokLtL 1 (args 0) = true)
    (h : ACalls Tryd.prog f (args 0) [some (obj s)] fun r σ' => OPost obj R (frzA r) σ') : OCalls obj f args s R := by
  intro σ t ht
  have h1 := ACalls.frz (R := OPost obj R) h
  have h2 := ACalls.at h1 [t] σ (by simp) rfl (fun t' u hs => by
    cases t' with
    | zero =>
      simp at hs; subst hs
      exact ⟨obj s, rfl, (hp s).tok _, by rw [(hp s).ren]; exact ht⟩
    | succ t' => simp at hs) ha (fun r u ⟨s', h1, h2, h3⟩ => ⟨tokLt_mono _ _ h1, fun t' ob ht' ho => by
        have : t' = 0 := by simp at ht'; omega
        subst this
        unfold St.at at ho
        rw [h3] at ho
        simp at ho; subst ho
        exact (hp s').tok _⟩)
  rw [hr] at h2
  refine h2.mono ?_
  rintro r σ' ⟨r0, σ0, ⟨s', h3, h4, h5⟩, rfl, rfl⟩
  refine ⟨s', by rw [renA_free _ _ h3]; exact h4, ?_⟩
  cases σ0 with
  | nil => simp at h5
  | cons o σ0 =>
    simp at h5; subst h5
    simp [setsS, (hp s').ren]
theorem ret_ob {S : Type} {obj : S → Ob} {C : Ctx} {fr : List AV} (s' : S) {rest : St} {rs : List ResultVar} {R : AV → S → Prop} {r0 : AV} {e : Exit} (r1 : AV) {ob : Ob} (hp : PlainOb (obj s')) (hs : ob = obj s') (h1 : resA C rs fr (some ob :: rest) = some r0) (h2 : leT (some ob :: rest) 1 [some ob] r0 r1) (h3 : tokLt 0 r1 = true) (h4 : frzA r1 = r1) (h5 : R r1 s') (he : e = .ret ∨ e = .normal := by first | exact .inl rfl | exact .inr rfl) :
 retA C rs 1 (fun r σ' => OPost obj R (frzA r) σ') e fr (some ob :: rest) := by
 subst hs
 refine ⟨he, r0, r1, [some (obj s')], h1, .inr ⟨?_, ?_⟩, by simp, s', by rw [h4]; exact h3, by rw [h4]; exact h5, rfl⟩
 ·have : min (some (obj s') :: rest).length [some (obj s')].length = 1 := by simp
  rw [this]; exact ⟨h2, trivial⟩
 ·obtain ⟨e, ls, hr⟩ := hp.row
  have ht := hp.tok 1
  simp only [leS]
  refine ⟨?_, trivial⟩
  rw [hr] at ht ⊢
  simp only [leO]
  refine ⟨trivial, .inl ⟨trivial, ?_⟩⟩
  have : min (some (Ob.row e ls) :: rest).length [some (Ob.row e ls)].length = 1 := by simp
  rw [this]
  exact ht
theorem ret_obI {S : Type} {obj : S → Ob} {C : Ctx} {fr : List AV} {a : AV} {b : S} {rest : St} {rs : List ResultVar} {e : Exit} {ob : Ob} (hp : PlainOb (obj b)) (h : match resA C rs fr (some ob :: rest) with | some r0 => ob = obj b ∧ leT (some ob :: rest) 1 [some ob] r0 a | none => False) (h3 : tokLt 0 a = true) (h4 : frzA a = a) (he : e = .ret ∨ e = .normal := by first | exact .inl rfl | exact .inr rfl) :
 retA C rs 1 (fun r σ' => OPost obj (fun r s' => r = a ∧ s' = b) (frzA r) σ') e fr (some ob :: rest) := by
 split at h
 ·rename_i r0 h1
  exact ret_ob b a hp h.1 h1 h.2 h3 h4 ⟨rfl, rfl⟩ he
 ·exact h.elim
theorem ACalls.nilSplit {P : Program} {f : FuncId} {rest : List AV} {σ : St} {R : AV → St → Prop} {e : Nat} (h1 : ACalls P f (.p (.v (.slice none 0 0)) :: rest) σ R) (h2 : ∀ ad c, ACalls P f (.p (.v (.slice (some ad) 0 c)) :: rest) σ R) : ACalls P f (.p (.sl e []) :: rest) σ R :=
 ⟨h1.1, fun M vs hM hv => by
  simp only [ARepL, ARep, PRep] at hv
  obtain ⟨u, us, rfl, hu, hr⟩ := hv
  have key : u = .slice none 0 0 ∨ ∃ ad c, u = .slice (some ad) 0 c := by
   rcases hu with ⟨_, ad, c, rfl, h⟩ | ⟨b, off, c, rfl, _⟩
   ·cases ad with
    | none => rw [h rfl]; exact .inl rfl
    | some ad => exact .inr ⟨ad, c, rfl⟩
   ·exact .inr ⟨_, c, rfl⟩
  rcases key with rfl | ⟨ad, c, rfl⟩
  ·exact h1.2 M _ hM (by simp only [ARepL, ARep, PRep]; exact ⟨_, _, rfl, ⟨rfl, rfl⟩, hr⟩)
  ·exact (h2 ad c).2 M _ hM (by simp only [ARepL, ARep, PRep]; exact ⟨_, _, rfl, ⟨rfl, rfl⟩, hr⟩)⟩
theorem bu_min {C : Ctx} {tk : Nat} {ts : List TypeId} {k k' : IntKind} {n m : Int} {σ : St} : builtinA C tk .min ts [.p (.v (.int k n)), .p (.v (.int k' m))] σ = some (intV k (if m < n then m else n), σ) := nr rfl
theorem bu_max {C : Ctx} {tk : Nat} {ts : List TypeId} {k k' : IntKind} {n m : Int} {σ : St} : builtinA C tk .max ts [.p (.v (.int k n)), .p (.v (.int k' m))] σ = some (intV k (if m > n then m else n), σ) := nr rfl
theorem wantD_split {P : Program} {C : Ctx} {ops : Array Oper} {b want : Bool} {o : Oper} {p : Plan} {L : List Nat} {fr : List AV} {σ : St} {K : List AV → St → Prop} (h1 : b = want → detO P C ops o p L fr σ K) (h2 : b = !want → aPl P C ops p L (setA fr o.dst (.tup [])) σ K) : wantD P C ops (some (some b)) want o p L fr σ K := ⟨h1, h2⟩
theorem wantU_split {P : Program} {C : Ctx} {ops : Array Oper} {b want : Bool} {o : Oper} {p : Plan} {L : List Nat} {fr : List AV} {σ : St} {K : List AV → St → Prop} (h1 : b = want → aStep P C o fr (maskS L σ) (kontU P C ops p L o.dst fr σ K)) (h2 : b = !want → aPl P C ops p L (setA fr o.dst (.tup [])) σ K) : wantU P C ops (some (some b)) want o p L fr σ K := ⟨h1, h2⟩
theorem ret_is {C : Ctx} {fr : List AV} {σ : St} {rs : List ResultVar} {a : AV} {e : Exit} (h2 : match resA C rs fr σ with | some r0 => leT σ 0 [] r0 a | none => False) (h3 : tokLt 0 a = true) (h4 : frzA a = a) (he : e = .ret ∨ e = .normal := by first | exact .inl rfl | exact .inr rfl) :
 retA C rs 0 (fun r _ => tokLt 0 (frzA r) = true ∧ frzA r = a) e fr σ := by
 split at h2
 ·rename_i r0 h1
  refine ⟨he, r0, a, [], h1, .inr ⟨?_, by simp [leS]⟩, Nat.zero_le _, by rw [h4]; exact h3, h4⟩
  have : min σ.length ([] : St).length = 0 := by simp
  rw [this]; exact ⟨h2, trivial⟩
 ·exact h2.elim
theorem wbu : type_of% @bu_len ∧ type_of% @bu_max ∧ type_of% @bu_min := ⟨@bu_len, @bu_max, @bu_min⟩
theorem wW : type_of% @WeakE.eq_1 ∧ type_of% @Weak.eq_1 ∧ type_of% @setsF.eq_1 ∧ type_of% @setsF.eq_2 ∧ type_of% @setsO.eq_1 ∧ type_of% @setsO.eq_2 ∧ type_of% @St.put.eq_1 ∧ type_of% @leL.eq_1 ∧ type_of% @leL.eq_2 ∧ type_of% @leL.eq_3 ∧ type_of% @leT.eq_1 ∧ type_of% @leM.eq_1 ∧ type_of% @leM.eq_2 ∧ type_of% @leM.eq_3 ∧ type_of% @leG.eq_1 ∧ type_of% @leA.eq_1 ∧ type_of% @leC.eq_1 ∧ type_of% @leC.eq_2 ∧ type_of% @leC.eq_3 ∧ type_of% @leR.eq_1 ∧ type_of% @leR.eq_2 ∧ type_of% @leR.eq_3 ∧ type_of% @leS.eq_1 ∧ type_of% @leS.eq_2 ∧ type_of% @leS.eq_3 ∧ type_of% @leS.eq_4 ∧ type_of% @leS.eq_5 ∧ type_of% @leO.eq_1 ∧ type_of% @leO.eq_2 ∧ type_of% @leO.eq_3 ∧ type_of% @leO.eq_4 ∧ type_of% @leO.eq_5 ∧ type_of% @tokLt.eq_1 ∧ type_of% @tokLt.eq_2 ∧ type_of% @tokLt.eq_3 ∧ type_of% @tokLt.eq_4 ∧ type_of% @tokLt.eq_5 ∧ type_of% @tokLt.eq_6 ∧ type_of% @tokLt.eq_7 ∧ type_of% @tokLt.eq_8 ∧ type_of% @tokLt.eq_9 ∧ type_of% @tokLt.eq_10 ∧ type_of% @tokLtL.eq_1 ∧ type_of% @tokLtL.eq_2 ∧ type_of% @intV.eq_1 ∧ type_of% @boolV.eq_1 ∧ type_of% @leaf.eq_1 ∧ type_of% @leaf.eq_2 ∧ type_of% @leaf.eq_3 ∧ type_of% @leaf.eq_4 ∧ type_of% @leaf.eq_5 ∧ type_of% @leaf.eq_6 ∧ type_of% @leaf.eq_7 ∧ type_of% @leaf.eq_8 ∧ type_of% @nilA.eq_1 ∧ type_of% @nilSl.eq_1 := ⟨@WeakE.eq_1, @Weak.eq_1, @setsF.eq_1, @setsF.eq_2, @setsO.eq_1, @setsO.eq_2, @St.put.eq_1, @leL.eq_1, @leL.eq_2, @leL.eq_3, @leT.eq_1, @leM.eq_1, @leM.eq_2, @leM.eq_3, @leG.eq_1, @leA.eq_1, @leC.eq_1, @leC.eq_2, @leC.eq_3, @leR.eq_1, @leR.eq_2, @leR.eq_3, @leS.eq_1, @leS.eq_2, @leS.eq_3, @leS.eq_4, @leS.eq_5, @leO.eq_1, @leO.eq_2, @leO.eq_3, @leO.eq_4, @leO.eq_5, @tokLt.eq_1, @tokLt.eq_2, @tokLt.eq_3, @tokLt.eq_4, @tokLt.eq_5, @tokLt.eq_6, @tokLt.eq_7, @tokLt.eq_8, @tokLt.eq_9, @tokLt.eq_10, @tokLtL.eq_1, @tokLtL.eq_2, @intV.eq_1, @boolV.eq_1, @leaf.eq_1, @leaf.eq_2, @leaf.eq_3, @leaf.eq_4, @leaf.eq_5, @leaf.eq_6, @leaf.eq_7, @leaf.eq_8, @nilA.eq_1, @nilSl.eq_1⟩
theorem wS : type_of% @resA.eq_1 ∧ type_of% @resL.eq_1 ∧ type_of% @resL.eq_2 ∧ type_of% @resV.eq_1 ∧ type_of% @resV.eq_2 ∧ type_of% @leT.eq_1 ∧ type_of% @leG.eq_1 ∧ type_of% @leA.eq_1 ∧ type_of% @leC.eq_1 ∧ type_of% @leC.eq_2 ∧ type_of% @leC.eq_3 ∧ type_of% @leM.eq_1 ∧ type_of% @leM.eq_2 ∧ type_of% @leM.eq_3 ∧ type_of% @leaf.eq_1 ∧ type_of% @leaf.eq_2 ∧ type_of% @leaf.eq_3 ∧ type_of% @leaf.eq_4 ∧ type_of% @leaf.eq_5 ∧ type_of% @leaf.eq_6 ∧ type_of% @leaf.eq_7 ∧ type_of% @leaf.eq_8 ∧ type_of% @tokLt.eq_1 ∧ type_of% @tokLt.eq_2 ∧ type_of% @tokLt.eq_3 ∧ type_of% @tokLt.eq_4 ∧ type_of% @tokLt.eq_5 ∧ type_of% @tokLt.eq_6 ∧ type_of% @tokLt.eq_7 ∧ type_of% @tokLt.eq_8 ∧ type_of% @tokLt.eq_9 ∧ type_of% @tokLt.eq_10 ∧ type_of% @tokLtL.eq_1 ∧ type_of% @tokLtL.eq_2 ∧ type_of% @intV.eq_1 ∧ type_of% @boolV.eq_1 ∧ type_of% @nilA.eq_1 ∧ type_of% @nilSl.eq_1 := ⟨@resA.eq_1, @resL.eq_1, @resL.eq_2, @resV.eq_1, @resV.eq_2, @leT.eq_1, @leG.eq_1, @leA.eq_1, @leC.eq_1, @leC.eq_2, @leC.eq_3, @leM.eq_1, @leM.eq_2, @leM.eq_3, @leaf.eq_1, @leaf.eq_2, @leaf.eq_3, @leaf.eq_4, @leaf.eq_5, @leaf.eq_6, @leaf.eq_7, @leaf.eq_8, @tokLt.eq_1, @tokLt.eq_2, @tokLt.eq_3, @tokLt.eq_4, @tokLt.eq_5, @tokLt.eq_6, @tokLt.eq_7, @tokLt.eq_8, @tokLt.eq_9, @tokLt.eq_10, @tokLtL.eq_1, @tokLtL.eq_2, @intV.eq_1, @boolV.eq_1, @nilA.eq_1, @nilSl.eq_1⟩
theorem wR : type_of% @setsF_cons ∧ type_of% @setsF_nil ∧ type_of% @setsO_cons ∧ type_of% @setsO_nil ∧ type_of% @List.set_cons_zero.{0} ∧ type_of% @List.set_cons_succ.{0} ∧ type_of% @List.length_cons.{0} ∧ type_of% @List.length_nil.{0} ∧ type_of% @St.put.eq_1 ∧ type_of% @Nat.zero_add ∧ type_of% @Nat.lt_irrefl ∧ type_of% @List.cons_append.{0} ∧ type_of% @List.nil_append.{0} := ⟨@setsF_cons, @setsF_nil, @setsO_cons, @setsO_nil, @List.set_cons_zero.{0}, @List.set_cons_succ.{0}, @List.length_cons.{0}, @List.length_nil.{0}, @St.put.eq_1, @Nat.zero_add, @Nat.lt_irrefl, @List.cons_append.{0}, @List.nil_append.{0}⟩
theorem cs : type_of% @cond_split := @cond_split
theorem ws : type_of% @want_split := @want_split
theorem wd : type_of% @wantD_split := @wantD_split
theorem wu : type_of% @wantU_split := @wantU_split
theorem dP {P : Program} {C : Ctx} {ops : Array Oper} {fr : List AV} {σ : St} {K : List AV → St → Prop} (pl : Plan) (n : Nat) (t : Option Tmp) (h0 : ops.size = n ∧ (ops[0]?.bind fun o => o.dst) = t) (h1 : (decide (planLen pl ≤ ops.size) && Region.noSelect ops && planOk C ops pl (Array.replicate ops.size false)) = true) (h4 : aPl P C ops pl [] fr σ K) : aDraw P C ops fr σ K := by
 simp only [Bool.and_eq_true, decide_eq_true_eq] at h1
 exact ⟨pl, h1.1.1, h1.1.2, h1.2, h4⟩
end Go.Proofs.YtpcblbbddccgpaaDoor
namespace Go.Proofs.YtpcblbbddccgpaaDoor
open Go.RowKit
def tVo := aa wX <| aa wbu <| aa T2 <| aa T3 <| aa T9 T24
theorem sh1 : (2 : Int) ^ (min 1 IntKind.i64.bits) = 2 := nr (by decide)
theorem aokV (v : Va) (σ : St) : ACalls Tryd.prog 31 [vaA v] σ fun r s => s = σ ∧ r = boolV (okV v) := by
 refine ACalls.pureF (R := fun r => r = boolV (okV v)) ?_ rfl σ
 obtain ⟨k, n, t⟩ := v
 refine acalls_of cx_ok dr_ok Tryd.func31 (by kernel_rfl) rfl (nt := 44) (rs := [.tmp 2]) rfl rfl ?_
 simp only [vaA, vaC, List.map_cons, List.map_nil]
 repeat' first | ((with_reducible first | refine cs ?_ ?_ | refine ws ?_ ?_) <;> intro h <;> try simp only [h]) | simp only [↓wBA, tVo, convA, seval, binStr, sh1]
 all_goals refine ret_is (a := _) ?_ rfl rfl
 all_goals simp only [↓wBA, tVo, convA, seval]
 all_goals simp_all [wS, okV, emp]
theorem akidsV (k : Int) (σ : St) : ACalls Tryd.prog 41 [intV .i64 k] σ fun r s => s = σ ∧ r = intV .i64 (kidsV k) := by
 refine ACalls.pureF (R := fun r => r = intV .i64 (kidsV k)) ?_ rfl σ
 refine acalls_of cx_ok dr_ok Tryd.func41 (by kernel_rfl) rfl (nt := 25) (rs := [.tmp 2]) rfl rfl ?_
 repeat' first | ((with_reducible first | refine cs ?_ ?_ | refine ws ?_ ?_) <;> intro h <;> try simp only [h]) | simp only [↓wBA, tVo, convA, seval]
 all_goals refine ret_is (a := _) ?_ rfl rfl
 all_goals simp only [↓wBA, tVo, convA, seval]
 all_goals simp_all [wS, kidsV]
 all_goals grind
theorem atruth (b : Bool) (σ : St) : ACalls Tryd.prog 55 [boolV b] σ fun r s => s = σ ∧ r = vaA (trV b) := by
 refine ACalls.pureF (R := fun r => r = vaA (trV b)) ?_ rfl σ
 refine acalls_of cx_ok dr_ok Tryd.func55 (by kernel_rfl) rfl (nt := 5) (rs := [.cell 2 24]) rfl rfl ?_
 repeat' first | ((with_reducible first | refine cs ?_ ?_ | refine ws ?_ ?_) <;> intro h <;> try simp only [h]) | simp only [↓wBA, tVo, convA, seval]
 all_goals refine ret_is (a := _) ?_ rfl rfl
 all_goals simp only [↓wBA, tVo, convA, seval]
 all_goals simp_all [wS, vaA, vaC, trV, emp]
end Go.Proofs.YtpcblbbddccgpaaDoor
namespace Go.Proofs.YtpcblbbddccgpaaDoor
open Go.RowKit
def pl58_1Cm : Plan := (.det 0 (.det 1 (.det 2 (.det 3 (.det 5 (.det 6 (.det 7 (.det 8 (.det 10 (.det 11 (.det 12 (.det 13 (.act 4 (.act 9 (.fin 14 (.fin 15 (.fin 16 (.det 17 .done))))))))))))))))))
def tCm := aa wX <| aa wbu <| aa T2 <| aa T3 <| aa T9 <| aa T24 T131
theorem aNaN (k : IntKind) (n : Int) (f : FuncId) (hf : f = 90 ∨ f = 91) (σ : St) : ACalls Tryd.prog f [intV k n] σ fun r s => s = σ ∧ r = boolV false := by
 refine ACalls.pureF (R := fun r => r = boolV false) ?_ rfl σ
 rcases hf with rfl | rfl
 ·skip
  refine acalls_of cx_ok dr_ok Tryd.func90 (by kernel_rfl) rfl (nt := 5) (rs := [.tmp 2]) rfl rfl ?_
  repeat' first | ((with_reducible first | refine cs ?_ ?_ | refine ws ?_ ?_) <;> intro h <;> try simp only [h]) | simp only [↓wBA, tCm, convA, seval]
  all_goals refine ret_is (a := _) ?_ rfl rfl
  all_goals simp only [↓wBA, tCm, convA, seval]
  all_goals simp_all [wS]
 ·skip
  refine acalls_of cx_ok dr_ok Tryd.func91 (by kernel_rfl) rfl (nt := 5) (rs := [.tmp 2]) rfl rfl ?_
  repeat' first | ((with_reducible first | refine cs ?_ ?_ | refine ws ?_ ?_) <;> intro h <;> try simp only [h]) | simp only [↓wBA, tCm, convA, seval]
  all_goals refine ret_is (a := _) ?_ rfl rfl
  all_goals simp only [↓wBA, tCm, convA, seval]
  all_goals simp_all [wS]
theorem aNaNs (s : ByteArray) (σ : St) : ACalls Tryd.prog 92 [.p (.v (.string s))] σ fun r s => s = σ ∧ r = boolV false := by
 refine ACalls.pureF (R := fun r => r = boolV false) ?_ rfl σ
 refine acalls_of cx_ok dr_ok Tryd.func92 (by kernel_rfl) rfl (nt := 5) (rs := [.tmp 2]) rfl rfl ?_
 repeat' first | ((with_reducible first | refine cs ?_ ?_ | refine ws ?_ ?_) <;> intro h <;> try simp only [h]) | simp only [↓wBA, tCm, convA, seval, binStr]
 all_goals refine ret_is (a := _) ?_ rfl rfl
 all_goals simp only [↓wBA, tCm, convA, seval]
 all_goals simp_all [wS]
theorem acmpI (a b : Int) (f : FuncId) (hf : f = 74 ∨ f = 75) (σ : St) : ACalls Tryd.prog f [intV .i64 a, intV .i64 b] σ fun r s => s = σ ∧ r = intV .i64 (cmpI a b) := by
 refine ACalls.pureF (R := fun r => r = intV .i64 (cmpI a b)) ?_ rfl σ
 rcases hf with rfl | rfl
 ·skip
  refine acalls_of cx_ok dr_ok Tryd.func74 (by kernel_rfl) rfl (nt := 18) (rs := [.tmp 4]) rfl rfl ?_
  repeat' first | ((with_reducible first | refine cs ?_ ?_ | refine ws ?_ ?_) <;> intro h <;> try simp only [h]) | simp only [↓wBA, tCm, convA, seval] | ((with_reducible show ACalls _ _ _ _ _); refine (aNaN _ _ _ (.inl rfl) _).eq ?_)
  all_goals refine ret_is (a := _) ?_ rfl rfl
  all_goals simp only [↓wBA, tCm, convA, seval]
  all_goals simp_all [wS, cmpI]
  all_goals grind
 ·skip
  refine acalls_of cx_ok dr_ok Tryd.func75 (by kernel_rfl) rfl (nt := 18) (rs := [.tmp 4]) rfl rfl ?_
  repeat' first | ((with_reducible first | refine cs ?_ ?_ | refine ws ?_ ?_) <;> intro h <;> try simp only [h]) | simp only [↓wBA, tCm, convA, seval] | ((with_reducible show ACalls _ _ _ _ _); refine (aNaN _ _ _ (.inr rfl) _).eq ?_)
  all_goals refine ret_is (a := _) ?_ rfl rfl
  all_goals simp only [↓wBA, tCm, convA, seval]
  all_goals simp_all [wS, cmpI]
  all_goals grind
theorem acmpS (a b : ByteArray) (σ : St) : ACalls Tryd.prog 76 [.p (.v (.string a)), .p (.v (.string b))] σ fun r s => s = σ ∧ r = intV .i64 (cmpS a b) := by
 refine ACalls.pureF (R := fun r => r = intV .i64 (cmpS a b)) ?_ rfl σ
 refine acalls_of cx_ok dr_ok Tryd.func76 (by kernel_rfl) rfl (nt := 18) (rs := [.tmp 4]) rfl rfl ?_
 repeat' first | ((with_reducible first | refine cs ?_ ?_ | refine ws ?_ ?_) <;> intro h <;> try simp only [h]) | simp only [↓wBA, tCm, convA, seval, binStr] | ((with_reducible show ACalls _ _ _ _ _); refine (aNaNs _ _).eq ?_)
 all_goals refine ret_is (a := _) ?_ rfl rfl
 all_goals simp only [↓wBA, tCm, convA, seval]
 all_goals simp_all [wS, cmpS]
 all_goals grind
def orI : List Int → Int
 | [] => 0
 | a :: l => if a ≠ 0 then a else orI l
theorem orI_drop (l : List Int) (i : Nat) (h : i < l.length) : orI (l.drop i) = if l[i] ≠ 0 then l[i] else orI (l.drop (i + 1)) := by
 rw [List.drop_eq_getElem_cons h]; rfl
theorem aor (l : List Int) (hl : l.length ≤ 1000) (σ : St) : ACalls Tryd.prog 73 [.p (.sl 1 (l.map fun n => [.v (.int .i64 n)]))] σ fun r s => s = σ ∧ r = intV .i64 (orI l) := by
 refine ACalls.pureF (R := fun r => r = intV .i64 (orI l)) ?_ rfl σ
 refine acalls_of cx_ok dr_ok Tryd.func73 (by kernel_rfl) rfl (nt := 17) (rs := [.tmp 2]) rfl rfl ?_
 simp only [↓wBA, tCm, convA, seval]
 refine awp_loopN (l.length) (fun i => [(8, intV .i64 (i : Nat)), (2, .any), (5, .any), (9, .any), (10, .any), (11, .any), (12, .any), (13, .any), (14, .any), (15, .any), (16, .any)]) (fun i => []) (fun i => orI (l.drop i) = orI l) ?_ ?_ ?_
 ·rfl
 ·skip
  simp only [wR, Nat.reduceAdd, Nat.reduceLT, reduceIte]
  simp [wW]
 ·intro i hi hI
  simp only [wR, Nat.reduceAdd, Nat.reduceLT, reduceIte]
  by_cases hlt : i < l.length
  ·have hdec := dT (i := i) (n := l.length) (by omega)
   have hi0 := nnI i
   have hw := wI i (by omega)
   have hg : (l.map fun n => [PV.v (.int .i64 n)])[i]? = some [.v (.int .i64 l[i])] := by simp [hlt]
   have hI' := orI_drop l i hlt
   rw [hI] at hI'
   repeat' first | ((with_reducible first | refine cs ?_ ?_ | refine ws ?_ ?_) <;> intro h <;> try simp only [h]) | simp only [↓wBA, tCm, convA, seval, List.length_map, hdec, hi0, hg, hw]
   ·skip
    all_goals refine ret_is (a := _) ?_ rfl rfl
    all_goals simp only [↓wBA, tCm, convA, seval]
    all_goals simp_all [wS]
   ·skip
    refine ⟨⟨i + 1, by omega, ?_⟩, by show l.length - (i + 1) < l.length - i; omega, ?_⟩
    ·simp_all
    ·skip
     simp only [wR, Nat.reduceAdd, Nat.reduceLT, reduceIte]
     simp [wW]
  ·have hdec := dF (i := i) (n := l.length) (by omega)
   have hI' : orI l = 0 := by rw [← hI, List.drop_of_length_le (by omega)]; rfl
   repeat' first | ((with_reducible first | refine cs ?_ ?_ | refine ws ?_ ?_) <;> intro h <;> try simp only [h]) | simp only [↓wBA, tCm, convA, seval, List.length_map, hdec]
   all_goals refine ret_is (a := _) ?_ rfl rfl
   all_goals simp only [↓wBA, tCm, convA, seval]
   all_goals simp_all [wS, hI']
theorem acmpV (a b : Va) (σ : St) : ACalls Tryd.prog 58 [vaA a, vaA b] σ fun r s => s = σ ∧ r = intV .i64 (cmpV a b) := by
 refine ACalls.pureF (R := fun r => r = intV .i64 (cmpV a b)) ?_ rfl σ
 obtain ⟨a1, a2, a3⟩ := a
 obtain ⟨b1, b2, b3⟩ := b
 refine acalls_of cx_ok dr_ok Tryd.func58 (by kernel_rfl) rfl (nt := 20) (rs := [.tmp 4]) rfl rfl ?_
 simp only [vaA, vaC, List.map_cons, List.map_nil]
 repeat' first | ((with_reducible first | refine cs ?_ ?_ | refine ws ?_ ?_ | refine wd ?_ ?_ | refine wu ?_ ?_) <;> intro h <;> try simp only [h]) | simp only [↓wBA, tCm, convA, seval, pl58_1Cm] | ((with_reducible show ACalls _ _ _ _ _); first | refine (acmpI _ _ _ (.inl rfl) _).eq ?_ | refine (acmpI _ _ _ (.inr rfl) _).eq ?_ | refine (acmpS _ _ _).eq ?_ | (refine ACalls.frzArgs ((aor [_, _, _] (by simp) _).mono ?_); rintro _ _ ⟨rfl, rfl⟩)) | (with_reducible refine dP pl58_1Cm 18 (some 5) (by decide) (by kernel_rfl) ?_)
 all_goals refine ret_is (a := _) ?_ rfl rfl
 all_goals simp only [↓wBA, tCm, convA, seval]
 all_goals simp_all [wS, cmpV, orI]
 all_goals grind
end Go.Proofs.YtpcblbbddccgpaaDoor
namespace Go.Proofs.YtpcblbbddccgpaaDoor
open Go.RowKit
def pl43_5Fd : Plan := (.det 0 (.det 1 (.det 2 (.det 3 (.det 4 (.det 5 (.det 6 (.det 7 (.det 8 (.det 9 (.det 10 (.det 11 (.det 12 (.det 13 (.det 14 (.det 15 (.det 16 (.det 17 (.det 18 (.det 19 (.det 20 (.det 21 (.det 22 (.det 23 (.det 24 (.det 25 (.det 26 (.fin 27 (.det 28 (.det 29 .done))))))))))))))))))))))))))))))
def pl43_6Fd : Plan := (.det 0 (.det 1 (.det 2 (.det 3 (.det 4 (.det 5 (.det 6 (.det 7 (.fin 8 .done)))))))))
def tFd := aa wX <| aa wbu <| aa T2 <| aa T3 <| aa T4 <| aa T24 <| aa T27 <| aa T31 <| aa T36 <| aa T69 T71
def fdO (row : List Va) (e : Int) : Ob := .row 2 [[.p (.sl 3 (enV row)), intV .i64 e]]
theorem fdP (row : List Va) (e : Int) : PlainOb (fdO row e) := ⟨fun g => by simp [renOb, fdO, renL, renA, intV], fun n => by simp [tokOb, fdO, tokLtL, tokLt, intV], 2, _, rfl⟩
theorem afail (row : List Va) (c e : Int) : OCalls (fdO row) 42 (fun t => [.mp t 2 0 0, intV .i64 c]) e fun r e' => r = vaA (failV c e).1 ∧ e' = (failV c e).2 := by
 refine OCalls.of (fdP row) (fun t => rfl) rfl ?_
 refine acalls_of cx_ok dr_ok Tryd.func42 (by kernel_rfl) rfl (nt := 13) (rs := [.cell 4 24]) rfl rfl ?_
 simp only [fdO]
 repeat' first | ((with_reducible first | refine cs ?_ ?_ | refine ws ?_ ?_) <;> intro h <;> try simp only [h]) | simp only [↓wBA, tFd, convA, seval]
 all_goals refine ret_obI (a := _) (b := _) (fdP _ _) ?_ rfl rfl
 all_goals simp only [↓wBA, tFd, convA, seval]
 all_goals simp_all [wS, fdO, vaA, vaC, failV, va0, emp]
theorem anumV (row : List Va) (k a b e : Int) : OCalls (fdO row) 57 (fun t => [.mp t 2 0 0, intV .i64 k, intV .i64 a, intV .i64 b]) e fun r e' => r = vaA (numV k a b e).1 ∧ e' = (numV k a b e).2 := by
 refine OCalls.of (fdP row) (fun t => rfl) rfl ?_
 refine acalls_of cx_ok dr_ok Tryd.func57 (by kernel_rfl) rfl (nt := 79) (rs := [.cell 8 24]) rfl rfl ?_
 simp only [fdO]
 have ha : (a == 0) = true ∨ ((a == 0) = false ∧ (a = 0) = False) := by by_cases h : a = 0 <;> simp [h]
 have hb : (b == 0) = true ∨ ((b == 0) = false ∧ (b = 0) = False) := by by_cases h : b = 0 <;> simp [h]
 rcases ha with ha | ⟨ha, ha2⟩ <;> rcases hb with hb | ⟨hb, hb2⟩
 ·skip
  repeat' first | ((with_reducible first | refine cs ?_ ?_ | refine ws ?_ ?_) <;> intro h <;> try simp only [h]) | simp only [↓wBA, tFd, convA, seval, ha, hb] | ((with_reducible show ACalls _ _ _ _ _); refine (afail row _ _ _ 0 rfl).mono ?_; rintro _ _ ⟨_, ⟨rfl, rfl⟩, rfl⟩; simp only [fdO, vaA, vaC, List.map_cons, List.map_nil])
  all_goals refine ret_obI (a := _) (b := _) (fdP _ _) ?_ rfl rfl
  all_goals simp only [↓wBA, tFd, convA, seval]
  all_goals simp_all [wS, fdO, vaA, vaC, numV, failV, va0, emp]
 ·skip
  repeat' first | ((with_reducible first | refine cs ?_ ?_ | refine ws ?_ ?_) <;> intro h <;> try simp only [h]) | simp only [↓wBA, tFd, convA, seval, ha, hb, hb2] | ((with_reducible show ACalls _ _ _ _ _); refine (afail row _ _ _ 0 rfl).mono ?_; rintro _ _ ⟨_, ⟨rfl, rfl⟩, rfl⟩; simp only [fdO, vaA, vaC, List.map_cons, List.map_nil])
  all_goals refine ret_obI (a := _) (b := _) (fdP _ _) ?_ rfl rfl
  all_goals simp only [↓wBA, tFd, convA, seval]
  all_goals simp_all [wS, fdO, vaA, vaC, numV, failV, va0, emp]
 ·skip
  repeat' first | ((with_reducible first | refine cs ?_ ?_ | refine ws ?_ ?_) <;> intro h <;> try simp only [h]) | simp only [↓wBA, tFd, convA, seval, ha, ha2, hb] | ((with_reducible show ACalls _ _ _ _ _); refine (afail row _ _ _ 0 rfl).mono ?_; rintro _ _ ⟨_, ⟨rfl, rfl⟩, rfl⟩; simp only [fdO, vaA, vaC, List.map_cons, List.map_nil])
  all_goals refine ret_obI (a := _) (b := _) (fdP _ _) ?_ rfl rfl
  all_goals simp only [↓wBA, tFd, convA, seval]
  all_goals simp_all [wS, fdO, vaA, vaC, numV, failV, va0, emp]
 ·skip
  repeat' first | ((with_reducible first | refine cs ?_ ?_ | refine ws ?_ ?_) <;> intro h <;> try simp only [h]) | simp only [↓wBA, tFd, convA, seval, ha, ha2, hb, hb2] | ((with_reducible show ACalls _ _ _ _ _); refine (afail row _ _ _ 0 rfl).mono ?_; rintro _ _ ⟨_, ⟨rfl, rfl⟩, rfl⟩; simp only [fdO, vaA, vaC, List.map_cons, List.map_nil])
  all_goals refine ret_obI (a := _) (b := _) (fdP _ _) ?_ rfl rfl
  all_goals simp only [↓wBA, tFd, convA, seval]
  all_goals simp_all [wS, fdO, vaA, vaC, numV, failV, va0, emp]
theorem aleafV (row : List Va) (k vk vn : Int) (vs tb nm : ByteArray) (s : Int) (kids : List Ex) (e : Int) : OCalls (fdO row) 43 (fun t => [.mp t 2 0 0, exA (.mk k vk vn vs tb nm s kids)]) e fun r e' => r = vaA (leafV row k (vk, vn, vs) s e).1 ∧ e' = (leafV row k (vk, vn, vs) s e).2 := by
 refine OCalls.of (fdP row) (fun t => rfl) rfl ?_
 refine acalls_of cx_ok dr_ok Tryd.func43 (by kernel_rfl) rfl (nt := 60) (rs := [.cell 4 24]) rfl rfl ?_
 simp only [fdO, exA, exC, List.map_cons, List.map_nil]
 have hs : (0 ≤ s ∧ s < (row.length : Int)) ∨ ¬ (0 ≤ s) ∨ (0 ≤ s ∧ ¬ s < (row.length : Int)) := by omega
 rcases hs with ⟨hs, hs2⟩ | hs | ⟨hs, hs2⟩
 ·have hg : (enV row)[s.toNat]? = some (vaC (row.getD s.toNat va0)) := by rw [enV_get row s.toNat (by omega)]; simp [List.getD, show s.toNat < row.length by omega]
  have h1 : decide (s ≥ 0) = true := by simp; omega
  have h2 : decide (s < (row.length : Int)) = true := by simp; omega
  have h0 : ((0 : Int) ≤ s) = True := eq_true hs
  repeat' first | ((with_reducible first | refine cs ?_ ?_ | refine ws ?_ ?_ | refine wd ?_ ?_ | refine wu ?_ ?_) <;> intro h <;> try simp only [h]) | simp only [↓wBA, tFd, convA, seval, pl43_5Fd, pl43_6Fd, enV_len, hg, h1, h2, h0, vaC_len, List.length_map] | ((with_reducible show ACalls _ _ _ _ _); first | (refine (afail row _ _ _ 0 rfl).mono ?_; rintro _ _ ⟨_, ⟨rfl, rfl⟩, rfl⟩; simp only [fdO, vaA, vaC, List.map_cons, List.map_nil]) | refine (aokV (_, _, _) _).eq ?_ | refine (aokV _ _).eq ?_) | (with_reducible refine dP pl43_5Fd 30 (some 23) (by decide) (by kernel_rfl) ?_) | (with_reducible refine dP pl43_6Fd 9 (some 52) (by decide) (by kernel_rfl) ?_)
  all_goals refine ret_obI (a := _) (b := _) (fdP _ _) ?_ rfl rfl
  all_goals simp only [↓wBA, tFd, convA, seval]
  all_goals simp_all [wS, fdO, vaA, vaC, leafV, failV, va0, emp]
  all_goals grind
 ·have h1 : decide (s ≥ 0) = false := by simp; omega
  repeat' first | ((with_reducible first | refine cs ?_ ?_ | refine ws ?_ ?_ | refine wd ?_ ?_ | refine wu ?_ ?_) <;> intro h <;> try simp only [h]) | simp only [↓wBA, tFd, convA, seval, pl43_5Fd, pl43_6Fd, enV_len, h1, vaC_len, List.length_map] | ((with_reducible show ACalls _ _ _ _ _); first | (refine (afail row _ _ _ 0 rfl).mono ?_; rintro _ _ ⟨_, ⟨rfl, rfl⟩, rfl⟩; simp only [fdO, vaA, vaC, List.map_cons, List.map_nil]) | refine (aokV (_, _, _) _).eq ?_) | (with_reducible refine dP pl43_5Fd 30 (some 23) (by decide) (by kernel_rfl) ?_) | (with_reducible refine dP pl43_6Fd 9 (some 52) (by decide) (by kernel_rfl) ?_)
  all_goals refine ret_obI (a := _) (b := _) (fdP _ _) ?_ rfl rfl
  all_goals simp only [↓wBA, tFd, convA, seval]
  all_goals simp_all [wS, fdO, vaA, vaC, leafV, failV, va0, emp]
  all_goals grind
 ·have h1 : decide (s ≥ 0) = true := by simp; omega
  have h2 : decide (s < (row.length : Int)) = false := by simp; omega
  repeat' first | ((with_reducible first | refine cs ?_ ?_ | refine ws ?_ ?_ | refine wd ?_ ?_ | refine wu ?_ ?_) <;> intro h <;> try simp only [h]) | simp only [↓wBA, tFd, convA, seval, pl43_5Fd, pl43_6Fd, enV_len, h1, h2, vaC_len, List.length_map] | ((with_reducible show ACalls _ _ _ _ _); first | (refine (afail row _ _ _ 0 rfl).mono ?_; rintro _ _ ⟨_, ⟨rfl, rfl⟩, rfl⟩; simp only [fdO, vaA, vaC, List.map_cons, List.map_nil]) | refine (aokV (_, _, _) _).eq ?_) | (with_reducible refine dP pl43_5Fd 30 (some 23) (by decide) (by kernel_rfl) ?_) | (with_reducible refine dP pl43_6Fd 9 (some 52) (by decide) (by kernel_rfl) ?_)
  all_goals refine ret_obI (a := _) (b := _) (fdP _ _) ?_ rfl rfl
  all_goals simp only [↓wBA, tFd, convA, seval]
  all_goals simp_all [wS, fdO, vaA, vaC, leafV, failV, va0, emp]
  all_goals grind
end Go.Proofs.YtpcblbbddccgpaaDoor
