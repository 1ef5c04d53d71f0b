/- The table of types of this program, for the abstract machine. -/
import Derived.Test.YtlddiphjpmlhbaaM14
import Derived.Test.YtlddiphjpmlhbaaRows
set_option linter.unusedSimpArgs false
set_option linter.unusedVariables false
set_option linter.defProp false
set_option maxRecDepth 100000
set_option maxHeartbeats 32000000
namespace Go.Proofs.Ytlddiphjpmlhbaa
def zT513 : List Value := [.int .i64 0] ++ zB 512
theorem zT513_len : (zeroA zT513).length = 513 := by simp only [zT513, zeroA, zB, List.length_map, List.length_append, List.length_replicate, List.length_cons, List.length_nil]
def zT65 : List Value := [.int .i64 0] ++ zB 64
theorem zT65_len : (zeroA zT65).length = 65 := by simp only [zT65, zeroA, zB, List.length_map, List.length_append, List.length_replicate, List.length_cons, List.length_nil]
def zT516 : List Value := [.int .i64 0] ++ zB 512 ++ [.bool false] ++ [.int .i64 0, .int .i64 0]
theorem zT516_len : (zeroA zT516).length = 516 := by simp only [zT516, zeroA, zB, List.length_map, List.length_append, List.length_replicate, List.length_cons, List.length_nil]
def cxL : List (TypeId × TI) := [
 (1, ⟨1, false, [.nilFunc], .other⟩),
 (2, ⟨1, false, [.int .i64 0], .int .i64⟩),
 (3, ⟨1, false, [.int .i64 0], .int .i64⟩),
 (4, ⟨1, false, [.bool false], .bool⟩),
 (5, ⟨1, false, [.int .u8 0], .int .u8⟩),
 (9, ⟨1, false, [.string ⟨#[]⟩], .str⟩),
 (12, ⟨1, false, [.int .u64 0], .int .u64⟩),
 (13, ⟨2, true, [.string ⟨#[]⟩, .int .u64 0], .struct [(0, 1, false), (1, 1, false)]⟩),
 (19, ⟨1, true, [.pointer none], .struct [(0, 1, false)]⟩),
 (21, ⟨1, false, [.int .i32 0], .int .i32⟩),
 (22, ⟨1, false, [.slice none 0 0], .slice 23 1 24 [.slice none 0 0]⟩),
 (23, ⟨1, false, [.slice none 0 0], .slice 5 1 1 [.int .u8 0]⟩),
 (24, ⟨1, false, [.nilFunc], .other⟩),
 (25, ⟨1, false, [.pointer none], .ptr⟩),
 (26, ⟨1, false, [.int .i64 0], .int .i64⟩),
 (28, ⟨1, false, [.nilFunc], .other⟩),
 (29, ⟨1, false, [.pointer none], .ptr⟩),
 (30, ⟨1, false, [.nilFunc], .other⟩),
 (31, ⟨1, false, [.pointer none], .ptr⟩),
 (32, ⟨1, false, [.nilFunc], .other⟩),
 (34, ⟨1, false, [.nilFunc], .other⟩),
 (35, ⟨1, false, [.slice none 0 0], .slice 37 2 16 [.int .i64 0, .int .i64 0]⟩),
 (36, ⟨2, true, [.int .i64 0, .int .i64 0], .struct [(0, 1, false), (1, 1, false)]⟩),
 (37, ⟨2, true, [.int .i64 0, .int .i64 0], .struct [(0, 1, false), (1, 1, false)]⟩),
 (39, ⟨1, false, [.nilFunc], .other⟩),
 (40, ⟨1, false, [.int .u64 0], .int .u64⟩),
 (41, ⟨1, false, [.nilFunc], .other⟩),
 (43, ⟨1, false, [.nilFunc], .other⟩),
 (44, ⟨1, false, [.nilFunc], .other⟩),
 (45, ⟨1, false, [.nilFunc], .other⟩),
 (46, ⟨1, false, [.slice none 0 0], .slice 52 3 40 [.int .i64 0, .int .i64 0, .slice none 0 0]⟩),
 (48, ⟨1, false, [.nilFunc], .other⟩),
 (49, ⟨1, false, [.nilFunc], .other⟩),
 (50, ⟨1, false, [.nilFunc], .other⟩),
 (51, ⟨3, true, [.int .i64 0, .int .i64 0, .slice none 0 0], .struct [(0, 2, true), (2, 1, false)]⟩),
 (52, ⟨3, true, [.int .i64 0, .int .i64 0, .slice none 0 0], .struct [(0, 2, true), (2, 1, false)]⟩),
 (53, ⟨1, false, [.nilFunc], .other⟩),
 (54, ⟨1, false, [.slice none 0 0], .slice 61 4 48 [.int .i64 0, .int .i64 0, .int .i64 0, .slice none 0 0]⟩),
 (55, ⟨2, true, [.int .i64 0, .int .i64 0], .arr 2 1 false⟩),
 (56, ⟨1, false, [.pointer none], .ptr⟩),
 (57, ⟨2, true, [.slice none 0 0, .slice none 0 0], .struct [(0, 1, false), (1, 1, false)]⟩),
 (58, ⟨2, true, [.slice none 0 0, .slice none 0 0], .struct [(0, 1, false), (1, 1, false)]⟩),
 (59, ⟨2, true, [.pointer none, .pointer none], .arr 2 1 false⟩),
 (60, ⟨4, true, [.int .i64 0, .int .i64 0, .int .i64 0, .slice none 0 0], .struct [(0, 1, false), (1, 1, false), (2, 1, false), (3, 1, false)]⟩),
 (61, ⟨4, true, [.int .i64 0, .int .i64 0, .int .i64 0, .slice none 0 0], .struct [(0, 1, false), (1, 1, false), (2, 1, false), (3, 1, false)]⟩),
 (62, ⟨1, false, [.nilFunc], .other⟩),
 (63, ⟨1, false, [.nilFunc], .other⟩),
 (64, ⟨1, false, [.nilFunc], .other⟩),
 (65, ⟨1, false, [.nilFunc], .other⟩),
 (66, ⟨1, false, [.pointer none], .ptr⟩),
 (68, ⟨1, false, [.nilFunc], .other⟩),
 (69, ⟨1, false, [.map none], .map (.int .i64) (.pointer none)⟩),
 (70, ⟨1, false, [.slice none 0 0], .slice 124 1 8 [.pointer none]⟩),
 (71, ⟨1, false, [.slice none 0 0], .slice 124 1 8 [.pointer none]⟩),
 (72, ⟨6, true, [.pointer none, .pointer none, .int .i64 0, .slice none 0 0, .map none, .int .i64 0], .struct [(0, 1, false), (1, 1, false), (2, 1, false), (3, 1, false), (4, 1, false), (5, 1, false)]⟩),
 (73, ⟨6, true, [.pointer none, .pointer none, .int .i64 0, .slice none 0 0, .map none, .int .i64 0], .struct [(0, 1, false), (1, 1, false), (2, 1, false), (3, 1, false), (4, 1, false), (5, 1, false)]⟩),
 (74, ⟨1, false, [.slice none 0 0], .slice 123 513 520 zT513⟩),
 (76, ⟨1, false, [.nilFunc], .other⟩),
 (77, ⟨1, false, [.nilFunc], .other⟩),
 (78, ⟨1, false, [.map none], .map (.int .i64) (.agg ⟨(zB 64)⟩)⟩),
 (79, ⟨1, false, [.slice none 0 0], .slice 109 65 72 zT65⟩),
 (80, ⟨6, true, [.int .i64 0, .map none, .map none, .slice none 0 0, .bool false, .int .i64 0], .struct [(0, 1, false), (1, 1, false), (2, 1, false), (3, 1, false), (4, 1, false), (5, 1, false)]⟩),
 (81, ⟨6, true, [.int .i64 0, .map none, .map none, .slice none 0 0, .bool false, .int .i64 0], .struct [(0, 1, false), (1, 1, false), (2, 1, false), (3, 1, false), (4, 1, false), (5, 1, false)]⟩),
 (82, ⟨2, true, [.pointer none, .slice none 0 0], .struct [(0, 1, false), (1, 1, false)]⟩),
 (83, ⟨2, true, [.pointer none, .slice none 0 0], .struct [(0, 1, false), (1, 1, false)]⟩),
 (84, ⟨1, false, [.nilFunc], .other⟩),
 (85, ⟨512, true, (zB 512), .barr 512⟩),
 (86, ⟨512, true, (zB 512), .barr 512⟩),
 (88, ⟨1, false, [.nilFunc], .other⟩),
 (89, ⟨1, false, [.nilFunc], .other⟩),
 (90, ⟨1, false, [.nilFunc], .other⟩),
 (91, ⟨1, false, [.nilFunc], .other⟩),
 (93, ⟨1, false, [.nilFunc], .other⟩),
 (95, ⟨1, false, [.nilFunc], .other⟩),
 (97, ⟨1, false, [.nilFunc], .other⟩),
 (98, ⟨1, false, [.nilFunc], .other⟩),
 (99, ⟨1, false, [.nilFunc], .other⟩),
 (100, ⟨1, false, [.nilFunc], .other⟩),
 (102, ⟨1, false, [.nilFunc], .other⟩),
 (103, ⟨1, false, [.nilFunc], .other⟩),
 (104, ⟨1, false, [.nilFunc], .other⟩),
 (105, ⟨1, false, [.slice none 0 0], .slice 4 1 1 [.bool false]⟩),
 (106, ⟨64, true, (zB 64), .barr 64⟩),
 (107, ⟨64, true, (zB 64), .barr 64⟩),
 (108, ⟨65, true, zT65, .struct [(0, 1, false), (1, 64, true)]⟩),
 (109, ⟨65, true, zT65, .struct [(0, 1, false), (1, 64, true)]⟩),
 (110, ⟨1, false, [.nilFunc], .other⟩),
 (111, ⟨1, false, [.nilFunc], .other⟩),
 (112, ⟨1, false, [.int .u64 0], .int .u64⟩),
 (113, ⟨2, true, [.int .u64 0, .int .u64 0], .struct [(0, 1, false), (1, 1, false)]⟩),
 (114, ⟨2, true, [.int .u64 0, .int .u64 0], .struct [(0, 1, false), (1, 1, false)]⟩),
 (115, ⟨5, true, [.pointer none, .int .u64 0, .int .u64 0, .slice none 0 0, .int .i64 0], .struct [(0, 1, false), (1, 2, true), (3, 1, false), (4, 1, false)]⟩),
 (116, ⟨5, true, [.pointer none, .int .u64 0, .int .u64 0, .slice none 0 0, .int .i64 0], .struct [(0, 1, false), (1, 2, true), (3, 1, false), (4, 1, false)]⟩),
 (118, ⟨1, false, [.nilFunc], .other⟩),
 (119, ⟨1, false, [.nilFunc], .other⟩),
 (121, ⟨1, false, [.nilFunc], .other⟩),
 (122, ⟨513, true, zT513, .struct [(0, 1, false), (1, 512, true)]⟩),
 (123, ⟨513, true, zT513, .struct [(0, 1, false), (1, 512, true)]⟩),
 (124, ⟨1, false, [.pointer none], .ptr⟩),
 (126, ⟨1, false, [.nilFunc], .other⟩),
 (127, ⟨516, true, zT516, .struct [(0, 1, false), (1, 512, true), (513, 1, false), (514, 1, false), (515, 1, false)]⟩),
 (128, ⟨516, true, zT516, .struct [(0, 1, false), (1, 512, true), (513, 1, false), (514, 1, false), (515, 1, false)]⟩),
 (129, ⟨1, false, [.nilFunc], .other⟩),
 (130, ⟨1, false, [.nilFunc], .other⟩),
 (131, ⟨1, false, [.nilFunc], .other⟩),
 (132, ⟨1, false, [.nilFunc], .other⟩),
 (133, ⟨1, false, [.nilFunc], .other⟩),
 (134, ⟨1, false, [.nilFunc], .other⟩),
 (135, ⟨1, false, [.nilFunc], .other⟩),
 (136, ⟨1, false, [.nilFunc], .other⟩),
 (137, ⟨1, false, [.nilFunc], .other⟩),
 (139, ⟨1, false, [.nilFunc], .other⟩),
 (140, ⟨1, false, [.nilFunc], .other⟩),
 (141, ⟨1, false, [.nilFunc], .other⟩),
 (142, ⟨1, false, [.nilFunc], .other⟩),
 (143, ⟨1, false, [.nilFunc], .other⟩),
 (145, ⟨1, false, [.nilFunc], .other⟩),
 (146, ⟨1, false, [.nilFunc], .other⟩),
 (147, ⟨1, false, [.pointer none], .ptr⟩),
 (148, ⟨1, false, [.nilFunc], .other⟩),
 (149, ⟨1, false, [.nilFunc], .other⟩),
 (150, ⟨1, false, [.nilFunc], .other⟩),
 (151, ⟨1, false, [.nilFunc], .other⟩),
 (152, ⟨1, false, [.nilFunc], .other⟩),
 (153, ⟨1, false, [.nilFunc], .other⟩),
 (154, ⟨1, false, [.nilFunc], .other⟩),
 (157, ⟨1, false, [.nilFunc], .other⟩),
 (158, ⟨1, false, [.nilFunc], .other⟩),
 (159, ⟨1, false, [.nilFunc], .other⟩),
 (160, ⟨1, false, [.nilFunc], .other⟩),
 (161, ⟨1, false, [.nilFunc], .other⟩),
 (162, ⟨1, false, [.nilFunc], .other⟩),
 (163, ⟨1, false, [.nilFunc], .other⟩),
 (164, ⟨1, false, [.int .u32 0], .int .u32⟩),
 (165, ⟨1, false, [.nilFunc], .other⟩),
 (166, ⟨1, false, [.nilFunc], .other⟩),
 (167, ⟨1, false, [.nilFunc], .other⟩),
 (175, ⟨1, false, [.nilFunc], .other⟩),
 (176, ⟨1, false, [.pointer none], .ptr⟩)]
def cxQ : List (TypeId × List EK) := [(37, [.int, .int]), (114, [.int, .int])]
def cxM : List (TypeId × String × FuncId × Option TypeId) := [(147, "Len", 103, some 71), (147, "Less", 104, some 71), (147, "Swap", 105, some 71), (147, "Pop", 106, none), (147, "Push", 107, none)]
def cx : Ctx := tabCtxM cxL [7100019, 7100007, 7400029, 2300030, 2300032, 2300093, 2300026] cxQ cxM
theorem cx_ok : cx.ok Try.prog := tabCtxM_ok (by kernel_rfl) (by kernel_rfl) (by kernel_rfl)
theorem dr_ok : DrawOk Try.prog (aDraw Try.prog cx) := aDraw_ok cx_ok (by kernel_rfl)
theorem cx_muts : cx.muts = [7100019, 7100007, 7400029, 2300030, 2300032, 2300093, 2300026] := nr rfl
theorem cx_1 : cx.ty 1 = some ⟨1, false, [.nilFunc], .other⟩ := nr rfl
theorem ck_1 : cx.kind 1 = some (.other) := nr rfl
theorem cx_2 : cx.ty 2 = some ⟨1, false, [.int .i64 0], .int .i64⟩ := nr rfl
theorem ck_2 : cx.kind 2 = some (.int .i64) := nr rfl
theorem cx_3 : cx.ty 3 = some ⟨1, false, [.int .i64 0], .int .i64⟩ := nr rfl
theorem ck_3 : cx.kind 3 = some (.int .i64) := nr rfl
theorem cx_4 : cx.ty 4 = some ⟨1, false, [.bool false], .bool⟩ := nr rfl
theorem ck_4 : cx.kind 4 = some (.bool) := nr rfl
theorem cx_5 : cx.ty 5 = some ⟨1, false, [.int .u8 0], .int .u8⟩ := nr rfl
theorem ck_5 : cx.kind 5 = some (.int .u8) := nr rfl
theorem cx_9 : cx.ty 9 = some ⟨1, false, [.string ⟨#[]⟩], .str⟩ := nr rfl
theorem ck_9 : cx.kind 9 = some (.str) := nr rfl
theorem cx_22 : cx.ty 22 = some ⟨1, false, [.slice none 0 0], .slice 23 1 24 [.slice none 0 0]⟩ := nr rfl
theorem ck_22 : cx.kind 22 = some (.slice 23 1 24 [.slice none 0 0]) := nr rfl
theorem ks_22 {e : Nat} {ls : List (List PV)} : lenA cx 22 (.p (.sl e ls)) = some ls.length := nr (len_sl ck_22)
theorem ko_22 {t e : Nat} {ls : List (List PV)} : lenA cx 22 (.own t e ls) = some ls.length := nr (len_own ck_22)
theorem kn_22 {t e : Nat} {ls : List (List PV)} : lenA cx 22 (.nown t e ls) = some ls.length := nr (len_nown ck_22)
theorem kz_22 : lenA cx 22 (.p (.v (.slice none 0 0))) = some 0 := nr (len_nil ck_22)
theorem km_22 {t e j n : Nat} : lenA cx 22 (.ms t e j n) = some n := nr (len_ms ck_22)
theorem kb_22 {t e j q n : Nat} : lenA cx 22 (.bs t e j q n) = some n := nr (len_bs ck_22)
theorem cx_23 : cx.ty 23 = some ⟨1, false, [.slice none 0 0], .slice 5 1 1 [.int .u8 0]⟩ := nr rfl
theorem ck_23 : cx.kind 23 = some (.slice 5 1 1 [.int .u8 0]) := nr rfl
theorem ks_23 {e : Nat} {ls : List (List PV)} : lenA cx 23 (.p (.sl e ls)) = some ls.length := nr (len_sl ck_23)
theorem ko_23 {t e : Nat} {ls : List (List PV)} : lenA cx 23 (.own t e ls) = some ls.length := nr (len_own ck_23)
theorem kn_23 {t e : Nat} {ls : List (List PV)} : lenA cx 23 (.nown t e ls) = some ls.length := nr (len_nown ck_23)
theorem kz_23 : lenA cx 23 (.p (.v (.slice none 0 0))) = some 0 := nr (len_nil ck_23)
theorem km_23 {t e j n : Nat} : lenA cx 23 (.ms t e j n) = some n := nr (len_ms ck_23)
theorem kb_23 {t e j q n : Nat} : lenA cx 23 (.bs t e j q n) = some n := nr (len_bs ck_23)
theorem cx_25 : cx.ty 25 = some ⟨1, false, [.pointer none], .ptr⟩ := nr rfl
theorem ck_25 : cx.kind 25 = some (.ptr) := nr rfl
theorem cx_26 : cx.ty 26 = some ⟨1, false, [.int .i64 0], .int .i64⟩ := nr rfl
theorem ck_26 : cx.kind 26 = some (.int .i64) := nr rfl
theorem cx_29 : cx.ty 29 = some ⟨1, false, [.pointer none], .ptr⟩ := nr rfl
theorem ck_29 : cx.kind 29 = some (.ptr) := nr rfl
theorem cx_31 : cx.ty 31 = some ⟨1, false, [.pointer none], .ptr⟩ := nr rfl
theorem ck_31 : cx.kind 31 = some (.ptr) := nr rfl
theorem cx_35 : cx.ty 35 = some ⟨1, false, [.slice none 0 0], .slice 37 2 16 [.int .i64 0, .int .i64 0]⟩ := nr rfl
theorem ck_35 : cx.kind 35 = some (.slice 37 2 16 [.int .i64 0, .int .i64 0]) := nr rfl
theorem ks_35 {e : Nat} {ls : List (List PV)} : lenA cx 35 (.p (.sl e ls)) = some ls.length := nr (len_sl ck_35)
theorem ko_35 {t e : Nat} {ls : List (List PV)} : lenA cx 35 (.own t e ls) = some ls.length := nr (len_own ck_35)
theorem kn_35 {t e : Nat} {ls : List (List PV)} : lenA cx 35 (.nown t e ls) = some ls.length := nr (len_nown ck_35)
theorem kz_35 : lenA cx 35 (.p (.v (.slice none 0 0))) = some 0 := nr (len_nil ck_35)
theorem km_35 {t e j n : Nat} : lenA cx 35 (.ms t e j n) = some n := nr (len_ms ck_35)
theorem kb_35 {t e j q n : Nat} : lenA cx 35 (.bs t e j q n) = some n := nr (len_bs ck_35)
theorem cx_37 : cx.ty 37 = some ⟨2, true, [.int .i64 0, .int .i64 0], .struct [(0, 1, false), (1, 1, false)]⟩ := nr rfl
theorem ck_37 : cx.kind 37 = some (.struct [(0, 1, false), (1, 1, false)]) := nr rfl
theorem cx_40 : cx.ty 40 = some ⟨1, false, [.int .u64 0], .int .u64⟩ := nr rfl
theorem ck_40 : cx.kind 40 = some (.int .u64) := nr rfl
theorem cx_46 : cx.ty 46 = some ⟨1, false, [.slice none 0 0], .slice 52 3 40 [.int .i64 0, .int .i64 0, .slice none 0 0]⟩ := nr rfl
theorem ck_46 : cx.kind 46 = some (.slice 52 3 40 [.int .i64 0, .int .i64 0, .slice none 0 0]) := nr rfl
theorem ks_46 {e : Nat} {ls : List (List PV)} : lenA cx 46 (.p (.sl e ls)) = some ls.length := nr (len_sl ck_46)
theorem ko_46 {t e : Nat} {ls : List (List PV)} : lenA cx 46 (.own t e ls) = some ls.length := nr (len_own ck_46)
theorem kn_46 {t e : Nat} {ls : List (List PV)} : lenA cx 46 (.nown t e ls) = some ls.length := nr (len_nown ck_46)
theorem kz_46 : lenA cx 46 (.p (.v (.slice none 0 0))) = some 0 := nr (len_nil ck_46)
theorem km_46 {t e j n : Nat} : lenA cx 46 (.ms t e j n) = some n := nr (len_ms ck_46)
theorem kb_46 {t e j q n : Nat} : lenA cx 46 (.bs t e j q n) = some n := nr (len_bs ck_46)
theorem cx_52 : cx.ty 52 = some ⟨3, true, [.int .i64 0, .int .i64 0, .slice none 0 0], .struct [(0, 2, true), (2, 1, false)]⟩ := nr rfl
theorem ck_52 : cx.kind 52 = some (.struct [(0, 2, true), (2, 1, false)]) := nr rfl
theorem cx_54 : cx.ty 54 = some ⟨1, false, [.slice none 0 0], .slice 61 4 48 [.int .i64 0, .int .i64 0, .int .i64 0, .slice none 0 0]⟩ := nr rfl
theorem ck_54 : cx.kind 54 = some (.slice 61 4 48 [.int .i64 0, .int .i64 0, .int .i64 0, .slice none 0 0]) := nr rfl
theorem ks_54 {e : Nat} {ls : List (List PV)} : lenA cx 54 (.p (.sl e ls)) = some ls.length := nr (len_sl ck_54)
theorem ko_54 {t e : Nat} {ls : List (List PV)} : lenA cx 54 (.own t e ls) = some ls.length := nr (len_own ck_54)
theorem kn_54 {t e : Nat} {ls : List (List PV)} : lenA cx 54 (.nown t e ls) = some ls.length := nr (len_nown ck_54)
theorem kz_54 : lenA cx 54 (.p (.v (.slice none 0 0))) = some 0 := nr (len_nil ck_54)
theorem km_54 {t e j n : Nat} : lenA cx 54 (.ms t e j n) = some n := nr (len_ms ck_54)
theorem kb_54 {t e j q n : Nat} : lenA cx 54 (.bs t e j q n) = some n := nr (len_bs ck_54)
theorem cx_55 : cx.ty 55 = some ⟨2, true, [.int .i64 0, .int .i64 0], .arr 2 1 false⟩ := nr rfl
theorem ck_55 : cx.kind 55 = some (.arr 2 1 false) := nr rfl
theorem cx_56 : cx.ty 56 = some ⟨1, false, [.pointer none], .ptr⟩ := nr rfl
theorem ck_56 : cx.kind 56 = some (.ptr) := nr rfl
theorem cx_58 : cx.ty 58 = some ⟨2, true, [.slice none 0 0, .slice none 0 0], .struct [(0, 1, false), (1, 1, false)]⟩ := nr rfl
theorem ck_58 : cx.kind 58 = some (.struct [(0, 1, false), (1, 1, false)]) := nr rfl
theorem cx_59 : cx.ty 59 = some ⟨2, true, [.pointer none, .pointer none], .arr 2 1 false⟩ := nr rfl
theorem ck_59 : cx.kind 59 = some (.arr 2 1 false) := nr rfl
theorem cx_61 : cx.ty 61 = some ⟨4, true, [.int .i64 0, .int .i64 0, .int .i64 0, .slice none 0 0], .struct [(0, 1, false), (1, 1, false), (2, 1, false), (3, 1, false)]⟩ := nr rfl
theorem ck_61 : cx.kind 61 = some (.struct [(0, 1, false), (1, 1, false), (2, 1, false), (3, 1, false)]) := nr rfl
theorem cx_66 : cx.ty 66 = some ⟨1, false, [.pointer none], .ptr⟩ := nr rfl
theorem ck_66 : cx.kind 66 = some (.ptr) := nr rfl
theorem cx_69 : cx.ty 69 = some ⟨1, false, [.map none], .map (.int .i64) (.pointer none)⟩ := nr rfl
theorem ck_69 : cx.kind 69 = some (.map (.int .i64) (.pointer none)) := nr rfl
theorem cx_71 : cx.ty 71 = some ⟨1, false, [.slice none 0 0], .slice 124 1 8 [.pointer none]⟩ := nr rfl
theorem ck_71 : cx.kind 71 = some (.slice 124 1 8 [.pointer none]) := nr rfl
theorem ks_71 {e : Nat} {ls : List (List PV)} : lenA cx 71 (.p (.sl e ls)) = some ls.length := nr (len_sl ck_71)
theorem ko_71 {t e : Nat} {ls : List (List PV)} : lenA cx 71 (.own t e ls) = some ls.length := nr (len_own ck_71)
theorem kn_71 {t e : Nat} {ls : List (List PV)} : lenA cx 71 (.nown t e ls) = some ls.length := nr (len_nown ck_71)
theorem kz_71 : lenA cx 71 (.p (.v (.slice none 0 0))) = some 0 := nr (len_nil ck_71)
theorem km_71 {t e j n : Nat} : lenA cx 71 (.ms t e j n) = some n := nr (len_ms ck_71)
theorem kb_71 {t e j q n : Nat} : lenA cx 71 (.bs t e j q n) = some n := nr (len_bs ck_71)
theorem cx_73 : cx.ty 73 = some ⟨6, true, [.pointer none, .pointer none, .int .i64 0, .slice none 0 0, .map none, .int .i64 0], .struct [(0, 1, false), (1, 1, false), (2, 1, false), (3, 1, false), (4, 1, false), (5, 1, false)]⟩ := nr rfl
theorem ck_73 : cx.kind 73 = some (.struct [(0, 1, false), (1, 1, false), (2, 1, false), (3, 1, false), (4, 1, false), (5, 1, false)]) := nr rfl
theorem cx_74 : cx.ty 74 = some ⟨1, false, [.slice none 0 0], .slice 123 513 520 zT513⟩ := nr rfl
theorem ck_74 : cx.kind 74 = some (.slice 123 513 520 zT513) := nr rfl
theorem ks_74 {e : Nat} {ls : List (List PV)} : lenA cx 74 (.p (.sl e ls)) = some ls.length := nr (len_sl ck_74)
theorem ko_74 {t e : Nat} {ls : List (List PV)} : lenA cx 74 (.own t e ls) = some ls.length := nr (len_own ck_74)
theorem kn_74 {t e : Nat} {ls : List (List PV)} : lenA cx 74 (.nown t e ls) = some ls.length := nr (len_nown ck_74)
theorem kz_74 : lenA cx 74 (.p (.v (.slice none 0 0))) = some 0 := nr (len_nil ck_74)
theorem km_74 {t e j n : Nat} : lenA cx 74 (.ms t e j n) = some n := nr (len_ms ck_74)
theorem kb_74 {t e j q n : Nat} : lenA cx 74 (.bs t e j q n) = some n := nr (len_bs ck_74)
theorem cx_78 : cx.ty 78 = some ⟨1, false, [.map none], .map (.int .i64) (.agg ⟨(zB 64)⟩)⟩ := nr rfl
theorem ck_78 : cx.kind 78 = some (.map (.int .i64) (.agg ⟨(zB 64)⟩)) := nr rfl
theorem cx_79 : cx.ty 79 = some ⟨1, false, [.slice none 0 0], .slice 109 65 72 zT65⟩ := nr rfl
theorem ck_79 : cx.kind 79 = some (.slice 109 65 72 zT65) := nr rfl
theorem ks_79 {e : Nat} {ls : List (List PV)} : lenA cx 79 (.p (.sl e ls)) = some ls.length := nr (len_sl ck_79)
theorem ko_79 {t e : Nat} {ls : List (List PV)} : lenA cx 79 (.own t e ls) = some ls.length := nr (len_own ck_79)
theorem kn_79 {t e : Nat} {ls : List (List PV)} : lenA cx 79 (.nown t e ls) = some ls.length := nr (len_nown ck_79)
theorem kz_79 : lenA cx 79 (.p (.v (.slice none 0 0))) = some 0 := nr (len_nil ck_79)
theorem km_79 {t e j n : Nat} : lenA cx 79 (.ms t e j n) = some n := nr (len_ms ck_79)
theorem kb_79 {t e j q n : Nat} : lenA cx 79 (.bs t e j q n) = some n := nr (len_bs ck_79)
theorem cx_81 : cx.ty 81 = some ⟨6, true, [.int .i64 0, .map none, .map none, .slice none 0 0, .bool false, .int .i64 0], .struct [(0, 1, false), (1, 1, false), (2, 1, false), (3, 1, false), (4, 1, false), (5, 1, false)]⟩ := nr rfl
theorem ck_81 : cx.kind 81 = some (.struct [(0, 1, false), (1, 1, false), (2, 1, false), (3, 1, false), (4, 1, false), (5, 1, false)]) := nr rfl
theorem cx_83 : cx.ty 83 = some ⟨2, true, [.pointer none, .slice none 0 0], .struct [(0, 1, false), (1, 1, false)]⟩ := nr rfl
theorem ck_83 : cx.kind 83 = some (.struct [(0, 1, false), (1, 1, false)]) := nr rfl
theorem cx_86 : cx.ty 86 = some ⟨512, true, (zB 512), .barr 512⟩ := nr rfl
theorem ck_86 : cx.kind 86 = some (.barr 512) := nr rfl
theorem cx_91 : cx.ty 91 = some ⟨1, false, [.nilFunc], .other⟩ := nr rfl
theorem ck_91 : cx.kind 91 = some (.other) := nr rfl
theorem cx_105 : cx.ty 105 = some ⟨1, false, [.slice none 0 0], .slice 4 1 1 [.bool false]⟩ := nr rfl
theorem ck_105 : cx.kind 105 = some (.slice 4 1 1 [.bool false]) := nr rfl
theorem ks_105 {e : Nat} {ls : List (List PV)} : lenA cx 105 (.p (.sl e ls)) = some ls.length := nr (len_sl ck_105)
theorem ko_105 {t e : Nat} {ls : List (List PV)} : lenA cx 105 (.own t e ls) = some ls.length := nr (len_own ck_105)
theorem kn_105 {t e : Nat} {ls : List (List PV)} : lenA cx 105 (.nown t e ls) = some ls.length := nr (len_nown ck_105)
theorem kz_105 : lenA cx 105 (.p (.v (.slice none 0 0))) = some 0 := nr (len_nil ck_105)
theorem km_105 {t e j n : Nat} : lenA cx 105 (.ms t e j n) = some n := nr (len_ms ck_105)
theorem kb_105 {t e j q n : Nat} : lenA cx 105 (.bs t e j q n) = some n := nr (len_bs ck_105)
theorem cx_107 : cx.ty 107 = some ⟨64, true, (zB 64), .barr 64⟩ := nr rfl
theorem ck_107 : cx.kind 107 = some (.barr 64) := nr rfl
theorem cx_109 : cx.ty 109 = some ⟨65, true, zT65, .struct [(0, 1, false), (1, 64, true)]⟩ := nr rfl
theorem ck_109 : cx.kind 109 = some (.struct [(0, 1, false), (1, 64, true)]) := nr rfl
theorem cx_112 : cx.ty 112 = some ⟨1, false, [.int .u64 0], .int .u64⟩ := nr rfl
theorem ck_112 : cx.kind 112 = some (.int .u64) := nr rfl
theorem cx_114 : cx.ty 114 = some ⟨2, true, [.int .u64 0, .int .u64 0], .struct [(0, 1, false), (1, 1, false)]⟩ := nr rfl
theorem ck_114 : cx.kind 114 = some (.struct [(0, 1, false), (1, 1, false)]) := nr rfl
theorem cx_116 : cx.ty 116 = some ⟨5, true, [.pointer none, .int .u64 0, .int .u64 0, .slice none 0 0, .int .i64 0], .struct [(0, 1, false), (1, 2, true), (3, 1, false), (4, 1, false)]⟩ := nr rfl
theorem ck_116 : cx.kind 116 = some (.struct [(0, 1, false), (1, 2, true), (3, 1, false), (4, 1, false)]) := nr rfl
theorem cx_123 : cx.ty 123 = some ⟨513, true, zT513, .struct [(0, 1, false), (1, 512, true)]⟩ := nr rfl
theorem ck_123 : cx.kind 123 = some (.struct [(0, 1, false), (1, 512, true)]) := nr rfl
theorem cx_124 : cx.ty 124 = some ⟨1, false, [.pointer none], .ptr⟩ := nr rfl
theorem ck_124 : cx.kind 124 = some (.ptr) := nr rfl
theorem cx_128 : cx.ty 128 = some ⟨516, true, zT516, .struct [(0, 1, false), (1, 512, true), (513, 1, false), (514, 1, false), (515, 1, false)]⟩ := nr rfl
theorem ck_128 : cx.kind 128 = some (.struct [(0, 1, false), (1, 512, true), (513, 1, false), (514, 1, false), (515, 1, false)]) := nr rfl
theorem cx_147 : cx.ty 147 = some ⟨1, false, [.pointer none], .ptr⟩ := nr rfl
theorem ck_147 : cx.kind 147 = some (.ptr) := nr rfl
theorem cx_163 : cx.ty 163 = some ⟨1, false, [.nilFunc], .other⟩ := nr rfl
theorem ck_163 : cx.kind 163 = some (.other) := nr rfl
theorem ce_37 : cx.eqs 37 = some [.int, .int] := nr rfl
theorem ce_114 : cx.eqs 114 = some [.int, .int] := nr rfl
theorem ca_2_1_false : arrF 2 1 false = [(0, 1, false), (1, 1, false)] := nr rfl
theorem cx_arr : (type_of% ca_2_1_false) := ca_2_1_false
theorem aa {p q : Prop} (h : p) (k : q) : p ∧ q := ⟨h, k⟩
def T1 := aa ck_1 cx_1
def T2 := aa ck_2 cx_2
def T3 := aa ck_3 cx_3
def T4 := aa ck_4 cx_4
def T5 := aa ck_5 cx_5
def T9 := aa ck_9 cx_9
def T22 := aa ck_22 <| aa cx_22 <| aa @ks_22 <| aa @ko_22 <| aa @kn_22 <| aa @km_22 <| aa @kb_22 kz_22
def T23 := aa ck_23 <| aa cx_23 <| aa @ks_23 <| aa @ko_23 <| aa @kn_23 <| aa @km_23 <| aa @kb_23 kz_23
theorem kp_25 {x : AV} : mkIA cx 25 x = some (.dyn 25 x) := nr (mk_ptr ck_25)
theorem ka_25 {a : AV} : asIA cx 25 false (.dyn 25 a) = some a := nr (as_ptr ck_25)
def T25 := aa ck_25 <| aa cx_25 <| aa @kp_25 @ka_25
def T26 := aa ck_26 cx_26
theorem kp_29 {x : AV} : mkIA cx 29 x = some (.dyn 29 x) := nr (mk_ptr ck_29)
theorem ka_29 {a : AV} : asIA cx 29 false (.dyn 29 a) = some a := nr (as_ptr ck_29)
def T29 := aa ck_29 <| aa cx_29 <| aa @kp_29 @ka_29
theorem kp_31 {x : AV} : mkIA cx 31 x = some (.dyn 31 x) := nr (mk_ptr ck_31)
theorem ka_31 {a : AV} : asIA cx 31 false (.dyn 31 a) = some a := nr (as_ptr ck_31)
def T31 := aa ck_31 <| aa cx_31 <| aa @kp_31 @ka_31
def T35 := aa ck_35 <| aa cx_35 <| aa @ks_35 <| aa @ko_35 <| aa @kn_35 <| aa @km_35 <| aa @kb_35 kz_35
def T37 := aa ck_37 <| aa cx_37 ce_37
def T40 := aa ck_40 cx_40
def T46 := aa ck_46 <| aa cx_46 <| aa @ks_46 <| aa @ko_46 <| aa @kn_46 <| aa @km_46 <| aa @kb_46 kz_46
def T52 := aa ck_52 cx_52
def T54 := aa ck_54 <| aa cx_54 <| aa @ks_54 <| aa @ko_54 <| aa @kn_54 <| aa @km_54 <| aa @kb_54 kz_54
def T55 := aa ck_55 cx_55
theorem kp_56 {x : AV} : mkIA cx 56 x = some (.dyn 56 x) := nr (mk_ptr ck_56)
theorem ka_56 {a : AV} : asIA cx 56 false (.dyn 56 a) = some a := nr (as_ptr ck_56)
def T56 := aa ck_56 <| aa cx_56 <| aa @kp_56 @ka_56
def T58 := aa ck_58 cx_58
def T59 := aa ck_59 cx_59
def T61 := aa ck_61 cx_61
theorem kp_66 {x : AV} : mkIA cx 66 x = some (.dyn 66 x) := nr (mk_ptr ck_66)
theorem ka_66 {a : AV} : asIA cx 66 false (.dyn 66 a) = some a := nr (as_ptr ck_66)
def T66 := aa ck_66 <| aa cx_66 <| aa @kp_66 @ka_66
def T69 := aa ck_69 cx_69
def T71 := aa ck_71 <| aa cx_71 <| aa @ks_71 <| aa @ko_71 <| aa @kn_71 <| aa @km_71 <| aa @kb_71 kz_71
def T73 := aa ck_73 cx_73
def T74 := aa ck_74 <| aa cx_74 <| aa @ks_74 <| aa @ko_74 <| aa @kn_74 <| aa @km_74 <| aa @kb_74 kz_74
def T78 := aa ck_78 cx_78
def T79 := aa ck_79 <| aa cx_79 <| aa @ks_79 <| aa @ko_79 <| aa @kn_79 <| aa @km_79 <| aa @kb_79 kz_79
def T81 := aa ck_81 cx_81
def T83 := aa ck_83 cx_83
theorem kr_86 {t e i o n : Nat} : arrPA cx 86 (.bs t e i o n) = if 512 ≤ n then some (.mp t e i o) else none := nr (arr_bs ck_86)
theorem kS_86 {x : AV} {lo hi : Option AV} : sliceA cx 86 x lo hi = (match x, boundA lo 0, boundA hi (512 : Nat) with
 | .mp t e i o, some l, some h => if 0 ≤ l ∧ l < h ∧ h ≤ ((512 : Nat) : Int) then some (.bs t e i (o + l.toNat) (h.toNat - l.toNat)) else none
 | _, _, _ => none) := nr (slice_arr ck_86)
def T86 := aa ck_86 <| aa cx_86 <| aa @kr_86 @kS_86
def T91 := aa ck_91 cx_91
def T105 := aa ck_105 <| aa cx_105 <| aa @ks_105 <| aa @ko_105 <| aa @kn_105 <| aa @km_105 <| aa @kb_105 kz_105
theorem kr_107 {t e i o n : Nat} : arrPA cx 107 (.bs t e i o n) = if 64 ≤ n then some (.mp t e i o) else none := nr (arr_bs ck_107)
theorem kS_107 {x : AV} {lo hi : Option AV} : sliceA cx 107 x lo hi = (match x, boundA lo 0, boundA hi (64 : Nat) with
 | .mp t e i o, some l, some h => if 0 ≤ l ∧ l < h ∧ h ≤ ((64 : Nat) : Int) then some (.bs t e i (o + l.toNat) (h.toNat - l.toNat)) else none
 | _, _, _ => none) := nr (slice_arr ck_107)
def T107 := aa ck_107 <| aa cx_107 <| aa @kr_107 @kS_107
def T109 := aa ck_109 cx_109
def T112 := aa ck_112 cx_112
def T114 := aa ck_114 <| aa cx_114 ce_114
def T116 := aa ck_116 cx_116
def T123 := aa ck_123 cx_123
theorem kp_124 {x : AV} : mkIA cx 124 x = some (.dyn 124 x) := nr (mk_ptr ck_124)
theorem ka_124 {a : AV} : asIA cx 124 false (.dyn 124 a) = some a := nr (as_ptr ck_124)
def T124 := aa ck_124 <| aa cx_124 <| aa @kp_124 @ka_124
def T128 := aa ck_128 cx_128
theorem kp_147 {x : AV} : mkIA cx 147 x = some (.dyn 147 x) := nr (mk_ptr ck_147)
theorem ka_147 {a : AV} : asIA cx 147 false (.dyn 147 a) = some a := nr (as_ptr ck_147)
def T147 := aa ck_147 <| aa cx_147 <| aa @kp_147 @ka_147
def T163 := aa ck_163 cx_163
theorem ci_0 {a : AV} {args : List AV} {σ : St} {K : AV → St → Prop} : aInv Try.prog cx (.dyn 147 a) "Len" args σ K = recvK Try.prog 103 (loadA ⟨1, false, [.slice none 0 0], .slice 124 1 8 [.pointer none]⟩ a σ) args σ K := nr (inv_val (by kernel_rfl) cx_71)
theorem ci_1 {a : AV} {args : List AV} {σ : St} {K : AV → St → Prop} : aInv Try.prog cx (.dyn 147 a) "Less" args σ K = recvK Try.prog 104 (loadA ⟨1, false, [.slice none 0 0], .slice 124 1 8 [.pointer none]⟩ a σ) args σ K := nr (inv_val (by kernel_rfl) cx_71)
theorem ci_2 {a : AV} {args : List AV} {σ : St} {K : AV → St → Prop} : aInv Try.prog cx (.dyn 147 a) "Swap" args σ K = recvK Try.prog 105 (loadA ⟨1, false, [.slice none 0 0], .slice 124 1 8 [.pointer none]⟩ a σ) args σ K := nr (inv_val (by kernel_rfl) cx_71)
theorem ci_3 {a : AV} {args : List AV} {σ : St} {K : AV → St → Prop} : aInv Try.prog cx (.dyn 147 a) "Pop" args σ K = ACalls Try.prog 106 (a :: args) σ K := nr (inv_ptr (by kernel_rfl))
theorem ci_4 {a : AV} {args : List AV} {σ : St} {K : AV → St → Prop} : aInv Try.prog cx (.dyn 147 a) "Push" args σ K = ACalls Try.prog 107 (a :: args) σ K := nr (inv_ptr (by kernel_rfl))
theorem wX : (type_of% @wBB) ∧ (type_of% @wBC) ∧ (type_of% @cx_muts) ∧ (type_of% @cx_arr) ∧ (type_of% @wBD) ∧ (type_of% @wBE) ∧ (type_of% @ci_0) ∧ (type_of% @ci_1) ∧ (type_of% @ci_2) ∧ (type_of% @ci_3) ∧ (type_of% @ci_4) := ⟨wBB, wBC, cx_muts, cx_arr, wBD, wBE, @ci_0, @ci_1, @ci_2, @ci_3, @ci_4⟩
end Go.Proofs.Ytlddiphjpmlhbaa
