/- The table of types of this program, for the abstract machine. The page's contracts on the abstract machine, for programs that use pages. Values without objects under other numbers. -/
import Derived.Test.YtockimhceppkbaaM14
import Derived.Test.YtockimhceppkbaaRows
import Derived.Test.YtockimhceppkbaaM19
import Derived.Test.YtockimhceppkbaaM15
set_option linter.unusedSimpArgs false
set_option linter.unusedVariables false
set_option linter.defProp false
set_option maxRecDepth 100000
set_option maxHeartbeats 32000000
namespace Go.Proofs.Ytockimhceppkbaa
def zT513 : List Value := [.int .i64 0] ++ zB 512
theorem zT513_len : (zeroA zT513).length = 513 := by simp only [zT513, zeroA, zB, List.length_map, List.length_append, List.length_replicate, List.length_cons, List.length_nil]
def zT65 : List Value := [.int .i64 0] ++ zB 64
theorem zT65_len : (zeroA zT65).length = 65 := by simp only [zT65, zeroA, zB, List.length_map, List.length_append, List.length_replicate, List.length_cons, List.length_nil]
def zT516 : List Value := [.int .i64 0] ++ zB 512 ++ [.bool false] ++ [.int .i64 0, .int .i64 0]
theorem zT516_len : (zeroA zT516).length = 516 := by simp only [zT516, zeroA, zB, List.length_map, List.length_append, List.length_replicate, List.length_cons, List.length_nil]
def cxL : List (TypeId × TI) := [
 (1, ⟨1, false, [.nilFunc], .other⟩),
 (2, ⟨1, false, [.int .i64 0], .int .i64⟩),
 (3, ⟨1, false, [.int .i64 0], .int .i64⟩),
 (4, ⟨1, false, [.bool false], .bool⟩),
 (5, ⟨1, false, [.int .u8 0], .int .u8⟩),
 (9, ⟨1, false, [.string ⟨#[]⟩], .str⟩),
 (12, ⟨1, false, [.int .u64 0], .int .u64⟩),
 (13, ⟨2, true, [.string ⟨#[]⟩, .int .u64 0], .struct [(0, 1, false), (1, 1, false)]⟩),
 (19, ⟨1, true, [.pointer none], .struct [(0, 1, false)]⟩),
 (21, ⟨1, false, [.int .i32 0], .int .i32⟩),
 (22, ⟨1, false, [.slice none 0 0], .slice 23 1 24 [.slice none 0 0]⟩),
 (23, ⟨1, false, [.slice none 0 0], .slice 5 1 1 [.int .u8 0]⟩),
 (24, ⟨4, true, [.slice none 0 0, .slice none 0 0, .slice none 0 0, .slice none 0 0], .struct [(0, 1, false), (1, 1, false), (2, 1, false), (3, 1, false)]⟩),
 (25, ⟨4, true, [.slice none 0 0, .slice none 0 0, .slice none 0 0, .slice none 0 0], .struct [(0, 1, false), (1, 1, false), (2, 1, false), (3, 1, false)]⟩),
 (26, ⟨1, false, [.nilFunc], .other⟩),
 (27, ⟨1, false, [.pointer none], .ptr⟩),
 (29, ⟨1, false, [.nilFunc], .other⟩),
 (30, ⟨1, false, [.slice none 0 0], .slice 38 3 40 [.slice none 0 0, .int .i64 0, .int .i64 0]⟩),
 (31, ⟨1, false, [.int .i64 0], .int .i64⟩),
 (33, ⟨1, false, [.nilFunc], .other⟩),
 (34, ⟨1, false, [.nilFunc], .other⟩),
 (35, ⟨2, true, [.int .i64 0, .int .i64 0], .struct [(0, 1, false), (1, 1, false)]⟩),
 (36, ⟨2, true, [.int .i64 0, .int .i64 0], .struct [(0, 1, false), (1, 1, false)]⟩),
 (37, ⟨3, true, [.slice none 0 0, .int .i64 0, .int .i64 0], .struct [(0, 1, false), (1, 2, true)]⟩),
 (38, ⟨3, true, [.slice none 0 0, .int .i64 0, .int .i64 0], .struct [(0, 1, false), (1, 2, true)]⟩),
 (39, ⟨1, false, [.nilFunc], .other⟩),
 (40, ⟨1, false, [.pointer none], .ptr⟩),
 (42, ⟨1, false, [.nilFunc], .other⟩),
 (43, ⟨1, false, [.pointer none], .ptr⟩),
 (44, ⟨1, false, [.nilFunc], .other⟩),
 (45, ⟨1, false, [.nilFunc], .other⟩),
 (47, ⟨1, false, [.nilFunc], .other⟩),
 (48, ⟨1, false, [.nilFunc], .other⟩),
 (49, ⟨1, true, [.pointer none], .struct [(0, 1, false)]⟩),
 (50, ⟨1, true, [.pointer none], .struct [(0, 1, false)]⟩),
 (51, ⟨1, false, [.nilFunc], .other⟩),
 (52, ⟨1, false, [.nilFunc], .other⟩),
 (53, ⟨1, false, [.nilFunc], .other⟩),
 (54, ⟨1, false, [.nilFunc], .other⟩),
 (55, ⟨1, false, [.pointer none], .ptr⟩),
 (57, ⟨1, false, [.nilFunc], .other⟩),
 (58, ⟨1, false, [.map none], .map (.int .i64) (.pointer none)⟩),
 (59, ⟨1, false, [.slice none 0 0], .slice 105 1 8 [.pointer none]⟩),
 (60, ⟨1, false, [.slice none 0 0], .slice 105 1 8 [.pointer none]⟩),
 (61, ⟨6, true, [.pointer none, .pointer none, .int .i64 0, .slice none 0 0, .map none, .int .i64 0], .struct [(0, 1, false), (1, 1, false), (2, 1, false), (3, 1, false), (4, 1, false), (5, 1, false)]⟩),
 (62, ⟨6, true, [.pointer none, .pointer none, .int .i64 0, .slice none 0 0, .map none, .int .i64 0], .struct [(0, 1, false), (1, 1, false), (2, 1, false), (3, 1, false), (4, 1, false), (5, 1, false)]⟩),
 (63, ⟨1, false, [.slice none 0 0], .slice 104 513 520 zT513⟩),
 (65, ⟨1, false, [.nilFunc], .other⟩),
 (66, ⟨1, false, [.nilFunc], .other⟩),
 (67, ⟨1, false, [.nilFunc], .other⟩),
 (68, ⟨1, false, [.map none], .map (.int .i64) (.agg ⟨(zB 64)⟩)⟩),
 (69, ⟨1, false, [.slice none 0 0], .slice 141 65 72 zT65⟩),
 (70, ⟨6, true, [.int .i64 0, .map none, .map none, .slice none 0 0, .bool false, .int .i64 0], .struct [(0, 1, false), (1, 1, false), (2, 1, false), (3, 1, false), (4, 1, false), (5, 1, false)]⟩),
 (71, ⟨6, true, [.int .i64 0, .map none, .map none, .slice none 0 0, .bool false, .int .i64 0], .struct [(0, 1, false), (1, 1, false), (2, 1, false), (3, 1, false), (4, 1, false), (5, 1, false)]⟩),
 (72, ⟨2, true, [.pointer none, .slice none 0 0], .struct [(0, 1, false), (1, 1, false)]⟩),
 (73, ⟨2, true, [.pointer none, .slice none 0 0], .struct [(0, 1, false), (1, 1, false)]⟩),
 (74, ⟨1, false, [.nilFunc], .other⟩),
 (75, ⟨1, false, [.nilFunc], .other⟩),
 (76, ⟨1, false, [.pointer none], .ptr⟩),
 (78, ⟨1, false, [.nilFunc], .other⟩),
 (79, ⟨1, false, [.slice none 0 0], .slice 86 4 48 [.slice none 0 0, .int .i64 0, .int .i64 0, .int .i64 0]⟩),
 (80, ⟨2, true, [.int .i64 0, .slice none 0 0], .struct [(0, 1, false), (1, 1, false)]⟩),
 (81, ⟨2, true, [.int .i64 0, .slice none 0 0], .struct [(0, 1, false), (1, 1, false)]⟩),
 (83, ⟨1, false, [.nilFunc], .other⟩),
 (84, ⟨1, false, [.nilFunc], .other⟩),
 (85, ⟨4, true, [.slice none 0 0, .int .i64 0, .int .i64 0, .int .i64 0], .struct [(0, 3, true), (3, 1, false)]⟩),
 (86, ⟨4, true, [.slice none 0 0, .int .i64 0, .int .i64 0, .int .i64 0], .struct [(0, 3, true), (3, 1, false)]⟩),
 (87, ⟨1, false, [.nilFunc], .other⟩),
 (88, ⟨1, false, [.int .u64 0], .int .u64⟩),
 (89, ⟨2, true, [.int .u64 0, .int .u64 0], .struct [(0, 1, false), (1, 1, false)]⟩),
 (90, ⟨2, true, [.int .u64 0, .int .u64 0], .struct [(0, 1, false), (1, 1, false)]⟩),
 (91, ⟨5, true, [.pointer none, .int .u64 0, .int .u64 0, .slice none 0 0, .int .i64 0], .struct [(0, 1, false), (1, 2, true), (3, 1, false), (4, 1, false)]⟩),
 (92, ⟨5, true, [.pointer none, .int .u64 0, .int .u64 0, .slice none 0 0, .int .i64 0], .struct [(0, 1, false), (1, 2, true), (3, 1, false), (4, 1, false)]⟩),
 (93, ⟨64, true, (zB 64), .barr 64⟩),
 (94, ⟨64, true, (zB 64), .barr 64⟩),
 (96, ⟨1, false, [.nilFunc], .other⟩),
 (97, ⟨1, false, [.nilFunc], .other⟩),
 (99, ⟨1, false, [.nilFunc], .other⟩),
 (100, ⟨1, false, [.int .u64 0], .int .u64⟩),
 (101, ⟨512, true, (zB 512), .barr 512⟩),
 (102, ⟨512, true, (zB 512), .barr 512⟩),
 (103, ⟨513, true, zT513, .struct [(0, 1, false), (1, 512, true)]⟩),
 (104, ⟨513, true, zT513, .struct [(0, 1, false), (1, 512, true)]⟩),
 (105, ⟨1, false, [.pointer none], .ptr⟩),
 (107, ⟨1, false, [.nilFunc], .other⟩),
 (108, ⟨516, true, zT516, .struct [(0, 1, false), (1, 512, true), (513, 1, false), (514, 1, false), (515, 1, false)]⟩),
 (109, ⟨516, true, zT516, .struct [(0, 1, false), (1, 512, true), (513, 1, false), (514, 1, false), (515, 1, false)]⟩),
 (110, ⟨1, false, [.nilFunc], .other⟩),
 (111, ⟨1, false, [.nilFunc], .other⟩),
 (113, ⟨1, false, [.nilFunc], .other⟩),
 (114, ⟨1, false, [.nilFunc], .other⟩),
 (115, ⟨1, false, [.nilFunc], .other⟩),
 (116, ⟨1, false, [.nilFunc], .other⟩),
 (118, ⟨1, false, [.nilFunc], .other⟩),
 (119, ⟨1, false, [.nilFunc], .other⟩),
 (120, ⟨1, false, [.nilFunc], .other⟩),
 (121, ⟨1, false, [.nilFunc], .other⟩),
 (122, ⟨1, false, [.nilFunc], .other⟩),
 (123, ⟨1, false, [.nilFunc], .other⟩),
 (125, ⟨1, false, [.nilFunc], .other⟩),
 (126, ⟨1, false, [.nilFunc], .other⟩),
 (128, ⟨1, false, [.nilFunc], .other⟩),
 (129, ⟨1, false, [.nilFunc], .other⟩),
 (131, ⟨1, false, [.nilFunc], .other⟩),
 (132, ⟨1, false, [.nilFunc], .other⟩),
 (133, ⟨1, false, [.nilFunc], .other⟩),
 (135, ⟨1, false, [.nilFunc], .other⟩),
 (136, ⟨1, false, [.nilFunc], .other⟩),
 (137, ⟨1, false, [.pointer none], .ptr⟩),
 (138, ⟨1, false, [.nilFunc], .other⟩),
 (139, ⟨1, false, [.nilFunc], .other⟩),
 (140, ⟨65, true, zT65, .struct [(0, 1, false), (1, 64, true)]⟩),
 (141, ⟨65, true, zT65, .struct [(0, 1, false), (1, 64, true)]⟩),
 (142, ⟨1, false, [.nilFunc], .other⟩),
 (143, ⟨1, false, [.nilFunc], .other⟩),
 (144, ⟨1, false, [.nilFunc], .other⟩),
 (146, ⟨1, false, [.nilFunc], .other⟩),
 (147, ⟨1, false, [.nilFunc], .other⟩),
 (148, ⟨1, false, [.nilFunc], .other⟩),
 (149, ⟨1, false, [.nilFunc], .other⟩),
 (150, ⟨1, false, [.nilFunc], .other⟩),
 (151, ⟨1, false, [.nilFunc], .other⟩),
 (152, ⟨1, false, [.nilFunc], .other⟩),
 (153, ⟨1, false, [.nilFunc], .other⟩),
 (154, ⟨1, false, [.nilFunc], .other⟩),
 (155, ⟨1, false, [.nilFunc], .other⟩),
 (158, ⟨1, false, [.nilFunc], .other⟩),
 (159, ⟨1, false, [.nilFunc], .other⟩),
 (160, ⟨1, false, [.nilFunc], .other⟩),
 (161, ⟨1, false, [.nilFunc], .other⟩),
 (162, ⟨1, false, [.nilFunc], .other⟩),
 (163, ⟨1, false, [.nilFunc], .other⟩),
 (164, ⟨1, false, [.nilFunc], .other⟩),
 (165, ⟨1, false, [.nilFunc], .other⟩),
 (166, ⟨1, false, [.nilFunc], .other⟩),
 (167, ⟨1, false, [.nilFunc], .other⟩),
 (168, ⟨1, false, [.slice none 0 0], .slice 3 1 8 [.int .i64 0]⟩),
 (169, ⟨1, false, [.nilFunc], .other⟩),
 (170, ⟨1, false, [.nilFunc], .other⟩),
 (171, ⟨1, false, [.int .u32 0], .int .u32⟩),
 (172, ⟨1, false, [.nilFunc], .other⟩),
 (173, ⟨1, false, [.nilFunc], .other⟩),
 (174, ⟨1, false, [.nilFunc], .other⟩),
 (182, ⟨1, false, [.nilFunc], .other⟩),
 (183, ⟨1, false, [.pointer none], .ptr⟩)]
def cxQ : List (TypeId × List EK) := [(36, [.int, .int]), (90, [.int, .int])]
def cxM : List (TypeId × String × FuncId × Option TypeId) := [(137, "Len", 113, some 60), (137, "Less", 114, some 60), (137, "Swap", 115, some 60), (137, "Pop", 116, none), (137, "Push", 117, none)]
def cx : Ctx := tabCtxM cxL [6000019, 6000007, 6300029, 2300030, 2300032, 2300093, 2300026] cxQ cxM
theorem cx_ok : cx.ok Try.prog := tabCtxM_ok (by kernel_rfl) (by kernel_rfl) (by kernel_rfl)
theorem dr_ok : DrawOk Try.prog (aDraw Try.prog cx) := aDraw_ok cx_ok (by kernel_rfl)
theorem cx_muts : cx.muts = [6000019, 6000007, 6300029, 2300030, 2300032, 2300093, 2300026] := nr rfl
theorem cx_1 : cx.ty 1 = some ⟨1, false, [.nilFunc], .other⟩ := nr rfl
theorem ck_1 : cx.kind 1 = some (.other) := nr rfl
theorem cx_2 : cx.ty 2 = some ⟨1, false, [.int .i64 0], .int .i64⟩ := nr rfl
theorem ck_2 : cx.kind 2 = some (.int .i64) := nr rfl
theorem cx_3 : cx.ty 3 = some ⟨1, false, [.int .i64 0], .int .i64⟩ := nr rfl
theorem ck_3 : cx.kind 3 = some (.int .i64) := nr rfl
theorem cx_4 : cx.ty 4 = some ⟨1, false, [.bool false], .bool⟩ := nr rfl
theorem ck_4 : cx.kind 4 = some (.bool) := nr rfl
theorem cx_5 : cx.ty 5 = some ⟨1, false, [.int .u8 0], .int .u8⟩ := nr rfl
theorem ck_5 : cx.kind 5 = some (.int .u8) := nr rfl
theorem cx_9 : cx.ty 9 = some ⟨1, false, [.string ⟨#[]⟩], .str⟩ := nr rfl
theorem ck_9 : cx.kind 9 = some (.str) := nr rfl
theorem cx_22 : cx.ty 22 = some ⟨1, false, [.slice none 0 0], .slice 23 1 24 [.slice none 0 0]⟩ := nr rfl
theorem ck_22 : cx.kind 22 = some (.slice 23 1 24 [.slice none 0 0]) := nr rfl
theorem ks_22 {e : Nat} {ls : List (List PV)} : lenA cx 22 (.p (.sl e ls)) = some ls.length := nr (len_sl ck_22)
theorem ko_22 {t e : Nat} {ls : List (List PV)} : lenA cx 22 (.own t e ls) = some ls.length := nr (len_own ck_22)
theorem kn_22 {t e : Nat} {ls : List (List PV)} : lenA cx 22 (.nown t e ls) = some ls.length := nr (len_nown ck_22)
theorem kz_22 : lenA cx 22 (.p (.v (.slice none 0 0))) = some 0 := nr (len_nil ck_22)
theorem km_22 {t e j n : Nat} : lenA cx 22 (.ms t e j n) = some n := nr (len_ms ck_22)
theorem kb_22 {t e j q n : Nat} : lenA cx 22 (.bs t e j q n) = some n := nr (len_bs ck_22)
theorem cx_23 : cx.ty 23 = some ⟨1, false, [.slice none 0 0], .slice 5 1 1 [.int .u8 0]⟩ := nr rfl
theorem ck_23 : cx.kind 23 = some (.slice 5 1 1 [.int .u8 0]) := nr rfl
theorem ks_23 {e : Nat} {ls : List (List PV)} : lenA cx 23 (.p (.sl e ls)) = some ls.length := nr (len_sl ck_23)
theorem ko_23 {t e : Nat} {ls : List (List PV)} : lenA cx 23 (.own t e ls) = some ls.length := nr (len_own ck_23)
theorem kn_23 {t e : Nat} {ls : List (List PV)} : lenA cx 23 (.nown t e ls) = some ls.length := nr (len_nown ck_23)
theorem kz_23 : lenA cx 23 (.p (.v (.slice none 0 0))) = some 0 := nr (len_nil ck_23)
theorem km_23 {t e j n : Nat} : lenA cx 23 (.ms t e j n) = some n := nr (len_ms ck_23)
theorem kb_23 {t e j q n : Nat} : lenA cx 23 (.bs t e j q n) = some n := nr (len_bs ck_23)
theorem cx_25 : cx.ty 25 = some ⟨4, true, [.slice none 0 0, .slice none 0 0, .slice none 0 0, .slice none 0 0], .struct [(0, 1, false), (1, 1, false), (2, 1, false), (3, 1, false)]⟩ := nr rfl
theorem ck_25 : cx.kind 25 = some (.struct [(0, 1, false), (1, 1, false), (2, 1, false), (3, 1, false)]) := nr rfl
theorem cx_27 : cx.ty 27 = some ⟨1, false, [.pointer none], .ptr⟩ := nr rfl
theorem ck_27 : cx.kind 27 = some (.ptr) := nr rfl
theorem cx_30 : cx.ty 30 = some ⟨1, false, [.slice none 0 0], .slice 38 3 40 [.slice none 0 0, .int .i64 0, .int .i64 0]⟩ := nr rfl
theorem ck_30 : cx.kind 30 = some (.slice 38 3 40 [.slice none 0 0, .int .i64 0, .int .i64 0]) := nr rfl
theorem ks_30 {e : Nat} {ls : List (List PV)} : lenA cx 30 (.p (.sl e ls)) = some ls.length := nr (len_sl ck_30)
theorem ko_30 {t e : Nat} {ls : List (List PV)} : lenA cx 30 (.own t e ls) = some ls.length := nr (len_own ck_30)
theorem kn_30 {t e : Nat} {ls : List (List PV)} : lenA cx 30 (.nown t e ls) = some ls.length := nr (len_nown ck_30)
theorem kz_30 : lenA cx 30 (.p (.v (.slice none 0 0))) = some 0 := nr (len_nil ck_30)
theorem km_30 {t e j n : Nat} : lenA cx 30 (.ms t e j n) = some n := nr (len_ms ck_30)
theorem kb_30 {t e j q n : Nat} : lenA cx 30 (.bs t e j q n) = some n := nr (len_bs ck_30)
theorem cx_31 : cx.ty 31 = some ⟨1, false, [.int .i64 0], .int .i64⟩ := nr rfl
theorem ck_31 : cx.kind 31 = some (.int .i64) := nr rfl
theorem cx_36 : cx.ty 36 = some ⟨2, true, [.int .i64 0, .int .i64 0], .struct [(0, 1, false), (1, 1, false)]⟩ := nr rfl
theorem ck_36 : cx.kind 36 = some (.struct [(0, 1, false), (1, 1, false)]) := nr rfl
theorem cx_38 : cx.ty 38 = some ⟨3, true, [.slice none 0 0, .int .i64 0, .int .i64 0], .struct [(0, 1, false), (1, 2, true)]⟩ := nr rfl
theorem ck_38 : cx.kind 38 = some (.struct [(0, 1, false), (1, 2, true)]) := nr rfl
theorem cx_40 : cx.ty 40 = some ⟨1, false, [.pointer none], .ptr⟩ := nr rfl
theorem ck_40 : cx.kind 40 = some (.ptr) := nr rfl
theorem cx_43 : cx.ty 43 = some ⟨1, false, [.pointer none], .ptr⟩ := nr rfl
theorem ck_43 : cx.kind 43 = some (.ptr) := nr rfl
theorem cx_50 : cx.ty 50 = some ⟨1, true, [.pointer none], .struct [(0, 1, false)]⟩ := nr rfl
theorem ck_50 : cx.kind 50 = some (.struct [(0, 1, false)]) := nr rfl
theorem cx_52 : cx.ty 52 = some ⟨1, false, [.nilFunc], .other⟩ := nr rfl
theorem ck_52 : cx.kind 52 = some (.other) := nr rfl
theorem cx_55 : cx.ty 55 = some ⟨1, false, [.pointer none], .ptr⟩ := nr rfl
theorem ck_55 : cx.kind 55 = some (.ptr) := nr rfl
theorem cx_58 : cx.ty 58 = some ⟨1, false, [.map none], .map (.int .i64) (.pointer none)⟩ := nr rfl
theorem ck_58 : cx.kind 58 = some (.map (.int .i64) (.pointer none)) := nr rfl
theorem cx_60 : cx.ty 60 = some ⟨1, false, [.slice none 0 0], .slice 105 1 8 [.pointer none]⟩ := nr rfl
theorem ck_60 : cx.kind 60 = some (.slice 105 1 8 [.pointer none]) := nr rfl
theorem ks_60 {e : Nat} {ls : List (List PV)} : lenA cx 60 (.p (.sl e ls)) = some ls.length := nr (len_sl ck_60)
theorem ko_60 {t e : Nat} {ls : List (List PV)} : lenA cx 60 (.own t e ls) = some ls.length := nr (len_own ck_60)
theorem kn_60 {t e : Nat} {ls : List (List PV)} : lenA cx 60 (.nown t e ls) = some ls.length := nr (len_nown ck_60)
theorem kz_60 : lenA cx 60 (.p (.v (.slice none 0 0))) = some 0 := nr (len_nil ck_60)
theorem km_60 {t e j n : Nat} : lenA cx 60 (.ms t e j n) = some n := nr (len_ms ck_60)
theorem kb_60 {t e j q n : Nat} : lenA cx 60 (.bs t e j q n) = some n := nr (len_bs ck_60)
theorem cx_62 : cx.ty 62 = some ⟨6, true, [.pointer none, .pointer none, .int .i64 0, .slice none 0 0, .map none, .int .i64 0], .struct [(0, 1, false), (1, 1, false), (2, 1, false), (3, 1, false), (4, 1, false), (5, 1, false)]⟩ := nr rfl
theorem ck_62 : cx.kind 62 = some (.struct [(0, 1, false), (1, 1, false), (2, 1, false), (3, 1, false), (4, 1, false), (5, 1, false)]) := nr rfl
theorem cx_63 : cx.ty 63 = some ⟨1, false, [.slice none 0 0], .slice 104 513 520 zT513⟩ := nr rfl
theorem ck_63 : cx.kind 63 = some (.slice 104 513 520 zT513) := nr rfl
theorem ks_63 {e : Nat} {ls : List (List PV)} : lenA cx 63 (.p (.sl e ls)) = some ls.length := nr (len_sl ck_63)
theorem ko_63 {t e : Nat} {ls : List (List PV)} : lenA cx 63 (.own t e ls) = some ls.length := nr (len_own ck_63)
theorem kn_63 {t e : Nat} {ls : List (List PV)} : lenA cx 63 (.nown t e ls) = some ls.length := nr (len_nown ck_63)
theorem kz_63 : lenA cx 63 (.p (.v (.slice none 0 0))) = some 0 := nr (len_nil ck_63)
theorem km_63 {t e j n : Nat} : lenA cx 63 (.ms t e j n) = some n := nr (len_ms ck_63)
theorem kb_63 {t e j q n : Nat} : lenA cx 63 (.bs t e j q n) = some n := nr (len_bs ck_63)
theorem cx_68 : cx.ty 68 = some ⟨1, false, [.map none], .map (.int .i64) (.agg ⟨(zB 64)⟩)⟩ := nr rfl
theorem ck_68 : cx.kind 68 = some (.map (.int .i64) (.agg ⟨(zB 64)⟩)) := nr rfl
theorem cx_69 : cx.ty 69 = some ⟨1, false, [.slice none 0 0], .slice 141 65 72 zT65⟩ := nr rfl
theorem ck_69 : cx.kind 69 = some (.slice 141 65 72 zT65) := nr rfl
theorem ks_69 {e : Nat} {ls : List (List PV)} : lenA cx 69 (.p (.sl e ls)) = some ls.length := nr (len_sl ck_69)
theorem ko_69 {t e : Nat} {ls : List (List PV)} : lenA cx 69 (.own t e ls) = some ls.length := nr (len_own ck_69)
theorem kn_69 {t e : Nat} {ls : List (List PV)} : lenA cx 69 (.nown t e ls) = some ls.length := nr (len_nown ck_69)
theorem kz_69 : lenA cx 69 (.p (.v (.slice none 0 0))) = some 0 := nr (len_nil ck_69)
theorem km_69 {t e j n : Nat} : lenA cx 69 (.ms t e j n) = some n := nr (len_ms ck_69)
theorem kb_69 {t e j q n : Nat} : lenA cx 69 (.bs t e j q n) = some n := nr (len_bs ck_69)
theorem cx_71 : cx.ty 71 = some ⟨6, true, [.int .i64 0, .map none, .map none, .slice none 0 0, .bool false, .int .i64 0], .struct [(0, 1, false), (1, 1, false), (2, 1, false), (3, 1, false), (4, 1, false), (5, 1, false)]⟩ := nr rfl
theorem ck_71 : cx.kind 71 = some (.struct [(0, 1, false), (1, 1, false), (2, 1, false), (3, 1, false), (4, 1, false), (5, 1, false)]) := nr rfl
theorem cx_73 : cx.ty 73 = some ⟨2, true, [.pointer none, .slice none 0 0], .struct [(0, 1, false), (1, 1, false)]⟩ := nr rfl
theorem ck_73 : cx.kind 73 = some (.struct [(0, 1, false), (1, 1, false)]) := nr rfl
theorem cx_76 : cx.ty 76 = some ⟨1, false, [.pointer none], .ptr⟩ := nr rfl
theorem ck_76 : cx.kind 76 = some (.ptr) := nr rfl
theorem cx_79 : cx.ty 79 = some ⟨1, false, [.slice none 0 0], .slice 86 4 48 [.slice none 0 0, .int .i64 0, .int .i64 0, .int .i64 0]⟩ := nr rfl
theorem ck_79 : cx.kind 79 = some (.slice 86 4 48 [.slice none 0 0, .int .i64 0, .int .i64 0, .int .i64 0]) := nr rfl
theorem ks_79 {e : Nat} {ls : List (List PV)} : lenA cx 79 (.p (.sl e ls)) = some ls.length := nr (len_sl ck_79)
theorem ko_79 {t e : Nat} {ls : List (List PV)} : lenA cx 79 (.own t e ls) = some ls.length := nr (len_own ck_79)
theorem kn_79 {t e : Nat} {ls : List (List PV)} : lenA cx 79 (.nown t e ls) = some ls.length := nr (len_nown ck_79)
theorem kz_79 : lenA cx 79 (.p (.v (.slice none 0 0))) = some 0 := nr (len_nil ck_79)
theorem km_79 {t e j n : Nat} : lenA cx 79 (.ms t e j n) = some n := nr (len_ms ck_79)
theorem kb_79 {t e j q n : Nat} : lenA cx 79 (.bs t e j q n) = some n := nr (len_bs ck_79)
theorem cx_81 : cx.ty 81 = some ⟨2, true, [.int .i64 0, .slice none 0 0], .struct [(0, 1, false), (1, 1, false)]⟩ := nr rfl
theorem ck_81 : cx.kind 81 = some (.struct [(0, 1, false), (1, 1, false)]) := nr rfl
theorem cx_86 : cx.ty 86 = some ⟨4, true, [.slice none 0 0, .int .i64 0, .int .i64 0, .int .i64 0], .struct [(0, 3, true), (3, 1, false)]⟩ := nr rfl
theorem ck_86 : cx.kind 86 = some (.struct [(0, 3, true), (3, 1, false)]) := nr rfl
theorem cx_88 : cx.ty 88 = some ⟨1, false, [.int .u64 0], .int .u64⟩ := nr rfl
theorem ck_88 : cx.kind 88 = some (.int .u64) := nr rfl
theorem cx_90 : cx.ty 90 = some ⟨2, true, [.int .u64 0, .int .u64 0], .struct [(0, 1, false), (1, 1, false)]⟩ := nr rfl
theorem ck_90 : cx.kind 90 = some (.struct [(0, 1, false), (1, 1, false)]) := nr rfl
theorem cx_92 : cx.ty 92 = some ⟨5, true, [.pointer none, .int .u64 0, .int .u64 0, .slice none 0 0, .int .i64 0], .struct [(0, 1, false), (1, 2, true), (3, 1, false), (4, 1, false)]⟩ := nr rfl
theorem ck_92 : cx.kind 92 = some (.struct [(0, 1, false), (1, 2, true), (3, 1, false), (4, 1, false)]) := nr rfl
theorem cx_94 : cx.ty 94 = some ⟨64, true, (zB 64), .barr 64⟩ := nr rfl
theorem ck_94 : cx.kind 94 = some (.barr 64) := nr rfl
theorem cx_100 : cx.ty 100 = some ⟨1, false, [.int .u64 0], .int .u64⟩ := nr rfl
theorem ck_100 : cx.kind 100 = some (.int .u64) := nr rfl
theorem cx_102 : cx.ty 102 = some ⟨512, true, (zB 512), .barr 512⟩ := nr rfl
theorem ck_102 : cx.kind 102 = some (.barr 512) := nr rfl
theorem cx_104 : cx.ty 104 = some ⟨513, true, zT513, .struct [(0, 1, false), (1, 512, true)]⟩ := nr rfl
theorem ck_104 : cx.kind 104 = some (.struct [(0, 1, false), (1, 512, true)]) := nr rfl
theorem cx_105 : cx.ty 105 = some ⟨1, false, [.pointer none], .ptr⟩ := nr rfl
theorem ck_105 : cx.kind 105 = some (.ptr) := nr rfl
theorem cx_109 : cx.ty 109 = some ⟨516, true, zT516, .struct [(0, 1, false), (1, 512, true), (513, 1, false), (514, 1, false), (515, 1, false)]⟩ := nr rfl
theorem ck_109 : cx.kind 109 = some (.struct [(0, 1, false), (1, 512, true), (513, 1, false), (514, 1, false), (515, 1, false)]) := nr rfl
theorem cx_120 : cx.ty 120 = some ⟨1, false, [.nilFunc], .other⟩ := nr rfl
theorem ck_120 : cx.kind 120 = some (.other) := nr rfl
theorem cx_137 : cx.ty 137 = some ⟨1, false, [.pointer none], .ptr⟩ := nr rfl
theorem ck_137 : cx.kind 137 = some (.ptr) := nr rfl
theorem cx_141 : cx.ty 141 = some ⟨65, true, zT65, .struct [(0, 1, false), (1, 64, true)]⟩ := nr rfl
theorem ck_141 : cx.kind 141 = some (.struct [(0, 1, false), (1, 64, true)]) := nr rfl
theorem cx_166 : cx.ty 166 = some ⟨1, false, [.nilFunc], .other⟩ := nr rfl
theorem ck_166 : cx.kind 166 = some (.other) := nr rfl
theorem cx_168 : cx.ty 168 = some ⟨1, false, [.slice none 0 0], .slice 3 1 8 [.int .i64 0]⟩ := nr rfl
theorem ck_168 : cx.kind 168 = some (.slice 3 1 8 [.int .i64 0]) := nr rfl
theorem ks_168 {e : Nat} {ls : List (List PV)} : lenA cx 168 (.p (.sl e ls)) = some ls.length := nr (len_sl ck_168)
theorem ko_168 {t e : Nat} {ls : List (List PV)} : lenA cx 168 (.own t e ls) = some ls.length := nr (len_own ck_168)
theorem kn_168 {t e : Nat} {ls : List (List PV)} : lenA cx 168 (.nown t e ls) = some ls.length := nr (len_nown ck_168)
theorem kz_168 : lenA cx 168 (.p (.v (.slice none 0 0))) = some 0 := nr (len_nil ck_168)
theorem km_168 {t e j n : Nat} : lenA cx 168 (.ms t e j n) = some n := nr (len_ms ck_168)
theorem kb_168 {t e j q n : Nat} : lenA cx 168 (.bs t e j q n) = some n := nr (len_bs ck_168)
theorem ce_36 : cx.eqs 36 = some [.int, .int] := nr rfl
theorem ce_90 : cx.eqs 90 = some [.int, .int] := nr rfl
theorem cx_arr : True := trivial
theorem aa {p q : Prop} (h : p) (k : q) : p ∧ q := ⟨h, k⟩
def T1 := aa ck_1 cx_1
def T2 := aa ck_2 cx_2
def T3 := aa ck_3 cx_3
def T4 := aa ck_4 cx_4
def T5 := aa ck_5 cx_5
def T9 := aa ck_9 cx_9
def T22 := aa ck_22 <| aa cx_22 <| aa @ks_22 <| aa @ko_22 <| aa @kn_22 <| aa @km_22 <| aa @kb_22 kz_22
def T23 := aa ck_23 <| aa cx_23 <| aa @ks_23 <| aa @ko_23 <| aa @kn_23 <| aa @km_23 <| aa @kb_23 kz_23
def T25 := aa ck_25 cx_25
theorem kp_27 {x : AV} : mkIA cx 27 x = some (.dyn 27 x) := nr (mk_ptr ck_27)
theorem ka_27 {a : AV} : asIA cx 27 false (.dyn 27 a) = some a := nr (as_ptr ck_27)
def T27 := aa ck_27 <| aa cx_27 <| aa @kp_27 @ka_27
def T30 := aa ck_30 <| aa cx_30 <| aa @ks_30 <| aa @ko_30 <| aa @kn_30 <| aa @km_30 <| aa @kb_30 kz_30
def T31 := aa ck_31 cx_31
def T36 := aa ck_36 <| aa cx_36 ce_36
def T38 := aa ck_38 cx_38
theorem kp_40 {x : AV} : mkIA cx 40 x = some (.dyn 40 x) := nr (mk_ptr ck_40)
theorem ka_40 {a : AV} : asIA cx 40 false (.dyn 40 a) = some a := nr (as_ptr ck_40)
def T40 := aa ck_40 <| aa cx_40 <| aa @kp_40 @ka_40
theorem kp_43 {x : AV} : mkIA cx 43 x = some (.dyn 43 x) := nr (mk_ptr ck_43)
theorem ka_43 {a : AV} : asIA cx 43 false (.dyn 43 a) = some a := nr (as_ptr ck_43)
def T43 := aa ck_43 <| aa cx_43 <| aa @kp_43 @ka_43
def T50 := aa ck_50 cx_50
def T52 := aa ck_52 cx_52
theorem kp_55 {x : AV} : mkIA cx 55 x = some (.dyn 55 x) := nr (mk_ptr ck_55)
theorem ka_55 {a : AV} : asIA cx 55 false (.dyn 55 a) = some a := nr (as_ptr ck_55)
def T55 := aa ck_55 <| aa cx_55 <| aa @kp_55 @ka_55
def T58 := aa ck_58 cx_58
def T60 := aa ck_60 <| aa cx_60 <| aa @ks_60 <| aa @ko_60 <| aa @kn_60 <| aa @km_60 <| aa @kb_60 kz_60
def T62 := aa ck_62 cx_62
def T63 := aa ck_63 <| aa cx_63 <| aa @ks_63 <| aa @ko_63 <| aa @kn_63 <| aa @km_63 <| aa @kb_63 kz_63
def T68 := aa ck_68 cx_68
def T69 := aa ck_69 <| aa cx_69 <| aa @ks_69 <| aa @ko_69 <| aa @kn_69 <| aa @km_69 <| aa @kb_69 kz_69
def T71 := aa ck_71 cx_71
def T73 := aa ck_73 cx_73
theorem kp_76 {x : AV} : mkIA cx 76 x = some (.dyn 76 x) := nr (mk_ptr ck_76)
theorem ka_76 {a : AV} : asIA cx 76 false (.dyn 76 a) = some a := nr (as_ptr ck_76)
def T76 := aa ck_76 <| aa cx_76 <| aa @kp_76 @ka_76
def T79 := aa ck_79 <| aa cx_79 <| aa @ks_79 <| aa @ko_79 <| aa @kn_79 <| aa @km_79 <| aa @kb_79 kz_79
def T81 := aa ck_81 cx_81
def T86 := aa ck_86 cx_86
def T88 := aa ck_88 cx_88
def T90 := aa ck_90 <| aa cx_90 ce_90
def T92 := aa ck_92 cx_92
theorem kr_94 {t e i o n : Nat} : arrPA cx 94 (.bs t e i o n) = if 64 ≤ n then some (.mp t e i o) else none := nr (arr_bs ck_94)
theorem kS_94 {x : AV} {lo hi : Option AV} : sliceA cx 94 x lo hi = (match x, boundA lo 0, boundA hi (64 : Nat) with
 | .mp t e i o, some l, some h => if 0 ≤ l ∧ l < h ∧ h ≤ ((64 : Nat) : Int) then some (.bs t e i (o + l.toNat) (h.toNat - l.toNat)) else none
 | _, _, _ => none) := nr (slice_arr ck_94)
def T94 := aa ck_94 <| aa cx_94 <| aa @kr_94 @kS_94
def T100 := aa ck_100 cx_100
theorem kr_102 {t e i o n : Nat} : arrPA cx 102 (.bs t e i o n) = if 512 ≤ n then some (.mp t e i o) else none := nr (arr_bs ck_102)
theorem kS_102 {x : AV} {lo hi : Option AV} : sliceA cx 102 x lo hi = (match x, boundA lo 0, boundA hi (512 : Nat) with
 | .mp t e i o, some l, some h => if 0 ≤ l ∧ l < h ∧ h ≤ ((512 : Nat) : Int) then some (.bs t e i (o + l.toNat) (h.toNat - l.toNat)) else none
 | _, _, _ => none) := nr (slice_arr ck_102)
def T102 := aa ck_102 <| aa cx_102 <| aa @kr_102 @kS_102
def T104 := aa ck_104 cx_104
theorem kp_105 {x : AV} : mkIA cx 105 x = some (.dyn 105 x) := nr (mk_ptr ck_105)
theorem ka_105 {a : AV} : asIA cx 105 false (.dyn 105 a) = some a := nr (as_ptr ck_105)
def T105 := aa ck_105 <| aa cx_105 <| aa @kp_105 @ka_105
def T109 := aa ck_109 cx_109
def T120 := aa ck_120 cx_120
theorem kp_137 {x : AV} : mkIA cx 137 x = some (.dyn 137 x) := nr (mk_ptr ck_137)
theorem ka_137 {a : AV} : asIA cx 137 false (.dyn 137 a) = some a := nr (as_ptr ck_137)
def T137 := aa ck_137 <| aa cx_137 <| aa @kp_137 @ka_137
def T141 := aa ck_141 cx_141
def T166 := aa ck_166 cx_166
def T168 := aa ck_168 <| aa cx_168 <| aa @ks_168 <| aa @ko_168 <| aa @kn_168 <| aa @km_168 <| aa @kb_168 kz_168
theorem ci_0 {a : AV} {args : List AV} {σ : St} {K : AV → St → Prop} : aInv Try.prog cx (.dyn 137 a) "Len" args σ K = recvK Try.prog 113 (loadA ⟨1, false, [.slice none 0 0], .slice 105 1 8 [.pointer none]⟩ a σ) args σ K := nr (inv_val (by kernel_rfl) cx_60)
theorem ci_1 {a : AV} {args : List AV} {σ : St} {K : AV → St → Prop} : aInv Try.prog cx (.dyn 137 a) "Less" args σ K = recvK Try.prog 114 (loadA ⟨1, false, [.slice none 0 0], .slice 105 1 8 [.pointer none]⟩ a σ) args σ K := nr (inv_val (by kernel_rfl) cx_60)
theorem ci_2 {a : AV} {args : List AV} {σ : St} {K : AV → St → Prop} : aInv Try.prog cx (.dyn 137 a) "Swap" args σ K = recvK Try.prog 115 (loadA ⟨1, false, [.slice none 0 0], .slice 105 1 8 [.pointer none]⟩ a σ) args σ K := nr (inv_val (by kernel_rfl) cx_60)
theorem ci_3 {a : AV} {args : List AV} {σ : St} {K : AV → St → Prop} : aInv Try.prog cx (.dyn 137 a) "Pop" args σ K = ACalls Try.prog 116 (a :: args) σ K := nr (inv_ptr (by kernel_rfl))
theorem ci_4 {a : AV} {args : List AV} {σ : St} {K : AV → St → Prop} : aInv Try.prog cx (.dyn 137 a) "Push" args σ K = ACalls Try.prog 117 (a :: args) σ K := nr (inv_ptr (by kernel_rfl))
theorem wX : (type_of% @wBB) ∧ (type_of% @wBC) ∧ (type_of% @cx_muts) ∧ (type_of% @cx_arr) ∧ (type_of% @wBD) ∧ (type_of% @wBE) ∧ (type_of% @ci_0) ∧ (type_of% @ci_1) ∧ (type_of% @ci_2) ∧ (type_of% @ci_3) ∧ (type_of% @ci_4) := ⟨wBB, wBC, cx_muts, cx_arr, wBD, wBE, @ci_0, @ci_1, @ci_2, @ci_3, @ci_4⟩
end Go.Proofs.Ytockimhceppkbaa
namespace Go.Proofs.Ytockimhceppkbaa
open Go.RowKit
theorem ACalls.of_calls {P : Program} {f : FuncId} {args : List AV} {σ : St} {R : AV → Prop} (hen : Enters P f)
 (h : ∀ (M : View) (vs : List Value), Match M σ → ARepL M args vs → Calls P f vs.toArray M.w fun e w' => ∃ (v : Value) (r : AV) (J : Nat → Nat → Prop), e = .returned v ∧ Below M.w.heap.size M.w w' ∧ (∀ b o, J b o → M.w.heap.size ≤ b ∧ b < w'.heap.size) ∧ ARep { M with w := w', I := fun b o => M.I b o ∨ J b o } r v ∧ R r) :
 ACalls P f args σ fun r σ' => σ' = σ ∧ R r := by
 refine ⟨hen, fun M vs hM hv => (h M vs hM hv).mono ?_⟩
 rintro e w' ⟨v, r, J, rfl, hb, hJ, hr, hR⟩
 let M' : View := { M with w := w', I := fun b o => M.I b o ∨ J b o }
 have hcell : ∀ b o, M.I b o → M'.w.cell? ⟨b, o, none⟩ = M.w.cell? ⟨b, o, none⟩ := fun b o ho => hb.cell (p := ⟨b, o, none⟩) (hM.imm b o ho)
 have hL : Later M M' := ⟨fun _ _ h h' => ⟨h, h', rfl⟩, own_same (fun _ => rfl) (fun _ => rfl) (fun _ => rfl), fun _ _ h => .inl h, hcell⟩
 have hI : ∀ b o, b < M.w.heap.size → M'.I b o → M.I b o := fun b o hlt ho => by
  rcases ho with ho | ho
  ·exact ho
  ·have := (hJ b o ho).1; omega
 have hE : Ext M σ M' σ := ⟨hL.mu, hL.own, hL.imm, hcell, fun b hlt _ => ⟨hb.block b hlt, fun o => hI b o hlt⟩, fun t ob b h1 h2 => .inr ⟨t, ob, h1, h2⟩, hb.size, hb.os, hb.tape, hb.output⟩
 refine ⟨v, r, σ, M', rfl, rfl, hE, ?_, hr, Nat.le_refl _, rfl, hR⟩
 refine ⟨fun t ob ht => (hM.obj t ob ht).later hL rfl rfl rfl fun b hbb => ⟨hb.block b (hM.lt t b hbb), fun o => hI b o (hM.lt t b hbb)⟩, hM.inj, hM.fresh, fun t b hbb => Nat.lt_of_lt_of_le (hM.lt t b hbb) hb.size, fun b o ho => ?_, hM.glob.ext hE⟩
 rcases ho with ho | ho
 ·exact Nat.lt_of_lt_of_le (hM.imm b o ho) hb.size
 ·exact (hJ b o ho).2
def byteP (b : UInt8) : PV := .v (.int .u8 b.toNat)
def encB (r : List UInt8) : List (List PV) := r.map fun b => [byteP b]
def BX (x : PV) (r : List UInt8) : Prop := x = .sl 1 (encB r) ∨ (x = .v (.slice none 0 0) ∧ r = [])
def pageC (l : List UInt8) : List AV := l.map fun b => .p (byteP b)
def pageA (l : List UInt8) : AV := .agg (pageC l)
theorem pageC_len (l : List UInt8) : (pageC l).length = l.length := by simp [pageC]
theorem pageC_leaf (l : List UInt8) : (pageC l).all leaf = true := by simp [pageC, leaf]
theorem byteOf_byteP (b : UInt8) : byteOfV (.int .u8 b.toNat) = some b := by
 have h : (b.toNat : Int) < 256 := by have := b.toNat_lt; omega
 simp [byteOfV, h]
theorem bytesOf_page : ∀ l : List UInt8, bytesOfA (pageC l) = some l
 | [] => rfl
 | b :: l => by
   have := bytesOf_page l
   simp only [pageC, byteP] at this
   simp only [pageC, List.map_cons, bytesOfA, byteOfA, byteP, byteOf_byteP, this]
theorem bytesOf_enc : ∀ r : List UInt8, bytesOfR (encB r) = some r
 | [] => rfl
 | b :: r => by
   have := bytesOf_enc r
   simp only [encB, byteP] at this
   simp only [encB, List.map_cons, bytesOfR, byteP, byteOf_byteP, this]
def recP : Option (List UInt8) → PV
 | none => .v (.slice none 0 0)
 | some r => .sl 1 (encB r)
section
variable {M : View}
theorem pageC_rep {l : List UInt8} {us : List Value} (h : ARepL M (pageC l) us) : us = bytesL l := by
 rw [bytesOfA_rep (bytesOf_page l) h]
 rfl
theorem page_rep {l : List UInt8} {u : Value} (h : ARep M (pageA l) u) : u = .agg (bytesA l) := by
 simp only [pageA, ARep] at h
 obtain ⟨_, us, rfl, h⟩ := h
 rw [pageC_rep h]
theorem page_mk (l : List UInt8) : ARep M (pageA l) (.agg (bytesA l)) := by
 simp only [pageA, ARep]
 refine ⟨pageC_leaf l, bytesL l, rfl, ARepL_iff.2 ⟨by simp [pageC, bytesL], fun i x u hx hu => ?_⟩⟩
 simp only [pageC, bytesL, List.getElem?_map] at hx hu
 cases hl : l[i]? with
 | none => rw [hl] at hx; simp at hx
 | some b =>
   rw [hl] at hx hu
   simp at hx hu
   subst hx hu
   exact rep_mk rfl
theorem rep1 {a : AV} {vs : List Value} (h : ARepL M [a] vs) : ∃ u, vs = [u] ∧ ARep M a u := by
 simp only [ARepL] at h
 obtain ⟨u, us, rfl, h1, rfl⟩ := h
 exact ⟨u, rfl, h1⟩
theorem rep2 {a b : AV} {vs : List Value} (h : ARepL M [a, b] vs) : ∃ u v, vs = [u, v] ∧ ARep M a u ∧ ARep M b v := by
 simp only [ARepL] at h
 obtain ⟨u, us, rfl, h1, v, us', rfl, h2, rfl⟩ := h
 exact ⟨u, v, rfl, h1, h2⟩
theorem tup2 {a b : AV} {u v : Value} (h1 : ARep M a u) (h2 : ARep M b v) : ARep M (.tup [a, b]) (.tuple #[u, v]) := by
 simp only [ARep, ARepL]; exact ⟨[u, v], rfl, u, [v], rfl, h1, v, [], rfl, h2, rfl⟩
theorem tup3 {a b c : AV} {u v w : Value} (h1 : ARep M a u) (h2 : ARep M b v) (h3 : ARep M c w) : ARep M (.tup [a, b, c]) (.tuple #[u, v, w]) := by
 simp only [ARep, ARepL]; exact ⟨[u, v, w], rfl, u, [v, w], rfl, h1, v, [w], rfl, h2, w, [], rfl, h3, rfl⟩
theorem bytes_of_cells {w : World} {b off cap : Nat} {r : List UInt8} (h : ∀ (j : Nat) (c : UInt8), r[j]? = some c → w.cell? ⟨b, off + j, none⟩ = some (.int .u8 c.toNat)) : ByteS w (.slice (some ⟨b, off, none⟩) r.length cap) r := by
 refine ⟨some ⟨b, off, none⟩, cap, rfl, .inr ⟨_, rfl, fun j u hj => ?_⟩⟩
 rw [Addr.add_mid]
 simp only [bytesL, List.getElem?_map] at hj
 cases hc : r[j]? with
 | none => rw [hc] at hj; simp at hj
 | some c => rw [hc] at hj; simp at hj; subst hj; exact h j c hc
theorem BX.bytes {x : PV} {r : List UInt8} {u : Value} (h : BX x r) (hu : ARep M (.p x) u) : ByteS M.w u r := by
 rcases h with rfl | ⟨rfl, rfl⟩
 ·simp only [ARep, PRep] at hu
  obtain ⟨h0, ad, cap, rfl, hn⟩ | ⟨b, off, cap, rfl, hcap, hr⟩ := hu
  ·have hr0 : r = [] := by simpa [encB] using h0
   subst hr0
   cases ad with
   | none => exact ⟨none, cap, rfl, .inl ⟨rfl, rfl, hn rfl⟩⟩
   | some ad => exact ⟨some ad, cap, rfl, .inr ⟨_, rfl, fun j u hj => by simp [bytesL] at hj⟩⟩
  rw [show (encB r).length = r.length by simp [encB]]
  refine bytes_of_cells fun j c hc => ?_
  obtain ⟨_, h2⟩ := hr.get (i := j) (c := [byteP c]) (by simp [encB, hc])
  obtain ⟨v, h3, _, h4⟩ := h2.get (j := 0) rfl
  simp only [byteP, PRep] at h4
  rw [h4.2] at h3
  simpa using h3
 ·have := (rep_v hu).2; subst this
  exact ⟨none, 0, rfl, .inl ⟨rfl, rfl, rfl⟩⟩
theorem rec_rep {w' : World} {base : Nat} {v : Value} {o : Option (List UInt8)} (h : Rec w' base v o) : ∃ J : Nat → Nat → Prop, (∀ b q, J b q → base ≤ b ∧ b < w'.heap.size) ∧ ARep { M with w := w', I := fun b q => M.I b q ∨ J b q } (.p (recP o)) v := by
 cases o with
 | none =>
   simp only [Rec] at h; subst h
   exact ⟨fun _ _ => False, fun _ _ h => h.elim, rep_mk rfl⟩
 | some r =>
   obtain ⟨ho, g, cap, rfl⟩ := h
   rcases ho.2 with ⟨h1, _⟩ | ⟨g', cap', cur, h1, hg, hh, hnc, hcm, hcs, ht⟩
   ·simp at h1
   ·simp only [Value.slice.injEq, Option.some.injEq, Addr.mk.injEq, and_true, true_and] at h1
    obtain ⟨rfl, rfl⟩ := h1
    refine ⟨fun b q => b = g ∧ q < r.length, fun b q h => ⟨by omega, by rw [h.1]; exact (Array.getElem?_eq_some_iff.1 hh).1⟩, ?_⟩
    simp only [recP, ARep, PRep]
    refine .inr ⟨g, 0, cap, by simp [encB], by simpa [encB] using hnc, PRepR.of_get fun i c hc => ?_⟩
    simp only [encB, List.getElem?_map] at hc
    cases hr : r[i]? with
    | none => rw [hr] at hc; simp at hc
    | some b =>
      rw [hr] at hc; simp at hc; subst hc
      have hi := (List.getElem?_eq_some_iff.1 hr).1
      refine ⟨rfl, PRepC.of_get fun j x hx => ?_⟩
      cases j with
      | succ j => simp at hx
      | zero =>
        simp at hx; subst hx
        refine ⟨.int .u8 b.toNat, ?_, .inr ⟨rfl, by omega⟩, by simp only [byteP, PRep]; exact ⟨rfl, trivial⟩⟩
        have := ho.cells (g := g) rfl i (.int .u8 b.toNat) (by simp [bytesL, byteV, hr])
        rw [Addr.add_mid] at this
        simpa using this
end
theorem en (f : FuncId) (h : (Try.prog.funcs[f]?).any (fun fn => !(fn.name == "runtime.NumGoroutine") && fn.body.isSome) = true) : Enters Try.prog f := by
 cases hf : Try.prog.funcs[f]? with
 | none => rw [hf] at h; simp at h
 | some fn =>
   rw [hf] at h
   simp only [Option.any_some, Bool.and_eq_true, Bool.not_eq_true'] at h
   exact ⟨fn, hf, h.1, by cases hb : fn.body <;> simp_all⟩
theorem anew (k : Int) (σ : St) : ACalls Try.prog 43 [intV .i64 k] σ fun r σ' => σ' = σ ∧ r = pageA (newL k) :=
 ACalls.of_calls (en _ (by kernel_rfl)) fun M vs hM hv => by
  obtain ⟨u, rfl, h1⟩ := rep1 hv
  rw [rep_int h1]
  exact (new_any k _).mono fun e w' ⟨h1, h2⟩ => ⟨_, _, fun _ _ => False, h1, h2, fun _ _ h => h.elim, page_mk _, rfl⟩
theorem anslots (l : List UInt8) (hl : l.length = 512) (σ : St) : ACalls Try.prog 52 [pageA l] σ fun r σ' => σ' = σ ∧ r = intV .i64 ((slotsL l).length : Nat) :=
 ACalls.of_calls (en _ (by kernel_rfl)) fun M vs hM hv => by
  obtain ⟨u, rfl, h1⟩ := rep1 hv
  rw [page_rep h1]
  exact (nslots_any l _ hl).mono fun e w' ⟨h1, h2⟩ => ⟨_, _, fun _ _ => False, h1, h2, fun _ _ h => h.elim, rep_mk rfl, rfl⟩
theorem aget (l : List UInt8) (k : Int) (hl : l.length = 512) (σ : St) : ACalls Try.prog 53 [pageA l, intV .i64 k] σ fun r σ' => σ' = σ ∧ r = .tup [.p (recP (getL l k)), boolV (getL l k).isSome] :=
 ACalls.of_calls (en _ (by kernel_rfl)) fun M vs hM hv => by
  obtain ⟨u, v, rfl, h1, h2⟩ := rep2 hv
  rw [page_rep h1, rep_int h2]
  refine (get_any l k _ hl).mono ?_
  rintro e w' ⟨v, rfl, hr, hb⟩
  obtain ⟨J, h3, h5⟩ := rec_rep (M := M) hr
  exact ⟨_, _, J, rfl, hb, h3, tup2 h5 (rep_mk rfl), rfl⟩
theorem aaddP (l r : List UInt8) (x : PV) (hl : l.length = 512) (hx : BX x r) (hrl : r.length ≤ 140737488351232) (σ : St) : ACalls Try.prog 67 [pageA l, .p x] σ fun r' σ' => σ' = σ ∧ r' = .tup [pageA (addL l r).1, intV .i64 (addL l r).2.1, boolV (addL l r).2.2] :=
 ACalls.of_calls (en _ (by kernel_rfl)) fun M vs hM hv => by
  obtain ⟨u, v, rfl, h1, h2⟩ := rep2 hv
  rw [page_rep h1]
  exact (add_any l r v _ hl (hx.bytes h2) hrl).mono fun e w' ⟨h1, h2⟩ => ⟨_, _, fun _ _ => False, h1, h2, fun _ _ h => h.elim, tup3 (page_mk _) (rep_mk rfl) (rep_mk rfl), rfl⟩
end Go.Proofs.Ytockimhceppkbaa
namespace Go.Proofs.Ytockimhceppkbaa
open Go.RowKit
theorem bu_len {C : Ctx} {tk : Nat} {T : TypeId} {x : AV} {σ : St} : builtinA C tk .len [T] [x] σ = (lenA C T x).map fun (n : Nat) => (intV .i64 (n : Int), σ) := nr rfl
end Go.Proofs.Ytockimhceppkbaa
