/- The table of types of this program, for the abstract machine. -/
import Derived.Test.YtpfdbjmojbhnmaaM18
import Derived.Test.YtpfdbjmojbhnmaaRows
set_option linter.unusedSimpArgs false
set_option linter.unusedVariables false
set_option linter.defProp false
set_option maxRecDepth 100000
set_option maxHeartbeats 32000000
namespace Go.Proofs.Ytpfdbjmojbhnmaa
def zT513 : List Value := [.int .i64 0] ++ zB 512
theorem zT513_len : (zeroA zT513).length = 513 := by simp only [zT513, zeroA, zB, List.length_map, List.length_append, List.length_replicate, List.length_cons, List.length_nil]
def zT65 : List Value := [.int .i64 0] ++ zB 64
theorem zT65_len : (zeroA zT65).length = 65 := by simp only [zT65, zeroA, zB, List.length_map, List.length_append, List.length_replicate, List.length_cons, List.length_nil]
def zT516 : List Value := [.int .i64 0] ++ zB 512 ++ [.bool false] ++ [.int .i64 0, .int .i64 0]
theorem zT516_len : (zeroA zT516).length = 516 := by simp only [zT516, zeroA, zB, List.length_map, List.length_append, List.length_replicate, List.length_cons, List.length_nil]
def cxL : List (TypeId × TI) := [
 (1, ⟨1, false, [.nilFunc], .other⟩),
 (2, ⟨1, false, [.int .i64 0], .int .i64⟩),
 (3, ⟨1, false, [.int .i64 0], .int .i64⟩),
 (4, ⟨1, false, [.bool false], .bool⟩),
 (5, ⟨1, false, [.int .u8 0], .int .u8⟩),
 (9, ⟨1, false, [.string ⟨#[]⟩], .str⟩),
 (12, ⟨1, false, [.int .u64 0], .int .u64⟩),
 (13, ⟨2, true, [.string ⟨#[]⟩, .int .u64 0], .struct [(0, 1, false), (1, 1, false)]⟩),
 (19, ⟨1, true, [.pointer none], .struct [(0, 1, false)]⟩),
 (21, ⟨1, false, [.int .i32 0], .int .i32⟩),
 (22, ⟨1, false, [.slice none 0 0], .slice 39 1 24 [.slice none 0 0]⟩),
 (23, ⟨1, false, [.nilFunc], .other⟩),
 (24, ⟨1, false, [.pointer none], .ptr⟩),
 (25, ⟨1, false, [.int .i64 0], .int .i64⟩),
 (27, ⟨1, false, [.nilFunc], .other⟩),
 (28, ⟨1, false, [.pointer none], .ptr⟩),
 (29, ⟨1, false, [.nilFunc], .other⟩),
 (30, ⟨1, false, [.pointer none], .ptr⟩),
 (31, ⟨1, false, [.nilFunc], .other⟩),
 (33, ⟨1, false, [.nilFunc], .other⟩),
 (34, ⟨512, true, (zB 512), .barr 512⟩),
 (35, ⟨512, true, (zB 512), .barr 512⟩),
 (37, ⟨1, false, [.nilFunc], .other⟩),
 (38, ⟨1, false, [.nilFunc], .other⟩),
 (39, ⟨1, false, [.slice none 0 0], .slice 5 1 1 [.int .u8 0]⟩),
 (40, ⟨1, false, [.nilFunc], .other⟩),
 (42, ⟨1, false, [.nilFunc], .other⟩),
 (43, ⟨1, false, [.nilFunc], .other⟩),
 (44, ⟨1, false, [.nilFunc], .other⟩),
 (45, ⟨1, false, [.nilFunc], .other⟩),
 (46, ⟨1, false, [.slice none 0 0], .slice 4 1 1 [.bool false]⟩),
 (47, ⟨1, false, [.nilFunc], .other⟩),
 (48, ⟨1, false, [.nilFunc], .other⟩),
 (49, ⟨1, false, [.nilFunc], .other⟩),
 (50, ⟨1, false, [.slice none 0 0], .slice 3 1 8 [.int .i64 0]⟩),
 (51, ⟨1, false, [.slice none 0 0], .slice 35 512 512 (zB 512)⟩),
 (52, ⟨1, false, [.nilFunc], .other⟩),
 (53, ⟨1, false, [.nilFunc], .other⟩),
 (54, ⟨1, false, [.pointer none], .ptr⟩),
 (56, ⟨1, false, [.nilFunc], .other⟩),
 (57, ⟨1, false, [.map none], .map (.int .i64) (.pointer none)⟩),
 (58, ⟨1, false, [.slice none 0 0], .slice 84 1 8 [.pointer none]⟩),
 (59, ⟨1, false, [.slice none 0 0], .slice 84 1 8 [.pointer none]⟩),
 (60, ⟨6, true, [.pointer none, .pointer none, .int .i64 0, .slice none 0 0, .map none, .int .i64 0], .struct [(0, 1, false), (1, 1, false), (2, 1, false), (3, 1, false), (4, 1, false), (5, 1, false)]⟩),
 (61, ⟨6, true, [.pointer none, .pointer none, .int .i64 0, .slice none 0 0, .map none, .int .i64 0], .struct [(0, 1, false), (1, 1, false), (2, 1, false), (3, 1, false), (4, 1, false), (5, 1, false)]⟩),
 (62, ⟨1, false, [.slice none 0 0], .slice 83 513 520 zT513⟩),
 (64, ⟨1, false, [.nilFunc], .other⟩),
 (65, ⟨1, false, [.nilFunc], .other⟩),
 (66, ⟨1, false, [.map none], .map (.int .i64) (.agg ⟨(zB 64)⟩)⟩),
 (67, ⟨1, false, [.slice none 0 0], .slice 96 65 72 zT65⟩),
 (68, ⟨6, true, [.int .i64 0, .map none, .map none, .slice none 0 0, .bool false, .int .i64 0], .struct [(0, 1, false), (1, 1, false), (2, 1, false), (3, 1, false), (4, 1, false), (5, 1, false)]⟩),
 (69, ⟨6, true, [.int .i64 0, .map none, .map none, .slice none 0 0, .bool false, .int .i64 0], .struct [(0, 1, false), (1, 1, false), (2, 1, false), (3, 1, false), (4, 1, false), (5, 1, false)]⟩),
 (70, ⟨2, true, [.pointer none, .slice none 0 0], .struct [(0, 1, false), (1, 1, false)]⟩),
 (71, ⟨2, true, [.pointer none, .slice none 0 0], .struct [(0, 1, false), (1, 1, false)]⟩),
 (73, ⟨1, false, [.nilFunc], .other⟩),
 (74, ⟨1, false, [.nilFunc], .other⟩),
 (75, ⟨1, false, [.nilFunc], .other⟩),
 (76, ⟨1, false, [.nilFunc], .other⟩),
 (77, ⟨1, false, [.nilFunc], .other⟩),
 (79, ⟨1, false, [.nilFunc], .other⟩),
 (80, ⟨1, false, [.nilFunc], .other⟩),
 (81, ⟨1, false, [.nilFunc], .other⟩),
 (82, ⟨513, true, zT513, .struct [(0, 1, false), (1, 512, true)]⟩),
 (83, ⟨513, true, zT513, .struct [(0, 1, false), (1, 512, true)]⟩),
 (84, ⟨1, false, [.pointer none], .ptr⟩),
 (86, ⟨1, false, [.nilFunc], .other⟩),
 (87, ⟨516, true, zT516, .struct [(0, 1, false), (1, 512, true), (513, 1, false), (514, 1, false), (515, 1, false)]⟩),
 (88, ⟨516, true, zT516, .struct [(0, 1, false), (1, 512, true), (513, 1, false), (514, 1, false), (515, 1, false)]⟩),
 (89, ⟨1, false, [.nilFunc], .other⟩),
 (90, ⟨1, false, [.nilFunc], .other⟩),
 (91, ⟨1, false, [.nilFunc], .other⟩),
 (92, ⟨1, false, [.nilFunc], .other⟩),
 (93, ⟨64, true, (zB 64), .barr 64⟩),
 (94, ⟨64, true, (zB 64), .barr 64⟩),
 (95, ⟨65, true, zT65, .struct [(0, 1, false), (1, 64, true)]⟩),
 (96, ⟨65, true, zT65, .struct [(0, 1, false), (1, 64, true)]⟩),
 (97, ⟨1, false, [.int .u64 0], .int .u64⟩),
 (98, ⟨2, true, [.int .u64 0, .int .u64 0], .struct [(0, 1, false), (1, 1, false)]⟩),
 (99, ⟨2, true, [.int .u64 0, .int .u64 0], .struct [(0, 1, false), (1, 1, false)]⟩),
 (100, ⟨5, true, [.pointer none, .int .u64 0, .int .u64 0, .slice none 0 0, .int .i64 0], .struct [(0, 1, false), (1, 2, true), (3, 1, false), (4, 1, false)]⟩),
 (101, ⟨5, true, [.pointer none, .int .u64 0, .int .u64 0, .slice none 0 0, .int .i64 0], .struct [(0, 1, false), (1, 2, true), (3, 1, false), (4, 1, false)]⟩),
 (103, ⟨1, false, [.nilFunc], .other⟩),
 (104, ⟨1, false, [.nilFunc], .other⟩),
 (106, ⟨1, false, [.nilFunc], .other⟩),
 (107, ⟨1, false, [.int .u64 0], .int .u64⟩),
 (109, ⟨1, false, [.nilFunc], .other⟩),
 (110, ⟨1, false, [.nilFunc], .other⟩),
 (111, ⟨1, false, [.nilFunc], .other⟩),
 (112, ⟨1, false, [.nilFunc], .other⟩),
 (113, ⟨1, false, [.nilFunc], .other⟩),
 (114, ⟨1, false, [.nilFunc], .other⟩),
 (115, ⟨1, false, [.nilFunc], .other⟩),
 (117, ⟨1, false, [.nilFunc], .other⟩),
 (118, ⟨1, false, [.nilFunc], .other⟩),
 (119, ⟨1, false, [.pointer none], .ptr⟩),
 (120, ⟨1, false, [.nilFunc], .other⟩),
 (121, ⟨1, false, [.nilFunc], .other⟩),
 (122, ⟨1, false, [.nilFunc], .other⟩),
 (123, ⟨1, false, [.nilFunc], .other⟩),
 (124, ⟨1, false, [.nilFunc], .other⟩),
 (125, ⟨1, false, [.int .u32 0], .int .u32⟩),
 (126, ⟨1, false, [.nilFunc], .other⟩),
 (127, ⟨1, false, [.nilFunc], .other⟩),
 (130, ⟨1, false, [.nilFunc], .other⟩),
 (131, ⟨1, false, [.nilFunc], .other⟩),
 (132, ⟨1, false, [.nilFunc], .other⟩),
 (133, ⟨1, false, [.nilFunc], .other⟩),
 (134, ⟨1, false, [.nilFunc], .other⟩),
 (142, ⟨1, false, [.nilFunc], .other⟩),
 (143, ⟨1, false, [.pointer none], .ptr⟩)]
def cxQ : List (TypeId × List EK) := [(99, [.int, .int])]
def cxM : List (TypeId × String × FuncId × Option TypeId) := [(119, "Len", 87, some 59), (119, "Less", 88, some 59), (119, "Swap", 89, some 59), (119, "Pop", 90, none), (119, "Push", 91, none)]
def cx : Ctx := tabCtxM cxL [5900019, 5900007, 6200029, 3900030, 3900032, 3900093, 3900026] cxQ cxM
theorem cx_ok : cx.ok Try.prog := tabCtxM_ok (by kernel_rfl) (by kernel_rfl) (by kernel_rfl)
theorem dr_ok : DrawOk Try.prog (aDraw Try.prog cx) := aDraw_ok cx_ok (by kernel_rfl)
theorem cx_muts : cx.muts = [5900019, 5900007, 6200029, 3900030, 3900032, 3900093, 3900026] := nr rfl
theorem cx_2 : cx.ty 2 = some ⟨1, false, [.int .i64 0], .int .i64⟩ := nr rfl
theorem ck_2 : cx.kind 2 = some (.int .i64) := nr rfl
theorem cx_3 : cx.ty 3 = some ⟨1, false, [.int .i64 0], .int .i64⟩ := nr rfl
theorem ck_3 : cx.kind 3 = some (.int .i64) := nr rfl
theorem cx_4 : cx.ty 4 = some ⟨1, false, [.bool false], .bool⟩ := nr rfl
theorem ck_4 : cx.kind 4 = some (.bool) := nr rfl
theorem cx_5 : cx.ty 5 = some ⟨1, false, [.int .u8 0], .int .u8⟩ := nr rfl
theorem ck_5 : cx.kind 5 = some (.int .u8) := nr rfl
theorem cx_22 : cx.ty 22 = some ⟨1, false, [.slice none 0 0], .slice 39 1 24 [.slice none 0 0]⟩ := nr rfl
theorem ck_22 : cx.kind 22 = some (.slice 39 1 24 [.slice none 0 0]) := nr rfl
theorem ks_22 {e : Nat} {ls : List (List PV)} : lenA cx 22 (.p (.sl e ls)) = some ls.length := nr (len_sl ck_22)
theorem ko_22 {t e : Nat} {ls : List (List PV)} : lenA cx 22 (.own t e ls) = some ls.length := nr (len_own ck_22)
theorem kn_22 {t e : Nat} {ls : List (List PV)} : lenA cx 22 (.nown t e ls) = some ls.length := nr (len_nown ck_22)
theorem kz_22 : lenA cx 22 (.p (.v (.slice none 0 0))) = some 0 := nr (len_nil ck_22)
theorem km_22 {t e j n : Nat} : lenA cx 22 (.ms t e j n) = some n := nr (len_ms ck_22)
theorem kb_22 {t e j q n : Nat} : lenA cx 22 (.bs t e j q n) = some n := nr (len_bs ck_22)
theorem cx_24 : cx.ty 24 = some ⟨1, false, [.pointer none], .ptr⟩ := nr rfl
theorem ck_24 : cx.kind 24 = some (.ptr) := nr rfl
theorem cx_25 : cx.ty 25 = some ⟨1, false, [.int .i64 0], .int .i64⟩ := nr rfl
theorem ck_25 : cx.kind 25 = some (.int .i64) := nr rfl
theorem cx_28 : cx.ty 28 = some ⟨1, false, [.pointer none], .ptr⟩ := nr rfl
theorem ck_28 : cx.kind 28 = some (.ptr) := nr rfl
theorem cx_30 : cx.ty 30 = some ⟨1, false, [.pointer none], .ptr⟩ := nr rfl
theorem ck_30 : cx.kind 30 = some (.ptr) := nr rfl
theorem cx_35 : cx.ty 35 = some ⟨512, true, (zB 512), .barr 512⟩ := nr rfl
theorem ck_35 : cx.kind 35 = some (.barr 512) := nr rfl
theorem cx_39 : cx.ty 39 = some ⟨1, false, [.slice none 0 0], .slice 5 1 1 [.int .u8 0]⟩ := nr rfl
theorem ck_39 : cx.kind 39 = some (.slice 5 1 1 [.int .u8 0]) := nr rfl
theorem ks_39 {e : Nat} {ls : List (List PV)} : lenA cx 39 (.p (.sl e ls)) = some ls.length := nr (len_sl ck_39)
theorem ko_39 {t e : Nat} {ls : List (List PV)} : lenA cx 39 (.own t e ls) = some ls.length := nr (len_own ck_39)
theorem kn_39 {t e : Nat} {ls : List (List PV)} : lenA cx 39 (.nown t e ls) = some ls.length := nr (len_nown ck_39)
theorem kz_39 : lenA cx 39 (.p (.v (.slice none 0 0))) = some 0 := nr (len_nil ck_39)
theorem km_39 {t e j n : Nat} : lenA cx 39 (.ms t e j n) = some n := nr (len_ms ck_39)
theorem kb_39 {t e j q n : Nat} : lenA cx 39 (.bs t e j q n) = some n := nr (len_bs ck_39)
theorem cx_46 : cx.ty 46 = some ⟨1, false, [.slice none 0 0], .slice 4 1 1 [.bool false]⟩ := nr rfl
theorem ck_46 : cx.kind 46 = some (.slice 4 1 1 [.bool false]) := nr rfl
theorem ks_46 {e : Nat} {ls : List (List PV)} : lenA cx 46 (.p (.sl e ls)) = some ls.length := nr (len_sl ck_46)
theorem ko_46 {t e : Nat} {ls : List (List PV)} : lenA cx 46 (.own t e ls) = some ls.length := nr (len_own ck_46)
theorem kn_46 {t e : Nat} {ls : List (List PV)} : lenA cx 46 (.nown t e ls) = some ls.length := nr (len_nown ck_46)
theorem kz_46 : lenA cx 46 (.p (.v (.slice none 0 0))) = some 0 := nr (len_nil ck_46)
theorem km_46 {t e j n : Nat} : lenA cx 46 (.ms t e j n) = some n := nr (len_ms ck_46)
theorem kb_46 {t e j q n : Nat} : lenA cx 46 (.bs t e j q n) = some n := nr (len_bs ck_46)
theorem cx_50 : cx.ty 50 = some ⟨1, false, [.slice none 0 0], .slice 3 1 8 [.int .i64 0]⟩ := nr rfl
theorem ck_50 : cx.kind 50 = some (.slice 3 1 8 [.int .i64 0]) := nr rfl
theorem ks_50 {e : Nat} {ls : List (List PV)} : lenA cx 50 (.p (.sl e ls)) = some ls.length := nr (len_sl ck_50)
theorem ko_50 {t e : Nat} {ls : List (List PV)} : lenA cx 50 (.own t e ls) = some ls.length := nr (len_own ck_50)
theorem kn_50 {t e : Nat} {ls : List (List PV)} : lenA cx 50 (.nown t e ls) = some ls.length := nr (len_nown ck_50)
theorem kz_50 : lenA cx 50 (.p (.v (.slice none 0 0))) = some 0 := nr (len_nil ck_50)
theorem km_50 {t e j n : Nat} : lenA cx 50 (.ms t e j n) = some n := nr (len_ms ck_50)
theorem kb_50 {t e j q n : Nat} : lenA cx 50 (.bs t e j q n) = some n := nr (len_bs ck_50)
theorem cx_51 : cx.ty 51 = some ⟨1, false, [.slice none 0 0], .slice 35 512 512 (zB 512)⟩ := nr rfl
theorem ck_51 : cx.kind 51 = some (.slice 35 512 512 (zB 512)) := nr rfl
theorem ks_51 {e : Nat} {ls : List (List PV)} : lenA cx 51 (.p (.sl e ls)) = some ls.length := nr (len_sl ck_51)
theorem ko_51 {t e : Nat} {ls : List (List PV)} : lenA cx 51 (.own t e ls) = some ls.length := nr (len_own ck_51)
theorem kn_51 {t e : Nat} {ls : List (List PV)} : lenA cx 51 (.nown t e ls) = some ls.length := nr (len_nown ck_51)
theorem kz_51 : lenA cx 51 (.p (.v (.slice none 0 0))) = some 0 := nr (len_nil ck_51)
theorem km_51 {t e j n : Nat} : lenA cx 51 (.ms t e j n) = some n := nr (len_ms ck_51)
theorem kb_51 {t e j q n : Nat} : lenA cx 51 (.bs t e j q n) = some n := nr (len_bs ck_51)
theorem cx_54 : cx.ty 54 = some ⟨1, false, [.pointer none], .ptr⟩ := nr rfl
theorem ck_54 : cx.kind 54 = some (.ptr) := nr rfl
theorem cx_57 : cx.ty 57 = some ⟨1, false, [.map none], .map (.int .i64) (.pointer none)⟩ := nr rfl
theorem ck_57 : cx.kind 57 = some (.map (.int .i64) (.pointer none)) := nr rfl
theorem cx_59 : cx.ty 59 = some ⟨1, false, [.slice none 0 0], .slice 84 1 8 [.pointer none]⟩ := nr rfl
theorem ck_59 : cx.kind 59 = some (.slice 84 1 8 [.pointer none]) := nr rfl
theorem ks_59 {e : Nat} {ls : List (List PV)} : lenA cx 59 (.p (.sl e ls)) = some ls.length := nr (len_sl ck_59)
theorem ko_59 {t e : Nat} {ls : List (List PV)} : lenA cx 59 (.own t e ls) = some ls.length := nr (len_own ck_59)
theorem kn_59 {t e : Nat} {ls : List (List PV)} : lenA cx 59 (.nown t e ls) = some ls.length := nr (len_nown ck_59)
theorem kz_59 : lenA cx 59 (.p (.v (.slice none 0 0))) = some 0 := nr (len_nil ck_59)
theorem km_59 {t e j n : Nat} : lenA cx 59 (.ms t e j n) = some n := nr (len_ms ck_59)
theorem kb_59 {t e j q n : Nat} : lenA cx 59 (.bs t e j q n) = some n := nr (len_bs ck_59)
theorem cx_61 : cx.ty 61 = some ⟨6, true, [.pointer none, .pointer none, .int .i64 0, .slice none 0 0, .map none, .int .i64 0], .struct [(0, 1, false), (1, 1, false), (2, 1, false), (3, 1, false), (4, 1, false), (5, 1, false)]⟩ := nr rfl
theorem ck_61 : cx.kind 61 = some (.struct [(0, 1, false), (1, 1, false), (2, 1, false), (3, 1, false), (4, 1, false), (5, 1, false)]) := nr rfl
theorem cx_62 : cx.ty 62 = some ⟨1, false, [.slice none 0 0], .slice 83 513 520 zT513⟩ := nr rfl
theorem ck_62 : cx.kind 62 = some (.slice 83 513 520 zT513) := nr rfl
theorem ks_62 {e : Nat} {ls : List (List PV)} : lenA cx 62 (.p (.sl e ls)) = some ls.length := nr (len_sl ck_62)
theorem ko_62 {t e : Nat} {ls : List (List PV)} : lenA cx 62 (.own t e ls) = some ls.length := nr (len_own ck_62)
theorem kn_62 {t e : Nat} {ls : List (List PV)} : lenA cx 62 (.nown t e ls) = some ls.length := nr (len_nown ck_62)
theorem kz_62 : lenA cx 62 (.p (.v (.slice none 0 0))) = some 0 := nr (len_nil ck_62)
theorem km_62 {t e j n : Nat} : lenA cx 62 (.ms t e j n) = some n := nr (len_ms ck_62)
theorem kb_62 {t e j q n : Nat} : lenA cx 62 (.bs t e j q n) = some n := nr (len_bs ck_62)
theorem cx_66 : cx.ty 66 = some ⟨1, false, [.map none], .map (.int .i64) (.agg ⟨(zB 64)⟩)⟩ := nr rfl
theorem ck_66 : cx.kind 66 = some (.map (.int .i64) (.agg ⟨(zB 64)⟩)) := nr rfl
theorem cx_67 : cx.ty 67 = some ⟨1, false, [.slice none 0 0], .slice 96 65 72 zT65⟩ := nr rfl
theorem ck_67 : cx.kind 67 = some (.slice 96 65 72 zT65) := nr rfl
theorem ks_67 {e : Nat} {ls : List (List PV)} : lenA cx 67 (.p (.sl e ls)) = some ls.length := nr (len_sl ck_67)
theorem ko_67 {t e : Nat} {ls : List (List PV)} : lenA cx 67 (.own t e ls) = some ls.length := nr (len_own ck_67)
theorem kn_67 {t e : Nat} {ls : List (List PV)} : lenA cx 67 (.nown t e ls) = some ls.length := nr (len_nown ck_67)
theorem kz_67 : lenA cx 67 (.p (.v (.slice none 0 0))) = some 0 := nr (len_nil ck_67)
theorem km_67 {t e j n : Nat} : lenA cx 67 (.ms t e j n) = some n := nr (len_ms ck_67)
theorem kb_67 {t e j q n : Nat} : lenA cx 67 (.bs t e j q n) = some n := nr (len_bs ck_67)
theorem cx_69 : cx.ty 69 = some ⟨6, true, [.int .i64 0, .map none, .map none, .slice none 0 0, .bool false, .int .i64 0], .struct [(0, 1, false), (1, 1, false), (2, 1, false), (3, 1, false), (4, 1, false), (5, 1, false)]⟩ := nr rfl
theorem ck_69 : cx.kind 69 = some (.struct [(0, 1, false), (1, 1, false), (2, 1, false), (3, 1, false), (4, 1, false), (5, 1, false)]) := nr rfl
theorem cx_71 : cx.ty 71 = some ⟨2, true, [.pointer none, .slice none 0 0], .struct [(0, 1, false), (1, 1, false)]⟩ := nr rfl
theorem ck_71 : cx.kind 71 = some (.struct [(0, 1, false), (1, 1, false)]) := nr rfl
theorem cx_83 : cx.ty 83 = some ⟨513, true, zT513, .struct [(0, 1, false), (1, 512, true)]⟩ := nr rfl
theorem ck_83 : cx.kind 83 = some (.struct [(0, 1, false), (1, 512, true)]) := nr rfl
theorem cx_84 : cx.ty 84 = some ⟨1, false, [.pointer none], .ptr⟩ := nr rfl
theorem ck_84 : cx.kind 84 = some (.ptr) := nr rfl
theorem cx_88 : cx.ty 88 = some ⟨516, true, zT516, .struct [(0, 1, false), (1, 512, true), (513, 1, false), (514, 1, false), (515, 1, false)]⟩ := nr rfl
theorem ck_88 : cx.kind 88 = some (.struct [(0, 1, false), (1, 512, true), (513, 1, false), (514, 1, false), (515, 1, false)]) := nr rfl
theorem cx_94 : cx.ty 94 = some ⟨64, true, (zB 64), .barr 64⟩ := nr rfl
theorem ck_94 : cx.kind 94 = some (.barr 64) := nr rfl
theorem cx_96 : cx.ty 96 = some ⟨65, true, zT65, .struct [(0, 1, false), (1, 64, true)]⟩ := nr rfl
theorem ck_96 : cx.kind 96 = some (.struct [(0, 1, false), (1, 64, true)]) := nr rfl
theorem cx_97 : cx.ty 97 = some ⟨1, false, [.int .u64 0], .int .u64⟩ := nr rfl
theorem ck_97 : cx.kind 97 = some (.int .u64) := nr rfl
theorem cx_99 : cx.ty 99 = some ⟨2, true, [.int .u64 0, .int .u64 0], .struct [(0, 1, false), (1, 1, false)]⟩ := nr rfl
theorem ck_99 : cx.kind 99 = some (.struct [(0, 1, false), (1, 1, false)]) := nr rfl
theorem cx_101 : cx.ty 101 = some ⟨5, true, [.pointer none, .int .u64 0, .int .u64 0, .slice none 0 0, .int .i64 0], .struct [(0, 1, false), (1, 2, true), (3, 1, false), (4, 1, false)]⟩ := nr rfl
theorem ck_101 : cx.kind 101 = some (.struct [(0, 1, false), (1, 2, true), (3, 1, false), (4, 1, false)]) := nr rfl
theorem cx_115 : cx.ty 115 = some ⟨1, false, [.nilFunc], .other⟩ := nr rfl
theorem ck_115 : cx.kind 115 = some (.other) := nr rfl
theorem cx_119 : cx.ty 119 = some ⟨1, false, [.pointer none], .ptr⟩ := nr rfl
theorem ck_119 : cx.kind 119 = some (.ptr) := nr rfl
theorem ce_99 : cx.eqs 99 = some [.int, .int] := nr rfl
theorem cx_arr : True := trivial
theorem aa {p q : Prop} (h : p) (k : q) : p ∧ q := ⟨h, k⟩
def T2 := aa ck_2 cx_2
def T3 := aa ck_3 cx_3
def T4 := aa ck_4 cx_4
def T5 := aa ck_5 cx_5
def T22 := aa ck_22 <| aa cx_22 <| aa @ks_22 <| aa @ko_22 <| aa @kn_22 <| aa @km_22 <| aa @kb_22 kz_22
theorem kp_24 {x : AV} : mkIA cx 24 x = some (.dyn 24 x) := nr (mk_ptr ck_24)
theorem ka_24 {a : AV} : asIA cx 24 false (.dyn 24 a) = some a := nr (as_ptr ck_24)
def T24 := aa ck_24 <| aa cx_24 <| aa @kp_24 @ka_24
def T25 := aa ck_25 cx_25
theorem kp_28 {x : AV} : mkIA cx 28 x = some (.dyn 28 x) := nr (mk_ptr ck_28)
theorem ka_28 {a : AV} : asIA cx 28 false (.dyn 28 a) = some a := nr (as_ptr ck_28)
def T28 := aa ck_28 <| aa cx_28 <| aa @kp_28 @ka_28
theorem kp_30 {x : AV} : mkIA cx 30 x = some (.dyn 30 x) := nr (mk_ptr ck_30)
theorem ka_30 {a : AV} : asIA cx 30 false (.dyn 30 a) = some a := nr (as_ptr ck_30)
def T30 := aa ck_30 <| aa cx_30 <| aa @kp_30 @ka_30
theorem kr_35 {t e i o n : Nat} : arrPA cx 35 (.bs t e i o n) = if 512 ≤ n then some (.mp t e i o) else none := nr (arr_bs ck_35)
theorem kS_35 {x : AV} {lo hi : Option AV} : sliceA cx 35 x lo hi = (match x, boundA lo 0, boundA hi (512 : Nat) with
 | .mp t e i o, some l, some h => if 0 ≤ l ∧ l < h ∧ h ≤ ((512 : Nat) : Int) then some (.bs t e i (o + l.toNat) (h.toNat - l.toNat)) else none
 | _, _, _ => none) := nr (slice_arr ck_35)
def T35 := aa ck_35 <| aa cx_35 <| aa @kr_35 @kS_35
def T39 := aa ck_39 <| aa cx_39 <| aa @ks_39 <| aa @ko_39 <| aa @kn_39 <| aa @km_39 <| aa @kb_39 kz_39
def T46 := aa ck_46 <| aa cx_46 <| aa @ks_46 <| aa @ko_46 <| aa @kn_46 <| aa @km_46 <| aa @kb_46 kz_46
def T50 := aa ck_50 <| aa cx_50 <| aa @ks_50 <| aa @ko_50 <| aa @kn_50 <| aa @km_50 <| aa @kb_50 kz_50
def T51 := aa ck_51 <| aa cx_51 <| aa @ks_51 <| aa @ko_51 <| aa @kn_51 <| aa @km_51 <| aa @kb_51 kz_51
theorem kp_54 {x : AV} : mkIA cx 54 x = some (.dyn 54 x) := nr (mk_ptr ck_54)
theorem ka_54 {a : AV} : asIA cx 54 false (.dyn 54 a) = some a := nr (as_ptr ck_54)
def T54 := aa ck_54 <| aa cx_54 <| aa @kp_54 @ka_54
def T57 := aa ck_57 cx_57
def T59 := aa ck_59 <| aa cx_59 <| aa @ks_59 <| aa @ko_59 <| aa @kn_59 <| aa @km_59 <| aa @kb_59 kz_59
def T61 := aa ck_61 cx_61
def T62 := aa ck_62 <| aa cx_62 <| aa @ks_62 <| aa @ko_62 <| aa @kn_62 <| aa @km_62 <| aa @kb_62 kz_62
def T66 := aa ck_66 cx_66
def T67 := aa ck_67 <| aa cx_67 <| aa @ks_67 <| aa @ko_67 <| aa @kn_67 <| aa @km_67 <| aa @kb_67 kz_67
def T69 := aa ck_69 cx_69
def T71 := aa ck_71 cx_71
def T83 := aa ck_83 cx_83
theorem kp_84 {x : AV} : mkIA cx 84 x = some (.dyn 84 x) := nr (mk_ptr ck_84)
theorem ka_84 {a : AV} : asIA cx 84 false (.dyn 84 a) = some a := nr (as_ptr ck_84)
def T84 := aa ck_84 <| aa cx_84 <| aa @kp_84 @ka_84
def T88 := aa ck_88 cx_88
theorem kr_94 {t e i o n : Nat} : arrPA cx 94 (.bs t e i o n) = if 64 ≤ n then some (.mp t e i o) else none := nr (arr_bs ck_94)
theorem kS_94 {x : AV} {lo hi : Option AV} : sliceA cx 94 x lo hi = (match x, boundA lo 0, boundA hi (64 : Nat) with
 | .mp t e i o, some l, some h => if 0 ≤ l ∧ l < h ∧ h ≤ ((64 : Nat) : Int) then some (.bs t e i (o + l.toNat) (h.toNat - l.toNat)) else none
 | _, _, _ => none) := nr (slice_arr ck_94)
def T94 := aa ck_94 <| aa cx_94 <| aa @kr_94 @kS_94
def T96 := aa ck_96 cx_96
def T97 := aa ck_97 cx_97
def T99 := aa ck_99 <| aa cx_99 ce_99
def T101 := aa ck_101 cx_101
def T115 := aa ck_115 cx_115
theorem kp_119 {x : AV} : mkIA cx 119 x = some (.dyn 119 x) := nr (mk_ptr ck_119)
theorem ka_119 {a : AV} : asIA cx 119 false (.dyn 119 a) = some a := nr (as_ptr ck_119)
def T119 := aa ck_119 <| aa cx_119 <| aa @kp_119 @ka_119
theorem ci_0 {a : AV} {args : List AV} {σ : St} {K : AV → St → Prop} : aInv Try.prog cx (.dyn 119 a) "Len" args σ K = recvK Try.prog 87 (loadA ⟨1, false, [.slice none 0 0], .slice 84 1 8 [.pointer none]⟩ a σ) args σ K := nr (inv_val (by kernel_rfl) cx_59)
theorem ci_1 {a : AV} {args : List AV} {σ : St} {K : AV → St → Prop} : aInv Try.prog cx (.dyn 119 a) "Less" args σ K = recvK Try.prog 88 (loadA ⟨1, false, [.slice none 0 0], .slice 84 1 8 [.pointer none]⟩ a σ) args σ K := nr (inv_val (by kernel_rfl) cx_59)
theorem ci_2 {a : AV} {args : List AV} {σ : St} {K : AV → St → Prop} : aInv Try.prog cx (.dyn 119 a) "Swap" args σ K = recvK Try.prog 89 (loadA ⟨1, false, [.slice none 0 0], .slice 84 1 8 [.pointer none]⟩ a σ) args σ K := nr (inv_val (by kernel_rfl) cx_59)
theorem ci_3 {a : AV} {args : List AV} {σ : St} {K : AV → St → Prop} : aInv Try.prog cx (.dyn 119 a) "Pop" args σ K = ACalls Try.prog 90 (a :: args) σ K := nr (inv_ptr (by kernel_rfl))
theorem ci_4 {a : AV} {args : List AV} {σ : St} {K : AV → St → Prop} : aInv Try.prog cx (.dyn 119 a) "Push" args σ K = ACalls Try.prog 91 (a :: args) σ K := nr (inv_ptr (by kernel_rfl))
theorem wX : (type_of% @wBB) ∧ (type_of% @wBC) ∧ (type_of% @cx_muts) ∧ (type_of% @cx_arr) ∧ (type_of% @wBD) ∧ (type_of% @wBE) ∧ (type_of% @ci_0) ∧ (type_of% @ci_1) ∧ (type_of% @ci_2) ∧ (type_of% @ci_3) ∧ (type_of% @ci_4) := ⟨wBB, wBC, cx_muts, cx_arr, wBD, wBE, @ci_0, @ci_1, @ci_2, @ci_3, @ci_4⟩
end Go.Proofs.Ytpfdbjmojbhnmaa
