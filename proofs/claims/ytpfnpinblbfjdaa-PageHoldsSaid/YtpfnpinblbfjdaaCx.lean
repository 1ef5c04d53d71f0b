/- The table of types of this program, for the abstract machine. -/
import Derived.Test.YtpfnpinblbfjdaaAvT
import Derived.Test.YtpfnpinblbfjdaaRows
namespace Go.Proofs.Ytpfnpinblbfjdaa
def cxL : List (TypeId × TI) := [
  (1, ⟨1, false, [.nilFunc], .other⟩),
  (2, ⟨1, false, [.int .i64 0], .int .i64⟩),
  (3, ⟨1, false, [.int .i64 0], .int .i64⟩),
  (4, ⟨1, false, [.bool false], .bool⟩),
  (5, ⟨1, false, [.int .u8 0], .int .u8⟩),
  (9, ⟨1, false, [.string ⟨#[]⟩], .str⟩),
  (12, ⟨1, false, [.int .u64 0], .int .u64⟩),
  (13, ⟨2, true, [.string ⟨#[]⟩, .int .u64 0], .struct [(0, 1, false), (1, 1, false)]⟩),
  (19, ⟨1, true, [.pointer none], .struct [(0, 1, false)]⟩),
  (21, ⟨1, false, [.int .i32 0], .int .i32⟩),
  (22, ⟨1, false, [.int .u16 0], .int .u16⟩),
  (23, ⟨1, false, [.nilFunc], .other⟩),
  (24, ⟨1, false, [.slice none 0 0], .slice 5 1 1 [.int .u8 0]⟩),
  (25, ⟨512, true, (zB 512), .barr 512⟩),
  (26, ⟨512, true, (zB 512), .barr 512⟩),
  (27, ⟨1, false, [.nilFunc], .other⟩),
  (28, ⟨1, false, [.nilFunc], .other⟩),
  (30, ⟨1, false, [.nilFunc], .other⟩),
  (32, ⟨1, false, [.nilFunc], .other⟩),
  (33, ⟨1, false, [.nilFunc], .other⟩),
  (34, ⟨1, false, [.slice none 0 0], .slice 24 1 24 [.slice none 0 0]⟩),
  (36, ⟨1, false, [.nilFunc], .other⟩),
  (37, ⟨1, false, [.nilFunc], .other⟩),
  (38, ⟨1, false, [.nilFunc], .other⟩),
  (39, ⟨1, false, [.slice none 0 0], .slice 45 3 40 [.int .i64 0, .int .i64 0, .slice none 0 0]⟩),
  (40, ⟨1, false, [.slice none 0 0], .slice 65 2 32 [.bool false, .slice none 0 0]⟩),
  (41, ⟨2, true, [.int .i64 0, .slice none 0 0], .struct [(0, 1, false), (1, 1, false)]⟩),
  (42, ⟨2, true, [.int .i64 0, .slice none 0 0], .struct [(0, 1, false), (1, 1, false)]⟩),
  (43, ⟨1, false, [.nilFunc], .other⟩),
  (44, ⟨3, true, [.int .i64 0, .int .i64 0, .slice none 0 0], .struct [(0, 1, false), (1, 1, false), (2, 1, false)]⟩),
  (45, ⟨3, true, [.int .i64 0, .int .i64 0, .slice none 0 0], .struct [(0, 1, false), (1, 1, false), (2, 1, false)]⟩),
  (47, ⟨1, false, [.nilFunc], .other⟩),
  (48, ⟨1, false, [.nilFunc], .other⟩),
  (50, ⟨1, false, [.nilFunc], .other⟩),
  (51, ⟨1, false, [.nilFunc], .other⟩),
  (52, ⟨1, false, [.nilFunc], .other⟩),
  (53, ⟨1, false, [.nilFunc], .other⟩),
  (54, ⟨1, false, [.nilFunc], .other⟩),
  (55, ⟨1, false, [.int .u64 0], .int .u64⟩),
  (56, ⟨1, false, [.nilFunc], .other⟩),
  (57, ⟨1, false, [.nilFunc], .other⟩),
  (58, ⟨1, false, [.nilFunc], .other⟩),
  (59, ⟨1, false, [.nilFunc], .other⟩),
  (60, ⟨1, false, [.nilFunc], .other⟩),
  (61, ⟨1, false, [.nilFunc], .other⟩),
  (62, ⟨1, false, [.nilFunc], .other⟩),
  (63, ⟨1, false, [.nilFunc], .other⟩),
  (64, ⟨2, true, [.bool false, .slice none 0 0], .struct [(0, 1, false), (1, 1, false)]⟩),
  (65, ⟨2, true, [.bool false, .slice none 0 0], .struct [(0, 1, false), (1, 1, false)]⟩),
  (66, ⟨1, false, [.nilFunc], .other⟩),
  (67, ⟨1, false, [.nilFunc], .other⟩),
  (68, ⟨1, false, [.int .u32 0], .int .u32⟩),
  (69, ⟨1, false, [.nilFunc], .other⟩),
  (70, ⟨1, false, [.nilFunc], .other⟩),
  (76, ⟨1, false, [.nilFunc], .other⟩),
  (79, ⟨1, false, [.nilFunc], .other⟩),
  (80, ⟨1, false, [.pointer none], .other⟩)]
def cx : Ctx := tabCtx cxL [2400041]
theorem cx_ok : cx.ok Try.prog := tabCtx_ok (by kernel_rfl)
theorem dr_ok : DrawOk Try.prog (aDraw Try.prog cx) := aDraw_ok cx_ok (by kernel_rfl)
theorem cx_muts : cx.muts = [2400041] := nr rfl
theorem cx_1 : cx.ty 1 = some ⟨1, false, [.nilFunc], .other⟩ := nr rfl
theorem ck_1 : cx.kind 1 = some (.other) := nr rfl
theorem cx_2 : cx.ty 2 = some ⟨1, false, [.int .i64 0], .int .i64⟩ := nr rfl
theorem ck_2 : cx.kind 2 = some (.int .i64) := nr rfl
theorem cx_3 : cx.ty 3 = some ⟨1, false, [.int .i64 0], .int .i64⟩ := nr rfl
theorem ck_3 : cx.kind 3 = some (.int .i64) := nr rfl
theorem cx_4 : cx.ty 4 = some ⟨1, false, [.bool false], .bool⟩ := nr rfl
theorem ck_4 : cx.kind 4 = some (.bool) := nr rfl
theorem cx_5 : cx.ty 5 = some ⟨1, false, [.int .u8 0], .int .u8⟩ := nr rfl
theorem ck_5 : cx.kind 5 = some (.int .u8) := nr rfl
theorem cx_9 : cx.ty 9 = some ⟨1, false, [.string ⟨#[]⟩], .str⟩ := nr rfl
theorem ck_9 : cx.kind 9 = some (.str) := nr rfl
theorem cx_12 : cx.ty 12 = some ⟨1, false, [.int .u64 0], .int .u64⟩ := nr rfl
theorem ck_12 : cx.kind 12 = some (.int .u64) := nr rfl
theorem cx_13 : cx.ty 13 = some ⟨2, true, [.string ⟨#[]⟩, .int .u64 0], .struct [(0, 1, false), (1, 1, false)]⟩ := nr rfl
theorem ck_13 : cx.kind 13 = some (.struct [(0, 1, false), (1, 1, false)]) := nr rfl
theorem cx_19 : cx.ty 19 = some ⟨1, true, [.pointer none], .struct [(0, 1, false)]⟩ := nr rfl
theorem ck_19 : cx.kind 19 = some (.struct [(0, 1, false)]) := nr rfl
theorem cx_21 : cx.ty 21 = some ⟨1, false, [.int .i32 0], .int .i32⟩ := nr rfl
theorem ck_21 : cx.kind 21 = some (.int .i32) := nr rfl
theorem cx_22 : cx.ty 22 = some ⟨1, false, [.int .u16 0], .int .u16⟩ := nr rfl
theorem ck_22 : cx.kind 22 = some (.int .u16) := nr rfl
theorem cx_23 : cx.ty 23 = some ⟨1, false, [.nilFunc], .other⟩ := nr rfl
theorem ck_23 : cx.kind 23 = some (.other) := nr rfl
theorem cx_24 : cx.ty 24 = some ⟨1, false, [.slice none 0 0], .slice 5 1 1 [.int .u8 0]⟩ := nr rfl
theorem ck_24 : cx.kind 24 = some (.slice 5 1 1 [.int .u8 0]) := nr rfl
theorem cx_25 : cx.ty 25 = some ⟨512, true, (zB 512), .barr 512⟩ := nr rfl
theorem ck_25 : cx.kind 25 = some (.barr 512) := nr rfl
theorem cx_26 : cx.ty 26 = some ⟨512, true, (zB 512), .barr 512⟩ := nr rfl
theorem ck_26 : cx.kind 26 = some (.barr 512) := nr rfl
theorem cx_27 : cx.ty 27 = some ⟨1, false, [.nilFunc], .other⟩ := nr rfl
theorem ck_27 : cx.kind 27 = some (.other) := nr rfl
theorem cx_28 : cx.ty 28 = some ⟨1, false, [.nilFunc], .other⟩ := nr rfl
theorem ck_28 : cx.kind 28 = some (.other) := nr rfl
theorem cx_30 : cx.ty 30 = some ⟨1, false, [.nilFunc], .other⟩ := nr rfl
theorem ck_30 : cx.kind 30 = some (.other) := nr rfl
theorem cx_32 : cx.ty 32 = some ⟨1, false, [.nilFunc], .other⟩ := nr rfl
theorem ck_32 : cx.kind 32 = some (.other) := nr rfl
theorem cx_33 : cx.ty 33 = some ⟨1, false, [.nilFunc], .other⟩ := nr rfl
theorem ck_33 : cx.kind 33 = some (.other) := nr rfl
theorem cx_34 : cx.ty 34 = some ⟨1, false, [.slice none 0 0], .slice 24 1 24 [.slice none 0 0]⟩ := nr rfl
theorem ck_34 : cx.kind 34 = some (.slice 24 1 24 [.slice none 0 0]) := nr rfl
theorem cx_36 : cx.ty 36 = some ⟨1, false, [.nilFunc], .other⟩ := nr rfl
theorem ck_36 : cx.kind 36 = some (.other) := nr rfl
theorem cx_37 : cx.ty 37 = some ⟨1, false, [.nilFunc], .other⟩ := nr rfl
theorem ck_37 : cx.kind 37 = some (.other) := nr rfl
theorem cx_38 : cx.ty 38 = some ⟨1, false, [.nilFunc], .other⟩ := nr rfl
theorem ck_38 : cx.kind 38 = some (.other) := nr rfl
theorem cx_39 : cx.ty 39 = some ⟨1, false, [.slice none 0 0], .slice 45 3 40 [.int .i64 0, .int .i64 0, .slice none 0 0]⟩ := nr rfl
theorem ck_39 : cx.kind 39 = some (.slice 45 3 40 [.int .i64 0, .int .i64 0, .slice none 0 0]) := nr rfl
theorem cx_40 : cx.ty 40 = some ⟨1, false, [.slice none 0 0], .slice 65 2 32 [.bool false, .slice none 0 0]⟩ := nr rfl
theorem ck_40 : cx.kind 40 = some (.slice 65 2 32 [.bool false, .slice none 0 0]) := nr rfl
theorem cx_41 : cx.ty 41 = some ⟨2, true, [.int .i64 0, .slice none 0 0], .struct [(0, 1, false), (1, 1, false)]⟩ := nr rfl
theorem ck_41 : cx.kind 41 = some (.struct [(0, 1, false), (1, 1, false)]) := nr rfl
theorem cx_42 : cx.ty 42 = some ⟨2, true, [.int .i64 0, .slice none 0 0], .struct [(0, 1, false), (1, 1, false)]⟩ := nr rfl
theorem ck_42 : cx.kind 42 = some (.struct [(0, 1, false), (1, 1, false)]) := nr rfl
theorem cx_43 : cx.ty 43 = some ⟨1, false, [.nilFunc], .other⟩ := nr rfl
theorem ck_43 : cx.kind 43 = some (.other) := nr rfl
theorem cx_44 : cx.ty 44 = some ⟨3, true, [.int .i64 0, .int .i64 0, .slice none 0 0], .struct [(0, 1, false), (1, 1, false), (2, 1, false)]⟩ := nr rfl
theorem ck_44 : cx.kind 44 = some (.struct [(0, 1, false), (1, 1, false), (2, 1, false)]) := nr rfl
theorem cx_45 : cx.ty 45 = some ⟨3, true, [.int .i64 0, .int .i64 0, .slice none 0 0], .struct [(0, 1, false), (1, 1, false), (2, 1, false)]⟩ := nr rfl
theorem ck_45 : cx.kind 45 = some (.struct [(0, 1, false), (1, 1, false), (2, 1, false)]) := nr rfl
theorem cx_47 : cx.ty 47 = some ⟨1, false, [.nilFunc], .other⟩ := nr rfl
theorem ck_47 : cx.kind 47 = some (.other) := nr rfl
theorem cx_48 : cx.ty 48 = some ⟨1, false, [.nilFunc], .other⟩ := nr rfl
theorem ck_48 : cx.kind 48 = some (.other) := nr rfl
theorem cx_50 : cx.ty 50 = some ⟨1, false, [.nilFunc], .other⟩ := nr rfl
theorem ck_50 : cx.kind 50 = some (.other) := nr rfl
theorem cx_51 : cx.ty 51 = some ⟨1, false, [.nilFunc], .other⟩ := nr rfl
theorem ck_51 : cx.kind 51 = some (.other) := nr rfl
theorem cx_52 : cx.ty 52 = some ⟨1, false, [.nilFunc], .other⟩ := nr rfl
theorem ck_52 : cx.kind 52 = some (.other) := nr rfl
theorem cx_53 : cx.ty 53 = some ⟨1, false, [.nilFunc], .other⟩ := nr rfl
theorem ck_53 : cx.kind 53 = some (.other) := nr rfl
theorem cx_54 : cx.ty 54 = some ⟨1, false, [.nilFunc], .other⟩ := nr rfl
theorem ck_54 : cx.kind 54 = some (.other) := nr rfl
theorem cx_55 : cx.ty 55 = some ⟨1, false, [.int .u64 0], .int .u64⟩ := nr rfl
theorem ck_55 : cx.kind 55 = some (.int .u64) := nr rfl
theorem cx_56 : cx.ty 56 = some ⟨1, false, [.nilFunc], .other⟩ := nr rfl
theorem ck_56 : cx.kind 56 = some (.other) := nr rfl
theorem cx_57 : cx.ty 57 = some ⟨1, false, [.nilFunc], .other⟩ := nr rfl
theorem ck_57 : cx.kind 57 = some (.other) := nr rfl
theorem cx_58 : cx.ty 58 = some ⟨1, false, [.nilFunc], .other⟩ := nr rfl
theorem ck_58 : cx.kind 58 = some (.other) := nr rfl
theorem cx_59 : cx.ty 59 = some ⟨1, false, [.nilFunc], .other⟩ := nr rfl
theorem ck_59 : cx.kind 59 = some (.other) := nr rfl
theorem cx_60 : cx.ty 60 = some ⟨1, false, [.nilFunc], .other⟩ := nr rfl
theorem ck_60 : cx.kind 60 = some (.other) := nr rfl
theorem cx_61 : cx.ty 61 = some ⟨1, false, [.nilFunc], .other⟩ := nr rfl
theorem ck_61 : cx.kind 61 = some (.other) := nr rfl
theorem cx_62 : cx.ty 62 = some ⟨1, false, [.nilFunc], .other⟩ := nr rfl
theorem ck_62 : cx.kind 62 = some (.other) := nr rfl
theorem cx_63 : cx.ty 63 = some ⟨1, false, [.nilFunc], .other⟩ := nr rfl
theorem ck_63 : cx.kind 63 = some (.other) := nr rfl
theorem cx_64 : cx.ty 64 = some ⟨2, true, [.bool false, .slice none 0 0], .struct [(0, 1, false), (1, 1, false)]⟩ := nr rfl
theorem ck_64 : cx.kind 64 = some (.struct [(0, 1, false), (1, 1, false)]) := nr rfl
theorem cx_65 : cx.ty 65 = some ⟨2, true, [.bool false, .slice none 0 0], .struct [(0, 1, false), (1, 1, false)]⟩ := nr rfl
theorem ck_65 : cx.kind 65 = some (.struct [(0, 1, false), (1, 1, false)]) := nr rfl
theorem cx_66 : cx.ty 66 = some ⟨1, false, [.nilFunc], .other⟩ := nr rfl
theorem ck_66 : cx.kind 66 = some (.other) := nr rfl
theorem cx_67 : cx.ty 67 = some ⟨1, false, [.nilFunc], .other⟩ := nr rfl
theorem ck_67 : cx.kind 67 = some (.other) := nr rfl
theorem cx_68 : cx.ty 68 = some ⟨1, false, [.int .u32 0], .int .u32⟩ := nr rfl
theorem ck_68 : cx.kind 68 = some (.int .u32) := nr rfl
theorem cx_69 : cx.ty 69 = some ⟨1, false, [.nilFunc], .other⟩ := nr rfl
theorem ck_69 : cx.kind 69 = some (.other) := nr rfl
theorem cx_70 : cx.ty 70 = some ⟨1, false, [.nilFunc], .other⟩ := nr rfl
theorem ck_70 : cx.kind 70 = some (.other) := nr rfl
theorem cx_76 : cx.ty 76 = some ⟨1, false, [.nilFunc], .other⟩ := nr rfl
theorem ck_76 : cx.kind 76 = some (.other) := nr rfl
theorem cx_79 : cx.ty 79 = some ⟨1, false, [.nilFunc], .other⟩ := nr rfl
theorem ck_79 : cx.kind 79 = some (.other) := nr rfl
theorem cx_80 : cx.ty 80 = some ⟨1, false, [.pointer none], .other⟩ := nr rfl
theorem ck_80 : cx.kind 80 = some (.other) := nr rfl
end Go.Proofs.Ytpfnpinblbfjdaa
