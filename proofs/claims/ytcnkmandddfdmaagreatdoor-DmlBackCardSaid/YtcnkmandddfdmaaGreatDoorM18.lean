/- The table of types of this program, for the abstract machine. -/
import Derived.Test.YtcnkmandddfdmaaGreatDoorM14
import Derived.Test.YtcnkmandddfdmaaGreatDoorRows
set_option linter.unusedSimpArgs false
set_option linter.unusedVariables false
set_option linter.defProp false
set_option maxRecDepth 100000
set_option maxHeartbeats 32000000
namespace Go.Proofs.YtcnkmandddfdmaaGreatDoor
def cxL : List (TypeId × TI) := [
 (1, ⟨1, false, [.nilFunc], .other⟩),
 (2, ⟨1, false, [.int .i64 0], .int .i64⟩),
 (3, ⟨1, false, [.int .i64 0], .int .i64⟩),
 (4, ⟨1, false, [.bool false], .bool⟩),
 (5, ⟨1, false, [.int .u8 0], .int .u8⟩),
 (9, ⟨1, false, [.string ⟨#[]⟩], .str⟩),
 (12, ⟨1, false, [.int .u64 0], .int .u64⟩),
 (13, ⟨2, true, [.string ⟨#[]⟩, .int .u64 0], .struct [(0, 1, false), (1, 1, false)]⟩),
 (19, ⟨1, true, [.pointer none], .struct [(0, 1, false)]⟩),
 (21, ⟨1, false, [.int .i32 0], .int .i32⟩),
 (22, ⟨1, false, [.slice none 0 0], .slice 44 4 32 [.string ⟨#[]⟩, .int .i64 0, .bool false, .bool false]⟩),
 (23, ⟨2, true, [.string ⟨#[]⟩, .slice none 0 0], .struct [(0, 1, false), (1, 1, false)]⟩),
 (24, ⟨2, true, [.string ⟨#[]⟩, .slice none 0 0], .struct [(0, 1, false), (1, 1, false)]⟩),
 (25, ⟨1, false, [.slice none 0 0], .slice 39 1 24 [.slice none 0 0]⟩),
 (26, ⟨4, true, [.string ⟨#[]⟩, .string ⟨#[]⟩, .slice none 0 0, .slice none 0 0], .struct [(0, 1, false), (1, 2, true), (3, 1, false)]⟩),
 (27, ⟨4, true, [.string ⟨#[]⟩, .string ⟨#[]⟩, .slice none 0 0, .slice none 0 0], .struct [(0, 1, false), (1, 2, true), (3, 1, false)]⟩),
 (28, ⟨1, false, [.nilFunc], .other⟩),
 (29, ⟨1, false, [.slice none 0 0], .slice 9 1 16 [.string ⟨#[]⟩]⟩),
 (30, ⟨1, false, [.slice none 0 0], .slice 33 1 24 [.slice none 0 0]⟩),
 (31, ⟨1, false, [.slice none 0 0], .slice 117 9 112 [.bool false, .int .i64 0, .int .i64 0, .int .i64 0, .string ⟨#[]⟩, .string ⟨#[]⟩, .string ⟨#[]⟩, .int .i64 0, .slice none 0 0]⟩),
 (32, ⟨1, false, [.slice none 0 0], .slice 120 3 56 [.string ⟨#[]⟩, .string ⟨#[]⟩, .slice none 0 0]⟩),
 (33, ⟨1, false, [.slice none 0 0], .slice 78 8 104 [.int .i64 0, .int .i64 0, .int .i64 0, .string ⟨#[]⟩, .string ⟨#[]⟩, .string ⟨#[]⟩, .int .i64 0, .slice none 0 0]⟩),
 (34, ⟨1, false, [.slice none 0 0], .slice 124 9 112 [.int .i64 0, .int .i64 0, .int .i64 0, .string ⟨#[]⟩, .string ⟨#[]⟩, .string ⟨#[]⟩, .int .i64 0, .slice none 0 0, .bool false]⟩),
 (35, ⟨14, true, [.int .i64 0, .string ⟨#[]⟩, .string ⟨#[]⟩, .slice none 0 0, .slice none 0 0, .slice none 0 0, .slice none 0 0, .slice none 0 0, .slice none 0 0, .slice none 0 0, .slice none 0 0, .int .i64 0, .slice none 0 0, .bool false], .struct [(0, 1, false), (1, 1, false), (2, 1, false), (3, 1, false), (4, 1, false), (5, 1, false), (6, 1, false), (7, 1, false), (8, 1, false), (9, 1, false), (10, 1, false), (11, 1, false), (12, 1, false), (13, 1, false)]⟩),
 (36, ⟨14, true, [.int .i64 0, .string ⟨#[]⟩, .string ⟨#[]⟩, .slice none 0 0, .slice none 0 0, .slice none 0 0, .slice none 0 0, .slice none 0 0, .slice none 0 0, .slice none 0 0, .slice none 0 0, .int .i64 0, .slice none 0 0, .bool false], .struct [(0, 1, false), (1, 1, false), (2, 1, false), (3, 1, false), (4, 1, false), (5, 1, false), (6, 1, false), (7, 1, false), (8, 1, false), (9, 1, false), (10, 1, false), (11, 1, false), (12, 1, false), (13, 1, false)]⟩),
 (38, ⟨1, false, [.nilFunc], .other⟩),
 (39, ⟨1, false, [.slice none 0 0], .slice 41 3 32 [.int .i64 0, .int .i64 0, .string ⟨#[]⟩]⟩),
 (40, ⟨3, true, [.int .i64 0, .int .i64 0, .string ⟨#[]⟩], .struct [(0, 1, false), (1, 1, false), (2, 1, false)]⟩),
 (41, ⟨3, true, [.int .i64 0, .int .i64 0, .string ⟨#[]⟩], .struct [(0, 1, false), (1, 1, false), (2, 1, false)]⟩),
 (42, ⟨1, false, [.nilFunc], .other⟩),
 (43, ⟨4, true, [.string ⟨#[]⟩, .int .i64 0, .bool false, .bool false], .struct [(0, 1, false), (1, 1, false), (2, 1, false), (3, 1, false)]⟩),
 (44, ⟨4, true, [.string ⟨#[]⟩, .int .i64 0, .bool false, .bool false], .struct [(0, 1, false), (1, 1, false), (2, 1, false), (3, 1, false)]⟩),
 (45, ⟨1, false, [.int .i64 0], .int .i64⟩),
 (47, ⟨1, false, [.nilFunc], .other⟩),
 (49, ⟨1, false, [.nilFunc], .other⟩),
 (50, ⟨1, false, [.nilFunc], .other⟩),
 (51, ⟨1, false, [.nilFunc], .other⟩),
 (52, ⟨1, false, [.slice none 0 0], .slice 58 3 64 [.string ⟨#[]⟩, .slice none 0 0, .slice none 0 0]⟩),
 (54, ⟨1, false, [.nilFunc], .other⟩),
 (55, ⟨1, false, [.nilFunc], .other⟩),
 (56, ⟨1, false, [.nilFunc], .other⟩),
 (57, ⟨3, true, [.string ⟨#[]⟩, .slice none 0 0, .slice none 0 0], .struct [(0, 1, false), (1, 1, false), (2, 1, false)]⟩),
 (58, ⟨3, true, [.string ⟨#[]⟩, .slice none 0 0, .slice none 0 0], .struct [(0, 1, false), (1, 1, false), (2, 1, false)]⟩),
 (59, ⟨1, false, [.nilFunc], .other⟩),
 (60, ⟨1, false, [.nilFunc], .other⟩),
 (61, ⟨1, false, [.nilFunc], .other⟩),
 (62, ⟨1, false, [.nilFunc], .other⟩),
 (63, ⟨1, false, [.nilFunc], .other⟩),
 (64, ⟨1, false, [.slice none 0 0], .slice 106 3 32 [.int .i64 0, .string ⟨#[]⟩, .int .i64 0]⟩),
 (66, ⟨1, false, [.nilFunc], .other⟩),
 (67, ⟨1, false, [.pointer none], .other⟩),
 (68, ⟨3, true, [.slice none 0 0, .int .i64 0, .bool false], .struct [(0, 1, false), (1, 1, false), (2, 1, false)]⟩),
 (69, ⟨3, true, [.slice none 0 0, .int .i64 0, .bool false], .struct [(0, 1, false), (1, 1, false), (2, 1, false)]⟩),
 (70, ⟨1, false, [.nilFunc], .other⟩),
 (71, ⟨1, false, [.nilFunc], .other⟩),
 (72, ⟨1, false, [.nilFunc], .other⟩),
 (73, ⟨1, false, [.nilFunc], .other⟩),
 (74, ⟨1, false, [.nilFunc], .other⟩),
 (75, ⟨1, false, [.nilFunc], .other⟩),
 (76, ⟨1, false, [.nilFunc], .other⟩),
 (77, ⟨8, true, [.int .i64 0, .int .i64 0, .int .i64 0, .string ⟨#[]⟩, .string ⟨#[]⟩, .string ⟨#[]⟩, .int .i64 0, .slice none 0 0], .struct [(0, 1, false), (1, 3, true), (4, 1, false), (5, 1, false), (6, 1, false), (7, 1, false)]⟩),
 (78, ⟨8, true, [.int .i64 0, .int .i64 0, .int .i64 0, .string ⟨#[]⟩, .string ⟨#[]⟩, .string ⟨#[]⟩, .int .i64 0, .slice none 0 0], .struct [(0, 1, false), (1, 3, true), (4, 1, false), (5, 1, false), (6, 1, false), (7, 1, false)]⟩),
 (79, ⟨1, false, [.slice none 0 0], .slice 3 1 8 [.int .i64 0]⟩),
 (81, ⟨1, false, [.nilFunc], .other⟩),
 (83, ⟨1, false, [.nilFunc], .other⟩),
 (85, ⟨1, false, [.nilFunc], .other⟩),
 (86, ⟨1, false, [.nilFunc], .other⟩),
 (87, ⟨1, false, [.slice none 0 0], .slice 137 3 32 [.string ⟨#[]⟩, .string ⟨#[]⟩, .int .i64 0]⟩),
 (88, ⟨1, false, [.nilFunc], .other⟩),
 (89, ⟨1, false, [.nilFunc], .other⟩),
 (90, ⟨1, false, [.int .u64 0], .int .u64⟩),
 (91, ⟨1, false, [.pointer none], .other⟩),
 (92, ⟨1, false, [.slice none 0 0], .slice 5 1 1 [.int .u8 0]⟩),
 (93, ⟨2, true, [.pointer none, .slice none 0 0], .struct [(0, 1, false), (1, 1, false)]⟩),
 (94, ⟨2, true, [.pointer none, .slice none 0 0], .struct [(0, 1, false), (1, 1, false)]⟩),
 (95, ⟨1, false, [.nilFunc], .other⟩),
 (99, ⟨1, false, [.nilFunc], .other⟩),
 (100, ⟨1, false, [.nilFunc], .other⟩),
 (101, ⟨1, false, [.nilFunc], .other⟩),
 (102, ⟨1, false, [.nilFunc], .other⟩),
 (103, ⟨1, false, [.nilFunc], .other⟩),
 (104, ⟨1, false, [.nilFunc], .other⟩),
 (105, ⟨3, true, [.int .i64 0, .string ⟨#[]⟩, .int .i64 0], .struct [(0, 1, false), (1, 1, false), (2, 1, false)]⟩),
 (106, ⟨3, true, [.int .i64 0, .string ⟨#[]⟩, .int .i64 0], .struct [(0, 1, false), (1, 1, false), (2, 1, false)]⟩),
 (108, ⟨1, false, [.nilFunc], .other⟩),
 (110, ⟨1, false, [.nilFunc], .other⟩),
 (112, ⟨1, false, [.nilFunc], .other⟩),
 (113, ⟨1, false, [.nilFunc], .other⟩),
 (114, ⟨1, false, [.nilFunc], .other⟩),
 (115, ⟨1, false, [.nilFunc], .other⟩),
 (116, ⟨9, true, [.bool false, .int .i64 0, .int .i64 0, .int .i64 0, .string ⟨#[]⟩, .string ⟨#[]⟩, .string ⟨#[]⟩, .int .i64 0, .slice none 0 0], .struct [(0, 1, false), (1, 8, true)]⟩),
 (117, ⟨9, true, [.bool false, .int .i64 0, .int .i64 0, .int .i64 0, .string ⟨#[]⟩, .string ⟨#[]⟩, .string ⟨#[]⟩, .int .i64 0, .slice none 0 0], .struct [(0, 1, false), (1, 8, true)]⟩),
 (118, ⟨1, false, [.nilFunc], .other⟩),
 (119, ⟨3, true, [.string ⟨#[]⟩, .string ⟨#[]⟩, .slice none 0 0], .struct [(0, 1, false), (1, 1, false), (2, 1, false)]⟩),
 (120, ⟨3, true, [.string ⟨#[]⟩, .string ⟨#[]⟩, .slice none 0 0], .struct [(0, 1, false), (1, 1, false), (2, 1, false)]⟩),
 (121, ⟨1, false, [.nilFunc], .other⟩),
 (122, ⟨1, false, [.nilFunc], .other⟩),
 (123, ⟨9, true, [.int .i64 0, .int .i64 0, .int .i64 0, .string ⟨#[]⟩, .string ⟨#[]⟩, .string ⟨#[]⟩, .int .i64 0, .slice none 0 0, .bool false], .struct [(0, 8, true), (8, 1, false)]⟩),
 (124, ⟨9, true, [.int .i64 0, .int .i64 0, .int .i64 0, .string ⟨#[]⟩, .string ⟨#[]⟩, .string ⟨#[]⟩, .int .i64 0, .slice none 0 0, .bool false], .struct [(0, 8, true), (8, 1, false)]⟩),
 (125, ⟨1, false, [.nilFunc], .other⟩),
 (126, ⟨1, false, [.nilFunc], .other⟩),
 (127, ⟨1, false, [.nilFunc], .other⟩),
 (128, ⟨1, false, [.nilFunc], .other⟩),
 (129, ⟨1, false, [.nilFunc], .other⟩),
 (131, ⟨1, false, [.nilFunc], .other⟩),
 (132, ⟨1, false, [.nilFunc], .other⟩),
 (134, ⟨1, false, [.nilFunc], .other⟩),
 (135, ⟨1, false, [.nilFunc], .other⟩),
 (136, ⟨3, true, [.string ⟨#[]⟩, .string ⟨#[]⟩, .int .i64 0], .struct [(0, 1, false), (1, 1, false), (2, 1, false)]⟩),
 (137, ⟨3, true, [.string ⟨#[]⟩, .string ⟨#[]⟩, .int .i64 0], .struct [(0, 1, false), (1, 1, false), (2, 1, false)]⟩),
 (138, ⟨1, false, [.nilFunc], .other⟩),
 (139, ⟨1, false, [.nilFunc], .other⟩),
 (140, ⟨1, false, [.nilFunc], .other⟩),
 (141, ⟨24, true, (zB 24), .barr 24⟩),
 (142, ⟨1, false, [.int .u64 0], .int .u64⟩),
 (143, ⟨1, false, [.nilFunc], .other⟩),
 (144, ⟨1, false, [.nilFunc], .other⟩),
 (146, ⟨1, false, [.nilFunc], .other⟩),
 (147, ⟨1, false, [.pointer none], .other⟩),
 (149, ⟨1, false, [.nilFunc], .other⟩),
 (150, ⟨1, false, [.nilFunc], .other⟩),
 (151, ⟨1, false, [.nilFunc], .other⟩),
 (152, ⟨1, false, [.nilFunc], .other⟩),
 (153, ⟨1, false, [.nilFunc], .other⟩),
 (154, ⟨1, false, [.nilFunc], .other⟩),
 (155, ⟨1, false, [.nilFunc], .other⟩),
 (156, ⟨1, false, [.nilFunc], .other⟩),
 (157, ⟨1, false, [.nilFunc], .other⟩),
 (158, ⟨1, false, [.nilFunc], .other⟩),
 (160, ⟨1, false, [.nilFunc], .other⟩),
 (161, ⟨1, false, [.nilFunc], .other⟩),
 (162, ⟨1, false, [.nilFunc], .other⟩),
 (163, ⟨1, false, [.nilFunc], .other⟩),
 (165, ⟨1, false, [.nilFunc], .other⟩),
 (167, ⟨1, false, [.nilFunc], .other⟩),
 (168, ⟨1, false, [.pointer none], .other⟩),
 (169, ⟨2, true, [.slice none 0 0, .int .i64 0], .struct [(0, 1, false), (1, 1, false)]⟩),
 (170, ⟨2, true, [.slice none 0 0, .int .i64 0], .struct [(0, 1, false), (1, 1, false)]⟩),
 (171, ⟨1, false, [.nilFunc], .other⟩),
 (173, ⟨1, false, [.nilFunc], .other⟩),
 (174, ⟨1, false, [.int .i64 0], .int .i64⟩),
 (176, ⟨1, false, [.nilFunc], .other⟩),
 (177, ⟨1, false, [.nilFunc], .other⟩),
 (178, ⟨1, false, [.nilFunc], .other⟩),
 (179, ⟨1, false, [.nilFunc], .other⟩),
 (180, ⟨20, true, (List.replicate 20 (.int .u64 0)), .arr 20 1 false⟩),
 (181, ⟨1, false, [.int .u32 0], .int .u32⟩),
 (182, ⟨65, true, (zB 65), .barr 65⟩),
 (183, ⟨1, false, [.nilFunc], .other⟩),
 (185, ⟨1, false, [.nilFunc], .other⟩),
 (186, ⟨1, false, [.nilFunc], .other⟩),
 (187, ⟨1, false, [.nilFunc], .other⟩),
 (189, ⟨1, false, [.nilFunc], .other⟩),
 (190, ⟨1, false, [.slice none 0 0], .slice 219 5 20 [.int .u32 0, .int .u32 0, .int .i32 0, .int .i32 0, .int .i32 0]⟩),
 (191, ⟨1, false, [.nilFunc], .other⟩),
 (192, ⟨4, true, [.string ⟨#[]⟩, .string ⟨#[]⟩, .string ⟨#[]⟩, .string ⟨#[]⟩], .arr 4 1 false⟩),
 (193, ⟨13, true, [.string ⟨#[]⟩, .string ⟨#[]⟩, .string ⟨#[]⟩, .string ⟨#[]⟩, .string ⟨#[]⟩, .string ⟨#[]⟩, .string ⟨#[]⟩, .string ⟨#[]⟩, .string ⟨#[]⟩, .string ⟨#[]⟩, .string ⟨#[]⟩, .string ⟨#[]⟩, .string ⟨#[]⟩], .arr 13 1 false⟩),
 (194, ⟨13, true, [.int .i64 0, .int .i64 0, .int .i64 0, .int .i64 0, .int .i64 0, .int .i64 0, .int .i64 0, .int .i64 0, .int .i64 0, .int .i64 0, .int .i64 0, .int .i64 0, .int .i64 0], .arr 13 1 false⟩),
 (195, ⟨1, false, [.nilFunc], .other⟩),
 (196, ⟨1, false, [.nilFunc], .other⟩),
 (197, ⟨1, false, [.slice none 0 0], .slice 171 1 8 [.nilFunc]⟩),
 (198, ⟨1, false, [.nilFunc], .other⟩),
 (199, ⟨1, false, [.pointer none], .other⟩),
 (200, ⟨1, false, [.nilFunc], .other⟩),
 (201, ⟨256, true, (zB 256), .barr 256⟩),
 (202, ⟨2, true, [.int .u8 0, .int .u8 0], .struct [(0, 1, false), (1, 1, false)]⟩),
 (203, ⟨2, true, [.int .u8 0, .int .u8 0], .struct [(0, 1, false), (1, 1, false)]⟩),
 (204, ⟨32, true, (zB 32), .arr 16 2 true⟩),
 (205, ⟨1, false, [.pointer none], .other⟩),
 (206, ⟨1, false, [.nilFunc], .other⟩),
 (207, ⟨1, false, [.nilFunc], .other⟩),
 (208, ⟨1, false, [.nilFunc], .other⟩),
 (209, ⟨1, false, [.nilFunc], .other⟩),
 (210, ⟨1, false, [.nilFunc], .other⟩),
 (211, ⟨1, false, [.nilFunc], .other⟩),
 (212, ⟨1, false, [.nilFunc], .other⟩),
 (213, ⟨1, false, [.slice none 0 0], .slice 4 1 1 [.bool false]⟩),
 (214, ⟨32, true, (zB 32), .barr 32⟩),
 (215, ⟨64, true, (zB 64), .barr 64⟩),
 (216, ⟨3, true, [.int .i32 0, .int .i32 0, .int .i32 0], .arr 3 1 false⟩),
 (217, ⟨3, true, [.int .i32 0, .int .i32 0, .int .i32 0], .arr 3 1 false⟩),
 (218, ⟨5, true, [.int .u32 0, .int .u32 0, .int .i32 0, .int .i32 0, .int .i32 0], .struct [(0, 1, false), (1, 1, false), (2, 3, true)]⟩),
 (219, ⟨5, true, [.int .u32 0, .int .u32 0, .int .i32 0, .int .i32 0, .int .i32 0], .struct [(0, 1, false), (1, 1, false), (2, 3, true)]⟩),
 (221, ⟨1, false, [.nilFunc], .other⟩),
 (222, ⟨1, false, [.nilFunc], .other⟩),
 (223, ⟨1, false, [.nilFunc], .other⟩),
 (224, ⟨1, false, [.nilFunc], .other⟩),
 (225, ⟨1, false, [.nilFunc], .other⟩),
 (233, ⟨1, false, [.nilFunc], .other⟩)]
def cxQ : List (TypeId × List EK) := [(41, [.int, .int, .str]), (44, [.str, .int, .bool, .bool]), (106, [.int, .str, .int]), (137, [.str, .str, .int]), (203, [.int, .int])]
def cx : Ctx := tabCtx cxL [] cxQ
theorem cx_ok : cx.ok Tryz.prog := tabCtx_ok (by kernel_rfl) (by kernel_rfl)
theorem dr_ok : DrawOk Tryz.prog (aDraw Tryz.prog cx) := aDraw_ok cx_ok (by kernel_rfl)
theorem cx_muts : cx.muts = [] := nr rfl
theorem cx_2 : cx.ty 2 = some ⟨1, false, [.int .i64 0], .int .i64⟩ := nr rfl
theorem ck_2 : cx.kind 2 = some (.int .i64) := nr rfl
theorem cx_3 : cx.ty 3 = some ⟨1, false, [.int .i64 0], .int .i64⟩ := nr rfl
theorem ck_3 : cx.kind 3 = some (.int .i64) := nr rfl
theorem cx_4 : cx.ty 4 = some ⟨1, false, [.bool false], .bool⟩ := nr rfl
theorem ck_4 : cx.kind 4 = some (.bool) := nr rfl
theorem cx_5 : cx.ty 5 = some ⟨1, false, [.int .u8 0], .int .u8⟩ := nr rfl
theorem ck_5 : cx.kind 5 = some (.int .u8) := nr rfl
theorem cx_9 : cx.ty 9 = some ⟨1, false, [.string ⟨#[]⟩], .str⟩ := nr rfl
theorem ck_9 : cx.kind 9 = some (.str) := nr rfl
theorem cx_22 : cx.ty 22 = some ⟨1, false, [.slice none 0 0], .slice 44 4 32 [.string ⟨#[]⟩, .int .i64 0, .bool false, .bool false]⟩ := nr rfl
theorem ck_22 : cx.kind 22 = some (.slice 44 4 32 [.string ⟨#[]⟩, .int .i64 0, .bool false, .bool false]) := nr rfl
theorem ks_22 {e : Nat} {ls : List (List PV)} : lenA cx 22 (.p (.sl e ls)) = some ls.length := nr (len_sl ck_22)
theorem ko_22 {t e : Nat} {ls : List (List PV)} : lenA cx 22 (.own t e ls) = some ls.length := nr (len_own ck_22)
theorem kn_22 {t e : Nat} {ls : List (List PV)} : lenA cx 22 (.nown t e ls) = some ls.length := nr (len_nown ck_22)
theorem kz_22 : lenA cx 22 (.p (.v (.slice none 0 0))) = some 0 := nr (len_nil ck_22)
theorem km_22 {t e j n : Nat} : lenA cx 22 (.ms t e j n) = some n := nr (len_ms ck_22)
theorem cx_24 : cx.ty 24 = some ⟨2, true, [.string ⟨#[]⟩, .slice none 0 0], .struct [(0, 1, false), (1, 1, false)]⟩ := nr rfl
theorem ck_24 : cx.kind 24 = some (.struct [(0, 1, false), (1, 1, false)]) := nr rfl
theorem cx_25 : cx.ty 25 = some ⟨1, false, [.slice none 0 0], .slice 39 1 24 [.slice none 0 0]⟩ := nr rfl
theorem ck_25 : cx.kind 25 = some (.slice 39 1 24 [.slice none 0 0]) := nr rfl
theorem ks_25 {e : Nat} {ls : List (List PV)} : lenA cx 25 (.p (.sl e ls)) = some ls.length := nr (len_sl ck_25)
theorem ko_25 {t e : Nat} {ls : List (List PV)} : lenA cx 25 (.own t e ls) = some ls.length := nr (len_own ck_25)
theorem kn_25 {t e : Nat} {ls : List (List PV)} : lenA cx 25 (.nown t e ls) = some ls.length := nr (len_nown ck_25)
theorem kz_25 : lenA cx 25 (.p (.v (.slice none 0 0))) = some 0 := nr (len_nil ck_25)
theorem km_25 {t e j n : Nat} : lenA cx 25 (.ms t e j n) = some n := nr (len_ms ck_25)
theorem cx_27 : cx.ty 27 = some ⟨4, true, [.string ⟨#[]⟩, .string ⟨#[]⟩, .slice none 0 0, .slice none 0 0], .struct [(0, 1, false), (1, 2, true), (3, 1, false)]⟩ := nr rfl
theorem ck_27 : cx.kind 27 = some (.struct [(0, 1, false), (1, 2, true), (3, 1, false)]) := nr rfl
theorem cx_29 : cx.ty 29 = some ⟨1, false, [.slice none 0 0], .slice 9 1 16 [.string ⟨#[]⟩]⟩ := nr rfl
theorem ck_29 : cx.kind 29 = some (.slice 9 1 16 [.string ⟨#[]⟩]) := nr rfl
theorem ks_29 {e : Nat} {ls : List (List PV)} : lenA cx 29 (.p (.sl e ls)) = some ls.length := nr (len_sl ck_29)
theorem ko_29 {t e : Nat} {ls : List (List PV)} : lenA cx 29 (.own t e ls) = some ls.length := nr (len_own ck_29)
theorem kn_29 {t e : Nat} {ls : List (List PV)} : lenA cx 29 (.nown t e ls) = some ls.length := nr (len_nown ck_29)
theorem kz_29 : lenA cx 29 (.p (.v (.slice none 0 0))) = some 0 := nr (len_nil ck_29)
theorem km_29 {t e j n : Nat} : lenA cx 29 (.ms t e j n) = some n := nr (len_ms ck_29)
theorem cx_30 : cx.ty 30 = some ⟨1, false, [.slice none 0 0], .slice 33 1 24 [.slice none 0 0]⟩ := nr rfl
theorem ck_30 : cx.kind 30 = some (.slice 33 1 24 [.slice none 0 0]) := nr rfl
theorem ks_30 {e : Nat} {ls : List (List PV)} : lenA cx 30 (.p (.sl e ls)) = some ls.length := nr (len_sl ck_30)
theorem ko_30 {t e : Nat} {ls : List (List PV)} : lenA cx 30 (.own t e ls) = some ls.length := nr (len_own ck_30)
theorem kn_30 {t e : Nat} {ls : List (List PV)} : lenA cx 30 (.nown t e ls) = some ls.length := nr (len_nown ck_30)
theorem kz_30 : lenA cx 30 (.p (.v (.slice none 0 0))) = some 0 := nr (len_nil ck_30)
theorem km_30 {t e j n : Nat} : lenA cx 30 (.ms t e j n) = some n := nr (len_ms ck_30)
theorem cx_31 : cx.ty 31 = some ⟨1, false, [.slice none 0 0], .slice 117 9 112 [.bool false, .int .i64 0, .int .i64 0, .int .i64 0, .string ⟨#[]⟩, .string ⟨#[]⟩, .string ⟨#[]⟩, .int .i64 0, .slice none 0 0]⟩ := nr rfl
theorem ck_31 : cx.kind 31 = some (.slice 117 9 112 [.bool false, .int .i64 0, .int .i64 0, .int .i64 0, .string ⟨#[]⟩, .string ⟨#[]⟩, .string ⟨#[]⟩, .int .i64 0, .slice none 0 0]) := nr rfl
theorem ks_31 {e : Nat} {ls : List (List PV)} : lenA cx 31 (.p (.sl e ls)) = some ls.length := nr (len_sl ck_31)
theorem ko_31 {t e : Nat} {ls : List (List PV)} : lenA cx 31 (.own t e ls) = some ls.length := nr (len_own ck_31)
theorem kn_31 {t e : Nat} {ls : List (List PV)} : lenA cx 31 (.nown t e ls) = some ls.length := nr (len_nown ck_31)
theorem kz_31 : lenA cx 31 (.p (.v (.slice none 0 0))) = some 0 := nr (len_nil ck_31)
theorem km_31 {t e j n : Nat} : lenA cx 31 (.ms t e j n) = some n := nr (len_ms ck_31)
theorem cx_32 : cx.ty 32 = some ⟨1, false, [.slice none 0 0], .slice 120 3 56 [.string ⟨#[]⟩, .string ⟨#[]⟩, .slice none 0 0]⟩ := nr rfl
theorem ck_32 : cx.kind 32 = some (.slice 120 3 56 [.string ⟨#[]⟩, .string ⟨#[]⟩, .slice none 0 0]) := nr rfl
theorem ks_32 {e : Nat} {ls : List (List PV)} : lenA cx 32 (.p (.sl e ls)) = some ls.length := nr (len_sl ck_32)
theorem ko_32 {t e : Nat} {ls : List (List PV)} : lenA cx 32 (.own t e ls) = some ls.length := nr (len_own ck_32)
theorem kn_32 {t e : Nat} {ls : List (List PV)} : lenA cx 32 (.nown t e ls) = some ls.length := nr (len_nown ck_32)
theorem kz_32 : lenA cx 32 (.p (.v (.slice none 0 0))) = some 0 := nr (len_nil ck_32)
theorem km_32 {t e j n : Nat} : lenA cx 32 (.ms t e j n) = some n := nr (len_ms ck_32)
theorem cx_33 : cx.ty 33 = some ⟨1, false, [.slice none 0 0], .slice 78 8 104 [.int .i64 0, .int .i64 0, .int .i64 0, .string ⟨#[]⟩, .string ⟨#[]⟩, .string ⟨#[]⟩, .int .i64 0, .slice none 0 0]⟩ := nr rfl
theorem ck_33 : cx.kind 33 = some (.slice 78 8 104 [.int .i64 0, .int .i64 0, .int .i64 0, .string ⟨#[]⟩, .string ⟨#[]⟩, .string ⟨#[]⟩, .int .i64 0, .slice none 0 0]) := nr rfl
theorem ks_33 {e : Nat} {ls : List (List PV)} : lenA cx 33 (.p (.sl e ls)) = some ls.length := nr (len_sl ck_33)
theorem ko_33 {t e : Nat} {ls : List (List PV)} : lenA cx 33 (.own t e ls) = some ls.length := nr (len_own ck_33)
theorem kn_33 {t e : Nat} {ls : List (List PV)} : lenA cx 33 (.nown t e ls) = some ls.length := nr (len_nown ck_33)
theorem kz_33 : lenA cx 33 (.p (.v (.slice none 0 0))) = some 0 := nr (len_nil ck_33)
theorem km_33 {t e j n : Nat} : lenA cx 33 (.ms t e j n) = some n := nr (len_ms ck_33)
theorem cx_34 : cx.ty 34 = some ⟨1, false, [.slice none 0 0], .slice 124 9 112 [.int .i64 0, .int .i64 0, .int .i64 0, .string ⟨#[]⟩, .string ⟨#[]⟩, .string ⟨#[]⟩, .int .i64 0, .slice none 0 0, .bool false]⟩ := nr rfl
theorem ck_34 : cx.kind 34 = some (.slice 124 9 112 [.int .i64 0, .int .i64 0, .int .i64 0, .string ⟨#[]⟩, .string ⟨#[]⟩, .string ⟨#[]⟩, .int .i64 0, .slice none 0 0, .bool false]) := nr rfl
theorem ks_34 {e : Nat} {ls : List (List PV)} : lenA cx 34 (.p (.sl e ls)) = some ls.length := nr (len_sl ck_34)
theorem ko_34 {t e : Nat} {ls : List (List PV)} : lenA cx 34 (.own t e ls) = some ls.length := nr (len_own ck_34)
theorem kn_34 {t e : Nat} {ls : List (List PV)} : lenA cx 34 (.nown t e ls) = some ls.length := nr (len_nown ck_34)
theorem kz_34 : lenA cx 34 (.p (.v (.slice none 0 0))) = some 0 := nr (len_nil ck_34)
theorem km_34 {t e j n : Nat} : lenA cx 34 (.ms t e j n) = some n := nr (len_ms ck_34)
theorem cx_36 : cx.ty 36 = some ⟨14, true, [.int .i64 0, .string ⟨#[]⟩, .string ⟨#[]⟩, .slice none 0 0, .slice none 0 0, .slice none 0 0, .slice none 0 0, .slice none 0 0, .slice none 0 0, .slice none 0 0, .slice none 0 0, .int .i64 0, .slice none 0 0, .bool false], .struct [(0, 1, false), (1, 1, false), (2, 1, false), (3, 1, false), (4, 1, false), (5, 1, false), (6, 1, false), (7, 1, false), (8, 1, false), (9, 1, false), (10, 1, false), (11, 1, false), (12, 1, false), (13, 1, false)]⟩ := nr rfl
theorem ck_36 : cx.kind 36 = some (.struct [(0, 1, false), (1, 1, false), (2, 1, false), (3, 1, false), (4, 1, false), (5, 1, false), (6, 1, false), (7, 1, false), (8, 1, false), (9, 1, false), (10, 1, false), (11, 1, false), (12, 1, false), (13, 1, false)]) := nr rfl
theorem cx_39 : cx.ty 39 = some ⟨1, false, [.slice none 0 0], .slice 41 3 32 [.int .i64 0, .int .i64 0, .string ⟨#[]⟩]⟩ := nr rfl
theorem ck_39 : cx.kind 39 = some (.slice 41 3 32 [.int .i64 0, .int .i64 0, .string ⟨#[]⟩]) := nr rfl
theorem ks_39 {e : Nat} {ls : List (List PV)} : lenA cx 39 (.p (.sl e ls)) = some ls.length := nr (len_sl ck_39)
theorem ko_39 {t e : Nat} {ls : List (List PV)} : lenA cx 39 (.own t e ls) = some ls.length := nr (len_own ck_39)
theorem kn_39 {t e : Nat} {ls : List (List PV)} : lenA cx 39 (.nown t e ls) = some ls.length := nr (len_nown ck_39)
theorem kz_39 : lenA cx 39 (.p (.v (.slice none 0 0))) = some 0 := nr (len_nil ck_39)
theorem km_39 {t e j n : Nat} : lenA cx 39 (.ms t e j n) = some n := nr (len_ms ck_39)
theorem cx_41 : cx.ty 41 = some ⟨3, true, [.int .i64 0, .int .i64 0, .string ⟨#[]⟩], .struct [(0, 1, false), (1, 1, false), (2, 1, false)]⟩ := nr rfl
theorem ck_41 : cx.kind 41 = some (.struct [(0, 1, false), (1, 1, false), (2, 1, false)]) := nr rfl
theorem cx_44 : cx.ty 44 = some ⟨4, true, [.string ⟨#[]⟩, .int .i64 0, .bool false, .bool false], .struct [(0, 1, false), (1, 1, false), (2, 1, false), (3, 1, false)]⟩ := nr rfl
theorem ck_44 : cx.kind 44 = some (.struct [(0, 1, false), (1, 1, false), (2, 1, false), (3, 1, false)]) := nr rfl
theorem cx_45 : cx.ty 45 = some ⟨1, false, [.int .i64 0], .int .i64⟩ := nr rfl
theorem ck_45 : cx.kind 45 = some (.int .i64) := nr rfl
theorem cx_52 : cx.ty 52 = some ⟨1, false, [.slice none 0 0], .slice 58 3 64 [.string ⟨#[]⟩, .slice none 0 0, .slice none 0 0]⟩ := nr rfl
theorem ck_52 : cx.kind 52 = some (.slice 58 3 64 [.string ⟨#[]⟩, .slice none 0 0, .slice none 0 0]) := nr rfl
theorem ks_52 {e : Nat} {ls : List (List PV)} : lenA cx 52 (.p (.sl e ls)) = some ls.length := nr (len_sl ck_52)
theorem ko_52 {t e : Nat} {ls : List (List PV)} : lenA cx 52 (.own t e ls) = some ls.length := nr (len_own ck_52)
theorem kn_52 {t e : Nat} {ls : List (List PV)} : lenA cx 52 (.nown t e ls) = some ls.length := nr (len_nown ck_52)
theorem kz_52 : lenA cx 52 (.p (.v (.slice none 0 0))) = some 0 := nr (len_nil ck_52)
theorem km_52 {t e j n : Nat} : lenA cx 52 (.ms t e j n) = some n := nr (len_ms ck_52)
theorem cx_58 : cx.ty 58 = some ⟨3, true, [.string ⟨#[]⟩, .slice none 0 0, .slice none 0 0], .struct [(0, 1, false), (1, 1, false), (2, 1, false)]⟩ := nr rfl
theorem ck_58 : cx.kind 58 = some (.struct [(0, 1, false), (1, 1, false), (2, 1, false)]) := nr rfl
theorem cx_64 : cx.ty 64 = some ⟨1, false, [.slice none 0 0], .slice 106 3 32 [.int .i64 0, .string ⟨#[]⟩, .int .i64 0]⟩ := nr rfl
theorem ck_64 : cx.kind 64 = some (.slice 106 3 32 [.int .i64 0, .string ⟨#[]⟩, .int .i64 0]) := nr rfl
theorem ks_64 {e : Nat} {ls : List (List PV)} : lenA cx 64 (.p (.sl e ls)) = some ls.length := nr (len_sl ck_64)
theorem ko_64 {t e : Nat} {ls : List (List PV)} : lenA cx 64 (.own t e ls) = some ls.length := nr (len_own ck_64)
theorem kn_64 {t e : Nat} {ls : List (List PV)} : lenA cx 64 (.nown t e ls) = some ls.length := nr (len_nown ck_64)
theorem kz_64 : lenA cx 64 (.p (.v (.slice none 0 0))) = some 0 := nr (len_nil ck_64)
theorem km_64 {t e j n : Nat} : lenA cx 64 (.ms t e j n) = some n := nr (len_ms ck_64)
theorem cx_67 : cx.ty 67 = some ⟨1, false, [.pointer none], .other⟩ := nr rfl
theorem ck_67 : cx.kind 67 = some (.other) := nr rfl
theorem cx_69 : cx.ty 69 = some ⟨3, true, [.slice none 0 0, .int .i64 0, .bool false], .struct [(0, 1, false), (1, 1, false), (2, 1, false)]⟩ := nr rfl
theorem ck_69 : cx.kind 69 = some (.struct [(0, 1, false), (1, 1, false), (2, 1, false)]) := nr rfl
theorem cx_78 : cx.ty 78 = some ⟨8, true, [.int .i64 0, .int .i64 0, .int .i64 0, .string ⟨#[]⟩, .string ⟨#[]⟩, .string ⟨#[]⟩, .int .i64 0, .slice none 0 0], .struct [(0, 1, false), (1, 3, true), (4, 1, false), (5, 1, false), (6, 1, false), (7, 1, false)]⟩ := nr rfl
theorem ck_78 : cx.kind 78 = some (.struct [(0, 1, false), (1, 3, true), (4, 1, false), (5, 1, false), (6, 1, false), (7, 1, false)]) := nr rfl
theorem cx_79 : cx.ty 79 = some ⟨1, false, [.slice none 0 0], .slice 3 1 8 [.int .i64 0]⟩ := nr rfl
theorem ck_79 : cx.kind 79 = some (.slice 3 1 8 [.int .i64 0]) := nr rfl
theorem ks_79 {e : Nat} {ls : List (List PV)} : lenA cx 79 (.p (.sl e ls)) = some ls.length := nr (len_sl ck_79)
theorem ko_79 {t e : Nat} {ls : List (List PV)} : lenA cx 79 (.own t e ls) = some ls.length := nr (len_own ck_79)
theorem kn_79 {t e : Nat} {ls : List (List PV)} : lenA cx 79 (.nown t e ls) = some ls.length := nr (len_nown ck_79)
theorem kz_79 : lenA cx 79 (.p (.v (.slice none 0 0))) = some 0 := nr (len_nil ck_79)
theorem km_79 {t e j n : Nat} : lenA cx 79 (.ms t e j n) = some n := nr (len_ms ck_79)
theorem cx_87 : cx.ty 87 = some ⟨1, false, [.slice none 0 0], .slice 137 3 32 [.string ⟨#[]⟩, .string ⟨#[]⟩, .int .i64 0]⟩ := nr rfl
theorem ck_87 : cx.kind 87 = some (.slice 137 3 32 [.string ⟨#[]⟩, .string ⟨#[]⟩, .int .i64 0]) := nr rfl
theorem ks_87 {e : Nat} {ls : List (List PV)} : lenA cx 87 (.p (.sl e ls)) = some ls.length := nr (len_sl ck_87)
theorem ko_87 {t e : Nat} {ls : List (List PV)} : lenA cx 87 (.own t e ls) = some ls.length := nr (len_own ck_87)
theorem kn_87 {t e : Nat} {ls : List (List PV)} : lenA cx 87 (.nown t e ls) = some ls.length := nr (len_nown ck_87)
theorem kz_87 : lenA cx 87 (.p (.v (.slice none 0 0))) = some 0 := nr (len_nil ck_87)
theorem km_87 {t e j n : Nat} : lenA cx 87 (.ms t e j n) = some n := nr (len_ms ck_87)
theorem cx_92 : cx.ty 92 = some ⟨1, false, [.slice none 0 0], .slice 5 1 1 [.int .u8 0]⟩ := nr rfl
theorem ck_92 : cx.kind 92 = some (.slice 5 1 1 [.int .u8 0]) := nr rfl
theorem ks_92 {e : Nat} {ls : List (List PV)} : lenA cx 92 (.p (.sl e ls)) = some ls.length := nr (len_sl ck_92)
theorem ko_92 {t e : Nat} {ls : List (List PV)} : lenA cx 92 (.own t e ls) = some ls.length := nr (len_own ck_92)
theorem kn_92 {t e : Nat} {ls : List (List PV)} : lenA cx 92 (.nown t e ls) = some ls.length := nr (len_nown ck_92)
theorem kz_92 : lenA cx 92 (.p (.v (.slice none 0 0))) = some 0 := nr (len_nil ck_92)
theorem km_92 {t e j n : Nat} : lenA cx 92 (.ms t e j n) = some n := nr (len_ms ck_92)
theorem cx_106 : cx.ty 106 = some ⟨3, true, [.int .i64 0, .string ⟨#[]⟩, .int .i64 0], .struct [(0, 1, false), (1, 1, false), (2, 1, false)]⟩ := nr rfl
theorem ck_106 : cx.kind 106 = some (.struct [(0, 1, false), (1, 1, false), (2, 1, false)]) := nr rfl
theorem cx_117 : cx.ty 117 = some ⟨9, true, [.bool false, .int .i64 0, .int .i64 0, .int .i64 0, .string ⟨#[]⟩, .string ⟨#[]⟩, .string ⟨#[]⟩, .int .i64 0, .slice none 0 0], .struct [(0, 1, false), (1, 8, true)]⟩ := nr rfl
theorem ck_117 : cx.kind 117 = some (.struct [(0, 1, false), (1, 8, true)]) := nr rfl
theorem cx_120 : cx.ty 120 = some ⟨3, true, [.string ⟨#[]⟩, .string ⟨#[]⟩, .slice none 0 0], .struct [(0, 1, false), (1, 1, false), (2, 1, false)]⟩ := nr rfl
theorem ck_120 : cx.kind 120 = some (.struct [(0, 1, false), (1, 1, false), (2, 1, false)]) := nr rfl
theorem cx_124 : cx.ty 124 = some ⟨9, true, [.int .i64 0, .int .i64 0, .int .i64 0, .string ⟨#[]⟩, .string ⟨#[]⟩, .string ⟨#[]⟩, .int .i64 0, .slice none 0 0, .bool false], .struct [(0, 8, true), (8, 1, false)]⟩ := nr rfl
theorem ck_124 : cx.kind 124 = some (.struct [(0, 8, true), (8, 1, false)]) := nr rfl
theorem cx_128 : cx.ty 128 = some ⟨1, false, [.nilFunc], .other⟩ := nr rfl
theorem ck_128 : cx.kind 128 = some (.other) := nr rfl
theorem cx_137 : cx.ty 137 = some ⟨3, true, [.string ⟨#[]⟩, .string ⟨#[]⟩, .int .i64 0], .struct [(0, 1, false), (1, 1, false), (2, 1, false)]⟩ := nr rfl
theorem ck_137 : cx.kind 137 = some (.struct [(0, 1, false), (1, 1, false), (2, 1, false)]) := nr rfl
theorem cx_142 : cx.ty 142 = some ⟨1, false, [.int .u64 0], .int .u64⟩ := nr rfl
theorem ck_142 : cx.kind 142 = some (.int .u64) := nr rfl
theorem cx_162 : cx.ty 162 = some ⟨1, false, [.nilFunc], .other⟩ := nr rfl
theorem ck_162 : cx.kind 162 = some (.other) := nr rfl
theorem cx_168 : cx.ty 168 = some ⟨1, false, [.pointer none], .other⟩ := nr rfl
theorem ck_168 : cx.kind 168 = some (.other) := nr rfl
theorem cx_170 : cx.ty 170 = some ⟨2, true, [.slice none 0 0, .int .i64 0], .struct [(0, 1, false), (1, 1, false)]⟩ := nr rfl
theorem ck_170 : cx.kind 170 = some (.struct [(0, 1, false), (1, 1, false)]) := nr rfl
theorem cx_171 : cx.ty 171 = some ⟨1, false, [.nilFunc], .other⟩ := nr rfl
theorem ck_171 : cx.kind 171 = some (.other) := nr rfl
theorem cx_174 : cx.ty 174 = some ⟨1, false, [.int .i64 0], .int .i64⟩ := nr rfl
theorem ck_174 : cx.kind 174 = some (.int .i64) := nr rfl
theorem cx_192 : cx.ty 192 = some ⟨4, true, [.string ⟨#[]⟩, .string ⟨#[]⟩, .string ⟨#[]⟩, .string ⟨#[]⟩], .arr 4 1 false⟩ := nr rfl
theorem ck_192 : cx.kind 192 = some (.arr 4 1 false) := nr rfl
theorem cx_193 : cx.ty 193 = some ⟨13, true, [.string ⟨#[]⟩, .string ⟨#[]⟩, .string ⟨#[]⟩, .string ⟨#[]⟩, .string ⟨#[]⟩, .string ⟨#[]⟩, .string ⟨#[]⟩, .string ⟨#[]⟩, .string ⟨#[]⟩, .string ⟨#[]⟩, .string ⟨#[]⟩, .string ⟨#[]⟩, .string ⟨#[]⟩], .arr 13 1 false⟩ := nr rfl
theorem ck_193 : cx.kind 193 = some (.arr 13 1 false) := nr rfl
theorem cx_194 : cx.ty 194 = some ⟨13, true, [.int .i64 0, .int .i64 0, .int .i64 0, .int .i64 0, .int .i64 0, .int .i64 0, .int .i64 0, .int .i64 0, .int .i64 0, .int .i64 0, .int .i64 0, .int .i64 0, .int .i64 0], .arr 13 1 false⟩ := nr rfl
theorem ck_194 : cx.kind 194 = some (.arr 13 1 false) := nr rfl
theorem cx_197 : cx.ty 197 = some ⟨1, false, [.slice none 0 0], .slice 171 1 8 [.nilFunc]⟩ := nr rfl
theorem ck_197 : cx.kind 197 = some (.slice 171 1 8 [.nilFunc]) := nr rfl
theorem ks_197 {e : Nat} {ls : List (List PV)} : lenA cx 197 (.p (.sl e ls)) = some ls.length := nr (len_sl ck_197)
theorem ko_197 {t e : Nat} {ls : List (List PV)} : lenA cx 197 (.own t e ls) = some ls.length := nr (len_own ck_197)
theorem kn_197 {t e : Nat} {ls : List (List PV)} : lenA cx 197 (.nown t e ls) = some ls.length := nr (len_nown ck_197)
theorem kz_197 : lenA cx 197 (.p (.v (.slice none 0 0))) = some 0 := nr (len_nil ck_197)
theorem km_197 {t e j n : Nat} : lenA cx 197 (.ms t e j n) = some n := nr (len_ms ck_197)
theorem cx_213 : cx.ty 213 = some ⟨1, false, [.slice none 0 0], .slice 4 1 1 [.bool false]⟩ := nr rfl
theorem ck_213 : cx.kind 213 = some (.slice 4 1 1 [.bool false]) := nr rfl
theorem ks_213 {e : Nat} {ls : List (List PV)} : lenA cx 213 (.p (.sl e ls)) = some ls.length := nr (len_sl ck_213)
theorem ko_213 {t e : Nat} {ls : List (List PV)} : lenA cx 213 (.own t e ls) = some ls.length := nr (len_own ck_213)
theorem kn_213 {t e : Nat} {ls : List (List PV)} : lenA cx 213 (.nown t e ls) = some ls.length := nr (len_nown ck_213)
theorem kz_213 : lenA cx 213 (.p (.v (.slice none 0 0))) = some 0 := nr (len_nil ck_213)
theorem km_213 {t e j n : Nat} : lenA cx 213 (.ms t e j n) = some n := nr (len_ms ck_213)
theorem ce_41 : cx.eqs 41 = some [.int, .int, .str] := nr rfl
theorem ce_44 : cx.eqs 44 = some [.str, .int, .bool, .bool] := nr rfl
theorem ce_106 : cx.eqs 106 = some [.int, .str, .int] := nr rfl
theorem ce_137 : cx.eqs 137 = some [.str, .str, .int] := nr rfl
theorem ca_3_1_false : arrF 3 1 false = [(0, 1, false), (1, 1, false), (2, 1, false)] := nr rfl
theorem ca_4_1_false : arrF 4 1 false = [(0, 1, false), (1, 1, false), (2, 1, false), (3, 1, false)] := nr rfl
theorem ca_13_1_false : arrF 13 1 false = [(0, 1, false), (1, 1, false), (2, 1, false), (3, 1, false), (4, 1, false), (5, 1, false), (6, 1, false), (7, 1, false), (8, 1, false), (9, 1, false), (10, 1, false), (11, 1, false), (12, 1, false)] := nr rfl
theorem ca_16_2_true : arrF 16 2 true = [(0, 2, true), (2, 2, true), (4, 2, true), (6, 2, true), (8, 2, true), (10, 2, true), (12, 2, true), (14, 2, true), (16, 2, true), (18, 2, true), (20, 2, true), (22, 2, true), (24, 2, true), (26, 2, true), (28, 2, true), (30, 2, true)] := nr rfl
theorem ca_20_1_false : arrF 20 1 false = [(0, 1, false), (1, 1, false), (2, 1, false), (3, 1, false), (4, 1, false), (5, 1, false), (6, 1, false), (7, 1, false), (8, 1, false), (9, 1, false), (10, 1, false), (11, 1, false), (12, 1, false), (13, 1, false), (14, 1, false), (15, 1, false), (16, 1, false), (17, 1, false), (18, 1, false), (19, 1, false)] := nr rfl
theorem cx_arr : (type_of% ca_3_1_false) ∧ (type_of% ca_4_1_false) ∧ (type_of% ca_13_1_false) ∧ (type_of% ca_16_2_true) ∧ (type_of% ca_20_1_false) := ⟨ca_3_1_false, ca_4_1_false, ca_13_1_false, ca_16_2_true, ca_20_1_false⟩
theorem aa {p q : Prop} (h : p) (k : q) : p ∧ q := ⟨h, k⟩
def T2 := aa ck_2 cx_2
def T3 := aa ck_3 cx_3
def T4 := aa ck_4 cx_4
def T5 := aa ck_5 cx_5
def T9 := aa ck_9 cx_9
def T22 := aa ck_22 <| aa cx_22 <| aa @ks_22 <| aa @ko_22 <| aa @kn_22 <| aa @km_22 kz_22
def T24 := aa ck_24 cx_24
def T25 := aa ck_25 <| aa cx_25 <| aa @ks_25 <| aa @ko_25 <| aa @kn_25 <| aa @km_25 kz_25
def T27 := aa ck_27 cx_27
def T29 := aa ck_29 <| aa cx_29 <| aa @ks_29 <| aa @ko_29 <| aa @kn_29 <| aa @km_29 kz_29
def T30 := aa ck_30 <| aa cx_30 <| aa @ks_30 <| aa @ko_30 <| aa @kn_30 <| aa @km_30 kz_30
def T31 := aa ck_31 <| aa cx_31 <| aa @ks_31 <| aa @ko_31 <| aa @kn_31 <| aa @km_31 kz_31
def T32 := aa ck_32 <| aa cx_32 <| aa @ks_32 <| aa @ko_32 <| aa @kn_32 <| aa @km_32 kz_32
def T33 := aa ck_33 <| aa cx_33 <| aa @ks_33 <| aa @ko_33 <| aa @kn_33 <| aa @km_33 kz_33
def T34 := aa ck_34 <| aa cx_34 <| aa @ks_34 <| aa @ko_34 <| aa @kn_34 <| aa @km_34 kz_34
def T36 := aa ck_36 cx_36
def T39 := aa ck_39 <| aa cx_39 <| aa @ks_39 <| aa @ko_39 <| aa @kn_39 <| aa @km_39 kz_39
def T41 := aa ck_41 <| aa cx_41 ce_41
def T44 := aa ck_44 <| aa cx_44 ce_44
def T45 := aa ck_45 cx_45
def T52 := aa ck_52 <| aa cx_52 <| aa @ks_52 <| aa @ko_52 <| aa @kn_52 <| aa @km_52 kz_52
def T58 := aa ck_58 cx_58
def T64 := aa ck_64 <| aa cx_64 <| aa @ks_64 <| aa @ko_64 <| aa @kn_64 <| aa @km_64 kz_64
def T67 := aa ck_67 cx_67
def T69 := aa ck_69 cx_69
def T78 := aa ck_78 cx_78
def T79 := aa ck_79 <| aa cx_79 <| aa @ks_79 <| aa @ko_79 <| aa @kn_79 <| aa @km_79 kz_79
def T87 := aa ck_87 <| aa cx_87 <| aa @ks_87 <| aa @ko_87 <| aa @kn_87 <| aa @km_87 kz_87
def T92 := aa ck_92 <| aa cx_92 <| aa @ks_92 <| aa @ko_92 <| aa @kn_92 <| aa @km_92 kz_92
def T106 := aa ck_106 <| aa cx_106 ce_106
def T117 := aa ck_117 cx_117
def T120 := aa ck_120 cx_120
def T124 := aa ck_124 cx_124
def T128 := aa ck_128 cx_128
def T137 := aa ck_137 <| aa cx_137 ce_137
def T142 := aa ck_142 cx_142
def T162 := aa ck_162 cx_162
def T168 := aa ck_168 cx_168
def T170 := aa ck_170 cx_170
def T171 := aa ck_171 cx_171
def T174 := aa ck_174 cx_174
def T192 := aa ck_192 cx_192
def T193 := aa ck_193 cx_193
def T194 := aa ck_194 cx_194
def T197 := aa ck_197 <| aa cx_197 <| aa @ks_197 <| aa @ko_197 <| aa @kn_197 <| aa @km_197 kz_197
def T213 := aa ck_213 <| aa cx_213 <| aa @ks_213 <| aa @ko_213 <| aa @kn_213 <| aa @km_213 kz_213
theorem wX : (type_of% @wBB) ∧ (type_of% @wBC) ∧ (type_of% @cx_muts) ∧ (type_of% @cx_arr) ∧ (type_of% @wBD) := ⟨wBB, wBC, cx_muts, cx_arr, wBD⟩
end Go.Proofs.YtcnkmandddfdmaaGreatDoor
