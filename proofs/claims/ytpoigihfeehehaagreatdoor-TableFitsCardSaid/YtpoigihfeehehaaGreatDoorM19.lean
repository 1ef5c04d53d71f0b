/- The table of types of this program, for the abstract machine. -/
import Derived.Test.YtpoigihfeehehaaGreatDoorM13
import Derived.Test.YtpoigihfeehehaaGreatDoorRows
set_option linter.all false
set_option maxRecDepth 100000
set_option maxHeartbeats 32000000
set_option maxRecDepth 20000
namespace Go.Proofs.YtpoigihfeehehaaGreatDoor
open List (length_cons length_map length_nil)
def Pk:List Value:=[.int .i64 0]++zB 512
theorem Ag6:(Cq Pk).length=513:=by simp only[Pk,Cq,zB,length_map,List.length_append,List.length_replicate,length_cons,length_nil]
def zT65:List Value:=[.int .i64 0]++zB 64
theorem Ak0:(Cq zT65).length=65:=by simp only[zT65,Cq,zB,length_map,List.length_append,List.length_replicate,length_cons,length_nil]
def Q5:List Value:=[.int .i64 0]++zB 512++[.bool false]++[.int .i64 0,.int .i64 0]
theorem Ag7:(Cq Q5).length=516:=by simp only[Q5,Cq,zB,length_map,List.length_append,List.length_replicate,length_cons,length_nil]
def cxL:List (TypeId×TI):=[
 (1,⟨1,false,[.nilFunc],.other⟩),
 (2,⟨1,false,[.int .i64 0],.int .i64⟩),
 (3,⟨1,false,[.int .i64 0],.int .i64⟩),
 (4,⟨1,false,[.bool false],.bool⟩),
 (5,⟨1,false,[.int .u8 0],.int .u8⟩),
 (9,⟨1,false,[.string ⟨#[]⟩],.str⟩),
 (12,⟨1,false,[.int .u64 0],.int .u64⟩),
 (13,⟨2,true,[.string ⟨#[]⟩,.int .u64 0],.struct [(0,1,false),(1,1,false)]⟩),
 (19,⟨1,true,[.pointer none],.struct [(0,1,false)]⟩),
 (21,⟨1,false,[.int .i32 0],.int .i32⟩),
 (22,⟨1,false,[.slice none 0 0],.slice 54 1 24 [.slice none 0 0]⟩),
 (23,⟨3,true,[.int .i64 0,.int .i64 0,.string ⟨#[]⟩],.struct [(0,1,false),(1,1,false),(2,1,false)]⟩),
 (24,⟨3,true,[.int .i64 0,.int .i64 0,.string ⟨#[]⟩],.struct [(0,1,false),(1,1,false),(2,1,false)]⟩),
 (25,⟨8,true,[.string ⟨#[]⟩,.int .i64 0,.int .i64 0,.int .i64 0,.string ⟨#[]⟩,.int .i64 0,.int .i64 0,.string ⟨#[]⟩],.struct [(0,1,false),(1,1,false),(2,3,true),(5,3,true)]⟩),
 (26,⟨8,true,[.string ⟨#[]⟩,.int .i64 0,.int .i64 0,.int .i64 0,.string ⟨#[]⟩,.int .i64 0,.int .i64 0,.string ⟨#[]⟩],.struct [(0,1,false),(1,1,false),(2,3,true),(5,3,true)]⟩),
 (27,⟨1,false,[.nilFunc],.other⟩),
 (28,⟨1,false,[.pointer none],.ptr⟩),
 (29,⟨1,false,[.int .i64 0],.int .i64⟩),
 (31,⟨1,false,[.nilFunc],.other⟩),
 (32,⟨1,false,[.pointer none],.ptr⟩),
 (33,⟨1,false,[.nilFunc],.other⟩),
 (34,⟨1,false,[.int .u64 0],.int .u64⟩),
 (35,⟨1,false,[.nilFunc],.other⟩),
 (36,⟨4,true,[.string ⟨#[]⟩,.string ⟨#[]⟩,.int .i64 0,.bool false],.struct [(0,1,false),(1,1,false),(2,1,false),(3,1,false)]⟩),
 (37,⟨4,true,[.string ⟨#[]⟩,.string ⟨#[]⟩,.int .i64 0,.bool false],.struct [(0,1,false),(1,1,false),(2,1,false),(3,1,false)]⟩),
 (38,⟨1,false,[.pointer none],.ptr⟩),
 (39,⟨1,false,[.nilFunc],.other⟩),
 (40,⟨1,false,[.slice none 0 0],.slice 72 4 32 [.string ⟨#[]⟩,.int .i64 0,.bool false,.bool false]⟩),
 (41,⟨2,true,[.string ⟨#[]⟩,.slice none 0 0],.struct [(0,1,false),(1,1,false)]⟩),
 (42,⟨2,true,[.string ⟨#[]⟩,.slice none 0 0],.struct [(0,1,false),(1,1,false)]⟩),
 (43,⟨1,false,[.slice none 0 0],.slice 37 4 48 [.string ⟨#[]⟩,.string ⟨#[]⟩,.int .i64 0,.bool false]⟩),
 (44,⟨1,false,[.slice none 0 0],.slice 3 1 8 [.int .i64 0]⟩),
 (45,⟨5,true,[.string ⟨#[]⟩,.slice none 0 0,.slice none 0 0,.int .i64 0,.slice none 0 0],.struct [(0,2,true),(2,1,false),(3,1,false),(4,1,false)]⟩),
 (46,⟨5,true,[.string ⟨#[]⟩,.slice none 0 0,.slice none 0 0,.int .i64 0,.slice none 0 0],.struct [(0,2,true),(2,1,false),(3,1,false),(4,1,false)]⟩),
 (48,⟨1,false,[.nilFunc],.other⟩),
 (49,⟨1,false,[.nilFunc],.other⟩),
 (50,⟨2,true,[.int .i64 0,.int .i64 0],.struct [(0,1,false),(1,1,false)]⟩),
 (51,⟨2,true,[.int .i64 0,.int .i64 0],.struct [(0,1,false),(1,1,false)]⟩),
 (53,⟨1,false,[.nilFunc],.other⟩),
 (54,⟨1,false,[.slice none 0 0],.slice 24 3 32 [.int .i64 0,.int .i64 0,.string ⟨#[]⟩]⟩),
 (55,⟨1,false,[.nilFunc],.other⟩),
 (56,⟨1,false,[.slice none 0 0],.slice 62 5 56 [.int .i64 0,.int .i64 0,.int .i64 0,.int .i64 0,.slice none 0 0]⟩),
 (58,⟨1,false,[.nilFunc],.other⟩),
 (59,⟨1,false,[.nilFunc],.other⟩),
 (60,⟨1,false,[.nilFunc],.other⟩),
 (61,⟨5,true,[.int .i64 0,.int .i64 0,.int .i64 0,.int .i64 0,.slice none 0 0],.struct [(0,2,true),(2,1,false),(3,1,false),(4,1,false)]⟩),
 (62,⟨5,true,[.int .i64 0,.int .i64 0,.int .i64 0,.int .i64 0,.slice none 0 0],.struct [(0,2,true),(2,1,false),(3,1,false),(4,1,false)]⟩),
 (63,⟨1,false,[.nilFunc],.other⟩),
 (64,⟨1,false,[.nilFunc],.other⟩),
 (65,⟨4,true,[.slice none 0 0,.int .i64 0,.int .i64 0,.int .i64 0],.struct [(0,1,false),(1,1,false),(2,1,false),(3,1,false)]⟩),
 (66,⟨4,true,[.slice none 0 0,.int .i64 0,.int .i64 0,.int .i64 0],.struct [(0,1,false),(1,1,false),(2,1,false),(3,1,false)]⟩),
 (67,⟨1,false,[.nilFunc],.other⟩),
 (68,⟨1,false,[.nilFunc],.other⟩),
 (69,⟨1,false,[.nilFunc],.other⟩),
 (70,⟨1,false,[.slice none 0 0],.slice 5 1 1 [.int .u8 0]⟩),
 (71,⟨4,true,[.string ⟨#[]⟩,.int .i64 0,.bool false,.bool false],.struct [(0,1,false),(1,1,false),(2,1,false),(3,1,false)]⟩),
 (72,⟨4,true,[.string ⟨#[]⟩,.int .i64 0,.bool false,.bool false],.struct [(0,1,false),(1,1,false),(2,1,false),(3,1,false)]⟩),
 (73,⟨1,false,[.nilFunc],.other⟩),
 (74,⟨1,false,[.nilFunc],.other⟩),
 (75,⟨1,false,[.nilFunc],.other⟩),
 (76,⟨1,false,[.nilFunc],.other⟩),
 (77,⟨1,false,[.nilFunc],.other⟩),
 (78,⟨1,false,[.nilFunc],.other⟩),
 (79,⟨1,false,[.nilFunc],.other⟩),
 (80,⟨1,false,[.pointer none],.ptr⟩),
 (81,⟨1,false,[.slice none 0 0],.slice 70 1 24 [.slice none 0 0]⟩),
 (83,⟨1,false,[.nilFunc],.other⟩),
 (84,⟨1,false,[.map none],.map (.int .i64) (.pointer none)⟩),
 (85,⟨1,false,[.slice none 0 0],.slice 154 1 8 [.pointer none]⟩),
 (86,⟨1,false,[.slice none 0 0],.slice 154 1 8 [.pointer none]⟩),
 (87,⟨6,true,[.pointer none,.pointer none,.int .i64 0,.slice none 0 0,.map none,.int .i64 0],.struct [(0,1,false),(1,1,false),(2,1,false),(3,1,false),(4,1,false),(5,1,false)]⟩),
 (88,⟨6,true,[.pointer none,.pointer none,.int .i64 0,.slice none 0 0,.map none,.int .i64 0],.struct [(0,1,false),(1,1,false),(2,1,false),(3,1,false),(4,1,false),(5,1,false)]⟩),
 (89,⟨1,false,[.slice none 0 0],.slice 153 513 520 Pk⟩),
 (91,⟨1,false,[.nilFunc],.other⟩),
 (92,⟨1,false,[.nilFunc],.other⟩),
 (93,⟨1,false,[.map none],.map (.int .i64) (.agg ⟨(zB 64)⟩)⟩),
 (94,⟨1,false,[.slice none 0 0],.slice 139 65 72 zT65⟩),
 (95,⟨6,true,[.int .i64 0,.map none,.map none,.slice none 0 0,.bool false,.int .i64 0],.struct [(0,1,false),(1,1,false),(2,1,false),(3,1,false),(4,1,false),(5,1,false)]⟩),
 (96,⟨6,true,[.int .i64 0,.map none,.map none,.slice none 0 0,.bool false,.int .i64 0],.struct [(0,1,false),(1,1,false),(2,1,false),(3,1,false),(4,1,false),(5,1,false)]⟩),
 (97,⟨2,true,[.pointer none,.slice none 0 0],.struct [(0,1,false),(1,1,false)]⟩),
 (98,⟨2,true,[.pointer none,.slice none 0 0],.struct [(0,1,false),(1,1,false)]⟩),
 (100,⟨1,false,[.nilFunc],.other⟩),
 (101,⟨1,false,[.nilFunc],.other⟩),
 (102,⟨1,false,[.nilFunc],.other⟩),
 (103,⟨1,false,[.nilFunc],.other⟩),
 (105,⟨1,false,[.nilFunc],.other⟩),
 (106,⟨1,false,[.nilFunc],.other⟩),
 (107,⟨1,false,[.nilFunc],.other⟩),
 (108,⟨1,false,[.nilFunc],.other⟩),
 (109,⟨1,false,[.nilFunc],.other⟩),
 (110,⟨3,true,[.nilFunc,.nilFunc,.nilFunc],.struct [(0,1,false),(1,1,false),(2,1,false)]⟩),
 (111,⟨3,true,[.nilFunc,.nilFunc,.nilFunc],.struct [(0,1,false),(1,1,false),(2,1,false)]⟩),
 (112,⟨1,false,[.nilFunc],.other⟩),
 (113,⟨1,false,[.nilFunc],.other⟩),
 (114,⟨1,false,[.nilFunc],.other⟩),
 (115,⟨1,false,[.nilFunc],.other⟩),
 (116,⟨1,false,[.slice none 0 0],.slice 120 3 40 [.int .i64 0,.int .i64 0,.slice none 0 0]⟩),
 (118,⟨1,false,[.nilFunc],.other⟩),
 (119,⟨3,true,[.int .i64 0,.int .i64 0,.slice none 0 0],.struct [(0,2,true),(2,1,false)]⟩),
 (120,⟨3,true,[.int .i64 0,.int .i64 0,.slice none 0 0],.struct [(0,2,true),(2,1,false)]⟩),
 (122,⟨1,false,[.nilFunc],.other⟩),
 (123,⟨1,false,[.nilFunc],.other⟩),
 (124,⟨1,false,[.slice none 0 0],.slice 51 2 16 [.int .i64 0,.int .i64 0]⟩),
 (126,⟨1,false,[.nilFunc],.other⟩),
 (127,⟨1,false,[.nilFunc],.other⟩),
 (128,⟨1,false,[.nilFunc],.other⟩),
 (129,⟨1,false,[.nilFunc],.other⟩),
 (130,⟨1,false,[.nilFunc],.other⟩),
 (131,⟨1,false,[.nilFunc],.other⟩),
 (132,⟨1,false,[.nilFunc],.other⟩),
 (133,⟨1,false,[.nilFunc],.other⟩),
 (134,⟨1,false,[.nilFunc],.other⟩),
 (135,⟨1,false,[.slice none 0 0],.slice 4 1 1 [.bool false]⟩),
 (136,⟨64,true,(zB 64),.barr 64⟩),
 (137,⟨64,true,(zB 64),.barr 64⟩),
 (138,⟨65,true,zT65,.struct [(0,1,false),(1,64,true)]⟩),
 (139,⟨65,true,zT65,.struct [(0,1,false),(1,64,true)]⟩),
 (140,⟨1,false,[.int .u64 0],.int .u64⟩),
 (141,⟨2,true,[.int .u64 0,.int .u64 0],.struct [(0,1,false),(1,1,false)]⟩),
 (142,⟨2,true,[.int .u64 0,.int .u64 0],.struct [(0,1,false),(1,1,false)]⟩),
 (143,⟨5,true,[.pointer none,.int .u64 0,.int .u64 0,.slice none 0 0,.int .i64 0],.struct [(0,1,false),(1,2,true),(3,1,false),(4,1,false)]⟩),
 (144,⟨5,true,[.pointer none,.int .u64 0,.int .u64 0,.slice none 0 0,.int .i64 0],.struct [(0,1,false),(1,2,true),(3,1,false),(4,1,false)]⟩),
 (146,⟨1,false,[.nilFunc],.other⟩),
 (147,⟨1,false,[.nilFunc],.other⟩),
 (149,⟨1,false,[.nilFunc],.other⟩),
 (150,⟨512,true,(zB 512),.barr 512⟩),
 (151,⟨512,true,(zB 512),.barr 512⟩),
 (152,⟨513,true,Pk,.struct [(0,1,false),(1,512,true)]⟩),
 (153,⟨513,true,Pk,.struct [(0,1,false),(1,512,true)]⟩),
 (154,⟨1,false,[.pointer none],.ptr⟩),
 (156,⟨1,false,[.nilFunc],.other⟩),
 (157,⟨516,true,Q5,.struct [(0,1,false),(1,512,true),(513,1,false),(514,1,false),(515,1,false)]⟩),
 (158,⟨516,true,Q5,.struct [(0,1,false),(1,512,true),(513,1,false),(514,1,false),(515,1,false)]⟩),
 (159,⟨1,false,[.nilFunc],.other⟩),
 (160,⟨1,false,[.nilFunc],.other⟩),
 (161,⟨1,false,[.nilFunc],.other⟩),
 (163,⟨1,false,[.nilFunc],.other⟩),
 (164,⟨1,false,[.nilFunc],.other⟩),
 (165,⟨1,false,[.nilFunc],.other⟩),
 (166,⟨1,false,[.nilFunc],.other⟩),
 (167,⟨1,false,[.nilFunc],.other⟩),
 (169,⟨1,false,[.nilFunc],.other⟩),
 (171,⟨1,false,[.nilFunc],.other⟩),
 (172,⟨1,false,[.nilFunc],.other⟩),
 (173,⟨1,false,[.nilFunc],.other⟩),
 (174,⟨1,false,[.nilFunc],.other⟩),
 (175,⟨1,false,[.nilFunc],.other⟩),
 (177,⟨1,false,[.nilFunc],.other⟩),
 (179,⟨1,false,[.nilFunc],.other⟩),
 (180,⟨1,false,[.nilFunc],.other⟩),
 (181,⟨1,false,[.nilFunc],.other⟩),
 (182,⟨1,false,[.nilFunc],.other⟩),
 (183,⟨1,false,[.nilFunc],.other⟩),
 (184,⟨1,false,[.nilFunc],.other⟩),
 (185,⟨6,true,[.int .i64 0,.int .i64 0,.string ⟨#[]⟩,.int .i64 0,.int .i64 0,.string ⟨#[]⟩],.arr 2 3 true⟩),
 (186,⟨1,false,[.slice none 0 0],.slice 185 6 64 [.int .i64 0,.int .i64 0,.string ⟨#[]⟩,.int .i64 0,.int .i64 0,.string ⟨#[]⟩]⟩),
 (187,⟨1,false,[.nilFunc],.other⟩),
 (188,⟨1,false,[.slice none 0 0],.slice 192 3 40 [.slice none 0 0,.int .i64 0,.int .i64 0]⟩),
 (190,⟨1,false,[.nilFunc],.other⟩),
 (191,⟨3,true,[.slice none 0 0,.int .i64 0,.int .i64 0],.struct [(0,1,false),(1,2,true)]⟩),
 (192,⟨3,true,[.slice none 0 0,.int .i64 0,.int .i64 0],.struct [(0,1,false),(1,2,true)]⟩),
 (194,⟨1,false,[.nilFunc],.other⟩),
 (195,⟨1,false,[.nilFunc],.other⟩),
 (196,⟨1,false,[.nilFunc],.other⟩),
 (197,⟨1,false,[.nilFunc],.other⟩),
 (198,⟨1,false,[.nilFunc],.other⟩),
 (199,⟨1,false,[.nilFunc],.other⟩),
 (200,⟨1,false,[.nilFunc],.other⟩),
 (201,⟨1,false,[.nilFunc],.other⟩),
 (202,⟨1,false,[.nilFunc],.other⟩),
 (204,⟨1,false,[.nilFunc],.other⟩),
 (206,⟨1,false,[.nilFunc],.other⟩),
 (207,⟨1,false,[.nilFunc],.other⟩),
 (208,⟨1,false,[.pointer none],.ptr⟩),
 (209,⟨1,false,[.nilFunc],.other⟩),
 (210,⟨1,false,[.nilFunc],.other⟩),
 (211,⟨1,false,[.nilFunc],.other⟩),
 (212,⟨1,false,[.nilFunc],.other⟩),
 (213,⟨1,false,[.nilFunc],.other⟩),
 (214,⟨1,false,[.nilFunc],.other⟩),
 (215,⟨1,false,[.nilFunc],.other⟩),
 (216,⟨1,false,[.nilFunc],.other⟩),
 (217,⟨2,true,[.pointer none,.slice none 0 0],.struct [(0,1,false),(1,1,false)]⟩),
 (218,⟨2,true,[.pointer none,.slice none 0 0],.struct [(0,1,false),(1,1,false)]⟩),
 (220,⟨1,false,[.nilFunc],.other⟩),
 (222,⟨1,false,[.nilFunc],.other⟩),
 (223,⟨1,false,[.nilFunc],.other⟩),
 (224,⟨1,false,[.nilFunc],.other⟩),
 (225,⟨1,false,[.nilFunc],.other⟩),
 (226,⟨1,false,[.nilFunc],.other⟩),
 (227,⟨1,true,[.pointer none],.struct [(0,1,false)]⟩),
 (228,⟨1,true,[.pointer none],.struct [(0,1,false)]⟩),
 (229,⟨1,false,[.pointer none],.ptr⟩),
 (231,⟨1,false,[.nilFunc],.other⟩),
 (232,⟨1,false,[.slice none 0 0],.slice 239 4 48 [.slice none 0 0,.int .i64 0,.int .i64 0,.int .i64 0]⟩),
 (233,⟨2,true,[.int .i64 0,.slice none 0 0],.struct [(0,1,false),(1,1,false)]⟩),
 (234,⟨2,true,[.int .i64 0,.slice none 0 0],.struct [(0,1,false),(1,1,false)]⟩),
 (236,⟨1,false,[.nilFunc],.other⟩),
 (237,⟨1,false,[.nilFunc],.other⟩),
 (238,⟨4,true,[.slice none 0 0,.int .i64 0,.int .i64 0,.int .i64 0],.struct [(0,3,true),(3,1,false)]⟩),
 (239,⟨4,true,[.slice none 0 0,.int .i64 0,.int .i64 0,.int .i64 0],.struct [(0,3,true),(3,1,false)]⟩),
 (240,⟨1,false,[.nilFunc],.other⟩),
 (241,⟨1,false,[.nilFunc],.other⟩),
 (242,⟨1,false,[.pointer none],.ptr⟩),
 (243,⟨2,true,[.slice none 0 0,.int .i64 0],.struct [(0,1,false),(1,1,false)]⟩),
 (244,⟨2,true,[.slice none 0 0,.int .i64 0],.struct [(0,1,false),(1,1,false)]⟩),
 (245,⟨1,false,[.nilFunc],.other⟩),
 (246,⟨1,false,[.nilFunc],.other⟩),
 (247,⟨1,false,[.nilFunc],.other⟩),
 (248,⟨1,false,[.nilFunc],.other⟩),
 (249,⟨1,false,[.nilFunc],.other⟩),
 (250,⟨1,false,[.nilFunc],.other⟩),
 (251,⟨1,false,[.nilFunc],.other⟩),
 (252,⟨1,false,[.nilFunc],.other⟩),
 (253,⟨1,false,[.nilFunc],.other⟩),
 (254,⟨1,false,[.nilFunc],.other⟩),
 (255,⟨1,false,[.nilFunc],.other⟩),
 (258,⟨1,false,[.nilFunc],.other⟩),
 (259,⟨1,false,[.nilFunc],.other⟩),
 (260,⟨1,false,[.nilFunc],.other⟩),
 (261,⟨1,false,[.nilFunc],.other⟩),
 (262,⟨1,false,[.nilFunc],.other⟩),
 (263,⟨1,false,[.nilFunc],.other⟩),
 (264,⟨1,false,[.nilFunc],.other⟩),
 (265,⟨1,false,[.nilFunc],.other⟩),
 (267,⟨1,false,[.nilFunc],.other⟩),
 (268,⟨1,false,[.nilFunc],.other⟩),
 (269,⟨1,false,[.nilFunc],.other⟩),
 (270,⟨1,false,[.nilFunc],.other⟩),
 (271,⟨1,false,[.nilFunc],.other⟩),
 (272,⟨1,false,[.nilFunc],.other⟩),
 (273,⟨1,false,[.nilFunc],.other⟩),
 (274,⟨1,false,[.nilFunc],.other⟩),
 (275,⟨1,false,[.nilFunc],.other⟩),
 (276,⟨1,false,[.nilFunc],.other⟩),
 (277,⟨1,false,[.nilFunc],.other⟩),
 (278,⟨1,false,[.nilFunc],.other⟩),
 (279,⟨1,false,[.int .i64 0],.int .i64⟩),
 (281,⟨1,false,[.nilFunc],.other⟩),
 (282,⟨1,false,[.nilFunc],.other⟩),
 (283,⟨1,false,[.nilFunc],.other⟩),
 (284,⟨1,false,[.nilFunc],.other⟩),
 (285,⟨1,false,[.nilFunc],.other⟩),
 (286,⟨1,false,[.int .u32 0],.int .u32⟩),
 (287,⟨1,false,[.nilFunc],.other⟩),
 (288,⟨1,false,[.nilFunc],.other⟩),
 (289,⟨1,false,[.nilFunc],.other⟩),
 (290,⟨1,false,[.nilFunc],.other⟩),
 (291,⟨1,false,[.nilFunc],.other⟩),
 (292,⟨1,false,[.nilFunc],.other⟩),
 (293,⟨1,false,[.nilFunc],.other⟩),
 (294,⟨1,false,[.nilFunc],.other⟩),
 (295,⟨1,false,[.nilFunc],.other⟩),
 (296,⟨1,false,[.nilFunc],.other⟩),
 (297,⟨1,false,[.pointer none],.ptr⟩),
 (298,⟨2,true,[.pointer none,.slice none 0 0],.struct [(0,1,false),(1,1,false)]⟩),
 (299,⟨2,true,[.pointer none,.slice none 0 0],.struct [(0,1,false),(1,1,false)]⟩),
 (300,⟨1,false,[.nilFunc],.other⟩),
 (304,⟨1,false,[.nilFunc],.other⟩),
 (306,⟨1,false,[.nilFunc],.other⟩),
 (307,⟨1,false,[.nilFunc],.other⟩),
 (308,⟨1,false,[.int .u64 0],.int .u64⟩),
 (309,⟨1,false,[.nilFunc],.other⟩),
 (310,⟨1,false,[.nilFunc],.other⟩),
 (311,⟨1,false,[.nilFunc],.other⟩),
 (312,⟨1,false,[.pointer none],.ptr⟩),
 (313,⟨1,false,[.nilFunc],.other⟩),
 (314,⟨1,false,[.nilFunc],.other⟩),
 (315,⟨1,false,[.nilFunc],.other⟩),
 (316,⟨1,false,[.nilFunc],.other⟩),
 (317,⟨1,false,[.nilFunc],.other⟩),
 (318,⟨1,false,[.nilFunc],.other⟩),
 (319,⟨1,false,[.slice none 0 0],.slice 232 1 24 [.slice none 0 0]⟩),
 (320,⟨1,false,[.nilFunc],.other⟩),
 (321,⟨1,false,[.nilFunc],.other⟩),
 (322,⟨1,false,[.nilFunc],.other⟩),
 (323,⟨1,false,[.pointer none],.ptr⟩),
 (324,⟨1,false,[.pointer none],.ptr⟩),
 (326,⟨1,false,[.nilFunc],.other⟩),
 (327,⟨1,false,[.nilFunc],.other⟩),
 (328,⟨1,false,[.nilFunc],.other⟩),
 (329,⟨1,false,[.nilFunc],.other⟩),
 (331,⟨1,false,[.nilFunc],.other⟩),
 (332,⟨256,true,(zB 256),.barr 256⟩),
 (333,⟨2,true,[.int .u8 0,.int .u8 0],.struct [(0,1,false),(1,1,false)]⟩),
 (334,⟨2,true,[.int .u8 0,.int .u8 0],.struct [(0,1,false),(1,1,false)]⟩),
 (335,⟨32,true,(zB 32),.arr 16 2 true⟩),
 (336,⟨1,false,[.nilFunc],.other⟩),
 (338,⟨1,false,[.nilFunc],.other⟩),
 (346,⟨1,false,[.nilFunc],.other⟩)]
def cxQ:List (TypeId×List EK):=[(24,[.int,.int,.str]),(26,[.str,.int,.int,.int,.str,.int,.int,.str]),(37,[.str,.str,.int,.bool]),(51,[.int,.int]),(72,[.str,.int,.bool,.bool]),(142,[.int,.int]),(334,[.int,.int])]
def cxM:List (TypeId×String×FuncId×Option TypeId):=[(208, "Len",255,some 86),(208, "Less",256,some 86),(208, "Swap",257,some 86),(208, "Pop",258,none),(208, "Push",259,none)]
def cx:Ctx:=Afw cxL [8600019,8600007,8900029,7000030,7000032,7000093,7000026] cxQ cxM
theorem Am:cx.ok Tryz.prog:=Ad8 (by kernel_rfl) (by kernel_rfl) (by kernel_rfl)
theorem Ao:Hq Tryz.prog (E4 Tryz.prog cx):=J9 Am (by kernel_rfl)
theorem Ag8:cx.muts=[8600019,8600007,8900029,7000030,7000032,7000093,7000026]:=nr rfl
theorem cx_1:cx.ty 1=some ⟨1,false,[.nilFunc],.other⟩:=nr rfl
theorem ck_1:cx.kind 1=some (.other):=nr rfl
theorem cx_2:cx.ty 2=some ⟨1,false,[.int .i64 0],.int .i64⟩:=nr rfl
theorem ck_2:cx.kind 2=some (.int .i64):=nr rfl
theorem cx_3:cx.ty 3=some ⟨1,false,[.int .i64 0],.int .i64⟩:=nr rfl
theorem ck_3:cx.kind 3=some (.int .i64):=nr rfl
theorem cx_4:cx.ty 4=some ⟨1,false,[.bool false],.bool⟩:=nr rfl
theorem ck_4:cx.kind 4=some (.bool):=nr rfl
theorem cx_5:cx.ty 5=some ⟨1,false,[.int .u8 0],.int .u8⟩:=nr rfl
theorem ck_5:cx.kind 5=some (.int .u8):=nr rfl
theorem cx_9:cx.ty 9=some ⟨1,false,[.string ⟨#[]⟩],.str⟩:=nr rfl
theorem ck_9:cx.kind 9=some (.str):=nr rfl
theorem Axk:cx.ty 24=some ⟨3,true,[.int .i64 0,.int .i64 0,.string ⟨#[]⟩],.struct [(0,1,false),(1,1,false),(2,1,false)]⟩:=nr rfl
theorem Axl:cx.kind 24=some (.struct [(0,1,false),(1,1,false),(2,1,false)]):=nr rfl
theorem Axm:cx.ty 26=some ⟨8,true,[.string ⟨#[]⟩,.int .i64 0,.int .i64 0,.int .i64 0,.string ⟨#[]⟩,.int .i64 0,.int .i64 0,.string ⟨#[]⟩],.struct [(0,1,false),(1,1,false),(2,3,true),(5,3,true)]⟩:=nr rfl
theorem Axn:cx.kind 26=some (.struct [(0,1,false),(1,1,false),(2,3,true),(5,3,true)]):=nr rfl
theorem Axo:cx.ty 28=some ⟨1,false,[.pointer none],.ptr⟩:=nr rfl
theorem Apd:cx.kind 28=some (.ptr):=nr rfl
theorem Axp:cx.ty 29=some ⟨1,false,[.int .i64 0],.int .i64⟩:=nr rfl
theorem Axq:cx.kind 29=some (.int .i64):=nr rfl
theorem Axr:cx.ty 32=some ⟨1,false,[.pointer none],.ptr⟩:=nr rfl
theorem Ape:cx.kind 32=some (.ptr):=nr rfl
theorem Axs:cx.ty 34=some ⟨1,false,[.int .u64 0],.int .u64⟩:=nr rfl
theorem Axt:cx.kind 34=some (.int .u64):=nr rfl
theorem Axu:cx.ty 35=some ⟨1,false,[.nilFunc],.other⟩:=nr rfl
theorem Axv:cx.kind 35=some (.other):=nr rfl
theorem Axw:cx.ty 37=some ⟨4,true,[.string ⟨#[]⟩,.string ⟨#[]⟩,.int .i64 0,.bool false],.struct [(0,1,false),(1,1,false),(2,1,false),(3,1,false)]⟩:=nr rfl
theorem Axx:cx.kind 37=some (.struct [(0,1,false),(1,1,false),(2,1,false),(3,1,false)]):=nr rfl
theorem Axy:cx.ty 38=some ⟨1,false,[.pointer none],.ptr⟩:=nr rfl
theorem Apf:cx.kind 38=some (.ptr):=nr rfl
theorem Axz:cx.ty 40=some ⟨1,false,[.slice none 0 0],.slice 72 4 32 [.string ⟨#[]⟩,.int .i64 0,.bool false,.bool false]⟩:=nr rfl
theorem W6:cx.kind 40=some (.slice 72 4 32 [.string ⟨#[]⟩,.int .i64 0,.bool false,.bool false]):=nr rfl
theorem Ax0 {e:Nat}{ls:List (List PV)}:Bf cx 40 (.p (.sl e ls))=some ls.length:=nr (D7 W6)
theorem Ax1 {t e:Nat}{ls:List (List PV)}:Bf cx 40 (.own t e ls)=some ls.length:=nr (C7 W6)
theorem Ax2 {t e:Nat}{ls:List (List PV)}:Bf cx 40 (.nown t e ls)=some ls.length:=nr (Ci W6)
theorem Ax3:Bf cx 40 (.p (.v (.slice none 0 0)))=some 0:=nr (len_nil W6)
theorem Ax4 {t e j n:Nat}:Bf cx 40 (.ms t e j n)=some n:=nr (D8 W6)
theorem Ax5 {t e j q n:Nat}:Bf cx 40 (.bs t e j q n)=some n:=nr (Eo W6)
theorem Ax6:cx.ty 42=some ⟨2,true,[.string ⟨#[]⟩,.slice none 0 0],.struct [(0,1,false),(1,1,false)]⟩:=nr rfl
theorem Ax7:cx.kind 42=some (.struct [(0,1,false),(1,1,false)]):=nr rfl
theorem Ax8:cx.ty 43=some ⟨1,false,[.slice none 0 0],.slice 37 4 48 [.string ⟨#[]⟩,.string ⟨#[]⟩,.int .i64 0,.bool false]⟩:=nr rfl
theorem Ua:cx.kind 43=some (.slice 37 4 48 [.string ⟨#[]⟩,.string ⟨#[]⟩,.int .i64 0,.bool false]):=nr rfl
theorem Ax9 {e:Nat}{ls:List (List PV)}:Bf cx 43 (.p (.sl e ls))=some ls.length:=nr (D7 Ua)
theorem Aya {t e:Nat}{ls:List (List PV)}:Bf cx 43 (.own t e ls)=some ls.length:=nr (C7 Ua)
theorem Ayb {t e:Nat}{ls:List (List PV)}:Bf cx 43 (.nown t e ls)=some ls.length:=nr (Ci Ua)
theorem Ayc:Bf cx 43 (.p (.v (.slice none 0 0)))=some 0:=nr (len_nil Ua)
theorem Ayd {t e j n:Nat}:Bf cx 43 (.ms t e j n)=some n:=nr (D8 Ua)
theorem Aye {t e j q n:Nat}:Bf cx 43 (.bs t e j q n)=some n:=nr (Eo Ua)
theorem Ayf:cx.ty 44=some ⟨1,false,[.slice none 0 0],.slice 3 1 8 [.int .i64 0]⟩:=nr rfl
theorem Zk:cx.kind 44=some (.slice 3 1 8 [.int .i64 0]):=nr rfl
theorem Ayg {e:Nat}{ls:List (List PV)}:Bf cx 44 (.p (.sl e ls))=some ls.length:=nr (D7 Zk)
theorem Ayh {t e:Nat}{ls:List (List PV)}:Bf cx 44 (.own t e ls)=some ls.length:=nr (C7 Zk)
theorem Ayi {t e:Nat}{ls:List (List PV)}:Bf cx 44 (.nown t e ls)=some ls.length:=nr (Ci Zk)
theorem Ayj:Bf cx 44 (.p (.v (.slice none 0 0)))=some 0:=nr (len_nil Zk)
theorem Ayk {t e j n:Nat}:Bf cx 44 (.ms t e j n)=some n:=nr (D8 Zk)
theorem Ayl {t e j q n:Nat}:Bf cx 44 (.bs t e j q n)=some n:=nr (Eo Zk)
theorem Aym:cx.ty 46=some ⟨5,true,[.string ⟨#[]⟩,.slice none 0 0,.slice none 0 0,.int .i64 0,.slice none 0 0],.struct [(0,2,true),(2,1,false),(3,1,false),(4,1,false)]⟩:=nr rfl
theorem Ayn:cx.kind 46=some (.struct [(0,2,true),(2,1,false),(3,1,false),(4,1,false)]):=nr rfl
theorem Ayo:cx.ty 51=some ⟨2,true,[.int .i64 0,.int .i64 0],.struct [(0,1,false),(1,1,false)]⟩:=nr rfl
theorem Ayp:cx.kind 51=some (.struct [(0,1,false),(1,1,false)]):=nr rfl
theorem Ayq:cx.ty 54=some ⟨1,false,[.slice none 0 0],.slice 24 3 32 [.int .i64 0,.int .i64 0,.string ⟨#[]⟩]⟩:=nr rfl
theorem Q6:cx.kind 54=some (.slice 24 3 32 [.int .i64 0,.int .i64 0,.string ⟨#[]⟩]):=nr rfl
theorem Ayr {e:Nat}{ls:List (List PV)}:Bf cx 54 (.p (.sl e ls))=some ls.length:=nr (D7 Q6)
theorem Ays {t e:Nat}{ls:List (List PV)}:Bf cx 54 (.own t e ls)=some ls.length:=nr (C7 Q6)
theorem Ayt {t e:Nat}{ls:List (List PV)}:Bf cx 54 (.nown t e ls)=some ls.length:=nr (Ci Q6)
theorem Ayu:Bf cx 54 (.p (.v (.slice none 0 0)))=some 0:=nr (len_nil Q6)
theorem Ayv {t e j n:Nat}:Bf cx 54 (.ms t e j n)=some n:=nr (D8 Q6)
theorem Ayw {t e j q n:Nat}:Bf cx 54 (.bs t e j q n)=some n:=nr (Eo Q6)
theorem Ayx:cx.ty 56=some ⟨1,false,[.slice none 0 0],.slice 62 5 56 [.int .i64 0,.int .i64 0,.int .i64 0,.int .i64 0,.slice none 0 0]⟩:=nr rfl
theorem Pm:cx.kind 56=some (.slice 62 5 56 [.int .i64 0,.int .i64 0,.int .i64 0,.int .i64 0,.slice none 0 0]):=nr rfl
theorem Ayy {e:Nat}{ls:List (List PV)}:Bf cx 56 (.p (.sl e ls))=some ls.length:=nr (D7 Pm)
theorem Ayz {t e:Nat}{ls:List (List PV)}:Bf cx 56 (.own t e ls)=some ls.length:=nr (C7 Pm)
theorem Ay0 {t e:Nat}{ls:List (List PV)}:Bf cx 56 (.nown t e ls)=some ls.length:=nr (Ci Pm)
theorem Ay1:Bf cx 56 (.p (.v (.slice none 0 0)))=some 0:=nr (len_nil Pm)
theorem Ay2 {t e j n:Nat}:Bf cx 56 (.ms t e j n)=some n:=nr (D8 Pm)
theorem Ay3 {t e j q n:Nat}:Bf cx 56 (.bs t e j q n)=some n:=nr (Eo Pm)
theorem Ay4:cx.ty 62=some ⟨5,true,[.int .i64 0,.int .i64 0,.int .i64 0,.int .i64 0,.slice none 0 0],.struct [(0,2,true),(2,1,false),(3,1,false),(4,1,false)]⟩:=nr rfl
theorem Ay5:cx.kind 62=some (.struct [(0,2,true),(2,1,false),(3,1,false),(4,1,false)]):=nr rfl
theorem Ay6:cx.ty 70=some ⟨1,false,[.slice none 0 0],.slice 5 1 1 [.int .u8 0]⟩:=nr rfl
theorem En:cx.kind 70=some (.slice 5 1 1 [.int .u8 0]):=nr rfl
theorem Ay7 {e:Nat}{ls:List (List PV)}:Bf cx 70 (.p (.sl e ls))=some ls.length:=nr (D7 En)
theorem Ay8 {t e:Nat}{ls:List (List PV)}:Bf cx 70 (.own t e ls)=some ls.length:=nr (C7 En)
theorem Ay9 {t e:Nat}{ls:List (List PV)}:Bf cx 70 (.nown t e ls)=some ls.length:=nr (Ci En)
theorem Aza:Bf cx 70 (.p (.v (.slice none 0 0)))=some 0:=nr (len_nil En)
theorem Ar9 {t e j n:Nat}:Bf cx 70 (.ms t e j n)=some n:=nr (D8 En)
theorem Azb {t e j q n:Nat}:Bf cx 70 (.bs t e j q n)=some n:=nr (Eo En)
theorem Azc:cx.ty 72=some ⟨4,true,[.string ⟨#[]⟩,.int .i64 0,.bool false,.bool false],.struct [(0,1,false),(1,1,false),(2,1,false),(3,1,false)]⟩:=nr rfl
theorem Azd:cx.kind 72=some (.struct [(0,1,false),(1,1,false),(2,1,false),(3,1,false)]):=nr rfl
theorem Aze:cx.ty 75=some ⟨1,false,[.nilFunc],.other⟩:=nr rfl
theorem Azf:cx.kind 75=some (.other):=nr rfl
theorem Azg:cx.ty 80=some ⟨1,false,[.pointer none],.ptr⟩:=nr rfl
theorem Apg:cx.kind 80=some (.ptr):=nr rfl
theorem Azh:cx.ty 81=some ⟨1,false,[.slice none 0 0],.slice 70 1 24 [.slice none 0 0]⟩:=nr rfl
theorem Zl:cx.kind 81=some (.slice 70 1 24 [.slice none 0 0]):=nr rfl
theorem Azi {e:Nat}{ls:List (List PV)}:Bf cx 81 (.p (.sl e ls))=some ls.length:=nr (D7 Zl)
theorem Azj {t e:Nat}{ls:List (List PV)}:Bf cx 81 (.own t e ls)=some ls.length:=nr (C7 Zl)
theorem Azk {t e:Nat}{ls:List (List PV)}:Bf cx 81 (.nown t e ls)=some ls.length:=nr (Ci Zl)
theorem Azl:Bf cx 81 (.p (.v (.slice none 0 0)))=some 0:=nr (len_nil Zl)
theorem Azm {t e j n:Nat}:Bf cx 81 (.ms t e j n)=some n:=nr (D8 Zl)
theorem Azn {t e j q n:Nat}:Bf cx 81 (.bs t e j q n)=some n:=nr (Eo Zl)
theorem Azo:cx.ty 84=some ⟨1,false,[.map none],.map (.int .i64) (.pointer none)⟩:=nr rfl
theorem Azp:cx.kind 84=some (.map (.int .i64) (.pointer none)):=nr rfl
theorem Ak1:cx.ty 86=some ⟨1,false,[.slice none 0 0],.slice 154 1 8 [.pointer none]⟩:=nr rfl
theorem Zm:cx.kind 86=some (.slice 154 1 8 [.pointer none]):=nr rfl
theorem Azq {e:Nat}{ls:List (List PV)}:Bf cx 86 (.p (.sl e ls))=some ls.length:=nr (D7 Zm)
theorem Azr {t e:Nat}{ls:List (List PV)}:Bf cx 86 (.own t e ls)=some ls.length:=nr (C7 Zm)
theorem Azs {t e:Nat}{ls:List (List PV)}:Bf cx 86 (.nown t e ls)=some ls.length:=nr (Ci Zm)
theorem Azt:Bf cx 86 (.p (.v (.slice none 0 0)))=some 0:=nr (len_nil Zm)
theorem Asa {t e j n:Nat}:Bf cx 86 (.ms t e j n)=some n:=nr (D8 Zm)
theorem Azu {t e j q n:Nat}:Bf cx 86 (.bs t e j q n)=some n:=nr (Eo Zm)
theorem Azv:cx.ty 88=some ⟨6,true,[.pointer none,.pointer none,.int .i64 0,.slice none 0 0,.map none,.int .i64 0],.struct [(0,1,false),(1,1,false),(2,1,false),(3,1,false),(4,1,false),(5,1,false)]⟩:=nr rfl
theorem Azw:cx.kind 88=some (.struct [(0,1,false),(1,1,false),(2,1,false),(3,1,false),(4,1,false),(5,1,false)]):=nr rfl
theorem Azx:cx.ty 89=some ⟨1,false,[.slice none 0 0],.slice 153 513 520 Pk⟩:=nr rfl
theorem Zn:cx.kind 89=some (.slice 153 513 520 Pk):=nr rfl
theorem Azy {e:Nat}{ls:List (List PV)}:Bf cx 89 (.p (.sl e ls))=some ls.length:=nr (D7 Zn)
theorem Azz {t e:Nat}{ls:List (List PV)}:Bf cx 89 (.own t e ls)=some ls.length:=nr (C7 Zn)
theorem Az0 {t e:Nat}{ls:List (List PV)}:Bf cx 89 (.nown t e ls)=some ls.length:=nr (Ci Zn)
theorem Az1:Bf cx 89 (.p (.v (.slice none 0 0)))=some 0:=nr (len_nil Zn)
theorem Asb {t e j n:Nat}:Bf cx 89 (.ms t e j n)=some n:=nr (D8 Zn)
theorem Az2 {t e j q n:Nat}:Bf cx 89 (.bs t e j q n)=some n:=nr (Eo Zn)
theorem Az3:cx.ty 93=some ⟨1,false,[.map none],.map (.int .i64) (.agg ⟨(zB 64)⟩)⟩:=nr rfl
theorem Az4:cx.kind 93=some (.map (.int .i64) (.agg ⟨(zB 64)⟩)):=nr rfl
theorem Az5:cx.ty 94=some ⟨1,false,[.slice none 0 0],.slice 139 65 72 zT65⟩:=nr rfl
theorem Zo:cx.kind 94=some (.slice 139 65 72 zT65):=nr rfl
theorem Az6 {e:Nat}{ls:List (List PV)}:Bf cx 94 (.p (.sl e ls))=some ls.length:=nr (D7 Zo)
theorem Az7 {t e:Nat}{ls:List (List PV)}:Bf cx 94 (.own t e ls)=some ls.length:=nr (C7 Zo)
theorem Az8 {t e:Nat}{ls:List (List PV)}:Bf cx 94 (.nown t e ls)=some ls.length:=nr (Ci Zo)
theorem Az9:Bf cx 94 (.p (.v (.slice none 0 0)))=some 0:=nr (len_nil Zo)
theorem A0a {t e j n:Nat}:Bf cx 94 (.ms t e j n)=some n:=nr (D8 Zo)
theorem A0b {t e j q n:Nat}:Bf cx 94 (.bs t e j q n)=some n:=nr (Eo Zo)
theorem A0c:cx.ty 96=some ⟨6,true,[.int .i64 0,.map none,.map none,.slice none 0 0,.bool false,.int .i64 0],.struct [(0,1,false),(1,1,false),(2,1,false),(3,1,false),(4,1,false),(5,1,false)]⟩:=nr rfl
theorem A0d:cx.kind 96=some (.struct [(0,1,false),(1,1,false),(2,1,false),(3,1,false),(4,1,false),(5,1,false)]):=nr rfl
theorem A0e:cx.ty 98=some ⟨2,true,[.pointer none,.slice none 0 0],.struct [(0,1,false),(1,1,false)]⟩:=nr rfl
theorem A0f:cx.kind 98=some (.struct [(0,1,false),(1,1,false)]):=nr rfl
theorem Asd:cx.ty 111=some ⟨3,true,[.nilFunc,.nilFunc,.nilFunc],.struct [(0,1,false),(1,1,false),(2,1,false)]⟩:=nr rfl
theorem Ase:cx.kind 111=some (.struct [(0,1,false),(1,1,false),(2,1,false)]):=nr rfl
theorem Asf:cx.ty 116=some ⟨1,false,[.slice none 0 0],.slice 120 3 40 [.int .i64 0,.int .i64 0,.slice none 0 0]⟩:=nr rfl
theorem Kn:cx.kind 116=some (.slice 120 3 40 [.int .i64 0,.int .i64 0,.slice none 0 0]):=nr rfl
theorem Asg {e:Nat}{ls:List (List PV)}:Bf cx 116 (.p (.sl e ls))=some ls.length:=nr (D7 Kn)
theorem Ash {t e:Nat}{ls:List (List PV)}:Bf cx 116 (.own t e ls)=some ls.length:=nr (C7 Kn)
theorem Asi {t e:Nat}{ls:List (List PV)}:Bf cx 116 (.nown t e ls)=some ls.length:=nr (Ci Kn)
theorem Asj:Bf cx 116 (.p (.v (.slice none 0 0)))=some 0:=nr (len_nil Kn)
theorem Asl {t e j n:Nat}:Bf cx 116 (.ms t e j n)=some n:=nr (D8 Kn)
theorem Asm {t e j q n:Nat}:Bf cx 116 (.bs t e j q n)=some n:=nr (Eo Kn)
theorem Asn:cx.ty 120=some ⟨3,true,[.int .i64 0,.int .i64 0,.slice none 0 0],.struct [(0,2,true),(2,1,false)]⟩:=nr rfl
theorem Aso:cx.kind 120=some (.struct [(0,2,true),(2,1,false)]):=nr rfl
theorem Asp:cx.ty 124=some ⟨1,false,[.slice none 0 0],.slice 51 2 16 [.int .i64 0,.int .i64 0]⟩:=nr rfl
theorem Ko:cx.kind 124=some (.slice 51 2 16 [.int .i64 0,.int .i64 0]):=nr rfl
theorem Asq {e:Nat}{ls:List (List PV)}:Bf cx 124 (.p (.sl e ls))=some ls.length:=nr (D7 Ko)
theorem Asr {t e:Nat}{ls:List (List PV)}:Bf cx 124 (.own t e ls)=some ls.length:=nr (C7 Ko)
theorem Ass {t e:Nat}{ls:List (List PV)}:Bf cx 124 (.nown t e ls)=some ls.length:=nr (Ci Ko)
theorem Ast:Bf cx 124 (.p (.v (.slice none 0 0)))=some 0:=nr (len_nil Ko)
theorem Asu {t e j n:Nat}:Bf cx 124 (.ms t e j n)=some n:=nr (D8 Ko)
theorem Asv {t e j q n:Nat}:Bf cx 124 (.bs t e j q n)=some n:=nr (Eo Ko)
theorem Asw:cx.ty 129=some ⟨1,false,[.nilFunc],.other⟩:=nr rfl
theorem Asx:cx.kind 129=some (.other):=nr rfl
theorem Asy:cx.ty 135=some ⟨1,false,[.slice none 0 0],.slice 4 1 1 [.bool false]⟩:=nr rfl
theorem Pn:cx.kind 135=some (.slice 4 1 1 [.bool false]):=nr rfl
theorem Asz {e:Nat}{ls:List (List PV)}:Bf cx 135 (.p (.sl e ls))=some ls.length:=nr (D7 Pn)
theorem As0 {t e:Nat}{ls:List (List PV)}:Bf cx 135 (.own t e ls)=some ls.length:=nr (C7 Pn)
theorem As1 {t e:Nat}{ls:List (List PV)}:Bf cx 135 (.nown t e ls)=some ls.length:=nr (Ci Pn)
theorem As2:Bf cx 135 (.p (.v (.slice none 0 0)))=some 0:=nr (len_nil Pn)
theorem As3 {t e j n:Nat}:Bf cx 135 (.ms t e j n)=some n:=nr (D8 Pn)
theorem As4 {t e j q n:Nat}:Bf cx 135 (.bs t e j q n)=some n:=nr (Eo Pn)
theorem As5:cx.ty 137=some ⟨64,true,(zB 64),.barr 64⟩:=nr rfl
theorem Ag9:cx.kind 137=some (.barr 64):=nr rfl
theorem As6:cx.ty 139=some ⟨65,true,zT65,.struct [(0,1,false),(1,64,true)]⟩:=nr rfl
theorem As7:cx.kind 139=some (.struct [(0,1,false),(1,64,true)]):=nr rfl
theorem As8:cx.ty 140=some ⟨1,false,[.int .u64 0],.int .u64⟩:=nr rfl
theorem As9:cx.kind 140=some (.int .u64):=nr rfl
theorem Ata:cx.ty 142=some ⟨2,true,[.int .u64 0,.int .u64 0],.struct [(0,1,false),(1,1,false)]⟩:=nr rfl
theorem Atb:cx.kind 142=some (.struct [(0,1,false),(1,1,false)]):=nr rfl
theorem Atc:cx.ty 144=some ⟨5,true,[.pointer none,.int .u64 0,.int .u64 0,.slice none 0 0,.int .i64 0],.struct [(0,1,false),(1,2,true),(3,1,false),(4,1,false)]⟩:=nr rfl
theorem Atd:cx.kind 144=some (.struct [(0,1,false),(1,2,true),(3,1,false),(4,1,false)]):=nr rfl
theorem Ate:cx.ty 151=some ⟨512,true,(zB 512),.barr 512⟩:=nr rfl
theorem Aha:cx.kind 151=some (.barr 512):=nr rfl
theorem Atf:cx.ty 153=some ⟨513,true,Pk,.struct [(0,1,false),(1,512,true)]⟩:=nr rfl
theorem Atg:cx.kind 153=some (.struct [(0,1,false),(1,512,true)]):=nr rfl
theorem Ath:cx.ty 154=some ⟨1,false,[.pointer none],.ptr⟩:=nr rfl
theorem Ahb:cx.kind 154=some (.ptr):=nr rfl
theorem Ati:cx.ty 158=some ⟨516,true,Q5,.struct [(0,1,false),(1,512,true),(513,1,false),(514,1,false),(515,1,false)]⟩:=nr rfl
theorem Atj:cx.kind 158=some (.struct [(0,1,false),(1,512,true),(513,1,false),(514,1,false),(515,1,false)]):=nr rfl
theorem Atk:cx.ty 165=some ⟨1,false,[.nilFunc],.other⟩:=nr rfl
theorem Atl:cx.kind 165=some (.other):=nr rfl
theorem Atm:cx.ty 184=some ⟨1,false,[.nilFunc],.other⟩:=nr rfl
theorem Atn:cx.kind 184=some (.other):=nr rfl
theorem Ato:cx.ty 185=some ⟨6,true,[.int .i64 0,.int .i64 0,.string ⟨#[]⟩,.int .i64 0,.int .i64 0,.string ⟨#[]⟩],.arr 2 3 true⟩:=nr rfl
theorem Atp:cx.kind 185=some (.arr 2 3 true):=nr rfl
theorem Atq:cx.ty 186=some ⟨1,false,[.slice none 0 0],.slice 185 6 64 [.int .i64 0,.int .i64 0,.string ⟨#[]⟩,.int .i64 0,.int .i64 0,.string ⟨#[]⟩]⟩:=nr rfl
theorem Po:cx.kind 186=some (.slice 185 6 64 [.int .i64 0,.int .i64 0,.string ⟨#[]⟩,.int .i64 0,.int .i64 0,.string ⟨#[]⟩]):=nr rfl
theorem Atr {e:Nat}{ls:List (List PV)}:Bf cx 186 (.p (.sl e ls))=some ls.length:=nr (D7 Po)
theorem Ats {t e:Nat}{ls:List (List PV)}:Bf cx 186 (.own t e ls)=some ls.length:=nr (C7 Po)
theorem Att {t e:Nat}{ls:List (List PV)}:Bf cx 186 (.nown t e ls)=some ls.length:=nr (Ci Po)
theorem Atu:Bf cx 186 (.p (.v (.slice none 0 0)))=some 0:=nr (len_nil Po)
theorem Atv {t e j n:Nat}:Bf cx 186 (.ms t e j n)=some n:=nr (D8 Po)
theorem Atw {t e j q n:Nat}:Bf cx 186 (.bs t e j q n)=some n:=nr (Eo Po)
theorem Atx:cx.ty 188=some ⟨1,false,[.slice none 0 0],.slice 192 3 40 [.slice none 0 0,.int .i64 0,.int .i64 0]⟩:=nr rfl
theorem Eg:cx.kind 188=some (.slice 192 3 40 [.slice none 0 0,.int .i64 0,.int .i64 0]):=nr rfl
theorem Aty {e:Nat}{ls:List (List PV)}:Bf cx 188 (.p (.sl e ls))=some ls.length:=nr (D7 Eg)
theorem Atz {t e:Nat}{ls:List (List PV)}:Bf cx 188 (.own t e ls)=some ls.length:=nr (C7 Eg)
theorem At0 {t e:Nat}{ls:List (List PV)}:Bf cx 188 (.nown t e ls)=some ls.length:=nr (Ci Eg)
theorem At1:Bf cx 188 (.p (.v (.slice none 0 0)))=some 0:=nr (len_nil Eg)
theorem At2 {t e j n:Nat}:Bf cx 188 (.ms t e j n)=some n:=nr (D8 Eg)
theorem At3 {t e j q n:Nat}:Bf cx 188 (.bs t e j q n)=some n:=nr (Eo Eg)
theorem At4:cx.ty 192=some ⟨3,true,[.slice none 0 0,.int .i64 0,.int .i64 0],.struct [(0,1,false),(1,2,true)]⟩:=nr rfl
theorem At5:cx.kind 192=some (.struct [(0,1,false),(1,2,true)]):=nr rfl
theorem At6:cx.ty 208=some ⟨1,false,[.pointer none],.ptr⟩:=nr rfl
theorem Ahc:cx.kind 208=some (.ptr):=nr rfl
theorem At7:cx.ty 228=some ⟨1,true,[.pointer none],.struct [(0,1,false)]⟩:=nr rfl
theorem At8:cx.kind 228=some (.struct [(0,1,false)]):=nr rfl
theorem At9:cx.ty 229=some ⟨1,false,[.pointer none],.ptr⟩:=nr rfl
theorem Ahd:cx.kind 229=some (.ptr):=nr rfl
theorem Aua:cx.ty 232=some ⟨1,false,[.slice none 0 0],.slice 239 4 48 [.slice none 0 0,.int .i64 0,.int .i64 0,.int .i64 0]⟩:=nr rfl
theorem Hv:cx.kind 232=some (.slice 239 4 48 [.slice none 0 0,.int .i64 0,.int .i64 0,.int .i64 0]):=nr rfl
theorem Aub {e:Nat}{ls:List (List PV)}:Bf cx 232 (.p (.sl e ls))=some ls.length:=nr (D7 Hv)
theorem Auc {t e:Nat}{ls:List (List PV)}:Bf cx 232 (.own t e ls)=some ls.length:=nr (C7 Hv)
theorem Aud {t e:Nat}{ls:List (List PV)}:Bf cx 232 (.nown t e ls)=some ls.length:=nr (Ci Hv)
theorem Aue:Bf cx 232 (.p (.v (.slice none 0 0)))=some 0:=nr (len_nil Hv)
theorem Ahe {t e j n:Nat}:Bf cx 232 (.ms t e j n)=some n:=nr (D8 Hv)
theorem Auf {t e j q n:Nat}:Bf cx 232 (.bs t e j q n)=some n:=nr (Eo Hv)
theorem Aug:cx.ty 234=some ⟨2,true,[.int .i64 0,.slice none 0 0],.struct [(0,1,false),(1,1,false)]⟩:=nr rfl
theorem Auh:cx.kind 234=some (.struct [(0,1,false),(1,1,false)]):=nr rfl
theorem Aui:cx.ty 239=some ⟨4,true,[.slice none 0 0,.int .i64 0,.int .i64 0,.int .i64 0],.struct [(0,3,true),(3,1,false)]⟩:=nr rfl
theorem Auj:cx.kind 239=some (.struct [(0,3,true),(3,1,false)]):=nr rfl
theorem Auk:cx.ty 242=some ⟨1,false,[.pointer none],.ptr⟩:=nr rfl
theorem Ahf:cx.kind 242=some (.ptr):=nr rfl
theorem Aul:cx.ty 244=some ⟨2,true,[.slice none 0 0,.int .i64 0],.struct [(0,1,false),(1,1,false)]⟩:=nr rfl
theorem Aum:cx.kind 244=some (.struct [(0,1,false),(1,1,false)]):=nr rfl
theorem Aun:cx.ty 269=some ⟨1,false,[.nilFunc],.other⟩:=nr rfl
theorem Auo:cx.kind 269=some (.other):=nr rfl
theorem Aup:cx.ty 290=some ⟨1,false,[.nilFunc],.other⟩:=nr rfl
theorem Auq:cx.kind 290=some (.other):=nr rfl
theorem A0g:cx.eqs 24=some [.int,.int,.str]:=nr rfl
theorem A0h:cx.eqs 26=some [.str,.int,.int,.int,.str,.int,.int,.str]:=nr rfl
theorem A0i:cx.eqs 37=some [.str,.str,.int,.bool]:=nr rfl
theorem A0j:cx.eqs 51=some [.int,.int]:=nr rfl
theorem A0k:cx.eqs 72=some [.str,.int,.bool,.bool]:=nr rfl
theorem Aur:cx.eqs 142=some [.int,.int]:=nr rfl
theorem Pp:arrF 2 3 true=[(0,3,true),(3,3,true)]:=nr rfl
theorem Nf:arrF 16 2 true=[(0,2,true),(2,2,true),(4,2,true),(6,2,true),(8,2,true),(10,2,true),(12,2,true),(14,2,true),(16,2,true),(18,2,true),(20,2,true),(22,2,true),(24,2,true),(26,2,true),(28,2,true),(30,2,true)]:=nr rfl
theorem Anz:(type_of% Pp)∧(type_of% Nf):=⟨Pp,Nf⟩
theorem aa {p q:Prop}(h:p)(k:q):p∧q:=⟨h,k⟩
def T1:=aa ck_1 cx_1
def T2:=aa ck_2 cx_2
def T3:=aa ck_3 cx_3
def T4:=aa ck_4 cx_4
def T5:=aa ck_5 cx_5
def T9:=aa ck_9 cx_9
def T24:=aa Axl <| aa Axk A0g
def T26:=aa Axn <| aa Axm A0h
theorem A0l {x:AV}:mkIA cx 28 x=some (.dyn 28 x):=nr (Nb Apd)
theorem A0m {a:AV}:asIA cx 28 false (.dyn 28 a)=some a:=nr (Nc Apd)
def T28:=aa Apd <| aa Axo <| aa @A0l @A0m
def T29:=aa Axq Axp
theorem A0n {x:AV}:mkIA cx 32 x=some (.dyn 32 x):=nr (Nb Ape)
theorem A0o {a:AV}:asIA cx 32 false (.dyn 32 a)=some a:=nr (Nc Ape)
def T32:=aa Ape <| aa Axr <| aa @A0n @A0o
def T34:=aa Axt Axs
def T35:=aa Axv Axu
def T37:=aa Axx <| aa Axw A0i
theorem A0p {x:AV}:mkIA cx 38 x=some (.dyn 38 x):=nr (Nb Apf)
theorem A0q {a:AV}:asIA cx 38 false (.dyn 38 a)=some a:=nr (Nc Apf)
def T38:=aa Apf <| aa Axy <| aa @A0p @A0q
def T40:=aa W6 <| aa Axz <| aa @Ax0 <| aa @Ax1 <| aa @Ax2 <| aa @Ax4 <| aa @Ax5 Ax3
def T42:=aa Ax7 Ax6
def T43:=aa Ua <| aa Ax8 <| aa @Ax9 <| aa @Aya <| aa @Ayb <| aa @Ayd <| aa @Aye Ayc
def T44:=aa Zk <| aa Ayf <| aa @Ayg <| aa @Ayh <| aa @Ayi <| aa @Ayk <| aa @Ayl Ayj
def T46:=aa Ayn Aym
def T51:=aa Ayp <| aa Ayo A0j
def T54:=aa Q6 <| aa Ayq <| aa @Ayr <| aa @Ays <| aa @Ayt <| aa @Ayv <| aa @Ayw Ayu
def T56:=aa Pm <| aa Ayx <| aa @Ayy <| aa @Ayz <| aa @Ay0 <| aa @Ay2 <| aa @Ay3 Ay1
def T62:=aa Ay5 Ay4
def T70:=aa En <| aa Ay6 <| aa @Ay7 <| aa @Ay8 <| aa @Ay9 <| aa @Ar9 <| aa @Azb Aza
def T72:=aa Azd <| aa Azc A0k
def T75:=aa Azf Aze
theorem A0r {x:AV}:mkIA cx 80 x=some (.dyn 80 x):=nr (Nb Apg)
theorem A0s {a:AV}:asIA cx 80 false (.dyn 80 a)=some a:=nr (Nc Apg)
def T80:=aa Apg <| aa Azg <| aa @A0r @A0s
def T81:=aa Zl <| aa Azh <| aa @Azi <| aa @Azj <| aa @Azk <| aa @Azm <| aa @Azn Azl
def T84:=aa Azp Azo
def T86:=aa Zm <| aa Ak1 <| aa @Azq <| aa @Azr <| aa @Azs <| aa @Asa <| aa @Azu Azt
def T88:=aa Azw Azv
def T89:=aa Zn <| aa Azx <| aa @Azy <| aa @Azz <| aa @Az0 <| aa @Asb <| aa @Az2 Az1
def T93:=aa Az4 Az3
def T94:=aa Zo <| aa Az5 <| aa @Az6 <| aa @Az7 <| aa @Az8 <| aa @A0a <| aa @A0b Az9
def T96:=aa A0d A0c
def T98:=aa A0f A0e
def T111:=aa Ase Asd
def T116:=aa Kn <| aa Asf <| aa @Asg <| aa @Ash <| aa @Asi <| aa @Asl <| aa @Asm Asj
def T120:=aa Aso Asn
def T124:=aa Ko <| aa Asp <| aa @Asq <| aa @Asr <| aa @Ass <| aa @Asu <| aa @Asv Ast
def T129:=aa Asx Asw
def T135:=aa Pn <| aa Asy <| aa @Asz <| aa @As0 <| aa @As1 <| aa @As3 <| aa @As4 As2
theorem Aus {t e i o n:Nat}:Yw cx 137 (.bs t e i o n)=if 64≤n then some (.mp t e i o)else none:=nr (Anr Ag9)
theorem Aut {x:AV}{lo hi:Option AV}:Bv cx 137 x lo hi=(match x,Bm lo 0,Bm hi (64:Nat)with
 | .mp t e i o,some l,some h=>if 0≤l∧l<h∧h≤((64:Nat):Int)then some (.bs t e i (o+l.toNat) (h.toNat - l.toNat))else none
 |_,_,_=>none):=nr (Wt Ag9)
def T137:=aa Ag9 <| aa As5 <| aa @Aus @Aut
def T139:=aa As7 As6
def T140:=aa As9 As8
def T142:=aa Atb <| aa Ata Aur
def T144:=aa Atd Atc
theorem Auu {t e i o n:Nat}:Yw cx 151 (.bs t e i o n)=if 512≤n then some (.mp t e i o)else none:=nr (Anr Aha)
theorem Auv {x:AV}{lo hi:Option AV}:Bv cx 151 x lo hi=(match x,Bm lo 0,Bm hi (512:Nat)with
 | .mp t e i o,some l,some h=>if 0≤l∧l<h∧h≤((512:Nat):Int)then some (.bs t e i (o+l.toNat) (h.toNat - l.toNat))else none
 |_,_,_=>none):=nr (Wt Aha)
def W7:=aa Aha <| aa Ate <| aa @Auu @Auv
def T153:=aa Atg Atf
theorem Auw {x:AV}:mkIA cx 154 x=some (.dyn 154 x):=nr (Nb Ahb)
theorem Aux {a:AV}:asIA cx 154 false (.dyn 154 a)=some a:=nr (Nc Ahb)
def T154:=aa Ahb <| aa Ath <| aa @Auw @Aux
def T158:=aa Atj Ati
def T165:=aa Atl Atk
def T184:=aa Atn Atm
def T185:=aa Atp Ato
def T186:=aa Po <| aa Atq <| aa @Atr <| aa @Ats <| aa @Att <| aa @Atv <| aa @Atw Atu
def T188:=aa Eg <| aa Atx <| aa @Aty <| aa @Atz <| aa @At0 <| aa @At2 <| aa @At3 At1
def T192:=aa At5 At4
theorem Auy {x:AV}:mkIA cx 208 x=some (.dyn 208 x):=nr (Nb Ahc)
theorem Auz {a:AV}:asIA cx 208 false (.dyn 208 a)=some a:=nr (Nc Ahc)
def T208:=aa Ahc <| aa At6 <| aa @Auy @Auz
def T228:=aa At8 At7
theorem Au0 {x:AV}:mkIA cx 229 x=some (.dyn 229 x):=nr (Nb Ahd)
theorem Au1 {a:AV}:asIA cx 229 false (.dyn 229 a)=some a:=nr (Nc Ahd)
def T229:=aa Ahd <| aa At9 <| aa @Au0 @Au1
def T232:=aa Hv <| aa Aua <| aa @Aub <| aa @Auc <| aa @Aud <| aa @Ahe <| aa @Auf Aue
def T234:=aa Auh Aug
def T239:=aa Auj Aui
theorem Au2 {x:AV}:mkIA cx 242 x=some (.dyn 242 x):=nr (Nb Ahf)
theorem Au3 {a:AV}:asIA cx 242 false (.dyn 242 a)=some a:=nr (Nc Ahf)
def T242:=aa Ahf <| aa Auk <| aa @Au2 @Au3
def T244:=aa Aum Aul
def T269:=aa Auo Aun
def T290:=aa Auq Aup
theorem ci_0 {a:AV}{args:List AV}{σ:St}{K:AV→St→Prop}:aInv Tryz.prog cx (.dyn 208 a) "Len" args σ K=Aec Tryz.prog 255 (He ⟨1,false,[.slice none 0 0],.slice 154 1 8 [.pointer none]⟩ a σ) args σ K:=nr (Y6 (by kernel_rfl) Ak1)
theorem ci_1 {a:AV}{args:List AV}{σ:St}{K:AV→St→Prop}:aInv Tryz.prog cx (.dyn 208 a) "Less" args σ K=Aec Tryz.prog 256 (He ⟨1,false,[.slice none 0 0],.slice 154 1 8 [.pointer none]⟩ a σ) args σ K:=nr (Y6 (by kernel_rfl) Ak1)
theorem ci_2 {a:AV}{args:List AV}{σ:St}{K:AV→St→Prop}:aInv Tryz.prog cx (.dyn 208 a) "Swap" args σ K=Aec Tryz.prog 257 (He ⟨1,false,[.slice none 0 0],.slice 154 1 8 [.pointer none]⟩ a σ) args σ K:=nr (Y6 (by kernel_rfl) Ak1)
theorem ci_3 {a:AV}{args:List AV}{σ:St}{K:AV→St→Prop}:aInv Tryz.prog cx (.dyn 208 a) "Pop" args σ K=Aa Tryz.prog 258 (a::args) σ K:=nr (Agk (by kernel_rfl))
theorem ci_4 {a:AV}{args:List AV}{σ:St}{K:AV→St→Prop}:aInv Tryz.prog cx (.dyn 208 a) "Push" args σ K=Aa Tryz.prog 259 (a::args) σ K:=nr (Agk (by kernel_rfl))
theorem wX:(type_of% @wBB)∧(type_of% @wBC)∧(type_of% @Ag8)∧(type_of% @Anz)∧(type_of% @wBD)∧(type_of% @wBE)∧(type_of% @ci_0)∧(type_of% @ci_1)∧(type_of% @ci_2)∧(type_of% @ci_3)∧(type_of% @ci_4):=⟨wBB,wBC,Ag8,Anz,wBD,wBE,@ci_0,@ci_1,@ci_2,@ci_3,@ci_4⟩
end Go.Proofs.YtpoigihfeehehaaGreatDoor
