/- The table of types of this program, for the abstract machine. -/
import Derived.Test.YtpoigihfeehehaaGreatDoorM13
import Derived.Test.YtpoigihfeehehaaGreatDoorRows
set_option linter.all false
set_option maxRecDepth 100000
set_option maxHeartbeats 32000000
set_option maxRecDepth 20000
namespace Go.Proofs.YtpoigihfeehehaaGreatDoor
def Pm:List Value:=[.int .i64 0]++zB 512
theorem Ahj:(Co Pm).length=513:=by simp only[Pm,Co,zB,QL,QE,XC,QF,QI]
def zT65:List Value:=[.int .i64 0]++zB 64
theorem Ala:(Co zT65).length=65:=by simp only[zT65,Co,zB,QL,QE,XC,QF,QI]
def Q2:List Value:=[.int .i64 0]++zB 512++[.bool false]++[.int .i64 0,.int .i64 0]
theorem Ahk:(Co Q2).length=516:=by simp only[Q2,Co,zB,QL,QE,XC,QF,QI]
def cxL:List (TypeId×TI):=[
 (1,⟨1,false,[.nilFunc],.other⟩),
 (2,⟨1,false,[.int .i64 0],.int .i64⟩),
 (3,⟨1,false,[.int .i64 0],.int .i64⟩),
 (4,⟨1,false,[.bool false],.bool⟩),
 (5,⟨1,false,[.int .u8 0],.int .u8⟩),
 (9,⟨1,false,[.string ⟨#[]⟩],.str⟩),
 (12,⟨1,false,[.int .u64 0],.int .u64⟩),
 (13,⟨2,true,[.string ⟨#[]⟩,.int .u64 0],.struct [(0,1,false),(1,1,false)]⟩),
 (19,⟨1,true,[.pointer none],.struct [(0,1,false)]⟩),
 (21,⟨1,false,[.int .i32 0],.int .i32⟩),
 (22,⟨1,false,[.slice none 0 0],.slice 54 1 24 [.slice none 0 0]⟩),
 (23,⟨3,true,[.int .i64 0,.int .i64 0,.string ⟨#[]⟩],.struct [(0,1,false),(1,1,false),(2,1,false)]⟩),
 (24,⟨3,true,[.int .i64 0,.int .i64 0,.string ⟨#[]⟩],.struct [(0,1,false),(1,1,false),(2,1,false)]⟩),
 (25,⟨8,true,[.string ⟨#[]⟩,.int .i64 0,.int .i64 0,.int .i64 0,.string ⟨#[]⟩,.int .i64 0,.int .i64 0,.string ⟨#[]⟩],.struct [(0,1,false),(1,1,false),(2,3,true),(5,3,true)]⟩),
 (26,⟨8,true,[.string ⟨#[]⟩,.int .i64 0,.int .i64 0,.int .i64 0,.string ⟨#[]⟩,.int .i64 0,.int .i64 0,.string ⟨#[]⟩],.struct [(0,1,false),(1,1,false),(2,3,true),(5,3,true)]⟩),
 (27,⟨1,false,[.nilFunc],.other⟩),
 (28,⟨1,false,[.pointer none],.ptr⟩),
 (29,⟨1,false,[.int .i64 0],.int .i64⟩),
 (31,⟨1,false,[.nilFunc],.other⟩),
 (32,⟨1,false,[.pointer none],.ptr⟩),
 (33,⟨1,false,[.nilFunc],.other⟩),
 (34,⟨1,false,[.int .u64 0],.int .u64⟩),
 (35,⟨1,false,[.nilFunc],.other⟩),
 (36,⟨4,true,[.string ⟨#[]⟩,.string ⟨#[]⟩,.int .i64 0,.bool false],.struct [(0,1,false),(1,1,false),(2,1,false),(3,1,false)]⟩),
 (37,⟨4,true,[.string ⟨#[]⟩,.string ⟨#[]⟩,.int .i64 0,.bool false],.struct [(0,1,false),(1,1,false),(2,1,false),(3,1,false)]⟩),
 (38,⟨1,false,[.pointer none],.ptr⟩),
 (39,⟨1,false,[.nilFunc],.other⟩),
 (40,⟨1,false,[.slice none 0 0],.slice 72 4 32 [.string ⟨#[]⟩,.int .i64 0,.bool false,.bool false]⟩),
 (41,⟨2,true,[.string ⟨#[]⟩,.slice none 0 0],.struct [(0,1,false),(1,1,false)]⟩),
 (42,⟨2,true,[.string ⟨#[]⟩,.slice none 0 0],.struct [(0,1,false),(1,1,false)]⟩),
 (43,⟨1,false,[.slice none 0 0],.slice 37 4 48 [.string ⟨#[]⟩,.string ⟨#[]⟩,.int .i64 0,.bool false]⟩),
 (44,⟨1,false,[.slice none 0 0],.slice 3 1 8 [.int .i64 0]⟩),
 (45,⟨5,true,[.string ⟨#[]⟩,.slice none 0 0,.slice none 0 0,.int .i64 0,.slice none 0 0],.struct [(0,2,true),(2,1,false),(3,1,false),(4,1,false)]⟩),
 (46,⟨5,true,[.string ⟨#[]⟩,.slice none 0 0,.slice none 0 0,.int .i64 0,.slice none 0 0],.struct [(0,2,true),(2,1,false),(3,1,false),(4,1,false)]⟩),
 (48,⟨1,false,[.nilFunc],.other⟩),
 (49,⟨1,false,[.nilFunc],.other⟩),
 (50,⟨2,true,[.int .i64 0,.int .i64 0],.struct [(0,1,false),(1,1,false)]⟩),
 (51,⟨2,true,[.int .i64 0,.int .i64 0],.struct [(0,1,false),(1,1,false)]⟩),
 (53,⟨1,false,[.nilFunc],.other⟩),
 (54,⟨1,false,[.slice none 0 0],.slice 24 3 32 [.int .i64 0,.int .i64 0,.string ⟨#[]⟩]⟩),
 (55,⟨1,false,[.nilFunc],.other⟩),
 (56,⟨1,false,[.slice none 0 0],.slice 62 5 56 [.int .i64 0,.int .i64 0,.int .i64 0,.int .i64 0,.slice none 0 0]⟩),
 (58,⟨1,false,[.nilFunc],.other⟩),
 (59,⟨1,false,[.nilFunc],.other⟩),
 (60,⟨1,false,[.nilFunc],.other⟩),
 (61,⟨5,true,[.int .i64 0,.int .i64 0,.int .i64 0,.int .i64 0,.slice none 0 0],.struct [(0,2,true),(2,1,false),(3,1,false),(4,1,false)]⟩),
 (62,⟨5,true,[.int .i64 0,.int .i64 0,.int .i64 0,.int .i64 0,.slice none 0 0],.struct [(0,2,true),(2,1,false),(3,1,false),(4,1,false)]⟩),
 (63,⟨1,false,[.nilFunc],.other⟩),
 (64,⟨1,false,[.nilFunc],.other⟩),
 (65,⟨4,true,[.slice none 0 0,.int .i64 0,.int .i64 0,.int .i64 0],.struct [(0,1,false),(1,1,false),(2,1,false),(3,1,false)]⟩),
 (66,⟨4,true,[.slice none 0 0,.int .i64 0,.int .i64 0,.int .i64 0],.struct [(0,1,false),(1,1,false),(2,1,false),(3,1,false)]⟩),
 (67,⟨1,false,[.nilFunc],.other⟩),
 (68,⟨1,false,[.nilFunc],.other⟩),
 (69,⟨1,false,[.nilFunc],.other⟩),
 (70,⟨1,false,[.slice none 0 0],.slice 5 1 1 [.int .u8 0]⟩),
 (71,⟨4,true,[.string ⟨#[]⟩,.int .i64 0,.bool false,.bool false],.struct [(0,1,false),(1,1,false),(2,1,false),(3,1,false)]⟩),
 (72,⟨4,true,[.string ⟨#[]⟩,.int .i64 0,.bool false,.bool false],.struct [(0,1,false),(1,1,false),(2,1,false),(3,1,false)]⟩),
 (73,⟨1,false,[.nilFunc],.other⟩),
 (74,⟨1,false,[.nilFunc],.other⟩),
 (75,⟨1,false,[.nilFunc],.other⟩),
 (76,⟨1,false,[.nilFunc],.other⟩),
 (77,⟨1,false,[.nilFunc],.other⟩),
 (78,⟨1,false,[.nilFunc],.other⟩),
 (79,⟨1,false,[.nilFunc],.other⟩),
 (80,⟨1,false,[.pointer none],.ptr⟩),
 (81,⟨1,false,[.slice none 0 0],.slice 70 1 24 [.slice none 0 0]⟩),
 (83,⟨1,false,[.nilFunc],.other⟩),
 (84,⟨1,false,[.map none],.map (.int .i64) (.pointer none)⟩),
 (85,⟨1,false,[.slice none 0 0],.slice 154 1 8 [.pointer none]⟩),
 (86,⟨1,false,[.slice none 0 0],.slice 154 1 8 [.pointer none]⟩),
 (87,⟨6,true,[.pointer none,.pointer none,.int .i64 0,.slice none 0 0,.map none,.int .i64 0],.struct [(0,1,false),(1,1,false),(2,1,false),(3,1,false),(4,1,false),(5,1,false)]⟩),
 (88,⟨6,true,[.pointer none,.pointer none,.int .i64 0,.slice none 0 0,.map none,.int .i64 0],.struct [(0,1,false),(1,1,false),(2,1,false),(3,1,false),(4,1,false),(5,1,false)]⟩),
 (89,⟨1,false,[.slice none 0 0],.slice 153 513 520 Pm⟩),
 (91,⟨1,false,[.nilFunc],.other⟩),
 (92,⟨1,false,[.nilFunc],.other⟩),
 (93,⟨1,false,[.map none],.map (.int .i64) (.agg ⟨(zB 64)⟩)⟩),
 (94,⟨1,false,[.slice none 0 0],.slice 139 65 72 zT65⟩),
 (95,⟨6,true,[.int .i64 0,.map none,.map none,.slice none 0 0,.bool false,.int .i64 0],.struct [(0,1,false),(1,1,false),(2,1,false),(3,1,false),(4,1,false),(5,1,false)]⟩),
 (96,⟨6,true,[.int .i64 0,.map none,.map none,.slice none 0 0,.bool false,.int .i64 0],.struct [(0,1,false),(1,1,false),(2,1,false),(3,1,false),(4,1,false),(5,1,false)]⟩),
 (97,⟨2,true,[.pointer none,.slice none 0 0],.struct [(0,1,false),(1,1,false)]⟩),
 (98,⟨2,true,[.pointer none,.slice none 0 0],.struct [(0,1,false),(1,1,false)]⟩),
 (100,⟨1,false,[.nilFunc],.other⟩),
 (101,⟨1,false,[.nilFunc],.other⟩),
 (102,⟨1,false,[.nilFunc],.other⟩),
 (103,⟨1,false,[.nilFunc],.other⟩),
 (105,⟨1,false,[.nilFunc],.other⟩),
 (106,⟨1,false,[.nilFunc],.other⟩),
 (107,⟨1,false,[.nilFunc],.other⟩),
 (108,⟨1,false,[.nilFunc],.other⟩),
 (109,⟨1,false,[.nilFunc],.other⟩),
 (110,⟨3,true,[.nilFunc,.nilFunc,.nilFunc],.struct [(0,1,false),(1,1,false),(2,1,false)]⟩),
 (111,⟨3,true,[.nilFunc,.nilFunc,.nilFunc],.struct [(0,1,false),(1,1,false),(2,1,false)]⟩),
 (112,⟨1,false,[.nilFunc],.other⟩),
 (113,⟨1,false,[.nilFunc],.other⟩),
 (114,⟨1,false,[.nilFunc],.other⟩),
 (115,⟨1,false,[.nilFunc],.other⟩),
 (116,⟨1,false,[.slice none 0 0],.slice 120 3 40 [.int .i64 0,.int .i64 0,.slice none 0 0]⟩),
 (118,⟨1,false,[.nilFunc],.other⟩),
 (119,⟨3,true,[.int .i64 0,.int .i64 0,.slice none 0 0],.struct [(0,2,true),(2,1,false)]⟩),
 (120,⟨3,true,[.int .i64 0,.int .i64 0,.slice none 0 0],.struct [(0,2,true),(2,1,false)]⟩),
 (122,⟨1,false,[.nilFunc],.other⟩),
 (123,⟨1,false,[.nilFunc],.other⟩),
 (124,⟨1,false,[.slice none 0 0],.slice 51 2 16 [.int .i64 0,.int .i64 0]⟩),
 (126,⟨1,false,[.nilFunc],.other⟩),
 (127,⟨1,false,[.nilFunc],.other⟩),
 (128,⟨1,false,[.nilFunc],.other⟩),
 (129,⟨1,false,[.nilFunc],.other⟩),
 (130,⟨1,false,[.nilFunc],.other⟩),
 (131,⟨1,false,[.nilFunc],.other⟩),
 (132,⟨1,false,[.nilFunc],.other⟩),
 (133,⟨1,false,[.nilFunc],.other⟩),
 (134,⟨1,false,[.nilFunc],.other⟩),
 (135,⟨1,false,[.slice none 0 0],.slice 4 1 1 [.bool false]⟩),
 (136,⟨64,true,(zB 64),.barr 64⟩),
 (137,⟨64,true,(zB 64),.barr 64⟩),
 (138,⟨65,true,zT65,.struct [(0,1,false),(1,64,true)]⟩),
 (139,⟨65,true,zT65,.struct [(0,1,false),(1,64,true)]⟩),
 (140,⟨1,false,[.int .u64 0],.int .u64⟩),
 (141,⟨2,true,[.int .u64 0,.int .u64 0],.struct [(0,1,false),(1,1,false)]⟩),
 (142,⟨2,true,[.int .u64 0,.int .u64 0],.struct [(0,1,false),(1,1,false)]⟩),
 (143,⟨5,true,[.pointer none,.int .u64 0,.int .u64 0,.slice none 0 0,.int .i64 0],.struct [(0,1,false),(1,2,true),(3,1,false),(4,1,false)]⟩),
 (144,⟨5,true,[.pointer none,.int .u64 0,.int .u64 0,.slice none 0 0,.int .i64 0],.struct [(0,1,false),(1,2,true),(3,1,false),(4,1,false)]⟩),
 (146,⟨1,false,[.nilFunc],.other⟩),
 (147,⟨1,false,[.nilFunc],.other⟩),
 (149,⟨1,false,[.nilFunc],.other⟩),
 (150,⟨512,true,(zB 512),.barr 512⟩),
 (151,⟨512,true,(zB 512),.barr 512⟩),
 (152,⟨513,true,Pm,.struct [(0,1,false),(1,512,true)]⟩),
 (153,⟨513,true,Pm,.struct [(0,1,false),(1,512,true)]⟩),
 (154,⟨1,false,[.pointer none],.ptr⟩),
 (156,⟨1,false,[.nilFunc],.other⟩),
 (157,⟨516,true,Q2,.struct [(0,1,false),(1,512,true),(513,1,false),(514,1,false),(515,1,false)]⟩),
 (158,⟨516,true,Q2,.struct [(0,1,false),(1,512,true),(513,1,false),(514,1,false),(515,1,false)]⟩),
 (159,⟨1,false,[.nilFunc],.other⟩),
 (160,⟨1,false,[.nilFunc],.other⟩),
 (161,⟨1,false,[.nilFunc],.other⟩),
 (163,⟨1,false,[.nilFunc],.other⟩),
 (164,⟨1,false,[.nilFunc],.other⟩),
 (165,⟨1,false,[.nilFunc],.other⟩),
 (166,⟨1,false,[.nilFunc],.other⟩),
 (167,⟨1,false,[.nilFunc],.other⟩),
 (169,⟨1,false,[.nilFunc],.other⟩),
 (171,⟨1,false,[.nilFunc],.other⟩),
 (172,⟨1,false,[.nilFunc],.other⟩),
 (173,⟨1,false,[.nilFunc],.other⟩),
 (174,⟨1,false,[.nilFunc],.other⟩),
 (175,⟨1,false,[.nilFunc],.other⟩),
 (177,⟨1,false,[.nilFunc],.other⟩),
 (179,⟨1,false,[.nilFunc],.other⟩),
 (180,⟨1,false,[.nilFunc],.other⟩),
 (181,⟨1,false,[.nilFunc],.other⟩),
 (182,⟨1,false,[.nilFunc],.other⟩),
 (183,⟨1,false,[.nilFunc],.other⟩),
 (184,⟨1,false,[.nilFunc],.other⟩),
 (185,⟨6,true,[.int .i64 0,.int .i64 0,.string ⟨#[]⟩,.int .i64 0,.int .i64 0,.string ⟨#[]⟩],.arr 2 3 true⟩),
 (186,⟨1,false,[.slice none 0 0],.slice 185 6 64 [.int .i64 0,.int .i64 0,.string ⟨#[]⟩,.int .i64 0,.int .i64 0,.string ⟨#[]⟩]⟩),
 (187,⟨1,false,[.nilFunc],.other⟩),
 (188,⟨1,false,[.slice none 0 0],.slice 192 3 40 [.slice none 0 0,.int .i64 0,.int .i64 0]⟩),
 (190,⟨1,false,[.nilFunc],.other⟩),
 (191,⟨3,true,[.slice none 0 0,.int .i64 0,.int .i64 0],.struct [(0,1,false),(1,2,true)]⟩),
 (192,⟨3,true,[.slice none 0 0,.int .i64 0,.int .i64 0],.struct [(0,1,false),(1,2,true)]⟩),
 (194,⟨1,false,[.nilFunc],.other⟩),
 (195,⟨1,false,[.nilFunc],.other⟩),
 (196,⟨1,false,[.nilFunc],.other⟩),
 (197,⟨1,false,[.nilFunc],.other⟩),
 (198,⟨1,false,[.nilFunc],.other⟩),
 (199,⟨1,false,[.nilFunc],.other⟩),
 (200,⟨1,false,[.nilFunc],.other⟩),
 (201,⟨1,false,[.nilFunc],.other⟩),
 (202,⟨1,false,[.nilFunc],.other⟩),
 (204,⟨1,false,[.nilFunc],.other⟩),
 (206,⟨1,false,[.nilFunc],.other⟩),
 (207,⟨1,false,[.nilFunc],.other⟩),
 (208,⟨1,false,[.pointer none],.ptr⟩),
 (209,⟨1,false,[.nilFunc],.other⟩),
 (210,⟨1,false,[.nilFunc],.other⟩),
 (211,⟨1,false,[.nilFunc],.other⟩),
 (212,⟨1,false,[.nilFunc],.other⟩),
 (213,⟨1,false,[.nilFunc],.other⟩),
 (214,⟨1,false,[.nilFunc],.other⟩),
 (215,⟨1,false,[.nilFunc],.other⟩),
 (216,⟨1,false,[.nilFunc],.other⟩),
 (217,⟨2,true,[.pointer none,.slice none 0 0],.struct [(0,1,false),(1,1,false)]⟩),
 (218,⟨2,true,[.pointer none,.slice none 0 0],.struct [(0,1,false),(1,1,false)]⟩),
 (220,⟨1,false,[.nilFunc],.other⟩),
 (222,⟨1,false,[.nilFunc],.other⟩),
 (223,⟨1,false,[.nilFunc],.other⟩),
 (224,⟨1,false,[.nilFunc],.other⟩),
 (225,⟨1,false,[.nilFunc],.other⟩),
 (226,⟨1,false,[.nilFunc],.other⟩),
 (227,⟨1,true,[.pointer none],.struct [(0,1,false)]⟩),
 (228,⟨1,true,[.pointer none],.struct [(0,1,false)]⟩),
 (229,⟨1,false,[.pointer none],.ptr⟩),
 (231,⟨1,false,[.nilFunc],.other⟩),
 (232,⟨1,false,[.slice none 0 0],.slice 239 4 48 [.slice none 0 0,.int .i64 0,.int .i64 0,.int .i64 0]⟩),
 (233,⟨2,true,[.int .i64 0,.slice none 0 0],.struct [(0,1,false),(1,1,false)]⟩),
 (234,⟨2,true,[.int .i64 0,.slice none 0 0],.struct [(0,1,false),(1,1,false)]⟩),
 (236,⟨1,false,[.nilFunc],.other⟩),
 (237,⟨1,false,[.nilFunc],.other⟩),
 (238,⟨4,true,[.slice none 0 0,.int .i64 0,.int .i64 0,.int .i64 0],.struct [(0,3,true),(3,1,false)]⟩),
 (239,⟨4,true,[.slice none 0 0,.int .i64 0,.int .i64 0,.int .i64 0],.struct [(0,3,true),(3,1,false)]⟩),
 (240,⟨1,false,[.nilFunc],.other⟩),
 (241,⟨1,false,[.nilFunc],.other⟩),
 (242,⟨1,false,[.pointer none],.ptr⟩),
 (243,⟨2,true,[.slice none 0 0,.int .i64 0],.struct [(0,1,false),(1,1,false)]⟩),
 (244,⟨2,true,[.slice none 0 0,.int .i64 0],.struct [(0,1,false),(1,1,false)]⟩),
 (245,⟨1,false,[.nilFunc],.other⟩),
 (246,⟨1,false,[.nilFunc],.other⟩),
 (247,⟨1,false,[.nilFunc],.other⟩),
 (248,⟨1,false,[.nilFunc],.other⟩),
 (249,⟨1,false,[.nilFunc],.other⟩),
 (250,⟨1,false,[.nilFunc],.other⟩),
 (251,⟨1,false,[.nilFunc],.other⟩),
 (252,⟨1,false,[.nilFunc],.other⟩),
 (253,⟨1,false,[.nilFunc],.other⟩),
 (254,⟨1,false,[.nilFunc],.other⟩),
 (255,⟨1,false,[.nilFunc],.other⟩),
 (258,⟨1,false,[.nilFunc],.other⟩),
 (259,⟨1,false,[.nilFunc],.other⟩),
 (260,⟨1,false,[.nilFunc],.other⟩),
 (261,⟨1,false,[.nilFunc],.other⟩),
 (262,⟨1,false,[.nilFunc],.other⟩),
 (263,⟨1,false,[.nilFunc],.other⟩),
 (264,⟨1,false,[.nilFunc],.other⟩),
 (265,⟨1,false,[.nilFunc],.other⟩),
 (267,⟨1,false,[.nilFunc],.other⟩),
 (268,⟨1,false,[.nilFunc],.other⟩),
 (269,⟨1,false,[.nilFunc],.other⟩),
 (270,⟨1,false,[.nilFunc],.other⟩),
 (271,⟨1,false,[.nilFunc],.other⟩),
 (272,⟨1,false,[.nilFunc],.other⟩),
 (273,⟨1,false,[.nilFunc],.other⟩),
 (274,⟨1,false,[.nilFunc],.other⟩),
 (275,⟨1,false,[.nilFunc],.other⟩),
 (276,⟨1,false,[.nilFunc],.other⟩),
 (277,⟨1,false,[.nilFunc],.other⟩),
 (278,⟨1,false,[.nilFunc],.other⟩),
 (279,⟨1,false,[.int .i64 0],.int .i64⟩),
 (281,⟨1,false,[.nilFunc],.other⟩),
 (282,⟨1,false,[.nilFunc],.other⟩),
 (283,⟨1,false,[.nilFunc],.other⟩),
 (284,⟨1,false,[.nilFunc],.other⟩),
 (285,⟨1,false,[.nilFunc],.other⟩),
 (286,⟨1,false,[.int .u32 0],.int .u32⟩),
 (287,⟨1,false,[.nilFunc],.other⟩),
 (288,⟨1,false,[.nilFunc],.other⟩),
 (289,⟨1,false,[.nilFunc],.other⟩),
 (290,⟨1,false,[.nilFunc],.other⟩),
 (291,⟨1,false,[.nilFunc],.other⟩),
 (292,⟨1,false,[.nilFunc],.other⟩),
 (293,⟨1,false,[.nilFunc],.other⟩),
 (294,⟨1,false,[.nilFunc],.other⟩),
 (295,⟨1,false,[.nilFunc],.other⟩),
 (296,⟨1,false,[.nilFunc],.other⟩),
 (297,⟨1,false,[.pointer none],.ptr⟩),
 (298,⟨2,true,[.pointer none,.slice none 0 0],.struct [(0,1,false),(1,1,false)]⟩),
 (299,⟨2,true,[.pointer none,.slice none 0 0],.struct [(0,1,false),(1,1,false)]⟩),
 (300,⟨1,false,[.nilFunc],.other⟩),
 (304,⟨1,false,[.nilFunc],.other⟩),
 (306,⟨1,false,[.nilFunc],.other⟩),
 (307,⟨1,false,[.nilFunc],.other⟩),
 (308,⟨1,false,[.int .u64 0],.int .u64⟩),
 (309,⟨1,false,[.nilFunc],.other⟩),
 (310,⟨1,false,[.nilFunc],.other⟩),
 (311,⟨1,false,[.nilFunc],.other⟩),
 (312,⟨1,false,[.pointer none],.ptr⟩),
 (313,⟨1,false,[.nilFunc],.other⟩),
 (314,⟨1,false,[.nilFunc],.other⟩),
 (315,⟨1,false,[.nilFunc],.other⟩),
 (316,⟨1,false,[.nilFunc],.other⟩),
 (317,⟨1,false,[.nilFunc],.other⟩),
 (318,⟨1,false,[.nilFunc],.other⟩),
 (319,⟨1,false,[.slice none 0 0],.slice 232 1 24 [.slice none 0 0]⟩),
 (320,⟨1,false,[.nilFunc],.other⟩),
 (321,⟨1,false,[.nilFunc],.other⟩),
 (322,⟨1,false,[.nilFunc],.other⟩),
 (323,⟨1,false,[.pointer none],.ptr⟩),
 (324,⟨1,false,[.pointer none],.ptr⟩),
 (326,⟨1,false,[.nilFunc],.other⟩),
 (327,⟨1,false,[.nilFunc],.other⟩),
 (328,⟨1,false,[.nilFunc],.other⟩),
 (329,⟨1,false,[.nilFunc],.other⟩),
 (331,⟨1,false,[.nilFunc],.other⟩),
 (332,⟨256,true,(zB 256),.barr 256⟩),
 (333,⟨2,true,[.int .u8 0,.int .u8 0],.struct [(0,1,false),(1,1,false)]⟩),
 (334,⟨2,true,[.int .u8 0,.int .u8 0],.struct [(0,1,false),(1,1,false)]⟩),
 (335,⟨32,true,(zB 32),.arr 16 2 true⟩),
 (336,⟨1,false,[.nilFunc],.other⟩),
 (338,⟨1,false,[.nilFunc],.other⟩),
 (346,⟨1,false,[.nilFunc],.other⟩)]
def cxQ:List (TypeId×List EK):=[(24,[.int,.int,.str]),(26,[.str,.int,.int,.int,.str,.int,.int,.str]),(37,[.str,.str,.int,.bool]),(51,[.int,.int]),(72,[.str,.int,.bool,.bool]),(142,[.int,.int]),(334,[.int,.int])]
def cxM:List (TypeId×String×FuncId×Option TypeId):=[(208, "Len",255,some 86),(208, "Less",256,some 86),(208, "Swap",257,some 86),(208, "Pop",258,none),(208, "Push",259,none)]
def cx:Ctx:=Af8 cxL [8600019,8600007,8900029,7000030,7000032,7000093,7000026] cxQ cxM
theorem Am:cx.ok Tryz.prog:=Aek (by kernel_rfl) (by kernel_rfl) (by kernel_rfl)
theorem An:Ho Tryz.prog (Dh Tryz.prog cx):=J4 Am (by kernel_rfl)
theorem Ahl:cx.muts=[8600019,8600007,8900029,7000030,7000032,7000093,7000026]:=nr rfl
theorem cx_1:cx.ty 1=some ⟨1,false,[.nilFunc],.other⟩:=nr rfl
theorem ck_1:cx.kind 1=some (.other):=nr rfl
theorem cx_2:cx.ty 2=some ⟨1,false,[.int .i64 0],.int .i64⟩:=nr rfl
theorem ck_2:cx.kind 2=some (.int .i64):=nr rfl
theorem cx_3:cx.ty 3=some ⟨1,false,[.int .i64 0],.int .i64⟩:=nr rfl
theorem ck_3:cx.kind 3=some (.int .i64):=nr rfl
theorem cx_4:cx.ty 4=some ⟨1,false,[.bool false],.bool⟩:=nr rfl
theorem ck_4:cx.kind 4=some (.bool):=nr rfl
theorem cx_5:cx.ty 5=some ⟨1,false,[.int .u8 0],.int .u8⟩:=nr rfl
theorem ck_5:cx.kind 5=some (.int .u8):=nr rfl
theorem cx_9:cx.ty 9=some ⟨1,false,[.string ⟨#[]⟩],.str⟩:=nr rfl
theorem ck_9:cx.kind 9=some (.str):=nr rfl
theorem Axw:cx.ty 22=some ⟨1,false,[.slice none 0 0],.slice 54 1 24 [.slice none 0 0]⟩:=nr rfl
theorem Zr:cx.kind 22=some (.slice 54 1 24 [.slice none 0 0]):=nr rfl
theorem Axx {e:Nat}{ls:List (List PV)}:Ba cx 22 (.p (.sl e ls))=some ls.length:=nr (Dv Zr)
theorem Axy {t e:Nat}{ls:List (List PV)}:Ba cx 22 (.own t e ls)=some ls.length:=nr (C0 Zr)
theorem Axz {t e:Nat}{ls:List (List PV)}:Ba cx 22 (.nown t e ls)=some ls.length:=nr (Cb Zr)
theorem Ax0:Ba cx 22 (.p (.v (.slice none 0 0)))=some 0:=nr (len_nil Zr)
theorem Ax1 {t e j n:Nat}:Ba cx 22 (.ms t e j n)=some n:=nr (Dw Zr)
theorem Ax2 {t e j q n:Nat}:Ba cx 22 (.bs t e j q n)=some n:=nr (Ef Zr)
theorem Ax3:cx.ty 24=some ⟨3,true,[.int .i64 0,.int .i64 0,.string ⟨#[]⟩],.struct [(0,1,false),(1,1,false),(2,1,false)]⟩:=nr rfl
theorem Ax4:cx.kind 24=some (.struct [(0,1,false),(1,1,false),(2,1,false)]):=nr rfl
theorem Ax5:cx.ty 26=some ⟨8,true,[.string ⟨#[]⟩,.int .i64 0,.int .i64 0,.int .i64 0,.string ⟨#[]⟩,.int .i64 0,.int .i64 0,.string ⟨#[]⟩],.struct [(0,1,false),(1,1,false),(2,3,true),(5,3,true)]⟩:=nr rfl
theorem Ax6:cx.kind 26=some (.struct [(0,1,false),(1,1,false),(2,3,true),(5,3,true)]):=nr rfl
theorem Ax7:cx.ty 28=some ⟨1,false,[.pointer none],.ptr⟩:=nr rfl
theorem Apo:cx.kind 28=some (.ptr):=nr rfl
theorem Ax8:cx.ty 29=some ⟨1,false,[.int .i64 0],.int .i64⟩:=nr rfl
theorem Ax9:cx.kind 29=some (.int .i64):=nr rfl
theorem Aya:cx.ty 32=some ⟨1,false,[.pointer none],.ptr⟩:=nr rfl
theorem App:cx.kind 32=some (.ptr):=nr rfl
theorem Ayb:cx.ty 34=some ⟨1,false,[.int .u64 0],.int .u64⟩:=nr rfl
theorem Ayc:cx.kind 34=some (.int .u64):=nr rfl
theorem Ayd:cx.ty 35=some ⟨1,false,[.nilFunc],.other⟩:=nr rfl
theorem Aye:cx.kind 35=some (.other):=nr rfl
theorem Ayf:cx.ty 37=some ⟨4,true,[.string ⟨#[]⟩,.string ⟨#[]⟩,.int .i64 0,.bool false],.struct [(0,1,false),(1,1,false),(2,1,false),(3,1,false)]⟩:=nr rfl
theorem Ayg:cx.kind 37=some (.struct [(0,1,false),(1,1,false),(2,1,false),(3,1,false)]):=nr rfl
theorem Ayh:cx.ty 38=some ⟨1,false,[.pointer none],.ptr⟩:=nr rfl
theorem Apq:cx.kind 38=some (.ptr):=nr rfl
theorem Ayi:cx.ty 40=some ⟨1,false,[.slice none 0 0],.slice 72 4 32 [.string ⟨#[]⟩,.int .i64 0,.bool false,.bool false]⟩:=nr rfl
theorem Zs:cx.kind 40=some (.slice 72 4 32 [.string ⟨#[]⟩,.int .i64 0,.bool false,.bool false]):=nr rfl
theorem Ayj {e:Nat}{ls:List (List PV)}:Ba cx 40 (.p (.sl e ls))=some ls.length:=nr (Dv Zs)
theorem Ayk {t e:Nat}{ls:List (List PV)}:Ba cx 40 (.own t e ls)=some ls.length:=nr (C0 Zs)
theorem Ayl {t e:Nat}{ls:List (List PV)}:Ba cx 40 (.nown t e ls)=some ls.length:=nr (Cb Zs)
theorem Aym:Ba cx 40 (.p (.v (.slice none 0 0)))=some 0:=nr (len_nil Zs)
theorem Ayn {t e j n:Nat}:Ba cx 40 (.ms t e j n)=some n:=nr (Dw Zs)
theorem Ayo {t e j q n:Nat}:Ba cx 40 (.bs t e j q n)=some n:=nr (Ef Zs)
theorem Ayp:cx.ty 42=some ⟨2,true,[.string ⟨#[]⟩,.slice none 0 0],.struct [(0,1,false),(1,1,false)]⟩:=nr rfl
theorem Ayq:cx.kind 42=some (.struct [(0,1,false),(1,1,false)]):=nr rfl
theorem Ayr:cx.ty 43=some ⟨1,false,[.slice none 0 0],.slice 37 4 48 [.string ⟨#[]⟩,.string ⟨#[]⟩,.int .i64 0,.bool false]⟩:=nr rfl
theorem Ty:cx.kind 43=some (.slice 37 4 48 [.string ⟨#[]⟩,.string ⟨#[]⟩,.int .i64 0,.bool false]):=nr rfl
theorem Ays {e:Nat}{ls:List (List PV)}:Ba cx 43 (.p (.sl e ls))=some ls.length:=nr (Dv Ty)
theorem Ayt {t e:Nat}{ls:List (List PV)}:Ba cx 43 (.own t e ls)=some ls.length:=nr (C0 Ty)
theorem Ayu {t e:Nat}{ls:List (List PV)}:Ba cx 43 (.nown t e ls)=some ls.length:=nr (Cb Ty)
theorem Ayv:Ba cx 43 (.p (.v (.slice none 0 0)))=some 0:=nr (len_nil Ty)
theorem Ayw {t e j n:Nat}:Ba cx 43 (.ms t e j n)=some n:=nr (Dw Ty)
theorem Ayx {t e j q n:Nat}:Ba cx 43 (.bs t e j q n)=some n:=nr (Ef Ty)
theorem Ayy:cx.ty 44=some ⟨1,false,[.slice none 0 0],.slice 3 1 8 [.int .i64 0]⟩:=nr rfl
theorem Zt:cx.kind 44=some (.slice 3 1 8 [.int .i64 0]):=nr rfl
theorem Ayz {e:Nat}{ls:List (List PV)}:Ba cx 44 (.p (.sl e ls))=some ls.length:=nr (Dv Zt)
theorem Ay0 {t e:Nat}{ls:List (List PV)}:Ba cx 44 (.own t e ls)=some ls.length:=nr (C0 Zt)
theorem Ay1 {t e:Nat}{ls:List (List PV)}:Ba cx 44 (.nown t e ls)=some ls.length:=nr (Cb Zt)
theorem Ay2:Ba cx 44 (.p (.v (.slice none 0 0)))=some 0:=nr (len_nil Zt)
theorem Ay3 {t e j n:Nat}:Ba cx 44 (.ms t e j n)=some n:=nr (Dw Zt)
theorem Ay4 {t e j q n:Nat}:Ba cx 44 (.bs t e j q n)=some n:=nr (Ef Zt)
theorem Ay5:cx.ty 46=some ⟨5,true,[.string ⟨#[]⟩,.slice none 0 0,.slice none 0 0,.int .i64 0,.slice none 0 0],.struct [(0,2,true),(2,1,false),(3,1,false),(4,1,false)]⟩:=nr rfl
theorem Ay6:cx.kind 46=some (.struct [(0,2,true),(2,1,false),(3,1,false),(4,1,false)]):=nr rfl
theorem Ay7:cx.ty 51=some ⟨2,true,[.int .i64 0,.int .i64 0],.struct [(0,1,false),(1,1,false)]⟩:=nr rfl
theorem Ay8:cx.kind 51=some (.struct [(0,1,false),(1,1,false)]):=nr rfl
theorem Ay9:cx.ty 54=some ⟨1,false,[.slice none 0 0],.slice 24 3 32 [.int .i64 0,.int .i64 0,.string ⟨#[]⟩]⟩:=nr rfl
theorem W8:cx.kind 54=some (.slice 24 3 32 [.int .i64 0,.int .i64 0,.string ⟨#[]⟩]):=nr rfl
theorem Aza {e:Nat}{ls:List (List PV)}:Ba cx 54 (.p (.sl e ls))=some ls.length:=nr (Dv W8)
theorem Azb {t e:Nat}{ls:List (List PV)}:Ba cx 54 (.own t e ls)=some ls.length:=nr (C0 W8)
theorem Azc {t e:Nat}{ls:List (List PV)}:Ba cx 54 (.nown t e ls)=some ls.length:=nr (Cb W8)
theorem Azd:Ba cx 54 (.p (.v (.slice none 0 0)))=some 0:=nr (len_nil W8)
theorem Aze {t e j n:Nat}:Ba cx 54 (.ms t e j n)=some n:=nr (Dw W8)
theorem Azf {t e j q n:Nat}:Ba cx 54 (.bs t e j q n)=some n:=nr (Ef W8)
theorem Azg:cx.ty 56=some ⟨1,false,[.slice none 0 0],.slice 62 5 56 [.int .i64 0,.int .i64 0,.int .i64 0,.int .i64 0,.slice none 0 0]⟩:=nr rfl
theorem Mf:cx.kind 56=some (.slice 62 5 56 [.int .i64 0,.int .i64 0,.int .i64 0,.int .i64 0,.slice none 0 0]):=nr rfl
theorem Azh {e:Nat}{ls:List (List PV)}:Ba cx 56 (.p (.sl e ls))=some ls.length:=nr (Dv Mf)
theorem Azi {t e:Nat}{ls:List (List PV)}:Ba cx 56 (.own t e ls)=some ls.length:=nr (C0 Mf)
theorem Azj {t e:Nat}{ls:List (List PV)}:Ba cx 56 (.nown t e ls)=some ls.length:=nr (Cb Mf)
theorem Azk:Ba cx 56 (.p (.v (.slice none 0 0)))=some 0:=nr (len_nil Mf)
theorem Azl {t e j n:Nat}:Ba cx 56 (.ms t e j n)=some n:=nr (Dw Mf)
theorem Azm {t e j q n:Nat}:Ba cx 56 (.bs t e j q n)=some n:=nr (Ef Mf)
theorem Azn:cx.ty 62=some ⟨5,true,[.int .i64 0,.int .i64 0,.int .i64 0,.int .i64 0,.slice none 0 0],.struct [(0,2,true),(2,1,false),(3,1,false),(4,1,false)]⟩:=nr rfl
theorem Azo:cx.kind 62=some (.struct [(0,2,true),(2,1,false),(3,1,false),(4,1,false)]):=nr rfl
theorem Azp:cx.ty 66=some ⟨4,true,[.slice none 0 0,.int .i64 0,.int .i64 0,.int .i64 0],.struct [(0,1,false),(1,1,false),(2,1,false),(3,1,false)]⟩:=nr rfl
theorem Azq:cx.kind 66=some (.struct [(0,1,false),(1,1,false),(2,1,false),(3,1,false)]):=nr rfl
theorem Azr:cx.ty 70=some ⟨1,false,[.slice none 0 0],.slice 5 1 1 [.int .u8 0]⟩:=nr rfl
theorem E3:cx.kind 70=some (.slice 5 1 1 [.int .u8 0]):=nr rfl
theorem Azs {e:Nat}{ls:List (List PV)}:Ba cx 70 (.p (.sl e ls))=some ls.length:=nr (Dv E3)
theorem Azt {t e:Nat}{ls:List (List PV)}:Ba cx 70 (.own t e ls)=some ls.length:=nr (C0 E3)
theorem Azu {t e:Nat}{ls:List (List PV)}:Ba cx 70 (.nown t e ls)=some ls.length:=nr (Cb E3)
theorem Azv:Ba cx 70 (.p (.v (.slice none 0 0)))=some 0:=nr (len_nil E3)
theorem Ash {t e j n:Nat}:Ba cx 70 (.ms t e j n)=some n:=nr (Dw E3)
theorem Azw {t e j q n:Nat}:Ba cx 70 (.bs t e j q n)=some n:=nr (Ef E3)
theorem Azx:cx.ty 72=some ⟨4,true,[.string ⟨#[]⟩,.int .i64 0,.bool false,.bool false],.struct [(0,1,false),(1,1,false),(2,1,false),(3,1,false)]⟩:=nr rfl
theorem Azy:cx.kind 72=some (.struct [(0,1,false),(1,1,false),(2,1,false),(3,1,false)]):=nr rfl
theorem Azz:cx.ty 75=some ⟨1,false,[.nilFunc],.other⟩:=nr rfl
theorem Az0:cx.kind 75=some (.other):=nr rfl
theorem Az1:cx.ty 80=some ⟨1,false,[.pointer none],.ptr⟩:=nr rfl
theorem Apr:cx.kind 80=some (.ptr):=nr rfl
theorem Az2:cx.ty 81=some ⟨1,false,[.slice none 0 0],.slice 70 1 24 [.slice none 0 0]⟩:=nr rfl
theorem Zu:cx.kind 81=some (.slice 70 1 24 [.slice none 0 0]):=nr rfl
theorem Az3 {e:Nat}{ls:List (List PV)}:Ba cx 81 (.p (.sl e ls))=some ls.length:=nr (Dv Zu)
theorem Az4 {t e:Nat}{ls:List (List PV)}:Ba cx 81 (.own t e ls)=some ls.length:=nr (C0 Zu)
theorem Az5 {t e:Nat}{ls:List (List PV)}:Ba cx 81 (.nown t e ls)=some ls.length:=nr (Cb Zu)
theorem Az6:Ba cx 81 (.p (.v (.slice none 0 0)))=some 0:=nr (len_nil Zu)
theorem Az7 {t e j n:Nat}:Ba cx 81 (.ms t e j n)=some n:=nr (Dw Zu)
theorem Az8 {t e j q n:Nat}:Ba cx 81 (.bs t e j q n)=some n:=nr (Ef Zu)
theorem Az9:cx.ty 84=some ⟨1,false,[.map none],.map (.int .i64) (.pointer none)⟩:=nr rfl
theorem A0a:cx.kind 84=some (.map (.int .i64) (.pointer none)):=nr rfl
theorem Alb:cx.ty 86=some ⟨1,false,[.slice none 0 0],.slice 154 1 8 [.pointer none]⟩:=nr rfl
theorem Zv:cx.kind 86=some (.slice 154 1 8 [.pointer none]):=nr rfl
theorem A0b {e:Nat}{ls:List (List PV)}:Ba cx 86 (.p (.sl e ls))=some ls.length:=nr (Dv Zv)
theorem A0c {t e:Nat}{ls:List (List PV)}:Ba cx 86 (.own t e ls)=some ls.length:=nr (C0 Zv)
theorem A0d {t e:Nat}{ls:List (List PV)}:Ba cx 86 (.nown t e ls)=some ls.length:=nr (Cb Zv)
theorem A0e:Ba cx 86 (.p (.v (.slice none 0 0)))=some 0:=nr (len_nil Zv)
theorem Asi {t e j n:Nat}:Ba cx 86 (.ms t e j n)=some n:=nr (Dw Zv)
theorem A0f {t e j q n:Nat}:Ba cx 86 (.bs t e j q n)=some n:=nr (Ef Zv)
theorem A0g:cx.ty 88=some ⟨6,true,[.pointer none,.pointer none,.int .i64 0,.slice none 0 0,.map none,.int .i64 0],.struct [(0,1,false),(1,1,false),(2,1,false),(3,1,false),(4,1,false),(5,1,false)]⟩:=nr rfl
theorem A0h:cx.kind 88=some (.struct [(0,1,false),(1,1,false),(2,1,false),(3,1,false),(4,1,false),(5,1,false)]):=nr rfl
theorem A0i:cx.ty 89=some ⟨1,false,[.slice none 0 0],.slice 153 513 520 Pm⟩:=nr rfl
theorem Zw:cx.kind 89=some (.slice 153 513 520 Pm):=nr rfl
theorem A0j {e:Nat}{ls:List (List PV)}:Ba cx 89 (.p (.sl e ls))=some ls.length:=nr (Dv Zw)
theorem A0k {t e:Nat}{ls:List (List PV)}:Ba cx 89 (.own t e ls)=some ls.length:=nr (C0 Zw)
theorem A0l {t e:Nat}{ls:List (List PV)}:Ba cx 89 (.nown t e ls)=some ls.length:=nr (Cb Zw)
theorem A0m:Ba cx 89 (.p (.v (.slice none 0 0)))=some 0:=nr (len_nil Zw)
theorem Asj {t e j n:Nat}:Ba cx 89 (.ms t e j n)=some n:=nr (Dw Zw)
theorem A0n {t e j q n:Nat}:Ba cx 89 (.bs t e j q n)=some n:=nr (Ef Zw)
theorem A0o:cx.ty 93=some ⟨1,false,[.map none],.map (.int .i64) (.agg ⟨(zB 64)⟩)⟩:=nr rfl
theorem A0p:cx.kind 93=some (.map (.int .i64) (.agg ⟨(zB 64)⟩)):=nr rfl
theorem A0q:cx.ty 94=some ⟨1,false,[.slice none 0 0],.slice 139 65 72 zT65⟩:=nr rfl
theorem Zx:cx.kind 94=some (.slice 139 65 72 zT65):=nr rfl
theorem A0r {e:Nat}{ls:List (List PV)}:Ba cx 94 (.p (.sl e ls))=some ls.length:=nr (Dv Zx)
theorem A0s {t e:Nat}{ls:List (List PV)}:Ba cx 94 (.own t e ls)=some ls.length:=nr (C0 Zx)
theorem A0t {t e:Nat}{ls:List (List PV)}:Ba cx 94 (.nown t e ls)=some ls.length:=nr (Cb Zx)
theorem A0u:Ba cx 94 (.p (.v (.slice none 0 0)))=some 0:=nr (len_nil Zx)
theorem A0v {t e j n:Nat}:Ba cx 94 (.ms t e j n)=some n:=nr (Dw Zx)
theorem A0w {t e j q n:Nat}:Ba cx 94 (.bs t e j q n)=some n:=nr (Ef Zx)
theorem A0x:cx.ty 96=some ⟨6,true,[.int .i64 0,.map none,.map none,.slice none 0 0,.bool false,.int .i64 0],.struct [(0,1,false),(1,1,false),(2,1,false),(3,1,false),(4,1,false),(5,1,false)]⟩:=nr rfl
theorem A0y:cx.kind 96=some (.struct [(0,1,false),(1,1,false),(2,1,false),(3,1,false),(4,1,false),(5,1,false)]):=nr rfl
theorem A0z:cx.ty 98=some ⟨2,true,[.pointer none,.slice none 0 0],.struct [(0,1,false),(1,1,false)]⟩:=nr rfl
theorem A00:cx.kind 98=some (.struct [(0,1,false),(1,1,false)]):=nr rfl
theorem Asl:cx.ty 111=some ⟨3,true,[.nilFunc,.nilFunc,.nilFunc],.struct [(0,1,false),(1,1,false),(2,1,false)]⟩:=nr rfl
theorem Asm:cx.kind 111=some (.struct [(0,1,false),(1,1,false),(2,1,false)]):=nr rfl
theorem Asn:cx.ty 116=some ⟨1,false,[.slice none 0 0],.slice 120 3 40 [.int .i64 0,.int .i64 0,.slice none 0 0]⟩:=nr rfl
theorem Kh:cx.kind 116=some (.slice 120 3 40 [.int .i64 0,.int .i64 0,.slice none 0 0]):=nr rfl
theorem Aso {e:Nat}{ls:List (List PV)}:Ba cx 116 (.p (.sl e ls))=some ls.length:=nr (Dv Kh)
theorem Asp {t e:Nat}{ls:List (List PV)}:Ba cx 116 (.own t e ls)=some ls.length:=nr (C0 Kh)
theorem Asq {t e:Nat}{ls:List (List PV)}:Ba cx 116 (.nown t e ls)=some ls.length:=nr (Cb Kh)
theorem Asr:Ba cx 116 (.p (.v (.slice none 0 0)))=some 0:=nr (len_nil Kh)
theorem Ass {t e j n:Nat}:Ba cx 116 (.ms t e j n)=some n:=nr (Dw Kh)
theorem Ast {t e j q n:Nat}:Ba cx 116 (.bs t e j q n)=some n:=nr (Ef Kh)
theorem Asu:cx.ty 120=some ⟨3,true,[.int .i64 0,.int .i64 0,.slice none 0 0],.struct [(0,2,true),(2,1,false)]⟩:=nr rfl
theorem Asv:cx.kind 120=some (.struct [(0,2,true),(2,1,false)]):=nr rfl
theorem Asw:cx.ty 124=some ⟨1,false,[.slice none 0 0],.slice 51 2 16 [.int .i64 0,.int .i64 0]⟩:=nr rfl
theorem Ki:cx.kind 124=some (.slice 51 2 16 [.int .i64 0,.int .i64 0]):=nr rfl
theorem Asx {e:Nat}{ls:List (List PV)}:Ba cx 124 (.p (.sl e ls))=some ls.length:=nr (Dv Ki)
theorem Asy {t e:Nat}{ls:List (List PV)}:Ba cx 124 (.own t e ls)=some ls.length:=nr (C0 Ki)
theorem Asz {t e:Nat}{ls:List (List PV)}:Ba cx 124 (.nown t e ls)=some ls.length:=nr (Cb Ki)
theorem As0:Ba cx 124 (.p (.v (.slice none 0 0)))=some 0:=nr (len_nil Ki)
theorem As1 {t e j n:Nat}:Ba cx 124 (.ms t e j n)=some n:=nr (Dw Ki)
theorem As2 {t e j q n:Nat}:Ba cx 124 (.bs t e j q n)=some n:=nr (Ef Ki)
theorem As3:cx.ty 129=some ⟨1,false,[.nilFunc],.other⟩:=nr rfl
theorem As4:cx.kind 129=some (.other):=nr rfl
theorem As5:cx.ty 135=some ⟨1,false,[.slice none 0 0],.slice 4 1 1 [.bool false]⟩:=nr rfl
theorem Pn:cx.kind 135=some (.slice 4 1 1 [.bool false]):=nr rfl
theorem As6 {e:Nat}{ls:List (List PV)}:Ba cx 135 (.p (.sl e ls))=some ls.length:=nr (Dv Pn)
theorem As7 {t e:Nat}{ls:List (List PV)}:Ba cx 135 (.own t e ls)=some ls.length:=nr (C0 Pn)
theorem As8 {t e:Nat}{ls:List (List PV)}:Ba cx 135 (.nown t e ls)=some ls.length:=nr (Cb Pn)
theorem As9:Ba cx 135 (.p (.v (.slice none 0 0)))=some 0:=nr (len_nil Pn)
theorem Ata {t e j n:Nat}:Ba cx 135 (.ms t e j n)=some n:=nr (Dw Pn)
theorem Atb {t e j q n:Nat}:Ba cx 135 (.bs t e j q n)=some n:=nr (Ef Pn)
theorem Atc:cx.ty 137=some ⟨64,true,(zB 64),.barr 64⟩:=nr rfl
theorem Ahm:cx.kind 137=some (.barr 64):=nr rfl
theorem Atd:cx.ty 139=some ⟨65,true,zT65,.struct [(0,1,false),(1,64,true)]⟩:=nr rfl
theorem Ate:cx.kind 139=some (.struct [(0,1,false),(1,64,true)]):=nr rfl
theorem Atf:cx.ty 140=some ⟨1,false,[.int .u64 0],.int .u64⟩:=nr rfl
theorem Atg:cx.kind 140=some (.int .u64):=nr rfl
theorem Ath:cx.ty 142=some ⟨2,true,[.int .u64 0,.int .u64 0],.struct [(0,1,false),(1,1,false)]⟩:=nr rfl
theorem Ati:cx.kind 142=some (.struct [(0,1,false),(1,1,false)]):=nr rfl
theorem Atj:cx.ty 144=some ⟨5,true,[.pointer none,.int .u64 0,.int .u64 0,.slice none 0 0,.int .i64 0],.struct [(0,1,false),(1,2,true),(3,1,false),(4,1,false)]⟩:=nr rfl
theorem Atk:cx.kind 144=some (.struct [(0,1,false),(1,2,true),(3,1,false),(4,1,false)]):=nr rfl
theorem Atl:cx.ty 151=some ⟨512,true,(zB 512),.barr 512⟩:=nr rfl
theorem Ahn:cx.kind 151=some (.barr 512):=nr rfl
theorem Atm:cx.ty 153=some ⟨513,true,Pm,.struct [(0,1,false),(1,512,true)]⟩:=nr rfl
theorem Atn:cx.kind 153=some (.struct [(0,1,false),(1,512,true)]):=nr rfl
theorem Ato:cx.ty 154=some ⟨1,false,[.pointer none],.ptr⟩:=nr rfl
theorem Aho:cx.kind 154=some (.ptr):=nr rfl
theorem Atp:cx.ty 158=some ⟨516,true,Q2,.struct [(0,1,false),(1,512,true),(513,1,false),(514,1,false),(515,1,false)]⟩:=nr rfl
theorem Atq:cx.kind 158=some (.struct [(0,1,false),(1,512,true),(513,1,false),(514,1,false),(515,1,false)]):=nr rfl
theorem Atr:cx.ty 165=some ⟨1,false,[.nilFunc],.other⟩:=nr rfl
theorem Ats:cx.kind 165=some (.other):=nr rfl
theorem Att:cx.ty 184=some ⟨1,false,[.nilFunc],.other⟩:=nr rfl
theorem Atu:cx.kind 184=some (.other):=nr rfl
theorem Atv:cx.ty 185=some ⟨6,true,[.int .i64 0,.int .i64 0,.string ⟨#[]⟩,.int .i64 0,.int .i64 0,.string ⟨#[]⟩],.arr 2 3 true⟩:=nr rfl
theorem Atw:cx.kind 185=some (.arr 2 3 true):=nr rfl
theorem Atx:cx.ty 186=some ⟨1,false,[.slice none 0 0],.slice 185 6 64 [.int .i64 0,.int .i64 0,.string ⟨#[]⟩,.int .i64 0,.int .i64 0,.string ⟨#[]⟩]⟩:=nr rfl
theorem Po:cx.kind 186=some (.slice 185 6 64 [.int .i64 0,.int .i64 0,.string ⟨#[]⟩,.int .i64 0,.int .i64 0,.string ⟨#[]⟩]):=nr rfl
theorem Aty {e:Nat}{ls:List (List PV)}:Ba cx 186 (.p (.sl e ls))=some ls.length:=nr (Dv Po)
theorem Atz {t e:Nat}{ls:List (List PV)}:Ba cx 186 (.own t e ls)=some ls.length:=nr (C0 Po)
theorem At0 {t e:Nat}{ls:List (List PV)}:Ba cx 186 (.nown t e ls)=some ls.length:=nr (Cb Po)
theorem At1:Ba cx 186 (.p (.v (.slice none 0 0)))=some 0:=nr (len_nil Po)
theorem At2 {t e j n:Nat}:Ba cx 186 (.ms t e j n)=some n:=nr (Dw Po)
theorem At3 {t e j q n:Nat}:Ba cx 186 (.bs t e j q n)=some n:=nr (Ef Po)
theorem At4:cx.ty 188=some ⟨1,false,[.slice none 0 0],.slice 192 3 40 [.slice none 0 0,.int .i64 0,.int .i64 0]⟩:=nr rfl
theorem Eh:cx.kind 188=some (.slice 192 3 40 [.slice none 0 0,.int .i64 0,.int .i64 0]):=nr rfl
theorem At5 {e:Nat}{ls:List (List PV)}:Ba cx 188 (.p (.sl e ls))=some ls.length:=nr (Dv Eh)
theorem At6 {t e:Nat}{ls:List (List PV)}:Ba cx 188 (.own t e ls)=some ls.length:=nr (C0 Eh)
theorem At7 {t e:Nat}{ls:List (List PV)}:Ba cx 188 (.nown t e ls)=some ls.length:=nr (Cb Eh)
theorem At8:Ba cx 188 (.p (.v (.slice none 0 0)))=some 0:=nr (len_nil Eh)
theorem At9 {t e j n:Nat}:Ba cx 188 (.ms t e j n)=some n:=nr (Dw Eh)
theorem Aua {t e j q n:Nat}:Ba cx 188 (.bs t e j q n)=some n:=nr (Ef Eh)
theorem Aub:cx.ty 192=some ⟨3,true,[.slice none 0 0,.int .i64 0,.int .i64 0],.struct [(0,1,false),(1,2,true)]⟩:=nr rfl
theorem Auc:cx.kind 192=some (.struct [(0,1,false),(1,2,true)]):=nr rfl
theorem Aud:cx.ty 208=some ⟨1,false,[.pointer none],.ptr⟩:=nr rfl
theorem Ahp:cx.kind 208=some (.ptr):=nr rfl
theorem Aue:cx.ty 228=some ⟨1,true,[.pointer none],.struct [(0,1,false)]⟩:=nr rfl
theorem Auf:cx.kind 228=some (.struct [(0,1,false)]):=nr rfl
theorem Aug:cx.ty 229=some ⟨1,false,[.pointer none],.ptr⟩:=nr rfl
theorem Ahq:cx.kind 229=some (.ptr):=nr rfl
theorem Auh:cx.ty 232=some ⟨1,false,[.slice none 0 0],.slice 239 4 48 [.slice none 0 0,.int .i64 0,.int .i64 0,.int .i64 0]⟩:=nr rfl
theorem Hu:cx.kind 232=some (.slice 239 4 48 [.slice none 0 0,.int .i64 0,.int .i64 0,.int .i64 0]):=nr rfl
theorem Aui {e:Nat}{ls:List (List PV)}:Ba cx 232 (.p (.sl e ls))=some ls.length:=nr (Dv Hu)
theorem Auj {t e:Nat}{ls:List (List PV)}:Ba cx 232 (.own t e ls)=some ls.length:=nr (C0 Hu)
theorem Auk {t e:Nat}{ls:List (List PV)}:Ba cx 232 (.nown t e ls)=some ls.length:=nr (Cb Hu)
theorem Aul:Ba cx 232 (.p (.v (.slice none 0 0)))=some 0:=nr (len_nil Hu)
theorem Ahr {t e j n:Nat}:Ba cx 232 (.ms t e j n)=some n:=nr (Dw Hu)
theorem Aum {t e j q n:Nat}:Ba cx 232 (.bs t e j q n)=some n:=nr (Ef Hu)
theorem Aun:cx.ty 234=some ⟨2,true,[.int .i64 0,.slice none 0 0],.struct [(0,1,false),(1,1,false)]⟩:=nr rfl
theorem Auo:cx.kind 234=some (.struct [(0,1,false),(1,1,false)]):=nr rfl
theorem Aup:cx.ty 239=some ⟨4,true,[.slice none 0 0,.int .i64 0,.int .i64 0,.int .i64 0],.struct [(0,3,true),(3,1,false)]⟩:=nr rfl
theorem Auq:cx.kind 239=some (.struct [(0,3,true),(3,1,false)]):=nr rfl
theorem Aur:cx.ty 242=some ⟨1,false,[.pointer none],.ptr⟩:=nr rfl
theorem Ahs:cx.kind 242=some (.ptr):=nr rfl
theorem Aus:cx.ty 244=some ⟨2,true,[.slice none 0 0,.int .i64 0],.struct [(0,1,false),(1,1,false)]⟩:=nr rfl
theorem Aut:cx.kind 244=some (.struct [(0,1,false),(1,1,false)]):=nr rfl
theorem Auu:cx.ty 269=some ⟨1,false,[.nilFunc],.other⟩:=nr rfl
theorem Auv:cx.kind 269=some (.other):=nr rfl
theorem Auw:cx.ty 290=some ⟨1,false,[.nilFunc],.other⟩:=nr rfl
theorem Aux:cx.kind 290=some (.other):=nr rfl
theorem A01:cx.eqs 24=some [.int,.int,.str]:=nr rfl
theorem A02:cx.eqs 26=some [.str,.int,.int,.int,.str,.int,.int,.str]:=nr rfl
theorem A03:cx.eqs 37=some [.str,.str,.int,.bool]:=nr rfl
theorem A04:cx.eqs 51=some [.int,.int]:=nr rfl
theorem A05:cx.eqs 72=some [.str,.int,.bool,.bool]:=nr rfl
theorem Auy:cx.eqs 142=some [.int,.int]:=nr rfl
theorem Pp:arrF 2 3 true=[(0,3,true),(3,3,true)]:=nr rfl
theorem Ni:arrF 16 2 true=[(0,2,true),(2,2,true),(4,2,true),(6,2,true),(8,2,true),(10,2,true),(12,2,true),(14,2,true),(16,2,true),(18,2,true),(20,2,true),(22,2,true),(24,2,true),(26,2,true),(28,2,true),(30,2,true)]:=nr rfl
theorem Aoa:(type_of% Pp)∧(type_of% Ni):=⟨Pp,Ni⟩
theorem aa {p q:Prop}(h:p)(k:q):p∧q:=⟨h,k⟩
def T1:=aa ck_1 cx_1
def T2:=aa ck_2 cx_2
def T3:=aa ck_3 cx_3
def T4:=aa ck_4 cx_4
def T5:=aa ck_5 cx_5
def T9:=aa ck_9 cx_9
def T22:=aa Zr <| aa Axw <| aa @Axx <| aa @Axy <| aa @Axz <| aa @Ax1 <| aa @Ax2 Ax0
def T24:=aa Ax4 <| aa Ax3 A01
def T26:=aa Ax6 <| aa Ax5 A02
theorem A06 {x:AV}:mkIA cx 28 x=some (.dyn 28 x):=nr (Ng Apo)
theorem A07 {a:AV}:asIA cx 28 false (.dyn 28 a)=some a:=nr (Nh Apo)
def T28:=aa Apo <| aa Ax7 <| aa @A06 @A07
def T29:=aa Ax9 Ax8
theorem A08 {x:AV}:mkIA cx 32 x=some (.dyn 32 x):=nr (Ng App)
theorem A09 {a:AV}:asIA cx 32 false (.dyn 32 a)=some a:=nr (Nh App)
def T32:=aa App <| aa Aya <| aa @A08 @A09
def T34:=aa Ayc Ayb
def T35:=aa Aye Ayd
def T37:=aa Ayg <| aa Ayf A03
theorem A1a {x:AV}:mkIA cx 38 x=some (.dyn 38 x):=nr (Ng Apq)
theorem A1b {a:AV}:asIA cx 38 false (.dyn 38 a)=some a:=nr (Nh Apq)
def T38:=aa Apq <| aa Ayh <| aa @A1a @A1b
def T40:=aa Zs <| aa Ayi <| aa @Ayj <| aa @Ayk <| aa @Ayl <| aa @Ayn <| aa @Ayo Aym
def T42:=aa Ayq Ayp
def T43:=aa Ty <| aa Ayr <| aa @Ays <| aa @Ayt <| aa @Ayu <| aa @Ayw <| aa @Ayx Ayv
def T44:=aa Zt <| aa Ayy <| aa @Ayz <| aa @Ay0 <| aa @Ay1 <| aa @Ay3 <| aa @Ay4 Ay2
def T46:=aa Ay6 Ay5
def T51:=aa Ay8 <| aa Ay7 A04
def T54:=aa W8 <| aa Ay9 <| aa @Aza <| aa @Azb <| aa @Azc <| aa @Aze <| aa @Azf Azd
def T56:=aa Mf <| aa Azg <| aa @Azh <| aa @Azi <| aa @Azj <| aa @Azl <| aa @Azm Azk
def T62:=aa Azo Azn
def T66:=aa Azq Azp
def T70:=aa E3 <| aa Azr <| aa @Azs <| aa @Azt <| aa @Azu <| aa @Ash <| aa @Azw Azv
def T72:=aa Azy <| aa Azx A05
def T75:=aa Az0 Azz
theorem A1c {x:AV}:mkIA cx 80 x=some (.dyn 80 x):=nr (Ng Apr)
theorem A1d {a:AV}:asIA cx 80 false (.dyn 80 a)=some a:=nr (Nh Apr)
def T80:=aa Apr <| aa Az1 <| aa @A1c @A1d
def T81:=aa Zu <| aa Az2 <| aa @Az3 <| aa @Az4 <| aa @Az5 <| aa @Az7 <| aa @Az8 Az6
def T84:=aa A0a Az9
def T86:=aa Zv <| aa Alb <| aa @A0b <| aa @A0c <| aa @A0d <| aa @Asi <| aa @A0f A0e
def T88:=aa A0h A0g
def T89:=aa Zw <| aa A0i <| aa @A0j <| aa @A0k <| aa @A0l <| aa @Asj <| aa @A0n A0m
def T93:=aa A0p A0o
def T94:=aa Zx <| aa A0q <| aa @A0r <| aa @A0s <| aa @A0t <| aa @A0v <| aa @A0w A0u
def T96:=aa A0y A0x
def T98:=aa A00 A0z
def T111:=aa Asm Asl
def T116:=aa Kh <| aa Asn <| aa @Aso <| aa @Asp <| aa @Asq <| aa @Ass <| aa @Ast Asr
def T120:=aa Asv Asu
def T124:=aa Ki <| aa Asw <| aa @Asx <| aa @Asy <| aa @Asz <| aa @As1 <| aa @As2 As0
def T129:=aa As4 As3
def T135:=aa Pn <| aa As5 <| aa @As6 <| aa @As7 <| aa @As8 <| aa @Ata <| aa @Atb As9
theorem Auz {t e i o n:Nat}:Y4 cx 137 (.bs t e i o n)=if 64≤n then some (.mp t e i o)else none:=nr (An3 Ahm)
theorem Au0 {x:AV}{lo hi:Option AV}:Bl cx 137 x lo hi=(match x,Bh lo 0,Bh hi (64:Nat)with
 | .mp t e i o,some l,some h=>if 0≤l∧l<h∧h≤((64:Nat):Int)then some (.bs t e i (o+l.toNat) (h.toNat - l.toNat))else none
 |_,_,_=>none):=nr (Wv Ahm)
def T137:=aa Ahm <| aa Atc <| aa @Auz @Au0
def T139:=aa Ate Atd
def T140:=aa Atg Atf
def T142:=aa Ati <| aa Ath Auy
def T144:=aa Atk Atj
theorem Au1 {t e i o n:Nat}:Y4 cx 151 (.bs t e i o n)=if 512≤n then some (.mp t e i o)else none:=nr (An3 Ahn)
theorem Au2 {x:AV}{lo hi:Option AV}:Bl cx 151 x lo hi=(match x,Bh lo 0,Bh hi (512:Nat)with
 | .mp t e i o,some l,some h=>if 0≤l∧l<h∧h≤((512:Nat):Int)then some (.bs t e i (o+l.toNat) (h.toNat - l.toNat))else none
 |_,_,_=>none):=nr (Wv Ahn)
def Y1:=aa Ahn <| aa Atl <| aa @Au1 @Au2
def T153:=aa Atn Atm
theorem Au3 {x:AV}:mkIA cx 154 x=some (.dyn 154 x):=nr (Ng Aho)
theorem Au4 {a:AV}:asIA cx 154 false (.dyn 154 a)=some a:=nr (Nh Aho)
def T154:=aa Aho <| aa Ato <| aa @Au3 @Au4
def T158:=aa Atq Atp
def T165:=aa Ats Atr
def T184:=aa Atu Att
def T185:=aa Atw Atv
def T186:=aa Po <| aa Atx <| aa @Aty <| aa @Atz <| aa @At0 <| aa @At2 <| aa @At3 At1
def T188:=aa Eh <| aa At4 <| aa @At5 <| aa @At6 <| aa @At7 <| aa @At9 <| aa @Aua At8
def T192:=aa Auc Aub
theorem Au5 {x:AV}:mkIA cx 208 x=some (.dyn 208 x):=nr (Ng Ahp)
theorem Au6 {a:AV}:asIA cx 208 false (.dyn 208 a)=some a:=nr (Nh Ahp)
def T208:=aa Ahp <| aa Aud <| aa @Au5 @Au6
def T228:=aa Auf Aue
theorem Au7 {x:AV}:mkIA cx 229 x=some (.dyn 229 x):=nr (Ng Ahq)
theorem Au8 {a:AV}:asIA cx 229 false (.dyn 229 a)=some a:=nr (Nh Ahq)
def T229:=aa Ahq <| aa Aug <| aa @Au7 @Au8
def T232:=aa Hu <| aa Auh <| aa @Aui <| aa @Auj <| aa @Auk <| aa @Ahr <| aa @Aum Aul
def T234:=aa Auo Aun
def T239:=aa Auq Aup
theorem Au9 {x:AV}:mkIA cx 242 x=some (.dyn 242 x):=nr (Ng Ahs)
theorem Ava {a:AV}:asIA cx 242 false (.dyn 242 a)=some a:=nr (Nh Ahs)
def T242:=aa Ahs <| aa Aur <| aa @Au9 @Ava
def T244:=aa Aut Aus
def T269:=aa Auv Auu
def T290:=aa Aux Auw
theorem ci_0 {a:AV}{args:List AV}{σ:St}{K:AV→St→Prop}:aInv Tryz.prog cx (.dyn 208 a) "Len" args σ K=Aep Tryz.prog 255 (Hc ⟨1,false,[.slice none 0 0],.slice 154 1 8 [.pointer none]⟩ a σ) args σ K:=nr (Zd (by kernel_rfl) Alb)
theorem ci_1 {a:AV}{args:List AV}{σ:St}{K:AV→St→Prop}:aInv Tryz.prog cx (.dyn 208 a) "Less" args σ K=Aep Tryz.prog 256 (Hc ⟨1,false,[.slice none 0 0],.slice 154 1 8 [.pointer none]⟩ a σ) args σ K:=nr (Zd (by kernel_rfl) Alb)
theorem ci_2 {a:AV}{args:List AV}{σ:St}{K:AV→St→Prop}:aInv Tryz.prog cx (.dyn 208 a) "Swap" args σ K=Aep Tryz.prog 257 (Hc ⟨1,false,[.slice none 0 0],.slice 154 1 8 [.pointer none]⟩ a σ) args σ K:=nr (Zd (by kernel_rfl) Alb)
theorem ci_3 {a:AV}{args:List AV}{σ:St}{K:AV→St→Prop}:aInv Tryz.prog cx (.dyn 208 a) "Pop" args σ K=Aa Tryz.prog 258 (a::args) σ K:=nr (Agw (by kernel_rfl))
theorem ci_4 {a:AV}{args:List AV}{σ:St}{K:AV→St→Prop}:aInv Tryz.prog cx (.dyn 208 a) "Push" args σ K=Aa Tryz.prog 259 (a::args) σ K:=nr (Agw (by kernel_rfl))
theorem wX:(type_of% @wBB)∧(type_of% @wBC)∧(type_of% @Ahl)∧(type_of% @Aoa)∧(type_of% @wBD)∧(type_of% @wBE)∧(type_of% @ci_0)∧(type_of% @ci_1)∧(type_of% @ci_2)∧(type_of% @ci_3)∧(type_of% @ci_4):=⟨wBB,wBC,Ahl,Aoa,wBD,wBE,@ci_0,@ci_1,@ci_2,@ci_3,@ci_4⟩
