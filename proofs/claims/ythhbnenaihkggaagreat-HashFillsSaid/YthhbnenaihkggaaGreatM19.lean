/- The table of types of this program, for the abstract machine. The page's contracts on the abstract machine, for programs that use pages. Values without objects under other numbers. -/
import Derived.Test.YthhbnenaihkggaaGreatM13
import Derived.Test.YthhbnenaihkggaaGreatRows
import Derived.Test.YthhbnenaihkggaaGreatM18
import Derived.Test.YthhbnenaihkggaaGreatM14
set_option linter.unusedSimpArgs false
set_option linter.unusedVariables false
set_option linter.defProp false
set_option maxRecDepth 100000
set_option maxHeartbeats 32000000
namespace Go.Proofs.YthhbnenaihkggaaGreat
def zT513:List Value:=[.int .i64 0]++zB 512
theorem zT513_len:(zeroA zT513).length=513:=by simp only[zT513,zeroA,zB,List.length_map,List.length_append,List.length_replicate,List.length_cons,List.length_nil]
def zT65:List Value:=[.int .i64 0]++zB 64
theorem zT65_len:(zeroA zT65).length=65:=by simp only[zT65,zeroA,zB,List.length_map,List.length_append,List.length_replicate,List.length_cons,List.length_nil]
def zT516:List Value:=[.int .i64 0]++zB 512++[.bool false]++[.int .i64 0,.int .i64 0]
theorem zT516_len:(zeroA zT516).length=516:=by simp only[zT516,zeroA,zB,List.length_map,List.length_append,List.length_replicate,List.length_cons,List.length_nil]
def cxL:List (TypeId×TI):=[
 (1,⟨1,false,[.nilFunc],.other⟩),
 (2,⟨1,false,[.int .i64 0],.int .i64⟩),
 (3,⟨1,false,[.int .i64 0],.int .i64⟩),
 (4,⟨1,false,[.bool false],.bool⟩),
 (5,⟨1,false,[.int .u8 0],.int .u8⟩),
 (9,⟨1,false,[.string ⟨#[]⟩],.str⟩),
 (12,⟨1,false,[.int .u64 0],.int .u64⟩),
 (13,⟨2,true,[.string ⟨#[]⟩,.int .u64 0],.struct [(0,1,false),(1,1,false)]⟩),
 (19,⟨1,true,[.pointer none],.struct [(0,1,false)]⟩),
 (21,⟨1,false,[.int .i32 0],.int .i32⟩),
 (22,⟨1,false,[.slice none 0 0],.slice 23 1 24 [.slice none 0 0]⟩),
 (23,⟨1,false,[.slice none 0 0],.slice 5 1 1 [.int .u8 0]⟩),
 (24,⟨1,false,[.nilFunc],.other⟩),
 (25,⟨1,false,[.pointer none],.ptr⟩),
 (27,⟨1,false,[.nilFunc],.other⟩),
 (28,⟨1,false,[.slice none 0 0],.slice 45 2 16 [.int .i64 0,.int .i64 0]⟩),
 (29,⟨1,false,[.int .i64 0],.int .i64⟩),
 (31,⟨1,false,[.nilFunc],.other⟩),
 (32,⟨1,false,[.nilFunc],.other⟩),
 (34,⟨1,false,[.nilFunc],.other⟩),
 (35,⟨1,false,[.nilFunc],.other⟩),
 (36,⟨1,false,[.pointer none],.ptr⟩),
 (38,⟨1,false,[.nilFunc],.other⟩),
 (39,⟨1,false,[.pointer none],.ptr⟩),
 (40,⟨1,false,[.nilFunc],.other⟩),
 (41,⟨1,false,[.nilFunc],.other⟩),
 (42,⟨1,false,[.nilFunc],.other⟩),
 (43,⟨1,false,[.nilFunc],.other⟩),
 (44,⟨2,true,[.int .i64 0,.int .i64 0],.struct [(0,1,false),(1,1,false)]⟩),
 (45,⟨2,true,[.int .i64 0,.int .i64 0],.struct [(0,1,false),(1,1,false)]⟩),
 (46,⟨1,false,[.nilFunc],.other⟩),
 (47,⟨1,false,[.nilFunc],.other⟩),
 (48,⟨1,false,[.nilFunc],.other⟩),
 (49,⟨1,false,[.nilFunc],.other⟩),
 (50,⟨1,false,[.slice none 0 0],.slice 55 5 56 [.int .i64 0,.int .i64 0,.slice none 0 0,.int .i64 0,.int .i64 0]⟩),
 (51,⟨1,false,[.int .u64 0],.int .u64⟩),
 (52,⟨1,false,[.nilFunc],.other⟩),
 (53,⟨1,false,[.slice none 0 0],.slice 57 3 32 [.string ⟨#[]⟩,.int .i64 0,.int .i64 0]⟩),
 (54,⟨5,true,[.int .i64 0,.int .i64 0,.slice none 0 0,.int .i64 0,.int .i64 0],.struct [(0,1,false),(1,1,false),(2,1,false),(3,2,true)]⟩),
 (55,⟨5,true,[.int .i64 0,.int .i64 0,.slice none 0 0,.int .i64 0,.int .i64 0],.struct [(0,1,false),(1,1,false),(2,1,false),(3,2,true)]⟩),
 (56,⟨3,true,[.string ⟨#[]⟩,.int .i64 0,.int .i64 0],.struct [(0,1,false),(1,2,true)]⟩),
 (57,⟨3,true,[.string ⟨#[]⟩,.int .i64 0,.int .i64 0],.struct [(0,1,false),(1,2,true)]⟩),
 (59,⟨1,false,[.nilFunc],.other⟩),
 (60,⟨1,false,[.nilFunc],.other⟩),
 (61,⟨1,false,[.nilFunc],.other⟩),
 (62,⟨1,false,[.nilFunc],.other⟩),
 (63,⟨1,false,[.slice none 0 0],.slice 73 3 40 [.int .i64 0,.int .i64 0,.slice none 0 0]⟩),
 (64,⟨2,true,[.pointer none,.slice none 0 0],.struct [(0,1,false),(1,1,false)]⟩),
 (65,⟨2,true,[.pointer none,.slice none 0 0],.struct [(0,1,false),(1,1,false)]⟩),
 (67,⟨1,false,[.nilFunc],.other⟩),
 (69,⟨1,false,[.nilFunc],.other⟩),
 (70,⟨1,false,[.nilFunc],.other⟩),
 (71,⟨1,false,[.nilFunc],.other⟩),
 (72,⟨3,true,[.int .i64 0,.int .i64 0,.slice none 0 0],.struct [(0,2,true),(2,1,false)]⟩),
 (73,⟨3,true,[.int .i64 0,.int .i64 0,.slice none 0 0],.struct [(0,2,true),(2,1,false)]⟩),
 (74,⟨1,false,[.nilFunc],.other⟩),
 (75,⟨1,false,[.nilFunc],.other⟩),
 (76,⟨1,false,[.nilFunc],.other⟩),
 (77,⟨1,false,[.nilFunc],.other⟩),
 (78,⟨1,false,[.nilFunc],.other⟩),
 (79,⟨1,false,[.pointer none],.ptr⟩),
 (81,⟨1,false,[.nilFunc],.other⟩),
 (82,⟨1,false,[.map none],.map (.int .i64) (.pointer none)⟩),
 (83,⟨1,false,[.slice none 0 0],.slice 139 1 8 [.pointer none]⟩),
 (84,⟨1,false,[.slice none 0 0],.slice 139 1 8 [.pointer none]⟩),
 (85,⟨6,true,[.pointer none,.pointer none,.int .i64 0,.slice none 0 0,.map none,.int .i64 0],.struct [(0,1,false),(1,1,false),(2,1,false),(3,1,false),(4,1,false),(5,1,false)]⟩),
 (86,⟨6,true,[.pointer none,.pointer none,.int .i64 0,.slice none 0 0,.map none,.int .i64 0],.struct [(0,1,false),(1,1,false),(2,1,false),(3,1,false),(4,1,false),(5,1,false)]⟩),
 (87,⟨1,false,[.slice none 0 0],.slice 138 513 520 zT513⟩),
 (89,⟨1,false,[.nilFunc],.other⟩),
 (90,⟨1,false,[.nilFunc],.other⟩),
 (91,⟨1,false,[.map none],.map (.int .i64) (.agg ⟨(zB 64)⟩)⟩),
 (92,⟨1,false,[.slice none 0 0],.slice 183 65 72 zT65⟩),
 (93,⟨6,true,[.int .i64 0,.map none,.map none,.slice none 0 0,.bool false,.int .i64 0],.struct [(0,1,false),(1,1,false),(2,1,false),(3,1,false),(4,1,false),(5,1,false)]⟩),
 (94,⟨6,true,[.int .i64 0,.map none,.map none,.slice none 0 0,.bool false,.int .i64 0],.struct [(0,1,false),(1,1,false),(2,1,false),(3,1,false),(4,1,false),(5,1,false)]⟩),
 (95,⟨2,true,[.pointer none,.slice none 0 0],.struct [(0,1,false),(1,1,false)]⟩),
 (96,⟨2,true,[.pointer none,.slice none 0 0],.struct [(0,1,false),(1,1,false)]⟩),
 (97,⟨1,false,[.slice none 0 0],.slice 3 1 8 [.int .i64 0]⟩),
 (99,⟨1,false,[.nilFunc],.other⟩),
 (100,⟨1,false,[.nilFunc],.other⟩),
 (102,⟨1,false,[.nilFunc],.other⟩),
 (103,⟨1,false,[.nilFunc],.other⟩),
 (104,⟨1,false,[.nilFunc],.other⟩),
 (105,⟨1,false,[.nilFunc],.other⟩),
 (107,⟨1,false,[.nilFunc],.other⟩),
 (108,⟨1,false,[.nilFunc],.other⟩),
 (109,⟨1,false,[.nilFunc],.other⟩),
 (110,⟨512,true,(zB 512),.barr 512⟩),
 (111,⟨512,true,(zB 512),.barr 512⟩),
 (112,⟨1,false,[.nilFunc],.other⟩),
 (113,⟨1,false,[.nilFunc],.other⟩),
 (114,⟨1,false,[.nilFunc],.other⟩),
 (115,⟨1,false,[.nilFunc],.other⟩),
 (116,⟨1,false,[.nilFunc],.other⟩),
 (117,⟨1,false,[.nilFunc],.other⟩),
 (119,⟨1,false,[.nilFunc],.other⟩),
 (120,⟨1,false,[.nilFunc],.other⟩),
 (121,⟨1,false,[.nilFunc],.other⟩),
 (122,⟨1,false,[.nilFunc],.other⟩),
 (123,⟨1,false,[.nilFunc],.other⟩),
 (124,⟨1,false,[.nilFunc],.other⟩),
 (125,⟨1,false,[.int .u64 0],.int .u64⟩),
 (126,⟨2,true,[.int .u64 0,.int .u64 0],.struct [(0,1,false),(1,1,false)]⟩),
 (127,⟨2,true,[.int .u64 0,.int .u64 0],.struct [(0,1,false),(1,1,false)]⟩),
 (128,⟨5,true,[.pointer none,.int .u64 0,.int .u64 0,.slice none 0 0,.int .i64 0],.struct [(0,1,false),(1,2,true),(3,1,false),(4,1,false)]⟩),
 (129,⟨5,true,[.pointer none,.int .u64 0,.int .u64 0,.slice none 0 0,.int .i64 0],.struct [(0,1,false),(1,2,true),(3,1,false),(4,1,false)]⟩),
 (130,⟨64,true,(zB 64),.barr 64⟩),
 (131,⟨64,true,(zB 64),.barr 64⟩),
 (133,⟨1,false,[.nilFunc],.other⟩),
 (134,⟨1,false,[.nilFunc],.other⟩),
 (136,⟨1,false,[.nilFunc],.other⟩),
 (137,⟨513,true,zT513,.struct [(0,1,false),(1,512,true)]⟩),
 (138,⟨513,true,zT513,.struct [(0,1,false),(1,512,true)]⟩),
 (139,⟨1,false,[.pointer none],.ptr⟩),
 (141,⟨1,false,[.nilFunc],.other⟩),
 (142,⟨516,true,zT516,.struct [(0,1,false),(1,512,true),(513,1,false),(514,1,false),(515,1,false)]⟩),
 (143,⟨516,true,zT516,.struct [(0,1,false),(1,512,true),(513,1,false),(514,1,false),(515,1,false)]⟩),
 (144,⟨1,false,[.nilFunc],.other⟩),
 (145,⟨1,false,[.nilFunc],.other⟩),
 (147,⟨1,false,[.nilFunc],.other⟩),
 (149,⟨1,false,[.nilFunc],.other⟩),
 (151,⟨1,false,[.nilFunc],.other⟩),
 (152,⟨1,false,[.nilFunc],.other⟩),
 (154,⟨1,false,[.nilFunc],.other⟩),
 (155,⟨1,false,[.nilFunc],.other⟩),
 (157,⟨1,false,[.nilFunc],.other⟩),
 (158,⟨1,false,[.nilFunc],.other⟩),
 (159,⟨1,false,[.nilFunc],.other⟩),
 (160,⟨1,false,[.nilFunc],.other⟩),
 (161,⟨1,false,[.nilFunc],.other⟩),
 (162,⟨1,false,[.nilFunc],.other⟩),
 (163,⟨1,false,[.nilFunc],.other⟩),
 (164,⟨1,false,[.int .u32 0],.int .u32⟩),
 (165,⟨1,false,[.nilFunc],.other⟩),
 (166,⟨1,false,[.int .i64 0],.int .i64⟩),
 (168,⟨1,false,[.nilFunc],.other⟩),
 (169,⟨1,false,[.nilFunc],.other⟩),
 (170,⟨1,false,[.nilFunc],.other⟩),
 (172,⟨1,false,[.nilFunc],.other⟩),
 (173,⟨1,false,[.nilFunc],.other⟩),
 (174,⟨1,false,[.nilFunc],.other⟩),
 (175,⟨1,false,[.nilFunc],.other⟩),
 (177,⟨1,false,[.nilFunc],.other⟩),
 (178,⟨1,false,[.nilFunc],.other⟩),
 (179,⟨1,false,[.pointer none],.ptr⟩),
 (180,⟨1,false,[.nilFunc],.other⟩),
 (181,⟨1,false,[.nilFunc],.other⟩),
 (182,⟨65,true,zT65,.struct [(0,1,false),(1,64,true)]⟩),
 (183,⟨65,true,zT65,.struct [(0,1,false),(1,64,true)]⟩),
 (184,⟨1,false,[.nilFunc],.other⟩),
 (185,⟨1,false,[.nilFunc],.other⟩),
 (186,⟨1,false,[.nilFunc],.other⟩),
 (187,⟨1,false,[.nilFunc],.other⟩),
 (188,⟨1,false,[.nilFunc],.other⟩),
 (189,⟨1,false,[.nilFunc],.other⟩),
 (190,⟨1,false,[.int .u64 0],.int .u64⟩),
 (191,⟨1,false,[.nilFunc],.other⟩),
 (192,⟨1,false,[.nilFunc],.other⟩),
 (193,⟨1,false,[.nilFunc],.other⟩),
 (194,⟨1,false,[.pointer none],.ptr⟩),
 (195,⟨1,false,[.nilFunc],.other⟩),
 (196,⟨1,false,[.nilFunc],.other⟩),
 (199,⟨1,false,[.nilFunc],.other⟩),
 (200,⟨1,false,[.nilFunc],.other⟩),
 (201,⟨1,false,[.nilFunc],.other⟩),
 (202,⟨1,false,[.nilFunc],.other⟩),
 (203,⟨1,false,[.nilFunc],.other⟩),
 (204,⟨1,false,[.pointer none],.ptr⟩),
 (206,⟨1,false,[.nilFunc],.other⟩),
 (207,⟨1,false,[.nilFunc],.other⟩),
 (208,⟨1,false,[.nilFunc],.other⟩),
 (216,⟨1,false,[.nilFunc],.other⟩),
 (217,⟨1,false,[.pointer none],.ptr⟩)]
def cxQ:List (TypeId×List EK):=[(45,[.int,.int]),(57,[.str,.int,.int]),(127,[.int,.int])]
def cxM:List (TypeId×String×FuncId×Option TypeId):=[(179, "Len",147,some 84),(179, "Less",148,some 84),(179, "Swap",149,some 84),(179, "Pop",150,none),(179, "Push",151,none)]
def cx:Ctx:=tabCtxM cxL [8400019,8400007,8700029,2300030,2300032,2300093,2300026] cxQ cxM
theorem cx_ok:cx.ok Tryz.prog:=tabCtxM_ok (by kernel_rfl) (by kernel_rfl) (by kernel_rfl)
theorem dr_ok:DrawOk Tryz.prog (aDraw Tryz.prog cx):=aDraw_ok cx_ok (by kernel_rfl)
theorem cx_muts:cx.muts=[8400019,8400007,8700029,2300030,2300032,2300093,2300026]:=nr rfl
theorem cx_1:cx.ty 1=some ⟨1,false,[.nilFunc],.other⟩:=nr rfl
theorem ck_1:cx.kind 1=some (.other):=nr rfl
theorem cx_2:cx.ty 2=some ⟨1,false,[.int .i64 0],.int .i64⟩:=nr rfl
theorem ck_2:cx.kind 2=some (.int .i64):=nr rfl
theorem cx_3:cx.ty 3=some ⟨1,false,[.int .i64 0],.int .i64⟩:=nr rfl
theorem ck_3:cx.kind 3=some (.int .i64):=nr rfl
theorem cx_4:cx.ty 4=some ⟨1,false,[.bool false],.bool⟩:=nr rfl
theorem ck_4:cx.kind 4=some (.bool):=nr rfl
theorem cx_5:cx.ty 5=some ⟨1,false,[.int .u8 0],.int .u8⟩:=nr rfl
theorem ck_5:cx.kind 5=some (.int .u8):=nr rfl
theorem cx_9:cx.ty 9=some ⟨1,false,[.string ⟨#[]⟩],.str⟩:=nr rfl
theorem ck_9:cx.kind 9=some (.str):=nr rfl
theorem cx_22:cx.ty 22=some ⟨1,false,[.slice none 0 0],.slice 23 1 24 [.slice none 0 0]⟩:=nr rfl
theorem ck_22:cx.kind 22=some (.slice 23 1 24 [.slice none 0 0]):=nr rfl
theorem ks_22 {e:Nat}{ls:List (List PV)}:lenA cx 22 (.p (.sl e ls))=some ls.length:=nr (len_sl ck_22)
theorem ko_22 {t e:Nat}{ls:List (List PV)}:lenA cx 22 (.own t e ls)=some ls.length:=nr (len_own ck_22)
theorem kn_22 {t e:Nat}{ls:List (List PV)}:lenA cx 22 (.nown t e ls)=some ls.length:=nr (len_nown ck_22)
theorem kz_22:lenA cx 22 (.p (.v (.slice none 0 0)))=some 0:=nr (len_nil ck_22)
theorem km_22 {t e j n:Nat}:lenA cx 22 (.ms t e j n)=some n:=nr (len_ms ck_22)
theorem kb_22 {t e j q n:Nat}:lenA cx 22 (.bs t e j q n)=some n:=nr (len_bs ck_22)
theorem cx_23:cx.ty 23=some ⟨1,false,[.slice none 0 0],.slice 5 1 1 [.int .u8 0]⟩:=nr rfl
theorem ck_23:cx.kind 23=some (.slice 5 1 1 [.int .u8 0]):=nr rfl
theorem ks_23 {e:Nat}{ls:List (List PV)}:lenA cx 23 (.p (.sl e ls))=some ls.length:=nr (len_sl ck_23)
theorem ko_23 {t e:Nat}{ls:List (List PV)}:lenA cx 23 (.own t e ls)=some ls.length:=nr (len_own ck_23)
theorem kn_23 {t e:Nat}{ls:List (List PV)}:lenA cx 23 (.nown t e ls)=some ls.length:=nr (len_nown ck_23)
theorem kz_23:lenA cx 23 (.p (.v (.slice none 0 0)))=some 0:=nr (len_nil ck_23)
theorem km_23 {t e j n:Nat}:lenA cx 23 (.ms t e j n)=some n:=nr (len_ms ck_23)
theorem kb_23 {t e j q n:Nat}:lenA cx 23 (.bs t e j q n)=some n:=nr (len_bs ck_23)
theorem cx_25:cx.ty 25=some ⟨1,false,[.pointer none],.ptr⟩:=nr rfl
theorem ck_25:cx.kind 25=some (.ptr):=nr rfl
theorem cx_28:cx.ty 28=some ⟨1,false,[.slice none 0 0],.slice 45 2 16 [.int .i64 0,.int .i64 0]⟩:=nr rfl
theorem ck_28:cx.kind 28=some (.slice 45 2 16 [.int .i64 0,.int .i64 0]):=nr rfl
theorem ks_28 {e:Nat}{ls:List (List PV)}:lenA cx 28 (.p (.sl e ls))=some ls.length:=nr (len_sl ck_28)
theorem ko_28 {t e:Nat}{ls:List (List PV)}:lenA cx 28 (.own t e ls)=some ls.length:=nr (len_own ck_28)
theorem kn_28 {t e:Nat}{ls:List (List PV)}:lenA cx 28 (.nown t e ls)=some ls.length:=nr (len_nown ck_28)
theorem kz_28:lenA cx 28 (.p (.v (.slice none 0 0)))=some 0:=nr (len_nil ck_28)
theorem km_28 {t e j n:Nat}:lenA cx 28 (.ms t e j n)=some n:=nr (len_ms ck_28)
theorem kb_28 {t e j q n:Nat}:lenA cx 28 (.bs t e j q n)=some n:=nr (len_bs ck_28)
theorem cx_29:cx.ty 29=some ⟨1,false,[.int .i64 0],.int .i64⟩:=nr rfl
theorem ck_29:cx.kind 29=some (.int .i64):=nr rfl
theorem cx_36:cx.ty 36=some ⟨1,false,[.pointer none],.ptr⟩:=nr rfl
theorem ck_36:cx.kind 36=some (.ptr):=nr rfl
theorem cx_39:cx.ty 39=some ⟨1,false,[.pointer none],.ptr⟩:=nr rfl
theorem ck_39:cx.kind 39=some (.ptr):=nr rfl
theorem cx_45:cx.ty 45=some ⟨2,true,[.int .i64 0,.int .i64 0],.struct [(0,1,false),(1,1,false)]⟩:=nr rfl
theorem ck_45:cx.kind 45=some (.struct [(0,1,false),(1,1,false)]):=nr rfl
theorem cx_50:cx.ty 50=some ⟨1,false,[.slice none 0 0],.slice 55 5 56 [.int .i64 0,.int .i64 0,.slice none 0 0,.int .i64 0,.int .i64 0]⟩:=nr rfl
theorem ck_50:cx.kind 50=some (.slice 55 5 56 [.int .i64 0,.int .i64 0,.slice none 0 0,.int .i64 0,.int .i64 0]):=nr rfl
theorem ks_50 {e:Nat}{ls:List (List PV)}:lenA cx 50 (.p (.sl e ls))=some ls.length:=nr (len_sl ck_50)
theorem ko_50 {t e:Nat}{ls:List (List PV)}:lenA cx 50 (.own t e ls)=some ls.length:=nr (len_own ck_50)
theorem kn_50 {t e:Nat}{ls:List (List PV)}:lenA cx 50 (.nown t e ls)=some ls.length:=nr (len_nown ck_50)
theorem kz_50:lenA cx 50 (.p (.v (.slice none 0 0)))=some 0:=nr (len_nil ck_50)
theorem km_50 {t e j n:Nat}:lenA cx 50 (.ms t e j n)=some n:=nr (len_ms ck_50)
theorem kb_50 {t e j q n:Nat}:lenA cx 50 (.bs t e j q n)=some n:=nr (len_bs ck_50)
theorem cx_51:cx.ty 51=some ⟨1,false,[.int .u64 0],.int .u64⟩:=nr rfl
theorem ck_51:cx.kind 51=some (.int .u64):=nr rfl
theorem cx_53:cx.ty 53=some ⟨1,false,[.slice none 0 0],.slice 57 3 32 [.string ⟨#[]⟩,.int .i64 0,.int .i64 0]⟩:=nr rfl
theorem ck_53:cx.kind 53=some (.slice 57 3 32 [.string ⟨#[]⟩,.int .i64 0,.int .i64 0]):=nr rfl
theorem ks_53 {e:Nat}{ls:List (List PV)}:lenA cx 53 (.p (.sl e ls))=some ls.length:=nr (len_sl ck_53)
theorem ko_53 {t e:Nat}{ls:List (List PV)}:lenA cx 53 (.own t e ls)=some ls.length:=nr (len_own ck_53)
theorem kn_53 {t e:Nat}{ls:List (List PV)}:lenA cx 53 (.nown t e ls)=some ls.length:=nr (len_nown ck_53)
theorem kz_53:lenA cx 53 (.p (.v (.slice none 0 0)))=some 0:=nr (len_nil ck_53)
theorem km_53 {t e j n:Nat}:lenA cx 53 (.ms t e j n)=some n:=nr (len_ms ck_53)
theorem kb_53 {t e j q n:Nat}:lenA cx 53 (.bs t e j q n)=some n:=nr (len_bs ck_53)
theorem cx_55:cx.ty 55=some ⟨5,true,[.int .i64 0,.int .i64 0,.slice none 0 0,.int .i64 0,.int .i64 0],.struct [(0,1,false),(1,1,false),(2,1,false),(3,2,true)]⟩:=nr rfl
theorem ck_55:cx.kind 55=some (.struct [(0,1,false),(1,1,false),(2,1,false),(3,2,true)]):=nr rfl
theorem cx_57:cx.ty 57=some ⟨3,true,[.string ⟨#[]⟩,.int .i64 0,.int .i64 0],.struct [(0,1,false),(1,2,true)]⟩:=nr rfl
theorem ck_57:cx.kind 57=some (.struct [(0,1,false),(1,2,true)]):=nr rfl
theorem cx_63:cx.ty 63=some ⟨1,false,[.slice none 0 0],.slice 73 3 40 [.int .i64 0,.int .i64 0,.slice none 0 0]⟩:=nr rfl
theorem ck_63:cx.kind 63=some (.slice 73 3 40 [.int .i64 0,.int .i64 0,.slice none 0 0]):=nr rfl
theorem ks_63 {e:Nat}{ls:List (List PV)}:lenA cx 63 (.p (.sl e ls))=some ls.length:=nr (len_sl ck_63)
theorem ko_63 {t e:Nat}{ls:List (List PV)}:lenA cx 63 (.own t e ls)=some ls.length:=nr (len_own ck_63)
theorem kn_63 {t e:Nat}{ls:List (List PV)}:lenA cx 63 (.nown t e ls)=some ls.length:=nr (len_nown ck_63)
theorem kz_63:lenA cx 63 (.p (.v (.slice none 0 0)))=some 0:=nr (len_nil ck_63)
theorem km_63 {t e j n:Nat}:lenA cx 63 (.ms t e j n)=some n:=nr (len_ms ck_63)
theorem kb_63 {t e j q n:Nat}:lenA cx 63 (.bs t e j q n)=some n:=nr (len_bs ck_63)
theorem cx_65:cx.ty 65=some ⟨2,true,[.pointer none,.slice none 0 0],.struct [(0,1,false),(1,1,false)]⟩:=nr rfl
theorem ck_65:cx.kind 65=some (.struct [(0,1,false),(1,1,false)]):=nr rfl
theorem cx_73:cx.ty 73=some ⟨3,true,[.int .i64 0,.int .i64 0,.slice none 0 0],.struct [(0,2,true),(2,1,false)]⟩:=nr rfl
theorem ck_73:cx.kind 73=some (.struct [(0,2,true),(2,1,false)]):=nr rfl
theorem cx_77:cx.ty 77=some ⟨1,false,[.nilFunc],.other⟩:=nr rfl
theorem ck_77:cx.kind 77=some (.other):=nr rfl
theorem cx_79:cx.ty 79=some ⟨1,false,[.pointer none],.ptr⟩:=nr rfl
theorem ck_79:cx.kind 79=some (.ptr):=nr rfl
theorem cx_82:cx.ty 82=some ⟨1,false,[.map none],.map (.int .i64) (.pointer none)⟩:=nr rfl
theorem ck_82:cx.kind 82=some (.map (.int .i64) (.pointer none)):=nr rfl
theorem cx_84:cx.ty 84=some ⟨1,false,[.slice none 0 0],.slice 139 1 8 [.pointer none]⟩:=nr rfl
theorem ck_84:cx.kind 84=some (.slice 139 1 8 [.pointer none]):=nr rfl
theorem ks_84 {e:Nat}{ls:List (List PV)}:lenA cx 84 (.p (.sl e ls))=some ls.length:=nr (len_sl ck_84)
theorem ko_84 {t e:Nat}{ls:List (List PV)}:lenA cx 84 (.own t e ls)=some ls.length:=nr (len_own ck_84)
theorem kn_84 {t e:Nat}{ls:List (List PV)}:lenA cx 84 (.nown t e ls)=some ls.length:=nr (len_nown ck_84)
theorem kz_84:lenA cx 84 (.p (.v (.slice none 0 0)))=some 0:=nr (len_nil ck_84)
theorem km_84 {t e j n:Nat}:lenA cx 84 (.ms t e j n)=some n:=nr (len_ms ck_84)
theorem kb_84 {t e j q n:Nat}:lenA cx 84 (.bs t e j q n)=some n:=nr (len_bs ck_84)
theorem cx_86:cx.ty 86=some ⟨6,true,[.pointer none,.pointer none,.int .i64 0,.slice none 0 0,.map none,.int .i64 0],.struct [(0,1,false),(1,1,false),(2,1,false),(3,1,false),(4,1,false),(5,1,false)]⟩:=nr rfl
theorem ck_86:cx.kind 86=some (.struct [(0,1,false),(1,1,false),(2,1,false),(3,1,false),(4,1,false),(5,1,false)]):=nr rfl
theorem cx_87:cx.ty 87=some ⟨1,false,[.slice none 0 0],.slice 138 513 520 zT513⟩:=nr rfl
theorem ck_87:cx.kind 87=some (.slice 138 513 520 zT513):=nr rfl
theorem ks_87 {e:Nat}{ls:List (List PV)}:lenA cx 87 (.p (.sl e ls))=some ls.length:=nr (len_sl ck_87)
theorem ko_87 {t e:Nat}{ls:List (List PV)}:lenA cx 87 (.own t e ls)=some ls.length:=nr (len_own ck_87)
theorem kn_87 {t e:Nat}{ls:List (List PV)}:lenA cx 87 (.nown t e ls)=some ls.length:=nr (len_nown ck_87)
theorem kz_87:lenA cx 87 (.p (.v (.slice none 0 0)))=some 0:=nr (len_nil ck_87)
theorem km_87 {t e j n:Nat}:lenA cx 87 (.ms t e j n)=some n:=nr (len_ms ck_87)
theorem kb_87 {t e j q n:Nat}:lenA cx 87 (.bs t e j q n)=some n:=nr (len_bs ck_87)
theorem cx_91:cx.ty 91=some ⟨1,false,[.map none],.map (.int .i64) (.agg ⟨(zB 64)⟩)⟩:=nr rfl
theorem ck_91:cx.kind 91=some (.map (.int .i64) (.agg ⟨(zB 64)⟩)):=nr rfl
theorem cx_92:cx.ty 92=some ⟨1,false,[.slice none 0 0],.slice 183 65 72 zT65⟩:=nr rfl
theorem ck_92:cx.kind 92=some (.slice 183 65 72 zT65):=nr rfl
theorem ks_92 {e:Nat}{ls:List (List PV)}:lenA cx 92 (.p (.sl e ls))=some ls.length:=nr (len_sl ck_92)
theorem ko_92 {t e:Nat}{ls:List (List PV)}:lenA cx 92 (.own t e ls)=some ls.length:=nr (len_own ck_92)
theorem kn_92 {t e:Nat}{ls:List (List PV)}:lenA cx 92 (.nown t e ls)=some ls.length:=nr (len_nown ck_92)
theorem kz_92:lenA cx 92 (.p (.v (.slice none 0 0)))=some 0:=nr (len_nil ck_92)
theorem km_92 {t e j n:Nat}:lenA cx 92 (.ms t e j n)=some n:=nr (len_ms ck_92)
theorem kb_92 {t e j q n:Nat}:lenA cx 92 (.bs t e j q n)=some n:=nr (len_bs ck_92)
theorem cx_94:cx.ty 94=some ⟨6,true,[.int .i64 0,.map none,.map none,.slice none 0 0,.bool false,.int .i64 0],.struct [(0,1,false),(1,1,false),(2,1,false),(3,1,false),(4,1,false),(5,1,false)]⟩:=nr rfl
theorem ck_94:cx.kind 94=some (.struct [(0,1,false),(1,1,false),(2,1,false),(3,1,false),(4,1,false),(5,1,false)]):=nr rfl
theorem cx_96:cx.ty 96=some ⟨2,true,[.pointer none,.slice none 0 0],.struct [(0,1,false),(1,1,false)]⟩:=nr rfl
theorem ck_96:cx.kind 96=some (.struct [(0,1,false),(1,1,false)]):=nr rfl
theorem cx_97:cx.ty 97=some ⟨1,false,[.slice none 0 0],.slice 3 1 8 [.int .i64 0]⟩:=nr rfl
theorem ck_97:cx.kind 97=some (.slice 3 1 8 [.int .i64 0]):=nr rfl
theorem ks_97 {e:Nat}{ls:List (List PV)}:lenA cx 97 (.p (.sl e ls))=some ls.length:=nr (len_sl ck_97)
theorem ko_97 {t e:Nat}{ls:List (List PV)}:lenA cx 97 (.own t e ls)=some ls.length:=nr (len_own ck_97)
theorem kn_97 {t e:Nat}{ls:List (List PV)}:lenA cx 97 (.nown t e ls)=some ls.length:=nr (len_nown ck_97)
theorem kz_97:lenA cx 97 (.p (.v (.slice none 0 0)))=some 0:=nr (len_nil ck_97)
theorem km_97 {t e j n:Nat}:lenA cx 97 (.ms t e j n)=some n:=nr (len_ms ck_97)
theorem kb_97 {t e j q n:Nat}:lenA cx 97 (.bs t e j q n)=some n:=nr (len_bs ck_97)
theorem cx_111:cx.ty 111=some ⟨512,true,(zB 512),.barr 512⟩:=nr rfl
theorem ck_111:cx.kind 111=some (.barr 512):=nr rfl
theorem cx_120:cx.ty 120=some ⟨1,false,[.nilFunc],.other⟩:=nr rfl
theorem ck_120:cx.kind 120=some (.other):=nr rfl
theorem cx_125:cx.ty 125=some ⟨1,false,[.int .u64 0],.int .u64⟩:=nr rfl
theorem ck_125:cx.kind 125=some (.int .u64):=nr rfl
theorem cx_127:cx.ty 127=some ⟨2,true,[.int .u64 0,.int .u64 0],.struct [(0,1,false),(1,1,false)]⟩:=nr rfl
theorem ck_127:cx.kind 127=some (.struct [(0,1,false),(1,1,false)]):=nr rfl
theorem cx_129:cx.ty 129=some ⟨5,true,[.pointer none,.int .u64 0,.int .u64 0,.slice none 0 0,.int .i64 0],.struct [(0,1,false),(1,2,true),(3,1,false),(4,1,false)]⟩:=nr rfl
theorem ck_129:cx.kind 129=some (.struct [(0,1,false),(1,2,true),(3,1,false),(4,1,false)]):=nr rfl
theorem cx_131:cx.ty 131=some ⟨64,true,(zB 64),.barr 64⟩:=nr rfl
theorem ck_131:cx.kind 131=some (.barr 64):=nr rfl
theorem cx_138:cx.ty 138=some ⟨513,true,zT513,.struct [(0,1,false),(1,512,true)]⟩:=nr rfl
theorem ck_138:cx.kind 138=some (.struct [(0,1,false),(1,512,true)]):=nr rfl
theorem cx_139:cx.ty 139=some ⟨1,false,[.pointer none],.ptr⟩:=nr rfl
theorem ck_139:cx.kind 139=some (.ptr):=nr rfl
theorem cx_143:cx.ty 143=some ⟨516,true,zT516,.struct [(0,1,false),(1,512,true),(513,1,false),(514,1,false),(515,1,false)]⟩:=nr rfl
theorem ck_143:cx.kind 143=some (.struct [(0,1,false),(1,512,true),(513,1,false),(514,1,false),(515,1,false)]):=nr rfl
theorem cx_164:cx.ty 164=some ⟨1,false,[.int .u32 0],.int .u32⟩:=nr rfl
theorem ck_164:cx.kind 164=some (.int .u32):=nr rfl
theorem cx_179:cx.ty 179=some ⟨1,false,[.pointer none],.ptr⟩:=nr rfl
theorem ck_179:cx.kind 179=some (.ptr):=nr rfl
theorem cx_183:cx.ty 183=some ⟨65,true,zT65,.struct [(0,1,false),(1,64,true)]⟩:=nr rfl
theorem ck_183:cx.kind 183=some (.struct [(0,1,false),(1,64,true)]):=nr rfl
theorem cx_188:cx.ty 188=some ⟨1,false,[.nilFunc],.other⟩:=nr rfl
theorem ck_188:cx.kind 188=some (.other):=nr rfl
theorem ce_45:cx.eqs 45=some [.int,.int]:=nr rfl
theorem ce_57:cx.eqs 57=some [.str,.int,.int]:=nr rfl
theorem ce_127:cx.eqs 127=some [.int,.int]:=nr rfl
theorem cx_arr:True:=trivial
theorem aa {p q:Prop}(h:p)(k:q):p∧q:=⟨h,k⟩
def T1:=aa ck_1 cx_1
def T2:=aa ck_2 cx_2
def T3:=aa ck_3 cx_3
def T4:=aa ck_4 cx_4
def T5:=aa ck_5 cx_5
def T9:=aa ck_9 cx_9
def T22:=aa ck_22 <| aa cx_22 <| aa @ks_22 <| aa @ko_22 <| aa @kn_22 <| aa @km_22 <| aa @kb_22 kz_22
def T23:=aa ck_23 <| aa cx_23 <| aa @ks_23 <| aa @ko_23 <| aa @kn_23 <| aa @km_23 <| aa @kb_23 kz_23
theorem kp_25 {x:AV}:mkIA cx 25 x=some (.dyn 25 x):=nr (mk_ptr ck_25)
theorem ka_25 {a:AV}:asIA cx 25 false (.dyn 25 a)=some a:=nr (as_ptr ck_25)
def T25:=aa ck_25 <| aa cx_25 <| aa @kp_25 @ka_25
def T28:=aa ck_28 <| aa cx_28 <| aa @ks_28 <| aa @ko_28 <| aa @kn_28 <| aa @km_28 <| aa @kb_28 kz_28
def T29:=aa ck_29 cx_29
theorem kp_36 {x:AV}:mkIA cx 36 x=some (.dyn 36 x):=nr (mk_ptr ck_36)
theorem ka_36 {a:AV}:asIA cx 36 false (.dyn 36 a)=some a:=nr (as_ptr ck_36)
def T36:=aa ck_36 <| aa cx_36 <| aa @kp_36 @ka_36
theorem kp_39 {x:AV}:mkIA cx 39 x=some (.dyn 39 x):=nr (mk_ptr ck_39)
theorem ka_39 {a:AV}:asIA cx 39 false (.dyn 39 a)=some a:=nr (as_ptr ck_39)
def T39:=aa ck_39 <| aa cx_39 <| aa @kp_39 @ka_39
def T45:=aa ck_45 <| aa cx_45 ce_45
def T50:=aa ck_50 <| aa cx_50 <| aa @ks_50 <| aa @ko_50 <| aa @kn_50 <| aa @km_50 <| aa @kb_50 kz_50
def T51:=aa ck_51 cx_51
def T53:=aa ck_53 <| aa cx_53 <| aa @ks_53 <| aa @ko_53 <| aa @kn_53 <| aa @km_53 <| aa @kb_53 kz_53
def T55:=aa ck_55 cx_55
def T57:=aa ck_57 <| aa cx_57 ce_57
def T63:=aa ck_63 <| aa cx_63 <| aa @ks_63 <| aa @ko_63 <| aa @kn_63 <| aa @km_63 <| aa @kb_63 kz_63
def T65:=aa ck_65 cx_65
def T73:=aa ck_73 cx_73
def T77:=aa ck_77 cx_77
theorem kp_79 {x:AV}:mkIA cx 79 x=some (.dyn 79 x):=nr (mk_ptr ck_79)
theorem ka_79 {a:AV}:asIA cx 79 false (.dyn 79 a)=some a:=nr (as_ptr ck_79)
def T79:=aa ck_79 <| aa cx_79 <| aa @kp_79 @ka_79
def T82:=aa ck_82 cx_82
def T84:=aa ck_84 <| aa cx_84 <| aa @ks_84 <| aa @ko_84 <| aa @kn_84 <| aa @km_84 <| aa @kb_84 kz_84
def T86:=aa ck_86 cx_86
def T87:=aa ck_87 <| aa cx_87 <| aa @ks_87 <| aa @ko_87 <| aa @kn_87 <| aa @km_87 <| aa @kb_87 kz_87
def T91:=aa ck_91 cx_91
def T92:=aa ck_92 <| aa cx_92 <| aa @ks_92 <| aa @ko_92 <| aa @kn_92 <| aa @km_92 <| aa @kb_92 kz_92
def T94:=aa ck_94 cx_94
def T96:=aa ck_96 cx_96
def T97:=aa ck_97 <| aa cx_97 <| aa @ks_97 <| aa @ko_97 <| aa @kn_97 <| aa @km_97 <| aa @kb_97 kz_97
theorem kr_111 {t e i o n:Nat}:arrPA cx 111 (.bs t e i o n)=if 512≤n then some (.mp t e i o)else none:=nr (arr_bs ck_111)
theorem kS_111 {x:AV}{lo hi:Option AV}:sliceA cx 111 x lo hi=(match x,boundA lo 0,boundA hi (512:Nat)with
 | .mp t e i o,some l,some h=>if 0≤l∧l<h∧h≤((512:Nat):Int)then some (.bs t e i (o+l.toNat) (h.toNat - l.toNat))else none
 |_,_,_=>none):=nr (slice_arr ck_111)
def T111:=aa ck_111 <| aa cx_111 <| aa @kr_111 @kS_111
def T120:=aa ck_120 cx_120
def T125:=aa ck_125 cx_125
def T127:=aa ck_127 <| aa cx_127 ce_127
def T129:=aa ck_129 cx_129
theorem kr_131 {t e i o n:Nat}:arrPA cx 131 (.bs t e i o n)=if 64≤n then some (.mp t e i o)else none:=nr (arr_bs ck_131)
theorem kS_131 {x:AV}{lo hi:Option AV}:sliceA cx 131 x lo hi=(match x,boundA lo 0,boundA hi (64:Nat)with
 | .mp t e i o,some l,some h=>if 0≤l∧l<h∧h≤((64:Nat):Int)then some (.bs t e i (o+l.toNat) (h.toNat - l.toNat))else none
 |_,_,_=>none):=nr (slice_arr ck_131)
def T131:=aa ck_131 <| aa cx_131 <| aa @kr_131 @kS_131
def T138:=aa ck_138 cx_138
theorem kp_139 {x:AV}:mkIA cx 139 x=some (.dyn 139 x):=nr (mk_ptr ck_139)
theorem ka_139 {a:AV}:asIA cx 139 false (.dyn 139 a)=some a:=nr (as_ptr ck_139)
def T139:=aa ck_139 <| aa cx_139 <| aa @kp_139 @ka_139
def T143:=aa ck_143 cx_143
def T164:=aa ck_164 cx_164
theorem kp_179 {x:AV}:mkIA cx 179 x=some (.dyn 179 x):=nr (mk_ptr ck_179)
theorem ka_179 {a:AV}:asIA cx 179 false (.dyn 179 a)=some a:=nr (as_ptr ck_179)
def T179:=aa ck_179 <| aa cx_179 <| aa @kp_179 @ka_179
def T183:=aa ck_183 cx_183
def T188:=aa ck_188 cx_188
theorem ci_0 {a:AV}{args:List AV}{σ:St}{K:AV→St→Prop}:aInv Tryz.prog cx (.dyn 179 a) "Len" args σ K=recvK Tryz.prog 147 (loadA ⟨1,false,[.slice none 0 0],.slice 139 1 8 [.pointer none]⟩ a σ) args σ K:=nr (inv_val (by kernel_rfl) cx_84)
theorem ci_1 {a:AV}{args:List AV}{σ:St}{K:AV→St→Prop}:aInv Tryz.prog cx (.dyn 179 a) "Less" args σ K=recvK Tryz.prog 148 (loadA ⟨1,false,[.slice none 0 0],.slice 139 1 8 [.pointer none]⟩ a σ) args σ K:=nr (inv_val (by kernel_rfl) cx_84)
theorem ci_2 {a:AV}{args:List AV}{σ:St}{K:AV→St→Prop}:aInv Tryz.prog cx (.dyn 179 a) "Swap" args σ K=recvK Tryz.prog 149 (loadA ⟨1,false,[.slice none 0 0],.slice 139 1 8 [.pointer none]⟩ a σ) args σ K:=nr (inv_val (by kernel_rfl) cx_84)
theorem ci_3 {a:AV}{args:List AV}{σ:St}{K:AV→St→Prop}:aInv Tryz.prog cx (.dyn 179 a) "Pop" args σ K=ACalls Tryz.prog 150 (a::args) σ K:=nr (inv_ptr (by kernel_rfl))
theorem ci_4 {a:AV}{args:List AV}{σ:St}{K:AV→St→Prop}:aInv Tryz.prog cx (.dyn 179 a) "Push" args σ K=ACalls Tryz.prog 151 (a::args) σ K:=nr (inv_ptr (by kernel_rfl))
theorem wX:(type_of% @wBB)∧(type_of% @wBC)∧(type_of% @cx_muts)∧(type_of% @cx_arr)∧(type_of% @wBD)∧(type_of% @wBE)∧(type_of% @ci_0)∧(type_of% @ci_1)∧(type_of% @ci_2)∧(type_of% @ci_3)∧(type_of% @ci_4):=⟨wBB,wBC,cx_muts,cx_arr,wBD,wBE,@ci_0,@ci_1,@ci_2,@ci_3,@ci_4⟩
end Go.Proofs.YthhbnenaihkggaaGreat
namespace Go.Proofs.YthhbnenaihkggaaGreat
open Go.RowKit
theorem ACalls.of_calls {P:Program}{f:FuncId}{args:List AV}{σ:St}{R:AV→Prop}(hen:Enters P f)
 (h:∀ (M:View) (vs:List Value),Match M σ→ARepL M args vs→Calls P f vs.toArray M.w fun e w'=>∃ (v:Value) (r:AV) (J:Nat→Nat→Prop),e= .returned v∧Below M.w.heap.size M.w w'∧(∀ b o,J b o→M.w.heap.size≤b∧b<w'.heap.size)∧ARep { M with w:=w',I:=fun b o=>M.I b o∨J b o } r v∧R r):
 ACalls P f args σ fun r σ'=>σ'=σ∧R r:=by
 refine⟨hen,fun M vs hM hv=>(h M vs hM hv).mono ?_⟩
 rintro e w' ⟨v,r,J,rfl,hb,hJ,hr,hR⟩
 let M':View:={ M with w:=w',I:=fun b o=>M.I b o∨J b o }
 have hcell:∀ b o,M.I b o→M'.w.cell? ⟨b,o,none⟩=M.w.cell? ⟨b,o,none⟩:=fun b o ho=>hb.cell (p:=⟨b,o,none⟩) (hM.imm b o ho)
 have hL:Later M M':=⟨fun _ _ h h'=>⟨h,h',rfl⟩,own_same (fun _=>rfl) (fun _=>rfl) (fun _=>rfl),fun _ _ h=>.inl h,hcell⟩
 have hI:∀ b o,b<M.w.heap.size→M'.I b o→M.I b o:=fun b o hlt ho=>by
  rcases ho with ho|ho
  ·exact ho
  ·have:=(hJ b o ho).1;omega
 have hE:Ext M σ M' σ:=⟨hL.mu,hL.own,hL.imm,hcell,fun b hlt _=>⟨hb.block b hlt,fun o=>hI b o hlt⟩,fun t ob b h1 h2=>.inr ⟨t,ob,h1,h2⟩,hb.size,hb.os,hb.tape,hb.output⟩
 refine⟨v,r,σ,M',rfl,rfl,hE,?_,hr,Nat.le_refl _,rfl,hR⟩
 refine⟨fun t ob ht=>(hM.obj t ob ht).later hL rfl rfl rfl fun b hbb=>⟨hb.block b (hM.lt t b hbb),fun o=>hI b o (hM.lt t b hbb)⟩,hM.inj,hM.fresh,fun t b hbb=>Nat.lt_of_lt_of_le (hM.lt t b hbb) hb.size,fun b o ho=> ?_,hM.glob.ext hE⟩
 rcases ho with ho|ho
 ·exact Nat.lt_of_lt_of_le (hM.imm b o ho) hb.size
 ·exact (hJ b o ho).2
def byteP (b:UInt8):PV:=.v (.int .u8 b.toNat)
def encB (r:List UInt8):List (List PV):=r.map fun b=>[byteP b]
def BX (x:PV)(r:List UInt8):Prop:=x= .sl 1 (encB r)∨(x= .v (.slice none 0 0)∧r=[])
def pageC (l:List UInt8):List AV:=l.map fun b=>.p (byteP b)
def pageA (l:List UInt8):AV:=.agg (pageC l)
theorem pageC_len (l:List UInt8):(pageC l).length=l.length:=by simp[pageC]
theorem pageC_leaf (l:List UInt8):(pageC l).all leaf=true:=by simp[pageC,leaf]
theorem byteOf_byteP (b:UInt8):byteOfV (.int .u8 b.toNat)=some b:=by
 have h:(b.toNat:Int)<256:=by have:=b.toNat_lt;omega
 simp[byteOfV,h]
theorem bytesOf_page:∀ l:List UInt8,bytesOfA (pageC l)=some l
 |[]=>rfl
 |b::l=>by
  have:=bytesOf_page l
  simp only[pageC,byteP]at this
  simp only[pageC,List.map_cons,bytesOfA,byteOfA,byteP,byteOf_byteP,this]
theorem bytesOf_enc:∀ r:List UInt8,bytesOfR (encB r)=some r
 |[]=>rfl
 |b::r=>by
  have:=bytesOf_enc r
  simp only[encB,byteP]at this
  simp only[encB,List.map_cons,bytesOfR,byteP,byteOf_byteP,this]
def recP:Option (List UInt8)→PV
 |none=>.v (.slice none 0 0)
 |some r=>.sl 1 (encB r)
section
variable {M:View}
theorem pageC_rep {l:List UInt8}{us:List Value}(h:ARepL M (pageC l) us):us=bytesL l:=by
 rw[bytesOfA_rep (bytesOf_page l) h]
 rfl
theorem page_rep {l:List UInt8}{u:Value}(h:ARep M (pageA l) u):u= .agg (bytesA l):=by
 simp only[pageA,ARep]at h
 obtain⟨_,us,rfl,h⟩:=h
 rw[pageC_rep h]
theorem page_mk (l:List UInt8):ARep M (pageA l) (.agg (bytesA l)):=by
 simp only[pageA,ARep]
 refine⟨pageC_leaf l,bytesL l,rfl,ARepL_iff.2 ⟨by simp[pageC,bytesL],fun i x u hx hu=> ?_⟩⟩
 simp only[pageC,bytesL,List.getElem?_map]at hx hu
 cases hl:l[i]? with
 |none=>rw[hl]at hx;simp at hx
 |some b=>
  rw[hl]at hx hu
  simp at hx hu
  subst hx hu
  exact rep_mk rfl
theorem rep1 {a:AV}{vs:List Value}(h:ARepL M [a] vs):∃ u,vs=[u]∧ARep M a u:=by
 simp only[ARepL]at h
 obtain⟨u,us,rfl,h1,rfl⟩:=h
 exact⟨u,rfl,h1⟩
theorem rep2 {a b:AV}{vs:List Value}(h:ARepL M [a,b] vs):∃ u v,vs=[u,v]∧ARep M a u∧ARep M b v:=by
 simp only[ARepL]at h
 obtain⟨u,us,rfl,h1,v,us',rfl,h2,rfl⟩:=h
 exact⟨u,v,rfl,h1,h2⟩
theorem rep3 {a b c:AV}{vs:List Value}(h:ARepL M [a,b,c] vs):∃ u v w,vs=[u,v,w]∧ARep M a u∧ARep M b v∧ARep M c w:=by
 simp only[ARepL]at h
 obtain⟨u,us,rfl,h1,v,us',rfl,h2,w,us'',rfl,h3,rfl⟩:=h
 exact⟨u,v,w,rfl,h1,h2,h3⟩
theorem tup2 {a b:AV}{u v:Value}(h1:ARep M a u)(h2:ARep M b v):ARep M (.tup [a,b]) (.tuple #[u,v]):=by
 simp only[ARep,ARepL];exact⟨[u,v],rfl,u,[v],rfl,h1,v,[],rfl,h2,rfl⟩
theorem tup3 {a b c:AV}{u v w:Value}(h1:ARep M a u)(h2:ARep M b v)(h3:ARep M c w):ARep M (.tup [a,b,c]) (.tuple #[u,v,w]):=by
 simp only[ARep,ARepL];exact⟨[u,v,w],rfl,u,[v,w],rfl,h1,v,[w],rfl,h2,w,[],rfl,h3,rfl⟩
theorem bytes_of_cells {w:World}{b off cap:Nat}{r:List UInt8}(h:∀ (j:Nat) (c:UInt8),r[j]? =some c→w.cell? ⟨b,off+j,none⟩=some (.int .u8 c.toNat)):ByteS w (.slice (some ⟨b,off,none⟩) r.length cap) r:=by
 refine⟨some ⟨b,off,none⟩,cap,rfl,.inr ⟨_,rfl,fun j u hj=> ?_⟩⟩
 rw[Addr.add_mid]
 simp only[bytesL,List.getElem?_map]at hj
 cases hc:r[j]? with
 |none=>rw[hc]at hj;simp at hj
 |some c=>rw[hc]at hj;simp at hj;subst hj;exact h j c hc
theorem BX.bytes {x:PV}{r:List UInt8}{u:Value}(h:BX x r)(hu:ARep M (.p x) u):ByteS M.w u r:=by
 rcases h with rfl|⟨rfl,rfl⟩
 ·simp only[ARep,PRep]at hu
  obtain⟨h0,ad,cap,rfl,hn⟩|⟨b,off,cap,rfl,hcap,hr⟩:=hu
  ·have hr0:r=[]:=by simpa [encB]using h0
   subst hr0
   cases ad with
   |none=>exact⟨none,cap,rfl,.inl ⟨rfl,rfl,hn rfl⟩⟩
   |some ad=>exact⟨some ad,cap,rfl,.inr ⟨_,rfl,fun j u hj=>by simp[bytesL]at hj⟩⟩
  rw[show (encB r).length=r.length by simp[encB]]
  refine bytes_of_cells fun j c hc=> ?_
  obtain⟨_,h2⟩:=hr.get (i:=j) (c:=[byteP c]) (by simp[encB,hc])
  obtain⟨v,h3,_,h4⟩:=h2.get (j:=0) rfl
  simp only[byteP,PRep]at h4
  rw[h4.2]at h3
  simpa using h3
 ·have:=(rep_v hu).2;subst this
  exact⟨none,0,rfl,.inl ⟨rfl,rfl,rfl⟩⟩
theorem rec_rep {w':World}{base:Nat}{v:Value}{o:Option (List UInt8)}(h:Rec w' base v o):∃ J:Nat→Nat→Prop,(∀ b q,J b q→base≤b∧b<w'.heap.size)∧ARep { M with w:=w',I:=fun b q=>M.I b q∨J b q } (.p (recP o)) v:=by
 cases o with
 |none=>
  simp only[Rec]at h;subst h
  exact⟨fun _ _=>False,fun _ _ h=>h.elim,rep_mk rfl⟩
 |some r=>
  obtain⟨ho,g,cap,rfl⟩:=h
  rcases ho.2 with⟨h1,_⟩|⟨g',cap',cur,h1,hg,hh,hnc,hcm,hcs,ht⟩
  ·simp at h1
  ·simp only[Value.slice.injEq,Option.some.injEq,Addr.mk.injEq,and_true,true_and]at h1
   obtain⟨rfl,rfl⟩:=h1
   refine⟨fun b q=>b=g∧q<r.length,fun b q h=>⟨by omega,by rw[h.1];exact (Array.getElem?_eq_some_iff.1 hh).1⟩,?_⟩
   simp only[recP,ARep,PRep]
   refine .inr ⟨g,0,cap,by simp[encB],by simpa [encB]using hnc,PRepR.of_get fun i c hc=> ?_⟩
   simp only[encB,List.getElem?_map]at hc
   cases hr:r[i]? with
   |none=>rw[hr]at hc;simp at hc
   |some b=>
    rw[hr]at hc;simp at hc;subst hc
    have hi:=(List.getElem?_eq_some_iff.1 hr).1
    refine⟨rfl,PRepC.of_get fun j x hx=> ?_⟩
    cases j with
    |succ j=>simp at hx
    |zero=>
     simp at hx;subst hx
     refine⟨.int .u8 b.toNat,?_,.inr ⟨rfl,by omega⟩,by simp only[byteP,PRep];exact⟨rfl,trivial⟩⟩
     have:=ho.cells (g:=g) rfl i (.int .u8 b.toNat) (by simp[bytesL,byteV,hr])
     rw[Addr.add_mid]at this
     simpa using this
end
theorem en (f:FuncId)(h:(Tryz.prog.funcs[f]?).any (fun fn=> !(fn.name== "runtime.NumGoroutine")&&fn.body.isSome)=true):Enters Tryz.prog f:=by
 cases hf:Tryz.prog.funcs[f]? with
 |none=>rw[hf]at h;simp at h
 |some fn=>
  rw[hf]at h
  simp only[Option.any_some,Bool.and_eq_true,Bool.not_eq_true']at h
  exact⟨fn,hf,h.1,by cases hb:fn.body<;>simp_all⟩
theorem anew (k:Int)(σ:St):ACalls Tryz.prog 51 [intV .i64 k] σ fun r σ'=>σ'=σ∧r=pageA (newL k):=
 ACalls.of_calls (en _ (by kernel_rfl)) fun M vs hM hv=>by
  obtain⟨u,rfl,h1⟩:=rep1 hv
  rw[rep_int h1]
  exact (new_any k _).mono fun e w' ⟨h1,h2⟩=>⟨_,_,fun _ _=>False,h1,h2,fun _ _ h=>h.elim,page_mk _,rfl⟩
theorem anslots (l:List UInt8)(hl:l.length=512)(σ:St):ACalls Tryz.prog 57 [pageA l] σ fun r σ'=>σ'=σ∧r=intV .i64 ((slotsL l).length:Nat):=
 ACalls.of_calls (en _ (by kernel_rfl)) fun M vs hM hv=>by
  obtain⟨u,rfl,h1⟩:=rep1 hv
  rw[page_rep h1]
  exact (nslots_any l _ hl).mono fun e w' ⟨h1,h2⟩=>⟨_,_,fun _ _=>False,h1,h2,fun _ _ h=>h.elim,rep_mk rfl,rfl⟩
theorem aget (l:List UInt8)(k:Int)(hl:l.length=512)(σ:St):ACalls Tryz.prog 58 [pageA l,intV .i64 k] σ fun r σ'=>σ'=σ∧r= .tup [.p (recP (getL l k)),boolV (getL l k).isSome]:=
 ACalls.of_calls (en _ (by kernel_rfl)) fun M vs hM hv=>by
  obtain⟨u,v,rfl,h1,h2⟩:=rep2 hv
  rw[page_rep h1,rep_int h2]
  refine (get_any l k _ hl).mono ?_
  rintro e w' ⟨v,rfl,hr,hb⟩
  obtain⟨J,h3,h5⟩:=rec_rep (M:=M) hr
  exact⟨_,_,J,rfl,hb,h3,tup2 h5 (rep_mk rfl),rfl⟩
theorem aaddP (l r:List UInt8)(x:PV)(hl:l.length=512)(hx:BX x r)(hrl:r.length≤140737488351232)(σ:St):ACalls Tryz.prog 74 [pageA l,.p x] σ fun r' σ'=>σ'=σ∧r'= .tup [pageA (addL l r).1,intV .i64 (addL l r).2.1,boolV (addL l r).2.2]:=
 ACalls.of_calls (en _ (by kernel_rfl)) fun M vs hM hv=>by
  obtain⟨u,v,rfl,h1,h2⟩:=rep2 hv
  rw[page_rep h1]
  exact (add_any l r v _ hl (hx.bytes h2) hrl).mono fun e w' ⟨h1,h2⟩=>⟨_,_,fun _ _=>False,h1,h2,fun _ _ h=>h.elim,tup3 (page_mk _) (rep_mk rfl) (rep_mk rfl),rfl⟩
theorem aadd (l r:List UInt8)(t:Nat)(hl:l.length=512)(hrl:r.length≤140737488351232)(σ:St)(ht:σ.at t (.row 1 (r.map fun b=>[.p (byteP b)]))):ACalls Tryz.prog 74 [pageA l,.ms t 1 0 r.length] σ fun r' σ'=>σ'=σ∧r'= .tup [pageA (addL l r).1,intV .i64 (addL l r).2.1,boolV (addL l r).2.2]:=
 ACalls.of_calls (en _ (by kernel_rfl)) fun M vs hM hv=>by
  obtain⟨u,v,rfl,h1,h2⟩:=rep2 hv
  rw[page_rep h1]
  have hby:ByteS M.w v r:=by
   simp only[ARep]at h2
   obtain⟨b,cap,hb,hbl,rfl,hcap,_⟩:=h2
   obtain⟨_,b',cur,T,hb',hh,hI,hr,_⟩:=hM.obj t _ ht
   have:b'=b:=by rw[hb]at hb';simpa using hb'.symm
   subst this
   rw[Nat.zero_mul]
   refine bytes_of_cells fun j c hc=> ?_
   obtain⟨_,h4⟩:=hr j [.p (byteP c)] (by simp[hc])
   obtain⟨_,x,h5,h6⟩:=h4 0 (.p (byteP c)) rfl
   rw[Nat.zero_add,cell_of_row _ _ _ _ _ _ hh]
   simp only[Nat.mul_one,Nat.add_zero]at h5
   rw[h5,(rep_v h6).2]
  exact (add_any l r v _ hl hby hrl).mono fun e w' ⟨h1,h2⟩=>⟨_,_,fun _ _=>False,h1,h2,fun _ _ h=>h.elim,tup3 (page_mk _) (rep_mk rfl) (rep_mk rfl),rfl⟩
theorem bu_len {C:Ctx}{tk:Nat}{T:TypeId}{x:AV}{σ:St}:builtinA C tk .len [T] [x] σ=(lenA C T x).map fun (n:Nat)=>(intV .i64 (n:Int),σ):=nr rfl
end Go.Proofs.YthhbnenaihkggaaGreat
