/- The table of types of this program, for the abstract machine. The page's contracts on the abstract machine, for programs that use pages. Values without objects under other numbers. Objects that name no others: contracts of their methods at any state. -/
import Derived.Test.YtockimhceppkbaaGreatM12
import Derived.Test.YtockimhceppkbaaGreatRows
import Derived.Test.YtockimhceppkbaaGreatM16
import Derived.Test.YtockimhceppkbaaGreatM13
set_option linter.unusedSimpArgs false
set_option linter.unusedVariables false
set_option linter.defProp false
set_option maxRecDepth 100000
set_option maxHeartbeats 32000000
namespace Go.Proofs.YtockimhceppkbaaGreat
def zT513:List Value:=[.int .i64 0]++zB 512
theorem zT513_len:(zeroA zT513).length=513:=by simp only[zT513,zeroA,zB,List.length_map,List.length_append,List.length_replicate,List.length_cons,List.length_nil]
def zT65:List Value:=[.int .i64 0]++zB 64
theorem zT65_len:(zeroA zT65).length=65:=by simp only[zT65,zeroA,zB,List.length_map,List.length_append,List.length_replicate,List.length_cons,List.length_nil]
def zT516:List Value:=[.int .i64 0]++zB 512++[.bool false]++[.int .i64 0,.int .i64 0]
theorem zT516_len:(zeroA zT516).length=516:=by simp only[zT516,zeroA,zB,List.length_map,List.length_append,List.length_replicate,List.length_cons,List.length_nil]
def cxL:List (TypeId×TI):=[
 (1,⟨1,false,[.nilFunc],.other⟩),
 (2,⟨1,false,[.int .i64 0],.int .i64⟩),
 (3,⟨1,false,[.int .i64 0],.int .i64⟩),
 (4,⟨1,false,[.bool false],.bool⟩),
 (5,⟨1,false,[.int .u8 0],.int .u8⟩),
 (9,⟨1,false,[.string ⟨#[]⟩],.str⟩),
 (12,⟨1,false,[.int .u64 0],.int .u64⟩),
 (13,⟨2,true,[.string ⟨#[]⟩,.int .u64 0],.struct [(0,1,false),(1,1,false)]⟩),
 (19,⟨1,true,[.pointer none],.struct [(0,1,false)]⟩),
 (21,⟨1,false,[.int .i32 0],.int .i32⟩),
 (22,⟨1,false,[.slice none 0 0],.slice 35 1 24 [.slice none 0 0]⟩),
 (23,⟨1,false,[.nilFunc],.other⟩),
 (24,⟨1,false,[.pointer none],.ptr⟩),
 (25,⟨1,false,[.int .i64 0],.int .i64⟩),
 (27,⟨1,false,[.nilFunc],.other⟩),
 (28,⟨1,false,[.pointer none],.ptr⟩),
 (29,⟨1,false,[.nilFunc],.other⟩),
 (30,⟨1,false,[.pointer none],.ptr⟩),
 (31,⟨1,false,[.nilFunc],.other⟩),
 (33,⟨1,false,[.nilFunc],.other⟩),
 (34,⟨1,false,[.nilFunc],.other⟩),
 (35,⟨1,false,[.slice none 0 0],.slice 5 1 1 [.int .u8 0]⟩),
 (36,⟨2,true,[.int .i64 0,.int .i64 0],.struct [(0,1,false),(1,1,false)]⟩),
 (37,⟨2,true,[.int .i64 0,.int .i64 0],.struct [(0,1,false),(1,1,false)]⟩),
 (38,⟨1,false,[.nilFunc],.other⟩),
 (39,⟨1,false,[.nilFunc],.other⟩),
 (40,⟨1,false,[.slice none 0 0],.slice 48 3 40 [.slice none 0 0,.int .i64 0,.int .i64 0]⟩),
 (42,⟨1,false,[.nilFunc],.other⟩),
 (43,⟨1,false,[.nilFunc],.other⟩),
 (45,⟨1,false,[.nilFunc],.other⟩),
 (46,⟨1,false,[.nilFunc],.other⟩),
 (47,⟨3,true,[.slice none 0 0,.int .i64 0,.int .i64 0],.struct [(0,1,false),(1,2,true)]⟩),
 (48,⟨3,true,[.slice none 0 0,.int .i64 0,.int .i64 0],.struct [(0,1,false),(1,2,true)]⟩),
 (49,⟨1,false,[.nilFunc],.other⟩),
 (50,⟨1,false,[.nilFunc],.other⟩),
 (51,⟨1,false,[.nilFunc],.other⟩),
 (52,⟨1,false,[.slice none 0 0],.slice 57 6 80 [.int .i64 0,.int .i64 0,.slice none 0 0,.slice none 0 0,.int .i64 0,.int .i64 0]⟩),
 (53,⟨1,false,[.int .u64 0],.int .u64⟩),
 (54,⟨1,false,[.nilFunc],.other⟩),
 (55,⟨1,false,[.slice none 0 0],.slice 59 3 32 [.string ⟨#[]⟩,.int .i64 0,.int .i64 0]⟩),
 (56,⟨6,true,[.int .i64 0,.int .i64 0,.slice none 0 0,.slice none 0 0,.int .i64 0,.int .i64 0],.struct [(0,1,false),(1,1,false),(2,1,false),(3,1,false),(4,2,true)]⟩),
 (57,⟨6,true,[.int .i64 0,.int .i64 0,.slice none 0 0,.slice none 0 0,.int .i64 0,.int .i64 0],.struct [(0,1,false),(1,1,false),(2,1,false),(3,1,false),(4,2,true)]⟩),
 (58,⟨3,true,[.string ⟨#[]⟩,.int .i64 0,.int .i64 0],.struct [(0,1,false),(1,2,true)]⟩),
 (59,⟨3,true,[.string ⟨#[]⟩,.int .i64 0,.int .i64 0],.struct [(0,1,false),(1,2,true)]⟩),
 (61,⟨1,false,[.nilFunc],.other⟩),
 (62,⟨1,false,[.nilFunc],.other⟩),
 (63,⟨1,false,[.nilFunc],.other⟩),
 (64,⟨1,false,[.nilFunc],.other⟩),
 (65,⟨1,false,[.nilFunc],.other⟩),
 (66,⟨1,false,[.pointer none],.ptr⟩),
 (68,⟨1,false,[.nilFunc],.other⟩),
 (69,⟨1,false,[.map none],.map (.int .i64) (.pointer none)⟩),
 (70,⟨1,false,[.slice none 0 0],.slice 130 1 8 [.pointer none]⟩),
 (71,⟨1,false,[.slice none 0 0],.slice 130 1 8 [.pointer none]⟩),
 (72,⟨6,true,[.pointer none,.pointer none,.int .i64 0,.slice none 0 0,.map none,.int .i64 0],.struct [(0,1,false),(1,1,false),(2,1,false),(3,1,false),(4,1,false),(5,1,false)]⟩),
 (73,⟨6,true,[.pointer none,.pointer none,.int .i64 0,.slice none 0 0,.map none,.int .i64 0],.struct [(0,1,false),(1,1,false),(2,1,false),(3,1,false),(4,1,false),(5,1,false)]⟩),
 (74,⟨1,false,[.slice none 0 0],.slice 129 513 520 zT513⟩),
 (76,⟨1,false,[.nilFunc],.other⟩),
 (77,⟨1,false,[.nilFunc],.other⟩),
 (78,⟨1,false,[.map none],.map (.int .i64) (.agg ⟨(zB 64)⟩)⟩),
 (79,⟨1,false,[.slice none 0 0],.slice 171 65 72 zT65⟩),
 (80,⟨6,true,[.int .i64 0,.map none,.map none,.slice none 0 0,.bool false,.int .i64 0],.struct [(0,1,false),(1,1,false),(2,1,false),(3,1,false),(4,1,false),(5,1,false)]⟩),
 (81,⟨6,true,[.int .i64 0,.map none,.map none,.slice none 0 0,.bool false,.int .i64 0],.struct [(0,1,false),(1,1,false),(2,1,false),(3,1,false),(4,1,false),(5,1,false)]⟩),
 (82,⟨2,true,[.pointer none,.slice none 0 0],.struct [(0,1,false),(1,1,false)]⟩),
 (83,⟨2,true,[.pointer none,.slice none 0 0],.struct [(0,1,false),(1,1,false)]⟩),
 (84,⟨1,false,[.nilFunc],.other⟩),
 (85,⟨1,true,[.pointer none],.struct [(0,1,false)]⟩),
 (86,⟨1,true,[.pointer none],.struct [(0,1,false)]⟩),
 (87,⟨1,false,[.pointer none],.ptr⟩),
 (89,⟨1,false,[.nilFunc],.other⟩),
 (90,⟨1,false,[.slice none 0 0],.slice 97 4 48 [.slice none 0 0,.int .i64 0,.int .i64 0,.int .i64 0]⟩),
 (91,⟨2,true,[.int .i64 0,.slice none 0 0],.struct [(0,1,false),(1,1,false)]⟩),
 (92,⟨2,true,[.int .i64 0,.slice none 0 0],.struct [(0,1,false),(1,1,false)]⟩),
 (94,⟨1,false,[.nilFunc],.other⟩),
 (95,⟨1,false,[.nilFunc],.other⟩),
 (96,⟨4,true,[.slice none 0 0,.int .i64 0,.int .i64 0,.int .i64 0],.struct [(0,3,true),(3,1,false)]⟩),
 (97,⟨4,true,[.slice none 0 0,.int .i64 0,.int .i64 0,.int .i64 0],.struct [(0,3,true),(3,1,false)]⟩),
 (98,⟨1,false,[.nilFunc],.other⟩),
 (99,⟨1,false,[.nilFunc],.other⟩),
 (100,⟨1,false,[.nilFunc],.other⟩),
 (102,⟨1,false,[.nilFunc],.other⟩),
 (103,⟨1,false,[.nilFunc],.other⟩),
 (104,⟨1,false,[.nilFunc],.other⟩),
 (105,⟨512,true,(zB 512),.barr 512⟩),
 (106,⟨512,true,(zB 512),.barr 512⟩),
 (107,⟨1,false,[.nilFunc],.other⟩),
 (108,⟨1,false,[.nilFunc],.other⟩),
 (109,⟨1,false,[.nilFunc],.other⟩),
 (110,⟨1,false,[.nilFunc],.other⟩),
 (111,⟨1,false,[.nilFunc],.other⟩),
 (112,⟨1,false,[.nilFunc],.other⟩),
 (113,⟨1,false,[.nilFunc],.other⟩),
 (114,⟨1,false,[.nilFunc],.other⟩),
 (115,⟨1,false,[.nilFunc],.other⟩),
 (116,⟨1,false,[.int .u64 0],.int .u64⟩),
 (117,⟨2,true,[.int .u64 0,.int .u64 0],.struct [(0,1,false),(1,1,false)]⟩),
 (118,⟨2,true,[.int .u64 0,.int .u64 0],.struct [(0,1,false),(1,1,false)]⟩),
 (119,⟨5,true,[.pointer none,.int .u64 0,.int .u64 0,.slice none 0 0,.int .i64 0],.struct [(0,1,false),(1,2,true),(3,1,false),(4,1,false)]⟩),
 (120,⟨5,true,[.pointer none,.int .u64 0,.int .u64 0,.slice none 0 0,.int .i64 0],.struct [(0,1,false),(1,2,true),(3,1,false),(4,1,false)]⟩),
 (121,⟨64,true,(zB 64),.barr 64⟩),
 (122,⟨64,true,(zB 64),.barr 64⟩),
 (124,⟨1,false,[.nilFunc],.other⟩),
 (125,⟨1,false,[.nilFunc],.other⟩),
 (127,⟨1,false,[.nilFunc],.other⟩),
 (128,⟨513,true,zT513,.struct [(0,1,false),(1,512,true)]⟩),
 (129,⟨513,true,zT513,.struct [(0,1,false),(1,512,true)]⟩),
 (130,⟨1,false,[.pointer none],.ptr⟩),
 (132,⟨1,false,[.nilFunc],.other⟩),
 (133,⟨516,true,zT516,.struct [(0,1,false),(1,512,true),(513,1,false),(514,1,false),(515,1,false)]⟩),
 (134,⟨516,true,zT516,.struct [(0,1,false),(1,512,true),(513,1,false),(514,1,false),(515,1,false)]⟩),
 (135,⟨1,false,[.nilFunc],.other⟩),
 (136,⟨1,false,[.nilFunc],.other⟩),
 (138,⟨1,false,[.nilFunc],.other⟩),
 (139,⟨1,false,[.nilFunc],.other⟩),
 (140,⟨1,false,[.nilFunc],.other⟩),
 (141,⟨1,false,[.nilFunc],.other⟩),
 (142,⟨1,false,[.nilFunc],.other⟩),
 (144,⟨1,false,[.nilFunc],.other⟩),
 (145,⟨1,false,[.nilFunc],.other⟩),
 (147,⟨1,false,[.nilFunc],.other⟩),
 (148,⟨1,false,[.nilFunc],.other⟩),
 (150,⟨1,false,[.nilFunc],.other⟩),
 (151,⟨1,false,[.nilFunc],.other⟩),
 (152,⟨1,false,[.nilFunc],.other⟩),
 (153,⟨1,false,[.nilFunc],.other⟩),
 (154,⟨1,false,[.nilFunc],.other⟩),
 (156,⟨1,false,[.nilFunc],.other⟩),
 (157,⟨1,false,[.nilFunc],.other⟩),
 (158,⟨1,false,[.nilFunc],.other⟩),
 (159,⟨1,false,[.nilFunc],.other⟩),
 (160,⟨1,false,[.nilFunc],.other⟩),
 (161,⟨1,false,[.nilFunc],.other⟩),
 (162,⟨1,false,[.nilFunc],.other⟩),
 (163,⟨1,false,[.nilFunc],.other⟩),
 (165,⟨1,false,[.nilFunc],.other⟩),
 (166,⟨1,false,[.nilFunc],.other⟩),
 (167,⟨1,false,[.pointer none],.ptr⟩),
 (168,⟨1,false,[.nilFunc],.other⟩),
 (169,⟨1,false,[.nilFunc],.other⟩),
 (170,⟨65,true,zT65,.struct [(0,1,false),(1,64,true)]⟩),
 (171,⟨65,true,zT65,.struct [(0,1,false),(1,64,true)]⟩),
 (172,⟨1,false,[.nilFunc],.other⟩),
 (173,⟨1,false,[.nilFunc],.other⟩),
 (174,⟨1,false,[.nilFunc],.other⟩),
 (175,⟨1,false,[.nilFunc],.other⟩),
 (176,⟨1,false,[.nilFunc],.other⟩),
 (177,⟨1,false,[.nilFunc],.other⟩),
 (178,⟨1,false,[.nilFunc],.other⟩),
 (179,⟨1,false,[.nilFunc],.other⟩),
 (180,⟨1,false,[.nilFunc],.other⟩),
 (181,⟨1,false,[.nilFunc],.other⟩),
 (182,⟨1,false,[.slice none 0 0],.slice 3 1 8 [.int .i64 0]⟩),
 (183,⟨1,false,[.nilFunc],.other⟩),
 (184,⟨1,false,[.nilFunc],.other⟩),
 (185,⟨1,false,[.nilFunc],.other⟩),
 (188,⟨1,false,[.nilFunc],.other⟩),
 (189,⟨1,false,[.nilFunc],.other⟩),
 (190,⟨1,false,[.nilFunc],.other⟩),
 (191,⟨1,false,[.nilFunc],.other⟩),
 (192,⟨1,false,[.int .u32 0],.int .u32⟩),
 (193,⟨1,false,[.nilFunc],.other⟩),
 (194,⟨1,false,[.slice none 0 0],.slice 90 1 24 [.slice none 0 0]⟩),
 (195,⟨1,false,[.nilFunc],.other⟩),
 (196,⟨1,false,[.nilFunc],.other⟩),
 (197,⟨1,false,[.nilFunc],.other⟩),
 (198,⟨1,false,[.nilFunc],.other⟩),
 (206,⟨1,false,[.nilFunc],.other⟩),
 (207,⟨1,false,[.pointer none],.ptr⟩)]
def cxQ:List (TypeId×List EK):=[(37,[.int,.int]),(118,[.int,.int])]
def cxM:List (TypeId×String×FuncId×Option TypeId):=[(167, "Len",139,some 71),(167, "Less",140,some 71),(167, "Swap",141,some 71),(167, "Pop",142,none),(167, "Push",143,none)]
def cx:Ctx:=tabCtxM cxL [7100019,7100007,7400029,3500030,3500032,3500093,3500026] cxQ cxM
theorem cx_ok:cx.ok Tryz.prog:=tabCtxM_ok (by kernel_rfl) (by kernel_rfl) (by kernel_rfl)
theorem dr_ok:DrawOk Tryz.prog (aDraw Tryz.prog cx):=aDraw_ok cx_ok (by kernel_rfl)
theorem cx_muts:cx.muts=[7100019,7100007,7400029,3500030,3500032,3500093,3500026]:=nr rfl
theorem cx_1:cx.ty 1=some ⟨1,false,[.nilFunc],.other⟩:=nr rfl
theorem ck_1:cx.kind 1=some (.other):=nr rfl
theorem cx_2:cx.ty 2=some ⟨1,false,[.int .i64 0],.int .i64⟩:=nr rfl
theorem ck_2:cx.kind 2=some (.int .i64):=nr rfl
theorem cx_3:cx.ty 3=some ⟨1,false,[.int .i64 0],.int .i64⟩:=nr rfl
theorem ck_3:cx.kind 3=some (.int .i64):=nr rfl
theorem cx_4:cx.ty 4=some ⟨1,false,[.bool false],.bool⟩:=nr rfl
theorem ck_4:cx.kind 4=some (.bool):=nr rfl
theorem cx_5:cx.ty 5=some ⟨1,false,[.int .u8 0],.int .u8⟩:=nr rfl
theorem ck_5:cx.kind 5=some (.int .u8):=nr rfl
theorem cx_9:cx.ty 9=some ⟨1,false,[.string ⟨#[]⟩],.str⟩:=nr rfl
theorem ck_9:cx.kind 9=some (.str):=nr rfl
theorem cx_22:cx.ty 22=some ⟨1,false,[.slice none 0 0],.slice 35 1 24 [.slice none 0 0]⟩:=nr rfl
theorem ck_22:cx.kind 22=some (.slice 35 1 24 [.slice none 0 0]):=nr rfl
theorem ks_22 {e:Nat}{ls:List (List PV)}:lenA cx 22 (.p (.sl e ls))=some ls.length:=nr (len_sl ck_22)
theorem ko_22 {t e:Nat}{ls:List (List PV)}:lenA cx 22 (.own t e ls)=some ls.length:=nr (len_own ck_22)
theorem kn_22 {t e:Nat}{ls:List (List PV)}:lenA cx 22 (.nown t e ls)=some ls.length:=nr (len_nown ck_22)
theorem kz_22:lenA cx 22 (.p (.v (.slice none 0 0)))=some 0:=nr (len_nil ck_22)
theorem km_22 {t e j n:Nat}:lenA cx 22 (.ms t e j n)=some n:=nr (len_ms ck_22)
theorem kb_22 {t e j q n:Nat}:lenA cx 22 (.bs t e j q n)=some n:=nr (len_bs ck_22)
theorem cx_24:cx.ty 24=some ⟨1,false,[.pointer none],.ptr⟩:=nr rfl
theorem ck_24:cx.kind 24=some (.ptr):=nr rfl
theorem cx_25:cx.ty 25=some ⟨1,false,[.int .i64 0],.int .i64⟩:=nr rfl
theorem ck_25:cx.kind 25=some (.int .i64):=nr rfl
theorem cx_28:cx.ty 28=some ⟨1,false,[.pointer none],.ptr⟩:=nr rfl
theorem ck_28:cx.kind 28=some (.ptr):=nr rfl
theorem cx_30:cx.ty 30=some ⟨1,false,[.pointer none],.ptr⟩:=nr rfl
theorem ck_30:cx.kind 30=some (.ptr):=nr rfl
theorem cx_35:cx.ty 35=some ⟨1,false,[.slice none 0 0],.slice 5 1 1 [.int .u8 0]⟩:=nr rfl
theorem ck_35:cx.kind 35=some (.slice 5 1 1 [.int .u8 0]):=nr rfl
theorem ks_35 {e:Nat}{ls:List (List PV)}:lenA cx 35 (.p (.sl e ls))=some ls.length:=nr (len_sl ck_35)
theorem ko_35 {t e:Nat}{ls:List (List PV)}:lenA cx 35 (.own t e ls)=some ls.length:=nr (len_own ck_35)
theorem kn_35 {t e:Nat}{ls:List (List PV)}:lenA cx 35 (.nown t e ls)=some ls.length:=nr (len_nown ck_35)
theorem kz_35:lenA cx 35 (.p (.v (.slice none 0 0)))=some 0:=nr (len_nil ck_35)
theorem km_35 {t e j n:Nat}:lenA cx 35 (.ms t e j n)=some n:=nr (len_ms ck_35)
theorem kb_35 {t e j q n:Nat}:lenA cx 35 (.bs t e j q n)=some n:=nr (len_bs ck_35)
theorem cx_37:cx.ty 37=some ⟨2,true,[.int .i64 0,.int .i64 0],.struct [(0,1,false),(1,1,false)]⟩:=nr rfl
theorem ck_37:cx.kind 37=some (.struct [(0,1,false),(1,1,false)]):=nr rfl
theorem cx_40:cx.ty 40=some ⟨1,false,[.slice none 0 0],.slice 48 3 40 [.slice none 0 0,.int .i64 0,.int .i64 0]⟩:=nr rfl
theorem ck_40:cx.kind 40=some (.slice 48 3 40 [.slice none 0 0,.int .i64 0,.int .i64 0]):=nr rfl
theorem ks_40 {e:Nat}{ls:List (List PV)}:lenA cx 40 (.p (.sl e ls))=some ls.length:=nr (len_sl ck_40)
theorem ko_40 {t e:Nat}{ls:List (List PV)}:lenA cx 40 (.own t e ls)=some ls.length:=nr (len_own ck_40)
theorem kn_40 {t e:Nat}{ls:List (List PV)}:lenA cx 40 (.nown t e ls)=some ls.length:=nr (len_nown ck_40)
theorem kz_40:lenA cx 40 (.p (.v (.slice none 0 0)))=some 0:=nr (len_nil ck_40)
theorem km_40 {t e j n:Nat}:lenA cx 40 (.ms t e j n)=some n:=nr (len_ms ck_40)
theorem kb_40 {t e j q n:Nat}:lenA cx 40 (.bs t e j q n)=some n:=nr (len_bs ck_40)
theorem cx_48:cx.ty 48=some ⟨3,true,[.slice none 0 0,.int .i64 0,.int .i64 0],.struct [(0,1,false),(1,2,true)]⟩:=nr rfl
theorem ck_48:cx.kind 48=some (.struct [(0,1,false),(1,2,true)]):=nr rfl
theorem cx_53:cx.ty 53=some ⟨1,false,[.int .u64 0],.int .u64⟩:=nr rfl
theorem ck_53:cx.kind 53=some (.int .u64):=nr rfl
theorem cx_66:cx.ty 66=some ⟨1,false,[.pointer none],.ptr⟩:=nr rfl
theorem ck_66:cx.kind 66=some (.ptr):=nr rfl
theorem cx_69:cx.ty 69=some ⟨1,false,[.map none],.map (.int .i64) (.pointer none)⟩:=nr rfl
theorem ck_69:cx.kind 69=some (.map (.int .i64) (.pointer none)):=nr rfl
theorem cx_71:cx.ty 71=some ⟨1,false,[.slice none 0 0],.slice 130 1 8 [.pointer none]⟩:=nr rfl
theorem ck_71:cx.kind 71=some (.slice 130 1 8 [.pointer none]):=nr rfl
theorem ks_71 {e:Nat}{ls:List (List PV)}:lenA cx 71 (.p (.sl e ls))=some ls.length:=nr (len_sl ck_71)
theorem ko_71 {t e:Nat}{ls:List (List PV)}:lenA cx 71 (.own t e ls)=some ls.length:=nr (len_own ck_71)
theorem kn_71 {t e:Nat}{ls:List (List PV)}:lenA cx 71 (.nown t e ls)=some ls.length:=nr (len_nown ck_71)
theorem kz_71:lenA cx 71 (.p (.v (.slice none 0 0)))=some 0:=nr (len_nil ck_71)
theorem km_71 {t e j n:Nat}:lenA cx 71 (.ms t e j n)=some n:=nr (len_ms ck_71)
theorem kb_71 {t e j q n:Nat}:lenA cx 71 (.bs t e j q n)=some n:=nr (len_bs ck_71)
theorem cx_73:cx.ty 73=some ⟨6,true,[.pointer none,.pointer none,.int .i64 0,.slice none 0 0,.map none,.int .i64 0],.struct [(0,1,false),(1,1,false),(2,1,false),(3,1,false),(4,1,false),(5,1,false)]⟩:=nr rfl
theorem ck_73:cx.kind 73=some (.struct [(0,1,false),(1,1,false),(2,1,false),(3,1,false),(4,1,false),(5,1,false)]):=nr rfl
theorem cx_74:cx.ty 74=some ⟨1,false,[.slice none 0 0],.slice 129 513 520 zT513⟩:=nr rfl
theorem ck_74:cx.kind 74=some (.slice 129 513 520 zT513):=nr rfl
theorem ks_74 {e:Nat}{ls:List (List PV)}:lenA cx 74 (.p (.sl e ls))=some ls.length:=nr (len_sl ck_74)
theorem ko_74 {t e:Nat}{ls:List (List PV)}:lenA cx 74 (.own t e ls)=some ls.length:=nr (len_own ck_74)
theorem kn_74 {t e:Nat}{ls:List (List PV)}:lenA cx 74 (.nown t e ls)=some ls.length:=nr (len_nown ck_74)
theorem kz_74:lenA cx 74 (.p (.v (.slice none 0 0)))=some 0:=nr (len_nil ck_74)
theorem km_74 {t e j n:Nat}:lenA cx 74 (.ms t e j n)=some n:=nr (len_ms ck_74)
theorem kb_74 {t e j q n:Nat}:lenA cx 74 (.bs t e j q n)=some n:=nr (len_bs ck_74)
theorem cx_78:cx.ty 78=some ⟨1,false,[.map none],.map (.int .i64) (.agg ⟨(zB 64)⟩)⟩:=nr rfl
theorem ck_78:cx.kind 78=some (.map (.int .i64) (.agg ⟨(zB 64)⟩)):=nr rfl
theorem cx_79:cx.ty 79=some ⟨1,false,[.slice none 0 0],.slice 171 65 72 zT65⟩:=nr rfl
theorem ck_79:cx.kind 79=some (.slice 171 65 72 zT65):=nr rfl
theorem ks_79 {e:Nat}{ls:List (List PV)}:lenA cx 79 (.p (.sl e ls))=some ls.length:=nr (len_sl ck_79)
theorem ko_79 {t e:Nat}{ls:List (List PV)}:lenA cx 79 (.own t e ls)=some ls.length:=nr (len_own ck_79)
theorem kn_79 {t e:Nat}{ls:List (List PV)}:lenA cx 79 (.nown t e ls)=some ls.length:=nr (len_nown ck_79)
theorem kz_79:lenA cx 79 (.p (.v (.slice none 0 0)))=some 0:=nr (len_nil ck_79)
theorem km_79 {t e j n:Nat}:lenA cx 79 (.ms t e j n)=some n:=nr (len_ms ck_79)
theorem kb_79 {t e j q n:Nat}:lenA cx 79 (.bs t e j q n)=some n:=nr (len_bs ck_79)
theorem cx_81:cx.ty 81=some ⟨6,true,[.int .i64 0,.map none,.map none,.slice none 0 0,.bool false,.int .i64 0],.struct [(0,1,false),(1,1,false),(2,1,false),(3,1,false),(4,1,false),(5,1,false)]⟩:=nr rfl
theorem ck_81:cx.kind 81=some (.struct [(0,1,false),(1,1,false),(2,1,false),(3,1,false),(4,1,false),(5,1,false)]):=nr rfl
theorem cx_83:cx.ty 83=some ⟨2,true,[.pointer none,.slice none 0 0],.struct [(0,1,false),(1,1,false)]⟩:=nr rfl
theorem ck_83:cx.kind 83=some (.struct [(0,1,false),(1,1,false)]):=nr rfl
theorem cx_86:cx.ty 86=some ⟨1,true,[.pointer none],.struct [(0,1,false)]⟩:=nr rfl
theorem ck_86:cx.kind 86=some (.struct [(0,1,false)]):=nr rfl
theorem cx_87:cx.ty 87=some ⟨1,false,[.pointer none],.ptr⟩:=nr rfl
theorem ck_87:cx.kind 87=some (.ptr):=nr rfl
theorem cx_90:cx.ty 90=some ⟨1,false,[.slice none 0 0],.slice 97 4 48 [.slice none 0 0,.int .i64 0,.int .i64 0,.int .i64 0]⟩:=nr rfl
theorem ck_90:cx.kind 90=some (.slice 97 4 48 [.slice none 0 0,.int .i64 0,.int .i64 0,.int .i64 0]):=nr rfl
theorem ks_90 {e:Nat}{ls:List (List PV)}:lenA cx 90 (.p (.sl e ls))=some ls.length:=nr (len_sl ck_90)
theorem ko_90 {t e:Nat}{ls:List (List PV)}:lenA cx 90 (.own t e ls)=some ls.length:=nr (len_own ck_90)
theorem kn_90 {t e:Nat}{ls:List (List PV)}:lenA cx 90 (.nown t e ls)=some ls.length:=nr (len_nown ck_90)
theorem kz_90:lenA cx 90 (.p (.v (.slice none 0 0)))=some 0:=nr (len_nil ck_90)
theorem km_90 {t e j n:Nat}:lenA cx 90 (.ms t e j n)=some n:=nr (len_ms ck_90)
theorem kb_90 {t e j q n:Nat}:lenA cx 90 (.bs t e j q n)=some n:=nr (len_bs ck_90)
theorem cx_92:cx.ty 92=some ⟨2,true,[.int .i64 0,.slice none 0 0],.struct [(0,1,false),(1,1,false)]⟩:=nr rfl
theorem ck_92:cx.kind 92=some (.struct [(0,1,false),(1,1,false)]):=nr rfl
theorem cx_97:cx.ty 97=some ⟨4,true,[.slice none 0 0,.int .i64 0,.int .i64 0,.int .i64 0],.struct [(0,3,true),(3,1,false)]⟩:=nr rfl
theorem ck_97:cx.kind 97=some (.struct [(0,3,true),(3,1,false)]):=nr rfl
theorem cx_106:cx.ty 106=some ⟨512,true,(zB 512),.barr 512⟩:=nr rfl
theorem ck_106:cx.kind 106=some (.barr 512):=nr rfl
theorem cx_109:cx.ty 109=some ⟨1,false,[.nilFunc],.other⟩:=nr rfl
theorem ck_109:cx.kind 109=some (.other):=nr rfl
theorem cx_116:cx.ty 116=some ⟨1,false,[.int .u64 0],.int .u64⟩:=nr rfl
theorem ck_116:cx.kind 116=some (.int .u64):=nr rfl
theorem cx_118:cx.ty 118=some ⟨2,true,[.int .u64 0,.int .u64 0],.struct [(0,1,false),(1,1,false)]⟩:=nr rfl
theorem ck_118:cx.kind 118=some (.struct [(0,1,false),(1,1,false)]):=nr rfl
theorem cx_120:cx.ty 120=some ⟨5,true,[.pointer none,.int .u64 0,.int .u64 0,.slice none 0 0,.int .i64 0],.struct [(0,1,false),(1,2,true),(3,1,false),(4,1,false)]⟩:=nr rfl
theorem ck_120:cx.kind 120=some (.struct [(0,1,false),(1,2,true),(3,1,false),(4,1,false)]):=nr rfl
theorem cx_122:cx.ty 122=some ⟨64,true,(zB 64),.barr 64⟩:=nr rfl
theorem ck_122:cx.kind 122=some (.barr 64):=nr rfl
theorem cx_129:cx.ty 129=some ⟨513,true,zT513,.struct [(0,1,false),(1,512,true)]⟩:=nr rfl
theorem ck_129:cx.kind 129=some (.struct [(0,1,false),(1,512,true)]):=nr rfl
theorem cx_130:cx.ty 130=some ⟨1,false,[.pointer none],.ptr⟩:=nr rfl
theorem ck_130:cx.kind 130=some (.ptr):=nr rfl
theorem cx_134:cx.ty 134=some ⟨516,true,zT516,.struct [(0,1,false),(1,512,true),(513,1,false),(514,1,false),(515,1,false)]⟩:=nr rfl
theorem ck_134:cx.kind 134=some (.struct [(0,1,false),(1,512,true),(513,1,false),(514,1,false),(515,1,false)]):=nr rfl
theorem cx_139:cx.ty 139=some ⟨1,false,[.nilFunc],.other⟩:=nr rfl
theorem ck_139:cx.kind 139=some (.other):=nr rfl
theorem cx_167:cx.ty 167=some ⟨1,false,[.pointer none],.ptr⟩:=nr rfl
theorem ck_167:cx.kind 167=some (.ptr):=nr rfl
theorem cx_171:cx.ty 171=some ⟨65,true,zT65,.struct [(0,1,false),(1,64,true)]⟩:=nr rfl
theorem ck_171:cx.kind 171=some (.struct [(0,1,false),(1,64,true)]):=nr rfl
theorem cx_180:cx.ty 180=some ⟨1,false,[.nilFunc],.other⟩:=nr rfl
theorem ck_180:cx.kind 180=some (.other):=nr rfl
theorem cx_182:cx.ty 182=some ⟨1,false,[.slice none 0 0],.slice 3 1 8 [.int .i64 0]⟩:=nr rfl
theorem ck_182:cx.kind 182=some (.slice 3 1 8 [.int .i64 0]):=nr rfl
theorem ks_182 {e:Nat}{ls:List (List PV)}:lenA cx 182 (.p (.sl e ls))=some ls.length:=nr (len_sl ck_182)
theorem ko_182 {t e:Nat}{ls:List (List PV)}:lenA cx 182 (.own t e ls)=some ls.length:=nr (len_own ck_182)
theorem kn_182 {t e:Nat}{ls:List (List PV)}:lenA cx 182 (.nown t e ls)=some ls.length:=nr (len_nown ck_182)
theorem kz_182:lenA cx 182 (.p (.v (.slice none 0 0)))=some 0:=nr (len_nil ck_182)
theorem km_182 {t e j n:Nat}:lenA cx 182 (.ms t e j n)=some n:=nr (len_ms ck_182)
theorem kb_182 {t e j q n:Nat}:lenA cx 182 (.bs t e j q n)=some n:=nr (len_bs ck_182)
theorem cx_194:cx.ty 194=some ⟨1,false,[.slice none 0 0],.slice 90 1 24 [.slice none 0 0]⟩:=nr rfl
theorem ck_194:cx.kind 194=some (.slice 90 1 24 [.slice none 0 0]):=nr rfl
theorem ks_194 {e:Nat}{ls:List (List PV)}:lenA cx 194 (.p (.sl e ls))=some ls.length:=nr (len_sl ck_194)
theorem ko_194 {t e:Nat}{ls:List (List PV)}:lenA cx 194 (.own t e ls)=some ls.length:=nr (len_own ck_194)
theorem kn_194 {t e:Nat}{ls:List (List PV)}:lenA cx 194 (.nown t e ls)=some ls.length:=nr (len_nown ck_194)
theorem kz_194:lenA cx 194 (.p (.v (.slice none 0 0)))=some 0:=nr (len_nil ck_194)
theorem km_194 {t e j n:Nat}:lenA cx 194 (.ms t e j n)=some n:=nr (len_ms ck_194)
theorem kb_194 {t e j q n:Nat}:lenA cx 194 (.bs t e j q n)=some n:=nr (len_bs ck_194)
theorem ce_37:cx.eqs 37=some [.int,.int]:=nr rfl
theorem ce_118:cx.eqs 118=some [.int,.int]:=nr rfl
theorem cx_arr:True:=trivial
theorem aa {p q:Prop}(h:p)(k:q):p∧q:=⟨h,k⟩
def T1:=aa ck_1 cx_1
def T2:=aa ck_2 cx_2
def T3:=aa ck_3 cx_3
def T4:=aa ck_4 cx_4
def T5:=aa ck_5 cx_5
def T9:=aa ck_9 cx_9
def T22:=aa ck_22 <| aa cx_22 <| aa @ks_22 <| aa @ko_22 <| aa @kn_22 <| aa @km_22 <| aa @kb_22 kz_22
theorem kp_24 {x:AV}:mkIA cx 24 x=some (.dyn 24 x):=nr (mk_ptr ck_24)
theorem ka_24 {a:AV}:asIA cx 24 false (.dyn 24 a)=some a:=nr (as_ptr ck_24)
def T24:=aa ck_24 <| aa cx_24 <| aa @kp_24 @ka_24
def T25:=aa ck_25 cx_25
theorem kp_28 {x:AV}:mkIA cx 28 x=some (.dyn 28 x):=nr (mk_ptr ck_28)
theorem ka_28 {a:AV}:asIA cx 28 false (.dyn 28 a)=some a:=nr (as_ptr ck_28)
def T28:=aa ck_28 <| aa cx_28 <| aa @kp_28 @ka_28
theorem kp_30 {x:AV}:mkIA cx 30 x=some (.dyn 30 x):=nr (mk_ptr ck_30)
theorem ka_30 {a:AV}:asIA cx 30 false (.dyn 30 a)=some a:=nr (as_ptr ck_30)
def T30:=aa ck_30 <| aa cx_30 <| aa @kp_30 @ka_30
def T35:=aa ck_35 <| aa cx_35 <| aa @ks_35 <| aa @ko_35 <| aa @kn_35 <| aa @km_35 <| aa @kb_35 kz_35
def T37:=aa ck_37 <| aa cx_37 ce_37
def T40:=aa ck_40 <| aa cx_40 <| aa @ks_40 <| aa @ko_40 <| aa @kn_40 <| aa @km_40 <| aa @kb_40 kz_40
def T48:=aa ck_48 cx_48
def T53:=aa ck_53 cx_53
theorem kp_66 {x:AV}:mkIA cx 66 x=some (.dyn 66 x):=nr (mk_ptr ck_66)
theorem ka_66 {a:AV}:asIA cx 66 false (.dyn 66 a)=some a:=nr (as_ptr ck_66)
def T66:=aa ck_66 <| aa cx_66 <| aa @kp_66 @ka_66
def T69:=aa ck_69 cx_69
def T71:=aa ck_71 <| aa cx_71 <| aa @ks_71 <| aa @ko_71 <| aa @kn_71 <| aa @km_71 <| aa @kb_71 kz_71
def T73:=aa ck_73 cx_73
def T74:=aa ck_74 <| aa cx_74 <| aa @ks_74 <| aa @ko_74 <| aa @kn_74 <| aa @km_74 <| aa @kb_74 kz_74
def T78:=aa ck_78 cx_78
def T79:=aa ck_79 <| aa cx_79 <| aa @ks_79 <| aa @ko_79 <| aa @kn_79 <| aa @km_79 <| aa @kb_79 kz_79
def T81:=aa ck_81 cx_81
def T83:=aa ck_83 cx_83
def T86:=aa ck_86 cx_86
theorem kp_87 {x:AV}:mkIA cx 87 x=some (.dyn 87 x):=nr (mk_ptr ck_87)
theorem ka_87 {a:AV}:asIA cx 87 false (.dyn 87 a)=some a:=nr (as_ptr ck_87)
def T87:=aa ck_87 <| aa cx_87 <| aa @kp_87 @ka_87
def T90:=aa ck_90 <| aa cx_90 <| aa @ks_90 <| aa @ko_90 <| aa @kn_90 <| aa @km_90 <| aa @kb_90 kz_90
def T92:=aa ck_92 cx_92
def T97:=aa ck_97 cx_97
theorem kr_106 {t e i o n:Nat}:arrPA cx 106 (.bs t e i o n)=if 512≤n then some (.mp t e i o)else none:=nr (arr_bs ck_106)
theorem kS_106 {x:AV}{lo hi:Option AV}:sliceA cx 106 x lo hi=(match x,boundA lo 0,boundA hi (512:Nat)with
 | .mp t e i o,some l,some h=>if 0≤l∧l<h∧h≤((512:Nat):Int)then some (.bs t e i (o+l.toNat) (h.toNat - l.toNat))else none
 |_,_,_=>none):=nr (slice_arr ck_106)
def T106:=aa ck_106 <| aa cx_106 <| aa @kr_106 @kS_106
def T109:=aa ck_109 cx_109
def T116:=aa ck_116 cx_116
def T118:=aa ck_118 <| aa cx_118 ce_118
def T120:=aa ck_120 cx_120
theorem kr_122 {t e i o n:Nat}:arrPA cx 122 (.bs t e i o n)=if 64≤n then some (.mp t e i o)else none:=nr (arr_bs ck_122)
theorem kS_122 {x:AV}{lo hi:Option AV}:sliceA cx 122 x lo hi=(match x,boundA lo 0,boundA hi (64:Nat)with
 | .mp t e i o,some l,some h=>if 0≤l∧l<h∧h≤((64:Nat):Int)then some (.bs t e i (o+l.toNat) (h.toNat - l.toNat))else none
 |_,_,_=>none):=nr (slice_arr ck_122)
def T122:=aa ck_122 <| aa cx_122 <| aa @kr_122 @kS_122
def T129:=aa ck_129 cx_129
theorem kp_130 {x:AV}:mkIA cx 130 x=some (.dyn 130 x):=nr (mk_ptr ck_130)
theorem ka_130 {a:AV}:asIA cx 130 false (.dyn 130 a)=some a:=nr (as_ptr ck_130)
def T130:=aa ck_130 <| aa cx_130 <| aa @kp_130 @ka_130
def T134:=aa ck_134 cx_134
def T139:=aa ck_139 cx_139
theorem kp_167 {x:AV}:mkIA cx 167 x=some (.dyn 167 x):=nr (mk_ptr ck_167)
theorem ka_167 {a:AV}:asIA cx 167 false (.dyn 167 a)=some a:=nr (as_ptr ck_167)
def T167:=aa ck_167 <| aa cx_167 <| aa @kp_167 @ka_167
def T171:=aa ck_171 cx_171
def T180:=aa ck_180 cx_180
def T182:=aa ck_182 <| aa cx_182 <| aa @ks_182 <| aa @ko_182 <| aa @kn_182 <| aa @km_182 <| aa @kb_182 kz_182
def T194:=aa ck_194 <| aa cx_194 <| aa @ks_194 <| aa @ko_194 <| aa @kn_194 <| aa @km_194 <| aa @kb_194 kz_194
theorem ci_0 {a:AV}{args:List AV}{σ:St}{K:AV→St→Prop}:aInv Tryz.prog cx (.dyn 167 a) "Len" args σ K=recvK Tryz.prog 139 (loadA ⟨1,false,[.slice none 0 0],.slice 130 1 8 [.pointer none]⟩ a σ) args σ K:=nr (inv_val (by kernel_rfl) cx_71)
theorem ci_1 {a:AV}{args:List AV}{σ:St}{K:AV→St→Prop}:aInv Tryz.prog cx (.dyn 167 a) "Less" args σ K=recvK Tryz.prog 140 (loadA ⟨1,false,[.slice none 0 0],.slice 130 1 8 [.pointer none]⟩ a σ) args σ K:=nr (inv_val (by kernel_rfl) cx_71)
theorem ci_2 {a:AV}{args:List AV}{σ:St}{K:AV→St→Prop}:aInv Tryz.prog cx (.dyn 167 a) "Swap" args σ K=recvK Tryz.prog 141 (loadA ⟨1,false,[.slice none 0 0],.slice 130 1 8 [.pointer none]⟩ a σ) args σ K:=nr (inv_val (by kernel_rfl) cx_71)
theorem ci_3 {a:AV}{args:List AV}{σ:St}{K:AV→St→Prop}:aInv Tryz.prog cx (.dyn 167 a) "Pop" args σ K=ACalls Tryz.prog 142 (a::args) σ K:=nr (inv_ptr (by kernel_rfl))
theorem ci_4 {a:AV}{args:List AV}{σ:St}{K:AV→St→Prop}:aInv Tryz.prog cx (.dyn 167 a) "Push" args σ K=ACalls Tryz.prog 143 (a::args) σ K:=nr (inv_ptr (by kernel_rfl))
theorem wX:(type_of% @wBB)∧(type_of% @wBC)∧(type_of% @cx_muts)∧(type_of% @cx_arr)∧(type_of% @wBD)∧(type_of% @wBE)∧(type_of% @ci_0)∧(type_of% @ci_1)∧(type_of% @ci_2)∧(type_of% @ci_3)∧(type_of% @ci_4):=⟨wBB,wBC,cx_muts,cx_arr,wBD,wBE,@ci_0,@ci_1,@ci_2,@ci_3,@ci_4⟩
end Go.Proofs.YtockimhceppkbaaGreat
namespace Go.Proofs.YtockimhceppkbaaGreat
open Go.RowKit
theorem ACalls.of_calls {P:Program}{f:FuncId}{args:List AV}{σ:St}{R:AV→Prop}(hen:Enters P f)
 (h:∀ (M:View) (vs:List Value),Match M σ→ARepL M args vs→Calls P f vs.toArray M.w fun e w'=>∃ (v:Value) (r:AV) (J:Nat→Nat→Prop),e= .returned v∧Below M.w.heap.size M.w w'∧(∀ b o,J b o→M.w.heap.size≤b∧b<w'.heap.size)∧ARep { M with w:=w',I:=fun b o=>M.I b o∨J b o } r v∧R r):
 ACalls P f args σ fun r σ'=>σ'=σ∧R r:=by
 refine⟨hen,fun M vs hM hv=>(h M vs hM hv).mono ?_⟩
 rintro e w' ⟨v,r,J,rfl,hb,hJ,hr,hR⟩
 let M':View:={ M with w:=w',I:=fun b o=>M.I b o∨J b o }
 have hcell:∀ b o,M.I b o→M'.w.cell? ⟨b,o,none⟩=M.w.cell? ⟨b,o,none⟩:=fun b o ho=>hb.cell (p:=⟨b,o,none⟩) (hM.imm b o ho)
 have hL:Later M M':=⟨fun _ _ h h'=>⟨h,h',rfl⟩,own_same (fun _=>rfl) (fun _=>rfl) (fun _=>rfl),fun _ _ h=>.inl h,hcell⟩
 have hI:∀ b o,b<M.w.heap.size→M'.I b o→M.I b o:=fun b o hlt ho=>by
  rcases ho with ho|ho
  ·exact ho
  ·have:=(hJ b o ho).1;omega
 have hE:Ext M σ M' σ:=⟨hL.mu,hL.own,hL.imm,hcell,fun b hlt _=>⟨hb.block b hlt,fun o=>hI b o hlt⟩,fun t ob b h1 h2=>.inr ⟨t,ob,h1,h2⟩,hb.size,hb.os,hb.tape,hb.output⟩
 refine⟨v,r,σ,M',rfl,rfl,hE,?_,hr,Nat.le_refl _,rfl,hR⟩
 refine⟨fun t ob ht=>(hM.obj t ob ht).later hL rfl rfl rfl fun b hbb=>⟨hb.block b (hM.lt t b hbb),fun o=>hI b o (hM.lt t b hbb)⟩,hM.inj,hM.fresh,fun t b hbb=>Nat.lt_of_lt_of_le (hM.lt t b hbb) hb.size,fun b o ho=> ?_,hM.glob.ext hE⟩
 rcases ho with ho|ho
 ·exact Nat.lt_of_lt_of_le (hM.imm b o ho) hb.size
 ·exact (hJ b o ho).2
def byteP (b:UInt8):PV:=.v (.int .u8 b.toNat)
def encB (r:List UInt8):List (List PV):=r.map fun b=>[byteP b]
def BX (x:PV)(r:List UInt8):Prop:=x= .sl 1 (encB r)∨(x= .v (.slice none 0 0)∧r=[])
def pageC (l:List UInt8):List AV:=l.map fun b=>.p (byteP b)
def pageA (l:List UInt8):AV:=.agg (pageC l)
theorem pageC_len (l:List UInt8):(pageC l).length=l.length:=by simp[pageC]
theorem pageC_leaf (l:List UInt8):(pageC l).all leaf=true:=by simp[pageC,leaf]
theorem byteOf_byteP (b:UInt8):byteOfV (.int .u8 b.toNat)=some b:=by
 have h:(b.toNat:Int)<256:=by have:=b.toNat_lt;omega
 simp[byteOfV,h]
theorem bytesOf_page:∀ l:List UInt8,bytesOfA (pageC l)=some l
 |[]=>rfl
 |b::l=>by
  have:=bytesOf_page l
  simp only[pageC,byteP]at this
  simp only[pageC,List.map_cons,bytesOfA,byteOfA,byteP,byteOf_byteP,this]
theorem bytesOf_enc:∀ r:List UInt8,bytesOfR (encB r)=some r
 |[]=>rfl
 |b::r=>by
  have:=bytesOf_enc r
  simp only[encB,byteP]at this
  simp only[encB,List.map_cons,bytesOfR,byteP,byteOf_byteP,this]
def recP:Option (List UInt8)→PV
 |none=>.v (.slice none 0 0)
 |some r=>.sl 1 (encB r)
section
variable {M:View}
theorem pageC_rep {l:List UInt8}{us:List Value}(h:ARepL M (pageC l) us):us=bytesL l:=by
 rw[bytesOfA_rep (bytesOf_page l) h]
 rfl
theorem page_rep {l:List UInt8}{u:Value}(h:ARep M (pageA l) u):u= .agg (bytesA l):=by
 simp only[pageA,ARep]at h
 obtain⟨_,us,rfl,h⟩:=h
 rw[pageC_rep h]
theorem page_mk (l:List UInt8):ARep M (pageA l) (.agg (bytesA l)):=by
 simp only[pageA,ARep]
 refine⟨pageC_leaf l,bytesL l,rfl,ARepL_iff.2 ⟨by simp[pageC,bytesL],fun i x u hx hu=> ?_⟩⟩
 simp only[pageC,bytesL,List.getElem?_map]at hx hu
 cases hl:l[i]? with
 |none=>rw[hl]at hx;simp at hx
 |some b=>
  rw[hl]at hx hu
  simp at hx hu
  subst hx hu
  exact rep_mk rfl
theorem rep1 {a:AV}{vs:List Value}(h:ARepL M [a] vs):∃ u,vs=[u]∧ARep M a u:=by
 simp only[ARepL]at h
 obtain⟨u,us,rfl,h1,rfl⟩:=h
 exact⟨u,rfl,h1⟩
theorem rep2 {a b:AV}{vs:List Value}(h:ARepL M [a,b] vs):∃ u v,vs=[u,v]∧ARep M a u∧ARep M b v:=by
 simp only[ARepL]at h
 obtain⟨u,us,rfl,h1,v,us',rfl,h2,rfl⟩:=h
 exact⟨u,v,rfl,h1,h2⟩
theorem tup2 {a b:AV}{u v:Value}(h1:ARep M a u)(h2:ARep M b v):ARep M (.tup [a,b]) (.tuple #[u,v]):=by
 simp only[ARep,ARepL];exact⟨[u,v],rfl,u,[v],rfl,h1,v,[],rfl,h2,rfl⟩
theorem tup3 {a b c:AV}{u v w:Value}(h1:ARep M a u)(h2:ARep M b v)(h3:ARep M c w):ARep M (.tup [a,b,c]) (.tuple #[u,v,w]):=by
 simp only[ARep,ARepL];exact⟨[u,v,w],rfl,u,[v,w],rfl,h1,v,[w],rfl,h2,w,[],rfl,h3,rfl⟩
theorem bytes_of_cells {w:World}{b off cap:Nat}{r:List UInt8}(h:∀ (j:Nat) (c:UInt8),r[j]? =some c→w.cell? ⟨b,off+j,none⟩=some (.int .u8 c.toNat)):ByteS w (.slice (some ⟨b,off,none⟩) r.length cap) r:=by
 refine⟨some ⟨b,off,none⟩,cap,rfl,.inr ⟨_,rfl,fun j u hj=> ?_⟩⟩
 rw[Addr.add_mid]
 simp only[bytesL,List.getElem?_map]at hj
 cases hc:r[j]? with
 |none=>rw[hc]at hj;simp at hj
 |some c=>rw[hc]at hj;simp at hj;subst hj;exact h j c hc
theorem BX.bytes {x:PV}{r:List UInt8}{u:Value}(h:BX x r)(hu:ARep M (.p x) u):ByteS M.w u r:=by
 rcases h with rfl|⟨rfl,rfl⟩
 ·simp only[ARep,PRep]at hu
  obtain⟨h0,ad,cap,rfl,hn⟩|⟨b,off,cap,rfl,hcap,hr⟩:=hu
  ·have hr0:r=[]:=by simpa [encB]using h0
   subst hr0
   cases ad with
   |none=>exact⟨none,cap,rfl,.inl ⟨rfl,rfl,hn rfl⟩⟩
   |some ad=>exact⟨some ad,cap,rfl,.inr ⟨_,rfl,fun j u hj=>by simp[bytesL]at hj⟩⟩
  rw[show (encB r).length=r.length by simp[encB]]
  refine bytes_of_cells fun j c hc=> ?_
  obtain⟨_,h2⟩:=hr.get (i:=j) (c:=[byteP c]) (by simp[encB,hc])
  obtain⟨v,h3,_,h4⟩:=h2.get (j:=0) rfl
  simp only[byteP,PRep]at h4
  rw[h4.2]at h3
  simpa using h3
 ·have:=(rep_v hu).2;subst this
  exact⟨none,0,rfl,.inl ⟨rfl,rfl,rfl⟩⟩
theorem rec_rep {w':World}{base:Nat}{v:Value}{o:Option (List UInt8)}(h:Rec w' base v o):∃ J:Nat→Nat→Prop,(∀ b q,J b q→base≤b∧b<w'.heap.size)∧ARep { M with w:=w',I:=fun b q=>M.I b q∨J b q } (.p (recP o)) v:=by
 cases o with
 |none=>
  simp only[Rec]at h;subst h
  exact⟨fun _ _=>False,fun _ _ h=>h.elim,rep_mk rfl⟩
 |some r=>
  obtain⟨ho,g,cap,rfl⟩:=h
  rcases ho.2 with⟨h1,_⟩|⟨g',cap',cur,h1,hg,hh,hnc,hcm,hcs,ht⟩
  ·simp at h1
  ·simp only[Value.slice.injEq,Option.some.injEq,Addr.mk.injEq,and_true,true_and]at h1
   obtain⟨rfl,rfl⟩:=h1
   refine⟨fun b q=>b=g∧q<r.length,fun b q h=>⟨by omega,by rw[h.1];exact (Array.getElem?_eq_some_iff.1 hh).1⟩,?_⟩
   simp only[recP,ARep,PRep]
   refine .inr ⟨g,0,cap,by simp[encB],by simpa [encB]using hnc,PRepR.of_get fun i c hc=> ?_⟩
   simp only[encB,List.getElem?_map]at hc
   cases hr:r[i]? with
   |none=>rw[hr]at hc;simp at hc
   |some b=>
    rw[hr]at hc;simp at hc;subst hc
    have hi:=(List.getElem?_eq_some_iff.1 hr).1
    refine⟨rfl,PRepC.of_get fun j x hx=> ?_⟩
    cases j with
    |succ j=>simp at hx
    |zero=>
     simp at hx;subst hx
     refine⟨.int .u8 b.toNat,?_,.inr ⟨rfl,by omega⟩,by simp only[byteP,PRep];exact⟨rfl,trivial⟩⟩
     have:=ho.cells (g:=g) rfl i (.int .u8 b.toNat) (by simp[bytesL,byteV,hr])
     rw[Addr.add_mid]at this
     simpa using this
end
theorem en (f:FuncId)(h:(Tryz.prog.funcs[f]?).any (fun fn=> !(fn.name== "runtime.NumGoroutine")&&fn.body.isSome)=true):Enters Tryz.prog f:=by
 cases hf:Tryz.prog.funcs[f]? with
 |none=>rw[hf]at h;simp at h
 |some fn=>
  rw[hf]at h
  simp only[Option.any_some,Bool.and_eq_true,Bool.not_eq_true']at h
  exact⟨fn,hf,h.1,by cases hb:fn.body<;>simp_all⟩
theorem anew (k:Int)(σ:St):ACalls Tryz.prog 42 [intV .i64 k] σ fun r σ'=>σ'=σ∧r=pageA (newL k):=
 ACalls.of_calls (en _ (by kernel_rfl)) fun M vs hM hv=>by
  obtain⟨u,rfl,h1⟩:=rep1 hv
  rw[rep_int h1]
  exact (new_any k _).mono fun e w' ⟨h1,h2⟩=>⟨_,_,fun _ _=>False,h1,h2,fun _ _ h=>h.elim,page_mk _,rfl⟩
theorem anslots (l:List UInt8)(hl:l.length=512)(σ:St):ACalls Tryz.prog 72 [pageA l] σ fun r σ'=>σ'=σ∧r=intV .i64 ((slotsL l).length:Nat):=
 ACalls.of_calls (en _ (by kernel_rfl)) fun M vs hM hv=>by
  obtain⟨u,rfl,h1⟩:=rep1 hv
  rw[page_rep h1]
  exact (nslots_any l _ hl).mono fun e w' ⟨h1,h2⟩=>⟨_,_,fun _ _=>False,h1,h2,fun _ _ h=>h.elim,rep_mk rfl,rfl⟩
theorem aget (l:List UInt8)(k:Int)(hl:l.length=512)(σ:St):ACalls Tryz.prog 73 [pageA l,intV .i64 k] σ fun r σ'=>σ'=σ∧r= .tup [.p (recP (getL l k)),boolV (getL l k).isSome]:=
 ACalls.of_calls (en _ (by kernel_rfl)) fun M vs hM hv=>by
  obtain⟨u,v,rfl,h1,h2⟩:=rep2 hv
  rw[page_rep h1,rep_int h2]
  refine (get_any l k _ hl).mono ?_
  rintro e w' ⟨v,rfl,hr,hb⟩
  obtain⟨J,h3,h5⟩:=rec_rep (M:=M) hr
  exact⟨_,_,J,rfl,hb,h3,tup2 h5 (rep_mk rfl),rfl⟩
theorem aaddP (l r:List UInt8)(x:PV)(hl:l.length=512)(hx:BX x r)(hrl:r.length≤140737488351232)(σ:St):ACalls Tryz.prog 78 [pageA l,.p x] σ fun r' σ'=>σ'=σ∧r'= .tup [pageA (addL l r).1,intV .i64 (addL l r).2.1,boolV (addL l r).2.2]:=
 ACalls.of_calls (en _ (by kernel_rfl)) fun M vs hM hv=>by
  obtain⟨u,v,rfl,h1,h2⟩:=rep2 hv
  rw[page_rep h1]
  exact (add_any l r v _ hl (hx.bytes h2) hrl).mono fun e w' ⟨h1,h2⟩=>⟨_,_,fun _ _=>False,h1,h2,fun _ _ h=>h.elim,tup3 (page_mk _) (rep_mk rfl) (rep_mk rfl),rfl⟩
theorem bu_len {C:Ctx}{tk:Nat}{T:TypeId}{x:AV}{σ:St}:builtinA C tk .len [T] [x] σ=(lenA C T x).map fun (n:Nat)=>(intV .i64 (n:Int),σ):=nr rfl
theorem ACalls.nilSplit {P:Program}{f:FuncId}{rest:List AV}{σ:St}{R:AV→St→Prop}{e:Nat}(h1:ACalls P f (.p (.v (.slice none 0 0))::rest) σ R)(h2:∀ ad c,ACalls P f (.p (.v (.slice (some ad) 0 c))::rest) σ R):ACalls P f (.p (.sl e [])::rest) σ R:=
 ⟨h1.1,fun M vs hM hv=>by
  simp only[ARepL,ARep,PRep]at hv
  obtain⟨u,us,rfl,hu,hr⟩:=hv
  have key:u= .slice none 0 0∨∃ ad c,u= .slice (some ad) 0 c:=by
   rcases hu with⟨_,ad,c,rfl,h⟩|⟨b,off,c,rfl,_⟩
   ·cases ad with
    |none=>rw[h rfl];exact .inl rfl
    |some ad=>exact .inr ⟨ad,c,rfl⟩
   ·exact .inr ⟨_,c,rfl⟩
  rcases key with rfl|⟨ad,c,rfl⟩
  ·exact h1.2 M _ hM (by simp only[ARepL,ARep,PRep];exact⟨_,_,rfl,⟨rfl,rfl⟩,hr⟩)
  ·exact (h2 ad c).2 M _ hM (by simp only[ARepL,ARep,PRep];exact⟨_,_,rfl,⟨rfl,rfl⟩,hr⟩)⟩
theorem bu_min {C:Ctx}{tk:Nat}{ts:List TypeId}{k k':IntKind}{n m:Int}{σ:St}:builtinA C tk .min ts [.p (.v (.int k n)),.p (.v (.int k' m))] σ=some (intV k (if m<n then m else n),σ):=nr rfl
theorem bu_max {C:Ctx}{tk:Nat}{ts:List TypeId}{k k':IntKind}{n m:Int}{σ:St}:builtinA C tk .max ts [.p (.v (.int k n)),.p (.v (.int k' m))] σ=some (intV k (if m>n then m else n),σ):=nr rfl
theorem wantD_split {P:Program}{C:Ctx}{ops:Array Oper}{b want:Bool}{o:Oper}{p:Plan}{L:List Nat}{fr:List AV}{σ:St}{K:List AV→St→Prop}(h1:b=want→detO P C ops o p L fr σ K)(h2:b= !want→aPl P C ops p L (setA fr o.dst (.tup [])) σ K):wantD P C ops (some (some b)) want o p L fr σ K:=⟨h1,h2⟩
theorem wantU_split {P:Program}{C:Ctx}{ops:Array Oper}{b want:Bool}{o:Oper}{p:Plan}{L:List Nat}{fr:List AV}{σ:St}{K:List AV→St→Prop}(h1:b=want→aStep P C o fr (maskS L σ) (kontU P C ops p L o.dst fr σ K))(h2:b= !want→aPl P C ops p L (setA fr o.dst (.tup [])) σ K):wantU P C ops (some (some b)) want o p L fr σ K:=⟨h1,h2⟩
theorem ret_is {C:Ctx}{fr:List AV}{σ:St}{rs:List ResultVar}{a:AV}{e:Exit}(h2:match resA C rs fr σ with|some r0=>leT σ 0 [] r0 a|none=>False)(h3:tokLt 0 a=true)(h4:frzA a=a)(he:e= .ret∨e= .normal:=by first|exact .inl rfl|exact .inr rfl):
 retA C rs 0 (fun r _=>tokLt 0 (frzA r)=true∧frzA r=a) e fr σ:=by
 split at h2
 ·rename_i r0 h1
  refine⟨he,r0,a,[],h1,.inr ⟨?_,by simp[leS]⟩,Nat.zero_le _,by rw[h4];exact h3,h4⟩
  have:min σ.length ([]:St).length=0:=by simp
  rw[this];exact⟨h2,trivial⟩
 ·exact h2.elim
theorem wbu:type_of% @bu_len∧type_of% @bu_max∧type_of% @bu_min:=⟨@bu_len,@bu_max,@bu_min⟩
theorem wW:type_of% @WeakE.eq_1∧type_of% @Weak.eq_1∧type_of% @setsF.eq_1∧type_of% @setsF.eq_2∧type_of% @setsO.eq_1∧type_of% @setsO.eq_2∧type_of% @St.put.eq_1∧type_of% @leL.eq_1∧type_of% @leL.eq_2∧type_of% @leL.eq_3∧type_of% @leT.eq_1∧type_of% @leM.eq_1∧type_of% @leM.eq_2∧type_of% @leM.eq_3∧type_of% @leG.eq_1∧type_of% @leA.eq_1∧type_of% @leC.eq_1∧type_of% @leC.eq_2∧type_of% @leC.eq_3∧type_of% @leR.eq_1∧type_of% @leR.eq_2∧type_of% @leR.eq_3∧type_of% @leS.eq_1∧type_of% @leS.eq_2∧type_of% @leS.eq_3∧type_of% @leS.eq_4∧type_of% @leS.eq_5∧type_of% @leO.eq_1∧type_of% @leO.eq_2∧type_of% @leO.eq_3∧type_of% @leO.eq_4∧type_of% @leO.eq_5∧type_of% @tokLt.eq_1∧type_of% @tokLt.eq_2∧type_of% @tokLt.eq_3∧type_of% @tokLt.eq_4∧type_of% @tokLt.eq_5∧type_of% @tokLt.eq_6∧type_of% @tokLt.eq_7∧type_of% @tokLt.eq_8∧type_of% @tokLt.eq_9∧type_of% @tokLt.eq_10∧type_of% @tokLtL.eq_1∧type_of% @tokLtL.eq_2∧type_of% @intV.eq_1∧type_of% @boolV.eq_1∧type_of% @leaf.eq_1∧type_of% @leaf.eq_2∧type_of% @leaf.eq_3∧type_of% @leaf.eq_4∧type_of% @leaf.eq_5∧type_of% @leaf.eq_6∧type_of% @leaf.eq_7∧type_of% @leaf.eq_8∧type_of% @nilA.eq_1∧type_of% @nilSl.eq_1:=⟨@WeakE.eq_1,@Weak.eq_1,@setsF.eq_1,@setsF.eq_2,@setsO.eq_1,@setsO.eq_2,@St.put.eq_1,@leL.eq_1,@leL.eq_2,@leL.eq_3,@leT.eq_1,@leM.eq_1,@leM.eq_2,@leM.eq_3,@leG.eq_1,@leA.eq_1,@leC.eq_1,@leC.eq_2,@leC.eq_3,@leR.eq_1,@leR.eq_2,@leR.eq_3,@leS.eq_1,@leS.eq_2,@leS.eq_3,@leS.eq_4,@leS.eq_5,@leO.eq_1,@leO.eq_2,@leO.eq_3,@leO.eq_4,@leO.eq_5,@tokLt.eq_1,@tokLt.eq_2,@tokLt.eq_3,@tokLt.eq_4,@tokLt.eq_5,@tokLt.eq_6,@tokLt.eq_7,@tokLt.eq_8,@tokLt.eq_9,@tokLt.eq_10,@tokLtL.eq_1,@tokLtL.eq_2,@intV.eq_1,@boolV.eq_1,@leaf.eq_1,@leaf.eq_2,@leaf.eq_3,@leaf.eq_4,@leaf.eq_5,@leaf.eq_6,@leaf.eq_7,@leaf.eq_8,@nilA.eq_1,@nilSl.eq_1⟩
theorem wS:type_of% @resA.eq_1∧type_of% @resL.eq_1∧type_of% @resL.eq_2∧type_of% @resV.eq_1∧type_of% @resV.eq_2∧type_of% @leT.eq_1∧type_of% @leG.eq_1∧type_of% @leA.eq_1∧type_of% @leC.eq_1∧type_of% @leC.eq_2∧type_of% @leC.eq_3∧type_of% @leM.eq_1∧type_of% @leM.eq_2∧type_of% @leM.eq_3∧type_of% @leaf.eq_1∧type_of% @leaf.eq_2∧type_of% @leaf.eq_3∧type_of% @leaf.eq_4∧type_of% @leaf.eq_5∧type_of% @leaf.eq_6∧type_of% @leaf.eq_7∧type_of% @leaf.eq_8∧type_of% @tokLt.eq_1∧type_of% @tokLt.eq_2∧type_of% @tokLt.eq_3∧type_of% @tokLt.eq_4∧type_of% @tokLt.eq_5∧type_of% @tokLt.eq_6∧type_of% @tokLt.eq_7∧type_of% @tokLt.eq_8∧type_of% @tokLt.eq_9∧type_of% @tokLt.eq_10∧type_of% @tokLtL.eq_1∧type_of% @tokLtL.eq_2∧type_of% @intV.eq_1∧type_of% @boolV.eq_1∧type_of% @nilA.eq_1∧type_of% @nilSl.eq_1:=⟨@resA.eq_1,@resL.eq_1,@resL.eq_2,@resV.eq_1,@resV.eq_2,@leT.eq_1,@leG.eq_1,@leA.eq_1,@leC.eq_1,@leC.eq_2,@leC.eq_3,@leM.eq_1,@leM.eq_2,@leM.eq_3,@leaf.eq_1,@leaf.eq_2,@leaf.eq_3,@leaf.eq_4,@leaf.eq_5,@leaf.eq_6,@leaf.eq_7,@leaf.eq_8,@tokLt.eq_1,@tokLt.eq_2,@tokLt.eq_3,@tokLt.eq_4,@tokLt.eq_5,@tokLt.eq_6,@tokLt.eq_7,@tokLt.eq_8,@tokLt.eq_9,@tokLt.eq_10,@tokLtL.eq_1,@tokLtL.eq_2,@intV.eq_1,@boolV.eq_1,@nilA.eq_1,@nilSl.eq_1⟩
theorem wR:type_of% @setsF_cons∧type_of% @setsF_nil∧type_of% @setsO_cons∧type_of% @setsO_nil∧type_of% @List.set_cons_zero.{0}∧type_of% @List.set_cons_succ.{0}∧type_of% @List.length_cons.{0}∧type_of% @List.length_nil.{0}∧type_of% @St.put.eq_1∧type_of% @Nat.zero_add∧type_of% @Nat.lt_irrefl∧type_of% @List.cons_append.{0}∧type_of% @List.nil_append.{0}:=⟨@setsF_cons,@setsF_nil,@setsO_cons,@setsO_nil,@List.set_cons_zero.{0},@List.set_cons_succ.{0},@List.length_cons.{0},@List.length_nil.{0},@St.put.eq_1,@Nat.zero_add,@Nat.lt_irrefl,@List.cons_append.{0},@List.nil_append.{0}⟩
theorem cs:type_of% @cond_split:=@cond_split
theorem ws:type_of% @want_split:=@want_split
theorem wd:type_of% @wantD_split:=@wantD_split
theorem wu:type_of% @wantU_split:=@wantU_split
theorem dP {P:Program}{C:Ctx}{ops:Array Oper}{fr:List AV}{σ:St}{K:List AV→St→Prop}(pl:Plan)(n:Nat)(t:Option Tmp)(h0:ops.size=n∧(ops[0]?.bind fun o=>o.dst)=t)(h1:(decide (planLen pl≤ops.size)&&Region.noSelect ops&&planOk C ops pl (Array.replicate ops.size false))=true)(h4:aPl P C ops pl [] fr σ K):aDraw P C ops fr σ K:=by
 simp only[Bool.and_eq_true,decide_eq_true_eq]at h1
 exact⟨pl,h1.1.1,h1.1.2,h1.2,h4⟩
theorem dQ {P:Program}{C:Ctx}{ops:Array Oper}{fr:List AV}{σ:St}{K:List AV→St→Prop}(pl:Plan)(n:Nat)(t:Option Tmp)(h4:aPl P C ops pl [] fr σ K)(h0:ops.size=n∧(ops[0]?.bind fun o=>o.dst)=t:=by decide)(h1:(decide (planLen pl≤ops.size)&&Region.noSelect ops&&planOk C ops pl (Array.replicate ops.size false))=true:=by kernel_rfl):aDraw P C ops fr σ K:=dP pl n t h0 h1 h4
end Go.Proofs.YtockimhceppkbaaGreat
