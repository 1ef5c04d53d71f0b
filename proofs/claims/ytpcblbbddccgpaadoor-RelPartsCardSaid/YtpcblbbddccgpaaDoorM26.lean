/- Go's library on the abstract machine: contracts of the kit. -/
import Derived.Shelf.Strings.Builder1
import Derived.Shelf.Strings.Builder2
import Derived.Shelf.Strings.OnBuilder
import Derived.Shelf.Small.Utf8
import Derived.Shelf.Strconv.Itoa0
import Derived.Shelf.Strconv.Itoa1
import Derived.Shelf.LaysM
import Derived.Shelf.Strconv.Itoa2
import Derived.Shelf.Strconv.Itoa3
import Derived.Shelf.Strconv.Itoa4
import Derived.Shelf.Strings.Search1
import Derived.Shelf.Strings.Search2
import Derived.Shelf.Strings.Search3
import Derived.Shelf.Strings.Count
import Derived.Shelf.Strings.Shaped
import Derived.Shelf.Strings.Split
import Derived.Shelf.Strings.Replace
import Derived.Shelf.Unicode.Latin
import Derived.Shelf.Unicode.DecodeSlow
import Derived.Shelf.Unicode.CaseLookup
import Derived.Shelf.Unicode.CaseConvert
import Derived.Shelf.Unicode.CaseTo
import Derived.Shelf.Unicode.CaseLaid
import Derived.Test.YtpcblbbddccgpaaDoorProg
import Derived.Test.YtpcblbbddccgpaaDoorM20
import Derived.Test.YtpcblbbddccgpaaDoorM18
import Derived.Lib.AppendIntMem
import Derived.Lib.ItoaLen
import Derived.Lib.SplitLaws
set_option linter.unusedSimpArgs false
set_option linter.unusedVariables false
set_option linter.defProp false
set_option maxRecDepth 100000
set_option maxHeartbeats 32000000
/-
 DERIVED: THE SHELF's CONTRACTS AT THIS DUMP, IN PLAIN WORDS (tools/lay-plain.mjs out of 'TrydShelf.lean', which tools/lay-shelf.mjs wrote): THE SAME DECLARATIONS UNDER THE SAME NAMES: 'import', 'namespace', 'open', 'def', 'theorem' AND NOTHING ELSE: no command of the shelf's: FOR A HAND-IN. Each laying: the table of numbers ('.._ren') and one theorem, a field a fact of the dump's own or the kernel's comparison; each contract: ONE APPLICATION.
-/
namespace Go.Proofs
open Go.Shelf
def Tryd.lays158_ren : Go.Shelf.Ren := ⟨fun | 158 => 38 | 165 => 47 | 166 => 48 | 167 => 49 | 169 => 50 | 230 => 51 | 203 => 52 | 240 => 63 | 241 => 64 | 197 => 65 | 118 => 66 | 168 => 67 | 270 => 68 | 262 => 69 | 276 => 82 | 277 => 83 | 260 => 84 | 242 => 85 | 313 => 86 | 278 => 95 | 274 => 96 | 275 => 97 | n => n, fun | 9 => 9 | 4 => 4 | 3 => 3 | 5 => 5 | 72 => 84 | 0 => 0 | 76 => 88 | 75 => 87 | 107 => 93 | 70 => 81 | 20 => 20 | 37 => 82 | 127 => 105 | 21 => 21 | 105 => 106 | 164 => 122 | 162 => 128 | 203 => 126 | 119 => 135 | 46 => 73 | 139 => 138 | 138 => 137 | 51 => 118 | 160 => 139 | 208 => 147 | 206 => 145 | 80 => 91 | n => n, fun | 13 => 1 | 3 => 3 | 4 => 4 | n => n⟩
theorem Tryd.lays158 : Go.Proofs.Lays.n158 Tryd.prog Tryd.lays158_ren := {
 mixed := by kernel_rfl
 f118 := Tryd.func66.trans (congrArg some (by kernel_rfl))
 f158 := Tryd.func38.trans (congrArg some (by kernel_rfl))
 f165 := Tryd.func47.trans (congrArg some (by kernel_rfl))
 f166 := Tryd.func48.trans (congrArg some (by kernel_rfl))
 f167 := Tryd.func49.trans (congrArg some (by kernel_rfl))
 f168 := Tryd.func67.trans (congrArg some (by kernel_rfl))
 f169 := Tryd.func50.trans (congrArg some (by kernel_rfl))
 f197 := Tryd.func65.trans (congrArg some (by kernel_rfl))
 f203 := Tryd.func52.trans (congrArg some (by kernel_rfl))
 f230 := Tryd.func51.trans (congrArg some (by kernel_rfl))
 f240 := Tryd.func63.trans (congrArg some (by kernel_rfl))
 f241 := Tryd.func64.trans (congrArg some (by kernel_rfl))
 f242 := Tryd.func85.trans (congrArg some (by kernel_rfl))
 f260 := Tryd.func84.trans (congrArg some (by kernel_rfl))
 f262 := Tryd.func69.trans (congrArg some (by kernel_rfl))
 f270 := Tryd.func68.trans (congrArg some (by kernel_rfl))
 f274 := Tryd.func96.trans (congrArg some (by kernel_rfl))
 f275 := Tryd.func97.trans (congrArg some (by kernel_rfl))
 f276 := Tryd.func82.trans (congrArg some (by kernel_rfl))
 f277 := Tryd.func83.trans (congrArg some (by kernel_rfl))
 f278 := Tryd.func95.trans (congrArg some (by kernel_rfl))
 f313 := Tryd.func86.trans (congrArg some (by kernel_rfl))
 t0 := Tryd.underlying0
 a0 := Tryd.isAgg0
 z0 := Tryd.sizeOf0
 v0 := Tryd.zeroValue0
 t3 := Tryd.underlying3
 a3 := Tryd.isAgg3
 z3 := Tryd.sizeOf3
 v3 := Tryd.zeroValue3
 t4 := Tryd.underlying4
 a4 := Tryd.isAgg4
 z4 := Tryd.sizeOf4
 v4 := Tryd.zeroValue4
 t5 := Tryd.underlying5
 a5 := Tryd.isAgg5
 z5 := Tryd.sizeOf5
 v5 := Tryd.zeroValue5
 t9 := Tryd.underlying9
 a9 := Tryd.isAgg9
 z9 := Tryd.sizeOf9
 v9 := Tryd.zeroValue9
 t20 := Tryd.underlying20
 a20 := Tryd.isAgg20
 z20 := Tryd.sizeOf20
 v20 := Tryd.zeroValue20
 t21 := Tryd.underlying21
 a21 := Tryd.isAgg21
 z21 := Tryd.sizeOf21
 v21 := Tryd.zeroValue21
 t37 := Tryd.underlying82
 a37 := Tryd.isAgg82
 z37 := Tryd.sizeOf82
 v37 := Tryd.zeroValue82
 t46 := Tryd.underlying73
 a46 := Tryd.isAgg73
 z46 := Tryd.sizeOf73
 v46 := Tryd.zeroValue73
 t51 := Tryd.underlying118
 a51 := Tryd.isAgg118
 z51 := Tryd.sizeOf118
 v51 := Tryd.zeroValue118
 t70 := Tryd.underlying81
 a70 := Tryd.isAgg81
 z70 := Tryd.sizeOf81
 v70 := Tryd.zeroValue81
 t72 := Tryd.underlying84
 a72 := Tryd.isAgg84
 z72 := Tryd.sizeOf84
 v72 := Tryd.zeroValue84
 t75 := Tryd.underlying87
 a75 := Tryd.isAgg87
 z75 := Tryd.sizeOf87
 v75 := Tryd.zeroValue87
 t76 := Tryd.underlying88
 a76 := Tryd.isAgg88
 z76 := Tryd.sizeOf88
 v76 := Tryd.zeroValue88
 t105 := Tryd.underlying106
 a105 := Tryd.isAgg106
 z105 := Tryd.sizeOf106
 v105 := Tryd.zeroValue106
 t107 := Tryd.underlying93
 a107 := Tryd.isAgg93
 z107 := Tryd.sizeOf93
 v107 := Tryd.zeroValue93
 t119 := Tryd.underlying135
 a119 := Tryd.isAgg135
 z119 := Tryd.sizeOf135
 t127 := Tryd.underlying105
 a127 := Tryd.isAgg105
 z127 := Tryd.sizeOf105
 v127 := Tryd.zeroValue105
 t138 := Tryd.underlying137
 a138 := Tryd.isAgg137
 z138 := Tryd.sizeOf137
 v138 := Tryd.zeroValue137
 t139 := Tryd.underlying138
 a139 := Tryd.isAgg138
 z139 := Tryd.sizeOf138
 v139 := Tryd.zeroValue138
 t160 := Tryd.underlying139
 a160 := Tryd.isAgg139
 z160 := Tryd.sizeOf139
 v160 := Tryd.zeroValue139
 t162 := Tryd.underlying128
 a162 := Tryd.isAgg128
 z162 := Tryd.sizeOf128
 v162 := Tryd.zeroValue128
 t164 := Tryd.underlying122
 a164 := Tryd.isAgg122
 z164 := Tryd.sizeOf122
 v164 := Tryd.zeroValue122
 t203 := Tryd.underlying126
 a203 := Tryd.isAgg126
 z203 := Tryd.sizeOf126
 v203 := Tryd.zeroValue126
 t206 := Tryd.underlying145
 a206 := Tryd.isAgg145
 z206 := Tryd.sizeOf145
 v206 := Tryd.zeroValue145
 t208 := Tryd.underlying147
 a208 := Tryd.isAgg147
 z208 := Tryd.sizeOf147
 v208 := Tryd.zeroValue147
 g3 := by kernel_rfl
 g4 := by kernel_rfl
 g13 := by kernel_rfl }
theorem Tryd.Builder_Extra_158 : Builder.Extra Tryd.prog Tryd.lays158_ren := {
 sizeBuilder := by kernel_rfl
 liesBuilder := by kernel_rfl
 t5 := Tryd.underlying5
 a5 := Tryd.isAgg5
 z5 := Tryd.sizeOf5
 v5 := Tryd.zeroValue5
 infoByte := by kernel_rfl
 cellsByte := by kernel_rfl
 sizeByte := by kernel_rfl
 neB5 := by decide }
open Go.RowKit in
theorem Tryd.strings_ToUpper_ascii (s : ByteArray) (w : World) (hs : s.size ≤ 140737488355328) (hascii : ∀ (j : Nat) (b : UInt8), s.data.toList[j]? = some b → b.toNat < 128) :
 Calls Tryd.prog 38 #[.string s] w fun e w' => e = .returned (.string ⟨(Lib.toUpperA s.data.toList).toArray⟩) ∧ Below w.heap.size w w' := Any.strings_ToUpper_ascii Tryd.lays158 Tryd.Builder_Extra_158 s w hs hascii
def Tryd.laysM173_ren : Go.Shelf.Ren := ⟨fun | 173 => 37 | 246 => 46 | 283 => 59 | 284 => 60 | 285 => 61 | 286 => 62 | 129 => 78 | 317 => 77 | 318 => 79 | 319 => 80 | 320 => 81 | 337 => 93 | 338 => 94 | n => n, fun | 2 => 2 | 3 => 3 | 9 => 9 | 4 => 4 | 171 => 99 | 0 => 0 | 53 => 100 | 37 => 82 | 5 => 5 | 173 => 103 | 212 => 117 | 51 => 118 | 20 => 20 | 213 => 119 | 46 => 73 | 232 => 142 | 233 => 143 | n => n, fun | 17 => 0 | 18 => 5 | 19 => 6 | n => n⟩
theorem Tryd.laysM173 : Go.Proofs.LaysM.n173 Tryd.prog Tryd.laysM173_ren := {
 mixed := by kernel_rfl
 f129 := Tryd.func78.trans (congrArg some (by kernel_rfl))
 f173 := Tryd.func37.trans (congrArg some (by kernel_rfl))
 f246 := Tryd.func46.trans (congrArg some (by kernel_rfl))
 f283 := Tryd.func59.trans (congrArg some (by kernel_rfl))
 f284 := Tryd.func60.trans (congrArg some (by kernel_rfl))
 f285 := Tryd.func61.trans (congrArg some (by kernel_rfl))
 f286 := Tryd.func62.trans (congrArg some (by kernel_rfl))
 f317 := Tryd.func77.trans (congrArg some (by kernel_rfl))
 f318 := Tryd.func79.trans (congrArg some (by kernel_rfl))
 f319 := Tryd.func80.trans (congrArg some (by kernel_rfl))
 f320 := Tryd.func81.trans (congrArg some (by kernel_rfl))
 f337 := Tryd.func93.trans (congrArg some (by kernel_rfl))
 f338 := Tryd.func94.trans (congrArg some (by kernel_rfl))
 t0 := Tryd.underlying0
 a0 := Tryd.isAgg0
 z0 := Tryd.sizeOf0
 v0 := Tryd.zeroValue0
 t2 := Tryd.underlying2
 a2 := Tryd.isAgg2
 z2 := Tryd.sizeOf2
 v2 := Tryd.zeroValue2
 t3 := Tryd.underlying3
 a3 := Tryd.isAgg3
 z3 := Tryd.sizeOf3
 v3 := Tryd.zeroValue3
 t4 := Tryd.underlying4
 a4 := Tryd.isAgg4
 z4 := Tryd.sizeOf4
 v4 := Tryd.zeroValue4
 t5 := Tryd.underlying5
 a5 := Tryd.isAgg5
 z5 := Tryd.sizeOf5
 v5 := Tryd.zeroValue5
 t9 := Tryd.underlying9
 a9 := Tryd.isAgg9
 z9 := Tryd.sizeOf9
 v9 := Tryd.zeroValue9
 t20 := Tryd.underlying20
 a20 := Tryd.isAgg20
 z20 := Tryd.sizeOf20
 v20 := Tryd.zeroValue20
 t37 := Tryd.underlying82
 a37 := Tryd.isAgg82
 z37 := Tryd.sizeOf82
 v37 := Tryd.zeroValue82
 t46 := Tryd.underlying73
 a46 := Tryd.isAgg73
 z46 := Tryd.sizeOf73
 v46 := Tryd.zeroValue73
 t51 := Tryd.underlying118
 a51 := Tryd.isAgg118
 z51 := Tryd.sizeOf118
 v51 := Tryd.zeroValue118
 t53 := Tryd.underlying100
 a53 := Tryd.isAgg100
 z53 := Tryd.sizeOf100
 v53 := Tryd.zeroValue100
 t171 := Tryd.underlying99
 a171 := Tryd.isAgg99
 z171 := Tryd.sizeOf99
 v171 := Tryd.zeroValue99
 t173 := Tryd.underlying103
 a173 := Tryd.isAgg103
 z173 := Tryd.sizeOf103
 v173 := Tryd.zeroValue103
 t212 := Tryd.underlying117
 a212 := Tryd.isAgg117
 z212 := Tryd.sizeOf117
 v212 := Tryd.zeroValue117
 t213 := Tryd.underlying119
 a213 := Tryd.isAgg119
 z213 := Tryd.sizeOf119
 t232 := Tryd.underlying142
 a232 := Tryd.isAgg142
 z232 := Tryd.sizeOf142
 v232 := Tryd.zeroValue142
 t233 := Tryd.underlying143
 a233 := Tryd.isAgg143
 z233 := Tryd.sizeOf143
 v233 := Tryd.zeroValue143
 g17 := by kernel_rfl
 g18 := by kernel_rfl
 g19 := by kernel_rfl
 i0 := by kernel_rfl
 i2 := by kernel_rfl
 i3 := by kernel_rfl
 i4 := by kernel_rfl
 i5 := by kernel_rfl
 i9 := by kernel_rfl
 i20 := by kernel_rfl
 i37 := by kernel_rfl
 i46 := by kernel_rfl
 i51 := by kernel_rfl
 i53 := by kernel_rfl
 i171 := by kernel_rfl
 i173 := by kernel_rfl
 i212 := by kernel_rfl
 i232 := by kernel_rfl
 i233 := by kernel_rfl
 m17 := by kernel_rfl
 m18 := by kernel_rfl
 m19 := by kernel_rfl }
open Go.RowKit Go.Sort Go.Lib in
theorem Tryd.strconv_FormatInt_10 (n : Int) (h0 : -9223372036854775808 ≤ n) (h1 : n ≤ 9223372036854775807) (w : World) (htab : Lib.TabIs Tryd.prog w "internal/strconv.uint64pow10" .u64 Lib.pow10Tab) :
 Calls Tryd.prog 37 #[.int .i64 n, .int .i64 10] w fun e w' => e = .returned (.string ⟨(Lib.itoa n).toArray⟩) ∧ ∃ k os, w' = grow (w.drewN k) os := Any.strconv_FormatInt_10 Tryd.laysM173 n h0 h1 w htab
def Tryd.lays155_ren : Go.Shelf.Ren := ⟨fun | 155 => 40 | 154 => 54 | 138 => 70 | 165 => 47 | 143 => 71 | 166 => 48 | 197 => 65 | 169 => 50 | 195 => 87 | 218 => 88 | 240 => 63 | 241 => 64 | 219 => 89 | 260 => 84 | 276 => 82 | 277 => 83 | 217 => 98 | 225 => 99 | 224 => 100 | 267 => 101 | 266 => 102 | 314 => 103 | n => n, fun | 9 => 9 | 3 => 3 | 4 => 4 | 72 => 84 | 0 => 0 | 76 => 88 | 105 => 106 | 21 => 21 | 5 => 5 | 70 => 81 | 20 => 20 | 37 => 82 | 75 => 87 | 127 => 105 | 164 => 122 | 46 => 73 | 119 => 135 | 139 => 138 | 138 => 137 | 146 => 148 | 51 => 118 | 80 => 91 | n => n, fun | 1 => 2 | 3 => 3 | 4 => 4 | n => n⟩
theorem Tryd.lays155 : Go.Proofs.Lays.n155 Tryd.prog Tryd.lays155_ren := {
 mixed := by kernel_rfl
 f138 := Tryd.func70.trans (congrArg some (by kernel_rfl))
 f143 := Tryd.func71.trans (congrArg some (by kernel_rfl))
 f154 := Tryd.func54.trans (congrArg some (by kernel_rfl))
 f155 := Tryd.func40.trans (congrArg some (by kernel_rfl))
 f165 := Tryd.func47.trans (congrArg some (by kernel_rfl))
 f166 := Tryd.func48.trans (congrArg some (by kernel_rfl))
 f169 := Tryd.func50.trans (congrArg some (by kernel_rfl))
 f195 := Tryd.func87.trans (congrArg some (by kernel_rfl))
 f197 := Tryd.func65.trans (congrArg some (by kernel_rfl))
 f217 := Tryd.func98.trans (congrArg some (by kernel_rfl))
 f218 := Tryd.func88.trans (congrArg some (by kernel_rfl))
 f219 := Tryd.func89.trans (congrArg some (by kernel_rfl))
 f224 := Tryd.func100.trans (congrArg some (by kernel_rfl))
 f225 := Tryd.func99.trans (congrArg some (by kernel_rfl))
 f240 := Tryd.func63.trans (congrArg some (by kernel_rfl))
 f241 := Tryd.func64.trans (congrArg some (by kernel_rfl))
 f260 := Tryd.func84.trans (congrArg some (by kernel_rfl))
 f266 := Tryd.func102.trans (congrArg some (by kernel_rfl))
 f267 := Tryd.func101.trans (congrArg some (by kernel_rfl))
 f276 := Tryd.func82.trans (congrArg some (by kernel_rfl))
 f277 := Tryd.func83.trans (congrArg some (by kernel_rfl))
 f314 := Tryd.func103.trans (congrArg some (by kernel_rfl))
 t0 := Tryd.underlying0
 a0 := Tryd.isAgg0
 z0 := Tryd.sizeOf0
 v0 := Tryd.zeroValue0
 t3 := Tryd.underlying3
 a3 := Tryd.isAgg3
 z3 := Tryd.sizeOf3
 v3 := Tryd.zeroValue3
 t4 := Tryd.underlying4
 a4 := Tryd.isAgg4
 z4 := Tryd.sizeOf4
 v4 := Tryd.zeroValue4
 t5 := Tryd.underlying5
 a5 := Tryd.isAgg5
 z5 := Tryd.sizeOf5
 v5 := Tryd.zeroValue5
 t9 := Tryd.underlying9
 a9 := Tryd.isAgg9
 z9 := Tryd.sizeOf9
 v9 := Tryd.zeroValue9
 t20 := Tryd.underlying20
 a20 := Tryd.isAgg20
 z20 := Tryd.sizeOf20
 v20 := Tryd.zeroValue20
 t21 := Tryd.underlying21
 a21 := Tryd.isAgg21
 z21 := Tryd.sizeOf21
 v21 := Tryd.zeroValue21
 t37 := Tryd.underlying82
 a37 := Tryd.isAgg82
 z37 := Tryd.sizeOf82
 v37 := Tryd.zeroValue82
 t46 := Tryd.underlying73
 a46 := Tryd.isAgg73
 z46 := Tryd.sizeOf73
 v46 := Tryd.zeroValue73
 t51 := Tryd.underlying118
 a51 := Tryd.isAgg118
 z51 := Tryd.sizeOf118
 v51 := Tryd.zeroValue118
 t70 := Tryd.underlying81
 a70 := Tryd.isAgg81
 z70 := Tryd.sizeOf81
 v70 := Tryd.zeroValue81
 t72 := Tryd.underlying84
 a72 := Tryd.isAgg84
 z72 := Tryd.sizeOf84
 v72 := Tryd.zeroValue84
 t75 := Tryd.underlying87
 a75 := Tryd.isAgg87
 z75 := Tryd.sizeOf87
 v75 := Tryd.zeroValue87
 t76 := Tryd.underlying88
 a76 := Tryd.isAgg88
 z76 := Tryd.sizeOf88
 v76 := Tryd.zeroValue88
 t105 := Tryd.underlying106
 a105 := Tryd.isAgg106
 z105 := Tryd.sizeOf106
 v105 := Tryd.zeroValue106
 t119 := Tryd.underlying135
 a119 := Tryd.isAgg135
 z119 := Tryd.sizeOf135
 t127 := Tryd.underlying105
 a127 := Tryd.isAgg105
 z127 := Tryd.sizeOf105
 v127 := Tryd.zeroValue105
 t138 := Tryd.underlying137
 a138 := Tryd.isAgg137
 z138 := Tryd.sizeOf137
 v138 := Tryd.zeroValue137
 t139 := Tryd.underlying138
 a139 := Tryd.isAgg138
 z139 := Tryd.sizeOf138
 v139 := Tryd.zeroValue138
 t146 := Tryd.underlying148
 a146 := Tryd.isAgg148
 z146 := Tryd.sizeOf148
 v146 := Tryd.zeroValue148
 t164 := Tryd.underlying122
 a164 := Tryd.isAgg122
 z164 := Tryd.sizeOf122
 v164 := Tryd.zeroValue122
 g1 := by kernel_rfl
 g3 := by kernel_rfl
 g4 := by kernel_rfl }
theorem Tryd.Builder_Extra_155 : Builder.Extra Tryd.prog Tryd.lays155_ren := {
 sizeBuilder := by kernel_rfl
 liesBuilder := by kernel_rfl
 t5 := Tryd.underlying5
 a5 := Tryd.isAgg5
 z5 := Tryd.sizeOf5
 v5 := Tryd.zeroValue5
 infoByte := by kernel_rfl
 cellsByte := by kernel_rfl
 sizeByte := by kernel_rfl
 neB5 := by decide }
open Go.RowKit Go.Lib in
theorem Tryd.strings_ReplaceAll (s old new : ByteArray) (m : Int) (w : World) (hs : s.size < 4294967281) (hm : w.cell? ⟨2, 0, none⟩ = some (.int .i64 m)) (h1 : 1 ≤ old.size) (hlen : s.size + Lib.countB s old * new.size ≤ 140737488355328) :
 Calls Tryd.prog 40 #[.string s, .string old, .string new] w fun e w' =>
  e = .returned (.string ⟨(Lib.replaceAll s.data.toList old.data.toList new.data.toList).toArray⟩) ∧ Below w.heap.size w w' := Any.strings_ReplaceAll Tryd.lays155 Tryd.Builder_Extra_155 s old new m w hs hm h1 hlen
end Go.Proofs
namespace Go.Proofs.YtpcblbbddccgpaaDoor
open Go.RowKit
theorem rep_vals {M : View} : ∀ {us vs : List Value}, ARepL M (us.map fun u => AV.p (.v u)) vs → vs = us
 | [], vs, h => by simpa [ARepL] using h
 | u :: us, vs, h => by
   simp only [List.map_cons, ARepL] at h
   obtain ⟨v, vs', rfl, h1, h2⟩ := h
   rw [(rep_v h1).2, rep_vals h2]
theorem ACalls.lib {P : Program} {f : FuncId} {us : List Value} {v : Value} {σ : St} (he : Enters P f) (hp : plain v = true)
 (h : ∀ M : View, Glob M σ → Calls P f us.toArray M.w fun e w' => e = .returned v ∧ Below M.w.heap.size M.w w') : ACalls P f (us.map fun u => .p (.v u)) σ fun r s => s = σ ∧ r = .p (.v v) := by
 refine ⟨he, fun M vs hM hv => ?_⟩
 obtain rfl := rep_vals hv
 refine (h M hM.glob).mono ?_
 rintro e w' ⟨rfl, hb⟩
 have hE : Ext M σ { M with w := w' } σ :=
  ⟨fun _ _ h h' => ⟨h, h', rfl⟩, own_same (fun _ => rfl) (fun _ => rfl) (fun _ => rfl), fun _ _ h => h, fun b o ho => World.cell?_of_block (hb.block b (hM.imm b o ho)), fun b hl _ => ⟨hb.block b hl, fun _ h => h⟩, fun t ob b h1 h2 => .inr ⟨t, ob, h1, h2⟩, hb.size, hb.os, hb.tape, hb.output⟩
 exact ⟨v, .p (.v v), σ, { M with w := w' }, rfl, rfl, hE, ⟨fun t ob ht => (hM.obj t ob ht).later hE.later rfl rfl rfl fun b h => ⟨hb.block b (hM.lt t b h), fun _ h => h⟩, hM.inj, hM.fresh, fun t b h => Nat.lt_of_lt_of_le (hM.lt t b h) hb.size, fun b o h => Nat.lt_of_lt_of_le (hM.imm b o h) hb.size, hM.glob.ext hE⟩, rep_mk hp, Nat.le_refl _, rfl, rfl⟩
def itoaV (n : Int) : ByteArray := ⟨(Lib.itoa n).toArray⟩
def upperV (s : ByteArray) : ByteArray := ⟨(Lib.toUpperA s.data.toList).toArray⟩
def replV (s a b : ByteArray) : ByteArray := ⟨(Lib.replaceAll s.data.toList a.data.toList b.data.toList).toArray⟩
theorem glob_at {M : View} {σ : St} (h : Glob M σ) {g : Nat} {p : Array Value → Prop} (hx : (g, p) ∈ globTab) : ∃ cs T, M.w.heap[g]? = some (.cells cs T (0, 0)) ∧ p cs := by
 obtain ⟨cs, T, h1, h2, _⟩ := h _ hx
 exact ⟨cs, T, h1, h2⟩
theorem glob_pow {M : View} {σ : St} (h : Glob M σ) : Lib.TabIs Tryd.prog M.w "internal/strconv.uint64pow10" .u64 Lib.pow10Tab := by
 obtain ⟨cs, T, h1, rfl⟩ := glob_at h (g := 0) (p := fun cs => cs = (Lib.pow10Tab.map fun z => Value.int .u64 z).toArray) (List.mem_append.2 (.inl (List.mem_append.2 (.inr (List.mem_singleton.2 rfl)))))
 have hg : Tryd.prog.globalNamed "internal/strconv.uint64pow10" = some 0 := by kernel_rfl
 unfold Lib.TabIs World.var?
 rw [hg]
 simp only [Option.bind_some, h1]
theorem aitoa (n : Int) (h0 : -9223372036854775808 ≤ n) (h1 : n ≤ 9223372036854775807) (σ : St) : ACalls Tryd.prog 37 [intV .i64 n, intV .i64 10] σ fun r s => s = σ ∧ r = .p (.v (.string (itoaV n))) :=
 ACalls.lib (us := [.int .i64 n, .int .i64 10]) ⟨_, Tryd.func37, by kernel_rfl, rfl⟩ rfl fun M hG =>
  (Tryd.strconv_FormatInt_10 n h0 h1 M.w (glob_pow hG)).mono fun e w' ⟨he, k, os, hw⟩ => ⟨he, by rw [hw]; exact Lib.below_grow _ _ (Nat.le_refl _) k os⟩
theorem aupper (s : ByteArray) (hs : s.size ≤ 140737488355328) (ha : ∀ (j : Nat) (b : UInt8), s.data.toList[j]? = some b → b.toNat < 128) (σ : St) : ACalls Tryd.prog 38 [.p (.v (.string s))] σ fun r s' => s' = σ ∧ r = .p (.v (.string (upperV s))) :=
 ACalls.lib (us := [.string s]) ⟨_, Tryd.func38, by kernel_rfl, rfl⟩ rfl fun M hG => Tryd.strings_ToUpper_ascii s M.w hs ha
theorem arepl (s a b : ByteArray) (hs : s.size < 4294967281) (h1 : 1 ≤ a.size) (hlen : s.size + Lib.countB s a * b.size ≤ 140737488355328) (σ : St) : ACalls Tryd.prog 40 [.p (.v (.string s)), .p (.v (.string a)), .p (.v (.string b))] σ fun r s' => s' = σ ∧ r = .p (.v (.string (replV s a b))) := by
 refine ACalls.lib (us := [.string s, .string a, .string b]) ⟨_, Tryd.func40, by kernel_rfl, rfl⟩ rfl fun M hG => ?_
 obtain ⟨cs, T, g1, m, rfl⟩ := glob_at hG (g := 2) (p := fun cs => ∃ m, cs = #[.int .i64 m]) (List.mem_append.2 (.inr (List.mem_singleton.2 rfl)))
 exact Tryd.strings_ReplaceAll s a b m M.w hs (by rw [cell_of_row _ _ _ _ _ _ g1]; rfl) h1 hlen
theorem replK_len (o n : List UInt8) : ∀ (k : Nat) (s : List UInt8), (Lib.replaceK o n k s).length ≤ s.length + k * n.length
 | 0, s => by simp [Lib.replaceK]
 | k + 1, s => by
   rw [Lib.replaceK]
   split
   ·omega
   ·have := replK_len o n k (s.drop ((Lib.index s o).toNat + o.length))
    simp only [List.length_append, List.length_take, List.length_drop] at this ⊢
    rw [Nat.succ_mul]
    omega
theorem repl_len (s a b : ByteArray) : (replV s a b).size ≤ s.size + (s.size + 1) * b.size := by
 have hs : ∀ t : ByteArray, t.data.toList.length = t.size := fun t => by rw [Array.length_toList]; rfl
 have h1 := replK_len a.data.toList b.data.toList (Lib.replaceNum s.data.toList a.data.toList (-1)) s.data.toList
 have h2 := Lib.count_le s.data.toList a.data.toList
 have h3 : Lib.replaceNum s.data.toList a.data.toList (-1) ≤ s.size + 1 := by
  unfold Lib.replaceNum
  rw [if_pos (.inl (by omega)), ← hs s]
  exact h2
 have h4 := Nat.mul_le_mul_right b.size h3
 have h5 : (replV s a b).size = (Lib.replaceAll s.data.toList a.data.toList b.data.toList).length := by unfold replV; show (List.toArray _).size = _; rw [List.size_toArray]
 rw [h5, Lib.replaceAll, Lib.replace]
 split
 ·rw [hs]; omega
 ·rw [hs, hs] at h1; omega
end Go.Proofs.YtpcblbbddccgpaaDoor
