/- Go's library on the abstract machine: contracts of the kit. -/
import Derived.Shelf.Strings.Builder1
import Derived.Shelf.Strings.Builder2
import Derived.Shelf.Strings.OnBuilder
import Derived.Shelf.Small.Utf8
import Derived.Shelf.Strconv.Itoa0
import Derived.Shelf.Strconv.Itoa1
import Derived.Shelf.LaysM
import Derived.Shelf.Strconv.Itoa2
import Derived.Shelf.Strconv.Itoa3
import Derived.Shelf.Strconv.Itoa4
import Derived.Shelf.Strings.Search1
import Derived.Shelf.Strings.Search2
import Derived.Shelf.Strings.Search3
import Derived.Shelf.Strings.Count
import Derived.Shelf.Strings.Shaped
import Derived.Shelf.Strings.Split
import Derived.Shelf.Strings.Replace
import Derived.Shelf.Unicode.Latin
import Derived.Shelf.Unicode.DecodeSlow
import Derived.Shelf.Unicode.CaseLookup
import Derived.Shelf.Unicode.CaseConvert
import Derived.Shelf.Unicode.CaseTo
import Derived.Shelf.Unicode.CaseLaid
import Derived.Test.YtpcblbbddccgpaaGreatDoorProg
import Derived.Test.YtpcblbbddccgpaaGreatDoorM20
import Derived.Test.YtpcblbbddccgpaaGreatDoorM18
import Derived.Lib.AppendIntMem
import Derived.Lib.ItoaLen
import Derived.Lib.SplitLaws
set_option linter.unusedSimpArgs false
set_option linter.unusedVariables false
set_option linter.defProp false
set_option maxRecDepth 100000
set_option maxHeartbeats 32000000
/-
 DERIVED: THE SHELF's CONTRACTS AT THIS DUMP, IN PLAIN WORDS (tools/lay-plain.mjs out of 'TryzShelf.lean', which tools/lay-shelf.mjs wrote): THE SAME DECLARATIONS UNDER THE SAME NAMES: 'import', 'namespace', 'open', 'def', 'theorem' AND NOTHING ELSE: no command of the shelf's: FOR A HAND-IN. Each laying: the table of numbers ('.._ren') and one theorem, a field a fact of the dump's own or the kernel's comparison; each contract: ONE APPLICATION.
-/
namespace Go.Proofs
open Go.Shelf
def Tryz.lays158_ren : Go.Shelf.Ren := ⟨fun | 158 => 43 | 165 => 56 | 166 => 57 | 167 => 58 | 169 => 59 | 230 => 60 | 203 => 61 | 240 => 72 | 241 => 73 | 197 => 74 | 118 => 75 | 168 => 76 | 270 => 77 | 262 => 78 | 276 => 91 | 277 => 92 | 260 => 93 | 242 => 94 | 313 => 95 | 278 => 104 | 274 => 105 | 275 => 106 | n => n, fun | 9 => 9 | 4 => 4 | 3 => 3 | 5 => 5 | 72 => 87 | 0 => 0 | 76 => 91 | 75 => 90 | 107 => 96 | 70 => 84 | 20 => 20 | 37 => 85 | 127 => 107 | 21 => 21 | 105 => 108 | 164 => 124 | 162 => 130 | 203 => 128 | 119 => 137 | 46 => 71 | 139 => 140 | 138 => 139 | 51 => 120 | 160 => 141 | 208 => 149 | 206 => 147 | 80 => 94 | n => n, fun | 13 => 1 | 3 => 3 | 4 => 4 | n => n⟩
theorem Tryz.lays158 : Go.Proofs.Lays.n158 Tryz.prog Tryz.lays158_ren := {
 mixed := by kernel_rfl
 f118 := Tryz.func75.trans (congrArg some (by kernel_rfl))
 f158 := Tryz.func43.trans (congrArg some (by kernel_rfl))
 f165 := Tryz.func56.trans (congrArg some (by kernel_rfl))
 f166 := Tryz.func57.trans (congrArg some (by kernel_rfl))
 f167 := Tryz.func58.trans (congrArg some (by kernel_rfl))
 f168 := Tryz.func76.trans (congrArg some (by kernel_rfl))
 f169 := Tryz.func59.trans (congrArg some (by kernel_rfl))
 f197 := Tryz.func74.trans (congrArg some (by kernel_rfl))
 f203 := Tryz.func61.trans (congrArg some (by kernel_rfl))
 f230 := Tryz.func60.trans (congrArg some (by kernel_rfl))
 f240 := Tryz.func72.trans (congrArg some (by kernel_rfl))
 f241 := Tryz.func73.trans (congrArg some (by kernel_rfl))
 f242 := Tryz.func94.trans (congrArg some (by kernel_rfl))
 f260 := Tryz.func93.trans (congrArg some (by kernel_rfl))
 f262 := Tryz.func78.trans (congrArg some (by kernel_rfl))
 f270 := Tryz.func77.trans (congrArg some (by kernel_rfl))
 f274 := Tryz.func105.trans (congrArg some (by kernel_rfl))
 f275 := Tryz.func106.trans (congrArg some (by kernel_rfl))
 f276 := Tryz.func91.trans (congrArg some (by kernel_rfl))
 f277 := Tryz.func92.trans (congrArg some (by kernel_rfl))
 f278 := Tryz.func104.trans (congrArg some (by kernel_rfl))
 f313 := Tryz.func95.trans (congrArg some (by kernel_rfl))
 t0 := Tryz.underlying0
 a0 := Tryz.isAgg0
 z0 := Tryz.sizeOf0
 v0 := Tryz.zeroValue0
 t3 := Tryz.underlying3
 a3 := Tryz.isAgg3
 z3 := Tryz.sizeOf3
 v3 := Tryz.zeroValue3
 t4 := Tryz.underlying4
 a4 := Tryz.isAgg4
 z4 := Tryz.sizeOf4
 v4 := Tryz.zeroValue4
 t5 := Tryz.underlying5
 a5 := Tryz.isAgg5
 z5 := Tryz.sizeOf5
 v5 := Tryz.zeroValue5
 t9 := Tryz.underlying9
 a9 := Tryz.isAgg9
 z9 := Tryz.sizeOf9
 v9 := Tryz.zeroValue9
 t20 := Tryz.underlying20
 a20 := Tryz.isAgg20
 z20 := Tryz.sizeOf20
 v20 := Tryz.zeroValue20
 t21 := Tryz.underlying21
 a21 := Tryz.isAgg21
 z21 := Tryz.sizeOf21
 v21 := Tryz.zeroValue21
 t37 := Tryz.underlying85
 a37 := Tryz.isAgg85
 z37 := Tryz.sizeOf85
 v37 := Tryz.zeroValue85
 t46 := Tryz.underlying71
 a46 := Tryz.isAgg71
 z46 := Tryz.sizeOf71
 v46 := Tryz.zeroValue71
 t51 := Tryz.underlying120
 a51 := Tryz.isAgg120
 z51 := Tryz.sizeOf120
 v51 := Tryz.zeroValue120
 t70 := Tryz.underlying84
 a70 := Tryz.isAgg84
 z70 := Tryz.sizeOf84
 v70 := Tryz.zeroValue84
 t72 := Tryz.underlying87
 a72 := Tryz.isAgg87
 z72 := Tryz.sizeOf87
 v72 := Tryz.zeroValue87
 t75 := Tryz.underlying90
 a75 := Tryz.isAgg90
 z75 := Tryz.sizeOf90
 v75 := Tryz.zeroValue90
 t76 := Tryz.underlying91
 a76 := Tryz.isAgg91
 z76 := Tryz.sizeOf91
 v76 := Tryz.zeroValue91
 t105 := Tryz.underlying108
 a105 := Tryz.isAgg108
 z105 := Tryz.sizeOf108
 v105 := Tryz.zeroValue108
 t107 := Tryz.underlying96
 a107 := Tryz.isAgg96
 z107 := Tryz.sizeOf96
 v107 := Tryz.zeroValue96
 t119 := Tryz.underlying137
 a119 := Tryz.isAgg137
 z119 := Tryz.sizeOf137
 t127 := Tryz.underlying107
 a127 := Tryz.isAgg107
 z127 := Tryz.sizeOf107
 v127 := Tryz.zeroValue107
 t138 := Tryz.underlying139
 a138 := Tryz.isAgg139
 z138 := Tryz.sizeOf139
 v138 := Tryz.zeroValue139
 t139 := Tryz.underlying140
 a139 := Tryz.isAgg140
 z139 := Tryz.sizeOf140
 v139 := Tryz.zeroValue140
 t160 := Tryz.underlying141
 a160 := Tryz.isAgg141
 z160 := Tryz.sizeOf141
 v160 := Tryz.zeroValue141
 t162 := Tryz.underlying130
 a162 := Tryz.isAgg130
 z162 := Tryz.sizeOf130
 v162 := Tryz.zeroValue130
 t164 := Tryz.underlying124
 a164 := Tryz.isAgg124
 z164 := Tryz.sizeOf124
 v164 := Tryz.zeroValue124
 t203 := Tryz.underlying128
 a203 := Tryz.isAgg128
 z203 := Tryz.sizeOf128
 v203 := Tryz.zeroValue128
 t206 := Tryz.underlying147
 a206 := Tryz.isAgg147
 z206 := Tryz.sizeOf147
 v206 := Tryz.zeroValue147
 t208 := Tryz.underlying149
 a208 := Tryz.isAgg149
 z208 := Tryz.sizeOf149
 v208 := Tryz.zeroValue149
 g3 := by kernel_rfl
 g4 := by kernel_rfl
 g13 := by kernel_rfl }
theorem Tryz.Builder_Extra_158 : Builder.Extra Tryz.prog Tryz.lays158_ren := {
 sizeBuilder := by kernel_rfl
 liesBuilder := by kernel_rfl
 t5 := Tryz.underlying5
 a5 := Tryz.isAgg5
 z5 := Tryz.sizeOf5
 v5 := Tryz.zeroValue5
 infoByte := by kernel_rfl
 cellsByte := by kernel_rfl
 sizeByte := by kernel_rfl
 neB5 := by decide }
open Go.RowKit in
theorem Tryz.strings_ToUpper_ascii (s : ByteArray) (w : World) (hs : s.size ≤ 140737488355328) (hascii : ∀ (j : Nat) (b : UInt8), s.data.toList[j]? = some b → b.toNat < 128) :
 Calls Tryz.prog 43 #[.string s] w fun e w' => e = .returned (.string ⟨(Lib.toUpperA s.data.toList).toArray⟩) ∧ Below w.heap.size w w' := Any.strings_ToUpper_ascii Tryz.lays158 Tryz.Builder_Extra_158 s w hs hascii
def Tryz.laysM173_ren : Go.Shelf.Ren := ⟨fun | 173 => 42 | 246 => 55 | 283 => 68 | 284 => 69 | 285 => 70 | 286 => 71 | 129 => 87 | 317 => 86 | 318 => 88 | 319 => 89 | 320 => 90 | 337 => 102 | 338 => 103 | n => n, fun | 2 => 2 | 3 => 3 | 9 => 9 | 4 => 4 | 171 => 102 | 0 => 0 | 53 => 82 | 37 => 85 | 5 => 5 | 173 => 105 | 212 => 119 | 51 => 120 | 20 => 20 | 213 => 121 | 46 => 71 | 232 => 144 | 233 => 145 | n => n, fun | 17 => 0 | 18 => 5 | 19 => 6 | n => n⟩
theorem Tryz.laysM173 : Go.Proofs.LaysM.n173 Tryz.prog Tryz.laysM173_ren := {
 mixed := by kernel_rfl
 f129 := Tryz.func87.trans (congrArg some (by kernel_rfl))
 f173 := Tryz.func42.trans (congrArg some (by kernel_rfl))
 f246 := Tryz.func55.trans (congrArg some (by kernel_rfl))
 f283 := Tryz.func68.trans (congrArg some (by kernel_rfl))
 f284 := Tryz.func69.trans (congrArg some (by kernel_rfl))
 f285 := Tryz.func70.trans (congrArg some (by kernel_rfl))
 f286 := Tryz.func71.trans (congrArg some (by kernel_rfl))
 f317 := Tryz.func86.trans (congrArg some (by kernel_rfl))
 f318 := Tryz.func88.trans (congrArg some (by kernel_rfl))
 f319 := Tryz.func89.trans (congrArg some (by kernel_rfl))
 f320 := Tryz.func90.trans (congrArg some (by kernel_rfl))
 f337 := Tryz.func102.trans (congrArg some (by kernel_rfl))
 f338 := Tryz.func103.trans (congrArg some (by kernel_rfl))
 t0 := Tryz.underlying0
 a0 := Tryz.isAgg0
 z0 := Tryz.sizeOf0
 v0 := Tryz.zeroValue0
 t2 := Tryz.underlying2
 a2 := Tryz.isAgg2
 z2 := Tryz.sizeOf2
 v2 := Tryz.zeroValue2
 t3 := Tryz.underlying3
 a3 := Tryz.isAgg3
 z3 := Tryz.sizeOf3
 v3 := Tryz.zeroValue3
 t4 := Tryz.underlying4
 a4 := Tryz.isAgg4
 z4 := Tryz.sizeOf4
 v4 := Tryz.zeroValue4
 t5 := Tryz.underlying5
 a5 := Tryz.isAgg5
 z5 := Tryz.sizeOf5
 v5 := Tryz.zeroValue5
 t9 := Tryz.underlying9
 a9 := Tryz.isAgg9
 z9 := Tryz.sizeOf9
 v9 := Tryz.zeroValue9
 t20 := Tryz.underlying20
 a20 := Tryz.isAgg20
 z20 := Tryz.sizeOf20
 v20 := Tryz.zeroValue20
 t37 := Tryz.underlying85
 a37 := Tryz.isAgg85
 z37 := Tryz.sizeOf85
 v37 := Tryz.zeroValue85
 t46 := Tryz.underlying71
 a46 := Tryz.isAgg71
 z46 := Tryz.sizeOf71
 v46 := Tryz.zeroValue71
 t51 := Tryz.underlying120
 a51 := Tryz.isAgg120
 z51 := Tryz.sizeOf120
 v51 := Tryz.zeroValue120
 t53 := Tryz.underlying82
 a53 := Tryz.isAgg82
 z53 := Tryz.sizeOf82
 v53 := Tryz.zeroValue82
 t171 := Tryz.underlying102
 a171 := Tryz.isAgg102
 z171 := Tryz.sizeOf102
 v171 := Tryz.zeroValue102
 t173 := Tryz.underlying105
 a173 := Tryz.isAgg105
 z173 := Tryz.sizeOf105
 v173 := Tryz.zeroValue105
 t212 := Tryz.underlying119
 a212 := Tryz.isAgg119
 z212 := Tryz.sizeOf119
 v212 := Tryz.zeroValue119
 t213 := Tryz.underlying121
 a213 := Tryz.isAgg121
 z213 := Tryz.sizeOf121
 t232 := Tryz.underlying144
 a232 := Tryz.isAgg144
 z232 := Tryz.sizeOf144
 v232 := Tryz.zeroValue144
 t233 := Tryz.underlying145
 a233 := Tryz.isAgg145
 z233 := Tryz.sizeOf145
 v233 := Tryz.zeroValue145
 g17 := by kernel_rfl
 g18 := by kernel_rfl
 g19 := by kernel_rfl
 i0 := by kernel_rfl
 i2 := by kernel_rfl
 i3 := by kernel_rfl
 i4 := by kernel_rfl
 i5 := by kernel_rfl
 i9 := by kernel_rfl
 i20 := by kernel_rfl
 i37 := by kernel_rfl
 i46 := by kernel_rfl
 i51 := by kernel_rfl
 i53 := by kernel_rfl
 i171 := by kernel_rfl
 i173 := by kernel_rfl
 i212 := by kernel_rfl
 i232 := by kernel_rfl
 i233 := by kernel_rfl
 m17 := by kernel_rfl
 m18 := by kernel_rfl
 m19 := by kernel_rfl }
open Go.RowKit Go.Sort Go.Lib in
theorem Tryz.strconv_FormatInt_10 (n : Int) (h0 : -9223372036854775808 ≤ n) (h1 : n ≤ 9223372036854775807) (w : World) (htab : Lib.TabIs Tryz.prog w "internal/strconv.uint64pow10" .u64 Lib.pow10Tab) :
 Calls Tryz.prog 42 #[.int .i64 n, .int .i64 10] w fun e w' => e = .returned (.string ⟨(Lib.itoa n).toArray⟩) ∧ ∃ k os, w' = grow (w.drewN k) os := Any.strconv_FormatInt_10 Tryz.laysM173 n h0 h1 w htab
def Tryz.lays155_ren : Go.Shelf.Ren := ⟨fun | 155 => 45 | 154 => 63 | 138 => 79 | 165 => 56 | 143 => 80 | 166 => 57 | 197 => 74 | 169 => 59 | 195 => 96 | 218 => 97 | 240 => 72 | 241 => 73 | 219 => 98 | 260 => 93 | 276 => 91 | 277 => 92 | 217 => 107 | 225 => 108 | 224 => 109 | 267 => 110 | 266 => 111 | 314 => 112 | n => n, fun | 9 => 9 | 3 => 3 | 4 => 4 | 72 => 87 | 0 => 0 | 76 => 91 | 105 => 108 | 21 => 21 | 5 => 5 | 70 => 84 | 20 => 20 | 37 => 85 | 75 => 90 | 127 => 107 | 164 => 124 | 46 => 71 | 119 => 137 | 139 => 140 | 138 => 139 | 146 => 150 | 51 => 120 | 80 => 94 | n => n, fun | 1 => 2 | 3 => 3 | 4 => 4 | n => n⟩
theorem Tryz.lays155 : Go.Proofs.Lays.n155 Tryz.prog Tryz.lays155_ren := {
 mixed := by kernel_rfl
 f138 := Tryz.func79.trans (congrArg some (by kernel_rfl))
 f143 := Tryz.func80.trans (congrArg some (by kernel_rfl))
 f154 := Tryz.func63.trans (congrArg some (by kernel_rfl))
 f155 := Tryz.func45.trans (congrArg some (by kernel_rfl))
 f165 := Tryz.func56.trans (congrArg some (by kernel_rfl))
 f166 := Tryz.func57.trans (congrArg some (by kernel_rfl))
 f169 := Tryz.func59.trans (congrArg some (by kernel_rfl))
 f195 := Tryz.func96.trans (congrArg some (by kernel_rfl))
 f197 := Tryz.func74.trans (congrArg some (by kernel_rfl))
 f217 := Tryz.func107.trans (congrArg some (by kernel_rfl))
 f218 := Tryz.func97.trans (congrArg some (by kernel_rfl))
 f219 := Tryz.func98.trans (congrArg some (by kernel_rfl))
 f224 := Tryz.func109.trans (congrArg some (by kernel_rfl))
 f225 := Tryz.func108.trans (congrArg some (by kernel_rfl))
 f240 := Tryz.func72.trans (congrArg some (by kernel_rfl))
 f241 := Tryz.func73.trans (congrArg some (by kernel_rfl))
 f260 := Tryz.func93.trans (congrArg some (by kernel_rfl))
 f266 := Tryz.func111.trans (congrArg some (by kernel_rfl))
 f267 := Tryz.func110.trans (congrArg some (by kernel_rfl))
 f276 := Tryz.func91.trans (congrArg some (by kernel_rfl))
 f277 := Tryz.func92.trans (congrArg some (by kernel_rfl))
 f314 := Tryz.func112.trans (congrArg some (by kernel_rfl))
 t0 := Tryz.underlying0
 a0 := Tryz.isAgg0
 z0 := Tryz.sizeOf0
 v0 := Tryz.zeroValue0
 t3 := Tryz.underlying3
 a3 := Tryz.isAgg3
 z3 := Tryz.sizeOf3
 v3 := Tryz.zeroValue3
 t4 := Tryz.underlying4
 a4 := Tryz.isAgg4
 z4 := Tryz.sizeOf4
 v4 := Tryz.zeroValue4
 t5 := Tryz.underlying5
 a5 := Tryz.isAgg5
 z5 := Tryz.sizeOf5
 v5 := Tryz.zeroValue5
 t9 := Tryz.underlying9
 a9 := Tryz.isAgg9
 z9 := Tryz.sizeOf9
 v9 := Tryz.zeroValue9
 t20 := Tryz.underlying20
 a20 := Tryz.isAgg20
 z20 := Tryz.sizeOf20
 v20 := Tryz.zeroValue20
 t21 := Tryz.underlying21
 a21 := Tryz.isAgg21
 z21 := Tryz.sizeOf21
 v21 := Tryz.zeroValue21
 t37 := Tryz.underlying85
 a37 := Tryz.isAgg85
 z37 := Tryz.sizeOf85
 v37 := Tryz.zeroValue85
 t46 := Tryz.underlying71
 a46 := Tryz.isAgg71
 z46 := Tryz.sizeOf71
 v46 := Tryz.zeroValue71
 t51 := Tryz.underlying120
 a51 := Tryz.isAgg120
 z51 := Tryz.sizeOf120
 v51 := Tryz.zeroValue120
 t70 := Tryz.underlying84
 a70 := Tryz.isAgg84
 z70 := Tryz.sizeOf84
 v70 := Tryz.zeroValue84
 t72 := Tryz.underlying87
 a72 := Tryz.isAgg87
 z72 := Tryz.sizeOf87
 v72 := Tryz.zeroValue87
 t75 := Tryz.underlying90
 a75 := Tryz.isAgg90
 z75 := Tryz.sizeOf90
 v75 := Tryz.zeroValue90
 t76 := Tryz.underlying91
 a76 := Tryz.isAgg91
 z76 := Tryz.sizeOf91
 v76 := Tryz.zeroValue91
 t105 := Tryz.underlying108
 a105 := Tryz.isAgg108
 z105 := Tryz.sizeOf108
 v105 := Tryz.zeroValue108
 t119 := Tryz.underlying137
 a119 := Tryz.isAgg137
 z119 := Tryz.sizeOf137
 t127 := Tryz.underlying107
 a127 := Tryz.isAgg107
 z127 := Tryz.sizeOf107
 v127 := Tryz.zeroValue107
 t138 := Tryz.underlying139
 a138 := Tryz.isAgg139
 z138 := Tryz.sizeOf139
 v138 := Tryz.zeroValue139
 t139 := Tryz.underlying140
 a139 := Tryz.isAgg140
 z139 := Tryz.sizeOf140
 v139 := Tryz.zeroValue140
 t146 := Tryz.underlying150
 a146 := Tryz.isAgg150
 z146 := Tryz.sizeOf150
 v146 := Tryz.zeroValue150
 t164 := Tryz.underlying124
 a164 := Tryz.isAgg124
 z164 := Tryz.sizeOf124
 v164 := Tryz.zeroValue124
 g1 := by kernel_rfl
 g3 := by kernel_rfl
 g4 := by kernel_rfl }
theorem Tryz.Builder_Extra_155 : Builder.Extra Tryz.prog Tryz.lays155_ren := {
 sizeBuilder := by kernel_rfl
 liesBuilder := by kernel_rfl
 t5 := Tryz.underlying5
 a5 := Tryz.isAgg5
 z5 := Tryz.sizeOf5
 v5 := Tryz.zeroValue5
 infoByte := by kernel_rfl
 cellsByte := by kernel_rfl
 sizeByte := by kernel_rfl
 neB5 := by decide }
open Go.RowKit Go.Lib in
theorem Tryz.strings_ReplaceAll (s old new : ByteArray) (m : Int) (w : World) (hs : s.size < 4294967281) (hm : w.cell? ⟨2, 0, none⟩ = some (.int .i64 m)) (h1 : 1 ≤ old.size) (hlen : s.size + Lib.countB s old * new.size ≤ 140737488355328) :
 Calls Tryz.prog 45 #[.string s, .string old, .string new] w fun e w' =>
  e = .returned (.string ⟨(Lib.replaceAll s.data.toList old.data.toList new.data.toList).toArray⟩) ∧ Below w.heap.size w w' := Any.strings_ReplaceAll Tryz.lays155 Tryz.Builder_Extra_155 s old new m w hs hm h1 hlen
end Go.Proofs
namespace Go.Proofs.YtpcblbbddccgpaaGreatDoor
open Go.RowKit
theorem rep_vals {M : View} : ∀ {us vs : List Value}, ARepL M (us.map fun u => AV.p (.v u)) vs → vs = us
 | [], vs, h => by simpa [ARepL] using h
 | u :: us, vs, h => by
   simp only [List.map_cons, ARepL] at h
   obtain ⟨v, vs', rfl, h1, h2⟩ := h
   rw [(rep_v h1).2, rep_vals h2]
theorem ACalls.lib {P : Program} {f : FuncId} {us : List Value} {v : Value} {σ : St} (he : Enters P f) (hp : plain v = true)
 (h : ∀ M : View, Glob M σ → Calls P f us.toArray M.w fun e w' => e = .returned v ∧ Below M.w.heap.size M.w w') : ACalls P f (us.map fun u => .p (.v u)) σ fun r s => s = σ ∧ r = .p (.v v) := by
 refine ⟨he, fun M vs hM hv => ?_⟩
 obtain rfl := rep_vals hv
 refine (h M hM.glob).mono ?_
 rintro e w' ⟨rfl, hb⟩
 have hE : Ext M σ { M with w := w' } σ :=
  ⟨fun _ _ h h' => ⟨h, h'⟩, own_same (fun _ => rfl) (fun _ => rfl) (fun _ => rfl), fun _ _ h => h, fun b o ho => World.cell?_of_block (hb.block b (hM.imm b o ho)), fun b hl _ => ⟨hb.block b hl, fun _ h => h⟩, fun t ob b h1 h2 => .inr ⟨t, ob, h1, h2⟩, hb.size, hb.os, hb.tape, hb.output⟩
 exact ⟨v, .p (.v v), σ, { M with w := w' }, rfl, rfl, hE, ⟨fun t ob ht => (hM.obj t ob ht).later hE.later rfl rfl rfl fun b h => ⟨hb.block b (hM.lt t b h), fun _ h => h⟩, hM.inj, hM.fresh, fun t b h => Nat.lt_of_lt_of_le (hM.lt t b h) hb.size, fun b o h => Nat.lt_of_lt_of_le (hM.imm b o h) hb.size, hM.glob.ext hE⟩, rep_mk hp, Nat.le_refl _, rfl, rfl⟩
def itoaV (n : Int) : ByteArray := ⟨(Lib.itoa n).toArray⟩
def upperV (s : ByteArray) : ByteArray := ⟨(Lib.toUpperA s.data.toList).toArray⟩
def replV (s a b : ByteArray) : ByteArray := ⟨(Lib.replaceAll s.data.toList a.data.toList b.data.toList).toArray⟩
theorem glob_at {M : View} {σ : St} (h : Glob M σ) {g : Nat} {p : Array Value → Prop} (hx : (g, p) ∈ globTab) : ∃ cs T, M.w.heap[g]? = some (.cells cs T (0, 0)) ∧ p cs := by
 obtain ⟨cs, T, h1, h2, _⟩ := h _ hx
 exact ⟨cs, T, h1, h2⟩
theorem glob_pow {M : View} {σ : St} (h : Glob M σ) : Lib.TabIs Tryz.prog M.w "internal/strconv.uint64pow10" .u64 Lib.pow10Tab := by
 obtain ⟨cs, T, h1, rfl⟩ := glob_at h (g := 0) (p := fun cs => cs = (Lib.pow10Tab.map fun z => Value.int .u64 z).toArray) (List.mem_append.2 (.inl (List.mem_append.2 (.inr (List.mem_singleton.2 rfl)))))
 have hg : Tryz.prog.globalNamed "internal/strconv.uint64pow10" = some 0 := by kernel_rfl
 unfold Lib.TabIs World.var?
 rw [hg]
 simp only [Option.bind_some, h1]
theorem aitoa (n : Int) (h0 : -9223372036854775808 ≤ n) (h1 : n ≤ 9223372036854775807) (σ : St) : ACalls Tryz.prog 42 [intV .i64 n, intV .i64 10] σ fun r s => s = σ ∧ r = .p (.v (.string (itoaV n))) :=
 ACalls.lib (us := [.int .i64 n, .int .i64 10]) ⟨_, Tryz.func42, by kernel_rfl, rfl⟩ rfl fun M hG =>
  (Tryz.strconv_FormatInt_10 n h0 h1 M.w (glob_pow hG)).mono fun e w' ⟨he, k, os, hw⟩ => ⟨he, by rw [hw]; exact Lib.below_grow _ _ (Nat.le_refl _) k os⟩
theorem aupper (s : ByteArray) (hs : s.size ≤ 140737488355328) (ha : ∀ (j : Nat) (b : UInt8), s.data.toList[j]? = some b → b.toNat < 128) (σ : St) : ACalls Tryz.prog 43 [.p (.v (.string s))] σ fun r s' => s' = σ ∧ r = .p (.v (.string (upperV s))) :=
 ACalls.lib (us := [.string s]) ⟨_, Tryz.func43, by kernel_rfl, rfl⟩ rfl fun M hG => Tryz.strings_ToUpper_ascii s M.w hs ha
theorem arepl (s a b : ByteArray) (hs : s.size < 4294967281) (h1 : 1 ≤ a.size) (hlen : s.size + Lib.countB s a * b.size ≤ 140737488355328) (σ : St) : ACalls Tryz.prog 45 [.p (.v (.string s)), .p (.v (.string a)), .p (.v (.string b))] σ fun r s' => s' = σ ∧ r = .p (.v (.string (replV s a b))) := by
 refine ACalls.lib (us := [.string s, .string a, .string b]) ⟨_, Tryz.func45, by kernel_rfl, rfl⟩ rfl fun M hG => ?_
 obtain ⟨cs, T, g1, m, rfl⟩ := glob_at hG (g := 2) (p := fun cs => ∃ m, cs = #[.int .i64 m]) (List.mem_append.2 (.inr (List.mem_singleton.2 rfl)))
 exact Tryz.strings_ReplaceAll s a b m M.w hs (by rw [cell_of_row _ _ _ _ _ _ g1]; rfl) h1 hlen
theorem replK_len (o n : List UInt8) : ∀ (k : Nat) (s : List UInt8), (Lib.replaceK o n k s).length ≤ s.length + k * n.length
 | 0, s => by simp [Lib.replaceK]
 | k + 1, s => by
   rw [Lib.replaceK]
   split
   ·omega
   ·have := replK_len o n k (s.drop ((Lib.index s o).toNat + o.length))
    simp only [List.length_append, List.length_take, List.length_drop] at this ⊢
    rw [Nat.succ_mul]
    omega
theorem repl_len (s a b : ByteArray) : (replV s a b).size ≤ s.size + (s.size + 1) * b.size := by
 have hs : ∀ t : ByteArray, t.data.toList.length = t.size := fun t => by rw [Array.length_toList]; rfl
 have h1 := replK_len a.data.toList b.data.toList (Lib.replaceNum s.data.toList a.data.toList (-1)) s.data.toList
 have h2 := Lib.count_le s.data.toList a.data.toList
 have h3 : Lib.replaceNum s.data.toList a.data.toList (-1) ≤ s.size + 1 := by
  unfold Lib.replaceNum
  rw [if_pos (.inl (by omega)), ← hs s]
  exact h2
 have h4 := Nat.mul_le_mul_right b.size h3
 have h5 : (replV s a b).size = (Lib.replaceAll s.data.toList a.data.toList b.data.toList).length := by unfold replV; show (List.toArray _).size = _; rw [List.size_toArray]
 rw [h5, Lib.replaceAll, Lib.replace]
 split
 ·rw [hs]; omega
 ·rw [hs, hs] at h1; omega
end Go.Proofs.YtpcblbbddccgpaaGreatDoor
