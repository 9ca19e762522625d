/- Contracts of the shelf laid at this dump, as the kit's tools write them in plain words (laylib.py). -/
import Derived.Shelf.Small.Strs
import Derived.Shelf.Strings.Search1
import Derived.Shelf.Strings.Repeat
import Derived.Test.YtlcppkcclolgcaaProg
namespace Go.Proofs
open Go.Shelf
def Try.lays213_ren : Go.Shelf.Ren := ⟨fun | 213 => 79 | 265 => 88 | n => n, fun | 9 => 9 | 3 => 3 | n => n, fun | n => n⟩
theorem Try.lays213 : Go.Proofs.Lays.n213 Try.prog Try.lays213_ren := {
  mixed := by kernel_rfl
  f213 := Try.func79.trans (congrArg some (by kernel_rfl))
  f265 := Try.func88.trans (congrArg some (by kernel_rfl))
  t3 := Try.underlying3
  a3 := Try.isAgg3
  z3 := Try.sizeOf3
  v3 := Try.zeroValue3
  t9 := Try.underlying9
  a9 := Try.isAgg9
  z9 := Try.sizeOf9
  v9 := Try.zeroValue9 }
open Go.RowKit in
/-- internal/bytealg.CompareString (what strings.Compare calls): IT RETURNS 'Lib.compareBytes a b'; the world is as it was. (LAID: no walk: one application.) -/
theorem Try.bytealg_CompareString (a b : ByteArray) (w : World) :
    Calls Try.prog 79 #[.string a, .string b] w fun e w' => e = .returned (.int .i64 (Lib.compareBytes a.data.toList b.data.toList)) ∧ w' = w := Any.bytealg_CompareString Try.lays213 a b w
def Try.lays106_ren : Go.Shelf.Ren := ⟨fun | 106 => 67 | 213 => 79 | 265 => 88 | n => n, fun | 9 => 9 | 3 => 3 | n => n, fun | n => n⟩
theorem Try.lays106 : Go.Proofs.Lays.n106 Try.prog Try.lays106_ren := {
  mixed := by kernel_rfl
  f106 := Try.func67.trans (congrArg some (by kernel_rfl))
  f213 := Try.func79.trans (congrArg some (by kernel_rfl))
  f265 := Try.func88.trans (congrArg some (by kernel_rfl))
  t3 := Try.underlying3
  a3 := Try.isAgg3
  z3 := Try.sizeOf3
  v3 := Try.zeroValue3
  t9 := Try.underlying9
  a9 := Try.isAgg9
  z9 := Try.sizeOf9
  v9 := Try.zeroValue9 }
open Go.RowKit in
/-- strings.Compare: "Compare returns an integer comparing two strings lexicographically. The result will be 0 if a == b, -1 if a < b, and +1 if a > b.": IT RETURNS 'Lib.compareBytes a b'; the world is as it was. (LAID: no walk: one application.) -/
theorem Try.strings_Compare (a b : ByteArray) (w : World) :
    Calls Try.prog 67 #[.string a, .string b] w fun e w' => e = .returned (.int .i64 (Lib.compareBytes a.data.toList b.data.toList)) ∧ w' = w := Any.strings_Compare Try.lays106 a b w
def Try.lays137_ren : Go.Shelf.Ren := ⟨fun | 137 => 57 | 217 => 65 | 266 => 77 | n => n, fun | 9 => 9 | 5 => 5 | 3 => 3 | n => n, fun | n => n⟩
theorem Try.lays137 : Go.Proofs.Lays.n137 Try.prog Try.lays137_ren := {
  mixed := by kernel_rfl
  f137 := Try.func57.trans (congrArg some (by kernel_rfl))
  f217 := Try.func65.trans (congrArg some (by kernel_rfl))
  f266 := Try.func77.trans (congrArg some (by kernel_rfl))
  t3 := Try.underlying3
  a3 := Try.isAgg3
  z3 := Try.sizeOf3
  v3 := Try.zeroValue3
  t5 := Try.underlying5
  a5 := Try.isAgg5
  z5 := Try.sizeOf5
  v5 := Try.zeroValue5
  t9 := Try.underlying9
  a9 := Try.isAgg9
  z9 := Try.sizeOf9
  v9 := Try.zeroValue9 }
open Go.RowKit in
/-- strings.IndexByte: "IndexByte returns the index of the first instance of c in s, or -1 if c is not present in s.": IT RETURNS 'Lib.indexByte s c'; the world is as it was. (LAID: no walk: one application.) -/
theorem Try.strings_IndexByte (s : ByteArray) (c : Int) (w : World) :
    Calls Try.prog 57 #[.string s, .int .u8 c] w fun e w' => e = .returned (.int .i64 (Lib.indexByte s.data.toList c.toNat.toUInt8)) ∧ w' = w := Any.strings_IndexByte Try.lays137 s c w
def Try.lays105_ren : Go.Shelf.Ren := ⟨fun | 105 => 64 | 212 => 73 | 99 => 74 | 165 => 75 | 166 => 51 | 170 => 76 | 169 => 32 | 263 => 80 | 264 => 81 | 206 => 82 | 240 => 63 | 241 => 83 | 276 => 72 | 277 => 89 | n => n, fun | 9 => 9 | 3 => 3 | 4 => 4 | 20 => 20 | 0 => 0 | 46 => 96 | 109 => 145 | 5 => 5 | 72 => 82 | 76 => 119 | 51 => 148 | 146 => 149 | 53 => 44 | 148 => 151 | 70 => 80 | 37 => 38 | 75 => 118 | 127 => 122 | 164 => 143 | 80 => 87 | n => n, fun | n => n⟩
theorem Try.lays105 : Go.Proofs.Lays.n105 Try.prog Try.lays105_ren := {
  mixed := by kernel_rfl
  f99 := Try.func74.trans (congrArg some (by kernel_rfl))
  f105 := Try.func64.trans (congrArg some (by kernel_rfl))
  f165 := Try.func75.trans (congrArg some (by kernel_rfl))
  f166 := Try.func51.trans (congrArg some (by kernel_rfl))
  f169 := Try.func32.trans (congrArg some (by kernel_rfl))
  f170 := Try.func76.trans (congrArg some (by kernel_rfl))
  f206 := Try.func82.trans (congrArg some (by kernel_rfl))
  f212 := Try.func73.trans (congrArg some (by kernel_rfl))
  f240 := Try.func63.trans (congrArg some (by kernel_rfl))
  f241 := Try.func83.trans (congrArg some (by kernel_rfl))
  f263 := Try.func80.trans (congrArg some (by kernel_rfl))
  f264 := Try.func81.trans (congrArg some (by kernel_rfl))
  f276 := Try.func72.trans (congrArg some (by kernel_rfl))
  f277 := Try.func89.trans (congrArg some (by kernel_rfl))
  t0 := Try.underlying0
  a0 := Try.isAgg0
  z0 := Try.sizeOf0
  v0 := Try.zeroValue0
  t3 := Try.underlying3
  a3 := Try.isAgg3
  z3 := Try.sizeOf3
  v3 := Try.zeroValue3
  t4 := Try.underlying4
  a4 := Try.isAgg4
  z4 := Try.sizeOf4
  v4 := Try.zeroValue4
  t5 := Try.underlying5
  a5 := Try.isAgg5
  z5 := Try.sizeOf5
  v5 := Try.zeroValue5
  t9 := Try.underlying9
  a9 := Try.isAgg9
  z9 := Try.sizeOf9
  v9 := Try.zeroValue9
  t20 := Try.underlying20
  a20 := Try.isAgg20
  z20 := Try.sizeOf20
  v20 := Try.zeroValue20
  t37 := Try.underlying38
  a37 := Try.isAgg38
  z37 := Try.sizeOf38
  v37 := Try.zeroValue38
  t46 := Try.underlying96
  a46 := Try.isAgg96
  z46 := Try.sizeOf96
  v46 := Try.zeroValue96
  t51 := Try.underlying148
  a51 := Try.isAgg148
  z51 := Try.sizeOf148
  v51 := Try.zeroValue148
  t53 := Try.underlying44
  a53 := Try.isAgg44
  z53 := Try.sizeOf44
  v53 := Try.zeroValue44
  t70 := Try.underlying80
  a70 := Try.isAgg80
  z70 := Try.sizeOf80
  v70 := Try.zeroValue80
  t72 := Try.underlying82
  a72 := Try.isAgg82
  z72 := Try.sizeOf82
  v72 := Try.zeroValue82
  t75 := Try.underlying118
  a75 := Try.isAgg118
  z75 := Try.sizeOf118
  v75 := Try.zeroValue118
  t76 := Try.underlying119
  a76 := Try.isAgg119
  z76 := Try.sizeOf119
  v76 := Try.zeroValue119
  t109 := Try.underlying145
  a109 := Try.isAgg145
  z109 := Try.sizeOf145
  v109 := Try.zeroValue145
  t127 := Try.underlying122
  a127 := Try.isAgg122
  z127 := Try.sizeOf122
  v127 := Try.zeroValue122
  t146 := Try.underlying149
  a146 := Try.isAgg149
  z146 := Try.sizeOf149
  v146 := Try.zeroValue149
  t148 := Try.underlying151
  a148 := Try.isAgg151
  z148 := Try.sizeOf151
  v148 := Try.zeroValue151
  t164 := Try.underlying143
  a164 := Try.isAgg143
  z164 := Try.sizeOf143
  v164 := Try.zeroValue143 }
theorem Try.Builder_Extra_105 : Builder.Extra Try.prog Try.lays105_ren := {
  sizeBuilder := by kernel_rfl
  liesBuilder := by kernel_rfl
  t5 := Try.underlying5
  a5 := Try.isAgg5
  z5 := Try.sizeOf5
  v5 := Try.zeroValue5
  infoByte := by kernel_rfl
  cellsByte := by kernel_rfl
  sizeByte := by kernel_rfl
  neB5 := by decide }
open Go.RowKit Go.Lib in
/-- **strings.Repeat: count ≥ 0, the result within one allocation: count copies of s.** (LAID: no walk: one application.) -/
theorem Try.strings_Repeat (s : ByteArray) (c : Nat) (w : World) (hc : c ≤ 9223372036854775807) (hlen : s.size * c ≤ 140737488355328) :
    Calls Try.prog 64 #[.string s, .int .i64 c] w fun e w' => e = .returned (.string ⟨(Lib.repeatL s.data.toList c).toArray⟩) ∧ Below w.heap.size w w' := Any.strings_Repeat Try.lays105 Try.Builder_Extra_105 s c w hc hlen
end Go.Proofs
