/- The shelf's contracts at this program, in plain words (printed by the kit's command). -/
import Derived.Shelf.Strings.Trim
import Derived.Shelf.Small.Utf8
import Derived.Shelf.Small.Strs
import Derived.Shelf.Small.Wraps
import Derived.Shelf.Strconv.Itoa0
import Derived.Shelf.Strconv.Itoa1
import Derived.Shelf.LaysM
import Derived.Shelf.Strconv.Itoa2
import Derived.Shelf.Strconv.Itoa3
import Derived.Shelf.Strings.Search1
import Derived.Shelf.Strings.Prefix
import Derived.Shelf.Strings.Runes
import Derived.Shelf.Strings.AsciiSet
import Derived.Shelf.Unicode.DecodeSlow
import Derived.Test.YtnallbhckeoldaaDoorProg
namespace Go.Proofs
open Go.Shelf
def Tryd.lays162_ren : Go.Shelf.Ren := ⟨fun | 162 => 20 | 232 => 25 | 227 => 26 | 234 => 27 | 236 => 28 | 228 => 31 | 271 => 32 | 151 => 33 | 120 => 38 | 197 => 39 | 152 => 40 | 260 => 46 | 137 => 47 | 119 => 48 | 224 => 49 | 225 => 50 | 217 => 53 | 266 => 54 | n => n, fun | 9 => 9 | 4 => 4 | 3 => 3 | 5 => 5 | 117 => 40 | 116 => 39 | 0 => 0 | 124 => 43 | 21 => 21 | 105 => 47 | 46 => 62 | 119 => 68 | 139 => 71 | 138 => 70 | n => n, fun | 3 => 1 | 4 => 2 | n => n⟩
theorem Tryd.lays162 : Go.Proofs.Lays.n162 Tryd.prog Tryd.lays162_ren := {
  mixed := by kernel_rfl
  f119 := Tryd.func48.trans (congrArg some (by kernel_rfl))
  f120 := Tryd.func38.trans (congrArg some (by kernel_rfl))
  f137 := Tryd.func47.trans (congrArg some (by kernel_rfl))
  f151 := Tryd.func33.trans (congrArg some (by kernel_rfl))
  f152 := Tryd.func40.trans (congrArg some (by kernel_rfl))
  f162 := Tryd.func20.trans (congrArg some (by kernel_rfl))
  f197 := Tryd.func39.trans (congrArg some (by kernel_rfl))
  f217 := Tryd.func53.trans (congrArg some (by kernel_rfl))
  f224 := Tryd.func49.trans (congrArg some (by kernel_rfl))
  f225 := Tryd.func50.trans (congrArg some (by kernel_rfl))
  f227 := Tryd.func26.trans (congrArg some (by kernel_rfl))
  f228 := Tryd.func31.trans (congrArg some (by kernel_rfl))
  f232 := Tryd.func25.trans (congrArg some (by kernel_rfl))
  f234 := Tryd.func27.trans (congrArg some (by kernel_rfl))
  f236 := Tryd.func28.trans (congrArg some (by kernel_rfl))
  f260 := Tryd.func46.trans (congrArg some (by kernel_rfl))
  f266 := Tryd.func54.trans (congrArg some (by kernel_rfl))
  f271 := Tryd.func32.trans (congrArg some (by kernel_rfl))
  t0 := Tryd.underlying0
  a0 := Tryd.isAgg0
  z0 := Tryd.sizeOf0
  v0 := Tryd.zeroValue0
  t3 := Tryd.underlying3
  a3 := Tryd.isAgg3
  z3 := Tryd.sizeOf3
  v3 := Tryd.zeroValue3
  t4 := Tryd.underlying4
  a4 := Tryd.isAgg4
  z4 := Tryd.sizeOf4
  v4 := Tryd.zeroValue4
  t5 := Tryd.underlying5
  a5 := Tryd.isAgg5
  z5 := Tryd.sizeOf5
  v5 := Tryd.zeroValue5
  t9 := Tryd.underlying9
  a9 := Tryd.isAgg9
  z9 := Tryd.sizeOf9
  v9 := Tryd.zeroValue9
  t21 := Tryd.underlying21
  a21 := Tryd.isAgg21
  z21 := Tryd.sizeOf21
  v21 := Tryd.zeroValue21
  t46 := Tryd.underlying62
  a46 := Tryd.isAgg62
  z46 := Tryd.sizeOf62
  v46 := Tryd.zeroValue62
  t105 := Tryd.underlying47
  a105 := Tryd.isAgg47
  z105 := Tryd.sizeOf47
  v105 := Tryd.zeroValue47
  t116 := Tryd.underlying39
  a116 := Tryd.isAgg39
  z116 := Tryd.sizeOf39
  t117 := Tryd.underlying40
  a117 := Tryd.isAgg40
  z117 := Tryd.sizeOf40
  v117 := Tryd.zeroValue40
  t119 := Tryd.underlying68
  a119 := Tryd.isAgg68
  z119 := Tryd.sizeOf68
  t124 := Tryd.underlying43
  a124 := Tryd.isAgg43
  z124 := Tryd.sizeOf43
  v124 := Tryd.zeroValue43
  t138 := Tryd.underlying70
  a138 := Tryd.isAgg70
  z138 := Tryd.sizeOf70
  v138 := Tryd.zeroValue70
  t139 := Tryd.underlying71
  a139 := Tryd.isAgg71
  z139 := Tryd.sizeOf71
  v139 := Tryd.zeroValue71
  g3 := by kernel_rfl
  g4 := by kernel_rfl }
open Go.RowKit in
theorem Tryd.strings_TrimRight_one (s : ByteArray) (c : UInt8) (hc : c.toNat < 128) (w : World) (hs : s.size ≤ 9223372036854775807) :
    Calls Tryd.prog 20 #[.string s, .string ⟨#[c]⟩] w fun e w' => e = .returned (.string ⟨(Lib.trimRightB s.data.toList c).toArray⟩) ∧ w' = w := Any.strings_TrimRight_one Tryd.lays162 s c hc w hs
def Tryd.lays103_ren : Go.Shelf.Ren := ⟨fun | 103 => 16 | 210 => 22 | 206 => 29 | n => n, fun | 9 => 9 | 4 => 4 | 24 => 31 | 3 => 3 | n => n, fun | n => n⟩
theorem Tryd.lays103 : Go.Proofs.Lays.n103 Tryd.prog Tryd.lays103_ren := {
  mixed := by kernel_rfl
  f103 := Tryd.func16.trans (congrArg some (by kernel_rfl))
  f206 := Tryd.func29.trans (congrArg some (by kernel_rfl))
  f210 := Tryd.func22.trans (congrArg some (by kernel_rfl))
  t3 := Tryd.underlying3
  a3 := Tryd.isAgg3
  z3 := Tryd.sizeOf3
  v3 := Tryd.zeroValue3
  t4 := Tryd.underlying4
  a4 := Tryd.isAgg4
  z4 := Tryd.sizeOf4
  v4 := Tryd.zeroValue4
  t9 := Tryd.underlying9
  a9 := Tryd.isAgg9
  z9 := Tryd.sizeOf9
  v9 := Tryd.zeroValue9
  t24 := Tryd.underlying31
  a24 := Tryd.isAgg31
  z24 := Tryd.sizeOf31
  v24 := Tryd.zeroValue31 }
open Go.RowKit in
theorem Tryd.strings_CutPrefix (s p : ByteArray) (w : World) :
    Calls Tryd.prog 16 #[.string s, .string p] w fun e w' => e = .returned (.tuple #[.string ⟨(Lib.trimPrefix s.data.toList p.data.toList).toArray⟩, .bool (Lib.hasPrefix s.data.toList p.data.toList)]) ∧ w' = w := Any.strings_CutPrefix Tryd.lays103 s p w
def Tryd.laysM171_ren : Go.Shelf.Ren := ⟨fun | 171 => 19 | 243 => 24 | 246 => 30 | 283 => 34 | 284 => 35 | 285 => 36 | 286 => 37 | 129 => 42 | 317 => 41 | 318 => 43 | 319 => 44 | 320 => 45 | 337 => 51 | 338 => 52 | n => n, fun | 3 => 3 | 9 => 9 | 2 => 2 | 4 => 4 | 171 => 50 | 0 => 0 | 53 => 51 | 37 => 44 | 5 => 5 | 173 => 54 | 212 => 59 | 51 => 60 | 20 => 20 | 213 => 61 | 46 => 62 | 232 => 72 | 233 => 73 | n => n, fun | 17 => 0 | 18 => 4 | 19 => 5 | n => n⟩
theorem Tryd.laysM171 : Go.Proofs.LaysM.n171 Tryd.prog Tryd.laysM171_ren := {
  mixed := by kernel_rfl
  f129 := Tryd.func42.trans (congrArg some (by kernel_rfl))
  f171 := Tryd.func19.trans (congrArg some (by kernel_rfl))
  f243 := Tryd.func24.trans (congrArg some (by kernel_rfl))
  f246 := Tryd.func30.trans (congrArg some (by kernel_rfl))
  f283 := Tryd.func34.trans (congrArg some (by kernel_rfl))
  f284 := Tryd.func35.trans (congrArg some (by kernel_rfl))
  f285 := Tryd.func36.trans (congrArg some (by kernel_rfl))
  f286 := Tryd.func37.trans (congrArg some (by kernel_rfl))
  f317 := Tryd.func41.trans (congrArg some (by kernel_rfl))
  f318 := Tryd.func43.trans (congrArg some (by kernel_rfl))
  f319 := Tryd.func44.trans (congrArg some (by kernel_rfl))
  f320 := Tryd.func45.trans (congrArg some (by kernel_rfl))
  f337 := Tryd.func51.trans (congrArg some (by kernel_rfl))
  f338 := Tryd.func52.trans (congrArg some (by kernel_rfl))
  t0 := Tryd.underlying0
  a0 := Tryd.isAgg0
  z0 := Tryd.sizeOf0
  v0 := Tryd.zeroValue0
  t2 := Tryd.underlying2
  a2 := Tryd.isAgg2
  z2 := Tryd.sizeOf2
  v2 := Tryd.zeroValue2
  t3 := Tryd.underlying3
  a3 := Tryd.isAgg3
  z3 := Tryd.sizeOf3
  v3 := Tryd.zeroValue3
  t4 := Tryd.underlying4
  a4 := Tryd.isAgg4
  z4 := Tryd.sizeOf4
  v4 := Tryd.zeroValue4
  t5 := Tryd.underlying5
  a5 := Tryd.isAgg5
  z5 := Tryd.sizeOf5
  v5 := Tryd.zeroValue5
  t9 := Tryd.underlying9
  a9 := Tryd.isAgg9
  z9 := Tryd.sizeOf9
  v9 := Tryd.zeroValue9
  t20 := Tryd.underlying20
  a20 := Tryd.isAgg20
  z20 := Tryd.sizeOf20
  v20 := Tryd.zeroValue20
  t37 := Tryd.underlying44
  a37 := Tryd.isAgg44
  z37 := Tryd.sizeOf44
  v37 := Tryd.zeroValue44
  t46 := Tryd.underlying62
  a46 := Tryd.isAgg62
  z46 := Tryd.sizeOf62
  v46 := Tryd.zeroValue62
  t51 := Tryd.underlying60
  a51 := Tryd.isAgg60
  z51 := Tryd.sizeOf60
  v51 := Tryd.zeroValue60
  t53 := Tryd.underlying51
  a53 := Tryd.isAgg51
  z53 := Tryd.sizeOf51
  v53 := Tryd.zeroValue51
  t171 := Tryd.underlying50
  a171 := Tryd.isAgg50
  z171 := Tryd.sizeOf50
  v171 := Tryd.zeroValue50
  t173 := Tryd.underlying54
  a173 := Tryd.isAgg54
  z173 := Tryd.sizeOf54
  v173 := Tryd.zeroValue54
  t212 := Tryd.underlying59
  a212 := Tryd.isAgg59
  z212 := Tryd.sizeOf59
  v212 := Tryd.zeroValue59
  t213 := Tryd.underlying61
  a213 := Tryd.isAgg61
  z213 := Tryd.sizeOf61
  t232 := Tryd.underlying72
  a232 := Tryd.isAgg72
  z232 := Tryd.sizeOf72
  v232 := Tryd.zeroValue72
  t233 := Tryd.underlying73
  a233 := Tryd.isAgg73
  z233 := Tryd.sizeOf73
  v233 := Tryd.zeroValue73
  g17 := by kernel_rfl
  g18 := by kernel_rfl
  g19 := by kernel_rfl
  i0 := by kernel_rfl
  i2 := by kernel_rfl
  i3 := by kernel_rfl
  i4 := by kernel_rfl
  i5 := by kernel_rfl
  i9 := by kernel_rfl
  i20 := by kernel_rfl
  i37 := by kernel_rfl
  i46 := by kernel_rfl
  i51 := by kernel_rfl
  i53 := by kernel_rfl
  i171 := by kernel_rfl
  i173 := by kernel_rfl
  i212 := by kernel_rfl
  i232 := by kernel_rfl
  i233 := by kernel_rfl
  m17 := by kernel_rfl
  m18 := by kernel_rfl
  m19 := by kernel_rfl }
open Go.RowKit Go.Sort Go.Lib in
theorem Tryd.strconv_Itoa (n : Int) (h0 : -9223372036854775808 ≤ n) (h1 : n ≤ 9223372036854775807) (w : World) (htab : Lib.TabIs Tryd.prog w "internal/strconv.uint64pow10" .u64 Lib.pow10Tab) :
    Calls Tryd.prog 19 #[.int .i64 n] w fun e w' => e = .returned (.string ⟨(Lib.itoa n).toArray⟩) ∧ ∃ k os, w' = grow (w.drewN k) os := Any.strconv_Itoa Tryd.laysM171 n h0 h1 w htab
end Go.Proofs
