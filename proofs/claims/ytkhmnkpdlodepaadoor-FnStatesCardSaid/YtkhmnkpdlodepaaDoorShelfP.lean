/- The shelf's contracts of strconv.ParseInt (base 10, 64 bits) and strings.Split at this dump (a part of what the kit's lay-plain wrote; the last one is ours). -/
import Derived.Shelf.Utf8.RuneCount
import Derived.Shelf.Strconv.Itoa0
import Derived.Shelf.Strconv.Itoa1
import Derived.Shelf.LaysM
import Derived.Shelf.Strconv.Itoa2
import Derived.Shelf.Strconv.Itoa3
import Derived.Shelf.Strconv.Itoa4
import Derived.Shelf.Strconv.ParseIntEmpty
import Derived.Shelf.Strconv.Clone
import Derived.Shelf.Strconv.SyntaxError
import Derived.Shelf.LaysC
import Derived.Shelf.Strconv.ToError
import Derived.Shelf.Strconv.Lower
import Derived.Shelf.Strconv.ParseUint10
import Derived.Shelf.Strconv.ParseUint10Empty
import Derived.Shelf.Strconv.ParseUint10Any
import Derived.Shelf.Strconv.ParseInt10
import Derived.Shelf.Strconv.RangeError
import Derived.Shelf.Strconv.ToErrorRange
import Derived.Shelf.Strconv.ParseUintEmpty
import Derived.Shelf.Strconv.ParseUint10b64
import Derived.Shelf.Strconv.ParseUint10b32
import Derived.Shelf.Strconv.ParseUint10b16
import Derived.Shelf.Strconv.ParseUint10b8
import Derived.Shelf.Strconv.ParseUint10At
import Derived.Shelf.Strconv.ParseInt10At64
import Derived.Shelf.Strconv.ParseInt10At32
import Derived.Shelf.Strconv.ParseInt10At16
import Derived.Shelf.Strconv.ParseInt10At8
import Derived.Shelf.Strconv.ParseInt10All
import Derived.Shelf.Strconv.ParseIntPublic10
import Derived.Shelf.Strconv.ErrVarParseInt
import Derived.Shelf.Strings.Search1
import Derived.Shelf.Strings.Search2
import Derived.Shelf.Strings.Search3
import Derived.Shelf.Strings.Count
import Derived.Shelf.Strings.Shaped
import Derived.Shelf.Strings.Split
import Derived.Shelf.Strings.SplitShaped
import Derived.Shelf.Unicode.Decode
import Derived.Shelf.Strings.RuneCount
import Derived.Shelf.Strings.Explode
import Derived.Shelf.Unicode.DecodeSlow
import Derived.Shelf.Unicode.DecodeAny
import Derived.Test.YtkhmnkpdlodepaaDoorProg
namespace Go.Proofs
open Go.Shelf Go.Sort Go.RowKit Go.Lib
def Tryd.laysC174_ren : Go.Shelf.Ren := ⟨fun | 174 => 53 | 247 => 58 | 245 => 59 | 287 => 68 | 279 => 69 | 280 => 70 | 281 => 71 | 282 => 72 | 321 => 83 | 322 => 84 | 316 => 85 | 171 => 87 | 205 => 86 | 243 => 92 | 246 => 54 | 283 => 60 | 284 => 61 | 285 => 62 | 286 => 63 | 129 => 74 | 317 => 73 | 318 => 75 | 319 => 76 | 320 => 77 | 337 => 88 | 338 => 89 | n => n, fun | 9 => 9 | 3 => 3 | 2 => 2 | 75 => 72 | 85 => 73 | 4 => 4 | 167 => 90 | 5 => 5 | 53 => 81 | 175 => 91 | 46 => 75 | 168 => 93 | 37 => 28 | 0 => 0 | 210 => 106 | 21 => 21 | 127 => 115 | 145 => 118 | 143 => 116 | 171 => 80 | 173 => 84 | 212 => 98 | 51 => 99 | 20 => 20 | 213 => 100 | 232 => 119 | 233 => 120 | 80 => 121 | n => n, fun | 15 => 2 | 16 => 3 | 17 => 0 | 18 => 6 | 19 => 7 | n => n⟩

theorem Tryd.laysC174 : Go.Proofs.LaysC.n174 Tryd.prog Tryd.laysC174_ren := {
  mixed := by kernel_rfl
  f129 := Tryd.func74.trans (congrArg some (by kernel_rfl))
  f171 := Tryd.func87.trans (congrArg some (by kernel_rfl))
  f174 := Tryd.func53.trans (congrArg some (by kernel_rfl))
  f205 := Tryd.func86.trans (congrArg some (by kernel_rfl))
  f243 := Tryd.func92.trans (congrArg some (by kernel_rfl))
  f245 := Tryd.func59.trans (congrArg some (by kernel_rfl))
  f246 := Tryd.func54.trans (congrArg some (by kernel_rfl))
  f247 := Tryd.func58.trans (congrArg some (by kernel_rfl))
  f279 := Tryd.func69.trans (congrArg some (by kernel_rfl))
  f280 := Tryd.func70.trans (congrArg some (by kernel_rfl))
  f281 := Tryd.func71.trans (congrArg some (by kernel_rfl))
  f282 := Tryd.func72.trans (congrArg some (by kernel_rfl))
  f283 := Tryd.func60.trans (congrArg some (by kernel_rfl))
  f284 := Tryd.func61.trans (congrArg some (by kernel_rfl))
  f285 := Tryd.func62.trans (congrArg some (by kernel_rfl))
  f286 := Tryd.func63.trans (congrArg some (by kernel_rfl))
  f287 := Tryd.func68.trans (congrArg some (by kernel_rfl))
  f316 := Tryd.func85.trans (congrArg some (by kernel_rfl))
  f317 := Tryd.func73.trans (congrArg some (by kernel_rfl))
  f318 := Tryd.func75.trans (congrArg some (by kernel_rfl))
  f319 := Tryd.func76.trans (congrArg some (by kernel_rfl))
  f320 := Tryd.func77.trans (congrArg some (by kernel_rfl))
  f321 := Tryd.func83.trans (congrArg some (by kernel_rfl))
  f322 := Tryd.func84.trans (congrArg some (by kernel_rfl))
  f337 := Tryd.func88.trans (congrArg some (by kernel_rfl))
  f338 := Tryd.func89.trans (congrArg some (by kernel_rfl))
  t0 := Tryd.underlying0
  a0 := Tryd.isAgg0
  z0 := Tryd.sizeOf0
  v0 := Tryd.zeroValue0
  t2 := Tryd.underlying2
  a2 := Tryd.isAgg2
  z2 := Tryd.sizeOf2
  v2 := Tryd.zeroValue2
  t3 := Tryd.underlying3
  a3 := Tryd.isAgg3
  z3 := Tryd.sizeOf3
  v3 := Tryd.zeroValue3
  t4 := Tryd.underlying4
  a4 := Tryd.isAgg4
  z4 := Tryd.sizeOf4
  v4 := Tryd.zeroValue4
  t5 := Tryd.underlying5
  a5 := Tryd.isAgg5
  z5 := Tryd.sizeOf5
  v5 := Tryd.zeroValue5
  t9 := Tryd.underlying9
  a9 := Tryd.isAgg9
  z9 := Tryd.sizeOf9
  v9 := Tryd.zeroValue9
  t20 := Tryd.underlying20
  a20 := Tryd.isAgg20
  z20 := Tryd.sizeOf20
  v20 := Tryd.zeroValue20
  t21 := Tryd.underlying21
  a21 := Tryd.isAgg21
  z21 := Tryd.sizeOf21
  v21 := Tryd.zeroValue21
  t37 := Tryd.underlying28
  a37 := Tryd.isAgg28
  z37 := Tryd.sizeOf28
  v37 := Tryd.zeroValue28
  t46 := Tryd.underlying75
  a46 := Tryd.isAgg75
  z46 := Tryd.sizeOf75
  v46 := Tryd.zeroValue75
  t51 := Tryd.underlying99
  a51 := Tryd.isAgg99
  z51 := Tryd.sizeOf99
  v51 := Tryd.zeroValue99
  t53 := Tryd.underlying81
  a53 := Tryd.isAgg81
  z53 := Tryd.sizeOf81
  v53 := Tryd.zeroValue81
  t75 := Tryd.underlying72
  a75 := Tryd.isAgg72
  z75 := Tryd.sizeOf72
  v75 := Tryd.zeroValue72
  t85 := Tryd.underlying73
  a85 := Tryd.isAgg73
  z85 := Tryd.sizeOf73
  v85 := Tryd.zeroValue73
  t127 := Tryd.underlying115
  a127 := Tryd.isAgg115
  z127 := Tryd.sizeOf115
  v127 := Tryd.zeroValue115
  t143 := Tryd.underlying116
  a143 := Tryd.isAgg116
  z143 := Tryd.sizeOf116
  v143 := Tryd.zeroValue116
  t145 := Tryd.underlying118
  a145 := Tryd.isAgg118
  z145 := Tryd.sizeOf118
  v145 := Tryd.zeroValue118
  t167 := Tryd.underlying90
  a167 := Tryd.isAgg90
  z167 := Tryd.sizeOf90
  v167 := Tryd.zeroValue90
  t168 := Tryd.underlying93
  a168 := Tryd.isAgg93
  z168 := Tryd.sizeOf93
  v168 := Tryd.zeroValue93
  t171 := Tryd.underlying80
  a171 := Tryd.isAgg80
  z171 := Tryd.sizeOf80
  v171 := Tryd.zeroValue80
  t173 := Tryd.underlying84
  a173 := Tryd.isAgg84
  z173 := Tryd.sizeOf84
  v173 := Tryd.zeroValue84
  t175 := Tryd.underlying91
  a175 := Tryd.isAgg91
  z175 := Tryd.sizeOf91
  v175 := Tryd.zeroValue91
  t210 := Tryd.underlying106
  a210 := Tryd.isAgg106
  z210 := Tryd.sizeOf106
  v210 := Tryd.zeroValue106
  t212 := Tryd.underlying98
  a212 := Tryd.isAgg98
  z212 := Tryd.sizeOf98
  v212 := Tryd.zeroValue98
  t213 := Tryd.underlying100
  a213 := Tryd.isAgg100
  z213 := Tryd.sizeOf100
  t232 := Tryd.underlying119
  a232 := Tryd.isAgg119
  z232 := Tryd.sizeOf119
  v232 := Tryd.zeroValue119
  t233 := Tryd.underlying120
  a233 := Tryd.isAgg120
  z233 := Tryd.sizeOf120
  v233 := Tryd.zeroValue120
  g15 := by kernel_rfl
  g16 := by kernel_rfl
  g17 := by kernel_rfl
  g18 := by kernel_rfl
  g19 := by kernel_rfl
  t80 := Tryd.underlying121
  a80 := Tryd.isAgg121
  z80 := Tryd.sizeOf121
  v80 := Tryd.zeroValue121
  i0 := by kernel_rfl
  i2 := by kernel_rfl
  i3 := by kernel_rfl
  i4 := by kernel_rfl
  i5 := by kernel_rfl
  i9 := by kernel_rfl
  i20 := by kernel_rfl
  i21 := by kernel_rfl
  i37 := by kernel_rfl
  i46 := by kernel_rfl
  i51 := by kernel_rfl
  i53 := by kernel_rfl
  i75 := by kernel_rfl
  i80 := by kernel_rfl
  i85 := by kernel_rfl
  i127 := by kernel_rfl
  i143 := by kernel_rfl
  i145 := by kernel_rfl
  i167 := by kernel_rfl
  i168 := by kernel_rfl
  i171 := by kernel_rfl
  i173 := by kernel_rfl
  i175 := by kernel_rfl
  i210 := by kernel_rfl
  i212 := by kernel_rfl
  i232 := by kernel_rfl
  i233 := by kernel_rfl
  m15 := by kernel_rfl
  m16 := by kernel_rfl
  m17 := by kernel_rfl
  m18 := by kernel_rfl
  m19 := by kernel_rfl
  c0 := by kernel_rfl
  c2 := by kernel_rfl
  c3 := by kernel_rfl
  c4 := by kernel_rfl
  c5 := by kernel_rfl
  c9 := by kernel_rfl
  c20 := by kernel_rfl
  c21 := by kernel_rfl
  c37 := by kernel_rfl
  c46 := by kernel_rfl
  c51 := by kernel_rfl
  c53 := by kernel_rfl
  c75 := by kernel_rfl
  c80 := by kernel_rfl
  c85 := by kernel_rfl
  c127 := by kernel_rfl
  c143 := by kernel_rfl
  c145 := by kernel_rfl
  c167 := by kernel_rfl
  c168 := by kernel_rfl
  c171 := by kernel_rfl
  c173 := by kernel_rfl
  c175 := by kernel_rfl
  c210 := by kernel_rfl
  c212 := by kernel_rfl
  c213 := by kernel_rfl
  c232 := by kernel_rfl
  c233 := by kernel_rfl }

theorem Tryd.strconv_ParseInt_10_at64_ok (s : ByteArray) (hmax : s.size ≤ 9223372036854775806) (v : Int) (h : Lib.parseIntB 64 s.data.toList = .ok v) (w : World) :
    Calls Tryd.prog 53 #[.string s, .int .i64 10, .int .i64 64] w fun e w' => e = .returned (.tuple #[.int .i64 v, .nilIface]) ∧ (w' = w ∨ ∃ t, w' = Lib.bytesWorld w 5 t) := Any.strconv_ParseInt_10_at64_ok Tryd.laysC174 s hmax v h w

def Tryd.laysM146_ren : Go.Shelf.Ren := ⟨fun | 146 => 43 | 221 => 52 | 268 => 55 | 138 => 56 | 143 => 57 | 195 => 64 | 197 => 65 | 218 => 66 | 219 => 67 | 260 => 78 | 217 => 79 | 225 => 80 | 224 => 81 | 267 => 82 | 266 => 90 | 314 => 91 | n => n, fun | 9 => 9 | 31 => 46 | 3 => 3 | 4 => 4 | 0 => 0 | 105 => 87 | 21 => 21 | 5 => 5 | 46 => 75 | 119 => 109 | 139 => 112 | 138 => 111 | 146 => 113 | 51 => 99 | n => n, fun | 1 => 1 | 3 => 4 | 4 => 5 | n => n⟩

theorem Tryd.laysM146 : Go.Proofs.LaysM.n146 Tryd.prog Tryd.laysM146_ren := {
  mixed := by kernel_rfl
  f138 := Tryd.func56.trans (congrArg some (by kernel_rfl))
  f143 := Tryd.func57.trans (congrArg some (by kernel_rfl))
  f146 := Tryd.func43.trans (congrArg some (by kernel_rfl))
  f195 := Tryd.func64.trans (congrArg some (by kernel_rfl))
  f197 := Tryd.func65.trans (congrArg some (by kernel_rfl))
  f217 := Tryd.func79.trans (congrArg some (by kernel_rfl))
  f218 := Tryd.func66.trans (congrArg some (by kernel_rfl))
  f219 := Tryd.func67.trans (congrArg some (by kernel_rfl))
  f221 := Tryd.func52.trans (congrArg some (by kernel_rfl))
  f224 := Tryd.func81.trans (congrArg some (by kernel_rfl))
  f225 := Tryd.func80.trans (congrArg some (by kernel_rfl))
  f260 := Tryd.func78.trans (congrArg some (by kernel_rfl))
  f266 := Tryd.func90.trans (congrArg some (by kernel_rfl))
  f267 := Tryd.func82.trans (congrArg some (by kernel_rfl))
  f268 := Tryd.func55.trans (congrArg some (by kernel_rfl))
  f314 := Tryd.func91.trans (congrArg some (by kernel_rfl))
  t0 := Tryd.underlying0
  a0 := Tryd.isAgg0
  z0 := Tryd.sizeOf0
  v0 := Tryd.zeroValue0
  t3 := Tryd.underlying3
  a3 := Tryd.isAgg3
  z3 := Tryd.sizeOf3
  v3 := Tryd.zeroValue3
  t4 := Tryd.underlying4
  a4 := Tryd.isAgg4
  z4 := Tryd.sizeOf4
  v4 := Tryd.zeroValue4
  t5 := Tryd.underlying5
  a5 := Tryd.isAgg5
  z5 := Tryd.sizeOf5
  v5 := Tryd.zeroValue5
  t9 := Tryd.underlying9
  a9 := Tryd.isAgg9
  z9 := Tryd.sizeOf9
  v9 := Tryd.zeroValue9
  t21 := Tryd.underlying21
  a21 := Tryd.isAgg21
  z21 := Tryd.sizeOf21
  v21 := Tryd.zeroValue21
  t31 := Tryd.underlying46
  a31 := Tryd.isAgg46
  z31 := Tryd.sizeOf46
  v31 := Tryd.zeroValue46
  t46 := Tryd.underlying75
  a46 := Tryd.isAgg75
  z46 := Tryd.sizeOf75
  v46 := Tryd.zeroValue75
  t51 := Tryd.underlying99
  a51 := Tryd.isAgg99
  z51 := Tryd.sizeOf99
  v51 := Tryd.zeroValue99
  t105 := Tryd.underlying87
  a105 := Tryd.isAgg87
  z105 := Tryd.sizeOf87
  v105 := Tryd.zeroValue87
  t119 := Tryd.underlying109
  a119 := Tryd.isAgg109
  z119 := Tryd.sizeOf109
  t138 := Tryd.underlying111
  a138 := Tryd.isAgg111
  z138 := Tryd.sizeOf111
  v138 := Tryd.zeroValue111
  t139 := Tryd.underlying112
  a139 := Tryd.isAgg112
  z139 := Tryd.sizeOf112
  v139 := Tryd.zeroValue112
  t146 := Tryd.underlying113
  a146 := Tryd.isAgg113
  z146 := Tryd.sizeOf113
  v146 := Tryd.zeroValue113
  g1 := by kernel_rfl
  g3 := by kernel_rfl
  g4 := by kernel_rfl
  i0 := by kernel_rfl
  i3 := by kernel_rfl
  i4 := by kernel_rfl
  i5 := by kernel_rfl
  i9 := by kernel_rfl
  i21 := by kernel_rfl
  i31 := by kernel_rfl
  i46 := by kernel_rfl
  i51 := by kernel_rfl
  i105 := by kernel_rfl
  i138 := by kernel_rfl
  i139 := by kernel_rfl
  i146 := by kernel_rfl
  m1 := by kernel_rfl
  s1_3 := fun w h => Go.Proofs.cell_of_shapedOpen_int (zero := #[.int .i64 0]) (t := 3) h (of_decide_eq_true (by kernel_rfl)) (by kernel_rfl) rfl (by kernel_rfl) (by kernel_rfl) Tryd.underlying3
  m3 := by kernel_rfl
  m4 := by kernel_rfl }

theorem Tryd.strings_Split_shaped (s sep : ByteArray) (w : World) (h : w.ShapedOpen Tryd.prog) (hs : s.size < 4294967281) (h1 : 1 ≤ sep.size) :
    Calls Tryd.prog 43 #[.string s, .string sep] w fun e w' =>
      e = .returned (.slice (some ⟨w.heap.size, 0, none⟩) (Lib.countB s sep + 1) (Lib.countB s sep + 1)) ∧ w' = w.alloc (.cells ((Lib.splitB sep 0 (Lib.countB s sep) s).map Value.string).toArray 9) := Any.strings_Split_shaped Tryd.laysM146 s sep w h hs h1
def Tryd.lays146_ren : Go.Shelf.Ren := ⟨fun | 146 => 43 | 221 => 52 | 268 => 55 | 138 => 56 | 143 => 57 | 195 => 64 | 197 => 65 | 218 => 66 | 219 => 67 | 260 => 78 | 217 => 79 | 225 => 80 | 224 => 81 | 267 => 82 | 266 => 90 | 314 => 91 | n => n, fun | 9 => 9 | 31 => 46 | 3 => 3 | 4 => 4 | 0 => 0 | 105 => 87 | 21 => 21 | 5 => 5 | 46 => 75 | 119 => 109 | 139 => 112 | 138 => 111 | 146 => 113 | 51 => 99 | n => n, fun | 1 => 1 | 3 => 4 | 4 => 5 | n => n⟩

theorem Tryd.lays146 : Go.Proofs.Lays.n146 Tryd.prog Tryd.lays146_ren := {
  mixed := by kernel_rfl
  f138 := Tryd.func56.trans (congrArg some (by kernel_rfl))
  f143 := Tryd.func57.trans (congrArg some (by kernel_rfl))
  f146 := Tryd.func43.trans (congrArg some (by kernel_rfl))
  f195 := Tryd.func64.trans (congrArg some (by kernel_rfl))
  f197 := Tryd.func65.trans (congrArg some (by kernel_rfl))
  f217 := Tryd.func79.trans (congrArg some (by kernel_rfl))
  f218 := Tryd.func66.trans (congrArg some (by kernel_rfl))
  f219 := Tryd.func67.trans (congrArg some (by kernel_rfl))
  f221 := Tryd.func52.trans (congrArg some (by kernel_rfl))
  f224 := Tryd.func81.trans (congrArg some (by kernel_rfl))
  f225 := Tryd.func80.trans (congrArg some (by kernel_rfl))
  f260 := Tryd.func78.trans (congrArg some (by kernel_rfl))
  f266 := Tryd.func90.trans (congrArg some (by kernel_rfl))
  f267 := Tryd.func82.trans (congrArg some (by kernel_rfl))
  f268 := Tryd.func55.trans (congrArg some (by kernel_rfl))
  f314 := Tryd.func91.trans (congrArg some (by kernel_rfl))
  t0 := Tryd.underlying0
  a0 := Tryd.isAgg0
  z0 := Tryd.sizeOf0
  v0 := Tryd.zeroValue0
  t3 := Tryd.underlying3
  a3 := Tryd.isAgg3
  z3 := Tryd.sizeOf3
  v3 := Tryd.zeroValue3
  t4 := Tryd.underlying4
  a4 := Tryd.isAgg4
  z4 := Tryd.sizeOf4
  v4 := Tryd.zeroValue4
  t5 := Tryd.underlying5
  a5 := Tryd.isAgg5
  z5 := Tryd.sizeOf5
  v5 := Tryd.zeroValue5
  t9 := Tryd.underlying9
  a9 := Tryd.isAgg9
  z9 := Tryd.sizeOf9
  v9 := Tryd.zeroValue9
  t21 := Tryd.underlying21
  a21 := Tryd.isAgg21
  z21 := Tryd.sizeOf21
  v21 := Tryd.zeroValue21
  t31 := Tryd.underlying46
  a31 := Tryd.isAgg46
  z31 := Tryd.sizeOf46
  v31 := Tryd.zeroValue46
  t46 := Tryd.underlying75
  a46 := Tryd.isAgg75
  z46 := Tryd.sizeOf75
  v46 := Tryd.zeroValue75
  t51 := Tryd.underlying99
  a51 := Tryd.isAgg99
  z51 := Tryd.sizeOf99
  v51 := Tryd.zeroValue99
  t105 := Tryd.underlying87
  a105 := Tryd.isAgg87
  z105 := Tryd.sizeOf87
  v105 := Tryd.zeroValue87
  t119 := Tryd.underlying109
  a119 := Tryd.isAgg109
  z119 := Tryd.sizeOf109
  t138 := Tryd.underlying111
  a138 := Tryd.isAgg111
  z138 := Tryd.sizeOf111
  v138 := Tryd.zeroValue111
  t139 := Tryd.underlying112
  a139 := Tryd.isAgg112
  z139 := Tryd.sizeOf112
  v139 := Tryd.zeroValue112
  t146 := Tryd.underlying113
  a146 := Tryd.isAgg113
  z146 := Tryd.sizeOf113
  v146 := Tryd.zeroValue113
  g1 := by kernel_rfl
  g3 := by kernel_rfl
  g4 := by kernel_rfl }

theorem Tryd.strings_Split (s sep : ByteArray) (m : Int) (w : World) (hs : s.size < 4294967281) (hm : w.cell? ⟨1, 0, none⟩ = some (.int .i64 m)) (h1 : 1 ≤ sep.size) :
    Calls Tryd.prog 43 #[.string s, .string sep] w fun e w' =>
      e = .returned (.slice (some ⟨w.heap.size, 0, none⟩) (Lib.countB s sep + 1) (Lib.countB s sep + 1)) ∧ w' = w.alloc (.cells ((Lib.splitB sep 0 (Lib.countB s sep) s).map Value.string).toArray 9) := Any.strings_Split Tryd.lays146 (by kernel_rfl) s sep m w hs hm h1

theorem Tryd.parse_bad (s : ByteArray) (hlim : s.size ≤ 281474976710656) (h : ∀ v, Lib.parseIntB 64 s.data.toList ≠ .ok v) (tp tp2 : TypeId) (p p2 : Value) (w : World) (hv1 : w.var? Tryd.prog "strconv.ErrSyntax" = some #[.iface tp p]) (hv2 : w.var? Tryd.prog "strconv.ErrRange" = some #[.iface tp2 p2]) :
    Calls Tryd.prog 53 #[.string s, .int .i64 10, .int .i64 64] w fun e w' => ∃ (x : Int) (N : Nat), e = .returned (.tuple #[.int .i64 x, .iface 93 (.pointer (some ⟨N, 0, none⟩))]) ∧ Below w.heap.size w w' := by
  rcases hp : Lib.parseIntB 64 s.data.toList with v | _ | _
  · exact absurd hp (h v)
  · exact (Any.strconv_ParseInt_10_at64_syntax_var Tryd.laysC174 s hlim hp tp p w hv1).mono fun e w' ⟨N, e1, _, _, hb⟩ => ⟨_, N, e1, hb⟩
  · exact (Any.strconv_ParseInt_10_at64_range_var Tryd.laysC174 s hlim hp tp2 p2 w hv2).mono fun e w' ⟨N, e1, _, _, hb⟩ => ⟨_, N, e1, hb⟩

end Go.Proofs
