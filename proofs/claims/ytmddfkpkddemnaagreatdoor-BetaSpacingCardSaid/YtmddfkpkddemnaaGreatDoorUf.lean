/-
  DERIVED: THE SHELF's CONTRACTS AT THIS DUMP, IN PLAIN WORDS (tools/lay-plain.mjs out of 'YtmddfkpkddemnaaGreatDoorShelf.lean', which tools/lay-shelf.mjs wrote): THE SAME DECLARATIONS UNDER THE SAME NAMES: 'import', 'namespace', 'open', 'def', 'theorem' AND NOTHING ELSE: no command of the shelf's: FOR A HAND-IN. Each laying: the table of numbers ('.._ren') and one theorem, a field a fact of the dump's own or the kernel's comparison; each contract: ONE APPLICATION.
-/
import Derived.Shelf.Utf8.RuneCount
import Derived.Shelf.Strconv.Itoa0
import Derived.Shelf.Strconv.Itoa1
import Derived.Shelf.LaysM
import Derived.Shelf.Strconv.Itoa2
import Derived.Shelf.Strconv.Itoa3
import Derived.Shelf.Strings.Search1
import Derived.Shelf.Strings.Search2
import Derived.Shelf.Strings.Search3
import Derived.Shelf.Strings.Cut
import Derived.Shelf.Strings.Count
import Derived.Shelf.Strings.Shaped
import Derived.Shelf.Strconv.AppendUint10
import Derived.Shelf.Strings.Split
import Derived.Shelf.Strings.SplitShaped
import Derived.Shelf.Unicode.Decode
import Derived.Shelf.Strings.RuneCount
import Derived.Shelf.Strings.Explode
import Derived.Shelf.Unicode.DecodeSlow
import Derived.Shelf.Unicode.DecodeAny
import Derived.Ground.SlgfProg
import Derived.Shelf.SlicesQ.IndexFunc
import Derived.Test.YtmddfkpkddemnaaGreatDoorProg
namespace Go.Proofs
open Go.Shelf
def Tryz.laysM171_ren : Go.Shelf.Ren := ⟨fun | 171 => 206 | 243 => 216 | 246 => 226 | 283 => 212 | 284 => 213 | 285 => 214 | 286 => 215 | 129 => 222 | 317 => 221 | 318 => 223 | 319 => 224 | 320 => 225 | 337 => 231 | 338 => 232 | n => n, fun | 3 => 3 | 9 => 9 | 2 => 2 | 4 => 4 | 171 => 268 | 0 => 0 | 53 => 252 | 37 => 49 | 5 => 5 | 173 => 271 | 212 => 276 | 51 => 65 | 20 => 20 | 213 => 277 | 46 => 239 | 232 => 285 | 233 => 286 | n => n, fun | 17 => 0 | 18 => 2 | 19 => 3 | n => n⟩
open Go.RowKit Go.Sort Go.Lib in
def Tryz.lays171_ren : Go.Shelf.Ren := ⟨fun | 171 => 206 | 243 => 216 | 246 => 226 | 283 => 212 | 284 => 213 | 285 => 214 | 286 => 215 | 129 => 222 | 317 => 221 | 318 => 223 | 319 => 224 | 320 => 225 | 337 => 231 | 338 => 232 | n => n, fun | 3 => 3 | 9 => 9 | 2 => 2 | 4 => 4 | 171 => 268 | 0 => 0 | 53 => 252 | 37 => 49 | 5 => 5 | 173 => 271 | 212 => 276 | 51 => 65 | 20 => 20 | 213 => 277 | 46 => 239 | 232 => 285 | 233 => 286 | n => n, fun | 17 => 0 | 18 => 2 | 19 => 3 | n => n⟩
theorem Tryz.lays171 : Go.Proofs.Lays.n171 Tryz.prog Tryz.lays171_ren := {
  mixed := by kernel_rfl
  f129 := Tryz.func222.trans (congrArg some (by kernel_rfl))
  f171 := Tryz.func206.trans (congrArg some (by kernel_rfl))
  f243 := Tryz.func216.trans (congrArg some (by kernel_rfl))
  f246 := Tryz.func226.trans (congrArg some (by kernel_rfl))
  f283 := Tryz.func212.trans (congrArg some (by kernel_rfl))
  f284 := Tryz.func213.trans (congrArg some (by kernel_rfl))
  f285 := Tryz.func214.trans (congrArg some (by kernel_rfl))
  f286 := Tryz.func215.trans (congrArg some (by kernel_rfl))
  f317 := Tryz.func221.trans (congrArg some (by kernel_rfl))
  f318 := Tryz.func223.trans (congrArg some (by kernel_rfl))
  f319 := Tryz.func224.trans (congrArg some (by kernel_rfl))
  f320 := Tryz.func225.trans (congrArg some (by kernel_rfl))
  f337 := Tryz.func231.trans (congrArg some (by kernel_rfl))
  f338 := Tryz.func232.trans (congrArg some (by kernel_rfl))
  t0 := Tryz.underlying0
  a0 := Tryz.isAgg0
  z0 := Tryz.sizeOf0
  v0 := Tryz.zeroValue0
  t2 := Tryz.underlying2
  a2 := Tryz.isAgg2
  z2 := Tryz.sizeOf2
  v2 := Tryz.zeroValue2
  t3 := Tryz.underlying3
  a3 := Tryz.isAgg3
  z3 := Tryz.sizeOf3
  v3 := Tryz.zeroValue3
  t4 := Tryz.underlying4
  a4 := Tryz.isAgg4
  z4 := Tryz.sizeOf4
  v4 := Tryz.zeroValue4
  t5 := Tryz.underlying5
  a5 := Tryz.isAgg5
  z5 := Tryz.sizeOf5
  v5 := Tryz.zeroValue5
  t9 := Tryz.underlying9
  a9 := Tryz.isAgg9
  z9 := Tryz.sizeOf9
  v9 := Tryz.zeroValue9
  t20 := Tryz.underlying20
  a20 := Tryz.isAgg20
  z20 := Tryz.sizeOf20
  v20 := Tryz.zeroValue20
  t37 := Tryz.underlying49
  a37 := Tryz.isAgg49
  z37 := Tryz.sizeOf49
  v37 := Tryz.zeroValue49
  t46 := Tryz.underlying239
  a46 := Tryz.isAgg239
  z46 := Tryz.sizeOf239
  v46 := Tryz.zeroValue239
  t51 := Tryz.underlying65
  a51 := Tryz.isAgg65
  z51 := Tryz.sizeOf65
  v51 := Tryz.zeroValue65
  t53 := Tryz.underlying252
  a53 := Tryz.isAgg252
  z53 := Tryz.sizeOf252
  v53 := Tryz.zeroValue252
  t171 := Tryz.underlying268
  a171 := Tryz.isAgg268
  z171 := Tryz.sizeOf268
  v171 := Tryz.zeroValue268
  t173 := Tryz.underlying271
  a173 := Tryz.isAgg271
  z173 := Tryz.sizeOf271
  v173 := Tryz.zeroValue271
  t212 := Tryz.underlying276
  a212 := Tryz.isAgg276
  z212 := Tryz.sizeOf276
  v212 := Tryz.zeroValue276
  t213 := Tryz.underlying277
  a213 := Tryz.isAgg277
  z213 := Tryz.sizeOf277
  t232 := Tryz.underlying285
  a232 := Tryz.isAgg285
  z232 := Tryz.sizeOf285
  v232 := Tryz.zeroValue285
  t233 := Tryz.underlying286
  a233 := Tryz.isAgg286
  z233 := Tryz.sizeOf286
  v233 := Tryz.zeroValue286
  g17 := by kernel_rfl
  g18 := by kernel_rfl
  g19 := by kernel_rfl }
open Go.RowKit Go.Sort Go.Lib in
/-- THE ROAD WITHOUT THE TABLE: 0 <= i < 100: NO PREMISE ON THE WORLD, AND THE WORLD IS AS IT WAS: a row that keeps its argument in that range need list no table ('laid = []'). (LAID: no walk: one application.) -/
theorem Tryz.strconv_Itoa_small (i : Nat) (hi : i < 100) (w : World) :
    Calls Tryz.prog 206 #[.int .i64 i] w fun e w' => e = .returned (.string ⟨(Lib.decDigits i).toArray⟩) ∧ w' = w := Any.strconv_Itoa_small Tryz.lays171 i hi w
def Tryz.lays145_ren : Go.Shelf.Ren := ⟨fun | 145 => 210 | 220 => 217 | 219 => 227 | 217 => 233 | 225 => 234 | 224 => 235 | 267 => 236 | 266 => 238 | 314 => 239 | n => n, fun | 9 => 9 | 4 => 4 | 59 => 265 | 3 => 3 | 5 => 5 | 46 => 239 | 146 => 287 | 51 => 65 | n => n, fun | 1 => 1 | n => n⟩
theorem Tryz.lays145 : Go.Proofs.Lays.n145 Tryz.prog Tryz.lays145_ren := {
  mixed := by kernel_rfl
  f145 := Tryz.func210.trans (congrArg some (by kernel_rfl))
  f217 := Tryz.func233.trans (congrArg some (by kernel_rfl))
  f219 := Tryz.func227.trans (congrArg some (by kernel_rfl))
  f220 := Tryz.func217.trans (congrArg some (by kernel_rfl))
  f224 := Tryz.func235.trans (congrArg some (by kernel_rfl))
  f225 := Tryz.func234.trans (congrArg some (by kernel_rfl))
  f266 := Tryz.func238.trans (congrArg some (by kernel_rfl))
  f267 := Tryz.func236.trans (congrArg some (by kernel_rfl))
  f314 := Tryz.func239.trans (congrArg some (by kernel_rfl))
  t3 := Tryz.underlying3
  a3 := Tryz.isAgg3
  z3 := Tryz.sizeOf3
  v3 := Tryz.zeroValue3
  t4 := Tryz.underlying4
  a4 := Tryz.isAgg4
  z4 := Tryz.sizeOf4
  v4 := Tryz.zeroValue4
  t5 := Tryz.underlying5
  a5 := Tryz.isAgg5
  z5 := Tryz.sizeOf5
  v5 := Tryz.zeroValue5
  t9 := Tryz.underlying9
  a9 := Tryz.isAgg9
  z9 := Tryz.sizeOf9
  v9 := Tryz.zeroValue9
  t46 := Tryz.underlying239
  a46 := Tryz.isAgg239
  z46 := Tryz.sizeOf239
  v46 := Tryz.zeroValue239
  t51 := Tryz.underlying65
  a51 := Tryz.isAgg65
  z51 := Tryz.sizeOf65
  v51 := Tryz.zeroValue65
  t59 := Tryz.underlying265
  a59 := Tryz.isAgg265
  z59 := Tryz.sizeOf265
  v59 := Tryz.zeroValue265
  t146 := Tryz.underlying287
  a146 := Tryz.isAgg287
  z146 := Tryz.sizeOf287
  v146 := Tryz.zeroValue287
  g1 := by kernel_rfl }
open Go.RowKit Go.Lib in
/-- strings.Cut: "Cut slices s around the first instance of sep, returning the text before and after sep. The found result reports whether sep appears in s. If sep does not appear in s, cut returns s, "", false.": IT RETURNS 'Lib.cut s sep'; the world is as it was but for the count of draws. (LAID: no walk: one application.) -/
theorem Tryz.strings_Cut (s sep : ByteArray) (m : Int) (w : World) (hs : s.size < 4294967281) (hm : w.cell? ⟨1, 0, none⟩ = some (.int .i64 m)) :
    Calls Tryz.prog 210 #[.string s, .string sep] w fun e w' => e = .returned (.tuple #[.string ⟨(Lib.cut s.data.toList sep.data.toList).1.toArray⟩, .string ⟨(Lib.cut s.data.toList sep.data.toList).2.1.toArray⟩, .bool (Lib.cut s.data.toList sep.data.toList).2.2]) ∧ ∃ n, w' = w.drewN n := Any.strings_Cut Tryz.lays145 s sep m w hs hm
def Tryz.laysM288_ren : Go.Shelf.Ren := ⟨fun | 288 => 205 | 283 => 212 | 284 => 213 | 285 => 214 | 286 => 215 | 129 => 222 | 317 => 221 | 318 => 223 | 319 => 224 | 320 => 225 | 337 => 231 | 338 => 232 | n => n, fun | 37 => 49 | 53 => 252 | 3 => 3 | 4 => 4 | 9 => 9 | 171 => 268 | 0 => 0 | 173 => 271 | 212 => 276 | 51 => 65 | 5 => 5 | 20 => 20 | 213 => 277 | 46 => 239 | 232 => 285 | 233 => 286 | n => n, fun | 17 => 0 | 18 => 2 | 19 => 3 | n => n⟩
theorem Tryz.laysM288 : Go.Proofs.LaysM.n288 Tryz.prog Tryz.laysM288_ren := {
  mixed := by kernel_rfl
  f129 := Tryz.func222.trans (congrArg some (by kernel_rfl))
  f283 := Tryz.func212.trans (congrArg some (by kernel_rfl))
  f284 := Tryz.func213.trans (congrArg some (by kernel_rfl))
  f285 := Tryz.func214.trans (congrArg some (by kernel_rfl))
  f286 := Tryz.func215.trans (congrArg some (by kernel_rfl))
  f288 := Tryz.func205.trans (congrArg some (by kernel_rfl))
  f317 := Tryz.func221.trans (congrArg some (by kernel_rfl))
  f318 := Tryz.func223.trans (congrArg some (by kernel_rfl))
  f319 := Tryz.func224.trans (congrArg some (by kernel_rfl))
  f320 := Tryz.func225.trans (congrArg some (by kernel_rfl))
  f337 := Tryz.func231.trans (congrArg some (by kernel_rfl))
  f338 := Tryz.func232.trans (congrArg some (by kernel_rfl))
  t0 := Tryz.underlying0
  a0 := Tryz.isAgg0
  z0 := Tryz.sizeOf0
  v0 := Tryz.zeroValue0
  t3 := Tryz.underlying3
  a3 := Tryz.isAgg3
  z3 := Tryz.sizeOf3
  v3 := Tryz.zeroValue3
  t4 := Tryz.underlying4
  a4 := Tryz.isAgg4
  z4 := Tryz.sizeOf4
  v4 := Tryz.zeroValue4
  t5 := Tryz.underlying5
  a5 := Tryz.isAgg5
  z5 := Tryz.sizeOf5
  v5 := Tryz.zeroValue5
  t9 := Tryz.underlying9
  a9 := Tryz.isAgg9
  z9 := Tryz.sizeOf9
  v9 := Tryz.zeroValue9
  t20 := Tryz.underlying20
  a20 := Tryz.isAgg20
  z20 := Tryz.sizeOf20
  v20 := Tryz.zeroValue20
  t37 := Tryz.underlying49
  a37 := Tryz.isAgg49
  z37 := Tryz.sizeOf49
  v37 := Tryz.zeroValue49
  t46 := Tryz.underlying239
  a46 := Tryz.isAgg239
  z46 := Tryz.sizeOf239
  v46 := Tryz.zeroValue239
  t51 := Tryz.underlying65
  a51 := Tryz.isAgg65
  z51 := Tryz.sizeOf65
  v51 := Tryz.zeroValue65
  t53 := Tryz.underlying252
  a53 := Tryz.isAgg252
  z53 := Tryz.sizeOf252
  v53 := Tryz.zeroValue252
  t171 := Tryz.underlying268
  a171 := Tryz.isAgg268
  z171 := Tryz.sizeOf268
  v171 := Tryz.zeroValue268
  t173 := Tryz.underlying271
  a173 := Tryz.isAgg271
  z173 := Tryz.sizeOf271
  v173 := Tryz.zeroValue271
  t212 := Tryz.underlying276
  a212 := Tryz.isAgg276
  z212 := Tryz.sizeOf276
  v212 := Tryz.zeroValue276
  t213 := Tryz.underlying277
  a213 := Tryz.isAgg277
  z213 := Tryz.sizeOf277
  t232 := Tryz.underlying285
  a232 := Tryz.isAgg285
  z232 := Tryz.sizeOf285
  v232 := Tryz.zeroValue285
  t233 := Tryz.underlying286
  a233 := Tryz.isAgg286
  z233 := Tryz.sizeOf286
  v233 := Tryz.zeroValue286
  g17 := by kernel_rfl
  g18 := by kernel_rfl
  g19 := by kernel_rfl
  i0 := by kernel_rfl
  i3 := by kernel_rfl
  i4 := by kernel_rfl
  i5 := by kernel_rfl
  i9 := by kernel_rfl
  i20 := by kernel_rfl
  i37 := by kernel_rfl
  i46 := by kernel_rfl
  i51 := by kernel_rfl
  i53 := by kernel_rfl
  i171 := by kernel_rfl
  i173 := by kernel_rfl
  i212 := by kernel_rfl
  i232 := by kernel_rfl
  i233 := by kernel_rfl
  m17 := by kernel_rfl
  m18 := by kernel_rfl
  m19 := by kernel_rfl }
open Go.RowKit Go.Sort Go.Lib in
/-- internal/strconv.AppendUint(dst, i, 10), i BELOW 100: WHAT COMES BACK OWNS dst's CELLS AND, BEHIND THEM, i's DECIMAL NUMERAL. No table is read. Below the call's own blocks nothing has turned. (LAID: no walk: one application.) -/
theorem Tryz.internal_strconv_AppendUint_10_small (B n u : Nat) (hu : u < 100) (sv : Value) (xs : List Value) (w : World) (hown : w.ownsRow B 5 1 sv n xs) (hBw : B ≤ w.heap.size) (hlim : n + 20 ≤ 140737488355328) :
    Calls Tryz.prog 205 #[sv, .int .u64 u, .int .i64 10] w fun e w' => ∃ v', e = .returned v' ∧ w'.ownsRow B 5 1 v' (n + (Lib.decDigits u).length) (xs ++ Lib.byteCells (Lib.decDigits u)) ∧ Below B w w' ∧ Lib.OthersKept 5 none w w' := Any.internal_strconv_AppendUint_10_small Tryz.laysM288 B n u hu sv xs w hown hBw hlim
open Go.RowKit Go.Sort Go.Lib in
/-- internal/strconv.AppendUint(dst, i, 10), i FROM 100 ON: likewise; the digits are laid in an array of the call's own and appended. (LAID: no walk: one application.) -/
theorem Tryz.internal_strconv_AppendUint_10_big (B n u : Nat) (hu : 100 ≤ u) (hu64 : u < 18446744073709551616) (sv : Value) (xs : List Value) (w : World) (hown : w.ownsRow B 5 1 sv n xs) (hBw : B ≤ w.heap.size) (hlim : n + 20 ≤ 140737488355328) (htab : Lib.TabIs Tryz.prog w "internal/strconv.uint64pow10" .u64 Lib.pow10Tab) :
    Calls Tryz.prog 205 #[sv, .int .u64 u, .int .i64 10] w fun e w' => ∃ v', e = .returned v' ∧ w'.ownsRow B 5 1 v' (n + (Lib.decDigits u).length) (xs ++ Lib.byteCells (Lib.decDigits u)) ∧ Below B w w' ∧ Lib.OthersKept 5 none w w' := Any.internal_strconv_AppendUint_10_big Tryz.laysM288 B n u hu hu64 sv xs w hown hBw hlim htab
def Tryz.lays146_ren : Go.Shelf.Ren := ⟨fun | 146 => 203 | 221 => 211 | 268 => 218 | 138 => 219 | 143 => 220 | 195 => 228 | 197 => 229 | 218 => 230 | 219 => 227 | 260 => 237 | 217 => 233 | 225 => 234 | 224 => 235 | 267 => 236 | 266 => 238 | 314 => 239 | n => n, fun | 9 => 9 | 31 => 55 | 3 => 3 | 4 => 4 | 0 => 0 | 105 => 281 | 21 => 21 | 5 => 5 | 46 => 239 | 119 => 289 | 139 => 292 | 138 => 291 | 146 => 287 | 51 => 65 | n => n, fun | 1 => 1 | 3 => 4 | 4 => 5 | n => n⟩
theorem Tryz.lays146 : Go.Proofs.Lays.n146 Tryz.prog Tryz.lays146_ren := {
  mixed := by kernel_rfl
  f138 := Tryz.func219.trans (congrArg some (by kernel_rfl))
  f143 := Tryz.func220.trans (congrArg some (by kernel_rfl))
  f146 := Tryz.func203.trans (congrArg some (by kernel_rfl))
  f195 := Tryz.func228.trans (congrArg some (by kernel_rfl))
  f197 := Tryz.func229.trans (congrArg some (by kernel_rfl))
  f217 := Tryz.func233.trans (congrArg some (by kernel_rfl))
  f218 := Tryz.func230.trans (congrArg some (by kernel_rfl))
  f219 := Tryz.func227.trans (congrArg some (by kernel_rfl))
  f221 := Tryz.func211.trans (congrArg some (by kernel_rfl))
  f224 := Tryz.func235.trans (congrArg some (by kernel_rfl))
  f225 := Tryz.func234.trans (congrArg some (by kernel_rfl))
  f260 := Tryz.func237.trans (congrArg some (by kernel_rfl))
  f266 := Tryz.func238.trans (congrArg some (by kernel_rfl))
  f267 := Tryz.func236.trans (congrArg some (by kernel_rfl))
  f268 := Tryz.func218.trans (congrArg some (by kernel_rfl))
  f314 := Tryz.func239.trans (congrArg some (by kernel_rfl))
  t0 := Tryz.underlying0
  a0 := Tryz.isAgg0
  z0 := Tryz.sizeOf0
  v0 := Tryz.zeroValue0
  t3 := Tryz.underlying3
  a3 := Tryz.isAgg3
  z3 := Tryz.sizeOf3
  v3 := Tryz.zeroValue3
  t4 := Tryz.underlying4
  a4 := Tryz.isAgg4
  z4 := Tryz.sizeOf4
  v4 := Tryz.zeroValue4
  t5 := Tryz.underlying5
  a5 := Tryz.isAgg5
  z5 := Tryz.sizeOf5
  v5 := Tryz.zeroValue5
  t9 := Tryz.underlying9
  a9 := Tryz.isAgg9
  z9 := Tryz.sizeOf9
  v9 := Tryz.zeroValue9
  t21 := Tryz.underlying21
  a21 := Tryz.isAgg21
  z21 := Tryz.sizeOf21
  v21 := Tryz.zeroValue21
  t31 := Tryz.underlying55
  a31 := Tryz.isAgg55
  z31 := Tryz.sizeOf55
  v31 := Tryz.zeroValue55
  t46 := Tryz.underlying239
  a46 := Tryz.isAgg239
  z46 := Tryz.sizeOf239
  v46 := Tryz.zeroValue239
  t51 := Tryz.underlying65
  a51 := Tryz.isAgg65
  z51 := Tryz.sizeOf65
  v51 := Tryz.zeroValue65
  t105 := Tryz.underlying281
  a105 := Tryz.isAgg281
  z105 := Tryz.sizeOf281
  v105 := Tryz.zeroValue281
  t119 := Tryz.underlying289
  a119 := Tryz.isAgg289
  z119 := Tryz.sizeOf289
  t138 := Tryz.underlying291
  a138 := Tryz.isAgg291
  z138 := Tryz.sizeOf291
  v138 := Tryz.zeroValue291
  t139 := Tryz.underlying292
  a139 := Tryz.isAgg292
  z139 := Tryz.sizeOf292
  v139 := Tryz.zeroValue292
  t146 := Tryz.underlying287
  a146 := Tryz.isAgg287
  z146 := Tryz.sizeOf287
  v146 := Tryz.zeroValue287
  g1 := by kernel_rfl
  g3 := by kernel_rfl
  g4 := by kernel_rfl }
open Go.RowKit Go.Lib in
/-- strings.Split. (LAID: no walk: one application.) -/
theorem Tryz.strings_Split (s sep : ByteArray) (m : Int) (w : World) (hs : s.size < 4294967281) (hm : w.cell? ⟨1, 0, none⟩ = some (.int .i64 m)) (h1 : 1 ≤ sep.size) :
    Calls Tryz.prog 203 #[.string s, .string sep] w fun e w' =>
      e = .returned (.slice (some ⟨w.heap.size, 0, none⟩) (Lib.countB s sep + 1) (Lib.countB s sep + 1)) ∧ w' = w.alloc (.cells ((Lib.splitB sep 0 (Lib.countB s sep) s).map Value.string).toArray 9) := Any.strings_Split Tryz.lays146 (by kernel_rfl) s sep m w hs hm h1
def Tryz.laysSlH06_f188_ren : Go.Shelf.Ren := ⟨fun | 6 => 188 | n => n, fun | 22 => 22 | 23 => 67 | 25 => 225 | 3 => 3 | 0 => 0 | 4 => 4 | n => n, fun | n => n⟩
theorem Tryz.laysSlH06_f188 : Go.Proofs.SlLaysH0.n6 Tryz.prog Tryz.laysSlH06_f188_ren := {
  mixed := by kernel_rfl
  f6 := ⟨Tryz.f188.name, by decide, Tryz.func188.trans (congrArg some (by kernel_rfl))⟩
  t0 := Tryz.underlying0
  a0 := Tryz.isAgg0
  z0 := Tryz.sizeOf0
  v0 := Tryz.zeroValue0
  t3 := Tryz.underlying3
  a3 := Tryz.isAgg3
  z3 := Tryz.sizeOf3
  v3 := Tryz.zeroValue3
  t4 := Tryz.underlying4
  a4 := Tryz.isAgg4
  z4 := Tryz.sizeOf4
  v4 := Tryz.zeroValue4
  t22 := Tryz.underlying22
  a22 := Tryz.isAgg22
  z22 := Tryz.sizeOf22
  v22 := Tryz.zeroValue22
  t25 := Tryz.underlying225
  a25 := Tryz.isAgg225
  z25 := Tryz.sizeOf225
  v25 := Tryz.zeroValue225 }
open Go.RowKit Go.Lib in
/-- slices.IndexFunc at a struct: "IndexFunc returns the first index i satisfying f(s[i]), or -1 if none do." (LAID AT THE INSTANCE 'slices.IndexFunc[[]netverify/api.Interface,netverify/api.Interface]': no walk: one application.) -/
theorem Tryz.slices_IndexFunc_f188 {α : Type} [Inhabited α] (k : Nat) (aE : ∀ w, (isAgg 67).run Tryz.prog w = .ok true w) (zE : ∀ w, (Go.sizeOf 67).run Tryz.prog w = .ok k w) (enc : α → List Value) (hk : ∀ x, (enc x).length = k) (p : α → Bool) (g : Nat) (lb : Array Value) (eg : ∀ args w, (callFunc g args).run Tryz.prog w = .ok (.enter g args) w) (b off n c : Nat) (zs : List α) (w : World) (hp : PredBelow Tryz.prog g lb (fun x => .agg (enc x).toArray) p w) (hz : n ≤ zs.length) (hbig : n ≤ 9223372036854775807) (hb : b < w.heap.size) (hc : ∀ j, j < zs.length → ∀ i v, (enc zs[j]!)[i]? = some v → w.cell? ⟨b, off + j * k + i, none⟩ = some v) :
    Calls Tryz.prog 188 #[.slice (some ⟨b, off, none⟩) n c, .func (.func g) #[] lb] w fun e w' => e = .returned (.int .i64 (Lib.idxBy (fun _ y => p y) (zs.take n) default)) ∧ Below w.heap.size w w' := AnyQ.slices_IndexFunc Tryz.laysSlH06_f188 k aE zE enc hk p g lb eg b off n c zs w hp hz hbig hb hc
def Tryz.laysSlH06_f191_ren : Go.Shelf.Ren := ⟨fun | 6 => 191 | n => n, fun | 22 => 23 | 23 => 103 | 25 => 256 | 3 => 3 | 0 => 0 | 4 => 4 | n => n, fun | n => n⟩
theorem Tryz.laysSlH06_f191 : Go.Proofs.SlLaysH0.n6 Tryz.prog Tryz.laysSlH06_f191_ren := {
  mixed := by kernel_rfl
  f6 := ⟨Tryz.f191.name, by decide, Tryz.func191.trans (congrArg some (by kernel_rfl))⟩
  t0 := Tryz.underlying0
  a0 := Tryz.isAgg0
  z0 := Tryz.sizeOf0
  v0 := Tryz.zeroValue0
  t3 := Tryz.underlying3
  a3 := Tryz.isAgg3
  z3 := Tryz.sizeOf3
  v3 := Tryz.zeroValue3
  t4 := Tryz.underlying4
  a4 := Tryz.isAgg4
  z4 := Tryz.sizeOf4
  v4 := Tryz.zeroValue4
  t22 := Tryz.underlying23
  a22 := Tryz.isAgg23
  z22 := Tryz.sizeOf23
  v22 := Tryz.zeroValue23
  t25 := Tryz.underlying256
  a25 := Tryz.isAgg256
  z25 := Tryz.sizeOf256
  v25 := Tryz.zeroValue256 }
open Go.RowKit Go.Lib in
/-- slices.IndexFunc at a struct: "IndexFunc returns the first index i satisfying f(s[i]), or -1 if none do." (LAID AT THE INSTANCE 'slices.IndexFunc[[]netverify/api.PrefixList,netverify/api.PrefixList]': no walk: one application.) -/
theorem Tryz.slices_IndexFunc_f191 {α : Type} [Inhabited α] (k : Nat) (aE : ∀ w, (isAgg 103).run Tryz.prog w = .ok true w) (zE : ∀ w, (Go.sizeOf 103).run Tryz.prog w = .ok k w) (enc : α → List Value) (hk : ∀ x, (enc x).length = k) (p : α → Bool) (g : Nat) (lb : Array Value) (eg : ∀ args w, (callFunc g args).run Tryz.prog w = .ok (.enter g args) w) (b off n c : Nat) (zs : List α) (w : World) (hp : PredBelow Tryz.prog g lb (fun x => .agg (enc x).toArray) p w) (hz : n ≤ zs.length) (hbig : n ≤ 9223372036854775807) (hb : b < w.heap.size) (hc : ∀ j, j < zs.length → ∀ i v, (enc zs[j]!)[i]? = some v → w.cell? ⟨b, off + j * k + i, none⟩ = some v) :
    Calls Tryz.prog 191 #[.slice (some ⟨b, off, none⟩) n c, .func (.func g) #[] lb] w fun e w' => e = .returned (.int .i64 (Lib.idxBy (fun _ y => p y) (zs.take n) default)) ∧ Below w.heap.size w w' := AnyQ.slices_IndexFunc Tryz.laysSlH06_f191 k aE zE enc hk p g lb eg b off n c zs w hp hz hbig hb hc
def Tryz.laysSlH06_f193_ren : Go.Shelf.Ren := ⟨fun | 6 => 193 | n => n, fun | 22 => 24 | 23 => 108 | 25 => 258 | 3 => 3 | 0 => 0 | 4 => 4 | n => n, fun | n => n⟩
theorem Tryz.laysSlH06_f193 : Go.Proofs.SlLaysH0.n6 Tryz.prog Tryz.laysSlH06_f193_ren := {
  mixed := by kernel_rfl
  f6 := ⟨Tryz.f193.name, by decide, Tryz.func193.trans (congrArg some (by kernel_rfl))⟩
  t0 := Tryz.underlying0
  a0 := Tryz.isAgg0
  z0 := Tryz.sizeOf0
  v0 := Tryz.zeroValue0
  t3 := Tryz.underlying3
  a3 := Tryz.isAgg3
  z3 := Tryz.sizeOf3
  v3 := Tryz.zeroValue3
  t4 := Tryz.underlying4
  a4 := Tryz.isAgg4
  z4 := Tryz.sizeOf4
  v4 := Tryz.zeroValue4
  t22 := Tryz.underlying24
  a22 := Tryz.isAgg24
  z22 := Tryz.sizeOf24
  v22 := Tryz.zeroValue24
  t25 := Tryz.underlying258
  a25 := Tryz.isAgg258
  z25 := Tryz.sizeOf258
  v25 := Tryz.zeroValue258 }
open Go.RowKit Go.Lib in
/-- slices.IndexFunc at a struct: "IndexFunc returns the first index i satisfying f(s[i]), or -1 if none do." (LAID AT THE INSTANCE 'slices.IndexFunc[[]netverify/api.RouteMap,netverify/api.RouteMap]': no walk: one application.) -/
theorem Tryz.slices_IndexFunc_f193 {α : Type} [Inhabited α] (k : Nat) (aE : ∀ w, (isAgg 108).run Tryz.prog w = .ok true w) (zE : ∀ w, (Go.sizeOf 108).run Tryz.prog w = .ok k w) (enc : α → List Value) (hk : ∀ x, (enc x).length = k) (p : α → Bool) (g : Nat) (lb : Array Value) (eg : ∀ args w, (callFunc g args).run Tryz.prog w = .ok (.enter g args) w) (b off n c : Nat) (zs : List α) (w : World) (hp : PredBelow Tryz.prog g lb (fun x => .agg (enc x).toArray) p w) (hz : n ≤ zs.length) (hbig : n ≤ 9223372036854775807) (hb : b < w.heap.size) (hc : ∀ j, j < zs.length → ∀ i v, (enc zs[j]!)[i]? = some v → w.cell? ⟨b, off + j * k + i, none⟩ = some v) :
    Calls Tryz.prog 193 #[.slice (some ⟨b, off, none⟩) n c, .func (.func g) #[] lb] w fun e w' => e = .returned (.int .i64 (Lib.idxBy (fun _ y => p y) (zs.take n) default)) ∧ Below w.heap.size w w' := AnyQ.slices_IndexFunc Tryz.laysSlH06_f193 k aE zE enc hk p g lb eg b off n c zs w hp hz hbig hb hc
def Tryz.laysSlH06_f195_ren : Go.Shelf.Ren := ⟨fun | 6 => 195 | n => n, fun | 22 => 25 | 23 => 113 | 25 => 260 | 3 => 3 | 0 => 0 | 4 => 4 | n => n, fun | n => n⟩
theorem Tryz.laysSlH06_f195 : Go.Proofs.SlLaysH0.n6 Tryz.prog Tryz.laysSlH06_f195_ren := {
  mixed := by kernel_rfl
  f6 := ⟨Tryz.f195.name, by decide, Tryz.func195.trans (congrArg some (by kernel_rfl))⟩
  t0 := Tryz.underlying0
  a0 := Tryz.isAgg0
  z0 := Tryz.sizeOf0
  v0 := Tryz.zeroValue0
  t3 := Tryz.underlying3
  a3 := Tryz.isAgg3
  z3 := Tryz.sizeOf3
  v3 := Tryz.zeroValue3
  t4 := Tryz.underlying4
  a4 := Tryz.isAgg4
  z4 := Tryz.sizeOf4
  v4 := Tryz.zeroValue4
  t22 := Tryz.underlying25
  a22 := Tryz.isAgg25
  z22 := Tryz.sizeOf25
  v22 := Tryz.zeroValue25
  t25 := Tryz.underlying260
  a25 := Tryz.isAgg260
  z25 := Tryz.sizeOf260
  v25 := Tryz.zeroValue260 }
open Go.RowKit Go.Lib in
/-- slices.IndexFunc at a struct: "IndexFunc returns the first index i satisfying f(s[i]), or -1 if none do." (LAID AT THE INSTANCE 'slices.IndexFunc[[]netverify/api.ACL,netverify/api.ACL]': no walk: one application.) -/
theorem Tryz.slices_IndexFunc_f195 {α : Type} [Inhabited α] (k : Nat) (aE : ∀ w, (isAgg 113).run Tryz.prog w = .ok true w) (zE : ∀ w, (Go.sizeOf 113).run Tryz.prog w = .ok k w) (enc : α → List Value) (hk : ∀ x, (enc x).length = k) (p : α → Bool) (g : Nat) (lb : Array Value) (eg : ∀ args w, (callFunc g args).run Tryz.prog w = .ok (.enter g args) w) (b off n c : Nat) (zs : List α) (w : World) (hp : PredBelow Tryz.prog g lb (fun x => .agg (enc x).toArray) p w) (hz : n ≤ zs.length) (hbig : n ≤ 9223372036854775807) (hb : b < w.heap.size) (hc : ∀ j, j < zs.length → ∀ i v, (enc zs[j]!)[i]? = some v → w.cell? ⟨b, off + j * k + i, none⟩ = some v) :
    Calls Tryz.prog 195 #[.slice (some ⟨b, off, none⟩) n c, .func (.func g) #[] lb] w fun e w' => e = .returned (.int .i64 (Lib.idxBy (fun _ y => p y) (zs.take n) default)) ∧ Below w.heap.size w w' := AnyQ.slices_IndexFunc Tryz.laysSlH06_f195 k aE zE enc hk p g lb eg b off n c zs w hp hz hbig hb hc
end Go.Proofs
