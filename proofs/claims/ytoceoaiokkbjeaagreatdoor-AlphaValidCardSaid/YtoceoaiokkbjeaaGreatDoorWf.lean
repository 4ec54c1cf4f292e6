/-
  DERIVED: THE SHELF's CONTRACTS AT THIS DUMP, IN PLAIN WORDS (tools/lay-plain.mjs out of 'TryzCut.lean', which tools/lay-shelf.mjs wrote): THE SAME DECLARATIONS UNDER THE SAME NAMES: 'import', 'namespace', 'open', 'def', 'theorem' AND NOTHING ELSE: no command of the shelf's: FOR A HAND-IN. Each laying: the table of numbers ('.._ren') and one theorem, a field a fact of the dump's own or the kernel's comparison; each contract: ONE APPLICATION.
-/
import Derived.Shelf.Small.Wraps
import Derived.Shelf.Utf8.RuneCount
import Derived.Shelf.Strings.Shaped
import Derived.Shelf.Strings.SplitShaped
import Derived.Shelf.Strings.Explode
import Derived.Shelf.Unicode.DecodeAny
import Derived.Shelf.Slices.Cells
import Derived.Shelf.Slices.Empties
import Derived.Shelf.SlicesE.Reverse
import Derived.Shelf.SlicesE.Delete
import Derived.Shelf.SlicesQ.Contains
import Derived.Shelf.SlicesQ.IndexFunc
import Derived.Test.YtoceoaiokkbjeaaGreatDoorProg
namespace Go.Proofs
open Go.Shelf
def Tryz.lays145_ren : Go.Shelf.Ren := ⟨fun | 145 => 236 | 220 => 254 | 219 => 261 | 217 => 269 | 225 => 270 | 224 => 271 | 267 => 272 | 266 => 276 | 314 => 277 | n => n, fun | 9 => 9 | 4 => 4 | 59 => 272 | 3 => 3 | 5 => 5 | 46 => 191 | 146 => 298 | 51 => 66 | n => n, fun | 1 => 0 | n => n⟩
theorem Tryz.lays145 : Go.Proofs.Lays.n145 Tryz.prog Tryz.lays145_ren := {
 mixed := by kernel_rfl
 f145 := Tryz.func236.trans (congrArg some (by kernel_rfl))
 f217 := Tryz.func269.trans (congrArg some (by kernel_rfl))
 f219 := Tryz.func261.trans (congrArg some (by kernel_rfl))
 f220 := Tryz.func254.trans (congrArg some (by kernel_rfl))
 f224 := Tryz.func271.trans (congrArg some (by kernel_rfl))
 f225 := Tryz.func270.trans (congrArg some (by kernel_rfl))
 f266 := Tryz.func276.trans (congrArg some (by kernel_rfl))
 f267 := Tryz.func272.trans (congrArg some (by kernel_rfl))
 f314 := Tryz.func277.trans (congrArg some (by kernel_rfl))
 t3 := Tryz.underlying3
 a3 := Tryz.isAgg3
 z3 := Tryz.sizeOf3
 v3 := Tryz.zeroValue3
 t4 := Tryz.underlying4
 a4 := Tryz.isAgg4
 z4 := Tryz.sizeOf4
 v4 := Tryz.zeroValue4
 t5 := Tryz.underlying5
 a5 := Tryz.isAgg5
 z5 := Tryz.sizeOf5
 v5 := Tryz.zeroValue5
 t9 := Tryz.underlying9
 a9 := Tryz.isAgg9
 z9 := Tryz.sizeOf9
 v9 := Tryz.zeroValue9
 t46 := Tryz.underlying191
 a46 := Tryz.isAgg191
 z46 := Tryz.sizeOf191
 v46 := Tryz.zeroValue191
 t51 := Tryz.underlying66
 a51 := Tryz.isAgg66
 z51 := Tryz.sizeOf66
 v51 := Tryz.zeroValue66
 t59 := Tryz.underlying272
 a59 := Tryz.isAgg272
 z59 := Tryz.sizeOf272
 v59 := Tryz.zeroValue272
 t146 := Tryz.underlying298
 a146 := Tryz.isAgg298
 z146 := Tryz.sizeOf298
 v146 := Tryz.zeroValue298
 g1 := by kernel_rfl }
open Go.RowKit Go.Lib in
theorem Tryz.strings_Cut (s sep : ByteArray) (m : Int) (w : World) (hs : s.size < 4294967281) (hm : w.cell? ⟨0, 0, none⟩ = some (.int .i64 m)) :
  Calls Tryz.prog 236 #[.string s, .string sep] w fun e w' => e = .returned (.tuple #[.string ⟨(Lib.cut s.data.toList sep.data.toList).1.toArray⟩, .string ⟨(Lib.cut s.data.toList sep.data.toList).2.1.toArray⟩, .bool (Lib.cut s.data.toList sep.data.toList).2.2]) ∧ ∃ n, w' = w.drewN n := Any.strings_Cut Tryz.lays145 s sep m w hs hm
def Tryz.lays146_ren : Go.Shelf.Ren := ⟨fun | 146 => 253 | 221 => 260 | 268 => 266 | 138 => 267 | 143 => 268 | 195 => 273 | 197 => 274 | 218 => 275 | 219 => 261 | 260 => 278 | 217 => 269 | 225 => 270 | 224 => 271 | 267 => 272 | 266 => 276 | 314 => 277 | n => n, fun | 9 => 9 | 31 => 50 | 3 => 3 | 4 => 4 | 0 => 0 | 105 => 296 | 21 => 21 | 5 => 5 | 46 => 191 | 119 => 300 | 139 => 303 | 138 => 302 | 146 => 298 | 51 => 66 | n => n, fun | 1 => 0 | 3 => 1 | 4 => 2 | n => n⟩
theorem Tryz.lays146 : Go.Proofs.Lays.n146 Tryz.prog Tryz.lays146_ren := {
 mixed := by kernel_rfl
 f138 := Tryz.func267.trans (congrArg some (by kernel_rfl))
 f143 := Tryz.func268.trans (congrArg some (by kernel_rfl))
 f146 := Tryz.func253.trans (congrArg some (by kernel_rfl))
 f195 := Tryz.func273.trans (congrArg some (by kernel_rfl))
 f197 := Tryz.func274.trans (congrArg some (by kernel_rfl))
 f217 := Tryz.func269.trans (congrArg some (by kernel_rfl))
 f218 := Tryz.func275.trans (congrArg some (by kernel_rfl))
 f219 := Tryz.func261.trans (congrArg some (by kernel_rfl))
 f221 := Tryz.func260.trans (congrArg some (by kernel_rfl))
 f224 := Tryz.func271.trans (congrArg some (by kernel_rfl))
 f225 := Tryz.func270.trans (congrArg some (by kernel_rfl))
 f260 := Tryz.func278.trans (congrArg some (by kernel_rfl))
 f266 := Tryz.func276.trans (congrArg some (by kernel_rfl))
 f267 := Tryz.func272.trans (congrArg some (by kernel_rfl))
 f268 := Tryz.func266.trans (congrArg some (by kernel_rfl))
 f314 := Tryz.func277.trans (congrArg some (by kernel_rfl))
 t0 := Tryz.underlying0
 a0 := Tryz.isAgg0
 z0 := Tryz.sizeOf0
 v0 := Tryz.zeroValue0
 t3 := Tryz.underlying3
 a3 := Tryz.isAgg3
 z3 := Tryz.sizeOf3
 v3 := Tryz.zeroValue3
 t4 := Tryz.underlying4
 a4 := Tryz.isAgg4
 z4 := Tryz.sizeOf4
 v4 := Tryz.zeroValue4
 t5 := Tryz.underlying5
 a5 := Tryz.isAgg5
 z5 := Tryz.sizeOf5
 v5 := Tryz.zeroValue5
 t9 := Tryz.underlying9
 a9 := Tryz.isAgg9
 z9 := Tryz.sizeOf9
 v9 := Tryz.zeroValue9
 t21 := Tryz.underlying21
 a21 := Tryz.isAgg21
 z21 := Tryz.sizeOf21
 v21 := Tryz.zeroValue21
 t31 := Tryz.underlying50
 a31 := Tryz.isAgg50
 z31 := Tryz.sizeOf50
 v31 := Tryz.zeroValue50
 t46 := Tryz.underlying191
 a46 := Tryz.isAgg191
 z46 := Tryz.sizeOf191
 v46 := Tryz.zeroValue191
 t51 := Tryz.underlying66
 a51 := Tryz.isAgg66
 z51 := Tryz.sizeOf66
 v51 := Tryz.zeroValue66
 t105 := Tryz.underlying296
 a105 := Tryz.isAgg296
 z105 := Tryz.sizeOf296
 v105 := Tryz.zeroValue296
 t119 := Tryz.underlying300
 a119 := Tryz.isAgg300
 z119 := Tryz.sizeOf300
 t138 := Tryz.underlying302
 a138 := Tryz.isAgg302
 z138 := Tryz.sizeOf302
 v138 := Tryz.zeroValue302
 t139 := Tryz.underlying303
 a139 := Tryz.isAgg303
 z139 := Tryz.sizeOf303
 v139 := Tryz.zeroValue303
 t146 := Tryz.underlying298
 a146 := Tryz.isAgg298
 z146 := Tryz.sizeOf298
 v146 := Tryz.zeroValue298
 g1 := by kernel_rfl
 g3 := by kernel_rfl
 g4 := by kernel_rfl }
open Go.RowKit Go.Lib in
theorem Tryz.strings_Split (s sep : ByteArray) (m : Int) (w : World) (hs : s.size < 4294967281) (hm : w.cell? ⟨0, 0, none⟩ = some (.int .i64 m)) (h1 : 1 ≤ sep.size) :
  Calls Tryz.prog 253 #[.string s, .string sep] w fun e w' =>
   e = .returned (.slice (some ⟨w.heap.size, 0, none⟩) (Lib.countB s sep + 1) (Lib.countB s sep + 1)) ∧ w' = w.alloc (.cells ((Lib.splitB sep 0 (Lib.countB s sep) s).map Value.string).toArray 9) := Any.strings_Split Tryz.lays146 (by kernel_rfl) s sep m w hs hm h1
def Tryz.laysNm225_ren : Go.Shelf.Ren := ⟨fun | 25 => 213 | 31 => 241 | 32 => 242 | 37 => 255 | n => n, fun | 22 => 53 | 3 => 3 | 4 => 4 | 40 => 191 | 0 => 0 | n => n, fun | n => n⟩
theorem Tryz.laysNm225 : Go.Proofs.Lays2.n25 Tryz.prog Tryz.laysNm225_ren := {
 mixed := by kernel_rfl
 f25 := Tryz.func213.trans (congrArg some (by kernel_rfl))
 f31 := Tryz.func241.trans (congrArg some (by kernel_rfl))
 f32 := Tryz.func242.trans (congrArg some (by kernel_rfl))
 f37 := Tryz.func255.trans (congrArg some (by kernel_rfl))
 t0 := Tryz.underlying0
 a0 := Tryz.isAgg0
 z0 := Tryz.sizeOf0
 v0 := Tryz.zeroValue0
 t3 := Tryz.underlying3
 a3 := Tryz.isAgg3
 z3 := Tryz.sizeOf3
 v3 := Tryz.zeroValue3
 t4 := Tryz.underlying4
 a4 := Tryz.isAgg4
 z4 := Tryz.sizeOf4
 v4 := Tryz.zeroValue4
 t22 := Tryz.underlying53
 a22 := Tryz.isAgg53
 z22 := Tryz.sizeOf53
 v22 := Tryz.zeroValue53
 t40 := Tryz.underlying191
 a40 := Tryz.isAgg191
 z40 := Tryz.sizeOf191
 v40 := Tryz.zeroValue191 }
open Go.RowKit Go.Lib in
theorem Tryz.slices_BinarySearch_int (b off n c : Nat) (zs : List Int) (x : Int) (w : World) (hz : n ≤ zs.length) (hbig : n < 4611686018427387904) (hc : ∀ j, j < zs.length → w.cell? ⟨b, off + j, none⟩ = some (.int .i64 (zs.getD j 0))) (hs : (zs.take n).Pairwise (· ≤ ·)) :
  Calls Tryz.prog 213 #[.slice (some ⟨b, off, none⟩) n c, .int .i64 x] w fun e w' => e = .returned (.tuple #[.int .i64 ((zs.take n).countP (· < x) : Nat), .bool ((zs.take n).contains x)]) ∧ ∃ q, w' = w.drewN q := Any.slices_BinarySearch_int Tryz.laysNm225 b off n c zs x w hz hbig hc hs
open Go.RowKit Go.Lib Go.Sort in
open Go.RowKit Go.Lib Go.Sort in
open Go.RowKit Go.Lib in
theorem Tryz.slices_BinarySearch_int_empty (a : Option Addr) (c : Nat) (x : Int) (w : World) :
  Calls Tryz.prog 213 #[.slice a 0 c, .int .i64 x] w fun e w' => e = .returned (.tuple #[.int .i64 0, .bool false]) ∧ w' = w := Any.slices_BinarySearch_int_empty Tryz.laysNm225 a c x w
def Tryz.laysSlH06_f161_ren : Go.Shelf.Ren := ⟨fun | 6 => 161 | n => n, fun | 22 => 22 | 23 => 68 | 25 => 164 | 3 => 3 | 0 => 0 | 4 => 4 | n => n, fun | n => n⟩
theorem Tryz.laysSlH06_f161 : Go.Proofs.SlLaysH0.n6 Tryz.prog Tryz.laysSlH06_f161_ren := {
 mixed := by kernel_rfl
 f6 := ⟨Tryz.f161.name, by decide, Tryz.func161.trans (congrArg some (by kernel_rfl))⟩
 t0 := Tryz.underlying0
 a0 := Tryz.isAgg0
 z0 := Tryz.sizeOf0
 v0 := Tryz.zeroValue0
 t3 := Tryz.underlying3
 a3 := Tryz.isAgg3
 z3 := Tryz.sizeOf3
 v3 := Tryz.zeroValue3
 t4 := Tryz.underlying4
 a4 := Tryz.isAgg4
 z4 := Tryz.sizeOf4
 v4 := Tryz.zeroValue4
 t22 := Tryz.underlying22
 a22 := Tryz.isAgg22
 z22 := Tryz.sizeOf22
 v22 := Tryz.zeroValue22
 t25 := Tryz.underlying164
 a25 := Tryz.isAgg164
 z25 := Tryz.sizeOf164
 v25 := Tryz.zeroValue164 }
open Go.RowKit Go.Lib in
theorem Tryz.slices_IndexFunc_f161 {α : Type} [Inhabited α] (k : Nat) (aE : ∀ w, (isAgg 68).run Tryz.prog w = .ok true w) (zE : ∀ w, (Go.sizeOf 68).run Tryz.prog w = .ok k w) (enc : α → List Value) (hk : ∀ x, (enc x).length = k) (p : α → Bool) (g : Nat) (lb : Array Value) (eg : ∀ args w, (callFunc g args).run Tryz.prog w = .ok (.enter g args) w) (b off n c : Nat) (zs : List α) (w : World) (hp : PredBelow Tryz.prog g lb (fun x => .agg (enc x).toArray) p w) (hz : n ≤ zs.length) (hbig : n ≤ 9223372036854775807) (hb : b < w.heap.size) (hc : ∀ j, j < zs.length → ∀ i v, (enc zs[j]!)[i]? = some v → w.cell? ⟨b, off + j * k + i, none⟩ = some v) :
  Calls Tryz.prog 161 #[.slice (some ⟨b, off, none⟩) n c, .func (.func g) #[] lb] w fun e w' => e = .returned (.int .i64 (Lib.idxBy (fun _ y => p y) (zs.take n) default)) ∧ Below w.heap.size w w' := AnyQ.slices_IndexFunc Tryz.laysSlH06_f161 k aE zE enc hk p g lb eg b off n c zs w hp hz hbig hb hc
def Tryz.laysSlH06_f173_ren : Go.Shelf.Ren := ⟨fun | 6 => 173 | n => n, fun | 22 => 27 | 23 => 74 | 25 => 170 | 3 => 3 | 0 => 0 | 4 => 4 | n => n, fun | n => n⟩
theorem Tryz.laysSlH06_f173 : Go.Proofs.SlLaysH0.n6 Tryz.prog Tryz.laysSlH06_f173_ren := {
 mixed := by kernel_rfl
 f6 := ⟨Tryz.f173.name, by decide, Tryz.func173.trans (congrArg some (by kernel_rfl))⟩
 t0 := Tryz.underlying0
 a0 := Tryz.isAgg0
 z0 := Tryz.sizeOf0
 v0 := Tryz.zeroValue0
 t3 := Tryz.underlying3
 a3 := Tryz.isAgg3
 z3 := Tryz.sizeOf3
 v3 := Tryz.zeroValue3
 t4 := Tryz.underlying4
 a4 := Tryz.isAgg4
 z4 := Tryz.sizeOf4
 v4 := Tryz.zeroValue4
 t22 := Tryz.underlying27
 a22 := Tryz.isAgg27
 z22 := Tryz.sizeOf27
 v22 := Tryz.zeroValue27
 t25 := Tryz.underlying170
 a25 := Tryz.isAgg170
 z25 := Tryz.sizeOf170
 v25 := Tryz.zeroValue170 }
open Go.RowKit Go.Lib in
theorem Tryz.slices_IndexFunc_f173 {α : Type} [Inhabited α] (k : Nat) (aE : ∀ w, (isAgg 74).run Tryz.prog w = .ok true w) (zE : ∀ w, (Go.sizeOf 74).run Tryz.prog w = .ok k w) (enc : α → List Value) (hk : ∀ x, (enc x).length = k) (p : α → Bool) (g : Nat) (lb : Array Value) (eg : ∀ args w, (callFunc g args).run Tryz.prog w = .ok (.enter g args) w) (b off n c : Nat) (zs : List α) (w : World) (hp : PredBelow Tryz.prog g lb (fun x => .agg (enc x).toArray) p w) (hz : n ≤ zs.length) (hbig : n ≤ 9223372036854775807) (hb : b < w.heap.size) (hc : ∀ j, j < zs.length → ∀ i v, (enc zs[j]!)[i]? = some v → w.cell? ⟨b, off + j * k + i, none⟩ = some v) :
  Calls Tryz.prog 173 #[.slice (some ⟨b, off, none⟩) n c, .func (.func g) #[] lb] w fun e w' => e = .returned (.int .i64 (Lib.idxBy (fun _ y => p y) (zs.take n) default)) ∧ Below w.heap.size w w' := AnyQ.slices_IndexFunc Tryz.laysSlH06_f173 k aE zE enc hk p g lb eg b off n c zs w hp hz hbig hb hc
def Tryz.laysSlH06_f188_ren : Go.Shelf.Ren := ⟨fun | 6 => 188 | n => n, fun | 22 => 23 | 23 => 94 | 25 => 232 | 3 => 3 | 0 => 0 | 4 => 4 | n => n, fun | n => n⟩
theorem Tryz.laysSlH06_f188 : Go.Proofs.SlLaysH0.n6 Tryz.prog Tryz.laysSlH06_f188_ren := {
 mixed := by kernel_rfl
 f6 := ⟨Tryz.f188.name, by decide, Tryz.func188.trans (congrArg some (by kernel_rfl))⟩
 t0 := Tryz.underlying0
 a0 := Tryz.isAgg0
 z0 := Tryz.sizeOf0
 v0 := Tryz.zeroValue0
 t3 := Tryz.underlying3
 a3 := Tryz.isAgg3
 z3 := Tryz.sizeOf3
 v3 := Tryz.zeroValue3
 t4 := Tryz.underlying4
 a4 := Tryz.isAgg4
 z4 := Tryz.sizeOf4
 v4 := Tryz.zeroValue4
 t22 := Tryz.underlying23
 a22 := Tryz.isAgg23
 z22 := Tryz.sizeOf23
 v22 := Tryz.zeroValue23
 t25 := Tryz.underlying232
 a25 := Tryz.isAgg232
 z25 := Tryz.sizeOf232
 v25 := Tryz.zeroValue232 }
open Go.RowKit Go.Lib in
theorem Tryz.slices_IndexFunc_f188 {α : Type} [Inhabited α] (k : Nat) (aE : ∀ w, (isAgg 94).run Tryz.prog w = .ok true w) (zE : ∀ w, (Go.sizeOf 94).run Tryz.prog w = .ok k w) (enc : α → List Value) (hk : ∀ x, (enc x).length = k) (p : α → Bool) (g : Nat) (lb : Array Value) (eg : ∀ args w, (callFunc g args).run Tryz.prog w = .ok (.enter g args) w) (b off n c : Nat) (zs : List α) (w : World) (hp : PredBelow Tryz.prog g lb (fun x => .agg (enc x).toArray) p w) (hz : n ≤ zs.length) (hbig : n ≤ 9223372036854775807) (hb : b < w.heap.size) (hc : ∀ j, j < zs.length → ∀ i v, (enc zs[j]!)[i]? = some v → w.cell? ⟨b, off + j * k + i, none⟩ = some v) :
  Calls Tryz.prog 188 #[.slice (some ⟨b, off, none⟩) n c, .func (.func g) #[] lb] w fun e w' => e = .returned (.int .i64 (Lib.idxBy (fun _ y => p y) (zs.take n) default)) ∧ Below w.heap.size w w' := AnyQ.slices_IndexFunc Tryz.laysSlH06_f188 k aE zE enc hk p g lb eg b off n c zs w hp hz hbig hb hc
def Tryz.laysSlH06_f190_ren : Go.Shelf.Ren := ⟨fun | 6 => 190 | n => n, fun | 22 => 24 | 23 => 99 | 25 => 234 | 3 => 3 | 0 => 0 | 4 => 4 | n => n, fun | n => n⟩
theorem Tryz.laysSlH06_f190 : Go.Proofs.SlLaysH0.n6 Tryz.prog Tryz.laysSlH06_f190_ren := {
 mixed := by kernel_rfl
 f6 := ⟨Tryz.f190.name, by decide, Tryz.func190.trans (congrArg some (by kernel_rfl))⟩
 t0 := Tryz.underlying0
 a0 := Tryz.isAgg0
 z0 := Tryz.sizeOf0
 v0 := Tryz.zeroValue0
 t3 := Tryz.underlying3
 a3 := Tryz.isAgg3
 z3 := Tryz.sizeOf3
 v3 := Tryz.zeroValue3
 t4 := Tryz.underlying4
 a4 := Tryz.isAgg4
 z4 := Tryz.sizeOf4
 v4 := Tryz.zeroValue4
 t22 := Tryz.underlying24
 a22 := Tryz.isAgg24
 z22 := Tryz.sizeOf24
 v22 := Tryz.zeroValue24
 t25 := Tryz.underlying234
 a25 := Tryz.isAgg234
 z25 := Tryz.sizeOf234
 v25 := Tryz.zeroValue234 }
open Go.RowKit Go.Lib in
theorem Tryz.slices_IndexFunc_f190 {α : Type} [Inhabited α] (k : Nat) (aE : ∀ w, (isAgg 99).run Tryz.prog w = .ok true w) (zE : ∀ w, (Go.sizeOf 99).run Tryz.prog w = .ok k w) (enc : α → List Value) (hk : ∀ x, (enc x).length = k) (p : α → Bool) (g : Nat) (lb : Array Value) (eg : ∀ args w, (callFunc g args).run Tryz.prog w = .ok (.enter g args) w) (b off n c : Nat) (zs : List α) (w : World) (hp : PredBelow Tryz.prog g lb (fun x => .agg (enc x).toArray) p w) (hz : n ≤ zs.length) (hbig : n ≤ 9223372036854775807) (hb : b < w.heap.size) (hc : ∀ j, j < zs.length → ∀ i v, (enc zs[j]!)[i]? = some v → w.cell? ⟨b, off + j * k + i, none⟩ = some v) :
  Calls Tryz.prog 190 #[.slice (some ⟨b, off, none⟩) n c, .func (.func g) #[] lb] w fun e w' => e = .returned (.int .i64 (Lib.idxBy (fun _ y => p y) (zs.take n) default)) ∧ Below w.heap.size w w' := AnyQ.slices_IndexFunc Tryz.laysSlH06_f190 k aE zE enc hk p g lb eg b off n c zs w hp hz hbig hb hc
def Tryz.laysSlH06_f192_ren : Go.Shelf.Ren := ⟨fun | 6 => 192 | n => n, fun | 22 => 25 | 23 => 104 | 25 => 236 | 3 => 3 | 0 => 0 | 4 => 4 | n => n, fun | n => n⟩
theorem Tryz.laysSlH06_f192 : Go.Proofs.SlLaysH0.n6 Tryz.prog Tryz.laysSlH06_f192_ren := {
 mixed := by kernel_rfl
 f6 := ⟨Tryz.f192.name, by decide, Tryz.func192.trans (congrArg some (by kernel_rfl))⟩
 t0 := Tryz.underlying0
 a0 := Tryz.isAgg0
 z0 := Tryz.sizeOf0
 v0 := Tryz.zeroValue0
 t3 := Tryz.underlying3
 a3 := Tryz.isAgg3
 z3 := Tryz.sizeOf3
 v3 := Tryz.zeroValue3
 t4 := Tryz.underlying4
 a4 := Tryz.isAgg4
 z4 := Tryz.sizeOf4
 v4 := Tryz.zeroValue4
 t22 := Tryz.underlying25
 a22 := Tryz.isAgg25
 z22 := Tryz.sizeOf25
 v22 := Tryz.zeroValue25
 t25 := Tryz.underlying236
 a25 := Tryz.isAgg236
 z25 := Tryz.sizeOf236
 v25 := Tryz.zeroValue236 }
open Go.RowKit Go.Lib in
theorem Tryz.slices_IndexFunc_f192 {α : Type} [Inhabited α] (k : Nat) (aE : ∀ w, (isAgg 104).run Tryz.prog w = .ok true w) (zE : ∀ w, (Go.sizeOf 104).run Tryz.prog w = .ok k w) (enc : α → List Value) (hk : ∀ x, (enc x).length = k) (p : α → Bool) (g : Nat) (lb : Array Value) (eg : ∀ args w, (callFunc g args).run Tryz.prog w = .ok (.enter g args) w) (b off n c : Nat) (zs : List α) (w : World) (hp : PredBelow Tryz.prog g lb (fun x => .agg (enc x).toArray) p w) (hz : n ≤ zs.length) (hbig : n ≤ 9223372036854775807) (hb : b < w.heap.size) (hc : ∀ j, j < zs.length → ∀ i v, (enc zs[j]!)[i]? = some v → w.cell? ⟨b, off + j * k + i, none⟩ = some v) :
  Calls Tryz.prog 192 #[.slice (some ⟨b, off, none⟩) n c, .func (.func g) #[] lb] w fun e w' => e = .returned (.int .i64 (Lib.idxBy (fun _ y => p y) (zs.take n) default)) ∧ Below w.heap.size w w' := AnyQ.slices_IndexFunc Tryz.laysSlH06_f192 k aE zE enc hk p g lb eg b off n c zs w hp hz hbig hb hc
def Tryz.laysSlH06_f199_ren : Go.Shelf.Ren := ⟨fun | 6 => 199 | n => n, fun | 22 => 28 | 23 => 113 | 25 => 195 | 3 => 3 | 0 => 0 | 4 => 4 | n => n, fun | n => n⟩
theorem Tryz.laysSlH06_f199 : Go.Proofs.SlLaysH0.n6 Tryz.prog Tryz.laysSlH06_f199_ren := {
 mixed := by kernel_rfl
 f6 := ⟨Tryz.f199.name, by decide, Tryz.func199.trans (congrArg some (by kernel_rfl))⟩
 t0 := Tryz.underlying0
 a0 := Tryz.isAgg0
 z0 := Tryz.sizeOf0
 v0 := Tryz.zeroValue0
 t3 := Tryz.underlying3
 a3 := Tryz.isAgg3
 z3 := Tryz.sizeOf3
 v3 := Tryz.zeroValue3
 t4 := Tryz.underlying4
 a4 := Tryz.isAgg4
 z4 := Tryz.sizeOf4
 v4 := Tryz.zeroValue4
 t22 := Tryz.underlying28
 a22 := Tryz.isAgg28
 z22 := Tryz.sizeOf28
 v22 := Tryz.zeroValue28
 t25 := Tryz.underlying195
 a25 := Tryz.isAgg195
 z25 := Tryz.sizeOf195
 v25 := Tryz.zeroValue195 }
open Go.RowKit Go.Lib in
theorem Tryz.slices_IndexFunc_f199 {α : Type} [Inhabited α] (k : Nat) (aE : ∀ w, (isAgg 113).run Tryz.prog w = .ok true w) (zE : ∀ w, (Go.sizeOf 113).run Tryz.prog w = .ok k w) (enc : α → List Value) (hk : ∀ x, (enc x).length = k) (p : α → Bool) (g : Nat) (lb : Array Value) (eg : ∀ args w, (callFunc g args).run Tryz.prog w = .ok (.enter g args) w) (b off n c : Nat) (zs : List α) (w : World) (hp : PredBelow Tryz.prog g lb (fun x => .agg (enc x).toArray) p w) (hz : n ≤ zs.length) (hbig : n ≤ 9223372036854775807) (hb : b < w.heap.size) (hc : ∀ j, j < zs.length → ∀ i v, (enc zs[j]!)[i]? = some v → w.cell? ⟨b, off + j * k + i, none⟩ = some v) :
  Calls Tryz.prog 199 #[.slice (some ⟨b, off, none⟩) n c, .func (.func g) #[] lb] w fun e w' => e = .returned (.int .i64 (Lib.idxBy (fun _ y => p y) (zs.take n) default)) ∧ Below w.heap.size w w' := AnyQ.slices_IndexFunc Tryz.laysSlH06_f199 k aE zE enc hk p g lb eg b off n c zs w hp hz hbig hb hc
def Tryz.laysSlH06_f207_ren : Go.Shelf.Ren := ⟨fun | 6 => 207 | n => n, fun | 22 => 35 | 23 => 72 | 25 => 125 | 3 => 3 | 0 => 0 | 4 => 4 | n => n, fun | n => n⟩
theorem Tryz.laysSlH06_f207 : Go.Proofs.SlLaysH0.n6 Tryz.prog Tryz.laysSlH06_f207_ren := {
 mixed := by kernel_rfl
 f6 := ⟨Tryz.f207.name, by decide, Tryz.func207.trans (congrArg some (by kernel_rfl))⟩
 t0 := Tryz.underlying0
 a0 := Tryz.isAgg0
 z0 := Tryz.sizeOf0
 v0 := Tryz.zeroValue0
 t3 := Tryz.underlying3
 a3 := Tryz.isAgg3
 z3 := Tryz.sizeOf3
 v3 := Tryz.zeroValue3
 t4 := Tryz.underlying4
 a4 := Tryz.isAgg4
 z4 := Tryz.sizeOf4
 v4 := Tryz.zeroValue4
 t22 := Tryz.underlying35
 a22 := Tryz.isAgg35
 z22 := Tryz.sizeOf35
 v22 := Tryz.zeroValue35
 t25 := Tryz.underlying125
 a25 := Tryz.isAgg125
 z25 := Tryz.sizeOf125
 v25 := Tryz.zeroValue125 }
open Go.RowKit Go.Lib in
theorem Tryz.slices_IndexFunc_f207 {α : Type} [Inhabited α] (k : Nat) (aE : ∀ w, (isAgg 72).run Tryz.prog w = .ok true w) (zE : ∀ w, (Go.sizeOf 72).run Tryz.prog w = .ok k w) (enc : α → List Value) (hk : ∀ x, (enc x).length = k) (p : α → Bool) (g : Nat) (lb : Array Value) (eg : ∀ args w, (callFunc g args).run Tryz.prog w = .ok (.enter g args) w) (b off n c : Nat) (zs : List α) (w : World) (hp : PredBelow Tryz.prog g lb (fun x => .agg (enc x).toArray) p w) (hz : n ≤ zs.length) (hbig : n ≤ 9223372036854775807) (hb : b < w.heap.size) (hc : ∀ j, j < zs.length → ∀ i v, (enc zs[j]!)[i]? = some v → w.cell? ⟨b, off + j * k + i, none⟩ = some v) :
  Calls Tryz.prog 207 #[.slice (some ⟨b, off, none⟩) n c, .func (.func g) #[] lb] w fun e w' => e = .returned (.int .i64 (Lib.idxBy (fun _ y => p y) (zs.take n) default)) ∧ Below w.heap.size w w' := AnyQ.slices_IndexFunc Tryz.laysSlH06_f207 k aE zE enc hk p g lb eg b off n c zs w hp hz hbig hb hc
def Tryz.laysSlH06_f208_ren : Go.Shelf.Ren := ⟨fun | 6 => 208 | n => n, fun | 22 => 36 | 23 => 117 | 25 => 202 | 3 => 3 | 0 => 0 | 4 => 4 | n => n, fun | n => n⟩
theorem Tryz.laysSlH06_f208 : Go.Proofs.SlLaysH0.n6 Tryz.prog Tryz.laysSlH06_f208_ren := {
 mixed := by kernel_rfl
 f6 := ⟨Tryz.f208.name, by decide, Tryz.func208.trans (congrArg some (by kernel_rfl))⟩
 t0 := Tryz.underlying0
 a0 := Tryz.isAgg0
 z0 := Tryz.sizeOf0
 v0 := Tryz.zeroValue0
 t3 := Tryz.underlying3
 a3 := Tryz.isAgg3
 z3 := Tryz.sizeOf3
 v3 := Tryz.zeroValue3
 t4 := Tryz.underlying4
 a4 := Tryz.isAgg4
 z4 := Tryz.sizeOf4
 v4 := Tryz.zeroValue4
 t22 := Tryz.underlying36
 a22 := Tryz.isAgg36
 z22 := Tryz.sizeOf36
 v22 := Tryz.zeroValue36
 t25 := Tryz.underlying202
 a25 := Tryz.isAgg202
 z25 := Tryz.sizeOf202
 v25 := Tryz.zeroValue202 }
open Go.RowKit Go.Lib in
theorem Tryz.slices_IndexFunc_f208 {α : Type} [Inhabited α] (k : Nat) (aE : ∀ w, (isAgg 117).run Tryz.prog w = .ok true w) (zE : ∀ w, (Go.sizeOf 117).run Tryz.prog w = .ok k w) (enc : α → List Value) (hk : ∀ x, (enc x).length = k) (p : α → Bool) (g : Nat) (lb : Array Value) (eg : ∀ args w, (callFunc g args).run Tryz.prog w = .ok (.enter g args) w) (b off n c : Nat) (zs : List α) (w : World) (hp : PredBelow Tryz.prog g lb (fun x => .agg (enc x).toArray) p w) (hz : n ≤ zs.length) (hbig : n ≤ 9223372036854775807) (hb : b < w.heap.size) (hc : ∀ j, j < zs.length → ∀ i v, (enc zs[j]!)[i]? = some v → w.cell? ⟨b, off + j * k + i, none⟩ = some v) :
  Calls Tryz.prog 208 #[.slice (some ⟨b, off, none⟩) n c, .func (.func g) #[] lb] w fun e w' => e = .returned (.int .i64 (Lib.idxBy (fun _ y => p y) (zs.take n) default)) ∧ Below w.heap.size w w' := AnyQ.slices_IndexFunc Tryz.laysSlH06_f208 k aE zE enc hk p g lb eg b off n c zs w hp hz hbig hb hc
def Tryz.laysSlH06_f217_ren : Go.Shelf.Ren := ⟨fun | 6 => 217 | n => n, fun | 22 => 82 | 23 => 135 | 25 => 210 | 3 => 3 | 0 => 0 | 4 => 4 | n => n, fun | n => n⟩
theorem Tryz.laysSlH06_f217 : Go.Proofs.SlLaysH0.n6 Tryz.prog Tryz.laysSlH06_f217_ren := {
 mixed := by kernel_rfl
 f6 := ⟨Tryz.f217.name, by decide, Tryz.func217.trans (congrArg some (by kernel_rfl))⟩
 t0 := Tryz.underlying0
 a0 := Tryz.isAgg0
 z0 := Tryz.sizeOf0
 v0 := Tryz.zeroValue0
 t3 := Tryz.underlying3
 a3 := Tryz.isAgg3
 z3 := Tryz.sizeOf3
 v3 := Tryz.zeroValue3
 t4 := Tryz.underlying4
 a4 := Tryz.isAgg4
 z4 := Tryz.sizeOf4
 v4 := Tryz.zeroValue4
 t22 := Tryz.underlying82
 a22 := Tryz.isAgg82
 z22 := Tryz.sizeOf82
 v22 := Tryz.zeroValue82
 t25 := Tryz.underlying210
 a25 := Tryz.isAgg210
 z25 := Tryz.sizeOf210
 v25 := Tryz.zeroValue210 }
open Go.RowKit Go.Lib in
theorem Tryz.slices_IndexFunc_f217 {α : Type} [Inhabited α] (k : Nat) (aE : ∀ w, (isAgg 135).run Tryz.prog w = .ok true w) (zE : ∀ w, (Go.sizeOf 135).run Tryz.prog w = .ok k w) (enc : α → List Value) (hk : ∀ x, (enc x).length = k) (p : α → Bool) (g : Nat) (lb : Array Value) (eg : ∀ args w, (callFunc g args).run Tryz.prog w = .ok (.enter g args) w) (b off n c : Nat) (zs : List α) (w : World) (hp : PredBelow Tryz.prog g lb (fun x => .agg (enc x).toArray) p w) (hz : n ≤ zs.length) (hbig : n ≤ 9223372036854775807) (hb : b < w.heap.size) (hc : ∀ j, j < zs.length → ∀ i v, (enc zs[j]!)[i]? = some v → w.cell? ⟨b, off + j * k + i, none⟩ = some v) :
  Calls Tryz.prog 217 #[.slice (some ⟨b, off, none⟩) n c, .func (.func g) #[] lb] w fun e w' => e = .returned (.int .i64 (Lib.idxBy (fun _ y => p y) (zs.take n) default)) ∧ Below w.heap.size w w' := AnyQ.slices_IndexFunc Tryz.laysSlH06_f217 k aE zE enc hk p g lb eg b off n c zs w hp hz hbig hb hc
def Tryz.laysSlH06_f221_ren : Go.Shelf.Ren := ⟨fun | 6 => 221 | n => n, fun | 22 => 83 | 23 => 137 | 25 => 213 | 3 => 3 | 0 => 0 | 4 => 4 | n => n, fun | n => n⟩
theorem Tryz.laysSlH06_f221 : Go.Proofs.SlLaysH0.n6 Tryz.prog Tryz.laysSlH06_f221_ren := {
 mixed := by kernel_rfl
 f6 := ⟨Tryz.f221.name, by decide, Tryz.func221.trans (congrArg some (by kernel_rfl))⟩
 t0 := Tryz.underlying0
 a0 := Tryz.isAgg0
 z0 := Tryz.sizeOf0
 v0 := Tryz.zeroValue0
 t3 := Tryz.underlying3
 a3 := Tryz.isAgg3
 z3 := Tryz.sizeOf3
 v3 := Tryz.zeroValue3
 t4 := Tryz.underlying4
 a4 := Tryz.isAgg4
 z4 := Tryz.sizeOf4
 v4 := Tryz.zeroValue4
 t22 := Tryz.underlying83
 a22 := Tryz.isAgg83
 z22 := Tryz.sizeOf83
 v22 := Tryz.zeroValue83
 t25 := Tryz.underlying213
 a25 := Tryz.isAgg213
 z25 := Tryz.sizeOf213
 v25 := Tryz.zeroValue213 }
open Go.RowKit Go.Lib in
theorem Tryz.slices_IndexFunc_f221 {α : Type} [Inhabited α] (k : Nat) (aE : ∀ w, (isAgg 137).run Tryz.prog w = .ok true w) (zE : ∀ w, (Go.sizeOf 137).run Tryz.prog w = .ok k w) (enc : α → List Value) (hk : ∀ x, (enc x).length = k) (p : α → Bool) (g : Nat) (lb : Array Value) (eg : ∀ args w, (callFunc g args).run Tryz.prog w = .ok (.enter g args) w) (b off n c : Nat) (zs : List α) (w : World) (hp : PredBelow Tryz.prog g lb (fun x => .agg (enc x).toArray) p w) (hz : n ≤ zs.length) (hbig : n ≤ 9223372036854775807) (hb : b < w.heap.size) (hc : ∀ j, j < zs.length → ∀ i v, (enc zs[j]!)[i]? = some v → w.cell? ⟨b, off + j * k + i, none⟩ = some v) :
  Calls Tryz.prog 221 #[.slice (some ⟨b, off, none⟩) n c, .func (.func g) #[] lb] w fun e w' => e = .returned (.int .i64 (Lib.idxBy (fun _ y => p y) (zs.take n) default)) ∧ Below w.heap.size w w' := AnyQ.slices_IndexFunc Tryz.laysSlH06_f221 k aE zE enc hk p g lb eg b off n c zs w hp hz hbig hb hc
def Tryz.laysSlH06_f225_ren : Go.Shelf.Ren := ⟨fun | 6 => 225 | n => n, fun | 22 => 84 | 23 => 139 | 25 => 216 | 3 => 3 | 0 => 0 | 4 => 4 | n => n, fun | n => n⟩
theorem Tryz.laysSlH06_f225 : Go.Proofs.SlLaysH0.n6 Tryz.prog Tryz.laysSlH06_f225_ren := {
 mixed := by kernel_rfl
 f6 := ⟨Tryz.f225.name, by decide, Tryz.func225.trans (congrArg some (by kernel_rfl))⟩
 t0 := Tryz.underlying0
 a0 := Tryz.isAgg0
 z0 := Tryz.sizeOf0
 v0 := Tryz.zeroValue0
 t3 := Tryz.underlying3
 a3 := Tryz.isAgg3
 z3 := Tryz.sizeOf3
 v3 := Tryz.zeroValue3
 t4 := Tryz.underlying4
 a4 := Tryz.isAgg4
 z4 := Tryz.sizeOf4
 v4 := Tryz.zeroValue4
 t22 := Tryz.underlying84
 a22 := Tryz.isAgg84
 z22 := Tryz.sizeOf84
 v22 := Tryz.zeroValue84
 t25 := Tryz.underlying216
 a25 := Tryz.isAgg216
 z25 := Tryz.sizeOf216
 v25 := Tryz.zeroValue216 }
open Go.RowKit Go.Lib in
theorem Tryz.slices_IndexFunc_f225 {α : Type} [Inhabited α] (k : Nat) (aE : ∀ w, (isAgg 139).run Tryz.prog w = .ok true w) (zE : ∀ w, (Go.sizeOf 139).run Tryz.prog w = .ok k w) (enc : α → List Value) (hk : ∀ x, (enc x).length = k) (p : α → Bool) (g : Nat) (lb : Array Value) (eg : ∀ args w, (callFunc g args).run Tryz.prog w = .ok (.enter g args) w) (b off n c : Nat) (zs : List α) (w : World) (hp : PredBelow Tryz.prog g lb (fun x => .agg (enc x).toArray) p w) (hz : n ≤ zs.length) (hbig : n ≤ 9223372036854775807) (hb : b < w.heap.size) (hc : ∀ j, j < zs.length → ∀ i v, (enc zs[j]!)[i]? = some v → w.cell? ⟨b, off + j * k + i, none⟩ = some v) :
  Calls Tryz.prog 225 #[.slice (some ⟨b, off, none⟩) n c, .func (.func g) #[] lb] w fun e w' => e = .returned (.int .i64 (Lib.idxBy (fun _ y => p y) (zs.take n) default)) ∧ Below w.heap.size w w' := AnyQ.slices_IndexFunc Tryz.laysSlH06_f225 k aE zE enc hk p g lb eg b off n c zs w hp hz hbig hb hc
def Tryz.laysSlH06_f237_ren : Go.Shelf.Ren := ⟨fun | 6 => 237 | n => n, fun | 22 => 29 | 23 => 151 | 25 => 241 | 3 => 3 | 0 => 0 | 4 => 4 | n => n, fun | n => n⟩
theorem Tryz.laysSlH06_f237 : Go.Proofs.SlLaysH0.n6 Tryz.prog Tryz.laysSlH06_f237_ren := {
 mixed := by kernel_rfl
 f6 := ⟨Tryz.f237.name, by decide, Tryz.func237.trans (congrArg some (by kernel_rfl))⟩
 t0 := Tryz.underlying0
 a0 := Tryz.isAgg0
 z0 := Tryz.sizeOf0
 v0 := Tryz.zeroValue0
 t3 := Tryz.underlying3
 a3 := Tryz.isAgg3
 z3 := Tryz.sizeOf3
 v3 := Tryz.zeroValue3
 t4 := Tryz.underlying4
 a4 := Tryz.isAgg4
 z4 := Tryz.sizeOf4
 v4 := Tryz.zeroValue4
 t22 := Tryz.underlying29
 a22 := Tryz.isAgg29
 z22 := Tryz.sizeOf29
 v22 := Tryz.zeroValue29
 t25 := Tryz.underlying241
 a25 := Tryz.isAgg241
 z25 := Tryz.sizeOf241
 v25 := Tryz.zeroValue241 }
open Go.RowKit Go.Lib in
theorem Tryz.slices_IndexFunc_f237 {α : Type} [Inhabited α] (k : Nat) (aE : ∀ w, (isAgg 151).run Tryz.prog w = .ok true w) (zE : ∀ w, (Go.sizeOf 151).run Tryz.prog w = .ok k w) (enc : α → List Value) (hk : ∀ x, (enc x).length = k) (p : α → Bool) (g : Nat) (lb : Array Value) (eg : ∀ args w, (callFunc g args).run Tryz.prog w = .ok (.enter g args) w) (b off n c : Nat) (zs : List α) (w : World) (hp : PredBelow Tryz.prog g lb (fun x => .agg (enc x).toArray) p w) (hz : n ≤ zs.length) (hbig : n ≤ 9223372036854775807) (hb : b < w.heap.size) (hc : ∀ j, j < zs.length → ∀ i v, (enc zs[j]!)[i]? = some v → w.cell? ⟨b, off + j * k + i, none⟩ = some v) :
  Calls Tryz.prog 237 #[.slice (some ⟨b, off, none⟩) n c, .func (.func g) #[] lb] w fun e w' => e = .returned (.int .i64 (Lib.idxBy (fun _ y => p y) (zs.take n) default)) ∧ Below w.heap.size w w' := AnyQ.slices_IndexFunc Tryz.laysSlH06_f237 k aE zE enc hk p g lb eg b off n c zs w hp hz hbig hb hc
def Tryz.laysSlH06_f238_ren : Go.Shelf.Ren := ⟨fun | 6 => 238 | n => n, fun | 22 => 34 | 23 => 115 | 25 => 244 | 3 => 3 | 0 => 0 | 4 => 4 | n => n, fun | n => n⟩
theorem Tryz.laysSlH06_f238 : Go.Proofs.SlLaysH0.n6 Tryz.prog Tryz.laysSlH06_f238_ren := {
 mixed := by kernel_rfl
 f6 := ⟨Tryz.f238.name, by decide, Tryz.func238.trans (congrArg some (by kernel_rfl))⟩
 t0 := Tryz.underlying0
 a0 := Tryz.isAgg0
 z0 := Tryz.sizeOf0
 v0 := Tryz.zeroValue0
 t3 := Tryz.underlying3
 a3 := Tryz.isAgg3
 z3 := Tryz.sizeOf3
 v3 := Tryz.zeroValue3
 t4 := Tryz.underlying4
 a4 := Tryz.isAgg4
 z4 := Tryz.sizeOf4
 v4 := Tryz.zeroValue4
 t22 := Tryz.underlying34
 a22 := Tryz.isAgg34
 z22 := Tryz.sizeOf34
 v22 := Tryz.zeroValue34
 t25 := Tryz.underlying244
 a25 := Tryz.isAgg244
 z25 := Tryz.sizeOf244
 v25 := Tryz.zeroValue244 }
open Go.RowKit Go.Lib in
theorem Tryz.slices_IndexFunc_f238 {α : Type} [Inhabited α] (k : Nat) (aE : ∀ w, (isAgg 115).run Tryz.prog w = .ok true w) (zE : ∀ w, (Go.sizeOf 115).run Tryz.prog w = .ok k w) (enc : α → List Value) (hk : ∀ x, (enc x).length = k) (p : α → Bool) (g : Nat) (lb : Array Value) (eg : ∀ args w, (callFunc g args).run Tryz.prog w = .ok (.enter g args) w) (b off n c : Nat) (zs : List α) (w : World) (hp : PredBelow Tryz.prog g lb (fun x => .agg (enc x).toArray) p w) (hz : n ≤ zs.length) (hbig : n ≤ 9223372036854775807) (hb : b < w.heap.size) (hc : ∀ j, j < zs.length → ∀ i v, (enc zs[j]!)[i]? = some v → w.cell? ⟨b, off + j * k + i, none⟩ = some v) :
  Calls Tryz.prog 238 #[.slice (some ⟨b, off, none⟩) n c, .func (.func g) #[] lb] w fun e w' => e = .returned (.int .i64 (Lib.idxBy (fun _ y => p y) (zs.take n) default)) ∧ Below w.heap.size w w' := AnyQ.slices_IndexFunc Tryz.laysSlH06_f238 k aE zE enc hk p g lb eg b off n c zs w hp hz hbig hb hc
def Tryz.laysSlH06_f239_ren : Go.Shelf.Ren := ⟨fun | 6 => 239 | n => n, fun | 22 => 37 | 23 => 119 | 25 => 249 | 3 => 3 | 0 => 0 | 4 => 4 | n => n, fun | n => n⟩
theorem Tryz.laysSlH06_f239 : Go.Proofs.SlLaysH0.n6 Tryz.prog Tryz.laysSlH06_f239_ren := {
 mixed := by kernel_rfl
 f6 := ⟨Tryz.f239.name, by decide, Tryz.func239.trans (congrArg some (by kernel_rfl))⟩
 t0 := Tryz.underlying0
 a0 := Tryz.isAgg0
 z0 := Tryz.sizeOf0
 v0 := Tryz.zeroValue0
 t3 := Tryz.underlying3
 a3 := Tryz.isAgg3
 z3 := Tryz.sizeOf3
 v3 := Tryz.zeroValue3
 t4 := Tryz.underlying4
 a4 := Tryz.isAgg4
 z4 := Tryz.sizeOf4
 v4 := Tryz.zeroValue4
 t22 := Tryz.underlying37
 a22 := Tryz.isAgg37
 z22 := Tryz.sizeOf37
 v22 := Tryz.zeroValue37
 t25 := Tryz.underlying249
 a25 := Tryz.isAgg249
 z25 := Tryz.sizeOf249
 v25 := Tryz.zeroValue249 }
open Go.RowKit Go.Lib in
theorem Tryz.slices_IndexFunc_f239 {α : Type} [Inhabited α] (k : Nat) (aE : ∀ w, (isAgg 119).run Tryz.prog w = .ok true w) (zE : ∀ w, (Go.sizeOf 119).run Tryz.prog w = .ok k w) (enc : α → List Value) (hk : ∀ x, (enc x).length = k) (p : α → Bool) (g : Nat) (lb : Array Value) (eg : ∀ args w, (callFunc g args).run Tryz.prog w = .ok (.enter g args) w) (b off n c : Nat) (zs : List α) (w : World) (hp : PredBelow Tryz.prog g lb (fun x => .agg (enc x).toArray) p w) (hz : n ≤ zs.length) (hbig : n ≤ 9223372036854775807) (hb : b < w.heap.size) (hc : ∀ j, j < zs.length → ∀ i v, (enc zs[j]!)[i]? = some v → w.cell? ⟨b, off + j * k + i, none⟩ = some v) :
  Calls Tryz.prog 239 #[.slice (some ⟨b, off, none⟩) n c, .func (.func g) #[] lb] w fun e w' => e = .returned (.int .i64 (Lib.idxBy (fun _ y => p y) (zs.take n) default)) ∧ Below w.heap.size w w' := AnyQ.slices_IndexFunc Tryz.laysSlH06_f239 k aE zE enc hk p g lb eg b off n c zs w hp hz hbig hb hc
end Go.Proofs
