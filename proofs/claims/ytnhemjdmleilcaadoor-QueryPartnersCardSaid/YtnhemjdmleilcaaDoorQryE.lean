/- A query in memory (twenty cells of a block), stores into it, and the walk of aimed and optional (both packages). No condition. -/
import Derived.Test.YtnhemjdmleilcaaDoorQryD
namespace Go.Proofs.YtnhemjdmleilcaaDoor
open Go.RowKit

/-- The cells of a query. -/
def QC (q : Qr) : Array Value := #[.int .i64 q.kind, strV q.fr, strV q.fi, strV q.tr, strV q.ti, strV q.via, .int .u32 (q.la : Int), .int .i64 q.ll, .int .u32 (q.ra : Int), .int .i64 q.rl,
  .int .u32 (q.sa : Int), .int .i64 q.sl, .int .u32 (q.da : Int), .int .i64 q.dl, .int .i64 q.proto, .int .i64 q.slo, .int .i64 q.shi, .int .i64 q.dlo, .int .i64 q.dhi, .int .i64 q.fails]
theorem QV_eq (q : Qr) : QV q = .agg (QC q) := rfl
/-- Block g holds the query q. -/
def HasQ (g : Nat) (q : Qr) (w : World) : Prop := w.heap[g]? = some (.cells (QC q) 30 (0, 0))
theorem HasQ.cell {g : Nat} {q : Qr} {w : World} (h : HasQ g q w) (j : Nat) : w.cell? ⟨g, j, none⟩ = (QC q)[j]? := Lib.cell_of_heap h j
theorem HasQ.frz {g : Nat} {q : Qr} {w : World} (h : HasQ g q w) (j : Nat) : w.frozen? ⟨g, j, none⟩ = false := Lib.frozen_of_heap h j
theorem HasQ.grown {g : Nat} {q : Qr} {w w' : World} (h : HasQ g q w) {row : Option Nat} (hg : w.grownBy w' row) (hr : some g ≠ row) : HasQ g q w' := (hg.block g (blk_lt h) hr).trans h
theorem HasQ.below {g B : Nat} {q : Qr} {w w' : World} (h : HasQ g q w) (hb : Below B w w') (hg : g < B) : HasQ g q w' := (hb.block g hg).trans h
theorem HasQ.other {g k j : Nat} {q : Qr} {w : World} (h : HasQ g q w) (v : Value) (hk : g ≠ k) : HasQ g q (w.setCell ⟨k, j, none⟩ v) := (Below.heap_setCell _ _ _ _ hk).trans h
theorem HasQ.put {g j : Nat} {q q' : Qr} {w : World} (h : HasQ g q w) (v : Value) (e : (QC q).setIfInBounds j v = QC q') : HasQ g q' (w.setCell ⟨g, j, none⟩ v) := by
  unfold HasQ
  rw [Lib.heap_setCell_same (i := j) h v]
  rw [← e]

theorem aimed_any (k : Int) (w : World) : Calls Tryd.prog 32 #[.int .i64 k] w fun e w' => e = .returned (.bool (aimedB k)) ∧ w = w' := by
  by_cases h1 : k = 1
  · subst h1
    go_enter Tryd.func32, Tryd.ntmps32
    go_wp2_with fail
    go_ret
    exact ⟨rfl, rfl⟩
  by_cases h2 : k = 2
  · subst h2
    go_enter Tryd.func32, Tryd.ntmps32
    go_wp2_with fail
    go_ret
    exact ⟨rfl, rfl⟩
  have d1 : (k == 1) = false := by simpa using h1
  have d2 : (k == 2) = false := by simpa using h2
  have E : Hid ((k == 3) = aimedB k) := Lib.hid (by unfold aimedB; rw [d1, d2]; rfl)
  go_enter Tryd.func32, Tryd.ntmps32
  go_wp2_with fail
  go_ret
  exact ⟨ret_bool E.out, rfl⟩
end Go.Proofs.YtnhemjdmleilcaaDoor
