/- The walks of optional, aimed (the reference's), validPorts, ports, ValidMatch. Condition: addresses are numbers below 2^32. -/
import Derived.Test.YtnhemjdmleilcaaGreatDoorMQry
namespace Go.Proofs.YtnhemjdmleilcaaGreatDoor
open Go.RowKit

theorem nameL (l : List UInt8) (w : World) : Calls Tryz.prog 30 #[.string (str l)] w fun e w' => e = .returned (.bool (nameB l)) ∧ w = w' := by
  have := name_any (str l) w; rwa [bytes_str] at this
theorem rnameL (l : List UInt8) (w : World) : Calls Tryz.prog 50 #[.string (str l)] w fun e w' => e = .returned (.bool (nameB l)) ∧ w = w' := by
  have := rname_any (str l) w; rwa [bytes_str] at this
theorem optional_any (l : List UInt8) (w : World) : Calls Tryz.prog 45 #[.string (str l)] w fun e w' => e = .returned (.bool (optB l)) ∧ w = w' := by
  have t := toList_str l
  cases l with
  | nil =>
    go_enter Tryz.func45, Tryz.ntmps45
    go_wp2_with fail
    go_ret
    exact ⟨rfl, rfl⟩
  | cons c r =>
    have HN := Lib.hid (nameL (c :: r) w)
    go_enter Tryz.func45, Tryz.ntmps45
    go_wp2_with fail
    refine HN.out.mono ?_
    rintro e w' ⟨rfl, rfl⟩
    go_wp2_with fail
    go_ret
    exact ⟨rfl, rfl⟩
theorem roptional_any (l : List UInt8) (w : World) : Calls Tryz.prog 51 #[.string (str l)] w fun e w' => e = .returned (.bool (optB l)) ∧ w = w' := by
  have t := toList_str l
  cases l with
  | nil =>
    go_enter Tryz.func51, Tryz.ntmps51
    go_wp2_with fail
    go_ret
    exact ⟨rfl, rfl⟩
  | cons c r =>
    have HN := Lib.hid (rnameL (c :: r) w)
    go_enter Tryz.func51, Tryz.ntmps51
    go_wp2_with fail
    refine HN.out.mono ?_
    rintro e w' ⟨rfl, rfl⟩
    go_wp2_with fail
    go_ret
    exact ⟨rfl, rfl⟩
theorem raimed_any (k : Int) (w : World) : Calls Tryz.prog 52 #[.int .i64 k] w fun e w' => e = .returned (.bool (aimedB k)) ∧ w = w' := by
  by_cases h1 : k = 1
  · subst h1
    go_enter Tryz.func52, Tryz.ntmps52
    go_wp2_with fail
    go_ret
    exact ⟨rfl, rfl⟩
  by_cases h2 : k = 2
  · subst h2
    go_enter Tryz.func52, Tryz.ntmps52
    go_wp2_with fail
    go_ret
    exact ⟨rfl, rfl⟩
  have d1 : (k == 1) = false := by simpa using h1
  have d2 : (k == 2) = false := by simpa using h2
  have E : Hid ((k == 3) = aimedB k) := Lib.hid (by unfold aimedB; rw [d1, d2]; rfl)
  go_enter Tryz.func52, Tryz.ntmps52
  go_wp2_with fail
  go_ret
  exact ⟨ret_bool E.out, rfl⟩

theorem validPorts_any (lo hi : Int) (w : World) : Calls Tryz.prog 86 #[RV lo hi] w fun e w' => e = .returned (.bool (portB lo hi)) ∧ Below w.heap.size w w' := by
  unfold RV
  have hb := fun o => (Below.refl w.heap.size w).alloc (Nat.le_refl _) o
  have HB := Lib.hid hb
  clear hb
  by_cases h1 : 0 ≤ lo
  · by_cases h2 : lo ≤ hi
    · have E : Hid (decide (hi ≤ 65535) = portB lo hi) := Lib.hid (by simp [portB, h1, h2])
      go_enter Tryz.func86, Tryz.ntmps86
      go_wp2_with fail
      all_goals (go_ret; exact ⟨ret_bool (by first | exact E.out | (rw [← E.out]; done) | (rw [← E.out]; simp; done) | (rw [← E.out]; simp; omega)), HB.out _⟩)
    · have E : Hid (false = portB lo hi) := Lib.hid (by simp [portB, h2])
      go_enter Tryz.func86, Tryz.ntmps86
      go_wp2_with fail
      all_goals (go_ret; exact ⟨ret_bool E.out, HB.out _⟩)
  · have E : Hid (false = portB lo hi) := Lib.hid (by simp [portB, h1])
    go_enter Tryz.func86, Tryz.ntmps86
    go_wp2_with fail
    all_goals (go_ret; exact ⟨ret_bool E.out, HB.out _⟩)
theorem rports_any (lo hi : Int) (w : World) : Calls Tryz.prog 54 #[RV lo hi] w fun e w' => e = .returned (.bool (portB lo hi)) ∧ Below w.heap.size w w' := by
  unfold RV
  have hb := fun o => (Below.refl w.heap.size w).alloc (Nat.le_refl _) o
  have HB := Lib.hid hb
  clear hb
  by_cases h1 : 0 ≤ lo
  · by_cases h2 : lo ≤ hi
    · have E : Hid (decide (hi ≤ 65535) = portB lo hi) := Lib.hid (by simp [portB, h1, h2])
      go_enter Tryz.func54, Tryz.ntmps54
      go_wp2_with fail
      all_goals (go_ret; exact ⟨ret_bool (by first | exact E.out | (rw [← E.out]; done) | (rw [← E.out]; simp; done) | (rw [← E.out]; simp; omega)), HB.out _⟩)
    · have E : Hid (false = portB lo hi) := Lib.hid (by simp [portB, h2])
      go_enter Tryz.func54, Tryz.ntmps54
      go_wp2_with fail
      all_goals (go_ret; exact ⟨ret_bool E.out, HB.out _⟩)
  · have E : Hid (false = portB lo hi) := Lib.hid (by simp [portB, h1])
    go_enter Tryz.func54, Tryz.ntmps54
    go_wp2_with fail
    all_goals (go_ret; exact ⟨ret_bool E.out, HB.out _⟩)
/-- A match: nine cells. -/
def MC (sa : Nat) (sl : Int) (da : Nat) (dl proto slo shi dlo dhi : Int) : Array Value := #[.int .u32 (sa : Int), .int .i64 sl, .int .u32 (da : Int), .int .i64 dl, .int .i64 proto, .int .i64 slo, .int .i64 shi, .int .i64 dlo, .int .i64 dhi]
def MV (sa : Nat) (sl : Int) (da : Nat) (dl proto slo shi dlo dhi : Int) : Value := .agg (MC sa sl da dl proto slo shi dlo dhi)
theorem cells_below {w1 w2 : World} {g : Nat} {cs : Array Value} {T : TypeId} (h : w1.heap[g]? = some (.cells cs T (0, 0))) (hb : Below w1.heap.size w1 w2) : w2.heap[g]? = some (.cells cs T (0, 0)) ∧ w1.heap.size ≤ w2.heap.size :=
  ⟨(hb.block g (blk_lt h)).trans h, hb.size⟩
set_option maxRecDepth 4000 in
set_option maxHeartbeats 1000000 in
theorem validMatch_any (sa : Nat) (sl : Int) (da : Nat) (dl proto slo shi dlo dhi : Int) (w : World) (hsa : sa < 4294967296) (hda : da < 4294967296) :
    Calls Tryz.prog 47 #[MV sa sl da dl proto slo shi dlo dhi] w fun e w' => e = .returned (.bool (matchB sa sl da dl proto slo shi dlo dhi)) ∧ Below w.heap.size w w' := by
  unfold MV MC
  have HA := Lib.hid (fun w => valid_any sa sl w hsa)
  have HD := Lib.hid (fun w => valid_any da dl w hda)
  have HS := Lib.hid (fun w => validPorts_any slo shi w)
  have HT := Lib.hid (fun w => validPorts_any dlo dhi w)
  unfold PV at HA HD
  unfold RV at HS HT
  have H0 := Lib.hid (heap_alloc_new w (.cells (MC sa sl da dl proto slo shi dlo dhi) 31))
  have B0 := Lib.hid ((Below.refl w.heap.size w).alloc (Nat.le_refl _) (.cells (MC sa sl da dl proto slo shi dlo dhi) 31))
  go_enter Tryz.func47, Tryz.ntmps47
  go_wp2_with fail
  refine (HA.out _).mono ?_
  rintro e w1 ⟨rfl, hb1⟩
  have H1 := Lib.hid (cells_below H0.out hb1)
  have B1 := Lib.hid (B0.out.trans (hb1.mono (by simp)))
  clear hb1
  cases ha : validP sa sl with
  | false =>
    go_wp2_with fail
    go_ret
    exact ⟨ret_bool (by simp [matchB, ha]), B1.out⟩
  | true =>
  have c2 : w1.cell? ⟨w.heap.size, 2, none⟩ = some (.int .u32 (da : Int)) := Lib.cell_of_heap H1.out.1 2
  have c3 : w1.cell? ⟨w.heap.size, 3, none⟩ = some (.int .i64 dl) := Lib.cell_of_heap H1.out.1 3
  go_wp2_with fail
  refine (HD.out _).mono ?_
  rintro e w2 ⟨rfl, hb2⟩
  have H2 := Lib.hid (cells_below H1.out.1 hb2)
  have B2 := Lib.hid (B1.out.trans (hb2.mono B1.out.size))
  clear hb2 c2 c3
  cases hd : validP da dl with
  | false =>
    go_wp2_with fail
    go_ret
    exact ⟨ret_bool (by simp [matchB, hd]), B2.out⟩
  | true =>
  have c4 : w2.cell? ⟨w.heap.size, 4, none⟩ = some (.int .i64 proto) := Lib.cell_of_heap H2.out.1 4
  by_cases h1 : -1 ≤ proto
  case neg =>
    go_wp2_with fail
    go_ret
    exact ⟨ret_bool (by simp [matchB, show ¬ -1 ≤ proto by omega]), B2.out⟩
  by_cases h2 : proto ≤ 255
  case neg =>
    go_wp2_with fail
    go_ret
    exact ⟨ret_bool (by simp [matchB, show ¬ proto ≤ 255 by omega]), B2.out⟩
  have c5 : w2.cell? ⟨w.heap.size, 5, none⟩ = some (.int .i64 slo) := Lib.cell_of_heap H2.out.1 5
  have c6 : w2.cell? ⟨w.heap.size, 6, none⟩ = some (.int .i64 shi) := Lib.cell_of_heap H2.out.1 6
  go_wp2_with fail
  refine (HS.out _).mono ?_
  rintro e w3 ⟨rfl, hb3⟩
  have H3 := Lib.hid (cells_below H2.out.1 hb3)
  have B3 := Lib.hid (B2.out.trans (hb3.mono B2.out.size))
  clear hb3 c4 c5 c6
  cases hs : portB slo shi with
  | false =>
    go_wp2_with fail
    go_ret
    exact ⟨ret_bool (by simp [matchB, hs]), B3.out⟩
  | true =>
  have c7 : w3.cell? ⟨w.heap.size, 7, none⟩ = some (.int .i64 dlo) := Lib.cell_of_heap H3.out.1 7
  have c8 : w3.cell? ⟨w.heap.size, 8, none⟩ = some (.int .i64 dhi) := Lib.cell_of_heap H3.out.1 8
  go_wp2_with fail
  refine (HT.out _).mono ?_
  rintro e w4 ⟨rfl, hb4⟩
  have B4 := Lib.hid (B3.out.trans (hb4.mono B3.out.size))
  clear hb4 c7 c8
  go_wp2_with fail
  go_ret
  exact ⟨ret_bool (by simp [matchB, ha, hd, h1, h2, hs]), B4.out⟩
end Go.Proofs.YtnhemjdmleilcaaGreatDoor
