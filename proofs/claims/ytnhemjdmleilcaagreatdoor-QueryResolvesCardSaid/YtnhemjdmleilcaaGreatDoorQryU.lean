/- The walks of Valid, of the reference. Condition: addresses are numbers below 2^32. -/
import Derived.Test.YtnhemjdmleilcaaGreatDoorQryV
namespace Go.Proofs.YtnhemjdmleilcaaGreatDoor
open Go.RowKit

set_option maxRecDepth 100000 in
set_option maxHeartbeats 2000000 in
theorem rvalid_A (q : Qr) (w : World) (hq : q.fit) (h1 : 1 ≤ q.kind) (h2 : q.kind ≤ 6) (h3 : 0 ≤ q.fails) (h4 : q.fails ≤ 2) (ka : aimedB q.kind = true) (k3 : (q.kind == 3) = false) (k6 : (q.kind == 6) = false) :
    Calls Tryz.prog 18 #[QV q] w (VPost q w) := by
  obtain ⟨kind, fr, fi, tr, ti, via, la, ll, ra, rl, sa, sl, da, dl, proto, slo, shi, dlo, dhi, fails⟩ := q
  obtain ⟨q1, q2, q3, q4⟩ := hq
  unfold QV strV
  dsimp only at q1 q2 q3 q4 h1 h2 h3 h4 ka k3 k6 ⊢
  have HK : Hid (¬ (kind < 1 ∨ 6 < kind ∨ fails < 0 ∨ 2 < fails)) := Lib.hid (by omega)
  have KA := Lib.hid ka
  have K3 := Lib.hid k3
  have K6 := Lib.hid k6
  clear ka
  have n3 : (kind != 3) = true := by simp only [bne, k3]; rfl
  have n6 : (kind != 6) = true := by simp only [bne, k6]; rfl
  have H0 := Lib.hid (heap_alloc_new w (.cells (QC (⟨kind, fr, fi, tr, ti, via, la, ll, ra, rl, sa, sl, da, dl, proto, slo, shi, dlo, dhi, fails⟩ : Qr)) 33))
  have B0 := Lib.hid ((Below.refl w.heap.size w).alloc (Nat.le_refl _) (.cells (QC (⟨kind, fr, fi, tr, ti, via, la, ll, ra, rl, sa, sl, da, dl, proto, slo, shi, dlo, dhi, fails⟩ : Qr)) 33))
  have H0b := Lib.hid (cells_below H0.out ((Below.refl _ _).alloc (Nat.le_refl _) (.cells #[.int .u32 0, .int .i64 0] 27)))
  have B0b := Lib.hid (B0.out.alloc (by simp) (.cells #[.int .u32 0, .int .i64 0] 27))
  have HM := Lib.hid (heap_alloc_new ((w.alloc (.cells (QC (⟨kind, fr, fi, tr, ti, via, la, ll, ra, rl, sa, sl, da, dl, proto, slo, shi, dlo, dhi, fails⟩ : Qr)) 33)).alloc (.cells #[.int .u32 0, .int .i64 0] 27)) (.cells (MC sa sl da dl proto slo shi dlo dhi) 31))
  have BM := Lib.hid ((B0.out.alloc (by simp) (.cells #[.int .u32 0, .int .i64 0] 27)).alloc (by simp; omega) (.cells (MC sa sl da dl proto slo shi dlo dhi) 31))
  have hG : ((w.alloc (.cells (QC (⟨kind, fr, fi, tr, ti, via, la, ll, ra, rl, sa, sl, da, dl, proto, slo, shi, dlo, dhi, fails⟩ : Qr)) 33)).alloc (.cells #[.int .u32 0, .int .i64 0] 27)).heap.size = w.heap.size + 1 + 1 := by simp
  rw [hG] at HM
  clear hG
  go_enter Tryz.func18, Tryz.ntmps18
  go_wp2_with fail
  refine (rnameL _ _).mono ?_
  rintro e w' ⟨rfl, rfl⟩
  cases f5 : nameB fr with
  | false =>
    go_wp2_with fail
    go_ret
    have z1 := HK.out
    have z2 := KA.out
    exact vpost (by simp [validE, *]) B0.out
  | true =>
  replace f5 := Lib.hid f5
  go_wp2_with fail
  refine (roptional_any _ _).mono ?_
  rintro e w' ⟨rfl, rfl⟩
  cases f6 : optB fi with
  | false =>
    go_wp2_with fail
    go_ret
    have z1 := HK.out
    have z2 := KA.out
    have z3 := f5.out
    exact vpost (by simp [validE, *]) B0.out
  | true =>
  replace f6 := Lib.hid f6
  go_wp2_with fail
  refine (raimed_any _ _).mono ?_
  rintro e w' ⟨rfl, rfl⟩
  rw [KA.out]
  go_wp2_with fail
  refine (rnameL _ _).mono ?_
  rintro e w' ⟨rfl, rfl⟩
  cases f7 : nameB tr with
  | false =>
    go_wp2_with fail
    go_ret
    have z1 := HK.out
    have z2 := KA.out
    have z3 := f5.out
    have z4 := f6.out
    exact vpost (by simp [validE, *]) B0.out
  | true =>
  replace f7 := Lib.hid f7
  go_wp2_with fail
  refine (roptional_any _ _).mono ?_
  rintro e w' ⟨rfl, rfl⟩
  cases f8 : optB ti with
  | false =>
    go_wp2_with fail
    go_ret
    have z1 := HK.out
    have z2 := KA.out
    have z3 := f5.out
    have z4 := f6.out
    have z5 := f7.out
    exact vpost (by simp [validE, *]) B0.out
  | true =>
  replace f8 := Lib.hid f8
  go_wp2_with fail
  refine (raimed_any _ _).mono ?_
  rintro e w' ⟨rfl, rfl⟩
  rw [KA.out]
  have tvia := toList_str via
  cases via with
  | cons c r =>
    go_wp2_with fail
    go_ret
    have z1 := HK.out
    have z2 := KA.out
    have z3 := f5.out
    have z4 := f6.out
    have z5 := f7.out
    have z6 := f8.out
    exact vpost (by simp [validE, *]) B0.out
  | nil =>
  cases f9 : zeroP la ll with
  | false =>
    have rla : ∀ w, (binOp .neq 27 (.agg #[.int .u32 (la : Int), .int .i64 ll]) (.agg #[.int .u32 0, .int .i64 0])).run Tryz.prog w = .ok (.bool true) w := fun w => (pfx_neq la 0 ll 0 w).trans (by rw [show decide (la = 0 ∧ ll = 0) = false from by simpa [zeroP] using f9]; rfl)
    replace f9 := Lib.hid f9
    go_wp2_with fail
    go_ret
    have z1 := HK.out
    have z2 := KA.out
    have z3 := f5.out
    have z4 := f6.out
    have z5 := f7.out
    have z6 := f8.out
    have z7 := f9.out
    exact vpost (by simp [validE, *]) B0b.out
  | true =>
  have rla : ∀ w, (binOp .neq 27 (.agg #[.int .u32 (la : Int), .int .i64 ll]) (.agg #[.int .u32 0, .int .i64 0])).run Tryz.prog w = .ok (.bool false) w := fun w => (pfx_neq la 0 ll 0 w).trans (by rw [show decide (la = 0 ∧ ll = 0) = true from by simpa [zeroP] using f9]; rfl)
  replace f9 := Lib.hid f9
  cases f10 : zeroP ra rl with
  | false =>
    have rra : ∀ w, (binOp .neq 27 (.agg #[.int .u32 (ra : Int), .int .i64 rl]) (.agg #[.int .u32 0, .int .i64 0])).run Tryz.prog w = .ok (.bool true) w := fun w => (pfx_neq ra 0 rl 0 w).trans (by rw [show decide (ra = 0 ∧ rl = 0) = false from by simpa [zeroP] using f10]; rfl)
    replace f10 := Lib.hid f10
    go_wp2_with fail
    go_ret
    have z1 := HK.out
    have z2 := KA.out
    have z3 := f5.out
    have z4 := f6.out
    have z5 := f7.out
    have z6 := f8.out
    have z7 := f9.out
    have z8 := f10.out
    exact vpost (by simp [validE, *]) B0b.out
  | true =>
  have rra : ∀ w, (binOp .neq 27 (.agg #[.int .u32 (ra : Int), .int .i64 rl]) (.agg #[.int .u32 0, .int .i64 0])).run Tryz.prog w = .ok (.bool false) w := fun w => (pfx_neq ra 0 rl 0 w).trans (by rw [show decide (ra = 0 ∧ rl = 0) = true from by simpa [zeroP] using f10]; rfl)
  replace f10 := Lib.hid f10
  go_wp2_with fail
  refine (rvalid_any _ _ _ q3).mono ?_
  rintro e w3 ⟨rfl, hb⟩
  have H3 := Lib.hid (cells_below HM.out hb)
  have B3 := Lib.hid (BM.out.trans (hb.mono (by first | exact BM.out.size | (simp; done) | (simp; omega))))
  clear hb
  cases f12 : validP sa sl with
  | false =>
    go_wp2_with fail
    go_ret
    have z1 := HK.out
    have z2 := KA.out
    have z3 := f5.out
    have z4 := f6.out
    have z5 := f7.out
    have z6 := f8.out
    have z7 := f9.out
    have z8 := f10.out
    exact vpost (by simp [validE, matchB, *]) B3.out
  | true =>
  replace f12 := Lib.hid f12
  have e3_2 : w3.cell? ⟨(w.heap.size + 1 + 1), 2, none⟩ = some (.int .u32 (da : Int)) := Lib.cell_of_heap H3.out.1 2
  have e3_3 : w3.cell? ⟨(w.heap.size + 1 + 1), 3, none⟩ = some (.int .i64 dl) := Lib.cell_of_heap H3.out.1 3
  go_wp2_with fail
  refine (rvalid_any _ _ _ q4).mono ?_
  rintro e w4 ⟨rfl, hb⟩
  have H4 := Lib.hid (cells_below H3.out.1 hb)
  have B4 := Lib.hid (B3.out.trans (hb.mono (by first | exact B3.out.size | (simp; done) | (simp; omega))))
  clear hb
  cases f13 : validP da dl with
  | false =>
    go_wp2_with fail
    go_ret
    have z1 := HK.out
    have z2 := KA.out
    have z3 := f5.out
    have z4 := f6.out
    have z5 := f7.out
    have z6 := f8.out
    have z7 := f9.out
    have z8 := f10.out
    have z9 := f12.out
    exact vpost (by simp [validE, matchB, *]) B4.out
  | true =>
  replace f13 := Lib.hid f13
  have e4_4 : w4.cell? ⟨(w.heap.size + 1 + 1), 4, none⟩ = some (.int .i64 proto) := Lib.cell_of_heap H4.out.1 4
  have e4_5 : w4.cell? ⟨(w.heap.size + 1 + 1), 5, none⟩ = some (.int .i64 slo) := Lib.cell_of_heap H4.out.1 5
  have e4_6 : w4.cell? ⟨(w.heap.size + 1 + 1), 6, none⟩ = some (.int .i64 shi) := Lib.cell_of_heap H4.out.1 6
  by_cases f14 : proto < -1
  case pos =>
    go_wp2_with fail
    go_ret
    have z1 := HK.out
    have z2 := KA.out
    have z3 := f5.out
    have z4 := f6.out
    have z5 := f7.out
    have z6 := f8.out
    have z7 := f9.out
    have z8 := f10.out
    have z9 := f12.out
    have z10 := f13.out
    have z11 : ¬ -1 ≤ proto := by omega
    exact vpost (by simp [validE, matchB, *]) B4.out
  by_cases f14 : 255 < proto
  case pos =>
    go_wp2_with fail
    go_ret
    have z1 := HK.out
    have z2 := KA.out
    have z3 := f5.out
    have z4 := f6.out
    have z5 := f7.out
    have z6 := f8.out
    have z7 := f9.out
    have z8 := f10.out
    have z9 := f12.out
    have z10 := f13.out
    have z11 : ¬ proto ≤ 255 := by omega
    exact vpost (by simp [validE, matchB, *]) B4.out
  go_wp2_with fail
  refine (rports_any slo shi _).mono ?_
  rintro e w5 ⟨rfl, hb⟩
  have H5 := Lib.hid (cells_below H4.out.1 hb)
  have B5 := Lib.hid (B4.out.trans (hb.mono (by first | exact B4.out.size | (simp; done) | (simp; omega))))
  clear hb
  cases f16 : portB slo shi with
  | false =>
    go_wp2_with fail
    go_ret
    have z1 := HK.out
    have z2 := KA.out
    have z3 := f5.out
    have z4 := f6.out
    have z5 := f7.out
    have z6 := f8.out
    have z7 := f9.out
    have z8 := f10.out
    have z9 := f12.out
    have z10 := f13.out
    have z11 : -1 ≤ proto := by omega
    have z12 : proto ≤ 255 := by omega
    exact vpost (by simp [validE, matchB, *]) B5.out
  | true =>
  replace f16 := Lib.hid f16
  have e5_7 : w5.cell? ⟨(w.heap.size + 1 + 1), 7, none⟩ = some (.int .i64 dlo) := Lib.cell_of_heap H5.out.1 7
  have e5_8 : w5.cell? ⟨(w.heap.size + 1 + 1), 8, none⟩ = some (.int .i64 dhi) := Lib.cell_of_heap H5.out.1 8
  go_wp2_with fail
  refine (rports_any dlo dhi _).mono ?_
  rintro e w9 ⟨rfl, hb⟩
  have B9 := Lib.hid (B5.out.trans (hb.mono (by first | exact B5.out.size | (simp; done) | (simp; omega))))
  clear hb
  cases f17 : portB dlo dhi with
  | false =>
    go_wp2_with fail
    go_ret
    have z1 := HK.out
    have z2 := KA.out
    have z3 := f5.out
    have z4 := f6.out
    have z5 := f7.out
    have z6 := f8.out
    have z7 := f9.out
    have z8 := f10.out
    have z9 := f12.out
    have z10 := f13.out
    have z11 : -1 ≤ proto := by omega
    have z12 : proto ≤ 255 := by omega
    have z13 := f16.out
    exact vpost (by simp [validE, matchB, *]) B9.out
  | true =>
  go_wp2_with fail
  go_ret
  have z1 := HK.out
  have z2 := KA.out
  have z3 := f5.out
  have z4 := f6.out
  have z5 := f7.out
  have z6 := f8.out
  have z7 := f9.out
  have z8 := f10.out
  have z9 := f12.out
  have z10 := f13.out
  have z11 : -1 ≤ proto := by omega
  have z12 : proto ≤ 255 := by omega
  have z13 := f16.out
  exact vpost (by simp [validE, matchB, *]) B9.out

set_option maxRecDepth 100000 in
set_option maxHeartbeats 2000000 in
theorem rvalid_B (q : Qr) (w : World) (hq : q.fit) (h1 : 1 ≤ q.kind) (h2 : q.kind ≤ 6) (h3 : 0 ≤ q.fails) (h4 : q.fails ≤ 2) (ka : aimedB q.kind = true) (k3 : (q.kind == 3) = true) (k6 : (q.kind == 6) = false) :
    Calls Tryz.prog 18 #[QV q] w (VPost q w) := by
  obtain ⟨kind, fr, fi, tr, ti, via, la, ll, ra, rl, sa, sl, da, dl, proto, slo, shi, dlo, dhi, fails⟩ := q
  obtain ⟨q1, q2, q3, q4⟩ := hq
  unfold QV strV
  dsimp only at q1 q2 q3 q4 h1 h2 h3 h4 ka k3 k6 ⊢
  have HK : Hid (¬ (kind < 1 ∨ 6 < kind ∨ fails < 0 ∨ 2 < fails)) := Lib.hid (by omega)
  have KA := Lib.hid ka
  have K3 := Lib.hid k3
  have K6 := Lib.hid k6
  clear ka
  have n3 : (kind != 3) = false := by simp only [bne, k3]; rfl
  have n6 : (kind != 6) = true := by simp only [bne, k6]; rfl
  have H0 := Lib.hid (heap_alloc_new w (.cells (QC (⟨kind, fr, fi, tr, ti, via, la, ll, ra, rl, sa, sl, da, dl, proto, slo, shi, dlo, dhi, fails⟩ : Qr)) 33))
  have B0 := Lib.hid ((Below.refl w.heap.size w).alloc (Nat.le_refl _) (.cells (QC (⟨kind, fr, fi, tr, ti, via, la, ll, ra, rl, sa, sl, da, dl, proto, slo, shi, dlo, dhi, fails⟩ : Qr)) 33))
  have H0b := Lib.hid (cells_below H0.out ((Below.refl _ _).alloc (Nat.le_refl _) (.cells #[.int .u32 0, .int .i64 0] 27)))
  have B0b := Lib.hid (B0.out.alloc (by simp) (.cells #[.int .u32 0, .int .i64 0] 27))
  have HM := Lib.hid (heap_alloc_new ((w.alloc (.cells (QC (⟨kind, fr, fi, tr, ti, via, la, ll, ra, rl, sa, sl, da, dl, proto, slo, shi, dlo, dhi, fails⟩ : Qr)) 33)).alloc (.cells #[.int .u32 0, .int .i64 0] 27)) (.cells (MC sa sl da dl proto slo shi dlo dhi) 31))
  have BM := Lib.hid ((B0.out.alloc (by simp) (.cells #[.int .u32 0, .int .i64 0] 27)).alloc (by simp; omega) (.cells (MC sa sl da dl proto slo shi dlo dhi) 31))
  have hG : ((w.alloc (.cells (QC (⟨kind, fr, fi, tr, ti, via, la, ll, ra, rl, sa, sl, da, dl, proto, slo, shi, dlo, dhi, fails⟩ : Qr)) 33)).alloc (.cells #[.int .u32 0, .int .i64 0] 27)).heap.size = w.heap.size + 1 + 1 := by simp
  rw [hG] at HM
  clear hG
  go_enter Tryz.func18, Tryz.ntmps18
  go_wp2_with fail
  refine (rnameL _ _).mono ?_
  rintro e w' ⟨rfl, rfl⟩
  cases f5 : nameB fr with
  | false =>
    go_wp2_with fail
    go_ret
    have z1 := HK.out
    have z2 := KA.out
    exact vpost (by simp [validE, *]) B0.out
  | true =>
  replace f5 := Lib.hid f5
  go_wp2_with fail
  refine (roptional_any _ _).mono ?_
  rintro e w' ⟨rfl, rfl⟩
  cases f6 : optB fi with
  | false =>
    go_wp2_with fail
    go_ret
    have z1 := HK.out
    have z2 := KA.out
    have z3 := f5.out
    exact vpost (by simp [validE, *]) B0.out
  | true =>
  replace f6 := Lib.hid f6
  go_wp2_with fail
  refine (raimed_any _ _).mono ?_
  rintro e w' ⟨rfl, rfl⟩
  rw [KA.out]
  go_wp2_with fail
  refine (rnameL _ _).mono ?_
  rintro e w' ⟨rfl, rfl⟩
  cases f7 : nameB tr with
  | false =>
    go_wp2_with fail
    go_ret
    have z1 := HK.out
    have z2 := KA.out
    have z3 := f5.out
    have z4 := f6.out
    exact vpost (by simp [validE, *]) B0.out
  | true =>
  replace f7 := Lib.hid f7
  go_wp2_with fail
  refine (roptional_any _ _).mono ?_
  rintro e w' ⟨rfl, rfl⟩
  cases f8 : optB ti with
  | false =>
    go_wp2_with fail
    go_ret
    have z1 := HK.out
    have z2 := KA.out
    have z3 := f5.out
    have z4 := f6.out
    have z5 := f7.out
    exact vpost (by simp [validE, *]) B0.out
  | true =>
  replace f8 := Lib.hid f8
  go_wp2_with fail
  refine (raimed_any _ _).mono ?_
  rintro e w' ⟨rfl, rfl⟩
  rw [KA.out]
  go_wp2_with fail
  refine (rnameL _ _).mono ?_
  rintro e w' ⟨rfl, rfl⟩
  cases f9 : nameB via with
  | false =>
    go_wp2_with fail
    go_ret
    have z1 := HK.out
    have z2 := KA.out
    have z3 := f5.out
    have z4 := f6.out
    have z5 := f7.out
    have z6 := f8.out
    exact vpost (by simp [validE, *]) B0.out
  | true =>
  replace f9 := Lib.hid f9
  cases f10 : zeroP la ll with
  | false =>
    have rla : ∀ w, (binOp .neq 27 (.agg #[.int .u32 (la : Int), .int .i64 ll]) (.agg #[.int .u32 0, .int .i64 0])).run Tryz.prog w = .ok (.bool true) w := fun w => (pfx_neq la 0 ll 0 w).trans (by rw [show decide (la = 0 ∧ ll = 0) = false from by simpa [zeroP] using f10]; rfl)
    replace f10 := Lib.hid f10
    go_wp2_with fail
    go_ret
    have z1 := HK.out
    have z2 := KA.out
    have z3 := f5.out
    have z4 := f6.out
    have z5 := f7.out
    have z6 := f8.out
    have z7 := f9.out
    have z8 := f10.out
    exact vpost (by simp [validE, *]) B0b.out
  | true =>
  have rla : ∀ w, (binOp .neq 27 (.agg #[.int .u32 (la : Int), .int .i64 ll]) (.agg #[.int .u32 0, .int .i64 0])).run Tryz.prog w = .ok (.bool false) w := fun w => (pfx_neq la 0 ll 0 w).trans (by rw [show decide (la = 0 ∧ ll = 0) = true from by simpa [zeroP] using f10]; rfl)
  replace f10 := Lib.hid f10
  cases f11 : zeroP ra rl with
  | false =>
    have rra : ∀ w, (binOp .neq 27 (.agg #[.int .u32 (ra : Int), .int .i64 rl]) (.agg #[.int .u32 0, .int .i64 0])).run Tryz.prog w = .ok (.bool true) w := fun w => (pfx_neq ra 0 rl 0 w).trans (by rw [show decide (ra = 0 ∧ rl = 0) = false from by simpa [zeroP] using f11]; rfl)
    replace f11 := Lib.hid f11
    go_wp2_with fail
    go_ret
    have z1 := HK.out
    have z2 := KA.out
    have z3 := f5.out
    have z4 := f6.out
    have z5 := f7.out
    have z6 := f8.out
    have z7 := f9.out
    have z8 := f10.out
    have z9 := f11.out
    exact vpost (by simp [validE, *]) B0b.out
  | true =>
  have rra : ∀ w, (binOp .neq 27 (.agg #[.int .u32 (ra : Int), .int .i64 rl]) (.agg #[.int .u32 0, .int .i64 0])).run Tryz.prog w = .ok (.bool false) w := fun w => (pfx_neq ra 0 rl 0 w).trans (by rw [show decide (ra = 0 ∧ rl = 0) = true from by simpa [zeroP] using f11]; rfl)
  replace f11 := Lib.hid f11
  go_wp2_with fail
  refine (rvalid_any _ _ _ q3).mono ?_
  rintro e w3 ⟨rfl, hb⟩
  have H3 := Lib.hid (cells_below HM.out hb)
  have B3 := Lib.hid (BM.out.trans (hb.mono (by first | exact BM.out.size | (simp; done) | (simp; omega))))
  clear hb
  cases f13 : validP sa sl with
  | false =>
    go_wp2_with fail
    go_ret
    have z1 := HK.out
    have z2 := KA.out
    have z3 := f5.out
    have z4 := f6.out
    have z5 := f7.out
    have z6 := f8.out
    have z7 := f9.out
    have z8 := f10.out
    have z9 := f11.out
    exact vpost (by simp [validE, matchB, *]) B3.out
  | true =>
  replace f13 := Lib.hid f13
  have e3_2 : w3.cell? ⟨(w.heap.size + 1 + 1), 2, none⟩ = some (.int .u32 (da : Int)) := Lib.cell_of_heap H3.out.1 2
  have e3_3 : w3.cell? ⟨(w.heap.size + 1 + 1), 3, none⟩ = some (.int .i64 dl) := Lib.cell_of_heap H3.out.1 3
  go_wp2_with fail
  refine (rvalid_any _ _ _ q4).mono ?_
  rintro e w4 ⟨rfl, hb⟩
  have H4 := Lib.hid (cells_below H3.out.1 hb)
  have B4 := Lib.hid (B3.out.trans (hb.mono (by first | exact B3.out.size | (simp; done) | (simp; omega))))
  clear hb
  cases f14 : validP da dl with
  | false =>
    go_wp2_with fail
    go_ret
    have z1 := HK.out
    have z2 := KA.out
    have z3 := f5.out
    have z4 := f6.out
    have z5 := f7.out
    have z6 := f8.out
    have z7 := f9.out
    have z8 := f10.out
    have z9 := f11.out
    have z10 := f13.out
    exact vpost (by simp [validE, matchB, *]) B4.out
  | true =>
  replace f14 := Lib.hid f14
  have e4_4 : w4.cell? ⟨(w.heap.size + 1 + 1), 4, none⟩ = some (.int .i64 proto) := Lib.cell_of_heap H4.out.1 4
  have e4_5 : w4.cell? ⟨(w.heap.size + 1 + 1), 5, none⟩ = some (.int .i64 slo) := Lib.cell_of_heap H4.out.1 5
  have e4_6 : w4.cell? ⟨(w.heap.size + 1 + 1), 6, none⟩ = some (.int .i64 shi) := Lib.cell_of_heap H4.out.1 6
  by_cases f15 : proto < -1
  case pos =>
    go_wp2_with fail
    go_ret
    have z1 := HK.out
    have z2 := KA.out
    have z3 := f5.out
    have z4 := f6.out
    have z5 := f7.out
    have z6 := f8.out
    have z7 := f9.out
    have z8 := f10.out
    have z9 := f11.out
    have z10 := f13.out
    have z11 := f14.out
    have z12 : ¬ -1 ≤ proto := by omega
    exact vpost (by simp [validE, matchB, *]) B4.out
  by_cases f15 : 255 < proto
  case pos =>
    go_wp2_with fail
    go_ret
    have z1 := HK.out
    have z2 := KA.out
    have z3 := f5.out
    have z4 := f6.out
    have z5 := f7.out
    have z6 := f8.out
    have z7 := f9.out
    have z8 := f10.out
    have z9 := f11.out
    have z10 := f13.out
    have z11 := f14.out
    have z12 : ¬ proto ≤ 255 := by omega
    exact vpost (by simp [validE, matchB, *]) B4.out
  go_wp2_with fail
  refine (rports_any slo shi _).mono ?_
  rintro e w5 ⟨rfl, hb⟩
  have H5 := Lib.hid (cells_below H4.out.1 hb)
  have B5 := Lib.hid (B4.out.trans (hb.mono (by first | exact B4.out.size | (simp; done) | (simp; omega))))
  clear hb
  cases f17 : portB slo shi with
  | false =>
    go_wp2_with fail
    go_ret
    have z1 := HK.out
    have z2 := KA.out
    have z3 := f5.out
    have z4 := f6.out
    have z5 := f7.out
    have z6 := f8.out
    have z7 := f9.out
    have z8 := f10.out
    have z9 := f11.out
    have z10 := f13.out
    have z11 := f14.out
    have z12 : -1 ≤ proto := by omega
    have z13 : proto ≤ 255 := by omega
    exact vpost (by simp [validE, matchB, *]) B5.out
  | true =>
  replace f17 := Lib.hid f17
  have e5_7 : w5.cell? ⟨(w.heap.size + 1 + 1), 7, none⟩ = some (.int .i64 dlo) := Lib.cell_of_heap H5.out.1 7
  have e5_8 : w5.cell? ⟨(w.heap.size + 1 + 1), 8, none⟩ = some (.int .i64 dhi) := Lib.cell_of_heap H5.out.1 8
  go_wp2_with fail
  refine (rports_any dlo dhi _).mono ?_
  rintro e w9 ⟨rfl, hb⟩
  have B9 := Lib.hid (B5.out.trans (hb.mono (by first | exact B5.out.size | (simp; done) | (simp; omega))))
  clear hb
  cases f18 : portB dlo dhi with
  | false =>
    go_wp2_with fail
    go_ret
    have z1 := HK.out
    have z2 := KA.out
    have z3 := f5.out
    have z4 := f6.out
    have z5 := f7.out
    have z6 := f8.out
    have z7 := f9.out
    have z8 := f10.out
    have z9 := f11.out
    have z10 := f13.out
    have z11 := f14.out
    have z12 : -1 ≤ proto := by omega
    have z13 : proto ≤ 255 := by omega
    have z14 := f17.out
    exact vpost (by simp [validE, matchB, *]) B9.out
  | true =>
  go_wp2_with fail
  go_ret
  have z1 := HK.out
  have z2 := KA.out
  have z3 := f5.out
  have z4 := f6.out
  have z5 := f7.out
  have z6 := f8.out
  have z7 := f9.out
  have z8 := f10.out
  have z9 := f11.out
  have z10 := f13.out
  have z11 := f14.out
  have z12 : -1 ≤ proto := by omega
  have z13 : proto ≤ 255 := by omega
  have z14 := f17.out
  exact vpost (by simp [validE, matchB, *]) B9.out

set_option maxRecDepth 100000 in
set_option maxHeartbeats 2000000 in
theorem rvalid_C (q : Qr) (w : World) (hq : q.fit) (h1 : 1 ≤ q.kind) (h2 : q.kind ≤ 6) (h3 : 0 ≤ q.fails) (h4 : q.fails ≤ 2) (ka : aimedB q.kind = false) (k3 : (q.kind == 3) = false) (k6 : (q.kind == 6) = false) :
    Calls Tryz.prog 18 #[QV q] w (VPost q w) := by
  obtain ⟨kind, fr, fi, tr, ti, via, la, ll, ra, rl, sa, sl, da, dl, proto, slo, shi, dlo, dhi, fails⟩ := q
  obtain ⟨q1, q2, q3, q4⟩ := hq
  unfold QV strV
  dsimp only at q1 q2 q3 q4 h1 h2 h3 h4 ka k3 k6 ⊢
  have HK : Hid (¬ (kind < 1 ∨ 6 < kind ∨ fails < 0 ∨ 2 < fails)) := Lib.hid (by omega)
  have KA := Lib.hid ka
  have K3 := Lib.hid k3
  have K6 := Lib.hid k6
  clear ka
  have n3 : (kind != 3) = true := by simp only [bne, k3]; rfl
  have n6 : (kind != 6) = true := by simp only [bne, k6]; rfl
  have H0 := Lib.hid (heap_alloc_new w (.cells (QC (⟨kind, fr, fi, tr, ti, via, la, ll, ra, rl, sa, sl, da, dl, proto, slo, shi, dlo, dhi, fails⟩ : Qr)) 33))
  have B0 := Lib.hid ((Below.refl w.heap.size w).alloc (Nat.le_refl _) (.cells (QC (⟨kind, fr, fi, tr, ti, via, la, ll, ra, rl, sa, sl, da, dl, proto, slo, shi, dlo, dhi, fails⟩ : Qr)) 33))
  have H0b := Lib.hid (cells_below H0.out ((Below.refl _ _).alloc (Nat.le_refl _) (.cells #[.int .u32 0, .int .i64 0] 27)))
  have B0b := Lib.hid (B0.out.alloc (by simp) (.cells #[.int .u32 0, .int .i64 0] 27))
  have HM := Lib.hid (heap_alloc_new ((w.alloc (.cells (QC (⟨kind, fr, fi, tr, ti, via, la, ll, ra, rl, sa, sl, da, dl, proto, slo, shi, dlo, dhi, fails⟩ : Qr)) 33)).alloc (.cells #[.int .u32 0, .int .i64 0] 27)) (.cells (MC sa sl da dl proto slo shi dlo dhi) 31))
  have BM := Lib.hid ((B0.out.alloc (by simp) (.cells #[.int .u32 0, .int .i64 0] 27)).alloc (by simp; omega) (.cells (MC sa sl da dl proto slo shi dlo dhi) 31))
  have hG : ((w.alloc (.cells (QC (⟨kind, fr, fi, tr, ti, via, la, ll, ra, rl, sa, sl, da, dl, proto, slo, shi, dlo, dhi, fails⟩ : Qr)) 33)).alloc (.cells #[.int .u32 0, .int .i64 0] 27)).heap.size = w.heap.size + 1 + 1 := by simp
  rw [hG] at HM
  clear hG
  go_enter Tryz.func18, Tryz.ntmps18
  go_wp2_with fail
  refine (rnameL _ _).mono ?_
  rintro e w' ⟨rfl, rfl⟩
  cases f5 : nameB fr with
  | false =>
    go_wp2_with fail
    go_ret
    have z1 := HK.out
    have z2 := KA.out
    exact vpost (by simp [validE, *]) B0.out
  | true =>
  replace f5 := Lib.hid f5
  go_wp2_with fail
  refine (roptional_any _ _).mono ?_
  rintro e w' ⟨rfl, rfl⟩
  cases f6 : optB fi with
  | false =>
    go_wp2_with fail
    go_ret
    have z1 := HK.out
    have z2 := KA.out
    have z3 := f5.out
    exact vpost (by simp [validE, *]) B0.out
  | true =>
  replace f6 := Lib.hid f6
  go_wp2_with fail
  refine (raimed_any _ _).mono ?_
  rintro e w' ⟨rfl, rfl⟩
  rw [KA.out]
  go_wp2_with fail
  refine (raimed_any _ _).mono ?_
  rintro e w' ⟨rfl, rfl⟩
  rw [KA.out]
  have ttr := toList_str tr
  cases tr with
  | cons c r =>
    go_wp2_with fail
    go_ret
    have z1 := HK.out
    have z2 := KA.out
    have z3 := f5.out
    have z4 := f6.out
    exact vpost (by simp [validE, *]) B0.out
  | nil =>
  have tti := toList_str ti
  cases ti with
  | cons c r =>
    go_wp2_with fail
    go_ret
    have z1 := HK.out
    have z2 := KA.out
    have z3 := f5.out
    have z4 := f6.out
    exact vpost (by simp [validE, *]) B0.out
  | nil =>
  have tvia := toList_str via
  cases via with
  | cons c r =>
    go_wp2_with fail
    go_ret
    have z1 := HK.out
    have z2 := KA.out
    have z3 := f5.out
    have z4 := f6.out
    exact vpost (by simp [validE, *]) B0.out
  | nil =>
  cases f7 : zeroP la ll with
  | false =>
    have rla : ∀ w, (binOp .neq 27 (.agg #[.int .u32 (la : Int), .int .i64 ll]) (.agg #[.int .u32 0, .int .i64 0])).run Tryz.prog w = .ok (.bool true) w := fun w => (pfx_neq la 0 ll 0 w).trans (by rw [show decide (la = 0 ∧ ll = 0) = false from by simpa [zeroP] using f7]; rfl)
    replace f7 := Lib.hid f7
    go_wp2_with fail
    go_ret
    have z1 := HK.out
    have z2 := KA.out
    have z3 := f5.out
    have z4 := f6.out
    have z5 := f7.out
    exact vpost (by simp [validE, *]) B0b.out
  | true =>
  have rla : ∀ w, (binOp .neq 27 (.agg #[.int .u32 (la : Int), .int .i64 ll]) (.agg #[.int .u32 0, .int .i64 0])).run Tryz.prog w = .ok (.bool false) w := fun w => (pfx_neq la 0 ll 0 w).trans (by rw [show decide (la = 0 ∧ ll = 0) = true from by simpa [zeroP] using f7]; rfl)
  replace f7 := Lib.hid f7
  cases f8 : zeroP ra rl with
  | false =>
    have rra : ∀ w, (binOp .neq 27 (.agg #[.int .u32 (ra : Int), .int .i64 rl]) (.agg #[.int .u32 0, .int .i64 0])).run Tryz.prog w = .ok (.bool true) w := fun w => (pfx_neq ra 0 rl 0 w).trans (by rw [show decide (ra = 0 ∧ rl = 0) = false from by simpa [zeroP] using f8]; rfl)
    replace f8 := Lib.hid f8
    go_wp2_with fail
    go_ret
    have z1 := HK.out
    have z2 := KA.out
    have z3 := f5.out
    have z4 := f6.out
    have z5 := f7.out
    have z6 := f8.out
    exact vpost (by simp [validE, *]) B0b.out
  | true =>
  have rra : ∀ w, (binOp .neq 27 (.agg #[.int .u32 (ra : Int), .int .i64 rl]) (.agg #[.int .u32 0, .int .i64 0])).run Tryz.prog w = .ok (.bool false) w := fun w => (pfx_neq ra 0 rl 0 w).trans (by rw [show decide (ra = 0 ∧ rl = 0) = true from by simpa [zeroP] using f8]; rfl)
  replace f8 := Lib.hid f8
  go_wp2_with fail
  refine (rvalid_any _ _ _ q3).mono ?_
  rintro e w3 ⟨rfl, hb⟩
  have H3 := Lib.hid (cells_below HM.out hb)
  have B3 := Lib.hid (BM.out.trans (hb.mono (by first | exact BM.out.size | (simp; done) | (simp; omega))))
  clear hb
  cases f10 : validP sa sl with
  | false =>
    go_wp2_with fail
    go_ret
    have z1 := HK.out
    have z2 := KA.out
    have z3 := f5.out
    have z4 := f6.out
    have z5 := f7.out
    have z6 := f8.out
    exact vpost (by simp [validE, matchB, *]) B3.out
  | true =>
  replace f10 := Lib.hid f10
  have e3_2 : w3.cell? ⟨(w.heap.size + 1 + 1), 2, none⟩ = some (.int .u32 (da : Int)) := Lib.cell_of_heap H3.out.1 2
  have e3_3 : w3.cell? ⟨(w.heap.size + 1 + 1), 3, none⟩ = some (.int .i64 dl) := Lib.cell_of_heap H3.out.1 3
  go_wp2_with fail
  refine (rvalid_any _ _ _ q4).mono ?_
  rintro e w4 ⟨rfl, hb⟩
  have H4 := Lib.hid (cells_below H3.out.1 hb)
  have B4 := Lib.hid (B3.out.trans (hb.mono (by first | exact B3.out.size | (simp; done) | (simp; omega))))
  clear hb
  cases f11 : validP da dl with
  | false =>
    go_wp2_with fail
    go_ret
    have z1 := HK.out
    have z2 := KA.out
    have z3 := f5.out
    have z4 := f6.out
    have z5 := f7.out
    have z6 := f8.out
    have z7 := f10.out
    exact vpost (by simp [validE, matchB, *]) B4.out
  | true =>
  replace f11 := Lib.hid f11
  have e4_4 : w4.cell? ⟨(w.heap.size + 1 + 1), 4, none⟩ = some (.int .i64 proto) := Lib.cell_of_heap H4.out.1 4
  have e4_5 : w4.cell? ⟨(w.heap.size + 1 + 1), 5, none⟩ = some (.int .i64 slo) := Lib.cell_of_heap H4.out.1 5
  have e4_6 : w4.cell? ⟨(w.heap.size + 1 + 1), 6, none⟩ = some (.int .i64 shi) := Lib.cell_of_heap H4.out.1 6
  by_cases f12 : proto < -1
  case pos =>
    go_wp2_with fail
    go_ret
    have z1 := HK.out
    have z2 := KA.out
    have z3 := f5.out
    have z4 := f6.out
    have z5 := f7.out
    have z6 := f8.out
    have z7 := f10.out
    have z8 := f11.out
    have z9 : ¬ -1 ≤ proto := by omega
    exact vpost (by simp [validE, matchB, *]) B4.out
  by_cases f12 : 255 < proto
  case pos =>
    go_wp2_with fail
    go_ret
    have z1 := HK.out
    have z2 := KA.out
    have z3 := f5.out
    have z4 := f6.out
    have z5 := f7.out
    have z6 := f8.out
    have z7 := f10.out
    have z8 := f11.out
    have z9 : ¬ proto ≤ 255 := by omega
    exact vpost (by simp [validE, matchB, *]) B4.out
  go_wp2_with fail
  refine (rports_any slo shi _).mono ?_
  rintro e w5 ⟨rfl, hb⟩
  have H5 := Lib.hid (cells_below H4.out.1 hb)
  have B5 := Lib.hid (B4.out.trans (hb.mono (by first | exact B4.out.size | (simp; done) | (simp; omega))))
  clear hb
  cases f14 : portB slo shi with
  | false =>
    go_wp2_with fail
    go_ret
    have z1 := HK.out
    have z2 := KA.out
    have z3 := f5.out
    have z4 := f6.out
    have z5 := f7.out
    have z6 := f8.out
    have z7 := f10.out
    have z8 := f11.out
    have z9 : -1 ≤ proto := by omega
    have z10 : proto ≤ 255 := by omega
    exact vpost (by simp [validE, matchB, *]) B5.out
  | true =>
  replace f14 := Lib.hid f14
  have e5_7 : w5.cell? ⟨(w.heap.size + 1 + 1), 7, none⟩ = some (.int .i64 dlo) := Lib.cell_of_heap H5.out.1 7
  have e5_8 : w5.cell? ⟨(w.heap.size + 1 + 1), 8, none⟩ = some (.int .i64 dhi) := Lib.cell_of_heap H5.out.1 8
  go_wp2_with fail
  refine (rports_any dlo dhi _).mono ?_
  rintro e w9 ⟨rfl, hb⟩
  have B9 := Lib.hid (B5.out.trans (hb.mono (by first | exact B5.out.size | (simp; done) | (simp; omega))))
  clear hb
  cases f15 : portB dlo dhi with
  | false =>
    go_wp2_with fail
    go_ret
    have z1 := HK.out
    have z2 := KA.out
    have z3 := f5.out
    have z4 := f6.out
    have z5 := f7.out
    have z6 := f8.out
    have z7 := f10.out
    have z8 := f11.out
    have z9 : -1 ≤ proto := by omega
    have z10 : proto ≤ 255 := by omega
    have z11 := f14.out
    exact vpost (by simp [validE, matchB, *]) B9.out
  | true =>
  go_wp2_with fail
  go_ret
  have z1 := HK.out
  have z2 := KA.out
  have z3 := f5.out
  have z4 := f6.out
  have z5 := f7.out
  have z6 := f8.out
  have z7 := f10.out
  have z8 := f11.out
  have z9 : -1 ≤ proto := by omega
  have z10 : proto ≤ 255 := by omega
  have z11 := f14.out
  exact vpost (by simp [validE, matchB, *]) B9.out

set_option maxRecDepth 100000 in
set_option maxHeartbeats 2000000 in
theorem rvalid_D (q : Qr) (w : World) (hq : q.fit) (h1 : 1 ≤ q.kind) (h2 : q.kind ≤ 6) (h3 : 0 ≤ q.fails) (h4 : q.fails ≤ 2) (ka : aimedB q.kind = false) (k3 : (q.kind == 3) = false) (k6 : (q.kind == 6) = true) :
    Calls Tryz.prog 18 #[QV q] w (VPost q w) := by
  obtain ⟨kind, fr, fi, tr, ti, via, la, ll, ra, rl, sa, sl, da, dl, proto, slo, shi, dlo, dhi, fails⟩ := q
  obtain ⟨q1, q2, q3, q4⟩ := hq
  unfold QV strV
  dsimp only at q1 q2 q3 q4 h1 h2 h3 h4 ka k3 k6 ⊢
  have HK : Hid (¬ (kind < 1 ∨ 6 < kind ∨ fails < 0 ∨ 2 < fails)) := Lib.hid (by omega)
  have KA := Lib.hid ka
  have K3 := Lib.hid k3
  have K6 := Lib.hid k6
  clear ka
  have n3 : (kind != 3) = true := by simp only [bne, k3]; rfl
  have n6 : (kind != 6) = false := by simp only [bne, k6]; rfl
  have H0 := Lib.hid (heap_alloc_new w (.cells (QC (⟨kind, fr, fi, tr, ti, via, la, ll, ra, rl, sa, sl, da, dl, proto, slo, shi, dlo, dhi, fails⟩ : Qr)) 33))
  have B0 := Lib.hid ((Below.refl w.heap.size w).alloc (Nat.le_refl _) (.cells (QC (⟨kind, fr, fi, tr, ti, via, la, ll, ra, rl, sa, sl, da, dl, proto, slo, shi, dlo, dhi, fails⟩ : Qr)) 33))
  have H0b := Lib.hid (cells_below H0.out ((Below.refl _ _).alloc (Nat.le_refl _) (.cells #[.int .u32 0, .int .i64 0] 27)))
  have B0b := Lib.hid (B0.out.alloc (by simp) (.cells #[.int .u32 0, .int .i64 0] 27))
  go_enter Tryz.func18, Tryz.ntmps18
  go_wp2_with fail
  refine (rnameL _ _).mono ?_
  rintro e w' ⟨rfl, rfl⟩
  cases f5 : nameB fr with
  | false =>
    go_wp2_with fail
    go_ret
    have z1 := HK.out
    have z2 := KA.out
    exact vpost (by simp [validE, *]) B0.out
  | true =>
  replace f5 := Lib.hid f5
  go_wp2_with fail
  refine (roptional_any _ _).mono ?_
  rintro e w' ⟨rfl, rfl⟩
  cases f6 : optB fi with
  | false =>
    go_wp2_with fail
    go_ret
    have z1 := HK.out
    have z2 := KA.out
    have z3 := f5.out
    exact vpost (by simp [validE, *]) B0.out
  | true =>
  replace f6 := Lib.hid f6
  go_wp2_with fail
  refine (raimed_any _ _).mono ?_
  rintro e w' ⟨rfl, rfl⟩
  rw [KA.out]
  go_wp2_with fail
  refine (raimed_any _ _).mono ?_
  rintro e w' ⟨rfl, rfl⟩
  rw [KA.out]
  have ttr := toList_str tr
  cases tr with
  | cons c r =>
    go_wp2_with fail
    go_ret
    have z1 := HK.out
    have z2 := KA.out
    have z3 := f5.out
    have z4 := f6.out
    exact vpost (by simp [validE, *]) B0.out
  | nil =>
  have tti := toList_str ti
  cases ti with
  | cons c r =>
    go_wp2_with fail
    go_ret
    have z1 := HK.out
    have z2 := KA.out
    have z3 := f5.out
    have z4 := f6.out
    exact vpost (by simp [validE, *]) B0.out
  | nil =>
  have tvia := toList_str via
  cases via with
  | cons c r =>
    go_wp2_with fail
    go_ret
    have z1 := HK.out
    have z2 := KA.out
    have z3 := f5.out
    have z4 := f6.out
    exact vpost (by simp [validE, *]) B0.out
  | nil =>
  go_wp2_with fail
  refine (rvalid_any _ _ _ q1).mono ?_
  rintro e w1 ⟨rfl, hb⟩
  have H1 := Lib.hid (cells_below H0b.out.1 hb)
  have B1 := Lib.hid (B0b.out.trans (hb.mono (by first | exact B0b.out.size | (simp; done) | (simp; omega))))
  clear hb
  cases f7 : validP la ll with
  | false =>
    go_wp2_with fail
    go_ret
    have z1 := HK.out
    have z2 := KA.out
    have z3 := f5.out
    have z4 := f6.out
    exact vpost (by simp [validE, *]) B1.out
  | true =>
  replace f7 := Lib.hid f7
  have c8 : w1.cell? ⟨w.heap.size, 8, none⟩ = some (.int .u32 (ra : Int)) := Lib.cell_of_heap H1.out.1 8
  have c9 : w1.cell? ⟨w.heap.size, 9, none⟩ = some (.int .i64 rl) := Lib.cell_of_heap H1.out.1 9
  go_wp2_with fail
  refine (rvalid_any _ _ _ q2).mono ?_
  rintro e w2 ⟨rfl, hb⟩
  have H2 := Lib.hid (cells_below H1.out.1 hb)
  have B2 := Lib.hid (B1.out.trans (hb.mono (by first | exact B1.out.size | (simp; done) | (simp; omega))))
  clear hb
  cases f8 : validP ra rl with
  | false =>
    go_wp2_with fail
    go_ret
    have z1 := HK.out
    have z2 := KA.out
    have z3 := f5.out
    have z4 := f6.out
    have z5 := f7.out
    exact vpost (by simp [validE, *]) B2.out
  | true =>
  replace f8 := Lib.hid f8
  have c7 : w2.cell? ⟨w.heap.size, 7, none⟩ = some (.int .i64 ll) := Lib.cell_of_heap H2.out.1 7
  have d9 : w2.cell? ⟨w.heap.size, 9, none⟩ = some (.int .i64 rl) := Lib.cell_of_heap H2.out.1 9
  cases f9 : ll == rl with
  | false =>
    have ne : (ll != rl) = true := by simp only [bne, f9]; rfl
    replace f9 := Lib.hid f9
    go_wp2_with fail
    go_ret
    have z1 := HK.out
    have z2 := KA.out
    have z3 := f5.out
    have z4 := f6.out
    have z5 := f7.out
    have z6 := f8.out
    have z7 := f9.out
    exact vpost (by simp [validE, *]) B2.out
  | true =>
  have ne : (ll != rl) = false := by simp only [bne, f9]; rfl
  replace f9 := Lib.hid f9
  have m0 : w2.cell? ⟨w.heap.size, 0, none⟩ = some (.int .i64 kind) := Lib.cell_of_heap H2.out.1 0
  have m10 : w2.cell? ⟨w.heap.size, 10, none⟩ = some (.int .u32 (sa : Int)) := Lib.cell_of_heap H2.out.1 10
  have m11 : w2.cell? ⟨w.heap.size, 11, none⟩ = some (.int .i64 sl) := Lib.cell_of_heap H2.out.1 11
  have m12 : w2.cell? ⟨w.heap.size, 12, none⟩ = some (.int .u32 (da : Int)) := Lib.cell_of_heap H2.out.1 12
  have m13 : w2.cell? ⟨w.heap.size, 13, none⟩ = some (.int .i64 dl) := Lib.cell_of_heap H2.out.1 13
  have m14 : w2.cell? ⟨w.heap.size, 14, none⟩ = some (.int .i64 proto) := Lib.cell_of_heap H2.out.1 14
  have m15 : w2.cell? ⟨w.heap.size, 15, none⟩ = some (.int .i64 slo) := Lib.cell_of_heap H2.out.1 15
  have m16 : w2.cell? ⟨w.heap.size, 16, none⟩ = some (.int .i64 shi) := Lib.cell_of_heap H2.out.1 16
  have m17 : w2.cell? ⟨w.heap.size, 17, none⟩ = some (.int .i64 dlo) := Lib.cell_of_heap H2.out.1 17
  have m18 : w2.cell? ⟨w.heap.size, 18, none⟩ = some (.int .i64 dhi) := Lib.cell_of_heap H2.out.1 18
  have HM := Lib.hid (heap_alloc_new w2 (.cells (MC sa sl da dl proto slo shi dlo dhi) 31))
  have BM := Lib.hid (B2.out.alloc B2.out.size (.cells (MC sa sl da dl proto slo shi dlo dhi) 31))
  go_wp2_with fail
  refine (rvalid_any _ _ _ q3).mono ?_
  rintro e w3 ⟨rfl, hb⟩
  have H3 := Lib.hid (cells_below HM.out hb)
  have B3 := Lib.hid (BM.out.trans (hb.mono (by first | exact BM.out.size | (simp; done) | (simp; omega))))
  clear hb
  cases f11 : validP sa sl with
  | false =>
    go_wp2_with fail
    go_ret
    have z1 := HK.out
    have z2 := KA.out
    have z3 := f5.out
    have z4 := f6.out
    have z5 := f7.out
    have z6 := f8.out
    have z7 := f9.out
    exact vpost (by simp [validE, matchB, *]) B3.out
  | true =>
  replace f11 := Lib.hid f11
  have e3_2 : w3.cell? ⟨w2.heap.size, 2, none⟩ = some (.int .u32 (da : Int)) := Lib.cell_of_heap H3.out.1 2
  have e3_3 : w3.cell? ⟨w2.heap.size, 3, none⟩ = some (.int .i64 dl) := Lib.cell_of_heap H3.out.1 3
  go_wp2_with fail
  refine (rvalid_any _ _ _ q4).mono ?_
  rintro e w4 ⟨rfl, hb⟩
  have H4 := Lib.hid (cells_below H3.out.1 hb)
  have B4 := Lib.hid (B3.out.trans (hb.mono (by first | exact B3.out.size | (simp; done) | (simp; omega))))
  clear hb
  cases f12 : validP da dl with
  | false =>
    go_wp2_with fail
    go_ret
    have z1 := HK.out
    have z2 := KA.out
    have z3 := f5.out
    have z4 := f6.out
    have z5 := f7.out
    have z6 := f8.out
    have z7 := f9.out
    have z8 := f11.out
    exact vpost (by simp [validE, matchB, *]) B4.out
  | true =>
  replace f12 := Lib.hid f12
  have e4_4 : w4.cell? ⟨w2.heap.size, 4, none⟩ = some (.int .i64 proto) := Lib.cell_of_heap H4.out.1 4
  have e4_5 : w4.cell? ⟨w2.heap.size, 5, none⟩ = some (.int .i64 slo) := Lib.cell_of_heap H4.out.1 5
  have e4_6 : w4.cell? ⟨w2.heap.size, 6, none⟩ = some (.int .i64 shi) := Lib.cell_of_heap H4.out.1 6
  by_cases f13 : proto < -1
  case pos =>
    go_wp2_with fail
    go_ret
    have z1 := HK.out
    have z2 := KA.out
    have z3 := f5.out
    have z4 := f6.out
    have z5 := f7.out
    have z6 := f8.out
    have z7 := f9.out
    have z8 := f11.out
    have z9 := f12.out
    have z10 : ¬ -1 ≤ proto := by omega
    exact vpost (by simp [validE, matchB, *]) B4.out
  by_cases f13 : 255 < proto
  case pos =>
    go_wp2_with fail
    go_ret
    have z1 := HK.out
    have z2 := KA.out
    have z3 := f5.out
    have z4 := f6.out
    have z5 := f7.out
    have z6 := f8.out
    have z7 := f9.out
    have z8 := f11.out
    have z9 := f12.out
    have z10 : ¬ proto ≤ 255 := by omega
    exact vpost (by simp [validE, matchB, *]) B4.out
  go_wp2_with fail
  refine (rports_any slo shi _).mono ?_
  rintro e w5 ⟨rfl, hb⟩
  have H5 := Lib.hid (cells_below H4.out.1 hb)
  have B5 := Lib.hid (B4.out.trans (hb.mono (by first | exact B4.out.size | (simp; done) | (simp; omega))))
  clear hb
  cases f15 : portB slo shi with
  | false =>
    go_wp2_with fail
    go_ret
    have z1 := HK.out
    have z2 := KA.out
    have z3 := f5.out
    have z4 := f6.out
    have z5 := f7.out
    have z6 := f8.out
    have z7 := f9.out
    have z8 := f11.out
    have z9 := f12.out
    have z10 : -1 ≤ proto := by omega
    have z11 : proto ≤ 255 := by omega
    exact vpost (by simp [validE, matchB, *]) B5.out
  | true =>
  replace f15 := Lib.hid f15
  have e5_7 : w5.cell? ⟨w2.heap.size, 7, none⟩ = some (.int .i64 dlo) := Lib.cell_of_heap H5.out.1 7
  have e5_8 : w5.cell? ⟨w2.heap.size, 8, none⟩ = some (.int .i64 dhi) := Lib.cell_of_heap H5.out.1 8
  go_wp2_with fail
  refine (rports_any dlo dhi _).mono ?_
  rintro e w9 ⟨rfl, hb⟩
  have B9 := Lib.hid (B5.out.trans (hb.mono (by first | exact B5.out.size | (simp; done) | (simp; omega))))
  clear hb
  cases f16 : portB dlo dhi with
  | false =>
    go_wp2_with fail
    go_ret
    have z1 := HK.out
    have z2 := KA.out
    have z3 := f5.out
    have z4 := f6.out
    have z5 := f7.out
    have z6 := f8.out
    have z7 := f9.out
    have z8 := f11.out
    have z9 := f12.out
    have z10 : -1 ≤ proto := by omega
    have z11 : proto ≤ 255 := by omega
    have z12 := f15.out
    exact vpost (by simp [validE, matchB, *]) B9.out
  | true =>
  go_wp2_with fail
  go_ret
  have z1 := HK.out
  have z2 := KA.out
  have z3 := f5.out
  have z4 := f6.out
  have z5 := f7.out
  have z6 := f8.out
  have z7 := f9.out
  have z8 := f11.out
  have z9 := f12.out
  have z10 : -1 ≤ proto := by omega
  have z11 : proto ≤ 255 := by omega
  have z12 := f15.out
  exact vpost (by simp [validE, matchB, *]) B9.out

set_option maxRecDepth 100000 in
set_option maxHeartbeats 1000000 in
theorem rqvalid_any (q : Qr) (w : World) (hq : q.fit) : Calls Tryz.prog 18 #[QV q] w (VPost q w) := by
  have B0 := Lib.hid ((Below.refl w.heap.size w).alloc (Nat.le_refl _) (.cells (QC q) 33))
  by_cases h1 : q.kind < 1
  · have E : Hid (validE q = 1) := Lib.hid (by simp [validE, h1])
    unfold QV strV
    go_enter Tryz.func18, Tryz.ntmps18
    go_wp2_with fail
    go_ret
    exact vpost E.out B0.out
  by_cases h2 : 6 < q.kind
  · have E : Hid (validE q = 1) := Lib.hid (by simp [validE, h2])
    unfold QV strV
    go_enter Tryz.func18, Tryz.ntmps18
    go_wp2_with fail
    go_ret
    exact vpost E.out B0.out
  by_cases h3 : q.fails < 0
  · have E : Hid (validE q = 1) := Lib.hid (by simp [validE, h3])
    unfold QV strV
    go_enter Tryz.func18, Tryz.ntmps18
    go_wp2_with fail
    go_ret
    exact vpost E.out B0.out
  by_cases h4 : 2 < q.fails
  · have E : Hid (validE q = 1) := Lib.hid (by simp [validE, h4])
    unfold QV strV
    go_enter Tryz.func18, Tryz.ntmps18
    go_wp2_with fail
    go_ret
    exact vpost E.out B0.out
  rcases (by omega : q.kind = 1 ∨ q.kind = 2 ∨ q.kind = 3 ∨ q.kind = 4 ∨ q.kind = 5 ∨ q.kind = 6) with h | h | h | h | h | h
  · exact rvalid_A q w hq (by omega) (by omega) (by omega) (by omega) (by rw [h]; rfl) (by rw [h]; rfl) (by rw [h]; rfl)
  · exact rvalid_A q w hq (by omega) (by omega) (by omega) (by omega) (by rw [h]; rfl) (by rw [h]; rfl) (by rw [h]; rfl)
  · exact rvalid_B q w hq (by omega) (by omega) (by omega) (by omega) (by rw [h]; rfl) (by rw [h]; rfl) (by rw [h]; rfl)
  · exact rvalid_C q w hq (by omega) (by omega) (by omega) (by omega) (by rw [h]; rfl) (by rw [h]; rfl) (by rw [h]; rfl)
  · exact rvalid_C q w hq (by omega) (by omega) (by omega) (by omega) (by rw [h]; rfl) (by rw [h]; rfl) (by rw [h]; rfl)
  · exact rvalid_D q w hq (by omega) (by omega) (by omega) (by omega) (by rw [h]; rfl) (by rw [h]; rfl) (by rw [h]; rfl)
end Go.Proofs.YtnhemjdmleilcaaGreatDoor
