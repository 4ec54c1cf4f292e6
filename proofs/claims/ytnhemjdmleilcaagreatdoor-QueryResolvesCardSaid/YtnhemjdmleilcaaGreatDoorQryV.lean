/- The walks of Valid, of package query and of the reference. Condition: addresses are numbers below 2^32. -/
import Derived.Test.YtnhemjdmleilcaaGreatDoorQryH
namespace Go.Proofs.YtnhemjdmleilcaaGreatDoor
open Go.RowKit

def VPost (q : Qr) (w : World) (e : Ending) (w' : World) : Prop := e = .returned (.int .i64 (validE q)) ∧ Below w.heap.size w w'
theorem vpost {q : Qr} {w w' : World} {n : Int} (h : validE q = n) (hb : Below w.heap.size w w') : VPost q w (.returned (.int .i64 n)) w' := ⟨by rw [h], hb⟩

set_option maxRecDepth 100000 in
set_option maxHeartbeats 2000000 in
theorem valid_A (q : Qr) (w : World) (hq : q.fit) (h1 : 1 ≤ q.kind) (h2 : q.kind ≤ 6) (h3 : 0 ≤ q.fails) (h4 : q.fails ≤ 2) (ka : aimedB q.kind = true) (k3 : (q.kind == 3) = false) (k6 : (q.kind == 6) = false) :
    Calls Tryz.prog 16 #[QV q] w (VPost q w) := by
  obtain ⟨kind, fr, fi, tr, ti, via, la, ll, ra, rl, sa, sl, da, dl, proto, slo, shi, dlo, dhi, fails⟩ := q
  obtain ⟨q1, q2, q3, q4⟩ := hq
  unfold QV strV
  dsimp only at q1 q2 q3 q4 h1 h2 h3 h4 ka k3 k6 ⊢
  have HK : Hid (¬ (kind < 1 ∨ 6 < kind ∨ fails < 0 ∨ 2 < fails)) := Lib.hid (by omega)
  have KA := Lib.hid ka
  have K3 := Lib.hid k3
  have K6 := Lib.hid k6
  clear ka
  have n3 : (kind != 3) = true := by simp only [bne, k3]; rfl
  have n6 : (kind != 6) = true := by simp only [bne, k6]; rfl
  have H0 := Lib.hid (heap_alloc_new w (.cells (QC (⟨kind, fr, fi, tr, ti, via, la, ll, ra, rl, sa, sl, da, dl, proto, slo, shi, dlo, dhi, fails⟩ : Qr)) 33))
  have B0 := Lib.hid ((Below.refl w.heap.size w).alloc (Nat.le_refl _) (.cells (QC (⟨kind, fr, fi, tr, ti, via, la, ll, ra, rl, sa, sl, da, dl, proto, slo, shi, dlo, dhi, fails⟩ : Qr)) 33))
  go_enter Tryz.func16, Tryz.ntmps16
  go_wp2_with fail
  refine (nameL _ _).mono ?_
  rintro e w' ⟨rfl, rfl⟩
  cases f5 : nameB fr with
  | false =>
    go_wp2_with fail
    go_ret
    have z1 := HK.out
    have z2 := KA.out
    exact vpost (by simp [validE, *]) B0.out
  | true =>
  replace f5 := Lib.hid f5
  go_wp2_with fail
  refine (optional_any _ _).mono ?_
  rintro e w' ⟨rfl, rfl⟩
  cases f6 : optB fi with
  | false =>
    go_wp2_with fail
    go_ret
    have z1 := HK.out
    have z2 := KA.out
    have z3 := f5.out
    exact vpost (by simp [validE, *]) B0.out
  | true =>
  replace f6 := Lib.hid f6
  go_wp2_with fail
  refine (aimed_any _ _).mono ?_
  rintro e w' ⟨rfl, rfl⟩
  rw [KA.out]
  go_wp2_with fail
  refine (nameL _ _).mono ?_
  rintro e w' ⟨rfl, rfl⟩
  cases f7 : nameB tr with
  | false =>
    go_wp2_with fail
    go_ret
    have z1 := HK.out
    have z2 := KA.out
    have z3 := f5.out
    have z4 := f6.out
    exact vpost (by simp [validE, *]) B0.out
  | true =>
  replace f7 := Lib.hid f7
  go_wp2_with fail
  refine (optional_any _ _).mono ?_
  rintro e w' ⟨rfl, rfl⟩
  cases f8 : optB ti with
  | false =>
    go_wp2_with fail
    go_ret
    have z1 := HK.out
    have z2 := KA.out
    have z3 := f5.out
    have z4 := f6.out
    have z5 := f7.out
    exact vpost (by simp [validE, *]) B0.out
  | true =>
  replace f8 := Lib.hid f8
  have tvia := toList_str via
  cases via with
  | cons c r =>
    go_wp2_with fail
    go_ret
    have z1 := HK.out
    have z2 := KA.out
    have z3 := f5.out
    have z4 := f6.out
    have z5 := f7.out
    have z6 := f8.out
    exact vpost (by simp [validE, *]) B0.out
  | nil =>
  cases f9 : zeroP la ll with
  | false =>
    have rla : ∀ w, (binOp .neq 27 (.agg #[.int .u32 (la : Int), .int .i64 ll]) (.agg #[.int .u32 0, .int .i64 0])).run Tryz.prog w = .ok (.bool true) w := fun w => (pfx_neq la 0 ll 0 w).trans (by rw [show decide (la = 0 ∧ ll = 0) = false from by simpa [zeroP] using f9]; rfl)
    replace f9 := Lib.hid f9
    go_wp2_with fail
    go_ret
    have z1 := HK.out
    have z2 := KA.out
    have z3 := f5.out
    have z4 := f6.out
    have z5 := f7.out
    have z6 := f8.out
    have z7 := f9.out
    exact vpost (by simp [validE, *]) B0.out
  | true =>
  have rla : ∀ w, (binOp .neq 27 (.agg #[.int .u32 (la : Int), .int .i64 ll]) (.agg #[.int .u32 0, .int .i64 0])).run Tryz.prog w = .ok (.bool false) w := fun w => (pfx_neq la 0 ll 0 w).trans (by rw [show decide (la = 0 ∧ ll = 0) = true from by simpa [zeroP] using f9]; rfl)
  replace f9 := Lib.hid f9
  cases f10 : zeroP ra rl with
  | false =>
    have rra : ∀ w, (binOp .neq 27 (.agg #[.int .u32 (ra : Int), .int .i64 rl]) (.agg #[.int .u32 0, .int .i64 0])).run Tryz.prog w = .ok (.bool true) w := fun w => (pfx_neq ra 0 rl 0 w).trans (by rw [show decide (ra = 0 ∧ rl = 0) = false from by simpa [zeroP] using f10]; rfl)
    replace f10 := Lib.hid f10
    go_wp2_with fail
    go_ret
    have z1 := HK.out
    have z2 := KA.out
    have z3 := f5.out
    have z4 := f6.out
    have z5 := f7.out
    have z6 := f8.out
    have z7 := f9.out
    have z8 := f10.out
    exact vpost (by simp [validE, *]) B0.out
  | true =>
  have rra : ∀ w, (binOp .neq 27 (.agg #[.int .u32 (ra : Int), .int .i64 rl]) (.agg #[.int .u32 0, .int .i64 0])).run Tryz.prog w = .ok (.bool false) w := fun w => (pfx_neq ra 0 rl 0 w).trans (by rw [show decide (ra = 0 ∧ rl = 0) = true from by simpa [zeroP] using f10]; rfl)
  replace f10 := Lib.hid f10
  go_wp2_with fail
  refine (validMatch_any sa sl da dl proto slo shi dlo dhi _ q3 q4).mono ?_
  rintro e w9 ⟨rfl, hb⟩
  have B9 := Lib.hid (B0.out.trans (hb.mono (by first | exact B0.out.size | (simp; done) | (simp; omega))))
  clear hb
  cases f11 : matchB sa sl da dl proto slo shi dlo dhi with
  | false =>
    go_wp2_with fail
    go_ret
    have z1 := HK.out
    have z2 := KA.out
    have z3 := f5.out
    have z4 := f6.out
    have z5 := f7.out
    have z6 := f8.out
    have z7 := f9.out
    have z8 := f10.out
    exact vpost (by simp [validE, *]) B9.out
  | true =>
  go_wp2_with fail
  go_ret
  have z1 := HK.out
  have z2 := KA.out
  have z3 := f5.out
  have z4 := f6.out
  have z5 := f7.out
  have z6 := f8.out
  have z7 := f9.out
  have z8 := f10.out
  exact vpost (by simp [validE, *]) B9.out

set_option maxRecDepth 100000 in
set_option maxHeartbeats 2000000 in
theorem valid_B (q : Qr) (w : World) (hq : q.fit) (h1 : 1 ≤ q.kind) (h2 : q.kind ≤ 6) (h3 : 0 ≤ q.fails) (h4 : q.fails ≤ 2) (ka : aimedB q.kind = true) (k3 : (q.kind == 3) = true) (k6 : (q.kind == 6) = false) :
    Calls Tryz.prog 16 #[QV q] w (VPost q w) := by
  obtain ⟨kind, fr, fi, tr, ti, via, la, ll, ra, rl, sa, sl, da, dl, proto, slo, shi, dlo, dhi, fails⟩ := q
  obtain ⟨q1, q2, q3, q4⟩ := hq
  unfold QV strV
  dsimp only at q1 q2 q3 q4 h1 h2 h3 h4 ka k3 k6 ⊢
  have HK : Hid (¬ (kind < 1 ∨ 6 < kind ∨ fails < 0 ∨ 2 < fails)) := Lib.hid (by omega)
  have KA := Lib.hid ka
  have K3 := Lib.hid k3
  have K6 := Lib.hid k6
  clear ka
  have n3 : (kind != 3) = false := by simp only [bne, k3]; rfl
  have n6 : (kind != 6) = true := by simp only [bne, k6]; rfl
  have H0 := Lib.hid (heap_alloc_new w (.cells (QC (⟨kind, fr, fi, tr, ti, via, la, ll, ra, rl, sa, sl, da, dl, proto, slo, shi, dlo, dhi, fails⟩ : Qr)) 33))
  have B0 := Lib.hid ((Below.refl w.heap.size w).alloc (Nat.le_refl _) (.cells (QC (⟨kind, fr, fi, tr, ti, via, la, ll, ra, rl, sa, sl, da, dl, proto, slo, shi, dlo, dhi, fails⟩ : Qr)) 33))
  go_enter Tryz.func16, Tryz.ntmps16
  go_wp2_with fail
  refine (nameL _ _).mono ?_
  rintro e w' ⟨rfl, rfl⟩
  cases f5 : nameB fr with
  | false =>
    go_wp2_with fail
    go_ret
    have z1 := HK.out
    have z2 := KA.out
    exact vpost (by simp [validE, *]) B0.out
  | true =>
  replace f5 := Lib.hid f5
  go_wp2_with fail
  refine (optional_any _ _).mono ?_
  rintro e w' ⟨rfl, rfl⟩
  cases f6 : optB fi with
  | false =>
    go_wp2_with fail
    go_ret
    have z1 := HK.out
    have z2 := KA.out
    have z3 := f5.out
    exact vpost (by simp [validE, *]) B0.out
  | true =>
  replace f6 := Lib.hid f6
  go_wp2_with fail
  refine (aimed_any _ _).mono ?_
  rintro e w' ⟨rfl, rfl⟩
  rw [KA.out]
  go_wp2_with fail
  refine (nameL _ _).mono ?_
  rintro e w' ⟨rfl, rfl⟩
  cases f7 : nameB tr with
  | false =>
    go_wp2_with fail
    go_ret
    have z1 := HK.out
    have z2 := KA.out
    have z3 := f5.out
    have z4 := f6.out
    exact vpost (by simp [validE, *]) B0.out
  | true =>
  replace f7 := Lib.hid f7
  go_wp2_with fail
  refine (optional_any _ _).mono ?_
  rintro e w' ⟨rfl, rfl⟩
  cases f8 : optB ti with
  | false =>
    go_wp2_with fail
    go_ret
    have z1 := HK.out
    have z2 := KA.out
    have z3 := f5.out
    have z4 := f6.out
    have z5 := f7.out
    exact vpost (by simp [validE, *]) B0.out
  | true =>
  replace f8 := Lib.hid f8
  go_wp2_with fail
  refine (nameL _ _).mono ?_
  rintro e w' ⟨rfl, rfl⟩
  cases f9 : nameB via with
  | false =>
    go_wp2_with fail
    go_ret
    have z1 := HK.out
    have z2 := KA.out
    have z3 := f5.out
    have z4 := f6.out
    have z5 := f7.out
    have z6 := f8.out
    exact vpost (by simp [validE, *]) B0.out
  | true =>
  replace f9 := Lib.hid f9
  cases f10 : zeroP la ll with
  | false =>
    have rla : ∀ w, (binOp .neq 27 (.agg #[.int .u32 (la : Int), .int .i64 ll]) (.agg #[.int .u32 0, .int .i64 0])).run Tryz.prog w = .ok (.bool true) w := fun w => (pfx_neq la 0 ll 0 w).trans (by rw [show decide (la = 0 ∧ ll = 0) = false from by simpa [zeroP] using f10]; rfl)
    replace f10 := Lib.hid f10
    go_wp2_with fail
    go_ret
    have z1 := HK.out
    have z2 := KA.out
    have z3 := f5.out
    have z4 := f6.out
    have z5 := f7.out
    have z6 := f8.out
    have z7 := f9.out
    have z8 := f10.out
    exact vpost (by simp [validE, *]) B0.out
  | true =>
  have rla : ∀ w, (binOp .neq 27 (.agg #[.int .u32 (la : Int), .int .i64 ll]) (.agg #[.int .u32 0, .int .i64 0])).run Tryz.prog w = .ok (.bool false) w := fun w => (pfx_neq la 0 ll 0 w).trans (by rw [show decide (la = 0 ∧ ll = 0) = true from by simpa [zeroP] using f10]; rfl)
  replace f10 := Lib.hid f10
  cases f11 : zeroP ra rl with
  | false =>
    have rra : ∀ w, (binOp .neq 27 (.agg #[.int .u32 (ra : Int), .int .i64 rl]) (.agg #[.int .u32 0, .int .i64 0])).run Tryz.prog w = .ok (.bool true) w := fun w => (pfx_neq ra 0 rl 0 w).trans (by rw [show decide (ra = 0 ∧ rl = 0) = false from by simpa [zeroP] using f11]; rfl)
    replace f11 := Lib.hid f11
    go_wp2_with fail
    go_ret
    have z1 := HK.out
    have z2 := KA.out
    have z3 := f5.out
    have z4 := f6.out
    have z5 := f7.out
    have z6 := f8.out
    have z7 := f9.out
    have z8 := f10.out
    have z9 := f11.out
    exact vpost (by simp [validE, *]) B0.out
  | true =>
  have rra : ∀ w, (binOp .neq 27 (.agg #[.int .u32 (ra : Int), .int .i64 rl]) (.agg #[.int .u32 0, .int .i64 0])).run Tryz.prog w = .ok (.bool false) w := fun w => (pfx_neq ra 0 rl 0 w).trans (by rw [show decide (ra = 0 ∧ rl = 0) = true from by simpa [zeroP] using f11]; rfl)
  replace f11 := Lib.hid f11
  go_wp2_with fail
  refine (validMatch_any sa sl da dl proto slo shi dlo dhi _ q3 q4).mono ?_
  rintro e w9 ⟨rfl, hb⟩
  have B9 := Lib.hid (B0.out.trans (hb.mono (by first | exact B0.out.size | (simp; done) | (simp; omega))))
  clear hb
  cases f12 : matchB sa sl da dl proto slo shi dlo dhi with
  | false =>
    go_wp2_with fail
    go_ret
    have z1 := HK.out
    have z2 := KA.out
    have z3 := f5.out
    have z4 := f6.out
    have z5 := f7.out
    have z6 := f8.out
    have z7 := f9.out
    have z8 := f10.out
    have z9 := f11.out
    exact vpost (by simp [validE, *]) B9.out
  | true =>
  go_wp2_with fail
  go_ret
  have z1 := HK.out
  have z2 := KA.out
  have z3 := f5.out
  have z4 := f6.out
  have z5 := f7.out
  have z6 := f8.out
  have z7 := f9.out
  have z8 := f10.out
  have z9 := f11.out
  exact vpost (by simp [validE, *]) B9.out

set_option maxRecDepth 100000 in
set_option maxHeartbeats 2000000 in
theorem valid_C (q : Qr) (w : World) (hq : q.fit) (h1 : 1 ≤ q.kind) (h2 : q.kind ≤ 6) (h3 : 0 ≤ q.fails) (h4 : q.fails ≤ 2) (ka : aimedB q.kind = false) (k3 : (q.kind == 3) = false) (k6 : (q.kind == 6) = false) :
    Calls Tryz.prog 16 #[QV q] w (VPost q w) := by
  obtain ⟨kind, fr, fi, tr, ti, via, la, ll, ra, rl, sa, sl, da, dl, proto, slo, shi, dlo, dhi, fails⟩ := q
  obtain ⟨q1, q2, q3, q4⟩ := hq
  unfold QV strV
  dsimp only at q1 q2 q3 q4 h1 h2 h3 h4 ka k3 k6 ⊢
  have HK : Hid (¬ (kind < 1 ∨ 6 < kind ∨ fails < 0 ∨ 2 < fails)) := Lib.hid (by omega)
  have KA := Lib.hid ka
  have K3 := Lib.hid k3
  have K6 := Lib.hid k6
  clear ka
  have n3 : (kind != 3) = true := by simp only [bne, k3]; rfl
  have n6 : (kind != 6) = true := by simp only [bne, k6]; rfl
  have H0 := Lib.hid (heap_alloc_new w (.cells (QC (⟨kind, fr, fi, tr, ti, via, la, ll, ra, rl, sa, sl, da, dl, proto, slo, shi, dlo, dhi, fails⟩ : Qr)) 33))
  have B0 := Lib.hid ((Below.refl w.heap.size w).alloc (Nat.le_refl _) (.cells (QC (⟨kind, fr, fi, tr, ti, via, la, ll, ra, rl, sa, sl, da, dl, proto, slo, shi, dlo, dhi, fails⟩ : Qr)) 33))
  go_enter Tryz.func16, Tryz.ntmps16
  go_wp2_with fail
  refine (nameL _ _).mono ?_
  rintro e w' ⟨rfl, rfl⟩
  cases f5 : nameB fr with
  | false =>
    go_wp2_with fail
    go_ret
    have z1 := HK.out
    have z2 := KA.out
    exact vpost (by simp [validE, *]) B0.out
  | true =>
  replace f5 := Lib.hid f5
  go_wp2_with fail
  refine (optional_any _ _).mono ?_
  rintro e w' ⟨rfl, rfl⟩
  cases f6 : optB fi with
  | false =>
    go_wp2_with fail
    go_ret
    have z1 := HK.out
    have z2 := KA.out
    have z3 := f5.out
    exact vpost (by simp [validE, *]) B0.out
  | true =>
  replace f6 := Lib.hid f6
  go_wp2_with fail
  refine (aimed_any _ _).mono ?_
  rintro e w' ⟨rfl, rfl⟩
  rw [KA.out]
  have ttr := toList_str tr
  cases tr with
  | cons c r =>
    go_wp2_with fail
    go_ret
    have z1 := HK.out
    have z2 := KA.out
    have z3 := f5.out
    have z4 := f6.out
    exact vpost (by simp [validE, *]) B0.out
  | nil =>
  have tti := toList_str ti
  cases ti with
  | cons c r =>
    go_wp2_with fail
    go_ret
    have z1 := HK.out
    have z2 := KA.out
    have z3 := f5.out
    have z4 := f6.out
    exact vpost (by simp [validE, *]) B0.out
  | nil =>
  have tvia := toList_str via
  cases via with
  | cons c r =>
    go_wp2_with fail
    go_ret
    have z1 := HK.out
    have z2 := KA.out
    have z3 := f5.out
    have z4 := f6.out
    exact vpost (by simp [validE, *]) B0.out
  | nil =>
  cases f7 : zeroP la ll with
  | false =>
    have rla : ∀ w, (binOp .neq 27 (.agg #[.int .u32 (la : Int), .int .i64 ll]) (.agg #[.int .u32 0, .int .i64 0])).run Tryz.prog w = .ok (.bool true) w := fun w => (pfx_neq la 0 ll 0 w).trans (by rw [show decide (la = 0 ∧ ll = 0) = false from by simpa [zeroP] using f7]; rfl)
    replace f7 := Lib.hid f7
    go_wp2_with fail
    go_ret
    have z1 := HK.out
    have z2 := KA.out
    have z3 := f5.out
    have z4 := f6.out
    have z5 := f7.out
    exact vpost (by simp [validE, *]) B0.out
  | true =>
  have rla : ∀ w, (binOp .neq 27 (.agg #[.int .u32 (la : Int), .int .i64 ll]) (.agg #[.int .u32 0, .int .i64 0])).run Tryz.prog w = .ok (.bool false) w := fun w => (pfx_neq la 0 ll 0 w).trans (by rw [show decide (la = 0 ∧ ll = 0) = true from by simpa [zeroP] using f7]; rfl)
  replace f7 := Lib.hid f7
  cases f8 : zeroP ra rl with
  | false =>
    have rra : ∀ w, (binOp .neq 27 (.agg #[.int .u32 (ra : Int), .int .i64 rl]) (.agg #[.int .u32 0, .int .i64 0])).run Tryz.prog w = .ok (.bool true) w := fun w => (pfx_neq ra 0 rl 0 w).trans (by rw [show decide (ra = 0 ∧ rl = 0) = false from by simpa [zeroP] using f8]; rfl)
    replace f8 := Lib.hid f8
    go_wp2_with fail
    go_ret
    have z1 := HK.out
    have z2 := KA.out
    have z3 := f5.out
    have z4 := f6.out
    have z5 := f7.out
    have z6 := f8.out
    exact vpost (by simp [validE, *]) B0.out
  | true =>
  have rra : ∀ w, (binOp .neq 27 (.agg #[.int .u32 (ra : Int), .int .i64 rl]) (.agg #[.int .u32 0, .int .i64 0])).run Tryz.prog w = .ok (.bool false) w := fun w => (pfx_neq ra 0 rl 0 w).trans (by rw [show decide (ra = 0 ∧ rl = 0) = true from by simpa [zeroP] using f8]; rfl)
  replace f8 := Lib.hid f8
  go_wp2_with fail
  refine (validMatch_any sa sl da dl proto slo shi dlo dhi _ q3 q4).mono ?_
  rintro e w9 ⟨rfl, hb⟩
  have B9 := Lib.hid (B0.out.trans (hb.mono (by first | exact B0.out.size | (simp; done) | (simp; omega))))
  clear hb
  cases f9 : matchB sa sl da dl proto slo shi dlo dhi with
  | false =>
    go_wp2_with fail
    go_ret
    have z1 := HK.out
    have z2 := KA.out
    have z3 := f5.out
    have z4 := f6.out
    have z5 := f7.out
    have z6 := f8.out
    exact vpost (by simp [validE, *]) B9.out
  | true =>
  go_wp2_with fail
  go_ret
  have z1 := HK.out
  have z2 := KA.out
  have z3 := f5.out
  have z4 := f6.out
  have z5 := f7.out
  have z6 := f8.out
  exact vpost (by simp [validE, *]) B9.out

set_option maxRecDepth 100000 in
set_option maxHeartbeats 2000000 in
theorem valid_D (q : Qr) (w : World) (hq : q.fit) (h1 : 1 ≤ q.kind) (h2 : q.kind ≤ 6) (h3 : 0 ≤ q.fails) (h4 : q.fails ≤ 2) (ka : aimedB q.kind = false) (k3 : (q.kind == 3) = false) (k6 : (q.kind == 6) = true) :
    Calls Tryz.prog 16 #[QV q] w (VPost q w) := by
  obtain ⟨kind, fr, fi, tr, ti, via, la, ll, ra, rl, sa, sl, da, dl, proto, slo, shi, dlo, dhi, fails⟩ := q
  obtain ⟨q1, q2, q3, q4⟩ := hq
  unfold QV strV
  dsimp only at q1 q2 q3 q4 h1 h2 h3 h4 ka k3 k6 ⊢
  have HK : Hid (¬ (kind < 1 ∨ 6 < kind ∨ fails < 0 ∨ 2 < fails)) := Lib.hid (by omega)
  have KA := Lib.hid ka
  have K3 := Lib.hid k3
  have K6 := Lib.hid k6
  clear ka
  have n3 : (kind != 3) = true := by simp only [bne, k3]; rfl
  have n6 : (kind != 6) = false := by simp only [bne, k6]; rfl
  have H0 := Lib.hid (heap_alloc_new w (.cells (QC (⟨kind, fr, fi, tr, ti, via, la, ll, ra, rl, sa, sl, da, dl, proto, slo, shi, dlo, dhi, fails⟩ : Qr)) 33))
  have B0 := Lib.hid ((Below.refl w.heap.size w).alloc (Nat.le_refl _) (.cells (QC (⟨kind, fr, fi, tr, ti, via, la, ll, ra, rl, sa, sl, da, dl, proto, slo, shi, dlo, dhi, fails⟩ : Qr)) 33))
  go_enter Tryz.func16, Tryz.ntmps16
  go_wp2_with fail
  refine (nameL _ _).mono ?_
  rintro e w' ⟨rfl, rfl⟩
  cases f5 : nameB fr with
  | false =>
    go_wp2_with fail
    go_ret
    have z1 := HK.out
    have z2 := KA.out
    exact vpost (by simp [validE, *]) B0.out
  | true =>
  replace f5 := Lib.hid f5
  go_wp2_with fail
  refine (optional_any _ _).mono ?_
  rintro e w' ⟨rfl, rfl⟩
  cases f6 : optB fi with
  | false =>
    go_wp2_with fail
    go_ret
    have z1 := HK.out
    have z2 := KA.out
    have z3 := f5.out
    exact vpost (by simp [validE, *]) B0.out
  | true =>
  replace f6 := Lib.hid f6
  go_wp2_with fail
  refine (aimed_any _ _).mono ?_
  rintro e w' ⟨rfl, rfl⟩
  rw [KA.out]
  have ttr := toList_str tr
  cases tr with
  | cons c r =>
    go_wp2_with fail
    go_ret
    have z1 := HK.out
    have z2 := KA.out
    have z3 := f5.out
    have z4 := f6.out
    exact vpost (by simp [validE, *]) B0.out
  | nil =>
  have tti := toList_str ti
  cases ti with
  | cons c r =>
    go_wp2_with fail
    go_ret
    have z1 := HK.out
    have z2 := KA.out
    have z3 := f5.out
    have z4 := f6.out
    exact vpost (by simp [validE, *]) B0.out
  | nil =>
  have tvia := toList_str via
  cases via with
  | cons c r =>
    go_wp2_with fail
    go_ret
    have z1 := HK.out
    have z2 := KA.out
    have z3 := f5.out
    have z4 := f6.out
    exact vpost (by simp [validE, *]) B0.out
  | nil =>
  go_wp2_with fail
  refine (valid_any _ _ _ q1).mono ?_
  rintro e w1 ⟨rfl, hb⟩
  have H1 := Lib.hid (cells_below H0.out hb)
  have B1 := Lib.hid (B0.out.trans (hb.mono (by first | exact B0.out.size | (simp; done) | (simp; omega))))
  clear hb
  cases f7 : validP la ll with
  | false =>
    go_wp2_with fail
    go_ret
    have z1 := HK.out
    have z2 := KA.out
    have z3 := f5.out
    have z4 := f6.out
    exact vpost (by simp [validE, *]) B1.out
  | true =>
  replace f7 := Lib.hid f7
  have c8 : w1.cell? ⟨w.heap.size, 8, none⟩ = some (.int .u32 (ra : Int)) := Lib.cell_of_heap H1.out.1 8
  have c9 : w1.cell? ⟨w.heap.size, 9, none⟩ = some (.int .i64 rl) := Lib.cell_of_heap H1.out.1 9
  go_wp2_with fail
  refine (valid_any _ _ _ q2).mono ?_
  rintro e w2 ⟨rfl, hb⟩
  have H2 := Lib.hid (cells_below H1.out.1 hb)
  have B2 := Lib.hid (B1.out.trans (hb.mono (by first | exact B1.out.size | (simp; done) | (simp; omega))))
  clear hb
  cases f8 : validP ra rl with
  | false =>
    go_wp2_with fail
    go_ret
    have z1 := HK.out
    have z2 := KA.out
    have z3 := f5.out
    have z4 := f6.out
    have z5 := f7.out
    exact vpost (by simp [validE, *]) B2.out
  | true =>
  replace f8 := Lib.hid f8
  have c7 : w2.cell? ⟨w.heap.size, 7, none⟩ = some (.int .i64 ll) := Lib.cell_of_heap H2.out.1 7
  have d9 : w2.cell? ⟨w.heap.size, 9, none⟩ = some (.int .i64 rl) := Lib.cell_of_heap H2.out.1 9
  cases f9 : ll == rl with
  | false =>
    have ne : (ll != rl) = true := by simp only [bne, f9]; rfl
    replace f9 := Lib.hid f9
    go_wp2_with fail
    go_ret
    have z1 := HK.out
    have z2 := KA.out
    have z3 := f5.out
    have z4 := f6.out
    have z5 := f7.out
    have z6 := f8.out
    have z7 := f9.out
    exact vpost (by simp [validE, *]) B2.out
  | true =>
  have ne : (ll != rl) = false := by simp only [bne, f9]; rfl
  replace f9 := Lib.hid f9
  have m10 : w2.cell? ⟨w.heap.size, 10, none⟩ = some (.int .u32 (sa : Int)) := Lib.cell_of_heap H2.out.1 10
  have m11 : w2.cell? ⟨w.heap.size, 11, none⟩ = some (.int .i64 sl) := Lib.cell_of_heap H2.out.1 11
  have m12 : w2.cell? ⟨w.heap.size, 12, none⟩ = some (.int .u32 (da : Int)) := Lib.cell_of_heap H2.out.1 12
  have m13 : w2.cell? ⟨w.heap.size, 13, none⟩ = some (.int .i64 dl) := Lib.cell_of_heap H2.out.1 13
  have m14 : w2.cell? ⟨w.heap.size, 14, none⟩ = some (.int .i64 proto) := Lib.cell_of_heap H2.out.1 14
  have m15 : w2.cell? ⟨w.heap.size, 15, none⟩ = some (.int .i64 slo) := Lib.cell_of_heap H2.out.1 15
  have m16 : w2.cell? ⟨w.heap.size, 16, none⟩ = some (.int .i64 shi) := Lib.cell_of_heap H2.out.1 16
  have m17 : w2.cell? ⟨w.heap.size, 17, none⟩ = some (.int .i64 dlo) := Lib.cell_of_heap H2.out.1 17
  have m18 : w2.cell? ⟨w.heap.size, 18, none⟩ = some (.int .i64 dhi) := Lib.cell_of_heap H2.out.1 18
  go_wp2_with fail
  refine (validMatch_any sa sl da dl proto slo shi dlo dhi _ q3 q4).mono ?_
  rintro e w9 ⟨rfl, hb⟩
  have B9 := Lib.hid (B2.out.trans (hb.mono (by first | exact B2.out.size | (simp; done) | (simp; omega))))
  clear hb
  cases f10 : matchB sa sl da dl proto slo shi dlo dhi with
  | false =>
    go_wp2_with fail
    go_ret
    have z1 := HK.out
    have z2 := KA.out
    have z3 := f5.out
    have z4 := f6.out
    have z5 := f7.out
    have z6 := f8.out
    have z7 := f9.out
    exact vpost (by simp [validE, *]) B9.out
  | true =>
  go_wp2_with fail
  go_ret
  have z1 := HK.out
  have z2 := KA.out
  have z3 := f5.out
  have z4 := f6.out
  have z5 := f7.out
  have z6 := f8.out
  have z7 := f9.out
  exact vpost (by simp [validE, *]) B9.out

set_option maxRecDepth 100000 in
set_option maxHeartbeats 1000000 in
theorem qvalid_any (q : Qr) (w : World) (hq : q.fit) : Calls Tryz.prog 16 #[QV q] w (VPost q w) := by
  have B0 := Lib.hid ((Below.refl w.heap.size w).alloc (Nat.le_refl _) (.cells (QC q) 33))
  by_cases h1 : q.kind < 1
  · have E : Hid (validE q = 1) := Lib.hid (by simp [validE, h1])
    unfold QV strV
    go_enter Tryz.func16, Tryz.ntmps16
    go_wp2_with fail
    go_ret
    exact vpost E.out B0.out
  by_cases h2 : 6 < q.kind
  · have E : Hid (validE q = 1) := Lib.hid (by simp [validE, h2])
    unfold QV strV
    go_enter Tryz.func16, Tryz.ntmps16
    go_wp2_with fail
    go_ret
    exact vpost E.out B0.out
  by_cases h3 : q.fails < 0
  · have E : Hid (validE q = 1) := Lib.hid (by simp [validE, h3])
    unfold QV strV
    go_enter Tryz.func16, Tryz.ntmps16
    go_wp2_with fail
    go_ret
    exact vpost E.out B0.out
  by_cases h4 : 2 < q.fails
  · have E : Hid (validE q = 1) := Lib.hid (by simp [validE, h4])
    unfold QV strV
    go_enter Tryz.func16, Tryz.ntmps16
    go_wp2_with fail
    go_ret
    exact vpost E.out B0.out
  rcases (by omega : q.kind = 1 ∨ q.kind = 2 ∨ q.kind = 3 ∨ q.kind = 4 ∨ q.kind = 5 ∨ q.kind = 6) with h | h | h | h | h | h
  · exact valid_A q w hq (by omega) (by omega) (by omega) (by omega) (by rw [h]; rfl) (by rw [h]; rfl) (by rw [h]; rfl)
  · exact valid_A q w hq (by omega) (by omega) (by omega) (by omega) (by rw [h]; rfl) (by rw [h]; rfl) (by rw [h]; rfl)
  · exact valid_B q w hq (by omega) (by omega) (by omega) (by omega) (by rw [h]; rfl) (by rw [h]; rfl) (by rw [h]; rfl)
  · exact valid_C q w hq (by omega) (by omega) (by omega) (by omega) (by rw [h]; rfl) (by rw [h]; rfl) (by rw [h]; rfl)
  · exact valid_C q w hq (by omega) (by omega) (by omega) (by omega) (by rw [h]; rfl) (by rw [h]; rfl) (by rw [h]; rfl)
  · exact valid_D q w hq (by omega) (by omega) (by omega) (by omega) (by rw [h]; rfl) (by rw [h]; rfl) (by rw [h]; rfl)
end Go.Proofs.YtnhemjdmleilcaaGreatDoor
