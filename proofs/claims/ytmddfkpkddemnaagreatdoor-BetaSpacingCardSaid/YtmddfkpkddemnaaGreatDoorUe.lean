/- The walks of the reference's functions on prefixes. Condition: addresses are numbers below 2^32. -/
import Derived.Test.YtmddfkpkddemnaaGreatDoorUb
import Derived.Deep.RegionHeld3
import Derived.Laws.StructEq
import Derived.Deep.LoopGhost
namespace Go.Proofs.YtmddfkpkddemnaaGreatDoor
open Go.RowKit
theorem quiet_l {P : Program} {f : FuncId} {args : Array Value} {w : World} {n : Nat} {v : Value}
    (h : Calls P f args (w.drewN n) fun e w' => e = .returned v ∧ w.drewN n = w') : Calls P f args (w.drewN n) fun e w'' => e = .returned v ∧ ∃ m, w'' = w.drewN m :=
  h.mono fun _ _ ⟨he, hm⟩ => ⟨he, n, hm.symm⟩
theorem box_below (w : World) (o : Obj) (q : Nat) : Below w.heap.size w ((w.alloc o).drewN q) := ((Below.refl _ _).alloc (Nat.le_refl _) o).trans ⟨rfl, rfl, rfl, Nat.le_refl _, fun _ _ => rfl⟩
theorem clamp_any (n : Int) (w : World) : Calls Tryz.prog 174 #[.int .i64 n] w fun e w' => e = .returned (.int .i64 (clampN n : Int)) ∧ w = w' := by
  have hc := clampN_cast n
  by_cases h1 : 32 < n
  · have e : (clampN n : Int) = 32 := by omega
    clear hc
    go_enter Tryz.func174, Tryz.ntmps174
    go_wp2
    go_ret
    exact ⟨ret_int (by rw [e]), rfl⟩
  by_cases h0 : 0 < n
  · have e : (clampN n : Int) = n := by omega
    have E := Lib.hid e
    clear hc e
    go_enter Tryz.func174, Tryz.ntmps174
    go_wp2
    all_goals (go_ret; first | exact ⟨ret_int E.out.symm, rfl⟩ | (exfalso; omega))
  · have e : (clampN n : Int) = 0 := by omega
    have E := Lib.hid e
    clear hc e
    go_enter Tryz.func174, Tryz.ntmps174
    go_wp2
    all_goals (go_ret; first | exact ⟨ret_int E.out.symm, rfl⟩ | (exfalso; omega))
theorem mask_any (n : Int) (w : World) : Calls Tryz.prog 131 #[.int .i64 n] w fun e w' => e = .returned (.int .u32 (maskN n : Int)) ∧ w = w' := by
  have h1 := clampN_le n
  have E := Lib.hid (mask_shift' n)
  go_enter Tryz.func131, Tryz.ntmps131
  go_wp2_with fail
  refine (clamp_any _ _).mono ?_
  rintro e w' ⟨rfl, rfl⟩
  go_wp2_with fail
  go_ret
  exact ⟨ret_int E.out, rfl⟩
set_option maxRecDepth 4000 in
set_option maxHeartbeats 400000 in
theorem contains_any (p : Nat) (n : Int) (a : Nat) (w : World) (ha : a < 4294967296) : Calls Tryz.prog 207 #[PV p n, .int .u32 (a : Int)] w fun e w' => e = .returned (.bool (contP p n a)) ∧ Below w.heap.size w w' := by
  have hi := i_and ha n
  have E : Hid ((((a / sz n * sz n : Nat) : Int) == (p : Int)) = contP p n a) := Lib.hid (by unfold contP; rw [Bool.eq_iff_iff]; simp only [beq_iff_eq, decide_eq_true_eq]; omega)
  unfold PV
  go_enter Tryz.func207, Tryz.ntmps207
  go_wp2_with fail
  go_quiet ((go_at_call 131; exact quiet_l (mask_any _ _)))
  go_wp2_with fail
  go_ret
  exact ⟨ret_bool E.out, box_below _ _ _⟩
set_option maxRecDepth 4000 in
set_option maxHeartbeats 400000 in
theorem valid_any (p : Nat) (n : Int) (w : World) (hp : p < 4294967296) : Calls Tryz.prog 153 #[PV p n] w fun e w' => e = .returned (.bool (validP p n)) ∧ Below w.heap.size w w' := by
  have hi := i_anot hp n
  unfold PV
  by_cases h0 : 0 ≤ n
  · by_cases h1 : n ≤ 32
    · have E : Hid ((((p % sz n : Nat) : Int) == 0) = validP p n) := Lib.hid (by unfold validP; simp only [h0, h1, decide_true, Bool.true_and]; rw [Bool.eq_iff_iff]; simp; omega)
      have d0 : decide (0 ≤ n) = true := by simp [h0]
      have d1 : decide (n ≤ 32) = true := by simp [h1]
      go_enter Tryz.func153, Tryz.ntmps153
      go_wp2_with fail
      go_quiet ((go_at_call 131; exact quiet_l (mask_any _ _)))
      go_wp2_with fail
      go_ret
      exact ⟨ret_bool E.out, box_below _ _ _⟩
    · have E : Hid (validP p n = false) := Lib.hid (by unfold validP; simp [h1])
      have d0 : decide (0 ≤ n) = true := by simp [h0]
      have d1 : decide (n ≤ 32) = false := by simp; omega
      clear hi
      go_enter Tryz.func153, Tryz.ntmps153
      go_wp2_with fail
      go_quiet (fail)
      go_wp2_with fail
      go_ret
      exact ⟨ret_bool E.out.symm, box_below _ _ _⟩
  · have E : Hid (validP p n = false) := Lib.hid (by unfold validP; simp [h0])
    have d0 : decide (0 ≤ n) = false := by simp; omega
    clear hi
    go_enter Tryz.func153, Tryz.ntmps153
    go_wp2_with fail
    go_quiet (fail)
    go_wp2_with fail
    go_ret
    exact ⟨ret_bool E.out.symm, box_below _ _ _⟩
theorem new_cell (w : World) (cs : Array Value) (t : TypeId) (j : Nat) : (w.alloc (.cells cs t)).cell? ⟨w.heap.size, j, none⟩ = cs[j]? := World.cell?_alloc_at _ _ _ _ rfl
/-- What two boxes hold behind a call that changes nothing old. -/
theorem box2_after {w w1 : World} {a b c d : Value} {t u : TypeId} (hb : Below ((w.alloc (.cells #[a, b] t)).alloc (.cells #[c, d] u)).heap.size ((w.alloc (.cells #[a, b] t)).alloc (.cells #[c, d] u)) w1) :
    (w1.cell? ⟨w.heap.size, 0, none⟩ = some a ∧ w1.cell? ⟨w.heap.size, 1, none⟩ = some b) ∧ (w1.cell? ⟨w.heap.size + 1, 0, none⟩ = some c ∧ w1.cell? ⟨w.heap.size + 1, 1, none⟩ = some d) ∧ w.heap.size + 2 ≤ w1.heap.size ∧ Below w.heap.size w w1 := by
  have hz : ((w.alloc (.cells #[a, b] t)).alloc (.cells #[c, d] u)).heap.size = w.heap.size + 2 := by simp
  have hs := hb.size
  rw [hz] at hs
  have h1 : ∀ j, w1.cell? ⟨w.heap.size, j, none⟩ = (#[a, b] : Array Value)[j]? := fun j => by
    rw [hb.cell (p := ⟨w.heap.size, j, none⟩) (by rw [hz]; show w.heap.size < _; omega), World.cell?_alloc_lt _ _ _ (by simp), new_cell]
  have h2 : ∀ j, w1.cell? ⟨w.heap.size + 1, j, none⟩ = (#[c, d] : Array Value)[j]? := fun j => by
    have e : w.heap.size + 1 = (w.alloc (.cells #[a, b] t)).heap.size := by simp
    rw [hb.cell (p := ⟨w.heap.size + 1, j, none⟩) (by rw [hz]; show w.heap.size + 1 < _; omega), e, new_cell]
  refine ⟨⟨h1 0, h1 1⟩, ⟨h2 0, h2 1⟩, hs, ?_⟩
  exact (((Below.refl _ w).alloc (Nat.le_refl _) _).alloc (by simp) _).trans (hb.mono (by rw [hz]; omega))
set_option maxRecDepth 4000 in
set_option maxHeartbeats 1000000 in
theorem covers_any (p : Nat) (n : Int) (q : Nat) (m : Int) (w : World) (hq : q < 4294967296) : Calls Tryz.prog 190 #[PV p n, PV q m] w fun e w' => e = .returned (.bool (covP p n q m)) ∧ Below w.heap.size w w' := by
  unfold PV
  by_cases h : n ≤ m
  · have d : decide (n ≤ m) = true := by simp [h]
    have E : Hid (contP p n q = covP p n q m) := Lib.hid (by unfold covP; rw [d]; rfl)
    go_enter Tryz.func190, Tryz.ntmps190
    go_wp2_with fail
    refine (contains_any p n q _ hq).mono ?_
    rintro e w1 ⟨rfl, hb1⟩
    obtain ⟨_, _, _, hb⟩ := box2_after hb1
    clear hb1
    go_wp2_with fail
    go_ret
    exact ⟨ret_bool E.out, hb⟩
  · have d : decide (n ≤ m) = false := by simp; omega
    have E : Hid (covP p n q m = false) := Lib.hid (by unfold covP; rw [d]; rfl)
    go_enter Tryz.func190, Tryz.ntmps190
    go_wp2_with fail
    go_ret
    exact ⟨ret_bool E.out.symm, ((Below.refl _ w).alloc (Nat.le_refl _) _).alloc (by simp) _⟩
set_option maxRecDepth 4000 in
set_option maxHeartbeats 1000000 in
theorem overlaps_any (p : Nat) (n : Int) (q : Nat) (m : Int) (w : World) (hp : p < 4294967296) (hq : q < 4294967296) : Calls Tryz.prog 149 #[PV p n, PV q m] w fun e w' => e = .returned (.bool (overP p n q m)) ∧ Below w.heap.size w w' := by
  unfold PV
  have C1 := fun w => covers_any p n q m w hq
  have C2 := fun w => covers_any q m p n w hp
  unfold PV at C1 C2
  have H1 := Lib.hid C1
  have H2 := Lib.hid C2
  clear C1 C2
  cases hc : covP p n q m with
  | true =>
    have E : Hid (overP p n q m = true) := Lib.hid (by unfold overP; rw [hc]; rfl)
    go_enter Tryz.func149, Tryz.ntmps149
    go_wp2_with fail
    refine (H1.out _).mono ?_
    rintro e w1 ⟨rfl, hb1⟩
    obtain ⟨_, _, _, hb⟩ := box2_after hb1
    clear hb1
    go_wp2_with fail
    go_ret
    exact ⟨ret_bool E.out.symm, hb⟩
  | false =>
    have E : Hid (covP q m p n = overP p n q m) := Lib.hid (by unfold overP; rw [hc]; rfl)
    go_enter Tryz.func149, Tryz.ntmps149
    go_wp2_with fail
    refine (H1.out _).mono ?_
    rintro e w1 ⟨rfl, hb1⟩
    obtain ⟨⟨c0, c1⟩, ⟨c2, c3⟩, hz, hb⟩ := box2_after hb1
    clear hb1
    go_wp2_with fail
    refine (H2.out _).mono ?_
    rintro e w2 ⟨rfl, hb2⟩
    clear c0 c1 c2 c3
    go_wp2_with fail
    go_ret
    exact ⟨ret_bool E.out, hb.trans (hb2.mono (by omega))⟩
set_option maxRecDepth 4000 in
set_option maxHeartbeats 1000000 in
theorem network_any (a : Nat) (n : Int) (w : World) (ha : a < 4294967296) : Calls Tryz.prog 150 #[.int .u32 (a : Int), .int .i64 n] w fun e w' => e = .returned (PV (a / sz n * sz n) (clampN n)) ∧ Below w.heap.size w w' := by
  have hi := i_and ha n
  go_enter Tryz.func150, Tryz.ntmps150
  go_wp2_with fail
  refine (mask_any _ _).mono ?_
  rintro e w' ⟨rfl, rfl⟩
  go_wp2_with fail
  refine (clamp_any _ _).mono ?_
  rintro e w' ⟨rfl, rfl⟩
  go_wp2_with fail
  refine bodyPost_ret (v := PV (a / sz n * sz n) (clampN n)) (by simp [results, Tryz.results150, go_sem, PV]) rfl ⟨rfl, ?_⟩
  exact (Below.refl _ _).alloc (Nat.le_refl _) _
end Go.Proofs.YtmddfkpkddemnaaGreatDoor
namespace Go.Proofs.YtmddfkpkddemnaaGreatDoor
open Go.RowKit
theorem Tryz.pfxGuard : Tryz.prog.eqGuardType Tryz.prog.depth 71 = false := by kernel_rfl
theorem Tryz.pfxStood : Tryz.prog.stoodInHeld 71 = false := by kernel_rfl
theorem pfx_eql (p q : Nat) (n m : Int) (w : World) : (binOp .eql 71 (.agg #[.int .u32 (p : Int), .int .i64 n]) (.agg #[.int .u32 (q : Int), .int .i64 m])).run Tryz.prog w = .ok (.bool (decide (p = q ∧ n = m))) w := by
  have hp := Tryz.pfxStood
  by_cases h1 : p = q
  · subst h1
    by_cases h2 : n = m
    · subst h2
      simp [go_sem, hp]
    · have h3 : (n == m) = false := by simp [h2]
      simp [go_sem, hp, h2, h3]
  · have h2 : ((p : Int) == (q : Int)) = false := by simp; omega
    simp [go_sem, hp, h1, h2]
end Go.Proofs.YtmddfkpkddemnaaGreatDoor
