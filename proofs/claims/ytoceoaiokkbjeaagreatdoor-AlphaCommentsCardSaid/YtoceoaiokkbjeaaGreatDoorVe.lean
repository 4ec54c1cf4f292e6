/- The walks of the reference's functions on prefixes. Condition: addresses are numbers below 2^32. -/
import Derived.Test.YtoceoaiokkbjeaaGreatDoorVb
import Derived.Deep.RegionHeld3
import Derived.Deep.LoopGhost
set_option maxHeartbeats 1000000
namespace Go.Proofs.YtoceoaiokkbjeaaGreatDoor
open Lib (hid)
open Go.RowKit
theorem quiet_l {P : Program} {f : FuncId} {args : Array Value} {w : World} {n : Nat} {v : Value}
  (h : Calls P f args (w.drewN n) fun e w' => e = .returned v ∧ w.drewN n = w') : Calls P f args (w.drewN n) fun e w'' => e = .returned v ∧ ∃ m, w'' = w.drewN m :=
 h.mono fun _ _ ⟨he, hm⟩ => ⟨he, n, hm.symm⟩
theorem zJg (w : World) (o : Obj) (q : Nat) : Below w.heap.size w ((w.alloc o).drewN q) := ((Below.refl _ _).alloc (Nat.le_refl _) o).trans ⟨rfl, rfl, rfl, Nat.le_refl _, fun _ _ => rfl⟩
theorem clamp_any (n : Int) (w : World) : Calls Tryz.prog 187 #[.int .i64 n] w fun e w' => e = .returned (.int .i64 (zCu n : Int)) ∧ w = w' := by
 have hc := clampN_cast n
 by_cases h1 : 32 < n
 ·have e : (zCu n : Int) = 32 := by omega
  clear hc
  go_enter Tryz.func187, Tryz.ntmps187
  go_wp2
  go_ret
  exact ⟨zAf (by rw [e]), rfl⟩
 by_cases h0 : 0 < n
 ·have e : (zCu n : Int) = n := by omega
  have E := hid e
  clear hc e
  go_enter Tryz.func187, Tryz.ntmps187
  go_wp2
  all_goals (go_ret; first | exact ⟨zAf E.out.symm, rfl⟩ | (exfalso; omega))
 ·have e : (zCu n : Int) = 0 := by omega
  have E := hid e
  clear hc e
  go_enter Tryz.func187, Tryz.ntmps187
  go_wp2
  all_goals (go_ret; first | exact ⟨zAf E.out.symm, rfl⟩ | (exfalso; omega))
theorem zIn (n : Int) (w : World) : Calls Tryz.prog 186 #[.int .i64 n] w fun e w' => e = .returned (.int .u32 (maskN n : Int)) ∧ w = w' := by
 have h1 := clampN_le n
 have E := hid (mask_shift' n)
 go_enter Tryz.func186, Tryz.ntmps186
 go_wp2_with fail
 refine (clamp_any _ _).mono ?_
 rintro e w' ⟨rfl, rfl⟩
 go_wp2_with fail
 go_ret
 exact ⟨zAf E.out, rfl⟩
set_option maxRecDepth 4000 in
theorem contains_any (p : Nat) (n : Int) (a : Nat) (w : World) (ha : a < 4294967296) : Calls Tryz.prog 233 #[PV p n, .int .u32 (a : Int)] w fun e w' => e = .returned (.bool (contP p n a)) ∧ Below w.heap.size w w' := by
 have hi := i_and ha n
 have E : Hid ((((a / sz n * sz n : Nat) : Int) == (p : Int)) = contP p n a) := hid (by unfold contP; rw [Bool.eq_iff_iff]; simp only [beq_iff_eq, decide_eq_true_eq]; omega)
 unfold PV
 go_enter Tryz.func233, Tryz.ntmps233
 go_wp2_with fail
 go_quiet ((go_at_call 186; exact quiet_l (zIn _ _)))
 go_wp2_with fail
 go_ret
 exact ⟨zAe E.out, zJg _ _ _⟩
set_option maxRecDepth 4000 in
theorem zFd (p : Nat) (n : Int) (w : World) (hp : p < 4294967296) : Calls Tryz.prog 125 #[PV p n] w fun e w' => e = .returned (.bool (zCr p n)) ∧ Below w.heap.size w w' := by
 have hi := i_anot hp n
 unfold PV
 by_cases h0 : 0 ≤ n
 ·by_cases h1 : n ≤ 32
  ·have E : Hid ((((p % sz n : Nat) : Int) == 0) = zCr p n) := hid (by unfold zCr; simp only [h0, h1, decide_true, Bool.true_and]; rw [Bool.eq_iff_iff]; simp; omega)
   have d0 : decide (0 ≤ n) = true := by simp [h0]
   have d1 : decide (n ≤ 32) = true := by simp [h1]
   go_enter Tryz.func125, Tryz.ntmps125
   go_wp2_with fail
   go_quiet ((go_at_call 186; exact quiet_l (zIn _ _)))
   go_wp2_with fail
   go_ret
   exact ⟨zAe E.out, zJg _ _ _⟩
  ·have E : Hid (zCr p n = false) := hid (by unfold zCr; simp [h1])
   have d0 : decide (0 ≤ n) = true := by simp [h0]
   have d1 : decide (n ≤ 32) = false := by simp; omega
   clear hi
   go_enter Tryz.func125, Tryz.ntmps125
   go_wp2_with fail
   go_quiet (fail)
   go_wp2_with fail
   go_ret
   exact ⟨zAe E.out.symm, zJg _ _ _⟩
 ·have E : Hid (zCr p n = false) := hid (by unfold zCr; simp [h0])
  have d0 : decide (0 ≤ n) = false := by simp; omega
  clear hi
  go_enter Tryz.func125, Tryz.ntmps125
  go_wp2_with fail
  go_quiet (fail)
  go_wp2_with fail
  go_ret
  exact ⟨zAe E.out.symm, zJg _ _ _⟩
theorem zDu (w : World) (cs : Array Value) (t : TypeId) (j : Nat) : (w.alloc (.cells cs t)).cell? ⟨w.heap.size, j, none⟩ = cs[j]? := World.cell?_alloc_at _ _ _ _ rfl
theorem zKa {w w1 : World} {a b c d : Value} {t u : TypeId} (hb : Below ((w.alloc (.cells #[a, b] t)).alloc (.cells #[c, d] u)).heap.size ((w.alloc (.cells #[a, b] t)).alloc (.cells #[c, d] u)) w1) :
  (w1.cell? ⟨w.heap.size, 0, none⟩ = some a ∧ w1.cell? ⟨w.heap.size, 1, none⟩ = some b) ∧ (w1.cell? ⟨w.heap.size + 1, 0, none⟩ = some c ∧ w1.cell? ⟨w.heap.size + 1, 1, none⟩ = some d) ∧ w.heap.size + 2 ≤ w1.heap.size ∧ Below w.heap.size w w1 := by
 have hz : ((w.alloc (.cells #[a, b] t)).alloc (.cells #[c, d] u)).heap.size = w.heap.size + 2 := by simp
 have hs := hb.size
 rw [hz] at hs
 have h1 : ∀ j, w1.cell? ⟨w.heap.size, j, none⟩ = (#[a, b] : Array Value)[j]? := fun j => by
  rw [hb.cell (p := ⟨w.heap.size, j, none⟩) (by rw [hz]; show w.heap.size < _; omega), World.cell?_alloc_lt _ _ _ (by simp), zDu]
 have h2 : ∀ j, w1.cell? ⟨w.heap.size + 1, j, none⟩ = (#[c, d] : Array Value)[j]? := fun j => by
  have e : w.heap.size + 1 = (w.alloc (.cells #[a, b] t)).heap.size := by simp
  rw [hb.cell (p := ⟨w.heap.size + 1, j, none⟩) (by rw [hz]; show w.heap.size + 1 < _; omega), e, zDu]
 refine ⟨⟨h1 0, h1 1⟩, ⟨h2 0, h2 1⟩, hs, ?_⟩
 exact (((Below.refl _ w).alloc (Nat.le_refl _) _).alloc (by simp) _).trans (hb.mono (by rw [hz]; omega))
set_option maxRecDepth 4000 in
theorem covers_any (p : Nat) (n : Int) (q : Nat) (m : Int) (w : World) (hq : q < 4294967296) : Calls Tryz.prog 185 #[PV p n, PV q m] w fun e w' => e = .returned (.bool (covP p n q m)) ∧ Below w.heap.size w w' := by
 unfold PV
 by_cases h : n ≤ m
 ·have d : decide (n ≤ m) = true := by simp [h]
  have E : Hid (contP p n q = covP p n q m) := hid (by unfold covP; rw [d]; rfl)
  go_enter Tryz.func185, Tryz.ntmps185
  go_wp2_with fail
  refine (contains_any p n q _ hq).mono ?_
  rintro e w1 ⟨rfl, hb1⟩
  obtain ⟨_, _, _, hb⟩ := zKa hb1
  clear hb1
  go_wp2_with fail
  go_ret
  exact ⟨zAe E.out, hb⟩
 ·have d : decide (n ≤ m) = false := by simp; omega
  have E : Hid (covP p n q m = false) := hid (by unfold covP; rw [d]; rfl)
  go_enter Tryz.func185, Tryz.ntmps185
  go_wp2_with fail
  go_ret
  exact ⟨zAe E.out.symm, ((Below.refl _ w).alloc (Nat.le_refl _) _).alloc (by simp) _⟩
set_option maxRecDepth 4000 in
theorem zKh (p : Nat) (n : Int) (q : Nat) (m : Int) (w : World) (hp : p < 4294967296) (hq : q < 4294967296) : Calls Tryz.prog 121 #[PV p n, PV q m] w fun e w' => e = .returned (.bool (overP p n q m)) ∧ Below w.heap.size w w' := by
 unfold PV
 have C1 := fun w => covers_any p n q m w hq
 have C2 := fun w => covers_any q m p n w hp
 unfold PV at C1 C2
 have H1 := hid C1
 have H2 := hid C2
 clear C1 C2
 cases hc : covP p n q m with
 | true =>
  have E : Hid (overP p n q m = true) := hid (by unfold overP; rw [hc]; rfl)
  go_enter Tryz.func121, Tryz.ntmps121
  go_wp2_with fail
  refine (H1.out _).mono ?_
  rintro e w1 ⟨rfl, hb1⟩
  obtain ⟨_, _, _, hb⟩ := zKa hb1
  clear hb1
  go_wp2_with fail
  go_ret
  exact ⟨zAe E.out.symm, hb⟩
 | false =>
  have E : Hid (covP q m p n = overP p n q m) := hid (by unfold overP; rw [hc]; rfl)
  go_enter Tryz.func121, Tryz.ntmps121
  go_wp2_with fail
  refine (H1.out _).mono ?_
  rintro e w1 ⟨rfl, hb1⟩
  obtain ⟨⟨c0, c1⟩, ⟨c2, c3⟩, hz, hb⟩ := zKa hb1
  clear hb1
  go_wp2_with fail
  refine (H2.out _).mono ?_
  rintro e w2 ⟨rfl, hb2⟩
  clear c0 c1 c2 c3
  go_wp2_with fail
  go_ret
  exact ⟨zAe E.out, hb.trans (hb2.mono (by omega))⟩
set_option maxRecDepth 4000 in
theorem network_any (a : Nat) (n : Int) (w : World) (ha : a < 4294967296) : Calls Tryz.prog 122 #[.int .u32 (a : Int), .int .i64 n] w fun e w' => e = .returned (PV (a / sz n * sz n) (zCu n)) ∧ Below w.heap.size w w' := by
 have hi := i_and ha n
 go_enter Tryz.func122, Tryz.ntmps122
 go_wp2_with fail
 refine (zIn _ _).mono ?_
 rintro e w' ⟨rfl, rfl⟩
 go_wp2_with fail
 refine (clamp_any _ _).mono ?_
 rintro e w' ⟨rfl, rfl⟩
 go_wp2_with fail
 refine bodyPost_ret (v := PV (a / sz n * sz n) (zCu n)) (by simp [results, Tryz.results122, go_sem, PV]) rfl ⟨rfl, ?_⟩
 exact (Below.refl _ _).alloc (Nat.le_refl _) _
theorem Tryz.pfxGuard : Tryz.prog.eqGuardType Tryz.prog.depth 72 = false := by kernel_rfl
theorem Tryz.pfxStood : Tryz.prog.stoodInHeld 72 = false := by kernel_rfl
theorem zKf (p q : Nat) (n m : Int) (w : World) : (binOp .eql 72 (.agg #[.int .u32 (p : Int), .int .i64 n]) (.agg #[.int .u32 (q : Int), .int .i64 m])).run Tryz.prog w = .ok (.bool (decide (p = q ∧ n = m))) w := by
 have hp := Tryz.pfxStood
 by_cases h1 : p = q
 ·subst h1
  by_cases h2 : n = m
  ·subst h2
   simp [go_sem, hp]
  ·have h3 : (n == m) = false := by simp [h2]
   simp [go_sem, hp, h2, h3]
 ·have h2 : ((p : Int) == (q : Int)) = false := by simp; omega
  simp [go_sem, hp, h1, h2]
end Go.Proofs.YtoceoaiokkbjeaaGreatDoor
