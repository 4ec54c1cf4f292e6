/- The reference's ports, all, ValidPrefixRule, Address. Condition: the router lies in memory. -/
import Derived.Test.YtoceoaiokkbjeaaGreatDoorWan
set_option maxRecDepth 8000
namespace Go.Proofs.YtoceoaiokkbjeaaGreatDoor
open Lib (hid)
open Go.RowKit
theorem rports_any (lo hi : Int) (w : World) : Calls Tryz.prog 91 #[.agg #[.int .i64 lo, .int .i64 hi]] w fun e w' => e = .returned (.bool (zGa lo hi)) ∧ Below w.heap.size w w' := by
 have B0 := hid (fun o => (Below.refl w.heap.size w).alloc (Nat.le_refl _) o)
 have E : Hid (zGa lo hi = (decide (0 ≤ lo) && decide (lo ≤ hi) && decide (hi ≤ 65535))) := hid rfl
 generalize zGa lo hi = res at E ⊢
 cases h1 : decide (0 ≤ lo) <;> cases h2 : decide (lo ≤ hi) <;> cases h3 : decide (hi ≤ 65535)
 all_goals
  rw [h1, h2, h3] at E
  go_enter Tryz.func91, Tryz.ntmps91
  go_wp2_with fail
  all_goals (go_ret; exact ⟨zAd E.out.symm, B0.out _⟩)
theorem rall_any (lo hi : Int) (w : World) : Calls Tryz.prog 92 #[.agg #[.int .i64 lo, .int .i64 hi]] w fun e w' => e = .returned (.bool (allP lo hi)) ∧ Below w.heap.size w w' := by
 have B0 := hid (fun o => (Below.refl w.heap.size w).alloc (Nat.le_refl _) o)
 have r1 : ∀ w, (binOp .eql 108 (.agg #[.int .i64 lo, .int .i64 hi]) (.agg #[.int .i64 0, .int .i64 65535])).run Tryz.prog w = .ok (.bool (allP lo hi)) w := fun w => rng_eqlP lo hi w
 have g := Tryz.rngGuard
 go_enter Tryz.func92, Tryz.ntmps92
 go_wp2_with fail
 go_ret
 exact ⟨rfl, B0.out _⟩
set_option maxHeartbeats 4000000 in
theorem rvpr_any (x : PRule) (hx : x.pa < 4294967296) (w : World) : Calls Tryz.prog 47 #[.agg x.C] w fun e w' => e = .returned (.bool (zGx x)) ∧ Below w.heap.size w w' := by
 have HV := hid (fun W => zEw x.pa x.pl W hx)
 have H0 := hid (HasC.new w 96 x.C)
 have B0 := hid ((Below.refl w.heap.size w).alloc (Nat.le_refl _) (.cells x.C 96))
 have E : Hid (zGx x = (zBl x.pa x.pl && decide (x.pl ≤ x.min) && decide (x.min ≤ x.max) && decide (x.max ≤ 32))) := hid (by unfold zGx; simp only [← Int.not_lt, decide_not])
 generalize zGx x = res at E ⊢
 clear hx
 obtain ⟨permit, pa, pl, min, max⟩ := x
 dsimp only at *
 go_enter Tryz.func47, Tryz.ntmps47
 go_upto_region 1 with (fail)
 change Code.wp _ _ _ _ (w.alloc (.cells _ 96))
 generalize w.alloc (.cells _ 96) = wA at H0 B0 ⊢
 have c1 : wA.cell? ⟨w.heap.size, 1, none⟩ = some (.int .u32 pa) := H0.out.cell 1
 have c2 : wA.cell? ⟨w.heap.size, 2, none⟩ = some (.int .i64 pl) := H0.out.cell 2
 go_wp2_with fail
 refine (HV.out _).mono ?_
 rintro e w1 ⟨rfl, hb⟩
 have H1 := hid (H0.out.keep hb)
 have B1 := hid (B0.out.trans (hb.mono B0.out.size))
 have d2 : w1.cell? ⟨w.heap.size, 2, none⟩ = some (.int .i64 pl) := H1.out.cell 2
 have d3 : w1.cell? ⟨w.heap.size, 3, none⟩ = some (.int .i64 min) := H1.out.cell 3
 have d4 : w1.cell? ⟨w.heap.size, 4, none⟩ = some (.int .i64 max) := H1.out.cell 4
 clear hb c1 c2 H0 B0
 cases h1 : zBl pa pl <;> cases h2 : decide (pl ≤ min) <;> cases h3 : decide (min ≤ max) <;> cases h4 : decide (max ≤ 32)
 all_goals
  rw [h1, h2, h3, h4] at E
  go_wp2_with fail
  all_goals (go_ret; exact ⟨zAd E.out.symm, B1.out⟩)
theorem raddress_any (r : Rt) (a : Nat) (w : World) (B : Nat) (h : r.at w B) (hB : B ≤ w.heap.size) : Calls Tryz.prog 52 #[.agg r.C, .int .u32 (a : Int)] w fun e w' => e = .returned (.int .i64 (idxF (hasA a) r.ifs 0)) ∧ Below w.heap.size w w' := by
 have HS := h.hifs
 obtain ⟨A, c, hv, hle, -⟩ := h.hifs
 have H0 := hid (HasC.new w 41 r.C)
 have B0 : Below w.heap.size w (w.alloc (.cells r.C 41)) := (Below.refl _ w).alloc (Nat.le_refl _) _
 have HV := hid hv
 have c2 : (w.alloc (.cells r.C 41)).cell? ⟨w.heap.size, 2, none⟩ = some r.ifsV := H0.out.cell 2
 rw [hv] at c2
 have SV := hid (HS.below (B0.mono hB))
 have hlm : r.ifs.length ≤ 9223372036854775807 := by have := SV.out.len; simp only [maxLen] at this; omega
 clear HS
 generalize r.ifs = l at *
 obtain ⟨R, hR⟩ : ∃ R, idxF (hasA a) l 0 = R := ⟨_, rfl⟩
 rw [hR]
 have E := hid hR
 have B0 := hid B0
 clear h hB hv hR
 go_enter Tryz.func52, Tryz.ntmps52
 go_upto_region 1 with (fail)
 change Code.wp _ _ _ _ (w.alloc (.cells r.C 41))
 generalize w.alloc (.cells r.C 41) = wA at H0 B0 SV c2 ⊢
 go_wp2_with fail
 go_loopg [5] l.length (fun gh ix wr => wr = wA ∧ ∃ k : Nat, k + gh = l.length ∧ ix = .int .i64 k ∧ Hid (idxF (hasA a) (l.drop k) k = R))
 case atStart => exact ⟨rfl, 0, by omega, rfl, E⟩
 case round =>
  obtain ⟨rfl, k, hk, rfl, E⟩ := hrel
  by_cases hlt : k < l.length
  ·have E2 := hid (idxF_at hlt E.out)
   obtain ⟨g, o, c', e', -, hg, R0⟩ := SV.out.elem (n := 12) (by decide) (fun _ => rfl) hlt
   rw [HV.out] at e'
   injection e' with e1 e2 e3
   subst e1 e3
   have c4 := R0 2 _ rfl
   have c5 := R0 1 _ rfl
   generalize l[k] = x at E2 R0 c4 c5
   clear R0 E e2
   have hlz : (k : Int) < (l.length : Int) := by omega
   have HA : Hid (hasA a x = (!(x.len == 0) && x.addr == a)) := hid rfl
   cases h1 : (x.len != 0) <;> cases h2 : ((x.addr : Int) == (a : Int))
   all_goals
    have h3 : (x.len == 0) = !(x.len != 0) := by simp [bne]
    have h4 : (x.addr == a) = ((x.addr : Int) == (a : Int)) := by rw [Bool.eq_iff_iff]; simp only [beq_iff_eq]; exact Int.ofNat_inj.symm
    rw [h1] at h3
    rw [h2] at h4
    have HA2 : Hid (hasA a x = _) := hid (HA.out.trans (by rw [h3, h4]))
    clear HA h3 h4
    go_wp2_with fail
    first
     | (go_roundg (l.length - (k + 1))
        case measure => omega
        case rel => exact ⟨rfl, k + 1, by omega, by go_num, hid (by rw [E2.out, HA2.out]; rfl)⟩)
     | (go_ret; exact ⟨zAf (by rw [E2.out, HA2.out]; rfl), B0.out⟩)
  ·have hlz : ¬ (k : Int) < (l.length : Int) := by omega
   have E2 := hid (idxF_end hlt E.out)
   go_wp2_with fail
   go_ret
   exact ⟨zAf E2.out.symm, B0.out⟩
end Go.Proofs.YtoceoaiokkbjeaaGreatDoor
