/- The walk of rightRule. Condition: addresses are numbers below 2^32. -/
import Derived.Test.YtoceoaiokkbjeaaGreatDoorWaf
import Derived.Test.YtoceoaiokkbjeaaGreatDoorWah
set_option maxRecDepth 8000
namespace Go.Proofs.YtoceoaiokkbjeaaGreatDoor
open Lib (hid)
open Go.RowKit
def allP (lo hi : Int) : Bool := decide (lo = 0 ∧ hi = 65535)
def zGe (x : Ru) : Bool := zAg x.proto (-1) 255 && x.sa &&& x.sm == 0 && x.da &&& x.dm == 0 && zGa x.slo x.shi && zGa x.dlo x.dhi && (x.proto == 6 || x.proto == 17 || (allP x.slo x.shi && allP x.dlo x.dhi))
theorem rng_eqlP (a b : Int) (w : World) : (binOp .eql 108 (.agg #[.int .i64 a, .int .i64 b]) (.agg #[.int .i64 0, .int .i64 65535])).run Tryz.prog w = .ok (.bool (allP a b)) w := rng_eql a b 0 65535 w
set_option maxHeartbeats 8000000 in
theorem rightRule_any (x : Ru) (hx : x.fit) (w : World) : Calls Tryz.prog 129 #[.agg x.C] w fun e w' => e = .returned (.bool (zGe x)) ∧ Below w.heap.size w w' := by
 have H0 := hid (HasC.new w 110 x.C)
 have B0 := hid ((Below.refl w.heap.size w).alloc (Nat.le_refl _) (.cells x.C 110))
 have HW := hid (fun n lo hi w => zAr n lo hi w)
 have P1 := hid (fun w => zIg x.slo x.shi w)
 have P2 := hid (fun w => zIg x.dlo x.dhi w)
 obtain ⟨f1, f2, f3, f4⟩ := hx
 have E : Hid (zGe x = (zAg x.proto (-1) 255 && x.sa &&& x.sm == 0 && x.da &&& x.dm == 0 && zGa x.slo x.shi && zGa x.dlo x.dhi && (x.proto == 6 || x.proto == 17 || (allP x.slo x.shi && allP x.dlo x.dhi)))) := hid rfl
 obtain ⟨n1, hn1⟩ : ∃ n, x.sa &&& x.sm = n := ⟨_, rfl⟩
 obtain ⟨n2, hn2⟩ : ∃ n, x.da &&& x.dm = n := ⟨_, rfl⟩
 have b1 : bits .and .u32 (x.sa : Int) (x.sm : Int) = (n1 : Int) := by rw [← hn1]; exact u32_and_nat _ _ f1 f2
 have b2 : bits .and .u32 (x.da : Int) (x.dm : Int) = (n2 : Int) := by rw [← hn2]; exact u32_and_nat _ _ f3 f4
 rw [hn1, hn2] at E
 clear hn1 hn2 f1 f2 f3 f4
 generalize zGe x = res at E ⊢
 unfold Ru.C at H0 B0 ⊢
 obtain ⟨permit, proto, sa, sm, da, dm, slo, shi, dlo, dhi⟩ := x
 dsimp only at *
 go_enter Tryz.func129, Tryz.ntmps129
 cases h1 : zAg proto (-1) 255 with
 | false =>
  go_wp2_with (go_at_call 64; refine (HW.out _ _ _ _).mono ?_; rintro e w' ⟨rfl, rfl⟩)
  go_ret
  exact ⟨zAd (by rw [E.out, h1]; rfl), B0.out⟩
 | true =>
 by_cases h2 : n1 = 0
 case neg =>
  have d1 : ((n1 : Int) != 0) = true := by simp; omega
  have d2 : (n1 == 0) = false := by simpa using h2
  go_wp2_with (go_at_call 64; refine (HW.out _ _ _ _).mono ?_; rintro e w' ⟨rfl, rfl⟩)
  go_ret
  exact ⟨zAd (by rw [E.out, d2]; simp), B0.out⟩
 subst h2
 by_cases h3 : n2 = 0
 case neg =>
  have d1 : ((n2 : Int) != 0) = true := by simp; omega
  have d2 : (n2 == 0) = false := by simpa using h3
  go_wp2_with (go_at_call 64; refine (HW.out _ _ _ _).mono ?_; rintro e w' ⟨rfl, rfl⟩)
  go_ret
  exact ⟨zAd (by rw [E.out, d2]; simp), B0.out⟩
 subst h3
 have E2 : Hid (res = (zGa slo shi && zGa dlo dhi && (proto == 6 || proto == 17 || (allP slo shi && allP dlo dhi)))) := hid (by rw [E.out, h1]; rfl)
 clear E
 go_wp2_with (first | (go_at_call 64; refine (HW.out _ _ _ _).mono ?_; rintro e w' ⟨rfl, rfl⟩))
 clear h1
 refine (P1.out _).mono ?_
 rintro e w1 ⟨rfl, hb⟩
 have H1 := hid (H0.out.keep hb)
 have B1 := hid (B0.out.trans (hb.mono (by simp)))
 clear hb H0 B0
 cases h4 : zGa slo shi with
 | false =>
  go_wp2_with fail
  go_ret
  exact ⟨zAd (by rw [E2.out, h4]; rfl), B1.out⟩
 | true =>
 have c8 : w1.cell? ⟨w.heap.size, 8, none⟩ = some (.int .i64 dlo) := H1.out.cell 8
 have c9 : w1.cell? ⟨w.heap.size, 9, none⟩ = some (.int .i64 dhi) := H1.out.cell 9
 go_wp2_with fail
 refine (P2.out _).mono ?_
 rintro e w2 ⟨rfl, hb⟩
 have H2 := hid (H1.out.keep hb)
 have B2 := hid (B1.out.trans (hb.mono B1.out.size))
 clear hb H1 B1 c8 c9
 cases h5 : zGa dlo dhi with
 | false =>
  go_wp2_with fail
  go_ret
  exact ⟨zAd (by rw [E2.out, h4, h5]; rfl), B2.out⟩
 | true =>
 have E3 : Hid (res = (proto == 6 || proto == 17 || (allP slo shi && allP dlo dhi))) := hid (by rw [E2.out, h4, h5]; rfl)
 clear E2 h4 h5
 have H3 := H2.out.keep ((Below.refl _ w2).alloc (Nat.le_refl _) (.cells #[.int .i64 0, .int .i64 65535] 108))
 have B3 := hid (B2.out.alloc B2.out.size (.cells #[.int .i64 0, .int .i64 65535] 108))
 have c1 : (w2.alloc (.cells #[.int .i64 0, .int .i64 65535] 108)).cell? ⟨w.heap.size, 1, none⟩ = some (.int .i64 proto) := H3.cell 1
 have c6 : (w2.alloc (.cells #[.int .i64 0, .int .i64 65535] 108)).cell? ⟨w.heap.size, 6, none⟩ = some (.int .i64 slo) := H3.cell 6
 have c7 : (w2.alloc (.cells #[.int .i64 0, .int .i64 65535] 108)).cell? ⟨w.heap.size, 7, none⟩ = some (.int .i64 shi) := H3.cell 7
 have c8 : (w2.alloc (.cells #[.int .i64 0, .int .i64 65535] 108)).cell? ⟨w.heap.size, 8, none⟩ = some (.int .i64 dlo) := H3.cell 8
 have c9 : (w2.alloc (.cells #[.int .i64 0, .int .i64 65535] 108)).cell? ⟨w.heap.size, 9, none⟩ = some (.int .i64 dhi) := H3.cell 9
 have g := Tryz.rngGuard
 have r1 : ∀ w, (binOp .eql 108 (.agg #[.int .i64 slo, .int .i64 shi]) (.agg #[.int .i64 0, .int .i64 65535])).run Tryz.prog w = .ok (.bool (allP slo shi)) w := fun w => rng_eqlP slo shi w
 have r2 : ∀ w, (binOp .eql 108 (.agg #[.int .i64 dlo, .int .i64 dhi]) (.agg #[.int .i64 0, .int .i64 65535])).run Tryz.prog w = .ok (.bool (allP dlo dhi)) w := fun w => rng_eqlP dlo dhi w
 clear H3 H2 B2
 by_cases h6 : proto = 6
 ·subst h6
  go_wp2_with fail
  go_ret
  exact ⟨zAd (by rw [E3.out]; rfl), B3.out⟩
 have d6 : (proto == 6) = false := by simpa using h6
 by_cases h17 : proto = 17
 ·subst h17
  go_wp2_with fail
  go_ret
  exact ⟨zAd (by rw [E3.out]; rfl), B3.out⟩
 have d17 : (proto == 17) = false := by simpa using h17
 cases ha : allP slo shi with
 | false =>
  rw [ha] at r1
  go_wp2_with fail
  go_ret
  exact ⟨zAd (by rw [E3.out, d6, d17, ha]; rfl), B3.out⟩
 | true =>
  rw [ha] at r1
  go_wp2_with fail
  go_ret
  exact ⟨zAd (by rw [E3.out, d6, d17, ha]; rfl), B3.out⟩
end Go.Proofs.YtoceoaiokkbjeaaGreatDoor
