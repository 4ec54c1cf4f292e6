/- The walk of the law AddrNetworks. Conditions: Env, the library's own tables. -/
import Derived.Test.YtaabmekdnkcdaaaDoorAddrM
import Derived.Deep.RegionHeld3
namespace Go.Proofs.YtaabmekdnkcdaaaDoor
open Go.RowKit

theorem clamp_clamp (n : Int) : clampN ((clampN n : Nat) : Int) = clampN n := by unfold clampN; omega
theorem sz_clamp (n : Int) : sz ((clampN n : Nat) : Int) = sz n := by unfold sz; rw [clamp_clamp]
theorem net_valid (a : Nat) (n : Int) : validP (a / sz n * sz n) (clampN n) = true := by
  have := clampN_le n
  unfold validP; rw [sz_clamp]; simp; omega
theorem net_cont (a : Nat) (n : Int) : contP (a / sz n * sz n) (clampN n) a = true := by
  unfold contP; rw [sz_clamp]; simp
theorem net_lt {a : Nat} (h : a < 4294967296) (n : Int) : a / sz n * sz n < 4294967296 := Nat.lt_of_le_of_lt (Nat.div_mul_le_self _ _) h

/-- Two boxes and what lies below, kept behind a call. -/
theorem keep2 {z b c : Nat} {w0 w w' : World} {v0 v1 v2 v3 : Value}
    (h : w.cell? ⟨b, 0, none⟩ = some v0 ∧ w.cell? ⟨b, 1, none⟩ = some v1 ∧ w.cell? ⟨c, 0, none⟩ = some v2 ∧ w.cell? ⟨c, 1, none⟩ = some v3 ∧ z ≤ w.heap.size ∧ Below z w0 w) (hb : Below w.heap.size w w') :
    w'.cell? ⟨b, 0, none⟩ = some v0 ∧ w'.cell? ⟨b, 1, none⟩ = some v1 ∧ w'.cell? ⟨c, 0, none⟩ = some v2 ∧ w'.cell? ⟨c, 1, none⟩ = some v3 ∧ z ≤ w'.heap.size ∧ Below z w0 w' := by
  obtain ⟨h1, h2, h3, h4, h5, h6⟩ := h
  exact ⟨(hb.cell (World.block_lt_of_cell? _ _ h1)).trans h1, (hb.cell (World.block_lt_of_cell? _ _ h2)).trans h2, (hb.cell (World.block_lt_of_cell? _ _ h3)).trans h3, (hb.cell (World.block_lt_of_cell? _ _ h4)).trans h4, Nat.le_trans h5 hb.size, h6.trans (hb.mono h5)⟩
theorem below_drew (w : World) : Below w.heap.size w w.drew := (Below.refl _ _).drew
theorem sane2_env {w w1 : World} (he : Env w) (h : Below w.heap.size w w1) : Calls Tryd.prog 15 #[] w1 fun e w' => e = .returned (.bool true) ∧ Below w1.heap.size w1 w' := sane2_any w1 (he.below h)

set_option maxRecDepth 100000 in
set_option maxHeartbeats 2000000 in
theorem addrNetworks_walk (p : Nat) (n : Int) (a : Nat) (k : Int) (w : World) (he : Env w) (hp : p < 4294967296) (_ : (Lit.int .i64 n).wf = true) (ha : a < 4294967296) (_ : (Lit.int .i64 k).wf = true) :
    Calls Tryd.prog 6 #[.agg #[.int .u32 (p : Int), .int .i64 n], .int .u32 (a : Int), .int .i64 k] w fun e w' => e = .returned (.bool true) ∧ Below w.heap.size w w' := by
  have HE := Lib.hid he
  clear he
  have H1 := Lib.hid (fun w => network_any a k w ha)
  have H2 := Lib.hid (fun w => rnetwork_any a k w ha)
  have H3 := Lib.hid (fun w => valid_any p n w hp)
  have H4 := Lib.hid (fun w => rvalid_any p n w hp)
  have H5 := Lib.hid (fun w => valid_any (a / sz k * sz k) (clampN k) w (net_lt ha k))
  have H6 := Lib.hid (fun w => contains_any (a / sz k * sz k) (clampN k) a w ha)
  rw [net_valid] at H5
  rw [net_cont] at H6
  unfold PV at H1 H2 H3 H4 H5 H6
  generalize validP p n = v at H3 H4
  generalize a / sz k * sz k = q at H1 H2 H5 H6
  generalize (clampN k : Int) = m at H1 H2 H5 H6
  have hr := pfx_eql q q m m
  rw [show decide (q = q ∧ m = m) = true from by simp] at hr
  have hg := Tryd.pfxGuard
  go_enter Tryd.func6, Tryd.ntmps6
  go_wp2_with fail
  refine (H1.out _).mono ?_
  rintro e w1 ⟨rfl, hb1⟩
  obtain ⟨hb, z1, c0, c1, f0⟩ := res_box hb1
  have S0 : (w1.alloc (.cells #[.int .u32 (q : Int), .int .i64 m] 32)).cell? ⟨w.heap.size, 0, none⟩ = some (.int .u32 (p : Int)) ∧ (w1.alloc (.cells #[.int .u32 (q : Int), .int .i64 m] 32)).cell? ⟨w.heap.size, 1, none⟩ = some (.int .i64 n)
      ∧ (w1.alloc (.cells #[.int .u32 (q : Int), .int .i64 m] 32)).cell? ⟨w1.heap.size, 0, none⟩ = some (.int .u32 (q : Int)) ∧ (w1.alloc (.cells #[.int .u32 (q : Int), .int .i64 m] 32)).cell? ⟨w1.heap.size, 1, none⟩ = some (.int .i64 m)
      ∧ w.heap.size ≤ (w1.alloc (.cells #[.int .u32 (q : Int), .int .i64 m] 32)).heap.size ∧ Below w.heap.size w (w1.alloc (.cells #[.int .u32 (q : Int), .int .i64 m] 32)) :=
    ⟨cell_alloc' z1 c0 _, cell_alloc' z1 c1 _, new_cell _ _ _ _, new_cell _ _ _ _, by simp; omega, hb.alloc hb.size _⟩
  clear hb1 c0 c1 f0
  go_wp2_with fail
  go_region_held3 (fun w' => w'.cell? ⟨w.heap.size, 0, none⟩ = some (.int .u32 (p : Int)) ∧ w'.cell? ⟨w.heap.size, 1, none⟩ = some (.int .i64 n) ∧ w'.cell? ⟨w1.heap.size, 0, none⟩ = some (.int .u32 (q : Int)) ∧ w'.cell? ⟨w1.heap.size, 1, none⟩ = some (.int .i64 m) ∧ w.heap.size ≤ w'.heap.size ∧ Below w.heap.size w w')
    (first | exact keep2 S0 (below_drew _) | (refine keep2 ?_ (by assumption); assumption))
    (first | (go_at_call 23; (first | (with_reducible refine (H3.out _).mono ?_) | (with_reducible refine (H5.out _).mono ?_)); rintro e w' ⟨rfl, hb⟩)
           | (go_at_call 24; with_reducible refine (H4.out _).mono ?_; rintro e w' ⟨rfl, hb⟩)
           | (go_at_call 25; with_reducible refine (H2.out _).mono ?_; rintro e w' ⟨rfl, hb⟩)
           | (go_at_call 26; with_reducible refine (H6.out _).mono ?_; rintro e w' ⟨rfl, hb⟩)
           | (go_at_call 15; with_reducible refine (sane2_env HE.out (And.right (And.right (And.right (And.right (And.right (by assumption))))))).mono ?_; rintro e w' ⟨rfl, hb⟩))
  go_wp2_with fail
  go_ret
  rename_i hH
  exact ⟨rfl, hH.2.2.2.2.2⟩
end Go.Proofs.YtaabmekdnkcdaaaDoor
