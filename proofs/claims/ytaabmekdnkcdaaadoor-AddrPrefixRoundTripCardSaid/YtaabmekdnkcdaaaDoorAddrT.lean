/- The walk of the law AddrPrefixRoundTrip. Conditions: Env, the library's own tables. -/
import Derived.Test.YtaabmekdnkcdaaaDoorAddrZ
namespace Go.Proofs.YtaabmekdnkcdaaaDoor
open Go.RowKit

theorem str_nil : str [] = ⟨#[]⟩ := rfl
theorem boxTwo {z0 b0 : Nat} {w0 w : World} {v0 v1 : Value} (h : w.cell? ⟨b0, 0, none⟩ = some v0 ∧ w.cell? ⟨b0, 1, none⟩ = some v1 ∧ z0 ≤ w.heap.size ∧ Below z0 w0 w) (a b : Value) (t : TypeId) :
    (w.alloc (.cells #[a, b] t)).cell? ⟨b0, 0, none⟩ = some v0 ∧ (w.alloc (.cells #[a, b] t)).cell? ⟨b0, 1, none⟩ = some v1 ∧ (w.alloc (.cells #[a, b] t)).cell? ⟨w.heap.size, 0, none⟩ = some a ∧ (w.alloc (.cells #[a, b] t)).cell? ⟨w.heap.size, 1, none⟩ = some b
      ∧ z0 ≤ (w.alloc (.cells #[a, b] t)).heap.size ∧ Below z0 w0 (w.alloc (.cells #[a, b] t)) := by
  obtain ⟨g1, g2, g3, g4⟩ := boxNew w a b t
  obtain ⟨k1, k2, k3, k4⟩ := keepBox h g4
  exact ⟨k1, k2, g1, g2, k3, k4⟩

set_option maxRecDepth 100000 in
set_option maxHeartbeats 4000000 in
theorem roundTrip_in (s : ByteArray) (a : Nat) (n : Int) (p : Nat) (k : Int) (w : World) (he : Env w) (hp : p < 4294967296) (h0 : 0 ≤ n) (h1 : n ≤ 32)
    (H1 : Hid (∀ w1, Below w.heap.size w w1 → Calls Tryd.prog 41 #[.int .u32 (a : Int), .int .i64 n] w1 fun e w' => e = .returned (.string s) ∧ Below w1.heap.size w1 w'))
    (H3 : Hid (∀ w1, Below w.heap.size w w1 → Calls Tryd.prog 18 #[.string s] w1 fun e w' => e = .returned (.tuple #[.int .u32 (a : Int), .int .i64 n, .bool true]) ∧ Below w1.heap.size w1 w')) :
    Calls Tryd.prog 12 #[.int .u32 (a : Int), .int .i64 n, .agg #[.int .u32 (p : Int), .int .i64 k]] w fun e w' => e = .returned (.bool true) ∧ Below w.heap.size w w' := by
  have HE := Lib.hid he
  have H2 := Lib.hid (fun w1 (h : Below w.heap.size w w1) => formatPrefix_any p k w1 hp (he.below h))
  have H5 := Lib.hid (fun w => valid_any p k w hp)
  have S0 := boxNew w (.int .u32 (p : Int)) (.int .i64 k) 32
  unfold PV at H2 H5
  cases hv : validP p k with
  | true =>
    have H4 := Lib.hid (fun w1 hb => parsePfx_back he (pfx_back hp hv) (pfx_small p k) w1 hb)
    have hr := pfx_eql p p k k
    rw [show decide (p = p ∧ k = k) = true from by simp] at hr
    have hg := Tryd.pfxGuard
    rw [hv] at H5
    clear hv he
    generalize str (pfxF p k) = t at H2 H4
    go_enter Tryd.func12, Tryd.ntmps12
    go_wp2_with fail
    go_region_held3 (fun w' => w'.cell? ⟨w.heap.size, 0, none⟩ = some (.int .u32 (p : Int)) ∧ w'.cell? ⟨w.heap.size, 1, none⟩ = some (.int .i64 k) ∧ w.heap.size ≤ w'.heap.size ∧ Below w.heap.size w w') (first | assumption | exact keepBox S0 (below_drew _) | (refine keepBox ?_ (by assumption); assumption)) (first | (go_at_call 41; with_reducible refine (H1.out _ (And.right (And.right (And.right (by assumption))))).mono ?_; rintro e w' ⟨rfl, hb⟩) | (go_at_call 42; with_reducible refine (H2.out _ (And.right (And.right (And.right (by assumption))))).mono ?_; rintro e w' ⟨rfl, hb⟩))
    rename_i S1
    clear S0
    go_wp2_with fail
    refine (H3.out _ S1.2.2.2).mono ?_
    rintro e w2 ⟨rfl, hb2⟩
    have S2 := keepBox S1 hb2
    clear S1 hb2
    go_wp2_with fail
    refine (H4.out _ S2.2.2.2).mono ?_
    rintro e w3 ⟨rfl, hb3⟩
    have S3 := keepBox S2 hb3
    clear S2 hb3
    have S4 := boxTwo S3 (.int .u32 (p : Int)) (.int .i64 k) 32
    clear S3
    go_wp2_with fail
    refine (H5.out _).mono ?_
    rintro e w4 ⟨rfl, hb4⟩
    have S5 := keep2 S4 hb4
    clear S4 hb4
    go_wp2_with fail
    refine (sane2_env HE.out S5.2.2.2.2.2).mono ?_
    rintro e w5 ⟨rfl, hb5⟩
    have S6 := keep2 S5 hb5
    clear S5 hb5
    go_wp2_with fail
    go_ret
    exact ⟨rfl, S6.2.2.2.2.2⟩
  | false =>
    have H4 := Lib.hid (fun w1 hb => parsePfx_nil he w1 hb)
    rw [pfx_out hv, str_nil] at H2
    rw [str_nil] at H4
    rw [hv] at H5
    clear hv he
    go_enter Tryd.func12, Tryd.ntmps12
    go_wp2_with fail
    go_region_held3 (fun w' => w'.cell? ⟨w.heap.size, 0, none⟩ = some (.int .u32 (p : Int)) ∧ w'.cell? ⟨w.heap.size, 1, none⟩ = some (.int .i64 k) ∧ w.heap.size ≤ w'.heap.size ∧ Below w.heap.size w w') (first | assumption | exact keepBox S0 (below_drew _) | (refine keepBox ?_ (by assumption); assumption)) (first | (go_at_call 41; with_reducible refine (H1.out _ (And.right (And.right (And.right (by assumption))))).mono ?_; rintro e w' ⟨rfl, hb⟩) | (go_at_call 42; with_reducible refine (H2.out _ (And.right (And.right (And.right (by assumption))))).mono ?_; rintro e w' ⟨rfl, hb⟩))
    rename_i S1
    clear S0
    go_wp2_with fail
    refine (H3.out _ S1.2.2.2).mono ?_
    rintro e w2 ⟨rfl, hb2⟩
    have S2 := keepBox S1 hb2
    clear S1 hb2
    go_wp2_with fail
    refine (H4.out _ S2.2.2.2).mono ?_
    rintro e w3 ⟨rfl, hb3⟩
    have S3 := keepBox S2 hb3
    clear S2 hb3
    have S4 := boxTwo S3 (.int .u32 0) (.int .i64 0) 32
    clear S3
    go_wp2_with fail
    refine (H5.out _).mono ?_
    rintro e w4 ⟨rfl, hb4⟩
    have S5 := keep2 S4 hb4
    clear S4 hb4
    go_wp2_with fail
    refine (sane2_env HE.out S5.2.2.2.2.2).mono ?_
    rintro e w5 ⟨rfl, hb5⟩
    have S6 := keep2 S5 hb5
    clear S5 hb5
    go_wp2_with fail
    go_ret
    exact ⟨rfl, S6.2.2.2.2.2⟩

set_option maxRecDepth 100000 in
set_option maxHeartbeats 4000000 in
theorem roundTrip_low (s : ByteArray) (a : Nat) (n : Int) (p : Nat) (k : Int) (w : World) (he : Env w) (hp : p < 4294967296) (hn : n < 0) (hs : s = ⟨#[]⟩)
    (H1 : Hid (∀ w1, Below w.heap.size w w1 → Calls Tryd.prog 41 #[.int .u32 (a : Int), .int .i64 n] w1 fun e w' => e = .returned (.string s) ∧ Below w1.heap.size w1 w'))
    (H3 : Hid (∀ w1, Below w.heap.size w w1 → Calls Tryd.prog 18 #[.string s] w1 fun e w' => e = .returned (.tuple #[.int .u32 0, .int .i64 0, .bool false]) ∧ Below w1.heap.size w1 w')) :
    Calls Tryd.prog 12 #[.int .u32 (a : Int), .int .i64 n, .agg #[.int .u32 (p : Int), .int .i64 k]] w fun e w' => e = .returned (.bool true) ∧ Below w.heap.size w w' := by
  have HE := Lib.hid he
  have H2 := Lib.hid (fun w1 (h : Below w.heap.size w w1) => formatPrefix_any p k w1 hp (he.below h))
  have H5 := Lib.hid (fun w => valid_any p k w hp)
  have S0 := boxNew w (.int .u32 (p : Int)) (.int .i64 k) 32
  unfold PV at H2 H5
  cases hv : validP p k with
  | true =>
    have H4 := Lib.hid (fun w1 hb => parsePfx_back he (pfx_back hp hv) (pfx_small p k) w1 hb)
    have hr := pfx_eql p p k k
    rw [show decide (p = p ∧ k = k) = true from by simp] at hr
    have hg := Tryd.pfxGuard
    rw [hv] at H5
    clear hv he
    generalize str (pfxF p k) = t at H2 H4
    subst hs
    go_enter Tryd.func12, Tryd.ntmps12
    go_wp2_with fail
    go_region_held3 (fun w' => w'.cell? ⟨w.heap.size, 0, none⟩ = some (.int .u32 (p : Int)) ∧ w'.cell? ⟨w.heap.size, 1, none⟩ = some (.int .i64 k) ∧ w.heap.size ≤ w'.heap.size ∧ Below w.heap.size w w') (first | assumption | exact keepBox S0 (below_drew _) | (refine keepBox ?_ (by assumption); assumption)) (first | (go_at_call 41; with_reducible refine (H1.out _ (And.right (And.right (And.right (by assumption))))).mono ?_; rintro e w' ⟨rfl, hb⟩) | (go_at_call 42; with_reducible refine (H2.out _ (And.right (And.right (And.right (by assumption))))).mono ?_; rintro e w' ⟨rfl, hb⟩))
    rename_i S1
    clear S0
    go_wp2_with fail
    refine (H3.out _ S1.2.2.2).mono ?_
    rintro e w2 ⟨rfl, hb2⟩
    have S2 := keepBox S1 hb2
    clear S1 hb2
    go_wp2_with fail
    refine (H4.out _ S2.2.2.2).mono ?_
    rintro e w3 ⟨rfl, hb3⟩
    have S3 := keepBox S2 hb3
    clear S2 hb3
    have S4 := boxTwo S3 (.int .u32 (p : Int)) (.int .i64 k) 32
    clear S3
    go_wp2_with fail
    refine (H5.out _).mono ?_
    rintro e w4 ⟨rfl, hb4⟩
    have S5 := keep2 S4 hb4
    clear S4 hb4
    go_wp2_with fail
    refine (sane2_env HE.out S5.2.2.2.2.2).mono ?_
    rintro e w5 ⟨rfl, hb5⟩
    have S6 := keep2 S5 hb5
    clear S5 hb5
    go_wp2_with fail
    go_ret
    exact ⟨rfl, S6.2.2.2.2.2⟩
  | false =>
    have H4 := Lib.hid (fun w1 hb => parsePfx_nil he w1 hb)
    rw [pfx_out hv, str_nil] at H2
    rw [str_nil] at H4
    rw [hv] at H5
    clear hv he
    subst hs
    go_enter Tryd.func12, Tryd.ntmps12
    go_wp2_with fail
    go_region_held3 (fun w' => w'.cell? ⟨w.heap.size, 0, none⟩ = some (.int .u32 (p : Int)) ∧ w'.cell? ⟨w.heap.size, 1, none⟩ = some (.int .i64 k) ∧ w.heap.size ≤ w'.heap.size ∧ Below w.heap.size w w') (first | assumption | exact keepBox S0 (below_drew _) | (refine keepBox ?_ (by assumption); assumption)) (first | (go_at_call 41; with_reducible refine (H1.out _ (And.right (And.right (And.right (by assumption))))).mono ?_; rintro e w' ⟨rfl, hb⟩) | (go_at_call 42; with_reducible refine (H2.out _ (And.right (And.right (And.right (by assumption))))).mono ?_; rintro e w' ⟨rfl, hb⟩))
    rename_i S1
    clear S0
    go_wp2_with fail
    refine (H3.out _ S1.2.2.2).mono ?_
    rintro e w2 ⟨rfl, hb2⟩
    have S2 := keepBox S1 hb2
    clear S1 hb2
    go_wp2_with fail
    refine (H4.out _ S2.2.2.2).mono ?_
    rintro e w3 ⟨rfl, hb3⟩
    have S3 := keepBox S2 hb3
    clear S2 hb3
    have S4 := boxTwo S3 (.int .u32 0) (.int .i64 0) 32
    clear S3
    go_wp2_with fail
    refine (H5.out _).mono ?_
    rintro e w4 ⟨rfl, hb4⟩
    have S5 := keep2 S4 hb4
    clear S4 hb4
    go_wp2_with fail
    refine (sane2_env HE.out S5.2.2.2.2.2).mono ?_
    rintro e w5 ⟨rfl, hb5⟩
    have S6 := keep2 S5 hb5
    clear S5 hb5
    go_wp2_with fail
    go_ret
    exact ⟨rfl, S6.2.2.2.2.2⟩

set_option maxRecDepth 100000 in
set_option maxHeartbeats 4000000 in
theorem roundTrip_high (s : ByteArray) (a : Nat) (n : Int) (p : Nat) (k : Int) (w : World) (he : Env w) (hp : p < 4294967296) (h0 : 0 ≤ n) (hn : 32 < n) (hs : s = ⟨#[]⟩)
    (H1 : Hid (∀ w1, Below w.heap.size w w1 → Calls Tryd.prog 41 #[.int .u32 (a : Int), .int .i64 n] w1 fun e w' => e = .returned (.string s) ∧ Below w1.heap.size w1 w'))
    (H3 : Hid (∀ w1, Below w.heap.size w w1 → Calls Tryd.prog 18 #[.string s] w1 fun e w' => e = .returned (.tuple #[.int .u32 0, .int .i64 0, .bool false]) ∧ Below w1.heap.size w1 w')) :
    Calls Tryd.prog 12 #[.int .u32 (a : Int), .int .i64 n, .agg #[.int .u32 (p : Int), .int .i64 k]] w fun e w' => e = .returned (.bool true) ∧ Below w.heap.size w w' := by
  have HE := Lib.hid he
  have H2 := Lib.hid (fun w1 (h : Below w.heap.size w w1) => formatPrefix_any p k w1 hp (he.below h))
  have H5 := Lib.hid (fun w => valid_any p k w hp)
  have S0 := boxNew w (.int .u32 (p : Int)) (.int .i64 k) 32
  unfold PV at H2 H5
  cases hv : validP p k with
  | true =>
    have H4 := Lib.hid (fun w1 hb => parsePfx_back he (pfx_back hp hv) (pfx_small p k) w1 hb)
    have hr := pfx_eql p p k k
    rw [show decide (p = p ∧ k = k) = true from by simp] at hr
    have hg := Tryd.pfxGuard
    rw [hv] at H5
    clear hv he
    generalize str (pfxF p k) = t at H2 H4
    subst hs
    go_enter Tryd.func12, Tryd.ntmps12
    go_wp2_with fail
    go_region_held3 (fun w' => w'.cell? ⟨w.heap.size, 0, none⟩ = some (.int .u32 (p : Int)) ∧ w'.cell? ⟨w.heap.size, 1, none⟩ = some (.int .i64 k) ∧ w.heap.size ≤ w'.heap.size ∧ Below w.heap.size w w') (first | assumption | exact keepBox S0 (below_drew _) | (refine keepBox ?_ (by assumption); assumption)) (first | (go_at_call 41; with_reducible refine (H1.out _ (And.right (And.right (And.right (by assumption))))).mono ?_; rintro e w' ⟨rfl, hb⟩) | (go_at_call 42; with_reducible refine (H2.out _ (And.right (And.right (And.right (by assumption))))).mono ?_; rintro e w' ⟨rfl, hb⟩))
    rename_i S1
    clear S0
    go_wp2_with fail
    refine (H3.out _ S1.2.2.2).mono ?_
    rintro e w2 ⟨rfl, hb2⟩
    have S2 := keepBox S1 hb2
    clear S1 hb2
    go_wp2_with fail
    refine (H4.out _ S2.2.2.2).mono ?_
    rintro e w3 ⟨rfl, hb3⟩
    have S3 := keepBox S2 hb3
    clear S2 hb3
    have S4 := boxTwo S3 (.int .u32 (p : Int)) (.int .i64 k) 32
    clear S3
    go_wp2_with fail
    refine (H5.out _).mono ?_
    rintro e w4 ⟨rfl, hb4⟩
    have S5 := keep2 S4 hb4
    clear S4 hb4
    go_wp2_with fail
    refine (sane2_env HE.out S5.2.2.2.2.2).mono ?_
    rintro e w5 ⟨rfl, hb5⟩
    have S6 := keep2 S5 hb5
    clear S5 hb5
    go_wp2_with fail
    go_ret
    exact ⟨rfl, S6.2.2.2.2.2⟩
  | false =>
    have H4 := Lib.hid (fun w1 hb => parsePfx_nil he w1 hb)
    rw [pfx_out hv, str_nil] at H2
    rw [str_nil] at H4
    rw [hv] at H5
    clear hv he
    subst hs
    go_enter Tryd.func12, Tryd.ntmps12
    go_wp2_with fail
    go_region_held3 (fun w' => w'.cell? ⟨w.heap.size, 0, none⟩ = some (.int .u32 (p : Int)) ∧ w'.cell? ⟨w.heap.size, 1, none⟩ = some (.int .i64 k) ∧ w.heap.size ≤ w'.heap.size ∧ Below w.heap.size w w') (first | assumption | exact keepBox S0 (below_drew _) | (refine keepBox ?_ (by assumption); assumption)) (first | (go_at_call 41; with_reducible refine (H1.out _ (And.right (And.right (And.right (by assumption))))).mono ?_; rintro e w' ⟨rfl, hb⟩) | (go_at_call 42; with_reducible refine (H2.out _ (And.right (And.right (And.right (by assumption))))).mono ?_; rintro e w' ⟨rfl, hb⟩))
    rename_i S1
    clear S0
    go_wp2_with fail
    refine (H3.out _ S1.2.2.2).mono ?_
    rintro e w2 ⟨rfl, hb2⟩
    have S2 := keepBox S1 hb2
    clear S1 hb2
    go_wp2_with fail
    refine (H4.out _ S2.2.2.2).mono ?_
    rintro e w3 ⟨rfl, hb3⟩
    have S3 := keepBox S2 hb3
    clear S2 hb3
    have S4 := boxTwo S3 (.int .u32 0) (.int .i64 0) 32
    clear S3
    go_wp2_with fail
    refine (H5.out _).mono ?_
    rintro e w4 ⟨rfl, hb4⟩
    have S5 := keep2 S4 hb4
    clear S4 hb4
    go_wp2_with fail
    refine (sane2_env HE.out S5.2.2.2.2.2).mono ?_
    rintro e w5 ⟨rfl, hb5⟩
    have S6 := keep2 S5 hb5
    clear S5 hb5
    go_wp2_with fail
    go_ret
    exact ⟨rfl, S6.2.2.2.2.2⟩

theorem addrPrefixRoundTrip_walk (a : Nat) (n : Int) (p : Nat) (k : Int) (w : World) (he : Env w) (ha : a < 4294967296) (_ : (Lit.int .i64 n).wf = true) (hp : p < 4294967296) (_ : (Lit.int .i64 k).wf = true) :
    Calls Tryd.prog 12 #[.int .u32 (a : Int), .int .i64 n, .agg #[.int .u32 (p : Int), .int .i64 k]] w fun e w' => e = .returned (.bool true) ∧ Below w.heap.size w w' := by
  have H1 := Lib.hid (fun w1 (h : Below w.heap.size w w1) => formatHost_any a n w1 ha (he.below h))
  rcases host_form ha n with ⟨h0, h1, hh⟩ | ⟨hn, hh⟩
  · exact roundTrip_in _ a n p k w he hp h0 h1 H1 (Lib.hid (fun w1 hb => parseHost_back he hh (host_small a n) w1 hb))
  · rw [hh] at H1
    rcases hn with hn | hn
    · exact roundTrip_low _ a n p k w he hp hn str_nil H1 (Lib.hid (fun w1 hb => parseHost_nil he w1 hb))
    · exact roundTrip_high _ a n p k w he hp (by omega) hn str_nil H1 (Lib.hid (fun w1 hb => parseHost_nil he w1 hb))
end Go.Proofs.YtaabmekdnkcdaaaDoor
