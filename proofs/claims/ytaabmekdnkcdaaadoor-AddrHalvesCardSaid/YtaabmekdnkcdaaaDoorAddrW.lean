/- The walk of the law AddrNested. Conditions: Env, the library's own tables. -/
import Derived.Test.YtaabmekdnkcdaaaDoorAddrV
namespace Go.Proofs.YtaabmekdnkcdaaaDoor
open Go.RowKit

theorem cov_trans {p : Nat} {n : Int} {q : Nat} {m : Int} {r : Nat} {k : Int} (h1 : covP p n q m = true) (h2 : covP q m r k = true) : covP p n r k = true := by
  unfold covP at *
  simp only [Bool.and_eq_true, decide_eq_true_eq] at *
  exact ⟨by omega, by rw [← cont_up h1.1 h2.2]; exact h1.2⟩
theorem valid_self {p : Nat} {n : Int} (h : validP p n = true) : contP p n p = true := by
  unfold validP at h
  simp only [Bool.and_eq_true, decide_eq_true_eq] at h
  unfold contP
  rw [decide_eq_true_eq]
  exact Nat.div_mul_cancel (Nat.dvd_of_mod_eq_zero h.2)
theorem cov_self {p : Nat} {n : Int} (h : validP p n = true) : covP p n p n = true := by
  unfold covP; rw [valid_self h]; simp
theorem cov_anti {p : Nat} {n : Int} {q : Nat} {m : Int} (hq : validP q m = true) (h1 : covP p n q m = true) (h2 : covP q m p n = true) : decide (p = q ∧ n = m) = true := by
  have h3 := valid_self hq
  unfold covP at h1 h2
  simp only [Bool.and_eq_true, decide_eq_true_eq] at h1 h2
  obtain rfl : n = m := by omega
  have h4 := h1.2
  unfold contP at h3 h4
  simp only [decide_eq_true_eq] at h3 h4 ⊢
  exact ⟨h4.symm.trans h3, trivial⟩

/-- Three boxes and what lies below, kept behind a call. -/
theorem keep3 {z b c d : Nat} {w0 w w' : World} {v0 v1 v2 v3 v4 v5 : Value}
    (h : w.cell? ⟨b, 0, none⟩ = some v0 ∧ w.cell? ⟨b, 1, none⟩ = some v1 ∧ w.cell? ⟨c, 0, none⟩ = some v2 ∧ w.cell? ⟨c, 1, none⟩ = some v3 ∧ w.cell? ⟨d, 0, none⟩ = some v4 ∧ w.cell? ⟨d, 1, none⟩ = some v5 ∧ z ≤ w.heap.size ∧ Below z w0 w) (hb : Below w.heap.size w w') :
    w'.cell? ⟨b, 0, none⟩ = some v0 ∧ w'.cell? ⟨b, 1, none⟩ = some v1 ∧ w'.cell? ⟨c, 0, none⟩ = some v2 ∧ w'.cell? ⟨c, 1, none⟩ = some v3 ∧ w'.cell? ⟨d, 0, none⟩ = some v4 ∧ w'.cell? ⟨d, 1, none⟩ = some v5 ∧ z ≤ w'.heap.size ∧ Below z w0 w' := by
  obtain ⟨h1, h2, h3, h4, h7, h8, h5, h6⟩ := h
  exact ⟨(hb.cell (World.block_lt_of_cell? _ _ h1)).trans h1, (hb.cell (World.block_lt_of_cell? _ _ h2)).trans h2, (hb.cell (World.block_lt_of_cell? _ _ h3)).trans h3, (hb.cell (World.block_lt_of_cell? _ _ h4)).trans h4, (hb.cell (World.block_lt_of_cell? _ _ h7)).trans h7, (hb.cell (World.block_lt_of_cell? _ _ h8)).trans h8, Nat.le_trans h5 hb.size, h6.trans (hb.mono h5)⟩

theorem box3_keep {z : Nat} {w0 W : World} {p : Nat} {n : Int} {q : Nat} {m : Int} {r : Nat} {k : Int} (h : Box3 z p n q m r k W) (hb : Below z w0 W) (hz : z ≤ W.heap.size) :
    W.cell? ⟨z, 0, none⟩ = some (.int .u32 (p : Int)) ∧ W.cell? ⟨z, 1, none⟩ = some (.int .i64 n) ∧ W.cell? ⟨z + 1, 0, none⟩ = some (.int .u32 (q : Int)) ∧ W.cell? ⟨z + 1, 1, none⟩ = some (.int .i64 m) ∧ W.cell? ⟨z + 1 + 1, 0, none⟩ = some (.int .u32 (r : Int)) ∧ W.cell? ⟨z + 1 + 1, 1, none⟩ = some (.int .i64 k) ∧ z ≤ W.heap.size ∧ Below z w0 W :=
  ⟨h.1.1, h.1.2.1, h.1.2.2.1, h.1.2.2.2.1, h.1.2.2.2.2.1, h.1.2.2.2.2.2, hz, hb⟩

set_option maxRecDepth 100000 in
set_option maxHeartbeats 4000000 in
theorem addrNested_walk (p : Nat) (n : Int) (q : Nat) (m : Int) (r : Nat) (k : Int) (w : World) (he : Env w) (hp : p < 4294967296) (_ : (Lit.int .i64 n).wf = true) (hq : q < 4294967296) (_ : (Lit.int .i64 m).wf = true) (hr : r < 4294967296) (_ : (Lit.int .i64 k).wf = true) :
    Calls Tryd.prog 8 #[.agg #[.int .u32 (p : Int), .int .i64 n], .agg #[.int .u32 (q : Int), .int .i64 m], .agg #[.int .u32 (r : Int), .int .i64 k]] w fun e w' => e = .returned (.bool true) ∧ Below w.heap.size w w' := by
  have HE := Lib.hid he
  clear he
  have H1 := Lib.hid (fun w => rvalid_any p n w hp)
  have H2 := Lib.hid (fun w => rvalid_any q m w hq)
  have H3 := Lib.hid (fun w => rvalid_any r k w hr)
  have H4 := Lib.hid (fun w => covers_any p n q m w hq)
  have H5 := Lib.hid (fun w => covers_any q m p n w hp)
  have H6 := Lib.hid (fun w => covers_any q m r k w hr)
  have H7 := Lib.hid (fun w => covers_any p n r k w hr)
  have H8 := Lib.hid (fun w => overlaps_any p n q m w hp hq)
  have H9 := Lib.hid (fun w => covers_any p n p n w hp)
  have F1 := Lib.hid (fun a b => @cov_trans p n q m r k a b)
  have F2 := Lib.hid (fun a b c => @cov_anti p n q m a b c)
  have F3 := Lib.hid (fun a => @cov_self p n a)
  unfold PV at H1 H2 H3 H4 H5 H6 H7 H8 H9
  unfold overP at H8
  have hq := pfx_eql p q n m
  have hg := Tryd.pfxGuard
  generalize decide (p = q ∧ n = m) = be at F2 hq
  generalize covP p n q m = c1 at H4 H8 F1 F2
  generalize covP q m p n = c2 at H5 H8 F2
  generalize covP q m r k = c3 at H6 F1
  generalize covP p n r k = c4 at H7 F1
  generalize covP p n p n = c5 at H9 F3
  generalize validP p n = v1 at H1 F3
  generalize validP q m = v2 at H2 F2
  generalize validP r k = v3 at H3
  have S0 := box3_keep (box3_new w p n q m r k 32) (below3 w _ _ _) (below3 w _ _ _).size
  cases v1 with
  | false =>
    go_enter Tryd.func8, Tryd.ntmps8
    go_wp2_with fail
    refine (H1.out _).mono ?_
    rintro e w1 ⟨rfl, hb1⟩
    have S1 := keep3 S0 hb1
    clear hb1
    go_wp2_with fail
    go_ret
    exact ⟨rfl, S1.2.2.2.2.2.2.2⟩
  | true =>
    obtain rfl := F3.out rfl
    clear F3
    cases v2 with
    | false =>
      go_enter Tryd.func8, Tryd.ntmps8
      go_wp2_with fail
      refine (H1.out _).mono ?_
      rintro e w1 ⟨rfl, hb1⟩
      have S1 := keep3 S0 hb1
      clear hb1
      go_wp2_with fail
      refine (H2.out _).mono ?_
      rintro e w2 ⟨rfl, hb2⟩
      have S2 := keep3 S1 hb2
      clear hb2
      go_wp2_with fail
      go_ret
      exact ⟨rfl, S2.2.2.2.2.2.2.2⟩
    | true =>
      have F4 := Lib.hid (F2.out rfl)
      clear F2
      cases v3 with
      | false =>
        go_enter Tryd.func8, Tryd.ntmps8
        go_wp2_with fail
        refine (H1.out _).mono ?_
        rintro e w1 ⟨rfl, hb1⟩
        have S1 := keep3 S0 hb1
        clear hb1
        go_wp2_with fail
        refine (H2.out _).mono ?_
        rintro e w2 ⟨rfl, hb2⟩
        have S2 := keep3 S1 hb2
        clear hb2
        go_wp2_with fail
        refine (H3.out _).mono ?_
        rintro e w3 ⟨rfl, hb3⟩
        have S3 := keep3 S2 hb3
        clear hb3
        go_wp2_with fail
        go_ret
        exact ⟨rfl, S3.2.2.2.2.2.2.2⟩
      | true =>
        go_enter Tryd.func8, Tryd.ntmps8
        go_wp2_with fail
        refine (H1.out _).mono ?_
        rintro e w1 ⟨rfl, hb1⟩
        have S1 := keep3 S0 hb1
        clear hb1
        go_wp2_with fail
        refine (H2.out _).mono ?_
        rintro e w2 ⟨rfl, hb2⟩
        have S2 := keep3 S1 hb2
        clear hb2
        go_wp2_with fail
        refine (H3.out _).mono ?_
        rintro e w3 ⟨rfl, hb3⟩
        have S3 := keep3 S2 hb3
        clear hb3
        clear S0 S1 S2
        go_wp2_with fail
        go_region_held3 (fun w' => w'.cell? ⟨w.heap.size, 0, none⟩ = some (.int .u32 (p : Int)) ∧ w'.cell? ⟨w.heap.size, 1, none⟩ = some (.int .i64 n) ∧ w'.cell? ⟨w.heap.size + 1, 0, none⟩ = some (.int .u32 (q : Int)) ∧ w'.cell? ⟨w.heap.size + 1, 1, none⟩ = some (.int .i64 m) ∧ w'.cell? ⟨w.heap.size + 1 + 1, 0, none⟩ = some (.int .u32 (r : Int)) ∧ w'.cell? ⟨w.heap.size + 1 + 1, 1, none⟩ = some (.int .i64 k) ∧ w.heap.size ≤ w'.heap.size ∧ Below w.heap.size w w') (first | exact keep3 S3 (below_drew _) | (refine keep3 ?_ (by assumption); assumption)) (first | (go_at_call 28; (first | (with_reducible refine (H4.out _).mono ?_) | (with_reducible refine (H5.out _).mono ?_)); rintro e w' ⟨rfl, hb⟩))
        rename_i S4
        clear S3
        cases c1 <;> cases c2 <;> cases c3
        all_goals (try (obtain rfl := F1.out rfl rfl))
        all_goals (try (obtain rfl := F4.out rfl rfl))
        all_goals go_wp2_with fail
        all_goals repeat (
          first | (with_reducible refine (H8.out _).mono ?_) | (with_reducible refine (H6.out _).mono ?_) | (with_reducible refine (H7.out _).mono ?_) | (with_reducible refine (H9.out _).mono ?_)
          rintro e w9 ⟨rfl, hb9⟩
          replace S4 := keep3 S4 hb9
          clear hb9
          go_wp2_with fail)
        all_goals (
          refine (sane2_env HE.out S4.2.2.2.2.2.2.2).mono ?_
          rintro e w9 ⟨rfl, hb9⟩
          replace S4 := keep3 S4 hb9
          go_wp2_with fail
          go_ret
          exact ⟨rfl, S4.2.2.2.2.2.2.2⟩)
end Go.Proofs.YtaabmekdnkcdaaaDoor
