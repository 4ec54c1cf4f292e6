/- The walk of the law AddrHalves. Conditions: Env, the library's own tables. -/
import Derived.Test.YtaabmekdnkcdaaaDoorAddrW
import Derived.Test.YtaabmekdnkcdaaaDoorAddrX
namespace Go.Proofs.YtaabmekdnkcdaaaDoor
open Go.RowKit

/-- One box and what lies below, kept behind a call. -/
theorem keep1 {z b : Nat} {w0 w w' : World} {v0 v1 : Value}
    (h : w.cell? ⟨b, 0, none⟩ = some v0 ∧ w.cell? ⟨b, 1, none⟩ = some v1 ∧ z ≤ w.heap.size ∧ Below z w0 w) (hb : Below w.heap.size w w') :
    w'.cell? ⟨b, 0, none⟩ = some v0 ∧ w'.cell? ⟨b, 1, none⟩ = some v1 ∧ z ≤ w'.heap.size ∧ Below z w0 w' := by
  obtain ⟨h1, h2, h5, h6⟩ := h
  exact ⟨(hb.cell (World.block_lt_of_cell? _ _ h1)).trans h1, (hb.cell (World.block_lt_of_cell? _ _ h2)).trans h2, Nat.le_trans h5 hb.size, h6.trans (hb.mono h5)⟩
theorem box1_new (w : World) (a b : Value) (t : TypeId) :
    (w.alloc (.cells #[a, b] t)).cell? ⟨w.heap.size, 0, none⟩ = some a ∧ (w.alloc (.cells #[a, b] t)).cell? ⟨w.heap.size, 1, none⟩ = some b ∧ w.heap.size ≤ (w.alloc (.cells #[a, b] t)).heap.size ∧ Below w.heap.size w (w.alloc (.cells #[a, b] t)) :=
  ⟨new_cell _ _ _ _, new_cell _ _ _ _, by simp, (Below.refl _ w).alloc (Nat.le_refl _) _⟩

theorem box2_val (w : World) (a b c d : Value) (t : TypeId) :
    ((w.alloc (.cells #[a, b] t)).alloc (.cells #[c, d] t)).cell? ⟨w.heap.size, 0, none⟩ = some a ∧ ((w.alloc (.cells #[a, b] t)).alloc (.cells #[c, d] t)).cell? ⟨w.heap.size, 1, none⟩ = some b
      ∧ ((w.alloc (.cells #[a, b] t)).alloc (.cells #[c, d] t)).cell? ⟨w.heap.size + 1, 0, none⟩ = some c ∧ ((w.alloc (.cells #[a, b] t)).alloc (.cells #[c, d] t)).cell? ⟨w.heap.size + 1, 1, none⟩ = some d
      ∧ Below w.heap.size w ((w.alloc (.cells #[a, b] t)).alloc (.cells #[c, d] t)) := by
  have e1 : ∀ (o : Obj), (w.alloc o).heap.size = w.heap.size + 1 := fun o => by simp
  refine ⟨?_, ?_, ?_, ?_, ((Below.refl _ w).alloc (Nat.le_refl _) _).alloc (by simp) _⟩
  · rw [World.cell?_alloc_lt _ _ _ (by simp), new_cell]; rfl
  · rw [World.cell?_alloc_lt _ _ _ (by simp), new_cell]; rfl
  · rw [← e1, new_cell]; rfl
  · rw [← e1, new_cell]; rfl
/-- One box, and two new ones. -/
theorem box3_val {z0 b0 : Nat} {w0 w : World} {v0 v1 : Value} (h : w.cell? ⟨b0, 0, none⟩ = some v0 ∧ w.cell? ⟨b0, 1, none⟩ = some v1 ∧ z0 ≤ w.heap.size ∧ Below z0 w0 w) (a b c d : Value) (t : TypeId) :
    ((w.alloc (.cells #[a, b] t)).alloc (.cells #[c, d] t)).cell? ⟨b0, 0, none⟩ = some v0 ∧ ((w.alloc (.cells #[a, b] t)).alloc (.cells #[c, d] t)).cell? ⟨b0, 1, none⟩ = some v1
      ∧ ((w.alloc (.cells #[a, b] t)).alloc (.cells #[c, d] t)).cell? ⟨w.heap.size, 0, none⟩ = some a ∧ ((w.alloc (.cells #[a, b] t)).alloc (.cells #[c, d] t)).cell? ⟨w.heap.size, 1, none⟩ = some b
      ∧ ((w.alloc (.cells #[a, b] t)).alloc (.cells #[c, d] t)).cell? ⟨w.heap.size + 1, 0, none⟩ = some c ∧ ((w.alloc (.cells #[a, b] t)).alloc (.cells #[c, d] t)).cell? ⟨w.heap.size + 1, 1, none⟩ = some d
      ∧ z0 ≤ ((w.alloc (.cells #[a, b] t)).alloc (.cells #[c, d] t)).heap.size ∧ Below z0 w0 ((w.alloc (.cells #[a, b] t)).alloc (.cells #[c, d] t)) := by
  obtain ⟨g1, g2, g3, g4, g5⟩ := box2_val w a b c d t
  obtain ⟨k1, k2, k3, k4⟩ := keep1 h g5
  exact ⟨k1, k2, g1, g2, g3, g4, k3, k4⟩

set_option maxRecDepth 100000 in
set_option maxHeartbeats 40000000 in
theorem addrHalves_walk (p : Nat) (n : Int) (x : Nat) (w : World) (he : Env w) (hp : p < 4294967296) (_ : (Lit.int .i64 n).wf = true) (hx : x < 4294967296) :
    Calls Tryd.prog 10 #[.agg #[.int .u32 (p : Int), .int .i64 n], .int .u32 (x : Int)] w fun e w' => e = .returned (.bool true) ∧ Below w.heap.size w w' := by
  have HE := Lib.hid he
  clear he
  have H1 := Lib.hid (fun w => rvalid_any p n w hp)
  have H2 := Lib.hid (fun w => last_any p n w hp)
  have H3 := Lib.hid (fun w => rlast_any p n w hp)
  unfold PV at H1 H2 H3
  have S0 := box1_new w (.int .u32 (p : Int)) (.int .i64 n) 32
  cases hv : validP p n with
  | false =>
    rw [hv] at H1
    go_enter Tryd.func10, Tryd.ntmps10
    go_wp2_with fail
    refine (H1.out _).mono ?_
    rintro e w1 ⟨rfl, hb1⟩
    replace S0 := keep1 S0 hb1
    clear hb1
    go_wp2_with fail
    go_ret
    exact ⟨rfl, S0.2.2.2⟩
  | true =>
    rw [hv] at H1
    obtain ⟨h0, h32, hm⟩ := valid_parts hv
    have HV := Lib.hid hv
    clear hv
    by_cases h1 : n < 32
    · obtain ⟨f1, f2, f3, f4, f5, f6⟩ := halves_facts x HV.out h1
      have hl := halfP_lt hp h0
      have H4 := Lib.hid (fun w => halves_yes p n w hp h0 h1)
      have H5 := Lib.hid (fun w => valid_any p (n + 1) w hp)
      have H6 := Lib.hid (fun w => valid_any (halfP p n) (n + 1) w hl)
      have H7 := Lib.hid (fun w => last_any (halfP p n) (n + 1) w hl)
      have H8 := Lib.hid (fun w => last_any p (n + 1) w hp)
      have H9 := Lib.hid (fun w => contains_any p n x w hx)
      have G1 := Lib.hid (fun w => contains_any p (n + 1) x w hx)
      have G2 := Lib.hid (fun w => contains_any (halfP p n) (n + 1) x w hx)
      have G3 := Lib.hid (fun w => overlaps_any p (n + 1) (halfP p n) (n + 1) w hp hl)
      rw [f1] at H5
      rw [f2] at H6
      rw [f3] at H7
      rw [f5] at H9
      rw [f6] at G3
      have L2 := lastP_lt hp (n + 1)
      unfold PV at H4 H5 H6 H7 H8 H9 G1 G2 G3
      have d1 : decide (n < 32) = true := by simp [h1]
      have W1 : IntKind.i64.wrap (n + 1) = n + 1 := by simp [IntKind.wrap, IntKind.signed, IntKind.bits]; omega
      clear f1 f2 f3 f5 f6 hm HV
      generalize halfP p n = h at *
      generalize lastP p (n + 1) = l1 at *
      generalize lastP p n = l0 at *
      generalize contP h (n + 1) x = cb at *
      subst f4
      have W2 : IntKind.u32.wrap ((l1 : Int) + 1) = ((l1 + 1 : Nat) : Int) := by simp [IntKind.wrap, IntKind.signed, IntKind.bits]; omega
      generalize l1 + 1 = h at *
      generalize contP p (n + 1) x = ca at *
      cases ca with
      | false =>
        simp only [Bool.false_or] at H9
        go_enter Tryd.func10, Tryd.ntmps10
        go_wp2_with fail
        refine (H1.out _).mono ?_
        rintro e w1 ⟨rfl, hb1⟩
        replace S0 := keep1 S0 hb1
        clear hb1
        go_wp2_with fail
        refine (H4.out _).mono ?_
        rintro e w2 ⟨rfl, hb2⟩
        replace S0 := keep1 S0 hb2
        clear hb2
        have S1 := box3_val S0 (.int .u32 (p : Int)) (.int .i64 (n + 1)) (.int .u32 (h : Int)) (.int .i64 (n + 1)) 32
        clear S0
        go_wp2_with fail
        go_region_held3 (fun w' => w'.cell? ⟨w.heap.size, 0, none⟩ = some (.int .u32 (p : Int)) ∧ w'.cell? ⟨w.heap.size, 1, none⟩ = some (.int .i64 n) ∧ w'.cell? ⟨w2.heap.size, 0, none⟩ = some (.int .u32 (p : Int)) ∧ w'.cell? ⟨w2.heap.size, 1, none⟩ = some (.int .i64 (n + 1)) ∧ w'.cell? ⟨w2.heap.size + 1, 0, none⟩ = some (.int .u32 (h : Int)) ∧ w'.cell? ⟨w2.heap.size + 1, 1, none⟩ = some (.int .i64 (n + 1)) ∧ w.heap.size ≤ w'.heap.size ∧ Below w.heap.size w w') (first | exact keep3 S1 (below_drew _) | (refine keep3 ?_ (by assumption); assumption)) (first | (go_at_call 37; with_reducible refine (H2.out _).mono ?_; rintro e w' ⟨rfl, hb⟩) | (go_at_call 38; with_reducible refine (H3.out _).mono ?_; rintro e w' ⟨rfl, hb⟩))
        rename_i S2
        clear S1
        go_wp2_with fail
        simp only [List.append_eq, List.cons_append, List.nil_append]
        go_region_held3 (fun w' => w'.cell? ⟨w.heap.size, 0, none⟩ = some (.int .u32 (p : Int)) ∧ w'.cell? ⟨w.heap.size, 1, none⟩ = some (.int .i64 n) ∧ w'.cell? ⟨w2.heap.size, 0, none⟩ = some (.int .u32 (p : Int)) ∧ w'.cell? ⟨w2.heap.size, 1, none⟩ = some (.int .i64 (n + 1)) ∧ w'.cell? ⟨w2.heap.size + 1, 0, none⟩ = some (.int .u32 (h : Int)) ∧ w'.cell? ⟨w2.heap.size + 1, 1, none⟩ = some (.int .i64 (n + 1)) ∧ w.heap.size ≤ w'.heap.size ∧ Below w.heap.size w w') (first | assumption | exact keep3 S2 (below_drew _) | (refine keep3 ?_ (by assumption); assumption)) (first | (go_at_call 23; (first | (with_reducible refine (H5.out _).mono ?_) | (with_reducible refine (H6.out _).mono ?_)); rintro e w' ⟨rfl, hb⟩) | (go_at_call 37; (first | (with_reducible refine (H7.out _).mono ?_) | (with_reducible refine (H2.out _).mono ?_) | (with_reducible refine (H8.out _).mono ?_)); rintro e w' ⟨rfl, hb⟩) | (go_at_call 26; (first | (with_reducible refine (H9.out _).mono ?_) | (with_reducible refine (G1.out _).mono ?_) | (with_reducible refine (G2.out _).mono ?_)); rintro e w' ⟨rfl, hb⟩) | (go_at_call 30; with_reducible refine (G3.out _).mono ?_; rintro e w' ⟨rfl, hb⟩) | (go_at_call 15; with_reducible refine (sane2_env HE.out (And.right (And.right (And.right (And.right (And.right (And.right (And.right (by assumption))))))))).mono ?_; rintro e w' ⟨rfl, hb⟩))
        rename_i S3
        go_wp2_with fail
        go_ret
        exact ⟨rfl, S3.2.2.2.2.2.2.2⟩
      | true =>
        simp only [Bool.true_or] at H9
        go_enter Tryd.func10, Tryd.ntmps10
        go_wp2_with fail
        refine (H1.out _).mono ?_
        rintro e w1 ⟨rfl, hb1⟩
        replace S0 := keep1 S0 hb1
        clear hb1
        go_wp2_with fail
        refine (H4.out _).mono ?_
        rintro e w2 ⟨rfl, hb2⟩
        replace S0 := keep1 S0 hb2
        clear hb2
        have S1 := box3_val S0 (.int .u32 (p : Int)) (.int .i64 (n + 1)) (.int .u32 (h : Int)) (.int .i64 (n + 1)) 32
        clear S0
        go_wp2_with fail
        go_region_held3 (fun w' => w'.cell? ⟨w.heap.size, 0, none⟩ = some (.int .u32 (p : Int)) ∧ w'.cell? ⟨w.heap.size, 1, none⟩ = some (.int .i64 n) ∧ w'.cell? ⟨w2.heap.size, 0, none⟩ = some (.int .u32 (p : Int)) ∧ w'.cell? ⟨w2.heap.size, 1, none⟩ = some (.int .i64 (n + 1)) ∧ w'.cell? ⟨w2.heap.size + 1, 0, none⟩ = some (.int .u32 (h : Int)) ∧ w'.cell? ⟨w2.heap.size + 1, 1, none⟩ = some (.int .i64 (n + 1)) ∧ w.heap.size ≤ w'.heap.size ∧ Below w.heap.size w w') (first | exact keep3 S1 (below_drew _) | (refine keep3 ?_ (by assumption); assumption)) (first | (go_at_call 37; with_reducible refine (H2.out _).mono ?_; rintro e w' ⟨rfl, hb⟩) | (go_at_call 38; with_reducible refine (H3.out _).mono ?_; rintro e w' ⟨rfl, hb⟩))
        rename_i S2
        clear S1
        go_wp2_with fail
        simp only [List.append_eq, List.cons_append, List.nil_append]
        refine wp_region_held_drew (S := (fun w' => w'.cell? ⟨w.heap.size, 0, none⟩ = some (.int .u32 (p : Int)) ∧ w'.cell? ⟨w.heap.size, 1, none⟩ = some (.int .i64 n) ∧ w'.cell? ⟨w2.heap.size, 0, none⟩ = some (.int .u32 (p : Int)) ∧ w'.cell? ⟨w2.heap.size, 1, none⟩ = some (.int .i64 (n + 1)) ∧ w'.cell? ⟨w2.heap.size + 1, 0, none⟩ = some (.int .u32 (h : Int)) ∧ w'.cell? ⟨w2.heap.size + 1, 1, none⟩ = some (.int .i64 (n + 1)) ∧ w.heap.size ≤ w'.heap.size ∧ Below w.heap.size w w')) (by kernel_rfl) (keep3 S2 (below_drew _)) (fun hHeld => ?_)
        refine wpAnyH_take (i := 0) (oi := { dst := some 49, op := Op.load 32 (Operand.tmp 5), type := 32, pos := "law.go:103", after := #[], guard := none }) (v := ?_) rfl (by kernel_rfl) (by kernel_rfl) (by kernel_rfl) (fun _ _ _ h => h) (Or.inl ⟨by rfl, ?_⟩) (by assumption) ?_
        rotate_left
        · (intro w hSw; (try dsimp only at hSw); go_simp; try with_reducible rfl)
        try simp only [Act.put, List.setIfInBounds_toArray, List.set_cons_zero, List.set_cons_succ]
        refine wpAnyH_ready (rs := [1]) (by kernel_rfl) (by simp) ?_
        refine AllReadyH.cons (o := { dst := some 50, op := Op.call { callee := Callee.value (Operand.func 23), args := #[Operand.tmp 49], argTypes := #[32] }, type := 4, pos := "law.go:103", after := #[{ on := 0, ground := Ground.data }], guard := none }) rfl (fun K hK => ?_) AllReadyH.nil
        go_simp
        (first | (go_at_call 23; (first | (with_reducible refine (H5.out _).mono ?_) | (with_reducible refine (H6.out _).mono ?_)); rintro e w' ⟨rfl, hb⟩) | (go_at_call 37; (first | (with_reducible refine (H7.out _).mono ?_) | (with_reducible refine (H2.out _).mono ?_) | (with_reducible refine (H8.out _).mono ?_)); rintro e w' ⟨rfl, hb⟩) | (go_at_call 26; (first | (with_reducible refine (H9.out _).mono ?_) | (with_reducible refine (G1.out _).mono ?_) | (with_reducible refine (G2.out _).mono ?_)); rintro e w' ⟨rfl, hb⟩) | (go_at_call 30; with_reducible refine (G3.out _).mono ?_; rintro e w' ⟨rfl, hb⟩) | (go_at_call 15; with_reducible refine (sane2_env HE.out (And.right (And.right (And.right (And.right (And.right (And.right (And.right (by assumption))))))))).mono ?_; rintro e w' ⟨rfl, hb⟩))
        refine hK.out _ _ (by (refine keep3 ?_ (by assumption); assumption)) (fun hHeld => ?_)
        clear hK K
        try simp only [Act.put, List.setIfInBounds_toArray, List.set_cons_zero, List.set_cons_succ]
        refine wpAnyH_take (i := 2) (oi := { dst := some 51, op := Op.move (Operand.tmp 50), type := 4, pos := "law.go:103", after := #[{ on := 1, ground := Ground.data }, { on := 1, ground := Ground.chain }], guard := none }) (v := ?_) rfl (by kernel_rfl) (by kernel_rfl) (by kernel_rfl) (fun _ _ _ h => h) (Or.inl ⟨by rfl, ?_⟩) (by assumption) ?_
        rotate_left
        · (intro w hSw; (try dsimp only at hSw); go_simp; try with_reducible rfl)
        try simp only [Act.put, List.setIfInBounds_toArray, List.set_cons_zero, List.set_cons_succ]
        refine wpAnyH_take (i := 3) (oi := { dst := some 52, op := Op.load 32 (Operand.tmp 6), type := 32, pos := "law.go:103", after := #[{ on := 2, ground := Ground.guard }], guard := some (2, true) }) (v := ?_) rfl (by kernel_rfl) (by kernel_rfl) (by kernel_rfl) (fun _ _ _ h => h) (Or.inl ⟨by rfl, ?_⟩) (by assumption) ?_
        rotate_left
        · (intro w hSw; (try dsimp only at hSw); go_simp; try with_reducible rfl)
        try simp only [Act.put, List.setIfInBounds_toArray, List.set_cons_zero, List.set_cons_succ]
        refine wpAnyH_ready (rs := [4]) (by kernel_rfl) (by simp) ?_
        refine AllReadyH.cons (o := { dst := some 53, op := Op.call { callee := Callee.value (Operand.func 23), args := #[Operand.tmp 52], argTypes := #[32] }, type := 4, pos := "law.go:103", after := #[{ on := 3, ground := Ground.data }, { on := 2, ground := Ground.chain }, { on := 2, ground := Ground.guard }], guard := some (2, true) }) rfl (fun K hK => ?_) AllReadyH.nil
        go_simp
        (first | (go_at_call 23; (first | (with_reducible refine (H5.out _).mono ?_) | (with_reducible refine (H6.out _).mono ?_)); rintro e w' ⟨rfl, hb⟩) | (go_at_call 37; (first | (with_reducible refine (H7.out _).mono ?_) | (with_reducible refine (H2.out _).mono ?_) | (with_reducible refine (H8.out _).mono ?_)); rintro e w' ⟨rfl, hb⟩) | (go_at_call 26; (first | (with_reducible refine (H9.out _).mono ?_) | (with_reducible refine (G1.out _).mono ?_) | (with_reducible refine (G2.out _).mono ?_)); rintro e w' ⟨rfl, hb⟩) | (go_at_call 30; with_reducible refine (G3.out _).mono ?_; rintro e w' ⟨rfl, hb⟩) | (go_at_call 15; with_reducible refine (sane2_env HE.out (And.right (And.right (And.right (And.right (And.right (And.right (And.right (by assumption))))))))).mono ?_; rintro e w' ⟨rfl, hb⟩))
        refine hK.out _ _ (by (refine keep3 ?_ (by assumption); assumption)) (fun hHeld => ?_)
        clear hK K
        try simp only [Act.put, List.setIfInBounds_toArray, List.set_cons_zero, List.set_cons_succ]
        refine wpAnyH_take (i := 5) (oi := { dst := some 54, op := Op.pick (Operand.tmp 51) (Operand.tmp 53) (Operand.const (Value.bool false)), type := 4, pos := "law.go:103", after := #[{ on := 2, ground := Ground.data }, { on := 4, ground := Ground.data }], guard := none }) (v := ?_) rfl (by kernel_rfl) (by kernel_rfl) (by kernel_rfl) (fun _ _ _ h => h) (Or.inl ⟨by rfl, ?_⟩) (by assumption) ?_
        rotate_left
        · (intro w hSw; (try dsimp only at hSw); go_simp; try with_reducible rfl)
        try simp only [Act.put, List.setIfInBounds_toArray, List.set_cons_zero, List.set_cons_succ]
        refine wpAnyH_take (i := 6) (oi := { dst := some 55, op := Op.move (Operand.tmp 54), type := 4, pos := "law.go:103", after := #[{ on := 5, ground := Ground.data }, { on := 4, ground := Ground.chain }], guard := none }) (v := ?_) rfl (by kernel_rfl) (by kernel_rfl) (by kernel_rfl) (fun _ _ _ h => h) (Or.inl ⟨by rfl, ?_⟩) (by assumption) ?_
        rotate_left
        · (intro w hSw; (try dsimp only at hSw); go_simp; try with_reducible rfl)
        try simp only [Act.put, List.setIfInBounds_toArray, List.set_cons_zero, List.set_cons_succ]
        refine wpAnyH_take (i := 7) (oi := { dst := some 56, op := Op.fieldAddr 32 (Operand.tmp 5) 1, type := 0, pos := "law.go:103", after := #[{ on := 6, ground := Ground.guard }], guard := some (6, true) }) (v := ?_) rfl (by kernel_rfl) (by kernel_rfl) (by kernel_rfl) (fun _ _ _ h => h) (Or.inl ⟨by rfl, ?_⟩) (by assumption) ?_
        rotate_left
        · (intro w hSw; (try dsimp only at hSw); go_simp; try with_reducible rfl)
        try simp only [Act.put, List.setIfInBounds_toArray, List.set_cons_zero, List.set_cons_succ]
        refine wpAnyH_take (i := 8) (oi := { dst := some 57, op := Op.load 3 (Operand.tmp 56), type := 3, pos := "law.go:103", after := #[{ on := 7, ground := Ground.data }, { on := 6, ground := Ground.guard }], guard := some (6, true) }) (v := ?_) rfl (by kernel_rfl) (by kernel_rfl) (by kernel_rfl) (fun _ _ _ h => h) (Or.inl ⟨by rfl, ?_⟩) (by assumption) ?_
        rotate_left
        · (intro w hSw; (try dsimp only at hSw); go_simp; try with_reducible rfl)
        try simp only [Act.put, List.setIfInBounds_toArray, List.set_cons_zero, List.set_cons_succ]
        refine wpAnyH_take (i := 9) (oi := { dst := some 58, op := Op.fieldAddr 32 (Operand.tmp 2) 1, type := 0, pos := "law.go:103", after := #[{ on := 6, ground := Ground.guard }], guard := some (6, true) }) (v := ?_) rfl (by kernel_rfl) (by kernel_rfl) (by kernel_rfl) (fun _ _ _ h => h) (Or.inl ⟨by rfl, ?_⟩) (by assumption) ?_
        rotate_left
        · (intro w hSw; (try dsimp only at hSw); go_simp; try with_reducible rfl)
        try simp only [Act.put, List.setIfInBounds_toArray, List.set_cons_zero, List.set_cons_succ]
        refine wpAnyH_take (i := 10) (oi := { dst := some 59, op := Op.load 3 (Operand.tmp 58), type := 3, pos := "law.go:103", after := #[{ on := 9, ground := Ground.data }, { on := 6, ground := Ground.guard }], guard := some (6, true) }) (v := ?_) rfl (by kernel_rfl) (by kernel_rfl) (by kernel_rfl) (fun _ _ _ h => h) (Or.inl ⟨by rfl, ?_⟩) (by assumption) ?_
        rotate_left
        · (intro w hSw; (try dsimp only at hSw); go_simp; try with_reducible rfl)
        try simp only [Act.put, List.setIfInBounds_toArray, List.set_cons_zero, List.set_cons_succ]
        refine wpAnyH_take (i := 11) (oi := { dst := some 60, op := Op.binOp BinOp.add 3 (Operand.tmp 59) (Operand.const (Value.int IntKind.i64 1)) 3, type := 3, pos := "law.go:103", after := #[{ on := 10, ground := Ground.data }, { on := 6, ground := Ground.guard }], guard := some (6, true) }) (v := ?_) rfl (by kernel_rfl) (by kernel_rfl) (by kernel_rfl) (fun _ _ _ h => h) (Or.inl ⟨by rfl, ?_⟩) (by assumption) ?_
        rotate_left
        · (intro w hSw; (try dsimp only at hSw); go_simp; try with_reducible rfl)
        try simp only [Act.put, List.setIfInBounds_toArray, List.set_cons_zero, List.set_cons_succ]
        refine wpAnyH_take (i := 12) (oi := { dst := some 61, op := Op.binOp BinOp.eql 3 (Operand.tmp 57) (Operand.tmp 60) 3, type := 4, pos := "law.go:103", after := #[{ on := 8, ground := Ground.data }, { on := 11, ground := Ground.data }, { on := 6, ground := Ground.guard }], guard := some (6, true) }) (v := ?_) rfl (by kernel_rfl) (by kernel_rfl) (by kernel_rfl) (fun _ _ _ h => h) (Or.inl ⟨by rfl, ?_⟩) (by assumption) ?_
        rotate_left
        · (intro w hSw; (try dsimp only at hSw); go_simp; try with_reducible rfl)
        try simp only [Act.put, List.setIfInBounds_toArray, List.set_cons_zero, List.set_cons_succ]
        refine wpAnyH_take (i := 13) (oi := { dst := some 62, op := Op.pick (Operand.tmp 55) (Operand.tmp 61) (Operand.const (Value.bool false)), type := 4, pos := "law.go:103", after := #[{ on := 6, ground := Ground.data }, { on := 12, ground := Ground.data }], guard := none }) (v := ?_) rfl (by kernel_rfl) (by kernel_rfl) (by kernel_rfl) (fun _ _ _ h => h) (Or.inl ⟨by rfl, ?_⟩) (by assumption) ?_
        rotate_left
        · (intro w hSw; (try dsimp only at hSw); go_simp; try with_reducible rfl)
        try simp only [Act.put, List.setIfInBounds_toArray, List.set_cons_zero, List.set_cons_succ]
        refine wpAnyH_take (i := 14) (oi := { dst := some 63, op := Op.move (Operand.tmp 62), type := 4, pos := "law.go:103", after := #[{ on := 13, ground := Ground.data }, { on := 6, ground := Ground.chain }], guard := none }) (v := ?_) rfl (by kernel_rfl) (by kernel_rfl) (by kernel_rfl) (fun _ _ _ h => h) (Or.inl ⟨by rfl, ?_⟩) (by assumption) ?_
        rotate_left
        · (intro w hSw; (try dsimp only at hSw); go_simp; try with_reducible rfl)
        try simp only [Act.put, List.setIfInBounds_toArray, List.set_cons_zero, List.set_cons_succ]
        refine wpAnyH_take (i := 15) (oi := { dst := some 64, op := Op.fieldAddr 32 (Operand.tmp 6) 1, type := 0, pos := "law.go:103", after := #[{ on := 14, ground := Ground.guard }], guard := some (14, true) }) (v := ?_) rfl (by kernel_rfl) (by kernel_rfl) (by kernel_rfl) (fun _ _ _ h => h) (Or.inl ⟨by rfl, ?_⟩) (by assumption) ?_
        rotate_left
        · (intro w hSw; (try dsimp only at hSw); go_simp; try with_reducible rfl)
        try simp only [Act.put, List.setIfInBounds_toArray, List.set_cons_zero, List.set_cons_succ]
        refine wpAnyH_take (i := 16) (oi := { dst := some 65, op := Op.load 3 (Operand.tmp 64), type := 3, pos := "law.go:103", after := #[{ on := 15, ground := Ground.data }, { on := 14, ground := Ground.guard }], guard := some (14, true) }) (v := ?_) rfl (by kernel_rfl) (by kernel_rfl) (by kernel_rfl) (fun _ _ _ h => h) (Or.inl ⟨by rfl, ?_⟩) (by assumption) ?_
        rotate_left
        · (intro w hSw; (try dsimp only at hSw); go_simp; try with_reducible rfl)
        try simp only [Act.put, List.setIfInBounds_toArray, List.set_cons_zero, List.set_cons_succ]
        refine wpAnyH_take (i := 17) (oi := { dst := some 66, op := Op.fieldAddr 32 (Operand.tmp 2) 1, type := 0, pos := "law.go:103", after := #[{ on := 14, ground := Ground.guard }], guard := some (14, true) }) (v := ?_) rfl (by kernel_rfl) (by kernel_rfl) (by kernel_rfl) (fun _ _ _ h => h) (Or.inl ⟨by rfl, ?_⟩) (by assumption) ?_
        rotate_left
        · (intro w hSw; (try dsimp only at hSw); go_simp; try with_reducible rfl)
        try simp only [Act.put, List.setIfInBounds_toArray, List.set_cons_zero, List.set_cons_succ]
        refine wpAnyH_take (i := 18) (oi := { dst := some 67, op := Op.load 3 (Operand.tmp 66), type := 3, pos := "law.go:103", after := #[{ on := 17, ground := Ground.data }, { on := 14, ground := Ground.guard }], guard := some (14, true) }) (v := ?_) rfl (by kernel_rfl) (by kernel_rfl) (by kernel_rfl) (fun _ _ _ h => h) (Or.inl ⟨by rfl, ?_⟩) (by assumption) ?_
        rotate_left
        · (intro w hSw; (try dsimp only at hSw); go_simp; try with_reducible rfl)
        try simp only [Act.put, List.setIfInBounds_toArray, List.set_cons_zero, List.set_cons_succ]
        refine wpAnyH_take (i := 19) (oi := { dst := some 68, op := Op.binOp BinOp.add 3 (Operand.tmp 67) (Operand.const (Value.int IntKind.i64 1)) 3, type := 3, pos := "law.go:103", after := #[{ on := 18, ground := Ground.data }, { on := 14, ground := Ground.guard }], guard := some (14, true) }) (v := ?_) rfl (by kernel_rfl) (by kernel_rfl) (by kernel_rfl) (fun _ _ _ h => h) (Or.inl ⟨by rfl, ?_⟩) (by assumption) ?_
        rotate_left
        · (intro w hSw; (try dsimp only at hSw); go_simp; try with_reducible rfl)
        try simp only [Act.put, List.setIfInBounds_toArray, List.set_cons_zero, List.set_cons_succ]
        refine wpAnyH_take (i := 20) (oi := { dst := some 69, op := Op.binOp BinOp.eql 3 (Operand.tmp 65) (Operand.tmp 68) 3, type := 4, pos := "law.go:103", after := #[{ on := 16, ground := Ground.data }, { on := 19, ground := Ground.data }, { on := 14, ground := Ground.guard }], guard := some (14, true) }) (v := ?_) rfl (by kernel_rfl) (by kernel_rfl) (by kernel_rfl) (fun _ _ _ h => h) (Or.inl ⟨by rfl, ?_⟩) (by assumption) ?_
        rotate_left
        · (intro w hSw; (try dsimp only at hSw); go_simp; try with_reducible rfl)
        try simp only [Act.put, List.setIfInBounds_toArray, List.set_cons_zero, List.set_cons_succ]
        refine wpAnyH_take (i := 21) (oi := { dst := some 70, op := Op.pick (Operand.tmp 63) (Operand.tmp 69) (Operand.const (Value.bool false)), type := 4, pos := "law.go:103", after := #[{ on := 14, ground := Ground.data }, { on := 20, ground := Ground.data }], guard := none }) (v := ?_) rfl (by kernel_rfl) (by kernel_rfl) (by kernel_rfl) (fun _ _ _ h => h) (Or.inl ⟨by rfl, ?_⟩) (by assumption) ?_
        rotate_left
        · (intro w hSw; (try dsimp only at hSw); go_simp; try with_reducible rfl)
        try simp only [Act.put, List.setIfInBounds_toArray, List.set_cons_zero, List.set_cons_succ]
        refine wpAnyH_take (i := 22) (oi := { dst := some 71, op := Op.move (Operand.tmp 70), type := 4, pos := "law.go:103", after := #[{ on := 21, ground := Ground.data }, { on := 14, ground := Ground.chain }], guard := none }) (v := ?_) rfl (by kernel_rfl) (by kernel_rfl) (by kernel_rfl) (fun _ _ _ h => h) (Or.inl ⟨by rfl, ?_⟩) (by assumption) ?_
        rotate_left
        · (intro w hSw; (try dsimp only at hSw); go_simp; try with_reducible rfl)
        try simp only [Act.put, List.setIfInBounds_toArray, List.set_cons_zero, List.set_cons_succ]
        refine wpAnyH_take (i := 23) (oi := { dst := some 72, op := Op.fieldAddr 32 (Operand.tmp 5) 0, type := 0, pos := "law.go:103", after := #[{ on := 22, ground := Ground.guard }], guard := some (22, true) }) (v := ?_) rfl (by kernel_rfl) (by kernel_rfl) (by kernel_rfl) (fun _ _ _ h => h) (Or.inl ⟨by rfl, ?_⟩) (by assumption) ?_
        rotate_left
        · (intro w hSw; (try dsimp only at hSw); go_simp; try with_reducible rfl)
        try simp only [Act.put, List.setIfInBounds_toArray, List.set_cons_zero, List.set_cons_succ]
        refine wpAnyH_take (i := 24) (oi := { dst := some 73, op := Op.load 22 (Operand.tmp 72), type := 22, pos := "law.go:103", after := #[{ on := 23, ground := Ground.data }, { on := 22, ground := Ground.guard }], guard := some (22, true) }) (v := ?_) rfl (by kernel_rfl) (by kernel_rfl) (by kernel_rfl) (fun _ _ _ h => h) (Or.inl ⟨by rfl, ?_⟩) (by assumption) ?_
        rotate_left
        · (intro w hSw; (try dsimp only at hSw); go_simp; try with_reducible rfl)
        try simp only [Act.put, List.setIfInBounds_toArray, List.set_cons_zero, List.set_cons_succ]
        refine wpAnyH_take (i := 25) (oi := { dst := some 74, op := Op.fieldAddr 32 (Operand.tmp 2) 0, type := 0, pos := "law.go:103", after := #[{ on := 22, ground := Ground.guard }], guard := some (22, true) }) (v := ?_) rfl (by kernel_rfl) (by kernel_rfl) (by kernel_rfl) (fun _ _ _ h => h) (Or.inl ⟨by rfl, ?_⟩) (by assumption) ?_
        rotate_left
        · (intro w hSw; (try dsimp only at hSw); go_simp; try with_reducible rfl)
        try simp only [Act.put, List.setIfInBounds_toArray, List.set_cons_zero, List.set_cons_succ]
        refine wpAnyH_take (i := 26) (oi := { dst := some 75, op := Op.load 22 (Operand.tmp 74), type := 22, pos := "law.go:103", after := #[{ on := 25, ground := Ground.data }, { on := 22, ground := Ground.guard }], guard := some (22, true) }) (v := ?_) rfl (by kernel_rfl) (by kernel_rfl) (by kernel_rfl) (fun _ _ _ h => h) (Or.inl ⟨by rfl, ?_⟩) (by assumption) ?_
        rotate_left
        · (intro w hSw; (try dsimp only at hSw); go_simp; try with_reducible rfl)
        try simp only [Act.put, List.setIfInBounds_toArray, List.set_cons_zero, List.set_cons_succ]
        refine wpAnyH_take (i := 27) (oi := { dst := some 76, op := Op.binOp BinOp.eql 22 (Operand.tmp 73) (Operand.tmp 75) 22, type := 4, pos := "law.go:103", after := #[{ on := 24, ground := Ground.data }, { on := 26, ground := Ground.data }, { on := 22, ground := Ground.guard }], guard := some (22, true) }) (v := ?_) rfl (by kernel_rfl) (by kernel_rfl) (by kernel_rfl) (fun _ _ _ h => h) (Or.inl ⟨by rfl, ?_⟩) (by assumption) ?_
        rotate_left
        · (intro w hSw; (try dsimp only at hSw); go_simp; try with_reducible rfl)
        try simp only [Act.put, List.setIfInBounds_toArray, List.set_cons_zero, List.set_cons_succ]
        refine wpAnyH_take (i := 28) (oi := { dst := some 77, op := Op.pick (Operand.tmp 71) (Operand.tmp 76) (Operand.const (Value.bool false)), type := 4, pos := "law.go:103", after := #[{ on := 22, ground := Ground.data }, { on := 27, ground := Ground.data }], guard := none }) (v := ?_) rfl (by kernel_rfl) (by kernel_rfl) (by kernel_rfl) (fun _ _ _ h => h) (Or.inl ⟨by rfl, ?_⟩) (by assumption) ?_
        rotate_left
        · (intro w hSw; (try dsimp only at hSw); go_simp; try with_reducible rfl)
        try simp only [Act.put, List.setIfInBounds_toArray, List.set_cons_zero, List.set_cons_succ]
        refine wpAnyH_take (i := 29) (oi := { dst := some 78, op := Op.move (Operand.tmp 77), type := 4, pos := "law.go:103", after := #[{ on := 28, ground := Ground.data }, { on := 22, ground := Ground.chain }], guard := none }) (v := ?_) rfl (by kernel_rfl) (by kernel_rfl) (by kernel_rfl) (fun _ _ _ h => h) (Or.inl ⟨by rfl, ?_⟩) (by assumption) ?_
        rotate_left
        · (intro w hSw; (try dsimp only at hSw); go_simp; try with_reducible rfl)
        try simp only [Act.put, List.setIfInBounds_toArray, List.set_cons_zero, List.set_cons_succ]
        refine wpAnyH_take (i := 30) (oi := { dst := some 79, op := Op.load 32 (Operand.tmp 6), type := 32, pos := "law.go:103", after := #[{ on := 29, ground := Ground.guard }], guard := some (29, true) }) (v := ?_) rfl (by kernel_rfl) (by kernel_rfl) (by kernel_rfl) (fun _ _ _ h => h) (Or.inl ⟨by rfl, ?_⟩) (by assumption) ?_
        rotate_left
        · (intro w hSw; (try dsimp only at hSw); go_simp; try with_reducible rfl)
        try simp only [Act.put, List.setIfInBounds_toArray, List.set_cons_zero, List.set_cons_succ]
        refine wpAnyH_take (i := 32) (oi := { dst := some 81, op := Op.load 32 (Operand.tmp 2), type := 32, pos := "law.go:103", after := #[{ on := 29, ground := Ground.guard }], guard := some (29, true) }) (v := ?_) rfl (by kernel_rfl) (by kernel_rfl) (by kernel_rfl) (fun _ _ _ h => h) (Or.inl ⟨by rfl, ?_⟩) (by assumption) ?_
        rotate_left
        · (intro w hSw; (try dsimp only at hSw); go_simp; try with_reducible rfl)
        try simp only [Act.put, List.setIfInBounds_toArray, List.set_cons_zero, List.set_cons_succ]
        refine wpAnyH_ready (rs := [31]) (by kernel_rfl) (by simp) ?_
        refine AllReadyH.cons (o := { dst := some 80, op := Op.call { callee := Callee.value (Operand.func 37), args := #[Operand.tmp 79], argTypes := #[32] }, type := 22, pos := "law.go:103", after := #[{ on := 30, ground := Ground.data }, { on := 29, ground := Ground.chain }, { on := 29, ground := Ground.guard }], guard := some (29, true) }) rfl (fun K hK => ?_) AllReadyH.nil
        go_simp
        (first | (go_at_call 23; (first | (with_reducible refine (H5.out _).mono ?_) | (with_reducible refine (H6.out _).mono ?_)); rintro e w' ⟨rfl, hb⟩) | (go_at_call 37; (first | (with_reducible refine (H7.out _).mono ?_) | (with_reducible refine (H2.out _).mono ?_) | (with_reducible refine (H8.out _).mono ?_)); rintro e w' ⟨rfl, hb⟩) | (go_at_call 26; (first | (with_reducible refine (H9.out _).mono ?_) | (with_reducible refine (G1.out _).mono ?_) | (with_reducible refine (G2.out _).mono ?_)); rintro e w' ⟨rfl, hb⟩) | (go_at_call 30; with_reducible refine (G3.out _).mono ?_; rintro e w' ⟨rfl, hb⟩) | (go_at_call 15; with_reducible refine (sane2_env HE.out (And.right (And.right (And.right (And.right (And.right (And.right (And.right (by assumption))))))))).mono ?_; rintro e w' ⟨rfl, hb⟩))
        refine hK.out _ _ (by (refine keep3 ?_ (by assumption); assumption)) (fun hHeld => ?_)
        clear hK K
        try simp only [Act.put, List.setIfInBounds_toArray, List.set_cons_zero, List.set_cons_succ]
        refine wpAnyH_ready (rs := [33]) (by kernel_rfl) (by simp) ?_
        refine AllReadyH.cons (o := { dst := some 82, op := Op.call { callee := Callee.value (Operand.func 37), args := #[Operand.tmp 81], argTypes := #[32] }, type := 22, pos := "law.go:103", after := #[{ on := 32, ground := Ground.data }, { on := 31, ground := Ground.chain }, { on := 29, ground := Ground.guard }], guard := some (29, true) }) rfl (fun K hK => ?_) AllReadyH.nil
        go_simp
        (first | (go_at_call 23; (first | (with_reducible refine (H5.out _).mono ?_) | (with_reducible refine (H6.out _).mono ?_)); rintro e w' ⟨rfl, hb⟩) | (go_at_call 37; (first | (with_reducible refine (H7.out _).mono ?_) | (with_reducible refine (H2.out _).mono ?_) | (with_reducible refine (H8.out _).mono ?_)); rintro e w' ⟨rfl, hb⟩) | (go_at_call 26; (first | (with_reducible refine (H9.out _).mono ?_) | (with_reducible refine (G1.out _).mono ?_) | (with_reducible refine (G2.out _).mono ?_)); rintro e w' ⟨rfl, hb⟩) | (go_at_call 30; with_reducible refine (G3.out _).mono ?_; rintro e w' ⟨rfl, hb⟩) | (go_at_call 15; with_reducible refine (sane2_env HE.out (And.right (And.right (And.right (And.right (And.right (And.right (And.right (by assumption))))))))).mono ?_; rintro e w' ⟨rfl, hb⟩))
        refine hK.out _ _ (by (refine keep3 ?_ (by assumption); assumption)) (fun hHeld => ?_)
        clear hK K
        try simp only [Act.put, List.setIfInBounds_toArray, List.set_cons_zero, List.set_cons_succ]
        refine wpAnyH_take (i := 34) (oi := { dst := some 83, op := Op.binOp BinOp.eql 22 (Operand.tmp 80) (Operand.tmp 82) 22, type := 4, pos := "law.go:103", after := #[{ on := 31, ground := Ground.data }, { on := 33, ground := Ground.data }, { on := 29, ground := Ground.guard }], guard := some (29, true) }) (v := ?_) rfl (by kernel_rfl) (by kernel_rfl) (by kernel_rfl) (fun _ _ _ h => h) (Or.inl ⟨by rfl, ?_⟩) (by assumption) ?_
        rotate_left
        · (intro w hSw; (try dsimp only at hSw); go_simp; try with_reducible rfl)
        try simp only [Act.put, List.setIfInBounds_toArray, List.set_cons_zero, List.set_cons_succ]
        refine wpAnyH_take (i := 35) (oi := { dst := some 84, op := Op.pick (Operand.tmp 78) (Operand.tmp 83) (Operand.const (Value.bool false)), type := 4, pos := "law.go:103", after := #[{ on := 29, ground := Ground.data }, { on := 34, ground := Ground.data }], guard := none }) (v := ?_) rfl (by kernel_rfl) (by kernel_rfl) (by kernel_rfl) (fun _ _ _ h => h) (Or.inl ⟨by rfl, ?_⟩) (by assumption) ?_
        rotate_left
        · (intro w hSw; (try dsimp only at hSw); go_simp; try with_reducible rfl)
        try simp only [Act.put, List.setIfInBounds_toArray, List.set_cons_zero, List.set_cons_succ]
        refine wpAnyH_take (i := 36) (oi := { dst := some 85, op := Op.move (Operand.tmp 84), type := 4, pos := "law.go:103", after := #[{ on := 35, ground := Ground.data }, { on := 33, ground := Ground.chain }], guard := none }) (v := ?_) rfl (by kernel_rfl) (by kernel_rfl) (by kernel_rfl) (fun _ _ _ h => h) (Or.inl ⟨by rfl, ?_⟩) (by assumption) ?_
        rotate_left
        · (intro w hSw; (try dsimp only at hSw); go_simp; try with_reducible rfl)
        try simp only [Act.put, List.setIfInBounds_toArray, List.set_cons_zero, List.set_cons_succ]
        refine wpAnyH_take (i := 37) (oi := { dst := some 86, op := Op.fieldAddr 32 (Operand.tmp 6) 0, type := 0, pos := "law.go:103", after := #[{ on := 36, ground := Ground.guard }], guard := some (36, true) }) (v := ?_) rfl (by kernel_rfl) (by kernel_rfl) (by kernel_rfl) (fun _ _ _ h => h) (Or.inl ⟨by rfl, ?_⟩) (by assumption) ?_
        rotate_left
        · (intro w hSw; (try dsimp only at hSw); go_simp; try with_reducible rfl)
        try simp only [Act.put, List.setIfInBounds_toArray, List.set_cons_zero, List.set_cons_succ]
        refine wpAnyH_take (i := 38) (oi := { dst := some 87, op := Op.load 22 (Operand.tmp 86), type := 22, pos := "law.go:103", after := #[{ on := 37, ground := Ground.data }, { on := 36, ground := Ground.guard }], guard := some (36, true) }) (v := ?_) rfl (by kernel_rfl) (by kernel_rfl) (by kernel_rfl) (fun _ _ _ h => h) (Or.inl ⟨by rfl, ?_⟩) (by assumption) ?_
        rotate_left
        · (intro w hSw; (try dsimp only at hSw); go_simp; try with_reducible rfl)
        try simp only [Act.put, List.setIfInBounds_toArray, List.set_cons_zero, List.set_cons_succ]
        refine wpAnyH_take (i := 39) (oi := { dst := some 88, op := Op.load 32 (Operand.tmp 5), type := 32, pos := "law.go:103", after := #[{ on := 36, ground := Ground.guard }], guard := some (36, true) }) (v := ?_) rfl (by kernel_rfl) (by kernel_rfl) (by kernel_rfl) (fun _ _ _ h => h) (Or.inl ⟨by rfl, ?_⟩) (by assumption) ?_
        rotate_left
        · (intro w hSw; (try dsimp only at hSw); go_simp; try with_reducible rfl)
        try simp only [Act.put, List.setIfInBounds_toArray, List.set_cons_zero, List.set_cons_succ]
        refine wpAnyH_ready (rs := [40]) (by kernel_rfl) (by simp) ?_
        refine AllReadyH.cons (o := { dst := some 89, op := Op.call { callee := Callee.value (Operand.func 37), args := #[Operand.tmp 88], argTypes := #[32] }, type := 22, pos := "law.go:103", after := #[{ on := 39, ground := Ground.data }, { on := 36, ground := Ground.chain }, { on := 36, ground := Ground.guard }], guard := some (36, true) }) rfl (fun K hK => ?_) AllReadyH.nil
        go_simp
        (first | (go_at_call 23; (first | (with_reducible refine (H5.out _).mono ?_) | (with_reducible refine (H6.out _).mono ?_)); rintro e w' ⟨rfl, hb⟩) | (go_at_call 37; (first | (with_reducible refine (H7.out _).mono ?_) | (with_reducible refine (H2.out _).mono ?_) | (with_reducible refine (H8.out _).mono ?_)); rintro e w' ⟨rfl, hb⟩) | (go_at_call 26; (first | (with_reducible refine (H9.out _).mono ?_) | (with_reducible refine (G1.out _).mono ?_) | (with_reducible refine (G2.out _).mono ?_)); rintro e w' ⟨rfl, hb⟩) | (go_at_call 30; with_reducible refine (G3.out _).mono ?_; rintro e w' ⟨rfl, hb⟩) | (go_at_call 15; with_reducible refine (sane2_env HE.out (And.right (And.right (And.right (And.right (And.right (And.right (And.right (by assumption))))))))).mono ?_; rintro e w' ⟨rfl, hb⟩))
        refine hK.out _ _ (by (refine keep3 ?_ (by assumption); assumption)) (fun hHeld => ?_)
        clear hK K
        try simp only [Act.put, List.setIfInBounds_toArray, List.set_cons_zero, List.set_cons_succ]
        refine wpAnyH_take (i := 41) (oi := { dst := some 90, op := Op.binOp BinOp.add 22 (Operand.tmp 89) (Operand.const (Value.int IntKind.u32 1)) 22, type := 22, pos := "law.go:103", after := #[{ on := 40, ground := Ground.data }, { on := 36, ground := Ground.guard }], guard := some (36, true) }) (v := ?_) rfl (by kernel_rfl) (by kernel_rfl) (by kernel_rfl) (fun _ _ _ h => h) (Or.inl ⟨by rfl, ?_⟩) (by assumption) ?_
        rotate_left
        · (intro w hSw; (try dsimp only at hSw); go_simp; try with_reducible rfl)
        try simp only [Act.put, List.setIfInBounds_toArray, List.set_cons_zero, List.set_cons_succ]
        refine wpAnyH_take (i := 42) (oi := { dst := some 91, op := Op.binOp BinOp.eql 22 (Operand.tmp 87) (Operand.tmp 90) 22, type := 4, pos := "law.go:103", after := #[{ on := 38, ground := Ground.data }, { on := 41, ground := Ground.data }, { on := 36, ground := Ground.guard }], guard := some (36, true) }) (v := ?_) rfl (by kernel_rfl) (by kernel_rfl) (by kernel_rfl) (fun _ _ _ h => h) (Or.inl ⟨by rfl, ?_⟩) (by assumption) ?_
        rotate_left
        · (intro w hSw; (try dsimp only at hSw); go_simp; try with_reducible rfl)
        try simp only [Act.put, List.setIfInBounds_toArray, List.set_cons_zero, List.set_cons_succ]
        refine wpAnyH_take (i := 43) (oi := { dst := some 92, op := Op.pick (Operand.tmp 85) (Operand.tmp 91) (Operand.const (Value.bool false)), type := 4, pos := "law.go:103", after := #[{ on := 36, ground := Ground.data }, { on := 42, ground := Ground.data }], guard := none }) (v := ?_) rfl (by kernel_rfl) (by kernel_rfl) (by kernel_rfl) (fun _ _ _ h => h) (Or.inl ⟨by rfl, ?_⟩) (by assumption) ?_
        rotate_left
        · (intro w hSw; (try dsimp only at hSw); go_simp; try with_reducible rfl)
        try simp only [Act.put, List.setIfInBounds_toArray, List.set_cons_zero, List.set_cons_succ]
        refine wpAnyH_take (i := 44) (oi := { dst := some 93, op := Op.move (Operand.tmp 92), type := 4, pos := "law.go:103", after := #[{ on := 43, ground := Ground.data }, { on := 40, ground := Ground.chain }], guard := none }) (v := ?_) rfl (by kernel_rfl) (by kernel_rfl) (by kernel_rfl) (fun _ _ _ h => h) (Or.inl ⟨by rfl, ?_⟩) (by assumption) ?_
        rotate_left
        · (intro w hSw; (try dsimp only at hSw); go_simp; try with_reducible rfl)
        try simp only [Act.put, List.setIfInBounds_toArray, List.set_cons_zero, List.set_cons_succ]
        refine wpAnyH_take (i := 45) (oi := { dst := some 94, op := Op.load 32 (Operand.tmp 2), type := 32, pos := "law.go:103", after := #[{ on := 44, ground := Ground.guard }], guard := some (44, true) }) (v := ?_) rfl (by kernel_rfl) (by kernel_rfl) (by kernel_rfl) (fun _ _ _ h => h) (Or.inl ⟨by rfl, ?_⟩) (by assumption) ?_
        rotate_left
        · (intro w hSw; (try dsimp only at hSw); go_simp; try with_reducible rfl)
        try simp only [Act.put, List.setIfInBounds_toArray, List.set_cons_zero, List.set_cons_succ]
        refine wpAnyH_take (i := 46) (oi := { dst := some 95, op := Op.move (Operand.tmp 1), type := 22, pos := "law.go:103", after := #[{ on := 44, ground := Ground.guard }], guard := some (44, true) }) (v := ?_) rfl (by kernel_rfl) (by kernel_rfl) (by kernel_rfl) (fun _ _ _ h => h) (Or.inl ⟨by rfl, ?_⟩) (by assumption) ?_
        rotate_left
        · (intro w hSw; (try dsimp only at hSw); go_simp; try with_reducible rfl)
        try simp only [Act.put, List.setIfInBounds_toArray, List.set_cons_zero, List.set_cons_succ]
        refine wpAnyH_take (i := 48) (oi := { dst := some 97, op := Op.load 32 (Operand.tmp 5), type := 32, pos := "law.go:103", after := #[{ on := 44, ground := Ground.guard }], guard := some (44, true) }) (v := ?_) rfl (by kernel_rfl) (by kernel_rfl) (by kernel_rfl) (fun _ _ _ h => h) (Or.inl ⟨by rfl, ?_⟩) (by assumption) ?_
        rotate_left
        · (intro w hSw; (try dsimp only at hSw); go_simp; try with_reducible rfl)
        try simp only [Act.put, List.setIfInBounds_toArray, List.set_cons_zero, List.set_cons_succ]
        refine wpAnyH_take (i := 49) (oi := { dst := some 98, op := Op.move (Operand.tmp 1), type := 22, pos := "law.go:103", after := #[{ on := 44, ground := Ground.guard }], guard := some (44, true) }) (v := ?_) rfl (by kernel_rfl) (by kernel_rfl) (by kernel_rfl) (fun _ _ _ h => h) (Or.inl ⟨by rfl, ?_⟩) (by assumption) ?_
        rotate_left
        · (intro w hSw; (try dsimp only at hSw); go_simp; try with_reducible rfl)
        try simp only [Act.put, List.setIfInBounds_toArray, List.set_cons_zero, List.set_cons_succ]
        refine wpAnyH_ready (rs := [47]) (by kernel_rfl) (by simp) ?_
        refine AllReadyH.cons (o := { dst := some 96, op := Op.call { callee := Callee.value (Operand.func 26), args := #[Operand.tmp 94, Operand.tmp 95], argTypes := #[32, 22] }, type := 4, pos := "law.go:103", after := #[{ on := 45, ground := Ground.data }, { on := 46, ground := Ground.data }, { on := 44, ground := Ground.chain }, { on := 44, ground := Ground.guard }], guard := some (44, true) }) rfl (fun K hK => ?_) AllReadyH.nil
        go_simp
        (first | (go_at_call 23; (first | (with_reducible refine (H5.out _).mono ?_) | (with_reducible refine (H6.out _).mono ?_)); rintro e w' ⟨rfl, hb⟩) | (go_at_call 37; (first | (with_reducible refine (H7.out _).mono ?_) | (with_reducible refine (H2.out _).mono ?_) | (with_reducible refine (H8.out _).mono ?_)); rintro e w' ⟨rfl, hb⟩) | (go_at_call 26; (first | (with_reducible refine (H9.out _).mono ?_) | (with_reducible refine (G1.out _).mono ?_) | (with_reducible refine (G2.out _).mono ?_)); rintro e w' ⟨rfl, hb⟩) | (go_at_call 30; with_reducible refine (G3.out _).mono ?_; rintro e w' ⟨rfl, hb⟩) | (go_at_call 15; with_reducible refine (sane2_env HE.out (And.right (And.right (And.right (And.right (And.right (And.right (And.right (by assumption))))))))).mono ?_; rintro e w' ⟨rfl, hb⟩))
        refine hK.out _ _ (by (refine keep3 ?_ (by assumption); assumption)) (fun hHeld => ?_)
        clear hK K
        try simp only [Act.put, List.setIfInBounds_toArray, List.set_cons_zero, List.set_cons_succ]
        refine wpAnyH_ready (rs := [50]) (by kernel_rfl) (by simp) ?_
        refine AllReadyH.cons (o := { dst := some 99, op := Op.call { callee := Callee.value (Operand.func 26), args := #[Operand.tmp 97, Operand.tmp 98], argTypes := #[32, 22] }, type := 4, pos := "law.go:103", after := #[{ on := 48, ground := Ground.data }, { on := 49, ground := Ground.data }, { on := 47, ground := Ground.chain }, { on := 44, ground := Ground.guard }], guard := some (44, true) }) rfl (fun K hK => ?_) AllReadyH.nil
        go_simp
        (first | (go_at_call 23; (first | (with_reducible refine (H5.out _).mono ?_) | (with_reducible refine (H6.out _).mono ?_)); rintro e w' ⟨rfl, hb⟩) | (go_at_call 37; (first | (with_reducible refine (H7.out _).mono ?_) | (with_reducible refine (H2.out _).mono ?_) | (with_reducible refine (H8.out _).mono ?_)); rintro e w' ⟨rfl, hb⟩) | (go_at_call 26; (first | (with_reducible refine (H9.out _).mono ?_) | (with_reducible refine (G1.out _).mono ?_) | (with_reducible refine (G2.out _).mono ?_)); rintro e w' ⟨rfl, hb⟩) | (go_at_call 30; with_reducible refine (G3.out _).mono ?_; rintro e w' ⟨rfl, hb⟩) | (go_at_call 15; with_reducible refine (sane2_env HE.out (And.right (And.right (And.right (And.right (And.right (And.right (And.right (by assumption))))))))).mono ?_; rintro e w' ⟨rfl, hb⟩))
        refine hK.out _ _ (by (refine keep3 ?_ (by assumption); assumption)) (fun hHeld => ?_)
        clear hK K
        try simp only [Act.put, List.setIfInBounds_toArray, List.set_cons_zero, List.set_cons_succ]
        refine wpAnyH_take (i := 51) (oi := { dst := some 100, op := Op.move (Operand.tmp 99), type := 4, pos := "law.go:103", after := #[{ on := 50, ground := Ground.data }, { on := 50, ground := Ground.chain }, { on := 44, ground := Ground.guard }], guard := some (44, true) }) (v := ?_) rfl (by kernel_rfl) (by kernel_rfl) (by kernel_rfl) (fun _ _ _ h => h) (Or.inl ⟨by rfl, ?_⟩) (by assumption) ?_
        rotate_left
        · (intro w hSw; (try dsimp only at hSw); go_simp; try with_reducible rfl)
        try simp only [Act.put, List.setIfInBounds_toArray, List.set_cons_zero, List.set_cons_succ]
        refine wpAnyH_take (i := 52) (oi := { dst := some 101, op := Op.load 32 (Operand.tmp 6), type := 32, pos := "law.go:103", after := #[{ on := 51, ground := Ground.guard }], guard := some (51, false) }) (v := undef) rfl (by kernel_rfl) (by kernel_rfl) (by kernel_rfl) (fun _ _ _ h => h) (Or.inr ⟨by rfl, rfl⟩) (by assumption) ?_
        try simp only [Act.put, List.setIfInBounds_toArray, List.set_cons_zero, List.set_cons_succ]
        refine wpAnyH_take (i := 53) (oi := { dst := some 102, op := Op.move (Operand.tmp 1), type := 22, pos := "law.go:103", after := #[{ on := 51, ground := Ground.guard }], guard := some (51, false) }) (v := undef) rfl (by kernel_rfl) (by kernel_rfl) (by kernel_rfl) (fun _ _ _ h => h) (Or.inr ⟨by rfl, rfl⟩) (by assumption) ?_
        try simp only [Act.put, List.setIfInBounds_toArray, List.set_cons_zero, List.set_cons_succ]
        refine wpAnyH_take (i := 54) (oi := { dst := some 103, op := Op.call { callee := Callee.value (Operand.func 26), args := #[Operand.tmp 101, Operand.tmp 102], argTypes := #[32, 22] }, type := 4, pos := "law.go:103", after := #[{ on := 52, ground := Ground.data }, { on := 53, ground := Ground.data }, { on := 51, ground := Ground.chain }, { on := 51, ground := Ground.guard }], guard := some (51, false) }) (v := undef) rfl (by kernel_rfl) (by kernel_rfl) (by kernel_rfl) (fun _ _ _ h => h) (Or.inr ⟨by rfl, rfl⟩) (by assumption) ?_
        try simp only [Act.put, List.setIfInBounds_toArray, List.set_cons_zero, List.set_cons_succ]
        refine wpAnyH_take (i := 55) (oi := { dst := some 104, op := Op.pick (Operand.tmp 100) (Operand.const (Value.bool true)) (Operand.tmp 103), type := 4, pos := "law.go:103", after := #[{ on := 51, ground := Ground.data }, { on := 54, ground := Ground.data }, { on := 44, ground := Ground.guard }], guard := some (44, true) }) (v := ?_) rfl (by kernel_rfl) (by kernel_rfl) (by kernel_rfl) (fun _ _ _ h => h) (Or.inl ⟨by rfl, ?_⟩) (by assumption) ?_
        rotate_left
        · (intro w hSw; (try dsimp only at hSw); go_simp; try with_reducible rfl)
        try simp only [Act.put, List.setIfInBounds_toArray, List.set_cons_zero, List.set_cons_succ]
        refine wpAnyH_take (i := 56) (oi := { dst := some 105, op := Op.binOp BinOp.eql 4 (Operand.tmp 96) (Operand.tmp 104) 4, type := 4, pos := "law.go:103", after := #[{ on := 47, ground := Ground.data }, { on := 55, ground := Ground.data }, { on := 44, ground := Ground.guard }], guard := some (44, true) }) (v := ?_) rfl (by kernel_rfl) (by kernel_rfl) (by kernel_rfl) (fun _ _ _ h => h) (Or.inl ⟨by rfl, ?_⟩) (by assumption) ?_
        rotate_left
        · (intro w hSw; (try dsimp only at hSw); go_simp; try with_reducible rfl)
        try simp only [Act.put, List.setIfInBounds_toArray, List.set_cons_zero, List.set_cons_succ]
        refine wpAnyH_take (i := 57) (oi := { dst := some 106, op := Op.pick (Operand.tmp 93) (Operand.tmp 105) (Operand.const (Value.bool false)), type := 4, pos := "law.go:103", after := #[{ on := 44, ground := Ground.data }, { on := 56, ground := Ground.data }], guard := none }) (v := ?_) rfl (by kernel_rfl) (by kernel_rfl) (by kernel_rfl) (fun _ _ _ h => h) (Or.inl ⟨by rfl, ?_⟩) (by assumption) ?_
        rotate_left
        · (intro w hSw; (try dsimp only at hSw); go_simp; try with_reducible rfl)
        try simp only [Act.put, List.setIfInBounds_toArray, List.set_cons_zero, List.set_cons_succ]
        refine wpAnyH_take (i := 58) (oi := { dst := some 107, op := Op.move (Operand.tmp 106), type := 4, pos := "law.go:103", after := #[{ on := 57, ground := Ground.data }, { on := 54, ground := Ground.chain }], guard := none }) (v := ?_) rfl (by kernel_rfl) (by kernel_rfl) (by kernel_rfl) (fun _ _ _ h => h) (Or.inl ⟨by rfl, ?_⟩) (by assumption) ?_
        rotate_left
        · (intro w hSw; (try dsimp only at hSw); go_simp; try with_reducible rfl)
        try simp only [Act.put, List.setIfInBounds_toArray, List.set_cons_zero, List.set_cons_succ]
        refine wpAnyH_take (i := 59) (oi := { dst := some 108, op := Op.load 32 (Operand.tmp 5), type := 32, pos := "law.go:103", after := #[{ on := 58, ground := Ground.guard }], guard := some (58, true) }) (v := ?_) rfl (by kernel_rfl) (by kernel_rfl) (by kernel_rfl) (fun _ _ _ h => h) (Or.inl ⟨by rfl, ?_⟩) (by assumption) ?_
        rotate_left
        · (intro w hSw; (try dsimp only at hSw); go_simp; try with_reducible rfl)
        try simp only [Act.put, List.setIfInBounds_toArray, List.set_cons_zero, List.set_cons_succ]
        refine wpAnyH_take (i := 60) (oi := { dst := some 109, op := Op.load 32 (Operand.tmp 6), type := 32, pos := "law.go:103", after := #[{ on := 58, ground := Ground.guard }], guard := some (58, true) }) (v := ?_) rfl (by kernel_rfl) (by kernel_rfl) (by kernel_rfl) (fun _ _ _ h => h) (Or.inl ⟨by rfl, ?_⟩) (by assumption) ?_
        rotate_left
        · (intro w hSw; (try dsimp only at hSw); go_simp; try with_reducible rfl)
        try simp only [Act.put, List.setIfInBounds_toArray, List.set_cons_zero, List.set_cons_succ]
        refine wpAnyH_ready (rs := [61]) (by kernel_rfl) (by simp) ?_
        refine AllReadyH.cons (o := { dst := some 110, op := Op.call { callee := Callee.value (Operand.func 30), args := #[Operand.tmp 108, Operand.tmp 109], argTypes := #[32, 32] }, type := 4, pos := "law.go:103", after := #[{ on := 59, ground := Ground.data }, { on := 60, ground := Ground.data }, { on := 58, ground := Ground.chain }, { on := 58, ground := Ground.guard }], guard := some (58, true) }) rfl (fun K hK => ?_) AllReadyH.nil
        go_simp
        (first | (go_at_call 23; (first | (with_reducible refine (H5.out _).mono ?_) | (with_reducible refine (H6.out _).mono ?_)); rintro e w' ⟨rfl, hb⟩) | (go_at_call 37; (first | (with_reducible refine (H7.out _).mono ?_) | (with_reducible refine (H2.out _).mono ?_) | (with_reducible refine (H8.out _).mono ?_)); rintro e w' ⟨rfl, hb⟩) | (go_at_call 26; (first | (with_reducible refine (H9.out _).mono ?_) | (with_reducible refine (G1.out _).mono ?_) | (with_reducible refine (G2.out _).mono ?_)); rintro e w' ⟨rfl, hb⟩) | (go_at_call 30; with_reducible refine (G3.out _).mono ?_; rintro e w' ⟨rfl, hb⟩) | (go_at_call 15; with_reducible refine (sane2_env HE.out (And.right (And.right (And.right (And.right (And.right (And.right (And.right (by assumption))))))))).mono ?_; rintro e w' ⟨rfl, hb⟩))
        refine hK.out _ _ (by (refine keep3 ?_ (by assumption); assumption)) (fun hHeld => ?_)
        clear hK K
        try simp only [Act.put, List.setIfInBounds_toArray, List.set_cons_zero, List.set_cons_succ]
        refine wpAnyH_take (i := 62) (oi := { dst := some 111, op := Op.unOp UnOp.not 4 (Operand.tmp 110), type := 4, pos := "law.go:103", after := #[{ on := 61, ground := Ground.data }, { on := 58, ground := Ground.guard }], guard := some (58, true) }) (v := ?_) rfl (by kernel_rfl) (by kernel_rfl) (by kernel_rfl) (fun _ _ _ h => h) (Or.inl ⟨by rfl, ?_⟩) (by assumption) ?_
        rotate_left
        · (intro w hSw; (try dsimp only at hSw); go_simp; try with_reducible rfl)
        try simp only [Act.put, List.setIfInBounds_toArray, List.set_cons_zero, List.set_cons_succ]
        refine wpAnyH_take (i := 63) (oi := { dst := some 112, op := Op.pick (Operand.tmp 107) (Operand.tmp 111) (Operand.const (Value.bool false)), type := 4, pos := "law.go:103", after := #[{ on := 58, ground := Ground.data }, { on := 62, ground := Ground.data }], guard := none }) (v := ?_) rfl (by kernel_rfl) (by kernel_rfl) (by kernel_rfl) (fun _ _ _ h => h) (Or.inl ⟨by rfl, ?_⟩) (by assumption) ?_
        rotate_left
        · (intro w hSw; (try dsimp only at hSw); go_simp; try with_reducible rfl)
        try simp only [Act.put, List.setIfInBounds_toArray, List.set_cons_zero, List.set_cons_succ]
        refine wpAnyH_take (i := 64) (oi := { dst := some 113, op := Op.move (Operand.tmp 112), type := 4, pos := "law.go:103", after := #[{ on := 63, ground := Ground.data }, { on := 61, ground := Ground.chain }], guard := none }) (v := ?_) rfl (by kernel_rfl) (by kernel_rfl) (by kernel_rfl) (fun _ _ _ h => h) (Or.inl ⟨by rfl, ?_⟩) (by assumption) ?_
        rotate_left
        · (intro w hSw; (try dsimp only at hSw); go_simp; try with_reducible rfl)
        try simp only [Act.put, List.setIfInBounds_toArray, List.set_cons_zero, List.set_cons_succ]
        refine wpAnyH_ready (rs := [65]) (by kernel_rfl) (by simp) ?_
        refine AllReadyH.cons (o := { dst := some 114, op := Op.call { callee := Callee.value (Operand.func 15), args := #[], argTypes := #[] }, type := 4, pos := "law.go:103", after := #[{ on := 64, ground := Ground.chain }, { on := 64, ground := Ground.guard }], guard := some (64, true) }) rfl (fun K hK => ?_) AllReadyH.nil
        go_simp
        (first | (go_at_call 23; (first | (with_reducible refine (H5.out _).mono ?_) | (with_reducible refine (H6.out _).mono ?_)); rintro e w' ⟨rfl, hb⟩) | (go_at_call 37; (first | (with_reducible refine (H7.out _).mono ?_) | (with_reducible refine (H2.out _).mono ?_) | (with_reducible refine (H8.out _).mono ?_)); rintro e w' ⟨rfl, hb⟩) | (go_at_call 26; (first | (with_reducible refine (H9.out _).mono ?_) | (with_reducible refine (G1.out _).mono ?_) | (with_reducible refine (G2.out _).mono ?_)); rintro e w' ⟨rfl, hb⟩) | (go_at_call 30; with_reducible refine (G3.out _).mono ?_; rintro e w' ⟨rfl, hb⟩) | (go_at_call 15; with_reducible refine (sane2_env HE.out (And.right (And.right (And.right (And.right (And.right (And.right (And.right (by assumption))))))))).mono ?_; rintro e w' ⟨rfl, hb⟩))
        refine hK.out _ _ (by (refine keep3 ?_ (by assumption); assumption)) (fun hHeld => ?_)
        clear hK K
        try simp only [Act.put, List.setIfInBounds_toArray, List.set_cons_zero, List.set_cons_succ]
        refine wpAnyH_take (i := 66) (oi := { dst := some 115, op := Op.pick (Operand.tmp 113) (Operand.tmp 114) (Operand.const (Value.bool false)), type := 4, pos := "law.go:103", after := #[{ on := 64, ground := Ground.data }, { on := 65, ground := Ground.data }], guard := none }) (v := ?_) rfl (by kernel_rfl) (by kernel_rfl) (by kernel_rfl) (fun _ _ _ h => h) (Or.inl ⟨by rfl, ?_⟩) (by assumption) ?_
        rotate_left
        · (intro w hSw; (try dsimp only at hSw); go_simp; try with_reducible rfl)
        try simp only [Act.put, List.setIfInBounds_toArray, List.set_cons_zero, List.set_cons_succ]
        refine wpAnyH_take (i := 67) (oi := { dst := some 4, op := Op.assign (Operand.tmp 115), type := 4, pos := "law.go:103", after := #[{ on := 66, ground := Ground.data }, { on := 65, ground := Ground.chain }, { on := 0, ground := Ground.phase }, { on := 1, ground := Ground.phase }, { on := 2, ground := Ground.phase }, { on := 3, ground := Ground.phase }, { on := 4, ground := Ground.phase }, { on := 5, ground := Ground.phase }, { on := 6, ground := Ground.phase }, { on := 7, ground := Ground.phase }, { on := 8, ground := Ground.phase }, { on := 9, ground := Ground.phase }, { on := 10, ground := Ground.phase }, { on := 11, ground := Ground.phase }, { on := 12, ground := Ground.phase }, { on := 13, ground := Ground.phase }, { on := 14, ground := Ground.phase }, { on := 15, ground := Ground.phase }, { on := 16, ground := Ground.phase }, { on := 17, ground := Ground.phase }, { on := 18, ground := Ground.phase }, { on := 19, ground := Ground.phase }, { on := 20, ground := Ground.phase }, { on := 21, ground := Ground.phase }, { on := 22, ground := Ground.phase }, { on := 23, ground := Ground.phase }, { on := 24, ground := Ground.phase }, { on := 25, ground := Ground.phase }, { on := 26, ground := Ground.phase }, { on := 27, ground := Ground.phase }, { on := 28, ground := Ground.phase }, { on := 29, ground := Ground.phase }, { on := 30, ground := Ground.phase }, { on := 31, ground := Ground.phase }, { on := 32, ground := Ground.phase }, { on := 33, ground := Ground.phase }, { on := 34, ground := Ground.phase }, { on := 35, ground := Ground.phase }, { on := 36, ground := Ground.phase }, { on := 37, ground := Ground.phase }, { on := 38, ground := Ground.phase }, { on := 39, ground := Ground.phase }, { on := 40, ground := Ground.phase }, { on := 41, ground := Ground.phase }, { on := 42, ground := Ground.phase }, { on := 43, ground := Ground.phase }, { on := 44, ground := Ground.phase }, { on := 45, ground := Ground.phase }, { on := 46, ground := Ground.phase }, { on := 47, ground := Ground.phase }, { on := 48, ground := Ground.phase }, { on := 49, ground := Ground.phase }, { on := 50, ground := Ground.phase }, { on := 51, ground := Ground.phase }, { on := 52, ground := Ground.phase }, { on := 53, ground := Ground.phase }, { on := 54, ground := Ground.phase }, { on := 55, ground := Ground.phase }, { on := 56, ground := Ground.phase }, { on := 57, ground := Ground.phase }, { on := 58, ground := Ground.phase }, { on := 59, ground := Ground.phase }, { on := 60, ground := Ground.phase }, { on := 61, ground := Ground.phase }, { on := 62, ground := Ground.phase }, { on := 63, ground := Ground.phase }, { on := 64, ground := Ground.phase }, { on := 65, ground := Ground.phase }, { on := 66, ground := Ground.phase }], guard := none }) (v := ?_) rfl (by kernel_rfl) (by kernel_rfl) (by kernel_rfl) (fun _ _ _ h => h) (Or.inl ⟨by rfl, ?_⟩) (by assumption) ?_
        rotate_left
        · (intro w hSw; (try dsimp only at hSw); go_simp; try with_reducible rfl)
        try simp only [Act.put, List.setIfInBounds_toArray, List.set_cons_zero, List.set_cons_succ]
        refine wpAnyH_done (by kernel_rfl) ?_ _
        have S3 := hHeld
        go_wp2_with fail
        go_ret
        exact ⟨rfl, S3.2.2.2.2.2.2.2⟩
    · obtain rfl : n = 32 := by omega
      have H4 := Lib.hid (fun w => halves_no p 32 w (by omega))
      rw [last32] at H2 H3
      have hr : ∀ w, (binOp .eql 32 (.agg #[.int .u32 0, .int .i64 0]) (.agg #[.int .u32 0, .int .i64 0])).run Tryd.prog w = .ok (.bool true) w := fun w => (pfx_eql 0 0 0 0 w).trans (by simp)
      have hg := Tryd.pfxGuard
      unfold PV at H4
      go_enter Tryd.func10, Tryd.ntmps10
      go_wp2_with fail
      refine (H1.out _).mono ?_
      rintro e w1 ⟨rfl, hb1⟩
      replace S0 := keep1 S0 hb1
      clear hb1
      go_wp2_with fail
      refine (H4.out _).mono ?_
      rintro e w2 ⟨rfl, hb2⟩
      replace S0 := keep1 S0 hb2
      clear hb2
      have S1 := box3_val S0 (.int .u32 0) (.int .i64 0) (.int .u32 0) (.int .i64 0) 32
      clear S0
      go_wp2_with fail
      go_region_held3 (fun w' => w'.cell? ⟨w.heap.size, 0, none⟩ = some (.int .u32 (p : Int)) ∧ w'.cell? ⟨w.heap.size, 1, none⟩ = some (.int .i64 32) ∧ w'.cell? ⟨w2.heap.size, 0, none⟩ = some (.int .u32 0) ∧ w'.cell? ⟨w2.heap.size, 1, none⟩ = some (.int .i64 0) ∧ w'.cell? ⟨w2.heap.size + 1, 0, none⟩ = some (.int .u32 0) ∧ w'.cell? ⟨w2.heap.size + 1, 1, none⟩ = some (.int .i64 0) ∧ w.heap.size ≤ w'.heap.size ∧ Below w.heap.size w w') (first | exact keep3 S1 (below_drew _) | (refine keep3 ?_ (by assumption); assumption)) (first | (go_at_call 37; with_reducible refine (H2.out _).mono ?_; rintro e w' ⟨rfl, hb⟩) | (go_at_call 38; with_reducible refine (H3.out _).mono ?_; rintro e w' ⟨rfl, hb⟩))
      rename_i S2
      clear S1
      go_wp2_with fail
      go_region_held3 (fun w' => w'.cell? ⟨w.heap.size, 0, none⟩ = some (.int .u32 (p : Int)) ∧ w'.cell? ⟨w.heap.size, 1, none⟩ = some (.int .i64 32) ∧ w'.cell? ⟨w2.heap.size, 0, none⟩ = some (.int .u32 0) ∧ w'.cell? ⟨w2.heap.size, 1, none⟩ = some (.int .i64 0) ∧ w'.cell? ⟨w2.heap.size + 1, 0, none⟩ = some (.int .u32 0) ∧ w'.cell? ⟨w2.heap.size + 1, 1, none⟩ = some (.int .i64 0) ∧ w.heap.size ≤ w'.heap.size ∧ Below w.heap.size w w') (first | assumption | exact keep3 S2 (below_drew _) | (refine keep3 ?_ (by assumption); assumption)) (first | (go_at_call 37; with_reducible refine (H2.out _).mono ?_; rintro e w' ⟨rfl, hb⟩) | (go_at_call 15; with_reducible refine (sane2_env HE.out (And.right (And.right (And.right (And.right (And.right (And.right (And.right (by assumption))))))))).mono ?_; rintro e w' ⟨rfl, hb⟩))
      rename_i S3
      go_wp2_with fail
      go_ret
      exact ⟨rfl, S3.2.2.2.2.2.2.2⟩
end Go.Proofs.YtaabmekdnkcdaaaDoor
