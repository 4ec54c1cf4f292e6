/- The law QueryValidity. Conditions: addresses are numbers below 2^32; Go's own tables and the words lie below the world's blocks (EnvB). -/
import Derived.Test.YtnhemjdmleilcaaDoorQryO
import Derived.Test.YtnhemjdmleilcaaDoorQryU
namespace Go.Proofs.YtnhemjdmleilcaaDoor
open Go.RowKit

/-- In a region that draws its order: a load of a query. -/
theorem yieldsQ {ops : Array Oper} {S : World → Prop} {o : Oper} {a : Act} (hw : Region.wanted o (yielded ops a.tmps) = true) (x : Operand) (ho : o.op = .load 30 x) {g : Nat} {q : Qr}
    (hx : a.eval x = .pointer (some ⟨g, 0, none⟩)) (hS : ∀ w, S w → HasQ g q w) : YieldsIf Tryd.prog ops S o (QV q) a := by
  obtain ⟨d, hu, hd⟩ := row_of Tryd.rowQ
  have := yieldsIf_load_mid (P := Tryd.prog) (ops := ops) (S := S) hw 30 x ho g 0 hx (QC q).toList d (fun w h => (hS w h).range) hu hd Tryd.sizeQ
  simpa [QV_eq] using this
set_option maxRecDepth 100000 in
set_option maxHeartbeats 1000000 in
theorem queryValidity_walk (q : Qr) (w : World) (he : EnvB w.heap.size w) (hq : q.fit) : Calls Tryd.prog 3 #[QV q] w fun e w' => e = .returned (.bool true) ∧ Below w.heap.size w w' := by
  have H0 : FM q w (w.alloc (.cells (QC q) 30)) := ⟨heap_alloc_new w _, (Below.refl w.heap.size w).alloc (Nat.le_refl _) _⟩
  have HA := Lib.hid (awake_any _ (he.up H0.2))
  have HL := Lib.hid (fun w1 => long_any q w1)
  have HV := Lib.hid (fun w1 => qvalid_any q w1 hq)
  have HR := Lib.hid (fun w1 => rqvalid_any q w1 hq)
  have H1 := Lib.hid H0
  clear he hq H0
  rw [QV_eq]
  go_enter Tryd.func3, Tryd.ntmps3
  go_wp2_with fail
  refine HA.out.mono ?_
  rintro e w1 ⟨rfl, hb⟩
  have S0 := H1.out.keep hb
  clear hb H1 HA
  unfold VPost at HV HR
  generalize QC q = cs
  go_wp2_with fail
  cases hL : longB q with
  | true =>
    rw [hL] at HL
    refine wp_region_held_drew (S := fun w' => FM q w w') (by kernel_rfl) (FM.drew S0) (fun hHeld => ?_)
    refine wpAnyH_take (i := 0) (oi := { dst := some 5, op := Op.load 30 (Operand.tmp 1), type := 30, pos := "law.go:33", after := #[], guard := none }) (v := QV q) rfl (by kernel_rfl) (by kernel_rfl) (by kernel_rfl) (fun _ _ _ h => h) (yieldsQ (by rfl) _ rfl rfl (fun _ h => h.1)) (by assumption) ?_
    try simp only [Act.put, List.setIfInBounds_toArray, List.set_cons_zero, List.set_cons_succ]
    refine wpAnyH_ready (rs := [1]) (by kernel_rfl) (by simp) ?_
    refine AllReadyH.cons (o := { dst := some 6, op := Op.call { callee := Callee.value (Operand.func 11), args := #[Operand.tmp 5], argTypes := #[30] }, type := 4, pos := "law.go:33", after := #[{ on := 0, ground := Ground.data }], guard := none }) rfl (fun K hK => ?_) AllReadyH.nil
    go_simp
    with_reducible refine (HL.out _).mono ?_; rintro e w' ⟨rfl, hb⟩
    refine hK.out _ _ (FM.keep (by assumption) (by assumption)) (fun hHeld => ?_)
    clear hK K
    try simp only [Act.put, List.setIfInBounds_toArray, List.set_cons_zero, List.set_cons_succ]
    refine wpAnyH_take (i := 2) (oi := { dst := some 7, op := Op.move (Operand.tmp 6), type := 4, pos := "law.go:33", after := #[{ on := 1, ground := Ground.data }, { on := 1, ground := Ground.chain }], guard := none }) (v := ?_) rfl (by kernel_rfl) (by kernel_rfl) (by kernel_rfl) (fun _ _ _ h => h) (Or.inl ⟨by rfl, ?_⟩) (by assumption) ?_
    rotate_left
    · (intro w hSw; (try dsimp only at hSw); go_simp; try with_reducible rfl)
    try simp only [Act.put, List.setIfInBounds_toArray, List.set_cons_zero, List.set_cons_succ]
    refine wpAnyH_take (i := 3) (oi := { dst := some 8, op := Op.load 30 (Operand.tmp 1), type := 30, pos := "law.go:33", after := #[{ on := 2, ground := Ground.guard }], guard := some (2, false) }) (v := undef) rfl (by kernel_rfl) (by kernel_rfl) (by kernel_rfl) (fun _ _ _ h => h) (Or.inr ⟨by rfl, rfl⟩) (by assumption) ?_
    try simp only [Act.put, List.setIfInBounds_toArray, List.set_cons_zero, List.set_cons_succ]
    refine wpAnyH_take (i := 4) (oi := { dst := some 9, op := Op.call { callee := Callee.value (Operand.func 12), args := #[Operand.tmp 8], argTypes := #[30] }, type := 33, pos := "law.go:33", after := #[{ on := 3, ground := Ground.data }, { on := 2, ground := Ground.chain }, { on := 2, ground := Ground.guard }], guard := some (2, false) }) (v := undef) rfl (by kernel_rfl) (by kernel_rfl) (by kernel_rfl) (fun _ _ _ h => h) (Or.inr ⟨by rfl, rfl⟩) (by assumption) ?_
    try simp only [Act.put, List.setIfInBounds_toArray, List.set_cons_zero, List.set_cons_succ]
    refine wpAnyH_take (i := 5) (oi := { dst := some 10, op := Op.load 30 (Operand.tmp 1), type := 30, pos := "law.go:33", after := #[{ on := 2, ground := Ground.guard }], guard := some (2, false) }) (v := undef) rfl (by kernel_rfl) (by kernel_rfl) (by kernel_rfl) (fun _ _ _ h => h) (Or.inr ⟨by rfl, rfl⟩) (by assumption) ?_
    try simp only [Act.put, List.setIfInBounds_toArray, List.set_cons_zero, List.set_cons_succ]
    refine wpAnyH_take (i := 6) (oi := { dst := some 11, op := Op.call { callee := Callee.value (Operand.func 13), args := #[Operand.tmp 10], argTypes := #[30] }, type := 33, pos := "law.go:33", after := #[{ on := 5, ground := Ground.data }, { on := 4, ground := Ground.chain }, { on := 2, ground := Ground.guard }], guard := some (2, false) }) (v := undef) rfl (by kernel_rfl) (by kernel_rfl) (by kernel_rfl) (fun _ _ _ h => h) (Or.inr ⟨by rfl, rfl⟩) (by assumption) ?_
    try simp only [Act.put, List.setIfInBounds_toArray, List.set_cons_zero, List.set_cons_succ]
    refine wpAnyH_take (i := 7) (oi := { dst := some 12, op := Op.binOp BinOp.eql 33 (Operand.tmp 9) (Operand.tmp 11) 33, type := 4, pos := "law.go:33", after := #[{ on := 4, ground := Ground.data }, { on := 6, ground := Ground.data }, { on := 2, ground := Ground.guard }], guard := some (2, false) }) (v := undef) rfl (by kernel_rfl) (by kernel_rfl) (by kernel_rfl) (fun _ _ _ h => h) (Or.inr ⟨by rfl, rfl⟩) (by assumption) ?_
    try simp only [Act.put, List.setIfInBounds_toArray, List.set_cons_zero, List.set_cons_succ]
    refine wpAnyH_take (i := 8) (oi := { dst := some 13, op := Op.pick (Operand.tmp 7) (Operand.const (Value.bool true)) (Operand.tmp 12), type := 4, pos := "law.go:33", after := #[{ on := 2, ground := Ground.data }, { on := 7, ground := Ground.data }], guard := none }) (v := ?_) rfl (by kernel_rfl) (by kernel_rfl) (by kernel_rfl) (fun _ _ _ h => h) (Or.inl ⟨by rfl, ?_⟩) (by assumption) ?_
    rotate_left
    · (intro w hSw; (try dsimp only at hSw); go_simp; try with_reducible rfl)
    try simp only [Act.put, List.setIfInBounds_toArray, List.set_cons_zero, List.set_cons_succ]
    refine wpAnyH_take (i := 9) (oi := { dst := some 2, op := Op.assign (Operand.tmp 13), type := 4, pos := "law.go:33", after := #[{ on := 8, ground := Ground.data }, { on := 6, ground := Ground.chain }, { on := 0, ground := Ground.phase }, { on := 1, ground := Ground.phase }, { on := 2, ground := Ground.phase }, { on := 3, ground := Ground.phase }, { on := 4, ground := Ground.phase }, { on := 5, ground := Ground.phase }, { on := 6, ground := Ground.phase }, { on := 7, ground := Ground.phase }, { on := 8, ground := Ground.phase }], guard := none }) (v := ?_) rfl (by kernel_rfl) (by kernel_rfl) (by kernel_rfl) (fun _ _ _ h => h) (Or.inl ⟨by rfl, ?_⟩) (by assumption) ?_
    rotate_left
    · (intro w hSw; (try dsimp only at hSw); go_simp; try with_reducible rfl)
    try simp only [Act.put, List.setIfInBounds_toArray, List.set_cons_zero, List.set_cons_succ]
    refine wpAnyH_done (by kernel_rfl) ?_ _
    go_wp2_with fail
    go_ret
    exact ⟨rfl, hHeld.2⟩
  | false =>
    rw [hL] at HL
    refine wp_region_held_drew (S := fun w' => FM q w w') (by kernel_rfl) (FM.drew S0) (fun hHeld => ?_)
    refine wpAnyH_take (i := 0) (oi := { dst := some 5, op := Op.load 30 (Operand.tmp 1), type := 30, pos := "law.go:33", after := #[], guard := none }) (v := QV q) rfl (by kernel_rfl) (by kernel_rfl) (by kernel_rfl) (fun _ _ _ h => h) (yieldsQ (by rfl) _ rfl rfl (fun _ h => h.1)) (by assumption) ?_
    try simp only [Act.put, List.setIfInBounds_toArray, List.set_cons_zero, List.set_cons_succ]
    refine wpAnyH_ready (rs := [1]) (by kernel_rfl) (by simp) ?_
    refine AllReadyH.cons (o := { dst := some 6, op := Op.call { callee := Callee.value (Operand.func 11), args := #[Operand.tmp 5], argTypes := #[30] }, type := 4, pos := "law.go:33", after := #[{ on := 0, ground := Ground.data }], guard := none }) rfl (fun K hK => ?_) AllReadyH.nil
    go_simp
    with_reducible refine (HL.out _).mono ?_; rintro e w' ⟨rfl, hb⟩
    refine hK.out _ _ (FM.keep (by assumption) (by assumption)) (fun hHeld => ?_)
    clear hK K
    try simp only [Act.put, List.setIfInBounds_toArray, List.set_cons_zero, List.set_cons_succ]
    refine wpAnyH_take (i := 2) (oi := { dst := some 7, op := Op.move (Operand.tmp 6), type := 4, pos := "law.go:33", after := #[{ on := 1, ground := Ground.data }, { on := 1, ground := Ground.chain }], guard := none }) (v := ?_) rfl (by kernel_rfl) (by kernel_rfl) (by kernel_rfl) (fun _ _ _ h => h) (Or.inl ⟨by rfl, ?_⟩) (by assumption) ?_
    rotate_left
    · (intro w hSw; (try dsimp only at hSw); go_simp; try with_reducible rfl)
    try simp only [Act.put, List.setIfInBounds_toArray, List.set_cons_zero, List.set_cons_succ]
    refine wpAnyH_take (i := 3) (oi := { dst := some 8, op := Op.load 30 (Operand.tmp 1), type := 30, pos := "law.go:33", after := #[{ on := 2, ground := Ground.guard }], guard := some (2, false) }) (v := QV q) rfl (by kernel_rfl) (by kernel_rfl) (by kernel_rfl) (fun _ _ _ h => h) (yieldsQ (by rfl) _ rfl rfl (fun _ h => h.1)) (by assumption) ?_
    try simp only [Act.put, List.setIfInBounds_toArray, List.set_cons_zero, List.set_cons_succ]
    refine wpAnyH_take (i := 5) (oi := { dst := some 10, op := Op.load 30 (Operand.tmp 1), type := 30, pos := "law.go:33", after := #[{ on := 2, ground := Ground.guard }], guard := some (2, false) }) (v := QV q) rfl (by kernel_rfl) (by kernel_rfl) (by kernel_rfl) (fun _ _ _ h => h) (yieldsQ (by rfl) _ rfl rfl (fun _ h => h.1)) (by assumption) ?_
    try simp only [Act.put, List.setIfInBounds_toArray, List.set_cons_zero, List.set_cons_succ]
    refine wpAnyH_ready (rs := [4]) (by kernel_rfl) (by simp) ?_
    refine AllReadyH.cons (o := { dst := some 9, op := Op.call { callee := Callee.value (Operand.func 12), args := #[Operand.tmp 8], argTypes := #[30] }, type := 33, pos := "law.go:33", after := #[{ on := 3, ground := Ground.data }, { on := 2, ground := Ground.chain }, { on := 2, ground := Ground.guard }], guard := some (2, false) }) rfl (fun K hK => ?_) AllReadyH.nil
    go_simp
    with_reducible refine (HV.out _).mono ?_; rintro e w' ⟨rfl, hb⟩
    refine hK.out _ _ (FM.keep (by assumption) (by assumption)) (fun hHeld => ?_)
    clear hK K
    try simp only [Act.put, List.setIfInBounds_toArray, List.set_cons_zero, List.set_cons_succ]
    refine wpAnyH_ready (rs := [6]) (by kernel_rfl) (by simp) ?_
    refine AllReadyH.cons (o := { dst := some 11, op := Op.call { callee := Callee.value (Operand.func 13), args := #[Operand.tmp 10], argTypes := #[30] }, type := 33, pos := "law.go:33", after := #[{ on := 5, ground := Ground.data }, { on := 4, ground := Ground.chain }, { on := 2, ground := Ground.guard }], guard := some (2, false) }) rfl (fun K hK => ?_) AllReadyH.nil
    go_simp
    with_reducible refine (HR.out _).mono ?_; rintro e w' ⟨rfl, hb⟩
    refine hK.out _ _ (FM.keep (by assumption) (by assumption)) (fun hHeld => ?_)
    clear hK K
    try simp only [Act.put, List.setIfInBounds_toArray, List.set_cons_zero, List.set_cons_succ]
    refine wpAnyH_take (i := 7) (oi := { dst := some 12, op := Op.binOp BinOp.eql 33 (Operand.tmp 9) (Operand.tmp 11) 33, type := 4, pos := "law.go:33", after := #[{ on := 4, ground := Ground.data }, { on := 6, ground := Ground.data }, { on := 2, ground := Ground.guard }], guard := some (2, false) }) (v := ?_) rfl (by kernel_rfl) (by kernel_rfl) (by kernel_rfl) (fun _ _ _ h => h) (Or.inl ⟨by rfl, ?_⟩) (by assumption) ?_
    rotate_left
    · (intro w hSw; (try dsimp only at hSw); go_simp; try with_reducible rfl)
    try simp only [Act.put, List.setIfInBounds_toArray, List.set_cons_zero, List.set_cons_succ]
    refine wpAnyH_take (i := 8) (oi := { dst := some 13, op := Op.pick (Operand.tmp 7) (Operand.const (Value.bool true)) (Operand.tmp 12), type := 4, pos := "law.go:33", after := #[{ on := 2, ground := Ground.data }, { on := 7, ground := Ground.data }], guard := none }) (v := ?_) rfl (by kernel_rfl) (by kernel_rfl) (by kernel_rfl) (fun _ _ _ h => h) (Or.inl ⟨by rfl, ?_⟩) (by assumption) ?_
    rotate_left
    · (intro w hSw; (try dsimp only at hSw); go_simp; try with_reducible rfl)
    try simp only [Act.put, List.setIfInBounds_toArray, List.set_cons_zero, List.set_cons_succ]
    refine wpAnyH_take (i := 9) (oi := { dst := some 2, op := Op.assign (Operand.tmp 13), type := 4, pos := "law.go:33", after := #[{ on := 8, ground := Ground.data }, { on := 6, ground := Ground.chain }, { on := 0, ground := Ground.phase }, { on := 1, ground := Ground.phase }, { on := 2, ground := Ground.phase }, { on := 3, ground := Ground.phase }, { on := 4, ground := Ground.phase }, { on := 5, ground := Ground.phase }, { on := 6, ground := Ground.phase }, { on := 7, ground := Ground.phase }, { on := 8, ground := Ground.phase }], guard := none }) (v := ?_) rfl (by kernel_rfl) (by kernel_rfl) (by kernel_rfl) (fun _ _ _ h => h) (Or.inl ⟨by rfl, ?_⟩) (by assumption) ?_
    rotate_left
    · (intro w hSw; (try dsimp only at hSw); go_simp; try with_reducible rfl)
    try simp only [Act.put, List.setIfInBounds_toArray, List.set_cons_zero, List.set_cons_succ]
    refine wpAnyH_done (by kernel_rfl) ?_ _
    go_wp2_with fail
    go_ret
    exact ⟨rfl, hHeld.2⟩
end Go.Proofs.YtnhemjdmleilcaaDoor
