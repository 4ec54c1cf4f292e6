/- The walk of checkInterfaces. Conditions: the router lies in memory, addresses are numbers below 2^32. -/
import Derived.Test.YtnhemjdmleilcaaGreatDoorMModb
namespace Go.Proofs.YtnhemjdmleilcaaGreatDoor
open Go.RowKit

/-- Two interfaces' networks overlap. -/
def clashB (x y : If) : Bool := !(x.len == 0) && !(y.len == 0) && overP (x.addr / sz x.len * sz x.len) (clampN x.len) (y.addr / sz y.len * sz y.len) (clampN y.len)
def ifsGo (all : List If) : List If → Nat → Int
  | [], _ => 0
  | x :: r, k => if !nameB x.name then 3 else if idxF (fun y => y.name == x.name) all 0 < k then 4 else if !rightIf x then 1 else if (all.take k).any (clashB x) then 6 else ifsGo all r (k + 1)
/-- The error of a router's interfaces. -/
def ifsE (l : List If) : Int := if 8 < l.length then 7 else ifsGo l l 0
theorem drop_at {α : Type} {l : List α} {k : Nat} (h : k < l.length) : l.drop k = l[k] :: l.drop (k + 1) := (List.getElem_cons_drop h).symm
theorem ifsGo_at {all : List If} {k : Nat} {R : Int} (h : k < all.length) (hR : ifsGo all (all.drop k) k = R) :
    R = if !nameB all[k].name then 3 else if idxF (fun y => y.name == all[k].name) all 0 < k then 4 else if !rightIf all[k] then 1 else if (all.take k).any (clashB all[k]) then 6 else ifsGo all (all.drop (k + 1)) (k + 1) := by
  rw [drop_at h, ifsGo] at hR; exact hR.symm
theorem ifsGo_end {all : List If} {k : Nat} {R : Int} (h : ¬ k < all.length) (hR : ifsGo all (all.drop k) k = R) : R = 0 := by
  rw [List.drop_of_length_le (by omega), ifsGo] at hR; exact hR.symm
theorem any_at {α : Type} {l : List α} {p : α → Bool} {j : Nat} (h : j < l.length) : (l.drop j).any p = (p l[j] || (l.drop (j + 1)).any p) := by rw [drop_at h, List.any_cons]
theorem net_lt {a : Nat} {n : Int} (h : a < 4294967296) : a / sz n * sz n < 4294967296 := Nat.lt_of_le_of_lt (Nat.div_mul_le_self _ _) h
/-- Behind the walk's steps: the router's block, all that was there before. -/
structure RB (r : Rt) (w0 w : World) : Prop where
  h : HasC 69 w0.heap.size r.C w
  b : Below w0.heap.size w0 w
theorem RB.keep {r : Rt} {w0 w w' : World} (h : RB r w0 w) (hb : Below w.heap.size w w') : RB r w0 w' := ⟨h.h.keep hb, h.b.trans (hb.mono h.b.size)⟩
theorem RB.start (r : Rt) (w : World) : RB r w (w.alloc (.cells r.C 69)) := ⟨HasC.new w _ _, (Below.refl _ _).alloc (Nat.le_refl _) _⟩
/-- The two interfaces at hand, and the router's block. -/
def RX (r : Rt) (x y : If) (gx gy : Nat) (w0 w : World) : Prop := w.cell? ⟨gx, 1, none⟩ = some (.int .u32 (x.addr : Int)) ∧ w.cell? ⟨gx, 2, none⟩ = some (.int .i64 x.len) ∧ w.cell? ⟨gy, 1, none⟩ = some (.int .u32 (y.addr : Int)) ∧ w.cell? ⟨gy, 2, none⟩ = some (.int .i64 y.len) ∧ RB r w0 w ∧ HasC 99 gx x.C w
theorem RX.keep {r : Rt} {x y : If} {gx gy : Nat} {w0 w w' : World} (h : RX r x y gx gy w0 w) (hb : Below w.heap.size w w') : RX r x y gx gy w0 w' := by
  obtain ⟨h1, h2, h3, h4, h5, h6⟩ := h
  exact ⟨(hb.cell (World.block_lt_of_cell? _ _ h1)).trans h1, (hb.cell (World.block_lt_of_cell? _ _ h2)).trans h2, (hb.cell (World.block_lt_of_cell? _ _ h3)).trans h3, (hb.cell (World.block_lt_of_cell? _ _ h4)).trans h4, h5.keep hb, h6.keep hb⟩
theorem clash_x {x y : If} (h : x.len = 0) : clashB x y = false := by unfold clashB; rw [h]; rfl
theorem clash_y {x y : If} (h : y.len = 0) : clashB x y = false := by unfold clashB; rw [h]; simp
set_option maxRecDepth 100000 in
set_option maxHeartbeats 8000000 in
theorem checkInterfaces_any (r : Rt) (w : World) (B : Nat) (h : r.at w B) (hB : B ≤ w.heap.size) (hf : ∀ x ∈ r.ifs, x.fit) : Calls Tryz.prog 32 #[.agg r.C] w fun e w' => e = .returned (.int .i64 (ifsE r.ifs)) ∧ Below w.heap.size w w' := by
  have H0 := Lib.hid (RB.start r w)
  have HF := Lib.hid hf
  have HR := Lib.hid h
  have HBB := Lib.hid hB
  obtain ⟨A, c, hv, hle, -⟩ := h.hifs
  have HL : Hid (∀ w', RB r w w' → w'.cell? ⟨w.heap.size, 2, none⟩ = some (.slice A r.ifs.length c)) := Lib.hid (fun w' h => by rw [← hv]; exact h.h.cell 2)
  have HV := Lib.hid hv
  clear h hf hv hB
  have c2 := HL.out _ H0.out
  by_cases h8 : 8 < r.ifs.length
  · have E : Hid (ifsE r.ifs = 7) := Lib.hid (by unfold ifsE; rw [if_pos h8])
    go_enter Tryz.func32, Tryz.ntmps32
    go_wp2_with fail
    go_ret
    exact ⟨ret_int E.out.symm, H0.out.b⟩
  have d8 : decide ((8 : Int) < r.ifs.length) = false := by simp; omega
  have E : Hid (ifsGo r.ifs r.ifs 0 = ifsE r.ifs) := Lib.hid (by unfold ifsE; rw [if_neg h8])
  go_enter Tryz.func32, Tryz.ntmps32
  go_wp2_with fail
  clear c2 d8
  go_loopg [14] r.ifs.length (fun gh ix wr => ∃ k : Nat, k + gh = r.ifs.length ∧ ix = .int .i64 k ∧ Hid (RB r w wr) ∧ Hid (ifsGo r.ifs (r.ifs.drop k) k = ifsE r.ifs))
  case atStart => exact ⟨0, by omega, rfl, H0, E⟩
  case round =>
    obtain ⟨k, hk, rfl, HW, HG⟩ := hrel
    clear H0 E
    by_cases hlt : k < r.ifs.length
    case neg =>
      have E := Lib.hid (ifsGo_end hlt HG.out)
      go_wp2_with fail
      go_ret
      exact ⟨ret_int E.out.symm, HW.out.b⟩
    have HAT := Lib.hid (ifsGo_at hlt HG.out)
    obtain ⟨g, o, c', e', -, hg, R0⟩ := (HR.out.hifs).elem (n := 12) (by decide) (fun _ => rfl) hlt
    rw [HV.out] at e'
    injection e' with e1 e2 e3
    subst e1 e3
    have R1 := Lib.hid (fun w' (hb : Below w.heap.size w w') => rangeBelow R0 (hb.mono HBB.out) hg)
    have FX := Lib.hid (HF.out _ (List.getElem_mem hlt))
    clear R0 HG e2
    generalize hx : r.ifs[k] = x at HAT R1 FX
    replace hx := Lib.hid hx
    have r1 := Lib.hid (R1.out _ HW.out.b)
    go_wp2_with (first | (refine wpList_loadRow rfl 99 _ rfl rfl r1.out Tryz.rowIf Tryz.sizeIf ?_) | (refine wpList_storeRow rfl 99 _ _ rfl rfl rfl (HasC.new wr _ _) rfl Tryz.sizeIf (If.one x) ?_; intro w2 hz1 hz2; have c0 : w2.cell? ⟨wr.heap.size, 0, none⟩ = some (.string (str x.name)) := hz1.cell 0))
    have B2 := new_below hz2
    have H2 := Lib.hid (HW.out.keep B2)
    have X2 := hz1
    clear hz1 hz2 r1 c0
    generalize wr.heap.size = gx at X2 ⊢
    replace X2 := Lib.hid X2
    refine (nameL x.name _).mono ?_
    rintro e w' ⟨rfl, rfl⟩
    cases hn : nameB x.name with
    | false =>
      go_wp2_with fail
      go_ret
      exact ⟨ret_int (by rw [HAT.out, hn]; rfl), H2.out.b⟩
    | true =>
    have HNM := Lib.hid hn
    clear hn
    have c0 : w2.cell? ⟨gx, 0, none⟩ = some (.string (str x.name)) := X2.out.cell 0
    go_wp2_with (first | (refine wpList_loadRow rfl 69 _ rfl rfl H2.out.h.range Tryz.rowRt Tryz.sizeRt ?_))
    clear c0
    refine (interface_any r x.name w2 B (HR.out.below (H2.out.b.mono HBB.out)) (Nat.le_trans HBB.out H2.out.b.size)).mono ?_
    rintro e w3 ⟨rfl, hb⟩
    have H3 := Lib.hid (H2.out.keep hb)
    have X3 := Lib.hid (X2.out.keep hb)
    clear hb H2 X2
    by_cases hi : idxF (fun y => y.name == x.name) r.ifs 0 < k
    · have di := decide_eq_true hi
      have E := Lib.hid hi
      clear hi
      go_wp2_with fail
      go_ret
      exact ⟨ret_int (by rw [HAT.out, HNM.out, if_neg (by simp), if_pos E.out]), H3.out.b⟩
    have di := decide_eq_false hi
    have HI := Lib.hid hi
    clear hi
    go_wp2_with (first | (refine wpList_loadRow rfl 99 _ rfl rfl X3.out.range Tryz.rowIf Tryz.sizeIf ?_))
    clear di
    refine (rightInterface_any x _).mono ?_
    rintro e w4 ⟨rfl, hb⟩
    have H4 := Lib.hid (H3.out.keep hb)
    have X4 := Lib.hid (X3.out.keep hb)
    clear hb H3 X3
    cases hr : rightIf x with
    | false =>
      go_wp2_with fail
      go_ret
      exact ⟨ret_int (by rw [HAT.out, HNM.out, if_neg (by simp), if_neg (Int.not_lt.2 HI.out), hr]; rfl), H4.out.b⟩
    | true =>
    have HAN : Hid (ifsE r.ifs = if (r.ifs.take k).any (clashB x) then 6 else ifsGo r.ifs (r.ifs.drop (k + 1)) (k + 1)) := Lib.hid (by rw [HAT.out, HNM.out, if_neg (by simp), if_neg (Int.not_lt.2 HI.out), hr]; rfl)
    clear hr HAT HNM HI
    have c2 := HL.out _ H4.out
    go_wp2_with fail
    clear c2
    go_loopg [37] k (fun gh ix wq => ∃ j : Nat, j + gh = k ∧ ix = .int .i64 j ∧ Hid (RB r w wq) ∧ Hid (HasC 99 gx x.C wq) ∧ Hid ((r.ifs.take k).any (clashB x) = ((r.ifs.take k).drop j).any (clashB x)))
    case atStart => exact ⟨0, by omega, rfl, H4, X4, Lib.hid rfl⟩
    case round =>
      obtain ⟨j, hj, rfl, HQ, XQ, HAY⟩ := hrel
      by_cases hjl : j < k
      case neg =>
        have E : Hid (ifsE r.ifs = ifsGo r.ifs (r.ifs.drop (k + 1)) (k + 1)) := Lib.hid (by rw [HAN.out, HAY.out, List.drop_of_length_le (by rw [List.length_take]; omega)]; rfl)
        go_wp2_with fail
        go_roundg (r.ifs.length - (k + 1))
        case measure => omega
        case rel => exact ⟨k + 1, by omega, by go_num, HQ, Lib.hid E.out.symm⟩
      have hjn : j < r.ifs.length := by omega
      obtain ⟨g', o', c'', e', -, hg', R0⟩ := (HR.out.hifs).elem (n := 12) (by decide) (fun _ => rfl) hjn
      rw [HV.out] at e'
      injection e' with e1 e2 e3
      injection e1 with e1
      injection e1 with e1 e4
      subst e1 e4
      have hty : (r.ifs.take k)[j]'(by rw [List.length_take]; omega) = r.ifs[j] := by rw [List.getElem_take]
      have HST : Hid (((r.ifs.take k).drop j).any (clashB x) = (clashB x r.ifs[j] || ((r.ifs.take k).drop (j + 1)).any (clashB x))) := Lib.hid (by rw [any_at (by rw [List.length_take]; omega), hty])
      have FY := Lib.hid (HF.out _ (List.getElem_mem hjn))
      have r1 := Lib.hid (rangeBelow R0 (HQ.out.b.mono HBB.out) hg')
      clear R0 hty e2 e3
      generalize r.ifs[j] = y at HST FY r1
      have hjk : (j : Int) < k := by omega
      go_wp2_with (first | (refine wpList_loadRow rfl 99 _ rfl rfl r1.out Tryz.rowIf Tryz.sizeIf ?_) | (refine wpList_storeRow rfl 99 _ _ rfl rfl rfl (HasC.new wr _ _) rfl Tryz.sizeIf (If.one y) ?_; intro w5 hz1 hz2))
      have B5 := new_below hz2
      have Y5 := hz1
      have S0 : RX r x y gx wr.heap.size w w5.drew := ⟨((XQ.out.keep B5).keep (belowDrew _)).cell 1, ((XQ.out.keep B5).keep (belowDrew _)).cell 2, (hz1.keep (belowDrew _)).cell 1, (hz1.keep (belowDrew _)).cell 2, (HQ.out.keep B5).keep (belowDrew _), (XQ.out.keep B5).keep (belowDrew _)⟩
      have HS0 := Lib.hid S0
      clear hz1 hz2 B5 Y5 S0 r1 HQ XQ
      have PX := Lib.hid (fun w1 => network_any x.addr x.len w1 FX.out)
      have PY := Lib.hid (fun w1 => network_any y.addr y.len w1 FY.out)
      have PO := Lib.hid (fun w1 => overlaps_any (x.addr / sz x.len * sz x.len) (clampN x.len) (y.addr / sz y.len * sz y.len) (clampN y.len) w1 (net_lt FX.out) (net_lt FY.out))
      have CL : Hid (clashB x y = (!(x.len == 0) && !(y.len == 0) && overP (x.addr / sz x.len * sz x.len) (clampN x.len) (y.addr / sz y.len * sz y.len) (clampN y.len))) := Lib.hid rfl
      unfold PV at PX PY PO
      generalize x.addr / sz x.len * sz x.len = px at PX PO CL
      generalize y.addr / sz y.len * sz y.len = py at PY PO CL
      generalize (clampN x.len : Int) = nx at PX PO CL
      generalize (clampN y.len : Int) = ny at PY PO CL
      by_cases hx0 : x.len = 0
      · have dx : (x.len != 0) = false := by simpa using hx0
        have C0 := Lib.hid (clash_x (y := y) hx0)
        clear hx0
        refine wp_region_held_drew (S := fun w' => RX r x y gx wr.heap.size w w') (by kernel_rfl) (HS0.out) (fun hHeld => ?_)
        refine wpAnyH_take (i := 0) (oi := { dst := some 41, op := Op.fieldAddr 99 (Operand.tmp 4) 2, type := 0, pos := "model.go:85", after := #[], guard := none }) (v := ?_) rfl (by kernel_rfl) (by kernel_rfl) (by kernel_rfl) (fun _ _ _ h => h) (Or.inl ⟨by rfl, ?_⟩) (by assumption) ?_
        rotate_left
        · (intro w hSw; (try dsimp only at hSw); (try unfold RX at hSw); go_simp; try with_reducible rfl)
        try simp only [Act.put, List.setIfInBounds_toArray, List.set_cons_zero, List.set_cons_succ]
        refine wpAnyH_take (i := 1) (oi := { dst := some 42, op := Op.load 3 (Operand.tmp 41), type := 3, pos := "model.go:85", after := #[{ on := 0, ground := Ground.data }], guard := none }) (v := ?_) rfl (by kernel_rfl) (by kernel_rfl) (by kernel_rfl) (fun _ _ _ h => h) (Or.inl ⟨by rfl, ?_⟩) (by assumption) ?_
        rotate_left
        · (intro w hSw; (try dsimp only at hSw); (try unfold RX at hSw); go_simp; try with_reducible rfl)
        try simp only [Act.put, List.setIfInBounds_toArray, List.set_cons_zero, List.set_cons_succ]
        refine wpAnyH_take (i := 2) (oi := { dst := some 43, op := Op.binOp BinOp.neq 3 (Operand.tmp 42) (Operand.const (Value.int IntKind.i64 0)) 3, type := 4, pos := "model.go:85", after := #[{ on := 1, ground := Ground.data }], guard := none }) (v := ?_) rfl (by kernel_rfl) (by kernel_rfl) (by kernel_rfl) (fun _ _ _ h => h) (Or.inl ⟨by rfl, ?_⟩) (by assumption) ?_
        rotate_left
        · (intro w hSw; (try dsimp only at hSw); (try unfold RX at hSw); go_simp; try with_reducible rfl)
        try simp only [Act.put, List.setIfInBounds_toArray, List.set_cons_zero, List.set_cons_succ]
        refine wpAnyH_take (i := 3) (oi := { dst := some 44, op := Op.move (Operand.tmp 43), type := 4, pos := "model.go:85", after := #[{ on := 2, ground := Ground.data }], guard := none }) (v := ?_) rfl (by kernel_rfl) (by kernel_rfl) (by kernel_rfl) (fun _ _ _ h => h) (Or.inl ⟨by rfl, ?_⟩) (by assumption) ?_
        rotate_left
        · (intro w hSw; (try dsimp only at hSw); (try unfold RX at hSw); go_simp; try with_reducible rfl)
        try simp only [Act.put, List.setIfInBounds_toArray, List.set_cons_zero, List.set_cons_succ]
        refine wpAnyH_take (i := 4) (oi := { dst := some 45, op := Op.fieldAddr 99 (Operand.tmp 6) 2, type := 0, pos := "model.go:85", after := #[{ on := 3, ground := Ground.guard }], guard := some (3, true) }) (v := undef) rfl (by kernel_rfl) (by kernel_rfl) (by kernel_rfl) (fun _ _ _ h => h) (Or.inr ⟨by rfl, rfl⟩) (by assumption) ?_
        try simp only [Act.put, List.setIfInBounds_toArray, List.set_cons_zero, List.set_cons_succ]
        refine wpAnyH_take (i := 5) (oi := { dst := some 46, op := Op.load 3 (Operand.tmp 45), type := 3, pos := "model.go:85", after := #[{ on := 4, ground := Ground.data }, { on := 3, ground := Ground.guard }], guard := some (3, true) }) (v := undef) rfl (by kernel_rfl) (by kernel_rfl) (by kernel_rfl) (fun _ _ _ h => h) (Or.inr ⟨by rfl, rfl⟩) (by assumption) ?_
        try simp only [Act.put, List.setIfInBounds_toArray, List.set_cons_zero, List.set_cons_succ]
        refine wpAnyH_take (i := 6) (oi := { dst := some 47, op := Op.binOp BinOp.neq 3 (Operand.tmp 46) (Operand.const (Value.int IntKind.i64 0)) 3, type := 4, pos := "model.go:85", after := #[{ on := 5, ground := Ground.data }, { on := 3, ground := Ground.guard }], guard := some (3, true) }) (v := undef) rfl (by kernel_rfl) (by kernel_rfl) (by kernel_rfl) (fun _ _ _ h => h) (Or.inr ⟨by rfl, rfl⟩) (by assumption) ?_
        try simp only [Act.put, List.setIfInBounds_toArray, List.set_cons_zero, List.set_cons_succ]
        refine wpAnyH_take (i := 7) (oi := { dst := some 48, op := Op.pick (Operand.tmp 44) (Operand.tmp 47) (Operand.const (Value.bool false)), type := 4, pos := "model.go:85", after := #[{ on := 3, ground := Ground.data }, { on := 6, ground := Ground.data }], guard := none }) (v := ?_) rfl (by kernel_rfl) (by kernel_rfl) (by kernel_rfl) (fun _ _ _ h => h) (Or.inl ⟨by rfl, ?_⟩) (by assumption) ?_
        rotate_left
        · (intro w hSw; (try dsimp only at hSw); (try unfold RX at hSw); go_simp; try with_reducible rfl)
        try simp only [Act.put, List.setIfInBounds_toArray, List.set_cons_zero, List.set_cons_succ]
        refine wpAnyH_take (i := 8) (oi := { dst := some 49, op := Op.move (Operand.tmp 48), type := 4, pos := "model.go:85", after := #[{ on := 7, ground := Ground.data }, { on := 3, ground := Ground.chain }], guard := none }) (v := ?_) rfl (by kernel_rfl) (by kernel_rfl) (by kernel_rfl) (fun _ _ _ h => h) (Or.inl ⟨by rfl, ?_⟩) (by assumption) ?_
        rotate_left
        · (intro w hSw; (try dsimp only at hSw); (try unfold RX at hSw); go_simp; try with_reducible rfl)
        try simp only [Act.put, List.setIfInBounds_toArray, List.set_cons_zero, List.set_cons_succ]
        refine wpAnyH_take (i := 9) (oi := { dst := some 50, op := Op.fieldAddr 99 (Operand.tmp 4) 1, type := 0, pos := "model.go:85", after := #[{ on := 8, ground := Ground.guard }], guard := some (8, true) }) (v := undef) rfl (by kernel_rfl) (by kernel_rfl) (by kernel_rfl) (fun _ _ _ h => h) (Or.inr ⟨by rfl, rfl⟩) (by assumption) ?_
        try simp only [Act.put, List.setIfInBounds_toArray, List.set_cons_zero, List.set_cons_succ]
        refine wpAnyH_take (i := 10) (oi := { dst := some 51, op := Op.load 25 (Operand.tmp 50), type := 25, pos := "model.go:85", after := #[{ on := 9, ground := Ground.data }, { on := 8, ground := Ground.guard }], guard := some (8, true) }) (v := undef) rfl (by kernel_rfl) (by kernel_rfl) (by kernel_rfl) (fun _ _ _ h => h) (Or.inr ⟨by rfl, rfl⟩) (by assumption) ?_
        try simp only [Act.put, List.setIfInBounds_toArray, List.set_cons_zero, List.set_cons_succ]
        refine wpAnyH_take (i := 11) (oi := { dst := some 52, op := Op.fieldAddr 99 (Operand.tmp 4) 2, type := 0, pos := "model.go:85", after := #[{ on := 8, ground := Ground.guard }], guard := some (8, true) }) (v := undef) rfl (by kernel_rfl) (by kernel_rfl) (by kernel_rfl) (fun _ _ _ h => h) (Or.inr ⟨by rfl, rfl⟩) (by assumption) ?_
        try simp only [Act.put, List.setIfInBounds_toArray, List.set_cons_zero, List.set_cons_succ]
        refine wpAnyH_take (i := 12) (oi := { dst := some 53, op := Op.load 3 (Operand.tmp 52), type := 3, pos := "model.go:85", after := #[{ on := 11, ground := Ground.data }, { on := 8, ground := Ground.guard }], guard := some (8, true) }) (v := undef) rfl (by kernel_rfl) (by kernel_rfl) (by kernel_rfl) (fun _ _ _ h => h) (Or.inr ⟨by rfl, rfl⟩) (by assumption) ?_
        try simp only [Act.put, List.setIfInBounds_toArray, List.set_cons_zero, List.set_cons_succ]
        refine wpAnyH_take (i := 13) (oi := { dst := some 54, op := Op.call { callee := Callee.value (Operand.func 71), args := #[Operand.tmp 51, Operand.tmp 53], argTypes := #[25, 3] }, type := 27, pos := "model.go:85", after := #[{ on := 10, ground := Ground.data }, { on := 12, ground := Ground.data }, { on := 8, ground := Ground.chain }, { on := 8, ground := Ground.guard }], guard := some (8, true) }) (v := undef) rfl (by kernel_rfl) (by kernel_rfl) (by kernel_rfl) (fun _ _ _ h => h) (Or.inr ⟨by rfl, rfl⟩) (by assumption) ?_
        try simp only [Act.put, List.setIfInBounds_toArray, List.set_cons_zero, List.set_cons_succ]
        refine wpAnyH_take (i := 14) (oi := { dst := some 55, op := Op.fieldAddr 99 (Operand.tmp 6) 1, type := 0, pos := "model.go:85", after := #[{ on := 8, ground := Ground.guard }], guard := some (8, true) }) (v := undef) rfl (by kernel_rfl) (by kernel_rfl) (by kernel_rfl) (fun _ _ _ h => h) (Or.inr ⟨by rfl, rfl⟩) (by assumption) ?_
        try simp only [Act.put, List.setIfInBounds_toArray, List.set_cons_zero, List.set_cons_succ]
        refine wpAnyH_take (i := 15) (oi := { dst := some 56, op := Op.load 25 (Operand.tmp 55), type := 25, pos := "model.go:85", after := #[{ on := 14, ground := Ground.data }, { on := 8, ground := Ground.guard }], guard := some (8, true) }) (v := undef) rfl (by kernel_rfl) (by kernel_rfl) (by kernel_rfl) (fun _ _ _ h => h) (Or.inr ⟨by rfl, rfl⟩) (by assumption) ?_
        try simp only [Act.put, List.setIfInBounds_toArray, List.set_cons_zero, List.set_cons_succ]
        refine wpAnyH_take (i := 16) (oi := { dst := some 57, op := Op.fieldAddr 99 (Operand.tmp 6) 2, type := 0, pos := "model.go:85", after := #[{ on := 8, ground := Ground.guard }], guard := some (8, true) }) (v := undef) rfl (by kernel_rfl) (by kernel_rfl) (by kernel_rfl) (fun _ _ _ h => h) (Or.inr ⟨by rfl, rfl⟩) (by assumption) ?_
        try simp only [Act.put, List.setIfInBounds_toArray, List.set_cons_zero, List.set_cons_succ]
        refine wpAnyH_take (i := 17) (oi := { dst := some 58, op := Op.load 3 (Operand.tmp 57), type := 3, pos := "model.go:85", after := #[{ on := 16, ground := Ground.data }, { on := 8, ground := Ground.guard }], guard := some (8, true) }) (v := undef) rfl (by kernel_rfl) (by kernel_rfl) (by kernel_rfl) (fun _ _ _ h => h) (Or.inr ⟨by rfl, rfl⟩) (by assumption) ?_
        try simp only [Act.put, List.setIfInBounds_toArray, List.set_cons_zero, List.set_cons_succ]
        refine wpAnyH_take (i := 18) (oi := { dst := some 59, op := Op.call { callee := Callee.value (Operand.func 71), args := #[Operand.tmp 56, Operand.tmp 58], argTypes := #[25, 3] }, type := 27, pos := "model.go:85", after := #[{ on := 15, ground := Ground.data }, { on := 17, ground := Ground.data }, { on := 13, ground := Ground.chain }, { on := 8, ground := Ground.guard }], guard := some (8, true) }) (v := undef) rfl (by kernel_rfl) (by kernel_rfl) (by kernel_rfl) (fun _ _ _ h => h) (Or.inr ⟨by rfl, rfl⟩) (by assumption) ?_
        try simp only [Act.put, List.setIfInBounds_toArray, List.set_cons_zero, List.set_cons_succ]
        refine wpAnyH_take (i := 19) (oi := { dst := some 60, op := Op.call { callee := Callee.value (Operand.func 70), args := #[Operand.tmp 54, Operand.tmp 59], argTypes := #[27, 27] }, type := 4, pos := "model.go:85", after := #[{ on := 13, ground := Ground.data }, { on := 18, ground := Ground.data }, { on := 18, ground := Ground.chain }, { on := 8, ground := Ground.guard }], guard := some (8, true) }) (v := undef) rfl (by kernel_rfl) (by kernel_rfl) (by kernel_rfl) (fun _ _ _ h => h) (Or.inr ⟨by rfl, rfl⟩) (by assumption) ?_
        try simp only [Act.put, List.setIfInBounds_toArray, List.set_cons_zero, List.set_cons_succ]
        refine wpAnyH_take (i := 20) (oi := { dst := some 61, op := Op.pick (Operand.tmp 49) (Operand.tmp 60) (Operand.const (Value.bool false)), type := 4, pos := "model.go:85", after := #[{ on := 8, ground := Ground.data }, { on := 19, ground := Ground.data }], guard := none }) (v := ?_) rfl (by kernel_rfl) (by kernel_rfl) (by kernel_rfl) (fun _ _ _ h => h) (Or.inl ⟨by rfl, ?_⟩) (by assumption) ?_
        rotate_left
        · (intro w hSw; (try dsimp only at hSw); (try unfold RX at hSw); go_simp; try with_reducible rfl)
        try simp only [Act.put, List.setIfInBounds_toArray, List.set_cons_zero, List.set_cons_succ]
        refine wpAnyH_done (by kernel_rfl) ?_ _
        have EN : Hid ((r.ifs.take k).any (clashB x) = ((r.ifs.take k).drop (j + 1)).any (clashB x)) := Lib.hid (by rw [HAY.out, HST.out, C0.out]; rfl)
        have HF2 := Lib.hid hHeld
        clear hHeld
        go_wp2_with fail
        go_roundg (k - (j + 1))
        case measure => omega
        case rel => exact ⟨j + 1, by omega, by go_num, Lib.hid HF2.out.2.2.2.2.1, Lib.hid HF2.out.2.2.2.2.2, EN⟩
      have dx : (x.len != 0) = true := by simpa using hx0
      have dx' : (x.len == 0) = false := by simpa using hx0
      by_cases hy0 : y.len = 0
      · have dy : (y.len != 0) = false := by simpa using hy0
        have C0 := Lib.hid (clash_y (x := x) hy0)
        clear hy0 hx0
        refine wp_region_held_drew (S := fun w' => RX r x y gx wr.heap.size w w') (by kernel_rfl) (HS0.out) (fun hHeld => ?_)
        refine wpAnyH_take (i := 0) (oi := { dst := some 41, op := Op.fieldAddr 99 (Operand.tmp 4) 2, type := 0, pos := "model.go:85", after := #[], guard := none }) (v := ?_) rfl (by kernel_rfl) (by kernel_rfl) (by kernel_rfl) (fun _ _ _ h => h) (Or.inl ⟨by rfl, ?_⟩) (by assumption) ?_
        rotate_left
        · (intro w hSw; (try dsimp only at hSw); (try unfold RX at hSw); go_simp; try with_reducible rfl)
        try simp only [Act.put, List.setIfInBounds_toArray, List.set_cons_zero, List.set_cons_succ]
        refine wpAnyH_take (i := 1) (oi := { dst := some 42, op := Op.load 3 (Operand.tmp 41), type := 3, pos := "model.go:85", after := #[{ on := 0, ground := Ground.data }], guard := none }) (v := ?_) rfl (by kernel_rfl) (by kernel_rfl) (by kernel_rfl) (fun _ _ _ h => h) (Or.inl ⟨by rfl, ?_⟩) (by assumption) ?_
        rotate_left
        · (intro w hSw; (try dsimp only at hSw); (try unfold RX at hSw); go_simp; try with_reducible rfl)
        try simp only [Act.put, List.setIfInBounds_toArray, List.set_cons_zero, List.set_cons_succ]
        refine wpAnyH_take (i := 2) (oi := { dst := some 43, op := Op.binOp BinOp.neq 3 (Operand.tmp 42) (Operand.const (Value.int IntKind.i64 0)) 3, type := 4, pos := "model.go:85", after := #[{ on := 1, ground := Ground.data }], guard := none }) (v := ?_) rfl (by kernel_rfl) (by kernel_rfl) (by kernel_rfl) (fun _ _ _ h => h) (Or.inl ⟨by rfl, ?_⟩) (by assumption) ?_
        rotate_left
        · (intro w hSw; (try dsimp only at hSw); (try unfold RX at hSw); go_simp; try with_reducible rfl)
        try simp only [Act.put, List.setIfInBounds_toArray, List.set_cons_zero, List.set_cons_succ]
        refine wpAnyH_take (i := 3) (oi := { dst := some 44, op := Op.move (Operand.tmp 43), type := 4, pos := "model.go:85", after := #[{ on := 2, ground := Ground.data }], guard := none }) (v := ?_) rfl (by kernel_rfl) (by kernel_rfl) (by kernel_rfl) (fun _ _ _ h => h) (Or.inl ⟨by rfl, ?_⟩) (by assumption) ?_
        rotate_left
        · (intro w hSw; (try dsimp only at hSw); (try unfold RX at hSw); go_simp; try with_reducible rfl)
        try simp only [Act.put, List.setIfInBounds_toArray, List.set_cons_zero, List.set_cons_succ]
        refine wpAnyH_take (i := 4) (oi := { dst := some 45, op := Op.fieldAddr 99 (Operand.tmp 6) 2, type := 0, pos := "model.go:85", after := #[{ on := 3, ground := Ground.guard }], guard := some (3, true) }) (v := ?_) rfl (by kernel_rfl) (by kernel_rfl) (by kernel_rfl) (fun _ _ _ h => h) (Or.inl ⟨by rfl, ?_⟩) (by assumption) ?_
        rotate_left
        · (intro w hSw; (try dsimp only at hSw); (try unfold RX at hSw); go_simp; try with_reducible rfl)
        try simp only [Act.put, List.setIfInBounds_toArray, List.set_cons_zero, List.set_cons_succ]
        refine wpAnyH_take (i := 5) (oi := { dst := some 46, op := Op.load 3 (Operand.tmp 45), type := 3, pos := "model.go:85", after := #[{ on := 4, ground := Ground.data }, { on := 3, ground := Ground.guard }], guard := some (3, true) }) (v := ?_) rfl (by kernel_rfl) (by kernel_rfl) (by kernel_rfl) (fun _ _ _ h => h) (Or.inl ⟨by rfl, ?_⟩) (by assumption) ?_
        rotate_left
        · (intro w hSw; (try dsimp only at hSw); (try unfold RX at hSw); go_simp; try with_reducible rfl)
        try simp only [Act.put, List.setIfInBounds_toArray, List.set_cons_zero, List.set_cons_succ]
        refine wpAnyH_take (i := 6) (oi := { dst := some 47, op := Op.binOp BinOp.neq 3 (Operand.tmp 46) (Operand.const (Value.int IntKind.i64 0)) 3, type := 4, pos := "model.go:85", after := #[{ on := 5, ground := Ground.data }, { on := 3, ground := Ground.guard }], guard := some (3, true) }) (v := ?_) rfl (by kernel_rfl) (by kernel_rfl) (by kernel_rfl) (fun _ _ _ h => h) (Or.inl ⟨by rfl, ?_⟩) (by assumption) ?_
        rotate_left
        · (intro w hSw; (try dsimp only at hSw); (try unfold RX at hSw); go_simp; try with_reducible rfl)
        try simp only [Act.put, List.setIfInBounds_toArray, List.set_cons_zero, List.set_cons_succ]
        refine wpAnyH_take (i := 7) (oi := { dst := some 48, op := Op.pick (Operand.tmp 44) (Operand.tmp 47) (Operand.const (Value.bool false)), type := 4, pos := "model.go:85", after := #[{ on := 3, ground := Ground.data }, { on := 6, ground := Ground.data }], guard := none }) (v := ?_) rfl (by kernel_rfl) (by kernel_rfl) (by kernel_rfl) (fun _ _ _ h => h) (Or.inl ⟨by rfl, ?_⟩) (by assumption) ?_
        rotate_left
        · (intro w hSw; (try dsimp only at hSw); (try unfold RX at hSw); go_simp; try with_reducible rfl)
        try simp only [Act.put, List.setIfInBounds_toArray, List.set_cons_zero, List.set_cons_succ]
        refine wpAnyH_take (i := 8) (oi := { dst := some 49, op := Op.move (Operand.tmp 48), type := 4, pos := "model.go:85", after := #[{ on := 7, ground := Ground.data }, { on := 3, ground := Ground.chain }], guard := none }) (v := ?_) rfl (by kernel_rfl) (by kernel_rfl) (by kernel_rfl) (fun _ _ _ h => h) (Or.inl ⟨by rfl, ?_⟩) (by assumption) ?_
        rotate_left
        · (intro w hSw; (try dsimp only at hSw); (try unfold RX at hSw); go_simp; try with_reducible rfl)
        try simp only [Act.put, List.setIfInBounds_toArray, List.set_cons_zero, List.set_cons_succ]
        refine wpAnyH_take (i := 9) (oi := { dst := some 50, op := Op.fieldAddr 99 (Operand.tmp 4) 1, type := 0, pos := "model.go:85", after := #[{ on := 8, ground := Ground.guard }], guard := some (8, true) }) (v := undef) rfl (by kernel_rfl) (by kernel_rfl) (by kernel_rfl) (fun _ _ _ h => h) (Or.inr ⟨by rfl, rfl⟩) (by assumption) ?_
        try simp only [Act.put, List.setIfInBounds_toArray, List.set_cons_zero, List.set_cons_succ]
        refine wpAnyH_take (i := 10) (oi := { dst := some 51, op := Op.load 25 (Operand.tmp 50), type := 25, pos := "model.go:85", after := #[{ on := 9, ground := Ground.data }, { on := 8, ground := Ground.guard }], guard := some (8, true) }) (v := undef) rfl (by kernel_rfl) (by kernel_rfl) (by kernel_rfl) (fun _ _ _ h => h) (Or.inr ⟨by rfl, rfl⟩) (by assumption) ?_
        try simp only [Act.put, List.setIfInBounds_toArray, List.set_cons_zero, List.set_cons_succ]
        refine wpAnyH_take (i := 11) (oi := { dst := some 52, op := Op.fieldAddr 99 (Operand.tmp 4) 2, type := 0, pos := "model.go:85", after := #[{ on := 8, ground := Ground.guard }], guard := some (8, true) }) (v := undef) rfl (by kernel_rfl) (by kernel_rfl) (by kernel_rfl) (fun _ _ _ h => h) (Or.inr ⟨by rfl, rfl⟩) (by assumption) ?_
        try simp only [Act.put, List.setIfInBounds_toArray, List.set_cons_zero, List.set_cons_succ]
        refine wpAnyH_take (i := 12) (oi := { dst := some 53, op := Op.load 3 (Operand.tmp 52), type := 3, pos := "model.go:85", after := #[{ on := 11, ground := Ground.data }, { on := 8, ground := Ground.guard }], guard := some (8, true) }) (v := undef) rfl (by kernel_rfl) (by kernel_rfl) (by kernel_rfl) (fun _ _ _ h => h) (Or.inr ⟨by rfl, rfl⟩) (by assumption) ?_
        try simp only [Act.put, List.setIfInBounds_toArray, List.set_cons_zero, List.set_cons_succ]
        refine wpAnyH_take (i := 13) (oi := { dst := some 54, op := Op.call { callee := Callee.value (Operand.func 71), args := #[Operand.tmp 51, Operand.tmp 53], argTypes := #[25, 3] }, type := 27, pos := "model.go:85", after := #[{ on := 10, ground := Ground.data }, { on := 12, ground := Ground.data }, { on := 8, ground := Ground.chain }, { on := 8, ground := Ground.guard }], guard := some (8, true) }) (v := undef) rfl (by kernel_rfl) (by kernel_rfl) (by kernel_rfl) (fun _ _ _ h => h) (Or.inr ⟨by rfl, rfl⟩) (by assumption) ?_
        try simp only [Act.put, List.setIfInBounds_toArray, List.set_cons_zero, List.set_cons_succ]
        refine wpAnyH_take (i := 14) (oi := { dst := some 55, op := Op.fieldAddr 99 (Operand.tmp 6) 1, type := 0, pos := "model.go:85", after := #[{ on := 8, ground := Ground.guard }], guard := some (8, true) }) (v := undef) rfl (by kernel_rfl) (by kernel_rfl) (by kernel_rfl) (fun _ _ _ h => h) (Or.inr ⟨by rfl, rfl⟩) (by assumption) ?_
        try simp only [Act.put, List.setIfInBounds_toArray, List.set_cons_zero, List.set_cons_succ]
        refine wpAnyH_take (i := 15) (oi := { dst := some 56, op := Op.load 25 (Operand.tmp 55), type := 25, pos := "model.go:85", after := #[{ on := 14, ground := Ground.data }, { on := 8, ground := Ground.guard }], guard := some (8, true) }) (v := undef) rfl (by kernel_rfl) (by kernel_rfl) (by kernel_rfl) (fun _ _ _ h => h) (Or.inr ⟨by rfl, rfl⟩) (by assumption) ?_
        try simp only [Act.put, List.setIfInBounds_toArray, List.set_cons_zero, List.set_cons_succ]
        refine wpAnyH_take (i := 16) (oi := { dst := some 57, op := Op.fieldAddr 99 (Operand.tmp 6) 2, type := 0, pos := "model.go:85", after := #[{ on := 8, ground := Ground.guard }], guard := some (8, true) }) (v := undef) rfl (by kernel_rfl) (by kernel_rfl) (by kernel_rfl) (fun _ _ _ h => h) (Or.inr ⟨by rfl, rfl⟩) (by assumption) ?_
        try simp only [Act.put, List.setIfInBounds_toArray, List.set_cons_zero, List.set_cons_succ]
        refine wpAnyH_take (i := 17) (oi := { dst := some 58, op := Op.load 3 (Operand.tmp 57), type := 3, pos := "model.go:85", after := #[{ on := 16, ground := Ground.data }, { on := 8, ground := Ground.guard }], guard := some (8, true) }) (v := undef) rfl (by kernel_rfl) (by kernel_rfl) (by kernel_rfl) (fun _ _ _ h => h) (Or.inr ⟨by rfl, rfl⟩) (by assumption) ?_
        try simp only [Act.put, List.setIfInBounds_toArray, List.set_cons_zero, List.set_cons_succ]
        refine wpAnyH_take (i := 18) (oi := { dst := some 59, op := Op.call { callee := Callee.value (Operand.func 71), args := #[Operand.tmp 56, Operand.tmp 58], argTypes := #[25, 3] }, type := 27, pos := "model.go:85", after := #[{ on := 15, ground := Ground.data }, { on := 17, ground := Ground.data }, { on := 13, ground := Ground.chain }, { on := 8, ground := Ground.guard }], guard := some (8, true) }) (v := undef) rfl (by kernel_rfl) (by kernel_rfl) (by kernel_rfl) (fun _ _ _ h => h) (Or.inr ⟨by rfl, rfl⟩) (by assumption) ?_
        try simp only [Act.put, List.setIfInBounds_toArray, List.set_cons_zero, List.set_cons_succ]
        refine wpAnyH_take (i := 19) (oi := { dst := some 60, op := Op.call { callee := Callee.value (Operand.func 70), args := #[Operand.tmp 54, Operand.tmp 59], argTypes := #[27, 27] }, type := 4, pos := "model.go:85", after := #[{ on := 13, ground := Ground.data }, { on := 18, ground := Ground.data }, { on := 18, ground := Ground.chain }, { on := 8, ground := Ground.guard }], guard := some (8, true) }) (v := undef) rfl (by kernel_rfl) (by kernel_rfl) (by kernel_rfl) (fun _ _ _ h => h) (Or.inr ⟨by rfl, rfl⟩) (by assumption) ?_
        try simp only [Act.put, List.setIfInBounds_toArray, List.set_cons_zero, List.set_cons_succ]
        refine wpAnyH_take (i := 20) (oi := { dst := some 61, op := Op.pick (Operand.tmp 49) (Operand.tmp 60) (Operand.const (Value.bool false)), type := 4, pos := "model.go:85", after := #[{ on := 8, ground := Ground.data }, { on := 19, ground := Ground.data }], guard := none }) (v := ?_) rfl (by kernel_rfl) (by kernel_rfl) (by kernel_rfl) (fun _ _ _ h => h) (Or.inl ⟨by rfl, ?_⟩) (by assumption) ?_
        rotate_left
        · (intro w hSw; (try dsimp only at hSw); (try unfold RX at hSw); go_simp; try with_reducible rfl)
        try simp only [Act.put, List.setIfInBounds_toArray, List.set_cons_zero, List.set_cons_succ]
        refine wpAnyH_done (by kernel_rfl) ?_ _
        have EN : Hid ((r.ifs.take k).any (clashB x) = ((r.ifs.take k).drop (j + 1)).any (clashB x)) := Lib.hid (by rw [HAY.out, HST.out, C0.out]; rfl)
        have HF2 := Lib.hid hHeld
        clear hHeld
        go_wp2_with fail
        go_roundg (k - (j + 1))
        case measure => omega
        case rel => exact ⟨j + 1, by omega, by go_num, Lib.hid HF2.out.2.2.2.2.1, Lib.hid HF2.out.2.2.2.2.2, EN⟩
      have dy : (y.len != 0) = true := by simpa using hy0
      have dy' : (y.len == 0) = false := by simpa using hy0
      clear hx0 hy0
      refine wp_region_held_drew (S := fun w' => RX r x y gx wr.heap.size w w') (by kernel_rfl) (HS0.out) (fun hHeld => ?_)
      refine wpAnyH_take (i := 0) (oi := { dst := some 41, op := Op.fieldAddr 99 (Operand.tmp 4) 2, type := 0, pos := "model.go:85", after := #[], guard := none }) (v := ?_) rfl (by kernel_rfl) (by kernel_rfl) (by kernel_rfl) (fun _ _ _ h => h) (Or.inl ⟨by rfl, ?_⟩) (by assumption) ?_
      rotate_left
      · (intro w hSw; (try dsimp only at hSw); (try unfold RX at hSw); go_simp; try with_reducible rfl)
      try simp only [Act.put, List.setIfInBounds_toArray, List.set_cons_zero, List.set_cons_succ]
      refine wpAnyH_take (i := 1) (oi := { dst := some 42, op := Op.load 3 (Operand.tmp 41), type := 3, pos := "model.go:85", after := #[{ on := 0, ground := Ground.data }], guard := none }) (v := ?_) rfl (by kernel_rfl) (by kernel_rfl) (by kernel_rfl) (fun _ _ _ h => h) (Or.inl ⟨by rfl, ?_⟩) (by assumption) ?_
      rotate_left
      · (intro w hSw; (try dsimp only at hSw); (try unfold RX at hSw); go_simp; try with_reducible rfl)
      try simp only [Act.put, List.setIfInBounds_toArray, List.set_cons_zero, List.set_cons_succ]
      refine wpAnyH_take (i := 2) (oi := { dst := some 43, op := Op.binOp BinOp.neq 3 (Operand.tmp 42) (Operand.const (Value.int IntKind.i64 0)) 3, type := 4, pos := "model.go:85", after := #[{ on := 1, ground := Ground.data }], guard := none }) (v := ?_) rfl (by kernel_rfl) (by kernel_rfl) (by kernel_rfl) (fun _ _ _ h => h) (Or.inl ⟨by rfl, ?_⟩) (by assumption) ?_
      rotate_left
      · (intro w hSw; (try dsimp only at hSw); (try unfold RX at hSw); go_simp; try with_reducible rfl)
      try simp only [Act.put, List.setIfInBounds_toArray, List.set_cons_zero, List.set_cons_succ]
      refine wpAnyH_take (i := 3) (oi := { dst := some 44, op := Op.move (Operand.tmp 43), type := 4, pos := "model.go:85", after := #[{ on := 2, ground := Ground.data }], guard := none }) (v := ?_) rfl (by kernel_rfl) (by kernel_rfl) (by kernel_rfl) (fun _ _ _ h => h) (Or.inl ⟨by rfl, ?_⟩) (by assumption) ?_
      rotate_left
      · (intro w hSw; (try dsimp only at hSw); (try unfold RX at hSw); go_simp; try with_reducible rfl)
      try simp only [Act.put, List.setIfInBounds_toArray, List.set_cons_zero, List.set_cons_succ]
      refine wpAnyH_take (i := 4) (oi := { dst := some 45, op := Op.fieldAddr 99 (Operand.tmp 6) 2, type := 0, pos := "model.go:85", after := #[{ on := 3, ground := Ground.guard }], guard := some (3, true) }) (v := ?_) rfl (by kernel_rfl) (by kernel_rfl) (by kernel_rfl) (fun _ _ _ h => h) (Or.inl ⟨by rfl, ?_⟩) (by assumption) ?_
      rotate_left
      · (intro w hSw; (try dsimp only at hSw); (try unfold RX at hSw); go_simp; try with_reducible rfl)
      try simp only [Act.put, List.setIfInBounds_toArray, List.set_cons_zero, List.set_cons_succ]
      refine wpAnyH_take (i := 5) (oi := { dst := some 46, op := Op.load 3 (Operand.tmp 45), type := 3, pos := "model.go:85", after := #[{ on := 4, ground := Ground.data }, { on := 3, ground := Ground.guard }], guard := some (3, true) }) (v := ?_) rfl (by kernel_rfl) (by kernel_rfl) (by kernel_rfl) (fun _ _ _ h => h) (Or.inl ⟨by rfl, ?_⟩) (by assumption) ?_
      rotate_left
      · (intro w hSw; (try dsimp only at hSw); (try unfold RX at hSw); go_simp; try with_reducible rfl)
      try simp only [Act.put, List.setIfInBounds_toArray, List.set_cons_zero, List.set_cons_succ]
      refine wpAnyH_take (i := 6) (oi := { dst := some 47, op := Op.binOp BinOp.neq 3 (Operand.tmp 46) (Operand.const (Value.int IntKind.i64 0)) 3, type := 4, pos := "model.go:85", after := #[{ on := 5, ground := Ground.data }, { on := 3, ground := Ground.guard }], guard := some (3, true) }) (v := ?_) rfl (by kernel_rfl) (by kernel_rfl) (by kernel_rfl) (fun _ _ _ h => h) (Or.inl ⟨by rfl, ?_⟩) (by assumption) ?_
      rotate_left
      · (intro w hSw; (try dsimp only at hSw); (try unfold RX at hSw); go_simp; try with_reducible rfl)
      try simp only [Act.put, List.setIfInBounds_toArray, List.set_cons_zero, List.set_cons_succ]
      refine wpAnyH_take (i := 7) (oi := { dst := some 48, op := Op.pick (Operand.tmp 44) (Operand.tmp 47) (Operand.const (Value.bool false)), type := 4, pos := "model.go:85", after := #[{ on := 3, ground := Ground.data }, { on := 6, ground := Ground.data }], guard := none }) (v := ?_) rfl (by kernel_rfl) (by kernel_rfl) (by kernel_rfl) (fun _ _ _ h => h) (Or.inl ⟨by rfl, ?_⟩) (by assumption) ?_
      rotate_left
      · (intro w hSw; (try dsimp only at hSw); (try unfold RX at hSw); go_simp; try with_reducible rfl)
      try simp only [Act.put, List.setIfInBounds_toArray, List.set_cons_zero, List.set_cons_succ]
      refine wpAnyH_take (i := 8) (oi := { dst := some 49, op := Op.move (Operand.tmp 48), type := 4, pos := "model.go:85", after := #[{ on := 7, ground := Ground.data }, { on := 3, ground := Ground.chain }], guard := none }) (v := ?_) rfl (by kernel_rfl) (by kernel_rfl) (by kernel_rfl) (fun _ _ _ h => h) (Or.inl ⟨by rfl, ?_⟩) (by assumption) ?_
      rotate_left
      · (intro w hSw; (try dsimp only at hSw); (try unfold RX at hSw); go_simp; try with_reducible rfl)
      try simp only [Act.put, List.setIfInBounds_toArray, List.set_cons_zero, List.set_cons_succ]
      refine wpAnyH_take (i := 9) (oi := { dst := some 50, op := Op.fieldAddr 99 (Operand.tmp 4) 1, type := 0, pos := "model.go:85", after := #[{ on := 8, ground := Ground.guard }], guard := some (8, true) }) (v := ?_) rfl (by kernel_rfl) (by kernel_rfl) (by kernel_rfl) (fun _ _ _ h => h) (Or.inl ⟨by rfl, ?_⟩) (by assumption) ?_
      rotate_left
      · (intro w hSw; (try dsimp only at hSw); (try unfold RX at hSw); go_simp; try with_reducible rfl)
      try simp only [Act.put, List.setIfInBounds_toArray, List.set_cons_zero, List.set_cons_succ]
      refine wpAnyH_take (i := 10) (oi := { dst := some 51, op := Op.load 25 (Operand.tmp 50), type := 25, pos := "model.go:85", after := #[{ on := 9, ground := Ground.data }, { on := 8, ground := Ground.guard }], guard := some (8, true) }) (v := ?_) rfl (by kernel_rfl) (by kernel_rfl) (by kernel_rfl) (fun _ _ _ h => h) (Or.inl ⟨by rfl, ?_⟩) (by assumption) ?_
      rotate_left
      · (intro w hSw; (try dsimp only at hSw); (try unfold RX at hSw); go_simp; try with_reducible rfl)
      try simp only [Act.put, List.setIfInBounds_toArray, List.set_cons_zero, List.set_cons_succ]
      refine wpAnyH_take (i := 11) (oi := { dst := some 52, op := Op.fieldAddr 99 (Operand.tmp 4) 2, type := 0, pos := "model.go:85", after := #[{ on := 8, ground := Ground.guard }], guard := some (8, true) }) (v := ?_) rfl (by kernel_rfl) (by kernel_rfl) (by kernel_rfl) (fun _ _ _ h => h) (Or.inl ⟨by rfl, ?_⟩) (by assumption) ?_
      rotate_left
      · (intro w hSw; (try dsimp only at hSw); (try unfold RX at hSw); go_simp; try with_reducible rfl)
      try simp only [Act.put, List.setIfInBounds_toArray, List.set_cons_zero, List.set_cons_succ]
      refine wpAnyH_take (i := 12) (oi := { dst := some 53, op := Op.load 3 (Operand.tmp 52), type := 3, pos := "model.go:85", after := #[{ on := 11, ground := Ground.data }, { on := 8, ground := Ground.guard }], guard := some (8, true) }) (v := ?_) rfl (by kernel_rfl) (by kernel_rfl) (by kernel_rfl) (fun _ _ _ h => h) (Or.inl ⟨by rfl, ?_⟩) (by assumption) ?_
      rotate_left
      · (intro w hSw; (try dsimp only at hSw); (try unfold RX at hSw); go_simp; try with_reducible rfl)
      try simp only [Act.put, List.setIfInBounds_toArray, List.set_cons_zero, List.set_cons_succ]
      refine wpAnyH_take (i := 14) (oi := { dst := some 55, op := Op.fieldAddr 99 (Operand.tmp 6) 1, type := 0, pos := "model.go:85", after := #[{ on := 8, ground := Ground.guard }], guard := some (8, true) }) (v := ?_) rfl (by kernel_rfl) (by kernel_rfl) (by kernel_rfl) (fun _ _ _ h => h) (Or.inl ⟨by rfl, ?_⟩) (by assumption) ?_
      rotate_left
      · (intro w hSw; (try dsimp only at hSw); (try unfold RX at hSw); go_simp; try with_reducible rfl)
      try simp only [Act.put, List.setIfInBounds_toArray, List.set_cons_zero, List.set_cons_succ]
      refine wpAnyH_take (i := 15) (oi := { dst := some 56, op := Op.load 25 (Operand.tmp 55), type := 25, pos := "model.go:85", after := #[{ on := 14, ground := Ground.data }, { on := 8, ground := Ground.guard }], guard := some (8, true) }) (v := ?_) rfl (by kernel_rfl) (by kernel_rfl) (by kernel_rfl) (fun _ _ _ h => h) (Or.inl ⟨by rfl, ?_⟩) (by assumption) ?_
      rotate_left
      · (intro w hSw; (try dsimp only at hSw); (try unfold RX at hSw); go_simp; try with_reducible rfl)
      try simp only [Act.put, List.setIfInBounds_toArray, List.set_cons_zero, List.set_cons_succ]
      refine wpAnyH_take (i := 16) (oi := { dst := some 57, op := Op.fieldAddr 99 (Operand.tmp 6) 2, type := 0, pos := "model.go:85", after := #[{ on := 8, ground := Ground.guard }], guard := some (8, true) }) (v := ?_) rfl (by kernel_rfl) (by kernel_rfl) (by kernel_rfl) (fun _ _ _ h => h) (Or.inl ⟨by rfl, ?_⟩) (by assumption) ?_
      rotate_left
      · (intro w hSw; (try dsimp only at hSw); (try unfold RX at hSw); go_simp; try with_reducible rfl)
      try simp only [Act.put, List.setIfInBounds_toArray, List.set_cons_zero, List.set_cons_succ]
      refine wpAnyH_take (i := 17) (oi := { dst := some 58, op := Op.load 3 (Operand.tmp 57), type := 3, pos := "model.go:85", after := #[{ on := 16, ground := Ground.data }, { on := 8, ground := Ground.guard }], guard := some (8, true) }) (v := ?_) rfl (by kernel_rfl) (by kernel_rfl) (by kernel_rfl) (fun _ _ _ h => h) (Or.inl ⟨by rfl, ?_⟩) (by assumption) ?_
      rotate_left
      · (intro w hSw; (try dsimp only at hSw); (try unfold RX at hSw); go_simp; try with_reducible rfl)
      try simp only [Act.put, List.setIfInBounds_toArray, List.set_cons_zero, List.set_cons_succ]
      refine wpAnyH_ready (rs := [13]) (by kernel_rfl) (by simp) ?_
      refine AllReadyH.cons (o := { dst := some 54, op := Op.call { callee := Callee.value (Operand.func 71), args := #[Operand.tmp 51, Operand.tmp 53], argTypes := #[25, 3] }, type := 27, pos := "model.go:85", after := #[{ on := 10, ground := Ground.data }, { on := 12, ground := Ground.data }, { on := 8, ground := Ground.chain }, { on := 8, ground := Ground.guard }], guard := some (8, true) }) rfl (fun K hK => ?_) AllReadyH.nil
      go_simp
      refine (PX.out _).mono ?_
      rintro e wa ⟨rfl, hb⟩
      refine hK.out _ _ (RX.keep hHeld hb) (fun hHeld => ?_)
      clear hK K
      try simp only [Act.put, List.setIfInBounds_toArray, List.set_cons_zero, List.set_cons_succ]
      refine wpAnyH_ready (rs := [18]) (by kernel_rfl) (by simp) ?_
      refine AllReadyH.cons (o := { dst := some 59, op := Op.call { callee := Callee.value (Operand.func 71), args := #[Operand.tmp 56, Operand.tmp 58], argTypes := #[25, 3] }, type := 27, pos := "model.go:85", after := #[{ on := 15, ground := Ground.data }, { on := 17, ground := Ground.data }, { on := 13, ground := Ground.chain }, { on := 8, ground := Ground.guard }], guard := some (8, true) }) rfl (fun K hK => ?_) AllReadyH.nil
      go_simp
      refine (PY.out _).mono ?_
      rintro e wb ⟨rfl, hb⟩
      refine hK.out _ _ (RX.keep hHeld hb) (fun hHeld => ?_)
      clear hK K
      try simp only [Act.put, List.setIfInBounds_toArray, List.set_cons_zero, List.set_cons_succ]
      refine wpAnyH_ready (rs := [19]) (by kernel_rfl) (by simp) ?_
      refine AllReadyH.cons (o := { dst := some 60, op := Op.call { callee := Callee.value (Operand.func 70), args := #[Operand.tmp 54, Operand.tmp 59], argTypes := #[27, 27] }, type := 4, pos := "model.go:85", after := #[{ on := 13, ground := Ground.data }, { on := 18, ground := Ground.data }, { on := 18, ground := Ground.chain }, { on := 8, ground := Ground.guard }], guard := some (8, true) }) rfl (fun K hK => ?_) AllReadyH.nil
      go_simp
      refine (PO.out _).mono ?_
      rintro e we ⟨rfl, hb⟩
      refine hK.out _ _ (RX.keep hHeld hb) (fun hHeld => ?_)
      clear hK K
      try simp only [Act.put, List.setIfInBounds_toArray, List.set_cons_zero, List.set_cons_succ]
      refine wpAnyH_take (i := 20) (oi := { dst := some 61, op := Op.pick (Operand.tmp 49) (Operand.tmp 60) (Operand.const (Value.bool false)), type := 4, pos := "model.go:85", after := #[{ on := 8, ground := Ground.data }, { on := 19, ground := Ground.data }], guard := none }) (v := ?_) rfl (by kernel_rfl) (by kernel_rfl) (by kernel_rfl) (fun _ _ _ h => h) (Or.inl ⟨by rfl, ?_⟩) (by assumption) ?_
      rotate_left
      · (intro w hSw; (try dsimp only at hSw); (try unfold RX at hSw); go_simp; try with_reducible rfl)
      try simp only [Act.put, List.setIfInBounds_toArray, List.set_cons_zero, List.set_cons_succ]
      refine wpAnyH_done (by kernel_rfl) ?_ _
      cases hov : overP px nx py ny with
      | false =>
        have C0 : Hid (clashB x y = false) := Lib.hid (by rw [CL.out, hov, dx', dy']; rfl)
        have EN : Hid ((r.ifs.take k).any (clashB x) = ((r.ifs.take k).drop (j + 1)).any (clashB x)) := Lib.hid (by rw [HAY.out, HST.out, C0.out]; rfl)
        have HF2 := Lib.hid hHeld
        clear hHeld
        go_wp2_with fail
        go_roundg (k - (j + 1))
        case measure => omega
        case rel => exact ⟨j + 1, by omega, by go_num, Lib.hid HF2.out.2.2.2.2.1, Lib.hid HF2.out.2.2.2.2.2, EN⟩
      | true =>
        have E6 : Hid (ifsE r.ifs = 6) := Lib.hid (by rw [HAN.out, HAY.out, HST.out, CL.out, hov, dx', dy']; rfl)
        have HF2 := Lib.hid hHeld
        clear hHeld
        go_wp2_with fail
        go_ret
        exact ⟨ret_int E6.out.symm, HF2.out.2.2.2.2.1.b⟩
end Go.Proofs.YtnhemjdmleilcaaGreatDoor
