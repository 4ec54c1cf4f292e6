/- The walk of checkRouteMaps. Conditions: the router lies in memory. -/
import Derived.Test.YtnhemjdmleilcaaGreatDoorModE
namespace Go.Proofs.YtnhemjdmleilcaaGreatDoor
open Go.RowKit

set_option maxRecDepth 100000 in
set_option maxHeartbeats 8000000 in
theorem checkRouteMaps_any (r : Rt) (w : World) (B : Nat) (h : r.at w B) (hB : B ≤ w.heap.size) : Calls Tryz.prog 34 #[.agg r.C] w fun e w' => e = .returned (.int .i64 (mapsE r.lists r.maps)) ∧ Below w.heap.size w w' := by
  have H0 := Lib.hid (RB.start r w)
  have HR := Lib.hid h
  have HBB := Lib.hid hB
  obtain ⟨A, c, hv, hle, -⟩ := h.hmaps
  have HL : Hid (∀ w', RB r w w' → w'.cell? ⟨w.heap.size, 4, none⟩ = some (.slice A r.maps.length c)) := Lib.hid (fun w' h => by rw [← hv]; exact h.h.cell 4)
  have HV := Lib.hid hv
  clear h hv hB
  have c2 := HL.out _ H0.out
  obtain ⟨res, hres⟩ : ∃ res, mapsE r.lists r.maps = res := ⟨_, rfl⟩
  rw [hres]
  by_cases h8 : 8 < r.maps.length
  · have E : Hid (res = 7) := Lib.hid (by rw [← hres]; exact if_pos h8)
    clear hres
    go_enter Tryz.func34, Tryz.ntmps34
    go_wp2_with fail
    go_ret
    exact ⟨ret_int E.out.symm, H0.out.b⟩
  have d8 : decide ((8 : Int) < r.maps.length) = false := by simp; omega
  have E : Hid (lsGo (·.name) (·.clauses.length) (fun (x : RMap) => firstE (clE r.lists) x.clauses) 8 r.maps r.maps 0 = res) := Lib.hid (by rw [← hres]; exact (if_neg h8).symm)
  clear hres
  go_enter Tryz.func34, Tryz.ntmps34
  go_wp2_with fail
  clear c2 d8
  go_loopg [15] r.maps.length (fun gh ix wr => ∃ k : Nat, k + gh = r.maps.length ∧ ix = .int .i64 k ∧ Hid (RB r w wr) ∧ Hid (lsGo (·.name) (·.clauses.length) (fun (x : RMap) => firstE (clE r.lists) x.clauses) 8 r.maps (r.maps.drop k) k = res))
  case atStart => exact ⟨0, by omega, rfl, H0, E⟩
  case round =>
    obtain ⟨k, hk, rfl, HW, HG⟩ := hrel
    clear H0 E
    by_cases hlt : k < r.maps.length
    case neg =>
      have E := Lib.hid (lsGo_end hlt HG.out)
      go_wp2_with fail
      go_ret
      exact ⟨ret_int E.out.symm, HW.out.b⟩
    have HAT := Lib.hid (lsGo_at hlt HG.out)
    obtain ⟨g, o, c', e', -, hg, R0⟩ := (HR.out.hmaps).elem (n := 2) (by decide) (fun _ => rfl) hlt
    rw [HV.out] at e'
    injection e' with e1 e2 e3
    subst e1 e3
    have R1 := Lib.hid (rangeBelow R0 (HW.out.b.mono HBB.out) hg)
    have HN := Lib.hid (HR.out.nmaps _ (List.getElem_mem hlt))
    clear R0 HG e2
    generalize r.maps[k] = x at HAT R1 HN
    obtain ⟨xn, xv, xs⟩ := x
    dsimp only at HAT HN
    obtain ⟨A2, c2, hv2, hle2, -⟩ := HN.out
    dsimp only at hv2 hle2
    subst hv2
    have k0 : wr.cell? ⟨g, o + k * 2, none⟩ = some (.string (str xn)) := R1.out 0 (.string (str xn)) rfl
    have k1 : wr.cell? ⟨g, o + k * 2 + 1, none⟩ = some (.slice A2 xs.length c2) := R1.out 1 _ rfl
    have S0 : RL r 126 xn (.slice A2 xs.length c2) wr.heap.size w (wr.alloc (.cells #[.string (str xn), .slice A2 xs.length c2] 126)).drew := by
      have hn := HasC.new wr 126 #[.string (str xn), .slice A2 xs.length c2]
      have hn2 := hn.keep (belowDrew _)
      exact ⟨hn2.cell 0, hn2.cell 1, (HW.out.keep ((Below.refl _ _).alloc (Nat.le_refl _) _)).keep (belowDrew _), hn2⟩
    have HS0 := Lib.hid S0
    clear S0 R1
    have PL := Lib.hid (fun w1 (hw1 : RB r w w1) => routeMap_any r xn w1 B (HR.out.below (hw1.b.mono HBB.out)) (Nat.le_trans HBB.out hw1.b.size))
    have PC := Lib.hid (fun w1 => checkList_any (k : Int) (idxF (fun y => y.name == xn) r.maps 0) xn (xs.length : Int) 8 w1)
    go_wp2_with fail
    clear k0 k1
    generalize hwz : wr.alloc (.cells #[.string (str xn), .slice A2 xs.length c2] 126) = wz at HS0 ⊢
    clear hwz HW
    generalize wr.heap.size = gx at HS0 ⊢
    refine wp_region_held_drew (S := fun w' => RL r 126 xn (.slice A2 xs.length c2) gx w w') (by kernel_rfl) (HS0.out) (fun hHeld => ?_)
    refine wpAnyH_take (i := 0) (oi := { dst := some 20, op := Op.move (Operand.tmp 3), type := 3, pos := "model.go:148", after := #[], guard := none }) (v := ?_) rfl (by kernel_rfl) (by kernel_rfl) (by kernel_rfl) (fun _ _ _ h => h) (Or.inl ⟨by rfl, ?_⟩) (by assumption) ?_
    rotate_left
    · (intro w hSw; (try dsimp only at hSw); (try unfold RL at hSw); go_simp; try with_reducible rfl)
    try simp only [Act.put, List.setIfInBounds_toArray, List.set_cons_zero, List.set_cons_succ]
    refine wpAnyH_take (i := 1) (oi := { dst := some 21, op := Op.load 69 (Operand.tmp 1), type := 69, pos := "model.go:148", after := #[], guard := none }) (v := .agg r.C) rfl (by kernel_rfl) (by kernel_rfl) (by kernel_rfl) (fun _ _ _ h => h) (yieldsRow (by rfl) 69 _ rfl rfl (fun _ h => h.2.2.1.h.range) Tryz.rowRt Tryz.sizeRt) (by assumption) ?_
    try simp only [Act.put, List.setIfInBounds_toArray, List.set_cons_zero, List.set_cons_succ]
    refine wpAnyH_take (i := 2) (oi := { dst := some 22, op := Op.fieldAddr 126 (Operand.tmp 4) 0, type := 0, pos := "model.go:148", after := #[], guard := none }) (v := ?_) rfl (by kernel_rfl) (by kernel_rfl) (by kernel_rfl) (fun _ _ _ h => h) (Or.inl ⟨by rfl, ?_⟩) (by assumption) ?_
    rotate_left
    · (intro w hSw; (try dsimp only at hSw); (try unfold RL at hSw); go_simp; try with_reducible rfl)
    try simp only [Act.put, List.setIfInBounds_toArray, List.set_cons_zero, List.set_cons_succ]
    refine wpAnyH_take (i := 3) (oi := { dst := some 23, op := Op.load 9 (Operand.tmp 22), type := 9, pos := "model.go:148", after := #[{ on := 2, ground := Ground.data }], guard := none }) (v := ?_) rfl (by kernel_rfl) (by kernel_rfl) (by kernel_rfl) (fun _ _ _ h => h) (Or.inl ⟨by rfl, ?_⟩) (by assumption) ?_
    rotate_left
    · (intro w hSw; (try dsimp only at hSw); (try unfold RL at hSw); go_simp; try with_reducible rfl)
    try simp only [Act.put, List.setIfInBounds_toArray, List.set_cons_zero, List.set_cons_succ]
    refine wpAnyH_take (i := 5) (oi := { dst := some 25, op := Op.fieldAddr 126 (Operand.tmp 4) 0, type := 0, pos := "model.go:148", after := #[], guard := none }) (v := ?_) rfl (by kernel_rfl) (by kernel_rfl) (by kernel_rfl) (fun _ _ _ h => h) (Or.inl ⟨by rfl, ?_⟩) (by assumption) ?_
    rotate_left
    · (intro w hSw; (try dsimp only at hSw); (try unfold RL at hSw); go_simp; try with_reducible rfl)
    try simp only [Act.put, List.setIfInBounds_toArray, List.set_cons_zero, List.set_cons_succ]
    refine wpAnyH_take (i := 6) (oi := { dst := some 26, op := Op.load 9 (Operand.tmp 25), type := 9, pos := "model.go:148", after := #[{ on := 5, ground := Ground.data }], guard := none }) (v := ?_) rfl (by kernel_rfl) (by kernel_rfl) (by kernel_rfl) (fun _ _ _ h => h) (Or.inl ⟨by rfl, ?_⟩) (by assumption) ?_
    rotate_left
    · (intro w hSw; (try dsimp only at hSw); (try unfold RL at hSw); go_simp; try with_reducible rfl)
    try simp only [Act.put, List.setIfInBounds_toArray, List.set_cons_zero, List.set_cons_succ]
    refine wpAnyH_take (i := 7) (oi := { dst := some 27, op := Op.fieldAddr 126 (Operand.tmp 4) 1, type := 0, pos := "model.go:148", after := #[], guard := none }) (v := ?_) rfl (by kernel_rfl) (by kernel_rfl) (by kernel_rfl) (fun _ _ _ h => h) (Or.inl ⟨by rfl, ?_⟩) (by assumption) ?_
    rotate_left
    · (intro w hSw; (try dsimp only at hSw); (try unfold RL at hSw); go_simp; try with_reducible rfl)
    try simp only [Act.put, List.setIfInBounds_toArray, List.set_cons_zero, List.set_cons_succ]
    refine wpAnyH_take (i := 8) (oi := { dst := some 28, op := Op.load 124 (Operand.tmp 27), type := 124, pos := "model.go:148", after := #[{ on := 7, ground := Ground.data }], guard := none }) (v := ?_) rfl (by kernel_rfl) (by kernel_rfl) (by kernel_rfl) (fun _ _ _ h => h) (Or.inl ⟨by rfl, ?_⟩) (by assumption) ?_
    rotate_left
    · (intro w hSw; (try dsimp only at hSw); (try unfold RL at hSw); go_simp; try with_reducible rfl)
    try simp only [Act.put, List.setIfInBounds_toArray, List.set_cons_zero, List.set_cons_succ]
    refine wpAnyH_take (i := 9) (oi := { dst := some 29, op := Op.call { callee := Callee.builtin Builtin.len, args := #[Operand.tmp 28], argTypes := #[124] }, type := 3, pos := "model.go:148", after := #[{ on := 8, ground := Ground.data }], guard := none }) (v := ?_) rfl (by kernel_rfl) (by kernel_rfl) (by kernel_rfl) (fun _ _ _ h => h) (Or.inl ⟨by rfl, ?_⟩) (by assumption) ?_
    rotate_left
    · (intro w hSw; (try dsimp only at hSw); (try unfold RL at hSw); go_simp; try with_reducible rfl)
    try simp only [Act.put, List.setIfInBounds_toArray, List.set_cons_zero, List.set_cons_succ]
    refine wpAnyH_ready (rs := [4]) (by kernel_rfl) (by simp) ?_
    refine AllReadyH.cons (o := { dst := some 24, op := Op.call { callee := Callee.value (Operand.func 74), args := #[Operand.tmp 21, Operand.tmp 23], argTypes := #[69, 9] }, type := 3, pos := "model.go:148", after := #[{ on := 1, ground := Ground.data }, { on := 3, ground := Ground.data }], guard := none }) rfl (fun K hK => ?_) AllReadyH.nil
    go_simp
    refine (PL.out _ hHeld.2.2.1).mono ?_
    rintro e wa ⟨rfl, hb⟩
    refine hK.out _ _ (RL.keep hHeld hb) (fun hHeld => ?_)
    clear hK K
    try simp only [Act.put, List.setIfInBounds_toArray, List.set_cons_zero, List.set_cons_succ]
    refine wpAnyH_ready (rs := [10]) (by kernel_rfl) (by simp) ?_
    refine AllReadyH.cons (o := { dst := some 30, op := Op.call { callee := Callee.value (Operand.func 72), args := #[Operand.tmp 20, Operand.tmp 24, Operand.tmp 26, Operand.tmp 29, Operand.const (Value.int IntKind.i64 8)], argTypes := #[3, 3, 9, 3, 3] }, type := 36, pos := "model.go:148", after := #[{ on := 0, ground := Ground.data }, { on := 4, ground := Ground.data }, { on := 6, ground := Ground.data }, { on := 9, ground := Ground.data }, { on := 4, ground := Ground.chain }], guard := none }) rfl (fun K hK => ?_) AllReadyH.nil
    go_simp
    refine (PC.out _).mono ?_
    rintro e wb ⟨rfl, rfl⟩
    refine hK.out _ _ hHeld (fun hHeld => ?_)
    clear hK K
    try simp only [Act.put, List.setIfInBounds_toArray, List.set_cons_zero, List.set_cons_succ]
    refine wpAnyH_take (i := 11) (oi := { dst := some 5, op := Op.assign (Operand.tmp 30), type := 36, pos := "model.go:148", after := #[{ on := 10, ground := Ground.data }, { on := 10, ground := Ground.chain }, { on := 0, ground := Ground.phase }, { on := 1, ground := Ground.phase }, { on := 2, ground := Ground.phase }, { on := 3, ground := Ground.phase }, { on := 4, ground := Ground.phase }, { on := 5, ground := Ground.phase }, { on := 6, ground := Ground.phase }, { on := 7, ground := Ground.phase }, { on := 8, ground := Ground.phase }, { on := 9, ground := Ground.phase }, { on := 10, ground := Ground.phase }], guard := none }) (v := ?_) rfl (by kernel_rfl) (by kernel_rfl) (by kernel_rfl) (fun _ _ _ h => h) (Or.inl ⟨by rfl, ?_⟩) (by assumption) ?_
    rotate_left
    · (intro w hSw; (try dsimp only at hSw); (try unfold RL at hSw); go_simp; try with_reducible rfl)
    try simp only [Act.put, List.setIfInBounds_toArray, List.set_cons_zero, List.set_cons_succ]
    refine wpAnyH_done (by kernel_rfl) ?_ _
    clear PL PC HS0
    rename_i wb _
    have H3 := Lib.hid hHeld
    clear hHeld
    by_cases he : listE (k : Int) (idxF (fun y => y.name == xn) r.maps 0) xn (xs.length : Int) 8 = 0
    case neg =>
      have E : Hid (res = listE (k : Int) (idxF (fun y => y.name == xn) r.maps 0) xn (xs.length : Int) 8) := Lib.hid (by rw [HAT.out, if_neg he])
      generalize listE (k : Int) (idxF (fun y => y.name == xn) r.maps 0) xn (xs.length : Int) 8 = le at *
      have dn : (le != 0) = true := by simpa using he
      clear HAT
      go_wp2_with fail
      go_ret
      exact ⟨ret_int E.out.symm, H3.out.2.2.1.b⟩
    have HAN : Hid (res = if firstE (clE r.lists) xs = 0 then lsGo (·.name) (·.clauses.length) (fun (x : RMap) => firstE (clE r.lists) x.clauses) 8 r.maps (r.maps.drop (k + 1)) (k + 1) else firstE (clE r.lists) xs) := Lib.hid (by rw [HAT.out, if_pos he])
    rw [he]
    clear he HAT
    have c1 := H3.out.2.1
    have hlen : xs.length ≤ 9223372036854775807 := by have := HN.out.len; simp only [maxLen] at this; exact Nat.le_trans this (by omega)
    go_wp2_with fail
    clear c1
    go_loopg [37] xs.length (fun gh ix wq => ∃ j : Nat, j + gh = xs.length ∧ ix = .int .i64 j ∧ Hid (RB r w wq) ∧ Hid (firstE (clE r.lists) (xs.drop j) = firstE (clE r.lists) xs))
    case atStart => exact ⟨0, by omega, rfl, Lib.hid H3.out.2.2.1, Lib.hid rfl⟩
    case round =>
      obtain ⟨j, hj, rfl, HQ, HAY⟩ := hrel
      by_cases hjl : j < xs.length
      case neg =>
        have E0 := firstE_end hjl HAY.out
        have E : Hid (lsGo (·.name) (·.clauses.length) (fun (x : RMap) => firstE (clE r.lists) x.clauses) 8 r.maps (r.maps.drop (k + 1)) (k + 1) = res) := Lib.hid (by rw [HAN.out, if_pos E0])
        clear E0
        go_wp2_with fail
        go_roundg (r.maps.length - (k + 1))
        case measure => omega
        case rel => exact ⟨k + 1, by omega, by go_num, HQ, E⟩
      have HYT := Lib.hid (firstE_at hjl HAY.out)
      obtain ⟨g', o', c'', e', -, hg', R0⟩ := HN.out.elem (n := 7) (by decide) (fun _ => rfl) hjl
      dsimp only at e'
      injection e' with e1 e2 e3
      subst e1 e3
      have r1 := Lib.hid (rangeBelow R0 (HQ.out.b.mono HBB.out) hg')
      clear R0 e2
      generalize xs[j] = y at HYT r1
      go_upto_region 12 with (first | (refine wpList_loadRow rfl 128 _ rfl rfl r1.out Tryz.rowCl Tryz.sizeCl ?_) | (refine wpList_storeRow rfl 128 _ _ rfl rfl rfl (HasC.new wr _ _) rfl Tryz.sizeCl (Cl.one y) ?_; intro w5 hz1 hz2))
      have H5 := Lib.hid (HQ.out.keep (new_below hz2))
      have Y5 := hz1
      clear hz1 hz2 r1 HQ
      generalize wr.heap.size = gy at Y5 ⊢
      replace Y5 := Lib.hid Y5
      obtain ⟨permit, list, tag, setM, setT, setP, prep⟩ := y
      have y1 : w5.cell? ⟨gy, 1, none⟩ = some (.string (str list)) := Y5.out.cell 1
      have PE : Hid (clE r.lists ⟨permit, list, tag, setM, setT, setP, prep⟩ = if !list.isEmpty && decide (idxF (fun y => y.name == list) r.lists 0 < 0) then 5 else if rightCl ⟨permit, list, tag, setM, setT, setP, prep⟩ then 0 else 1) := Lib.hid rfl
      have PN := Lib.hid (prefixList_any r list w5 B (HR.out.below (H5.out.b.mono HBB.out)) (Nat.le_trans HBB.out H5.out.b.size))
      have tl := toList_str list
      by_cases hl : list = []
      · subst hl
        have F5 : Hid (clE r.lists ⟨permit, [], tag, setM, setT, setP, prep⟩ = if rightCl ⟨permit, [], tag, setM, setT, setP, prep⟩ then 0 else 1) := Lib.hid (by rw [PE.out]; rfl)
        go_wp2_with (first | (refine wpList_loadRow rfl 128 _ rfl rfl Y5.out.range Tryz.rowCl Tryz.sizeCl ?_))
        with_reducible refine (rightClause_any ⟨permit, [], tag, setM, setT, setP, prep⟩ _).mono ?_
        rintro e w8 ⟨rfl, hb⟩
        have H8 := Lib.hid (H5.out.keep hb)
        clear hb
        cases hv : rightCl ⟨permit, [], tag, setM, setT, setP, prep⟩ with
        | false =>
          have F1 : Hid (clE r.lists ⟨permit, [], tag, setM, setT, setP, prep⟩ = 1) := Lib.hid (by rw [F5.out, hv]; rfl)
          have E : Hid (res = 1) := Lib.hid (inner_fail HAN.out HYT.out (by rw [F1.out]; decide) |>.trans (F1.out))
          go_wp2_with fail
          go_ret
          exact ⟨ret_int E.out.symm, H8.out.b⟩
        | true =>
          have F0 : Hid (clE r.lists ⟨permit, [], tag, setM, setT, setP, prep⟩ = 0) := Lib.hid (by rw [F5.out, hv]; rfl)
          have E : Hid (firstE (clE r.lists) (xs.drop (j + 1)) = firstE (clE r.lists) xs) := Lib.hid (inner_next HYT.out (F0.out))
          go_wp2_with fail
          go_roundg (xs.length - (j + 1))
          case measure => omega
          case rel => exact ⟨j + 1, by omega, by go_num, H8, E⟩
      have hne : list.isEmpty = false := by cases list with | nil => exact absurd rfl hl | cons => rfl
      have tn : ((str list).toList == []) = false := by rw [tl]; cases list with | nil => exact absurd rfl hl | cons => rfl
      have tn2 : ((str list).toList != []) = true := by rw [tl]; cases list with | nil => exact absurd rfl hl | cons => rfl
      clear tl
      go_wp2_with (first | (refine wpList_unguard (by rfl) (wpList_loadRow rfl 69 _ rfl rfl H5.out.h.range Tryz.rowRt Tryz.sizeRt ?_)))
      with_reducible refine PN.out.mono ?_
      rintro e w6 ⟨rfl, hb⟩
      have H6 := Lib.hid (H5.out.keep hb)
      have Y6 := Lib.hid (Y5.out.keep hb)
      clear hb H5 Y5 y1
      by_cases hi : idxF (fun y => y.name == list) r.lists 0 < 0
      · have di := decide_eq_true hi
        have F1 : Hid (clE r.lists ⟨permit, list, tag, setM, setT, setP, prep⟩ = 5) := Lib.hid (by rw [PE.out, hne, di]; rfl)
        clear hi
        have E : Hid (res = 5) := Lib.hid (inner_fail HAN.out HYT.out (by rw [F1.out]; decide) |>.trans (F1.out))
        go_wp2_with fail
        go_ret
        exact ⟨ret_int E.out.symm, H6.out.b⟩
      have di := decide_eq_false hi
      have F5 : Hid (clE r.lists ⟨permit, list, tag, setM, setT, setP, prep⟩ = if rightCl ⟨permit, list, tag, setM, setT, setP, prep⟩ then 0 else 1) := Lib.hid (by rw [PE.out, hne, di]; rfl)
      clear hi
      go_wp2_with (first | (refine wpList_loadRow rfl 128 _ rfl rfl Y6.out.range Tryz.rowCl Tryz.sizeCl ?_))
      with_reducible refine (rightClause_any ⟨permit, list, tag, setM, setT, setP, prep⟩ _).mono ?_
      rintro e w8 ⟨rfl, hb⟩
      have H8 := Lib.hid (H6.out.keep hb)
      clear hb
      cases hv : rightCl ⟨permit, list, tag, setM, setT, setP, prep⟩ with
      | false =>
        have F1 : Hid (clE r.lists ⟨permit, list, tag, setM, setT, setP, prep⟩ = 1) := Lib.hid (by rw [F5.out, hv]; rfl)
        have E : Hid (res = 1) := Lib.hid (inner_fail HAN.out HYT.out (by rw [F1.out]; decide) |>.trans (F1.out))
        go_wp2_with fail
        go_ret
        exact ⟨ret_int E.out.symm, H8.out.b⟩
      | true =>
        have F0 : Hid (clE r.lists ⟨permit, list, tag, setM, setT, setP, prep⟩ = 0) := Lib.hid (by rw [F5.out, hv]; rfl)
        have E : Hid (firstE (clE r.lists) (xs.drop (j + 1)) = firstE (clE r.lists) xs) := Lib.hid (inner_next HYT.out (F0.out))
        go_wp2_with fail
        go_roundg (xs.length - (j + 1))
        case measure => omega
        case rel => exact ⟨j + 1, by omega, by go_num, H8, E⟩
end Go.Proofs.YtnhemjdmleilcaaGreatDoor
