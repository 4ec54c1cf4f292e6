/- The walks of rightTranslation and checkNAT. Condition: the router lies in memory. -/
import Derived.Test.YtmddfkpkddemnaaGreatDoorUai
namespace Go.Proofs.YtmddfkpkddemnaaGreatDoor
open Go.RowKit
set_option maxRecDepth 100000 in
set_option maxHeartbeats 8000000 in
theorem checkRouteMaps_any (r : Rt) (w : World) (B : Nat) (h : r.at w B) (hB : B ≤ w.heap.size) : Calls Tryz.prog 92 #[.agg r.C] w fun e w' => e = .returned (.int .i64 (mapsE r.lists r.maps)) ∧ Below w.heap.size w w' := by
  have H0 := Lib.hid (RB.start r w)
  have HR := Lib.hid h
  have HBB := Lib.hid hB
  obtain ⟨A, c, hv, hle, -⟩ := h.hmaps
  have HL : Hid (∀ w', RB r w w' → w'.cell? ⟨w.heap.size, 4, none⟩ = some (.slice A r.maps.length c)) := Lib.hid (fun w' h => by rw [← hv]; exact h.h.cell 4)
  have HV := Lib.hid hv
  clear h hv hB
  have c2 := HL.out _ H0.out
  obtain ⟨res, hres⟩ : ∃ res, mapsE r.lists r.maps = res := ⟨_, rfl⟩
  rw [hres]
  by_cases h8 : 8 < r.maps.length
  · have E : Hid (res = 7) := Lib.hid (by rw [← hres]; exact if_pos h8)
    clear hres
    go_enter Tryz.func92, Tryz.ntmps92
    go_wp2_with fail
    go_ret
    exact ⟨ret_int E.out.symm, H0.out.b⟩
  have d8 : decide ((8 : Int) < r.maps.length) = false := by simp; omega
  have E : Hid (lsGo (·.name) (·.clauses.length) (fun (x : RMap) => firstE (clE r.lists) x.clauses) 8 r.maps r.maps 0 = res) := Lib.hid (by rw [← hres]; exact (if_neg h8).symm)
  clear hres
  go_enter Tryz.func92, Tryz.ntmps92
  go_wp2_with fail
  clear c2 d8
  go_loopg [15] r.maps.length (fun gh ix wr => ∃ k : Nat, k + gh = r.maps.length ∧ ix = .int .i64 k ∧ Hid (RB r w wr) ∧ Hid (lsGo (·.name) (·.clauses.length) (fun (x : RMap) => firstE (clE r.lists) x.clauses) 8 r.maps (r.maps.drop k) k = res))
  case atStart => exact ⟨0, by omega, rfl, H0, E⟩
  case round =>
    obtain ⟨k, hk, rfl, HW, HG⟩ := hrel
    clear H0 E
    by_cases hlt : k < r.maps.length
    case neg =>
      have E := Lib.hid (lsGo_end hlt HG.out)
      go_wp2_with fail
      go_ret
      exact ⟨ret_int E.out.symm, HW.out.b⟩
    have HAT := Lib.hid (lsGo_at hlt HG.out)
    obtain ⟨g, o, c', e', -, hg, R0⟩ := (HR.out.hmaps).elem (n := 2) (by decide) (fun _ => rfl) hlt
    rw [HV.out] at e'
    injection e' with e1 e2 e3
    subst e1 e3
    have R1 := Lib.hid (rangeBelow R0 (HW.out.b.mono HBB.out) hg)
    have HN := Lib.hid (HR.out.nmaps _ (List.getElem_mem hlt))
    clear R0 HG e2
    generalize r.maps[k] = x at HAT R1 HN
    obtain ⟨xn, xv, xs⟩ := x
    dsimp only at HAT HN
    obtain ⟨A2, c2, hv2, hle2, -⟩ := HN.out
    dsimp only at hv2 hle2
    subst hv2
    have k0 : wr.cell? ⟨g, o + k * 2, none⟩ = some (.string (str xn)) := R1.out 0 (.string (str xn)) rfl
    have k1 : wr.cell? ⟨g, o + k * 2 + 1, none⟩ = some (.slice A2 xs.length c2) := R1.out 1 _ rfl
    have S0 : RL r 108 xn (.slice A2 xs.length c2) wr.heap.size w (wr.alloc (.cells #[.string (str xn), .slice A2 xs.length c2] 108)).drew := by
      have hn := HasC.new wr 108 #[.string (str xn), .slice A2 xs.length c2]
      have hn2 := hn.keep (belowDrew _)
      exact ⟨hn2.cell 0, hn2.cell 1, (HW.out.keep ((Below.refl _ _).alloc (Nat.le_refl _) _)).keep (belowDrew _), hn2⟩
    have HS0 := Lib.hid S0
    clear S0 R1
    have PL := Lib.hid (fun w1 (hw1 : RB r w w1) => routeMap_any r xn w1 B (HR.out.below (hw1.b.mono HBB.out)) (Nat.le_trans HBB.out hw1.b.size))
    have PC := Lib.hid (fun w1 => checkList_any (k : Int) (idxF (fun y => y.name == xn) r.maps 0) xn (xs.length : Int) 8 w1)
    go_wp2_with fail
    clear k0 k1
    generalize hwz : wr.alloc (.cells #[.string (str xn), .slice A2 xs.length c2] 108) = wz at HS0 ⊢
    clear hwz HW
    generalize wr.heap.size = gx at HS0 ⊢
    refine wp_region_held_drew (S := fun w' => RL r 108 xn (.slice A2 xs.length c2) gx w w') (by kernel_rfl) (HS0.out) (fun hHeld => ?_)
    refine wpAnyH_take (i := 0) (oi := { dst := some 20, op := Op.move (Operand.tmp 3), type := 3, pos := "model.go:148", after := #[], guard := none }) (v := ?_) rfl (by kernel_rfl) (by kernel_rfl) (by kernel_rfl) (fun _ _ _ h => h) (Or.inl ⟨by rfl, ?_⟩) (by assumption) ?_
    rotate_left
    · (intro w hSw; (try dsimp only at hSw); (try unfold RL at hSw); go_simp; try with_reducible rfl)
    try simp only [Act.put, List.setIfInBounds_toArray, List.set_cons_zero, List.set_cons_succ]
    refine wpAnyH_take (i := 1) (oi := { dst := some 21, op := Op.load 41 (Operand.tmp 1), type := 41, pos := "model.go:148", after := #[], guard := none }) (v := .agg r.C) rfl (by kernel_rfl) (by kernel_rfl) (by kernel_rfl) (fun _ _ _ h => h) (yieldsRow (by rfl) 41 _ rfl rfl (fun _ h => h.2.2.1.h.range) Tryz.rowRt Tryz.sizeRt) (by assumption) ?_
    try simp only [Act.put, List.setIfInBounds_toArray, List.set_cons_zero, List.set_cons_succ]
    refine wpAnyH_take (i := 2) (oi := { dst := some 22, op := Op.fieldAddr 108 (Operand.tmp 4) 0, type := 0, pos := "model.go:148", after := #[], guard := none }) (v := ?_) rfl (by kernel_rfl) (by kernel_rfl) (by kernel_rfl) (fun _ _ _ h => h) (Or.inl ⟨by rfl, ?_⟩) (by assumption) ?_
    rotate_left
    · (intro w hSw; (try dsimp only at hSw); (try unfold RL at hSw); go_simp; try with_reducible rfl)
    try simp only [Act.put, List.setIfInBounds_toArray, List.set_cons_zero, List.set_cons_succ]
    refine wpAnyH_take (i := 3) (oi := { dst := some 23, op := Op.load 9 (Operand.tmp 22), type := 9, pos := "model.go:148", after := #[{ on := 2, ground := Ground.data }], guard := none }) (v := ?_) rfl (by kernel_rfl) (by kernel_rfl) (by kernel_rfl) (fun _ _ _ h => h) (Or.inl ⟨by rfl, ?_⟩) (by assumption) ?_
    rotate_left
    · (intro w hSw; (try dsimp only at hSw); (try unfold RL at hSw); go_simp; try with_reducible rfl)
    try simp only [Act.put, List.setIfInBounds_toArray, List.set_cons_zero, List.set_cons_succ]
    refine wpAnyH_take (i := 5) (oi := { dst := some 25, op := Op.fieldAddr 108 (Operand.tmp 4) 0, type := 0, pos := "model.go:148", after := #[], guard := none }) (v := ?_) rfl (by kernel_rfl) (by kernel_rfl) (by kernel_rfl) (fun _ _ _ h => h) (Or.inl ⟨by rfl, ?_⟩) (by assumption) ?_
    rotate_left
    · (intro w hSw; (try dsimp only at hSw); (try unfold RL at hSw); go_simp; try with_reducible rfl)
    try simp only [Act.put, List.setIfInBounds_toArray, List.set_cons_zero, List.set_cons_succ]
    refine wpAnyH_take (i := 6) (oi := { dst := some 26, op := Op.load 9 (Operand.tmp 25), type := 9, pos := "model.go:148", after := #[{ on := 5, ground := Ground.data }], guard := none }) (v := ?_) rfl (by kernel_rfl) (by kernel_rfl) (by kernel_rfl) (fun _ _ _ h => h) (Or.inl ⟨by rfl, ?_⟩) (by assumption) ?_
    rotate_left
    · (intro w hSw; (try dsimp only at hSw); (try unfold RL at hSw); go_simp; try with_reducible rfl)
    try simp only [Act.put, List.setIfInBounds_toArray, List.set_cons_zero, List.set_cons_succ]
    refine wpAnyH_take (i := 7) (oi := { dst := some 27, op := Op.fieldAddr 108 (Operand.tmp 4) 1, type := 0, pos := "model.go:148", after := #[], guard := none }) (v := ?_) rfl (by kernel_rfl) (by kernel_rfl) (by kernel_rfl) (fun _ _ _ h => h) (Or.inl ⟨by rfl, ?_⟩) (by assumption) ?_
    rotate_left
    · (intro w hSw; (try dsimp only at hSw); (try unfold RL at hSw); go_simp; try with_reducible rfl)
    try simp only [Act.put, List.setIfInBounds_toArray, List.set_cons_zero, List.set_cons_succ]
    refine wpAnyH_take (i := 8) (oi := { dst := some 28, op := Op.load 106 (Operand.tmp 27), type := 106, pos := "model.go:148", after := #[{ on := 7, ground := Ground.data }], guard := none }) (v := ?_) rfl (by kernel_rfl) (by kernel_rfl) (by kernel_rfl) (fun _ _ _ h => h) (Or.inl ⟨by rfl, ?_⟩) (by assumption) ?_
    rotate_left
    · (intro w hSw; (try dsimp only at hSw); (try unfold RL at hSw); go_simp; try with_reducible rfl)
    try simp only [Act.put, List.setIfInBounds_toArray, List.set_cons_zero, List.set_cons_succ]
    refine wpAnyH_take (i := 9) (oi := { dst := some 29, op := Op.call { callee := Callee.builtin Builtin.len, args := #[Operand.tmp 28], argTypes := #[106] }, type := 3, pos := "model.go:148", after := #[{ on := 8, ground := Ground.data }], guard := none }) (v := ?_) rfl (by kernel_rfl) (by kernel_rfl) (by kernel_rfl) (fun _ _ _ h => h) (Or.inl ⟨by rfl, ?_⟩) (by assumption) ?_
    rotate_left
    · (intro w hSw; (try dsimp only at hSw); (try unfold RL at hSw); go_simp; try with_reducible rfl)
    try simp only [Act.put, List.setIfInBounds_toArray, List.set_cons_zero, List.set_cons_succ]
    refine wpAnyH_ready (rs := [4]) (by kernel_rfl) (by simp) ?_
    refine AllReadyH.cons (o := { dst := some 24, op := Op.call { callee := Callee.value (Operand.func 154), args := #[Operand.tmp 21, Operand.tmp 23], argTypes := #[41, 9] }, type := 3, pos := "model.go:148", after := #[{ on := 1, ground := Ground.data }, { on := 3, ground := Ground.data }], guard := none }) rfl (fun K hK => ?_) AllReadyH.nil
    go_simp
    refine (PL.out _ hHeld.2.2.1).mono ?_
    rintro e wa ⟨rfl, hb⟩
    refine hK.out _ _ (RL.keep hHeld hb) (fun hHeld => ?_)
    clear hK K
    try simp only [Act.put, List.setIfInBounds_toArray, List.set_cons_zero, List.set_cons_succ]
    refine wpAnyH_ready (rs := [10]) (by kernel_rfl) (by simp) ?_
    refine AllReadyH.cons (o := { dst := some 30, op := Op.call { callee := Callee.value (Operand.func 151), args := #[Operand.tmp 20, Operand.tmp 24, Operand.tmp 26, Operand.tmp 29, Operand.const (Value.int IntKind.i64 8)], argTypes := #[3, 3, 9, 3, 3] }, type := 42, pos := "model.go:148", after := #[{ on := 0, ground := Ground.data }, { on := 4, ground := Ground.data }, { on := 6, ground := Ground.data }, { on := 9, ground := Ground.data }, { on := 4, ground := Ground.chain }], guard := none }) rfl (fun K hK => ?_) AllReadyH.nil
    go_simp
    refine (PC.out _).mono ?_
    rintro e wb ⟨rfl, rfl⟩
    refine hK.out _ _ hHeld (fun hHeld => ?_)
    clear hK K
    try simp only [Act.put, List.setIfInBounds_toArray, List.set_cons_zero, List.set_cons_succ]
    refine wpAnyH_take (i := 11) (oi := { dst := some 5, op := Op.assign (Operand.tmp 30), type := 42, pos := "model.go:148", after := #[{ on := 10, ground := Ground.data }, { on := 10, ground := Ground.chain }, { on := 0, ground := Ground.phase }, { on := 1, ground := Ground.phase }, { on := 2, ground := Ground.phase }, { on := 3, ground := Ground.phase }, { on := 4, ground := Ground.phase }, { on := 5, ground := Ground.phase }, { on := 6, ground := Ground.phase }, { on := 7, ground := Ground.phase }, { on := 8, ground := Ground.phase }, { on := 9, ground := Ground.phase }, { on := 10, ground := Ground.phase }], guard := none }) (v := ?_) rfl (by kernel_rfl) (by kernel_rfl) (by kernel_rfl) (fun _ _ _ h => h) (Or.inl ⟨by rfl, ?_⟩) (by assumption) ?_
    rotate_left
    · (intro w hSw; (try dsimp only at hSw); (try unfold RL at hSw); go_simp; try with_reducible rfl)
    try simp only [Act.put, List.setIfInBounds_toArray, List.set_cons_zero, List.set_cons_succ]
    refine wpAnyH_done (by kernel_rfl) ?_ _
    clear PL PC HS0
    rename_i wb _
    have H3 := Lib.hid hHeld
    clear hHeld
    by_cases he : listE (k : Int) (idxF (fun y => y.name == xn) r.maps 0) xn (xs.length : Int) 8 = 0
    case neg =>
      have E : Hid (res = listE (k : Int) (idxF (fun y => y.name == xn) r.maps 0) xn (xs.length : Int) 8) := Lib.hid (by rw [HAT.out, if_neg he])
      generalize listE (k : Int) (idxF (fun y => y.name == xn) r.maps 0) xn (xs.length : Int) 8 = le at *
      have dn : (le != 0) = true := by simpa using he
      clear HAT
      go_wp2_with fail
      go_ret
      exact ⟨ret_int E.out.symm, H3.out.2.2.1.b⟩
    have HAN : Hid (res = if firstE (clE r.lists) xs = 0 then lsGo (·.name) (·.clauses.length) (fun (x : RMap) => firstE (clE r.lists) x.clauses) 8 r.maps (r.maps.drop (k + 1)) (k + 1) else firstE (clE r.lists) xs) := Lib.hid (by rw [HAT.out, if_pos he])
    rw [he]
    clear he HAT
    have c1 := H3.out.2.1
    have hlen : xs.length ≤ 9223372036854775807 := by have := HN.out.len; simp only [maxLen] at this; exact Nat.le_trans this (by omega)
    go_wp2_with fail
    clear c1
    go_loopg [37] xs.length (fun gh ix wq => ∃ j : Nat, j + gh = xs.length ∧ ix = .int .i64 j ∧ Hid (RB r w wq) ∧ Hid (firstE (clE r.lists) (xs.drop j) = firstE (clE r.lists) xs))
    case atStart => exact ⟨0, by omega, rfl, Lib.hid H3.out.2.2.1, Lib.hid rfl⟩
    case round =>
      obtain ⟨j, hj, rfl, HQ, HAY⟩ := hrel
      by_cases hjl : j < xs.length
      case neg =>
        have E0 := firstE_end hjl HAY.out
        have E : Hid (lsGo (·.name) (·.clauses.length) (fun (x : RMap) => firstE (clE r.lists) x.clauses) 8 r.maps (r.maps.drop (k + 1)) (k + 1) = res) := Lib.hid (by rw [HAN.out, if_pos E0])
        clear E0
        go_wp2_with fail
        go_roundg (r.maps.length - (k + 1))
        case measure => omega
        case rel => exact ⟨k + 1, by omega, by go_num, HQ, E⟩
      have HYT := Lib.hid (firstE_at hjl HAY.out)
      obtain ⟨g', o', c'', e', -, hg', R0⟩ := HN.out.elem (n := 7) (by decide) (fun _ => rfl) hjl
      dsimp only at e'
      injection e' with e1 e2 e3
      subst e1 e3
      have r1 := Lib.hid (rangeBelow R0 (HQ.out.b.mono HBB.out) hg')
      clear R0 e2
      generalize xs[j] = y at HYT r1
      go_upto_region 12 with (first | (refine wpList_loadRow rfl 110 _ rfl rfl r1.out Tryz.rowCl Tryz.sizeCl ?_) | (refine wpList_storeRow rfl 110 _ _ rfl rfl rfl (HasC.new wr _ _) rfl Tryz.sizeCl (Cl.one y) ?_; intro w5 hz1 hz2))
      have H5 := Lib.hid (HQ.out.keep (new_below hz2))
      have Y5 := hz1
      clear hz1 hz2 r1 HQ
      generalize wr.heap.size = gy at Y5 ⊢
      replace Y5 := Lib.hid Y5
      obtain ⟨permit, list, tag, setM, setT, setP, prep⟩ := y
      have y1 : w5.cell? ⟨gy, 1, none⟩ = some (.string (str list)) := Y5.out.cell 1
      have PE : Hid (clE r.lists ⟨permit, list, tag, setM, setT, setP, prep⟩ = if !list.isEmpty && decide (idxF (fun y => y.name == list) r.lists 0 < 0) then 5 else if rightCl ⟨permit, list, tag, setM, setT, setP, prep⟩ then 0 else 1) := Lib.hid rfl
      have PN := Lib.hid (prefixList_any r list w5 B (HR.out.below (H5.out.b.mono HBB.out)) (Nat.le_trans HBB.out H5.out.b.size))
      have tl := toList_str list
      by_cases hl : list = []
      · subst hl
        have F5 : Hid (clE r.lists ⟨permit, [], tag, setM, setT, setP, prep⟩ = if rightCl ⟨permit, [], tag, setM, setT, setP, prep⟩ then 0 else 1) := Lib.hid (by rw [PE.out]; rfl)
        go_wp2_with (first | (refine wpList_loadRow rfl 110 _ rfl rfl Y5.out.range Tryz.rowCl Tryz.sizeCl ?_))
        with_reducible refine (rightClause_any ⟨permit, [], tag, setM, setT, setP, prep⟩ _).mono ?_
        rintro e w8 ⟨rfl, hb⟩
        have H8 := Lib.hid (H5.out.keep hb)
        clear hb
        cases hv : rightCl ⟨permit, [], tag, setM, setT, setP, prep⟩ with
        | false =>
          have F1 : Hid (clE r.lists ⟨permit, [], tag, setM, setT, setP, prep⟩ = 1) := Lib.hid (by rw [F5.out, hv]; rfl)
          have E : Hid (res = 1) := Lib.hid (inner_fail HAN.out HYT.out (by rw [F1.out]; decide) |>.trans (F1.out))
          go_wp2_with fail
          go_ret
          exact ⟨ret_int E.out.symm, H8.out.b⟩
        | true =>
          have F0 : Hid (clE r.lists ⟨permit, [], tag, setM, setT, setP, prep⟩ = 0) := Lib.hid (by rw [F5.out, hv]; rfl)
          have E : Hid (firstE (clE r.lists) (xs.drop (j + 1)) = firstE (clE r.lists) xs) := Lib.hid (inner_next HYT.out (F0.out))
          go_wp2_with fail
          go_roundg (xs.length - (j + 1))
          case measure => omega
          case rel => exact ⟨j + 1, by omega, by go_num, H8, E⟩
      have hne : list.isEmpty = false := by cases list with | nil => exact absurd rfl hl | cons => rfl
      have tn : ((str list).toList == []) = false := by rw [tl]; cases list with | nil => exact absurd rfl hl | cons => rfl
      have tn2 : ((str list).toList != []) = true := by rw [tl]; cases list with | nil => exact absurd rfl hl | cons => rfl
      clear tl
      go_wp2_with (first | (refine wpList_unguard (by rfl) (wpList_loadRow rfl 41 _ rfl rfl H5.out.h.range Tryz.rowRt Tryz.sizeRt ?_)))
      with_reducible refine PN.out.mono ?_
      rintro e w6 ⟨rfl, hb⟩
      have H6 := Lib.hid (H5.out.keep hb)
      have Y6 := Lib.hid (Y5.out.keep hb)
      clear hb H5 Y5 y1
      by_cases hi : idxF (fun y => y.name == list) r.lists 0 < 0
      · have di := decide_eq_true hi
        have F1 : Hid (clE r.lists ⟨permit, list, tag, setM, setT, setP, prep⟩ = 5) := Lib.hid (by rw [PE.out, hne, di]; rfl)
        clear hi
        have E : Hid (res = 5) := Lib.hid (inner_fail HAN.out HYT.out (by rw [F1.out]; decide) |>.trans (F1.out))
        go_wp2_with fail
        go_ret
        exact ⟨ret_int E.out.symm, H6.out.b⟩
      have di := decide_eq_false hi
      have F5 : Hid (clE r.lists ⟨permit, list, tag, setM, setT, setP, prep⟩ = if rightCl ⟨permit, list, tag, setM, setT, setP, prep⟩ then 0 else 1) := Lib.hid (by rw [PE.out, hne, di]; rfl)
      clear hi
      go_wp2_with (first | (refine wpList_loadRow rfl 110 _ rfl rfl Y6.out.range Tryz.rowCl Tryz.sizeCl ?_))
      with_reducible refine (rightClause_any ⟨permit, list, tag, setM, setT, setP, prep⟩ _).mono ?_
      rintro e w8 ⟨rfl, hb⟩
      have H8 := Lib.hid (H6.out.keep hb)
      clear hb
      cases hv : rightCl ⟨permit, list, tag, setM, setT, setP, prep⟩ with
      | false =>
        have F1 : Hid (clE r.lists ⟨permit, list, tag, setM, setT, setP, prep⟩ = 1) := Lib.hid (by rw [F5.out, hv]; rfl)
        have E : Hid (res = 1) := Lib.hid (inner_fail HAN.out HYT.out (by rw [F1.out]; decide) |>.trans (F1.out))
        go_wp2_with fail
        go_ret
        exact ⟨ret_int E.out.symm, H8.out.b⟩
      | true =>
        have F0 : Hid (clE r.lists ⟨permit, list, tag, setM, setT, setP, prep⟩ = 0) := Lib.hid (by rw [F5.out, hv]; rfl)
        have E : Hid (firstE (clE r.lists) (xs.drop (j + 1)) = firstE (clE r.lists) xs) := Lib.hid (inner_next HYT.out (F0.out))
        go_wp2_with fail
        go_roundg (xs.length - (j + 1))
        case measure => omega
        case rel => exact ⟨j + 1, by omega, by go_num, H8, E⟩
end Go.Proofs.YtmddfkpkddemnaaGreatDoor
namespace Go.Proofs.YtmddfkpkddemnaaGreatDoor
open Go.RowKit
/-- A name that no list has. -/
def lacksB {α : Type} (name : α → List UInt8) (l : List α) (n : List UInt8) : Bool := !n.isEmpty && decide (idxF (fun y => name y == n) l 0 < 0)
def filtE (acls : List AList) (x : If) : Int := if lacksB (·.name) acls x.inn || lacksB (·.name) acls x.out then 5 else 0
theorem ne_str {l : List UInt8} (h : l ≠ []) : l.isEmpty = false ∧ ((str l).toList == []) = false ∧ ((str l).toList != []) = true := by
  rw [toList_str]
  cases l with
  | nil => exact absurd rfl h
  | cons => exact ⟨rfl, rfl, rfl⟩
set_option maxRecDepth 100000 in
set_option maxHeartbeats 2000000 in
theorem checkFilters_any (r : Rt) (w : World) (B : Nat) (h : r.at w B) (hB : B ≤ w.heap.size) : Calls Tryz.prog 95 #[.agg r.C] w fun e w' => e = .returned (.int .i64 (firstE (filtE r.acls) r.ifs)) ∧ Below w.heap.size w w' := by
  have H0 := Lib.hid (RB.start r w)
  have HR := Lib.hid h
  have HBB := Lib.hid hB
  obtain ⟨A, c, hv, hle, -⟩ := h.hifs
  have HL : Hid (∀ w', RB r w w' → w'.cell? ⟨w.heap.size, 2, none⟩ = some (.slice A r.ifs.length c)) := Lib.hid (fun w' h => by rw [← hv]; exact h.h.cell 2)
  have HV := Lib.hid hv
  have hlen : r.ifs.length ≤ 9223372036854775807 := by have := h.hifs.len; simp only [maxLen] at this; exact Nat.le_trans this (by omega)
  clear h hv hB
  have c2 := HL.out _ H0.out
  obtain ⟨res, hres⟩ : ∃ res, firstE (filtE r.acls) r.ifs = res := ⟨_, rfl⟩
  rw [hres]
  go_enter Tryz.func95, Tryz.ntmps95
  go_wp2_with fail
  clear c2
  go_loopg [8] r.ifs.length (fun gh ix wr => ∃ k : Nat, k + gh = r.ifs.length ∧ ix = .int .i64 k ∧ Hid (RB r w wr) ∧ Hid (firstE (filtE r.acls) (r.ifs.drop k) = res))
  case atStart => exact ⟨0, by omega, rfl, H0, Lib.hid hres⟩
  case round =>
    obtain ⟨k, hk, rfl, HW, HG⟩ := hrel
    clear H0 hres
    by_cases hlt : k < r.ifs.length
    case neg =>
      have E := Lib.hid (firstE_end hlt HG.out)
      go_wp2_with fail
      go_ret
      exact ⟨ret_int E.out.symm, HW.out.b⟩
    have HAT := Lib.hid (firstE_at hlt HG.out)
    obtain ⟨g, o, c', e', -, hg, R0⟩ := (HR.out.hifs).elem (n := 12) (by decide) (fun _ => rfl) hlt
    rw [HV.out] at e'
    injection e' with e1 e2 e3
    subst e1 e3
    have r1 := Lib.hid (rangeBelow R0 (HW.out.b.mono HBB.out) hg)
    clear R0 HG e2
    generalize r.ifs[k] = x at HAT r1
    go_upto_region 4 with (first | (refine wpList_loadRow rfl 67 _ rfl rfl r1.out Tryz.rowIf Tryz.sizeIf ?_) | (refine wpList_storeRow rfl 67 _ _ rfl rfl rfl (HasC.new wr _ _) rfl Tryz.sizeIf (If.one x) ?_; intro w5 hz1 hz2))
    have H5 := Lib.hid (HW.out.keep (new_below hz2))
    have Y5 := hz1
    clear hz1 hz2 r1 HW
    generalize wr.heap.size = gy at Y5 ⊢
    replace Y5 := Lib.hid Y5
    obtain ⟨name, addr, len, vlan, down, ls, area, cost, dv, inn, out, side⟩ := x
    have PE : Hid (filtE r.acls ⟨name, addr, len, vlan, down, ls, area, cost, dv, inn, out, side⟩ = if lacksB (·.name) r.acls inn || lacksB (·.name) r.acls out then 5 else 0) := Lib.hid rfl
    generalize filtE r.acls ⟨name, addr, len, vlan, down, ls, area, cost, dv, inn, out, side⟩ = fx at PE HAT
    have PI : Hid (lacksB (·.name) r.acls inn = (!inn.isEmpty && decide (idxF (fun y => y.name == inn) r.acls 0 < 0))) := Lib.hid rfl
    have PO : Hid (lacksB (·.name) r.acls out = (!out.isEmpty && decide (idxF (fun y => y.name == out) r.acls 0 < 0))) := Lib.hid rfl
    have PN := Lib.hid (fun nm w1 (h1 : RB r w w1) => aCL_any r nm w1 B (HR.out.below (h1.b.mono HBB.out)) (Nat.le_trans HBB.out h1.b.size))
    have Y9 : Hid (∀ w', HasC 67 gy (If.C ⟨name, addr, len, vlan, down, ls, area, cost, dv, inn, out, side⟩) w' → w'.cell? ⟨gy, 9, none⟩ = some (.string (str inn)) ∧ w'.cell? ⟨gy, 10, none⟩ = some (.string (str out))) := Lib.hid (fun w' h => ⟨h.cell 9, h.cell 10⟩)
    generalize If.C ⟨name, addr, len, vlan, down, ls, area, cost, dv, inn, out, side⟩ = cx at *
    by_cases hi : inn = []
    · subst hi
      have ti := toList_str ([] : List UInt8)
      have EI : Hid (lacksB (·.name) r.acls ([] : List UInt8) = false) := Lib.hid rfl
      obtain ⟨y9, y10⟩ := Y9.out _ Y5.out
      by_cases ho : out = []
      · subst ho
        have tto := toList_str ([] : List UInt8)
        have E0 : Hid (fx = 0) := Lib.hid (by rw [PE.out, EI.out]; rfl)
        have E : Hid (firstE (filtE r.acls) (r.ifs.drop (k + 1)) = res) := Lib.hid (inner_next HAT.out E0.out)
        go_wp2_with fail
        go_roundg (r.ifs.length - (k + 1))
        case measure => omega
        case rel => exact ⟨k + 1, by omega, by go_num, H5, E⟩
      obtain ⟨o1, o2, o3⟩ := ne_str ho
      go_wp2_with (first | (refine wpList_unguard (by rfl) (wpList_loadRow rfl 41 _ rfl rfl H5.out.h.range Tryz.rowRt Tryz.sizeRt ?_)))
      with_reducible refine (PN.out out _ H5.out).mono ?_
      rintro e w7 ⟨rfl, hb⟩
      have H7 := Lib.hid (H5.out.keep hb)
      clear hb y9 y10
      by_cases hd2 : idxF (fun y => y.name == out) r.acls 0 < 0
      · have di2 := decide_eq_true hd2
        have EO : Hid (lacksB (·.name) r.acls out = true) := Lib.hid (by rw [PO.out, o1, di2]; rfl)
        have E : Hid (res = 5) := Lib.hid (by rw [HAT.out, PE.out, EO.out, EI.out]; rfl)
        clear hd2
        go_wp2_with fail
        go_ret
        exact ⟨ret_int E.out.symm, H7.out.b⟩
      have di2 := decide_eq_false hd2
      have EO : Hid (lacksB (·.name) r.acls out = false) := Lib.hid (by rw [PO.out, o1, di2]; rfl)
      have E0 : Hid (fx = 0) := Lib.hid (by rw [PE.out, EI.out, EO.out]; rfl)
      have E : Hid (firstE (filtE r.acls) (r.ifs.drop (k + 1)) = res) := Lib.hid (inner_next HAT.out E0.out)
      clear hd2
      go_wp2_with fail
      go_roundg (r.ifs.length - (k + 1))
      case measure => omega
      case rel => exact ⟨k + 1, by omega, by go_num, H7, E⟩
    obtain ⟨i1, i2, i3⟩ := ne_str hi
    obtain ⟨y9, y10⟩ := Y9.out _ Y5.out
    go_wp2_with (first | (refine wpList_unguard (by rfl) (wpList_loadRow rfl 41 _ rfl rfl H5.out.h.range Tryz.rowRt Tryz.sizeRt ?_)))
    with_reducible refine (PN.out inn _ H5.out).mono ?_
    rintro e w6 ⟨rfl, hb⟩
    have H6 := Lib.hid (H5.out.keep hb)
    have Y6 := Lib.hid (Y5.out.keep hb)
    clear hb y9 y10
    by_cases hd : idxF (fun y => y.name == inn) r.acls 0 < 0
    · have di := decide_eq_true hd
      have EI : Hid (lacksB (·.name) r.acls inn = true) := Lib.hid (by rw [PI.out, i1, di]; rfl)
      have E : Hid (res = 5) := Lib.hid (by rw [HAT.out, PE.out, EI.out]; rfl)
      clear hd
      go_wp2_with fail
      go_ret
      exact ⟨ret_int E.out.symm, H6.out.b⟩
    have di := decide_eq_false hd
    have EI : Hid (lacksB (·.name) r.acls inn = false) := Lib.hid (by rw [PI.out, i1, di]; rfl)
    clear hd
    obtain ⟨y9, y10⟩ := Y9.out _ Y6.out
    by_cases ho : out = []
    · subst ho
      have tto := toList_str ([] : List UInt8)
      have E0 : Hid (fx = 0) := Lib.hid (by rw [PE.out, EI.out]; rfl)
      have E : Hid (firstE (filtE r.acls) (r.ifs.drop (k + 1)) = res) := Lib.hid (inner_next HAT.out E0.out)
      go_wp2_with fail
      go_roundg (r.ifs.length - (k + 1))
      case measure => omega
      case rel => exact ⟨k + 1, by omega, by go_num, H6, E⟩
    obtain ⟨o1, o2, o3⟩ := ne_str ho
    go_wp2_with (first | (refine wpList_unguard (by rfl) (wpList_loadRow rfl 41 _ rfl rfl H6.out.h.range Tryz.rowRt Tryz.sizeRt ?_)))
    with_reducible refine (PN.out out _ H6.out).mono ?_
    rintro e w7 ⟨rfl, hb⟩
    have H7 := Lib.hid (H6.out.keep hb)
    clear hb y9 y10
    by_cases hd2 : idxF (fun y => y.name == out) r.acls 0 < 0
    · have di2 := decide_eq_true hd2
      have EO : Hid (lacksB (·.name) r.acls out = true) := Lib.hid (by rw [PO.out, o1, di2]; rfl)
      have E : Hid (res = 5) := Lib.hid (by rw [HAT.out, PE.out, EO.out, EI.out]; rfl)
      clear hd2
      go_wp2_with fail
      go_ret
      exact ⟨ret_int E.out.symm, H7.out.b⟩
    have di2 := decide_eq_false hd2
    have EO : Hid (lacksB (·.name) r.acls out = false) := Lib.hid (by rw [PO.out, o1, di2]; rfl)
    have E0 : Hid (fx = 0) := Lib.hid (by rw [PE.out, EI.out, EO.out]; rfl)
    have E : Hid (firstE (filtE r.acls) (r.ifs.drop (k + 1)) = res) := Lib.hid (inner_next HAT.out E0.out)
    clear hd2
    go_wp2_with fail
    go_roundg (r.ifs.length - (k + 1))
    case measure => omega
    case rel => exact ⟨k + 1, by omega, by go_num, H7, E⟩
end Go.Proofs.YtmddfkpkddemnaaGreatDoor
namespace Go.Proofs.YtmddfkpkddemnaaGreatDoor
open Go.RowKit
def sameS (x : Tr) : Bool := x.proto == 0 && x.iport == 0 && x.oport == 0 && x.list.isEmpty && x.lo == 0 && x.hi == 0
def sameP (x : Tr) : Bool := x.ins == 0 && x.outs == 0 && x.proto == 0 && x.iport == 0 && x.oport == 0
def rightTr (x : Tr) : Bool :=
  if x.kind = 1 then sameS x && !(x.ins == 0) && !(x.outs == 0)
  else if x.kind = 2 then sameP x && !(x.lo == 0) && decide (x.lo ≤ x.hi) && decide (x.hi - x.lo < 8)
  else if x.kind = 3 then !(x.ins == 0) && !(x.outs == 0) && (x.proto == 6 || x.proto == 17) && withinB x.iport 0 65535 && withinB x.oport 0 65535 && x.list.isEmpty && x.lo == 0 && x.hi == 0
  else false
theorem Tryz.trGuard : Tryz.prog.eqGuardType Tryz.prog.depth 69 = false := by kernel_rfl
set_option maxRecDepth 8000 in
set_option maxHeartbeats 8000000 in
theorem rightTr_three (ins outs : Nat) (proto iport oport : Int) (list : List UInt8) (lo hi : Nat) (w : World) : Calls Tryz.prog 158 #[.agg #[.int .i64 3, .int .u32 (ins : Int), .int .u32 (outs : Int), .int .i64 proto, .int .i64 iport, .int .i64 oport, .string (str list), .int .u32 (lo : Int), .int .u32 (hi : Int)]] w fun e w' => e = .returned (.bool (rightTr ⟨3, ins, outs, proto, iport, oport, list, lo, hi⟩)) ∧ Below w.heap.size w w' := by
  have B0 := Lib.hid (fun o => (Below.refl w.heap.size w).alloc (Nat.le_refl _) o)
  have HW := Lib.hid (fun n lo hi w => within_any n lo hi w)
  have E : Hid (rightTr ⟨3, ins, outs, proto, iport, oport, list, lo, hi⟩ = (!(ins == 0) && !(outs == 0) && (proto == 6 || proto == 17) && withinB iport 0 65535 && withinB oport 0 65535 && list.isEmpty && lo == 0 && hi == 0)) := Lib.hid rfl
  generalize rightTr ⟨3, ins, outs, proto, iport, oport, list, lo, hi⟩ = res at E ⊢
  by_cases h1 : ins = 0
  · subst h1
    go_enter Tryz.func158, Tryz.ntmps158
    go_wp2_with (go_at_call 89; refine (HW.out _ _ _ _).mono ?_; rintro e w' ⟨rfl, rfl⟩)
    all_goals (go_ret; exact ⟨ret_bool (by rw [E.out]; first | (simp [*]; done) | (simp [*]; omega)), B0.out _⟩)
  · have h1a : ((ins : Int) == 0) = false := by simp; omega
    have h1b : ((ins : Int) != 0) = true := by simp; omega
    have h1c : (ins == 0) = false := by simpa using h1
    by_cases h2 : outs = 0
    · subst h2
      go_enter Tryz.func158, Tryz.ntmps158
      go_wp2_with (go_at_call 89; refine (HW.out _ _ _ _).mono ?_; rintro e w' ⟨rfl, rfl⟩)
      all_goals (go_ret; exact ⟨ret_bool (by rw [E.out]; first | (simp [*]; done) | (simp [*]; omega)), B0.out _⟩)
    · have h2a : ((outs : Int) == 0) = false := by simp; omega
      have h2b : ((outs : Int) != 0) = true := by simp; omega
      have h2c : (outs == 0) = false := by simpa using h2
      by_cases h3 : proto = 6
      · subst h3
        cases h4 : withinB iport 0 65535 with
        | false =>
          go_enter Tryz.func158, Tryz.ntmps158
          go_wp2_with (go_at_call 89; refine (HW.out _ _ _ _).mono ?_; rintro e w' ⟨rfl, rfl⟩)
          all_goals (go_ret; exact ⟨ret_bool (by rw [E.out]; first | (simp [*]; done) | (simp [*]; omega)), B0.out _⟩)
        | true =>
          cases h5 : withinB oport 0 65535 with
          | false =>
            go_enter Tryz.func158, Tryz.ntmps158
            go_wp2_with (go_at_call 89; refine (HW.out _ _ _ _).mono ?_; rintro e w' ⟨rfl, rfl⟩)
            all_goals (go_ret; exact ⟨ret_bool (by rw [E.out]; first | (simp [*]; done) | (simp [*]; omega)), B0.out _⟩)
          | true =>
            have h6t := toList_str list
            cases list with
            | nil =>
              by_cases h7 : lo = 0
              · subst h7
                by_cases h8 : hi = 0
                · subst h8
                  go_enter Tryz.func158, Tryz.ntmps158
                  go_wp2_with (go_at_call 89; refine (HW.out _ _ _ _).mono ?_; rintro e w' ⟨rfl, rfl⟩)
                  all_goals (go_ret; exact ⟨ret_bool (by rw [E.out]; first | (simp [*]; done) | (simp [*]; omega)), B0.out _⟩)
                · have h8a : ((hi : Int) == 0) = false := by simp; omega
                  have h8b : ((hi : Int) != 0) = true := by simp; omega
                  have h8c : (hi == 0) = false := by simpa using h8
                  go_enter Tryz.func158, Tryz.ntmps158
                  go_wp2_with (go_at_call 89; refine (HW.out _ _ _ _).mono ?_; rintro e w' ⟨rfl, rfl⟩)
                  all_goals (go_ret; exact ⟨ret_bool (by rw [E.out]; first | (simp [*]; done) | (simp [*]; omega)), B0.out _⟩)
              · have h7a : ((lo : Int) == 0) = false := by simp; omega
                have h7b : ((lo : Int) != 0) = true := by simp; omega
                have h7c : (lo == 0) = false := by simpa using h7
                go_enter Tryz.func158, Tryz.ntmps158
                go_wp2_with (go_at_call 89; refine (HW.out _ _ _ _).mono ?_; rintro e w' ⟨rfl, rfl⟩)
                all_goals (go_ret; exact ⟨ret_bool (by rw [E.out]; first | (simp [*]; done) | (simp [*]; omega)), B0.out _⟩)
            | cons c8 k8 =>
              go_enter Tryz.func158, Tryz.ntmps158
              go_wp2_with (go_at_call 89; refine (HW.out _ _ _ _).mono ?_; rintro e w' ⟨rfl, rfl⟩)
              all_goals (go_ret; exact ⟨ret_bool (by rw [E.out]; first | (simp [*]; done) | (simp [*]; omega)), B0.out _⟩)
      · have h3a : (proto == 6) = false := by simpa using h3
        have h3b : (proto != 6) = true := by simpa using h3
        by_cases h9 : proto = 17
        · subst h9
          cases h10 : withinB iport 0 65535 with
          | false =>
            go_enter Tryz.func158, Tryz.ntmps158
            go_wp2_with (go_at_call 89; refine (HW.out _ _ _ _).mono ?_; rintro e w' ⟨rfl, rfl⟩)
            all_goals (go_ret; exact ⟨ret_bool (by rw [E.out]; first | (simp [*]; done) | (simp [*]; omega)), B0.out _⟩)
          | true =>
            cases h11 : withinB oport 0 65535 with
            | false =>
              go_enter Tryz.func158, Tryz.ntmps158
              go_wp2_with (go_at_call 89; refine (HW.out _ _ _ _).mono ?_; rintro e w' ⟨rfl, rfl⟩)
              all_goals (go_ret; exact ⟨ret_bool (by rw [E.out]; first | (simp [*]; done) | (simp [*]; omega)), B0.out _⟩)
            | true =>
              have h12t := toList_str list
              cases list with
              | nil =>
                by_cases h13 : lo = 0
                · subst h13
                  by_cases h14 : hi = 0
                  · subst h14
                    go_enter Tryz.func158, Tryz.ntmps158
                    go_wp2_with (go_at_call 89; refine (HW.out _ _ _ _).mono ?_; rintro e w' ⟨rfl, rfl⟩)
                    all_goals (go_ret; exact ⟨ret_bool (by rw [E.out]; first | (simp [*]; done) | (simp [*]; omega)), B0.out _⟩)
                  · have h14a : ((hi : Int) == 0) = false := by simp; omega
                    have h14b : ((hi : Int) != 0) = true := by simp; omega
                    have h14c : (hi == 0) = false := by simpa using h14
                    go_enter Tryz.func158, Tryz.ntmps158
                    go_wp2_with (go_at_call 89; refine (HW.out _ _ _ _).mono ?_; rintro e w' ⟨rfl, rfl⟩)
                    all_goals (go_ret; exact ⟨ret_bool (by rw [E.out]; first | (simp [*]; done) | (simp [*]; omega)), B0.out _⟩)
                · have h13a : ((lo : Int) == 0) = false := by simp; omega
                  have h13b : ((lo : Int) != 0) = true := by simp; omega
                  have h13c : (lo == 0) = false := by simpa using h13
                  go_enter Tryz.func158, Tryz.ntmps158
                  go_wp2_with (go_at_call 89; refine (HW.out _ _ _ _).mono ?_; rintro e w' ⟨rfl, rfl⟩)
                  all_goals (go_ret; exact ⟨ret_bool (by rw [E.out]; first | (simp [*]; done) | (simp [*]; omega)), B0.out _⟩)
              | cons c14 k14 =>
                go_enter Tryz.func158, Tryz.ntmps158
                go_wp2_with (go_at_call 89; refine (HW.out _ _ _ _).mono ?_; rintro e w' ⟨rfl, rfl⟩)
                all_goals (go_ret; exact ⟨ret_bool (by rw [E.out]; first | (simp [*]; done) | (simp [*]; omega)), B0.out _⟩)
        · have h9a : (proto == 17) = false := by simpa using h9
          have h9b : (proto != 17) = true := by simpa using h9
          go_enter Tryz.func158, Tryz.ntmps158
          go_wp2_with (go_at_call 89; refine (HW.out _ _ _ _).mono ?_; rintro e w' ⟨rfl, rfl⟩)
          all_goals (go_ret; exact ⟨ret_bool (by rw [E.out]; first | (simp [*]; done) | (simp [*]; omega)), B0.out _⟩)
theorem rightTr_other (kind : Int) (ins outs : Nat) (proto iport oport : Int) (list : List UInt8) (lo hi : Nat) (w : World) (h1 : kind ≠ 1) (h2 : kind ≠ 2) (h3 : kind ≠ 3) : Calls Tryz.prog 158 #[.agg #[.int .i64 kind, .int .u32 (ins : Int), .int .u32 (outs : Int), .int .i64 proto, .int .i64 iport, .int .i64 oport, .string (str list), .int .u32 (lo : Int), .int .u32 (hi : Int)]] w fun e w' => e = .returned (.bool (rightTr ⟨kind, ins, outs, proto, iport, oport, list, lo, hi⟩)) ∧ Below w.heap.size w w' := by
  have B0 := Lib.hid (fun o => (Below.refl w.heap.size w).alloc (Nat.le_refl _) o)
  have E : Hid (rightTr ⟨kind, ins, outs, proto, iport, oport, list, lo, hi⟩ = false) := Lib.hid (by unfold rightTr; rw [if_neg h1, if_neg h2, if_neg h3])
  have d1 : (kind == 1) = false := by simpa using h1
  have d2 : (kind == 2) = false := by simpa using h2
  have d3 : (kind == 3) = false := by simpa using h3
  go_enter Tryz.func158, Tryz.ntmps158
  go_wp2_with fail
  go_ret
  exact ⟨ret_bool E.out.symm, B0.out _⟩
end Go.Proofs.YtmddfkpkddemnaaGreatDoor
namespace Go.Proofs.YtmddfkpkddemnaaGreatDoor
open Go.RowKit
theorem u32_sub_nat (a b : Nat) (h : b ≤ a) (ha : a < 4294967296) : IntKind.u32.wrap ((a : Int) - (b : Int)) = ((a - b : Nat) : Int) := by
  have : IntKind.u32.wrap ((a : Int) - (b : Int)) = ((a : Int) - b) % 4294967296 := by simp [IntKind.wrap, IntKind.signed, IntKind.bits]
  omega
set_option maxRecDepth 8000 in
set_option maxHeartbeats 8000000 in
theorem rightTr_one (ins outs : Nat) (proto iport oport : Int) (list : List UInt8) (lo hi : Nat) (w : World) : Calls Tryz.prog 158 #[.agg #[.int .i64 1, .int .u32 (ins : Int), .int .u32 (outs : Int), .int .i64 proto, .int .i64 iport, .int .i64 oport, .string (str list), .int .u32 (lo : Int), .int .u32 (hi : Int)]] w fun e w' => e = .returned (.bool (rightTr ⟨1, ins, outs, proto, iport, oport, list, lo, hi⟩)) ∧ Below w.heap.size w w' := by
  have B0 := Lib.hid (fun o o2 => ((Below.refl w.heap.size w).alloc (Nat.le_refl _) o).alloc (by simp) o2)
  have g := Tryz.trGuard
  have E : Hid (rightTr ⟨1, ins, outs, proto, iport, oport, list, lo, hi⟩ = (proto == 0 && iport == 0 && oport == 0 && list.isEmpty && lo == 0 && hi == 0 && !(ins == 0) && !(outs == 0))) := Lib.hid rfl
  generalize rightTr ⟨1, ins, outs, proto, iport, oport, list, lo, hi⟩ = res at E ⊢
  by_cases h1 : proto = 0
  · subst h1
    by_cases h2 : iport = 0
    · subst h2
      by_cases h3 : oport = 0
      · subst h3
        have h4t := toList_str list
        cases list with
        | nil =>
          by_cases h5 : lo = 0
          · subst h5
            by_cases h6 : hi = 0
            · subst h6
              by_cases h7 : ins = 0
              · subst h7
                go_enter Tryz.func158, Tryz.ntmps158
                go_wp2_with fail
                all_goals (go_ret; exact ⟨ret_bool (by rw [E.out]; first | (simp [*]; done) | (simp [*]; omega)), B0.out _ _⟩)
              · have h7a : ((ins : Int) == 0) = false := by simp; omega
                have h7b : ((ins : Int) != 0) = true := by simp; omega
                have h7c : (ins == 0) = false := by simpa using h7
                by_cases h8 : outs = 0
                · subst h8
                  go_enter Tryz.func158, Tryz.ntmps158
                  go_wp2_with fail
                  all_goals (go_ret; exact ⟨ret_bool (by rw [E.out]; first | (simp [*]; done) | (simp [*]; omega)), B0.out _ _⟩)
                · have h8a : ((outs : Int) == 0) = false := by simp; omega
                  have h8b : ((outs : Int) != 0) = true := by simp; omega
                  have h8c : (outs == 0) = false := by simpa using h8
                  go_enter Tryz.func158, Tryz.ntmps158
                  go_wp2_with fail
                  all_goals (go_ret; exact ⟨ret_bool (by rw [E.out]; first | (simp [*]; done) | (simp [*]; omega)), B0.out _ _⟩)
            · have h6a : ((hi : Int) == 0) = false := by simp; omega
              have h6b : ((hi : Int) != 0) = true := by simp; omega
              have h6c : (hi == 0) = false := by simpa using h6
              go_enter Tryz.func158, Tryz.ntmps158
              go_wp2_with fail
              all_goals (go_ret; exact ⟨ret_bool (by rw [E.out]; first | (simp [*]; done) | (simp [*]; omega)), B0.out _ _⟩)
          · have h5a : ((lo : Int) == 0) = false := by simp; omega
            have h5b : ((lo : Int) != 0) = true := by simp; omega
            have h5c : (lo == 0) = false := by simpa using h5
            go_enter Tryz.func158, Tryz.ntmps158
            go_wp2_with fail
            all_goals (go_ret; exact ⟨ret_bool (by rw [E.out]; first | (simp [*]; done) | (simp [*]; omega)), B0.out _ _⟩)
        | cons c8 k8 =>
          go_enter Tryz.func158, Tryz.ntmps158
          go_wp2_with fail
          all_goals (go_ret; exact ⟨ret_bool (by rw [E.out]; first | (simp [*]; done) | (simp [*]; omega)), B0.out _ _⟩)
      · have h3a : (oport == 0) = false := by simpa using h3
        have h3b : (oport != 0) = true := by simpa using h3
        go_enter Tryz.func158, Tryz.ntmps158
        go_wp2_with fail
        all_goals (go_ret; exact ⟨ret_bool (by rw [E.out]; first | (simp [*]; done) | (simp [*]; omega)), B0.out _ _⟩)
    · have h2a : (iport == 0) = false := by simpa using h2
      have h2b : (iport != 0) = true := by simpa using h2
      go_enter Tryz.func158, Tryz.ntmps158
      go_wp2_with fail
      all_goals (go_ret; exact ⟨ret_bool (by rw [E.out]; first | (simp [*]; done) | (simp [*]; omega)), B0.out _ _⟩)
  · have h1a : (proto == 0) = false := by simpa using h1
    have h1b : (proto != 0) = true := by simpa using h1
    go_enter Tryz.func158, Tryz.ntmps158
    go_wp2_with fail
    all_goals (go_ret; exact ⟨ret_bool (by rw [E.out]; first | (simp [*]; done) | (simp [*]; omega)), B0.out _ _⟩)
set_option maxRecDepth 8000 in
set_option maxHeartbeats 8000000 in
theorem rightTr_two (ins outs : Nat) (proto iport oport : Int) (list : List UInt8) (lo hi : Nat) (hh : hi < 4294967296) (w : World) : Calls Tryz.prog 158 #[.agg #[.int .i64 2, .int .u32 (ins : Int), .int .u32 (outs : Int), .int .i64 proto, .int .i64 iport, .int .i64 oport, .string (str list), .int .u32 (lo : Int), .int .u32 (hi : Int)]] w fun e w' => e = .returned (.bool (rightTr ⟨2, ins, outs, proto, iport, oport, list, lo, hi⟩)) ∧ Below w.heap.size w w' := by
  have B0 := Lib.hid (fun o o2 => ((Below.refl w.heap.size w).alloc (Nat.le_refl _) o).alloc (by simp) o2)
  have g := Tryz.trGuard
  have E : Hid (rightTr ⟨2, ins, outs, proto, iport, oport, list, lo, hi⟩ = (ins == 0 && outs == 0 && proto == 0 && iport == 0 && oport == 0 && !(lo == 0) && decide (lo ≤ hi) && decide (hi - lo < 8))) := Lib.hid rfl
  generalize rightTr ⟨2, ins, outs, proto, iport, oport, list, lo, hi⟩ = res at E ⊢
  by_cases h1 : ins = 0
  · subst h1
    by_cases h2 : outs = 0
    · subst h2
      by_cases h3 : proto = 0
      · subst h3
        by_cases h4 : iport = 0
        · subst h4
          by_cases h5 : oport = 0
          · subst h5
            by_cases h6 : lo = 0
            · subst h6
              go_enter Tryz.func158, Tryz.ntmps158
              go_wp2_with fail
              all_goals (go_ret; exact ⟨ret_bool (by rw [E.out]; first | (simp [*]; done) | (simp [*]; omega)), B0.out _ _⟩)
            · have h6a : ((lo : Int) == 0) = false := by simp; omega
              have h6b : ((lo : Int) != 0) = true := by simp; omega
              have h6c : (lo == 0) = false := by simpa using h6
              by_cases h7 : lo ≤ hi
              · have h7d := decide_eq_true h7
                have hs := u32_sub_nat hi lo (by assumption) hh
                have hle : ((lo : Int) ≤ (hi : Int)) := by omega
                by_cases h8 : hi - lo < 8
                · have h8d := decide_eq_true h8
                  go_enter Tryz.func158, Tryz.ntmps158
                  go_wp2_with fail
                  all_goals (go_ret; exact ⟨ret_bool (by rw [E.out]; first | (simp [*]; done) | (simp [*]; omega)), B0.out _ _⟩)
                · have h8d := decide_eq_false h8
                  go_enter Tryz.func158, Tryz.ntmps158
                  go_wp2_with fail
                  all_goals (go_ret; exact ⟨ret_bool (by rw [E.out]; first | (simp [*]; done) | (simp [*]; omega)), B0.out _ _⟩)
              · have h7d := decide_eq_false h7
                go_enter Tryz.func158, Tryz.ntmps158
                go_wp2_with fail
                all_goals (go_ret; exact ⟨ret_bool (by rw [E.out]; first | (simp [*]; done) | (simp [*]; omega)), B0.out _ _⟩)
          · have h5a : (oport == 0) = false := by simpa using h5
            have h5b : (oport != 0) = true := by simpa using h5
            go_enter Tryz.func158, Tryz.ntmps158
            go_wp2_with fail
            all_goals (go_ret; exact ⟨ret_bool (by rw [E.out]; first | (simp [*]; done) | (simp [*]; omega)), B0.out _ _⟩)
        · have h4a : (iport == 0) = false := by simpa using h4
          have h4b : (iport != 0) = true := by simpa using h4
          go_enter Tryz.func158, Tryz.ntmps158
          go_wp2_with fail
          all_goals (go_ret; exact ⟨ret_bool (by rw [E.out]; first | (simp [*]; done) | (simp [*]; omega)), B0.out _ _⟩)
      · have h3a : (proto == 0) = false := by simpa using h3
        have h3b : (proto != 0) = true := by simpa using h3
        go_enter Tryz.func158, Tryz.ntmps158
        go_wp2_with fail
        all_goals (go_ret; exact ⟨ret_bool (by rw [E.out]; first | (simp [*]; done) | (simp [*]; omega)), B0.out _ _⟩)
    · have h2a : ((outs : Int) == 0) = false := by simp; omega
      have h2b : ((outs : Int) != 0) = true := by simp; omega
      have h2c : (outs == 0) = false := by simpa using h2
      go_enter Tryz.func158, Tryz.ntmps158
      go_wp2_with fail
      all_goals (go_ret; exact ⟨ret_bool (by rw [E.out]; first | (simp [*]; done) | (simp [*]; omega)), B0.out _ _⟩)
  · have h1a : ((ins : Int) == 0) = false := by simp; omega
    have h1b : ((ins : Int) != 0) = true := by simp; omega
    have h1c : (ins == 0) = false := by simpa using h1
    go_enter Tryz.func158, Tryz.ntmps158
    go_wp2_with fail
    all_goals (go_ret; exact ⟨ret_bool (by rw [E.out]; first | (simp [*]; done) | (simp [*]; omega)), B0.out _ _⟩)
theorem rightTranslation_any (x : Tr) (hx : x.fit) (w : World) : Calls Tryz.prog 158 #[.agg x.C] w fun e w' => e = .returned (.bool (rightTr x)) ∧ Below w.heap.size w w' := by
  obtain ⟨kind, ins, outs, proto, iport, oport, list, lo, hi⟩ := x
  by_cases h1 : kind = 1
  · subst h1; exact rightTr_one ins outs proto iport oport list lo hi w
  by_cases h2 : kind = 2
  · subst h2; exact rightTr_two ins outs proto iport oport list lo hi hx.2.2.2 w
  by_cases h3 : kind = 3
  · subst h3; exact rightTr_three ins outs proto iport oport list lo hi w
  exact rightTr_other kind ins outs proto iport oport list lo hi w h1 h2 h3
def natE (acls : List AList) (x : Tr) : Int := if rightTr x then (if x.kind == 2 && decide (idxF (fun y => y.name == x.list) acls 0 < 0) then 5 else 0) else 1
def natsE (acls : List AList) (l : List Tr) : Int := if 8 < l.length then 7 else firstE (natE acls) l
set_option maxRecDepth 100000 in
set_option maxHeartbeats 2000000 in
theorem checkNAT_any (r : Rt) (w : World) (B : Nat) (h : r.at w B) (hB : B ≤ w.heap.size) (hf : ∀ x ∈ r.nat, x.fit) : Calls Tryz.prog 94 #[.agg r.C] w fun e w' => e = .returned (.int .i64 (natsE r.acls r.nat)) ∧ Below w.heap.size w w' := by
  have H0 := Lib.hid (RB.start r w)
  have HR := Lib.hid h
  have HF := Lib.hid hf
  have HBB := Lib.hid hB
  obtain ⟨A, c, hv, hle, -⟩ := h.hnat
  have HL : Hid (∀ w', RB r w w' → w'.cell? ⟨w.heap.size, 6, none⟩ = some (.slice A r.nat.length c)) := Lib.hid (fun w' h => by rw [← hv]; exact h.h.cell 6)
  have HV := Lib.hid hv
  clear h hf hv hB
  have c2 := HL.out _ H0.out
  obtain ⟨res, hres⟩ : ∃ res, natsE r.acls r.nat = res := ⟨_, rfl⟩
  rw [hres]
  by_cases h8 : 8 < r.nat.length
  · have E : Hid (res = 7) := Lib.hid (by rw [← hres]; exact if_pos h8)
    clear hres
    go_enter Tryz.func94, Tryz.ntmps94
    go_wp2_with fail
    go_ret
    exact ⟨ret_int E.out.symm, H0.out.b⟩
  have d8 : decide ((8 : Int) < r.nat.length) = false := by simp; omega
  have E : Hid (firstE (natE r.acls) r.nat = res) := Lib.hid (by rw [← hres]; exact (if_neg h8).symm)
  clear hres
  go_enter Tryz.func94, Tryz.ntmps94
  go_wp2_with fail
  clear c2 d8
  go_loopg [12] r.nat.length (fun gh ix wr => ∃ k : Nat, k + gh = r.nat.length ∧ ix = .int .i64 k ∧ Hid (RB r w wr) ∧ Hid (firstE (natE r.acls) (r.nat.drop k) = res))
  case atStart => exact ⟨0, by omega, rfl, H0, E⟩
  case round =>
    obtain ⟨k, hk, rfl, HW, HG⟩ := hrel
    clear H0 E
    by_cases hlt : k < r.nat.length
    case neg =>
      have E := Lib.hid (firstE_end hlt HG.out)
      go_wp2_with fail
      go_ret
      exact ⟨ret_int E.out.symm, HW.out.b⟩
    have HAT := Lib.hid (firstE_at hlt HG.out)
    obtain ⟨g, o, c', e', -, hg, R0⟩ := (HR.out.hnat).elem (n := 9) (by decide) (fun _ => rfl) hlt
    rw [HV.out] at e'
    injection e' with e1 e2 e3
    subst e1 e3
    have r1 := Lib.hid (rangeBelow R0 (HW.out.b.mono HBB.out) hg)
    have FX := Lib.hid (HF.out _ (List.getElem_mem hlt))
    clear R0 HG e2
    generalize r.nat[k] = x at HAT r1 FX
    go_wp2_with (first | (refine wpList_loadRow rfl 69 _ rfl rfl r1.out Tryz.rowTr Tryz.sizeTr ?_) | (refine wpList_storeRow rfl 69 _ _ rfl rfl rfl (HasC.new wr _ _) rfl Tryz.sizeTr (Tr.one x) ?_; intro w5 hz1 hz2) | (refine wpList_loadRow rfl 69 _ rfl rfl hz1.range Tryz.rowTr Tryz.sizeTr ?_))
    have H5 := Lib.hid (HW.out.keep (new_below hz2))
    have Y5 := hz1
    clear hz1 hz2 r1 HW
    generalize wr.heap.size = gy at Y5 ⊢
    replace Y5 := Lib.hid Y5
    refine (rightTranslation_any x FX.out _).mono ?_
    rintro e w6 ⟨rfl, hb⟩
    have H6 := Lib.hid (H5.out.keep hb)
    have Y6 := Lib.hid (Y5.out.keep hb)
    clear hb H5 Y5
    have PE : Hid (natE r.acls x = if rightTr x then (if x.kind == 2 && decide (idxF (fun y => y.name == x.list) r.acls 0 < 0) then 5 else 0) else 1) := Lib.hid rfl
    generalize natE r.acls x = fx at PE HAT
    have y0 : w6.cell? ⟨gy, 0, none⟩ = some (.int .i64 x.kind) := Y6.out.cell 0
    have y6 : w6.cell? ⟨gy, 6, none⟩ = some (.string (str x.list)) := Y6.out.cell 6
    cases hv : rightTr x with
    | false =>
      have E : Hid (res = 1) := Lib.hid (by rw [HAT.out, PE.out, hv]; rfl)
      go_wp2_with fail
      go_ret
      exact ⟨ret_int E.out.symm, H6.out.b⟩
    | true =>
    have PE2 : Hid (fx = if x.kind == 2 && decide (idxF (fun y => y.name == x.list) r.acls 0 < 0) then 5 else 0) := Lib.hid (by rw [PE.out, hv]; rfl)
    clear hv PE
    by_cases hk2 : x.kind = 2
    case neg =>
      have d2 : (x.kind == 2) = false := by simpa using hk2
      have E : Hid (firstE (natE r.acls) (r.nat.drop (k + 1)) = res) := Lib.hid (inner_next HAT.out (by rw [PE2.out, d2]; rfl))
      clear hk2
      go_wp2_with fail
      go_roundg (r.nat.length - (k + 1))
      case measure => omega
      case rel => exact ⟨k + 1, by omega, by go_num, H6, E⟩
    rw [hk2] at y0
    have PE3 : Hid (fx = if decide (idxF (fun y => y.name == x.list) r.acls 0 < 0) then 5 else 0) := Lib.hid (by rw [PE2.out, hk2]; rfl)
    clear hk2
    go_wp2_with (first | (refine wpList_unguard (by rfl) (wpList_loadRow rfl 41 _ rfl rfl H6.out.h.range Tryz.rowRt Tryz.sizeRt ?_)))
    with_reducible refine (aCL_any r x.list w6 B (HR.out.below (H6.out.b.mono HBB.out)) (Nat.le_trans HBB.out H6.out.b.size)).mono ?_
    rintro e w7 ⟨rfl, hb⟩
    have H7 := Lib.hid (H6.out.keep hb)
    clear hb y0 y6
    by_cases hd : idxF (fun y => y.name == x.list) r.acls 0 < 0
    · have di := decide_eq_true hd
      have E : Hid (res = 5) := Lib.hid (by rw [HAT.out, PE3.out, di]; rfl)
      clear hd
      go_wp2_with fail
      go_ret
      exact ⟨ret_int E.out.symm, H7.out.b⟩
    have di := decide_eq_false hd
    have E : Hid (firstE (natE r.acls) (r.nat.drop (k + 1)) = res) := Lib.hid (inner_next HAT.out (by rw [PE3.out, di]; rfl))
    clear hd
    go_wp2_with fail
    go_roundg (r.nat.length - (k + 1))
    case measure => omega
    case rel => exact ⟨k + 1, by omega, by go_num, H7, E⟩
end Go.Proofs.YtmddfkpkddemnaaGreatDoor
