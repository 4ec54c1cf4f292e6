/- The walk of checkLinkState. Conditions: the router lies in memory, addresses are numbers below 2^32. -/
import Derived.Test.YtmddfkpkddemnaaGreatDoorUak
import Derived.Lib.MinMax
namespace Go.Proofs.YtmddfkpkddemnaaGreatDoor
open Go.RowKit
def redF (maps : List RMap) (into least most types : Int) (x : Rd) : Int := if withinB x.frm 1 5 && !(x.frm == into) && withinB x.metric least most && withinB x.tag 0 65535 && withinB x.typ (min 1 types) types then (if lacksB (·.name) maps x.map then 5 else 0) else 1
def sameRd (x y : Rd) : Bool := y.frm == x.frm
def redE (maps : List RMap) (into least most types : Int) (l : List Rd) : Int := pairE 4 (redF maps into least most types) sameRd 4 l
set_option maxRecDepth 100000 in
set_option maxHeartbeats 4000000 in
theorem checkRedist_any (r : Rt) (l : List Rd) (v : Value) (into least most types : Int) (w : World) (B : Nat) (h : r.at w B) (hl : SlV w B 5 Rd.C v l) (hB : B ≤ w.heap.size) : Calls Tryz.prog 160 #[.agg r.C, v, .int .i64 into, .int .i64 least, .int .i64 most, .int .i64 types] w fun e w' => e = .returned (.int .i64 (redE r.maps into least most types l)) ∧ Below w.heap.size w w' := by
  have H0 := Lib.hid (RB.start r w)
  have HR := Lib.hid h
  have HLS := Lib.hid hl
  have HBB := Lib.hid hB
  obtain ⟨A, c, hv, hle, -⟩ := hl
  have HV := Lib.hid hv
  rw [hv]
  clear h hv hB
  obtain ⟨res, hres⟩ : ∃ res, redE r.maps into least most types l = res := ⟨_, rfl⟩
  rw [hres]
  by_cases h8 : 4 < l.length
  · have E : Hid (res = 7) := Lib.hid (by rw [← hres]; exact if_pos h8)
    clear hres
    go_enter Tryz.func160, Tryz.ntmps160
    go_wp2_with fail
    go_ret
    exact ⟨ret_int E.out.symm, H0.out.b⟩
  have d8 : decide ((4 : Int) < l.length) = false := by simp; omega
  have E : Hid (pairGo (redF r.maps into least most types) sameRd 4 l l 0 = res) := Lib.hid (by rw [← hres]; exact (if_neg h8).symm)
  clear hres
  go_enter Tryz.func160, Tryz.ntmps160
  go_wp2_with fail
  clear d8
  go_loopg [22] l.length (fun gh ix wr => ∃ k : Nat, k + gh = l.length ∧ ix = .int .i64 k ∧ Hid (RB r w wr) ∧ Hid (pairGo (redF r.maps into least most types) sameRd 4 l (l.drop k) k = res))
  case atStart => exact ⟨0, by omega, rfl, H0, E⟩
  case round =>
    obtain ⟨k, hk, rfl, HW, HG⟩ := hrel
    clear H0 E
    by_cases hlt : k < l.length
    case neg =>
      have E := Lib.hid (pairGo_end hlt HG.out)
      go_wp2_with fail
      go_ret
      exact ⟨ret_int E.out.symm, HW.out.b⟩
    have HAT := Lib.hid (pairGo_at hlt HG.out)
    obtain ⟨g, o, c', e', -, hg, R0⟩ := (HLS.out).elem (n := 5) (by decide) (fun _ => rfl) hlt
    rw [HV.out] at e'
    injection e' with e1 e2 e3
    subst e1 e3
    have r1 := Lib.hid (rangeBelow R0 (HW.out.b.mono HBB.out) hg)
    clear R0 HG e2
    generalize l[k] = x at HAT r1
    go_upto_region 6 with (first | (refine wpList_loadRow rfl 192 _ rfl rfl r1.out Tryz.rowRd Tryz.sizeRd ?_) | (refine wpList_storeRow rfl 192 _ _ rfl rfl rfl (HasC.new wr _ _) rfl Tryz.sizeRd (Rd.one x) ?_; intro w5 hz1 hz2))
    have H5 := Lib.hid (HW.out.keep (new_below hz2))
    have X5 := hz1
    clear hz1 hz2 r1 HW
    generalize wr.heap.size = gx at X5 ⊢
    replace X5 := Lib.hid X5
    have PE : Hid ((redF r.maps into least most types) x = if withinB x.frm 1 5 && !(x.frm == into) && withinB x.metric least most && withinB x.tag 0 65535 && withinB x.typ (min 1 types) types then (if lacksB (·.name) r.maps x.map then 5 else 0) else 1) := Lib.hid rfl
    have xc0 : w5.cell? ⟨gx, 0, none⟩ = some (.int .i64 x.frm) := X5.out.cell 0
    have xc1 : w5.cell? ⟨gx, 1, none⟩ = some (.int .i64 x.metric) := X5.out.cell 1
    have xc2 : w5.cell? ⟨gx, 2, none⟩ = some (.int .i64 x.tag) := X5.out.cell 2
    have xc3 : w5.cell? ⟨gx, 3, none⟩ = some (.string (str x.map)) := X5.out.cell 3
    have xc4 : w5.cell? ⟨gx, 4, none⟩ = some (.int .i64 x.typ) := X5.out.cell 4
    cases h1 : withinB x.frm 1 5 with
    | false =>
      have F1 : Hid ((redF r.maps into least most types) x = 1) := Lib.hid (by rw [PE.out, h1]; rfl)
      have E : Hid (res = 1) := Lib.hid ((pair_fail HAT.out (by rw [F1.out]; decide)).trans (F1.out))
      go_wp2_with (go_at_call 89; refine (within_any _ _ _ _).mono ?_; rintro e w' ⟨rfl, rfl⟩)
      go_ret
      exact ⟨ret_int E.out.symm, H5.out.b⟩
    | true =>
    by_cases h2 : x.frm = into
    · have d2 : (x.frm == into) = true := by simpa using h2
      have F1 : Hid ((redF r.maps into least most types) x = 1) := Lib.hid (by rw [PE.out, h1, d2]; rfl)
      clear h2
      have E : Hid (res = 1) := Lib.hid ((pair_fail HAT.out (by rw [F1.out]; decide)).trans (F1.out))
      go_wp2_with (go_at_call 89; refine (within_any _ _ _ _).mono ?_; rintro e w' ⟨rfl, rfl⟩)
      go_ret
      exact ⟨ret_int E.out.symm, H5.out.b⟩
    have d2 : (x.frm == into) = false := by simpa using h2
    clear h2
    cases h3 : withinB x.metric least most with
    | false =>
      have F1 : Hid ((redF r.maps into least most types) x = 1) := Lib.hid (by rw [PE.out, h1, d2, h3]; rfl)
      have E : Hid (res = 1) := Lib.hid ((pair_fail HAT.out (by rw [F1.out]; decide)).trans (F1.out))
      go_wp2_with (go_at_call 89; refine (within_any _ _ _ _).mono ?_; rintro e w' ⟨rfl, rfl⟩)
      go_ret
      exact ⟨ret_int E.out.symm, H5.out.b⟩
    | true =>
    cases h4 : withinB x.tag 0 65535 with
    | false =>
      have F1 : Hid ((redF r.maps into least most types) x = 1) := Lib.hid (by rw [PE.out, h1, d2, h3, h4]; rfl)
      have E : Hid (res = 1) := Lib.hid ((pair_fail HAT.out (by rw [F1.out]; decide)).trans (F1.out))
      go_wp2_with (go_at_call 89; refine (within_any _ _ _ _).mono ?_; rintro e w' ⟨rfl, rfl⟩)
      go_ret
      exact ⟨ret_int E.out.symm, H5.out.b⟩
    | true =>
    cases h5 : withinB x.typ (min 1 types) types with
    | false =>
      have F1 : Hid ((redF r.maps into least most types) x = 1) := Lib.hid (by rw [PE.out, h1, d2, h3, h4, h5]; rfl)
      have E : Hid (res = 1) := Lib.hid ((pair_fail HAT.out (by rw [F1.out]; decide)).trans (F1.out))
      go_wp2_with (go_at_call 89; refine (within_any _ _ _ _).mono ?_; rintro e w' ⟨rfl, rfl⟩)
      go_ret
      exact ⟨ret_int E.out.symm, H5.out.b⟩
    | true =>
    have PE2 : Hid ((redF r.maps into least most types) x = if lacksB (·.name) r.maps x.map then 5 else 0) := Lib.hid (by rw [PE.out, h1, d2, h3, h4, h5]; rfl)
    by_cases hi : x.map = []
    · have F0 : Hid ((redF r.maps into least most types) x = 0) := Lib.hid (by rw [PE2.out, hi]; rfl)
      have tn : (str x.map).toList = [] := by rw [toList_str, hi]
      clear hi PE PE2
      have HAN : Hid (res = if (l.take k).any (sameRd x) then 4 else pairGo (redF r.maps into least most types) sameRd 4 l (l.drop (k + 1)) (k + 1)) := Lib.hid (pair_ok HAT.out F0.out)
      clear HAT F0
      go_wp2_with (go_at_call 89; refine (within_any _ _ _ _).mono ?_; rintro e w' ⟨rfl, rfl⟩)
      clear xc0 xc1 xc2 xc3 xc4 tn
      go_loopg [74] k (fun gh ix wq => ∃ j : Nat, j + gh = k ∧ ix = .int .i64 j ∧ Hid (RB r w wq) ∧ Hid (HasC 192 gx x.C wq) ∧ Hid ((l.take k).any (sameRd x) = ((l.take k).drop j).any (sameRd x)))
      case atStart => exact ⟨0, by omega, rfl, H5, X5, Lib.hid rfl⟩
      case round =>
        obtain ⟨j, hj, rfl, HQ, XQ, HAY⟩ := hrel
        by_cases hjl : j < k
        case neg =>
          have E : Hid (pairGo (redF r.maps into least most types) sameRd 4 l (l.drop (k + 1)) (k + 1) = res) := Lib.hid (pair_done HAN.out HAY.out hjl).symm
          go_wp2_with fail
          go_roundg (l.length - (k + 1))
          case measure => omega
          case rel => exact ⟨k + 1, by omega, by go_num, HQ, E⟩
        have hjn : j < l.length := by omega
        obtain ⟨g', o', c'', e', -, hg', R0⟩ := (HLS.out).elem (n := 5) (by decide) (fun _ => rfl) hjn
        rw [HV.out] at e'
        injection e' with e1 e2 e3
        injection e1 with e1
        injection e1 with e1 e4
        subst e1 e4
        have HST := Lib.hid (take_step (all := l) (p := sameRd x) hjl hjn)
        have r1 := Lib.hid (rangeBelow R0 (HQ.out.b.mono HBB.out) hg')
        clear R0 e2 e3
        generalize l[j] = y at HST r1
        have hjk : (j : Int) < k := by omega
        go_upto_region 13 with (first | (refine wpList_loadRow rfl 192 _ rfl rfl r1.out Tryz.rowRd Tryz.sizeRd ?_) | (refine wpList_storeRow rfl 192 _ _ rfl rfl rfl (HasC.new wr _ _) rfl Tryz.sizeRd (Rd.one y) ?_; intro w6 hz1 hz2))
        have H6 := Lib.hid (HQ.out.keep (new_below hz2))
        have X6 := Lib.hid (XQ.out.keep (new_below hz2))
        have Y6 := hz1
        clear hz1 hz2 r1 HQ XQ
        generalize wr.heap.size = gy at Y6 ⊢
        replace Y6 := Lib.hid Y6
        have xc0 : w6.cell? ⟨gx, 0, none⟩ = some (.int .i64 x.frm) := X6.out.cell 0
        have yc0 : w6.cell? ⟨gy, 0, none⟩ = some (.int .i64 y.frm) := Y6.out.cell 0
        have CC : Hid (sameRd x y = (y.frm == x.frm)) := Lib.hid rfl
        by_cases ha : y.frm = x.frm
        · have da : (y.frm == x.frm) = true := by simpa using ha
          have CD : Hid (sameRd x y = true) := Lib.hid (by rw [CC.out, da])
          clear ha
          have E : Hid (res = 4) := Lib.hid (pair_hit HAN.out HAY.out (by rw [HST.out, CD.out]))
          go_wp2_with fail
          go_ret
          exact ⟨ret_int E.out.symm, H6.out.b⟩
        have da : (y.frm == x.frm) = false := by simpa using ha
        have CD : Hid (sameRd x y = false) := Lib.hid (by rw [CC.out, da])
        clear ha
        have EN : Hid ((l.take k).any (sameRd x) = ((l.take k).drop (j + 1)).any (sameRd x)) := Lib.hid (pair_next HAY.out (by rw [HST.out, CD.out]))
        go_wp2_with fail
        go_roundg (k - (j + 1))
        case measure => omega
        case rel => exact ⟨j + 1, by omega, by go_num, H6, X6, EN⟩
    obtain ⟨i1, i2, i3⟩ := ne_str hi
    have PI : Hid (lacksB (·.name) r.maps x.map = decide (idxF (fun y => y.name == x.map) r.maps 0 < 0)) := Lib.hid (by unfold lacksB; rw [i1]; rfl)
    clear hi PE
    go_wp2_with (first | (go_at_call 89; refine (within_any _ _ _ _).mono ?_; rintro e w' ⟨rfl, rfl⟩) | (refine wpList_unguard (by rfl) (wpList_loadRow rfl 41 _ rfl rfl H5.out.h.range Tryz.rowRt Tryz.sizeRt ?_)))
    with_reducible refine (routeMap_any r x.map w5 B (HR.out.below (H5.out.b.mono HBB.out)) (Nat.le_trans HBB.out H5.out.b.size)).mono ?_
    rintro e w7 ⟨rfl, hb⟩
    have H7 := Lib.hid (H5.out.keep hb)
    have X7 := Lib.hid (X5.out.keep hb)
    clear hb H5 X5 i1 i2 i3 xc0 xc1 xc2 xc3 xc4
    by_cases hd : idxF (fun y => y.name == x.map) r.maps 0 < 0
    · have di := decide_eq_true hd
      have F1 : Hid ((redF r.maps into least most types) x = 5) := Lib.hid (by rw [PE2.out, PI.out, di]; rfl)
      clear hd
      have E : Hid (res = 5) := Lib.hid ((pair_fail HAT.out (by rw [F1.out]; decide)).trans (F1.out))
      go_wp2_with fail
      go_ret
      exact ⟨ret_int E.out.symm, H7.out.b⟩
    have di := decide_eq_false hd
    have F0 : Hid ((redF r.maps into least most types) x = 0) := Lib.hid (by rw [PE2.out, PI.out, di]; rfl)
    clear hd PE2 PI
    have HAN : Hid (res = if (l.take k).any (sameRd x) then 4 else pairGo (redF r.maps into least most types) sameRd 4 l (l.drop (k + 1)) (k + 1)) := Lib.hid (pair_ok HAT.out F0.out)
    clear HAT F0
    go_wp2_with fail
    go_loopg [74] k (fun gh ix wq => ∃ j : Nat, j + gh = k ∧ ix = .int .i64 j ∧ Hid (RB r w wq) ∧ Hid (HasC 192 gx x.C wq) ∧ Hid ((l.take k).any (sameRd x) = ((l.take k).drop j).any (sameRd x)))
    case atStart => exact ⟨0, by omega, rfl, H7, X7, Lib.hid rfl⟩
    case round =>
      obtain ⟨j, hj, rfl, HQ, XQ, HAY⟩ := hrel
      by_cases hjl : j < k
      case neg =>
        have E : Hid (pairGo (redF r.maps into least most types) sameRd 4 l (l.drop (k + 1)) (k + 1) = res) := Lib.hid (pair_done HAN.out HAY.out hjl).symm
        go_wp2_with fail
        go_roundg (l.length - (k + 1))
        case measure => omega
        case rel => exact ⟨k + 1, by omega, by go_num, HQ, E⟩
      have hjn : j < l.length := by omega
      obtain ⟨g', o', c'', e', -, hg', R0⟩ := (HLS.out).elem (n := 5) (by decide) (fun _ => rfl) hjn
      rw [HV.out] at e'
      injection e' with e1 e2 e3
      injection e1 with e1
      injection e1 with e1 e4
      subst e1 e4
      have HST := Lib.hid (take_step (all := l) (p := sameRd x) hjl hjn)
      have r1 := Lib.hid (rangeBelow R0 (HQ.out.b.mono HBB.out) hg')
      clear R0 e2 e3
      generalize l[j] = y at HST r1
      have hjk : (j : Int) < k := by omega
      go_upto_region 13 with (first | (refine wpList_loadRow rfl 192 _ rfl rfl r1.out Tryz.rowRd Tryz.sizeRd ?_) | (refine wpList_storeRow rfl 192 _ _ rfl rfl rfl (HasC.new wr _ _) rfl Tryz.sizeRd (Rd.one y) ?_; intro w6 hz1 hz2))
      have H6 := Lib.hid (HQ.out.keep (new_below hz2))
      have X6 := Lib.hid (XQ.out.keep (new_below hz2))
      have Y6 := hz1
      clear hz1 hz2 r1 HQ XQ
      generalize wr.heap.size = gy at Y6 ⊢
      replace Y6 := Lib.hid Y6
      have xc0 : w6.cell? ⟨gx, 0, none⟩ = some (.int .i64 x.frm) := X6.out.cell 0
      have yc0 : w6.cell? ⟨gy, 0, none⟩ = some (.int .i64 y.frm) := Y6.out.cell 0
      have CC : Hid (sameRd x y = (y.frm == x.frm)) := Lib.hid rfl
      by_cases ha : y.frm = x.frm
      · have da : (y.frm == x.frm) = true := by simpa using ha
        have CD : Hid (sameRd x y = true) := Lib.hid (by rw [CC.out, da])
        clear ha
        have E : Hid (res = 4) := Lib.hid (pair_hit HAN.out HAY.out (by rw [HST.out, CD.out]))
        go_wp2_with fail
        go_ret
        exact ⟨ret_int E.out.symm, H6.out.b⟩
      have da : (y.frm == x.frm) = false := by simpa using ha
      have CD : Hid (sameRd x y = false) := Lib.hid (by rw [CC.out, da])
      clear ha
      have EN : Hid ((l.take k).any (sameRd x) = ((l.take k).drop (j + 1)).any (sameRd x)) := Lib.hid (pair_next HAY.out (by rw [HST.out, CD.out]))
      go_wp2_with fail
      go_roundg (k - (j + 1))
      case measure => omega
      case rel => exact ⟨j + 1, by omega, by go_num, H6, X6, EN⟩
end Go.Proofs.YtmddfkpkddemnaaGreatDoor
namespace Go.Proofs.YtmddfkpkddemnaaGreatDoor
open Go.RowKit
def nbF (maps : List RMap) (x : Nb) : Int := if !(x.addr == 0) && withinB x.asn 1 65535 then (if lacksB (·.name) maps x.inn || lacksB (·.name) maps x.out then 5 else 0) else 1
def sameNb (x y : Nb) : Bool := y.addr == x.addr
def nbsE (maps : List RMap) (l : List Nb) : Int := pairE 8 (nbF maps) sameNb 4 l
set_option maxRecDepth 100000 in
set_option maxHeartbeats 4000000 in
theorem checkNeighbors_any (r : Rt) (w : World) (B : Nat) (h : r.at w B) (hB : B ≤ w.heap.size) : Calls Tryz.prog 161 #[.agg r.C] w fun e w' => e = .returned (.int .i64 (nbsE r.maps r.nb)) ∧ Below w.heap.size w w' := by
  have H0 := Lib.hid (RB.start r w)
  have HR := Lib.hid h
  have HBB := Lib.hid hB
  obtain ⟨A, c, hv, hle, -⟩ := h.hnb
  have HL : Hid (∀ w', RB r w w' → w'.cell? ⟨w.heap.size, 20, none⟩ = some (.slice A r.nb.length c)) := Lib.hid (fun w' h => by rw [← hv]; exact h.h.cell 20)
  have HV := Lib.hid hv
  clear h hv hB
  have c2 := HL.out _ H0.out
  obtain ⟨res, hres⟩ : ∃ res, nbsE r.maps r.nb = res := ⟨_, rfl⟩
  rw [hres]
  by_cases h8 : 8 < r.nb.length
  · have E : Hid (res = 7) := Lib.hid (by rw [← hres]; exact if_pos h8)
    clear hres
    go_enter Tryz.func161, Tryz.ntmps161
    go_wp2_with fail
    go_ret
    exact ⟨ret_int E.out.symm, H0.out.b⟩
  have d8 : decide ((8 : Int) < r.nb.length) = false := by simp; omega
  have E : Hid (pairGo (nbF r.maps) sameNb 4 r.nb r.nb 0 = res) := Lib.hid (by rw [← hres]; exact (if_neg h8).symm)
  clear hres
  go_enter Tryz.func161, Tryz.ntmps161
  go_wp2_with fail
  clear c2 d8
  go_loopg [16] r.nb.length (fun gh ix wr => ∃ k : Nat, k + gh = r.nb.length ∧ ix = .int .i64 k ∧ Hid (RB r w wr) ∧ Hid (pairGo (nbF r.maps) sameNb 4 r.nb (r.nb.drop k) k = res))
  case atStart => exact ⟨0, by omega, rfl, H0, E⟩
  case round =>
    obtain ⟨k, hk, rfl, HW, HG⟩ := hrel
    clear H0 E
    by_cases hlt : k < r.nb.length
    case neg =>
      have E := Lib.hid (pairGo_end hlt HG.out)
      go_wp2_with fail
      go_ret
      exact ⟨ret_int E.out.symm, HW.out.b⟩
    have HAT := Lib.hid (pairGo_at hlt HG.out)
    obtain ⟨g, o, c', e', -, hg, R0⟩ := (HR.out.hnb).elem (n := 4) (by decide) (fun _ => rfl) hlt
    rw [HV.out] at e'
    injection e' with e1 e2 e3
    subst e1 e3
    have r1 := Lib.hid (rangeBelow R0 (HW.out.b.mono HBB.out) hg)
    clear R0 HG e2
    generalize r.nb[k] = x at HAT r1
    go_upto_region 6 with (first | (refine wpList_loadRow rfl 124 _ rfl rfl r1.out Tryz.rowNb Tryz.sizeNb ?_) | (refine wpList_storeRow rfl 124 _ _ rfl rfl rfl (HasC.new wr _ _) rfl Tryz.sizeNb (Nb.one x) ?_; intro w5 hz1 hz2))
    have H5 := Lib.hid (HW.out.keep (new_below hz2))
    have X5 := hz1
    clear hz1 hz2 r1 HW
    generalize wr.heap.size = gx at X5 ⊢
    replace X5 := Lib.hid X5
    have PE : Hid ((nbF r.maps) x = if !(x.addr == 0) && withinB x.asn 1 65535 then (if lacksB (·.name) r.maps x.inn || lacksB (·.name) r.maps x.out then 5 else 0) else 1) := Lib.hid rfl
    have xc0 : w5.cell? ⟨gx, 0, none⟩ = some (.int .u32 (x.addr : Int)) := X5.out.cell 0
    have xc1 : w5.cell? ⟨gx, 1, none⟩ = some (.int .i64 x.asn) := X5.out.cell 1
    by_cases h1 : x.addr = 0
    · have d1 : (x.addr == 0) = true := by simpa using h1
      have d1b : ((x.addr : Int) == 0) = true := by simp; omega
      have F1 : Hid ((nbF r.maps) x = 1) := Lib.hid (by rw [PE.out, d1]; rfl)
      clear h1
      have E : Hid (res = 1) := Lib.hid ((pair_fail HAT.out (by rw [F1.out]; decide)).trans (F1.out))
      go_wp2_with (go_at_call 89; refine (within_any _ _ _ _).mono ?_; rintro e w' ⟨rfl, rfl⟩)
      go_ret
      exact ⟨ret_int E.out.symm, H5.out.b⟩
    have d1 : (x.addr == 0) = false := by simpa using h1
    have d1b : ((x.addr : Int) == 0) = false := by simp; omega
    clear h1
    cases h2 : withinB x.asn 1 65535 with
    | false =>
      have F1 : Hid ((nbF r.maps) x = 1) := Lib.hid (by rw [PE.out, d1, h2]; rfl)
      have E : Hid (res = 1) := Lib.hid ((pair_fail HAT.out (by rw [F1.out]; decide)).trans (F1.out))
      go_wp2_with (go_at_call 89; refine (within_any _ _ _ _).mono ?_; rintro e w' ⟨rfl, rfl⟩)
      go_ret
      exact ⟨ret_int E.out.symm, H5.out.b⟩
    | true =>
    have PE2 : Hid ((nbF r.maps) x = if lacksB (·.name) r.maps x.inn || lacksB (·.name) r.maps x.out then 5 else 0) := Lib.hid (by rw [PE.out, d1, h2]; rfl)
    clear PE
    by_cases hi : x.inn = []
    · have tn : (str x.inn).toList = [] := by rw [toList_str, hi]
      have EI : Hid (lacksB (·.name) r.maps x.inn = false) := Lib.hid (by rw [hi]; rfl)
      clear hi
      have xc2 : w5.cell? ⟨gx, 2, none⟩ = some (.string (str x.inn)) := X5.out.cell 2
      have xc3 : w5.cell? ⟨gx, 3, none⟩ = some (.string (str x.out)) := X5.out.cell 3
      by_cases ho : x.out = []
      · have tno : (str x.out).toList = [] := by rw [toList_str, ho]
        have F0 : Hid ((nbF r.maps) x = 0) := Lib.hid (by rw [PE2.out, EI.out, ho]; rfl)
        clear ho PE2 EI
        have HAN : Hid (res = if (r.nb.take k).any (sameNb x) then 4 else pairGo (nbF r.maps) sameNb 4 r.nb (r.nb.drop (k + 1)) (k + 1)) := Lib.hid (pair_ok HAT.out F0.out)
        clear HAT F0
        have c2 := HL.out _ H5.out
        go_wp2_with (go_at_call 89; refine (within_any _ _ _ _).mono ?_; rintro e w' ⟨rfl, rfl⟩)
        clear c2
        go_loopg [58] k (fun gh ix wq => ∃ j : Nat, j + gh = k ∧ ix = .int .i64 j ∧ Hid (RB r w wq) ∧ Hid (HasC 124 gx x.C wq) ∧ Hid ((r.nb.take k).any (sameNb x) = ((r.nb.take k).drop j).any (sameNb x)))
        case atStart => exact ⟨0, by omega, rfl, H5, X5, Lib.hid rfl⟩
        case round =>
          obtain ⟨j, hj, rfl, HQ, XQ, HAY⟩ := hrel
          by_cases hjl : j < k
          case neg =>
            have E : Hid (pairGo (nbF r.maps) sameNb 4 r.nb (r.nb.drop (k + 1)) (k + 1) = res) := Lib.hid (pair_done HAN.out HAY.out hjl).symm
            go_wp2_with fail
            go_roundg (r.nb.length - (k + 1))
            case measure => omega
            case rel => exact ⟨k + 1, by omega, by go_num, HQ, E⟩
          have hjn : j < r.nb.length := by omega
          obtain ⟨g', o', c'', e', -, hg', R0⟩ := (HR.out.hnb).elem (n := 4) (by decide) (fun _ => rfl) hjn
          rw [HV.out] at e'
          injection e' with e1 e2 e3
          injection e1 with e1
          injection e1 with e1 e4
          subst e1 e4
          have HST := Lib.hid (take_step (all := r.nb) (p := sameNb x) hjl hjn)
          have r1 := Lib.hid (rangeBelow R0 (HQ.out.b.mono HBB.out) hg')
          clear R0 e2 e3
          generalize r.nb[j] = y at HST r1
          have hjk : (j : Int) < k := by omega
          go_upto_region 13 with (first | (refine wpList_loadRow rfl 124 _ rfl rfl r1.out Tryz.rowNb Tryz.sizeNb ?_) | (refine wpList_storeRow rfl 124 _ _ rfl rfl rfl (HasC.new wr _ _) rfl Tryz.sizeNb (Nb.one y) ?_; intro w6 hz1 hz2))
          have H6 := Lib.hid (HQ.out.keep (new_below hz2))
          have X6 := Lib.hid (XQ.out.keep (new_below hz2))
          have Y6 := hz1
          clear hz1 hz2 r1 HQ XQ
          generalize wr.heap.size = gy at Y6 ⊢
          replace Y6 := Lib.hid Y6
          have xc0 : w6.cell? ⟨gx, 0, none⟩ = some (.int .u32 (x.addr : Int)) := X6.out.cell 0
          have yc0 : w6.cell? ⟨gy, 0, none⟩ = some (.int .u32 (y.addr : Int)) := Y6.out.cell 0
          have CC : Hid (sameNb x y = (y.addr == x.addr)) := Lib.hid rfl
          by_cases ha : y.addr = x.addr
          · have da : ((y.addr : Int) == (x.addr : Int)) = true := by rw [ha]; simp
            have CD : Hid (sameNb x y = true) := Lib.hid (by rw [CC.out, ha]; simp)
            clear ha
            have E : Hid (res = 4) := Lib.hid (pair_hit HAN.out HAY.out (by rw [HST.out, CD.out]))
            go_wp2_with fail
            go_ret
            exact ⟨ret_int E.out.symm, H6.out.b⟩
          have da : ((y.addr : Int) == (x.addr : Int)) = false := by simp; omega
          have CD : Hid (sameNb x y = false) := Lib.hid (by rw [CC.out]; simpa using ha)
          clear ha
          have EN : Hid ((r.nb.take k).any (sameNb x) = ((r.nb.take k).drop (j + 1)).any (sameNb x)) := Lib.hid (pair_next HAY.out (by rw [HST.out, CD.out]))
          go_wp2_with fail
          go_roundg (k - (j + 1))
          case measure => omega
          case rel => exact ⟨j + 1, by omega, by go_num, H6, X6, EN⟩
      obtain ⟨o1, o2, o3⟩ := ne_str ho
      have PO : Hid (lacksB (·.name) r.maps x.out = decide (idxF (fun y => y.name == x.out) r.maps 0 < 0)) := Lib.hid (by unfold lacksB; rw [o1]; rfl)
      clear ho
      go_wp2_with (first | (go_at_call 89; refine (within_any _ _ _ _).mono ?_; rintro e w' ⟨rfl, rfl⟩) | (refine wpList_unguard (by rfl) (wpList_loadRow rfl 41 _ rfl rfl H5.out.h.range Tryz.rowRt Tryz.sizeRt ?_)))
      with_reducible refine (routeMap_any r x.out w5 B (HR.out.below (H5.out.b.mono HBB.out)) (Nat.le_trans HBB.out H5.out.b.size)).mono ?_
      rintro e w9 ⟨rfl, hb⟩
      have H9 := Lib.hid (H5.out.keep hb)
      have X9 := Lib.hid (X5.out.keep hb)
      clear hb 
      by_cases hd : idxF (fun y => y.name == x.out) r.maps 0 < 0
      · have di := decide_eq_true hd
        have F1 : Hid ((nbF r.maps) x = 5) := Lib.hid (by rw [PE2.out, EI.out, PO.out, di]; rfl)
        clear hd
        have E : Hid (res = 5) := Lib.hid ((pair_fail HAT.out (by rw [F1.out]; decide)).trans (F1.out))
        go_wp2_with fail
        go_ret
        exact ⟨ret_int E.out.symm, H9.out.b⟩
      have di2 := decide_eq_false hd
      have F0 : Hid ((nbF r.maps) x = 0) := Lib.hid (by rw [PE2.out, EI.out, PO.out, di2]; rfl)
      clear hd PE2 EI PO
      have HAN : Hid (res = if (r.nb.take k).any (sameNb x) then 4 else pairGo (nbF r.maps) sameNb 4 r.nb (r.nb.drop (k + 1)) (k + 1)) := Lib.hid (pair_ok HAT.out F0.out)
      clear HAT F0
      have c2 := HL.out _ H9.out
      go_wp2_with fail
      clear c2
      go_loopg [58] k (fun gh ix wq => ∃ j : Nat, j + gh = k ∧ ix = .int .i64 j ∧ Hid (RB r w wq) ∧ Hid (HasC 124 gx x.C wq) ∧ Hid ((r.nb.take k).any (sameNb x) = ((r.nb.take k).drop j).any (sameNb x)))
      case atStart => exact ⟨0, by omega, rfl, H9, X9, Lib.hid rfl⟩
      case round =>
        obtain ⟨j, hj, rfl, HQ, XQ, HAY⟩ := hrel
        by_cases hjl : j < k
        case neg =>
          have E : Hid (pairGo (nbF r.maps) sameNb 4 r.nb (r.nb.drop (k + 1)) (k + 1) = res) := Lib.hid (pair_done HAN.out HAY.out hjl).symm
          go_wp2_with fail
          go_roundg (r.nb.length - (k + 1))
          case measure => omega
          case rel => exact ⟨k + 1, by omega, by go_num, HQ, E⟩
        have hjn : j < r.nb.length := by omega
        obtain ⟨g', o', c'', e', -, hg', R0⟩ := (HR.out.hnb).elem (n := 4) (by decide) (fun _ => rfl) hjn
        rw [HV.out] at e'
        injection e' with e1 e2 e3
        injection e1 with e1
        injection e1 with e1 e4
        subst e1 e4
        have HST := Lib.hid (take_step (all := r.nb) (p := sameNb x) hjl hjn)
        have r1 := Lib.hid (rangeBelow R0 (HQ.out.b.mono HBB.out) hg')
        clear R0 e2 e3
        generalize r.nb[j] = y at HST r1
        have hjk : (j : Int) < k := by omega
        go_upto_region 13 with (first | (refine wpList_loadRow rfl 124 _ rfl rfl r1.out Tryz.rowNb Tryz.sizeNb ?_) | (refine wpList_storeRow rfl 124 _ _ rfl rfl rfl (HasC.new wr _ _) rfl Tryz.sizeNb (Nb.one y) ?_; intro w6 hz1 hz2))
        have H6 := Lib.hid (HQ.out.keep (new_below hz2))
        have X6 := Lib.hid (XQ.out.keep (new_below hz2))
        have Y6 := hz1
        clear hz1 hz2 r1 HQ XQ
        generalize wr.heap.size = gy at Y6 ⊢
        replace Y6 := Lib.hid Y6
        have xc0 : w6.cell? ⟨gx, 0, none⟩ = some (.int .u32 (x.addr : Int)) := X6.out.cell 0
        have yc0 : w6.cell? ⟨gy, 0, none⟩ = some (.int .u32 (y.addr : Int)) := Y6.out.cell 0
        have CC : Hid (sameNb x y = (y.addr == x.addr)) := Lib.hid rfl
        by_cases ha : y.addr = x.addr
        · have da : ((y.addr : Int) == (x.addr : Int)) = true := by rw [ha]; simp
          have CD : Hid (sameNb x y = true) := Lib.hid (by rw [CC.out, ha]; simp)
          clear ha
          have E : Hid (res = 4) := Lib.hid (pair_hit HAN.out HAY.out (by rw [HST.out, CD.out]))
          go_wp2_with fail
          go_ret
          exact ⟨ret_int E.out.symm, H6.out.b⟩
        have da : ((y.addr : Int) == (x.addr : Int)) = false := by simp; omega
        have CD : Hid (sameNb x y = false) := Lib.hid (by rw [CC.out]; simpa using ha)
        clear ha
        have EN : Hid ((r.nb.take k).any (sameNb x) = ((r.nb.take k).drop (j + 1)).any (sameNb x)) := Lib.hid (pair_next HAY.out (by rw [HST.out, CD.out]))
        go_wp2_with fail
        go_roundg (k - (j + 1))
        case measure => omega
        case rel => exact ⟨j + 1, by omega, by go_num, H6, X6, EN⟩
    obtain ⟨i1, i2, i3⟩ := ne_str hi
    have PI : Hid (lacksB (·.name) r.maps x.inn = decide (idxF (fun y => y.name == x.inn) r.maps 0 < 0)) := Lib.hid (by unfold lacksB; rw [i1]; rfl)
    clear hi
    have xc2 : w5.cell? ⟨gx, 2, none⟩ = some (.string (str x.inn)) := X5.out.cell 2
    have xc3 : w5.cell? ⟨gx, 3, none⟩ = some (.string (str x.out)) := X5.out.cell 3
    go_wp2_with (first | (go_at_call 89; refine (within_any _ _ _ _).mono ?_; rintro e w' ⟨rfl, rfl⟩) | (refine wpList_unguard (by rfl) (wpList_loadRow rfl 41 _ rfl rfl H5.out.h.range Tryz.rowRt Tryz.sizeRt ?_)))
    with_reducible refine (routeMap_any r x.inn w5 B (HR.out.below (H5.out.b.mono HBB.out)) (Nat.le_trans HBB.out H5.out.b.size)).mono ?_
    rintro e w8 ⟨rfl, hb⟩
    have H8 := Lib.hid (H5.out.keep hb)
    have X8 := Lib.hid (X5.out.keep hb)
    clear hb 
    by_cases hd : idxF (fun y => y.name == x.inn) r.maps 0 < 0
    · have di := decide_eq_true hd
      have F1 : Hid ((nbF r.maps) x = 5) := Lib.hid (by rw [PE2.out, PI.out, di]; rfl)
      clear hd
      have E : Hid (res = 5) := Lib.hid ((pair_fail HAT.out (by rw [F1.out]; decide)).trans (F1.out))
      go_wp2_with fail
      go_ret
      exact ⟨ret_int E.out.symm, H8.out.b⟩
    have di := decide_eq_false hd
    have EI : Hid (lacksB (·.name) r.maps x.inn = false) := Lib.hid (by rw [PI.out, di])
    clear hd PI
    have xc2 : w8.cell? ⟨gx, 2, none⟩ = some (.string (str x.inn)) := X8.out.cell 2
    have xc3 : w8.cell? ⟨gx, 3, none⟩ = some (.string (str x.out)) := X8.out.cell 3
    by_cases ho : x.out = []
    · have tno : (str x.out).toList = [] := by rw [toList_str, ho]
      have F0 : Hid ((nbF r.maps) x = 0) := Lib.hid (by rw [PE2.out, EI.out, ho]; rfl)
      clear ho PE2 EI
      have HAN : Hid (res = if (r.nb.take k).any (sameNb x) then 4 else pairGo (nbF r.maps) sameNb 4 r.nb (r.nb.drop (k + 1)) (k + 1)) := Lib.hid (pair_ok HAT.out F0.out)
      clear HAT F0
      have c2 := HL.out _ H8.out
      go_wp2_with fail
      clear c2
      go_loopg [58] k (fun gh ix wq => ∃ j : Nat, j + gh = k ∧ ix = .int .i64 j ∧ Hid (RB r w wq) ∧ Hid (HasC 124 gx x.C wq) ∧ Hid ((r.nb.take k).any (sameNb x) = ((r.nb.take k).drop j).any (sameNb x)))
      case atStart => exact ⟨0, by omega, rfl, H8, X8, Lib.hid rfl⟩
      case round =>
        obtain ⟨j, hj, rfl, HQ, XQ, HAY⟩ := hrel
        by_cases hjl : j < k
        case neg =>
          have E : Hid (pairGo (nbF r.maps) sameNb 4 r.nb (r.nb.drop (k + 1)) (k + 1) = res) := Lib.hid (pair_done HAN.out HAY.out hjl).symm
          go_wp2_with fail
          go_roundg (r.nb.length - (k + 1))
          case measure => omega
          case rel => exact ⟨k + 1, by omega, by go_num, HQ, E⟩
        have hjn : j < r.nb.length := by omega
        obtain ⟨g', o', c'', e', -, hg', R0⟩ := (HR.out.hnb).elem (n := 4) (by decide) (fun _ => rfl) hjn
        rw [HV.out] at e'
        injection e' with e1 e2 e3
        injection e1 with e1
        injection e1 with e1 e4
        subst e1 e4
        have HST := Lib.hid (take_step (all := r.nb) (p := sameNb x) hjl hjn)
        have r1 := Lib.hid (rangeBelow R0 (HQ.out.b.mono HBB.out) hg')
        clear R0 e2 e3
        generalize r.nb[j] = y at HST r1
        have hjk : (j : Int) < k := by omega
        go_upto_region 13 with (first | (refine wpList_loadRow rfl 124 _ rfl rfl r1.out Tryz.rowNb Tryz.sizeNb ?_) | (refine wpList_storeRow rfl 124 _ _ rfl rfl rfl (HasC.new wr _ _) rfl Tryz.sizeNb (Nb.one y) ?_; intro w6 hz1 hz2))
        have H6 := Lib.hid (HQ.out.keep (new_below hz2))
        have X6 := Lib.hid (XQ.out.keep (new_below hz2))
        have Y6 := hz1
        clear hz1 hz2 r1 HQ XQ
        generalize wr.heap.size = gy at Y6 ⊢
        replace Y6 := Lib.hid Y6
        have xc0 : w6.cell? ⟨gx, 0, none⟩ = some (.int .u32 (x.addr : Int)) := X6.out.cell 0
        have yc0 : w6.cell? ⟨gy, 0, none⟩ = some (.int .u32 (y.addr : Int)) := Y6.out.cell 0
        have CC : Hid (sameNb x y = (y.addr == x.addr)) := Lib.hid rfl
        by_cases ha : y.addr = x.addr
        · have da : ((y.addr : Int) == (x.addr : Int)) = true := by rw [ha]; simp
          have CD : Hid (sameNb x y = true) := Lib.hid (by rw [CC.out, ha]; simp)
          clear ha
          have E : Hid (res = 4) := Lib.hid (pair_hit HAN.out HAY.out (by rw [HST.out, CD.out]))
          go_wp2_with fail
          go_ret
          exact ⟨ret_int E.out.symm, H6.out.b⟩
        have da : ((y.addr : Int) == (x.addr : Int)) = false := by simp; omega
        have CD : Hid (sameNb x y = false) := Lib.hid (by rw [CC.out]; simpa using ha)
        clear ha
        have EN : Hid ((r.nb.take k).any (sameNb x) = ((r.nb.take k).drop (j + 1)).any (sameNb x)) := Lib.hid (pair_next HAY.out (by rw [HST.out, CD.out]))
        go_wp2_with fail
        go_roundg (k - (j + 1))
        case measure => omega
        case rel => exact ⟨j + 1, by omega, by go_num, H6, X6, EN⟩
    obtain ⟨o1, o2, o3⟩ := ne_str ho
    have PO : Hid (lacksB (·.name) r.maps x.out = decide (idxF (fun y => y.name == x.out) r.maps 0 < 0)) := Lib.hid (by unfold lacksB; rw [o1]; rfl)
    clear ho
    go_wp2_with (first | fail | (refine wpList_unguard (by rfl) (wpList_loadRow rfl 41 _ rfl rfl H8.out.h.range Tryz.rowRt Tryz.sizeRt ?_)))
    with_reducible refine (routeMap_any r x.out w8 B (HR.out.below (H8.out.b.mono HBB.out)) (Nat.le_trans HBB.out H8.out.b.size)).mono ?_
    rintro e w9 ⟨rfl, hb⟩
    have H9 := Lib.hid (H8.out.keep hb)
    have X9 := Lib.hid (X8.out.keep hb)
    clear hb 
    by_cases hd : idxF (fun y => y.name == x.out) r.maps 0 < 0
    · have di := decide_eq_true hd
      have F1 : Hid ((nbF r.maps) x = 5) := Lib.hid (by rw [PE2.out, EI.out, PO.out, di]; rfl)
      clear hd
      have E : Hid (res = 5) := Lib.hid ((pair_fail HAT.out (by rw [F1.out]; decide)).trans (F1.out))
      go_wp2_with fail
      go_ret
      exact ⟨ret_int E.out.symm, H9.out.b⟩
    have di2 := decide_eq_false hd
    have F0 : Hid ((nbF r.maps) x = 0) := Lib.hid (by rw [PE2.out, EI.out, PO.out, di2]; rfl)
    clear hd PE2 EI PO
    have HAN : Hid (res = if (r.nb.take k).any (sameNb x) then 4 else pairGo (nbF r.maps) sameNb 4 r.nb (r.nb.drop (k + 1)) (k + 1)) := Lib.hid (pair_ok HAT.out F0.out)
    clear HAT F0
    have c2 := HL.out _ H9.out
    go_wp2_with fail
    clear c2
    go_loopg [58] k (fun gh ix wq => ∃ j : Nat, j + gh = k ∧ ix = .int .i64 j ∧ Hid (RB r w wq) ∧ Hid (HasC 124 gx x.C wq) ∧ Hid ((r.nb.take k).any (sameNb x) = ((r.nb.take k).drop j).any (sameNb x)))
    case atStart => exact ⟨0, by omega, rfl, H9, X9, Lib.hid rfl⟩
    case round =>
      obtain ⟨j, hj, rfl, HQ, XQ, HAY⟩ := hrel
      by_cases hjl : j < k
      case neg =>
        have E : Hid (pairGo (nbF r.maps) sameNb 4 r.nb (r.nb.drop (k + 1)) (k + 1) = res) := Lib.hid (pair_done HAN.out HAY.out hjl).symm
        go_wp2_with fail
        go_roundg (r.nb.length - (k + 1))
        case measure => omega
        case rel => exact ⟨k + 1, by omega, by go_num, HQ, E⟩
      have hjn : j < r.nb.length := by omega
      obtain ⟨g', o', c'', e', -, hg', R0⟩ := (HR.out.hnb).elem (n := 4) (by decide) (fun _ => rfl) hjn
      rw [HV.out] at e'
      injection e' with e1 e2 e3
      injection e1 with e1
      injection e1 with e1 e4
      subst e1 e4
      have HST := Lib.hid (take_step (all := r.nb) (p := sameNb x) hjl hjn)
      have r1 := Lib.hid (rangeBelow R0 (HQ.out.b.mono HBB.out) hg')
      clear R0 e2 e3
      generalize r.nb[j] = y at HST r1
      have hjk : (j : Int) < k := by omega
      go_upto_region 13 with (first | (refine wpList_loadRow rfl 124 _ rfl rfl r1.out Tryz.rowNb Tryz.sizeNb ?_) | (refine wpList_storeRow rfl 124 _ _ rfl rfl rfl (HasC.new wr _ _) rfl Tryz.sizeNb (Nb.one y) ?_; intro w6 hz1 hz2))
      have H6 := Lib.hid (HQ.out.keep (new_below hz2))
      have X6 := Lib.hid (XQ.out.keep (new_below hz2))
      have Y6 := hz1
      clear hz1 hz2 r1 HQ XQ
      generalize wr.heap.size = gy at Y6 ⊢
      replace Y6 := Lib.hid Y6
      have xc0 : w6.cell? ⟨gx, 0, none⟩ = some (.int .u32 (x.addr : Int)) := X6.out.cell 0
      have yc0 : w6.cell? ⟨gy, 0, none⟩ = some (.int .u32 (y.addr : Int)) := Y6.out.cell 0
      have CC : Hid (sameNb x y = (y.addr == x.addr)) := Lib.hid rfl
      by_cases ha : y.addr = x.addr
      · have da : ((y.addr : Int) == (x.addr : Int)) = true := by rw [ha]; simp
        have CD : Hid (sameNb x y = true) := Lib.hid (by rw [CC.out, ha]; simp)
        clear ha
        have E : Hid (res = 4) := Lib.hid (pair_hit HAN.out HAY.out (by rw [HST.out, CD.out]))
        go_wp2_with fail
        go_ret
        exact ⟨ret_int E.out.symm, H6.out.b⟩
      have da : ((y.addr : Int) == (x.addr : Int)) = false := by simp; omega
      have CD : Hid (sameNb x y = false) := Lib.hid (by rw [CC.out]; simpa using ha)
      clear ha
      have EN : Hid ((r.nb.take k).any (sameNb x) = ((r.nb.take k).drop (j + 1)).any (sameNb x)) := Lib.hid (pair_next HAY.out (by rw [HST.out, CD.out]))
      go_wp2_with fail
      go_roundg (k - (j + 1))
      case measure => omega
      case rel => exact ⟨j + 1, by omega, by go_num, H6, X6, EN⟩
end Go.Proofs.YtmddfkpkddemnaaGreatDoor
namespace Go.Proofs.YtmddfkpkddemnaaGreatDoor
open Go.RowKit
/-- A run of a block's cells. -/
theorem HasC.sub {T : TypeId} {g : Nat} {cs : Array Value} {w : World} (h : HasC T g cs w) (f : Nat) (ds : Array Value) (hd : ∀ j, j < ds.size → cs[f + j]? = ds[j]?) : w.rangeAt g f ds.toList := fun j v hv => by
  rw [h.cell (f + j)]
  have hj : j < ds.size := by
    rcases Nat.lt_or_ge j ds.size with h | h
    · exact h
    · rw [List.getElem?_eq_none (by simpa using h)] at hv; cases hv
  rw [hd j hj]
  simpa using hv
/-- The router's block, and one block besides. -/
structure RBL (r : Rt) (w0 : World) (T : TypeId) (gl : Nat) (cs : Array Value) (w : World) : Prop where
  h : HasC 41 w0.heap.size r.C w
  b : Below w0.heap.size w0 w
  l : HasC T gl cs w
theorem RBL.keep {r : Rt} {w0 : World} {T : TypeId} {gl : Nat} {cs : Array Value} {w w' : World} (h : RBL r w0 T gl cs w) (hb : Below w.heap.size w w') : RBL r w0 T gl cs w' := ⟨h.h.keep hb, h.b.trans (hb.mono h.b.size), h.l.keep hb⟩
theorem fin_err {res pg X e : Int} (h : res = if pg = 0 then X else pg) (h1 : pg = e) (h2 : e ≠ 0) : res = e := by rw [h, if_neg (by rw [h1]; exact h2), h1]
theorem fin_ok {res pg X : Int} (h : res = if pg = 0 then X else pg) (h1 : pg = 0) : res = X := by rw [h, if_pos h1]
theorem Tryz.rowLS : (Tryz.prog.underlying 31).map TypeDesc.isRow = some true := by kernel_rfl
theorem Tryz.sizeLS : (Tryz.prog.info? 31).map (·.size) = some 4 := by kernel_rfl
def clashAR (x y : AR) : Bool := y.area == x.area && overP y.pa y.pl x.pa x.pl
def arF (x : AR) : Int := if withinB x.area 0 255 && validP x.pa x.pl then 0 else 1
def lnkE (r : Rt) : Int := if r.lsOn then (if withinB r.lsAdmin 1 255 then (if pairE 4 arF clashAR 6 r.ranges = 0 then redE r.maps 3 0 16777215 2 r.lsRed else pairE 4 arF clashAR 6 r.ranges) else 1) else if !(r.lsAdmin == 0) || decide ((0 : Int) < r.ranges.length) || decide ((0 : Int) < r.lsRed.length) then 1 else 0
set_option maxRecDepth 100000 in
set_option maxHeartbeats 4000000 in
theorem checkLinkState_any (r : Rt) (w : World) (B : Nat) (h : r.at w B) (hB : B ≤ w.heap.size) (hf : ∀ x ∈ r.ranges, x.fit) : Calls Tryz.prog 97 #[.agg r.C] w fun e w' => e = .returned (.int .i64 (lnkE r)) ∧ Below w.heap.size w w' := by
  have H0 := RB.start r w
  have HR := Lib.hid h
  have HBB := Lib.hid hB
  have HF := Lib.hid hf
  clear hf
  obtain ⟨A, c, hv, hle, -⟩ := h.hranges
  obtain ⟨A2, c2, hv2, hle2, -⟩ := h.hlsRed
  have HV := Lib.hid hv
  have HLR := h.hlsRed
  rw [hv2] at HLR
  replace HLR := Lib.hid HLR
  clear h hB
  have HO : (#[.bool r.lsOn, .int .i64 r.lsAdmin, .slice A r.ranges.length c, .slice A2 r.lsRed.length c2] : Array Value).all (·.oneCell') = true := by
    rw [Array.all_eq_true_iff_forall_mem]
    intro v hv
    simp only [List.mem_toArray, List.mem_cons, List.not_mem_nil, or_false] at hv
    rcases hv with rfl | rfl | rfl | rfl <;> rfl
  have HS : (w.alloc (.cells r.C 41)).rangeAt w.heap.size 8 (#[.bool r.lsOn, .int .i64 r.lsAdmin, .slice A r.ranges.length c, .slice A2 r.lsRed.length c2] : Array Value).toList := H0.h.sub 8 #[.bool r.lsOn, .int .i64 r.lsAdmin, .slice A r.ranges.length c, .slice A2 r.lsRed.length c2] (fun j hj => by
    have hj' : j < 4 := hj
    rcases (show j = 0 ∨ j = 1 ∨ j = 2 ∨ j = 3 by omega) with rfl | rfl | rfl | rfl <;> first | rfl | (show some _ = some _; simp only [Option.some.injEq]; assumption))
  clear hv hv2
  have E : Hid (lnkE r = if r.lsOn then (if withinB r.lsAdmin 1 255 then (if pairE 4 arF clashAR 6 r.ranges = 0 then redE r.maps 3 0 16777215 2 r.lsRed else pairE 4 arF clashAR 6 r.ranges) else 1) else if !(r.lsAdmin == 0) || decide ((0 : Int) < r.ranges.length) || decide ((0 : Int) < r.lsRed.length) then 1 else 0) := Lib.hid rfl
  generalize lnkE r = res at E ⊢
  have H0h := Lib.hid H0
  have HSh := Lib.hid HS
  clear H0 HS
  go_enter Tryz.func97, Tryz.ntmps97
  go_upto_region 2 with (refine wpList_loadRow rfl 31 _ rfl rfl HSh.out Tryz.rowLS Tryz.sizeLS ?_)
  have H5 : Hid (RBL r w 31 (w.alloc (.cells r.C 41)).heap.size #[.bool r.lsOn, .int .i64 r.lsAdmin, .slice A r.ranges.length c, .slice A2 r.lsRed.length c2] ((w.alloc (.cells r.C 41)).alloc (.cells #[.bool r.lsOn, .int .i64 r.lsAdmin, .slice A r.ranges.length c, .slice A2 r.lsRed.length c2] 31))) := Lib.hid ⟨(H0h.out.keep ((Below.refl _ _).alloc (Nat.le_refl _) _)).h, (H0h.out.keep ((Below.refl _ _).alloc (Nat.le_refl _) _)).b, HasC.new _ _ _⟩
  clear H0h HSh HO
  generalize hw5 : (w.alloc (.cells r.C 41)).alloc (.cells #[.bool r.lsOn, .int .i64 r.lsAdmin, .slice A r.ranges.length c, .slice A2 r.lsRed.length c2] 31) = w5 at H5 ⊢
  clear hw5
  rw [show (w.alloc (.cells r.C 41)).heap.size = w.heap.size + 1 from by simp] at H5
  generalize w.heap.size + 1 = gl at H5 ⊢
  have lc0 : w5.cell? ⟨gl, 0, none⟩ = some (.bool r.lsOn) := H5.out.l.cell 0
  have lc1 : w5.cell? ⟨gl, 1, none⟩ = some (.int .i64 r.lsAdmin) := H5.out.l.cell 1
  have lc2 : w5.cell? ⟨gl, 2, none⟩ = some (.slice A r.ranges.length c) := H5.out.l.cell 2
  have lc3 : w5.cell? ⟨gl, 3, none⟩ = some (.slice A2 r.lsRed.length c2) := H5.out.l.cell 3
  have HC2 : Hid (∀ w', RBL r w 31 gl #[.bool r.lsOn, .int .i64 r.lsAdmin, .slice A r.ranges.length c, .slice A2 r.lsRed.length c2] w' → w'.cell? ⟨gl, 2, none⟩ = some (.slice A r.ranges.length c)) := Lib.hid (fun w' h => h.l.cell 2)
  have HC3 : Hid (∀ w', RBL r w 31 gl #[.bool r.lsOn, .int .i64 r.lsAdmin, .slice A r.ranges.length c, .slice A2 r.lsRed.length c2] w' → w'.cell? ⟨gl, 3, none⟩ = some (.slice A2 r.lsRed.length c2)) := Lib.hid (fun w' h => h.l.cell 3)
  generalize (#[.bool r.lsOn, .int .i64 r.lsAdmin, .slice A r.ranges.length c, .slice A2 r.lsRed.length c2] : Array Value) = cs at H5 HC2 HC3
  cases hon : r.lsOn with
  | false =>
    rw [hon] at lc0
    have EF : Hid (res = if !(r.lsAdmin == 0) || decide ((0 : Int) < r.ranges.length) || decide ((0 : Int) < r.lsRed.length) then 1 else 0) := Lib.hid (by rw [E.out, hon]; rfl)
    clear hon E
    by_cases ha : r.lsAdmin = 0
    case neg =>
      have d1 : (r.lsAdmin == 0) = false := by simpa using ha
      have d2 : (r.lsAdmin != 0) = true := by simpa using ha
      clear ha
      go_wp2_with fail
      go_ret
      exact ⟨ret_int (by rw [EF.out, d1]; rfl), H5.out.b⟩
    rw [ha] at lc1
    have EF2 : Hid (res = if decide ((0 : Int) < r.ranges.length) || decide ((0 : Int) < r.lsRed.length) then 1 else 0) := Lib.hid (by rw [EF.out, ha]; rfl)
    clear ha EF
    clear HR HF HV HLR
    generalize r.ranges.length = n1 at *
    generalize r.lsRed.length = n2 at *
    by_cases z1 : n1 = 0
    case neg =>
      have z1' : 0 < n1 := by omega
      go_wp2_with fail
      all_goals (go_ret; exact ⟨ret_int (by rw [EF2.out, decide_eq_true (show (0 : Int) < n1 by omega)]; rfl), H5.out.b⟩)
    subst z1
    by_cases z2 : n2 = 0
    case neg =>
      have z2' : 0 < n2 := by omega
      go_wp2_with fail
      all_goals (go_ret; exact ⟨ret_int (by rw [EF2.out, decide_eq_true (show (0 : Int) < n2 by omega)]; rfl), H5.out.b⟩)
    subst z2
    go_wp2_with fail
    go_ret
    exact ⟨ret_int (by rw [EF2.out]; rfl), H5.out.b⟩
  | true =>
  rw [hon] at lc0
  have ET : Hid (res = if withinB r.lsAdmin 1 255 then (if pairE 4 arF clashAR 6 r.ranges = 0 then redE r.maps 3 0 16777215 2 r.lsRed else pairE 4 arF clashAR 6 r.ranges) else 1) := Lib.hid (by rw [E.out, hon]; rfl)
  clear hon E
  cases hw : withinB r.lsAdmin 1 255 with
  | false =>
    go_wp2_with (go_at_call 89; refine (within_any _ _ _ _).mono ?_; rintro e w' ⟨rfl, rfl⟩)
    go_ret
    exact ⟨ret_int (by rw [ET.out, hw]; rfl), H5.out.b⟩
  | true =>
  obtain ⟨pg, hpg⟩ : ∃ pg, pairE 4 arF clashAR 6 r.ranges = pg := ⟨_, rfl⟩
  have HP : Hid (res = if pg = 0 then redE r.maps 3 0 16777215 2 r.lsRed else pg) := Lib.hid (by rw [ET.out, hw, hpg]; rfl)
  clear ET
  by_cases h8 : 4 < r.ranges.length
  · have E : Hid (pg = 7) := Lib.hid (by rw [← hpg]; exact if_pos h8)
    have E2 := Lib.hid (fin_err HP.out E.out (by decide))
    have d8 : decide ((4 : Int) < r.ranges.length) = true := by simp; omega
    clear hpg
    go_wp2_with (go_at_call 89; refine (within_any _ _ _ _).mono ?_; rintro e w' ⟨rfl, rfl⟩)
    go_ret
    exact ⟨ret_int E2.out.symm, H5.out.b⟩
  have d8 : decide ((4 : Int) < r.ranges.length) = false := by simp; omega
  have E : Hid (pairGo arF clashAR 6 r.ranges r.ranges 0 = pg) := Lib.hid (by rw [← hpg]; exact (if_neg h8).symm)
  clear hpg
  have H0 := H5
  go_wp2_with (go_at_call 89; refine (within_any _ _ _ _).mono ?_; rintro e w' ⟨rfl, rfl⟩)
  clear d8 hw lc0 lc1 lc2 lc3 H5
  go_loopg [39] r.ranges.length (fun gh ix wr => ∃ k : Nat, k + gh = r.ranges.length ∧ ix = .int .i64 k ∧ Hid ((RBL r w 31 gl cs) wr) ∧ Hid (pairGo arF clashAR 6 r.ranges (r.ranges.drop k) k = pg))
  case atStart => exact ⟨0, by omega, rfl, H0, E⟩
  case round =>
    obtain ⟨k, hk, rfl, HW, HG⟩ := hrel
    clear H0 E
    by_cases hlt : k < r.ranges.length
    case neg =>
      have E := Lib.hid (pairGo_end hlt HG.out)
      have E2 := Lib.hid (fin_ok HP.out E.out)
      have l3 := HC3.out _ HW.out
      go_wp2_with (first | (refine wpList_loadRow rfl 41 _ rfl rfl HW.out.h.range Tryz.rowRt Tryz.sizeRt ?_))
      with_reducible refine (checkRedist_any r r.lsRed (.slice A2 r.lsRed.length c2) 3 0 16777215 2 _ B (HR.out.below (HW.out.b.mono HBB.out)) (HLR.out.below (HW.out.b.mono HBB.out)) (Nat.le_trans HBB.out HW.out.b.size)).mono ?_
      rintro e w9 ⟨rfl, hb⟩
      have H9 := Lib.hid (HW.out.keep hb)
      clear hb
      go_wp2_with fail
      go_ret
      exact ⟨ret_int E2.out.symm, H9.out.b⟩
    have HAT := Lib.hid (pairGo_at hlt HG.out)
    obtain ⟨g, o, c', e', -, hg, R0⟩ := (HR.out.hranges).elem (n := 3) (by decide) (fun _ => rfl) hlt
    rw [HV.out] at e'
    injection e' with e1 e2 e3
    subst e1 e3
    have r1 := Lib.hid (rangeBelow R0 (HW.out.b.mono HBB.out) hg)
    have FX := Lib.hid (HF.out _ (List.getElem_mem hlt))
    clear R0 HG e2
    generalize r.ranges[k] = x at HAT r1 FX
    go_upto_region 13 with (first | (refine wpList_loadRow rfl 122 _ rfl rfl r1.out Tryz.rowAR Tryz.sizeAR ?_) | (refine wpList_storeRow rfl 122 _ _ rfl rfl rfl (HasC.new wr _ _) rfl Tryz.sizeAR (AR.one x) ?_; intro w5 hz1 hz2))
    have H5 := Lib.hid (HW.out.keep (new_below hz2))
    have X5 := hz1
    clear hz1 hz2 r1 HW
    generalize wr.heap.size = gx at X5 ⊢
    replace X5 := Lib.hid X5
    have PE : Hid (arF x = if withinB x.area 0 255 && validP x.pa x.pl then 0 else 1) := Lib.hid rfl
    have xc0 : w5.cell? ⟨gx, 0, none⟩ = some (.int .i64 x.area) := X5.out.cell 0
    have xc1 : w5.cell? ⟨gx, 1, none⟩ = some (.int .u32 (x.pa : Int)) := X5.out.cell 1
    have xc2 : w5.cell? ⟨gx, 2, none⟩ = some (.int .i64 x.pl) := X5.out.cell 2
    cases h1 : withinB x.area 0 255 with
    | false =>
      have F1 : Hid (arF x = 1) := Lib.hid (by rw [PE.out, h1]; rfl)
      have E : Hid (pg = 1) := Lib.hid ((pair_fail HAT.out (by rw [F1.out]; decide)).trans (F1.out))
      have E := Lib.hid (fin_err HP.out E.out (show (1 : Int) ≠ 0 by decide))
      go_wp2_with (go_at_call 89; refine (within_any _ _ _ _).mono ?_; rintro e w' ⟨rfl, rfl⟩)
      go_ret
      exact ⟨ret_int E.out.symm, H5.out.b⟩
    | true =>
    go_wp2_with (go_at_call 89; refine (within_any _ _ _ _).mono ?_; rintro e w' ⟨rfl, rfl⟩)
    refine (valid_any x.pa x.pl _ FX.out).mono ?_
    rintro e w6 ⟨rfl, hb⟩
    have H6 := Lib.hid (H5.out.keep hb)
    have X6 := Lib.hid (X5.out.keep hb)
    clear hb H5 X5 xc0 xc1 xc2
    cases h2 : validP x.pa x.pl with
    | false =>
      have F1 : Hid (arF x = 1) := Lib.hid (by rw [PE.out, h1, h2]; rfl)
      have E : Hid (pg = 1) := Lib.hid ((pair_fail HAT.out (by rw [F1.out]; decide)).trans (F1.out))
      have E := Lib.hid (fin_err HP.out E.out (show (1 : Int) ≠ 0 by decide))
      go_wp2_with fail
      go_ret
      exact ⟨ret_int E.out.symm, H6.out.b⟩
    | true =>
    have F0 : Hid (arF x = 0) := Lib.hid (by rw [PE.out, h1, h2]; rfl)
    clear PE h1 h2
    have HAN : Hid (pg = if (r.ranges.take k).any (clashAR x) then 6 else pairGo arF clashAR 6 r.ranges (r.ranges.drop (k + 1)) (k + 1)) := Lib.hid (pair_ok HAT.out F0.out)
    clear HAT F0
    have c2 := HC2.out _ H6.out
    go_wp2_with fail
    clear c2
    go_loopg [59] k (fun gh ix wq => ∃ j : Nat, j + gh = k ∧ ix = .int .i64 j ∧ Hid ((RBL r w 31 gl cs) wq) ∧ Hid (HasC 122 gx x.C wq) ∧ Hid ((r.ranges.take k).any (clashAR x) = ((r.ranges.take k).drop j).any (clashAR x)))
    case atStart => exact ⟨0, by omega, rfl, H6, X6, Lib.hid rfl⟩
    case round =>
      obtain ⟨j, hj, rfl, HQ, XQ, HAY⟩ := hrel
      by_cases hjl : j < k
      case neg =>
        have E : Hid (pairGo arF clashAR 6 r.ranges (r.ranges.drop (k + 1)) (k + 1) = pg) := Lib.hid (pair_done HAN.out HAY.out hjl).symm
        go_wp2_with fail
        go_roundg (r.ranges.length - (k + 1))
        case measure => omega
        case rel => exact ⟨k + 1, by omega, by go_num, HQ, E⟩
      have hjn : j < r.ranges.length := by omega
      obtain ⟨g', o', c'', e', -, hg', R0⟩ := (HR.out.hranges).elem (n := 3) (by decide) (fun _ => rfl) hjn
      rw [HV.out] at e'
      injection e' with e1 e2 e3
      injection e1 with e1
      injection e1 with e1 e4
      subst e1 e4
      have HST := Lib.hid (take_step (all := r.ranges) (p := clashAR x) hjl hjn)
      have FY := Lib.hid (HF.out _ (List.getElem_mem hjn))
      have r1 := Lib.hid (rangeBelow R0 (HQ.out.b.mono HBB.out) hg')
      clear R0 e2 e3
      generalize r.ranges[j] = y at HST r1 FY
      have hjk : (j : Int) < k := by omega
      go_upto_region 18 with (first | (refine wpList_loadRow rfl 122 _ rfl rfl r1.out Tryz.rowAR Tryz.sizeAR ?_) | (refine wpList_storeRow rfl 122 _ _ rfl rfl rfl (HasC.new wr _ _) rfl Tryz.sizeAR (AR.one y) ?_; intro w6 hz1 hz2))
      have H6 := Lib.hid (HQ.out.keep (new_below hz2))
      have X6 := Lib.hid (XQ.out.keep (new_below hz2))
      have Y6 := hz1
      clear hz1 hz2 r1 HQ XQ
      generalize wr.heap.size = gy at Y6 ⊢
      replace Y6 := Lib.hid Y6
      have xc0 : w6.cell? ⟨gx, 0, none⟩ = some (.int .i64 x.area) := X6.out.cell 0
      have xc1 : w6.cell? ⟨gx, 1, none⟩ = some (.int .u32 (x.pa : Int)) := X6.out.cell 1
      have xc2 : w6.cell? ⟨gx, 2, none⟩ = some (.int .i64 x.pl) := X6.out.cell 2
      have yc0 : w6.cell? ⟨gy, 0, none⟩ = some (.int .i64 y.area) := Y6.out.cell 0
      have yc1 : w6.cell? ⟨gy, 1, none⟩ = some (.int .u32 (y.pa : Int)) := Y6.out.cell 1
      have yc2 : w6.cell? ⟨gy, 2, none⟩ = some (.int .i64 y.pl) := Y6.out.cell 2
      have CC : Hid (clashAR x y = (y.area == x.area && overP y.pa y.pl x.pa x.pl)) := Lib.hid rfl
      by_cases ha : y.area = x.area
      case neg =>
        have da : (y.area == x.area) = false := by simpa using ha
        have CD : Hid (clashAR x y = false) := Lib.hid (by rw [CC.out, da]; rfl)
        clear ha CC
        have EN : Hid ((r.ranges.take k).any (clashAR x) = ((r.ranges.take k).drop (j + 1)).any (clashAR x)) := Lib.hid (pair_next HAY.out (by rw [HST.out, CD.out]))
        go_wp2_with fail
        go_roundg (k - (j + 1))
        case measure => omega
        case rel => exact ⟨j + 1, by omega, by go_num, H6, X6, EN⟩
      have da : (y.area == x.area) = true := by simpa using ha
      have CD : Hid (clashAR x y = overP y.pa y.pl x.pa x.pl) := Lib.hid (by rw [CC.out, da]; rfl)
      clear ha CC
      go_wp2_with fail
      refine (overlaps_any y.pa y.pl x.pa x.pl _ FY.out FX.out).mono ?_
      rintro e w7 ⟨rfl, hb⟩
      have H7 := Lib.hid (H6.out.keep hb)
      have X7 := Lib.hid (X6.out.keep hb)
      clear hb H6 X6 xc0 xc1 xc2 yc0 yc1 yc2
      cases ho : overP y.pa y.pl x.pa x.pl with
      | true =>
        have E : Hid (pg = 6) := Lib.hid (pair_hit HAN.out HAY.out (by rw [HST.out, CD.out, ho]))
        have E := Lib.hid (fin_err HP.out E.out (show (6 : Int) ≠ 0 by decide))
        go_wp2_with fail
        go_ret
        exact ⟨ret_int E.out.symm, H7.out.b⟩
      | false =>
        have EN : Hid ((r.ranges.take k).any (clashAR x) = ((r.ranges.take k).drop (j + 1)).any (clashAR x)) := Lib.hid (pair_next HAY.out (by rw [HST.out, CD.out, ho]))
        go_wp2_with fail
        go_roundg (k - (j + 1))
        case measure => omega
        case rel => exact ⟨j + 1, by omega, by go_num, H7, X7, EN⟩
end Go.Proofs.YtmddfkpkddemnaaGreatDoor
