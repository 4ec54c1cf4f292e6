/- The walk of checkRedist. Conditions: the router lies in memory. -/
import Derived.Test.YtnhemjdmleilcaaGreatDoorModK
import Derived.Lib.MinMax
namespace Go.Proofs.YtnhemjdmleilcaaGreatDoor
open Go.RowKit

def redF (maps : List RMap) (into least most types : Int) (x : Rd) : Int := if withinB x.frm 1 5 && !(x.frm == into) && withinB x.metric least most && withinB x.tag 0 65535 && withinB x.typ (min 1 types) types then (if lacksB (·.name) maps x.map then 5 else 0) else 1
def sameRd (x y : Rd) : Bool := y.frm == x.frm
def redE (maps : List RMap) (into least most types : Int) (l : List Rd) : Int := pairE 4 (redF maps into least most types) sameRd 4 l
set_option maxRecDepth 100000 in
set_option maxHeartbeats 4000000 in
theorem checkRedist_any (r : Rt) (l : List Rd) (v : Value) (into least most types : Int) (w : World) (B : Nat) (h : r.at w B) (hl : SlV w B 5 Rd.C v l) (hB : B ≤ w.heap.size) : Calls Tryz.prog 80 #[.agg r.C, v, .int .i64 into, .int .i64 least, .int .i64 most, .int .i64 types] w fun e w' => e = .returned (.int .i64 (redE r.maps into least most types l)) ∧ Below w.heap.size w w' := by
  have H0 := Lib.hid (RB.start r w)
  have HR := Lib.hid h
  have HLS := Lib.hid hl
  have HBB := Lib.hid hB
  obtain ⟨A, c, hv, hle, -⟩ := hl
  have HV := Lib.hid hv
  rw [hv]
  clear h hv hB
  obtain ⟨res, hres⟩ : ∃ res, redE r.maps into least most types l = res := ⟨_, rfl⟩
  rw [hres]
  by_cases h8 : 4 < l.length
  · have E : Hid (res = 7) := Lib.hid (by rw [← hres]; exact if_pos h8)
    clear hres
    go_enter Tryz.func80, Tryz.ntmps80
    go_wp2_with fail
    go_ret
    exact ⟨ret_int E.out.symm, H0.out.b⟩
  have d8 : decide ((4 : Int) < l.length) = false := by simp; omega
  have E : Hid (pairGo (redF r.maps into least most types) sameRd 4 l l 0 = res) := Lib.hid (by rw [← hres]; exact (if_neg h8).symm)
  clear hres
  go_enter Tryz.func80, Tryz.ntmps80
  go_wp2_with fail
  clear d8
  go_loopg [22] l.length (fun gh ix wr => ∃ k : Nat, k + gh = l.length ∧ ix = .int .i64 k ∧ Hid (RB r w wr) ∧ Hid (pairGo (redF r.maps into least most types) sameRd 4 l (l.drop k) k = res))
  case atStart => exact ⟨0, by omega, rfl, H0, E⟩
  case round =>
    obtain ⟨k, hk, rfl, HW, HG⟩ := hrel
    clear H0 E
    by_cases hlt : k < l.length
    case neg =>
      have E := Lib.hid (pairGo_end hlt HG.out)
      go_wp2_with fail
      go_ret
      exact ⟨ret_int E.out.symm, HW.out.b⟩
    have HAT := Lib.hid (pairGo_at hlt HG.out)
    obtain ⟨g, o, c', e', -, hg, R0⟩ := (HLS.out).elem (n := 5) (by decide) (fun _ => rfl) hlt
    rw [HV.out] at e'
    injection e' with e1 e2 e3
    subst e1 e3
    have r1 := Lib.hid (rangeBelow R0 (HW.out.b.mono HBB.out) hg)
    clear R0 HG e2
    generalize l[k] = x at HAT r1
    go_upto_region 6 with (first | (refine wpList_loadRow rfl 167 _ rfl rfl r1.out Tryz.rowRd Tryz.sizeRd ?_) | (refine wpList_storeRow rfl 167 _ _ rfl rfl rfl (HasC.new wr _ _) rfl Tryz.sizeRd (Rd.one x) ?_; intro w5 hz1 hz2))
    have H5 := Lib.hid (HW.out.keep (new_below hz2))
    have X5 := hz1
    clear hz1 hz2 r1 HW
    generalize wr.heap.size = gx at X5 ⊢
    replace X5 := Lib.hid X5
    have PE : Hid ((redF r.maps into least most types) x = if withinB x.frm 1 5 && !(x.frm == into) && withinB x.metric least most && withinB x.tag 0 65535 && withinB x.typ (min 1 types) types then (if lacksB (·.name) r.maps x.map then 5 else 0) else 1) := Lib.hid rfl
    have xc0 : w5.cell? ⟨gx, 0, none⟩ = some (.int .i64 x.frm) := X5.out.cell 0
    have xc1 : w5.cell? ⟨gx, 1, none⟩ = some (.int .i64 x.metric) := X5.out.cell 1
    have xc2 : w5.cell? ⟨gx, 2, none⟩ = some (.int .i64 x.tag) := X5.out.cell 2
    have xc3 : w5.cell? ⟨gx, 3, none⟩ = some (.string (str x.map)) := X5.out.cell 3
    have xc4 : w5.cell? ⟨gx, 4, none⟩ = some (.int .i64 x.typ) := X5.out.cell 4
    cases h1 : withinB x.frm 1 5 with
    | false =>
      have F1 : Hid ((redF r.maps into least most types) x = 1) := Lib.hid (by rw [PE.out, h1]; rfl)
      have E : Hid (res = 1) := Lib.hid ((pair_fail HAT.out (by rw [F1.out]; decide)).trans (F1.out))
      go_wp2_with (go_at_call 31; refine (within_any _ _ _ _).mono ?_; rintro e w' ⟨rfl, rfl⟩)
      go_ret
      exact ⟨ret_int E.out.symm, H5.out.b⟩
    | true =>
    by_cases h2 : x.frm = into
    · have d2 : (x.frm == into) = true := by simpa using h2
      have F1 : Hid ((redF r.maps into least most types) x = 1) := Lib.hid (by rw [PE.out, h1, d2]; rfl)
      clear h2
      have E : Hid (res = 1) := Lib.hid ((pair_fail HAT.out (by rw [F1.out]; decide)).trans (F1.out))
      go_wp2_with (go_at_call 31; refine (within_any _ _ _ _).mono ?_; rintro e w' ⟨rfl, rfl⟩)
      go_ret
      exact ⟨ret_int E.out.symm, H5.out.b⟩
    have d2 : (x.frm == into) = false := by simpa using h2
    clear h2
    cases h3 : withinB x.metric least most with
    | false =>
      have F1 : Hid ((redF r.maps into least most types) x = 1) := Lib.hid (by rw [PE.out, h1, d2, h3]; rfl)
      have E : Hid (res = 1) := Lib.hid ((pair_fail HAT.out (by rw [F1.out]; decide)).trans (F1.out))
      go_wp2_with (go_at_call 31; refine (within_any _ _ _ _).mono ?_; rintro e w' ⟨rfl, rfl⟩)
      go_ret
      exact ⟨ret_int E.out.symm, H5.out.b⟩
    | true =>
    cases h4 : withinB x.tag 0 65535 with
    | false =>
      have F1 : Hid ((redF r.maps into least most types) x = 1) := Lib.hid (by rw [PE.out, h1, d2, h3, h4]; rfl)
      have E : Hid (res = 1) := Lib.hid ((pair_fail HAT.out (by rw [F1.out]; decide)).trans (F1.out))
      go_wp2_with (go_at_call 31; refine (within_any _ _ _ _).mono ?_; rintro e w' ⟨rfl, rfl⟩)
      go_ret
      exact ⟨ret_int E.out.symm, H5.out.b⟩
    | true =>
    cases h5 : withinB x.typ (min 1 types) types with
    | false =>
      have F1 : Hid ((redF r.maps into least most types) x = 1) := Lib.hid (by rw [PE.out, h1, d2, h3, h4, h5]; rfl)
      have E : Hid (res = 1) := Lib.hid ((pair_fail HAT.out (by rw [F1.out]; decide)).trans (F1.out))
      go_wp2_with (go_at_call 31; refine (within_any _ _ _ _).mono ?_; rintro e w' ⟨rfl, rfl⟩)
      go_ret
      exact ⟨ret_int E.out.symm, H5.out.b⟩
    | true =>
    have PE2 : Hid ((redF r.maps into least most types) x = if lacksB (·.name) r.maps x.map then 5 else 0) := Lib.hid (by rw [PE.out, h1, d2, h3, h4, h5]; rfl)
    by_cases hi : x.map = []
    · have F0 : Hid ((redF r.maps into least most types) x = 0) := Lib.hid (by rw [PE2.out, hi]; rfl)
      have tn : (str x.map).toList = [] := by rw [toList_str, hi]
      clear hi PE PE2
      have HAN : Hid (res = if (l.take k).any (sameRd x) then 4 else pairGo (redF r.maps into least most types) sameRd 4 l (l.drop (k + 1)) (k + 1)) := Lib.hid (pair_ok HAT.out F0.out)
      clear HAT F0
      go_wp2_with (go_at_call 31; refine (within_any _ _ _ _).mono ?_; rintro e w' ⟨rfl, rfl⟩)
      clear xc0 xc1 xc2 xc3 xc4 tn
      go_loopg [74] k (fun gh ix wq => ∃ j : Nat, j + gh = k ∧ ix = .int .i64 j ∧ Hid (RB r w wq) ∧ Hid (HasC 167 gx x.C wq) ∧ Hid ((l.take k).any (sameRd x) = ((l.take k).drop j).any (sameRd x)))
      case atStart => exact ⟨0, by omega, rfl, H5, X5, Lib.hid rfl⟩
      case round =>
        obtain ⟨j, hj, rfl, HQ, XQ, HAY⟩ := hrel
        by_cases hjl : j < k
        case neg =>
          have E : Hid (pairGo (redF r.maps into least most types) sameRd 4 l (l.drop (k + 1)) (k + 1) = res) := Lib.hid (pair_done HAN.out HAY.out hjl).symm
          go_wp2_with fail
          go_roundg (l.length - (k + 1))
          case measure => omega
          case rel => exact ⟨k + 1, by omega, by go_num, HQ, E⟩
        have hjn : j < l.length := by omega
        obtain ⟨g', o', c'', e', -, hg', R0⟩ := (HLS.out).elem (n := 5) (by decide) (fun _ => rfl) hjn
        rw [HV.out] at e'
        injection e' with e1 e2 e3
        injection e1 with e1
        injection e1 with e1 e4
        subst e1 e4
        have HST := Lib.hid (take_step (all := l) (p := sameRd x) hjl hjn)
        have r1 := Lib.hid (rangeBelow R0 (HQ.out.b.mono HBB.out) hg')
        clear R0 e2 e3
        generalize l[j] = y at HST r1
        have hjk : (j : Int) < k := by omega
        go_upto_region 13 with (first | (refine wpList_loadRow rfl 167 _ rfl rfl r1.out Tryz.rowRd Tryz.sizeRd ?_) | (refine wpList_storeRow rfl 167 _ _ rfl rfl rfl (HasC.new wr _ _) rfl Tryz.sizeRd (Rd.one y) ?_; intro w6 hz1 hz2))
        have H6 := Lib.hid (HQ.out.keep (new_below hz2))
        have X6 := Lib.hid (XQ.out.keep (new_below hz2))
        have Y6 := hz1
        clear hz1 hz2 r1 HQ XQ
        generalize wr.heap.size = gy at Y6 ⊢
        replace Y6 := Lib.hid Y6
        have xc0 : w6.cell? ⟨gx, 0, none⟩ = some (.int .i64 x.frm) := X6.out.cell 0
        have yc0 : w6.cell? ⟨gy, 0, none⟩ = some (.int .i64 y.frm) := Y6.out.cell 0
        have CC : Hid (sameRd x y = (y.frm == x.frm)) := Lib.hid rfl
        by_cases ha : y.frm = x.frm
        · have da : (y.frm == x.frm) = true := by simpa using ha
          have CD : Hid (sameRd x y = true) := Lib.hid (by rw [CC.out, da])
          clear ha
          have E : Hid (res = 4) := Lib.hid (pair_hit HAN.out HAY.out (by rw [HST.out, CD.out]))
          go_wp2_with fail
          go_ret
          exact ⟨ret_int E.out.symm, H6.out.b⟩
        have da : (y.frm == x.frm) = false := by simpa using ha
        have CD : Hid (sameRd x y = false) := Lib.hid (by rw [CC.out, da])
        clear ha
        have EN : Hid ((l.take k).any (sameRd x) = ((l.take k).drop (j + 1)).any (sameRd x)) := Lib.hid (pair_next HAY.out (by rw [HST.out, CD.out]))
        go_wp2_with fail
        go_roundg (k - (j + 1))
        case measure => omega
        case rel => exact ⟨j + 1, by omega, by go_num, H6, X6, EN⟩
    obtain ⟨i1, i2, i3⟩ := ne_str hi
    have PI : Hid (lacksB (·.name) r.maps x.map = decide (idxF (fun y => y.name == x.map) r.maps 0 < 0)) := Lib.hid (by unfold lacksB; rw [i1]; rfl)
    clear hi PE
    go_wp2_with (first | (go_at_call 31; refine (within_any _ _ _ _).mono ?_; rintro e w' ⟨rfl, rfl⟩) | (refine wpList_unguard (by rfl) (wpList_loadRow rfl 69 _ rfl rfl H5.out.h.range Tryz.rowRt Tryz.sizeRt ?_)))
    with_reducible refine (routeMap_any r x.map w5 B (HR.out.below (H5.out.b.mono HBB.out)) (Nat.le_trans HBB.out H5.out.b.size)).mono ?_
    rintro e w7 ⟨rfl, hb⟩
    have H7 := Lib.hid (H5.out.keep hb)
    have X7 := Lib.hid (X5.out.keep hb)
    clear hb H5 X5 i1 i2 i3 xc0 xc1 xc2 xc3 xc4
    by_cases hd : idxF (fun y => y.name == x.map) r.maps 0 < 0
    · have di := decide_eq_true hd
      have F1 : Hid ((redF r.maps into least most types) x = 5) := Lib.hid (by rw [PE2.out, PI.out, di]; rfl)
      clear hd
      have E : Hid (res = 5) := Lib.hid ((pair_fail HAT.out (by rw [F1.out]; decide)).trans (F1.out))
      go_wp2_with fail
      go_ret
      exact ⟨ret_int E.out.symm, H7.out.b⟩
    have di := decide_eq_false hd
    have F0 : Hid ((redF r.maps into least most types) x = 0) := Lib.hid (by rw [PE2.out, PI.out, di]; rfl)
    clear hd PE2 PI
    have HAN : Hid (res = if (l.take k).any (sameRd x) then 4 else pairGo (redF r.maps into least most types) sameRd 4 l (l.drop (k + 1)) (k + 1)) := Lib.hid (pair_ok HAT.out F0.out)
    clear HAT F0
    go_wp2_with fail
    go_loopg [74] k (fun gh ix wq => ∃ j : Nat, j + gh = k ∧ ix = .int .i64 j ∧ Hid (RB r w wq) ∧ Hid (HasC 167 gx x.C wq) ∧ Hid ((l.take k).any (sameRd x) = ((l.take k).drop j).any (sameRd x)))
    case atStart => exact ⟨0, by omega, rfl, H7, X7, Lib.hid rfl⟩
    case round =>
      obtain ⟨j, hj, rfl, HQ, XQ, HAY⟩ := hrel
      by_cases hjl : j < k
      case neg =>
        have E : Hid (pairGo (redF r.maps into least most types) sameRd 4 l (l.drop (k + 1)) (k + 1) = res) := Lib.hid (pair_done HAN.out HAY.out hjl).symm
        go_wp2_with fail
        go_roundg (l.length - (k + 1))
        case measure => omega
        case rel => exact ⟨k + 1, by omega, by go_num, HQ, E⟩
      have hjn : j < l.length := by omega
      obtain ⟨g', o', c'', e', -, hg', R0⟩ := (HLS.out).elem (n := 5) (by decide) (fun _ => rfl) hjn
      rw [HV.out] at e'
      injection e' with e1 e2 e3
      injection e1 with e1
      injection e1 with e1 e4
      subst e1 e4
      have HST := Lib.hid (take_step (all := l) (p := sameRd x) hjl hjn)
      have r1 := Lib.hid (rangeBelow R0 (HQ.out.b.mono HBB.out) hg')
      clear R0 e2 e3
      generalize l[j] = y at HST r1
      have hjk : (j : Int) < k := by omega
      go_upto_region 13 with (first | (refine wpList_loadRow rfl 167 _ rfl rfl r1.out Tryz.rowRd Tryz.sizeRd ?_) | (refine wpList_storeRow rfl 167 _ _ rfl rfl rfl (HasC.new wr _ _) rfl Tryz.sizeRd (Rd.one y) ?_; intro w6 hz1 hz2))
      have H6 := Lib.hid (HQ.out.keep (new_below hz2))
      have X6 := Lib.hid (XQ.out.keep (new_below hz2))
      have Y6 := hz1
      clear hz1 hz2 r1 HQ XQ
      generalize wr.heap.size = gy at Y6 ⊢
      replace Y6 := Lib.hid Y6
      have xc0 : w6.cell? ⟨gx, 0, none⟩ = some (.int .i64 x.frm) := X6.out.cell 0
      have yc0 : w6.cell? ⟨gy, 0, none⟩ = some (.int .i64 y.frm) := Y6.out.cell 0
      have CC : Hid (sameRd x y = (y.frm == x.frm)) := Lib.hid rfl
      by_cases ha : y.frm = x.frm
      · have da : (y.frm == x.frm) = true := by simpa using ha
        have CD : Hid (sameRd x y = true) := Lib.hid (by rw [CC.out, da])
        clear ha
        have E : Hid (res = 4) := Lib.hid (pair_hit HAN.out HAY.out (by rw [HST.out, CD.out]))
        go_wp2_with fail
        go_ret
        exact ⟨ret_int E.out.symm, H6.out.b⟩
      have da : (y.frm == x.frm) = false := by simpa using ha
      have CD : Hid (sameRd x y = false) := Lib.hid (by rw [CC.out, da])
      clear ha
      have EN : Hid ((l.take k).any (sameRd x) = ((l.take k).drop (j + 1)).any (sameRd x)) := Lib.hid (pair_next HAY.out (by rw [HST.out, CD.out]))
      go_wp2_with fail
      go_roundg (k - (j + 1))
      case measure => omega
      case rel => exact ⟨j + 1, by omega, by go_num, H6, X6, EN⟩
end Go.Proofs.YtnhemjdmleilcaaGreatDoor
