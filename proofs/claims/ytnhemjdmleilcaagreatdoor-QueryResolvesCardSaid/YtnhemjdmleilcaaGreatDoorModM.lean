/- The walk of checkNeighbors. Conditions: the router lies in memory. -/
import Derived.Test.YtnhemjdmleilcaaGreatDoorModL
import Derived.Lib.MinMax
namespace Go.Proofs.YtnhemjdmleilcaaGreatDoor
open Go.RowKit

def nbF (maps : List RMap) (x : Nb) : Int := if !(x.addr == 0) && withinB x.asn 1 65535 then (if lacksB (·.name) maps x.inn || lacksB (·.name) maps x.out then 5 else 0) else 1
def sameNb (x y : Nb) : Bool := y.addr == x.addr
def nbsE (maps : List RMap) (l : List Nb) : Int := pairE 8 (nbF maps) sameNb 4 l
set_option maxRecDepth 100000 in
set_option maxHeartbeats 4000000 in
theorem checkNeighbors_any (r : Rt) (w : World) (B : Nat) (h : r.at w B) (hB : B ≤ w.heap.size) : Calls Tryz.prog 81 #[.agg r.C] w fun e w' => e = .returned (.int .i64 (nbsE r.maps r.nb)) ∧ Below w.heap.size w w' := by
  have H0 := Lib.hid (RB.start r w)
  have HR := Lib.hid h
  have HBB := Lib.hid hB
  obtain ⟨A, c, hv, hle, -⟩ := h.hnb
  have HL : Hid (∀ w', RB r w w' → w'.cell? ⟨w.heap.size, 20, none⟩ = some (.slice A r.nb.length c)) := Lib.hid (fun w' h => by rw [← hv]; exact h.h.cell 20)
  have HV := Lib.hid hv
  clear h hv hB
  have c2 := HL.out _ H0.out
  obtain ⟨res, hres⟩ : ∃ res, nbsE r.maps r.nb = res := ⟨_, rfl⟩
  rw [hres]
  by_cases h8 : 8 < r.nb.length
  · have E : Hid (res = 7) := Lib.hid (by rw [← hres]; exact if_pos h8)
    clear hres
    go_enter Tryz.func81, Tryz.ntmps81
    go_wp2_with fail
    go_ret
    exact ⟨ret_int E.out.symm, H0.out.b⟩
  have d8 : decide ((8 : Int) < r.nb.length) = false := by simp; omega
  have E : Hid (pairGo (nbF r.maps) sameNb 4 r.nb r.nb 0 = res) := Lib.hid (by rw [← hres]; exact (if_neg h8).symm)
  clear hres
  go_enter Tryz.func81, Tryz.ntmps81
  go_wp2_with fail
  clear c2 d8
  go_loopg [16] r.nb.length (fun gh ix wr => ∃ k : Nat, k + gh = r.nb.length ∧ ix = .int .i64 k ∧ Hid (RB r w wr) ∧ Hid (pairGo (nbF r.maps) sameNb 4 r.nb (r.nb.drop k) k = res))
  case atStart => exact ⟨0, by omega, rfl, H0, E⟩
  case round =>
    obtain ⟨k, hk, rfl, HW, HG⟩ := hrel
    clear H0 E
    by_cases hlt : k < r.nb.length
    case neg =>
      have E := Lib.hid (pairGo_end hlt HG.out)
      go_wp2_with fail
      go_ret
      exact ⟨ret_int E.out.symm, HW.out.b⟩
    have HAT := Lib.hid (pairGo_at hlt HG.out)
    obtain ⟨g, o, c', e', -, hg, R0⟩ := (HR.out.hnb).elem (n := 4) (by decide) (fun _ => rfl) hlt
    rw [HV.out] at e'
    injection e' with e1 e2 e3
    subst e1 e3
    have r1 := Lib.hid (rangeBelow R0 (HW.out.b.mono HBB.out) hg)
    clear R0 HG e2
    generalize r.nb[k] = x at HAT r1
    go_upto_region 6 with (first | (refine wpList_loadRow rfl 169 _ rfl rfl r1.out Tryz.rowNb Tryz.sizeNb ?_) | (refine wpList_storeRow rfl 169 _ _ rfl rfl rfl (HasC.new wr _ _) rfl Tryz.sizeNb (Nb.one x) ?_; intro w5 hz1 hz2))
    have H5 := Lib.hid (HW.out.keep (new_below hz2))
    have X5 := hz1
    clear hz1 hz2 r1 HW
    generalize wr.heap.size = gx at X5 ⊢
    replace X5 := Lib.hid X5
    have PE : Hid ((nbF r.maps) x = if !(x.addr == 0) && withinB x.asn 1 65535 then (if lacksB (·.name) r.maps x.inn || lacksB (·.name) r.maps x.out then 5 else 0) else 1) := Lib.hid rfl
    have xc0 : w5.cell? ⟨gx, 0, none⟩ = some (.int .u32 (x.addr : Int)) := X5.out.cell 0
    have xc1 : w5.cell? ⟨gx, 1, none⟩ = some (.int .i64 x.asn) := X5.out.cell 1
    by_cases h1 : x.addr = 0
    · have d1 : (x.addr == 0) = true := by simpa using h1
      have d1b : ((x.addr : Int) == 0) = true := by simp; omega
      have F1 : Hid ((nbF r.maps) x = 1) := Lib.hid (by rw [PE.out, d1]; rfl)
      clear h1
      have E : Hid (res = 1) := Lib.hid ((pair_fail HAT.out (by rw [F1.out]; decide)).trans (F1.out))
      go_wp2_with (go_at_call 31; refine (within_any _ _ _ _).mono ?_; rintro e w' ⟨rfl, rfl⟩)
      go_ret
      exact ⟨ret_int E.out.symm, H5.out.b⟩
    have d1 : (x.addr == 0) = false := by simpa using h1
    have d1b : ((x.addr : Int) == 0) = false := by simp; omega
    clear h1
    cases h2 : withinB x.asn 1 65535 with
    | false =>
      have F1 : Hid ((nbF r.maps) x = 1) := Lib.hid (by rw [PE.out, d1, h2]; rfl)
      have E : Hid (res = 1) := Lib.hid ((pair_fail HAT.out (by rw [F1.out]; decide)).trans (F1.out))
      go_wp2_with (go_at_call 31; refine (within_any _ _ _ _).mono ?_; rintro e w' ⟨rfl, rfl⟩)
      go_ret
      exact ⟨ret_int E.out.symm, H5.out.b⟩
    | true =>
    have PE2 : Hid ((nbF r.maps) x = if lacksB (·.name) r.maps x.inn || lacksB (·.name) r.maps x.out then 5 else 0) := Lib.hid (by rw [PE.out, d1, h2]; rfl)
    clear PE
    by_cases hi : x.inn = []
    · have tn : (str x.inn).toList = [] := by rw [toList_str, hi]
      have EI : Hid (lacksB (·.name) r.maps x.inn = false) := Lib.hid (by rw [hi]; rfl)
      clear hi
      have xc2 : w5.cell? ⟨gx, 2, none⟩ = some (.string (str x.inn)) := X5.out.cell 2
      have xc3 : w5.cell? ⟨gx, 3, none⟩ = some (.string (str x.out)) := X5.out.cell 3
      by_cases ho : x.out = []
      · have tno : (str x.out).toList = [] := by rw [toList_str, ho]
        have F0 : Hid ((nbF r.maps) x = 0) := Lib.hid (by rw [PE2.out, EI.out, ho]; rfl)
        clear ho PE2 EI
        have HAN : Hid (res = if (r.nb.take k).any (sameNb x) then 4 else pairGo (nbF r.maps) sameNb 4 r.nb (r.nb.drop (k + 1)) (k + 1)) := Lib.hid (pair_ok HAT.out F0.out)
        clear HAT F0
        have c2 := HL.out _ H5.out
        go_wp2_with (go_at_call 31; refine (within_any _ _ _ _).mono ?_; rintro e w' ⟨rfl, rfl⟩)
        clear c2
        go_loopg [58] k (fun gh ix wq => ∃ j : Nat, j + gh = k ∧ ix = .int .i64 j ∧ Hid (RB r w wq) ∧ Hid (HasC 169 gx x.C wq) ∧ Hid ((r.nb.take k).any (sameNb x) = ((r.nb.take k).drop j).any (sameNb x)))
        case atStart => exact ⟨0, by omega, rfl, H5, X5, Lib.hid rfl⟩
        case round =>
          obtain ⟨j, hj, rfl, HQ, XQ, HAY⟩ := hrel
          by_cases hjl : j < k
          case neg =>
            have E : Hid (pairGo (nbF r.maps) sameNb 4 r.nb (r.nb.drop (k + 1)) (k + 1) = res) := Lib.hid (pair_done HAN.out HAY.out hjl).symm
            go_wp2_with fail
            go_roundg (r.nb.length - (k + 1))
            case measure => omega
            case rel => exact ⟨k + 1, by omega, by go_num, HQ, E⟩
          have hjn : j < r.nb.length := by omega
          obtain ⟨g', o', c'', e', -, hg', R0⟩ := (HR.out.hnb).elem (n := 4) (by decide) (fun _ => rfl) hjn
          rw [HV.out] at e'
          injection e' with e1 e2 e3
          injection e1 with e1
          injection e1 with e1 e4
          subst e1 e4
          have HST := Lib.hid (take_step (all := r.nb) (p := sameNb x) hjl hjn)
          have r1 := Lib.hid (rangeBelow R0 (HQ.out.b.mono HBB.out) hg')
          clear R0 e2 e3
          generalize r.nb[j] = y at HST r1
          have hjk : (j : Int) < k := by omega
          go_upto_region 13 with (first | (refine wpList_loadRow rfl 169 _ rfl rfl r1.out Tryz.rowNb Tryz.sizeNb ?_) | (refine wpList_storeRow rfl 169 _ _ rfl rfl rfl (HasC.new wr _ _) rfl Tryz.sizeNb (Nb.one y) ?_; intro w6 hz1 hz2))
          have H6 := Lib.hid (HQ.out.keep (new_below hz2))
          have X6 := Lib.hid (XQ.out.keep (new_below hz2))
          have Y6 := hz1
          clear hz1 hz2 r1 HQ XQ
          generalize wr.heap.size = gy at Y6 ⊢
          replace Y6 := Lib.hid Y6
          have xc0 : w6.cell? ⟨gx, 0, none⟩ = some (.int .u32 (x.addr : Int)) := X6.out.cell 0
          have yc0 : w6.cell? ⟨gy, 0, none⟩ = some (.int .u32 (y.addr : Int)) := Y6.out.cell 0
          have CC : Hid (sameNb x y = (y.addr == x.addr)) := Lib.hid rfl
          by_cases ha : y.addr = x.addr
          · have da : ((y.addr : Int) == (x.addr : Int)) = true := by rw [ha]; simp
            have CD : Hid (sameNb x y = true) := Lib.hid (by rw [CC.out, ha]; simp)
            clear ha
            have E : Hid (res = 4) := Lib.hid (pair_hit HAN.out HAY.out (by rw [HST.out, CD.out]))
            go_wp2_with fail
            go_ret
            exact ⟨ret_int E.out.symm, H6.out.b⟩
          have da : ((y.addr : Int) == (x.addr : Int)) = false := by simp; omega
          have CD : Hid (sameNb x y = false) := Lib.hid (by rw [CC.out]; simpa using ha)
          clear ha
          have EN : Hid ((r.nb.take k).any (sameNb x) = ((r.nb.take k).drop (j + 1)).any (sameNb x)) := Lib.hid (pair_next HAY.out (by rw [HST.out, CD.out]))
          go_wp2_with fail
          go_roundg (k - (j + 1))
          case measure => omega
          case rel => exact ⟨j + 1, by omega, by go_num, H6, X6, EN⟩
      obtain ⟨o1, o2, o3⟩ := ne_str ho
      have PO : Hid (lacksB (·.name) r.maps x.out = decide (idxF (fun y => y.name == x.out) r.maps 0 < 0)) := Lib.hid (by unfold lacksB; rw [o1]; rfl)
      clear ho
      go_wp2_with (first | (go_at_call 31; refine (within_any _ _ _ _).mono ?_; rintro e w' ⟨rfl, rfl⟩) | (refine wpList_unguard (by rfl) (wpList_loadRow rfl 69 _ rfl rfl H5.out.h.range Tryz.rowRt Tryz.sizeRt ?_)))
      with_reducible refine (routeMap_any r x.out w5 B (HR.out.below (H5.out.b.mono HBB.out)) (Nat.le_trans HBB.out H5.out.b.size)).mono ?_
      rintro e w9 ⟨rfl, hb⟩
      have H9 := Lib.hid (H5.out.keep hb)
      have X9 := Lib.hid (X5.out.keep hb)
      clear hb 
      by_cases hd : idxF (fun y => y.name == x.out) r.maps 0 < 0
      · have di := decide_eq_true hd
        have F1 : Hid ((nbF r.maps) x = 5) := Lib.hid (by rw [PE2.out, EI.out, PO.out, di]; rfl)
        clear hd
        have E : Hid (res = 5) := Lib.hid ((pair_fail HAT.out (by rw [F1.out]; decide)).trans (F1.out))
        go_wp2_with fail
        go_ret
        exact ⟨ret_int E.out.symm, H9.out.b⟩
      have di2 := decide_eq_false hd
      have F0 : Hid ((nbF r.maps) x = 0) := Lib.hid (by rw [PE2.out, EI.out, PO.out, di2]; rfl)
      clear hd PE2 EI PO
      have HAN : Hid (res = if (r.nb.take k).any (sameNb x) then 4 else pairGo (nbF r.maps) sameNb 4 r.nb (r.nb.drop (k + 1)) (k + 1)) := Lib.hid (pair_ok HAT.out F0.out)
      clear HAT F0
      have c2 := HL.out _ H9.out
      go_wp2_with fail
      clear c2
      go_loopg [58] k (fun gh ix wq => ∃ j : Nat, j + gh = k ∧ ix = .int .i64 j ∧ Hid (RB r w wq) ∧ Hid (HasC 169 gx x.C wq) ∧ Hid ((r.nb.take k).any (sameNb x) = ((r.nb.take k).drop j).any (sameNb x)))
      case atStart => exact ⟨0, by omega, rfl, H9, X9, Lib.hid rfl⟩
      case round =>
        obtain ⟨j, hj, rfl, HQ, XQ, HAY⟩ := hrel
        by_cases hjl : j < k
        case neg =>
          have E : Hid (pairGo (nbF r.maps) sameNb 4 r.nb (r.nb.drop (k + 1)) (k + 1) = res) := Lib.hid (pair_done HAN.out HAY.out hjl).symm
          go_wp2_with fail
          go_roundg (r.nb.length - (k + 1))
          case measure => omega
          case rel => exact ⟨k + 1, by omega, by go_num, HQ, E⟩
        have hjn : j < r.nb.length := by omega
        obtain ⟨g', o', c'', e', -, hg', R0⟩ := (HR.out.hnb).elem (n := 4) (by decide) (fun _ => rfl) hjn
        rw [HV.out] at e'
        injection e' with e1 e2 e3
        injection e1 with e1
        injection e1 with e1 e4
        subst e1 e4
        have HST := Lib.hid (take_step (all := r.nb) (p := sameNb x) hjl hjn)
        have r1 := Lib.hid (rangeBelow R0 (HQ.out.b.mono HBB.out) hg')
        clear R0 e2 e3
        generalize r.nb[j] = y at HST r1
        have hjk : (j : Int) < k := by omega
        go_upto_region 13 with (first | (refine wpList_loadRow rfl 169 _ rfl rfl r1.out Tryz.rowNb Tryz.sizeNb ?_) | (refine wpList_storeRow rfl 169 _ _ rfl rfl rfl (HasC.new wr _ _) rfl Tryz.sizeNb (Nb.one y) ?_; intro w6 hz1 hz2))
        have H6 := Lib.hid (HQ.out.keep (new_below hz2))
        have X6 := Lib.hid (XQ.out.keep (new_below hz2))
        have Y6 := hz1
        clear hz1 hz2 r1 HQ XQ
        generalize wr.heap.size = gy at Y6 ⊢
        replace Y6 := Lib.hid Y6
        have xc0 : w6.cell? ⟨gx, 0, none⟩ = some (.int .u32 (x.addr : Int)) := X6.out.cell 0
        have yc0 : w6.cell? ⟨gy, 0, none⟩ = some (.int .u32 (y.addr : Int)) := Y6.out.cell 0
        have CC : Hid (sameNb x y = (y.addr == x.addr)) := Lib.hid rfl
        by_cases ha : y.addr = x.addr
        · have da : ((y.addr : Int) == (x.addr : Int)) = true := by rw [ha]; simp
          have CD : Hid (sameNb x y = true) := Lib.hid (by rw [CC.out, ha]; simp)
          clear ha
          have E : Hid (res = 4) := Lib.hid (pair_hit HAN.out HAY.out (by rw [HST.out, CD.out]))
          go_wp2_with fail
          go_ret
          exact ⟨ret_int E.out.symm, H6.out.b⟩
        have da : ((y.addr : Int) == (x.addr : Int)) = false := by simp; omega
        have CD : Hid (sameNb x y = false) := Lib.hid (by rw [CC.out]; simpa using ha)
        clear ha
        have EN : Hid ((r.nb.take k).any (sameNb x) = ((r.nb.take k).drop (j + 1)).any (sameNb x)) := Lib.hid (pair_next HAY.out (by rw [HST.out, CD.out]))
        go_wp2_with fail
        go_roundg (k - (j + 1))
        case measure => omega
        case rel => exact ⟨j + 1, by omega, by go_num, H6, X6, EN⟩
    obtain ⟨i1, i2, i3⟩ := ne_str hi
    have PI : Hid (lacksB (·.name) r.maps x.inn = decide (idxF (fun y => y.name == x.inn) r.maps 0 < 0)) := Lib.hid (by unfold lacksB; rw [i1]; rfl)
    clear hi
    have xc2 : w5.cell? ⟨gx, 2, none⟩ = some (.string (str x.inn)) := X5.out.cell 2
    have xc3 : w5.cell? ⟨gx, 3, none⟩ = some (.string (str x.out)) := X5.out.cell 3
    go_wp2_with (first | (go_at_call 31; refine (within_any _ _ _ _).mono ?_; rintro e w' ⟨rfl, rfl⟩) | (refine wpList_unguard (by rfl) (wpList_loadRow rfl 69 _ rfl rfl H5.out.h.range Tryz.rowRt Tryz.sizeRt ?_)))
    with_reducible refine (routeMap_any r x.inn w5 B (HR.out.below (H5.out.b.mono HBB.out)) (Nat.le_trans HBB.out H5.out.b.size)).mono ?_
    rintro e w8 ⟨rfl, hb⟩
    have H8 := Lib.hid (H5.out.keep hb)
    have X8 := Lib.hid (X5.out.keep hb)
    clear hb 
    by_cases hd : idxF (fun y => y.name == x.inn) r.maps 0 < 0
    · have di := decide_eq_true hd
      have F1 : Hid ((nbF r.maps) x = 5) := Lib.hid (by rw [PE2.out, PI.out, di]; rfl)
      clear hd
      have E : Hid (res = 5) := Lib.hid ((pair_fail HAT.out (by rw [F1.out]; decide)).trans (F1.out))
      go_wp2_with fail
      go_ret
      exact ⟨ret_int E.out.symm, H8.out.b⟩
    have di := decide_eq_false hd
    have EI : Hid (lacksB (·.name) r.maps x.inn = false) := Lib.hid (by rw [PI.out, di])
    clear hd PI
    have xc2 : w8.cell? ⟨gx, 2, none⟩ = some (.string (str x.inn)) := X8.out.cell 2
    have xc3 : w8.cell? ⟨gx, 3, none⟩ = some (.string (str x.out)) := X8.out.cell 3
    by_cases ho : x.out = []
    · have tno : (str x.out).toList = [] := by rw [toList_str, ho]
      have F0 : Hid ((nbF r.maps) x = 0) := Lib.hid (by rw [PE2.out, EI.out, ho]; rfl)
      clear ho PE2 EI
      have HAN : Hid (res = if (r.nb.take k).any (sameNb x) then 4 else pairGo (nbF r.maps) sameNb 4 r.nb (r.nb.drop (k + 1)) (k + 1)) := Lib.hid (pair_ok HAT.out F0.out)
      clear HAT F0
      have c2 := HL.out _ H8.out
      go_wp2_with fail
      clear c2
      go_loopg [58] k (fun gh ix wq => ∃ j : Nat, j + gh = k ∧ ix = .int .i64 j ∧ Hid (RB r w wq) ∧ Hid (HasC 169 gx x.C wq) ∧ Hid ((r.nb.take k).any (sameNb x) = ((r.nb.take k).drop j).any (sameNb x)))
      case atStart => exact ⟨0, by omega, rfl, H8, X8, Lib.hid rfl⟩
      case round =>
        obtain ⟨j, hj, rfl, HQ, XQ, HAY⟩ := hrel
        by_cases hjl : j < k
        case neg =>
          have E : Hid (pairGo (nbF r.maps) sameNb 4 r.nb (r.nb.drop (k + 1)) (k + 1) = res) := Lib.hid (pair_done HAN.out HAY.out hjl).symm
          go_wp2_with fail
          go_roundg (r.nb.length - (k + 1))
          case measure => omega
          case rel => exact ⟨k + 1, by omega, by go_num, HQ, E⟩
        have hjn : j < r.nb.length := by omega
        obtain ⟨g', o', c'', e', -, hg', R0⟩ := (HR.out.hnb).elem (n := 4) (by decide) (fun _ => rfl) hjn
        rw [HV.out] at e'
        injection e' with e1 e2 e3
        injection e1 with e1
        injection e1 with e1 e4
        subst e1 e4
        have HST := Lib.hid (take_step (all := r.nb) (p := sameNb x) hjl hjn)
        have r1 := Lib.hid (rangeBelow R0 (HQ.out.b.mono HBB.out) hg')
        clear R0 e2 e3
        generalize r.nb[j] = y at HST r1
        have hjk : (j : Int) < k := by omega
        go_upto_region 13 with (first | (refine wpList_loadRow rfl 169 _ rfl rfl r1.out Tryz.rowNb Tryz.sizeNb ?_) | (refine wpList_storeRow rfl 169 _ _ rfl rfl rfl (HasC.new wr _ _) rfl Tryz.sizeNb (Nb.one y) ?_; intro w6 hz1 hz2))
        have H6 := Lib.hid (HQ.out.keep (new_below hz2))
        have X6 := Lib.hid (XQ.out.keep (new_below hz2))
        have Y6 := hz1
        clear hz1 hz2 r1 HQ XQ
        generalize wr.heap.size = gy at Y6 ⊢
        replace Y6 := Lib.hid Y6
        have xc0 : w6.cell? ⟨gx, 0, none⟩ = some (.int .u32 (x.addr : Int)) := X6.out.cell 0
        have yc0 : w6.cell? ⟨gy, 0, none⟩ = some (.int .u32 (y.addr : Int)) := Y6.out.cell 0
        have CC : Hid (sameNb x y = (y.addr == x.addr)) := Lib.hid rfl
        by_cases ha : y.addr = x.addr
        · have da : ((y.addr : Int) == (x.addr : Int)) = true := by rw [ha]; simp
          have CD : Hid (sameNb x y = true) := Lib.hid (by rw [CC.out, ha]; simp)
          clear ha
          have E : Hid (res = 4) := Lib.hid (pair_hit HAN.out HAY.out (by rw [HST.out, CD.out]))
          go_wp2_with fail
          go_ret
          exact ⟨ret_int E.out.symm, H6.out.b⟩
        have da : ((y.addr : Int) == (x.addr : Int)) = false := by simp; omega
        have CD : Hid (sameNb x y = false) := Lib.hid (by rw [CC.out]; simpa using ha)
        clear ha
        have EN : Hid ((r.nb.take k).any (sameNb x) = ((r.nb.take k).drop (j + 1)).any (sameNb x)) := Lib.hid (pair_next HAY.out (by rw [HST.out, CD.out]))
        go_wp2_with fail
        go_roundg (k - (j + 1))
        case measure => omega
        case rel => exact ⟨j + 1, by omega, by go_num, H6, X6, EN⟩
    obtain ⟨o1, o2, o3⟩ := ne_str ho
    have PO : Hid (lacksB (·.name) r.maps x.out = decide (idxF (fun y => y.name == x.out) r.maps 0 < 0)) := Lib.hid (by unfold lacksB; rw [o1]; rfl)
    clear ho
    go_wp2_with (first | fail | (refine wpList_unguard (by rfl) (wpList_loadRow rfl 69 _ rfl rfl H8.out.h.range Tryz.rowRt Tryz.sizeRt ?_)))
    with_reducible refine (routeMap_any r x.out w8 B (HR.out.below (H8.out.b.mono HBB.out)) (Nat.le_trans HBB.out H8.out.b.size)).mono ?_
    rintro e w9 ⟨rfl, hb⟩
    have H9 := Lib.hid (H8.out.keep hb)
    have X9 := Lib.hid (X8.out.keep hb)
    clear hb 
    by_cases hd : idxF (fun y => y.name == x.out) r.maps 0 < 0
    · have di := decide_eq_true hd
      have F1 : Hid ((nbF r.maps) x = 5) := Lib.hid (by rw [PE2.out, EI.out, PO.out, di]; rfl)
      clear hd
      have E : Hid (res = 5) := Lib.hid ((pair_fail HAT.out (by rw [F1.out]; decide)).trans (F1.out))
      go_wp2_with fail
      go_ret
      exact ⟨ret_int E.out.symm, H9.out.b⟩
    have di2 := decide_eq_false hd
    have F0 : Hid ((nbF r.maps) x = 0) := Lib.hid (by rw [PE2.out, EI.out, PO.out, di2]; rfl)
    clear hd PE2 EI PO
    have HAN : Hid (res = if (r.nb.take k).any (sameNb x) then 4 else pairGo (nbF r.maps) sameNb 4 r.nb (r.nb.drop (k + 1)) (k + 1)) := Lib.hid (pair_ok HAT.out F0.out)
    clear HAT F0
    have c2 := HL.out _ H9.out
    go_wp2_with fail
    clear c2
    go_loopg [58] k (fun gh ix wq => ∃ j : Nat, j + gh = k ∧ ix = .int .i64 j ∧ Hid (RB r w wq) ∧ Hid (HasC 169 gx x.C wq) ∧ Hid ((r.nb.take k).any (sameNb x) = ((r.nb.take k).drop j).any (sameNb x)))
    case atStart => exact ⟨0, by omega, rfl, H9, X9, Lib.hid rfl⟩
    case round =>
      obtain ⟨j, hj, rfl, HQ, XQ, HAY⟩ := hrel
      by_cases hjl : j < k
      case neg =>
        have E : Hid (pairGo (nbF r.maps) sameNb 4 r.nb (r.nb.drop (k + 1)) (k + 1) = res) := Lib.hid (pair_done HAN.out HAY.out hjl).symm
        go_wp2_with fail
        go_roundg (r.nb.length - (k + 1))
        case measure => omega
        case rel => exact ⟨k + 1, by omega, by go_num, HQ, E⟩
      have hjn : j < r.nb.length := by omega
      obtain ⟨g', o', c'', e', -, hg', R0⟩ := (HR.out.hnb).elem (n := 4) (by decide) (fun _ => rfl) hjn
      rw [HV.out] at e'
      injection e' with e1 e2 e3
      injection e1 with e1
      injection e1 with e1 e4
      subst e1 e4
      have HST := Lib.hid (take_step (all := r.nb) (p := sameNb x) hjl hjn)
      have r1 := Lib.hid (rangeBelow R0 (HQ.out.b.mono HBB.out) hg')
      clear R0 e2 e3
      generalize r.nb[j] = y at HST r1
      have hjk : (j : Int) < k := by omega
      go_upto_region 13 with (first | (refine wpList_loadRow rfl 169 _ rfl rfl r1.out Tryz.rowNb Tryz.sizeNb ?_) | (refine wpList_storeRow rfl 169 _ _ rfl rfl rfl (HasC.new wr _ _) rfl Tryz.sizeNb (Nb.one y) ?_; intro w6 hz1 hz2))
      have H6 := Lib.hid (HQ.out.keep (new_below hz2))
      have X6 := Lib.hid (XQ.out.keep (new_below hz2))
      have Y6 := hz1
      clear hz1 hz2 r1 HQ XQ
      generalize wr.heap.size = gy at Y6 ⊢
      replace Y6 := Lib.hid Y6
      have xc0 : w6.cell? ⟨gx, 0, none⟩ = some (.int .u32 (x.addr : Int)) := X6.out.cell 0
      have yc0 : w6.cell? ⟨gy, 0, none⟩ = some (.int .u32 (y.addr : Int)) := Y6.out.cell 0
      have CC : Hid (sameNb x y = (y.addr == x.addr)) := Lib.hid rfl
      by_cases ha : y.addr = x.addr
      · have da : ((y.addr : Int) == (x.addr : Int)) = true := by rw [ha]; simp
        have CD : Hid (sameNb x y = true) := Lib.hid (by rw [CC.out, ha]; simp)
        clear ha
        have E : Hid (res = 4) := Lib.hid (pair_hit HAN.out HAY.out (by rw [HST.out, CD.out]))
        go_wp2_with fail
        go_ret
        exact ⟨ret_int E.out.symm, H6.out.b⟩
      have da : ((y.addr : Int) == (x.addr : Int)) = false := by simp; omega
      have CD : Hid (sameNb x y = false) := Lib.hid (by rw [CC.out]; simpa using ha)
      clear ha
      have EN : Hid ((r.nb.take k).any (sameNb x) = ((r.nb.take k).drop (j + 1)).any (sameNb x)) := Lib.hid (pair_next HAY.out (by rw [HST.out, CD.out]))
      go_wp2_with fail
      go_roundg (k - (j + 1))
      case measure => omega
      case rel => exact ⟨j + 1, by omega, by go_num, H6, X6, EN⟩
end Go.Proofs.YtnhemjdmleilcaaGreatDoor
