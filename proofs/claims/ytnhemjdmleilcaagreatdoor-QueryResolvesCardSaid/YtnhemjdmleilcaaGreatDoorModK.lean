/- The walk of checkStatics. Conditions: the router lies in memory, addresses are numbers below 2^32. -/
import Derived.Test.YtnhemjdmleilcaaGreatDoorModJ
namespace Go.Proofs.YtnhemjdmleilcaaGreatDoor
open Go.RowKit

/-- The interface with a name has no address. -/
def lenAt (ifs : List If) (n : List UInt8) : Int := (ifs[(idxF (fun y => y.name == n) ifs 0).toNat]?.map (·.len)).getD 0
def staF (ifs : List If) (x : Sr) : Int := if rightSr ifs x then (if x.iface.isEmpty then 0 else if idxF (fun y => y.name == x.iface) ifs 0 < 0 then 5 else if lenAt ifs x.iface = 0 then 1 else 0) else 1
def sameSr (x y : Sr) : Bool := decide (y.pa = x.pa ∧ y.pl = x.pl) && y.admin == x.admin
def statsE (ifs : List If) (l : List Sr) : Int := pairE 16 (staF ifs) sameSr 6 l
set_option maxRecDepth 100000 in
set_option maxHeartbeats 4000000 in
theorem checkStatics_any (r : Rt) (w : World) (B : Nat) (h : r.at w B) (hB : B ≤ w.heap.size) (hf : ∀ x ∈ r.stat, x.fit) : Calls Tryz.prog 38 #[.agg r.C] w fun e w' => e = .returned (.int .i64 (statsE r.ifs r.stat)) ∧ Below w.heap.size w w' := by
  have H0 := Lib.hid (RB.start r w)
  have HR := Lib.hid h
  have HF := Lib.hid hf
  clear hf
  have HBB := Lib.hid hB
  obtain ⟨A, c, hv, hle, -⟩ := h.hstat
  have HL : Hid (∀ w', RB r w w' → w'.cell? ⟨w.heap.size, 7, none⟩ = some (.slice A r.stat.length c)) := Lib.hid (fun w' h => by rw [← hv]; exact h.h.cell 7)
  have HV := Lib.hid hv
  clear h hv hB
  have c2 := HL.out _ H0.out
  obtain ⟨res, hres⟩ : ∃ res, statsE r.ifs r.stat = res := ⟨_, rfl⟩
  rw [hres]
  by_cases h8 : 16 < r.stat.length
  · have E : Hid (res = 7) := Lib.hid (by rw [← hres]; exact if_pos h8)
    clear hres
    go_enter Tryz.func38, Tryz.ntmps38
    go_wp2_with fail
    go_ret
    exact ⟨ret_int E.out.symm, H0.out.b⟩
  have d8 : decide ((16 : Int) < r.stat.length) = false := by simp; omega
  have E : Hid (pairGo (staF r.ifs) sameSr 6 r.stat r.stat 0 = res) := Lib.hid (by rw [← hres]; exact (if_neg h8).symm)
  clear hres
  go_enter Tryz.func38, Tryz.ntmps38
  go_wp2_with fail
  clear c2 d8
  go_loopg [15] r.stat.length (fun gh ix wr => ∃ k : Nat, k + gh = r.stat.length ∧ ix = .int .i64 k ∧ Hid (RB r w wr) ∧ Hid (pairGo (staF r.ifs) sameSr 6 r.stat (r.stat.drop k) k = res))
  case atStart => exact ⟨0, by omega, rfl, H0, E⟩
  case round =>
    obtain ⟨k, hk, rfl, HW, HG⟩ := hrel
    clear H0 E
    by_cases hlt : k < r.stat.length
    case neg =>
      have E := Lib.hid (pairGo_end hlt HG.out)
      go_wp2_with fail
      go_ret
      exact ⟨ret_int E.out.symm, HW.out.b⟩
    have HAT := Lib.hid (pairGo_at hlt HG.out)
    obtain ⟨g, o, c', e', -, hg, R0⟩ := (HR.out.hstat).elem (n := 7) (by decide) (fun _ => rfl) hlt
    rw [HV.out] at e'
    injection e' with e1 e2 e3
    subst e1 e3
    have r1 := Lib.hid (rangeBelow R0 (HW.out.b.mono HBB.out) hg)
    have FX := Lib.hid (HF.out _ (List.getElem_mem hlt))
    clear R0 HG e2
    generalize r.stat[k] = x at HAT r1 FX
    go_upto_region 6 with (first | (refine wpList_loadRow rfl 142 _ rfl rfl r1.out Tryz.rowSr Tryz.sizeSr ?_) | (refine wpList_storeRow rfl 142 _ _ rfl rfl rfl (HasC.new wr _ _) rfl Tryz.sizeSr (Sr.one x) ?_; intro w5 hz1 hz2))
    have H5 := Lib.hid (HW.out.keep (new_below hz2))
    have X5 := hz1
    clear hz1 hz2 r1 HW
    generalize wr.heap.size = gx at X5 ⊢
    replace X5 := Lib.hid X5
    go_wp2_with (first | (refine wpList_loadRow rfl 69 _ rfl rfl H5.out.h.range Tryz.rowRt Tryz.sizeRt ?_) | (refine wpList_loadRow rfl 142 _ rfl rfl X5.out.range Tryz.rowSr Tryz.sizeSr ?_))
    with_reducible refine (rightStatic_any r x _ B (HR.out.below (H5.out.b.mono HBB.out)) (Nat.le_trans HBB.out H5.out.b.size) FX.out).mono ?_
    rintro e w6 ⟨rfl, hb⟩
    have H6 := Lib.hid (H5.out.keep hb)
    have X6 := Lib.hid (X5.out.keep hb)
    clear hb H5 X5
    have PE : Hid (staF r.ifs x = if rightSr r.ifs x then (if x.iface.isEmpty then 0 else if idxF (fun y => y.name == x.iface) r.ifs 0 < 0 then 5 else if lenAt r.ifs x.iface = 0 then 1 else 0) else 1) := Lib.hid rfl
    cases hv : rightSr r.ifs x with
    | false =>
      have F1 : Hid (staF r.ifs x = 1) := Lib.hid (by rw [PE.out, hv]; rfl)
      have E : Hid (res = 1) := Lib.hid ((pair_fail HAT.out (by rw [F1.out]; decide)).trans (F1.out))
      go_wp2_with fail
      go_ret
      exact ⟨ret_int E.out.symm, H6.out.b⟩
    | true =>
    have PE2 : Hid (staF r.ifs x = if x.iface.isEmpty then 0 else if idxF (fun y => y.name == x.iface) r.ifs 0 < 0 then 5 else if lenAt r.ifs x.iface = 0 then 1 else 0) := Lib.hid (by rw [PE.out, hv]; rfl)
    clear hv PE
    have x3 : w6.cell? ⟨gx, 3, none⟩ = some (.string (str x.iface)) := X6.out.cell 3
    by_cases hi : x.iface = []
    · have F0 : Hid (staF r.ifs x = 0) := Lib.hid (by rw [PE2.out, hi]; rfl)
      have tn : (str x.iface).toList = [] := by rw [toList_str, hi]
      clear hi
      have HAN : Hid (res = if (r.stat.take k).any (sameSr x) then 6 else pairGo (staF r.ifs) sameSr 6 r.stat (r.stat.drop (k + 1)) (k + 1)) := Lib.hid (pair_ok HAT.out F0.out)
      clear HAT F0
      have c2 := HL.out _ H6.out
      go_wp2_with fail
      clear c2 x3 tn
      go_loopg [45] k (fun gh ix wq => ∃ j : Nat, j + gh = k ∧ ix = .int .i64 j ∧ Hid (RB r w wq) ∧ Hid (HasC 142 gx x.C wq) ∧ Hid ((r.stat.take k).any (sameSr x) = ((r.stat.take k).drop j).any (sameSr x)))
      case atStart => exact ⟨0, by omega, rfl, H6, X6, Lib.hid rfl⟩
      case round =>
        obtain ⟨j, hj, rfl, HQ, XQ, HAY⟩ := hrel
        by_cases hjl : j < k
        case neg =>
          have E : Hid (pairGo (staF r.ifs) sameSr 6 r.stat (r.stat.drop (k + 1)) (k + 1) = res) := Lib.hid (pair_done HAN.out HAY.out hjl).symm
          go_wp2_with fail
          go_roundg (r.stat.length - (k + 1))
          case measure => omega
          case rel => exact ⟨k + 1, by omega, by go_num, HQ, E⟩
        have hjn : j < r.stat.length := by omega
        obtain ⟨g', o', c'', e', -, hg', R0⟩ := (HR.out.hstat).elem (n := 7) (by decide) (fun _ => rfl) hjn
        rw [HV.out] at e'
        injection e' with e1 e2 e3
        injection e1 with e1
        injection e1 with e1 e4
        subst e1 e4
        have HST := Lib.hid (take_step (all := r.stat) (p := sameSr x) hjl hjn)
        have r1 := Lib.hid (rangeBelow R0 (HQ.out.b.mono HBB.out) hg')
        clear R0 e2 e3
        generalize r.stat[j] = y at HST r1
        have hjk : (j : Int) < k := by omega
        go_upto_region 17 with (first | (refine wpList_loadRow rfl 142 _ rfl rfl r1.out Tryz.rowSr Tryz.sizeSr ?_) | (refine wpList_storeRow rfl 142 _ _ rfl rfl rfl (HasC.new wr _ _) rfl Tryz.sizeSr (Sr.one y) ?_; intro w6 hz1 hz2))
        have H6 := Lib.hid (HQ.out.keep (new_below hz2))
        have X6 := Lib.hid (XQ.out.keep (new_below hz2))
        have Y6 := hz1
        clear hz1 hz2 r1 HQ XQ
        generalize wr.heap.size = gy at Y6 ⊢
        replace Y6 := Lib.hid Y6
        have xc0 : w6.cell? ⟨gx, 0, none⟩ = some (.int .u32 (x.pa : Int)) := X6.out.cell 0
        have xc1 : w6.cell? ⟨gx, 1, none⟩ = some (.int .i64 x.pl) := X6.out.cell 1
        have xc5 : w6.cell? ⟨gx, 5, none⟩ = some (.int .i64 x.admin) := X6.out.cell 5
        have yc0 : w6.cell? ⟨gy, 0, none⟩ = some (.int .u32 (y.pa : Int)) := Y6.out.cell 0
        have yc1 : w6.cell? ⟨gy, 1, none⟩ = some (.int .i64 y.pl) := Y6.out.cell 1
        have yc5 : w6.cell? ⟨gy, 5, none⟩ = some (.int .i64 y.admin) := Y6.out.cell 5
        have qe : ∀ w, (binOp .eql 27 (.agg #[.int .u32 (y.pa : Int), .int .i64 y.pl]) (.agg #[.int .u32 (x.pa : Int), .int .i64 x.pl])).run Tryz.prog w = .ok (.bool (decide (y.pa = x.pa ∧ y.pl = x.pl))) w := fun w => pfx_eql y.pa x.pa y.pl x.pl w
        have g := Tryz.pfxGuard
        have CC : Hid (sameSr x y = (decide (y.pa = x.pa ∧ y.pl = x.pl) && y.admin == x.admin)) := Lib.hid rfl
        generalize decide (y.pa = x.pa ∧ y.pl = x.pl) = bp at qe CC
        cases bp with
        | false =>
          have EN : Hid ((r.stat.take k).any (sameSr x) = ((r.stat.take k).drop (j + 1)).any (sameSr x)) := Lib.hid (pair_next HAY.out (by rw [HST.out, CC.out, Bool.false_and]))
          go_wp2_with fail
          go_roundg (k - (j + 1))
          case measure => omega
          case rel => exact ⟨j + 1, by omega, by go_num, H6, X6, EN⟩
        | true =>
        by_cases ha : y.admin = x.admin
        · have da : (y.admin == x.admin) = true := by simpa using ha
          have CD : Hid (sameSr x y = true) := Lib.hid (by rw [CC.out, da]; rfl)
          clear ha
          have E : Hid (res = 6) := Lib.hid (pair_hit HAN.out HAY.out (by rw [HST.out, CD.out]))
          go_wp2_with fail
          go_ret
          exact ⟨ret_int E.out.symm, H6.out.b⟩
        have da : (y.admin == x.admin) = false := by simpa using ha
        have CD : Hid (sameSr x y = false) := Lib.hid (by rw [CC.out, da]; rfl)
        clear ha
        have EN : Hid ((r.stat.take k).any (sameSr x) = ((r.stat.take k).drop (j + 1)).any (sameSr x)) := Lib.hid (pair_next HAY.out (by rw [HST.out, CD.out]))
        go_wp2_with fail
        go_roundg (k - (j + 1))
        case measure => omega
        case rel => exact ⟨j + 1, by omega, by go_num, H6, X6, EN⟩
    obtain ⟨i1, i2, i3⟩ := ne_str hi
    have PE3 : Hid (staF r.ifs x = if idxF (fun y => y.name == x.iface) r.ifs 0 < 0 then 5 else if lenAt r.ifs x.iface = 0 then 1 else 0) := Lib.hid (by rw [PE2.out, i1]; rfl)
    clear hi PE2
    go_wp2_with (first | (refine wpList_loadRow rfl 69 _ rfl rfl H6.out.h.range Tryz.rowRt Tryz.sizeRt ?_))
    with_reducible refine (interface_any r x.iface w6 B (HR.out.below (H6.out.b.mono HBB.out)) (Nat.le_trans HBB.out H6.out.b.size)).mono ?_
    rintro e w7 ⟨rfl, hb⟩
    have H7 := Lib.hid (H6.out.keep hb)
    have X7 := Lib.hid (X6.out.keep hb)
    clear hb H6 X6 x3 i1 i2 i3
    by_cases hd : idxF (fun y => y.name == x.iface) r.ifs 0 < 0
    · have di := decide_eq_true hd
      have F1 : Hid (staF r.ifs x = 5) := Lib.hid (by rw [PE3.out, if_pos hd])
      clear hd
      have E : Hid (res = 5) := Lib.hid ((pair_fail HAT.out (by rw [F1.out]; decide)).trans (F1.out))
      go_wp2_with fail
      go_ret
      exact ⟨ret_int E.out.symm, H7.out.b⟩
    have PE4 : Hid (staF r.ifs x = if lenAt r.ifs x.iface = 0 then 1 else 0) := Lib.hid (by rw [PE3.out, if_neg hd])
    obtain ⟨i, hii⟩ : ∃ i : Nat, idxF (fun y => y.name == x.iface) r.ifs 0 = (i : Int) := ⟨_, (Int.toNat_of_nonneg (by omega)).symm⟩
    have hil : i < r.ifs.length := by have := (idxF_bd (fun y => y.name == x.iface) r.ifs 0).2; omega
    have EL : Hid (lenAt r.ifs x.iface = r.ifs[i].len) := Lib.hid (by unfold lenAt; rw [hii, Int.toNat_natCast, List.getElem?_eq_getElem hil]; rfl)
    obtain ⟨gi, oi, ci, ei, hci, hgi, RI⟩ := (HR.out.hifs).elem (n := 12) (by decide) (fun _ => rfl) hil
    have cl : w7.cell? ⟨gi, oi + i * 12 + 2, none⟩ = some (.int .i64 r.ifs[i].len) := rangeBelow RI (H7.out.b.mono HBB.out) hgi 2 _ rfl
    have cs : w7.cell? ⟨w.heap.size, 2, none⟩ = some (.slice (some ⟨gi, oi, none⟩) r.ifs.length ci) := by rw [← ei]; exact H7.out.h.cell 2
    rw [hii]
    clear hii hd RI ei
    generalize r.ifs[i].len = li at EL cl
    by_cases hz : li = 0
    · subst hz
      have F1 : Hid (staF r.ifs x = 1) := Lib.hid (by rw [PE4.out, EL.out]; rfl)
      have E : Hid (res = 1) := Lib.hid ((pair_fail HAT.out (by rw [F1.out]; decide)).trans (F1.out))
      go_wp2_with fail
      go_ret
      exact ⟨ret_int E.out.symm, H7.out.b⟩
    have dz : (li == 0) = false := by simpa using hz
    have F0 : Hid (staF r.ifs x = 0) := Lib.hid (by rw [PE4.out, EL.out, if_neg hz])
    clear hz
    have HAN : Hid (res = if (r.stat.take k).any (sameSr x) then 6 else pairGo (staF r.ifs) sameSr 6 r.stat (r.stat.drop (k + 1)) (k + 1)) := Lib.hid (pair_ok HAT.out F0.out)
    clear HAT F0
    have c2 := HL.out _ H7.out
    go_wp2_with fail
    clear c2 cl cs dz
    go_loopg [45] k (fun gh ix wq => ∃ j : Nat, j + gh = k ∧ ix = .int .i64 j ∧ Hid (RB r w wq) ∧ Hid (HasC 142 gx x.C wq) ∧ Hid ((r.stat.take k).any (sameSr x) = ((r.stat.take k).drop j).any (sameSr x)))
    case atStart => exact ⟨0, by omega, rfl, H7, X7, Lib.hid rfl⟩
    case round =>
      obtain ⟨j, hj, rfl, HQ, XQ, HAY⟩ := hrel
      by_cases hjl : j < k
      case neg =>
        have E : Hid (pairGo (staF r.ifs) sameSr 6 r.stat (r.stat.drop (k + 1)) (k + 1) = res) := Lib.hid (pair_done HAN.out HAY.out hjl).symm
        go_wp2_with fail
        go_roundg (r.stat.length - (k + 1))
        case measure => omega
        case rel => exact ⟨k + 1, by omega, by go_num, HQ, E⟩
      have hjn : j < r.stat.length := by omega
      obtain ⟨g', o', c'', e', -, hg', R0⟩ := (HR.out.hstat).elem (n := 7) (by decide) (fun _ => rfl) hjn
      rw [HV.out] at e'
      injection e' with e1 e2 e3
      injection e1 with e1
      injection e1 with e1 e4
      subst e1 e4
      have HST := Lib.hid (take_step (all := r.stat) (p := sameSr x) hjl hjn)
      have r1 := Lib.hid (rangeBelow R0 (HQ.out.b.mono HBB.out) hg')
      clear R0 e2 e3
      generalize r.stat[j] = y at HST r1
      have hjk : (j : Int) < k := by omega
      go_upto_region 17 with (first | (refine wpList_loadRow rfl 142 _ rfl rfl r1.out Tryz.rowSr Tryz.sizeSr ?_) | (refine wpList_storeRow rfl 142 _ _ rfl rfl rfl (HasC.new wr _ _) rfl Tryz.sizeSr (Sr.one y) ?_; intro w6 hz1 hz2))
      have H6 := Lib.hid (HQ.out.keep (new_below hz2))
      have X6 := Lib.hid (XQ.out.keep (new_below hz2))
      have Y6 := hz1
      clear hz1 hz2 r1 HQ XQ
      generalize wr.heap.size = gy at Y6 ⊢
      replace Y6 := Lib.hid Y6
      have xc0 : w6.cell? ⟨gx, 0, none⟩ = some (.int .u32 (x.pa : Int)) := X6.out.cell 0
      have xc1 : w6.cell? ⟨gx, 1, none⟩ = some (.int .i64 x.pl) := X6.out.cell 1
      have xc5 : w6.cell? ⟨gx, 5, none⟩ = some (.int .i64 x.admin) := X6.out.cell 5
      have yc0 : w6.cell? ⟨gy, 0, none⟩ = some (.int .u32 (y.pa : Int)) := Y6.out.cell 0
      have yc1 : w6.cell? ⟨gy, 1, none⟩ = some (.int .i64 y.pl) := Y6.out.cell 1
      have yc5 : w6.cell? ⟨gy, 5, none⟩ = some (.int .i64 y.admin) := Y6.out.cell 5
      have qe : ∀ w, (binOp .eql 27 (.agg #[.int .u32 (y.pa : Int), .int .i64 y.pl]) (.agg #[.int .u32 (x.pa : Int), .int .i64 x.pl])).run Tryz.prog w = .ok (.bool (decide (y.pa = x.pa ∧ y.pl = x.pl))) w := fun w => pfx_eql y.pa x.pa y.pl x.pl w
      have g := Tryz.pfxGuard
      have CC : Hid (sameSr x y = (decide (y.pa = x.pa ∧ y.pl = x.pl) && y.admin == x.admin)) := Lib.hid rfl
      generalize decide (y.pa = x.pa ∧ y.pl = x.pl) = bp at qe CC
      cases bp with
      | false =>
        have EN : Hid ((r.stat.take k).any (sameSr x) = ((r.stat.take k).drop (j + 1)).any (sameSr x)) := Lib.hid (pair_next HAY.out (by rw [HST.out, CC.out, Bool.false_and]))
        go_wp2_with fail
        go_roundg (k - (j + 1))
        case measure => omega
        case rel => exact ⟨j + 1, by omega, by go_num, H6, X6, EN⟩
      | true =>
      by_cases ha : y.admin = x.admin
      · have da : (y.admin == x.admin) = true := by simpa using ha
        have CD : Hid (sameSr x y = true) := Lib.hid (by rw [CC.out, da]; rfl)
        clear ha
        have E : Hid (res = 6) := Lib.hid (pair_hit HAN.out HAY.out (by rw [HST.out, CD.out]))
        go_wp2_with fail
        go_ret
        exact ⟨ret_int E.out.symm, H6.out.b⟩
      have da : (y.admin == x.admin) = false := by simpa using ha
      have CD : Hid (sameSr x y = false) := Lib.hid (by rw [CC.out, da]; rfl)
      clear ha
      have EN : Hid ((r.stat.take k).any (sameSr x) = ((r.stat.take k).drop (j + 1)).any (sameSr x)) := Lib.hid (pair_next HAY.out (by rw [HST.out, CD.out]))
      go_wp2_with fail
      go_roundg (k - (j + 1))
      case measure => omega
      case rel => exact ⟨j + 1, by omega, by go_num, H6, X6, EN⟩
end Go.Proofs.YtnhemjdmleilcaaGreatDoor
