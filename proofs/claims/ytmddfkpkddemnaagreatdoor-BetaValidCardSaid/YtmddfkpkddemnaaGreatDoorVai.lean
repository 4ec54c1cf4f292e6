/- The error of a router does not depend on where its slices lie. No condition. -/
import Derived.Test.YtmddfkpkddemnaaGreatDoorVah
import Derived.Lib.MinMax
import Derived.Test.YtmddfkpkddemnaaGreatDoorVr
namespace Go.Proofs.YtmddfkpkddemnaaGreatDoor
open Go.RowKit
def Rt.pvC (r : Rt) : Array Value := #[.bool r.pvOn, .int .i64 r.ext, .int .i64 r.int, r.nbV, r.netV, r.agV, r.cdV, r.pvRedV]
def netF (x : Pf) : Int := if validP x.pa x.pl then 0 else 1
def agF (x : Ag) : Int := if validP x.pa x.pl then 0 else 1
def cdF (x : Cd) : Int := if validP x.pa x.pl && validP x.ia x.il then (if decide (x.pa = x.ia ∧ x.pl = x.il) then 6 else 0) else 1
def sameAg (x y : Ag) : Bool := decide (y.pa = x.pa ∧ y.pl = x.pl)
def sameCd (x y : Cd) : Bool := decide (y.pa = x.pa ∧ y.pl = x.pl)
def netsE (l : List Pf) : Int := pairE 8 netF samePf 4 l
def agsE (l : List Ag) : Int := pairE 8 agF sameAg 4 l
def cdsE (l : List Cd) : Int := pairE 8 cdF sameCd 4 l
def origE (r : Rt) : Int := if netsE r.net = 0 then (if agsE r.ag = 0 then cdsE r.cd else agsE r.ag) else netsE r.net
set_option maxRecDepth 100000 in
set_option maxHeartbeats 8000000 in
theorem checkOrigins_any (r : Rt) (w : World) (B : Nat) (h : r.at w B) (hB : B ≤ w.heap.size) (hf1 : ∀ x ∈ r.net, x.fit) (hf2 : ∀ x ∈ r.ag, x.fit) (hf3 : ∀ x ∈ r.cd, x.fit) : Calls Tryz.prog 162 #[.agg r.pvC] w fun e w' => e = .returned (.int .i64 (origE r)) ∧ Below w.heap.size w w' := by
  have HR := Lib.hid h
  have HBB := Lib.hid hB
  have HF1 := Lib.hid hf1
  have HF2 := Lib.hid hf2
  have HF3 := Lib.hid hf3
  obtain ⟨A1, c1, hv1, hle, -⟩ := h.hnet
  obtain ⟨A2, c2, hv2, hle2, -⟩ := h.hag
  obtain ⟨A3, c3, hv3, hle3, -⟩ := h.hcd
  have HV1 := Lib.hid hv1
  have HV2 := Lib.hid hv2
  have HV3 := Lib.hid hv3
  have HL1 : Hid (∀ w', RQ 39 r.pvC w w' → w'.cell? ⟨w.heap.size, 4, none⟩ = some (.slice A1 r.net.length c1)) := Lib.hid (fun w' h => by rw [← hv1]; exact h.h.cell 4)
  have HL2 : Hid (∀ w', RQ 39 r.pvC w w' → w'.cell? ⟨w.heap.size, 5, none⟩ = some (.slice A2 r.ag.length c2)) := Lib.hid (fun w' h => by rw [← hv2]; exact h.h.cell 5)
  have HL3 : Hid (∀ w', RQ 39 r.pvC w w' → w'.cell? ⟨w.heap.size, 6, none⟩ = some (.slice A3 r.cd.length c3)) := Lib.hid (fun w' h => by rw [← hv3]; exact h.h.cell 6)
  have H0 := Lib.hid (RQ.start 39 r.pvC w)
  clear h hB hf1 hf2 hf3 hv1 hv2 hv3
  obtain ⟨res, hres⟩ : ∃ res, origE r = res := ⟨_, rfl⟩
  rw [hres]
  obtain ⟨pg1, hpg1⟩ : ∃ pg, netsE r.net = pg := ⟨_, rfl⟩
  obtain ⟨pg2, hpg2⟩ : ∃ pg, agsE r.ag = pg := ⟨_, rfl⟩
  obtain ⟨pg3, hpg3⟩ : ∃ pg, cdsE r.cd = pg := ⟨_, rfl⟩
  have HP1 : Hid (res = if pg1 = 0 then (if pg2 = 0 then pg3 else pg2) else pg1) := Lib.hid (by rw [← hres, ← hpg1, ← hpg2, ← hpg3]; rfl)
  clear hres
  replace hpg2 := Lib.hid hpg2
  replace hpg3 := Lib.hid hpg3
  generalize hcs : r.pvC = cs at *
  clear hcs
  have c2' := HL1.out _ H0.out
  go_enter Tryz.func162, Tryz.ntmps162
  by_cases h8 : 8 < r.net.length
  · have E : Hid (pg1 = 7) := Lib.hid (by rw [← hpg1]; exact if_pos h8)
    have E2 := Lib.hid (fin_err HP1.out E.out (by decide))
    clear hpg1
    go_wp2_with fail
    go_ret
    exact ⟨ret_int E2.out.symm, H0.out.b⟩
  have d8 : decide ((8 : Int) < r.net.length) = false := by simp; omega
  have E : Hid (pairGo netF samePf 4 r.net r.net 0 = pg1) := Lib.hid (by rw [← hpg1]; exact (if_neg h8).symm)
  clear hpg1
  go_wp2_with fail
  clear c2' d8
  have HV := HV1
  have HF := HF1
  go_loopg [20] r.net.length (fun gh ix wr => ∃ k : Nat, k + gh = r.net.length ∧ ix = .int .i64 k ∧ Hid ((RQ 39 cs w) wr) ∧ Hid (pairGo netF samePf 4 r.net (r.net.drop k) k = pg1))
  case atStart => exact ⟨0, by omega, rfl, H0, E⟩
  case round =>
    obtain ⟨k, hk, rfl, HW, HG⟩ := hrel
    clear H0 E
    by_cases hlt : k < r.net.length
    case neg =>
      have E := Lib.hid (pairGo_end hlt HG.out)
      have HP2 := Lib.hid (fin_ok HP1.out E.out)
      have c2' := HL2.out _ HW.out
      have hle := hle2
      have hpg2' := hpg2.out
      by_cases h8 : 8 < r.ag.length
      · have E : Hid (pg2 = 7) := Lib.hid (by rw [← hpg2']; exact if_pos h8)
        have E2 := Lib.hid (fin_err HP2.out E.out (by decide))
        have d8 : decide ((8 : Int) < r.ag.length) = true := by simp; omega
        clear hpg2'
        go_wp2_with fail
        go_ret
        exact ⟨ret_int E2.out.symm, HW.out.b⟩
      have d8 : decide ((8 : Int) < r.ag.length) = false := by simp; omega
      have E : Hid (pairGo agF sameAg 4 r.ag r.ag 0 = pg2) := Lib.hid (by rw [← hpg2']; exact (if_neg h8).symm)
      clear hpg2'
      go_wp2_with fail
      clear c2' d8
      have HV := HV2
      have HF := HF2
      have H0 := HW
      go_loopg [42] r.ag.length (fun gh ix wr => ∃ k : Nat, k + gh = r.ag.length ∧ ix = .int .i64 k ∧ Hid ((RQ 39 cs w) wr) ∧ Hid (pairGo agF sameAg 4 r.ag (r.ag.drop k) k = pg2))
      case atStart => exact ⟨0, by omega, rfl, H0, E⟩
      case round =>
        obtain ⟨k, hk, rfl, HW, HG⟩ := hrel
        clear H0 E
        by_cases hlt : k < r.ag.length
        case neg =>
          have E := Lib.hid (pairGo_end hlt HG.out)
          have HP3 := Lib.hid (fin_ok HP2.out E.out)
          have c2' := HL3.out _ HW.out
          have hle := hle3
          have hpg3' := hpg3.out
          by_cases h8 : 8 < r.cd.length
          · have E : Hid (pg3 = 7) := Lib.hid (by rw [← hpg3']; exact if_pos h8)
            have E2 := Lib.hid (HP3.out.trans E.out)
            have d8 : decide ((8 : Int) < r.cd.length) = true := by simp; omega
            clear hpg3'
            go_wp2_with fail
            go_ret
            exact ⟨ret_int E2.out.symm, HW.out.b⟩
          have d8 : decide ((8 : Int) < r.cd.length) = false := by simp; omega
          have E : Hid (pairGo cdF sameCd 4 r.cd r.cd 0 = pg3) := Lib.hid (by rw [← hpg3']; exact (if_neg h8).symm)
          clear hpg3'
          go_wp2_with fail
          clear c2' d8
          have HV := HV3
          have HF := HF3
          have H0 := HW
          go_loopg [74] r.cd.length (fun gh ix wr => ∃ k : Nat, k + gh = r.cd.length ∧ ix = .int .i64 k ∧ Hid ((RQ 39 cs w) wr) ∧ Hid (pairGo cdF sameCd 4 r.cd (r.cd.drop k) k = pg3))
          case atStart => exact ⟨0, by omega, rfl, H0, E⟩
          case round =>
            obtain ⟨k, hk, rfl, HW, HG⟩ := hrel
            clear H0 E
            by_cases hlt : k < r.cd.length
            case neg =>
              have E := Lib.hid (pairGo_end hlt HG.out)
              have E2 := Lib.hid (HP3.out.trans E.out)
              go_wp2_with fail
              go_ret
              exact ⟨ret_int E2.out.symm, HW.out.b⟩
            have HAT := Lib.hid (pairGo_at hlt HG.out)
            obtain ⟨g, o, c', e', -, hg, R0⟩ := (HR.out.hcd).elem (n := 5) (by decide) (fun _ => rfl) hlt
            rw [HV.out] at e'
            injection e' with e1 e2 e3
            subst e1 e3
            have r1 := Lib.hid (rangeBelow R0 (HW.out.b.mono HBB.out) hg)
            have FX := Lib.hid (HF.out _ (List.getElem_mem hlt))
            clear R0 HG e2
            generalize r.cd[k] = x at HAT r1 FX
            go_upto_region 30 with (first | (refine wpList_loadRow rfl 128 _ rfl rfl r1.out Tryz.rowCd Tryz.sizeCd ?_) | (refine wpList_storeRow rfl 128 _ _ rfl rfl rfl (HasC.new wr _ _) rfl Tryz.sizeCd (Cd.one x) ?_; intro w5 hz1 hz2))
            have H5 := Lib.hid (HW.out.keep (new_below hz2))
            have X5 := hz1
            clear hz1 hz2 r1 HW
            generalize wr.heap.size = gx at X5 ⊢
            replace X5 := Lib.hid X5
            have PE : Hid (cdF x = if validP x.pa x.pl && validP x.ia x.il then (if decide (x.pa = x.ia ∧ x.pl = x.il) then 6 else 0) else 1) := Lib.hid rfl
            have xc0 : w5.cell? ⟨gx, 0, none⟩ = some (.int .u32 (x.pa : Int)) := X5.out.cell 0
            have xc1 : w5.cell? ⟨gx, 1, none⟩ = some (.int .i64 x.pl) := X5.out.cell 1
            go_wp2_with fail
            refine (valid_any x.pa x.pl _ FX.out.1).mono ?_
            rintro e w6 ⟨rfl, hb⟩
            have H6 := Lib.hid (H5.out.keep hb)
            have X6 := Lib.hid (X5.out.keep hb)
            clear hb H5 X5 xc0 xc1
            cases h1 : validP x.pa x.pl with
            | false =>
              have F1 : Hid (cdF x = 1) := Lib.hid (by rw [PE.out, h1]; rfl)
              have E : Hid (pg3 = 1) := Lib.hid ((pair_fail HAT.out (by rw [F1.out]; decide)).trans (F1.out))
              have E := Lib.hid (HP3.out.trans E.out)
              go_wp2_with fail
              go_ret
              exact ⟨ret_int E.out.symm, H6.out.b⟩
            | true =>
            have xc2 : w6.cell? ⟨gx, 2, none⟩ = some (.int .u32 (x.ia : Int)) := X6.out.cell 2
            have xc3 : w6.cell? ⟨gx, 3, none⟩ = some (.int .i64 x.il) := X6.out.cell 3
            go_wp2_with fail
            refine (valid_any x.ia x.il _ FX.out.2).mono ?_
            rintro e w7 ⟨rfl, hb⟩
            have H7 := Lib.hid (H6.out.keep hb)
            have X7 := Lib.hid (X6.out.keep hb)
            clear hb H6 X6 xc2 xc3
            cases h2 : validP x.ia x.il with
            | false =>
              have F1 : Hid (cdF x = 1) := Lib.hid (by rw [PE.out, h1, h2]; rfl)
              have E : Hid (pg3 = 1) := Lib.hid ((pair_fail HAT.out (by rw [F1.out]; decide)).trans (F1.out))
              have E := Lib.hid (HP3.out.trans E.out)
              go_wp2_with fail
              go_ret
              exact ⟨ret_int E.out.symm, H7.out.b⟩
            | true =>
            have PE2 : Hid (cdF x = if decide (x.pa = x.ia ∧ x.pl = x.il) then 6 else 0) := Lib.hid (by rw [PE.out, h1, h2]; rfl)
            clear PE h1 h2
            have xc0 : w7.cell? ⟨gx, 0, none⟩ = some (.int .u32 (x.pa : Int)) := X7.out.cell 0
            have xc1 : w7.cell? ⟨gx, 1, none⟩ = some (.int .i64 x.pl) := X7.out.cell 1
            have xc2 : w7.cell? ⟨gx, 2, none⟩ = some (.int .u32 (x.ia : Int)) := X7.out.cell 2
            have xc3 : w7.cell? ⟨gx, 3, none⟩ = some (.int .i64 x.il) := X7.out.cell 3
            have gd := Tryz.pfxGuard
            have qx : ∀ w, (binOp .eql 71 (.agg #[.int .u32 (x.pa : Int), .int .i64 x.pl]) (.agg #[.int .u32 (x.ia : Int), .int .i64 x.il])).run Tryz.prog w = .ok (.bool (decide (x.pa = x.ia ∧ x.pl = x.il))) w := fun w => pfx_eql x.pa x.ia x.pl x.il w
            generalize decide (x.pa = x.ia ∧ x.pl = x.il) = bx at qx PE2
            cases bx with
            | true =>
              have F1 : Hid (cdF x = 6) := Lib.hid (by rw [PE2.out]; rfl)
              have E : Hid (pg3 = 6) := Lib.hid ((pair_fail HAT.out (by rw [F1.out]; decide)).trans (F1.out))
              have E := Lib.hid (HP3.out.trans E.out)
              go_wp2_with fail
              go_ret
              exact ⟨ret_int E.out.symm, H7.out.b⟩
            | false =>
            have F0 : Hid (cdF x = 0) := Lib.hid (by rw [PE2.out]; rfl)
            have HAN : Hid (pg3 = if (r.cd.take k).any (sameCd x) then 4 else pairGo cdF sameCd 4 r.cd (r.cd.drop (k + 1)) (k + 1)) := Lib.hid (pair_ok HAT.out F0.out)
            clear HAT F0
            have c2 := HL3.out _ H7.out
            go_wp2_with fail
            clear c2 xc0 xc1 xc2 xc3 qx gd
            go_loopg [99] k (fun gh ix wq => ∃ j : Nat, j + gh = k ∧ ix = .int .i64 j ∧ Hid ((RQ 39 cs w) wq) ∧ Hid (HasC 128 gx x.C wq) ∧ Hid ((r.cd.take k).any (sameCd x) = ((r.cd.take k).drop j).any (sameCd x)))
            case atStart => exact ⟨0, by omega, rfl, H7, X7, Lib.hid rfl⟩
            case round =>
              obtain ⟨j, hj, rfl, HQ, XQ, HAY⟩ := hrel
              by_cases hjl : j < k
              case neg =>
                have E : Hid (pairGo cdF sameCd 4 r.cd (r.cd.drop (k + 1)) (k + 1) = pg3) := Lib.hid (pair_done HAN.out HAY.out hjl).symm
                go_wp2_with fail
                go_roundg (r.cd.length - (k + 1))
                case measure => omega
                case rel => exact ⟨k + 1, by omega, by go_num, HQ, E⟩
              have hjn : j < r.cd.length := by omega
              obtain ⟨g', o', c'', e', -, hg', R0⟩ := (HR.out.hcd).elem (n := 5) (by decide) (fun _ => rfl) hjn
              rw [HV.out] at e'
              injection e' with e1 e2 e3
              injection e1 with e1
              injection e1 with e1 e4
              subst e1 e4
              have HST := Lib.hid (take_step (all := r.cd) (p := sameCd x) hjl hjn)
              have r1 := Lib.hid (rangeBelow R0 (HQ.out.b.mono HBB.out) hg')
              clear R0 e2 e3
              generalize r.cd[j] = y at HST r1
              have hjk : (j : Int) < k := by omega
              go_upto_region 37 with (first | (refine wpList_loadRow rfl 128 _ rfl rfl r1.out Tryz.rowCd Tryz.sizeCd ?_) | (refine wpList_storeRow rfl 128 _ _ rfl rfl rfl (HasC.new wr _ _) rfl Tryz.sizeCd (Cd.one y) ?_; intro w6 hz1 hz2))
              have H6 := Lib.hid (HQ.out.keep (new_below hz2))
              have X6 := Lib.hid (XQ.out.keep (new_below hz2))
              have Y6 := hz1
              clear hz1 hz2 r1 HQ XQ
              generalize wr.heap.size = gy at Y6 ⊢
              replace Y6 := Lib.hid Y6
              have xc0 : w6.cell? ⟨gx, 0, none⟩ = some (.int .u32 (x.pa : Int)) := X6.out.cell 0
              have xc1 : w6.cell? ⟨gx, 1, none⟩ = some (.int .i64 x.pl) := X6.out.cell 1
              have yc0 : w6.cell? ⟨gy, 0, none⟩ = some (.int .u32 (y.pa : Int)) := Y6.out.cell 0
              have yc1 : w6.cell? ⟨gy, 1, none⟩ = some (.int .i64 y.pl) := Y6.out.cell 1
              have qe : ∀ w, (binOp .eql 71 (.agg #[.int .u32 (y.pa : Int), .int .i64 y.pl]) (.agg #[.int .u32 (x.pa : Int), .int .i64 x.pl])).run Tryz.prog w = .ok (.bool (decide (y.pa = x.pa ∧ y.pl = x.pl))) w := fun w => pfx_eql y.pa x.pa y.pl x.pl w
              have gd := Tryz.pfxGuard
              have CC : Hid (sameCd x y = decide (y.pa = x.pa ∧ y.pl = x.pl)) := Lib.hid rfl
              generalize decide (y.pa = x.pa ∧ y.pl = x.pl) = bp at qe CC
              cases bp with
              | false =>
                have EN : Hid ((r.cd.take k).any (sameCd x) = ((r.cd.take k).drop (j + 1)).any (sameCd x)) := Lib.hid (pair_next HAY.out (by rw [HST.out, CC.out]))
                go_wp2_with fail
                go_roundg (k - (j + 1))
                case measure => omega
                case rel => exact ⟨j + 1, by omega, by go_num, H6, X6, EN⟩
              | true =>
                have E : Hid (pg3 = 4) := Lib.hid (pair_hit HAN.out HAY.out (by rw [HST.out, CC.out]))
                have E := Lib.hid (HP3.out.trans E.out)
                go_wp2_with fail
                go_ret
                exact ⟨ret_int E.out.symm, H6.out.b⟩
        have HAT := Lib.hid (pairGo_at hlt HG.out)
        obtain ⟨g, o, c', e', -, hg, R0⟩ := (HR.out.hag).elem (n := 3) (by decide) (fun _ => rfl) hlt
        rw [HV.out] at e'
        injection e' with e1 e2 e3
        subst e1 e3
        have r1 := Lib.hid (rangeBelow R0 (HW.out.b.mono HBB.out) hg)
        have FX := Lib.hid (HF.out _ (List.getElem_mem hlt))
        clear R0 HG e2
        generalize r.ag[k] = x at HAT r1 FX
        go_upto_region 16 with (first | (refine wpList_loadRow rfl 126 _ rfl rfl r1.out Tryz.rowAg Tryz.sizeAg ?_) | (refine wpList_storeRow rfl 126 _ _ rfl rfl rfl (HasC.new wr _ _) rfl Tryz.sizeAg (Ag.one x) ?_; intro w5 hz1 hz2))
        have H5 := Lib.hid (HW.out.keep (new_below hz2))
        have X5 := hz1
        clear hz1 hz2 r1 HW
        generalize wr.heap.size = gx at X5 ⊢
        replace X5 := Lib.hid X5
        have PE : Hid (agF x = if validP x.pa x.pl then 0 else 1) := Lib.hid rfl
        have xc0 : w5.cell? ⟨gx, 0, none⟩ = some (.int .u32 (x.pa : Int)) := X5.out.cell 0
        have xc1 : w5.cell? ⟨gx, 1, none⟩ = some (.int .i64 x.pl) := X5.out.cell 1
        go_wp2_with fail
        refine (valid_any x.pa x.pl _ FX.out).mono ?_
        rintro e w6 ⟨rfl, hb⟩
        have H6 := Lib.hid (H5.out.keep hb)
        have X6 := Lib.hid (X5.out.keep hb)
        clear hb H5 X5 xc0 xc1
        cases h1 : validP x.pa x.pl with
        | false =>
          have F1 : Hid (agF x = 1) := Lib.hid (by rw [PE.out, h1]; rfl)
          have E : Hid (pg2 = 1) := Lib.hid ((pair_fail HAT.out (by rw [F1.out]; decide)).trans (F1.out))
          have E := Lib.hid (fin_err HP2.out E.out (show (1 : Int) ≠ 0 by decide))
          go_wp2_with fail
          go_ret
          exact ⟨ret_int E.out.symm, H6.out.b⟩
        | true =>
        have F0 : Hid (agF x = 0) := Lib.hid (by rw [PE.out, h1]; rfl)
        clear PE h1
        have HAN : Hid (pg2 = if (r.ag.take k).any (sameAg x) then 4 else pairGo agF sameAg 4 r.ag (r.ag.drop (k + 1)) (k + 1)) := Lib.hid (pair_ok HAT.out F0.out)
        clear HAT F0
        have c2 := HL2.out _ H6.out
        go_wp2_with fail
        clear c2
        go_loopg [56] k (fun gh ix wq => ∃ j : Nat, j + gh = k ∧ ix = .int .i64 j ∧ Hid ((RQ 39 cs w) wq) ∧ Hid (HasC 126 gx x.C wq) ∧ Hid ((r.ag.take k).any (sameAg x) = ((r.ag.take k).drop j).any (sameAg x)))
        case atStart => exact ⟨0, by omega, rfl, H6, X6, Lib.hid rfl⟩
        case round =>
          obtain ⟨j, hj, rfl, HQ, XQ, HAY⟩ := hrel
          by_cases hjl : j < k
          case neg =>
            have E : Hid (pairGo agF sameAg 4 r.ag (r.ag.drop (k + 1)) (k + 1) = pg2) := Lib.hid (pair_done HAN.out HAY.out hjl).symm
            go_wp2_with fail
            go_roundg (r.ag.length - (k + 1))
            case measure => omega
            case rel => exact ⟨k + 1, by omega, by go_num, HQ, E⟩
          have hjn : j < r.ag.length := by omega
          obtain ⟨g', o', c'', e', -, hg', R0⟩ := (HR.out.hag).elem (n := 3) (by decide) (fun _ => rfl) hjn
          rw [HV.out] at e'
          injection e' with e1 e2 e3
          injection e1 with e1
          injection e1 with e1 e4
          subst e1 e4
          have HST := Lib.hid (take_step (all := r.ag) (p := sameAg x) hjl hjn)
          have r1 := Lib.hid (rangeBelow R0 (HQ.out.b.mono HBB.out) hg')
          clear R0 e2 e3
          generalize r.ag[j] = y at HST r1
          have hjk : (j : Int) < k := by omega
          go_upto_region 21 with (first | (refine wpList_loadRow rfl 126 _ rfl rfl r1.out Tryz.rowAg Tryz.sizeAg ?_) | (refine wpList_storeRow rfl 126 _ _ rfl rfl rfl (HasC.new wr _ _) rfl Tryz.sizeAg (Ag.one y) ?_; intro w6 hz1 hz2))
          have H6 := Lib.hid (HQ.out.keep (new_below hz2))
          have X6 := Lib.hid (XQ.out.keep (new_below hz2))
          have Y6 := hz1
          clear hz1 hz2 r1 HQ XQ
          generalize wr.heap.size = gy at Y6 ⊢
          replace Y6 := Lib.hid Y6
          have xc0 : w6.cell? ⟨gx, 0, none⟩ = some (.int .u32 (x.pa : Int)) := X6.out.cell 0
          have xc1 : w6.cell? ⟨gx, 1, none⟩ = some (.int .i64 x.pl) := X6.out.cell 1
          have yc0 : w6.cell? ⟨gy, 0, none⟩ = some (.int .u32 (y.pa : Int)) := Y6.out.cell 0
          have yc1 : w6.cell? ⟨gy, 1, none⟩ = some (.int .i64 y.pl) := Y6.out.cell 1
          have qe : ∀ w, (binOp .eql 71 (.agg #[.int .u32 (y.pa : Int), .int .i64 y.pl]) (.agg #[.int .u32 (x.pa : Int), .int .i64 x.pl])).run Tryz.prog w = .ok (.bool (decide (y.pa = x.pa ∧ y.pl = x.pl))) w := fun w => pfx_eql y.pa x.pa y.pl x.pl w
          have gd := Tryz.pfxGuard
          have CC : Hid (sameAg x y = decide (y.pa = x.pa ∧ y.pl = x.pl)) := Lib.hid rfl
          generalize decide (y.pa = x.pa ∧ y.pl = x.pl) = bp at qe CC
          cases bp with
          | false =>
            have EN : Hid ((r.ag.take k).any (sameAg x) = ((r.ag.take k).drop (j + 1)).any (sameAg x)) := Lib.hid (pair_next HAY.out (by rw [HST.out, CC.out]))
            go_wp2_with fail
            go_roundg (k - (j + 1))
            case measure => omega
            case rel => exact ⟨j + 1, by omega, by go_num, H6, X6, EN⟩
          | true =>
            have E : Hid (pg2 = 4) := Lib.hid (pair_hit HAN.out HAY.out (by rw [HST.out, CC.out]))
            have E := Lib.hid (fin_err HP2.out E.out (show (4 : Int) ≠ 0 by decide))
            go_wp2_with fail
            go_ret
            exact ⟨ret_int E.out.symm, H6.out.b⟩
    have HAT := Lib.hid (pairGo_at hlt HG.out)
    obtain ⟨g, o, c', e', -, hg, R0⟩ := (HR.out.hnet).elem (n := 2) (by decide) (fun _ => rfl) hlt
    rw [HV.out] at e'
    injection e' with e1 e2 e3
    subst e1 e3
    have r1 := Lib.hid (rangeBelow R0 (HW.out.b.mono HBB.out) hg)
    have FX := Lib.hid (HF.out _ (List.getElem_mem hlt))
    clear R0 HG e2
    generalize r.net[k] = x at HAT r1 FX
    go_upto_region 6 with (first | (refine wpList_loadRow rfl 71 _ rfl rfl r1.out Tryz.rowPf Tryz.sizePf ?_) | (refine wpList_storeRow rfl 71 _ _ rfl rfl rfl (HasC.new wr _ _) rfl Tryz.sizePf (Pf.one x) ?_; intro w5 hz1 hz2))
    have H5 := Lib.hid (HW.out.keep (new_below hz2))
    have X5 := hz1
    clear hz1 hz2 r1 HW
    generalize wr.heap.size = gx at X5 ⊢
    replace X5 := Lib.hid X5
    have PE : Hid (netF x = if validP x.pa x.pl then 0 else 1) := Lib.hid rfl
    have xc0 : w5.cell? ⟨gx, 0, none⟩ = some (.int .u32 (x.pa : Int)) := X5.out.cell 0
    have xc1 : w5.cell? ⟨gx, 1, none⟩ = some (.int .i64 x.pl) := X5.out.cell 1
    go_wp2_with fail
    refine (valid_any x.pa x.pl _ FX.out).mono ?_
    rintro e w6 ⟨rfl, hb⟩
    have H6 := Lib.hid (H5.out.keep hb)
    have X6 := Lib.hid (X5.out.keep hb)
    clear hb H5 X5 xc0 xc1
    cases h1 : validP x.pa x.pl with
    | false =>
      have F1 : Hid (netF x = 1) := Lib.hid (by rw [PE.out, h1]; rfl)
      have E : Hid (pg1 = 1) := Lib.hid ((pair_fail HAT.out (by rw [F1.out]; decide)).trans (F1.out))
      have E := Lib.hid (fin_err HP1.out E.out (show (1 : Int) ≠ 0 by decide))
      go_wp2_with fail
      go_ret
      exact ⟨ret_int E.out.symm, H6.out.b⟩
    | true =>
    have F0 : Hid (netF x = 0) := Lib.hid (by rw [PE.out, h1]; rfl)
    clear PE h1
    have HAN : Hid (pg1 = if (r.net.take k).any (samePf x) then 4 else pairGo netF samePf 4 r.net (r.net.drop (k + 1)) (k + 1)) := Lib.hid (pair_ok HAT.out F0.out)
    clear HAT F0
    have HLn := Lib.hid (HV1.out ▸ HR.out.hnet)
    have PC := Lib.hid (fun w' (h : RQ 39 cs w w') => containsPf_any (r.net.take k) (.slice (some ⟨g, o, none⟩) k c1) x w' B (SlV.take (n := 2) (cells := Pf.C) (by decide) (fun _ => rfl) (HLn.out.below (h.b.mono HBB.out)) (Nat.le_of_lt hlt)) (Nat.le_trans HBB.out h.b.size))
    have SC : Hid (∀ w1 w2, (w1.cell? ⟨w.heap.size, 4, none⟩ = some (.slice (some ⟨g, o, none⟩) r.net.length c1) ∧ w1.cell? ⟨gx, 0, none⟩ = some (.int .u32 (x.pa : Int)) ∧ w1.cell? ⟨gx, 1, none⟩ = some (.int .i64 x.pl) ∧ RQ 39 cs w w1) → Below w1.heap.size w1 w2 → (w2.cell? ⟨w.heap.size, 4, none⟩ = some (.slice (some ⟨g, o, none⟩) r.net.length c1) ∧ w2.cell? ⟨gx, 0, none⟩ = some (.int .u32 (x.pa : Int)) ∧ w2.cell? ⟨gx, 1, none⟩ = some (.int .i64 x.pl) ∧ RQ 39 cs w w2)) := Lib.hid (fun w1 w2 h hb => ⟨(hb.cell (World.block_lt_of_cell? _ _ h.1)).trans h.1, (hb.cell (World.block_lt_of_cell? _ _ h.2.1)).trans h.2.1, (hb.cell (World.block_lt_of_cell? _ _ h.2.2.1)).trans h.2.2.1, h.2.2.2.keep hb⟩)
    have HS0 : Hid (w6.drew.cell? ⟨w.heap.size, 4, none⟩ = some (.slice (some ⟨g, o, none⟩) r.net.length c1) ∧ w6.drew.cell? ⟨gx, 0, none⟩ = some (.int .u32 (x.pa : Int)) ∧ w6.drew.cell? ⟨gx, 1, none⟩ = some (.int .i64 x.pl) ∧ RQ 39 cs w w6.drew) := Lib.hid ⟨HL1.out _ (H6.out.keep (belowDrew _)), (X6.out.keep (belowDrew _)).cell 0, (X6.out.keep (belowDrew _)).cell 1, H6.out.keep (belowDrew _)⟩
    generalize (r.net.take k).any (samePf x) = bc at PC HAN
    have hkc : k ≤ c1 := by omega
    clear H6 X6
    go_wp2_with fail
    refine wp_region_held_drew (S := fun w' => w'.cell? ⟨w.heap.size, 4, none⟩ = some (.slice (some ⟨g, o, none⟩) r.net.length c1) ∧ w'.cell? ⟨gx, 0, none⟩ = some (.int .u32 (x.pa : Int)) ∧ w'.cell? ⟨gx, 1, none⟩ = some (.int .i64 x.pl) ∧ RQ 39 cs w w') (by kernel_rfl) (HS0.out) (fun hHeld => ?_)
    refine wpAnyH_take (i := 0) (oi := { dst := some 28, op := Op.fieldAddr 39 (Operand.tmp 1) 4, type := 0, pos := "protocols.go:128", after := #[], guard := none }) (v := ?_) rfl (by kernel_rfl) (by kernel_rfl) (by kernel_rfl) (fun _ _ _ h => h) (Or.inl ⟨by rfl, ?_⟩) (by assumption) ?_
    rotate_left
    · (intro w hSw; (try dsimp only at hSw); go_simp; try with_reducible rfl)
    try simp only [Act.put, List.setIfInBounds_toArray, List.set_cons_zero, List.set_cons_succ]
    refine wpAnyH_take (i := 1) (oi := { dst := some 29, op := Op.load 35 (Operand.tmp 28), type := 35, pos := "protocols.go:128", after := #[{ on := 0, ground := Ground.data }], guard := none }) (v := ?_) rfl (by kernel_rfl) (by kernel_rfl) (by kernel_rfl) (fun _ _ _ h => h) (Or.inl ⟨by rfl, ?_⟩) (by assumption) ?_
    rotate_left
    · (intro w hSw; (try dsimp only at hSw); go_simp; try with_reducible rfl)
    try simp only [Act.put, List.setIfInBounds_toArray, List.set_cons_zero, List.set_cons_succ]
    refine wpAnyH_take (i := 2) (oi := { dst := some 30, op := Op.move (Operand.tmp 3), type := 3, pos := "protocols.go:128", after := #[], guard := none }) (v := ?_) rfl (by kernel_rfl) (by kernel_rfl) (by kernel_rfl) (fun _ _ _ h => h) (Or.inl ⟨by rfl, ?_⟩) (by assumption) ?_
    rotate_left
    · (intro w hSw; (try dsimp only at hSw); go_simp; try with_reducible rfl)
    try simp only [Act.put, List.setIfInBounds_toArray, List.set_cons_zero, List.set_cons_succ]
    refine wpAnyH_take (i := 3) (oi := { dst := some 31, op := Op.slice 35 (Operand.tmp 29) none (some (Operand.tmp 30)) none, type := 35, pos := "protocols.go:128", after := #[{ on := 1, ground := Ground.data }, { on := 2, ground := Ground.data }], guard := none }) (v := ?_) rfl (by kernel_rfl) (by kernel_rfl) (by kernel_rfl) (fun _ _ _ h => h) (Or.inl ⟨by rfl, ?_⟩) (by assumption) ?_
    rotate_left
    · (intro w hSw; (try dsimp only at hSw); go_simp; try with_reducible rfl)
    try simp only [Act.put, List.setIfInBounds_toArray, List.set_cons_zero, List.set_cons_succ]
    refine wpAnyH_take (i := 4) (oi := { dst := some 32, op := Op.load 71 (Operand.tmp 4), type := 71, pos := "protocols.go:128", after := #[], guard := none }) (v := ?_) rfl (by kernel_rfl) (by kernel_rfl) (by kernel_rfl) (fun _ _ _ h => h) (Or.inl ⟨by rfl, ?_⟩) (by assumption) ?_
    rotate_left
    · (intro w hSw; (try dsimp only at hSw); go_simp; try with_reducible rfl)
    try simp only [Act.put, List.setIfInBounds_toArray, List.set_cons_zero, List.set_cons_succ]
    refine wpAnyH_ready (rs := [5]) (by kernel_rfl) (by simp) ?_
    refine AllReadyH.cons (o := { dst := some 33, op := Op.call { callee := Callee.value (Operand.func 199), args := #[Operand.tmp 31, Operand.tmp 32], argTypes := #[35, 71] }, type := 4, pos := "protocols.go:128", after := #[{ on := 3, ground := Ground.data }, { on := 4, ground := Ground.data }], guard := none }) rfl (fun K hK => ?_) AllReadyH.nil
    go_simp
    with_reducible refine (PC.out _ hHeld.2.2.2).mono ?_
    rintro e wa ⟨rfl, hb⟩
    refine hK.out _ _ (SC.out _ _ hHeld hb) (fun hHeld => ?_)
    clear hK K
    try simp only [Act.put, List.setIfInBounds_toArray, List.set_cons_zero, List.set_cons_succ]
    refine wpAnyH_done (by kernel_rfl) ?_ _
    clear PC SC HS0
    have H7 := Lib.hid hHeld.2.2.2
    clear hHeld
    cases bc with
    | true =>
      have E : Hid (pg1 = 4) := Lib.hid HAN.out
      have E := Lib.hid (fin_err HP1.out E.out (by decide))
      go_wp2_with fail
      go_ret
      exact ⟨ret_int E.out.symm, H7.out.b⟩
    | false =>
      have E : Hid (pairGo netF samePf 4 r.net (r.net.drop (k + 1)) (k + 1) = pg1) := Lib.hid HAN.out.symm
      go_wp2_with fail
      go_roundg (r.net.length - (k + 1))
      case measure => omega
      case rel => exact ⟨k + 1, by omega, by go_num, H7, E⟩
end Go.Proofs.YtmddfkpkddemnaaGreatDoor
namespace Go.Proofs.YtmddfkpkddemnaaGreatDoor
open Go.RowKit
theorem Tryz.rowPV : (Tryz.prog.underlying 39).map TypeDesc.isRow = some true := by kernel_rfl
theorem Tryz.sizePV : (Tryz.prog.info? 39).map (·.size) = some 8 := by kernel_rfl
def pvE (r : Rt) : Int := if r.pvOn then (if !(r.asn == 0) && withinB r.ext 1 255 && withinB r.int 1 255 then (if nbsE r.maps r.nb = 0 then (if origE r = 0 then redE r.maps 5 0 16777215 0 r.pvRed else origE r) else nbsE r.maps r.nb) else 1) else if !(r.ext == 0) || (!(r.int == 0) || (decide ((0 : Int) < r.nb.length) || (decide ((0 : Int) < r.net.length) || (decide ((0 : Int) < r.ag.length) || (decide ((0 : Int) < r.cd.length) || decide ((0 : Int) < r.pvRed.length)))))) then 1 else 0
set_option maxRecDepth 100000 in
set_option maxHeartbeats 8000000 in
theorem checkPathVector_any (r : Rt) (w : World) (B : Nat) (h : r.at w B) (hB : B ≤ w.heap.size) (hf1 : ∀ x ∈ r.net, x.fit) (hf2 : ∀ x ∈ r.ag, x.fit) (hf3 : ∀ x ∈ r.cd, x.fit) : Calls Tryz.prog 99 #[.agg r.C] w fun e w' => e = .returned (.int .i64 (pvE r)) ∧ Below w.heap.size w w' := by
  have H0 := RB.start r w
  have HR := Lib.hid h
  have HBB := Lib.hid hB
  obtain ⟨A1, c1, hv1, hle1, -⟩ := h.hnb
  obtain ⟨A2, c2, hv2, hle2, -⟩ := h.hnet
  obtain ⟨A3, c3, hv3, hle3, -⟩ := h.hag
  obtain ⟨A4, c4, hv4, hle4, -⟩ := h.hcd
  obtain ⟨A5, c5, hv5, hle5, -⟩ := h.hpvRed
  have HLR := h.hpvRed
  rw [hv5] at HLR
  replace HLR := Lib.hid HLR
  have PN := Lib.hid (fun w' (h' : HasC 41 w.heap.size r.C w') (hb : Below w.heap.size w w') => checkNeighbors_any r w' B (h.below (hb.mono hB)) (Nat.le_trans hB hb.size))
  have PO := Lib.hid (fun w' (hb : Below w.heap.size w w') => checkOrigins_any r w' B (h.below (hb.mono hB)) (Nat.le_trans hB hb.size) hf1 hf2 hf3)
  unfold Rt.pvC at PO
  rw [hv1, hv2, hv3, hv4, hv5] at PO
  clear h hB hf1 hf2 hf3
  have HO : (#[.bool r.pvOn, .int .i64 r.ext, .int .i64 r.int, .slice A1 r.nb.length c1, .slice A2 r.net.length c2, .slice A3 r.ag.length c3, .slice A4 r.cd.length c4, .slice A5 r.pvRed.length c5] : Array Value).all (·.oneCell') = true := by
    rw [Array.all_eq_true_iff_forall_mem]
    intro v hv
    simp only [List.mem_toArray, List.mem_cons, List.not_mem_nil, or_false] at hv
    rcases hv with rfl | rfl | rfl | rfl | rfl | rfl | rfl | rfl <;> rfl
  have HS : (w.alloc (.cells r.C 41)).rangeAt w.heap.size 17 (#[.bool r.pvOn, .int .i64 r.ext, .int .i64 r.int, .slice A1 r.nb.length c1, .slice A2 r.net.length c2, .slice A3 r.ag.length c3, .slice A4 r.cd.length c4, .slice A5 r.pvRed.length c5] : Array Value).toList := H0.h.sub 17 #[.bool r.pvOn, .int .i64 r.ext, .int .i64 r.int, .slice A1 r.nb.length c1, .slice A2 r.net.length c2, .slice A3 r.ag.length c3, .slice A4 r.cd.length c4, .slice A5 r.pvRed.length c5] (fun j hj => by
    have hj' : j < 8 := hj
    rcases (show j = 0 ∨ j = 1 ∨ j = 2 ∨ j = 3 ∨ j = 4 ∨ j = 5 ∨ j = 6 ∨ j = 7 by omega) with rfl | rfl | rfl | rfl | rfl | rfl | rfl | rfl <;> first | rfl | (show some _ = some _; simp only [Option.some.injEq]; assumption))
  clear hv1 hv2 hv3 hv4 hv5
  have E : Hid (pvE r = if r.pvOn then (if !(r.asn == 0) && withinB r.ext 1 255 && withinB r.int 1 255 then (if nbsE r.maps r.nb = 0 then (if origE r = 0 then redE r.maps 5 0 16777215 0 r.pvRed else origE r) else nbsE r.maps r.nb) else 1) else if !(r.ext == 0) || (!(r.int == 0) || (decide ((0 : Int) < r.nb.length) || (decide ((0 : Int) < r.net.length) || (decide ((0 : Int) < r.ag.length) || (decide ((0 : Int) < r.cd.length) || decide ((0 : Int) < r.pvRed.length)))))) then 1 else 0) := Lib.hid rfl
  generalize pvE r = res at E ⊢
  have H0h := Lib.hid H0
  have HSh := Lib.hid HS
  clear H0 HS HO
  go_enter Tryz.func99, Tryz.ntmps99
  go_upto_region 2 with (refine wpList_loadRow rfl 39 _ rfl rfl HSh.out Tryz.rowPV Tryz.sizePV ?_)
  have H5 : Hid (RBL r w 39 (w.alloc (.cells r.C 41)).heap.size #[.bool r.pvOn, .int .i64 r.ext, .int .i64 r.int, .slice A1 r.nb.length c1, .slice A2 r.net.length c2, .slice A3 r.ag.length c3, .slice A4 r.cd.length c4, .slice A5 r.pvRed.length c5] ((w.alloc (.cells r.C 41)).alloc (.cells #[.bool r.pvOn, .int .i64 r.ext, .int .i64 r.int, .slice A1 r.nb.length c1, .slice A2 r.net.length c2, .slice A3 r.ag.length c3, .slice A4 r.cd.length c4, .slice A5 r.pvRed.length c5] 39))) := Lib.hid ⟨(H0h.out.keep ((Below.refl _ _).alloc (Nat.le_refl _) _)).h, (H0h.out.keep ((Below.refl _ _).alloc (Nat.le_refl _) _)).b, HasC.new _ _ _⟩
  clear H0h HSh
  generalize hw5 : (w.alloc (.cells r.C 41)).alloc (.cells #[.bool r.pvOn, .int .i64 r.ext, .int .i64 r.int, .slice A1 r.nb.length c1, .slice A2 r.net.length c2, .slice A3 r.ag.length c3, .slice A4 r.cd.length c4, .slice A5 r.pvRed.length c5] 39) = w5 at H5 ⊢
  clear hw5
  rw [show (w.alloc (.cells r.C 41)).heap.size = w.heap.size + 1 from by simp] at H5
  generalize w.heap.size + 1 = gl at H5 ⊢
  have lc0 : w5.cell? ⟨gl, 0, none⟩ = some (.bool r.pvOn) := H5.out.l.cell 0
  have lc1 : w5.cell? ⟨gl, 1, none⟩ = some (.int .i64 r.ext) := H5.out.l.cell 1
  have lc2 : w5.cell? ⟨gl, 2, none⟩ = some (.int .i64 r.int) := H5.out.l.cell 2
  have lc3 : w5.cell? ⟨gl, 3, none⟩ = some (.slice A1 r.nb.length c1) := H5.out.l.cell 3
  have lc4 : w5.cell? ⟨gl, 4, none⟩ = some (.slice A2 r.net.length c2) := H5.out.l.cell 4
  have lc5 : w5.cell? ⟨gl, 5, none⟩ = some (.slice A3 r.ag.length c3) := H5.out.l.cell 5
  have lc6 : w5.cell? ⟨gl, 6, none⟩ = some (.slice A4 r.cd.length c4) := H5.out.l.cell 6
  have lc7 : w5.cell? ⟨gl, 7, none⟩ = some (.slice A5 r.pvRed.length c5) := H5.out.l.cell 7
  cases hon : r.pvOn with
  | false =>
    rw [hon] at lc0
    have EF : Hid (res = if !(r.ext == 0) || (!(r.int == 0) || (decide ((0 : Int) < r.nb.length) || (decide ((0 : Int) < r.net.length) || (decide ((0 : Int) < r.ag.length) || (decide ((0 : Int) < r.cd.length) || decide ((0 : Int) < r.pvRed.length)))))) then 1 else 0) := Lib.hid (by rw [E.out, hon]; rfl)
    clear hon E PN PO HLR HR
    by_cases ha : r.ext = 0
    case neg =>
      have d1 : (r.ext == 0) = false := by simpa using ha
      have d2 : (r.ext != 0) = true := by simpa using ha
      clear ha
      go_wp2_with fail
      go_ret
      exact ⟨ret_int (by rw [EF.out, d1]; rfl), H5.out.b⟩
    rw [ha] at lc1
    replace EF : Hid (res = if !(r.int == 0) || (decide ((0 : Int) < r.nb.length) || (decide ((0 : Int) < r.net.length) || (decide ((0 : Int) < r.ag.length) || (decide ((0 : Int) < r.cd.length) || decide ((0 : Int) < r.pvRed.length))))) then 1 else 0) := Lib.hid (by rw [EF.out, ha]; rfl)
    clear ha
    by_cases ha : r.int = 0
    case neg =>
      have d1 : (r.int == 0) = false := by simpa using ha
      have d2 : (r.int != 0) = true := by simpa using ha
      clear ha
      go_wp2_with fail
      go_ret
      exact ⟨ret_int (by rw [EF.out, d1]; rfl), H5.out.b⟩
    rw [ha] at lc2
    have EF0 : Hid (res = if decide ((0 : Int) < r.nb.length) || (decide ((0 : Int) < r.net.length) || (decide ((0 : Int) < r.ag.length) || (decide ((0 : Int) < r.cd.length) || decide ((0 : Int) < r.pvRed.length)))) then 1 else 0) := Lib.hid (by rw [EF.out, ha]; rfl)
    clear ha EF
    generalize r.nb.length = n1 at *
    generalize r.net.length = n2 at *
    generalize r.ag.length = n3 at *
    generalize r.cd.length = n4 at *
    generalize r.pvRed.length = n5 at *
    by_cases z1 : n1 = 0
    case neg =>
      have z1' : 0 < n1 := by omega
      go_wp2_with fail
      all_goals (go_ret; exact ⟨ret_int (by rw [EF0.out, decide_eq_true (show (0 : Int) < n1 by omega)]; rfl), H5.out.b⟩)
    subst z1
    have EF1 : Hid (res = if decide ((0 : Int) < n2) || (decide ((0 : Int) < n3) || (decide ((0 : Int) < n4) || (decide ((0 : Int) < n5)))) then 1 else 0) := Lib.hid (by rw [EF0.out]; rfl)
    clear EF0
    by_cases z2 : n2 = 0
    case neg =>
      have z2' : 0 < n2 := by omega
      go_wp2_with fail
      all_goals (go_ret; exact ⟨ret_int (by rw [EF1.out, decide_eq_true (show (0 : Int) < n2 by omega)]; rfl), H5.out.b⟩)
    subst z2
    have EF2 : Hid (res = if decide ((0 : Int) < n3) || (decide ((0 : Int) < n4) || (decide ((0 : Int) < n5))) then 1 else 0) := Lib.hid (by rw [EF1.out]; rfl)
    clear EF1
    by_cases z3 : n3 = 0
    case neg =>
      have z3' : 0 < n3 := by omega
      go_wp2_with fail
      all_goals (go_ret; exact ⟨ret_int (by rw [EF2.out, decide_eq_true (show (0 : Int) < n3 by omega)]; rfl), H5.out.b⟩)
    subst z3
    have EF3 : Hid (res = if decide ((0 : Int) < n4) || (decide ((0 : Int) < n5)) then 1 else 0) := Lib.hid (by rw [EF2.out]; rfl)
    clear EF2
    by_cases z4 : n4 = 0
    case neg =>
      have z4' : 0 < n4 := by omega
      go_wp2_with fail
      all_goals (go_ret; exact ⟨ret_int (by rw [EF3.out, decide_eq_true (show (0 : Int) < n4 by omega)]; rfl), H5.out.b⟩)
    subst z4
    have EF4 : Hid (res = if decide ((0 : Int) < n5) then 1 else 0) := Lib.hid (by rw [EF3.out]; rfl)
    clear EF3
    by_cases z5 : n5 = 0
    case neg =>
      have z5' : 0 < n5 := by omega
      go_wp2_with fail
      all_goals (go_ret; exact ⟨ret_int (by rw [EF4.out, decide_eq_true (show (0 : Int) < n5 by omega)]; rfl), H5.out.b⟩)
    subst z5
    go_wp2_with fail
    go_ret
    exact ⟨ret_int (by rw [EF4.out]; rfl), H5.out.b⟩
  | true =>
  rw [hon] at lc0
  have ET : Hid (res = if !(r.asn == 0) && withinB r.ext 1 255 && withinB r.int 1 255 then (if nbsE r.maps r.nb = 0 then (if origE r = 0 then redE r.maps 5 0 16777215 0 r.pvRed else origE r) else nbsE r.maps r.nb) else 1) := Lib.hid (by rw [E.out, hon]; rfl)
  clear hon E
  have a1 : w5.cell? ⟨w.heap.size, 1, none⟩ = some (.int .i64 r.asn) := H5.out.h.cell 1
  by_cases ha : r.asn = 0
  · have d1 : (r.asn == 0) = true := by simpa using ha
    clear ha
    go_wp2_with fail
    go_ret
    exact ⟨ret_int (by rw [ET.out, d1]; rfl), H5.out.b⟩
  have d1 : (r.asn == 0) = false := by simpa using ha
  clear ha
  cases hw1 : withinB r.ext 1 255 with
  | false =>
    go_wp2_with (go_at_call 89; refine (within_any _ _ _ _).mono ?_; rintro e w' ⟨rfl, rfl⟩)
    go_ret
    exact ⟨ret_int (by rw [ET.out, d1, hw1]; rfl), H5.out.b⟩
  | true =>
  cases hw2 : withinB r.int 1 255 with
  | false =>
    go_wp2_with (go_at_call 89; refine (within_any _ _ _ _).mono ?_; rintro e w' ⟨rfl, rfl⟩)
    go_ret
    exact ⟨ret_int (by rw [ET.out, d1, hw1, hw2]; rfl), H5.out.b⟩
  | true =>
  have EN : Hid (res = if nbsE r.maps r.nb = 0 then (if origE r = 0 then redE r.maps 5 0 16777215 0 r.pvRed else origE r) else nbsE r.maps r.nb) := Lib.hid (by rw [ET.out, d1, hw1, hw2]; rfl)
  clear ET
  go_wp2_with (first | (go_at_call 89; refine (within_any _ _ _ _).mono ?_; rintro e w' ⟨rfl, rfl⟩) | (refine wpList_loadRow rfl 41 _ rfl rfl H5.out.h.range Tryz.rowRt Tryz.sizeRt ?_))
  clear a1 d1 hw1 hw2 lc0 lc1 lc2 lc3 lc4 lc5 lc6 lc7
  with_reducible refine (PN.out _ H5.out.h H5.out.b).mono ?_
  rintro e w6 ⟨rfl, hb⟩
  have H6 := Lib.hid (H5.out.keep hb)
  clear hb H5
  by_cases he : nbsE r.maps r.nb = 0
  case neg =>
    have E1 : Hid (res = nbsE r.maps r.nb) := Lib.hid (by rw [EN.out, if_neg he])
    generalize nbsE r.maps r.nb = e1 at *
    have dn : (e1 != 0) = true := by simpa using he
    clear he
    go_wp2_with fail
    go_ret
    exact ⟨ret_int E1.out.symm, H6.out.b⟩
  have EO : Hid (res = if origE r = 0 then redE r.maps 5 0 16777215 0 r.pvRed else origE r) := Lib.hid (by rw [EN.out, if_pos he])
  clear EN
  rw [he]
  clear he
  go_wp2_with (first | (refine wpList_loadRow rfl 39 _ rfl rfl H6.out.l.range Tryz.rowPV Tryz.sizePV ?_))
  with_reducible refine (PO.out _ H6.out.b).mono ?_
  rintro e w7 ⟨rfl, hb⟩
  have H7 := Lib.hid (H6.out.keep hb)
  clear hb H6
  by_cases he : origE r = 0
  case neg =>
    have E1 : Hid (res = origE r) := Lib.hid (by rw [EO.out, if_neg he])
    generalize origE r = e1 at *
    have dn : (e1 != 0) = true := by simpa using he
    clear he
    go_wp2_with fail
    go_ret
    exact ⟨ret_int E1.out.symm, H7.out.b⟩
  have E2 : Hid (res = redE r.maps 5 0 16777215 0 r.pvRed) := Lib.hid (by rw [EO.out, if_pos he])
  clear EO
  rw [he]
  clear he
  have l7 : w7.cell? ⟨gl, 7, none⟩ = some (.slice A5 r.pvRed.length c5) := H7.out.l.cell 7
  go_wp2_with (first | fail | (refine wpList_loadRow rfl 41 _ rfl rfl H7.out.h.range Tryz.rowRt Tryz.sizeRt ?_))
  with_reducible refine (checkRedist_any r r.pvRed (.slice A5 r.pvRed.length c5) 5 0 16777215 0 _ B (HR.out.below (H7.out.b.mono HBB.out)) (HLR.out.below (H7.out.b.mono HBB.out)) (Nat.le_trans HBB.out H7.out.b.size)).mono ?_
  rintro e wz ⟨rfl, hb⟩
  have HZ := Lib.hid (H7.out.keep hb)
  clear hb
  go_wp2_with fail
  go_ret
  exact ⟨ret_int E2.out.symm, HZ.out.b⟩
end Go.Proofs.YtmddfkpkddemnaaGreatDoor
namespace Go.Proofs.YtmddfkpkddemnaaGreatDoor
open Go.RowKit
def secsE (r : Rt) : List Int := [ifsE r.ifs, plsE r.lists, mapsE r.lists r.maps, aclsE r.acls, natsE r.acls r.nat, firstE (filtE r.acls) r.ifs, statsE r.ifs r.stat, lnkE r, dvE r, pvE r]
/-- The error of a router. -/
def routerE (r : Rt) : Int := if !nameB r.name then 3 else if !withinB r.asn 0 65535 then 1 else firstE (fun e => e) (secsE r)
set_option maxRecDepth 100000 in
set_option maxHeartbeats 8000000 in
theorem checkRouter_any (r : Rt) (w : World) (B : Nat) (h : r.at w B) (hB : B ≤ w.heap.size) (hf : r.fit) : Calls Tryz.prog 39 #[.agg r.C] w fun e w' => e = .returned (.int .i64 (routerE r)) ∧ Below w.heap.size w w' := by
  have H0 := Lib.hid (RB.start r w)
  have HR := Lib.hid h
  unfold Rt.fit at hf
  have HFT := Lib.hid hf
  have HBB := Lib.hid hB
  clear h hf hB
  have E : Hid (routerE r = if !nameB r.name then 3 else if !withinB r.asn 0 65535 then 1 else firstE (fun e => e) (secsE r)) := Lib.hid rfl
  generalize routerE r = res at E ⊢
  have c0 : (w.alloc (.cells r.C 41)).cell? ⟨w.heap.size, 0, none⟩ = some (.string (str r.name)) := H0.out.h.cell 0
  have c1 : (w.alloc (.cells r.C 41)).cell? ⟨w.heap.size, 1, none⟩ = some (.int .i64 r.asn) := H0.out.h.cell 1
  go_enter Tryz.func39, Tryz.ntmps39
  go_wp2_with fail
  generalize hwz : w.alloc (.cells r.C 41) = wz at *
  clear hwz
  refine (nameL r.name _).mono ?_
  rintro e w' ⟨rfl, rfl⟩
  cases hn : nameB r.name with
  | false =>
    go_wp2_with fail
    go_ret
    exact ⟨ret_int (by rw [E.out, hn]; rfl), H0.out.b⟩
  | true =>
  cases hw : withinB r.asn 0 65535 with
  | false =>
    go_wp2_with (go_at_call 89; refine (within_any _ _ _ _).mono ?_; rintro e w' ⟨rfl, rfl⟩)
    go_ret
    exact ⟨ret_int (by rw [E.out, hn, hw]; rfl), H0.out.b⟩
  | true =>
  have ES : Hid (firstE (fun e => e) (secsE r) = res) := Lib.hid (by rw [E.out, hn, hw]; rfl)
  clear E hn
  go_wp2_with (go_at_call 89; refine (within_any _ _ _ _).mono ?_; rintro e w' ⟨rfl, rfl⟩)
  have HC0 : Hid (HasC 48 wz.heap.size #[.func (.func 90) #[] #[], .func (.func 91) #[] #[], .func (.func 92) #[] #[], .func (.func 93) #[] #[], .func (.func 94) #[] #[], .func (.func 95) #[] #[], .func (.func 96) #[] #[], .func (.func 97) #[] #[], .func (.func 98) #[] #[], .func (.func 99) #[] #[]] (wz.alloc (.cells #[.func (.func 90) #[] #[], .func (.func 91) #[] #[], .func (.func 92) #[] #[], .func (.func 93) #[] #[], .func (.func 94) #[] #[], .func (.func 95) #[] #[], .func (.func 96) #[] #[], .func (.func 97) #[] #[], .func (.func 98) #[] #[], .func (.func 99) #[] #[]] 48))) := Lib.hid (HasC.new _ _ _)
  have H1 := Lib.hid (H0.out.keep ((Below.refl _ _).alloc (Nat.le_refl _) (.cells #[.func (.func 90) #[] #[], .func (.func 91) #[] #[], .func (.func 92) #[] #[], .func (.func 93) #[] #[], .func (.func 94) #[] #[], .func (.func 95) #[] #[], .func (.func 96) #[] #[], .func (.func 97) #[] #[], .func (.func 98) #[] #[], .func (.func 99) #[] #[]] 48)))
  clear c0 c1 hw H0
  generalize hwy : wz.alloc (.cells #[.func (.func 90) #[] #[], .func (.func 91) #[] #[], .func (.func 92) #[] #[], .func (.func 93) #[] #[], .func (.func 94) #[] #[], .func (.func 95) #[] #[], .func (.func 96) #[] #[], .func (.func 97) #[] #[], .func (.func 98) #[] #[], .func (.func 99) #[] #[]] 48) = wy at HC0 H1 ⊢
  clear hwy
  generalize wz.heap.size = gs at HC0 ⊢
  go_loopg [18] 10 (fun gh ix wr => ∃ k : Nat, k + gh = 10 ∧ ix = .int .i64 k ∧ Hid (RB r w wr) ∧ Hid (HasC 48 gs #[.func (.func 90) #[] #[], .func (.func 91) #[] #[], .func (.func 92) #[] #[], .func (.func 93) #[] #[], .func (.func 94) #[] #[], .func (.func 95) #[] #[], .func (.func 96) #[] #[], .func (.func 97) #[] #[], .func (.func 98) #[] #[], .func (.func 99) #[] #[]] wr) ∧ Hid (firstE (fun e => e) ((secsE r).drop k) = res))
  case atStart => exact ⟨0, by omega, rfl, H1, HC0, ES⟩
  case round =>
    obtain ⟨k, hk, rfl, HW, HC, HG⟩ := hrel
    clear HC0 H1 ES
    by_cases hlt : k < 10
    case neg =>
      obtain rfl : k = 10 := by omega
      have E : Hid (res = 0) := Lib.hid HG.out.symm
      go_wp2_with fail
      go_ret
      exact ⟨ret_int E.out.symm, HW.out.b⟩
    rcases (show k = 0 ∨ k = 1 ∨ k = 2 ∨ k = 3 ∨ k = 4 ∨ k = 5 ∨ k = 6 ∨ k = 7 ∨ k = 8 ∨ k = 9 by omega) with rfl | rfl | rfl | rfl | rfl | rfl | rfl | rfl | rfl | rfl
    · have ck : wr.cell? ⟨gs, 0, none⟩ = some (.func (.func 90) #[] #[]) := HC.out.cell 0
      go_wp2_with (first | (refine wpList_loadRow rfl 41 _ rfl rfl HW.out.h.range Tryz.rowRt Tryz.sizeRt ?_))
      with_reducible refine (checkInterfaces_any r wr B (HR.out.below (HW.out.b.mono HBB.out)) (Nat.le_trans HBB.out HW.out.b.size) HFT.out.1).mono ?_
      rintro e w6 ⟨rfl, hb⟩
      have H6 := Lib.hid (HW.out.keep hb)
      have HC6 := Lib.hid (HC.out.keep hb)
      clear hb HW HC ck
      obtain ⟨x, hx⟩ : ∃ x, ifsE r.ifs = x := ⟨_, rfl⟩
      have HG2 : Hid (res = if x = 0 then firstE (fun e => e) ((secsE r).drop 1) else x) := Lib.hid (by rw [← HG.out, ← hx]; rfl)
      rw [hx]
      clear hx HG
      by_cases he : x = 0
      case neg =>
        have E : Hid (res = x) := Lib.hid (by rw [HG2.out, if_neg he])
        have dn : (x != 0) = true := by simpa using he
        clear he
        go_wp2_with fail
        go_ret
        exact ⟨ret_int E.out.symm, H6.out.b⟩
      have E : Hid (firstE (fun e => e) ((secsE r).drop 1) = res) := Lib.hid (by rw [HG2.out, if_pos he])
      subst he
      go_wp2_with fail
      go_roundg 9
      case measure => omega
      case rel => exact ⟨1, by omega, by go_num, H6, HC6, E⟩
    · have ck : wr.cell? ⟨gs, 1, none⟩ = some (.func (.func 91) #[] #[]) := HC.out.cell 1
      go_wp2_with (first | (refine wpList_loadRow rfl 41 _ rfl rfl HW.out.h.range Tryz.rowRt Tryz.sizeRt ?_))
      with_reducible refine (checkPrefixLists_any r wr B (HR.out.below (HW.out.b.mono HBB.out)) (Nat.le_trans HBB.out HW.out.b.size) HFT.out.2.1).mono ?_
      rintro e w6 ⟨rfl, hb⟩
      have H6 := Lib.hid (HW.out.keep hb)
      have HC6 := Lib.hid (HC.out.keep hb)
      clear hb HW HC ck
      obtain ⟨x, hx⟩ : ∃ x, plsE r.lists = x := ⟨_, rfl⟩
      have HG2 : Hid (res = if x = 0 then firstE (fun e => e) ((secsE r).drop 2) else x) := Lib.hid (by rw [← HG.out, ← hx]; rfl)
      rw [hx]
      clear hx HG
      by_cases he : x = 0
      case neg =>
        have E : Hid (res = x) := Lib.hid (by rw [HG2.out, if_neg he])
        have dn : (x != 0) = true := by simpa using he
        clear he
        go_wp2_with fail
        go_ret
        exact ⟨ret_int E.out.symm, H6.out.b⟩
      have E : Hid (firstE (fun e => e) ((secsE r).drop 2) = res) := Lib.hid (by rw [HG2.out, if_pos he])
      subst he
      go_wp2_with fail
      go_roundg 8
      case measure => omega
      case rel => exact ⟨2, by omega, by go_num, H6, HC6, E⟩
    · have ck : wr.cell? ⟨gs, 2, none⟩ = some (.func (.func 92) #[] #[]) := HC.out.cell 2
      go_wp2_with (first | (refine wpList_loadRow rfl 41 _ rfl rfl HW.out.h.range Tryz.rowRt Tryz.sizeRt ?_))
      with_reducible refine (checkRouteMaps_any r wr B (HR.out.below (HW.out.b.mono HBB.out)) (Nat.le_trans HBB.out HW.out.b.size) ).mono ?_
      rintro e w6 ⟨rfl, hb⟩
      have H6 := Lib.hid (HW.out.keep hb)
      have HC6 := Lib.hid (HC.out.keep hb)
      clear hb HW HC ck
      obtain ⟨x, hx⟩ : ∃ x, mapsE r.lists r.maps = x := ⟨_, rfl⟩
      have HG2 : Hid (res = if x = 0 then firstE (fun e => e) ((secsE r).drop 3) else x) := Lib.hid (by rw [← HG.out, ← hx]; rfl)
      rw [hx]
      clear hx HG
      by_cases he : x = 0
      case neg =>
        have E : Hid (res = x) := Lib.hid (by rw [HG2.out, if_neg he])
        have dn : (x != 0) = true := by simpa using he
        clear he
        go_wp2_with fail
        go_ret
        exact ⟨ret_int E.out.symm, H6.out.b⟩
      have E : Hid (firstE (fun e => e) ((secsE r).drop 3) = res) := Lib.hid (by rw [HG2.out, if_pos he])
      subst he
      go_wp2_with fail
      go_roundg 7
      case measure => omega
      case rel => exact ⟨3, by omega, by go_num, H6, HC6, E⟩
    · have ck : wr.cell? ⟨gs, 3, none⟩ = some (.func (.func 93) #[] #[]) := HC.out.cell 3
      go_wp2_with (first | (refine wpList_loadRow rfl 41 _ rfl rfl HW.out.h.range Tryz.rowRt Tryz.sizeRt ?_))
      with_reducible refine (checkACLs_any r wr B (HR.out.below (HW.out.b.mono HBB.out)) (Nat.le_trans HBB.out HW.out.b.size) HFT.out.2.2.2.1).mono ?_
      rintro e w6 ⟨rfl, hb⟩
      have H6 := Lib.hid (HW.out.keep hb)
      have HC6 := Lib.hid (HC.out.keep hb)
      clear hb HW HC ck
      obtain ⟨x, hx⟩ : ∃ x, aclsE r.acls = x := ⟨_, rfl⟩
      have HG2 : Hid (res = if x = 0 then firstE (fun e => e) ((secsE r).drop 4) else x) := Lib.hid (by rw [← HG.out, ← hx]; rfl)
      rw [hx]
      clear hx HG
      by_cases he : x = 0
      case neg =>
        have E : Hid (res = x) := Lib.hid (by rw [HG2.out, if_neg he])
        have dn : (x != 0) = true := by simpa using he
        clear he
        go_wp2_with fail
        go_ret
        exact ⟨ret_int E.out.symm, H6.out.b⟩
      have E : Hid (firstE (fun e => e) ((secsE r).drop 4) = res) := Lib.hid (by rw [HG2.out, if_pos he])
      subst he
      go_wp2_with fail
      go_roundg 6
      case measure => omega
      case rel => exact ⟨4, by omega, by go_num, H6, HC6, E⟩
    · have ck : wr.cell? ⟨gs, 4, none⟩ = some (.func (.func 94) #[] #[]) := HC.out.cell 4
      go_wp2_with (first | (refine wpList_loadRow rfl 41 _ rfl rfl HW.out.h.range Tryz.rowRt Tryz.sizeRt ?_))
      with_reducible refine (checkNAT_any r wr B (HR.out.below (HW.out.b.mono HBB.out)) (Nat.le_trans HBB.out HW.out.b.size) HFT.out.2.2.2.2.1).mono ?_
      rintro e w6 ⟨rfl, hb⟩
      have H6 := Lib.hid (HW.out.keep hb)
      have HC6 := Lib.hid (HC.out.keep hb)
      clear hb HW HC ck
      obtain ⟨x, hx⟩ : ∃ x, natsE r.acls r.nat = x := ⟨_, rfl⟩
      have HG2 : Hid (res = if x = 0 then firstE (fun e => e) ((secsE r).drop 5) else x) := Lib.hid (by rw [← HG.out, ← hx]; rfl)
      rw [hx]
      clear hx HG
      by_cases he : x = 0
      case neg =>
        have E : Hid (res = x) := Lib.hid (by rw [HG2.out, if_neg he])
        have dn : (x != 0) = true := by simpa using he
        clear he
        go_wp2_with fail
        go_ret
        exact ⟨ret_int E.out.symm, H6.out.b⟩
      have E : Hid (firstE (fun e => e) ((secsE r).drop 5) = res) := Lib.hid (by rw [HG2.out, if_pos he])
      subst he
      go_wp2_with fail
      go_roundg 5
      case measure => omega
      case rel => exact ⟨5, by omega, by go_num, H6, HC6, E⟩
    · have ck : wr.cell? ⟨gs, 5, none⟩ = some (.func (.func 95) #[] #[]) := HC.out.cell 5
      go_wp2_with (first | (refine wpList_loadRow rfl 41 _ rfl rfl HW.out.h.range Tryz.rowRt Tryz.sizeRt ?_))
      with_reducible refine (checkFilters_any r wr B (HR.out.below (HW.out.b.mono HBB.out)) (Nat.le_trans HBB.out HW.out.b.size) ).mono ?_
      rintro e w6 ⟨rfl, hb⟩
      have H6 := Lib.hid (HW.out.keep hb)
      have HC6 := Lib.hid (HC.out.keep hb)
      clear hb HW HC ck
      obtain ⟨x, hx⟩ : ∃ x, firstE (filtE r.acls) r.ifs = x := ⟨_, rfl⟩
      have HG2 : Hid (res = if x = 0 then firstE (fun e => e) ((secsE r).drop 6) else x) := Lib.hid (by rw [← HG.out, ← hx]; rfl)
      rw [hx]
      clear hx HG
      by_cases he : x = 0
      case neg =>
        have E : Hid (res = x) := Lib.hid (by rw [HG2.out, if_neg he])
        have dn : (x != 0) = true := by simpa using he
        clear he
        go_wp2_with fail
        go_ret
        exact ⟨ret_int E.out.symm, H6.out.b⟩
      have E : Hid (firstE (fun e => e) ((secsE r).drop 6) = res) := Lib.hid (by rw [HG2.out, if_pos he])
      subst he
      go_wp2_with fail
      go_roundg 4
      case measure => omega
      case rel => exact ⟨6, by omega, by go_num, H6, HC6, E⟩
    · have ck : wr.cell? ⟨gs, 6, none⟩ = some (.func (.func 96) #[] #[]) := HC.out.cell 6
      go_wp2_with (first | (refine wpList_loadRow rfl 41 _ rfl rfl HW.out.h.range Tryz.rowRt Tryz.sizeRt ?_))
      with_reducible refine (checkStatics_any r wr B (HR.out.below (HW.out.b.mono HBB.out)) (Nat.le_trans HBB.out HW.out.b.size) HFT.out.2.2.2.2.2.1).mono ?_
      rintro e w6 ⟨rfl, hb⟩
      have H6 := Lib.hid (HW.out.keep hb)
      have HC6 := Lib.hid (HC.out.keep hb)
      clear hb HW HC ck
      obtain ⟨x, hx⟩ : ∃ x, statsE r.ifs r.stat = x := ⟨_, rfl⟩
      have HG2 : Hid (res = if x = 0 then firstE (fun e => e) ((secsE r).drop 7) else x) := Lib.hid (by rw [← HG.out, ← hx]; rfl)
      rw [hx]
      clear hx HG
      by_cases he : x = 0
      case neg =>
        have E : Hid (res = x) := Lib.hid (by rw [HG2.out, if_neg he])
        have dn : (x != 0) = true := by simpa using he
        clear he
        go_wp2_with fail
        go_ret
        exact ⟨ret_int E.out.symm, H6.out.b⟩
      have E : Hid (firstE (fun e => e) ((secsE r).drop 7) = res) := Lib.hid (by rw [HG2.out, if_pos he])
      subst he
      go_wp2_with fail
      go_roundg 3
      case measure => omega
      case rel => exact ⟨7, by omega, by go_num, H6, HC6, E⟩
    · have ck : wr.cell? ⟨gs, 7, none⟩ = some (.func (.func 97) #[] #[]) := HC.out.cell 7
      go_wp2_with (first | (refine wpList_loadRow rfl 41 _ rfl rfl HW.out.h.range Tryz.rowRt Tryz.sizeRt ?_))
      with_reducible refine (checkLinkState_any r wr B (HR.out.below (HW.out.b.mono HBB.out)) (Nat.le_trans HBB.out HW.out.b.size) HFT.out.2.2.2.2.2.2.1).mono ?_
      rintro e w6 ⟨rfl, hb⟩
      have H6 := Lib.hid (HW.out.keep hb)
      have HC6 := Lib.hid (HC.out.keep hb)
      clear hb HW HC ck
      obtain ⟨x, hx⟩ : ∃ x, lnkE r = x := ⟨_, rfl⟩
      have HG2 : Hid (res = if x = 0 then firstE (fun e => e) ((secsE r).drop 8) else x) := Lib.hid (by rw [← HG.out, ← hx]; rfl)
      rw [hx]
      clear hx HG
      by_cases he : x = 0
      case neg =>
        have E : Hid (res = x) := Lib.hid (by rw [HG2.out, if_neg he])
        have dn : (x != 0) = true := by simpa using he
        clear he
        go_wp2_with fail
        go_ret
        exact ⟨ret_int E.out.symm, H6.out.b⟩
      have E : Hid (firstE (fun e => e) ((secsE r).drop 8) = res) := Lib.hid (by rw [HG2.out, if_pos he])
      subst he
      go_wp2_with fail
      go_roundg 2
      case measure => omega
      case rel => exact ⟨8, by omega, by go_num, H6, HC6, E⟩
    · have ck : wr.cell? ⟨gs, 8, none⟩ = some (.func (.func 98) #[] #[]) := HC.out.cell 8
      go_wp2_with (first | (refine wpList_loadRow rfl 41 _ rfl rfl HW.out.h.range Tryz.rowRt Tryz.sizeRt ?_))
      with_reducible refine (checkDistanceVector_any r wr B (HR.out.below (HW.out.b.mono HBB.out)) (Nat.le_trans HBB.out HW.out.b.size) ).mono ?_
      rintro e w6 ⟨rfl, hb⟩
      have H6 := Lib.hid (HW.out.keep hb)
      have HC6 := Lib.hid (HC.out.keep hb)
      clear hb HW HC ck
      obtain ⟨x, hx⟩ : ∃ x, dvE r = x := ⟨_, rfl⟩
      have HG2 : Hid (res = if x = 0 then firstE (fun e => e) ((secsE r).drop 9) else x) := Lib.hid (by rw [← HG.out, ← hx]; rfl)
      rw [hx]
      clear hx HG
      by_cases he : x = 0
      case neg =>
        have E : Hid (res = x) := Lib.hid (by rw [HG2.out, if_neg he])
        have dn : (x != 0) = true := by simpa using he
        clear he
        go_wp2_with fail
        go_ret
        exact ⟨ret_int E.out.symm, H6.out.b⟩
      have E : Hid (firstE (fun e => e) ((secsE r).drop 9) = res) := Lib.hid (by rw [HG2.out, if_pos he])
      subst he
      go_wp2_with fail
      go_roundg 1
      case measure => omega
      case rel => exact ⟨9, by omega, by go_num, H6, HC6, E⟩
    · have ck : wr.cell? ⟨gs, 9, none⟩ = some (.func (.func 99) #[] #[]) := HC.out.cell 9
      go_wp2_with (first | (refine wpList_loadRow rfl 41 _ rfl rfl HW.out.h.range Tryz.rowRt Tryz.sizeRt ?_))
      with_reducible refine (checkPathVector_any r wr B (HR.out.below (HW.out.b.mono HBB.out)) (Nat.le_trans HBB.out HW.out.b.size) HFT.out.2.2.2.2.2.2.2.2.2.2.1 HFT.out.2.2.2.2.2.2.2.2.2.2.2.1 HFT.out.2.2.2.2.2.2.2.2.2.2.2.2.1).mono ?_
      rintro e w6 ⟨rfl, hb⟩
      have H6 := Lib.hid (HW.out.keep hb)
      have HC6 := Lib.hid (HC.out.keep hb)
      clear hb HW HC ck
      obtain ⟨x, hx⟩ : ∃ x, pvE r = x := ⟨_, rfl⟩
      have HG2 : Hid (res = if x = 0 then firstE (fun e => e) ((secsE r).drop 10) else x) := Lib.hid (by rw [← HG.out, ← hx]; rfl)
      rw [hx]
      clear hx HG
      by_cases he : x = 0
      case neg =>
        have E : Hid (res = x) := Lib.hid (by rw [HG2.out, if_neg he])
        have dn : (x != 0) = true := by simpa using he
        clear he
        go_wp2_with fail
        go_ret
        exact ⟨ret_int E.out.symm, H6.out.b⟩
      have E : Hid (firstE (fun e => e) ((secsE r).drop 10) = res) := Lib.hid (by rw [HG2.out, if_pos he])
      subst he
      go_wp2_with fail
      go_roundg 0
      case measure => omega
      case rel => exact ⟨10, by omega, by go_num, H6, HC6, E⟩
end Go.Proofs.YtmddfkpkddemnaaGreatDoor
namespace Go.Proofs.YtmddfkpkddemnaaGreatDoor
open Go.RowKit
theorem idxF_map {α β : Type} (f : α → β) (p : β → Bool) : ∀ (l : List α) (i : Nat), idxF p (l.map f) i = idxF (fun x => p (f x)) l i
  | [], _ => rfl
  | x :: r, i => by
    rw [List.map_cons]
    unfold idxF
    rw [idxF_map f p r]
theorem lsGo_map {α β : Type} (f : α → β) (name : β → List UInt8) (len : β → Nat) (inner : β → Int) (most : Int) (all : List α) : ∀ (l : List α) (k : Nat), lsGo name len inner most (all.map f) (l.map f) k = lsGo (fun x => name (f x)) (fun x => len (f x)) (fun x => inner (f x)) most all l k
  | [], _ => rfl
  | x :: r, k => by
    rw [List.map_cons]
    unfold lsGo
    rw [lsGo_map f name len inner most all r, idxF_map]
theorem lsE_map {α β : Type} (f : α → β) (name : β → List UInt8) (len : β → Nat) (inner : β → Int) (most : Int) (l : List α) : lsE name len inner most (l.map f) = lsE (fun x => name (f x)) (fun x => len (f x)) (fun x => inner (f x)) most l := by
  unfold lsE
  rw [lsGo_map]
  simp only [List.length_map]
def erP (x : PList) : PList := ⟨x.name, .slice none 0 0, x.rules⟩
def erM (x : RMap) : RMap := ⟨x.name, .slice none 0 0, x.clauses⟩
def erA (x : AList) : AList := ⟨x.name, .slice none 0 0, x.rules⟩
theorem idxP (n : List UInt8) (l : List PList) : idxF (fun y => y.name == n) (l.map erP) 0 = idxF (fun y => y.name == n) l 0 := by rw [idxF_map]; rfl
theorem idxM (n : List UInt8) (l : List RMap) : idxF (fun y => y.name == n) (l.map erM) 0 = idxF (fun y => y.name == n) l 0 := by rw [idxF_map]; rfl
theorem idxA (n : List UInt8) (l : List AList) : idxF (fun y => y.name == n) (l.map erA) 0 = idxF (fun y => y.name == n) l 0 := by rw [idxF_map]; rfl
theorem clE_er (l : List PList) : clE (l.map erP) = clE l := by funext c; unfold clE; rw [idxP]
theorem routerE_plain (r : Rt) : routerE r.plain = routerE r := by
  have hP : r.plain.lists = r.lists.map erP := rfl
  have hM : r.plain.maps = r.maps.map erM := rfl
  have hA : r.plain.acls = r.acls.map erA := rfl
  have e1 : plsE r.plain.lists = plsE r.lists := by rw [hP]; unfold plsE; rw [lsE_map]; rfl
  have e2 : mapsE r.plain.lists r.plain.maps = mapsE r.lists r.maps := by rw [hP, hM]; unfold mapsE; rw [lsE_map, clE_er]; rfl
  have e3 : aclsE r.plain.acls = aclsE r.acls := by rw [hA]; unfold aclsE; rw [lsE_map]; rfl
  have n1 : natE (r.acls.map erA) = natE r.acls := by funext x; unfold natE; rw [idxA]
  have e4 : natsE r.plain.acls r.plain.nat = natsE r.acls r.nat := by rw [hA]; unfold natsE; rw [n1]; rfl
  have n2 : filtE (r.acls.map erA) = filtE r.acls := by funext x; unfold filtE lacksB; rw [idxA, idxA]
  have e5 : firstE (filtE r.plain.acls) r.plain.ifs = firstE (filtE r.acls) r.ifs := by rw [hA, n2]; rfl
  have n3 : ∀ i m q t, redE (r.maps.map erM) i m q t = redE r.maps i m q t := fun i m q t => by
    funext l
    unfold redE
    congr 1
    funext x
    unfold redF lacksB
    rw [idxM]
  have e6 : lnkE r.plain = lnkE r := by unfold lnkE; rw [hM, n3]; rfl
  have n4 : dnF r.plain = dnF r := by unfold dnF lacksB; rw [hP, idxP, idxP]; rfl
  have e7 : dvE r.plain = dvE r := by unfold dvE; rw [hM, n3, n4]; rfl
  have n5 : nbsE (r.maps.map erM) r.plain.nb = nbsE r.maps r.nb := by
    unfold nbsE
    have n6 : nbF (r.maps.map erM) = nbF r.maps := by funext x; unfold nbF lacksB; rw [idxM, idxM]
    rw [n6]
    rfl
  have e8 : pvE r.plain = pvE r := by unfold pvE; rw [hM, n3, n5]; rfl
  unfold routerE secsE
  rw [e1, e2, e3, e4, e5, e6, e7, e8]
  rfl
end Go.Proofs.YtmddfkpkddemnaaGreatDoor
