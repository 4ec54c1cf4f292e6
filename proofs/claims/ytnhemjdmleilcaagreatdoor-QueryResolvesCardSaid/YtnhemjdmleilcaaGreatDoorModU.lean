/- The walk of Check. Conditions: the router lies in memory, addresses are numbers below 2^32. -/
import Derived.Test.YtnhemjdmleilcaaGreatDoorModT
import Derived.Lib.MinMax
namespace Go.Proofs.YtnhemjdmleilcaaGreatDoor
open Go.RowKit

/-- A network: its routers lie in memory. -/
structure NetAt (w : World) (B : Nat) (v : Value) (rs : List Rt) : Prop where
  h : SlV w B 25 Rt.C v rs
  n : ∀ r ∈ rs, r.at w B
  f : ∀ r ∈ rs, r.fit
theorem NetAt.below {w w' : World} {B : Nat} {v : Value} {rs : List Rt} (h : NetAt w B v rs) (hb : Below B w w') : NetAt w' B v rs := ⟨h.h.below hb, fun r hr => (h.n r hr).below hb, h.f⟩
def dupRt (x y : Rt) : Bool := y.name == x.name || x.ifs.any (sharesB y)
def checkE (rs : List Rt) : Int := pairE 8 routerE dupRt 4 rs
set_option maxRecDepth 100000 in
set_option maxHeartbeats 8000000 in
theorem check_any (rs : List Rt) (v : Value) (w : World) (B : Nat) (h : NetAt w B v rs) (hB : B ≤ w.heap.size) : Calls Tryz.prog 6 #[.agg #[v]] w fun e w' => e = .returned (.int .i64 (checkE rs)) ∧ Below w.heap.size w w' := by
  have HN := Lib.hid h
  have HF : Hid (∀ x ∈ rs, x.at w B ∧ x.fit) := Lib.hid (fun x hx => ⟨h.n x hx, h.f x hx⟩)
  have HBB := Lib.hid hB
  have H0 := Lib.hid (RQ.start 24 #[v] w)
  obtain ⟨A, c, hv, hle, -⟩ := h.h
  have HL : Hid (∀ w', RQ 24 #[v] w w' → w'.cell? ⟨w.heap.size, 0, none⟩ = some (.slice A rs.length c)) := Lib.hid (fun w' h => by rw [← hv]; exact h.h.cell 0)
  have HV := Lib.hid hv
  clear h hB
  have c2 := HL.out _ H0.out
  obtain ⟨res, hres⟩ : ∃ res, checkE rs = res := ⟨_, rfl⟩
  rw [hres]
  clear hv
  by_cases h8 : 8 < rs.length
  · have E : Hid (res = 7) := Lib.hid (by rw [← hres]; exact if_pos h8)
    clear hres
    go_enter Tryz.func6, Tryz.ntmps6
    go_wp2_with fail
    go_ret
    exact ⟨ret_int E.out.symm, H0.out.b⟩
  have d8 : decide ((8 : Int) < rs.length) = false := by simp; omega
  have E : Hid (pairGo routerE dupRt 4 rs rs 0 = res) := Lib.hid (by rw [← hres]; exact (if_neg h8).symm)
  clear hres
  go_enter Tryz.func6, Tryz.ntmps6
  go_wp2_with fail
  clear c2 d8
  go_loopg [15] rs.length (fun gh ix wr => ∃ k : Nat, k + gh = rs.length ∧ ix = .int .i64 k ∧ Hid ((RQ 24 #[v] w) wr) ∧ Hid (pairGo routerE dupRt 4 rs (rs.drop k) k = res))
  case atStart => exact ⟨0, by omega, rfl, H0, E⟩
  case round =>
    obtain ⟨k, hk, rfl, HW, HG⟩ := hrel
    clear H0 E
    by_cases hlt : k < rs.length
    case neg =>
      have E := Lib.hid (pairGo_end hlt HG.out)
      go_wp2_with fail
      go_ret
      exact ⟨ret_int E.out.symm, HW.out.b⟩
    have HAT := Lib.hid (pairGo_at hlt HG.out)
    obtain ⟨g, o, c', e', -, hg, R0⟩ := (HN.out.h).elem (n := 25) (by decide) (fun _ => rfl) hlt
    rw [HV.out] at e'
    injection e' with e1 e2 e3
    subst e1 e3
    have r1 := Lib.hid (rangeBelow R0 (HW.out.b.mono HBB.out) hg)
    have FX := Lib.hid (HF.out _ (List.getElem_mem hlt))
    clear R0 HG e2
    generalize rs[k] = x at HAT r1 FX
    go_upto_region 6 with (first | (refine wpList_loadRow rfl 69 _ rfl rfl r1.out Tryz.rowRt Tryz.sizeRt ?_) | (refine wpList_storeRow rfl 69 _ _ rfl rfl rfl (HasC.new wr _ _) rfl Tryz.sizeRt (Rt.at.one FX.out.1) ?_; intro w5 hz1 hz2))
    have H5 := Lib.hid (HW.out.keep (new_below hz2))
    have X5 := hz1
    clear hz1 hz2 r1 HW
    generalize wr.heap.size = gx at X5 ⊢
    replace X5 := Lib.hid X5
    go_wp2_with (first | (refine wpList_loadRow rfl 69 _ rfl rfl X5.out.range Tryz.rowRt Tryz.sizeRt ?_))
    with_reducible refine (checkRouter_any x w5 B (FX.out.1.below (H5.out.b.mono HBB.out)) (Nat.le_trans HBB.out H5.out.b.size) FX.out.2).mono ?_
    rintro e w6 ⟨rfl, hb⟩
    have H6 := Lib.hid (H5.out.keep hb)
    have X6 := Lib.hid (X5.out.keep hb)
    clear hb H5 X5
    by_cases he : routerE x = 0
    case neg =>
      have E : Hid (res = routerE x) := Lib.hid (pair_fail HAT.out he)
      generalize routerE x = e1 at *
      have dn : (e1 != 0) = true := by simpa using he
      clear he
      go_wp2_with fail
      go_ret
      exact ⟨ret_int E.out.symm, H6.out.b⟩
    have F0 := Lib.hid he
    rw [he]
    clear he
    have HAN : Hid (res = if (rs.take k).any (dupRt x) then 4 else pairGo routerE dupRt 4 rs (rs.drop (k + 1)) (k + 1)) := Lib.hid (pair_ok HAT.out F0.out)
    clear HAT F0
    have c2 := HL.out _ H6.out
    go_wp2_with fail
    clear c2
    go_loopg [30] k (fun gh ix wq => ∃ j : Nat, j + gh = k ∧ ix = .int .i64 j ∧ Hid ((RQ 24 #[v] w) wq) ∧ Hid (HasC 69 gx x.C wq) ∧ Hid ((rs.take k).any (dupRt x) = ((rs.take k).drop j).any (dupRt x)))
    case atStart => exact ⟨0, by omega, rfl, H6, X6, Lib.hid rfl⟩
    case round =>
      obtain ⟨j, hj, rfl, HQ, XQ, HAY⟩ := hrel
      by_cases hjl : j < k
      case neg =>
        have E : Hid (pairGo routerE dupRt 4 rs (rs.drop (k + 1)) (k + 1) = res) := Lib.hid (pair_done HAN.out HAY.out hjl).symm
        go_wp2_with fail
        go_roundg (rs.length - (k + 1))
        case measure => omega
        case rel => exact ⟨k + 1, by omega, by go_num, HQ, E⟩
      have hjn : j < rs.length := by omega
      obtain ⟨g', o', c'', e', -, hg', R0⟩ := (HN.out.h).elem (n := 25) (by decide) (fun _ => rfl) hjn
      rw [HV.out] at e'
      injection e' with e1 e2 e3
      injection e1 with e1
      injection e1 with e1 e4
      subst e1 e4
      have HST := Lib.hid (take_step (all := rs) (p := dupRt x) hjl hjn)
      have FY := Lib.hid (HF.out _ (List.getElem_mem hjn))
      have r1 := Lib.hid (rangeBelow R0 (HQ.out.b.mono HBB.out) hg')
      clear R0 e2 e3
      generalize rs[j] = y at HST r1 FY
      have hjk : (j : Int) < k := by omega
      go_upto_region 12 with (first | (refine wpList_loadRow rfl 69 _ rfl rfl r1.out Tryz.rowRt Tryz.sizeRt ?_) | (refine wpList_storeRow rfl 69 _ _ rfl rfl rfl (HasC.new wr _ _) rfl Tryz.sizeRt (Rt.at.one FY.out.1) ?_; intro w6 hz1 hz2))
      have H6 := Lib.hid (HQ.out.keep (new_below hz2))
      have X6 := Lib.hid (XQ.out.keep (new_below hz2))
      have Y6 := hz1
      clear hz1 hz2 r1 HQ XQ
      generalize wr.heap.size = gy at Y6 ⊢
      replace Y6 := Lib.hid Y6
      have xc0 : w6.cell? ⟨gx, 0, none⟩ = some (.string (str x.name)) := X6.out.cell 0
      have yc0 : w6.cell? ⟨gy, 0, none⟩ = some (.string (str y.name)) := Y6.out.cell 0
      have CC : Hid (dupRt x y = (y.name == x.name || x.ifs.any (sharesB y))) := Lib.hid rfl
      have qn : ((str y.name).toList == (str x.name).toList) = (y.name == x.name) := by rw [toList_str, toList_str]
      cases hc : (y.name == x.name) with
      | true =>
        rw [hc] at qn
        have CD : Hid (dupRt x y = true) := Lib.hid (by rw [CC.out, hc]; rfl)
        clear hc CC
        have E : Hid (res = 4) := Lib.hid (pair_hit HAN.out HAY.out (by rw [HST.out, CD.out]))
        go_wp2_with fail
        go_ret
        exact ⟨ret_int E.out.symm, H6.out.b⟩
      | false =>
      rw [hc] at qn
      have CD : Hid (dupRt x y = x.ifs.any (sharesB y)) := Lib.hid (by rw [CC.out, hc]; rfl)
      clear hc CC
      go_wp2_with (first | (refine wpList_unguard (by rfl) (wpList_loadRow rfl 69 _ rfl rfl Y6.out.range Tryz.rowRt Tryz.sizeRt ?_)) | (refine wpList_unguard (by rfl) (wpList_loadRow rfl 69 _ rfl rfl X6.out.range Tryz.rowRt Tryz.sizeRt ?_)))
      with_reducible refine (shareAddress_any y x w6 B (FY.out.1.below (H6.out.b.mono HBB.out)) (FX.out.1.below (H6.out.b.mono HBB.out)) (Nat.le_trans HBB.out H6.out.b.size)).mono ?_
      rintro e w7 ⟨rfl, hb⟩
      have H7 := Lib.hid (H6.out.keep hb)
      have X7 := Lib.hid (X6.out.keep hb)
      clear hb H6 X6 xc0 yc0
      cases ho : x.ifs.any (sharesB y) with
      | true =>
        have E : Hid (res = 4) := Lib.hid (pair_hit HAN.out HAY.out (by rw [HST.out, CD.out, ho]))
        go_wp2_with fail
        go_ret
        exact ⟨ret_int E.out.symm, H7.out.b⟩
      | false =>
        have EN : Hid ((rs.take k).any (dupRt x) = ((rs.take k).drop (j + 1)).any (dupRt x)) := Lib.hid (pair_next HAY.out (by rw [HST.out, CD.out, ho]))
        go_wp2_with fail
        go_roundg (k - (j + 1))
        case measure => omega
        case rel => exact ⟨j + 1, by omega, by go_num, H7, X7, EN⟩
end Go.Proofs.YtnhemjdmleilcaaGreatDoor
