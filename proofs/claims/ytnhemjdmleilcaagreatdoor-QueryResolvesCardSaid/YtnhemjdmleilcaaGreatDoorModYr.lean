/- The walk of the reference's Resolve. Condition: the routers lie in memory. -/
import Derived.Test.YtnhemjdmleilcaaGreatDoorModY
import Derived.Test.YtnhemjdmleilcaaGreatDoorQryU
namespace Go.Proofs.YtnhemjdmleilcaaGreatDoor
open Go.RowKit

theorem HasC.stored_at {T : TypeId} {g : Nat} {cs : Array Value} {w : World} (h : HasC T g cs w) (o : Nat) (vs : List Value) : HasC T g (setAll cs o vs) (w.setCells g o vs) := heap_setCells_same vs o cs w h
def viaV (rs : List Rt) (n : List UInt8) : Int × Bool := if n.isEmpty then (-1, true) else (rtIdx rs n, decide (0 ≤ rtIdx rs n))
def toV (rs : List Rt) (n f : List UInt8) : Int × Int × Bool := if n.isEmpty then (-1, -1, true) else placeV rs n f
def rresV (rs : List Rt) (q : Qr) : Tg :=
  if validE q = 0 then
    (if (placeV rs q.fr q.fi).2.2 && (toV rs q.tr q.ti).2.2 && (viaV rs q.via).2 then ⟨(placeV rs q.fr q.fi).1, (placeV rs q.fr q.fi).2.1, (toV rs q.tr q.ti).1, (toV rs q.tr q.ti).2.1, (viaV rs q.via).1, 0⟩ else ⟨0, 0, 0, 0, 0, 5⟩)
  else ⟨0, 0, 0, 0, 0, validE q⟩
theorem RVq.set {v : Value} {q : Qr} {w0 w w' : World} {g : Nat} (h : RVq v q w0 w) (hg : w.grownBy w' (some g)) (hl : w0.heap.size + 1 + 1 < g) : RVq v q w0 w' :=
  ⟨h.h.grown hg (by simp; omega), h.q.grown hg (by simp; omega), h.t.grown hg (by simp; omega), h.b.trans (below_of_grown hg (by omega) h.b.size)⟩
set_option maxRecDepth 100000 in
set_option maxHeartbeats 4000000 in
theorem rresolve_any (rs : List Rt) (v : Value) (q : Qr) (w : World) (B : Nat) (h : NetAt w B v rs) (hB : B ≤ w.heap.size) (hq : q.fit) : Calls Tryz.prog 9 #[.agg #[v], QV q] w (TgP (rresV rs q) w) := by
  have H0 := Lib.hid (RVq.start v q w)
  have HN := Lib.hid h
  have HBB := Lib.hid hB
  have PV := Lib.hid (fun w' => rqvalid_any q w' hq)
  clear h hB hq
  obtain ⟨res, hres⟩ : ∃ res, rresV rs q = res := ⟨_, rfl⟩
  rw [hres]
  have E := Lib.hid hres.symm
  unfold rresV at E
  clear hres
  rw [QV_eq]
  go_enter Tryz.func9, Tryz.ntmps9
  go_upto_region 1 with fail
  generalize hwy : ((w.alloc (.cells #[v] 24)).alloc (.cells (QC q) 33)).alloc (.cells (TC 0 0 0 0 0) 42) = wy at H0
  show Code.wp _ _ _ _ (((w.alloc (.cells #[v] 24)).alloc (.cells (QC q) 33)).alloc (.cells (TC 0 0 0 0 0) 42))
  rw [hwy]
  clear hwy
  go_wp2_with (first | (refine wpList_loadQ rfl _ rfl rfl H0.out.q ?_))
  refine (PV.out _).mono ?_
  rintro e w1 ⟨rfl, hb⟩
  have H1 := Lib.hid (H0.out.keep hb)
  clear hb H0 PV
  by_cases hv : validE q = 0
  case neg =>
    have E1 := Lib.hid (E.out.trans (if_neg hv))
    generalize validE q = ve at *
    have dn : (ve != 0) = true := by simpa using hv
    clear hv E
    go_wp2_with (first | (refine wpList_storeRow rfl 42 _ _ rfl rfl rfl H1.out.t rfl Tryz.sizeTg (TC_one _ _ _ _ _) ?_; intro wz hz1 hz2))
    refine bodyPost_ret (results_cell2 rfl rfl rfl (hz1.load Tryz.rowTg Tryz.sizeTg)) rfl ?_
    exact ⟨by rw [E1.out]; rfl, H1.out.b.trans (below_of_grown hz2 (by omega) H1.out.b.size)⟩
  replace E := Lib.hid (E.out.trans (if_pos hv))
  rw [hv]
  clear hv
  obtain ⟨x1, hx1⟩ : ∃ x, placeV rs q.fr q.fi = x := ⟨_, rfl⟩
  have P1 := Lib.hid (rplace_any rs v q.fr q.fi w1 B (HN.out.below (H1.out.b.mono HBB.out)) (Nat.le_trans HBB.out H1.out.b.size))
  rw [hx1] at P1 E
  clear hx1
  obtain ⟨a1, b1, k1⟩ := x1
  dsimp only at P1 E
  have f1 : w1.cell? ⟨w.heap.size + 1, 1, none⟩ = some (.string (str q.fr)) := H1.out.q.cell 1
  have f2 : w1.cell? ⟨w.heap.size + 1, 2, none⟩ = some (.string (str q.fi)) := H1.out.q.cell 2
  go_wp2_with (first | (refine wpList_loadRow rfl 24 _ rfl rfl H1.out.h.range Tryz.rowNw Tryz.sizeNw ?_))
  refine P1.out.mono ?_
  rintro e wa ⟨rfl, hb⟩
  have HA := Lib.hid (H1.out.keep hb)
  clear hb P1 H1  f1 f2
  go_upto_region 5 with (first | (refine wpList_storeRow rfl 40 _ _ rfl rfl rfl (HasC.new wa _ _) rfl Tryz.sizeEn (EC_one _ _) ?_; intro w2 hz1 hz2))
  have H2 := Lib.hid (HA.out.keep (new_below hz2))
  have G1 := hz1
  clear hz1 hz2 HA 
  generalize wa.heap.size = g1 at G1 ⊢
  replace G1 := Lib.hid G1
  go_upto_region 6 with (first | (refine wpList_loadRow (cs := #[.int .i64 a1, .int .i64 b1]) rfl 40 _ rfl rfl G1.out.range Tryz.rowEn Tryz.sizeEn ?_) | (refine wpList_storeRow rfl 42 _ _ rfl rfl rfl (HasC.new w2 _ _) rfl Tryz.sizeTg (TC_one _ _ _ _ _) ?_; intro w3 hz1 hz2))
  have G9 : Hid (HasC 42 w2.heap.size (TC a1 b1 (-1) (-1) (-1)) w3) := Lib.hid hz1
  have H3 := Lib.hid (H2.out.keep (new_below hz2))
  have hg9 := (blk_lt H2.out.t)
  clear hz1 hz2
  generalize w2.heap.size = g9 at G9 hg9 ⊢
  clear G1 H2
  have f3 : w3.cell? ⟨w.heap.size + 1, 3, none⟩ = some (.string (str q.tr)) := H3.out.q.cell 3
  by_cases ht : q.tr = []
  · have tn : (str q.tr).toList = [] := by rw [toList_str, ht]
    rw [show toV rs q.tr q.ti = (-1, -1, true) from by rw [ht]; rfl] at E
    clear ht
    dsimp only at E
    have f5 : w3.cell? ⟨w.heap.size + 1, 5, none⟩ = some (.string (str q.via)) := H3.out.q.cell 5
    by_cases hv : q.via = []
    · have tn : (str q.via).toList = [] := by rw [toList_str, hv]
      rw [show viaV rs q.via = (-1, true) from by rw [hv]; rfl] at E
      clear hv
      cases k1 with
      | false =>
        have E1 : Hid (res = ⟨0, 0, 0, 0, 0, 5⟩) := Lib.hid E.out
        go_wp2_with (first | (refine wpList_storeRow rfl 42 _ _ rfl rfl rfl H3.out.t rfl Tryz.sizeTg (TC_one _ _ _ _ _) ?_; intro wz hz1 hz2))
        refine bodyPost_ret (results_cell2 rfl rfl rfl (hz1.load Tryz.rowTg Tryz.sizeTg)) rfl ?_
        exact ⟨by rw [E1.out]; rfl, H3.out.b.trans (below_of_grown hz2 (by omega) H3.out.b.size)⟩
      | true =>
        have E1 : Hid (res = ⟨a1, b1, (-1), (-1), (-1), 0⟩) := Lib.hid E.out
        go_wp2_with (first | (refine wpList_loadRow (cs := TC a1 b1 (-1) (-1) (-1)) rfl 42 _ rfl rfl G9.out.range Tryz.rowTg Tryz.sizeTg ?_) | (refine wpList_storeRow rfl 42 _ _ rfl rfl rfl H3.out.t rfl Tryz.sizeTg (TC_one _ _ _ _ _) ?_; intro wz hz1 hz2))
        refine bodyPost_ret (results_cell2 rfl rfl rfl (hz1.load Tryz.rowTg Tryz.sizeTg)) rfl ?_
        exact ⟨by rw [E1.out]; rfl, H3.out.b.trans (below_of_grown hz2 (by omega) H3.out.b.size)⟩
    obtain ⟨i1, i2, i3⟩ := ne_str hv
    rw [show viaV rs q.via = (rtIdx rs q.via, decide (0 ≤ rtIdx rs q.via)) from by unfold viaV; rw [i1]; rfl] at E
    clear hv
    have PR := Lib.hid (rrouter_any rs v q.via w3 B (HN.out.h.below (H3.out.b.mono HBB.out)) (Nat.le_trans HBB.out H3.out.b.size))
    generalize hu : rtIdx rs q.via = u at E
    unfold rtIdx at hu
    rw [hu] at PR
    clear hu
    go_wp2_with (first | (refine wpList_loadRow rfl 24 _ rfl rfl H3.out.h.range Tryz.rowNw Tryz.sizeNw ?_))
    refine PR.out.mono ?_
    rintro e wc ⟨rfl, hb⟩
    have HC := Lib.hid (H3.out.keep hb)
    have GC := Lib.hid (G9.out.keep hb)
    clear hb PR f5 i1 i2 i3 H3 G9
    have cv : wc.cell? ⟨g9, 4, none⟩ = some (.int .i64 (-1)) := GC.out.cell 4
    have fv := GC.out.frz 4
    have GD : Hid (HasC 42 g9 (TC a1 b1 (-1) (-1) u) (wc.setCell ⟨g9, 4, none⟩ (.int .i64 u))) := Lib.hid (GC.out.stored_at 4 [.int .i64 u])
    have HD : Hid (RVq v q w (wc.setCell ⟨g9, 4, none⟩ (.int .i64 u))) := Lib.hid (HC.out.set (grown_setCells g9 [.int .i64 u] 4 wc) hg9)
    go_upto_region 12 with fail
    generalize wc.setCell ⟨g9, 4, none⟩ (.int .i64 u) = wd at GD HD ⊢
    clear cv fv HC GC
    have du : wd.cell? ⟨g9, 4, none⟩ = some (.int .i64 u) := GD.out.cell 4
    cases k1 with
    | false =>
      have E1 : Hid (res = ⟨0, 0, 0, 0, 0, 5⟩) := Lib.hid E.out
      go_wp2_with (first | (refine wpList_storeRow rfl 42 _ _ rfl rfl rfl HD.out.t rfl Tryz.sizeTg (TC_one _ _ _ _ _) ?_; intro wz hz1 hz2))
      refine bodyPost_ret (results_cell2 rfl rfl rfl (hz1.load Tryz.rowTg Tryz.sizeTg)) rfl ?_
      exact ⟨by rw [E1.out]; rfl, HD.out.b.trans (below_of_grown hz2 (by omega) HD.out.b.size)⟩
    | true =>
      by_cases hu : 0 ≤ u
      · have dd := decide_eq_true hu
        rw [dd] at E
        clear hu
        have E1 : Hid (res = ⟨a1, b1, (-1), (-1), u, 0⟩) := Lib.hid E.out
        go_wp2_with (first | (refine wpList_loadRow (cs := TC a1 b1 (-1) (-1) u) rfl 42 _ rfl rfl GD.out.range Tryz.rowTg Tryz.sizeTg ?_) | (refine wpList_storeRow rfl 42 _ _ rfl rfl rfl HD.out.t rfl Tryz.sizeTg (TC_one _ _ _ _ _) ?_; intro wz hz1 hz2))
        refine bodyPost_ret (results_cell2 rfl rfl rfl (hz1.load Tryz.rowTg Tryz.sizeTg)) rfl ?_
        exact ⟨by rw [E1.out]; rfl, HD.out.b.trans (below_of_grown hz2 (by omega) HD.out.b.size)⟩
      have dd := decide_eq_false hu
      rw [dd] at E
      clear hu
      have E1 : Hid (res = ⟨0, 0, 0, 0, 0, 5⟩) := Lib.hid E.out
      go_wp2_with (first | (refine wpList_storeRow rfl 42 _ _ rfl rfl rfl HD.out.t rfl Tryz.sizeTg (TC_one _ _ _ _ _) ?_; intro wz hz1 hz2))
      refine bodyPost_ret (results_cell2 rfl rfl rfl (hz1.load Tryz.rowTg Tryz.sizeTg)) rfl ?_
      exact ⟨by rw [E1.out]; rfl, HD.out.b.trans (below_of_grown hz2 (by omega) HD.out.b.size)⟩
  obtain ⟨i1, i2, i3⟩ := ne_str ht
  rw [show toV rs q.tr q.ti = placeV rs q.tr q.ti from by unfold toV; rw [i1]; rfl] at E
  clear ht
  obtain ⟨x2, hx2⟩ : ∃ x, placeV rs q.tr q.ti = x := ⟨_, rfl⟩
  have P2 := Lib.hid (rplace_any rs v q.tr q.ti w3 B (HN.out.below (H3.out.b.mono HBB.out)) (Nat.le_trans HBB.out H3.out.b.size))
  rw [hx2] at P2 E
  clear hx2
  obtain ⟨a2, b2, k2⟩ := x2
  dsimp only at P2 E
  have f4 : w3.cell? ⟨w.heap.size + 1, 4, none⟩ = some (.string (str q.ti)) := H3.out.q.cell 4
  go_wp2_with (first | (refine wpList_loadRow rfl 24 _ rfl rfl H3.out.h.range Tryz.rowNw Tryz.sizeNw ?_))
  refine P2.out.mono ?_
  rintro e wa ⟨rfl, hb⟩
  have HA := Lib.hid (H3.out.keep hb)
  have GA := Lib.hid (G9.out.keep hb)
  clear hb P2 H3 G9 f3 f4 i1 i2 i3
  go_upto_region 8 with (first | (refine wpList_storeRow rfl 40 _ _ rfl rfl rfl (HasC.new wa _ _) rfl Tryz.sizeEn (EC_one _ _) ?_; intro w4 hz1 hz2))
  have H4 := Lib.hid (HA.out.keep (new_below hz2))
  have G4 := Lib.hid (GA.out.keep (new_below hz2))
  have G2 := hz1
  clear hz1 hz2 HA GA
  generalize wa.heap.size = g2 at G2 ⊢
  replace G2 := Lib.hid G2
  have cv2 : w4.cell? ⟨g9, 2, none⟩ = some (.int .i64 (-1)) := G4.out.cell 2
  have cv3 : w4.cell? ⟨g9, 3, none⟩ = some (.int .i64 (-1)) := G4.out.cell 3
  have fv2 := G4.out.frz 2
  have fv3 := G4.out.frz 3
  have G9 : Hid (HasC 42 g9 (TC a1 b1 a2 b2 (-1)) ((w4.setCell ⟨g9, 2, none⟩ (.int .i64 a2)).setCell ⟨g9, 3, none⟩ (.int .i64 b2))) := Lib.hid (G4.out.stored_at 2 [.int .i64 a2, .int .i64 b2])
  have H5 : Hid (RVq v q w ((w4.setCell ⟨g9, 2, none⟩ (.int .i64 a2)).setCell ⟨g9, 3, none⟩ (.int .i64 b2))) := Lib.hid (H4.out.set (grown_setCells g9 [.int .i64 a2, .int .i64 b2] 2 w4) hg9)
  go_upto_region 9 with (first | (refine wpList_loadRow (cs := #[.int .i64 a2, .int .i64 b2]) rfl 40 _ rfl rfl G2.out.range Tryz.rowEn Tryz.sizeEn ?_))
  clear cv2 cv3 fv2 fv3 H4 G4 G2
  generalize (w4.setCell ⟨g9, 2, none⟩ (.int .i64 a2)).setCell ⟨g9, 3, none⟩ (.int .i64 b2) = w5 at G9 H5 ⊢
  cases k1 with
  | false =>
    have f5 : w5.cell? ⟨w.heap.size + 1, 5, none⟩ = some (.string (str q.via)) := H5.out.q.cell 5
    by_cases hv : q.via = []
    · have tn : (str q.via).toList = [] := by rw [toList_str, hv]
      rw [show viaV rs q.via = (-1, true) from by rw [hv]; rfl] at E
      clear hv
      have E1 : Hid (res = ⟨0, 0, 0, 0, 0, 5⟩) := Lib.hid E.out
      go_wp2_with (first | (refine wpList_storeRow rfl 42 _ _ rfl rfl rfl H5.out.t rfl Tryz.sizeTg (TC_one _ _ _ _ _) ?_; intro wz hz1 hz2))
      refine bodyPost_ret (results_cell2 rfl rfl rfl (hz1.load Tryz.rowTg Tryz.sizeTg)) rfl ?_
      exact ⟨by rw [E1.out]; rfl, H5.out.b.trans (below_of_grown hz2 (by omega) H5.out.b.size)⟩
    obtain ⟨i1, i2, i3⟩ := ne_str hv
    rw [show viaV rs q.via = (rtIdx rs q.via, decide (0 ≤ rtIdx rs q.via)) from by unfold viaV; rw [i1]; rfl] at E
    clear hv
    have PR := Lib.hid (rrouter_any rs v q.via w5 B (HN.out.h.below (H5.out.b.mono HBB.out)) (Nat.le_trans HBB.out H5.out.b.size))
    generalize hu : rtIdx rs q.via = u at E
    unfold rtIdx at hu
    rw [hu] at PR
    clear hu
    go_wp2_with (first | (refine wpList_loadRow rfl 24 _ rfl rfl H5.out.h.range Tryz.rowNw Tryz.sizeNw ?_))
    refine PR.out.mono ?_
    rintro e wc ⟨rfl, hb⟩
    have HC := Lib.hid (H5.out.keep hb)
    have GC := Lib.hid (G9.out.keep hb)
    clear hb PR f5 i1 i2 i3 H5 G9
    have cv : wc.cell? ⟨g9, 4, none⟩ = some (.int .i64 (-1)) := GC.out.cell 4
    have fv := GC.out.frz 4
    have GD : Hid (HasC 42 g9 (TC a1 b1 a2 b2 u) (wc.setCell ⟨g9, 4, none⟩ (.int .i64 u))) := Lib.hid (GC.out.stored_at 4 [.int .i64 u])
    have HD : Hid (RVq v q w (wc.setCell ⟨g9, 4, none⟩ (.int .i64 u))) := Lib.hid (HC.out.set (grown_setCells g9 [.int .i64 u] 4 wc) hg9)
    go_upto_region 12 with fail
    generalize wc.setCell ⟨g9, 4, none⟩ (.int .i64 u) = wd at GD HD ⊢
    clear cv fv HC GC
    have du : wd.cell? ⟨g9, 4, none⟩ = some (.int .i64 u) := GD.out.cell 4
    have E1 : Hid (res = ⟨0, 0, 0, 0, 0, 5⟩) := Lib.hid E.out
    go_wp2_with (first | (refine wpList_storeRow rfl 42 _ _ rfl rfl rfl HD.out.t rfl Tryz.sizeTg (TC_one _ _ _ _ _) ?_; intro wz hz1 hz2))
    refine bodyPost_ret (results_cell2 rfl rfl rfl (hz1.load Tryz.rowTg Tryz.sizeTg)) rfl ?_
    exact ⟨by rw [E1.out]; rfl, HD.out.b.trans (below_of_grown hz2 (by omega) HD.out.b.size)⟩
  | true =>
    have f5 : w5.cell? ⟨w.heap.size + 1, 5, none⟩ = some (.string (str q.via)) := H5.out.q.cell 5
    by_cases hv : q.via = []
    · have tn : (str q.via).toList = [] := by rw [toList_str, hv]
      rw [show viaV rs q.via = (-1, true) from by rw [hv]; rfl] at E
      clear hv
      cases k2 with
      | false =>
        have E1 : Hid (res = ⟨0, 0, 0, 0, 0, 5⟩) := Lib.hid E.out
        go_wp2_with (first | (refine wpList_storeRow rfl 42 _ _ rfl rfl rfl H5.out.t rfl Tryz.sizeTg (TC_one _ _ _ _ _) ?_; intro wz hz1 hz2))
        refine bodyPost_ret (results_cell2 rfl rfl rfl (hz1.load Tryz.rowTg Tryz.sizeTg)) rfl ?_
        exact ⟨by rw [E1.out]; rfl, H5.out.b.trans (below_of_grown hz2 (by omega) H5.out.b.size)⟩
      | true =>
        have E1 : Hid (res = ⟨a1, b1, a2, b2, (-1), 0⟩) := Lib.hid E.out
        go_wp2_with (first | (refine wpList_loadRow (cs := TC a1 b1 a2 b2 (-1)) rfl 42 _ rfl rfl G9.out.range Tryz.rowTg Tryz.sizeTg ?_) | (refine wpList_storeRow rfl 42 _ _ rfl rfl rfl H5.out.t rfl Tryz.sizeTg (TC_one _ _ _ _ _) ?_; intro wz hz1 hz2))
        refine bodyPost_ret (results_cell2 rfl rfl rfl (hz1.load Tryz.rowTg Tryz.sizeTg)) rfl ?_
        exact ⟨by rw [E1.out]; rfl, H5.out.b.trans (below_of_grown hz2 (by omega) H5.out.b.size)⟩
    obtain ⟨i1, i2, i3⟩ := ne_str hv
    rw [show viaV rs q.via = (rtIdx rs q.via, decide (0 ≤ rtIdx rs q.via)) from by unfold viaV; rw [i1]; rfl] at E
    clear hv
    have PR := Lib.hid (rrouter_any rs v q.via w5 B (HN.out.h.below (H5.out.b.mono HBB.out)) (Nat.le_trans HBB.out H5.out.b.size))
    generalize hu : rtIdx rs q.via = u at E
    unfold rtIdx at hu
    rw [hu] at PR
    clear hu
    go_wp2_with (first | (refine wpList_loadRow rfl 24 _ rfl rfl H5.out.h.range Tryz.rowNw Tryz.sizeNw ?_))
    refine PR.out.mono ?_
    rintro e wc ⟨rfl, hb⟩
    have HC := Lib.hid (H5.out.keep hb)
    have GC := Lib.hid (G9.out.keep hb)
    clear hb PR f5 i1 i2 i3 H5 G9
    have cv : wc.cell? ⟨g9, 4, none⟩ = some (.int .i64 (-1)) := GC.out.cell 4
    have fv := GC.out.frz 4
    have GD : Hid (HasC 42 g9 (TC a1 b1 a2 b2 u) (wc.setCell ⟨g9, 4, none⟩ (.int .i64 u))) := Lib.hid (GC.out.stored_at 4 [.int .i64 u])
    have HD : Hid (RVq v q w (wc.setCell ⟨g9, 4, none⟩ (.int .i64 u))) := Lib.hid (HC.out.set (grown_setCells g9 [.int .i64 u] 4 wc) hg9)
    go_upto_region 12 with fail
    generalize wc.setCell ⟨g9, 4, none⟩ (.int .i64 u) = wd at GD HD ⊢
    clear cv fv HC GC
    have du : wd.cell? ⟨g9, 4, none⟩ = some (.int .i64 u) := GD.out.cell 4
    cases k2 with
    | false =>
      have E1 : Hid (res = ⟨0, 0, 0, 0, 0, 5⟩) := Lib.hid E.out
      go_wp2_with (first | (refine wpList_storeRow rfl 42 _ _ rfl rfl rfl HD.out.t rfl Tryz.sizeTg (TC_one _ _ _ _ _) ?_; intro wz hz1 hz2))
      refine bodyPost_ret (results_cell2 rfl rfl rfl (hz1.load Tryz.rowTg Tryz.sizeTg)) rfl ?_
      exact ⟨by rw [E1.out]; rfl, HD.out.b.trans (below_of_grown hz2 (by omega) HD.out.b.size)⟩
    | true =>
      by_cases hu : 0 ≤ u
      · have dd := decide_eq_true hu
        rw [dd] at E
        clear hu
        have E1 : Hid (res = ⟨a1, b1, a2, b2, u, 0⟩) := Lib.hid E.out
        go_wp2_with (first | (refine wpList_loadRow (cs := TC a1 b1 a2 b2 u) rfl 42 _ rfl rfl GD.out.range Tryz.rowTg Tryz.sizeTg ?_) | (refine wpList_storeRow rfl 42 _ _ rfl rfl rfl HD.out.t rfl Tryz.sizeTg (TC_one _ _ _ _ _) ?_; intro wz hz1 hz2))
        refine bodyPost_ret (results_cell2 rfl rfl rfl (hz1.load Tryz.rowTg Tryz.sizeTg)) rfl ?_
        exact ⟨by rw [E1.out]; rfl, HD.out.b.trans (below_of_grown hz2 (by omega) HD.out.b.size)⟩
      have dd := decide_eq_false hu
      rw [dd] at E
      clear hu
      have E1 : Hid (res = ⟨0, 0, 0, 0, 0, 5⟩) := Lib.hid E.out
      go_wp2_with (first | (refine wpList_storeRow rfl 42 _ _ rfl rfl rfl HD.out.t rfl Tryz.sizeTg (TC_one _ _ _ _ _) ?_; intro wz hz1 hz2))
      refine bodyPost_ret (results_cell2 rfl rfl rfl (hz1.load Tryz.rowTg Tryz.sizeTg)) rfl ?_
      exact ⟨by rw [E1.out]; rfl, HD.out.b.trans (below_of_grown hz2 (by omega) HD.out.b.size)⟩
end Go.Proofs.YtnhemjdmleilcaaGreatDoor
