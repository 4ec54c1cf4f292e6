/- The walk of query.Resolve. Condition: the routers lie in memory. -/
import Derived.Test.YtnhemjdmleilcaaGreatDoorMEnd
import Derived.Test.YtnhemjdmleilcaaGreatDoorQryV
namespace Go.Proofs.YtnhemjdmleilcaaGreatDoor
open Go.RowKit

theorem Tryz.rowTg : (Tryz.prog.underlying 42).map TypeDesc.isRow = some true := by kernel_rfl
theorem Tryz.sizeTg : (Tryz.prog.info? 42).map (·.size) = some 5 := by kernel_rfl
def TC (a b c d e : Int) : Array Value := #[.int .i64 a, .int .i64 b, .int .i64 c, .int .i64 d, .int .i64 e]
theorem TC_one (a b c d e : Int) : (TC a b c d e).all (·.oneCell') = true := by
  rw [Array.all_eq_true_iff_forall_mem]
  intro v hv
  simp only [TC, List.mem_toArray, List.mem_cons, List.not_mem_nil, or_false] at hv
  rcases hv with rfl | rfl | rfl | rfl | rfl <;> rfl
structure Tg where
  a : Int
  b : Int
  c : Int
  d : Int
  v : Int
  e : Int
def Tg.V (t : Tg) : Value := .tuple #[.agg (TC t.a t.b t.c t.d t.v), .int .i64 t.e]
/-- A target and an error. -/
def TgP (t : Tg) (w : World) (e : Ending) (w' : World) : Prop := e = .returned t.V ∧ Below w.heap.size w w'
def resV (rs : List Rt) (q : Qr) : Tg :=
  if validE q = 0 then
    (if (endV rs q.fr q.fi).2.2 && (endV rs q.tr q.ti).2.2 && (endV rs q.via []).2.2 then ⟨(endV rs q.fr q.fi).1, (endV rs q.fr q.fi).2.1, (endV rs q.tr q.ti).1, (endV rs q.tr q.ti).2.1, (endV rs q.via []).1, 0⟩ else ⟨0, 0, 0, 0, 0, 5⟩)
  else ⟨0, 0, 0, 0, 0, validE q⟩
/-- Along the walks of Resolve: the network's block, the query's, the result's. -/
structure RVq (v : Value) (q : Qr) (w0 w : World) : Prop where
  h : HasC 24 w0.heap.size #[v] w
  q : HasQ (w0.heap.size + 1) q w
  t : HasC 42 (w0.heap.size + 1 + 1) (TC 0 0 0 0 0) w
  b : Below w0.heap.size w0 w
theorem RVq.keep {v : Value} {q : Qr} {w0 w w' : World} (h : RVq v q w0 w) (hb : Below w.heap.size w w') : RVq v q w0 w' := ⟨h.h.keep hb, h.q.below hb (blk_lt h.q), h.t.keep hb, h.b.trans (hb.mono h.b.size)⟩
theorem RVq.start (v : Value) (q : Qr) (w : World) : RVq v q w (((w.alloc (.cells #[v] 24)).alloc (.cells (QC q) 33)).alloc (.cells (TC 0 0 0 0 0) 42)) := by
  have a1 := Below.refl w.heap.size w
  have a2 := a1.alloc (Nat.le_refl _) (.cells #[v] 24)
  have a3 := a2.alloc (by simp) (.cells (QC q) 33)
  have z := HasC.new (w.alloc (.cells #[v] 24)) 33 (QC q)
  have o := HasC.new ((w.alloc (.cells #[v] 24)).alloc (.cells (QC q) 33)) 42 (TC 0 0 0 0 0)
  rw [show (w.alloc (.cells #[v] 24)).heap.size = w.heap.size + 1 from by simp] at z
  rw [show ((w.alloc (.cells #[v] 24)).alloc (.cells (QC q) 33)).heap.size = w.heap.size + 1 + 1 from by simp] at o
  exact ⟨((HasC.new w _ _).keep ((Below.refl _ _).alloc (Nat.le_refl _) _)).keep ((Below.refl _ _).alloc (Nat.le_refl _) _), z.keep ((Below.refl _ _).alloc (Nat.le_refl _) _), o, a3.alloc (by simp; omega) _⟩
set_option maxRecDepth 100000 in
set_option maxHeartbeats 4000000 in
theorem resolve_any (rs : List Rt) (v : Value) (q : Qr) (w : World) (B : Nat) (h : NetAt w B v rs) (hB : B ≤ w.heap.size) (hq : q.fit) : Calls Tryz.prog 8 #[.agg #[v], QV q] w (TgP (resV rs q) w) := by
  have H0 := Lib.hid (RVq.start v q w)
  have HN := Lib.hid h
  have HBB := Lib.hid hB
  have PV := Lib.hid (fun w' => qvalid_any q w' hq)
  clear h hB hq
  obtain ⟨res, hres⟩ : ∃ res, resV rs q = res := ⟨_, rfl⟩
  rw [hres]
  have E := Lib.hid hres.symm
  unfold resV at E
  clear hres
  rw [QV_eq]
  go_enter Tryz.func8, Tryz.ntmps8
  go_upto_region 1 with fail
  generalize hwy : ((w.alloc (.cells #[v] 24)).alloc (.cells (QC q) 33)).alloc (.cells (TC 0 0 0 0 0) 42) = wy at H0
  show Code.wp _ _ _ _ (((w.alloc (.cells #[v] 24)).alloc (.cells (QC q) 33)).alloc (.cells (TC 0 0 0 0 0) 42))
  rw [hwy]
  clear hwy
  go_wp2_with (first | (refine wpList_loadQ rfl _ rfl rfl H0.out.q ?_))
  refine (PV.out _).mono ?_
  rintro e w1 ⟨rfl, hb⟩
  have H1 := Lib.hid (H0.out.keep hb)
  clear hb H0 PV
  by_cases hv : validE q = 0
  case neg =>
    have E1 := Lib.hid (E.out.trans (if_neg hv))
    generalize validE q = ve at *
    have dn : (ve != 0) = true := by simpa using hv
    clear hv E
    go_wp2_with (first | (refine wpList_storeRow rfl 42 _ _ rfl rfl rfl H1.out.t rfl Tryz.sizeTg (TC_one _ _ _ _ _) ?_; intro wz hz1 hz2))
    refine bodyPost_ret (results_cell2 rfl rfl rfl (hz1.load Tryz.rowTg Tryz.sizeTg)) rfl ?_
    exact ⟨by rw [E1.out]; rfl, H1.out.b.trans (below_of_grown hz2 (by omega) H1.out.b.size)⟩
  replace E := Lib.hid (E.out.trans (if_pos hv))
  rw [hv]
  clear hv
  obtain ⟨x1, hx1⟩ : ∃ x, endV rs q.fr q.fi = x := ⟨_, rfl⟩
  have P1 := Lib.hid (end_any rs v q.fr q.fi w1 B (HN.out.below (H1.out.b.mono HBB.out)) (Nat.le_trans HBB.out H1.out.b.size))
  rw [hx1] at P1 E
  clear hx1
  obtain ⟨a1, b1, k1⟩ := x1
  dsimp only at P1 E
  have f1 : w1.cell? ⟨w.heap.size + 1, 1, none⟩ = some (.string (str q.fr)) := H1.out.q.cell 1
  have f2 : w1.cell? ⟨w.heap.size + 1, 2, none⟩ = some (.string (str q.fi)) := H1.out.q.cell 2
  go_wp2_with (first | (refine wpList_loadRow rfl 24 _ rfl rfl H1.out.h.range Tryz.rowNw Tryz.sizeNw ?_))
  refine P1.out.mono ?_
  rintro e wa ⟨rfl, hb⟩
  have HA := Lib.hid (H1.out.keep hb)
  clear hb P1 H1  f1 f2
  go_upto_region 5 with (first | (refine wpList_storeRow rfl 40 _ _ rfl rfl rfl (HasC.new wa _ _) rfl Tryz.sizeEn (EC_one _ _) ?_; intro w2 hz1 hz2))
  have H2 := Lib.hid (HA.out.keep (new_below hz2))
  have G1 := hz1
  clear hz1 hz2 HA 
  generalize wa.heap.size = g1 at G1 ⊢
  replace G1 := Lib.hid G1
  obtain ⟨x2, hx2⟩ : ∃ x, endV rs q.tr q.ti = x := ⟨_, rfl⟩
  have P2 := Lib.hid (end_any rs v q.tr q.ti w2 B (HN.out.below (H2.out.b.mono HBB.out)) (Nat.le_trans HBB.out H2.out.b.size))
  rw [hx2] at P2 E
  clear hx2
  obtain ⟨a2, b2, k2⟩ := x2
  dsimp only at P2 E
  have f3 : w2.cell? ⟨w.heap.size + 1, 3, none⟩ = some (.string (str q.tr)) := H2.out.q.cell 3
  have f4 : w2.cell? ⟨w.heap.size + 1, 4, none⟩ = some (.string (str q.ti)) := H2.out.q.cell 4
  go_wp2_with (first | (refine wpList_loadRow rfl 24 _ rfl rfl H2.out.h.range Tryz.rowNw Tryz.sizeNw ?_))
  refine P2.out.mono ?_
  rintro e wa ⟨rfl, hb⟩
  have HA := Lib.hid (H2.out.keep hb)
  have GA1 := Lib.hid (G1.out.keep hb)
  clear hb P2 H2 G1 f3 f4
  go_upto_region 6 with (first | (refine wpList_storeRow rfl 40 _ _ rfl rfl rfl (HasC.new wa _ _) rfl Tryz.sizeEn (EC_one _ _) ?_; intro w3 hz1 hz2))
  have H3 := Lib.hid (HA.out.keep (new_below hz2))
  have G2 := hz1
  have G1 := Lib.hid (GA1.out.keep (new_below hz2))
  clear hz1 hz2 HA GA1
  generalize wa.heap.size = g2 at G2 ⊢
  replace G2 := Lib.hid G2
  obtain ⟨x3, hx3⟩ : ∃ x, endV rs q.via [] = x := ⟨_, rfl⟩
  have P3 := Lib.hid (end_any rs v q.via [] w3 B (HN.out.below (H3.out.b.mono HBB.out)) (Nat.le_trans HBB.out H3.out.b.size))
  rw [hx3] at P3 E
  clear hx3
  obtain ⟨a3, b3, k3⟩ := x3
  dsimp only at P3 E
  have f5 : w3.cell? ⟨w.heap.size + 1, 5, none⟩ = some (.string (str q.via)) := H3.out.q.cell 5
  go_wp2_with (first | (refine wpList_loadRow rfl 24 _ rfl rfl H3.out.h.range Tryz.rowNw Tryz.sizeNw ?_))
  refine P3.out.mono ?_
  rintro e wa ⟨rfl, hb⟩
  have HA := Lib.hid (H3.out.keep hb)
  have GA1 := Lib.hid (G1.out.keep hb)
  have GA2 := Lib.hid (G2.out.keep hb)
  clear hb P3 H3 G1 G2 f5
  go_upto_region 7 with (first | (refine wpList_storeRow rfl 40 _ _ rfl rfl rfl (HasC.new wa _ _) rfl Tryz.sizeEn (EC_one _ _) ?_; intro w4 hz1 hz2))
  have H4 := Lib.hid (HA.out.keep (new_below hz2))
  have G3 := hz1
  have G1 := Lib.hid (GA1.out.keep (new_below hz2))
  have G2 := Lib.hid (GA2.out.keep (new_below hz2))
  clear hz1 hz2 HA GA1 GA2
  generalize wa.heap.size = g3 at G3 ⊢
  replace G3 := Lib.hid G3
  cases k1 with
  | false =>
    have E1 : Hid (res = ⟨0, 0, 0, 0, 0, 5⟩) := Lib.hid E.out
    go_wp2_with (first | (refine wpList_storeRow rfl 42 _ _ rfl rfl rfl H4.out.t rfl Tryz.sizeTg (TC_one _ _ _ _ _) ?_; intro wz hz1 hz2))
    refine bodyPost_ret (results_cell2 rfl rfl rfl (hz1.load Tryz.rowTg Tryz.sizeTg)) rfl ?_
    exact ⟨by rw [E1.out]; rfl, H4.out.b.trans (below_of_grown hz2 (by omega) H4.out.b.size)⟩
  | true =>
  cases k2 with
  | false =>
    have E1 : Hid (res = ⟨0, 0, 0, 0, 0, 5⟩) := Lib.hid E.out
    go_wp2_with (first | (refine wpList_storeRow rfl 42 _ _ rfl rfl rfl H4.out.t rfl Tryz.sizeTg (TC_one _ _ _ _ _) ?_; intro wz hz1 hz2))
    refine bodyPost_ret (results_cell2 rfl rfl rfl (hz1.load Tryz.rowTg Tryz.sizeTg)) rfl ?_
    exact ⟨by rw [E1.out]; rfl, H4.out.b.trans (below_of_grown hz2 (by omega) H4.out.b.size)⟩
  | true =>
  cases k3 with
  | false =>
    have E1 : Hid (res = ⟨0, 0, 0, 0, 0, 5⟩) := Lib.hid E.out
    go_wp2_with (first | (refine wpList_storeRow rfl 42 _ _ rfl rfl rfl H4.out.t rfl Tryz.sizeTg (TC_one _ _ _ _ _) ?_; intro wz hz1 hz2))
    refine bodyPost_ret (results_cell2 rfl rfl rfl (hz1.load Tryz.rowTg Tryz.sizeTg)) rfl ?_
    exact ⟨by rw [E1.out]; rfl, H4.out.b.trans (below_of_grown hz2 (by omega) H4.out.b.size)⟩
  | true =>
  have E1 : Hid (res = ⟨a1, b1, a2, b2, a3, 0⟩) := Lib.hid E.out
  have v3 : w4.cell? ⟨g3, 0, none⟩ = some (.int .i64 a3) := G3.out.cell 0
  go_wp2_with (first | (refine wpList_loadRow (cs := #[.int .i64 a1, .int .i64 b1]) rfl 40 _ rfl rfl G1.out.range Tryz.rowEn Tryz.sizeEn ?_) | (refine wpList_loadRow (cs := #[.int .i64 a2, .int .i64 b2]) rfl 40 _ rfl rfl G2.out.range Tryz.rowEn Tryz.sizeEn ?_) | (refine wpList_storeRow rfl 42 _ _ rfl rfl rfl H4.out.t rfl Tryz.sizeTg (TC_one _ _ _ _ _) ?_; intro wz hz1 hz2))
  refine bodyPost_ret (results_cell2 rfl rfl rfl (hz1.load Tryz.rowTg Tryz.sizeTg)) rfl ?_
  exact ⟨by rw [E1.out]; rfl, H4.out.b.trans (below_of_grown hz2 (by omega) H4.out.b.size)⟩
end Go.Proofs.YtnhemjdmleilcaaGreatDoor
