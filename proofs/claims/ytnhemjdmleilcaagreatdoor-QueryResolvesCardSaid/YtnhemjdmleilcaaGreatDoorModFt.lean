/- The walk of Fit. Condition: the routers lie in memory. -/
import Derived.Test.YtnhemjdmleilcaaGreatDoorModZ
import Derived.Deep.DeepCutAuto
import Derived.Deep.CutBlock
namespace Go.Proofs.YtnhemjdmleilcaaGreatDoor
open Go.RowKit

theorem pick6_any (x : Int) (w : World) : Calls Tryz.prog 14 #[.int .i64 x, .int .i64 6] w fun e w' => ∃ n : Nat, n ≤ 5 ∧ e = .returned (.int .i64 (n : Int)) ∧ w = w' := by
  go_enter Tryz.func14, Tryz.ntmps14
  go_wp2_with fail
  go_ret
  have h0 : 0 ≤ IntKind.u64.wrap x := by simp [IntKind.wrap, IntKind.signed, IntKind.bits]; omega
  have h1 : (IntKind.u64.wrap x).tmod 6 = IntKind.u64.wrap x % 6 := Int.tmod_eq_emod_of_nonneg h0
  have h2 : wrap64 (IntKind.u64.wrap x % 6) = IntKind.u64.wrap x % 6 := by
    simp only [wrap64]
    omega
  refine ⟨(IntKind.u64.wrap x % 6).toNat, by omega, ?_, rfl⟩
  rw [Int.toNat_of_nonneg (by omega), ← h2, ← h1]
  rfl
/-- A query. -/
def FitP (w : World) (e : Ending) (w' : World) : Prop := (∃ q : Qr, q.fit ∧ e = .returned (QV q)) ∧ Below w.heap.size w w'
/-- Along the walk of Fit: the network's block, the query's, the result's. -/
structure RF (v : Value) (q : Qr) (w0 w : World) : Prop where
  h : HasC 24 w0.heap.size #[v] w
  q : HasQ (w0.heap.size + 1) q w
  z : HasQ (w0.heap.size + 1 + 1) Qr.zero w
  b : Below w0.heap.size w0 w
theorem RF.keep {v : Value} {q : Qr} {w0 w w' : World} (h : RF v q w0 w) (hb : Below w.heap.size w w') : RF v q w0 w' := ⟨h.h.keep hb, h.q.below hb (blk_lt h.q), h.z.below hb (blk_lt h.z), h.b.trans (hb.mono h.b.size)⟩
theorem RF.put {v : Value} {q q' : Qr} {w0 w : World} {j : Nat} (h : RF v q w0 w) (x : Value) (e : (QC q).setIfInBounds j x = QC q') : RF v q' w0 (w.setCell ⟨w0.heap.size + 1, j, none⟩ x) :=
  ⟨h.h.grown (grown_set w _ j x) (by simp), h.q.put x e, h.z.other x (by simp), h.b.trans (below_of_grown (grown_set w _ j x) (Nat.le_succ _) h.b.size)⟩
theorem RF.start (v : Value) (q : Qr) (w : World) : RF v q w (((w.alloc (.cells #[v] 24)).alloc (.cells (QC q) 33)).alloc (.cells (QC Qr.zero) 33)) := by
  have a1 := Below.refl w.heap.size w
  have a2 := a1.alloc (Nat.le_refl _) (.cells #[v] 24)
  have a3 := a2.alloc (by simp) (.cells (QC q) 33)
  have z : HasQ _ q _ := heap_alloc_new (w.alloc (.cells #[v] 24)) (.cells (QC q) 33)
  have o : HasQ _ Qr.zero _ := heap_alloc_new ((w.alloc (.cells #[v] 24)).alloc (.cells (QC q) 33)) (.cells (QC Qr.zero) 33)
  rw [show (w.alloc (.cells #[v] 24)).heap.size = w.heap.size + 1 from by simp] at z
  rw [show ((w.alloc (.cells #[v] 24)).alloc (.cells (QC q) 33)).heap.size = w.heap.size + 1 + 1 from by simp] at o
  exact ⟨((HasC.new w _ _).keep ((Below.refl _ _).alloc (Nat.le_refl _) _)).keep ((Below.refl _ _).alloc (Nat.le_refl _) _), z.below ((Below.refl _ _).alloc (Nat.le_refl _) _) (by simp), o, a3.alloc (by simp; omega) _⟩
set_option maxRecDepth 100000 in
set_option maxHeartbeats 8000000 in
theorem fit_any (rs : List Rt) (v : Value) (q : Qr) (from_ to_ via_ : Int) (w : World) (B : Nat) (h : NetAt w B v rs) (hB : B ≤ w.heap.size) (hq : q.fit) (hf : from_ < 9223372036854775808) (ht : to_ < 9223372036854775808) (hv : via_ < 9223372036854775808) (hsm : ∀ r ∈ rs, r.ifs.length ≤ 8) :
    Calls Tryz.prog 7 #[.agg #[v], QV q, .int .i64 from_, .int .i64 to_, .int .i64 via_] w (FitP w) := by
  have H0 := Lib.hid (RF.start v q w)
  have HN := Lib.hid h
  have HBB := Lib.hid hB
  have HQ := Lib.hid hq
  obtain ⟨A, c, hv2, hle, -⟩ := h.h
  have HL : Hid (∀ q' w', RF v q' w w' → w'.cell? ⟨w.heap.size, 0, none⟩ = some (.slice A rs.length c)) := Lib.hid (fun q' w' h => by rw [← hv2]; exact h.h.cell 0)
  have PN : Hid (0 < rs.length → ∀ (kn : Int), 0 ≤ kn → kn < 9223372036854775808 → ∀ q' w', RF v q' w w' → Calls Tryz.prog 15 #[.agg #[v], .int .i64 kn] w' (TwoP w')) := Lib.hid (fun hne kn h0 h1 q' w' h => by
    obtain ⟨k, rfl⟩ : ∃ k : Nat, kn = (k : Int) := ⟨kn.toNat, (Int.toNat_of_nonneg h0).symm⟩
    exact named_any rs v k w' B (HN.out.below (h.b.mono HBB.out)) (Nat.le_trans HBB.out h.b.size) (by omega) hne hsm)
  clear h hB hq hv2 hsm
  rw [QV_eq]
  go_enter Tryz.func7, Tryz.ntmps7
  go_upto_region 1 with fail
  generalize hwy : ((w.alloc (.cells #[v] 24)).alloc (.cells (QC q) 33)).alloc (.cells (QC Qr.zero) 33) = wy at H0
  show Code.wp _ _ _ _ (((w.alloc (.cells #[v] 24)).alloc (.cells (QC q) 33)).alloc (.cells (QC Qr.zero) 33))
  rw [hwy]
  clear hwy
  have c0 := HL.out _ _ H0.out
  by_cases hz : rs.length = 0
  · rw [hz] at c0
    go_wp2_with (first | (refine wpList_loadQ rfl _ rfl rfl H0.out.q ?_) | (refine wpList_storeQ rfl _ _ rfl rfl rfl H0.out.z ?_; intro wz hz1 hz2))
    refine bodyPost_ret (results_cell rfl rfl hz1.load) rfl ?_
    exact ⟨⟨q, HQ.out, rfl⟩, H0.out.b.trans (below_of_grown hz2 (by omega) H0.out.b.size)⟩
  have hne : 0 < rs.length := by omega
  replace PN := Lib.hid (PN.out hne)
  have dz : ((rs.length : Int) == 0) = false := by rw [beq_eq_false_iff_ne]; omega
  go_upto_region 3 with fail
  clear c0 dz
  have k0 : wy.cell? ⟨w.heap.size + 1, 0, none⟩ = some (.int .i64 q.kind) := H0.out.q.cell 0
  have kf := H0.out.q.frz 0
  go_cut [23] (fun cx wx => (∃ b : Bool, cx = .bool b) ∧ wx = wy)
  case first =>
    by_cases h1 : q.kind < 1
    · have d1 := decide_eq_true h1
      go_wp2_with fail
      go_meet
      exact ⟨⟨_, rfl⟩, rfl⟩
    have d1 := decide_eq_false h1
    by_cases h6 : 6 < q.kind
    · have d6 := decide_eq_true h6
      go_wp2_with fail
      go_meet
      exact ⟨⟨_, rfl⟩, rfl⟩
    have d6 := decide_eq_false h6
    go_wp2_with fail
    go_meet
    exact ⟨⟨_, rfl⟩, rfl⟩
  case rest =>
  obtain ⟨⟨b, rfl⟩, rfl⟩ := hcut
  go_upto_if 23 with fail
  go_cut [] (fun wx => ∃ q' : Qr, q'.fit ∧ RF v q' w wx)
  case first =>
    cases b with
    | false =>
      go_wp2_with fail
      go_meet
      exact ⟨q, HQ.out, H0.out⟩
    | true =>
      go_wp2_with fail
      refine (pick6_any q.kind _).mono ?_
      rintro e wa ⟨n, hn, rfl, rfl⟩
      have h1n : (1 : Int) + n ≤ 10 := by omega
      go_wp2_with fail
      go_meet
      exact ⟨{ q with kind := 1 + n }, HQ.out, H0.out.put (q' := { q with kind := 1 + n }) (.int .i64 (1 + n)) rfl⟩
  case rest =>
  obtain ⟨q1, hq1, H1⟩ := hcut
  clear k0 kf H0 HQ
  have HQ1 := Lib.hid hq1
  replace H1 := Lib.hid H1
  clear hq1
  go_upto_if 30 with fail
  go_cut [] (fun wx => ∃ q' : Qr, q'.fit ∧ RF v q' w wx)
  case first =>
    by_cases hf0 : 0 ≤ from_
    case neg =>
      have df := decide_eq_false hf0
      go_wp2_with fail
      go_meet
      exact ⟨q1, HQ1.out, H1.out⟩
    have df := decide_eq_true hf0
    go_wp2_with (first | (refine wpList_loadRow rfl 24 _ rfl rfl H1.out.h.range Tryz.rowNw Tryz.sizeNw ?_))
    refine (PN.out from_ (by omega) (by omega) _ _ H1.out).mono ?_
    rintro e wa ⟨⟨a, b, rfl⟩, hb⟩
    have HA := Lib.hid (H1.out.keep hb)
    clear hb
    have s1 : wa.cell? ⟨w.heap.size + 1, 1, none⟩ = some (.string (str q1.fr)) := HA.out.q.cell 1
    have z1 := HA.out.q.frz 1
    have s2 : wa.cell? ⟨w.heap.size + 1, 2, none⟩ = some (.string (str q1.fi)) := HA.out.q.cell 2
    have z2 := HA.out.q.frz 2
    go_wp2_with fail
    go_meet
    exact ⟨{ q1 with fr := a, fi := b }, HQ1.out, (HA.out.put (q' := { q1 with fr := a }) (.string (str a)) rfl).put (q' := { q1 with fr := a, fi := b }) (.string (str b)) rfl⟩
  case rest =>
  obtain ⟨q2, hq2, H2⟩ := hcut
  clear H1 HQ1
  have HQ2 := Lib.hid hq2
  replace H2 := Lib.hid H2
  clear hq2
  have k0 : wc.cell? ⟨w.heap.size + 1, 0, none⟩ = some (.int .i64 q2.kind) := H2.out.q.cell 0
  go_upto_if 41 with fail
  go_cut [] (fun wx => ∃ q' : Qr, q'.fit ∧ RF v q' w wx)
  case first =>
    by_cases hk : 3 < q2.kind
    · have dk := decide_eq_true hk
      have s3 : wc.cell? ⟨w.heap.size + 1, 3, none⟩ = some (.string (str q2.tr)) := H2.out.q.cell 3
      have z3 := H2.out.q.frz 3
      have s4 : wc.cell? ⟨w.heap.size + 1, 4, none⟩ = some (.string (str q2.ti)) := H2.out.q.cell 4
      have z4 := H2.out.q.frz 4
      go_wp2_with fail
      go_meet
      exact ⟨{ q2 with tr := [], ti := [] }, HQ2.out, (H2.out.put (q' := { q2 with tr := [] }) (.string ⟨#[]⟩) rfl).put (q' := { q2 with tr := [], ti := [] }) (.string ⟨#[]⟩) rfl⟩
    have dk := decide_eq_false hk
    by_cases hf0 : 0 ≤ to_
    case neg =>
      have df := decide_eq_false hf0
      go_wp2_with fail
      go_meet
      exact ⟨q2, HQ2.out, H2.out⟩
    have df := decide_eq_true hf0
    go_wp2_with (first | (refine wpList_loadRow rfl 24 _ rfl rfl H2.out.h.range Tryz.rowNw Tryz.sizeNw ?_))
    refine (PN.out to_ (by omega) (by omega) _ _ H2.out).mono ?_
    rintro e wa ⟨⟨a, b, rfl⟩, hb⟩
    have HA := Lib.hid (H2.out.keep hb)
    clear hb
    have s3 : wa.cell? ⟨w.heap.size + 1, 3, none⟩ = some (.string (str q2.tr)) := HA.out.q.cell 3
    have z3 := HA.out.q.frz 3
    have s4 : wa.cell? ⟨w.heap.size + 1, 4, none⟩ = some (.string (str q2.ti)) := HA.out.q.cell 4
    have z4 := HA.out.q.frz 4
    go_wp2_with fail
    go_meet
    exact ⟨{ q2 with tr := a, ti := b }, HQ2.out, (HA.out.put (q' := { q2 with tr := a }) (.string (str a)) rfl).put (q' := { q2 with tr := a, ti := b }) (.string (str b)) rfl⟩
  case rest =>
  obtain ⟨q3, hq3, H3⟩ := hcut
  clear H2 HQ2 k0
  have HQ3 := Lib.hid hq3
  replace H3 := Lib.hid H3
  clear hq3
  have k0 : wc.cell? ⟨w.heap.size + 1, 0, none⟩ = some (.int .i64 q3.kind) := H3.out.q.cell 0
  go_upto_if 56 with fail
  go_cut [] (fun wx => ∃ q' : Qr, q'.fit ∧ RF v q' w wx)
  case first =>
    by_cases hk : q3.kind = 3
    case neg =>
      have dk : (q3.kind != 3) = true := by simpa using hk
      have s5 : wc.cell? ⟨w.heap.size + 1, 5, none⟩ = some (.string (str q3.via)) := H3.out.q.cell 5
      have z5 := H3.out.q.frz 5
      go_wp2_with fail
      go_meet
      exact ⟨{ q3 with via := [] }, HQ3.out, H3.out.put (q' := { q3 with via := [] }) (.string ⟨#[]⟩) rfl⟩
    rw [hk] at k0
    by_cases hf0 : 0 ≤ via_
    case neg =>
      have df := decide_eq_false hf0
      go_wp2_with fail
      go_meet
      exact ⟨q3, HQ3.out, H3.out⟩
    have df := decide_eq_true hf0
    go_wp2_with (first | (refine wpList_loadRow rfl 24 _ rfl rfl H3.out.h.range Tryz.rowNw Tryz.sizeNw ?_))
    refine (PN.out via_ (by omega) (by omega) _ _ H3.out).mono ?_
    rintro e wa ⟨⟨a, b, rfl⟩, hb⟩
    have HA := Lib.hid (H3.out.keep hb)
    clear hb
    have s5 : wa.cell? ⟨w.heap.size + 1, 5, none⟩ = some (.string (str q3.via)) := HA.out.q.cell 5
    have z5 := HA.out.q.frz 5
    go_wp2_with fail
    go_meet
    exact ⟨{ q3 with via := a }, HQ3.out, HA.out.put (q' := { q3 with via := a }) (.string (str a)) rfl⟩
  case rest =>
  obtain ⟨q4, hq4, H4⟩ := hcut
  clear H3 HQ3 k0
  have HQ4 := Lib.hid hq4
  replace H4 := Lib.hid H4
  clear hq4
  have k0 : wc.cell? ⟨w.heap.size + 1, 0, none⟩ = some (.int .i64 q4.kind) := H4.out.q.cell 0
  go_upto_if 69 with fail
  go_cut [] (fun wx => ∃ q' : Qr, q'.fit ∧ RF v q' w wx)
  case first =>
    by_cases hk : q4.kind = 6
    · rw [hk] at k0
      go_wp2_with fail
      go_meet
      exact ⟨q4, HQ4.out, H4.out⟩
    have dk : (q4.kind != 6) = true := by simpa using hk
    have s6 : wc.cell? ⟨w.heap.size + 1, 6, none⟩ = some (.int .u32 (q4.la : Int)) := H4.out.q.cell 6
    have s7 : wc.cell? ⟨w.heap.size + 1, 7, none⟩ = some (.int .i64 q4.ll) := H4.out.q.cell 7
    have s8 : wc.cell? ⟨w.heap.size + 1, 8, none⟩ = some (.int .u32 (q4.ra : Int)) := H4.out.q.cell 8
    have s9 : wc.cell? ⟨w.heap.size + 1, 9, none⟩ = some (.int .i64 q4.rl) := H4.out.q.cell 9
    have z6 := H4.out.q.frz 6
    have z7 := H4.out.q.frz 7
    have z8 := H4.out.q.frz 8
    have z9 := H4.out.q.frz 9
    go_wp2_with fail
    go_meet
    exact ⟨{ q4 with la := 0, ll := 0, ra := 0, rl := 0 }, ⟨(by show 0 < 4294967296; decide), (by show 0 < 4294967296; decide), HQ4.out.2.2.1, HQ4.out.2.2.2⟩, (((H4.out.put (q' := { q4 with la := 0 }) (.int .u32 0) rfl).put (q' := { q4 with la := 0, ll := 0 }) (.int .i64 0) rfl).put (q' := { q4 with la := 0, ll := 0, ra := 0 }) (.int .u32 0) rfl).put (q' := { q4 with la := 0, ll := 0, ra := 0, rl := 0 }) (.int .i64 0) rfl⟩
  case rest =>
  obtain ⟨q5, hq5, H5⟩ := hcut
  clear H4 HQ4 k0
  replace H5 := Lib.hid H5
  go_wp2_with (first | (refine wpList_loadQ rfl _ rfl rfl H5.out.q ?_) | (refine wpList_storeQ rfl _ _ rfl rfl rfl H5.out.z ?_; intro wz hz1 hz2))
  refine bodyPost_ret (results_cell rfl rfl hz1.load) rfl ?_
  exact ⟨⟨q5, hq5, rfl⟩, H5.out.b.trans (below_of_grown hz2 (by omega) H5.out.b.size)⟩
end Go.Proofs.YtnhemjdmleilcaaGreatDoor
