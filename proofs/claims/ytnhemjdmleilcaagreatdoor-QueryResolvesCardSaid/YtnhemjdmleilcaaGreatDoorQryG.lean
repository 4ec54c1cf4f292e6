/- The walk of the parser's method query . -/
import Derived.Test.YtnhemjdmleilcaaGreatDoorMQry
import Derived.Deep.DeepCutAuto
import Derived.Deep.CutBlock
namespace Go.Proofs.YtnhemjdmleilcaaGreatDoor
open Go.RowKit

set_option maxRecDepth 100000 in
set_option maxHeartbeats 4000000 in
theorem query_any (b G B : Nat) (p : Ps) (w : World) (h : PSt 86 b G p w) (he : EnvB B w) (hB : B ≤ b) (hs : p.short) :
    Calls Tryz.prog 24 #[.pointer (some ⟨b, 0, none⟩)] w (PPost 86 b G (QV (queryOf p).1) (queryOf p).2 w) := by
  have M0 := Lib.hid (Mid.start h he hB hs)
  clear h he hs
  go_enter Tryz.func24, Tryz.ntmps24
  go_wp2_with fail
  refine (pkind_any b G B p _ M0.out.p M0.out.e hB).mono ?_
  rintro e w1 ⟨rfl, g1, k1⟩
  have M1 := Lib.hid (M0.out.call g1 k1 (short_kind M0.out.s))
  clear g1 k1
  have c0 : w1.cell? ⟨w.heap.size + 1, 0, none⟩ = some (.int .i64 0) := M1.out.q.cell 0
  have f0 := M1.out.q.frz 0
  go_wp2_with fail
  have M2 := Lib.hid (M1.out.put (j := 0) (q' := { Qr.zero with kind := kindOf (nxtV p) }) (.int .i64 (kindOf (nxtV p))) rfl)
  clear c0 f0
  refine (pplace_any b G _ ⟨#[102, 114, 111, 109]⟩ _ M2.out.p).mono ?_
  rintro e w2 ⟨rfl, g2, k2⟩
  have M3 := Lib.hid (M2.out.call g2 k2 (short_plc (short_exp _ M2.out.s)))
  clear g2 k2
  have c1 : w2.cell? ⟨w.heap.size + 1, 1, none⟩ = some (.string ⟨#[]⟩) := M3.out.q.cell 1
  have c2 : w2.cell? ⟨w.heap.size + 1, 2, none⟩ = some (.string ⟨#[]⟩) := M3.out.q.cell 2
  have f1 := M3.out.q.frz 1
  have f2 := M3.out.q.frz 2
  have M4 : Hid (Mid 86 b G B w (stFrom (stKind p)) ((w2.setCell ⟨w.heap.size + 1, 1, none⟩ (strV (plcR (expS wFrom (stKind p).2)))).setCell ⟨w.heap.size + 1, 2, none⟩ (strV (plcI (expS wFrom (stKind p).2))))) :=
    Lib.hid ((M3.out.put (j := 1) (q' := { Qr.zero with kind := kindOf (nxtV p), fr := plcR (expS wFrom (stKind p).2) }) _ rfl).put (j := 2) (q' := (stFrom (stKind p)).1) _ rfl)
  unfold strV at M4
  have k0 : w2.cell? ⟨w.heap.size + 1, 0, none⟩ = some (.int .i64 (kindOf (nxtV p))) := M3.out.q.cell 0
  unfold strV
  go_wp2_with fail
  refine (aimed_any _ _).mono ?_
  rintro e w3 ⟨rfl, rfl⟩
  go_upto_if 16 with fail
  go_cut [] (fun wx => Mid 86 b G B w (stTo (stFrom (stKind p))) wx)
  case first =>
    cases ha : aimedB (kindOf (nxtV p)) with
    | true =>
      go_wp2_with fail
      refine (pplace_any b G _ ⟨#[116, 111]⟩ _ M4.out.p).mono ?_
      rintro e w4 ⟨rfl, g4, k4⟩
      have M5 := Lib.hid (M4.out.call g4 k4 (short_plc (short_exp _ M4.out.s)))
      clear g4 k4
      have c3 : w4.cell? ⟨w.heap.size + 1, 3, none⟩ = some (.string ⟨#[]⟩) := M5.out.q.cell 3
      have c4 : w4.cell? ⟨w.heap.size + 1, 4, none⟩ = some (.string ⟨#[]⟩) := M5.out.q.cell 4
      have f3 := M5.out.q.frz 3
      have f4 := M5.out.q.frz 4
      unfold strV
      go_wp2_with fail
      go_meet
      have e : stTo (stFrom (stKind p)) = ({ (stFrom (stKind p)).1 with tr := plcR (expS wTo (stFrom (stKind p)).2), ti := plcI (expS wTo (stFrom (stKind p)).2) }, plcS (expS wTo (stFrom (stKind p)).2)) := if_pos ha
      rw [e]
      exact (M5.out.put (j := 3) (q' := { (stFrom (stKind p)).1 with tr := plcR (expS wTo (stFrom (stKind p)).2) }) _ rfl).put (j := 4) _ rfl
    | false =>
      go_wp2_with fail
      go_meet
      have e : stTo (stFrom (stKind p)) = stFrom (stKind p) := if_neg (by show ¬ aimedB (kindOf (nxtV p)) = true; rw [ha]; simp)
      rw [e]
      exact M4.out
  case rest =>
  clear M0 M1 M2 M3 M4 c1 c2 f1 f2 k0
  generalize hx : stTo (stFrom (stKind p)) = x at hcut
  have MX := Lib.hid hcut
  clear hcut
  have k0 : wc.cell? ⟨w.heap.size + 1, 0, none⟩ = some (.int .i64 x.1.kind) := MX.out.q.cell 0
  go_upto_block 0 with fail
  go_cut [] (fun wx => Mid 86 b G B w (stEq (stVia x)) wx)
  case first =>
    by_cases h3 : x.1.kind = 3
    · have e1 : stVia x = ({ x.1 with via := nxtV (expS wVia x.2) }, nxtS (expS wVia x.2)) := if_pos h3
      have e2 : stEq (stVia x) = stVia x := if_neg (by rw [e1]; show ¬ x.1.kind = 6; omega)
      have E := Lib.hid (e2.trans e1)
      have d3 : (x.1.kind == 3) = true := by simpa using h3
      clear e1 e2 h3
      go_wp2_with fail
      refine (expect_any b G _ ⟨#[118, 105, 97]⟩ _ MX.out.p).mono ?_
      rintro e w1 ⟨rfl, g1, k1⟩
      have M1 := Lib.hid (MX.out.call g1 k1 (short_exp _ MX.out.s))
      clear g1 k1
      go_wp2_with fail
      refine (next_any b G _ _ M1.out.p).mono ?_
      rintro e w2 ⟨rfl, g2, k2⟩
      have M2 := Lib.hid (M1.out.call g2 k2 (short_nxt M1.out.s))
      clear g2 k2
      have c5 : w2.cell? ⟨w.heap.size + 1, 5, none⟩ = some (.string (str x.1.via)) := M2.out.q.cell 5
      have f5 := M2.out.q.frz 5
      unfold strV
      go_wp2_with fail
      go_meet
      rw [E.out]
      exact M2.out.put (j := 5) _ rfl
    · have e1 : stVia x = x := if_neg h3
      have d3 : (x.1.kind == 3) = false := by simpa using h3
      by_cases h6 : x.1.kind = 6
      · have E : Hid (stEq (stVia x) = ({ x.1 with la := (pfxV (expS wLeft x.2)).1, ll := (pfxV (expS wLeft x.2)).2, ra := (pfxV (expS wRight (pfxS (expS wLeft x.2)))).1, rl := (pfxV (expS wRight (pfxS (expS wLeft x.2)))).2 }, pfxS (expS wRight (pfxS (expS wLeft x.2))))) := Lib.hid (by rw [e1]; exact if_pos h6)
        have d6 : (x.1.kind == 6) = true := by simpa using h6
        clear e1 h3 h6
        go_wp2_with fail
        refine (expect_any b G _ ⟨#[108, 101, 102, 116]⟩ _ MX.out.p).mono ?_
        rintro e w1 ⟨rfl, g1, k1⟩
        have M1 := Lib.hid (MX.out.call g1 k1 (short_exp _ MX.out.s))
        clear g1 k1
        go_wp2_with fail
        refine (pprefix_any b G B _ _ M1.out.p M1.out.e hB M1.out.s).mono ?_
        rintro e w2 ⟨rfl, g2, k2⟩
        have M2 := Lib.hid (M1.out.call g2 k2 (short_pfx M1.out.s))
        clear g2 k2
        have c6 : w2.cell? ⟨w.heap.size + 1, 6, none⟩ = some (.int .u32 (x.1.la : Int)) := M2.out.q.cell 6
        have c7 : w2.cell? ⟨w.heap.size + 1, 7, none⟩ = some (.int .i64 x.1.ll) := M2.out.q.cell 7
        have f6 := M2.out.q.frz 6
        have f7 := M2.out.q.frz 7
        unfold PV
        go_wp2_with fail
        have M3 := Lib.hid ((M2.out.put (j := 6) (q' := { x.1 with la := (pfxV (expS wLeft x.2)).1 }) _ rfl).put (j := 7) (q' := { x.1 with la := (pfxV (expS wLeft x.2)).1, ll := (pfxV (expS wLeft x.2)).2 }) _ rfl)
        clear c6 c7 f6 f7
        refine (expect_any b G _ ⟨#[114, 105, 103, 104, 116]⟩ _ M3.out.p).mono ?_
        rintro e w3 ⟨rfl, g3, k3⟩
        have M4 := Lib.hid (M3.out.call g3 k3 (short_exp _ M3.out.s))
        clear g3 k3
        go_wp2_with fail
        refine (pprefix_any b G B _ _ M4.out.p M4.out.e hB M4.out.s).mono ?_
        rintro e w4 ⟨rfl, g4, k4⟩
        have M5 := Lib.hid (M4.out.call g4 k4 (short_pfx M4.out.s))
        clear g4 k4
        have c8 : w4.cell? ⟨w.heap.size + 1, 8, none⟩ = some (.int .u32 (x.1.ra : Int)) := M5.out.q.cell 8
        have c9 : w4.cell? ⟨w.heap.size + 1, 9, none⟩ = some (.int .i64 x.1.rl) := M5.out.q.cell 9
        have f8 := M5.out.q.frz 8
        have f9 := M5.out.q.frz 9
        unfold PV
        go_wp2_with fail
        go_meet
        rw [E.out]
        exact (M5.out.put (j := 8) (q' := { x.1 with la := (pfxV (expS wLeft x.2)).1, ll := (pfxV (expS wLeft x.2)).2, ra := (pfxV (expS wRight (pfxS (expS wLeft x.2)))).1 }) _ rfl).put (j := 9) _ rfl
      · have E : Hid (stEq (stVia x) = x) := Lib.hid (by rw [e1]; exact if_neg h6)
        have d6 : (x.1.kind == 6) = false := by simpa using h6
        clear e1 h3 h6
        go_wp2_with fail
        go_meet
        rw [E.out]
        exact MX.out
  case rest =>
  clear MX k0
  generalize hy : stEq (stVia x) = y at hcut
  have MX := Lib.hid hcut
  clear hcut
  go_wp2_with fail
  refine (accept_any b G _ ⟨#[115, 114, 99]⟩ _ MX.out.p).mono ?_
  rintro e wa ⟨rfl, ga, ka⟩
  have MA := Lib.hid (MX.out.call ga ka (short_acc _ MX.out.s))
  clear ga ka
  go_upto_if 46 with fail
  go_cut [] (fun wx => Mid 86 b G B w (stSrc y) wx)
  case first =>
    cases ha : accB (bytes ⟨#[115, 114, 99]⟩) y.2 with
    | true =>
      have E : Hid (stSrc y = ({ y.1 with sa := (pfxV (accS wSrc y.2)).1, sl := (pfxV (accS wSrc y.2)).2 }, pfxS (accS wSrc y.2))) := Lib.hid (if_pos ha)
      go_wp2_with fail
      refine (pprefix_any b G B _ _ MA.out.p MA.out.e hB MA.out.s).mono ?_
      rintro e wb ⟨rfl, gb, kb⟩
      have MB := Lib.hid (MA.out.call gb kb (short_pfx MA.out.s))
      clear gb kb
      have c1 : wb.cell? ⟨w.heap.size + 1, 10, none⟩ = some (.int .u32 (y.1.sa : Int)) := MB.out.q.cell 10
      have c2 : wb.cell? ⟨w.heap.size + 1, 11, none⟩ = some (.int .i64 y.1.sl) := MB.out.q.cell 11
      have f1 := MB.out.q.frz 10
      have f2 := MB.out.q.frz 11
      unfold PV
      go_wp2_with fail
      go_meet
      rw [E.out]
      exact (MB.out.put (j := 10) (q' := { y.1 with sa := (pfxV (accS wSrc y.2)).1 }) _ rfl).put (j := 11) _ rfl
    | false =>
      have E : Hid (stSrc y = (y.1, accS wSrc y.2)) := Lib.hid ((if_neg (by rw [show accB wSrc y.2 = false from ha]; simp)).trans (by unfold accS; rw [show accB wSrc y.2 = false from ha]; rfl))
      go_wp2_with fail
      go_meet
      rw [E.out]
      exact MA.out
  case rest =>
  clear MX MA
  generalize hz : stSrc y = z at hcut
  have MX := Lib.hid hcut
  clear hcut
  go_wp2_with fail
  refine (accept_any b G _ ⟨#[100, 115, 116]⟩ _ MX.out.p).mono ?_
  rintro e wa ⟨rfl, ga, ka⟩
  have MA := Lib.hid (MX.out.call ga ka (short_acc _ MX.out.s))
  clear ga ka
  go_upto_if 52 with fail
  go_cut [] (fun wx => Mid 86 b G B w (stDst z) wx)
  case first =>
    cases ha : accB (bytes ⟨#[100, 115, 116]⟩) z.2 with
    | true =>
      have E : Hid (stDst z = ({ z.1 with da := (pfxV (accS wDst z.2)).1, dl := (pfxV (accS wDst z.2)).2 }, pfxS (accS wDst z.2))) := Lib.hid (if_pos ha)
      go_wp2_with fail
      refine (pprefix_any b G B _ _ MA.out.p MA.out.e hB MA.out.s).mono ?_
      rintro e wb ⟨rfl, gb, kb⟩
      have MB := Lib.hid (MA.out.call gb kb (short_pfx MA.out.s))
      clear gb kb
      have c1 : wb.cell? ⟨w.heap.size + 1, 12, none⟩ = some (.int .u32 (z.1.da : Int)) := MB.out.q.cell 12
      have c2 : wb.cell? ⟨w.heap.size + 1, 13, none⟩ = some (.int .i64 z.1.dl) := MB.out.q.cell 13
      have f1 := MB.out.q.frz 12
      have f2 := MB.out.q.frz 13
      unfold PV
      go_wp2_with fail
      go_meet
      rw [E.out]
      exact (MB.out.put (j := 12) (q' := { z.1 with da := (pfxV (accS wDst z.2)).1 }) _ rfl).put (j := 13) _ rfl
    | false =>
      have E : Hid (stDst z = (z.1, accS wDst z.2)) := Lib.hid ((if_neg (by rw [show accB wDst z.2 = false from ha]; simp)).trans (by unfold accS; rw [show accB wDst z.2 = false from ha]; rfl))
      go_wp2_with fail
      go_meet
      rw [E.out]
      exact MA.out
  case rest =>
  clear MX MA
  generalize hu : stDst z = u at hcut
  have MX := Lib.hid hcut
  clear hcut
  have cp : wc.cell? ⟨w.heap.size + 1, 14, none⟩ = some (.int .i64 u.1.proto) := MX.out.q.cell 14
  have fp := MX.out.q.frz 14
  have MP := Lib.hid (MX.out.put (j := 14) (q' := { u.1 with proto := -1 }) (.int .i64 (-1)) rfl)
  go_wp2_with fail
  refine (accept_any b G _ ⟨#[112, 114, 111, 116, 111]⟩ _ MP.out.p).mono ?_
  rintro e wa ⟨rfl, ga, ka⟩
  have MA := Lib.hid (MP.out.call ga ka (short_acc _ MP.out.s))
  clear ga ka
  go_upto_if 60 with fail
  go_cut [] (fun wx => Mid 86 b G B w (stProto u) wx)
  case first =>
    cases ha : accB (bytes ⟨#[112, 114, 111, 116, 111]⟩) u.2 with
    | true =>
      have E : Hid (stProto u = ({ u.1 with proto := numVP (accS wProto u.2) }, numS (accS wProto u.2))) := Lib.hid (if_pos ha)
      go_wp2_with fail
      refine (pnumber_any b G _ _ MA.out.p).mono ?_
      rintro e wb ⟨rfl, gb, kb⟩
      have MB := Lib.hid (MA.out.call gb kb (short_num MA.out.s))
      clear gb kb
      have c1 : wb.cell? ⟨w.heap.size + 1, 14, none⟩ = some (.int .i64 (-1)) := MB.out.q.cell 14
      have f1 := MB.out.q.frz 14
      go_wp2_with fail
      go_meet
      rw [E.out]
      exact MB.out.put (j := 14) _ rfl
    | false =>
      have E : Hid (stProto u = ({ u.1 with proto := -1 }, accS wProto u.2)) := Lib.hid ((if_neg (by rw [show accB wProto u.2 = false from ha]; simp)).trans (by unfold accS; rw [show accB wProto u.2 = false from ha]; rfl))
      go_wp2_with fail
      go_meet
      rw [E.out]
      exact MA.out
  case rest =>
  clear MX MA MP
  generalize hv : stProto u = v at hcut
  have MX := Lib.hid hcut
  clear hcut
  go_wp2_with fail
  refine (pports_any b G _ ⟨#[115, 112, 111, 114, 116]⟩ _ MX.out.p).mono ?_
  rintro e wa ⟨rfl, ga, ka⟩
  have MA := Lib.hid (MX.out.call ga ka (short_port _ MX.out.s))
  clear ga ka
  have c1 : wa.cell? ⟨w.heap.size + 1, 15, none⟩ = some (.int .i64 v.1.slo) := MA.out.q.cell 15
  have c2 : wa.cell? ⟨w.heap.size + 1, 16, none⟩ = some (.int .i64 v.1.shi) := MA.out.q.cell 16
  have f1 := MA.out.q.frz 15
  have f2 := MA.out.q.frz 16
  have MB : Hid (Mid 86 b G B w (stSport v) ((wa.setCell ⟨w.heap.size + 1, 15, none⟩ (.int .i64 (portV wSport v.2).1)).setCell ⟨w.heap.size + 1, 16, none⟩ (.int .i64 (portV wSport v.2).2))) := Lib.hid ((MA.out.put (j := 15) (q' := { v.1 with slo := (portV wSport v.2).1 }) _ rfl).put (j := 16) (q' := (stSport v).1) _ rfl)
  unfold RV
  go_wp2_with fail
  refine (pports_any b G _ ⟨#[100, 112, 111, 114, 116]⟩ _ MB.out.p).mono ?_
  rintro e wd ⟨rfl, ga, ka⟩
  have MC := Lib.hid (MB.out.call ga ka (short_port _ MB.out.s))
  clear ga ka
  have c3 : wd.cell? ⟨w.heap.size + 1, 17, none⟩ = some (.int .i64 (stSport v).1.dlo) := MC.out.q.cell 17
  have c4 : wd.cell? ⟨w.heap.size + 1, 18, none⟩ = some (.int .i64 (stSport v).1.dhi) := MC.out.q.cell 18
  have f3 := MC.out.q.frz 17
  have f4 := MC.out.q.frz 18
  have MD : Hid (Mid 86 b G B w (stDport (stSport v)) ((wd.setCell ⟨w.heap.size + 1, 17, none⟩ (.int .i64 (portV wDport (stSport v).2).1)).setCell ⟨w.heap.size + 1, 18, none⟩ (.int .i64 (portV wDport (stSport v).2).2))) := Lib.hid ((MC.out.put (j := 17) (q' := { (stSport v).1 with dlo := (portV wDport (stSport v).2).1 }) _ rfl).put (j := 18) (q' := (stDport (stSport v)).1) _ rfl)
  unfold RV
  go_wp2_with fail
  refine (accept_any b G _ ⟨#[102, 97, 105, 108, 117, 114, 101, 115]⟩ _ MD.out.p).mono ?_
  rintro e wf ⟨rfl, ga, ka⟩
  have ME := Lib.hid (MD.out.call ga ka (short_acc _ MD.out.s))
  clear ga ka MX MA MB MC MD c1 c2 c3 c4 f1 f2 f3 f4
  generalize hy7 : stDport (stSport v) = y7 at ME ⊢
  go_upto_if 74 with fail
  go_cut [] (fun wx => Mid 86 b G B w (stFails y7) wx)
  case first =>
    cases ha : accB (bytes ⟨#[102, 97, 105, 108, 117, 114, 101, 115]⟩) y7.2 with
    | true =>
      have E : Hid (stFails y7 = ({ y7.1 with fails := numVP (accS wFails y7.2) }, numS (accS wFails y7.2))) := Lib.hid (if_pos ha)
      go_wp2_with fail
      refine (pnumber_any b G _ _ ME.out.p).mono ?_
      rintro e wb ⟨rfl, gb, kb⟩
      have MB := Lib.hid (ME.out.call gb kb (short_num ME.out.s))
      clear gb kb
      have c1 : wb.cell? ⟨w.heap.size + 1, 19, none⟩ = some (.int .i64 y7.1.fails) := MB.out.q.cell 19
      have f1 := MB.out.q.frz 19
      go_wp2_with fail
      go_meet
      rw [E.out]
      exact MB.out.put (j := 19) _ rfl
    | false =>
      have E : Hid (stFails y7 = (y7.1, accS wFails y7.2)) := Lib.hid ((if_neg (by rw [show accB wFails y7.2 = false from ha]; simp)).trans (by unfold accS; rw [show accB wFails y7.2 = false from ha]; rfl))
      go_wp2_with fail
      go_meet
      rw [E.out]
      exact ME.out
  case rest =>
  clear ME
  have EQ : Hid (queryOf p = stFails y7) := Lib.hid (by unfold queryOf; rw [← hy7, ← hv, ← hu, ← hz, ← hy, ← hx])
  clear hy7 hv hu hz hy hx
  generalize hy8 : stFails y7 = y8 at hcut EQ
  clear hy8
  have MX := Lib.hid hcut
  clear hcut
  go_wp2_with (first | (refine wpList_loadQ rfl _ rfl rfl MX.out.q ?_) | (refine wpList_storeQ rfl _ _ rfl rfl rfl MX.out.r ?_; intro wz hz1 hz2))
  refine bodyPost_ret (v := QV y8.1) (results_cell rfl rfl hz1.load) rfl ⟨by rw [EQ.out], ?_⟩
  rw [EQ.out]
  obtain ⟨o1, o2, o3⟩ := MX.out.o
  have hs := MX.out.g.size
  have hb : Below w.heap.size wc wz := below_of_grown hz2 (Nat.le_refl _) hs
  exact ⟨MX.out.p.keep (hb.mono o3), grown_tail MX.out.g hb⟩
end Go.Proofs.YtnhemjdmleilcaaGreatDoor
