/- The walk of checkPathVector. Conditions: the router lies in memory, addresses are numbers below 2^32. -/
import Derived.Test.YtnhemjdmleilcaaGreatDoorModQ
import Derived.Lib.MinMax
namespace Go.Proofs.YtnhemjdmleilcaaGreatDoor
open Go.RowKit

theorem Tryz.rowPV : (Tryz.prog.underlying 67).map TypeDesc.isRow = some true := by kernel_rfl
theorem Tryz.sizePV : (Tryz.prog.info? 67).map (·.size) = some 8 := by kernel_rfl
def pvE (r : Rt) : Int := if r.pvOn then (if !(r.asn == 0) && withinB r.ext 1 255 && withinB r.int 1 255 then (if nbsE r.maps r.nb = 0 then (if origE r = 0 then redE r.maps 5 0 16777215 0 r.pvRed else origE r) else nbsE r.maps r.nb) else 1) else if !(r.ext == 0) || (!(r.int == 0) || (decide ((0 : Int) < r.nb.length) || (decide ((0 : Int) < r.net.length) || (decide ((0 : Int) < r.ag.length) || (decide ((0 : Int) < r.cd.length) || decide ((0 : Int) < r.pvRed.length)))))) then 1 else 0
set_option maxRecDepth 100000 in
set_option maxHeartbeats 8000000 in
theorem checkPathVector_any (r : Rt) (w : World) (B : Nat) (h : r.at w B) (hB : B ≤ w.heap.size) (hf1 : ∀ x ∈ r.net, x.fit) (hf2 : ∀ x ∈ r.ag, x.fit) (hf3 : ∀ x ∈ r.cd, x.fit) : Calls Tryz.prog 41 #[.agg r.C] w fun e w' => e = .returned (.int .i64 (pvE r)) ∧ Below w.heap.size w w' := by
  have H0 := RB.start r w
  have HR := Lib.hid h
  have HBB := Lib.hid hB
  obtain ⟨A1, c1, hv1, hle1, -⟩ := h.hnb
  obtain ⟨A2, c2, hv2, hle2, -⟩ := h.hnet
  obtain ⟨A3, c3, hv3, hle3, -⟩ := h.hag
  obtain ⟨A4, c4, hv4, hle4, -⟩ := h.hcd
  obtain ⟨A5, c5, hv5, hle5, -⟩ := h.hpvRed
  have HLR := h.hpvRed
  rw [hv5] at HLR
  replace HLR := Lib.hid HLR
  have PN := Lib.hid (fun w' (h' : HasC 69 w.heap.size r.C w') (hb : Below w.heap.size w w') => checkNeighbors_any r w' B (h.below (hb.mono hB)) (Nat.le_trans hB hb.size))
  have PO := Lib.hid (fun w' (hb : Below w.heap.size w w') => checkOrigins_any r w' B (h.below (hb.mono hB)) (Nat.le_trans hB hb.size) hf1 hf2 hf3)
  unfold Rt.pvC at PO
  rw [hv1, hv2, hv3, hv4, hv5] at PO
  clear h hB hf1 hf2 hf3
  have HO : (#[.bool r.pvOn, .int .i64 r.ext, .int .i64 r.int, .slice A1 r.nb.length c1, .slice A2 r.net.length c2, .slice A3 r.ag.length c3, .slice A4 r.cd.length c4, .slice A5 r.pvRed.length c5] : Array Value).all (·.oneCell') = true := by
    rw [Array.all_eq_true_iff_forall_mem]
    intro v hv
    simp only [List.mem_toArray, List.mem_cons, List.not_mem_nil, or_false] at hv
    rcases hv with rfl | rfl | rfl | rfl | rfl | rfl | rfl | rfl <;> rfl
  have HS : (w.alloc (.cells r.C 69)).rangeAt w.heap.size 17 (#[.bool r.pvOn, .int .i64 r.ext, .int .i64 r.int, .slice A1 r.nb.length c1, .slice A2 r.net.length c2, .slice A3 r.ag.length c3, .slice A4 r.cd.length c4, .slice A5 r.pvRed.length c5] : Array Value).toList := H0.h.sub 17 #[.bool r.pvOn, .int .i64 r.ext, .int .i64 r.int, .slice A1 r.nb.length c1, .slice A2 r.net.length c2, .slice A3 r.ag.length c3, .slice A4 r.cd.length c4, .slice A5 r.pvRed.length c5] (fun j hj => by
    have hj' : j < 8 := hj
    rcases (show j = 0 ∨ j = 1 ∨ j = 2 ∨ j = 3 ∨ j = 4 ∨ j = 5 ∨ j = 6 ∨ j = 7 by omega) with rfl | rfl | rfl | rfl | rfl | rfl | rfl | rfl <;> first | rfl | (show some _ = some _; simp only [Option.some.injEq]; assumption))
  clear hv1 hv2 hv3 hv4 hv5
  have E : Hid (pvE r = if r.pvOn then (if !(r.asn == 0) && withinB r.ext 1 255 && withinB r.int 1 255 then (if nbsE r.maps r.nb = 0 then (if origE r = 0 then redE r.maps 5 0 16777215 0 r.pvRed else origE r) else nbsE r.maps r.nb) else 1) else if !(r.ext == 0) || (!(r.int == 0) || (decide ((0 : Int) < r.nb.length) || (decide ((0 : Int) < r.net.length) || (decide ((0 : Int) < r.ag.length) || (decide ((0 : Int) < r.cd.length) || decide ((0 : Int) < r.pvRed.length)))))) then 1 else 0) := Lib.hid rfl
  generalize pvE r = res at E ⊢
  have H0h := Lib.hid H0
  have HSh := Lib.hid HS
  clear H0 HS HO
  go_enter Tryz.func41, Tryz.ntmps41
  go_upto_region 2 with (refine wpList_loadRow rfl 67 _ rfl rfl HSh.out Tryz.rowPV Tryz.sizePV ?_)
  have H5 : Hid (RBL r w 67 (w.alloc (.cells r.C 69)).heap.size #[.bool r.pvOn, .int .i64 r.ext, .int .i64 r.int, .slice A1 r.nb.length c1, .slice A2 r.net.length c2, .slice A3 r.ag.length c3, .slice A4 r.cd.length c4, .slice A5 r.pvRed.length c5] ((w.alloc (.cells r.C 69)).alloc (.cells #[.bool r.pvOn, .int .i64 r.ext, .int .i64 r.int, .slice A1 r.nb.length c1, .slice A2 r.net.length c2, .slice A3 r.ag.length c3, .slice A4 r.cd.length c4, .slice A5 r.pvRed.length c5] 67))) := Lib.hid ⟨(H0h.out.keep ((Below.refl _ _).alloc (Nat.le_refl _) _)).h, (H0h.out.keep ((Below.refl _ _).alloc (Nat.le_refl _) _)).b, HasC.new _ _ _⟩
  clear H0h HSh
  generalize hw5 : (w.alloc (.cells r.C 69)).alloc (.cells #[.bool r.pvOn, .int .i64 r.ext, .int .i64 r.int, .slice A1 r.nb.length c1, .slice A2 r.net.length c2, .slice A3 r.ag.length c3, .slice A4 r.cd.length c4, .slice A5 r.pvRed.length c5] 67) = w5 at H5 ⊢
  clear hw5
  rw [show (w.alloc (.cells r.C 69)).heap.size = w.heap.size + 1 from by simp] at H5
  generalize w.heap.size + 1 = gl at H5 ⊢
  have lc0 : w5.cell? ⟨gl, 0, none⟩ = some (.bool r.pvOn) := H5.out.l.cell 0
  have lc1 : w5.cell? ⟨gl, 1, none⟩ = some (.int .i64 r.ext) := H5.out.l.cell 1
  have lc2 : w5.cell? ⟨gl, 2, none⟩ = some (.int .i64 r.int) := H5.out.l.cell 2
  have lc3 : w5.cell? ⟨gl, 3, none⟩ = some (.slice A1 r.nb.length c1) := H5.out.l.cell 3
  have lc4 : w5.cell? ⟨gl, 4, none⟩ = some (.slice A2 r.net.length c2) := H5.out.l.cell 4
  have lc5 : w5.cell? ⟨gl, 5, none⟩ = some (.slice A3 r.ag.length c3) := H5.out.l.cell 5
  have lc6 : w5.cell? ⟨gl, 6, none⟩ = some (.slice A4 r.cd.length c4) := H5.out.l.cell 6
  have lc7 : w5.cell? ⟨gl, 7, none⟩ = some (.slice A5 r.pvRed.length c5) := H5.out.l.cell 7
  cases hon : r.pvOn with
  | false =>
    rw [hon] at lc0
    have EF : Hid (res = if !(r.ext == 0) || (!(r.int == 0) || (decide ((0 : Int) < r.nb.length) || (decide ((0 : Int) < r.net.length) || (decide ((0 : Int) < r.ag.length) || (decide ((0 : Int) < r.cd.length) || decide ((0 : Int) < r.pvRed.length)))))) then 1 else 0) := Lib.hid (by rw [E.out, hon]; rfl)
    clear hon E PN PO HLR HR
    by_cases ha : r.ext = 0
    case neg =>
      have d1 : (r.ext == 0) = false := by simpa using ha
      have d2 : (r.ext != 0) = true := by simpa using ha
      clear ha
      go_wp2_with fail
      go_ret
      exact ⟨ret_int (by rw [EF.out, d1]; rfl), H5.out.b⟩
    rw [ha] at lc1
    replace EF : Hid (res = if !(r.int == 0) || (decide ((0 : Int) < r.nb.length) || (decide ((0 : Int) < r.net.length) || (decide ((0 : Int) < r.ag.length) || (decide ((0 : Int) < r.cd.length) || decide ((0 : Int) < r.pvRed.length))))) then 1 else 0) := Lib.hid (by rw [EF.out, ha]; rfl)
    clear ha
    by_cases ha : r.int = 0
    case neg =>
      have d1 : (r.int == 0) = false := by simpa using ha
      have d2 : (r.int != 0) = true := by simpa using ha
      clear ha
      go_wp2_with fail
      go_ret
      exact ⟨ret_int (by rw [EF.out, d1]; rfl), H5.out.b⟩
    rw [ha] at lc2
    have EF0 : Hid (res = if decide ((0 : Int) < r.nb.length) || (decide ((0 : Int) < r.net.length) || (decide ((0 : Int) < r.ag.length) || (decide ((0 : Int) < r.cd.length) || decide ((0 : Int) < r.pvRed.length)))) then 1 else 0) := Lib.hid (by rw [EF.out, ha]; rfl)
    clear ha EF
    generalize r.nb.length = n1 at *
    generalize r.net.length = n2 at *
    generalize r.ag.length = n3 at *
    generalize r.cd.length = n4 at *
    generalize r.pvRed.length = n5 at *
    by_cases z1 : n1 = 0
    case neg =>
      have z1' : 0 < n1 := by omega
      go_wp2_with fail
      all_goals (go_ret; exact ⟨ret_int (by rw [EF0.out, decide_eq_true (show (0 : Int) < n1 by omega)]; rfl), H5.out.b⟩)
    subst z1
    have EF1 : Hid (res = if decide ((0 : Int) < n2) || (decide ((0 : Int) < n3) || (decide ((0 : Int) < n4) || (decide ((0 : Int) < n5)))) then 1 else 0) := Lib.hid (by rw [EF0.out]; rfl)
    clear EF0
    by_cases z2 : n2 = 0
    case neg =>
      have z2' : 0 < n2 := by omega
      go_wp2_with fail
      all_goals (go_ret; exact ⟨ret_int (by rw [EF1.out, decide_eq_true (show (0 : Int) < n2 by omega)]; rfl), H5.out.b⟩)
    subst z2
    have EF2 : Hid (res = if decide ((0 : Int) < n3) || (decide ((0 : Int) < n4) || (decide ((0 : Int) < n5))) then 1 else 0) := Lib.hid (by rw [EF1.out]; rfl)
    clear EF1
    by_cases z3 : n3 = 0
    case neg =>
      have z3' : 0 < n3 := by omega
      go_wp2_with fail
      all_goals (go_ret; exact ⟨ret_int (by rw [EF2.out, decide_eq_true (show (0 : Int) < n3 by omega)]; rfl), H5.out.b⟩)
    subst z3
    have EF3 : Hid (res = if decide ((0 : Int) < n4) || (decide ((0 : Int) < n5)) then 1 else 0) := Lib.hid (by rw [EF2.out]; rfl)
    clear EF2
    by_cases z4 : n4 = 0
    case neg =>
      have z4' : 0 < n4 := by omega
      go_wp2_with fail
      all_goals (go_ret; exact ⟨ret_int (by rw [EF3.out, decide_eq_true (show (0 : Int) < n4 by omega)]; rfl), H5.out.b⟩)
    subst z4
    have EF4 : Hid (res = if decide ((0 : Int) < n5) then 1 else 0) := Lib.hid (by rw [EF3.out]; rfl)
    clear EF3
    by_cases z5 : n5 = 0
    case neg =>
      have z5' : 0 < n5 := by omega
      go_wp2_with fail
      all_goals (go_ret; exact ⟨ret_int (by rw [EF4.out, decide_eq_true (show (0 : Int) < n5 by omega)]; rfl), H5.out.b⟩)
    subst z5
    go_wp2_with fail
    go_ret
    exact ⟨ret_int (by rw [EF4.out]; rfl), H5.out.b⟩
  | true =>
  rw [hon] at lc0
  have ET : Hid (res = if !(r.asn == 0) && withinB r.ext 1 255 && withinB r.int 1 255 then (if nbsE r.maps r.nb = 0 then (if origE r = 0 then redE r.maps 5 0 16777215 0 r.pvRed else origE r) else nbsE r.maps r.nb) else 1) := Lib.hid (by rw [E.out, hon]; rfl)
  clear hon E
  have a1 : w5.cell? ⟨w.heap.size, 1, none⟩ = some (.int .i64 r.asn) := H5.out.h.cell 1
  by_cases ha : r.asn = 0
  · have d1 : (r.asn == 0) = true := by simpa using ha
    clear ha
    go_wp2_with fail
    go_ret
    exact ⟨ret_int (by rw [ET.out, d1]; rfl), H5.out.b⟩
  have d1 : (r.asn == 0) = false := by simpa using ha
  clear ha
  cases hw1 : withinB r.ext 1 255 with
  | false =>
    go_wp2_with (go_at_call 31; refine (within_any _ _ _ _).mono ?_; rintro e w' ⟨rfl, rfl⟩)
    go_ret
    exact ⟨ret_int (by rw [ET.out, d1, hw1]; rfl), H5.out.b⟩
  | true =>
  cases hw2 : withinB r.int 1 255 with
  | false =>
    go_wp2_with (go_at_call 31; refine (within_any _ _ _ _).mono ?_; rintro e w' ⟨rfl, rfl⟩)
    go_ret
    exact ⟨ret_int (by rw [ET.out, d1, hw1, hw2]; rfl), H5.out.b⟩
  | true =>
  have EN : Hid (res = if nbsE r.maps r.nb = 0 then (if origE r = 0 then redE r.maps 5 0 16777215 0 r.pvRed else origE r) else nbsE r.maps r.nb) := Lib.hid (by rw [ET.out, d1, hw1, hw2]; rfl)
  clear ET
  go_wp2_with (first | (go_at_call 31; refine (within_any _ _ _ _).mono ?_; rintro e w' ⟨rfl, rfl⟩) | (refine wpList_loadRow rfl 69 _ rfl rfl H5.out.h.range Tryz.rowRt Tryz.sizeRt ?_))
  clear a1 d1 hw1 hw2 lc0 lc1 lc2 lc3 lc4 lc5 lc6 lc7
  with_reducible refine (PN.out _ H5.out.h H5.out.b).mono ?_
  rintro e w6 ⟨rfl, hb⟩
  have H6 := Lib.hid (H5.out.keep hb)
  clear hb H5
  by_cases he : nbsE r.maps r.nb = 0
  case neg =>
    have E1 : Hid (res = nbsE r.maps r.nb) := Lib.hid (by rw [EN.out, if_neg he])
    generalize nbsE r.maps r.nb = e1 at *
    have dn : (e1 != 0) = true := by simpa using he
    clear he
    go_wp2_with fail
    go_ret
    exact ⟨ret_int E1.out.symm, H6.out.b⟩
  have EO : Hid (res = if origE r = 0 then redE r.maps 5 0 16777215 0 r.pvRed else origE r) := Lib.hid (by rw [EN.out, if_pos he])
  clear EN
  rw [he]
  clear he
  go_wp2_with (first | (refine wpList_loadRow rfl 67 _ rfl rfl H6.out.l.range Tryz.rowPV Tryz.sizePV ?_))
  with_reducible refine (PO.out _ H6.out.b).mono ?_
  rintro e w7 ⟨rfl, hb⟩
  have H7 := Lib.hid (H6.out.keep hb)
  clear hb H6
  by_cases he : origE r = 0
  case neg =>
    have E1 : Hid (res = origE r) := Lib.hid (by rw [EO.out, if_neg he])
    generalize origE r = e1 at *
    have dn : (e1 != 0) = true := by simpa using he
    clear he
    go_wp2_with fail
    go_ret
    exact ⟨ret_int E1.out.symm, H7.out.b⟩
  have E2 : Hid (res = redE r.maps 5 0 16777215 0 r.pvRed) := Lib.hid (by rw [EO.out, if_pos he])
  clear EO
  rw [he]
  clear he
  have l7 : w7.cell? ⟨gl, 7, none⟩ = some (.slice A5 r.pvRed.length c5) := H7.out.l.cell 7
  go_wp2_with (first | fail | (refine wpList_loadRow rfl 69 _ rfl rfl H7.out.h.range Tryz.rowRt Tryz.sizeRt ?_))
  with_reducible refine (checkRedist_any r r.pvRed (.slice A5 r.pvRed.length c5) 5 0 16777215 0 _ B (HR.out.below (H7.out.b.mono HBB.out)) (HLR.out.below (H7.out.b.mono HBB.out)) (Nat.le_trans HBB.out H7.out.b.size)).mono ?_
  rintro e wz ⟨rfl, hb⟩
  have HZ := Lib.hid (H7.out.keep hb)
  clear hb
  go_wp2_with fail
  go_ret
  exact ⟨ret_int E2.out.symm, HZ.out.b⟩
end Go.Proofs.YtnhemjdmleilcaaGreatDoor
