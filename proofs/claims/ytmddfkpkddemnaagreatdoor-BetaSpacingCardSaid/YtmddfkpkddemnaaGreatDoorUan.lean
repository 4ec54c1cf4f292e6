/- The error of a router does not depend on where its slices lie. No condition. -/
import Derived.Test.YtmddfkpkddemnaaGreatDoorUam
import Derived.Lib.MinMax
import Derived.Test.YtmddfkpkddemnaaGreatDoorUr
namespace Go.Proofs.YtmddfkpkddemnaaGreatDoor
open Go.RowKit
theorem Tryz.rowPV : (Tryz.prog.underlying 39).map TypeDesc.isRow = some true := by kernel_rfl
theorem Tryz.sizePV : (Tryz.prog.info? 39).map (·.size) = some 8 := by kernel_rfl
def pvE (r : Rt) : Int := if r.pvOn then (if !(r.asn == 0) && withinB r.ext 1 255 && withinB r.int 1 255 then (if nbsE r.maps r.nb = 0 then (if origE r = 0 then redE r.maps 5 0 16777215 0 r.pvRed else origE r) else nbsE r.maps r.nb) else 1) else if !(r.ext == 0) || (!(r.int == 0) || (decide ((0 : Int) < r.nb.length) || (decide ((0 : Int) < r.net.length) || (decide ((0 : Int) < r.ag.length) || (decide ((0 : Int) < r.cd.length) || decide ((0 : Int) < r.pvRed.length)))))) then 1 else 0
set_option maxRecDepth 100000 in
set_option maxHeartbeats 8000000 in
theorem checkPathVector_any (r : Rt) (w : World) (B : Nat) (h : r.at w B) (hB : B ≤ w.heap.size) (hf1 : ∀ x ∈ r.net, x.fit) (hf2 : ∀ x ∈ r.ag, x.fit) (hf3 : ∀ x ∈ r.cd, x.fit) : Calls Tryz.prog 99 #[.agg r.C] w fun e w' => e = .returned (.int .i64 (pvE r)) ∧ Below w.heap.size w w' := by
  have H0 := RB.start r w
  have HR := Lib.hid h
  have HBB := Lib.hid hB
  obtain ⟨A1, c1, hv1, hle1, -⟩ := h.hnb
  obtain ⟨A2, c2, hv2, hle2, -⟩ := h.hnet
  obtain ⟨A3, c3, hv3, hle3, -⟩ := h.hag
  obtain ⟨A4, c4, hv4, hle4, -⟩ := h.hcd
  obtain ⟨A5, c5, hv5, hle5, -⟩ := h.hpvRed
  have HLR := h.hpvRed
  rw [hv5] at HLR
  replace HLR := Lib.hid HLR
  have PN := Lib.hid (fun w' (h' : HasC 41 w.heap.size r.C w') (hb : Below w.heap.size w w') => checkNeighbors_any r w' B (h.below (hb.mono hB)) (Nat.le_trans hB hb.size))
  have PO := Lib.hid (fun w' (hb : Below w.heap.size w w') => checkOrigins_any r w' B (h.below (hb.mono hB)) (Nat.le_trans hB hb.size) hf1 hf2 hf3)
  unfold Rt.pvC at PO
  rw [hv1, hv2, hv3, hv4, hv5] at PO
  clear h hB hf1 hf2 hf3
  have HO : (#[.bool r.pvOn, .int .i64 r.ext, .int .i64 r.int, .slice A1 r.nb.length c1, .slice A2 r.net.length c2, .slice A3 r.ag.length c3, .slice A4 r.cd.length c4, .slice A5 r.pvRed.length c5] : Array Value).all (·.oneCell') = true := by
    rw [Array.all_eq_true_iff_forall_mem]
    intro v hv
    simp only [List.mem_toArray, List.mem_cons, List.not_mem_nil, or_false] at hv
    rcases hv with rfl | rfl | rfl | rfl | rfl | rfl | rfl | rfl <;> rfl
  have HS : (w.alloc (.cells r.C 41)).rangeAt w.heap.size 17 (#[.bool r.pvOn, .int .i64 r.ext, .int .i64 r.int, .slice A1 r.nb.length c1, .slice A2 r.net.length c2, .slice A3 r.ag.length c3, .slice A4 r.cd.length c4, .slice A5 r.pvRed.length c5] : Array Value).toList := H0.h.sub 17 #[.bool r.pvOn, .int .i64 r.ext, .int .i64 r.int, .slice A1 r.nb.length c1, .slice A2 r.net.length c2, .slice A3 r.ag.length c3, .slice A4 r.cd.length c4, .slice A5 r.pvRed.length c5] (fun j hj => by
    have hj' : j < 8 := hj
    rcases (show j = 0 ∨ j = 1 ∨ j = 2 ∨ j = 3 ∨ j = 4 ∨ j = 5 ∨ j = 6 ∨ j = 7 by omega) with rfl | rfl | rfl | rfl | rfl | rfl | rfl | rfl <;> first | rfl | (show some _ = some _; simp only [Option.some.injEq]; assumption))
  clear hv1 hv2 hv3 hv4 hv5
  have E : Hid (pvE r = if r.pvOn then (if !(r.asn == 0) && withinB r.ext 1 255 && withinB r.int 1 255 then (if nbsE r.maps r.nb = 0 then (if origE r = 0 then redE r.maps 5 0 16777215 0 r.pvRed else origE r) else nbsE r.maps r.nb) else 1) else if !(r.ext == 0) || (!(r.int == 0) || (decide ((0 : Int) < r.nb.length) || (decide ((0 : Int) < r.net.length) || (decide ((0 : Int) < r.ag.length) || (decide ((0 : Int) < r.cd.length) || decide ((0 : Int) < r.pvRed.length)))))) then 1 else 0) := Lib.hid rfl
  generalize pvE r = res at E ⊢
  have H0h := Lib.hid H0
  have HSh := Lib.hid HS
  clear H0 HS HO
  go_enter Tryz.func99, Tryz.ntmps99
  go_upto_region 2 with (refine wpList_loadRow rfl 39 _ rfl rfl HSh.out Tryz.rowPV Tryz.sizePV ?_)
  have H5 : Hid (RBL r w 39 (w.alloc (.cells r.C 41)).heap.size #[.bool r.pvOn, .int .i64 r.ext, .int .i64 r.int, .slice A1 r.nb.length c1, .slice A2 r.net.length c2, .slice A3 r.ag.length c3, .slice A4 r.cd.length c4, .slice A5 r.pvRed.length c5] ((w.alloc (.cells r.C 41)).alloc (.cells #[.bool r.pvOn, .int .i64 r.ext, .int .i64 r.int, .slice A1 r.nb.length c1, .slice A2 r.net.length c2, .slice A3 r.ag.length c3, .slice A4 r.cd.length c4, .slice A5 r.pvRed.length c5] 39))) := Lib.hid ⟨(H0h.out.keep ((Below.refl _ _).alloc (Nat.le_refl _) _)).h, (H0h.out.keep ((Below.refl _ _).alloc (Nat.le_refl _) _)).b, HasC.new _ _ _⟩
  clear H0h HSh
  generalize hw5 : (w.alloc (.cells r.C 41)).alloc (.cells #[.bool r.pvOn, .int .i64 r.ext, .int .i64 r.int, .slice A1 r.nb.length c1, .slice A2 r.net.length c2, .slice A3 r.ag.length c3, .slice A4 r.cd.length c4, .slice A5 r.pvRed.length c5] 39) = w5 at H5 ⊢
  clear hw5
  rw [show (w.alloc (.cells r.C 41)).heap.size = w.heap.size + 1 from by simp] at H5
  generalize w.heap.size + 1 = gl at H5 ⊢
  have lc0 : w5.cell? ⟨gl, 0, none⟩ = some (.bool r.pvOn) := H5.out.l.cell 0
  have lc1 : w5.cell? ⟨gl, 1, none⟩ = some (.int .i64 r.ext) := H5.out.l.cell 1
  have lc2 : w5.cell? ⟨gl, 2, none⟩ = some (.int .i64 r.int) := H5.out.l.cell 2
  have lc3 : w5.cell? ⟨gl, 3, none⟩ = some (.slice A1 r.nb.length c1) := H5.out.l.cell 3
  have lc4 : w5.cell? ⟨gl, 4, none⟩ = some (.slice A2 r.net.length c2) := H5.out.l.cell 4
  have lc5 : w5.cell? ⟨gl, 5, none⟩ = some (.slice A3 r.ag.length c3) := H5.out.l.cell 5
  have lc6 : w5.cell? ⟨gl, 6, none⟩ = some (.slice A4 r.cd.length c4) := H5.out.l.cell 6
  have lc7 : w5.cell? ⟨gl, 7, none⟩ = some (.slice A5 r.pvRed.length c5) := H5.out.l.cell 7
  cases hon : r.pvOn with
  | false =>
    rw [hon] at lc0
    have EF : Hid (res = if !(r.ext == 0) || (!(r.int == 0) || (decide ((0 : Int) < r.nb.length) || (decide ((0 : Int) < r.net.length) || (decide ((0 : Int) < r.ag.length) || (decide ((0 : Int) < r.cd.length) || decide ((0 : Int) < r.pvRed.length)))))) then 1 else 0) := Lib.hid (by rw [E.out, hon]; rfl)
    clear hon E PN PO HLR HR
    by_cases ha : r.ext = 0
    case neg =>
      have d1 : (r.ext == 0) = false := by simpa using ha
      have d2 : (r.ext != 0) = true := by simpa using ha
      clear ha
      go_wp2_with fail
      go_ret
      exact ⟨ret_int (by rw [EF.out, d1]; rfl), H5.out.b⟩
    rw [ha] at lc1
    replace EF : Hid (res = if !(r.int == 0) || (decide ((0 : Int) < r.nb.length) || (decide ((0 : Int) < r.net.length) || (decide ((0 : Int) < r.ag.length) || (decide ((0 : Int) < r.cd.length) || decide ((0 : Int) < r.pvRed.length))))) then 1 else 0) := Lib.hid (by rw [EF.out, ha]; rfl)
    clear ha
    by_cases ha : r.int = 0
    case neg =>
      have d1 : (r.int == 0) = false := by simpa using ha
      have d2 : (r.int != 0) = true := by simpa using ha
      clear ha
      go_wp2_with fail
      go_ret
      exact ⟨ret_int (by rw [EF.out, d1]; rfl), H5.out.b⟩
    rw [ha] at lc2
    have EF0 : Hid (res = if decide ((0 : Int) < r.nb.length) || (decide ((0 : Int) < r.net.length) || (decide ((0 : Int) < r.ag.length) || (decide ((0 : Int) < r.cd.length) || decide ((0 : Int) < r.pvRed.length)))) then 1 else 0) := Lib.hid (by rw [EF.out, ha]; rfl)
    clear ha EF
    generalize r.nb.length = n1 at *
    generalize r.net.length = n2 at *
    generalize r.ag.length = n3 at *
    generalize r.cd.length = n4 at *
    generalize r.pvRed.length = n5 at *
    by_cases z1 : n1 = 0
    case neg =>
      have z1' : 0 < n1 := by omega
      go_wp2_with fail
      all_goals (go_ret; exact ⟨ret_int (by rw [EF0.out, decide_eq_true (show (0 : Int) < n1 by omega)]; rfl), H5.out.b⟩)
    subst z1
    have EF1 : Hid (res = if decide ((0 : Int) < n2) || (decide ((0 : Int) < n3) || (decide ((0 : Int) < n4) || (decide ((0 : Int) < n5)))) then 1 else 0) := Lib.hid (by rw [EF0.out]; rfl)
    clear EF0
    by_cases z2 : n2 = 0
    case neg =>
      have z2' : 0 < n2 := by omega
      go_wp2_with fail
      all_goals (go_ret; exact ⟨ret_int (by rw [EF1.out, decide_eq_true (show (0 : Int) < n2 by omega)]; rfl), H5.out.b⟩)
    subst z2
    have EF2 : Hid (res = if decide ((0 : Int) < n3) || (decide ((0 : Int) < n4) || (decide ((0 : Int) < n5))) then 1 else 0) := Lib.hid (by rw [EF1.out]; rfl)
    clear EF1
    by_cases z3 : n3 = 0
    case neg =>
      have z3' : 0 < n3 := by omega
      go_wp2_with fail
      all_goals (go_ret; exact ⟨ret_int (by rw [EF2.out, decide_eq_true (show (0 : Int) < n3 by omega)]; rfl), H5.out.b⟩)
    subst z3
    have EF3 : Hid (res = if decide ((0 : Int) < n4) || (decide ((0 : Int) < n5)) then 1 else 0) := Lib.hid (by rw [EF2.out]; rfl)
    clear EF2
    by_cases z4 : n4 = 0
    case neg =>
      have z4' : 0 < n4 := by omega
      go_wp2_with fail
      all_goals (go_ret; exact ⟨ret_int (by rw [EF3.out, decide_eq_true (show (0 : Int) < n4 by omega)]; rfl), H5.out.b⟩)
    subst z4
    have EF4 : Hid (res = if decide ((0 : Int) < n5) then 1 else 0) := Lib.hid (by rw [EF3.out]; rfl)
    clear EF3
    by_cases z5 : n5 = 0
    case neg =>
      have z5' : 0 < n5 := by omega
      go_wp2_with fail
      all_goals (go_ret; exact ⟨ret_int (by rw [EF4.out, decide_eq_true (show (0 : Int) < n5 by omega)]; rfl), H5.out.b⟩)
    subst z5
    go_wp2_with fail
    go_ret
    exact ⟨ret_int (by rw [EF4.out]; rfl), H5.out.b⟩
  | true =>
  rw [hon] at lc0
  have ET : Hid (res = if !(r.asn == 0) && withinB r.ext 1 255 && withinB r.int 1 255 then (if nbsE r.maps r.nb = 0 then (if origE r = 0 then redE r.maps 5 0 16777215 0 r.pvRed else origE r) else nbsE r.maps r.nb) else 1) := Lib.hid (by rw [E.out, hon]; rfl)
  clear hon E
  have a1 : w5.cell? ⟨w.heap.size, 1, none⟩ = some (.int .i64 r.asn) := H5.out.h.cell 1
  by_cases ha : r.asn = 0
  · have d1 : (r.asn == 0) = true := by simpa using ha
    clear ha
    go_wp2_with fail
    go_ret
    exact ⟨ret_int (by rw [ET.out, d1]; rfl), H5.out.b⟩
  have d1 : (r.asn == 0) = false := by simpa using ha
  clear ha
  cases hw1 : withinB r.ext 1 255 with
  | false =>
    go_wp2_with (go_at_call 89; refine (within_any _ _ _ _).mono ?_; rintro e w' ⟨rfl, rfl⟩)
    go_ret
    exact ⟨ret_int (by rw [ET.out, d1, hw1]; rfl), H5.out.b⟩
  | true =>
  cases hw2 : withinB r.int 1 255 with
  | false =>
    go_wp2_with (go_at_call 89; refine (within_any _ _ _ _).mono ?_; rintro e w' ⟨rfl, rfl⟩)
    go_ret
    exact ⟨ret_int (by rw [ET.out, d1, hw1, hw2]; rfl), H5.out.b⟩
  | true =>
  have EN : Hid (res = if nbsE r.maps r.nb = 0 then (if origE r = 0 then redE r.maps 5 0 16777215 0 r.pvRed else origE r) else nbsE r.maps r.nb) := Lib.hid (by rw [ET.out, d1, hw1, hw2]; rfl)
  clear ET
  go_wp2_with (first | (go_at_call 89; refine (within_any _ _ _ _).mono ?_; rintro e w' ⟨rfl, rfl⟩) | (refine wpList_loadRow rfl 41 _ rfl rfl H5.out.h.range Tryz.rowRt Tryz.sizeRt ?_))
  clear a1 d1 hw1 hw2 lc0 lc1 lc2 lc3 lc4 lc5 lc6 lc7
  with_reducible refine (PN.out _ H5.out.h H5.out.b).mono ?_
  rintro e w6 ⟨rfl, hb⟩
  have H6 := Lib.hid (H5.out.keep hb)
  clear hb H5
  by_cases he : nbsE r.maps r.nb = 0
  case neg =>
    have E1 : Hid (res = nbsE r.maps r.nb) := Lib.hid (by rw [EN.out, if_neg he])
    generalize nbsE r.maps r.nb = e1 at *
    have dn : (e1 != 0) = true := by simpa using he
    clear he
    go_wp2_with fail
    go_ret
    exact ⟨ret_int E1.out.symm, H6.out.b⟩
  have EO : Hid (res = if origE r = 0 then redE r.maps 5 0 16777215 0 r.pvRed else origE r) := Lib.hid (by rw [EN.out, if_pos he])
  clear EN
  rw [he]
  clear he
  go_wp2_with (first | (refine wpList_loadRow rfl 39 _ rfl rfl H6.out.l.range Tryz.rowPV Tryz.sizePV ?_))
  with_reducible refine (PO.out _ H6.out.b).mono ?_
  rintro e w7 ⟨rfl, hb⟩
  have H7 := Lib.hid (H6.out.keep hb)
  clear hb H6
  by_cases he : origE r = 0
  case neg =>
    have E1 : Hid (res = origE r) := Lib.hid (by rw [EO.out, if_neg he])
    generalize origE r = e1 at *
    have dn : (e1 != 0) = true := by simpa using he
    clear he
    go_wp2_with fail
    go_ret
    exact ⟨ret_int E1.out.symm, H7.out.b⟩
  have E2 : Hid (res = redE r.maps 5 0 16777215 0 r.pvRed) := Lib.hid (by rw [EO.out, if_pos he])
  clear EO
  rw [he]
  clear he
  have l7 : w7.cell? ⟨gl, 7, none⟩ = some (.slice A5 r.pvRed.length c5) := H7.out.l.cell 7
  go_wp2_with (first | fail | (refine wpList_loadRow rfl 41 _ rfl rfl H7.out.h.range Tryz.rowRt Tryz.sizeRt ?_))
  with_reducible refine (checkRedist_any r r.pvRed (.slice A5 r.pvRed.length c5) 5 0 16777215 0 _ B (HR.out.below (H7.out.b.mono HBB.out)) (HLR.out.below (H7.out.b.mono HBB.out)) (Nat.le_trans HBB.out H7.out.b.size)).mono ?_
  rintro e wz ⟨rfl, hb⟩
  have HZ := Lib.hid (H7.out.keep hb)
  clear hb
  go_wp2_with fail
  go_ret
  exact ⟨ret_int E2.out.symm, HZ.out.b⟩
end Go.Proofs.YtmddfkpkddemnaaGreatDoor
namespace Go.Proofs.YtmddfkpkddemnaaGreatDoor
open Go.RowKit
def secsE (r : Rt) : List Int := [ifsE r.ifs, plsE r.lists, mapsE r.lists r.maps, aclsE r.acls, natsE r.acls r.nat, firstE (filtE r.acls) r.ifs, statsE r.ifs r.stat, lnkE r, dvE r, pvE r]
/-- The error of a router. -/
def routerE (r : Rt) : Int := if !nameB r.name then 3 else if !withinB r.asn 0 65535 then 1 else firstE (fun e => e) (secsE r)
set_option maxRecDepth 100000 in
set_option maxHeartbeats 8000000 in
theorem checkRouter_any (r : Rt) (w : World) (B : Nat) (h : r.at w B) (hB : B ≤ w.heap.size) (hf : r.fit) : Calls Tryz.prog 39 #[.agg r.C] w fun e w' => e = .returned (.int .i64 (routerE r)) ∧ Below w.heap.size w w' := by
  have H0 := Lib.hid (RB.start r w)
  have HR := Lib.hid h
  unfold Rt.fit at hf
  have HFT := Lib.hid hf
  have HBB := Lib.hid hB
  clear h hf hB
  have E : Hid (routerE r = if !nameB r.name then 3 else if !withinB r.asn 0 65535 then 1 else firstE (fun e => e) (secsE r)) := Lib.hid rfl
  generalize routerE r = res at E ⊢
  have c0 : (w.alloc (.cells r.C 41)).cell? ⟨w.heap.size, 0, none⟩ = some (.string (str r.name)) := H0.out.h.cell 0
  have c1 : (w.alloc (.cells r.C 41)).cell? ⟨w.heap.size, 1, none⟩ = some (.int .i64 r.asn) := H0.out.h.cell 1
  go_enter Tryz.func39, Tryz.ntmps39
  go_wp2_with fail
  generalize hwz : w.alloc (.cells r.C 41) = wz at *
  clear hwz
  refine (nameL r.name _).mono ?_
  rintro e w' ⟨rfl, rfl⟩
  cases hn : nameB r.name with
  | false =>
    go_wp2_with fail
    go_ret
    exact ⟨ret_int (by rw [E.out, hn]; rfl), H0.out.b⟩
  | true =>
  cases hw : withinB r.asn 0 65535 with
  | false =>
    go_wp2_with (go_at_call 89; refine (within_any _ _ _ _).mono ?_; rintro e w' ⟨rfl, rfl⟩)
    go_ret
    exact ⟨ret_int (by rw [E.out, hn, hw]; rfl), H0.out.b⟩
  | true =>
  have ES : Hid (firstE (fun e => e) (secsE r) = res) := Lib.hid (by rw [E.out, hn, hw]; rfl)
  clear E hn
  go_wp2_with (go_at_call 89; refine (within_any _ _ _ _).mono ?_; rintro e w' ⟨rfl, rfl⟩)
  have HC0 : Hid (HasC 48 wz.heap.size #[.func (.func 90) #[] #[], .func (.func 91) #[] #[], .func (.func 92) #[] #[], .func (.func 93) #[] #[], .func (.func 94) #[] #[], .func (.func 95) #[] #[], .func (.func 96) #[] #[], .func (.func 97) #[] #[], .func (.func 98) #[] #[], .func (.func 99) #[] #[]] (wz.alloc (.cells #[.func (.func 90) #[] #[], .func (.func 91) #[] #[], .func (.func 92) #[] #[], .func (.func 93) #[] #[], .func (.func 94) #[] #[], .func (.func 95) #[] #[], .func (.func 96) #[] #[], .func (.func 97) #[] #[], .func (.func 98) #[] #[], .func (.func 99) #[] #[]] 48))) := Lib.hid (HasC.new _ _ _)
  have H1 := Lib.hid (H0.out.keep ((Below.refl _ _).alloc (Nat.le_refl _) (.cells #[.func (.func 90) #[] #[], .func (.func 91) #[] #[], .func (.func 92) #[] #[], .func (.func 93) #[] #[], .func (.func 94) #[] #[], .func (.func 95) #[] #[], .func (.func 96) #[] #[], .func (.func 97) #[] #[], .func (.func 98) #[] #[], .func (.func 99) #[] #[]] 48)))
  clear c0 c1 hw H0
  generalize hwy : wz.alloc (.cells #[.func (.func 90) #[] #[], .func (.func 91) #[] #[], .func (.func 92) #[] #[], .func (.func 93) #[] #[], .func (.func 94) #[] #[], .func (.func 95) #[] #[], .func (.func 96) #[] #[], .func (.func 97) #[] #[], .func (.func 98) #[] #[], .func (.func 99) #[] #[]] 48) = wy at HC0 H1 ⊢
  clear hwy
  generalize wz.heap.size = gs at HC0 ⊢
  go_loopg [18] 10 (fun gh ix wr => ∃ k : Nat, k + gh = 10 ∧ ix = .int .i64 k ∧ Hid (RB r w wr) ∧ Hid (HasC 48 gs #[.func (.func 90) #[] #[], .func (.func 91) #[] #[], .func (.func 92) #[] #[], .func (.func 93) #[] #[], .func (.func 94) #[] #[], .func (.func 95) #[] #[], .func (.func 96) #[] #[], .func (.func 97) #[] #[], .func (.func 98) #[] #[], .func (.func 99) #[] #[]] wr) ∧ Hid (firstE (fun e => e) ((secsE r).drop k) = res))
  case atStart => exact ⟨0, by omega, rfl, H1, HC0, ES⟩
  case round =>
    obtain ⟨k, hk, rfl, HW, HC, HG⟩ := hrel
    clear HC0 H1 ES
    by_cases hlt : k < 10
    case neg =>
      obtain rfl : k = 10 := by omega
      have E : Hid (res = 0) := Lib.hid HG.out.symm
      go_wp2_with fail
      go_ret
      exact ⟨ret_int E.out.symm, HW.out.b⟩
    rcases (show k = 0 ∨ k = 1 ∨ k = 2 ∨ k = 3 ∨ k = 4 ∨ k = 5 ∨ k = 6 ∨ k = 7 ∨ k = 8 ∨ k = 9 by omega) with rfl | rfl | rfl | rfl | rfl | rfl | rfl | rfl | rfl | rfl
    · have ck : wr.cell? ⟨gs, 0, none⟩ = some (.func (.func 90) #[] #[]) := HC.out.cell 0
      go_wp2_with (first | (refine wpList_loadRow rfl 41 _ rfl rfl HW.out.h.range Tryz.rowRt Tryz.sizeRt ?_))
      with_reducible refine (checkInterfaces_any r wr B (HR.out.below (HW.out.b.mono HBB.out)) (Nat.le_trans HBB.out HW.out.b.size) HFT.out.1).mono ?_
      rintro e w6 ⟨rfl, hb⟩
      have H6 := Lib.hid (HW.out.keep hb)
      have HC6 := Lib.hid (HC.out.keep hb)
      clear hb HW HC ck
      obtain ⟨x, hx⟩ : ∃ x, ifsE r.ifs = x := ⟨_, rfl⟩
      have HG2 : Hid (res = if x = 0 then firstE (fun e => e) ((secsE r).drop 1) else x) := Lib.hid (by rw [← HG.out, ← hx]; rfl)
      rw [hx]
      clear hx HG
      by_cases he : x = 0
      case neg =>
        have E : Hid (res = x) := Lib.hid (by rw [HG2.out, if_neg he])
        have dn : (x != 0) = true := by simpa using he
        clear he
        go_wp2_with fail
        go_ret
        exact ⟨ret_int E.out.symm, H6.out.b⟩
      have E : Hid (firstE (fun e => e) ((secsE r).drop 1) = res) := Lib.hid (by rw [HG2.out, if_pos he])
      subst he
      go_wp2_with fail
      go_roundg 9
      case measure => omega
      case rel => exact ⟨1, by omega, by go_num, H6, HC6, E⟩
    · have ck : wr.cell? ⟨gs, 1, none⟩ = some (.func (.func 91) #[] #[]) := HC.out.cell 1
      go_wp2_with (first | (refine wpList_loadRow rfl 41 _ rfl rfl HW.out.h.range Tryz.rowRt Tryz.sizeRt ?_))
      with_reducible refine (checkPrefixLists_any r wr B (HR.out.below (HW.out.b.mono HBB.out)) (Nat.le_trans HBB.out HW.out.b.size) HFT.out.2.1).mono ?_
      rintro e w6 ⟨rfl, hb⟩
      have H6 := Lib.hid (HW.out.keep hb)
      have HC6 := Lib.hid (HC.out.keep hb)
      clear hb HW HC ck
      obtain ⟨x, hx⟩ : ∃ x, plsE r.lists = x := ⟨_, rfl⟩
      have HG2 : Hid (res = if x = 0 then firstE (fun e => e) ((secsE r).drop 2) else x) := Lib.hid (by rw [← HG.out, ← hx]; rfl)
      rw [hx]
      clear hx HG
      by_cases he : x = 0
      case neg =>
        have E : Hid (res = x) := Lib.hid (by rw [HG2.out, if_neg he])
        have dn : (x != 0) = true := by simpa using he
        clear he
        go_wp2_with fail
        go_ret
        exact ⟨ret_int E.out.symm, H6.out.b⟩
      have E : Hid (firstE (fun e => e) ((secsE r).drop 2) = res) := Lib.hid (by rw [HG2.out, if_pos he])
      subst he
      go_wp2_with fail
      go_roundg 8
      case measure => omega
      case rel => exact ⟨2, by omega, by go_num, H6, HC6, E⟩
    · have ck : wr.cell? ⟨gs, 2, none⟩ = some (.func (.func 92) #[] #[]) := HC.out.cell 2
      go_wp2_with (first | (refine wpList_loadRow rfl 41 _ rfl rfl HW.out.h.range Tryz.rowRt Tryz.sizeRt ?_))
      with_reducible refine (checkRouteMaps_any r wr B (HR.out.below (HW.out.b.mono HBB.out)) (Nat.le_trans HBB.out HW.out.b.size) ).mono ?_
      rintro e w6 ⟨rfl, hb⟩
      have H6 := Lib.hid (HW.out.keep hb)
      have HC6 := Lib.hid (HC.out.keep hb)
      clear hb HW HC ck
      obtain ⟨x, hx⟩ : ∃ x, mapsE r.lists r.maps = x := ⟨_, rfl⟩
      have HG2 : Hid (res = if x = 0 then firstE (fun e => e) ((secsE r).drop 3) else x) := Lib.hid (by rw [← HG.out, ← hx]; rfl)
      rw [hx]
      clear hx HG
      by_cases he : x = 0
      case neg =>
        have E : Hid (res = x) := Lib.hid (by rw [HG2.out, if_neg he])
        have dn : (x != 0) = true := by simpa using he
        clear he
        go_wp2_with fail
        go_ret
        exact ⟨ret_int E.out.symm, H6.out.b⟩
      have E : Hid (firstE (fun e => e) ((secsE r).drop 3) = res) := Lib.hid (by rw [HG2.out, if_pos he])
      subst he
      go_wp2_with fail
      go_roundg 7
      case measure => omega
      case rel => exact ⟨3, by omega, by go_num, H6, HC6, E⟩
    · have ck : wr.cell? ⟨gs, 3, none⟩ = some (.func (.func 93) #[] #[]) := HC.out.cell 3
      go_wp2_with (first | (refine wpList_loadRow rfl 41 _ rfl rfl HW.out.h.range Tryz.rowRt Tryz.sizeRt ?_))
      with_reducible refine (checkACLs_any r wr B (HR.out.below (HW.out.b.mono HBB.out)) (Nat.le_trans HBB.out HW.out.b.size) HFT.out.2.2.2.1).mono ?_
      rintro e w6 ⟨rfl, hb⟩
      have H6 := Lib.hid (HW.out.keep hb)
      have HC6 := Lib.hid (HC.out.keep hb)
      clear hb HW HC ck
      obtain ⟨x, hx⟩ : ∃ x, aclsE r.acls = x := ⟨_, rfl⟩
      have HG2 : Hid (res = if x = 0 then firstE (fun e => e) ((secsE r).drop 4) else x) := Lib.hid (by rw [← HG.out, ← hx]; rfl)
      rw [hx]
      clear hx HG
      by_cases he : x = 0
      case neg =>
        have E : Hid (res = x) := Lib.hid (by rw [HG2.out, if_neg he])
        have dn : (x != 0) = true := by simpa using he
        clear he
        go_wp2_with fail
        go_ret
        exact ⟨ret_int E.out.symm, H6.out.b⟩
      have E : Hid (firstE (fun e => e) ((secsE r).drop 4) = res) := Lib.hid (by rw [HG2.out, if_pos he])
      subst he
      go_wp2_with fail
      go_roundg 6
      case measure => omega
      case rel => exact ⟨4, by omega, by go_num, H6, HC6, E⟩
    · have ck : wr.cell? ⟨gs, 4, none⟩ = some (.func (.func 94) #[] #[]) := HC.out.cell 4
      go_wp2_with (first | (refine wpList_loadRow rfl 41 _ rfl rfl HW.out.h.range Tryz.rowRt Tryz.sizeRt ?_))
      with_reducible refine (checkNAT_any r wr B (HR.out.below (HW.out.b.mono HBB.out)) (Nat.le_trans HBB.out HW.out.b.size) HFT.out.2.2.2.2.1).mono ?_
      rintro e w6 ⟨rfl, hb⟩
      have H6 := Lib.hid (HW.out.keep hb)
      have HC6 := Lib.hid (HC.out.keep hb)
      clear hb HW HC ck
      obtain ⟨x, hx⟩ : ∃ x, natsE r.acls r.nat = x := ⟨_, rfl⟩
      have HG2 : Hid (res = if x = 0 then firstE (fun e => e) ((secsE r).drop 5) else x) := Lib.hid (by rw [← HG.out, ← hx]; rfl)
      rw [hx]
      clear hx HG
      by_cases he : x = 0
      case neg =>
        have E : Hid (res = x) := Lib.hid (by rw [HG2.out, if_neg he])
        have dn : (x != 0) = true := by simpa using he
        clear he
        go_wp2_with fail
        go_ret
        exact ⟨ret_int E.out.symm, H6.out.b⟩
      have E : Hid (firstE (fun e => e) ((secsE r).drop 5) = res) := Lib.hid (by rw [HG2.out, if_pos he])
      subst he
      go_wp2_with fail
      go_roundg 5
      case measure => omega
      case rel => exact ⟨5, by omega, by go_num, H6, HC6, E⟩
    · have ck : wr.cell? ⟨gs, 5, none⟩ = some (.func (.func 95) #[] #[]) := HC.out.cell 5
      go_wp2_with (first | (refine wpList_loadRow rfl 41 _ rfl rfl HW.out.h.range Tryz.rowRt Tryz.sizeRt ?_))
      with_reducible refine (checkFilters_any r wr B (HR.out.below (HW.out.b.mono HBB.out)) (Nat.le_trans HBB.out HW.out.b.size) ).mono ?_
      rintro e w6 ⟨rfl, hb⟩
      have H6 := Lib.hid (HW.out.keep hb)
      have HC6 := Lib.hid (HC.out.keep hb)
      clear hb HW HC ck
      obtain ⟨x, hx⟩ : ∃ x, firstE (filtE r.acls) r.ifs = x := ⟨_, rfl⟩
      have HG2 : Hid (res = if x = 0 then firstE (fun e => e) ((secsE r).drop 6) else x) := Lib.hid (by rw [← HG.out, ← hx]; rfl)
      rw [hx]
      clear hx HG
      by_cases he : x = 0
      case neg =>
        have E : Hid (res = x) := Lib.hid (by rw [HG2.out, if_neg he])
        have dn : (x != 0) = true := by simpa using he
        clear he
        go_wp2_with fail
        go_ret
        exact ⟨ret_int E.out.symm, H6.out.b⟩
      have E : Hid (firstE (fun e => e) ((secsE r).drop 6) = res) := Lib.hid (by rw [HG2.out, if_pos he])
      subst he
      go_wp2_with fail
      go_roundg 4
      case measure => omega
      case rel => exact ⟨6, by omega, by go_num, H6, HC6, E⟩
    · have ck : wr.cell? ⟨gs, 6, none⟩ = some (.func (.func 96) #[] #[]) := HC.out.cell 6
      go_wp2_with (first | (refine wpList_loadRow rfl 41 _ rfl rfl HW.out.h.range Tryz.rowRt Tryz.sizeRt ?_))
      with_reducible refine (checkStatics_any r wr B (HR.out.below (HW.out.b.mono HBB.out)) (Nat.le_trans HBB.out HW.out.b.size) HFT.out.2.2.2.2.2.1).mono ?_
      rintro e w6 ⟨rfl, hb⟩
      have H6 := Lib.hid (HW.out.keep hb)
      have HC6 := Lib.hid (HC.out.keep hb)
      clear hb HW HC ck
      obtain ⟨x, hx⟩ : ∃ x, statsE r.ifs r.stat = x := ⟨_, rfl⟩
      have HG2 : Hid (res = if x = 0 then firstE (fun e => e) ((secsE r).drop 7) else x) := Lib.hid (by rw [← HG.out, ← hx]; rfl)
      rw [hx]
      clear hx HG
      by_cases he : x = 0
      case neg =>
        have E : Hid (res = x) := Lib.hid (by rw [HG2.out, if_neg he])
        have dn : (x != 0) = true := by simpa using he
        clear he
        go_wp2_with fail
        go_ret
        exact ⟨ret_int E.out.symm, H6.out.b⟩
      have E : Hid (firstE (fun e => e) ((secsE r).drop 7) = res) := Lib.hid (by rw [HG2.out, if_pos he])
      subst he
      go_wp2_with fail
      go_roundg 3
      case measure => omega
      case rel => exact ⟨7, by omega, by go_num, H6, HC6, E⟩
    · have ck : wr.cell? ⟨gs, 7, none⟩ = some (.func (.func 97) #[] #[]) := HC.out.cell 7
      go_wp2_with (first | (refine wpList_loadRow rfl 41 _ rfl rfl HW.out.h.range Tryz.rowRt Tryz.sizeRt ?_))
      with_reducible refine (checkLinkState_any r wr B (HR.out.below (HW.out.b.mono HBB.out)) (Nat.le_trans HBB.out HW.out.b.size) HFT.out.2.2.2.2.2.2.1).mono ?_
      rintro e w6 ⟨rfl, hb⟩
      have H6 := Lib.hid (HW.out.keep hb)
      have HC6 := Lib.hid (HC.out.keep hb)
      clear hb HW HC ck
      obtain ⟨x, hx⟩ : ∃ x, lnkE r = x := ⟨_, rfl⟩
      have HG2 : Hid (res = if x = 0 then firstE (fun e => e) ((secsE r).drop 8) else x) := Lib.hid (by rw [← HG.out, ← hx]; rfl)
      rw [hx]
      clear hx HG
      by_cases he : x = 0
      case neg =>
        have E : Hid (res = x) := Lib.hid (by rw [HG2.out, if_neg he])
        have dn : (x != 0) = true := by simpa using he
        clear he
        go_wp2_with fail
        go_ret
        exact ⟨ret_int E.out.symm, H6.out.b⟩
      have E : Hid (firstE (fun e => e) ((secsE r).drop 8) = res) := Lib.hid (by rw [HG2.out, if_pos he])
      subst he
      go_wp2_with fail
      go_roundg 2
      case measure => omega
      case rel => exact ⟨8, by omega, by go_num, H6, HC6, E⟩
    · have ck : wr.cell? ⟨gs, 8, none⟩ = some (.func (.func 98) #[] #[]) := HC.out.cell 8
      go_wp2_with (first | (refine wpList_loadRow rfl 41 _ rfl rfl HW.out.h.range Tryz.rowRt Tryz.sizeRt ?_))
      with_reducible refine (checkDistanceVector_any r wr B (HR.out.below (HW.out.b.mono HBB.out)) (Nat.le_trans HBB.out HW.out.b.size) ).mono ?_
      rintro e w6 ⟨rfl, hb⟩
      have H6 := Lib.hid (HW.out.keep hb)
      have HC6 := Lib.hid (HC.out.keep hb)
      clear hb HW HC ck
      obtain ⟨x, hx⟩ : ∃ x, dvE r = x := ⟨_, rfl⟩
      have HG2 : Hid (res = if x = 0 then firstE (fun e => e) ((secsE r).drop 9) else x) := Lib.hid (by rw [← HG.out, ← hx]; rfl)
      rw [hx]
      clear hx HG
      by_cases he : x = 0
      case neg =>
        have E : Hid (res = x) := Lib.hid (by rw [HG2.out, if_neg he])
        have dn : (x != 0) = true := by simpa using he
        clear he
        go_wp2_with fail
        go_ret
        exact ⟨ret_int E.out.symm, H6.out.b⟩
      have E : Hid (firstE (fun e => e) ((secsE r).drop 9) = res) := Lib.hid (by rw [HG2.out, if_pos he])
      subst he
      go_wp2_with fail
      go_roundg 1
      case measure => omega
      case rel => exact ⟨9, by omega, by go_num, H6, HC6, E⟩
    · have ck : wr.cell? ⟨gs, 9, none⟩ = some (.func (.func 99) #[] #[]) := HC.out.cell 9
      go_wp2_with (first | (refine wpList_loadRow rfl 41 _ rfl rfl HW.out.h.range Tryz.rowRt Tryz.sizeRt ?_))
      with_reducible refine (checkPathVector_any r wr B (HR.out.below (HW.out.b.mono HBB.out)) (Nat.le_trans HBB.out HW.out.b.size) HFT.out.2.2.2.2.2.2.2.2.2.2.1 HFT.out.2.2.2.2.2.2.2.2.2.2.2.1 HFT.out.2.2.2.2.2.2.2.2.2.2.2.2.1).mono ?_
      rintro e w6 ⟨rfl, hb⟩
      have H6 := Lib.hid (HW.out.keep hb)
      have HC6 := Lib.hid (HC.out.keep hb)
      clear hb HW HC ck
      obtain ⟨x, hx⟩ : ∃ x, pvE r = x := ⟨_, rfl⟩
      have HG2 : Hid (res = if x = 0 then firstE (fun e => e) ((secsE r).drop 10) else x) := Lib.hid (by rw [← HG.out, ← hx]; rfl)
      rw [hx]
      clear hx HG
      by_cases he : x = 0
      case neg =>
        have E : Hid (res = x) := Lib.hid (by rw [HG2.out, if_neg he])
        have dn : (x != 0) = true := by simpa using he
        clear he
        go_wp2_with fail
        go_ret
        exact ⟨ret_int E.out.symm, H6.out.b⟩
      have E : Hid (firstE (fun e => e) ((secsE r).drop 10) = res) := Lib.hid (by rw [HG2.out, if_pos he])
      subst he
      go_wp2_with fail
      go_roundg 0
      case measure => omega
      case rel => exact ⟨10, by omega, by go_num, H6, HC6, E⟩
end Go.Proofs.YtmddfkpkddemnaaGreatDoor
namespace Go.Proofs.YtmddfkpkddemnaaGreatDoor
open Go.RowKit
theorem idxF_map {α β : Type} (f : α → β) (p : β → Bool) : ∀ (l : List α) (i : Nat), idxF p (l.map f) i = idxF (fun x => p (f x)) l i
  | [], _ => rfl
  | x :: r, i => by
    rw [List.map_cons]
    unfold idxF
    rw [idxF_map f p r]
theorem lsGo_map {α β : Type} (f : α → β) (name : β → List UInt8) (len : β → Nat) (inner : β → Int) (most : Int) (all : List α) : ∀ (l : List α) (k : Nat), lsGo name len inner most (all.map f) (l.map f) k = lsGo (fun x => name (f x)) (fun x => len (f x)) (fun x => inner (f x)) most all l k
  | [], _ => rfl
  | x :: r, k => by
    rw [List.map_cons]
    unfold lsGo
    rw [lsGo_map f name len inner most all r, idxF_map]
theorem lsE_map {α β : Type} (f : α → β) (name : β → List UInt8) (len : β → Nat) (inner : β → Int) (most : Int) (l : List α) : lsE name len inner most (l.map f) = lsE (fun x => name (f x)) (fun x => len (f x)) (fun x => inner (f x)) most l := by
  unfold lsE
  rw [lsGo_map]
  simp only [List.length_map]
def erP (x : PList) : PList := ⟨x.name, .slice none 0 0, x.rules⟩
def erM (x : RMap) : RMap := ⟨x.name, .slice none 0 0, x.clauses⟩
def erA (x : AList) : AList := ⟨x.name, .slice none 0 0, x.rules⟩
theorem idxP (n : List UInt8) (l : List PList) : idxF (fun y => y.name == n) (l.map erP) 0 = idxF (fun y => y.name == n) l 0 := by rw [idxF_map]; rfl
theorem idxM (n : List UInt8) (l : List RMap) : idxF (fun y => y.name == n) (l.map erM) 0 = idxF (fun y => y.name == n) l 0 := by rw [idxF_map]; rfl
theorem idxA (n : List UInt8) (l : List AList) : idxF (fun y => y.name == n) (l.map erA) 0 = idxF (fun y => y.name == n) l 0 := by rw [idxF_map]; rfl
theorem clE_er (l : List PList) : clE (l.map erP) = clE l := by funext c; unfold clE; rw [idxP]
theorem routerE_plain (r : Rt) : routerE r.plain = routerE r := by
  have hP : r.plain.lists = r.lists.map erP := rfl
  have hM : r.plain.maps = r.maps.map erM := rfl
  have hA : r.plain.acls = r.acls.map erA := rfl
  have e1 : plsE r.plain.lists = plsE r.lists := by rw [hP]; unfold plsE; rw [lsE_map]; rfl
  have e2 : mapsE r.plain.lists r.plain.maps = mapsE r.lists r.maps := by rw [hP, hM]; unfold mapsE; rw [lsE_map, clE_er]; rfl
  have e3 : aclsE r.plain.acls = aclsE r.acls := by rw [hA]; unfold aclsE; rw [lsE_map]; rfl
  have n1 : natE (r.acls.map erA) = natE r.acls := by funext x; unfold natE; rw [idxA]
  have e4 : natsE r.plain.acls r.plain.nat = natsE r.acls r.nat := by rw [hA]; unfold natsE; rw [n1]; rfl
  have n2 : filtE (r.acls.map erA) = filtE r.acls := by funext x; unfold filtE lacksB; rw [idxA, idxA]
  have e5 : firstE (filtE r.plain.acls) r.plain.ifs = firstE (filtE r.acls) r.ifs := by rw [hA, n2]; rfl
  have n3 : ∀ i m q t, redE (r.maps.map erM) i m q t = redE r.maps i m q t := fun i m q t => by
    funext l
    unfold redE
    congr 1
    funext x
    unfold redF lacksB
    rw [idxM]
  have e6 : lnkE r.plain = lnkE r := by unfold lnkE; rw [hM, n3]; rfl
  have n4 : dnF r.plain = dnF r := by unfold dnF lacksB; rw [hP, idxP, idxP]; rfl
  have e7 : dvE r.plain = dvE r := by unfold dvE; rw [hM, n3, n4]; rfl
  have n5 : nbsE (r.maps.map erM) r.plain.nb = nbsE r.maps r.nb := by
    unfold nbsE
    have n6 : nbF (r.maps.map erM) = nbF r.maps := by funext x; unfold nbF lacksB; rw [idxM, idxM]
    rw [n6]
    rfl
  have e8 : pvE r.plain = pvE r := by unfold pvE; rw [hM, n3, n5]; rfl
  unfold routerE secsE
  rw [e1, e2, e3, e4, e5, e6, e7, e8]
  rfl
end Go.Proofs.YtmddfkpkddemnaaGreatDoor
