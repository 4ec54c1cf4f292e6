/- The reference's CheckRouter, of a valid router. Conditions: the router lies in memory, addresses are numbers below 2^32. -/
import Derived.Test.YtmddfkpkddemnaaGreatDoorVal
import Derived.Test.YtmddfkpkddemnaaGreatDoorVaa
namespace Go.Proofs.YtmddfkpkddemnaaGreatDoor
open Go.RowKit
theorem lnk_ok {r : Rt} (h : lnkE r = 0) : (r.lsOn = false ∧ r.lsAdmin = 0 ∧ r.ranges.length = 0 ∧ r.lsRed.length = 0) ∨ (r.lsOn = true ∧ withinB r.lsAdmin 1 255 = true ∧ pairE 4 arF clashAR 6 r.ranges = 0 ∧ redE r.maps 3 0 16777215 2 r.lsRed = 0) := by
  unfold lnkE at h
  cases ho : r.lsOn with
  | true =>
    rw [ho] at h
    simp only [if_true] at h
    obtain ⟨h1, h2⟩ := if_ok h (by decide)
    obtain ⟨h3, h4⟩ := first_two h2
    exact .inr ⟨rfl, h1, h3, h4⟩
  | false =>
    rw [ho] at h
    simp only [Bool.false_eq_true, if_false] at h
    obtain ⟨h1, -⟩ := if_no (a := 0) h (by decide)
    simp at h1
    exact .inl ⟨rfl, by simp_all, by simp_all, by simp_all⟩
theorem dv_ok {r : Rt} (h : dvE r = 0) : (r.dvOn = false ∧ r.dvAdmin = 0 ∧ r.dvIn = [] ∧ r.dvOut = [] ∧ r.dvRed.length = 0) ∨ (r.dvOn = true ∧ withinB r.dvAdmin 1 255 = true ∧ (r.dvIn ≠ [] → decide (idxF (fun y => y.name == r.dvIn) r.lists 0 < 0) = false) ∧ (r.dvOut ≠ [] → decide (idxF (fun y => y.name == r.dvOut) r.lists 0 < 0) = false) ∧ redE r.maps 4 1 15 0 r.dvRed = 0) := by
  unfold dvE at h
  cases ho : r.dvOn with
  | true =>
    rw [ho] at h
    simp only [if_true] at h
    obtain ⟨h1, h2⟩ := if_ok h (by decide)
    obtain ⟨h3, h4⟩ := first_two h2
    unfold dnF at h3
    obtain ⟨h5, -⟩ := if_no (a := 0) h3 (by decide)
    rw [Bool.or_eq_false_iff] at h5
    exact .inr ⟨rfl, h1, lacks_ok h5.1, lacks_ok h5.2, h4⟩
  | false =>
    rw [ho] at h
    simp only [Bool.false_eq_true, if_false] at h
    obtain ⟨h1, -⟩ := if_no (a := 0) h (by decide)
    simp at h1
    exact .inl ⟨rfl, by simp_all, by simp_all, by simp_all, by simp_all⟩
theorem ar_ok {x : AR} (h : arF x = 0) : withinB x.area 0 255 = true ∧ validP x.pa x.pl = true := by
  unfold arF at h
  simpa using (if_ok h (by decide)).1
set_option maxRecDepth 100000 in
set_option maxHeartbeats 8000000 in
theorem rlink_ok (r : Rt) (w : World) (B : Nat) (hB : B ≤ w.heap.size) (h : r.at w B) (hf : ∀ x ∈ r.ranges, x.fit) (hz : lnkE r = 0) : Calls Tryz.prog 27 #[.agg r.C] w fun e w' => e = .returned (.int .i64 0) ∧ Below w.heap.size w w' := by
  have HBB := Lib.hid hB
  have H0 := RB.start r w
  have HR := Lib.hid h
  have HWI := Lib.hid rwithin_any
  have HF := Lib.hid hf
  have hl := h.hranges
  have hlen := hl.len
  simp only [maxLen] at hlen
  obtain ⟨A, c, hv, -⟩ := id hl
  obtain ⟨A2, c2, hv2, -⟩ := id h.hlsRed
  have HLR := h.hlsRed
  rw [hv2] at HLR
  rw [hv] at hl
  replace HLR := Lib.hid HLR
  have HS := Lib.hid hl
  have HZR := Lib.hid hz
  clear hf hl hz
  have HO : (#[.bool r.lsOn, .int .i64 r.lsAdmin, .slice A r.ranges.length c, .slice A2 r.lsRed.length c2] : Array Value).all (·.oneCell') = true := by
    rw [Array.all_eq_true_iff_forall_mem]
    intro v hv
    simp only [List.mem_toArray, List.mem_cons, List.not_mem_nil, or_false] at hv
    rcases hv with rfl | rfl | rfl | rfl <;> rfl
  have HSh := Lib.hid (H0.h.sub 8 #[.bool r.lsOn, .int .i64 r.lsAdmin, .slice A r.ranges.length c, .slice A2 r.lsRed.length c2] (fun j hj => by
    have hj' : j < 4 := hj
    rcases (show j = 0 ∨ j = 1 ∨ j = 2 ∨ j = 3 by omega) with rfl | rfl | rfl | rfl <;> first | rfl | (show some _ = some _; simp only [Option.some.injEq]; assumption)))
  have H0h := Lib.hid H0
  clear H0 hv hv2 h hB
  go_enter Tryz.func27, Tryz.ntmps27
  go_upto_region 2 with (refine wpList_loadRow rfl 31 _ rfl rfl HSh.out Tryz.rowLS Tryz.sizeLS ?_)
  have H5 : Hid (RBL r w 31 (w.alloc (.cells r.C 41)).heap.size #[.bool r.lsOn, .int .i64 r.lsAdmin, .slice A r.ranges.length c, .slice A2 r.lsRed.length c2] ((w.alloc (.cells r.C 41)).alloc (.cells #[.bool r.lsOn, .int .i64 r.lsAdmin, .slice A r.ranges.length c, .slice A2 r.lsRed.length c2] 31))) := Lib.hid ⟨(H0h.out.keep ((Below.refl _ _).alloc (Nat.le_refl _) _)).h, (H0h.out.keep ((Below.refl _ _).alloc (Nat.le_refl _) _)).b, HasC.new _ _ _⟩
  clear H0h HSh HO
  generalize hw5 : (w.alloc (.cells r.C 41)).alloc (.cells #[.bool r.lsOn, .int .i64 r.lsAdmin, .slice A r.ranges.length c, .slice A2 r.lsRed.length c2] 31) = w5 at H5 ⊢
  clear hw5
  rw [show (w.alloc (.cells r.C 41)).heap.size = w.heap.size + 1 from by simp] at H5
  generalize w.heap.size + 1 = gl at H5 ⊢
  have lc0 : w5.cell? ⟨gl, 0, none⟩ = some (.bool r.lsOn) := H5.out.l.cell 0
  have lc1 : w5.cell? ⟨gl, 1, none⟩ = some (.int .i64 r.lsAdmin) := H5.out.l.cell 1
  have lc2 : w5.cell? ⟨gl, 2, none⟩ = some (.slice A r.ranges.length c) := H5.out.l.cell 2
  have lc3 : w5.cell? ⟨gl, 3, none⟩ = some (.slice A2 r.lsRed.length c2) := H5.out.l.cell 3
  rcases lnk_ok HZR.out with ⟨o1, o2, o3, o4⟩ | ⟨o1, o2, o3, o4⟩
  · rw [o1] at lc0
    rw [o2] at lc1
    rw [o3] at lc2
    rw [o4] at lc3
    clear HR HF HS HLR
    go_wp2_with fail
    go_ret
    exact ⟨rfl, H5.out.b⟩
  rw [o1] at lc0
  have HRD := Lib.hid o4
  obtain ⟨h8, hO⟩ := pair_okE (by decide) o3
  have HO := Lib.hid hO
  have CL : Hid (∀ W, RBL r w 31 gl (#[.bool r.lsOn, .int .i64 r.lsAdmin, .slice A r.ranges.length c, .slice A2 r.lsRed.length c2]) W → W.cell? ⟨gl, 2, none⟩ = some (.slice A r.ranges.length c) ∧ W.cell? ⟨gl, 3, none⟩ = some (.slice A2 r.lsRed.length c2)) := Lib.hid (fun W h => ⟨h.l.cell 2, h.l.cell 3⟩)
  generalize (#[.bool r.lsOn, .int .i64 r.lsAdmin, .slice A r.ranges.length c, .slice A2 r.lsRed.length c2] : Array Value) = cs at H5 CL
  have d8 : ¬ ((4 : Int) < (r.ranges.length : Int)) := by omega
  clear hO o1 o3 o4 HZR
  generalize r.ranges = l at *
  go_wp2_with (go_at_call 19; refine (HWI.out _ _ _ _).mono ?_; rintro e w' ⟨rfl, rfl⟩)
  clear d8 o2 lc0 lc1 lc2 lc3
  go_loopg [4] l.length (fun gh ix wr => ∃ k : Nat, k + gh = l.length ∧ ix = .int .i64 k ∧ Hid (RBL r w 31 gl cs wr))
  case atStart => exact ⟨0, by omega, rfl, H5⟩
  case round =>
    clear H5
    obtain ⟨k, hk, rfl, HB⟩ := hrel
    obtain ⟨cl, cm⟩ := CL.out wr HB.out
    by_cases hlt : k < l.length
    case neg =>
      have hkz : ¬ ((k : Int) < (l.length : Int)) := by omega
      go_wp2_with (first | (refine wpList_loadRow rfl 41 _ rfl rfl HB.out.h.range Tryz.rowRt Tryz.sizeRt ?_) | (refine wpList_unguard (by rfl) (wpList_loadRow rfl 41 _ rfl rfl HB.out.h.range Tryz.rowRt Tryz.sizeRt ?_)))
      with_reducible refine (rred_ok r r.lsRed (.slice A2 r.lsRed.length c2) 3 0 16777215 2 (.inl ⟨rfl, rfl⟩) wr B (Nat.le_trans HBB.out HB.out.b.size) (HR.out.below (HB.out.b.mono HBB.out)) (HLR.out.below (HB.out.b.mono HBB.out)) HRD.out).mono ?_
      rintro e w7 ⟨rfl, hb⟩
      have H7 := Lib.hid (HB.out.keep hb)
      clear hb
      go_wp2_with fail
      go_ret
      exact ⟨rfl, H7.out.b⟩
    have hkz : (k : Int) < (l.length : Int) := by omega
    obtain ⟨g, o, c', e', -, hg, R0⟩ := HS.out.elem (n := 3) (by decide) (fun _ => rfl) hlt
    injection e' with e1 e2 e3
    subst e1 e3
    obtain ⟨n1, n2⟩ := HO.out k hlt
    have FX := Lib.hid (HF.out _ (List.getElem_mem hlt))
    have XA : Hid (∀ W, RBL r w 31 gl cs W → W.cell? ⟨g, o + k * 3, none⟩ = some (.int .i64 l[k].area) ∧ W.cell? ⟨g, o + k * 3 + 1, none⟩ = some (.int .u32 (l[k].pa : Int)) ∧ W.cell? ⟨g, o + k * 3 + 2, none⟩ = some (.int .i64 l[k].pl)) := Lib.hid (fun W h => have hb := h.b.mono HBB.out; ⟨(hb.cell (p := ⟨g, o + k * 3, none⟩) hg).trans (R0 0 _ rfl), (hb.cell (p := ⟨g, o + k * 3 + 1, none⟩) hg).trans (R0 1 _ rfl), (hb.cell (p := ⟨g, o + k * 3 + 2, none⟩) hg).trans (R0 2 _ rfl)⟩)
    have N2 := Lib.hid n2
    obtain ⟨k1, k2⟩ := ar_ok n1
    have hvd := rvalid_any l[k].pa l[k].pl wr FX.out
    rw [k2] at hvd
    unfold PV at hvd
    have HVD := Lib.hid hvd
    clear R0 e2 n1 n2 hvd k2
    generalize l[k] = x at *
    obtain ⟨xa, xp, xl⟩ := XA.out wr HB.out
    go_wp2_with (go_at_call 19; refine (HWI.out _ _ _ _).mono ?_; rintro e w' ⟨rfl, rfl⟩)
    refine HVD.out.mono ?_
    rintro e wz ⟨rfl, hb⟩
    have HZ := Lib.hid (HB.out.keep hb)
    clear hb xa xp xl k1 HVD HB cl cm
    go_wp2_with fail
    go_loopg [5] k (fun gh ix wq => ∃ j : Nat, j + gh = k ∧ ix = .int .i64 j ∧ Hid (RBL r w 31 gl cs wq))
    case atStart => exact ⟨0, by omega, rfl, HZ⟩
    case round =>
      clear HZ
      obtain ⟨j, hj, rfl, HQ⟩ := hrel
      by_cases hjl : j < k
      case neg =>
        have hjz : ¬ ((j : Int) < (k : Int)) := by omega
        go_wp2_with fail
        go_roundg (l.length - (k + 1))
        case measure => omega
        case rel => exact ⟨k + 1, by omega, by go_num, HQ⟩
      have hjn : j < l.length := by omega
      have hjz : (j : Int) < (k : Int) := by omega
      have hjm : (j : Int) < (l.length : Int) := by omega
      obtain ⟨g', o', c'', e', -, hg', R0⟩ := HS.out.elem (n := 3) (by decide) (fun _ => rfl) hjn
      injection e' with e1 e2 e3
      injection e1 with e1
      injection e1 with e1 e4
      subst e1 e4
      have NE := N2.out j hjn hjl
      have FY := Lib.hid (HF.out _ (List.getElem_mem hjn))
      have YA : Hid (∀ W, RBL r w 31 gl cs W → W.cell? ⟨g, o + j * 3, none⟩ = some (.int .i64 l[j].area) ∧ W.cell? ⟨g, o + j * 3 + 1, none⟩ = some (.int .u32 (l[j].pa : Int)) ∧ W.cell? ⟨g, o + j * 3 + 2, none⟩ = some (.int .i64 l[j].pl)) := Lib.hid (fun W h => have hb := h.b.mono HBB.out; ⟨(hb.cell (p := ⟨g, o + j * 3, none⟩) hg').trans (R0 0 _ rfl), (hb.cell (p := ⟨g, o + j * 3 + 1, none⟩) hg').trans (R0 1 _ rfl), (hb.cell (p := ⟨g, o + j * 3 + 2, none⟩) hg').trans (R0 2 _ rfl)⟩)
      clear R0 e2 e3
      generalize l[j] = y at NE FY YA
      have PO := Lib.hid (fun W => roverlaps_any y.pa y.pl x.pa x.pl W FY.out FX.out)
      unfold PV at PO
      unfold clashAR at NE
      have NA : (y.area == x.area) = false ∨ ((y.area == x.area) = true ∧ overP y.pa y.pl x.pa x.pl = false) := by
        cases ha : (y.area == x.area) with
        | false => exact .inl rfl
        | true => rw [ha, Bool.true_and] at NE; exact .inr ⟨rfl, NE⟩
      clear NE
      obtain ⟨cl, cm⟩ := CL.out wr HQ.out
      go_wp2_with fail
      refine wp_region_seq (fun W => RBL r w 31 gl cs W) (by kernel_rfl) (by kernel_rfl) (HQ.out.keep (belowDrew wr)) ?_
      rcases NA with NA | ⟨NA, NB⟩
      all_goals
        repeat
          (first
            | (refine seq_skip ?_ ?_; (· rfl))
            | (refine seq_value (v := ?_) ?_ ?_ ?_; rotate_left; (· rfl); (· (intro W hW; obtain ⟨xa, xp, xl⟩ := XA.out W hW; obtain ⟨ya, yp, yl⟩ := YA.out W hW; obtain ⟨cl, cm⟩ := CL.out W hW; go_simp <;> rfl)))
            | (refine seq_call ?_ ?_ (fun W hW => (PO.out W).mono fun e w' ⟨he, hb⟩ => ⟨he, hW.keep hb⟩) ?_; (· rfl); (· (intro W hW; go_simp <;> rfl))))
          simp only [Act.put, List.setIfInBounds_toArray, List.set_cons_zero, List.set_cons_succ]
        refine seq_done (fun wq hS => ?_)
        have HZ := Lib.hid hS
        clear hS YA PO HQ cl cm
        go_wp2_with fail
        go_roundg (k - (j + 1))
        case measure => omega
        case rel => exact ⟨j + 1, by omega, by go_num, HZ⟩
set_option maxRecDepth 100000 in
set_option maxHeartbeats 8000000 in
theorem rdistance_ok (r : Rt) (w : World) (B : Nat) (hB : B ≤ w.heap.size) (h : r.at w B) (hz : dvE r = 0) : Calls Tryz.prog 28 #[.agg r.C] w fun e w' => e = .returned (.int .i64 0) ∧ Below w.heap.size w w' := by
  have HBB := Lib.hid hB
  have H0 := RB.start r w
  have HR := Lib.hid h
  have HWI := Lib.hid rwithin_any
  obtain ⟨A2, c2, hv2, -⟩ := id h.hdvRed
  have HLR := h.hdvRed
  rw [hv2] at HLR
  replace HLR := Lib.hid HLR
  have HZR := Lib.hid hz
  clear hz
  have HO : (#[.bool r.dvOn, .int .i64 r.dvAdmin, .string (str r.dvIn), .string (str r.dvOut), .slice A2 r.dvRed.length c2] : Array Value).all (·.oneCell') = true := by
    rw [Array.all_eq_true_iff_forall_mem]
    intro v hv
    simp only [List.mem_toArray, List.mem_cons, List.not_mem_nil, or_false] at hv
    rcases hv with rfl | rfl | rfl | rfl | rfl <;> rfl
  have HSh := Lib.hid (H0.h.sub 12 #[.bool r.dvOn, .int .i64 r.dvAdmin, .string (str r.dvIn), .string (str r.dvOut), .slice A2 r.dvRed.length c2] (fun j hj => by
    have hj' : j < 5 := hj
    rcases (show j = 0 ∨ j = 1 ∨ j = 2 ∨ j = 3 ∨ j = 4 by omega) with rfl | rfl | rfl | rfl | rfl <;> first | rfl | (show some _ = some _; simp only [Option.some.injEq]; assumption)))
  have H0h := Lib.hid H0
  clear H0 hv2 h hB
  go_enter Tryz.func28, Tryz.ntmps28
  go_upto_region 2 with (refine wpList_loadRow rfl 33 _ rfl rfl HSh.out Tryz.rowDV Tryz.sizeDV ?_)
  have H5 : Hid (RBL r w 33 (w.alloc (.cells r.C 41)).heap.size #[.bool r.dvOn, .int .i64 r.dvAdmin, .string (str r.dvIn), .string (str r.dvOut), .slice A2 r.dvRed.length c2] ((w.alloc (.cells r.C 41)).alloc (.cells #[.bool r.dvOn, .int .i64 r.dvAdmin, .string (str r.dvIn), .string (str r.dvOut), .slice A2 r.dvRed.length c2] 33))) := Lib.hid ⟨(H0h.out.keep ((Below.refl _ _).alloc (Nat.le_refl _) _)).h, (H0h.out.keep ((Below.refl _ _).alloc (Nat.le_refl _) _)).b, HasC.new _ _ _⟩
  clear H0h HSh HO
  generalize hw5 : (w.alloc (.cells r.C 41)).alloc (.cells #[.bool r.dvOn, .int .i64 r.dvAdmin, .string (str r.dvIn), .string (str r.dvOut), .slice A2 r.dvRed.length c2] 33) = w5 at H5 ⊢
  clear hw5
  rw [show (w.alloc (.cells r.C 41)).heap.size = w.heap.size + 1 from by simp] at H5
  generalize w.heap.size + 1 = gl at H5 ⊢
  have lc0 : w5.cell? ⟨gl, 0, none⟩ = some (.bool r.dvOn) := H5.out.l.cell 0
  have lc1 : w5.cell? ⟨gl, 1, none⟩ = some (.int .i64 r.dvAdmin) := H5.out.l.cell 1
  have lc2 : w5.cell? ⟨gl, 2, none⟩ = some (.string (str r.dvIn)) := H5.out.l.cell 2
  have lc3 : w5.cell? ⟨gl, 3, none⟩ = some (.string (str r.dvOut)) := H5.out.l.cell 3
  have lc4 : w5.cell? ⟨gl, 4, none⟩ = some (.slice A2 r.dvRed.length c2) := H5.out.l.cell 4
  rcases dv_ok HZR.out with ⟨o1, o2, o3, o4, o5⟩ | ⟨o1, o2, o3, o4, o5⟩
  · rw [o1] at lc0
    rw [o2] at lc1
    rw [o3] at lc2
    rw [o4] at lc3
    rw [o5] at lc4
    have tn := toList_str ([] : List UInt8)
    clear HR HLR HZR
    go_wp2_with fail
    go_ret
    exact ⟨rfl, H5.out.b⟩
  rw [o1] at lc0
  have O3 := Lib.hid o3
  have O4 := Lib.hid o4
  have O5 := Lib.hid o5
  have HLT : Hid (∀ w', RBL r w 33 gl #[.bool r.dvOn, .int .i64 r.dvAdmin, .string (str r.dvIn), .string (str r.dvOut), .slice A2 r.dvRed.length c2] w' → w'.cell? ⟨gl, 4, none⟩ = some (.slice A2 r.dvRed.length c2)) := Lib.hid (fun w' h => h.l.cell 4)
  clear o3 o4 o5 HZR lc2 lc3 lc4
  have y2 : w5.cell? ⟨gl, 2, none⟩ = some (.string (str r.dvIn)) := H5.out.l.cell 2
  by_cases hn6 : r.dvIn = []
  · rw [hn6] at y2
    have tn6 := toList_str ([] : List UInt8)
    have y3 : w5.cell? ⟨gl, 3, none⟩ = some (.string (str r.dvOut)) := H5.out.l.cell 3
    by_cases hn7 : r.dvOut = []
    · rw [hn7] at y3
      have tn7 := toList_str ([] : List UInt8)
      have lz := HLT.out _ H5.out
      go_wp2_with (first | (go_at_call 19; refine (HWI.out _ _ _ _).mono ?_; rintro e w' ⟨rfl, rfl⟩) | (first | (refine wpList_loadRow rfl 41 _ rfl rfl H5.out.h.range Tryz.rowRt Tryz.sizeRt ?_) | (refine wpList_unguard (by rfl) (wpList_loadRow rfl 41 _ rfl rfl H5.out.h.range Tryz.rowRt Tryz.sizeRt ?_))))
      with_reducible refine (rred_ok r r.dvRed (.slice A2 r.dvRed.length c2) 4 1 15 0 (.inr ⟨by decide, rfl⟩) w5 B (Nat.le_trans HBB.out H5.out.b.size) (HR.out.below (H5.out.b.mono HBB.out)) (HLR.out.below (H5.out.b.mono HBB.out)) O5.out).mono ?_
      rintro e wz ⟨rfl, hb⟩
      have HZ := Lib.hid (H5.out.keep hb)
      clear hb lz
      go_wp2_with fail
      go_ret
      exact ⟨rfl, HZ.out.b⟩
    obtain ⟨i7, j7, k7⟩ := ne_str hn7
    have d7 := O4.out hn7
    go_wp2_with (first | (go_at_call 19; refine (HWI.out _ _ _ _).mono ?_; rintro e w' ⟨rfl, rfl⟩) | (first | (refine wpList_loadRow rfl 41 _ rfl rfl H5.out.h.range Tryz.rowRt Tryz.sizeRt ?_) | (refine wpList_unguard (by rfl) (wpList_loadRow rfl 41 _ rfl rfl H5.out.h.range Tryz.rowRt Tryz.sizeRt ?_))))
    with_reducible refine (rlookPList_any r r.dvOut w5 B (HR.out.below (H5.out.b.mono HBB.out)) (Nat.le_trans HBB.out H5.out.b.size)).mono ?_
    rintro e w7 ⟨rfl, hb⟩
    have H7 := Lib.hid (H5.out.keep hb)
    clear hb y3 i7 j7 k7
    have lz := HLT.out _ H7.out
    go_wp2_with (first | (go_at_call 19; refine (HWI.out _ _ _ _).mono ?_; rintro e w' ⟨rfl, rfl⟩) | (first | (refine wpList_loadRow rfl 41 _ rfl rfl H7.out.h.range Tryz.rowRt Tryz.sizeRt ?_) | (refine wpList_unguard (by rfl) (wpList_loadRow rfl 41 _ rfl rfl H7.out.h.range Tryz.rowRt Tryz.sizeRt ?_))))
    with_reducible refine (rred_ok r r.dvRed (.slice A2 r.dvRed.length c2) 4 1 15 0 (.inr ⟨by decide, rfl⟩) w7 B (Nat.le_trans HBB.out H7.out.b.size) (HR.out.below (H7.out.b.mono HBB.out)) (HLR.out.below (H7.out.b.mono HBB.out)) O5.out).mono ?_
    rintro e wz ⟨rfl, hb⟩
    have HZ := Lib.hid (H7.out.keep hb)
    clear hb lz
    go_wp2_with fail
    go_ret
    exact ⟨rfl, HZ.out.b⟩
  obtain ⟨i6, j6, k6⟩ := ne_str hn6
  have d6 := O3.out hn6
  go_wp2_with (first | (go_at_call 19; refine (HWI.out _ _ _ _).mono ?_; rintro e w' ⟨rfl, rfl⟩) | (first | (refine wpList_loadRow rfl 41 _ rfl rfl H5.out.h.range Tryz.rowRt Tryz.sizeRt ?_) | (refine wpList_unguard (by rfl) (wpList_loadRow rfl 41 _ rfl rfl H5.out.h.range Tryz.rowRt Tryz.sizeRt ?_))))
  with_reducible refine (rlookPList_any r r.dvIn w5 B (HR.out.below (H5.out.b.mono HBB.out)) (Nat.le_trans HBB.out H5.out.b.size)).mono ?_
  rintro e w6 ⟨rfl, hb⟩
  have H6 := Lib.hid (H5.out.keep hb)
  clear hb y2 i6 j6 k6
  have y3 : w6.cell? ⟨gl, 3, none⟩ = some (.string (str r.dvOut)) := H6.out.l.cell 3
  by_cases hn7 : r.dvOut = []
  · rw [hn7] at y3
    have tn7 := toList_str ([] : List UInt8)
    have lz := HLT.out _ H6.out
    go_wp2_with (first | (go_at_call 19; refine (HWI.out _ _ _ _).mono ?_; rintro e w' ⟨rfl, rfl⟩) | (first | (refine wpList_loadRow rfl 41 _ rfl rfl H6.out.h.range Tryz.rowRt Tryz.sizeRt ?_) | (refine wpList_unguard (by rfl) (wpList_loadRow rfl 41 _ rfl rfl H6.out.h.range Tryz.rowRt Tryz.sizeRt ?_))))
    with_reducible refine (rred_ok r r.dvRed (.slice A2 r.dvRed.length c2) 4 1 15 0 (.inr ⟨by decide, rfl⟩) w6 B (Nat.le_trans HBB.out H6.out.b.size) (HR.out.below (H6.out.b.mono HBB.out)) (HLR.out.below (H6.out.b.mono HBB.out)) O5.out).mono ?_
    rintro e wz ⟨rfl, hb⟩
    have HZ := Lib.hid (H6.out.keep hb)
    clear hb lz
    go_wp2_with fail
    go_ret
    exact ⟨rfl, HZ.out.b⟩
  obtain ⟨i7, j7, k7⟩ := ne_str hn7
  have d7 := O4.out hn7
  go_wp2_with (first | (go_at_call 19; refine (HWI.out _ _ _ _).mono ?_; rintro e w' ⟨rfl, rfl⟩) | (first | (refine wpList_loadRow rfl 41 _ rfl rfl H6.out.h.range Tryz.rowRt Tryz.sizeRt ?_) | (refine wpList_unguard (by rfl) (wpList_loadRow rfl 41 _ rfl rfl H6.out.h.range Tryz.rowRt Tryz.sizeRt ?_))))
  with_reducible refine (rlookPList_any r r.dvOut w6 B (HR.out.below (H6.out.b.mono HBB.out)) (Nat.le_trans HBB.out H6.out.b.size)).mono ?_
  rintro e w7 ⟨rfl, hb⟩
  have H7 := Lib.hid (H6.out.keep hb)
  clear hb y3 i7 j7 k7
  have lz := HLT.out _ H7.out
  go_wp2_with (first | (go_at_call 19; refine (HWI.out _ _ _ _).mono ?_; rintro e w' ⟨rfl, rfl⟩) | (first | (refine wpList_loadRow rfl 41 _ rfl rfl H7.out.h.range Tryz.rowRt Tryz.sizeRt ?_) | (refine wpList_unguard (by rfl) (wpList_loadRow rfl 41 _ rfl rfl H7.out.h.range Tryz.rowRt Tryz.sizeRt ?_))))
  with_reducible refine (rred_ok r r.dvRed (.slice A2 r.dvRed.length c2) 4 1 15 0 (.inr ⟨by decide, rfl⟩) w7 B (Nat.le_trans HBB.out H7.out.b.size) (HR.out.below (H7.out.b.mono HBB.out)) (HLR.out.below (H7.out.b.mono HBB.out)) O5.out).mono ?_
  rintro e wz ⟨rfl, hb⟩
  have HZ := Lib.hid (H7.out.keep hb)
  clear hb lz
  go_wp2_with fail
  go_ret
  exact ⟨rfl, HZ.out.b⟩
end Go.Proofs.YtmddfkpkddemnaaGreatDoor
namespace Go.Proofs.YtmddfkpkddemnaaGreatDoor
open Go.RowKit
theorem RB.range {r : Rt} {w0 w : World} (h : RB r w0 w) : w.rangeAt w0.heap.size 0 r.C.toList := h.h.range
theorem nbR_ok {maps : List RMap} {x : Nb} (h : nbF maps x = 0) : x.addr ≠ 0 ∧ withinB x.asn 1 65535 = true ∧ (x.inn ≠ [] → decide (idxF (fun y => y.name == x.inn) maps 0 < 0) = false) ∧ (x.out ≠ [] → decide (idxF (fun y => y.name == x.out) maps 0 < 0) = false) := by
  unfold nbF at h
  obtain ⟨hr, h⟩ := if_ok h (by decide)
  obtain ⟨hl, -⟩ := if_no (a := 0) h (by decide)
  rw [Bool.or_eq_false_iff] at hl
  simp only [Bool.and_eq_true, Bool.not_eq_true', beq_eq_false_iff_ne] at hr
  exact ⟨hr.1, hr.2, lacks_ok hl.1, lacks_ok hl.2⟩
set_option maxRecDepth 100000 in
set_option maxHeartbeats 8000000 in
theorem rneighbors_ok (r : Rt) (w : World) (B : Nat) (hB : B ≤ w.heap.size) (h : r.at w B) (hz : nbsE r.maps r.nb = 0) : Calls Tryz.prog 68 #[.agg r.C] w fun e w' => e = .returned (.int .i64 0) ∧ Below w.heap.size w w' := by
  have HBB := Lib.hid hB
  have HR := Lib.hid h
  have HB := Lib.hid (RB.start r w)
  have HWI := Lib.hid rwithin_any
  have hl := h.hnb
  have hlen := hl.len
  simp only [maxLen] at hlen
  obtain ⟨h8, hO⟩ := pair_okE (by decide) hz
  have c20 : (w.alloc (.cells r.C 41)).cell? ⟨w.heap.size, 20, none⟩ = some r.nbV := HB.out.h.cell 20
  generalize r.nb = l at *
  obtain ⟨A, c, hv, -⟩ := id hl
  rw [hv] at hl c20
  have HO := Lib.hid hO
  have HS := Lib.hid hl
  have d8 : ¬ ((8 : Int) < (l.length : Int)) := by omega
  clear h hz hO hl hv
  go_enter Tryz.func68, Tryz.ntmps68
  go_wp2_with fail
  clear d8 c20
  go_loopg [4] l.length (fun gh ix wr => ∃ k : Nat, k + gh = l.length ∧ ix = .int .i64 k ∧ Hid (RB r w wr))
  case atStart => exact ⟨0, by omega, rfl, HB⟩
  case round =>
    clear HB
    obtain ⟨k, hk, rfl, HB⟩ := hrel
    by_cases hlt : k < l.length
    case neg =>
      have hkz : ¬ ((k : Int) < (l.length : Int)) := by omega
      go_wp2_with fail
      go_ret
      exact ⟨rfl, HB.out.b⟩
    have hkz : (k : Int) < (l.length : Int) := by omega
    obtain ⟨g, o, c', e', -, hg, R0⟩ := HS.out.elem (n := 4) (by decide) (fun _ => rfl) hlt
    injection e' with e1 e2 e3
    subst e1 e3
    obtain ⟨n1, n2⟩ := HO.out k hlt
    have N2 := Lib.hid n2
    have XA : Hid (∀ W, RB r w W → W.cell? ⟨g, o + k * 4, none⟩ = some (.int .u32 (l[k].addr : Int)) ∧ W.cell? ⟨g, o + k * 4 + 1, none⟩ = some (.int .i64 l[k].asn) ∧ W.cell? ⟨g, o + k * 4 + 2, none⟩ = some (.string (str l[k].inn)) ∧ W.cell? ⟨g, o + k * 4 + 3, none⟩ = some (.string (str l[k].out))) := Lib.hid (fun W h => have hb := h.b.mono HBB.out; ⟨(hb.cell (p := ⟨g, o + k * 4, none⟩) hg).trans (R0 0 _ rfl), (hb.cell (p := ⟨g, o + k * 4 + 1, none⟩) hg).trans (R0 1 _ rfl), (hb.cell (p := ⟨g, o + k * 4 + 2, none⟩) hg).trans (R0 2 _ rfl), (hb.cell (p := ⟨g, o + k * 4 + 3, none⟩) hg).trans (R0 3 _ rfl)⟩)
    obtain ⟨k1, k2, k3, k4⟩ := nbR_ok n1
    have DI := Lib.hid k3
    have DO := Lib.hid k4
    clear R0 e2 n1 n2 k3 k4
    generalize l[k] = x at *
    obtain ⟨addr, asn, inn, out⟩ := x
    dsimp only at XA k1 k2 DI DO N2
    have v1 : ((addr : Int) == 0) = false := by simp; omega
    obtain ⟨xa, xs, xi, xo⟩ := XA.out wr HB.out
    go_wp2_with (go_at_call 19; refine (HWI.out _ _ _ _).mono ?_; rintro e w' ⟨rfl, rfl⟩)
    clear xa xs xi xo v1 k1 k2
    have LI := Lib.hid (fun W (h : RB r w W) => rlookRMap_any r inn W B (HR.out.below (h.b.mono HBB.out)) (Nat.le_trans HBB.out h.b.size))
    have LO := Lib.hid (fun W (h : RB r w W) => rlookRMap_any r out W B (HR.out.below (h.b.mono HBB.out)) (Nat.le_trans HBB.out h.b.size))
    have SI : inn = [] ∨ (((str inn).toList == []) = false ∧ ((str inn).toList != []) = true ∧ decide (idxF (fun y => y.name == inn) r.maps 0 < 0) = false) := by
      by_cases hn : inn = []
      · exact .inl hn
      · exact .inr ⟨(ne_str hn).2.1, (ne_str hn).2.2, DI.out hn⟩
    have SO : out = [] ∨ (((str out).toList == []) = false ∧ ((str out).toList != []) = true ∧ decide (idxF (fun y => y.name == out) r.maps 0 < 0) = false) := by
      by_cases hn : out = []
      · exact .inl hn
      · exact .inr ⟨(ne_str hn).2.1, (ne_str hn).2.2, DO.out hn⟩
    have tn := toList_str ([] : List UInt8)
    clear DI DO
    refine wp_region_seq (fun W => RB r w W) (by kernel_rfl) (by kernel_rfl) (HB.out.keep (belowDrew wr)) ?_
    rcases SI with rfl | ⟨s1, s2, s3⟩
    all_goals rcases SO with rfl | ⟨u1, u2, u3⟩
    all_goals
      repeat
        (first
          | (refine seq_skip ?_ ?_; (· rfl))
          | refine seq_yields (yieldsRow (by rfl) 41 _ rfl rfl (fun W hW => RB.range hW) Tryz.rowRt Tryz.sizeRt) ?_
          | (refine seq_value (v := ?_) ?_ ?_ ?_; rotate_left; (· rfl); (· (intro W hW; obtain ⟨xa, xs, xi, xo⟩ := XA.out W hW; go_simp <;> rfl)))
          | (refine seq_call ?_ ?_ (fun W hW => (LI.out W hW).mono fun e w' ⟨he, hb⟩ => ⟨he, hW.keep hb⟩) ?_; (· rfl); (· (intro W hW; go_simp <;> rfl)))
          | (refine seq_call ?_ ?_ (fun W hW => (LO.out W hW).mono fun e w' ⟨he, hb⟩ => ⟨he, hW.keep hb⟩) ?_; (· rfl); (· (intro W hW; go_simp <;> rfl))))
        simp only [Act.put, List.setIfInBounds_toArray, List.set_cons_zero, List.set_cons_succ]
      refine seq_done (fun wq hS => ?_)
      have HZ := Lib.hid hS
      clear hS LI LO HB
      go_wp2_with fail
      go_loopg [5] k (fun gh ix wq => ∃ j : Nat, j + gh = k ∧ ix = .int .i64 j ∧ Hid (RB r w wq))
      case atStart => exact ⟨0, by omega, rfl, HZ⟩
      case round =>
        clear HZ
        obtain ⟨j, hj, rfl, HQ⟩ := hrel
        obtain ⟨xa, xs, xi, xo⟩ := XA.out wr HQ.out
        by_cases hjl : j < k
        case pos =>
          have hjn : j < l.length := by omega
          have hjz : (j : Int) < (k : Int) := by omega
          have hjm : (j : Int) < (l.length : Int) := by omega
          obtain ⟨g', o', c'', e', -, hg', R0⟩ := HS.out.elem (n := 4) (by decide) (fun _ => rfl) hjn
          injection e' with e1 e2 e3
          injection e1 with e1
          injection e1 with e1 e4
          subst e1 e4
          have NE := N2.out j hjn hjl
          have y0 : wr.cell? ⟨g, o + j * 4, none⟩ = some (.int .u32 (l[j].addr : Int)) := rangeBelow R0 (HQ.out.b.mono HBB.out) hg' 0 _ rfl
          unfold sameNb at NE
          dsimp only at NE
          have NF : ((l[j].addr : Int) == (addr : Int)) = false := by
            have q : l[j].addr ≠ addr := by simpa using NE
            simp
            omega
          generalize l[j].addr = ya at y0 NF
          clear NE
          all_goals
            clear R0 e2 e3
            go_wp2_with fail
            go_still (by kernel_rfl)
            go_wp2_with fail
            go_roundg (k - (j + 1))
            case measure => omega
            case rel => exact ⟨j + 1, by omega, by go_num, Lib.hid (HQ.out.keep (belowDrew wr))⟩
        have hjz : ¬ ((j : Int) < (k : Int)) := by omega
        go_wp2_with fail
        go_roundg (l.length - (k + 1))
        case measure => omega
        case rel => exact ⟨k + 1, by omega, by go_num, HQ⟩
end Go.Proofs.YtmddfkpkddemnaaGreatDoor
namespace Go.Proofs.YtmddfkpkddemnaaGreatDoor
open Go.RowKit
theorem net_ok {x : Pf} (h : netF x = 0) : validP x.pa x.pl = true := (if_ok h (by decide)).1
theorem ag_ok {x : Ag} (h : agF x = 0) : validP x.pa x.pl = true := (if_ok h (by decide)).1
theorem cdR_ok {x : Cd} (h : cdF x = 0) : validP x.pa x.pl = true ∧ validP x.ia x.il = true ∧ decide (x.pa = x.ia ∧ x.pl = x.il) = false := by
  unfold cdF at h
  obtain ⟨h1, h2⟩ := if_ok h (by decide)
  rw [Bool.and_eq_true] at h1
  exact ⟨h1.1, h1.2, (if_no (a := 0) h2 (by decide)).1⟩
theorem orig_ok {r : Rt} (h : origE r = 0) : netsE r.net = 0 ∧ agsE r.ag = 0 ∧ cdsE r.cd = 0 := by
  unfold origE at h
  obtain ⟨h1, h2⟩ := first_two h
  exact ⟨h1, first_two h2⟩
theorem pv_ok {r : Rt} (h : pvE r = 0) : (r.pvOn = false ∧ r.ext = 0 ∧ r.int = 0 ∧ r.nb.length = 0 ∧ r.net.length = 0 ∧ r.ag.length = 0 ∧ r.cd.length = 0 ∧ r.pvRed.length = 0) ∨ (r.pvOn = true ∧ (r.asn == 0) = false ∧ withinB r.ext 1 255 = true ∧ withinB r.int 1 255 = true ∧ nbsE r.maps r.nb = 0 ∧ origE r = 0 ∧ redE r.maps 5 0 16777215 0 r.pvRed = 0) := by
  unfold pvE at h
  cases ho : r.pvOn with
  | true =>
    rw [ho] at h
    simp only [if_true] at h
    obtain ⟨h1, h2⟩ := if_ok h (by decide)
    obtain ⟨h3, h4⟩ := first_two h2
    obtain ⟨h5, h6⟩ := first_two h4
    simp only [Bool.and_eq_true, Bool.not_eq_true'] at h1
    exact .inr ⟨rfl, h1.1.1, h1.1.2, h1.2, h3, h5, h6⟩
  | false =>
    rw [ho] at h
    simp only [Bool.false_eq_true, if_false] at h
    obtain ⟨h1, -⟩ := if_no (a := 0) h (by decide)
    simp at h1
    exact .inl ⟨rfl, by simp_all, by simp_all, by simp_all, by simp_all, by simp_all, by simp_all, by simp_all⟩
set_option maxRecDepth 100000 in
set_option maxHeartbeats 8000000 in
theorem rorig_ok (r : Rt) (w : World) (B : Nat) (hB : B ≤ w.heap.size) (h : r.at w B) (hf1 : ∀ x ∈ r.net, x.fit) (hf2 : ∀ x ∈ r.ag, x.fit) (hf3 : ∀ x ∈ r.cd, x.fit) (hz : origE r = 0) : Calls Tryz.prog 69 #[.agg r.pvC] w fun e w' => e = .returned (.int .i64 0) ∧ Below w.heap.size w w' := by
  have HBB := Lib.hid hB
  have HB := Lib.hid (RQ.start 39 r.pvC w)
  have HF1 := Lib.hid hf1
  have HF2 := Lib.hid hf2
  have HF3 := Lib.hid hf3
  obtain ⟨z1, z2, z3⟩ := orig_ok hz
  obtain ⟨m1, hO1⟩ := pair_okE (by decide) z1
  obtain ⟨m2, hO2⟩ := pair_okE (by decide) z2
  obtain ⟨m3, hO3⟩ := pair_okE (by decide) z3
  have HO1 := Lib.hid hO1
  have HO2 := Lib.hid hO2
  have HO3 := Lib.hid hO3
  have hl1 := h.hnet
  have hlen1 := hl1.len
  simp only [maxLen] at hlen1
  obtain ⟨A1, c1, hv1, -⟩ := id hl1
  have CL1 : Hid (∀ W, RQ 39 r.pvC w W → W.cell? ⟨w.heap.size, 4, none⟩ = some (.slice A1 r.net.length c1)) := Lib.hid (fun W h => by rw [← hv1]; exact h.h.cell 4)
  rw [hv1] at hl1
  have HS1 := Lib.hid hl1
  have hl2 := h.hag
  have hlen2 := hl2.len
  simp only [maxLen] at hlen2
  obtain ⟨A2, c2, hv2, -⟩ := id hl2
  have CL2 : Hid (∀ W, RQ 39 r.pvC w W → W.cell? ⟨w.heap.size, 5, none⟩ = some (.slice A2 r.ag.length c2)) := Lib.hid (fun W h => by rw [← hv2]; exact h.h.cell 5)
  rw [hv2] at hl2
  have HS2 := Lib.hid hl2
  have hl3 := h.hcd
  have hlen3 := hl3.len
  simp only [maxLen] at hlen3
  obtain ⟨A3, c3, hv3, -⟩ := id hl3
  have CL3 : Hid (∀ W, RQ 39 r.pvC w W → W.cell? ⟨w.heap.size, 6, none⟩ = some (.slice A3 r.cd.length c3)) := Lib.hid (fun W h => by rw [← hv3]; exact h.h.cell 6)
  rw [hv3] at hl3
  have HS3 := Lib.hid hl3
  have d1 : ¬ ((8 : Int) < (r.net.length : Int)) := by omega
  have d2 : ¬ ((8 : Int) < (r.ag.length : Int)) := by omega
  have d3 : ¬ ((8 : Int) < (r.cd.length : Int)) := by omega
  clear h hf1 hf2 hf3 hz z1 z2 z3 hO1 hO2 hO3 hl1 hl2 hl3 hv1 hv2 hv3
  generalize r.net = l1 at *
  generalize r.ag = l2 at *
  generalize r.cd = l3 at *
  have cn := CL1.out _ HB.out
  go_enter Tryz.func69, Tryz.ntmps69
  go_wp2_with fail
  clear cn d1
  go_loopg [3] l1.length (fun gh ix wr => ∃ k : Nat, k + gh = l1.length ∧ ix = .int .i64 k ∧ Hid (RQ 39 r.pvC w wr))
  case atStart => exact ⟨0, by omega, rfl, HB⟩
  case round =>
    clear HB
    obtain ⟨k, hk, rfl, HB⟩ := hrel
    have cl := CL1.out wr HB.out
    by_cases hlt : k < l1.length
    case neg =>
      have hkz : ¬ ((k : Int) < (l1.length : Int)) := by omega
      have cn := CL2.out wr HB.out
      go_wp2_with fail
      clear cn cl d2 HS1 HO1 HF1 CL1
      go_loopg [5] l2.length (fun gh ix wr => ∃ k : Nat, k + gh = l2.length ∧ ix = .int .i64 k ∧ Hid (RQ 39 r.pvC w wr))
      case atStart => exact ⟨0, by omega, rfl, HB⟩
      case round =>
        clear HB
        obtain ⟨k, hk, rfl, HB⟩ := hrel
        have cl := CL2.out wr HB.out
        by_cases hlt : k < l2.length
        case neg =>
          have hkz : ¬ ((k : Int) < (l2.length : Int)) := by omega
          have cn := CL3.out wr HB.out
          go_wp2_with fail
          clear cn cl d3 HS2 HO2 HF2 CL2
          go_loopg [7] l3.length (fun gh ix wr => ∃ k : Nat, k + gh = l3.length ∧ ix = .int .i64 k ∧ Hid (RQ 39 r.pvC w wr))
          case atStart => exact ⟨0, by omega, rfl, HB⟩
          case round =>
            clear HB
            obtain ⟨k, hk, rfl, HB⟩ := hrel
            have cl := CL3.out wr HB.out
            by_cases hlt : k < l3.length
            case neg =>
              have hkz : ¬ ((k : Int) < (l3.length : Int)) := by omega
              go_wp2_with fail
              go_ret
              exact ⟨rfl, HB.out.b⟩
            have hkz : (k : Int) < (l3.length : Int) := by omega
            obtain ⟨g, o, c', e', -, hg, R0⟩ := HS3.out.elem (n := 5) (by decide) (fun _ => rfl) hlt
            injection e' with e1 e2 e3
            subst e1 e3
            obtain ⟨n1, n2⟩ := HO3.out k hlt
            have N2 := Lib.hid n2
            have FX := Lib.hid (HF3.out _ (List.getElem_mem hlt))
            have r1 := Lib.hid (rangeBelow R0 (HB.out.b.mono HBB.out) hg)
            obtain ⟨k1, k2, k3⟩ := cdR_ok n1
            clear R0 e2 n1 n2
            generalize l3[k] = x at r1 FX N2 k1 k2 k3
            go_upto_region 31 with (first | (refine wpList_loadRow rfl 128 _ rfl rfl r1.out Tryz.rowCd Tryz.sizeCd ?_) | (refine wpList_storeRow rfl 128 _ _ rfl rfl rfl (HasC.new wr _ _) rfl Tryz.sizeCd (Cd.one x) ?_; intro w5 hz1 hz2))
            have H5 : Hid (RQ 39 r.pvC w w5 ∧ HasC 128 wr.heap.size x.C w5) := Lib.hid ⟨HB.out.keep (new_below hz2), hz1⟩
            clear hz1 hz2 r1 HB cl
            generalize wr.heap.size = gx at H5 ⊢
            have KS : Hid (∀ {W W' : World}, (RQ 39 r.pvC w W ∧ HasC 128 gx x.C W) → Below W.heap.size W W' → (RQ 39 r.pvC w W' ∧ HasC 128 gx x.C W')) := Lib.hid (fun h hb => ⟨h.1.keep hb, h.2.keep hb⟩)
            obtain ⟨pa, pl, ia, il, ab⟩ := x
            dsimp only at k1 k2 k3
            have CE : Hid (∀ W, (RQ 39 r.pvC w W ∧ HasC 128 gx (Cd.C ⟨pa, pl, ia, il, ab⟩) W) → W.cell? ⟨gx, 0, none⟩ = some (.int .u32 (pa : Int)) ∧ W.cell? ⟨gx, 1, none⟩ = some (.int .i64 pl) ∧ W.cell? ⟨gx, 2, none⟩ = some (.int .u32 (ia : Int)) ∧ W.cell? ⟨gx, 3, none⟩ = some (.int .i64 il)) := Lib.hid (fun W h => ⟨h.2.cell 0, h.2.cell 1, h.2.cell 2, h.2.cell 3⟩)
            generalize Cd.C ⟨pa, pl, ia, il, ab⟩ = cs at H5 KS CE
            have V1 := Lib.hid (fun W => rvalid_any pa pl W FX.out.1)
            have V2 := Lib.hid (fun W => rvalid_any ia il W FX.out.2)
            rw [k1] at V1
            rw [k2] at V2
            unfold PV at V1 V2
            obtain ⟨x0, x1, x2, x3⟩ := CE.out w5 H5.out
            go_wp2_with fail
            refine (V1.out w5).mono ?_
            rintro e w6 ⟨rfl, hb⟩
            have H6 := Lib.hid (KS.out H5.out hb)
            clear hb x0 x1 x2 x3 H5 V1
            obtain ⟨x0, x1, x2, x3⟩ := CE.out w6 H6.out
            go_wp2_with fail
            refine (V2.out w6).mono ?_
            rintro e wz ⟨rfl, hb⟩
            have HZ := Lib.hid (KS.out H6.out hb)
            clear hb x0 x1 x2 x3 H6 V2
            obtain ⟨x0, x1, x2, x3⟩ := CE.out wz HZ.out
            have qi : ∀ w, (binOp .eql 71 (.agg #[.int .u32 (pa : Int), .int .i64 pl]) (.agg #[.int .u32 (ia : Int), .int .i64 il])).run Tryz.prog w = .ok (.bool false) w := fun w => by rw [pfx_eql pa ia pl il w, k3]
            have gp := Tryz.pfxGuard
            go_wp2_with fail
            clear x0 x1 x2 x3 qi gp
            go_loopg [9] k (fun gh ix wq => ∃ j : Nat, j + gh = k ∧ ix = .int .i64 j ∧ Hid (RQ 39 r.pvC w wq ∧ HasC 128 gx cs wq))
            case atStart => exact ⟨0, by omega, rfl, HZ⟩
            case round =>
              clear HZ
              obtain ⟨j, hj, rfl, HQ⟩ := hrel
              have cl := CL3.out wr HQ.out.1
              obtain ⟨x0, x1, -, -⟩ := CE.out wr HQ.out
              by_cases hjl : j < k
              case pos =>
                have hjn : j < l3.length := by omega
                have hjz : (j : Int) < (k : Int) := by omega
                have hjm : (j : Int) < (l3.length : Int) := by omega
                obtain ⟨g', o', c'', e', -, hg', R0⟩ := HS3.out.elem (n := 5) (by decide) (fun _ => rfl) hjn
                injection e' with e1 e2 e3
                injection e1 with e1
                injection e1 with e1 e4
                subst e1 e4
                have NE := N2.out j hjn hjl
                have y0 : wr.cell? ⟨g, o + j * 5, none⟩ = some (.int .u32 (l3[j].pa : Int)) := rangeBelow R0 (HQ.out.1.b.mono HBB.out) hg' 0 _ rfl
                have y1 : wr.cell? ⟨g, o + j * 5 + 1, none⟩ = some (.int .i64 l3[j].pl) := rangeBelow R0 (HQ.out.1.b.mono HBB.out) hg' 1 _ rfl
                have NF : decide (l3[j].pa = pa ∧ l3[j].pl = pl) = false := NE
                generalize l3[j] = y at y0 y1 NF
                clear NE
                have qe : ∀ w, (binOp .eql 71 (.agg #[.int .u32 (y.pa : Int), .int .i64 y.pl]) (.agg #[.int .u32 (pa : Int), .int .i64 pl])).run Tryz.prog w = .ok (.bool false) w := fun w => by rw [pfx_eql y.pa pa y.pl pl w, NF]
                have gp := Tryz.pfxGuard
                all_goals
                  clear R0 e2 e3
                  go_wp2_with fail
                  go_still (by kernel_rfl)
                  go_wp2_with fail
                  go_roundg (k - (j + 1))
                  case measure => omega
                  case rel => exact ⟨j + 1, by omega, by go_num, Lib.hid (KS.out HQ.out (belowDrew wr))⟩
              have hjz : ¬ ((j : Int) < (k : Int)) := by omega
              go_wp2_with fail
              go_roundg (l3.length - (k + 1))
              case measure => omega
              case rel => exact ⟨k + 1, by omega, by go_num, Lib.hid HQ.out.1⟩
        have hkz : (k : Int) < (l2.length : Int) := by omega
        obtain ⟨g, o, c', e', -, hg, R0⟩ := HS2.out.elem (n := 3) (by decide) (fun _ => rfl) hlt
        injection e' with e1 e2 e3
        subst e1 e3
        obtain ⟨n1, n2⟩ := HO2.out k hlt
        have N2 := Lib.hid n2
        have FX := Lib.hid (HF2.out _ (List.getElem_mem hlt))
        have XA : Hid (∀ W, RQ 39 r.pvC w W → W.cell? ⟨g, o + k * 3, none⟩ = some (.int .u32 (l2[k].pa : Int)) ∧ W.cell? ⟨g, o + k * 3 + 1, none⟩ = some (.int .i64 l2[k].pl)) := Lib.hid (fun W h => have hb := h.b.mono HBB.out; ⟨(hb.cell (p := ⟨g, o + k * 3, none⟩) hg).trans (R0 0 _ rfl), (hb.cell (p := ⟨g, o + k * 3 + 1, none⟩) hg).trans (R0 1 _ rfl)⟩)
        have k2 := ag_ok n1
        have hvd := rvalid_any l2[k].pa l2[k].pl wr FX.out
        rw [k2] at hvd
        unfold PV at hvd
        have HVD := Lib.hid hvd
        clear R0 e2 n1 n2 hvd k2
        generalize l2[k] = x at *
        obtain ⟨x0, x1⟩ := XA.out wr HB.out
        go_wp2_with fail
        refine HVD.out.mono ?_
        rintro e wz ⟨rfl, hb⟩
        have HZ := Lib.hid (HB.out.keep hb)
        clear hb x0 x1 HVD HB cl
        go_wp2_with fail
        go_loopg [6] k (fun gh ix wq => ∃ j : Nat, j + gh = k ∧ ix = .int .i64 j ∧ Hid (RQ 39 r.pvC w wq))
        case atStart => exact ⟨0, by omega, rfl, HZ⟩
        case round =>
          clear HZ
          obtain ⟨j, hj, rfl, HQ⟩ := hrel
          have cl := CL2.out wr HQ.out
          obtain ⟨x0, x1⟩ := XA.out wr HQ.out
          by_cases hjl : j < k
          case pos =>
            have hjn : j < l2.length := by omega
            have hjz : (j : Int) < (k : Int) := by omega
            have hjm : (j : Int) < (l2.length : Int) := by omega
            obtain ⟨g', o', c'', e', -, hg', R0⟩ := HS2.out.elem (n := 3) (by decide) (fun _ => rfl) hjn
            injection e' with e1 e2 e3
            injection e1 with e1
            injection e1 with e1 e4
            subst e1 e4
            have NE := N2.out j hjn hjl
            have y0 : wr.cell? ⟨g, o + j * 3, none⟩ = some (.int .u32 (l2[j].pa : Int)) := rangeBelow R0 (HQ.out.b.mono HBB.out) hg' 0 _ rfl
            have y1 : wr.cell? ⟨g, o + j * 3 + 1, none⟩ = some (.int .i64 l2[j].pl) := rangeBelow R0 (HQ.out.b.mono HBB.out) hg' 1 _ rfl
            have NF : decide (l2[j].pa = x.pa ∧ l2[j].pl = x.pl) = false := NE
            generalize l2[j] = y at y0 y1 NF
            clear NE
            have qe : ∀ w, (binOp .eql 71 (.agg #[.int .u32 (y.pa : Int), .int .i64 y.pl]) (.agg #[.int .u32 (x.pa : Int), .int .i64 x.pl])).run Tryz.prog w = .ok (.bool false) w := fun w => by rw [pfx_eql y.pa x.pa y.pl x.pl w, NF]
            have gp := Tryz.pfxGuard
            all_goals
              clear R0 e2 e3
              go_wp2_with fail
              go_still (by kernel_rfl)
              go_wp2_with fail
              go_roundg (k - (j + 1))
              case measure => omega
              case rel => exact ⟨j + 1, by omega, by go_num, Lib.hid (HQ.out.keep (belowDrew wr))⟩
          have hjz : ¬ ((j : Int) < (k : Int)) := by omega
          go_wp2_with fail
          go_roundg (l2.length - (k + 1))
          case measure => omega
          case rel => exact ⟨k + 1, by omega, by go_num, HQ⟩
    have hkz : (k : Int) < (l1.length : Int) := by omega
    obtain ⟨g, o, c', e', -, hg, R0⟩ := HS1.out.elem (n := 2) (by decide) (fun _ => rfl) hlt
    injection e' with e1 e2 e3
    subst e1 e3
    obtain ⟨n1, n2⟩ := HO1.out k hlt
    have N2 := Lib.hid n2
    have FX := Lib.hid (HF1.out _ (List.getElem_mem hlt))
    have XA : Hid (∀ W, RQ 39 r.pvC w W → W.cell? ⟨g, o + k * 2, none⟩ = some (.int .u32 (l1[k].pa : Int)) ∧ W.cell? ⟨g, o + k * 2 + 1, none⟩ = some (.int .i64 l1[k].pl)) := Lib.hid (fun W h => have hb := h.b.mono HBB.out; ⟨(hb.cell (p := ⟨g, o + k * 2, none⟩) hg).trans (R0 0 _ rfl), (hb.cell (p := ⟨g, o + k * 2 + 1, none⟩) hg).trans (R0 1 _ rfl)⟩)
    have k2 := net_ok n1
    have hvd := rvalid_any l1[k].pa l1[k].pl wr FX.out
    rw [k2] at hvd
    unfold PV at hvd
    have HVD := Lib.hid hvd
    clear R0 e2 n1 n2 hvd k2
    generalize l1[k] = x at *
    obtain ⟨x0, x1⟩ := XA.out wr HB.out
    go_wp2_with fail
    refine HVD.out.mono ?_
    rintro e wz ⟨rfl, hb⟩
    have HZ := Lib.hid (HB.out.keep hb)
    clear hb x0 x1 HVD HB cl
    go_wp2_with fail
    go_loopg [4] k (fun gh ix wq => ∃ j : Nat, j + gh = k ∧ ix = .int .i64 j ∧ Hid (RQ 39 r.pvC w wq))
    case atStart => exact ⟨0, by omega, rfl, HZ⟩
    case round =>
      clear HZ
      obtain ⟨j, hj, rfl, HQ⟩ := hrel
      have cl := CL1.out wr HQ.out
      obtain ⟨x0, x1⟩ := XA.out wr HQ.out
      by_cases hjl : j < k
      case pos =>
        have hjn : j < l1.length := by omega
        have hjz : (j : Int) < (k : Int) := by omega
        have hjm : (j : Int) < (l1.length : Int) := by omega
        obtain ⟨g', o', c'', e', -, hg', R0⟩ := HS1.out.elem (n := 2) (by decide) (fun _ => rfl) hjn
        injection e' with e1 e2 e3
        injection e1 with e1
        injection e1 with e1 e4
        subst e1 e4
        have NE := N2.out j hjn hjl
        have y0 : wr.cell? ⟨g, o + j * 2, none⟩ = some (.int .u32 (l1[j].pa : Int)) := rangeBelow R0 (HQ.out.b.mono HBB.out) hg' 0 _ rfl
        have y1 : wr.cell? ⟨g, o + j * 2 + 1, none⟩ = some (.int .i64 l1[j].pl) := rangeBelow R0 (HQ.out.b.mono HBB.out) hg' 1 _ rfl
        have NF : decide (l1[j].pa = x.pa ∧ l1[j].pl = x.pl) = false := (decide_eq_decide.2 ⟨fun h => ⟨h.1.symm, h.2.symm⟩, fun h => ⟨h.1.symm, h.2.symm⟩⟩).trans NE
        generalize l1[j] = y at y0 y1 NF
        clear NE
        have qe : ∀ w, (binOp .eql 71 (.agg #[.int .u32 (y.pa : Int), .int .i64 y.pl]) (.agg #[.int .u32 (x.pa : Int), .int .i64 x.pl])).run Tryz.prog w = .ok (.bool false) w := fun w => by rw [pfx_eql y.pa x.pa y.pl x.pl w, NF]
        have gp := Tryz.pfxGuard
        all_goals
          clear R0 e2 e3
          go_wp2_with fail
          go_still (by kernel_rfl)
          go_wp2_with fail
          go_roundg (k - (j + 1))
          case measure => omega
          case rel => exact ⟨j + 1, by omega, by go_num, Lib.hid (HQ.out.keep (belowDrew wr))⟩
      have hjz : ¬ ((j : Int) < (k : Int)) := by omega
      go_wp2_with fail
      go_roundg (l1.length - (k + 1))
      case measure => omega
      case rel => exact ⟨k + 1, by omega, by go_num, HQ⟩
set_option maxRecDepth 100000 in
set_option maxHeartbeats 8000000 in
theorem rpath_ok (r : Rt) (w : World) (B : Nat) (hB : B ≤ w.heap.size) (h : r.at w B) (hf1 : ∀ x ∈ r.net, x.fit) (hf2 : ∀ x ∈ r.ag, x.fit) (hf3 : ∀ x ∈ r.cd, x.fit) (hz : pvE r = 0) : Calls Tryz.prog 29 #[.agg r.C] w fun e w' => e = .returned (.int .i64 0) ∧ Below w.heap.size w w' := by
  have HBB := Lib.hid hB
  have H0 := RB.start r w
  have HWI := Lib.hid rwithin_any
  have HR := Lib.hid h
  have HZR := Lib.hid hz
  obtain ⟨A1, c1, hv1, -⟩ := id h.hnb
  obtain ⟨A2, c2, hv2, -⟩ := id h.hnet
  obtain ⟨A3, c3, hv3, -⟩ := id h.hag
  obtain ⟨A4, c4, hv4, -⟩ := id h.hcd
  obtain ⟨A5, c5, hv5, -⟩ := id h.hpvRed
  have HLR := h.hpvRed
  rw [hv5] at HLR
  replace HLR := Lib.hid HLR
  have EP : r.pvC = #[.bool r.pvOn, .int .i64 r.ext, .int .i64 r.int, .slice A1 r.nb.length c1, .slice A2 r.net.length c2, .slice A3 r.ag.length c3, .slice A4 r.cd.length c4, .slice A5 r.pvRed.length c5] := by unfold Rt.pvC; rw [hv1, hv2, hv3, hv4, hv5]
  have PO := Lib.hid (fun W (hb : Below w.heap.size w W) (ho : origE r = 0) => rorig_ok r W B (Nat.le_trans hB hb.size) (h.below (hb.mono hB)) hf1 hf2 hf3 ho)
  rw [EP] at PO
  clear EP hz
  have HO : (#[.bool r.pvOn, .int .i64 r.ext, .int .i64 r.int, .slice A1 r.nb.length c1, .slice A2 r.net.length c2, .slice A3 r.ag.length c3, .slice A4 r.cd.length c4, .slice A5 r.pvRed.length c5] : Array Value).all (·.oneCell') = true := by
    rw [Array.all_eq_true_iff_forall_mem]
    intro v hv
    simp only [List.mem_toArray, List.mem_cons, List.not_mem_nil, or_false] at hv
    rcases hv with rfl | rfl | rfl | rfl | rfl | rfl | rfl | rfl <;> rfl
  have HSh := Lib.hid (H0.h.sub 17 #[.bool r.pvOn, .int .i64 r.ext, .int .i64 r.int, .slice A1 r.nb.length c1, .slice A2 r.net.length c2, .slice A3 r.ag.length c3, .slice A4 r.cd.length c4, .slice A5 r.pvRed.length c5] (fun j hj => by
    have hj' : j < 8 := hj
    rcases (show j = 0 ∨ j = 1 ∨ j = 2 ∨ j = 3 ∨ j = 4 ∨ j = 5 ∨ j = 6 ∨ j = 7 by omega) with rfl | rfl | rfl | rfl | rfl | rfl | rfl | rfl <;> first | rfl | (show some _ = some _; simp only [Option.some.injEq]; assumption)))
  have H0h := Lib.hid H0
  clear H0 hv1 hv2 hv3 hv4 hv5 h hB hf1 hf2 hf3
  go_enter Tryz.func29, Tryz.ntmps29
  go_upto_region 2 with (refine wpList_loadRow rfl 39 _ rfl rfl HSh.out Tryz.rowPV Tryz.sizePV ?_)
  have H5 : Hid (RBL r w 39 (w.alloc (.cells r.C 41)).heap.size #[.bool r.pvOn, .int .i64 r.ext, .int .i64 r.int, .slice A1 r.nb.length c1, .slice A2 r.net.length c2, .slice A3 r.ag.length c3, .slice A4 r.cd.length c4, .slice A5 r.pvRed.length c5] ((w.alloc (.cells r.C 41)).alloc (.cells #[.bool r.pvOn, .int .i64 r.ext, .int .i64 r.int, .slice A1 r.nb.length c1, .slice A2 r.net.length c2, .slice A3 r.ag.length c3, .slice A4 r.cd.length c4, .slice A5 r.pvRed.length c5] 39))) := Lib.hid ⟨(H0h.out.keep ((Below.refl _ _).alloc (Nat.le_refl _) _)).h, (H0h.out.keep ((Below.refl _ _).alloc (Nat.le_refl _) _)).b, HasC.new _ _ _⟩
  clear H0h HSh HO
  generalize hw5 : (w.alloc (.cells r.C 41)).alloc (.cells #[.bool r.pvOn, .int .i64 r.ext, .int .i64 r.int, .slice A1 r.nb.length c1, .slice A2 r.net.length c2, .slice A3 r.ag.length c3, .slice A4 r.cd.length c4, .slice A5 r.pvRed.length c5] 39) = w5 at H5 ⊢
  clear hw5
  rw [show (w.alloc (.cells r.C 41)).heap.size = w.heap.size + 1 from by simp] at H5
  generalize w.heap.size + 1 = gl at H5 ⊢
  have lc0 : w5.cell? ⟨gl, 0, none⟩ = some (.bool r.pvOn) := H5.out.l.cell 0
  have lc1 : w5.cell? ⟨gl, 1, none⟩ = some (.int .i64 r.ext) := H5.out.l.cell 1
  have lc2 : w5.cell? ⟨gl, 2, none⟩ = some (.int .i64 r.int) := H5.out.l.cell 2
  have lc3 : w5.cell? ⟨gl, 3, none⟩ = some (.slice A1 r.nb.length c1) := H5.out.l.cell 3
  have lc4 : w5.cell? ⟨gl, 4, none⟩ = some (.slice A2 r.net.length c2) := H5.out.l.cell 4
  have lc5 : w5.cell? ⟨gl, 5, none⟩ = some (.slice A3 r.ag.length c3) := H5.out.l.cell 5
  have lc6 : w5.cell? ⟨gl, 6, none⟩ = some (.slice A4 r.cd.length c4) := H5.out.l.cell 6
  have lc7 : w5.cell? ⟨gl, 7, none⟩ = some (.slice A5 r.pvRed.length c5) := H5.out.l.cell 7
  rcases pv_ok HZR.out with ⟨o1, o2, o3, o4, o5, o6, o7, o8⟩ | ⟨o1, o2, o3, o4, o5, o6, o7⟩
  · rw [o1] at lc0
    rw [o2] at lc1
    rw [o3] at lc2
    rw [o4] at lc3
    rw [o5] at lc4
    rw [o6] at lc5
    rw [o7] at lc6
    rw [o8] at lc7
    clear HR HLR HZR PO
    go_wp2_with fail
    go_ret
    exact ⟨rfl, H5.out.b⟩
  rw [o1] at lc0
  clear o1
  have a1 : w5.cell? ⟨w.heap.size, 1, none⟩ = some (.int .i64 r.asn) := H5.out.h.cell 1
  have O5 := Lib.hid o5
  have O6 := Lib.hid (PO.out · · o6)
  have O7 := Lib.hid o7
  have CL7 : Hid (∀ W, RBL r w 39 gl #[.bool r.pvOn, .int .i64 r.ext, .int .i64 r.int, .slice A1 r.nb.length c1, .slice A2 r.net.length c2, .slice A3 r.ag.length c3, .slice A4 r.cd.length c4, .slice A5 r.pvRed.length c5] W → W.cell? ⟨gl, 7, none⟩ = some (.slice A5 r.pvRed.length c5)) := Lib.hid (fun W h => h.l.cell 7)
  clear o5 o6 o7 HZR PO lc3 lc4 lc5 lc6 lc7
  go_wp2_with (first | (go_at_call 19; refine (HWI.out _ _ _ _).mono ?_; rintro e w' ⟨rfl, rfl⟩) | (first | (refine wpList_loadRow rfl 41 _ rfl rfl H5.out.h.range Tryz.rowRt Tryz.sizeRt ?_) | (refine wpList_unguard (by rfl) (wpList_loadRow rfl 41 _ rfl rfl H5.out.h.range Tryz.rowRt Tryz.sizeRt ?_))))
  with_reducible refine (rneighbors_ok r w5 B (Nat.le_trans HBB.out H5.out.b.size) (HR.out.below (H5.out.b.mono HBB.out)) O5.out).mono ?_
  rintro e w6 ⟨rfl, hb⟩
  have H6 := Lib.hid (H5.out.keep hb)
  clear hb lc0 lc1 lc2 a1 H5
  go_wp2_with (refine wpList_loadRow rfl 39 _ rfl rfl H6.out.l.range Tryz.rowPV Tryz.sizePV ?_)
  with_reducible refine (O6.out w6 H6.out.b).mono ?_
  rintro e w7 ⟨rfl, hb⟩
  have H7 := Lib.hid (H6.out.keep hb)
  clear hb H6
  have lz := CL7.out w7 H7.out
  go_wp2_with (first | (refine wpList_loadRow rfl 41 _ rfl rfl H7.out.h.range Tryz.rowRt Tryz.sizeRt ?_) | (refine wpList_unguard (by rfl) (wpList_loadRow rfl 41 _ rfl rfl H7.out.h.range Tryz.rowRt Tryz.sizeRt ?_)))
  with_reducible refine (rred_ok r r.pvRed (.slice A5 r.pvRed.length c5) 5 0 16777215 0 (.inr ⟨by decide, rfl⟩) w7 B (Nat.le_trans HBB.out H7.out.b.size) (HR.out.below (H7.out.b.mono HBB.out)) (HLR.out.below (H7.out.b.mono HBB.out)) O7.out).mono ?_
  rintro e w8 ⟨rfl, hb⟩
  have H8 := Lib.hid (H7.out.keep hb)
  clear hb lz
  go_wp2_with fail
  go_ret
  exact ⟨rfl, H8.out.b⟩
end Go.Proofs.YtmddfkpkddemnaaGreatDoor
namespace Go.Proofs.YtmddfkpkddemnaaGreatDoor
open Go.RowKit
set_option maxRecDepth 100000 in
set_option maxHeartbeats 8000000 in
theorem rcheck_ok (r : Rt) (w : World) (B : Nat) (hB : B ≤ w.heap.size) (h : r.at w B) (hf : r.fit) (hz : routerE r = 0) : Calls Tryz.prog 10 #[.agg r.C] w fun e w' => e = .returned (.int .i64 0) ∧ Below w.heap.size w w' := by
  obtain ⟨z1, z2, z3, z4, z5, z6, z7, z8, z9, z10, z11, z12⟩ := router_ok hz
  unfold Rt.fit at hf
  have h2 : ∀ W, RB r w W → r.at W B := fun W hW => h.below (hW.b.mono hB)
  have HWI := Lib.hid rwithin_any
  have P0 : Hid (∀ W, RB r w W → Calls Tryz.prog 20 #[r.ifsV] W fun e w' => e = .returned (.int .i64 0) ∧ RB r w w') := Lib.hid (fun W hW => have hs := Nat.le_trans hB hW.b.size; (rinterfaces_ok r.ifs r.ifsV W B hs (h2 W hW).hifs hf.1 z3).mono fun e w' ⟨he, hb⟩ => ⟨he, hW.keep hb⟩)
  have P1 : Hid (∀ W, RB r w W → Calls Tryz.prog 21 #[r.listsV] W fun e w' => e = .returned (.int .i64 0) ∧ RB r w w') := Lib.hid (fun W hW => have hs := Nat.le_trans hB hW.b.size; (rprefixLists_ok r.lists r.listsV W B hs (h2 W hW).hlists (h2 W hW).nlists hf.2.1 z4).mono fun e w' ⟨he, hb⟩ => ⟨he, hW.keep hb⟩)
  have P2 : Hid (∀ W, RB r w W → Calls Tryz.prog 22 #[.agg r.C] W fun e w' => e = .returned (.int .i64 0) ∧ RB r w w') := Lib.hid (fun W hW => have hs := Nat.le_trans hB hW.b.size; (rrouteMaps_ok r W B hs (h2 W hW) z5).mono fun e w' ⟨he, hb⟩ => ⟨he, hW.keep hb⟩)
  have P3 : Hid (∀ W, RB r w W → Calls Tryz.prog 23 #[r.aclsV] W fun e w' => e = .returned (.int .i64 0) ∧ RB r w w') := Lib.hid (fun W hW => have hs := Nat.le_trans hB hW.b.size; (raccessLists_ok r.acls r.aclsV W B hs (h2 W hW).hacls (h2 W hW).nacls hf.2.2.2.1 z6).mono fun e w' ⟨he, hb⟩ => ⟨he, hW.keep hb⟩)
  have P4 : Hid (∀ W, RB r w W → Calls Tryz.prog 24 #[.agg r.C] W fun e w' => e = .returned (.int .i64 0) ∧ RB r w w') := Lib.hid (fun W hW => have hs := Nat.le_trans hB hW.b.size; (rtranslations_ok r W B hs (h2 W hW) hf.2.2.2.2.1 z7).mono fun e w' ⟨he, hb⟩ => ⟨he, hW.keep hb⟩)
  have P5 : Hid (∀ W, RB r w W → Calls Tryz.prog 25 #[.agg r.C] W fun e w' => e = .returned (.int .i64 0) ∧ RB r w w') := Lib.hid (fun W hW => have hs := Nat.le_trans hB hW.b.size; (rfilters_ok r W B hs (h2 W hW) hf.1 z8).mono fun e w' ⟨he, hb⟩ => ⟨he, hW.keep hb⟩)
  have P6 : Hid (∀ W, RB r w W → Calls Tryz.prog 26 #[.agg r.C] W fun e w' => e = .returned (.int .i64 0) ∧ RB r w w') := Lib.hid (fun W hW => have hs := Nat.le_trans hB hW.b.size; (rstatics_ok r W B hs (h2 W hW) hf.2.2.2.2.2.1 z9).mono fun e w' ⟨he, hb⟩ => ⟨he, hW.keep hb⟩)
  have P7 : Hid (∀ W, RB r w W → Calls Tryz.prog 27 #[.agg r.C] W fun e w' => e = .returned (.int .i64 0) ∧ RB r w w') := Lib.hid (fun W hW => have hs := Nat.le_trans hB hW.b.size; (rlink_ok r W B hs (h2 W hW) hf.2.2.2.2.2.2.1 z10).mono fun e w' ⟨he, hb⟩ => ⟨he, hW.keep hb⟩)
  have P8 : Hid (∀ W, RB r w W → Calls Tryz.prog 28 #[.agg r.C] W fun e w' => e = .returned (.int .i64 0) ∧ RB r w w') := Lib.hid (fun W hW => have hs := Nat.le_trans hB hW.b.size; (rdistance_ok r W B hs (h2 W hW) z11).mono fun e w' ⟨he, hb⟩ => ⟨he, hW.keep hb⟩)
  have P9 : Hid (∀ W, RB r w W → Calls Tryz.prog 29 #[.agg r.C] W fun e w' => e = .returned (.int .i64 0) ∧ RB r w w') := Lib.hid (fun W hW => have hs := Nat.le_trans hB hW.b.size; (rpath_ok r W B hs (h2 W hW) hf.2.2.2.2.2.2.2.2.2.2.1 hf.2.2.2.2.2.2.2.2.2.2.2.1 hf.2.2.2.2.2.2.2.2.2.2.2.2.1 z12).mono fun e w' ⟨he, hb⟩ => ⟨he, hW.keep hb⟩)
  have HB := Lib.hid (RB.start r w)
  clear h hf hz h2 hB z3 z4 z5 z6 z7 z8 z9 z10 z11 z12
  have CE : Hid (∀ W, RB r w W → W.cell? ⟨w.heap.size, 2, none⟩ = some r.ifsV ∧ W.cell? ⟨w.heap.size, 3, none⟩ = some r.listsV ∧ W.cell? ⟨w.heap.size, 5, none⟩ = some r.aclsV) := Lib.hid (fun W h => ⟨h.h.cell 2, h.h.cell 3, h.h.cell 5⟩)
  have c0 : (w.alloc (.cells r.C 41)).cell? ⟨w.heap.size, 0, none⟩ = some (.string (str r.name)) := HB.out.h.cell 0
  have c1 : (w.alloc (.cells r.C 41)).cell? ⟨w.heap.size, 1, none⟩ = some (.int .i64 r.asn) := HB.out.h.cell 1
  go_enter Tryz.func10, Tryz.ntmps10
  go_wp2_with fail
  refine (rnameL r.name _).mono ?_
  rintro e w' ⟨rfl, rfl⟩
  rw [z1]
  go_wp2_with (go_at_call 19; refine (HWI.out _ _ _ _).mono ?_; rintro e w' ⟨rfl, rfl⟩)
  clear c0 c1 z1 z2
  refine wp_region_seqT (fun W => RB r w W) 23 (by kernel_rfl) (by kernel_rfl) (HB.out.keep (belowDrew _)) ?_
  clear HB
  repeat
    (first
      | refine seqT_yields (yieldsRow (by rfl) 41 _ rfl rfl (fun W hW => hW.h.range) Tryz.rowRt Tryz.sizeRt) ?_
      | (refine seqT_value (v := ?_) ?_ ?_ ?_; rotate_left; (· rfl); (· (intro W hW; obtain ⟨k1, k2, k3⟩ := CE.out W hW; go_simp <;> rfl)))
      | (refine seqT_call ?_ ?_ (fun W hW => P0.out W hW) ?_; (· rfl); (· (intro W hW; go_simp <;> rfl)))
      | (refine seqT_call ?_ ?_ (fun W hW => P1.out W hW) ?_; (· rfl); (· (intro W hW; go_simp <;> rfl)))
      | (refine seqT_call ?_ ?_ (fun W hW => P2.out W hW) ?_; (· rfl); (· (intro W hW; go_simp <;> rfl)))
      | (refine seqT_call ?_ ?_ (fun W hW => P3.out W hW) ?_; (· rfl); (· (intro W hW; go_simp <;> rfl)))
      | (refine seqT_call ?_ ?_ (fun W hW => P4.out W hW) ?_; (· rfl); (· (intro W hW; go_simp <;> rfl)))
      | (refine seqT_call ?_ ?_ (fun W hW => P5.out W hW) ?_; (· rfl); (· (intro W hW; go_simp <;> rfl)))
      | (refine seqT_call ?_ ?_ (fun W hW => P6.out W hW) ?_; (· rfl); (· (intro W hW; go_simp <;> rfl)))
      | (refine seqT_call ?_ ?_ (fun W hW => P7.out W hW) ?_; (· rfl); (· (intro W hW; go_simp <;> rfl)))
      | (refine seqT_call ?_ ?_ (fun W hW => P8.out W hW) ?_; (· rfl); (· (intro W hW; go_simp <;> rfl)))
      | (refine seqT_call ?_ ?_ (fun W hW => P9.out W hW) ?_; (· rfl); (· (intro W hW; go_simp <;> rfl))))
    simp only [Act.put, List.setIfInBounds_toArray, List.set_cons_zero, List.set_cons_succ]
  refine seqT_done ?_
  intro wq hS
  change wpList _ _ _ (_ :: _ :: []) _ _
  have H1 := Lib.hid (hS.keep ((Below.refl _ _).alloc (Nat.le_refl _) (.cells #[.int .i64 0, .int .i64 0, .int .i64 0, .int .i64 0, .int .i64 0, .int .i64 0, .int .i64 0, .int .i64 0, .int .i64 0, .int .i64 0] 42)))
  have HC : Hid (∀ k, k < 10 → (wq.alloc (.cells #[.int .i64 0, .int .i64 0, .int .i64 0, .int .i64 0, .int .i64 0, .int .i64 0, .int .i64 0, .int .i64 0, .int .i64 0, .int .i64 0] 42)).cell? ⟨wq.heap.size, k, none⟩ = some (.int .i64 0)) := Lib.hid (fun k hk => ((HasC.new _ _ _).cell k).trans (by
    rcases (show k = 0 ∨ k = 1 ∨ k = 2 ∨ k = 3 ∨ k = 4 ∨ k = 5 ∨ k = 6 ∨ k = 7 ∨ k = 8 ∨ k = 9 by omega) with rfl | rfl | rfl | rfl | rfl | rfl | rfl | rfl | rfl | rfl <;> rfl))
  clear hS CE P0 P1 P2 P3 P4 P5 P6 P7 P8 P9
  go_wp2_with fail
  generalize wq.alloc (.cells #[.int .i64 0, .int .i64 0, .int .i64 0, .int .i64 0, .int .i64 0, .int .i64 0, .int .i64 0, .int .i64 0, .int .i64 0, .int .i64 0] 42) = wA at H1 HC ⊢
  generalize wq.heap.size = gs at HC ⊢
  go_loopg [4] 10 (fun gh ix wr => wr = wA ∧ ∃ k : Nat, k + gh = 10 ∧ ix = .int .i64 k)
  case atStart => exact ⟨rfl, 0, by omega, rfl⟩
  case round =>
    obtain ⟨rfl, k, hk, rfl⟩ := hrel
    by_cases hlt : k < 10
    case neg =>
      have hkz : ¬ ((k : Int) < 10) := by omega
      go_wp2_with fail
      go_ret
      exact ⟨rfl, H1.out.b⟩
    have hkz : (k : Int) < 10 := by omega
    have ck := HC.out k hlt
    go_wp2_with fail
    go_roundg (10 - (k + 1))
    case measure => omega
    case rel => exact ⟨rfl, k + 1, by omega, by go_num⟩
end Go.Proofs.YtmddfkpkddemnaaGreatDoor
