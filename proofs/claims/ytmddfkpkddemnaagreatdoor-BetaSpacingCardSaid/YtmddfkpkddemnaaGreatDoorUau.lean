/- The walk of netverifyref8.Same over equal routers. Condition: what is compared lies in memory. -/
import Derived.Test.YtmddfkpkddemnaaGreatDoorUat
import Derived.StillTailTactics
import Derived.Deep.RegionHeld3
namespace Go.Proofs.YtmddfkpkddemnaaGreatDoor
open Go.RowKit
set_option maxRecDepth 8000 in
set_option maxHeartbeats 8000000 in
theorem sameProtocols_any (a b : Rt) (w : World) (B : Nat) (hat : a.at w B) (hbt : b.at w B) (hB : B ≤ w.heap.size) (hp : a.plain = b.plain) :
    Calls Tryz.prog 17 #[.agg a.C, .agg b.C] w fun e w' => e = .returned (.bool true) ∧ Below w.heap.size w w' := by
  have hal := hat.lift hB
  have hbl := hbt.lift hB
  have HP := Lib.hid hp
  have H0 := Lib.hid (SM.start a b w)
  have EF8 : Hid (b.lsOn = a.lsOn) := Lib.hid (congrArg Rt.lsOn hp).symm
  have EF9 : Hid (b.lsAdmin = a.lsAdmin) := Lib.hid (congrArg Rt.lsAdmin hp).symm
  have EF10 : Hid (b.ranges = a.ranges) := Lib.hid (congrArg Rt.ranges hp).symm
  have HU10 := Lib.hid hal.hranges
  have HV10 : Hid (SlV w w.heap.size 3 AR.C b.rangesV a.ranges) := Lib.hid (by rw [← EF10.out]; exact hbl.hranges)
  obtain ⟨A10, c10, ea10, -⟩ := HU10.out
  obtain ⟨D10, d10, eb10, -⟩ := HV10.out
  have EA10 := Lib.hid ea10
  have EB10 := Lib.hid eb10
  clear ea10 eb10
  have EF11 : Hid (b.lsRed = a.lsRed) := Lib.hid (congrArg Rt.lsRed hp).symm
  have HU11 := Lib.hid hal.hlsRed
  have HV11 : Hid (SlV w w.heap.size 5 Rd.C b.lsRedV a.lsRed) := Lib.hid (by rw [← EF11.out]; exact hbl.hlsRed)
  obtain ⟨A11, c11, ea11, -⟩ := HU11.out
  obtain ⟨D11, d11, eb11, -⟩ := HV11.out
  have EA11 := Lib.hid ea11
  have EB11 := Lib.hid eb11
  clear ea11 eb11
  have EF12 : Hid (b.dvOn = a.dvOn) := Lib.hid (congrArg Rt.dvOn hp).symm
  have EF13 : Hid (b.dvAdmin = a.dvAdmin) := Lib.hid (congrArg Rt.dvAdmin hp).symm
  have EF14 : Hid (b.dvIn = a.dvIn) := Lib.hid (congrArg Rt.dvIn hp).symm
  have EF15 : Hid (b.dvOut = a.dvOut) := Lib.hid (congrArg Rt.dvOut hp).symm
  have EF16 : Hid (b.dvRed = a.dvRed) := Lib.hid (congrArg Rt.dvRed hp).symm
  have HU16 := Lib.hid hal.hdvRed
  have HV16 : Hid (SlV w w.heap.size 5 Rd.C b.dvRedV a.dvRed) := Lib.hid (by rw [← EF16.out]; exact hbl.hdvRed)
  obtain ⟨A16, c16, ea16, -⟩ := HU16.out
  obtain ⟨D16, d16, eb16, -⟩ := HV16.out
  have EA16 := Lib.hid ea16
  have EB16 := Lib.hid eb16
  clear ea16 eb16
  have EF17 : Hid (b.pvOn = a.pvOn) := Lib.hid (congrArg Rt.pvOn hp).symm
  have EF18 : Hid (b.ext = a.ext) := Lib.hid (congrArg Rt.ext hp).symm
  have EF19 : Hid (b.int = a.int) := Lib.hid (congrArg Rt.int hp).symm
  have EF20 : Hid (b.nb = a.nb) := Lib.hid (congrArg Rt.nb hp).symm
  have HU20 := Lib.hid hal.hnb
  have HV20 : Hid (SlV w w.heap.size 4 Nb.C b.nbV a.nb) := Lib.hid (by rw [← EF20.out]; exact hbl.hnb)
  obtain ⟨A20, c20, ea20, -⟩ := HU20.out
  obtain ⟨D20, d20, eb20, -⟩ := HV20.out
  have EA20 := Lib.hid ea20
  have EB20 := Lib.hid eb20
  clear ea20 eb20
  have EF21 : Hid (b.net = a.net) := Lib.hid (congrArg Rt.net hp).symm
  have HU21 := Lib.hid hal.hnet
  have HV21 : Hid (SlV w w.heap.size 2 Pf.C b.netV a.net) := Lib.hid (by rw [← EF21.out]; exact hbl.hnet)
  obtain ⟨A21, c21, ea21, -⟩ := HU21.out
  obtain ⟨D21, d21, eb21, -⟩ := HV21.out
  have EA21 := Lib.hid ea21
  have EB21 := Lib.hid eb21
  clear ea21 eb21
  have EF22 : Hid (b.ag = a.ag) := Lib.hid (congrArg Rt.ag hp).symm
  have HU22 := Lib.hid hal.hag
  have HV22 : Hid (SlV w w.heap.size 3 Ag.C b.agV a.ag) := Lib.hid (by rw [← EF22.out]; exact hbl.hag)
  obtain ⟨A22, c22, ea22, -⟩ := HU22.out
  obtain ⟨D22, d22, eb22, -⟩ := HV22.out
  have EA22 := Lib.hid ea22
  have EB22 := Lib.hid eb22
  clear ea22 eb22
  have EF23 : Hid (b.cd = a.cd) := Lib.hid (congrArg Rt.cd hp).symm
  have HU23 := Lib.hid hal.hcd
  have HV23 : Hid (SlV w w.heap.size 5 Cd.C b.cdV a.cd) := Lib.hid (by rw [← EF23.out]; exact hbl.hcd)
  obtain ⟨A23, c23, ea23, -⟩ := HU23.out
  obtain ⟨D23, d23, eb23, -⟩ := HV23.out
  have EA23 := Lib.hid ea23
  have EB23 := Lib.hid eb23
  clear ea23 eb23
  have EF24 : Hid (b.pvRed = a.pvRed) := Lib.hid (congrArg Rt.pvRed hp).symm
  have HU24 := Lib.hid hal.hpvRed
  have HV24 : Hid (SlV w w.heap.size 5 Rd.C b.pvRedV a.pvRed) := Lib.hid (by rw [← EF24.out]; exact hbl.hpvRed)
  obtain ⟨A24, c24, ea24, -⟩ := HU24.out
  obtain ⟨D24, d24, eb24, -⟩ := HV24.out
  have EA24 := Lib.hid ea24
  have EB24 := Lib.hid eb24
  clear ea24 eb24
  have ca8 : ((w.alloc (.cells a.C 41)).alloc (.cells b.C 41)).cell? ⟨w.heap.size, 8, none⟩ = .some (.bool a.lsOn) := H0.out.ha.cell 8
  have cb8 : ((w.alloc (.cells a.C 41)).alloc (.cells b.C 41)).cell? ⟨w.heap.size + 1, 8, none⟩ = .some (.bool a.lsOn) := by rw [← EF8.out]; exact H0.out.hb.cell 8
  have ca9 : ((w.alloc (.cells a.C 41)).alloc (.cells b.C 41)).cell? ⟨w.heap.size, 9, none⟩ = .some (.int .i64 a.lsAdmin) := H0.out.ha.cell 9
  have cb9 : ((w.alloc (.cells a.C 41)).alloc (.cells b.C 41)).cell? ⟨w.heap.size + 1, 9, none⟩ = .some (.int .i64 a.lsAdmin) := by rw [← EF9.out]; exact H0.out.hb.cell 9
  have ca10 : ((w.alloc (.cells a.C 41)).alloc (.cells b.C 41)).cell? ⟨w.heap.size, 10, none⟩ = .some (.slice A10 a.ranges.length c10) := by rw [← EA10.out]; exact H0.out.ha.cell 10
  have cb10 : ((w.alloc (.cells a.C 41)).alloc (.cells b.C 41)).cell? ⟨w.heap.size + 1, 10, none⟩ = .some (.slice D10 a.ranges.length d10) := by rw [← EB10.out]; exact H0.out.hb.cell 10
  have ca11 : ((w.alloc (.cells a.C 41)).alloc (.cells b.C 41)).cell? ⟨w.heap.size, 11, none⟩ = .some (.slice A11 a.lsRed.length c11) := by rw [← EA11.out]; exact H0.out.ha.cell 11
  have cb11 : ((w.alloc (.cells a.C 41)).alloc (.cells b.C 41)).cell? ⟨w.heap.size + 1, 11, none⟩ = .some (.slice D11 a.lsRed.length d11) := by rw [← EB11.out]; exact H0.out.hb.cell 11
  have HRL := Lib.hid (fun (W : World) (hW : SM a b w.heap.size (w.heap.size + 1) w W) => sameRedist_any a.lsRedV b.lsRedV a.lsRed W w.heap.size (HU11.out.below hW.bel) (HV11.out.below hW.bel) hW.bel.size)
  have HRD := Lib.hid (fun (W : World) (hW : SM a b w.heap.size (w.heap.size + 1) w W) => sameRedist_any a.dvRedV b.dvRedV a.dvRed W w.heap.size (HU16.out.below hW.bel) (HV16.out.below hW.bel) hW.bel.size)
  have HRP := Lib.hid (fun (W : World) (hW : SM a b w.heap.size (w.heap.size + 1) w W) => sameRedist_any a.pvRedV b.pvRedV a.pvRed W w.heap.size (HU24.out.below hW.bel) (HV24.out.below hW.bel) hW.bel.size)
  rw [EA11.out, EB11.out] at HRL
  rw [EA16.out, EB16.out] at HRD
  rw [EA24.out, EB24.out] at HRP
  clear hal hbl hat hbt hp
  go_enter Tryz.func17, Tryz.ntmps17
  go_wp2_with fail
  refine (HRL.out _ H0.out).mono ?_
  rintro e w3 ⟨rfl, hb3⟩
  have H3 := Lib.hid (H0.out.keep hb3)
  clear hb3 H0 ca8 cb8 ca9 cb9 ca10 cb10 ca11 cb11
  go_wp2_with fail
  go_loopg [5] a.ranges.length (fun gh ix wr => ∃ i : Nat, i + gh = a.ranges.length ∧ ix = .int .i64 i ∧ Hid (SM a b w.heap.size (w.heap.size + 1) w wr))
  case atStart => exact ⟨0, by omega, rfl, H3⟩
  case round =>
    clear H3
    obtain ⟨i, hi, rfl, H⟩ := hrel
    have hlx : a.ranges.length ≤ 9223372036854775807 := by have := HU10.out.len; simp only [maxLen] at this; exact this
    by_cases hil : i < a.ranges.length
    case pos =>
      obtain ⟨g3, o3, x3, e3, -, hg3, R3⟩ := HU10.out.elem (n := 3) (by decide) (fun _ => rfl) hil
      obtain ⟨g4, o4, x4, e4, -, hg4, R4⟩ := HV10.out.elem (n := 3) (by decide) (fun _ => rfl) hil
      rw [EA10.out] at e3
      rw [EB10.out] at e4
      injection e3 with f1 f2 f3
      injection e4 with f4 f5 f6
      subst f1 f3 f4 f6
      have r3 := Lib.hid (rangeBelow R3 H.out.bel hg3)
      have r4 := Lib.hid (rangeBelow R4 H.out.bel hg4)
      have hiz : (i : Int) < (a.ranges.length : Int) := by omega
      have ca10 : wr.cell? ⟨w.heap.size, 10, none⟩ = .some (.slice (some ⟨g3, o3, none⟩) a.ranges.length c10) := by rw [← EA10.out]; exact H.out.ha.cell 10
      have cb10 : wr.cell? ⟨w.heap.size + 1, 10, none⟩ = .some (.slice (some ⟨g4, o4, none⟩) a.ranges.length d10) := by rw [← EB10.out]; exact H.out.hb.cell 10
      generalize a.ranges[i] = z at r3 r4
      clear R3 R4 f2 f5
      have ka0 : wr.cell? ⟨g3, o3 + i * 3, none⟩ = .some (.int .i64 z.area) := r3.out 0 _ rfl
      have ka1 : wr.cell? ⟨g3, o3 + i * 3 + 1, none⟩ = .some (.int .u32 (z.pa : Int)) := r3.out 1 _ rfl
      have ka2 : wr.cell? ⟨g3, o3 + i * 3 + 2, none⟩ = .some (.int .i64 z.pl) := r3.out 2 _ rfl
      have kb0 : wr.cell? ⟨g4, o4 + i * 3, none⟩ = .some (.int .i64 z.area) := r4.out 0 _ rfl
      have kb1 : wr.cell? ⟨g4, o4 + i * 3 + 1, none⟩ = .some (.int .u32 (z.pa : Int)) := r4.out 1 _ rfl
      have kb2 : wr.cell? ⟨g4, o4 + i * 3 + 2, none⟩ = .some (.int .i64 z.pl) := r4.out 2 _ rfl
      go_wp2_with fail
      go_still (by kernel_rfl)
      go_wp2_with fail
      go_roundg (a.ranges.length - (i + 1))
      case measure => omega
      case rel => exact ⟨i + 1, by omega, by go_num, Lib.hid (H.out.keep (drew_below wr))⟩
    case neg =>
      have hiz : ¬ ((i : Int) < (a.ranges.length : Int)) := by omega
      clear hlx
      have ca12 : wr.cell? ⟨w.heap.size, 12, none⟩ = .some (.bool a.dvOn) := H.out.ha.cell 12
      have cb12 : wr.cell? ⟨w.heap.size + 1, 12, none⟩ = .some (.bool a.dvOn) := by rw [← EF12.out]; exact H.out.hb.cell 12
      have ca13 : wr.cell? ⟨w.heap.size, 13, none⟩ = .some (.int .i64 a.dvAdmin) := H.out.ha.cell 13
      have cb13 : wr.cell? ⟨w.heap.size + 1, 13, none⟩ = .some (.int .i64 a.dvAdmin) := by rw [← EF13.out]; exact H.out.hb.cell 13
      have ca14 : wr.cell? ⟨w.heap.size, 14, none⟩ = .some (.string (str a.dvIn)) := H.out.ha.cell 14
      have cb14 : wr.cell? ⟨w.heap.size + 1, 14, none⟩ = .some (.string (str a.dvIn)) := by rw [← EF14.out]; exact H.out.hb.cell 14
      have ca15 : wr.cell? ⟨w.heap.size, 15, none⟩ = .some (.string (str a.dvOut)) := H.out.ha.cell 15
      have cb15 : wr.cell? ⟨w.heap.size + 1, 15, none⟩ = .some (.string (str a.dvOut)) := by rw [← EF15.out]; exact H.out.hb.cell 15
      have ca16 : wr.cell? ⟨w.heap.size, 16, none⟩ = .some (.slice A16 a.dvRed.length c16) := by rw [← EA16.out]; exact H.out.ha.cell 16
      have cb16 : wr.cell? ⟨w.heap.size + 1, 16, none⟩ = .some (.slice D16 a.dvRed.length d16) := by rw [← EB16.out]; exact H.out.hb.cell 16
      have ca10 : wr.cell? ⟨w.heap.size, 10, none⟩ = .some (.slice A10 a.ranges.length c10) := by rw [← EA10.out]; exact H.out.ha.cell 10
      have cb10 : wr.cell? ⟨w.heap.size + 1, 10, none⟩ = .some (.slice D10 a.ranges.length d10) := by rw [← EB10.out]; exact H.out.hb.cell 10
      go_wp2_with fail
      refine (HRD.out _ H.out).mono ?_
      rintro e w4 ⟨rfl, hb4⟩
      have H4 := Lib.hid (H.out.keep hb4)
      clear ca10 cb10 ca12 cb12 ca13 cb13 ca14 cb14 ca15 cb15 ca16 cb16 hb4 H
      go_upto_region 10 with (fail)
      go_cut [6, 7] (fun x0 y0 wx => ∃ p q : Nat, x0 = .pointer (some ⟨p, 0, none⟩) ∧ y0 = .pointer (some ⟨q, 0, none⟩) ∧ SX a b w.heap.size (w.heap.size + 1) p q 39 #[.bool a.pvOn, .int .i64 a.ext, .int .i64 a.int, .slice A20 a.nb.length c20, .slice A21 a.net.length c21, .slice A22 a.ag.length c22, .slice A23 a.cd.length c23, .slice A24 a.pvRed.length c24] #[.bool a.pvOn, .int .i64 a.ext, .int .i64 a.int, .slice D20 a.nb.length d20, .slice D21 a.net.length d21, .slice D22 a.ag.length d22, .slice D23 a.cd.length d23, .slice D24 a.pvRed.length d24] w wx)
      case first =>
        have lb3 : w.heap.size < w4.heap.size := blk_lt H4.out.ha
        have lb4 : w.heap.size + 1 < w4.heap.size := blk_lt H4.out.hb
        have ca17 : w4.cell? ⟨w.heap.size, 17, none⟩ = .some (.bool a.pvOn) := H4.out.ha.cell 17
        have cb17 : w4.cell? ⟨w.heap.size + 1, 17, none⟩ = .some (.bool a.pvOn) := by rw [← EF17.out]; exact H4.out.hb.cell 17
        have ca18 : w4.cell? ⟨w.heap.size, 18, none⟩ = .some (.int .i64 a.ext) := H4.out.ha.cell 18
        have cb18 : w4.cell? ⟨w.heap.size + 1, 18, none⟩ = .some (.int .i64 a.ext) := by rw [← EF18.out]; exact H4.out.hb.cell 18
        have ca19 : w4.cell? ⟨w.heap.size, 19, none⟩ = .some (.int .i64 a.int) := H4.out.ha.cell 19
        have cb19 : w4.cell? ⟨w.heap.size + 1, 19, none⟩ = .some (.int .i64 a.int) := by rw [← EF19.out]; exact H4.out.hb.cell 19
        have ca20 : w4.cell? ⟨w.heap.size, 20, none⟩ = .some (.slice A20 a.nb.length c20) := by rw [← EA20.out]; exact H4.out.ha.cell 20
        have cb20 : w4.cell? ⟨w.heap.size + 1, 20, none⟩ = .some (.slice D20 a.nb.length d20) := by rw [← EB20.out]; exact H4.out.hb.cell 20
        have ca21 : w4.cell? ⟨w.heap.size, 21, none⟩ = .some (.slice A21 a.net.length c21) := by rw [← EA21.out]; exact H4.out.ha.cell 21
        have cb21 : w4.cell? ⟨w.heap.size + 1, 21, none⟩ = .some (.slice D21 a.net.length d21) := by rw [← EB21.out]; exact H4.out.hb.cell 21
        have ca22 : w4.cell? ⟨w.heap.size, 22, none⟩ = .some (.slice A22 a.ag.length c22) := by rw [← EA22.out]; exact H4.out.ha.cell 22
        have cb22 : w4.cell? ⟨w.heap.size + 1, 22, none⟩ = .some (.slice D22 a.ag.length d22) := by rw [← EB22.out]; exact H4.out.hb.cell 22
        have ca23 : w4.cell? ⟨w.heap.size, 23, none⟩ = .some (.slice A23 a.cd.length c23) := by rw [← EA23.out]; exact H4.out.ha.cell 23
        have cb23 : w4.cell? ⟨w.heap.size + 1, 23, none⟩ = .some (.slice D23 a.cd.length d23) := by rw [← EB23.out]; exact H4.out.hb.cell 23
        have ca24 : w4.cell? ⟨w.heap.size, 24, none⟩ = .some (.slice A24 a.pvRed.length c24) := by rw [← EA24.out]; exact H4.out.ha.cell 24
        have cb24 : w4.cell? ⟨w.heap.size + 1, 24, none⟩ = .some (.slice D24 a.pvRed.length d24) := by rw [← EB24.out]; exact H4.out.hb.cell 24
        have da17 := ca17
        have db17 := cb17
        have da18 := ca18
        have db18 := cb18
        have da19 := ca19
        have db19 := cb19
        have da20 := ca20
        have db20 := cb20
        have da21 := ca21
        have db21 := cb21
        have da22 := ca22
        have db22 := cb22
        have da23 := ca23
        have db23 := cb23
        have da24 := ca24
        have db24 := cb24
        change w4.drew.cell? _ = _ at da17 db17
        change w4.drew.cell? _ = _ at da18 db18
        change w4.drew.cell? _ = _ at da19 db19
        change w4.drew.cell? _ = _ at da20 db20
        change w4.drew.cell? _ = _ at da21 db21
        change w4.drew.cell? _ = _ at da22 db22
        change w4.drew.cell? _ = _ at da23 db23
        change w4.drew.cell? _ = _ at da24 db24
        go_region_held3 (fun w' => w'.cell? ⟨w.heap.size, 17, none⟩ = .some (.bool a.pvOn) ∧ w'.cell? ⟨w.heap.size, 18, none⟩ = .some (.int .i64 a.ext) ∧ w'.cell? ⟨w.heap.size, 19, none⟩ = .some (.int .i64 a.int) ∧ w'.cell? ⟨w.heap.size, 20, none⟩ = .some (.slice A20 a.nb.length c20) ∧ w'.cell? ⟨w.heap.size, 21, none⟩ = .some (.slice A21 a.net.length c21) ∧ w'.cell? ⟨w.heap.size, 22, none⟩ = .some (.slice A22 a.ag.length c22) ∧ w'.cell? ⟨w.heap.size, 23, none⟩ = .some (.slice A23 a.cd.length c23) ∧ w'.cell? ⟨w.heap.size, 24, none⟩ = .some (.slice A24 a.pvRed.length c24) ∧ w'.cell? ⟨w.heap.size + 1, 17, none⟩ = .some (.bool a.pvOn) ∧ w'.cell? ⟨w.heap.size + 1, 18, none⟩ = .some (.int .i64 a.ext) ∧ w'.cell? ⟨w.heap.size + 1, 19, none⟩ = .some (.int .i64 a.int) ∧ w'.cell? ⟨w.heap.size + 1, 20, none⟩ = .some (.slice D20 a.nb.length d20) ∧ w'.cell? ⟨w.heap.size + 1, 21, none⟩ = .some (.slice D21 a.net.length d21) ∧ w'.cell? ⟨w.heap.size + 1, 22, none⟩ = .some (.slice D22 a.ag.length d22) ∧ w'.cell? ⟨w.heap.size + 1, 23, none⟩ = .some (.slice D23 a.cd.length d23) ∧ w'.cell? ⟨w.heap.size + 1, 24, none⟩ = .some (.slice D24 a.pvRed.length d24)) (first | (with_reducible exact ⟨da17, da18, da19, da20, da21, da22, da23, da24, db17, db18, db19, db20, db21, db22, db23, db24⟩) | go_keep) (fail)
        all_goals
          go_wp2_with fail
          go_meet
          first | exact ⟨w4.heap.size, w4.heap.size + 1, rfl, rfl, ⟨H4.out.keep (two_new w4 39 #[.bool a.pvOn, .int .i64 a.ext, .int .i64 a.int, .slice A20 a.nb.length c20, .slice A21 a.net.length c21, .slice A22 a.ag.length c22, .slice A23 a.cd.length c23, .slice A24 a.pvRed.length c24] #[.bool a.pvOn, .int .i64 a.ext, .int .i64 a.int, .slice D20 a.nb.length d20, .slice D21 a.net.length d21, .slice D22 a.ag.length d22, .slice D23 a.cd.length d23, .slice D24 a.pvRed.length d24]).2.2, (two_new w4 39 #[.bool a.pvOn, .int .i64 a.ext, .int .i64 a.int, .slice A20 a.nb.length c20, .slice A21 a.net.length c21, .slice A22 a.ag.length c22, .slice A23 a.cd.length c23, .slice A24 a.pvRed.length c24] #[.bool a.pvOn, .int .i64 a.ext, .int .i64 a.int, .slice D20 a.nb.length d20, .slice D21 a.net.length d21, .slice D22 a.ag.length d22, .slice D23 a.cd.length d23, .slice D24 a.pvRed.length d24]).1, (two_new w4 39 #[.bool a.pvOn, .int .i64 a.ext, .int .i64 a.int, .slice A20 a.nb.length c20, .slice A21 a.net.length c21, .slice A22 a.ag.length c22, .slice A23 a.cd.length c23, .slice A24 a.pvRed.length c24] #[.bool a.pvOn, .int .i64 a.ext, .int .i64 a.int, .slice D20 a.nb.length d20, .slice D21 a.net.length d21, .slice D22 a.ag.length d22, .slice D23 a.cd.length d23, .slice D24 a.pvRed.length d24]).2.1⟩⟩ | exact ⟨w4.heap.size + 1, w4.heap.size, rfl, rfl, ⟨H4.out.keep (two_new w4 39 #[.bool a.pvOn, .int .i64 a.ext, .int .i64 a.int, .slice D20 a.nb.length d20, .slice D21 a.net.length d21, .slice D22 a.ag.length d22, .slice D23 a.cd.length d23, .slice D24 a.pvRed.length d24] #[.bool a.pvOn, .int .i64 a.ext, .int .i64 a.int, .slice A20 a.nb.length c20, .slice A21 a.net.length c21, .slice A22 a.ag.length c22, .slice A23 a.cd.length c23, .slice A24 a.pvRed.length c24]).2.2, (two_new w4 39 #[.bool a.pvOn, .int .i64 a.ext, .int .i64 a.int, .slice D20 a.nb.length d20, .slice D21 a.net.length d21, .slice D22 a.ag.length d22, .slice D23 a.cd.length d23, .slice D24 a.pvRed.length d24] #[.bool a.pvOn, .int .i64 a.ext, .int .i64 a.int, .slice A20 a.nb.length c20, .slice A21 a.net.length c21, .slice A22 a.ag.length c22, .slice A23 a.cd.length c23, .slice A24 a.pvRed.length c24]).2.1, (two_new w4 39 #[.bool a.pvOn, .int .i64 a.ext, .int .i64 a.int, .slice D20 a.nb.length d20, .slice D21 a.net.length d21, .slice D22 a.ag.length d22, .slice D23 a.cd.length d23, .slice D24 a.pvRed.length d24] #[.bool a.pvOn, .int .i64 a.ext, .int .i64 a.int, .slice A20 a.nb.length c20, .slice A21 a.net.length c21, .slice A22 a.ag.length c22, .slice A23 a.cd.length c23, .slice A24 a.pvRed.length c24]).1⟩⟩
      case rest =>
        obtain ⟨p, q, rfl, rfl, hx⟩ := hcut
        have HX := Lib.hid hx
        clear hx H4
        have p17 : wc.cell? ⟨p, 0, none⟩ = .some (.bool a.pvOn) := HX.out.hp.cell 0
        have q17 : wc.cell? ⟨q, 0, none⟩ = .some (.bool a.pvOn) := HX.out.hq.cell 0
        have p18 : wc.cell? ⟨p, 1, none⟩ = .some (.int .i64 a.ext) := HX.out.hp.cell 1
        have q18 : wc.cell? ⟨q, 1, none⟩ = .some (.int .i64 a.ext) := HX.out.hq.cell 1
        have p19 : wc.cell? ⟨p, 2, none⟩ = .some (.int .i64 a.int) := HX.out.hp.cell 2
        have q19 : wc.cell? ⟨q, 2, none⟩ = .some (.int .i64 a.int) := HX.out.hq.cell 2
        have p20 : wc.cell? ⟨p, 3, none⟩ = .some (.slice A20 a.nb.length c20) := HX.out.hp.cell 3
        have q20 : wc.cell? ⟨q, 3, none⟩ = .some (.slice D20 a.nb.length d20) := HX.out.hq.cell 3
        have p21 : wc.cell? ⟨p, 4, none⟩ = .some (.slice A21 a.net.length c21) := HX.out.hp.cell 4
        have q21 : wc.cell? ⟨q, 4, none⟩ = .some (.slice D21 a.net.length d21) := HX.out.hq.cell 4
        have p22 : wc.cell? ⟨p, 5, none⟩ = .some (.slice A22 a.ag.length c22) := HX.out.hp.cell 5
        have q22 : wc.cell? ⟨q, 5, none⟩ = .some (.slice D22 a.ag.length d22) := HX.out.hq.cell 5
        have p23 : wc.cell? ⟨p, 6, none⟩ = .some (.slice A23 a.cd.length c23) := HX.out.hp.cell 6
        have q23 : wc.cell? ⟨q, 6, none⟩ = .some (.slice D23 a.cd.length d23) := HX.out.hq.cell 6
        have p24 : wc.cell? ⟨p, 7, none⟩ = .some (.slice A24 a.pvRed.length c24) := HX.out.hp.cell 7
        have q24 : wc.cell? ⟨q, 7, none⟩ = .some (.slice D24 a.pvRed.length d24) := HX.out.hq.cell 7
        go_wp2_with fail
        refine (HRP.out _ HX.out.sm).mono ?_
        rintro e w5 ⟨rfl, hb5⟩
        have H5 := Lib.hid (HX.out.keep hb5)
        clear hb5 HX p17 q17 p18 q18 p19 q19 p20 q20 p21 q21 p22 q22 p23 q23 p24 q24
        go_wp2_with fail
        go_loopg [8] a.nb.length (fun gh ix wr => ∃ i : Nat, i + gh = a.nb.length ∧ ix = .int .i64 i ∧ Hid (SX a b w.heap.size (w.heap.size + 1) p q 39 #[.bool a.pvOn, .int .i64 a.ext, .int .i64 a.int, .slice A20 a.nb.length c20, .slice A21 a.net.length c21, .slice A22 a.ag.length c22, .slice A23 a.cd.length c23, .slice A24 a.pvRed.length c24] #[.bool a.pvOn, .int .i64 a.ext, .int .i64 a.int, .slice D20 a.nb.length d20, .slice D21 a.net.length d21, .slice D22 a.ag.length d22, .slice D23 a.cd.length d23, .slice D24 a.pvRed.length d24] w wr))
        case atStart => exact ⟨0, by omega, rfl, H5⟩
        case round =>
          clear H5
          obtain ⟨i, hi, rfl, H⟩ := hrel
          have hlx : a.nb.length ≤ 9223372036854775807 := by have := HU20.out.len; simp only [maxLen] at this; exact this
          by_cases hil : i < a.nb.length
          case pos =>
            obtain ⟨g3, o3, x3, e3, -, hg3, R3⟩ := HU20.out.elem (n := 4) (by decide) (fun _ => rfl) hil
            obtain ⟨g4, o4, x4, e4, -, hg4, R4⟩ := HV20.out.elem (n := 4) (by decide) (fun _ => rfl) hil
            rw [EA20.out] at e3
            rw [EB20.out] at e4
            injection e3 with f1 f2 f3
            injection e4 with f4 f5 f6
            subst f1 f3 f4 f6
            have r3 := Lib.hid (rangeBelow R3 H.out.sm.bel hg3)
            have r4 := Lib.hid (rangeBelow R4 H.out.sm.bel hg4)
            have hiz : (i : Int) < (a.nb.length : Int) := by omega
            have p20 : wr.cell? ⟨p, 3, none⟩ = .some (.slice (some ⟨g3, o3, none⟩) a.nb.length c20) := H.out.hp.cell 3
            have q20 : wr.cell? ⟨q, 3, none⟩ = .some (.slice (some ⟨g4, o4, none⟩) a.nb.length d20) := H.out.hq.cell 3
            generalize a.nb[i] = z at r3 r4
            clear R3 R4 f2 f5
            have ka0 : wr.cell? ⟨g3, o3 + i * 4, none⟩ = .some (.int .u32 (z.addr : Int)) := r3.out 0 _ rfl
            have ka1 : wr.cell? ⟨g3, o3 + i * 4 + 1, none⟩ = .some (.int .i64 z.asn) := r3.out 1 _ rfl
            have ka2 : wr.cell? ⟨g3, o3 + i * 4 + 2, none⟩ = .some (.string (str z.inn)) := r3.out 2 _ rfl
            have ka3 : wr.cell? ⟨g3, o3 + i * 4 + 3, none⟩ = .some (.string (str z.out)) := r3.out 3 _ rfl
            have kb0 : wr.cell? ⟨g4, o4 + i * 4, none⟩ = .some (.int .u32 (z.addr : Int)) := r4.out 0 _ rfl
            have kb1 : wr.cell? ⟨g4, o4 + i * 4 + 1, none⟩ = .some (.int .i64 z.asn) := r4.out 1 _ rfl
            have kb2 : wr.cell? ⟨g4, o4 + i * 4 + 2, none⟩ = .some (.string (str z.inn)) := r4.out 2 _ rfl
            have kb3 : wr.cell? ⟨g4, o4 + i * 4 + 3, none⟩ = .some (.string (str z.out)) := r4.out 3 _ rfl
            go_wp2_with fail
            go_still (by kernel_rfl)
            go_wp2_with fail
            go_roundg (a.nb.length - (i + 1))
            case measure => omega
            case rel => exact ⟨i + 1, by omega, by go_num, Lib.hid (H.out.keep (drew_below wr))⟩
          case neg =>
            have hiz : ¬ ((i : Int) < (a.nb.length : Int)) := by omega
            clear hlx
            have p20 : wr.cell? ⟨p, 3, none⟩ = .some (.slice A20 a.nb.length c20) := H.out.hp.cell 3
            go_wp2_with fail
            clear p20 hiz hil hi
            generalize wr = wv20 at H ⊢
            go_loopg [9] a.net.length (fun gh ix wr => ∃ i : Nat, i + gh = a.net.length ∧ ix = .int .i64 i ∧ Hid (SX a b w.heap.size (w.heap.size + 1) p q 39 #[.bool a.pvOn, .int .i64 a.ext, .int .i64 a.int, .slice A20 a.nb.length c20, .slice A21 a.net.length c21, .slice A22 a.ag.length c22, .slice A23 a.cd.length c23, .slice A24 a.pvRed.length c24] #[.bool a.pvOn, .int .i64 a.ext, .int .i64 a.int, .slice D20 a.nb.length d20, .slice D21 a.net.length d21, .slice D22 a.ag.length d22, .slice D23 a.cd.length d23, .slice D24 a.pvRed.length d24] w wr))
            case atStart => exact ⟨0, by omega, rfl, H⟩
            case round =>
              clear H
              obtain ⟨i, hi, rfl, H⟩ := hrel
              have hlx : a.net.length ≤ 9223372036854775807 := by have := HU21.out.len; simp only [maxLen] at this; exact this
              by_cases hil : i < a.net.length
              case pos =>
                obtain ⟨g3, o3, x3, e3, -, hg3, R3⟩ := HU21.out.elem (n := 2) (by decide) (fun _ => rfl) hil
                obtain ⟨g4, o4, x4, e4, -, hg4, R4⟩ := HV21.out.elem (n := 2) (by decide) (fun _ => rfl) hil
                rw [EA21.out] at e3
                rw [EB21.out] at e4
                injection e3 with f1 f2 f3
                injection e4 with f4 f5 f6
                subst f1 f3 f4 f6
                have r3 := Lib.hid (rangeBelow R3 H.out.sm.bel hg3)
                have r4 := Lib.hid (rangeBelow R4 H.out.sm.bel hg4)
                have hiz : (i : Int) < (a.net.length : Int) := by omega
                have p21 : wr.cell? ⟨p, 4, none⟩ = .some (.slice (some ⟨g3, o3, none⟩) a.net.length c21) := H.out.hp.cell 4
                have q21 : wr.cell? ⟨q, 4, none⟩ = .some (.slice (some ⟨g4, o4, none⟩) a.net.length d21) := H.out.hq.cell 4
                generalize a.net[i] = z at r3 r4
                clear R3 R4 f2 f5
                have ka0 : wr.cell? ⟨g3, o3 + i * 2, none⟩ = .some (.int .u32 (z.pa : Int)) := r3.out 0 _ rfl
                have ka1 : wr.cell? ⟨g3, o3 + i * 2 + 1, none⟩ = .some (.int .i64 z.pl) := r3.out 1 _ rfl
                have kb0 : wr.cell? ⟨g4, o4 + i * 2, none⟩ = .some (.int .u32 (z.pa : Int)) := r4.out 0 _ rfl
                have kb1 : wr.cell? ⟨g4, o4 + i * 2 + 1, none⟩ = .some (.int .i64 z.pl) := r4.out 1 _ rfl
                go_wp2_with fail
                go_still (by kernel_rfl)
                go_wp2_with fail
                go_roundg (a.net.length - (i + 1))
                case measure => omega
                case rel => exact ⟨i + 1, by omega, by go_num, Lib.hid (H.out.keep (drew_below wr))⟩
              case neg =>
                have hiz : ¬ ((i : Int) < (a.net.length : Int)) := by omega
                clear hlx
                have p21 : wr.cell? ⟨p, 4, none⟩ = .some (.slice A21 a.net.length c21) := H.out.hp.cell 4
                go_wp2_with fail
                clear p21 hiz hil hi
                generalize wr = wv21 at H ⊢
                go_loopg [10] a.ag.length (fun gh ix wr => ∃ i : Nat, i + gh = a.ag.length ∧ ix = .int .i64 i ∧ Hid (SX a b w.heap.size (w.heap.size + 1) p q 39 #[.bool a.pvOn, .int .i64 a.ext, .int .i64 a.int, .slice A20 a.nb.length c20, .slice A21 a.net.length c21, .slice A22 a.ag.length c22, .slice A23 a.cd.length c23, .slice A24 a.pvRed.length c24] #[.bool a.pvOn, .int .i64 a.ext, .int .i64 a.int, .slice D20 a.nb.length d20, .slice D21 a.net.length d21, .slice D22 a.ag.length d22, .slice D23 a.cd.length d23, .slice D24 a.pvRed.length d24] w wr))
                case atStart => exact ⟨0, by omega, rfl, H⟩
                case round =>
                  clear H
                  obtain ⟨i, hi, rfl, H⟩ := hrel
                  have hlx : a.ag.length ≤ 9223372036854775807 := by have := HU22.out.len; simp only [maxLen] at this; exact this
                  by_cases hil : i < a.ag.length
                  case pos =>
                    obtain ⟨g3, o3, x3, e3, -, hg3, R3⟩ := HU22.out.elem (n := 3) (by decide) (fun _ => rfl) hil
                    obtain ⟨g4, o4, x4, e4, -, hg4, R4⟩ := HV22.out.elem (n := 3) (by decide) (fun _ => rfl) hil
                    rw [EA22.out] at e3
                    rw [EB22.out] at e4
                    injection e3 with f1 f2 f3
                    injection e4 with f4 f5 f6
                    subst f1 f3 f4 f6
                    have r3 := Lib.hid (rangeBelow R3 H.out.sm.bel hg3)
                    have r4 := Lib.hid (rangeBelow R4 H.out.sm.bel hg4)
                    have hiz : (i : Int) < (a.ag.length : Int) := by omega
                    have p22 : wr.cell? ⟨p, 5, none⟩ = .some (.slice (some ⟨g3, o3, none⟩) a.ag.length c22) := H.out.hp.cell 5
                    have q22 : wr.cell? ⟨q, 5, none⟩ = .some (.slice (some ⟨g4, o4, none⟩) a.ag.length d22) := H.out.hq.cell 5
                    generalize a.ag[i] = z at r3 r4
                    clear R3 R4 f2 f5
                    have ka0 : wr.cell? ⟨g3, o3 + i * 3, none⟩ = .some (.int .u32 (z.pa : Int)) := r3.out 0 _ rfl
                    have ka1 : wr.cell? ⟨g3, o3 + i * 3 + 1, none⟩ = .some (.int .i64 z.pl) := r3.out 1 _ rfl
                    have ka2 : wr.cell? ⟨g3, o3 + i * 3 + 2, none⟩ = .some (.bool z.only) := r3.out 2 _ rfl
                    have kb0 : wr.cell? ⟨g4, o4 + i * 3, none⟩ = .some (.int .u32 (z.pa : Int)) := r4.out 0 _ rfl
                    have kb1 : wr.cell? ⟨g4, o4 + i * 3 + 1, none⟩ = .some (.int .i64 z.pl) := r4.out 1 _ rfl
                    have kb2 : wr.cell? ⟨g4, o4 + i * 3 + 2, none⟩ = .some (.bool z.only) := r4.out 2 _ rfl
                    go_wp2_with fail
                    go_still (by kernel_rfl)
                    go_wp2_with fail
                    go_roundg (a.ag.length - (i + 1))
                    case measure => omega
                    case rel => exact ⟨i + 1, by omega, by go_num, Lib.hid (H.out.keep (drew_below wr))⟩
                  case neg =>
                    have hiz : ¬ ((i : Int) < (a.ag.length : Int)) := by omega
                    clear hlx
                    have p22 : wr.cell? ⟨p, 5, none⟩ = .some (.slice A22 a.ag.length c22) := H.out.hp.cell 5
                    go_wp2_with fail
                    clear p22 hiz hil hi
                    generalize wr = wv22 at H ⊢
                    go_loopg [11] a.cd.length (fun gh ix wr => ∃ i : Nat, i + gh = a.cd.length ∧ ix = .int .i64 i ∧ Hid (SX a b w.heap.size (w.heap.size + 1) p q 39 #[.bool a.pvOn, .int .i64 a.ext, .int .i64 a.int, .slice A20 a.nb.length c20, .slice A21 a.net.length c21, .slice A22 a.ag.length c22, .slice A23 a.cd.length c23, .slice A24 a.pvRed.length c24] #[.bool a.pvOn, .int .i64 a.ext, .int .i64 a.int, .slice D20 a.nb.length d20, .slice D21 a.net.length d21, .slice D22 a.ag.length d22, .slice D23 a.cd.length d23, .slice D24 a.pvRed.length d24] w wr))
                    case atStart => exact ⟨0, by omega, rfl, H⟩
                    case round =>
                      clear H
                      obtain ⟨i, hi, rfl, H⟩ := hrel
                      have hlx : a.cd.length ≤ 9223372036854775807 := by have := HU23.out.len; simp only [maxLen] at this; exact this
                      by_cases hil : i < a.cd.length
                      case pos =>
                        obtain ⟨g3, o3, x3, e3, -, hg3, R3⟩ := HU23.out.elem (n := 5) (by decide) (fun _ => rfl) hil
                        obtain ⟨g4, o4, x4, e4, -, hg4, R4⟩ := HV23.out.elem (n := 5) (by decide) (fun _ => rfl) hil
                        rw [EA23.out] at e3
                        rw [EB23.out] at e4
                        injection e3 with f1 f2 f3
                        injection e4 with f4 f5 f6
                        subst f1 f3 f4 f6
                        have r3 := Lib.hid (rangeBelow R3 H.out.sm.bel hg3)
                        have r4 := Lib.hid (rangeBelow R4 H.out.sm.bel hg4)
                        have hiz : (i : Int) < (a.cd.length : Int) := by omega
                        have p23 : wr.cell? ⟨p, 6, none⟩ = .some (.slice (some ⟨g3, o3, none⟩) a.cd.length c23) := H.out.hp.cell 6
                        have q23 : wr.cell? ⟨q, 6, none⟩ = .some (.slice (some ⟨g4, o4, none⟩) a.cd.length d23) := H.out.hq.cell 6
                        generalize a.cd[i] = z at r3 r4
                        clear R3 R4 f2 f5
                        have ka0 : wr.cell? ⟨g3, o3 + i * 5, none⟩ = .some (.int .u32 (z.pa : Int)) := r3.out 0 _ rfl
                        have ka1 : wr.cell? ⟨g3, o3 + i * 5 + 1, none⟩ = .some (.int .i64 z.pl) := r3.out 1 _ rfl
                        have ka2 : wr.cell? ⟨g3, o3 + i * 5 + 2, none⟩ = .some (.int .u32 (z.ia : Int)) := r3.out 2 _ rfl
                        have ka3 : wr.cell? ⟨g3, o3 + i * 5 + 3, none⟩ = .some (.int .i64 z.il) := r3.out 3 _ rfl
                        have ka4 : wr.cell? ⟨g3, o3 + i * 5 + 4, none⟩ = .some (.bool z.absent) := r3.out 4 _ rfl
                        have kb0 : wr.cell? ⟨g4, o4 + i * 5, none⟩ = .some (.int .u32 (z.pa : Int)) := r4.out 0 _ rfl
                        have kb1 : wr.cell? ⟨g4, o4 + i * 5 + 1, none⟩ = .some (.int .i64 z.pl) := r4.out 1 _ rfl
                        have kb2 : wr.cell? ⟨g4, o4 + i * 5 + 2, none⟩ = .some (.int .u32 (z.ia : Int)) := r4.out 2 _ rfl
                        have kb3 : wr.cell? ⟨g4, o4 + i * 5 + 3, none⟩ = .some (.int .i64 z.il) := r4.out 3 _ rfl
                        have kb4 : wr.cell? ⟨g4, o4 + i * 5 + 4, none⟩ = .some (.bool z.absent) := r4.out 4 _ rfl
                        go_wp2_with fail
                        go_still (by kernel_rfl)
                        go_wp2_with fail
                        go_roundg (a.cd.length - (i + 1))
                        case measure => omega
                        case rel => exact ⟨i + 1, by omega, by go_num, Lib.hid (H.out.keep (drew_below wr))⟩
                      case neg =>
                        have hiz : ¬ ((i : Int) < (a.cd.length : Int)) := by omega
                        clear hlx
                        have p23 : wr.cell? ⟨p, 6, none⟩ = .some (.slice A23 a.cd.length c23) := H.out.hp.cell 6
                        go_wp2_with fail
                        clear p23 hiz hil hi
                        go_ret
                        exact ⟨rfl, H.out.sm.bel⟩
end Go.Proofs.YtmddfkpkddemnaaGreatDoor
namespace Go.Proofs.YtmddfkpkddemnaaGreatDoor
open Go.RowKit
set_option maxRecDepth 8000 in
set_option maxHeartbeats 8000000 in
theorem same_any (a b : Rt) (w : World) (B : Nat) (hat : a.at w B) (hbt : b.at w B) (hB : B ≤ w.heap.size) (hp : a.plain = b.plain) :
    Calls Tryz.prog 8 #[.agg a.C, .agg b.C] w fun e w' => e = .returned (.bool true) ∧ Below w.heap.size w w' := by
  have hal := hat.lift hB
  have hbl := hbt.lift hB
  have HP := Lib.hid hp
  have H0 := Lib.hid (SM.start a b w)
  have EF0 : Hid (b.name = a.name) := Lib.hid (congrArg Rt.name hp).symm
  have EF1 : Hid (b.asn = a.asn) := Lib.hid (congrArg Rt.asn hp).symm
  have EF2 : Hid (b.ifs = a.ifs) := Lib.hid (congrArg Rt.ifs hp).symm
  have HU2 := Lib.hid hal.hifs
  have HV2 : Hid (SlV w w.heap.size 12 If.C b.ifsV a.ifs) := Lib.hid (by rw [← EF2.out]; exact hbl.hifs)
  obtain ⟨A2, c2, ea2, -⟩ := HU2.out
  obtain ⟨D2, d2, eb2, -⟩ := HV2.out
  have EA2 := Lib.hid ea2
  have EB2 := Lib.hid eb2
  clear ea2 eb2
  have EF6 : Hid (b.nat = a.nat) := Lib.hid (congrArg Rt.nat hp).symm
  have HU6 := Lib.hid hal.hnat
  have HV6 : Hid (SlV w w.heap.size 9 Tr.C b.natV a.nat) := Lib.hid (by rw [← EF6.out]; exact hbl.hnat)
  obtain ⟨A6, c6, ea6, -⟩ := HU6.out
  obtain ⟨D6, d6, eb6, -⟩ := HV6.out
  have EA6 := Lib.hid ea6
  have EB6 := Lib.hid eb6
  clear ea6 eb6
  have EF7 : Hid (b.stat = a.stat) := Lib.hid (congrArg Rt.stat hp).symm
  have HU7 := Lib.hid hal.hstat
  have HV7 : Hid (SlV w w.heap.size 7 Sr.C b.statV a.stat) := Lib.hid (by rw [← EF7.out]; exact hbl.hstat)
  obtain ⟨A7, c7, ea7, -⟩ := HU7.out
  obtain ⟨D7, d7, eb7, -⟩ := HV7.out
  have EA7 := Lib.hid ea7
  have EB7 := Lib.hid eb7
  clear ea7 eb7
  have ca0 : ((w.alloc (.cells a.C 41)).alloc (.cells b.C 41)).cell? ⟨w.heap.size, 0, none⟩ = .some (.string (str a.name)) := H0.out.ha.cell 0
  have cb0 : ((w.alloc (.cells a.C 41)).alloc (.cells b.C 41)).cell? ⟨w.heap.size + 1, 0, none⟩ = .some (.string (str a.name)) := by rw [← EF0.out]; exact H0.out.hb.cell 0
  have ca1 : ((w.alloc (.cells a.C 41)).alloc (.cells b.C 41)).cell? ⟨w.heap.size, 1, none⟩ = .some (.int .i64 a.asn) := H0.out.ha.cell 1
  have cb1 : ((w.alloc (.cells a.C 41)).alloc (.cells b.C 41)).cell? ⟨w.heap.size + 1, 1, none⟩ = .some (.int .i64 a.asn) := by rw [← EF1.out]; exact H0.out.hb.cell 1
  have ca2 : ((w.alloc (.cells a.C 41)).alloc (.cells b.C 41)).cell? ⟨w.heap.size, 2, none⟩ = .some (.slice A2 a.ifs.length c2) := by rw [← EA2.out]; exact H0.out.ha.cell 2
  have cb2 : ((w.alloc (.cells a.C 41)).alloc (.cells b.C 41)).cell? ⟨w.heap.size + 1, 2, none⟩ = .some (.slice D2 a.ifs.length d2) := by rw [← EB2.out]; exact H0.out.hb.cell 2
  have ca6 : ((w.alloc (.cells a.C 41)).alloc (.cells b.C 41)).cell? ⟨w.heap.size, 6, none⟩ = .some (.slice A6 a.nat.length c6) := by rw [← EA6.out]; exact H0.out.ha.cell 6
  have cb6 : ((w.alloc (.cells a.C 41)).alloc (.cells b.C 41)).cell? ⟨w.heap.size + 1, 6, none⟩ = .some (.slice D6 a.nat.length d6) := by rw [← EB6.out]; exact H0.out.hb.cell 6
  have ca7 : ((w.alloc (.cells a.C 41)).alloc (.cells b.C 41)).cell? ⟨w.heap.size, 7, none⟩ = .some (.slice A7 a.stat.length c7) := by rw [← EA7.out]; exact H0.out.ha.cell 7
  have cb7 : ((w.alloc (.cells a.C 41)).alloc (.cells b.C 41)).cell? ⟨w.heap.size + 1, 7, none⟩ = .some (.slice D7 a.stat.length d7) := by rw [← EB7.out]; exact H0.out.hb.cell 7
  have HAL := Lib.hid hal
  have HBL := Lib.hid hbl
  clear hal hbl hat hbt hp
  go_enter Tryz.func8, Tryz.ntmps8
  go_upto_region 3 with (fail)
  clear ca0 cb0 ca1 cb1 ca2 cb2 ca6 cb6 ca7 cb7
  generalize ((w.alloc (.cells a.C 41)).alloc (.cells b.C 41)) = w2 at H0 ⊢
  go_wp2_with fail
  go_loopg [5] a.ifs.length (fun gh ix wr => ∃ i : Nat, i + gh = a.ifs.length ∧ ix = .int .i64 i ∧ Hid (SM a b w.heap.size (w.heap.size + 1) w wr))
  case atStart => exact ⟨0, by omega, rfl, H0⟩
  case round =>
    clear H0
    obtain ⟨i, hi, rfl, H⟩ := hrel
    have hlx : a.ifs.length ≤ 9223372036854775807 := by have := HU2.out.len; simp only [maxLen] at this; exact this
    by_cases hil : i < a.ifs.length
    case pos =>
      obtain ⟨g3, o3, x3, e3, -, hg3, R3⟩ := HU2.out.elem (n := 12) (by decide) (fun _ => rfl) hil
      obtain ⟨g4, o4, x4, e4, -, hg4, R4⟩ := HV2.out.elem (n := 12) (by decide) (fun _ => rfl) hil
      rw [EA2.out] at e3
      rw [EB2.out] at e4
      injection e3 with f1 f2 f3
      injection e4 with f4 f5 f6
      subst f1 f3 f4 f6
      have r3 := Lib.hid (rangeBelow R3 H.out.bel hg3)
      have r4 := Lib.hid (rangeBelow R4 H.out.bel hg4)
      have hiz : (i : Int) < (a.ifs.length : Int) := by omega
      have ca2 : wr.cell? ⟨w.heap.size, 2, none⟩ = .some (.slice (some ⟨g3, o3, none⟩) a.ifs.length c2) := by rw [← EA2.out]; exact H.out.ha.cell 2
      have cb2 : wr.cell? ⟨w.heap.size + 1, 2, none⟩ = .some (.slice (some ⟨g4, o4, none⟩) a.ifs.length d2) := by rw [← EB2.out]; exact H.out.hb.cell 2
      generalize a.ifs[i] = z at r3 r4
      clear R3 R4 f2 f5
      have ka0 : wr.cell? ⟨g3, o3 + i * 12, none⟩ = .some (.string (str z.name)) := r3.out 0 _ rfl
      have ka1 : wr.cell? ⟨g3, o3 + i * 12 + 1, none⟩ = .some (.int .u32 (z.addr : Int)) := r3.out 1 _ rfl
      have ka2 : wr.cell? ⟨g3, o3 + i * 12 + 2, none⟩ = .some (.int .i64 z.len) := r3.out 2 _ rfl
      have ka3 : wr.cell? ⟨g3, o3 + i * 12 + 3, none⟩ = .some (.int .i64 z.vlan) := r3.out 3 _ rfl
      have ka4 : wr.cell? ⟨g3, o3 + i * 12 + 4, none⟩ = .some (.bool z.down) := r3.out 4 _ rfl
      have ka5 : wr.cell? ⟨g3, o3 + i * 12 + 5, none⟩ = .some (.bool z.ls) := r3.out 5 _ rfl
      have ka6 : wr.cell? ⟨g3, o3 + i * 12 + 6, none⟩ = .some (.int .i64 z.area) := r3.out 6 _ rfl
      have ka7 : wr.cell? ⟨g3, o3 + i * 12 + 7, none⟩ = .some (.int .i64 z.cost) := r3.out 7 _ rfl
      have ka8 : wr.cell? ⟨g3, o3 + i * 12 + 8, none⟩ = .some (.bool z.dv) := r3.out 8 _ rfl
      have ka9 : wr.cell? ⟨g3, o3 + i * 12 + 9, none⟩ = .some (.string (str z.inn)) := r3.out 9 _ rfl
      have ka10 : wr.cell? ⟨g3, o3 + i * 12 + 10, none⟩ = .some (.string (str z.out)) := r3.out 10 _ rfl
      have ka11 : wr.cell? ⟨g3, o3 + i * 12 + 11, none⟩ = .some (.int .i64 z.side) := r3.out 11 _ rfl
      have kb0 : wr.cell? ⟨g4, o4 + i * 12, none⟩ = .some (.string (str z.name)) := r4.out 0 _ rfl
      have kb1 : wr.cell? ⟨g4, o4 + i * 12 + 1, none⟩ = .some (.int .u32 (z.addr : Int)) := r4.out 1 _ rfl
      have kb2 : wr.cell? ⟨g4, o4 + i * 12 + 2, none⟩ = .some (.int .i64 z.len) := r4.out 2 _ rfl
      have kb3 : wr.cell? ⟨g4, o4 + i * 12 + 3, none⟩ = .some (.int .i64 z.vlan) := r4.out 3 _ rfl
      have kb4 : wr.cell? ⟨g4, o4 + i * 12 + 4, none⟩ = .some (.bool z.down) := r4.out 4 _ rfl
      have kb5 : wr.cell? ⟨g4, o4 + i * 12 + 5, none⟩ = .some (.bool z.ls) := r4.out 5 _ rfl
      have kb6 : wr.cell? ⟨g4, o4 + i * 12 + 6, none⟩ = .some (.int .i64 z.area) := r4.out 6 _ rfl
      have kb7 : wr.cell? ⟨g4, o4 + i * 12 + 7, none⟩ = .some (.int .i64 z.cost) := r4.out 7 _ rfl
      have kb8 : wr.cell? ⟨g4, o4 + i * 12 + 8, none⟩ = .some (.bool z.dv) := r4.out 8 _ rfl
      have kb9 : wr.cell? ⟨g4, o4 + i * 12 + 9, none⟩ = .some (.string (str z.inn)) := r4.out 9 _ rfl
      have kb10 : wr.cell? ⟨g4, o4 + i * 12 + 10, none⟩ = .some (.string (str z.out)) := r4.out 10 _ rfl
      have kb11 : wr.cell? ⟨g4, o4 + i * 12 + 11, none⟩ = .some (.int .i64 z.side) := r4.out 11 _ rfl
      go_wp2_with fail
      go_still (by kernel_rfl)
      go_wp2_with fail
      go_roundg (a.ifs.length - (i + 1))
      case measure => omega
      case rel => exact ⟨i + 1, by omega, by go_num, Lib.hid (H.out.keep (drew_below wr))⟩
    case neg =>
      have hiz : ¬ ((i : Int) < (a.ifs.length : Int)) := by omega
      clear hlx
      have ca2 : wr.cell? ⟨w.heap.size, 2, none⟩ = .some (.slice A2 a.ifs.length c2) := by rw [← EA2.out]; exact H.out.ha.cell 2
      go_wp2_with fail
      clear ca2 hiz hil hi
      generalize wr = wv2 at H ⊢
      go_loopg [6] a.nat.length (fun gh ix wr => ∃ i : Nat, i + gh = a.nat.length ∧ ix = .int .i64 i ∧ Hid (SM a b w.heap.size (w.heap.size + 1) w wr))
      case atStart => exact ⟨0, by omega, rfl, H⟩
      case round =>
        clear H
        obtain ⟨i, hi, rfl, H⟩ := hrel
        have hlx : a.nat.length ≤ 9223372036854775807 := by have := HU6.out.len; simp only [maxLen] at this; exact this
        by_cases hil : i < a.nat.length
        case pos =>
          obtain ⟨g3, o3, x3, e3, -, hg3, R3⟩ := HU6.out.elem (n := 9) (by decide) (fun _ => rfl) hil
          obtain ⟨g4, o4, x4, e4, -, hg4, R4⟩ := HV6.out.elem (n := 9) (by decide) (fun _ => rfl) hil
          rw [EA6.out] at e3
          rw [EB6.out] at e4
          injection e3 with f1 f2 f3
          injection e4 with f4 f5 f6
          subst f1 f3 f4 f6
          have r3 := Lib.hid (rangeBelow R3 H.out.bel hg3)
          have r4 := Lib.hid (rangeBelow R4 H.out.bel hg4)
          have hiz : (i : Int) < (a.nat.length : Int) := by omega
          have ca6 : wr.cell? ⟨w.heap.size, 6, none⟩ = .some (.slice (some ⟨g3, o3, none⟩) a.nat.length c6) := by rw [← EA6.out]; exact H.out.ha.cell 6
          have cb6 : wr.cell? ⟨w.heap.size + 1, 6, none⟩ = .some (.slice (some ⟨g4, o4, none⟩) a.nat.length d6) := by rw [← EB6.out]; exact H.out.hb.cell 6
          generalize a.nat[i] = z at r3 r4
          clear R3 R4 f2 f5
          have ka0 : wr.cell? ⟨g3, o3 + i * 9, none⟩ = .some (.int .i64 z.kind) := r3.out 0 _ rfl
          have ka1 : wr.cell? ⟨g3, o3 + i * 9 + 1, none⟩ = .some (.int .u32 (z.ins : Int)) := r3.out 1 _ rfl
          have ka2 : wr.cell? ⟨g3, o3 + i * 9 + 2, none⟩ = .some (.int .u32 (z.outs : Int)) := r3.out 2 _ rfl
          have ka3 : wr.cell? ⟨g3, o3 + i * 9 + 3, none⟩ = .some (.int .i64 z.proto) := r3.out 3 _ rfl
          have ka4 : wr.cell? ⟨g3, o3 + i * 9 + 4, none⟩ = .some (.int .i64 z.iport) := r3.out 4 _ rfl
          have ka5 : wr.cell? ⟨g3, o3 + i * 9 + 5, none⟩ = .some (.int .i64 z.oport) := r3.out 5 _ rfl
          have ka6 : wr.cell? ⟨g3, o3 + i * 9 + 6, none⟩ = .some (.string (str z.list)) := r3.out 6 _ rfl
          have ka7 : wr.cell? ⟨g3, o3 + i * 9 + 7, none⟩ = .some (.int .u32 (z.lo : Int)) := r3.out 7 _ rfl
          have ka8 : wr.cell? ⟨g3, o3 + i * 9 + 8, none⟩ = .some (.int .u32 (z.hi : Int)) := r3.out 8 _ rfl
          have kb0 : wr.cell? ⟨g4, o4 + i * 9, none⟩ = .some (.int .i64 z.kind) := r4.out 0 _ rfl
          have kb1 : wr.cell? ⟨g4, o4 + i * 9 + 1, none⟩ = .some (.int .u32 (z.ins : Int)) := r4.out 1 _ rfl
          have kb2 : wr.cell? ⟨g4, o4 + i * 9 + 2, none⟩ = .some (.int .u32 (z.outs : Int)) := r4.out 2 _ rfl
          have kb3 : wr.cell? ⟨g4, o4 + i * 9 + 3, none⟩ = .some (.int .i64 z.proto) := r4.out 3 _ rfl
          have kb4 : wr.cell? ⟨g4, o4 + i * 9 + 4, none⟩ = .some (.int .i64 z.iport) := r4.out 4 _ rfl
          have kb5 : wr.cell? ⟨g4, o4 + i * 9 + 5, none⟩ = .some (.int .i64 z.oport) := r4.out 5 _ rfl
          have kb6 : wr.cell? ⟨g4, o4 + i * 9 + 6, none⟩ = .some (.string (str z.list)) := r4.out 6 _ rfl
          have kb7 : wr.cell? ⟨g4, o4 + i * 9 + 7, none⟩ = .some (.int .u32 (z.lo : Int)) := r4.out 7 _ rfl
          have kb8 : wr.cell? ⟨g4, o4 + i * 9 + 8, none⟩ = .some (.int .u32 (z.hi : Int)) := r4.out 8 _ rfl
          go_wp2_with fail
          go_still (by kernel_rfl)
          go_wp2_with fail
          go_roundg (a.nat.length - (i + 1))
          case measure => omega
          case rel => exact ⟨i + 1, by omega, by go_num, Lib.hid (H.out.keep (drew_below wr))⟩
        case neg =>
          have hiz : ¬ ((i : Int) < (a.nat.length : Int)) := by omega
          clear hlx
          have ca6 : wr.cell? ⟨w.heap.size, 6, none⟩ = .some (.slice A6 a.nat.length c6) := by rw [← EA6.out]; exact H.out.ha.cell 6
          go_wp2_with fail
          clear ca6 hiz hil hi
          generalize wr = wv6 at H ⊢
          go_loopg [7] a.stat.length (fun gh ix wr => ∃ i : Nat, i + gh = a.stat.length ∧ ix = .int .i64 i ∧ Hid (SM a b w.heap.size (w.heap.size + 1) w wr))
          case atStart => exact ⟨0, by omega, rfl, H⟩
          case round =>
            clear H
            obtain ⟨i, hi, rfl, H⟩ := hrel
            have hlx : a.stat.length ≤ 9223372036854775807 := by have := HU7.out.len; simp only [maxLen] at this; exact this
            by_cases hil : i < a.stat.length
            case pos =>
              obtain ⟨g3, o3, x3, e3, -, hg3, R3⟩ := HU7.out.elem (n := 7) (by decide) (fun _ => rfl) hil
              obtain ⟨g4, o4, x4, e4, -, hg4, R4⟩ := HV7.out.elem (n := 7) (by decide) (fun _ => rfl) hil
              rw [EA7.out] at e3
              rw [EB7.out] at e4
              injection e3 with f1 f2 f3
              injection e4 with f4 f5 f6
              subst f1 f3 f4 f6
              have r3 := Lib.hid (rangeBelow R3 H.out.bel hg3)
              have r4 := Lib.hid (rangeBelow R4 H.out.bel hg4)
              have hiz : (i : Int) < (a.stat.length : Int) := by omega
              have ca7 : wr.cell? ⟨w.heap.size, 7, none⟩ = .some (.slice (some ⟨g3, o3, none⟩) a.stat.length c7) := by rw [← EA7.out]; exact H.out.ha.cell 7
              have cb7 : wr.cell? ⟨w.heap.size + 1, 7, none⟩ = .some (.slice (some ⟨g4, o4, none⟩) a.stat.length d7) := by rw [← EB7.out]; exact H.out.hb.cell 7
              generalize a.stat[i] = z at r3 r4
              clear R3 R4 f2 f5
              have ka0 : wr.cell? ⟨g3, o3 + i * 7, none⟩ = .some (.int .u32 (z.pa : Int)) := r3.out 0 _ rfl
              have ka1 : wr.cell? ⟨g3, o3 + i * 7 + 1, none⟩ = .some (.int .i64 z.pl) := r3.out 1 _ rfl
              have ka2 : wr.cell? ⟨g3, o3 + i * 7 + 2, none⟩ = .some (.int .u32 (z.next : Int)) := r3.out 2 _ rfl
              have ka3 : wr.cell? ⟨g3, o3 + i * 7 + 3, none⟩ = .some (.string (str z.iface)) := r3.out 3 _ rfl
              have ka4 : wr.cell? ⟨g3, o3 + i * 7 + 4, none⟩ = .some (.bool z.discard) := r3.out 4 _ rfl
              have ka5 : wr.cell? ⟨g3, o3 + i * 7 + 5, none⟩ = .some (.int .i64 z.admin) := r3.out 5 _ rfl
              have ka6 : wr.cell? ⟨g3, o3 + i * 7 + 6, none⟩ = .some (.int .i64 z.tag) := r3.out 6 _ rfl
              have kb0 : wr.cell? ⟨g4, o4 + i * 7, none⟩ = .some (.int .u32 (z.pa : Int)) := r4.out 0 _ rfl
              have kb1 : wr.cell? ⟨g4, o4 + i * 7 + 1, none⟩ = .some (.int .i64 z.pl) := r4.out 1 _ rfl
              have kb2 : wr.cell? ⟨g4, o4 + i * 7 + 2, none⟩ = .some (.int .u32 (z.next : Int)) := r4.out 2 _ rfl
              have kb3 : wr.cell? ⟨g4, o4 + i * 7 + 3, none⟩ = .some (.string (str z.iface)) := r4.out 3 _ rfl
              have kb4 : wr.cell? ⟨g4, o4 + i * 7 + 4, none⟩ = .some (.bool z.discard) := r4.out 4 _ rfl
              have kb5 : wr.cell? ⟨g4, o4 + i * 7 + 5, none⟩ = .some (.int .i64 z.admin) := r4.out 5 _ rfl
              have kb6 : wr.cell? ⟨g4, o4 + i * 7 + 6, none⟩ = .some (.int .i64 z.tag) := r4.out 6 _ rfl
              go_wp2_with fail
              go_still (by kernel_rfl)
              go_wp2_with fail
              go_roundg (a.stat.length - (i + 1))
              case measure => omega
              case rel => exact ⟨i + 1, by omega, by go_num, Lib.hid (H.out.keep (drew_below wr))⟩
            case neg =>
              have hiz : ¬ ((i : Int) < (a.stat.length : Int)) := by omega
              clear hlx
              have ca7 : wr.cell? ⟨w.heap.size, 7, none⟩ = .some (.slice A7 a.stat.length c7) := by rw [← EA7.out]; exact H.out.ha.cell 7
              go_upto_region 18 with (fail)
              clear ca7 hiz hil hi
              go_wp2_with (first | (refine wpList_loadRow rfl 41 _ rfl rfl H.out.ha.range Tryz.rowRt Tryz.sizeRt ?_) | (refine wpList_loadRow rfl 41 _ rfl rfl H.out.hb.range Tryz.rowRt Tryz.sizeRt ?_))
              refine (sameLists_any a b wr w.heap.size (HAL.out.below H.out.bel) (HBL.out.below H.out.bel) H.out.bel.size HP.out).mono ?_
              rintro e w5 ⟨rfl, hb5⟩
              have H5 := Lib.hid (H.out.keep hb5)
              clear hb5 H
              go_wp2_with (first | (refine wpList_unguard (by rfl) (wpList_loadRow rfl 41 _ rfl rfl H5.out.ha.range Tryz.rowRt Tryz.sizeRt ?_)) | (refine wpList_unguard (by rfl) (wpList_loadRow rfl 41 _ rfl rfl H5.out.hb.range Tryz.rowRt Tryz.sizeRt ?_)))
              refine (sameProtocols_any a b w5 w.heap.size (HAL.out.below H5.out.bel) (HBL.out.below H5.out.bel) H5.out.bel.size HP.out).mono ?_
              rintro e w6 ⟨rfl, hb6⟩
              have H6 := Lib.hid (H5.out.keep hb6)
              clear hb6 H5
              go_wp2_with fail
              go_ret
              exact ⟨rfl, H6.out.bel⟩
end Go.Proofs.YtmddfkpkddemnaaGreatDoor
