/- netverifyref8.Same of two routers with nothing in them. No condition. -/
import Derived.Test.YtmddfkpkddemnaaGreatDoorVy
import Derived.StillTailTactics
import Derived.Deep.DeepCutAuto
import Derived.Deep.CutBlock
namespace Go.Proofs.YtmddfkpkddemnaaGreatDoor
open Go.RowKit
theorem drew_below (w : World) : Below w.heap.size w w.drew := ⟨rfl, rfl, rfl, Nat.le_refl _, fun _ _ => rfl⟩
theorem SlV.lift {α : Type} {w : World} {B B' n : Nat} {cells : α → Array Value} {v : Value} {xs : List α} (h : SlV w B n cells v xs) (hB : B ≤ B') : SlV w B' n cells v xs := by
  obtain ⟨A, c, e, h1, h2⟩ := h
  exact ⟨A, c, e, h1, h2.mono hB⟩
theorem Rt.at.lift {w : World} {B B' : Nat} {r : Rt} (h : r.at w B) (hB : B ≤ B') : r.at w B' := ⟨h.hifs.lift hB, h.hlists.lift hB, fun x hx => SlV.lift (h.nlists x hx) hB, h.hmaps.lift hB, fun x hx => SlV.lift (h.nmaps x hx) hB, h.hacls.lift hB, fun x hx => SlV.lift (h.nacls x hx) hB, h.hnat.lift hB, h.hstat.lift hB, h.hranges.lift hB, h.hlsRed.lift hB, h.hdvRed.lift hB, h.hnb.lift hB, h.hnet.lift hB, h.hag.lift hB, h.hcd.lift hB, h.hpvRed.lift hB⟩
end Go.Proofs.YtmddfkpkddemnaaGreatDoor
namespace Go.Proofs.YtmddfkpkddemnaaGreatDoor
open Go.RowKit
abbrev ZC (g : Nat) (w : World) : Prop := w.cell? ⟨g, 0, none⟩ = .some (.string (str [])) ∧ w.cell? ⟨g, 1, none⟩ = .some (.int .i64 0) ∧ w.cell? ⟨g, 2, none⟩ = .some (.slice none 0 0) ∧ w.cell? ⟨g, 3, none⟩ = .some (.slice none 0 0) ∧ w.cell? ⟨g, 4, none⟩ = .some (.slice none 0 0) ∧ w.cell? ⟨g, 5, none⟩ = .some (.slice none 0 0) ∧ w.cell? ⟨g, 6, none⟩ = .some (.slice none 0 0) ∧ w.cell? ⟨g, 7, none⟩ = .some (.slice none 0 0) ∧ w.cell? ⟨g, 8, none⟩ = .some (.bool false) ∧ w.cell? ⟨g, 9, none⟩ = .some (.int .i64 0) ∧ w.cell? ⟨g, 10, none⟩ = .some (.slice none 0 0) ∧ w.cell? ⟨g, 11, none⟩ = .some (.slice none 0 0) ∧ w.cell? ⟨g, 12, none⟩ = .some (.bool false) ∧ w.cell? ⟨g, 13, none⟩ = .some (.int .i64 0) ∧ w.cell? ⟨g, 14, none⟩ = .some (.string (str [])) ∧ w.cell? ⟨g, 15, none⟩ = .some (.string (str [])) ∧ w.cell? ⟨g, 16, none⟩ = .some (.slice none 0 0) ∧ w.cell? ⟨g, 17, none⟩ = .some (.bool false) ∧ w.cell? ⟨g, 18, none⟩ = .some (.int .i64 0) ∧ w.cell? ⟨g, 19, none⟩ = .some (.int .i64 0) ∧ w.cell? ⟨g, 20, none⟩ = .some (.slice none 0 0) ∧ w.cell? ⟨g, 21, none⟩ = .some (.slice none 0 0) ∧ w.cell? ⟨g, 22, none⟩ = .some (.slice none 0 0) ∧ w.cell? ⟨g, 23, none⟩ = .some (.slice none 0 0) ∧ w.cell? ⟨g, 24, none⟩ = .some (.slice none 0 0)
theorem zcells {g : Nat} {w : World} (h : HasC 41 g rtE w) : ZC g w := ⟨h.cell 0, h.cell 1, h.cell 2, h.cell 3, h.cell 4, h.cell 5, h.cell 6, h.cell 7, h.cell 8, h.cell 9, h.cell 10, h.cell 11, h.cell 12, h.cell 13, h.cell 14, h.cell 15, h.cell 16, h.cell 17, h.cell 18, h.cell 19, h.cell 20, h.cell 21, h.cell 22, h.cell 23, h.cell 24⟩
structure ZZ (g h : Nat) (w0 w : World) : Prop where
  ha : HasC 41 g rtE w
  hb : HasC 41 h rtE w
  bel : Below w0.heap.size w0 w
theorem ZZ.keep {g h : Nat} {w0 w w' : World} (q : ZZ g h w0 w) (hb : Below w.heap.size w w') : ZZ g h w0 w' := ⟨q.ha.keep hb, q.hb.keep hb, q.bel.trans (hb.mono q.bel.size)⟩
theorem ZZ.start (w : World) : ZZ w.heap.size (w.heap.size + 1) w ((w.alloc (.cells rtN.C 41)).alloc (.cells rtN.C 41)) := by
  have h1 := HasC.new w 41 rtE
  have h2 := HasC.new (w.alloc (.cells rtE 41)) 41 rtE
  rw [show (w.alloc (.cells rtE 41)).heap.size = w.heap.size + 1 from by simp] at h2
  exact ⟨h1.keep ((Below.refl _ _).alloc (Nat.le_refl _) _), h2, ((Below.refl _ w).alloc (Nat.le_refl _) _).alloc (by simp) _⟩
theorem ZZ.cells {g h : Nat} {w0 w : World} (q : ZZ g h w0 w) : ZC g w ∧ ZC h w := ⟨zcells q.ha, zcells q.hb⟩
theorem two_newZ (w : World) (T : TypeId) (xs ys : Array Value) :
    HasC T w.heap.size xs ((w.alloc (.cells xs T)).alloc (.cells ys T)).drew ∧ HasC T (w.heap.size + 1) ys ((w.alloc (.cells xs T)).alloc (.cells ys T)).drew ∧ Below w.heap.size w ((w.alloc (.cells xs T)).alloc (.cells ys T)).drew := by
  have h1 := (HasC.new w T xs).keep ((Below.refl _ (w.alloc (.cells xs T))).alloc (Nat.le_refl _) (.cells ys T))
  have h2 := HasC.new (w.alloc (.cells xs T)) T ys
  rw [show (w.alloc (.cells xs T)).heap.size = w.heap.size + 1 from by simp] at h2
  have hB : Below w.heap.size w ((w.alloc (.cells xs T)).alloc (.cells ys T)) := ((Below.refl _ w).alloc (Nat.le_refl _) _).alloc (by simp) _
  exact ⟨h1, h2, hB.trans ((drew_below _).mono hB.size)⟩
set_option maxRecDepth 8000 in
set_option maxHeartbeats 8000000 in
theorem zsameRedist (w : World) : Calls Tryz.prog 56 #[.slice none 0 0, .slice none 0 0] w fun e w' => e = .returned (.bool true) ∧ Below w.heap.size w w' := by
  go_enter Tryz.func56, Tryz.ntmps56
  go_wp2_with fail
  go_loopg [5] 0 (fun _ ix wr => ix = .int .i64 0 ∧ wr = w)
  case atStart => exact ⟨rfl, rfl⟩
  case round =>
    obtain ⟨rfl, rfl⟩ := hrel
    go_wp2_with fail
    go_ret
    exact ⟨rfl, Below.refl _ _⟩
set_option maxRecDepth 8000 in
set_option maxHeartbeats 8000000 in
theorem zsameLists (w : World) : Calls Tryz.prog 16 #[.agg rtN.C, .agg rtN.C] w fun e w' => e = .returned (.bool true) ∧ Below w.heap.size w w' := by
  have HZ := Lib.hid (ZZ.start w)
  obtain ⟨ca, cb⟩ := HZ.out.cells
  have tn := toList_str ([] : List UInt8)
  go_enter Tryz.func16, Tryz.ntmps16
  go_wp2_with fail
  go_loopg [5] 0 (fun _ ix wr => ix = .int .i64 0 ∧ Hid (ZZ w.heap.size (w.heap.size + 1) w wr))
  case atStart => exact ⟨rfl, HZ⟩
  case round =>
    clear HZ ca cb
    obtain ⟨rfl, HZ⟩ := hrel
    obtain ⟨ca, cb⟩ := HZ.out.cells
    go_wp2_with fail
    go_loopg [9] 0 (fun _ ix wr => ix = .int .i64 0 ∧ Hid (ZZ w.heap.size (w.heap.size + 1) w wr))
    case atStart => exact ⟨rfl, HZ⟩
    case round =>
      clear HZ ca cb
      obtain ⟨rfl, HZ⟩ := hrel
      obtain ⟨ca, cb⟩ := HZ.out.cells
      go_wp2_with fail
      go_loopg [13] 0 (fun _ ix wr => ix = .int .i64 0 ∧ Hid (ZZ w.heap.size (w.heap.size + 1) w wr))
      case atStart => exact ⟨rfl, HZ⟩
      case round =>
        clear HZ ca cb
        obtain ⟨rfl, HZ⟩ := hrel
        obtain ⟨ca, cb⟩ := HZ.out.cells
        go_wp2_with fail
        go_ret
        exact ⟨rfl, HZ.out.bel⟩
set_option maxRecDepth 8000 in
set_option maxHeartbeats 8000000 in
theorem zsameProtocols (w : World) : Calls Tryz.prog 17 #[.agg rtN.C, .agg rtN.C] w fun e w' => e = .returned (.bool true) ∧ Below w.heap.size w w' := by
  have HZ := Lib.hid (ZZ.start w)
  obtain ⟨ca, cb⟩ := HZ.out.cells
  have HRD := Lib.hid zsameRedist
  have tn := toList_str ([] : List UInt8)
  go_enter Tryz.func17, Tryz.ntmps17
  go_wp2_with fail
  refine (HRD.out _).mono ?_
  rintro e w3 ⟨rfl, hb⟩
  replace HZ := Lib.hid (HZ.out.keep hb)
  clear hb ca cb
  obtain ⟨ca, cb⟩ := HZ.out.cells
  go_wp2_with fail
  go_loopg [5] 0 (fun _ ix wr => ix = .int .i64 0 ∧ Hid (ZZ w.heap.size (w.heap.size + 1) w wr))
  case atStart => exact ⟨rfl, HZ⟩
  case round =>
    clear HZ ca cb
    obtain ⟨rfl, HZ⟩ := hrel
    obtain ⟨ca, cb⟩ := HZ.out.cells
    go_wp2_with fail
    refine (HRD.out _).mono ?_
    rintro e w4 ⟨rfl, hb⟩
    replace HZ := Lib.hid (HZ.out.keep hb)
    clear hb ca cb
    obtain ⟨ca, cb⟩ := HZ.out.cells
    go_upto_region 10 with (fail)
    go_cut [6, 7] (fun x0 y0 wx => ∃ p q : Nat, x0 = .pointer (some ⟨p, 0, none⟩) ∧ y0 = .pointer (some ⟨q, 0, none⟩) ∧ ZZ w.heap.size (w.heap.size + 1) w wx ∧ HasC 39 p #[.bool false, .int .i64 0, .int .i64 0, .slice none 0 0, .slice none 0 0, .slice none 0 0, .slice none 0 0, .slice none 0 0] wx ∧ HasC 39 q #[.bool false, .int .i64 0, .int .i64 0, .slice none 0 0, .slice none 0 0, .slice none 0 0, .slice none 0 0, .slice none 0 0] wx)
    case first =>
      have lb3 : w.heap.size < w4.heap.size := blk_lt HZ.out.ha
      have lb4 : w.heap.size + 1 < w4.heap.size := blk_lt HZ.out.hb
      obtain ⟨da, db⟩ := (HZ.out.keep (drew_below w4)).cells
      have da17 := da.2.2.2.2.2.2.2.2.2.2.2.2.2.2.2.2.2.1
      have da18 := da.2.2.2.2.2.2.2.2.2.2.2.2.2.2.2.2.2.2.1
      have da19 := da.2.2.2.2.2.2.2.2.2.2.2.2.2.2.2.2.2.2.2.1
      have da20 := da.2.2.2.2.2.2.2.2.2.2.2.2.2.2.2.2.2.2.2.2.1
      have da21 := da.2.2.2.2.2.2.2.2.2.2.2.2.2.2.2.2.2.2.2.2.2.1
      have da22 := da.2.2.2.2.2.2.2.2.2.2.2.2.2.2.2.2.2.2.2.2.2.2.1
      have da23 := da.2.2.2.2.2.2.2.2.2.2.2.2.2.2.2.2.2.2.2.2.2.2.2.1
      have da24 := da.2.2.2.2.2.2.2.2.2.2.2.2.2.2.2.2.2.2.2.2.2.2.2.2
      have db17 := db.2.2.2.2.2.2.2.2.2.2.2.2.2.2.2.2.2.1
      have db18 := db.2.2.2.2.2.2.2.2.2.2.2.2.2.2.2.2.2.2.1
      have db19 := db.2.2.2.2.2.2.2.2.2.2.2.2.2.2.2.2.2.2.2.1
      have db20 := db.2.2.2.2.2.2.2.2.2.2.2.2.2.2.2.2.2.2.2.2.1
      have db21 := db.2.2.2.2.2.2.2.2.2.2.2.2.2.2.2.2.2.2.2.2.2.1
      have db22 := db.2.2.2.2.2.2.2.2.2.2.2.2.2.2.2.2.2.2.2.2.2.2.1
      have db23 := db.2.2.2.2.2.2.2.2.2.2.2.2.2.2.2.2.2.2.2.2.2.2.2.1
      have db24 := db.2.2.2.2.2.2.2.2.2.2.2.2.2.2.2.2.2.2.2.2.2.2.2.2
      clear da db
      go_region_held3 (fun w' => w'.cell? ⟨w.heap.size, 17, none⟩ = .some (.bool false) ∧ w'.cell? ⟨w.heap.size, 18, none⟩ = .some (.int .i64 0) ∧ w'.cell? ⟨w.heap.size, 19, none⟩ = .some (.int .i64 0) ∧ w'.cell? ⟨w.heap.size, 20, none⟩ = .some (.slice none 0 0) ∧ w'.cell? ⟨w.heap.size, 21, none⟩ = .some (.slice none 0 0) ∧ w'.cell? ⟨w.heap.size, 22, none⟩ = .some (.slice none 0 0) ∧ w'.cell? ⟨w.heap.size, 23, none⟩ = .some (.slice none 0 0) ∧ w'.cell? ⟨w.heap.size, 24, none⟩ = .some (.slice none 0 0) ∧ w'.cell? ⟨w.heap.size + 1, 17, none⟩ = .some (.bool false) ∧ w'.cell? ⟨w.heap.size + 1, 18, none⟩ = .some (.int .i64 0) ∧ w'.cell? ⟨w.heap.size + 1, 19, none⟩ = .some (.int .i64 0) ∧ w'.cell? ⟨w.heap.size + 1, 20, none⟩ = .some (.slice none 0 0) ∧ w'.cell? ⟨w.heap.size + 1, 21, none⟩ = .some (.slice none 0 0) ∧ w'.cell? ⟨w.heap.size + 1, 22, none⟩ = .some (.slice none 0 0) ∧ w'.cell? ⟨w.heap.size + 1, 23, none⟩ = .some (.slice none 0 0) ∧ w'.cell? ⟨w.heap.size + 1, 24, none⟩ = .some (.slice none 0 0)) (first | (with_reducible exact ⟨da17, da18, da19, da20, da21, da22, da23, da24, db17, db18, db19, db20, db21, db22, db23, db24⟩) | go_keep) (fail)
      all_goals
        go_wp2_with fail
        go_meet
        have tw := two_newZ w4 39 #[.bool false, .int .i64 0, .int .i64 0, .slice none 0 0, .slice none 0 0, .slice none 0 0, .slice none 0 0, .slice none 0 0] #[.bool false, .int .i64 0, .int .i64 0, .slice none 0 0, .slice none 0 0, .slice none 0 0, .slice none 0 0, .slice none 0 0]
        first | exact ⟨w4.heap.size, w4.heap.size + 1, rfl, rfl, HZ.out.keep tw.2.2, tw.1, tw.2.1⟩ | exact ⟨w4.heap.size + 1, w4.heap.size, rfl, rfl, HZ.out.keep tw.2.2, tw.2.1, tw.1⟩
    case rest =>
    obtain ⟨p, q, rfl, rfl, hx, hp, hq⟩ := hcut
    have HX := Lib.hid hx
    have HP := Lib.hid hp
    have HQ := Lib.hid hq
    clear hx hp hq HZ ca cb
    have cp0 : wc.cell? ⟨p, 0, none⟩ = .some (.bool false) := HP.out.cell 0
    have cp1 : wc.cell? ⟨p, 1, none⟩ = .some (.int .i64 0) := HP.out.cell 1
    have cp2 : wc.cell? ⟨p, 2, none⟩ = .some (.int .i64 0) := HP.out.cell 2
    have cp3 : wc.cell? ⟨p, 3, none⟩ = .some (.slice none 0 0) := HP.out.cell 3
    have cp4 : wc.cell? ⟨p, 4, none⟩ = .some (.slice none 0 0) := HP.out.cell 4
    have cp5 : wc.cell? ⟨p, 5, none⟩ = .some (.slice none 0 0) := HP.out.cell 5
    have cp6 : wc.cell? ⟨p, 6, none⟩ = .some (.slice none 0 0) := HP.out.cell 6
    have cp7 : wc.cell? ⟨p, 7, none⟩ = .some (.slice none 0 0) := HP.out.cell 7
    have cq0 : wc.cell? ⟨q, 0, none⟩ = .some (.bool false) := HQ.out.cell 0
    have cq1 : wc.cell? ⟨q, 1, none⟩ = .some (.int .i64 0) := HQ.out.cell 1
    have cq2 : wc.cell? ⟨q, 2, none⟩ = .some (.int .i64 0) := HQ.out.cell 2
    have cq3 : wc.cell? ⟨q, 3, none⟩ = .some (.slice none 0 0) := HQ.out.cell 3
    have cq4 : wc.cell? ⟨q, 4, none⟩ = .some (.slice none 0 0) := HQ.out.cell 4
    have cq5 : wc.cell? ⟨q, 5, none⟩ = .some (.slice none 0 0) := HQ.out.cell 5
    have cq6 : wc.cell? ⟨q, 6, none⟩ = .some (.slice none 0 0) := HQ.out.cell 6
    have cq7 : wc.cell? ⟨q, 7, none⟩ = .some (.slice none 0 0) := HQ.out.cell 7
    go_wp2_with fail
    refine (HRD.out _).mono ?_
    rintro e w5 ⟨rfl, hb⟩
    have HZ : Hid (ZZ w.heap.size (w.heap.size + 1) w w5 ∧ HasC 39 p #[.bool false, .int .i64 0, .int .i64 0, .slice none 0 0, .slice none 0 0, .slice none 0 0, .slice none 0 0, .slice none 0 0] w5 ∧ HasC 39 q #[.bool false, .int .i64 0, .int .i64 0, .slice none 0 0, .slice none 0 0, .slice none 0 0, .slice none 0 0, .slice none 0 0] w5) := Lib.hid ⟨HX.out.keep hb, HP.out.keep hb, HQ.out.keep hb⟩
    clear hb HX HP HQ cp0 cp1 cp2 cp3 cp4 cp5 cp6 cp7 cq0 cq1 cq2 cq3 cq4 cq5 cq6 cq7
    go_wp2_with fail
    go_loopg [8] 0 (fun _ ix wr => ix = .int .i64 0 ∧ Hid (ZZ w.heap.size (w.heap.size + 1) w wr ∧ HasC 39 p #[.bool false, .int .i64 0, .int .i64 0, .slice none 0 0, .slice none 0 0, .slice none 0 0, .slice none 0 0, .slice none 0 0] wr ∧ HasC 39 q #[.bool false, .int .i64 0, .int .i64 0, .slice none 0 0, .slice none 0 0, .slice none 0 0, .slice none 0 0, .slice none 0 0] wr))
    case atStart => exact ⟨rfl, HZ⟩
    case round =>
      clear HZ
      obtain ⟨rfl, HZ⟩ := hrel
      have cp3 : wr.cell? ⟨p, 3, none⟩ = .some (.slice none 0 0) := HZ.out.2.1.cell 3
      have cp4 : wr.cell? ⟨p, 4, none⟩ = .some (.slice none 0 0) := HZ.out.2.1.cell 4
      have cp5 : wr.cell? ⟨p, 5, none⟩ = .some (.slice none 0 0) := HZ.out.2.1.cell 5
      have cp6 : wr.cell? ⟨p, 6, none⟩ = .some (.slice none 0 0) := HZ.out.2.1.cell 6
      have cq3 : wr.cell? ⟨q, 3, none⟩ = .some (.slice none 0 0) := HZ.out.2.2.cell 3
      have cq4 : wr.cell? ⟨q, 4, none⟩ = .some (.slice none 0 0) := HZ.out.2.2.cell 4
      have cq5 : wr.cell? ⟨q, 5, none⟩ = .some (.slice none 0 0) := HZ.out.2.2.cell 5
      have cq6 : wr.cell? ⟨q, 6, none⟩ = .some (.slice none 0 0) := HZ.out.2.2.cell 6
      go_wp2_with fail
      clear cp3 cp4 cp5 cp6 cq3 cq4 cq5 cq6
      go_loopg [9] 0 (fun _ ix wr => ix = .int .i64 0 ∧ Hid (ZZ w.heap.size (w.heap.size + 1) w wr ∧ HasC 39 p #[.bool false, .int .i64 0, .int .i64 0, .slice none 0 0, .slice none 0 0, .slice none 0 0, .slice none 0 0, .slice none 0 0] wr ∧ HasC 39 q #[.bool false, .int .i64 0, .int .i64 0, .slice none 0 0, .slice none 0 0, .slice none 0 0, .slice none 0 0, .slice none 0 0] wr))
      case atStart => exact ⟨rfl, HZ⟩
      case round =>
        clear HZ
        obtain ⟨rfl, HZ⟩ := hrel
        have cp3 : wr.cell? ⟨p, 3, none⟩ = .some (.slice none 0 0) := HZ.out.2.1.cell 3
        have cp4 : wr.cell? ⟨p, 4, none⟩ = .some (.slice none 0 0) := HZ.out.2.1.cell 4
        have cp5 : wr.cell? ⟨p, 5, none⟩ = .some (.slice none 0 0) := HZ.out.2.1.cell 5
        have cp6 : wr.cell? ⟨p, 6, none⟩ = .some (.slice none 0 0) := HZ.out.2.1.cell 6
        have cq3 : wr.cell? ⟨q, 3, none⟩ = .some (.slice none 0 0) := HZ.out.2.2.cell 3
        have cq4 : wr.cell? ⟨q, 4, none⟩ = .some (.slice none 0 0) := HZ.out.2.2.cell 4
        have cq5 : wr.cell? ⟨q, 5, none⟩ = .some (.slice none 0 0) := HZ.out.2.2.cell 5
        have cq6 : wr.cell? ⟨q, 6, none⟩ = .some (.slice none 0 0) := HZ.out.2.2.cell 6
        go_wp2_with fail
        clear cp3 cp4 cp5 cp6 cq3 cq4 cq5 cq6
        go_loopg [10] 0 (fun _ ix wr => ix = .int .i64 0 ∧ Hid (ZZ w.heap.size (w.heap.size + 1) w wr ∧ HasC 39 p #[.bool false, .int .i64 0, .int .i64 0, .slice none 0 0, .slice none 0 0, .slice none 0 0, .slice none 0 0, .slice none 0 0] wr ∧ HasC 39 q #[.bool false, .int .i64 0, .int .i64 0, .slice none 0 0, .slice none 0 0, .slice none 0 0, .slice none 0 0, .slice none 0 0] wr))
        case atStart => exact ⟨rfl, HZ⟩
        case round =>
          clear HZ
          obtain ⟨rfl, HZ⟩ := hrel
          have cp3 : wr.cell? ⟨p, 3, none⟩ = .some (.slice none 0 0) := HZ.out.2.1.cell 3
          have cp4 : wr.cell? ⟨p, 4, none⟩ = .some (.slice none 0 0) := HZ.out.2.1.cell 4
          have cp5 : wr.cell? ⟨p, 5, none⟩ = .some (.slice none 0 0) := HZ.out.2.1.cell 5
          have cp6 : wr.cell? ⟨p, 6, none⟩ = .some (.slice none 0 0) := HZ.out.2.1.cell 6
          have cq3 : wr.cell? ⟨q, 3, none⟩ = .some (.slice none 0 0) := HZ.out.2.2.cell 3
          have cq4 : wr.cell? ⟨q, 4, none⟩ = .some (.slice none 0 0) := HZ.out.2.2.cell 4
          have cq5 : wr.cell? ⟨q, 5, none⟩ = .some (.slice none 0 0) := HZ.out.2.2.cell 5
          have cq6 : wr.cell? ⟨q, 6, none⟩ = .some (.slice none 0 0) := HZ.out.2.2.cell 6
          go_wp2_with fail
          clear cp3 cp4 cp5 cp6 cq3 cq4 cq5 cq6
          go_loopg [11] 0 (fun _ ix wr => ix = .int .i64 0 ∧ Hid (ZZ w.heap.size (w.heap.size + 1) w wr ∧ HasC 39 p #[.bool false, .int .i64 0, .int .i64 0, .slice none 0 0, .slice none 0 0, .slice none 0 0, .slice none 0 0, .slice none 0 0] wr ∧ HasC 39 q #[.bool false, .int .i64 0, .int .i64 0, .slice none 0 0, .slice none 0 0, .slice none 0 0, .slice none 0 0, .slice none 0 0] wr))
          case atStart => exact ⟨rfl, HZ⟩
          case round =>
            clear HZ
            obtain ⟨rfl, HZ⟩ := hrel
            have cp3 : wr.cell? ⟨p, 3, none⟩ = .some (.slice none 0 0) := HZ.out.2.1.cell 3
            have cp4 : wr.cell? ⟨p, 4, none⟩ = .some (.slice none 0 0) := HZ.out.2.1.cell 4
            have cp5 : wr.cell? ⟨p, 5, none⟩ = .some (.slice none 0 0) := HZ.out.2.1.cell 5
            have cp6 : wr.cell? ⟨p, 6, none⟩ = .some (.slice none 0 0) := HZ.out.2.1.cell 6
            have cq3 : wr.cell? ⟨q, 3, none⟩ = .some (.slice none 0 0) := HZ.out.2.2.cell 3
            have cq4 : wr.cell? ⟨q, 4, none⟩ = .some (.slice none 0 0) := HZ.out.2.2.cell 4
            have cq5 : wr.cell? ⟨q, 5, none⟩ = .some (.slice none 0 0) := HZ.out.2.2.cell 5
            have cq6 : wr.cell? ⟨q, 6, none⟩ = .some (.slice none 0 0) := HZ.out.2.2.cell 6
            go_wp2_with fail
            clear cp3 cp4 cp5 cp6 cq3 cq4 cq5 cq6
            go_ret
            exact ⟨rfl, HZ.out.1.bel⟩
set_option maxRecDepth 8000 in
set_option maxHeartbeats 8000000 in
theorem zSame (w : World) : Calls Tryz.prog 8 #[.agg rtN.C, .agg rtN.C] w fun e w' => e = .returned (.bool true) ∧ Below w.heap.size w w' := by
  have HZ := Lib.hid (ZZ.start w)
  obtain ⟨ca, cb⟩ := HZ.out.cells
  have HSL := Lib.hid zsameLists
  have HSP := Lib.hid zsameProtocols
  have tn := toList_str ([] : List UInt8)
  go_enter Tryz.func8, Tryz.ntmps8
  go_wp2_with fail
  go_loopg [5] 0 (fun _ ix wr => ix = .int .i64 0 ∧ Hid (ZZ w.heap.size (w.heap.size + 1) w wr))
  case atStart => exact ⟨rfl, HZ⟩
  case round =>
    clear HZ ca cb
    obtain ⟨rfl, HZ⟩ := hrel
    obtain ⟨ca, cb⟩ := HZ.out.cells
    go_wp2_with fail
    go_loopg [6] 0 (fun _ ix wr => ix = .int .i64 0 ∧ Hid (ZZ w.heap.size (w.heap.size + 1) w wr))
    case atStart => exact ⟨rfl, HZ⟩
    case round =>
      clear HZ ca cb
      obtain ⟨rfl, HZ⟩ := hrel
      obtain ⟨ca, cb⟩ := HZ.out.cells
      go_wp2_with fail
      go_loopg [7] 0 (fun _ ix wr => ix = .int .i64 0 ∧ Hid (ZZ w.heap.size (w.heap.size + 1) w wr))
      case atStart => exact ⟨rfl, HZ⟩
      case round =>
        clear HZ ca cb
        obtain ⟨rfl, HZ⟩ := hrel
        obtain ⟨ca, cb⟩ := HZ.out.cells
        go_wp2_with (first | (first | (refine wpList_loadRow rfl 41 _ rfl rfl HZ.out.ha.range Tryz.rowRt Tryz.sizeRt ?_) | (refine wpList_unguard (by rfl) (wpList_loadRow rfl 41 _ rfl rfl HZ.out.ha.range Tryz.rowRt Tryz.sizeRt ?_))) | (first | (refine wpList_loadRow rfl 41 _ rfl rfl HZ.out.hb.range Tryz.rowRt Tryz.sizeRt ?_) | (refine wpList_unguard (by rfl) (wpList_loadRow rfl 41 _ rfl rfl HZ.out.hb.range Tryz.rowRt Tryz.sizeRt ?_))))
        refine (HSL.out _).mono ?_
        rintro e w5 ⟨rfl, hb⟩
        replace HZ := Lib.hid (HZ.out.keep hb)
        clear hb ca cb
        go_wp2_with (first | (first | (refine wpList_loadRow rfl 41 _ rfl rfl HZ.out.ha.range Tryz.rowRt Tryz.sizeRt ?_) | (refine wpList_unguard (by rfl) (wpList_loadRow rfl 41 _ rfl rfl HZ.out.ha.range Tryz.rowRt Tryz.sizeRt ?_))) | (first | (refine wpList_loadRow rfl 41 _ rfl rfl HZ.out.hb.range Tryz.rowRt Tryz.sizeRt ?_) | (refine wpList_unguard (by rfl) (wpList_loadRow rfl 41 _ rfl rfl HZ.out.hb.range Tryz.rowRt Tryz.sizeRt ?_))))
        refine (HSP.out _).mono ?_
        rintro e w6 ⟨rfl, hb⟩
        replace HZ := Lib.hid (HZ.out.keep hb)
        clear hb
        go_wp2_with fail
        go_ret
        exact ⟨rfl, HZ.out.bel⟩
end Go.Proofs.YtmddfkpkddemnaaGreatDoor
