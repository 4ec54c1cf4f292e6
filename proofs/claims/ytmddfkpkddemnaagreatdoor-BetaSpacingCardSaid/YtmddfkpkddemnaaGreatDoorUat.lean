/- The walk of netverifyref8.sameLists over equal routers. Condition: what is compared lies in memory. -/
import Derived.Test.YtmddfkpkddemnaaGreatDoorUz
import Derived.StillTailTactics
import Derived.Deep.DeepCutAuto
import Derived.Deep.CutBlock
import Derived.Deep.RegionHeld3
namespace Go.Proofs.YtmddfkpkddemnaaGreatDoor
open Go.RowKit
theorem drew_below (w : World) : Below w.heap.size w w.drew := ⟨rfl, rfl, rfl, Nat.le_refl _, fun _ _ => rfl⟩
theorem SlV.lift {α : Type} {w : World} {B B' n : Nat} {cells : α → Array Value} {v : Value} {xs : List α} (h : SlV w B n cells v xs) (hB : B ≤ B') : SlV w B' n cells v xs := by
  obtain ⟨A, c, e, h1, h2⟩ := h
  exact ⟨A, c, e, h1, h2.mono hB⟩
theorem Rt.at.lift {w : World} {B B' : Nat} {r : Rt} (h : r.at w B) (hB : B ≤ B') : r.at w B' := ⟨h.hifs.lift hB, h.hlists.lift hB, fun x hx => SlV.lift (h.nlists x hx) hB, h.hmaps.lift hB, fun x hx => SlV.lift (h.nmaps x hx) hB, h.hacls.lift hB, fun x hx => SlV.lift (h.nacls x hx) hB, h.hnat.lift hB, h.hstat.lift hB, h.hranges.lift hB, h.hlsRed.lift hB, h.hdvRed.lift hB, h.hnb.lift hB, h.hnet.lift hB, h.hag.lift hB, h.hcd.lift hB, h.hpvRed.lift hB⟩
set_option maxRecDepth 8000 in
set_option maxHeartbeats 4000000 in
theorem sameRedist_any (u v : Value) (l : List Rd) (w : World) (B : Nat) (hu : SlV w B 5 Rd.C u l) (hv : SlV w B 5 Rd.C v l) (hB : B ≤ w.heap.size) :
    Calls Tryz.prog 56 #[u, v] w fun e w' => e = .returned (.bool true) ∧ Below w.heap.size w w' := by
  have hlen := hu.len
  obtain ⟨Au, cu, rfl, -⟩ := id hu
  obtain ⟨Av, cv, rfl, -⟩ := id hv
  have HU := Lib.hid (hu.lift hB)
  have HV := Lib.hid (hv.lift hB)
  simp only [maxLen] at hlen
  have HB := Lib.hid (Below.refl w.heap.size w)
  clear hu hv
  go_enter Tryz.func56, Tryz.ntmps56
  go_wp2_with fail
  go_loopg [5] l.length (fun gh ix wr => ∃ j : Nat, j + gh = l.length ∧ ix = .int .i64 j ∧ Hid (Below w.heap.size w wr))
  case atStart => exact ⟨0, by omega, rfl, HB⟩
  case round =>
    clear HB
    obtain ⟨j, hj, rfl, HB⟩ := hrel
    by_cases hjl : j < l.length
    case pos =>
      obtain ⟨g1, o1, d1, e1, -, hg1, R1⟩ := HU.out.elem (n := 5) (by decide) (fun _ => rfl) hjl
      obtain ⟨g2, o2, d2, e2, -, hg2, R2⟩ := HV.out.elem (n := 5) (by decide) (fun _ => rfl) hjl
      injection e1 with f1 f2 f3
      injection e2 with f4 f5 f6
      subst f1 f3 f4 f6
      have r1 := Lib.hid (rangeBelow R1 HB.out hg1)
      have r2 := Lib.hid (rangeBelow R2 HB.out hg2)
      have hjz : (j : Int) < (l.length : Int) := by omega
      generalize l[j] = x at r1 r2
      clear R1 R2 f2 f5
      have ka0 : wr.cell? ⟨g1, o1 + j * 5, none⟩ = .some (.int .i64 x.frm) := r1.out 0 _ rfl
      have ka1 : wr.cell? ⟨g1, o1 + j * 5 + 1, none⟩ = .some (.int .i64 x.metric) := r1.out 1 _ rfl
      have ka2 : wr.cell? ⟨g1, o1 + j * 5 + 2, none⟩ = .some (.int .i64 x.tag) := r1.out 2 _ rfl
      have ka3 : wr.cell? ⟨g1, o1 + j * 5 + 3, none⟩ = .some (.string (str x.map)) := r1.out 3 _ rfl
      have ka4 : wr.cell? ⟨g1, o1 + j * 5 + 4, none⟩ = .some (.int .i64 x.typ) := r1.out 4 _ rfl
      have kb0 : wr.cell? ⟨g2, o2 + j * 5, none⟩ = .some (.int .i64 x.frm) := r2.out 0 _ rfl
      have kb1 : wr.cell? ⟨g2, o2 + j * 5 + 1, none⟩ = .some (.int .i64 x.metric) := r2.out 1 _ rfl
      have kb2 : wr.cell? ⟨g2, o2 + j * 5 + 2, none⟩ = .some (.int .i64 x.tag) := r2.out 2 _ rfl
      have kb3 : wr.cell? ⟨g2, o2 + j * 5 + 3, none⟩ = .some (.string (str x.map)) := r2.out 3 _ rfl
      have kb4 : wr.cell? ⟨g2, o2 + j * 5 + 4, none⟩ = .some (.int .i64 x.typ) := r2.out 4 _ rfl
      go_wp2_with fail
      go_still (by kernel_rfl)
      go_wp2_with fail
      go_roundg (l.length - (j + 1))
      case measure => omega
      case rel => exact ⟨j + 1, by omega, by go_num, Lib.hid (HB.out.trans ((drew_below wr).mono HB.out.size))⟩
    case neg =>
      have hjz : ¬ ((j : Int) < (l.length : Int)) := by omega
      go_wp2_with fail
      go_ret
      exact ⟨rfl, HB.out⟩
end Go.Proofs.YtmddfkpkddemnaaGreatDoor
namespace Go.Proofs.YtmddfkpkddemnaaGreatDoor
open Go.RowKit
/-- Two routers in blocks of their own. -/
structure SM (a b : Rt) (ba bb : Nat) (w0 w : World) : Prop where
  ha : HasC 41 ba a.C w
  hb : HasC 41 bb b.C w
  bel : Below w0.heap.size w0 w
theorem SM.keep {a b : Rt} {ba bb : Nat} {w0 w w' : World} (h : SM a b ba bb w0 w) (hb : Below w.heap.size w w') : SM a b ba bb w0 w' := ⟨h.ha.keep hb, h.hb.keep hb, h.bel.trans (hb.mono h.bel.size)⟩
theorem SM.start (a b : Rt) (w : World) : SM a b w.heap.size (w.heap.size + 1) w ((w.alloc (.cells a.C 41)).alloc (.cells b.C 41)) := by
  have h1 := HasC.new w 41 a.C
  have h2 := HasC.new (w.alloc (.cells a.C 41)) 41 b.C
  rw [show (w.alloc (.cells a.C 41)).heap.size = w.heap.size + 1 from by simp] at h2
  exact ⟨h1.keep ((Below.refl _ _).alloc (Nat.le_refl _) _), h2, ((Below.refl _ w).alloc (Nat.le_refl _) _).alloc (by simp) _⟩
/-- And two parts of them in blocks of their own. -/
structure SX (a b : Rt) (ba bb p q : Nat) (T : TypeId) (cp cq : Array Value) (w0 w : World) : Prop where
  sm : SM a b ba bb w0 w
  hp : HasC T p cp w
  hq : HasC T q cq w
theorem SX.keep {a b : Rt} {ba bb p q : Nat} {T : TypeId} {cp cq : Array Value} {w0 w w' : World} (h : SX a b ba bb p q T cp cq w0 w) (hb : Below w.heap.size w w') : SX a b ba bb p q T cp cq w0 w' := ⟨h.sm.keep hb, h.hp.keep hb, h.hq.keep hb⟩
/-- Two structs laid into new blocks. -/
theorem two_new (w : World) (T : TypeId) (xs ys : Array Value) :
    HasC T w.heap.size xs ((w.alloc (.cells xs T)).alloc (.cells ys T)).drew ∧ HasC T (w.heap.size + 1) ys ((w.alloc (.cells xs T)).alloc (.cells ys T)).drew ∧ Below w.heap.size w ((w.alloc (.cells xs T)).alloc (.cells ys T)).drew := by
  have h1 := (HasC.new w T xs).keep ((Below.refl _ (w.alloc (.cells xs T))).alloc (Nat.le_refl _) (.cells ys T))
  have h2 := HasC.new (w.alloc (.cells xs T)) T ys
  rw [show (w.alloc (.cells xs T)).heap.size = w.heap.size + 1 from by simp] at h2
  have hB : Below w.heap.size w ((w.alloc (.cells xs T)).alloc (.cells ys T)) := ((Below.refl _ w).alloc (Nat.le_refl _) _).alloc (by simp) _
  exact ⟨h1, h2, hB.trans ((drew_below _).mono hB.size)⟩
theorem len_lists {a b : Rt} (h : a.plain = b.plain) : b.lists.length = a.lists.length ∧ b.maps.length = a.maps.length ∧ b.acls.length = a.acls.length := by
  have h1 := congrArg (fun r => r.lists.length) h
  have h2 := congrArg (fun r => r.maps.length) h
  have h3 := congrArg (fun r => r.acls.length) h
  simp only [Rt.plain, List.length_map] at h1 h2 h3
  exact ⟨h1.symm, h2.symm, h3.symm⟩
theorem same_lists {a b : Rt} (h : a.plain = b.plain) {j : Nat} (hj : j < a.lists.length) (hb : j < b.lists.length) : b.lists[j].name = a.lists[j].name ∧ b.lists[j].rules = a.lists[j].rules := by
  have h1 := congrArg (fun r => r.lists[j]?) h
  simp only [Rt.plain, List.getElem?_map, List.getElem?_eq_getElem hj, List.getElem?_eq_getElem hb, Option.map_some, Option.some.injEq] at h1
  injection h1 with h2 _ h3
  exact ⟨h2.symm, h3.symm⟩
theorem same_maps {a b : Rt} (h : a.plain = b.plain) {j : Nat} (hj : j < a.maps.length) (hb : j < b.maps.length) : b.maps[j].name = a.maps[j].name ∧ b.maps[j].clauses = a.maps[j].clauses := by
  have h1 := congrArg (fun r => r.maps[j]?) h
  simp only [Rt.plain, List.getElem?_map, List.getElem?_eq_getElem hj, List.getElem?_eq_getElem hb, Option.map_some, Option.some.injEq] at h1
  injection h1 with h2 _ h3
  exact ⟨h2.symm, h3.symm⟩
theorem same_acls {a b : Rt} (h : a.plain = b.plain) {j : Nat} (hj : j < a.acls.length) (hb : j < b.acls.length) : b.acls[j].name = a.acls[j].name ∧ b.acls[j].rules = a.acls[j].rules := by
  have h1 := congrArg (fun r => r.acls[j]?) h
  simp only [Rt.plain, List.getElem?_map, List.getElem?_eq_getElem hj, List.getElem?_eq_getElem hb, Option.map_some, Option.some.injEq] at h1
  injection h1 with h2 _ h3
  exact ⟨h2.symm, h3.symm⟩
set_option maxRecDepth 8000 in
set_option maxHeartbeats 8000000 in
theorem sameLists_any (a b : Rt) (w : World) (B : Nat) (hat : a.at w B) (hbt : b.at w B) (hB : B ≤ w.heap.size) (hp : a.plain = b.plain) :
    Calls Tryz.prog 16 #[.agg a.C, .agg b.C] w fun e w' => e = .returned (.bool true) ∧ Below w.heap.size w w' := by
  have hal := hat.lift hB
  have hbl := hbt.lift hB
  have HP := Lib.hid hp
  have H0 := Lib.hid (SM.start a b w)
  have HU3 := Lib.hid hal.hlists
  have HV3 := Lib.hid hbl.hlists
  have NU3 := Lib.hid hal.nlists
  have NV3 := Lib.hid hbl.nlists
  obtain ⟨A3, c3, e3, -⟩ := hal.hlists
  obtain ⟨D3, d3, f3, -⟩ := hbl.hlists
  have hl3 := (len_lists hp).1
  rw [hl3] at f3
  have EA3 := Lib.hid e3
  have EB3 := Lib.hid f3
  have HL3 := Lib.hid hl3
  have ca3 : ((w.alloc (.cells a.C 41)).alloc (.cells b.C 41)).cell? ⟨w.heap.size, 3, none⟩ = .some (.slice A3 a.lists.length c3) := by rw [← e3]; exact H0.out.ha.cell 3
  have cb3 : ((w.alloc (.cells a.C 41)).alloc (.cells b.C 41)).cell? ⟨w.heap.size + 1, 3, none⟩ = .some (.slice D3 a.lists.length d3) := by rw [← f3]; exact H0.out.hb.cell 3
  clear e3 f3 hl3
  have HU4 := Lib.hid hal.hmaps
  have HV4 := Lib.hid hbl.hmaps
  have NU4 := Lib.hid hal.nmaps
  have NV4 := Lib.hid hbl.nmaps
  obtain ⟨A4, c4, e4, -⟩ := hal.hmaps
  obtain ⟨D4, d4, f4, -⟩ := hbl.hmaps
  have hl4 := (len_lists hp).2.1
  rw [hl4] at f4
  have EA4 := Lib.hid e4
  have EB4 := Lib.hid f4
  have HL4 := Lib.hid hl4
  have ca4 : ((w.alloc (.cells a.C 41)).alloc (.cells b.C 41)).cell? ⟨w.heap.size, 4, none⟩ = .some (.slice A4 a.maps.length c4) := by rw [← e4]; exact H0.out.ha.cell 4
  have cb4 : ((w.alloc (.cells a.C 41)).alloc (.cells b.C 41)).cell? ⟨w.heap.size + 1, 4, none⟩ = .some (.slice D4 a.maps.length d4) := by rw [← f4]; exact H0.out.hb.cell 4
  clear e4 f4 hl4
  have HU5 := Lib.hid hal.hacls
  have HV5 := Lib.hid hbl.hacls
  have NU5 := Lib.hid hal.nacls
  have NV5 := Lib.hid hbl.nacls
  obtain ⟨A5, c5, e5, -⟩ := hal.hacls
  obtain ⟨D5, d5, f5, -⟩ := hbl.hacls
  have hl5 := (len_lists hp).2.2
  rw [hl5] at f5
  have EA5 := Lib.hid e5
  have EB5 := Lib.hid f5
  have HL5 := Lib.hid hl5
  have ca5 : ((w.alloc (.cells a.C 41)).alloc (.cells b.C 41)).cell? ⟨w.heap.size, 5, none⟩ = .some (.slice A5 a.acls.length c5) := by rw [← e5]; exact H0.out.ha.cell 5
  have cb5 : ((w.alloc (.cells a.C 41)).alloc (.cells b.C 41)).cell? ⟨w.heap.size + 1, 5, none⟩ = .some (.slice D5 a.acls.length d5) := by rw [← f5]; exact H0.out.hb.cell 5
  clear e5 f5 hl5
  clear hal hbl hat hbt hp
  go_enter Tryz.func16, Tryz.ntmps16
  go_upto_region 3 with (fail)
  clear ca3 ca4 ca5 cb3 cb4 cb5
  generalize ((w.alloc (.cells a.C 41)).alloc (.cells b.C 41)) = w2 at H0 ⊢
  go_wp2_with fail
  go_loopg [5] a.lists.length (fun gh ix wr => ∃ j : Nat, j + gh = a.lists.length ∧ ix = .int .i64 j ∧ Hid (SM a b w.heap.size (w.heap.size + 1) w wr))
  case atStart => exact ⟨0, by omega, rfl, H0⟩
  case round =>
    clear H0
    obtain ⟨j, hj, rfl, H⟩ := hrel
    by_cases hjl : j < a.lists.length
    case pos =>
      have hjb : j < b.lists.length := by rw [HL3.out]; exact hjl
      have hsm := same_lists HP.out hjl hjb
      obtain ⟨g1, o1, d1, e1, -, hg1, R1⟩ := HU3.out.elem (n := 2) (by decide) (fun _ => rfl) hjl
      obtain ⟨g2, o2, d2, e2, -, hg2, R2⟩ := HV3.out.elem (n := 2) (by decide) (fun _ => rfl) hjb
      have n1 := NU3.out _ (List.getElem_mem hjl)
      have n2 := NV3.out _ (List.getElem_mem hjb)
      rw [EA3.out] at e1
      rw [EB3.out] at e2
      injection e1 with f1 f2 f3
      injection e2 with f4 f5 f6
      subst f1 f3 f4 f6
      have r1 := Lib.hid (rangeBelow R1 H.out.bel hg1)
      have r2 := Lib.hid (rangeBelow R2 H.out.bel hg2)
      have lb1 : g1 < wr.heap.size := Nat.lt_of_lt_of_le hg1 H.out.bel.size
      have lb2 : g2 < wr.heap.size := Nat.lt_of_lt_of_le hg2 H.out.bel.size
      have lb3 : w.heap.size < wr.heap.size := blk_lt H.out.ha
      have lb4 : w.heap.size + 1 < wr.heap.size := blk_lt H.out.hb
      have hjz : (j : Int) < (a.lists.length : Int) := by omega
      clear R1 R2 f2 f5 hg1 hg2
      generalize a.lists[j] = x at r1 n1 hsm
      generalize b.lists[j] = y at r2 n2 hsm
      obtain ⟨ynm, yv, yr⟩ := y
      obtain ⟨hs1, hs2⟩ := hsm
      dsimp only at hs1 hs2
      subst hs1 hs2
      have N1 : Hid (SlV w w.heap.size 5 PRule.C x.v x.rules) := Lib.hid n1
      have N2 : Hid (SlV w w.heap.size 5 PRule.C yv x.rules) := Lib.hid n2
      obtain ⟨Ax, cx, ex, -⟩ := n1
      obtain ⟨Ay, cy, ey, -⟩ := n2
      rw [ex] at N1
      have ey2 : yv = .slice Ay x.rules.length cy := ey
      rw [ey2] at N2
      have k1 : wr.cell? ⟨g1, o1 + j * 2, none⟩ = .some (.string (str x.name)) := r1.out 0 _ rfl
      have k2 : wr.cell? ⟨g1, o1 + j * 2 + 1, none⟩ = .some (.slice Ax x.rules.length cx) := by rw [← ex]; exact r1.out 1 _ rfl
      have k3 : wr.cell? ⟨g2, o2 + j * 2, none⟩ = .some (.string (str x.name)) := r2.out 0 _ rfl
      have k4 : wr.cell? ⟨g2, o2 + j * 2 + 1, none⟩ = .some (.slice Ay x.rules.length cy) := by rw [← ey2]; exact r2.out 1 _ rfl
      have k5 : wr.cell? ⟨w.heap.size, 3, none⟩ = .some (.slice (some ⟨g1, o1, none⟩) a.lists.length c3) := by rw [← EA3.out]; exact H.out.ha.cell 3
      have k6 : wr.cell? ⟨w.heap.size + 1, 3, none⟩ = .some (.slice (some ⟨g2, o2, none⟩) a.lists.length d3) := by rw [← EB3.out]; exact H.out.hb.cell 3
      clear r1 r2 ex ey ey2
      go_upto_region 6 with (fail)
      go_cut [6, 7] (fun x0 y0 wx => ∃ p q : Nat, x0 = .pointer (some ⟨p, 0, none⟩) ∧ y0 = .pointer (some ⟨q, 0, none⟩) ∧ SX a b w.heap.size (w.heap.size + 1) p q 103 #[.string (str x.name), .slice Ax x.rules.length cx] #[.string (str x.name), .slice Ay x.rules.length cy] w wx)
      case first =>
        have k1d : wr.drew.cell? ⟨g1, o1 + j * 2, none⟩ = .some (.string (str x.name)) := k1
        have k2d : wr.drew.cell? ⟨g1, o1 + j * 2 + 1, none⟩ = .some (.slice Ax x.rules.length cx) := k2
        have k3d : wr.drew.cell? ⟨g2, o2 + j * 2, none⟩ = .some (.string (str x.name)) := k3
        have k4d : wr.drew.cell? ⟨g2, o2 + j * 2 + 1, none⟩ = .some (.slice Ay x.rules.length cy) := k4
        have k5d : wr.drew.cell? ⟨w.heap.size, 3, none⟩ = .some (.slice (some ⟨g1, o1, none⟩) a.lists.length c3) := k5
        have k6d : wr.drew.cell? ⟨w.heap.size + 1, 3, none⟩ = .some (.slice (some ⟨g2, o2, none⟩) a.lists.length d3) := k6
        go_region_held3 (fun w' => w'.cell? ⟨g1, o1 + j * 2, none⟩ = .some (.string (str x.name)) ∧ w'.cell? ⟨g1, o1 + j * 2 + 1, none⟩ = .some (.slice Ax x.rules.length cx) ∧ w'.cell? ⟨g2, o2 + j * 2, none⟩ = .some (.string (str x.name)) ∧ w'.cell? ⟨g2, o2 + j * 2 + 1, none⟩ = .some (.slice Ay x.rules.length cy) ∧ w'.cell? ⟨w.heap.size, 3, none⟩ = .some (.slice (some ⟨g1, o1, none⟩) a.lists.length c3) ∧ w'.cell? ⟨w.heap.size + 1, 3, none⟩ = .some (.slice (some ⟨g2, o2, none⟩) a.lists.length d3)) (first | (with_reducible exact ⟨k1d, k2d, k3d, k4d, k5d, k6d⟩) | go_keep | (refine ⟨?_, ?_, ?_, ?_, ?_, ?_⟩ <;> ((repeat first | rw [World.cell?_setCell_other _ _ _ _ (by intro h; simp only [Addr.mk.injEq] at h; omega)] | rw [World.cell?_alloc_lt _ _ _ (by first | assumption | (simp; omega))]); assumption))) (fail)
        all_goals
          go_wp2_with fail
          go_meet
          first | exact ⟨wr.heap.size, wr.heap.size + 1, rfl, rfl, ⟨H.out.keep (two_new wr 103 #[.string (str x.name), .slice Ax x.rules.length cx] #[.string (str x.name), .slice Ay x.rules.length cy]).2.2, (two_new wr 103 #[.string (str x.name), .slice Ax x.rules.length cx] #[.string (str x.name), .slice Ay x.rules.length cy]).1, (two_new wr 103 #[.string (str x.name), .slice Ax x.rules.length cx] #[.string (str x.name), .slice Ay x.rules.length cy]).2.1⟩⟩ | exact ⟨wr.heap.size + 1, wr.heap.size, rfl, rfl, ⟨H.out.keep (two_new wr 103 #[.string (str x.name), .slice Ay x.rules.length cy] #[.string (str x.name), .slice Ax x.rules.length cx]).2.2, (two_new wr 103 #[.string (str x.name), .slice Ay x.rules.length cy] #[.string (str x.name), .slice Ax x.rules.length cx]).2.1, (two_new wr 103 #[.string (str x.name), .slice Ay x.rules.length cy] #[.string (str x.name), .slice Ax x.rules.length cx]).1⟩⟩
      case rest =>
        obtain ⟨p, q, rfl, rfl, hx⟩ := hcut
        have HX := Lib.hid hx
        clear hx k1 k2 k3 k4 k5 k6 lb1 lb2 lb3 lb4
        have p0 : wc.cell? ⟨p, 0, none⟩ = .some (.string (str x.name)) := HX.out.hp.cell 0
        have p1 : wc.cell? ⟨p, 1, none⟩ = .some (.slice Ax x.rules.length cx) := HX.out.hp.cell 1
        have q0 : wc.cell? ⟨q, 0, none⟩ = .some (.string (str x.name)) := HX.out.hq.cell 0
        have q1 : wc.cell? ⟨q, 1, none⟩ = .some (.slice Ay x.rules.length cy) := HX.out.hq.cell 1
        have hlx : x.rules.length ≤ 9223372036854775807 := by have := N1.out.len; simp only [maxLen] at this; exact this
        have hla : a.lists.length ≤ 9223372036854775807 := by have := HU3.out.len; simp only [maxLen] at this; exact this
        go_wp2_with fail
        clear p0 p1 q0 q1 H
        go_loopg [8] x.rules.length (fun gh ix wr => ∃ i : Nat, i + gh = x.rules.length ∧ ix = .int .i64 i ∧ Hid (SX a b w.heap.size (w.heap.size + 1) p q 103 #[.string (str x.name), .slice Ax x.rules.length cx] #[.string (str x.name), .slice Ay x.rules.length cy] w wr))
        case atStart => exact ⟨0, by omega, rfl, HX⟩
        case round =>
          clear HX
          obtain ⟨i, hi, rfl, HX⟩ := hrel
          by_cases hil : i < x.rules.length
          case pos =>
            obtain ⟨g3, o3, d3, e3, -, hg3, R3⟩ := N1.out.elem (n := 5) (by decide) (fun _ => rfl) hil
            obtain ⟨g4, o4, d4, e4, -, hg4, R4⟩ := N2.out.elem (n := 5) (by decide) (fun _ => rfl) hil
            injection e3 with f1 f2 f3
            injection e4 with f4 f5 f6
            subst f1 f3 f4 f6
            have r3 := Lib.hid (rangeBelow R3 HX.out.sm.bel hg3)
            have r4 := Lib.hid (rangeBelow R4 HX.out.sm.bel hg4)
            have hiz : (i : Int) < (x.rules.length : Int) := by omega
            have p1 : wr.cell? ⟨p, 1, none⟩ = .some (.slice (some ⟨g3, o3, none⟩) x.rules.length cx) := HX.out.hp.cell 1
            have q1 : wr.cell? ⟨q, 1, none⟩ = .some (.slice (some ⟨g4, o4, none⟩) x.rules.length cy) := HX.out.hq.cell 1
            generalize x.rules[i] = z at r3 r4
            clear R3 R4 f2 f5
            have ka0 : wr.cell? ⟨g3, o3 + i * 5, none⟩ = .some (.bool z.permit) := r3.out 0 _ rfl
            have ka1 : wr.cell? ⟨g3, o3 + i * 5 + 1, none⟩ = .some (.int .u32 (z.pa : Int)) := r3.out 1 _ rfl
            have ka2 : wr.cell? ⟨g3, o3 + i * 5 + 2, none⟩ = .some (.int .i64 z.pl) := r3.out 2 _ rfl
            have ka3 : wr.cell? ⟨g3, o3 + i * 5 + 3, none⟩ = .some (.int .i64 z.min) := r3.out 3 _ rfl
            have ka4 : wr.cell? ⟨g3, o3 + i * 5 + 4, none⟩ = .some (.int .i64 z.max) := r3.out 4 _ rfl
            have kb0 : wr.cell? ⟨g4, o4 + i * 5, none⟩ = .some (.bool z.permit) := r4.out 0 _ rfl
            have kb1 : wr.cell? ⟨g4, o4 + i * 5 + 1, none⟩ = .some (.int .u32 (z.pa : Int)) := r4.out 1 _ rfl
            have kb2 : wr.cell? ⟨g4, o4 + i * 5 + 2, none⟩ = .some (.int .i64 z.pl) := r4.out 2 _ rfl
            have kb3 : wr.cell? ⟨g4, o4 + i * 5 + 3, none⟩ = .some (.int .i64 z.min) := r4.out 3 _ rfl
            have kb4 : wr.cell? ⟨g4, o4 + i * 5 + 4, none⟩ = .some (.int .i64 z.max) := r4.out 4 _ rfl
            go_wp2_with fail
            go_still (by kernel_rfl)
            go_wp2_with fail
            go_roundg (x.rules.length - (i + 1))
            case measure => omega
            case rel => exact ⟨i + 1, by omega, by go_num, Lib.hid (HX.out.keep (drew_below wr))⟩
          case neg =>
            have hiz : ¬ ((i : Int) < (x.rules.length : Int)) := by omega
            have p1 : wr.cell? ⟨p, 1, none⟩ = .some (.slice Ax x.rules.length cx) := HX.out.hp.cell 1
            go_wp2_with fail
            go_roundg (a.lists.length - (j + 1))
            case measure => omega
            case rel => exact ⟨j + 1, by omega, by go_num, Lib.hid HX.out.sm⟩
    case neg =>
      have hjz : ¬ ((j : Int) < (a.lists.length : Int)) := by omega
      have k5 : wr.cell? ⟨w.heap.size, 3, none⟩ = .some (.slice A3 a.lists.length c3) := by rw [← EA3.out]; exact H.out.ha.cell 3
      generalize wr = w90 at H k5 ⊢
      go_wp2_with fail
      clear k5 hjz hjl hj
      go_loopg [9] a.maps.length (fun gh ix wr => ∃ j : Nat, j + gh = a.maps.length ∧ ix = .int .i64 j ∧ Hid (SM a b w.heap.size (w.heap.size + 1) w wr))
      case atStart => exact ⟨0, by omega, rfl, H⟩
      case round =>
        clear H
        obtain ⟨j, hj, rfl, H⟩ := hrel
        by_cases hjl : j < a.maps.length
        case pos =>
          have hjb : j < b.maps.length := by rw [HL4.out]; exact hjl
          have hsm := same_maps HP.out hjl hjb
          obtain ⟨g1, o1, d1, e1, -, hg1, R1⟩ := HU4.out.elem (n := 2) (by decide) (fun _ => rfl) hjl
          obtain ⟨g2, o2, d2, e2, -, hg2, R2⟩ := HV4.out.elem (n := 2) (by decide) (fun _ => rfl) hjb
          have n1 := NU4.out _ (List.getElem_mem hjl)
          have n2 := NV4.out _ (List.getElem_mem hjb)
          rw [EA4.out] at e1
          rw [EB4.out] at e2
          injection e1 with f1 f2 f3
          injection e2 with f4 f5 f6
          subst f1 f3 f4 f6
          have r1 := Lib.hid (rangeBelow R1 H.out.bel hg1)
          have r2 := Lib.hid (rangeBelow R2 H.out.bel hg2)
          have lb1 : g1 < wr.heap.size := Nat.lt_of_lt_of_le hg1 H.out.bel.size
          have lb2 : g2 < wr.heap.size := Nat.lt_of_lt_of_le hg2 H.out.bel.size
          have lb3 : w.heap.size < wr.heap.size := blk_lt H.out.ha
          have lb4 : w.heap.size + 1 < wr.heap.size := blk_lt H.out.hb
          have hjz : (j : Int) < (a.maps.length : Int) := by omega
          clear R1 R2 f2 f5 hg1 hg2
          generalize a.maps[j] = x at r1 n1 hsm
          generalize b.maps[j] = y at r2 n2 hsm
          obtain ⟨ynm, yv, yr⟩ := y
          obtain ⟨hs1, hs2⟩ := hsm
          dsimp only at hs1 hs2
          subst hs1 hs2
          have N1 : Hid (SlV w w.heap.size 7 Cl.C x.v x.clauses) := Lib.hid n1
          have N2 : Hid (SlV w w.heap.size 7 Cl.C yv x.clauses) := Lib.hid n2
          obtain ⟨Ax, cx, ex, -⟩ := n1
          obtain ⟨Ay, cy, ey, -⟩ := n2
          rw [ex] at N1
          have ey2 : yv = .slice Ay x.clauses.length cy := ey
          rw [ey2] at N2
          have k1 : wr.cell? ⟨g1, o1 + j * 2, none⟩ = .some (.string (str x.name)) := r1.out 0 _ rfl
          have k2 : wr.cell? ⟨g1, o1 + j * 2 + 1, none⟩ = .some (.slice Ax x.clauses.length cx) := by rw [← ex]; exact r1.out 1 _ rfl
          have k3 : wr.cell? ⟨g2, o2 + j * 2, none⟩ = .some (.string (str x.name)) := r2.out 0 _ rfl
          have k4 : wr.cell? ⟨g2, o2 + j * 2 + 1, none⟩ = .some (.slice Ay x.clauses.length cy) := by rw [← ey2]; exact r2.out 1 _ rfl
          have k5 : wr.cell? ⟨w.heap.size, 4, none⟩ = .some (.slice (some ⟨g1, o1, none⟩) a.maps.length c4) := by rw [← EA4.out]; exact H.out.ha.cell 4
          have k6 : wr.cell? ⟨w.heap.size + 1, 4, none⟩ = .some (.slice (some ⟨g2, o2, none⟩) a.maps.length d4) := by rw [← EB4.out]; exact H.out.hb.cell 4
          clear r1 r2 ex ey ey2
          go_upto_region 17 with (fail)
          go_cut [10, 11] (fun x0 y0 wx => ∃ p q : Nat, x0 = .pointer (some ⟨p, 0, none⟩) ∧ y0 = .pointer (some ⟨q, 0, none⟩) ∧ SX a b w.heap.size (w.heap.size + 1) p q 108 #[.string (str x.name), .slice Ax x.clauses.length cx] #[.string (str x.name), .slice Ay x.clauses.length cy] w wx)
          case first =>
            have k1d : wr.drew.cell? ⟨g1, o1 + j * 2, none⟩ = .some (.string (str x.name)) := k1
            have k2d : wr.drew.cell? ⟨g1, o1 + j * 2 + 1, none⟩ = .some (.slice Ax x.clauses.length cx) := k2
            have k3d : wr.drew.cell? ⟨g2, o2 + j * 2, none⟩ = .some (.string (str x.name)) := k3
            have k4d : wr.drew.cell? ⟨g2, o2 + j * 2 + 1, none⟩ = .some (.slice Ay x.clauses.length cy) := k4
            have k5d : wr.drew.cell? ⟨w.heap.size, 4, none⟩ = .some (.slice (some ⟨g1, o1, none⟩) a.maps.length c4) := k5
            have k6d : wr.drew.cell? ⟨w.heap.size + 1, 4, none⟩ = .some (.slice (some ⟨g2, o2, none⟩) a.maps.length d4) := k6
            go_region_held3 (fun w' => w'.cell? ⟨g1, o1 + j * 2, none⟩ = .some (.string (str x.name)) ∧ w'.cell? ⟨g1, o1 + j * 2 + 1, none⟩ = .some (.slice Ax x.clauses.length cx) ∧ w'.cell? ⟨g2, o2 + j * 2, none⟩ = .some (.string (str x.name)) ∧ w'.cell? ⟨g2, o2 + j * 2 + 1, none⟩ = .some (.slice Ay x.clauses.length cy) ∧ w'.cell? ⟨w.heap.size, 4, none⟩ = .some (.slice (some ⟨g1, o1, none⟩) a.maps.length c4) ∧ w'.cell? ⟨w.heap.size + 1, 4, none⟩ = .some (.slice (some ⟨g2, o2, none⟩) a.maps.length d4)) (first | (with_reducible exact ⟨k1d, k2d, k3d, k4d, k5d, k6d⟩) | go_keep | (refine ⟨?_, ?_, ?_, ?_, ?_, ?_⟩ <;> ((repeat first | rw [World.cell?_setCell_other _ _ _ _ (by intro h; simp only [Addr.mk.injEq] at h; omega)] | rw [World.cell?_alloc_lt _ _ _ (by first | assumption | (simp; omega))]); assumption))) (fail)
            all_goals
              go_wp2_with fail
              go_meet
              first | exact ⟨wr.heap.size, wr.heap.size + 1, rfl, rfl, ⟨H.out.keep (two_new wr 108 #[.string (str x.name), .slice Ax x.clauses.length cx] #[.string (str x.name), .slice Ay x.clauses.length cy]).2.2, (two_new wr 108 #[.string (str x.name), .slice Ax x.clauses.length cx] #[.string (str x.name), .slice Ay x.clauses.length cy]).1, (two_new wr 108 #[.string (str x.name), .slice Ax x.clauses.length cx] #[.string (str x.name), .slice Ay x.clauses.length cy]).2.1⟩⟩ | exact ⟨wr.heap.size + 1, wr.heap.size, rfl, rfl, ⟨H.out.keep (two_new wr 108 #[.string (str x.name), .slice Ay x.clauses.length cy] #[.string (str x.name), .slice Ax x.clauses.length cx]).2.2, (two_new wr 108 #[.string (str x.name), .slice Ay x.clauses.length cy] #[.string (str x.name), .slice Ax x.clauses.length cx]).2.1, (two_new wr 108 #[.string (str x.name), .slice Ay x.clauses.length cy] #[.string (str x.name), .slice Ax x.clauses.length cx]).1⟩⟩
          case rest =>
            obtain ⟨p, q, rfl, rfl, hx⟩ := hcut
            have HX := Lib.hid hx
            clear hx k1 k2 k3 k4 k5 k6 lb1 lb2 lb3 lb4
            have p0 : wc.cell? ⟨p, 0, none⟩ = .some (.string (str x.name)) := HX.out.hp.cell 0
            have p1 : wc.cell? ⟨p, 1, none⟩ = .some (.slice Ax x.clauses.length cx) := HX.out.hp.cell 1
            have q0 : wc.cell? ⟨q, 0, none⟩ = .some (.string (str x.name)) := HX.out.hq.cell 0
            have q1 : wc.cell? ⟨q, 1, none⟩ = .some (.slice Ay x.clauses.length cy) := HX.out.hq.cell 1
            have hlx : x.clauses.length ≤ 9223372036854775807 := by have := N1.out.len; simp only [maxLen] at this; exact this
            have hla : a.maps.length ≤ 9223372036854775807 := by have := HU4.out.len; simp only [maxLen] at this; exact this
            go_wp2_with fail
            clear p0 p1 q0 q1 H
            go_loopg [12] x.clauses.length (fun gh ix wr => ∃ i : Nat, i + gh = x.clauses.length ∧ ix = .int .i64 i ∧ Hid (SX a b w.heap.size (w.heap.size + 1) p q 108 #[.string (str x.name), .slice Ax x.clauses.length cx] #[.string (str x.name), .slice Ay x.clauses.length cy] w wr))
            case atStart => exact ⟨0, by omega, rfl, HX⟩
            case round =>
              clear HX
              obtain ⟨i, hi, rfl, HX⟩ := hrel
              by_cases hil : i < x.clauses.length
              case pos =>
                obtain ⟨g3, o3, d3, e3, -, hg3, R3⟩ := N1.out.elem (n := 7) (by decide) (fun _ => rfl) hil
                obtain ⟨g4, o4, d4, e4, -, hg4, R4⟩ := N2.out.elem (n := 7) (by decide) (fun _ => rfl) hil
                injection e3 with f1 f2 f3
                injection e4 with f4 f5 f6
                subst f1 f3 f4 f6
                have r3 := Lib.hid (rangeBelow R3 HX.out.sm.bel hg3)
                have r4 := Lib.hid (rangeBelow R4 HX.out.sm.bel hg4)
                have hiz : (i : Int) < (x.clauses.length : Int) := by omega
                have p1 : wr.cell? ⟨p, 1, none⟩ = .some (.slice (some ⟨g3, o3, none⟩) x.clauses.length cx) := HX.out.hp.cell 1
                have q1 : wr.cell? ⟨q, 1, none⟩ = .some (.slice (some ⟨g4, o4, none⟩) x.clauses.length cy) := HX.out.hq.cell 1
                generalize x.clauses[i] = z at r3 r4
                clear R3 R4 f2 f5
                have ka0 : wr.cell? ⟨g3, o3 + i * 7, none⟩ = .some (.bool z.permit) := r3.out 0 _ rfl
                have ka1 : wr.cell? ⟨g3, o3 + i * 7 + 1, none⟩ = .some (.string (str z.list)) := r3.out 1 _ rfl
                have ka2 : wr.cell? ⟨g3, o3 + i * 7 + 2, none⟩ = .some (.int .i64 z.tag) := r3.out 2 _ rfl
                have ka3 : wr.cell? ⟨g3, o3 + i * 7 + 3, none⟩ = .some (.int .i64 z.setM) := r3.out 3 _ rfl
                have ka4 : wr.cell? ⟨g3, o3 + i * 7 + 4, none⟩ = .some (.int .i64 z.setT) := r3.out 4 _ rfl
                have ka5 : wr.cell? ⟨g3, o3 + i * 7 + 5, none⟩ = .some (.int .i64 z.setP) := r3.out 5 _ rfl
                have ka6 : wr.cell? ⟨g3, o3 + i * 7 + 6, none⟩ = .some (.int .i64 z.prep) := r3.out 6 _ rfl
                have kb0 : wr.cell? ⟨g4, o4 + i * 7, none⟩ = .some (.bool z.permit) := r4.out 0 _ rfl
                have kb1 : wr.cell? ⟨g4, o4 + i * 7 + 1, none⟩ = .some (.string (str z.list)) := r4.out 1 _ rfl
                have kb2 : wr.cell? ⟨g4, o4 + i * 7 + 2, none⟩ = .some (.int .i64 z.tag) := r4.out 2 _ rfl
                have kb3 : wr.cell? ⟨g4, o4 + i * 7 + 3, none⟩ = .some (.int .i64 z.setM) := r4.out 3 _ rfl
                have kb4 : wr.cell? ⟨g4, o4 + i * 7 + 4, none⟩ = .some (.int .i64 z.setT) := r4.out 4 _ rfl
                have kb5 : wr.cell? ⟨g4, o4 + i * 7 + 5, none⟩ = .some (.int .i64 z.setP) := r4.out 5 _ rfl
                have kb6 : wr.cell? ⟨g4, o4 + i * 7 + 6, none⟩ = .some (.int .i64 z.prep) := r4.out 6 _ rfl
                go_wp2_with fail
                go_still (by kernel_rfl)
                go_wp2_with fail
                go_roundg (x.clauses.length - (i + 1))
                case measure => omega
                case rel => exact ⟨i + 1, by omega, by go_num, Lib.hid (HX.out.keep (drew_below wr))⟩
              case neg =>
                have hiz : ¬ ((i : Int) < (x.clauses.length : Int)) := by omega
                have p1 : wr.cell? ⟨p, 1, none⟩ = .some (.slice Ax x.clauses.length cx) := HX.out.hp.cell 1
                go_wp2_with fail
                go_roundg (a.maps.length - (j + 1))
                case measure => omega
                case rel => exact ⟨j + 1, by omega, by go_num, Lib.hid HX.out.sm⟩
        case neg =>
          have hjz : ¬ ((j : Int) < (a.maps.length : Int)) := by omega
          have k5 : wr.cell? ⟨w.heap.size, 4, none⟩ = .some (.slice A4 a.maps.length c4) := by rw [← EA4.out]; exact H.out.ha.cell 4
          generalize wr = w91 at H k5 ⊢
          go_wp2_with fail
          clear k5 hjz hjl hj
          go_loopg [13] a.acls.length (fun gh ix wr => ∃ j : Nat, j + gh = a.acls.length ∧ ix = .int .i64 j ∧ Hid (SM a b w.heap.size (w.heap.size + 1) w wr))
          case atStart => exact ⟨0, by omega, rfl, H⟩
          case round =>
            clear H
            obtain ⟨j, hj, rfl, H⟩ := hrel
            by_cases hjl : j < a.acls.length
            case pos =>
              have hjb : j < b.acls.length := by rw [HL5.out]; exact hjl
              have hsm := same_acls HP.out hjl hjb
              obtain ⟨g1, o1, d1, e1, -, hg1, R1⟩ := HU5.out.elem (n := 2) (by decide) (fun _ => rfl) hjl
              obtain ⟨g2, o2, d2, e2, -, hg2, R2⟩ := HV5.out.elem (n := 2) (by decide) (fun _ => rfl) hjb
              have n1 := NU5.out _ (List.getElem_mem hjl)
              have n2 := NV5.out _ (List.getElem_mem hjb)
              rw [EA5.out] at e1
              rw [EB5.out] at e2
              injection e1 with f1 f2 f3
              injection e2 with f4 f5 f6
              subst f1 f3 f4 f6
              have r1 := Lib.hid (rangeBelow R1 H.out.bel hg1)
              have r2 := Lib.hid (rangeBelow R2 H.out.bel hg2)
              have lb1 : g1 < wr.heap.size := Nat.lt_of_lt_of_le hg1 H.out.bel.size
              have lb2 : g2 < wr.heap.size := Nat.lt_of_lt_of_le hg2 H.out.bel.size
              have lb3 : w.heap.size < wr.heap.size := blk_lt H.out.ha
              have lb4 : w.heap.size + 1 < wr.heap.size := blk_lt H.out.hb
              have hjz : (j : Int) < (a.acls.length : Int) := by omega
              clear R1 R2 f2 f5 hg1 hg2
              generalize a.acls[j] = x at r1 n1 hsm
              generalize b.acls[j] = y at r2 n2 hsm
              obtain ⟨ynm, yv, yr⟩ := y
              obtain ⟨hs1, hs2⟩ := hsm
              dsimp only at hs1 hs2
              subst hs1 hs2
              have N1 : Hid (SlV w w.heap.size 10 Ru.C x.v x.rules) := Lib.hid n1
              have N2 : Hid (SlV w w.heap.size 10 Ru.C yv x.rules) := Lib.hid n2
              obtain ⟨Ax, cx, ex, -⟩ := n1
              obtain ⟨Ay, cy, ey, -⟩ := n2
              rw [ex] at N1
              have ey2 : yv = .slice Ay x.rules.length cy := ey
              rw [ey2] at N2
              have k1 : wr.cell? ⟨g1, o1 + j * 2, none⟩ = .some (.string (str x.name)) := r1.out 0 _ rfl
              have k2 : wr.cell? ⟨g1, o1 + j * 2 + 1, none⟩ = .some (.slice Ax x.rules.length cx) := by rw [← ex]; exact r1.out 1 _ rfl
              have k3 : wr.cell? ⟨g2, o2 + j * 2, none⟩ = .some (.string (str x.name)) := r2.out 0 _ rfl
              have k4 : wr.cell? ⟨g2, o2 + j * 2 + 1, none⟩ = .some (.slice Ay x.rules.length cy) := by rw [← ey2]; exact r2.out 1 _ rfl
              have k5 : wr.cell? ⟨w.heap.size, 5, none⟩ = .some (.slice (some ⟨g1, o1, none⟩) a.acls.length c5) := by rw [← EA5.out]; exact H.out.ha.cell 5
              have k6 : wr.cell? ⟨w.heap.size + 1, 5, none⟩ = .some (.slice (some ⟨g2, o2, none⟩) a.acls.length d5) := by rw [← EB5.out]; exact H.out.hb.cell 5
              clear r1 r2 ex ey ey2
              go_upto_region 28 with (fail)
              go_cut [14, 15] (fun x0 y0 wx => ∃ p q : Nat, x0 = .pointer (some ⟨p, 0, none⟩) ∧ y0 = .pointer (some ⟨q, 0, none⟩) ∧ SX a b w.heap.size (w.heap.size + 1) p q 113 #[.string (str x.name), .slice Ax x.rules.length cx] #[.string (str x.name), .slice Ay x.rules.length cy] w wx)
              case first =>
                have k1d : wr.drew.cell? ⟨g1, o1 + j * 2, none⟩ = .some (.string (str x.name)) := k1
                have k2d : wr.drew.cell? ⟨g1, o1 + j * 2 + 1, none⟩ = .some (.slice Ax x.rules.length cx) := k2
                have k3d : wr.drew.cell? ⟨g2, o2 + j * 2, none⟩ = .some (.string (str x.name)) := k3
                have k4d : wr.drew.cell? ⟨g2, o2 + j * 2 + 1, none⟩ = .some (.slice Ay x.rules.length cy) := k4
                have k5d : wr.drew.cell? ⟨w.heap.size, 5, none⟩ = .some (.slice (some ⟨g1, o1, none⟩) a.acls.length c5) := k5
                have k6d : wr.drew.cell? ⟨w.heap.size + 1, 5, none⟩ = .some (.slice (some ⟨g2, o2, none⟩) a.acls.length d5) := k6
                go_region_held3 (fun w' => w'.cell? ⟨g1, o1 + j * 2, none⟩ = .some (.string (str x.name)) ∧ w'.cell? ⟨g1, o1 + j * 2 + 1, none⟩ = .some (.slice Ax x.rules.length cx) ∧ w'.cell? ⟨g2, o2 + j * 2, none⟩ = .some (.string (str x.name)) ∧ w'.cell? ⟨g2, o2 + j * 2 + 1, none⟩ = .some (.slice Ay x.rules.length cy) ∧ w'.cell? ⟨w.heap.size, 5, none⟩ = .some (.slice (some ⟨g1, o1, none⟩) a.acls.length c5) ∧ w'.cell? ⟨w.heap.size + 1, 5, none⟩ = .some (.slice (some ⟨g2, o2, none⟩) a.acls.length d5)) (first | (with_reducible exact ⟨k1d, k2d, k3d, k4d, k5d, k6d⟩) | go_keep | (refine ⟨?_, ?_, ?_, ?_, ?_, ?_⟩ <;> ((repeat first | rw [World.cell?_setCell_other _ _ _ _ (by intro h; simp only [Addr.mk.injEq] at h; omega)] | rw [World.cell?_alloc_lt _ _ _ (by first | assumption | (simp; omega))]); assumption))) (fail)
                all_goals
                  go_wp2_with fail
                  go_meet
                  first | exact ⟨wr.heap.size, wr.heap.size + 1, rfl, rfl, ⟨H.out.keep (two_new wr 113 #[.string (str x.name), .slice Ax x.rules.length cx] #[.string (str x.name), .slice Ay x.rules.length cy]).2.2, (two_new wr 113 #[.string (str x.name), .slice Ax x.rules.length cx] #[.string (str x.name), .slice Ay x.rules.length cy]).1, (two_new wr 113 #[.string (str x.name), .slice Ax x.rules.length cx] #[.string (str x.name), .slice Ay x.rules.length cy]).2.1⟩⟩ | exact ⟨wr.heap.size + 1, wr.heap.size, rfl, rfl, ⟨H.out.keep (two_new wr 113 #[.string (str x.name), .slice Ay x.rules.length cy] #[.string (str x.name), .slice Ax x.rules.length cx]).2.2, (two_new wr 113 #[.string (str x.name), .slice Ay x.rules.length cy] #[.string (str x.name), .slice Ax x.rules.length cx]).2.1, (two_new wr 113 #[.string (str x.name), .slice Ay x.rules.length cy] #[.string (str x.name), .slice Ax x.rules.length cx]).1⟩⟩
              case rest =>
                obtain ⟨p, q, rfl, rfl, hx⟩ := hcut
                have HX := Lib.hid hx
                clear hx k1 k2 k3 k4 k5 k6 lb1 lb2 lb3 lb4
                have p0 : wc.cell? ⟨p, 0, none⟩ = .some (.string (str x.name)) := HX.out.hp.cell 0
                have p1 : wc.cell? ⟨p, 1, none⟩ = .some (.slice Ax x.rules.length cx) := HX.out.hp.cell 1
                have q0 : wc.cell? ⟨q, 0, none⟩ = .some (.string (str x.name)) := HX.out.hq.cell 0
                have q1 : wc.cell? ⟨q, 1, none⟩ = .some (.slice Ay x.rules.length cy) := HX.out.hq.cell 1
                have hlx : x.rules.length ≤ 9223372036854775807 := by have := N1.out.len; simp only [maxLen] at this; exact this
                have hla : a.acls.length ≤ 9223372036854775807 := by have := HU5.out.len; simp only [maxLen] at this; exact this
                go_wp2_with fail
                clear p0 p1 q0 q1 H
                go_loopg [16] x.rules.length (fun gh ix wr => ∃ i : Nat, i + gh = x.rules.length ∧ ix = .int .i64 i ∧ Hid (SX a b w.heap.size (w.heap.size + 1) p q 113 #[.string (str x.name), .slice Ax x.rules.length cx] #[.string (str x.name), .slice Ay x.rules.length cy] w wr))
                case atStart => exact ⟨0, by omega, rfl, HX⟩
                case round =>
                  clear HX
                  obtain ⟨i, hi, rfl, HX⟩ := hrel
                  by_cases hil : i < x.rules.length
                  case pos =>
                    obtain ⟨g3, o3, d3, e3, -, hg3, R3⟩ := N1.out.elem (n := 10) (by decide) (fun _ => rfl) hil
                    obtain ⟨g4, o4, d4, e4, -, hg4, R4⟩ := N2.out.elem (n := 10) (by decide) (fun _ => rfl) hil
                    injection e3 with f1 f2 f3
                    injection e4 with f4 f5 f6
                    subst f1 f3 f4 f6
                    have r3 := Lib.hid (rangeBelow R3 HX.out.sm.bel hg3)
                    have r4 := Lib.hid (rangeBelow R4 HX.out.sm.bel hg4)
                    have hiz : (i : Int) < (x.rules.length : Int) := by omega
                    have p1 : wr.cell? ⟨p, 1, none⟩ = .some (.slice (some ⟨g3, o3, none⟩) x.rules.length cx) := HX.out.hp.cell 1
                    have q1 : wr.cell? ⟨q, 1, none⟩ = .some (.slice (some ⟨g4, o4, none⟩) x.rules.length cy) := HX.out.hq.cell 1
                    generalize x.rules[i] = z at r3 r4
                    clear R3 R4 f2 f5
                    have ka0 : wr.cell? ⟨g3, o3 + i * 10, none⟩ = .some (.bool z.permit) := r3.out 0 _ rfl
                    have ka1 : wr.cell? ⟨g3, o3 + i * 10 + 1, none⟩ = .some (.int .i64 z.proto) := r3.out 1 _ rfl
                    have ka2 : wr.cell? ⟨g3, o3 + i * 10 + 2, none⟩ = .some (.int .u32 (z.sa : Int)) := r3.out 2 _ rfl
                    have ka3 : wr.cell? ⟨g3, o3 + i * 10 + 3, none⟩ = .some (.int .u32 (z.sm : Int)) := r3.out 3 _ rfl
                    have ka4 : wr.cell? ⟨g3, o3 + i * 10 + 4, none⟩ = .some (.int .u32 (z.da : Int)) := r3.out 4 _ rfl
                    have ka5 : wr.cell? ⟨g3, o3 + i * 10 + 5, none⟩ = .some (.int .u32 (z.dm : Int)) := r3.out 5 _ rfl
                    have ka6 : wr.cell? ⟨g3, o3 + i * 10 + 6, none⟩ = .some (.int .i64 z.slo) := r3.out 6 _ rfl
                    have ka7 : wr.cell? ⟨g3, o3 + i * 10 + 7, none⟩ = .some (.int .i64 z.shi) := r3.out 7 _ rfl
                    have ka8 : wr.cell? ⟨g3, o3 + i * 10 + 8, none⟩ = .some (.int .i64 z.dlo) := r3.out 8 _ rfl
                    have ka9 : wr.cell? ⟨g3, o3 + i * 10 + 9, none⟩ = .some (.int .i64 z.dhi) := r3.out 9 _ rfl
                    have kb0 : wr.cell? ⟨g4, o4 + i * 10, none⟩ = .some (.bool z.permit) := r4.out 0 _ rfl
                    have kb1 : wr.cell? ⟨g4, o4 + i * 10 + 1, none⟩ = .some (.int .i64 z.proto) := r4.out 1 _ rfl
                    have kb2 : wr.cell? ⟨g4, o4 + i * 10 + 2, none⟩ = .some (.int .u32 (z.sa : Int)) := r4.out 2 _ rfl
                    have kb3 : wr.cell? ⟨g4, o4 + i * 10 + 3, none⟩ = .some (.int .u32 (z.sm : Int)) := r4.out 3 _ rfl
                    have kb4 : wr.cell? ⟨g4, o4 + i * 10 + 4, none⟩ = .some (.int .u32 (z.da : Int)) := r4.out 4 _ rfl
                    have kb5 : wr.cell? ⟨g4, o4 + i * 10 + 5, none⟩ = .some (.int .u32 (z.dm : Int)) := r4.out 5 _ rfl
                    have kb6 : wr.cell? ⟨g4, o4 + i * 10 + 6, none⟩ = .some (.int .i64 z.slo) := r4.out 6 _ rfl
                    have kb7 : wr.cell? ⟨g4, o4 + i * 10 + 7, none⟩ = .some (.int .i64 z.shi) := r4.out 7 _ rfl
                    have kb8 : wr.cell? ⟨g4, o4 + i * 10 + 8, none⟩ = .some (.int .i64 z.dlo) := r4.out 8 _ rfl
                    have kb9 : wr.cell? ⟨g4, o4 + i * 10 + 9, none⟩ = .some (.int .i64 z.dhi) := r4.out 9 _ rfl
                    go_wp2_with fail
                    go_still (by kernel_rfl)
                    go_wp2_with fail
                    go_roundg (x.rules.length - (i + 1))
                    case measure => omega
                    case rel => exact ⟨i + 1, by omega, by go_num, Lib.hid (HX.out.keep (drew_below wr))⟩
                  case neg =>
                    have hiz : ¬ ((i : Int) < (x.rules.length : Int)) := by omega
                    have p1 : wr.cell? ⟨p, 1, none⟩ = .some (.slice Ax x.rules.length cx) := HX.out.hp.cell 1
                    go_wp2_with fail
                    go_roundg (a.acls.length - (j + 1))
                    case measure => omega
                    case rel => exact ⟨j + 1, by omega, by go_num, Lib.hid HX.out.sm⟩
            case neg =>
              have hjz : ¬ ((j : Int) < (a.acls.length : Int)) := by omega
              have k5 : wr.cell? ⟨w.heap.size, 5, none⟩ = .some (.slice A5 a.acls.length c5) := by rw [← EA5.out]; exact H.out.ha.cell 5
              go_wp2_with fail
              go_ret
              exact ⟨rfl, H.out.bel⟩
end Go.Proofs.YtmddfkpkddemnaaGreatDoor
