/- The walk of CheckRouter. Conditions: the router lies in memory, addresses are numbers below 2^32. -/
import Derived.Test.YtnhemjdmleilcaaGreatDoorModR
import Derived.Lib.MinMax
namespace Go.Proofs.YtnhemjdmleilcaaGreatDoor
open Go.RowKit

def secsE (r : Rt) : List Int := [ifsE r.ifs, plsE r.lists, mapsE r.lists r.maps, aclsE r.acls, natsE r.acls r.nat, firstE (filtE r.acls) r.ifs, statsE r.ifs r.stat, lnkE r, dvE r, pvE r]
/-- The error of a router. -/
def routerE (r : Rt) : Int := if !nameB r.name then 3 else if !withinB r.asn 0 65535 then 1 else firstE (fun e => e) (secsE r)
set_option maxRecDepth 100000 in
set_option maxHeartbeats 8000000 in
theorem checkRouter_any (r : Rt) (w : World) (B : Nat) (h : r.at w B) (hB : B ≤ w.heap.size) (hf : r.fit) : Calls Tryz.prog 12 #[.agg r.C] w fun e w' => e = .returned (.int .i64 (routerE r)) ∧ Below w.heap.size w w' := by
  have H0 := Lib.hid (RB.start r w)
  have HR := Lib.hid h
  unfold Rt.fit at hf
  have HFT := Lib.hid hf
  have HBB := Lib.hid hB
  clear h hf hB
  have E : Hid (routerE r = if !nameB r.name then 3 else if !withinB r.asn 0 65535 then 1 else firstE (fun e => e) (secsE r)) := Lib.hid rfl
  generalize routerE r = res at E ⊢
  have c0 : (w.alloc (.cells r.C 69)).cell? ⟨w.heap.size, 0, none⟩ = some (.string (str r.name)) := H0.out.h.cell 0
  have c1 : (w.alloc (.cells r.C 69)).cell? ⟨w.heap.size, 1, none⟩ = some (.int .i64 r.asn) := H0.out.h.cell 1
  go_enter Tryz.func12, Tryz.ntmps12
  go_wp2_with fail
  generalize hwz : w.alloc (.cells r.C 69) = wz at *
  clear hwz
  refine (nameL r.name _).mono ?_
  rintro e w' ⟨rfl, rfl⟩
  cases hn : nameB r.name with
  | false =>
    go_wp2_with fail
    go_ret
    exact ⟨ret_int (by rw [E.out, hn]; rfl), H0.out.b⟩
  | true =>
  cases hw : withinB r.asn 0 65535 with
  | false =>
    go_wp2_with (go_at_call 31; refine (within_any _ _ _ _).mono ?_; rintro e w' ⟨rfl, rfl⟩)
    go_ret
    exact ⟨ret_int (by rw [E.out, hn, hw]; rfl), H0.out.b⟩
  | true =>
  have ES : Hid (firstE (fun e => e) (secsE r) = res) := Lib.hid (by rw [E.out, hn, hw]; rfl)
  clear E hn
  go_wp2_with (go_at_call 31; refine (within_any _ _ _ _).mono ?_; rintro e w' ⟨rfl, rfl⟩)
  have HC0 : Hid (HasC 70 wz.heap.size #[.func (.func 32) #[] #[], .func (.func 33) #[] #[], .func (.func 34) #[] #[], .func (.func 35) #[] #[], .func (.func 36) #[] #[], .func (.func 37) #[] #[], .func (.func 38) #[] #[], .func (.func 39) #[] #[], .func (.func 40) #[] #[], .func (.func 41) #[] #[]] (wz.alloc (.cells #[.func (.func 32) #[] #[], .func (.func 33) #[] #[], .func (.func 34) #[] #[], .func (.func 35) #[] #[], .func (.func 36) #[] #[], .func (.func 37) #[] #[], .func (.func 38) #[] #[], .func (.func 39) #[] #[], .func (.func 40) #[] #[], .func (.func 41) #[] #[]] 70))) := Lib.hid (HasC.new _ _ _)
  have H1 := Lib.hid (H0.out.keep ((Below.refl _ _).alloc (Nat.le_refl _) (.cells #[.func (.func 32) #[] #[], .func (.func 33) #[] #[], .func (.func 34) #[] #[], .func (.func 35) #[] #[], .func (.func 36) #[] #[], .func (.func 37) #[] #[], .func (.func 38) #[] #[], .func (.func 39) #[] #[], .func (.func 40) #[] #[], .func (.func 41) #[] #[]] 70)))
  clear c0 c1 hw H0
  generalize hwy : wz.alloc (.cells #[.func (.func 32) #[] #[], .func (.func 33) #[] #[], .func (.func 34) #[] #[], .func (.func 35) #[] #[], .func (.func 36) #[] #[], .func (.func 37) #[] #[], .func (.func 38) #[] #[], .func (.func 39) #[] #[], .func (.func 40) #[] #[], .func (.func 41) #[] #[]] 70) = wy at HC0 H1 ⊢
  clear hwy
  generalize wz.heap.size = gs at HC0 ⊢
  go_loopg [18] 10 (fun gh ix wr => ∃ k : Nat, k + gh = 10 ∧ ix = .int .i64 k ∧ Hid (RB r w wr) ∧ Hid (HasC 70 gs #[.func (.func 32) #[] #[], .func (.func 33) #[] #[], .func (.func 34) #[] #[], .func (.func 35) #[] #[], .func (.func 36) #[] #[], .func (.func 37) #[] #[], .func (.func 38) #[] #[], .func (.func 39) #[] #[], .func (.func 40) #[] #[], .func (.func 41) #[] #[]] wr) ∧ Hid (firstE (fun e => e) ((secsE r).drop k) = res))
  case atStart => exact ⟨0, by omega, rfl, H1, HC0, ES⟩
  case round =>
    obtain ⟨k, hk, rfl, HW, HC, HG⟩ := hrel
    clear HC0 H1 ES
    by_cases hlt : k < 10
    case neg =>
      obtain rfl : k = 10 := by omega
      have E : Hid (res = 0) := Lib.hid HG.out.symm
      go_wp2_with fail
      go_ret
      exact ⟨ret_int E.out.symm, HW.out.b⟩
    rcases (show k = 0 ∨ k = 1 ∨ k = 2 ∨ k = 3 ∨ k = 4 ∨ k = 5 ∨ k = 6 ∨ k = 7 ∨ k = 8 ∨ k = 9 by omega) with rfl | rfl | rfl | rfl | rfl | rfl | rfl | rfl | rfl | rfl
    · have ck : wr.cell? ⟨gs, 0, none⟩ = some (.func (.func 32) #[] #[]) := HC.out.cell 0
      go_wp2_with (first | (refine wpList_loadRow rfl 69 _ rfl rfl HW.out.h.range Tryz.rowRt Tryz.sizeRt ?_))
      with_reducible refine (checkInterfaces_any r wr B (HR.out.below (HW.out.b.mono HBB.out)) (Nat.le_trans HBB.out HW.out.b.size) HFT.out.1).mono ?_
      rintro e w6 ⟨rfl, hb⟩
      have H6 := Lib.hid (HW.out.keep hb)
      have HC6 := Lib.hid (HC.out.keep hb)
      clear hb HW HC ck
      obtain ⟨x, hx⟩ : ∃ x, ifsE r.ifs = x := ⟨_, rfl⟩
      have HG2 : Hid (res = if x = 0 then firstE (fun e => e) ((secsE r).drop 1) else x) := Lib.hid (by rw [← HG.out, ← hx]; rfl)
      rw [hx]
      clear hx HG
      by_cases he : x = 0
      case neg =>
        have E : Hid (res = x) := Lib.hid (by rw [HG2.out, if_neg he])
        have dn : (x != 0) = true := by simpa using he
        clear he
        go_wp2_with fail
        go_ret
        exact ⟨ret_int E.out.symm, H6.out.b⟩
      have E : Hid (firstE (fun e => e) ((secsE r).drop 1) = res) := Lib.hid (by rw [HG2.out, if_pos he])
      subst he
      go_wp2_with fail
      go_roundg 9
      case measure => omega
      case rel => exact ⟨1, by omega, by go_num, H6, HC6, E⟩
    · have ck : wr.cell? ⟨gs, 1, none⟩ = some (.func (.func 33) #[] #[]) := HC.out.cell 1
      go_wp2_with (first | (refine wpList_loadRow rfl 69 _ rfl rfl HW.out.h.range Tryz.rowRt Tryz.sizeRt ?_))
      with_reducible refine (checkPrefixLists_any r wr B (HR.out.below (HW.out.b.mono HBB.out)) (Nat.le_trans HBB.out HW.out.b.size) HFT.out.2.1).mono ?_
      rintro e w6 ⟨rfl, hb⟩
      have H6 := Lib.hid (HW.out.keep hb)
      have HC6 := Lib.hid (HC.out.keep hb)
      clear hb HW HC ck
      obtain ⟨x, hx⟩ : ∃ x, plsE r.lists = x := ⟨_, rfl⟩
      have HG2 : Hid (res = if x = 0 then firstE (fun e => e) ((secsE r).drop 2) else x) := Lib.hid (by rw [← HG.out, ← hx]; rfl)
      rw [hx]
      clear hx HG
      by_cases he : x = 0
      case neg =>
        have E : Hid (res = x) := Lib.hid (by rw [HG2.out, if_neg he])
        have dn : (x != 0) = true := by simpa using he
        clear he
        go_wp2_with fail
        go_ret
        exact ⟨ret_int E.out.symm, H6.out.b⟩
      have E : Hid (firstE (fun e => e) ((secsE r).drop 2) = res) := Lib.hid (by rw [HG2.out, if_pos he])
      subst he
      go_wp2_with fail
      go_roundg 8
      case measure => omega
      case rel => exact ⟨2, by omega, by go_num, H6, HC6, E⟩
    · have ck : wr.cell? ⟨gs, 2, none⟩ = some (.func (.func 34) #[] #[]) := HC.out.cell 2
      go_wp2_with (first | (refine wpList_loadRow rfl 69 _ rfl rfl HW.out.h.range Tryz.rowRt Tryz.sizeRt ?_))
      with_reducible refine (checkRouteMaps_any r wr B (HR.out.below (HW.out.b.mono HBB.out)) (Nat.le_trans HBB.out HW.out.b.size) ).mono ?_
      rintro e w6 ⟨rfl, hb⟩
      have H6 := Lib.hid (HW.out.keep hb)
      have HC6 := Lib.hid (HC.out.keep hb)
      clear hb HW HC ck
      obtain ⟨x, hx⟩ : ∃ x, mapsE r.lists r.maps = x := ⟨_, rfl⟩
      have HG2 : Hid (res = if x = 0 then firstE (fun e => e) ((secsE r).drop 3) else x) := Lib.hid (by rw [← HG.out, ← hx]; rfl)
      rw [hx]
      clear hx HG
      by_cases he : x = 0
      case neg =>
        have E : Hid (res = x) := Lib.hid (by rw [HG2.out, if_neg he])
        have dn : (x != 0) = true := by simpa using he
        clear he
        go_wp2_with fail
        go_ret
        exact ⟨ret_int E.out.symm, H6.out.b⟩
      have E : Hid (firstE (fun e => e) ((secsE r).drop 3) = res) := Lib.hid (by rw [HG2.out, if_pos he])
      subst he
      go_wp2_with fail
      go_roundg 7
      case measure => omega
      case rel => exact ⟨3, by omega, by go_num, H6, HC6, E⟩
    · have ck : wr.cell? ⟨gs, 3, none⟩ = some (.func (.func 35) #[] #[]) := HC.out.cell 3
      go_wp2_with (first | (refine wpList_loadRow rfl 69 _ rfl rfl HW.out.h.range Tryz.rowRt Tryz.sizeRt ?_))
      with_reducible refine (checkACLs_any r wr B (HR.out.below (HW.out.b.mono HBB.out)) (Nat.le_trans HBB.out HW.out.b.size) HFT.out.2.2.2.1).mono ?_
      rintro e w6 ⟨rfl, hb⟩
      have H6 := Lib.hid (HW.out.keep hb)
      have HC6 := Lib.hid (HC.out.keep hb)
      clear hb HW HC ck
      obtain ⟨x, hx⟩ : ∃ x, aclsE r.acls = x := ⟨_, rfl⟩
      have HG2 : Hid (res = if x = 0 then firstE (fun e => e) ((secsE r).drop 4) else x) := Lib.hid (by rw [← HG.out, ← hx]; rfl)
      rw [hx]
      clear hx HG
      by_cases he : x = 0
      case neg =>
        have E : Hid (res = x) := Lib.hid (by rw [HG2.out, if_neg he])
        have dn : (x != 0) = true := by simpa using he
        clear he
        go_wp2_with fail
        go_ret
        exact ⟨ret_int E.out.symm, H6.out.b⟩
      have E : Hid (firstE (fun e => e) ((secsE r).drop 4) = res) := Lib.hid (by rw [HG2.out, if_pos he])
      subst he
      go_wp2_with fail
      go_roundg 6
      case measure => omega
      case rel => exact ⟨4, by omega, by go_num, H6, HC6, E⟩
    · have ck : wr.cell? ⟨gs, 4, none⟩ = some (.func (.func 36) #[] #[]) := HC.out.cell 4
      go_wp2_with (first | (refine wpList_loadRow rfl 69 _ rfl rfl HW.out.h.range Tryz.rowRt Tryz.sizeRt ?_))
      with_reducible refine (checkNAT_any r wr B (HR.out.below (HW.out.b.mono HBB.out)) (Nat.le_trans HBB.out HW.out.b.size) HFT.out.2.2.2.2.1).mono ?_
      rintro e w6 ⟨rfl, hb⟩
      have H6 := Lib.hid (HW.out.keep hb)
      have HC6 := Lib.hid (HC.out.keep hb)
      clear hb HW HC ck
      obtain ⟨x, hx⟩ : ∃ x, natsE r.acls r.nat = x := ⟨_, rfl⟩
      have HG2 : Hid (res = if x = 0 then firstE (fun e => e) ((secsE r).drop 5) else x) := Lib.hid (by rw [← HG.out, ← hx]; rfl)
      rw [hx]
      clear hx HG
      by_cases he : x = 0
      case neg =>
        have E : Hid (res = x) := Lib.hid (by rw [HG2.out, if_neg he])
        have dn : (x != 0) = true := by simpa using he
        clear he
        go_wp2_with fail
        go_ret
        exact ⟨ret_int E.out.symm, H6.out.b⟩
      have E : Hid (firstE (fun e => e) ((secsE r).drop 5) = res) := Lib.hid (by rw [HG2.out, if_pos he])
      subst he
      go_wp2_with fail
      go_roundg 5
      case measure => omega
      case rel => exact ⟨5, by omega, by go_num, H6, HC6, E⟩
    · have ck : wr.cell? ⟨gs, 5, none⟩ = some (.func (.func 37) #[] #[]) := HC.out.cell 5
      go_wp2_with (first | (refine wpList_loadRow rfl 69 _ rfl rfl HW.out.h.range Tryz.rowRt Tryz.sizeRt ?_))
      with_reducible refine (checkFilters_any r wr B (HR.out.below (HW.out.b.mono HBB.out)) (Nat.le_trans HBB.out HW.out.b.size) ).mono ?_
      rintro e w6 ⟨rfl, hb⟩
      have H6 := Lib.hid (HW.out.keep hb)
      have HC6 := Lib.hid (HC.out.keep hb)
      clear hb HW HC ck
      obtain ⟨x, hx⟩ : ∃ x, firstE (filtE r.acls) r.ifs = x := ⟨_, rfl⟩
      have HG2 : Hid (res = if x = 0 then firstE (fun e => e) ((secsE r).drop 6) else x) := Lib.hid (by rw [← HG.out, ← hx]; rfl)
      rw [hx]
      clear hx HG
      by_cases he : x = 0
      case neg =>
        have E : Hid (res = x) := Lib.hid (by rw [HG2.out, if_neg he])
        have dn : (x != 0) = true := by simpa using he
        clear he
        go_wp2_with fail
        go_ret
        exact ⟨ret_int E.out.symm, H6.out.b⟩
      have E : Hid (firstE (fun e => e) ((secsE r).drop 6) = res) := Lib.hid (by rw [HG2.out, if_pos he])
      subst he
      go_wp2_with fail
      go_roundg 4
      case measure => omega
      case rel => exact ⟨6, by omega, by go_num, H6, HC6, E⟩
    · have ck : wr.cell? ⟨gs, 6, none⟩ = some (.func (.func 38) #[] #[]) := HC.out.cell 6
      go_wp2_with (first | (refine wpList_loadRow rfl 69 _ rfl rfl HW.out.h.range Tryz.rowRt Tryz.sizeRt ?_))
      with_reducible refine (checkStatics_any r wr B (HR.out.below (HW.out.b.mono HBB.out)) (Nat.le_trans HBB.out HW.out.b.size) HFT.out.2.2.2.2.2.1).mono ?_
      rintro e w6 ⟨rfl, hb⟩
      have H6 := Lib.hid (HW.out.keep hb)
      have HC6 := Lib.hid (HC.out.keep hb)
      clear hb HW HC ck
      obtain ⟨x, hx⟩ : ∃ x, statsE r.ifs r.stat = x := ⟨_, rfl⟩
      have HG2 : Hid (res = if x = 0 then firstE (fun e => e) ((secsE r).drop 7) else x) := Lib.hid (by rw [← HG.out, ← hx]; rfl)
      rw [hx]
      clear hx HG
      by_cases he : x = 0
      case neg =>
        have E : Hid (res = x) := Lib.hid (by rw [HG2.out, if_neg he])
        have dn : (x != 0) = true := by simpa using he
        clear he
        go_wp2_with fail
        go_ret
        exact ⟨ret_int E.out.symm, H6.out.b⟩
      have E : Hid (firstE (fun e => e) ((secsE r).drop 7) = res) := Lib.hid (by rw [HG2.out, if_pos he])
      subst he
      go_wp2_with fail
      go_roundg 3
      case measure => omega
      case rel => exact ⟨7, by omega, by go_num, H6, HC6, E⟩
    · have ck : wr.cell? ⟨gs, 7, none⟩ = some (.func (.func 39) #[] #[]) := HC.out.cell 7
      go_wp2_with (first | (refine wpList_loadRow rfl 69 _ rfl rfl HW.out.h.range Tryz.rowRt Tryz.sizeRt ?_))
      with_reducible refine (checkLinkState_any r wr B (HR.out.below (HW.out.b.mono HBB.out)) (Nat.le_trans HBB.out HW.out.b.size) HFT.out.2.2.2.2.2.2.1).mono ?_
      rintro e w6 ⟨rfl, hb⟩
      have H6 := Lib.hid (HW.out.keep hb)
      have HC6 := Lib.hid (HC.out.keep hb)
      clear hb HW HC ck
      obtain ⟨x, hx⟩ : ∃ x, lnkE r = x := ⟨_, rfl⟩
      have HG2 : Hid (res = if x = 0 then firstE (fun e => e) ((secsE r).drop 8) else x) := Lib.hid (by rw [← HG.out, ← hx]; rfl)
      rw [hx]
      clear hx HG
      by_cases he : x = 0
      case neg =>
        have E : Hid (res = x) := Lib.hid (by rw [HG2.out, if_neg he])
        have dn : (x != 0) = true := by simpa using he
        clear he
        go_wp2_with fail
        go_ret
        exact ⟨ret_int E.out.symm, H6.out.b⟩
      have E : Hid (firstE (fun e => e) ((secsE r).drop 8) = res) := Lib.hid (by rw [HG2.out, if_pos he])
      subst he
      go_wp2_with fail
      go_roundg 2
      case measure => omega
      case rel => exact ⟨8, by omega, by go_num, H6, HC6, E⟩
    · have ck : wr.cell? ⟨gs, 8, none⟩ = some (.func (.func 40) #[] #[]) := HC.out.cell 8
      go_wp2_with (first | (refine wpList_loadRow rfl 69 _ rfl rfl HW.out.h.range Tryz.rowRt Tryz.sizeRt ?_))
      with_reducible refine (checkDistanceVector_any r wr B (HR.out.below (HW.out.b.mono HBB.out)) (Nat.le_trans HBB.out HW.out.b.size) ).mono ?_
      rintro e w6 ⟨rfl, hb⟩
      have H6 := Lib.hid (HW.out.keep hb)
      have HC6 := Lib.hid (HC.out.keep hb)
      clear hb HW HC ck
      obtain ⟨x, hx⟩ : ∃ x, dvE r = x := ⟨_, rfl⟩
      have HG2 : Hid (res = if x = 0 then firstE (fun e => e) ((secsE r).drop 9) else x) := Lib.hid (by rw [← HG.out, ← hx]; rfl)
      rw [hx]
      clear hx HG
      by_cases he : x = 0
      case neg =>
        have E : Hid (res = x) := Lib.hid (by rw [HG2.out, if_neg he])
        have dn : (x != 0) = true := by simpa using he
        clear he
        go_wp2_with fail
        go_ret
        exact ⟨ret_int E.out.symm, H6.out.b⟩
      have E : Hid (firstE (fun e => e) ((secsE r).drop 9) = res) := Lib.hid (by rw [HG2.out, if_pos he])
      subst he
      go_wp2_with fail
      go_roundg 1
      case measure => omega
      case rel => exact ⟨9, by omega, by go_num, H6, HC6, E⟩
    · have ck : wr.cell? ⟨gs, 9, none⟩ = some (.func (.func 41) #[] #[]) := HC.out.cell 9
      go_wp2_with (first | (refine wpList_loadRow rfl 69 _ rfl rfl HW.out.h.range Tryz.rowRt Tryz.sizeRt ?_))
      with_reducible refine (checkPathVector_any r wr B (HR.out.below (HW.out.b.mono HBB.out)) (Nat.le_trans HBB.out HW.out.b.size) HFT.out.2.2.2.2.2.2.2.2.2.2.1 HFT.out.2.2.2.2.2.2.2.2.2.2.2.1 HFT.out.2.2.2.2.2.2.2.2.2.2.2.2.1).mono ?_
      rintro e w6 ⟨rfl, hb⟩
      have H6 := Lib.hid (HW.out.keep hb)
      have HC6 := Lib.hid (HC.out.keep hb)
      clear hb HW HC ck
      obtain ⟨x, hx⟩ : ∃ x, pvE r = x := ⟨_, rfl⟩
      have HG2 : Hid (res = if x = 0 then firstE (fun e => e) ((secsE r).drop 10) else x) := Lib.hid (by rw [← HG.out, ← hx]; rfl)
      rw [hx]
      clear hx HG
      by_cases he : x = 0
      case neg =>
        have E : Hid (res = x) := Lib.hid (by rw [HG2.out, if_neg he])
        have dn : (x != 0) = true := by simpa using he
        clear he
        go_wp2_with fail
        go_ret
        exact ⟨ret_int E.out.symm, H6.out.b⟩
      have E : Hid (firstE (fun e => e) ((secsE r).drop 10) = res) := Lib.hid (by rw [HG2.out, if_pos he])
      subst he
      go_wp2_with fail
      go_roundg 0
      case measure => omega
      case rel => exact ⟨10, by omega, by go_num, H6, HC6, E⟩
end Go.Proofs.YtnhemjdmleilcaaGreatDoor
