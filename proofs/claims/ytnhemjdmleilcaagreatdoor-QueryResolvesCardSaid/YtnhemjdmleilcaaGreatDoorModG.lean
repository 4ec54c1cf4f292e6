/- The walk of checkFilters. Condition: the router lies in memory. -/
import Derived.Test.YtnhemjdmleilcaaGreatDoorModF
namespace Go.Proofs.YtnhemjdmleilcaaGreatDoor
open Go.RowKit

/-- A name that no list has. -/
def lacksB {α : Type} (name : α → List UInt8) (l : List α) (n : List UInt8) : Bool := !n.isEmpty && decide (idxF (fun y => name y == n) l 0 < 0)
def filtE (acls : List AList) (x : If) : Int := if lacksB (·.name) acls x.inn || lacksB (·.name) acls x.out then 5 else 0
theorem ne_str {l : List UInt8} (h : l ≠ []) : l.isEmpty = false ∧ ((str l).toList == []) = false ∧ ((str l).toList != []) = true := by
  rw [toList_str]
  cases l with
  | nil => exact absurd rfl h
  | cons => exact ⟨rfl, rfl, rfl⟩
set_option maxRecDepth 100000 in
set_option maxHeartbeats 2000000 in
theorem checkFilters_any (r : Rt) (w : World) (B : Nat) (h : r.at w B) (hB : B ≤ w.heap.size) : Calls Tryz.prog 37 #[.agg r.C] w fun e w' => e = .returned (.int .i64 (firstE (filtE r.acls) r.ifs)) ∧ Below w.heap.size w w' := by
  have H0 := Lib.hid (RB.start r w)
  have HR := Lib.hid h
  have HBB := Lib.hid hB
  obtain ⟨A, c, hv, hle, -⟩ := h.hifs
  have HL : Hid (∀ w', RB r w w' → w'.cell? ⟨w.heap.size, 2, none⟩ = some (.slice A r.ifs.length c)) := Lib.hid (fun w' h => by rw [← hv]; exact h.h.cell 2)
  have HV := Lib.hid hv
  have hlen : r.ifs.length ≤ 9223372036854775807 := by have := h.hifs.len; simp only [maxLen] at this; exact Nat.le_trans this (by omega)
  clear h hv hB
  have c2 := HL.out _ H0.out
  obtain ⟨res, hres⟩ : ∃ res, firstE (filtE r.acls) r.ifs = res := ⟨_, rfl⟩
  rw [hres]
  go_enter Tryz.func37, Tryz.ntmps37
  go_wp2_with fail
  clear c2
  go_loopg [8] r.ifs.length (fun gh ix wr => ∃ k : Nat, k + gh = r.ifs.length ∧ ix = .int .i64 k ∧ Hid (RB r w wr) ∧ Hid (firstE (filtE r.acls) (r.ifs.drop k) = res))
  case atStart => exact ⟨0, by omega, rfl, H0, Lib.hid hres⟩
  case round =>
    obtain ⟨k, hk, rfl, HW, HG⟩ := hrel
    clear H0 hres
    by_cases hlt : k < r.ifs.length
    case neg =>
      have E := Lib.hid (firstE_end hlt HG.out)
      go_wp2_with fail
      go_ret
      exact ⟨ret_int E.out.symm, HW.out.b⟩
    have HAT := Lib.hid (firstE_at hlt HG.out)
    obtain ⟨g, o, c', e', -, hg, R0⟩ := (HR.out.hifs).elem (n := 12) (by decide) (fun _ => rfl) hlt
    rw [HV.out] at e'
    injection e' with e1 e2 e3
    subst e1 e3
    have r1 := Lib.hid (rangeBelow R0 (HW.out.b.mono HBB.out) hg)
    clear R0 HG e2
    generalize r.ifs[k] = x at HAT r1
    go_upto_region 4 with (first | (refine wpList_loadRow rfl 99 _ rfl rfl r1.out Tryz.rowIf Tryz.sizeIf ?_) | (refine wpList_storeRow rfl 99 _ _ rfl rfl rfl (HasC.new wr _ _) rfl Tryz.sizeIf (If.one x) ?_; intro w5 hz1 hz2))
    have H5 := Lib.hid (HW.out.keep (new_below hz2))
    have Y5 := hz1
    clear hz1 hz2 r1 HW
    generalize wr.heap.size = gy at Y5 ⊢
    replace Y5 := Lib.hid Y5
    obtain ⟨name, addr, len, vlan, down, ls, area, cost, dv, inn, out, side⟩ := x
    have PE : Hid (filtE r.acls ⟨name, addr, len, vlan, down, ls, area, cost, dv, inn, out, side⟩ = if lacksB (·.name) r.acls inn || lacksB (·.name) r.acls out then 5 else 0) := Lib.hid rfl
    generalize filtE r.acls ⟨name, addr, len, vlan, down, ls, area, cost, dv, inn, out, side⟩ = fx at PE HAT
    have PI : Hid (lacksB (·.name) r.acls inn = (!inn.isEmpty && decide (idxF (fun y => y.name == inn) r.acls 0 < 0))) := Lib.hid rfl
    have PO : Hid (lacksB (·.name) r.acls out = (!out.isEmpty && decide (idxF (fun y => y.name == out) r.acls 0 < 0))) := Lib.hid rfl
    have PN := Lib.hid (fun nm w1 (h1 : RB r w w1) => aCL_any r nm w1 B (HR.out.below (h1.b.mono HBB.out)) (Nat.le_trans HBB.out h1.b.size))
    have Y9 : Hid (∀ w', HasC 99 gy (If.C ⟨name, addr, len, vlan, down, ls, area, cost, dv, inn, out, side⟩) w' → w'.cell? ⟨gy, 9, none⟩ = some (.string (str inn)) ∧ w'.cell? ⟨gy, 10, none⟩ = some (.string (str out))) := Lib.hid (fun w' h => ⟨h.cell 9, h.cell 10⟩)
    generalize If.C ⟨name, addr, len, vlan, down, ls, area, cost, dv, inn, out, side⟩ = cx at *
    by_cases hi : inn = []
    · subst hi
      have ti := toList_str ([] : List UInt8)
      have EI : Hid (lacksB (·.name) r.acls ([] : List UInt8) = false) := Lib.hid rfl
      obtain ⟨y9, y10⟩ := Y9.out _ Y5.out
      by_cases ho : out = []
      · subst ho
        have tto := toList_str ([] : List UInt8)
        have E0 : Hid (fx = 0) := Lib.hid (by rw [PE.out, EI.out]; rfl)
        have E : Hid (firstE (filtE r.acls) (r.ifs.drop (k + 1)) = res) := Lib.hid (inner_next HAT.out E0.out)
        go_wp2_with fail
        go_roundg (r.ifs.length - (k + 1))
        case measure => omega
        case rel => exact ⟨k + 1, by omega, by go_num, H5, E⟩
      obtain ⟨o1, o2, o3⟩ := ne_str ho
      go_wp2_with (first | (refine wpList_unguard (by rfl) (wpList_loadRow rfl 69 _ rfl rfl H5.out.h.range Tryz.rowRt Tryz.sizeRt ?_)))
      with_reducible refine (PN.out out _ H5.out).mono ?_
      rintro e w7 ⟨rfl, hb⟩
      have H7 := Lib.hid (H5.out.keep hb)
      clear hb y9 y10
      by_cases hd2 : idxF (fun y => y.name == out) r.acls 0 < 0
      · have di2 := decide_eq_true hd2
        have EO : Hid (lacksB (·.name) r.acls out = true) := Lib.hid (by rw [PO.out, o1, di2]; rfl)
        have E : Hid (res = 5) := Lib.hid (by rw [HAT.out, PE.out, EO.out, EI.out]; rfl)
        clear hd2
        go_wp2_with fail
        go_ret
        exact ⟨ret_int E.out.symm, H7.out.b⟩
      have di2 := decide_eq_false hd2
      have EO : Hid (lacksB (·.name) r.acls out = false) := Lib.hid (by rw [PO.out, o1, di2]; rfl)
      have E0 : Hid (fx = 0) := Lib.hid (by rw [PE.out, EI.out, EO.out]; rfl)
      have E : Hid (firstE (filtE r.acls) (r.ifs.drop (k + 1)) = res) := Lib.hid (inner_next HAT.out E0.out)
      clear hd2
      go_wp2_with fail
      go_roundg (r.ifs.length - (k + 1))
      case measure => omega
      case rel => exact ⟨k + 1, by omega, by go_num, H7, E⟩
    obtain ⟨i1, i2, i3⟩ := ne_str hi
    obtain ⟨y9, y10⟩ := Y9.out _ Y5.out
    go_wp2_with (first | (refine wpList_unguard (by rfl) (wpList_loadRow rfl 69 _ rfl rfl H5.out.h.range Tryz.rowRt Tryz.sizeRt ?_)))
    with_reducible refine (PN.out inn _ H5.out).mono ?_
    rintro e w6 ⟨rfl, hb⟩
    have H6 := Lib.hid (H5.out.keep hb)
    have Y6 := Lib.hid (Y5.out.keep hb)
    clear hb y9 y10
    by_cases hd : idxF (fun y => y.name == inn) r.acls 0 < 0
    · have di := decide_eq_true hd
      have EI : Hid (lacksB (·.name) r.acls inn = true) := Lib.hid (by rw [PI.out, i1, di]; rfl)
      have E : Hid (res = 5) := Lib.hid (by rw [HAT.out, PE.out, EI.out]; rfl)
      clear hd
      go_wp2_with fail
      go_ret
      exact ⟨ret_int E.out.symm, H6.out.b⟩
    have di := decide_eq_false hd
    have EI : Hid (lacksB (·.name) r.acls inn = false) := Lib.hid (by rw [PI.out, i1, di]; rfl)
    clear hd
    obtain ⟨y9, y10⟩ := Y9.out _ Y6.out
    by_cases ho : out = []
    · subst ho
      have tto := toList_str ([] : List UInt8)
      have E0 : Hid (fx = 0) := Lib.hid (by rw [PE.out, EI.out]; rfl)
      have E : Hid (firstE (filtE r.acls) (r.ifs.drop (k + 1)) = res) := Lib.hid (inner_next HAT.out E0.out)
      go_wp2_with fail
      go_roundg (r.ifs.length - (k + 1))
      case measure => omega
      case rel => exact ⟨k + 1, by omega, by go_num, H6, E⟩
    obtain ⟨o1, o2, o3⟩ := ne_str ho
    go_wp2_with (first | (refine wpList_unguard (by rfl) (wpList_loadRow rfl 69 _ rfl rfl H6.out.h.range Tryz.rowRt Tryz.sizeRt ?_)))
    with_reducible refine (PN.out out _ H6.out).mono ?_
    rintro e w7 ⟨rfl, hb⟩
    have H7 := Lib.hid (H6.out.keep hb)
    clear hb y9 y10
    by_cases hd2 : idxF (fun y => y.name == out) r.acls 0 < 0
    · have di2 := decide_eq_true hd2
      have EO : Hid (lacksB (·.name) r.acls out = true) := Lib.hid (by rw [PO.out, o1, di2]; rfl)
      have E : Hid (res = 5) := Lib.hid (by rw [HAT.out, PE.out, EO.out, EI.out]; rfl)
      clear hd2
      go_wp2_with fail
      go_ret
      exact ⟨ret_int E.out.symm, H7.out.b⟩
    have di2 := decide_eq_false hd2
    have EO : Hid (lacksB (·.name) r.acls out = false) := Lib.hid (by rw [PO.out, o1, di2]; rfl)
    have E0 : Hid (fx = 0) := Lib.hid (by rw [PE.out, EI.out, EO.out]; rfl)
    have E : Hid (firstE (filtE r.acls) (r.ifs.drop (k + 1)) = res) := Lib.hid (inner_next HAT.out E0.out)
    clear hd2
    go_wp2_with fail
    go_roundg (r.ifs.length - (k + 1))
    case measure => omega
    case rel => exact ⟨k + 1, by omega, by go_num, H7, E⟩
end Go.Proofs.YtnhemjdmleilcaaGreatDoor
