/- The walks of rightTranslation and checkNAT. Condition: the router lies in memory. -/
import Derived.Test.YtnhemjdmleilcaaGreatDoorModH
namespace Go.Proofs.YtnhemjdmleilcaaGreatDoor
open Go.RowKit

theorem u32_sub_nat (a b : Nat) (h : b ≤ a) (ha : a < 4294967296) : IntKind.u32.wrap ((a : Int) - (b : Int)) = ((a - b : Nat) : Int) := by
  have : IntKind.u32.wrap ((a : Int) - (b : Int)) = ((a : Int) - b) % 4294967296 := by simp [IntKind.wrap, IntKind.signed, IntKind.bits]
  omega
set_option maxRecDepth 8000 in
set_option maxHeartbeats 8000000 in
theorem rightTr_one (ins outs : Nat) (proto iport oport : Int) (list : List UInt8) (lo hi : Nat) (w : World) : Calls Tryz.prog 78 #[.agg #[.int .i64 1, .int .u32 (ins : Int), .int .u32 (outs : Int), .int .i64 proto, .int .i64 iport, .int .i64 oport, .string (str list), .int .u32 (lo : Int), .int .u32 (hi : Int)]] w fun e w' => e = .returned (.bool (rightTr ⟨1, ins, outs, proto, iport, oport, list, lo, hi⟩)) ∧ Below w.heap.size w w' := by
  have B0 := Lib.hid (fun o o2 => ((Below.refl w.heap.size w).alloc (Nat.le_refl _) o).alloc (by simp) o2)
  have g := Tryz.trGuard
  have E : Hid (rightTr ⟨1, ins, outs, proto, iport, oport, list, lo, hi⟩ = (proto == 0 && iport == 0 && oport == 0 && list.isEmpty && lo == 0 && hi == 0 && !(ins == 0) && !(outs == 0))) := Lib.hid rfl
  generalize rightTr ⟨1, ins, outs, proto, iport, oport, list, lo, hi⟩ = res at E ⊢
  by_cases h1 : proto = 0
  · subst h1
    by_cases h2 : iport = 0
    · subst h2
      by_cases h3 : oport = 0
      · subst h3
        have h4t := toList_str list
        cases list with
        | nil =>
          by_cases h5 : lo = 0
          · subst h5
            by_cases h6 : hi = 0
            · subst h6
              by_cases h7 : ins = 0
              · subst h7
                go_enter Tryz.func78, Tryz.ntmps78
                go_wp2_with fail
                all_goals (go_ret; exact ⟨ret_bool (by rw [E.out]; first | (simp [*]; done) | (simp [*]; omega)), B0.out _ _⟩)
              · have h7a : ((ins : Int) == 0) = false := by simp; omega
                have h7b : ((ins : Int) != 0) = true := by simp; omega
                have h7c : (ins == 0) = false := by simpa using h7
                by_cases h8 : outs = 0
                · subst h8
                  go_enter Tryz.func78, Tryz.ntmps78
                  go_wp2_with fail
                  all_goals (go_ret; exact ⟨ret_bool (by rw [E.out]; first | (simp [*]; done) | (simp [*]; omega)), B0.out _ _⟩)
                · have h8a : ((outs : Int) == 0) = false := by simp; omega
                  have h8b : ((outs : Int) != 0) = true := by simp; omega
                  have h8c : (outs == 0) = false := by simpa using h8
                  go_enter Tryz.func78, Tryz.ntmps78
                  go_wp2_with fail
                  all_goals (go_ret; exact ⟨ret_bool (by rw [E.out]; first | (simp [*]; done) | (simp [*]; omega)), B0.out _ _⟩)
            · have h6a : ((hi : Int) == 0) = false := by simp; omega
              have h6b : ((hi : Int) != 0) = true := by simp; omega
              have h6c : (hi == 0) = false := by simpa using h6
              go_enter Tryz.func78, Tryz.ntmps78
              go_wp2_with fail
              all_goals (go_ret; exact ⟨ret_bool (by rw [E.out]; first | (simp [*]; done) | (simp [*]; omega)), B0.out _ _⟩)
          · have h5a : ((lo : Int) == 0) = false := by simp; omega
            have h5b : ((lo : Int) != 0) = true := by simp; omega
            have h5c : (lo == 0) = false := by simpa using h5
            go_enter Tryz.func78, Tryz.ntmps78
            go_wp2_with fail
            all_goals (go_ret; exact ⟨ret_bool (by rw [E.out]; first | (simp [*]; done) | (simp [*]; omega)), B0.out _ _⟩)
        | cons c8 k8 =>
          go_enter Tryz.func78, Tryz.ntmps78
          go_wp2_with fail
          all_goals (go_ret; exact ⟨ret_bool (by rw [E.out]; first | (simp [*]; done) | (simp [*]; omega)), B0.out _ _⟩)
      · have h3a : (oport == 0) = false := by simpa using h3
        have h3b : (oport != 0) = true := by simpa using h3
        go_enter Tryz.func78, Tryz.ntmps78
        go_wp2_with fail
        all_goals (go_ret; exact ⟨ret_bool (by rw [E.out]; first | (simp [*]; done) | (simp [*]; omega)), B0.out _ _⟩)
    · have h2a : (iport == 0) = false := by simpa using h2
      have h2b : (iport != 0) = true := by simpa using h2
      go_enter Tryz.func78, Tryz.ntmps78
      go_wp2_with fail
      all_goals (go_ret; exact ⟨ret_bool (by rw [E.out]; first | (simp [*]; done) | (simp [*]; omega)), B0.out _ _⟩)
  · have h1a : (proto == 0) = false := by simpa using h1
    have h1b : (proto != 0) = true := by simpa using h1
    go_enter Tryz.func78, Tryz.ntmps78
    go_wp2_with fail
    all_goals (go_ret; exact ⟨ret_bool (by rw [E.out]; first | (simp [*]; done) | (simp [*]; omega)), B0.out _ _⟩)
set_option maxRecDepth 8000 in
set_option maxHeartbeats 8000000 in
theorem rightTr_two (ins outs : Nat) (proto iport oport : Int) (list : List UInt8) (lo hi : Nat) (hh : hi < 4294967296) (w : World) : Calls Tryz.prog 78 #[.agg #[.int .i64 2, .int .u32 (ins : Int), .int .u32 (outs : Int), .int .i64 proto, .int .i64 iport, .int .i64 oport, .string (str list), .int .u32 (lo : Int), .int .u32 (hi : Int)]] w fun e w' => e = .returned (.bool (rightTr ⟨2, ins, outs, proto, iport, oport, list, lo, hi⟩)) ∧ Below w.heap.size w w' := by
  have B0 := Lib.hid (fun o o2 => ((Below.refl w.heap.size w).alloc (Nat.le_refl _) o).alloc (by simp) o2)
  have g := Tryz.trGuard
  have E : Hid (rightTr ⟨2, ins, outs, proto, iport, oport, list, lo, hi⟩ = (ins == 0 && outs == 0 && proto == 0 && iport == 0 && oport == 0 && !(lo == 0) && decide (lo ≤ hi) && decide (hi - lo < 8))) := Lib.hid rfl
  generalize rightTr ⟨2, ins, outs, proto, iport, oport, list, lo, hi⟩ = res at E ⊢
  by_cases h1 : ins = 0
  · subst h1
    by_cases h2 : outs = 0
    · subst h2
      by_cases h3 : proto = 0
      · subst h3
        by_cases h4 : iport = 0
        · subst h4
          by_cases h5 : oport = 0
          · subst h5
            by_cases h6 : lo = 0
            · subst h6
              go_enter Tryz.func78, Tryz.ntmps78
              go_wp2_with fail
              all_goals (go_ret; exact ⟨ret_bool (by rw [E.out]; first | (simp [*]; done) | (simp [*]; omega)), B0.out _ _⟩)
            · have h6a : ((lo : Int) == 0) = false := by simp; omega
              have h6b : ((lo : Int) != 0) = true := by simp; omega
              have h6c : (lo == 0) = false := by simpa using h6
              by_cases h7 : lo ≤ hi
              · have h7d := decide_eq_true h7
                have hs := u32_sub_nat hi lo (by assumption) hh
                have hle : ((lo : Int) ≤ (hi : Int)) := by omega
                by_cases h8 : hi - lo < 8
                · have h8d := decide_eq_true h8
                  go_enter Tryz.func78, Tryz.ntmps78
                  go_wp2_with fail
                  all_goals (go_ret; exact ⟨ret_bool (by rw [E.out]; first | (simp [*]; done) | (simp [*]; omega)), B0.out _ _⟩)
                · have h8d := decide_eq_false h8
                  go_enter Tryz.func78, Tryz.ntmps78
                  go_wp2_with fail
                  all_goals (go_ret; exact ⟨ret_bool (by rw [E.out]; first | (simp [*]; done) | (simp [*]; omega)), B0.out _ _⟩)
              · have h7d := decide_eq_false h7
                go_enter Tryz.func78, Tryz.ntmps78
                go_wp2_with fail
                all_goals (go_ret; exact ⟨ret_bool (by rw [E.out]; first | (simp [*]; done) | (simp [*]; omega)), B0.out _ _⟩)
          · have h5a : (oport == 0) = false := by simpa using h5
            have h5b : (oport != 0) = true := by simpa using h5
            go_enter Tryz.func78, Tryz.ntmps78
            go_wp2_with fail
            all_goals (go_ret; exact ⟨ret_bool (by rw [E.out]; first | (simp [*]; done) | (simp [*]; omega)), B0.out _ _⟩)
        · have h4a : (iport == 0) = false := by simpa using h4
          have h4b : (iport != 0) = true := by simpa using h4
          go_enter Tryz.func78, Tryz.ntmps78
          go_wp2_with fail
          all_goals (go_ret; exact ⟨ret_bool (by rw [E.out]; first | (simp [*]; done) | (simp [*]; omega)), B0.out _ _⟩)
      · have h3a : (proto == 0) = false := by simpa using h3
        have h3b : (proto != 0) = true := by simpa using h3
        go_enter Tryz.func78, Tryz.ntmps78
        go_wp2_with fail
        all_goals (go_ret; exact ⟨ret_bool (by rw [E.out]; first | (simp [*]; done) | (simp [*]; omega)), B0.out _ _⟩)
    · have h2a : ((outs : Int) == 0) = false := by simp; omega
      have h2b : ((outs : Int) != 0) = true := by simp; omega
      have h2c : (outs == 0) = false := by simpa using h2
      go_enter Tryz.func78, Tryz.ntmps78
      go_wp2_with fail
      all_goals (go_ret; exact ⟨ret_bool (by rw [E.out]; first | (simp [*]; done) | (simp [*]; omega)), B0.out _ _⟩)
  · have h1a : ((ins : Int) == 0) = false := by simp; omega
    have h1b : ((ins : Int) != 0) = true := by simp; omega
    have h1c : (ins == 0) = false := by simpa using h1
    go_enter Tryz.func78, Tryz.ntmps78
    go_wp2_with fail
    all_goals (go_ret; exact ⟨ret_bool (by rw [E.out]; first | (simp [*]; done) | (simp [*]; omega)), B0.out _ _⟩)
theorem rightTranslation_any (x : Tr) (hx : x.fit) (w : World) : Calls Tryz.prog 78 #[.agg x.C] w fun e w' => e = .returned (.bool (rightTr x)) ∧ Below w.heap.size w w' := by
  obtain ⟨kind, ins, outs, proto, iport, oport, list, lo, hi⟩ := x
  by_cases h1 : kind = 1
  · subst h1; exact rightTr_one ins outs proto iport oport list lo hi w
  by_cases h2 : kind = 2
  · subst h2; exact rightTr_two ins outs proto iport oport list lo hi hx.2.2.2 w
  by_cases h3 : kind = 3
  · subst h3; exact rightTr_three ins outs proto iport oport list lo hi w
  exact rightTr_other kind ins outs proto iport oport list lo hi w h1 h2 h3
def natE (acls : List AList) (x : Tr) : Int := if rightTr x then (if x.kind == 2 && decide (idxF (fun y => y.name == x.list) acls 0 < 0) then 5 else 0) else 1
def natsE (acls : List AList) (l : List Tr) : Int := if 8 < l.length then 7 else firstE (natE acls) l
set_option maxRecDepth 100000 in
set_option maxHeartbeats 2000000 in
theorem checkNAT_any (r : Rt) (w : World) (B : Nat) (h : r.at w B) (hB : B ≤ w.heap.size) (hf : ∀ x ∈ r.nat, x.fit) : Calls Tryz.prog 36 #[.agg r.C] w fun e w' => e = .returned (.int .i64 (natsE r.acls r.nat)) ∧ Below w.heap.size w w' := by
  have H0 := Lib.hid (RB.start r w)
  have HR := Lib.hid h
  have HF := Lib.hid hf
  have HBB := Lib.hid hB
  obtain ⟨A, c, hv, hle, -⟩ := h.hnat
  have HL : Hid (∀ w', RB r w w' → w'.cell? ⟨w.heap.size, 6, none⟩ = some (.slice A r.nat.length c)) := Lib.hid (fun w' h => by rw [← hv]; exact h.h.cell 6)
  have HV := Lib.hid hv
  clear h hf hv hB
  have c2 := HL.out _ H0.out
  obtain ⟨res, hres⟩ : ∃ res, natsE r.acls r.nat = res := ⟨_, rfl⟩
  rw [hres]
  by_cases h8 : 8 < r.nat.length
  · have E : Hid (res = 7) := Lib.hid (by rw [← hres]; exact if_pos h8)
    clear hres
    go_enter Tryz.func36, Tryz.ntmps36
    go_wp2_with fail
    go_ret
    exact ⟨ret_int E.out.symm, H0.out.b⟩
  have d8 : decide ((8 : Int) < r.nat.length) = false := by simp; omega
  have E : Hid (firstE (natE r.acls) r.nat = res) := Lib.hid (by rw [← hres]; exact (if_neg h8).symm)
  clear hres
  go_enter Tryz.func36, Tryz.ntmps36
  go_wp2_with fail
  clear c2 d8
  go_loopg [12] r.nat.length (fun gh ix wr => ∃ k : Nat, k + gh = r.nat.length ∧ ix = .int .i64 k ∧ Hid (RB r w wr) ∧ Hid (firstE (natE r.acls) (r.nat.drop k) = res))
  case atStart => exact ⟨0, by omega, rfl, H0, E⟩
  case round =>
    obtain ⟨k, hk, rfl, HW, HG⟩ := hrel
    clear H0 E
    by_cases hlt : k < r.nat.length
    case neg =>
      have E := Lib.hid (firstE_end hlt HG.out)
      go_wp2_with fail
      go_ret
      exact ⟨ret_int E.out.symm, HW.out.b⟩
    have HAT := Lib.hid (firstE_at hlt HG.out)
    obtain ⟨g, o, c', e', -, hg, R0⟩ := (HR.out.hnat).elem (n := 9) (by decide) (fun _ => rfl) hlt
    rw [HV.out] at e'
    injection e' with e1 e2 e3
    subst e1 e3
    have r1 := Lib.hid (rangeBelow R0 (HW.out.b.mono HBB.out) hg)
    have FX := Lib.hid (HF.out _ (List.getElem_mem hlt))
    clear R0 HG e2
    generalize r.nat[k] = x at HAT r1 FX
    go_wp2_with (first | (refine wpList_loadRow rfl 139 _ rfl rfl r1.out Tryz.rowTr Tryz.sizeTr ?_) | (refine wpList_storeRow rfl 139 _ _ rfl rfl rfl (HasC.new wr _ _) rfl Tryz.sizeTr (Tr.one x) ?_; intro w5 hz1 hz2) | (refine wpList_loadRow rfl 139 _ rfl rfl hz1.range Tryz.rowTr Tryz.sizeTr ?_))
    have H5 := Lib.hid (HW.out.keep (new_below hz2))
    have Y5 := hz1
    clear hz1 hz2 r1 HW
    generalize wr.heap.size = gy at Y5 ⊢
    replace Y5 := Lib.hid Y5
    refine (rightTranslation_any x FX.out _).mono ?_
    rintro e w6 ⟨rfl, hb⟩
    have H6 := Lib.hid (H5.out.keep hb)
    have Y6 := Lib.hid (Y5.out.keep hb)
    clear hb H5 Y5
    have PE : Hid (natE r.acls x = if rightTr x then (if x.kind == 2 && decide (idxF (fun y => y.name == x.list) r.acls 0 < 0) then 5 else 0) else 1) := Lib.hid rfl
    generalize natE r.acls x = fx at PE HAT
    have y0 : w6.cell? ⟨gy, 0, none⟩ = some (.int .i64 x.kind) := Y6.out.cell 0
    have y6 : w6.cell? ⟨gy, 6, none⟩ = some (.string (str x.list)) := Y6.out.cell 6
    cases hv : rightTr x with
    | false =>
      have E : Hid (res = 1) := Lib.hid (by rw [HAT.out, PE.out, hv]; rfl)
      go_wp2_with fail
      go_ret
      exact ⟨ret_int E.out.symm, H6.out.b⟩
    | true =>
    have PE2 : Hid (fx = if x.kind == 2 && decide (idxF (fun y => y.name == x.list) r.acls 0 < 0) then 5 else 0) := Lib.hid (by rw [PE.out, hv]; rfl)
    clear hv PE
    by_cases hk2 : x.kind = 2
    case neg =>
      have d2 : (x.kind == 2) = false := by simpa using hk2
      have E : Hid (firstE (natE r.acls) (r.nat.drop (k + 1)) = res) := Lib.hid (inner_next HAT.out (by rw [PE2.out, d2]; rfl))
      clear hk2
      go_wp2_with fail
      go_roundg (r.nat.length - (k + 1))
      case measure => omega
      case rel => exact ⟨k + 1, by omega, by go_num, H6, E⟩
    rw [hk2] at y0
    have PE3 : Hid (fx = if decide (idxF (fun y => y.name == x.list) r.acls 0 < 0) then 5 else 0) := Lib.hid (by rw [PE2.out, hk2]; rfl)
    clear hk2
    go_wp2_with (first | (refine wpList_unguard (by rfl) (wpList_loadRow rfl 69 _ rfl rfl H6.out.h.range Tryz.rowRt Tryz.sizeRt ?_)))
    with_reducible refine (aCL_any r x.list w6 B (HR.out.below (H6.out.b.mono HBB.out)) (Nat.le_trans HBB.out H6.out.b.size)).mono ?_
    rintro e w7 ⟨rfl, hb⟩
    have H7 := Lib.hid (H6.out.keep hb)
    clear hb y0 y6
    by_cases hd : idxF (fun y => y.name == x.list) r.acls 0 < 0
    · have di := decide_eq_true hd
      have E : Hid (res = 5) := Lib.hid (by rw [HAT.out, PE3.out, di]; rfl)
      clear hd
      go_wp2_with fail
      go_ret
      exact ⟨ret_int E.out.symm, H7.out.b⟩
    have di := decide_eq_false hd
    have E : Hid (firstE (natE r.acls) (r.nat.drop (k + 1)) = res) := Lib.hid (inner_next HAT.out (by rw [PE3.out, di]; rfl))
    clear hd
    go_wp2_with fail
    go_roundg (r.nat.length - (k + 1))
    case measure => omega
    case rel => exact ⟨k + 1, by omega, by go_num, H7, E⟩
end Go.Proofs.YtnhemjdmleilcaaGreatDoor
