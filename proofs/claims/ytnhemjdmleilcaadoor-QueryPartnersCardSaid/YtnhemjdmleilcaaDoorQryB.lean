/- The walks of the parser's methods accept, expect, next, and of the reader's is, word, take. No condition. -/
import Derived.Test.YtnhemjdmleilcaaDoorQryA
namespace Go.Proofs.YtnhemjdmleilcaaDoor
open Go.RowKit

/-- What a method that answers v and leaves the parser as p' promises. -/
def PPost (T : TypeId) (b G : Nat) (v : Value) (p' : Ps) (w : World) (e : Ending) (w' : World) : Prop := e = .returned v ∧ PSt T b G p' w' ∧ w.grownBy w' (some b)

theorem str_ne {f : List UInt8} {s : ByteArray} (h : ¬ str f = s) : ((str f).toList == s.toList) = false := by
  simp only [Go.ByteArray.toList_eq, beq_eq_false_iff_ne, ne_eq]
  intro e
  exact h (ByteArray.ext (Array.ext' e))
theorem acc_yes {f : List UInt8} {s : ByteArray} (r : List (List UInt8)) (he : str f = s) : accB (bytes s) ⟨f :: r, false⟩ = true ∧ accS (bytes s) ⟨f :: r, false⟩ = ⟨r, false⟩ := by
  subst he
  have h : accB (bytes (str f)) ⟨f :: r, false⟩ = true := by rw [bytes_str]; simp [accB]
  exact ⟨h, by unfold accS; rw [h]; rfl⟩
theorem acc_no {f : List UInt8} {s : ByteArray} (r : List (List UInt8)) (he : ¬ str f = s) : accB (bytes s) ⟨f :: r, false⟩ = false ∧ accS (bytes s) ⟨f :: r, false⟩ = ⟨f :: r, false⟩ := by
  have h : accB (bytes s) ⟨f :: r, false⟩ = false := by
    simp only [accB, beq_eq_false_iff_ne, ne_eq]
    intro e; subst e; exact he (str_bytes s)
  exact ⟨h, by unfold accS; rw [h]; rfl⟩

theorem accept_any (b G : Nat) (p : Ps) (s : ByteArray) (w : World) (h : PSt 71 b G p w) :
    Calls Tryd.prog 77 #[.pointer (some ⟨b, 0, none⟩), .string s] w (PPost 71 b G (.bool (accB (bytes s) p)) (accS (bytes s) p) w) := by
  obtain ⟨fs, bad⟩ := p
  have H := Lib.hid h
  cases bad with
  | true =>
    obtain ⟨-, -, v, hv, -⟩ := h
    have c1 : w.cell? ⟨b, 1, none⟩ = some (.bool true) := by rw [Lib.cell_of_heap hv]; rfl
    have E : Hid (accB (bytes s) ⟨fs, true⟩ = false) := Lib.hid (accB_bad _ _)
    clear hv
    go_enter Tryd.func77, Tryd.ntmps77
    go_wp2_with fail
    go_ret
    refine ⟨ret_bool E.out.symm, ?_, World.grownBy.refl _ _⟩
    unfold accS; rw [E.out]; exact H.out
  | false =>
    cases fs with
    | nil =>
      obtain ⟨-, -, v, hv, -, A, c, rfl, -⟩ := h
      have c0 : w.cell? ⟨b, 0, none⟩ = some (.slice A 0 c) := by rw [Lib.cell_of_heap hv]; rfl
      have c1 : w.cell? ⟨b, 1, none⟩ = some (.bool false) := by rw [Lib.cell_of_heap hv]; rfl
      clear hv
      go_enter Tryd.func77, Tryd.ntmps77
      go_wp2_with fail
      go_ret
      exact ⟨rfl, H.out, World.grownBy.refl _ _⟩
    | cons f r =>
      obtain ⟨g, o, c, hv, hf, hc, hm, hpop⟩ := PSt.popped h
      have c0 : w.cell? ⟨b, 0, none⟩ = some (.slice (some ⟨g, o, none⟩) (r.length + 1) c) := by rw [Lib.cell_of_heap hv]; rfl
      have c1 : w.cell? ⟨b, 1, none⟩ = some (.bool false) := by rw [Lib.cell_of_heap hv]; rfl
      have f0 : w.frozen? ⟨b, 0, none⟩ = false := Lib.frozen_of_heap hv 0
      have HP := Lib.hid hpop
      clear hv hpop h
      unfold strV at hf
      unfold maxLen at hm
      by_cases he : str f = s
      · have E := Lib.hid (acc_yes r he)
        go_enter Tryd.func77, Tryd.ntmps77
        go_wp2_with fail
        · go_ret
          subst h
          refine ⟨ret_bool E.out.1.symm, ?_⟩
          rw [E.out.2]
          exact HP.out (some ⟨g, o, none⟩) (fun h' => absurd rfl h') (by simp)
        · go_ret
          refine ⟨ret_bool E.out.1.symm, ?_⟩
          rw [E.out.2]
          exact HP.out (some ⟨g, o + 1, none⟩) (fun _ => rfl) (by simp)
      · have E := Lib.hid (acc_no r he)
        have hne := str_ne he
        clear he
        go_enter Tryd.func77, Tryd.ntmps77
        go_wp2_with fail
        go_ret
        refine ⟨ret_bool E.out.1.symm, ?_, World.grownBy.refl _ _⟩
        rw [E.out.2]
        exact H.out

theorem expect_any (b G : Nat) (p : Ps) (s : ByteArray) (w : World) (h : PSt 71 b G p w) :
    Calls Tryd.prog 74 #[.pointer (some ⟨b, 0, none⟩), .string s] w (PPost 71 b G (.tuple #[]) (expS (bytes s) p) w) := by
  have HA := Lib.hid (accept_any b G p s w h)
  clear h
  cases ha : accB (bytes s) p with
  | true =>
    have E : Hid (expS (bytes s) p = accS (bytes s) p) := Lib.hid (by unfold expS accS; rw [ha]; rfl)
    rw [ha] at HA
    clear ha
    go_enter Tryd.func74, Tryd.ntmps74
    go_wp2_with fail
    refine HA.out.mono ?_
    rintro e w1 ⟨rfl, h1, h2⟩
    go_wp2_with fail
    go_end0
    exact ⟨rfl, by rw [E.out]; exact h1, h2⟩
  | false =>
    have E : Hid (expS (bytes s) p = (accS (bytes s) p).fail) := Lib.hid (by unfold expS accS; rw [ha]; rfl)
    rw [ha] at HA
    clear ha
    go_enter Tryd.func74, Tryd.ntmps74
    go_wp2_with fail
    refine HA.out.mono ?_
    rintro e w1 ⟨rfl, h1, h2⟩
    have HF := Lib.hid h1.failed
    obtain ⟨-, -, v, hv, -⟩ := h1
    have c1 : w1.cell? ⟨b, 1, none⟩ = some (.bool (accS (bytes s) p).bad) := by rw [Lib.cell_of_heap hv]; rfl
    have f1 : w1.frozen? ⟨b, 1, none⟩ = false := Lib.frozen_of_heap hv 1
    clear hv
    go_wp2_with fail
    go_end0
    exact ⟨rfl, by rw [E.out]; exact HF.out.1, h2.trans HF.out.2⟩

theorem next_any (b G : Nat) (p : Ps) (w : World) (h : PSt 71 b G p w) :
    Calls Tryd.prog 75 #[.pointer (some ⟨b, 0, none⟩)] w (PPost 71 b G (strV (nxtV p)) (nxtS p) w) := by
  obtain ⟨fs, bad⟩ := p
  have HF := Lib.hid h.failed
  cases bad with
  | true =>
    have E : Hid (nxtV ⟨fs, true⟩ = [] ∧ nxtS ⟨fs, true⟩ = (⟨fs, true⟩ : Ps).fail) := Lib.hid (by cases fs <;> exact ⟨rfl, rfl⟩)
    have HP := Lib.hid h
    obtain ⟨-, -, v, hv, -, A, c, rfl, -⟩ := h
    have c0 : w.cell? ⟨b, 0, none⟩ = some (.slice A fs.length c) := by rw [Lib.cell_of_heap hv]; rfl
    have c1 : w.cell? ⟨b, 1, none⟩ = some (.bool true) := by rw [Lib.cell_of_heap hv]; rfl
    have f1 : w.frozen? ⟨b, 1, none⟩ = false := Lib.frozen_of_heap hv 1
    clear hv
    go_enter Tryd.func75, Tryd.ntmps75
    go_wp2_with fail
    all_goals
      go_ret
      refine ⟨by rw [E.out.1]; rfl, ?_⟩
      rw [E.out.2]
      first | exact HF.out | exact ⟨HP.out, World.grownBy.refl _ _⟩
  | false =>
    cases fs with
    | nil =>
      obtain ⟨-, -, v, hv, -, A, c, rfl, -⟩ := h
      have c0 : w.cell? ⟨b, 0, none⟩ = some (.slice A 0 c) := by rw [Lib.cell_of_heap hv]; rfl
      have c1 : w.cell? ⟨b, 1, none⟩ = some (.bool false) := by rw [Lib.cell_of_heap hv]; rfl
      have f1 : w.frozen? ⟨b, 1, none⟩ = false := Lib.frozen_of_heap hv 1
      have d1 : (w.setCell ⟨b, 1, none⟩ (.bool true)).cell? ⟨b, 1, none⟩ = some (.bool true) := by rw [Lib.cell_of_heap (Lib.heap_setCell_same (i := 1) hv _)]; rfl
      clear hv
      go_enter Tryd.func75, Tryd.ntmps75
      go_wp2_with fail
      go_ret
      exact ⟨rfl, HF.out⟩
    | cons f r =>
      obtain ⟨g, o, c, hv, hf, hc, hm, hpop⟩ := PSt.popped h
      have c0 : w.cell? ⟨b, 0, none⟩ = some (.slice (some ⟨g, o, none⟩) (r.length + 1) c) := by rw [Lib.cell_of_heap hv]; rfl
      have c1 : w.cell? ⟨b, 1, none⟩ = some (.bool false) := by rw [Lib.cell_of_heap hv]; rfl
      have f0 : w.frozen? ⟨b, 0, none⟩ = false := Lib.frozen_of_heap hv 0
      have HP := Lib.hid hpop
      clear hv hpop h HF
      unfold strV at hf
      unfold maxLen at hm
      go_enter Tryd.func75, Tryd.ntmps75
      go_wp2_with fail
      · go_ret
        subst h
        exact ⟨rfl, HP.out (some ⟨g, o, none⟩) (fun h' => absurd rfl h') (by simp)⟩
      · go_ret
        exact ⟨rfl, HP.out (some ⟨g, o + 1, none⟩) (fun _ => rfl) (by simp)⟩

theorem ris_any (b G : Nat) (p : Ps) (s : ByteArray) (w : World) (h : PSt 75 b G p w) :
    Calls Tryd.prog 47 #[.pointer (some ⟨b, 0, none⟩), .string s] w (PPost 75 b G (.bool (accB (bytes s) p)) (accS (bytes s) p) w) := by
  obtain ⟨fs, bad⟩ := p
  have H := Lib.hid h
  cases bad with
  | true =>
    obtain ⟨-, -, v, hv, -⟩ := h
    have c1 : w.cell? ⟨b, 1, none⟩ = some (.bool true) := by rw [Lib.cell_of_heap hv]; rfl
    have E : Hid (accB (bytes s) ⟨fs, true⟩ = false) := Lib.hid (accB_bad _ _)
    clear hv
    go_enter Tryd.func47, Tryd.ntmps47
    go_wp2_with fail
    go_ret
    refine ⟨ret_bool E.out.symm, ?_, World.grownBy.refl _ _⟩
    unfold accS; rw [E.out]; exact H.out
  | false =>
    cases fs with
    | nil =>
      obtain ⟨-, -, v, hv, -, A, c, rfl, -⟩ := h
      have c0 : w.cell? ⟨b, 0, none⟩ = some (.slice A 0 c) := by rw [Lib.cell_of_heap hv]; rfl
      have c1 : w.cell? ⟨b, 1, none⟩ = some (.bool false) := by rw [Lib.cell_of_heap hv]; rfl
      clear hv
      go_enter Tryd.func47, Tryd.ntmps47
      go_wp2_with fail
      go_ret
      exact ⟨rfl, H.out, World.grownBy.refl _ _⟩
    | cons f r =>
      obtain ⟨g, o, c, hv, hf, hc, hm, hpop⟩ := PSt.popped h
      have c0 : w.cell? ⟨b, 0, none⟩ = some (.slice (some ⟨g, o, none⟩) (r.length + 1) c) := by rw [Lib.cell_of_heap hv]; rfl
      have c1 : w.cell? ⟨b, 1, none⟩ = some (.bool false) := by rw [Lib.cell_of_heap hv]; rfl
      have f0 : w.frozen? ⟨b, 0, none⟩ = false := Lib.frozen_of_heap hv 0
      have HP := Lib.hid hpop
      clear hv hpop h
      unfold strV at hf
      unfold maxLen at hm
      by_cases he : str f = s
      · have E := Lib.hid (acc_yes r he)
        go_enter Tryd.func47, Tryd.ntmps47
        go_wp2_with fail
        · go_ret
          subst h
          refine ⟨ret_bool E.out.1.symm, ?_⟩
          rw [E.out.2]
          exact HP.out (some ⟨g, o, none⟩) (fun h' => absurd rfl h') (by simp)
        · go_ret
          refine ⟨ret_bool E.out.1.symm, ?_⟩
          rw [E.out.2]
          exact HP.out (some ⟨g, o + 1, none⟩) (fun _ => rfl) (by simp)
      · have E := Lib.hid (acc_no r he)
        have hne := str_ne he
        clear he
        go_enter Tryd.func47, Tryd.ntmps47
        go_wp2_with fail
        go_ret
        refine ⟨ret_bool E.out.1.symm, ?_, World.grownBy.refl _ _⟩
        rw [E.out.2]
        exact H.out

theorem rword_any (b G : Nat) (p : Ps) (s : ByteArray) (w : World) (h : PSt 75 b G p w) :
    Calls Tryd.prog 48 #[.pointer (some ⟨b, 0, none⟩), .string s] w (PPost 75 b G (.tuple #[]) (expS (bytes s) p) w) := by
  have HA := Lib.hid (ris_any b G p s w h)
  clear h
  cases ha : accB (bytes s) p with
  | true =>
    have E : Hid (expS (bytes s) p = accS (bytes s) p) := Lib.hid (by unfold expS accS; rw [ha]; rfl)
    rw [ha] at HA
    clear ha
    go_enter Tryd.func48, Tryd.ntmps48
    go_wp2_with fail
    refine HA.out.mono ?_
    rintro e w1 ⟨rfl, h1, h2⟩
    go_wp2_with fail
    go_end0
    exact ⟨rfl, by rw [E.out]; exact h1, h2⟩
  | false =>
    have E : Hid (expS (bytes s) p = (accS (bytes s) p).fail) := Lib.hid (by unfold expS accS; rw [ha]; rfl)
    rw [ha] at HA
    clear ha
    go_enter Tryd.func48, Tryd.ntmps48
    go_wp2_with fail
    refine HA.out.mono ?_
    rintro e w1 ⟨rfl, h1, h2⟩
    have HF := Lib.hid h1.failed
    obtain ⟨-, -, v, hv, -⟩ := h1
    have c1 : w1.cell? ⟨b, 1, none⟩ = some (.bool (accS (bytes s) p).bad) := by rw [Lib.cell_of_heap hv]; rfl
    have f1 : w1.frozen? ⟨b, 1, none⟩ = false := Lib.frozen_of_heap hv 1
    clear hv
    go_wp2_with fail
    go_end0
    exact ⟨rfl, by rw [E.out]; exact HF.out.1, h2.trans HF.out.2⟩

theorem rtake_any (b G : Nat) (p : Ps) (w : World) (h : PSt 75 b G p w) :
    Calls Tryd.prog 50 #[.pointer (some ⟨b, 0, none⟩)] w (PPost 75 b G (strV (nxtV p)) (nxtS p) w) := by
  obtain ⟨fs, bad⟩ := p
  have HF := Lib.hid h.failed
  cases bad with
  | true =>
    have E : Hid (nxtV ⟨fs, true⟩ = [] ∧ nxtS ⟨fs, true⟩ = (⟨fs, true⟩ : Ps).fail) := Lib.hid (by cases fs <;> exact ⟨rfl, rfl⟩)
    have HP := Lib.hid h
    obtain ⟨-, -, v, hv, -, A, c, rfl, -⟩ := h
    have c0 : w.cell? ⟨b, 0, none⟩ = some (.slice A fs.length c) := by rw [Lib.cell_of_heap hv]; rfl
    have c1 : w.cell? ⟨b, 1, none⟩ = some (.bool true) := by rw [Lib.cell_of_heap hv]; rfl
    have f1 : w.frozen? ⟨b, 1, none⟩ = false := Lib.frozen_of_heap hv 1
    clear hv
    go_enter Tryd.func50, Tryd.ntmps50
    go_wp2_with fail
    all_goals
      go_ret
      refine ⟨by rw [E.out.1]; rfl, ?_⟩
      rw [E.out.2]
      first | exact HF.out | exact ⟨HP.out, World.grownBy.refl _ _⟩
  | false =>
    cases fs with
    | nil =>
      obtain ⟨-, -, v, hv, -, A, c, rfl, -⟩ := h
      have c0 : w.cell? ⟨b, 0, none⟩ = some (.slice A 0 c) := by rw [Lib.cell_of_heap hv]; rfl
      have c1 : w.cell? ⟨b, 1, none⟩ = some (.bool false) := by rw [Lib.cell_of_heap hv]; rfl
      have f1 : w.frozen? ⟨b, 1, none⟩ = false := Lib.frozen_of_heap hv 1
      have d1 : (w.setCell ⟨b, 1, none⟩ (.bool true)).cell? ⟨b, 1, none⟩ = some (.bool true) := by rw [Lib.cell_of_heap (Lib.heap_setCell_same (i := 1) hv _)]; rfl
      clear hv
      go_enter Tryd.func50, Tryd.ntmps50
      go_wp2_with fail
      go_ret
      exact ⟨rfl, HF.out⟩
    | cons f r =>
      obtain ⟨g, o, c, hv, hf, hc, hm, hpop⟩ := PSt.popped h
      have c0 : w.cell? ⟨b, 0, none⟩ = some (.slice (some ⟨g, o, none⟩) (r.length + 1) c) := by rw [Lib.cell_of_heap hv]; rfl
      have c1 : w.cell? ⟨b, 1, none⟩ = some (.bool false) := by rw [Lib.cell_of_heap hv]; rfl
      have f0 : w.frozen? ⟨b, 0, none⟩ = false := Lib.frozen_of_heap hv 0
      have HP := Lib.hid hpop
      clear hv hpop h HF
      unfold strV at hf
      unfold maxLen at hm
      go_enter Tryd.func50, Tryd.ntmps50
      go_wp2_with fail
      · go_ret
        subst h
        exact ⟨rfl, HP.out (some ⟨g, o, none⟩) (fun h' => absurd rfl h') (by simp)⟩
      · go_ret
        exact ⟨rfl, HP.out (some ⟨g, o + 1, none⟩) (fun _ => rfl) (by simp)⟩
end Go.Proofs.YtnhemjdmleilcaaDoor
