/- The walk of the fixed examples of netverifylaw1: they give the documented results. No condition. -/
import Derived.Test.YtiakkcipbpbkbaaScanE
namespace Go.Proofs.Ytiakkcipbpbkbaa
open Go.RowKit

theorem own_form {w : World} {base : Nat} {e : TypeId} {size n : Nat} {v : Value} {xs : List Value} (h : w.ownsRow base e size v n xs) (hn : 0 < n) :
    ∃ g cap, v = .slice (some ⟨g, 0, none⟩) n cap ∧ base ≤ g ∧ g < w.heap.size ∧ ∀ j u, xs[j]? = some u → w.cell? ⟨g, j, none⟩ = some u := by
  obtain ⟨A, c, e1, _, _, _, h2⟩ := Slc.of_own h
  rcases h.2 with ⟨_, h0⟩ | ⟨g, cap, cur, rfl, hb, hh, _⟩
  · omega
  · obtain ⟨g', o', e2, hg, hc⟩ := h2 hn
    injection e1 with e1 _ _
    rw [← e1] at e2
    injection e2 with e2
    injection e2 with e3 e4
    subst e3 e4
    exact ⟨g, cap, rfl, hb, hg, fun j u hu => by simpa using hc j u hu⟩

theorem sane_lines (w : World) : Calls Try.prog 13 #[.string ⟨#[97, 10, 10, 98]⟩] w fun e w' => ∃ g cap, e = .returned (.tuple #[.slice (some ⟨g, 0, none⟩) 3 cap, .int .i64 0]) ∧
    w'.cell? ⟨g, 0, none⟩ = some (.string ⟨#[97]⟩) ∧ w'.cell? ⟨g, 2, none⟩ = some (.string ⟨#[98]⟩) ∧ Below w.heap.size w w' := by
  refine (lines_any _ w).mono ?_
  rintro e w' ⟨v, rfl, hown, hb⟩
  have e1 : linesErr (bytes ⟨#[97, 10, 10, 98]⟩) = 0 := by decide
  have e2 : linesRes (bytes ⟨#[97, 10, 10, 98]⟩) = [[97], [], [98]] := by decide
  rw [e2] at hown
  obtain ⟨g, cap, rfl, _, _, hc⟩ := own_form hown (by decide)
  exact ⟨g, cap, by rw [e1]; rfl, hc 0 _ rfl, hc 2 _ rfl, hb⟩
theorem sane_number (w : World) : Calls Try.prog 19 #[.string ⟨#[52, 50]⟩, .int .i64 0, .int .i64 42] w fun e w' => e = .returned (.tuple #[.int .i64 42, .bool true]) ∧ w = w' := by
  refine (number_any _ _ _ w).mono ?_
  rintro e w' ⟨rfl, rfl⟩
  exact ⟨by rw [show numIn (bytes ⟨#[52, 50]⟩) 0 42 = some 42 from by decide]; rfl, rfl⟩
theorem sane_fields (w : World) : Calls Try.prog 17 #[.string ⟨#[32, 120, 9, 121, 32, 33, 122]⟩, .int .u8 33] w fun e w' => ∃ g cap, e = .returned (.slice (some ⟨g, 0, none⟩) 2 cap) ∧ Below w.heap.size w w' := by
  refine (fields_any _ _ w (by decide)).mono ?_
  rintro e w' ⟨v, rfl, hown, hb⟩
  rw [show fieldsOf 33 (bytes ⟨#[32, 120, 9, 121, 32, 33, 122]⟩) = [[120], [121]] from by decide] at hown
  obtain ⟨g, cap, rfl, _, _, _⟩ := own_form hown (by decide)
  exact ⟨g, cap, rfl, hb⟩
theorem sane_name1 (w : World) : Calls Try.prog 22 #[.string ⟨#[101, 116, 104, 48, 47, 49, 46, 53]⟩] w fun e w' => e = .returned (.bool true) ∧ w = w' := by
  refine (name_any _ w).mono ?_
  rintro e w' ⟨rfl, rfl⟩
  exact ⟨ret_bool (by decide), rfl⟩
theorem sane_name2 (w : World) : Calls Try.prog 22 #[.string ⟨#[48, 101, 116, 104]⟩] w fun e w' => e = .returned (.bool false) ∧ w = w' := by
  refine (name_any _ w).mono ?_
  rintro e w' ⟨rfl, rfl⟩
  exact ⟨ret_bool (by decide), rfl⟩

set_option maxHeartbeats 1000000 in
theorem sane1_any (w : World) : Calls Try.prog 16 #[] w fun e w' => e = .returned (.bool true) ∧ Below w.heap.size w w' := by
  go_enter Try.func16, Try.ntmps16
  go_wp2_with fail
  refine (sane_lines _).mono ?_
  rintro e w1 ⟨g, cap, rfl, c0, c2, hb1⟩
  go_wp2_with fail
  refine (sane_number _).mono ?_
  rintro e w' ⟨rfl, rfl⟩
  go_wp2_with fail
  refine (sane_fields _).mono ?_
  rintro e w2 ⟨g2, cap2, rfl, hb2⟩
  go_wp2_with fail
  refine (sane_name1 _).mono ?_
  rintro e w' ⟨rfl, rfl⟩
  go_wp2_with fail
  refine (sane_name2 _).mono ?_
  rintro e w' ⟨rfl, rfl⟩
  go_wp2_with fail
  go_ret
  exact ⟨rfl, hb1.trans (hb2.mono hb1.size)⟩
end Go.Proofs.Ytiakkcipbpbkbaa
