/- The walks of the laws ScanLines, ScanFields, ScanNumbers, ScanNames. No condition. -/
import Derived.Test.YtiakkcipbpbkbaaScanF
namespace Go.Proofs.Ytiakkcipbpbkbaa
open Go.RowKit

/-- Two lists that hold the same strings are found equal. -/
theorem strings_same {xs : List (List UInt8)} {v u : Value} {Z : Nat} {w : World} (hx : Slc w Z 1 v xs.length (xs.map strV)) (hy : Slc w Z 1 u xs.length (xs.map strV)) :
    Calls Try.prog 15 #[v, u] w fun e w' => e = .returned (.bool true) ∧ Below w.heap.size w w' := by
  obtain ⟨A, c, rfl⟩ := slc_form hx
  obtain ⟨B, d, rfl⟩ := slc_form hy
  refine (strings_any A B _ _ c d Z xs xs w hx hy rfl rfl).mono ?_
  rintro e w' ⟨rfl, q, rfl⟩
  exact ⟨ret_bool (by simp), drewN_below w q⟩

set_option maxHeartbeats 400000 in
theorem scanNames_walk (s : ByteArray) (w : World) (_ : s.size ≤ maxLen) : Calls Try.prog 9 #[.string s] w fun e w' => e = .returned (.bool true) ∧ Below w.heap.size w w' := by
  by_cases h : 40 < s.size
  · go_enter Try.func9, Try.ntmps9
    go_wp2_with fail
    go_ret
    exact ⟨rfl, Below.refl _ _⟩
  · have d1 : decide ((40 : Int) < s.size) = false := by simp; omega
    go_enter Try.func9, Try.ntmps9
    go_wp2_with fail
    refine (name_any _ _).mono ?_
    rintro e w' ⟨rfl, rfl⟩
    go_wp2_with fail
    refine (rname_any _ _).mono ?_
    rintro e w' ⟨rfl, rfl⟩
    go_wp2_with fail
    refine (sane1_any _).mono ?_
    rintro e w1 ⟨rfl, hb⟩
    go_wp2_with fail
    go_ret
    exact ⟨rfl, hb⟩

set_option maxHeartbeats 400000 in
theorem scanNumbers_walk (s : ByteArray) (least most : Int) (w : World) (_ : s.size ≤ maxLen) (_ : (Lit.int .i64 least).wf = true) (_ : (Lit.int .i64 most).wf = true) :
    Calls Try.prog 7 #[.string s, .int .i64 least, .int .i64 most] w fun e w' => e = .returned (.bool true) ∧ Below w.heap.size w w' := by
  by_cases h : 40 < s.size
  · go_enter Try.func7, Try.ntmps7
    go_wp2_with fail
    go_ret
    exact ⟨rfl, Below.refl _ _⟩
  · have d1 : decide ((40 : Int) < s.size) = false := by simp; omega
    go_enter Try.func7, Try.ntmps7
    go_wp2_with fail
    refine (number_any _ _ _ _).mono ?_
    rintro e w' ⟨rfl, rfl⟩
    go_wp2_with fail
    refine (rnumber_any _ _ _ _).mono ?_
    rintro e w' ⟨rfl, rfl⟩
    go_wp2_with fail
    refine (sane1_any _).mono ?_
    rintro e w1 ⟨rfl, hb⟩
    go_wp2_with fail
    go_ret
    exact ⟨rfl, hb⟩

set_option maxHeartbeats 400000 in
theorem scanFields_walk (s : ByteArray) (cm : Int) (w : World) (_ : s.size ≤ maxLen) (_ : (Lit.int .u8 cm).wf = true) :
    Calls Try.prog 5 #[.string s, .int .u8 cm] w fun e w' => e = .returned (.bool true) ∧ Below w.heap.size w w' := by
  by_cases h : 2000 < s.size
  · go_enter Try.func5, Try.ntmps5
    go_wp2_with fail
    go_ret
    exact ⟨rfl, Below.refl _ _⟩
  · have d1 : decide ((2000 : Int) < s.size) = false := by simp; omega
    go_enter Try.func5, Try.ntmps5
    go_wp2_with fail
    refine (fields_any _ _ _ (by omega)).mono ?_
    rintro e w1 ⟨v1, rfl, ho1, hb1⟩
    go_wp2_with fail
    refine (rfields_any _ _ _ (by omega)).mono ?_
    rintro e w2 ⟨v2, rfl, ho2, hb2⟩
    go_wp2_with fail
    refine (strings_same (((Slc.of_own ho1).below hb2).mono hb2.size) (Slc.of_own ho2)).mono ?_
    rintro e w3 ⟨rfl, hb3⟩
    go_wp2_with fail
    refine (sane1_any _).mono ?_
    rintro e w4 ⟨rfl, hb4⟩
    go_wp2_with fail
    go_ret
    have h1 := hb1.size
    have h2 := hb2.size
    have h3 := hb3.size
    exact ⟨rfl, ((hb1.trans (hb2.mono (by omega))).trans (hb3.mono (by omega))).trans (hb4.mono (by omega))⟩

set_option maxHeartbeats 400000 in
theorem scanLines_walk (s : ByteArray) (w : World) (_ : s.size ≤ maxLen) : Calls Try.prog 3 #[.string s] w fun e w' => e = .returned (.bool true) ∧ Below w.heap.size w w' := by
  by_cases h : 3000 < s.size
  · go_enter Try.func3, Try.ntmps3
    go_wp2_with fail
    go_ret
    exact ⟨rfl, Below.refl _ _⟩
  · have d1 : decide ((3000 : Int) < s.size) = false := by simp; omega
    go_enter Try.func3, Try.ntmps3
    go_wp2_with fail
    refine (lines_any _ _).mono ?_
    rintro e w1 ⟨v1, rfl, ho1, hb1⟩
    go_wp2_with fail
    refine (rlines_any _ _).mono ?_
    rintro e w2 ⟨v2, rfl, ho2, hb2⟩
    go_wp2_with fail
    refine (strings_same (((Slc.of_own ho1).below hb2).mono hb2.size) (Slc.of_own ho2)).mono ?_
    rintro e w3 ⟨rfl, hb3⟩
    go_wp2_with fail
    refine (sane1_any _).mono ?_
    rintro e w4 ⟨rfl, hb4⟩
    go_wp2_with fail
    go_ret
    have h1 := hb1.size
    have h2 := hb2.size
    have h3 := hb3.size
    exact ⟨rfl, ((hb1.trans (hb2.mono (by omega))).trans (hb3.mono (by omega))).trans (hb4.mono (by omega))⟩
end Go.Proofs.Ytiakkcipbpbkbaa
