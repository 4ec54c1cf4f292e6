/- The walks of the laws ScanDecimals and ScanConcat. No condition. -/
import Derived.Test.YtiakkcipbpbkbaaLawA
import Derived.Test.YtiakkcipbpbkbaaDec
namespace Go.Proofs.Ytiakkcipbpbkbaa
open Go.RowKit

theorem bytes_app (a b : ByteArray) : bytes (a ++ b) = bytes a ++ bytes b := by simp [bytes, ByteArray.data_append]
theorem zero_app (l : List UInt8) : (⟨#[48]⟩ : ByteArray) ++ str l = str (48 :: l) := str_app [48] l
theorem all_one (xs : List (List UInt8)) : ∀ u ∈ xs.map strV, u.oneCell' = true := by
  intro u hu
  obtain ⟨x, _, rfl⟩ := List.mem_map.1 hu
  rfl
theorem valid_app (a b : List UInt8) : validAll (a ++ b) = (validAll a && validAll b) := by simp [validAll]
theorem linesGo_cat (b : List UInt8) : ∀ (a cur : List UInt8), linesGo cur (a ++ 10 :: b) = linesGo cur (a ++ [10]) ++ linesGo [] b := by
  intro a
  induction a with
  | nil => intro cur; simp [linesGo, flush]
  | cons c r ih =>
    intro cur
    simp only [List.cons_append, linesGo]
    split
    · rw [ih]; rfl
    · rw [ih]
theorem linesOf_cat (a b : List UInt8) : linesOf (a ++ [10] ++ b) = linesOf (a ++ [10]) ++ linesOf b := by
  unfold linesOf; rw [List.append_assoc, List.singleton_append, linesGo_cat]
theorem err_small {l : List UInt8} (h : l.length ≤ 65536) : linesErr l = if validAll l then 0 else 2 := by
  unfold linesErr; rw [if_neg (by omega)]
theorem feed_valid (a : List UInt8) : validAll (a ++ [10]) = validAll a := by rw [valid_app]; simp [validAll, validC]

set_option maxHeartbeats 800000 in
theorem scanDecimals_walk (n : Int) (w : World) (hwf : (Lit.int .i64 n).wf = true) : Calls Try.prog 8 #[.int .i64 n] w fun e w' => e = .returned (.bool true) ∧ Below w.heap.size w w' := by
  by_cases h0 : n < 0
  · go_enter Try.func8, Try.ntmps8
    go_wp2_with fail
    go_ret
    exact ⟨rfl, Below.refl _ _⟩
  by_cases h1 : 9999999999 < n
  · go_enter Try.func8, Try.ntmps8
    go_wp2_with fail
    go_ret
    exact ⟨rfl, Below.refl _ _⟩
  obtain ⟨m, rfl⟩ := Int.eq_ofNat_of_zero_le (Int.not_lt.1 h0)
  have hm : m ≤ 9999999999 := by omega
  have E1 : Hid (numIn (dec m) 0 m = some (m : Int)) := Lib.hid (num_in (numOf_dec m hm) (by omega) (by omega))
  have E2 : Hid (numIn (48 :: dec m) 0 9999999999 = none) := Lib.hid (num_none (numOf_zero m) _ _)
  have E3 : Hid (numIn (dec m) (m + 1) 9999999999 = none) := Lib.hid (num_out (numOf_dec m hm) (Or.inl (by omega)))
  have hs : (str (dec m)).size ≤ 10 := by rw [str_size]; exact dec_len 9 m (by omega)
  clear hwf
  go_enter Try.func8, Try.ntmps8
  go_wp2_with fail
  refine (decimal_any _ _ (by omega)).mono ?_
  rintro e w' ⟨rfl, rfl⟩
  go_wp2_with fail
  refine (number_any (str (dec m)) _ _ _).mono ?_
  rw [bytes_str, E1.out]
  rintro e w' ⟨rfl, rfl⟩
  go_wp2_with fail
  refine (number_any _ _ _ _).mono ?_
  rw [zero_app, bytes_str, E2.out]
  rintro e w' ⟨rfl, rfl⟩
  go_wp2_with fail
  refine (number_any (str (dec m)) _ _ _).mono ?_
  rw [bytes_str, E3.out]
  rintro e w' ⟨rfl, rfl⟩
  have hn1 : numV (some (m : Int)) = m := rfl
  have hn2 : (some (m : Int)).isSome = true := rfl
  have hn3 : (none : Option Int).isSome = false := rfl
  go_wp2_with fail
  refine (sane1_any _).mono ?_
  rintro e w1 ⟨rfl, hb⟩
  go_wp2_with fail
  go_ret
  exact ⟨rfl, hb⟩

theorem lines_known (s : ByteArray) (w : World) (k : Int) (xs : List (List UInt8)) (he : linesErr (bytes s) = k) (hx : linesRes (bytes s) = xs) : Calls Try.prog 13 #[.string s] w fun e w' =>
    ∃ v, e = .returned (.tuple #[v, .int .i64 k]) ∧ w'.ownsRow w.heap.size 9 1 v xs.length (xs.map strV) ∧ Below w.heap.size w w' := by
  subst he hx
  exact lines_any s w
theorem res_ok {l : List UInt8} (h : l.length ≤ 65536) (hv : validAll l = true) : linesErr l = 0 ∧ linesRes l = linesOf l := by
  have e : linesErr l = 0 := by rw [err_small h, hv]; rfl
  exact ⟨e, by unfold linesRes; rw [if_pos e]⟩
theorem res_bad {l : List UInt8} (h : l.length ≤ 65536) (hv : validAll l = false) : linesErr l = 2 ∧ linesRes l = [] := by
  have e : linesErr l = 2 := by rw [err_small h, hv]; rfl
  exact ⟨e, by unfold linesRes; rw [if_neg (by rw [e]; decide)]⟩
theorem lines_bad2 (s : ByteArray) (w : World) (h : (bytes s).length ≤ 65536) (hv : validAll (bytes s) = false) : Calls Try.prog 13 #[.string s] w fun e w' =>
    ∃ A c, e = .returned (.tuple #[.slice A 0 c, .int .i64 2]) ∧ Below w.heap.size w w' := by
  refine (lines_known s w 2 [] (res_bad h hv).1 (res_bad h hv).2).mono ?_
  rintro e w' ⟨v, rfl, ho, hb⟩
  obtain ⟨A, c, rfl⟩ := slc_form (Slc.of_own ho)
  exact ⟨A, c, rfl, hb⟩
theorem lines_ok2 (s : ByteArray) (w : World) (h : (bytes s).length ≤ 65536) (hv : validAll (bytes s) = true) : Calls Try.prog 13 #[.string s] w fun e w' =>
    ∃ v, e = .returned (.tuple #[v, .int .i64 0]) ∧ w'.ownsRow w.heap.size 9 1 v (linesOf (bytes s)).length ((linesOf (bytes s)).map strV) ∧ Below w.heap.size w w' :=
  lines_known s w 0 _ (res_ok h hv).1 (res_ok h hv).2

theorem cat_len1 {a : ByteArray} (h : ¬ 1500 < a.size) : (bytes (a ++ ⟨#[10]⟩)).length ≤ 65536 := by
  rw [bytes_app, List.length_append, bytes_len]; simp [bytes]; omega
theorem cat_len2 {a : ByteArray} (h : ¬ 1500 < a.size) : (bytes a).length ≤ 65536 := by rw [bytes_len]; omega
theorem cat_len3 {a b : ByteArray} (h : ¬ 1500 < a.size) (h' : ¬ 1500 < b.size) : (bytes (a ++ ⟨#[10]⟩ ++ b)).length ≤ 65536 := by
  rw [bytes_app, bytes_app, List.length_append, List.length_append, bytes_len a, bytes_len b]; simp [bytes]; omega
theorem cat_valid1 (a : ByteArray) : validAll (bytes (a ++ ⟨#[10]⟩)) = validAll (bytes a) := by
  rw [bytes_app]; exact feed_valid _
theorem cat_valid3 (a b : ByteArray) : validAll (bytes (a ++ ⟨#[10]⟩ ++ b)) = (validAll (bytes a) && validAll (bytes b)) := by
  rw [bytes_app, valid_app, cat_valid1]
theorem cat_lines (a b : ByteArray) : linesOf (bytes (a ++ ⟨#[10]⟩ ++ b)) = linesOf (bytes (a ++ ⟨#[10]⟩)) ++ linesOf (bytes b) := by
  rw [bytes_app, bytes_app]; exact linesOf_cat _ _
theorem lines_count (s : ByteArray) : (linesOf (bytes s)).length ≤ s.size + 1 := by
  have := linesGo_len (bytes s) []
  rw [bytes_len] at this
  exact this

set_option maxHeartbeats 800000 in
theorem scanConcat_walk (a b : ByteArray) (w : World) (_ : a.size ≤ maxLen) (_ : b.size ≤ maxLen) : Calls Try.prog 4 #[.string a, .string b] w fun e w' => e = .returned (.bool true) ∧ Below w.heap.size w w' := by
  by_cases h0 : 1500 < a.size
  · go_enter Try.func4, Try.ntmps4
    go_wp2_with fail
    go_ret
    exact ⟨rfl, Below.refl _ _⟩
  have d0 : decide ((1500 : Int) < a.size) = false := by simp; omega
  by_cases h1 : 1500 < b.size
  · go_enter Try.func4, Try.ntmps4
    go_wp2_with fail
    go_ret
    exact ⟨rfl, Below.refl _ _⟩
  have d1 : decide ((1500 : Int) < b.size) = false := by simp; omega
  have L1 := cat_len1 h0
  have L2 := cat_len2 h1
  have L3 := cat_len3 h0 h1
  have V1 := Lib.hid (cat_valid1 a)
  have V3 := Lib.hid (cat_valid3 a b)
  have hb' : b.size ≤ 1500 := by omega
  have ha' : a.size ≤ 1500 := by omega
  have hab : (a ++ (⟨#[10]⟩ : ByteArray)).size ≤ 1501 := by rw [ByteArray.size_append]; show a.size + 1 ≤ 1501; omega
  cases hva : validAll (bytes a) with
  | false =>
    have V1' := Lib.hid (V1.out.trans hva)
    have V3' : Hid (validAll (bytes (a ++ ⟨#[10]⟩ ++ b)) = false) := Lib.hid (by rw [V3.out, hva]; rfl)
    clear hva V1 V3
    cases hvb : validAll (bytes b) with
    | false =>
      have V2 := Lib.hid hvb
      clear hvb
      go_enter Try.func4, Try.ntmps4
      go_wp2_with fail
      refine (lines_bad2 _ _ L1 V1'.out).mono ?_
      rintro e w1 ⟨A1, c1, rfl, hb1⟩
      go_wp2_with fail
      refine (lines_bad2 _ _ L2 V2.out).mono ?_
      rintro e w2 ⟨A2, c2, rfl, hb2⟩
      go_wp2_with fail
      refine (lines_bad2 _ _ L3 V3'.out).mono ?_
      rintro e w3 ⟨A3, c3, rfl, hb3⟩
      go_wp2_with fail
      refine (sane1_any _).mono ?_
      rintro e w4 ⟨rfl, hb4⟩
      go_wp2_with fail
      go_ret
      have h1 := hb1.size
      have h2 := hb2.size
      have h3 := hb3.size
      exact ⟨rfl, ((hb1.trans (hb2.mono (by omega))).trans (hb3.mono (by omega))).trans (hb4.mono (by omega))⟩
    | true =>
      have V2 := Lib.hid hvb
      clear hvb
      go_enter Try.func4, Try.ntmps4
      go_wp2_with fail
      refine (lines_bad2 _ _ L1 V1'.out).mono ?_
      rintro e w1 ⟨A1, c1, rfl, hb1⟩
      go_wp2_with fail
      refine (lines_ok2 _ _ L2 V2.out).mono ?_
      rintro e w2 ⟨v2, rfl, ho2, hb2⟩
      go_wp2_with fail
      refine (lines_bad2 _ _ L3 V3'.out).mono ?_
      rintro e w3 ⟨A3, c3, rfl, hb3⟩
      go_wp2_with fail
      refine (sane1_any _).mono ?_
      rintro e w4 ⟨rfl, hb4⟩
      go_wp2_with fail
      go_ret
      have h1 := hb1.size
      have h2 := hb2.size
      have h3 := hb3.size
      exact ⟨rfl, ((hb1.trans (hb2.mono (by omega))).trans (hb3.mono (by omega))).trans (hb4.mono (by omega))⟩
  | true =>
    have V1' := Lib.hid (V1.out.trans hva)
    cases hvb : validAll (bytes b) with
    | false =>
      have V3' : Hid (validAll (bytes (a ++ ⟨#[10]⟩ ++ b)) = false) := Lib.hid (by rw [V3.out, hva, hvb]; rfl)
      have V2 := Lib.hid hvb
      clear hvb hva V1 V3
      go_enter Try.func4, Try.ntmps4
      go_wp2_with fail
      refine (lines_ok2 _ _ L1 V1'.out).mono ?_
      rintro e w1 ⟨v1, rfl, ho1, hb1⟩
      go_wp2_with fail
      refine (lines_bad2 _ _ L2 V2.out).mono ?_
      rintro e w2 ⟨A2, c2, rfl, hb2⟩
      go_wp2_with fail
      refine (lines_bad2 _ _ L3 V3'.out).mono ?_
      rintro e w3 ⟨A3, c3, rfl, hb3⟩
      go_wp2_with fail
      refine (sane1_any _).mono ?_
      rintro e w4 ⟨rfl, hb4⟩
      go_wp2_with fail
      go_ret
      have h1 := hb1.size
      have h2 := hb2.size
      have h3 := hb3.size
      exact ⟨rfl, ((hb1.trans (hb2.mono (by omega))).trans (hb3.mono (by omega))).trans (hb4.mono (by omega))⟩
    | true =>
      have V3' : Hid (validAll (bytes (a ++ ⟨#[10]⟩ ++ b)) = true) := Lib.hid (by rw [V3.out, hva, hvb]; rfl)
      have V2 := Lib.hid hvb
      obtain ⟨i0, hi0, hz0, hz1, hz2⟩ := info_parts Try.strInfo
      have Hi0 := Lib.hid hi0
      have Hz0 := Lib.hid hz0
      have Hz1 := Lib.hid hz1
      have Hz2 := Lib.hid hz2
      have C1 := lines_count (a ++ (⟨#[10]⟩ : ByteArray))
      have C2 := lines_count b
      have HC := Lib.hid (cat_lines a b)
      clear hi0 hz0 hz1 hz2 hvb hva V1 V3
      go_enter Try.func4, Try.ntmps4
      go_wp2_with fail
      refine (lines_ok2 _ _ L1 V1'.out).mono ?_
      rintro e w1 ⟨v1, rfl, ho1, hb1⟩
      go_wp2_with fail
      refine (lines_ok2 _ _ L2 V2.out).mono ?_
      rintro e w2 ⟨v2, rfl, ho2, hb2⟩
      go_wp2_with fail
      refine (lines_ok2 _ _ L3 V3'.out).mono ?_
      rintro e w3 ⟨v3, rfl, ho3, hb3⟩
      rw [HC.out] at ho3
      generalize linesOf (bytes (a ++ ⟨#[10]⟩)) = xs at *
      generalize linesOf (bytes b) = ys at *
      have h1 := hb1.size
      have h2 := hb2.size
      have h3 := hb3.size
      have S1 : Slc w3 w3.heap.size 1 v1 xs.length (xs.map strV) := (((Slc.of_own ho1).below hb2).mono h2 |>.below hb3).mono h3
      have S2 : Slc w3 w3.heap.size 1 v2 ys.length (ys.map strV) := ((Slc.of_own ho2).below hb3).mono h3
      have HS := Lib.hid (And.intro S1 S2)
      have HO := Lib.hid ho3
      clear S1 S2 ho1 ho2 ho3
      go_wp2_with (first
        | (at_builtin; refine wpList_appendS _ rfl (.tmp 58) (.tmp 59) 22 rfl w3.heap.size 9 i0 _ 1 16 Try.underlying22 Hi0.out Hz0.out Hz1.out Hz2.out rfl (by decide) _ 0 [] rfl (World.ownsRow_made w3 #[] 0 (Nat.le_refl _) (Nat.zero_le _) (by simp)) v1 w3.heap.size xs.length (xs.map strV) rfl (HS.out.1.alloc (Nat.le_refl _) _) (all_one xs) (by omega) (by decide) (by simp) ?_; intro v4 w4 ho4 hb4)
        | (at_builtin; refine wpList_appendS _ rfl (.tmp 60) (.tmp 61) 22 rfl w3.heap.size 9 i0 _ 1 16 Try.underlying22 Hi0.out Hz0.out Hz1.out Hz2.out rfl (by decide) v4 (0 + xs.length) ([] ++ xs.map strV) rfl ho4 v2 w3.heap.size ys.length (ys.map strV) rfl ((HS.out.2.alloc (Nat.le_refl _) _).below hb4) (all_one ys) (by omega) (by decide) (by have := hb4.size; simp at this; omega) ?_; intro v5 w5 ho5 hb5))
      have hb45 : Below w3.heap.size w3 w5 := (((Below.refl _ w3).alloc (Nat.le_refl _) _).trans hb4).trans hb5
      have S3 : Slc w5 w5.heap.size 1 v3 (xs ++ ys).length ((xs ++ ys).map strV) := ((Slc.of_own HO.out).below hb45).mono hb45.size
      have S5 : Slc w5 w5.heap.size 1 v5 (xs ++ ys).length ((xs ++ ys).map strV) := by
        have := Slc.of_own ho5
        simpa using this
      have h5 := hb45.size
      refine (strings_same S3 S5).mono ?_
      rintro e w6 ⟨rfl, hb6⟩
      clear S3 S5
      go_wp2_with fail
      refine (sane1_any _).mono ?_
      rintro e w7 ⟨rfl, hb7⟩
      go_wp2_with fail
      go_ret
      have h6 := hb6.size
      exact ⟨rfl, ((((hb1.trans (hb2.mono (by omega))).trans (hb3.mono (by omega))).trans (hb45.mono (by omega))).trans (hb6.mono (by omega))).trans (hb7.mono (by omega))⟩
end Go.Proofs.Ytiakkcipbpbkbaa
