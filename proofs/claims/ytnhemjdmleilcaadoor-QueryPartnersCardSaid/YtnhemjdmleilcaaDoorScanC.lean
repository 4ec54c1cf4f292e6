/- The walks of Lines, the program's and the reference's. No condition. -/
import Derived.Test.YtnhemjdmleilcaaDoorScanB
namespace Go.Proofs.YtnhemjdmleilcaaDoor
open Go.RowKit

theorem Tryd.strInfo : (Tryd.prog.info? 9).map (fun i => (i.zero, i.size, i.bytes)) = some (some (.string ByteArray.empty), 1, 16) := by kernel_rfl

def linesRes (l : List UInt8) : List (List UInt8) := if linesErr l = 0 then linesOf l else []
def LinesPost (l : List UInt8) (w : World) (e : Ending) (w' : World) : Prop :=
  ∃ v, e = .returned (.tuple #[v, .int .i64 (linesErr l)]) ∧ w'.ownsRow w.heap.size 9 1 v (linesRes l).length ((linesRes l).map strV) ∧ Below w.heap.size w w'

theorem lines_of_limit {s : ByteArray} (h : 65536 < s.size) : linesErr (bytes s) = 7 := by
  unfold linesErr; rw [bytes_len, if_pos h]
theorem lines_of_bad {s : ByteArray} (h : ¬ 65536 < s.size) (hv : validAll (bytes s) = false) : linesErr (bytes s) = 2 := by
  unfold linesErr; rw [bytes_len, if_neg h, hv]; rfl
theorem lines_of_ok {s : ByteArray} (h : ¬ 65536 < s.size) (hv : validAll (bytes s) = true) : linesErr (bytes s) = 0 := by
  unfold linesErr; rw [bytes_len, if_neg h, hv]; rfl
theorem linesPost_nil {l : List UInt8} {n : Int} (h : linesErr l = n) (hn : n ≠ 0) {w w' : World} (hb : Below w.heap.size w w') : LinesPost l w (.returned (.tuple #[.slice none 0 0, .int .i64 n])) w' := by
  refine ⟨.slice none 0 0, by rw [h], ?_, hb⟩
  unfold linesRes; rw [if_neg (by rw [h]; exact hn)]
  exact World.ownsRow_nil _ _ _ _
theorem linesPost_ok {l : List UInt8} (h : linesErr l = 0) {w w' : World} {v : Value} {n : Nat} {xs : List (List UInt8)} (e : linesOf l = xs) (hn : n = xs.length) (ho : w'.ownsRow w.heap.size 9 1 v n (xs.map strV)) (hb : Below w.heap.size w w') : LinesPost l w (.returned (.tuple #[v, .int .i64 0])) w' := by
  refine ⟨v, by rw [h], ?_, hb⟩
  unfold linesRes; rw [if_pos h, e, ← hn]
  exact ho

theorem valid_step (s : ByteArray) (k : Nat) (h : k < s.size) : validAll ((bytes s).drop k) = (validC s[k].toNat && validAll ((bytes s).drop (k + 1))) := by
  rw [drop_step s k h]; rfl
theorem valid_no {c : Int} (h : validC c = false) : (c != 9) = true ∧ (c != 10) = true ∧ (c < 32 ∨ 126 < c) := by
  simp only [validC, Bool.or_eq_false_iff, Bool.and_eq_false_iff, decide_eq_false_iff_not] at h
  refine ⟨by simp [bne, h.1.1], by simp [bne, h.1.2], ?_⟩
  omega
theorem valid_yes {c : Int} (h : validC c = true) : (c != 9) = false ∨ ((c != 9) = true ∧ (c != 10) = false) ∨ ((c != 9) = true ∧ (c != 10) = true ∧ 32 ≤ c ∧ c ≤ 126) := by
  simp only [validC, Bool.or_eq_true, Bool.and_eq_true, decide_eq_true_eq] at h
  by_cases h9 : c = 9
  · exact .inl (by simp [h9])
  by_cases h10 : c = 10
  · exact .inr (.inl ⟨by simp [h9], by simp [h10]⟩)
  · refine .inr (.inr ⟨by simp [h9], by simp [h10], ?_⟩)
    simp [h9, h10] at h; exact h
theorem linesGo_feed (s : ByteArray) (a k : Nat) (h : k < s.size) (hc : ((s[k].toNat : Int) == 10) = true) :
    linesGo (sub (bytes s) a k) ((bytes s).drop k) = sub (bytes s) a k :: linesGo (sub (bytes s) (k + 1) (k + 1)) ((bytes s).drop (k + 1)) := by
  rw [drop_step s k h, linesGo, if_pos (by simpa using hc), sub_self]
theorem linesGo_else (s : ByteArray) (a k : Nat) (ha : a ≤ k) (h : k < s.size) (hc : ((s[k].toNat : Int) == 10) = false) :
    linesGo (sub (bytes s) a k) ((bytes s).drop k) = linesGo (sub (bytes s) a (k + 1)) ((bytes s).drop (k + 1)) := by
  rw [drop_step s k h, linesGo, if_neg (by simpa using hc), sub_snoc s a k ha h]
theorem linesGo_end (s : ByteArray) (a k : Nat) (h : k = s.size) (ha : a ≤ k) : linesGo (sub (bytes s) a k) ((bytes s).drop k) = if a < s.size then [sub (bytes s) a s.size] else [] := by
  subst h
  rw [drop_end s s.size (by omega), linesGo, flush]
  have hl := sub_len (bytes s) a s.size (by rw [bytes_len]; omega)
  by_cases h : a < s.size
  · rw [if_neg (by intro e; rw [e] at hl; simp at hl; omega), if_pos h]
  · rw [if_pos (List.eq_nil_of_length_eq_zero (by omega)), if_neg h]
theorem app1 {α : Type} {a b c : List α} {x : α} (h : a = b ++ x :: c) : a = (b ++ [x]) ++ c := by simp [h]
theorem one_str (s : ByteArray) : ∀ u ∈ (#[Value.string s] : Array Value).toList, u.oneCell' = true := by
  intro u hu; simp at hu; subst hu; rfl
theorem map_snoc (xs : List (List UInt8)) (x : List UInt8) : xs.map strV ++ #[strV x].toList = (xs ++ [x]).map strV := by simp

set_option maxRecDepth 4000 in
set_option maxHeartbeats 400000 in
theorem lines_limit (s : ByteArray) (w : World) (h : 65536 < s.size) : Calls Tryd.prog 39 #[.string s] w (LinesPost (bytes s) w) := by
  have Hf := Lib.hid (lines_of_limit h)
  go_enter Tryd.func39, Tryd.ntmps39
  go_wp2
  go_ret2
  exact linesPost_nil Hf.out (by omega) (Below.refl _ _)

set_option maxRecDepth 4000 in
set_option maxHeartbeats 400000 in
theorem lines_bad (s : ByteArray) (w : World) (h : ¬ 65536 < s.size) (hv : validAll (bytes s) = false) : Calls Tryd.prog 39 #[.string s] w (LinesPost (bytes s) w) := by
  have Hf := Lib.hid (lines_of_bad h hv)
  have Hv : Hid (validAll ((bytes s).drop 0) = false) := Lib.hid (by simpa using hv)
  clear hv
  have d1 : decide ((65536 : Int) < s.size) = false := by simp; omega
  go_enter Tryd.func39, Tryd.ntmps39
  go_wp2
  go_loop [2, 3, 4, 5] (fun _ _ i _ => ∃ k : Nat, k ≤ s.size ∧ i = .int .i64 k ∧ Hid (validAll ((bytes s).drop k) = false)) (fun _ _ i _ => s.size - (intOf i).toNat)
  case atStart => exact ⟨0, by omega, rfl, Hv⟩
  case round =>
    obtain ⟨k, hk, rfl, H⟩ := hrel
    by_cases hlt : k < s.size
    · have E := Lib.hid (valid_step s k hlt)
      cases hc : validC s[k].toNat with
      | true =>
        rcases valid_yes hc with h1 | ⟨h1, h2⟩ | ⟨h1, h2, h3, h4⟩
        all_goals
          go_wp2
          go_round
          case rel => exact ⟨k + 1, by omega, by go_num, Lib.hid (by have := H.out; rw [E.out, hc] at this; exact this)⟩
          case measure => simp [intOf]; omega
      | false =>
        obtain ⟨h1, h2, h3⟩ := valid_no hc
        rcases h3 with h3 | h3
        all_goals
          go_wp2
          go_ret2
          exact linesPost_nil Hf.out (by omega) (Below.refl _ _)
    · have := H.out
      rw [drop_end s k hlt] at this
      cases this

set_option maxRecDepth 4000 in
set_option maxHeartbeats 800000 in
theorem lines_ok (s : ByteArray) (w : World) (h : ¬ 65536 < s.size) (hv : validAll (bytes s) = true) : Calls Tryd.prog 39 #[.string s] w (LinesPost (bytes s) w) := by
  obtain ⟨i0, hi0, hz0, hz1, hz2⟩ := info_parts Tryd.strInfo
  have Hi0 := Lib.hid hi0
  have Hz0 := Lib.hid hz0
  have Hz1 := Lib.hid hz1
  have Hz2 := Lib.hid hz2
  clear hi0 hz0 hz1 hz2
  have Hf := Lib.hid (lines_of_ok h hv)
  have Hv : Hid (validAll ((bytes s).drop 0) = true) := Lib.hid (by simpa using hv)
  clear hv
  have d1 : decide ((65536 : Int) < s.size) = false := by simp; omega
  go_enter Tryd.func39, Tryd.ntmps39
  go_wp2
  go_loop [2, 3, 4, 5] (fun a b i _ => ∃ k : Nat, k ≤ s.size ∧ i = .int .i64 k ∧ a = .slice none 0 0 ∧ b = .int .i64 0 ∧ Hid (validAll ((bytes s).drop k) = true)) (fun _ _ i _ => s.size - (intOf i).toNat)
  case atStart => exact ⟨0, by omega, rfl, rfl, rfl, Hv⟩
  case round =>
    obtain ⟨k, hk, rfl, rfl, rfl, H⟩ := hrel
    by_cases hlt : k < s.size
    · have E := Lib.hid (valid_step s k hlt)
      cases hc : validC s[k].toNat with
      | true =>
        rcases valid_yes hc with h1 | ⟨h1, h2⟩ | ⟨h1, h2, h3, h4⟩
        all_goals
          go_wp2
          go_round
          case rel => exact ⟨k + 1, by omega, by go_num, rfl, rfl, Lib.hid (by have := H.out; rw [E.out, hc] at this; exact this)⟩
          case measure => simp [intOf]; omega
      | false =>
        have := H.out
        rw [E.out, hc] at this
        cases this
    · clear H Hv
      have hk2 : k = s.size := by omega
      subst hk2
      go_wp2
      go_loopw [6, 7, 8] (fun v st i wr => ∃ (a k : Nat) (xs : List (List UInt8)), a ≤ k ∧ k ≤ s.size ∧ xs.length ≤ k ∧ i = .int .i64 k ∧ st = .int .i64 a ∧
          wr.ownsRow w.heap.size 9 1 v xs.length (xs.map strV) ∧ Below w.heap.size w wr ∧ Hid (linesOf (bytes s) = xs ++ linesGo (sub (bytes s) a k) ((bytes s).drop k))) (fun _ _ i _ => s.size - (intOf i).toNat)
      case atStart => exact ⟨0, 0, [], by omega, by omega, by simp, rfl, rfl, World.ownsRow_nil _ _ _ _, Below.refl _ _, Lib.hid (by rw [sub_self, List.drop_zero]; rfl)⟩
      case round =>
        obtain ⟨a, k, xs, ha, hk, hx, rfl, rfl, hown, hb, H⟩ := hrel
        have hsz := hb.size
        by_cases hlt : k < s.size
        · cases hc : ((s[k].toNat : Int) == 10) with
          | true =>
            have E := Lib.hid (linesGo_feed s a k hlt hc)
            go_wp2_with (first | (at_builtin; refine wpList_append1 _ rfl _ _ 42 rfl w.heap.size 9 i0 _ 1 16 Tryd.underlying42 Hi0.out Hz0.out Hz1.out Hz2.out rfl (by decide) _ xs.length (xs.map strV) rfl hown #[.string (s.extract a k)] rfl rfl (one_str _) (by omega) (by decide) hsz ?_; intro v1 w1 hown1 hb1))
            go_roundw
            case rel => exact ⟨k + 1, k + 1, xs ++ [sub (bytes s) a k], by omega, by omega, by simp; omega, by go_num, by go_num, by rw [ext_v, map_snoc] at hown1; simpa using hown1, hb.trans hb1, Lib.hid (app1 (by rw [H.out, E.out]))⟩
            case measure => simp [intOf]; omega
          | false =>
            have E := Lib.hid (linesGo_else s a k ha hlt hc)
            go_wp2
            go_roundw
            case rel => exact ⟨a, k + 1, xs, by omega, by omega, by omega, by go_num, rfl, hown, hb, Lib.hid (by rw [H.out, E.out])⟩
            case measure => simp [intOf]; omega
        · have E := Lib.hid (linesGo_end s a k (by omega) ha)
          by_cases hal : a < s.size
          · go_wp2_with (first | (at_builtin; refine wpList_append1 _ rfl _ _ 42 rfl w.heap.size 9 i0 _ 1 16 Tryd.underlying42 Hi0.out Hz0.out Hz1.out Hz2.out rfl (by decide) _ xs.length (xs.map strV) rfl hown #[.string (s.extract a s.size)] rfl rfl (one_str _) (by omega) (by decide) hsz ?_; intro v1 w1 hown1 hb1))
            go_ret2
            refine linesPost_ok Hf.out (n := xs.length + 1) (xs := xs ++ [sub (bytes s) a s.size]) (by rw [H.out, E.out, if_pos hal]) (by simp) ?_ (hb.trans hb1)
            rw [ext_v, map_snoc] at hown1
            exact hown1
          · go_wp2
            go_ret2
            exact linesPost_ok Hf.out (by rw [H.out, E.out, if_neg hal, List.append_nil]) rfl hown hb

theorem lines_any (s : ByteArray) (w : World) : Calls Tryd.prog 39 #[.string s] w (LinesPost (bytes s) w) := by
  by_cases h : 65536 < s.size
  · exact lines_limit s w h
  · cases hv : validAll (bytes s) with
    | true => exact lines_ok s w h hv
    | false => exact lines_bad s w h hv

set_option maxRecDepth 4000 in
set_option maxHeartbeats 800000 in
theorem rlines_limit (s : ByteArray) (w : World) (h : 65536 < s.size) : Calls Tryd.prog 43 #[.string s] w (LinesPost (bytes s) w) := by
  have Hf := Lib.hid (lines_of_limit h)
  go_enter Tryd.func43, Tryd.ntmps43
  go_wp2
  go_ret2
  exact linesPost_nil Hf.out (by omega) (Below.refl _ _)

theorem valid_feed {c : Int} (h : (c == 10) = true) : (c != 9) = true ∧ (c != 10) = false ∧ validC c = true := by
  have : c = 10 := by simpa using h
  subst this
  decide
theorem valid_cases {c : Int} (h : (c == 10) = false) (hv : validC c = true) : (c != 9) = false ∨ ((c != 9) = true ∧ (c != 10) = true ∧ 32 ≤ c ∧ c ≤ 126) := by
  rcases valid_yes hv with h1 | ⟨h1, h2⟩ | ⟨h1, h2, h3, h4⟩
  · exact .inl h1
  · simp [bne, h] at h2
  · exact .inr ⟨h1, h2, h3, h4⟩

set_option maxRecDepth 4000 in
set_option maxHeartbeats 800000 in
theorem rlines_rest (s : ByteArray) (w : World) (h : ¬ 65536 < s.size) : Calls Tryd.prog 43 #[.string s] w (LinesPost (bytes s) w) := by
  obtain ⟨i0, hi0, hz0, hz1, hz2⟩ := info_parts Tryd.strInfo
  have Hi0 := Lib.hid hi0
  have Hz0 := Lib.hid hz0
  have Hz1 := Lib.hid hz1
  have Hz2 := Lib.hid hz2
  clear hi0 hz0 hz1 hz2
  have Hok := Lib.hid (fun hv => lines_of_ok (s := s) h hv)
  have Hbad := Lib.hid (fun hv => lines_of_bad (s := s) h hv)
  have d1 : decide ((65536 : Int) < s.size) = false := by simp; omega
  go_enter Tryd.func43, Tryd.ntmps43
  go_wp2
  go_loopw [2, 3, 4, 5, 6, 7] (fun _ _ v st i _ wr => ∃ (a k : Nat) (xs : List (List UInt8)), a ≤ k ∧ k ≤ s.size ∧ xs.length ≤ k ∧ i = .int .i64 k ∧ st = .int .i64 a ∧
      wr.ownsRow w.heap.size 9 1 v xs.length (xs.map strV) ∧ Below w.heap.size w wr ∧ Hid (linesOf (bytes s) = xs ++ linesGo (sub (bytes s) a k) ((bytes s).drop k)) ∧ Hid (validAll (bytes s) = validAll ((bytes s).drop k))) (fun _ _ _ _ i _ _ => s.size - (intOf i).toNat)
  case atStart => exact ⟨0, 0, [], by omega, by omega, by simp, rfl, rfl, World.ownsRow_nil _ _ _ _, Below.refl _ _, Lib.hid (by rw [sub_self, List.drop_zero]; rfl), Lib.hid (by rw [List.drop_zero])⟩
  case round =>
    obtain ⟨a, k, xs, ha, hk, hx, rfl, rfl, hown, hb, H, HV⟩ := hrel
    have hsz := hb.size
    by_cases hlt : k < s.size
    · have EV := Lib.hid (valid_step s k hlt)
      cases hc : ((s[k].toNat : Int) == 10) with
      | true =>
        have E := Lib.hid (linesGo_feed s a k hlt hc)
        obtain ⟨h1, h2, h3⟩ := valid_feed hc
        have H3 := Lib.hid h3; clear h3
        go_wp2_with (first | (at_builtin; refine wpList_append1 _ rfl _ _ 42 rfl w.heap.size 9 i0 _ 1 16 Tryd.underlying42 Hi0.out Hz0.out Hz1.out Hz2.out rfl (by decide) _ xs.length (xs.map strV) rfl hown #[.string (s.extract a k)] rfl rfl (one_str _) (by omega) (by decide) hsz ?_; intro v1 w1 hown1 hb1))
        go_roundw
        case rel => exact ⟨k + 1, k + 1, xs ++ [sub (bytes s) a k], by omega, by omega, by simp; omega, by go_num, by go_num, by rw [ext_v, map_snoc] at hown1; simpa using hown1, hb.trans hb1, Lib.hid (app1 (by rw [H.out, E.out])), Lib.hid (by rw [HV.out, EV.out, H3.out]; rfl)⟩
        case measure => simp [intOf]; omega
      | false =>
        have E := Lib.hid (linesGo_else s a k ha hlt hc)
        cases hv : validC s[k].toNat with
        | true =>
          rcases valid_cases hc hv with h1 | ⟨h1, h2, h3, h4⟩
          all_goals
            go_wp2
            go_roundw
            case rel => exact ⟨a, k + 1, xs, by omega, by omega, by omega, by go_num, rfl, hown, hb, Lib.hid (by rw [H.out, E.out]), Lib.hid (by rw [HV.out, EV.out, hv]; rfl)⟩
            case measure => simp [intOf]; omega
        | false =>
          obtain ⟨h1, h2, h3⟩ := valid_no hv
          have HF := Lib.hid (Hbad.out (by rw [HV.out, EV.out, hv]; rfl))
          rcases h3 with h3 | h3
          all_goals
            go_wp2
            go_ret2
            exact linesPost_nil HF.out (by omega) hb
    · have E := Lib.hid (linesGo_end s a k (by omega) ha)
      have Hf := Lib.hid (Hok.out (by rw [HV.out, drop_end s k hlt]; rfl))
      by_cases hal : a < s.size
      · go_wp2_with (first | (at_builtin; refine wpList_append1 _ rfl _ _ 42 rfl w.heap.size 9 i0 _ 1 16 Tryd.underlying42 Hi0.out Hz0.out Hz1.out Hz2.out rfl (by decide) _ xs.length (xs.map strV) rfl hown #[.string (s.extract a s.size)] rfl rfl (one_str _) (by omega) (by decide) hsz ?_; intro v1 w1 hown1 hb1))
        go_ret2
        refine linesPost_ok Hf.out (n := xs.length + 1) (xs := xs ++ [sub (bytes s) a s.size]) (by rw [H.out, E.out, if_pos hal]) (by simp) ?_ (hb.trans hb1)
        rw [ext_v, map_snoc] at hown1
        exact hown1
      · go_wp2
        go_ret2
        exact linesPost_ok Hf.out (by rw [H.out, E.out, if_neg hal, List.append_nil]) rfl hown hb
theorem rlines_any (s : ByteArray) (w : World) : Calls Tryd.prog 43 #[.string s] w (LinesPost (bytes s) w) := by
  by_cases h : 65536 < s.size
  · exact rlines_limit s w h
  · exact rlines_rest s w h
end Go.Proofs.YtnhemjdmleilcaaDoor
