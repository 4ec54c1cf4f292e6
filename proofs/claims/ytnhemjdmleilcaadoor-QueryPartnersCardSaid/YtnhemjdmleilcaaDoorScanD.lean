/- The walks of Fields, the program's and the reference's. Condition: the line has at most 10^9 bytes. -/
import Derived.Test.YtnhemjdmleilcaaDoorScanC
namespace Go.Proofs.YtnhemjdmleilcaaDoor
open Go.RowKit

def FieldsPost (xs : List (List UInt8)) (w : World) (e : Ending) (w' : World) : Prop :=
  ∃ v, e = .returned v ∧ w'.ownsRow w.heap.size 9 1 v xs.length (xs.map strV) ∧ Below w.heap.size w w'

theorem fields_blank (cm : Int) (s : ByteArray) (k : Nat) (h : k < s.size) (hb : blankB s[k].toNat = true) : fieldsGo cm none ((bytes s).drop k) = fieldsGo cm none ((bytes s).drop (k + 1)) := by
  rw [drop_step s k h, fieldsGo, if_pos hb]
theorem fields_comment (cm : Int) (s : ByteArray) (k : Nat) (h : k < s.size) (hb : blankB s[k].toNat = false) (hc : ((s[k].toNat : Int) == cm) = true) : fieldsGo cm none ((bytes s).drop k) = [] := by
  rw [drop_step s k h, fieldsGo, if_neg (by simp [hb]), if_pos (by simpa using hc)]
theorem fields_open (cm : Int) (s : ByteArray) (k : Nat) (h : k < s.size) (hb : blankB s[k].toNat = false) (hc : ((s[k].toNat : Int) == cm) = false) :
    fieldsGo cm none ((bytes s).drop k) = fieldsGo cm (some (sub (bytes s) k k)) ((bytes s).drop k) := by
  rw [drop_step s k h, fieldsGo, if_neg (by simp [hb]), if_neg (by simpa using hc), fieldsGo, if_neg (by simp [hb]), sub_self]; rfl
theorem fields_on (cm : Int) (s : ByteArray) (a k : Nat) (ha : a ≤ k) (h : k < s.size) (hb : blankB s[k].toNat = false) :
    fieldsGo cm (some (sub (bytes s) a k)) ((bytes s).drop k) = fieldsGo cm (some (sub (bytes s) a (k + 1))) ((bytes s).drop (k + 1)) := by
  rw [drop_step s k h, fieldsGo, if_neg (by simp [hb]), sub_snoc s a k ha h]
theorem fields_shut (cm : Int) (s : ByteArray) (a k : Nat) (h : k < s.size) (hb : blankB s[k].toNat = true) :
    fieldsGo cm (some (sub (bytes s) a k)) ((bytes s).drop k) = sub (bytes s) a k :: fieldsGo cm none ((bytes s).drop k) := by
  rw [drop_step s k h, fieldsGo, if_pos hb, fieldsGo, if_pos hb]
theorem fields_last (cm : Int) (s : ByteArray) (a k : Nat) (h : ¬ k < s.size) :
    fieldsGo cm (some (sub (bytes s) a k)) ((bytes s).drop k) = sub (bytes s) a k :: fieldsGo cm none ((bytes s).drop k) := by
  rw [drop_end s k h]; rfl
theorem fields_end (cm : Int) (s : ByteArray) (k : Nat) (h : ¬ k < s.size) : fieldsGo cm none ((bytes s).drop k) = [] := by
  rw [drop_end s k h]; rfl
theorem fieldsPost_mk {xs ys : List (List UInt8)} {w w' : World} {v : Value} (e : xs = ys) (ho : w'.ownsRow w.heap.size 9 1 v ys.length (ys.map strV)) (hb : Below w.heap.size w w') : FieldsPost xs w (.returned v) w' :=
  ⟨v, rfl, by rw [e]; exact ho, hb⟩

set_option maxRecDepth 4000 in
set_option maxHeartbeats 1000000 in
theorem fields_any (s : ByteArray) (cm : Int) (w : World) (hs : s.size ≤ 1000000000) : Calls Tryd.prog 41 #[.string s, .int .u8 cm] w (FieldsPost (fieldsOf cm (bytes s)) w) := by
  obtain ⟨i0, hi0, hz0, hz1, hz2⟩ := info_parts Tryd.strInfo
  have Hi0 := Lib.hid hi0
  have Hz0 := Lib.hid hz0
  have Hz1 := Lib.hid hz1
  have Hz2 := Lib.hid hz2
  clear hi0 hz0 hz1 hz2
  go_enter Tryd.func41, Tryd.ntmps41
  go_wp2
  go_loopw [5, 6, 7] (fun v i _ wr => ∃ (k : Nat) (xs : List (List UInt8)), k ≤ s.size ∧ xs.length ≤ k ∧ i = .int .i64 k ∧
      wr.ownsRow w.heap.size 9 1 v xs.length (xs.map strV) ∧ Below w.heap.size w wr ∧ Hid (fieldsOf cm (bytes s) = xs ++ fieldsGo cm none ((bytes s).drop k))) (fun _ i _ _ => s.size - (intOf i).toNat)
  case atStart => exact ⟨0, [], by omega, by simp, rfl, World.ownsRow_nil _ _ _ _, Below.refl _ _, Lib.hid (by rw [List.drop_zero]; rfl)⟩
  case round =>
    obtain ⟨k, xs, hk, hx, rfl, hown, hb, H⟩ := hrel
    have hsz := hb.size
    by_cases hlt : k < s.size
    · cases hbl : blankB s[k].toNat with
      | true =>
        have E := Lib.hid (fields_blank cm s k hlt hbl)
        go_wp2_with (first | (go_at_call 71; refine (blank_any _ _).mono ?_; rintro e w' ⟨rfl, rfl⟩))
        go_roundw
        case rel => exact ⟨k + 1, xs, by omega, by omega, by go_num, hown, hb, Lib.hid (by rw [H.out, E.out])⟩
        case measure => simp [intOf]; omega
      | false =>
        cases hc : ((s[k].toNat : Int) == cm) with
        | true =>
          have E := Lib.hid (fields_comment cm s k hlt hbl hc)
          go_wp2_with (first | (go_at_call 71; refine (blank_any _ _).mono ?_; rintro e w' ⟨rfl, rfl⟩))
          go_ret
          exact fieldsPost_mk (by rw [H.out, E.out, List.append_nil]) hown hb
        | false =>
          have E := Lib.hid (fields_open cm s k hlt hbl hc)
          obtain ⟨wo, rfl⟩ : ∃ wo : World, wo = wr := ⟨_, rfl⟩
          go_wp2_with (first | (go_at_call 71; refine (blank_any _ _).mono ?_; rintro e w' ⟨rfl, rfl⟩))
          have H0 : Hid (fieldsOf cm (bytes s) = xs ++ fieldsGo cm (some (sub (bytes s) k k)) ((bytes s).drop k)) := Lib.hid (by rw [H.out, E.out])
          clear E H
          go_loop [6] (fun i => ∃ j : Nat, k ≤ j ∧ j ≤ s.size ∧ i = .int .i64 j ∧ Hid (j = k → blankB s[k].toNat = false) ∧ Hid (fieldsOf cm (bytes s) = xs ++ fieldsGo cm (some (sub (bytes s) k j)) ((bytes s).drop j))) (fun i => s.size - (intOf i).toNat)
          case atStart => exact ⟨k, by omega, by omega, rfl, Lib.hid (fun _ => hbl), H0⟩
          case round =>
            obtain ⟨j, hj1, hj2, rfl, HJ, H⟩ := hrel
            by_cases hlt2 : j < s.size
            · cases hbj : blankB s[j].toNat with
              | false =>
                have E := Lib.hid (fields_on cm s k j hj1 hlt2 hbj)
                go_wp2_with (first | (go_at_call 71; refine (blank_any _ _).mono ?_; rintro e w' ⟨rfl, rfl⟩))
                go_round
                case rel => exact ⟨j + 1, by omega, by omega, by go_num, Lib.hid (fun h => by omega), Lib.hid (by rw [H.out, E.out])⟩
                case measure => simp [intOf]; omega
              | true =>
                have E := Lib.hid (fields_shut cm s k j hlt2 hbj)
                have hjk : k < j := by
                  rcases Nat.lt_or_ge k j with h | h
                  · exact h
                  · have e : j = k := by omega
                    have := HJ.out e
                    subst e
                    rw [hbj] at this
                    cases this
                go_wp2_with (first | (go_at_call 71; refine (blank_any _ _).mono ?_; rintro e w' ⟨rfl, rfl⟩) | (at_builtin; refine wpList_append1 _ rfl _ _ 42 rfl w.heap.size 9 i0 _ 1 16 Tryd.underlying42 Hi0.out Hz0.out Hz1.out Hz2.out rfl (by decide) _ xs.length (xs.map strV) rfl hown #[.string (s.extract k j)] rfl rfl (one_str _) (by omega) (by decide) hsz ?_; intro v1 w1 hown1 hb1))
                go_roundw
                case rel => exact ⟨j, xs ++ [sub (bytes s) k j], by omega, by simp; omega, rfl, by rw [ext_v, map_snoc] at hown1; simpa using hown1, hb.trans hb1, Lib.hid (app1 (by rw [H.out, E.out]))⟩
                case measure => simp [intOf]; omega
            · have E := Lib.hid (fields_last cm s k j hlt2)
              go_wp2_with (first | (go_at_call 71; refine (blank_any _ _).mono ?_; rintro e w' ⟨rfl, rfl⟩) | (at_builtin; refine wpList_append1 _ rfl _ _ 42 rfl w.heap.size 9 i0 _ 1 16 Tryd.underlying42 Hi0.out Hz0.out Hz1.out Hz2.out rfl (by decide) _ xs.length (xs.map strV) rfl hown #[.string (s.extract k j)] rfl rfl (one_str _) (by omega) (by decide) hsz ?_; intro v1 w1 hown1 hb1))
              go_roundw
              case rel => exact ⟨j, xs ++ [sub (bytes s) k j], by omega, by simp; omega, rfl, by rw [ext_v, map_snoc] at hown1; simpa using hown1, hb.trans hb1, Lib.hid (app1 (by rw [H.out, E.out]))⟩
              case measure => simp [intOf]; omega
    · have E := Lib.hid (fields_end cm s k hlt)
      go_wp2_with fail
      go_ret
      exact fieldsPost_mk (by rw [H.out, E.out, List.append_nil]) hown hb

theorem blank_yes {c : Int} (h : blankB c = true) : (c == 9) = true ∨ ((c == 9) = false ∧ (c == 32) = true) := by
  simp only [blankB, Bool.or_eq_true] at h
  cases h9 : (c == 9)
  · simp [h9] at h; exact .inr ⟨rfl, by simp [h]⟩
  · exact .inl rfl
theorem blank_no {c : Int} (h : blankB c = false) : (c == 9) = false ∧ (c == 32) = false ∧ (c != 9) = true ∧ (c != 32) = true := by
  simp only [blankB, Bool.or_eq_false_iff] at h
  exact ⟨h.1, h.2, by simp [bne, h.1], by simp [bne, h.2]⟩
theorem blank_yes' {c : Int} (h : blankB c = true) : (c != 9) = false ∨ ((c != 9) = true ∧ (c != 32) = false) := by
  rcases blank_yes h with h | ⟨h1, h2⟩
  · exact .inl (by simp [bne, h])
  · exact .inr ⟨by simp [bne, h1], by simp [bne, h2]⟩

set_option maxRecDepth 4000 in
set_option maxHeartbeats 1000000 in
theorem rfields_any (s : ByteArray) (cm : Int) (w : World) (hs : s.size ≤ 1000000000) : Calls Tryd.prog 44 #[.string s, .int .u8 cm] w (FieldsPost (fieldsOf cm (bytes s)) w) := by
  obtain ⟨i0, hi0, hz0, hz1, hz2⟩ := info_parts Tryd.strInfo
  have Hi0 := Lib.hid hi0
  have Hz0 := Lib.hid hz0
  have Hz1 := Lib.hid hz1
  have Hz2 := Lib.hid hz2
  clear hi0 hz0 hz1 hz2
  go_enter Tryd.func44, Tryd.ntmps44
  go_wp2
  go_loopw [4, 5, 6, 7] (fun _ v i _ wr => ∃ (k : Nat) (xs : List (List UInt8)), k ≤ s.size ∧ xs.length ≤ k ∧ i = .int .i64 k ∧
      wr.ownsRow w.heap.size 9 1 v xs.length (xs.map strV) ∧ Below w.heap.size w wr ∧ Hid (fieldsOf cm (bytes s) = xs ++ fieldsGo cm none ((bytes s).drop k))) (fun _ _ i _ _ => s.size - (intOf i).toNat)
  case atStart => exact ⟨0, [], by omega, by simp, rfl, World.ownsRow_nil _ _ _ _, Below.refl _ _, Lib.hid (by rw [List.drop_zero]; rfl)⟩
  case round =>
    obtain ⟨k, xs, hk, hx, rfl, hown, hb, H⟩ := hrel
    have hsz := hb.size
    by_cases hlt : k < s.size
    · cases hbl : blankB s[k].toNat with
      | true =>
        have E := Lib.hid (fields_blank cm s k hlt hbl)
        rcases blank_yes hbl with h1 | ⟨h1, h2⟩
        all_goals
          go_wp2
          go_roundw
          case rel => exact ⟨k + 1, xs, by omega, by omega, by go_num, hown, hb, Lib.hid (by rw [H.out, E.out])⟩
          case measure => simp [intOf]; omega
      | false =>
        obtain ⟨h1, h2, h3, h4⟩ := blank_no hbl
        cases hc : ((s[k].toNat : Int) == cm) with
        | true =>
          have E := Lib.hid (fields_comment cm s k hlt hbl hc)
          go_wp2
          go_ret
          exact fieldsPost_mk (by rw [H.out, E.out, List.append_nil]) hown hb
        | false =>
          have E := Lib.hid (fields_open cm s k hlt hbl hc)
          obtain ⟨wo, rfl⟩ : ∃ wo : World, wo = wr := ⟨_, rfl⟩
          go_wp2
          have H0 : Hid (fieldsOf cm (bytes s) = xs ++ fieldsGo cm (some (sub (bytes s) k k)) ((bytes s).drop k)) := Lib.hid (by rw [H.out, E.out])
          clear E H
          go_loop [7] (fun i => ∃ j : Nat, k ≤ j ∧ j ≤ s.size ∧ i = .int .i64 j ∧ Hid (j = k → blankB s[k].toNat = false) ∧ Hid (fieldsOf cm (bytes s) = xs ++ fieldsGo cm (some (sub (bytes s) k j)) ((bytes s).drop j))) (fun i => s.size - (intOf i).toNat)
          case atStart => exact ⟨k, by omega, by omega, rfl, Lib.hid (fun _ => hbl), H0⟩
          case round =>
            clear h1 h2 h3 h4
            obtain ⟨j, hj1, hj2, rfl, HJ, H⟩ := hrel
            by_cases hlt2 : j < s.size
            · cases hbj : blankB s[j].toNat with
              | false =>
                have E := Lib.hid (fields_on cm s k j hj1 hlt2 hbj)
                obtain ⟨h1, h2, h3, h4⟩ := blank_no hbj
                go_wp2
                go_round
                case rel => exact ⟨j + 1, by omega, by omega, by go_num, Lib.hid (fun h => by omega), Lib.hid (by rw [H.out, E.out])⟩
                case measure => simp [intOf]; omega
              | true =>
                have E := Lib.hid (fields_shut cm s k j hlt2 hbj)
                have hjk : k < j := by
                  rcases Nat.lt_or_ge k j with h | h
                  · exact h
                  · have e : j = k := by omega
                    have := HJ.out e
                    subst e
                    rw [hbj] at this
                    cases this
                rcases blank_yes' hbj with h1 | ⟨h1, h2⟩
                all_goals
                  go_wp2_with (first | (at_builtin; refine wpList_append1 _ rfl _ _ 42 rfl w.heap.size 9 i0 _ 1 16 Tryd.underlying42 Hi0.out Hz0.out Hz1.out Hz2.out rfl (by decide) _ xs.length (xs.map strV) rfl hown #[.string (s.extract k j)] rfl rfl (one_str _) (by omega) (by decide) hsz ?_; intro v1 w1 hown1 hb1))
                  go_roundw
                  case rel => exact ⟨j, xs ++ [sub (bytes s) k j], by omega, by simp; omega, rfl, by rw [ext_v, map_snoc] at hown1; simpa using hown1, hb.trans hb1, Lib.hid (app1 (by rw [H.out, E.out]))⟩
                  case measure => simp [intOf]; omega
            · have E := Lib.hid (fields_last cm s k j hlt2)
              go_wp2_with (first | (at_builtin; refine wpList_append1 _ rfl _ _ 42 rfl w.heap.size 9 i0 _ 1 16 Tryd.underlying42 Hi0.out Hz0.out Hz1.out Hz2.out rfl (by decide) _ xs.length (xs.map strV) rfl hown #[.string (s.extract k j)] rfl rfl (one_str _) (by omega) (by decide) hsz ?_; intro v1 w1 hown1 hb1))
              go_roundw
              case rel => exact ⟨j, xs ++ [sub (bytes s) k j], by omega, by simp; omega, rfl, by rw [ext_v, map_snoc] at hown1; simpa using hown1, hb.trans hb1, Lib.hid (app1 (by rw [H.out, E.out]))⟩
              case measure => simp [intOf]; omega
    · have E := Lib.hid (fields_end cm s k hlt)
      go_wp2
      go_ret
      exact fieldsPost_mk (by rw [H.out, E.out, List.append_nil]) hown hb
end Go.Proofs.YtnhemjdmleilcaaDoor
