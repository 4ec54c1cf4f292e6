/- The walk of the law ScanJoin. No condition. -/
import Derived.Test.YtiakkcipbpbkbaaLawB
import Derived.Test.YtiakkcipbpbkbaaArgs
namespace Go.Proofs.Ytiakkcipbpbkbaa
open Go.RowKit

def joinSp (ws : List (List UInt8)) : List UInt8 := ws.flatMap (fun x => x ++ [32])
def noBlank (l : List UInt8) : Bool := l.all fun b => !blankB b.toNat
/-- A word that ScanJoin takes: 1 to 40 bytes, none of them blank, the first one no exclamation mark. -/
def joinOk : List UInt8 → Prop
  | [] => False
  | b :: r => (b :: r).length ≤ 40 ∧ (b.toNat : Int) ≠ 33 ∧ noBlank (b :: r) = true
theorem join_len : ∀ (ws : List (List UInt8)), (∀ x ∈ ws, joinOk x) → (joinSp ws).length ≤ 41 * ws.length := by
  intro ws
  induction ws with
  | nil => intro _; simp [joinSp]
  | cons x r ih =>
    intro h
    have h1 := h x (by simp)
    have h2 := ih (fun y hy => h y (by simp [hy]))
    have h3 : x.length ≤ 40 := by cases x with | nil => exact h1.elim | cons b r => exact h1.1
    simp only [joinSp, List.flatMap_cons, List.length_append, List.length_cons, List.length_nil] at h2 ⊢
    omega
theorem fields_some (cm : Int) (t : List UInt8) : ∀ (x p : List UInt8), noBlank x = true → fieldsGo cm (some p) (x ++ 32 :: t) = (p ++ x) :: fieldsGo cm none t := by
  intro x
  induction x with
  | nil => intro p _; simp [fieldsGo, blankB]
  | cons b r ih =>
    intro p h
    simp only [noBlank, List.all_cons, Bool.and_eq_true, Bool.not_eq_true'] at h
    simp only [List.cons_append, fieldsGo, h.1]
    rw [if_neg (by simp), ih (p ++ [b]) h.2]
    simp
theorem fields_word (t x : List UInt8) (h : joinOk x) : fieldsGo 33 none (x ++ 32 :: t) = x :: fieldsGo 33 none t := by
  cases x with
  | nil => exact h.elim
  | cons b r =>
    obtain ⟨_, h1, h2⟩ := h
    simp only [noBlank, List.all_cons, Bool.and_eq_true, Bool.not_eq_true'] at h2
    simp only [List.cons_append, fieldsGo, h2.1]
    rw [if_neg (by simp), if_neg h1, fields_some 33 t r [b] h2.2]; rfl
theorem fields_join (t : List UInt8) : ∀ (ws : List (List UInt8)), (∀ x ∈ ws, joinOk x) → fieldsGo 33 none (joinSp ws ++ t) = ws ++ fieldsGo 33 none t := by
  intro ws
  induction ws with
  | nil => intro _; rfl
  | cons x r ih =>
    intro h
    have e : joinSp (x :: r) ++ t = x ++ 32 :: (joinSp r ++ t) := by simp [joinSp]
    rw [e, fields_word _ x (h x (by simp)), ih (fun y hy => h y (by simp [hy]))]; rfl
theorem fields_join1 (ws : List (List UInt8)) (h : ∀ x ∈ ws, joinOk x) : fieldsOf 33 (joinSp ws) = ws := by
  have := fields_join [] ws h
  simpa [fieldsOf, fieldsGo] using this
theorem fields_join2 (ws : List (List UInt8)) (h : ∀ x ∈ ws, joinOk x) : fieldsOf 33 (9 :: (joinSp ws ++ [33, 120, 32, 121])) = ws := by
  unfold fieldsOf
  rw [fieldsGo, if_pos (by decide), fields_join _ ws h]
  simp [fieldsGo, blankB]
theorem join_snoc (ws : List (List UInt8)) (x : List UInt8) : joinSp (ws ++ [x]) = joinSp ws ++ x ++ [32] := by simp [joinSp]
theorem ok_snoc {ws : List (List UInt8)} {x : List UInt8} (h : ∀ y ∈ ws, joinOk y) (hx : joinOk x) : ∀ y ∈ ws ++ [x], joinOk y := by
  intro y hy
  rcases List.mem_append.1 hy with h1 | h1
  · exact h y h1
  · obtain rfl : y = x := by simpa using h1
    exact hx
theorem take_snoc {α : Type} (l : List α) (k : Nat) (h : k < l.length) : l.take (k + 1) = l.take k ++ [l[k]] := List.take_succ_eq_append_getElem h
theorem noBlank_step (s : ByteArray) (k : Nat) (h : k < s.size) : noBlank ((bytes s).drop k) = (!blankB s[k].toNat && noBlank ((bytes s).drop (k + 1))) := by
  rw [drop_step s k h]; rfl
theorem joinOk_mk {s : ByteArray} (h1 : 0 < s.size) (h2 : s.size ≤ 40) (h3 : ((s[0].toNat : Int) == 33) = false) (h4 : noBlank (bytes s) = true) : joinOk (bytes s) := by
  have hl := bytes_len s
  have e : bytes s = s[0] :: (bytes s).drop 1 := by
    conv => lhs; rw [← List.drop_zero (l := bytes s), drop_step s 0 h1]
  rw [e] at h4 hl ⊢
  exact ⟨by rw [hl]; exact h2, by simpa using h3, h4⟩
theorem sp_app (a b : List UInt8) : str a ++ str b ++ (⟨#[32]⟩ : ByteArray) = str (a ++ b ++ [32]) := by rw [str_app]; exact str_app _ [32]
theorem tab_app (l : List UInt8) : (⟨#[9]⟩ : ByteArray) ++ str l ++ (⟨#[33, 120, 32, 121]⟩ : ByteArray) = str (9 :: (l ++ [33, 120, 32, 121])) := by
  have h1 : (⟨#[9]⟩ : ByteArray) ++ str l = str (9 :: l) := str_app [9] l
  rw [h1]; exact str_app (9 :: l) [33, 120, 32, 121]

set_option maxHeartbeats 1000000 in
theorem scanJoin_walk (A : Option Addr) (len cap : Nat) (zs : List (List UInt8)) (w : World) (hS : StrsArg w A len cap zs) : Calls Try.prog 6 #[.slice A len cap] w fun e w' => e = .returned (.bool true) ∧ Below w.heap.size w w' := by
  obtain ⟨hs, hlen, _⟩ := hS
  by_cases h0 : 30 < len
  · clear hs hlen
    go_enter Try.func6, Try.ntmps6
    go_wp2_with fail
    go_ret
    exact ⟨rfl, Below.refl _ _⟩
  have d0 : decide ((30 : Int) < len) = false := by simp; omega
  have HS := Lib.hid hs
  have HL := Lib.hid hlen
  clear hs hlen
  go_enter Try.func6, Try.ntmps6
  go_wp2_with fail
  go_loop [2, 3, 4, 5, 6] (fun _ l i _ _ => ∃ k : Nat, k ≤ len ∧ i = .int .i64 k ∧ l = .string (str (joinSp (zs.take k))) ∧ Hid (∀ y ∈ zs.take k, joinOk y)) (fun _ _ i _ _ => len - (intOf i).toNat)
  case atStart => exact ⟨0, by omega, rfl, rfl, Lib.hid (by simp)⟩
  case round =>
    obtain ⟨k, hk, rfl, rfl, H⟩ := hrel
    by_cases hlt : k < len
    · have hzl : k < zs.length := by rw [← HL.out]; exact hlt
      obtain ⟨g, o, eA, _, c1⟩ := slc_at HS.out HL.out hzl
      have T := Lib.hid (take_snoc zs k hzl)
      have hjl : (str (joinSp (zs.take k))).size ≤ 1230 := by
        rw [str_size]
        have := join_len _ H.out
        rw [List.length_take] at this
        omega
      generalize zs[k] = z at c1 T
      unfold strV at c1
      obtain ⟨s, rfl⟩ : ∃ s : ByteArray, bytes s = z := ⟨str z, bytes_str z⟩
      rw [str_bytes] at c1
      subst eA
      clear hzl
      generalize hj : joinSp (zs.take k) = jn at *
      have HJ := Lib.hid hj
      clear hj
      by_cases h1 : s.size < 1
      · go_wp2_with fail
        go_ret
        exact ⟨rfl, Below.refl _ _⟩
      have e1 : decide ((s.size : Int) < 1) = false := by simp; omega
      by_cases h2 : 40 < s.size
      · go_wp2_with fail
        go_ret
        exact ⟨rfl, Below.refl _ _⟩
      have e2 : decide ((40 : Int) < s.size) = false := by simp; omega
      cases h3 : ((s[0].toNat : Int) == 33) with
      | true =>
        go_wp2_with fail
        go_ret
        exact ⟨rfl, Below.refl _ _⟩
      | false =>
        go_wp2_with fail
        go_loop [2, 6] (fun _ i => ∃ m : Nat, m ≤ s.size ∧ i = .int .i64 m ∧ Hid (noBlank (bytes s) = noBlank ((bytes s).drop m))) (fun _ i => s.size - (intOf i).toNat)
        case atStart => exact ⟨0, by omega, rfl, Lib.hid (by rw [List.drop_zero])⟩
        case round =>
          obtain ⟨m, hm, rfl, HN⟩ := hrel
          by_cases hlt2 : m < s.size
          · cases hb : blankB s[m].toNat with
            | true =>
              rcases blank_yes hb with h5 | ⟨h5, h6⟩
              all_goals
                go_wp2_with fail
                go_ret
                exact ⟨rfl, Below.refl _ _⟩
            | false =>
              have E := Lib.hid (noBlank_step s m hlt2)
              obtain ⟨h5, h6, h7, h8⟩ := blank_no hb
              go_wp2_with fail
              go_round
              case rel => exact ⟨m + 1, by omega, by go_num, Lib.hid (by rw [HN.out, E.out, hb]; rfl)⟩
              case measure => simp [intOf]; omega
          · have HB : Hid (joinOk (bytes s)) := Lib.hid (joinOk_mk (by omega) (by omega) h3 (by rw [HN.out, drop_end s m hlt2]; rfl))
            go_wp2_with fail
            go_round
            case rel => exact ⟨k + 1, by omega, by go_num, by rw [T.out, join_snoc, HJ.out, ← sp_app, str_bytes], Lib.hid (by rw [T.out]; exact ok_snoc H.out HB.out)⟩
            case measure => simp [intOf]; omega
    · have ek : zs.take k = zs := List.take_of_length_le (by rw [← HL.out]; omega)
      rw [ek] at H ⊢
      have hjl : (str (joinSp zs)).size ≤ 1230 := by
        rw [str_size]
        have := join_len _ H.out
        rw [← HL.out] at this
        omega
      clear ek
      have HJ := Lib.hid (fields_join1 zs H.out)
      have HK := Lib.hid (fields_join2 zs H.out)
      go_wp2_with fail
      refine (fields_any _ _ _ (by omega)).mono ?_
      rw [bytes_str, HJ.out]
      rintro e w1 ⟨v1, rfl, ho1, hb1⟩
      have h1 := hb1.size
      have S0 : Slc w1 w1.heap.size 1 (.slice A len cap) zs.length (zs.map strV) := by
        rw [← HL.out]; exact (HS.out.below hb1).mono h1
      go_wp2_with fail
      refine (strings_same (Slc.of_own ho1) S0).mono ?_
      rintro e w2 ⟨rfl, hb2⟩
      have h2 := hb2.size
      clear S0 ho1
      go_wp2_with fail
      rw [tab_app]
      refine (fields_any _ _ _ (by rw [str_size] at hjl ⊢; simp; omega)).mono ?_
      rw [bytes_str, HK.out]
      rintro e w3 ⟨v3, rfl, ho3, hb3⟩
      have h3 := hb3.size
      have hb13 : Below w.heap.size w w3 := (hb1.trans (hb2.mono (by omega))).trans (hb3.mono (by omega))
      have S0 : Slc w3 w3.heap.size 1 (.slice A len cap) zs.length (zs.map strV) := by
        rw [← HL.out]; exact (HS.out.below hb13).mono hb13.size
      go_wp2_with fail
      refine (strings_same (Slc.of_own ho3) S0).mono ?_
      rintro e w4 ⟨rfl, hb4⟩
      have h4 := hb4.size
      clear S0 ho3
      go_wp2_with fail
      refine (sane1_any _).mono ?_
      rintro e w5 ⟨rfl, hb5⟩
      go_wp2_with fail
      go_ret
      exact ⟨rfl, (hb13.trans (hb4.mono (by omega))).trans (hb5.mono (by omega))⟩
end Go.Proofs.Ytiakkcipbpbkbaa
