/- The walk of the reference's Flip, with bare and exchanged. Condition: no line is longer than 10^9 bytes. -/
import Derived.Test.YtpclacofcfbpjaaDoorEditF
namespace Go.Proofs.YtpclacofcfbpjaaDoor
open Go.RowKit

theorem rblank_any (c : Int) (w : World) : Calls Tryd.prog 24 #[.int .u8 c] w fun e w' => e = .returned (.bool (blankB c)) ∧ w = w' := by
  go_enter Tryd.func24, Tryd.ntmps24
  go_wp2
  all_goals (go_ret; refine ⟨?_, rfl⟩; simp_all [blankB])
def lenOf : Value → Nat
  | .string s => s.size
  | _ => 0
theorem bytes_last (r : ByteArray) (h : 0 < r.size) : bytes r = bytes (r.extract 0 (r.size - 1)) ++ [r[r.size - 1]] := by
  have e := sub_snoc r 0 (r.size - 1) (by omega) (by omega)
  rw [show r.size - 1 + 1 = r.size from by omega, sub_all] at e
  rw [ext_eq, bytes_str]; exact e
theorem byte_eq {b : UInt8} {n : Nat} (h : ((b.toNat : Int) == n) = true) (c : UInt8) (hc : c.toNat = n) : b = c := by
  have : (b.toNat : Int) = n := by simpa using h
  exact UInt8.toNat_inj.1 (by omega)
theorem bare_step (r : ByteArray) (h : 0 < r.size) (hc : ((r[r.size - 1].toNat : Int) == 59) = true) : bareOf (bytes r) = bareOf (bytes (r.extract 0 (r.size - 1))) := by
  rw [bytes_last r h, bare_snoc, if_pos (byte_eq (n := 59) hc 59 rfl)]
theorem bare_stop (r : ByteArray) (h : 0 < r.size) (hc : ((r[r.size - 1].toNat : Int) == 59) = false) : bareOf (bytes r) = bytes r := by
  conv => lhs; rw [bytes_last r h]
  rw [bare_snoc, if_neg, ← bytes_last r h]
  intro e
  rw [e] at hc
  simp at hc
theorem bare_none (r : ByteArray) (h : ¬ 0 < r.size) : bareOf (bytes r) = bytes r := by
  rw [List.eq_nil_of_length_eq_zero (by rw [bytes_len]; omega : (bytes r).length = 0)]; rfl
theorem bare_any (s : ByteArray) (w : World) (hs : s.size ≤ 1000000000) : Calls Tryd.prog 26 #[.string s] w fun e w' => e = .returned (.string (str (bareOf (bytes s)))) ∧ w = w' := by
  go_enter Tryd.func26, Tryd.ntmps26
  go_wp2_with fail
  go_loop [0] (fun v => ∃ r : ByteArray, r.size ≤ 1000000000 ∧ v = .string r ∧ Hid (bareOf (bytes s) = bareOf (bytes r))) (fun v => lenOf v)
  case atStart => exact ⟨s, hs, rfl, Lib.hid rfl⟩
  case round =>
    obtain ⟨r, hr, rfl, H⟩ := hrel
    by_cases h0 : 0 < r.size
    · cases hc : ((r[r.size - 1].toNat : Int) == 59) with
      | true =>
        have E := Lib.hid (bare_step r h0 hc)
        have b1 : (0 : Int) ≤ (r.size : Int) - 1 := by omega
        go_wp2_with fail
        go_round
        case rel => exact ⟨r.extract 0 (r.size - 1), by simp; omega, rfl, Lib.hid (by rw [H.out, E.out])⟩
        case measure => simp [lenOf]; omega
      | false =>
        have E := Lib.hid (bare_stop r h0 hc)
        have b1 : (0 : Int) ≤ (r.size : Int) - 1 := by omega
        go_wp2_with fail
        go_ret
        exact ⟨ret_str (by rw [H.out, E.out, str_bytes]), rfl⟩
    · have E := Lib.hid (bare_none r h0)
      have d0 : decide (0 < r.size) = false := decide_eq_false h0
      go_wp2_with fail
      go_ret
      exact ⟨ret_str (by rw [H.out, E.out, str_bytes]), rfl⟩

def excOf (ls : List (List UInt8)) (x : List UInt8) : List UInt8 := if actB x then oppOf ls x else []
theorem exc1 {ls : List (List UInt8)} {x : List UInt8} (h : x = wPermit) : excOf ls x = wDeny := by subst h; rfl
theorem exc2 {ls : List (List UInt8)} {x : List UInt8} (h : x = wDeny) : excOf ls x = wPermit := by subst h; rfl
theorem exc3 {ls : List (List UInt8)} {x : List UInt8} (h : x = wReject) : excOf ls x = wAccept := by subst h; rfl
theorem exc4 {ls : List (List UInt8)} {x : List UInt8} (h : x = wDiscard) : excOf ls x = wAccept := by subst h; rfl
theorem exc5 {ls : List (List UInt8)} {x : List UInt8} (h : x = wAccept) : excOf ls x = refusalOf ls := by subst h; rfl
theorem exc6 {ls : List (List UInt8)} {x : List UInt8} (h1 : ¬ x = wPermit) (h2 : ¬ x = wDeny) (h3 : ¬ x = wReject) (h4 : ¬ x = wDiscard) (h5 : ¬ x = wAccept) : excOf ls x = [] := by
  unfold excOf actB; simp [h1, h2, h3, h4, h5]

set_option maxHeartbeats 1000000 in
theorem exchanged_any (A : Option Addr) (n c k : Nat) (ls : List (List UInt8)) (s : ByteArray) (w : World) (hs : Slc w w.heap.size 1 (.slice A n c) n (ls.map strV)) (hn : n = ls.length) (hk : k < n) (hl : ∀ l ∈ ls, l.length ≤ 1000000000) :
    Calls Tryd.prog 25 #[.slice A n c, .int .i64 k, .string s] w fun e w' => e = .returned (.string (str (excOf (ls.take (k + 1)) (bytes s)))) ∧ Below w.heap.size w w' := by
  have hb1 := slc_len hs
  have HS := Lib.hid hs
  have HN := Lib.hid hn
  have HL := Lib.hid hl
  clear hs hn hl
  by_cases h1 : bytes s = wPermit
  · have HE := Lib.hid (exc1 (ls := ls.take (k + 1)) h1)
    have d1 : (s.toList == [112, 101, 114, 109, 105, 116]) = true := dT h1
    clear h1
    go_enter Tryd.func25, Tryd.ntmps25
    go_wp2_with fail
    go_ret
    exact ⟨ret_str (by rw [HE.out]; rfl), Below.refl _ _⟩
  have d1 : (s.toList == [112, 101, 114, 109, 105, 116]) = false := dF h1
  by_cases h2 : bytes s = wDeny
  · have HE := Lib.hid (exc2 (ls := ls.take (k + 1)) h2)
    have d2 : (s.toList == [100, 101, 110, 121]) = true := dT h2
    clear h2
    go_enter Tryd.func25, Tryd.ntmps25
    go_wp2_with fail
    go_ret
    exact ⟨ret_str (by rw [HE.out]; rfl), Below.refl _ _⟩
  have d2 : (s.toList == [100, 101, 110, 121]) = false := dF h2
  by_cases h3 : bytes s = wReject
  · have HE := Lib.hid (exc3 (ls := ls.take (k + 1)) h3)
    have d3 : (s.toList == [114, 101, 106, 101, 99, 116]) = true := dT h3
    clear h3
    go_enter Tryd.func25, Tryd.ntmps25
    go_wp2_with fail
    go_ret
    exact ⟨ret_str (by rw [HE.out]; rfl), Below.refl _ _⟩
  have d3 : (s.toList == [114, 101, 106, 101, 99, 116]) = false := dF h3
  by_cases h4 : bytes s = wDiscard
  · have HE := Lib.hid (exc4 (ls := ls.take (k + 1)) h4)
    have d4 : (s.toList == [100, 105, 115, 99, 97, 114, 100]) = true := dT h4
    clear h4
    go_enter Tryd.func25, Tryd.ntmps25
    go_wp2_with fail
    go_ret
    exact ⟨ret_str (by rw [HE.out]; rfl), Below.refl _ _⟩
  have d4 : (s.toList == [100, 105, 115, 99, 97, 114, 100]) = false := dF h4
  by_cases h5 : bytes s = wAccept
  case neg =>
    have HE := Lib.hid (exc6 (ls := ls.take (k + 1)) h1 h2 h3 h4 h5)
    have d5 : (s.toList == [97, 99, 99, 101, 112, 116]) = false := dF h5
    clear h1 h2 h3 h4 h5
    go_enter Tryd.func25, Tryd.ntmps25
    go_wp2_with fail
    go_ret
    exact ⟨ret_str (by rw [HE.out]; rfl), Below.refl _ _⟩
  have HE := Lib.hid (exc5 (ls := ls.take (k + 1)) h5)
  have d5 : (s.toList == [97, 99, 99, 101, 112, 116]) = true := dT h5
  clear h1 h2 h3 h4 h5
  go_enter Tryd.func25, Tryd.ntmps25
  go_wp2_with fail
  go_loopw [6, 7, 8] (fun _ i _ wr => ∃ m : Int, -1 ≤ m ∧ m ≤ k ∧ i = .int .i64 m ∧ Below w.heap.size w wr ∧ Hid (refusalOf (ls.take (k + 1)) = refusalGo (ls.take (m + 1).toNat).reverse)) (fun _ i _ _ => (intOf i + 1).toNat)
  case atStart => exact ⟨_, by omega, by omega, rfl, Below.refl _ _, Lib.hid (by rfl)⟩
  case round =>
    clear d1 d2 d3 d4 d5
    obtain ⟨m, hm1, hm2, rfl, hb, H⟩ := hrel
    by_cases h0 : m < 0
    · have HR : Hid (refusalOf (ls.take (k + 1)) = wReject) := Lib.hid (by rw [H.out, show (m + 1).toNat = 0 from by omega]; rfl)
      clear H
      go_wp2_with fail
      go_ret
      exact ⟨ret_str (by rw [HE.out, HR.out]; rfl), hb⟩
    · obtain ⟨j, rfl⟩ : ∃ j : Nat, m = j := ⟨m.toNat, by omega⟩
      have hj : j < ls.length := by rw [← HN.out]; omega
      have hx : (ls[j]).length ≤ 1000000000 := HL.out _ (List.getElem_mem hj)
      obtain ⟨g, o, eA, hg, c1⟩ := slc_at (HS.out.below hb) HN.out hj
      have E := Lib.hid (refusal_next hj)
      replace H : Hid (refusalOf (ls.take (k + 1)) = refusalGo (ls.take (j + 1)).reverse) := H
      generalize ls[j] = x at c1 E hx
      unfold strV at c1
      subst eA
      have hjn : (j : Int) < n := by omega
      go_wp2_with fail
      refine (rfields_any _ _ _ (by rw [str_size]; exact hx)).mono ?_
      rintro e w1 ⟨v1, rfl, ho1, hb2⟩
      rw [bytes_str] at ho1
      have hbb : Below w.heap.size w w1 := hb.trans (hb2.mono hb.size)
      clear c1
      cases hf : fieldsOf 0 x with
      | nil =>
        rw [hf] at ho1
        obtain ⟨A1, c1, rfl⟩ := slc_form (Slc.of_own ho1)
        have HR : Hid (refusalOf (ls.take (k + 1)) = refusalGo (ls.take ((j : Int) - 1 + 1).toNat).reverse) := Lib.hid (by rw [H.out, E.out, hf, show ((j : Int) - 1 + 1).toNat = j from by omega])
        clear H E hf
        go_wp2_with fail
        go_roundw
        case rel => exact ⟨_, by omega, by omega, rfl, hbb, HR⟩
        case measure => simp [intOf]
      | cons f r =>
        rw [hf] at ho1
        obtain ⟨g1, cap, rfl, _, _, hc⟩ := own_form ho1 (by simp)
        have c0 : w1.cell? ⟨g1, 0, none⟩ = some (.string (str f)) := hc 0 _ rfl
        clear hc
        have HG := Lib.hid (show refusalOf (ls.take (k + 1)) = if f = wFilter then wDiscard else if f = wPolicy then wReject else refusalGo (ls.take j).reverse from by rw [H.out, E.out, hf])
        clear H E hf ho1
        by_cases hf : f = wFilter
        · have d1 : ((str f).toList == [102, 105, 108, 116, 101, 114]) = true := by rw [toList_str, hf]; rfl
          have HH := Lib.hid hf
          clear hf
          go_wp2_with fail
          go_ret
          exact ⟨ret_str (by rw [HE.out, HG.out, if_pos HH.out]; rfl), hbb⟩
        have d1 : ((str f).toList == [102, 105, 108, 116, 101, 114]) = false := by rw [toList_str]; exact beq_false_of_ne hf
        by_cases hp : f = wPolicy
        · have d2 : ((str f).toList == [112, 111, 108, 105, 99, 121]) = true := by rw [toList_str, hp]; rfl
          have HH := Lib.hid hf
          have HP := Lib.hid hp
          clear hf hp
          go_wp2_with fail
          go_ret
          exact ⟨ret_str (by rw [HE.out, HG.out, if_neg HH.out, if_pos HP.out]; rfl), hbb⟩
        have d2 : ((str f).toList == [112, 111, 108, 105, 99, 121]) = false := by rw [toList_str]; exact beq_false_of_ne hp
        have HH := Lib.hid hf
        have HP := Lib.hid hp
        clear hf hp
        go_wp2_with fail
        go_roundw
        case rel => exact ⟨_, by omega, by omega, rfl, hbb, Lib.hid (by rw [HG.out, if_neg HH.out, if_neg HP.out, show ((j : Int) - 1 + 1).toNat = j from by omega])⟩
        case measure => simp [intOf]
end Go.Proofs.YtpclacofcfbpjaaDoor
