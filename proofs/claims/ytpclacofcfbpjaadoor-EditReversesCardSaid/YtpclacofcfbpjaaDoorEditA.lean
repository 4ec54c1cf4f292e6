/- The walks of action, opposite, refusal of package edit. Condition: no line is longer than 10^9 bytes. -/
import Derived.Test.YtpclacofcfbpjaaDoorEditS
import Derived.Test.YtpclacofcfbpjaaDoorScanE
namespace Go.Proofs.YtpclacofcfbpjaaDoor
open Go.RowKit

theorem own_form {w : World} {base : Nat} {e : TypeId} {size n : Nat} {v : Value} {xs : List Value} (h : w.ownsRow base e size v n xs) (hn : 0 < n) :
    ∃ g cap, v = .slice (some ⟨g, 0, none⟩) n cap ∧ base ≤ g ∧ g < w.heap.size ∧ ∀ j u, xs[j]? = some u → w.cell? ⟨g, j, none⟩ = some u := by
  obtain ⟨A, c, e1, _, _, _, h2⟩ := Slc.of_own h
  rcases h.2 with ⟨_, h0⟩ | ⟨g, cap, cur, rfl, hb, hh, _⟩
  · omega
  · obtain ⟨g', o', e2, hg, hc⟩ := h2 hn
    injection e1 with e1 _ _
    rw [← e1] at e2
    injection e2 with e2
    injection e2 with e3 e4
    subst e3 e4
    exact ⟨g, cap, rfl, hb, hg, fun j u hu => by simpa using hc j u hu⟩
theorem toList_bytes (s : ByteArray) : s.toList = bytes s := by rw [Go.ByteArray.toList_eq]; rfl
theorem eqL {f L : List UInt8} (h : ((str f).toList == L) = true) : f = L := by rw [toList_str] at h; simpa using h
theorem neL {f L : List UInt8} (h : ((str f).toList == L) = false) : ¬ f = L := by rw [toList_str] at h; simpa using h
theorem dT {s : ByteArray} {L : List UInt8} (h : bytes s = L) : (s.toList == L) = true := by rw [toList_bytes, h]; simp
theorem dF {s : ByteArray} {L : List UInt8} (h : ¬ bytes s = L) : (s.toList == L) = false := by rw [toList_bytes]; simpa using h
theorem ret_str {a b : ByteArray} (h : a = b) : Ending.returned (.string a) = .returned (.string b) := by rw [h]
theorem slc_len {w : World} {B size n m c : Nat} {A : Option Addr} {xs : List Value} (h : Slc w B size (.slice A m c) n xs) : m ≤ 9223372036854775807 := by
  obtain ⟨_, _, e, h, _⟩ := h
  injection e with e1 e2 e3
  subst e2
  unfold maxLen at h
  omega

theorem action_any (s : ByteArray) (w : World) : Calls Tryd.prog 22 #[.string s] w fun e w' => e = .returned (.bool (actB (bytes s))) ∧ w = w' := by
  go_enter Tryd.func22, Tryd.ntmps22
  go_wp2
  all_goals (go_ret; refine ⟨ret_bool ?_, rfl⟩; simp_all [actB, toList_bytes, wPermit, wDeny, wAccept, wReject, wDiscard])

theorem refusal_next {ls : List (List UInt8)} {j : Nat} (h : j < ls.length) : refusalGo (ls.take (j + 1)).reverse = match fieldsOf 0 ls[j] with
    | [] => refusalGo (ls.take j).reverse
    | f :: _ => if f = wFilter then wDiscard else if f = wPolicy then wReject else refusalGo (ls.take j).reverse := by
  rw [List.take_succ_eq_append_getElem h, List.reverse_append]; rfl

set_option maxHeartbeats 1000000 in
theorem refusal_any (A : Option Addr) (n c : Nat) (ls : List (List UInt8)) (w : World) (hs : Slc w w.heap.size 1 (.slice A n c) n (ls.map strV)) (hn : n = ls.length) (hl : ∀ l ∈ ls, l.length ≤ 1000000000) :
    Calls Tryd.prog 38 #[.slice A n c] w fun e w' => e = .returned (.string (str (refusalOf ls))) ∧ Below w.heap.size w w' := by
  have hb1 := slc_len hs
  have HS := Lib.hid hs
  have HN := Lib.hid hn
  have HL := Lib.hid hl
  clear hs hn hl
  go_enter Tryd.func38, Tryd.ntmps38
  go_wp2
  go_loopw [2, 3, 4] (fun _ i _ wr => ∃ m : Int, -1 ≤ m ∧ m < n ∧ i = .int .i64 m ∧ Below w.heap.size w wr ∧ Hid (refusalOf ls = refusalGo (ls.take (m + 1).toNat).reverse)) (fun _ i _ _ => (intOf i + 1).toNat)
  case atStart => exact ⟨_, by omega, by omega, rfl, Below.refl _ _, Lib.hid (by rw [List.take_of_length_le (by rw [← HN.out]; omega)]; rfl)⟩
  case round =>
    obtain ⟨m, hm1, hm2, rfl, hb, H⟩ := hrel
    by_cases h0 : m < 0
    · have HR : Hid (refusalOf ls = wReject) := Lib.hid (by rw [H.out, show (m + 1).toNat = 0 from by omega]; rfl)
      clear H
      go_wp2_with fail
      go_ret
      exact ⟨by rw [HR.out]; rfl, hb⟩
    · obtain ⟨j, rfl⟩ : ∃ j : Nat, m = j := ⟨m.toNat, by omega⟩
      have hj : j < ls.length := by rw [← HN.out]; omega
      have hx : (ls[j]).length ≤ 1000000000 := HL.out _ (List.getElem_mem hj)
      obtain ⟨g, o, eA, hg, c1⟩ := slc_at (HS.out.below hb) HN.out hj
      have E := Lib.hid (refusal_next hj)
      replace H : Hid (refusalOf ls = refusalGo (ls.take (j + 1)).reverse) := H
      generalize ls[j] = x at c1 E hx
      unfold strV at c1
      subst eA
      go_wp2_with fail
      refine (fields_any _ _ _ (by rw [str_size]; exact hx)).mono ?_
      rintro e w1 ⟨v1, rfl, ho1, hb2⟩
      rw [bytes_str] at ho1
      have hbb : Below w.heap.size w w1 := hb.trans (hb2.mono hb.size)
      clear c1
      cases hf : fieldsOf 0 x with
      | nil =>
        rw [hf] at ho1
        obtain ⟨A1, c1, rfl⟩ := slc_form (Slc.of_own ho1)
        have HR : Hid (refusalOf ls = refusalGo (ls.take ((j : Int) - 1 + 1).toNat).reverse) := Lib.hid (by rw [H.out, E.out, hf, show ((j : Int) - 1 + 1).toNat = j from by omega])
        clear H E hf
        go_wp2_with fail
        go_roundw
        case rel => exact ⟨_, by omega, by omega, rfl, hbb, HR⟩
        case measure => simp [intOf]
      | cons f r =>
        rw [hf] at ho1
        obtain ⟨g1, cap, rfl, _, _, hc⟩ := own_form ho1 (by simp)
        have c0 : w1.cell? ⟨g1, 0, none⟩ = some (.string (str f)) := hc 0 _ rfl
        clear hc
        have HE := Lib.hid (show refusalOf ls = if f = wFilter then wDiscard else if f = wPolicy then wReject else refusalGo (ls.take j).reverse from by rw [H.out, E.out, hf])
        clear H E hf ho1
        go_wp2_with fail
        · have hf : f = wFilter := eqL (L := [102, 105, 108, 116, 101, 114]) (by assumption)
          go_ret
          exact ⟨by rw [HE.out, if_pos hf]; rfl, hbb⟩
        · have hf : ¬ f = wFilter := neL (L := [102, 105, 108, 116, 101, 114]) (by assumption)
          have hp : f = wPolicy := eqL (L := [112, 111, 108, 105, 99, 121]) (by assumption)
          go_ret
          exact ⟨by rw [HE.out, if_neg hf, if_pos hp]; rfl, hbb⟩
        · have hf : ¬ f = wFilter := neL (L := [102, 105, 108, 116, 101, 114]) (by assumption)
          have hp : ¬ f = wPolicy := neL (L := [112, 111, 108, 105, 99, 121]) (by assumption)
          go_roundw
          case rel => exact ⟨_, by omega, by omega, rfl, hbb, Lib.hid (by rw [HE.out, if_neg hf, if_neg hp, show ((j : Int) - 1 + 1).toNat = j from by omega])⟩
          case measure => simp [intOf]

theorem opposite_any (A : Option Addr) (n c : Nat) (ls : List (List UInt8)) (s : ByteArray) (w : World) (hs : Slc w w.heap.size 1 (.slice A n c) n (ls.map strV)) (hn : n = ls.length) (hl : ∀ l ∈ ls, l.length ≤ 1000000000) :
    Calls Tryd.prog 23 #[.slice A n c, .string s] w fun e w' => e = .returned (.string (str (oppOf ls (bytes s)))) ∧ Below w.heap.size w w' := by
  have HS := Lib.hid hs
  have HN := Lib.hid hn
  have HL := Lib.hid hl
  clear hs hn hl
  by_cases h1 : bytes s = wPermit
  · have HE : Hid (oppOf ls (bytes s) = wDeny) := Lib.hid (by rw [oppOf, if_pos h1])
    have d1 : (s.toList == [112, 101, 114, 109, 105, 116]) = true := dT h1
    clear h1
    go_enter Tryd.func23, Tryd.ntmps23
    go_wp2_with fail
    go_ret
    exact ⟨ret_str (by rw [HE.out]; rfl), Below.refl _ _⟩
  have d1 : (s.toList == [112, 101, 114, 109, 105, 116]) = false := dF h1
  by_cases h2 : bytes s = wDeny
  · have HE : Hid (oppOf ls (bytes s) = wPermit) := Lib.hid (by rw [oppOf, if_neg h1, if_pos h2])
    have d2 : (s.toList == [100, 101, 110, 121]) = true := dT h2
    clear h2
    go_enter Tryd.func23, Tryd.ntmps23
    go_wp2_with fail
    go_ret
    exact ⟨ret_str (by rw [HE.out]; rfl), Below.refl _ _⟩
  have d2 : (s.toList == [100, 101, 110, 121]) = false := dF h2
  by_cases h3 : bytes s = wAccept
  · have HE : Hid (oppOf ls (bytes s) = refusalOf ls) := Lib.hid (by rw [oppOf, if_neg h1, if_neg h2, if_pos h3])
    have d3 : (s.toList == [97, 99, 99, 101, 112, 116]) = true := dT h3
    clear h3
    go_enter Tryd.func23, Tryd.ntmps23
    go_wp2_with fail
    refine (refusal_any _ _ _ ls _ HS.out HN.out HL.out).mono ?_
    rintro e w1 ⟨rfl, hb⟩
    go_wp2_with fail
    go_ret
    exact ⟨ret_str (by rw [HE.out]), hb⟩
  have d3 : (s.toList == [97, 99, 99, 101, 112, 116]) = false := dF h3
  have HE : Hid (oppOf ls (bytes s) = wAccept) := Lib.hid (by rw [oppOf, if_neg h1, if_neg h2, if_neg h3])
  clear h1 h2 h3
  go_enter Tryd.func23, Tryd.ntmps23
  go_wp2_with fail
  go_ret
  exact ⟨ret_str (by rw [HE.out]; rfl), Below.refl _ _⟩
end Go.Proofs.YtpclacofcfbpjaaDoor
