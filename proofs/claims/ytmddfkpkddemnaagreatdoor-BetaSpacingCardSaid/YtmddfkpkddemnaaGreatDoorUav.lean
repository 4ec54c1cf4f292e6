/- The walk of the reference's Tokens, and of the comparison of two lists of tokens. No condition. -/
import Derived.Test.YtmddfkpkddemnaaGreatDoorUw
namespace Go.Proofs.YtmddfkpkddemnaaGreatDoor
open Go.RowKit
theorem rlines_known (s : ByteArray) (w : World) (k : Int) (xs : List (List UInt8)) (he : linesErr (bytes s) = k) (hx : linesRes (bytes s) = xs) : Calls Tryz.prog 30 #[.string s] w fun e w' =>
    ∃ v, e = .returned (.tuple #[v, .int .i64 k]) ∧ w'.ownsRow w.heap.size 9 1 v xs.length (xs.map strV) ∧ Below w.heap.size w w' := by
  subst he hx
  exact rlines_any s w
theorem rsingle_any (c : Int) (w : World) : Calls Tryz.prog 31 #[.int .u8 c] w fun e w' => e = .returned (.bool (markB c)) ∧ w = w' := by
  go_enter Tryz.func31, Tryz.ntmps31
  go_wp2
  all_goals (go_ret; refine ⟨?_, rfl⟩; simp_all [markB])
theorem word_yes {c : Int} (h : wordB c = true) : (c != 9) = true ∧ (c != 32) = true ∧ (c != 35) = true ∧ markB c = false := by
  simp only [wordB, blankB, Bool.and_eq_true, Bool.not_eq_true', Bool.or_eq_false_iff] at h
  exact ⟨by simp [bne, h.1.1.1], by simp [bne, h.1.1.2], by simp [bne, h.2], h.1.2⟩
theorem word_no {c : Int} (h : wordB c = false) : (c != 9) = false ∨ ((c != 9) = true ∧ (c != 32) = false) ∨ ((c != 9) = true ∧ (c != 32) = true ∧ (c != 35) = false) ∨ ((c != 9) = true ∧ (c != 32) = true ∧ (c != 35) = true ∧ markB c = true) := by
  cases h1 : (c == 9) with
  | true => exact .inl (by simp [bne, h1])
  | false =>
    cases h2 : (c == 32) with
    | true => exact .inr (.inl ⟨by simp [bne, h1], by simp [bne, h2]⟩)
    | false =>
      cases h3 : (c == 35) with
      | true => exact .inr (.inr (.inl ⟨by simp [bne, h1], by simp [bne, h2], by simp [bne, h3]⟩))
      | false =>
        refine .inr (.inr (.inr ⟨by simp [bne, h1], by simp [bne, h2], by simp [bne, h3], ?_⟩))
        cases hm : markB c with
        | true => rfl
        | false => simp [wordB, blankB, h1, h2, h3, hm] at h
set_option maxHeartbeats 400000 in
theorem rtokens_bad (s : ByteArray) (w : World) (k : Int) (h : linesErr (bytes s) = k) (hk : (k != 0) = true) : Calls Tryz.prog 11 #[.string s] w (TokPost (bytes s) w) := by
  have H := Lib.hid h
  clear h
  go_enter Tryz.func11, Tryz.ntmps11
  go_wp2_with fail
  refine (rlines_known s w k _ H.out rfl).mono ?_
  rintro e w1 ⟨v1, rfl, ho1, hb1⟩
  go_wp2_with fail
  go_ret3
  exact tokPost_bad H.out (by simpa using hk) hb1
set_option maxHeartbeats 4000000 in
set_option maxRecDepth 100000 in
theorem rtokens_ok (s : ByteArray) (w : World) (h : linesErr (bytes s) = 0) (hs : s.size ≤ 65536) : Calls Tryz.prog 11 #[.string s] w (TokPost (bytes s) w) := by
  obtain ⟨i0, hi0, hz0, hz1, hz2⟩ := info_parts Tryz.tokInfo
  have Hi0 := Lib.hid hi0
  have Hz0 := Lib.hid hz0
  have Hz1 := Lib.hid hz1
  have Hz2 := Lib.hid hz2
  clear hi0 hz0 hz1 hz2
  have H := Lib.hid h
  have HR : Hid (linesRes (bytes s) = linesOf (bytes s)) := Lib.hid (by unfold linesRes; rw [if_pos h])
  have hT := toks_len (bytes s)
  rw [bytes_len] at hT
  have HT : Hid (toksOf (bytes s) = toksFrom 1 (linesOf (bytes s))) := Lib.hid rfl
  have HE : Hid (tokRes (bytes s) = toksOf (bytes s)) := Lib.hid (by unfold tokRes; rw [if_pos h])
  have hln : (linesOf (bytes s)).length ≤ 65537 := by have := lines_count s; omega
  have HLn : Hid (∀ z ∈ linesOf (bytes s), z.length ≤ 65536) := Lib.hid (fun z hz => by have := lines_each _ z hz; rw [bytes_len] at this; omega)
  clear h
  go_enter Tryz.func11, Tryz.ntmps11
  go_wp2_with fail
  refine (rlines_known s w 0 _ H.out HR.out).mono ?_
  rintro e w1 ⟨v1, rfl, ho1, hb1⟩
  have hsz := hb1.size
  have S1 := Slc.of_own ho1
  clear ho1
  generalize linesOf (bytes s) = ls at *
  generalize toksOf (bytes s) = T at *
  obtain ⟨A, c, ev⟩ := slc_form S1
  subst ev
  have HS := Lib.hid S1
  clear S1
  go_wp2_with fail
  go_loopg [7, 8] ls.length (fun g v i wr => ∃ (k : Nat) (acc : List (Int × List UInt8)), k + g = ls.length ∧ i = .int .i64 k ∧ wr.ownsRow w1.heap.size 54 2 v acc.length (acc.flatMap tokCells) ∧ Below w1.heap.size w1 wr ∧ Hid (T = acc ++ toksFrom (k + 1) (ls.drop k)))
  case atStart => exact ⟨0, [], by omega, rfl, World.ownsRow_nil _ _ _ _, Below.refl _ _, Lib.hid (by rw [HT.out]; rfl)⟩
  case round =>
    obtain ⟨k, acc, hk, rfl, hown, hbx, HI⟩ := hrel
    by_cases hlt : k < ls.length
    · obtain ⟨ga, oa, eA, hga, c1⟩ := slc_at HS.out rfl hlt
      have HD := Lib.hid (list_step ls k hlt)
      have hzl : ls[k].length ≤ 65536 := HLn.out _ (List.getElem_mem hlt)
      generalize ls[k] = z at c1 HD hzl
      obtain ⟨t, rfl⟩ : ∃ t : ByteArray, bytes t = z := ⟨str z, bytes_str z⟩
      unfold strV at c1
      rw [str_bytes] at c1
      rw [bytes_len] at hzl
      have c2 : wr.cell? ⟨ga, oa + k, none⟩ = some (.string t) := (hbx.cell (p := ⟨ga, oa + k, none⟩) hga).trans c1
      subst eA
      have HI2 : Hid (T = acc ++ tokMid (k + 1) [] ((bytes t).drop 0) (ls.drop (k + 1))) := Lib.hid (by rw [HI.out, HD.out, List.drop_zero]; rfl)
      clear HI c1 HD
      go_wp2_with fail
      obtain ⟨wo, rfl⟩ : ∃ wo : World, wo = wr := ⟨_, rfl⟩
      have hbo := hbx
      clear hbx
      go_loopg [7, 10] t.size (fun g v i wr => ∃ (m : Nat) (acc : List (Int × List UInt8)), m + g = t.size ∧ i = .int .i64 m ∧ wr.ownsRow w1.heap.size 54 2 v acc.length (acc.flatMap tokCells) ∧ Below w1.heap.size w1 wr ∧ Hid (T = acc ++ tokMid (k + 1) [] ((bytes t).drop m) (ls.drop (k + 1))))
      case atStart => exact ⟨0, acc, by omega, rfl, hown, hbo, HI2⟩
      case round =>
        clear hown HI2 hbo c2
        clear acc
        obtain ⟨m, acc, hm, rfl, hown, hbx, HI⟩ := hrel
        have hbz := hbx.size
        by_cases hlt2 : m < t.size
        · cases h35 : ((t[m].toNat : Int) == 35) with
          | true =>
            have E := Lib.hid (tok_hash (k + 1) t m (ls.drop (k + 1)) hlt2 h35)
            have h36 : ((t[m].toNat : Int) != 35) = false := by simp [bne, h35]
            go_wp2_with fail
            go_roundg (ls.length - (k + 1))
            case measure => omega
            case rel => exact ⟨k + 1, acc, by omega, by go_num, hown, hbx, Lib.hid (by rw [HI.out, E.out]; rfl)⟩
          | false =>
            have h36 : ((t[m].toNat : Int) != 35) = true := by simp [bne, h35]
            have hal : acc.length ≤ T.length := by rw [HI.out, List.length_append]; omega
            cases hbl : blankB t[m].toNat with
            | true =>
              have E := Lib.hid (tok_blank (k + 1) t m (ls.drop (k + 1)) hlt2 h35 hbl)
              rcases blank_yes' hbl with h1 | ⟨h1, h2⟩
              all_goals
                go_wp2_with fail
                obtain ⟨wp, rfl⟩ : ∃ wp : World, wp = wr := ⟨_, rfl⟩
                go_loopg [11] 0 (fun g i wr => i = .int .i64 m ∧ wr = wp ∧ g = 0)
                case atStart => exact ⟨rfl, rfl, rfl⟩
                case round =>
                  obtain ⟨rfl, ew, _⟩ := hrel
                  subst ew
                  go_wp2_with fail
                  go_roundg (t.size - (m + 1))
                  case measure => omega
                  case rel => exact ⟨m + 1, acc, by omega, by go_num, hown, hbx, Lib.hid (by rw [HI.out, E.out])⟩
            | false =>
              obtain ⟨_, _, h3, h4⟩ := blank_no hbl
              cases hmk : markB t[m].toNat with
              | true =>
                have E := Lib.hid (tok_mark (k + 1) t m (ls.drop (k + 1)) hlt2 h35 hbl hmk)
                go_wp2_with fail
                obtain ⟨wp, rfl⟩ : ∃ wp : World, wp = wr := ⟨_, rfl⟩
                go_loopg [11] 0 (fun g i wr => i = .int .i64 m ∧ wr = wp ∧ g = 0)
                case atStart => exact ⟨rfl, rfl, rfl⟩
                case round =>
                  obtain ⟨rfl, ew, _⟩ := hrel
                  subst ew
                  go_wp2_with (first | (go_at_call 31; refine (rsingle_any _ _).mono ?_; rintro e w' ⟨rfl, rfl⟩) | (at_builtin; refine wpList_append1 _ rfl _ _ 50 rfl w1.heap.size 54 i0 _ 2 24 Tryz.underlying50 Hi0.out Hz0.out Hz1.out Hz2.out rfl (by decide) _ acc.length (acc.flatMap tokCells) rfl hown #[.int .i64 (k + 1), .string (t.extract m (m + 1))] rfl rfl (one_tok _ _) (by omega) (by decide) hbz ?_; intro v2 w2 hown2 hb2))
                  go_roundg (t.size - (m + 1))
                  case measure => omega
                  case rel => exact ⟨m + 1, acc ++ [((k : Int) + 1, sub (bytes t) m (m + 1))], by omega, by go_num, by rw [tok_snoc] at hown2; simpa using hown2, hbx.trans hb2, Lib.hid (app1 (by rw [HI.out, E.out]))⟩
              | false =>
                have hwd := word_else h35 hbl hmk
                have HI0 : Hid (T = acc ++ tokMid (k + 1) (sub (bytes t) m m) ((bytes t).drop m) (ls.drop (k + 1))) := Lib.hid (by rw [HI.out, sub_self])
                clear HI
                go_wp2_with fail
                obtain ⟨wp, rfl⟩ : ∃ wp : World, wp = wr := ⟨_, rfl⟩
                go_loopg [11] (t.size - m) (fun g i wr => ∃ j : Nat, j + g = t.size ∧ m ≤ j ∧ i = .int .i64 j ∧ wr = wp ∧ Hid (j = m → wordB t[m].toNat = true) ∧ Hid (T = acc ++ tokMid (k + 1) (sub (bytes t) m j) ((bytes t).drop j) (ls.drop (k + 1))))
                case atStart => exact ⟨m, by omega, by omega, rfl, rfl, Lib.hid (fun _ => hwd), HI0⟩
                case round =>
                  obtain ⟨j, hj, hmj, rfl, ew, HJ, HI⟩ := hrel
                  subst ew
                  by_cases hlt3 : j < t.size
                  · cases hw : wordB t[j].toNat with
                    | true =>
                      have E := Lib.hid (tok_word (k + 1) t m j (ls.drop (k + 1)) hmj hlt3 hw)
                      obtain ⟨b1, b2, b3, b4⟩ := word_yes hw
                      go_wp2_with (first | (go_at_call 31; refine (rsingle_any _ _).mono ?_; rintro e w' ⟨rfl, rfl⟩))
                      go_roundg (t.size - (j + 1))
                      case measure => omega
                      case rel => exact ⟨j + 1, by omega, by omega, by go_num, rfl, Lib.hid (fun h => by omega), Lib.hid (by rw [HI.out, E.out])⟩
                    | false =>
                      have hjm : m < j := by
                        rcases Nat.lt_or_ge m j with h | h
                        · exact h
                        · have e : j = m := by omega
                          have := HJ.out e
                          subst e
                          rw [hw] at this
                          cases this
                      have hne : ((j : Int) == m) = false := by simp; omega
                      have E := Lib.hid (tok_stop (k + 1) t m j (ls.drop (k + 1)) hjm hlt3 hw)
                      rcases word_no hw with b1 | ⟨b1, b2⟩ | ⟨b1, b2, b3⟩ | ⟨b1, b2, b3, b4⟩
                      all_goals
                        go_wp2_with (first | (go_at_call 31; refine (rsingle_any _ _).mono ?_; rintro e w' ⟨rfl, rfl⟩) | (at_builtin; refine wpList_append1 _ rfl _ _ 50 rfl w1.heap.size 54 i0 _ 2 24 Tryz.underlying50 Hi0.out Hz0.out Hz1.out Hz2.out rfl (by decide) _ acc.length (acc.flatMap tokCells) rfl hown #[.int .i64 (k + 1), .string (t.extract m j)] rfl rfl (one_tok _ _) (by omega) (by decide) hbz ?_; intro v2 w2 hown2 hb2))
                        go_roundg (t.size - j)
                        case measure => omega
                        case rel => exact ⟨j, acc ++ [((k : Int) + 1, sub (bytes t) m j)], by omega, rfl, by rw [tok_snoc] at hown2; simpa using hown2, hbx.trans hb2, Lib.hid (app1 (by rw [HI.out, E.out]))⟩
                  · have hjm : m < j := by omega
                    have hne : ((j : Int) == m) = false := by simp; omega
                    have E := Lib.hid (tok_last (k + 1) t m j (ls.drop (k + 1)) hjm (by omega))
                    go_wp2_with (first | (at_builtin; refine wpList_append1 _ rfl _ _ 50 rfl w1.heap.size 54 i0 _ 2 24 Tryz.underlying50 Hi0.out Hz0.out Hz1.out Hz2.out rfl (by decide) _ acc.length (acc.flatMap tokCells) rfl hown #[.int .i64 (k + 1), .string (t.extract m j)] rfl rfl (one_tok _ _) (by omega) (by decide) hbz ?_; intro v2 w2 hown2 hb2))
                    go_roundg (t.size - j)
                    case measure => omega
                    case rel => exact ⟨j, acc ++ [((k : Int) + 1, sub (bytes t) m j)], by omega, rfl, by rw [tok_snoc] at hown2; simpa using hown2, hbx.trans hb2, Lib.hid (app1 (by rw [HI.out, E.out]))⟩
        · have E := Lib.hid (tok_end (k + 1) t m (ls.drop (k + 1)) hlt2)
          go_wp2_with fail
          go_roundg (ls.length - (k + 1))
          case measure => omega
          case rel => exact ⟨k + 1, acc, by omega, by go_num, hown, hbx, Lib.hid (by rw [HI.out, E.out]; rfl)⟩
    · have HF : Hid (tokRes (bytes s) = acc) := Lib.hid (by rw [HE.out, HI.out, List.drop_eq_nil_of_le (by omega)]; simp [toksFrom])
      go_wp2_with fail
      go_ret3
      refine ⟨_, by rw [H.out, HR.out]; rfl, ?_, hb1.trans (hbx.mono hsz)⟩
      rw [HF.out]
      exact base_mono hown hsz
theorem rtokens_any (s : ByteArray) (w : World) : Calls Tryz.prog 11 #[.string s] w (TokPost (bytes s) w) := by
  by_cases h : linesErr (bytes s) = 0
  · exact rtokens_ok s w h (small_of_ok h)
  · exact rtokens_bad s w _ rfl (by simpa using h)
end Go.Proofs.YtmddfkpkddemnaaGreatDoor
