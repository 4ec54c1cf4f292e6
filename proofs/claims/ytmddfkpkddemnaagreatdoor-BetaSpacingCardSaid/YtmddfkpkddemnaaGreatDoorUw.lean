/- The walk of Tokens, the program's and the reference's. No condition. -/
import Derived.Test.YtmddfkpkddemnaaGreatDoorUv
import Derived.Deep.LoopGhost
namespace Go.Proofs.YtmddfkpkddemnaaGreatDoor
open Go.RowKit
theorem Tryz.tokInfo : (Tryz.prog.info? 54).map (fun i => (i.zero, i.size, i.bytes)) = some (some (.agg #[.int .i64 0, .string ByteArray.empty]), 2, 24) := by kernel_rfl
def tokCells (t : Int × List UInt8) : List Value := [.int .i64 t.1, strV t.2]
def tokRes (l : List UInt8) : List (Int × List UInt8) := if linesErr l = 0 then toksOf l else []
def TokPost (l : List UInt8) (w : World) (e : Ending) (w' : World) : Prop :=
  ∃ v, e = .returned (.tuple #[v, .int .i64 (linesRes l).length, .int .i64 (linesErr l)]) ∧ w'.ownsRow w.heap.size 54 2 v (tokRes l).length ((tokRes l).flatMap tokCells) ∧ Below w.heap.size w w'
theorem tokGo_len : ∀ (l cur : List UInt8), (tokGo cur l).length ≤ l.length + (if cur = [] then 0 else 1) := by
  intro l
  induction l with
  | nil => intro cur; simp only [tokGo, flush]; split <;> simp
  | cons b r ih =>
    intro cur
    have h1 := ih []
    have h2 := ih (cur ++ [b])
    rw [if_pos rfl] at h1
    rw [if_neg (by simp)] at h2
    have hf : (flush cur).length ≤ (if cur = [] then 0 else 1) := by unfold flush; split <;> simp
    simp only [tokGo]
    split
    · simp; omega
    · split
      · simp; omega
      · split
        · simp; omega
        · simp; omega
theorem toksFrom_len : ∀ (ls : List (List UInt8)) (n : Int), (toksFrom n ls).length ≤ (ls.map List.length).sum := by
  intro ls
  induction ls with
  | nil => intro n; simp [toksFrom]
  | cons l r ih =>
    intro n
    have h1 := tokGo_len l []
    have h2 := ih (n + 1)
    rw [if_pos rfl] at h1
    simp only [toksFrom, List.length_append, List.length_map, List.map_cons, List.sum_cons, tokLine]
    omega
theorem linesGo_sum : ∀ (l cur : List UInt8), ((linesGo cur l).map List.length).sum ≤ cur.length + l.length := by
  intro l
  induction l with
  | nil => intro cur; simp only [linesGo, flush]; split <;> simp
  | cons b r ih =>
    intro cur
    simp only [linesGo]
    split
    · have := ih []; simp at this ⊢; omega
    · have := ih (cur ++ [b]); simp at this ⊢; omega
theorem le_sum_mem (l : List Nat) : ∀ x ∈ l, x ≤ l.sum := by
  induction l with
  | nil => intro x hx; cases hx
  | cons a r ih =>
    intro x hx
    rw [List.sum_cons]
    rcases List.mem_cons.1 hx with rfl | h
    · omega
    · have := ih x h; omega
theorem lines_each (l : List UInt8) : ∀ z ∈ linesOf l, z.length ≤ l.length := by
  intro z hz
  have h := linesGo_sum l []
  have h2 : z.length ≤ ((linesOf l).map List.length).sum := le_sum_mem _ _ (List.mem_map_of_mem hz)
  unfold linesOf at h2
  simp at h
  omega
theorem toks_len (l : List UInt8) : (toksOf l).length ≤ l.length := by
  have h1 := toksFrom_len (linesOf l) 1
  have h2 := linesGo_sum l []
  unfold toksOf linesOf at *
  simp at h2
  omega
/-- What is still to come of line n, behind the tokens so far. -/
def tokMid (n : Int) (cur rest : List UInt8) (more : List (List UInt8)) : List (Int × List UInt8) := (tokGo cur rest).map (fun t => (n, t)) ++ toksFrom (n + 1) more
theorem tok_end (n : Int) (s : ByteArray) (k : Nat) (r : List (List UInt8)) (h : ¬ k < s.size) : tokMid n [] ((bytes s).drop k) r = toksFrom (n + 1) r := by
  rw [drop_end s k h]; simp [tokMid, tokGo, flush]
theorem tok_hash (n : Int) (s : ByteArray) (k : Nat) (r : List (List UInt8)) (h : k < s.size) (hc : ((s[k].toNat : Int) == 35) = true) : tokMid n [] ((bytes s).drop k) r = toksFrom (n + 1) r := by
  rw [drop_step s k h, tokMid, tokGo, if_pos (by simpa using hc)]; simp [flush]
theorem tok_blank (n : Int) (s : ByteArray) (k : Nat) (r : List (List UInt8)) (h : k < s.size) (hc : ((s[k].toNat : Int) == 35) = false) (hb : blankB s[k].toNat = true) :
    tokMid n [] ((bytes s).drop k) r = tokMid n [] ((bytes s).drop (k + 1)) r := by
  rw [drop_step s k h, tokMid, tokGo, if_neg (by simpa using hc), if_pos hb]; simp [flush, tokMid]
theorem tok_mark (n : Int) (s : ByteArray) (k : Nat) (r : List (List UInt8)) (h : k < s.size) (hc : ((s[k].toNat : Int) == 35) = false) (hb : blankB s[k].toNat = false) (hm : markB s[k].toNat = true) :
    tokMid n [] ((bytes s).drop k) r = (n, sub (bytes s) k (k + 1)) :: tokMid n [] ((bytes s).drop (k + 1)) r := by
  rw [sub_snoc s k k (Nat.le_refl _) h, sub_self, drop_step s k h, tokMid, tokGo, if_neg (by simpa using hc), if_neg (by simp [hb]), if_pos hm]; simp [flush, tokMid]
theorem tok_word (n : Int) (s : ByteArray) (a k : Nat) (r : List (List UInt8)) (ha : a ≤ k) (h : k < s.size) (hw : wordB s[k].toNat = true) :
    tokMid n (sub (bytes s) a k) ((bytes s).drop k) r = tokMid n (sub (bytes s) a (k + 1)) ((bytes s).drop (k + 1)) r := by
  simp only [wordB, Bool.and_eq_true, Bool.not_eq_true'] at hw
  rw [sub_snoc s a k ha h, drop_step s k h, tokMid, tokGo, if_neg (by simpa using hw.2), if_neg (by simp [hw.1.1]), if_neg (by simp [hw.1.2])]; rfl
theorem tok_stop (n : Int) (s : ByteArray) (a k : Nat) (r : List (List UInt8)) (ha : a < k) (h : k < s.size) (hw : wordB s[k].toNat = false) :
    tokMid n (sub (bytes s) a k) ((bytes s).drop k) r = (n, sub (bytes s) a k) :: tokMid n [] ((bytes s).drop k) r := by
  have hl := sub_len (bytes s) a k (by rw [bytes_len]; omega)
  have hne : sub (bytes s) a k ≠ [] := by intro e; rw [e] at hl; simp at hl; omega
  have hf : flush (sub (bytes s) a k) = [sub (bytes s) a k] := by unfold flush; rw [if_neg hne]
  rw [drop_step s k h]
  simp only [tokMid, tokGo, hf]
  by_cases h1 : (s[k].toNat : Int) = 35
  · simp [h1, flush]
  · simp only [if_neg h1]
    cases hb : blankB s[k].toNat with
    | true => simp [flush]
    | false =>
      cases hm : markB s[k].toNat with
      | true => simp [flush]
      | false => simp [wordB, hb, hm, h1] at hw
theorem tok_last (n : Int) (s : ByteArray) (a k : Nat) (r : List (List UInt8)) (ha : a < k) (h : k = s.size) :
    tokMid n (sub (bytes s) a k) ((bytes s).drop k) r = (n, sub (bytes s) a k) :: tokMid n [] ((bytes s).drop k) r := by
  have hl := sub_len (bytes s) a k (by rw [bytes_len]; omega)
  have hne : sub (bytes s) a k ≠ [] := by intro e; rw [e] at hl; simp at hl; omega
  rw [drop_end s k (by omega)]
  simp [tokMid, tokGo, flush, hne]
theorem word_else {c : Int} (h0 : (c == 35) = false) (hb : blankB c = false) (hm : markB c = false) : wordB c = true := by simp [wordB, h0, hb, hm]
theorem base_mono {w : World} {base base' : Nat} {e : TypeId} {size n : Nat} {v : Value} {xs : List Value} (h : w.ownsRow base e size v n xs) (hb : base' ≤ base) : w.ownsRow base' e size v n xs := by
  obtain ⟨hl, h⟩ := h
  refine ⟨hl, ?_⟩
  rcases h with h | ⟨g, cap, cur, h1, h2, h3⟩
  · exact .inl h
  · exact .inr ⟨g, cap, cur, h1, by omega, h3⟩
theorem tok_snoc (xs : List (Int × List UInt8)) (n : Int) (s : ByteArray) (a k : Nat) : xs.flatMap tokCells ++ #[Value.int .i64 n, .string (s.extract a k)].toList = (xs ++ [(n, sub (bytes s) a k)]).flatMap tokCells := by
  rw [ext_v]; simp [tokCells]
theorem one_tok (n : Int) (s : ByteArray) : ∀ u ∈ (#[Value.int .i64 n, .string s] : Array Value).toList, u.oneCell' = true := by
  intro u hu; simp at hu; rcases hu with rfl | rfl <;> rfl
theorem tokPost_bad {l : List UInt8} {k : Int} (h : linesErr l = k) (hk : k ≠ 0) {w w' : World} (hb : Below w.heap.size w w') : TokPost l w (.returned (.tuple #[.slice none 0 0, .int .i64 0, .int .i64 k])) w' := by
  refine ⟨.slice none 0 0, ?_, ?_, hb⟩
  · unfold linesRes; rw [h, if_neg hk]; rfl
  · unfold tokRes; rw [h, if_neg hk]; exact World.ownsRow_nil _ _ _ _
set_option maxHeartbeats 400000 in
theorem tokens_bad (s : ByteArray) (w : World) (k : Int) (h : linesErr (bytes s) = k) (hk : (k != 0) = true) : Calls Tryz.prog 12 #[.string s] w (TokPost (bytes s) w) := by
  have H := Lib.hid h
  clear h
  go_enter Tryz.func12, Tryz.ntmps12
  go_wp2_with fail
  go_step3
  go_wp2_with fail
  refine (lines_known s w k _ H.out rfl).mono ?_
  rintro e w1 ⟨v1, rfl, ho1, hb1⟩
  go_wp2_with fail
  rw [Exit.noGoto_ret]
  go_ret3
  exact tokPost_bad H.out (by simpa using hk) hb1
set_option maxHeartbeats 2000000 in
theorem tokens_ok (s : ByteArray) (w : World) (h : linesErr (bytes s) = 0) (hs : s.size ≤ 65536) : Calls Tryz.prog 12 #[.string s] w (TokPost (bytes s) w) := by
  obtain ⟨i0, hi0, hz0, hz1, hz2⟩ := info_parts Tryz.tokInfo
  have Hi0 := Lib.hid hi0
  have Hz0 := Lib.hid hz0
  have Hz1 := Lib.hid hz1
  have Hz2 := Lib.hid hz2
  clear hi0 hz0 hz1 hz2
  have H := Lib.hid h
  have HR : Hid (linesRes (bytes s) = linesOf (bytes s)) := Lib.hid (by unfold linesRes; rw [if_pos h])
  have hT := toks_len (bytes s)
  rw [bytes_len] at hT
  have HT : Hid (toksOf (bytes s) = toksFrom 1 (linesOf (bytes s))) := Lib.hid rfl
  have HE : Hid (tokRes (bytes s) = toksOf (bytes s)) := Lib.hid (by unfold tokRes; rw [if_pos h])
  have hln : (linesOf (bytes s)).length ≤ 65537 := by have := lines_count s; omega
  have HLn : Hid (∀ z ∈ linesOf (bytes s), z.length ≤ 65536) := Lib.hid (fun z hz => by have := lines_each _ z hz; rw [bytes_len] at this; omega)
  clear h
  go_enter Tryz.func12, Tryz.ntmps12
  go_wp2_with fail
  go_step3
  go_wp2_with fail
  refine (lines_known s w 0 _ H.out HR.out).mono ?_
  rintro e w1 ⟨v1, rfl, ho1, hb1⟩
  have hsz := hb1.size
  have S1 := Slc.of_own ho1
  clear ho1
  generalize linesOf (bytes s) = ls at *
  generalize toksOf (bytes s) = T at *
  obtain ⟨A, c, ev⟩ := slc_form S1
  subst ev
  have HS := Lib.hid S1
  clear S1
  go_wp2_with fail
  go_step3
  go_wp2_with fail
  go_loopg [7, 23] ls.length (fun g v i wr => ∃ (k : Nat) (acc : List (Int × List UInt8)), k + g = ls.length ∧ i = .int .i64 k ∧ wr.ownsRow w1.heap.size 54 2 v acc.length (acc.flatMap tokCells) ∧ Below w1.heap.size w1 wr ∧ Hid (T = acc ++ toksFrom (k + 1) (ls.drop k)))
  case atStart => exact ⟨0, [], by omega, rfl, World.ownsRow_nil _ _ _ _, Below.refl _ _, Lib.hid (by rw [HT.out]; rfl)⟩
  case round =>
    obtain ⟨k, acc, hk, rfl, hown, hbx, HI⟩ := hrel
    by_cases hlt : k < ls.length
    · obtain ⟨ga, oa, eA, hga, c1⟩ := slc_at HS.out rfl hlt
      have HD := Lib.hid (list_step ls k hlt)
      have hzl : ls[k].length ≤ 65536 := HLn.out _ (List.getElem_mem hlt)
      generalize ls[k] = z at c1 HD hzl
      obtain ⟨t, rfl⟩ : ∃ t : ByteArray, bytes t = z := ⟨str z, bytes_str z⟩
      unfold strV at c1
      rw [str_bytes] at c1
      rw [bytes_len] at hzl
      have c2 : wr.cell? ⟨ga, oa + k, none⟩ = some (.string t) := (hbx.cell (p := ⟨ga, oa + k, none⟩) hga).trans c1
      subst eA
      have HI2 : Hid (T = acc ++ tokMid (k + 1) [] ((bytes t).drop 0) (ls.drop (k + 1))) := Lib.hid (by rw [HI.out, HD.out, List.drop_zero]; rfl)
      clear HI c1 HD
      go_wp2_with fail
      obtain ⟨wo, rfl⟩ : ∃ wo : World, wo = wr := ⟨_, rfl⟩
      have hbo := hbx
      clear hbx
      go_loopg [7, 10] t.size (fun g v i wr => ∃ (m : Nat) (acc : List (Int × List UInt8)), m + g = t.size ∧ i = .int .i64 m ∧ wr.ownsRow w1.heap.size 54 2 v acc.length (acc.flatMap tokCells) ∧ Below w1.heap.size w1 wr ∧ Hid (T = acc ++ tokMid (k + 1) [] ((bytes t).drop m) (ls.drop (k + 1))))
      case atStart => exact ⟨0, acc, by omega, rfl, hown, hbo, HI2⟩
      case round =>
        clear hown HI2 hbo c2
        clear acc
        obtain ⟨m, acc, hm, rfl, hown, hbx, HI⟩ := hrel
        have hbz := hbx.size
        by_cases hlt2 : m < t.size
        · cases h35 : ((t[m].toNat : Int) == 35) with
          | true =>
            have E := Lib.hid (tok_hash (k + 1) t m (ls.drop (k + 1)) hlt2 h35)
            go_wp2_with fail
            go_roundg (ls.length - (k + 1))
            case measure => omega
            case rel => exact ⟨k + 1, acc, by omega, by go_num, hown, hbx, Lib.hid (by rw [HI.out, E.out]; rfl)⟩
          | false =>
            cases hbl : blankB t[m].toNat with
            | true =>
              have E := Lib.hid (tok_blank (k + 1) t m (ls.drop (k + 1)) hlt2 h35 hbl)
              go_wp2_with (first | (go_at_call 33; refine (blank_any _ _).mono ?_; rintro e w' ⟨rfl, rfl⟩))
              go_roundg (t.size - (m + 1))
              case measure => omega
              case rel => exact ⟨m + 1, acc, by omega, by go_num, hown, hbx, Lib.hid (by rw [HI.out, E.out])⟩
            | false =>
              have hal : acc.length ≤ T.length := by rw [HI.out, List.length_append]; omega
              cases hmk : markB t[m].toNat with
              | true =>
                have E := Lib.hid (tok_mark (k + 1) t m (ls.drop (k + 1)) hlt2 h35 hbl hmk)
                go_wp2_with (first | (go_at_call 33; refine (blank_any _ _).mono ?_; rintro e w' ⟨rfl, rfl⟩) | (go_at_call 34; refine (mark_any _ _).mono ?_; rintro e w' ⟨rfl, rfl⟩) | (at_builtin; refine wpList_append1 _ rfl _ _ 50 rfl w1.heap.size 54 i0 _ 2 24 Tryz.underlying50 Hi0.out Hz0.out Hz1.out Hz2.out rfl (by decide) _ acc.length (acc.flatMap tokCells) rfl hown #[.int .i64 (k + 1), .string (t.extract m (m + 1))] rfl rfl (one_tok _ _) (by omega) (by decide) hbz ?_; intro v2 w2 hown2 hb2))
                go_roundg (t.size - (m + 1))
                case measure => omega
                case rel => exact ⟨m + 1, acc ++ [((k : Int) + 1, sub (bytes t) m (m + 1))], by omega, by go_num, by rw [tok_snoc] at hown2; simpa using hown2, hbx.trans hb2, Lib.hid (app1 (by rw [HI.out, E.out]))⟩
              | false =>
                have hwd := word_else h35 hbl hmk
                have HI0 : Hid (T = acc ++ tokMid (k + 1) (sub (bytes t) m m) ((bytes t).drop m) (ls.drop (k + 1))) := Lib.hid (by rw [HI.out, sub_self])
                clear HI
                go_wp2_with (first | (go_at_call 33; refine (blank_any _ _).mono ?_; rintro e w' ⟨rfl, rfl⟩) | (go_at_call 34; refine (mark_any _ _).mono ?_; rintro e w' ⟨rfl, rfl⟩))
                obtain ⟨wp, rfl⟩ : ∃ wp : World, wp = wr := ⟨_, rfl⟩
                go_loopg [10] (t.size - m) (fun g i wr => ∃ j : Nat, j + g = t.size ∧ m ≤ j ∧ i = .int .i64 j ∧ wr = wp ∧ Hid (j = m → wordB t[m].toNat = true) ∧ Hid (T = acc ++ tokMid (k + 1) (sub (bytes t) m j) ((bytes t).drop j) (ls.drop (k + 1))))
                case atStart => exact ⟨m, by omega, by omega, rfl, rfl, Lib.hid (fun _ => hwd), HI0⟩
                case round =>
                  obtain ⟨j, hj, hmj, rfl, ew, HJ, HI⟩ := hrel
                  subst ew
                  by_cases hlt3 : j < t.size
                  · cases hw : wordB t[j].toNat with
                    | true =>
                      have E := Lib.hid (tok_word (k + 1) t m j (ls.drop (k + 1)) hmj hlt3 hw)
                      go_wp2_with (first | (go_at_call 35; refine (inWord_any _ _).mono ?_; rintro e w' ⟨rfl, rfl⟩))
                      go_roundg (t.size - (j + 1))
                      case measure => omega
                      case rel => exact ⟨j + 1, by omega, by omega, by go_num, rfl, Lib.hid (fun h => by omega), Lib.hid (by rw [HI.out, E.out])⟩
                    | false =>
                      have hjm : m < j := by
                        rcases Nat.lt_or_ge m j with h | h
                        · exact h
                        · have e : j = m := by omega
                          have := HJ.out e
                          subst e
                          rw [hw] at this
                          cases this
                      have E := Lib.hid (tok_stop (k + 1) t m j (ls.drop (k + 1)) hjm hlt3 hw)
                      go_wp2_with (first | (go_at_call 35; refine (inWord_any _ _).mono ?_; rintro e w' ⟨rfl, rfl⟩) | (at_builtin; refine wpList_append1 _ rfl _ _ 50 rfl w1.heap.size 54 i0 _ 2 24 Tryz.underlying50 Hi0.out Hz0.out Hz1.out Hz2.out rfl (by decide) _ acc.length (acc.flatMap tokCells) rfl hown #[.int .i64 (k + 1), .string (t.extract m j)] rfl rfl (one_tok _ _) (by omega) (by decide) hbz ?_; intro v2 w2 hown2 hb2))
                      go_roundg (t.size - j)
                      case measure => omega
                      case rel => exact ⟨j, acc ++ [((k : Int) + 1, sub (bytes t) m j)], by omega, rfl, by rw [tok_snoc] at hown2; simpa using hown2, hbx.trans hb2, Lib.hid (app1 (by rw [HI.out, E.out]))⟩
                  · have hjm : m < j := by omega
                    have E := Lib.hid (tok_last (k + 1) t m j (ls.drop (k + 1)) hjm (by omega))
                    go_wp2_with (first | (at_builtin; refine wpList_append1 _ rfl _ _ 50 rfl w1.heap.size 54 i0 _ 2 24 Tryz.underlying50 Hi0.out Hz0.out Hz1.out Hz2.out rfl (by decide) _ acc.length (acc.flatMap tokCells) rfl hown #[.int .i64 (k + 1), .string (t.extract m j)] rfl rfl (one_tok _ _) (by omega) (by decide) hbz ?_; intro v2 w2 hown2 hb2))
                    go_roundg (t.size - j)
                    case measure => omega
                    case rel => exact ⟨j, acc ++ [((k : Int) + 1, sub (bytes t) m j)], by omega, rfl, by rw [tok_snoc] at hown2; simpa using hown2, hbx.trans hb2, Lib.hid (app1 (by rw [HI.out, E.out]))⟩
        · have E := Lib.hid (tok_end (k + 1) t m (ls.drop (k + 1)) hlt2)
          go_wp2_with fail
          go_roundg (ls.length - (k + 1))
          case measure => omega
          case rel => exact ⟨k + 1, acc, by omega, by go_num, hown, hbx, Lib.hid (by rw [HI.out, E.out]; rfl)⟩
    · have HF : Hid (tokRes (bytes s) = acc) := Lib.hid (by rw [HE.out, HI.out, List.drop_eq_nil_of_le (by omega)]; simp [toksFrom])
      go_wp2_with fail
      rw [Exit.noGoto_ret]
      go_ret3
      refine ⟨_, by rw [H.out, HR.out]; rfl, ?_, hb1.trans (hbx.mono hsz)⟩
      rw [HF.out]
      exact base_mono hown hsz
theorem small_of_ok {s : ByteArray} (h : linesErr (bytes s) = 0) : s.size ≤ 65536 := by
  unfold linesErr at h
  rw [bytes_len] at h
  by_cases hs : 65536 < s.size
  · rw [if_pos hs] at h; cases h
  · omega
theorem tokens_any (s : ByteArray) (w : World) : Calls Tryz.prog 12 #[.string s] w (TokPost (bytes s) w) := by
  by_cases h : linesErr (bytes s) = 0
  · exact tokens_ok s w h (small_of_ok h)
  · exact tokens_bad s w _ rfl (by simpa using h)
end Go.Proofs.YtmddfkpkddemnaaGreatDoor
