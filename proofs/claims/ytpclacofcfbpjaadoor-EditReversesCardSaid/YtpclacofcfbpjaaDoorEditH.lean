/- The walk of the reference's Flip. Condition: no line is longer than 10^9 bytes. -/
import Derived.Test.YtpclacofcfbpjaaDoorEditG
namespace Go.Proofs.YtpclacofcfbpjaaDoor
open Go.RowKit

/-- Is the byte before place i blank (or is there none)? -/
def pbAt (l : List UInt8) : Nat → Bool
  | 0 => true
  | i + 1 => match l[i]? with
    | some b => blankB b.toNat
    | none => true
theorem pbAt_succ (s : ByteArray) (i : Nat) (h : i < s.size) : pbAt (bytes s) (i + 1) = blankB s[i].toNat := by
  have e : (bytes s)[i]? = some s[i] := by
    have := drop_step s i h
    rw [← List.head?_drop, this]; rfl
  simp only [pbAt, e]
theorem pbAt_pos (s : ByteArray) (i : Nat) (h0 : 0 < i) (h : i ≤ s.size) : pbAt (bytes s) i = blankB (s[i - 1]'(by omega)).toNat := by
  obtain ⟨m, rfl⟩ : ∃ m, i = m + 1 := ⟨i - 1, by omega⟩
  exact pbAt_succ s m (by omega)
theorem st_blank (s : ByteArray) (i : Nat) (pb : Bool) (h : i < s.size) (hb : blankB s[i].toNat = true) : startsGo i pb ((bytes s).drop i) = startsGo (i + 1) (pbAt (bytes s) (i + 1)) ((bytes s).drop (i + 1)) := by
  rw [pbAt_succ s i h, drop_step s i h, startsGo, if_pos hb, hb]
theorem st_inner (s : ByteArray) (i : Nat) (h : i < s.size) (hb : blankB s[i].toNat = false) : startsGo i false ((bytes s).drop i) = startsGo (i + 1) (pbAt (bytes s) (i + 1)) ((bytes s).drop (i + 1)) := by
  rw [pbAt_succ s i h, drop_step s i h, startsGo, if_neg (by simp [hb]), if_pos rfl, hb]
theorem st_zero (s : ByteArray) (i : Nat) (h : i < s.size) (hb : blankB s[i].toNat = false) (h0 : ((s[i].toNat : Int) == 0) = true) : startsGo i true ((bytes s).drop i) = [] := by
  rw [drop_step s i h, startsGo, if_neg (by simp [hb]), if_neg (by simp), if_pos (by simpa using h0)]
theorem st_open (s : ByteArray) (i : Nat) (h : i < s.size) (hb : blankB s[i].toNat = false) (h0 : ((s[i].toNat : Int) == 0) = false) :
    startsGo i true ((bytes s).drop i) = (i, ((bytes s).drop i).takeWhile nbB) :: startsGo (i + 1) (pbAt (bytes s) (i + 1)) ((bytes s).drop (i + 1)) := by
  rw [pbAt_succ s i h, hb]
  conv => lhs; rw [drop_step s i h]
  rw [startsGo, if_neg (by simp [hb]), if_neg (by simp), if_neg (by simpa using h0), ← drop_step s i h]
theorem tw_on (s : ByteArray) (i j : Nat) (hi : i ≤ j) (h : j < s.size) (hb : blankB s[j].toNat = false) : sub (bytes s) i j ++ ((bytes s).drop j).takeWhile nbB = sub (bytes s) i (j + 1) ++ ((bytes s).drop (j + 1)).takeWhile nbB := by
  rw [drop_step s j h, List.takeWhile_cons, nbB_not hb, sub_snoc s i j hi h]; simp
theorem tw_end (s : ByteArray) (i j : Nat) (h : j < s.size) (hb : blankB s[j].toNat = true) : sub (bytes s) i j ++ ((bytes s).drop j).takeWhile nbB = sub (bytes s) i j := by
  rw [drop_step s j h, List.takeWhile_cons, nbB_blank hb]; simp
theorem tw_last (s : ByteArray) (i j : Nat) (h : ¬ j < s.size) : sub (bytes s) i j ++ ((bytes s).drop j).takeWhile nbB = sub (bytes s) i j := by
  rw [drop_end s j h]; simp
theorem acts_none {n : Nat} {x : List UInt8} (h : actB (bareOf x) = false) : pickAct (n, x) = none := by rw [pickAct, if_neg (by simp [h])]
theorem acts_some {n : Nat} {x : List UInt8} (h : actB (bareOf x) = true) : pickAct (n, x) = some (n, bareOf x) := by rw [pickAct, if_pos h]
theorem exc_no {ls : List (List UInt8)} {x : List UInt8} (h : actB x = false) : excOf ls x = [] := by unfold excOf; simp [h]
theorem exc_yes {ls : List (List UInt8)} {x : List UInt8} (h : actB x = true) : excOf ls x = oppOf ls x := by unfold excOf; simp [h]
theorem isE_yes {l : List UInt8} (h : l = []) : ((str l).toList == []) = true := by rw [toList_str, h]; rfl
theorem isE_no {l : List UInt8} (h : l ≠ []) : ((str l).toList == []) = false := by rw [toList_str]; exact beq_false_of_ne h

set_option maxRecDepth 100000 in
set_option maxHeartbeats 4000000 in
theorem rflip_any (A : Option Addr) (n c : Nat) (ls : List (List UInt8)) (k : Int) (w : World) (hs : Slc w w.heap.size 1 (.slice A n c) n (ls.map strV)) (hn : n = ls.length) (hl : ∀ l ∈ ls, l.length ≤ 1000000000) :
    Calls Tryd.prog 10 #[.slice A n c, .int .i64 k] w (FlipPost (flipI ls k) w) := by
  have hb1 := slc_len hs
  have HS := Lib.hid hs
  have HN := Lib.hid hn
  have HL := Lib.hid hl
  clear hs hn hl
  by_cases h0 : k < 0
  · have HF := Lib.hid (flipI_neg (ls := ls) h0)
    go_enter Tryd.func10, Tryd.ntmps10
    go_wp2_with fail
    go_ret2
    exact flip_none HF.out (Below.refl _ _)
  have d0 : decide (k < 0) = false := by simp; omega
  by_cases h1 : k.toNat < ls.length
  case neg =>
    have HF := Lib.hid (flipI_big (ls := ls) h0 h1)
    have h2 : (n : Int) ≤ k := by rw [HN.out]; omega
    clear h1
    go_enter Tryd.func10, Tryd.ntmps10
    go_wp2_with fail
    go_ret2
    exact flip_none HF.out (Below.refl _ _)
  obtain ⟨j, rfl⟩ : ∃ j : Nat, k = j := ⟨k.toNat, by omega⟩
  have hj : j < ls.length := h1
  have hjn : j < n := by rw [HN.out]; exact hj
  clear h1 h0
  have HF := Lib.hid (flipI_at hj)
  obtain ⟨g, o, eA, hg, c1⟩ := slc_at HS.out HN.out hj
  have hx : (ls[j]).length ≤ 1000000000 := HL.out _ (List.getElem_mem hj)
  generalize ls[j] = x at HF c1 hx
  unfold strV at c1
  subst eA
  obtain ⟨s, rfl⟩ : ∃ s : ByteArray, bytes s = x := ⟨str x, bytes_str x⟩
  rw [str_bytes] at c1
  rw [bytes_len] at hx
  have HX := Lib.hid (fun (w' : World) (b : ByteArray) (h1 : w.heap.size ≤ w'.heap.size) (h2 : Below w.heap.size w w') => exchanged_any _ _ _ j ls b w' ((HS.out.below h2).mono h1) HN.out hjn HL.out)
  have hop := fun y => opp_len (ls.take (j + 1)) y
  have HOP := Lib.hid hop
  clear hop
  have d3 : decide (n ≤ j) = false := decide_eq_false (by omega)
  go_enter Tryd.func10, Tryd.ntmps10
  go_wp2_with fail
  go_loopw [7, 8, 9, 10, 11, 12, 13] (fun at' en ct wd ix _ _ wr => ∃ (i : Nat) (dn : List (Nat × List UInt8)) (a b : Nat) (y : List UInt8), i ≤ s.size ∧ dn.length ≤ i ∧ a ≤ s.size ∧ b ≤ s.size ∧ y.length ≤ 7 ∧
      at' = .int .i64 a ∧ en = .int .i64 b ∧ ct = .int .i64 dn.length ∧ wd = .string (str y) ∧ ix = .int .i64 i ∧ w.heap.size ≤ wr.heap.size ∧ Below w.heap.size w wr ∧
      Hid (dn.length = 1 → ∃ x, dn = [(a, x)] ∧ b = a + x.length ∧ y = oppOf (ls.take (j + 1)) x) ∧
      Hid (actsOf (bytes s) = dn ++ (startsGo i (pbAt (bytes s) i) ((bytes s).drop i)).filterMap pickAct)) (fun _ _ _ _ ix _ _ _ => s.size - (intOf ix).toNat)
  case atStart => exact ⟨0, [], 0, 0, [], by omega, by simp, by omega, by omega, by simp, rfl, rfl, rfl, rfl, rfl, by omega, Below.refl _ _, Lib.hid (fun h => by cases h), Lib.hid (by rfl)⟩
  case round =>
    obtain ⟨i, dn, a, b, y, hi, hdn, ha, hbs, hy, rfl, rfl, rfl, rfl, rfl, hz, hb, HD, HA⟩ := hrel
    clear c1
    by_cases hlt : i < s.size
    · cases hbl : blankB s[i].toNat with
      | true =>
        have E := Lib.hid (st_blank s i (pbAt (bytes s) i) hlt hbl)
        go_wp2_with (first | (go_at_call 24; refine (rblank_any _ _).mono ?_; rintro e w' ⟨rfl, rfl⟩))
        go_roundw
        case rel => exact ⟨i + 1, dn, a, b, y, by omega, by omega, ha, hbs, hy, rfl, rfl, rfl, rfl, by go_num, hz, hb, HD, Lib.hid (by rw [HA.out, E.out])⟩
        case measure => simp [intOf]; omega
      | false =>
        cases hpb : pbAt (bytes s) i with
        | false =>
          have hi0 : 0 < i := by
            rcases Nat.eq_zero_or_pos i with h | h
            · subst h; cases hpb
            · exact h
          have HA2 : Hid (actsOf (bytes s) = dn ++ (startsGo (i + 1) (pbAt (bytes s) (i + 1)) ((bytes s).drop (i + 1))).filterMap pickAct) := Lib.hid (by rw [HA.out, hpb, st_inner s i hlt hbl])
          rw [pbAt_pos s i hi0 hi] at hpb
          clear HA
          have b0 : (1 : Int) ≤ i := by omega
          go_wp2_with (first | (go_at_call 24; refine (rblank_any _ _).mono ?_; rintro e w' ⟨rfl, rfl⟩))
          go_roundw
          case rel => exact ⟨i + 1, dn, a, b, y, by omega, by omega, ha, hbs, hy, rfl, rfl, rfl, rfl, by go_num, hz, hb, HD, HA2⟩
          case measure => simp [intOf]; omega
        | true =>
          have hcase : ¬ 0 < i ∨ ∃ h : 0 < i, blankB (s[i - 1]'(by omega)).toNat = true := by
            rcases Nat.lt_or_ge 0 i with h | h
            · rw [pbAt_pos s i h hi] at hpb; exact .inr ⟨h, hpb⟩
            · exact .inl (by omega)
          rw [hpb] at HA
          clear hpb
          cases h0 : ((s[i].toNat : Int) == 0) with
          | true =>
            have hdone : actsOf (bytes s) = dn := by rw [HA.out, st_zero s i hlt hbl h0]; simp
            rcases hcase with hi0 | ⟨hi0, hp⟩
            · have d4 : decide (0 < i) = false := decide_eq_false hi0
              have HF2 : Hid (flipI ls j = flipLine ls j (bytes s) dn) := Lib.hid (by rw [HF.out, hdone])
              clear hdone HF HA
              cases hc1 : ((dn.length : Int) != 1) with
              | true =>
                have HF3 : Hid (flipI ls j = none) := Lib.hid (by rw [HF2.out]; exact flipLine_no hc1)
                go_wp2_with (first | (go_at_call 24; refine (rblank_any _ _).mono ?_; rintro e w' ⟨rfl, rfl⟩))
                go_ret2
                exact flip_none HF3.out hb
              | false =>
                obtain ⟨x, hd, hbx, hyx⟩ := HD.out (by have : (dn.length : Int) = 1 := by simpa using hc1
                                                       omega)
                have HF3 : Hid (flipI ls j = some ((bytes s).take a ++ y ++ (bytes s).drop b)) := Lib.hid (by rw [HF2.out, hd, hyx, hbx]; rfl)
                clear hd hbx hyx HF2 HD
                rw [← str_size] at hy
                have HY := Lib.hid (bytes_str y)
                generalize str y = z at *
                have b1 : (a : Int) ≤ s.size := by omega
                have b2 : (b : Int) ≤ s.size := by omega
                go_wp2_with (first | (go_at_call 24; refine (rblank_any _ _).mono ?_; rintro e w' ⟨rfl, rfl⟩))
                have e1 : (s.extract 0 a).size ≤ s.size := by simp; omega
                have e2 : (s.extract b s.size).size ≤ s.size := by simp
                have R1 : ∀ w, (Op.stringOp .add (s.extract 0 a) z).run Tryd.prog w = .ok (.string (s.extract 0 a ++ z)) w := fun w => run_string_add_sum w _ _ (by omega)
                have R2 : ∀ w, (Op.stringOp .add (s.extract 0 a ++ z) (s.extract b s.size)).run Tryd.prog w = .ok (.string (s.extract 0 a ++ z ++ s.extract b s.size)) w := fun w => run_string_add_sum w _ _ (by rw [ByteArray.size_append]; omega)
                clear e1 e2
                go_quiet (fail)
                go_wp2_with fail
                go_ret2
                exact flip_some (by rw [HF3.out, bytes_app, bytes_app, ext_to, ext_from, HY.out]) (hb.trans ((drewN_below _ _).mono hz))
            · have b0 : (1 : Int) ≤ i := by omega
              have HF2 : Hid (flipI ls j = flipLine ls j (bytes s) dn) := Lib.hid (by rw [HF.out, hdone])
              clear hdone HF HA
              cases hc1 : ((dn.length : Int) != 1) with
              | true =>
                have HF3 : Hid (flipI ls j = none) := Lib.hid (by rw [HF2.out]; exact flipLine_no hc1)
                go_wp2_with (first | (go_at_call 24; refine (rblank_any _ _).mono ?_; rintro e w' ⟨rfl, rfl⟩))
                go_ret2
                exact flip_none HF3.out hb
              | false =>
                obtain ⟨x, hd, hbx, hyx⟩ := HD.out (by have : (dn.length : Int) = 1 := by simpa using hc1
                                                       omega)
                have HF3 : Hid (flipI ls j = some ((bytes s).take a ++ y ++ (bytes s).drop b)) := Lib.hid (by rw [HF2.out, hd, hyx, hbx]; rfl)
                clear hd hbx hyx HF2 HD
                rw [← str_size] at hy
                have HY := Lib.hid (bytes_str y)
                generalize str y = z at *
                have b1 : (a : Int) ≤ s.size := by omega
                have b2 : (b : Int) ≤ s.size := by omega
                go_wp2_with (first | (go_at_call 24; refine (rblank_any _ _).mono ?_; rintro e w' ⟨rfl, rfl⟩))
                have e1 : (s.extract 0 a).size ≤ s.size := by simp; omega
                have e2 : (s.extract b s.size).size ≤ s.size := by simp
                have R1 : ∀ w, (Op.stringOp .add (s.extract 0 a) z).run Tryd.prog w = .ok (.string (s.extract 0 a ++ z)) w := fun w => run_string_add_sum w _ _ (by omega)
                have R2 : ∀ w, (Op.stringOp .add (s.extract 0 a ++ z) (s.extract b s.size)).run Tryd.prog w = .ok (.string (s.extract 0 a ++ z ++ s.extract b s.size)) w := fun w => run_string_add_sum w _ _ (by rw [ByteArray.size_append]; omega)
                clear e1 e2
                go_quiet (fail)
                go_wp2_with fail
                go_ret2
                exact flip_some (by rw [HF3.out, bytes_app, bytes_app, ext_to, ext_from, HY.out]) (hb.trans ((drewN_below _ _).mono hz))
          | false =>
            have E := Lib.hid (st_open s i hlt hbl h0)
            rcases hcase with hi0 | ⟨hi0, hp⟩
            · have d4 : decide (0 < i) = false := decide_eq_false hi0
              obtain ⟨wo, rfl⟩ : ∃ wo : World, wo = wr := ⟨_, rfl⟩
              go_wp2_with (first | (go_at_call 24; refine (rblank_any _ _).mono ?_; rintro e w' ⟨rfl, rfl⟩))
              go_loop [12] (fun q => ∃ m : Nat, i ≤ m ∧ m ≤ s.size ∧ q = .int .i64 m ∧ Hid (((bytes s).drop i).takeWhile nbB = sub (bytes s) i m ++ ((bytes s).drop m).takeWhile nbB)) (fun q => s.size - (intOf q).toNat)
              case atStart => exact ⟨i, by omega, by omega, rfl, Lib.hid (by rw [sub_self]; rfl)⟩
              case round =>
                obtain ⟨m, hm1, hm2, rfl, H⟩ := hrel
                by_cases hlt2 : m < s.size
                · cases hbj : blankB s[m].toNat with
                  | false =>
                    have E2 := Lib.hid (tw_on s i m hm1 hlt2 hbj)
                    go_wp2_with (first | (go_at_call 24; refine (rblank_any _ _).mono ?_; rintro e w' ⟨rfl, rfl⟩))
                    go_round
                    case rel => exact ⟨m + 1, by omega, by omega, by go_num, Lib.hid (by rw [H.out, E2.out])⟩
                    case measure => simp [intOf]; omega
                  | true =>
                    have HT : Hid (((bytes s).drop i).takeWhile nbB = bytes (s.extract i m)) := Lib.hid (by rw [H.out, tw_end s i m hlt2 hbj, ext_eq, bytes_str])
                    clear H
                    have HB := Lib.hid (fun w' => bare_any (s.extract i m) w' (by simp; omega))
                    have hul := bare_len (bytes (s.extract i m))
                    rw [bytes_len, show (s.extract i m).size = m - i from by simp; omega, ← str_size] at hul
                    have HU := Lib.hid (bytes_str (bareOf (bytes (s.extract i m))))
                    have HA3 : Hid (actsOf (bytes s) = dn ++ (pickAct (i, bytes (s.extract i m))).toList ++ (startsGo (i + 1) (pbAt (bytes s) (i + 1)) ((bytes s).drop (i + 1))).filterMap pickAct) := Lib.hid (by
                      rw [HA.out, E.out, HT.out, List.filterMap_cons]
                      cases pickAct (i, bytes (s.extract i m)) <;> simp)
                    clear HA E HT
                    cases hact : actB (bareOf (bytes (s.extract i m))) with
                    | true =>
                      have HP : Hid (pickAct (i, bytes (s.extract i m)) = some (i, bareOf (bytes (s.extract i m)))) := Lib.hid (acts_some hact)
                      rw [← HU.out] at hact HP
                      generalize str (bareOf (bytes (s.extract i m))) = u at *
                      have HE := Lib.hid (HX.out _ u hz hb)
                      rw [exc_yes hact] at HE
                      have HV := Lib.hid (bytes_str (oppOf (ls.take (j + 1)) (bytes u)))
                      have hv : str (oppOf (ls.take (j + 1)) (bytes u)) ≠ str [] := fun h => opp_ne (str_inj h)
                      have hvl := HOP.out (bytes u)
                      rw [← str_size] at hvl
                      generalize str (oppOf (ls.take (j + 1)) (bytes u)) = v at *
                      have v1 : v.toList.isEmpty = false := by
                        cases hh : v.toList.isEmpty
                        · rfl
                        · exfalso; apply hv; rw [← str_bytes v, ← toList_bytes]; rw [List.isEmpty_iff.1 hh]
                      have v2 : (v.toList == []) = false := by
                        cases hh : v.toList
                        · rw [hh] at v1; cases v1
                        · rfl
                      clear hact hv
                      go_wp2_with (first | (go_at_call 24; refine (rblank_any _ _).mono ?_; rintro e w' ⟨rfl, rfl⟩))
                      refine (HB.out _).mono ?_
                      rintro e w' ⟨rfl, rfl⟩
                      go_wp2_with fail
                      refine HE.out.mono ?_
                      rintro e w1 ⟨rfl, hb3⟩
                      go_wp2_with fail
                      refine (HB.out _).mono ?_
                      rintro e w' ⟨rfl, rfl⟩
                      go_wp2_with fail
                      go_roundw
                      case rel => exact ⟨i + 1, dn ++ [(i, bytes u)], i, i + u.size, bytes v, by omega, by simp; omega, by omega, by omega, by rw [bytes_len]; exact hvl, rfl, by go_num, by simp, by rw [str_bytes], by go_num, Nat.le_trans hz hb3.size, hb.trans (hb3.mono hz), Lib.hid (fun h => by
                          have h0 : dn = [] := List.eq_nil_of_length_eq_zero (by simpa using h)
                          rw [h0]; exact ⟨bytes u, rfl, by rw [bytes_len], HV.out⟩), Lib.hid (by rw [HA3.out, HP.out]; rfl)⟩
                      case measure => simp [intOf]; omega
                    | false =>
                      have HP : Hid (pickAct (i, bytes (s.extract i m)) = none) := Lib.hid (acts_none hact)
                      rw [← HU.out] at hact
                      generalize str (bareOf (bytes (s.extract i m))) = u at *
                      have HE := Lib.hid (HX.out _ u hz hb)
                      rw [exc_no hact] at HE
                      have v0 : (str []).toList = [] := toList_str []
                      clear hact
                      go_wp2_with (first | (go_at_call 24; refine (rblank_any _ _).mono ?_; rintro e w' ⟨rfl, rfl⟩))
                      refine (HB.out _).mono ?_
                      rintro e w' ⟨rfl, rfl⟩
                      go_wp2_with fail
                      refine HE.out.mono ?_
                      rintro e w1 ⟨rfl, hb3⟩
                      go_wp2_with fail
                      go_roundw
                      case rel => exact ⟨i + 1, dn, a, b, y, by omega, by omega, ha, hbs, hy, rfl, rfl, rfl, rfl, by go_num, Nat.le_trans hz hb3.size, hb.trans (hb3.mono hz), HD, Lib.hid (by rw [HA3.out, HP.out]; simp)⟩
                      case measure => simp [intOf]; omega
                · have HT : Hid (((bytes s).drop i).takeWhile nbB = bytes (s.extract i m)) := Lib.hid (by rw [H.out, tw_last s i m hlt2, ext_eq, bytes_str])
                  clear H
                  have HB := Lib.hid (fun w' => bare_any (s.extract i m) w' (by simp; omega))
                  have hul := bare_len (bytes (s.extract i m))
                  rw [bytes_len, show (s.extract i m).size = m - i from by simp; omega, ← str_size] at hul
                  have HU := Lib.hid (bytes_str (bareOf (bytes (s.extract i m))))
                  have HA3 : Hid (actsOf (bytes s) = dn ++ (pickAct (i, bytes (s.extract i m))).toList ++ (startsGo (i + 1) (pbAt (bytes s) (i + 1)) ((bytes s).drop (i + 1))).filterMap pickAct) := Lib.hid (by
                    rw [HA.out, E.out, HT.out, List.filterMap_cons]
                    cases pickAct (i, bytes (s.extract i m)) <;> simp)
                  clear HA E HT
                  cases hact : actB (bareOf (bytes (s.extract i m))) with
                  | true =>
                    have HP : Hid (pickAct (i, bytes (s.extract i m)) = some (i, bareOf (bytes (s.extract i m)))) := Lib.hid (acts_some hact)
                    rw [← HU.out] at hact HP
                    generalize str (bareOf (bytes (s.extract i m))) = u at *
                    have HE := Lib.hid (HX.out _ u hz hb)
                    rw [exc_yes hact] at HE
                    have HV := Lib.hid (bytes_str (oppOf (ls.take (j + 1)) (bytes u)))
                    have hv : str (oppOf (ls.take (j + 1)) (bytes u)) ≠ str [] := fun h => opp_ne (str_inj h)
                    have hvl := HOP.out (bytes u)
                    rw [← str_size] at hvl
                    generalize str (oppOf (ls.take (j + 1)) (bytes u)) = v at *
                    have v1 : v.toList.isEmpty = false := by
                      cases hh : v.toList.isEmpty
                      · rfl
                      · exfalso; apply hv; rw [← str_bytes v, ← toList_bytes]; rw [List.isEmpty_iff.1 hh]
                    have v2 : (v.toList == []) = false := by
                      cases hh : v.toList
                      · rw [hh] at v1; cases v1
                      · rfl
                    clear hact hv
                    go_wp2_with fail
                    refine (HB.out _).mono ?_
                    rintro e w' ⟨rfl, rfl⟩
                    go_wp2_with fail
                    refine HE.out.mono ?_
                    rintro e w1 ⟨rfl, hb3⟩
                    go_wp2_with fail
                    refine (HB.out _).mono ?_
                    rintro e w' ⟨rfl, rfl⟩
                    go_wp2_with fail
                    go_roundw
                    case rel => exact ⟨i + 1, dn ++ [(i, bytes u)], i, i + u.size, bytes v, by omega, by simp; omega, by omega, by omega, by rw [bytes_len]; exact hvl, rfl, by go_num, by simp, by rw [str_bytes], by go_num, Nat.le_trans hz hb3.size, hb.trans (hb3.mono hz), Lib.hid (fun h => by
                        have h0 : dn = [] := List.eq_nil_of_length_eq_zero (by simpa using h)
                        rw [h0]; exact ⟨bytes u, rfl, by rw [bytes_len], HV.out⟩), Lib.hid (by rw [HA3.out, HP.out]; rfl)⟩
                    case measure => simp [intOf]; omega
                  | false =>
                    have HP : Hid (pickAct (i, bytes (s.extract i m)) = none) := Lib.hid (acts_none hact)
                    rw [← HU.out] at hact
                    generalize str (bareOf (bytes (s.extract i m))) = u at *
                    have HE := Lib.hid (HX.out _ u hz hb)
                    rw [exc_no hact] at HE
                    have v0 : (str []).toList = [] := toList_str []
                    clear hact
                    go_wp2_with fail
                    refine (HB.out _).mono ?_
                    rintro e w' ⟨rfl, rfl⟩
                    go_wp2_with fail
                    refine HE.out.mono ?_
                    rintro e w1 ⟨rfl, hb3⟩
                    go_wp2_with fail
                    go_roundw
                    case rel => exact ⟨i + 1, dn, a, b, y, by omega, by omega, ha, hbs, hy, rfl, rfl, rfl, rfl, by go_num, Nat.le_trans hz hb3.size, hb.trans (hb3.mono hz), HD, Lib.hid (by rw [HA3.out, HP.out]; simp)⟩
                    case measure => simp [intOf]; omega
            · have b0 : (1 : Int) ≤ i := by omega
              obtain ⟨wo, rfl⟩ : ∃ wo : World, wo = wr := ⟨_, rfl⟩
              go_wp2_with (first | (go_at_call 24; refine (rblank_any _ _).mono ?_; rintro e w' ⟨rfl, rfl⟩))
              go_loop [12] (fun q => ∃ m : Nat, i ≤ m ∧ m ≤ s.size ∧ q = .int .i64 m ∧ Hid (((bytes s).drop i).takeWhile nbB = sub (bytes s) i m ++ ((bytes s).drop m).takeWhile nbB)) (fun q => s.size - (intOf q).toNat)
              case atStart => exact ⟨i, by omega, by omega, rfl, Lib.hid (by rw [sub_self]; rfl)⟩
              case round =>
                obtain ⟨m, hm1, hm2, rfl, H⟩ := hrel
                by_cases hlt2 : m < s.size
                · cases hbj : blankB s[m].toNat with
                  | false =>
                    have E2 := Lib.hid (tw_on s i m hm1 hlt2 hbj)
                    go_wp2_with (first | (go_at_call 24; refine (rblank_any _ _).mono ?_; rintro e w' ⟨rfl, rfl⟩))
                    go_round
                    case rel => exact ⟨m + 1, by omega, by omega, by go_num, Lib.hid (by rw [H.out, E2.out])⟩
                    case measure => simp [intOf]; omega
                  | true =>
                    have HT : Hid (((bytes s).drop i).takeWhile nbB = bytes (s.extract i m)) := Lib.hid (by rw [H.out, tw_end s i m hlt2 hbj, ext_eq, bytes_str])
                    clear H
                    have HB := Lib.hid (fun w' => bare_any (s.extract i m) w' (by simp; omega))
                    have hul := bare_len (bytes (s.extract i m))
                    rw [bytes_len, show (s.extract i m).size = m - i from by simp; omega, ← str_size] at hul
                    have HU := Lib.hid (bytes_str (bareOf (bytes (s.extract i m))))
                    have HA3 : Hid (actsOf (bytes s) = dn ++ (pickAct (i, bytes (s.extract i m))).toList ++ (startsGo (i + 1) (pbAt (bytes s) (i + 1)) ((bytes s).drop (i + 1))).filterMap pickAct) := Lib.hid (by
                      rw [HA.out, E.out, HT.out, List.filterMap_cons]
                      cases pickAct (i, bytes (s.extract i m)) <;> simp)
                    clear HA E HT
                    cases hact : actB (bareOf (bytes (s.extract i m))) with
                    | true =>
                      have HP : Hid (pickAct (i, bytes (s.extract i m)) = some (i, bareOf (bytes (s.extract i m)))) := Lib.hid (acts_some hact)
                      rw [← HU.out] at hact HP
                      generalize str (bareOf (bytes (s.extract i m))) = u at *
                      have HE := Lib.hid (HX.out _ u hz hb)
                      rw [exc_yes hact] at HE
                      have HV := Lib.hid (bytes_str (oppOf (ls.take (j + 1)) (bytes u)))
                      have hv : str (oppOf (ls.take (j + 1)) (bytes u)) ≠ str [] := fun h => opp_ne (str_inj h)
                      have hvl := HOP.out (bytes u)
                      rw [← str_size] at hvl
                      generalize str (oppOf (ls.take (j + 1)) (bytes u)) = v at *
                      have v1 : v.toList.isEmpty = false := by
                        cases hh : v.toList.isEmpty
                        · rfl
                        · exfalso; apply hv; rw [← str_bytes v, ← toList_bytes]; rw [List.isEmpty_iff.1 hh]
                      have v2 : (v.toList == []) = false := by
                        cases hh : v.toList
                        · rw [hh] at v1; cases v1
                        · rfl
                      clear hact hv
                      go_wp2_with (first | (go_at_call 24; refine (rblank_any _ _).mono ?_; rintro e w' ⟨rfl, rfl⟩))
                      refine (HB.out _).mono ?_
                      rintro e w' ⟨rfl, rfl⟩
                      go_wp2_with fail
                      refine HE.out.mono ?_
                      rintro e w1 ⟨rfl, hb3⟩
                      go_wp2_with fail
                      refine (HB.out _).mono ?_
                      rintro e w' ⟨rfl, rfl⟩
                      go_wp2_with fail
                      go_roundw
                      case rel => exact ⟨i + 1, dn ++ [(i, bytes u)], i, i + u.size, bytes v, by omega, by simp; omega, by omega, by omega, by rw [bytes_len]; exact hvl, rfl, by go_num, by simp, by rw [str_bytes], by go_num, Nat.le_trans hz hb3.size, hb.trans (hb3.mono hz), Lib.hid (fun h => by
                          have h0 : dn = [] := List.eq_nil_of_length_eq_zero (by simpa using h)
                          rw [h0]; exact ⟨bytes u, rfl, by rw [bytes_len], HV.out⟩), Lib.hid (by rw [HA3.out, HP.out]; rfl)⟩
                      case measure => simp [intOf]; omega
                    | false =>
                      have HP : Hid (pickAct (i, bytes (s.extract i m)) = none) := Lib.hid (acts_none hact)
                      rw [← HU.out] at hact
                      generalize str (bareOf (bytes (s.extract i m))) = u at *
                      have HE := Lib.hid (HX.out _ u hz hb)
                      rw [exc_no hact] at HE
                      have v0 : (str []).toList = [] := toList_str []
                      clear hact
                      go_wp2_with (first | (go_at_call 24; refine (rblank_any _ _).mono ?_; rintro e w' ⟨rfl, rfl⟩))
                      refine (HB.out _).mono ?_
                      rintro e w' ⟨rfl, rfl⟩
                      go_wp2_with fail
                      refine HE.out.mono ?_
                      rintro e w1 ⟨rfl, hb3⟩
                      go_wp2_with fail
                      go_roundw
                      case rel => exact ⟨i + 1, dn, a, b, y, by omega, by omega, ha, hbs, hy, rfl, rfl, rfl, rfl, by go_num, Nat.le_trans hz hb3.size, hb.trans (hb3.mono hz), HD, Lib.hid (by rw [HA3.out, HP.out]; simp)⟩
                      case measure => simp [intOf]; omega
                · have HT : Hid (((bytes s).drop i).takeWhile nbB = bytes (s.extract i m)) := Lib.hid (by rw [H.out, tw_last s i m hlt2, ext_eq, bytes_str])
                  clear H
                  have HB := Lib.hid (fun w' => bare_any (s.extract i m) w' (by simp; omega))
                  have hul := bare_len (bytes (s.extract i m))
                  rw [bytes_len, show (s.extract i m).size = m - i from by simp; omega, ← str_size] at hul
                  have HU := Lib.hid (bytes_str (bareOf (bytes (s.extract i m))))
                  have HA3 : Hid (actsOf (bytes s) = dn ++ (pickAct (i, bytes (s.extract i m))).toList ++ (startsGo (i + 1) (pbAt (bytes s) (i + 1)) ((bytes s).drop (i + 1))).filterMap pickAct) := Lib.hid (by
                    rw [HA.out, E.out, HT.out, List.filterMap_cons]
                    cases pickAct (i, bytes (s.extract i m)) <;> simp)
                  clear HA E HT
                  cases hact : actB (bareOf (bytes (s.extract i m))) with
                  | true =>
                    have HP : Hid (pickAct (i, bytes (s.extract i m)) = some (i, bareOf (bytes (s.extract i m)))) := Lib.hid (acts_some hact)
                    rw [← HU.out] at hact HP
                    generalize str (bareOf (bytes (s.extract i m))) = u at *
                    have HE := Lib.hid (HX.out _ u hz hb)
                    rw [exc_yes hact] at HE
                    have HV := Lib.hid (bytes_str (oppOf (ls.take (j + 1)) (bytes u)))
                    have hv : str (oppOf (ls.take (j + 1)) (bytes u)) ≠ str [] := fun h => opp_ne (str_inj h)
                    have hvl := HOP.out (bytes u)
                    rw [← str_size] at hvl
                    generalize str (oppOf (ls.take (j + 1)) (bytes u)) = v at *
                    have v1 : v.toList.isEmpty = false := by
                      cases hh : v.toList.isEmpty
                      · rfl
                      · exfalso; apply hv; rw [← str_bytes v, ← toList_bytes]; rw [List.isEmpty_iff.1 hh]
                    have v2 : (v.toList == []) = false := by
                      cases hh : v.toList
                      · rw [hh] at v1; cases v1
                      · rfl
                    clear hact hv
                    go_wp2_with fail
                    refine (HB.out _).mono ?_
                    rintro e w' ⟨rfl, rfl⟩
                    go_wp2_with fail
                    refine HE.out.mono ?_
                    rintro e w1 ⟨rfl, hb3⟩
                    go_wp2_with fail
                    refine (HB.out _).mono ?_
                    rintro e w' ⟨rfl, rfl⟩
                    go_wp2_with fail
                    go_roundw
                    case rel => exact ⟨i + 1, dn ++ [(i, bytes u)], i, i + u.size, bytes v, by omega, by simp; omega, by omega, by omega, by rw [bytes_len]; exact hvl, rfl, by go_num, by simp, by rw [str_bytes], by go_num, Nat.le_trans hz hb3.size, hb.trans (hb3.mono hz), Lib.hid (fun h => by
                        have h0 : dn = [] := List.eq_nil_of_length_eq_zero (by simpa using h)
                        rw [h0]; exact ⟨bytes u, rfl, by rw [bytes_len], HV.out⟩), Lib.hid (by rw [HA3.out, HP.out]; rfl)⟩
                    case measure => simp [intOf]; omega
                  | false =>
                    have HP : Hid (pickAct (i, bytes (s.extract i m)) = none) := Lib.hid (acts_none hact)
                    rw [← HU.out] at hact
                    generalize str (bareOf (bytes (s.extract i m))) = u at *
                    have HE := Lib.hid (HX.out _ u hz hb)
                    rw [exc_no hact] at HE
                    have v0 : (str []).toList = [] := toList_str []
                    clear hact
                    go_wp2_with fail
                    refine (HB.out _).mono ?_
                    rintro e w' ⟨rfl, rfl⟩
                    go_wp2_with fail
                    refine HE.out.mono ?_
                    rintro e w1 ⟨rfl, hb3⟩
                    go_wp2_with fail
                    go_roundw
                    case rel => exact ⟨i + 1, dn, a, b, y, by omega, by omega, ha, hbs, hy, rfl, rfl, rfl, rfl, by go_num, Nat.le_trans hz hb3.size, hb.trans (hb3.mono hz), HD, Lib.hid (by rw [HA3.out, HP.out]; simp)⟩
                    case measure => simp [intOf]; omega
    · have hdone : actsOf (bytes s) = dn := by rw [HA.out, drop_end s i hlt]; simp [startsGo]
      have HF2 : Hid (flipI ls j = flipLine ls j (bytes s) dn) := Lib.hid (by rw [HF.out, hdone])
      clear hdone HF HA
      cases hc1 : ((dn.length : Int) != 1) with
      | true =>
        have HF3 : Hid (flipI ls j = none) := Lib.hid (by rw [HF2.out]; exact flipLine_no hc1)
        go_wp2_with fail
        go_ret2
        exact flip_none HF3.out hb
      | false =>
        obtain ⟨x, hd, hbx, hyx⟩ := HD.out (by have : (dn.length : Int) = 1 := by simpa using hc1
                                               omega)
        have HF3 : Hid (flipI ls j = some ((bytes s).take a ++ y ++ (bytes s).drop b)) := Lib.hid (by rw [HF2.out, hd, hyx, hbx]; rfl)
        clear hd hbx hyx HF2 HD
        rw [← str_size] at hy
        have HY := Lib.hid (bytes_str y)
        generalize str y = z at *
        have b1 : (a : Int) ≤ s.size := by omega
        have b2 : (b : Int) ≤ s.size := by omega
        go_wp2_with fail
        have e1 : (s.extract 0 a).size ≤ s.size := by simp; omega
        have e2 : (s.extract b s.size).size ≤ s.size := by simp
        have R1 : ∀ w, (Op.stringOp .add (s.extract 0 a) z).run Tryd.prog w = .ok (.string (s.extract 0 a ++ z)) w := fun w => run_string_add_sum w _ _ (by omega)
        have R2 : ∀ w, (Op.stringOp .add (s.extract 0 a ++ z) (s.extract b s.size)).run Tryd.prog w = .ok (.string (s.extract 0 a ++ z ++ s.extract b s.size)) w := fun w => run_string_add_sum w _ _ (by rw [ByteArray.size_append]; omega)
        clear e1 e2
        go_quiet (fail)
        go_wp2_with fail
        go_ret2
        exact flip_some (by rw [HF3.out, bytes_app, bytes_app, ext_to, ext_from, HY.out]) (hb.trans ((drewN_below _ _).mono hz))
end Go.Proofs.YtpclacofcfbpjaaDoor
