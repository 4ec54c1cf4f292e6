/- The reference's check joined, and the walk of the reference's changed. Conditions: at most 10^5 lines of at most 10^5 bytes, at most 24 edits with texts of at most 10^6 bytes. -/
import Derived.Test.YtpclacofcfbpjaaDoorEditN
namespace Go.Proofs.YtpclacofcfbpjaaDoor
open Go.RowKit

theorem rcheck_any (vl ve : Value) (lss : List (List (List UInt8))) (es : List Ed) (i : Nat) (w : World) (hL : LL w w.heap.size vl lss) (hE : EL w w.heap.size ve es) (hel : es.length ≤ 1000000000) (hi : i < es.length) (hS : Short lss) (ht : es[i].text.length ≤ 1000000000) :
    Calls Tryd.prog 30 #[vl, ve, .int .i64 i] w (CheckPost (checkErr lss (es.take i) es[i]) w) := by
  obtain ⟨A, cc, rfl⟩ := hL.form
  obtain ⟨Ae, ce, rfl, _, _⟩ := hE.form
  by_cases h0 : es[i].cfg < 0
  · exact rcheck_neg A Ae _ cc ce i lss es _ w hE hel hi rfl h0
  by_cases h1 : (lss.length : Int) ≤ es[i].cfg
  · exact rcheck_big A Ae _ cc ce i lss es _ w hE hel hi rfl rfl h0 h1
  obtain ⟨j, hc⟩ : ∃ j : Nat, es[i].cfg = j := ⟨es[i].cfg.toNat, by omega⟩
  have hj : j < lss.length := by omega
  by_cases k0 : es[i].kind < 1
  · exact rcheck_k0 A Ae _ cc ce i lss es _ w hE hel hi rfl j hL rfl hj hS hc k0
  by_cases k4 : 3 < es[i].kind
  · exact rcheck_k4 A Ae _ cc ce i lss es _ w hE hel hi rfl j hL rfl hj hS hc k4
  by_cases k3 : es[i].kind = 3
  · by_cases l0 : es[i].line < 1
    · exact rcheck_ins_lo A Ae _ cc ce i lss es _ w hE hel hi rfl j hL rfl hj hS hc k3 l0
    by_cases l1 : (lss[j].length : Int) + 1 < es[i].line
    · exact rcheck_ins_hi A Ae _ cc ce i lss es _ w hE hel hi rfl j hL rfl hj hS hc k3 l0 l1
    cases hp : printB es[i].text with
    | false => exact rcheck_ins_bad A Ae _ cc ce i lss es _ w hE hel hi rfl j hL rfl hj hS hc ht k3 l0 l1 hp
    | true => exact rcheck_ins_ok A Ae _ cc ce i lss es _ w hE hel hi rfl j hL rfl hj hS hc ht k3 l0 l1 hp
  by_cases k1 : es[i].kind = 1
  · by_cases l0 : es[i].line < 1
    · exact rcheck_del_lo A Ae _ cc ce i lss es _ w hE hel hi rfl j hL rfl hj hS hc k1 l0
    by_cases l1 : (lss[j].length : Int) < es[i].line
    · exact rcheck_del_hi A Ae _ cc ce i lss es _ w hE hel hi rfl j hL rfl hj hS hc k1 l0 l1
    by_cases htt : es[i].text = []
    · exact rcheck_del_ok A Ae _ cc ce i lss es _ w hE hel hi rfl j hL rfl hj hS hc k1 htt l0 l1
    · exact rcheck_del_text A Ae _ cc ce i lss es _ w hE hel hi rfl j hL rfl hj hS hc k1 l0 l1 htt
  have k2 : es[i].kind = 2 := by omega
  by_cases l0 : es[i].line < 1
  · exact rcheck_flp_lo A Ae _ cc ce i lss es _ w hE hel hi rfl j hL rfl hj hS hc k2 l0
  by_cases l1 : (lss[j].length : Int) < es[i].line
  · exact rcheck_flp_hi A Ae _ cc ce i lss es _ w hE hel hi rfl j hL rfl hj hS hc k2 l0 l1
  by_cases htt : es[i].text = []
  · cases hf : flipI lss[j] (es[i].line - 1) with
    | none => exact rcheck_flp_no A Ae _ cc ce i lss es _ w hE hel hi rfl j hL rfl hj hS hc k2 htt l0 l1 hf
    | some r => exact rcheck_flp_ok A Ae _ cc ce i lss es _ w hE hel hi rfl j hL rfl hj hS hc k2 htt l0 l1 r hf
  · exact rcheck_flp_text A Ae _ cc ce i lss es _ w hE hel hi rfl j hL rfl hj hS hc k2 l0 l1 htt

theorem str_app3 (a b : List UInt8) : str a ++ str b ++ (⟨#[10]⟩ : ByteArray) = str (a ++ b ++ [10]) := by
  have h : ∀ x y : List UInt8, str x ++ str y = str (x ++ y) := fun x y => by
    apply ByteArray.ext; simp [str, ByteArray.data_append]
  rw [h]; exact h _ [10]

set_option maxRecDepth 100000 in
set_option maxHeartbeats 4000000 in
theorem changed_any (vl ve : Value) (ls : List (List UInt8)) (es : List Ed) (cfg : Int) (w : World) (hL : Sl w w.heap.size vl ls) (hE : EL w w.heap.size ve es) (hn : ls.length ≤ 100000) (hl : ∀ l ∈ ls, l.length ≤ 100000)
    (he : es.length ≤ 24) (ht : ∀ x ∈ es, x.text.length ≤ 1000000) :
    Calls Tryd.prog 31 #[vl, ve, .int .i64 cfg] w fun e w' => e = .returned (.string (str (rewriteOf ls es cfg))) ∧ Below w.heap.size w w' := by
  obtain ⟨A, c, rfl, hc, hb1, hS⟩ := hL.form
  obtain ⟨Ae, ce, rfl, hce, heb⟩ := hE.form
  have HS := Lib.hid hS
  have HE := Lib.hid hE
  have HFL := Lib.hid (fun (w' : World) (k : Int) (h1 : w.heap.size ≤ w'.heap.size) (h2 : Below w.heap.size w w') => rflip_any _ _ _ ls k w' ((hS.below h2).mono h1) rfl (fun l h => Nat.le_trans (hl l h) (by decide)))
  have HUL := Lib.hid (fun k => rwUpto_len (cfg := cfg) hl ht he k)
  have HFS := Lib.hid (fun k => flip_short (k := k) hl)
  have HTX := Lib.hid ht
  have HLS := Lib.hid hl
  clear hL hE hS ht hl
  go_enter Tryd.func31, Tryd.ntmps31
  go_wp2_with fail
  go_loopw [7, 8, 9, 10, 11] (fun sv ix _ _ _ wr => ∃ k : Nat, k ≤ ls.length + 1 ∧ ix = .int .i64 k ∧ sv = .string (str (rwUpto ls es cfg k)) ∧ w.heap.size ≤ wr.heap.size ∧ Below w.heap.size w wr) (fun _ ix _ _ _ _ => ls.length + 1 - (intOf ix).toNat)
  case atStart => exact ⟨0, by omega, rfl, rfl, Nat.le_refl _, Below.refl _ _⟩
  case round =>
    obtain ⟨k, hk, rfl, rfl, hz, hb⟩ := hrel
    by_cases hlt : k ≤ ls.length
    · have hul := HUL.out k
      have ST : Hid (es.foldl (rwStep ls cfg k) (rwStart ls k) = (es.drop 0).foldl (rwStep ls cfg k) (rwStart ls k)) := Lib.hid rfl
      obtain ⟨wo, rfl⟩ : ∃ wo : World, wo = wr := ⟨_, rfl⟩
      by_cases hkn : k < ls.length
      · obtain ⟨g, o, eA, hg, c1⟩ := slc_at (HS.out.below hb) rfl hkn
        have hx : (ls[k]).length ≤ 100000 := HLS.out _ (List.getElem_mem hkn)
        have e0 : rwStart ls k = ⟨[], ls[k], true⟩ := by unfold rwStart; simp [hkn, List.getD_eq_getElem?_getD]
        replace ST : Hid (es.foldl (rwStep ls cfg k) (rwStart ls k) = (es.drop 0).foldl (rwStep ls cfg k) ⟨[], ls[k], true⟩) := Lib.hid (by rw [ST.out, ← e0])
        clear e0
        generalize ls[k] = x at c1 hx ST
        unfold strV at c1
        subst eA
        have d1 : decide (k < ls.length) = true := decide_eq_true hkn
        go_wp2_with fail
        go_loopw [7, 9, 10, 11] (fun sv ln kp ix wi => ∃ (q : Nat) (so sl : List UInt8) (sk : Bool), q ≤ es.length ∧ ix = .int .i64 q ∧ kp = .bool sk ∧ ln = .string (str sl) ∧ sv = .string (str (rwUpto ls es cfg k ++ so)) ∧ so.length ≤ 1000001 * q ∧ sl.length ≤ 100007 ∧
            w.heap.size ≤ wi.heap.size ∧ Below w.heap.size w wi ∧ Hid (es.foldl (rwStep ls cfg k) (rwStart ls k) = (es.drop q).foldl (rwStep ls cfg k) ⟨so, sl, sk⟩)) (fun _ _ _ ix _ => es.length - (intOf ix).toNat)
        case atStart => exact ⟨0, [], x, true, by omega, rfl, rfl, rfl, by rw [List.append_nil], by simp, by omega, hz, hb, ST⟩
        case round =>
          clear hz hb ST c1
          obtain ⟨q, so, sl, sk, hq, rfl, rfl, rfl, rfl, hso, hsl, hz, hb, ST⟩ := hrel
          have hal : (str (rwUpto ls es cfg k ++ so)).size ≤ 20000000000000 := by rw [str_size, List.length_append]; omega
          by_cases hlt2 : q < es.length
          · obtain ⟨ge, oe, eE, hge, x0, x1, x2, x3⟩ := (HE.out.below hb).at hlt2
            have E := Lib.hid (fold_step (ls := ls) (cfg := cfg) (k := k) (s := ⟨so, sl, sk⟩) hlt2)
            have htx := HTX.out _ (List.getElem_mem hlt2)
            generalize es[q] = y at x0 x1 x2 x3 E htx
            obtain ⟨yc, yl, yk, yt⟩ := y
            simp only at x0 x1 x2 x3 htx
            unfold strV at x3
            subst eE
            have q0 : (q : Int) < es.length := by omega
            cases h1 : (yc != cfg) with
            | true =>
              have HN : Hid (rwStep ls cfg k ⟨so, sl, sk⟩ ⟨yc, yl, yk, yt⟩ = ⟨so, sl, sk⟩) := Lib.hid (rw_skip (.inl (by simpa using h1)))
              go_wp2_with fail
              go_roundw
              case rel => exact ⟨q + 1, so, sl, sk, by omega, by go_num, rfl, rfl, rfl, by omega, hsl, hz, hb, Lib.hid (by rw [ST.out, E.out, HN.out])⟩
              case measure => simp [intOf]; omega
            | false =>
              cases h2 : (yl != (k : Int) + 1) with
              | true =>
                have HN : Hid (rwStep ls cfg k ⟨so, sl, sk⟩ ⟨yc, yl, yk, yt⟩ = ⟨so, sl, sk⟩) := Lib.hid (rw_skip (.inr (by simpa using h2)))
                go_wp2_with fail
                go_roundw
                case rel => exact ⟨q + 1, so, sl, sk, by omega, by go_num, rfl, rfl, rfl, by omega, hsl, hz, hb, Lib.hid (by rw [ST.out, E.out, HN.out])⟩
                case measure => simp [intOf]; omega
              | false =>
                have hc1 : yc = cfg := by simpa using h1
                have hl1 : yl = (k : Int) + 1 := by simpa using h2
                have HC1 := Lib.hid hc1
                have HL1 := Lib.hid hl1
                clear hc1 hl1
                by_cases hk3 : yk = 3
                · subst hk3
                  have HN : Hid (rwStep ls cfg k ⟨so, sl, sk⟩ ⟨yc, yl, 3, yt⟩ = ⟨so ++ yt ++ [10], sl, sk⟩) := Lib.hid (rw_ins HC1.out HL1.out rfl)
                  have hys : (str yt).size ≤ 1000000 := by rw [str_size]; exact htx
                  go_wp2_with fail
                  go_roundw
                  case rel => exact ⟨q + 1, so ++ yt ++ [10], sl, sk, by omega, by go_num, rfl, rfl, by rw [str_app3]; simp, by simp only [List.length_append, List.length_cons, List.length_nil]; omega, hsl, hz, hb, Lib.hid (by rw [ST.out, E.out, HN.out])⟩
                  case measure => simp [intOf]; omega
                have n3 : (yk == 3) = false := beq_false_of_ne hk3
                by_cases hk1 : yk = 1
                · subst hk1
                  have HN : Hid (rwStep ls cfg k ⟨so, sl, sk⟩ ⟨yc, yl, 1, yt⟩ = ⟨so, sl, false⟩) := Lib.hid (rw_del HC1.out HL1.out rfl)
                  clear n3 hk3
                  go_wp2_with fail
                  go_roundw
                  case rel => exact ⟨q + 1, so, sl, false, by omega, by go_num, rfl, rfl, rfl, by omega, hsl, hz, hb, Lib.hid (by rw [ST.out, E.out, HN.out])⟩
                  case measure => simp [intOf]; omega
                have n1 : (yk == 1) = false := beq_false_of_ne hk1
                by_cases hk2 : yk = 2
                · subst hk2
                  have HN : Hid (rwStep ls cfg k ⟨so, sl, sk⟩ ⟨yc, yl, 2, yt⟩ = ⟨so, (flipI ls k).getD [], sk⟩) := Lib.hid (rw_flp HC1.out HL1.out rfl)
                  have hfs := HFS.out (k : Int)
                  clear n3 hk3 n1 hk1
                  go_wp2_with fail
                  refine (HFL.out _ _ hz hb).mono ?_
                  rintro e w1 ⟨rfl, hb2⟩
                  have hz1 : w.heap.size ≤ w1.heap.size := Nat.le_trans hz hb2.size
                  have hb3 : Below w.heap.size w w1 := hb.trans (hb2.mono hz)
                  clear hb2
                  unfold flipV
                  go_wp2_with fail
                  go_roundw
                  case rel => exact ⟨q + 1, so, (flipI ls k).getD [], sk, by omega, by go_num, rfl, rfl, rfl, by omega, hfs, hz1, hb3, Lib.hid (by rw [ST.out, E.out, HN.out])⟩
                  case measure => simp [intOf]; omega
                have n2 : (yk == 2) = false := beq_false_of_ne hk2
                have HN : Hid (rwStep ls cfg k ⟨so, sl, sk⟩ ⟨yc, yl, yk, yt⟩ = ⟨so, sl, sk⟩) := Lib.hid (rw_oth hk3 hk2 hk1)
                go_wp2_with fail
                go_roundw
                case rel => exact ⟨q + 1, so, sl, sk, by omega, by go_num, rfl, rfl, rfl, by omega, hsl, hz, hb, Lib.hid (by rw [ST.out, E.out, HN.out])⟩
                case measure => simp [intOf]; omega
          · have HD : Hid (rwUpto ls es cfg (k + 1) = rwUpto ls es cfg k ++ rwEnd ⟨so, sl, sk⟩) := Lib.hid (rw_done (by rw [ST.out, List.drop_eq_nil_of_le (by omega)]; rfl))
            clear ST
            cases sk with
            | false =>
              rw [end_drop] at HD
              go_wp2_with fail
              go_roundw
              case rel => exact ⟨k + 1, by omega, by go_num, by rw [HD.out], hz, hb⟩
              case measure => simp [intOf]; omega
            | true =>
              rw [end_keep] at HD
              have hys : (str sl).size ≤ 100007 := by rw [str_size]; exact hsl
              go_wp2_with fail
              go_roundw
              case rel => exact ⟨k + 1, by omega, by go_num, by rw [HD.out, str_app3]; simp, hz, hb⟩
              case measure => simp [intOf]; omega
      · have e0 : rwStart ls k = ⟨[], [], false⟩ := by unfold rwStart; simp [hkn, List.getD_eq_getElem?_getD]
        replace ST : Hid (es.foldl (rwStep ls cfg k) (rwStart ls k) = (es.drop 0).foldl (rwStep ls cfg k) ⟨[], [], false⟩) := Lib.hid (by rw [ST.out, ← e0])
        clear e0
        have d1 : decide (k < ls.length) = false := decide_eq_false hkn
        go_wp2_with fail
        go_loopw [7, 9, 10, 11] (fun sv ln kp ix wi => ∃ (q : Nat) (so sl : List UInt8) (sk : Bool), q ≤ es.length ∧ ix = .int .i64 q ∧ kp = .bool sk ∧ ln = .string (str sl) ∧ sv = .string (str (rwUpto ls es cfg k ++ so)) ∧ so.length ≤ 1000001 * q ∧ sl.length ≤ 100007 ∧
            w.heap.size ≤ wi.heap.size ∧ Below w.heap.size w wi ∧ Hid (es.foldl (rwStep ls cfg k) (rwStart ls k) = (es.drop q).foldl (rwStep ls cfg k) ⟨so, sl, sk⟩)) (fun _ _ _ ix _ => es.length - (intOf ix).toNat)
        case atStart => exact ⟨0, [], [], false, by omega, rfl, rfl, rfl, by rw [List.append_nil], by simp, by simp, hz, hb, ST⟩
        case round =>
          clear hz hb ST
          obtain ⟨q, so, sl, sk, hq, rfl, rfl, rfl, rfl, hso, hsl, hz, hb, ST⟩ := hrel
          have hal : (str (rwUpto ls es cfg k ++ so)).size ≤ 20000000000000 := by rw [str_size, List.length_append]; omega
          by_cases hlt2 : q < es.length
          · obtain ⟨ge, oe, eE, hge, x0, x1, x2, x3⟩ := (HE.out.below hb).at hlt2
            have E := Lib.hid (fold_step (ls := ls) (cfg := cfg) (k := k) (s := ⟨so, sl, sk⟩) hlt2)
            have htx := HTX.out _ (List.getElem_mem hlt2)
            generalize es[q] = y at x0 x1 x2 x3 E htx
            obtain ⟨yc, yl, yk, yt⟩ := y
            simp only at x0 x1 x2 x3 htx
            unfold strV at x3
            subst eE
            have q0 : (q : Int) < es.length := by omega
            cases h1 : (yc != cfg) with
            | true =>
              have HN : Hid (rwStep ls cfg k ⟨so, sl, sk⟩ ⟨yc, yl, yk, yt⟩ = ⟨so, sl, sk⟩) := Lib.hid (rw_skip (.inl (by simpa using h1)))
              go_wp2_with fail
              go_roundw
              case rel => exact ⟨q + 1, so, sl, sk, by omega, by go_num, rfl, rfl, rfl, by omega, hsl, hz, hb, Lib.hid (by rw [ST.out, E.out, HN.out])⟩
              case measure => simp [intOf]; omega
            | false =>
              cases h2 : (yl != (k : Int) + 1) with
              | true =>
                have HN : Hid (rwStep ls cfg k ⟨so, sl, sk⟩ ⟨yc, yl, yk, yt⟩ = ⟨so, sl, sk⟩) := Lib.hid (rw_skip (.inr (by simpa using h2)))
                go_wp2_with fail
                go_roundw
                case rel => exact ⟨q + 1, so, sl, sk, by omega, by go_num, rfl, rfl, rfl, by omega, hsl, hz, hb, Lib.hid (by rw [ST.out, E.out, HN.out])⟩
                case measure => simp [intOf]; omega
              | false =>
                have hc1 : yc = cfg := by simpa using h1
                have hl1 : yl = (k : Int) + 1 := by simpa using h2
                have HC1 := Lib.hid hc1
                have HL1 := Lib.hid hl1
                clear hc1 hl1
                by_cases hk3 : yk = 3
                · subst hk3
                  have HN : Hid (rwStep ls cfg k ⟨so, sl, sk⟩ ⟨yc, yl, 3, yt⟩ = ⟨so ++ yt ++ [10], sl, sk⟩) := Lib.hid (rw_ins HC1.out HL1.out rfl)
                  have hys : (str yt).size ≤ 1000000 := by rw [str_size]; exact htx
                  go_wp2_with fail
                  go_roundw
                  case rel => exact ⟨q + 1, so ++ yt ++ [10], sl, sk, by omega, by go_num, rfl, rfl, by rw [str_app3]; simp, by simp only [List.length_append, List.length_cons, List.length_nil]; omega, hsl, hz, hb, Lib.hid (by rw [ST.out, E.out, HN.out])⟩
                  case measure => simp [intOf]; omega
                have n3 : (yk == 3) = false := beq_false_of_ne hk3
                by_cases hk1 : yk = 1
                · subst hk1
                  have HN : Hid (rwStep ls cfg k ⟨so, sl, sk⟩ ⟨yc, yl, 1, yt⟩ = ⟨so, sl, false⟩) := Lib.hid (rw_del HC1.out HL1.out rfl)
                  clear n3 hk3
                  go_wp2_with fail
                  go_roundw
                  case rel => exact ⟨q + 1, so, sl, false, by omega, by go_num, rfl, rfl, rfl, by omega, hsl, hz, hb, Lib.hid (by rw [ST.out, E.out, HN.out])⟩
                  case measure => simp [intOf]; omega
                have n1 : (yk == 1) = false := beq_false_of_ne hk1
                by_cases hk2 : yk = 2
                · subst hk2
                  have HN : Hid (rwStep ls cfg k ⟨so, sl, sk⟩ ⟨yc, yl, 2, yt⟩ = ⟨so, (flipI ls k).getD [], sk⟩) := Lib.hid (rw_flp HC1.out HL1.out rfl)
                  have hfs := HFS.out (k : Int)
                  clear n3 hk3 n1 hk1
                  go_wp2_with fail
                  refine (HFL.out _ _ hz hb).mono ?_
                  rintro e w1 ⟨rfl, hb2⟩
                  have hz1 : w.heap.size ≤ w1.heap.size := Nat.le_trans hz hb2.size
                  have hb3 : Below w.heap.size w w1 := hb.trans (hb2.mono hz)
                  clear hb2
                  unfold flipV
                  go_wp2_with fail
                  go_roundw
                  case rel => exact ⟨q + 1, so, (flipI ls k).getD [], sk, by omega, by go_num, rfl, rfl, rfl, by omega, hfs, hz1, hb3, Lib.hid (by rw [ST.out, E.out, HN.out])⟩
                  case measure => simp [intOf]; omega
                have n2 : (yk == 2) = false := beq_false_of_ne hk2
                have HN : Hid (rwStep ls cfg k ⟨so, sl, sk⟩ ⟨yc, yl, yk, yt⟩ = ⟨so, sl, sk⟩) := Lib.hid (rw_oth hk3 hk2 hk1)
                go_wp2_with fail
                go_roundw
                case rel => exact ⟨q + 1, so, sl, sk, by omega, by go_num, rfl, rfl, rfl, by omega, hsl, hz, hb, Lib.hid (by rw [ST.out, E.out, HN.out])⟩
                case measure => simp [intOf]; omega
          · have HD : Hid (rwUpto ls es cfg (k + 1) = rwUpto ls es cfg k ++ rwEnd ⟨so, sl, sk⟩) := Lib.hid (rw_done (by rw [ST.out, List.drop_eq_nil_of_le (by omega)]; rfl))
            clear ST
            cases sk with
            | false =>
              rw [end_drop] at HD
              go_wp2_with fail
              go_roundw
              case rel => exact ⟨k + 1, by omega, by go_num, by rw [HD.out], hz, hb⟩
              case measure => simp [intOf]; omega
            | true =>
              rw [end_keep] at HD
              have hys : (str sl).size ≤ 100007 := by rw [str_size]; exact hsl
              go_wp2_with fail
              go_roundw
              case rel => exact ⟨k + 1, by omega, by go_num, by rw [HD.out, str_app3]; simp, hz, hb⟩
              case measure => simp [intOf]; omega
    · have hkl : k = ls.length + 1 := by omega
      have HK := Lib.hid hkl
      clear hkl
      go_wp2_with fail
      go_ret
      exact ⟨ret_str (by rw [HK.out]; rfl), hb⟩
end Go.Proofs.YtpclacofcfbpjaaDoor
