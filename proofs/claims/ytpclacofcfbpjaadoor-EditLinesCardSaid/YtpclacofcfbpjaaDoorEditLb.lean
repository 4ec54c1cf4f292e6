/- The walk of the law EditLines. Condition: MaxLen's cell. -/
import Derived.Test.YtpclacofcfbpjaaDoorEditLa
namespace Go.Proofs.YtpclacofcfbpjaaDoor
open Go.RowKit

set_option maxRecDepth 100000 in
set_option maxHeartbeats 8000000 in
theorem editLines_walk (A : Option Addr) (len cap : Nat) (zs : List (List UInt8)) (Ae : Option Addr) (elen ecap : Nat) (es : List Ed) (w : World) (hM : MaxCell w) (hS : StrsArg w A len cap zs) (hcap : len ≤ cap) (hE : EL w w.heap.size (.slice Ae elen ecap) es) (hwf : ∀ x ∈ es, edWf x) :
    Calls Tryd.prog 6 #[.slice A len cap, .slice Ae elen ecap] w fun e w' => e = .returned (.bool true) ∧ Below w.heap.size w w' := by
  obtain ⟨hs, rfl, _⟩ := hS
  obtain ⟨Ae', ce', ee, hce, heb⟩ := hE.form
  injection ee with e1 e2 e3
  subst e1 e2 e3
  obtain ⟨j0, hj0, hy0, hy1, hy2⟩ := info_parts Tryd.edInfo
  have Hj0 := Lib.hid hj0
  have Hy0 := Lib.hid hy0
  have Hy1 := Lib.hid hy1
  have Hy2 := Lib.hid hy2
  have HAW := Lib.hid (awake_any w hM)
  have HM := Lib.hid hM
  have HS := Lib.hid hs
  have HE := Lib.hid hE
  have HWF := Lib.hid hwf
  clear hj0 hy0 hy1 hy2 hM hs hE hwf
  go_enter Tryd.func6, Tryd.ntmps6
  go_wp2_with fail
  refine HAW.out.mono ?_
  rintro e w1 ⟨rfl, hb1⟩
  have hzz1 := hb1.size
  have HS1 := Lib.hid ((HS.out.below hb1).mono hb1.size)
  have HE1 := Lib.hid ((HE.out.below hb1).mono hb1.size)
  have HM1 := Lib.hid (HM.out.below hb1)
  have HSH := Lib.hid (short_any A cap w1.heap.size zs w1 HS1.out)
  clear HS HM HAW HE
  cases hsh : shortB zs with
  | false =>
    rw [hsh] at HSH
    go_wp2_with fail
    refine HSH.out.mono ?_
    rintro e w' ⟨rfl, rfl⟩
    go_wp2_with fail
    go_ret
    exact ⟨rfl, hb1⟩
  | true =>
    rw [hsh] at HSH
    have h6 : zs.length ≤ 6 := by unfold shortB at hsh; simp at hsh; exact hsh.2
    have HSB := Lib.hid hsh
    clear hsh
    by_cases hz6 : 0 < zs.length
    case neg =>
      have e0 : ((zs.length : Int) == 0) = true := by rw [show zs.length = 0 by omega]; rfl
      go_wp2_with fail
      refine HSH.out.mono ?_
      rintro e w' ⟨rfl, rfl⟩
      go_wp2_with fail
      go_ret
      exact ⟨rfl, hb1⟩
    have e0 : ((zs.length : Int) == 0) = false := beq_false_of_ne (by omega)
    by_cases h20 : 20 < es.length
    · have e20 : decide ((20 : Int) < es.length) = true := decide_eq_true (by omega)
      go_wp2_with fail
      refine HSH.out.mono ?_
      rintro e w' ⟨rfl, rfl⟩
      go_wp2_with fail
      go_ret
      exact ⟨rfl, hb1⟩
    have e20 : decide ((20 : Int) < es.length) = false := decide_eq_false (by omega)
    go_wp2_with fail
    refine HSH.out.mono ?_
    rintro e w' ⟨rfl, rfl⟩
    go_wp2_with (first | (at_builtin; refine wpList_appendS _ rfl _ _ 29 rfl w1.heap.size 32 j0 _ 4 40 Tryd.underlying29 Hj0.out Hy0.out Hy1.out Hy2.out rfl (by decide) _ 0 [] rfl (World.ownsRow_nil _ _ _ _) _ w1.heap.size es.length (es.flatMap edCells) rfl HE1.out.slc ed_one (by omega) (by decide) (Nat.le_refl _) ?_; intro v2 w2 hown2 hb2))
    have hown3 : w2.ownsRow w1.heap.size 32 4 v2 es.length (es.flatMap edCells) := by simpa using hown2
    obtain ⟨A2, c2, rfl⟩ := slc_form (Slc.of_own hown3)
    have HO0 := Lib.hid hown3
    clear hown2 hown3
    go_loopw [4, 5] (fun _ ix wr => ∃ (q : Nat) (el : List Ed), q ≤ es.length ∧ ix = .int .i64 q ∧ Hid (el.length = es.length) ∧ Hid (wr.ownsRow w1.heap.size 32 4 (.slice A2 es.length c2) es.length (el.flatMap edCells)) ∧ Hid (∀ x ∈ el.drop q, edWf x) ∧ Hid (∀ x ∈ el.take q, x.text.length ≤ 200) ∧ w1.heap.size ≤ wr.heap.size ∧ Below w1.heap.size w1 wr) (fun _ ix _ => es.length - (intOf ix).toNat)
    case atStart => exact ⟨0, es, by omega, rfl, Lib.hid rfl, HO0, Lib.hid (by rw [List.drop_zero]; exact HWF.out), Lib.hid (by simp), hb2.size, hb2⟩
    case round =>
      clear HO0 hb2 HWF HE1
      obtain ⟨q, el, hq, rfl, HEL, HO, HWD, HTK, hz, hb⟩ := hrel
      by_cases hlt : q < es.length
      · have hql : q < el.length := by rw [HEL.out]; exact hlt
        have hown := HO.out
        obtain ⟨g, cg, hv, hbg, hgl, hcell⟩ := own_form hown (by omega)
        injection hv with hv1 hv2 hv3
        subst hv1 hv3
        obtain ⟨f1, f2, f3, f4⟩ := ed_flat el q hql
        have x0 := hcell _ _ f1
        have x1 := hcell _ _ f2
        have x2 := hcell _ _ f3
        have x3 := hcell _ _ f4
        have hwx : edWf el[q] := HWD.out _ (by rw [list_step el q hql]; exact List.mem_cons_self)
        have HTS := Lib.hid (fun (y : Ed) (h : y.text.length ≤ 200) => txt_snoc hql HTK.out h)
        have HSET := Lib.hid (fun (y : Ed) => ed_set el q y hql)
        have HDR : Hid (∀ y, (el.set q y).drop (q + 1) = el.drop (q + 1)) := Lib.hid (fun y => by rw [List.drop_set_of_lt (by omega)])
        have HSELF : Hid (el.set q el[q] = el) := Lib.hid (by simp)
        have HWD2 : Hid (∀ x ∈ el.drop (q + 1), edWf x) := Lib.hid (fun x hx => HWD.out x (List.mem_of_mem_drop (i := 1) (by rw [List.drop_drop]; exact hx)))
        clear f1 f2 f3 f4 hcell
        generalize el[q] = x at x0 x1 x2 x3 hwx HSELF
        obtain ⟨xc, xl, xk, xt⟩ := x
        simp only at x0 x1 x2 x3
        unfold strV at x3
        have q0 : (q : Int) < es.length := by omega
        by_cases ht : 200 < (str xt).size
        · have t1 : decide ((200 : Int) < (str xt).size) = true := decide_eq_true (by omega)
          go_wp2_with fail
          go_ret
          exact ⟨rfl, hb1.trans (hb.mono hzz1)⟩
        have t1 : decide ((200 : Int) < (str xt).size) = false := decide_eq_false (by omega)
        have htx : xt.length ≤ 200 := by rw [str_size] at ht; omega
        have HFIT := Lib.hid (fit_any A cap zs ⟨xc, xl, xk, xt⟩ wr ((HS1.out.below hb).mono hz) hz6 (by omega) hwx)
        unfold edV strV at HFIT
        go_wp2_with fail
        refine HFIT.out.mono ?_
        rintro e w4 ⟨y, rfl, hfit, hb4⟩
        have hown4 := own_below hown hb4
        obtain ⟨hO1, _⟩ := hown4.stored (q * 4) (.int .i64 y.cfg)
        obtain ⟨hO2, _⟩ := hO1.stored (q * 4 + 1) (.int .i64 y.line)
        obtain ⟨hO3, _⟩ := hO2.stored (q * 4 + 2) (.int .i64 y.kind)
        obtain ⟨hO4, _⟩ := hO3.stored (q * 4 + 3) (.string (str y.text))
        have y0 := (hb4.cell (World.block_lt_of_cell? _ _ x0)).trans x0
        have y1 := (hb4.cell (World.block_lt_of_cell? _ _ x1)).trans x1
        have y2 := (hb4.cell (World.block_lt_of_cell? _ _ x2)).trans x2
        have y3 := (hb4.cell (World.block_lt_of_cell? _ _ x3)).trans x3
        have z0 := hown4.frozenAt (q * 4)
        have z1 := hown4.frozenAt (q * 4 + 1)
        have z2 := hown4.frozenAt (q * 4 + 2)
        have z3 := hown4.frozenAt (q * 4 + 3)
        have HO4 := Lib.hid hO4
        have HFT := Lib.hid hfit
        have hz4 : w1.heap.size ≤ w4.heap.size := Nat.le_trans hz hb4.size
        have hb5 : Below w1.heap.size w1 w4 := hb.trans (hb4.mono hz)
        clear hO1 hO2 hO3 hO4 hown4 hown hfit hb4 x0 x1 x2 x3
        obtain ⟨yc, yl, yk, yt⟩ := y
        simp only at HO4 ⊢
        go_wp2_with fail
        go_roundw
        case rel => exact ⟨q + 1, el.set q ⟨yc, yl, yk, yt⟩, by omega, by go_num, Lib.hid (by rw [List.length_set]; exact HEL.out), Lib.hid (by rw [← HSET.out]; exact HO4.out), Lib.hid (by rw [HDR.out]; exact HWD2.out), Lib.hid (HTS.out _ (Nat.le_trans HFT.out.2.2.2 htx)), by simpa using hz4, (((hb5.setCell hbg _).setCell hbg _).setCell hbg _).setCell hbg _⟩
        case measure => simp [intOf]; omega
      · have HT : Hid (∀ x ∈ el, x.text.length ≤ 200) := Lib.hid (fun x hx => HTK.out x (by rw [List.take_of_length_le (by rw [HEL.out]; omega)]; exact hx))
        have hb0 : Below w.heap.size w wr := hb1.trans (hb.mono hzz1)
        have hz0 : w.heap.size ≤ wr.heap.size := Nat.le_trans hzz1 hz
        have SlT : Sl wr wr.heap.size (.slice A zs.length cap) zs := ⟨A, cap, rfl, hcap, (HS1.out.below hb).mono hz⟩
        have E3 : EL wr wr.heap.size (.slice A2 es.length c2) el := EL.of_own (by rw [HEL.out]; exact HO.out)
        have HM3 := Lib.hid (HM1.out.below hb)
        have HAP := Lib.hid (apply_any _ _ zs el wr SlT E3 HM3.out (by omega) (by rw [HEL.out]; omega) (fun x hx => Nat.le_trans (HT.out x hx) (by decide)))
        have HST := Lib.hid SlT
        have HE3 := Lib.hid E3
        obtain ⟨wo, rfl⟩ : ∃ wo : World, wo = wr := ⟨_, rfl⟩
        clear HWD HTK HM1 HS1 SlT E3
        go_wp2_with fail
        refine HAP.out.mono ?_
        rintro e w4 ⟨va, rfl, hsa, hb4⟩
        have HAP2 := Lib.hid (apply_any _ _ zs [] w4 ((HST.out.below hb4).mono hb4.size) EL.nil (HM3.out.below hb4) (by omega) (by simp) (fun x hx => by cases hx))
        have HSA := Lib.hid hsa
        clear hsa HAP
        go_wp2_with fail
        refine HAP2.out.mono ?_
        rintro e w5 ⟨vb, rfl, hsb, hb5⟩
        have hbw5 : Below wo.heap.size wo w5 := hb4.trans (hb5.mono hb4.size)
        have hb05 : Below w.heap.size w w5 := hb0.trans (hbw5.mono hz0)
        have hz05 : w.heap.size ≤ w5.heap.size := Nat.le_trans hz0 hbw5.size
        cases hae : (applyErr zs el != 0) with
        | true =>
          have hao : applyOf zs el = [] := by unfold applyOf; rw [if_neg (by simpa using hae)]
          have hsa := HSA.out
          rw [hao] at hsa
          obtain ⟨Aa, ca, rfl, _, _⟩ := hsa.form' (n := 0) rfl
          obtain ⟨Ab, cb, rfl, _, _, _⟩ := hsb.form
          clear hao hsa hsb
          go_wp2_with fail
          go_ret
          exact ⟨rfl, hb05⟩
        | false =>
          have h0 : applyErr zs el = 0 := by simpa using hae
          have h1 := apply_nil (apply_zero h0).1
          have HOL := Lib.hid (out_len h0)
          have HON := Lib.hid (out_len h1)
          have HLA := Lib.hid (fun (i : Nat) (hi : i < zs.length) => lines_at h0 HSB.out HT.out hi)
          have HGA := Lib.hid (fun (i : Nat) (hi : i < zs.length) => out_get h0 hi)
          have HGB := Lib.hid (fun (i : Nat) (hi : i < zs.length) => out_get h1 hi)
          obtain ⟨Aa, ca, rfl, _, hsa⟩ := HSA.out.form' HOL.out
          obtain ⟨Ab, cb, rfl, _, hsb⟩ := hsb.form' HON.out
          have HA5 := Lib.hid ((hsa.below hb5).mono hb5.size)
          have HB5 := Lib.hid hsb
          have HT5 := Lib.hid ((HST.out.slc.below hbw5).mono hbw5.size)
          have HE5 := Lib.hid ((HE3.out.below hbw5).mono hbw5.size)
          have e1 : (applyErr zs [] != 0) = false := by simpa using h1
          clear h0 h1 hsa hsb HSA HST HE3
          generalize applyErr zs el = ae at *
          generalize applyErr zs [] = ne at *
          generalize applyOf zs el = outs at *
          generalize applyOf zs [] = sames at *
          go_wp2_with fail
          go_loopw [4, 10, 11, 12, 13, 14, 15, 16, 17, 18] (fun _ ix _ _ _ _ _ _ _ _ wr => ∃ i : Nat, i ≤ zs.length ∧ ix = .int .i64 i ∧ w5.heap.size ≤ wr.heap.size ∧ Below w5.heap.size w5 wr) (fun _ ix _ _ _ _ _ _ _ _ _ => zs.length - (intOf ix).toNat)
          case atStart => exact ⟨0, by omega, rfl, Nat.le_refl _, Below.refl _ _⟩
          case round =>
            obtain ⟨i, hi, rfl, hz6', hb6⟩ := hrel
            by_cases hlt3 : i < zs.length
            · obtain ⟨g1, o1, eA1, _, c1⟩ := slc_at (HT5.out.below hb6) rfl hlt3
              obtain ⟨g2, o2, eA2, _, cA2⟩ := slc_at (HA5.out.below hb6) HOL.out.symm (k := i) (by rw [HOL.out]; exact hlt3)
              obtain ⟨g3, o3, eA3, _, cA3⟩ := slc_at (HB5.out.below hb6) HON.out.symm (k := i) (by rw [HON.out]; exact hlt3)
              have ga := HGA.out i hlt3
              rw [List.getElem?_eq_getElem (by rw [HOL.out]; exact hlt3)] at ga
              injection ga with ga
              have gb := HGB.out i hlt3
              rw [List.getElem?_eq_getElem (by rw [HON.out]; exact hlt3)] at gb
              injection gb with gb
              rw [ga] at cA2
              rw [gb] at cA3
              have hla := HLA.out i hlt3
              clear ga gb
              generalize zs[i] = t at c1 cA2 cA3 hla
              obtain ⟨le0, le1, le2, ll1, ll2⟩ := hla
              generalize rewriteOf (linesOf t) el (i : Int) = ta at cA2 le1 ll1
              generalize rewriteOf (linesOf t) [] (i : Int) = tb at cA3 le2 ll2
              have r0 : linesRes t = linesOf t := by unfold linesRes; rw [if_pos le0]
              have r1 : linesRes ta = linesOf ta := by unfold linesRes; rw [if_pos le1]
              have r2 : linesRes tb = linesOf t := by unfold linesRes; rw [if_pos le2, ll2]
              have HL0 := Lib.hid (fun w' => lines_any (str t) w')
              have HL1 := Lib.hid (fun w' => lines_any (str ta) w')
              have HL2 := Lib.hid (fun w' => lines_any (str tb) w')
              unfold LinesPost at HL0 HL1 HL2
              rw [bytes_str, le0, r0] at HL0
              rw [bytes_str, le1, r1] at HL1
              rw [bytes_str, le2, r2] at HL2
              have hln := (lines_short le0).1
              have HLL := Lib.hid ll1
              clear le0 le1 le2 ll1 ll2 r0 r1 r2
              generalize linesOf t = ls at *
              generalize linesOf ta = la at *
              unfold strV at c1 cA2 cA3
              subst eA1 eA2 eA3
              go_wp2_with fail
              refine (HL0.out _).mono ?_
              rintro e w6 ⟨v6, rfl, ho6, hb7⟩
              have cA2' := (hb7.cell (World.block_lt_of_cell? _ _ cA2)).trans cA2
              have cA3' := (hb7.cell (World.block_lt_of_cell? _ _ cA3)).trans cA3
              have HO6 := Lib.hid ho6
              clear c1 cA2 cA3 ho6
              go_wp2_with fail
              refine (HL1.out _).mono ?_
              rintro e w7 ⟨v7, rfl, ho7, hb8⟩
              have cA3 := (hb8.cell (World.block_lt_of_cell? _ _ cA3')).trans cA3'
              have HO7 := Lib.hid ho7
              clear cA2' cA3' ho7
              go_wp2_with fail
              refine (HL2.out _).mono ?_
              rintro e w8 ⟨v8, rfl, ho8, hb9⟩
              have HO8 := Lib.hid ho8
              clear cA3 ho8
              obtain ⟨A6, c6, rfl⟩ := slc_form (Slc.of_own HO6.out)
              obtain ⟨A7, c7, rfl⟩ := slc_form (Slc.of_own HO7.out)
              obtain ⟨A8, c8, rfl⟩ := slc_form (Slc.of_own HO8.out)
              have hz7 := hb7.size
              have hz8 := hb8.size
              have hz9 := hb9.size
              have hb58 : Below w5.heap.size w5 w8 := ((hb6.trans (hb7.mono hz6')).trans (hb8.mono (by omega))).trans (hb9.mono (by omega))
              have HE8 := Lib.hid (HE5.out.below hb58)
              have hd0 := delta_bd (cfg := i) el
              rw [HEL.out] at hd0
              go_wp2_with fail
              go_loop [17, 18] (fun nv ix => ∃ (k : Nat) (n : Int), k ≤ es.length ∧ ix = .int .i64 k ∧ nv = .int .i64 n ∧ -100 ≤ n ∧ n ≤ 100000 ∧ Hid (n = ls.length + ((el.take k).map (deltaOf i)).sum)) (fun _ ix => es.length - (intOf ix).toNat)
              case atStart => exact ⟨0, ls.length, by omega, rfl, rfl, by omega, by omega, Lib.hid (by simp)⟩
              case round =>
                obtain ⟨k, n, hk, rfl, rfl, hn1, hn2, HN⟩ := hrel
                by_cases hlt4 : k < es.length
                · have hkl : k < el.length := by rw [HEL.out]; exact hlt4
                  obtain ⟨ge, oe, eE, _, x0, x1, x2, x3⟩ := HE8.out.at hkl
                  have HD := Lib.hid (delta_take (cfg := i) hkl)
                  have hbd := delta_bd (cfg := i) (el.take (k + 1))
                  rw [List.length_take] at hbd
                  generalize el[k] = y at x0 x1 x2 x3 HD
                  obtain ⟨yc, yl, yk, yt⟩ := y
                  simp only at x0 x1 x2 x3
                  clear x1 x3
                  subst eE
                  have q0 : (k : Int) < es.length := by omega
                  cases h1 : (yc == (i : Int)) with
                  | false =>
                    have HD2 : Hid (deltaOf i ⟨yc, yl, yk, yt⟩ = 0) := Lib.hid (by unfold deltaOf; rw [if_neg (by simpa using h1)])
                    go_wp2_with fail
                    go_round
                    case rel => exact ⟨k + 1, n, by omega, by go_num, rfl, hn1, hn2, Lib.hid (by rw [HD.out, HD2.out, HN.out]; omega)⟩
                    case measure => simp [intOf]; omega
                  | true =>
                    have hyc : yc = (i : Int) := by simpa using h1
                    by_cases hk1 : yk = 1
                    · have HD2 : Hid (deltaOf i ⟨yc, yl, yk, yt⟩ = -1) := Lib.hid (by unfold deltaOf; rw [if_pos hyc, if_pos hk1])
                      have HN2 : Hid (n - 1 = ls.length + ((el.take (k + 1)).map (deltaOf i)).sum) := Lib.hid (by rw [HD.out, HD2.out, HN.out]; omega)
                      have hb9' : -100 ≤ n - 1 := by have := HN2.out; omega
                      clear hyc
                      subst hk1
                      go_wp2_with fail
                      go_round
                      case rel => exact ⟨k + 1, n - 1, by omega, by go_num, rfl, hb9', by omega, HN2⟩
                      case measure => simp [intOf]; omega
                    have n1 : (yk == 1) = false := beq_false_of_ne hk1
                    by_cases hk3 : yk = 3
                    · have HD2 : Hid (deltaOf i ⟨yc, yl, yk, yt⟩ = 1) := Lib.hid (by unfold deltaOf; rw [if_pos hyc, if_neg hk1, if_pos hk3])
                      have HN2 : Hid (n + 1 = ls.length + ((el.take (k + 1)).map (deltaOf i)).sum) := Lib.hid (by rw [HD.out, HD2.out, HN.out]; omega)
                      have hb9' : n + 1 ≤ 100000 := by have := HN2.out; omega
                      clear hyc n1 hk1
                      subst hk3
                      go_wp2_with fail
                      go_round
                      case rel => exact ⟨k + 1, n + 1, by omega, by go_num, rfl, by omega, hb9', HN2⟩
                      case measure => simp [intOf]; omega
                    have n3 : (yk == 3) = false := beq_false_of_ne hk3
                    have HD2 : Hid (deltaOf i ⟨yc, yl, yk, yt⟩ = 0) := Lib.hid (by unfold deltaOf; rw [if_pos hyc, if_neg hk1, if_neg hk3])
                    clear hyc hk1 hk3
                    go_wp2_with fail
                    go_round
                    case rel => exact ⟨k + 1, n, by omega, by go_num, rfl, hn1, hn2, Lib.hid (by rw [HD.out, HD2.out, HN.out]; omega)⟩
                    case measure => simp [intOf]; omega
                · have hne : (((la.length : Nat) : Int) != n) = false := by
                    have h := HN.out
                    rw [List.take_of_length_le (by rw [HEL.out]; omega), ← HLL.out] at h
                    simp [h]
                  have HSTR := Lib.hid (strings_same (Z := w8.heap.size) (((((Slc.of_own HO6.out).below hb8).mono hz8).below hb9).mono hz9) (Slc.of_own HO8.out))
                  clear HN
                  go_wp2_with fail
                  refine HSTR.out.mono ?_
                  rintro e w9 ⟨rfl, hb10⟩
                  go_wp2_with fail
                  go_roundw
                  case rel => exact ⟨i + 1, by omega, by go_num, by have := hb10.size; omega, hb58.trans (hb10.mono (by omega))⟩
                  case measure => simp [intOf]; omega
            · go_wp2_with fail
              go_ret
              exact ⟨rfl, hb05.trans (hb6.mono hz05)⟩
end Go.Proofs.YtpclacofcfbpjaaDoor
