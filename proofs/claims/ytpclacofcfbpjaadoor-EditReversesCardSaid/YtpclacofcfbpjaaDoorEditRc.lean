/- The walk of the law EditReverses. Condition: MaxLen's cell. -/
import Derived.Test.YtpclacofcfbpjaaDoorEditRb
namespace Go.Proofs.YtpclacofcfbpjaaDoor
open Go.RowKit

theorem box_of {w : World} {b : Nat} {c l k t : Value} (h : w.heap[b]? = some (.cells #[c, l, k, t] 32 (0, 0))) :
    w.cell? ⟨b, 0, none⟩ = some c ∧ w.cell? ⟨b, 1, none⟩ = some l ∧ w.cell? ⟨b, 2, none⟩ = some k ∧ w.cell? ⟨b, 3, none⟩ = some t ∧ w.frozen? ⟨b, 0, none⟩ = false ∧ w.frozen? ⟨b, 1, none⟩ = false ∧ w.frozen? ⟨b, 2, none⟩ = false ∧ w.frozen? ⟨b, 3, none⟩ = false :=
  ⟨Lib.cell_of_heap h 0, Lib.cell_of_heap h 1, Lib.cell_of_heap h 2, Lib.cell_of_heap h 3, Lib.frozen_of_heap h 0, Lib.frozen_of_heap h 1, Lib.frozen_of_heap h 2, Lib.frozen_of_heap h 3⟩
theorem heap_keep {w w' : World} {b : Nat} {o : Obj} (h : w.heap[b]? = some o) (hb : Below w.heap.size w w') : w'.heap[b]? = some o := by
  refine (hb.block b ?_).trans h
  rcases Nat.lt_or_ge b w.heap.size with h' | h'
  · exact h'
  · simp [Array.getElem?_eq_none h'] at h
theorem apply_nil_bad {ts : List (List UInt8)} {es : List Ed} (h : ¬ applyErr ts [] = 0) : ¬ applyErr ts es = 0 := fun h1 => h (apply_nil (apply_zero h1).1)
theorem fields_go_mem {fs : List (List UInt8)} {k : Nat} (h : k < fs.length) : fs[k] ∈ fs := List.getElem_mem h

set_option maxRecDepth 100000 in
set_option maxHeartbeats 8000000 in
theorem editReverses_walk (A : Option Addr) (len cap : Nat) (zs : List (List UInt8)) (x : Ed) (w : World) (hM : MaxCell w) (hS : StrsArg w A len cap zs) (hcap : len ≤ cap) (hwf : edWf x) (_ : x.text.length ≤ maxLen) :
    Calls Tryd.prog 7 #[.slice A len cap, .agg (edCells x).toArray] w fun e w' => e = .returned (.bool true) ∧ Below w.heap.size w w' := by
  obtain ⟨hs, rfl, _⟩ := hS
  obtain ⟨xc, xl, xk, xt⟩ := x
  have hBx : (w.alloc (.cells #[.int .i64 xc, .int .i64 xl, .int .i64 xk, .string (str xt)] 32)).heap[w.heap.size]? = some (.cells #[.int .i64 xc, .int .i64 xl, .int .i64 xk, .string (str xt)] 32 (0, 0)) := Go.heap_alloc_new w _
  have hbx := below_box w (.cells #[.int .i64 xc, .int .i64 xl, .int .i64 xk, .string (str xt)] 32)
  have HAW := Lib.hid (awake_any _ (hM.below hbx))
  have HM := Lib.hid hM
  have HS := Lib.hid hs
  have HM0 := Lib.hid hM
  have HS0 := Lib.hid hs
  have HBX := Lib.hid hBx
  have HBB := Lib.hid hbx
  clear hM hs hBx hbx
  go_enter Tryd.func7, Tryd.ntmps7
  go_wp2_with fail
  refine HAW.out.mono ?_
  rintro e w1 ⟨rfl, hb1'⟩
  have hB1 := heap_keep HBX.out hb1'
  have hb1 : Below w.heap.size w w1 := HBB.out.trans (hb1'.mono (by simp))
  have hzz1 := hb1.size
  have HS1 := Lib.hid ((HS.out.below hb1).mono hb1.size)
  have HM1 := Lib.hid (HM.out.below hb1)
  have HSH := Lib.hid (short_any A cap w1.heap.size zs w1 HS1.out)
  obtain ⟨b0, b1, b2, b3, g0, g1, g2, g3⟩ := box_of hB1
  have HB1 := Lib.hid hB1
  clear HS HM HAW HBX HBB hb1' hB1
  cases hsh : shortB zs with
  | false =>
    rw [hsh] at HSH
    go_wp2_with fail
    refine HSH.out.mono ?_
    rintro e w' ⟨rfl, rfl⟩
    go_wp2_with fail
    go_ret
    exact ⟨rfl, hb1⟩
  | true =>
    rw [hsh] at HSH
    have h6 : zs.length ≤ 6 := by unfold shortB at hsh; simp at hsh; exact hsh.2
    have HSB := Lib.hid hsh
    clear hsh
    by_cases hz6 : 0 < zs.length
    case neg =>
      have e0 : ((zs.length : Int) == 0) = true := by rw [show zs.length = 0 by omega]; rfl
      go_wp2_with fail
      refine HSH.out.mono ?_
      rintro e w' ⟨rfl, rfl⟩
      go_wp2_with fail
      go_ret
      exact ⟨rfl, hb1⟩
    have e0 : ((zs.length : Int) == 0) = false := beq_false_of_ne (by omega)
    by_cases ht : 200 < (str xt).size
    · have t1 : decide ((200 : Int) < (str xt).size) = true := decide_eq_true (by omega)
      go_wp2_with fail
      refine HSH.out.mono ?_
      rintro e w' ⟨rfl, rfl⟩
      go_wp2_with fail
      go_ret
      exact ⟨rfl, hb1⟩
    have t1 : decide ((200 : Int) < (str xt).size) = false := decide_eq_false (by omega)
    have htx : xt.length ≤ 200 := by rw [str_size] at ht; omega
    have HFIT := Lib.hid (fit_any A cap zs ⟨xc, xl, xk, xt⟩ w1 HS1.out hz6 (by omega) hwf)
    unfold edV strV at HFIT
    go_wp2_with fail
    refine HSH.out.mono ?_
    rintro e w' ⟨rfl, rfl⟩
    go_wp2_with fail
    refine HFIT.out.mono ?_
    rintro e w3 ⟨y, rfl, hfit, hb3⟩
    have hB3 := heap_keep HB1.out hb3
    obtain ⟨yc, yl, yk, yt⟩ := y
    obtain ⟨hf1, hf2, hf3, hf4⟩ := hfit
    simp only at hf1 hf2 hf3 hf4 ⊢
    obtain ⟨c, rfl⟩ : ∃ c : Nat, yc = c := ⟨yc.toNat, by omega⟩
    have hcz : c < zs.length := by omega
    have hyt : yt.length ≤ 200 := Nat.le_trans hf4 htx
    have hb03 : Below w.heap.size w w3 := hb1.trans (hb3.mono hzz1)
    clear b0 b1 b2 b3 g0 g1 g2 g3 HSH HFIT hf1 hf2 hf4
    obtain ⟨b0, b1, b2, b3, g0, g1, g2, g3⟩ := box_of hB3
    have HB3 := Lib.hid hB3
    have HM3 := Lib.hid (HM1.out.below hb3)
    have HS3 := Lib.hid ((HS1.out.below hb3).mono hb3.size)
    clear hB3 HS1 HM1 HB1 hb3 hb1 e0 t1 htx ht
    go_upto_region 6 with (fail)
    have h5 := heap_setCell_same _ _ 3 _ _ (.string (str yt)) (heap_setCell_same _ _ 2 _ _ (.int .i64 yk) (heap_setCell_same _ _ 1 _ _ (.int .i64 yl) (heap_setCell_same w3 w.heap.size 0 _ _ (.int .i64 (c : Int)) HB3.out)))
    have hb5 : Below w.heap.size w ((((w3.setCell ⟨w.heap.size, 0, none⟩ (.int .i64 (c : Int))).setCell ⟨w.heap.size, 1, none⟩ (.int .i64 yl)).setCell ⟨w.heap.size, 2, none⟩ (.int .i64 yk)).setCell ⟨w.heap.size, 3, none⟩ (.string (str yt))) := (((hb03.setCell (Nat.le_refl _) _).setCell (Nat.le_refl _) _).setCell (Nat.le_refl _) _).setCell (Nat.le_refl _) _
    have HS5 : Hid (Slc ((((w3.setCell ⟨w.heap.size, 0, none⟩ (.int .i64 (c : Int))).setCell ⟨w.heap.size, 1, none⟩ (.int .i64 yl)).setCell ⟨w.heap.size, 2, none⟩ (.int .i64 yk)).setCell ⟨w.heap.size, 3, none⟩ (.string (str yt))) w.heap.size 1 (.slice A zs.length cap) zs.length (zs.map strV)) := Lib.hid (HS0.out.below hb5)
    have HM5 : Hid (MaxCell ((((w3.setCell ⟨w.heap.size, 0, none⟩ (.int .i64 (c : Int))).setCell ⟨w.heap.size, 1, none⟩ (.int .i64 yl)).setCell ⟨w.heap.size, 2, none⟩ (.int .i64 yk)).setCell ⟨w.heap.size, 3, none⟩ (.string (str yt)))) := Lib.hid (HM0.out.below hb5)
    generalize ((((w3.setCell ⟨w.heap.size, 0, none⟩ (.int .i64 (c : Int))).setCell ⟨w.heap.size, 1, none⟩ (.int .i64 yl)).setCell ⟨w.heap.size, 2, none⟩ (.int .i64 yk)).setCell ⟨w.heap.size, 3, none⟩ (.string (str yt))) = w5 at *
    replace h5 : w5.heap[w.heap.size]? = some (.cells #[.int .i64 (c : Int), .int .i64 yl, .int .i64 yk, .string (str yt)] 32 (0, 0)) := h5
    clear b0 b1 b2 b3 g0 g1 g2 g3 HB3 HM3 HS3 hb03
    rcases hf3 with rfl | rfl | rfl
    · obtain ⟨b0, b1, b2, b3, g0, g1, g2, g3⟩ := box_of h5
      have H5 := Lib.hid h5
      clear h5
      go_upto_region 8 with (fail)
      have h6' := heap_setCell_same w5 w.heap.size 2 _ _ (.int .i64 2) H5.out
      have hb6' := hb5.setCell (p := ⟨w.heap.size, 2, none⟩) (Nat.le_refl _) (.int .i64 2)
      have HS6 : Hid (Slc (w5.setCell ⟨w.heap.size, 2, none⟩ (.int .i64 2)) w.heap.size 1 (.slice A zs.length cap) zs.length (zs.map strV)) := Lib.hid (HS0.out.below hb6')
      have HM6 : Hid (MaxCell (w5.setCell ⟨w.heap.size, 2, none⟩ (.int .i64 2))) := Lib.hid (HM0.out.below hb6')
      clear b0 b1 b2 b3 g0 g1 g2 g3 H5 hb5 HS5 HM5
      generalize (w5.setCell ⟨w.heap.size, 2, none⟩ (.int .i64 2)) = w6 at *
      have h5 : w6.heap[w.heap.size]? = some (.cells #[.int .i64 (c : Int), .int .i64 yl, .int .i64 2, .string (str yt)] 32 (0, 0)) := h6'
      have hb5 := hb6'
      have HS5 := HS6
      have HM5 := HM6
      clear h6' hb6' HS6 HM6
      obtain ⟨w5, rfl⟩ : ∃ w5 : World, w5 = w6 := ⟨_, rfl⟩
      have hz5 := hb5.size
      obtain ⟨b0, b1, b2, b3, _, _, _, _⟩ := box_of h5
      have SlT : Sl w5 w5.heap.size (.slice A zs.length cap) zs := ⟨A, cap, rfl, hcap, HS5.out.mono hz5⟩
      have HAN := Lib.hid (apply_any _ _ zs [] w5 SlT EL.nil HM5.out (by omega) (by simp) (fun x hx => by cases hx))
      have HST := Lib.hid SlT
      have H5 := Lib.hid h5
      clear SlT h5
      go_wp2_with fail
      refine HAN.out.mono ?_
      rintro e w6 ⟨vs, rfl, hss, hb6⟩
      have hB6 := heap_keep H5.out hb6
      clear b0 b1 b2 b3
      obtain ⟨b0, b1, b2, b3, _, _, _, _⟩ := box_of hB6
      have hbA := below_box w6 (.cells #[.int .i64 (c : Int), .int .i64 yl, .int .i64 2, .string (str yt)] 32)
      have HT6 := (HST.out.below hb6).mono hb6.size
      have HAP := Lib.hid (apply_any _ _ zs [⟨c, yl, 2, yt⟩] (w6.alloc (.cells #[.int .i64 (c : Int), .int .i64 yl, .int .i64 2, .string (str yt)] 32)) ((HT6.below hbA).mono hbA.size) (el_new w6 [⟨c, yl, 2, yt⟩] #[.int .i64 (c : Int), .int .i64 yl, .int .i64 2, .string (str yt)] 32 rfl (by simp)) ((HM5.out.below hb6).below hbA) (by omega) (by simp) (fun x hx => by rw [List.mem_singleton.1 hx]; exact Nat.le_trans hyt (by decide)))
      have HSS := Lib.hid hss
      have HB6 := Lib.hid hB6
      have HT6' := Lib.hid HT6
      clear hss hB6 HT6 HAN
      go_wp2_with fail
      refine HAP.out.mono ?_
      rintro e w7 ⟨vo, rfl, hso, hb7'⟩
      have hb7 : Below w6.heap.size w6 w7 := hbA.trans (hb7'.mono (by simp))
      have hB7 := heap_keep HB6.out hb7
      have hb07 : Below w.heap.size w w7 := (hb5.trans (hb6.mono hz5)).trans (hb7.mono (Nat.le_trans hz5 hb6.size))
      have hz07 := hb07.size
      have HSO := Lib.hid hso
      have HSS7 := Lib.hid ((HSS.out.below hb7).mono hb7.size)
      have HT7 := Lib.hid ((HT6'.out.below hb7).mono hb7.size)
      have HM7 := Lib.hid (((HM5.out.below hb6).below hb7))
      have HB7 := Lib.hid hB7
      clear b0 b1 b2 b3 hso hB7 hbA hb7' HAP HSS HT6' HB6 H5 HST HM5
      cases hne : (applyErr zs [] != 0) with
      | true =>
        have hao : applyOf zs [⟨c, yl, 2, yt⟩] = [] := by unfold applyOf; rw [if_neg (apply_nil_bad (by simpa using hne))]
        have hs7 := HSO.out
        rw [hao] at hs7
        obtain ⟨Ao, co, rfl, _, _⟩ := hs7.form' (n := 0) rfl
        obtain ⟨As, cs, rfl, _, _, _⟩ := HSS7.out.form
        clear hao hs7
        go_wp2_with fail
        go_ret
        exact ⟨rfl, hb07⟩
      | false =>
        cases hfe : (applyErr zs [⟨c, yl, 2, yt⟩] != 0) with
        | true =>
          have hao : applyOf zs [⟨c, yl, 2, yt⟩] = [] := by unfold applyOf; rw [if_neg (by simpa using hfe)]
          have hs7 := HSO.out
          rw [hao] at hs7
          obtain ⟨Ao, co, rfl, _, _⟩ := hs7.form' (n := 0) rfl
          obtain ⟨As, cs, rfl, _, _, _⟩ := HSS7.out.form
          clear hao hs7
          go_wp2_with fail
          go_ret
          exact ⟨rfl, hb07⟩
        | false =>
          have h0 : applyErr zs [⟨c, yl, 2, yt⟩] = 0 := by simpa using hfe
          have H0 := Lib.hid h0
          have hol := out_len h0
          have HOL := Lib.hid hol
          obtain ⟨b0, b1, b2, b3, _, _, _, _⟩ := box_of HB7.out
          have hbB := below_box w7 (.cells #[.int .i64 (c : Int), .int .i64 yl, .int .i64 2, .string (str yt)] 32)
          have hbC := below_box (w7.alloc (.cells #[.int .i64 (c : Int), .int .i64 yl, .int .i64 2, .string (str yt)] 32)) (.cells #[.int .i64 (c : Int), .int .i64 yl, .int .i64 2, .string (str yt)] 32)
          have hBC : (w7.alloc (.cells #[.int .i64 (c : Int), .int .i64 yl, .int .i64 2, .string (str yt)] 32)).heap.size = w7.heap.size + 1 := by simp
          have hS9 := ((((HSO.out.below hbB).mono hbB.size).below hbC).mono hbC.size)
          have hE9 := el_new (w7.alloc (.cells #[.int .i64 (c : Int), .int .i64 yl, .int .i64 2, .string (str yt)] 32)) [⟨c, yl, 2, yt⟩] #[.int .i64 (c : Int), .int .i64 yl, .int .i64 2, .string (str yt)] 32 rfl (by simp)
          rw [hBC] at hE9
          have HAQ := Lib.hid (apply_any vo _ (applyOf zs [⟨c, yl, 2, yt⟩]) [⟨c, yl, 2, yt⟩] ((w7.alloc (.cells #[.int .i64 (c : Int), .int .i64 yl, .int .i64 2, .string (str yt)] 32)).alloc (.cells #[.int .i64 (c : Int), .int .i64 yl, .int .i64 2, .string (str yt)] 32)) hS9 hE9 ((HM7.out.below hbB).below hbC) (by rw [hol]; omega) (by simp) (fun x hx => by rw [List.mem_singleton.1 hx]; exact Nat.le_trans hyt (by decide)))
          clear h0 hol hS9 hE9
          obtain ⟨Ao, co, rfl, _, _⟩ := HSO.out.form' HOL.out
          obtain ⟨As, cs, rfl, _, _, _⟩ := HSS7.out.form
          have B0 : ∀ o, (w7.alloc o).cell? ⟨w.heap.size, 0, none⟩ = some (.int .i64 (c : Int)) := fun o => by rw [World.cell?_alloc_lt _ _ _ (World.block_lt_of_cell? _ _ b0)]; exact b0
          have B1 : ∀ o, (w7.alloc o).cell? ⟨w.heap.size, 1, none⟩ = some (.int .i64 yl) := fun o => by rw [World.cell?_alloc_lt _ _ _ (World.block_lt_of_cell? _ _ b1)]; exact b1
          have B2 : ∀ o, (w7.alloc o).cell? ⟨w.heap.size, 2, none⟩ = some (.int .i64 2) := fun o => by rw [World.cell?_alloc_lt _ _ _ (World.block_lt_of_cell? _ _ b2)]; exact b2
          go_wp2_with fail
          refine HAQ.out.mono ?_
          rintro e w10 ⟨va, rfl, hsa, hb10'⟩
          have hb10 : Below w7.heap.size w7 w10 := (hbB.trans (hbC.mono hbB.size)).trans (hb10'.mono (by simp; omega))
          have hB10 := heap_keep HB7.out hb10
          have hz10 := hb10.size
          have hb010 : Below w.heap.size w w10 := hb07.trans (hb10.mono hz07)
          have hz010 := hb010.size
          have HSA := Lib.hid hsa
          clear b0 b1 b2 b3 B0 B1 B2 hbB hbC hBC hsa hb10' HAQ
          obtain ⟨b0, b1, b2, b3, _, _, _, _⟩ := box_of hB10
          clear hB10
          have hoz := okay_of H0.out hcz 0 (by simp) rfl
          have hl1 : (1 : Int) ≤ yl := hoz.lo
          have hl2 : yl ≤ (linesOf zs[c]).length := by have := hoz.hi; unfold lastLine at this; simpa using this
          have hle0 := split_zero (apply_zero H0.out).1 zs[c] (List.getElem_mem hcz)
          have hlr : linesRes zs[c] = linesOf zs[c] := by unfold linesRes; rw [if_pos hle0]
          have hlsh := lines_short hle0
          have HRV := Lib.hid (fun (s f : List UInt8) (h1 : (linesOf zs[c])[(yl - 1).toNat]? = some s) (h2 : f ∈ fieldsOf 0 s) (h3 : f = wPermit ∨ f = wDeny) => reverse_flp H0.out HSB.out hyt hcz h1 h2 h3)
          obtain ⟨k, rfl⟩ : ∃ k : Nat, yl = (k : Int) + 1 := ⟨(yl - 1).toNat, by omega⟩
          obtain ⟨gt, ot, eT, _, ct⟩ := slc_at ((HT7.out.below hb10).mono hz10).slc rfl hcz
          have HL := Lib.hid (fun w' => rlines_any (str zs[c]) w')
          unfold LinesPost at HL
          rw [bytes_str, hle0, hlr] at HL
          obtain ⟨ln1, ln2⟩ := hlsh
          have HLN := Lib.hid ln2
          clear hoz hle0 hlr ln2
          generalize zs[c] = tc at ct HL HRV hl2 ln1 HLN
          generalize linesOf tc = lt at HL HRV hl2 ln1 HLN
          unfold strV at ct
          have hkl : k < lt.length := by omega
          rw [show ((k : Int) + 1 - 1).toNat = k from by omega] at HRV
          have HGET := Lib.hid (List.getElem?_eq_getElem hkl)
          have hsl := HLN.out _ (List.getElem_mem hkl)
          subst eT
          have hcz' : (c : Int) < zs.length := by omega
          have d9 : decide ((lt.length : Int) < (k : Int) + 1) = false := decide_eq_false (by omega)
          go_wp2_with fail
          refine (HL.out _).mono ?_
          rintro e w11 ⟨vl, rfl, hol, hb11⟩
          obtain ⟨gl, cl, rfl, _, _, hcl⟩ := own_form hol (by omega)
          have cl0 : w11.cell? ⟨gl, k, none⟩ = some (.string (str lt[k])) := hcl k _ (by rw [List.getElem?_map, HGET.out]; rfl)
          have c0 := (hb11.cell (World.block_lt_of_cell? _ _ b0)).trans b0
          have c1 := (hb11.cell (World.block_lt_of_cell? _ _ b1)).trans b1
          have c2 := (hb11.cell (World.block_lt_of_cell? _ _ b2)).trans b2
          have hz11 := hb11.size
          clear hcl hol ct b0 b1 b2 b3
          generalize lt[k] = sk at cl0 HGET hsl
          have hkl2 : (k : Int) < lt.length := by omega
          go_wp2_with fail
          refine (rfields_any _ _ _ (by rw [str_size]; omega)).mono ?_
          rintro e w12 ⟨vf, rfl, hof, hb12⟩
          rw [bytes_str] at hof
          have hz12 := hb12.size
          have HOF := Lib.hid (Slc.of_own hof)
          have hfl : (fieldsOf 0 sk).length ≤ 1000000 := by have := fieldsGo_len 0 sk none; unfold fieldsOf; omega
          have HFM := Lib.hid (fun (q : Nat) (h : q < (fieldsOf 0 sk).length) => fields_go_mem h)
          have hb1012 : Below w10.heap.size w10 w12 := hb11.trans (hb12.mono hz11)
          have hb012 : Below w.heap.size w w12 := hb010.trans (hb1012.mono hz010)
          have HSA12 := Lib.hid ((HSA.out.below hb1012).mono hb1012.size)
          have HSS12 := Lib.hid ((((HSS7.out.below hb10).mono hz10).below hb1012).mono hb1012.size)
          have HRV2 := Lib.hid (fun (f : List UInt8) (h2 : f ∈ fieldsOf 0 sk) (h3 : f = wPermit ∨ f = wDeny) => HRV.out sk f HGET.out h2 h3)
          clear hof cl0 c0 c1 c2 HRV HGET HSA
          generalize fieldsOf 0 sk = fs at *
          obtain ⟨Af, cf, rfl⟩ := slc_form HOF.out
          obtain ⟨Aa, ca, rfl, _, _, _⟩ := HSA12.out.form
          go_wp2_with fail
          go_loop [4, 15] (fun _ ix => ∃ q : Nat, q ≤ fs.length ∧ ix = .int .i64 q) (fun _ ix => fs.length - (intOf ix).toNat)
          case atStart => exact ⟨0, by omega, rfl⟩
          case round =>
            obtain ⟨q, hq, rfl⟩ := hrel
            by_cases hlt : q < fs.length
            · obtain ⟨gf, of, eF, _, cf0⟩ := slc_at HOF.out rfl hlt
              have HFQ := Lib.hid (HFM.out q hlt)
              generalize fs[q] = f at cf0 HFQ
              unfold strV at cf0
              subst eF
              have q0 : (q : Int) < fs.length := by omega
              by_cases hpd : f = wPermit ∨ f = wDeny
              · obtain ⟨r1, r2⟩ := HRV2.out f HFQ.out hpd
                have hsa := HSA12.out
                rw [r2] at hsa
                have hlen0 : (applyOf (applyOf zs [⟨c, (k : Int) + 1, 2, yt⟩]) [⟨c, (k : Int) + 1, 2, yt⟩]).length = (applyOf zs []).length := by rw [r2]
                have HSTR := Lib.hid (strings_same hsa.slc HSS12.out.slc)
                have hee : (applyErr (applyOf zs [⟨c, (k : Int) + 1, 2, yt⟩]) [⟨c, (k : Int) + 1, 2, yt⟩] == 0) = true := by rw [r1]; rfl
                clear r1 hsa
                rcases hpd with rfl | rfl
                · have p1 : ((str wPermit).toList == [112, 101, 114, 109, 105, 116]) = true := by rw [toList_str]; rfl
                  go_wp2_with fail
                  refine HSTR.out.mono ?_
                  rintro e w13 ⟨rfl, hb13⟩
                  go_wp2_with fail
                  go_ret
                  exact ⟨rfl, hb012.trans (hb13.mono hb012.size)⟩
                · have p1 : ((str wDeny).toList == [112, 101, 114, 109, 105, 116]) = false := by rw [toList_str]; rfl
                  have p2 : ((str wDeny).toList == [100, 101, 110, 121]) = true := by rw [toList_str]; rfl
                  go_wp2_with fail
                  refine HSTR.out.mono ?_
                  rintro e w13 ⟨rfl, hb13⟩
                  go_wp2_with fail
                  go_ret
                  exact ⟨rfl, hb012.trans (hb13.mono hb012.size)⟩
              · have p1 : ((str f).toList == [112, 101, 114, 109, 105, 116]) = false := by rw [toList_str]; exact beq_false_of_ne (fun h => hpd (.inl h))
                have p2 : ((str f).toList == [100, 101, 110, 121]) = false := by rw [toList_str]; exact beq_false_of_ne (fun h => hpd (.inr h))
                clear hpd
                go_wp2_with fail
                go_round
                case rel => exact ⟨q + 1, by omega, by go_num⟩
                case measure => simp [intOf]; omega
            · go_wp2_with fail
              go_ret
              exact ⟨rfl, hb012⟩
    · have hz5 := hb5.size
      obtain ⟨b0, b1, b2, b3, _, _, _, _⟩ := box_of h5
      have SlT : Sl w5 w5.heap.size (.slice A zs.length cap) zs := ⟨A, cap, rfl, hcap, HS5.out.mono hz5⟩
      have HAN := Lib.hid (apply_any _ _ zs [] w5 SlT EL.nil HM5.out (by omega) (by simp) (fun x hx => by cases hx))
      have HST := Lib.hid SlT
      have H5 := Lib.hid h5
      clear SlT h5
      go_wp2_with fail
      refine HAN.out.mono ?_
      rintro e w6 ⟨vs, rfl, hss, hb6⟩
      have hB6 := heap_keep H5.out hb6
      clear b0 b1 b2 b3
      obtain ⟨b0, b1, b2, b3, _, _, _, _⟩ := box_of hB6
      have hbA := below_box w6 (.cells #[.int .i64 (c : Int), .int .i64 yl, .int .i64 2, .string (str yt)] 32)
      have HT6 := (HST.out.below hb6).mono hb6.size
      have HAP := Lib.hid (apply_any _ _ zs [⟨c, yl, 2, yt⟩] (w6.alloc (.cells #[.int .i64 (c : Int), .int .i64 yl, .int .i64 2, .string (str yt)] 32)) ((HT6.below hbA).mono hbA.size) (el_new w6 [⟨c, yl, 2, yt⟩] #[.int .i64 (c : Int), .int .i64 yl, .int .i64 2, .string (str yt)] 32 rfl (by simp)) ((HM5.out.below hb6).below hbA) (by omega) (by simp) (fun x hx => by rw [List.mem_singleton.1 hx]; exact Nat.le_trans hyt (by decide)))
      have HSS := Lib.hid hss
      have HB6 := Lib.hid hB6
      have HT6' := Lib.hid HT6
      clear hss hB6 HT6 HAN
      go_wp2_with fail
      refine HAP.out.mono ?_
      rintro e w7 ⟨vo, rfl, hso, hb7'⟩
      have hb7 : Below w6.heap.size w6 w7 := hbA.trans (hb7'.mono (by simp))
      have hB7 := heap_keep HB6.out hb7
      have hb07 : Below w.heap.size w w7 := (hb5.trans (hb6.mono hz5)).trans (hb7.mono (Nat.le_trans hz5 hb6.size))
      have hz07 := hb07.size
      have HSO := Lib.hid hso
      have HSS7 := Lib.hid ((HSS.out.below hb7).mono hb7.size)
      have HT7 := Lib.hid ((HT6'.out.below hb7).mono hb7.size)
      have HM7 := Lib.hid (((HM5.out.below hb6).below hb7))
      have HB7 := Lib.hid hB7
      clear b0 b1 b2 b3 hso hB7 hbA hb7' HAP HSS HT6' HB6 H5 HST HM5
      cases hne : (applyErr zs [] != 0) with
      | true =>
        have hao : applyOf zs [⟨c, yl, 2, yt⟩] = [] := by unfold applyOf; rw [if_neg (apply_nil_bad (by simpa using hne))]
        have hs7 := HSO.out
        rw [hao] at hs7
        obtain ⟨Ao, co, rfl, _, _⟩ := hs7.form' (n := 0) rfl
        obtain ⟨As, cs, rfl, _, _, _⟩ := HSS7.out.form
        clear hao hs7
        go_wp2_with fail
        go_ret
        exact ⟨rfl, hb07⟩
      | false =>
        cases hfe : (applyErr zs [⟨c, yl, 2, yt⟩] != 0) with
        | true =>
          have hao : applyOf zs [⟨c, yl, 2, yt⟩] = [] := by unfold applyOf; rw [if_neg (by simpa using hfe)]
          have hs7 := HSO.out
          rw [hao] at hs7
          obtain ⟨Ao, co, rfl, _, _⟩ := hs7.form' (n := 0) rfl
          obtain ⟨As, cs, rfl, _, _, _⟩ := HSS7.out.form
          clear hao hs7
          go_wp2_with fail
          go_ret
          exact ⟨rfl, hb07⟩
        | false =>
          have h0 : applyErr zs [⟨c, yl, 2, yt⟩] = 0 := by simpa using hfe
          have H0 := Lib.hid h0
          have hol := out_len h0
          have HOL := Lib.hid hol
          obtain ⟨b0, b1, b2, b3, _, _, _, _⟩ := box_of HB7.out
          have hbB := below_box w7 (.cells #[.int .i64 (c : Int), .int .i64 yl, .int .i64 2, .string (str yt)] 32)
          have hbC := below_box (w7.alloc (.cells #[.int .i64 (c : Int), .int .i64 yl, .int .i64 2, .string (str yt)] 32)) (.cells #[.int .i64 (c : Int), .int .i64 yl, .int .i64 2, .string (str yt)] 32)
          have hBC : (w7.alloc (.cells #[.int .i64 (c : Int), .int .i64 yl, .int .i64 2, .string (str yt)] 32)).heap.size = w7.heap.size + 1 := by simp
          have hS9 := ((((HSO.out.below hbB).mono hbB.size).below hbC).mono hbC.size)
          have hE9 := el_new (w7.alloc (.cells #[.int .i64 (c : Int), .int .i64 yl, .int .i64 2, .string (str yt)] 32)) [⟨c, yl, 2, yt⟩] #[.int .i64 (c : Int), .int .i64 yl, .int .i64 2, .string (str yt)] 32 rfl (by simp)
          rw [hBC] at hE9
          have HAQ := Lib.hid (apply_any vo _ (applyOf zs [⟨c, yl, 2, yt⟩]) [⟨c, yl, 2, yt⟩] ((w7.alloc (.cells #[.int .i64 (c : Int), .int .i64 yl, .int .i64 2, .string (str yt)] 32)).alloc (.cells #[.int .i64 (c : Int), .int .i64 yl, .int .i64 2, .string (str yt)] 32)) hS9 hE9 ((HM7.out.below hbB).below hbC) (by rw [hol]; omega) (by simp) (fun x hx => by rw [List.mem_singleton.1 hx]; exact Nat.le_trans hyt (by decide)))
          clear h0 hol hS9 hE9
          obtain ⟨Ao, co, rfl, _, _⟩ := HSO.out.form' HOL.out
          obtain ⟨As, cs, rfl, _, _, _⟩ := HSS7.out.form
          have B0 : ∀ o, (w7.alloc o).cell? ⟨w.heap.size, 0, none⟩ = some (.int .i64 (c : Int)) := fun o => by rw [World.cell?_alloc_lt _ _ _ (World.block_lt_of_cell? _ _ b0)]; exact b0
          have B1 : ∀ o, (w7.alloc o).cell? ⟨w.heap.size, 1, none⟩ = some (.int .i64 yl) := fun o => by rw [World.cell?_alloc_lt _ _ _ (World.block_lt_of_cell? _ _ b1)]; exact b1
          have B2 : ∀ o, (w7.alloc o).cell? ⟨w.heap.size, 2, none⟩ = some (.int .i64 2) := fun o => by rw [World.cell?_alloc_lt _ _ _ (World.block_lt_of_cell? _ _ b2)]; exact b2
          go_wp2_with fail
          refine HAQ.out.mono ?_
          rintro e w10 ⟨va, rfl, hsa, hb10'⟩
          have hb10 : Below w7.heap.size w7 w10 := (hbB.trans (hbC.mono hbB.size)).trans (hb10'.mono (by simp; omega))
          have hB10 := heap_keep HB7.out hb10
          have hz10 := hb10.size
          have hb010 : Below w.heap.size w w10 := hb07.trans (hb10.mono hz07)
          have hz010 := hb010.size
          have HSA := Lib.hid hsa
          clear b0 b1 b2 b3 B0 B1 B2 hbB hbC hBC hsa hb10' HAQ
          obtain ⟨b0, b1, b2, b3, _, _, _, _⟩ := box_of hB10
          clear hB10
          have hoz := okay_of H0.out hcz 0 (by simp) rfl
          have hl1 : (1 : Int) ≤ yl := hoz.lo
          have hl2 : yl ≤ (linesOf zs[c]).length := by have := hoz.hi; unfold lastLine at this; simpa using this
          have hle0 := split_zero (apply_zero H0.out).1 zs[c] (List.getElem_mem hcz)
          have hlr : linesRes zs[c] = linesOf zs[c] := by unfold linesRes; rw [if_pos hle0]
          have hlsh := lines_short hle0
          have HRV := Lib.hid (fun (s f : List UInt8) (h1 : (linesOf zs[c])[(yl - 1).toNat]? = some s) (h2 : f ∈ fieldsOf 0 s) (h3 : f = wPermit ∨ f = wDeny) => reverse_flp H0.out HSB.out hyt hcz h1 h2 h3)
          obtain ⟨k, rfl⟩ : ∃ k : Nat, yl = (k : Int) + 1 := ⟨(yl - 1).toNat, by omega⟩
          obtain ⟨gt, ot, eT, _, ct⟩ := slc_at ((HT7.out.below hb10).mono hz10).slc rfl hcz
          have HL := Lib.hid (fun w' => rlines_any (str zs[c]) w')
          unfold LinesPost at HL
          rw [bytes_str, hle0, hlr] at HL
          obtain ⟨ln1, ln2⟩ := hlsh
          have HLN := Lib.hid ln2
          clear hoz hle0 hlr ln2
          generalize zs[c] = tc at ct HL HRV hl2 ln1 HLN
          generalize linesOf tc = lt at HL HRV hl2 ln1 HLN
          unfold strV at ct
          have hkl : k < lt.length := by omega
          rw [show ((k : Int) + 1 - 1).toNat = k from by omega] at HRV
          have HGET := Lib.hid (List.getElem?_eq_getElem hkl)
          have hsl := HLN.out _ (List.getElem_mem hkl)
          subst eT
          have hcz' : (c : Int) < zs.length := by omega
          have d9 : decide ((lt.length : Int) < (k : Int) + 1) = false := decide_eq_false (by omega)
          go_wp2_with fail
          refine (HL.out _).mono ?_
          rintro e w11 ⟨vl, rfl, hol, hb11⟩
          obtain ⟨gl, cl, rfl, _, _, hcl⟩ := own_form hol (by omega)
          have cl0 : w11.cell? ⟨gl, k, none⟩ = some (.string (str lt[k])) := hcl k _ (by rw [List.getElem?_map, HGET.out]; rfl)
          have c0 := (hb11.cell (World.block_lt_of_cell? _ _ b0)).trans b0
          have c1 := (hb11.cell (World.block_lt_of_cell? _ _ b1)).trans b1
          have c2 := (hb11.cell (World.block_lt_of_cell? _ _ b2)).trans b2
          have hz11 := hb11.size
          clear hcl hol ct b0 b1 b2 b3
          generalize lt[k] = sk at cl0 HGET hsl
          have hkl2 : (k : Int) < lt.length := by omega
          go_wp2_with fail
          refine (rfields_any _ _ _ (by rw [str_size]; omega)).mono ?_
          rintro e w12 ⟨vf, rfl, hof, hb12⟩
          rw [bytes_str] at hof
          have hz12 := hb12.size
          have HOF := Lib.hid (Slc.of_own hof)
          have hfl : (fieldsOf 0 sk).length ≤ 1000000 := by have := fieldsGo_len 0 sk none; unfold fieldsOf; omega
          have HFM := Lib.hid (fun (q : Nat) (h : q < (fieldsOf 0 sk).length) => fields_go_mem h)
          have hb1012 : Below w10.heap.size w10 w12 := hb11.trans (hb12.mono hz11)
          have hb012 : Below w.heap.size w w12 := hb010.trans (hb1012.mono hz010)
          have HSA12 := Lib.hid ((HSA.out.below hb1012).mono hb1012.size)
          have HSS12 := Lib.hid ((((HSS7.out.below hb10).mono hz10).below hb1012).mono hb1012.size)
          have HRV2 := Lib.hid (fun (f : List UInt8) (h2 : f ∈ fieldsOf 0 sk) (h3 : f = wPermit ∨ f = wDeny) => HRV.out sk f HGET.out h2 h3)
          clear hof cl0 c0 c1 c2 HRV HGET HSA
          generalize fieldsOf 0 sk = fs at *
          obtain ⟨Af, cf, rfl⟩ := slc_form HOF.out
          obtain ⟨Aa, ca, rfl, _, _, _⟩ := HSA12.out.form
          go_wp2_with fail
          go_loop [4, 15] (fun _ ix => ∃ q : Nat, q ≤ fs.length ∧ ix = .int .i64 q) (fun _ ix => fs.length - (intOf ix).toNat)
          case atStart => exact ⟨0, by omega, rfl⟩
          case round =>
            obtain ⟨q, hq, rfl⟩ := hrel
            by_cases hlt : q < fs.length
            · obtain ⟨gf, of, eF, _, cf0⟩ := slc_at HOF.out rfl hlt
              have HFQ := Lib.hid (HFM.out q hlt)
              generalize fs[q] = f at cf0 HFQ
              unfold strV at cf0
              subst eF
              have q0 : (q : Int) < fs.length := by omega
              by_cases hpd : f = wPermit ∨ f = wDeny
              · obtain ⟨r1, r2⟩ := HRV2.out f HFQ.out hpd
                have hsa := HSA12.out
                rw [r2] at hsa
                have hlen0 : (applyOf (applyOf zs [⟨c, (k : Int) + 1, 2, yt⟩]) [⟨c, (k : Int) + 1, 2, yt⟩]).length = (applyOf zs []).length := by rw [r2]
                have HSTR := Lib.hid (strings_same hsa.slc HSS12.out.slc)
                have hee : (applyErr (applyOf zs [⟨c, (k : Int) + 1, 2, yt⟩]) [⟨c, (k : Int) + 1, 2, yt⟩] == 0) = true := by rw [r1]; rfl
                clear r1 hsa
                rcases hpd with rfl | rfl
                · have p1 : ((str wPermit).toList == [112, 101, 114, 109, 105, 116]) = true := by rw [toList_str]; rfl
                  go_wp2_with fail
                  refine HSTR.out.mono ?_
                  rintro e w13 ⟨rfl, hb13⟩
                  go_wp2_with fail
                  go_ret
                  exact ⟨rfl, hb012.trans (hb13.mono hb012.size)⟩
                · have p1 : ((str wDeny).toList == [112, 101, 114, 109, 105, 116]) = false := by rw [toList_str]; rfl
                  have p2 : ((str wDeny).toList == [100, 101, 110, 121]) = true := by rw [toList_str]; rfl
                  go_wp2_with fail
                  refine HSTR.out.mono ?_
                  rintro e w13 ⟨rfl, hb13⟩
                  go_wp2_with fail
                  go_ret
                  exact ⟨rfl, hb012.trans (hb13.mono hb012.size)⟩
              · have p1 : ((str f).toList == [112, 101, 114, 109, 105, 116]) = false := by rw [toList_str]; exact beq_false_of_ne (fun h => hpd (.inl h))
                have p2 : ((str f).toList == [100, 101, 110, 121]) = false := by rw [toList_str]; exact beq_false_of_ne (fun h => hpd (.inr h))
                clear hpd
                go_wp2_with fail
                go_round
                case rel => exact ⟨q + 1, by omega, by go_num⟩
                case measure => simp [intOf]; omega
            · go_wp2_with fail
              go_ret
              exact ⟨rfl, hb012⟩
    · have hz5 := hb5.size
      obtain ⟨b0, b1, b2, b3, _, _, _, _⟩ := box_of h5
      have SlT : Sl w5 w5.heap.size (.slice A zs.length cap) zs := ⟨A, cap, rfl, hcap, HS5.out.mono hz5⟩
      have HAN := Lib.hid (apply_any _ _ zs [] w5 SlT EL.nil HM5.out (by omega) (by simp) (fun x hx => by cases hx))
      have HST := Lib.hid SlT
      have H5 := Lib.hid h5
      clear SlT h5
      go_wp2_with fail
      refine HAN.out.mono ?_
      rintro e w6 ⟨vs, rfl, hss, hb6⟩
      have hB6 := heap_keep H5.out hb6
      clear b0 b1 b2 b3
      obtain ⟨b0, b1, b2, b3, _, _, _, _⟩ := box_of hB6
      have hbA := below_box w6 (.cells #[.int .i64 (c : Int), .int .i64 yl, .int .i64 3, .string (str yt)] 32)
      have HT6 := (HST.out.below hb6).mono hb6.size
      have HAP := Lib.hid (apply_any _ _ zs [⟨c, yl, 3, yt⟩] (w6.alloc (.cells #[.int .i64 (c : Int), .int .i64 yl, .int .i64 3, .string (str yt)] 32)) ((HT6.below hbA).mono hbA.size) (el_new w6 [⟨c, yl, 3, yt⟩] #[.int .i64 (c : Int), .int .i64 yl, .int .i64 3, .string (str yt)] 32 rfl (by simp)) ((HM5.out.below hb6).below hbA) (by omega) (by simp) (fun x hx => by rw [List.mem_singleton.1 hx]; exact Nat.le_trans hyt (by decide)))
      have HSS := Lib.hid hss
      have HB6 := Lib.hid hB6
      have HT6' := Lib.hid HT6
      clear hss hB6 HT6 HAN
      go_wp2_with fail
      refine HAP.out.mono ?_
      rintro e w7 ⟨vo, rfl, hso, hb7'⟩
      have hb7 : Below w6.heap.size w6 w7 := hbA.trans (hb7'.mono (by simp))
      have hB7 := heap_keep HB6.out hb7
      have hb07 : Below w.heap.size w w7 := (hb5.trans (hb6.mono hz5)).trans (hb7.mono (Nat.le_trans hz5 hb6.size))
      have hz07 := hb07.size
      have HSO := Lib.hid hso
      have HSS7 := Lib.hid ((HSS.out.below hb7).mono hb7.size)
      have HT7 := Lib.hid ((HT6'.out.below hb7).mono hb7.size)
      have HM7 := Lib.hid (((HM5.out.below hb6).below hb7))
      have HB7 := Lib.hid hB7
      clear b0 b1 b2 b3 hso hB7 hbA hb7' HAP HSS HT6' HB6 H5 HST HM5
      cases hne : (applyErr zs [] != 0) with
      | true =>
        have hao : applyOf zs [⟨c, yl, 3, yt⟩] = [] := by unfold applyOf; rw [if_neg (apply_nil_bad (by simpa using hne))]
        have hs7 := HSO.out
        rw [hao] at hs7
        obtain ⟨Ao, co, rfl, _, _⟩ := hs7.form' (n := 0) rfl
        obtain ⟨As, cs, rfl, _, _, _⟩ := HSS7.out.form
        clear hao hs7
        go_wp2_with fail
        go_ret
        exact ⟨rfl, hb07⟩
      | false =>
        cases hfe : (applyErr zs [⟨c, yl, 3, yt⟩] != 0) with
        | true =>
          have hao : applyOf zs [⟨c, yl, 3, yt⟩] = [] := by unfold applyOf; rw [if_neg (by simpa using hfe)]
          have hs7 := HSO.out
          rw [hao] at hs7
          obtain ⟨Ao, co, rfl, _, _⟩ := hs7.form' (n := 0) rfl
          obtain ⟨As, cs, rfl, _, _, _⟩ := HSS7.out.form
          clear hao hs7
          go_wp2_with fail
          go_ret
          exact ⟨rfl, hb07⟩
        | false =>
          have h0 : applyErr zs [⟨c, yl, 3, yt⟩] = 0 := by simpa using hfe
          have H0 := Lib.hid h0
          have hol := out_len h0
          have HOL := Lib.hid hol
          obtain ⟨b0, b1, b2, b3, _, _, _, _⟩ := box_of HB7.out
          have hbB := below_box w7 (.cells #[.int .i64 (c : Int), .int .i64 yl, .int .i64 1, .string ⟨#[]⟩] 32)
          have hbC := below_box (w7.alloc (.cells #[.int .i64 (c : Int), .int .i64 yl, .int .i64 1, .string ⟨#[]⟩] 32)) (.cells #[.int .i64 (c : Int), .int .i64 yl, .int .i64 1, .string ⟨#[]⟩] 32)
          have hBC : (w7.alloc (.cells #[.int .i64 (c : Int), .int .i64 yl, .int .i64 1, .string ⟨#[]⟩] 32)).heap.size = w7.heap.size + 1 := by simp
          have hS9 := ((((HSO.out.below hbB).mono hbB.size).below hbC).mono hbC.size)
          have hE9 := el_new (w7.alloc (.cells #[.int .i64 (c : Int), .int .i64 yl, .int .i64 1, .string ⟨#[]⟩] 32)) [⟨c, yl, 1, []⟩] #[.int .i64 (c : Int), .int .i64 yl, .int .i64 1, .string ⟨#[]⟩] 32 rfl (by simp)
          rw [hBC] at hE9
          have HAQ := Lib.hid (apply_any vo _ (applyOf zs [⟨c, yl, 3, yt⟩]) [⟨c, yl, 1, []⟩] ((w7.alloc (.cells #[.int .i64 (c : Int), .int .i64 yl, .int .i64 1, .string ⟨#[]⟩] 32)).alloc (.cells #[.int .i64 (c : Int), .int .i64 yl, .int .i64 1, .string ⟨#[]⟩] 32)) hS9 hE9 ((HM7.out.below hbB).below hbC) (by rw [hol]; omega) (by simp) (fun x hx => by rw [List.mem_singleton.1 hx]; simp))
          clear h0 hol hS9 hE9
          obtain ⟨Ao, co, rfl, _, _⟩ := HSO.out.form' HOL.out
          obtain ⟨As, cs, rfl, _, _, _⟩ := HSS7.out.form
          have B0 : ∀ o, (w7.alloc o).cell? ⟨w.heap.size, 0, none⟩ = some (.int .i64 (c : Int)) := fun o => by rw [World.cell?_alloc_lt _ _ _ (World.block_lt_of_cell? _ _ b0)]; exact b0
          have B1 : ∀ o, (w7.alloc o).cell? ⟨w.heap.size, 1, none⟩ = some (.int .i64 yl) := fun o => by rw [World.cell?_alloc_lt _ _ _ (World.block_lt_of_cell? _ _ b1)]; exact b1
          have B2 : ∀ o, (w7.alloc o).cell? ⟨w.heap.size, 2, none⟩ = some (.int .i64 3) := fun o => by rw [World.cell?_alloc_lt _ _ _ (World.block_lt_of_cell? _ _ b2)]; exact b2
          go_wp2_with fail
          refine HAQ.out.mono ?_
          rintro e w10 ⟨va, rfl, hsa, hb10'⟩
          have hb10 : Below w7.heap.size w7 w10 := (hbB.trans (hbC.mono hbB.size)).trans (hb10'.mono (by simp; omega))
          have hB10 := heap_keep HB7.out hb10
          have hz10 := hb10.size
          have hb010 : Below w.heap.size w w10 := hb07.trans (hb10.mono hz07)
          have hz010 := hb010.size
          have HSA := Lib.hid hsa
          clear b0 b1 b2 b3 B0 B1 B2 hbB hbC hBC hsa hb10' HAQ
          obtain ⟨b0, b1, b2, b3, _, _, _, _⟩ := box_of hB10
          clear hB10
          obtain ⟨r1, r2⟩ := reverse_ins H0.out HSB.out hyt hcz
          have hsa := HSA.out
          rw [r2] at hsa
          have HSTR := Lib.hid (strings_same hsa.slc ((HSS7.out.below hb10).mono hz10).slc)
          rw [r1]
          clear r1 r2 hsa
          go_wp2_with fail
          refine HSTR.out.mono ?_
          rintro e w11 ⟨rfl, hb11⟩
          go_wp2_with fail
          go_ret
          exact ⟨rfl, hb010.trans (hb11.mono hz010)⟩
end Go.Proofs.YtpclacofcfbpjaaDoor
