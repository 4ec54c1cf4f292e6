/- The walk of the law EditApplies. Condition: MaxLen's cell. -/
import Derived.Test.YtpclacofcfbpjaaDoorEditU
namespace Go.Proofs.YtpclacofcfbpjaaDoor
open Go.RowKit

theorem Tryd.edInfo : (Tryd.prog.info? 32).map (fun i => (i.zero, i.size, i.bytes)) = some (some (.agg #[.int .i64 0, .int .i64 0, .int .i64 0, .string ⟨#[]⟩]), 4, 40) := by kernel_rfl
theorem EL.of_own {w : World} {base : Nat} {v : Value} {es : List Ed} (h : w.ownsRow base 32 4 v es.length (es.flatMap edCells)) : EL w w.heap.size v es := by
  have hs := Slc.of_own h
  rcases h.2 with ⟨rfl, h0⟩ | ⟨g, cap, cur, rfl, _, _, hn, _⟩
  · exact ⟨none, 0, by rw [h0], by omega, by rw [h0] at hs ⊢; exact hs⟩
  · exact ⟨_, cap, rfl, hn, hs⟩
theorem EL.slc {w : World} {B : Nat} {v : Value} {es : List Ed} (h : EL w B v es) : Slc w B 4 v es.length (es.flatMap edCells) := by
  obtain ⟨A, c, rfl, _, hs⟩ := h
  exact hs
theorem Sl.slc {w : World} {B : Nat} {v : Value} {ls : List (List UInt8)} (h : Sl w B v ls) : Slc w B 1 v ls.length (ls.map strV) := by
  obtain ⟨A, c, rfl, _, hs⟩ := h
  exact hs
theorem ed_one {es : List Ed} : ∀ u ∈ es.flatMap edCells, u.oneCell' = true := by
  intro u h
  obtain ⟨x, _, hx⟩ := List.mem_flatMap.1 h
  simp [edCells, strV] at hx
  rcases hx with rfl | rfl | rfl | rfl <;> rfl
theorem str_one {ls : List (List UInt8)} : ∀ u ∈ ls.map strV, u.oneCell' = true := by
  intro u h
  obtain ⟨x, _, rfl⟩ := List.mem_map.1 h; rfl
theorem ed_set : ∀ (es : List Ed) (q : Nat) (y : Ed), q < es.length → ((((es.flatMap edCells).set (q * 4) (.int .i64 y.cfg)).set (q * 4 + 1) (.int .i64 y.line)).set (q * 4 + 2) (.int .i64 y.kind)).set (q * 4 + 3) (strV y.text) = (es.set q y).flatMap edCells := by
  intro es
  induction es with
  | nil => intro q y h; simp at h
  | cons x r ih =>
    intro q y h
    cases q with
    | zero => simp [edCells]
    | succ q =>
      have := ih q y (by simpa using h)
      have e : ∀ (l : List Value) (m : Nat) (u : Value), (edCells x ++ l).set (m + 4) u = edCells x ++ l.set m u := by intro l m u; simp [edCells]
      simp only [List.flatMap_cons, List.set_cons_succ]
      rw [show (q + 1) * 4 = q * 4 + 4 from by omega, show q * 4 + 4 + 1 = (q * 4 + 1) + 4 from by omega, show q * 4 + 4 + 2 = (q * 4 + 2) + 4 from by omega, show q * 4 + 4 + 3 = (q * 4 + 3) + 4 from by omega, e, e, e, e, this]
/-- Two lists that hold the same strings are found equal. -/
theorem strings_same {xs : List (List UInt8)} {v u : Value} {Z : Nat} {w : World} (hx : Slc w Z 1 v xs.length (xs.map strV)) (hy : Slc w Z 1 u xs.length (xs.map strV)) :
    Calls Tryd.prog 15 #[v, u] w fun e w' => e = .returned (.bool true) ∧ Below w.heap.size w w' := by
  obtain ⟨A, c, rfl⟩ := slc_form hx
  obtain ⟨B, d, rfl⟩ := slc_form hy
  refine (strings_any A B _ _ c d Z xs xs w hx hy rfl rfl).mono ?_
  rintro e w' ⟨rfl, q, rfl⟩
  exact ⟨ret_bool (by simp), drewN_below w q⟩
def edWf (x : Ed) : Prop := wfI x.cfg ∧ wfI x.line ∧ wfI x.kind
theorem fit_wf {ts : List (List UInt8)} {x y : Ed} (h : FitOk ts x y) (hl : ts.length ≤ 1000000) : wfI y.cfg ∧ wfI y.kind := by
  obtain ⟨h1, h2, h3, _⟩ := h
  unfold wfI
  omega
theorem set_take {α : Type} (l : List α) (q : Nat) (y : α) (h : q < l.length) : (l.set q y).take (q + 1) = l.take q ++ [y] := by
  rw [List.take_succ_eq_append_getElem (by simpa using h), List.take_set, List.set_eq_of_length_le (by simp; omega)]
  simp
theorem txt_snoc {es : List Ed} {q n : Nat} {y : Ed} (hq : q < es.length) (h : ∀ x ∈ es.take q, x.text.length ≤ n) (hy : y.text.length ≤ n) : ∀ x ∈ (es.set q y).take (q + 1), x.text.length ≤ n := by
  rw [set_take es q y hq]
  intro x hx
  rcases List.mem_append.1 hx with h1 | h1
  · exact h x h1
  · obtain rfl : x = y := by simpa using h1
    exact hy

set_option maxRecDepth 100000 in
set_option maxHeartbeats 4000000 in
theorem editApplies_walk (A : Option Addr) (len cap : Nat) (zs : List (List UInt8)) (Ae : Option Addr) (elen ecap : Nat) (es : List Ed) (near : Bool) (w : World) (hM : MaxCell w) (hS : StrsArg w A len cap zs) (hcap : len ≤ cap) (hE : EL w w.heap.size (.slice Ae elen ecap) es) (hwf : ∀ x ∈ es, edWf x) :
    Calls Tryd.prog 5 #[.slice A len cap, .slice Ae elen ecap, .bool near] w fun e w' => e = .returned (.bool true) ∧ Below w.heap.size w w' := by
  obtain ⟨hs, rfl, _⟩ := hS
  obtain ⟨Ae', ce', ee, hce, heb⟩ := hE.form
  injection ee with e1 e2 e3
  subst e1 e2 e3
  obtain ⟨i0, hi0, hz0, hz1, hz2⟩ := info_parts Tryd.strInfo
  obtain ⟨j0, hj0, hy0, hy1, hy2⟩ := info_parts Tryd.edInfo
  have Hi0 := Lib.hid hi0
  have Hz0 := Lib.hid hz0
  have Hz1 := Lib.hid hz1
  have Hz2 := Lib.hid hz2
  have Hj0 := Lib.hid hj0
  have Hy0 := Lib.hid hy0
  have Hy1 := Lib.hid hy1
  have Hy2 := Lib.hid hy2
  have HAW := Lib.hid (awake_any w hM)
  have HM := Lib.hid hM
  have HS := Lib.hid hs
  have HE := Lib.hid hE
  have HWF := Lib.hid hwf
  clear hi0 hz0 hz1 hz2 hj0 hy0 hy1 hy2 hM hs hE hwf
  go_enter Tryd.func5, Tryd.ntmps5
  go_wp2_with fail
  refine HAW.out.mono ?_
  rintro e w1 ⟨rfl, hb1⟩
  have hzz1 := hb1.size
  have HS1 := Lib.hid ((HS.out.below hb1).mono hb1.size)
  have HE1 := Lib.hid ((HE.out.below hb1).mono hb1.size)
  have HM1 := Lib.hid (HM.out.below hb1)
  have HSH := Lib.hid (short_any A cap w1.heap.size zs w1 HS1.out)
  clear HS HM HAW HE
  cases hsh : shortB zs with
  | false =>
    rw [hsh] at HSH
    go_wp2_with fail
    refine HSH.out.mono ?_
    rintro e w' ⟨rfl, rfl⟩
    go_wp2_with fail
    go_ret
    exact ⟨rfl, hb1⟩
  | true =>
    rw [hsh] at HSH
    have h6 : zs.length ≤ 6 := by unfold shortB at hsh; simp at hsh; exact hsh.2
    clear hsh
    by_cases h30 : 30 < es.length
    · have e30 : decide ((30 : Int) < es.length) = true := decide_eq_true (by omega)
      go_wp2_with fail
      refine HSH.out.mono ?_
      rintro e w' ⟨rfl, rfl⟩
      go_wp2_with fail
      go_ret
      exact ⟨rfl, hb1⟩
    have e30 : decide ((30 : Int) < es.length) = false := decide_eq_false (by omega)
    go_wp2_with fail
    refine HSH.out.mono ?_
    rintro e w' ⟨rfl, rfl⟩
    go_wp2_with (first | (at_builtin; refine wpList_appendS _ rfl _ _ 29 rfl w1.heap.size 32 j0 _ 4 40 Tryd.underlying29 Hj0.out Hy0.out Hy1.out Hy2.out rfl (by decide) _ 0 [] rfl (World.ownsRow_nil _ _ _ _) _ w1.heap.size es.length (es.flatMap edCells) rfl HE1.out.slc ed_one (by omega) (by decide) (Nat.le_refl _) ?_; intro v2 w2 hown2 hb2))
    have hown3 : w2.ownsRow w1.heap.size 32 4 v2 es.length (es.flatMap edCells) := by simpa using hown2
    obtain ⟨A2, c2, rfl⟩ := slc_form (Slc.of_own hown3)
    have HO0 := Lib.hid hown3
    clear hown2 hown3
    go_loopw [6, 7] (fun _ ix wr => ∃ (q : Nat) (el : List Ed), q ≤ es.length ∧ ix = .int .i64 q ∧ Hid (el.length = es.length) ∧ Hid (wr.ownsRow w1.heap.size 32 4 (.slice A2 es.length c2) es.length (el.flatMap edCells)) ∧ Hid (∀ x ∈ el.drop q, edWf x) ∧ Hid (∀ x ∈ el.take q, x.text.length ≤ 200) ∧ w1.heap.size ≤ wr.heap.size ∧ Below w1.heap.size w1 wr) (fun _ ix _ => es.length - (intOf ix).toNat)
    case atStart => exact ⟨0, es, by omega, rfl, Lib.hid rfl, HO0, Lib.hid (by rw [List.drop_zero]; exact HWF.out), Lib.hid (by simp), hb2.size, hb2⟩
    case round =>
      clear HO0 hb2 HWF HE1
      obtain ⟨q, el, hq, rfl, HEL, HO, HWD, HTK, hz, hb⟩ := hrel
      by_cases hlt : q < es.length
      · have hql : q < el.length := by rw [HEL.out]; exact hlt
        have hown := HO.out
        obtain ⟨g, cg, hv, hbg, hgl, hcell⟩ := own_form hown (by omega)
        injection hv with hv1 hv2 hv3
        subst hv1 hv3
        obtain ⟨f1, f2, f3, f4⟩ := ed_flat el q hql
        have x0 := hcell _ _ f1
        have x1 := hcell _ _ f2
        have x2 := hcell _ _ f3
        have x3 := hcell _ _ f4
        have hwx : edWf el[q] := HWD.out _ (by rw [list_step el q hql]; exact List.mem_cons_self)
        have HTS := Lib.hid (fun (y : Ed) (h : y.text.length ≤ 200) => txt_snoc hql HTK.out h)
        have HSET := Lib.hid (fun (y : Ed) => ed_set el q y hql)
        have HDR : Hid (∀ y, (el.set q y).drop (q + 1) = el.drop (q + 1)) := Lib.hid (fun y => by rw [List.drop_set_of_lt (by omega)])
        have HSELF : Hid (el.set q el[q] = el) := Lib.hid (by simp)
        have HWD2 : Hid (∀ x ∈ el.drop (q + 1), edWf x) := Lib.hid (fun x hx => HWD.out x (List.mem_of_mem_drop (i := 1) (by rw [List.drop_drop]; exact hx)))
        clear f1 f2 f3 f4 hcell
        generalize el[q] = x at x0 x1 x2 x3 hwx HSELF
        obtain ⟨xc, xl, xk, xt⟩ := x
        simp only at x0 x1 x2 x3
        unfold strV at x3
        have q0 : (q : Int) < es.length := by omega
        by_cases ht : 200 < (str xt).size
        · have t1 : decide ((200 : Int) < (str xt).size) = true := decide_eq_true (by omega)
          go_wp2_with fail
          go_ret
          exact ⟨rfl, hb1.trans (hb.mono hzz1)⟩
        have t1 : decide ((200 : Int) < (str xt).size) = false := decide_eq_false (by omega)
        have htx : xt.length ≤ 200 := by rw [str_size] at ht; omega
        cases near with
        | false =>
          go_wp2_with fail
          go_roundw
          case rel => exact ⟨q + 1, el, by omega, by go_num, HEL, HO, HWD2, Lib.hid (by have h := HTS.out ⟨xc, xl, xk, xt⟩ htx; rw [HSELF.out] at h; exact h), hz, hb⟩
          case measure => simp [intOf]; omega
        | true =>
          by_cases hz6 : 0 < zs.length
          · have n6 : decide (0 < zs.length) = true := decide_eq_true hz6
            have HFIT := Lib.hid (fit_any A cap zs ⟨xc, xl, xk, xt⟩ wr ((HS1.out.below hb).mono hz) hz6 (by omega) hwx)
            unfold edV strV at HFIT
            go_wp2_with fail
            refine HFIT.out.mono ?_
            rintro e w4 ⟨y, rfl, hfit, hb4⟩
            have hown4 := own_below hown hb4
            obtain ⟨hO1, _⟩ := hown4.stored (q * 4) (.int .i64 y.cfg)
            obtain ⟨hO2, _⟩ := hO1.stored (q * 4 + 1) (.int .i64 y.line)
            obtain ⟨hO3, _⟩ := hO2.stored (q * 4 + 2) (.int .i64 y.kind)
            obtain ⟨hO4, _⟩ := hO3.stored (q * 4 + 3) (.string (str y.text))
            have y0 := (hb4.cell (World.block_lt_of_cell? _ _ x0)).trans x0
            have y1 := (hb4.cell (World.block_lt_of_cell? _ _ x1)).trans x1
            have y2 := (hb4.cell (World.block_lt_of_cell? _ _ x2)).trans x2
            have y3 := (hb4.cell (World.block_lt_of_cell? _ _ x3)).trans x3
            have z0 := hown4.frozenAt (q * 4)
            have z1 := hown4.frozenAt (q * 4 + 1)
            have z2 := hown4.frozenAt (q * 4 + 2)
            have z3 := hown4.frozenAt (q * 4 + 3)
            have HO4 := Lib.hid hO4
            have HFT := Lib.hid hfit
            have hz4 : w1.heap.size ≤ w4.heap.size := Nat.le_trans hz hb4.size
            have hb5 : Below w1.heap.size w1 w4 := hb.trans (hb4.mono hz)
            clear hO1 hO2 hO3 hO4 hown4 hown hfit hb4 x0 x1 x2 x3
            obtain ⟨yc, yl, yk, yt⟩ := y
            simp only at HO4 ⊢
            go_wp2_with fail
            go_roundw
            case rel => exact ⟨q + 1, el.set q ⟨yc, yl, yk, yt⟩, by omega, by go_num, Lib.hid (by rw [List.length_set]; exact HEL.out), Lib.hid (by rw [← HSET.out]; exact HO4.out), Lib.hid (by rw [HDR.out]; exact HWD2.out), Lib.hid (HTS.out _ (Nat.le_trans HFT.out.2.2.2 htx)), by simpa using hz4, (((hb5.setCell hbg _).setCell hbg _).setCell hbg _).setCell hbg _⟩
            case measure => simp [intOf]; omega
          · have n6 : decide (0 < zs.length) = false := decide_eq_false hz6
            go_wp2_with fail
            go_roundw
            case rel => exact ⟨q + 1, el, by omega, by go_num, HEL, HO, HWD2, Lib.hid (by have h := HTS.out ⟨xc, xl, xk, xt⟩ htx; rw [HSELF.out] at h; exact h), hz, hb⟩
            case measure => simp [intOf]; omega
      · have HT : Hid (∀ x ∈ el, x.text.length ≤ 1000000) := Lib.hid (fun x hx => Nat.le_trans (HTK.out x (by rw [List.take_of_length_le (by rw [HEL.out]; omega)]; exact hx)) (by decide))
        have HS3 := Lib.hid ((HS1.out.below hb).mono hz)
        have HM3 := Lib.hid (HM1.out.below hb)
        have hb0 : Below w.heap.size w wr := hb1.trans (hb.mono hzz1)
        have hz0 : w.heap.size ≤ wr.heap.size := Nat.le_trans hzz1 hz
        obtain ⟨wo, rfl⟩ : ∃ wo : World, wo = wr := ⟨_, rfl⟩
        clear HWD HTK HM1 HS1
        go_wp2_with (first | (at_builtin; refine wpList_appendS _ rfl _ _ 22 rfl wo.heap.size 9 i0 _ 1 16 Tryd.underlying22 Hi0.out Hz0.out Hz1.out Hz2.out rfl (by decide) _ 0 [] rfl (World.ownsRow_nil _ _ _ _) _ wo.heap.size zs.length (zs.map strV) rfl HS3.out str_one (by omega) (by decide) (Nat.le_refl _) ?_; intro v4 w4 hown4 hb4; have HO4 := Lib.hid hown4; clear hown4; have HO5 := Lib.hid (own_below HO.out hb4); have HE4 := Lib.hid (Slc.of_own HO5.out)) | (at_builtin; refine wpList_appendS _ rfl _ _ 29 rfl w4.heap.size 32 j0 _ 4 40 Tryd.underlying29 Hj0.out Hy0.out Hy1.out Hy2.out rfl (by decide) _ 0 [] rfl (World.ownsRow_nil _ _ _ _) _ w4.heap.size es.length (el.flatMap edCells) rfl HE4.out ed_one (by omega) (by decide) (Nat.le_refl _) ?_; intro v5 w5 hown5 hb5; have HO6 := Lib.hid hown5; clear hown5))
        have S4 : Sl w5 w5.heap.size v4 zs := Sl.of_own (by have h := own_below HO4.out hb5; simpa using h)
        have E5 : EL w5 w5.heap.size v5 el := EL.of_own (by rw [HEL.out]; have h := HO6.out; simpa using h)
        have hbw5 : Below wo.heap.size wo w5 := hb4.trans (hb5.mono hb4.size)
        have HAP := Lib.hid (apply_any v4 v5 zs el w5 S4 E5 (HM3.out.below hbw5) (by omega) (by rw [HEL.out]; omega) HT.out)
        have HO7 := Lib.hid (own_below HO5.out hb5)
        clear S4 E5 HE4 HO4 HO6 HO5
        go_wp2_with fail
        refine HAP.out.mono ?_
        rintro e w6 ⟨va, rfl, hsa, hb6⟩
        have hbw6 : Below wo.heap.size wo w6 := hbw5.trans (hb6.mono hbw5.size)
        have SlT : Sl w6 w6.heap.size (.slice A zs.length cap) zs := ⟨A, cap, rfl, hcap, (HS3.out.below hbw6).mono hbw6.size⟩
        have E6 : EL w6 w6.heap.size (.slice A2 es.length c2) el := EL.of_own (by rw [HEL.out]; exact own_below HO7.out hb6)
        have HRP := Lib.hid (rapply_any _ _ zs el w6 SlT E6 (by omega) (by rw [HEL.out]; omega) HT.out)
        have HSA := Lib.hid hsa
        clear SlT E6 hsa
        go_wp2_with fail
        refine HRP.out.mono ?_
        rintro e w7 ⟨vb, rfl, hsb, hb7⟩
        have HST := Lib.hid (strings_same ((HSA.out.slc.below hb7).mono hb7.size) hsb.slc)
        have hbw7 : Below wo.heap.size wo w7 := hbw6.trans (hb7.mono hbw6.size)
        clear hsb
        generalize applyErr zs el = ae
        go_wp2_with fail
        refine HST.out.mono ?_
        rintro e w8 ⟨rfl, hb8⟩
        go_wp2_with fail
        go_ret
        exact ⟨rfl, (hb0.trans (hbw7.mono hz0)).trans (hb8.mono (Nat.le_trans hz0 hbw7.size))⟩
end Go.Proofs.YtpclacofcfbpjaaDoor
