/- The walk of edit.Apply. Conditions: MaxLen's cell; at most 10^6 texts, at most 10^9 edits with texts of at most 10^6 bytes. -/
import Derived.Test.YtpclacofcfbpjaaDoorEditL
import Derived.OwnWalk
namespace Go.Proofs.YtpclacofcfbpjaaDoor
open Go.RowKit

theorem linesGo_short : ∀ (l cur : List UInt8) (x : List UInt8), x ∈ linesGo cur l → x.length ≤ cur.length + l.length := by
  intro l
  induction l with
  | nil =>
    intro cur x h
    simp only [linesGo, flush] at h
    split at h
    · cases h
    · simp at h; subst h; simp
  | cons c r ih =>
    intro cur x h
    simp only [linesGo] at h
    split at h
    · rcases List.mem_cons.1 h with h | h
      · subst h; simp
      · have := ih [] x h; simp at this ⊢; omega
    · have := ih _ x h; simp at this ⊢; omega
theorem lines_short {t : List UInt8} (h : linesErr t = 0) : (linesOf t).length ≤ 65537 ∧ ∀ l ∈ linesOf t, l.length ≤ 65536 := by
  have hl : t.length ≤ 65536 := by
    unfold linesErr at h
    split at h
    · cases h
    · omega
  refine ⟨by have := linesGo_len t []; unfold linesOf; omega, fun l hm => ?_⟩
  have := linesGo_short t [] l hm
  simp at this; omega
theorem split_zero : ∀ {ts : List (List UInt8)}, splitErr ts = 0 → ∀ t ∈ ts, linesErr t = 0 := by
  intro ts
  induction ts with
  | nil => intro _ t h; cases h
  | cons a r ih =>
    intro h t ht
    simp only [splitErr] at h
    split at h
    · next h0 =>
      rcases List.mem_cons.1 ht with rfl | ht
      · exact h0
      · exact ih h t ht
    · contradiction
theorem split_short {ts : List (List UInt8)} (h : splitErr ts = 0) : ∀ ls ∈ splitOf ts, ls.length ≤ 65537 ∧ ∀ l ∈ ls, l.length ≤ 65536 := by
  intro ls hm
  obtain ⟨t, ht, rfl⟩ := List.mem_map.1 hm
  exact lines_short (split_zero h t ht)
def ApplyPost (ts : List (List UInt8)) (es : List Ed) (w : World) (e : Ending) (w' : World) : Prop :=
  ∃ v, e = .returned (.tuple #[v, .int .i64 (applyErr ts es)]) ∧ Sl w' w'.heap.size v (applyOf ts es) ∧ Below w.heap.size w w'
theorem apply_bad {ts : List (List UInt8)} {es : List Ed} {n : Int} (h : applyErr ts es = n) (hn : ¬ n = 0) {w w' : World} (hb : Below w.heap.size w w') : ApplyPost ts es w (.returned (.tuple #[.slice none 0 0, .int .i64 n])) w' := by
  refine ⟨_, by rw [h], ?_, hb⟩
  unfold applyOf
  rw [h, if_neg hn]
  exact Sl.nil
theorem apply_ok {ts : List (List UInt8)} {es : List Ed} (h : applyErr ts es = 0) {w w' : World} {v : Value} (hs : Sl w' w'.heap.size v (rwAll (splitOf ts) es 0)) (hb : Below w.heap.size w w') : ApplyPost ts es w (.returned (.tuple #[v, .int .i64 0])) w' := by
  refine ⟨_, by rw [h], ?_, hb⟩
  unfold applyOf
  rw [h, if_pos rfl]
  exact hs
theorem checks_step {lss : List (List (List UInt8))} {es : List Ed} {i : Nat} (h : i < es.length) : checksErr lss (es.take i) (es.drop i) = if checkErr lss (es.take i) es[i] = 0 then checksErr lss (es.take (i + 1)) (es.drop (i + 1)) else checkErr lss (es.take i) es[i] := by
  rw [list_step es i h, checksErr, List.take_succ_eq_append_getElem h]
/-- A box of four cells and what lies below, kept behind a call. -/
theorem keep4 {z b : Nat} {w0 w w' : World} {v0 v1 v2 v3 : Value}
    (h : w.cell? ⟨b, 0, none⟩ = some v0 ∧ w.cell? ⟨b, 1, none⟩ = some v1 ∧ w.cell? ⟨b, 2, none⟩ = some v2 ∧ w.cell? ⟨b, 3, none⟩ = some v3 ∧ z ≤ w.heap.size ∧ Below z w0 w) (hb : Below w.heap.size w w') :
    w'.cell? ⟨b, 0, none⟩ = some v0 ∧ w'.cell? ⟨b, 1, none⟩ = some v1 ∧ w'.cell? ⟨b, 2, none⟩ = some v2 ∧ w'.cell? ⟨b, 3, none⟩ = some v3 ∧ z ≤ w'.heap.size ∧ Below z w0 w' := by
  obtain ⟨h1, h2, h3, h4, h5, h6⟩ := h
  exact ⟨(hb.cell (World.block_lt_of_cell? _ _ h1)).trans h1, (hb.cell (World.block_lt_of_cell? _ _ h2)).trans h2, (hb.cell (World.block_lt_of_cell? _ _ h3)).trans h3, (hb.cell (World.block_lt_of_cell? _ _ h4)).trans h4, Nat.le_trans h5 hb.size, h6.trans (hb.mono h5)⟩

set_option maxRecDepth 100000 in
set_option maxHeartbeats 4000000 in
theorem apply_any (vt ve : Value) (ts : List (List UInt8)) (es : List Ed) (w : World) (hT : Sl w w.heap.size vt ts) (hE : EL w w.heap.size ve es) (hM : MaxCell w) (hn : ts.length ≤ 1000000) (he : es.length ≤ 1000000000) (ht : ∀ x ∈ es, x.text.length ≤ 1000000) :
    Calls Tryd.prog 13 #[vt, ve] w (ApplyPost ts es w) := by
  obtain ⟨Ae, ce, rfl, hce, heb⟩ := hE.form
  obtain ⟨i0, hi0, hz0, hz1, hz2⟩ := info_parts Tryd.strInfo
  have Hi0 := Lib.hid hi0
  have Hz0 := Lib.hid hz0
  have Hz1 := Lib.hid hz1
  have Hz2 := Lib.hid hz2
  have HE := Lib.hid hE
  have HM := Lib.hid hM
  have HTX := Lib.hid ht
  have HSP := Lib.hid (split_any vt ts w hT (by omega))
  clear hi0 hz0 hz1 hz2 hE hM ht hT
  go_enter Tryd.func13, Tryd.ntmps13
  go_wp2_with fail
  refine HSP.out.mono ?_
  rintro e w1 ⟨v1, rfl, hL, hb1⟩
  have HL := Lib.hid hL
  clear hL
  cases hse : (splitErr ts != 0) with
  | true =>
    have hne : ¬ splitErr ts = 0 := by simpa using hse
    have HR : Hid (applyErr ts es = splitErr ts) := Lib.hid (by unfold applyErr; rw [if_neg hne])
    have HNE := Lib.hid hne
    clear hne
    go_wp2_with fail
    go_ret2
    exact apply_bad HR.out HNE.out hb1
  | false =>
    have h0 : splitErr ts = 0 := by simpa using hse
    have HL2 : Hid (LL w1 w1.heap.size v1 (splitOf ts)) := Lib.hid (by have := HL.out; unfold splitRes at this; rw [if_pos h0] at this; exact this)
    have HSH := Lib.hid (split_short h0)
    have HAE : Hid (applyErr ts es = if 24 < es.length then 7 else checksErr (splitOf ts) [] es) := Lib.hid (by unfold applyErr; rw [if_pos h0])
    have hsl : (splitOf ts).length ≤ 1000000 := by unfold splitOf; rw [List.length_map]; exact hn
    have hz1 := hb1.size
    clear h0 HL HSP
    by_cases h24 : 24 < es.length
    · have HR : Hid (applyErr ts es = 7) := Lib.hid (by rw [HAE.out, if_pos h24])
      go_wp2_with fail
      go_ret2
      exact apply_bad HR.out (by decide) hb1
    have HR : Hid (applyErr ts es = checksErr (splitOf ts) (es.take 0) (es.drop 0)) := Lib.hid (by rw [HAE.out, if_neg h24]; rfl)
    clear HAE
    have HSS : Hid (Short (splitOf ts)) := Lib.hid (fun ls h => ⟨Nat.le_trans (HSH.out ls h).1 (by decide), fun l hl => Nat.le_trans ((HSH.out ls h).2 l hl) (by decide)⟩)
    generalize hq : splitOf ts = lss at *
    have HQ := Lib.hid hq
    clear hq
    obtain ⟨Al, cl, rfl⟩ := HL2.out.form
    have d24 : decide ((24 : Int) < es.length) = false := decide_eq_false (by omega)
    have HE1 : Hid (EL w1 w.heap.size (.slice Ae es.length ce) es) := Lib.hid (HE.out.below hb1)
    have HM1 : Hid (MaxCell w1) := Lib.hid (HM.out.below hb1)
    go_wp2_with fail
    go_loopw [4, 5, 8, 9, 10, 26] (fun _ _ _ _ _ ix wr => ∃ i : Nat, i ≤ es.length ∧ ix = .int .i64 i ∧ w1.heap.size ≤ wr.heap.size ∧ Below w1.heap.size w1 wr ∧ Hid (applyErr ts es = checksErr lss (es.take i) (es.drop i))) (fun _ _ _ _ _ ix _ => es.length - (intOf ix).toNat)
    case atStart => exact ⟨0, by omega, rfl, Nat.le_refl _, Below.refl _ _, HR⟩
    case round =>
      clear HR
      obtain ⟨i, hi, rfl, hz, hb, HR⟩ := hrel
      by_cases hlt : i < es.length
      · obtain ⟨ge, oe, eE, hge, x0, x1, x2, x3⟩ := (HE1.out.below (hb.mono hz1)).at hlt
        have HCK := Lib.hid (fun (w' : World) (h : w1.heap.size ≤ w'.heap.size ∧ Below w1.heap.size w1 w') => check_any _ _ lss (es.take i) es[i] w' ((HL2.out.below h.2).mono h.1) (((((HE1.out.below (h.2.mono hz1)).mono hz1).take hi)).mono h.1) (by rw [List.length_take]; omega) HSS.out (HM1.out.below h.2) (Nat.le_trans (HTX.out _ (List.getElem_mem hlt)) (by decide)))
        have HST := Lib.hid (checks_step (lss := lss) hlt)
        generalize es[i] = y at x0 x1 x2 x3 HCK HST
        obtain ⟨yc, yl, yk, yt⟩ := y
        unfold edV CheckPost at HCK
        simp only at x0 x1 x2 x3 HCK
        unfold strV at x3 HCK
        subst eE
        generalize checkErr lss (es.take i) ⟨yc, yl, yk, yt⟩ = ck at HCK HST
        have S1 : (wr.alloc (.cells #[.int .i64 yc, .int .i64 yl, .int .i64 yk, .string (str yt)] 32)).cell? ⟨wr.heap.size, 0, none⟩ = some (.int .i64 yc) ∧ (wr.alloc (.cells #[.int .i64 yc, .int .i64 yl, .int .i64 yk, .string (str yt)] 32)).cell? ⟨wr.heap.size, 1, none⟩ = some (.int .i64 yl) ∧ (wr.alloc (.cells #[.int .i64 yc, .int .i64 yl, .int .i64 yk, .string (str yt)] 32)).cell? ⟨wr.heap.size, 2, none⟩ = some (.int .i64 yk) ∧ (wr.alloc (.cells #[.int .i64 yc, .int .i64 yl, .int .i64 yk, .string (str yt)] 32)).cell? ⟨wr.heap.size, 3, none⟩ = some (.string (str yt)) ∧ w1.heap.size ≤ (wr.alloc (.cells #[.int .i64 yc, .int .i64 yl, .int .i64 yk, .string (str yt)] 32)).heap.size ∧ Below w1.heap.size w1 (wr.alloc (.cells #[.int .i64 yc, .int .i64 yl, .int .i64 yk, .string (str yt)] 32)) := by
          obtain ⟨k0, k1, k2, k3⟩ := box4_cells wr (.int .i64 yc) (.int .i64 yl) (.int .i64 yk) (.string (str yt)) 32
          exact ⟨k0, k1, k2, k3, by simp; omega, hb.alloc hz _⟩
        have HS1 := Lib.hid S1
        clear S1
        have b0 : (0 : Int) ≤ (i : Int) := by omega
        have b1 : (i : Int) ≤ ce := by omega
        go_wp2_with fail
        go_region_held3 (fun w' => w'.cell? ⟨wr.heap.size, 0, none⟩ = some (.int .i64 yc) ∧ w'.cell? ⟨wr.heap.size, 1, none⟩ = some (.int .i64 yl) ∧ w'.cell? ⟨wr.heap.size, 2, none⟩ = some (.int .i64 yk) ∧ w'.cell? ⟨wr.heap.size, 3, none⟩ = some (.string (str yt)) ∧ w1.heap.size ≤ w'.heap.size ∧ Below w1.heap.size w1 w') (first | exact keep4 HS1.out (below_drew _) | (refine keep4 ?_ (by assumption); assumption)) (first | (go_at_call 28; with_reducible refine (HCK.out _ (And.right (And.right (And.right (And.right (by assumption)))))).mono ?_; rintro e w' ⟨rfl, hbc⟩))
        rename_i SE
        obtain ⟨_, _, _, _, hz2, hb2⟩ := SE
        cases hck : (ck != 0) with
        | true =>
          have hne : ¬ ck = 0 := by simpa using hck
          have HRR : Hid (applyErr ts es = ck) := Lib.hid (by rw [HR.out, HST.out, if_neg hne])
          have HNE := Lib.hid hne
          clear hne
          go_wp2_with fail
          go_ret2
          exact apply_bad HRR.out HNE.out (hb1.trans (hb2.mono hz1))
        | false =>
          have h0 : ck = 0 := by simpa using hck
          have HRR : Hid (applyErr ts es = checksErr lss (es.take (i + 1)) (es.drop (i + 1))) := Lib.hid (by rw [HR.out, HST.out, if_pos h0])
          clear h0
          go_wp2_with fail
          go_roundw
          case rel => exact ⟨i + 1, by omega, by go_num, hz2, hb2, HRR⟩
          case measure => simp [intOf]; omega
      · have HR0 : Hid (applyErr ts es = 0) := Lib.hid (by rw [HR.out, List.drop_eq_nil_of_le (by omega)]; rfl)
        clear HR
        have HL3 : Hid (LL wr w1.heap.size (.slice Al lss.length cl) lss) := Lib.hid (HL2.out.below hb)
        have HE3 : Hid (EL wr w.heap.size (.slice Ae es.length ce) es) := Lib.hid (HE1.out.below (hb.mono hz1))
        have HM3 : Hid (MaxCell wr) := Lib.hid (HM1.out.below hb)
        have hb3 : Below w.heap.size w wr := hb1.trans (hb.mono hz1)
        obtain ⟨wo, rfl⟩ : ∃ wo : World, wo = wr := ⟨_, rfl⟩
        clear HL2 HE1 HM1
        go_wp2_with (first | (at_make; refine wpList_make_full _ rfl _ _ 22 rfl wo.heap.size 9 i0 _ 1 Tryd.underlying22 Hi0.out Hz0.out Hz1.out .i64 .i64 _ _ lss.length rfl rfl rfl rfl (by rw [Hz2.out]; omega) (by unfold maxLen; omega) (Nat.le_refl _) ?_; intro w2 hown hgr))
        have HO := Lib.hid hown
        have hxl := hown.1
        have hbw : Below wo.heap.size wo w2 := (Below.refl _ wo).grown hgr (Nat.le_refl _) (fun k h => by cases h)
        clear hown
        generalize (madeCells _ (lss.length * 1)).toList = xs0 at HO hxl
        go_loopw [12, 46] (fun _ ix wr => ∃ (i : Nat) (xs : List Value), i ≤ lss.length ∧ ix = .int .i64 i ∧ xs.length = lss.length * 1 ∧ Hid (wr.ownsRow wo.heap.size 9 1 (.slice (some ⟨wo.heap.size, 0, none⟩) lss.length lss.length) lss.length xs) ∧
            Hid (∀ j, j < i → xs[j]? = ((rwAll lss es 0).map strV)[j]?) ∧ wo.heap.size ≤ wr.heap.size ∧ Below wo.heap.size wo wr) (fun _ ix _ => lss.length - (intOf ix).toNat)
        case atStart => exact ⟨0, xs0, by omega, rfl, hxl, HO, Lib.hid (fun j h => by omega), hbw.size, hbw⟩
        case round =>
          clear HO hxl hbw hgr
          obtain ⟨m, xs, hm, rfl, hxl, HO, HX, hz4, hb4⟩ := hrel
          by_cases hlt2 : m < lss.length
          · obtain ⟨g, o, u, eA, hg, c1, hsl⟩ := (HL3.out.below (hb4.mono hz)).at hlt2
            have hmem := List.getElem_mem hlt2
            have HRW := Lib.hid (rewrite_any u (.slice Ae es.length ce) lss[m] es m wr (hsl.mono (Nat.le_trans hz hz4)) (((HE3.out.below (hb4.mono (Nat.le_trans hz1 hz))).mono (Nat.le_trans hz1 (Nat.le_trans hz hz4)))) (HM3.out.below hb4) (Nat.le_trans (HSH.out _ hmem).1 (by decide)) (fun l hl => Nat.le_trans ((HSH.out _ hmem).2 l hl) (by decide)) (by omega) HTX.out)
            have HG : Hid ((rwAll lss es 0)[m]? = some (rewriteOf lss[m] es (m : Int))) := Lib.hid (by have h := rwAll_get lss es 0 m hlt2; rw [Nat.zero_add] at h; exact h)
            generalize rewriteOf lss[m] es (m : Int) = r at HRW HG
            subst eA
            have HXL := Lib.hid hxl
            clear hxl hsl hmem
            go_wp2_with fail
            refine HRW.out.mono ?_
            rintro e w4 ⟨rfl, hb5⟩
            have hown5 := own_below HO.out hb5
            obtain ⟨y, hy⟩ : ∃ y, xs[m]? = some y := ⟨xs[m]'(by rw [HXL.out]; omega), List.getElem?_eq_getElem _⟩
            have k1 : w4.cell? ⟨wo.heap.size, m, none⟩ = some y := (hown5.cellAt m (by omega)).trans hy
            have k2 : w4.frozen? ⟨wo.heap.size, m, none⟩ = false := hown5.frozenAt m
            have HO6 := Lib.hid (hown5.stored m (.string (str r)))
            have hz6 : wo.heap.size ≤ w4.heap.size := Nat.le_trans hz4 hb5.size
            have hb6 : Below wo.heap.size wo w4 := hb4.trans (hb5.mono hz4)
            clear hown5 hy
            go_wp2_with fail
            go_roundw
            case rel => exact ⟨m + 1, xs.set m (.string (str r)), by omega, by go_num, by rw [List.length_set]; exact HXL.out, Lib.hid HO6.out.1, Lib.hid (fun j hj => by
                rcases Nat.lt_or_ge j m with h | h
                · rw [List.getElem?_set_ne (by omega)]; exact HX.out j h
                · have e : j = m := by omega
                  subst e
                  rw [List.getElem?_set_self (by rw [HXL.out]; omega), List.getElem?_map, HG.out]; rfl), by simpa using hz6, hb6.setCell (Nat.le_refl _) _⟩
            case measure => simp [intOf]; omega
          · have hxe : xs = (rwAll lss es 0).map strV := by
              apply List.ext_getElem?
              intro j
              rcases Nat.lt_or_ge j m with h | h
              · exact HX.out j h
              · rw [List.getElem?_eq_none (by omega), List.getElem?_eq_none (by rw [List.length_map, rwAll_len]; omega)]
            have HF : Hid (Sl wr wr.heap.size (.slice (some ⟨wo.heap.size, 0, none⟩) lss.length lss.length) (rwAll (splitOf ts) es 0)) := Lib.hid (by
              rw [HQ.out]
              have h := HO.out
              rw [hxe] at h
              exact Sl.of_own (by rw [rwAll_len]; exact h))
            clear hxe
            go_wp2_with fail
            go_ret2
            exact apply_ok HR0.out HF.out (hb3.trans (hb4.mono (Nat.le_trans hz1 hz)))
end Go.Proofs.YtpclacofcfbpjaaDoor
