/- The walk of the reference's Apply. Conditions: at most 10^6 texts, at most 10^9 edits with texts of at most 10^6 bytes. -/
import Derived.Test.YtpclacofcfbpjaaDoorEditO
namespace Go.Proofs.YtpclacofcfbpjaaDoor
open Go.RowKit

theorem rwAll_take {lss : List (List (List UInt8))} {es : List Ed} {m : Nat} (h : m < lss.length) : (rwAll lss es 0).take (m + 1) = (rwAll lss es 0).take m ++ [rewriteOf lss[m] es (m : Int)] := by
  have hl : m < (rwAll lss es 0).length := by rw [rwAll_len]; exact h
  rw [List.take_succ_eq_append_getElem hl]
  have := rwAll_get lss es 0 m h
  rw [List.getElem?_eq_getElem hl, Nat.zero_add] at this
  injection this with this
  rw [this]

set_option maxRecDepth 100000 in
set_option maxHeartbeats 4000000 in
theorem rapply_any (vt ve : Value) (ts : List (List UInt8)) (es : List Ed) (w : World) (hT : Sl w w.heap.size vt ts) (hE : EL w w.heap.size ve es) (hn : ts.length ≤ 1000000) (he : es.length ≤ 1000000000) (ht : ∀ x ∈ es, x.text.length ≤ 1000000) :
    Calls Tryd.prog 14 #[vt, ve] w (ApplyPost ts es w) := by
  obtain ⟨A, c, rfl, hc, hbt, hS⟩ := hT.form
  obtain ⟨Ae, ce, rfl, hce, heb⟩ := hE.form
  obtain ⟨i0, hi0, hz0, hz1, hz2⟩ := info_parts Tryd.rowInfo
  obtain ⟨j0, hj0, hy0, hy1, hy2⟩ := info_parts Tryd.strInfo
  have Hi0 := Lib.hid hi0
  have Hz0 := Lib.hid hz0
  have Hz1 := Lib.hid hz1
  have Hz2 := Lib.hid hz2
  have Hj0 := Lib.hid hj0
  have Hy0 := Lib.hid hy0
  have Hy1 := Lib.hid hy1
  have Hy2 := Lib.hid hy2
  have HS := Lib.hid hS
  have HE := Lib.hid hE
  have HTX := Lib.hid ht
  clear hi0 hz0 hz1 hz2 hj0 hy0 hy1 hy2 hE ht hT hS
  go_enter Tryd.func14, Tryd.ntmps14
  go_wp2_with fail
  go_loopw [4, 5, 6, 7, 8, 9] (fun _ _ v ix _ _ wr => ∃ (k : Nat) (us : List Value), k ≤ ts.length ∧ us.length = k ∧ ix = .int .i64 k ∧ wr.ownsRow w.heap.size 22 1 v k us ∧
      Hid (∀ (i : Nat) u t, us[i]? = some u → ts[i]? = some t → SlN wr v.ownBlock u (linesOf t)) ∧ Below w.heap.size w wr ∧ Hid (splitErr ts = splitErr (ts.drop k))) (fun _ _ _ ix _ _ _ => ts.length - (intOf ix).toNat)
  case atStart => exact ⟨0, [], by omega, rfl, rfl, World.ownsRow_nil _ _ _ _, Lib.hid (fun i u t h => by simp at h), Below.refl _ _, Lib.hid (by rw [List.drop_zero])⟩
  case round =>
    obtain ⟨k, us, hk, hu, rfl, hown, HU, hb, H⟩ := hrel
    have hsz := hb.size
    by_cases hlt : k < ts.length
    · obtain ⟨g, o, eA, hg, c1⟩ := slc_at (HS.out.below hb) rfl hlt
      have E := Lib.hid (fun h => splitErr_on (ts := ts) hlt h)
      have EB := Lib.hid (fun h => splitErr_bad (ts := ts) hlt h)
      have HT := Lib.hid (List.getElem?_eq_getElem hlt)
      generalize ts[k] = x at c1 E EB HT
      unfold strV at c1
      subst eA
      have HUL := Lib.hid hu
      clear hu
      go_wp2_with fail
      refine (rlines_any _ _).mono ?_
      rintro e w1 ⟨v1, rfl, ho1, hb2⟩
      rw [bytes_str] at ho1 ⊢
      have hbb : Below w.heap.size w w1 := hb.trans (hb2.mono hsz)
      clear c1
      cases he0 : (linesErr x != 0) with
      | true =>
        have hne : ¬ linesErr x = 0 := by simpa using he0
        have HR : Hid (applyErr ts es = linesErr x) := Lib.hid (by
          have h1 : splitErr ts = linesErr x := by rw [H.out, EB.out hne]
          unfold applyErr; rw [if_neg (by rw [h1]; exact hne), h1])
        have HNE := Lib.hid hne
        clear H E EB hne
        go_wp2_with fail
        go_ret2
        exact apply_bad HR.out HNE.out hbb
      | false =>
        have h0 : linesErr x = 0 := by simpa using he0
        have HE1 : Hid (splitErr ts = splitErr (ts.drop (k + 1))) := Lib.hid (by rw [H.out, E.out h0])
        have hlr : linesRes x = linesOf x := by unfold linesRes; rw [if_pos h0]
        rw [hlr] at ho1
        have HO1 := Lib.hid ho1
        obtain ⟨A1, c1, e1⟩ := slc_form (Slc.of_own ho1)
        subst e1
        have hown1 := own_below hown hb2
        have hsz2 := hb2.size
        have hrow : ∀ q, u6.ownBlock = some q → q < wr.heap.size := fun q hq => (hown.lt q hq).2
        have HRW := Lib.hid hrow
        clear H E EB h0 hlr ho1 hown hrow
        go_wp2_with (first | (at_builtin; refine wpList_append1g _ rfl _ _ 51 rfl w.heap.size 22 i0 _ 1 24 Tryd.underlying51 Hi0.out Hz0.out Hz1.out Hz2.out rfl (by decide) _ k us rfl hown1 #[.slice A1 (linesOf x).length c1] rfl rfl (one_slc _ _ _) (by omega) (by decide) (by omega) ?_; intro v1 w2 hown2 hb3 hgr hat))
        go_roundw
        case rel => exact ⟨k + 1, us ++ [.slice A1 (linesOf x).length c1], by omega, by rw [List.length_append, HUL.out]; rfl, by go_num, by simpa using hown2, Lib.hid (fun i u t hi ht => by
            rcases Nat.lt_or_ge i k with h | h
            · rw [List.getElem?_append_left (by rw [HUL.out]; exact h)] at hi
              exact ((HU.out i u t hi ht).below hb2).grown hgr (hat.imp id (fun h => ⟨_, Nat.le_succ _, h⟩))
            · have hik : i = k := by
                rcases Nat.lt_or_ge k i with h' | h'
                · rw [List.getElem?_eq_none (by rw [List.length_append, HUL.out]; simp; omega)] at hi; cases hi
                · omega
              subst hik
              rw [List.getElem?_append_right (by rw [HUL.out]; exact Nat.le_refl _), HUL.out, Nat.sub_self] at hi
              injection hi with hi
              subst hi
              rw [HT.out] at ht
              injection ht with ht
              subst ht
              exact (SlN.of_own HO1.out HRW.out).grown hgr (hat.imp id (fun h => ⟨_, Nat.le_succ _, h⟩))), hbb.trans hb3, HE1⟩
        case measure => simp [intOf]; omega
    · have h0 : splitErr ts = 0 := by rw [H.out, List.drop_eq_nil_of_le (by omega)]; rfl
      have HL2 : Hid (LL wr wr.heap.size u6 (splitOf ts)) := Lib.hid (by
        obtain ⟨v, hv, hl, _⟩ := split_ok (w := w) h0 (show k = ts.length by omega) hu (Slc.of_own hown) HU.out hb
        injection hv with hv
        injection hv with hv
        have e1 : u6 = v := by injection (congrArg Array.toList hv)
        rw [e1]
        unfold splitRes at hl; rw [if_pos h0] at hl; exact hl)
      have HSH := Lib.hid (split_short h0)
      have HAE : Hid (applyErr ts es = if 24 < es.length then 7 else checksErr (splitOf ts) [] es) := Lib.hid (by unfold applyErr; rw [if_pos h0])
      have hsl : (splitOf ts).length ≤ 1000000 := by unfold splitOf; rw [List.length_map]; exact hn
      clear h0 H HU hown hu
      obtain ⟨w1, rfl⟩ : ∃ w1 : World, w1 = wr := ⟨_, rfl⟩
      by_cases h24 : 24 < es.length
      · have HR : Hid (applyErr ts es = 7) := Lib.hid (by rw [HAE.out, if_pos h24])
        go_wp2_with fail
        go_ret2
        exact apply_bad HR.out (by decide) hb
      have HR : Hid (applyErr ts es = checksErr (splitOf ts) (es.take 0) (es.drop 0)) := Lib.hid (by rw [HAE.out, if_neg h24]; rfl)
      clear HAE
      have HSS : Hid (Short (splitOf ts)) := Lib.hid (fun ls h => ⟨Nat.le_trans (HSH.out ls h).1 (by decide), fun l hl => Nat.le_trans ((HSH.out ls h).2 l hl) (by decide)⟩)
      generalize hq : splitOf ts = lss at *
      have HQ := Lib.hid hq
      clear hq
      obtain ⟨Al, cl, rfl⟩ := HL2.out.form
      have d24 : decide ((24 : Int) < es.length) = false := decide_eq_false (by omega)
      have HE1 : Hid (EL w1 w.heap.size (.slice Ae es.length ce) es) := Lib.hid (HE.out.below hb)
      go_wp2_with fail
      go_loopw [4, 5, 10, 11] (fun _ _ ix _ wr => ∃ i : Nat, i ≤ es.length ∧ ix = .int .i64 i ∧ w1.heap.size ≤ wr.heap.size ∧ Below w1.heap.size w1 wr ∧ Hid (applyErr ts es = checksErr lss (es.take i) (es.drop i))) (fun _ _ ix _ _ => es.length - (intOf ix).toNat)
      case atStart => exact ⟨0, by omega, rfl, Nat.le_refl _, Below.refl _ _, HR⟩
      case round =>
        clear HR
        obtain ⟨i, hi, rfl, hz, hb2, HR⟩ := hrel
        by_cases hlt2 : i < es.length
        · have HCK := Lib.hid (rcheck_any _ _ lss es i wr ((HL2.out.below hb2).mono hz) ((HE1.out.below (hb2.mono hsz)).mono (Nat.le_trans hsz hz)) he hlt2 HSS.out (Nat.le_trans (HTX.out _ (List.getElem_mem hlt2)) (by decide)))
          have HST := Lib.hid (checks_step (lss := lss) hlt2)
          generalize checkErr lss (es.take i) es[i] = ck at HCK HST
          unfold CheckPost at HCK
          go_wp2_with fail
          refine HCK.out.mono ?_
          rintro e w2 ⟨rfl, hb3⟩
          have hz2 : w1.heap.size ≤ w2.heap.size := Nat.le_trans hz hb3.size
          have hb4 : Below w1.heap.size w1 w2 := hb2.trans (hb3.mono hz)
          cases hck : (ck != 0) with
          | true =>
            have hne : ¬ ck = 0 := by simpa using hck
            have HRR : Hid (applyErr ts es = ck) := Lib.hid (by rw [HR.out, HST.out, if_neg hne])
            have HNE := Lib.hid hne
            clear hne
            go_wp2_with fail
            go_ret2
            exact apply_bad HRR.out HNE.out (hb.trans (hb4.mono hsz))
          | false =>
            have h0 : ck = 0 := by simpa using hck
            have HRR : Hid (applyErr ts es = checksErr lss (es.take (i + 1)) (es.drop (i + 1))) := Lib.hid (by rw [HR.out, HST.out, if_pos h0])
            clear h0
            go_wp2_with fail
            go_roundw
            case rel => exact ⟨i + 1, by omega, by go_num, hz2, hb4, HRR⟩
            case measure => simp [intOf]; omega
        · have HR0 : Hid (applyErr ts es = 0) := Lib.hid (by rw [HR.out, List.drop_eq_nil_of_le (by omega)]; rfl)
          clear HR
          have HL3 : Hid (LL wr w1.heap.size (.slice Al lss.length cl) lss) := Lib.hid (HL2.out.below hb2)
          have HE3 : Hid (EL wr w.heap.size (.slice Ae es.length ce) es) := Lib.hid (HE1.out.below (hb2.mono hsz))
          have hb3 : Below w.heap.size w wr := hb.trans (hb2.mono hsz)
          obtain ⟨wo, rfl⟩ : ∃ wo : World, wo = wr := ⟨_, rfl⟩
          clear HL2 HE1
          go_wp2_with fail
          go_loopw [12, 13] (fun v ix wr => ∃ m : Nat, m ≤ lss.length ∧ ix = .int .i64 m ∧ wr.ownsRow wo.heap.size 9 1 v m (((rwAll lss es 0).take m).map strV) ∧ wo.heap.size ≤ wr.heap.size ∧ Below wo.heap.size wo wr) (fun _ ix _ => lss.length - (intOf ix).toNat)
          case atStart => exact ⟨0, by omega, rfl, World.ownsRow_nil _ _ _ _, Nat.le_refl _, Below.refl _ _⟩
          case round =>
            obtain ⟨m, hm, rfl, hown, hz4, hb4⟩ := hrel
            by_cases hlt3 : m < lss.length
            · obtain ⟨g, o, u, eA, hg, c1, hsl2⟩ := (HL3.out.below (hb4.mono hz)).at hlt3
              have hmem := List.getElem_mem hlt3
              have HRW := Lib.hid (changed_any u (.slice Ae es.length ce) lss[m] es m wr (hsl2.mono (Nat.le_trans hz hz4)) (((HE3.out.below (hb4.mono (Nat.le_trans hsz hz))).mono (Nat.le_trans hsz (Nat.le_trans hz hz4)))) (Nat.le_trans (HSH.out _ hmem).1 (by decide)) (fun l hl => Nat.le_trans ((HSH.out _ hmem).2 l hl) (by decide)) (by omega) HTX.out)
              have HG := Lib.hid (rwAll_take (es := es) hlt3)
              generalize rewriteOf lss[m] es (m : Int) = r at HRW HG
              subst eA
              have HOW := Lib.hid hown
              clear hsl2 hmem hown
              go_wp2_with fail
              refine HRW.out.mono ?_
              rintro e w4 ⟨rfl, hb5⟩
              have hown5 := own_below HOW.out hb5
              have hz6 : wo.heap.size ≤ w4.heap.size := Nat.le_trans hz4 hb5.size
              have hb6 : Below wo.heap.size wo w4 := hb4.trans (hb5.mono hz4)
              go_wp2_with (first | (at_builtin; refine wpList_append1 _ rfl _ _ 22 rfl wo.heap.size 9 j0 _ 1 16 Tryd.underlying22 Hj0.out Hy0.out Hy1.out Hy2.out rfl (by decide) _ m (((rwAll lss es 0).take m).map strV) rfl hown5 #[.string (str r)] rfl rfl (one_str _) (by omega) (by decide) hz6 ?_; intro v1 w5 hown6 hb7))
              go_roundw
              case rel => exact ⟨m + 1, by omega, by go_num, by rw [HG.out, List.map_append]; exact hown6, Nat.le_trans hz6 hb7.size, hb6.trans hb7⟩
              case measure => simp [intOf]; omega
            · have HF : Hid (Sl wr wr.heap.size u12 (rwAll (splitOf ts) es 0)) := Lib.hid (by
                rw [HQ.out]
                have h := hown
                rw [List.take_of_length_le (by rw [rwAll_len]; omega)] at h
                exact Sl.of_own (by rw [rwAll_len, ← (show m = lss.length by omega)]; exact h))
              clear hown
              go_wp2_with fail
              go_ret2
              exact apply_ok HR0.out HF.out (hb3.trans (hb4.mono (Nat.le_trans hsz hz)))
end Go.Proofs.YtpclacofcfbpjaaDoor
