/- The walk of edit.rewrite. Conditions: MaxLen's cell; at most 10^5 lines of at most 10^5 bytes, at most 24 edits with texts of at most 10^6 bytes. -/
import Derived.Test.YtpclacofcfbpjaaDoorEditK
namespace Go.Proofs.YtpclacofcfbpjaaDoor
open Go.RowKit

theorem bAt_below {T e : TypeId} {B b : Nat} {p : Value} {bs : List Value} {w w' : World} (h : Lib.BuilderAt T e B b p bs w) (hb : Below w.heap.size w w') : Lib.BuilderAt T e B b p bs w' := by
  obtain ⟨hB, v, hbk, hown, hne⟩ := h
  have hlt : b < w.heap.size := by
    rcases Nat.lt_or_ge b w.heap.size with h' | h'
    · exact h'
    · simp [Array.getElem?_eq_none h'] at hbk
  exact ⟨hB, v, (hb.block b hlt).trans hbk, own_below hown hb, hne⟩
theorem isB_below {B b : Nat} {bs : List Value} {w w' : World} (h : IsB B b bs w) (hb : Below w.heap.size w w') : IsB B b bs w' :=
  h.elim (fun h => .inl (bAt_below h hb)) (fun h => .inr (bAt_below h hb))
theorem isB_alloc {B b : Nat} {bs : List Value} {w : World} (h : IsB B b bs w) (o : Obj) : IsB B b bs (w.alloc o) := isB_below h (below_box w o)
theorem byte_app (a b : List UInt8) : Lib.byteCells (a ++ b) = Lib.byteCells a ++ Lib.byteCells b := by simp [Lib.byteCells]
theorem wstr (B b : Nat) (acc : List UInt8) (s : ByteArray) (w : World) (h : IsB B b (Lib.byteCells acc) w) (hlen : acc.length + s.size ≤ 140737488355328) (hBw : B ≤ w.heap.size) :
    Calls Tryd.prog 40 #[.pointer (some ⟨b, 0, none⟩), .string s] w fun e w' => e = .returned (.tuple #[.int .i64 s.size, .nilIface]) ∧ IsB B b (Lib.byteCells (acc ++ bytes s)) w' ∧ Below B w w' := by
  refine (writeString_any B b _ s w h (by rw [Lib.byteCells_length]; exact hlen) hBw).mono ?_
  rintro e w' ⟨rfl, h1, h2⟩
  exact ⟨rfl, .inr (by rw [byte_app]; exact h1), h2⟩
theorem wnl (B b : Nat) (acc : List UInt8) (w : World) (h : IsB B b (Lib.byteCells acc) w) (hlen : acc.length + 1 ≤ 140737488355328) (hBw : B ≤ w.heap.size) :
    Calls Tryd.prog 41 #[.pointer (some ⟨b, 0, none⟩), .int .u8 10] w fun e w' => e = .returned .nilIface ∧ IsB B b (Lib.byteCells (acc ++ [10])) w' ∧ Below B w w' := by
  refine (writeByte_any B b _ 10 w h (by rw [Lib.byteCells_length]; exact hlen) hBw).mono ?_
  rintro e w' ⟨rfl, h1, h2⟩
  exact ⟨rfl, .inr (by rw [byte_app]; exact h1), h2⟩
theorem rw_skip {ls : List (List UInt8)} {cfg : Int} {k : Nat} {s : RwSt} {x : Ed} (h : ¬ x.cfg = cfg ∨ ¬ x.line = k + 1) : rwStep ls cfg k s x = s := by unfold rwStep; rw [if_pos h]
theorem rw_ins {ls : List (List UInt8)} {cfg : Int} {k : Nat} {s : RwSt} {x : Ed} (h1 : x.cfg = cfg) (h2 : x.line = k + 1) (h3 : x.kind = 3) : rwStep ls cfg k s x = { s with out := s.out ++ x.text ++ [10] } := by unfold rwStep; simp [h1, h2, h3]
theorem rw_flp {ls : List (List UInt8)} {cfg : Int} {k : Nat} {s : RwSt} {x : Ed} (h1 : x.cfg = cfg) (h2 : x.line = k + 1) (h3 : x.kind = 2) : rwStep ls cfg k s x = { s with line := (flipI ls k).getD [] } := by unfold rwStep; simp [h1, h2, h3]
theorem rw_del {ls : List (List UInt8)} {cfg : Int} {k : Nat} {s : RwSt} {x : Ed} (h1 : x.cfg = cfg) (h2 : x.line = k + 1) (h3 : x.kind = 1) : rwStep ls cfg k s x = { s with keep := false } := by unfold rwStep; simp [h1, h2, h3]
theorem rw_oth {ls : List (List UInt8)} {cfg : Int} {k : Nat} {s : RwSt} {x : Ed} (h3 : ¬ x.kind = 3) (h4 : ¬ x.kind = 2) (h5 : ¬ x.kind = 1) : rwStep ls cfg k s x = s := by
  unfold rwStep; simp [h3, h4, h5]
theorem fold_step {ls : List (List UInt8)} {cfg : Int} {k q : Nat} {es : List Ed} {s : RwSt} (h : q < es.length) : (es.drop q).foldl (rwStep ls cfg k) s = (es.drop (q + 1)).foldl (rwStep ls cfg k) (rwStep ls cfg k s es[q]) := by
  rw [list_step es q h]; rfl
theorem flip_short {ls : List (List UInt8)} {k : Int} (h : ∀ l ∈ ls, l.length ≤ 100000) : ((flipI ls k).getD []).length ≤ 100007 := by
  cases hf : flipI ls k with
  | none => simp
  | some r =>
    obtain ⟨l, hl, h1⟩ := flip_len hf
    have := h l hl
    simp; omega
theorem rw_bound {ls : List (List UInt8)} {cfg : Int} {k : Nat} (hl : ∀ l ∈ ls, l.length ≤ 100000) : ∀ (es : List Ed) (s : RwSt), (∀ x ∈ es, x.text.length ≤ 1000000) → s.line.length ≤ 100007 →
    (es.foldl (rwStep ls cfg k) s).out.length ≤ s.out.length + es.length * 1000001 ∧ (es.foldl (rwStep ls cfg k) s).line.length ≤ 100007 := by
  intro es
  induction es with
  | nil => intro s _ h; exact ⟨by simp, h⟩
  | cons x r ih =>
    intro s ht h
    have hx := ht x (by simp)
    have hs : (rwStep ls cfg k s x).out.length ≤ s.out.length + 1000001 ∧ (rwStep ls cfg k s x).line.length ≤ 100007 := by
      unfold rwStep
      split
      · exact ⟨by omega, h⟩
      · split
        · exact ⟨by simp; omega, h⟩
        · split
          · exact ⟨by simp, flip_short hl⟩
          · split
            · exact ⟨by simp, h⟩
            · exact ⟨by omega, h⟩
    obtain ⟨a, b⟩ := ih (rwStep ls cfg k s x) (fun y hy => ht y (by simp [hy])) hs.2
    refine ⟨?_, b⟩
    simp only [List.foldl_cons, List.length_cons]
    omega
theorem start_short {ls : List (List UInt8)} {k : Nat} (hl : ∀ l ∈ ls, l.length ≤ 100000) : (rwStart ls k).line.length ≤ 100007 := by
  unfold rwStart
  simp only [List.getD_eq_getElem?_getD]
  cases h : ls[k]? with
  | none => simp
  | some x => have := hl x (List.mem_of_getElem? h); simp; omega
theorem rwPos_len {ls : List (List UInt8)} {es : List Ed} {cfg : Int} {k : Nat} (hl : ∀ l ∈ ls, l.length ≤ 100000) (ht : ∀ x ∈ es, x.text.length ≤ 1000000) (he : es.length ≤ 24) : (rwPos ls es cfg k).length ≤ 100000000 := by
  obtain ⟨a, b⟩ := rw_bound (cfg := cfg) (k := k) hl es (rwStart ls k) ht (start_short hl)
  have : (rwStart ls k).out.length = 0 := rfl
  unfold rwPos rwEnd
  split
  · simp only [List.length_append, List.length_cons, List.length_nil]; omega
  · omega
theorem rwUpto_len {ls : List (List UInt8)} {es : List Ed} {cfg : Int} (hl : ∀ l ∈ ls, l.length ≤ 100000) (ht : ∀ x ∈ es, x.text.length ≤ 1000000) (he : es.length ≤ 24) : ∀ k, (rwUpto ls es cfg k).length ≤ 100000000 * k := by
  intro k
  induction k with
  | zero => simp [rwUpto]
  | succ k ih =>
    rw [rwUpto_succ, List.length_append]
    have := rwPos_len (cfg := cfg) (k := k) hl ht he
    omega
theorem rw_done {ls : List (List UInt8)} {es : List Ed} {cfg : Int} {k : Nat} {s : RwSt} (h : es.foldl (rwStep ls cfg k) (rwStart ls k) = s) : rwUpto ls es cfg (k + 1) = rwUpto ls es cfg k ++ rwEnd s := by
  rw [rwUpto_succ, rwPos, h]
theorem end_keep (o l : List UInt8) : rwEnd ⟨o, l, true⟩ = o ++ l ++ [10] := rfl
theorem end_drop (o l : List UInt8) : rwEnd ⟨o, l, false⟩ = o := rfl

set_option maxRecDepth 100000 in
set_option maxHeartbeats 4000000 in
theorem rewrite_any (vl ve : Value) (ls : List (List UInt8)) (es : List Ed) (cfg : Int) (w : World) (hL : Sl w w.heap.size vl ls) (hE : EL w w.heap.size ve es) (hM : MaxCell w) (hn : ls.length ≤ 100000) (hl : ∀ l ∈ ls, l.length ≤ 100000)
    (he : es.length ≤ 24) (ht : ∀ x ∈ es, x.text.length ≤ 1000000) :
    Calls Tryd.prog 29 #[vl, ve, .int .i64 cfg] w fun e w' => e = .returned (.string (str (rewriteOf ls es cfg))) ∧ Below w.heap.size w w' := by
  obtain ⟨A, c, rfl, hc, hb1, hS⟩ := hL.form
  obtain ⟨Ae, ce, rfl, hce, heb⟩ := hE.form
  have HS := Lib.hid hS
  have HE := Lib.hid hE
  have HM := Lib.hid hM
  have HFL := Lib.hid (fun (w' : World) (k : Int) (h1 : w.heap.size ≤ w'.heap.size) (h2 : Below w.heap.size w w') (h3 : MaxCell w') => flip_any _ _ _ ls k w' ((hS.below h2).mono h1) rfl (fun l h => Nat.le_trans (hl l h) (by decide)) h3 hc)
  have HUL := Lib.hid (fun k => rwUpto_len (cfg := cfg) hl ht he k)
  have HFS := Lib.hid (fun k => flip_short (k := k) hl)
  have HTX := Lib.hid ht
  have HLS := Lib.hid hl
  clear hL hE hM hS ht hl
  go_enter Tryd.func29, Tryd.ntmps29
  go_wp2_with fail
  go_loopw [8, 9, 10, 12, 30] (fun ix _ _ _ _ wr => ∃ k : Nat, k ≤ ls.length + 1 ∧ ix = .int .i64 k ∧ IsB w.heap.size w.heap.size (Lib.byteCells (rwUpto ls es cfg k)) wr ∧ w.heap.size ≤ wr.heap.size ∧ Below w.heap.size w wr) (fun ix _ _ _ _ _ => ls.length + 1 - (intOf ix).toNat)
  case atStart => exact ⟨0, by omega, rfl, Lib.fresh_isBuilder _ _ w, by simp, below_box _ _⟩
  case round =>
    obtain ⟨k, hk, rfl, hB, hz, hb⟩ := hrel
    by_cases hlt : k ≤ ls.length
    · have hul := HUL.out k
      have ST : Hid (es.foldl (rwStep ls cfg k) (rwStart ls k) = (es.drop 0).foldl (rwStep ls cfg k) (rwStart ls k)) := Lib.hid rfl
      obtain ⟨wo, rfl⟩ : ∃ wo : World, wo = wr := ⟨_, rfl⟩
      have HBO := Lib.hid hB
      clear hB
      by_cases hkn : k < ls.length
      · obtain ⟨g, o, eA, hg, c1⟩ := slc_at (HS.out.below hb) rfl hkn
        have hx : (ls[k]).length ≤ 100000 := HLS.out _ (List.getElem_mem hkn)
        have e0 : rwStart ls k = ⟨[], ls[k], true⟩ := by unfold rwStart; simp [hkn, List.getD_eq_getElem?_getD]
        replace ST : Hid (es.foldl (rwStep ls cfg k) (rwStart ls k) = (es.drop 0).foldl (rwStep ls cfg k) ⟨[], ls[k], true⟩) := Lib.hid (by rw [ST.out, ← e0])
        clear e0
        generalize ls[k] = x at c1 hx ST
        unfold strV at c1
        subst eA
        have d1 : decide (k < ls.length) = true := decide_eq_true hkn
        go_wp2_with fail
        go_loopw [9, 10, 12, 30] (fun kp ln _ ix wi => ∃ (q : Nat) (so sl : List UInt8) (sk : Bool), q ≤ es.length ∧ ix = .int .i64 q ∧ kp = .bool sk ∧ ln = .string (str sl) ∧ so.length ≤ 1000001 * q ∧ sl.length ≤ 100007 ∧
            Hid (IsB w.heap.size w.heap.size (Lib.byteCells (rwUpto ls es cfg k ++ so)) wi) ∧ w.heap.size ≤ wi.heap.size ∧ Below w.heap.size w wi ∧ Hid (es.foldl (rwStep ls cfg k) (rwStart ls k) = (es.drop q).foldl (rwStep ls cfg k) ⟨so, sl, sk⟩)) (fun _ _ _ ix _ => es.length - (intOf ix).toNat)
        case atStart => exact ⟨0, [], x, true, by omega, rfl, rfl, rfl, by simp, by omega, by rw [List.append_nil]; exact HBO, hz, hb, Lib.hid (ST.out)⟩
        case round =>
          clear HBO hz hb ST c1
          obtain ⟨q, so, sl, sk, hq, rfl, rfl, rfl, hso, hsl, HB, hz, hb, ST⟩ := hrel
          have hal : (rwUpto ls es cfg k ++ so).length ≤ 20000000000000 := by rw [List.length_append]; omega
          by_cases hlt2 : q < es.length
          · obtain ⟨ge, oe, eE, hge, x0, x1, x2, x3⟩ := (HE.out.below hb).at hlt2
            have E := Lib.hid (fold_step (ls := ls) (cfg := cfg) (k := k) (s := ⟨so, sl, sk⟩) hlt2)
            have htx := HTX.out _ (List.getElem_mem hlt2)
            generalize es[q] = y at x0 x1 x2 x3 E htx
            obtain ⟨yc, yl, yk, yt⟩ := y
            simp only at x0 x1 x2 x3 htx
            unfold strV at x3
            subst eE
            cases h1 : (yc != cfg) with
            | true =>
              have HN : Hid (rwStep ls cfg k ⟨so, sl, sk⟩ ⟨yc, yl, yk, yt⟩ = ⟨so, sl, sk⟩) := Lib.hid (rw_skip (.inl (by simpa using h1)))
              go_wp2_with fail
              go_roundw
              case rel => exact ⟨q + 1, so, sl, sk, by omega, by go_num, rfl, rfl, by omega, hsl, Lib.hid (isB_alloc HB.out _), by simp; omega, hb.alloc hz _, Lib.hid (by rw [ST.out, E.out, HN.out])⟩
              case measure => simp [intOf]; omega
            | false =>
              cases h2 : (yl != (k : Int) + 1) with
              | true =>
                have HN : Hid (rwStep ls cfg k ⟨so, sl, sk⟩ ⟨yc, yl, yk, yt⟩ = ⟨so, sl, sk⟩) := Lib.hid (rw_skip (.inr (by simpa using h2)))
                go_wp2_with fail
                go_roundw
                case rel => exact ⟨q + 1, so, sl, sk, by omega, by go_num, rfl, rfl, by omega, hsl, Lib.hid (isB_alloc HB.out _), by simp; omega, hb.alloc hz _, Lib.hid (by rw [ST.out, E.out, HN.out])⟩
                case measure => simp [intOf]; omega
              | false =>
                have hc1 : yc = cfg := by simpa using h1
                have hl1 : yl = (k : Int) + 1 := by simpa using h2
                have HC1 := Lib.hid hc1
                have HL1 := Lib.hid hl1
                clear hc1 hl1
                by_cases hk3 : yk = 3
                · subst hk3
                  have HN : Hid (rwStep ls cfg k ⟨so, sl, sk⟩ ⟨yc, yl, 3, yt⟩ = ⟨so ++ yt ++ [10], sl, sk⟩) := Lib.hid (rw_ins HC1.out HL1.out rfl)
                  go_wp2_with fail
                  refine (wstr _ _ _ _ _ (isB_alloc HB.out _) (by rw [str_size]; omega) (by simp; omega)).mono ?_
                  rintro e w1 ⟨rfl, HB1, hb2⟩
                  rw [bytes_str] at HB1
                  have hz1 : w.heap.size ≤ w1.heap.size := by have := hb2.size; simp at this; omega
                  have HB2 := Lib.hid HB1
                  clear HB1
                  go_wp2_with fail
                  refine (wnl _ _ _ _ HB2.out (by rw [List.length_append]; omega) hz1).mono ?_
                  rintro e w2 ⟨rfl, HB3, hb3⟩
                  have HB4 := Lib.hid HB3
                  clear HB3
                  go_wp2_with fail
                  go_roundw
                  case rel => exact ⟨q + 1, so ++ yt ++ [10], sl, sk, by omega, by go_num, rfl, rfl, by simp only [List.length_append, List.length_cons, List.length_nil]; omega, hsl, Lib.hid (by rw [← List.append_assoc, ← List.append_assoc]; exact HB4.out), Nat.le_trans hz1 hb3.size, ((hb.alloc hz _).trans hb2).trans hb3, Lib.hid (by rw [ST.out, E.out, HN.out])⟩
                  case measure => simp [intOf]; omega
                have n3 : (yk == 3) = false := beq_false_of_ne hk3
                by_cases hk2 : yk = 2
                · subst hk2
                  have HN : Hid (rwStep ls cfg k ⟨so, sl, sk⟩ ⟨yc, yl, 2, yt⟩ = ⟨so, (flipI ls k).getD [], sk⟩) := Lib.hid (rw_flp HC1.out HL1.out rfl)
                  have hfs := HFS.out (k : Int)
                  clear n3 hk3
                  have HBX := Lib.hid (hb.alloc hz (.cells #[.int .i64 yc, .int .i64 yl, .int .i64 2, .string (str yt)] 32))
                  have hzx : w.heap.size ≤ (wr.alloc (.cells #[.int .i64 yc, .int .i64 yl, .int .i64 2, .string (str yt)] 32)).heap.size := by simp; omega
                  go_wp2_with fail
                  refine (HFL.out _ _ (by simp; omega) HBX.out (HM.out.below HBX.out)).mono ?_
                  rintro e w1 ⟨rfl, hb2⟩
                  have HB1 : Hid (IsB w.heap.size w.heap.size (Lib.byteCells (rwUpto ls es cfg k ++ so)) w1) := Lib.hid (isB_below (isB_alloc HB.out _) hb2)
                  have hz1 : w.heap.size ≤ w1.heap.size := by have := hb2.size; simp at this; omega
                  have hb3 : Below w.heap.size w w1 := HBX.out.trans (hb2.mono (by simp; omega))
                  clear hb2
                  unfold flipV
                  go_wp2_with fail
                  go_roundw
                  case rel => exact ⟨q + 1, so, (flipI ls k).getD [], sk, by omega, by go_num, rfl, rfl, by omega, hfs, HB1, hz1, hb3, Lib.hid (by rw [ST.out, E.out, HN.out])⟩
                  case measure => simp [intOf]; omega
                have n2 : (yk == 2) = false := beq_false_of_ne hk2
                by_cases hk1 : yk = 1
                · subst hk1
                  have HN : Hid (rwStep ls cfg k ⟨so, sl, sk⟩ ⟨yc, yl, 1, yt⟩ = ⟨so, sl, false⟩) := Lib.hid (rw_del HC1.out HL1.out rfl)
                  clear n3 n2 hk3 hk2
                  go_wp2_with fail
                  go_roundw
                  case rel => exact ⟨q + 1, so, sl, false, by omega, by go_num, rfl, rfl, by omega, hsl, Lib.hid (isB_alloc HB.out _), by simp; omega, hb.alloc hz _, Lib.hid (by rw [ST.out, E.out, HN.out])⟩
                  case measure => simp [intOf]; omega
                have n1 : (yk == 1) = false := beq_false_of_ne hk1
                have HN : Hid (rwStep ls cfg k ⟨so, sl, sk⟩ ⟨yc, yl, yk, yt⟩ = ⟨so, sl, sk⟩) := Lib.hid (rw_oth hk3 hk2 hk1)
                go_wp2_with fail
                go_roundw
                case rel => exact ⟨q + 1, so, sl, sk, by omega, by go_num, rfl, rfl, by omega, hsl, Lib.hid (isB_alloc HB.out _), by simp; omega, hb.alloc hz _, Lib.hid (by rw [ST.out, E.out, HN.out])⟩
                case measure => simp [intOf]; omega
          · have HD : Hid (rwUpto ls es cfg (k + 1) = rwUpto ls es cfg k ++ rwEnd ⟨so, sl, sk⟩) := Lib.hid (rw_done (by rw [ST.out, List.drop_eq_nil_of_le (by omega)]; rfl))
            clear ST
            cases sk with
            | false =>
              rw [end_drop] at HD
              go_wp2_with fail
              go_roundw
              case rel => exact ⟨k + 1, by omega, by go_num, by rw [HD.out]; exact HB.out, hz, hb⟩
              case measure => simp [intOf]; omega
            | true =>
              rw [end_keep] at HD
              go_wp2_with fail
              refine (wstr _ _ _ _ _ HB.out (by rw [str_size]; omega) hz).mono ?_
              rintro e w1 ⟨rfl, HB1, hb2⟩
              rw [bytes_str] at HB1
              have hz1 : w.heap.size ≤ w1.heap.size := Nat.le_trans hz hb2.size
              have HB2 := Lib.hid HB1
              clear HB1
              go_wp2_with fail
              refine (wnl _ _ _ _ HB2.out (by rw [List.length_append]; omega) hz1).mono ?_
              rintro e w2 ⟨rfl, HB3, hb3⟩
              have HB4 := Lib.hid HB3
              clear HB3
              go_wp2_with fail
              go_roundw
              case rel => exact ⟨k + 1, by omega, by go_num, by rw [HD.out, ← List.append_assoc, ← List.append_assoc]; exact HB4.out, Nat.le_trans hz1 hb3.size, (hb.trans hb2).trans hb3⟩
              case measure => simp [intOf]; omega
      · have e0 : rwStart ls k = ⟨[], [], false⟩ := by unfold rwStart; simp [hkn, List.getD_eq_getElem?_getD]
        replace ST : Hid (es.foldl (rwStep ls cfg k) (rwStart ls k) = (es.drop 0).foldl (rwStep ls cfg k) ⟨[], [], false⟩) := Lib.hid (by rw [ST.out, ← e0])
        clear e0
        have d1 : decide (k < ls.length) = false := decide_eq_false hkn
        go_wp2_with fail
        go_loopw [9, 10, 12, 30] (fun kp ln _ ix wi => ∃ (q : Nat) (so sl : List UInt8) (sk : Bool), q ≤ es.length ∧ ix = .int .i64 q ∧ kp = .bool sk ∧ ln = .string (str sl) ∧ so.length ≤ 1000001 * q ∧ sl.length ≤ 100007 ∧
            Hid (IsB w.heap.size w.heap.size (Lib.byteCells (rwUpto ls es cfg k ++ so)) wi) ∧ w.heap.size ≤ wi.heap.size ∧ Below w.heap.size w wi ∧ Hid (es.foldl (rwStep ls cfg k) (rwStart ls k) = (es.drop q).foldl (rwStep ls cfg k) ⟨so, sl, sk⟩)) (fun _ _ _ ix _ => es.length - (intOf ix).toNat)
        case atStart => exact ⟨0, [], [], false, by omega, rfl, rfl, rfl, by simp, by simp, by rw [List.append_nil]; exact HBO, hz, hb, Lib.hid (ST.out)⟩
        case round =>
          clear HBO hz hb ST
          obtain ⟨q, so, sl, sk, hq, rfl, rfl, rfl, hso, hsl, HB, hz, hb, ST⟩ := hrel
          have hal : (rwUpto ls es cfg k ++ so).length ≤ 20000000000000 := by rw [List.length_append]; omega
          by_cases hlt2 : q < es.length
          · obtain ⟨ge, oe, eE, hge, x0, x1, x2, x3⟩ := (HE.out.below hb).at hlt2
            have E := Lib.hid (fold_step (ls := ls) (cfg := cfg) (k := k) (s := ⟨so, sl, sk⟩) hlt2)
            have htx := HTX.out _ (List.getElem_mem hlt2)
            generalize es[q] = y at x0 x1 x2 x3 E htx
            obtain ⟨yc, yl, yk, yt⟩ := y
            simp only at x0 x1 x2 x3 htx
            unfold strV at x3
            subst eE
            cases h1 : (yc != cfg) with
            | true =>
              have HN : Hid (rwStep ls cfg k ⟨so, sl, sk⟩ ⟨yc, yl, yk, yt⟩ = ⟨so, sl, sk⟩) := Lib.hid (rw_skip (.inl (by simpa using h1)))
              go_wp2_with fail
              go_roundw
              case rel => exact ⟨q + 1, so, sl, sk, by omega, by go_num, rfl, rfl, by omega, hsl, Lib.hid (isB_alloc HB.out _), by simp; omega, hb.alloc hz _, Lib.hid (by rw [ST.out, E.out, HN.out])⟩
              case measure => simp [intOf]; omega
            | false =>
              cases h2 : (yl != (k : Int) + 1) with
              | true =>
                have HN : Hid (rwStep ls cfg k ⟨so, sl, sk⟩ ⟨yc, yl, yk, yt⟩ = ⟨so, sl, sk⟩) := Lib.hid (rw_skip (.inr (by simpa using h2)))
                go_wp2_with fail
                go_roundw
                case rel => exact ⟨q + 1, so, sl, sk, by omega, by go_num, rfl, rfl, by omega, hsl, Lib.hid (isB_alloc HB.out _), by simp; omega, hb.alloc hz _, Lib.hid (by rw [ST.out, E.out, HN.out])⟩
                case measure => simp [intOf]; omega
              | false =>
                have hc1 : yc = cfg := by simpa using h1
                have hl1 : yl = (k : Int) + 1 := by simpa using h2
                have HC1 := Lib.hid hc1
                have HL1 := Lib.hid hl1
                clear hc1 hl1
                by_cases hk3 : yk = 3
                · subst hk3
                  have HN : Hid (rwStep ls cfg k ⟨so, sl, sk⟩ ⟨yc, yl, 3, yt⟩ = ⟨so ++ yt ++ [10], sl, sk⟩) := Lib.hid (rw_ins HC1.out HL1.out rfl)
                  go_wp2_with fail
                  refine (wstr _ _ _ _ _ (isB_alloc HB.out _) (by rw [str_size]; omega) (by simp; omega)).mono ?_
                  rintro e w1 ⟨rfl, HB1, hb2⟩
                  rw [bytes_str] at HB1
                  have hz1 : w.heap.size ≤ w1.heap.size := by have := hb2.size; simp at this; omega
                  have HB2 := Lib.hid HB1
                  clear HB1
                  go_wp2_with fail
                  refine (wnl _ _ _ _ HB2.out (by rw [List.length_append]; omega) hz1).mono ?_
                  rintro e w2 ⟨rfl, HB3, hb3⟩
                  have HB4 := Lib.hid HB3
                  clear HB3
                  go_wp2_with fail
                  go_roundw
                  case rel => exact ⟨q + 1, so ++ yt ++ [10], sl, sk, by omega, by go_num, rfl, rfl, by simp only [List.length_append, List.length_cons, List.length_nil]; omega, hsl, Lib.hid (by rw [← List.append_assoc, ← List.append_assoc]; exact HB4.out), Nat.le_trans hz1 hb3.size, ((hb.alloc hz _).trans hb2).trans hb3, Lib.hid (by rw [ST.out, E.out, HN.out])⟩
                  case measure => simp [intOf]; omega
                have n3 : (yk == 3) = false := beq_false_of_ne hk3
                by_cases hk2 : yk = 2
                · subst hk2
                  have HN : Hid (rwStep ls cfg k ⟨so, sl, sk⟩ ⟨yc, yl, 2, yt⟩ = ⟨so, (flipI ls k).getD [], sk⟩) := Lib.hid (rw_flp HC1.out HL1.out rfl)
                  have hfs := HFS.out (k : Int)
                  clear n3 hk3
                  have HBX := Lib.hid (hb.alloc hz (.cells #[.int .i64 yc, .int .i64 yl, .int .i64 2, .string (str yt)] 32))
                  have hzx : w.heap.size ≤ (wr.alloc (.cells #[.int .i64 yc, .int .i64 yl, .int .i64 2, .string (str yt)] 32)).heap.size := by simp; omega
                  go_wp2_with fail
                  refine (HFL.out _ _ (by simp; omega) HBX.out (HM.out.below HBX.out)).mono ?_
                  rintro e w1 ⟨rfl, hb2⟩
                  have HB1 : Hid (IsB w.heap.size w.heap.size (Lib.byteCells (rwUpto ls es cfg k ++ so)) w1) := Lib.hid (isB_below (isB_alloc HB.out _) hb2)
                  have hz1 : w.heap.size ≤ w1.heap.size := by have := hb2.size; simp at this; omega
                  have hb3 : Below w.heap.size w w1 := HBX.out.trans (hb2.mono (by simp; omega))
                  clear hb2
                  unfold flipV
                  go_wp2_with fail
                  go_roundw
                  case rel => exact ⟨q + 1, so, (flipI ls k).getD [], sk, by omega, by go_num, rfl, rfl, by omega, hfs, HB1, hz1, hb3, Lib.hid (by rw [ST.out, E.out, HN.out])⟩
                  case measure => simp [intOf]; omega
                have n2 : (yk == 2) = false := beq_false_of_ne hk2
                by_cases hk1 : yk = 1
                · subst hk1
                  have HN : Hid (rwStep ls cfg k ⟨so, sl, sk⟩ ⟨yc, yl, 1, yt⟩ = ⟨so, sl, false⟩) := Lib.hid (rw_del HC1.out HL1.out rfl)
                  clear n3 n2 hk3 hk2
                  go_wp2_with fail
                  go_roundw
                  case rel => exact ⟨q + 1, so, sl, false, by omega, by go_num, rfl, rfl, by omega, hsl, Lib.hid (isB_alloc HB.out _), by simp; omega, hb.alloc hz _, Lib.hid (by rw [ST.out, E.out, HN.out])⟩
                  case measure => simp [intOf]; omega
                have n1 : (yk == 1) = false := beq_false_of_ne hk1
                have HN : Hid (rwStep ls cfg k ⟨so, sl, sk⟩ ⟨yc, yl, yk, yt⟩ = ⟨so, sl, sk⟩) := Lib.hid (rw_oth hk3 hk2 hk1)
                go_wp2_with fail
                go_roundw
                case rel => exact ⟨q + 1, so, sl, sk, by omega, by go_num, rfl, rfl, by omega, hsl, Lib.hid (isB_alloc HB.out _), by simp; omega, hb.alloc hz _, Lib.hid (by rw [ST.out, E.out, HN.out])⟩
                case measure => simp [intOf]; omega
          · have HD : Hid (rwUpto ls es cfg (k + 1) = rwUpto ls es cfg k ++ rwEnd ⟨so, sl, sk⟩) := Lib.hid (rw_done (by rw [ST.out, List.drop_eq_nil_of_le (by omega)]; rfl))
            clear ST
            cases sk with
            | false =>
              rw [end_drop] at HD
              go_wp2_with fail
              go_roundw
              case rel => exact ⟨k + 1, by omega, by go_num, by rw [HD.out]; exact HB.out, hz, hb⟩
              case measure => simp [intOf]; omega
            | true =>
              rw [end_keep] at HD
              go_wp2_with fail
              refine (wstr _ _ _ _ _ HB.out (by rw [str_size]; omega) hz).mono ?_
              rintro e w1 ⟨rfl, HB1, hb2⟩
              rw [bytes_str] at HB1
              have hz1 : w.heap.size ≤ w1.heap.size := Nat.le_trans hz hb2.size
              have HB2 := Lib.hid HB1
              clear HB1
              go_wp2_with fail
              refine (wnl _ _ _ _ HB2.out (by rw [List.length_append]; omega) hz1).mono ?_
              rintro e w2 ⟨rfl, HB3, hb3⟩
              have HB4 := Lib.hid HB3
              clear HB3
              go_wp2_with fail
              go_roundw
              case rel => exact ⟨k + 1, by omega, by go_num, by rw [HD.out, ← List.append_assoc, ← List.append_assoc]; exact HB4.out, Nat.le_trans hz1 hb3.size, (hb.trans hb2).trans hb3⟩
              case measure => simp [intOf]; omega
    · have hkl : k = ls.length + 1 := by omega
      have HBO := Lib.hid hB
      have HK := Lib.hid hkl
      clear hB hkl
      go_wp2_with fail
      refine (Tryd.Builder_String_any _ _ _ _ HBO.out hz).mono ?_
      rintro e w1 ⟨rfl, hb2⟩
      go_wp2_with fail
      go_ret
      exact ⟨ret_str (by rw [HK.out]; rfl), hb.trans hb2⟩
end Go.Proofs.YtpclacofcfbpjaaDoor
