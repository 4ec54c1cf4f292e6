/- The walk of the reference's Parse: the whole. Condition: Go's tables and the words lie below the world's blocks (EnvB). -/
import Derived.Test.YtnhemjdmleilcaaDoorQryKa
namespace Go.Proofs.YtnhemjdmleilcaaDoor
open Go.RowKit

set_option maxRecDepth 100000 in
set_option maxHeartbeats 8000000 in
theorem rqparse_any (s : ByteArray) (w : World) (he : EnvB w.heap.size w) : Calls Tryd.prog 15 #[.string s] w (QPost (bytes s) w) := by
  have HE := Lib.hid he
  have Z0 := Lib.hid (Zbox w)
  have B0 := Lib.hid ((Below.refl w.heap.size w).alloc (Nat.le_refl _) (.cells (QC Qr.zero) 30))
  clear he
  go_enter Tryd.func15, Tryd.ntmps15
  go_wp2_with fail
  refine (rlines_any s _).mono ?_
  rintro e w1 ⟨v1, rfl, -, hb⟩
  have Z1 := Lib.hid (Z0.out.below hb (by simp))
  have B1 := Lib.hid (B0.out.trans (hb.mono (by simp)))
  clear hb
  by_cases hl : linesErr (bytes s) = 0
  case neg =>
    have hn : (linesErr (bytes s) != 0) = true := by simpa using hl
    have E1 := Lib.hid (parseE_lines hl)
    have E2 := Lib.hid (parseQ_bad (parseE_lines hl) hl)
    clear hl
    go_wp2_with (first | (refine wpList_storeQ (q' := Qr.zero) rfl _ _ rfl rfl rfl Z1.out ?_; intro wz hz1 hz2))
    refine bodyPost_ret (results_cell2 rfl rfl rfl hz1.load) rfl (qpost E1.out E2.out ?_)
    exact B1.out.trans (below_of_grown hz2 (Nat.le_refl _) B1.out.size)
  have HL := Lib.hid hl
  have hsz := len_of_lines hl
  rw [hl]
  clear hl
  by_cases hf : (10 : UInt8) ∈ bytes s
  case pos =>
    have E1 := Lib.hid (parseE_feed HL.out hf)
    have E2 := Lib.hid (parseQ_bad (parseE_feed HL.out hf) (by decide))
    have HF : Hid ((10 : UInt8) ∈ (bytes s).drop 0) := Lib.hid (by simpa using hf)
    clear hf
    go_wp2_with fail
    go_loop [6] (fun i => ∃ k : Nat, k ≤ s.size ∧ i = .int .i64 k ∧ Hid ((10 : UInt8) ∈ (bytes s).drop k)) (fun i => s.size - (intOf i).toNat)
    case atStart => exact ⟨0, by omega, rfl, HF⟩
    case round =>
      obtain ⟨k, hk, rfl, H⟩ := hrel
      by_cases hlt : k < s.size
      · cases hc : ((s[k].toNat : Int) == 10) with
        | true =>
          go_wp2_with (first | (refine wpList_storeQ (q' := Qr.zero) rfl _ _ rfl rfl rfl Z1.out ?_; intro wz hz1 hz2))
          refine bodyPost_ret (results_cell2 rfl rfl rfl hz1.load) rfl (qpost E1.out E2.out ?_)
          exact B1.out.trans (below_of_grown hz2 (Nat.le_refl _) B1.out.size)
        | false =>
          go_wp2_with fail
          go_round
          case rel => exact ⟨k + 1, by omega, by go_num, Lib.hid (feed_on hlt H.out hc)⟩
          case measure => simp [intOf]; omega
      · exact absurd H.out (by rw [drop_end s k hlt]; simp)
  have HN := Lib.hid hf
  have EK := Lib.hid (fun hk => parseE_kind HL.out hf hk)
  have E0 := Lib.hid (fun (x : St) (hx : queryOf ⟨fieldsOf 35 (bytes s), false⟩ = x) => parseE_rest HL.out hf hx)
  have E3 := Lib.hid (fun (x : St) (h : parseE (bytes s) = 0) (hx : queryOf ⟨fieldsOf 35 (bytes s), false⟩ = x) => parseQ_ok h hx)
  clear hf
  go_wp2_with fail
  go_loop [6] (fun i => ∃ k : Nat, k ≤ s.size ∧ i = .int .i64 k) (fun i => s.size - (intOf i).toNat)
  case atStart => exact ⟨0, by omega, rfl⟩
  case round =>
  obtain ⟨k, hk, rfl⟩ := hrel
  by_cases hlt : k < s.size
  case pos =>
    have hc := feed_no hlt HN.out
    go_wp2_with fail
    go_round
    case rel => exact ⟨k + 1, by omega, by go_num⟩
    case measure => simp [intOf]; omega
  go_wp2_with fail
  refine (rfields_any s 35 _ (by omega)).mono ?_
  rintro e w2 ⟨v2, rfl, hown, hb⟩
  obtain ⟨A2, k2, rfl, -⟩ := own_cap hown
  have hz2 : w.heap.size + 1 ≤ w2.heap.size := Nat.le_trans (blk_lt Z1.out) hb.size
  have Z2 := Lib.hid (Z1.out.below hb (blk_lt Z1.out))
  have B2 := Lib.hid (B1.out.trans (hb.mono B1.out.size))
  have P2 := Lib.hid (PSt.start (T := 75) hown)
  have HA := Lib.hid (fun w => all_any w)
  unfold MV MC at HA
  clear hb hown
  go_wp2_with fail
  refine (HA.out _).mono ?_
  rintro e w4 ⟨rfl, hb⟩
  have hz4 : w2.heap.size + 1 ≤ w4.heap.size := by have := hb.size; simpa using this
  have hb24 : Hid (Below w2.heap.size w2 w4) := Lib.hid (((Below.refl w2.heap.size w2).alloc (Nat.le_refl _) _).trans (hb.mono (by simp)))
  have Z4 := Lib.hid (Z2.out.below hb24.out (blk_lt Z2.out))
  have B4 := Lib.hid (B2.out.trans (hb24.out.mono B2.out.size))
  have P4 := Lib.hid (P2.out.keep (hb.mono (by simp)))
  have Y4 := Lib.hid (Zbox w4)
  clear hb P2 Z2 B2
  go_wp2_with (first | (refine wpList_storeQ (q' := allQ Qr.zero) rfl _ _ rfl rfl rfl Y4.out ?_; intro w5 hq5 hg5))
  refine (words_any _).mono ?_
  rintro e w6 ⟨rfl, rfl⟩
  have hz5 : w4.heap.size + 1 ≤ w5.heap.size := by have := hg5.size; simpa using this
  have M0 : Hid (Md 75 w2.heap.size (w2.heap.size + 1) w4.heap.size w (allQ Qr.zero, ⟨fieldsOf 35 (bytes s), false⟩) (w5.alloc (.cells WC 9))) := Lib.hid (by
    have hb : Below w4.heap.size w4 w5 := ((Below.refl w4.heap.size w4).alloc (Nat.le_refl _) _).trans (below_of_grown hg5 (Nat.le_refl _) (by simp))
    have hb2 : Below w4.heap.size w4 (w5.alloc (.cells WC 9)) := hb.alloc (by omega) _
    have hbl := B4.out.trans (hb2.mono B4.out.size)
    exact ⟨hq5.below ((Below.refl w5.heap.size w5).alloc (Nat.le_refl _) _) (by omega), Z4.out.below hb2 (blk_lt Z4.out), P4.out.keep (hb2.mono (by omega)), hbl, HE.out.keep hbl, fields_short (by rw [bytes_len]; omega), by omega, by omega, by omega⟩)
  have HW := Lib.hid (heap_alloc_new w5 (.cells WC 9))
  have hb1 : w2.heap.size < w5.heap.size := by omega
  generalize hfs : fieldsOf 35 (bytes s) = fs at M0 E0 E3 EK
  replace hfs := Lib.hid hfs
  clear P4 Y4 Z4 B4 hb24 HA hq5 hg5 B0 B1 Z0 Z1 HN
  go_upto_block 2 with fail
  go_cut [] (fun wx => Md 75 w2.heap.size (w2.heap.size + 1) w4.heap.size w (rKind ⟨fs, false⟩) wx)
  case first =>
    have HW0 := HW
    generalize hw6 : w5.alloc (.cells WC 9) = w6 at M0 HW ⊢
    clear HW0 hw6
    cases fs with
    | nil =>
      have e := rKind_none (p := ⟨[], false⟩) rfl
      replace e := Lib.hid e
      go_wp2_with fail
      refine wp_loop_rounds 7 ?_
      have cl : w6.cell? ⟨w5.heap.size, 1, none⟩ = some (.string ⟨#[100, 101, 108, 105, 118, 101, 114]⟩) := Lib.cell_of_heap HW.out 1
      have ck : w6.cell? ⟨w4.heap.size, 0, none⟩ = some (.int .i64 0) := M0.out.q.cell 0
      rw [rounds_succ]
      go_wp2_with fail
      refine (ris_any w2.heap.size (w2.heap.size + 1) _ ⟨#[100, 101, 108, 105, 118, 101, 114]⟩ _ M0.out.p).mono ?_
      rintro e v1 ⟨rfl, ga, ka⟩
      have N1 : Hid (Md 75 w2.heap.size (w2.heap.size + 1) w4.heap.size w (allQ Qr.zero, ⟨[], false⟩) v1) := Lib.hid (by have h := M0.out.call ga ka (short_acc _ M0.out.s); rw [acc_idle (show accB (bytes ⟨#[100, 101, 108, 105, 118, 101, 114]⟩) ⟨[], false⟩ = false from rfl)] at h; exact h)
      have W1 := Lib.hid ((ka.block w5.heap.size (blk_lt HW.out) (fun e => by injection e; omega)).trans HW.out)
      clear ga ka cl ck
      rw [show accB (bytes ⟨#[100, 101, 108, 105, 118, 101, 114]⟩) _ = false from rfl]
      go_wp2_with fail
      have cl : v1.cell? ⟨w5.heap.size, 2, none⟩ = some (.string ⟨#[105, 115, 111, 108, 97, 116, 101]⟩) := Lib.cell_of_heap W1.out 2
      have ck : v1.cell? ⟨w4.heap.size, 0, none⟩ = some (.int .i64 0) := N1.out.q.cell 0
      rw [rounds_succ]
      go_wp2_with fail
      refine (ris_any w2.heap.size (w2.heap.size + 1) _ ⟨#[105, 115, 111, 108, 97, 116, 101]⟩ _ N1.out.p).mono ?_
      rintro e v2 ⟨rfl, ga, ka⟩
      have N2 : Hid (Md 75 w2.heap.size (w2.heap.size + 1) w4.heap.size w (allQ Qr.zero, ⟨[], false⟩) v2) := Lib.hid (by have h := N1.out.call ga ka (short_acc _ N1.out.s); rw [acc_idle (show accB (bytes ⟨#[105, 115, 111, 108, 97, 116, 101]⟩) ⟨[], false⟩ = false from rfl)] at h; exact h)
      have W2 := Lib.hid ((ka.block w5.heap.size (blk_lt W1.out) (fun e => by injection e; omega)).trans W1.out)
      clear ga ka cl ck
      rw [show accB (bytes ⟨#[105, 115, 111, 108, 97, 116, 101]⟩) _ = false from rfl]
      go_wp2_with fail
      have cl : v2.cell? ⟨w5.heap.size, 3, none⟩ = some (.string ⟨#[116, 114, 97, 118, 101, 114, 115, 101]⟩) := Lib.cell_of_heap W2.out 3
      have ck : v2.cell? ⟨w4.heap.size, 0, none⟩ = some (.int .i64 0) := N2.out.q.cell 0
      rw [rounds_succ]
      go_wp2_with fail
      refine (ris_any w2.heap.size (w2.heap.size + 1) _ ⟨#[116, 114, 97, 118, 101, 114, 115, 101]⟩ _ N2.out.p).mono ?_
      rintro e v3 ⟨rfl, ga, ka⟩
      have N3 : Hid (Md 75 w2.heap.size (w2.heap.size + 1) w4.heap.size w (allQ Qr.zero, ⟨[], false⟩) v3) := Lib.hid (by have h := N2.out.call ga ka (short_acc _ N2.out.s); rw [acc_idle (show accB (bytes ⟨#[116, 114, 97, 118, 101, 114, 115, 101]⟩) ⟨[], false⟩ = false from rfl)] at h; exact h)
      have W3 := Lib.hid ((ka.block w5.heap.size (blk_lt W2.out) (fun e => by injection e; omega)).trans W2.out)
      clear ga ka cl ck
      rw [show accB (bytes ⟨#[116, 114, 97, 118, 101, 114, 115, 101]⟩) _ = false from rfl]
      go_wp2_with fail
      have cl : v3.cell? ⟨w5.heap.size, 4, none⟩ = some (.string ⟨#[108, 111, 111, 112, 108, 101, 115, 115]⟩) := Lib.cell_of_heap W3.out 4
      have ck : v3.cell? ⟨w4.heap.size, 0, none⟩ = some (.int .i64 0) := N3.out.q.cell 0
      rw [rounds_succ]
      go_wp2_with fail
      refine (ris_any w2.heap.size (w2.heap.size + 1) _ ⟨#[108, 111, 111, 112, 108, 101, 115, 115]⟩ _ N3.out.p).mono ?_
      rintro e v4 ⟨rfl, ga, ka⟩
      have N4 : Hid (Md 75 w2.heap.size (w2.heap.size + 1) w4.heap.size w (allQ Qr.zero, ⟨[], false⟩) v4) := Lib.hid (by have h := N3.out.call ga ka (short_acc _ N3.out.s); rw [acc_idle (show accB (bytes ⟨#[108, 111, 111, 112, 108, 101, 115, 115]⟩) ⟨[], false⟩ = false from rfl)] at h; exact h)
      have W4 := Lib.hid ((ka.block w5.heap.size (blk_lt W3.out) (fun e => by injection e; omega)).trans W3.out)
      clear ga ka cl ck
      rw [show accB (bytes ⟨#[108, 111, 111, 112, 108, 101, 115, 115]⟩) _ = false from rfl]
      go_wp2_with fail
      have cl : v4.cell? ⟨w5.heap.size, 5, none⟩ = some (.string ⟨#[104, 111, 108, 101, 108, 101, 115, 115]⟩) := Lib.cell_of_heap W4.out 5
      have ck : v4.cell? ⟨w4.heap.size, 0, none⟩ = some (.int .i64 0) := N4.out.q.cell 0
      rw [rounds_succ]
      go_wp2_with fail
      refine (ris_any w2.heap.size (w2.heap.size + 1) _ ⟨#[104, 111, 108, 101, 108, 101, 115, 115]⟩ _ N4.out.p).mono ?_
      rintro e v5 ⟨rfl, ga, ka⟩
      have N5 : Hid (Md 75 w2.heap.size (w2.heap.size + 1) w4.heap.size w (allQ Qr.zero, ⟨[], false⟩) v5) := Lib.hid (by have h := N4.out.call ga ka (short_acc _ N4.out.s); rw [acc_idle (show accB (bytes ⟨#[104, 111, 108, 101, 108, 101, 115, 115]⟩) ⟨[], false⟩ = false from rfl)] at h; exact h)
      have W5 := Lib.hid ((ka.block w5.heap.size (blk_lt W4.out) (fun e => by injection e; omega)).trans W4.out)
      clear ga ka cl ck
      rw [show accB (bytes ⟨#[104, 111, 108, 101, 108, 101, 115, 115]⟩) _ = false from rfl]
      go_wp2_with fail
      have cl : v5.cell? ⟨w5.heap.size, 6, none⟩ = some (.string ⟨#[101, 113, 117, 97, 116, 101]⟩) := Lib.cell_of_heap W5.out 6
      have ck : v5.cell? ⟨w4.heap.size, 0, none⟩ = some (.int .i64 0) := N5.out.q.cell 0
      rw [rounds_succ]
      go_wp2_with fail
      refine (ris_any w2.heap.size (w2.heap.size + 1) _ ⟨#[101, 113, 117, 97, 116, 101]⟩ _ N5.out.p).mono ?_
      rintro e v6 ⟨rfl, ga, ka⟩
      have N6 : Hid (Md 75 w2.heap.size (w2.heap.size + 1) w4.heap.size w (allQ Qr.zero, ⟨[], false⟩) v6) := Lib.hid (by have h := N5.out.call ga ka (short_acc _ N5.out.s); rw [acc_idle (show accB (bytes ⟨#[101, 113, 117, 97, 116, 101]⟩) ⟨[], false⟩ = false from rfl)] at h; exact h)
      have W6 := Lib.hid ((ka.block w5.heap.size (blk_lt W5.out) (fun e => by injection e; omega)).trans W5.out)
      clear ga ka cl ck
      rw [show accB (bytes ⟨#[101, 113, 117, 97, 116, 101]⟩) _ = false from rfl]
      go_wp2_with fail
      rw [rounds_succ]
      go_wp2_with fail
      go_meet
      rw [e.out]
      exact N6.out
    | cons f r =>
      rcases kind_cases f with rfl | rfl | rfl | rfl | rfl | rfl | ⟨n1, n2, n3, n4, n5, n6⟩
      · have e := Lib.hid (rKind_some (p := ⟨[100, 101, 108, 105, 118, 101, 114] :: r, false⟩) (show kindOf [100, 101, 108, 105, 118, 101, 114] ≠ 0 by decide))
        go_wp2_with fail
        refine wp_loop_rounds 7 ?_
        have cl : w6.cell? ⟨w5.heap.size, 1, none⟩ = some (.string ⟨#[100, 101, 108, 105, 118, 101, 114]⟩) := Lib.cell_of_heap HW.out 1
        have ck : w6.cell? ⟨w4.heap.size, 0, none⟩ = some (.int .i64 0) := M0.out.q.cell 0
        rw [rounds_succ]
        go_wp2_with fail
        refine (ris_any w2.heap.size (w2.heap.size + 1) _ ⟨#[100, 101, 108, 105, 118, 101, 114]⟩ _ M0.out.p).mono ?_
        rintro e v1 ⟨rfl, ga, ka⟩
        have N1 := Lib.hid (M0.out.call ga ka (short_acc _ M0.out.s))
        have W1 := Lib.hid ((ka.block w5.heap.size (blk_lt HW.out) (fun e => by injection e; omega)).trans HW.out)
        clear ga ka cl ck
        rw [show accB (bytes ⟨#[100, 101, 108, 105, 118, 101, 114]⟩) _ = true from rfl]
        have cz : v1.cell? ⟨w4.heap.size, 0, none⟩ = some (.int .i64 0) := N1.out.q.cell 0
        have fz := N1.out.q.frz 0
        have K0 := Lib.hid (N1.out.put (j := 0) (q' := allQ { Qr.zero with kind := 1 }) (.int .i64 1) rfl)
        go_wp2_with fail
        clear cz fz
        have cz := K0.out.q.cell 0
        simp only [QC] at cz
        rw [rounds_succ]
        go_wp2_with fail
        rw [rounds_succ]
        go_wp2_with fail
        rw [rounds_succ]
        go_wp2_with fail
        rw [rounds_succ]
        go_wp2_with fail
        rw [rounds_succ]
        go_wp2_with fail
        rw [rounds_succ]
        go_wp2_with fail
        go_meet
        rw [e.out]
        exact K0.out
      · have e := Lib.hid (rKind_some (p := ⟨[105, 115, 111, 108, 97, 116, 101] :: r, false⟩) (show kindOf [105, 115, 111, 108, 97, 116, 101] ≠ 0 by decide))
        go_wp2_with fail
        refine wp_loop_rounds 7 ?_
        have cl : w6.cell? ⟨w5.heap.size, 1, none⟩ = some (.string ⟨#[100, 101, 108, 105, 118, 101, 114]⟩) := Lib.cell_of_heap HW.out 1
        have ck : w6.cell? ⟨w4.heap.size, 0, none⟩ = some (.int .i64 0) := M0.out.q.cell 0
        rw [rounds_succ]
        go_wp2_with fail
        refine (ris_any w2.heap.size (w2.heap.size + 1) _ ⟨#[100, 101, 108, 105, 118, 101, 114]⟩ _ M0.out.p).mono ?_
        rintro e v1 ⟨rfl, ga, ka⟩
        have N1 : Hid (Md 75 w2.heap.size (w2.heap.size + 1) w4.heap.size w (allQ Qr.zero, ⟨[105, 115, 111, 108, 97, 116, 101] :: r, false⟩) v1) := Lib.hid (by have h := M0.out.call ga ka (short_acc _ M0.out.s); rw [acc_idle (show accB (bytes ⟨#[100, 101, 108, 105, 118, 101, 114]⟩) ⟨[105, 115, 111, 108, 97, 116, 101] :: r, false⟩ = false from rfl)] at h; exact h)
        have W1 := Lib.hid ((ka.block w5.heap.size (blk_lt HW.out) (fun e => by injection e; omega)).trans HW.out)
        clear ga ka cl ck
        rw [show accB (bytes ⟨#[100, 101, 108, 105, 118, 101, 114]⟩) _ = false from rfl]
        go_wp2_with fail
        have cl : v1.cell? ⟨w5.heap.size, 2, none⟩ = some (.string ⟨#[105, 115, 111, 108, 97, 116, 101]⟩) := Lib.cell_of_heap W1.out 2
        have ck : v1.cell? ⟨w4.heap.size, 0, none⟩ = some (.int .i64 0) := N1.out.q.cell 0
        rw [rounds_succ]
        go_wp2_with fail
        refine (ris_any w2.heap.size (w2.heap.size + 1) _ ⟨#[105, 115, 111, 108, 97, 116, 101]⟩ _ N1.out.p).mono ?_
        rintro e v2 ⟨rfl, ga, ka⟩
        have N2 := Lib.hid (N1.out.call ga ka (short_acc _ N1.out.s))
        have W2 := Lib.hid ((ka.block w5.heap.size (blk_lt W1.out) (fun e => by injection e; omega)).trans W1.out)
        clear ga ka cl ck
        rw [show accB (bytes ⟨#[105, 115, 111, 108, 97, 116, 101]⟩) _ = true from rfl]
        have cz : v2.cell? ⟨w4.heap.size, 0, none⟩ = some (.int .i64 0) := N2.out.q.cell 0
        have fz := N2.out.q.frz 0
        have K0 := Lib.hid (N2.out.put (j := 0) (q' := allQ { Qr.zero with kind := 2 }) (.int .i64 2) rfl)
        go_wp2_with fail
        clear cz fz
        have cz := K0.out.q.cell 0
        simp only [QC] at cz
        rw [rounds_succ]
        go_wp2_with fail
        rw [rounds_succ]
        go_wp2_with fail
        rw [rounds_succ]
        go_wp2_with fail
        rw [rounds_succ]
        go_wp2_with fail
        rw [rounds_succ]
        go_wp2_with fail
        go_meet
        rw [e.out]
        exact K0.out
      · have e := Lib.hid (rKind_some (p := ⟨[116, 114, 97, 118, 101, 114, 115, 101] :: r, false⟩) (show kindOf [116, 114, 97, 118, 101, 114, 115, 101] ≠ 0 by decide))
        go_wp2_with fail
        refine wp_loop_rounds 7 ?_
        have cl : w6.cell? ⟨w5.heap.size, 1, none⟩ = some (.string ⟨#[100, 101, 108, 105, 118, 101, 114]⟩) := Lib.cell_of_heap HW.out 1
        have ck : w6.cell? ⟨w4.heap.size, 0, none⟩ = some (.int .i64 0) := M0.out.q.cell 0
        rw [rounds_succ]
        go_wp2_with fail
        refine (ris_any w2.heap.size (w2.heap.size + 1) _ ⟨#[100, 101, 108, 105, 118, 101, 114]⟩ _ M0.out.p).mono ?_
        rintro e v1 ⟨rfl, ga, ka⟩
        have N1 : Hid (Md 75 w2.heap.size (w2.heap.size + 1) w4.heap.size w (allQ Qr.zero, ⟨[116, 114, 97, 118, 101, 114, 115, 101] :: r, false⟩) v1) := Lib.hid (by have h := M0.out.call ga ka (short_acc _ M0.out.s); rw [acc_idle (show accB (bytes ⟨#[100, 101, 108, 105, 118, 101, 114]⟩) ⟨[116, 114, 97, 118, 101, 114, 115, 101] :: r, false⟩ = false from rfl)] at h; exact h)
        have W1 := Lib.hid ((ka.block w5.heap.size (blk_lt HW.out) (fun e => by injection e; omega)).trans HW.out)
        clear ga ka cl ck
        rw [show accB (bytes ⟨#[100, 101, 108, 105, 118, 101, 114]⟩) _ = false from rfl]
        go_wp2_with fail
        have cl : v1.cell? ⟨w5.heap.size, 2, none⟩ = some (.string ⟨#[105, 115, 111, 108, 97, 116, 101]⟩) := Lib.cell_of_heap W1.out 2
        have ck : v1.cell? ⟨w4.heap.size, 0, none⟩ = some (.int .i64 0) := N1.out.q.cell 0
        rw [rounds_succ]
        go_wp2_with fail
        refine (ris_any w2.heap.size (w2.heap.size + 1) _ ⟨#[105, 115, 111, 108, 97, 116, 101]⟩ _ N1.out.p).mono ?_
        rintro e v2 ⟨rfl, ga, ka⟩
        have N2 : Hid (Md 75 w2.heap.size (w2.heap.size + 1) w4.heap.size w (allQ Qr.zero, ⟨[116, 114, 97, 118, 101, 114, 115, 101] :: r, false⟩) v2) := Lib.hid (by have h := N1.out.call ga ka (short_acc _ N1.out.s); rw [acc_idle (show accB (bytes ⟨#[105, 115, 111, 108, 97, 116, 101]⟩) ⟨[116, 114, 97, 118, 101, 114, 115, 101] :: r, false⟩ = false from rfl)] at h; exact h)
        have W2 := Lib.hid ((ka.block w5.heap.size (blk_lt W1.out) (fun e => by injection e; omega)).trans W1.out)
        clear ga ka cl ck
        rw [show accB (bytes ⟨#[105, 115, 111, 108, 97, 116, 101]⟩) _ = false from rfl]
        go_wp2_with fail
        have cl : v2.cell? ⟨w5.heap.size, 3, none⟩ = some (.string ⟨#[116, 114, 97, 118, 101, 114, 115, 101]⟩) := Lib.cell_of_heap W2.out 3
        have ck : v2.cell? ⟨w4.heap.size, 0, none⟩ = some (.int .i64 0) := N2.out.q.cell 0
        rw [rounds_succ]
        go_wp2_with fail
        refine (ris_any w2.heap.size (w2.heap.size + 1) _ ⟨#[116, 114, 97, 118, 101, 114, 115, 101]⟩ _ N2.out.p).mono ?_
        rintro e v3 ⟨rfl, ga, ka⟩
        have N3 := Lib.hid (N2.out.call ga ka (short_acc _ N2.out.s))
        have W3 := Lib.hid ((ka.block w5.heap.size (blk_lt W2.out) (fun e => by injection e; omega)).trans W2.out)
        clear ga ka cl ck
        rw [show accB (bytes ⟨#[116, 114, 97, 118, 101, 114, 115, 101]⟩) _ = true from rfl]
        have cz : v3.cell? ⟨w4.heap.size, 0, none⟩ = some (.int .i64 0) := N3.out.q.cell 0
        have fz := N3.out.q.frz 0
        have K0 := Lib.hid (N3.out.put (j := 0) (q' := allQ { Qr.zero with kind := 3 }) (.int .i64 3) rfl)
        go_wp2_with fail
        clear cz fz
        have cz := K0.out.q.cell 0
        simp only [QC] at cz
        rw [rounds_succ]
        go_wp2_with fail
        rw [rounds_succ]
        go_wp2_with fail
        rw [rounds_succ]
        go_wp2_with fail
        rw [rounds_succ]
        go_wp2_with fail
        go_meet
        rw [e.out]
        exact K0.out
      · have e := Lib.hid (rKind_some (p := ⟨[108, 111, 111, 112, 108, 101, 115, 115] :: r, false⟩) (show kindOf [108, 111, 111, 112, 108, 101, 115, 115] ≠ 0 by decide))
        go_wp2_with fail
        refine wp_loop_rounds 7 ?_
        have cl : w6.cell? ⟨w5.heap.size, 1, none⟩ = some (.string ⟨#[100, 101, 108, 105, 118, 101, 114]⟩) := Lib.cell_of_heap HW.out 1
        have ck : w6.cell? ⟨w4.heap.size, 0, none⟩ = some (.int .i64 0) := M0.out.q.cell 0
        rw [rounds_succ]
        go_wp2_with fail
        refine (ris_any w2.heap.size (w2.heap.size + 1) _ ⟨#[100, 101, 108, 105, 118, 101, 114]⟩ _ M0.out.p).mono ?_
        rintro e v1 ⟨rfl, ga, ka⟩
        have N1 : Hid (Md 75 w2.heap.size (w2.heap.size + 1) w4.heap.size w (allQ Qr.zero, ⟨[108, 111, 111, 112, 108, 101, 115, 115] :: r, false⟩) v1) := Lib.hid (by have h := M0.out.call ga ka (short_acc _ M0.out.s); rw [acc_idle (show accB (bytes ⟨#[100, 101, 108, 105, 118, 101, 114]⟩) ⟨[108, 111, 111, 112, 108, 101, 115, 115] :: r, false⟩ = false from rfl)] at h; exact h)
        have W1 := Lib.hid ((ka.block w5.heap.size (blk_lt HW.out) (fun e => by injection e; omega)).trans HW.out)
        clear ga ka cl ck
        rw [show accB (bytes ⟨#[100, 101, 108, 105, 118, 101, 114]⟩) _ = false from rfl]
        go_wp2_with fail
        have cl : v1.cell? ⟨w5.heap.size, 2, none⟩ = some (.string ⟨#[105, 115, 111, 108, 97, 116, 101]⟩) := Lib.cell_of_heap W1.out 2
        have ck : v1.cell? ⟨w4.heap.size, 0, none⟩ = some (.int .i64 0) := N1.out.q.cell 0
        rw [rounds_succ]
        go_wp2_with fail
        refine (ris_any w2.heap.size (w2.heap.size + 1) _ ⟨#[105, 115, 111, 108, 97, 116, 101]⟩ _ N1.out.p).mono ?_
        rintro e v2 ⟨rfl, ga, ka⟩
        have N2 : Hid (Md 75 w2.heap.size (w2.heap.size + 1) w4.heap.size w (allQ Qr.zero, ⟨[108, 111, 111, 112, 108, 101, 115, 115] :: r, false⟩) v2) := Lib.hid (by have h := N1.out.call ga ka (short_acc _ N1.out.s); rw [acc_idle (show accB (bytes ⟨#[105, 115, 111, 108, 97, 116, 101]⟩) ⟨[108, 111, 111, 112, 108, 101, 115, 115] :: r, false⟩ = false from rfl)] at h; exact h)
        have W2 := Lib.hid ((ka.block w5.heap.size (blk_lt W1.out) (fun e => by injection e; omega)).trans W1.out)
        clear ga ka cl ck
        rw [show accB (bytes ⟨#[105, 115, 111, 108, 97, 116, 101]⟩) _ = false from rfl]
        go_wp2_with fail
        have cl : v2.cell? ⟨w5.heap.size, 3, none⟩ = some (.string ⟨#[116, 114, 97, 118, 101, 114, 115, 101]⟩) := Lib.cell_of_heap W2.out 3
        have ck : v2.cell? ⟨w4.heap.size, 0, none⟩ = some (.int .i64 0) := N2.out.q.cell 0
        rw [rounds_succ]
        go_wp2_with fail
        refine (ris_any w2.heap.size (w2.heap.size + 1) _ ⟨#[116, 114, 97, 118, 101, 114, 115, 101]⟩ _ N2.out.p).mono ?_
        rintro e v3 ⟨rfl, ga, ka⟩
        have N3 : Hid (Md 75 w2.heap.size (w2.heap.size + 1) w4.heap.size w (allQ Qr.zero, ⟨[108, 111, 111, 112, 108, 101, 115, 115] :: r, false⟩) v3) := Lib.hid (by have h := N2.out.call ga ka (short_acc _ N2.out.s); rw [acc_idle (show accB (bytes ⟨#[116, 114, 97, 118, 101, 114, 115, 101]⟩) ⟨[108, 111, 111, 112, 108, 101, 115, 115] :: r, false⟩ = false from rfl)] at h; exact h)
        have W3 := Lib.hid ((ka.block w5.heap.size (blk_lt W2.out) (fun e => by injection e; omega)).trans W2.out)
        clear ga ka cl ck
        rw [show accB (bytes ⟨#[116, 114, 97, 118, 101, 114, 115, 101]⟩) _ = false from rfl]
        go_wp2_with fail
        have cl : v3.cell? ⟨w5.heap.size, 4, none⟩ = some (.string ⟨#[108, 111, 111, 112, 108, 101, 115, 115]⟩) := Lib.cell_of_heap W3.out 4
        have ck : v3.cell? ⟨w4.heap.size, 0, none⟩ = some (.int .i64 0) := N3.out.q.cell 0
        rw [rounds_succ]
        go_wp2_with fail
        refine (ris_any w2.heap.size (w2.heap.size + 1) _ ⟨#[108, 111, 111, 112, 108, 101, 115, 115]⟩ _ N3.out.p).mono ?_
        rintro e v4 ⟨rfl, ga, ka⟩
        have N4 := Lib.hid (N3.out.call ga ka (short_acc _ N3.out.s))
        have W4 := Lib.hid ((ka.block w5.heap.size (blk_lt W3.out) (fun e => by injection e; omega)).trans W3.out)
        clear ga ka cl ck
        rw [show accB (bytes ⟨#[108, 111, 111, 112, 108, 101, 115, 115]⟩) _ = true from rfl]
        have cz : v4.cell? ⟨w4.heap.size, 0, none⟩ = some (.int .i64 0) := N4.out.q.cell 0
        have fz := N4.out.q.frz 0
        have K0 := Lib.hid (N4.out.put (j := 0) (q' := allQ { Qr.zero with kind := 4 }) (.int .i64 4) rfl)
        go_wp2_with fail
        clear cz fz
        have cz := K0.out.q.cell 0
        simp only [QC] at cz
        rw [rounds_succ]
        go_wp2_with fail
        rw [rounds_succ]
        go_wp2_with fail
        rw [rounds_succ]
        go_wp2_with fail
        go_meet
        rw [e.out]
        exact K0.out
      · have e := Lib.hid (rKind_some (p := ⟨[104, 111, 108, 101, 108, 101, 115, 115] :: r, false⟩) (show kindOf [104, 111, 108, 101, 108, 101, 115, 115] ≠ 0 by decide))
        go_wp2_with fail
        refine wp_loop_rounds 7 ?_
        have cl : w6.cell? ⟨w5.heap.size, 1, none⟩ = some (.string ⟨#[100, 101, 108, 105, 118, 101, 114]⟩) := Lib.cell_of_heap HW.out 1
        have ck : w6.cell? ⟨w4.heap.size, 0, none⟩ = some (.int .i64 0) := M0.out.q.cell 0
        rw [rounds_succ]
        go_wp2_with fail
        refine (ris_any w2.heap.size (w2.heap.size + 1) _ ⟨#[100, 101, 108, 105, 118, 101, 114]⟩ _ M0.out.p).mono ?_
        rintro e v1 ⟨rfl, ga, ka⟩
        have N1 : Hid (Md 75 w2.heap.size (w2.heap.size + 1) w4.heap.size w (allQ Qr.zero, ⟨[104, 111, 108, 101, 108, 101, 115, 115] :: r, false⟩) v1) := Lib.hid (by have h := M0.out.call ga ka (short_acc _ M0.out.s); rw [acc_idle (show accB (bytes ⟨#[100, 101, 108, 105, 118, 101, 114]⟩) ⟨[104, 111, 108, 101, 108, 101, 115, 115] :: r, false⟩ = false from rfl)] at h; exact h)
        have W1 := Lib.hid ((ka.block w5.heap.size (blk_lt HW.out) (fun e => by injection e; omega)).trans HW.out)
        clear ga ka cl ck
        rw [show accB (bytes ⟨#[100, 101, 108, 105, 118, 101, 114]⟩) _ = false from rfl]
        go_wp2_with fail
        have cl : v1.cell? ⟨w5.heap.size, 2, none⟩ = some (.string ⟨#[105, 115, 111, 108, 97, 116, 101]⟩) := Lib.cell_of_heap W1.out 2
        have ck : v1.cell? ⟨w4.heap.size, 0, none⟩ = some (.int .i64 0) := N1.out.q.cell 0
        rw [rounds_succ]
        go_wp2_with fail
        refine (ris_any w2.heap.size (w2.heap.size + 1) _ ⟨#[105, 115, 111, 108, 97, 116, 101]⟩ _ N1.out.p).mono ?_
        rintro e v2 ⟨rfl, ga, ka⟩
        have N2 : Hid (Md 75 w2.heap.size (w2.heap.size + 1) w4.heap.size w (allQ Qr.zero, ⟨[104, 111, 108, 101, 108, 101, 115, 115] :: r, false⟩) v2) := Lib.hid (by have h := N1.out.call ga ka (short_acc _ N1.out.s); rw [acc_idle (show accB (bytes ⟨#[105, 115, 111, 108, 97, 116, 101]⟩) ⟨[104, 111, 108, 101, 108, 101, 115, 115] :: r, false⟩ = false from rfl)] at h; exact h)
        have W2 := Lib.hid ((ka.block w5.heap.size (blk_lt W1.out) (fun e => by injection e; omega)).trans W1.out)
        clear ga ka cl ck
        rw [show accB (bytes ⟨#[105, 115, 111, 108, 97, 116, 101]⟩) _ = false from rfl]
        go_wp2_with fail
        have cl : v2.cell? ⟨w5.heap.size, 3, none⟩ = some (.string ⟨#[116, 114, 97, 118, 101, 114, 115, 101]⟩) := Lib.cell_of_heap W2.out 3
        have ck : v2.cell? ⟨w4.heap.size, 0, none⟩ = some (.int .i64 0) := N2.out.q.cell 0
        rw [rounds_succ]
        go_wp2_with fail
        refine (ris_any w2.heap.size (w2.heap.size + 1) _ ⟨#[116, 114, 97, 118, 101, 114, 115, 101]⟩ _ N2.out.p).mono ?_
        rintro e v3 ⟨rfl, ga, ka⟩
        have N3 : Hid (Md 75 w2.heap.size (w2.heap.size + 1) w4.heap.size w (allQ Qr.zero, ⟨[104, 111, 108, 101, 108, 101, 115, 115] :: r, false⟩) v3) := Lib.hid (by have h := N2.out.call ga ka (short_acc _ N2.out.s); rw [acc_idle (show accB (bytes ⟨#[116, 114, 97, 118, 101, 114, 115, 101]⟩) ⟨[104, 111, 108, 101, 108, 101, 115, 115] :: r, false⟩ = false from rfl)] at h; exact h)
        have W3 := Lib.hid ((ka.block w5.heap.size (blk_lt W2.out) (fun e => by injection e; omega)).trans W2.out)
        clear ga ka cl ck
        rw [show accB (bytes ⟨#[116, 114, 97, 118, 101, 114, 115, 101]⟩) _ = false from rfl]
        go_wp2_with fail
        have cl : v3.cell? ⟨w5.heap.size, 4, none⟩ = some (.string ⟨#[108, 111, 111, 112, 108, 101, 115, 115]⟩) := Lib.cell_of_heap W3.out 4
        have ck : v3.cell? ⟨w4.heap.size, 0, none⟩ = some (.int .i64 0) := N3.out.q.cell 0
        rw [rounds_succ]
        go_wp2_with fail
        refine (ris_any w2.heap.size (w2.heap.size + 1) _ ⟨#[108, 111, 111, 112, 108, 101, 115, 115]⟩ _ N3.out.p).mono ?_
        rintro e v4 ⟨rfl, ga, ka⟩
        have N4 : Hid (Md 75 w2.heap.size (w2.heap.size + 1) w4.heap.size w (allQ Qr.zero, ⟨[104, 111, 108, 101, 108, 101, 115, 115] :: r, false⟩) v4) := Lib.hid (by have h := N3.out.call ga ka (short_acc _ N3.out.s); rw [acc_idle (show accB (bytes ⟨#[108, 111, 111, 112, 108, 101, 115, 115]⟩) ⟨[104, 111, 108, 101, 108, 101, 115, 115] :: r, false⟩ = false from rfl)] at h; exact h)
        have W4 := Lib.hid ((ka.block w5.heap.size (blk_lt W3.out) (fun e => by injection e; omega)).trans W3.out)
        clear ga ka cl ck
        rw [show accB (bytes ⟨#[108, 111, 111, 112, 108, 101, 115, 115]⟩) _ = false from rfl]
        go_wp2_with fail
        have cl : v4.cell? ⟨w5.heap.size, 5, none⟩ = some (.string ⟨#[104, 111, 108, 101, 108, 101, 115, 115]⟩) := Lib.cell_of_heap W4.out 5
        have ck : v4.cell? ⟨w4.heap.size, 0, none⟩ = some (.int .i64 0) := N4.out.q.cell 0
        rw [rounds_succ]
        go_wp2_with fail
        refine (ris_any w2.heap.size (w2.heap.size + 1) _ ⟨#[104, 111, 108, 101, 108, 101, 115, 115]⟩ _ N4.out.p).mono ?_
        rintro e v5 ⟨rfl, ga, ka⟩
        have N5 := Lib.hid (N4.out.call ga ka (short_acc _ N4.out.s))
        have W5 := Lib.hid ((ka.block w5.heap.size (blk_lt W4.out) (fun e => by injection e; omega)).trans W4.out)
        clear ga ka cl ck
        rw [show accB (bytes ⟨#[104, 111, 108, 101, 108, 101, 115, 115]⟩) _ = true from rfl]
        have cz : v5.cell? ⟨w4.heap.size, 0, none⟩ = some (.int .i64 0) := N5.out.q.cell 0
        have fz := N5.out.q.frz 0
        have K0 := Lib.hid (N5.out.put (j := 0) (q' := allQ { Qr.zero with kind := 5 }) (.int .i64 5) rfl)
        go_wp2_with fail
        clear cz fz
        have cz := K0.out.q.cell 0
        simp only [QC] at cz
        rw [rounds_succ]
        go_wp2_with fail
        rw [rounds_succ]
        go_wp2_with fail
        go_meet
        rw [e.out]
        exact K0.out
      · have e := Lib.hid (rKind_some (p := ⟨[101, 113, 117, 97, 116, 101] :: r, false⟩) (show kindOf [101, 113, 117, 97, 116, 101] ≠ 0 by decide))
        go_wp2_with fail
        refine wp_loop_rounds 7 ?_
        have cl : w6.cell? ⟨w5.heap.size, 1, none⟩ = some (.string ⟨#[100, 101, 108, 105, 118, 101, 114]⟩) := Lib.cell_of_heap HW.out 1
        have ck : w6.cell? ⟨w4.heap.size, 0, none⟩ = some (.int .i64 0) := M0.out.q.cell 0
        rw [rounds_succ]
        go_wp2_with fail
        refine (ris_any w2.heap.size (w2.heap.size + 1) _ ⟨#[100, 101, 108, 105, 118, 101, 114]⟩ _ M0.out.p).mono ?_
        rintro e v1 ⟨rfl, ga, ka⟩
        have N1 : Hid (Md 75 w2.heap.size (w2.heap.size + 1) w4.heap.size w (allQ Qr.zero, ⟨[101, 113, 117, 97, 116, 101] :: r, false⟩) v1) := Lib.hid (by have h := M0.out.call ga ka (short_acc _ M0.out.s); rw [acc_idle (show accB (bytes ⟨#[100, 101, 108, 105, 118, 101, 114]⟩) ⟨[101, 113, 117, 97, 116, 101] :: r, false⟩ = false from rfl)] at h; exact h)
        have W1 := Lib.hid ((ka.block w5.heap.size (blk_lt HW.out) (fun e => by injection e; omega)).trans HW.out)
        clear ga ka cl ck
        rw [show accB (bytes ⟨#[100, 101, 108, 105, 118, 101, 114]⟩) _ = false from rfl]
        go_wp2_with fail
        have cl : v1.cell? ⟨w5.heap.size, 2, none⟩ = some (.string ⟨#[105, 115, 111, 108, 97, 116, 101]⟩) := Lib.cell_of_heap W1.out 2
        have ck : v1.cell? ⟨w4.heap.size, 0, none⟩ = some (.int .i64 0) := N1.out.q.cell 0
        rw [rounds_succ]
        go_wp2_with fail
        refine (ris_any w2.heap.size (w2.heap.size + 1) _ ⟨#[105, 115, 111, 108, 97, 116, 101]⟩ _ N1.out.p).mono ?_
        rintro e v2 ⟨rfl, ga, ka⟩
        have N2 : Hid (Md 75 w2.heap.size (w2.heap.size + 1) w4.heap.size w (allQ Qr.zero, ⟨[101, 113, 117, 97, 116, 101] :: r, false⟩) v2) := Lib.hid (by have h := N1.out.call ga ka (short_acc _ N1.out.s); rw [acc_idle (show accB (bytes ⟨#[105, 115, 111, 108, 97, 116, 101]⟩) ⟨[101, 113, 117, 97, 116, 101] :: r, false⟩ = false from rfl)] at h; exact h)
        have W2 := Lib.hid ((ka.block w5.heap.size (blk_lt W1.out) (fun e => by injection e; omega)).trans W1.out)
        clear ga ka cl ck
        rw [show accB (bytes ⟨#[105, 115, 111, 108, 97, 116, 101]⟩) _ = false from rfl]
        go_wp2_with fail
        have cl : v2.cell? ⟨w5.heap.size, 3, none⟩ = some (.string ⟨#[116, 114, 97, 118, 101, 114, 115, 101]⟩) := Lib.cell_of_heap W2.out 3
        have ck : v2.cell? ⟨w4.heap.size, 0, none⟩ = some (.int .i64 0) := N2.out.q.cell 0
        rw [rounds_succ]
        go_wp2_with fail
        refine (ris_any w2.heap.size (w2.heap.size + 1) _ ⟨#[116, 114, 97, 118, 101, 114, 115, 101]⟩ _ N2.out.p).mono ?_
        rintro e v3 ⟨rfl, ga, ka⟩
        have N3 : Hid (Md 75 w2.heap.size (w2.heap.size + 1) w4.heap.size w (allQ Qr.zero, ⟨[101, 113, 117, 97, 116, 101] :: r, false⟩) v3) := Lib.hid (by have h := N2.out.call ga ka (short_acc _ N2.out.s); rw [acc_idle (show accB (bytes ⟨#[116, 114, 97, 118, 101, 114, 115, 101]⟩) ⟨[101, 113, 117, 97, 116, 101] :: r, false⟩ = false from rfl)] at h; exact h)
        have W3 := Lib.hid ((ka.block w5.heap.size (blk_lt W2.out) (fun e => by injection e; omega)).trans W2.out)
        clear ga ka cl ck
        rw [show accB (bytes ⟨#[116, 114, 97, 118, 101, 114, 115, 101]⟩) _ = false from rfl]
        go_wp2_with fail
        have cl : v3.cell? ⟨w5.heap.size, 4, none⟩ = some (.string ⟨#[108, 111, 111, 112, 108, 101, 115, 115]⟩) := Lib.cell_of_heap W3.out 4
        have ck : v3.cell? ⟨w4.heap.size, 0, none⟩ = some (.int .i64 0) := N3.out.q.cell 0
        rw [rounds_succ]
        go_wp2_with fail
        refine (ris_any w2.heap.size (w2.heap.size + 1) _ ⟨#[108, 111, 111, 112, 108, 101, 115, 115]⟩ _ N3.out.p).mono ?_
        rintro e v4 ⟨rfl, ga, ka⟩
        have N4 : Hid (Md 75 w2.heap.size (w2.heap.size + 1) w4.heap.size w (allQ Qr.zero, ⟨[101, 113, 117, 97, 116, 101] :: r, false⟩) v4) := Lib.hid (by have h := N3.out.call ga ka (short_acc _ N3.out.s); rw [acc_idle (show accB (bytes ⟨#[108, 111, 111, 112, 108, 101, 115, 115]⟩) ⟨[101, 113, 117, 97, 116, 101] :: r, false⟩ = false from rfl)] at h; exact h)
        have W4 := Lib.hid ((ka.block w5.heap.size (blk_lt W3.out) (fun e => by injection e; omega)).trans W3.out)
        clear ga ka cl ck
        rw [show accB (bytes ⟨#[108, 111, 111, 112, 108, 101, 115, 115]⟩) _ = false from rfl]
        go_wp2_with fail
        have cl : v4.cell? ⟨w5.heap.size, 5, none⟩ = some (.string ⟨#[104, 111, 108, 101, 108, 101, 115, 115]⟩) := Lib.cell_of_heap W4.out 5
        have ck : v4.cell? ⟨w4.heap.size, 0, none⟩ = some (.int .i64 0) := N4.out.q.cell 0
        rw [rounds_succ]
        go_wp2_with fail
        refine (ris_any w2.heap.size (w2.heap.size + 1) _ ⟨#[104, 111, 108, 101, 108, 101, 115, 115]⟩ _ N4.out.p).mono ?_
        rintro e v5 ⟨rfl, ga, ka⟩
        have N5 : Hid (Md 75 w2.heap.size (w2.heap.size + 1) w4.heap.size w (allQ Qr.zero, ⟨[101, 113, 117, 97, 116, 101] :: r, false⟩) v5) := Lib.hid (by have h := N4.out.call ga ka (short_acc _ N4.out.s); rw [acc_idle (show accB (bytes ⟨#[104, 111, 108, 101, 108, 101, 115, 115]⟩) ⟨[101, 113, 117, 97, 116, 101] :: r, false⟩ = false from rfl)] at h; exact h)
        have W5 := Lib.hid ((ka.block w5.heap.size (blk_lt W4.out) (fun e => by injection e; omega)).trans W4.out)
        clear ga ka cl ck
        rw [show accB (bytes ⟨#[104, 111, 108, 101, 108, 101, 115, 115]⟩) _ = false from rfl]
        go_wp2_with fail
        have cl : v5.cell? ⟨w5.heap.size, 6, none⟩ = some (.string ⟨#[101, 113, 117, 97, 116, 101]⟩) := Lib.cell_of_heap W5.out 6
        have ck : v5.cell? ⟨w4.heap.size, 0, none⟩ = some (.int .i64 0) := N5.out.q.cell 0
        rw [rounds_succ]
        go_wp2_with fail
        refine (ris_any w2.heap.size (w2.heap.size + 1) _ ⟨#[101, 113, 117, 97, 116, 101]⟩ _ N5.out.p).mono ?_
        rintro e v6 ⟨rfl, ga, ka⟩
        have N6 := Lib.hid (N5.out.call ga ka (short_acc _ N5.out.s))
        have W6 := Lib.hid ((ka.block w5.heap.size (blk_lt W5.out) (fun e => by injection e; omega)).trans W5.out)
        clear ga ka cl ck
        rw [show accB (bytes ⟨#[101, 113, 117, 97, 116, 101]⟩) _ = true from rfl]
        have cz : v6.cell? ⟨w4.heap.size, 0, none⟩ = some (.int .i64 0) := N6.out.q.cell 0
        have fz := N6.out.q.frz 0
        have K0 := Lib.hid (N6.out.put (j := 0) (q' := allQ { Qr.zero with kind := 6 }) (.int .i64 6) rfl)
        go_wp2_with fail
        rw [rounds_succ]
        go_wp2_with fail
        go_meet
        rw [e.out]
        exact K0.out
      · have e := Lib.hid (rKind_none (p := ⟨f :: r, false⟩) (by simp [nxtV, kindOf, kindGo, kindWords, n1, n2, n3, n4, n5, n6]))
        have m1 : Hid (accB (bytes ⟨#[100, 101, 108, 105, 118, 101, 114]⟩) ⟨f :: r, false⟩ = false) := Lib.hid (beq_eq_false_iff_ne.2 n1)
        have m2 : Hid (accB (bytes ⟨#[105, 115, 111, 108, 97, 116, 101]⟩) ⟨f :: r, false⟩ = false) := Lib.hid (beq_eq_false_iff_ne.2 n2)
        have m3 : Hid (accB (bytes ⟨#[116, 114, 97, 118, 101, 114, 115, 101]⟩) ⟨f :: r, false⟩ = false) := Lib.hid (beq_eq_false_iff_ne.2 n3)
        have m4 : Hid (accB (bytes ⟨#[108, 111, 111, 112, 108, 101, 115, 115]⟩) ⟨f :: r, false⟩ = false) := Lib.hid (beq_eq_false_iff_ne.2 n4)
        have m5 : Hid (accB (bytes ⟨#[104, 111, 108, 101, 108, 101, 115, 115]⟩) ⟨f :: r, false⟩ = false) := Lib.hid (beq_eq_false_iff_ne.2 n5)
        have m6 : Hid (accB (bytes ⟨#[101, 113, 117, 97, 116, 101]⟩) ⟨f :: r, false⟩ = false) := Lib.hid (beq_eq_false_iff_ne.2 n6)
        clear n1 n2 n3 n4 n5 n6
        go_wp2_with fail
        refine wp_loop_rounds 7 ?_
        have cl : w6.cell? ⟨w5.heap.size, 1, none⟩ = some (.string ⟨#[100, 101, 108, 105, 118, 101, 114]⟩) := Lib.cell_of_heap HW.out 1
        have ck : w6.cell? ⟨w4.heap.size, 0, none⟩ = some (.int .i64 0) := M0.out.q.cell 0
        rw [rounds_succ]
        go_wp2_with fail
        refine (ris_any w2.heap.size (w2.heap.size + 1) _ ⟨#[100, 101, 108, 105, 118, 101, 114]⟩ _ M0.out.p).mono ?_
        rintro e v1 ⟨rfl, ga, ka⟩
        have N1 : Hid (Md 75 w2.heap.size (w2.heap.size + 1) w4.heap.size w (allQ Qr.zero, ⟨f :: r, false⟩) v1) := Lib.hid (by have h := M0.out.call ga ka (short_acc _ M0.out.s); rw [acc_idle (show accB (bytes ⟨#[100, 101, 108, 105, 118, 101, 114]⟩) ⟨f :: r, false⟩ = false from m1.out)] at h; exact h)
        have W1 := Lib.hid ((ka.block w5.heap.size (blk_lt HW.out) (fun e => by injection e; omega)).trans HW.out)
        clear ga ka cl ck
        rw [show accB (bytes ⟨#[100, 101, 108, 105, 118, 101, 114]⟩) _ = false from m1.out]
        go_wp2_with fail
        have cl : v1.cell? ⟨w5.heap.size, 2, none⟩ = some (.string ⟨#[105, 115, 111, 108, 97, 116, 101]⟩) := Lib.cell_of_heap W1.out 2
        have ck : v1.cell? ⟨w4.heap.size, 0, none⟩ = some (.int .i64 0) := N1.out.q.cell 0
        rw [rounds_succ]
        go_wp2_with fail
        refine (ris_any w2.heap.size (w2.heap.size + 1) _ ⟨#[105, 115, 111, 108, 97, 116, 101]⟩ _ N1.out.p).mono ?_
        rintro e v2 ⟨rfl, ga, ka⟩
        have N2 : Hid (Md 75 w2.heap.size (w2.heap.size + 1) w4.heap.size w (allQ Qr.zero, ⟨f :: r, false⟩) v2) := Lib.hid (by have h := N1.out.call ga ka (short_acc _ N1.out.s); rw [acc_idle (show accB (bytes ⟨#[105, 115, 111, 108, 97, 116, 101]⟩) ⟨f :: r, false⟩ = false from m2.out)] at h; exact h)
        have W2 := Lib.hid ((ka.block w5.heap.size (blk_lt W1.out) (fun e => by injection e; omega)).trans W1.out)
        clear ga ka cl ck
        rw [show accB (bytes ⟨#[105, 115, 111, 108, 97, 116, 101]⟩) _ = false from m2.out]
        go_wp2_with fail
        have cl : v2.cell? ⟨w5.heap.size, 3, none⟩ = some (.string ⟨#[116, 114, 97, 118, 101, 114, 115, 101]⟩) := Lib.cell_of_heap W2.out 3
        have ck : v2.cell? ⟨w4.heap.size, 0, none⟩ = some (.int .i64 0) := N2.out.q.cell 0
        rw [rounds_succ]
        go_wp2_with fail
        refine (ris_any w2.heap.size (w2.heap.size + 1) _ ⟨#[116, 114, 97, 118, 101, 114, 115, 101]⟩ _ N2.out.p).mono ?_
        rintro e v3 ⟨rfl, ga, ka⟩
        have N3 : Hid (Md 75 w2.heap.size (w2.heap.size + 1) w4.heap.size w (allQ Qr.zero, ⟨f :: r, false⟩) v3) := Lib.hid (by have h := N2.out.call ga ka (short_acc _ N2.out.s); rw [acc_idle (show accB (bytes ⟨#[116, 114, 97, 118, 101, 114, 115, 101]⟩) ⟨f :: r, false⟩ = false from m3.out)] at h; exact h)
        have W3 := Lib.hid ((ka.block w5.heap.size (blk_lt W2.out) (fun e => by injection e; omega)).trans W2.out)
        clear ga ka cl ck
        rw [show accB (bytes ⟨#[116, 114, 97, 118, 101, 114, 115, 101]⟩) _ = false from m3.out]
        go_wp2_with fail
        have cl : v3.cell? ⟨w5.heap.size, 4, none⟩ = some (.string ⟨#[108, 111, 111, 112, 108, 101, 115, 115]⟩) := Lib.cell_of_heap W3.out 4
        have ck : v3.cell? ⟨w4.heap.size, 0, none⟩ = some (.int .i64 0) := N3.out.q.cell 0
        rw [rounds_succ]
        go_wp2_with fail
        refine (ris_any w2.heap.size (w2.heap.size + 1) _ ⟨#[108, 111, 111, 112, 108, 101, 115, 115]⟩ _ N3.out.p).mono ?_
        rintro e v4 ⟨rfl, ga, ka⟩
        have N4 : Hid (Md 75 w2.heap.size (w2.heap.size + 1) w4.heap.size w (allQ Qr.zero, ⟨f :: r, false⟩) v4) := Lib.hid (by have h := N3.out.call ga ka (short_acc _ N3.out.s); rw [acc_idle (show accB (bytes ⟨#[108, 111, 111, 112, 108, 101, 115, 115]⟩) ⟨f :: r, false⟩ = false from m4.out)] at h; exact h)
        have W4 := Lib.hid ((ka.block w5.heap.size (blk_lt W3.out) (fun e => by injection e; omega)).trans W3.out)
        clear ga ka cl ck
        rw [show accB (bytes ⟨#[108, 111, 111, 112, 108, 101, 115, 115]⟩) _ = false from m4.out]
        go_wp2_with fail
        have cl : v4.cell? ⟨w5.heap.size, 5, none⟩ = some (.string ⟨#[104, 111, 108, 101, 108, 101, 115, 115]⟩) := Lib.cell_of_heap W4.out 5
        have ck : v4.cell? ⟨w4.heap.size, 0, none⟩ = some (.int .i64 0) := N4.out.q.cell 0
        rw [rounds_succ]
        go_wp2_with fail
        refine (ris_any w2.heap.size (w2.heap.size + 1) _ ⟨#[104, 111, 108, 101, 108, 101, 115, 115]⟩ _ N4.out.p).mono ?_
        rintro e v5 ⟨rfl, ga, ka⟩
        have N5 : Hid (Md 75 w2.heap.size (w2.heap.size + 1) w4.heap.size w (allQ Qr.zero, ⟨f :: r, false⟩) v5) := Lib.hid (by have h := N4.out.call ga ka (short_acc _ N4.out.s); rw [acc_idle (show accB (bytes ⟨#[104, 111, 108, 101, 108, 101, 115, 115]⟩) ⟨f :: r, false⟩ = false from m5.out)] at h; exact h)
        have W5 := Lib.hid ((ka.block w5.heap.size (blk_lt W4.out) (fun e => by injection e; omega)).trans W4.out)
        clear ga ka cl ck
        rw [show accB (bytes ⟨#[104, 111, 108, 101, 108, 101, 115, 115]⟩) _ = false from m5.out]
        go_wp2_with fail
        have cl : v5.cell? ⟨w5.heap.size, 6, none⟩ = some (.string ⟨#[101, 113, 117, 97, 116, 101]⟩) := Lib.cell_of_heap W5.out 6
        have ck : v5.cell? ⟨w4.heap.size, 0, none⟩ = some (.int .i64 0) := N5.out.q.cell 0
        rw [rounds_succ]
        go_wp2_with fail
        refine (ris_any w2.heap.size (w2.heap.size + 1) _ ⟨#[101, 113, 117, 97, 116, 101]⟩ _ N5.out.p).mono ?_
        rintro e v6 ⟨rfl, ga, ka⟩
        have N6 : Hid (Md 75 w2.heap.size (w2.heap.size + 1) w4.heap.size w (allQ Qr.zero, ⟨f :: r, false⟩) v6) := Lib.hid (by have h := N5.out.call ga ka (short_acc _ N5.out.s); rw [acc_idle (show accB (bytes ⟨#[101, 113, 117, 97, 116, 101]⟩) ⟨f :: r, false⟩ = false from m6.out)] at h; exact h)
        have W6 := Lib.hid ((ka.block w5.heap.size (blk_lt W5.out) (fun e => by injection e; omega)).trans W5.out)
        clear ga ka cl ck
        rw [show accB (bytes ⟨#[101, 113, 117, 97, 116, 101]⟩) _ = false from m6.out]
        go_wp2_with fail
        rw [rounds_succ]
        go_wp2_with fail
        go_meet
        rw [e.out]
        exact N6.out
  case rest =>
  by_cases hk : kindOf (nxtV ⟨fs, false⟩) = 0
  case pos =>
    clear M0 HW hb1
    have MX := Lib.hid hcut
    clear hcut
    have E1 : Hid (parseE (bytes s) = 2) := Lib.hid (EK.out hk)
    rw [rKind_none hk] at MX
    clear hk
    have ck : wc.cell? ⟨w4.heap.size, 0, none⟩ = some (.int .i64 0) := MX.out.q.cell 0
    go_wp2_with (first | (refine wpList_storeQ (q' := Qr.zero) rfl _ _ rfl rfl rfl MX.out.r ?_; intro wz hz1 hz2))
    refine bodyPost_ret (results_cell2 rfl rfl rfl hz1.load) rfl (qpost E1.out (parseQ_bad E1.out (by decide)) ?_)
    exact MX.out.l.trans (below_of_grown hz2 (Nat.le_refl _) MX.out.l.size)
  have hF : Fin s (readOf ⟨fs, false⟩) := ⟨E0.out _ (readOf_eq hk).symm, fun h => E3.out _ h (readOf_eq hk).symm, by rw [readOf_eq hk]; exact queryOf_fit _⟩
  have hk0 : (rKind ⟨fs, false⟩).1.kind ≠ 0 := by rw [rKind_some hk]; exact hk
  rename_i K hK
  exact hK _ _ (rest8 s w w2.heap.size w4.heap.size (rKind ⟨fs, false⟩) _ hcut hF hk0 _ _ _ _ _ _ _ _ _ _ _ _ _ _ _ _ _ _ _ _ _ _ _ _ _ _ _ _ _ _ _ _ _ _ _ _ _ _ _ _ _ _ _ _ _ _ _ _ _ _ _ _ _ _ _ _ _ _ _ _ _ _ _ _ _ _ _ _ _ _ _ _ _ _ _ _ _ _ _ _ _ _ _ _ _ _ _ _ _ _ _ _ _ _ _ _ _ _ _ _ _ _ _ _ _ _ _ _ _ _ _ _ _ _ _ _ _ _ _ _ _ _ _ _ _ _ _ _ _ _ _ _ _ _ _ _ _ _ _ _ _ _ _ _ _ _ _ _ _ _ _ _ _ _ _ _ _ _ _ _ _ _ _ _ _ _ _)
end Go.Proofs.YtnhemjdmleilcaaDoor
