/- The walk of Format. Conditions: addresses are numbers below 2^32; Go's own tables and the words lie below the world's blocks (EnvB). -/
import Derived.Test.YtnhemjdmleilcaaGreatDoorQryM
import Derived.Deep.CutBlock
import Derived.Deep.DeepCutAuto
namespace Go.Proofs.YtnhemjdmleilcaaGreatDoor
open Go.RowKit

/-- What the walk of Format keeps: the query's block, all that was there before. -/
def FM (q : Qr) (w0 w : World) : Prop := HasQ w0.heap.size q w ∧ Below w0.heap.size w0 w
theorem FM.lt {q : Qr} {w0 w : World} (h : FM q w0 w) : w0.heap.size < w.heap.size := blk_lt h.1
theorem FM.keep {q : Qr} {w0 w w' : World} (h : FM q w0 w) (hb : Below w.heap.size w w') : FM q w0 w' :=
  ⟨h.1.below hb h.lt, h.2.trans (hb.mono (Nat.le_of_lt h.lt))⟩
theorem FM.drew {q : Qr} {w0 w : World} (h : FM q w0 w) : FM q w0 w.drew := h.keep (belowDrew _)
theorem FM.new {q : Qr} {w0 w : World} (h : FM q w0 w) (o : Obj) : FM q w0 (w.alloc o) := h.keep ((Below.refl _ _).alloc (Nat.le_refl _) _)
def FPost (q : Qr) (w : World) (e : Ending) (w' : World) : Prop := e = .returned (.tuple #[strV (fmtQ q), .int .i64 (validE q)]) ∧ Below w.heap.size w w'
theorem fpost {q : Qr} {w w' : World} {n : Int} {l : List UInt8} (h : validE q = n) (h2 : fmtQ q = l) (hb : Below w.heap.size w w') : FPost q w (.returned (.tuple #[.string (str l), .int .i64 n])) w' := ⟨by rw [h, h2]; rfl, hb⟩
theorem keepF4 {q : Qr} {w0 w w' : World} {a0 a1 a2 a3 : Addr} {v0 v1 v2 v3 : Value} (h : w.cell? a0 = some v0 ∧ w.cell? a1 = some v1 ∧ w.cell? a2 = some v2 ∧ w.cell? a3 = some v3 ∧ FM q w0 w) (hb : Below w.heap.size w w') : w'.cell? a0 = some v0 ∧ w'.cell? a1 = some v1 ∧ w'.cell? a2 = some v2 ∧ w'.cell? a3 = some v3 ∧ FM q w0 w' := by
  obtain ⟨h0, h1, h2, h3, hf⟩ := h
  exact ⟨(hb.cell (World.block_lt_of_cell? _ _ h0)).trans h0, (hb.cell (World.block_lt_of_cell? _ _ h1)).trans h1, (hb.cell (World.block_lt_of_cell? _ _ h2)).trans h2, (hb.cell (World.block_lt_of_cell? _ _ h3)).trans h3, hf.keep hb⟩

set_option maxRecDepth 100000 in
set_option maxHeartbeats 4000000 in
theorem qformat_any (q : Qr) (w : World) (hq : q.fit) (he : EnvB w.heap.size w) : Calls Tryz.prog 11 #[QV q] w (FPost q w) := by
  have H0 : Hid (FM q w (w.alloc (.cells (QC q) 33))) := Lib.hid ⟨heap_alloc_new w _, (Below.refl w.heap.size w).alloc (Nat.le_refl _) _⟩
  have HQ := Lib.hid hq
  have HE := Lib.hid he
  rw [QV_eq]
  by_cases hv : validE q = 0
  case neg =>
    have hn : (validE q != 0) = true := by simpa using hv
    have F0 : Hid (fmtQ q = []) := Lib.hid (by unfold fmtQ; rw [if_neg hv])
    clear hv he hq
    go_enter Tryz.func11, Tryz.ntmps11
    go_wp2_with (first | (refine wpList_loadQ rfl _ rfl rfl H0.out.1 ?_))
    refine (qvalid_any q _ HQ.out).mono ?_
    rintro e w1 ⟨rfl, hb⟩
    have H1 := Lib.hid (H0.out.keep hb)
    clear hb
    go_wp2_with fail
    go_ret2
    exact fpost rfl F0.out H1.out.2
  have O := Lib.hid (okq hv)
  have V := Lib.hid hv
  have F0 : Hid (fmtQ q = fm8 q) := Lib.hid (by unfold fmtQ; rw [if_pos hv])
  have EV : Hid (∀ w1, FM q w w1 → Env w1) := Lib.hid fun w1 h => he.1.below h.2
  clear hv he hq
  go_enter Tryz.func11, Tryz.ntmps11
  go_wp2_with (first | (refine wpList_loadQ rfl _ rfl rfl H0.out.1 ?_))
  refine (qvalid_any q _ HQ.out).mono ?_
  rintro e w1 ⟨rfl, hb⟩
  have H1 := Lib.hid (H0.out.keep hb)
  clear hb H0
  rw [V.out]
  go_upto_region 4 with fail
  go_cut [5] (fun s wx => s = .string (str (fm1 q)) ∧ FM q w wx)
  case first =>
    have P1 : Hid (∀ w1, Calls Tryz.prog 25 #[.string ⟨#[32, 102, 114, 111, 109, 32]⟩, .string (str q.fr), .string (str q.fi)] w1 fun e w' => e = .returned (.string (str (placeT bFrom q.fr q.fi))) ∧ w1 = w') := Lib.hid (fun w1 => place_any bFrom q.fr q.fi w1 (by simp [bFrom]) (Nat.le_trans (nameB_len O.out.fr) (by omega)) (Nat.le_trans (optB_len O.out.fi) (by omega)))
    have q1 : Op.stringOp .add (str (kindT q.kind)) (str (placeT bFrom q.fr q.fi)) = pure (.string (str (fm1 q))) := run_cat (by have := fm1_len O.out; unfold fm1 at this; rw [cat_len] at this; omega)
    obtain ⟨k, hk, hk6⟩ : ∃ k : Nat, q.kind - 1 = (k : Int) ∧ k < 6 := ⟨(q.kind - 1).toNat, by have := O.out.k1; omega, by have := O.out.k1; have := O.out.k2; omega⟩
    have cW : w1.cell? ⟨0, k, none⟩ = some (.string (str (kindT q.kind))) := by
      have hw : kindWords[k]? = some (kindT q.kind) := by unfold kindT; rw [hk, Int.toNat_natCast]; rcases k with _ | _ | _ | _ | _ | _ | k <;> first | rfl | omega
      exact (HE.out.keep H1.out.2).2.2.2.2 k _ hw
    have hwr : IntKind.i64.wrap (q.kind - 1) = (k : Int) := by rw [hk]; simp [IntKind.wrap, IntKind.signed, IntKind.bits]; omega
    have S0 : w1.cell? ⟨0, k, none⟩ = some (.string (str (kindT q.kind))) ∧ w1.cell? ⟨w.heap.size, 0, none⟩ = some (.int .i64 q.kind) ∧ w1.cell? ⟨w.heap.size, 1, none⟩ = some (.string (str q.fr)) ∧ w1.cell? ⟨w.heap.size, 2, none⟩ = some (.string (str q.fi)) ∧ FM q w w1 := ⟨cW, H1.out.1.cell 0, H1.out.1.cell 1, H1.out.1.cell 2, H1.out⟩
    have k0 : (0 : Int) ≤ (k : Int) := by omega
    have k6 : (k : Int) < 6 := by omega
    clear cW hk
    go_region_held3 (fun w' => w'.cell? ⟨0, k, none⟩ = some (.string (str (kindT q.kind))) ∧ w'.cell? ⟨w.heap.size, 0, none⟩ = some (.int .i64 q.kind) ∧ w'.cell? ⟨w.heap.size, 1, none⟩ = some (.string (str q.fr)) ∧ w'.cell? ⟨w.heap.size, 2, none⟩ = some (.string (str q.fi)) ∧ FM q w w') (first | assumption | exact keepF4 S0 (belowDrew _) | (refine keepF4 ?_ (by assumption); assumption)) (first | (go_at_call 25; with_reducible refine (P1.out _).mono ?_; rintro e w' ⟨rfl, rfl⟩))
    rename_i S1
    go_wp2_with fail
    go_meet
    exact ⟨rfl, S1.2.2.2.2⟩
  case rest =>
  obtain ⟨rfl, hF⟩ := hcut
  have H2 := Lib.hid hF
  clear hF H1
  have c0 : wc.cell? ⟨w.heap.size, 0, none⟩ = some (.int .i64 q.kind) := H2.out.1.cell 0
  go_wp2_with fail
  refine (aimed_any _ _).mono ?_
  rintro e w' ⟨rfl, rfl⟩
  clear c0
  go_upto_if 27 with fail
  go_cut [5] (fun s wx => s = .string (str (fm2 q)) ∧ FM q w wx)
  case first =>
    cases ha : aimedB q.kind with
    | true =>
      have E : Hid (fm2 q = cat (fm1 q) (placeT bTo q.tr q.ti)) := Lib.hid (if_pos ha)
      have q1 : Op.stringOp .add (str (fm1 q)) (str (placeT bTo q.tr q.ti)) = pure (.string (str (cat (fm1 q) (placeT bTo q.tr q.ti)))) := run_cat (by have := fm2_len O.out; rw [E.out, cat_len] at this; omega)
      have P1 : Hid (∀ w1, Calls Tryz.prog 25 #[.string ⟨#[32, 116, 111, 32]⟩, .string (str q.tr), .string (str q.ti)] w1 fun e w' => e = .returned (.string (str (placeT bTo q.tr q.ti))) ∧ w1 = w') := Lib.hid (fun w1 => place_any bTo q.tr q.ti w1 (by simp [bTo]) (Nat.le_trans O.out.tr15.1 (by omega)) (Nat.le_trans O.out.tr15.2 (by omega)))
      have c3 : wc.cell? ⟨w.heap.size, 3, none⟩ = some (.string (str q.tr)) := H2.out.1.cell 3
      have c4 : wc.cell? ⟨w.heap.size, 4, none⟩ = some (.string (str q.ti)) := H2.out.1.cell 4
      clear ha
      go_wp2_with fail
      refine (P1.out _).mono ?_
      rintro e w' ⟨rfl, rfl⟩
      go_wp2_with fail
      go_meet
      exact ⟨by rw [E.out], H2.out⟩
    | false =>
      have E : Hid (fm2 q = fm1 q) := Lib.hid (if_neg (by rw [ha]; simp))
      clear ha
      go_wp2_with fail
      go_meet
      exact ⟨by rw [E.out], H2.out⟩
  case rest =>
  obtain ⟨rfl, hF⟩ := hcut
  have H3 := Lib.hid hF
  clear hF H2
  have c0 : wc.cell? ⟨w.heap.size, 0, none⟩ = some (.int .i64 q.kind) := H3.out.1.cell 0
  go_upto_block 0 with fail
  go_cut [5] (fun s wx => s = .string (str (fm3 q)) ∧ FM q w wx)
  case first =>
    by_cases h3 : q.kind = 3
    · have E : Hid (fm3 q = cat (fm2 q) (cat bVia q.via)) := Lib.hid (if_pos h3)
      have q1 : Op.stringOp .add ⟨#[32, 118, 105, 97, 32]⟩ (str q.via) = pure (.string (str (cat bVia q.via))) := run_cat (l := bVia) (by have := fm3_len O.out; rw [E.out, cat_len, cat_len] at this; omega)
      have q2 : Op.stringOp .add (str (fm2 q)) (str (cat bVia q.via)) = pure (.string (str (cat (fm2 q) (cat bVia q.via)))) := run_cat (by have := fm3_len O.out; rw [E.out, cat_len] at this; omega)
      have d3 : (q.kind == 3) = true := by simpa using h3
      have c5 : wc.cell? ⟨w.heap.size, 5, none⟩ = some (.string (str q.via)) := H3.out.1.cell 5
      clear h3
      go_wp2_with fail
      go_meet
      exact ⟨by rw [E.out], H3.out⟩
    · have d3 : (q.kind == 3) = false := by simpa using h3
      by_cases h6 : q.kind = 6
      · have E : Hid (fm3 q = cat (fm2 q) (cat (cat (cat bLeft (pfxF q.la q.ll)) bRight) (pfxF q.ra q.rl))) := Lib.hid ((if_neg h3).trans (if_pos h6))
        have q1 : Op.stringOp .add ⟨#[32, 108, 101, 102, 116, 32]⟩ (str (pfxF q.la q.ll)) = pure (.string (str (cat bLeft (pfxF q.la q.ll)))) := run_cat (l := bLeft) (by have := fm3_len O.out; rw [E.out, cat_len, cat_len, cat_len, cat_len] at this; omega)
        have q2 : Op.stringOp .add (str (cat bLeft (pfxF q.la q.ll))) ⟨#[32, 114, 105, 103, 104, 116, 32]⟩ = pure (.string (str (cat (cat bLeft (pfxF q.la q.ll)) bRight))) := run_cat (m := bRight) (by have := fm3_len O.out; rw [E.out, cat_len, cat_len, cat_len] at this; omega)
        have q3 : Op.stringOp .add (str (cat (cat bLeft (pfxF q.la q.ll)) bRight)) (str (pfxF q.ra q.rl)) = pure (.string (str (cat (cat (cat bLeft (pfxF q.la q.ll)) bRight) (pfxF q.ra q.rl)))) := run_cat (by have := fm3_len O.out; rw [E.out, cat_len, cat_len] at this; omega)
        have q4 : Op.stringOp .add (str (fm2 q)) (str (cat (cat (cat bLeft (pfxF q.la q.ll)) bRight) (pfxF q.ra q.rl))) = pure (.string (str (cat (fm2 q) (cat (cat (cat bLeft (pfxF q.la q.ll)) bRight) (pfxF q.ra q.rl))))) := run_cat (by have := fm3_len O.out; rw [E.out, cat_len] at this; omega)
        have d6 : (q.kind == 6) = true := by simpa using h6
        have PL : Hid (∀ w1, FM q w w1 → Calls Tryz.prog 27 #[.agg #[.int .u32 (q.la : Int), .int .i64 q.ll]] w1 fun e w' => e = .returned (.string (str (pfxF q.la q.ll))) ∧ Below w1.heap.size w1 w') := Lib.hid (fun w1 h => formatPrefix_any q.la q.ll w1 HQ.out.1 (EV.out _ h))
        have PR : Hid (∀ w1, FM q w w1 → Calls Tryz.prog 27 #[.agg #[.int .u32 (q.ra : Int), .int .i64 q.rl]] w1 fun e w' => e = .returned (.string (str (pfxF q.ra q.rl))) ∧ Below w1.heap.size w1 w') := Lib.hid (fun w1 h => formatPrefix_any q.ra q.rl w1 HQ.out.2.1 (EV.out _ h))
        have S0 : wc.cell? ⟨w.heap.size, 6, none⟩ = some (.int .u32 (q.la : Int)) ∧ wc.cell? ⟨w.heap.size, 7, none⟩ = some (.int .i64 q.ll) ∧ wc.cell? ⟨w.heap.size, 8, none⟩ = some (.int .u32 (q.ra : Int)) ∧ wc.cell? ⟨w.heap.size, 9, none⟩ = some (.int .i64 q.rl) ∧ FM q w wc := ⟨H3.out.1.cell 6, H3.out.1.cell 7, H3.out.1.cell 8, H3.out.1.cell 9, H3.out⟩
        clear h3 h6
        go_wp2_with fail
        go_region_held3 (fun w' => w'.cell? ⟨w.heap.size, 6, none⟩ = some (.int .u32 (q.la : Int)) ∧ w'.cell? ⟨w.heap.size, 7, none⟩ = some (.int .i64 q.ll) ∧ w'.cell? ⟨w.heap.size, 8, none⟩ = some (.int .u32 (q.ra : Int)) ∧ w'.cell? ⟨w.heap.size, 9, none⟩ = some (.int .i64 q.rl) ∧ FM q w w') (first | assumption | exact keepF4 S0 (belowDrew _) | (refine keepF4 ?_ (by assumption); assumption)) (first | (go_at_call 27; with_reducible refine (PL.out _ (And.right (And.right (And.right (And.right (by assumption)))))).mono ?_; rintro e w' ⟨rfl, hb⟩) | (go_at_call 27; with_reducible refine (PR.out _ (And.right (And.right (And.right (And.right (by assumption)))))).mono ?_; rintro e w' ⟨rfl, hb⟩))
        rename_i S1
        clear S0
        go_wp2_with fail
        go_meet
        exact ⟨by rw [E.out], S1.2.2.2.2⟩
      · have E : Hid (fm3 q = fm2 q) := Lib.hid ((if_neg h3).trans (if_neg h6))
        have d6 : (q.kind == 6) = false := by simpa using h6
        clear h3 h6
        go_wp2_with fail
        go_meet
        exact ⟨by rw [E.out], H3.out⟩
  case rest =>
  obtain ⟨rfl, hF⟩ := hcut
  have H4 := Lib.hid hF
  clear hF H3 c0
  have c10 : wc.cell? ⟨w.heap.size, 10, none⟩ = some (.int .u32 (q.sa : Int)) := H4.out.1.cell 10
  have c11 : wc.cell? ⟨w.heap.size, 11, none⟩ = some (.int .i64 q.sl) := H4.out.1.cell 11
  have g := Tryz.pfxGuard
  have HW := Lib.hid (fun (o : Obj) => FM.new H4.out o)
  have r : ∀ w, (binOp .neq 27 (.agg #[.int .u32 (q.sa : Int), .int .i64 q.sl]) (.agg #[.int .u32 0, .int .i64 0])).run Tryz.prog w = .ok (.bool (!zeroP q.sa q.sl)) w := fun w => (pfx_neq q.sa 0 q.sl 0 w).trans (by rw [show decide (q.sa = 0 ∧ q.sl = 0) = zeroP q.sa q.sl from by rw [Bool.eq_iff_iff]; simp [zeroP]])
  go_upto_if 62 with fail
  go_cut [5] (fun s wx => s = .string (str (fm4 q)) ∧ FM q w wx)
  case first =>
    cases hz : zeroP q.sa q.sl with
    | true =>
      have E : Hid (fm4 q = fm3 q) := Lib.hid (if_pos hz)
      clear hz
      go_wp2_with fail
      go_meet
      exact ⟨by rw [E.out], HW.out _⟩
    | false =>
      have E : Hid (fm4 q = cat (fm3 q) (cat bSrc (pfxF q.sa q.sl))) := Lib.hid (if_neg (by rw [hz]; simp))
      have q1 : Op.stringOp .add ⟨#[32, 115, 114, 99, 32]⟩ (str (pfxF q.sa q.sl)) = pure (.string (str (cat bSrc (pfxF q.sa q.sl)))) := run_cat (l := bSrc) (by have := fm4_len O.out; rw [E.out, cat_len, cat_len] at this; omega)
      have q2 : Op.stringOp .add (str (fm3 q)) (str (cat bSrc (pfxF q.sa q.sl))) = pure (.string (str (cat (fm3 q) (cat bSrc (pfxF q.sa q.sl))))) := run_cat (by have := fm4_len O.out; rw [E.out, cat_len] at this; omega)
      have PL : Hid (∀ w1, FM q w w1 → Calls Tryz.prog 27 #[.agg #[.int .u32 (q.sa : Int), .int .i64 q.sl]] w1 fun e w' => e = .returned (.string (str (pfxF q.sa q.sl))) ∧ Below w1.heap.size w1 w') := Lib.hid (fun w1 h => formatPrefix_any q.sa q.sl w1 HQ.out.2.2.1 (EV.out _ h))
      clear hz
      go_wp2_with fail
      refine (PL.out _ (HW.out _)).mono ?_
      rintro e w2 ⟨rfl, hb⟩
      have H9 := Lib.hid ((HW.out _).keep hb)
      clear hb
      go_wp2_with fail
      go_meet
      exact ⟨by rw [E.out], H9.out⟩
  case rest =>
  clear HW r g c10 c11
  obtain ⟨rfl, hF⟩ := hcut
  have H5 := Lib.hid hF
  clear hF H4
  have c12 : wc.cell? ⟨w.heap.size, 12, none⟩ = some (.int .u32 (q.da : Int)) := H5.out.1.cell 12
  have c13 : wc.cell? ⟨w.heap.size, 13, none⟩ = some (.int .i64 q.dl) := H5.out.1.cell 13
  have g := Tryz.pfxGuard
  have HW := Lib.hid (fun (o : Obj) => FM.new H5.out o)
  have r : ∀ w, (binOp .neq 27 (.agg #[.int .u32 (q.da : Int), .int .i64 q.dl]) (.agg #[.int .u32 0, .int .i64 0])).run Tryz.prog w = .ok (.bool (!zeroP q.da q.dl)) w := fun w => (pfx_neq q.da 0 q.dl 0 w).trans (by rw [show decide (q.da = 0 ∧ q.dl = 0) = zeroP q.da q.dl from by rw [Bool.eq_iff_iff]; simp [zeroP]])
  go_upto_if 73 with fail
  go_cut [5] (fun s wx => s = .string (str (fm5 q)) ∧ FM q w wx)
  case first =>
    cases hz : zeroP q.da q.dl with
    | true =>
      have E : Hid (fm5 q = fm4 q) := Lib.hid (if_pos hz)
      clear hz
      go_wp2_with fail
      go_meet
      exact ⟨by rw [E.out], HW.out _⟩
    | false =>
      have E : Hid (fm5 q = cat (fm4 q) (cat bDst (pfxF q.da q.dl))) := Lib.hid (if_neg (by rw [hz]; simp))
      have q1 : Op.stringOp .add ⟨#[32, 100, 115, 116, 32]⟩ (str (pfxF q.da q.dl)) = pure (.string (str (cat bDst (pfxF q.da q.dl)))) := run_cat (l := bDst) (by have := fm5_len O.out; rw [E.out, cat_len, cat_len] at this; omega)
      have q2 : Op.stringOp .add (str (fm4 q)) (str (cat bDst (pfxF q.da q.dl))) = pure (.string (str (cat (fm4 q) (cat bDst (pfxF q.da q.dl))))) := run_cat (by have := fm5_len O.out; rw [E.out, cat_len] at this; omega)
      have PL : Hid (∀ w1, FM q w w1 → Calls Tryz.prog 27 #[.agg #[.int .u32 (q.da : Int), .int .i64 q.dl]] w1 fun e w' => e = .returned (.string (str (pfxF q.da q.dl))) ∧ Below w1.heap.size w1 w') := Lib.hid (fun w1 h => formatPrefix_any q.da q.dl w1 HQ.out.2.2.2 (EV.out _ h))
      clear hz
      go_wp2_with fail
      refine (PL.out _ (HW.out _)).mono ?_
      rintro e w2 ⟨rfl, hb⟩
      have H9 := Lib.hid ((HW.out _).keep hb)
      clear hb
      go_wp2_with fail
      go_meet
      exact ⟨by rw [E.out], H9.out⟩
  case rest =>
  clear HW r g c12 c13
  obtain ⟨rfl, hF⟩ := hcut
  have H6 := Lib.hid hF
  clear hF H5
  have c14 : wc.cell? ⟨w.heap.size, 14, none⟩ = some (.int .i64 q.proto) := H6.out.1.cell 14
  go_upto_if 83 with fail
  go_cut [5] (fun s wx => s = .string (str (fm6 q)) ∧ FM q w wx)
  case first =>
    by_cases hz : q.proto = -1
    · have E : Hid (fm6 q = fm5 q) := Lib.hid (if_pos hz)
      have n1 : (q.proto != -1) = false := by simpa using hz
      clear hz
      go_wp2_with fail
      go_meet
      exact ⟨by rw [E.out], H6.out⟩
    · have E : Hid (fm6 q = cat (fm5 q) (cat bProto (dec q.proto.toNat))) := Lib.hid (if_neg hz)
      have n1 : (q.proto != -1) = true := by simpa using hz
      have q1 : Op.stringOp .add ⟨#[32, 112, 114, 111, 116, 111, 32]⟩ (str (dec q.proto.toNat)) = pure (.string (str (cat bProto (dec q.proto.toNat)))) := run_cat (l := bProto) (by have := fm6_len O.out; rw [E.out, cat_len, cat_len] at this; omega)
      have q2 : Op.stringOp .add (str (fm5 q)) (str (cat bProto (dec q.proto.toNat))) = pure (.string (str (cat (fm5 q) (cat bProto (dec q.proto.toNat))))) := run_cat (by have := fm6_len O.out; rw [E.out, cat_len] at this; omega)
      have PL : Hid (∀ w1, FM q w w1 → Calls Tryz.prog 28 #[.int .i64 q.proto] w1 fun e w' => e = .returned (.string (str (dec q.proto.toNat))) ∧ Below w1.heap.size w1 w') := Lib.hid (fun w1 h => by
        have h1 := O.out.p1
        have h2 := O.out.p2
        have := itoaN q.proto.toNat (by omega) w1 (EV.out _ h)
        rwa [Int.toNat_of_nonneg (by omega)] at this)
      clear hz
      go_wp2_with fail
      refine (PL.out _ H6.out).mono ?_
      rintro e w2 ⟨rfl, hb⟩
      have H9 := Lib.hid (H6.out.keep hb)
      clear hb
      go_wp2_with fail
      go_meet
      exact ⟨by rw [E.out], H9.out⟩
  case rest =>
  obtain ⟨rfl, hF⟩ := hcut
  have H7 := Lib.hid hF
  clear hF H6 c14
  go_upto_region 21 with fail
  go_cut [5] (fun s wx => s = .string (str (fm7 q)) ∧ FM q w wx)
  case first =>
    have q1 : Op.stringOp .add (str (portT bSport q.slo q.shi)) (str (portT bDport q.dlo q.dhi)) = pure (.string (str (cat (portT bSport q.slo q.shi) (portT bDport q.dlo q.dhi)))) := run_cat (by have := fm7_len O.out; unfold fm7 at this; rw [cat_len, cat_len] at this; omega)
    have q2 : Op.stringOp .add (str (fm6 q)) (str (cat (portT bSport q.slo q.shi) (portT bDport q.dlo q.dhi))) = pure (.string (str (fm7 q))) := run_cat (by have := fm7_len O.out; unfold fm7 at this; rw [cat_len] at this; omega)
    have PL : Hid (∀ w1, FM q w w1 → Calls Tryz.prog 29 #[.string ⟨#[32, 115, 112, 111, 114, 116, 32]⟩, .agg #[.int .i64 q.slo, .int .i64 q.shi]] w1 fun e w' => e = .returned (.string (str (portT bSport q.slo q.shi))) ∧ Below w1.heap.size w1 w') := Lib.hid (fun w1 h => by
      have h1 := O.out.s1
      have h2 := O.out.s2
      have h3 := O.out.s3
      have := ports_any bSport q.slo.toNat q.shi.toNat w1 (EV.out _ h) (by simp [bSport]) (by omega) (by omega)
      rwa [Int.toNat_of_nonneg h1, Int.toNat_of_nonneg (by omega)] at this)
    have PR : Hid (∀ w1, FM q w w1 → Calls Tryz.prog 29 #[.string ⟨#[32, 100, 112, 111, 114, 116, 32]⟩, .agg #[.int .i64 q.dlo, .int .i64 q.dhi]] w1 fun e w' => e = .returned (.string (str (portT bDport q.dlo q.dhi))) ∧ Below w1.heap.size w1 w') := Lib.hid (fun w1 h => by
      have h1 := O.out.d1
      have h2 := O.out.d2
      have h3 := O.out.d3
      have := ports_any bDport q.dlo.toNat q.dhi.toNat w1 (EV.out _ h) (by simp [bDport]) (by omega) (by omega)
      rwa [Int.toNat_of_nonneg h1, Int.toNat_of_nonneg (by omega)] at this)
    have S0 : wc.cell? ⟨w.heap.size, 15, none⟩ = some (.int .i64 q.slo) ∧ wc.cell? ⟨w.heap.size, 16, none⟩ = some (.int .i64 q.shi) ∧ wc.cell? ⟨w.heap.size, 17, none⟩ = some (.int .i64 q.dlo) ∧ wc.cell? ⟨w.heap.size, 18, none⟩ = some (.int .i64 q.dhi) ∧ FM q w wc := ⟨H7.out.1.cell 15, H7.out.1.cell 16, H7.out.1.cell 17, H7.out.1.cell 18, H7.out⟩
    go_region_held3 (fun w' => w'.cell? ⟨w.heap.size, 15, none⟩ = some (.int .i64 q.slo) ∧ w'.cell? ⟨w.heap.size, 16, none⟩ = some (.int .i64 q.shi) ∧ w'.cell? ⟨w.heap.size, 17, none⟩ = some (.int .i64 q.dlo) ∧ w'.cell? ⟨w.heap.size, 18, none⟩ = some (.int .i64 q.dhi) ∧ FM q w w') (first | assumption | exact keepF4 S0 (belowDrew _) | (refine keepF4 ?_ (by assumption); assumption)) (first | (go_at_call 29; with_reducible refine (PL.out _ (And.right (And.right (And.right (And.right (by assumption)))))).mono ?_; rintro e w' ⟨rfl, hb⟩) | (go_at_call 29; with_reducible refine (PR.out _ (And.right (And.right (And.right (And.right (by assumption)))))).mono ?_; rintro e w' ⟨rfl, hb⟩))
    rename_i S1
    clear S0
    go_wp2_with fail
    go_meet
    exact ⟨rfl, S1.2.2.2.2⟩
  case rest =>
  obtain ⟨rfl, hF⟩ := hcut
  have H8 := Lib.hid hF
  clear hF H7
  have c19 : wc.cell? ⟨w.heap.size, 19, none⟩ = some (.int .i64 q.fails) := H8.out.1.cell 19
  go_upto_if 102 with fail
  go_cut [5] (fun s wx => s = .string (str (fm8 q)) ∧ FM q w wx)
  case first =>
    by_cases hz : q.fails = 0
    · have E : Hid (fm8 q = fm7 q) := Lib.hid (if_pos hz)
      have n1 : (q.fails != 0) = false := by simpa using hz
      clear hz
      go_wp2_with fail
      go_meet
      exact ⟨by rw [E.out], H8.out⟩
    · have E : Hid (fm8 q = cat (fm7 q) (cat bFails (dec q.fails.toNat))) := Lib.hid (if_neg hz)
      have n1 : (q.fails != 0) = true := by simpa using hz
      have q1 : Op.stringOp .add ⟨#[32, 102, 97, 105, 108, 117, 114, 101, 115, 32]⟩ (str (dec q.fails.toNat)) = pure (.string (str (cat bFails (dec q.fails.toNat)))) := run_cat (l := bFails) (by have := fm8_len O.out; rw [E.out, cat_len, cat_len] at this; omega)
      have q2 : Op.stringOp .add (str (fm7 q)) (str (cat bFails (dec q.fails.toNat))) = pure (.string (str (cat (fm7 q) (cat bFails (dec q.fails.toNat))))) := run_cat (by have := fm8_len O.out; rw [E.out, cat_len] at this; omega)
      have PL : Hid (∀ w1, FM q w w1 → Calls Tryz.prog 28 #[.int .i64 q.fails] w1 fun e w' => e = .returned (.string (str (dec q.fails.toNat))) ∧ Below w1.heap.size w1 w') := Lib.hid (fun w1 h => by
        have h1 := O.out.f1
        have h2 := O.out.f2
        have := itoaN q.fails.toNat (by omega) w1 (EV.out _ h)
        rwa [Int.toNat_of_nonneg (by omega)] at this)
      clear hz
      go_wp2_with fail
      refine (PL.out _ H8.out).mono ?_
      rintro e w2 ⟨rfl, hb⟩
      have H9 := Lib.hid (H8.out.keep hb)
      clear hb
      go_wp2_with fail
      go_meet
      exact ⟨by rw [E.out], H9.out⟩
  case rest =>
  obtain ⟨rfl, hF⟩ := hcut
  go_wp2_with fail
  go_ret2
  exact fpost V.out F0.out hF.2
end Go.Proofs.YtnhemjdmleilcaaGreatDoor
